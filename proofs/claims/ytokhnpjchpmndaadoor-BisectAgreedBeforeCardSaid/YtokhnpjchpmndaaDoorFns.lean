/-
  The translations of this seat's functions into pure code, each with the kernel's word that it is the translation. Written by a program (gen.py).
  Conditions: none.
-/
import Derived.Test.YtokhnpjchpmndaaDoorEngR
import Derived.KernelRfl
import Derived.Test.YtokhnpjchpmndaaDoorBsZ
namespace Go.Proofs.YtokhnpjchpmndaaDoor.PI
open Go

/-! wagonpool/wagonpoollaw38.BisectAgreedBefore -/
def F_wagonpoollaw38_BisectAgreedBefore_L0 : PC :=
  .seq (.seq (.ops [{ dst := some 31, op := .mov (.s 7) },
      { dst := some 32, op := .bin .lss (.s 31) (.c (.int .i64 5)) },
      { dst := some 33, op := .mov (.s 32) },
      { dst := some 34, op := .mov (.s 6), guard := some (33, true) },
      { dst := some 35, op := .bin .eql (.s 34) (.c (.int .i64 0)), guard := some (33, true) },
      { dst := some 36, op := .pick (.s 33) (.s 35) (.c (.bool false)) },
      { dst := some 37, op := .mov (.s 36) },
      { dst := some 38, op := .fld 1 (.s 5), guard := some (37, true) },
      { dst := some 39, op := .load 1 false (.s 38), guard := some (37, true) },
      { dst := some 40, op := .bin .gtr (.s 39) (.c (.int .i64 0)), guard := some (37, true) },
      { dst := some 41, op := .pick (.s 37) (.s 40) (.c (.bool false)) }])
    (.cond (.s 41)
      (.skip)
      (.exit 0)))
    (.seq (.block 1 (.seq (.ops [{ dst := some 45, op := .load 198 true (.s 5) },
        { dst := some 46, op := .mov (.s 0) },
        { dst := some 47, op := .mov (.s 1) },
        { dst := some 48, op := .call 15 [(.s 45), (.s 46), (.s 47), (.c (.int .i64 0))] },
        { dst := some 44, op := .mov (.s 48) },
        { dst := some 49, op := .ext (.s 44) 0 },
        { dst := some 50, op := .ext (.s 44) 1 },
        { dst := some 8, op := .box (.c (.agg (bisC zeroBis))) },
        { dst := none, op := .stor 198 (.s 8) (.s 49) },
        { dst := some 9, op := .mov (.s 50) }])
      (.seq (.seq (.ops [{ dst := some 51, op := .mov (.s 9) },
        { dst := some 52, op := .un .not (.s 51) }])
      (.cond (.s 52)
        (.seq (.ops [{ dst := some 4, op := .mov (.c (.bool false)) }])
        (.ret))
        (.skip)))
      (.ops [{ dst := some 53, op := .load 198 true (.s 8) },
        { dst := none, op := .stor 198 (.s 5) (.s 53) }]))))
    (.ops [{ dst := some 42, op := .mov (.s 7) },
      { dst := some 43, op := .bin .add (.s 42) (.c (.int .i64 1)) },
      { dst := some 7, op := .mov (.s 43) }]))

def F_wagonpoollaw38_BisectAgreedBefore : PF :=
  .mk
    (.seq (.ops [{ dst := some 4, op := .mov (.c (.bool false)) }])
      (.seq (.seq (.ops [{ dst := some 17, op := .call 11 [] },
        { dst := some 18, op := .un .not (.s 17) }])
      (.cond (.s 18)
        (.seq (.ops [{ dst := some 4, op := .mov (.c (.bool false)) }])
        (.ret))
        (.skip)))
      (.seq (.seq (.ops [{ dst := some 19, op := .mov (.s 0) },
        { dst := some 20, op := .mov (.s 1) },
        { dst := some 21, op := .call 12 [(.s 19), (.s 20)] },
        { dst := some 22, op := .un .not (.s 21) }])
      (.cond (.s 22)
        (.seq (.ops [{ dst := some 4, op := .mov (.c (.bool true)) }])
        (.ret))
        (.skip)))
      (.seq (.ops [{ dst := some 24, op := .mov (.s 0) },
        { dst := some 25, op := .call 14 [(.s 24)] },
        { dst := some 26, op := .mov (.s 1) },
        { dst := some 27, op := .call 14 [(.s 26)] },
        { dst := some 28, op := .call 13 [(.s 25), (.s 27)] },
        { dst := some 23, op := .mov (.s 28) },
        { dst := some 29, op := .ext (.s 23) 0 },
        { dst := some 30, op := .ext (.s 23) 1 },
        { dst := some 5, op := .box (.c (.agg (bisC zeroBis))) },
        { dst := none, op := .stor 198 (.s 5) (.s 29) },
        { dst := some 6, op := .mov (.s 30) }])
      (.seq (.seq (.ops [{ dst := some 7, op := .mov (.c (.int .i64 0)) }])
      (.block 0 (.loop [0, 1, 5, 6, 7] F_wagonpoollaw38_BisectAgreedBefore_L0)))
      (.seq (.ops [{ dst := some 55, op := .load 198 true (.s 5) },
        { dst := some 56, op := .call 16 [(.s 55)] },
        { dst := some 54, op := .mov (.s 56) },
        { dst := some 57, op := .ext (.s 54) 0 },
        { dst := some 58, op := .ext (.s 54) 1 },
        { dst := some 59, op := .ext (.s 54) 2 },
        { dst := some 11, op := .box (.c (.agg zD2)) },
        { dst := some 10, op := .mov (.s 57) },
        { dst := none, op := .stor 64 (.s 11) (.s 58) },
        { dst := some 12, op := .mov (.s 59) }])
      (.seq (.seq (.ops [{ dst := some 60, op := .mov (.s 6) },
        { dst := some 61, op := .bin .neq (.s 60) (.c (.int .i64 0)) },
        { dst := some 62, op := .mov (.s 61) },
        { dst := some 63, op := .mov (.s 12), guard := some (62, false) },
        { dst := some 64, op := .un .not (.s 63), guard := some (62, false) },
        { dst := some 65, op := .pick (.s 62) (.c (.bool true)) (.s 64) },
        { dst := some 66, op := .mov (.s 65) },
        { dst := some 67, op := .mov (.s 10), guard := some (66, false) },
        { dst := some 68, op := .bin .lss (.s 67) (.c (.int .i64 1)), guard := some (66, false) },
        { dst := some 69, op := .pick (.s 66) (.c (.bool true)) (.s 68) },
        { dst := some 70, op := .mov (.s 69) },
        { dst := some 71, op := .mov (.s 10), guard := some (70, false) },
        { dst := some 72, op := .mov (.s 0), guard := some (70, false) },
        { dst := some 73, op := .len false (.s 72), guard := some (70, false) },
        { dst := some 74, op := .bin .gtr (.s 71) (.s 73), guard := some (70, false) },
        { dst := some 75, op := .pick (.s 70) (.c (.bool true)) (.s 74) },
        { dst := some 76, op := .mov (.s 75) },
        { dst := some 77, op := .mov (.s 10), guard := some (76, false) },
        { dst := some 78, op := .mov (.s 1), guard := some (76, false) },
        { dst := some 79, op := .len false (.s 78), guard := some (76, false) },
        { dst := some 80, op := .bin .gtr (.s 77) (.s 79), guard := some (76, false) },
        { dst := some 81, op := .pick (.s 76) (.c (.bool true)) (.s 80) },
        { dst := some 82, op := .mov (.s 81) },
        { dst := some 83, op := .mov (.s 0), guard := some (82, false) },
        { dst := some 84, op := .mov (.s 1), guard := some (82, false) },
        { dst := some 85, op := .call 17 [(.s 83), (.s 84)], guard := some (82, false) },
        { dst := some 86, op := .pick (.s 82) (.c (.bool true)) (.s 85) }])
      (.cond (.s 86)
        (.seq (.ops [{ dst := some 87, op := .mov (.s 6) },
          { dst := some 88, op := .bin .eql (.s 87) (.c (.int .i64 380)) },
          { dst := some 89, op := .mov (.s 88) },
          { dst := some 90, op := .mov (.s 6), guard := some (89, false) },
          { dst := some 91, op := .bin .eql (.s 90) (.c (.int .i64 0)), guard := some (89, false) },
          { dst := some 92, op := .mov (.s 91), guard := some (89, false) },
          { dst := some 93, op := .mov (.s 12), guard := some (92, true) },
          { dst := some 94, op := .pick (.s 92) (.s 93) (.c (.bool false)), guard := some (89, false) },
          { dst := some 95, op := .pick (.s 89) (.c (.bool true)) (.s 94) },
          { dst := some 4, op := .mov (.s 95) }])
        (.ret))
        (.skip)))
      (.seq (.ops [{ dst := some 97, op := .mov (.s 0) },
        { dst := some 98, op := .mov (.s 10) },
        { dst := some 99, op := .bin .sub (.s 98) (.c (.int .i64 1)) },
        { dst := some 100, op := .call 18 [(.s 97), (.s 99)] },
        { dst := some 96, op := .mov (.s 100) },
        { dst := some 101, op := .ext (.s 96) 0 },
        { dst := some 102, op := .ext (.s 96) 1 },
        { dst := some 13, op := .mov (.s 101) },
        { dst := some 14, op := .mov (.s 102) }])
      (.seq (.ops [{ dst := some 104, op := .mov (.s 1) },
        { dst := some 105, op := .mov (.s 10) },
        { dst := some 106, op := .bin .sub (.s 105) (.c (.int .i64 1)) },
        { dst := some 107, op := .call 18 [(.s 104), (.s 106)] },
        { dst := some 103, op := .mov (.s 107) },
        { dst := some 108, op := .ext (.s 103) 0 },
        { dst := some 109, op := .ext (.s 103) 1 },
        { dst := some 15, op := .mov (.s 108) },
        { dst := some 16, op := .mov (.s 109) }])
      (.seq (.ops [{ dst := some 110, op := .mov (.s 14) },
        { dst := some 111, op := .bin .eql (.s 110) (.c (.int .i64 0)) },
        { dst := some 112, op := .mov (.s 111) },
        { dst := some 113, op := .mov (.s 16), guard := some (112, true) },
        { dst := some 114, op := .bin .eql (.s 113) (.c (.int .i64 0)), guard := some (112, true) },
        { dst := some 115, op := .pick (.s 112) (.s 114) (.c (.bool false)) },
        { dst := some 116, op := .mov (.s 115) },
        { dst := some 117, op := .mov (.s 0), guard := some (116, true) },
        { dst := some 118, op := .call 14 [(.s 117)], guard := some (116, true) },
        { dst := some 119, op := .mov (.s 10), guard := some (116, true) },
        { dst := some 120, op := .bin .sub (.s 119) (.c (.int .i64 1)), guard := some (116, true) },
        { dst := some 121, op := .mov (.s 0), guard := some (116, true) },
        { dst := some 122, op := .mov (.s 10), guard := some (116, true) },
        { dst := some 123, op := .bin .sub (.s 122) (.c (.int .i64 1)), guard := some (116, true) },
        { dst := some 124, op := .idxS 32 (.s 121) (.s 123), guard := some (116, true) },
        { dst := some 125, op := .load 32 true (.s 124), guard := some (116, true) },
        { dst := some 126, op := .mov (.s 13), guard := some (116, true) },
        { dst := some 127, op := .call 19 [(.s 118), (.s 120), (.s 125), (.s 126)], guard := some (116, true) },
        { dst := some 128, op := .pick (.s 116) (.s 127) (.c (.bool false)) },
        { dst := some 129, op := .mov (.s 128) },
        { dst := some 130, op := .mov (.s 1), guard := some (129, true) },
        { dst := some 131, op := .call 14 [(.s 130)], guard := some (129, true) },
        { dst := some 132, op := .mov (.s 10), guard := some (129, true) },
        { dst := some 133, op := .bin .sub (.s 132) (.c (.int .i64 1)), guard := some (129, true) },
        { dst := some 134, op := .mov (.s 0), guard := some (129, true) },
        { dst := some 135, op := .mov (.s 10), guard := some (129, true) },
        { dst := some 136, op := .bin .sub (.s 135) (.c (.int .i64 1)), guard := some (129, true) },
        { dst := some 137, op := .idxS 32 (.s 134) (.s 136), guard := some (129, true) },
        { dst := some 138, op := .load 32 true (.s 137), guard := some (129, true) },
        { dst := some 139, op := .mov (.s 15), guard := some (129, true) },
        { dst := some 140, op := .call 19 [(.s 131), (.s 133), (.s 138), (.s 139)], guard := some (129, true) },
        { dst := some 141, op := .pick (.s 129) (.s 140) (.c (.bool false)) },
        { dst := some 4, op := .mov (.s 141) }])
      (.ret)))))))))))
    [.tmp 4]
theorem tr_wagonpoollaw38_BisectAgreedBefore : trF Tryd.prog [39] 3 [[0, 1, 5, 6, 7]] = some F_wagonpoollaw38_BisectAgreedBefore := by kernel_rfl

/-! wagonpool/wagonpoollaw38.BisectAnswerMatchesReference -/
def F_wagonpoollaw38_BisectAnswerMatchesReference : PF :=
  .mk
    (.seq (.ops [{ dst := some 3, op := .box (.s 1) },
        { dst := some 4, op := .mov (.c (.bool false)) }])
      (.seq (.seq (.ops [{ dst := some 11, op := .call 11 [] },
        { dst := some 12, op := .un .not (.s 11) }])
      (.cond (.s 12)
        (.seq (.ops [{ dst := some 4, op := .mov (.c (.bool false)) }])
        (.ret))
        (.skip)))
      (.seq (.seq (.ops [{ dst := some 13, op := .mov (.s 0) },
        { dst := some 14, op := .len false (.s 13) },
        { dst := some 15, op := .bin .gtr (.s 14) (.c (.int .i64 20)) }])
      (.cond (.s 15)
        (.seq (.ops [{ dst := some 4, op := .mov (.c (.bool true)) }])
        (.ret))
        (.skip)))
      (.seq (.ops [{ dst := some 17, op := .mov (.s 0) },
        { dst := some 18, op := .load 198 true (.s 3) },
        { dst := some 19, op := .call 20 [(.s 17), (.s 18)] },
        { dst := some 16, op := .mov (.s 19) },
        { dst := some 20, op := .ext (.s 16) 0 },
        { dst := some 21, op := .ext (.s 16) 1 },
        { dst := some 22, op := .ext (.s 16) 2 },
        { dst := some 5, op := .box (.c (.agg (digC zeroDig))) },
        { dst := some 6, op := .box (.c (.agg (digC zeroDig))) },
        { dst := none, op := .stor 32 (.s 5) (.s 20) },
        { dst := none, op := .stor 32 (.s 6) (.s 21) },
        { dst := some 7, op := .mov (.s 22) }])
      (.seq (.ops [{ dst := some 24, op := .mov (.s 0) },
        { dst := some 25, op := .load 198 true (.s 3) },
        { dst := some 26, op := .call 21 [(.s 24), (.s 25)] },
        { dst := some 23, op := .mov (.s 26) },
        { dst := some 27, op := .ext (.s 23) 0 },
        { dst := some 28, op := .ext (.s 23) 1 },
        { dst := some 29, op := .ext (.s 23) 2 },
        { dst := some 8, op := .box (.c (.agg (digC zeroDig))) },
        { dst := some 9, op := .box (.c (.agg (digC zeroDig))) },
        { dst := none, op := .stor 32 (.s 8) (.s 27) },
        { dst := none, op := .stor 32 (.s 9) (.s 28) },
        { dst := some 10, op := .mov (.s 29) }])
      (.seq (.ops [{ dst := some 30, op := .load 32 true (.s 5) },
        { dst := some 31, op := .load 32 true (.s 8) },
        { dst := some 32, op := .aeq [0, 0, 0, 0, 0, 0, 0, 0, 0, 0, 0, 0, 0, 0, 0, 0, 0, 0, 0, 0, 0, 0, 0, 0, 0, 0, 0, 0, 0, 0, 0, 0] false (.s 30) (.s 31) },
        { dst := some 33, op := .mov (.s 32) },
        { dst := some 34, op := .load 32 true (.s 6), guard := some (33, true) },
        { dst := some 35, op := .load 32 true (.s 9), guard := some (33, true) },
        { dst := some 36, op := .aeq [0, 0, 0, 0, 0, 0, 0, 0, 0, 0, 0, 0, 0, 0, 0, 0, 0, 0, 0, 0, 0, 0, 0, 0, 0, 0, 0, 0, 0, 0, 0, 0] false (.s 34) (.s 35), guard := some (33, true) },
        { dst := some 37, op := .pick (.s 33) (.s 36) (.c (.bool false)) },
        { dst := some 38, op := .mov (.s 37) },
        { dst := some 39, op := .mov (.s 7), guard := some (38, true) },
        { dst := some 40, op := .mov (.s 10), guard := some (38, true) },
        { dst := some 41, op := .bin .eql (.s 39) (.s 40), guard := some (38, true) },
        { dst := some 42, op := .pick (.s 38) (.s 41) (.c (.bool false)) },
        { dst := some 4, op := .mov (.s 42) }])
      (.ret)))))))
    [.tmp 4]
theorem tr_wagonpoollaw38_BisectAnswerMatchesReference : trF Tryd.prog [39] 4 [] = some F_wagonpoollaw38_BisectAnswerMatchesReference := by kernel_rfl

/-! wagonpool/wagonpoollaw38.BisectBegins -/
def F_wagonpoollaw38_BisectBegins : PF :=
  .mk
    (.seq (.ops [{ dst := some 4, op := .mov (.c (.bool false)) }])
      (.seq (.seq (.ops [{ dst := some 12, op := .call 11 [] },
        { dst := some 13, op := .un .not (.s 12) }])
      (.cond (.s 13)
        (.seq (.ops [{ dst := some 4, op := .mov (.c (.bool false)) }])
        (.ret))
        (.skip)))
      (.seq (.seq (.ops [{ dst := some 14, op := .mov (.s 0) },
        { dst := some 15, op := .mov (.s 1) },
        { dst := some 16, op := .call 12 [(.s 14), (.s 15)] },
        { dst := some 17, op := .un .not (.s 16) }])
      (.cond (.s 17)
        (.seq (.ops [{ dst := some 4, op := .mov (.c (.bool true)) }])
        (.ret))
        (.skip)))
      (.seq (.ops [{ dst := some 19, op := .mov (.s 0) },
        { dst := some 20, op := .call 14 [(.s 19)] },
        { dst := some 21, op := .mov (.s 1) },
        { dst := some 22, op := .call 14 [(.s 21)] },
        { dst := some 23, op := .call 13 [(.s 20), (.s 22)] },
        { dst := some 18, op := .mov (.s 23) },
        { dst := some 24, op := .ext (.s 18) 0 },
        { dst := some 25, op := .ext (.s 18) 1 },
        { dst := some 5, op := .box (.c (.agg (bisC zeroBis))) },
        { dst := none, op := .stor 198 (.s 5) (.s 24) },
        { dst := some 6, op := .mov (.s 25) }])
      (.seq (.ops [{ dst := some 26, op := .mov (.s 0) },
        { dst := some 27, op := .len false (.s 26) },
        { dst := some 28, op := .mov (.s 1) },
        { dst := some 29, op := .len false (.s 28) },
        { dst := some 30, op := .mm true (.s 27) (.s 29) },
        { dst := some 31, op := .call 22 [(.s 30)] },
        { dst := some 7, op := .mov (.s 31) }])
      (.seq (.ops [{ dst := some 33, op := .mov (.s 0) },
        { dst := some 34, op := .mov (.s 7) },
        { dst := some 35, op := .call 23 [(.s 33), (.s 34), (.c (.int .i64 0))] },
        { dst := some 32, op := .mov (.s 35) },
        { dst := some 36, op := .ext (.s 32) 0 },
        { dst := some 37, op := .ext (.s 32) 1 },
        { dst := some 8, op := .box (.c (.agg (digC zeroDig))) },
        { dst := none, op := .stor 32 (.s 8) (.s 36) },
        { dst := some 9, op := .mov (.s 37) }])
      (.seq (.ops [{ dst := some 39, op := .mov (.s 1) },
        { dst := some 40, op := .mov (.s 7) },
        { dst := some 41, op := .call 23 [(.s 39), (.s 40), (.c (.int .i64 0))] },
        { dst := some 38, op := .mov (.s 41) },
        { dst := some 42, op := .ext (.s 38) 0 },
        { dst := some 43, op := .ext (.s 38) 1 },
        { dst := some 10, op := .box (.c (.agg (digC zeroDig))) },
        { dst := none, op := .stor 32 (.s 10) (.s 42) },
        { dst := some 11, op := .mov (.s 43) }])
      (.seq (.seq (.ops [{ dst := some 44, op := .load 32 true (.s 8) },
        { dst := some 45, op := .load 32 true (.s 10) },
        { dst := some 46, op := .aeq [0, 0, 0, 0, 0, 0, 0, 0, 0, 0, 0, 0, 0, 0, 0, 0, 0, 0, 0, 0, 0, 0, 0, 0, 0, 0, 0, 0, 0, 0, 0, 0] false (.s 44) (.s 45) }])
      (.cond (.s 46)
        (.seq (.ops [{ dst := some 47, op := .mov (.s 6) },
          { dst := some 48, op := .bin .eql (.s 47) (.c (.int .i64 380)) },
          { dst := some 49, op := .mov (.s 48) },
          { dst := some 50, op := .load 198 true (.s 5), guard := some (49, true) },
          { dst := some 51, op := .bld (bisC zeroBis) [], guard := some (49, true) },
          { dst := some 52, op := .aeq ksBis false (.s 50) (.s 51), guard := some (49, true) },
          { dst := some 53, op := .pick (.s 49) (.s 52) (.c (.bool false)) },
          { dst := some 4, op := .mov (.s 53) }])
        (.ret))
        (.skip)))
      (.seq (.ops [{ dst := some 54, op := .mov (.s 6) },
        { dst := some 55, op := .bin .eql (.s 54) (.c (.int .i64 0)) },
        { dst := some 56, op := .mov (.s 55) },
        { dst := some 57, op := .load 198 true (.s 5), guard := some (56, true) },
        { dst := some 58, op := .mov (.s 7), guard := some (56, true) },
        { dst := some 59, op := .mov (.s 7), guard := some (56, true) },
        { dst := some 60, op := .load 32 true (.s 8), guard := some (56, true) },
        { dst := some 61, op := .load 32 true (.s 10), guard := some (56, true) },
        { dst := some 62, op := .bld zD2 [(0, 32, (.s 60)), (32, 32, (.s 61))], guard := some (56, true) },
        { dst := some 63, op := .bld (bisC zeroBis) [(0, 1, (.s 58)), (1, 1, (.s 59)), (3, 64, (.s 62))], guard := some (56, true) },
        { dst := some 64, op := .aeq ksBis false (.s 57) (.s 63), guard := some (56, true) },
        { dst := some 65, op := .pick (.s 56) (.s 64) (.c (.bool false)) },
        { dst := some 66, op := .mov (.s 65) },
        { dst := some 67, op := .mov (.s 0), guard := some (66, true) },
        { dst := some 68, op := .mov (.s 1), guard := some (66, true) },
        { dst := some 69, op := .call 24 [(.s 67), (.s 68)], guard := some (66, true) },
        { dst := some 70, op := .bin .geq (.s 69) (.c (.int .i64 0)), guard := some (66, true) },
        { dst := some 71, op := .pick (.s 66) (.s 70) (.c (.bool false)) },
        { dst := some 4, op := .mov (.s 71) }])
      (.ret))))))))))
    [.tmp 4]
theorem tr_wagonpoollaw38_BisectBegins : trF Tryd.prog [39] 5 [] = some F_wagonpoollaw38_BisectBegins := by kernel_rfl

/-! wagonpool/wagonpoollaw38.BisectFindsFirst -/
def F_wagonpoollaw38_BisectFindsFirst_L0 : PC :=
  .seq (.seq (.ops [{ dst := some 57, op := .mov (.s 11) },
      { dst := some 58, op := .mov (.s 10) },
      { dst := some 59, op := .bin .lss (.s 57) (.s 58) }])
    (.cond (.s 59)
      (.skip)
      (.exit 0)))
    (.seq (.block 1 (.seq (.ops [{ dst := some 12, op := .mov (.c (.int .i64 0)) }])
      (.seq (.seq (.ops [{ dst := some 62, op := .mov (.s 11) },
        { dst := some 63, op := .mov (.s 2) },
        { dst := some 64, op := .len false (.s 63) },
        { dst := some 65, op := .bin .lss (.s 62) (.s 64) },
        { dst := some 66, op := .mov (.s 65) },
        { dst := some 67, op := .mov (.s 2), guard := some (66, true) },
        { dst := some 68, op := .mov (.s 11), guard := some (66, true) },
        { dst := some 69, op := .idxS 1 (.s 67) (.s 68), guard := some (66, true) },
        { dst := some 70, op := .load 1 false (.s 69), guard := some (66, true) },
        { dst := some 71, op := .pick (.s 66) (.s 70) (.c (.bool false)) }])
      (.cond (.s 71)
        (.ops [{ dst := some 12, op := .mov (.c (.int .i64 1)) }])
        (.skip)))
      (.seq (.ops [{ dst := some 73, op := .load 198 true (.s 7) },
        { dst := some 74, op := .call 16 [(.s 73)] },
        { dst := some 72, op := .mov (.s 74) },
        { dst := some 75, op := .ext (.s 72) 0 },
        { dst := some 76, op := .ext (.s 72) 1 },
        { dst := some 77, op := .ext (.s 72) 2 },
        { dst := some 14, op := .box (.c (.agg zD2)) },
        { dst := some 13, op := .mov (.s 75) },
        { dst := none, op := .stor 64 (.s 14) (.s 76) },
        { dst := some 15, op := .mov (.s 77) }])
      (.seq (.ops [{ dst := some 79, op := .load 198 true (.s 7) },
        { dst := some 80, op := .mov (.s 0) },
        { dst := some 81, op := .mov (.s 1) },
        { dst := some 82, op := .mov (.s 12) },
        { dst := some 83, op := .call 15 [(.s 79), (.s 80), (.s 81), (.s 82)] },
        { dst := some 78, op := .mov (.s 83) },
        { dst := some 84, op := .ext (.s 78) 0 },
        { dst := some 85, op := .ext (.s 78) 1 },
        { dst := some 16, op := .box (.c (.agg (bisC zeroBis))) },
        { dst := none, op := .stor 198 (.s 16) (.s 84) },
        { dst := some 17, op := .mov (.s 85) }])
      (.seq (.seq (.ops [{ dst := some 86, op := .mov (.s 15) },
        { dst := some 87, op := .mov (.s 86) },
        { dst := some 88, op := .mov (.s 17), guard := some (87, false) },
        { dst := some 89, op := .un .not (.s 88), guard := some (87, false) },
        { dst := some 90, op := .pick (.s 87) (.c (.bool true)) (.s 89) },
        { dst := some 91, op := .mov (.s 90) },
        { dst := some 92, op := .fld 197 (.s 16), guard := some (91, false) },
        { dst := some 93, op := .load 1 false (.s 92), guard := some (91, false) },
        { dst := some 94, op := .mov (.s 11), guard := some (91, false) },
        { dst := some 95, op := .bin .add (.s 94) (.c (.int .i64 1)), guard := some (91, false) },
        { dst := some 96, op := .bin .neq (.s 93) (.s 95), guard := some (91, false) },
        { dst := some 97, op := .pick (.s 91) (.c (.bool true)) (.s 96) }])
      (.cond (.s 97)
        (.seq (.ops [{ dst := some 6, op := .mov (.c (.bool false)) }])
        (.ret))
        (.skip)))
      (.ops [{ dst := some 98, op := .load 198 true (.s 16) },
        { dst := none, op := .stor 198 (.s 7) (.s 98) }])))))))
    (.ops [{ dst := some 60, op := .mov (.s 11) },
      { dst := some 61, op := .bin .add (.s 60) (.c (.int .i64 1)) },
      { dst := some 11, op := .mov (.s 61) }]))

def F_wagonpoollaw38_BisectFindsFirst : PF :=
  .mk
    (.seq (.ops [{ dst := some 6, op := .mov (.c (.bool false)) }])
      (.seq (.seq (.ops [{ dst := some 21, op := .call 11 [] },
        { dst := some 22, op := .un .not (.s 21) }])
      (.cond (.s 22)
        (.seq (.ops [{ dst := some 6, op := .mov (.c (.bool false)) }])
        (.ret))
        (.skip)))
      (.seq (.seq (.ops [{ dst := some 23, op := .mov (.s 0) },
        { dst := some 24, op := .mov (.s 1) },
        { dst := some 25, op := .call 12 [(.s 23), (.s 24)] },
        { dst := some 26, op := .un .not (.s 25) }])
      (.cond (.s 26)
        (.seq (.ops [{ dst := some 6, op := .mov (.c (.bool true)) }])
        (.ret))
        (.skip)))
      (.seq (.ops [{ dst := some 28, op := .mov (.s 0) },
        { dst := some 29, op := .call 14 [(.s 28)] },
        { dst := some 30, op := .mov (.s 1) },
        { dst := some 31, op := .call 14 [(.s 30)] },
        { dst := some 32, op := .call 13 [(.s 29), (.s 31)] },
        { dst := some 27, op := .mov (.s 32) },
        { dst := some 33, op := .ext (.s 27) 0 },
        { dst := some 34, op := .ext (.s 27) 1 },
        { dst := some 7, op := .box (.c (.agg (bisC zeroBis))) },
        { dst := none, op := .stor 198 (.s 7) (.s 33) },
        { dst := some 8, op := .mov (.s 34) }])
      (.seq (.ops [{ dst := some 35, op := .mov (.s 0) },
        { dst := some 36, op := .mov (.s 1) },
        { dst := some 37, op := .call 25 [(.s 35), (.s 36)] },
        { dst := some 9, op := .mov (.s 37) }])
      (.seq (.seq (.ops [{ dst := some 38, op := .mov (.s 8) },
        { dst := some 39, op := .bin .neq (.s 38) (.c (.int .i64 0)) }])
      (.cond (.s 39)
        (.seq (.ops [{ dst := some 40, op := .mov (.s 8) },
          { dst := some 41, op := .bin .eql (.s 40) (.c (.int .i64 380)) },
          { dst := some 42, op := .mov (.s 41) },
          { dst := some 43, op := .mov (.s 9), guard := some (42, true) },
          { dst := some 44, op := .bin .lss (.s 43) (.c (.int .i64 0)), guard := some (42, true) },
          { dst := some 45, op := .mov (.s 44), guard := some (42, true) },
          { dst := some 46, op := .mov (.s 0), guard := some (45, false) },
          { dst := some 47, op := .mov (.s 1), guard := some (45, false) },
          { dst := some 48, op := .call 17 [(.s 46), (.s 47)], guard := some (45, false) },
          { dst := some 49, op := .pick (.s 45) (.c (.bool true)) (.s 48), guard := some (42, true) },
          { dst := some 50, op := .pick (.s 42) (.s 49) (.c (.bool false)) },
          { dst := some 6, op := .mov (.s 50) }])
        (.ret))
        (.skip)))
      (.seq (.ops [{ dst := some 51, op := .mov (.s 0) },
        { dst := some 52, op := .len false (.s 51) },
        { dst := some 53, op := .mov (.s 1) },
        { dst := some 54, op := .len false (.s 53) },
        { dst := some 55, op := .mm true (.s 52) (.s 54) },
        { dst := some 56, op := .call 22 [(.s 55)] },
        { dst := some 10, op := .mov (.s 56) }])
      (.seq (.seq (.ops [{ dst := some 11, op := .mov (.c (.int .i64 0)) }])
      (.block 0 (.loop [0, 1, 2, 7, 9, 10, 11] F_wagonpoollaw38_BisectFindsFirst_L0)))
      (.seq (.ops [{ dst := some 100, op := .load 198 true (.s 7) },
        { dst := some 101, op := .call 16 [(.s 100)] },
        { dst := some 99, op := .mov (.s 101) },
        { dst := some 102, op := .ext (.s 99) 0 },
        { dst := some 103, op := .ext (.s 99) 1 },
        { dst := some 104, op := .ext (.s 99) 2 },
        { dst := some 19, op := .box (.c (.agg zD2)) },
        { dst := some 18, op := .mov (.s 102) },
        { dst := none, op := .stor 64 (.s 19) (.s 103) },
        { dst := some 20, op := .mov (.s 104) }])
      (.seq (.seq (.ops [{ dst := some 105, op := .mov (.s 20) },
        { dst := some 106, op := .un .not (.s 105) },
        { dst := some 107, op := .mov (.s 106) },
        { dst := some 108, op := .mov (.s 9), guard := some (107, false) },
        { dst := some 109, op := .bin .lss (.s 108) (.c (.int .i64 0)), guard := some (107, false) },
        { dst := some 110, op := .pick (.s 107) (.c (.bool true)) (.s 109) }])
      (.cond (.s 110)
        (.seq (.ops [{ dst := some 6, op := .mov (.c (.bool false)) }])
        (.ret))
        (.skip)))
      (.seq (.ops [{ dst := some 111, op := .mov (.s 18) },
        { dst := some 112, op := .mov (.s 9) },
        { dst := some 113, op := .bin .eql (.s 111) (.s 112) },
        { dst := some 114, op := .mov (.s 113) },
        { dst := some 115, op := .load 64 true (.s 19), guard := some (114, true) },
        { dst := some 116, op := .mov (.s 0), guard := some (114, true) },
        { dst := some 117, op := .mov (.s 18), guard := some (114, true) },
        { dst := some 118, op := .call 26 [(.s 116), (.s 117)], guard := some (114, true) },
        { dst := some 119, op := .mov (.s 1), guard := some (114, true) },
        { dst := some 120, op := .mov (.s 18), guard := some (114, true) },
        { dst := some 121, op := .call 26 [(.s 119), (.s 120)], guard := some (114, true) },
        { dst := some 122, op := .bld zD2 [(0, 32, (.s 118)), (32, 32, (.s 121))], guard := some (114, true) },
        { dst := some 123, op := .aeq ks64 false (.s 115) (.s 122), guard := some (114, true) },
        { dst := some 124, op := .pick (.s 114) (.s 123) (.c (.bool false)) },
        { dst := some 125, op := .mov (.s 124) },
        { dst := some 126, op := .mov (.s 0), guard := some (125, false) },
        { dst := some 127, op := .mov (.s 1), guard := some (125, false) },
        { dst := some 128, op := .call 17 [(.s 126), (.s 127)], guard := some (125, false) },
        { dst := some 129, op := .pick (.s 125) (.c (.bool true)) (.s 128) },
        { dst := some 6, op := .mov (.s 129) }])
      (.ret))))))))))))
    [.tmp 6]
theorem tr_wagonpoollaw38_BisectFindsFirst : trF Tryd.prog [39] 6 [[0, 1, 2, 7, 9, 10, 11]] = some F_wagonpoollaw38_BisectFindsFirst := by kernel_rfl

/-! wagonpool/wagonpoollaw38.BisectHonestParty -/
def F_wagonpoollaw38_BisectHonestParty_L0 : PC :=
  .seq (.seq (.ops [{ dst := some 64, op := .mov (.s 12) },
      { dst := some 65, op := .bin .lss (.s 64) (.c (.int .i64 5)) },
      { dst := some 66, op := .mov (.s 65) },
      { dst := some 67, op := .fld 1 (.s 10), guard := some (66, true) },
      { dst := some 68, op := .load 1 false (.s 67), guard := some (66, true) },
      { dst := some 69, op := .bin .gtr (.s 68) (.c (.int .i64 0)), guard := some (66, true) },
      { dst := some 70, op := .pick (.s 66) (.s 69) (.c (.bool false)) }])
    (.cond (.s 70)
      (.skip)
      (.exit 0)))
    (.seq (.block 1 (.seq (.ops [{ dst := some 74, op := .mov (.s 0) },
        { dst := some 75, op := .fld 1 (.s 10) },
        { dst := some 76, op := .load 1 false (.s 75) },
        { dst := some 77, op := .fld 2 (.s 10) },
        { dst := some 78, op := .load 1 false (.s 77) },
        { dst := some 79, op := .call 23 [(.s 74), (.s 76), (.s 78)] },
        { dst := some 73, op := .mov (.s 79) },
        { dst := some 80, op := .ext (.s 73) 0 },
        { dst := some 81, op := .ext (.s 73) 1 },
        { dst := some 13, op := .box (.c (.agg (digC zeroDig))) },
        { dst := none, op := .stor 32 (.s 13) (.s 80) },
        { dst := some 14, op := .mov (.s 81) }])
      (.seq (.seq (.ops [{ dst := some 82, op := .mov (.s 2) },
        { dst := some 83, op := .fld 3 (.s 10) },
        { dst := some 84, op := .idxA 2 32 (.s 83) (.s 82) },
        { dst := some 85, op := .load 32 true (.s 84) },
        { dst := some 86, op := .load 32 true (.s 13) },
        { dst := some 87, op := .aeq [0, 0, 0, 0, 0, 0, 0, 0, 0, 0, 0, 0, 0, 0, 0, 0, 0, 0, 0, 0, 0, 0, 0, 0, 0, 0, 0, 0, 0, 0, 0, 0] true (.s 85) (.s 86) }])
      (.cond (.s 87)
        (.seq (.ops [{ dst := some 8, op := .mov (.c (.bool false)) }])
        (.ret))
        (.skip)))
      (.seq (.seq (.ops [{ dst := some 88, op := .mov (.s 12) },
        { dst := some 89, op := .bin .add (.s 88) (.c (.int .i64 1)) },
        { dst := some 90, op := .mov (.s 3) },
        { dst := some 91, op := .len false (.s 90) },
        { dst := some 92, op := .bin .lss (.s 89) (.s 91) },
        { dst := some 93, op := .mov (.s 92) },
        { dst := some 94, op := .mov (.s 3), guard := some (93, true) },
        { dst := some 95, op := .mov (.s 12), guard := some (93, true) },
        { dst := some 96, op := .idxS 32 (.s 94) (.s 95), guard := some (93, true) },
        { dst := some 97, op := .load 32 true (.s 96), guard := some (93, true) },
        { dst := some 98, op := .mov (.s 3), guard := some (93, true) },
        { dst := some 99, op := .mov (.s 12), guard := some (93, true) },
        { dst := some 100, op := .bin .add (.s 99) (.c (.int .i64 1)), guard := some (93, true) },
        { dst := some 101, op := .idxS 32 (.s 98) (.s 100), guard := some (93, true) },
        { dst := some 102, op := .load 32 true (.s 101), guard := some (93, true) },
        { dst := some 103, op := .call 27 [(.s 97), (.s 102)], guard := some (93, true) },
        { dst := some 104, op := .mov (.s 2), guard := some (93, true) },
        { dst := some 105, op := .bin .sub (.c (.int .i64 1)) (.s 104), guard := some (93, true) },
        { dst := some 106, op := .fld 3 (.s 10), guard := some (93, true) },
        { dst := some 107, op := .idxA 2 32 (.s 106) (.s 105), guard := some (93, true) },
        { dst := some 108, op := .load 32 true (.s 107), guard := some (93, true) },
        { dst := some 109, op := .aeq [0, 0, 0, 0, 0, 0, 0, 0, 0, 0, 0, 0, 0, 0, 0, 0, 0, 0, 0, 0, 0, 0, 0, 0, 0, 0, 0, 0, 0, 0, 0, 0] true (.s 103) (.s 108), guard := some (93, true) },
        { dst := some 110, op := .pick (.s 93) (.s 109) (.c (.bool false)) }])
      (.cond (.s 110)
        (.seq (.ops [{ dst := some 112, op := .load 198 true (.s 10) },
          { dst := some 113, op := .mov (.s 2) },
          { dst := some 114, op := .bin .sub (.c (.int .i64 1)) (.s 113) },
          { dst := some 115, op := .mov (.s 3) },
          { dst := some 116, op := .mov (.s 12) },
          { dst := some 117, op := .idxS 32 (.s 115) (.s 116) },
          { dst := some 118, op := .load 32 true (.s 117) },
          { dst := some 119, op := .mov (.s 3) },
          { dst := some 120, op := .mov (.s 12) },
          { dst := some 121, op := .bin .add (.s 120) (.c (.int .i64 1)) },
          { dst := some 122, op := .idxS 32 (.s 119) (.s 121) },
          { dst := some 123, op := .load 32 true (.s 122) },
          { dst := some 124, op := .call 28 [(.s 112), (.s 114), (.s 118), (.s 123)] },
          { dst := some 111, op := .mov (.s 124) },
          { dst := some 125, op := .ext (.s 111) 0 },
          { dst := some 126, op := .ext (.s 111) 1 },
          { dst := some 15, op := .box (.c (.agg (bisC zeroBis))) },
          { dst := none, op := .stor 198 (.s 15) (.s 125) },
          { dst := some 16, op := .mov (.s 126) }])
        (.seq (.ops [{ dst := some 127, op := .mov (.s 16) },
          { dst := some 128, op := .bin .neq (.s 127) (.c (.int .i64 381)) }])
        (.cond (.s 128)
          (.seq (.ops [{ dst := some 8, op := .mov (.c (.bool false)) }])
          (.ret))
          (.skip))))
        (.skip)))
      (.seq (.ops [{ dst := some 130, op := .mov (.s 0) },
        { dst := some 131, op := .load 198 true (.s 10) },
        { dst := some 132, op := .call 20 [(.s 130), (.s 131)] },
        { dst := some 129, op := .mov (.s 132) },
        { dst := some 133, op := .ext (.s 129) 0 },
        { dst := some 134, op := .ext (.s 129) 1 },
        { dst := some 135, op := .ext (.s 129) 2 },
        { dst := some 17, op := .box (.c (.agg (digC zeroDig))) },
        { dst := some 18, op := .box (.c (.agg (digC zeroDig))) },
        { dst := none, op := .stor 32 (.s 17) (.s 133) },
        { dst := none, op := .stor 32 (.s 18) (.s 134) },
        { dst := some 19, op := .mov (.s 135) }])
      (.seq (.ops [{ dst := some 137, op := .mov (.s 1) },
        { dst := some 138, op := .load 198 true (.s 10) },
        { dst := some 139, op := .call 20 [(.s 137), (.s 138)] },
        { dst := some 136, op := .mov (.s 139) },
        { dst := some 140, op := .ext (.s 136) 0 },
        { dst := some 141, op := .ext (.s 136) 1 },
        { dst := some 142, op := .ext (.s 136) 2 },
        { dst := some 20, op := .box (.c (.agg (digC zeroDig))) },
        { dst := some 21, op := .box (.c (.agg (digC zeroDig))) },
        { dst := none, op := .stor 32 (.s 20) (.s 140) },
        { dst := none, op := .stor 32 (.s 21) (.s 141) },
        { dst := some 22, op := .mov (.s 142) }])
      (.seq (.ops [{ dst := some 144, op := .load 198 true (.s 10) },
        { dst := some 145, op := .mov (.s 2) },
        { dst := some 146, op := .load 32 true (.s 17) },
        { dst := some 147, op := .load 32 true (.s 18) },
        { dst := some 148, op := .call 28 [(.s 144), (.s 145), (.s 146), (.s 147)] },
        { dst := some 143, op := .mov (.s 148) },
        { dst := some 149, op := .ext (.s 143) 0 },
        { dst := some 150, op := .ext (.s 143) 1 },
        { dst := some 23, op := .box (.c (.agg (bisC zeroBis))) },
        { dst := none, op := .stor 198 (.s 23) (.s 149) },
        { dst := some 24, op := .mov (.s 150) }])
      (.seq (.ops [{ dst := some 152, op := .load 198 true (.s 23) },
        { dst := some 153, op := .mov (.s 2) },
        { dst := some 154, op := .bin .sub (.c (.int .i64 1)) (.s 153) },
        { dst := some 155, op := .load 32 true (.s 20) },
        { dst := some 156, op := .load 32 true (.s 21) },
        { dst := some 157, op := .call 28 [(.s 152), (.s 154), (.s 155), (.s 156)] },
        { dst := some 151, op := .mov (.s 157) },
        { dst := some 158, op := .ext (.s 151) 0 },
        { dst := some 159, op := .ext (.s 151) 1 },
        { dst := some 25, op := .box (.c (.agg (bisC zeroBis))) },
        { dst := none, op := .stor 198 (.s 25) (.s 158) },
        { dst := some 26, op := .mov (.s 159) }])
      (.seq (.seq (.ops [{ dst := some 160, op := .mov (.s 19) },
        { dst := some 161, op := .bin .neq (.s 160) (.c (.int .i64 0)) },
        { dst := some 162, op := .mov (.s 161) },
        { dst := some 163, op := .mov (.s 22), guard := some (162, false) },
        { dst := some 164, op := .bin .neq (.s 163) (.c (.int .i64 0)), guard := some (162, false) },
        { dst := some 165, op := .pick (.s 162) (.c (.bool true)) (.s 164) },
        { dst := some 166, op := .mov (.s 165) },
        { dst := some 167, op := .mov (.s 24), guard := some (166, false) },
        { dst := some 168, op := .bin .neq (.s 167) (.c (.int .i64 0)), guard := some (166, false) },
        { dst := some 169, op := .pick (.s 166) (.c (.bool true)) (.s 168) },
        { dst := some 170, op := .mov (.s 169) },
        { dst := some 171, op := .mov (.s 26), guard := some (170, false) },
        { dst := some 172, op := .bin .neq (.s 171) (.c (.int .i64 0)), guard := some (170, false) },
        { dst := some 173, op := .pick (.s 170) (.c (.bool true)) (.s 172) },
        { dst := some 174, op := .mov (.s 173) },
        { dst := some 175, op := .fld 1 (.s 25), guard := some (174, false) },
        { dst := some 176, op := .load 1 false (.s 175), guard := some (174, false) },
        { dst := some 177, op := .fld 1 (.s 10), guard := some (174, false) },
        { dst := some 178, op := .load 1 false (.s 177), guard := some (174, false) },
        { dst := some 179, op := .bin .sub (.s 178) (.c (.int .i64 1)), guard := some (174, false) },
        { dst := some 180, op := .bin .neq (.s 176) (.s 179), guard := some (174, false) },
        { dst := some 181, op := .pick (.s 174) (.c (.bool true)) (.s 180) }])
      (.cond (.s 181)
        (.seq (.ops [{ dst := some 8, op := .mov (.c (.bool false)) }])
        (.ret))
        (.skip)))
      (.ops [{ dst := some 182, op := .load 198 true (.s 25) },
        { dst := none, op := .stor 198 (.s 10) (.s 182) }]))))))))))
    (.ops [{ dst := some 71, op := .mov (.s 12) },
      { dst := some 72, op := .bin .add (.s 71) (.c (.int .i64 1)) },
      { dst := some 12, op := .mov (.s 72) }]))

def F_wagonpoollaw38_BisectHonestParty : PF :=
  .mk
    (.seq (.ops [{ dst := some 8, op := .mov (.c (.bool false)) }])
      (.seq (.seq (.ops [{ dst := some 30, op := .call 11 [] },
        { dst := some 31, op := .un .not (.s 30) }])
      (.cond (.s 31)
        (.seq (.ops [{ dst := some 8, op := .mov (.c (.bool false)) }])
        (.ret))
        (.skip)))
      (.seq (.seq (.ops [{ dst := some 32, op := .mov (.s 0) },
        { dst := some 33, op := .mov (.s 1) },
        { dst := some 34, op := .call 12 [(.s 32), (.s 33)] },
        { dst := some 35, op := .un .not (.s 34) },
        { dst := some 36, op := .mov (.s 35) },
        { dst := some 37, op := .mov (.s 2), guard := some (36, false) },
        { dst := some 38, op := .bin .lss (.s 37) (.c (.int .i64 0)), guard := some (36, false) },
        { dst := some 39, op := .pick (.s 36) (.c (.bool true)) (.s 38) },
        { dst := some 40, op := .mov (.s 39) },
        { dst := some 41, op := .mov (.s 2), guard := some (40, false) },
        { dst := some 42, op := .bin .gtr (.s 41) (.c (.int .i64 1)), guard := some (40, false) },
        { dst := some 43, op := .pick (.s 40) (.c (.bool true)) (.s 42) }])
      (.cond (.s 43)
        (.seq (.ops [{ dst := some 8, op := .mov (.c (.bool true)) }])
        (.ret))
        (.skip)))
      (.seq (.ops [{ dst := some 44, op := .mov (.s 0) },
        { dst := some 45, op := .call 14 [(.s 44)] },
        { dst := some 46, op := .mov (.s 1) },
        { dst := some 47, op := .call 14 [(.s 46)] },
        { dst := some 48, op := .bld [(.int .i64 0), (.int .u8 0), (.int .u8 0), (.int .u8 0), (.int .u8 0), (.int .u8 0), (.int .u8 0), (.int .u8 0), (.int .u8 0), (.int .u8 0), (.int .u8 0), (.int .u8 0), (.int .u8 0), (.int .u8 0), (.int .u8 0), (.int .u8 0), (.int .u8 0), (.int .u8 0), (.int .u8 0), (.int .u8 0), (.int .u8 0), (.int .u8 0), (.int .u8 0), (.int .u8 0), (.int .u8 0), (.int .u8 0), (.int .u8 0), (.int .u8 0), (.int .u8 0), (.int .u8 0), (.int .u8 0), (.int .u8 0), (.int .u8 0), (.int .i64 0), (.int .u8 0), (.int .u8 0), (.int .u8 0), (.int .u8 0), (.int .u8 0), (.int .u8 0), (.int .u8 0), (.int .u8 0), (.int .u8 0), (.int .u8 0), (.int .u8 0), (.int .u8 0), (.int .u8 0), (.int .u8 0), (.int .u8 0), (.int .u8 0), (.int .u8 0), (.int .u8 0), (.int .u8 0), (.int .u8 0), (.int .u8 0), (.int .u8 0), (.int .u8 0), (.int .u8 0), (.int .u8 0), (.int .u8 0), (.int .u8 0), (.int .u8 0), (.int .u8 0), (.int .u8 0), (.int .u8 0), (.int .u8 0)] [(0, 33, (.s 45)), (33, 33, (.s 47))] },
        { dst := some 9, op := .box (.c (.agg [(.int .i64 0), (.int .u8 0), (.int .u8 0), (.int .u8 0), (.int .u8 0), (.int .u8 0), (.int .u8 0), (.int .u8 0), (.int .u8 0), (.int .u8 0), (.int .u8 0), (.int .u8 0), (.int .u8 0), (.int .u8 0), (.int .u8 0), (.int .u8 0), (.int .u8 0), (.int .u8 0), (.int .u8 0), (.int .u8 0), (.int .u8 0), (.int .u8 0), (.int .u8 0), (.int .u8 0), (.int .u8 0), (.int .u8 0), (.int .u8 0), (.int .u8 0), (.int .u8 0), (.int .u8 0), (.int .u8 0), (.int .u8 0), (.int .u8 0), (.int .i64 0), (.int .u8 0), (.int .u8 0), (.int .u8 0), (.int .u8 0), (.int .u8 0), (.int .u8 0), (.int .u8 0), (.int .u8 0), (.int .u8 0), (.int .u8 0), (.int .u8 0), (.int .u8 0), (.int .u8 0), (.int .u8 0), (.int .u8 0), (.int .u8 0), (.int .u8 0), (.int .u8 0), (.int .u8 0), (.int .u8 0), (.int .u8 0), (.int .u8 0), (.int .u8 0), (.int .u8 0), (.int .u8 0), (.int .u8 0), (.int .u8 0), (.int .u8 0), (.int .u8 0), (.int .u8 0), (.int .u8 0), (.int .u8 0)])) },
        { dst := none, op := .stor 66 (.s 9) (.s 48) }])
      (.seq (.ops [{ dst := some 50, op := .mov (.s 2) },
        { dst := some 51, op := .idxA 2 33 (.s 9) (.s 50) },
        { dst := some 52, op := .load 33 true (.s 51) },
        { dst := some 53, op := .mov (.s 2) },
        { dst := some 54, op := .bin .sub (.c (.int .i64 1)) (.s 53) },
        { dst := some 55, op := .idxA 2 33 (.s 9) (.s 54) },
        { dst := some 56, op := .load 33 true (.s 55) },
        { dst := some 57, op := .call 13 [(.s 52), (.s 56)] },
        { dst := some 49, op := .mov (.s 57) },
        { dst := some 58, op := .ext (.s 49) 0 },
        { dst := some 59, op := .ext (.s 49) 1 },
        { dst := some 10, op := .box (.c (.agg (bisC zeroBis))) },
        { dst := none, op := .stor 198 (.s 10) (.s 58) },
        { dst := some 11, op := .mov (.s 59) }])
      (.seq (.seq (.ops [{ dst := some 60, op := .mov (.s 11) },
        { dst := some 61, op := .bin .neq (.s 60) (.c (.int .i64 0)) }])
      (.cond (.s 61)
        (.seq (.ops [{ dst := some 62, op := .mov (.s 11) },
          { dst := some 63, op := .bin .eql (.s 62) (.c (.int .i64 380)) },
          { dst := some 8, op := .mov (.s 63) }])
        (.ret))
        (.skip)))
      (.seq (.seq (.ops [{ dst := some 12, op := .mov (.c (.int .i64 0)) }])
      (.block 0 (.loop [0, 1, 2, 3, 10, 12] F_wagonpoollaw38_BisectHonestParty_L0)))
      (.seq (.ops [{ dst := some 184, op := .load 198 true (.s 10) },
        { dst := some 185, op := .call 16 [(.s 184)] },
        { dst := some 183, op := .mov (.s 185) },
        { dst := some 186, op := .ext (.s 183) 0 },
        { dst := some 187, op := .ext (.s 183) 1 },
        { dst := some 188, op := .ext (.s 183) 2 },
        { dst := some 28, op := .box (.c (.agg zD2)) },
        { dst := some 27, op := .mov (.s 186) },
        { dst := none, op := .stor 64 (.s 28) (.s 187) },
        { dst := some 29, op := .mov (.s 188) }])
      (.seq (.ops [{ dst := some 189, op := .mov (.s 29) },
        { dst := some 190, op := .mov (.s 189) },
        { dst := some 191, op := .mov (.s 27), guard := some (190, true) },
        { dst := some 192, op := .bin .geq (.s 191) (.c (.int .i64 0)), guard := some (190, true) },
        { dst := some 193, op := .pick (.s 190) (.s 192) (.c (.bool false)) },
        { dst := some 194, op := .mov (.s 193) },
        { dst := some 195, op := .mov (.s 2), guard := some (194, true) },
        { dst := some 196, op := .idxA 2 32 (.s 28) (.s 195), guard := some (194, true) },
        { dst := some 197, op := .load 32 true (.s 196), guard := some (194, true) },
        { dst := some 198, op := .mov (.s 0), guard := some (194, true) },
        { dst := some 199, op := .mov (.s 27), guard := some (194, true) },
        { dst := some 200, op := .call 26 [(.s 198), (.s 199)], guard := some (194, true) },
        { dst := some 201, op := .aeq [0, 0, 0, 0, 0, 0, 0, 0, 0, 0, 0, 0, 0, 0, 0, 0, 0, 0, 0, 0, 0, 0, 0, 0, 0, 0, 0, 0, 0, 0, 0, 0] false (.s 197) (.s 200), guard := some (194, true) },
        { dst := some 202, op := .pick (.s 194) (.s 201) (.c (.bool false)) },
        { dst := some 8, op := .mov (.s 202) }])
      (.ret))))))))))
    [.tmp 8]
theorem tr_wagonpoollaw38_BisectHonestParty : trF Tryd.prog [39] 7 [[0, 1, 2, 3, 10, 12]] = some F_wagonpoollaw38_BisectHonestParty := by kernel_rfl

/-! wagonpool/wagonpoollaw38.BisectMatchesReference -/
def F_wagonpoollaw38_BisectMatchesReference : PF :=
  .mk
    (.seq (.ops [{ dst := some 6, op := .box (.s 0) },
        { dst := some 7, op := .box (.s 1) },
        { dst := some 8, op := .box (.s 2) },
        { dst := some 10, op := .box (.s 4) },
        { dst := some 11, op := .box (.s 5) },
        { dst := some 12, op := .mov (.c (.bool false)) }])
      (.seq (.seq (.ops [{ dst := some 27, op := .call 11 [] },
        { dst := some 28, op := .un .not (.s 27) }])
      (.cond (.s 28)
        (.seq (.ops [{ dst := some 12, op := .mov (.c (.bool false)) }])
        (.ret))
        (.skip)))
      (.seq (.ops [{ dst := some 30, op := .load 33 true (.s 6) },
        { dst := some 31, op := .load 33 true (.s 7) },
        { dst := some 32, op := .call 13 [(.s 30), (.s 31)] },
        { dst := some 29, op := .mov (.s 32) },
        { dst := some 33, op := .ext (.s 29) 0 },
        { dst := some 34, op := .ext (.s 29) 1 },
        { dst := some 13, op := .box (.c (.agg (bisC zeroBis))) },
        { dst := none, op := .stor 198 (.s 13) (.s 33) },
        { dst := some 14, op := .mov (.s 34) }])
      (.seq (.ops [{ dst := some 36, op := .load 33 true (.s 6) },
        { dst := some 37, op := .load 33 true (.s 7) },
        { dst := some 38, op := .call 29 [(.s 36), (.s 37)] },
        { dst := some 35, op := .mov (.s 38) },
        { dst := some 39, op := .ext (.s 35) 0 },
        { dst := some 40, op := .ext (.s 35) 1 },
        { dst := some 15, op := .box (.c (.agg (bisC zeroBis))) },
        { dst := none, op := .stor 198 (.s 15) (.s 39) },
        { dst := some 16, op := .mov (.s 40) }])
      (.seq (.ops [{ dst := some 42, op := .load 198 true (.s 8) },
        { dst := some 43, op := .mov (.s 3) },
        { dst := some 44, op := .load 32 true (.s 10) },
        { dst := some 45, op := .load 32 true (.s 11) },
        { dst := some 46, op := .call 28 [(.s 42), (.s 43), (.s 44), (.s 45)] },
        { dst := some 41, op := .mov (.s 46) },
        { dst := some 47, op := .ext (.s 41) 0 },
        { dst := some 48, op := .ext (.s 41) 1 },
        { dst := some 17, op := .box (.c (.agg (bisC zeroBis))) },
        { dst := none, op := .stor 198 (.s 17) (.s 47) },
        { dst := some 18, op := .mov (.s 48) }])
      (.seq (.ops [{ dst := some 50, op := .load 198 true (.s 8) },
        { dst := some 51, op := .mov (.s 3) },
        { dst := some 52, op := .load 32 true (.s 10) },
        { dst := some 53, op := .load 32 true (.s 11) },
        { dst := some 54, op := .call 30 [(.s 50), (.s 51), (.s 52), (.s 53)] },
        { dst := some 49, op := .mov (.s 54) },
        { dst := some 55, op := .ext (.s 49) 0 },
        { dst := some 56, op := .ext (.s 49) 1 },
        { dst := some 19, op := .box (.c (.agg (bisC zeroBis))) },
        { dst := none, op := .stor 198 (.s 19) (.s 55) },
        { dst := some 20, op := .mov (.s 56) }])
      (.seq (.ops [{ dst := some 58, op := .load 198 true (.s 8) },
        { dst := some 59, op := .call 16 [(.s 58)] },
        { dst := some 57, op := .mov (.s 59) },
        { dst := some 60, op := .ext (.s 57) 0 },
        { dst := some 61, op := .ext (.s 57) 1 },
        { dst := some 62, op := .ext (.s 57) 2 },
        { dst := some 22, op := .box (.c (.agg zD2)) },
        { dst := some 21, op := .mov (.s 60) },
        { dst := none, op := .stor 64 (.s 22) (.s 61) },
        { dst := some 23, op := .mov (.s 62) }])
      (.seq (.ops [{ dst := some 64, op := .load 198 true (.s 8) },
        { dst := some 65, op := .call 31 [(.s 64)] },
        { dst := some 63, op := .mov (.s 65) },
        { dst := some 66, op := .ext (.s 63) 0 },
        { dst := some 67, op := .ext (.s 63) 1 },
        { dst := some 68, op := .ext (.s 63) 2 },
        { dst := some 25, op := .box (.c (.agg zD2)) },
        { dst := some 24, op := .mov (.s 66) },
        { dst := none, op := .stor 64 (.s 25) (.s 67) },
        { dst := some 26, op := .mov (.s 68) }])
      (.seq (.ops [{ dst := some 69, op := .load 198 true (.s 13) },
        { dst := some 70, op := .load 198 true (.s 15) },
        { dst := some 71, op := .aeq ksBis false (.s 69) (.s 70) },
        { dst := some 72, op := .mov (.s 71) },
        { dst := some 73, op := .mov (.s 14), guard := some (72, true) },
        { dst := some 74, op := .mov (.s 16), guard := some (72, true) },
        { dst := some 75, op := .bin .eql (.s 73) (.s 74), guard := some (72, true) },
        { dst := some 76, op := .pick (.s 72) (.s 75) (.c (.bool false)) },
        { dst := some 77, op := .mov (.s 76) },
        { dst := some 78, op := .load 198 true (.s 17), guard := some (77, true) },
        { dst := some 79, op := .load 198 true (.s 19), guard := some (77, true) },
        { dst := some 80, op := .aeq ksBis false (.s 78) (.s 79), guard := some (77, true) },
        { dst := some 81, op := .pick (.s 77) (.s 80) (.c (.bool false)) },
        { dst := some 82, op := .mov (.s 81) },
        { dst := some 83, op := .mov (.s 18), guard := some (82, true) },
        { dst := some 84, op := .mov (.s 20), guard := some (82, true) },
        { dst := some 85, op := .bin .eql (.s 83) (.s 84), guard := some (82, true) },
        { dst := some 86, op := .pick (.s 82) (.s 85) (.c (.bool false)) },
        { dst := some 87, op := .mov (.s 86) },
        { dst := some 88, op := .mov (.s 21), guard := some (87, true) },
        { dst := some 89, op := .mov (.s 24), guard := some (87, true) },
        { dst := some 90, op := .bin .eql (.s 88) (.s 89), guard := some (87, true) },
        { dst := some 91, op := .pick (.s 87) (.s 90) (.c (.bool false)) },
        { dst := some 92, op := .mov (.s 91) },
        { dst := some 93, op := .load 64 true (.s 22), guard := some (92, true) },
        { dst := some 94, op := .load 64 true (.s 25), guard := some (92, true) },
        { dst := some 95, op := .aeq ks64 false (.s 93) (.s 94), guard := some (92, true) },
        { dst := some 96, op := .pick (.s 92) (.s 95) (.c (.bool false)) },
        { dst := some 97, op := .mov (.s 96) },
        { dst := some 98, op := .mov (.s 23), guard := some (97, true) },
        { dst := some 99, op := .mov (.s 26), guard := some (97, true) },
        { dst := some 100, op := .beq false (.s 98) (.s 99), guard := some (97, true) },
        { dst := some 101, op := .pick (.s 97) (.s 100) (.c (.bool false)) },
        { dst := some 12, op := .mov (.s 101) }])
      (.ret))))))))))
    [.tmp 12]
theorem tr_wagonpoollaw38_BisectMatchesReference : trF Tryd.prog [39] 8 [] = some F_wagonpoollaw38_BisectMatchesReference := by kernel_rfl

/-! wagonpool/wagonpoollaw38.BisectOrder -/
def F_wagonpoollaw38_BisectOrder_L0 : PC :=
  .seq (.seq (.ops [{ dst := some 26, op := .mov (.s 7) },
      { dst := some 27, op := .bin .lss (.s 26) (.c (.int .i64 5)) },
      { dst := some 28, op := .mov (.s 27) },
      { dst := some 29, op := .mov (.s 6), guard := some (28, true) },
      { dst := some 30, op := .bin .eql (.s 29) (.c (.int .i64 0)), guard := some (28, true) },
      { dst := some 31, op := .pick (.s 28) (.s 30) (.c (.bool false)) },
      { dst := some 32, op := .mov (.s 31) },
      { dst := some 33, op := .fld 1 (.s 5), guard := some (32, true) },
      { dst := some 34, op := .load 1 false (.s 33), guard := some (32, true) },
      { dst := some 35, op := .bin .gtr (.s 34) (.c (.int .i64 0)), guard := some (32, true) },
      { dst := some 36, op := .pick (.s 32) (.s 35) (.c (.bool false)) }])
    (.cond (.s 36)
      (.skip)
      (.exit 0)))
    (.seq (.block 1 (.seq (.ops [{ dst := some 40, op := .load 198 true (.s 5) },
        { dst := some 41, op := .mov (.s 0) },
        { dst := some 42, op := .mov (.s 1) },
        { dst := some 43, op := .call 15 [(.s 40), (.s 41), (.s 42), (.c (.int .i64 0))] },
        { dst := some 39, op := .mov (.s 43) },
        { dst := some 44, op := .ext (.s 39) 0 },
        { dst := some 45, op := .ext (.s 39) 1 },
        { dst := some 8, op := .box (.c (.agg (bisC zeroBis))) },
        { dst := none, op := .stor 198 (.s 8) (.s 44) },
        { dst := some 9, op := .mov (.s 45) }])
      (.seq (.ops [{ dst := some 47, op := .load 198 true (.s 5) },
        { dst := some 48, op := .mov (.s 0) },
        { dst := some 49, op := .mov (.s 1) },
        { dst := some 50, op := .call 15 [(.s 47), (.s 48), (.s 49), (.c (.int .i64 1))] },
        { dst := some 46, op := .mov (.s 50) },
        { dst := some 51, op := .ext (.s 46) 0 },
        { dst := some 52, op := .ext (.s 46) 1 },
        { dst := some 10, op := .box (.c (.agg (bisC zeroBis))) },
        { dst := none, op := .stor 198 (.s 10) (.s 51) },
        { dst := some 11, op := .mov (.s 52) }])
      (.seq (.seq (.ops [{ dst := some 53, op := .mov (.s 9) },
        { dst := some 54, op := .un .not (.s 53) },
        { dst := some 55, op := .mov (.s 54) },
        { dst := some 56, op := .mov (.s 11), guard := some (55, false) },
        { dst := some 57, op := .un .not (.s 56), guard := some (55, false) },
        { dst := some 58, op := .pick (.s 55) (.c (.bool true)) (.s 57) },
        { dst := some 59, op := .mov (.s 58) },
        { dst := some 60, op := .load 198 true (.s 8), guard := some (59, false) },
        { dst := some 61, op := .load 198 true (.s 10), guard := some (59, false) },
        { dst := some 62, op := .aeq ksBis true (.s 60) (.s 61), guard := some (59, false) },
        { dst := some 63, op := .pick (.s 59) (.c (.bool true)) (.s 62) }])
      (.cond (.s 63)
        (.seq (.ops [{ dst := some 4, op := .mov (.c (.bool false)) }])
        (.ret))
        (.skip)))
      (.ops [{ dst := some 64, op := .load 198 true (.s 8) },
        { dst := none, op := .stor 198 (.s 5) (.s 64) }])))))
    (.ops [{ dst := some 37, op := .mov (.s 7) },
      { dst := some 38, op := .bin .add (.s 37) (.c (.int .i64 1)) },
      { dst := some 7, op := .mov (.s 38) }]))

def F_wagonpoollaw38_BisectOrder : PF :=
  .mk
    (.seq (.ops [{ dst := some 4, op := .mov (.c (.bool false)) }])
      (.seq (.seq (.ops [{ dst := some 12, op := .call 11 [] },
        { dst := some 13, op := .un .not (.s 12) }])
      (.cond (.s 13)
        (.seq (.ops [{ dst := some 4, op := .mov (.c (.bool false)) }])
        (.ret))
        (.skip)))
      (.seq (.seq (.ops [{ dst := some 14, op := .mov (.s 0) },
        { dst := some 15, op := .mov (.s 1) },
        { dst := some 16, op := .call 12 [(.s 14), (.s 15)] },
        { dst := some 17, op := .un .not (.s 16) }])
      (.cond (.s 17)
        (.seq (.ops [{ dst := some 4, op := .mov (.c (.bool true)) }])
        (.ret))
        (.skip)))
      (.seq (.ops [{ dst := some 19, op := .mov (.s 0) },
        { dst := some 20, op := .call 14 [(.s 19)] },
        { dst := some 21, op := .mov (.s 1) },
        { dst := some 22, op := .call 14 [(.s 21)] },
        { dst := some 23, op := .call 13 [(.s 20), (.s 22)] },
        { dst := some 18, op := .mov (.s 23) },
        { dst := some 24, op := .ext (.s 18) 0 },
        { dst := some 25, op := .ext (.s 18) 1 },
        { dst := some 5, op := .box (.c (.agg (bisC zeroBis))) },
        { dst := none, op := .stor 198 (.s 5) (.s 24) },
        { dst := some 6, op := .mov (.s 25) }])
      (.seq (.seq (.ops [{ dst := some 7, op := .mov (.c (.int .i64 0)) }])
      (.block 0 (.loop [0, 1, 5, 6, 7] F_wagonpoollaw38_BisectOrder_L0)))
      (.seq (.ops [{ dst := some 65, op := .mov (.s 6) },
        { dst := some 66, op := .bin .eql (.s 65) (.c (.int .i64 0)) },
        { dst := some 67, op := .mov (.s 66) },
        { dst := some 68, op := .mov (.s 6), guard := some (67, false) },
        { dst := some 69, op := .bin .eql (.s 68) (.c (.int .i64 380)), guard := some (67, false) },
        { dst := some 70, op := .pick (.s 67) (.c (.bool true)) (.s 69) },
        { dst := some 4, op := .mov (.s 70) }])
      (.ret)))))))
    [.tmp 4]
theorem tr_wagonpoollaw38_BisectOrder : trF Tryd.prog [39] 9 [[0, 1, 5, 6, 7]] = some F_wagonpoollaw38_BisectOrder := by kernel_rfl

/-! wagonpool/wagonpoollaw38.BisectRefuses -/
def F_wagonpoollaw38_BisectRefuses : PF :=
  .mk
    (.seq (.ops [{ dst := some 6, op := .mov (.c (.bool false)) }])
      (.seq (.seq (.ops [{ dst := some 18, op := .call 11 [] },
        { dst := some 19, op := .un .not (.s 18) }])
      (.cond (.s 19)
        (.seq (.ops [{ dst := some 6, op := .mov (.c (.bool false)) }])
        (.ret))
        (.skip)))
      (.seq (.seq (.ops [{ dst := some 20, op := .mov (.s 0) },
        { dst := some 21, op := .mov (.s 1) },
        { dst := some 22, op := .call 12 [(.s 20), (.s 21)] },
        { dst := some 23, op := .un .not (.s 22) }])
      (.cond (.s 23)
        (.seq (.ops [{ dst := some 6, op := .mov (.c (.bool true)) }])
        (.ret))
        (.skip)))
      (.seq (.ops [{ dst := some 25, op := .mov (.s 0) },
        { dst := some 26, op := .call 14 [(.s 25)] },
        { dst := some 27, op := .mov (.s 1) },
        { dst := some 28, op := .call 14 [(.s 27)] },
        { dst := some 29, op := .call 13 [(.s 26), (.s 28)] },
        { dst := some 24, op := .mov (.s 29) },
        { dst := some 30, op := .ext (.s 24) 0 },
        { dst := some 31, op := .ext (.s 24) 1 },
        { dst := some 7, op := .box (.c (.agg (bisC zeroBis))) },
        { dst := none, op := .stor 198 (.s 7) (.s 30) },
        { dst := some 8, op := .mov (.s 31) }])
      (.seq (.seq (.ops [{ dst := some 32, op := .mov (.s 8) },
        { dst := some 33, op := .bin .neq (.s 32) (.c (.int .i64 0)) }])
      (.cond (.s 33)
        (.seq (.ops [{ dst := some 34, op := .mov (.s 8) },
          { dst := some 35, op := .bin .eql (.s 34) (.c (.int .i64 380)) },
          { dst := some 6, op := .mov (.s 35) }])
        (.ret))
        (.skip)))
      (.seq (.seq (.ops [{ dst := some 36, op := .mov (.s 2) },
        { dst := some 37, op := .bin .lss (.s 36) (.c (.int .i64 0)) },
        { dst := some 38, op := .mov (.s 37) },
        { dst := some 39, op := .mov (.s 2), guard := some (38, false) },
        { dst := some 40, op := .bin .gtr (.s 39) (.c (.int .i64 1)), guard := some (38, false) },
        { dst := some 41, op := .pick (.s 38) (.c (.bool true)) (.s 40) }])
      (.cond (.s 41)
        (.seq (.ops [{ dst := some 43, op := .load 198 true (.s 7) },
          { dst := some 44, op := .mov (.s 2) },
          { dst := some 45, op := .bld (digC zeroDig) [] },
          { dst := some 46, op := .bld (digC zeroDig) [] },
          { dst := some 47, op := .call 28 [(.s 43), (.s 44), (.s 45), (.s 46)] },
          { dst := some 42, op := .mov (.s 47) },
          { dst := some 48, op := .ext (.s 42) 0 },
          { dst := some 49, op := .ext (.s 42) 1 },
          { dst := some 9, op := .box (.c (.agg (bisC zeroBis))) },
          { dst := none, op := .stor 198 (.s 9) (.s 48) },
          { dst := some 10, op := .mov (.s 49) }])
        (.seq (.ops [{ dst := some 50, op := .mov (.s 10) },
          { dst := some 51, op := .bin .eql (.s 50) (.c (.int .i64 1)) },
          { dst := some 6, op := .mov (.s 51) }])
        (.ret)))
        (.skip)))
      (.seq (.any2 [2, 7, 11, 12, 13] [({ dst := some 53, op := .mov (.s 0) }, false, []),
        ({ dst := some 54, op := .mov (.s 1) }, false, []),
        ({ dst := some 55, op := .bld [(.slc 0 [] true), (.slc 0 [] true)] [(0, 1, (.s 53)), (1, 1, (.s 54))] }, false, []),
        ({ dst := some 56, op := .mov (.s 2) }, false, []),
        ({ dst := some 57, op := .idxV 2 1 false (.s 55) (.s 56) }, false, []),
        ({ dst := some 58, op := .load 198 true (.s 7) }, false, []),
        ({ dst := some 59, op := .call 20 [(.s 57), (.s 58)] }, false, []),
        ({ dst := some 52, op := .mov (.s 59) }, false, []),
        ({ dst := some 60, op := .ext (.s 52) 0 }, false, []),
        ({ dst := some 61, op := .ext (.s 52) 1 }, false, []),
        ({ dst := some 62, op := .ext (.s 52) 2 }, false, []),
        ({ dst := some 11, op := .box (.c (.agg (digC zeroDig))) }, false, []),
        ({ dst := some 12, op := .box (.c (.agg (digC zeroDig))) }, false, []),
        ({ dst := none, op := .stor 32 (.s 11) (.s 60) }, false, []),
        ({ dst := none, op := .stor 32 (.s 12) (.s 61) }, false, []),
        ({ dst := some 13, op := .mov (.s 62) }, false, [])] [({ dst := some 53, op := .mov (.s 0) }, false, []),
        ({ dst := some 54, op := .mov (.s 1) }, false, []),
        ({ dst := some 55, op := .bld [(.slc 0 [] true), (.slc 0 [] true)] [(0, 1, (.s 53)), (1, 1, (.s 54))] }, false, []),
        ({ dst := some 56, op := .mov (.s 2) }, false, []),
        ({ dst := some 57, op := .idxV 2 1 false (.s 55) (.s 56) }, false, []),
        ({ dst := some 58, op := .load 198 true (.s 7) }, false, []),
        ({ dst := some 59, op := .call 20 [(.s 57), (.s 58)] }, false, []),
        ({ dst := some 52, op := .mov (.s 59) }, false, []),
        ({ dst := some 60, op := .ext (.s 52) 0 }, false, []),
        ({ dst := some 61, op := .ext (.s 52) 1 }, false, []),
        ({ dst := some 62, op := .ext (.s 52) 2 }, false, []),
        ({ dst := some 12, op := .box (.c (.agg (digC zeroDig))) }, false, []),
        ({ dst := some 11, op := .box (.c (.agg (digC zeroDig))) }, false, []),
        ({ dst := none, op := .stor 32 (.s 11) (.s 60) }, false, []),
        ({ dst := none, op := .stor 32 (.s 12) (.s 61) }, false, []),
        ({ dst := some 13, op := .mov (.s 62) }, false, [])])
      (.seq (.ops [{ dst := some 64, op := .load 198 true (.s 7) },
        { dst := some 65, op := .mov (.s 2) },
        { dst := some 66, op := .load 32 true (.s 11) },
        { dst := some 67, op := .load 32 true (.s 12) },
        { dst := some 68, op := .call 28 [(.s 64), (.s 65), (.s 66), (.s 67)] },
        { dst := some 63, op := .mov (.s 68) },
        { dst := some 69, op := .ext (.s 63) 0 },
        { dst := some 70, op := .ext (.s 63) 1 },
        { dst := some 14, op := .box (.c (.agg (bisC zeroBis))) },
        { dst := none, op := .stor 198 (.s 14) (.s 69) },
        { dst := some 15, op := .mov (.s 70) }])
      (.seq (.seq (.ops [{ dst := some 71, op := .fld 1 (.s 7) },
        { dst := some 72, op := .load 1 false (.s 71) },
        { dst := some 73, op := .bin .eql (.s 72) (.c (.int .i64 0)) }])
      (.cond (.s 73)
        (.seq (.ops [{ dst := some 74, op := .mov (.s 13) },
          { dst := some 75, op := .bin .eql (.s 74) (.c (.int .i64 380)) },
          { dst := some 76, op := .mov (.s 75) },
          { dst := some 77, op := .mov (.s 15), guard := some (76, true) },
          { dst := some 78, op := .bin .eql (.s 77) (.c (.int .i64 380)), guard := some (76, true) },
          { dst := some 79, op := .pick (.s 76) (.s 78) (.c (.bool false)) },
          { dst := some 6, op := .mov (.s 79) }])
        (.ret))
        (.skip)))
      (.seq (.ops [{ dst := some 81, op := .load 198 true (.s 14) },
        { dst := some 82, op := .mov (.s 2) },
        { dst := some 83, op := .load 32 true (.s 11) },
        { dst := some 84, op := .load 32 true (.s 12) },
        { dst := some 85, op := .call 28 [(.s 81), (.s 82), (.s 83), (.s 84)] },
        { dst := some 80, op := .mov (.s 85) },
        { dst := some 86, op := .ext (.s 80) 0 },
        { dst := some 87, op := .ext (.s 80) 1 },
        { dst := some 16, op := .box (.c (.agg (bisC zeroBis))) },
        { dst := none, op := .stor 198 (.s 16) (.s 86) },
        { dst := some 17, op := .mov (.s 87) }])
      (.seq (.ops [{ dst := some 88, op := .mov (.s 13) },
        { dst := some 89, op := .bin .eql (.s 88) (.c (.int .i64 0)) },
        { dst := some 90, op := .mov (.s 89) },
        { dst := some 91, op := .mov (.s 15), guard := some (90, true) },
        { dst := some 92, op := .bin .eql (.s 91) (.c (.int .i64 0)), guard := some (90, true) },
        { dst := some 93, op := .pick (.s 90) (.s 92) (.c (.bool false)) },
        { dst := some 94, op := .mov (.s 93) },
        { dst := some 95, op := .mov (.s 17), guard := some (94, true) },
        { dst := some 96, op := .bin .eql (.s 95) (.c (.int .i64 380)), guard := some (94, true) },
        { dst := some 97, op := .pick (.s 94) (.s 96) (.c (.bool false)) },
        { dst := some 98, op := .mov (.s 97) },
        { dst := some 99, op := .mov (.s 2), guard := some (98, true) },
        { dst := some 100, op := .fld 67 (.s 14), guard := some (98, true) },
        { dst := some 101, op := .idxA 2 1 (.s 100) (.s 99), guard := some (98, true) },
        { dst := some 102, op := .load 1 false (.s 101), guard := some (98, true) },
        { dst := some 103, op := .pick (.s 98) (.s 102) (.c (.bool false)) },
        { dst := some 104, op := .mov (.s 103) },
        { dst := some 105, op := .mov (.s 2), guard := some (104, true) },
        { dst := some 106, op := .bin .sub (.c (.int .i64 1)) (.s 105), guard := some (104, true) },
        { dst := some 107, op := .fld 67 (.s 14), guard := some (104, true) },
        { dst := some 108, op := .idxA 2 1 (.s 107) (.s 106), guard := some (104, true) },
        { dst := some 109, op := .load 1 false (.s 108), guard := some (104, true) },
        { dst := some 110, op := .un .not (.s 109), guard := some (104, true) },
        { dst := some 111, op := .pick (.s 104) (.s 110) (.c (.bool false)) },
        { dst := some 112, op := .mov (.s 111) },
        { dst := some 113, op := .fld 1 (.s 14), guard := some (112, true) },
        { dst := some 114, op := .load 1 false (.s 113), guard := some (112, true) },
        { dst := some 115, op := .fld 1 (.s 7), guard := some (112, true) },
        { dst := some 116, op := .load 1 false (.s 115), guard := some (112, true) },
        { dst := some 117, op := .bin .eql (.s 114) (.s 116), guard := some (112, true) },
        { dst := some 118, op := .pick (.s 112) (.s 117) (.c (.bool false)) },
        { dst := some 6, op := .mov (.s 118) }])
      (.ret))))))))))))
    [.tmp 6]
theorem tr_wagonpoollaw38_BisectRefuses : trF Tryd.prog [39] 10 [[2, 7, 11, 12, 13]] = some F_wagonpoollaw38_BisectRefuses := by kernel_rfl

/-! wagonpool/wagonpoollaw38.sane -/
def F_wagonpoollaw38_sane : PF :=
  .mk
    (.seq (.ops [{ dst := some 0, op := .mov (.c (.bool false)) }])
      (.seq (.ops [{ dst := some 29, op := .bld (digC zeroDig) [(0, 1, (.c (.int .u8 1)))] },
        { dst := some 1, op := .box (.c (.agg (digC zeroDig))) },
        { dst := none, op := .stor 32 (.s 1) (.s 29) }])
      (.seq (.ops [{ dst := some 30, op := .bld (digC zeroDig) [(0, 1, (.c (.int .u8 2)))] },
        { dst := some 2, op := .box (.c (.agg (digC zeroDig))) },
        { dst := none, op := .stor 32 (.s 2) (.s 30) }])
      (.seq (.ops [{ dst := some 31, op := .bld (digC zeroDig) [(0, 1, (.c (.int .u8 3)))] },
        { dst := some 3, op := .box (.c (.agg (digC zeroDig))) },
        { dst := none, op := .stor 32 (.s 3) (.s 31) }])
      (.seq (.ops [{ dst := some 33, op := .load 32 true (.s 1) },
        { dst := some 34, op := .load 32 true (.s 2) },
        { dst := some 35, op := .bslc 32 [(.s 33), (.s 34)] },
        { dst := some 36, op := .call 14 [(.s 35)] },
        { dst := some 37, op := .load 32 true (.s 1) },
        { dst := some 38, op := .load 32 true (.s 3) },
        { dst := some 39, op := .bslc 32 [(.s 37), (.s 38)] },
        { dst := some 40, op := .call 14 [(.s 39)] },
        { dst := some 41, op := .call 13 [(.s 36), (.s 40)] },
        { dst := some 32, op := .mov (.s 41) },
        { dst := some 42, op := .ext (.s 32) 0 },
        { dst := some 43, op := .ext (.s 32) 1 },
        { dst := some 4, op := .box (.c (.agg (bisC zeroBis))) },
        { dst := none, op := .stor 198 (.s 4) (.s 42) },
        { dst := some 5, op := .mov (.s 43) }])
      (.seq (.ops [{ dst := some 45, op := .load 198 true (.s 4) },
        { dst := some 46, op := .load 32 true (.s 1) },
        { dst := some 47, op := .load 32 true (.s 2) },
        { dst := some 48, op := .call 28 [(.s 45), (.c (.int .i64 0)), (.s 46), (.s 47)] },
        { dst := some 44, op := .mov (.s 48) },
        { dst := some 49, op := .ext (.s 44) 0 },
        { dst := some 50, op := .ext (.s 44) 1 },
        { dst := some 6, op := .box (.c (.agg (bisC zeroBis))) },
        { dst := none, op := .stor 198 (.s 6) (.s 49) },
        { dst := some 7, op := .mov (.s 50) }])
      (.seq (.ops [{ dst := some 52, op := .load 198 true (.s 6) },
        { dst := some 53, op := .load 32 true (.s 1) },
        { dst := some 54, op := .load 32 true (.s 3) },
        { dst := some 55, op := .call 28 [(.s 52), (.c (.int .i64 1)), (.s 53), (.s 54)] },
        { dst := some 51, op := .mov (.s 55) },
        { dst := some 56, op := .ext (.s 51) 0 },
        { dst := some 57, op := .ext (.s 51) 1 },
        { dst := some 8, op := .box (.c (.agg (bisC zeroBis))) },
        { dst := none, op := .stor 198 (.s 8) (.s 56) },
        { dst := some 9, op := .mov (.s 57) }])
      (.seq (.ops [{ dst := some 59, op := .load 198 true (.s 4) },
        { dst := some 60, op := .load 32 true (.s 2) },
        { dst := some 61, op := .load 32 true (.s 1) },
        { dst := some 62, op := .call 28 [(.s 59), (.c (.int .i64 0)), (.s 60), (.s 61)] },
        { dst := some 58, op := .mov (.s 62) },
        { dst := some 63, op := .ext (.s 58) 0 },
        { dst := some 64, op := .ext (.s 58) 1 },
        { dst := some 10, op := .box (.c (.agg (bisC zeroBis))) },
        { dst := none, op := .stor 198 (.s 10) (.s 63) },
        { dst := some 11, op := .mov (.s 64) }])
      (.seq (.ops [{ dst := some 66, op := .load 198 true (.s 8) },
        { dst := some 67, op := .call 16 [(.s 66)] },
        { dst := some 65, op := .mov (.s 67) },
        { dst := some 68, op := .ext (.s 65) 0 },
        { dst := some 69, op := .ext (.s 65) 1 },
        { dst := some 70, op := .ext (.s 65) 2 },
        { dst := some 13, op := .box (.c (.agg zD2)) },
        { dst := some 12, op := .mov (.s 68) },
        { dst := none, op := .stor 64 (.s 13) (.s 69) },
        { dst := some 14, op := .mov (.s 70) }])
      (.seq (.ops [{ dst := some 72, op := .load 198 true (.s 4) },
        { dst := some 73, op := .call 16 [(.s 72)] },
        { dst := some 71, op := .mov (.s 73) },
        { dst := some 74, op := .ext (.s 71) 0 },
        { dst := some 75, op := .ext (.s 71) 1 },
        { dst := some 76, op := .ext (.s 71) 2 },
        { dst := some 16, op := .box (.c (.agg zD2)) },
        { dst := some 15, op := .mov (.s 74) },
        { dst := none, op := .stor 64 (.s 16) (.s 75) },
        { dst := some 17, op := .mov (.s 76) }])
      (.seq (.ops [{ dst := some 78, op := .load 32 true (.s 1) },
        { dst := some 79, op := .bslc 32 [(.s 78)] },
        { dst := some 80, op := .call 14 [(.s 79)] },
        { dst := some 81, op := .load 32 true (.s 1) },
        { dst := some 82, op := .load 32 true (.s 2) },
        { dst := some 83, op := .bslc 32 [(.s 81), (.s 82)] },
        { dst := some 84, op := .call 14 [(.s 83)] },
        { dst := some 85, op := .call 13 [(.s 80), (.s 84)] },
        { dst := some 77, op := .mov (.s 85) },
        { dst := some 86, op := .ext (.s 77) 0 },
        { dst := some 87, op := .ext (.s 77) 1 },
        { dst := some 18, op := .box (.c (.agg (bisC zeroBis))) },
        { dst := none, op := .stor 198 (.s 18) (.s 86) },
        { dst := some 19, op := .mov (.s 87) }])
      (.seq (.ops [{ dst := some 89, op := .load 32 true (.s 1) },
        { dst := some 90, op := .bslc 32 [(.s 89)] },
        { dst := some 91, op := .call 14 [(.s 90)] },
        { dst := some 92, op := .load 32 true (.s 2) },
        { dst := some 93, op := .bslc 32 [(.s 92)] },
        { dst := some 94, op := .call 14 [(.s 93)] },
        { dst := some 95, op := .call 13 [(.s 91), (.s 94)] },
        { dst := some 88, op := .mov (.s 95) },
        { dst := some 96, op := .ext (.s 88) 0 },
        { dst := some 97, op := .ext (.s 88) 1 },
        { dst := some 20, op := .box (.c (.agg (bisC zeroBis))) },
        { dst := none, op := .stor 198 (.s 20) (.s 96) },
        { dst := some 21, op := .mov (.s 97) }])
      (.seq (.ops [{ dst := some 99, op := .load 198 true (.s 20) },
        { dst := some 100, op := .call 16 [(.s 99)] },
        { dst := some 98, op := .mov (.s 100) },
        { dst := some 101, op := .ext (.s 98) 0 },
        { dst := some 102, op := .ext (.s 98) 1 },
        { dst := some 103, op := .ext (.s 98) 2 },
        { dst := some 23, op := .box (.c (.agg zD2)) },
        { dst := some 22, op := .mov (.s 101) },
        { dst := none, op := .stor 64 (.s 23) (.s 102) },
        { dst := some 24, op := .mov (.s 103) }])
      (.seq (.ops [{ dst := some 105, op := .call 14 [(.c (.slc 0 [] true))] },
        { dst := some 106, op := .call 32 [] },
        { dst := some 107, op := .bslc 32 [(.s 106)] },
        { dst := some 108, op := .call 14 [(.s 107)] },
        { dst := some 109, op := .call 13 [(.s 105), (.s 108)] },
        { dst := some 104, op := .mov (.s 109) },
        { dst := some 110, op := .ext (.s 104) 0 },
        { dst := some 111, op := .ext (.s 104) 1 },
        { dst := some 25, op := .box (.c (.agg (bisC zeroBis))) },
        { dst := none, op := .stor 198 (.s 25) (.s 110) },
        { dst := some 26, op := .mov (.s 111) }])
      (.seq (.ops [{ dst := some 112, op := .mov (.s 5) },
        { dst := some 113, op := .bin .eql (.s 112) (.c (.int .i64 0)) },
        { dst := some 114, op := .mov (.s 113) },
        { dst := some 115, op := .load 198 true (.s 4), guard := some (114, true) },
        { dst := some 116, op := .load 32 true (.s 1), guard := some (114, true) },
        { dst := some 117, op := .load 32 true (.s 2), guard := some (114, true) },
        { dst := some 118, op := .call 27 [(.s 116), (.s 117)], guard := some (114, true) },
        { dst := some 119, op := .load 32 true (.s 1), guard := some (114, true) },
        { dst := some 120, op := .load 32 true (.s 3), guard := some (114, true) },
        { dst := some 121, op := .call 27 [(.s 119), (.s 120)], guard := some (114, true) },
        { dst := some 122, op := .bld zD2 [(0, 32, (.s 118)), (32, 32, (.s 121))], guard := some (114, true) },
        { dst := some 123, op := .bld (bisC zeroBis) [(0, 1, (.c (.int .i64 1))), (1, 1, (.c (.int .i64 1))), (3, 64, (.s 122))], guard := some (114, true) },
        { dst := some 124, op := .aeq ksBis false (.s 115) (.s 123), guard := some (114, true) },
        { dst := some 125, op := .pick (.s 114) (.s 124) (.c (.bool false)) },
        { dst := some 126, op := .mov (.s 125) },
        { dst := some 127, op := .mov (.s 19), guard := some (126, true) },
        { dst := some 128, op := .bin .eql (.s 127) (.c (.int .i64 0)), guard := some (126, true) },
        { dst := some 129, op := .pick (.s 126) (.s 128) (.c (.bool false)) },
        { dst := some 130, op := .mov (.s 129) },
        { dst := some 131, op := .fld 3 (.s 18), guard := some (130, true) },
        { dst := some 132, op := .load 64 true (.s 131), guard := some (130, true) },
        { dst := some 133, op := .load 32 true (.s 1), guard := some (130, true) },
        { dst := some 134, op := .call 32 [], guard := some (130, true) },
        { dst := some 135, op := .call 27 [(.s 133), (.s 134)], guard := some (130, true) },
        { dst := some 136, op := .load 32 true (.s 1), guard := some (130, true) },
        { dst := some 137, op := .load 32 true (.s 2), guard := some (130, true) },
        { dst := some 138, op := .call 27 [(.s 136), (.s 137)], guard := some (130, true) },
        { dst := some 139, op := .bld zD2 [(0, 32, (.s 135)), (32, 32, (.s 138))], guard := some (130, true) },
        { dst := some 140, op := .aeq ks64 false (.s 132) (.s 139), guard := some (130, true) },
        { dst := some 141, op := .pick (.s 130) (.s 140) (.c (.bool false)) },
        { dst := some 142, op := .mov (.s 141) },
        { dst := some 143, op := .mov (.s 26), guard := some (142, true) },
        { dst := some 144, op := .bin .eql (.s 143) (.c (.int .i64 380)), guard := some (142, true) },
        { dst := some 145, op := .pick (.s 142) (.s 144) (.c (.bool false)) },
        { dst := some 27, op := .mov (.s 145) }])
      (.seq (.ops [{ dst := some 146, op := .mov (.s 7) },
        { dst := some 147, op := .bin .eql (.s 146) (.c (.int .i64 0)) },
        { dst := some 148, op := .mov (.s 147) },
        { dst := some 149, op := .fld 67 (.s 6), guard := some (148, true) },
        { dst := some 150, op := .load 2 true (.s 149), guard := some (148, true) },
        { dst := some 151, op := .bld [(.bool false), (.bool false)] [(0, 1, (.c (.bool true))), (1, 1, (.c (.bool false)))], guard := some (148, true) },
        { dst := some 152, op := .aeq [1, 1] false (.s 150) (.s 151), guard := some (148, true) },
        { dst := some 153, op := .pick (.s 148) (.s 152) (.c (.bool false)) },
        { dst := some 154, op := .mov (.s 153) },
        { dst := some 155, op := .mov (.s 9), guard := some (154, true) },
        { dst := some 156, op := .bin .eql (.s 155) (.c (.int .i64 0)), guard := some (154, true) },
        { dst := some 157, op := .pick (.s 154) (.s 156) (.c (.bool false)) },
        { dst := some 158, op := .mov (.s 157) },
        { dst := some 159, op := .load 198 true (.s 8), guard := some (158, true) },
        { dst := some 160, op := .load 32 true (.s 2), guard := some (158, true) },
        { dst := some 161, op := .load 32 true (.s 3), guard := some (158, true) },
        { dst := some 162, op := .bld zD2 [(0, 32, (.s 160)), (32, 32, (.s 161))], guard := some (158, true) },
        { dst := some 163, op := .bld (bisC zeroBis) [(0, 1, (.c (.int .i64 1))), (2, 1, (.c (.int .i64 1))), (3, 64, (.s 162)), (197, 1, (.c (.int .i64 1)))], guard := some (158, true) },
        { dst := some 164, op := .aeq ksBis false (.s 159) (.s 163), guard := some (158, true) },
        { dst := some 165, op := .pick (.s 158) (.s 164) (.c (.bool false)) },
        { dst := some 166, op := .mov (.s 165) },
        { dst := some 167, op := .mov (.s 11), guard := some (166, true) },
        { dst := some 168, op := .bin .eql (.s 167) (.c (.int .i64 381)), guard := some (166, true) },
        { dst := some 169, op := .pick (.s 166) (.s 168) (.c (.bool false)) },
        { dst := some 28, op := .mov (.s 169) }])
      (.seq (.ops [{ dst := some 170, op := .mov (.s 27) },
        { dst := some 171, op := .mov (.s 170) },
        { dst := some 172, op := .mov (.s 28), guard := some (171, true) },
        { dst := some 173, op := .pick (.s 171) (.s 172) (.c (.bool false)) },
        { dst := some 174, op := .mov (.s 173) },
        { dst := some 175, op := .mov (.s 14), guard := some (174, true) },
        { dst := some 176, op := .pick (.s 174) (.s 175) (.c (.bool false)) },
        { dst := some 177, op := .mov (.s 176) },
        { dst := some 178, op := .mov (.s 12), guard := some (177, true) },
        { dst := some 179, op := .bin .eql (.s 178) (.c (.int .i64 1)), guard := some (177, true) },
        { dst := some 180, op := .pick (.s 177) (.s 179) (.c (.bool false)) },
        { dst := some 181, op := .mov (.s 180) },
        { dst := some 182, op := .load 64 true (.s 13), guard := some (181, true) },
        { dst := some 183, op := .load 32 true (.s 2), guard := some (181, true) },
        { dst := some 184, op := .load 32 true (.s 3), guard := some (181, true) },
        { dst := some 185, op := .bld zD2 [(0, 32, (.s 183)), (32, 32, (.s 184))], guard := some (181, true) },
        { dst := some 186, op := .aeq ks64 false (.s 182) (.s 185), guard := some (181, true) },
        { dst := some 187, op := .pick (.s 181) (.s 186) (.c (.bool false)) },
        { dst := some 188, op := .mov (.s 187) },
        { dst := some 189, op := .mov (.s 17), guard := some (188, true) },
        { dst := some 190, op := .un .not (.s 189), guard := some (188, true) },
        { dst := some 191, op := .pick (.s 188) (.s 190) (.c (.bool false)) },
        { dst := some 192, op := .mov (.s 191) },
        { dst := some 193, op := .mov (.s 21), guard := some (192, true) },
        { dst := some 194, op := .bin .eql (.s 193) (.c (.int .i64 0)), guard := some (192, true) },
        { dst := some 195, op := .pick (.s 192) (.s 194) (.c (.bool false)) },
        { dst := some 196, op := .mov (.s 195) },
        { dst := some 197, op := .mov (.s 24), guard := some (196, true) },
        { dst := some 198, op := .pick (.s 196) (.s 197) (.c (.bool false)) },
        { dst := some 199, op := .mov (.s 198) },
        { dst := some 200, op := .mov (.s 22), guard := some (199, true) },
        { dst := some 201, op := .bin .eql (.s 200) (.c (.int .i64 0)), guard := some (199, true) },
        { dst := some 202, op := .pick (.s 199) (.s 201) (.c (.bool false)) },
        { dst := some 203, op := .mov (.s 202) },
        { dst := some 204, op := .load 64 true (.s 23), guard := some (203, true) },
        { dst := some 205, op := .load 32 true (.s 1), guard := some (203, true) },
        { dst := some 206, op := .load 32 true (.s 2), guard := some (203, true) },
        { dst := some 207, op := .bld zD2 [(0, 32, (.s 205)), (32, 32, (.s 206))], guard := some (203, true) },
        { dst := some 208, op := .aeq ks64 false (.s 204) (.s 207), guard := some (203, true) },
        { dst := some 209, op := .pick (.s 203) (.s 208) (.c (.bool false)) },
        { dst := some 0, op := .mov (.s 209) }])
      (.ret))))))))))))))))))
    [.tmp 0]
theorem tr_wagonpoollaw38_sane : trF Tryd.prog [39] 11 [] = some F_wagonpoollaw38_sane := by kernel_rfl

/-! wagonpool/wagonpoollaw38.few -/
def F_wagonpoollaw38_few : PF :=
  .mk
    (.seq (.ops [{ dst := some 4, op := .mov (.c (.bool false)) }])
      (.seq (.ops [{ dst := some 5, op := .mov (.s 0) },
        { dst := some 6, op := .len false (.s 5) },
        { dst := some 7, op := .bin .leq (.s 6) (.c (.int .i64 10)) },
        { dst := some 8, op := .mov (.s 7) },
        { dst := some 9, op := .mov (.s 1), guard := some (8, true) },
        { dst := some 10, op := .len false (.s 9), guard := some (8, true) },
        { dst := some 11, op := .bin .leq (.s 10) (.c (.int .i64 10)), guard := some (8, true) },
        { dst := some 12, op := .pick (.s 8) (.s 11) (.c (.bool false)) },
        { dst := some 4, op := .mov (.s 12) }])
      (.ret)))
    [.tmp 4]
theorem tr_wagonpoollaw38_few : trF Tryd.prog [39] 12 [] = some F_wagonpoollaw38_few := by kernel_rfl

/-! wagonpool/bisect.Begin -/
def F_bisect_Begin : PF :=
  .mk
    (.seq (.ops [{ dst := some 2, op := .box (.s 0) },
        { dst := some 3, op := .box (.s 1) },
        { dst := some 4, op := .box (.c (.agg (bisC zeroBis))) },
        { dst := some 5, op := .mov (.c (.int .i64 0)) }])
      (.seq (.ops [{ dst := some 9, op := .fld 0 (.s 2) },
        { dst := some 10, op := .load 1 false (.s 9) },
        { dst := some 11, op := .call 22 [(.s 10)] },
        { dst := some 12, op := .fld 0 (.s 3) },
        { dst := some 13, op := .load 1 false (.s 12) },
        { dst := some 14, op := .call 22 [(.s 13)] },
        { dst := some 6, op := .mov (.s 11) },
        { dst := some 7, op := .mov (.s 14) }])
      (.seq (.seq (.ops [{ dst := some 15, op := .mov (.s 6) },
        { dst := some 16, op := .bin .lss (.s 15) (.c (.int .i64 0)) },
        { dst := some 17, op := .mov (.s 16) },
        { dst := some 18, op := .mov (.s 7), guard := some (17, false) },
        { dst := some 19, op := .bin .lss (.s 18) (.c (.int .i64 0)), guard := some (17, false) },
        { dst := some 20, op := .pick (.s 17) (.c (.bool true)) (.s 19) }])
      (.cond (.s 20)
        (.seq (.ops [{ dst := some 21, op := .load 198 true (.s 4) },
          { dst := none, op := .stor 198 (.s 4) (.s 21) },
          { dst := some 5, op := .mov (.c (.int .i64 1)) }])
        (.ret))
        (.skip)))
      (.seq (.ops [{ dst := some 22, op := .mov (.s 6) },
        { dst := some 23, op := .mov (.s 7) },
        { dst := some 24, op := .mm true (.s 22) (.s 23) },
        { dst := some 8, op := .mov (.s 24) }])
      (.seq (.ops [{ dst := some 25, op := .mov (.s 8) },
        { dst := some 26, op := .mov (.s 8) },
        { dst := some 27, op := .load 33 true (.s 2) },
        { dst := some 28, op := .mov (.s 8) },
        { dst := some 29, op := .call 33 [(.s 27), (.s 28)] },
        { dst := some 30, op := .load 33 true (.s 3) },
        { dst := some 31, op := .mov (.s 8) },
        { dst := some 32, op := .call 33 [(.s 30), (.s 31)] },
        { dst := some 33, op := .bld zD2 [(0, 32, (.s 29)), (32, 32, (.s 32))] },
        { dst := some 34, op := .bld (bisC zeroBis) [(0, 1, (.s 25)), (1, 1, (.s 26)), (3, 64, (.s 33))] },
        { dst := none, op := .stor 198 (.s 4) (.s 34) }])
      (.seq (.seq (.ops [{ dst := some 35, op := .fld 3 (.s 4) },
        { dst := some 36, op := .idxA 2 32 (.s 35) (.c (.int .i64 0)) },
        { dst := some 37, op := .load 32 true (.s 36) },
        { dst := some 38, op := .fld 3 (.s 4) },
        { dst := some 39, op := .idxA 2 32 (.s 38) (.c (.int .i64 1)) },
        { dst := some 40, op := .load 32 true (.s 39) },
        { dst := some 41, op := .aeq [0, 0, 0, 0, 0, 0, 0, 0, 0, 0, 0, 0, 0, 0, 0, 0, 0, 0, 0, 0, 0, 0, 0, 0, 0, 0, 0, 0, 0, 0, 0, 0] false (.s 37) (.s 40) }])
      (.cond (.s 41)
        (.seq (.ops [{ dst := some 42, op := .bld (bisC zeroBis) [] },
          { dst := none, op := .stor 198 (.s 4) (.s 42) },
          { dst := some 5, op := .mov (.c (.int .i64 380)) }])
        (.ret))
        (.skip)))
      (.seq (.ops [{ dst := some 43, op := .load 198 true (.s 4) },
        { dst := none, op := .stor 198 (.s 4) (.s 43) },
        { dst := some 5, op := .mov (.c (.int .i64 0)) }])
      (.ret))))))))
    [.cell 4 198 true, .tmp 5]
theorem tr_bisect_Begin : trF Tryd.prog [39] 13 [] = some F_bisect_Begin := by kernel_rfl

/-! wagonpool/wagonpoollaw38.root -/
def F_wagonpoollaw38_root : PF :=
  .mk
    (.seq (.ops [{ dst := some 2, op := .box (.c (.agg [(.int .i64 0), (.int .u8 0), (.int .u8 0), (.int .u8 0), (.int .u8 0), (.int .u8 0), (.int .u8 0), (.int .u8 0), (.int .u8 0), (.int .u8 0), (.int .u8 0), (.int .u8 0), (.int .u8 0), (.int .u8 0), (.int .u8 0), (.int .u8 0), (.int .u8 0), (.int .u8 0), (.int .u8 0), (.int .u8 0), (.int .u8 0), (.int .u8 0), (.int .u8 0), (.int .u8 0), (.int .u8 0), (.int .u8 0), (.int .u8 0), (.int .u8 0), (.int .u8 0), (.int .u8 0), (.int .u8 0), (.int .u8 0), (.int .u8 0)])) }])
      (.seq (.ops [{ dst := some 6, op := .mov (.s 0) },
        { dst := some 7, op := .call 34 [(.s 6)] },
        { dst := some 5, op := .mov (.s 7) },
        { dst := some 8, op := .ext (.s 5) 0 },
        { dst := some 9, op := .ext (.s 5) 1 },
        { dst := some 3, op := .box (.c (.agg [(.int .i64 0), (.int .u8 0), (.int .u8 0), (.int .u8 0), (.int .u8 0), (.int .u8 0), (.int .u8 0), (.int .u8 0), (.int .u8 0), (.int .u8 0), (.int .u8 0), (.int .u8 0), (.int .u8 0), (.int .u8 0), (.int .u8 0), (.int .u8 0), (.int .u8 0), (.int .u8 0), (.int .u8 0), (.int .u8 0), (.int .u8 0), (.int .u8 0), (.int .u8 0), (.int .u8 0), (.int .u8 0), (.int .u8 0), (.int .u8 0), (.int .u8 0), (.int .u8 0), (.int .u8 0), (.int .u8 0), (.int .u8 0), (.int .u8 0)])) },
        { dst := none, op := .stor 33 (.s 3) (.s 8) },
        { dst := some 4, op := .mov (.s 9) }])
      (.seq (.ops [{ dst := some 10, op := .load 33 true (.s 3) },
        { dst := none, op := .stor 33 (.s 2) (.s 10) }])
      (.ret))))
    [.cell 2 33 true]
theorem tr_wagonpoollaw38_root : trF Tryd.prog [39] 14 [] = some F_wagonpoollaw38_root := by kernel_rfl

/-! wagonpool/wagonpoollaw38.round -/
def F_wagonpoollaw38_round : PF :=
  .mk
    (.seq (.ops [{ dst := some 4, op := .box (.s 0) },
        { dst := some 8, op := .box (.c (.agg (bisC zeroBis))) },
        { dst := some 9, op := .mov (.c (.bool false)) }])
      (.seq (.ops [{ dst := some 21, op := .mov (.s 1) },
        { dst := some 22, op := .mov (.s 2) },
        { dst := some 23, op := .bld [(.slc 0 [] true), (.slc 0 [] true)] [(0, 1, (.s 21)), (1, 1, (.s 22))] },
        { dst := some 10, op := .box (.c (.agg [(.slc 0 [] true), (.slc 0 [] true)])) },
        { dst := none, op := .stor 2 (.s 10) (.s 23) }])
      (.seq (.any2 [3, 4, 8, 10, 11, 12, 13] [({ dst := some 25, op := .mov (.s 3) }, false, []),
        ({ dst := some 26, op := .idxA 2 1 (.s 10) (.s 25) }, false, []),
        ({ dst := some 27, op := .load 1 false (.s 26) }, false, []),
        ({ dst := some 28, op := .load 198 true (.s 4) }, false, []),
        ({ dst := some 29, op := .call 20 [(.s 27), (.s 28)] }, false, []),
        ({ dst := some 24, op := .mov (.s 29) }, false, []),
        ({ dst := some 30, op := .ext (.s 24) 0 }, false, []),
        ({ dst := some 31, op := .ext (.s 24) 1 }, false, []),
        ({ dst := some 32, op := .ext (.s 24) 2 }, false, []),
        ({ dst := some 11, op := .box (.c (.agg (digC zeroDig))) }, false, []),
        ({ dst := some 12, op := .box (.c (.agg (digC zeroDig))) }, false, []),
        ({ dst := none, op := .stor 32 (.s 11) (.s 30) }, false, []),
        ({ dst := none, op := .stor 32 (.s 12) (.s 31) }, false, []),
        ({ dst := some 13, op := .mov (.s 32) }, false, [])] [({ dst := some 25, op := .mov (.s 3) }, false, []),
        ({ dst := some 26, op := .idxA 2 1 (.s 10) (.s 25) }, false, []),
        ({ dst := some 27, op := .load 1 false (.s 26) }, false, []),
        ({ dst := some 28, op := .load 198 true (.s 4) }, false, []),
        ({ dst := some 29, op := .call 20 [(.s 27), (.s 28)] }, false, []),
        ({ dst := some 24, op := .mov (.s 29) }, false, []),
        ({ dst := some 30, op := .ext (.s 24) 0 }, false, []),
        ({ dst := some 31, op := .ext (.s 24) 1 }, false, []),
        ({ dst := some 32, op := .ext (.s 24) 2 }, false, []),
        ({ dst := some 12, op := .box (.c (.agg (digC zeroDig))) }, false, []),
        ({ dst := some 11, op := .box (.c (.agg (digC zeroDig))) }, false, []),
        ({ dst := none, op := .stor 32 (.s 11) (.s 30) }, false, []),
        ({ dst := none, op := .stor 32 (.s 12) (.s 31) }, false, []),
        ({ dst := some 13, op := .mov (.s 32) }, false, [])])
      (.seq (.any2 [3, 4, 8, 11, 12, 13, 14, 15, 16] [({ dst := some 34, op := .mov (.s 3) }, false, []),
        ({ dst := some 35, op := .bin .sub (.c (.int .i64 1)) (.s 34) }, false, []),
        ({ dst := some 36, op := .idxA 2 1 (.s 10) (.s 35) }, false, []),
        ({ dst := some 37, op := .load 1 false (.s 36) }, false, []),
        ({ dst := some 38, op := .load 198 true (.s 4) }, false, []),
        ({ dst := some 39, op := .call 20 [(.s 37), (.s 38)] }, false, []),
        ({ dst := some 33, op := .mov (.s 39) }, false, []),
        ({ dst := some 40, op := .ext (.s 33) 0 }, false, []),
        ({ dst := some 41, op := .ext (.s 33) 1 }, false, []),
        ({ dst := some 42, op := .ext (.s 33) 2 }, false, []),
        ({ dst := some 14, op := .box (.c (.agg (digC zeroDig))) }, false, []),
        ({ dst := some 15, op := .box (.c (.agg (digC zeroDig))) }, false, []),
        ({ dst := none, op := .stor 32 (.s 14) (.s 40) }, false, []),
        ({ dst := none, op := .stor 32 (.s 15) (.s 41) }, false, []),
        ({ dst := some 16, op := .mov (.s 42) }, false, [])] [({ dst := some 34, op := .mov (.s 3) }, false, []),
        ({ dst := some 35, op := .bin .sub (.c (.int .i64 1)) (.s 34) }, false, []),
        ({ dst := some 36, op := .idxA 2 1 (.s 10) (.s 35) }, false, []),
        ({ dst := some 37, op := .load 1 false (.s 36) }, false, []),
        ({ dst := some 38, op := .load 198 true (.s 4) }, false, []),
        ({ dst := some 39, op := .call 20 [(.s 37), (.s 38)] }, false, []),
        ({ dst := some 33, op := .mov (.s 39) }, false, []),
        ({ dst := some 40, op := .ext (.s 33) 0 }, false, []),
        ({ dst := some 41, op := .ext (.s 33) 1 }, false, []),
        ({ dst := some 42, op := .ext (.s 33) 2 }, false, []),
        ({ dst := some 15, op := .box (.c (.agg (digC zeroDig))) }, false, []),
        ({ dst := some 14, op := .box (.c (.agg (digC zeroDig))) }, false, []),
        ({ dst := none, op := .stor 32 (.s 14) (.s 40) }, false, []),
        ({ dst := none, op := .stor 32 (.s 15) (.s 41) }, false, []),
        ({ dst := some 16, op := .mov (.s 42) }, false, [])])
      (.seq (.ops [{ dst := some 44, op := .load 198 true (.s 4) },
        { dst := some 45, op := .mov (.s 3) },
        { dst := some 46, op := .load 32 true (.s 11) },
        { dst := some 47, op := .load 32 true (.s 12) },
        { dst := some 48, op := .call 28 [(.s 44), (.s 45), (.s 46), (.s 47)] },
        { dst := some 43, op := .mov (.s 48) },
        { dst := some 49, op := .ext (.s 43) 0 },
        { dst := some 50, op := .ext (.s 43) 1 },
        { dst := some 17, op := .box (.c (.agg (bisC zeroBis))) },
        { dst := none, op := .stor 198 (.s 17) (.s 49) },
        { dst := some 18, op := .mov (.s 50) }])
      (.seq (.ops [{ dst := some 52, op := .load 198 true (.s 17) },
        { dst := some 53, op := .mov (.s 3) },
        { dst := some 54, op := .bin .sub (.c (.int .i64 1)) (.s 53) },
        { dst := some 55, op := .load 32 true (.s 14) },
        { dst := some 56, op := .load 32 true (.s 15) },
        { dst := some 57, op := .call 28 [(.s 52), (.s 54), (.s 55), (.s 56)] },
        { dst := some 51, op := .mov (.s 57) },
        { dst := some 58, op := .ext (.s 51) 0 },
        { dst := some 59, op := .ext (.s 51) 1 },
        { dst := some 19, op := .box (.c (.agg (bisC zeroBis))) },
        { dst := none, op := .stor 198 (.s 19) (.s 58) },
        { dst := some 20, op := .mov (.s 59) }])
      (.seq (.ops [{ dst := some 60, op := .load 198 true (.s 19) },
        { dst := some 61, op := .mov (.s 13) },
        { dst := some 62, op := .bin .eql (.s 61) (.c (.int .i64 0)) },
        { dst := some 63, op := .mov (.s 62) },
        { dst := some 64, op := .mov (.s 16), guard := some (63, true) },
        { dst := some 65, op := .bin .eql (.s 64) (.c (.int .i64 0)), guard := some (63, true) },
        { dst := some 66, op := .pick (.s 63) (.s 65) (.c (.bool false)) },
        { dst := some 67, op := .mov (.s 66) },
        { dst := some 68, op := .mov (.s 18), guard := some (67, true) },
        { dst := some 69, op := .bin .eql (.s 68) (.c (.int .i64 0)), guard := some (67, true) },
        { dst := some 70, op := .pick (.s 67) (.s 69) (.c (.bool false)) },
        { dst := some 71, op := .mov (.s 70) },
        { dst := some 72, op := .mov (.s 20), guard := some (71, true) },
        { dst := some 73, op := .bin .eql (.s 72) (.c (.int .i64 0)), guard := some (71, true) },
        { dst := some 74, op := .pick (.s 71) (.s 73) (.c (.bool false)) },
        { dst := none, op := .stor 198 (.s 8) (.s 60) },
        { dst := some 9, op := .mov (.s 74) }])
      (.ret))))))))
    [.cell 8 198 true, .tmp 9]
theorem tr_wagonpoollaw38_round : trF Tryd.prog [39] 15 [[3, 4, 8, 10, 11, 12, 13], [3, 4, 8, 11, 12, 13, 14, 15, 16]] = some F_wagonpoollaw38_round := by kernel_rfl

/-! wagonpool/bisect.Done -/
def F_bisect_Done : PF :=
  .mk
    (.seq (.ops [{ dst := some 1, op := .box (.s 0) },
        { dst := some 2, op := .mov (.c (.int .i64 0)) },
        { dst := some 3, op := .box (.c (.agg zD2)) },
        { dst := some 4, op := .mov (.c (.bool false)) }])
      (.seq (.seq (.ops [{ dst := some 5, op := .load 198 true (.s 1) },
        { dst := some 6, op := .call 35 [(.s 5)] },
        { dst := some 7, op := .un .not (.s 6) },
        { dst := some 8, op := .mov (.s 7) },
        { dst := some 9, op := .fld 1 (.s 1), guard := some (8, false) },
        { dst := some 10, op := .load 1 false (.s 9), guard := some (8, false) },
        { dst := some 11, op := .bin .gtr (.s 10) (.c (.int .i64 0)), guard := some (8, false) },
        { dst := some 12, op := .pick (.s 8) (.c (.bool true)) (.s 11) }])
      (.cond (.s 12)
        (.seq (.ops [{ dst := some 13, op := .load 64 true (.s 3) },
          { dst := some 2, op := .mov (.c (.int .i64 0)) },
          { dst := none, op := .stor 64 (.s 3) (.s 13) },
          { dst := some 4, op := .mov (.c (.bool false)) }])
        (.ret))
        (.skip)))
      (.seq (.ops [{ dst := some 14, op := .fld 2 (.s 1) },
        { dst := some 15, op := .load 1 false (.s 14) },
        { dst := some 16, op := .fld 3 (.s 1) },
        { dst := some 17, op := .load 64 true (.s 16) },
        { dst := some 2, op := .mov (.s 15) },
        { dst := none, op := .stor 64 (.s 3) (.s 17) },
        { dst := some 4, op := .mov (.c (.bool true)) }])
      (.ret))))
    [.tmp 2, .cell 3 64 true, .tmp 4]
theorem tr_bisect_Done : trF Tryd.prog [39] 16 [] = some F_bisect_Done := by kernel_rfl

/-! wagonpool/wagonpoollaw38.collides -/
def F_wagonpoollaw38_collides_L0 : PC :=
  .seq (.seq (.ops [{ dst := some 31, op := .mov (.s 7) },
      { dst := some 32, op := .mov (.s 6) },
      { dst := some 33, op := .bin .add (.s 32) (.c (.int .i64 1)) },
      { dst := some 34, op := .bin .shr (.c (.int .i64 16)) (.s 33) },
      { dst := some 35, op := .bin .lss (.s 31) (.s 34) }])
    (.cond (.s 35)
      (.skip)
      (.exit 2)))
    (.seq (.block 3 (.seq (.ops [{ dst := some 39, op := .mov (.s 0) },
        { dst := some 40, op := .mov (.s 6) },
        { dst := some 41, op := .mov (.s 7) },
        { dst := some 42, op := .bin .mul (.c (.int .i64 2)) (.s 41) },
        { dst := some 43, op := .call 37 [(.s 39), (.s 40), (.s 42)] },
        { dst := some 38, op := .mov (.s 43) },
        { dst := some 44, op := .ext (.s 38) 0 },
        { dst := some 45, op := .ext (.s 38) 1 },
        { dst := some 8, op := .box (.c (.agg (digC zeroDig))) },
        { dst := none, op := .stor 32 (.s 8) (.s 44) },
        { dst := some 9, op := .mov (.s 45) }])
      (.seq (.ops [{ dst := some 47, op := .mov (.s 0) },
        { dst := some 48, op := .mov (.s 6) },
        { dst := some 49, op := .mov (.s 7) },
        { dst := some 50, op := .bin .mul (.c (.int .i64 2)) (.s 49) },
        { dst := some 51, op := .bin .add (.s 50) (.c (.int .i64 1)) },
        { dst := some 52, op := .call 37 [(.s 47), (.s 48), (.s 51)] },
        { dst := some 46, op := .mov (.s 52) },
        { dst := some 53, op := .ext (.s 46) 0 },
        { dst := some 54, op := .ext (.s 46) 1 },
        { dst := some 10, op := .box (.c (.agg (digC zeroDig))) },
        { dst := none, op := .stor 32 (.s 10) (.s 53) },
        { dst := some 11, op := .mov (.s 54) }])
      (.seq (.ops [{ dst := some 56, op := .mov (.s 1) },
        { dst := some 57, op := .mov (.s 6) },
        { dst := some 58, op := .mov (.s 7) },
        { dst := some 59, op := .bin .mul (.c (.int .i64 2)) (.s 58) },
        { dst := some 60, op := .call 37 [(.s 56), (.s 57), (.s 59)] },
        { dst := some 55, op := .mov (.s 60) },
        { dst := some 61, op := .ext (.s 55) 0 },
        { dst := some 62, op := .ext (.s 55) 1 },
        { dst := some 12, op := .box (.c (.agg (digC zeroDig))) },
        { dst := none, op := .stor 32 (.s 12) (.s 61) },
        { dst := some 13, op := .mov (.s 62) }])
      (.seq (.ops [{ dst := some 64, op := .mov (.s 1) },
        { dst := some 65, op := .mov (.s 6) },
        { dst := some 66, op := .mov (.s 7) },
        { dst := some 67, op := .bin .mul (.c (.int .i64 2)) (.s 66) },
        { dst := some 68, op := .bin .add (.s 67) (.c (.int .i64 1)) },
        { dst := some 69, op := .call 37 [(.s 64), (.s 65), (.s 68)] },
        { dst := some 63, op := .mov (.s 69) },
        { dst := some 70, op := .ext (.s 63) 0 },
        { dst := some 71, op := .ext (.s 63) 1 },
        { dst := some 14, op := .box (.c (.agg (digC zeroDig))) },
        { dst := none, op := .stor 32 (.s 14) (.s 70) },
        { dst := some 15, op := .mov (.s 71) }])
      (.seq (.ops [{ dst := some 72, op := .load 32 true (.s 8) },
        { dst := some 73, op := .load 32 true (.s 12) },
        { dst := some 74, op := .aeq [0, 0, 0, 0, 0, 0, 0, 0, 0, 0, 0, 0, 0, 0, 0, 0, 0, 0, 0, 0, 0, 0, 0, 0, 0, 0, 0, 0, 0, 0, 0, 0] true (.s 72) (.s 73) },
        { dst := some 75, op := .mov (.s 74) },
        { dst := some 76, op := .load 32 true (.s 10), guard := some (75, false) },
        { dst := some 77, op := .load 32 true (.s 14), guard := some (75, false) },
        { dst := some 78, op := .aeq [0, 0, 0, 0, 0, 0, 0, 0, 0, 0, 0, 0, 0, 0, 0, 0, 0, 0, 0, 0, 0, 0, 0, 0, 0, 0, 0, 0, 0, 0, 0, 0] true (.s 76) (.s 77), guard := some (75, false) },
        { dst := some 79, op := .pick (.s 75) (.c (.bool true)) (.s 78) },
        { dst := some 80, op := .mov (.s 79) },
        { dst := some 81, op := .load 32 true (.s 8), guard := some (80, true) },
        { dst := some 82, op := .load 32 true (.s 10), guard := some (80, true) },
        { dst := some 83, op := .call 38 [(.s 81), (.s 82)], guard := some (80, true) },
        { dst := some 84, op := .load 32 true (.s 12), guard := some (80, true) },
        { dst := some 85, op := .load 32 true (.s 14), guard := some (80, true) },
        { dst := some 86, op := .call 38 [(.s 84), (.s 85)], guard := some (80, true) },
        { dst := some 87, op := .aeq [0, 0, 0, 0, 0, 0, 0, 0, 0, 0, 0, 0, 0, 0, 0, 0, 0, 0, 0, 0, 0, 0, 0, 0, 0, 0, 0, 0, 0, 0, 0, 0] false (.s 83) (.s 86), guard := some (80, true) },
        { dst := some 88, op := .pick (.s 80) (.s 87) (.c (.bool false)) }])
      (.cond (.s 88)
        (.seq (.ops [{ dst := some 4, op := .mov (.c (.bool true)) }])
        (.ret))
        (.skip))))))))
    (.ops [{ dst := some 36, op := .mov (.s 7) },
      { dst := some 37, op := .bin .add (.s 36) (.c (.int .i64 1)) },
      { dst := some 7, op := .mov (.s 37) }]))

def F_wagonpoollaw38_collides_L1 : PC :=
  .seq (.seq (.ops [{ dst := some 22, op := .mov (.s 6) },
      { dst := some 23, op := .mov (.s 5) },
      { dst := some 24, op := .bin .lss (.s 22) (.s 23) },
      { dst := some 25, op := .mov (.s 24) },
      { dst := some 26, op := .mov (.s 6), guard := some (25, true) },
      { dst := some 27, op := .bin .lss (.s 26) (.c (.int .i64 5)), guard := some (25, true) },
      { dst := some 28, op := .pick (.s 25) (.s 27) (.c (.bool false)) }])
    (.cond (.s 28)
      (.skip)
      (.exit 0)))
    (.seq (.block 1 (.seq (.ops [{ dst := some 7, op := .mov (.c (.int .i64 0)) }])
      (.block 2 (.loop [0, 1, 5, 6, 7] F_wagonpoollaw38_collides_L0))))
    (.ops [{ dst := some 29, op := .mov (.s 6) },
      { dst := some 30, op := .bin .add (.s 29) (.c (.int .i64 1)) },
      { dst := some 6, op := .mov (.s 30) }]))

def F_wagonpoollaw38_collides : PF :=
  .mk
    (.seq (.ops [{ dst := some 4, op := .mov (.c (.bool false)) }])
      (.seq (.ops [{ dst := some 16, op := .mov (.s 0) },
        { dst := some 17, op := .len false (.s 16) },
        { dst := some 18, op := .mov (.s 1) },
        { dst := some 19, op := .len false (.s 18) },
        { dst := some 20, op := .mm true (.s 17) (.s 19) },
        { dst := some 21, op := .call 36 [(.s 20)] },
        { dst := some 5, op := .mov (.s 21) }])
      (.seq (.seq (.ops [{ dst := some 6, op := .mov (.c (.int .i64 0)) }])
      (.block 0 (.loop [0, 1, 5, 6] F_wagonpoollaw38_collides_L1)))
      (.seq (.ops [{ dst := some 4, op := .mov (.c (.bool false)) }])
      (.ret)))))
    [.tmp 4]
theorem tr_wagonpoollaw38_collides : trF Tryd.prog [39] 17 [[0, 1, 5, 6], [0, 1, 5, 6, 7]] = some F_wagonpoollaw38_collides := by kernel_rfl

/-! wagonpool/merkle.Path -/
def F_merkle_Path : PF :=
  .mk
    (.seq (.ops [{ dst := some 3, op := .box (.s 1) },
        { dst := some 4, op := .mov (.c (.slc 0 [] true)) },
        { dst := some 5, op := .mov (.c (.int .i64 0)) }])
      (.seq (.seq (.ops [{ dst := some 8, op := .mov (.s 0) },
        { dst := some 9, op := .len false (.s 8) },
        { dst := some 10, op := .bin .gtr (.s 9) (.c (.int .i64 65536)) }])
      (.cond (.s 10)
        (.seq (.ops [{ dst := some 4, op := .mov (.c (.slc 0 [] true)) },
          { dst := some 5, op := .mov (.c (.int .i64 2)) }])
        (.ret))
        (.skip)))
      (.seq (.ops [{ dst := some 11, op := .mov (.s 0) },
        { dst := some 12, op := .len false (.s 11) },
        { dst := some 13, op := .call 22 [(.s 12)] },
        { dst := some 6, op := .mov (.s 13) }])
      (.seq (.seq (.ops [{ dst := some 14, op := .load 1 false (.s 3) },
        { dst := some 15, op := .bin .lss (.s 14) (.c (.int .i64 0)) },
        { dst := some 16, op := .mov (.s 15) },
        { dst := some 17, op := .load 1 false (.s 3), guard := some (16, false) },
        { dst := some 18, op := .mov (.s 6), guard := some (16, false) },
        { dst := some 19, op := .bin .shl (.c (.int .i64 1)) (.s 18), guard := some (16, false) },
        { dst := some 20, op := .bin .geq (.s 17) (.s 19), guard := some (16, false) },
        { dst := some 21, op := .pick (.s 16) (.c (.bool true)) (.s 20) }])
      (.cond (.s 21)
        (.seq (.ops [{ dst := some 4, op := .mov (.c (.slc 0 [] true)) },
          { dst := some 5, op := .mov (.c (.int .i64 1)) }])
        (.ret))
        (.skip)))
      (.seq (.ops [{ dst := some 22, op := .mov (.s 6) },
        { dst := some 23, op := .mkslc 32 32 (.agg (digC zeroDig)) (.c (.int .i64 0)) (.s 22) },
        { dst := some 7, op := .box (.c (.slc 0 [] true)) },
        { dst := none, op := .stor 1 (.s 7) (.s 23) }])
      (.seq (.seq (.ops [{ dst := some 24, op := .mov (.s 6) },
        { dst := some 25, op := .bin .gtr (.s 24) (.c (.int .i64 0)) }])
      (.cond (.s 25)
        (.ops [{ dst := some 26, op := .mov (.s 0) },
          { dst := some 27, op := .mov (.s 6) },
          { dst := some 28, op := .bin .sub (.s 27) (.c (.int .i64 1)) },
          { dst := some 29, op := .mkclo 40 [(.s 7), (.s 3)] },
          { dst := some 30, op := .icall 39 [(.s 26), (.s 28), (.s 29)] }])
        (.skip)))
      (.seq (.ops [{ dst := some 31, op := .load 1 false (.s 7) },
        { dst := some 4, op := .mov (.s 31) },
        { dst := some 5, op := .mov (.c (.int .i64 0)) }])
      (.ret))))))))
    [.tmp 4, .tmp 5]
theorem tr_merkle_Path : trF Tryd.prog [39] 18 [] = some F_merkle_Path := by kernel_rfl

/-! wagonpool/merkle.Includes -/
def F_merkle_Includes_L0 : PC :=
  .seq (.ops [{ dst := some 35, op := .bin .lss (.s 34) (.s 33) }])
    (.seq (.cond (.s 35)
      (.skip)
      (.exit 0))
    (.seq (.block 1 (.seq (.ops [{ dst := some 36, op := .mov (.s 34) },
        { dst := some 10, op := .mov (.s 36) }])
      (.seq (.ops [{ dst := some 37, op := .mov (.s 1) },
        { dst := some 38, op := .mov (.s 10) },
        { dst := some 39, op := .bin .shr (.s 37) (.s 38) },
        { dst := some 40, op := .bin .and (.s 39) (.c (.int .i64 1)) },
        { dst := some 41, op := .bin .eql (.s 40) (.c (.int .i64 0)) }])
      (.cond (.s 41)
        (.ops [{ dst := some 42, op := .load 32 true (.s 6) },
          { dst := some 43, op := .mov (.s 3) },
          { dst := some 44, op := .mov (.s 10) },
          { dst := some 45, op := .idxS 32 (.s 43) (.s 44) },
          { dst := some 46, op := .load 32 true (.s 45) },
          { dst := some 47, op := .call 27 [(.s 42), (.s 46)] },
          { dst := none, op := .stor 32 (.s 6) (.s 47) }])
        (.ops [{ dst := some 48, op := .mov (.s 3) },
          { dst := some 49, op := .mov (.s 10) },
          { dst := some 50, op := .idxS 32 (.s 48) (.s 49) },
          { dst := some 51, op := .load 32 true (.s 50) },
          { dst := some 52, op := .load 32 true (.s 6) },
          { dst := some 53, op := .call 27 [(.s 51), (.s 52)] },
          { dst := none, op := .stor 32 (.s 6) (.s 53) }])))))
    (.ops [{ dst := some 54, op := .bin .add (.s 34) (.c (.int .i64 1)) },
      { dst := some 34, op := .mov (.s 54) }])))

def F_merkle_Includes : PF :=
  .mk
    (.seq (.ops [{ dst := some 4, op := .box (.s 0) },
        { dst := some 6, op := .box (.s 2) },
        { dst := some 8, op := .mov (.c (.bool false)) }])
      (.seq (.ops [{ dst := some 11, op := .fld 0 (.s 4) },
        { dst := some 12, op := .load 1 false (.s 11) },
        { dst := some 13, op := .call 22 [(.s 12)] },
        { dst := some 9, op := .mov (.s 13) }])
      (.seq (.seq (.ops [{ dst := some 14, op := .mov (.s 9) },
        { dst := some 15, op := .bin .lss (.s 14) (.c (.int .i64 0)) },
        { dst := some 16, op := .mov (.s 15) },
        { dst := some 17, op := .mov (.s 1), guard := some (16, false) },
        { dst := some 18, op := .bin .lss (.s 17) (.c (.int .i64 0)), guard := some (16, false) },
        { dst := some 19, op := .pick (.s 16) (.c (.bool true)) (.s 18) },
        { dst := some 20, op := .mov (.s 19) },
        { dst := some 21, op := .mov (.s 1), guard := some (20, false) },
        { dst := some 22, op := .mov (.s 9), guard := some (20, false) },
        { dst := some 23, op := .bin .shl (.c (.int .i64 1)) (.s 22), guard := some (20, false) },
        { dst := some 24, op := .bin .geq (.s 21) (.s 23), guard := some (20, false) },
        { dst := some 25, op := .pick (.s 20) (.c (.bool true)) (.s 24) },
        { dst := some 26, op := .mov (.s 25) },
        { dst := some 27, op := .mov (.s 3), guard := some (26, false) },
        { dst := some 28, op := .len false (.s 27), guard := some (26, false) },
        { dst := some 29, op := .mov (.s 9), guard := some (26, false) },
        { dst := some 30, op := .bin .neq (.s 28) (.s 29), guard := some (26, false) },
        { dst := some 31, op := .pick (.s 26) (.c (.bool true)) (.s 30) }])
      (.cond (.s 31)
        (.seq (.ops [{ dst := some 8, op := .mov (.c (.bool false)) }])
        (.ret))
        (.skip)))
      (.seq (.seq (.ops [{ dst := some 32, op := .mov (.s 3) },
        { dst := some 33, op := .len false (.s 32) },
        { dst := some 34, op := .mov (.c (.int .i64 0)) }])
      (.block 0 (.loop [1, 3, 4, 6, 33, 34] F_merkle_Includes_L0)))
      (.seq (.ops [{ dst := some 55, op := .load 32 true (.s 6) },
        { dst := some 56, op := .fld 1 (.s 4) },
        { dst := some 57, op := .load 32 true (.s 56) },
        { dst := some 58, op := .aeq [0, 0, 0, 0, 0, 0, 0, 0, 0, 0, 0, 0, 0, 0, 0, 0, 0, 0, 0, 0, 0, 0, 0, 0, 0, 0, 0, 0, 0, 0, 0, 0] false (.s 55) (.s 57) },
        { dst := some 8, op := .mov (.s 58) }])
      (.ret))))))
    [.tmp 8]
theorem tr_merkle_Includes : trF Tryd.prog [39] 19 [[1, 3, 4, 6, 33, 34]] = some F_merkle_Includes := by kernel_rfl

/-! wagonpool/bisect.Answer -/
def F_bisect_Answer : PF :=
  .mk
    (.seq (.ops [{ dst := some 3, op := .box (.s 1) },
        { dst := some 4, op := .box (.c (.agg (digC zeroDig))) },
        { dst := some 5, op := .box (.c (.agg (digC zeroDig))) },
        { dst := some 6, op := .mov (.c (.int .i64 0)) }])
      (.seq (.seq (.ops [{ dst := some 7, op := .load 198 true (.s 3) },
        { dst := some 8, op := .call 35 [(.s 7)] },
        { dst := some 9, op := .un .not (.s 8) }])
      (.cond (.s 9)
        (.seq (.any [({ dst := some 10, op := .load 32 true (.s 4) }, false, []),
          ({ dst := some 11, op := .load 32 true (.s 5) }, true, []),
          ({ dst := none, op := .stor 32 (.s 4) (.s 10) }, false, [1]),
          ({ dst := none, op := .stor 32 (.s 5) (.s 11) }, false, []),
          ({ dst := some 6, op := .mov (.c (.int .i64 1)) }, false, [])])
        (.ret))
        (.skip)))
      (.seq (.seq (.ops [{ dst := some 12, op := .mov (.s 0) },
        { dst := some 13, op := .len false (.s 12) },
        { dst := some 14, op := .bin .gtr (.s 13) (.c (.int .i64 65536)) }])
      (.cond (.s 14)
        (.seq (.any [({ dst := some 15, op := .load 32 true (.s 4) }, false, []),
          ({ dst := some 16, op := .load 32 true (.s 5) }, true, []),
          ({ dst := none, op := .stor 32 (.s 4) (.s 15) }, false, [1]),
          ({ dst := none, op := .stor 32 (.s 5) (.s 16) }, false, []),
          ({ dst := some 6, op := .mov (.c (.int .i64 2)) }, false, [])])
        (.ret))
        (.skip)))
      (.seq (.seq (.ops [{ dst := some 17, op := .fld 1 (.s 3) },
        { dst := some 18, op := .load 1 false (.s 17) },
        { dst := some 19, op := .bin .eql (.s 18) (.c (.int .i64 0)) }])
      (.cond (.s 19)
        (.seq (.any [({ dst := some 20, op := .load 32 true (.s 4) }, false, []),
          ({ dst := some 21, op := .load 32 true (.s 5) }, true, []),
          ({ dst := none, op := .stor 32 (.s 4) (.s 20) }, false, [1]),
          ({ dst := none, op := .stor 32 (.s 5) (.s 21) }, false, []),
          ({ dst := some 6, op := .mov (.c (.int .i64 380)) }, false, [])])
        (.ret))
        (.skip)))
      (.seq (.ops [{ dst := some 23, op := .mov (.s 0) },
        { dst := some 24, op := .fld 1 (.s 3) },
        { dst := some 25, op := .load 1 false (.s 24) },
        { dst := some 26, op := .bin .sub (.s 25) (.c (.int .i64 1)) },
        { dst := some 27, op := .fld 2 (.s 3) },
        { dst := some 28, op := .load 1 false (.s 27) },
        { dst := some 29, op := .bin .mul (.c (.int .i64 2)) (.s 28) },
        { dst := some 30, op := .call 23 [(.s 23), (.s 26), (.s 29)] },
        { dst := some 22, op := .mov (.s 30) },
        { dst := some 31, op := .ext (.s 22) 0 },
        { dst := some 32, op := .ext (.s 22) 1 },
        { dst := none, op := .stor 32 (.s 4) (.s 31) }])
      (.seq (.ops [{ dst := some 34, op := .mov (.s 0) },
        { dst := some 35, op := .fld 1 (.s 3) },
        { dst := some 36, op := .load 1 false (.s 35) },
        { dst := some 37, op := .bin .sub (.s 36) (.c (.int .i64 1)) },
        { dst := some 38, op := .fld 2 (.s 3) },
        { dst := some 39, op := .load 1 false (.s 38) },
        { dst := some 40, op := .bin .mul (.c (.int .i64 2)) (.s 39) },
        { dst := some 41, op := .bin .add (.s 40) (.c (.int .i64 1)) },
        { dst := some 42, op := .call 23 [(.s 34), (.s 37), (.s 41)] },
        { dst := some 33, op := .mov (.s 42) },
        { dst := some 43, op := .ext (.s 33) 0 },
        { dst := some 44, op := .ext (.s 33) 1 },
        { dst := none, op := .stor 32 (.s 5) (.s 43) }])
      (.seq (.any [({ dst := some 45, op := .load 32 true (.s 4) }, false, []),
        ({ dst := some 46, op := .load 32 true (.s 5) }, true, []),
        ({ dst := none, op := .stor 32 (.s 4) (.s 45) }, false, [1]),
        ({ dst := none, op := .stor 32 (.s 5) (.s 46) }, false, []),
        ({ dst := some 6, op := .mov (.c (.int .i64 0)) }, false, [])])
      (.ret))))))))
    [.cell 4 32 true, .cell 5 32 true, .tmp 6]
theorem tr_bisect_Answer : trF Tryd.prog [39] 20 [] = some F_bisect_Answer := by kernel_rfl

/-! wagonpool/wagonpoolref38.Answer -/
def F_wagonpoolref38_Answer : PF :=
  .mk
    (.seq (.ops [{ dst := some 3, op := .box (.s 1) },
        { dst := some 4, op := .box (.c (.agg (digC zeroDig))) },
        { dst := some 5, op := .box (.c (.agg (digC zeroDig))) },
        { dst := some 6, op := .mov (.c (.int .i64 0)) }])
      (.seq (.seq (.ops [{ dst := some 11, op := .load 198 true (.s 3) },
        { dst := some 12, op := .call 42 [(.s 11)] },
        { dst := some 13, op := .un .not (.s 12) }])
      (.cond (.s 13)
        (.seq (.ops [{ dst := some 14, op := .bld (digC zeroDig) [] },
          { dst := some 15, op := .bld (digC zeroDig) [] },
          { dst := none, op := .stor 32 (.s 4) (.s 14) },
          { dst := none, op := .stor 32 (.s 5) (.s 15) },
          { dst := some 6, op := .mov (.c (.int .i64 1)) }])
        (.ret))
        (.skip)))
      (.seq (.seq (.ops [{ dst := some 16, op := .mov (.s 0) },
        { dst := some 17, op := .len false (.s 16) },
        { dst := some 18, op := .bin .gtr (.s 17) (.c (.int .i64 65536)) }])
      (.cond (.s 18)
        (.seq (.ops [{ dst := some 19, op := .bld (digC zeroDig) [] },
          { dst := some 20, op := .bld (digC zeroDig) [] },
          { dst := none, op := .stor 32 (.s 4) (.s 19) },
          { dst := none, op := .stor 32 (.s 5) (.s 20) },
          { dst := some 6, op := .mov (.c (.int .i64 2)) }])
        (.ret))
        (.skip)))
      (.seq (.seq (.ops [{ dst := some 21, op := .fld 1 (.s 3) },
        { dst := some 22, op := .load 1 false (.s 21) },
        { dst := some 23, op := .bin .eql (.s 22) (.c (.int .i64 0)) }])
      (.cond (.s 23)
        (.seq (.ops [{ dst := some 24, op := .bld (digC zeroDig) [] },
          { dst := some 25, op := .bld (digC zeroDig) [] },
          { dst := none, op := .stor 32 (.s 4) (.s 24) },
          { dst := none, op := .stor 32 (.s 5) (.s 25) },
          { dst := some 6, op := .mov (.c (.int .i64 380)) }])
        (.ret))
        (.skip)))
      (.seq (.ops [{ dst := some 27, op := .mov (.s 0) },
        { dst := some 28, op := .fld 1 (.s 3) },
        { dst := some 29, op := .load 1 false (.s 28) },
        { dst := some 30, op := .bin .sub (.s 29) (.c (.int .i64 1)) },
        { dst := some 31, op := .fld 2 (.s 3) },
        { dst := some 32, op := .load 1 false (.s 31) },
        { dst := some 33, op := .bin .mul (.c (.int .i64 2)) (.s 32) },
        { dst := some 34, op := .call 37 [(.s 27), (.s 30), (.s 33)] },
        { dst := some 26, op := .mov (.s 34) },
        { dst := some 35, op := .ext (.s 26) 0 },
        { dst := some 36, op := .ext (.s 26) 1 },
        { dst := some 7, op := .box (.c (.agg (digC zeroDig))) },
        { dst := none, op := .stor 32 (.s 7) (.s 35) },
        { dst := some 8, op := .mov (.s 36) }])
      (.seq (.ops [{ dst := some 38, op := .mov (.s 0) },
        { dst := some 39, op := .fld 1 (.s 3) },
        { dst := some 40, op := .load 1 false (.s 39) },
        { dst := some 41, op := .bin .sub (.s 40) (.c (.int .i64 1)) },
        { dst := some 42, op := .fld 2 (.s 3) },
        { dst := some 43, op := .load 1 false (.s 42) },
        { dst := some 44, op := .bin .mul (.c (.int .i64 2)) (.s 43) },
        { dst := some 45, op := .bin .add (.s 44) (.c (.int .i64 1)) },
        { dst := some 46, op := .call 37 [(.s 38), (.s 41), (.s 45)] },
        { dst := some 37, op := .mov (.s 46) },
        { dst := some 47, op := .ext (.s 37) 0 },
        { dst := some 48, op := .ext (.s 37) 1 },
        { dst := some 9, op := .box (.c (.agg (digC zeroDig))) },
        { dst := none, op := .stor 32 (.s 9) (.s 47) },
        { dst := some 10, op := .mov (.s 48) }])
      (.seq (.any [({ dst := some 49, op := .load 32 true (.s 7) }, false, []),
        ({ dst := some 50, op := .load 32 true (.s 9) }, true, []),
        ({ dst := none, op := .stor 32 (.s 4) (.s 49) }, false, [1]),
        ({ dst := none, op := .stor 32 (.s 5) (.s 50) }, false, []),
        ({ dst := some 6, op := .mov (.c (.int .i64 0)) }, false, [])])
      (.ret))))))))
    [.cell 4 32 true, .cell 5 32 true, .tmp 6]
theorem tr_wagonpoolref38_Answer : trF Tryd.prog [39] 21 [] = some F_wagonpoolref38_Answer := by kernel_rfl

/-! wagonpool/merkle.Depth -/
def F_merkle_Depth : PF :=
  .mk
    (.seq (.ops [{ dst := some 2, op := .mov (.c (.int .i64 0)) }])
      (.seq (.seq (.ops [{ dst := some 3, op := .mov (.s 0) },
        { dst := some 4, op := .bin .lss (.s 3) (.c (.int .i64 0)) },
        { dst := some 5, op := .mov (.s 4) },
        { dst := some 6, op := .mov (.s 0), guard := some (5, false) },
        { dst := some 7, op := .bin .gtr (.s 6) (.c (.int .i64 65536)), guard := some (5, false) },
        { dst := some 8, op := .pick (.s 5) (.c (.bool true)) (.s 7) }])
      (.cond (.s 8)
        (.seq (.ops [{ dst := some 2, op := .mov (.c (.int .i64 (-1))) }])
        (.ret))
        (.skip)))
      (.seq (.ops [{ dst := some 9, op := .mov (.s 0) },
        { dst := some 10, op := .mm true (.s 9) (.c (.int .i64 1)) },
        { dst := some 11, op := .bin .sub (.s 10) (.c (.int .i64 1)) },
        { dst := some 12, op := .conv (.int .u64) (.s 11) },
        { dst := some 13, op := .call 43 [(.s 12)] },
        { dst := some 2, op := .mov (.s 13) }])
      (.ret))))
    [.tmp 2]
theorem tr_merkle_Depth : trF Tryd.prog [39] 22 [] = some F_merkle_Depth := by kernel_rfl

/-! wagonpool/merkle.Node -/
def F_merkle_Node : PF :=
  .mk
    (.seq (.ops [{ dst := some 4, op := .box (.s 1) },
        { dst := some 5, op := .box (.s 2) },
        { dst := some 6, op := .box (.c (.agg (digC zeroDig))) },
        { dst := some 7, op := .mov (.c (.bool false)) }])
      (.seq (.seq (.ops [{ dst := some 8, op := .mov (.s 0) },
        { dst := some 9, op := .len false (.s 8) },
        { dst := some 10, op := .bin .gtr (.s 9) (.c (.int .i64 65536)) },
        { dst := some 11, op := .mov (.s 10) },
        { dst := some 12, op := .load 1 false (.s 4), guard := some (11, false) },
        { dst := some 13, op := .bin .lss (.s 12) (.c (.int .i64 0)), guard := some (11, false) },
        { dst := some 14, op := .pick (.s 11) (.c (.bool true)) (.s 13) },
        { dst := some 15, op := .mov (.s 14) },
        { dst := some 16, op := .load 1 false (.s 4), guard := some (15, false) },
        { dst := some 17, op := .bin .gtr (.s 16) (.c (.int .i64 16)), guard := some (15, false) },
        { dst := some 18, op := .pick (.s 15) (.c (.bool true)) (.s 17) },
        { dst := some 19, op := .mov (.s 18) },
        { dst := some 20, op := .load 1 false (.s 5), guard := some (19, false) },
        { dst := some 21, op := .bin .lss (.s 20) (.c (.int .i64 0)), guard := some (19, false) },
        { dst := some 22, op := .pick (.s 19) (.c (.bool true)) (.s 21) },
        { dst := some 23, op := .mov (.s 22) },
        { dst := some 24, op := .load 1 false (.s 5), guard := some (23, false) },
        { dst := some 25, op := .load 1 false (.s 4), guard := some (23, false) },
        { dst := some 26, op := .bin .sub (.c (.int .i64 16)) (.s 25), guard := some (23, false) },
        { dst := some 27, op := .bin .shl (.c (.int .i64 1)) (.s 26), guard := some (23, false) },
        { dst := some 28, op := .bin .geq (.s 24) (.s 27), guard := some (23, false) },
        { dst := some 29, op := .pick (.s 23) (.c (.bool true)) (.s 28) }])
      (.cond (.s 29)
        (.seq (.ops [{ dst := some 30, op := .load 32 true (.s 6) },
          { dst := none, op := .stor 32 (.s 6) (.s 30) },
          { dst := some 7, op := .mov (.c (.bool false)) }])
        (.ret))
        (.skip)))
      (.seq (.ops [{ dst := some 31, op := .mov (.s 0) },
        { dst := some 32, op := .load 1 false (.s 4) },
        { dst := some 33, op := .mkclo 44 [(.s 4), (.s 5), (.s 6)] },
        { dst := some 34, op := .icall 39 [(.s 31), (.s 32), (.s 33)] }])
      (.seq (.ops [{ dst := some 35, op := .load 32 true (.s 6) },
        { dst := none, op := .stor 32 (.s 6) (.s 35) },
        { dst := some 7, op := .mov (.c (.bool true)) }])
      (.ret)))))
    [.cell 6 32 true, .tmp 7]
theorem tr_merkle_Node : trF Tryd.prog [39] 23 [] = some F_merkle_Node := by kernel_rfl

/-! wagonpool/merkle.First -/
def F_merkle_First_L0 : PC :=
  .seq (.ops [{ dst := some 14, op := .bin .lss (.s 13) (.s 12) }])
    (.seq (.cond (.s 14)
      (.skip)
      (.exit 0))
    (.seq (.block 1 (.seq (.ops [{ dst := some 15, op := .mov (.s 13) },
        { dst := some 6, op := .mov (.s 15) }])
      (.seq (.ops [{ dst := some 16, op := .mov (.s 0) },
        { dst := some 17, op := .mov (.s 6) },
        { dst := some 18, op := .load 32 true (.s 5) },
        { dst := some 19, op := .call 41 [(.s 16), (.s 17), (.s 18)] },
        { dst := some 20, op := .mov (.s 1) },
        { dst := some 21, op := .mov (.s 6) },
        { dst := some 22, op := .load 32 true (.s 5) },
        { dst := some 23, op := .call 41 [(.s 20), (.s 21), (.s 22)] },
        { dst := some 24, op := .aeq [0, 0, 0, 0, 0, 0, 0, 0, 0, 0, 0, 0, 0, 0, 0, 0, 0, 0, 0, 0, 0, 0, 0, 0, 0, 0, 0, 0, 0, 0, 0, 0] true (.s 19) (.s 23) }])
      (.cond (.s 24)
        (.seq (.ops [{ dst := some 25, op := .mov (.s 6) },
          { dst := some 4, op := .mov (.s 25) }])
        (.ret))
        (.skip)))))
    (.ops [{ dst := some 26, op := .bin .add (.s 13) (.c (.int .i64 1)) },
      { dst := some 13, op := .mov (.s 26) }])))

def F_merkle_First : PF :=
  .mk
    (.seq (.ops [{ dst := some 4, op := .mov (.c (.int .i64 0)) }])
      (.seq (.ops [{ dst := some 7, op := .call 32 [] },
        { dst := some 5, op := .box (.c (.agg (digC zeroDig))) },
        { dst := none, op := .stor 32 (.s 5) (.s 7) }])
      (.seq (.seq (.ops [{ dst := some 8, op := .mov (.s 0) },
        { dst := some 9, op := .len false (.s 8) },
        { dst := some 10, op := .mov (.s 1) },
        { dst := some 11, op := .len false (.s 10) },
        { dst := some 12, op := .mm true (.s 9) (.s 11) },
        { dst := some 13, op := .mov (.c (.int .i64 0)) }])
      (.block 0 (.loop [0, 1, 5, 12, 13] F_merkle_First_L0)))
      (.seq (.ops [{ dst := some 4, op := .mov (.c (.int .i64 (-1))) }])
      (.ret)))))
    [.tmp 4]
theorem tr_merkle_First : trF Tryd.prog [39] 24 [[0, 1, 5, 12, 13]] = some F_merkle_First := by kernel_rfl

/-! wagonpool/wagonpoolref04.First -/
def F_wagonpoolref04_First_L0 : PC :=
  .seq (.seq (.ops [{ dst := some 6, op := .mov (.s 5) },
      { dst := some 7, op := .mov (.s 0) },
      { dst := some 8, op := .len false (.s 7) },
      { dst := some 9, op := .bin .lss (.s 6) (.s 8) },
      { dst := some 10, op := .mov (.s 9) },
      { dst := some 11, op := .mov (.s 5), guard := some (10, false) },
      { dst := some 12, op := .mov (.s 1), guard := some (10, false) },
      { dst := some 13, op := .len false (.s 12), guard := some (10, false) },
      { dst := some 14, op := .bin .lss (.s 11) (.s 13), guard := some (10, false) },
      { dst := some 15, op := .pick (.s 10) (.c (.bool true)) (.s 14) }])
    (.cond (.s 15)
      (.skip)
      (.exit 0)))
    (.seq (.block 1 (.seq (.ops [{ dst := some 18, op := .mov (.s 0) },
        { dst := some 19, op := .mov (.s 5) },
        { dst := some 20, op := .call 26 [(.s 18), (.s 19)] },
        { dst := some 21, op := .mov (.s 1) },
        { dst := some 22, op := .mov (.s 5) },
        { dst := some 23, op := .call 26 [(.s 21), (.s 22)] },
        { dst := some 24, op := .aeq [0, 0, 0, 0, 0, 0, 0, 0, 0, 0, 0, 0, 0, 0, 0, 0, 0, 0, 0, 0, 0, 0, 0, 0, 0, 0, 0, 0, 0, 0, 0, 0] true (.s 20) (.s 23) }])
      (.cond (.s 24)
        (.seq (.ops [{ dst := some 25, op := .mov (.s 5) },
          { dst := some 4, op := .mov (.s 25) }])
        (.ret))
        (.skip))))
    (.ops [{ dst := some 16, op := .mov (.s 5) },
      { dst := some 17, op := .bin .add (.s 16) (.c (.int .i64 1)) },
      { dst := some 5, op := .mov (.s 17) }]))

def F_wagonpoolref04_First : PF :=
  .mk
    (.seq (.ops [{ dst := some 4, op := .mov (.c (.int .i64 0)) }])
      (.seq (.seq (.ops [{ dst := some 5, op := .mov (.c (.int .i64 0)) }])
      (.block 0 (.loop [0, 1, 5] F_wagonpoolref04_First_L0)))
      (.seq (.ops [{ dst := some 4, op := .mov (.c (.int .i64 (-1))) }])
      (.ret))))
    [.tmp 4]
theorem tr_wagonpoolref04_First : trF Tryd.prog [39] 25 [[0, 1, 5]] = some F_wagonpoolref04_First := by kernel_rfl

/-! wagonpool/wagonpoolref04.At -/
def F_wagonpoolref04_At : PF :=
  .mk
    (.seq (.ops [{ dst := some 4, op := .box (.c (.agg (digC zeroDig))) }])
      (.seq (.seq (.ops [{ dst := some 5, op := .mov (.s 1) },
        { dst := some 6, op := .mov (.s 0) },
        { dst := some 7, op := .len false (.s 6) },
        { dst := some 8, op := .bin .lss (.s 5) (.s 7) }])
      (.cond (.s 8)
        (.seq (.ops [{ dst := some 9, op := .mov (.s 0) },
          { dst := some 10, op := .mov (.s 1) },
          { dst := some 11, op := .idxS 32 (.s 9) (.s 10) },
          { dst := some 12, op := .load 32 true (.s 11) },
          { dst := none, op := .stor 32 (.s 4) (.s 12) }])
        (.ret))
        (.skip)))
      (.seq (.ops [{ dst := some 13, op := .call 45 [] },
        { dst := none, op := .stor 32 (.s 4) (.s 13) }])
      (.ret))))
    [.cell 4 32 true]
theorem tr_wagonpoolref04_At : trF Tryd.prog [39] 26 [] = some F_wagonpoolref04_At := by kernel_rfl

/-! wagonpool/merkle.Parent -/
def F_merkle_Parent : PF :=
  .mk
    (.seq (.ops [{ dst := some 2, op := .box (.s 0) },
        { dst := some 3, op := .box (.s 1) },
        { dst := some 4, op := .box (.c (.agg (digC zeroDig))) }])
      (.seq (.ops [{ dst := some 6, op := .mkslc 1 1 (.int .u8 0) (.c (.int .i64 0)) (.c (.int .i64 64)) },
        { dst := some 5, op := .mov (.s 6) }])
      (.seq (.ops [{ dst := some 7, op := .mov (.s 5) },
        { dst := some 8, op := .sliceA 32 1 false (.s 2) none none },
        { dst := some 9, op := .app 1 1 (.s 7) (.s 8) },
        { dst := some 5, op := .mov (.s 9) }])
      (.seq (.ops [{ dst := some 10, op := .mov (.s 5) },
        { dst := some 11, op := .sliceA 32 1 false (.s 3) none none },
        { dst := some 12, op := .app 1 1 (.s 10) (.s 11) },
        { dst := some 5, op := .mov (.s 12) }])
      (.seq (.ops [{ dst := some 13, op := .mov (.s 5) },
        { dst := some 14, op := .call 46 [(.c (.str [110, 111, 100, 101])), (.s 13)] },
        { dst := none, op := .stor 32 (.s 4) (.s 14) }])
      (.ret))))))
    [.cell 4 32 true]
theorem tr_merkle_Parent : trF Tryd.prog [39] 27 [] = some F_merkle_Parent := by kernel_rfl

/-! wagonpool/bisect.Disclose -/
def F_bisect_Disclose : PF :=
  .mk
    (.seq (.ops [{ dst := some 4, op := .box (.s 0) },
        { dst := some 6, op := .box (.s 2) },
        { dst := some 7, op := .box (.s 3) },
        { dst := some 8, op := .box (.c (.agg (bisC zeroBis))) },
        { dst := some 9, op := .mov (.c (.int .i64 0)) }])
      (.seq (.seq (.ops [{ dst := some 11, op := .load 198 true (.s 4) },
        { dst := some 12, op := .call 35 [(.s 11)] },
        { dst := some 13, op := .un .not (.s 12) },
        { dst := some 14, op := .mov (.s 13) },
        { dst := some 15, op := .mov (.s 1), guard := some (14, false) },
        { dst := some 16, op := .bin .neq (.s 15) (.c (.int .i64 0)), guard := some (14, false) },
        { dst := some 17, op := .mov (.s 16), guard := some (14, false) },
        { dst := some 18, op := .mov (.s 1), guard := some (17, true) },
        { dst := some 19, op := .bin .neq (.s 18) (.c (.int .i64 1)), guard := some (17, true) },
        { dst := some 20, op := .pick (.s 17) (.s 19) (.c (.bool false)), guard := some (14, false) },
        { dst := some 21, op := .pick (.s 14) (.c (.bool true)) (.s 20) }])
      (.cond (.s 21)
        (.seq (.ops [{ dst := some 22, op := .load 198 true (.s 8) },
          { dst := none, op := .stor 198 (.s 8) (.s 22) },
          { dst := some 9, op := .mov (.c (.int .i64 1)) }])
        (.ret))
        (.skip)))
      (.seq (.seq (.ops [{ dst := some 23, op := .fld 1 (.s 4) },
        { dst := some 24, op := .load 1 false (.s 23) },
        { dst := some 25, op := .bin .eql (.s 24) (.c (.int .i64 0)) },
        { dst := some 26, op := .mov (.s 25) },
        { dst := some 27, op := .mov (.s 1), guard := some (26, false) },
        { dst := some 28, op := .fld 67 (.s 4), guard := some (26, false) },
        { dst := some 29, op := .idxA 2 1 (.s 28) (.s 27), guard := some (26, false) },
        { dst := some 30, op := .load 1 false (.s 29), guard := some (26, false) },
        { dst := some 31, op := .pick (.s 26) (.c (.bool true)) (.s 30) }])
      (.cond (.s 31)
        (.seq (.ops [{ dst := some 32, op := .load 198 true (.s 8) },
          { dst := none, op := .stor 198 (.s 8) (.s 32) },
          { dst := some 9, op := .mov (.c (.int .i64 380)) }])
        (.ret))
        (.skip)))
      (.seq (.seq (.ops [{ dst := some 33, op := .load 32 true (.s 6) },
        { dst := some 34, op := .load 32 true (.s 7) },
        { dst := some 35, op := .call 27 [(.s 33), (.s 34)] },
        { dst := some 36, op := .mov (.s 1) },
        { dst := some 37, op := .fld 3 (.s 4) },
        { dst := some 38, op := .idxA 2 32 (.s 37) (.s 36) },
        { dst := some 39, op := .load 32 true (.s 38) },
        { dst := some 40, op := .aeq [0, 0, 0, 0, 0, 0, 0, 0, 0, 0, 0, 0, 0, 0, 0, 0, 0, 0, 0, 0, 0, 0, 0, 0, 0, 0, 0, 0, 0, 0, 0, 0] true (.s 35) (.s 39) }])
      (.cond (.s 40)
        (.seq (.ops [{ dst := some 41, op := .load 198 true (.s 8) },
          { dst := none, op := .stor 198 (.s 8) (.s 41) },
          { dst := some 9, op := .mov (.c (.int .i64 381)) }])
        (.ret))
        (.skip)))
      (.seq (.any [({ dst := some 42, op := .mov (.s 1) }, false, []),
        ({ dst := some 43, op := .mov (.s 1) }, false, []),
        ({ dst := some 44, op := .mov (.s 1) }, false, []),
        ({ dst := some 45, op := .load 32 true (.s 6) }, true, []),
        ({ dst := some 46, op := .load 32 true (.s 7) }, true, []),
        ({ dst := some 47, op := .fld 67 (.s 4) }, false, []),
        ({ dst := some 48, op := .idxA 2 1 (.s 47) (.s 42) }, false, []),
        ({ dst := none, op := .stor 1 (.s 48) (.c (.bool true)) }, true, [3, 4]),
        ({ dst := some 49, op := .fld 69 (.s 4) }, false, [7]),
        ({ dst := some 50, op := .idxA 2 32 (.s 49) (.s 43) }, false, []),
        ({ dst := none, op := .stor 32 (.s 50) (.s 45) }, true, [4]),
        ({ dst := some 51, op := .fld 133 (.s 4) }, false, [7, 10]),
        ({ dst := some 52, op := .idxA 2 32 (.s 51) (.s 44) }, false, []),
        ({ dst := none, op := .stor 32 (.s 52) (.s 46) }, false, [])])
      (.seq (.ops [{ dst := some 53, op := .mov (.s 1) },
        { dst := some 54, op := .bin .sub (.c (.int .i64 1)) (.s 53) },
        { dst := some 10, op := .mov (.s 54) }])
      (.seq (.seq (.ops [{ dst := some 55, op := .mov (.s 10) },
        { dst := some 56, op := .fld 67 (.s 4) },
        { dst := some 57, op := .idxA 2 1 (.s 56) (.s 55) },
        { dst := some 58, op := .load 1 false (.s 57) },
        { dst := some 59, op := .un .not (.s 58) }])
      (.cond (.s 59)
        (.seq (.ops [{ dst := some 60, op := .load 198 true (.s 4) },
          { dst := none, op := .stor 198 (.s 8) (.s 60) },
          { dst := some 9, op := .mov (.c (.int .i64 0)) }])
        (.ret))
        (.skip)))
      (.seq (.ops [{ dst := some 61, op := .fld 0 (.s 4) },
        { dst := some 62, op := .load 1 false (.s 61) },
        { dst := some 63, op := .fld 1 (.s 4) },
        { dst := some 64, op := .load 1 false (.s 63) },
        { dst := some 65, op := .bin .sub (.s 64) (.c (.int .i64 1)) },
        { dst := some 66, op := .fld 2 (.s 4) },
        { dst := some 67, op := .load 1 false (.s 66) },
        { dst := some 68, op := .bin .mul (.c (.int .i64 2)) (.s 67) },
        { dst := some 69, op := .fld 69 (.s 4) },
        { dst := some 70, op := .load 64 true (.s 69) },
        { dst := some 71, op := .fld 197 (.s 4) },
        { dst := some 72, op := .load 1 false (.s 71) },
        { dst := some 73, op := .bin .add (.s 72) (.c (.int .i64 1)) },
        { dst := some 74, op := .bld (bisC zeroBis) [(0, 1, (.s 62)), (1, 1, (.s 65)), (2, 1, (.s 68)), (3, 64, (.s 70)), (197, 1, (.s 73))] },
        { dst := none, op := .stor 198 (.s 8) (.s 74) }])
      (.seq (.seq (.ops [{ dst := some 75, op := .load 32 true (.s 6) },
        { dst := some 76, op := .mov (.s 10) },
        { dst := some 77, op := .fld 69 (.s 4) },
        { dst := some 78, op := .idxA 2 32 (.s 77) (.s 76) },
        { dst := some 79, op := .load 32 true (.s 78) },
        { dst := some 80, op := .aeq [0, 0, 0, 0, 0, 0, 0, 0, 0, 0, 0, 0, 0, 0, 0, 0, 0, 0, 0, 0, 0, 0, 0, 0, 0, 0, 0, 0, 0, 0, 0, 0] false (.s 75) (.s 79) }])
      (.cond (.s 80)
        (.any [({ dst := some 81, op := .fld 2 (.s 8) }, false, []),
          ({ dst := some 82, op := .load 1 false (.s 81) }, false, []),
          ({ dst := some 83, op := .bin .add (.s 82) (.c (.int .i64 1)) }, false, []),
          ({ dst := some 84, op := .fld 133 (.s 4) }, true, []),
          ({ dst := some 85, op := .load 64 true (.s 84) }, true, []),
          ({ dst := some 86, op := .fld 2 (.s 8) }, false, []),
          ({ dst := none, op := .stor 1 (.s 86) (.s 83) }, false, [3, 4]),
          ({ dst := some 87, op := .fld 3 (.s 8) }, false, []),
          ({ dst := none, op := .stor 64 (.s 87) (.s 85) }, false, [])])
        (.skip)))
      (.seq (.ops [{ dst := some 88, op := .load 198 true (.s 8) },
        { dst := none, op := .stor 198 (.s 8) (.s 88) },
        { dst := some 9, op := .mov (.c (.int .i64 0)) }])
      (.ret)))))))))))
    [.cell 8 198 true, .tmp 9]
theorem tr_bisect_Disclose : trF Tryd.prog [39] 28 [] = some F_bisect_Disclose := by kernel_rfl

/-! wagonpool/wagonpoolref38.Begin -/
def F_wagonpoolref38_Begin : PF :=
  .mk
    (.seq (.ops [{ dst := some 2, op := .box (.s 0) },
        { dst := some 3, op := .box (.s 1) },
        { dst := some 4, op := .box (.c (.agg (bisC zeroBis))) },
        { dst := some 5, op := .mov (.c (.int .i64 0)) }])
      (.seq (.seq (.ops [{ dst := some 8, op := .fld 0 (.s 2) },
        { dst := some 9, op := .load 1 false (.s 8) },
        { dst := some 10, op := .call 36 [(.s 9)] },
        { dst := some 11, op := .bin .lss (.s 10) (.c (.int .i64 0)) },
        { dst := some 12, op := .mov (.s 11) },
        { dst := some 13, op := .fld 0 (.s 3), guard := some (12, false) },
        { dst := some 14, op := .load 1 false (.s 13), guard := some (12, false) },
        { dst := some 15, op := .call 36 [(.s 14)], guard := some (12, false) },
        { dst := some 16, op := .bin .lss (.s 15) (.c (.int .i64 0)), guard := some (12, false) },
        { dst := some 17, op := .pick (.s 12) (.c (.bool true)) (.s 16) }])
      (.cond (.s 17)
        (.seq (.ops [{ dst := some 18, op := .bld (bisC zeroBis) [] },
          { dst := none, op := .stor 198 (.s 4) (.s 18) },
          { dst := some 5, op := .mov (.c (.int .i64 1)) }])
        (.ret))
        (.skip)))
      (.seq (.ops [{ dst := some 19, op := .fld 0 (.s 2) },
        { dst := some 20, op := .load 1 false (.s 19) },
        { dst := some 21, op := .call 36 [(.s 20)] },
        { dst := some 22, op := .fld 0 (.s 3) },
        { dst := some 23, op := .load 1 false (.s 22) },
        { dst := some 24, op := .call 36 [(.s 23)] },
        { dst := some 25, op := .mm true (.s 21) (.s 24) },
        { dst := some 6, op := .mov (.s 25) }])
      (.seq (.ops [{ dst := some 26, op := .mov (.s 6) },
        { dst := some 27, op := .mov (.s 6) },
        { dst := some 28, op := .bld (bisC zeroBis) [(0, 1, (.s 26)), (1, 1, (.s 27))] },
        { dst := some 7, op := .box (.c (.agg (bisC zeroBis))) },
        { dst := none, op := .stor 198 (.s 7) (.s 28) }])
      (.seq (.ops [{ dst := some 29, op := .load 33 true (.s 2) },
        { dst := some 30, op := .mov (.s 6) },
        { dst := some 31, op := .call 47 [(.s 29), (.s 30)] },
        { dst := some 32, op := .fld 3 (.s 7) },
        { dst := some 33, op := .idxA 2 32 (.s 32) (.c (.int .i64 0)) },
        { dst := none, op := .stor 32 (.s 33) (.s 31) }])
      (.seq (.ops [{ dst := some 34, op := .load 33 true (.s 3) },
        { dst := some 35, op := .mov (.s 6) },
        { dst := some 36, op := .call 47 [(.s 34), (.s 35)] },
        { dst := some 37, op := .fld 3 (.s 7) },
        { dst := some 38, op := .idxA 2 32 (.s 37) (.c (.int .i64 1)) },
        { dst := none, op := .stor 32 (.s 38) (.s 36) }])
      (.seq (.seq (.ops [{ dst := some 39, op := .fld 3 (.s 7) },
        { dst := some 40, op := .idxA 2 32 (.s 39) (.c (.int .i64 0)) },
        { dst := some 41, op := .load 32 true (.s 40) },
        { dst := some 42, op := .fld 3 (.s 7) },
        { dst := some 43, op := .idxA 2 32 (.s 42) (.c (.int .i64 1)) },
        { dst := some 44, op := .load 32 true (.s 43) },
        { dst := some 45, op := .aeq [0, 0, 0, 0, 0, 0, 0, 0, 0, 0, 0, 0, 0, 0, 0, 0, 0, 0, 0, 0, 0, 0, 0, 0, 0, 0, 0, 0, 0, 0, 0, 0] false (.s 41) (.s 44) }])
      (.cond (.s 45)
        (.seq (.ops [{ dst := some 46, op := .bld (bisC zeroBis) [] },
          { dst := none, op := .stor 198 (.s 4) (.s 46) },
          { dst := some 5, op := .mov (.c (.int .i64 380)) }])
        (.ret))
        (.skip)))
      (.seq (.ops [{ dst := some 47, op := .load 198 true (.s 7) },
        { dst := none, op := .stor 198 (.s 4) (.s 47) },
        { dst := some 5, op := .mov (.c (.int .i64 0)) }])
      (.ret)))))))))
    [.cell 4 198 true, .tmp 5]
theorem tr_wagonpoolref38_Begin : trF Tryd.prog [39] 29 [] = some F_wagonpoolref38_Begin := by kernel_rfl

/-! wagonpool/wagonpoolref38.Disclose -/
def F_wagonpoolref38_Disclose : PF :=
  .mk
    (.seq (.ops [{ dst := some 4, op := .box (.s 0) },
        { dst := some 6, op := .box (.s 2) },
        { dst := some 7, op := .box (.s 3) },
        { dst := some 8, op := .box (.c (.agg (bisC zeroBis))) },
        { dst := some 9, op := .mov (.c (.int .i64 0)) }])
      (.seq (.seq (.ops [{ dst := some 11, op := .load 198 true (.s 4) },
        { dst := some 12, op := .call 42 [(.s 11)] },
        { dst := some 13, op := .un .not (.s 12) },
        { dst := some 14, op := .mov (.s 13) },
        { dst := some 15, op := .mov (.s 1), guard := some (14, false) },
        { dst := some 16, op := .bin .lss (.s 15) (.c (.int .i64 0)), guard := some (14, false) },
        { dst := some 17, op := .pick (.s 14) (.c (.bool true)) (.s 16) },
        { dst := some 18, op := .mov (.s 17) },
        { dst := some 19, op := .mov (.s 1), guard := some (18, false) },
        { dst := some 20, op := .bin .gtr (.s 19) (.c (.int .i64 1)), guard := some (18, false) },
        { dst := some 21, op := .pick (.s 18) (.c (.bool true)) (.s 20) }])
      (.cond (.s 21)
        (.seq (.ops [{ dst := some 22, op := .bld (bisC zeroBis) [] },
          { dst := none, op := .stor 198 (.s 8) (.s 22) },
          { dst := some 9, op := .mov (.c (.int .i64 1)) }])
        (.ret))
        (.skip)))
      (.seq (.seq (.ops [{ dst := some 23, op := .fld 1 (.s 4) },
        { dst := some 24, op := .load 1 false (.s 23) },
        { dst := some 25, op := .bin .eql (.s 24) (.c (.int .i64 0)) },
        { dst := some 26, op := .mov (.s 25) },
        { dst := some 27, op := .mov (.s 1), guard := some (26, false) },
        { dst := some 28, op := .fld 67 (.s 4), guard := some (26, false) },
        { dst := some 29, op := .idxA 2 1 (.s 28) (.s 27), guard := some (26, false) },
        { dst := some 30, op := .load 1 false (.s 29), guard := some (26, false) },
        { dst := some 31, op := .pick (.s 26) (.c (.bool true)) (.s 30) }])
      (.cond (.s 31)
        (.seq (.ops [{ dst := some 32, op := .bld (bisC zeroBis) [] },
          { dst := none, op := .stor 198 (.s 8) (.s 32) },
          { dst := some 9, op := .mov (.c (.int .i64 380)) }])
        (.ret))
        (.skip)))
      (.seq (.seq (.ops [{ dst := some 33, op := .load 32 true (.s 6) },
        { dst := some 34, op := .load 32 true (.s 7) },
        { dst := some 35, op := .call 38 [(.s 33), (.s 34)] },
        { dst := some 36, op := .mov (.s 1) },
        { dst := some 37, op := .fld 3 (.s 4) },
        { dst := some 38, op := .idxA 2 32 (.s 37) (.s 36) },
        { dst := some 39, op := .load 32 true (.s 38) },
        { dst := some 40, op := .aeq [0, 0, 0, 0, 0, 0, 0, 0, 0, 0, 0, 0, 0, 0, 0, 0, 0, 0, 0, 0, 0, 0, 0, 0, 0, 0, 0, 0, 0, 0, 0, 0] true (.s 35) (.s 39) }])
      (.cond (.s 40)
        (.seq (.ops [{ dst := some 41, op := .bld (bisC zeroBis) [] },
          { dst := none, op := .stor 198 (.s 8) (.s 41) },
          { dst := some 9, op := .mov (.c (.int .i64 381)) }])
        (.ret))
        (.skip)))
      (.seq (.ops [{ dst := some 42, op := .mov (.s 1) },
        { dst := some 43, op := .fld 67 (.s 4) },
        { dst := some 44, op := .idxA 2 1 (.s 43) (.s 42) },
        { dst := none, op := .stor 1 (.s 44) (.c (.bool true)) }])
      (.seq (.ops [{ dst := some 45, op := .mov (.s 1) },
        { dst := some 46, op := .load 32 true (.s 6) },
        { dst := some 47, op := .fld 69 (.s 4) },
        { dst := some 48, op := .idxA 2 32 (.s 47) (.s 45) },
        { dst := none, op := .stor 32 (.s 48) (.s 46) }])
      (.seq (.ops [{ dst := some 49, op := .mov (.s 1) },
        { dst := some 50, op := .load 32 true (.s 7) },
        { dst := some 51, op := .fld 133 (.s 4) },
        { dst := some 52, op := .idxA 2 32 (.s 51) (.s 49) },
        { dst := none, op := .stor 32 (.s 52) (.s 50) }])
      (.seq (.seq (.ops [{ dst := some 53, op := .mov (.s 1) },
        { dst := some 54, op := .bin .sub (.c (.int .i64 1)) (.s 53) },
        { dst := some 55, op := .fld 67 (.s 4) },
        { dst := some 56, op := .idxA 2 1 (.s 55) (.s 54) },
        { dst := some 57, op := .load 1 false (.s 56) },
        { dst := some 58, op := .un .not (.s 57) }])
      (.cond (.s 58)
        (.seq (.ops [{ dst := some 59, op := .load 198 true (.s 4) },
          { dst := none, op := .stor 198 (.s 8) (.s 59) },
          { dst := some 9, op := .mov (.c (.int .i64 0)) }])
        (.ret))
        (.skip)))
      (.seq (.ops [{ dst := some 60, op := .fld 0 (.s 4) },
        { dst := some 61, op := .load 1 false (.s 60) },
        { dst := some 62, op := .fld 1 (.s 4) },
        { dst := some 63, op := .load 1 false (.s 62) },
        { dst := some 64, op := .bin .sub (.s 63) (.c (.int .i64 1)) },
        { dst := some 65, op := .fld 2 (.s 4) },
        { dst := some 66, op := .load 1 false (.s 65) },
        { dst := some 67, op := .bin .mul (.c (.int .i64 2)) (.s 66) },
        { dst := some 68, op := .fld 69 (.s 4) },
        { dst := some 69, op := .load 64 true (.s 68) },
        { dst := some 70, op := .fld 197 (.s 4) },
        { dst := some 71, op := .load 1 false (.s 70) },
        { dst := some 72, op := .bin .add (.s 71) (.c (.int .i64 1)) },
        { dst := some 73, op := .bld (bisC zeroBis) [(0, 1, (.s 61)), (1, 1, (.s 64)), (2, 1, (.s 67)), (3, 64, (.s 69)), (197, 1, (.s 72))] },
        { dst := some 10, op := .box (.c (.agg (bisC zeroBis))) },
        { dst := none, op := .stor 198 (.s 10) (.s 73) }])
      (.seq (.seq (.ops [{ dst := some 74, op := .fld 69 (.s 4) },
        { dst := some 75, op := .idxA 2 32 (.s 74) (.c (.int .i64 0)) },
        { dst := some 76, op := .load 32 true (.s 75) },
        { dst := some 77, op := .fld 69 (.s 4) },
        { dst := some 78, op := .idxA 2 32 (.s 77) (.c (.int .i64 1)) },
        { dst := some 79, op := .load 32 true (.s 78) },
        { dst := some 80, op := .aeq [0, 0, 0, 0, 0, 0, 0, 0, 0, 0, 0, 0, 0, 0, 0, 0, 0, 0, 0, 0, 0, 0, 0, 0, 0, 0, 0, 0, 0, 0, 0, 0] false (.s 76) (.s 79) }])
      (.cond (.s 80)
        (.seq (.ops [{ dst := some 81, op := .fld 2 (.s 4) },
          { dst := some 82, op := .load 1 false (.s 81) },
          { dst := some 83, op := .bin .mul (.c (.int .i64 2)) (.s 82) },
          { dst := some 84, op := .bin .add (.s 83) (.c (.int .i64 1)) },
          { dst := some 85, op := .fld 2 (.s 10) },
          { dst := none, op := .stor 1 (.s 85) (.s 84) }])
        (.ops [{ dst := some 86, op := .fld 133 (.s 4) },
          { dst := some 87, op := .load 64 true (.s 86) },
          { dst := some 88, op := .fld 3 (.s 10) },
          { dst := none, op := .stor 64 (.s 88) (.s 87) }]))
        (.skip)))
      (.seq (.ops [{ dst := some 89, op := .load 198 true (.s 10) },
        { dst := none, op := .stor 198 (.s 8) (.s 89) },
        { dst := some 9, op := .mov (.c (.int .i64 0)) }])
      (.ret))))))))))))
    [.cell 8 198 true, .tmp 9]
theorem tr_wagonpoolref38_Disclose : trF Tryd.prog [39] 30 [] = some F_wagonpoolref38_Disclose := by kernel_rfl

/-! wagonpool/wagonpoolref38.Done -/
def F_wagonpoolref38_Done : PF :=
  .mk
    (.seq (.ops [{ dst := some 1, op := .box (.s 0) },
        { dst := some 2, op := .mov (.c (.int .i64 0)) },
        { dst := some 3, op := .box (.c (.agg zD2)) },
        { dst := some 4, op := .mov (.c (.bool false)) }])
      (.seq (.seq (.ops [{ dst := some 5, op := .load 198 true (.s 1) },
        { dst := some 6, op := .call 42 [(.s 5)] },
        { dst := some 7, op := .un .not (.s 6) },
        { dst := some 8, op := .mov (.s 7) },
        { dst := some 9, op := .fld 1 (.s 1), guard := some (8, false) },
        { dst := some 10, op := .load 1 false (.s 9), guard := some (8, false) },
        { dst := some 11, op := .bin .gtr (.s 10) (.c (.int .i64 0)), guard := some (8, false) },
        { dst := some 12, op := .pick (.s 8) (.c (.bool true)) (.s 11) }])
      (.cond (.s 12)
        (.seq (.ops [{ dst := some 13, op := .bld zD2 [] },
          { dst := some 2, op := .mov (.c (.int .i64 0)) },
          { dst := none, op := .stor 64 (.s 3) (.s 13) },
          { dst := some 4, op := .mov (.c (.bool false)) }])
        (.ret))
        (.skip)))
      (.seq (.ops [{ dst := some 14, op := .fld 2 (.s 1) },
        { dst := some 15, op := .load 1 false (.s 14) },
        { dst := some 16, op := .fld 3 (.s 1) },
        { dst := some 17, op := .load 64 true (.s 16) },
        { dst := some 2, op := .mov (.s 15) },
        { dst := none, op := .stor 64 (.s 3) (.s 17) },
        { dst := some 4, op := .mov (.c (.bool true)) }])
      (.ret))))
    [.tmp 2, .cell 3 64 true, .tmp 4]
theorem tr_wagonpoolref38_Done : trF Tryd.prog [39] 31 [] = some F_wagonpoolref38_Done := by kernel_rfl

/-! wagonpool/merkle.Pad -/
def F_merkle_Pad : PF :=
  .mk
    (.seq (.ops [{ dst := some 0, op := .box (.c (.agg (digC zeroDig))) }])
      (.seq (.ops [{ dst := some 1, op := .call 46 [(.c (.str [112, 97, 100])), (.c (.slc 0 [] true))] },
        { dst := none, op := .stor 32 (.s 0) (.s 1) }])
      (.ret)))
    [.cell 0 32 true]
theorem tr_merkle_Pad : trF Tryd.prog [39] 32 [] = some F_merkle_Pad := by kernel_rfl

/-! wagonpool/bisect.padded -/
def F_bisect_padded_L0 : PC :=
  .seq (.ops [{ dst := some 13, op := .bin .lss (.s 12) (.s 11) }])
    (.seq (.cond (.s 13)
      (.skip)
      (.exit 0))
    (.seq (.block 1 (.seq (.ops [{ dst := some 14, op := .mov (.s 12) },
        { dst := some 7, op := .mov (.s 14) }])
      (.seq (.seq (.ops [{ dst := some 15, op := .mov (.s 7) },
        { dst := some 16, op := .fld 0 (.s 2) },
        { dst := some 17, op := .load 1 false (.s 16) },
        { dst := some 18, op := .call 22 [(.s 17)] },
        { dst := some 19, op := .bin .geq (.s 15) (.s 18) }])
      (.cond (.s 19)
        (.ops [{ dst := some 20, op := .load 32 true (.s 5) },
          { dst := some 21, op := .load 32 true (.s 6) },
          { dst := some 22, op := .call 27 [(.s 20), (.s 21)] },
          { dst := none, op := .stor 32 (.s 5) (.s 22) }])
        (.skip)))
      (.ops [{ dst := some 23, op := .load 32 true (.s 6) },
        { dst := some 24, op := .load 32 true (.s 6) },
        { dst := some 25, op := .call 27 [(.s 23), (.s 24)] },
        { dst := none, op := .stor 32 (.s 6) (.s 25) }]))))
    (.ops [{ dst := some 26, op := .bin .add (.s 12) (.c (.int .i64 1)) },
      { dst := some 12, op := .mov (.s 26) }])))

def F_bisect_padded : PF :=
  .mk
    (.seq (.ops [{ dst := some 2, op := .box (.s 0) },
        { dst := some 4, op := .box (.c (.agg (digC zeroDig))) }])
      (.seq (.any2 [1, 2, 4, 5, 6] [({ dst := some 8, op := .fld 1 (.s 2) }, false, []),
        ({ dst := some 9, op := .load 32 true (.s 8) }, false, []),
        ({ dst := some 10, op := .call 32 [] }, false, []),
        ({ dst := some 5, op := .box (.c (.agg (digC zeroDig))) }, false, []),
        ({ dst := some 6, op := .box (.c (.agg (digC zeroDig))) }, false, []),
        ({ dst := none, op := .stor 32 (.s 5) (.s 9) }, false, []),
        ({ dst := none, op := .stor 32 (.s 6) (.s 10) }, false, [])] [({ dst := some 8, op := .fld 1 (.s 2) }, false, []),
        ({ dst := some 9, op := .load 32 true (.s 8) }, false, []),
        ({ dst := some 10, op := .call 32 [] }, false, []),
        ({ dst := some 6, op := .box (.c (.agg (digC zeroDig))) }, false, []),
        ({ dst := some 5, op := .box (.c (.agg (digC zeroDig))) }, false, []),
        ({ dst := none, op := .stor 32 (.s 5) (.s 9) }, false, []),
        ({ dst := none, op := .stor 32 (.s 6) (.s 10) }, false, [])])
      (.seq (.seq (.ops [{ dst := some 11, op := .mov (.s 1) },
        { dst := some 12, op := .mov (.c (.int .i64 0)) }])
      (.block 0 (.loop [2, 4, 5, 6, 11, 12] F_bisect_padded_L0)))
      (.seq (.ops [{ dst := some 27, op := .load 32 true (.s 5) },
        { dst := none, op := .stor 32 (.s 4) (.s 27) }])
      (.ret)))))
    [.cell 4 32 true]
theorem tr_bisect_padded : trF Tryd.prog [39] 33 [[1, 2, 4, 5, 6], [2, 4, 5, 6, 11, 12]] = some F_bisect_padded := by kernel_rfl

/-! wagonpool/merkle.Root -/
def F_merkle_Root : PF :=
  .mk
    (.seq (.ops [{ dst := some 2, op := .box (.c (.agg [(.int .i64 0), (.int .u8 0), (.int .u8 0), (.int .u8 0), (.int .u8 0), (.int .u8 0), (.int .u8 0), (.int .u8 0), (.int .u8 0), (.int .u8 0), (.int .u8 0), (.int .u8 0), (.int .u8 0), (.int .u8 0), (.int .u8 0), (.int .u8 0), (.int .u8 0), (.int .u8 0), (.int .u8 0), (.int .u8 0), (.int .u8 0), (.int .u8 0), (.int .u8 0), (.int .u8 0), (.int .u8 0), (.int .u8 0), (.int .u8 0), (.int .u8 0), (.int .u8 0), (.int .u8 0), (.int .u8 0), (.int .u8 0), (.int .u8 0)])) },
        { dst := some 3, op := .mov (.c (.int .i64 0)) }])
      (.seq (.seq (.ops [{ dst := some 6, op := .mov (.s 0) },
        { dst := some 7, op := .len false (.s 6) },
        { dst := some 8, op := .bin .gtr (.s 7) (.c (.int .i64 65536)) }])
      (.cond (.s 8)
        (.seq (.ops [{ dst := some 9, op := .bld [(.int .i64 0), (.int .u8 0), (.int .u8 0), (.int .u8 0), (.int .u8 0), (.int .u8 0), (.int .u8 0), (.int .u8 0), (.int .u8 0), (.int .u8 0), (.int .u8 0), (.int .u8 0), (.int .u8 0), (.int .u8 0), (.int .u8 0), (.int .u8 0), (.int .u8 0), (.int .u8 0), (.int .u8 0), (.int .u8 0), (.int .u8 0), (.int .u8 0), (.int .u8 0), (.int .u8 0), (.int .u8 0), (.int .u8 0), (.int .u8 0), (.int .u8 0), (.int .u8 0), (.int .u8 0), (.int .u8 0), (.int .u8 0), (.int .u8 0)] [] },
          { dst := none, op := .stor 33 (.s 2) (.s 9) },
          { dst := some 3, op := .mov (.c (.int .i64 2)) }])
        (.ret))
        (.skip)))
      (.seq (.ops [{ dst := some 11, op := .mov (.s 0) },
        { dst := some 12, op := .mov (.s 0) },
        { dst := some 13, op := .len false (.s 12) },
        { dst := some 14, op := .call 22 [(.s 13)] },
        { dst := some 15, op := .call 23 [(.s 11), (.s 14), (.c (.int .i64 0))] },
        { dst := some 10, op := .mov (.s 15) },
        { dst := some 16, op := .ext (.s 10) 0 },
        { dst := some 17, op := .ext (.s 10) 1 },
        { dst := some 4, op := .box (.c (.agg (digC zeroDig))) },
        { dst := none, op := .stor 32 (.s 4) (.s 16) },
        { dst := some 5, op := .mov (.s 17) }])
      (.seq (.ops [{ dst := some 18, op := .mov (.s 0) },
        { dst := some 19, op := .len false (.s 18) },
        { dst := some 20, op := .load 32 true (.s 4) },
        { dst := some 21, op := .bld [(.int .i64 0), (.int .u8 0), (.int .u8 0), (.int .u8 0), (.int .u8 0), (.int .u8 0), (.int .u8 0), (.int .u8 0), (.int .u8 0), (.int .u8 0), (.int .u8 0), (.int .u8 0), (.int .u8 0), (.int .u8 0), (.int .u8 0), (.int .u8 0), (.int .u8 0), (.int .u8 0), (.int .u8 0), (.int .u8 0), (.int .u8 0), (.int .u8 0), (.int .u8 0), (.int .u8 0), (.int .u8 0), (.int .u8 0), (.int .u8 0), (.int .u8 0), (.int .u8 0), (.int .u8 0), (.int .u8 0), (.int .u8 0), (.int .u8 0)] [(0, 1, (.s 19)), (1, 32, (.s 20))] },
        { dst := none, op := .stor 33 (.s 2) (.s 21) },
        { dst := some 3, op := .mov (.c (.int .i64 0)) }])
      (.ret)))))
    [.cell 2 33 true, .tmp 3]
theorem tr_merkle_Root : trF Tryd.prog [39] 34 [] = some F_merkle_Root := by kernel_rfl

/-! wagonpool/bisect.valid -/
def F_bisect_valid : PF :=
  .mk
    (.seq (.ops [{ dst := some 1, op := .box (.s 0) },
        { dst := some 2, op := .mov (.c (.bool false)) }])
      (.seq (.seq (.ops [{ dst := some 3, op := .fld 0 (.s 1) },
        { dst := some 4, op := .load 1 false (.s 3) },
        { dst := some 5, op := .bin .lss (.s 4) (.c (.int .i64 0)) },
        { dst := some 6, op := .mov (.s 5) },
        { dst := some 7, op := .fld 0 (.s 1), guard := some (6, false) },
        { dst := some 8, op := .load 1 false (.s 7), guard := some (6, false) },
        { dst := some 9, op := .bin .gtr (.s 8) (.c (.int .i64 16)), guard := some (6, false) },
        { dst := some 10, op := .pick (.s 6) (.c (.bool true)) (.s 9) },
        { dst := some 11, op := .mov (.s 10) },
        { dst := some 12, op := .fld 1 (.s 1), guard := some (11, false) },
        { dst := some 13, op := .load 1 false (.s 12), guard := some (11, false) },
        { dst := some 14, op := .bin .lss (.s 13) (.c (.int .i64 0)), guard := some (11, false) },
        { dst := some 15, op := .pick (.s 11) (.c (.bool true)) (.s 14) },
        { dst := some 16, op := .mov (.s 15) },
        { dst := some 17, op := .fld 1 (.s 1), guard := some (16, false) },
        { dst := some 18, op := .load 1 false (.s 17), guard := some (16, false) },
        { dst := some 19, op := .fld 0 (.s 1), guard := some (16, false) },
        { dst := some 20, op := .load 1 false (.s 19), guard := some (16, false) },
        { dst := some 21, op := .bin .gtr (.s 18) (.s 20), guard := some (16, false) },
        { dst := some 22, op := .pick (.s 16) (.c (.bool true)) (.s 21) }])
      (.cond (.s 22)
        (.seq (.ops [{ dst := some 2, op := .mov (.c (.bool false)) }])
        (.ret))
        (.skip)))
      (.seq (.ops [{ dst := some 23, op := .fld 2 (.s 1) },
        { dst := some 24, op := .load 1 false (.s 23) },
        { dst := some 25, op := .bin .geq (.s 24) (.c (.int .i64 0)) },
        { dst := some 26, op := .mov (.s 25) },
        { dst := some 27, op := .fld 2 (.s 1), guard := some (26, true) },
        { dst := some 28, op := .load 1 false (.s 27), guard := some (26, true) },
        { dst := some 29, op := .fld 0 (.s 1), guard := some (26, true) },
        { dst := some 30, op := .load 1 false (.s 29), guard := some (26, true) },
        { dst := some 31, op := .fld 1 (.s 1), guard := some (26, true) },
        { dst := some 32, op := .load 1 false (.s 31), guard := some (26, true) },
        { dst := some 33, op := .bin .sub (.s 30) (.s 32), guard := some (26, true) },
        { dst := some 34, op := .bin .shr (.s 28) (.s 33), guard := some (26, true) },
        { dst := some 35, op := .bin .eql (.s 34) (.c (.int .i64 0)), guard := some (26, true) },
        { dst := some 36, op := .pick (.s 26) (.s 35) (.c (.bool false)) },
        { dst := some 37, op := .mov (.s 36) },
        { dst := some 38, op := .fld 197 (.s 1), guard := some (37, true) },
        { dst := some 39, op := .load 1 false (.s 38), guard := some (37, true) },
        { dst := some 40, op := .fld 0 (.s 1), guard := some (37, true) },
        { dst := some 41, op := .load 1 false (.s 40), guard := some (37, true) },
        { dst := some 42, op := .fld 1 (.s 1), guard := some (37, true) },
        { dst := some 43, op := .load 1 false (.s 42), guard := some (37, true) },
        { dst := some 44, op := .bin .sub (.s 41) (.s 43), guard := some (37, true) },
        { dst := some 45, op := .bin .eql (.s 39) (.s 44), guard := some (37, true) },
        { dst := some 46, op := .pick (.s 37) (.s 45) (.c (.bool false)) },
        { dst := some 2, op := .mov (.s 46) }])
      (.ret))))
    [.tmp 2]
theorem tr_bisect_valid : trF Tryd.prog [39] 35 [] = some F_bisect_valid := by kernel_rfl

/-! wagonpool/wagonpoolref04.Depth -/
def F_wagonpoolref04_Depth_L0 : PC :=
  .seq (.seq (.ops [{ dst := some 10, op := .mov (.s 3) },
      { dst := some 11, op := .call 48 [(.s 10)] },
      { dst := some 12, op := .mov (.s 0) },
      { dst := some 13, op := .bin .lss (.s 11) (.s 12) }])
    (.cond (.s 13)
      (.skip)
      (.exit 0)))
    (.block 1 (.ops [{ dst := some 14, op := .mov (.s 3) },
        { dst := some 15, op := .bin .add (.s 14) (.c (.int .i64 1)) },
        { dst := some 3, op := .mov (.s 15) }]))

def F_wagonpoolref04_Depth : PF :=
  .mk
    (.seq (.ops [{ dst := some 2, op := .mov (.c (.int .i64 0)) }])
      (.seq (.seq (.ops [{ dst := some 4, op := .mov (.s 0) },
        { dst := some 5, op := .bin .lss (.s 4) (.c (.int .i64 0)) },
        { dst := some 6, op := .mov (.s 5) },
        { dst := some 7, op := .mov (.s 0), guard := some (6, false) },
        { dst := some 8, op := .bin .gtr (.s 7) (.c (.int .i64 65536)), guard := some (6, false) },
        { dst := some 9, op := .pick (.s 6) (.c (.bool true)) (.s 8) }])
      (.cond (.s 9)
        (.seq (.ops [{ dst := some 2, op := .mov (.c (.int .i64 (-1))) }])
        (.ret))
        (.skip)))
      (.seq (.ops [{ dst := some 3, op := .mov (.c (.int .i64 0)) }])
      (.seq (.block 0 (.loop [0, 3] F_wagonpoolref04_Depth_L0))
      (.seq (.ops [{ dst := some 16, op := .mov (.s 3) },
        { dst := some 2, op := .mov (.s 16) }])
      (.ret))))))
    [.tmp 2]
theorem tr_wagonpoolref04_Depth : trF Tryd.prog [39] 36 [[0, 3]] = some F_wagonpoolref04_Depth := by kernel_rfl

/-! wagonpool/wagonpoolref04.Node -/
def F_wagonpoolref04_Node : PF :=
  .mk
    (.seq (.ops [{ dst := some 6, op := .box (.c (.agg (digC zeroDig))) },
        { dst := some 7, op := .mov (.c (.bool false)) }])
      (.seq (.seq (.ops [{ dst := some 8, op := .mov (.s 0) },
        { dst := some 9, op := .len false (.s 8) },
        { dst := some 10, op := .bin .gtr (.s 9) (.c (.int .i64 65536)) },
        { dst := some 11, op := .mov (.s 10) },
        { dst := some 12, op := .mov (.s 1), guard := some (11, false) },
        { dst := some 13, op := .bin .lss (.s 12) (.c (.int .i64 0)), guard := some (11, false) },
        { dst := some 14, op := .pick (.s 11) (.c (.bool true)) (.s 13) },
        { dst := some 15, op := .mov (.s 14) },
        { dst := some 16, op := .mov (.s 1), guard := some (15, false) },
        { dst := some 17, op := .bin .gtr (.s 16) (.c (.int .i64 16)), guard := some (15, false) },
        { dst := some 18, op := .pick (.s 15) (.c (.bool true)) (.s 17) },
        { dst := some 19, op := .mov (.s 18) },
        { dst := some 20, op := .mov (.s 2), guard := some (19, false) },
        { dst := some 21, op := .bin .lss (.s 20) (.c (.int .i64 0)), guard := some (19, false) },
        { dst := some 22, op := .pick (.s 19) (.c (.bool true)) (.s 21) },
        { dst := some 23, op := .mov (.s 22) },
        { dst := some 24, op := .mov (.s 2), guard := some (23, false) },
        { dst := some 25, op := .mov (.s 1), guard := some (23, false) },
        { dst := some 26, op := .bin .sub (.c (.int .i64 16)) (.s 25), guard := some (23, false) },
        { dst := some 27, op := .call 48 [(.s 26)], guard := some (23, false) },
        { dst := some 28, op := .bin .geq (.s 24) (.s 27), guard := some (23, false) },
        { dst := some 29, op := .pick (.s 23) (.c (.bool true)) (.s 28) }])
      (.cond (.s 29)
        (.seq (.ops [{ dst := some 30, op := .bld (digC zeroDig) [] },
          { dst := none, op := .stor 32 (.s 6) (.s 30) },
          { dst := some 7, op := .mov (.c (.bool false)) }])
        (.ret))
        (.skip)))
      (.seq (.ops [{ dst := some 31, op := .mov (.s 0) },
        { dst := some 32, op := .mov (.s 1) },
        { dst := some 33, op := .mov (.s 2) },
        { dst := some 34, op := .call 49 [(.s 31), (.s 32), (.s 33)] },
        { dst := none, op := .stor 32 (.s 6) (.s 34) },
        { dst := some 7, op := .mov (.c (.bool true)) }])
      (.ret))))
    [.cell 6 32 true, .tmp 7]
theorem tr_wagonpoolref04_Node : trF Tryd.prog [39] 37 [] = some F_wagonpoolref04_Node := by kernel_rfl

/-! wagonpool/wagonpoolref04.Parent -/
def F_wagonpoolref04_Parent : PF :=
  .mk
    (.seq (.ops [{ dst := some 2, op := .box (.s 0) },
        { dst := some 3, op := .box (.s 1) },
        { dst := some 4, op := .box (.c (.agg (digC zeroDig))) }])
      (.seq (.ops [{ dst := some 5, op := .load 32 true (.s 2) },
        { dst := some 6, op := .load 32 true (.s 3) },
        { dst := some 7, op := .call 51 [(.s 5), (.s 6)] },
        { dst := some 8, op := .call 50 [(.c (.str [110, 111, 100, 101])), (.s 7)] },
        { dst := none, op := .stor 32 (.s 4) (.s 8) }])
      (.ret)))
    [.cell 4 32 true]
theorem tr_wagonpoolref04_Parent : trF Tryd.prog [39] 38 [] = some F_wagonpoolref04_Parent := by kernel_rfl

/-! wagonpool/merkle.levels -/
def F_merkle_levels_L0 : PC :=
  .seq (.seq (.ops [{ dst := some 28, op := .mov (.s 10) },
      { dst := some 29, op := .mov (.s 6) },
      { dst := some 30, op := .len false (.s 29) },
      { dst := some 31, op := .bin .lss (.s 28) (.s 30) }])
    (.cond (.s 31)
      (.skip)
      (.exit 2)))
    (.seq (.block 3 (.ops [{ dst := some 34, op := .mov (.s 9) },
        { dst := some 35, op := .mov (.s 6) },
        { dst := some 36, op := .mov (.s 10) },
        { dst := some 37, op := .idxS 32 (.s 35) (.s 36) },
        { dst := some 38, op := .load 32 true (.s 37) },
        { dst := some 39, op := .mov (.s 6) },
        { dst := some 40, op := .mov (.s 10) },
        { dst := some 41, op := .bin .add (.s 40) (.c (.int .i64 1)) },
        { dst := some 42, op := .load 32 true (.s 7) },
        { dst := some 43, op := .call 41 [(.s 39), (.s 41), (.s 42)] },
        { dst := some 44, op := .call 27 [(.s 38), (.s 43)] },
        { dst := some 45, op := .bslc 32 [(.s 44)] },
        { dst := some 46, op := .app 32 32 (.s 34) (.s 45) },
        { dst := some 9, op := .mov (.s 46) }]))
    (.ops [{ dst := some 32, op := .mov (.s 10) },
      { dst := some 33, op := .bin .add (.s 32) (.c (.int .i64 2)) },
      { dst := some 10, op := .mov (.s 33) }]))

def F_merkle_levels_L1 : PC :=
  .seq (.ops [{ dst := some 16, op := .bin .lss (.s 15) (.s 14) }])
    (.seq (.cond (.s 16)
      (.skip)
      (.exit 0))
    (.seq (.block 1 (.seq (.ops [{ dst := some 17, op := .mov (.s 15) },
        { dst := some 8, op := .mov (.s 17) }])
      (.seq (.ops [{ dst := some 18, op := .mov (.s 2) },
        { dst := some 19, op := .mov (.s 8) },
        { dst := some 20, op := .mov (.s 6) },
        { dst := some 21, op := .load 32 true (.s 7) },
        { dst := some 22, op := .callv (.s 18) [(.s 19), (.s 20), (.s 21)] }])
      (.seq (.ops [{ dst := some 23, op := .mov (.s 6) },
        { dst := some 24, op := .len false (.s 23) },
        { dst := some 25, op := .bin .add (.s 24) (.c (.int .i64 1)) },
        { dst := some 26, op := .bin .quo (.s 25) (.c (.int .i64 2)) },
        { dst := some 27, op := .mkslc 32 32 (.agg (digC zeroDig)) (.c (.int .i64 0)) (.s 26) },
        { dst := some 9, op := .mov (.s 27) }])
      (.seq (.seq (.ops [{ dst := some 10, op := .mov (.c (.int .i64 0)) }])
      (.block 2 (.loop [2, 6, 7, 9, 10, 14, 15] F_merkle_levels_L0)))
      (.ops [{ dst := some 47, op := .mov (.s 9) },
        { dst := some 48, op := .load 32 true (.s 7) },
        { dst := some 49, op := .load 32 true (.s 7) },
        { dst := some 50, op := .call 27 [(.s 48), (.s 49)] },
        { dst := some 6, op := .mov (.s 47) },
        { dst := none, op := .stor 32 (.s 7) (.s 50) }]))))))
    (.ops [{ dst := some 51, op := .bin .add (.s 15) (.c (.int .i64 1)) },
      { dst := some 15, op := .mov (.s 51) }])))

def F_merkle_levels : PF :=
  .mk
    (.seq (.ops [{ dst := some 11, op := .mov (.s 0) },
        { dst := some 12, op := .call 32 [] },
        { dst := some 7, op := .box (.c (.agg (digC zeroDig))) },
        { dst := some 6, op := .mov (.s 11) },
        { dst := none, op := .stor 32 (.s 7) (.s 12) }])
      (.seq (.ops [{ dst := some 13, op := .mov (.s 1) },
        { dst := some 14, op := .bin .add (.s 13) (.c (.int .i64 1)) },
        { dst := some 15, op := .mov (.c (.int .i64 0)) }])
      (.block 0 (.loop [2, 6, 7, 14, 15] F_merkle_levels_L1))))
    []
theorem tr_merkle_levels : trF Tryd.prog [39] 39 [[2, 6, 7, 14, 15], [2, 6, 7, 9, 10, 14, 15]] = some F_merkle_levels := by kernel_rfl

/-! wagonpool/merkle.Path$1 -/
def F_merkle_Path_1 : PF :=
  .mk
    (.seq (.ops [{ dst := some 7, op := .box (.s 2) }])
      (.ops [{ dst := some 8, op := .load 1 false (.s 3) },
        { dst := some 9, op := .mov (.s 1) },
        { dst := some 10, op := .load 1 false (.s 4) },
        { dst := some 11, op := .mov (.s 0) },
        { dst := some 12, op := .bin .shr (.s 10) (.s 11) },
        { dst := some 13, op := .bin .xor (.s 12) (.c (.int .i64 1)) },
        { dst := some 14, op := .load 32 true (.s 7) },
        { dst := some 15, op := .call 41 [(.s 9), (.s 13), (.s 14)] },
        { dst := some 16, op := .bslc 32 [(.s 15)] },
        { dst := some 17, op := .app 32 32 (.s 8) (.s 16) },
        { dst := none, op := .stor 1 (.s 3) (.s 17) }]))
    []
theorem tr_merkle_Path_1 : trF Tryd.prog [39] 40 [] = some F_merkle_Path_1 := by kernel_rfl

/-! wagonpool/merkle.at -/
def F_merkle_at : PF :=
  .mk
    (.seq (.ops [{ dst := some 5, op := .box (.s 2) },
        { dst := some 6, op := .box (.c (.agg (digC zeroDig))) }])
      (.seq (.seq (.ops [{ dst := some 7, op := .mov (.s 1) },
        { dst := some 8, op := .mov (.s 0) },
        { dst := some 9, op := .len false (.s 8) },
        { dst := some 10, op := .bin .lss (.s 7) (.s 9) }])
      (.cond (.s 10)
        (.seq (.ops [{ dst := some 11, op := .mov (.s 0) },
          { dst := some 12, op := .mov (.s 1) },
          { dst := some 13, op := .idxS 32 (.s 11) (.s 12) },
          { dst := some 14, op := .load 32 true (.s 13) },
          { dst := none, op := .stor 32 (.s 6) (.s 14) }])
        (.ret))
        (.skip)))
      (.seq (.ops [{ dst := some 15, op := .load 32 true (.s 5) },
        { dst := none, op := .stor 32 (.s 6) (.s 15) }])
      (.ret))))
    [.cell 6 32 true]
theorem tr_merkle_at : trF Tryd.prog [39] 41 [] = some F_merkle_at := by kernel_rfl

/-! wagonpool/wagonpoolref38.Valid -/
def F_wagonpoolref38_Valid : PF :=
  .mk
    (.seq (.ops [{ dst := some 1, op := .box (.s 0) },
        { dst := some 2, op := .mov (.c (.bool false)) }])
      (.seq (.seq (.ops [{ dst := some 3, op := .fld 0 (.s 1) },
        { dst := some 4, op := .load 1 false (.s 3) },
        { dst := some 5, op := .bin .lss (.s 4) (.c (.int .i64 0)) },
        { dst := some 6, op := .mov (.s 5) },
        { dst := some 7, op := .fld 0 (.s 1), guard := some (6, false) },
        { dst := some 8, op := .load 1 false (.s 7), guard := some (6, false) },
        { dst := some 9, op := .bin .gtr (.s 8) (.c (.int .i64 16)), guard := some (6, false) },
        { dst := some 10, op := .pick (.s 6) (.c (.bool true)) (.s 9) },
        { dst := some 11, op := .mov (.s 10) },
        { dst := some 12, op := .fld 1 (.s 1), guard := some (11, false) },
        { dst := some 13, op := .load 1 false (.s 12), guard := some (11, false) },
        { dst := some 14, op := .bin .lss (.s 13) (.c (.int .i64 0)), guard := some (11, false) },
        { dst := some 15, op := .pick (.s 11) (.c (.bool true)) (.s 14) },
        { dst := some 16, op := .mov (.s 15) },
        { dst := some 17, op := .fld 1 (.s 1), guard := some (16, false) },
        { dst := some 18, op := .load 1 false (.s 17), guard := some (16, false) },
        { dst := some 19, op := .fld 0 (.s 1), guard := some (16, false) },
        { dst := some 20, op := .load 1 false (.s 19), guard := some (16, false) },
        { dst := some 21, op := .bin .gtr (.s 18) (.s 20), guard := some (16, false) },
        { dst := some 22, op := .pick (.s 16) (.c (.bool true)) (.s 21) }])
      (.cond (.s 22)
        (.seq (.ops [{ dst := some 2, op := .mov (.c (.bool false)) }])
        (.ret))
        (.skip)))
      (.seq (.ops [{ dst := some 23, op := .fld 2 (.s 1) },
        { dst := some 24, op := .load 1 false (.s 23) },
        { dst := some 25, op := .bin .geq (.s 24) (.c (.int .i64 0)) },
        { dst := some 26, op := .mov (.s 25) },
        { dst := some 27, op := .fld 2 (.s 1), guard := some (26, true) },
        { dst := some 28, op := .load 1 false (.s 27), guard := some (26, true) },
        { dst := some 29, op := .fld 0 (.s 1), guard := some (26, true) },
        { dst := some 30, op := .load 1 false (.s 29), guard := some (26, true) },
        { dst := some 31, op := .fld 1 (.s 1), guard := some (26, true) },
        { dst := some 32, op := .load 1 false (.s 31), guard := some (26, true) },
        { dst := some 33, op := .bin .sub (.s 30) (.s 32), guard := some (26, true) },
        { dst := some 34, op := .call 52 [(.s 33)], guard := some (26, true) },
        { dst := some 35, op := .bin .lss (.s 28) (.s 34), guard := some (26, true) },
        { dst := some 36, op := .pick (.s 26) (.s 35) (.c (.bool false)) },
        { dst := some 37, op := .mov (.s 36) },
        { dst := some 38, op := .fld 197 (.s 1), guard := some (37, true) },
        { dst := some 39, op := .load 1 false (.s 38), guard := some (37, true) },
        { dst := some 40, op := .fld 0 (.s 1), guard := some (37, true) },
        { dst := some 41, op := .load 1 false (.s 40), guard := some (37, true) },
        { dst := some 42, op := .fld 1 (.s 1), guard := some (37, true) },
        { dst := some 43, op := .load 1 false (.s 42), guard := some (37, true) },
        { dst := some 44, op := .bin .sub (.s 41) (.s 43), guard := some (37, true) },
        { dst := some 45, op := .bin .eql (.s 39) (.s 44), guard := some (37, true) },
        { dst := some 46, op := .pick (.s 37) (.s 45) (.c (.bool false)) },
        { dst := some 2, op := .mov (.s 46) }])
      (.ret))))
    [.tmp 2]
theorem tr_wagonpoolref38_Valid : trF Tryd.prog [39] 42 [] = some F_wagonpoolref38_Valid := by kernel_rfl

/-! math/bits.Len -/
def F_math_bits_Len : PF :=
  .mk
    (.seq (.ops [{ dst := some 2, op := .mov (.c (.int .i64 0)) }])
      (.seq (.cond (.c (.bool false))
        (.seq (.ops [{ dst := some 3, op := .mov (.s 0) },
          { dst := some 4, op := .conv (.int .u32) (.s 3) },
          { dst := some 5, op := .call 53 [(.s 4)] },
          { dst := some 2, op := .mov (.s 5) }])
        (.ret))
        (.skip))
      (.seq (.ops [{ dst := some 6, op := .mov (.s 0) },
        { dst := some 7, op := .call 54 [(.s 6)] },
        { dst := some 2, op := .mov (.s 7) }])
      (.ret))))
    [.tmp 2]
theorem tr_math_bits_Len : trF Tryd.prog [39] 43 [] = some F_math_bits_Len := by kernel_rfl

/-! wagonpool/merkle.Node$1 -/
def F_merkle_Node_1 : PF :=
  .mk
    (.seq (.ops [{ dst := some 8, op := .box (.s 2) }])
      (.seq (.ops [{ dst := some 9, op := .mov (.s 0) },
        { dst := some 10, op := .load 1 false (.s 3) },
        { dst := some 11, op := .bin .eql (.s 9) (.s 10) }])
      (.cond (.s 11)
        (.ops [{ dst := some 12, op := .mov (.s 1) },
          { dst := some 13, op := .load 1 false (.s 4) },
          { dst := some 14, op := .load 32 true (.s 8) },
          { dst := some 15, op := .call 41 [(.s 12), (.s 13), (.s 14)] },
          { dst := none, op := .stor 32 (.s 5) (.s 15) }])
        (.skip))))
    []
theorem tr_merkle_Node_1 : trF Tryd.prog [39] 44 [] = some F_merkle_Node_1 := by kernel_rfl

/-! wagonpool/wagonpoolref04.Pad -/
def F_wagonpoolref04_Pad : PF :=
  .mk
    (.seq (.ops [{ dst := some 0, op := .box (.c (.agg (digC zeroDig))) }])
      (.seq (.ops [{ dst := some 1, op := .call 50 [(.c (.str [112, 97, 100])), (.c (.slc 0 [] true))] },
        { dst := none, op := .stor 32 (.s 0) (.s 1) }])
      (.ret)))
    [.cell 0 32 true]
theorem tr_wagonpoolref04_Pad : trF Tryd.prog [39] 45 [] = some F_wagonpoolref04_Pad := by kernel_rfl

/-! wagonpool/digest.Tagged -/
def F_digest_Tagged : PF :=
  .mk
    (.seq (.ops [{ dst := some 4, op := .box (.c (.agg (digC zeroDig))) }])
      (.seq (.ops [{ dst := some 5, op := .mov (.s 0) },
        { dst := some 6, op := .mov (.s 0) },
        { dst := some 7, op := .len true (.s 6) },
        { dst := some 8, op := .mm false (.s 7) (.c (.int .i64 255)) },
        { dst := some 9, op := .slice 0 (.s 5) none (some (.s 8)) none },
        { dst := some 0, op := .mov (.s 9) }])
      (.seq (.ops [{ dst := some 10, op := .mov (.s 0) },
        { dst := some 11, op := .len true (.s 10) },
        { dst := some 12, op := .conv (.int .u8) (.s 11) },
        { dst := some 13, op := .bslc 1 [(.s 12)] },
        { dst := some 14, op := .mov (.s 0) },
        { dst := some 15, op := .conv .bytes (.s 14) },
        { dst := some 16, op := .mov (.s 1) },
        { dst := some 17, op := .bslc 1 [(.s 13), (.s 15), (.s 16)] },
        { dst := some 18, op := .call 55 [(.s 17)] },
        { dst := none, op := .stor 32 (.s 4) (.s 18) }])
      (.ret))))
    [.cell 4 32 true]
theorem tr_digest_Tagged : trF Tryd.prog [39] 46 [] = some F_digest_Tagged := by kernel_rfl

/-! wagonpool/wagonpoolref38.padded -/
def F_wagonpoolref38_padded_L0 : PC :=
  .seq (.seq (.ops [{ dst := some 12, op := .mov (.s 6) },
      { dst := some 13, op := .mov (.s 1) },
      { dst := some 14, op := .bin .lss (.s 12) (.s 13) }])
    (.cond (.s 14)
      (.skip)
      (.exit 0)))
    (.seq (.block 1 (.ops [{ dst := some 17, op := .load 32 true (.s 5) },
        { dst := some 18, op := .mov (.s 6) },
        { dst := some 19, op := .call 56 [(.s 18)] },
        { dst := some 20, op := .call 38 [(.s 17), (.s 19)] },
        { dst := none, op := .stor 32 (.s 5) (.s 20) }]))
    (.ops [{ dst := some 15, op := .mov (.s 6) },
      { dst := some 16, op := .bin .add (.s 15) (.c (.int .i64 1)) },
      { dst := some 6, op := .mov (.s 16) }]))

def F_wagonpoolref38_padded : PF :=
  .mk
    (.seq (.ops [{ dst := some 2, op := .box (.s 0) },
        { dst := some 4, op := .box (.c (.agg (digC zeroDig))) }])
      (.seq (.ops [{ dst := some 7, op := .fld 1 (.s 2) },
        { dst := some 8, op := .load 32 true (.s 7) },
        { dst := some 5, op := .box (.c (.agg (digC zeroDig))) },
        { dst := none, op := .stor 32 (.s 5) (.s 8) }])
      (.seq (.seq (.ops [{ dst := some 9, op := .fld 0 (.s 2) },
        { dst := some 10, op := .load 1 false (.s 9) },
        { dst := some 11, op := .call 36 [(.s 10)] },
        { dst := some 6, op := .mov (.s 11) }])
      (.block 0 (.loop [1, 4, 5, 6] F_wagonpoolref38_padded_L0)))
      (.seq (.ops [{ dst := some 21, op := .load 32 true (.s 5) },
        { dst := none, op := .stor 32 (.s 4) (.s 21) }])
      (.ret)))))
    [.cell 4 32 true]
theorem tr_wagonpoolref38_padded : trF Tryd.prog [39] 47 [[1, 4, 5, 6]] = some F_wagonpoolref38_padded := by kernel_rfl

/-! wagonpool/wagonpoolref04.power -/
def F_wagonpoolref04_power_L0 : PC :=
  .seq (.seq (.ops [{ dst := some 5, op := .mov (.s 4) },
      { dst := some 6, op := .mov (.s 0) },
      { dst := some 7, op := .bin .lss (.s 5) (.s 6) }])
    (.cond (.s 7)
      (.skip)
      (.exit 0)))
    (.seq (.block 1 (.ops [{ dst := some 10, op := .mov (.s 3) },
        { dst := some 11, op := .bin .mul (.c (.int .i64 2)) (.s 10) },
        { dst := some 3, op := .mov (.s 11) }]))
    (.ops [{ dst := some 8, op := .mov (.s 4) },
      { dst := some 9, op := .bin .add (.s 8) (.c (.int .i64 1)) },
      { dst := some 4, op := .mov (.s 9) }]))

def F_wagonpoolref04_power : PF :=
  .mk
    (.seq (.ops [{ dst := some 2, op := .mov (.c (.int .i64 0)) }])
      (.seq (.ops [{ dst := some 3, op := .mov (.c (.int .i64 1)) }])
      (.seq (.seq (.ops [{ dst := some 4, op := .mov (.c (.int .i64 0)) }])
      (.block 0 (.loop [0, 3, 4] F_wagonpoolref04_power_L0)))
      (.seq (.ops [{ dst := some 12, op := .mov (.s 3) },
        { dst := some 2, op := .mov (.s 12) }])
      (.ret)))))
    [.tmp 2]
theorem tr_wagonpoolref04_power : trF Tryd.prog [39] 48 [[0, 3, 4]] = some F_wagonpoolref04_power := by kernel_rfl

/-! wagonpool/wagonpoolref04.node -/
def F_wagonpoolref04_node_L0 : PC :=
  .seq (.seq (.ops [{ dst := some 12, op := .mov (.s 9) },
      { dst := some 13, op := .mov (.s 1) },
      { dst := some 14, op := .bin .lss (.s 12) (.s 13) }])
    (.cond (.s 14)
      (.skip)
      (.exit 0)))
    (.seq (.block 1 (.seq (.ops [{ dst := some 17, op := .mov (.s 7) },
        { dst := some 18, op := .load 32 true (.s 8) },
        { dst := some 19, op := .call 57 [(.s 17), (.s 18)] },
        { dst := some 7, op := .mov (.s 19) }])
      (.ops [{ dst := some 20, op := .load 32 true (.s 8) },
        { dst := some 21, op := .load 32 true (.s 8) },
        { dst := some 22, op := .call 38 [(.s 20), (.s 21)] },
        { dst := none, op := .stor 32 (.s 8) (.s 22) }])))
    (.ops [{ dst := some 15, op := .mov (.s 9) },
      { dst := some 16, op := .bin .add (.s 15) (.c (.int .i64 1)) },
      { dst := some 9, op := .mov (.s 16) }]))

def F_wagonpoolref04_node : PF :=
  .mk
    (.seq (.ops [{ dst := some 6, op := .box (.c (.agg (digC zeroDig))) }])
      (.seq (.ops [{ dst := some 10, op := .mov (.s 0) },
        { dst := some 7, op := .mov (.s 10) }])
      (.seq (.ops [{ dst := some 11, op := .call 45 [] },
        { dst := some 8, op := .box (.c (.agg (digC zeroDig))) },
        { dst := none, op := .stor 32 (.s 8) (.s 11) }])
      (.seq (.seq (.ops [{ dst := some 9, op := .mov (.c (.int .i64 0)) }])
      (.block 0 (.loop [1, 2, 6, 7, 8, 9] F_wagonpoolref04_node_L0)))
      (.seq (.seq (.ops [{ dst := some 23, op := .mov (.s 2) },
        { dst := some 24, op := .mov (.s 7) },
        { dst := some 25, op := .len false (.s 24) },
        { dst := some 26, op := .bin .lss (.s 23) (.s 25) }])
      (.cond (.s 26)
        (.seq (.ops [{ dst := some 27, op := .mov (.s 7) },
          { dst := some 28, op := .mov (.s 2) },
          { dst := some 29, op := .idxS 32 (.s 27) (.s 28) },
          { dst := some 30, op := .load 32 true (.s 29) },
          { dst := none, op := .stor 32 (.s 6) (.s 30) }])
        (.ret))
        (.skip)))
      (.seq (.ops [{ dst := some 31, op := .load 32 true (.s 8) },
        { dst := none, op := .stor 32 (.s 6) (.s 31) }])
      (.ret)))))))
    [.cell 6 32 true]
theorem tr_wagonpoolref04_node : trF Tryd.prog [39] 49 [[1, 2, 6, 7, 8, 9]] = some F_wagonpoolref04_node := by kernel_rfl

/-! wagonpool/wagonpoolref02.Tagged -/
def F_wagonpoolref02_Tagged : PF :=
  .mk
    (.seq (.ops [{ dst := some 4, op := .box (.c (.agg (digC zeroDig))) }])
      (.seq (.ops [{ dst := some 5, op := .mov (.s 0) },
        { dst := some 6, op := .mov (.s 1) },
        { dst := some 7, op := .call 59 [(.s 5), (.s 6)] },
        { dst := some 8, op := .call 58 [(.s 7)] },
        { dst := none, op := .stor 32 (.s 4) (.s 8) }])
      (.ret)))
    [.cell 4 32 true]
theorem tr_wagonpoolref02_Tagged : trF Tryd.prog [39] 50 [] = some F_wagonpoolref02_Tagged := by kernel_rfl

/-! wagonpool/wagonpoolref04.Pair -/
def F_wagonpoolref04_Pair_L0 : PC :=
  .seq (.seq (.ops [{ dst := some 9, op := .mov (.s 6) },
      { dst := some 10, op := .bin .lss (.s 9) (.c (.int .i64 32)) }])
    (.cond (.s 10)
      (.skip)
      (.exit 0)))
    (.seq (.block 1 (.ops [{ dst := some 13, op := .mov (.s 5) },
        { dst := some 14, op := .mov (.s 6) },
        { dst := some 15, op := .idxA 32 1 (.s 2) (.s 14) },
        { dst := some 16, op := .load 1 false (.s 15) },
        { dst := some 17, op := .bslc 1 [(.s 16)] },
        { dst := some 18, op := .app 1 1 (.s 13) (.s 17) },
        { dst := some 5, op := .mov (.s 18) }]))
    (.ops [{ dst := some 11, op := .mov (.s 6) },
      { dst := some 12, op := .bin .add (.s 11) (.c (.int .i64 1)) },
      { dst := some 6, op := .mov (.s 12) }]))

def F_wagonpoolref04_Pair_L1 : PC :=
  .seq (.seq (.ops [{ dst := some 19, op := .mov (.s 7) },
      { dst := some 20, op := .bin .lss (.s 19) (.c (.int .i64 32)) }])
    (.cond (.s 20)
      (.skip)
      (.exit 2)))
    (.seq (.block 3 (.ops [{ dst := some 23, op := .mov (.s 5) },
        { dst := some 24, op := .mov (.s 7) },
        { dst := some 25, op := .idxA 32 1 (.s 3) (.s 24) },
        { dst := some 26, op := .load 1 false (.s 25) },
        { dst := some 27, op := .bslc 1 [(.s 26)] },
        { dst := some 28, op := .app 1 1 (.s 23) (.s 27) },
        { dst := some 5, op := .mov (.s 28) }]))
    (.ops [{ dst := some 21, op := .mov (.s 7) },
      { dst := some 22, op := .bin .add (.s 21) (.c (.int .i64 1)) },
      { dst := some 7, op := .mov (.s 22) }]))

def F_wagonpoolref04_Pair : PF :=
  .mk
    (.seq (.ops [{ dst := some 2, op := .box (.s 0) },
        { dst := some 3, op := .box (.s 1) },
        { dst := some 4, op := .mov (.c (.slc 0 [] true)) }])
      (.seq (.ops [{ dst := some 8, op := .bslc 1 [] },
        { dst := some 5, op := .mov (.s 8) }])
      (.seq (.seq (.ops [{ dst := some 6, op := .mov (.c (.int .i64 0)) }])
      (.block 0 (.loop [2, 3, 5, 6] F_wagonpoolref04_Pair_L0)))
      (.seq (.seq (.ops [{ dst := some 7, op := .mov (.c (.int .i64 0)) }])
      (.block 2 (.loop [3, 5, 7] F_wagonpoolref04_Pair_L1)))
      (.seq (.ops [{ dst := some 29, op := .mov (.s 5) },
        { dst := some 4, op := .mov (.s 29) }])
      (.ret))))))
    [.tmp 4]
theorem tr_wagonpoolref04_Pair : trF Tryd.prog [39] 51 [[2, 3, 5, 6], [3, 5, 7]] = some F_wagonpoolref04_Pair := by kernel_rfl

/-! wagonpool/wagonpoolref38.power -/
def F_wagonpoolref38_power_L0 : PC :=
  .seq (.seq (.ops [{ dst := some 5, op := .mov (.s 4) },
      { dst := some 6, op := .mov (.s 0) },
      { dst := some 7, op := .bin .lss (.s 5) (.s 6) }])
    (.cond (.s 7)
      (.skip)
      (.exit 0)))
    (.seq (.block 1 (.ops [{ dst := some 10, op := .mov (.s 3) },
        { dst := some 11, op := .bin .mul (.c (.int .i64 2)) (.s 10) },
        { dst := some 3, op := .mov (.s 11) }]))
    (.ops [{ dst := some 8, op := .mov (.s 4) },
      { dst := some 9, op := .bin .add (.s 8) (.c (.int .i64 1)) },
      { dst := some 4, op := .mov (.s 9) }]))

def F_wagonpoolref38_power : PF :=
  .mk
    (.seq (.ops [{ dst := some 2, op := .mov (.c (.int .i64 0)) }])
      (.seq (.ops [{ dst := some 3, op := .mov (.c (.int .i64 1)) }])
      (.seq (.seq (.ops [{ dst := some 4, op := .mov (.c (.int .i64 0)) }])
      (.block 0 (.loop [0, 3, 4] F_wagonpoolref38_power_L0)))
      (.seq (.ops [{ dst := some 12, op := .mov (.s 3) },
        { dst := some 2, op := .mov (.s 12) }])
      (.ret)))))
    [.tmp 2]
theorem tr_wagonpoolref38_power : trF Tryd.prog [39] 52 [[0, 3, 4]] = some F_wagonpoolref38_power := by kernel_rfl

/-! math/bits.Len32 -/
def F_math_bits_Len32 : PF :=
  .mk
    (.seq (.ops [{ dst := some 2, op := .mov (.c (.int .i64 0)) }])
      (.seq (.seq (.ops [{ dst := some 3, op := .mov (.s 0) },
        { dst := some 4, op := .bin .geq (.s 3) (.c (.int .u32 65536)) }])
      (.cond (.s 4)
        (.seq (.ops [{ dst := some 5, op := .mov (.s 0) },
          { dst := some 6, op := .bin .shr (.s 5) (.c (.int .u64 16)) },
          { dst := some 0, op := .mov (.s 6) }])
        (.ops [{ dst := some 2, op := .mov (.c (.int .i64 16)) }]))
        (.skip)))
      (.seq (.seq (.ops [{ dst := some 7, op := .mov (.s 0) },
        { dst := some 8, op := .bin .geq (.s 7) (.c (.int .u32 256)) }])
      (.cond (.s 8)
        (.seq (.ops [{ dst := some 9, op := .mov (.s 0) },
          { dst := some 10, op := .bin .shr (.s 9) (.c (.int .u64 8)) },
          { dst := some 0, op := .mov (.s 10) }])
        (.ops [{ dst := some 11, op := .mov (.s 2) },
          { dst := some 12, op := .bin .add (.s 11) (.c (.int .i64 8)) },
          { dst := some 2, op := .mov (.s 12) }]))
        (.skip)))
      (.seq (.ops [{ dst := some 13, op := .mov (.s 2) },
        { dst := some 14, op := .mov (.s 0) },
        { dst := some 15, op := .conv (.int .u8) (.s 14) },
        { dst := some 16, op := .idx (.c (.str [0, 1, 2, 2, 3, 3, 3, 3, 4, 4, 4, 4, 4, 4, 4, 4, 5, 5, 5, 5, 5, 5, 5, 5, 5, 5, 5, 5, 5, 5, 5, 5, 6, 6, 6, 6, 6, 6, 6, 6, 6, 6, 6, 6, 6, 6, 6, 6, 6, 6, 6, 6, 6, 6, 6, 6, 6, 6, 6, 6, 6, 6, 6, 6, 7, 7, 7, 7, 7, 7, 7, 7, 7, 7, 7, 7, 7, 7, 7, 7, 7, 7, 7, 7, 7, 7, 7, 7, 7, 7, 7, 7, 7, 7, 7, 7, 7, 7, 7, 7, 7, 7, 7, 7, 7, 7, 7, 7, 7, 7, 7, 7, 7, 7, 7, 7, 7, 7, 7, 7, 7, 7, 7, 7, 7, 7, 7, 7, 8, 8, 8, 8, 8, 8, 8, 8, 8, 8, 8, 8, 8, 8, 8, 8, 8, 8, 8, 8, 8, 8, 8, 8, 8, 8, 8, 8, 8, 8, 8, 8, 8, 8, 8, 8, 8, 8, 8, 8, 8, 8, 8, 8, 8, 8, 8, 8, 8, 8, 8, 8, 8, 8, 8, 8, 8, 8, 8, 8, 8, 8, 8, 8, 8, 8, 8, 8, 8, 8, 8, 8, 8, 8, 8, 8, 8, 8, 8, 8, 8, 8, 8, 8, 8, 8, 8, 8, 8, 8, 8, 8, 8, 8, 8, 8, 8, 8, 8, 8, 8, 8, 8, 8, 8, 8, 8, 8, 8, 8, 8, 8, 8, 8, 8, 8, 8, 8, 8, 8, 8, 8, 8, 8, 8, 8, 8, 8])) (.s 15) },
        { dst := some 17, op := .conv (.int .i64) (.s 16) },
        { dst := some 18, op := .bin .add (.s 13) (.s 17) },
        { dst := some 2, op := .mov (.s 18) }])
      (.ret)))))
    [.tmp 2]
theorem tr_math_bits_Len32 : trF Tryd.prog [39] 53 [] = some F_math_bits_Len32 := by kernel_rfl

/-! math/bits.Len64 -/
def F_math_bits_Len64 : PF :=
  .mk
    (.seq (.ops [{ dst := some 2, op := .mov (.c (.int .i64 0)) }])
      (.seq (.seq (.ops [{ dst := some 3, op := .mov (.s 0) },
        { dst := some 4, op := .bin .geq (.s 3) (.c (.int .u64 4294967296)) }])
      (.cond (.s 4)
        (.seq (.ops [{ dst := some 5, op := .mov (.s 0) },
          { dst := some 6, op := .bin .shr (.s 5) (.c (.int .u64 32)) },
          { dst := some 0, op := .mov (.s 6) }])
        (.ops [{ dst := some 2, op := .mov (.c (.int .i64 32)) }]))
        (.skip)))
      (.seq (.seq (.ops [{ dst := some 7, op := .mov (.s 0) },
        { dst := some 8, op := .bin .geq (.s 7) (.c (.int .u64 65536)) }])
      (.cond (.s 8)
        (.seq (.ops [{ dst := some 9, op := .mov (.s 0) },
          { dst := some 10, op := .bin .shr (.s 9) (.c (.int .u64 16)) },
          { dst := some 0, op := .mov (.s 10) }])
        (.ops [{ dst := some 11, op := .mov (.s 2) },
          { dst := some 12, op := .bin .add (.s 11) (.c (.int .i64 16)) },
          { dst := some 2, op := .mov (.s 12) }]))
        (.skip)))
      (.seq (.seq (.ops [{ dst := some 13, op := .mov (.s 0) },
        { dst := some 14, op := .bin .geq (.s 13) (.c (.int .u64 256)) }])
      (.cond (.s 14)
        (.seq (.ops [{ dst := some 15, op := .mov (.s 0) },
          { dst := some 16, op := .bin .shr (.s 15) (.c (.int .u64 8)) },
          { dst := some 0, op := .mov (.s 16) }])
        (.ops [{ dst := some 17, op := .mov (.s 2) },
          { dst := some 18, op := .bin .add (.s 17) (.c (.int .i64 8)) },
          { dst := some 2, op := .mov (.s 18) }]))
        (.skip)))
      (.seq (.ops [{ dst := some 19, op := .mov (.s 2) },
        { dst := some 20, op := .mov (.s 0) },
        { dst := some 21, op := .conv (.int .u8) (.s 20) },
        { dst := some 22, op := .idx (.c (.str [0, 1, 2, 2, 3, 3, 3, 3, 4, 4, 4, 4, 4, 4, 4, 4, 5, 5, 5, 5, 5, 5, 5, 5, 5, 5, 5, 5, 5, 5, 5, 5, 6, 6, 6, 6, 6, 6, 6, 6, 6, 6, 6, 6, 6, 6, 6, 6, 6, 6, 6, 6, 6, 6, 6, 6, 6, 6, 6, 6, 6, 6, 6, 6, 7, 7, 7, 7, 7, 7, 7, 7, 7, 7, 7, 7, 7, 7, 7, 7, 7, 7, 7, 7, 7, 7, 7, 7, 7, 7, 7, 7, 7, 7, 7, 7, 7, 7, 7, 7, 7, 7, 7, 7, 7, 7, 7, 7, 7, 7, 7, 7, 7, 7, 7, 7, 7, 7, 7, 7, 7, 7, 7, 7, 7, 7, 7, 7, 8, 8, 8, 8, 8, 8, 8, 8, 8, 8, 8, 8, 8, 8, 8, 8, 8, 8, 8, 8, 8, 8, 8, 8, 8, 8, 8, 8, 8, 8, 8, 8, 8, 8, 8, 8, 8, 8, 8, 8, 8, 8, 8, 8, 8, 8, 8, 8, 8, 8, 8, 8, 8, 8, 8, 8, 8, 8, 8, 8, 8, 8, 8, 8, 8, 8, 8, 8, 8, 8, 8, 8, 8, 8, 8, 8, 8, 8, 8, 8, 8, 8, 8, 8, 8, 8, 8, 8, 8, 8, 8, 8, 8, 8, 8, 8, 8, 8, 8, 8, 8, 8, 8, 8, 8, 8, 8, 8, 8, 8, 8, 8, 8, 8, 8, 8, 8, 8, 8, 8, 8, 8, 8, 8, 8, 8, 8, 8])) (.s 21) },
        { dst := some 23, op := .conv (.int .i64) (.s 22) },
        { dst := some 24, op := .bin .add (.s 19) (.s 23) },
        { dst := some 2, op := .mov (.s 24) }])
      (.ret))))))
    [.tmp 2]
theorem tr_math_bits_Len64 : trF Tryd.prog [39] 54 [] = some F_math_bits_Len64 := by kernel_rfl

/-! wagonpool/digest.sum -/
def F_digest_sum_L0 : PC :=
  .seq (.ops [{ dst := some 13, op := .bin .lss (.s 12) (.s 11) }])
    (.seq (.cond (.s 13)
      (.skip)
      (.exit 0))
    (.seq (.block 1 (.seq (.ops [{ dst := some 14, op := .idxS 1 (.s 10) (.s 12) },
        { dst := some 15, op := .load 1 false (.s 14) },
        { dst := some 5, op := .mov (.s 15) }])
      (.ops [{ dst := some 16, op := .mov (.s 3) },
        { dst := some 17, op := .mov (.s 5) },
        { dst := some 18, op := .app 1 1 (.s 16) (.s 17) },
        { dst := some 3, op := .mov (.s 18) }])))
    (.ops [{ dst := some 19, op := .bin .add (.s 12) (.c (.int .i64 1)) },
      { dst := some 12, op := .mov (.s 19) }])))

def F_digest_sum_L1 : PC :=
  .seq (.seq (.ops [{ dst := some 27, op := .mov (.s 3) },
      { dst := some 28, op := .len false (.s 27) },
      { dst := some 29, op := .bin .rem (.s 28) (.c (.int .i64 64)) },
      { dst := some 30, op := .bin .neq (.s 29) (.c (.int .i64 56)) }])
    (.cond (.s 30)
      (.skip)
      (.exit 2)))
    (.block 3 (.ops [{ dst := some 31, op := .mov (.s 3) },
        { dst := some 32, op := .bslc 1 [(.c (.int .u8 0))] },
        { dst := some 33, op := .app 1 1 (.s 31) (.s 32) },
        { dst := some 3, op := .mov (.s 33) }]))

def F_digest_sum_L2 : PC :=
  .seq (.seq (.ops [{ dst := some 34, op := .mov (.s 7) },
      { dst := some 35, op := .bin .geq (.s 34) (.c (.int .i64 0)) }])
    (.cond (.s 35)
      (.skip)
      (.exit 4)))
    (.seq (.block 5 (.ops [{ dst := some 38, op := .mov (.s 3) },
        { dst := some 39, op := .mov (.s 6) },
        { dst := some 40, op := .mov (.s 7) },
        { dst := some 41, op := .bin .shr (.s 39) (.s 40) },
        { dst := some 42, op := .conv (.int .u8) (.s 41) },
        { dst := some 43, op := .bslc 1 [(.s 42)] },
        { dst := some 44, op := .app 1 1 (.s 38) (.s 43) },
        { dst := some 3, op := .mov (.s 44) }]))
    (.ops [{ dst := some 36, op := .mov (.s 7) },
      { dst := some 37, op := .bin .sub (.s 36) (.c (.int .i64 8)) },
      { dst := some 7, op := .mov (.s 37) }]))

def F_digest_sum_L3 : PC :=
  .seq (.seq (.ops [{ dst := some 46, op := .mov (.s 3) },
      { dst := some 47, op := .len false (.s 46) },
      { dst := some 48, op := .bin .gtr (.s 47) (.c (.int .i64 0)) }])
    (.cond (.s 48)
      (.skip)
      (.exit 6)))
    (.seq (.block 7 (.ops [{ dst := some 51, op := .load 8 true (.s 8) },
        { dst := some 52, op := .mov (.s 3) },
        { dst := some 53, op := .slice 1 (.s 52) none (some (.c (.int .i64 64))) none },
        { dst := some 54, op := .call 60 [(.s 51), (.s 53)] },
        { dst := none, op := .stor 8 (.s 8) (.s 54) }]))
    (.ops [{ dst := some 49, op := .mov (.s 3) },
      { dst := some 50, op := .slice 1 (.s 49) (some (.c (.int .i64 64))) none none },
      { dst := some 3, op := .mov (.s 50) }]))

def F_digest_sum_L4 : PC :=
  .seq (.ops [{ dst := some 56, op := .bin .lss (.s 55) (.c (.int .i64 32)) }])
    (.seq (.cond (.s 56)
      (.skip)
      (.exit 8))
    (.seq (.block 9 (.seq (.ops [{ dst := some 57, op := .mov (.s 55) },
        { dst := some 9, op := .mov (.s 57) }])
      (.ops [{ dst := some 58, op := .mov (.s 9) },
        { dst := some 59, op := .mov (.s 9) },
        { dst := some 60, op := .bin .quo (.s 59) (.c (.int .i64 4)) },
        { dst := some 61, op := .idxA 8 1 (.s 8) (.s 60) },
        { dst := some 62, op := .load 1 false (.s 61) },
        { dst := some 63, op := .mov (.s 9) },
        { dst := some 64, op := .bin .rem (.s 63) (.c (.int .i64 4)) },
        { dst := some 65, op := .bin .mul (.c (.int .i64 8)) (.s 64) },
        { dst := some 66, op := .bin .sub (.c (.int .i64 24)) (.s 65) },
        { dst := some 67, op := .bin .shr (.s 62) (.s 66) },
        { dst := some 68, op := .conv (.int .u8) (.s 67) },
        { dst := some 69, op := .idxA 32 1 (.s 2) (.s 58) },
        { dst := none, op := .stor 1 (.s 69) (.s 68) }])))
    (.ops [{ dst := some 70, op := .bin .add (.s 55) (.c (.int .i64 1)) },
      { dst := some 55, op := .mov (.s 70) }])))

def F_digest_sum : PF :=
  .mk
    (.seq (.ops [{ dst := some 2, op := .box (.c (.agg (digC zeroDig))) }])
      (.seq (.ops [{ dst := some 3, op := .mov (.c (.slc 0 [] true)) }])
      (.seq (.seq (.ops [{ dst := some 10, op := .mov (.s 0) },
        { dst := some 11, op := .len false (.s 10) },
        { dst := some 12, op := .mov (.c (.int .i64 0)) }])
      (.block 0 (.loop [2, 3, 10, 11, 12] F_digest_sum_L0)))
      (.seq (.ops [{ dst := some 20, op := .mov (.s 3) },
        { dst := some 21, op := .len false (.s 20) },
        { dst := some 22, op := .conv (.int .u64) (.s 21) },
        { dst := some 23, op := .bin .mul (.s 22) (.c (.int .u64 8)) },
        { dst := some 6, op := .mov (.s 23) }])
      (.seq (.ops [{ dst := some 24, op := .mov (.s 3) },
        { dst := some 25, op := .bslc 1 [(.c (.int .u8 128))] },
        { dst := some 26, op := .app 1 1 (.s 24) (.s 25) },
        { dst := some 3, op := .mov (.s 26) }])
      (.seq (.block 2 (.loop [2, 3, 6] F_digest_sum_L1))
      (.seq (.seq (.ops [{ dst := some 7, op := .mov (.c (.int .i64 56)) }])
      (.block 4 (.loop [2, 3, 6, 7] F_digest_sum_L2)))
      (.seq (.ops [{ dst := some 45, op := .bld [(.int .u32 0), (.int .u32 0), (.int .u32 0), (.int .u32 0), (.int .u32 0), (.int .u32 0), (.int .u32 0), (.int .u32 0)] [(0, 1, (.c (.int .u32 1779033703))), (1, 1, (.c (.int .u32 3144134277))), (2, 1, (.c (.int .u32 1013904242))), (3, 1, (.c (.int .u32 2773480762))), (4, 1, (.c (.int .u32 1359893119))), (5, 1, (.c (.int .u32 2600822924))), (6, 1, (.c (.int .u32 528734635))), (7, 1, (.c (.int .u32 1541459225)))] },
        { dst := some 8, op := .box (.c (.agg [(.int .u32 0), (.int .u32 0), (.int .u32 0), (.int .u32 0), (.int .u32 0), (.int .u32 0), (.int .u32 0), (.int .u32 0)])) },
        { dst := none, op := .stor 8 (.s 8) (.s 45) }])
      (.seq (.block 6 (.loop [2, 3, 8] F_digest_sum_L3))
      (.seq (.seq (.ops [{ dst := some 55, op := .mov (.c (.int .i64 0)) }])
      (.block 8 (.loop [2, 8, 55] F_digest_sum_L4)))
      (.seq (.ops [{ dst := some 71, op := .load 32 true (.s 2) },
        { dst := none, op := .stor 32 (.s 2) (.s 71) }])
      (.ret))))))))))))
    [.cell 2 32 true]
theorem tr_digest_sum : trF Tryd.prog [39] 55 [[2, 3, 10, 11, 12], [2, 3, 6], [2, 3, 6, 7], [2, 3, 8], [2, 8, 55]] = some F_digest_sum := by kernel_rfl

/-! wagonpool/wagonpoolref38.padding -/
def F_wagonpoolref38_padding_L0 : PC :=
  .seq (.seq (.ops [{ dst := some 6, op := .mov (.s 4) },
      { dst := some 7, op := .mov (.s 0) },
      { dst := some 8, op := .bin .lss (.s 6) (.s 7) }])
    (.cond (.s 8)
      (.skip)
      (.exit 0)))
    (.seq (.block 1 (.ops [{ dst := some 11, op := .load 32 true (.s 3) },
        { dst := some 12, op := .load 32 true (.s 3) },
        { dst := some 13, op := .call 38 [(.s 11), (.s 12)] },
        { dst := none, op := .stor 32 (.s 3) (.s 13) }]))
    (.ops [{ dst := some 9, op := .mov (.s 4) },
      { dst := some 10, op := .bin .add (.s 9) (.c (.int .i64 1)) },
      { dst := some 4, op := .mov (.s 10) }]))

def F_wagonpoolref38_padding : PF :=
  .mk
    (.seq (.ops [{ dst := some 2, op := .box (.c (.agg (digC zeroDig))) }])
      (.seq (.ops [{ dst := some 5, op := .call 45 [] },
        { dst := some 3, op := .box (.c (.agg (digC zeroDig))) },
        { dst := none, op := .stor 32 (.s 3) (.s 5) }])
      (.seq (.seq (.ops [{ dst := some 4, op := .mov (.c (.int .i64 0)) }])
      (.block 0 (.loop [0, 2, 3, 4] F_wagonpoolref38_padding_L0)))
      (.seq (.ops [{ dst := some 14, op := .load 32 true (.s 3) },
        { dst := none, op := .stor 32 (.s 2) (.s 14) }])
      (.ret)))))
    [.cell 2 32 true]
theorem tr_wagonpoolref38_padding : trF Tryd.prog [39] 56 [[0, 2, 3, 4]] = some F_wagonpoolref38_padding := by kernel_rfl

/-! wagonpool/wagonpoolref04.above -/
def F_wagonpoolref04_above_L0 : PC :=
  .seq (.seq (.ops [{ dst := some 9, op := .mov (.s 6) },
      { dst := some 10, op := .mov (.s 0) },
      { dst := some 11, op := .len false (.s 10) },
      { dst := some 12, op := .bin .lss (.s 9) (.s 11) }])
    (.cond (.s 12)
      (.skip)
      (.exit 0)))
    (.seq (.block 1 (.seq (.ops [{ dst := some 15, op := .load 32 true (.s 3) },
        { dst := some 7, op := .box (.c (.agg (digC zeroDig))) },
        { dst := none, op := .stor 32 (.s 7) (.s 15) }])
      (.seq (.seq (.ops [{ dst := some 16, op := .mov (.s 6) },
        { dst := some 17, op := .bin .add (.s 16) (.c (.int .i64 1)) },
        { dst := some 18, op := .mov (.s 0) },
        { dst := some 19, op := .len false (.s 18) },
        { dst := some 20, op := .bin .lss (.s 17) (.s 19) }])
      (.cond (.s 20)
        (.ops [{ dst := some 21, op := .mov (.s 0) },
          { dst := some 22, op := .mov (.s 6) },
          { dst := some 23, op := .bin .add (.s 22) (.c (.int .i64 1)) },
          { dst := some 24, op := .idxS 32 (.s 21) (.s 23) },
          { dst := some 25, op := .load 32 true (.s 24) },
          { dst := none, op := .stor 32 (.s 7) (.s 25) }])
        (.skip)))
      (.ops [{ dst := some 26, op := .mov (.s 5) },
        { dst := some 27, op := .mov (.s 0) },
        { dst := some 28, op := .mov (.s 6) },
        { dst := some 29, op := .idxS 32 (.s 27) (.s 28) },
        { dst := some 30, op := .load 32 true (.s 29) },
        { dst := some 31, op := .load 32 true (.s 7) },
        { dst := some 32, op := .call 38 [(.s 30), (.s 31)] },
        { dst := some 33, op := .bslc 32 [(.s 32)] },
        { dst := some 34, op := .app 32 32 (.s 26) (.s 33) },
        { dst := some 5, op := .mov (.s 34) }]))))
    (.ops [{ dst := some 13, op := .mov (.s 6) },
      { dst := some 14, op := .bin .add (.s 13) (.c (.int .i64 2)) },
      { dst := some 6, op := .mov (.s 14) }]))

def F_wagonpoolref04_above : PF :=
  .mk
    (.seq (.ops [{ dst := some 3, op := .box (.s 1) },
        { dst := some 4, op := .mov (.c (.slc 0 [] true)) }])
      (.seq (.ops [{ dst := some 8, op := .bslc 32 [] },
        { dst := some 5, op := .mov (.s 8) }])
      (.seq (.seq (.ops [{ dst := some 6, op := .mov (.c (.int .i64 0)) }])
      (.block 0 (.loop [0, 3, 5, 6] F_wagonpoolref04_above_L0)))
      (.seq (.ops [{ dst := some 35, op := .mov (.s 5) },
        { dst := some 4, op := .mov (.s 35) }])
      (.ret)))))
    [.tmp 4]
theorem tr_wagonpoolref04_above : trF Tryd.prog [39] 57 [[0, 3, 5, 6]] = some F_wagonpoolref04_above := by kernel_rfl

/-! wagonpool/wagonpoolref02.Sum -/
def F_wagonpoolref02_Sum_L0 : PC :=
  .seq (.seq (.ops [{ dst := some 11, op := .mov (.s 5) },
      { dst := some 12, op := .mov (.s 4) },
      { dst := some 13, op := .len false (.s 12) },
      { dst := some 14, op := .bin .lss (.s 11) (.s 13) }])
    (.cond (.s 14)
      (.skip)
      (.exit 0)))
    (.seq (.block 1 (.ops [{ dst := some 17, op := .load 8 true (.s 3) },
        { dst := some 18, op := .mov (.s 4) },
        { dst := some 19, op := .mov (.s 5) },
        { dst := some 20, op := .mov (.s 5) },
        { dst := some 21, op := .bin .add (.s 20) (.c (.int .i64 64)) },
        { dst := some 22, op := .slice 1 (.s 18) (some (.s 19)) (some (.s 21)) none },
        { dst := some 23, op := .call 62 [(.s 17), (.s 22)] },
        { dst := none, op := .stor 8 (.s 3) (.s 23) }]))
    (.ops [{ dst := some 15, op := .mov (.s 5) },
      { dst := some 16, op := .bin .add (.s 15) (.c (.int .i64 64)) },
      { dst := some 5, op := .mov (.s 16) }]))

def F_wagonpoolref02_Sum_L1 : PC :=
  .seq (.seq (.ops [{ dst := some 25, op := .mov (.s 7) },
      { dst := some 26, op := .bin .lss (.s 25) (.c (.int .i64 32)) }])
    (.cond (.s 26)
      (.skip)
      (.exit 2)))
    (.seq (.block 3 (.ops [{ dst := some 29, op := .mov (.s 7) },
        { dst := some 30, op := .mov (.s 7) },
        { dst := some 31, op := .bin .quo (.s 30) (.c (.int .i64 4)) },
        { dst := some 32, op := .idxA 8 1 (.s 3) (.s 31) },
        { dst := some 33, op := .load 1 false (.s 32) },
        { dst := some 34, op := .mov (.s 7) },
        { dst := some 35, op := .bin .rem (.s 34) (.c (.int .i64 4)) },
        { dst := some 36, op := .bin .mul (.c (.int .i64 8)) (.s 35) },
        { dst := some 37, op := .bin .sub (.c (.int .i64 24)) (.s 36) },
        { dst := some 38, op := .bin .shr (.s 33) (.s 37) },
        { dst := some 39, op := .conv (.int .u8) (.s 38) },
        { dst := some 40, op := .idxA 32 1 (.s 6) (.s 29) },
        { dst := none, op := .stor 1 (.s 40) (.s 39) }]))
    (.ops [{ dst := some 27, op := .mov (.s 7) },
      { dst := some 28, op := .bin .add (.s 27) (.c (.int .i64 1)) },
      { dst := some 7, op := .mov (.s 28) }]))

def F_wagonpoolref02_Sum : PF :=
  .mk
    (.seq (.ops [{ dst := some 2, op := .box (.c (.agg (digC zeroDig))) }])
      (.seq (.ops [{ dst := some 8, op := .bld [(.int .u32 0), (.int .u32 0), (.int .u32 0), (.int .u32 0), (.int .u32 0), (.int .u32 0), (.int .u32 0), (.int .u32 0)] [(0, 1, (.c (.int .u32 1779033703))), (1, 1, (.c (.int .u32 3144134277))), (2, 1, (.c (.int .u32 1013904242))), (3, 1, (.c (.int .u32 2773480762))), (4, 1, (.c (.int .u32 1359893119))), (5, 1, (.c (.int .u32 2600822924))), (6, 1, (.c (.int .u32 528734635))), (7, 1, (.c (.int .u32 1541459225)))] },
        { dst := some 3, op := .box (.c (.agg [(.int .u32 0), (.int .u32 0), (.int .u32 0), (.int .u32 0), (.int .u32 0), (.int .u32 0), (.int .u32 0), (.int .u32 0)])) },
        { dst := none, op := .stor 8 (.s 3) (.s 8) }])
      (.seq (.ops [{ dst := some 9, op := .mov (.s 0) },
        { dst := some 10, op := .call 61 [(.s 9)] },
        { dst := some 4, op := .mov (.s 10) }])
      (.seq (.seq (.ops [{ dst := some 5, op := .mov (.c (.int .i64 0)) }])
      (.block 0 (.loop [2, 3, 4, 5] F_wagonpoolref02_Sum_L0)))
      (.seq (.ops [{ dst := some 24, op := .bld (digC zeroDig) [] },
        { dst := some 6, op := .box (.c (.agg (digC zeroDig))) },
        { dst := none, op := .stor 32 (.s 6) (.s 24) }])
      (.seq (.seq (.ops [{ dst := some 7, op := .mov (.c (.int .i64 0)) }])
      (.block 2 (.loop [2, 3, 6, 7] F_wagonpoolref02_Sum_L1)))
      (.seq (.ops [{ dst := some 41, op := .load 32 true (.s 6) },
        { dst := none, op := .stor 32 (.s 2) (.s 41) }])
      (.ret))))))))
    [.cell 2 32 true]
theorem tr_wagonpoolref02_Sum : trF Tryd.prog [39] 58 [[2, 3, 4, 5], [2, 3, 6, 7]] = some F_wagonpoolref02_Sum := by kernel_rfl

/-! wagonpool/wagonpoolref02.Hashed -/
def F_wagonpoolref02_Hashed : PF :=
  .mk
    (.seq (.ops [{ dst := some 4, op := .mov (.c (.slc 0 [] true)) }])
      (.seq (.ops [{ dst := some 7, op := .mov (.s 0) },
        { dst := some 8, op := .mov (.s 0) },
        { dst := some 9, op := .len true (.s 8) },
        { dst := some 10, op := .mm false (.s 9) (.c (.int .i64 255)) },
        { dst := some 11, op := .slice 0 (.s 7) none (some (.s 10)) none },
        { dst := some 5, op := .mov (.s 11) }])
      (.seq (.ops [{ dst := some 12, op := .mov (.s 5) },
        { dst := some 13, op := .len true (.s 12) },
        { dst := some 14, op := .conv (.int .u8) (.s 13) },
        { dst := some 15, op := .bslc 1 [(.s 14)] },
        { dst := some 6, op := .mov (.s 15) }])
      (.seq (.ops [{ dst := some 16, op := .mov (.s 6) },
        { dst := some 17, op := .mov (.s 5) },
        { dst := some 18, op := .conv .bytes (.s 17) },
        { dst := some 19, op := .app 1 1 (.s 16) (.s 18) },
        { dst := some 6, op := .mov (.s 19) }])
      (.seq (.ops [{ dst := some 20, op := .mov (.s 6) },
        { dst := some 21, op := .mov (.s 1) },
        { dst := some 22, op := .app 1 1 (.s 20) (.s 21) },
        { dst := some 4, op := .mov (.s 22) }])
      (.ret))))))
    [.tmp 4]
theorem tr_wagonpoolref02_Hashed : trF Tryd.prog [39] 59 [] = some F_wagonpoolref02_Hashed := by kernel_rfl

/-! wagonpool/digest.block -/
def F_digest_block_L0 : PC :=
  .seq (.ops [{ dst := some 20, op := .bin .lss (.s 19) (.c (.int .i64 16)) }])
    (.seq (.cond (.s 20)
      (.skip)
      (.exit 0))
    (.seq (.block 1 (.seq (.ops [{ dst := some 21, op := .mov (.s 19) },
        { dst := some 6, op := .mov (.s 21) }])
      (.ops [{ dst := some 22, op := .mov (.s 6) },
        { dst := some 23, op := .mov (.s 1) },
        { dst := some 24, op := .mov (.s 6) },
        { dst := some 25, op := .bin .mul (.c (.int .i64 4)) (.s 24) },
        { dst := some 26, op := .idxS 1 (.s 23) (.s 25) },
        { dst := some 27, op := .load 1 false (.s 26) },
        { dst := some 28, op := .conv (.int .u32) (.s 27) },
        { dst := some 29, op := .bin .shl (.s 28) (.c (.int .u64 24)) },
        { dst := some 30, op := .mov (.s 1) },
        { dst := some 31, op := .mov (.s 6) },
        { dst := some 32, op := .bin .mul (.c (.int .i64 4)) (.s 31) },
        { dst := some 33, op := .bin .add (.s 32) (.c (.int .i64 1)) },
        { dst := some 34, op := .idxS 1 (.s 30) (.s 33) },
        { dst := some 35, op := .load 1 false (.s 34) },
        { dst := some 36, op := .conv (.int .u32) (.s 35) },
        { dst := some 37, op := .bin .shl (.s 36) (.c (.int .u64 16)) },
        { dst := some 38, op := .bin .or (.s 29) (.s 37) },
        { dst := some 39, op := .mov (.s 1) },
        { dst := some 40, op := .mov (.s 6) },
        { dst := some 41, op := .bin .mul (.c (.int .i64 4)) (.s 40) },
        { dst := some 42, op := .bin .add (.s 41) (.c (.int .i64 2)) },
        { dst := some 43, op := .idxS 1 (.s 39) (.s 42) },
        { dst := some 44, op := .load 1 false (.s 43) },
        { dst := some 45, op := .conv (.int .u32) (.s 44) },
        { dst := some 46, op := .bin .shl (.s 45) (.c (.int .u64 8)) },
        { dst := some 47, op := .bin .or (.s 38) (.s 46) },
        { dst := some 48, op := .mov (.s 1) },
        { dst := some 49, op := .mov (.s 6) },
        { dst := some 50, op := .bin .mul (.c (.int .i64 4)) (.s 49) },
        { dst := some 51, op := .bin .add (.s 50) (.c (.int .i64 3)) },
        { dst := some 52, op := .idxS 1 (.s 48) (.s 51) },
        { dst := some 53, op := .load 1 false (.s 52) },
        { dst := some 54, op := .conv (.int .u32) (.s 53) },
        { dst := some 55, op := .bin .or (.s 47) (.s 54) },
        { dst := some 56, op := .idxA 64 1 (.s 5) (.s 22) },
        { dst := none, op := .stor 1 (.s 56) (.s 55) }])))
    (.ops [{ dst := some 57, op := .bin .add (.s 19) (.c (.int .i64 1)) },
      { dst := some 19, op := .mov (.s 57) }])))

def F_digest_block_L1 : PC :=
  .seq (.seq (.ops [{ dst := some 58, op := .mov (.s 7) },
      { dst := some 59, op := .bin .lss (.s 58) (.c (.int .i64 64)) }])
    (.cond (.s 59)
      (.skip)
      (.exit 2)))
    (.seq (.block 3 (.seq (.ops [{ dst := some 62, op := .mov (.s 7) },
        { dst := some 63, op := .bin .sub (.s 62) (.c (.int .i64 15)) },
        { dst := some 64, op := .idxA 64 1 (.s 5) (.s 63) },
        { dst := some 65, op := .load 1 false (.s 64) },
        { dst := some 66, op := .mov (.s 7) },
        { dst := some 67, op := .bin .sub (.s 66) (.c (.int .i64 2)) },
        { dst := some 68, op := .idxA 64 1 (.s 5) (.s 67) },
        { dst := some 69, op := .load 1 false (.s 68) },
        { dst := some 8, op := .mov (.s 65) },
        { dst := some 9, op := .mov (.s 69) }])
      (.seq (.ops [{ dst := some 70, op := .mov (.s 8) },
        { dst := some 71, op := .call 63 [(.s 70), (.c (.int .i64 (-7)))] },
        { dst := some 72, op := .mov (.s 8) },
        { dst := some 73, op := .call 63 [(.s 72), (.c (.int .i64 (-18)))] },
        { dst := some 74, op := .bin .xor (.s 71) (.s 73) },
        { dst := some 75, op := .mov (.s 8) },
        { dst := some 76, op := .bin .shr (.s 75) (.c (.int .u64 3)) },
        { dst := some 77, op := .bin .xor (.s 74) (.s 76) },
        { dst := some 10, op := .mov (.s 77) }])
      (.seq (.ops [{ dst := some 78, op := .mov (.s 9) },
        { dst := some 79, op := .call 63 [(.s 78), (.c (.int .i64 (-17)))] },
        { dst := some 80, op := .mov (.s 9) },
        { dst := some 81, op := .call 63 [(.s 80), (.c (.int .i64 (-19)))] },
        { dst := some 82, op := .bin .xor (.s 79) (.s 81) },
        { dst := some 83, op := .mov (.s 9) },
        { dst := some 84, op := .bin .shr (.s 83) (.c (.int .u64 10)) },
        { dst := some 85, op := .bin .xor (.s 82) (.s 84) },
        { dst := some 11, op := .mov (.s 85) }])
      (.ops [{ dst := some 86, op := .mov (.s 7) },
        { dst := some 87, op := .mov (.s 7) },
        { dst := some 88, op := .bin .sub (.s 87) (.c (.int .i64 16)) },
        { dst := some 89, op := .idxA 64 1 (.s 5) (.s 88) },
        { dst := some 90, op := .load 1 false (.s 89) },
        { dst := some 91, op := .mov (.s 10) },
        { dst := some 92, op := .bin .add (.s 90) (.s 91) },
        { dst := some 93, op := .mov (.s 7) },
        { dst := some 94, op := .bin .sub (.s 93) (.c (.int .i64 7)) },
        { dst := some 95, op := .idxA 64 1 (.s 5) (.s 94) },
        { dst := some 96, op := .load 1 false (.s 95) },
        { dst := some 97, op := .bin .add (.s 92) (.s 96) },
        { dst := some 98, op := .mov (.s 11) },
        { dst := some 99, op := .bin .add (.s 97) (.s 98) },
        { dst := some 100, op := .idxA 64 1 (.s 5) (.s 86) },
        { dst := none, op := .stor 1 (.s 100) (.s 99) }])))))
    (.ops [{ dst := some 60, op := .mov (.s 7) },
      { dst := some 61, op := .bin .add (.s 60) (.c (.int .i64 1)) },
      { dst := some 7, op := .mov (.s 61) }]))

def F_digest_block_L2 : PC :=
  .seq (.ops [{ dst := some 103, op := .bin .lss (.s 102) (.c (.int .i64 64)) }])
    (.seq (.cond (.s 103)
      (.skip)
      (.exit 4))
    (.seq (.block 5 (.seq (.ops [{ dst := some 104, op := .mov (.s 102) },
        { dst := some 13, op := .mov (.s 104) }])
      (.seq (.ops [{ dst := some 105, op := .idxA 8 1 (.s 12) (.c (.int .i64 0)) },
        { dst := some 106, op := .load 1 false (.s 105) },
        { dst := some 107, op := .idxA 8 1 (.s 12) (.c (.int .i64 4)) },
        { dst := some 108, op := .load 1 false (.s 107) },
        { dst := some 14, op := .mov (.s 106) },
        { dst := some 15, op := .mov (.s 108) }])
      (.seq (.ops [{ dst := some 109, op := .idxA 8 1 (.s 12) (.c (.int .i64 7)) },
        { dst := some 110, op := .load 1 false (.s 109) },
        { dst := some 111, op := .mov (.s 15) },
        { dst := some 112, op := .call 63 [(.s 111), (.c (.int .i64 (-6)))] },
        { dst := some 113, op := .mov (.s 15) },
        { dst := some 114, op := .call 63 [(.s 113), (.c (.int .i64 (-11)))] },
        { dst := some 115, op := .bin .xor (.s 112) (.s 114) },
        { dst := some 116, op := .mov (.s 15) },
        { dst := some 117, op := .call 63 [(.s 116), (.c (.int .i64 (-25)))] },
        { dst := some 118, op := .bin .xor (.s 115) (.s 117) },
        { dst := some 119, op := .bin .add (.s 110) (.s 118) },
        { dst := some 120, op := .mov (.s 15) },
        { dst := some 121, op := .idxA 8 1 (.s 12) (.c (.int .i64 5)) },
        { dst := some 122, op := .load 1 false (.s 121) },
        { dst := some 123, op := .bin .and (.s 120) (.s 122) },
        { dst := some 124, op := .mov (.s 15) },
        { dst := some 125, op := .un .xor (.s 124) },
        { dst := some 126, op := .idxA 8 1 (.s 12) (.c (.int .i64 6)) },
        { dst := some 127, op := .load 1 false (.s 126) },
        { dst := some 128, op := .bin .and (.s 125) (.s 127) },
        { dst := some 129, op := .bin .xor (.s 123) (.s 128) },
        { dst := some 130, op := .bin .add (.s 119) (.s 129) },
        { dst := some 131, op := .mov (.s 13) },
        { dst := some 132, op := .idxA 64 1 (.g 0) (.s 131) },
        { dst := some 133, op := .load 1 false (.s 132) },
        { dst := some 134, op := .bin .add (.s 130) (.s 133) },
        { dst := some 135, op := .mov (.s 13) },
        { dst := some 136, op := .idxA 64 1 (.s 5) (.s 135) },
        { dst := some 137, op := .load 1 false (.s 136) },
        { dst := some 138, op := .bin .add (.s 134) (.s 137) },
        { dst := some 16, op := .mov (.s 138) }])
      (.seq (.ops [{ dst := some 139, op := .mov (.s 14) },
        { dst := some 140, op := .call 63 [(.s 139), (.c (.int .i64 (-2)))] },
        { dst := some 141, op := .mov (.s 14) },
        { dst := some 142, op := .call 63 [(.s 141), (.c (.int .i64 (-13)))] },
        { dst := some 143, op := .bin .xor (.s 140) (.s 142) },
        { dst := some 144, op := .mov (.s 14) },
        { dst := some 145, op := .call 63 [(.s 144), (.c (.int .i64 (-22)))] },
        { dst := some 146, op := .bin .xor (.s 143) (.s 145) },
        { dst := some 147, op := .mov (.s 14) },
        { dst := some 148, op := .idxA 8 1 (.s 12) (.c (.int .i64 1)) },
        { dst := some 149, op := .load 1 false (.s 148) },
        { dst := some 150, op := .bin .and (.s 147) (.s 149) },
        { dst := some 151, op := .mov (.s 14) },
        { dst := some 152, op := .idxA 8 1 (.s 12) (.c (.int .i64 2)) },
        { dst := some 153, op := .load 1 false (.s 152) },
        { dst := some 154, op := .bin .and (.s 151) (.s 153) },
        { dst := some 155, op := .bin .xor (.s 150) (.s 154) },
        { dst := some 156, op := .idxA 8 1 (.s 12) (.c (.int .i64 1)) },
        { dst := some 157, op := .load 1 false (.s 156) },
        { dst := some 158, op := .idxA 8 1 (.s 12) (.c (.int .i64 2)) },
        { dst := some 159, op := .load 1 false (.s 158) },
        { dst := some 160, op := .bin .and (.s 157) (.s 159) },
        { dst := some 161, op := .bin .xor (.s 155) (.s 160) },
        { dst := some 162, op := .bin .add (.s 146) (.s 161) },
        { dst := some 17, op := .mov (.s 162) }])
      (.ops [{ dst := some 163, op := .mov (.s 16) },
        { dst := some 164, op := .mov (.s 17) },
        { dst := some 165, op := .bin .add (.s 163) (.s 164) },
        { dst := some 166, op := .mov (.s 14) },
        { dst := some 167, op := .idxA 8 1 (.s 12) (.c (.int .i64 1)) },
        { dst := some 168, op := .load 1 false (.s 167) },
        { dst := some 169, op := .idxA 8 1 (.s 12) (.c (.int .i64 2)) },
        { dst := some 170, op := .load 1 false (.s 169) },
        { dst := some 171, op := .idxA 8 1 (.s 12) (.c (.int .i64 3)) },
        { dst := some 172, op := .load 1 false (.s 171) },
        { dst := some 173, op := .mov (.s 16) },
        { dst := some 174, op := .bin .add (.s 172) (.s 173) },
        { dst := some 175, op := .mov (.s 15) },
        { dst := some 176, op := .idxA 8 1 (.s 12) (.c (.int .i64 5)) },
        { dst := some 177, op := .load 1 false (.s 176) },
        { dst := some 178, op := .idxA 8 1 (.s 12) (.c (.int .i64 6)) },
        { dst := some 179, op := .load 1 false (.s 178) },
        { dst := some 180, op := .bld [(.int .u32 0), (.int .u32 0), (.int .u32 0), (.int .u32 0), (.int .u32 0), (.int .u32 0), (.int .u32 0), (.int .u32 0)] [(0, 1, (.s 165)), (1, 1, (.s 166)), (2, 1, (.s 168)), (3, 1, (.s 170)), (4, 1, (.s 174)), (5, 1, (.s 175)), (6, 1, (.s 177)), (7, 1, (.s 179))] },
        { dst := none, op := .stor 8 (.s 12) (.s 180) }]))))))
    (.ops [{ dst := some 181, op := .bin .add (.s 102) (.c (.int .i64 1)) },
      { dst := some 102, op := .mov (.s 181) }])))

def F_digest_block_L3 : PC :=
  .seq (.ops [{ dst := some 183, op := .bin .lss (.s 182) (.c (.int .i64 8)) }])
    (.seq (.cond (.s 183)
      (.skip)
      (.exit 6))
    (.seq (.block 7 (.seq (.ops [{ dst := some 184, op := .mov (.s 182) },
        { dst := some 18, op := .mov (.s 184) }])
      (.ops [{ dst := some 185, op := .mov (.s 18) },
        { dst := some 186, op := .idxA 8 1 (.s 2) (.s 185) },
        { dst := some 187, op := .load 1 false (.s 186) },
        { dst := some 188, op := .mov (.s 18) },
        { dst := some 189, op := .idxA 8 1 (.s 12) (.s 188) },
        { dst := some 190, op := .load 1 false (.s 189) },
        { dst := some 191, op := .bin .add (.s 187) (.s 190) },
        { dst := some 192, op := .idxA 8 1 (.s 2) (.s 185) },
        { dst := none, op := .stor 1 (.s 192) (.s 191) }])))
    (.ops [{ dst := some 193, op := .bin .add (.s 182) (.c (.int .i64 1)) },
      { dst := some 182, op := .mov (.s 193) }])))

def F_digest_block : PF :=
  .mk
    (.seq (.ops [{ dst := some 2, op := .box (.s 0) },
        { dst := some 4, op := .box (.c (.agg [(.int .u32 0), (.int .u32 0), (.int .u32 0), (.int .u32 0), (.int .u32 0), (.int .u32 0), (.int .u32 0), (.int .u32 0)])) }])
      (.seq (.ops [{ dst := some 5, op := .box (.c (.agg [(.int .u32 0), (.int .u32 0), (.int .u32 0), (.int .u32 0), (.int .u32 0), (.int .u32 0), (.int .u32 0), (.int .u32 0), (.int .u32 0), (.int .u32 0), (.int .u32 0), (.int .u32 0), (.int .u32 0), (.int .u32 0), (.int .u32 0), (.int .u32 0), (.int .u32 0), (.int .u32 0), (.int .u32 0), (.int .u32 0), (.int .u32 0), (.int .u32 0), (.int .u32 0), (.int .u32 0), (.int .u32 0), (.int .u32 0), (.int .u32 0), (.int .u32 0), (.int .u32 0), (.int .u32 0), (.int .u32 0), (.int .u32 0), (.int .u32 0), (.int .u32 0), (.int .u32 0), (.int .u32 0), (.int .u32 0), (.int .u32 0), (.int .u32 0), (.int .u32 0), (.int .u32 0), (.int .u32 0), (.int .u32 0), (.int .u32 0), (.int .u32 0), (.int .u32 0), (.int .u32 0), (.int .u32 0), (.int .u32 0), (.int .u32 0), (.int .u32 0), (.int .u32 0), (.int .u32 0), (.int .u32 0), (.int .u32 0), (.int .u32 0), (.int .u32 0), (.int .u32 0), (.int .u32 0), (.int .u32 0), (.int .u32 0), (.int .u32 0), (.int .u32 0), (.int .u32 0)])) }])
      (.seq (.seq (.ops [{ dst := some 19, op := .mov (.c (.int .i64 0)) }])
      (.block 0 (.loop [1, 2, 4, 5, 19] F_digest_block_L0)))
      (.seq (.seq (.ops [{ dst := some 7, op := .mov (.c (.int .i64 16)) }])
      (.block 2 (.loop [2, 4, 5, 7] F_digest_block_L1)))
      (.seq (.ops [{ dst := some 101, op := .load 8 true (.s 2) },
        { dst := some 12, op := .box (.c (.agg [(.int .u32 0), (.int .u32 0), (.int .u32 0), (.int .u32 0), (.int .u32 0), (.int .u32 0), (.int .u32 0), (.int .u32 0)])) },
        { dst := none, op := .stor 8 (.s 12) (.s 101) }])
      (.seq (.seq (.ops [{ dst := some 102, op := .mov (.c (.int .i64 0)) }])
      (.block 4 (.loop [2, 4, 5, 12, 102] F_digest_block_L2)))
      (.seq (.seq (.ops [{ dst := some 182, op := .mov (.c (.int .i64 0)) }])
      (.block 6 (.loop [2, 4, 12, 182] F_digest_block_L3)))
      (.seq (.ops [{ dst := some 194, op := .load 8 true (.s 2) },
        { dst := none, op := .stor 8 (.s 4) (.s 194) }])
      (.ret)))))))))
    [.cell 4 8 true]
theorem tr_digest_block : trF Tryd.prog [39] 60 [[1, 2, 4, 5, 19], [2, 4, 5, 7], [2, 4, 5, 12, 102], [2, 4, 12, 182]] = some F_digest_block := by kernel_rfl

/-! wagonpool/wagonpoolref02.padded -/
def F_wagonpoolref02_padded_L0 : PC :=
  .seq (.seq (.ops [{ dst := some 13, op := .mov (.s 3) },
      { dst := some 14, op := .len false (.s 13) },
      { dst := some 15, op := .bin .rem (.s 14) (.c (.int .i64 64)) },
      { dst := some 16, op := .bin .neq (.s 15) (.c (.int .i64 56)) }])
    (.cond (.s 16)
      (.skip)
      (.exit 0)))
    (.block 1 (.ops [{ dst := some 17, op := .mov (.s 3) },
        { dst := some 18, op := .bslc 1 [(.c (.int .u8 0))] },
        { dst := some 19, op := .app 1 1 (.s 17) (.s 18) },
        { dst := some 3, op := .mov (.s 19) }]))

def F_wagonpoolref02_padded_L1 : PC :=
  .seq (.seq (.ops [{ dst := some 24, op := .mov (.s 5) },
      { dst := some 25, op := .bin .lss (.s 24) (.c (.int .i64 8)) }])
    (.cond (.s 25)
      (.skip)
      (.exit 2)))
    (.seq (.block 3 (.ops [{ dst := some 28, op := .mov (.s 3) },
        { dst := some 29, op := .mov (.s 4) },
        { dst := some 30, op := .mov (.s 5) },
        { dst := some 31, op := .bin .mul (.c (.int .i64 8)) (.s 30) },
        { dst := some 32, op := .bin .sub (.c (.int .i64 56)) (.s 31) },
        { dst := some 33, op := .bin .shr (.s 29) (.s 32) },
        { dst := some 34, op := .conv (.int .u8) (.s 33) },
        { dst := some 35, op := .bslc 1 [(.s 34)] },
        { dst := some 36, op := .app 1 1 (.s 28) (.s 35) },
        { dst := some 3, op := .mov (.s 36) }]))
    (.ops [{ dst := some 26, op := .mov (.s 5) },
      { dst := some 27, op := .bin .add (.s 26) (.c (.int .i64 1)) },
      { dst := some 5, op := .mov (.s 27) }]))

def F_wagonpoolref02_padded : PF :=
  .mk
    (.seq (.ops [{ dst := some 2, op := .mov (.c (.slc 0 [] true)) }])
      (.seq (.ops [{ dst := some 6, op := .bslc 1 [] },
        { dst := some 3, op := .mov (.s 6) }])
      (.seq (.ops [{ dst := some 7, op := .mov (.s 3) },
        { dst := some 8, op := .mov (.s 0) },
        { dst := some 9, op := .app 1 1 (.s 7) (.s 8) },
        { dst := some 3, op := .mov (.s 9) }])
      (.seq (.ops [{ dst := some 10, op := .mov (.s 3) },
        { dst := some 11, op := .bslc 1 [(.c (.int .u8 128))] },
        { dst := some 12, op := .app 1 1 (.s 10) (.s 11) },
        { dst := some 3, op := .mov (.s 12) }])
      (.seq (.block 0 (.loop [0, 3] F_wagonpoolref02_padded_L0))
      (.seq (.ops [{ dst := some 20, op := .mov (.s 0) },
        { dst := some 21, op := .len false (.s 20) },
        { dst := some 22, op := .conv (.int .u64) (.s 21) },
        { dst := some 23, op := .bin .mul (.s 22) (.c (.int .u64 8)) },
        { dst := some 4, op := .mov (.s 23) }])
      (.seq (.seq (.ops [{ dst := some 5, op := .mov (.c (.int .i64 0)) }])
      (.block 2 (.loop [3, 4, 5] F_wagonpoolref02_padded_L1)))
      (.seq (.ops [{ dst := some 37, op := .mov (.s 3) },
        { dst := some 2, op := .mov (.s 37) }])
      (.ret)))))))))
    [.tmp 2]
theorem tr_wagonpoolref02_padded : trF Tryd.prog [39] 61 [[0, 3], [3, 4, 5]] = some F_wagonpoolref02_padded := by kernel_rfl

/-! wagonpool/wagonpoolref02.block -/
def F_wagonpoolref02_block_L0 : PC :=
  .seq (.seq (.ops [{ dst := some 20, op := .mov (.s 8) },
      { dst := some 21, op := .bin .lss (.s 20) (.c (.int .i64 64)) }])
    (.cond (.s 21)
      (.skip)
      (.exit 0)))
    (.seq (.block 1 (.seq (.ops [{ dst := some 24, op := .idxA 8 1 (.s 7) (.c (.int .i64 4)) },
        { dst := some 25, op := .load 1 false (.s 24) },
        { dst := some 26, op := .call 66 [(.s 25), (.c (.int .i64 6))] },
        { dst := some 27, op := .idxA 8 1 (.s 7) (.c (.int .i64 4)) },
        { dst := some 28, op := .load 1 false (.s 27) },
        { dst := some 29, op := .call 66 [(.s 28), (.c (.int .i64 11))] },
        { dst := some 30, op := .bin .xor (.s 26) (.s 29) },
        { dst := some 31, op := .idxA 8 1 (.s 7) (.c (.int .i64 4)) },
        { dst := some 32, op := .load 1 false (.s 31) },
        { dst := some 33, op := .call 66 [(.s 32), (.c (.int .i64 25))] },
        { dst := some 34, op := .bin .xor (.s 30) (.s 33) },
        { dst := some 9, op := .mov (.s 34) }])
      (.seq (.ops [{ dst := some 35, op := .idxA 8 1 (.s 7) (.c (.int .i64 4)) },
        { dst := some 36, op := .load 1 false (.s 35) },
        { dst := some 37, op := .idxA 8 1 (.s 7) (.c (.int .i64 5)) },
        { dst := some 38, op := .load 1 false (.s 37) },
        { dst := some 39, op := .bin .and (.s 36) (.s 38) },
        { dst := some 40, op := .idxA 8 1 (.s 7) (.c (.int .i64 4)) },
        { dst := some 41, op := .load 1 false (.s 40) },
        { dst := some 42, op := .un .xor (.s 41) },
        { dst := some 43, op := .idxA 8 1 (.s 7) (.c (.int .i64 6)) },
        { dst := some 44, op := .load 1 false (.s 43) },
        { dst := some 45, op := .bin .and (.s 42) (.s 44) },
        { dst := some 46, op := .bin .xor (.s 39) (.s 45) },
        { dst := some 10, op := .mov (.s 46) }])
      (.seq (.ops [{ dst := some 47, op := .idxA 8 1 (.s 7) (.c (.int .i64 7)) },
        { dst := some 48, op := .load 1 false (.s 47) },
        { dst := some 49, op := .mov (.s 9) },
        { dst := some 50, op := .bin .add (.s 48) (.s 49) },
        { dst := some 51, op := .mov (.s 10) },
        { dst := some 52, op := .bin .add (.s 50) (.s 51) },
        { dst := some 53, op := .mov (.s 8) },
        { dst := some 54, op := .idxA 64 1 (.s 6) (.s 53) },
        { dst := some 55, op := .load 1 false (.s 54) },
        { dst := some 56, op := .bin .add (.s 52) (.s 55) },
        { dst := some 57, op := .mov (.s 8) },
        { dst := some 58, op := .idxA 64 1 (.s 5) (.s 57) },
        { dst := some 59, op := .load 1 false (.s 58) },
        { dst := some 60, op := .bin .add (.s 56) (.s 59) },
        { dst := some 11, op := .mov (.s 60) }])
      (.seq (.ops [{ dst := some 61, op := .idxA 8 1 (.s 7) (.c (.int .i64 0)) },
        { dst := some 62, op := .load 1 false (.s 61) },
        { dst := some 63, op := .call 66 [(.s 62), (.c (.int .i64 2))] },
        { dst := some 64, op := .idxA 8 1 (.s 7) (.c (.int .i64 0)) },
        { dst := some 65, op := .load 1 false (.s 64) },
        { dst := some 66, op := .call 66 [(.s 65), (.c (.int .i64 13))] },
        { dst := some 67, op := .bin .xor (.s 63) (.s 66) },
        { dst := some 68, op := .idxA 8 1 (.s 7) (.c (.int .i64 0)) },
        { dst := some 69, op := .load 1 false (.s 68) },
        { dst := some 70, op := .call 66 [(.s 69), (.c (.int .i64 22))] },
        { dst := some 71, op := .bin .xor (.s 67) (.s 70) },
        { dst := some 12, op := .mov (.s 71) }])
      (.seq (.ops [{ dst := some 72, op := .idxA 8 1 (.s 7) (.c (.int .i64 0)) },
        { dst := some 73, op := .load 1 false (.s 72) },
        { dst := some 74, op := .idxA 8 1 (.s 7) (.c (.int .i64 1)) },
        { dst := some 75, op := .load 1 false (.s 74) },
        { dst := some 76, op := .bin .and (.s 73) (.s 75) },
        { dst := some 77, op := .idxA 8 1 (.s 7) (.c (.int .i64 0)) },
        { dst := some 78, op := .load 1 false (.s 77) },
        { dst := some 79, op := .idxA 8 1 (.s 7) (.c (.int .i64 2)) },
        { dst := some 80, op := .load 1 false (.s 79) },
        { dst := some 81, op := .bin .and (.s 78) (.s 80) },
        { dst := some 82, op := .bin .xor (.s 76) (.s 81) },
        { dst := some 83, op := .idxA 8 1 (.s 7) (.c (.int .i64 1)) },
        { dst := some 84, op := .load 1 false (.s 83) },
        { dst := some 85, op := .idxA 8 1 (.s 7) (.c (.int .i64 2)) },
        { dst := some 86, op := .load 1 false (.s 85) },
        { dst := some 87, op := .bin .and (.s 84) (.s 86) },
        { dst := some 88, op := .bin .xor (.s 82) (.s 87) },
        { dst := some 13, op := .mov (.s 88) }])
      (.seq (.ops [{ dst := some 89, op := .mov (.s 12) },
        { dst := some 90, op := .mov (.s 13) },
        { dst := some 91, op := .bin .add (.s 89) (.s 90) },
        { dst := some 14, op := .mov (.s 91) }])
      (.ops [{ dst := some 92, op := .mov (.s 11) },
        { dst := some 93, op := .mov (.s 14) },
        { dst := some 94, op := .bin .add (.s 92) (.s 93) },
        { dst := some 95, op := .idxA 8 1 (.s 7) (.c (.int .i64 0)) },
        { dst := some 96, op := .load 1 false (.s 95) },
        { dst := some 97, op := .idxA 8 1 (.s 7) (.c (.int .i64 1)) },
        { dst := some 98, op := .load 1 false (.s 97) },
        { dst := some 99, op := .idxA 8 1 (.s 7) (.c (.int .i64 2)) },
        { dst := some 100, op := .load 1 false (.s 99) },
        { dst := some 101, op := .idxA 8 1 (.s 7) (.c (.int .i64 3)) },
        { dst := some 102, op := .load 1 false (.s 101) },
        { dst := some 103, op := .mov (.s 11) },
        { dst := some 104, op := .bin .add (.s 102) (.s 103) },
        { dst := some 105, op := .idxA 8 1 (.s 7) (.c (.int .i64 4)) },
        { dst := some 106, op := .load 1 false (.s 105) },
        { dst := some 107, op := .idxA 8 1 (.s 7) (.c (.int .i64 5)) },
        { dst := some 108, op := .load 1 false (.s 107) },
        { dst := some 109, op := .idxA 8 1 (.s 7) (.c (.int .i64 6)) },
        { dst := some 110, op := .load 1 false (.s 109) },
        { dst := some 111, op := .bld [(.int .u32 0), (.int .u32 0), (.int .u32 0), (.int .u32 0), (.int .u32 0), (.int .u32 0), (.int .u32 0), (.int .u32 0)] [(0, 1, (.s 94)), (1, 1, (.s 96)), (2, 1, (.s 98)), (3, 1, (.s 100)), (4, 1, (.s 104)), (5, 1, (.s 106)), (6, 1, (.s 108)), (7, 1, (.s 110))] },
        { dst := none, op := .stor 8 (.s 7) (.s 111) }]))))))))
    (.ops [{ dst := some 22, op := .mov (.s 8) },
      { dst := some 23, op := .bin .add (.s 22) (.c (.int .i64 1)) },
      { dst := some 8, op := .mov (.s 23) }]))

def F_wagonpoolref02_block_L1 : PC :=
  .seq (.seq (.ops [{ dst := some 112, op := .mov (.s 15) },
      { dst := some 113, op := .bin .lss (.s 112) (.c (.int .i64 8)) }])
    (.cond (.s 113)
      (.skip)
      (.exit 2)))
    (.seq (.block 3 (.ops [{ dst := some 116, op := .mov (.s 15) },
        { dst := some 117, op := .mov (.s 15) },
        { dst := some 118, op := .idxA 8 1 (.s 2) (.s 117) },
        { dst := some 119, op := .load 1 false (.s 118) },
        { dst := some 120, op := .mov (.s 15) },
        { dst := some 121, op := .idxA 8 1 (.s 7) (.s 120) },
        { dst := some 122, op := .load 1 false (.s 121) },
        { dst := some 123, op := .bin .add (.s 119) (.s 122) },
        { dst := some 124, op := .idxA 8 1 (.s 2) (.s 116) },
        { dst := none, op := .stor 1 (.s 124) (.s 123) }]))
    (.ops [{ dst := some 114, op := .mov (.s 15) },
      { dst := some 115, op := .bin .add (.s 114) (.c (.int .i64 1)) },
      { dst := some 15, op := .mov (.s 115) }]))

def F_wagonpoolref02_block : PF :=
  .mk
    (.seq (.ops [{ dst := some 2, op := .box (.s 0) },
        { dst := some 4, op := .box (.c (.agg [(.int .u32 0), (.int .u32 0), (.int .u32 0), (.int .u32 0), (.int .u32 0), (.int .u32 0), (.int .u32 0), (.int .u32 0)])) }])
      (.seq (.ops [{ dst := some 16, op := .mov (.s 1) },
        { dst := some 17, op := .call 64 [(.s 16)] },
        { dst := some 5, op := .box (.c (.agg [(.int .u32 0), (.int .u32 0), (.int .u32 0), (.int .u32 0), (.int .u32 0), (.int .u32 0), (.int .u32 0), (.int .u32 0), (.int .u32 0), (.int .u32 0), (.int .u32 0), (.int .u32 0), (.int .u32 0), (.int .u32 0), (.int .u32 0), (.int .u32 0), (.int .u32 0), (.int .u32 0), (.int .u32 0), (.int .u32 0), (.int .u32 0), (.int .u32 0), (.int .u32 0), (.int .u32 0), (.int .u32 0), (.int .u32 0), (.int .u32 0), (.int .u32 0), (.int .u32 0), (.int .u32 0), (.int .u32 0), (.int .u32 0), (.int .u32 0), (.int .u32 0), (.int .u32 0), (.int .u32 0), (.int .u32 0), (.int .u32 0), (.int .u32 0), (.int .u32 0), (.int .u32 0), (.int .u32 0), (.int .u32 0), (.int .u32 0), (.int .u32 0), (.int .u32 0), (.int .u32 0), (.int .u32 0), (.int .u32 0), (.int .u32 0), (.int .u32 0), (.int .u32 0), (.int .u32 0), (.int .u32 0), (.int .u32 0), (.int .u32 0), (.int .u32 0), (.int .u32 0), (.int .u32 0), (.int .u32 0), (.int .u32 0), (.int .u32 0), (.int .u32 0), (.int .u32 0)])) },
        { dst := none, op := .stor 64 (.s 5) (.s 17) }])
      (.seq (.ops [{ dst := some 18, op := .call 65 [] },
        { dst := some 6, op := .box (.c (.agg [(.int .u32 0), (.int .u32 0), (.int .u32 0), (.int .u32 0), (.int .u32 0), (.int .u32 0), (.int .u32 0), (.int .u32 0), (.int .u32 0), (.int .u32 0), (.int .u32 0), (.int .u32 0), (.int .u32 0), (.int .u32 0), (.int .u32 0), (.int .u32 0), (.int .u32 0), (.int .u32 0), (.int .u32 0), (.int .u32 0), (.int .u32 0), (.int .u32 0), (.int .u32 0), (.int .u32 0), (.int .u32 0), (.int .u32 0), (.int .u32 0), (.int .u32 0), (.int .u32 0), (.int .u32 0), (.int .u32 0), (.int .u32 0), (.int .u32 0), (.int .u32 0), (.int .u32 0), (.int .u32 0), (.int .u32 0), (.int .u32 0), (.int .u32 0), (.int .u32 0), (.int .u32 0), (.int .u32 0), (.int .u32 0), (.int .u32 0), (.int .u32 0), (.int .u32 0), (.int .u32 0), (.int .u32 0), (.int .u32 0), (.int .u32 0), (.int .u32 0), (.int .u32 0), (.int .u32 0), (.int .u32 0), (.int .u32 0), (.int .u32 0), (.int .u32 0), (.int .u32 0), (.int .u32 0), (.int .u32 0), (.int .u32 0), (.int .u32 0), (.int .u32 0), (.int .u32 0)])) },
        { dst := none, op := .stor 64 (.s 6) (.s 18) }])
      (.seq (.ops [{ dst := some 19, op := .load 8 true (.s 2) },
        { dst := some 7, op := .box (.c (.agg [(.int .u32 0), (.int .u32 0), (.int .u32 0), (.int .u32 0), (.int .u32 0), (.int .u32 0), (.int .u32 0), (.int .u32 0)])) },
        { dst := none, op := .stor 8 (.s 7) (.s 19) }])
      (.seq (.seq (.ops [{ dst := some 8, op := .mov (.c (.int .i64 0)) }])
      (.block 0 (.loop [2, 4, 5, 6, 7, 8] F_wagonpoolref02_block_L0)))
      (.seq (.seq (.ops [{ dst := some 15, op := .mov (.c (.int .i64 0)) }])
      (.block 2 (.loop [2, 4, 7, 15] F_wagonpoolref02_block_L1)))
      (.seq (.ops [{ dst := some 125, op := .load 8 true (.s 2) },
        { dst := none, op := .stor 8 (.s 4) (.s 125) }])
      (.ret))))))))
    [.cell 4 8 true]
theorem tr_wagonpoolref02_block : trF Tryd.prog [39] 62 [[2, 4, 5, 6, 7, 8], [2, 4, 7, 15]] = some F_wagonpoolref02_block := by kernel_rfl

/-! math/bits.RotateLeft32 -/
def F_math_bits_RotateLeft32 : PF :=
  .mk
    (.seq (.ops [{ dst := some 4, op := .mov (.c (.int .u32 0)) }])
      (.seq (.ops [{ dst := some 6, op := .mov (.s 1) },
        { dst := some 7, op := .conv (.int .u64) (.s 6) },
        { dst := some 8, op := .bin .and (.s 7) (.c (.int .u64 31)) },
        { dst := some 5, op := .mov (.s 8) }])
      (.seq (.ops [{ dst := some 9, op := .mov (.s 0) },
        { dst := some 10, op := .mov (.s 5) },
        { dst := some 11, op := .bin .shl (.s 9) (.s 10) },
        { dst := some 12, op := .mov (.s 0) },
        { dst := some 13, op := .mov (.s 5) },
        { dst := some 14, op := .bin .sub (.c (.int .u64 32)) (.s 13) },
        { dst := some 15, op := .bin .shr (.s 12) (.s 14) },
        { dst := some 16, op := .bin .or (.s 11) (.s 15) },
        { dst := some 4, op := .mov (.s 16) }])
      (.ret))))
    [.tmp 4]
theorem tr_math_bits_RotateLeft32 : trF Tryd.prog [39] 63 [] = some F_math_bits_RotateLeft32 := by kernel_rfl

/-! wagonpool/wagonpoolref02.schedule -/
def F_wagonpoolref02_schedule_L0 : PC :=
  .seq (.seq (.ops [{ dst := some 9, op := .mov (.s 4) },
      { dst := some 10, op := .bin .lss (.s 9) (.c (.int .i64 16)) }])
    (.cond (.s 10)
      (.skip)
      (.exit 0)))
    (.seq (.block 1 (.ops [{ dst := some 13, op := .mov (.s 4) },
        { dst := some 14, op := .mov (.s 0) },
        { dst := some 15, op := .mov (.s 4) },
        { dst := some 16, op := .bin .mul (.c (.int .i64 4)) (.s 15) },
        { dst := some 17, op := .idxS 1 (.s 14) (.s 16) },
        { dst := some 18, op := .load 1 false (.s 17) },
        { dst := some 19, op := .conv (.int .u32) (.s 18) },
        { dst := some 20, op := .bin .shl (.s 19) (.c (.int .u64 24)) },
        { dst := some 21, op := .mov (.s 0) },
        { dst := some 22, op := .mov (.s 4) },
        { dst := some 23, op := .bin .mul (.c (.int .i64 4)) (.s 22) },
        { dst := some 24, op := .bin .add (.s 23) (.c (.int .i64 1)) },
        { dst := some 25, op := .idxS 1 (.s 21) (.s 24) },
        { dst := some 26, op := .load 1 false (.s 25) },
        { dst := some 27, op := .conv (.int .u32) (.s 26) },
        { dst := some 28, op := .bin .shl (.s 27) (.c (.int .u64 16)) },
        { dst := some 29, op := .bin .or (.s 20) (.s 28) },
        { dst := some 30, op := .mov (.s 0) },
        { dst := some 31, op := .mov (.s 4) },
        { dst := some 32, op := .bin .mul (.c (.int .i64 4)) (.s 31) },
        { dst := some 33, op := .bin .add (.s 32) (.c (.int .i64 2)) },
        { dst := some 34, op := .idxS 1 (.s 30) (.s 33) },
        { dst := some 35, op := .load 1 false (.s 34) },
        { dst := some 36, op := .conv (.int .u32) (.s 35) },
        { dst := some 37, op := .bin .shl (.s 36) (.c (.int .u64 8)) },
        { dst := some 38, op := .bin .or (.s 29) (.s 37) },
        { dst := some 39, op := .mov (.s 0) },
        { dst := some 40, op := .mov (.s 4) },
        { dst := some 41, op := .bin .mul (.c (.int .i64 4)) (.s 40) },
        { dst := some 42, op := .bin .add (.s 41) (.c (.int .i64 3)) },
        { dst := some 43, op := .idxS 1 (.s 39) (.s 42) },
        { dst := some 44, op := .load 1 false (.s 43) },
        { dst := some 45, op := .conv (.int .u32) (.s 44) },
        { dst := some 46, op := .bin .or (.s 38) (.s 45) },
        { dst := some 47, op := .idxA 64 1 (.s 3) (.s 13) },
        { dst := none, op := .stor 1 (.s 47) (.s 46) }]))
    (.ops [{ dst := some 11, op := .mov (.s 4) },
      { dst := some 12, op := .bin .add (.s 11) (.c (.int .i64 1)) },
      { dst := some 4, op := .mov (.s 12) }]))

def F_wagonpoolref02_schedule_L1 : PC :=
  .seq (.seq (.ops [{ dst := some 48, op := .mov (.s 5) },
      { dst := some 49, op := .bin .lss (.s 48) (.c (.int .i64 64)) }])
    (.cond (.s 49)
      (.skip)
      (.exit 2)))
    (.seq (.block 3 (.seq (.ops [{ dst := some 52, op := .mov (.s 5) },
        { dst := some 53, op := .bin .sub (.s 52) (.c (.int .i64 15)) },
        { dst := some 54, op := .idxA 64 1 (.s 3) (.s 53) },
        { dst := some 55, op := .load 1 false (.s 54) },
        { dst := some 56, op := .call 66 [(.s 55), (.c (.int .i64 7))] },
        { dst := some 57, op := .mov (.s 5) },
        { dst := some 58, op := .bin .sub (.s 57) (.c (.int .i64 15)) },
        { dst := some 59, op := .idxA 64 1 (.s 3) (.s 58) },
        { dst := some 60, op := .load 1 false (.s 59) },
        { dst := some 61, op := .call 66 [(.s 60), (.c (.int .i64 18))] },
        { dst := some 62, op := .bin .xor (.s 56) (.s 61) },
        { dst := some 63, op := .mov (.s 5) },
        { dst := some 64, op := .bin .sub (.s 63) (.c (.int .i64 15)) },
        { dst := some 65, op := .idxA 64 1 (.s 3) (.s 64) },
        { dst := some 66, op := .load 1 false (.s 65) },
        { dst := some 67, op := .bin .shr (.s 66) (.c (.int .u64 3)) },
        { dst := some 68, op := .bin .xor (.s 62) (.s 67) },
        { dst := some 6, op := .mov (.s 68) }])
      (.seq (.ops [{ dst := some 69, op := .mov (.s 5) },
        { dst := some 70, op := .bin .sub (.s 69) (.c (.int .i64 2)) },
        { dst := some 71, op := .idxA 64 1 (.s 3) (.s 70) },
        { dst := some 72, op := .load 1 false (.s 71) },
        { dst := some 73, op := .call 66 [(.s 72), (.c (.int .i64 17))] },
        { dst := some 74, op := .mov (.s 5) },
        { dst := some 75, op := .bin .sub (.s 74) (.c (.int .i64 2)) },
        { dst := some 76, op := .idxA 64 1 (.s 3) (.s 75) },
        { dst := some 77, op := .load 1 false (.s 76) },
        { dst := some 78, op := .call 66 [(.s 77), (.c (.int .i64 19))] },
        { dst := some 79, op := .bin .xor (.s 73) (.s 78) },
        { dst := some 80, op := .mov (.s 5) },
        { dst := some 81, op := .bin .sub (.s 80) (.c (.int .i64 2)) },
        { dst := some 82, op := .idxA 64 1 (.s 3) (.s 81) },
        { dst := some 83, op := .load 1 false (.s 82) },
        { dst := some 84, op := .bin .shr (.s 83) (.c (.int .u64 10)) },
        { dst := some 85, op := .bin .xor (.s 79) (.s 84) },
        { dst := some 7, op := .mov (.s 85) }])
      (.ops [{ dst := some 86, op := .mov (.s 5) },
        { dst := some 87, op := .mov (.s 5) },
        { dst := some 88, op := .bin .sub (.s 87) (.c (.int .i64 16)) },
        { dst := some 89, op := .idxA 64 1 (.s 3) (.s 88) },
        { dst := some 90, op := .load 1 false (.s 89) },
        { dst := some 91, op := .mov (.s 6) },
        { dst := some 92, op := .bin .add (.s 90) (.s 91) },
        { dst := some 93, op := .mov (.s 5) },
        { dst := some 94, op := .bin .sub (.s 93) (.c (.int .i64 7)) },
        { dst := some 95, op := .idxA 64 1 (.s 3) (.s 94) },
        { dst := some 96, op := .load 1 false (.s 95) },
        { dst := some 97, op := .bin .add (.s 92) (.s 96) },
        { dst := some 98, op := .mov (.s 7) },
        { dst := some 99, op := .bin .add (.s 97) (.s 98) },
        { dst := some 100, op := .idxA 64 1 (.s 3) (.s 86) },
        { dst := none, op := .stor 1 (.s 100) (.s 99) }]))))
    (.ops [{ dst := some 50, op := .mov (.s 5) },
      { dst := some 51, op := .bin .add (.s 50) (.c (.int .i64 1)) },
      { dst := some 5, op := .mov (.s 51) }]))

def F_wagonpoolref02_schedule : PF :=
  .mk
    (.seq (.ops [{ dst := some 2, op := .box (.c (.agg [(.int .u32 0), (.int .u32 0), (.int .u32 0), (.int .u32 0), (.int .u32 0), (.int .u32 0), (.int .u32 0), (.int .u32 0), (.int .u32 0), (.int .u32 0), (.int .u32 0), (.int .u32 0), (.int .u32 0), (.int .u32 0), (.int .u32 0), (.int .u32 0), (.int .u32 0), (.int .u32 0), (.int .u32 0), (.int .u32 0), (.int .u32 0), (.int .u32 0), (.int .u32 0), (.int .u32 0), (.int .u32 0), (.int .u32 0), (.int .u32 0), (.int .u32 0), (.int .u32 0), (.int .u32 0), (.int .u32 0), (.int .u32 0), (.int .u32 0), (.int .u32 0), (.int .u32 0), (.int .u32 0), (.int .u32 0), (.int .u32 0), (.int .u32 0), (.int .u32 0), (.int .u32 0), (.int .u32 0), (.int .u32 0), (.int .u32 0), (.int .u32 0), (.int .u32 0), (.int .u32 0), (.int .u32 0), (.int .u32 0), (.int .u32 0), (.int .u32 0), (.int .u32 0), (.int .u32 0), (.int .u32 0), (.int .u32 0), (.int .u32 0), (.int .u32 0), (.int .u32 0), (.int .u32 0), (.int .u32 0), (.int .u32 0), (.int .u32 0), (.int .u32 0), (.int .u32 0)])) }])
      (.seq (.ops [{ dst := some 8, op := .bld [(.int .u32 0), (.int .u32 0), (.int .u32 0), (.int .u32 0), (.int .u32 0), (.int .u32 0), (.int .u32 0), (.int .u32 0), (.int .u32 0), (.int .u32 0), (.int .u32 0), (.int .u32 0), (.int .u32 0), (.int .u32 0), (.int .u32 0), (.int .u32 0), (.int .u32 0), (.int .u32 0), (.int .u32 0), (.int .u32 0), (.int .u32 0), (.int .u32 0), (.int .u32 0), (.int .u32 0), (.int .u32 0), (.int .u32 0), (.int .u32 0), (.int .u32 0), (.int .u32 0), (.int .u32 0), (.int .u32 0), (.int .u32 0), (.int .u32 0), (.int .u32 0), (.int .u32 0), (.int .u32 0), (.int .u32 0), (.int .u32 0), (.int .u32 0), (.int .u32 0), (.int .u32 0), (.int .u32 0), (.int .u32 0), (.int .u32 0), (.int .u32 0), (.int .u32 0), (.int .u32 0), (.int .u32 0), (.int .u32 0), (.int .u32 0), (.int .u32 0), (.int .u32 0), (.int .u32 0), (.int .u32 0), (.int .u32 0), (.int .u32 0), (.int .u32 0), (.int .u32 0), (.int .u32 0), (.int .u32 0), (.int .u32 0), (.int .u32 0), (.int .u32 0), (.int .u32 0)] [] },
        { dst := some 3, op := .box (.c (.agg [(.int .u32 0), (.int .u32 0), (.int .u32 0), (.int .u32 0), (.int .u32 0), (.int .u32 0), (.int .u32 0), (.int .u32 0), (.int .u32 0), (.int .u32 0), (.int .u32 0), (.int .u32 0), (.int .u32 0), (.int .u32 0), (.int .u32 0), (.int .u32 0), (.int .u32 0), (.int .u32 0), (.int .u32 0), (.int .u32 0), (.int .u32 0), (.int .u32 0), (.int .u32 0), (.int .u32 0), (.int .u32 0), (.int .u32 0), (.int .u32 0), (.int .u32 0), (.int .u32 0), (.int .u32 0), (.int .u32 0), (.int .u32 0), (.int .u32 0), (.int .u32 0), (.int .u32 0), (.int .u32 0), (.int .u32 0), (.int .u32 0), (.int .u32 0), (.int .u32 0), (.int .u32 0), (.int .u32 0), (.int .u32 0), (.int .u32 0), (.int .u32 0), (.int .u32 0), (.int .u32 0), (.int .u32 0), (.int .u32 0), (.int .u32 0), (.int .u32 0), (.int .u32 0), (.int .u32 0), (.int .u32 0), (.int .u32 0), (.int .u32 0), (.int .u32 0), (.int .u32 0), (.int .u32 0), (.int .u32 0), (.int .u32 0), (.int .u32 0), (.int .u32 0), (.int .u32 0)])) },
        { dst := none, op := .stor 64 (.s 3) (.s 8) }])
      (.seq (.seq (.ops [{ dst := some 4, op := .mov (.c (.int .i64 0)) }])
      (.block 0 (.loop [0, 2, 3, 4] F_wagonpoolref02_schedule_L0)))
      (.seq (.seq (.ops [{ dst := some 5, op := .mov (.c (.int .i64 16)) }])
      (.block 2 (.loop [2, 3, 5] F_wagonpoolref02_schedule_L1)))
      (.seq (.ops [{ dst := some 101, op := .load 64 true (.s 3) },
        { dst := none, op := .stor 64 (.s 2) (.s 101) }])
      (.ret))))))
    [.cell 2 64 true]
theorem tr_wagonpoolref02_schedule : trF Tryd.prog [39] 64 [[0, 2, 3, 4], [2, 3, 5]] = some F_wagonpoolref02_schedule := by kernel_rfl

/-! wagonpool/wagonpoolref02.constants -/
def F_wagonpoolref02_constants : PF :=
  .mk
    (.seq (.ops [{ dst := some 0, op := .box (.c (.agg [(.int .u32 0), (.int .u32 0), (.int .u32 0), (.int .u32 0), (.int .u32 0), (.int .u32 0), (.int .u32 0), (.int .u32 0), (.int .u32 0), (.int .u32 0), (.int .u32 0), (.int .u32 0), (.int .u32 0), (.int .u32 0), (.int .u32 0), (.int .u32 0), (.int .u32 0), (.int .u32 0), (.int .u32 0), (.int .u32 0), (.int .u32 0), (.int .u32 0), (.int .u32 0), (.int .u32 0), (.int .u32 0), (.int .u32 0), (.int .u32 0), (.int .u32 0), (.int .u32 0), (.int .u32 0), (.int .u32 0), (.int .u32 0), (.int .u32 0), (.int .u32 0), (.int .u32 0), (.int .u32 0), (.int .u32 0), (.int .u32 0), (.int .u32 0), (.int .u32 0), (.int .u32 0), (.int .u32 0), (.int .u32 0), (.int .u32 0), (.int .u32 0), (.int .u32 0), (.int .u32 0), (.int .u32 0), (.int .u32 0), (.int .u32 0), (.int .u32 0), (.int .u32 0), (.int .u32 0), (.int .u32 0), (.int .u32 0), (.int .u32 0), (.int .u32 0), (.int .u32 0), (.int .u32 0), (.int .u32 0), (.int .u32 0), (.int .u32 0), (.int .u32 0), (.int .u32 0)])) }])
      (.seq (.ops [{ dst := some 1, op := .bld [(.int .u32 0), (.int .u32 0), (.int .u32 0), (.int .u32 0), (.int .u32 0), (.int .u32 0), (.int .u32 0), (.int .u32 0), (.int .u32 0), (.int .u32 0), (.int .u32 0), (.int .u32 0), (.int .u32 0), (.int .u32 0), (.int .u32 0), (.int .u32 0), (.int .u32 0), (.int .u32 0), (.int .u32 0), (.int .u32 0), (.int .u32 0), (.int .u32 0), (.int .u32 0), (.int .u32 0), (.int .u32 0), (.int .u32 0), (.int .u32 0), (.int .u32 0), (.int .u32 0), (.int .u32 0), (.int .u32 0), (.int .u32 0), (.int .u32 0), (.int .u32 0), (.int .u32 0), (.int .u32 0), (.int .u32 0), (.int .u32 0), (.int .u32 0), (.int .u32 0), (.int .u32 0), (.int .u32 0), (.int .u32 0), (.int .u32 0), (.int .u32 0), (.int .u32 0), (.int .u32 0), (.int .u32 0), (.int .u32 0), (.int .u32 0), (.int .u32 0), (.int .u32 0), (.int .u32 0), (.int .u32 0), (.int .u32 0), (.int .u32 0), (.int .u32 0), (.int .u32 0), (.int .u32 0), (.int .u32 0), (.int .u32 0), (.int .u32 0), (.int .u32 0), (.int .u32 0)] [(0, 1, (.c (.int .u32 1116352408))), (1, 1, (.c (.int .u32 1899447441))), (2, 1, (.c (.int .u32 3049323471))), (3, 1, (.c (.int .u32 3921009573))), (4, 1, (.c (.int .u32 961987163))), (5, 1, (.c (.int .u32 1508970993))), (6, 1, (.c (.int .u32 2453635748))), (7, 1, (.c (.int .u32 2870763221))), (8, 1, (.c (.int .u32 3624381080))), (9, 1, (.c (.int .u32 310598401))), (10, 1, (.c (.int .u32 607225278))), (11, 1, (.c (.int .u32 1426881987))), (12, 1, (.c (.int .u32 1925078388))), (13, 1, (.c (.int .u32 2162078206))), (14, 1, (.c (.int .u32 2614888103))), (15, 1, (.c (.int .u32 3248222580))), (16, 1, (.c (.int .u32 3835390401))), (17, 1, (.c (.int .u32 4022224774))), (18, 1, (.c (.int .u32 264347078))), (19, 1, (.c (.int .u32 604807628))), (20, 1, (.c (.int .u32 770255983))), (21, 1, (.c (.int .u32 1249150122))), (22, 1, (.c (.int .u32 1555081692))), (23, 1, (.c (.int .u32 1996064986))), (24, 1, (.c (.int .u32 2554220882))), (25, 1, (.c (.int .u32 2821834349))), (26, 1, (.c (.int .u32 2952996808))), (27, 1, (.c (.int .u32 3210313671))), (28, 1, (.c (.int .u32 3336571891))), (29, 1, (.c (.int .u32 3584528711))), (30, 1, (.c (.int .u32 113926993))), (31, 1, (.c (.int .u32 338241895))), (32, 1, (.c (.int .u32 666307205))), (33, 1, (.c (.int .u32 773529912))), (34, 1, (.c (.int .u32 1294757372))), (35, 1, (.c (.int .u32 1396182291))), (36, 1, (.c (.int .u32 1695183700))), (37, 1, (.c (.int .u32 1986661051))), (38, 1, (.c (.int .u32 2177026350))), (39, 1, (.c (.int .u32 2456956037))), (40, 1, (.c (.int .u32 2730485921))), (41, 1, (.c (.int .u32 2820302411))), (42, 1, (.c (.int .u32 3259730800))), (43, 1, (.c (.int .u32 3345764771))), (44, 1, (.c (.int .u32 3516065817))), (45, 1, (.c (.int .u32 3600352804))), (46, 1, (.c (.int .u32 4094571909))), (47, 1, (.c (.int .u32 275423344))), (48, 1, (.c (.int .u32 430227734))), (49, 1, (.c (.int .u32 506948616))), (50, 1, (.c (.int .u32 659060556))), (51, 1, (.c (.int .u32 883997877))), (52, 1, (.c (.int .u32 958139571))), (53, 1, (.c (.int .u32 1322822218))), (54, 1, (.c (.int .u32 1537002063))), (55, 1, (.c (.int .u32 1747873779))), (56, 1, (.c (.int .u32 1955562222))), (57, 1, (.c (.int .u32 2024104815))), (58, 1, (.c (.int .u32 2227730452))), (59, 1, (.c (.int .u32 2361852424))), (60, 1, (.c (.int .u32 2428436474))), (61, 1, (.c (.int .u32 2756734187))), (62, 1, (.c (.int .u32 3204031479))), (63, 1, (.c (.int .u32 3329325298)))] },
        { dst := none, op := .stor 64 (.s 0) (.s 1) }])
      (.ret)))
    [.cell 0 64 true]
theorem tr_wagonpoolref02_constants : trF Tryd.prog [39] 65 [] = some F_wagonpoolref02_constants := by kernel_rfl

/-! wagonpool/wagonpoolref02.rotr -/
def F_wagonpoolref02_rotr : PF :=
  .mk
    (.seq (.ops [{ dst := some 4, op := .mov (.c (.int .u32 0)) }])
      (.seq (.ops [{ dst := some 5, op := .mov (.s 0) },
        { dst := some 6, op := .mov (.s 1) },
        { dst := some 7, op := .bin .shr (.s 5) (.s 6) },
        { dst := some 8, op := .mov (.s 0) },
        { dst := some 9, op := .mov (.s 1) },
        { dst := some 10, op := .bin .sub (.c (.int .i64 32)) (.s 9) },
        { dst := some 11, op := .bin .shl (.s 8) (.s 10) },
        { dst := some 12, op := .bin .or (.s 7) (.s 11) },
        { dst := some 4, op := .mov (.s 12) }])
      (.ret)))
    [.tmp 4]
theorem tr_wagonpoolref02_rotr : trF Tryd.prog [39] 66 [] = some F_wagonpoolref02_rotr := by kernel_rfl

end Go.Proofs.YtokhnpjchpmndaaDoor.PI
