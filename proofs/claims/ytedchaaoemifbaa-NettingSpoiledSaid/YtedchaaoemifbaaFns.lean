/-
  The translations of this seat's functions into pure code, each with the kernel's word that it is the translation. Written by a program (gen.py).
  Conditions: none.
-/
import Derived.Test.YtedchaaoemifbaaEngR
import Derived.KernelRfl
namespace Go.Proofs.Ytedchaaoemifbaa.PI
open Go

/-! wagonpool/wagonpoollaw34.NettingConserves -/
def F_wagonpoollaw34_NettingConserves : PF :=
  .mk
    (.seq (.ops [{ dst := some 6, op := .mov (.c (.bool false)) }])
      (.seq (.seq (.ops [{ dst := some 17, op := .call 9 [] },
        { dst := some 18, op := .un .not (.s 17) }])
      (.cond (.s 18)
        (.seq (.ops [{ dst := some 6, op := .mov (.c (.bool false)) }])
        (.ret))
        (.skip)))
      (.seq (.ops [{ dst := some 20, op := .mov (.s 0) },
        { dst := some 21, op := .mov (.s 1) },
        { dst := some 22, op := .call 10 [(.s 20), (.s 21)] },
        { dst := some 19, op := .mov (.s 22) },
        { dst := some 23, op := .ext (.s 19) 0 },
        { dst := some 24, op := .ext (.s 19) 1 },
        { dst := some 7, op := .mov (.s 23) },
        { dst := some 8, op := .mov (.s 24) }])
      (.seq (.seq (.ops [{ dst := some 25, op := .mov (.s 8) },
        { dst := some 26, op := .bin .eql (.s 25) (.c (.int .i64 0)) }])
      (.cond (.s 26)
        (.seq (.ops [{ dst := some 28, op := .mov (.s 0) },
          { dst := some 29, op := .call 11 [(.s 28)] },
          { dst := some 27, op := .mov (.s 29) },
          { dst := some 30, op := .ext (.s 27) 0 },
          { dst := some 31, op := .ext (.s 27) 1 },
          { dst := some 9, op := .mov (.s 30) },
          { dst := some 10, op := .mov (.s 31) }])
        (.seq (.ops [{ dst := some 33, op := .mov (.s 7) },
          { dst := some 34, op := .call 11 [(.s 33)] },
          { dst := some 32, op := .mov (.s 34) },
          { dst := some 35, op := .ext (.s 32) 0 },
          { dst := some 36, op := .ext (.s 32) 1 },
          { dst := some 11, op := .mov (.s 35) },
          { dst := some 12, op := .mov (.s 36) }])
        (.seq (.ops [{ dst := some 37, op := .mov (.s 9) },
          { dst := some 38, op := .mov (.s 11) },
          { dst := some 39, op := .bin .neq (.s 37) (.s 38) },
          { dst := some 40, op := .mov (.s 39) },
          { dst := some 41, op := .mov (.s 10), guard := some (40, false) },
          { dst := some 42, op := .mov (.s 12), guard := some (40, false) },
          { dst := some 43, op := .bin .neq (.s 41) (.s 42), guard := some (40, false) },
          { dst := some 44, op := .pick (.s 40) (.c (.bool true)) (.s 43) },
          { dst := some 45, op := .mov (.s 44) },
          { dst := some 46, op := .mov (.s 7), guard := some (45, false) },
          { dst := some 47, op := .len false (.s 46), guard := some (45, false) },
          { dst := some 48, op := .mov (.s 0), guard := some (45, false) },
          { dst := some 49, op := .len false (.s 48), guard := some (45, false) },
          { dst := some 50, op := .bin .neq (.s 47) (.s 49), guard := some (45, false) },
          { dst := some 51, op := .pick (.s 45) (.c (.bool true)) (.s 50) }])
        (.cond (.s 51)
          (.seq (.ops [{ dst := some 6, op := .mov (.c (.bool false)) }])
          (.ret))
          (.skip)))))
        (.skip)))
      (.seq (.seq (.ops [{ dst := some 52, op := .mov (.s 2) },
        { dst := some 53, op := .bin .lss (.s 52) (.c (.int .i64 0)) },
        { dst := some 54, op := .mov (.s 53) },
        { dst := some 55, op := .mov (.s 2), guard := some (54, false) },
        { dst := some 56, op := .mov (.s 1), guard := some (54, false) },
        { dst := some 57, op := .len false (.s 56), guard := some (54, false) },
        { dst := some 58, op := .bin .gtr (.s 55) (.s 57), guard := some (54, false) },
        { dst := some 59, op := .pick (.s 54) (.c (.bool true)) (.s 58) }])
      (.cond (.s 59)
        (.seq (.ops [{ dst := some 6, op := .mov (.c (.bool true)) }])
        (.ret))
        (.skip)))
      (.seq (.ops [{ dst := some 61, op := .mov (.s 0) },
        { dst := some 62, op := .mov (.s 1) },
        { dst := some 63, op := .mov (.s 2) },
        { dst := some 64, op := .slice 3 (.s 62) none (some (.s 63)) none },
        { dst := some 65, op := .call 10 [(.s 61), (.s 64)] },
        { dst := some 60, op := .mov (.s 65) },
        { dst := some 66, op := .ext (.s 60) 0 },
        { dst := some 67, op := .ext (.s 60) 1 },
        { dst := some 13, op := .mov (.s 66) },
        { dst := some 14, op := .mov (.s 67) }])
      (.seq (.seq (.ops [{ dst := some 68, op := .mov (.s 14) },
        { dst := some 69, op := .bin .neq (.s 68) (.c (.int .i64 0)) }])
      (.cond (.s 69)
        (.seq (.ops [{ dst := some 70, op := .mov (.s 8) },
          { dst := some 71, op := .mov (.s 14) },
          { dst := some 72, op := .bin .eql (.s 70) (.s 71) },
          { dst := some 73, op := .mov (.s 72) },
          { dst := some 74, op := .mov (.s 7), guard := some (73, true) },
          { dst := some 75, op := .len false (.s 74), guard := some (73, true) },
          { dst := some 76, op := .bin .eql (.s 75) (.c (.int .i64 0)), guard := some (73, true) },
          { dst := some 77, op := .pick (.s 73) (.s 76) (.c (.bool false)) },
          { dst := some 6, op := .mov (.s 77) }])
        (.ret))
        (.skip)))
      (.seq (.ops [{ dst := some 79, op := .mov (.s 13) },
        { dst := some 80, op := .mov (.s 1) },
        { dst := some 81, op := .mov (.s 2) },
        { dst := some 82, op := .slice 3 (.s 80) (some (.s 81)) none none },
        { dst := some 83, op := .call 10 [(.s 79), (.s 82)] },
        { dst := some 78, op := .mov (.s 83) },
        { dst := some 84, op := .ext (.s 78) 0 },
        { dst := some 85, op := .ext (.s 78) 1 },
        { dst := some 15, op := .mov (.s 84) },
        { dst := some 16, op := .mov (.s 85) }])
      (.seq (.ops [{ dst := some 86, op := .mov (.s 7) },
        { dst := some 87, op := .mov (.s 15) },
        { dst := some 88, op := .call 12 [(.s 86), (.s 87)] },
        { dst := some 89, op := .mov (.s 88) },
        { dst := some 90, op := .mov (.s 8), guard := some (89, true) },
        { dst := some 91, op := .mov (.s 16), guard := some (89, true) },
        { dst := some 92, op := .bin .eql (.s 90) (.s 91), guard := some (89, true) },
        { dst := some 93, op := .pick (.s 89) (.s 92) (.c (.bool false)) },
        { dst := some 6, op := .mov (.s 93) }])
      (.ret))))))))))
    [.tmp 6]
theorem tr_wagonpoollaw34_NettingConserves : trF Try.prog [22, 33, 2000040, 30, 31, 38, 39, 2000038, 2000039] 3 [] = some F_wagonpoollaw34_NettingConserves := by kernel_rfl

/-! wagonpool/wagonpoollaw34.NettingExact -/
def F_wagonpoollaw34_NettingExact_L0 : PC :=
  .seq (.seq (.ops [{ dst := some 23, op := .mov (.s 7) },
      { dst := some 24, op := .mov (.s 1) },
      { dst := some 25, op := .len false (.s 24) },
      { dst := some 26, op := .bin .lss (.s 23) (.s 25) }])
    (.cond (.s 26)
      (.skip)
      (.exit 0)))
    (.seq (.block 1 (.seq (.seq (.ops [{ dst := some 29, op := .mov (.s 1) },
        { dst := some 30, op := .mov (.s 7) },
        { dst := some 31, op := .idxS 3 (.s 29) (.s 30) },
        { dst := some 32, op := .fld 0 (.s 31) },
        { dst := some 33, op := .load 1 false (.s 32) },
        { dst := some 34, op := .bin .lss (.s 33) (.c (.int .i64 0)) },
        { dst := some 35, op := .mov (.s 34) },
        { dst := some 36, op := .mov (.s 1), guard := some (35, false) },
        { dst := some 37, op := .mov (.s 7), guard := some (35, false) },
        { dst := some 38, op := .idxS 3 (.s 36) (.s 37), guard := some (35, false) },
        { dst := some 39, op := .fld 0 (.s 38), guard := some (35, false) },
        { dst := some 40, op := .load 1 false (.s 39), guard := some (35, false) },
        { dst := some 41, op := .mov (.s 0), guard := some (35, false) },
        { dst := some 42, op := .len false (.s 41), guard := some (35, false) },
        { dst := some 43, op := .bin .geq (.s 40) (.s 42), guard := some (35, false) },
        { dst := some 44, op := .pick (.s 35) (.c (.bool true)) (.s 43) },
        { dst := some 45, op := .mov (.s 44) },
        { dst := some 46, op := .mov (.s 1), guard := some (45, false) },
        { dst := some 47, op := .mov (.s 7), guard := some (45, false) },
        { dst := some 48, op := .idxS 3 (.s 46) (.s 47), guard := some (45, false) },
        { dst := some 49, op := .fld 1 (.s 48), guard := some (45, false) },
        { dst := some 50, op := .load 1 false (.s 49), guard := some (45, false) },
        { dst := some 51, op := .bin .lss (.s 50) (.c (.int .i64 0)), guard := some (45, false) },
        { dst := some 52, op := .pick (.s 45) (.c (.bool true)) (.s 51) },
        { dst := some 53, op := .mov (.s 52) },
        { dst := some 54, op := .mov (.s 1), guard := some (53, false) },
        { dst := some 55, op := .mov (.s 7), guard := some (53, false) },
        { dst := some 56, op := .idxS 3 (.s 54) (.s 55), guard := some (53, false) },
        { dst := some 57, op := .fld 1 (.s 56), guard := some (53, false) },
        { dst := some 58, op := .load 1 false (.s 57), guard := some (53, false) },
        { dst := some 59, op := .mov (.s 0), guard := some (53, false) },
        { dst := some 60, op := .len false (.s 59), guard := some (53, false) },
        { dst := some 61, op := .bin .geq (.s 58) (.s 60), guard := some (53, false) },
        { dst := some 62, op := .pick (.s 53) (.c (.bool true)) (.s 61) },
        { dst := some 63, op := .mov (.s 62) },
        { dst := some 64, op := .mov (.s 1), guard := some (63, false) },
        { dst := some 65, op := .mov (.s 7), guard := some (63, false) },
        { dst := some 66, op := .idxS 3 (.s 64) (.s 65), guard := some (63, false) },
        { dst := some 67, op := .fld 2 (.s 66), guard := some (63, false) },
        { dst := some 68, op := .load 1 false (.s 67), guard := some (63, false) },
        { dst := some 69, op := .bin .lss (.s 68) (.c (.int .i64 1)), guard := some (63, false) },
        { dst := some 70, op := .pick (.s 63) (.c (.bool true)) (.s 69) },
        { dst := some 71, op := .mov (.s 70) },
        { dst := some 72, op := .mov (.s 1), guard := some (71, false) },
        { dst := some 73, op := .mov (.s 7), guard := some (71, false) },
        { dst := some 74, op := .idxS 3 (.s 72) (.s 73), guard := some (71, false) },
        { dst := some 75, op := .fld 2 (.s 74), guard := some (71, false) },
        { dst := some 76, op := .load 1 false (.s 75), guard := some (71, false) },
        { dst := some 77, op := .call 14 [(.s 76)], guard := some (71, false) },
        { dst := some 78, op := .un .not (.s 77), guard := some (71, false) },
        { dst := some 79, op := .pick (.s 71) (.c (.bool true)) (.s 78) }])
      (.cond (.s 79)
        (.seq (.ops [{ dst := some 4, op := .mov (.c (.bool false)) }])
        (.ret))
        (.skip)))
      (.seq (.ops [{ dst := some 80, op := .mov (.s 5) },
        { dst := some 81, op := .mov (.s 1) },
        { dst := some 82, op := .mov (.s 7) },
        { dst := some 83, op := .idxS 3 (.s 81) (.s 82) },
        { dst := some 84, op := .fld 0 (.s 83) },
        { dst := some 85, op := .load 1 false (.s 84) },
        { dst := some 86, op := .mov (.s 5) },
        { dst := some 87, op := .mov (.s 1) },
        { dst := some 88, op := .mov (.s 7) },
        { dst := some 89, op := .idxS 3 (.s 87) (.s 88) },
        { dst := some 90, op := .fld 0 (.s 89) },
        { dst := some 91, op := .load 1 false (.s 90) },
        { dst := some 92, op := .idxS 1 (.s 86) (.s 91) },
        { dst := some 93, op := .load 1 false (.s 92) },
        { dst := some 94, op := .mov (.s 1) },
        { dst := some 95, op := .mov (.s 7) },
        { dst := some 96, op := .idxS 3 (.s 94) (.s 95) },
        { dst := some 97, op := .fld 2 (.s 96) },
        { dst := some 98, op := .load 1 false (.s 97) },
        { dst := some 99, op := .bin .add (.s 93) (.s 98) },
        { dst := some 100, op := .idxS 1 (.s 80) (.s 85) },
        { dst := none, op := .stor 1 (.s 100) (.s 99) }])
      (.seq (.ops [{ dst := some 101, op := .mov (.s 6) },
        { dst := some 102, op := .mov (.s 1) },
        { dst := some 103, op := .mov (.s 7) },
        { dst := some 104, op := .idxS 3 (.s 102) (.s 103) },
        { dst := some 105, op := .fld 1 (.s 104) },
        { dst := some 106, op := .load 1 false (.s 105) },
        { dst := some 107, op := .mov (.s 6) },
        { dst := some 108, op := .mov (.s 1) },
        { dst := some 109, op := .mov (.s 7) },
        { dst := some 110, op := .idxS 3 (.s 108) (.s 109) },
        { dst := some 111, op := .fld 1 (.s 110) },
        { dst := some 112, op := .load 1 false (.s 111) },
        { dst := some 113, op := .idxS 1 (.s 107) (.s 112) },
        { dst := some 114, op := .load 1 false (.s 113) },
        { dst := some 115, op := .mov (.s 1) },
        { dst := some 116, op := .mov (.s 7) },
        { dst := some 117, op := .idxS 3 (.s 115) (.s 116) },
        { dst := some 118, op := .fld 2 (.s 117) },
        { dst := some 119, op := .load 1 false (.s 118) },
        { dst := some 120, op := .bin .add (.s 114) (.s 119) },
        { dst := some 121, op := .idxS 1 (.s 101) (.s 106) },
        { dst := none, op := .stor 1 (.s 121) (.s 120) }])
      (.seq (.ops [{ dst := some 122, op := .mov (.s 5) },
        { dst := some 123, op := .mov (.s 1) },
        { dst := some 124, op := .mov (.s 7) },
        { dst := some 125, op := .idxS 3 (.s 123) (.s 124) },
        { dst := some 126, op := .fld 0 (.s 125) },
        { dst := some 127, op := .load 1 false (.s 126) },
        { dst := some 128, op := .idxS 1 (.s 122) (.s 127) },
        { dst := some 129, op := .load 1 false (.s 128) },
        { dst := some 130, op := .call 14 [(.s 129)] },
        { dst := some 131, op := .un .not (.s 130) },
        { dst := some 132, op := .mov (.s 131) },
        { dst := some 133, op := .mov (.s 6), guard := some (132, false) },
        { dst := some 134, op := .mov (.s 1), guard := some (132, false) },
        { dst := some 135, op := .mov (.s 7), guard := some (132, false) },
        { dst := some 136, op := .idxS 3 (.s 134) (.s 135), guard := some (132, false) },
        { dst := some 137, op := .fld 1 (.s 136), guard := some (132, false) },
        { dst := some 138, op := .load 1 false (.s 137), guard := some (132, false) },
        { dst := some 139, op := .idxS 1 (.s 133) (.s 138), guard := some (132, false) },
        { dst := some 140, op := .load 1 false (.s 139), guard := some (132, false) },
        { dst := some 141, op := .call 14 [(.s 140)], guard := some (132, false) },
        { dst := some 142, op := .un .not (.s 141), guard := some (132, false) },
        { dst := some 143, op := .pick (.s 132) (.c (.bool true)) (.s 142) }])
      (.cond (.s 143)
        (.seq (.ops [{ dst := some 4, op := .mov (.c (.bool false)) }])
        (.ret))
        (.skip)))))))
    (.ops [{ dst := some 27, op := .mov (.s 7) },
      { dst := some 28, op := .bin .add (.s 27) (.c (.int .i64 1)) },
      { dst := some 7, op := .mov (.s 28) }]))

def F_wagonpoollaw34_NettingExact_L1 : PC :=
  .seq (.seq (.ops [{ dst := some 144, op := .mov (.s 8) },
      { dst := some 145, op := .mov (.s 0) },
      { dst := some 146, op := .len false (.s 145) },
      { dst := some 147, op := .bin .lss (.s 144) (.s 146) }])
    (.cond (.s 147)
      (.skip)
      (.exit 2)))
    (.seq (.block 3 (.seq (.ops [{ dst := some 150, op := .mov (.s 5) },
        { dst := some 151, op := .mov (.s 8) },
        { dst := some 152, op := .idxS 1 (.s 150) (.s 151) },
        { dst := some 153, op := .load 1 false (.s 152) },
        { dst := some 154, op := .mov (.s 0) },
        { dst := some 155, op := .mov (.s 8) },
        { dst := some 156, op := .idxS 1 (.s 154) (.s 155) },
        { dst := some 157, op := .load 1 false (.s 156) },
        { dst := some 158, op := .un .neg (.s 157) },
        { dst := some 159, op := .mm true (.c (.int .i64 0)) (.s 158) },
        { dst := some 160, op := .bin .neq (.s 153) (.s 159) },
        { dst := some 161, op := .mov (.s 160) },
        { dst := some 162, op := .mov (.s 6), guard := some (161, false) },
        { dst := some 163, op := .mov (.s 8), guard := some (161, false) },
        { dst := some 164, op := .idxS 1 (.s 162) (.s 163), guard := some (161, false) },
        { dst := some 165, op := .load 1 false (.s 164), guard := some (161, false) },
        { dst := some 166, op := .mov (.s 0), guard := some (161, false) },
        { dst := some 167, op := .mov (.s 8), guard := some (161, false) },
        { dst := some 168, op := .idxS 1 (.s 166) (.s 167), guard := some (161, false) },
        { dst := some 169, op := .load 1 false (.s 168), guard := some (161, false) },
        { dst := some 170, op := .mm true (.c (.int .i64 0)) (.s 169), guard := some (161, false) },
        { dst := some 171, op := .bin .neq (.s 165) (.s 170), guard := some (161, false) },
        { dst := some 172, op := .pick (.s 161) (.c (.bool true)) (.s 171) }])
      (.cond (.s 172)
        (.seq (.ops [{ dst := some 4, op := .mov (.c (.bool false)) }])
        (.ret))
        (.skip))))
    (.ops [{ dst := some 148, op := .mov (.s 8) },
      { dst := some 149, op := .bin .add (.s 148) (.c (.int .i64 1)) },
      { dst := some 8, op := .mov (.s 149) }]))

def F_wagonpoollaw34_NettingExact : PF :=
  .mk
    (.seq (.ops [{ dst := some 4, op := .mov (.c (.bool false)) }])
      (.seq (.seq (.ops [{ dst := some 11, op := .call 9 [] },
        { dst := some 12, op := .un .not (.s 11) }])
      (.cond (.s 12)
        (.seq (.ops [{ dst := some 4, op := .mov (.c (.bool false)) }])
        (.ret))
        (.skip)))
      (.seq (.seq (.ops [{ dst := some 13, op := .mov (.s 0) },
        { dst := some 14, op := .mov (.s 1) },
        { dst := some 15, op := .call 13 [(.s 13), (.s 14)] },
        { dst := some 16, op := .bin .neq (.s 15) (.c (.int .i64 0)) }])
      (.cond (.s 16)
        (.seq (.ops [{ dst := some 4, op := .mov (.c (.bool true)) }])
        (.ret))
        (.skip)))
      (.seq (.ops [{ dst := some 17, op := .mov (.s 0) },
        { dst := some 18, op := .len false (.s 17) },
        { dst := some 19, op := .mkslc 1 8 (.int .i64 0) (.s 18) (.s 18) },
        { dst := some 5, op := .mov (.s 19) }])
      (.seq (.ops [{ dst := some 20, op := .mov (.s 0) },
        { dst := some 21, op := .len false (.s 20) },
        { dst := some 22, op := .mkslc 1 8 (.int .i64 0) (.s 21) (.s 21) },
        { dst := some 6, op := .mov (.s 22) }])
      (.seq (.seq (.ops [{ dst := some 7, op := .mov (.c (.int .i64 0)) }])
      (.block 0 (.loop [0, 1, 5, 6, 7] F_wagonpoollaw34_NettingExact_L0)))
      (.seq (.seq (.ops [{ dst := some 8, op := .mov (.c (.int .i64 0)) }])
      (.block 2 (.loop [0, 5, 6, 8] F_wagonpoollaw34_NettingExact_L1)))
      (.seq (.ops [{ dst := some 174, op := .mov (.s 0) },
        { dst := some 175, op := .call 11 [(.s 174)] },
        { dst := some 173, op := .mov (.s 175) },
        { dst := some 176, op := .ext (.s 173) 0 },
        { dst := some 177, op := .ext (.s 173) 1 },
        { dst := some 9, op := .mov (.s 176) },
        { dst := some 10, op := .mov (.s 177) }])
      (.seq (.ops [{ dst := some 178, op := .mov (.s 10) },
        { dst := some 179, op := .bin .eql (.s 178) (.c (.int .i64 0)) },
        { dst := some 180, op := .mov (.s 179) },
        { dst := some 181, op := .mov (.s 9), guard := some (180, true) },
        { dst := some 182, op := .bin .eql (.s 181) (.c (.int .i64 0)), guard := some (180, true) },
        { dst := some 183, op := .pick (.s 180) (.s 182) (.c (.bool false)) },
        { dst := some 4, op := .mov (.s 183) }])
      (.ret))))))))))
    [.tmp 4]
theorem tr_wagonpoollaw34_NettingExact : trF Try.prog [22, 33, 2000040, 30, 31, 38, 39, 2000038, 2000039] 4 [[0, 1, 5, 6, 7], [0, 5, 6, 8]] = some F_wagonpoollaw34_NettingExact := by kernel_rfl

/-! wagonpool/wagonpoollaw34.NettingMatchesReference -/
def F_wagonpoollaw34_NettingMatchesReference : PF :=
  .mk
    (.seq (.ops [{ dst := some 4, op := .mov (.c (.bool false)) }])
      (.seq (.seq (.ops [{ dst := some 13, op := .call 9 [] },
        { dst := some 14, op := .un .not (.s 13) }])
      (.cond (.s 14)
        (.seq (.ops [{ dst := some 4, op := .mov (.c (.bool false)) }])
        (.ret))
        (.skip)))
      (.seq (.ops [{ dst := some 16, op := .mov (.s 0) },
        { dst := some 17, op := .call 15 [(.s 16)] },
        { dst := some 15, op := .mov (.s 17) },
        { dst := some 18, op := .ext (.s 15) 0 },
        { dst := some 19, op := .ext (.s 15) 1 },
        { dst := some 5, op := .mov (.s 18) },
        { dst := some 6, op := .mov (.s 19) }])
      (.seq (.ops [{ dst := some 21, op := .mov (.s 0) },
        { dst := some 22, op := .call 16 [(.s 21)] },
        { dst := some 20, op := .mov (.s 22) },
        { dst := some 23, op := .ext (.s 20) 0 },
        { dst := some 24, op := .ext (.s 20) 1 },
        { dst := some 7, op := .mov (.s 23) },
        { dst := some 8, op := .mov (.s 24) }])
      (.seq (.ops [{ dst := some 26, op := .mov (.s 0) },
        { dst := some 27, op := .mov (.s 1) },
        { dst := some 28, op := .call 10 [(.s 26), (.s 27)] },
        { dst := some 25, op := .mov (.s 28) },
        { dst := some 29, op := .ext (.s 25) 0 },
        { dst := some 30, op := .ext (.s 25) 1 },
        { dst := some 9, op := .mov (.s 29) },
        { dst := some 10, op := .mov (.s 30) }])
      (.seq (.ops [{ dst := some 32, op := .mov (.s 0) },
        { dst := some 33, op := .mov (.s 1) },
        { dst := some 34, op := .call 17 [(.s 32), (.s 33)] },
        { dst := some 31, op := .mov (.s 34) },
        { dst := some 35, op := .ext (.s 31) 0 },
        { dst := some 36, op := .ext (.s 31) 1 },
        { dst := some 11, op := .mov (.s 35) },
        { dst := some 12, op := .mov (.s 36) }])
      (.seq (.ops [{ dst := some 37, op := .mov (.s 5) },
        { dst := some 38, op := .mov (.s 7) },
        { dst := some 39, op := .call 18 [(.s 37), (.s 38)] },
        { dst := some 40, op := .mov (.s 39) },
        { dst := some 41, op := .mov (.s 6), guard := some (40, true) },
        { dst := some 42, op := .mov (.s 8), guard := some (40, true) },
        { dst := some 43, op := .bin .eql (.s 41) (.s 42), guard := some (40, true) },
        { dst := some 44, op := .pick (.s 40) (.s 43) (.c (.bool false)) },
        { dst := some 45, op := .mov (.s 44) },
        { dst := some 46, op := .mov (.s 9), guard := some (45, true) },
        { dst := some 47, op := .mov (.s 11), guard := some (45, true) },
        { dst := some 48, op := .call 12 [(.s 46), (.s 47)], guard := some (45, true) },
        { dst := some 49, op := .pick (.s 45) (.s 48) (.c (.bool false)) },
        { dst := some 50, op := .mov (.s 49) },
        { dst := some 51, op := .mov (.s 10), guard := some (50, true) },
        { dst := some 52, op := .mov (.s 12), guard := some (50, true) },
        { dst := some 53, op := .bin .eql (.s 51) (.s 52), guard := some (50, true) },
        { dst := some 54, op := .pick (.s 50) (.s 53) (.c (.bool false)) },
        { dst := some 55, op := .mov (.s 54) },
        { dst := some 56, op := .mov (.s 0), guard := some (55, true) },
        { dst := some 57, op := .mov (.s 1), guard := some (55, true) },
        { dst := some 58, op := .call 13 [(.s 56), (.s 57)], guard := some (55, true) },
        { dst := some 59, op := .mov (.s 0), guard := some (55, true) },
        { dst := some 60, op := .mov (.s 1), guard := some (55, true) },
        { dst := some 61, op := .call 19 [(.s 59), (.s 60)], guard := some (55, true) },
        { dst := some 62, op := .bin .eql (.s 58) (.s 61), guard := some (55, true) },
        { dst := some 63, op := .pick (.s 55) (.s 62) (.c (.bool false)) },
        { dst := some 4, op := .mov (.s 63) }])
      (.ret))))))))
    [.tmp 4]
theorem tr_wagonpoollaw34_NettingMatchesReference : trF Try.prog [22, 33, 2000040, 30, 31, 38, 39, 2000038, 2000039] 5 [] = some F_wagonpoollaw34_NettingMatchesReference := by kernel_rfl

/-! wagonpool/wagonpoollaw34.NettingOrder -/
def F_wagonpoollaw34_NettingOrder_L0 : PC :=
  .seq (.seq (.ops [{ dst := some 13, op := .mov (.s 5) },
      { dst := some 14, op := .mov (.s 3) },
      { dst := some 15, op := .len false (.s 14) },
      { dst := some 16, op := .bin .lss (.s 13) (.s 15) }])
    (.cond (.s 16)
      (.skip)
      (.exit 0)))
    (.seq (.block 1 (.seq (.seq (.ops [{ dst := some 19, op := .mov (.s 3) },
        { dst := some 20, op := .mov (.s 5) },
        { dst := some 21, op := .idxS 3 (.s 19) (.s 20) },
        { dst := some 22, op := .fld 2 (.s 21) },
        { dst := some 23, op := .load 1 false (.s 22) },
        { dst := some 24, op := .bin .lss (.s 23) (.c (.int .i64 1)) },
        { dst := some 25, op := .mov (.s 24) },
        { dst := some 26, op := .mov (.s 3), guard := some (25, false) },
        { dst := some 27, op := .mov (.s 5), guard := some (25, false) },
        { dst := some 28, op := .idxS 3 (.s 26) (.s 27), guard := some (25, false) },
        { dst := some 29, op := .fld 0 (.s 28), guard := some (25, false) },
        { dst := some 30, op := .load 1 false (.s 29), guard := some (25, false) },
        { dst := some 31, op := .bin .lss (.s 30) (.c (.int .i64 0)), guard := some (25, false) },
        { dst := some 32, op := .pick (.s 25) (.c (.bool true)) (.s 31) },
        { dst := some 33, op := .mov (.s 32) },
        { dst := some 34, op := .mov (.s 3), guard := some (33, false) },
        { dst := some 35, op := .mov (.s 5), guard := some (33, false) },
        { dst := some 36, op := .idxS 3 (.s 34) (.s 35), guard := some (33, false) },
        { dst := some 37, op := .fld 0 (.s 36), guard := some (33, false) },
        { dst := some 38, op := .load 1 false (.s 37), guard := some (33, false) },
        { dst := some 39, op := .mov (.s 0), guard := some (33, false) },
        { dst := some 40, op := .len false (.s 39), guard := some (33, false) },
        { dst := some 41, op := .bin .geq (.s 38) (.s 40), guard := some (33, false) },
        { dst := some 42, op := .pick (.s 33) (.c (.bool true)) (.s 41) },
        { dst := some 43, op := .mov (.s 42) },
        { dst := some 44, op := .mov (.s 3), guard := some (43, false) },
        { dst := some 45, op := .mov (.s 5), guard := some (43, false) },
        { dst := some 46, op := .idxS 3 (.s 44) (.s 45), guard := some (43, false) },
        { dst := some 47, op := .fld 1 (.s 46), guard := some (43, false) },
        { dst := some 48, op := .load 1 false (.s 47), guard := some (43, false) },
        { dst := some 49, op := .bin .lss (.s 48) (.c (.int .i64 0)), guard := some (43, false) },
        { dst := some 50, op := .pick (.s 43) (.c (.bool true)) (.s 49) },
        { dst := some 51, op := .mov (.s 50) },
        { dst := some 52, op := .mov (.s 3), guard := some (51, false) },
        { dst := some 53, op := .mov (.s 5), guard := some (51, false) },
        { dst := some 54, op := .idxS 3 (.s 52) (.s 53), guard := some (51, false) },
        { dst := some 55, op := .fld 1 (.s 54), guard := some (51, false) },
        { dst := some 56, op := .load 1 false (.s 55), guard := some (51, false) },
        { dst := some 57, op := .mov (.s 0), guard := some (51, false) },
        { dst := some 58, op := .len false (.s 57), guard := some (51, false) },
        { dst := some 59, op := .bin .geq (.s 56) (.s 58), guard := some (51, false) },
        { dst := some 60, op := .pick (.s 51) (.c (.bool true)) (.s 59) }])
      (.cond (.s 60)
        (.seq (.ops [{ dst := some 2, op := .mov (.c (.bool false)) }])
        (.ret))
        (.skip)))
      (.seq (.ops [{ dst := some 61, op := .mov (.s 5) },
        { dst := some 62, op := .bin .gtr (.s 61) (.c (.int .i64 0)) },
        { dst := some 63, op := .mov (.s 62) },
        { dst := some 64, op := .mov (.s 3), guard := some (63, true) },
        { dst := some 65, op := .mov (.s 5), guard := some (63, true) },
        { dst := some 66, op := .idxS 3 (.s 64) (.s 65), guard := some (63, true) },
        { dst := some 67, op := .fld 0 (.s 66), guard := some (63, true) },
        { dst := some 68, op := .load 1 false (.s 67), guard := some (63, true) },
        { dst := some 69, op := .mov (.s 3), guard := some (63, true) },
        { dst := some 70, op := .mov (.s 5), guard := some (63, true) },
        { dst := some 71, op := .bin .sub (.s 70) (.c (.int .i64 1)), guard := some (63, true) },
        { dst := some 72, op := .idxS 3 (.s 69) (.s 71), guard := some (63, true) },
        { dst := some 73, op := .fld 0 (.s 72), guard := some (63, true) },
        { dst := some 74, op := .load 1 false (.s 73), guard := some (63, true) },
        { dst := some 75, op := .bin .lss (.s 68) (.s 74), guard := some (63, true) },
        { dst := some 76, op := .mov (.s 75), guard := some (63, true) },
        { dst := some 77, op := .mov (.s 3), guard := some (76, false) },
        { dst := some 78, op := .mov (.s 5), guard := some (76, false) },
        { dst := some 79, op := .idxS 3 (.s 77) (.s 78), guard := some (76, false) },
        { dst := some 80, op := .fld 1 (.s 79), guard := some (76, false) },
        { dst := some 81, op := .load 1 false (.s 80), guard := some (76, false) },
        { dst := some 82, op := .mov (.s 3), guard := some (76, false) },
        { dst := some 83, op := .mov (.s 5), guard := some (76, false) },
        { dst := some 84, op := .bin .sub (.s 83) (.c (.int .i64 1)), guard := some (76, false) },
        { dst := some 85, op := .idxS 3 (.s 82) (.s 84), guard := some (76, false) },
        { dst := some 86, op := .fld 1 (.s 85), guard := some (76, false) },
        { dst := some 87, op := .load 1 false (.s 86), guard := some (76, false) },
        { dst := some 88, op := .bin .lss (.s 81) (.s 87), guard := some (76, false) },
        { dst := some 89, op := .pick (.s 76) (.c (.bool true)) (.s 88), guard := some (63, true) },
        { dst := some 90, op := .mov (.s 89), guard := some (63, true) },
        { dst := some 91, op := .mov (.s 3), guard := some (90, false) },
        { dst := some 92, op := .mov (.s 5), guard := some (90, false) },
        { dst := some 93, op := .idxS 3 (.s 91) (.s 92), guard := some (90, false) },
        { dst := some 94, op := .fld 0 (.s 93), guard := some (90, false) },
        { dst := some 95, op := .load 1 false (.s 94), guard := some (90, false) },
        { dst := some 96, op := .mov (.s 3), guard := some (90, false) },
        { dst := some 97, op := .mov (.s 5), guard := some (90, false) },
        { dst := some 98, op := .bin .sub (.s 97) (.c (.int .i64 1)), guard := some (90, false) },
        { dst := some 99, op := .idxS 3 (.s 96) (.s 98), guard := some (90, false) },
        { dst := some 100, op := .fld 0 (.s 99), guard := some (90, false) },
        { dst := some 101, op := .load 1 false (.s 100), guard := some (90, false) },
        { dst := some 102, op := .bin .eql (.s 95) (.s 101), guard := some (90, false) },
        { dst := some 103, op := .mov (.s 102), guard := some (90, false) },
        { dst := some 104, op := .mov (.s 3), guard := some (103, true) },
        { dst := some 105, op := .mov (.s 5), guard := some (103, true) },
        { dst := some 106, op := .idxS 3 (.s 104) (.s 105), guard := some (103, true) },
        { dst := some 107, op := .fld 1 (.s 106), guard := some (103, true) },
        { dst := some 108, op := .load 1 false (.s 107), guard := some (103, true) },
        { dst := some 109, op := .mov (.s 3), guard := some (103, true) },
        { dst := some 110, op := .mov (.s 5), guard := some (103, true) },
        { dst := some 111, op := .bin .sub (.s 110) (.c (.int .i64 1)), guard := some (103, true) },
        { dst := some 112, op := .idxS 3 (.s 109) (.s 111), guard := some (103, true) },
        { dst := some 113, op := .fld 1 (.s 112), guard := some (103, true) },
        { dst := some 114, op := .load 1 false (.s 113), guard := some (103, true) },
        { dst := some 115, op := .bin .eql (.s 108) (.s 114), guard := some (103, true) },
        { dst := some 116, op := .pick (.s 103) (.s 115) (.c (.bool false)), guard := some (90, false) },
        { dst := some 117, op := .pick (.s 90) (.c (.bool true)) (.s 116), guard := some (63, true) },
        { dst := some 118, op := .pick (.s 63) (.s 117) (.c (.bool false)) }])
      (.cond (.s 118)
        (.seq (.ops [{ dst := some 2, op := .mov (.c (.bool false)) }])
        (.ret))
        (.skip)))))
    (.ops [{ dst := some 17, op := .mov (.s 5) },
      { dst := some 18, op := .bin .add (.s 17) (.c (.int .i64 1)) },
      { dst := some 5, op := .mov (.s 18) }]))

def F_wagonpoollaw34_NettingOrder : PF :=
  .mk
    (.seq (.ops [{ dst := some 2, op := .mov (.c (.bool false)) }])
      (.seq (.seq (.ops [{ dst := some 6, op := .call 9 [] },
        { dst := some 7, op := .un .not (.s 6) }])
      (.cond (.s 7)
        (.seq (.ops [{ dst := some 2, op := .mov (.c (.bool false)) }])
        (.ret))
        (.skip)))
      (.seq (.ops [{ dst := some 9, op := .mov (.s 0) },
        { dst := some 10, op := .call 15 [(.s 9)] },
        { dst := some 8, op := .mov (.s 10) },
        { dst := some 11, op := .ext (.s 8) 0 },
        { dst := some 12, op := .ext (.s 8) 1 },
        { dst := some 3, op := .mov (.s 11) },
        { dst := some 4, op := .mov (.s 12) }])
      (.seq (.seq (.ops [{ dst := some 5, op := .mov (.c (.int .i64 0)) }])
      (.block 0 (.loop [0, 3, 5] F_wagonpoollaw34_NettingOrder_L0)))
      (.seq (.ops [{ dst := some 2, op := .mov (.c (.bool true)) }])
      (.ret))))))
    [.tmp 2]
theorem tr_wagonpoollaw34_NettingOrder : trF Try.prog [22, 33, 2000040, 30, 31, 38, 39, 2000038, 2000039] 6 [[0, 3, 5]] = some F_wagonpoollaw34_NettingOrder := by kernel_rfl

/-! wagonpool/wagonpoollaw34.NettingSettles -/
def F_wagonpoollaw34_NettingSettles_L0 : PC :=
  .seq (.seq (.ops [{ dst := some 28, op := .mov (.s 9) },
      { dst := some 29, op := .mov (.s 0) },
      { dst := some 30, op := .len false (.s 29) },
      { dst := some 31, op := .bin .lss (.s 28) (.s 30) }])
    (.cond (.s 31)
      (.skip)
      (.exit 0)))
    (.seq (.block 1 (.seq (.ops [{ dst := some 34, op := .mov (.s 7) },
        { dst := some 35, op := .mov (.s 34) },
        { dst := some 36, op := .mov (.s 0), guard := some (35, true) },
        { dst := some 37, op := .mov (.s 9), guard := some (35, true) },
        { dst := some 38, op := .idxS 1 (.s 36) (.s 37), guard := some (35, true) },
        { dst := some 39, op := .load 1 false (.s 38), guard := some (35, true) },
        { dst := some 40, op := .call 14 [(.s 39)], guard := some (35, true) },
        { dst := some 41, op := .pick (.s 35) (.s 40) (.c (.bool false)) },
        { dst := some 7, op := .mov (.s 41) }])
      (.seq (.ops [{ dst := some 42, op := .mov (.s 0) },
        { dst := some 43, op := .mov (.s 9) },
        { dst := some 44, op := .idxS 1 (.s 42) (.s 43) },
        { dst := some 45, op := .load 1 false (.s 44) },
        { dst := some 46, op := .bin .neq (.s 45) (.c (.int .i64 0)) }])
      (.cond (.s 46)
        (.ops [{ dst := some 47, op := .mov (.s 8) },
          { dst := some 48, op := .bin .add (.s 47) (.c (.int .i64 1)) },
          { dst := some 8, op := .mov (.s 48) }])
        (.skip)))))
    (.ops [{ dst := some 32, op := .mov (.s 9) },
      { dst := some 33, op := .bin .add (.s 32) (.c (.int .i64 1)) },
      { dst := some 9, op := .mov (.s 33) }]))

def F_wagonpoollaw34_NettingSettles_L1 : PC :=
  .seq (.seq (.ops [{ dst := some 91, op := .mov (.s 12) },
      { dst := some 92, op := .mov (.s 10) },
      { dst := some 93, op := .len false (.s 92) },
      { dst := some 94, op := .bin .lss (.s 91) (.s 93) }])
    (.cond (.s 94)
      (.skip)
      (.exit 2)))
    (.seq (.block 3 (.seq (.ops [{ dst := some 97, op := .mov (.s 10) },
        { dst := some 98, op := .mov (.s 12) },
        { dst := some 99, op := .idxS 1 (.s 97) (.s 98) },
        { dst := some 100, op := .load 1 false (.s 99) },
        { dst := some 101, op := .bin .neq (.s 100) (.c (.int .i64 0)) }])
      (.cond (.s 101)
        (.seq (.ops [{ dst := some 2, op := .mov (.c (.bool false)) }])
        (.ret))
        (.skip))))
    (.ops [{ dst := some 95, op := .mov (.s 12) },
      { dst := some 96, op := .bin .add (.s 95) (.c (.int .i64 1)) },
      { dst := some 12, op := .mov (.s 96) }]))

def F_wagonpoollaw34_NettingSettles : PF :=
  .mk
    (.seq (.ops [{ dst := some 2, op := .mov (.c (.bool false)) }])
      (.seq (.seq (.ops [{ dst := some 13, op := .call 9 [] },
        { dst := some 14, op := .un .not (.s 13) }])
      (.cond (.s 14)
        (.seq (.ops [{ dst := some 2, op := .mov (.c (.bool false)) }])
        (.ret))
        (.skip)))
      (.seq (.ops [{ dst := some 16, op := .mov (.s 0) },
        { dst := some 17, op := .call 15 [(.s 16)] },
        { dst := some 15, op := .mov (.s 17) },
        { dst := some 18, op := .ext (.s 15) 0 },
        { dst := some 19, op := .ext (.s 15) 1 },
        { dst := some 3, op := .mov (.s 18) },
        { dst := some 4, op := .mov (.s 19) }])
      (.seq (.ops [{ dst := some 21, op := .mov (.s 0) },
        { dst := some 22, op := .call 11 [(.s 21)] },
        { dst := some 20, op := .mov (.s 22) },
        { dst := some 23, op := .ext (.s 20) 0 },
        { dst := some 24, op := .ext (.s 20) 1 },
        { dst := some 5, op := .mov (.s 23) },
        { dst := some 6, op := .mov (.s 24) }])
      (.seq (.ops [{ dst := some 25, op := .mov (.s 0) },
        { dst := some 26, op := .len false (.s 25) },
        { dst := some 27, op := .bin .leq (.s 26) (.c (.int .i64 336)) },
        { dst := some 7, op := .mov (.s 27) }])
      (.seq (.ops [{ dst := some 8, op := .mov (.c (.int .i64 0)) }])
      (.seq (.seq (.ops [{ dst := some 9, op := .mov (.c (.int .i64 0)) }])
      (.block 0 (.loop [0, 3, 4, 5, 6, 7, 8, 9] F_wagonpoollaw34_NettingSettles_L0)))
      (.seq (.seq (.ops [{ dst := some 49, op := .mov (.s 7) },
        { dst := some 50, op := .un .not (.s 49) },
        { dst := some 51, op := .mov (.s 50) },
        { dst := some 52, op := .mov (.s 6), guard := some (51, false) },
        { dst := some 53, op := .bin .neq (.s 52) (.c (.int .i64 0)), guard := some (51, false) },
        { dst := some 54, op := .pick (.s 51) (.c (.bool true)) (.s 53) },
        { dst := some 55, op := .mov (.s 54) },
        { dst := some 56, op := .mov (.s 5), guard := some (55, false) },
        { dst := some 57, op := .bin .neq (.s 56) (.c (.int .i64 0)), guard := some (55, false) },
        { dst := some 58, op := .pick (.s 55) (.c (.bool true)) (.s 57) }])
      (.cond (.s 58)
        (.seq (.ops [{ dst := some 59, op := .mov (.s 4) },
          { dst := some 60, op := .bin .neq (.s 59) (.c (.int .i64 0)) },
          { dst := some 61, op := .mov (.s 60) },
          { dst := some 62, op := .mov (.s 3), guard := some (61, true) },
          { dst := some 63, op := .len false (.s 62), guard := some (61, true) },
          { dst := some 64, op := .bin .eql (.s 63) (.c (.int .i64 0)), guard := some (61, true) },
          { dst := some 65, op := .pick (.s 61) (.s 64) (.c (.bool false)) },
          { dst := some 2, op := .mov (.s 65) }])
        (.ret))
        (.skip)))
      (.seq (.ops [{ dst := some 67, op := .mov (.s 0) },
        { dst := some 68, op := .mov (.s 3) },
        { dst := some 69, op := .call 10 [(.s 67), (.s 68)] },
        { dst := some 66, op := .mov (.s 69) },
        { dst := some 70, op := .ext (.s 66) 0 },
        { dst := some 71, op := .ext (.s 66) 1 },
        { dst := some 10, op := .mov (.s 70) },
        { dst := some 11, op := .mov (.s 71) }])
      (.seq (.seq (.ops [{ dst := some 72, op := .mov (.s 4) },
        { dst := some 73, op := .bin .neq (.s 72) (.c (.int .i64 0)) },
        { dst := some 74, op := .mov (.s 73) },
        { dst := some 75, op := .mov (.s 11), guard := some (74, false) },
        { dst := some 76, op := .bin .neq (.s 75) (.c (.int .i64 0)), guard := some (74, false) },
        { dst := some 77, op := .pick (.s 74) (.c (.bool true)) (.s 76) },
        { dst := some 78, op := .mov (.s 77) },
        { dst := some 79, op := .mov (.s 0), guard := some (78, false) },
        { dst := some 80, op := .mov (.s 3), guard := some (78, false) },
        { dst := some 81, op := .call 13 [(.s 79), (.s 80)], guard := some (78, false) },
        { dst := some 82, op := .bin .neq (.s 81) (.c (.int .i64 0)), guard := some (78, false) },
        { dst := some 83, op := .pick (.s 78) (.c (.bool true)) (.s 82) },
        { dst := some 84, op := .mov (.s 83) },
        { dst := some 85, op := .mov (.s 10), guard := some (84, false) },
        { dst := some 86, op := .len false (.s 85), guard := some (84, false) },
        { dst := some 87, op := .mov (.s 0), guard := some (84, false) },
        { dst := some 88, op := .len false (.s 87), guard := some (84, false) },
        { dst := some 89, op := .bin .neq (.s 86) (.s 88), guard := some (84, false) },
        { dst := some 90, op := .pick (.s 84) (.c (.bool true)) (.s 89) }])
      (.cond (.s 90)
        (.seq (.ops [{ dst := some 2, op := .mov (.c (.bool false)) }])
        (.ret))
        (.skip)))
      (.seq (.seq (.ops [{ dst := some 12, op := .mov (.c (.int .i64 0)) }])
      (.block 2 (.loop [3, 8, 10, 12] F_wagonpoollaw34_NettingSettles_L1)))
      (.seq (.ops [{ dst := some 102, op := .mov (.s 3) },
        { dst := some 103, op := .len false (.s 102) },
        { dst := some 104, op := .mov (.s 8) },
        { dst := some 105, op := .bin .lss (.s 103) (.s 104) },
        { dst := some 106, op := .mov (.s 105) },
        { dst := some 107, op := .mov (.s 8), guard := some (106, false) },
        { dst := some 108, op := .bin .eql (.s 107) (.c (.int .i64 0)), guard := some (106, false) },
        { dst := some 109, op := .mov (.s 108), guard := some (106, false) },
        { dst := some 110, op := .mov (.s 3), guard := some (109, true) },
        { dst := some 111, op := .len false (.s 110), guard := some (109, true) },
        { dst := some 112, op := .bin .eql (.s 111) (.c (.int .i64 0)), guard := some (109, true) },
        { dst := some 113, op := .pick (.s 109) (.s 112) (.c (.bool false)), guard := some (106, false) },
        { dst := some 114, op := .pick (.s 106) (.c (.bool true)) (.s 113) },
        { dst := some 2, op := .mov (.s 114) }])
      (.ret)))))))))))))
    [.tmp 2]
theorem tr_wagonpoollaw34_NettingSettles : trF Try.prog [22, 33, 2000040, 30, 31, 38, 39, 2000038, 2000039] 7 [[0, 3, 4, 5, 6, 7, 8, 9], [3, 8, 10, 12]] = some F_wagonpoollaw34_NettingSettles := by kernel_rfl

/-! wagonpool/wagonpoollaw34.NettingSpoiled -/
def F_wagonpoollaw34_NettingSpoiled : PF :=
  .mk
    (.seq (.ops [{ dst := some 8, op := .mov (.c (.bool false)) }])
      (.seq (.seq (.ops [{ dst := some 12, op := .call 9 [] },
        { dst := some 13, op := .un .not (.s 12) }])
      (.cond (.s 13)
        (.seq (.ops [{ dst := some 8, op := .mov (.c (.bool false)) }])
        (.ret))
        (.skip)))
      (.seq (.ops [{ dst := some 15, op := .mov (.s 0) },
        { dst := some 16, op := .call 15 [(.s 15)] },
        { dst := some 14, op := .mov (.s 16) },
        { dst := some 17, op := .ext (.s 14) 0 },
        { dst := some 18, op := .ext (.s 14) 1 },
        { dst := some 9, op := .mov (.s 17) },
        { dst := some 10, op := .mov (.s 18) }])
      (.seq (.seq (.ops [{ dst := some 19, op := .mov (.s 10) },
        { dst := some 20, op := .bin .neq (.s 19) (.c (.int .i64 0)) },
        { dst := some 21, op := .mov (.s 20) },
        { dst := some 22, op := .mov (.s 1), guard := some (21, false) },
        { dst := some 23, op := .bin .lss (.s 22) (.c (.int .i64 0)), guard := some (21, false) },
        { dst := some 24, op := .pick (.s 21) (.c (.bool true)) (.s 23) },
        { dst := some 25, op := .mov (.s 24) },
        { dst := some 26, op := .mov (.s 1), guard := some (25, false) },
        { dst := some 27, op := .mov (.s 9), guard := some (25, false) },
        { dst := some 28, op := .len false (.s 27), guard := some (25, false) },
        { dst := some 29, op := .bin .geq (.s 26) (.s 28), guard := some (25, false) },
        { dst := some 30, op := .pick (.s 25) (.c (.bool true)) (.s 29) }])
      (.cond (.s 30)
        (.seq (.ops [{ dst := some 8, op := .mov (.c (.bool true)) }])
        (.ret))
        (.skip)))
      (.seq (.ops [{ dst := some 31, op := .bslc 3 [] },
        { dst := some 32, op := .mov (.s 9) },
        { dst := some 33, op := .app 3 24 (.s 31) (.s 32) },
        { dst := some 11, op := .mov (.s 33) }])
      (.seq (.seq (.ops [{ dst := some 34, op := .mov (.s 3) }])
      (.block 0 (.seq (.ops [{ dst := some 41, op := .bin .eql (.s 34) (.c (.int .i64 0)) },
          { dst := some 40, op := .mov (.s 41) }])
        (.cond (.s 40)
          (.ops [{ dst := some 42, op := .mov (.s 11) },
            { dst := some 43, op := .mov (.s 1) },
            { dst := some 44, op := .mov (.s 2) },
            { dst := some 45, op := .idxS 3 (.s 42) (.s 43) },
            { dst := some 46, op := .fld 2 (.s 45) },
            { dst := none, op := .stor 1 (.s 46) (.s 44) }])
          (.seq (.ops [{ dst := some 48, op := .bin .eql (.s 34) (.c (.int .i64 1)) },
            { dst := some 47, op := .mov (.s 48) }])
          (.cond (.s 47)
            (.ops [{ dst := some 49, op := .mov (.s 11) },
              { dst := some 50, op := .mov (.s 1) },
              { dst := some 51, op := .mov (.s 2) },
              { dst := some 52, op := .idxS 3 (.s 49) (.s 50) },
              { dst := some 53, op := .fld 0 (.s 52) },
              { dst := none, op := .stor 1 (.s 53) (.s 51) }])
            (.ops [{ dst := some 35, op := .mov (.s 11) },
              { dst := some 36, op := .mov (.s 1) },
              { dst := some 37, op := .mov (.s 2) },
              { dst := some 38, op := .idxS 3 (.s 35) (.s 36) },
              { dst := some 39, op := .fld 1 (.s 38) },
              { dst := none, op := .stor 1 (.s 39) (.s 37) }])))))))
      (.seq (.ops [{ dst := some 54, op := .mov (.s 0) },
        { dst := some 55, op := .mov (.s 11) },
        { dst := some 56, op := .call 13 [(.s 54), (.s 55)] },
        { dst := some 57, op := .bin .eql (.s 56) (.c (.int .i64 0)) },
        { dst := some 58, op := .mov (.s 11) },
        { dst := some 59, op := .mov (.s 1) },
        { dst := some 60, op := .idxS 3 (.s 58) (.s 59) },
        { dst := some 61, op := .load 3 true (.s 60) },
        { dst := some 62, op := .mov (.s 9) },
        { dst := some 63, op := .mov (.s 1) },
        { dst := some 64, op := .idxS 3 (.s 62) (.s 63) },
        { dst := some 65, op := .load 3 true (.s 64) },
        { dst := some 66, op := .aeq [0, 0, 0] false (.s 61) (.s 65) },
        { dst := some 67, op := .beq false (.s 57) (.s 66) },
        { dst := some 8, op := .mov (.s 67) }])
      (.ret))))))))
    [.tmp 8]
theorem tr_wagonpoollaw34_NettingSpoiled : trF Try.prog [22, 33, 2000040, 30, 31, 38, 39, 2000038, 2000039] 8 [] = some F_wagonpoollaw34_NettingSpoiled := by kernel_rfl

/-! wagonpool/wagonpoollaw34.sane -/
def F_wagonpoollaw34_sane : PF :=
  .mk
    (.seq (.ops [{ dst := some 0, op := .mov (.c (.bool false)) }])
      (.seq (.ops [{ dst := some 17, op := .bslc 1 [(.c (.int .i64 (-5))), (.c (.int .i64 3)), (.c (.int .i64 2))] },
        { dst := some 18, op := .call 15 [(.s 17)] },
        { dst := some 16, op := .mov (.s 18) },
        { dst := some 19, op := .ext (.s 16) 0 },
        { dst := some 20, op := .ext (.s 16) 1 },
        { dst := some 1, op := .mov (.s 19) },
        { dst := some 2, op := .mov (.s 20) }])
      (.seq (.ops [{ dst := some 22, op := .bslc 1 [(.c (.int .i64 4)), (.c (.int .i64 (-1))), (.c (.int .i64 0)), (.c (.int .i64 (-3)))] },
        { dst := some 23, op := .call 15 [(.s 22)] },
        { dst := some 21, op := .mov (.s 23) },
        { dst := some 24, op := .ext (.s 21) 0 },
        { dst := some 25, op := .ext (.s 21) 1 },
        { dst := some 3, op := .mov (.s 24) },
        { dst := some 4, op := .mov (.s 25) }])
      (.seq (.ops [{ dst := some 27, op := .call 15 [(.c (.slc 0 [] true))] },
        { dst := some 26, op := .mov (.s 27) },
        { dst := some 28, op := .ext (.s 26) 0 },
        { dst := some 29, op := .ext (.s 26) 1 },
        { dst := some 5, op := .mov (.s 28) },
        { dst := some 6, op := .mov (.s 29) }])
      (.seq (.ops [{ dst := some 31, op := .bslc 1 [(.c (.int .i64 1)), (.c (.int .i64 0))] },
        { dst := some 32, op := .call 15 [(.s 31)] },
        { dst := some 30, op := .mov (.s 32) },
        { dst := some 33, op := .ext (.s 30) 0 },
        { dst := some 34, op := .ext (.s 30) 1 },
        { dst := some 7, op := .mov (.s 33) },
        { dst := some 8, op := .mov (.s 34) }])
      (.seq (.seq (.ops [{ dst := some 35, op := .mov (.s 2) },
        { dst := some 36, op := .bin .neq (.s 35) (.c (.int .i64 0)) },
        { dst := some 37, op := .mov (.s 36) },
        { dst := some 38, op := .mov (.s 4), guard := some (37, false) },
        { dst := some 39, op := .bin .neq (.s 38) (.c (.int .i64 0)), guard := some (37, false) },
        { dst := some 40, op := .pick (.s 37) (.c (.bool true)) (.s 39) },
        { dst := some 41, op := .mov (.s 40) },
        { dst := some 42, op := .mov (.s 6), guard := some (41, false) },
        { dst := some 43, op := .bin .neq (.s 42) (.c (.int .i64 0)), guard := some (41, false) },
        { dst := some 44, op := .pick (.s 41) (.c (.bool true)) (.s 43) },
        { dst := some 45, op := .mov (.s 44) },
        { dst := some 46, op := .mov (.s 8), guard := some (45, false) },
        { dst := some 47, op := .bin .neq (.s 46) (.c (.int .i64 340)), guard := some (45, false) },
        { dst := some 48, op := .pick (.s 45) (.c (.bool true)) (.s 47) },
        { dst := some 49, op := .mov (.s 48) },
        { dst := some 50, op := .mov (.s 5), guard := some (49, false) },
        { dst := some 51, op := .len false (.s 50), guard := some (49, false) },
        { dst := some 52, op := .bin .neq (.s 51) (.c (.int .i64 0)), guard := some (49, false) },
        { dst := some 53, op := .pick (.s 49) (.c (.bool true)) (.s 52) },
        { dst := some 54, op := .mov (.s 53) },
        { dst := some 55, op := .mov (.s 1), guard := some (54, false) },
        { dst := some 56, op := .call 20 [(.c (.int .i64 0)), (.c (.int .i64 1)), (.c (.int .i64 3))], guard := some (54, false) },
        { dst := some 57, op := .call 20 [(.c (.int .i64 0)), (.c (.int .i64 2)), (.c (.int .i64 2))], guard := some (54, false) },
        { dst := some 58, op := .bslc 3 [(.s 56), (.s 57)], guard := some (54, false) },
        { dst := some 59, op := .call 18 [(.s 55), (.s 58)], guard := some (54, false) },
        { dst := some 60, op := .un .not (.s 59), guard := some (54, false) },
        { dst := some 61, op := .pick (.s 54) (.c (.bool true)) (.s 60) },
        { dst := some 62, op := .mov (.s 61) },
        { dst := some 63, op := .mov (.s 3), guard := some (62, false) },
        { dst := some 64, op := .call 20 [(.c (.int .i64 1)), (.c (.int .i64 0)), (.c (.int .i64 1))], guard := some (62, false) },
        { dst := some 65, op := .call 20 [(.c (.int .i64 3)), (.c (.int .i64 0)), (.c (.int .i64 3))], guard := some (62, false) },
        { dst := some 66, op := .bslc 3 [(.s 64), (.s 65)], guard := some (62, false) },
        { dst := some 67, op := .call 18 [(.s 63), (.s 66)], guard := some (62, false) },
        { dst := some 68, op := .un .not (.s 67), guard := some (62, false) },
        { dst := some 69, op := .pick (.s 62) (.c (.bool true)) (.s 68) }])
      (.cond (.s 69)
        (.seq (.ops [{ dst := some 0, op := .mov (.c (.bool false)) }])
        (.ret))
        (.skip)))
      (.seq (.ops [{ dst := some 70, op := .call 20 [(.c (.int .i64 0)), (.c (.int .i64 1)), (.c (.int .i64 2))] },
        { dst := some 71, op := .bslc 3 [(.s 70)] },
        { dst := some 9, op := .mov (.s 71) }])
      (.seq (.ops [{ dst := some 73, op := .bslc 1 [(.c (.int .i64 (-5))), (.c (.int .i64 5))] },
        { dst := some 74, op := .mov (.s 9) },
        { dst := some 75, op := .call 10 [(.s 73), (.s 74)] },
        { dst := some 72, op := .mov (.s 75) },
        { dst := some 76, op := .ext (.s 72) 0 },
        { dst := some 77, op := .ext (.s 72) 1 },
        { dst := some 10, op := .mov (.s 76) },
        { dst := some 11, op := .mov (.s 77) }])
      (.seq (.ops [{ dst := some 79, op := .bslc 1 [(.c (.int .i64 0)), (.c (.int .i64 0))] },
        { dst := some 80, op := .call 20 [(.c (.int .i64 0)), (.c (.int .i64 0)), (.c (.int .i64 1))] },
        { dst := some 81, op := .bslc 3 [(.s 80)] },
        { dst := some 82, op := .call 10 [(.s 79), (.s 81)] },
        { dst := some 78, op := .mov (.s 82) },
        { dst := some 83, op := .ext (.s 78) 0 },
        { dst := some 84, op := .ext (.s 78) 1 },
        { dst := some 12, op := .mov (.s 83) },
        { dst := some 13, op := .mov (.s 84) }])
      (.seq (.ops [{ dst := some 86, op := .bslc 1 [(.c (.int .i64 0)), (.c (.int .i64 0))] },
        { dst := some 87, op := .call 20 [(.c (.int .i64 0)), (.c (.int .i64 1)), (.c (.int .i64 0))] },
        { dst := some 88, op := .bslc 3 [(.s 87)] },
        { dst := some 89, op := .call 10 [(.s 86), (.s 88)] },
        { dst := some 85, op := .mov (.s 89) },
        { dst := some 90, op := .ext (.s 85) 0 },
        { dst := some 91, op := .ext (.s 85) 1 },
        { dst := some 14, op := .mov (.s 90) },
        { dst := some 15, op := .mov (.s 91) }])
      (.seq (.seq (.ops [{ dst := some 92, op := .mov (.s 11) },
        { dst := some 93, op := .bin .neq (.s 92) (.c (.int .i64 0)) },
        { dst := some 94, op := .mov (.s 93) },
        { dst := some 95, op := .mov (.s 13), guard := some (94, false) },
        { dst := some 96, op := .bin .neq (.s 95) (.c (.int .i64 310)), guard := some (94, false) },
        { dst := some 97, op := .pick (.s 94) (.c (.bool true)) (.s 96) },
        { dst := some 98, op := .mov (.s 97) },
        { dst := some 99, op := .mov (.s 15), guard := some (98, false) },
        { dst := some 100, op := .bin .neq (.s 99) (.c (.int .i64 1)), guard := some (98, false) },
        { dst := some 101, op := .pick (.s 98) (.c (.bool true)) (.s 100) },
        { dst := some 102, op := .mov (.s 101) },
        { dst := some 103, op := .mov (.s 10), guard := some (102, false) },
        { dst := some 104, op := .bslc 1 [(.c (.int .i64 (-3))), (.c (.int .i64 3))], guard := some (102, false) },
        { dst := some 105, op := .call 12 [(.s 103), (.s 104)], guard := some (102, false) },
        { dst := some 106, op := .un .not (.s 105), guard := some (102, false) },
        { dst := some 107, op := .pick (.s 102) (.c (.bool true)) (.s 106) }])
      (.cond (.s 107)
        (.seq (.ops [{ dst := some 0, op := .mov (.c (.bool false)) }])
        (.ret))
        (.skip)))
      (.seq (.seq (.ops [{ dst := some 108, op := .bslc 1 [(.c (.int .i64 0)), (.c (.int .i64 0))] },
        { dst := some 109, op := .call 20 [(.c (.int .i64 0)), (.c (.int .i64 1)), (.c (.int .i64 1))] },
        { dst := some 110, op := .call 20 [(.c (.int .i64 1)), (.c (.int .i64 1)), (.c (.int .i64 1))] },
        { dst := some 111, op := .bslc 3 [(.s 109), (.s 110)] },
        { dst := some 112, op := .call 13 [(.s 108), (.s 111)] },
        { dst := some 113, op := .bin .neq (.s 112) (.c (.int .i64 310)) },
        { dst := some 114, op := .mov (.s 113) },
        { dst := some 115, op := .bslc 1 [(.c (.int .i64 (-1))), (.c (.int .i64 1)), (.c (.int .i64 0))], guard := some (114, false) },
        { dst := some 116, op := .call 20 [(.c (.int .i64 0)), (.c (.int .i64 2)), (.c (.int .i64 1))], guard := some (114, false) },
        { dst := some 117, op := .call 20 [(.c (.int .i64 2)), (.c (.int .i64 1)), (.c (.int .i64 1))], guard := some (114, false) },
        { dst := some 118, op := .bslc 3 [(.s 116), (.s 117)], guard := some (114, false) },
        { dst := some 119, op := .call 13 [(.s 115), (.s 118)], guard := some (114, false) },
        { dst := some 120, op := .bin .neq (.s 119) (.c (.int .i64 340)), guard := some (114, false) },
        { dst := some 121, op := .pick (.s 114) (.c (.bool true)) (.s 120) }])
      (.cond (.s 121)
        (.seq (.ops [{ dst := some 0, op := .mov (.c (.bool false)) }])
        (.ret))
        (.skip)))
      (.seq (.ops [{ dst := some 122, op := .bslc 1 [(.c (.int .i64 (-5))), (.c (.int .i64 5))] },
        { dst := some 123, op := .mov (.s 9) },
        { dst := some 124, op := .call 13 [(.s 122), (.s 123)] },
        { dst := some 125, op := .bin .eql (.s 124) (.c (.int .i64 340)) },
        { dst := some 126, op := .mov (.s 125) },
        { dst := some 127, op := .bslc 1 [(.c (.int .i64 (-5))), (.c (.int .i64 5))], guard := some (126, true) },
        { dst := some 128, op := .call 20 [(.c (.int .i64 0)), (.c (.int .i64 1)), (.c (.int .i64 5))], guard := some (126, true) },
        { dst := some 129, op := .bslc 3 [(.s 128)], guard := some (126, true) },
        { dst := some 130, op := .call 13 [(.s 127), (.s 129)], guard := some (126, true) },
        { dst := some 131, op := .bin .eql (.s 130) (.c (.int .i64 0)), guard := some (126, true) },
        { dst := some 132, op := .pick (.s 126) (.s 131) (.c (.bool false)) },
        { dst := some 0, op := .mov (.s 132) }])
      (.ret))))))))))))))
    [.tmp 0]
theorem tr_wagonpoollaw34_sane : trF Try.prog [22, 33, 2000040, 30, 31, 38, 39, 2000038, 2000039] 9 [] = some F_wagonpoollaw34_sane := by kernel_rfl

/-! wagonpool/netting.Settle -/
def F_netting_Settle_L0 : PC :=
  .seq (.ops [{ dst := some 26, op := .bin .lss (.s 25) (.s 24) }])
    (.seq (.cond (.s 26)
      (.skip)
      (.exit 0))
    (.seq (.block 1 (.seq (.ops [{ dst := some 27, op := .idxS 3 (.s 23) (.s 25) },
        { dst := some 28, op := .load 3 true (.s 27) },
        { dst := some 10, op := .box (.c (.agg [(.int .i64 0), (.int .i64 0), (.int .i64 0)])) },
        { dst := none, op := .stor 3 (.s 10) (.s 28) }])
      (.seq (.seq (.ops [{ dst := some 29, op := .mov (.s 8) },
        { dst := some 30, op := .fld 0 (.s 10) },
        { dst := some 31, op := .load 1 false (.s 30) },
        { dst := some 32, op := .callv (.s 29) [(.s 31)] },
        { dst := some 33, op := .un .not (.s 32) },
        { dst := some 34, op := .mov (.s 33) },
        { dst := some 35, op := .mov (.s 8), guard := some (34, false) },
        { dst := some 36, op := .fld 1 (.s 10), guard := some (34, false) },
        { dst := some 37, op := .load 1 false (.s 36), guard := some (34, false) },
        { dst := some 38, op := .callv (.s 35) [(.s 37)], guard := some (34, false) },
        { dst := some 39, op := .un .not (.s 38), guard := some (34, false) },
        { dst := some 40, op := .pick (.s 34) (.c (.bool true)) (.s 39) },
        { dst := some 41, op := .mov (.s 40) },
        { dst := some 42, op := .fld 0 (.s 10), guard := some (41, false) },
        { dst := some 43, op := .load 1 false (.s 42), guard := some (41, false) },
        { dst := some 44, op := .fld 1 (.s 10), guard := some (41, false) },
        { dst := some 45, op := .load 1 false (.s 44), guard := some (41, false) },
        { dst := some 46, op := .bin .eql (.s 43) (.s 45), guard := some (41, false) },
        { dst := some 47, op := .pick (.s 41) (.c (.bool true)) (.s 46) }])
      (.cond (.s 47)
        (.seq (.ops [{ dst := some 4, op := .mov (.c (.slc 0 [] true)) },
          { dst := some 5, op := .mov (.c (.int .i64 310)) }])
        (.ret))
        (.skip)))
      (.seq (.seq (.ops [{ dst := some 48, op := .fld 2 (.s 10) },
        { dst := some 49, op := .load 1 false (.s 48) },
        { dst := some 50, op := .bin .lss (.s 49) (.c (.int .i64 1)) },
        { dst := some 51, op := .mov (.s 50) },
        { dst := some 52, op := .fld 2 (.s 10), guard := some (51, false) },
        { dst := some 53, op := .load 1 false (.s 52), guard := some (51, false) },
        { dst := some 54, op := .bin .gtr (.s 53) (.c (.int .i64 9007199254740992)), guard := some (51, false) },
        { dst := some 55, op := .pick (.s 51) (.c (.bool true)) (.s 54) }])
      (.cond (.s 55)
        (.seq (.ops [{ dst := some 4, op := .mov (.c (.slc 0 [] true)) },
          { dst := some 5, op := .mov (.c (.int .i64 1)) }])
        (.ret))
        (.skip)))
      (.seq (.ops [{ dst := some 57, op := .load 1 false (.s 7) },
        { dst := some 58, op := .fld 0 (.s 10) },
        { dst := some 59, op := .load 1 false (.s 58) },
        { dst := some 60, op := .idxS 1 (.s 57) (.s 59) },
        { dst := some 61, op := .load 1 false (.s 60) },
        { dst := some 62, op := .fld 2 (.s 10) },
        { dst := some 63, op := .load 1 false (.s 62) },
        { dst := some 64, op := .call 24 [(.s 61), (.s 63)] },
        { dst := some 56, op := .mov (.s 64) },
        { dst := some 65, op := .ext (.s 56) 0 },
        { dst := some 66, op := .ext (.s 56) 1 },
        { dst := some 11, op := .mov (.s 65) },
        { dst := some 12, op := .mov (.s 66) }])
      (.seq (.ops [{ dst := some 68, op := .load 1 false (.s 7) },
        { dst := some 69, op := .fld 1 (.s 10) },
        { dst := some 70, op := .load 1 false (.s 69) },
        { dst := some 71, op := .idxS 1 (.s 68) (.s 70) },
        { dst := some 72, op := .load 1 false (.s 71) },
        { dst := some 73, op := .fld 2 (.s 10) },
        { dst := some 74, op := .load 1 false (.s 73) },
        { dst := some 75, op := .call 25 [(.s 72), (.s 74)] },
        { dst := some 67, op := .mov (.s 75) },
        { dst := some 76, op := .ext (.s 67) 0 },
        { dst := some 77, op := .ext (.s 67) 1 },
        { dst := some 13, op := .mov (.s 76) },
        { dst := some 14, op := .mov (.s 77) }])
      (.seq (.seq (.ops [{ dst := some 78, op := .mov (.s 12) },
        { dst := some 79, op := .bin .neq (.s 78) (.c (.int .i64 0)) },
        { dst := some 80, op := .mov (.s 79) },
        { dst := some 81, op := .mov (.s 14), guard := some (80, false) },
        { dst := some 82, op := .bin .neq (.s 81) (.c (.int .i64 0)), guard := some (80, false) },
        { dst := some 83, op := .pick (.s 80) (.c (.bool true)) (.s 82) }])
      (.cond (.s 83)
        (.seq (.ops [{ dst := some 4, op := .mov (.c (.slc 0 [] true)) },
          { dst := some 5, op := .mov (.c (.int .i64 3)) }])
        (.ret))
        (.skip)))
      (.any [({ dst := some 84, op := .load 1 false (.s 7) }, false, []),
        ({ dst := some 85, op := .fld 0 (.s 10) }, false, []),
        ({ dst := some 86, op := .load 1 false (.s 85) }, false, []),
        ({ dst := some 87, op := .load 1 false (.s 7) }, true, []),
        ({ dst := some 88, op := .fld 1 (.s 10) }, true, []),
        ({ dst := some 89, op := .load 1 false (.s 88) }, true, []),
        ({ dst := some 90, op := .mov (.s 11) }, false, []),
        ({ dst := some 91, op := .mov (.s 13) }, false, []),
        ({ dst := some 92, op := .idxS 1 (.s 84) (.s 86) }, false, []),
        ({ dst := none, op := .stor 1 (.s 92) (.s 90) }, false, [3, 4, 5]),
        ({ dst := some 93, op := .idxS 1 (.s 87) (.s 89) }, false, []),
        ({ dst := none, op := .stor 1 (.s 93) (.s 91) }, false, [])]))))))))
    (.ops [{ dst := some 94, op := .bin .add (.s 25) (.c (.int .i64 1)) },
      { dst := some 25, op := .mov (.s 94) }])))

def F_netting_Settle : PF :=
  .mk
    (.seq (.ops [{ dst := some 4, op := .mov (.c (.slc 0 [] true)) },
        { dst := some 5, op := .mov (.c (.int .i64 0)) }])
      (.seq (.seq (.ops [{ dst := some 15, op := .mov (.s 0) },
        { dst := some 16, op := .call 21 [(.s 15)] },
        { dst := some 6, op := .mov (.s 16) }])
      (.seq (.ops [{ dst := some 17, op := .mov (.s 6) },
        { dst := some 18, op := .bin .neq (.s 17) (.c (.int .i64 0)) }])
      (.cond (.s 18)
        (.seq (.ops [{ dst := some 19, op := .mov (.s 6) },
          { dst := some 4, op := .mov (.c (.slc 0 [] true)) },
          { dst := some 5, op := .mov (.s 19) }])
        (.ret))
        (.skip))))
      (.seq (.ops [{ dst := some 20, op := .mov (.s 0) },
        { dst := some 21, op := .icall 22 [(.s 20)] },
        { dst := some 7, op := .box (.c (.slc 0 [] true)) },
        { dst := none, op := .stor 1 (.s 7) (.s 21) }])
      (.seq (.ops [{ dst := some 22, op := .mkclo 23 [(.s 7)] },
        { dst := some 8, op := .mov (.s 22) }])
      (.seq (.seq (.ops [{ dst := some 23, op := .mov (.s 1) },
        { dst := some 24, op := .len false (.s 23) },
        { dst := some 25, op := .mov (.c (.int .i64 0)) }])
      (.block 0 (.loop [7, 8, 23, 24, 25] F_netting_Settle_L0)))
      (.seq (.ops [{ dst := some 95, op := .load 1 false (.s 7) },
        { dst := some 4, op := .mov (.s 95) },
        { dst := some 5, op := .mov (.c (.int .i64 0)) }])
      (.ret)))))))
    [.tmp 4, .tmp 5]
theorem tr_netting_Settle : trF Try.prog [22, 33, 2000040, 30, 31, 38, 39, 2000038, 2000039] 10 [[7, 8, 23, 24, 25]] = some F_netting_Settle := by kernel_rfl

/-! wagonpool/money.Sum -/
def F_money_Sum_L0 : PC :=
  .seq (.ops [{ dst := some 13, op := .bin .lss (.s 12) (.s 11) }])
    (.seq (.cond (.s 13)
      (.skip)
      (.exit 0))
    (.seq (.block 1 (.seq (.ops [{ dst := some 14, op := .idxS 1 (.s 10) (.s 12) },
        { dst := some 15, op := .load 1 false (.s 14) },
        { dst := some 7, op := .mov (.s 15) }])
      (.seq (.seq (.ops [{ dst := some 16, op := .mov (.s 7) },
        { dst := some 17, op := .bslc 1 [(.s 16)] },
        { dst := some 18, op := .call 26 [(.s 17)] },
        { dst := some 19, op := .un .not (.s 18) }])
      (.cond (.s 19)
        (.seq (.ops [{ dst := some 2, op := .mov (.c (.int .i64 0)) },
          { dst := some 3, op := .mov (.c (.int .i64 3)) }])
        (.ret))
        (.skip)))
      (.seq (.ops [{ dst := some 8, op := .mov (.c (.int .u64 0)) }])
      (.seq (.ops [{ dst := some 21, op := .mov (.s 5) },
        { dst := some 22, op := .mov (.s 7) },
        { dst := some 23, op := .conv (.int .u64) (.s 22) },
        { dst := some 24, op := .call 50000027 [(.s 21), (.s 23), (.c (.int .u64 0))] },
        { dst := some 20, op := .mov (.s 24) },
        { dst := some 25, op := .ext (.s 20) 0 },
        { dst := some 26, op := .ext (.s 20) 1 },
        { dst := some 5, op := .mov (.s 25) },
        { dst := some 8, op := .mov (.s 26) }])
      (.ops [{ dst := some 27, op := .mov (.s 4) },
        { dst := some 28, op := .mov (.s 8) },
        { dst := some 29, op := .mov (.s 7) },
        { dst := some 30, op := .bin .shr (.s 29) (.c (.int .u64 63)) },
        { dst := some 31, op := .conv (.int .u64) (.s 30) },
        { dst := some 32, op := .bin .add (.s 28) (.s 31) },
        { dst := some 33, op := .bin .add (.s 27) (.s 32) },
        { dst := some 4, op := .mov (.s 33) }]))))))
    (.ops [{ dst := some 34, op := .bin .add (.s 12) (.c (.int .i64 1)) },
      { dst := some 12, op := .mov (.s 34) }])))

def F_money_Sum : PF :=
  .mk
    (.seq (.ops [{ dst := some 2, op := .mov (.c (.int .i64 0)) },
        { dst := some 3, op := .mov (.c (.int .i64 0)) }])
      (.seq (.ops [{ dst := some 4, op := .mov (.c (.int .u64 0)) },
        { dst := some 5, op := .mov (.c (.int .u64 0)) }])
      (.seq (.seq (.ops [{ dst := some 10, op := .mov (.s 0) },
        { dst := some 11, op := .len false (.s 10) },
        { dst := some 12, op := .mov (.c (.int .i64 0)) }])
      (.block 0 (.loop [4, 5, 10, 11, 12] F_money_Sum_L0)))
      (.seq (.ops [{ dst := some 35, op := .mov (.s 5) },
        { dst := some 36, op := .conv (.int .i64) (.s 35) },
        { dst := some 9, op := .mov (.s 36) }])
      (.seq (.seq (.ops [{ dst := some 37, op := .mov (.s 4) },
        { dst := some 38, op := .mov (.s 9) },
        { dst := some 39, op := .bin .shr (.s 38) (.c (.int .u64 63)) },
        { dst := some 40, op := .conv (.int .u64) (.s 39) },
        { dst := some 41, op := .bin .neq (.s 37) (.s 40) }])
      (.cond (.s 41)
        (.seq (.ops [{ dst := some 2, op := .mov (.c (.int .i64 0)) },
          { dst := some 3, op := .mov (.c (.int .i64 3)) }])
        (.ret))
        (.skip)))
      (.seq (.ops [{ dst := some 42, op := .mov (.s 9) },
        { dst := some 43, op := .call 28 [(.s 42)] },
        { dst := some 44, op := .ext (.s 43) 0 },
        { dst := some 45, op := .ext (.s 43) 1 },
        { dst := some 2, op := .mov (.s 44) },
        { dst := some 3, op := .mov (.s 45) }])
      (.ret)))))))
    [.tmp 2, .tmp 3]
theorem tr_money_Sum : trF Try.prog [22, 33, 2000040, 30, 31, 38, 39, 2000038, 2000039] 11 [[4, 5, 10, 11, 12]] = some F_money_Sum := by kernel_rfl

/-! wagonpool/wagonpoolref07.Same -/
def F_wagonpoolref07_Same_L0 : PC :=
  .seq (.seq (.ops [{ dst := some 11, op := .mov (.s 5) },
      { dst := some 12, op := .mov (.s 0) },
      { dst := some 13, op := .len false (.s 12) },
      { dst := some 14, op := .bin .lss (.s 11) (.s 13) }])
    (.cond (.s 14)
      (.skip)
      (.exit 0)))
    (.seq (.block 1 (.seq (.ops [{ dst := some 17, op := .mov (.s 0) },
        { dst := some 18, op := .mov (.s 5) },
        { dst := some 19, op := .idxS 1 (.s 17) (.s 18) },
        { dst := some 20, op := .load 1 false (.s 19) },
        { dst := some 21, op := .mov (.s 1) },
        { dst := some 22, op := .mov (.s 5) },
        { dst := some 23, op := .idxS 1 (.s 21) (.s 22) },
        { dst := some 24, op := .load 1 false (.s 23) },
        { dst := some 25, op := .bin .neq (.s 20) (.s 24) }])
      (.cond (.s 25)
        (.seq (.ops [{ dst := some 4, op := .mov (.c (.bool false)) }])
        (.ret))
        (.skip))))
    (.ops [{ dst := some 15, op := .mov (.s 5) },
      { dst := some 16, op := .bin .add (.s 15) (.c (.int .i64 1)) },
      { dst := some 5, op := .mov (.s 16) }]))

def F_wagonpoolref07_Same : PF :=
  .mk
    (.seq (.ops [{ dst := some 4, op := .mov (.c (.bool false)) }])
      (.seq (.seq (.ops [{ dst := some 6, op := .mov (.s 0) },
        { dst := some 7, op := .len false (.s 6) },
        { dst := some 8, op := .mov (.s 1) },
        { dst := some 9, op := .len false (.s 8) },
        { dst := some 10, op := .bin .neq (.s 7) (.s 9) }])
      (.cond (.s 10)
        (.seq (.ops [{ dst := some 4, op := .mov (.c (.bool false)) }])
        (.ret))
        (.skip)))
      (.seq (.seq (.ops [{ dst := some 5, op := .mov (.c (.int .i64 0)) }])
      (.block 0 (.loop [0, 1, 5] F_wagonpoolref07_Same_L0)))
      (.seq (.ops [{ dst := some 4, op := .mov (.c (.bool true)) }])
      (.ret)))))
    [.tmp 4]
theorem tr_wagonpoolref07_Same : trF Try.prog [22, 33, 2000040, 30, 31, 38, 39, 2000038, 2000039] 12 [[0, 1, 5]] = some F_wagonpoolref07_Same := by kernel_rfl

/-! wagonpool/netting.Check -/
def F_netting_Check : PF :=
  .mk
    (.seq (.ops [{ dst := some 2, op := .box (.s 0) },
        { dst := some 4, op := .mov (.c (.int .i64 0)) }])
      (.seq (.ops [{ dst := some 9, op := .load 1 false (.s 2) },
        { dst := some 10, op := .mov (.s 1) },
        { dst := some 11, op := .call 10 [(.s 9), (.s 10)] },
        { dst := some 8, op := .mov (.s 11) },
        { dst := some 12, op := .ext (.s 8) 0 },
        { dst := some 13, op := .ext (.s 8) 1 },
        { dst := some 5, op := .mov (.s 12) },
        { dst := some 6, op := .mov (.s 13) }])
      (.seq (.seq (.ops [{ dst := some 14, op := .mov (.s 6) },
        { dst := some 15, op := .bin .neq (.s 14) (.c (.int .i64 0)) }])
      (.cond (.s 15)
        (.seq (.ops [{ dst := some 16, op := .mov (.s 6) },
          { dst := some 4, op := .mov (.s 16) }])
        (.ret))
        (.skip)))
      (.seq (.ops [{ dst := some 17, op := .mkclo 29 [(.s 2)] },
        { dst := some 7, op := .mov (.s 17) }])
      (.seq (.seq (.ops [{ dst := some 18, op := .mov (.s 1) },
        { dst := some 19, op := .mov (.s 7) },
        { dst := some 20, op := .icall 30 [(.s 18), (.s 19)] },
        { dst := some 21, op := .mov (.s 20) },
        { dst := some 22, op := .mov (.s 5), guard := some (21, false) },
        { dst := some 23, op := .icall 31 [(.s 22), (.c (.clo 32 []))], guard := some (21, false) },
        { dst := some 24, op := .pick (.s 21) (.c (.bool true)) (.s 23) }])
      (.cond (.s 24)
        (.seq (.ops [{ dst := some 4, op := .mov (.c (.int .i64 340)) }])
        (.ret))
        (.skip)))
      (.seq (.ops [{ dst := some 4, op := .mov (.c (.int .i64 0)) }])
      (.ret)))))))
    [.tmp 4]
theorem tr_netting_Check : trF Try.prog [22, 33, 2000040, 30, 31, 38, 39, 2000038, 2000039] 13 [] = some F_netting_Check := by kernel_rfl

/-! wagonpool/wagonpoolref07.In -/
def F_wagonpoolref07_In : PF :=
  .mk
    (.seq (.ops [{ dst := some 2, op := .mov (.c (.bool false)) }])
      (.seq (.ops [{ dst := some 3, op := .mov (.s 0) },
        { dst := some 4, op := .bin .geq (.s 3) (.c (.int .i64 (-9007199254740992))) },
        { dst := some 5, op := .mov (.s 4) },
        { dst := some 6, op := .mov (.s 0), guard := some (5, true) },
        { dst := some 7, op := .bin .leq (.s 6) (.c (.int .i64 9007199254740992)), guard := some (5, true) },
        { dst := some 8, op := .pick (.s 5) (.s 7) (.c (.bool false)) },
        { dst := some 2, op := .mov (.s 8) }])
      (.ret)))
    [.tmp 2]
theorem tr_wagonpoolref07_In : trF Try.prog [22, 33, 2000040, 30, 31, 38, 39, 2000038, 2000039] 14 [] = some F_wagonpoolref07_In := by kernel_rfl

/-! wagonpool/netting.Net -/
def F_netting_Net_L0 : PC :=
  .ops [{ dst := some 7, op := .box (.c (.agg [(.int .i64 0), (.int .i64 0), (.int .i64 0)])) },
      { dst := none, op := .stor 3 (.s 7) (.s 26) }]

def F_netting_Net_L1 : PC :=
  .block 1 (.ops [{ dst := some 27, op := .load 1 false (.s 2) },
        { dst := some 28, op := .load 3 true (.s 7) },
        { dst := some 29, op := .bslc 3 [(.s 28)] },
        { dst := some 30, op := .app 3 24 (.s 27) (.s 29) },
        { dst := none, op := .stor 1 (.s 2) (.s 30) }])

def F_netting_Net : PF :=
  .mk
    (.seq (.ops [{ dst := some 2, op := .box (.c (.slc 0 [] true)) },
        { dst := some 3, op := .mov (.c (.int .i64 0)) }])
      (.seq (.seq (.ops [{ dst := some 8, op := .mov (.s 0) },
        { dst := some 9, op := .call 21 [(.s 8)] },
        { dst := some 4, op := .mov (.s 9) }])
      (.seq (.ops [{ dst := some 10, op := .mov (.s 4) },
        { dst := some 11, op := .bin .neq (.s 10) (.c (.int .i64 0)) }])
      (.cond (.s 11)
        (.seq (.ops [{ dst := some 12, op := .mov (.s 4) },
          { dst := none, op := .stor 1 (.s 2) (.c (.slc 0 [] true)) },
          { dst := some 3, op := .mov (.s 12) }])
        (.ret))
        (.skip))))
      (.seq (.seq (.ops [{ dst := some 14, op := .mov (.s 0) },
        { dst := some 15, op := .call 11 [(.s 14)] },
        { dst := some 13, op := .mov (.s 15) },
        { dst := some 16, op := .ext (.s 13) 0 },
        { dst := some 17, op := .ext (.s 13) 1 },
        { dst := some 5, op := .mov (.s 16) },
        { dst := some 6, op := .mov (.s 17) }])
      (.seq (.ops [{ dst := some 18, op := .mov (.s 6) },
        { dst := some 19, op := .bin .neq (.s 18) (.c (.int .i64 0)) },
        { dst := some 20, op := .mov (.s 19) },
        { dst := some 21, op := .mov (.s 5), guard := some (20, false) },
        { dst := some 22, op := .bin .neq (.s 21) (.c (.int .i64 0)), guard := some (20, false) },
        { dst := some 23, op := .pick (.s 20) (.c (.bool true)) (.s 22) }])
      (.cond (.s 23)
        (.seq (.ops [{ dst := none, op := .stor 1 (.s 2) (.c (.slc 0 [] true)) },
          { dst := some 3, op := .mov (.c (.int .i64 340)) }])
        (.ret))
        (.skip))))
      (.seq (.seq (.ops [{ dst := some 24, op := .mov (.s 0) },
        { dst := some 25, op := .icall 33 [(.s 24)] }])
      (.block 0 (.range (.s 25) [26] F_netting_Net_L0 F_netting_Net_L1)))
      (.seq (.ops [{ dst := some 31, op := .load 1 false (.s 2) },
        { dst := none, op := .stor 1 (.s 2) (.s 31) },
        { dst := some 3, op := .mov (.c (.int .i64 0)) }])
      (.ret))))))
    [.cell 2 1 false, .tmp 3]
theorem tr_netting_Net : trF Try.prog [22, 33, 2000040, 30, 31, 38, 39, 2000038, 2000039] 15 [] = some F_netting_Net := by kernel_rfl

/-! wagonpool/wagonpoolref34.Net -/
def F_wagonpoolref34_Net_L0 : PC :=
  .seq (.seq (.ops [{ dst := some 36, op := .mov (.s 9) },
      { dst := some 37, op := .mov (.s 7) },
      { dst := some 38, op := .len false (.s 37) },
      { dst := some 39, op := .bin .lss (.s 36) (.s 38) },
      { dst := some 40, op := .mov (.s 39) },
      { dst := some 41, op := .mov (.s 10), guard := some (40, true) },
      { dst := some 42, op := .mov (.s 7), guard := some (40, true) },
      { dst := some 43, op := .len false (.s 42), guard := some (40, true) },
      { dst := some 44, op := .bin .lss (.s 41) (.s 43), guard := some (40, true) },
      { dst := some 45, op := .pick (.s 40) (.s 44) (.c (.bool false)) }])
    (.cond (.s 45)
      (.skip)
      (.exit 0)))
    (.block 1 (.seq (.ops [{ dst := some 46, op := .mov (.s 7) },
        { dst := some 47, op := .mov (.s 9) },
        { dst := some 48, op := .idxS 1 (.s 46) (.s 47) },
        { dst := some 49, op := .load 1 false (.s 48) },
        { dst := some 50, op := .un .neg (.s 49) },
        { dst := some 51, op := .mov (.s 7) },
        { dst := some 52, op := .mov (.s 10) },
        { dst := some 53, op := .idxS 1 (.s 51) (.s 52) },
        { dst := some 54, op := .load 1 false (.s 53) },
        { dst := some 55, op := .mm false (.s 50) (.s 54) },
        { dst := some 11, op := .mov (.s 55) }])
      (.seq (.ops [{ dst := some 56, op := .mov (.s 8) },
        { dst := some 57, op := .mov (.s 9) },
        { dst := some 58, op := .mov (.s 10) },
        { dst := some 59, op := .mov (.s 11) },
        { dst := some 60, op := .bld [(.int .i64 0), (.int .i64 0), (.int .i64 0)] [(0, 1, (.s 57)), (1, 1, (.s 58)), (2, 1, (.s 59))] },
        { dst := some 61, op := .bslc 3 [(.s 60)] },
        { dst := some 62, op := .app 3 24 (.s 56) (.s 61) },
        { dst := some 8, op := .mov (.s 62) }])
      (.seq (.ops [{ dst := some 63, op := .mov (.s 7) },
        { dst := some 64, op := .mov (.s 9) },
        { dst := some 65, op := .mov (.s 7) },
        { dst := some 66, op := .mov (.s 9) },
        { dst := some 67, op := .idxS 1 (.s 65) (.s 66) },
        { dst := some 68, op := .load 1 false (.s 67) },
        { dst := some 69, op := .mov (.s 11) },
        { dst := some 70, op := .bin .add (.s 68) (.s 69) },
        { dst := some 71, op := .idxS 1 (.s 63) (.s 64) },
        { dst := none, op := .stor 1 (.s 71) (.s 70) }])
      (.seq (.ops [{ dst := some 72, op := .mov (.s 7) },
        { dst := some 73, op := .mov (.s 10) },
        { dst := some 74, op := .mov (.s 7) },
        { dst := some 75, op := .mov (.s 10) },
        { dst := some 76, op := .idxS 1 (.s 74) (.s 75) },
        { dst := some 77, op := .load 1 false (.s 76) },
        { dst := some 78, op := .mov (.s 11) },
        { dst := some 79, op := .bin .sub (.s 77) (.s 78) },
        { dst := some 80, op := .idxS 1 (.s 72) (.s 73) },
        { dst := none, op := .stor 1 (.s 80) (.s 79) }])
      (.seq (.ops [{ dst := some 81, op := .mov (.s 7) },
        { dst := some 82, op := .mov (.s 9) },
        { dst := some 83, op := .call 36 [(.s 81), (.s 82), (.c (.int .i64 (-1)))] },
        { dst := some 9, op := .mov (.s 83) }])
      (.ops [{ dst := some 84, op := .mov (.s 7) },
        { dst := some 85, op := .mov (.s 10) },
        { dst := some 86, op := .call 36 [(.s 84), (.s 85), (.c (.int .i64 1))] },
        { dst := some 10, op := .mov (.s 86) }])))))))

def F_wagonpoolref34_Net : PF :=
  .mk
    (.seq (.ops [{ dst := some 2, op := .mov (.c (.slc 0 [] true)) },
        { dst := some 3, op := .mov (.c (.int .i64 0)) }])
      (.seq (.ops [{ dst := some 12, op := .mov (.s 0) },
        { dst := some 13, op := .call 34 [(.s 12)] },
        { dst := some 4, op := .mov (.s 13) }])
      (.seq (.seq (.ops [{ dst := some 14, op := .mov (.s 4) },
        { dst := some 15, op := .bin .neq (.s 14) (.c (.int .i64 0)) }])
      (.cond (.s 15)
        (.seq (.ops [{ dst := some 16, op := .mov (.s 4) },
          { dst := some 2, op := .mov (.c (.slc 0 [] true)) },
          { dst := some 3, op := .mov (.s 16) }])
        (.ret))
        (.skip)))
      (.seq (.ops [{ dst := some 18, op := .mov (.s 0) },
        { dst := some 19, op := .call 35 [(.s 18)] },
        { dst := some 17, op := .mov (.s 19) },
        { dst := some 20, op := .ext (.s 17) 0 },
        { dst := some 21, op := .ext (.s 17) 1 },
        { dst := some 5, op := .mov (.s 20) },
        { dst := some 6, op := .mov (.s 21) }])
      (.seq (.seq (.ops [{ dst := some 22, op := .mov (.s 6) },
        { dst := some 23, op := .bin .neq (.s 22) (.c (.int .i64 0)) },
        { dst := some 24, op := .mov (.s 23) },
        { dst := some 25, op := .mov (.s 5), guard := some (24, false) },
        { dst := some 26, op := .bin .neq (.s 25) (.c (.int .i64 0)), guard := some (24, false) },
        { dst := some 27, op := .pick (.s 24) (.c (.bool true)) (.s 26) }])
      (.cond (.s 27)
        (.seq (.ops [{ dst := some 2, op := .mov (.c (.slc 0 [] true)) },
          { dst := some 3, op := .mov (.c (.int .i64 340)) }])
        (.ret))
        (.skip)))
      (.seq (.ops [{ dst := some 28, op := .bslc 1 [] },
        { dst := some 29, op := .mov (.s 0) },
        { dst := some 30, op := .app 1 8 (.s 28) (.s 29) },
        { dst := some 7, op := .mov (.s 30) }])
      (.seq (.ops [{ dst := some 31, op := .bslc 3 [] },
        { dst := some 8, op := .mov (.s 31) }])
      (.seq (.ops [{ dst := some 32, op := .mov (.s 7) },
        { dst := some 33, op := .call 36 [(.s 32), (.c (.int .i64 0)), (.c (.int .i64 (-1)))] },
        { dst := some 9, op := .mov (.s 33) }])
      (.seq (.ops [{ dst := some 34, op := .mov (.s 7) },
        { dst := some 35, op := .call 36 [(.s 34), (.c (.int .i64 0)), (.c (.int .i64 1))] },
        { dst := some 10, op := .mov (.s 35) }])
      (.seq (.block 0 (.loop [7, 8, 9, 10] F_wagonpoolref34_Net_L0))
      (.seq (.ops [{ dst := some 87, op := .mov (.s 8) },
        { dst := some 2, op := .mov (.s 87) },
        { dst := some 3, op := .mov (.c (.int .i64 0)) }])
      (.ret))))))))))))
    [.tmp 2, .tmp 3]
theorem tr_wagonpoolref34_Net : trF Try.prog [22, 33, 2000040, 30, 31, 38, 39, 2000038, 2000039] 16 [[7, 8, 9, 10]] = some F_wagonpoolref34_Net := by kernel_rfl

/-! wagonpool/wagonpoolref34.Settle -/
def F_wagonpoolref34_Settle_L0 : PC :=
  .seq (.seq (.ops [{ dst := some 18, op := .mov (.s 8) },
      { dst := some 19, op := .mov (.s 1) },
      { dst := some 20, op := .len false (.s 19) },
      { dst := some 21, op := .bin .lss (.s 18) (.s 20) }])
    (.cond (.s 21)
      (.skip)
      (.exit 0)))
    (.seq (.block 1 (.seq (.ops [{ dst := some 24, op := .mov (.s 1) },
        { dst := some 25, op := .mov (.s 8) },
        { dst := some 26, op := .idxS 3 (.s 24) (.s 25) },
        { dst := some 27, op := .load 3 true (.s 26) },
        { dst := some 9, op := .box (.c (.agg [(.int .i64 0), (.int .i64 0), (.int .i64 0)])) },
        { dst := none, op := .stor 3 (.s 9) (.s 27) }])
      (.seq (.seq (.ops [{ dst := some 28, op := .fld 0 (.s 9) },
        { dst := some 29, op := .load 1 false (.s 28) },
        { dst := some 30, op := .bin .lss (.s 29) (.c (.int .i64 0)) },
        { dst := some 31, op := .mov (.s 30) },
        { dst := some 32, op := .fld 0 (.s 9), guard := some (31, false) },
        { dst := some 33, op := .load 1 false (.s 32), guard := some (31, false) },
        { dst := some 34, op := .mov (.s 0), guard := some (31, false) },
        { dst := some 35, op := .len false (.s 34), guard := some (31, false) },
        { dst := some 36, op := .bin .geq (.s 33) (.s 35), guard := some (31, false) },
        { dst := some 37, op := .pick (.s 31) (.c (.bool true)) (.s 36) },
        { dst := some 38, op := .mov (.s 37) },
        { dst := some 39, op := .fld 1 (.s 9), guard := some (38, false) },
        { dst := some 40, op := .load 1 false (.s 39), guard := some (38, false) },
        { dst := some 41, op := .bin .lss (.s 40) (.c (.int .i64 0)), guard := some (38, false) },
        { dst := some 42, op := .pick (.s 38) (.c (.bool true)) (.s 41) },
        { dst := some 43, op := .mov (.s 42) },
        { dst := some 44, op := .fld 1 (.s 9), guard := some (43, false) },
        { dst := some 45, op := .load 1 false (.s 44), guard := some (43, false) },
        { dst := some 46, op := .mov (.s 0), guard := some (43, false) },
        { dst := some 47, op := .len false (.s 46), guard := some (43, false) },
        { dst := some 48, op := .bin .geq (.s 45) (.s 47), guard := some (43, false) },
        { dst := some 49, op := .pick (.s 43) (.c (.bool true)) (.s 48) },
        { dst := some 50, op := .mov (.s 49) },
        { dst := some 51, op := .fld 0 (.s 9), guard := some (50, false) },
        { dst := some 52, op := .load 1 false (.s 51), guard := some (50, false) },
        { dst := some 53, op := .fld 1 (.s 9), guard := some (50, false) },
        { dst := some 54, op := .load 1 false (.s 53), guard := some (50, false) },
        { dst := some 55, op := .bin .eql (.s 52) (.s 54), guard := some (50, false) },
        { dst := some 56, op := .pick (.s 50) (.c (.bool true)) (.s 55) }])
      (.cond (.s 56)
        (.seq (.ops [{ dst := some 4, op := .mov (.c (.slc 0 [] true)) },
          { dst := some 5, op := .mov (.c (.int .i64 310)) }])
        (.ret))
        (.skip)))
      (.seq (.seq (.ops [{ dst := some 57, op := .fld 2 (.s 9) },
        { dst := some 58, op := .load 1 false (.s 57) },
        { dst := some 59, op := .bin .lss (.s 58) (.c (.int .i64 1)) },
        { dst := some 60, op := .mov (.s 59) },
        { dst := some 61, op := .fld 2 (.s 9), guard := some (60, false) },
        { dst := some 62, op := .load 1 false (.s 61), guard := some (60, false) },
        { dst := some 63, op := .call 14 [(.s 62)], guard := some (60, false) },
        { dst := some 64, op := .un .not (.s 63), guard := some (60, false) },
        { dst := some 65, op := .pick (.s 60) (.c (.bool true)) (.s 64) }])
      (.cond (.s 65)
        (.seq (.ops [{ dst := some 4, op := .mov (.c (.slc 0 [] true)) },
          { dst := some 5, op := .mov (.c (.int .i64 1)) }])
        (.ret))
        (.skip)))
      (.seq (.ops [{ dst := some 66, op := .mov (.s 7) },
        { dst := some 67, op := .fld 0 (.s 9) },
        { dst := some 68, op := .load 1 false (.s 67) },
        { dst := some 69, op := .mov (.s 7) },
        { dst := some 70, op := .fld 0 (.s 9) },
        { dst := some 71, op := .load 1 false (.s 70) },
        { dst := some 72, op := .idxS 1 (.s 69) (.s 71) },
        { dst := some 73, op := .load 1 false (.s 72) },
        { dst := some 74, op := .fld 2 (.s 9) },
        { dst := some 75, op := .load 1 false (.s 74) },
        { dst := some 76, op := .bin .add (.s 73) (.s 75) },
        { dst := some 77, op := .idxS 1 (.s 66) (.s 68) },
        { dst := none, op := .stor 1 (.s 77) (.s 76) }])
      (.seq (.ops [{ dst := some 78, op := .mov (.s 7) },
        { dst := some 79, op := .fld 1 (.s 9) },
        { dst := some 80, op := .load 1 false (.s 79) },
        { dst := some 81, op := .mov (.s 7) },
        { dst := some 82, op := .fld 1 (.s 9) },
        { dst := some 83, op := .load 1 false (.s 82) },
        { dst := some 84, op := .idxS 1 (.s 81) (.s 83) },
        { dst := some 85, op := .load 1 false (.s 84) },
        { dst := some 86, op := .fld 2 (.s 9) },
        { dst := some 87, op := .load 1 false (.s 86) },
        { dst := some 88, op := .bin .sub (.s 85) (.s 87) },
        { dst := some 89, op := .idxS 1 (.s 78) (.s 80) },
        { dst := none, op := .stor 1 (.s 89) (.s 88) }])
      (.seq (.ops [{ dst := some 90, op := .mov (.s 7) },
        { dst := some 91, op := .fld 0 (.s 9) },
        { dst := some 92, op := .load 1 false (.s 91) },
        { dst := some 93, op := .idxS 1 (.s 90) (.s 92) },
        { dst := some 94, op := .load 1 false (.s 93) },
        { dst := some 95, op := .call 14 [(.s 94)] },
        { dst := some 96, op := .un .not (.s 95) },
        { dst := some 97, op := .mov (.s 96) },
        { dst := some 98, op := .mov (.s 7), guard := some (97, false) },
        { dst := some 99, op := .fld 1 (.s 9), guard := some (97, false) },
        { dst := some 100, op := .load 1 false (.s 99), guard := some (97, false) },
        { dst := some 101, op := .idxS 1 (.s 98) (.s 100), guard := some (97, false) },
        { dst := some 102, op := .load 1 false (.s 101), guard := some (97, false) },
        { dst := some 103, op := .call 14 [(.s 102)], guard := some (97, false) },
        { dst := some 104, op := .un .not (.s 103), guard := some (97, false) },
        { dst := some 105, op := .pick (.s 97) (.c (.bool true)) (.s 104) }])
      (.cond (.s 105)
        (.seq (.ops [{ dst := some 4, op := .mov (.c (.slc 0 [] true)) },
          { dst := some 5, op := .mov (.c (.int .i64 3)) }])
        (.ret))
        (.skip)))))))))
    (.ops [{ dst := some 22, op := .mov (.s 8) },
      { dst := some 23, op := .bin .add (.s 22) (.c (.int .i64 1)) },
      { dst := some 8, op := .mov (.s 23) }]))

def F_wagonpoolref34_Settle : PF :=
  .mk
    (.seq (.ops [{ dst := some 4, op := .mov (.c (.slc 0 [] true)) },
        { dst := some 5, op := .mov (.c (.int .i64 0)) }])
      (.seq (.ops [{ dst := some 10, op := .mov (.s 0) },
        { dst := some 11, op := .call 34 [(.s 10)] },
        { dst := some 6, op := .mov (.s 11) }])
      (.seq (.seq (.ops [{ dst := some 12, op := .mov (.s 6) },
        { dst := some 13, op := .bin .neq (.s 12) (.c (.int .i64 0)) }])
      (.cond (.s 13)
        (.seq (.ops [{ dst := some 14, op := .mov (.s 6) },
          { dst := some 4, op := .mov (.c (.slc 0 [] true)) },
          { dst := some 5, op := .mov (.s 14) }])
        (.ret))
        (.skip)))
      (.seq (.ops [{ dst := some 15, op := .bslc 1 [] },
        { dst := some 16, op := .mov (.s 0) },
        { dst := some 17, op := .app 1 8 (.s 15) (.s 16) },
        { dst := some 7, op := .mov (.s 17) }])
      (.seq (.seq (.ops [{ dst := some 8, op := .mov (.c (.int .i64 0)) }])
      (.block 0 (.loop [0, 1, 7, 8] F_wagonpoolref34_Settle_L0)))
      (.seq (.ops [{ dst := some 106, op := .mov (.s 7) },
        { dst := some 4, op := .mov (.s 106) },
        { dst := some 5, op := .mov (.c (.int .i64 0)) }])
      (.ret)))))))
    [.tmp 4, .tmp 5]
theorem tr_wagonpoolref34_Settle : trF Try.prog [22, 33, 2000040, 30, 31, 38, 39, 2000038, 2000039] 17 [[0, 1, 7, 8]] = some F_wagonpoolref34_Settle := by kernel_rfl

/-! wagonpool/wagonpoolref34.Same -/
def F_wagonpoolref34_Same_L0 : PC :=
  .seq (.seq (.ops [{ dst := some 11, op := .mov (.s 5) },
      { dst := some 12, op := .mov (.s 0) },
      { dst := some 13, op := .len false (.s 12) },
      { dst := some 14, op := .bin .lss (.s 11) (.s 13) }])
    (.cond (.s 14)
      (.skip)
      (.exit 0)))
    (.seq (.block 1 (.seq (.ops [{ dst := some 17, op := .mov (.s 0) },
        { dst := some 18, op := .mov (.s 5) },
        { dst := some 19, op := .idxS 3 (.s 17) (.s 18) },
        { dst := some 20, op := .load 3 true (.s 19) },
        { dst := some 21, op := .mov (.s 1) },
        { dst := some 22, op := .mov (.s 5) },
        { dst := some 23, op := .idxS 3 (.s 21) (.s 22) },
        { dst := some 24, op := .load 3 true (.s 23) },
        { dst := some 25, op := .aeq [0, 0, 0] true (.s 20) (.s 24) }])
      (.cond (.s 25)
        (.seq (.ops [{ dst := some 4, op := .mov (.c (.bool false)) }])
        (.ret))
        (.skip))))
    (.ops [{ dst := some 15, op := .mov (.s 5) },
      { dst := some 16, op := .bin .add (.s 15) (.c (.int .i64 1)) },
      { dst := some 5, op := .mov (.s 16) }]))

def F_wagonpoolref34_Same : PF :=
  .mk
    (.seq (.ops [{ dst := some 4, op := .mov (.c (.bool false)) }])
      (.seq (.seq (.ops [{ dst := some 6, op := .mov (.s 0) },
        { dst := some 7, op := .len false (.s 6) },
        { dst := some 8, op := .mov (.s 1) },
        { dst := some 9, op := .len false (.s 8) },
        { dst := some 10, op := .bin .neq (.s 7) (.s 9) }])
      (.cond (.s 10)
        (.seq (.ops [{ dst := some 4, op := .mov (.c (.bool false)) }])
        (.ret))
        (.skip)))
      (.seq (.seq (.ops [{ dst := some 5, op := .mov (.c (.int .i64 0)) }])
      (.block 0 (.loop [0, 1, 5] F_wagonpoolref34_Same_L0)))
      (.seq (.ops [{ dst := some 4, op := .mov (.c (.bool true)) }])
      (.ret)))))
    [.tmp 4]
theorem tr_wagonpoolref34_Same : trF Try.prog [22, 33, 2000040, 30, 31, 38, 39, 2000038, 2000039] 18 [[0, 1, 5]] = some F_wagonpoolref34_Same := by kernel_rfl

/-! wagonpool/wagonpoolref34.Check -/
def F_wagonpoolref34_Check_L0 : PC :=
  .seq (.seq (.ops [{ dst := some 18, op := .mov (.s 7) },
      { dst := some 19, op := .mov (.s 1) },
      { dst := some 20, op := .len false (.s 19) },
      { dst := some 21, op := .bin .lss (.s 18) (.s 20) }])
    (.cond (.s 21)
      (.skip)
      (.exit 0)))
    (.seq (.block 1 (.seq (.ops [{ dst := some 24, op := .mov (.s 0) },
        { dst := some 25, op := .mov (.s 1) },
        { dst := some 26, op := .mov (.s 7) },
        { dst := some 27, op := .idxS 3 (.s 25) (.s 26) },
        { dst := some 28, op := .fld 0 (.s 27) },
        { dst := some 29, op := .load 1 false (.s 28) },
        { dst := some 30, op := .idxS 1 (.s 24) (.s 29) },
        { dst := some 31, op := .load 1 false (.s 30) },
        { dst := some 32, op := .bin .geq (.s 31) (.c (.int .i64 0)) },
        { dst := some 33, op := .mov (.s 32) },
        { dst := some 34, op := .mov (.s 0), guard := some (33, false) },
        { dst := some 35, op := .mov (.s 1), guard := some (33, false) },
        { dst := some 36, op := .mov (.s 7), guard := some (33, false) },
        { dst := some 37, op := .idxS 3 (.s 35) (.s 36), guard := some (33, false) },
        { dst := some 38, op := .fld 1 (.s 37), guard := some (33, false) },
        { dst := some 39, op := .load 1 false (.s 38), guard := some (33, false) },
        { dst := some 40, op := .idxS 1 (.s 34) (.s 39), guard := some (33, false) },
        { dst := some 41, op := .load 1 false (.s 40), guard := some (33, false) },
        { dst := some 42, op := .bin .leq (.s 41) (.c (.int .i64 0)), guard := some (33, false) },
        { dst := some 43, op := .pick (.s 33) (.c (.bool true)) (.s 42) }])
      (.cond (.s 43)
        (.seq (.ops [{ dst := some 4, op := .mov (.c (.int .i64 340)) }])
        (.ret))
        (.skip))))
    (.ops [{ dst := some 22, op := .mov (.s 7) },
      { dst := some 23, op := .bin .add (.s 22) (.c (.int .i64 1)) },
      { dst := some 7, op := .mov (.s 23) }]))

def F_wagonpoolref34_Check_L1 : PC :=
  .seq (.seq (.ops [{ dst := some 44, op := .mov (.s 8) },
      { dst := some 45, op := .mov (.s 5) },
      { dst := some 46, op := .len false (.s 45) },
      { dst := some 47, op := .bin .lss (.s 44) (.s 46) }])
    (.cond (.s 47)
      (.skip)
      (.exit 2)))
    (.seq (.block 3 (.seq (.ops [{ dst := some 50, op := .mov (.s 5) },
        { dst := some 51, op := .mov (.s 8) },
        { dst := some 52, op := .idxS 1 (.s 50) (.s 51) },
        { dst := some 53, op := .load 1 false (.s 52) },
        { dst := some 54, op := .bin .neq (.s 53) (.c (.int .i64 0)) }])
      (.cond (.s 54)
        (.seq (.ops [{ dst := some 4, op := .mov (.c (.int .i64 340)) }])
        (.ret))
        (.skip))))
    (.ops [{ dst := some 48, op := .mov (.s 8) },
      { dst := some 49, op := .bin .add (.s 48) (.c (.int .i64 1)) },
      { dst := some 8, op := .mov (.s 49) }]))

def F_wagonpoolref34_Check : PF :=
  .mk
    (.seq (.ops [{ dst := some 4, op := .mov (.c (.int .i64 0)) }])
      (.seq (.ops [{ dst := some 10, op := .mov (.s 0) },
        { dst := some 11, op := .mov (.s 1) },
        { dst := some 12, op := .call 17 [(.s 10), (.s 11)] },
        { dst := some 9, op := .mov (.s 12) },
        { dst := some 13, op := .ext (.s 9) 0 },
        { dst := some 14, op := .ext (.s 9) 1 },
        { dst := some 5, op := .mov (.s 13) },
        { dst := some 6, op := .mov (.s 14) }])
      (.seq (.seq (.ops [{ dst := some 15, op := .mov (.s 6) },
        { dst := some 16, op := .bin .neq (.s 15) (.c (.int .i64 0)) }])
      (.cond (.s 16)
        (.seq (.ops [{ dst := some 17, op := .mov (.s 6) },
          { dst := some 4, op := .mov (.s 17) }])
        (.ret))
        (.skip)))
      (.seq (.seq (.ops [{ dst := some 7, op := .mov (.c (.int .i64 0)) }])
      (.block 0 (.loop [0, 1, 5, 7] F_wagonpoolref34_Check_L0)))
      (.seq (.seq (.ops [{ dst := some 8, op := .mov (.c (.int .i64 0)) }])
      (.block 2 (.loop [5, 8] F_wagonpoolref34_Check_L1)))
      (.seq (.ops [{ dst := some 4, op := .mov (.c (.int .i64 0)) }])
      (.ret)))))))
    [.tmp 4]
theorem tr_wagonpoolref34_Check : trF Try.prog [22, 33, 2000040, 30, 31, 38, 39, 2000038, 2000039] 19 [[0, 1, 5, 7], [5, 8]] = some F_wagonpoolref34_Check := by kernel_rfl

/-! wagonpool/wagonpoollaw34.pay -/
def F_wagonpoollaw34_pay : PF :=
  .mk
    (.seq (.ops [{ dst := some 6, op := .box (.c (.agg [(.int .i64 0), (.int .i64 0), (.int .i64 0)])) }])
      (.seq (.ops [{ dst := some 7, op := .mov (.s 0) },
        { dst := some 8, op := .mov (.s 1) },
        { dst := some 9, op := .mov (.s 2) },
        { dst := some 10, op := .bld [(.int .i64 0), (.int .i64 0), (.int .i64 0)] [(0, 1, (.s 7)), (1, 1, (.s 8)), (2, 1, (.s 9))] },
        { dst := none, op := .stor 3 (.s 6) (.s 10) }])
      (.ret)))
    [.cell 6 3 true]
theorem tr_wagonpoollaw34_pay : trF Try.prog [22, 33, 2000040, 30, 31, 38, 39, 2000038, 2000039] 20 [] = some F_wagonpoollaw34_pay := by kernel_rfl

/-! wagonpool/netting.check -/
def F_netting_check : PF :=
  .mk
    (.seq (.ops [{ dst := some 2, op := .mov (.c (.int .i64 0)) }])
      (.seq (.seq (.ops [{ dst := some 3, op := .mov (.s 0) },
        { dst := some 4, op := .len false (.s 3) },
        { dst := some 5, op := .bin .gtr (.s 4) (.c (.int .i64 336)) }])
      (.cond (.s 5)
        (.seq (.ops [{ dst := some 2, op := .mov (.c (.int .i64 2)) }])
        (.ret))
        (.skip)))
      (.seq (.seq (.ops [{ dst := some 6, op := .mov (.s 0) },
        { dst := some 7, op := .icall 31 [(.s 6), (.c (.clo 37 []))] }])
      (.cond (.s 7)
        (.seq (.ops [{ dst := some 2, op := .mov (.c (.int .i64 3)) }])
        (.ret))
        (.skip)))
      (.seq (.ops [{ dst := some 2, op := .mov (.c (.int .i64 0)) }])
      (.ret)))))
    [.tmp 2]
theorem tr_netting_check : trF Try.prog [22, 33, 2000040, 30, 31, 38, 39, 2000038, 2000039] 21 [] = some F_netting_check := by kernel_rfl

/-! wagonpool/netting.Settle$1 -/
def F_netting_Settle_1 : PF :=
  .mk
    (.seq (.ops [{ dst := some 3, op := .mov (.c (.bool false)) }])
      (.seq (.ops [{ dst := some 4, op := .mov (.s 0) },
        { dst := some 5, op := .bin .geq (.s 4) (.c (.int .i64 0)) },
        { dst := some 6, op := .mov (.s 5) },
        { dst := some 7, op := .mov (.s 0), guard := some (6, true) },
        { dst := some 8, op := .load 1 false (.s 1), guard := some (6, true) },
        { dst := some 9, op := .len false (.s 8), guard := some (6, true) },
        { dst := some 10, op := .bin .lss (.s 7) (.s 9), guard := some (6, true) },
        { dst := some 11, op := .pick (.s 6) (.s 10) (.c (.bool false)) },
        { dst := some 3, op := .mov (.s 11) }])
      (.ret)))
    [.tmp 3]
theorem tr_netting_Settle_1 : trF Try.prog [22, 33, 2000040, 30, 31, 38, 39, 2000038, 2000039] 23 [] = some F_netting_Settle_1 := by kernel_rfl

/-! wagonpool/money.Add -/
def F_money_Add : PF :=
  .mk
    (.seq (.ops [{ dst := some 4, op := .mov (.c (.int .i64 0)) },
        { dst := some 5, op := .mov (.c (.int .i64 0)) }])
      (.seq (.seq (.ops [{ dst := some 6, op := .mov (.s 0) },
        { dst := some 7, op := .mov (.s 1) },
        { dst := some 8, op := .bslc 1 [(.s 6), (.s 7)] },
        { dst := some 9, op := .call 26 [(.s 8)] },
        { dst := some 10, op := .un .not (.s 9) }])
      (.cond (.s 10)
        (.seq (.ops [{ dst := some 4, op := .mov (.c (.int .i64 0)) },
          { dst := some 5, op := .mov (.c (.int .i64 3)) }])
        (.ret))
        (.skip)))
      (.seq (.ops [{ dst := some 11, op := .mov (.s 0) },
        { dst := some 12, op := .mov (.s 1) },
        { dst := some 13, op := .bin .add (.s 11) (.s 12) },
        { dst := some 14, op := .call 28 [(.s 13)] },
        { dst := some 15, op := .ext (.s 14) 0 },
        { dst := some 16, op := .ext (.s 14) 1 },
        { dst := some 4, op := .mov (.s 15) },
        { dst := some 5, op := .mov (.s 16) }])
      (.ret))))
    [.tmp 4, .tmp 5]
theorem tr_money_Add : trF Try.prog [22, 33, 2000040, 30, 31, 38, 39, 2000038, 2000039] 24 [] = some F_money_Add := by kernel_rfl

/-! wagonpool/money.Sub -/
def F_money_Sub : PF :=
  .mk
    (.seq (.ops [{ dst := some 4, op := .mov (.c (.int .i64 0)) },
        { dst := some 5, op := .mov (.c (.int .i64 0)) }])
      (.seq (.seq (.ops [{ dst := some 6, op := .mov (.s 0) },
        { dst := some 7, op := .mov (.s 1) },
        { dst := some 8, op := .bslc 1 [(.s 6), (.s 7)] },
        { dst := some 9, op := .call 26 [(.s 8)] },
        { dst := some 10, op := .un .not (.s 9) }])
      (.cond (.s 10)
        (.seq (.ops [{ dst := some 4, op := .mov (.c (.int .i64 0)) },
          { dst := some 5, op := .mov (.c (.int .i64 3)) }])
        (.ret))
        (.skip)))
      (.seq (.ops [{ dst := some 11, op := .mov (.s 0) },
        { dst := some 12, op := .mov (.s 1) },
        { dst := some 13, op := .bin .sub (.s 11) (.s 12) },
        { dst := some 14, op := .call 28 [(.s 13)] },
        { dst := some 15, op := .ext (.s 14) 0 },
        { dst := some 16, op := .ext (.s 14) 1 },
        { dst := some 4, op := .mov (.s 15) },
        { dst := some 5, op := .mov (.s 16) }])
      (.ret))))
    [.tmp 4, .tmp 5]
theorem tr_money_Sub : trF Try.prog [22, 33, 2000040, 30, 31, 38, 39, 2000038, 2000039] 25 [] = some F_money_Sub := by kernel_rfl

/-! wagonpool/money.in -/
def F_money_in_L0 : PC :=
  .seq (.ops [{ dst := some 8, op := .bin .lss (.s 7) (.s 6) }])
    (.seq (.cond (.s 8)
      (.skip)
      (.exit 0))
    (.seq (.block 1 (.seq (.ops [{ dst := some 9, op := .idxS 1 (.s 5) (.s 7) },
        { dst := some 10, op := .load 1 false (.s 9) },
        { dst := some 4, op := .mov (.s 10) }])
      (.seq (.ops [{ dst := some 11, op := .mov (.s 4) },
        { dst := some 12, op := .bin .lss (.s 11) (.c (.int .i64 (-9007199254740992))) },
        { dst := some 13, op := .mov (.s 12) },
        { dst := some 14, op := .mov (.s 4), guard := some (13, false) },
        { dst := some 15, op := .bin .gtr (.s 14) (.c (.int .i64 9007199254740992)), guard := some (13, false) },
        { dst := some 16, op := .pick (.s 13) (.c (.bool true)) (.s 15) }])
      (.cond (.s 16)
        (.seq (.ops [{ dst := some 2, op := .mov (.c (.bool false)) }])
        (.ret))
        (.skip)))))
    (.ops [{ dst := some 17, op := .bin .add (.s 7) (.c (.int .i64 1)) },
      { dst := some 7, op := .mov (.s 17) }])))

def F_money_in : PF :=
  .mk
    (.seq (.ops [{ dst := some 2, op := .mov (.c (.bool false)) }])
      (.seq (.seq (.ops [{ dst := some 5, op := .mov (.s 0) },
        { dst := some 6, op := .len false (.s 5) },
        { dst := some 7, op := .mov (.c (.int .i64 0)) }])
      (.block 0 (.loop [5, 6, 7] F_money_in_L0)))
      (.seq (.ops [{ dst := some 2, op := .mov (.c (.bool true)) }])
      (.ret))))
    [.tmp 2]
theorem tr_money_in : trF Try.prog [22, 33, 2000040, 30, 31, 38, 39, 2000038, 2000039] 26 [[5, 6, 7]] = some F_money_in := by kernel_rfl

/-! wagonpool/money.ranged -/
def F_money_ranged : PF :=
  .mk
    (.seq (.ops [{ dst := some 2, op := .mov (.c (.int .i64 0)) },
        { dst := some 3, op := .mov (.c (.int .i64 0)) }])
      (.seq (.seq (.ops [{ dst := some 4, op := .mov (.s 0) },
        { dst := some 5, op := .bslc 1 [(.s 4)] },
        { dst := some 6, op := .call 26 [(.s 5)] },
        { dst := some 7, op := .un .not (.s 6) }])
      (.cond (.s 7)
        (.seq (.ops [{ dst := some 2, op := .mov (.c (.int .i64 0)) },
          { dst := some 3, op := .mov (.c (.int .i64 3)) }])
        (.ret))
        (.skip)))
      (.seq (.ops [{ dst := some 8, op := .mov (.s 0) },
        { dst := some 2, op := .mov (.s 8) },
        { dst := some 3, op := .mov (.c (.int .i64 0)) }])
      (.ret))))
    [.tmp 2, .tmp 3]
theorem tr_money_ranged : trF Try.prog [22, 33, 2000040, 30, 31, 38, 39, 2000038, 2000039] 28 [] = some F_money_ranged := by kernel_rfl

/-! wagonpool/netting.Check$1 -/
def F_netting_Check_1 : PF :=
  .mk
    (.seq (.ops [{ dst := some 2, op := .box (.s 0) },
        { dst := some 3, op := .mov (.c (.bool false)) }])
      (.seq (.ops [{ dst := some 4, op := .load 1 false (.s 1) },
        { dst := some 5, op := .fld 0 (.s 2) },
        { dst := some 6, op := .load 1 false (.s 5) },
        { dst := some 7, op := .idxS 1 (.s 4) (.s 6) },
        { dst := some 8, op := .load 1 false (.s 7) },
        { dst := some 9, op := .bin .geq (.s 8) (.c (.int .i64 0)) },
        { dst := some 10, op := .mov (.s 9) },
        { dst := some 11, op := .load 1 false (.s 1), guard := some (10, false) },
        { dst := some 12, op := .fld 1 (.s 2), guard := some (10, false) },
        { dst := some 13, op := .load 1 false (.s 12), guard := some (10, false) },
        { dst := some 14, op := .idxS 1 (.s 11) (.s 13), guard := some (10, false) },
        { dst := some 15, op := .load 1 false (.s 14), guard := some (10, false) },
        { dst := some 16, op := .bin .leq (.s 15) (.c (.int .i64 0)), guard := some (10, false) },
        { dst := some 17, op := .pick (.s 10) (.c (.bool true)) (.s 16) },
        { dst := some 3, op := .mov (.s 17) }])
      (.ret)))
    [.tmp 3]
theorem tr_netting_Check_1 : trF Try.prog [22, 33, 2000040, 30, 31, 38, 39, 2000038, 2000039] 29 [] = some F_netting_Check_1 := by kernel_rfl

/-! slices.ContainsFunc[[]wagonpool/api.Payment,wagonpool/api.Payment] -/
def F_slices_ContainsFunc_api_Payment_api_Payment : PF :=
  .mk
    (.seq (.ops [{ dst := some 4, op := .mov (.c (.bool false)) }])
      (.seq (.ops [{ dst := some 5, op := .mov (.s 0) },
        { dst := some 6, op := .mov (.s 1) },
        { dst := some 7, op := .icall 38 [(.s 5), (.s 6)] },
        { dst := some 8, op := .bin .geq (.s 7) (.c (.int .i64 0)) },
        { dst := some 4, op := .mov (.s 8) }])
      (.ret)))
    [.tmp 4]
theorem tr_slices_ContainsFunc_api_Payment_api_Payment : trF Try.prog [22, 33, 2000040, 30, 31, 38, 39, 2000038, 2000039] 30 [] = some F_slices_ContainsFunc_api_Payment_api_Payment := by kernel_rfl

/-! slices.ContainsFunc[[]int,int] -/
def F_slices_ContainsFunc_int_int : PF :=
  .mk
    (.seq (.ops [{ dst := some 4, op := .mov (.c (.bool false)) }])
      (.seq (.ops [{ dst := some 5, op := .mov (.s 0) },
        { dst := some 6, op := .mov (.s 1) },
        { dst := some 7, op := .icall 39 [(.s 5), (.s 6)] },
        { dst := some 8, op := .bin .geq (.s 7) (.c (.int .i64 0)) },
        { dst := some 4, op := .mov (.s 8) }])
      (.ret)))
    [.tmp 4]
theorem tr_slices_ContainsFunc_int_int : trF Try.prog [22, 33, 2000040, 30, 31, 38, 39, 2000038, 2000039] 31 [] = some F_slices_ContainsFunc_int_int := by kernel_rfl

/-! wagonpool/netting.Check$2 -/
def F_netting_Check_2 : PF :=
  .mk
    (.seq (.ops [{ dst := some 2, op := .mov (.c (.bool false)) }])
      (.seq (.ops [{ dst := some 3, op := .mov (.s 0) },
        { dst := some 4, op := .bin .neq (.s 3) (.c (.int .i64 0)) },
        { dst := some 2, op := .mov (.s 4) }])
      (.ret)))
    [.tmp 2]
theorem tr_netting_Check_2 : trF Try.prog [22, 33, 2000040, 30, 31, 38, 39, 2000038, 2000039] 32 [] = some F_netting_Check_2 := by kernel_rfl

/-! wagonpool/netting.payments -/
def F_netting_payments : PF :=
  .mk
    (.seq (.ops [{ dst := some 1, op := .box (.s 0) },
        { dst := some 2, op := .mov (.c .nilf) }])
      (.seq (.ops [{ dst := some 3, op := .mkclo 40 [(.s 1)] },
        { dst := some 2, op := .mov (.s 3) }])
      (.ret)))
    [.tmp 2]
theorem tr_netting_payments : trF Try.prog [22, 33, 2000040, 30, 31, 38, 39, 2000038, 2000039] 33 [] = some F_netting_payments := by kernel_rfl

/-! wagonpool/wagonpoolref34.Valid -/
def F_wagonpoolref34_Valid_L0 : PC :=
  .seq (.seq (.ops [{ dst := some 7, op := .mov (.s 3) },
      { dst := some 8, op := .mov (.s 0) },
      { dst := some 9, op := .len false (.s 8) },
      { dst := some 10, op := .bin .lss (.s 7) (.s 9) }])
    (.cond (.s 10)
      (.skip)
      (.exit 0)))
    (.seq (.block 1 (.seq (.ops [{ dst := some 13, op := .mov (.s 0) },
        { dst := some 14, op := .mov (.s 3) },
        { dst := some 15, op := .idxS 1 (.s 13) (.s 14) },
        { dst := some 16, op := .load 1 false (.s 15) },
        { dst := some 17, op := .call 14 [(.s 16)] },
        { dst := some 18, op := .un .not (.s 17) }])
      (.cond (.s 18)
        (.seq (.ops [{ dst := some 2, op := .mov (.c (.int .i64 3)) }])
        (.ret))
        (.skip))))
    (.ops [{ dst := some 11, op := .mov (.s 3) },
      { dst := some 12, op := .bin .add (.s 11) (.c (.int .i64 1)) },
      { dst := some 3, op := .mov (.s 12) }]))

def F_wagonpoolref34_Valid : PF :=
  .mk
    (.seq (.ops [{ dst := some 2, op := .mov (.c (.int .i64 0)) }])
      (.seq (.seq (.ops [{ dst := some 4, op := .mov (.s 0) },
        { dst := some 5, op := .len false (.s 4) },
        { dst := some 6, op := .bin .gtr (.s 5) (.c (.int .i64 336)) }])
      (.cond (.s 6)
        (.seq (.ops [{ dst := some 2, op := .mov (.c (.int .i64 2)) }])
        (.ret))
        (.skip)))
      (.seq (.seq (.ops [{ dst := some 3, op := .mov (.c (.int .i64 0)) }])
      (.block 0 (.loop [0, 3] F_wagonpoolref34_Valid_L0)))
      (.seq (.ops [{ dst := some 2, op := .mov (.c (.int .i64 0)) }])
      (.ret)))))
    [.tmp 2]
theorem tr_wagonpoolref34_Valid : trF Try.prog [22, 33, 2000040, 30, 31, 38, 39, 2000038, 2000039] 34 [[0, 3]] = some F_wagonpoolref34_Valid := by kernel_rfl

/-! wagonpool/wagonpoolref07.Sum -/
def F_wagonpoolref07_Sum_L0 : PC :=
  .seq (.seq (.ops [{ dst := some 8, op := .mov (.s 6) },
      { dst := some 9, op := .mov (.s 0) },
      { dst := some 10, op := .len false (.s 9) },
      { dst := some 11, op := .bin .lss (.s 8) (.s 10) }])
    (.cond (.s 11)
      (.skip)
      (.exit 0)))
    (.seq (.block 1 (.seq (.seq (.ops [{ dst := some 14, op := .mov (.s 0) },
        { dst := some 15, op := .mov (.s 6) },
        { dst := some 16, op := .idxS 1 (.s 14) (.s 15) },
        { dst := some 17, op := .load 1 false (.s 16) },
        { dst := some 18, op := .call 14 [(.s 17)] },
        { dst := some 19, op := .un .not (.s 18) }])
      (.cond (.s 19)
        (.seq (.ops [{ dst := some 2, op := .mov (.c (.int .i64 0)) },
          { dst := some 3, op := .mov (.c (.int .i64 3)) }])
        (.ret))
        (.skip)))
      (.seq (.ops [{ dst := some 20, op := .mov (.s 5) },
        { dst := some 21, op := .mov (.s 0) },
        { dst := some 22, op := .mov (.s 6) },
        { dst := some 23, op := .idxS 1 (.s 21) (.s 22) },
        { dst := some 24, op := .load 1 false (.s 23) },
        { dst := some 25, op := .bin .add (.s 20) (.s 24) },
        { dst := some 5, op := .mov (.s 25) }])
      (.seq (.ops [{ dst := some 26, op := .mov (.s 5) },
        { dst := some 27, op := .call 41 [(.s 26), (.c (.int .i64 9007199254740992))] },
        { dst := some 7, op := .mov (.s 27) }])
      (.seq (.ops [{ dst := some 28, op := .mov (.s 4) },
        { dst := some 29, op := .mov (.s 7) },
        { dst := some 30, op := .bin .add (.s 28) (.s 29) },
        { dst := some 4, op := .mov (.s 30) }])
      (.ops [{ dst := some 31, op := .mov (.s 5) },
        { dst := some 32, op := .mov (.s 7) },
        { dst := some 33, op := .bin .mul (.s 32) (.c (.int .i64 9007199254740992)) },
        { dst := some 34, op := .bin .sub (.s 31) (.s 33) },
        { dst := some 5, op := .mov (.s 34) }]))))))
    (.ops [{ dst := some 12, op := .mov (.s 6) },
      { dst := some 13, op := .bin .add (.s 12) (.c (.int .i64 1)) },
      { dst := some 6, op := .mov (.s 13) }]))

def F_wagonpoolref07_Sum : PF :=
  .mk
    (.seq (.ops [{ dst := some 2, op := .mov (.c (.int .i64 0)) },
        { dst := some 3, op := .mov (.c (.int .i64 0)) }])
      (.seq (.ops [{ dst := some 4, op := .mov (.c (.int .i64 0)) }])
      (.seq (.ops [{ dst := some 5, op := .mov (.c (.int .i64 0)) }])
      (.seq (.seq (.ops [{ dst := some 6, op := .mov (.c (.int .i64 0)) }])
      (.block 0 (.loop [0, 4, 5, 6] F_wagonpoolref07_Sum_L0)))
      (.seq (.seq (.ops [{ dst := some 35, op := .mov (.s 4) },
        { dst := some 36, op := .bin .lss (.s 35) (.c (.int .i64 (-1))) },
        { dst := some 37, op := .mov (.s 36) },
        { dst := some 38, op := .mov (.s 4), guard := some (37, false) },
        { dst := some 39, op := .bin .gtr (.s 38) (.c (.int .i64 1)), guard := some (37, false) },
        { dst := some 40, op := .pick (.s 37) (.c (.bool true)) (.s 39) },
        { dst := some 41, op := .mov (.s 40) },
        { dst := some 42, op := .mov (.s 4), guard := some (41, false) },
        { dst := some 43, op := .bin .eql (.s 42) (.c (.int .i64 1)), guard := some (41, false) },
        { dst := some 44, op := .mov (.s 43), guard := some (41, false) },
        { dst := some 45, op := .mov (.s 5), guard := some (44, true) },
        { dst := some 46, op := .bin .gtr (.s 45) (.c (.int .i64 0)), guard := some (44, true) },
        { dst := some 47, op := .pick (.s 44) (.s 46) (.c (.bool false)), guard := some (41, false) },
        { dst := some 48, op := .pick (.s 41) (.c (.bool true)) (.s 47) }])
      (.cond (.s 48)
        (.seq (.ops [{ dst := some 2, op := .mov (.c (.int .i64 0)) },
          { dst := some 3, op := .mov (.c (.int .i64 3)) }])
        (.ret))
        (.skip)))
      (.seq (.ops [{ dst := some 49, op := .mov (.s 4) },
        { dst := some 50, op := .bin .mul (.s 49) (.c (.int .i64 9007199254740992)) },
        { dst := some 51, op := .mov (.s 5) },
        { dst := some 52, op := .bin .add (.s 50) (.s 51) },
        { dst := some 2, op := .mov (.s 52) },
        { dst := some 3, op := .mov (.c (.int .i64 0)) }])
      (.ret)))))))
    [.tmp 2, .tmp 3]
theorem tr_wagonpoolref07_Sum : trF Try.prog [22, 33, 2000040, 30, 31, 38, 39, 2000038, 2000039] 35 [[0, 4, 5, 6]] = some F_wagonpoolref07_Sum := by kernel_rfl

/-! wagonpool/wagonpoolref34.next -/
def F_wagonpoolref34_next_L0 : PC :=
  .seq (.seq (.ops [{ dst := some 7, op := .mov (.s 1) },
      { dst := some 8, op := .mov (.s 0) },
      { dst := some 9, op := .len false (.s 8) },
      { dst := some 10, op := .bin .lss (.s 7) (.s 9) },
      { dst := some 11, op := .mov (.s 10) },
      { dst := some 12, op := .mov (.s 0), guard := some (11, true) },
      { dst := some 13, op := .mov (.s 1), guard := some (11, true) },
      { dst := some 14, op := .idxS 1 (.s 12) (.s 13), guard := some (11, true) },
      { dst := some 15, op := .load 1 false (.s 14), guard := some (11, true) },
      { dst := some 16, op := .mov (.s 2), guard := some (11, true) },
      { dst := some 17, op := .bin .mul (.s 15) (.s 16), guard := some (11, true) },
      { dst := some 18, op := .bin .leq (.s 17) (.c (.int .i64 0)), guard := some (11, true) },
      { dst := some 19, op := .pick (.s 11) (.s 18) (.c (.bool false)) }])
    (.cond (.s 19)
      (.skip)
      (.exit 0)))
    (.block 1 (.ops [{ dst := some 20, op := .mov (.s 1) },
        { dst := some 21, op := .bin .add (.s 20) (.c (.int .i64 1)) },
        { dst := some 1, op := .mov (.s 21) }]))

def F_wagonpoolref34_next : PF :=
  .mk
    (.seq (.ops [{ dst := some 6, op := .mov (.c (.int .i64 0)) }])
      (.seq (.block 0 (.loop [0, 1, 2] F_wagonpoolref34_next_L0))
      (.seq (.ops [{ dst := some 22, op := .mov (.s 1) },
        { dst := some 6, op := .mov (.s 22) }])
      (.ret))))
    [.tmp 6]
theorem tr_wagonpoolref34_next : trF Try.prog [22, 33, 2000040, 30, 31, 38, 39, 2000038, 2000039] 36 [[0, 1, 2]] = some F_wagonpoolref34_next := by kernel_rfl

/-! wagonpool/netting.check$1 -/
def F_netting_check_1 : PF :=
  .mk
    (.seq (.ops [{ dst := some 2, op := .mov (.c (.bool false)) }])
      (.seq (.ops [{ dst := some 3, op := .mov (.s 0) },
        { dst := some 4, op := .bin .lss (.s 3) (.c (.int .i64 (-9007199254740992))) },
        { dst := some 5, op := .mov (.s 4) },
        { dst := some 6, op := .mov (.s 0), guard := some (5, false) },
        { dst := some 7, op := .bin .gtr (.s 6) (.c (.int .i64 9007199254740992)), guard := some (5, false) },
        { dst := some 8, op := .pick (.s 5) (.c (.bool true)) (.s 7) },
        { dst := some 2, op := .mov (.s 8) }])
      (.ret)))
    [.tmp 2]
theorem tr_netting_check_1 : trF Try.prog [22, 33, 2000040, 30, 31, 38, 39, 2000038, 2000039] 37 [] = some F_netting_check_1 := by kernel_rfl

/-! slices.IndexFunc[[]wagonpool/api.Payment,wagonpool/api.Payment] -/
def F_slices_IndexFunc_api_Payment_api_Payment_L0 : PC :=
  .seq (.ops [{ dst := some 9, op := .bin .lss (.s 8) (.s 7) }])
    (.seq (.cond (.s 9)
      (.skip)
      (.exit 0))
    (.seq (.block 1 (.seq (.ops [{ dst := some 10, op := .mov (.s 8) },
        { dst := some 5, op := .mov (.s 10) }])
      (.seq (.ops [{ dst := some 11, op := .mov (.s 1) },
        { dst := some 12, op := .mov (.s 0) },
        { dst := some 13, op := .mov (.s 5) },
        { dst := some 14, op := .idxS 3 (.s 12) (.s 13) },
        { dst := some 15, op := .load 3 true (.s 14) },
        { dst := some 16, op := .callv (.s 11) [(.s 15)] }])
      (.cond (.s 16)
        (.seq (.ops [{ dst := some 17, op := .mov (.s 5) },
          { dst := some 4, op := .mov (.s 17) }])
        (.ret))
        (.skip)))))
    (.ops [{ dst := some 18, op := .bin .add (.s 8) (.c (.int .i64 1)) },
      { dst := some 8, op := .mov (.s 18) }])))

def F_slices_IndexFunc_api_Payment_api_Payment : PF :=
  .mk
    (.seq (.ops [{ dst := some 4, op := .mov (.c (.int .i64 0)) }])
      (.seq (.seq (.ops [{ dst := some 6, op := .mov (.s 0) },
        { dst := some 7, op := .len false (.s 6) },
        { dst := some 8, op := .mov (.c (.int .i64 0)) }])
      (.block 0 (.loopA [0, 1, 7, 8] F_slices_IndexFunc_api_Payment_api_Payment_L0)))
      (.seq (.ops [{ dst := some 4, op := .mov (.c (.int .i64 (-1))) }])
      (.ret))))
    [.tmp 4]
theorem tr_slices_IndexFunc_api_Payment_api_Payment : trF Try.prog [22, 33, 2000040, 30, 31, 38, 39, 2000038, 2000039] 38 [[1000000, 0, 1, 7, 8]] = some F_slices_IndexFunc_api_Payment_api_Payment := by kernel_rfl

/-! slices.IndexFunc[[]int,int] -/
def F_slices_IndexFunc_int_int_L0 : PC :=
  .seq (.ops [{ dst := some 9, op := .bin .lss (.s 8) (.s 7) }])
    (.seq (.cond (.s 9)
      (.skip)
      (.exit 0))
    (.seq (.block 1 (.seq (.ops [{ dst := some 10, op := .mov (.s 8) },
        { dst := some 5, op := .mov (.s 10) }])
      (.seq (.ops [{ dst := some 11, op := .mov (.s 1) },
        { dst := some 12, op := .mov (.s 0) },
        { dst := some 13, op := .mov (.s 5) },
        { dst := some 14, op := .idxS 1 (.s 12) (.s 13) },
        { dst := some 15, op := .load 1 false (.s 14) },
        { dst := some 16, op := .callv (.s 11) [(.s 15)] }])
      (.cond (.s 16)
        (.seq (.ops [{ dst := some 17, op := .mov (.s 5) },
          { dst := some 4, op := .mov (.s 17) }])
        (.ret))
        (.skip)))))
    (.ops [{ dst := some 18, op := .bin .add (.s 8) (.c (.int .i64 1)) },
      { dst := some 8, op := .mov (.s 18) }])))

def F_slices_IndexFunc_int_int : PF :=
  .mk
    (.seq (.ops [{ dst := some 4, op := .mov (.c (.int .i64 0)) }])
      (.seq (.seq (.ops [{ dst := some 6, op := .mov (.s 0) },
        { dst := some 7, op := .len false (.s 6) },
        { dst := some 8, op := .mov (.c (.int .i64 0)) }])
      (.block 0 (.loopA [0, 1, 7, 8] F_slices_IndexFunc_int_int_L0)))
      (.seq (.ops [{ dst := some 4, op := .mov (.c (.int .i64 (-1))) }])
      (.ret))))
    [.tmp 4]
theorem tr_slices_IndexFunc_int_int : trF Try.prog [22, 33, 2000040, 30, 31, 38, 39, 2000038, 2000039] 39 [[1000000, 0, 1, 7, 8]] = some F_slices_IndexFunc_int_int := by kernel_rfl

/-! wagonpool/netting.payments$1 -/
def F_netting_payments_1_L0 : PC :=
  .seq (.seq (.ops [{ dst := some 9, op := .mov (.s 4) },
      { dst := some 10, op := .mov (.s 3) },
      { dst := some 11, op := .len false (.s 10) },
      { dst := some 12, op := .bin .lss (.s 9) (.s 11) },
      { dst := some 13, op := .mov (.s 12) },
      { dst := some 14, op := .mov (.s 3), guard := some (13, true) },
      { dst := some 15, op := .mov (.s 4), guard := some (13, true) },
      { dst := some 16, op := .idxS 1 (.s 14) (.s 15), guard := some (13, true) },
      { dst := some 17, op := .load 1 false (.s 16), guard := some (13, true) },
      { dst := some 18, op := .bin .geq (.s 17) (.c (.int .i64 0)), guard := some (13, true) },
      { dst := some 19, op := .pick (.s 13) (.s 18) (.c (.bool false)) }])
    (.cond (.s 19)
      (.skip)
      (.exit 2)))
    (.block 3 (.ops [{ dst := some 20, op := .mov (.s 4) },
        { dst := some 21, op := .bin .add (.s 20) (.c (.int .i64 1)) },
        { dst := some 4, op := .mov (.s 21) }]))

def F_netting_payments_1_L1 : PC :=
  .seq (.seq (.ops [{ dst := some 22, op := .mov (.s 5) },
      { dst := some 23, op := .mov (.s 3) },
      { dst := some 24, op := .len false (.s 23) },
      { dst := some 25, op := .bin .lss (.s 22) (.s 24) },
      { dst := some 26, op := .mov (.s 25) },
      { dst := some 27, op := .mov (.s 3), guard := some (26, true) },
      { dst := some 28, op := .mov (.s 5), guard := some (26, true) },
      { dst := some 29, op := .idxS 1 (.s 27) (.s 28), guard := some (26, true) },
      { dst := some 30, op := .load 1 false (.s 29), guard := some (26, true) },
      { dst := some 31, op := .bin .leq (.s 30) (.c (.int .i64 0)), guard := some (26, true) },
      { dst := some 32, op := .pick (.s 26) (.s 31) (.c (.bool false)) }])
    (.cond (.s 32)
      (.skip)
      (.exit 4)))
    (.block 5 (.ops [{ dst := some 33, op := .mov (.s 5) },
        { dst := some 34, op := .bin .add (.s 33) (.c (.int .i64 1)) },
        { dst := some 5, op := .mov (.s 34) }]))

def F_netting_payments_1_L2 : PC :=
  .block 1 (.seq (.block 2 (.loopA [0, 3, 4, 5] F_netting_payments_1_L0))
      (.seq (.block 4 (.loopA [0, 3, 4, 5] F_netting_payments_1_L1))
      (.seq (.seq (.ops [{ dst := some 35, op := .mov (.s 4) },
        { dst := some 36, op := .mov (.s 3) },
        { dst := some 37, op := .len false (.s 36) },
        { dst := some 38, op := .bin .eql (.s 35) (.s 37) },
        { dst := some 39, op := .mov (.s 38) },
        { dst := some 40, op := .mov (.s 5), guard := some (39, false) },
        { dst := some 41, op := .mov (.s 3), guard := some (39, false) },
        { dst := some 42, op := .len false (.s 41), guard := some (39, false) },
        { dst := some 43, op := .bin .eql (.s 40) (.s 42), guard := some (39, false) },
        { dst := some 44, op := .pick (.s 39) (.c (.bool true)) (.s 43) }])
      (.cond (.s 44)
        (.ret)
        (.skip)))
      (.seq (.ops [{ dst := some 45, op := .mov (.s 3) },
        { dst := some 46, op := .mov (.s 4) },
        { dst := some 47, op := .idxS 1 (.s 45) (.s 46) },
        { dst := some 48, op := .load 1 false (.s 47) },
        { dst := some 49, op := .un .neg (.s 48) },
        { dst := some 50, op := .mov (.s 3) },
        { dst := some 51, op := .mov (.s 5) },
        { dst := some 52, op := .idxS 1 (.s 50) (.s 51) },
        { dst := some 53, op := .load 1 false (.s 52) },
        { dst := some 54, op := .mm false (.s 49) (.s 53) },
        { dst := some 6, op := .mov (.s 54) }])
      (.seq (.ops [{ dst := some 55, op := .mov (.s 3) },
        { dst := some 56, op := .mov (.s 4) },
        { dst := some 57, op := .idxS 1 (.s 55) (.s 56) },
        { dst := some 58, op := .load 1 false (.s 57) },
        { dst := some 59, op := .mov (.s 6) },
        { dst := some 60, op := .bin .add (.s 58) (.s 59) },
        { dst := some 61, op := .idxS 1 (.s 55) (.s 56) },
        { dst := none, op := .stor 1 (.s 61) (.s 60) }])
      (.seq (.ops [{ dst := some 62, op := .mov (.s 3) },
        { dst := some 63, op := .mov (.s 5) },
        { dst := some 64, op := .idxS 1 (.s 62) (.s 63) },
        { dst := some 65, op := .load 1 false (.s 64) },
        { dst := some 66, op := .mov (.s 6) },
        { dst := some 67, op := .bin .sub (.s 65) (.s 66) },
        { dst := some 68, op := .idxS 1 (.s 62) (.s 63) },
        { dst := none, op := .stor 1 (.s 68) (.s 67) }])
      (.seq (.ops [{ dst := some 69, op := .mov (.s 0) },
        { dst := some 70, op := .mov (.s 4) },
        { dst := some 71, op := .mov (.s 5) },
        { dst := some 72, op := .mov (.s 6) },
        { dst := some 73, op := .bld [(.int .i64 0), (.int .i64 0), (.int .i64 0)] [(0, 1, (.s 70)), (1, 1, (.s 71)), (2, 1, (.s 72))] },
        { dst := some 74, op := .callv (.s 69) [(.s 73)] },
        { dst := some 75, op := .un .not (.s 74) }])
      (.cond (.s 75)
        (.ret)
        (.skip)))))))))

def F_netting_payments_1 : PF :=
  .mk
    (.seq (.ops [{ dst := some 7, op := .load 1 false (.s 1) },
        { dst := some 8, op := .icall 22 [(.s 7)] },
        { dst := some 3, op := .mov (.s 8) }])
      (.seq (.ops [{ dst := some 4, op := .mov (.c (.int .i64 0)) },
        { dst := some 5, op := .mov (.c (.int .i64 0)) }])
      (.block 0 (.loopA [0, 3, 4, 5] F_netting_payments_1_L2))))
    []
theorem tr_netting_payments_1 : trF Try.prog [22, 33, 2000040, 30, 31, 38, 39, 2000038, 2000039] 40 [[1000000, 0, 3, 4, 5], [1000000, 0, 3, 4, 5], [1000000, 0, 3, 4, 5]] = some F_netting_payments_1 := by kernel_rfl

/-! wagonpool/wagonpoolref07.Floor -/
def F_wagonpoolref07_Floor : PF :=
  .mk
    (.seq (.ops [{ dst := some 4, op := .mov (.c (.int .i64 0)) }])
      (.seq (.ops [{ dst := some 6, op := .mov (.s 0) },
        { dst := some 7, op := .mov (.s 1) },
        { dst := some 8, op := .bin .quo (.s 6) (.s 7) },
        { dst := some 5, op := .mov (.s 8) }])
      (.seq (.seq (.ops [{ dst := some 9, op := .mov (.s 5) },
        { dst := some 10, op := .mov (.s 1) },
        { dst := some 11, op := .bin .mul (.s 9) (.s 10) },
        { dst := some 12, op := .mov (.s 0) },
        { dst := some 13, op := .bin .gtr (.s 11) (.s 12) }])
      (.cond (.s 13)
        (.ops [{ dst := some 14, op := .mov (.s 5) },
          { dst := some 15, op := .bin .sub (.s 14) (.c (.int .i64 1)) },
          { dst := some 5, op := .mov (.s 15) }])
        (.skip)))
      (.seq (.ops [{ dst := some 16, op := .mov (.s 5) },
        { dst := some 4, op := .mov (.s 16) }])
      (.ret)))))
    [.tmp 4]
theorem tr_wagonpoolref07_Floor : trF Try.prog [22, 33, 2000040, 30, 31, 38, 39, 2000038, 2000039] 41 [] = some F_wagonpoolref07_Floor := by kernel_rfl

end Go.Proofs.Ytedchaaoemifbaa.PI
