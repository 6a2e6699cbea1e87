/-
  The translations of this seat's functions into pure code, each with the kernel's word that it is the translation. Written by a program (gen.py).
  Conditions: none.
-/
import Derived.Test.YteacnlikmagfcaaDoorEngR
import Derived.KernelRfl
namespace Go.Proofs.YteacnlikmagfcaaDoor.PI
open Go

/-! wagonpool/wagonpoollaw13.DiskCrash -/
def F_wagonpoollaw13_DiskCrash_L0 : PC :=
  .seq (.seq (.ops [{ dst := some 22, op := .mov (.s 9) },
      { dst := some 23, op := .mov (.s 0) },
      { dst := some 24, op := .len false (.s 23) },
      { dst := some 25, op := .bin .lss (.s 22) (.s 24) }])
    (.cond (.s 25)
      (.skip)
      (.exit 0)))
    (.seq (.block 1 (.seq (.ops [{ dst := some 29, op := .load 2 true (.s 7) },
        { dst := some 30, op := .mov (.s 0) },
        { dst := some 31, op := .mov (.s 9) },
        { dst := some 32, op := .idxS 1 (.s 30) (.s 31) },
        { dst := some 33, op := .load 1 false (.s 32) },
        { dst := some 34, op := .call 11 [(.s 29), (.s 33)] },
        { dst := some 28, op := .mov (.s 34) },
        { dst := some 35, op := .ext (.s 28) 0 },
        { dst := some 36, op := .ext (.s 28) 1 },
        { dst := some 10, op := .box (.c (.agg [(.slc 0 [] true), (.int .i64 0)])) },
        { dst := none, op := .stor 2 (.s 10) (.s 35) },
        { dst := some 11, op := .mov (.s 36) }])
      (.seq (.seq (.ops [{ dst := some 37, op := .mov (.s 11) },
        { dst := some 38, op := .bin .neq (.s 37) (.c (.int .i64 0)) }])
      (.cond (.s 38)
        (.seq (.ops [{ dst := some 39, op := .mov (.s 11) },
          { dst := some 40, op := .bin .eql (.s 39) (.c (.int .i64 2)) },
          { dst := some 41, op := .mov (.s 40) },
          { dst := some 42, op := .mov (.s 0), guard := some (41, true) },
          { dst := some 43, op := .mov (.s 9), guard := some (41, true) },
          { dst := some 44, op := .idxS 1 (.s 42) (.s 43), guard := some (41, true) },
          { dst := some 45, op := .load 1 false (.s 44), guard := some (41, true) },
          { dst := some 46, op := .len false (.s 45), guard := some (41, true) },
          { dst := some 47, op := .bin .gtr (.s 46) (.c (.int .i64 16000)), guard := some (41, true) },
          { dst := some 48, op := .pick (.s 41) (.s 47) (.c (.bool false)) },
          { dst := some 6, op := .mov (.s 48) }])
        (.ret))
        (.skip)))
      (.seq (.ops [{ dst := some 49, op := .load 2 true (.s 10) },
        { dst := none, op := .stor 2 (.s 7) (.s 49) }])
      (.seq (.seq (.ops [{ dst := some 50, op := .mov (.s 9) },
        { dst := some 51, op := .mov (.s 1) },
        { dst := some 52, op := .bin .lss (.s 50) (.s 51) }])
      (.cond (.s 52)
        (.ops [{ dst := some 53, op := .load 2 true (.s 7) },
          { dst := some 54, op := .call 12 [(.s 53)] },
          { dst := none, op := .stor 2 (.s 7) (.s 54) }])
        (.skip)))
      (.ops [{ dst := some 55, op := .mov (.s 8) },
        { dst := some 56, op := .fld 0 (.s 7) },
        { dst := some 57, op := .load 1 false (.s 56) },
        { dst := some 58, op := .len false (.s 57) },
        { dst := some 59, op := .bslc 1 [(.s 58)] },
        { dst := some 60, op := .app 1 8 (.s 55) (.s 59) },
        { dst := some 8, op := .mov (.s 60) }]))))))
    (.ops [{ dst := some 26, op := .mov (.s 9) },
      { dst := some 27, op := .bin .add (.s 26) (.c (.int .i64 1)) },
      { dst := some 9, op := .mov (.s 27) }]))

def F_wagonpoollaw13_DiskCrash_L1 : PC :=
  .seq (.seq (.ops [{ dst := some 98, op := .mov (.s 15) },
      { dst := some 99, op := .mov (.s 8) },
      { dst := some 100, op := .len false (.s 99) },
      { dst := some 101, op := .bin .lss (.s 98) (.s 100) },
      { dst := some 102, op := .mov (.s 101) },
      { dst := some 103, op := .mov (.s 8), guard := some (102, true) },
      { dst := some 104, op := .mov (.s 15), guard := some (102, true) },
      { dst := some 105, op := .idxS 1 (.s 103) (.s 104), guard := some (102, true) },
      { dst := some 106, op := .load 1 false (.s 105), guard := some (102, true) },
      { dst := some 107, op := .mov (.s 14), guard := some (102, true) },
      { dst := some 108, op := .bin .leq (.s 106) (.s 107), guard := some (102, true) },
      { dst := some 109, op := .pick (.s 102) (.s 108) (.c (.bool false)) }])
    (.cond (.s 109)
      (.skip)
      (.exit 2)))
    (.block 3 (.ops [{ dst := some 110, op := .mov (.s 15) },
        { dst := some 111, op := .bin .add (.s 110) (.c (.int .i64 1)) },
        { dst := some 15, op := .mov (.s 111) }]))

def F_wagonpoollaw13_DiskCrash : PF :=
  .mk
    (.seq (.ops [{ dst := some 5, op := .box (.s 2) },
        { dst := some 6, op := .mov (.c (.bool false)) }])
      (.seq (.seq (.ops [{ dst := some 18, op := .call 10 [] },
        { dst := some 19, op := .un .not (.s 18) }])
      (.cond (.s 19)
        (.seq (.ops [{ dst := some 6, op := .mov (.c (.bool false)) }])
        (.ret))
        (.skip)))
      (.seq (.ops [{ dst := some 20, op := .bld [(.slc 0 [] true), (.int .i64 0)] [] },
        { dst := some 7, op := .box (.c (.agg [(.slc 0 [] true), (.int .i64 0)])) },
        { dst := none, op := .stor 2 (.s 7) (.s 20) }])
      (.seq (.ops [{ dst := some 21, op := .bslc 1 [] },
        { dst := some 8, op := .mov (.s 21) }])
      (.seq (.seq (.ops [{ dst := some 9, op := .mov (.c (.int .i64 0)) }])
      (.block 0 (.loop [0, 1, 5, 7, 8, 9] F_wagonpoollaw13_DiskCrash_L0)))
      (.seq (.ops [{ dst := some 62, op := .load 2 true (.s 7) },
        { dst := some 63, op := .load 2 true (.s 5) },
        { dst := some 64, op := .call 13 [(.s 62), (.s 63)] },
        { dst := some 61, op := .mov (.s 64) },
        { dst := some 65, op := .ext (.s 61) 0 },
        { dst := some 66, op := .ext (.s 61) 1 },
        { dst := some 12, op := .box (.c (.agg [(.slc 0 [] true), (.int .i64 0)])) },
        { dst := none, op := .stor 2 (.s 12) (.s 65) },
        { dst := some 13, op := .mov (.s 66) }])
      (.seq (.seq (.ops [{ dst := some 67, op := .mov (.s 13) },
        { dst := some 68, op := .bin .neq (.s 67) (.c (.int .i64 0)) }])
      (.cond (.s 68)
        (.seq (.ops [{ dst := some 69, op := .mov (.s 13) },
          { dst := some 70, op := .bin .eql (.s 69) (.c (.int .i64 1)) },
          { dst := some 71, op := .mov (.s 70) },
          { dst := some 72, op := .fld 0 (.s 5), guard := some (71, true) },
          { dst := some 73, op := .load 1 false (.s 72), guard := some (71, true) },
          { dst := some 74, op := .bin .lss (.s 73) (.c (.int .i64 0)), guard := some (71, true) },
          { dst := some 75, op := .mov (.s 74), guard := some (71, true) },
          { dst := some 76, op := .fld 0 (.s 5), guard := some (75, false) },
          { dst := some 77, op := .load 1 false (.s 76), guard := some (75, false) },
          { dst := some 78, op := .fld 0 (.s 7), guard := some (75, false) },
          { dst := some 79, op := .load 1 false (.s 78), guard := some (75, false) },
          { dst := some 80, op := .len false (.s 79), guard := some (75, false) },
          { dst := some 81, op := .fld 1 (.s 7), guard := some (75, false) },
          { dst := some 82, op := .load 1 false (.s 81), guard := some (75, false) },
          { dst := some 83, op := .bin .sub (.s 80) (.s 82), guard := some (75, false) },
          { dst := some 84, op := .bin .gtr (.s 77) (.s 83), guard := some (75, false) },
          { dst := some 85, op := .pick (.s 75) (.c (.bool true)) (.s 84), guard := some (71, true) },
          { dst := some 86, op := .mov (.s 85), guard := some (71, true) },
          { dst := some 87, op := .fld 1 (.s 5), guard := some (86, false) },
          { dst := some 88, op := .load 1 false (.s 87), guard := some (86, false) },
          { dst := some 89, op := .len false (.s 88), guard := some (86, false) },
          { dst := some 90, op := .bin .gtr (.s 89) (.c (.int .i64 64)), guard := some (86, false) },
          { dst := some 91, op := .pick (.s 86) (.c (.bool true)) (.s 90), guard := some (71, true) },
          { dst := some 92, op := .pick (.s 71) (.s 91) (.c (.bool false)) },
          { dst := some 6, op := .mov (.s 92) }])
        (.ret))
        (.skip)))
      (.seq (.ops [{ dst := some 93, op := .fld 1 (.s 7) },
        { dst := some 94, op := .load 1 false (.s 93) },
        { dst := some 95, op := .fld 0 (.s 5) },
        { dst := some 96, op := .load 1 false (.s 95) },
        { dst := some 97, op := .bin .add (.s 94) (.s 96) },
        { dst := some 14, op := .mov (.s 97) }])
      (.seq (.ops [{ dst := some 15, op := .mov (.c (.int .i64 0)) }])
      (.seq (.block 2 (.loop [0, 1, 5, 8, 12, 14, 15] F_wagonpoollaw13_DiskCrash_L1))
      (.seq (.ops [{ dst := some 113, op := .load 2 true (.s 12) },
        { dst := some 114, op := .call 14 [(.s 113)] },
        { dst := some 112, op := .mov (.s 114) },
        { dst := some 115, op := .ext (.s 112) 0 },
        { dst := some 116, op := .ext (.s 112) 1 },
        { dst := some 16, op := .mov (.s 115) },
        { dst := some 17, op := .mov (.s 116) }])
      (.seq (.seq (.ops [{ dst := some 117, op := .mov (.s 15) },
        { dst := some 118, op := .mov (.s 1) },
        { dst := some 119, op := .bin .lss (.s 117) (.s 118) },
        { dst := some 120, op := .mov (.s 119) },
        { dst := some 121, op := .mov (.s 15), guard := some (120, true) },
        { dst := some 122, op := .mov (.s 0), guard := some (120, true) },
        { dst := some 123, op := .len false (.s 122), guard := some (120, true) },
        { dst := some 124, op := .bin .lss (.s 121) (.s 123), guard := some (120, true) },
        { dst := some 125, op := .pick (.s 120) (.s 124) (.c (.bool false)) },
        { dst := some 126, op := .mov (.s 125) },
        { dst := some 127, op := .mov (.s 16), guard := some (126, false) },
        { dst := some 128, op := .mov (.s 0), guard := some (126, false) },
        { dst := some 129, op := .mov (.s 15), guard := some (126, false) },
        { dst := some 130, op := .slice 1 (.s 128) none (some (.s 129)) none, guard := some (126, false) },
        { dst := some 131, op := .call 15 [(.s 127), (.s 130)], guard := some (126, false) },
        { dst := some 132, op := .un .not (.s 131), guard := some (126, false) },
        { dst := some 133, op := .pick (.s 126) (.c (.bool true)) (.s 132) }])
      (.cond (.s 133)
        (.seq (.ops [{ dst := some 6, op := .mov (.c (.bool false)) }])
        (.ret))
        (.skip)))
      (.seq (.ops [{ dst := some 134, op := .mov (.s 16) },
        { dst := some 135, op := .len false (.s 134) },
        { dst := some 136, op := .mov (.s 15) },
        { dst := some 137, op := .bin .eql (.s 135) (.s 136) },
        { dst := some 138, op := .mov (.s 137) },
        { dst := some 139, op := .fld 1 (.s 5), guard := some (138, false) },
        { dst := some 140, op := .load 1 false (.s 139), guard := some (138, false) },
        { dst := some 141, op := .len false (.s 140), guard := some (138, false) },
        { dst := some 142, op := .bin .gtr (.s 141) (.c (.int .i64 0)), guard := some (138, false) },
        { dst := some 143, op := .pick (.s 138) (.c (.bool true)) (.s 142) },
        { dst := some 6, op := .mov (.s 143) }])
      (.ret))))))))))))))
    [.tmp 6]
theorem tr_wagonpoollaw13_DiskCrash : trF Tryd.prog [28, 2000035, 34, 33, 38] 3 [[0, 1, 5, 7, 8, 9], [0, 1, 5, 8, 12, 14, 15]] = some F_wagonpoollaw13_DiskCrash := by kernel_rfl

/-! wagonpool/wagonpoollaw13.DiskDetects -/
def F_wagonpoollaw13_DiskDetects_L0 : PC :=
  .seq (.seq (.ops [{ dst := some 21, op := .mov (.s 9) },
      { dst := some 22, op := .mov (.s 0) },
      { dst := some 23, op := .len false (.s 22) },
      { dst := some 24, op := .bin .lss (.s 21) (.s 23) }])
    (.cond (.s 24)
      (.skip)
      (.exit 0)))
    (.seq (.block 1 (.seq (.ops [{ dst := some 27, op := .mov (.s 8) },
        { dst := some 28, op := .fld 0 (.s 7) },
        { dst := some 29, op := .load 1 false (.s 28) },
        { dst := some 30, op := .len false (.s 29) },
        { dst := some 31, op := .bslc 1 [(.s 30)] },
        { dst := some 32, op := .app 1 8 (.s 27) (.s 31) },
        { dst := some 8, op := .mov (.s 32) }])
      (.seq (.ops [{ dst := some 34, op := .load 2 true (.s 7) },
        { dst := some 35, op := .mov (.s 0) },
        { dst := some 36, op := .mov (.s 9) },
        { dst := some 37, op := .idxS 1 (.s 35) (.s 36) },
        { dst := some 38, op := .load 1 false (.s 37) },
        { dst := some 39, op := .call 11 [(.s 34), (.s 38)] },
        { dst := some 33, op := .mov (.s 39) },
        { dst := some 40, op := .ext (.s 33) 0 },
        { dst := some 41, op := .ext (.s 33) 1 },
        { dst := some 10, op := .box (.c (.agg [(.slc 0 [] true), (.int .i64 0)])) },
        { dst := none, op := .stor 2 (.s 10) (.s 40) },
        { dst := some 11, op := .mov (.s 41) }])
      (.seq (.seq (.ops [{ dst := some 42, op := .mov (.s 11) },
        { dst := some 43, op := .bin .neq (.s 42) (.c (.int .i64 0)) }])
      (.cond (.s 43)
        (.seq (.ops [{ dst := some 44, op := .mov (.s 11) },
          { dst := some 45, op := .bin .eql (.s 44) (.c (.int .i64 2)) },
          { dst := some 46, op := .mov (.s 45) },
          { dst := some 47, op := .mov (.s 0), guard := some (46, true) },
          { dst := some 48, op := .mov (.s 9), guard := some (46, true) },
          { dst := some 49, op := .idxS 1 (.s 47) (.s 48), guard := some (46, true) },
          { dst := some 50, op := .load 1 false (.s 49), guard := some (46, true) },
          { dst := some 51, op := .len false (.s 50), guard := some (46, true) },
          { dst := some 52, op := .bin .gtr (.s 51) (.c (.int .i64 16000)), guard := some (46, true) },
          { dst := some 53, op := .pick (.s 46) (.s 52) (.c (.bool false)) },
          { dst := some 6, op := .mov (.s 53) }])
        (.ret))
        (.skip)))
      (.ops [{ dst := some 54, op := .load 2 true (.s 10) },
        { dst := none, op := .stor 2 (.s 7) (.s 54) }])))))
    (.ops [{ dst := some 25, op := .mov (.s 9) },
      { dst := some 26, op := .bin .add (.s 25) (.c (.int .i64 1)) },
      { dst := some 9, op := .mov (.s 26) }]))

def F_wagonpoollaw13_DiskDetects_L1 : PC :=
  .seq (.seq (.ops [{ dst := some 80, op := .mov (.s 13) },
      { dst := some 81, op := .bin .add (.s 80) (.c (.int .i64 1)) },
      { dst := some 82, op := .mov (.s 8) },
      { dst := some 83, op := .len false (.s 82) },
      { dst := some 84, op := .bin .lss (.s 81) (.s 83) },
      { dst := some 85, op := .mov (.s 84) },
      { dst := some 86, op := .mov (.s 8), guard := some (85, true) },
      { dst := some 87, op := .mov (.s 13), guard := some (85, true) },
      { dst := some 88, op := .bin .add (.s 87) (.c (.int .i64 1)), guard := some (85, true) },
      { dst := some 89, op := .idxS 1 (.s 86) (.s 88), guard := some (85, true) },
      { dst := some 90, op := .load 1 false (.s 89), guard := some (85, true) },
      { dst := some 91, op := .mov (.s 1), guard := some (85, true) },
      { dst := some 92, op := .bin .leq (.s 90) (.s 91), guard := some (85, true) },
      { dst := some 93, op := .pick (.s 85) (.s 92) (.c (.bool false)) }])
    (.cond (.s 93)
      (.skip)
      (.exit 2)))
    (.block 3 (.ops [{ dst := some 94, op := .mov (.s 13) },
        { dst := some 95, op := .bin .add (.s 94) (.c (.int .i64 1)) },
        { dst := some 13, op := .mov (.s 95) }]))

def F_wagonpoollaw13_DiskDetects : PF :=
  .mk
    (.seq (.ops [{ dst := some 6, op := .mov (.c (.bool false)) }])
      (.seq (.seq (.ops [{ dst := some 17, op := .call 10 [] },
        { dst := some 18, op := .un .not (.s 17) }])
      (.cond (.s 18)
        (.seq (.ops [{ dst := some 6, op := .mov (.c (.bool false)) }])
        (.ret))
        (.skip)))
      (.seq (.ops [{ dst := some 19, op := .bld [(.slc 0 [] true), (.int .i64 0)] [] },
        { dst := some 7, op := .box (.c (.agg [(.slc 0 [] true), (.int .i64 0)])) },
        { dst := none, op := .stor 2 (.s 7) (.s 19) }])
      (.seq (.ops [{ dst := some 20, op := .bslc 1 [] },
        { dst := some 8, op := .mov (.s 20) }])
      (.seq (.seq (.ops [{ dst := some 9, op := .mov (.c (.int .i64 0)) }])
      (.block 0 (.loop [0, 1, 2, 7, 8, 9] F_wagonpoollaw13_DiskDetects_L0)))
      (.seq (.seq (.ops [{ dst := some 55, op := .mov (.s 1) },
        { dst := some 56, op := .bin .lss (.s 55) (.c (.int .i64 0)) },
        { dst := some 57, op := .mov (.s 56) },
        { dst := some 58, op := .mov (.s 1), guard := some (57, false) },
        { dst := some 59, op := .fld 0 (.s 7), guard := some (57, false) },
        { dst := some 60, op := .load 1 false (.s 59), guard := some (57, false) },
        { dst := some 61, op := .len false (.s 60), guard := some (57, false) },
        { dst := some 62, op := .bin .geq (.s 58) (.s 61), guard := some (57, false) },
        { dst := some 63, op := .pick (.s 57) (.c (.bool true)) (.s 62) },
        { dst := some 64, op := .mov (.s 63) },
        { dst := some 65, op := .fld 0 (.s 7), guard := some (64, false) },
        { dst := some 66, op := .load 1 false (.s 65), guard := some (64, false) },
        { dst := some 67, op := .mov (.s 1), guard := some (64, false) },
        { dst := some 68, op := .idxS 1 (.s 66) (.s 67), guard := some (64, false) },
        { dst := some 69, op := .load 1 false (.s 68), guard := some (64, false) },
        { dst := some 70, op := .mov (.s 2), guard := some (64, false) },
        { dst := some 71, op := .bin .eql (.s 69) (.s 70), guard := some (64, false) },
        { dst := some 72, op := .pick (.s 64) (.c (.bool true)) (.s 71) }])
      (.cond (.s 72)
        (.seq (.ops [{ dst := some 6, op := .mov (.c (.bool true)) }])
        (.ret))
        (.skip)))
      (.seq (.ops [{ dst := some 73, op := .fld 0 (.s 7) },
        { dst := some 74, op := .load 1 false (.s 73) },
        { dst := some 75, op := .call 16 [(.s 74), (.c (.slc 0 [] true))] },
        { dst := some 12, op := .mov (.s 75) }])
      (.seq (.ops [{ dst := some 76, op := .mov (.s 12) },
        { dst := some 77, op := .mov (.s 1) },
        { dst := some 78, op := .mov (.s 2) },
        { dst := some 79, op := .idxS 1 (.s 76) (.s 77) },
        { dst := none, op := .stor 1 (.s 79) (.s 78) }])
      (.seq (.ops [{ dst := some 13, op := .mov (.c (.int .i64 0)) }])
      (.seq (.block 2 (.loop [0, 1, 8, 12, 13] F_wagonpoollaw13_DiskDetects_L1))
      (.seq (.seq (.ops [{ dst := some 96, op := .mov (.s 13) },
        { dst := some 97, op := .mov (.s 0) },
        { dst := some 98, op := .len false (.s 97) },
        { dst := some 99, op := .bin .geq (.s 96) (.s 98) }])
      (.cond (.s 99)
        (.seq (.ops [{ dst := some 6, op := .mov (.c (.bool false)) }])
        (.ret))
        (.skip)))
      (.seq (.ops [{ dst := some 101, op := .mov (.s 12) },
        { dst := some 102, op := .bld [(.slc 0 [] true), (.int .i64 0)] [(0, 1, (.s 101))] },
        { dst := some 103, op := .call 14 [(.s 102)] },
        { dst := some 100, op := .mov (.s 103) },
        { dst := some 104, op := .ext (.s 100) 0 },
        { dst := some 105, op := .ext (.s 100) 1 },
        { dst := some 14, op := .mov (.s 104) },
        { dst := some 15, op := .mov (.s 105) }])
      (.seq (.seq (.ops [{ dst := some 106, op := .mov (.s 14) },
        { dst := some 107, op := .mov (.s 0) },
        { dst := some 108, op := .mov (.s 13) },
        { dst := some 109, op := .slice 1 (.s 107) none (some (.s 108)) none },
        { dst := some 110, op := .call 15 [(.s 106), (.s 109)] },
        { dst := some 111, op := .un .not (.s 110) }])
      (.cond (.s 111)
        (.seq (.ops [{ dst := some 6, op := .mov (.c (.bool false)) }])
        (.ret))
        (.skip)))
      (.seq (.ops [{ dst := some 112, op := .mov (.s 8) },
        { dst := some 113, op := .mov (.s 13) },
        { dst := some 114, op := .idxS 1 (.s 112) (.s 113) },
        { dst := some 115, op := .load 1 false (.s 114) },
        { dst := some 116, op := .bin .add (.s 115) (.c (.int .i64 12)) },
        { dst := some 16, op := .mov (.s 116) }])
      (.seq (.seq (.ops [{ dst := some 117, op := .mov (.s 1) },
        { dst := some 118, op := .mov (.s 16) },
        { dst := some 119, op := .bin .lss (.s 117) (.s 118) },
        { dst := some 120, op := .mov (.s 119) },
        { dst := some 121, op := .mov (.s 14), guard := some (120, false) },
        { dst := some 122, op := .len false (.s 121), guard := some (120, false) },
        { dst := some 123, op := .mov (.s 13), guard := some (120, false) },
        { dst := some 124, op := .bin .eql (.s 122) (.s 123), guard := some (120, false) },
        { dst := some 125, op := .pick (.s 120) (.c (.bool true)) (.s 124) }])
      (.cond (.s 125)
        (.seq (.ops [{ dst := some 6, op := .mov (.c (.bool true)) }])
        (.ret))
        (.skip)))
      (.seq (.seq (.ops [{ dst := some 126, op := .mov (.s 16) },
        { dst := some 127, op := .mov (.s 0) },
        { dst := some 128, op := .mov (.s 13) },
        { dst := some 129, op := .idxS 1 (.s 127) (.s 128) },
        { dst := some 130, op := .load 1 false (.s 129) },
        { dst := some 131, op := .len false (.s 130) },
        { dst := some 132, op := .bin .add (.s 126) (.s 131) },
        { dst := some 133, op := .mov (.s 12) },
        { dst := some 134, op := .len false (.s 133) },
        { dst := some 135, op := .bin .gtr (.s 132) (.s 134) }])
      (.cond (.s 135)
        (.seq (.ops [{ dst := some 6, op := .mov (.c (.bool false)) }])
        (.ret))
        (.skip)))
      (.seq (.ops [{ dst := some 136, op := .mov (.s 8) },
        { dst := some 137, op := .mov (.s 13) },
        { dst := some 138, op := .idxS 1 (.s 136) (.s 137) },
        { dst := some 139, op := .load 1 false (.s 138) },
        { dst := some 140, op := .mov (.s 0) },
        { dst := some 141, op := .mov (.s 13) },
        { dst := some 142, op := .idxS 1 (.s 140) (.s 141) },
        { dst := some 143, op := .load 1 false (.s 142) },
        { dst := some 144, op := .call 17 [(.s 139), (.s 143)] },
        { dst := some 145, op := .mov (.s 8) },
        { dst := some 146, op := .mov (.s 13) },
        { dst := some 147, op := .idxS 1 (.s 145) (.s 146) },
        { dst := some 148, op := .load 1 false (.s 147) },
        { dst := some 149, op := .mov (.s 12) },
        { dst := some 150, op := .mov (.s 16) },
        { dst := some 151, op := .mov (.s 16) },
        { dst := some 152, op := .mov (.s 0) },
        { dst := some 153, op := .mov (.s 13) },
        { dst := some 154, op := .idxS 1 (.s 152) (.s 153) },
        { dst := some 155, op := .load 1 false (.s 154) },
        { dst := some 156, op := .len false (.s 155) },
        { dst := some 157, op := .bin .add (.s 151) (.s 156) },
        { dst := some 158, op := .slice 1 (.s 149) (some (.s 150)) (some (.s 157)) none },
        { dst := some 159, op := .call 17 [(.s 148), (.s 158)] },
        { dst := some 160, op := .bin .eql (.s 144) (.s 159) },
        { dst := some 6, op := .mov (.s 160) }])
      (.ret))))))))))))))))))
    [.tmp 6]
theorem tr_wagonpoollaw13_DiskDetects : trF Tryd.prog [28, 2000035, 34, 33, 38] 4 [[0, 1, 2, 7, 8, 9], [0, 1, 8, 12, 13]] = some F_wagonpoollaw13_DiskDetects := by kernel_rfl

/-! wagonpool/wagonpoollaw13.DiskDurable -/
def F_wagonpoollaw13_DiskDurable_L0 : PC :=
  .seq (.seq (.ops [{ dst := some 22, op := .mov (.s 5) },
      { dst := some 23, op := .mov (.s 0) },
      { dst := some 24, op := .len false (.s 23) },
      { dst := some 25, op := .bin .lss (.s 22) (.s 24) }])
    (.cond (.s 25)
      (.skip)
      (.exit 0)))
    (.seq (.block 1 (.seq (.ops [{ dst := some 29, op := .load 2 true (.s 3) },
        { dst := some 30, op := .call 14 [(.s 29)] },
        { dst := some 28, op := .mov (.s 30) },
        { dst := some 31, op := .ext (.s 28) 0 },
        { dst := some 32, op := .ext (.s 28) 1 },
        { dst := some 6, op := .mov (.s 31) },
        { dst := some 7, op := .mov (.s 32) }])
      (.seq (.seq (.ops [{ dst := some 33, op := .mov (.s 0) },
        { dst := some 34, op := .mov (.s 5) },
        { dst := some 35, op := .idxS 4 (.s 33) (.s 34) },
        { dst := some 36, op := .fld 0 (.s 35) },
        { dst := some 37, op := .load 1 false (.s 36) }])
      (.block 2 (.seq (.ops [{ dst := some 39, op := .bin .eql (.s 37) (.c (.int .i64 0)) },
          { dst := some 38, op := .mov (.s 39) }])
        (.cond (.s 38)
          (.seq (.ops [{ dst := some 41, op := .load 2 true (.s 3) },
            { dst := some 42, op := .mov (.s 0) },
            { dst := some 43, op := .mov (.s 5) },
            { dst := some 44, op := .idxS 4 (.s 42) (.s 43) },
            { dst := some 45, op := .fld 1 (.s 44) },
            { dst := some 46, op := .load 1 false (.s 45) },
            { dst := some 47, op := .call 11 [(.s 41), (.s 46)] },
            { dst := some 40, op := .mov (.s 47) },
            { dst := some 48, op := .ext (.s 40) 0 },
            { dst := some 49, op := .ext (.s 40) 1 },
            { dst := some 8, op := .box (.c (.agg [(.slc 0 [] true), (.int .i64 0)])) },
            { dst := none, op := .stor 2 (.s 8) (.s 48) },
            { dst := some 9, op := .mov (.s 49) }])
          (.seq (.seq (.ops [{ dst := some 50, op := .mov (.s 9) },
            { dst := some 51, op := .bin .neq (.s 50) (.c (.int .i64 0)) }])
          (.cond (.s 51)
            (.seq (.seq (.ops [{ dst := some 52, op := .mov (.s 9) },
              { dst := some 53, op := .bin .neq (.s 52) (.c (.int .i64 2)) },
              { dst := some 54, op := .mov (.s 53) },
              { dst := some 55, op := .mov (.s 0), guard := some (54, false) },
              { dst := some 56, op := .mov (.s 5), guard := some (54, false) },
              { dst := some 57, op := .idxS 4 (.s 55) (.s 56), guard := some (54, false) },
              { dst := some 58, op := .fld 1 (.s 57), guard := some (54, false) },
              { dst := some 59, op := .load 1 false (.s 58), guard := some (54, false) },
              { dst := some 60, op := .len false (.s 59), guard := some (54, false) },
              { dst := some 61, op := .bin .leq (.s 60) (.c (.int .i64 16000)), guard := some (54, false) },
              { dst := some 62, op := .pick (.s 54) (.c (.bool true)) (.s 61) }])
            (.cond (.s 62)
              (.seq (.ops [{ dst := some 2, op := .mov (.c (.bool false)) }])
              (.ret))
              (.skip)))
            (.exit 1))
            (.skip)))
          (.seq (.ops [{ dst := some 63, op := .load 2 true (.s 8) },
            { dst := none, op := .stor 2 (.s 3) (.s 63) }])
          (.seq (.any [({ dst := some 64, op := .bslc 1 [] }, false, []),
            ({ dst := some 65, op := .mov (.s 6) }, false, []),
            ({ dst := some 66, op := .app 1 24 (.s 64) (.s 65) }, true, []),
            ({ dst := some 67, op := .mov (.s 0) }, false, []),
            ({ dst := some 68, op := .mov (.s 5) }, false, []),
            ({ dst := some 69, op := .idxS 4 (.s 67) (.s 68) }, false, [2]),
            ({ dst := some 70, op := .fld 1 (.s 69) }, false, [2]),
            ({ dst := some 71, op := .load 1 false (.s 70) }, false, [2]),
            ({ dst := some 72, op := .bslc 1 [(.s 71)] }, false, [2]),
            ({ dst := some 73, op := .app 1 24 (.s 66) (.s 72) }, false, []),
            ({ dst := some 6, op := .mov (.s 73) }, false, [])])
          (.seq (.ops [{ dst := some 75, op := .load 2 true (.s 3) },
            { dst := some 76, op := .call 14 [(.s 75)] },
            { dst := some 74, op := .mov (.s 76) },
            { dst := some 77, op := .ext (.s 74) 0 },
            { dst := some 78, op := .ext (.s 74) 1 },
            { dst := some 10, op := .mov (.s 77) },
            { dst := some 11, op := .mov (.s 78) }])
          (.seq (.ops [{ dst := some 79, op := .mov (.s 10) },
            { dst := some 80, op := .mov (.s 6) },
            { dst := some 81, op := .call 18 [(.s 79), (.s 80)] },
            { dst := some 82, op := .un .not (.s 81) },
            { dst := some 83, op := .mov (.s 82) },
            { dst := some 84, op := .mov (.s 11), guard := some (83, false) },
            { dst := some 85, op := .fld 0 (.s 3), guard := some (83, false) },
            { dst := some 86, op := .load 1 false (.s 85), guard := some (83, false) },
            { dst := some 87, op := .len false (.s 86), guard := some (83, false) },
            { dst := some 88, op := .bin .neq (.s 84) (.s 87), guard := some (83, false) },
            { dst := some 89, op := .pick (.s 83) (.c (.bool true)) (.s 88) }])
          (.cond (.s 89)
            (.seq (.ops [{ dst := some 2, op := .mov (.c (.bool false)) }])
            (.ret))
            (.skip))))))))
          (.seq (.ops [{ dst := some 91, op := .bin .eql (.s 37) (.c (.int .i64 1)) },
            { dst := some 90, op := .mov (.s 91) }])
          (.cond (.s 90)
            (.seq (.ops [{ dst := some 92, op := .load 2 true (.s 3) },
              { dst := some 93, op := .call 12 [(.s 92)] },
              { dst := none, op := .stor 2 (.s 3) (.s 93) }])
            (.ops [{ dst := some 94, op := .mov (.s 6) },
              { dst := some 4, op := .mov (.s 94) }]))
            (.seq (.ops [{ dst := some 96, op := .bin .eql (.s 37) (.c (.int .i64 2)) },
              { dst := some 95, op := .mov (.s 96) }])
            (.cond (.s 95)
              (.seq (.ops [{ dst := some 98, op := .load 2 true (.s 3) },
                { dst := some 99, op := .mov (.s 0) },
                { dst := some 100, op := .mov (.s 5) },
                { dst := some 101, op := .idxS 4 (.s 99) (.s 100) },
                { dst := some 102, op := .fld 2 (.s 101) },
                { dst := some 103, op := .load 2 true (.s 102) },
                { dst := some 104, op := .call 13 [(.s 98), (.s 103)] },
                { dst := some 97, op := .mov (.s 104) },
                { dst := some 105, op := .ext (.s 97) 0 },
                { dst := some 106, op := .ext (.s 97) 1 },
                { dst := some 12, op := .box (.c (.agg [(.slc 0 [] true), (.int .i64 0)])) },
                { dst := none, op := .stor 2 (.s 12) (.s 105) },
                { dst := some 13, op := .mov (.s 106) }])
              (.seq (.seq (.ops [{ dst := some 107, op := .mov (.s 13) },
                { dst := some 108, op := .bin .neq (.s 107) (.c (.int .i64 0)) }])
              (.cond (.s 108)
                (.exit 1)
                (.skip)))
              (.seq (.ops [{ dst := some 110, op := .load 2 true (.s 12) },
                { dst := some 111, op := .call 19 [(.s 110)] },
                { dst := some 109, op := .mov (.s 111) },
                { dst := some 112, op := .ext (.s 109) 0 },
                { dst := some 113, op := .ext (.s 109) 1 },
                { dst := some 14, op := .box (.c (.agg [(.slc 0 [] true), (.int .i64 0)])) },
                { dst := none, op := .stor 2 (.s 14) (.s 112) },
                { dst := some 15, op := .mov (.s 113) }])
              (.seq (.seq (.ops [{ dst := some 114, op := .mov (.s 15) },
                { dst := some 115, op := .mov (.s 4) },
                { dst := some 116, op := .call 15 [(.s 114), (.s 115)] },
                { dst := some 117, op := .un .not (.s 116) },
                { dst := some 118, op := .mov (.s 117) },
                { dst := some 119, op := .fld 1 (.s 14), guard := some (118, false) },
                { dst := some 120, op := .load 1 false (.s 119), guard := some (118, false) },
                { dst := some 121, op := .fld 0 (.s 14), guard := some (118, false) },
                { dst := some 122, op := .load 1 false (.s 121), guard := some (118, false) },
                { dst := some 123, op := .len false (.s 122), guard := some (118, false) },
                { dst := some 124, op := .bin .neq (.s 120) (.s 123), guard := some (118, false) },
                { dst := some 125, op := .pick (.s 118) (.c (.bool true)) (.s 124) }])
              (.cond (.s 125)
                (.seq (.ops [{ dst := some 2, op := .mov (.c (.bool false)) }])
                (.ret))
                (.skip)))
              (.seq (.ops [{ dst := some 126, op := .load 2 true (.s 14) },
                { dst := none, op := .stor 2 (.s 3) (.s 126) }])
              (.ops [{ dst := some 127, op := .mov (.s 15) },
                { dst := some 4, op := .mov (.s 127) }]))))))
              (.skip)))))))))
      (.seq (.ops [{ dst := some 129, op := .load 2 true (.s 3) },
        { dst := some 130, op := .call 14 [(.s 129)] },
        { dst := some 128, op := .mov (.s 130) },
        { dst := some 131, op := .ext (.s 128) 0 },
        { dst := some 132, op := .ext (.s 128) 1 },
        { dst := some 16, op := .mov (.s 131) },
        { dst := some 17, op := .mov (.s 132) }])
      (.seq (.ops [{ dst := some 133, op := .mov (.s 16) },
        { dst := some 134, op := .mov (.s 4) },
        { dst := some 135, op := .call 15 [(.s 133), (.s 134)] },
        { dst := some 136, op := .un .not (.s 135) }])
      (.cond (.s 136)
        (.seq (.ops [{ dst := some 2, op := .mov (.c (.bool false)) }])
        (.ret))
        (.skip)))))))
    (.ops [{ dst := some 26, op := .mov (.s 5) },
      { dst := some 27, op := .bin .add (.s 26) (.c (.int .i64 1)) },
      { dst := some 5, op := .mov (.s 27) }]))

def F_wagonpoollaw13_DiskDurable : PF :=
  .mk
    (.seq (.ops [{ dst := some 2, op := .mov (.c (.bool false)) }])
      (.seq (.seq (.ops [{ dst := some 18, op := .call 10 [] },
        { dst := some 19, op := .un .not (.s 18) }])
      (.cond (.s 19)
        (.seq (.ops [{ dst := some 2, op := .mov (.c (.bool false)) }])
        (.ret))
        (.skip)))
      (.seq (.ops [{ dst := some 20, op := .bld [(.slc 0 [] true), (.int .i64 0)] [] },
        { dst := some 3, op := .box (.c (.agg [(.slc 0 [] true), (.int .i64 0)])) },
        { dst := none, op := .stor 2 (.s 3) (.s 20) }])
      (.seq (.ops [{ dst := some 21, op := .bslc 1 [] },
        { dst := some 4, op := .mov (.s 21) }])
      (.seq (.seq (.ops [{ dst := some 5, op := .mov (.c (.int .i64 0)) }])
      (.block 0 (.loop [0, 3, 4, 5] F_wagonpoollaw13_DiskDurable_L0)))
      (.seq (.ops [{ dst := some 2, op := .mov (.c (.bool true)) }])
      (.ret)))))))
    [.tmp 2]
theorem tr_wagonpoollaw13_DiskDurable : trF Tryd.prog [28, 2000035, 34, 33, 38] 5 [[0, 3, 4, 5]] = some F_wagonpoollaw13_DiskDurable := by kernel_rfl

/-! wagonpool/wagonpoollaw13.DiskMatchesReference -/
def F_wagonpoollaw13_DiskMatchesReference : PF :=
  .mk
    (.seq (.ops [{ dst := some 3, op := .box (.s 0) },
        { dst := some 5, op := .box (.s 2) },
        { dst := some 6, op := .mov (.c (.bool false)) }])
      (.seq (.seq (.ops [{ dst := some 23, op := .call 10 [] },
        { dst := some 24, op := .un .not (.s 23) }])
      (.cond (.s 24)
        (.seq (.ops [{ dst := some 6, op := .mov (.c (.bool false)) }])
        (.ret))
        (.skip)))
      (.seq (.ops [{ dst := some 26, op := .load 2 true (.s 3) },
        { dst := some 27, op := .mov (.s 1) },
        { dst := some 28, op := .call 11 [(.s 26), (.s 27)] },
        { dst := some 25, op := .mov (.s 28) },
        { dst := some 29, op := .ext (.s 25) 0 },
        { dst := some 30, op := .ext (.s 25) 1 },
        { dst := some 7, op := .box (.c (.agg [(.slc 0 [] true), (.int .i64 0)])) },
        { dst := none, op := .stor 2 (.s 7) (.s 29) },
        { dst := some 8, op := .mov (.s 30) }])
      (.seq (.ops [{ dst := some 32, op := .load 2 true (.s 3) },
        { dst := some 33, op := .mov (.s 1) },
        { dst := some 34, op := .call 20 [(.s 32), (.s 33)] },
        { dst := some 31, op := .mov (.s 34) },
        { dst := some 35, op := .ext (.s 31) 0 },
        { dst := some 36, op := .ext (.s 31) 1 },
        { dst := some 9, op := .box (.c (.agg [(.slc 0 [] true), (.int .i64 0)])) },
        { dst := none, op := .stor 2 (.s 9) (.s 35) },
        { dst := some 10, op := .mov (.s 36) }])
      (.seq (.ops [{ dst := some 38, op := .load 2 true (.s 3) },
        { dst := some 39, op := .load 2 true (.s 5) },
        { dst := some 40, op := .call 13 [(.s 38), (.s 39)] },
        { dst := some 37, op := .mov (.s 40) },
        { dst := some 41, op := .ext (.s 37) 0 },
        { dst := some 42, op := .ext (.s 37) 1 },
        { dst := some 11, op := .box (.c (.agg [(.slc 0 [] true), (.int .i64 0)])) },
        { dst := none, op := .stor 2 (.s 11) (.s 41) },
        { dst := some 12, op := .mov (.s 42) }])
      (.seq (.ops [{ dst := some 44, op := .load 2 true (.s 3) },
        { dst := some 45, op := .load 2 true (.s 5) },
        { dst := some 46, op := .call 21 [(.s 44), (.s 45)] },
        { dst := some 43, op := .mov (.s 46) },
        { dst := some 47, op := .ext (.s 43) 0 },
        { dst := some 48, op := .ext (.s 43) 1 },
        { dst := some 13, op := .box (.c (.agg [(.slc 0 [] true), (.int .i64 0)])) },
        { dst := none, op := .stor 2 (.s 13) (.s 47) },
        { dst := some 14, op := .mov (.s 48) }])
      (.seq (.ops [{ dst := some 50, op := .load 2 true (.s 3) },
        { dst := some 51, op := .call 14 [(.s 50)] },
        { dst := some 49, op := .mov (.s 51) },
        { dst := some 52, op := .ext (.s 49) 0 },
        { dst := some 53, op := .ext (.s 49) 1 },
        { dst := some 15, op := .mov (.s 52) },
        { dst := some 16, op := .mov (.s 53) }])
      (.seq (.ops [{ dst := some 55, op := .load 2 true (.s 3) },
        { dst := some 56, op := .call 22 [(.s 55)] },
        { dst := some 54, op := .mov (.s 56) },
        { dst := some 57, op := .ext (.s 54) 0 },
        { dst := some 58, op := .ext (.s 54) 1 },
        { dst := some 17, op := .mov (.s 57) },
        { dst := some 18, op := .mov (.s 58) }])
      (.seq (.ops [{ dst := some 60, op := .load 2 true (.s 3) },
        { dst := some 61, op := .call 19 [(.s 60)] },
        { dst := some 59, op := .mov (.s 61) },
        { dst := some 62, op := .ext (.s 59) 0 },
        { dst := some 63, op := .ext (.s 59) 1 },
        { dst := some 19, op := .box (.c (.agg [(.slc 0 [] true), (.int .i64 0)])) },
        { dst := none, op := .stor 2 (.s 19) (.s 62) },
        { dst := some 20, op := .mov (.s 63) }])
      (.seq (.ops [{ dst := some 65, op := .load 2 true (.s 3) },
        { dst := some 66, op := .call 23 [(.s 65)] },
        { dst := some 64, op := .mov (.s 66) },
        { dst := some 67, op := .ext (.s 64) 0 },
        { dst := some 68, op := .ext (.s 64) 1 },
        { dst := some 21, op := .box (.c (.agg [(.slc 0 [] true), (.int .i64 0)])) },
        { dst := none, op := .stor 2 (.s 21) (.s 67) },
        { dst := some 22, op := .mov (.s 68) }])
      (.seq (.seq (.ops [{ dst := some 69, op := .load 2 true (.s 7) },
        { dst := some 70, op := .load 2 true (.s 9) },
        { dst := some 71, op := .call 24 [(.s 69), (.s 70)] },
        { dst := some 72, op := .un .not (.s 71) },
        { dst := some 73, op := .mov (.s 72) },
        { dst := some 74, op := .mov (.s 8), guard := some (73, false) },
        { dst := some 75, op := .mov (.s 10), guard := some (73, false) },
        { dst := some 76, op := .bin .neq (.s 74) (.s 75), guard := some (73, false) },
        { dst := some 77, op := .pick (.s 73) (.c (.bool true)) (.s 76) },
        { dst := some 78, op := .mov (.s 77) },
        { dst := some 79, op := .load 2 true (.s 11), guard := some (78, false) },
        { dst := some 80, op := .load 2 true (.s 13), guard := some (78, false) },
        { dst := some 81, op := .call 24 [(.s 79), (.s 80)], guard := some (78, false) },
        { dst := some 82, op := .un .not (.s 81), guard := some (78, false) },
        { dst := some 83, op := .pick (.s 78) (.c (.bool true)) (.s 82) },
        { dst := some 84, op := .mov (.s 83) },
        { dst := some 85, op := .mov (.s 12), guard := some (84, false) },
        { dst := some 86, op := .mov (.s 14), guard := some (84, false) },
        { dst := some 87, op := .bin .neq (.s 85) (.s 86), guard := some (84, false) },
        { dst := some 88, op := .pick (.s 84) (.c (.bool true)) (.s 87) },
        { dst := some 89, op := .mov (.s 88) },
        { dst := some 90, op := .mov (.s 15), guard := some (89, false) },
        { dst := some 91, op := .mov (.s 17), guard := some (89, false) },
        { dst := some 92, op := .call 18 [(.s 90), (.s 91)], guard := some (89, false) },
        { dst := some 93, op := .un .not (.s 92), guard := some (89, false) },
        { dst := some 94, op := .pick (.s 89) (.c (.bool true)) (.s 93) },
        { dst := some 95, op := .mov (.s 94) },
        { dst := some 96, op := .mov (.s 16), guard := some (95, false) },
        { dst := some 97, op := .mov (.s 18), guard := some (95, false) },
        { dst := some 98, op := .bin .neq (.s 96) (.s 97), guard := some (95, false) },
        { dst := some 99, op := .pick (.s 95) (.c (.bool true)) (.s 98) }])
      (.cond (.s 99)
        (.seq (.ops [{ dst := some 6, op := .mov (.c (.bool false)) }])
        (.ret))
        (.skip)))
      (.seq (.ops [{ dst := some 100, op := .load 2 true (.s 19) },
        { dst := some 101, op := .load 2 true (.s 21) },
        { dst := some 102, op := .call 24 [(.s 100), (.s 101)] },
        { dst := some 103, op := .mov (.s 102) },
        { dst := some 104, op := .mov (.s 20), guard := some (103, true) },
        { dst := some 105, op := .mov (.s 22), guard := some (103, true) },
        { dst := some 106, op := .call 18 [(.s 104), (.s 105)], guard := some (103, true) },
        { dst := some 107, op := .pick (.s 103) (.s 106) (.c (.bool false)) },
        { dst := some 108, op := .mov (.s 107) },
        { dst := some 109, op := .load 2 true (.s 3), guard := some (108, true) },
        { dst := some 110, op := .call 12 [(.s 109)], guard := some (108, true) },
        { dst := some 111, op := .load 2 true (.s 3), guard := some (108, true) },
        { dst := some 112, op := .call 25 [(.s 111)], guard := some (108, true) },
        { dst := some 113, op := .call 24 [(.s 110), (.s 112)], guard := some (108, true) },
        { dst := some 114, op := .pick (.s 108) (.s 113) (.c (.bool false)) },
        { dst := some 6, op := .mov (.s 114) }])
      (.ret)))))))))))))
    [.tmp 6]
theorem tr_wagonpoollaw13_DiskMatchesReference : trF Tryd.prog [28, 2000035, 34, 33, 38] 6 [] = some F_wagonpoollaw13_DiskMatchesReference := by kernel_rfl

/-! wagonpool/wagonpoollaw13.DiskOpens -/
def F_wagonpoollaw13_DiskOpens : PF :=
  .mk
    (.seq (.ops [{ dst := some 2, op := .box (.s 0) },
        { dst := some 4, op := .mov (.c (.bool false)) }])
      (.seq (.seq (.ops [{ dst := some 15, op := .call 10 [] },
        { dst := some 16, op := .un .not (.s 15) }])
      (.cond (.s 16)
        (.seq (.ops [{ dst := some 4, op := .mov (.c (.bool false)) }])
        (.ret))
        (.skip)))
      (.seq (.ops [{ dst := some 18, op := .load 2 true (.s 2) },
        { dst := some 19, op := .call 14 [(.s 18)] },
        { dst := some 17, op := .mov (.s 19) },
        { dst := some 20, op := .ext (.s 17) 0 },
        { dst := some 21, op := .ext (.s 17) 1 },
        { dst := some 5, op := .mov (.s 20) },
        { dst := some 6, op := .mov (.s 21) }])
      (.seq (.ops [{ dst := some 23, op := .load 2 true (.s 2) },
        { dst := some 24, op := .call 19 [(.s 23)] },
        { dst := some 22, op := .mov (.s 24) },
        { dst := some 25, op := .ext (.s 22) 0 },
        { dst := some 26, op := .ext (.s 22) 1 },
        { dst := some 7, op := .box (.c (.agg [(.slc 0 [] true), (.int .i64 0)])) },
        { dst := none, op := .stor 2 (.s 7) (.s 25) },
        { dst := some 8, op := .mov (.s 26) }])
      (.seq (.ops [{ dst := some 28, op := .load 2 true (.s 7) },
        { dst := some 29, op := .call 19 [(.s 28)] },
        { dst := some 27, op := .mov (.s 29) },
        { dst := some 30, op := .ext (.s 27) 0 },
        { dst := some 31, op := .ext (.s 27) 1 },
        { dst := some 9, op := .box (.c (.agg [(.slc 0 [] true), (.int .i64 0)])) },
        { dst := none, op := .stor 2 (.s 9) (.s 30) },
        { dst := some 10, op := .mov (.s 31) }])
      (.seq (.seq (.ops [{ dst := some 32, op := .mov (.s 5) },
        { dst := some 33, op := .mov (.s 8) },
        { dst := some 34, op := .call 18 [(.s 32), (.s 33)] },
        { dst := some 35, op := .un .not (.s 34) },
        { dst := some 36, op := .mov (.s 35) },
        { dst := some 37, op := .mov (.s 5), guard := some (36, false) },
        { dst := some 38, op := .mov (.s 10), guard := some (36, false) },
        { dst := some 39, op := .call 18 [(.s 37), (.s 38)], guard := some (36, false) },
        { dst := some 40, op := .un .not (.s 39), guard := some (36, false) },
        { dst := some 41, op := .pick (.s 36) (.c (.bool true)) (.s 40) },
        { dst := some 42, op := .mov (.s 41) },
        { dst := some 43, op := .load 2 true (.s 7), guard := some (42, false) },
        { dst := some 44, op := .load 2 true (.s 9), guard := some (42, false) },
        { dst := some 45, op := .call 24 [(.s 43), (.s 44)], guard := some (42, false) },
        { dst := some 46, op := .un .not (.s 45), guard := some (42, false) },
        { dst := some 47, op := .pick (.s 42) (.c (.bool true)) (.s 46) },
        { dst := some 48, op := .mov (.s 47) },
        { dst := some 49, op := .fld 0 (.s 7), guard := some (48, false) },
        { dst := some 50, op := .load 1 false (.s 49), guard := some (48, false) },
        { dst := some 51, op := .len false (.s 50), guard := some (48, false) },
        { dst := some 52, op := .mov (.s 6), guard := some (48, false) },
        { dst := some 53, op := .bin .neq (.s 51) (.s 52), guard := some (48, false) },
        { dst := some 54, op := .pick (.s 48) (.c (.bool true)) (.s 53) },
        { dst := some 55, op := .mov (.s 54) },
        { dst := some 56, op := .fld 1 (.s 7), guard := some (55, false) },
        { dst := some 57, op := .load 1 false (.s 56), guard := some (55, false) },
        { dst := some 58, op := .mov (.s 6), guard := some (55, false) },
        { dst := some 59, op := .bin .neq (.s 57) (.s 58), guard := some (55, false) },
        { dst := some 60, op := .pick (.s 55) (.c (.bool true)) (.s 59) }])
      (.cond (.s 60)
        (.seq (.ops [{ dst := some 4, op := .mov (.c (.bool false)) }])
        (.ret))
        (.skip)))
      (.seq (.ops [{ dst := some 62, op := .load 2 true (.s 7) },
        { dst := some 63, op := .mov (.s 1) },
        { dst := some 64, op := .call 11 [(.s 62), (.s 63)] },
        { dst := some 61, op := .mov (.s 64) },
        { dst := some 65, op := .ext (.s 61) 0 },
        { dst := some 66, op := .ext (.s 61) 1 },
        { dst := some 11, op := .box (.c (.agg [(.slc 0 [] true), (.int .i64 0)])) },
        { dst := none, op := .stor 2 (.s 11) (.s 65) },
        { dst := some 12, op := .mov (.s 66) }])
      (.seq (.seq (.ops [{ dst := some 67, op := .mov (.s 12) },
        { dst := some 68, op := .bin .neq (.s 67) (.c (.int .i64 0)) }])
      (.cond (.s 68)
        (.seq (.ops [{ dst := some 69, op := .mov (.s 12) },
          { dst := some 70, op := .bin .eql (.s 69) (.c (.int .i64 2)) },
          { dst := some 71, op := .mov (.s 70) },
          { dst := some 72, op := .mov (.s 1), guard := some (71, true) },
          { dst := some 73, op := .len false (.s 72), guard := some (71, true) },
          { dst := some 74, op := .bin .gtr (.s 73) (.c (.int .i64 16000)), guard := some (71, true) },
          { dst := some 75, op := .pick (.s 71) (.s 74) (.c (.bool false)) },
          { dst := some 4, op := .mov (.s 75) }])
        (.ret))
        (.skip)))
      (.seq (.ops [{ dst := some 77, op := .load 2 true (.s 11) },
        { dst := some 78, op := .call 14 [(.s 77)] },
        { dst := some 76, op := .mov (.s 78) },
        { dst := some 79, op := .ext (.s 76) 0 },
        { dst := some 80, op := .ext (.s 76) 1 },
        { dst := some 13, op := .mov (.s 79) },
        { dst := some 14, op := .mov (.s 80) }])
      (.seq (.ops [{ dst := some 81, op := .mov (.s 13) },
        { dst := some 82, op := .len false (.s 81) },
        { dst := some 83, op := .mov (.s 5) },
        { dst := some 84, op := .len false (.s 83) },
        { dst := some 85, op := .bin .add (.s 84) (.c (.int .i64 1)) },
        { dst := some 86, op := .bin .eql (.s 82) (.s 85) },
        { dst := some 87, op := .mov (.s 86) },
        { dst := some 88, op := .mov (.s 13), guard := some (87, true) },
        { dst := some 89, op := .mov (.s 5), guard := some (87, true) },
        { dst := some 90, op := .call 15 [(.s 88), (.s 89)], guard := some (87, true) },
        { dst := some 91, op := .pick (.s 87) (.s 90) (.c (.bool false)) },
        { dst := some 92, op := .mov (.s 91) },
        { dst := some 93, op := .mov (.s 13), guard := some (92, true) },
        { dst := some 94, op := .mov (.s 5), guard := some (92, true) },
        { dst := some 95, op := .len false (.s 94), guard := some (92, true) },
        { dst := some 96, op := .idxS 1 (.s 93) (.s 95), guard := some (92, true) },
        { dst := some 97, op := .load 1 false (.s 96), guard := some (92, true) },
        { dst := some 98, op := .conv .str (.s 97), guard := some (92, true) },
        { dst := some 99, op := .mov (.s 1), guard := some (92, true) },
        { dst := some 100, op := .conv .str (.s 99), guard := some (92, true) },
        { dst := some 101, op := .bin .eql (.s 98) (.s 100), guard := some (92, true) },
        { dst := some 102, op := .pick (.s 92) (.s 101) (.c (.bool false)) },
        { dst := some 103, op := .mov (.s 102) },
        { dst := some 104, op := .mov (.s 14), guard := some (103, true) },
        { dst := some 105, op := .fld 0 (.s 11), guard := some (103, true) },
        { dst := some 106, op := .load 1 false (.s 105), guard := some (103, true) },
        { dst := some 107, op := .len false (.s 106), guard := some (103, true) },
        { dst := some 108, op := .bin .eql (.s 104) (.s 107), guard := some (103, true) },
        { dst := some 109, op := .pick (.s 103) (.s 108) (.c (.bool false)) },
        { dst := some 4, op := .mov (.s 109) }])
      (.ret)))))))))))
    [.tmp 4]
theorem tr_wagonpoollaw13_DiskOpens : trF Tryd.prog [28, 2000035, 34, 33, 38] 7 [] = some F_wagonpoollaw13_DiskOpens := by kernel_rfl

/-! wagonpool/wagonpoollaw13.DiskPrefixes -/
def F_wagonpoollaw13_DiskPrefixes_L0 : PC :=
  .seq (.seq (.ops [{ dst := some 30, op := .mov (.s 8) },
      { dst := some 31, op := .mov (.s 5) },
      { dst := some 32, op := .len false (.s 31) },
      { dst := some 33, op := .bin .lss (.s 30) (.s 32) }])
    (.cond (.s 33)
      (.skip)
      (.exit 0)))
    (.seq (.block 1 (.seq (.ops [{ dst := some 37, op := .load 2 true (.s 7) },
        { dst := some 38, op := .mov (.s 5) },
        { dst := some 39, op := .mov (.s 8) },
        { dst := some 40, op := .idxS 1 (.s 38) (.s 39) },
        { dst := some 41, op := .load 1 false (.s 40) },
        { dst := some 42, op := .call 11 [(.s 37), (.s 41)] },
        { dst := some 36, op := .mov (.s 42) },
        { dst := some 43, op := .ext (.s 36) 0 },
        { dst := some 44, op := .ext (.s 36) 1 },
        { dst := some 9, op := .box (.c (.agg [(.slc 0 [] true), (.int .i64 0)])) },
        { dst := none, op := .stor 2 (.s 9) (.s 43) },
        { dst := some 10, op := .mov (.s 44) }])
      (.seq (.seq (.ops [{ dst := some 45, op := .mov (.s 10) },
        { dst := some 46, op := .bin .neq (.s 45) (.c (.int .i64 0)) }])
      (.cond (.s 46)
        (.seq (.ops [{ dst := some 4, op := .mov (.c (.bool false)) }])
        (.ret))
        (.skip)))
      (.ops [{ dst := some 47, op := .load 2 true (.s 9) },
        { dst := none, op := .stor 2 (.s 7) (.s 47) }]))))
    (.ops [{ dst := some 34, op := .mov (.s 8) },
      { dst := some 35, op := .bin .add (.s 34) (.c (.int .i64 1)) },
      { dst := some 8, op := .mov (.s 35) }]))

def F_wagonpoollaw13_DiskPrefixes : PF :=
  .mk
    (.seq (.ops [{ dst := some 4, op := .mov (.c (.bool false)) }])
      (.seq (.seq (.ops [{ dst := some 13, op := .call 10 [] },
        { dst := some 14, op := .un .not (.s 13) }])
      (.cond (.s 14)
        (.seq (.ops [{ dst := some 4, op := .mov (.c (.bool false)) }])
        (.ret))
        (.skip)))
      (.seq (.ops [{ dst := some 16, op := .mov (.s 0) },
        { dst := some 17, op := .bld [(.slc 0 [] true), (.int .i64 0)] [(0, 1, (.s 16))] },
        { dst := some 18, op := .call 14 [(.s 17)] },
        { dst := some 15, op := .mov (.s 18) },
        { dst := some 19, op := .ext (.s 15) 0 },
        { dst := some 20, op := .ext (.s 15) 1 },
        { dst := some 5, op := .mov (.s 19) },
        { dst := some 6, op := .mov (.s 20) }])
      (.seq (.seq (.ops [{ dst := some 21, op := .mov (.s 6) },
        { dst := some 22, op := .bin .lss (.s 21) (.c (.int .i64 0)) },
        { dst := some 23, op := .mov (.s 22) },
        { dst := some 24, op := .mov (.s 6), guard := some (23, false) },
        { dst := some 25, op := .mov (.s 0), guard := some (23, false) },
        { dst := some 26, op := .len false (.s 25), guard := some (23, false) },
        { dst := some 27, op := .bin .gtr (.s 24) (.s 26), guard := some (23, false) },
        { dst := some 28, op := .pick (.s 23) (.c (.bool true)) (.s 27) }])
      (.cond (.s 28)
        (.seq (.ops [{ dst := some 4, op := .mov (.c (.bool false)) }])
        (.ret))
        (.skip)))
      (.seq (.ops [{ dst := some 29, op := .bld [(.slc 0 [] true), (.int .i64 0)] [] },
        { dst := some 7, op := .box (.c (.agg [(.slc 0 [] true), (.int .i64 0)])) },
        { dst := none, op := .stor 2 (.s 7) (.s 29) }])
      (.seq (.seq (.ops [{ dst := some 8, op := .mov (.c (.int .i64 0)) }])
      (.block 0 (.loop [0, 1, 5, 6, 7, 8] F_wagonpoollaw13_DiskPrefixes_L0)))
      (.seq (.seq (.ops [{ dst := some 48, op := .fld 0 (.s 7) },
        { dst := some 49, op := .load 1 false (.s 48) },
        { dst := some 50, op := .conv .str (.s 49) },
        { dst := some 51, op := .mov (.s 0) },
        { dst := some 52, op := .mov (.s 6) },
        { dst := some 53, op := .slice 1 (.s 51) none (some (.s 52)) none },
        { dst := some 54, op := .conv .str (.s 53) },
        { dst := some 55, op := .bin .neq (.s 50) (.s 54) }])
      (.cond (.s 55)
        (.seq (.ops [{ dst := some 4, op := .mov (.c (.bool false)) }])
        (.ret))
        (.skip)))
      (.seq (.seq (.ops [{ dst := some 56, op := .mov (.s 1) },
        { dst := some 57, op := .bin .lss (.s 56) (.c (.int .i64 0)) },
        { dst := some 58, op := .mov (.s 57) },
        { dst := some 59, op := .mov (.s 1), guard := some (58, false) },
        { dst := some 60, op := .mov (.s 0), guard := some (58, false) },
        { dst := some 61, op := .len false (.s 60), guard := some (58, false) },
        { dst := some 62, op := .bin .gtr (.s 59) (.s 61), guard := some (58, false) },
        { dst := some 63, op := .pick (.s 58) (.c (.bool true)) (.s 62) }])
      (.cond (.s 63)
        (.seq (.ops [{ dst := some 4, op := .mov (.c (.bool true)) }])
        (.ret))
        (.skip)))
      (.seq (.ops [{ dst := some 65, op := .mov (.s 0) },
        { dst := some 66, op := .mov (.s 1) },
        { dst := some 67, op := .slice 1 (.s 65) none (some (.s 66)) none },
        { dst := some 68, op := .bld [(.slc 0 [] true), (.int .i64 0)] [(0, 1, (.s 67))] },
        { dst := some 69, op := .call 14 [(.s 68)] },
        { dst := some 64, op := .mov (.s 69) },
        { dst := some 70, op := .ext (.s 64) 0 },
        { dst := some 71, op := .ext (.s 64) 1 },
        { dst := some 11, op := .mov (.s 70) },
        { dst := some 12, op := .mov (.s 71) }])
      (.seq (.ops [{ dst := some 72, op := .mov (.s 5) },
        { dst := some 73, op := .mov (.s 11) },
        { dst := some 74, op := .call 15 [(.s 72), (.s 73)] },
        { dst := some 75, op := .mov (.s 74) },
        { dst := some 76, op := .mov (.s 12), guard := some (75, true) },
        { dst := some 77, op := .mov (.s 6), guard := some (75, true) },
        { dst := some 78, op := .bin .leq (.s 76) (.s 77), guard := some (75, true) },
        { dst := some 79, op := .pick (.s 75) (.s 78) (.c (.bool false)) },
        { dst := some 80, op := .mov (.s 79) },
        { dst := some 81, op := .mov (.s 12), guard := some (80, true) },
        { dst := some 82, op := .mov (.s 1), guard := some (80, true) },
        { dst := some 83, op := .bin .leq (.s 81) (.s 82), guard := some (80, true) },
        { dst := some 84, op := .pick (.s 80) (.s 83) (.c (.bool false)) },
        { dst := some 85, op := .mov (.s 84) },
        { dst := some 86, op := .mov (.s 1), guard := some (85, true) },
        { dst := some 87, op := .mov (.s 6), guard := some (85, true) },
        { dst := some 88, op := .bin .lss (.s 86) (.s 87), guard := some (85, true) },
        { dst := some 89, op := .mov (.s 88), guard := some (85, true) },
        { dst := some 90, op := .mov (.s 11), guard := some (89, false) },
        { dst := some 91, op := .len false (.s 90), guard := some (89, false) },
        { dst := some 92, op := .mov (.s 5), guard := some (89, false) },
        { dst := some 93, op := .len false (.s 92), guard := some (89, false) },
        { dst := some 94, op := .bin .eql (.s 91) (.s 93), guard := some (89, false) },
        { dst := some 95, op := .pick (.s 89) (.c (.bool true)) (.s 94), guard := some (85, true) },
        { dst := some 96, op := .pick (.s 85) (.s 95) (.c (.bool false)) },
        { dst := some 4, op := .mov (.s 96) }])
      (.ret)))))))))))
    [.tmp 4]
theorem tr_wagonpoollaw13_DiskPrefixes : trF Tryd.prog [28, 2000035, 34, 33, 38] 8 [[0, 1, 5, 6, 7, 8]] = some F_wagonpoollaw13_DiskPrefixes := by kernel_rfl

/-! wagonpool/wagonpoollaw13.DiskRoundTrip -/
def F_wagonpoollaw13_DiskRoundTrip_L0 : PC :=
  .seq (.seq (.ops [{ dst := some 15, op := .mov (.s 6) },
      { dst := some 16, op := .mov (.s 0) },
      { dst := some 17, op := .len false (.s 16) },
      { dst := some 18, op := .bin .lss (.s 15) (.s 17) }])
    (.cond (.s 18)
      (.skip)
      (.exit 0)))
    (.seq (.block 1 (.seq (.ops [{ dst := some 22, op := .load 2 true (.s 3) },
        { dst := some 23, op := .mov (.s 0) },
        { dst := some 24, op := .mov (.s 6) },
        { dst := some 25, op := .idxS 1 (.s 23) (.s 24) },
        { dst := some 26, op := .load 1 false (.s 25) },
        { dst := some 27, op := .call 11 [(.s 22), (.s 26)] },
        { dst := some 21, op := .mov (.s 27) },
        { dst := some 28, op := .ext (.s 21) 0 },
        { dst := some 29, op := .ext (.s 21) 1 },
        { dst := some 7, op := .box (.c (.agg [(.slc 0 [] true), (.int .i64 0)])) },
        { dst := none, op := .stor 2 (.s 7) (.s 28) },
        { dst := some 8, op := .mov (.s 29) }])
      (.seq (.seq (.ops [{ dst := some 30, op := .mov (.s 0) },
        { dst := some 31, op := .mov (.s 6) },
        { dst := some 32, op := .idxS 1 (.s 30) (.s 31) },
        { dst := some 33, op := .load 1 false (.s 32) },
        { dst := some 34, op := .len false (.s 33) },
        { dst := some 35, op := .bin .gtr (.s 34) (.c (.int .i64 16000)) }])
      (.cond (.s 35)
        (.seq (.seq (.ops [{ dst := some 36, op := .mov (.s 8) },
          { dst := some 37, op := .bin .neq (.s 36) (.c (.int .i64 2)) }])
        (.cond (.s 37)
          (.seq (.ops [{ dst := some 2, op := .mov (.c (.bool false)) }])
          (.ret))
          (.skip)))
        (.exit 1))
        (.skip)))
      (.seq (.seq (.ops [{ dst := some 38, op := .mov (.s 8) },
        { dst := some 39, op := .bin .neq (.s 38) (.c (.int .i64 0)) }])
      (.cond (.s 39)
        (.seq (.ops [{ dst := some 2, op := .mov (.c (.bool false)) }])
        (.ret))
        (.skip)))
      (.seq (.ops [{ dst := some 40, op := .load 2 true (.s 7) },
        { dst := none, op := .stor 2 (.s 3) (.s 40) }])
      (.seq (.ops [{ dst := some 41, op := .mov (.s 4) },
        { dst := some 42, op := .mov (.s 0) },
        { dst := some 43, op := .mov (.s 6) },
        { dst := some 44, op := .idxS 1 (.s 42) (.s 43) },
        { dst := some 45, op := .load 1 false (.s 44) },
        { dst := some 46, op := .bslc 1 [(.s 45)] },
        { dst := some 47, op := .app 1 24 (.s 41) (.s 46) },
        { dst := some 4, op := .mov (.s 47) }])
      (.ops [{ dst := some 48, op := .mov (.s 5) },
        { dst := some 49, op := .bin .add (.s 48) (.c (.int .i64 12)) },
        { dst := some 50, op := .mov (.s 0) },
        { dst := some 51, op := .mov (.s 6) },
        { dst := some 52, op := .idxS 1 (.s 50) (.s 51) },
        { dst := some 53, op := .load 1 false (.s 52) },
        { dst := some 54, op := .len false (.s 53) },
        { dst := some 55, op := .bin .add (.s 49) (.s 54) },
        { dst := some 5, op := .mov (.s 55) }])))))))
    (.ops [{ dst := some 19, op := .mov (.s 6) },
      { dst := some 20, op := .bin .add (.s 19) (.c (.int .i64 1)) },
      { dst := some 6, op := .mov (.s 20) }]))

def F_wagonpoollaw13_DiskRoundTrip : PF :=
  .mk
    (.seq (.ops [{ dst := some 2, op := .mov (.c (.bool false)) }])
      (.seq (.seq (.ops [{ dst := some 11, op := .call 10 [] },
        { dst := some 12, op := .un .not (.s 11) }])
      (.cond (.s 12)
        (.seq (.ops [{ dst := some 2, op := .mov (.c (.bool false)) }])
        (.ret))
        (.skip)))
      (.seq (.ops [{ dst := some 13, op := .bld [(.slc 0 [] true), (.int .i64 0)] [] },
        { dst := some 3, op := .box (.c (.agg [(.slc 0 [] true), (.int .i64 0)])) },
        { dst := none, op := .stor 2 (.s 3) (.s 13) }])
      (.seq (.ops [{ dst := some 14, op := .bslc 1 [] },
        { dst := some 4, op := .mov (.s 14) }])
      (.seq (.ops [{ dst := some 5, op := .mov (.c (.int .i64 0)) }])
      (.seq (.seq (.ops [{ dst := some 6, op := .mov (.c (.int .i64 0)) }])
      (.block 0 (.loop [0, 3, 4, 5, 6] F_wagonpoollaw13_DiskRoundTrip_L0)))
      (.seq (.ops [{ dst := some 57, op := .load 2 true (.s 3) },
        { dst := some 58, op := .call 14 [(.s 57)] },
        { dst := some 56, op := .mov (.s 58) },
        { dst := some 59, op := .ext (.s 56) 0 },
        { dst := some 60, op := .ext (.s 56) 1 },
        { dst := some 9, op := .mov (.s 59) },
        { dst := some 10, op := .mov (.s 60) }])
      (.seq (.ops [{ dst := some 61, op := .mov (.s 9) },
        { dst := some 62, op := .mov (.s 4) },
        { dst := some 63, op := .call 18 [(.s 61), (.s 62)] },
        { dst := some 64, op := .mov (.s 63) },
        { dst := some 65, op := .mov (.s 10), guard := some (64, true) },
        { dst := some 66, op := .mov (.s 5), guard := some (64, true) },
        { dst := some 67, op := .bin .eql (.s 65) (.s 66), guard := some (64, true) },
        { dst := some 68, op := .pick (.s 64) (.s 67) (.c (.bool false)) },
        { dst := some 69, op := .mov (.s 68) },
        { dst := some 70, op := .fld 0 (.s 3), guard := some (69, true) },
        { dst := some 71, op := .load 1 false (.s 70), guard := some (69, true) },
        { dst := some 72, op := .len false (.s 71), guard := some (69, true) },
        { dst := some 73, op := .mov (.s 5), guard := some (69, true) },
        { dst := some 74, op := .bin .eql (.s 72) (.s 73), guard := some (69, true) },
        { dst := some 75, op := .pick (.s 69) (.s 74) (.c (.bool false)) },
        { dst := some 76, op := .mov (.s 75) },
        { dst := some 77, op := .fld 1 (.s 3), guard := some (76, true) },
        { dst := some 78, op := .load 1 false (.s 77), guard := some (76, true) },
        { dst := some 79, op := .bin .eql (.s 78) (.c (.int .i64 0)), guard := some (76, true) },
        { dst := some 80, op := .pick (.s 76) (.s 79) (.c (.bool false)) },
        { dst := some 2, op := .mov (.s 80) }])
      (.ret)))))))))
    [.tmp 2]
theorem tr_wagonpoollaw13_DiskRoundTrip : trF Tryd.prog [28, 2000035, 34, 33, 38] 9 [[0, 3, 4, 5, 6]] = some F_wagonpoollaw13_DiskRoundTrip := by kernel_rfl

/-! wagonpool/wagonpoollaw13.sane -/
def F_wagonpoollaw13_sane : PF :=
  .mk
    (.seq (.ops [{ dst := some 0, op := .mov (.c (.bool false)) }])
      (.seq (.ops [{ dst := some 23, op := .bslc 1 [(.c (.int .u8 97)), (.c (.int .u8 98)), (.c (.int .u8 99))] },
        { dst := some 24, op := .mov (.s 23) },
        { dst := some 1, op := .mov (.s 24) }])
      (.seq (.ops [{ dst := some 25, op := .bslc 1 [(.c (.int .u8 98))] },
        { dst := some 26, op := .mov (.s 25) },
        { dst := some 2, op := .mov (.s 26) }])
      (.seq (.ops [{ dst := some 28, op := .bld [(.slc 0 [] true), (.int .i64 0)] [] },
        { dst := some 29, op := .mov (.s 1) },
        { dst := some 30, op := .call 11 [(.s 28), (.s 29)] },
        { dst := some 27, op := .mov (.s 30) },
        { dst := some 31, op := .ext (.s 27) 0 },
        { dst := some 32, op := .ext (.s 27) 1 },
        { dst := some 3, op := .box (.c (.agg [(.slc 0 [] true), (.int .i64 0)])) },
        { dst := none, op := .stor 2 (.s 3) (.s 31) },
        { dst := some 4, op := .mov (.s 32) }])
      (.seq (.ops [{ dst := some 34, op := .load 2 true (.s 3) },
        { dst := some 35, op := .call 12 [(.s 34)] },
        { dst := some 36, op := .mov (.s 2) },
        { dst := some 37, op := .call 11 [(.s 35), (.s 36)] },
        { dst := some 33, op := .mov (.s 37) },
        { dst := some 38, op := .ext (.s 33) 0 },
        { dst := some 39, op := .ext (.s 33) 1 },
        { dst := some 5, op := .box (.c (.agg [(.slc 0 [] true), (.int .i64 0)])) },
        { dst := none, op := .stor 2 (.s 5) (.s 38) },
        { dst := some 6, op := .mov (.s 39) }])
      (.seq (.seq (.ops [{ dst := some 40, op := .mov (.s 4) },
        { dst := some 41, op := .bin .neq (.s 40) (.c (.int .i64 0)) },
        { dst := some 42, op := .mov (.s 41) },
        { dst := some 43, op := .mov (.s 6), guard := some (42, false) },
        { dst := some 44, op := .bin .neq (.s 43) (.c (.int .i64 0)), guard := some (42, false) },
        { dst := some 45, op := .pick (.s 42) (.c (.bool true)) (.s 44) },
        { dst := some 46, op := .mov (.s 45) },
        { dst := some 47, op := .fld 0 (.s 3), guard := some (46, false) },
        { dst := some 48, op := .load 1 false (.s 47), guard := some (46, false) },
        { dst := some 49, op := .len false (.s 48), guard := some (46, false) },
        { dst := some 50, op := .bin .neq (.s 49) (.c (.int .i64 15)), guard := some (46, false) },
        { dst := some 51, op := .pick (.s 46) (.c (.bool true)) (.s 50) },
        { dst := some 52, op := .mov (.s 51) },
        { dst := some 53, op := .fld 1 (.s 3), guard := some (52, false) },
        { dst := some 54, op := .load 1 false (.s 53), guard := some (52, false) },
        { dst := some 55, op := .bin .neq (.s 54) (.c (.int .i64 0)), guard := some (52, false) },
        { dst := some 56, op := .pick (.s 52) (.c (.bool true)) (.s 55) },
        { dst := some 57, op := .mov (.s 56) },
        { dst := some 58, op := .fld 0 (.s 3), guard := some (57, false) },
        { dst := some 59, op := .load 1 false (.s 58), guard := some (57, false) },
        { dst := some 60, op := .slice 1 (.s 59) none (some (.c (.int .i64 4))) none, guard := some (57, false) },
        { dst := some 61, op := .conv .str (.s 60), guard := some (57, false) },
        { dst := some 62, op := .bin .neq (.s 61) (.c (.str [0, 0, 0, 3])), guard := some (57, false) },
        { dst := some 63, op := .pick (.s 57) (.c (.bool true)) (.s 62) },
        { dst := some 64, op := .mov (.s 63) },
        { dst := some 65, op := .fld 1 (.s 5), guard := some (64, false) },
        { dst := some 66, op := .load 1 false (.s 65), guard := some (64, false) },
        { dst := some 67, op := .bin .neq (.s 66) (.c (.int .i64 15)), guard := some (64, false) },
        { dst := some 68, op := .pick (.s 64) (.c (.bool true)) (.s 67) }])
      (.cond (.s 68)
        (.seq (.ops [{ dst := some 0, op := .mov (.c (.bool false)) }])
        (.ret))
        (.skip)))
      (.seq (.ops [{ dst := some 70, op := .bld [(.slc 0 [] true), (.int .i64 0)] [] },
        { dst := some 71, op := .call 14 [(.s 70)] },
        { dst := some 69, op := .mov (.s 71) },
        { dst := some 72, op := .ext (.s 69) 0 },
        { dst := some 73, op := .ext (.s 69) 1 },
        { dst := some 7, op := .mov (.s 72) },
        { dst := some 8, op := .mov (.s 73) }])
      (.seq (.ops [{ dst := some 75, op := .load 2 true (.s 5) },
        { dst := some 76, op := .bld [(.int .i64 0), (.slc 0 [] true)] [] },
        { dst := some 77, op := .call 13 [(.s 75), (.s 76)] },
        { dst := some 74, op := .mov (.s 77) },
        { dst := some 78, op := .ext (.s 74) 0 },
        { dst := some 79, op := .ext (.s 74) 1 },
        { dst := some 9, op := .box (.c (.agg [(.slc 0 [] true), (.int .i64 0)])) },
        { dst := none, op := .stor 2 (.s 9) (.s 78) },
        { dst := some 10, op := .mov (.s 79) }])
      (.seq (.ops [{ dst := some 81, op := .load 2 true (.s 5) },
        { dst := some 82, op := .bld [(.int .i64 0), (.slc 0 [] true)] [(0, 1, (.c (.int .i64 13)))] },
        { dst := some 83, op := .call 13 [(.s 81), (.s 82)] },
        { dst := some 80, op := .mov (.s 83) },
        { dst := some 84, op := .ext (.s 80) 0 },
        { dst := some 85, op := .ext (.s 80) 1 },
        { dst := some 11, op := .box (.c (.agg [(.slc 0 [] true), (.int .i64 0)])) },
        { dst := none, op := .stor 2 (.s 11) (.s 84) },
        { dst := some 12, op := .mov (.s 85) }])
      (.seq (.ops [{ dst := some 87, op := .load 2 true (.s 9) },
        { dst := some 88, op := .call 14 [(.s 87)] },
        { dst := some 86, op := .mov (.s 88) },
        { dst := some 89, op := .ext (.s 86) 0 },
        { dst := some 90, op := .ext (.s 86) 1 },
        { dst := some 13, op := .mov (.s 89) },
        { dst := some 14, op := .mov (.s 90) }])
      (.seq (.ops [{ dst := some 92, op := .load 2 true (.s 11) },
        { dst := some 93, op := .call 14 [(.s 92)] },
        { dst := some 91, op := .mov (.s 93) },
        { dst := some 94, op := .ext (.s 91) 0 },
        { dst := some 95, op := .ext (.s 91) 1 },
        { dst := some 15, op := .mov (.s 94) },
        { dst := some 16, op := .mov (.s 95) }])
      (.seq (.seq (.ops [{ dst := some 96, op := .mov (.s 7) },
        { dst := some 97, op := .len false (.s 96) },
        { dst := some 98, op := .bin .neq (.s 97) (.c (.int .i64 0)) },
        { dst := some 99, op := .mov (.s 98) },
        { dst := some 100, op := .mov (.s 8), guard := some (99, false) },
        { dst := some 101, op := .bin .neq (.s 100) (.c (.int .i64 0)), guard := some (99, false) },
        { dst := some 102, op := .pick (.s 99) (.c (.bool true)) (.s 101) },
        { dst := some 103, op := .mov (.s 102) },
        { dst := some 104, op := .mov (.s 10), guard := some (103, false) },
        { dst := some 105, op := .bin .neq (.s 104) (.c (.int .i64 0)), guard := some (103, false) },
        { dst := some 106, op := .pick (.s 103) (.c (.bool true)) (.s 105) },
        { dst := some 107, op := .mov (.s 106) },
        { dst := some 108, op := .mov (.s 12), guard := some (107, false) },
        { dst := some 109, op := .bin .neq (.s 108) (.c (.int .i64 0)), guard := some (107, false) },
        { dst := some 110, op := .pick (.s 107) (.c (.bool true)) (.s 109) },
        { dst := some 111, op := .mov (.s 110) },
        { dst := some 112, op := .mov (.s 13), guard := some (111, false) },
        { dst := some 113, op := .mov (.s 1), guard := some (111, false) },
        { dst := some 114, op := .bslc 1 [(.s 113)], guard := some (111, false) },
        { dst := some 115, op := .call 18 [(.s 112), (.s 114)], guard := some (111, false) },
        { dst := some 116, op := .un .not (.s 115), guard := some (111, false) },
        { dst := some 117, op := .pick (.s 111) (.c (.bool true)) (.s 116) },
        { dst := some 118, op := .mov (.s 117) },
        { dst := some 119, op := .mov (.s 14), guard := some (118, false) },
        { dst := some 120, op := .bin .neq (.s 119) (.c (.int .i64 15)), guard := some (118, false) },
        { dst := some 121, op := .pick (.s 118) (.c (.bool true)) (.s 120) },
        { dst := some 122, op := .mov (.s 121) },
        { dst := some 123, op := .mov (.s 15), guard := some (122, false) },
        { dst := some 124, op := .mov (.s 1), guard := some (122, false) },
        { dst := some 125, op := .mov (.s 2), guard := some (122, false) },
        { dst := some 126, op := .bslc 1 [(.s 124), (.s 125)], guard := some (122, false) },
        { dst := some 127, op := .call 18 [(.s 123), (.s 126)], guard := some (122, false) },
        { dst := some 128, op := .un .not (.s 127), guard := some (122, false) },
        { dst := some 129, op := .pick (.s 122) (.c (.bool true)) (.s 128) },
        { dst := some 130, op := .mov (.s 129) },
        { dst := some 131, op := .mov (.s 16), guard := some (130, false) },
        { dst := some 132, op := .bin .neq (.s 131) (.c (.int .i64 28)), guard := some (130, false) },
        { dst := some 133, op := .pick (.s 130) (.c (.bool true)) (.s 132) }])
      (.cond (.s 133)
        (.seq (.ops [{ dst := some 0, op := .mov (.c (.bool false)) }])
        (.ret))
        (.skip)))
      (.seq (.ops [{ dst := some 135, op := .bld [(.slc 0 [] true), (.int .i64 0)] [] },
        { dst := some 136, op := .mkslc 1 1 (.int .u8 0) (.c (.int .i64 16001)) (.c (.int .i64 16001)) },
        { dst := some 137, op := .call 11 [(.s 135), (.s 136)] },
        { dst := some 134, op := .mov (.s 137) },
        { dst := some 138, op := .ext (.s 134) 0 },
        { dst := some 139, op := .ext (.s 134) 1 },
        { dst := some 17, op := .box (.c (.agg [(.slc 0 [] true), (.int .i64 0)])) },
        { dst := none, op := .stor 2 (.s 17) (.s 138) },
        { dst := some 18, op := .mov (.s 139) }])
      (.seq (.ops [{ dst := some 141, op := .bld [(.slc 0 [] true), (.int .i64 0)] [(1, 1, (.c (.int .i64 (-1))))] },
        { dst := some 142, op := .mov (.s 1) },
        { dst := some 143, op := .call 11 [(.s 141), (.s 142)] },
        { dst := some 140, op := .mov (.s 143) },
        { dst := some 144, op := .ext (.s 140) 0 },
        { dst := some 145, op := .ext (.s 140) 1 },
        { dst := some 19, op := .box (.c (.agg [(.slc 0 [] true), (.int .i64 0)])) },
        { dst := none, op := .stor 2 (.s 19) (.s 144) },
        { dst := some 20, op := .mov (.s 145) }])
      (.seq (.ops [{ dst := some 147, op := .bld [(.slc 0 [] true), (.int .i64 0)] [] },
        { dst := some 148, op := .bld [(.int .i64 0), (.slc 0 [] true)] [(0, 1, (.c (.int .i64 1)))] },
        { dst := some 149, op := .call 13 [(.s 147), (.s 148)] },
        { dst := some 146, op := .mov (.s 149) },
        { dst := some 150, op := .ext (.s 146) 0 },
        { dst := some 151, op := .ext (.s 146) 1 },
        { dst := some 21, op := .box (.c (.agg [(.slc 0 [] true), (.int .i64 0)])) },
        { dst := none, op := .stor 2 (.s 21) (.s 150) },
        { dst := some 22, op := .mov (.s 151) }])
      (.seq (.ops [{ dst := some 152, op := .mov (.s 18) },
        { dst := some 153, op := .bin .eql (.s 152) (.c (.int .i64 2)) },
        { dst := some 154, op := .mov (.s 153) },
        { dst := some 155, op := .mov (.s 20), guard := some (154, true) },
        { dst := some 156, op := .bin .eql (.s 155) (.c (.int .i64 130)), guard := some (154, true) },
        { dst := some 157, op := .pick (.s 154) (.s 156) (.c (.bool false)) },
        { dst := some 158, op := .mov (.s 157) },
        { dst := some 159, op := .mov (.s 22), guard := some (158, true) },
        { dst := some 160, op := .bin .eql (.s 159) (.c (.int .i64 1)), guard := some (158, true) },
        { dst := some 161, op := .pick (.s 158) (.s 160) (.c (.bool false)) },
        { dst := some 0, op := .mov (.s 161) }])
      (.ret)))))))))))))))))
    [.tmp 0]
theorem tr_wagonpoollaw13_sane : trF Tryd.prog [28, 2000035, 34, 33, 38] 10 [] = some F_wagonpoollaw13_sane := by kernel_rfl

/-! wagonpool/disk.Append -/
def F_disk_Append : PF :=
  .mk
    (.seq (.ops [{ dst := some 2, op := .box (.s 0) },
        { dst := some 4, op := .box (.c (.agg [(.slc 0 [] true), (.int .i64 0)])) },
        { dst := some 5, op := .mov (.c (.int .i64 0)) }])
      (.seq (.seq (.ops [{ dst := some 6, op := .fld 1 (.s 2) },
        { dst := some 7, op := .load 1 false (.s 6) },
        { dst := some 8, op := .bin .lss (.s 7) (.c (.int .i64 0)) },
        { dst := some 9, op := .mov (.s 8) },
        { dst := some 10, op := .fld 1 (.s 2), guard := some (9, false) },
        { dst := some 11, op := .load 1 false (.s 10), guard := some (9, false) },
        { dst := some 12, op := .fld 0 (.s 2), guard := some (9, false) },
        { dst := some 13, op := .load 1 false (.s 12), guard := some (9, false) },
        { dst := some 14, op := .len false (.s 13), guard := some (9, false) },
        { dst := some 15, op := .bin .gtr (.s 11) (.s 14), guard := some (9, false) },
        { dst := some 16, op := .pick (.s 9) (.c (.bool true)) (.s 15) }])
      (.cond (.s 16)
        (.seq (.ops [{ dst := some 17, op := .bld [(.slc 0 [] true), (.int .i64 0)] [] },
          { dst := none, op := .stor 2 (.s 4) (.s 17) },
          { dst := some 5, op := .mov (.c (.int .i64 130)) }])
        (.ret))
        (.skip)))
      (.seq (.seq (.ops [{ dst := some 18, op := .mov (.s 1) },
        { dst := some 19, op := .len false (.s 18) },
        { dst := some 20, op := .bin .gtr (.s 19) (.c (.int .i64 16000)) }])
      (.cond (.s 20)
        (.seq (.ops [{ dst := some 21, op := .bld [(.slc 0 [] true), (.int .i64 0)] [] },
          { dst := none, op := .stor 2 (.s 4) (.s 21) },
          { dst := some 5, op := .mov (.c (.int .i64 2)) }])
        (.ret))
        (.skip)))
      (.seq (.ops [{ dst := some 22, op := .fld 0 (.s 2) },
        { dst := some 23, op := .load 1 false (.s 22) },
        { dst := some 24, op := .fld 0 (.s 2) },
        { dst := some 25, op := .load 1 false (.s 24) },
        { dst := some 26, op := .len false (.s 25) },
        { dst := some 27, op := .mov (.s 1) },
        { dst := some 28, op := .call 27 [(.s 26), (.s 27)] },
        { dst := some 29, op := .call 26 [(.s 23), (.s 28)] },
        { dst := some 30, op := .fld 1 (.s 2) },
        { dst := some 31, op := .load 1 false (.s 30) },
        { dst := some 32, op := .bld [(.slc 0 [] true), (.int .i64 0)] [(0, 1, (.s 29)), (1, 1, (.s 31))] },
        { dst := none, op := .stor 2 (.s 4) (.s 32) },
        { dst := some 5, op := .mov (.c (.int .i64 0)) }])
      (.ret)))))
    [.cell 4 2 true, .tmp 5]
theorem tr_disk_Append : trF Tryd.prog [28, 2000035, 34, 33, 38] 11 [] = some F_disk_Append := by kernel_rfl

/-! wagonpool/disk.Sync -/
def F_disk_Sync : PF :=
  .mk
    (.seq (.ops [{ dst := some 1, op := .box (.s 0) },
        { dst := some 2, op := .box (.c (.agg [(.slc 0 [] true), (.int .i64 0)])) }])
      (.seq (.ops [{ dst := some 3, op := .fld 0 (.s 1) },
        { dst := some 4, op := .load 1 false (.s 3) },
        { dst := some 5, op := .len false (.s 4) },
        { dst := some 6, op := .fld 1 (.s 1) },
        { dst := none, op := .stor 1 (.s 6) (.s 5) }])
      (.seq (.ops [{ dst := some 7, op := .load 2 true (.s 1) },
        { dst := none, op := .stor 2 (.s 2) (.s 7) }])
      (.ret))))
    [.cell 2 2 true]
theorem tr_disk_Sync : trF Tryd.prog [28, 2000035, 34, 33, 38] 12 [] = some F_disk_Sync := by kernel_rfl

/-! wagonpool/disk.Crash -/
def F_disk_Crash : PF :=
  .mk
    (.seq (.ops [{ dst := some 2, op := .box (.s 0) },
        { dst := some 3, op := .box (.s 1) },
        { dst := some 4, op := .box (.c (.agg [(.slc 0 [] true), (.int .i64 0)])) },
        { dst := some 5, op := .mov (.c (.int .i64 0)) }])
      (.seq (.seq (.ops [{ dst := some 6, op := .fld 1 (.s 2) },
        { dst := some 7, op := .load 1 false (.s 6) },
        { dst := some 8, op := .bin .lss (.s 7) (.c (.int .i64 0)) },
        { dst := some 9, op := .mov (.s 8) },
        { dst := some 10, op := .fld 1 (.s 2), guard := some (9, false) },
        { dst := some 11, op := .load 1 false (.s 10), guard := some (9, false) },
        { dst := some 12, op := .fld 0 (.s 2), guard := some (9, false) },
        { dst := some 13, op := .load 1 false (.s 12), guard := some (9, false) },
        { dst := some 14, op := .len false (.s 13), guard := some (9, false) },
        { dst := some 15, op := .bin .gtr (.s 11) (.s 14), guard := some (9, false) },
        { dst := some 16, op := .pick (.s 9) (.c (.bool true)) (.s 15) },
        { dst := some 17, op := .mov (.s 16) },
        { dst := some 18, op := .fld 0 (.s 3), guard := some (17, false) },
        { dst := some 19, op := .load 1 false (.s 18), guard := some (17, false) },
        { dst := some 20, op := .bin .lss (.s 19) (.c (.int .i64 0)), guard := some (17, false) },
        { dst := some 21, op := .pick (.s 17) (.c (.bool true)) (.s 20) },
        { dst := some 22, op := .mov (.s 21) },
        { dst := some 23, op := .fld 0 (.s 3), guard := some (22, false) },
        { dst := some 24, op := .load 1 false (.s 23), guard := some (22, false) },
        { dst := some 25, op := .fld 0 (.s 2), guard := some (22, false) },
        { dst := some 26, op := .load 1 false (.s 25), guard := some (22, false) },
        { dst := some 27, op := .len false (.s 26), guard := some (22, false) },
        { dst := some 28, op := .fld 1 (.s 2), guard := some (22, false) },
        { dst := some 29, op := .load 1 false (.s 28), guard := some (22, false) },
        { dst := some 30, op := .bin .sub (.s 27) (.s 29), guard := some (22, false) },
        { dst := some 31, op := .bin .gtr (.s 24) (.s 30), guard := some (22, false) },
        { dst := some 32, op := .pick (.s 22) (.c (.bool true)) (.s 31) },
        { dst := some 33, op := .mov (.s 32) },
        { dst := some 34, op := .fld 1 (.s 3), guard := some (33, false) },
        { dst := some 35, op := .load 1 false (.s 34), guard := some (33, false) },
        { dst := some 36, op := .len false (.s 35), guard := some (33, false) },
        { dst := some 37, op := .bin .gtr (.s 36) (.c (.int .i64 64)), guard := some (33, false) },
        { dst := some 38, op := .pick (.s 33) (.c (.bool true)) (.s 37) }])
      (.cond (.s 38)
        (.seq (.ops [{ dst := some 39, op := .bld [(.slc 0 [] true), (.int .i64 0)] [] },
          { dst := none, op := .stor 2 (.s 4) (.s 39) },
          { dst := some 5, op := .mov (.c (.int .i64 1)) }])
        (.ret))
        (.skip)))
      (.seq (.ops [{ dst := some 40, op := .fld 0 (.s 2) },
        { dst := some 41, op := .load 1 false (.s 40) },
        { dst := some 42, op := .fld 1 (.s 2) },
        { dst := some 43, op := .load 1 false (.s 42) },
        { dst := some 44, op := .fld 0 (.s 3) },
        { dst := some 45, op := .load 1 false (.s 44) },
        { dst := some 46, op := .bin .add (.s 43) (.s 45) },
        { dst := some 47, op := .slice 1 (.s 41) none (some (.s 46)) none },
        { dst := some 48, op := .fld 1 (.s 3) },
        { dst := some 49, op := .load 1 false (.s 48) },
        { dst := some 50, op := .call 26 [(.s 47), (.s 49)] },
        { dst := some 51, op := .bld [(.slc 0 [] true), (.int .i64 0)] [(0, 1, (.s 50))] },
        { dst := some 52, op := .call 12 [(.s 51)] },
        { dst := none, op := .stor 2 (.s 4) (.s 52) },
        { dst := some 5, op := .mov (.c (.int .i64 0)) }])
      (.ret))))
    [.cell 4 2 true, .tmp 5]
theorem tr_disk_Crash : trF Tryd.prog [28, 2000035, 34, 33, 38] 13 [] = some F_disk_Crash := by kernel_rfl

/-! wagonpool/disk.Read -/
def F_disk_Read_L0 : PC :=
  .seq (.ops [{ dst := some 4, op := .mov (.s 9) }])
    (.ops [{ dst := some 5, op := .mov (.s 10) }])

def F_disk_Read_L1 : PC :=
  .block 1 (.ops [{ dst := some 11, op := .load 1 false (.s 2) },
        { dst := some 12, op := .mov (.s 5) },
        { dst := some 13, op := .bslc 1 [(.s 12)] },
        { dst := some 14, op := .app 1 24 (.s 11) (.s 13) },
        { dst := some 15, op := .mov (.s 4) },
        { dst := none, op := .stor 1 (.s 2) (.s 14) },
        { dst := none, op := .stor 1 (.s 3) (.s 15) }])

def F_disk_Read : PF :=
  .mk
    (.seq (.ops [{ dst := some 1, op := .box (.s 0) },
        { dst := some 2, op := .box (.c (.slc 0 [] true)) },
        { dst := some 3, op := .box (.c (.int .i64 0)) }])
      (.seq (.seq (.ops [{ dst := some 6, op := .fld 0 (.s 1) },
        { dst := some 7, op := .load 1 false (.s 6) },
        { dst := some 8, op := .icall 28 [(.s 7)] }])
      (.block 0 (.range (.s 8) [9, 10] F_disk_Read_L0 F_disk_Read_L1)))
      (.seq (.any [({ dst := some 16, op := .load 1 false (.s 2) }, false, []),
        ({ dst := some 17, op := .load 1 false (.s 3) }, true, []),
        ({ dst := none, op := .stor 1 (.s 2) (.s 16) }, false, [1]),
        ({ dst := none, op := .stor 1 (.s 3) (.s 17) }, false, [])])
      (.ret))))
    [.cell 2 1 false, .cell 3 1 false]
theorem tr_disk_Read : trF Tryd.prog [28, 2000035, 34, 33, 38] 14 [] = some F_disk_Read := by kernel_rfl

/-! wagonpool/wagonpoolref13.Begins -/
def F_wagonpoolref13_Begins_L0 : PC :=
  .seq (.seq (.ops [{ dst := some 11, op := .mov (.s 5) },
      { dst := some 12, op := .mov (.s 1) },
      { dst := some 13, op := .len false (.s 12) },
      { dst := some 14, op := .bin .lss (.s 11) (.s 13) }])
    (.cond (.s 14)
      (.skip)
      (.exit 0)))
    (.seq (.block 1 (.seq (.ops [{ dst := some 17, op := .mov (.s 0) },
        { dst := some 18, op := .mov (.s 5) },
        { dst := some 19, op := .idxS 1 (.s 17) (.s 18) },
        { dst := some 20, op := .load 1 false (.s 19) },
        { dst := some 21, op := .conv .str (.s 20) },
        { dst := some 22, op := .mov (.s 1) },
        { dst := some 23, op := .mov (.s 5) },
        { dst := some 24, op := .idxS 1 (.s 22) (.s 23) },
        { dst := some 25, op := .load 1 false (.s 24) },
        { dst := some 26, op := .conv .str (.s 25) },
        { dst := some 27, op := .bin .neq (.s 21) (.s 26) }])
      (.cond (.s 27)
        (.seq (.ops [{ dst := some 4, op := .mov (.c (.bool false)) }])
        (.ret))
        (.skip))))
    (.ops [{ dst := some 15, op := .mov (.s 5) },
      { dst := some 16, op := .bin .add (.s 15) (.c (.int .i64 1)) },
      { dst := some 5, op := .mov (.s 16) }]))

def F_wagonpoolref13_Begins : PF :=
  .mk
    (.seq (.ops [{ dst := some 4, op := .mov (.c (.bool false)) }])
      (.seq (.seq (.ops [{ dst := some 6, op := .mov (.s 0) },
        { dst := some 7, op := .len false (.s 6) },
        { dst := some 8, op := .mov (.s 1) },
        { dst := some 9, op := .len false (.s 8) },
        { dst := some 10, op := .bin .lss (.s 7) (.s 9) }])
      (.cond (.s 10)
        (.seq (.ops [{ dst := some 4, op := .mov (.c (.bool false)) }])
        (.ret))
        (.skip)))
      (.seq (.seq (.ops [{ dst := some 5, op := .mov (.c (.int .i64 0)) }])
      (.block 0 (.loop [0, 1, 5] F_wagonpoolref13_Begins_L0)))
      (.seq (.ops [{ dst := some 4, op := .mov (.c (.bool true)) }])
      (.ret)))))
    [.tmp 4]
theorem tr_wagonpoolref13_Begins : trF Tryd.prog [28, 2000035, 34, 33, 38] 15 [[0, 1, 5]] = some F_wagonpoolref13_Begins := by kernel_rfl

/-! wagonpool/wagonpoolref13.Joined -/
def F_wagonpoolref13_Joined : PF :=
  .mk
    (.seq (.ops [{ dst := some 4, op := .mov (.c (.slc 0 [] true)) }])
      (.seq (.ops [{ dst := some 6, op := .bslc 1 [] },
        { dst := some 5, op := .mov (.s 6) }])
      (.seq (.ops [{ dst := some 7, op := .mov (.s 5) },
        { dst := some 8, op := .mov (.s 0) },
        { dst := some 9, op := .app 1 1 (.s 7) (.s 8) },
        { dst := some 5, op := .mov (.s 9) }])
      (.seq (.ops [{ dst := some 10, op := .mov (.s 5) },
        { dst := some 11, op := .mov (.s 1) },
        { dst := some 12, op := .app 1 1 (.s 10) (.s 11) },
        { dst := some 4, op := .mov (.s 12) }])
      (.ret)))))
    [.tmp 4]
theorem tr_wagonpoolref13_Joined : trF Tryd.prog [28, 2000035, 34, 33, 38] 16 [] = some F_wagonpoolref13_Joined := by kernel_rfl

/-! wagonpool/wagonpoollaw13.first -/
def F_wagonpoollaw13_first_L0 : PC :=
  .seq (.seq (.ops [{ dst := some 11, op := .mov (.s 6) },
      { dst := some 12, op := .bin .geq (.s 11) (.c (.int .i64 0)) }])
    (.cond (.s 12)
      (.skip)
      (.exit 0)))
    (.seq (.block 1 (.ops [{ dst := some 15, op := .mov (.s 5) },
        { dst := some 16, op := .mov (.s 0) },
        { dst := some 17, op := .mov (.s 6) },
        { dst := some 18, op := .bin .mul (.c (.int .i64 8)) (.s 17) },
        { dst := some 19, op := .bin .shr (.s 16) (.s 18) },
        { dst := some 20, op := .conv (.int .u8) (.s 19) },
        { dst := some 21, op := .bslc 1 [(.s 20)] },
        { dst := some 22, op := .app 1 1 (.s 15) (.s 21) },
        { dst := some 5, op := .mov (.s 22) }]))
    (.ops [{ dst := some 13, op := .mov (.s 6) },
      { dst := some 14, op := .bin .sub (.s 13) (.c (.int .i64 1)) },
      { dst := some 6, op := .mov (.s 14) }]))

def F_wagonpoollaw13_first_L1 : PC :=
  .seq (.seq (.ops [{ dst := some 29, op := .mov (.s 9) },
      { dst := some 30, op := .bin .lss (.s 29) (.c (.int .i64 8)) }])
    (.cond (.s 30)
      (.skip)
      (.exit 2)))
    (.seq (.block 3 (.ops [{ dst := some 33, op := .mov (.s 8) },
        { dst := some 34, op := .mov (.s 9) },
        { dst := some 35, op := .idxA 32 1 (.s 7) (.s 34) },
        { dst := some 36, op := .load 1 false (.s 35) },
        { dst := some 37, op := .bslc 1 [(.s 36)] },
        { dst := some 38, op := .app 1 1 (.s 33) (.s 37) },
        { dst := some 8, op := .mov (.s 38) }]))
    (.ops [{ dst := some 31, op := .mov (.s 9) },
      { dst := some 32, op := .bin .add (.s 31) (.c (.int .i64 1)) },
      { dst := some 9, op := .mov (.s 32) }]))

def F_wagonpoollaw13_first : PF :=
  .mk
    (.seq (.ops [{ dst := some 4, op := .mov (.c (.str [])) }])
      (.seq (.ops [{ dst := some 10, op := .bslc 1 [] },
        { dst := some 5, op := .mov (.s 10) }])
      (.seq (.seq (.ops [{ dst := some 6, op := .mov (.c (.int .i64 7)) }])
      (.block 0 (.loop [0, 1, 5, 6] F_wagonpoollaw13_first_L0)))
      (.seq (.ops [{ dst := some 23, op := .mov (.s 5) },
        { dst := some 24, op := .mov (.s 1) },
        { dst := some 25, op := .app 1 1 (.s 23) (.s 24) },
        { dst := some 5, op := .mov (.s 25) }])
      (.seq (.ops [{ dst := some 26, op := .mov (.s 5) },
        { dst := some 27, op := .call 29 [(.c (.str [117, 110, 105, 116])), (.s 26)] },
        { dst := some 7, op := .box (.c (.agg [(.int .u8 0), (.int .u8 0), (.int .u8 0), (.int .u8 0), (.int .u8 0), (.int .u8 0), (.int .u8 0), (.int .u8 0), (.int .u8 0), (.int .u8 0), (.int .u8 0), (.int .u8 0), (.int .u8 0), (.int .u8 0), (.int .u8 0), (.int .u8 0), (.int .u8 0), (.int .u8 0), (.int .u8 0), (.int .u8 0), (.int .u8 0), (.int .u8 0), (.int .u8 0), (.int .u8 0), (.int .u8 0), (.int .u8 0), (.int .u8 0), (.int .u8 0), (.int .u8 0), (.int .u8 0), (.int .u8 0), (.int .u8 0)])) },
        { dst := none, op := .stor 32 (.s 7) (.s 27) }])
      (.seq (.ops [{ dst := some 28, op := .bslc 1 [] },
        { dst := some 8, op := .mov (.s 28) }])
      (.seq (.seq (.ops [{ dst := some 9, op := .mov (.c (.int .i64 0)) }])
      (.block 2 (.loop [7, 8, 9] F_wagonpoollaw13_first_L1)))
      (.seq (.ops [{ dst := some 39, op := .mov (.s 8) },
        { dst := some 40, op := .conv .str (.s 39) },
        { dst := some 4, op := .mov (.s 40) }])
      (.ret)))))))))
    [.tmp 4]
theorem tr_wagonpoollaw13_first : trF Tryd.prog [28, 2000035, 34, 33, 38] 17 [[0, 1, 5, 6], [7, 8, 9]] = some F_wagonpoollaw13_first := by kernel_rfl

/-! wagonpool/wagonpoolref13.Same -/
def F_wagonpoolref13_Same : PF :=
  .mk
    (.seq (.ops [{ dst := some 4, op := .mov (.c (.bool false)) }])
      (.seq (.ops [{ dst := some 5, op := .mov (.s 0) },
        { dst := some 6, op := .len false (.s 5) },
        { dst := some 7, op := .mov (.s 1) },
        { dst := some 8, op := .len false (.s 7) },
        { dst := some 9, op := .bin .eql (.s 6) (.s 8) },
        { dst := some 10, op := .mov (.s 9) },
        { dst := some 11, op := .mov (.s 0), guard := some (10, true) },
        { dst := some 12, op := .mov (.s 1), guard := some (10, true) },
        { dst := some 13, op := .call 15 [(.s 11), (.s 12)], guard := some (10, true) },
        { dst := some 14, op := .pick (.s 10) (.s 13) (.c (.bool false)) },
        { dst := some 4, op := .mov (.s 14) }])
      (.ret)))
    [.tmp 4]
theorem tr_wagonpoolref13_Same : trF Tryd.prog [28, 2000035, 34, 33, 38] 18 [] = some F_wagonpoolref13_Same := by kernel_rfl

/-! wagonpool/disk.Open -/
def F_disk_Open : PF :=
  .mk
    (.seq (.ops [{ dst := some 1, op := .box (.s 0) },
        { dst := some 2, op := .box (.c (.agg [(.slc 0 [] true), (.int .i64 0)])) },
        { dst := some 3, op := .mov (.c (.slc 0 [] true)) }])
      (.seq (.ops [{ dst := some 7, op := .load 2 true (.s 1) },
        { dst := some 8, op := .call 14 [(.s 7)] },
        { dst := some 6, op := .mov (.s 8) },
        { dst := some 9, op := .ext (.s 6) 0 },
        { dst := some 10, op := .ext (.s 6) 1 },
        { dst := some 4, op := .mov (.s 9) },
        { dst := some 5, op := .mov (.s 10) }])
      (.seq (.ops [{ dst := some 11, op := .fld 0 (.s 1) },
        { dst := some 12, op := .load 1 false (.s 11) },
        { dst := some 13, op := .mov (.s 5) },
        { dst := some 14, op := .mov (.s 5) },
        { dst := some 15, op := .slice 1 (.s 12) none (some (.s 13)) (some (.s 14)) },
        { dst := some 16, op := .bld [(.slc 0 [] true), (.int .i64 0)] [(0, 1, (.s 15))] },
        { dst := some 17, op := .call 12 [(.s 16)] },
        { dst := some 18, op := .mov (.s 4) },
        { dst := none, op := .stor 2 (.s 2) (.s 17) },
        { dst := some 3, op := .mov (.s 18) }])
      (.ret))))
    [.cell 2 2 true, .tmp 3]
theorem tr_disk_Open : trF Tryd.prog [28, 2000035, 34, 33, 38] 19 [] = some F_disk_Open := by kernel_rfl

/-! wagonpool/wagonpoolref13.Append -/
def F_wagonpoolref13_Append : PF :=
  .mk
    (.seq (.ops [{ dst := some 2, op := .box (.s 0) },
        { dst := some 4, op := .box (.c (.agg [(.slc 0 [] true), (.int .i64 0)])) },
        { dst := some 5, op := .mov (.c (.int .i64 0)) }])
      (.seq (.seq (.ops [{ dst := some 6, op := .load 2 true (.s 2) },
        { dst := some 7, op := .call 30 [(.s 6)] },
        { dst := some 8, op := .un .not (.s 7) }])
      (.cond (.s 8)
        (.seq (.ops [{ dst := some 9, op := .bld [(.slc 0 [] true), (.int .i64 0)] [] },
          { dst := none, op := .stor 2 (.s 4) (.s 9) },
          { dst := some 5, op := .mov (.c (.int .i64 130)) }])
        (.ret))
        (.skip)))
      (.seq (.seq (.ops [{ dst := some 10, op := .mov (.s 1) },
        { dst := some 11, op := .len false (.s 10) },
        { dst := some 12, op := .bin .gtr (.s 11) (.c (.int .i64 16000)) }])
      (.cond (.s 12)
        (.seq (.ops [{ dst := some 13, op := .bld [(.slc 0 [] true), (.int .i64 0)] [] },
          { dst := none, op := .stor 2 (.s 4) (.s 13) },
          { dst := some 5, op := .mov (.c (.int .i64 2)) }])
        (.ret))
        (.skip)))
      (.seq (.ops [{ dst := some 14, op := .fld 0 (.s 2) },
        { dst := some 15, op := .load 1 false (.s 14) },
        { dst := some 16, op := .fld 0 (.s 2) },
        { dst := some 17, op := .load 1 false (.s 16) },
        { dst := some 18, op := .len false (.s 17) },
        { dst := some 19, op := .mov (.s 1) },
        { dst := some 20, op := .call 31 [(.s 18), (.s 19)] },
        { dst := some 21, op := .call 16 [(.s 15), (.s 20)] },
        { dst := some 22, op := .fld 1 (.s 2) },
        { dst := some 23, op := .load 1 false (.s 22) },
        { dst := some 24, op := .bld [(.slc 0 [] true), (.int .i64 0)] [(0, 1, (.s 21)), (1, 1, (.s 23))] },
        { dst := none, op := .stor 2 (.s 4) (.s 24) },
        { dst := some 5, op := .mov (.c (.int .i64 0)) }])
      (.ret)))))
    [.cell 4 2 true, .tmp 5]
theorem tr_wagonpoolref13_Append : trF Tryd.prog [28, 2000035, 34, 33, 38] 20 [] = some F_wagonpoolref13_Append := by kernel_rfl

/-! wagonpool/wagonpoolref13.Crash -/
def F_wagonpoolref13_Crash : PF :=
  .mk
    (.seq (.ops [{ dst := some 2, op := .box (.s 0) },
        { dst := some 3, op := .box (.s 1) },
        { dst := some 4, op := .box (.c (.agg [(.slc 0 [] true), (.int .i64 0)])) },
        { dst := some 5, op := .mov (.c (.int .i64 0)) }])
      (.seq (.seq (.ops [{ dst := some 6, op := .load 2 true (.s 2) },
        { dst := some 7, op := .call 30 [(.s 6)] },
        { dst := some 8, op := .un .not (.s 7) },
        { dst := some 9, op := .mov (.s 8) },
        { dst := some 10, op := .fld 0 (.s 3), guard := some (9, false) },
        { dst := some 11, op := .load 1 false (.s 10), guard := some (9, false) },
        { dst := some 12, op := .bin .lss (.s 11) (.c (.int .i64 0)), guard := some (9, false) },
        { dst := some 13, op := .pick (.s 9) (.c (.bool true)) (.s 12) },
        { dst := some 14, op := .mov (.s 13) },
        { dst := some 15, op := .fld 0 (.s 3), guard := some (14, false) },
        { dst := some 16, op := .load 1 false (.s 15), guard := some (14, false) },
        { dst := some 17, op := .fld 0 (.s 2), guard := some (14, false) },
        { dst := some 18, op := .load 1 false (.s 17), guard := some (14, false) },
        { dst := some 19, op := .len false (.s 18), guard := some (14, false) },
        { dst := some 20, op := .fld 1 (.s 2), guard := some (14, false) },
        { dst := some 21, op := .load 1 false (.s 20), guard := some (14, false) },
        { dst := some 22, op := .bin .sub (.s 19) (.s 21), guard := some (14, false) },
        { dst := some 23, op := .bin .gtr (.s 16) (.s 22), guard := some (14, false) },
        { dst := some 24, op := .pick (.s 14) (.c (.bool true)) (.s 23) },
        { dst := some 25, op := .mov (.s 24) },
        { dst := some 26, op := .fld 1 (.s 3), guard := some (25, false) },
        { dst := some 27, op := .load 1 false (.s 26), guard := some (25, false) },
        { dst := some 28, op := .len false (.s 27), guard := some (25, false) },
        { dst := some 29, op := .bin .gtr (.s 28) (.c (.int .i64 64)), guard := some (25, false) },
        { dst := some 30, op := .pick (.s 25) (.c (.bool true)) (.s 29) }])
      (.cond (.s 30)
        (.seq (.ops [{ dst := some 31, op := .bld [(.slc 0 [] true), (.int .i64 0)] [] },
          { dst := none, op := .stor 2 (.s 4) (.s 31) },
          { dst := some 5, op := .mov (.c (.int .i64 1)) }])
        (.ret))
        (.skip)))
      (.seq (.ops [{ dst := some 32, op := .fld 0 (.s 2) },
        { dst := some 33, op := .load 1 false (.s 32) },
        { dst := some 34, op := .fld 1 (.s 2) },
        { dst := some 35, op := .load 1 false (.s 34) },
        { dst := some 36, op := .fld 0 (.s 3) },
        { dst := some 37, op := .load 1 false (.s 36) },
        { dst := some 38, op := .bin .add (.s 35) (.s 37) },
        { dst := some 39, op := .slice 1 (.s 33) none (some (.s 38)) none },
        { dst := some 40, op := .fld 1 (.s 3) },
        { dst := some 41, op := .load 1 false (.s 40) },
        { dst := some 42, op := .call 16 [(.s 39), (.s 41)] },
        { dst := some 43, op := .bld [(.slc 0 [] true), (.int .i64 0)] [(0, 1, (.s 42))] },
        { dst := some 44, op := .call 25 [(.s 43)] },
        { dst := none, op := .stor 2 (.s 4) (.s 44) },
        { dst := some 5, op := .mov (.c (.int .i64 0)) }])
      (.ret))))
    [.cell 4 2 true, .tmp 5]
theorem tr_wagonpoolref13_Crash : trF Tryd.prog [28, 2000035, 34, 33, 38] 21 [] = some F_wagonpoolref13_Crash := by kernel_rfl

/-! wagonpool/wagonpoolref13.Read -/
def F_wagonpoolref13_Read_L0 : PC :=
  .seq (.seq (.ops [{ dst := some 16, op := .mov (.s 7) }])
    (.cond (.s 16)
      (.skip)
      (.exit 0)))
    (.block 1 (.seq (.ops [{ dst := some 17, op := .mov (.s 4) },
        { dst := some 18, op := .mov (.s 6) },
        { dst := some 19, op := .bslc 1 [(.s 18)] },
        { dst := some 20, op := .app 1 24 (.s 17) (.s 19) },
        { dst := some 4, op := .mov (.s 20) }])
      (.seq (.ops [{ dst := some 21, op := .mov (.s 5) },
        { dst := some 22, op := .bin .add (.s 21) (.c (.int .i64 12)) },
        { dst := some 23, op := .mov (.s 6) },
        { dst := some 24, op := .len false (.s 23) },
        { dst := some 25, op := .bin .add (.s 22) (.s 24) },
        { dst := some 5, op := .mov (.s 25) }])
      (.ops [{ dst := some 27, op := .fld 0 (.s 1) },
        { dst := some 28, op := .load 1 false (.s 27) },
        { dst := some 29, op := .mov (.s 5) },
        { dst := some 30, op := .call 32 [(.s 28), (.s 29)] },
        { dst := some 26, op := .mov (.s 30) },
        { dst := some 31, op := .ext (.s 26) 0 },
        { dst := some 32, op := .ext (.s 26) 1 },
        { dst := some 6, op := .mov (.s 31) },
        { dst := some 7, op := .mov (.s 32) }]))))

def F_wagonpoolref13_Read : PF :=
  .mk
    (.seq (.ops [{ dst := some 1, op := .box (.s 0) },
        { dst := some 2, op := .mov (.c (.slc 0 [] true)) },
        { dst := some 3, op := .mov (.c (.int .i64 0)) }])
      (.seq (.ops [{ dst := some 8, op := .bslc 1 [] },
        { dst := some 4, op := .mov (.s 8) }])
      (.seq (.ops [{ dst := some 5, op := .mov (.c (.int .i64 0)) }])
      (.seq (.ops [{ dst := some 10, op := .fld 0 (.s 1) },
        { dst := some 11, op := .load 1 false (.s 10) },
        { dst := some 12, op := .mov (.s 5) },
        { dst := some 13, op := .call 32 [(.s 11), (.s 12)] },
        { dst := some 9, op := .mov (.s 13) },
        { dst := some 14, op := .ext (.s 9) 0 },
        { dst := some 15, op := .ext (.s 9) 1 },
        { dst := some 6, op := .mov (.s 14) },
        { dst := some 7, op := .mov (.s 15) }])
      (.seq (.block 0 (.loop [1, 4, 5, 6, 7] F_wagonpoolref13_Read_L0))
      (.seq (.ops [{ dst := some 33, op := .mov (.s 4) },
        { dst := some 34, op := .mov (.s 5) },
        { dst := some 2, op := .mov (.s 33) },
        { dst := some 3, op := .mov (.s 34) }])
      (.ret)))))))
    [.tmp 2, .tmp 3]
theorem tr_wagonpoolref13_Read : trF Tryd.prog [28, 2000035, 34, 33, 38] 22 [[1, 4, 5, 6, 7]] = some F_wagonpoolref13_Read := by kernel_rfl

/-! wagonpool/wagonpoolref13.Open -/
def F_wagonpoolref13_Open : PF :=
  .mk
    (.seq (.ops [{ dst := some 1, op := .box (.s 0) },
        { dst := some 2, op := .box (.c (.agg [(.slc 0 [] true), (.int .i64 0)])) },
        { dst := some 3, op := .mov (.c (.slc 0 [] true)) }])
      (.seq (.ops [{ dst := some 7, op := .load 2 true (.s 1) },
        { dst := some 8, op := .call 22 [(.s 7)] },
        { dst := some 6, op := .mov (.s 8) },
        { dst := some 9, op := .ext (.s 6) 0 },
        { dst := some 10, op := .ext (.s 6) 1 },
        { dst := some 4, op := .mov (.s 9) },
        { dst := some 5, op := .mov (.s 10) }])
      (.seq (.ops [{ dst := some 11, op := .fld 0 (.s 1) },
        { dst := some 12, op := .load 1 false (.s 11) },
        { dst := some 13, op := .mov (.s 5) },
        { dst := some 14, op := .slice 1 (.s 12) none (some (.s 13)) none },
        { dst := some 15, op := .bld [(.slc 0 [] true), (.int .i64 0)] [(0, 1, (.s 14))] },
        { dst := some 16, op := .call 25 [(.s 15)] },
        { dst := some 17, op := .mov (.s 4) },
        { dst := none, op := .stor 2 (.s 2) (.s 16) },
        { dst := some 3, op := .mov (.s 17) }])
      (.ret))))
    [.cell 2 2 true, .tmp 3]
theorem tr_wagonpoolref13_Open : trF Tryd.prog [28, 2000035, 34, 33, 38] 23 [] = some F_wagonpoolref13_Open := by kernel_rfl

/-! wagonpool/wagonpoolref13.SameDisk -/
def F_wagonpoolref13_SameDisk : PF :=
  .mk
    (.seq (.ops [{ dst := some 2, op := .box (.s 0) },
        { dst := some 3, op := .box (.s 1) },
        { dst := some 4, op := .mov (.c (.bool false)) }])
      (.seq (.ops [{ dst := some 5, op := .fld 1 (.s 2) },
        { dst := some 6, op := .load 1 false (.s 5) },
        { dst := some 7, op := .fld 1 (.s 3) },
        { dst := some 8, op := .load 1 false (.s 7) },
        { dst := some 9, op := .bin .eql (.s 6) (.s 8) },
        { dst := some 10, op := .mov (.s 9) },
        { dst := some 11, op := .fld 0 (.s 2), guard := some (10, true) },
        { dst := some 12, op := .load 1 false (.s 11), guard := some (10, true) },
        { dst := some 13, op := .conv .str (.s 12), guard := some (10, true) },
        { dst := some 14, op := .fld 0 (.s 3), guard := some (10, true) },
        { dst := some 15, op := .load 1 false (.s 14), guard := some (10, true) },
        { dst := some 16, op := .conv .str (.s 15), guard := some (10, true) },
        { dst := some 17, op := .bin .eql (.s 13) (.s 16), guard := some (10, true) },
        { dst := some 18, op := .pick (.s 10) (.s 17) (.c (.bool false)) },
        { dst := some 4, op := .mov (.s 18) }])
      (.ret)))
    [.tmp 4]
theorem tr_wagonpoolref13_SameDisk : trF Tryd.prog [28, 2000035, 34, 33, 38] 24 [] = some F_wagonpoolref13_SameDisk := by kernel_rfl

/-! wagonpool/wagonpoolref13.Sync -/
def F_wagonpoolref13_Sync : PF :=
  .mk
    (.seq (.ops [{ dst := some 1, op := .box (.s 0) },
        { dst := some 2, op := .box (.c (.agg [(.slc 0 [] true), (.int .i64 0)])) }])
      (.seq (.ops [{ dst := some 3, op := .fld 0 (.s 1) },
        { dst := some 4, op := .load 1 false (.s 3) },
        { dst := some 5, op := .fld 0 (.s 1) },
        { dst := some 6, op := .load 1 false (.s 5) },
        { dst := some 7, op := .len false (.s 6) },
        { dst := some 8, op := .bld [(.slc 0 [] true), (.int .i64 0)] [(0, 1, (.s 4)), (1, 1, (.s 7))] },
        { dst := none, op := .stor 2 (.s 2) (.s 8) }])
      (.ret)))
    [.cell 2 2 true]
theorem tr_wagonpoolref13_Sync : trF Tryd.prog [28, 2000035, 34, 33, 38] 25 [] = some F_wagonpoolref13_Sync := by kernel_rfl

/-! wagonpool/disk.join -/
def F_disk_join : PF :=
  .mk
    (.seq (.ops [{ dst := some 4, op := .mov (.c (.slc 0 [] true)) }])
      (.seq (.ops [{ dst := some 6, op := .mov (.s 0) },
        { dst := some 7, op := .len false (.s 6) },
        { dst := some 8, op := .mov (.s 1) },
        { dst := some 9, op := .len false (.s 8) },
        { dst := some 10, op := .bin .add (.s 7) (.s 9) },
        { dst := some 11, op := .mkslc 1 1 (.int .u8 0) (.c (.int .i64 0)) (.s 10) },
        { dst := some 5, op := .mov (.s 11) }])
      (.seq (.ops [{ dst := some 12, op := .mov (.s 5) },
        { dst := some 13, op := .mov (.s 0) },
        { dst := some 14, op := .app 1 1 (.s 12) (.s 13) },
        { dst := some 15, op := .mov (.s 1) },
        { dst := some 16, op := .app 1 1 (.s 14) (.s 15) },
        { dst := some 4, op := .mov (.s 16) }])
      (.ret))))
    [.tmp 4]
theorem tr_disk_join : trF Tryd.prog [28, 2000035, 34, 33, 38] 26 [] = some F_disk_join := by kernel_rfl

/-! wagonpool/disk.unit -/
def F_disk_unit : PF :=
  .mk
    (.seq (.ops [{ dst := some 4, op := .mov (.c (.slc 0 [] true)) }])
      (.seq (.ops [{ dst := some 7, op := .mov (.s 0) },
        { dst := some 8, op := .conv (.int .u64) (.s 7) },
        { dst := some 9, op := .icall 33 [(.c (.slc 0 [] true)), (.s 8), (.c (.int .i64 8))] },
        { dst := some 10, op := .mov (.s 1) },
        { dst := some 11, op := .app 1 1 (.s 9) (.s 10) },
        { dst := some 12, op := .call 29 [(.c (.str [117, 110, 105, 116])), (.s 11)] },
        { dst := some 5, op := .box (.c (.agg [(.int .u8 0), (.int .u8 0), (.int .u8 0), (.int .u8 0), (.int .u8 0), (.int .u8 0), (.int .u8 0), (.int .u8 0), (.int .u8 0), (.int .u8 0), (.int .u8 0), (.int .u8 0), (.int .u8 0), (.int .u8 0), (.int .u8 0), (.int .u8 0), (.int .u8 0), (.int .u8 0), (.int .u8 0), (.int .u8 0), (.int .u8 0), (.int .u8 0), (.int .u8 0), (.int .u8 0), (.int .u8 0), (.int .u8 0), (.int .u8 0), (.int .u8 0), (.int .u8 0), (.int .u8 0), (.int .u8 0), (.int .u8 0)])) },
        { dst := none, op := .stor 32 (.s 5) (.s 12) }])
      (.seq (.ops [{ dst := some 13, op := .mov (.s 1) },
        { dst := some 14, op := .len false (.s 13) },
        { dst := some 15, op := .bin .add (.c (.int .i64 12)) (.s 14) },
        { dst := some 16, op := .mkslc 1 1 (.int .u8 0) (.c (.int .i64 0)) (.s 15) },
        { dst := some 17, op := .mov (.s 1) },
        { dst := some 18, op := .len false (.s 17) },
        { dst := some 19, op := .conv (.int .u32) (.s 18) },
        { dst := some 20, op := .icall 34 [(.s 16), (.s 19), (.c (.int .i64 4))] },
        { dst := some 6, op := .mov (.s 20) }])
      (.seq (.ops [{ dst := some 21, op := .mov (.s 6) },
        { dst := some 22, op := .sliceA 32 1 false (.s 5) none (some (.c (.int .i64 8))) },
        { dst := some 23, op := .app 1 1 (.s 21) (.s 22) },
        { dst := some 6, op := .mov (.s 23) }])
      (.seq (.ops [{ dst := some 24, op := .mov (.s 6) },
        { dst := some 25, op := .mov (.s 1) },
        { dst := some 26, op := .app 1 1 (.s 24) (.s 25) },
        { dst := some 4, op := .mov (.s 26) }])
      (.ret))))))
    [.tmp 4]
theorem tr_disk_unit : trF Tryd.prog [28, 2000035, 34, 33, 38] 27 [] = some F_disk_unit := by kernel_rfl

/-! wagonpool/disk.units -/
def F_disk_units : PF :=
  .mk
    (.seq (.ops [{ dst := some 1, op := .box (.s 0) },
        { dst := some 2, op := .mov (.c .nilf) }])
      (.seq (.ops [{ dst := some 3, op := .mkclo 35 [(.s 1)] },
        { dst := some 2, op := .mov (.s 3) }])
      (.ret)))
    [.tmp 2]
theorem tr_disk_units : trF Tryd.prog [28, 2000035, 34, 33, 38] 28 [] = some F_disk_units := by kernel_rfl

/-! wagonpool/digest.Tagged -/
def F_digest_Tagged : PF :=
  .mk
    (.seq (.ops [{ dst := some 4, op := .box (.c (.agg [(.int .u8 0), (.int .u8 0), (.int .u8 0), (.int .u8 0), (.int .u8 0), (.int .u8 0), (.int .u8 0), (.int .u8 0), (.int .u8 0), (.int .u8 0), (.int .u8 0), (.int .u8 0), (.int .u8 0), (.int .u8 0), (.int .u8 0), (.int .u8 0), (.int .u8 0), (.int .u8 0), (.int .u8 0), (.int .u8 0), (.int .u8 0), (.int .u8 0), (.int .u8 0), (.int .u8 0), (.int .u8 0), (.int .u8 0), (.int .u8 0), (.int .u8 0), (.int .u8 0), (.int .u8 0), (.int .u8 0), (.int .u8 0)])) }])
      (.seq (.ops [{ dst := some 5, op := .mov (.s 0) },
        { dst := some 6, op := .mov (.s 0) },
        { dst := some 7, op := .len true (.s 6) },
        { dst := some 8, op := .mm false (.s 7) (.c (.int .i64 255)) },
        { dst := some 9, op := .slice 0 (.s 5) none (some (.s 8)) none },
        { dst := some 0, op := .mov (.s 9) }])
      (.seq (.ops [{ dst := some 10, op := .mov (.s 0) },
        { dst := some 11, op := .len true (.s 10) },
        { dst := some 12, op := .conv (.int .u8) (.s 11) },
        { dst := some 13, op := .bslc 1 [(.s 12)] },
        { dst := some 14, op := .mov (.s 0) },
        { dst := some 15, op := .conv .bytes (.s 14) },
        { dst := some 16, op := .mov (.s 1) },
        { dst := some 17, op := .bslc 1 [(.s 13), (.s 15), (.s 16)] },
        { dst := some 18, op := .call 37 [(.s 17)] },
        { dst := none, op := .stor 32 (.s 4) (.s 18) }])
      (.ret))))
    [.cell 4 32 true]
theorem tr_digest_Tagged : trF Tryd.prog [28, 2000035, 34, 33, 38] 29 [] = some F_digest_Tagged := by kernel_rfl

/-! wagonpool/wagonpoolref13.valid -/
def F_wagonpoolref13_valid : PF :=
  .mk
    (.seq (.ops [{ dst := some 1, op := .box (.s 0) },
        { dst := some 2, op := .mov (.c (.bool false)) }])
      (.seq (.ops [{ dst := some 3, op := .fld 1 (.s 1) },
        { dst := some 4, op := .load 1 false (.s 3) },
        { dst := some 5, op := .bin .geq (.s 4) (.c (.int .i64 0)) },
        { dst := some 6, op := .mov (.s 5) },
        { dst := some 7, op := .fld 1 (.s 1), guard := some (6, true) },
        { dst := some 8, op := .load 1 false (.s 7), guard := some (6, true) },
        { dst := some 9, op := .fld 0 (.s 1), guard := some (6, true) },
        { dst := some 10, op := .load 1 false (.s 9), guard := some (6, true) },
        { dst := some 11, op := .len false (.s 10), guard := some (6, true) },
        { dst := some 12, op := .bin .leq (.s 8) (.s 11), guard := some (6, true) },
        { dst := some 13, op := .pick (.s 6) (.s 12) (.c (.bool false)) },
        { dst := some 2, op := .mov (.s 13) }])
      (.ret)))
    [.tmp 2]
theorem tr_wagonpoolref13_valid : trF Tryd.prog [28, 2000035, 34, 33, 38] 30 [] = some F_wagonpoolref13_valid := by kernel_rfl

/-! wagonpool/wagonpoolref13.Unit -/
def F_wagonpoolref13_Unit : PF :=
  .mk
    (.seq (.ops [{ dst := some 4, op := .mov (.c (.slc 0 [] true)) }])
      (.seq (.ops [{ dst := some 6, op := .mov (.s 1) },
        { dst := some 7, op := .len false (.s 6) },
        { dst := some 8, op := .icall 38 [(.s 7), (.c (.int .i64 4))] },
        { dst := some 5, op := .mov (.s 8) }])
      (.seq (.ops [{ dst := some 9, op := .mov (.s 5) },
        { dst := some 10, op := .mov (.s 0) },
        { dst := some 11, op := .mov (.s 1) },
        { dst := some 12, op := .call 39 [(.s 10), (.s 11)] },
        { dst := some 13, op := .app 1 1 (.s 9) (.s 12) },
        { dst := some 5, op := .mov (.s 13) }])
      (.seq (.ops [{ dst := some 14, op := .mov (.s 5) },
        { dst := some 15, op := .mov (.s 1) },
        { dst := some 16, op := .app 1 1 (.s 14) (.s 15) },
        { dst := some 4, op := .mov (.s 16) }])
      (.ret)))))
    [.tmp 4]
theorem tr_wagonpoolref13_Unit : trF Tryd.prog [28, 2000035, 34, 33, 38] 31 [] = some F_wagonpoolref13_Unit := by kernel_rfl

/-! wagonpool/wagonpoolref13.stands -/
def F_wagonpoolref13_stands_L0 : PC :=
  .seq (.seq (.ops [{ dst := some 14, op := .mov (.s 7) },
      { dst := some 15, op := .bin .lss (.s 14) (.c (.int .i64 4)) }])
    (.cond (.s 15)
      (.skip)
      (.exit 0)))
    (.seq (.block 1 (.ops [{ dst := some 18, op := .mov (.s 6) },
        { dst := some 19, op := .bin .mul (.c (.int .i64 256)) (.s 18) },
        { dst := some 20, op := .mov (.s 0) },
        { dst := some 21, op := .mov (.s 1) },
        { dst := some 22, op := .mov (.s 7) },
        { dst := some 23, op := .bin .add (.s 21) (.s 22) },
        { dst := some 24, op := .idxS 1 (.s 20) (.s 23) },
        { dst := some 25, op := .load 1 false (.s 24) },
        { dst := some 26, op := .conv (.int .i64) (.s 25) },
        { dst := some 27, op := .bin .add (.s 19) (.s 26) },
        { dst := some 6, op := .mov (.s 27) }]))
    (.ops [{ dst := some 16, op := .mov (.s 7) },
      { dst := some 17, op := .bin .add (.s 16) (.c (.int .i64 1)) },
      { dst := some 7, op := .mov (.s 17) }]))

def F_wagonpoolref13_stands : PF :=
  .mk
    (.seq (.ops [{ dst := some 4, op := .mov (.c (.slc 0 [] true)) },
        { dst := some 5, op := .mov (.c (.bool false)) }])
      (.seq (.seq (.ops [{ dst := some 9, op := .mov (.s 0) },
        { dst := some 10, op := .len false (.s 9) },
        { dst := some 11, op := .mov (.s 1) },
        { dst := some 12, op := .bin .sub (.s 10) (.s 11) },
        { dst := some 13, op := .bin .lss (.s 12) (.c (.int .i64 12)) }])
      (.cond (.s 13)
        (.seq (.ops [{ dst := some 4, op := .mov (.c (.slc 0 [] true)) },
          { dst := some 5, op := .mov (.c (.bool false)) }])
        (.ret))
        (.skip)))
      (.seq (.ops [{ dst := some 6, op := .mov (.c (.int .i64 0)) }])
      (.seq (.seq (.ops [{ dst := some 7, op := .mov (.c (.int .i64 0)) }])
      (.block 0 (.loop [0, 1, 6, 7] F_wagonpoolref13_stands_L0)))
      (.seq (.seq (.ops [{ dst := some 28, op := .mov (.s 6) },
        { dst := some 29, op := .bin .gtr (.s 28) (.c (.int .i64 16000)) },
        { dst := some 30, op := .mov (.s 29) },
        { dst := some 31, op := .mov (.s 0), guard := some (30, false) },
        { dst := some 32, op := .len false (.s 31), guard := some (30, false) },
        { dst := some 33, op := .mov (.s 1), guard := some (30, false) },
        { dst := some 34, op := .bin .sub (.s 32) (.s 33), guard := some (30, false) },
        { dst := some 35, op := .bin .sub (.s 34) (.c (.int .i64 12)), guard := some (30, false) },
        { dst := some 36, op := .mov (.s 6), guard := some (30, false) },
        { dst := some 37, op := .bin .lss (.s 35) (.s 36), guard := some (30, false) },
        { dst := some 38, op := .pick (.s 30) (.c (.bool true)) (.s 37) }])
      (.cond (.s 38)
        (.seq (.ops [{ dst := some 4, op := .mov (.c (.slc 0 [] true)) },
          { dst := some 5, op := .mov (.c (.bool false)) }])
        (.ret))
        (.skip)))
      (.seq (.ops [{ dst := some 39, op := .mov (.s 0) },
        { dst := some 40, op := .mov (.s 1) },
        { dst := some 41, op := .bin .add (.s 40) (.c (.int .i64 12)) },
        { dst := some 42, op := .mov (.s 1) },
        { dst := some 43, op := .bin .add (.s 42) (.c (.int .i64 12)) },
        { dst := some 44, op := .mov (.s 6) },
        { dst := some 45, op := .bin .add (.s 43) (.s 44) },
        { dst := some 46, op := .slice 1 (.s 39) (some (.s 41)) (some (.s 45)) none },
        { dst := some 8, op := .mov (.s 46) }])
      (.seq (.ops [{ dst := some 47, op := .mov (.s 8) },
        { dst := some 48, op := .mov (.s 1) },
        { dst := some 49, op := .mov (.s 8) },
        { dst := some 50, op := .call 31 [(.s 48), (.s 49)] },
        { dst := some 51, op := .conv .str (.s 50) },
        { dst := some 52, op := .mov (.s 0) },
        { dst := some 53, op := .mov (.s 1) },
        { dst := some 54, op := .mov (.s 1) },
        { dst := some 55, op := .bin .add (.s 54) (.c (.int .i64 12)) },
        { dst := some 56, op := .mov (.s 6) },
        { dst := some 57, op := .bin .add (.s 55) (.s 56) },
        { dst := some 58, op := .slice 1 (.s 52) (some (.s 53)) (some (.s 57)) none },
        { dst := some 59, op := .conv .str (.s 58) },
        { dst := some 60, op := .bin .eql (.s 51) (.s 59) },
        { dst := some 4, op := .mov (.s 47) },
        { dst := some 5, op := .mov (.s 60) }])
      (.ret))))))))
    [.tmp 4, .tmp 5]
theorem tr_wagonpoolref13_stands : trF Tryd.prog [28, 2000035, 34, 33, 38] 32 [[0, 1, 6, 7]] = some F_wagonpoolref13_stands := by kernel_rfl

/-! wagonpool/disk.put[uint64] -/
def F_disk_put_uint64_L0 : PC :=
  .seq (.seq (.ops [{ dst := some 10, op := .mov (.s 7) },
      { dst := some 11, op := .bin .geq (.s 10) (.c (.int .i64 0)) }])
    (.cond (.s 11)
      (.skip)
      (.exit 0)))
    (.seq (.block 1 (.ops [{ dst := some 14, op := .mov (.s 0) },
        { dst := some 15, op := .mov (.s 1) },
        { dst := some 16, op := .mov (.s 7) },
        { dst := some 17, op := .bin .mul (.c (.int .i64 8)) (.s 16) },
        { dst := some 18, op := .bin .shr (.s 15) (.s 17) },
        { dst := some 19, op := .conv (.int .u8) (.s 18) },
        { dst := some 20, op := .bslc 1 [(.s 19)] },
        { dst := some 21, op := .app 1 1 (.s 14) (.s 20) },
        { dst := some 0, op := .mov (.s 21) }]))
    (.ops [{ dst := some 12, op := .mov (.s 7) },
      { dst := some 13, op := .bin .sub (.s 12) (.c (.int .i64 1)) },
      { dst := some 7, op := .mov (.s 13) }]))

def F_disk_put_uint64 : PF :=
  .mk
    (.seq (.ops [{ dst := some 6, op := .mov (.c (.slc 0 [] true)) }])
      (.seq (.seq (.ops [{ dst := some 8, op := .mov (.s 2) },
        { dst := some 9, op := .bin .sub (.s 8) (.c (.int .i64 1)) },
        { dst := some 7, op := .mov (.s 9) }])
      (.block 0 (.loop [0, 1, 7] F_disk_put_uint64_L0)))
      (.seq (.ops [{ dst := some 22, op := .mov (.s 0) },
        { dst := some 6, op := .mov (.s 22) }])
      (.ret))))
    [.tmp 6]
theorem tr_disk_put_uint64 : trF Tryd.prog [28, 2000035, 34, 33, 38] 33 [[0, 1, 7]] = some F_disk_put_uint64 := by kernel_rfl

/-! wagonpool/disk.put[uint32] -/
def F_disk_put_uint32_L0 : PC :=
  .seq (.seq (.ops [{ dst := some 10, op := .mov (.s 7) },
      { dst := some 11, op := .bin .geq (.s 10) (.c (.int .i64 0)) }])
    (.cond (.s 11)
      (.skip)
      (.exit 0)))
    (.seq (.block 1 (.ops [{ dst := some 14, op := .mov (.s 0) },
        { dst := some 15, op := .mov (.s 1) },
        { dst := some 16, op := .mov (.s 7) },
        { dst := some 17, op := .bin .mul (.c (.int .i64 8)) (.s 16) },
        { dst := some 18, op := .bin .shr (.s 15) (.s 17) },
        { dst := some 19, op := .conv (.int .u8) (.s 18) },
        { dst := some 20, op := .bslc 1 [(.s 19)] },
        { dst := some 21, op := .app 1 1 (.s 14) (.s 20) },
        { dst := some 0, op := .mov (.s 21) }]))
    (.ops [{ dst := some 12, op := .mov (.s 7) },
      { dst := some 13, op := .bin .sub (.s 12) (.c (.int .i64 1)) },
      { dst := some 7, op := .mov (.s 13) }]))

def F_disk_put_uint32 : PF :=
  .mk
    (.seq (.ops [{ dst := some 6, op := .mov (.c (.slc 0 [] true)) }])
      (.seq (.seq (.ops [{ dst := some 8, op := .mov (.s 2) },
        { dst := some 9, op := .bin .sub (.s 8) (.c (.int .i64 1)) },
        { dst := some 7, op := .mov (.s 9) }])
      (.block 0 (.loop [0, 1, 7] F_disk_put_uint32_L0)))
      (.seq (.ops [{ dst := some 22, op := .mov (.s 0) },
        { dst := some 6, op := .mov (.s 22) }])
      (.ret))))
    [.tmp 6]
theorem tr_disk_put_uint32 : trF Tryd.prog [28, 2000035, 34, 33, 38] 34 [[0, 1, 7]] = some F_disk_put_uint32 := by kernel_rfl

/-! wagonpool/disk.units$1 -/
def F_disk_units_1_L0 : PC :=
  .seq (.ops [{ dst := some 21, op := .bin .lss (.s 20) (.s 19) }])
    (.seq (.cond (.s 21)
      (.skip)
      (.exit 2))
    (.seq (.block 3 (.seq (.ops [{ dst := some 22, op := .idxS 1 (.s 18) (.s 20) },
        { dst := some 23, op := .load 1 false (.s 22) },
        { dst := some 6, op := .mov (.s 23) }])
      (.ops [{ dst := some 24, op := .mov (.s 4) },
        { dst := some 25, op := .bin .shl (.s 24) (.c (.int .u64 8)) },
        { dst := some 26, op := .mov (.s 6) },
        { dst := some 27, op := .conv (.int .i64) (.s 26) },
        { dst := some 28, op := .bin .or (.s 25) (.s 27) },
        { dst := some 4, op := .mov (.s 28) }])))
    (.ops [{ dst := some 29, op := .bin .add (.s 20) (.c (.int .i64 1)) },
      { dst := some 20, op := .mov (.s 29) }])))

def F_disk_units_1_L1 : PC :=
  .seq (.seq (.ops [{ dst := some 9, op := .load 1 false (.s 1) },
      { dst := some 10, op := .len false (.s 9) },
      { dst := some 11, op := .mov (.s 3) },
      { dst := some 12, op := .bin .sub (.s 10) (.s 11) },
      { dst := some 13, op := .bin .geq (.s 12) (.c (.int .i64 12)) }])
    (.cond (.s 13)
      (.skip)
      (.exit 0)))
    (.block 1 (.seq (.ops [{ dst := some 4, op := .mov (.c (.int .i64 0)) }])
      (.seq (.seq (.ops [{ dst := some 14, op := .load 1 false (.s 1) },
        { dst := some 15, op := .mov (.s 3) },
        { dst := some 16, op := .mov (.s 3) },
        { dst := some 17, op := .bin .add (.s 16) (.c (.int .i64 4)) },
        { dst := some 18, op := .slice 1 (.s 14) (some (.s 15)) (some (.s 17)) none },
        { dst := some 19, op := .len false (.s 18) },
        { dst := some 20, op := .mov (.c (.int .i64 0)) }])
      (.block 2 (.loopA [0, 1, 3, 4, 18, 19, 20] F_disk_units_1_L0)))
      (.seq (.seq (.ops [{ dst := some 30, op := .mov (.s 4) },
        { dst := some 31, op := .bin .gtr (.s 30) (.c (.int .i64 16000)) },
        { dst := some 32, op := .mov (.s 31) },
        { dst := some 33, op := .mov (.s 4), guard := some (32, false) },
        { dst := some 34, op := .load 1 false (.s 1), guard := some (32, false) },
        { dst := some 35, op := .len false (.s 34), guard := some (32, false) },
        { dst := some 36, op := .mov (.s 3), guard := some (32, false) },
        { dst := some 37, op := .bin .sub (.s 35) (.s 36), guard := some (32, false) },
        { dst := some 38, op := .bin .sub (.s 37) (.c (.int .i64 12)), guard := some (32, false) },
        { dst := some 39, op := .bin .gtr (.s 33) (.s 38), guard := some (32, false) },
        { dst := some 40, op := .pick (.s 32) (.c (.bool true)) (.s 39) }])
      (.cond (.s 40)
        (.ret)
        (.skip)))
      (.seq (.ops [{ dst := some 41, op := .mov (.s 3) },
        { dst := some 42, op := .bin .add (.s 41) (.c (.int .i64 12)) },
        { dst := some 43, op := .mov (.s 4) },
        { dst := some 44, op := .bin .add (.s 42) (.s 43) },
        { dst := some 7, op := .mov (.s 44) }])
      (.seq (.ops [{ dst := some 45, op := .load 1 false (.s 1) },
        { dst := some 46, op := .mov (.s 3) },
        { dst := some 47, op := .bin .add (.s 46) (.c (.int .i64 12)) },
        { dst := some 48, op := .mov (.s 7) },
        { dst := some 49, op := .mov (.s 7) },
        { dst := some 50, op := .slice 1 (.s 45) (some (.s 47)) (some (.s 48)) (some (.s 49)) },
        { dst := some 8, op := .mov (.s 50) }])
      (.seq (.seq (.ops [{ dst := some 51, op := .mov (.s 3) },
        { dst := some 52, op := .mov (.s 8) },
        { dst := some 53, op := .call 27 [(.s 51), (.s 52)] },
        { dst := some 54, op := .load 1 false (.s 1) },
        { dst := some 55, op := .mov (.s 3) },
        { dst := some 56, op := .mov (.s 7) },
        { dst := some 57, op := .slice 1 (.s 54) (some (.s 55)) (some (.s 56)) none },
        { dst := some 58, op := .call 36 [(.s 53), (.s 57)] },
        { dst := some 59, op := .un .not (.s 58) },
        { dst := some 60, op := .mov (.s 59) },
        { dst := some 61, op := .mov (.s 0), guard := some (60, false) },
        { dst := some 62, op := .mov (.s 7), guard := some (60, false) },
        { dst := some 63, op := .mov (.s 8), guard := some (60, false) },
        { dst := some 64, op := .callv (.s 61) [(.s 62), (.s 63)], guard := some (60, false) },
        { dst := some 65, op := .un .not (.s 64), guard := some (60, false) },
        { dst := some 66, op := .pick (.s 60) (.c (.bool true)) (.s 65) }])
      (.cond (.s 66)
        (.ret)
        (.skip)))
      (.ops [{ dst := some 67, op := .mov (.s 7) },
        { dst := some 3, op := .mov (.s 67) }]))))))))

def F_disk_units_1 : PF :=
  .mk
    (.seq (.ops [{ dst := some 3, op := .mov (.c (.int .i64 0)) }])
      (.block 0 (.loopA [0, 1, 3] F_disk_units_1_L1)))
    []
theorem tr_disk_units_1 : trF Tryd.prog [28, 2000035, 34, 33, 38] 35 [[1000000, 0, 1, 3], [1000000, 0, 1, 3, 4, 18, 19, 20]] = some F_disk_units_1 := by kernel_rfl

/-! bytes.Equal -/
def F_bytes_Equal : PF :=
  .mk
    (.seq (.ops [{ dst := some 4, op := .mov (.c (.bool false)) }])
      (.seq (.ops [{ dst := some 5, op := .mov (.s 0) },
        { dst := some 6, op := .conv .str (.s 5) },
        { dst := some 7, op := .mov (.s 1) },
        { dst := some 8, op := .conv .str (.s 7) },
        { dst := some 9, op := .bin .eql (.s 6) (.s 8) },
        { dst := some 4, op := .mov (.s 9) }])
      (.ret)))
    [.tmp 4]
theorem tr_bytes_Equal : trF Tryd.prog [28, 2000035, 34, 33, 38] 36 [] = some F_bytes_Equal := by kernel_rfl

/-! wagonpool/digest.sum -/
def F_digest_sum_L0 : PC :=
  .seq (.ops [{ dst := some 13, op := .bin .lss (.s 12) (.s 11) }])
    (.seq (.cond (.s 13)
      (.skip)
      (.exit 0))
    (.seq (.block 1 (.seq (.ops [{ dst := some 14, op := .idxS 1 (.s 10) (.s 12) },
        { dst := some 15, op := .load 1 false (.s 14) },
        { dst := some 5, op := .mov (.s 15) }])
      (.ops [{ dst := some 16, op := .mov (.s 3) },
        { dst := some 17, op := .mov (.s 5) },
        { dst := some 18, op := .app 1 1 (.s 16) (.s 17) },
        { dst := some 3, op := .mov (.s 18) }])))
    (.ops [{ dst := some 19, op := .bin .add (.s 12) (.c (.int .i64 1)) },
      { dst := some 12, op := .mov (.s 19) }])))

def F_digest_sum_L1 : PC :=
  .seq (.seq (.ops [{ dst := some 27, op := .mov (.s 3) },
      { dst := some 28, op := .len false (.s 27) },
      { dst := some 29, op := .bin .rem (.s 28) (.c (.int .i64 64)) },
      { dst := some 30, op := .bin .neq (.s 29) (.c (.int .i64 56)) }])
    (.cond (.s 30)
      (.skip)
      (.exit 2)))
    (.block 3 (.ops [{ dst := some 31, op := .mov (.s 3) },
        { dst := some 32, op := .bslc 1 [(.c (.int .u8 0))] },
        { dst := some 33, op := .app 1 1 (.s 31) (.s 32) },
        { dst := some 3, op := .mov (.s 33) }]))

def F_digest_sum_L2 : PC :=
  .seq (.seq (.ops [{ dst := some 34, op := .mov (.s 7) },
      { dst := some 35, op := .bin .geq (.s 34) (.c (.int .i64 0)) }])
    (.cond (.s 35)
      (.skip)
      (.exit 4)))
    (.seq (.block 5 (.ops [{ dst := some 38, op := .mov (.s 3) },
        { dst := some 39, op := .mov (.s 6) },
        { dst := some 40, op := .mov (.s 7) },
        { dst := some 41, op := .bin .shr (.s 39) (.s 40) },
        { dst := some 42, op := .conv (.int .u8) (.s 41) },
        { dst := some 43, op := .bslc 1 [(.s 42)] },
        { dst := some 44, op := .app 1 1 (.s 38) (.s 43) },
        { dst := some 3, op := .mov (.s 44) }]))
    (.ops [{ dst := some 36, op := .mov (.s 7) },
      { dst := some 37, op := .bin .sub (.s 36) (.c (.int .i64 8)) },
      { dst := some 7, op := .mov (.s 37) }]))

def F_digest_sum_L3 : PC :=
  .seq (.seq (.ops [{ dst := some 46, op := .mov (.s 3) },
      { dst := some 47, op := .len false (.s 46) },
      { dst := some 48, op := .bin .gtr (.s 47) (.c (.int .i64 0)) }])
    (.cond (.s 48)
      (.skip)
      (.exit 6)))
    (.seq (.block 7 (.ops [{ dst := some 51, op := .load 8 true (.s 8) },
        { dst := some 52, op := .mov (.s 3) },
        { dst := some 53, op := .slice 1 (.s 52) none (some (.c (.int .i64 64))) none },
        { dst := some 54, op := .call 40 [(.s 51), (.s 53)] },
        { dst := none, op := .stor 8 (.s 8) (.s 54) }]))
    (.ops [{ dst := some 49, op := .mov (.s 3) },
      { dst := some 50, op := .slice 1 (.s 49) (some (.c (.int .i64 64))) none none },
      { dst := some 3, op := .mov (.s 50) }]))

def F_digest_sum_L4 : PC :=
  .seq (.ops [{ dst := some 56, op := .bin .lss (.s 55) (.c (.int .i64 32)) }])
    (.seq (.cond (.s 56)
      (.skip)
      (.exit 8))
    (.seq (.block 9 (.seq (.ops [{ dst := some 57, op := .mov (.s 55) },
        { dst := some 9, op := .mov (.s 57) }])
      (.ops [{ dst := some 58, op := .mov (.s 9) },
        { dst := some 59, op := .mov (.s 9) },
        { dst := some 60, op := .bin .quo (.s 59) (.c (.int .i64 4)) },
        { dst := some 61, op := .idxA 8 1 (.s 8) (.s 60) },
        { dst := some 62, op := .load 1 false (.s 61) },
        { dst := some 63, op := .mov (.s 9) },
        { dst := some 64, op := .bin .rem (.s 63) (.c (.int .i64 4)) },
        { dst := some 65, op := .bin .mul (.c (.int .i64 8)) (.s 64) },
        { dst := some 66, op := .bin .sub (.c (.int .i64 24)) (.s 65) },
        { dst := some 67, op := .bin .shr (.s 62) (.s 66) },
        { dst := some 68, op := .conv (.int .u8) (.s 67) },
        { dst := some 69, op := .idxA 32 1 (.s 2) (.s 58) },
        { dst := none, op := .stor 1 (.s 69) (.s 68) }])))
    (.ops [{ dst := some 70, op := .bin .add (.s 55) (.c (.int .i64 1)) },
      { dst := some 55, op := .mov (.s 70) }])))

def F_digest_sum : PF :=
  .mk
    (.seq (.ops [{ dst := some 2, op := .box (.c (.agg [(.int .u8 0), (.int .u8 0), (.int .u8 0), (.int .u8 0), (.int .u8 0), (.int .u8 0), (.int .u8 0), (.int .u8 0), (.int .u8 0), (.int .u8 0), (.int .u8 0), (.int .u8 0), (.int .u8 0), (.int .u8 0), (.int .u8 0), (.int .u8 0), (.int .u8 0), (.int .u8 0), (.int .u8 0), (.int .u8 0), (.int .u8 0), (.int .u8 0), (.int .u8 0), (.int .u8 0), (.int .u8 0), (.int .u8 0), (.int .u8 0), (.int .u8 0), (.int .u8 0), (.int .u8 0), (.int .u8 0), (.int .u8 0)])) }])
      (.seq (.ops [{ dst := some 3, op := .mov (.c (.slc 0 [] true)) }])
      (.seq (.seq (.ops [{ dst := some 10, op := .mov (.s 0) },
        { dst := some 11, op := .len false (.s 10) },
        { dst := some 12, op := .mov (.c (.int .i64 0)) }])
      (.block 0 (.loop [2, 3, 10, 11, 12] F_digest_sum_L0)))
      (.seq (.ops [{ dst := some 20, op := .mov (.s 3) },
        { dst := some 21, op := .len false (.s 20) },
        { dst := some 22, op := .conv (.int .u64) (.s 21) },
        { dst := some 23, op := .bin .mul (.s 22) (.c (.int .u64 8)) },
        { dst := some 6, op := .mov (.s 23) }])
      (.seq (.ops [{ dst := some 24, op := .mov (.s 3) },
        { dst := some 25, op := .bslc 1 [(.c (.int .u8 128))] },
        { dst := some 26, op := .app 1 1 (.s 24) (.s 25) },
        { dst := some 3, op := .mov (.s 26) }])
      (.seq (.block 2 (.loop [2, 3, 6] F_digest_sum_L1))
      (.seq (.seq (.ops [{ dst := some 7, op := .mov (.c (.int .i64 56)) }])
      (.block 4 (.loop [2, 3, 6, 7] F_digest_sum_L2)))
      (.seq (.ops [{ dst := some 45, op := .bld [(.int .u32 0), (.int .u32 0), (.int .u32 0), (.int .u32 0), (.int .u32 0), (.int .u32 0), (.int .u32 0), (.int .u32 0)] [(0, 1, (.c (.int .u32 1779033703))), (1, 1, (.c (.int .u32 3144134277))), (2, 1, (.c (.int .u32 1013904242))), (3, 1, (.c (.int .u32 2773480762))), (4, 1, (.c (.int .u32 1359893119))), (5, 1, (.c (.int .u32 2600822924))), (6, 1, (.c (.int .u32 528734635))), (7, 1, (.c (.int .u32 1541459225)))] },
        { dst := some 8, op := .box (.c (.agg [(.int .u32 0), (.int .u32 0), (.int .u32 0), (.int .u32 0), (.int .u32 0), (.int .u32 0), (.int .u32 0), (.int .u32 0)])) },
        { dst := none, op := .stor 8 (.s 8) (.s 45) }])
      (.seq (.block 6 (.loop [2, 3, 8] F_digest_sum_L3))
      (.seq (.seq (.ops [{ dst := some 55, op := .mov (.c (.int .i64 0)) }])
      (.block 8 (.loop [2, 8, 55] F_digest_sum_L4)))
      (.seq (.ops [{ dst := some 71, op := .load 32 true (.s 2) },
        { dst := none, op := .stor 32 (.s 2) (.s 71) }])
      (.ret))))))))))))
    [.cell 2 32 true]
theorem tr_digest_sum : trF Tryd.prog [28, 2000035, 34, 33, 38] 37 [[2, 3, 10, 11, 12], [2, 3, 6], [2, 3, 6, 7], [2, 3, 8], [2, 8, 55]] = some F_digest_sum := by kernel_rfl

/-! wagonpool/wagonpoolref13.number -/
def F_wagonpoolref13_number_L0 : PC :=
  .seq (.seq (.ops [{ dst := some 10, op := .mov (.s 6) },
      { dst := some 11, op := .bin .geq (.s 10) (.c (.int .i64 0)) }])
    (.cond (.s 11)
      (.skip)
      (.exit 0)))
    (.seq (.block 1 (.ops [{ dst := some 14, op := .mov (.s 5) },
        { dst := some 15, op := .mov (.s 0) },
        { dst := some 16, op := .mov (.s 6) },
        { dst := some 17, op := .bin .mul (.c (.int .i64 8)) (.s 16) },
        { dst := some 18, op := .bin .shr (.s 15) (.s 17) },
        { dst := some 19, op := .conv (.int .u8) (.s 18) },
        { dst := some 20, op := .bslc 1 [(.s 19)] },
        { dst := some 21, op := .app 1 1 (.s 14) (.s 20) },
        { dst := some 5, op := .mov (.s 21) }]))
    (.ops [{ dst := some 12, op := .mov (.s 6) },
      { dst := some 13, op := .bin .sub (.s 12) (.c (.int .i64 1)) },
      { dst := some 6, op := .mov (.s 13) }]))

def F_wagonpoolref13_number : PF :=
  .mk
    (.seq (.ops [{ dst := some 4, op := .mov (.c (.slc 0 [] true)) }])
      (.seq (.ops [{ dst := some 7, op := .bslc 1 [] },
        { dst := some 5, op := .mov (.s 7) }])
      (.seq (.seq (.ops [{ dst := some 8, op := .mov (.s 1) },
        { dst := some 9, op := .bin .sub (.s 8) (.c (.int .i64 1)) },
        { dst := some 6, op := .mov (.s 9) }])
      (.block 0 (.loop [0, 5, 6] F_wagonpoolref13_number_L0)))
      (.seq (.ops [{ dst := some 22, op := .mov (.s 5) },
        { dst := some 4, op := .mov (.s 22) }])
      (.ret)))))
    [.tmp 4]
theorem tr_wagonpoolref13_number : trF Tryd.prog [28, 2000035, 34, 33, 38] 38 [[0, 5, 6]] = some F_wagonpoolref13_number := by kernel_rfl

/-! wagonpool/wagonpoolref13.Checksum -/
def F_wagonpoolref13_Checksum_L0 : PC :=
  .seq (.seq (.ops [{ dst := some 17, op := .mov (.s 8) },
      { dst := some 18, op := .bin .lss (.s 17) (.c (.int .i64 8)) }])
    (.cond (.s 18)
      (.skip)
      (.exit 0)))
    (.seq (.block 1 (.ops [{ dst := some 21, op := .mov (.s 7) },
        { dst := some 22, op := .mov (.s 8) },
        { dst := some 23, op := .idxA 32 1 (.s 6) (.s 22) },
        { dst := some 24, op := .load 1 false (.s 23) },
        { dst := some 25, op := .bslc 1 [(.s 24)] },
        { dst := some 26, op := .app 1 1 (.s 21) (.s 25) },
        { dst := some 7, op := .mov (.s 26) }]))
    (.ops [{ dst := some 19, op := .mov (.s 8) },
      { dst := some 20, op := .bin .add (.s 19) (.c (.int .i64 1)) },
      { dst := some 8, op := .mov (.s 20) }]))

def F_wagonpoolref13_Checksum : PF :=
  .mk
    (.seq (.ops [{ dst := some 4, op := .mov (.c (.slc 0 [] true)) }])
      (.seq (.ops [{ dst := some 9, op := .mov (.s 0) },
        { dst := some 10, op := .icall 38 [(.s 9), (.c (.int .i64 8))] },
        { dst := some 5, op := .mov (.s 10) }])
      (.seq (.ops [{ dst := some 11, op := .mov (.s 5) },
        { dst := some 12, op := .mov (.s 1) },
        { dst := some 13, op := .app 1 1 (.s 11) (.s 12) },
        { dst := some 5, op := .mov (.s 13) }])
      (.seq (.ops [{ dst := some 14, op := .mov (.s 5) },
        { dst := some 15, op := .call 41 [(.c (.str [117, 110, 105, 116])), (.s 14)] },
        { dst := some 6, op := .box (.c (.agg [(.int .u8 0), (.int .u8 0), (.int .u8 0), (.int .u8 0), (.int .u8 0), (.int .u8 0), (.int .u8 0), (.int .u8 0), (.int .u8 0), (.int .u8 0), (.int .u8 0), (.int .u8 0), (.int .u8 0), (.int .u8 0), (.int .u8 0), (.int .u8 0), (.int .u8 0), (.int .u8 0), (.int .u8 0), (.int .u8 0), (.int .u8 0), (.int .u8 0), (.int .u8 0), (.int .u8 0), (.int .u8 0), (.int .u8 0), (.int .u8 0), (.int .u8 0), (.int .u8 0), (.int .u8 0), (.int .u8 0), (.int .u8 0)])) },
        { dst := none, op := .stor 32 (.s 6) (.s 15) }])
      (.seq (.ops [{ dst := some 16, op := .bslc 1 [] },
        { dst := some 7, op := .mov (.s 16) }])
      (.seq (.seq (.ops [{ dst := some 8, op := .mov (.c (.int .i64 0)) }])
      (.block 0 (.loop [6, 7, 8] F_wagonpoolref13_Checksum_L0)))
      (.seq (.ops [{ dst := some 27, op := .mov (.s 7) },
        { dst := some 4, op := .mov (.s 27) }])
      (.ret))))))))
    [.tmp 4]
theorem tr_wagonpoolref13_Checksum : trF Tryd.prog [28, 2000035, 34, 33, 38] 39 [[6, 7, 8]] = some F_wagonpoolref13_Checksum := by kernel_rfl

/-! wagonpool/digest.block -/
def F_digest_block_L0 : PC :=
  .seq (.ops [{ dst := some 20, op := .bin .lss (.s 19) (.c (.int .i64 16)) }])
    (.seq (.cond (.s 20)
      (.skip)
      (.exit 0))
    (.seq (.block 1 (.seq (.ops [{ dst := some 21, op := .mov (.s 19) },
        { dst := some 6, op := .mov (.s 21) }])
      (.ops [{ dst := some 22, op := .mov (.s 6) },
        { dst := some 23, op := .mov (.s 1) },
        { dst := some 24, op := .mov (.s 6) },
        { dst := some 25, op := .bin .mul (.c (.int .i64 4)) (.s 24) },
        { dst := some 26, op := .idxS 1 (.s 23) (.s 25) },
        { dst := some 27, op := .load 1 false (.s 26) },
        { dst := some 28, op := .conv (.int .u32) (.s 27) },
        { dst := some 29, op := .bin .shl (.s 28) (.c (.int .u64 24)) },
        { dst := some 30, op := .mov (.s 1) },
        { dst := some 31, op := .mov (.s 6) },
        { dst := some 32, op := .bin .mul (.c (.int .i64 4)) (.s 31) },
        { dst := some 33, op := .bin .add (.s 32) (.c (.int .i64 1)) },
        { dst := some 34, op := .idxS 1 (.s 30) (.s 33) },
        { dst := some 35, op := .load 1 false (.s 34) },
        { dst := some 36, op := .conv (.int .u32) (.s 35) },
        { dst := some 37, op := .bin .shl (.s 36) (.c (.int .u64 16)) },
        { dst := some 38, op := .bin .or (.s 29) (.s 37) },
        { dst := some 39, op := .mov (.s 1) },
        { dst := some 40, op := .mov (.s 6) },
        { dst := some 41, op := .bin .mul (.c (.int .i64 4)) (.s 40) },
        { dst := some 42, op := .bin .add (.s 41) (.c (.int .i64 2)) },
        { dst := some 43, op := .idxS 1 (.s 39) (.s 42) },
        { dst := some 44, op := .load 1 false (.s 43) },
        { dst := some 45, op := .conv (.int .u32) (.s 44) },
        { dst := some 46, op := .bin .shl (.s 45) (.c (.int .u64 8)) },
        { dst := some 47, op := .bin .or (.s 38) (.s 46) },
        { dst := some 48, op := .mov (.s 1) },
        { dst := some 49, op := .mov (.s 6) },
        { dst := some 50, op := .bin .mul (.c (.int .i64 4)) (.s 49) },
        { dst := some 51, op := .bin .add (.s 50) (.c (.int .i64 3)) },
        { dst := some 52, op := .idxS 1 (.s 48) (.s 51) },
        { dst := some 53, op := .load 1 false (.s 52) },
        { dst := some 54, op := .conv (.int .u32) (.s 53) },
        { dst := some 55, op := .bin .or (.s 47) (.s 54) },
        { dst := some 56, op := .idxA 64 1 (.s 5) (.s 22) },
        { dst := none, op := .stor 1 (.s 56) (.s 55) }])))
    (.ops [{ dst := some 57, op := .bin .add (.s 19) (.c (.int .i64 1)) },
      { dst := some 19, op := .mov (.s 57) }])))

def F_digest_block_L1 : PC :=
  .seq (.seq (.ops [{ dst := some 58, op := .mov (.s 7) },
      { dst := some 59, op := .bin .lss (.s 58) (.c (.int .i64 64)) }])
    (.cond (.s 59)
      (.skip)
      (.exit 2)))
    (.seq (.block 3 (.seq (.ops [{ dst := some 62, op := .mov (.s 7) },
        { dst := some 63, op := .bin .sub (.s 62) (.c (.int .i64 15)) },
        { dst := some 64, op := .idxA 64 1 (.s 5) (.s 63) },
        { dst := some 65, op := .load 1 false (.s 64) },
        { dst := some 66, op := .mov (.s 7) },
        { dst := some 67, op := .bin .sub (.s 66) (.c (.int .i64 2)) },
        { dst := some 68, op := .idxA 64 1 (.s 5) (.s 67) },
        { dst := some 69, op := .load 1 false (.s 68) },
        { dst := some 8, op := .mov (.s 65) },
        { dst := some 9, op := .mov (.s 69) }])
      (.seq (.ops [{ dst := some 70, op := .mov (.s 8) },
        { dst := some 71, op := .call 42 [(.s 70), (.c (.int .i64 (-7)))] },
        { dst := some 72, op := .mov (.s 8) },
        { dst := some 73, op := .call 42 [(.s 72), (.c (.int .i64 (-18)))] },
        { dst := some 74, op := .bin .xor (.s 71) (.s 73) },
        { dst := some 75, op := .mov (.s 8) },
        { dst := some 76, op := .bin .shr (.s 75) (.c (.int .u64 3)) },
        { dst := some 77, op := .bin .xor (.s 74) (.s 76) },
        { dst := some 10, op := .mov (.s 77) }])
      (.seq (.ops [{ dst := some 78, op := .mov (.s 9) },
        { dst := some 79, op := .call 42 [(.s 78), (.c (.int .i64 (-17)))] },
        { dst := some 80, op := .mov (.s 9) },
        { dst := some 81, op := .call 42 [(.s 80), (.c (.int .i64 (-19)))] },
        { dst := some 82, op := .bin .xor (.s 79) (.s 81) },
        { dst := some 83, op := .mov (.s 9) },
        { dst := some 84, op := .bin .shr (.s 83) (.c (.int .u64 10)) },
        { dst := some 85, op := .bin .xor (.s 82) (.s 84) },
        { dst := some 11, op := .mov (.s 85) }])
      (.ops [{ dst := some 86, op := .mov (.s 7) },
        { dst := some 87, op := .mov (.s 7) },
        { dst := some 88, op := .bin .sub (.s 87) (.c (.int .i64 16)) },
        { dst := some 89, op := .idxA 64 1 (.s 5) (.s 88) },
        { dst := some 90, op := .load 1 false (.s 89) },
        { dst := some 91, op := .mov (.s 10) },
        { dst := some 92, op := .bin .add (.s 90) (.s 91) },
        { dst := some 93, op := .mov (.s 7) },
        { dst := some 94, op := .bin .sub (.s 93) (.c (.int .i64 7)) },
        { dst := some 95, op := .idxA 64 1 (.s 5) (.s 94) },
        { dst := some 96, op := .load 1 false (.s 95) },
        { dst := some 97, op := .bin .add (.s 92) (.s 96) },
        { dst := some 98, op := .mov (.s 11) },
        { dst := some 99, op := .bin .add (.s 97) (.s 98) },
        { dst := some 100, op := .idxA 64 1 (.s 5) (.s 86) },
        { dst := none, op := .stor 1 (.s 100) (.s 99) }])))))
    (.ops [{ dst := some 60, op := .mov (.s 7) },
      { dst := some 61, op := .bin .add (.s 60) (.c (.int .i64 1)) },
      { dst := some 7, op := .mov (.s 61) }]))

def F_digest_block_L2 : PC :=
  .seq (.ops [{ dst := some 103, op := .bin .lss (.s 102) (.c (.int .i64 64)) }])
    (.seq (.cond (.s 103)
      (.skip)
      (.exit 4))
    (.seq (.block 5 (.seq (.ops [{ dst := some 104, op := .mov (.s 102) },
        { dst := some 13, op := .mov (.s 104) }])
      (.seq (.ops [{ dst := some 105, op := .idxA 8 1 (.s 12) (.c (.int .i64 0)) },
        { dst := some 106, op := .load 1 false (.s 105) },
        { dst := some 107, op := .idxA 8 1 (.s 12) (.c (.int .i64 4)) },
        { dst := some 108, op := .load 1 false (.s 107) },
        { dst := some 14, op := .mov (.s 106) },
        { dst := some 15, op := .mov (.s 108) }])
      (.seq (.ops [{ dst := some 109, op := .idxA 8 1 (.s 12) (.c (.int .i64 7)) },
        { dst := some 110, op := .load 1 false (.s 109) },
        { dst := some 111, op := .mov (.s 15) },
        { dst := some 112, op := .call 42 [(.s 111), (.c (.int .i64 (-6)))] },
        { dst := some 113, op := .mov (.s 15) },
        { dst := some 114, op := .call 42 [(.s 113), (.c (.int .i64 (-11)))] },
        { dst := some 115, op := .bin .xor (.s 112) (.s 114) },
        { dst := some 116, op := .mov (.s 15) },
        { dst := some 117, op := .call 42 [(.s 116), (.c (.int .i64 (-25)))] },
        { dst := some 118, op := .bin .xor (.s 115) (.s 117) },
        { dst := some 119, op := .bin .add (.s 110) (.s 118) },
        { dst := some 120, op := .mov (.s 15) },
        { dst := some 121, op := .idxA 8 1 (.s 12) (.c (.int .i64 5)) },
        { dst := some 122, op := .load 1 false (.s 121) },
        { dst := some 123, op := .bin .and (.s 120) (.s 122) },
        { dst := some 124, op := .mov (.s 15) },
        { dst := some 125, op := .un .xor (.s 124) },
        { dst := some 126, op := .idxA 8 1 (.s 12) (.c (.int .i64 6)) },
        { dst := some 127, op := .load 1 false (.s 126) },
        { dst := some 128, op := .bin .and (.s 125) (.s 127) },
        { dst := some 129, op := .bin .xor (.s 123) (.s 128) },
        { dst := some 130, op := .bin .add (.s 119) (.s 129) },
        { dst := some 131, op := .mov (.s 13) },
        { dst := some 132, op := .idxA 64 1 (.g 0) (.s 131) },
        { dst := some 133, op := .load 1 false (.s 132) },
        { dst := some 134, op := .bin .add (.s 130) (.s 133) },
        { dst := some 135, op := .mov (.s 13) },
        { dst := some 136, op := .idxA 64 1 (.s 5) (.s 135) },
        { dst := some 137, op := .load 1 false (.s 136) },
        { dst := some 138, op := .bin .add (.s 134) (.s 137) },
        { dst := some 16, op := .mov (.s 138) }])
      (.seq (.ops [{ dst := some 139, op := .mov (.s 14) },
        { dst := some 140, op := .call 42 [(.s 139), (.c (.int .i64 (-2)))] },
        { dst := some 141, op := .mov (.s 14) },
        { dst := some 142, op := .call 42 [(.s 141), (.c (.int .i64 (-13)))] },
        { dst := some 143, op := .bin .xor (.s 140) (.s 142) },
        { dst := some 144, op := .mov (.s 14) },
        { dst := some 145, op := .call 42 [(.s 144), (.c (.int .i64 (-22)))] },
        { dst := some 146, op := .bin .xor (.s 143) (.s 145) },
        { dst := some 147, op := .mov (.s 14) },
        { dst := some 148, op := .idxA 8 1 (.s 12) (.c (.int .i64 1)) },
        { dst := some 149, op := .load 1 false (.s 148) },
        { dst := some 150, op := .bin .and (.s 147) (.s 149) },
        { dst := some 151, op := .mov (.s 14) },
        { dst := some 152, op := .idxA 8 1 (.s 12) (.c (.int .i64 2)) },
        { dst := some 153, op := .load 1 false (.s 152) },
        { dst := some 154, op := .bin .and (.s 151) (.s 153) },
        { dst := some 155, op := .bin .xor (.s 150) (.s 154) },
        { dst := some 156, op := .idxA 8 1 (.s 12) (.c (.int .i64 1)) },
        { dst := some 157, op := .load 1 false (.s 156) },
        { dst := some 158, op := .idxA 8 1 (.s 12) (.c (.int .i64 2)) },
        { dst := some 159, op := .load 1 false (.s 158) },
        { dst := some 160, op := .bin .and (.s 157) (.s 159) },
        { dst := some 161, op := .bin .xor (.s 155) (.s 160) },
        { dst := some 162, op := .bin .add (.s 146) (.s 161) },
        { dst := some 17, op := .mov (.s 162) }])
      (.ops [{ dst := some 163, op := .mov (.s 16) },
        { dst := some 164, op := .mov (.s 17) },
        { dst := some 165, op := .bin .add (.s 163) (.s 164) },
        { dst := some 166, op := .mov (.s 14) },
        { dst := some 167, op := .idxA 8 1 (.s 12) (.c (.int .i64 1)) },
        { dst := some 168, op := .load 1 false (.s 167) },
        { dst := some 169, op := .idxA 8 1 (.s 12) (.c (.int .i64 2)) },
        { dst := some 170, op := .load 1 false (.s 169) },
        { dst := some 171, op := .idxA 8 1 (.s 12) (.c (.int .i64 3)) },
        { dst := some 172, op := .load 1 false (.s 171) },
        { dst := some 173, op := .mov (.s 16) },
        { dst := some 174, op := .bin .add (.s 172) (.s 173) },
        { dst := some 175, op := .mov (.s 15) },
        { dst := some 176, op := .idxA 8 1 (.s 12) (.c (.int .i64 5)) },
        { dst := some 177, op := .load 1 false (.s 176) },
        { dst := some 178, op := .idxA 8 1 (.s 12) (.c (.int .i64 6)) },
        { dst := some 179, op := .load 1 false (.s 178) },
        { dst := some 180, op := .bld [(.int .u32 0), (.int .u32 0), (.int .u32 0), (.int .u32 0), (.int .u32 0), (.int .u32 0), (.int .u32 0), (.int .u32 0)] [(0, 1, (.s 165)), (1, 1, (.s 166)), (2, 1, (.s 168)), (3, 1, (.s 170)), (4, 1, (.s 174)), (5, 1, (.s 175)), (6, 1, (.s 177)), (7, 1, (.s 179))] },
        { dst := none, op := .stor 8 (.s 12) (.s 180) }]))))))
    (.ops [{ dst := some 181, op := .bin .add (.s 102) (.c (.int .i64 1)) },
      { dst := some 102, op := .mov (.s 181) }])))

def F_digest_block_L3 : PC :=
  .seq (.ops [{ dst := some 183, op := .bin .lss (.s 182) (.c (.int .i64 8)) }])
    (.seq (.cond (.s 183)
      (.skip)
      (.exit 6))
    (.seq (.block 7 (.seq (.ops [{ dst := some 184, op := .mov (.s 182) },
        { dst := some 18, op := .mov (.s 184) }])
      (.ops [{ dst := some 185, op := .mov (.s 18) },
        { dst := some 186, op := .idxA 8 1 (.s 2) (.s 185) },
        { dst := some 187, op := .load 1 false (.s 186) },
        { dst := some 188, op := .mov (.s 18) },
        { dst := some 189, op := .idxA 8 1 (.s 12) (.s 188) },
        { dst := some 190, op := .load 1 false (.s 189) },
        { dst := some 191, op := .bin .add (.s 187) (.s 190) },
        { dst := some 192, op := .idxA 8 1 (.s 2) (.s 185) },
        { dst := none, op := .stor 1 (.s 192) (.s 191) }])))
    (.ops [{ dst := some 193, op := .bin .add (.s 182) (.c (.int .i64 1)) },
      { dst := some 182, op := .mov (.s 193) }])))

def F_digest_block : PF :=
  .mk
    (.seq (.ops [{ dst := some 2, op := .box (.s 0) },
        { dst := some 4, op := .box (.c (.agg [(.int .u32 0), (.int .u32 0), (.int .u32 0), (.int .u32 0), (.int .u32 0), (.int .u32 0), (.int .u32 0), (.int .u32 0)])) }])
      (.seq (.ops [{ dst := some 5, op := .box (.c (.agg [(.int .u32 0), (.int .u32 0), (.int .u32 0), (.int .u32 0), (.int .u32 0), (.int .u32 0), (.int .u32 0), (.int .u32 0), (.int .u32 0), (.int .u32 0), (.int .u32 0), (.int .u32 0), (.int .u32 0), (.int .u32 0), (.int .u32 0), (.int .u32 0), (.int .u32 0), (.int .u32 0), (.int .u32 0), (.int .u32 0), (.int .u32 0), (.int .u32 0), (.int .u32 0), (.int .u32 0), (.int .u32 0), (.int .u32 0), (.int .u32 0), (.int .u32 0), (.int .u32 0), (.int .u32 0), (.int .u32 0), (.int .u32 0), (.int .u32 0), (.int .u32 0), (.int .u32 0), (.int .u32 0), (.int .u32 0), (.int .u32 0), (.int .u32 0), (.int .u32 0), (.int .u32 0), (.int .u32 0), (.int .u32 0), (.int .u32 0), (.int .u32 0), (.int .u32 0), (.int .u32 0), (.int .u32 0), (.int .u32 0), (.int .u32 0), (.int .u32 0), (.int .u32 0), (.int .u32 0), (.int .u32 0), (.int .u32 0), (.int .u32 0), (.int .u32 0), (.int .u32 0), (.int .u32 0), (.int .u32 0), (.int .u32 0), (.int .u32 0), (.int .u32 0), (.int .u32 0)])) }])
      (.seq (.seq (.ops [{ dst := some 19, op := .mov (.c (.int .i64 0)) }])
      (.block 0 (.loop [1, 2, 4, 5, 19] F_digest_block_L0)))
      (.seq (.seq (.ops [{ dst := some 7, op := .mov (.c (.int .i64 16)) }])
      (.block 2 (.loop [2, 4, 5, 7] F_digest_block_L1)))
      (.seq (.ops [{ dst := some 101, op := .load 8 true (.s 2) },
        { dst := some 12, op := .box (.c (.agg [(.int .u32 0), (.int .u32 0), (.int .u32 0), (.int .u32 0), (.int .u32 0), (.int .u32 0), (.int .u32 0), (.int .u32 0)])) },
        { dst := none, op := .stor 8 (.s 12) (.s 101) }])
      (.seq (.seq (.ops [{ dst := some 102, op := .mov (.c (.int .i64 0)) }])
      (.block 4 (.loop [2, 4, 5, 12, 102] F_digest_block_L2)))
      (.seq (.seq (.ops [{ dst := some 182, op := .mov (.c (.int .i64 0)) }])
      (.block 6 (.loop [2, 4, 12, 182] F_digest_block_L3)))
      (.seq (.ops [{ dst := some 194, op := .load 8 true (.s 2) },
        { dst := none, op := .stor 8 (.s 4) (.s 194) }])
      (.ret)))))))))
    [.cell 4 8 true]
theorem tr_digest_block : trF Tryd.prog [28, 2000035, 34, 33, 38] 40 [[1, 2, 4, 5, 19], [2, 4, 5, 7], [2, 4, 5, 12, 102], [2, 4, 12, 182]] = some F_digest_block := by kernel_rfl

/-! wagonpool/wagonpoolref02.Tagged -/
def F_wagonpoolref02_Tagged : PF :=
  .mk
    (.seq (.ops [{ dst := some 4, op := .box (.c (.agg [(.int .u8 0), (.int .u8 0), (.int .u8 0), (.int .u8 0), (.int .u8 0), (.int .u8 0), (.int .u8 0), (.int .u8 0), (.int .u8 0), (.int .u8 0), (.int .u8 0), (.int .u8 0), (.int .u8 0), (.int .u8 0), (.int .u8 0), (.int .u8 0), (.int .u8 0), (.int .u8 0), (.int .u8 0), (.int .u8 0), (.int .u8 0), (.int .u8 0), (.int .u8 0), (.int .u8 0), (.int .u8 0), (.int .u8 0), (.int .u8 0), (.int .u8 0), (.int .u8 0), (.int .u8 0), (.int .u8 0), (.int .u8 0)])) }])
      (.seq (.ops [{ dst := some 5, op := .mov (.s 0) },
        { dst := some 6, op := .mov (.s 1) },
        { dst := some 7, op := .call 44 [(.s 5), (.s 6)] },
        { dst := some 8, op := .call 43 [(.s 7)] },
        { dst := none, op := .stor 32 (.s 4) (.s 8) }])
      (.ret)))
    [.cell 4 32 true]
theorem tr_wagonpoolref02_Tagged : trF Tryd.prog [28, 2000035, 34, 33, 38] 41 [] = some F_wagonpoolref02_Tagged := by kernel_rfl

/-! math/bits.RotateLeft32 -/
def F_math_bits_RotateLeft32 : PF :=
  .mk
    (.seq (.ops [{ dst := some 4, op := .mov (.c (.int .u32 0)) }])
      (.seq (.ops [{ dst := some 6, op := .mov (.s 1) },
        { dst := some 7, op := .conv (.int .u64) (.s 6) },
        { dst := some 8, op := .bin .and (.s 7) (.c (.int .u64 31)) },
        { dst := some 5, op := .mov (.s 8) }])
      (.seq (.ops [{ dst := some 9, op := .mov (.s 0) },
        { dst := some 10, op := .mov (.s 5) },
        { dst := some 11, op := .bin .shl (.s 9) (.s 10) },
        { dst := some 12, op := .mov (.s 0) },
        { dst := some 13, op := .mov (.s 5) },
        { dst := some 14, op := .bin .sub (.c (.int .u64 32)) (.s 13) },
        { dst := some 15, op := .bin .shr (.s 12) (.s 14) },
        { dst := some 16, op := .bin .or (.s 11) (.s 15) },
        { dst := some 4, op := .mov (.s 16) }])
      (.ret))))
    [.tmp 4]
theorem tr_math_bits_RotateLeft32 : trF Tryd.prog [28, 2000035, 34, 33, 38] 42 [] = some F_math_bits_RotateLeft32 := by kernel_rfl

/-! wagonpool/wagonpoolref02.Sum -/
def F_wagonpoolref02_Sum_L0 : PC :=
  .seq (.seq (.ops [{ dst := some 11, op := .mov (.s 5) },
      { dst := some 12, op := .mov (.s 4) },
      { dst := some 13, op := .len false (.s 12) },
      { dst := some 14, op := .bin .lss (.s 11) (.s 13) }])
    (.cond (.s 14)
      (.skip)
      (.exit 0)))
    (.seq (.block 1 (.ops [{ dst := some 17, op := .load 8 true (.s 3) },
        { dst := some 18, op := .mov (.s 4) },
        { dst := some 19, op := .mov (.s 5) },
        { dst := some 20, op := .mov (.s 5) },
        { dst := some 21, op := .bin .add (.s 20) (.c (.int .i64 64)) },
        { dst := some 22, op := .slice 1 (.s 18) (some (.s 19)) (some (.s 21)) none },
        { dst := some 23, op := .call 46 [(.s 17), (.s 22)] },
        { dst := none, op := .stor 8 (.s 3) (.s 23) }]))
    (.ops [{ dst := some 15, op := .mov (.s 5) },
      { dst := some 16, op := .bin .add (.s 15) (.c (.int .i64 64)) },
      { dst := some 5, op := .mov (.s 16) }]))

def F_wagonpoolref02_Sum_L1 : PC :=
  .seq (.seq (.ops [{ dst := some 25, op := .mov (.s 7) },
      { dst := some 26, op := .bin .lss (.s 25) (.c (.int .i64 32)) }])
    (.cond (.s 26)
      (.skip)
      (.exit 2)))
    (.seq (.block 3 (.ops [{ dst := some 29, op := .mov (.s 7) },
        { dst := some 30, op := .mov (.s 7) },
        { dst := some 31, op := .bin .quo (.s 30) (.c (.int .i64 4)) },
        { dst := some 32, op := .idxA 8 1 (.s 3) (.s 31) },
        { dst := some 33, op := .load 1 false (.s 32) },
        { dst := some 34, op := .mov (.s 7) },
        { dst := some 35, op := .bin .rem (.s 34) (.c (.int .i64 4)) },
        { dst := some 36, op := .bin .mul (.c (.int .i64 8)) (.s 35) },
        { dst := some 37, op := .bin .sub (.c (.int .i64 24)) (.s 36) },
        { dst := some 38, op := .bin .shr (.s 33) (.s 37) },
        { dst := some 39, op := .conv (.int .u8) (.s 38) },
        { dst := some 40, op := .idxA 32 1 (.s 6) (.s 29) },
        { dst := none, op := .stor 1 (.s 40) (.s 39) }]))
    (.ops [{ dst := some 27, op := .mov (.s 7) },
      { dst := some 28, op := .bin .add (.s 27) (.c (.int .i64 1)) },
      { dst := some 7, op := .mov (.s 28) }]))

def F_wagonpoolref02_Sum : PF :=
  .mk
    (.seq (.ops [{ dst := some 2, op := .box (.c (.agg [(.int .u8 0), (.int .u8 0), (.int .u8 0), (.int .u8 0), (.int .u8 0), (.int .u8 0), (.int .u8 0), (.int .u8 0), (.int .u8 0), (.int .u8 0), (.int .u8 0), (.int .u8 0), (.int .u8 0), (.int .u8 0), (.int .u8 0), (.int .u8 0), (.int .u8 0), (.int .u8 0), (.int .u8 0), (.int .u8 0), (.int .u8 0), (.int .u8 0), (.int .u8 0), (.int .u8 0), (.int .u8 0), (.int .u8 0), (.int .u8 0), (.int .u8 0), (.int .u8 0), (.int .u8 0), (.int .u8 0), (.int .u8 0)])) }])
      (.seq (.ops [{ dst := some 8, op := .bld [(.int .u32 0), (.int .u32 0), (.int .u32 0), (.int .u32 0), (.int .u32 0), (.int .u32 0), (.int .u32 0), (.int .u32 0)] [(0, 1, (.c (.int .u32 1779033703))), (1, 1, (.c (.int .u32 3144134277))), (2, 1, (.c (.int .u32 1013904242))), (3, 1, (.c (.int .u32 2773480762))), (4, 1, (.c (.int .u32 1359893119))), (5, 1, (.c (.int .u32 2600822924))), (6, 1, (.c (.int .u32 528734635))), (7, 1, (.c (.int .u32 1541459225)))] },
        { dst := some 3, op := .box (.c (.agg [(.int .u32 0), (.int .u32 0), (.int .u32 0), (.int .u32 0), (.int .u32 0), (.int .u32 0), (.int .u32 0), (.int .u32 0)])) },
        { dst := none, op := .stor 8 (.s 3) (.s 8) }])
      (.seq (.ops [{ dst := some 9, op := .mov (.s 0) },
        { dst := some 10, op := .call 45 [(.s 9)] },
        { dst := some 4, op := .mov (.s 10) }])
      (.seq (.seq (.ops [{ dst := some 5, op := .mov (.c (.int .i64 0)) }])
      (.block 0 (.loop [2, 3, 4, 5] F_wagonpoolref02_Sum_L0)))
      (.seq (.ops [{ dst := some 24, op := .bld [(.int .u8 0), (.int .u8 0), (.int .u8 0), (.int .u8 0), (.int .u8 0), (.int .u8 0), (.int .u8 0), (.int .u8 0), (.int .u8 0), (.int .u8 0), (.int .u8 0), (.int .u8 0), (.int .u8 0), (.int .u8 0), (.int .u8 0), (.int .u8 0), (.int .u8 0), (.int .u8 0), (.int .u8 0), (.int .u8 0), (.int .u8 0), (.int .u8 0), (.int .u8 0), (.int .u8 0), (.int .u8 0), (.int .u8 0), (.int .u8 0), (.int .u8 0), (.int .u8 0), (.int .u8 0), (.int .u8 0), (.int .u8 0)] [] },
        { dst := some 6, op := .box (.c (.agg [(.int .u8 0), (.int .u8 0), (.int .u8 0), (.int .u8 0), (.int .u8 0), (.int .u8 0), (.int .u8 0), (.int .u8 0), (.int .u8 0), (.int .u8 0), (.int .u8 0), (.int .u8 0), (.int .u8 0), (.int .u8 0), (.int .u8 0), (.int .u8 0), (.int .u8 0), (.int .u8 0), (.int .u8 0), (.int .u8 0), (.int .u8 0), (.int .u8 0), (.int .u8 0), (.int .u8 0), (.int .u8 0), (.int .u8 0), (.int .u8 0), (.int .u8 0), (.int .u8 0), (.int .u8 0), (.int .u8 0), (.int .u8 0)])) },
        { dst := none, op := .stor 32 (.s 6) (.s 24) }])
      (.seq (.seq (.ops [{ dst := some 7, op := .mov (.c (.int .i64 0)) }])
      (.block 2 (.loop [2, 3, 6, 7] F_wagonpoolref02_Sum_L1)))
      (.seq (.ops [{ dst := some 41, op := .load 32 true (.s 6) },
        { dst := none, op := .stor 32 (.s 2) (.s 41) }])
      (.ret))))))))
    [.cell 2 32 true]
theorem tr_wagonpoolref02_Sum : trF Tryd.prog [28, 2000035, 34, 33, 38] 43 [[2, 3, 4, 5], [2, 3, 6, 7]] = some F_wagonpoolref02_Sum := by kernel_rfl

/-! wagonpool/wagonpoolref02.Hashed -/
def F_wagonpoolref02_Hashed : PF :=
  .mk
    (.seq (.ops [{ dst := some 4, op := .mov (.c (.slc 0 [] true)) }])
      (.seq (.ops [{ dst := some 7, op := .mov (.s 0) },
        { dst := some 8, op := .mov (.s 0) },
        { dst := some 9, op := .len true (.s 8) },
        { dst := some 10, op := .mm false (.s 9) (.c (.int .i64 255)) },
        { dst := some 11, op := .slice 0 (.s 7) none (some (.s 10)) none },
        { dst := some 5, op := .mov (.s 11) }])
      (.seq (.ops [{ dst := some 12, op := .mov (.s 5) },
        { dst := some 13, op := .len true (.s 12) },
        { dst := some 14, op := .conv (.int .u8) (.s 13) },
        { dst := some 15, op := .bslc 1 [(.s 14)] },
        { dst := some 6, op := .mov (.s 15) }])
      (.seq (.ops [{ dst := some 16, op := .mov (.s 6) },
        { dst := some 17, op := .mov (.s 5) },
        { dst := some 18, op := .conv .bytes (.s 17) },
        { dst := some 19, op := .app 1 1 (.s 16) (.s 18) },
        { dst := some 6, op := .mov (.s 19) }])
      (.seq (.ops [{ dst := some 20, op := .mov (.s 6) },
        { dst := some 21, op := .mov (.s 1) },
        { dst := some 22, op := .app 1 1 (.s 20) (.s 21) },
        { dst := some 4, op := .mov (.s 22) }])
      (.ret))))))
    [.tmp 4]
theorem tr_wagonpoolref02_Hashed : trF Tryd.prog [28, 2000035, 34, 33, 38] 44 [] = some F_wagonpoolref02_Hashed := by kernel_rfl

/-! wagonpool/wagonpoolref02.padded -/
def F_wagonpoolref02_padded_L0 : PC :=
  .seq (.seq (.ops [{ dst := some 13, op := .mov (.s 3) },
      { dst := some 14, op := .len false (.s 13) },
      { dst := some 15, op := .bin .rem (.s 14) (.c (.int .i64 64)) },
      { dst := some 16, op := .bin .neq (.s 15) (.c (.int .i64 56)) }])
    (.cond (.s 16)
      (.skip)
      (.exit 0)))
    (.block 1 (.ops [{ dst := some 17, op := .mov (.s 3) },
        { dst := some 18, op := .bslc 1 [(.c (.int .u8 0))] },
        { dst := some 19, op := .app 1 1 (.s 17) (.s 18) },
        { dst := some 3, op := .mov (.s 19) }]))

def F_wagonpoolref02_padded_L1 : PC :=
  .seq (.seq (.ops [{ dst := some 24, op := .mov (.s 5) },
      { dst := some 25, op := .bin .lss (.s 24) (.c (.int .i64 8)) }])
    (.cond (.s 25)
      (.skip)
      (.exit 2)))
    (.seq (.block 3 (.ops [{ dst := some 28, op := .mov (.s 3) },
        { dst := some 29, op := .mov (.s 4) },
        { dst := some 30, op := .mov (.s 5) },
        { dst := some 31, op := .bin .mul (.c (.int .i64 8)) (.s 30) },
        { dst := some 32, op := .bin .sub (.c (.int .i64 56)) (.s 31) },
        { dst := some 33, op := .bin .shr (.s 29) (.s 32) },
        { dst := some 34, op := .conv (.int .u8) (.s 33) },
        { dst := some 35, op := .bslc 1 [(.s 34)] },
        { dst := some 36, op := .app 1 1 (.s 28) (.s 35) },
        { dst := some 3, op := .mov (.s 36) }]))
    (.ops [{ dst := some 26, op := .mov (.s 5) },
      { dst := some 27, op := .bin .add (.s 26) (.c (.int .i64 1)) },
      { dst := some 5, op := .mov (.s 27) }]))

def F_wagonpoolref02_padded : PF :=
  .mk
    (.seq (.ops [{ dst := some 2, op := .mov (.c (.slc 0 [] true)) }])
      (.seq (.ops [{ dst := some 6, op := .bslc 1 [] },
        { dst := some 3, op := .mov (.s 6) }])
      (.seq (.ops [{ dst := some 7, op := .mov (.s 3) },
        { dst := some 8, op := .mov (.s 0) },
        { dst := some 9, op := .app 1 1 (.s 7) (.s 8) },
        { dst := some 3, op := .mov (.s 9) }])
      (.seq (.ops [{ dst := some 10, op := .mov (.s 3) },
        { dst := some 11, op := .bslc 1 [(.c (.int .u8 128))] },
        { dst := some 12, op := .app 1 1 (.s 10) (.s 11) },
        { dst := some 3, op := .mov (.s 12) }])
      (.seq (.block 0 (.loop [0, 3] F_wagonpoolref02_padded_L0))
      (.seq (.ops [{ dst := some 20, op := .mov (.s 0) },
        { dst := some 21, op := .len false (.s 20) },
        { dst := some 22, op := .conv (.int .u64) (.s 21) },
        { dst := some 23, op := .bin .mul (.s 22) (.c (.int .u64 8)) },
        { dst := some 4, op := .mov (.s 23) }])
      (.seq (.seq (.ops [{ dst := some 5, op := .mov (.c (.int .i64 0)) }])
      (.block 2 (.loop [3, 4, 5] F_wagonpoolref02_padded_L1)))
      (.seq (.ops [{ dst := some 37, op := .mov (.s 3) },
        { dst := some 2, op := .mov (.s 37) }])
      (.ret)))))))))
    [.tmp 2]
theorem tr_wagonpoolref02_padded : trF Tryd.prog [28, 2000035, 34, 33, 38] 45 [[0, 3], [3, 4, 5]] = some F_wagonpoolref02_padded := by kernel_rfl

/-! wagonpool/wagonpoolref02.block -/
def F_wagonpoolref02_block_L0 : PC :=
  .seq (.seq (.ops [{ dst := some 20, op := .mov (.s 8) },
      { dst := some 21, op := .bin .lss (.s 20) (.c (.int .i64 64)) }])
    (.cond (.s 21)
      (.skip)
      (.exit 0)))
    (.seq (.block 1 (.seq (.ops [{ dst := some 24, op := .idxA 8 1 (.s 7) (.c (.int .i64 4)) },
        { dst := some 25, op := .load 1 false (.s 24) },
        { dst := some 26, op := .call 49 [(.s 25), (.c (.int .i64 6))] },
        { dst := some 27, op := .idxA 8 1 (.s 7) (.c (.int .i64 4)) },
        { dst := some 28, op := .load 1 false (.s 27) },
        { dst := some 29, op := .call 49 [(.s 28), (.c (.int .i64 11))] },
        { dst := some 30, op := .bin .xor (.s 26) (.s 29) },
        { dst := some 31, op := .idxA 8 1 (.s 7) (.c (.int .i64 4)) },
        { dst := some 32, op := .load 1 false (.s 31) },
        { dst := some 33, op := .call 49 [(.s 32), (.c (.int .i64 25))] },
        { dst := some 34, op := .bin .xor (.s 30) (.s 33) },
        { dst := some 9, op := .mov (.s 34) }])
      (.seq (.ops [{ dst := some 35, op := .idxA 8 1 (.s 7) (.c (.int .i64 4)) },
        { dst := some 36, op := .load 1 false (.s 35) },
        { dst := some 37, op := .idxA 8 1 (.s 7) (.c (.int .i64 5)) },
        { dst := some 38, op := .load 1 false (.s 37) },
        { dst := some 39, op := .bin .and (.s 36) (.s 38) },
        { dst := some 40, op := .idxA 8 1 (.s 7) (.c (.int .i64 4)) },
        { dst := some 41, op := .load 1 false (.s 40) },
        { dst := some 42, op := .un .xor (.s 41) },
        { dst := some 43, op := .idxA 8 1 (.s 7) (.c (.int .i64 6)) },
        { dst := some 44, op := .load 1 false (.s 43) },
        { dst := some 45, op := .bin .and (.s 42) (.s 44) },
        { dst := some 46, op := .bin .xor (.s 39) (.s 45) },
        { dst := some 10, op := .mov (.s 46) }])
      (.seq (.ops [{ dst := some 47, op := .idxA 8 1 (.s 7) (.c (.int .i64 7)) },
        { dst := some 48, op := .load 1 false (.s 47) },
        { dst := some 49, op := .mov (.s 9) },
        { dst := some 50, op := .bin .add (.s 48) (.s 49) },
        { dst := some 51, op := .mov (.s 10) },
        { dst := some 52, op := .bin .add (.s 50) (.s 51) },
        { dst := some 53, op := .mov (.s 8) },
        { dst := some 54, op := .idxA 64 1 (.s 6) (.s 53) },
        { dst := some 55, op := .load 1 false (.s 54) },
        { dst := some 56, op := .bin .add (.s 52) (.s 55) },
        { dst := some 57, op := .mov (.s 8) },
        { dst := some 58, op := .idxA 64 1 (.s 5) (.s 57) },
        { dst := some 59, op := .load 1 false (.s 58) },
        { dst := some 60, op := .bin .add (.s 56) (.s 59) },
        { dst := some 11, op := .mov (.s 60) }])
      (.seq (.ops [{ dst := some 61, op := .idxA 8 1 (.s 7) (.c (.int .i64 0)) },
        { dst := some 62, op := .load 1 false (.s 61) },
        { dst := some 63, op := .call 49 [(.s 62), (.c (.int .i64 2))] },
        { dst := some 64, op := .idxA 8 1 (.s 7) (.c (.int .i64 0)) },
        { dst := some 65, op := .load 1 false (.s 64) },
        { dst := some 66, op := .call 49 [(.s 65), (.c (.int .i64 13))] },
        { dst := some 67, op := .bin .xor (.s 63) (.s 66) },
        { dst := some 68, op := .idxA 8 1 (.s 7) (.c (.int .i64 0)) },
        { dst := some 69, op := .load 1 false (.s 68) },
        { dst := some 70, op := .call 49 [(.s 69), (.c (.int .i64 22))] },
        { dst := some 71, op := .bin .xor (.s 67) (.s 70) },
        { dst := some 12, op := .mov (.s 71) }])
      (.seq (.ops [{ dst := some 72, op := .idxA 8 1 (.s 7) (.c (.int .i64 0)) },
        { dst := some 73, op := .load 1 false (.s 72) },
        { dst := some 74, op := .idxA 8 1 (.s 7) (.c (.int .i64 1)) },
        { dst := some 75, op := .load 1 false (.s 74) },
        { dst := some 76, op := .bin .and (.s 73) (.s 75) },
        { dst := some 77, op := .idxA 8 1 (.s 7) (.c (.int .i64 0)) },
        { dst := some 78, op := .load 1 false (.s 77) },
        { dst := some 79, op := .idxA 8 1 (.s 7) (.c (.int .i64 2)) },
        { dst := some 80, op := .load 1 false (.s 79) },
        { dst := some 81, op := .bin .and (.s 78) (.s 80) },
        { dst := some 82, op := .bin .xor (.s 76) (.s 81) },
        { dst := some 83, op := .idxA 8 1 (.s 7) (.c (.int .i64 1)) },
        { dst := some 84, op := .load 1 false (.s 83) },
        { dst := some 85, op := .idxA 8 1 (.s 7) (.c (.int .i64 2)) },
        { dst := some 86, op := .load 1 false (.s 85) },
        { dst := some 87, op := .bin .and (.s 84) (.s 86) },
        { dst := some 88, op := .bin .xor (.s 82) (.s 87) },
        { dst := some 13, op := .mov (.s 88) }])
      (.seq (.ops [{ dst := some 89, op := .mov (.s 12) },
        { dst := some 90, op := .mov (.s 13) },
        { dst := some 91, op := .bin .add (.s 89) (.s 90) },
        { dst := some 14, op := .mov (.s 91) }])
      (.ops [{ dst := some 92, op := .mov (.s 11) },
        { dst := some 93, op := .mov (.s 14) },
        { dst := some 94, op := .bin .add (.s 92) (.s 93) },
        { dst := some 95, op := .idxA 8 1 (.s 7) (.c (.int .i64 0)) },
        { dst := some 96, op := .load 1 false (.s 95) },
        { dst := some 97, op := .idxA 8 1 (.s 7) (.c (.int .i64 1)) },
        { dst := some 98, op := .load 1 false (.s 97) },
        { dst := some 99, op := .idxA 8 1 (.s 7) (.c (.int .i64 2)) },
        { dst := some 100, op := .load 1 false (.s 99) },
        { dst := some 101, op := .idxA 8 1 (.s 7) (.c (.int .i64 3)) },
        { dst := some 102, op := .load 1 false (.s 101) },
        { dst := some 103, op := .mov (.s 11) },
        { dst := some 104, op := .bin .add (.s 102) (.s 103) },
        { dst := some 105, op := .idxA 8 1 (.s 7) (.c (.int .i64 4)) },
        { dst := some 106, op := .load 1 false (.s 105) },
        { dst := some 107, op := .idxA 8 1 (.s 7) (.c (.int .i64 5)) },
        { dst := some 108, op := .load 1 false (.s 107) },
        { dst := some 109, op := .idxA 8 1 (.s 7) (.c (.int .i64 6)) },
        { dst := some 110, op := .load 1 false (.s 109) },
        { dst := some 111, op := .bld [(.int .u32 0), (.int .u32 0), (.int .u32 0), (.int .u32 0), (.int .u32 0), (.int .u32 0), (.int .u32 0), (.int .u32 0)] [(0, 1, (.s 94)), (1, 1, (.s 96)), (2, 1, (.s 98)), (3, 1, (.s 100)), (4, 1, (.s 104)), (5, 1, (.s 106)), (6, 1, (.s 108)), (7, 1, (.s 110))] },
        { dst := none, op := .stor 8 (.s 7) (.s 111) }]))))))))
    (.ops [{ dst := some 22, op := .mov (.s 8) },
      { dst := some 23, op := .bin .add (.s 22) (.c (.int .i64 1)) },
      { dst := some 8, op := .mov (.s 23) }]))

def F_wagonpoolref02_block_L1 : PC :=
  .seq (.seq (.ops [{ dst := some 112, op := .mov (.s 15) },
      { dst := some 113, op := .bin .lss (.s 112) (.c (.int .i64 8)) }])
    (.cond (.s 113)
      (.skip)
      (.exit 2)))
    (.seq (.block 3 (.ops [{ dst := some 116, op := .mov (.s 15) },
        { dst := some 117, op := .mov (.s 15) },
        { dst := some 118, op := .idxA 8 1 (.s 2) (.s 117) },
        { dst := some 119, op := .load 1 false (.s 118) },
        { dst := some 120, op := .mov (.s 15) },
        { dst := some 121, op := .idxA 8 1 (.s 7) (.s 120) },
        { dst := some 122, op := .load 1 false (.s 121) },
        { dst := some 123, op := .bin .add (.s 119) (.s 122) },
        { dst := some 124, op := .idxA 8 1 (.s 2) (.s 116) },
        { dst := none, op := .stor 1 (.s 124) (.s 123) }]))
    (.ops [{ dst := some 114, op := .mov (.s 15) },
      { dst := some 115, op := .bin .add (.s 114) (.c (.int .i64 1)) },
      { dst := some 15, op := .mov (.s 115) }]))

def F_wagonpoolref02_block : PF :=
  .mk
    (.seq (.ops [{ dst := some 2, op := .box (.s 0) },
        { dst := some 4, op := .box (.c (.agg [(.int .u32 0), (.int .u32 0), (.int .u32 0), (.int .u32 0), (.int .u32 0), (.int .u32 0), (.int .u32 0), (.int .u32 0)])) }])
      (.seq (.ops [{ dst := some 16, op := .mov (.s 1) },
        { dst := some 17, op := .call 47 [(.s 16)] },
        { dst := some 5, op := .box (.c (.agg [(.int .u32 0), (.int .u32 0), (.int .u32 0), (.int .u32 0), (.int .u32 0), (.int .u32 0), (.int .u32 0), (.int .u32 0), (.int .u32 0), (.int .u32 0), (.int .u32 0), (.int .u32 0), (.int .u32 0), (.int .u32 0), (.int .u32 0), (.int .u32 0), (.int .u32 0), (.int .u32 0), (.int .u32 0), (.int .u32 0), (.int .u32 0), (.int .u32 0), (.int .u32 0), (.int .u32 0), (.int .u32 0), (.int .u32 0), (.int .u32 0), (.int .u32 0), (.int .u32 0), (.int .u32 0), (.int .u32 0), (.int .u32 0), (.int .u32 0), (.int .u32 0), (.int .u32 0), (.int .u32 0), (.int .u32 0), (.int .u32 0), (.int .u32 0), (.int .u32 0), (.int .u32 0), (.int .u32 0), (.int .u32 0), (.int .u32 0), (.int .u32 0), (.int .u32 0), (.int .u32 0), (.int .u32 0), (.int .u32 0), (.int .u32 0), (.int .u32 0), (.int .u32 0), (.int .u32 0), (.int .u32 0), (.int .u32 0), (.int .u32 0), (.int .u32 0), (.int .u32 0), (.int .u32 0), (.int .u32 0), (.int .u32 0), (.int .u32 0), (.int .u32 0), (.int .u32 0)])) },
        { dst := none, op := .stor 64 (.s 5) (.s 17) }])
      (.seq (.ops [{ dst := some 18, op := .call 48 [] },
        { dst := some 6, op := .box (.c (.agg [(.int .u32 0), (.int .u32 0), (.int .u32 0), (.int .u32 0), (.int .u32 0), (.int .u32 0), (.int .u32 0), (.int .u32 0), (.int .u32 0), (.int .u32 0), (.int .u32 0), (.int .u32 0), (.int .u32 0), (.int .u32 0), (.int .u32 0), (.int .u32 0), (.int .u32 0), (.int .u32 0), (.int .u32 0), (.int .u32 0), (.int .u32 0), (.int .u32 0), (.int .u32 0), (.int .u32 0), (.int .u32 0), (.int .u32 0), (.int .u32 0), (.int .u32 0), (.int .u32 0), (.int .u32 0), (.int .u32 0), (.int .u32 0), (.int .u32 0), (.int .u32 0), (.int .u32 0), (.int .u32 0), (.int .u32 0), (.int .u32 0), (.int .u32 0), (.int .u32 0), (.int .u32 0), (.int .u32 0), (.int .u32 0), (.int .u32 0), (.int .u32 0), (.int .u32 0), (.int .u32 0), (.int .u32 0), (.int .u32 0), (.int .u32 0), (.int .u32 0), (.int .u32 0), (.int .u32 0), (.int .u32 0), (.int .u32 0), (.int .u32 0), (.int .u32 0), (.int .u32 0), (.int .u32 0), (.int .u32 0), (.int .u32 0), (.int .u32 0), (.int .u32 0), (.int .u32 0)])) },
        { dst := none, op := .stor 64 (.s 6) (.s 18) }])
      (.seq (.ops [{ dst := some 19, op := .load 8 true (.s 2) },
        { dst := some 7, op := .box (.c (.agg [(.int .u32 0), (.int .u32 0), (.int .u32 0), (.int .u32 0), (.int .u32 0), (.int .u32 0), (.int .u32 0), (.int .u32 0)])) },
        { dst := none, op := .stor 8 (.s 7) (.s 19) }])
      (.seq (.seq (.ops [{ dst := some 8, op := .mov (.c (.int .i64 0)) }])
      (.block 0 (.loop [2, 4, 5, 6, 7, 8] F_wagonpoolref02_block_L0)))
      (.seq (.seq (.ops [{ dst := some 15, op := .mov (.c (.int .i64 0)) }])
      (.block 2 (.loop [2, 4, 7, 15] F_wagonpoolref02_block_L1)))
      (.seq (.ops [{ dst := some 125, op := .load 8 true (.s 2) },
        { dst := none, op := .stor 8 (.s 4) (.s 125) }])
      (.ret))))))))
    [.cell 4 8 true]
theorem tr_wagonpoolref02_block : trF Tryd.prog [28, 2000035, 34, 33, 38] 46 [[2, 4, 5, 6, 7, 8], [2, 4, 7, 15]] = some F_wagonpoolref02_block := by kernel_rfl

/-! wagonpool/wagonpoolref02.schedule -/
def F_wagonpoolref02_schedule_L0 : PC :=
  .seq (.seq (.ops [{ dst := some 9, op := .mov (.s 4) },
      { dst := some 10, op := .bin .lss (.s 9) (.c (.int .i64 16)) }])
    (.cond (.s 10)
      (.skip)
      (.exit 0)))
    (.seq (.block 1 (.ops [{ dst := some 13, op := .mov (.s 4) },
        { dst := some 14, op := .mov (.s 0) },
        { dst := some 15, op := .mov (.s 4) },
        { dst := some 16, op := .bin .mul (.c (.int .i64 4)) (.s 15) },
        { dst := some 17, op := .idxS 1 (.s 14) (.s 16) },
        { dst := some 18, op := .load 1 false (.s 17) },
        { dst := some 19, op := .conv (.int .u32) (.s 18) },
        { dst := some 20, op := .bin .shl (.s 19) (.c (.int .u64 24)) },
        { dst := some 21, op := .mov (.s 0) },
        { dst := some 22, op := .mov (.s 4) },
        { dst := some 23, op := .bin .mul (.c (.int .i64 4)) (.s 22) },
        { dst := some 24, op := .bin .add (.s 23) (.c (.int .i64 1)) },
        { dst := some 25, op := .idxS 1 (.s 21) (.s 24) },
        { dst := some 26, op := .load 1 false (.s 25) },
        { dst := some 27, op := .conv (.int .u32) (.s 26) },
        { dst := some 28, op := .bin .shl (.s 27) (.c (.int .u64 16)) },
        { dst := some 29, op := .bin .or (.s 20) (.s 28) },
        { dst := some 30, op := .mov (.s 0) },
        { dst := some 31, op := .mov (.s 4) },
        { dst := some 32, op := .bin .mul (.c (.int .i64 4)) (.s 31) },
        { dst := some 33, op := .bin .add (.s 32) (.c (.int .i64 2)) },
        { dst := some 34, op := .idxS 1 (.s 30) (.s 33) },
        { dst := some 35, op := .load 1 false (.s 34) },
        { dst := some 36, op := .conv (.int .u32) (.s 35) },
        { dst := some 37, op := .bin .shl (.s 36) (.c (.int .u64 8)) },
        { dst := some 38, op := .bin .or (.s 29) (.s 37) },
        { dst := some 39, op := .mov (.s 0) },
        { dst := some 40, op := .mov (.s 4) },
        { dst := some 41, op := .bin .mul (.c (.int .i64 4)) (.s 40) },
        { dst := some 42, op := .bin .add (.s 41) (.c (.int .i64 3)) },
        { dst := some 43, op := .idxS 1 (.s 39) (.s 42) },
        { dst := some 44, op := .load 1 false (.s 43) },
        { dst := some 45, op := .conv (.int .u32) (.s 44) },
        { dst := some 46, op := .bin .or (.s 38) (.s 45) },
        { dst := some 47, op := .idxA 64 1 (.s 3) (.s 13) },
        { dst := none, op := .stor 1 (.s 47) (.s 46) }]))
    (.ops [{ dst := some 11, op := .mov (.s 4) },
      { dst := some 12, op := .bin .add (.s 11) (.c (.int .i64 1)) },
      { dst := some 4, op := .mov (.s 12) }]))

def F_wagonpoolref02_schedule_L1 : PC :=
  .seq (.seq (.ops [{ dst := some 48, op := .mov (.s 5) },
      { dst := some 49, op := .bin .lss (.s 48) (.c (.int .i64 64)) }])
    (.cond (.s 49)
      (.skip)
      (.exit 2)))
    (.seq (.block 3 (.seq (.ops [{ dst := some 52, op := .mov (.s 5) },
        { dst := some 53, op := .bin .sub (.s 52) (.c (.int .i64 15)) },
        { dst := some 54, op := .idxA 64 1 (.s 3) (.s 53) },
        { dst := some 55, op := .load 1 false (.s 54) },
        { dst := some 56, op := .call 49 [(.s 55), (.c (.int .i64 7))] },
        { dst := some 57, op := .mov (.s 5) },
        { dst := some 58, op := .bin .sub (.s 57) (.c (.int .i64 15)) },
        { dst := some 59, op := .idxA 64 1 (.s 3) (.s 58) },
        { dst := some 60, op := .load 1 false (.s 59) },
        { dst := some 61, op := .call 49 [(.s 60), (.c (.int .i64 18))] },
        { dst := some 62, op := .bin .xor (.s 56) (.s 61) },
        { dst := some 63, op := .mov (.s 5) },
        { dst := some 64, op := .bin .sub (.s 63) (.c (.int .i64 15)) },
        { dst := some 65, op := .idxA 64 1 (.s 3) (.s 64) },
        { dst := some 66, op := .load 1 false (.s 65) },
        { dst := some 67, op := .bin .shr (.s 66) (.c (.int .u64 3)) },
        { dst := some 68, op := .bin .xor (.s 62) (.s 67) },
        { dst := some 6, op := .mov (.s 68) }])
      (.seq (.ops [{ dst := some 69, op := .mov (.s 5) },
        { dst := some 70, op := .bin .sub (.s 69) (.c (.int .i64 2)) },
        { dst := some 71, op := .idxA 64 1 (.s 3) (.s 70) },
        { dst := some 72, op := .load 1 false (.s 71) },
        { dst := some 73, op := .call 49 [(.s 72), (.c (.int .i64 17))] },
        { dst := some 74, op := .mov (.s 5) },
        { dst := some 75, op := .bin .sub (.s 74) (.c (.int .i64 2)) },
        { dst := some 76, op := .idxA 64 1 (.s 3) (.s 75) },
        { dst := some 77, op := .load 1 false (.s 76) },
        { dst := some 78, op := .call 49 [(.s 77), (.c (.int .i64 19))] },
        { dst := some 79, op := .bin .xor (.s 73) (.s 78) },
        { dst := some 80, op := .mov (.s 5) },
        { dst := some 81, op := .bin .sub (.s 80) (.c (.int .i64 2)) },
        { dst := some 82, op := .idxA 64 1 (.s 3) (.s 81) },
        { dst := some 83, op := .load 1 false (.s 82) },
        { dst := some 84, op := .bin .shr (.s 83) (.c (.int .u64 10)) },
        { dst := some 85, op := .bin .xor (.s 79) (.s 84) },
        { dst := some 7, op := .mov (.s 85) }])
      (.ops [{ dst := some 86, op := .mov (.s 5) },
        { dst := some 87, op := .mov (.s 5) },
        { dst := some 88, op := .bin .sub (.s 87) (.c (.int .i64 16)) },
        { dst := some 89, op := .idxA 64 1 (.s 3) (.s 88) },
        { dst := some 90, op := .load 1 false (.s 89) },
        { dst := some 91, op := .mov (.s 6) },
        { dst := some 92, op := .bin .add (.s 90) (.s 91) },
        { dst := some 93, op := .mov (.s 5) },
        { dst := some 94, op := .bin .sub (.s 93) (.c (.int .i64 7)) },
        { dst := some 95, op := .idxA 64 1 (.s 3) (.s 94) },
        { dst := some 96, op := .load 1 false (.s 95) },
        { dst := some 97, op := .bin .add (.s 92) (.s 96) },
        { dst := some 98, op := .mov (.s 7) },
        { dst := some 99, op := .bin .add (.s 97) (.s 98) },
        { dst := some 100, op := .idxA 64 1 (.s 3) (.s 86) },
        { dst := none, op := .stor 1 (.s 100) (.s 99) }]))))
    (.ops [{ dst := some 50, op := .mov (.s 5) },
      { dst := some 51, op := .bin .add (.s 50) (.c (.int .i64 1)) },
      { dst := some 5, op := .mov (.s 51) }]))

def F_wagonpoolref02_schedule : PF :=
  .mk
    (.seq (.ops [{ dst := some 2, op := .box (.c (.agg [(.int .u32 0), (.int .u32 0), (.int .u32 0), (.int .u32 0), (.int .u32 0), (.int .u32 0), (.int .u32 0), (.int .u32 0), (.int .u32 0), (.int .u32 0), (.int .u32 0), (.int .u32 0), (.int .u32 0), (.int .u32 0), (.int .u32 0), (.int .u32 0), (.int .u32 0), (.int .u32 0), (.int .u32 0), (.int .u32 0), (.int .u32 0), (.int .u32 0), (.int .u32 0), (.int .u32 0), (.int .u32 0), (.int .u32 0), (.int .u32 0), (.int .u32 0), (.int .u32 0), (.int .u32 0), (.int .u32 0), (.int .u32 0), (.int .u32 0), (.int .u32 0), (.int .u32 0), (.int .u32 0), (.int .u32 0), (.int .u32 0), (.int .u32 0), (.int .u32 0), (.int .u32 0), (.int .u32 0), (.int .u32 0), (.int .u32 0), (.int .u32 0), (.int .u32 0), (.int .u32 0), (.int .u32 0), (.int .u32 0), (.int .u32 0), (.int .u32 0), (.int .u32 0), (.int .u32 0), (.int .u32 0), (.int .u32 0), (.int .u32 0), (.int .u32 0), (.int .u32 0), (.int .u32 0), (.int .u32 0), (.int .u32 0), (.int .u32 0), (.int .u32 0), (.int .u32 0)])) }])
      (.seq (.ops [{ dst := some 8, op := .bld [(.int .u32 0), (.int .u32 0), (.int .u32 0), (.int .u32 0), (.int .u32 0), (.int .u32 0), (.int .u32 0), (.int .u32 0), (.int .u32 0), (.int .u32 0), (.int .u32 0), (.int .u32 0), (.int .u32 0), (.int .u32 0), (.int .u32 0), (.int .u32 0), (.int .u32 0), (.int .u32 0), (.int .u32 0), (.int .u32 0), (.int .u32 0), (.int .u32 0), (.int .u32 0), (.int .u32 0), (.int .u32 0), (.int .u32 0), (.int .u32 0), (.int .u32 0), (.int .u32 0), (.int .u32 0), (.int .u32 0), (.int .u32 0), (.int .u32 0), (.int .u32 0), (.int .u32 0), (.int .u32 0), (.int .u32 0), (.int .u32 0), (.int .u32 0), (.int .u32 0), (.int .u32 0), (.int .u32 0), (.int .u32 0), (.int .u32 0), (.int .u32 0), (.int .u32 0), (.int .u32 0), (.int .u32 0), (.int .u32 0), (.int .u32 0), (.int .u32 0), (.int .u32 0), (.int .u32 0), (.int .u32 0), (.int .u32 0), (.int .u32 0), (.int .u32 0), (.int .u32 0), (.int .u32 0), (.int .u32 0), (.int .u32 0), (.int .u32 0), (.int .u32 0), (.int .u32 0)] [] },
        { dst := some 3, op := .box (.c (.agg [(.int .u32 0), (.int .u32 0), (.int .u32 0), (.int .u32 0), (.int .u32 0), (.int .u32 0), (.int .u32 0), (.int .u32 0), (.int .u32 0), (.int .u32 0), (.int .u32 0), (.int .u32 0), (.int .u32 0), (.int .u32 0), (.int .u32 0), (.int .u32 0), (.int .u32 0), (.int .u32 0), (.int .u32 0), (.int .u32 0), (.int .u32 0), (.int .u32 0), (.int .u32 0), (.int .u32 0), (.int .u32 0), (.int .u32 0), (.int .u32 0), (.int .u32 0), (.int .u32 0), (.int .u32 0), (.int .u32 0), (.int .u32 0), (.int .u32 0), (.int .u32 0), (.int .u32 0), (.int .u32 0), (.int .u32 0), (.int .u32 0), (.int .u32 0), (.int .u32 0), (.int .u32 0), (.int .u32 0), (.int .u32 0), (.int .u32 0), (.int .u32 0), (.int .u32 0), (.int .u32 0), (.int .u32 0), (.int .u32 0), (.int .u32 0), (.int .u32 0), (.int .u32 0), (.int .u32 0), (.int .u32 0), (.int .u32 0), (.int .u32 0), (.int .u32 0), (.int .u32 0), (.int .u32 0), (.int .u32 0), (.int .u32 0), (.int .u32 0), (.int .u32 0), (.int .u32 0)])) },
        { dst := none, op := .stor 64 (.s 3) (.s 8) }])
      (.seq (.seq (.ops [{ dst := some 4, op := .mov (.c (.int .i64 0)) }])
      (.block 0 (.loop [0, 2, 3, 4] F_wagonpoolref02_schedule_L0)))
      (.seq (.seq (.ops [{ dst := some 5, op := .mov (.c (.int .i64 16)) }])
      (.block 2 (.loop [2, 3, 5] F_wagonpoolref02_schedule_L1)))
      (.seq (.ops [{ dst := some 101, op := .load 64 true (.s 3) },
        { dst := none, op := .stor 64 (.s 2) (.s 101) }])
      (.ret))))))
    [.cell 2 64 true]
theorem tr_wagonpoolref02_schedule : trF Tryd.prog [28, 2000035, 34, 33, 38] 47 [[0, 2, 3, 4], [2, 3, 5]] = some F_wagonpoolref02_schedule := by kernel_rfl

/-! wagonpool/wagonpoolref02.constants -/
def F_wagonpoolref02_constants : PF :=
  .mk
    (.seq (.ops [{ dst := some 0, op := .box (.c (.agg [(.int .u32 0), (.int .u32 0), (.int .u32 0), (.int .u32 0), (.int .u32 0), (.int .u32 0), (.int .u32 0), (.int .u32 0), (.int .u32 0), (.int .u32 0), (.int .u32 0), (.int .u32 0), (.int .u32 0), (.int .u32 0), (.int .u32 0), (.int .u32 0), (.int .u32 0), (.int .u32 0), (.int .u32 0), (.int .u32 0), (.int .u32 0), (.int .u32 0), (.int .u32 0), (.int .u32 0), (.int .u32 0), (.int .u32 0), (.int .u32 0), (.int .u32 0), (.int .u32 0), (.int .u32 0), (.int .u32 0), (.int .u32 0), (.int .u32 0), (.int .u32 0), (.int .u32 0), (.int .u32 0), (.int .u32 0), (.int .u32 0), (.int .u32 0), (.int .u32 0), (.int .u32 0), (.int .u32 0), (.int .u32 0), (.int .u32 0), (.int .u32 0), (.int .u32 0), (.int .u32 0), (.int .u32 0), (.int .u32 0), (.int .u32 0), (.int .u32 0), (.int .u32 0), (.int .u32 0), (.int .u32 0), (.int .u32 0), (.int .u32 0), (.int .u32 0), (.int .u32 0), (.int .u32 0), (.int .u32 0), (.int .u32 0), (.int .u32 0), (.int .u32 0), (.int .u32 0)])) }])
      (.seq (.ops [{ dst := some 1, op := .bld [(.int .u32 0), (.int .u32 0), (.int .u32 0), (.int .u32 0), (.int .u32 0), (.int .u32 0), (.int .u32 0), (.int .u32 0), (.int .u32 0), (.int .u32 0), (.int .u32 0), (.int .u32 0), (.int .u32 0), (.int .u32 0), (.int .u32 0), (.int .u32 0), (.int .u32 0), (.int .u32 0), (.int .u32 0), (.int .u32 0), (.int .u32 0), (.int .u32 0), (.int .u32 0), (.int .u32 0), (.int .u32 0), (.int .u32 0), (.int .u32 0), (.int .u32 0), (.int .u32 0), (.int .u32 0), (.int .u32 0), (.int .u32 0), (.int .u32 0), (.int .u32 0), (.int .u32 0), (.int .u32 0), (.int .u32 0), (.int .u32 0), (.int .u32 0), (.int .u32 0), (.int .u32 0), (.int .u32 0), (.int .u32 0), (.int .u32 0), (.int .u32 0), (.int .u32 0), (.int .u32 0), (.int .u32 0), (.int .u32 0), (.int .u32 0), (.int .u32 0), (.int .u32 0), (.int .u32 0), (.int .u32 0), (.int .u32 0), (.int .u32 0), (.int .u32 0), (.int .u32 0), (.int .u32 0), (.int .u32 0), (.int .u32 0), (.int .u32 0), (.int .u32 0), (.int .u32 0)] [(0, 1, (.c (.int .u32 1116352408))), (1, 1, (.c (.int .u32 1899447441))), (2, 1, (.c (.int .u32 3049323471))), (3, 1, (.c (.int .u32 3921009573))), (4, 1, (.c (.int .u32 961987163))), (5, 1, (.c (.int .u32 1508970993))), (6, 1, (.c (.int .u32 2453635748))), (7, 1, (.c (.int .u32 2870763221))), (8, 1, (.c (.int .u32 3624381080))), (9, 1, (.c (.int .u32 310598401))), (10, 1, (.c (.int .u32 607225278))), (11, 1, (.c (.int .u32 1426881987))), (12, 1, (.c (.int .u32 1925078388))), (13, 1, (.c (.int .u32 2162078206))), (14, 1, (.c (.int .u32 2614888103))), (15, 1, (.c (.int .u32 3248222580))), (16, 1, (.c (.int .u32 3835390401))), (17, 1, (.c (.int .u32 4022224774))), (18, 1, (.c (.int .u32 264347078))), (19, 1, (.c (.int .u32 604807628))), (20, 1, (.c (.int .u32 770255983))), (21, 1, (.c (.int .u32 1249150122))), (22, 1, (.c (.int .u32 1555081692))), (23, 1, (.c (.int .u32 1996064986))), (24, 1, (.c (.int .u32 2554220882))), (25, 1, (.c (.int .u32 2821834349))), (26, 1, (.c (.int .u32 2952996808))), (27, 1, (.c (.int .u32 3210313671))), (28, 1, (.c (.int .u32 3336571891))), (29, 1, (.c (.int .u32 3584528711))), (30, 1, (.c (.int .u32 113926993))), (31, 1, (.c (.int .u32 338241895))), (32, 1, (.c (.int .u32 666307205))), (33, 1, (.c (.int .u32 773529912))), (34, 1, (.c (.int .u32 1294757372))), (35, 1, (.c (.int .u32 1396182291))), (36, 1, (.c (.int .u32 1695183700))), (37, 1, (.c (.int .u32 1986661051))), (38, 1, (.c (.int .u32 2177026350))), (39, 1, (.c (.int .u32 2456956037))), (40, 1, (.c (.int .u32 2730485921))), (41, 1, (.c (.int .u32 2820302411))), (42, 1, (.c (.int .u32 3259730800))), (43, 1, (.c (.int .u32 3345764771))), (44, 1, (.c (.int .u32 3516065817))), (45, 1, (.c (.int .u32 3600352804))), (46, 1, (.c (.int .u32 4094571909))), (47, 1, (.c (.int .u32 275423344))), (48, 1, (.c (.int .u32 430227734))), (49, 1, (.c (.int .u32 506948616))), (50, 1, (.c (.int .u32 659060556))), (51, 1, (.c (.int .u32 883997877))), (52, 1, (.c (.int .u32 958139571))), (53, 1, (.c (.int .u32 1322822218))), (54, 1, (.c (.int .u32 1537002063))), (55, 1, (.c (.int .u32 1747873779))), (56, 1, (.c (.int .u32 1955562222))), (57, 1, (.c (.int .u32 2024104815))), (58, 1, (.c (.int .u32 2227730452))), (59, 1, (.c (.int .u32 2361852424))), (60, 1, (.c (.int .u32 2428436474))), (61, 1, (.c (.int .u32 2756734187))), (62, 1, (.c (.int .u32 3204031479))), (63, 1, (.c (.int .u32 3329325298)))] },
        { dst := none, op := .stor 64 (.s 0) (.s 1) }])
      (.ret)))
    [.cell 0 64 true]
theorem tr_wagonpoolref02_constants : trF Tryd.prog [28, 2000035, 34, 33, 38] 48 [] = some F_wagonpoolref02_constants := by kernel_rfl

/-! wagonpool/wagonpoolref02.rotr -/
def F_wagonpoolref02_rotr : PF :=
  .mk
    (.seq (.ops [{ dst := some 4, op := .mov (.c (.int .u32 0)) }])
      (.seq (.ops [{ dst := some 5, op := .mov (.s 0) },
        { dst := some 6, op := .mov (.s 1) },
        { dst := some 7, op := .bin .shr (.s 5) (.s 6) },
        { dst := some 8, op := .mov (.s 0) },
        { dst := some 9, op := .mov (.s 1) },
        { dst := some 10, op := .bin .sub (.c (.int .i64 32)) (.s 9) },
        { dst := some 11, op := .bin .shl (.s 8) (.s 10) },
        { dst := some 12, op := .bin .or (.s 7) (.s 11) },
        { dst := some 4, op := .mov (.s 12) }])
      (.ret)))
    [.tmp 4]
theorem tr_wagonpoolref02_rotr : trF Tryd.prog [28, 2000035, 34, 33, 38] 49 [] = some F_wagonpoolref02_rotr := by kernel_rfl

end Go.Proofs.YteacnlikmagfcaaDoor.PI
