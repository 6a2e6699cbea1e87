/-
  The translations of this seat's functions into pure code, each with the kernel's word that it is the translation. Written by a program (gen.py).
  Conditions: none.
-/
import Derived.Test.YteacnlikmagfcaaDoorEngR
import Derived.KernelRfl
namespace Go.Proofs.YteacnlikmagfcaaDoor.PI
open Go

/-! wagonpool/wagonpoollaw13.DiskDetects -/
def F2_wagonpoollaw13_DiskDetects_L0 : PC :=
  .seq (.seq (.ops [{ dst := some 21, op := .mov (.s 9) },
      { dst := some 22, op := .mov (.s 0) },
      { dst := some 23, op := .len false (.s 22) },
      { dst := some 24, op := .bin .lss (.s 21) (.s 23) }])
    (.cond (.s 24)
      (.skip)
      (.exit 0)))
    (.seq (.block 1 (.seq (.ops [{ dst := some 27, op := .mov (.s 8) },
        { dst := some 28, op := .fld 0 (.s 7) },
        { dst := some 29, op := .load 1 false (.s 28) },
        { dst := some 30, op := .len false (.s 29) },
        { dst := some 31, op := .bslc 1 [(.s 30)] },
        { dst := some 32, op := .app 1 8 (.s 27) (.s 31) },
        { dst := some 8, op := .mov (.s 32) }])
      (.seq (.ops [{ dst := some 34, op := .load 2 true (.s 7) },
        { dst := some 35, op := .mov (.s 0) },
        { dst := some 36, op := .mov (.s 9) },
        { dst := some 37, op := .idxS 1 (.s 35) (.s 36) },
        { dst := some 38, op := .load 1 false (.s 37) },
        { dst := some 39, op := .call 11 [(.s 34), (.s 38)] },
        { dst := some 33, op := .mov (.s 39) },
        { dst := some 40, op := .ext (.s 33) 0 },
        { dst := some 41, op := .ext (.s 33) 1 },
        { dst := some 10, op := .box (.c (.agg [(.slc 0 [] true), (.int .i64 0)])) },
        { dst := none, op := .stor 2 (.s 10) (.s 40) },
        { dst := some 11, op := .mov (.s 41) }])
      (.seq (.seq (.ops [{ dst := some 42, op := .mov (.s 11) },
        { dst := some 43, op := .bin .neq (.s 42) (.c (.int .i64 0)) }])
      (.cond (.s 43)
        (.seq (.ops [{ dst := some 44, op := .mov (.s 11) },
          { dst := some 45, op := .bin .eql (.s 44) (.c (.int .i64 2)) },
          { dst := some 46, op := .mov (.s 45) },
          { dst := some 47, op := .mov (.s 0), guard := some (46, true) },
          { dst := some 48, op := .mov (.s 9), guard := some (46, true) },
          { dst := some 49, op := .idxS 1 (.s 47) (.s 48), guard := some (46, true) },
          { dst := some 50, op := .load 1 false (.s 49), guard := some (46, true) },
          { dst := some 51, op := .len false (.s 50), guard := some (46, true) },
          { dst := some 52, op := .bin .gtr (.s 51) (.c (.int .i64 16000)), guard := some (46, true) },
          { dst := some 53, op := .pick (.s 46) (.s 52) (.c (.bool false)) },
          { dst := some 6, op := .mov (.s 53) }])
        (.ret))
        (.skip)))
      (.ops [{ dst := some 54, op := .load 2 true (.s 10) },
        { dst := none, op := .stor 2 (.s 7) (.s 54) }])))))
    (.ops [{ dst := some 25, op := .mov (.s 9) },
      { dst := some 26, op := .bin .add (.s 25) (.c (.int .i64 1)) },
      { dst := some 9, op := .mov (.s 26) }]))

def F2_wagonpoollaw13_DiskDetects_L1 : PC :=
  .seq (.seq (.ops [{ dst := some 80, op := .mov (.s 13) },
      { dst := some 81, op := .bin .add (.s 80) (.c (.int .i64 1)) },
      { dst := some 82, op := .mov (.s 8) },
      { dst := some 83, op := .len false (.s 82) },
      { dst := some 84, op := .bin .lss (.s 81) (.s 83) },
      { dst := some 85, op := .mov (.s 84) },
      { dst := some 86, op := .mov (.s 8), guard := some (85, true) },
      { dst := some 87, op := .mov (.s 13), guard := some (85, true) },
      { dst := some 88, op := .bin .add (.s 87) (.c (.int .i64 1)), guard := some (85, true) },
      { dst := some 89, op := .idxS 1 (.s 86) (.s 88), guard := some (85, true) },
      { dst := some 90, op := .load 1 false (.s 89), guard := some (85, true) },
      { dst := some 91, op := .mov (.s 1), guard := some (85, true) },
      { dst := some 92, op := .bin .leq (.s 90) (.s 91), guard := some (85, true) },
      { dst := some 93, op := .pick (.s 85) (.s 92) (.c (.bool false)) }])
    (.cond (.s 93)
      (.skip)
      (.exit 2)))
    (.block 3 (.ops [{ dst := some 94, op := .mov (.s 13) },
        { dst := some 95, op := .bin .add (.s 94) (.c (.int .i64 1)) },
        { dst := some 13, op := .mov (.s 95) }]))

def F2_wagonpoollaw13_DiskDetects : PF :=
  .mk
    (.seq (.ops [{ dst := some 6, op := .mov (.c (.bool false)) }])
      (.seq (.seq (.ops [{ dst := some 17, op := .call 10 [] },
        { dst := some 18, op := .un .not (.s 17) }])
      (.cond (.s 18)
        (.seq (.ops [{ dst := some 6, op := .mov (.c (.bool false)) }])
        (.ret))
        (.skip)))
      (.seq (.ops [{ dst := some 19, op := .bld [(.slc 0 [] true), (.int .i64 0)] [] },
        { dst := some 7, op := .box (.c (.agg [(.slc 0 [] true), (.int .i64 0)])) },
        { dst := none, op := .stor 2 (.s 7) (.s 19) }])
      (.seq (.ops [{ dst := some 20, op := .bslc 1 [] },
        { dst := some 8, op := .mov (.s 20) }])
      (.seq (.seq (.ops [{ dst := some 9, op := .mov (.c (.int .i64 0)) }])
      (.block 0 (.loop [0, 1, 2, 7, 8, 9] F2_wagonpoollaw13_DiskDetects_L0)))
      (.seq (.seq (.ops [{ dst := some 55, op := .mov (.s 1) },
        { dst := some 56, op := .bin .lss (.s 55) (.c (.int .i64 0)) },
        { dst := some 57, op := .mov (.s 56) },
        { dst := some 58, op := .mov (.s 1), guard := some (57, false) },
        { dst := some 59, op := .fld 0 (.s 7), guard := some (57, false) },
        { dst := some 60, op := .load 1 false (.s 59), guard := some (57, false) },
        { dst := some 61, op := .len false (.s 60), guard := some (57, false) },
        { dst := some 62, op := .bin .geq (.s 58) (.s 61), guard := some (57, false) },
        { dst := some 63, op := .pick (.s 57) (.c (.bool true)) (.s 62) },
        { dst := some 64, op := .mov (.s 63) },
        { dst := some 65, op := .fld 0 (.s 7), guard := some (64, false) },
        { dst := some 66, op := .load 1 false (.s 65), guard := some (64, false) },
        { dst := some 67, op := .mov (.s 1), guard := some (64, false) },
        { dst := some 68, op := .idxS 1 (.s 66) (.s 67), guard := some (64, false) },
        { dst := some 69, op := .load 1 false (.s 68), guard := some (64, false) },
        { dst := some 70, op := .mov (.s 2), guard := some (64, false) },
        { dst := some 71, op := .bin .eql (.s 69) (.s 70), guard := some (64, false) },
        { dst := some 72, op := .pick (.s 64) (.c (.bool true)) (.s 71) }])
      (.cond (.s 72)
        (.seq (.ops [{ dst := some 6, op := .mov (.c (.bool true)) }])
        (.ret))
        (.skip)))
      (.seq (.ops [{ dst := some 73, op := .fld 0 (.s 7) },
        { dst := some 74, op := .load 1 false (.s 73) },
        { dst := some 75, op := .icall 16 [(.s 74), (.c (.slc 0 [] true))] },
        { dst := some 12, op := .mov (.s 75) }])
      (.seq (.ops [{ dst := some 76, op := .mov (.s 12) },
        { dst := some 77, op := .mov (.s 1) },
        { dst := some 78, op := .mov (.s 2) },
        { dst := some 79, op := .idxS 1 (.s 76) (.s 77) },
        { dst := none, op := .stor 1 (.s 79) (.s 78) }])
      (.seq (.ops [{ dst := some 13, op := .mov (.c (.int .i64 0)) }])
      (.seq (.block 2 (.loop [0, 1, 8, 12, 13] F2_wagonpoollaw13_DiskDetects_L1))
      (.seq (.seq (.ops [{ dst := some 96, op := .mov (.s 13) },
        { dst := some 97, op := .mov (.s 0) },
        { dst := some 98, op := .len false (.s 97) },
        { dst := some 99, op := .bin .geq (.s 96) (.s 98) }])
      (.cond (.s 99)
        (.seq (.ops [{ dst := some 6, op := .mov (.c (.bool false)) }])
        (.ret))
        (.skip)))
      (.seq (.ops [{ dst := some 101, op := .mov (.s 12) },
        { dst := some 102, op := .bld [(.slc 0 [] true), (.int .i64 0)] [(0, 1, (.s 101))] },
        { dst := some 103, op := .call 14 [(.s 102)] },
        { dst := some 100, op := .mov (.s 103) },
        { dst := some 104, op := .ext (.s 100) 0 },
        { dst := some 105, op := .ext (.s 100) 1 },
        { dst := some 14, op := .mov (.s 104) },
        { dst := some 15, op := .mov (.s 105) }])
      (.seq (.seq (.ops [{ dst := some 106, op := .mov (.s 14) },
        { dst := some 107, op := .mov (.s 0) },
        { dst := some 108, op := .mov (.s 13) },
        { dst := some 109, op := .slice 1 (.s 107) none (some (.s 108)) none },
        { dst := some 110, op := .call 15 [(.s 106), (.s 109)] },
        { dst := some 111, op := .un .not (.s 110) }])
      (.cond (.s 111)
        (.seq (.ops [{ dst := some 6, op := .mov (.c (.bool false)) }])
        (.ret))
        (.skip)))
      (.seq (.ops [{ dst := some 112, op := .mov (.s 8) },
        { dst := some 113, op := .mov (.s 13) },
        { dst := some 114, op := .idxS 1 (.s 112) (.s 113) },
        { dst := some 115, op := .load 1 false (.s 114) },
        { dst := some 116, op := .bin .add (.s 115) (.c (.int .i64 12)) },
        { dst := some 16, op := .mov (.s 116) }])
      (.seq (.seq (.ops [{ dst := some 117, op := .mov (.s 1) },
        { dst := some 118, op := .mov (.s 16) },
        { dst := some 119, op := .bin .lss (.s 117) (.s 118) },
        { dst := some 120, op := .mov (.s 119) },
        { dst := some 121, op := .mov (.s 14), guard := some (120, false) },
        { dst := some 122, op := .len false (.s 121), guard := some (120, false) },
        { dst := some 123, op := .mov (.s 13), guard := some (120, false) },
        { dst := some 124, op := .bin .eql (.s 122) (.s 123), guard := some (120, false) },
        { dst := some 125, op := .pick (.s 120) (.c (.bool true)) (.s 124) }])
      (.cond (.s 125)
        (.seq (.ops [{ dst := some 6, op := .mov (.c (.bool true)) }])
        (.ret))
        (.skip)))
      (.seq (.seq (.ops [{ dst := some 126, op := .mov (.s 16) },
        { dst := some 127, op := .mov (.s 0) },
        { dst := some 128, op := .mov (.s 13) },
        { dst := some 129, op := .idxS 1 (.s 127) (.s 128) },
        { dst := some 130, op := .load 1 false (.s 129) },
        { dst := some 131, op := .len false (.s 130) },
        { dst := some 132, op := .bin .add (.s 126) (.s 131) },
        { dst := some 133, op := .mov (.s 12) },
        { dst := some 134, op := .len false (.s 133) },
        { dst := some 135, op := .bin .gtr (.s 132) (.s 134) }])
      (.cond (.s 135)
        (.seq (.ops [{ dst := some 6, op := .mov (.c (.bool false)) }])
        (.ret))
        (.skip)))
      (.seq (.ops [{ dst := some 136, op := .mov (.s 8) },
        { dst := some 137, op := .mov (.s 13) },
        { dst := some 138, op := .idxS 1 (.s 136) (.s 137) },
        { dst := some 139, op := .load 1 false (.s 138) },
        { dst := some 140, op := .mov (.s 0) },
        { dst := some 141, op := .mov (.s 13) },
        { dst := some 142, op := .idxS 1 (.s 140) (.s 141) },
        { dst := some 143, op := .load 1 false (.s 142) },
        { dst := some 144, op := .call 17 [(.s 139), (.s 143)] },
        { dst := some 145, op := .mov (.s 8) },
        { dst := some 146, op := .mov (.s 13) },
        { dst := some 147, op := .idxS 1 (.s 145) (.s 146) },
        { dst := some 148, op := .load 1 false (.s 147) },
        { dst := some 149, op := .mov (.s 12) },
        { dst := some 150, op := .mov (.s 16) },
        { dst := some 151, op := .mov (.s 16) },
        { dst := some 152, op := .mov (.s 0) },
        { dst := some 153, op := .mov (.s 13) },
        { dst := some 154, op := .idxS 1 (.s 152) (.s 153) },
        { dst := some 155, op := .load 1 false (.s 154) },
        { dst := some 156, op := .len false (.s 155) },
        { dst := some 157, op := .bin .add (.s 151) (.s 156) },
        { dst := some 158, op := .slice 1 (.s 149) (some (.s 150)) (some (.s 157)) none },
        { dst := some 159, op := .call 17 [(.s 148), (.s 158)] },
        { dst := some 160, op := .bin .eql (.s 144) (.s 159) },
        { dst := some 6, op := .mov (.s 160) }])
      (.ret))))))))))))))))))
    [.tmp 6]
theorem tr2_wagonpoollaw13_DiskDetects : trF Tryd.prog [28, 2000035, 34, 33, 38, 16] 4 [[0, 1, 2, 7, 8, 9], [0, 1, 8, 12, 13]] = some F2_wagonpoollaw13_DiskDetects := by kernel_rfl

/-! wagonpool/wagonpoolref13.Joined -/
def F2_wagonpoolref13_Joined : PF :=
  .mk
    (.seq (.ops [{ dst := some 4, op := .mov (.c (.slc 0 [] true)) }])
      (.seq (.ops [{ dst := some 6, op := .bslc 1 [] },
        { dst := some 5, op := .mov (.s 6) }])
      (.seq (.ops [{ dst := some 7, op := .mov (.s 5) },
        { dst := some 8, op := .mov (.s 0) },
        { dst := some 9, op := .app 1 1 (.s 7) (.s 8) },
        { dst := some 5, op := .mov (.s 9) }])
      (.seq (.ops [{ dst := some 10, op := .mov (.s 5) },
        { dst := some 11, op := .mov (.s 1) },
        { dst := some 12, op := .app 1 1 (.s 10) (.s 11) },
        { dst := some 4, op := .mov (.s 12) }])
      (.ret)))))
    [.tmp 4]
theorem tr2_wagonpoolref13_Joined : trF Tryd.prog [28, 2000035, 34, 33, 38, 16] 16 [] = some F2_wagonpoolref13_Joined := by kernel_rfl

end Go.Proofs.YteacnlikmagfcaaDoor.PI
