/-
  The translations of this seat's functions into pure code, each with the kernel's word that it is the translation. Written by a program (gen.py).
  Conditions: none.
-/
import Derived.Test.YtgnekjlciiefbaaDoorEngR
import Derived.KernelRfl
namespace Go.Proofs.YtgnekjlciiefbaaDoor.PI
open Go

/-! wagonpool/wagonpoollaw03.SignChallenges -/
def F_wagonpoollaw03_SignChallenges : PF :=
  .mk
    (.seq (.ops [{ dst := some 6, op := .mov (.c (.bool false)) }])
      (.seq (.seq (.ops [{ dst := some 18, op := .call 11 [] },
        { dst := some 19, op := .un .not (.s 18) }])
      (.cond (.s 19)
        (.seq (.ops [{ dst := some 6, op := .mov (.c (.bool false)) }])
        (.ret))
        (.skip)))
      (.seq (.seq (.ops [{ dst := some 20, op := .mov (.s 0) },
        { dst := some 21, op := .len false (.s 20) },
        { dst := some 22, op := .bin .lss (.s 21) (.c (.int .i64 1)) },
        { dst := some 23, op := .mov (.s 22) },
        { dst := some 24, op := .mov (.s 0), guard := some (23, false) },
        { dst := some 25, op := .len false (.s 24), guard := some (23, false) },
        { dst := some 26, op := .bin .gtr (.s 25) (.c (.int .i64 64)), guard := some (23, false) },
        { dst := some 27, op := .pick (.s 23) (.c (.bool true)) (.s 26) },
        { dst := some 28, op := .mov (.s 27) },
        { dst := some 29, op := .mov (.s 1), guard := some (28, false) },
        { dst := some 30, op := .len false (.s 29), guard := some (28, false) },
        { dst := some 31, op := .bin .gtr (.s 30) (.c (.int .i64 500)), guard := some (28, false) },
        { dst := some 32, op := .pick (.s 28) (.c (.bool true)) (.s 31) },
        { dst := some 33, op := .mov (.s 32) },
        { dst := some 34, op := .mov (.s 2), guard := some (33, false) },
        { dst := some 35, op := .len false (.s 34), guard := some (33, false) },
        { dst := some 36, op := .bin .gtr (.s 35) (.c (.int .i64 500)), guard := some (33, false) },
        { dst := some 37, op := .pick (.s 33) (.c (.bool true)) (.s 36) }])
      (.cond (.s 37)
        (.seq (.ops [{ dst := some 6, op := .mov (.c (.bool true)) }])
        (.ret))
        (.skip)))
      (.seq (.ops [{ dst := some 39, op := .mov (.s 0) },
        { dst := some 40, op := .call 12 [(.s 39)] },
        { dst := some 38, op := .mov (.s 40) },
        { dst := some 41, op := .ext (.s 38) 0 },
        { dst := some 42, op := .ext (.s 38) 1 },
        { dst := some 7, op := .mov (.s 41) },
        { dst := some 8, op := .mov (.s 42) }])
      (.seq (.ops [{ dst := some 44, op := .mov (.s 7) },
        { dst := some 45, op := .call 13 [(.s 44)] },
        { dst := some 43, op := .mov (.s 45) },
        { dst := some 46, op := .ext (.s 43) 0 },
        { dst := some 47, op := .ext (.s 43) 1 },
        { dst := some 9, op := .mov (.s 46) },
        { dst := some 10, op := .mov (.s 47) }])
      (.seq (.ops [{ dst := some 49, op := .mov (.s 7) },
        { dst := some 50, op := .mov (.s 1) },
        { dst := some 51, op := .call 14 [(.s 49), (.s 50)] },
        { dst := some 48, op := .mov (.s 51) },
        { dst := some 52, op := .ext (.s 48) 0 },
        { dst := some 53, op := .ext (.s 48) 1 },
        { dst := some 11, op := .box (.c (.agg [(.int .u64 0), (.int .u64 0)])) },
        { dst := none, op := .stor 2 (.s 11) (.s 52) },
        { dst := some 12, op := .mov (.s 53) }])
      (.seq (.seq (.ops [{ dst := some 54, op := .mov (.s 8) },
        { dst := some 55, op := .bin .neq (.s 54) (.c (.int .i64 0)) },
        { dst := some 56, op := .mov (.s 55) },
        { dst := some 57, op := .mov (.s 10), guard := some (56, false) },
        { dst := some 58, op := .bin .neq (.s 57) (.c (.int .i64 0)), guard := some (56, false) },
        { dst := some 59, op := .pick (.s 56) (.c (.bool true)) (.s 58) },
        { dst := some 60, op := .mov (.s 59) },
        { dst := some 61, op := .mov (.s 12), guard := some (60, false) },
        { dst := some 62, op := .bin .neq (.s 61) (.c (.int .i64 0)), guard := some (60, false) },
        { dst := some 63, op := .pick (.s 60) (.c (.bool true)) (.s 62) },
        { dst := some 64, op := .mov (.s 63) },
        { dst := some 65, op := .fld 0 (.s 11), guard := some (64, false) },
        { dst := some 66, op := .load 1 false (.s 65), guard := some (64, false) },
        { dst := some 67, op := .bin .geq (.s 66) (.c (.int .u64 1152921504606845399)), guard := some (64, false) },
        { dst := some 68, op := .pick (.s 64) (.c (.bool true)) (.s 67) },
        { dst := some 69, op := .mov (.s 68) },
        { dst := some 70, op := .fld 1 (.s 11), guard := some (69, false) },
        { dst := some 71, op := .load 1 false (.s 70), guard := some (69, false) },
        { dst := some 72, op := .bin .geq (.s 71) (.c (.int .u64 1152921504606845399)), guard := some (69, false) },
        { dst := some 73, op := .pick (.s 69) (.c (.bool true)) (.s 72) }])
      (.cond (.s 73)
        (.seq (.ops [{ dst := some 6, op := .mov (.c (.bool false)) }])
        (.ret))
        (.skip)))
      (.seq (.ops [{ dst := some 74, op := .fld 1 (.s 11) },
        { dst := some 75, op := .load 1 false (.s 74) },
        { dst := some 76, op := .call 15 [(.c (.int .u64 4)), (.s 75)] },
        { dst := some 13, op := .mov (.s 76) }])
      (.seq (.ops [{ dst := some 77, op := .mov (.s 9) },
        { dst := some 78, op := .fld 0 (.s 11) },
        { dst := some 79, op := .load 1 false (.s 78) },
        { dst := some 80, op := .bin .sub (.c (.int .u64 1152921504606845399)) (.s 79) },
        { dst := some 81, op := .call 15 [(.s 77), (.s 80)] },
        { dst := some 14, op := .mov (.s 81) }])
      (.seq (.seq (.ops [{ dst := some 82, op := .mov (.s 13) },
        { dst := some 83, op := .bin .geq (.s 82) (.c (.int .u64 2305843009213690799)) },
        { dst := some 84, op := .mov (.s 83) },
        { dst := some 85, op := .mov (.s 14), guard := some (84, false) },
        { dst := some 86, op := .bin .geq (.s 85) (.c (.int .u64 2305843009213690799)), guard := some (84, false) },
        { dst := some 87, op := .pick (.s 84) (.c (.bool true)) (.s 86) }])
      (.cond (.s 87)
        (.seq (.ops [{ dst := some 6, op := .mov (.c (.bool false)) }])
        (.ret))
        (.skip)))
      (.seq (.ops [{ dst := some 88, op := .mov (.s 13) },
        { dst := some 89, op := .mov (.s 14) },
        { dst := some 90, op := .call 17 [(.s 88), (.s 89), (.c (.int .u64 2305843009213690799))] },
        { dst := some 91, op := .icall 16 [(.s 90)] },
        { dst := some 92, op := .mov (.s 9) },
        { dst := some 93, op := .icall 16 [(.s 92)] },
        { dst := some 94, op := .app 1 1 (.s 91) (.s 93) },
        { dst := some 15, op := .mov (.s 94) }])
      (.seq (.ops [{ dst := some 95, op := .bslc 1 [] },
        { dst := some 96, op := .mov (.s 15) },
        { dst := some 97, op := .app 1 1 (.s 95) (.s 96) },
        { dst := some 98, op := .mov (.s 1) },
        { dst := some 99, op := .app 1 1 (.s 97) (.s 98) },
        { dst := some 100, op := .call 19 [(.c (.str [99, 104, 97, 108, 108, 101, 110, 103, 101])), (.s 99)] },
        { dst := some 101, op := .call 18 [(.s 100)] },
        { dst := some 102, op := .bin .rem (.s 101) (.c (.int .u64 1152921504606845399)) },
        { dst := some 16, op := .mov (.s 102) }])
      (.seq (.ops [{ dst := some 103, op := .bslc 1 [] },
        { dst := some 104, op := .mov (.s 15) },
        { dst := some 105, op := .app 1 1 (.s 103) (.s 104) },
        { dst := some 106, op := .mov (.s 2) },
        { dst := some 107, op := .app 1 1 (.s 105) (.s 106) },
        { dst := some 108, op := .call 19 [(.c (.str [99, 104, 97, 108, 108, 101, 110, 103, 101])), (.s 107)] },
        { dst := some 109, op := .call 18 [(.s 108)] },
        { dst := some 110, op := .bin .rem (.s 109) (.c (.int .u64 1152921504606845399)) },
        { dst := some 17, op := .mov (.s 110) }])
      (.seq (.ops [{ dst := some 111, op := .mov (.s 16) },
        { dst := some 112, op := .fld 0 (.s 11) },
        { dst := some 113, op := .load 1 false (.s 112) },
        { dst := some 114, op := .bin .eql (.s 111) (.s 113) },
        { dst := some 115, op := .mov (.s 114) },
        { dst := some 116, op := .mov (.s 9), guard := some (115, true) },
        { dst := some 117, op := .mov (.s 2), guard := some (115, true) },
        { dst := some 118, op := .load 2 true (.s 11), guard := some (115, true) },
        { dst := some 119, op := .call 20 [(.s 116), (.s 117), (.s 118)], guard := some (115, true) },
        { dst := some 120, op := .mov (.s 17), guard := some (115, true) },
        { dst := some 121, op := .fld 0 (.s 11), guard := some (115, true) },
        { dst := some 122, op := .load 1 false (.s 121), guard := some (115, true) },
        { dst := some 123, op := .bin .eql (.s 120) (.s 122), guard := some (115, true) },
        { dst := some 124, op := .beq false (.s 119) (.s 123), guard := some (115, true) },
        { dst := some 125, op := .pick (.s 115) (.s 124) (.c (.bool false)) },
        { dst := some 6, op := .mov (.s 125) }])
      (.ret)))))))))))))))
    [.tmp 6]
theorem tr_wagonpoollaw03_SignChallenges : trF Tryd.prog [31, 16, 37] 3 [] = some F_wagonpoollaw03_SignChallenges := by kernel_rfl

/-! wagonpool/wagonpoollaw03.SignHalves -/
def F_wagonpoollaw03_SignHalves : PF :=
  .mk
    (.seq (.ops [{ dst := some 2, op := .mov (.c (.bool false)) }])
      (.seq (.seq (.ops [{ dst := some 3, op := .call 11 [] },
        { dst := some 4, op := .un .not (.s 3) }])
      (.cond (.s 4)
        (.seq (.ops [{ dst := some 2, op := .mov (.c (.bool false)) }])
        (.ret))
        (.skip)))
      (.seq (.ops [{ dst := some 5, op := .mov (.s 0) },
        { dst := some 6, op := .bin .rem (.s 5) (.c (.int .u64 2305843009213690799)) },
        { dst := some 0, op := .mov (.s 6) }])
      (.seq (.seq (.ops [{ dst := some 7, op := .mov (.s 0) },
        { dst := some 8, op := .bin .lss (.s 7) (.c (.int .u64 2)) },
        { dst := some 9, op := .mov (.s 8) },
        { dst := some 10, op := .mov (.s 0), guard := some (9, false) },
        { dst := some 11, op := .bin .gtr (.s 10) (.c (.int .u64 2305843009213690797)), guard := some (9, false) },
        { dst := some 12, op := .pick (.s 9) (.c (.bool true)) (.s 11) }])
      (.cond (.s 12)
        (.seq (.ops [{ dst := some 13, op := .mov (.s 0) },
          { dst := some 14, op := .call 21 [(.s 13)] },
          { dst := some 15, op := .beq false (.s 14) (.c (.bool false)) },
          { dst := some 2, op := .mov (.s 15) }])
        (.ret))
        (.skip)))
      (.seq (.ops [{ dst := some 16, op := .mov (.s 0) },
        { dst := some 17, op := .call 21 [(.s 16)] },
        { dst := some 18, op := .mov (.s 0) },
        { dst := some 19, op := .bin .sub (.c (.int .u64 2305843009213690799)) (.s 18) },
        { dst := some 20, op := .call 21 [(.s 19)] },
        { dst := some 21, op := .beq true (.s 17) (.s 20) },
        { dst := some 22, op := .mov (.s 21) },
        { dst := some 23, op := .mov (.s 0), guard := some (22, true) },
        { dst := some 24, op := .call 21 [(.s 23)], guard := some (22, true) },
        { dst := some 25, op := .mov (.s 0), guard := some (22, true) },
        { dst := some 26, op := .call 15 [(.s 25), (.c (.int .u64 1152921504606845399))], guard := some (22, true) },
        { dst := some 27, op := .bin .eql (.s 26) (.c (.int .u64 1)), guard := some (22, true) },
        { dst := some 28, op := .beq false (.s 24) (.s 27), guard := some (22, true) },
        { dst := some 29, op := .pick (.s 22) (.s 28) (.c (.bool false)) },
        { dst := some 30, op := .mov (.s 29) },
        { dst := some 31, op := .mov (.s 0), guard := some (30, true) },
        { dst := some 32, op := .call 15 [(.s 31), (.c (.int .u64 2305843009213690798))], guard := some (30, true) },
        { dst := some 33, op := .bin .eql (.s 32) (.c (.int .u64 1)), guard := some (30, true) },
        { dst := some 34, op := .pick (.s 30) (.s 33) (.c (.bool false)) },
        { dst := some 2, op := .mov (.s 34) }])
      (.ret))))))
    [.tmp 2]
theorem tr_wagonpoollaw03_SignHalves : trF Tryd.prog [31, 16, 37] 4 [] = some F_wagonpoollaw03_SignHalves := by kernel_rfl

/-! wagonpool/wagonpoollaw03.SignKeys -/
def F_wagonpoollaw03_SignKeys : PF :=
  .mk
    (.seq (.ops [{ dst := some 4, op := .mov (.c (.bool false)) }])
      (.seq (.seq (.ops [{ dst := some 12, op := .call 11 [] },
        { dst := some 13, op := .un .not (.s 12) }])
      (.cond (.s 13)
        (.seq (.ops [{ dst := some 4, op := .mov (.c (.bool false)) }])
        (.ret))
        (.skip)))
      (.seq (.ops [{ dst := some 14, op := .mov (.s 0) },
        { dst := some 15, op := .bin .rem (.s 14) (.c (.int .u64 1152921504606845398)) },
        { dst := some 16, op := .bin .add (.s 15) (.c (.int .u64 1)) },
        { dst := some 0, op := .mov (.s 16) }])
      (.seq (.ops [{ dst := some 17, op := .mov (.s 1) },
        { dst := some 18, op := .bin .rem (.s 17) (.c (.int .u64 1152921504606845398)) },
        { dst := some 19, op := .bin .add (.s 18) (.c (.int .u64 1)) },
        { dst := some 1, op := .mov (.s 19) }])
      (.seq (.ops [{ dst := some 21, op := .mov (.s 0) },
        { dst := some 22, op := .call 13 [(.s 21)] },
        { dst := some 20, op := .mov (.s 22) },
        { dst := some 23, op := .ext (.s 20) 0 },
        { dst := some 24, op := .ext (.s 20) 1 },
        { dst := some 5, op := .mov (.s 23) },
        { dst := some 6, op := .mov (.s 24) }])
      (.seq (.ops [{ dst := some 26, op := .mov (.s 1) },
        { dst := some 27, op := .call 13 [(.s 26)] },
        { dst := some 25, op := .mov (.s 27) },
        { dst := some 28, op := .ext (.s 25) 0 },
        { dst := some 29, op := .ext (.s 25) 1 },
        { dst := some 7, op := .mov (.s 28) },
        { dst := some 8, op := .mov (.s 29) }])
      (.seq (.seq (.ops [{ dst := some 30, op := .mov (.s 6) },
        { dst := some 31, op := .bin .neq (.s 30) (.c (.int .i64 0)) },
        { dst := some 32, op := .mov (.s 31) },
        { dst := some 33, op := .mov (.s 8), guard := some (32, false) },
        { dst := some 34, op := .bin .neq (.s 33) (.c (.int .i64 0)), guard := some (32, false) },
        { dst := some 35, op := .pick (.s 32) (.c (.bool true)) (.s 34) },
        { dst := some 36, op := .mov (.s 35) },
        { dst := some 37, op := .mov (.s 5), guard := some (36, false) },
        { dst := some 38, op := .bin .geq (.s 37) (.c (.int .u64 2305843009213690799)), guard := some (36, false) },
        { dst := some 39, op := .pick (.s 36) (.c (.bool true)) (.s 38) },
        { dst := some 40, op := .mov (.s 39) },
        { dst := some 41, op := .mov (.s 7), guard := some (40, false) },
        { dst := some 42, op := .bin .geq (.s 41) (.c (.int .u64 2305843009213690799)), guard := some (40, false) },
        { dst := some 43, op := .pick (.s 40) (.c (.bool true)) (.s 42) }])
      (.cond (.s 43)
        (.seq (.ops [{ dst := some 4, op := .mov (.c (.bool false)) }])
        (.ret))
        (.skip)))
      (.seq (.ops [{ dst := some 44, op := .mov (.s 0) },
        { dst := some 45, op := .mov (.s 1) },
        { dst := some 46, op := .bin .add (.s 44) (.s 45) },
        { dst := some 47, op := .bin .rem (.s 46) (.c (.int .u64 1152921504606845399)) },
        { dst := some 9, op := .mov (.s 47) }])
      (.seq (.ops [{ dst := some 49, op := .mov (.s 9) },
        { dst := some 50, op := .call 13 [(.s 49)] },
        { dst := some 48, op := .mov (.s 50) },
        { dst := some 51, op := .ext (.s 48) 0 },
        { dst := some 52, op := .ext (.s 48) 1 },
        { dst := some 10, op := .mov (.s 51) },
        { dst := some 11, op := .mov (.s 52) }])
      (.seq (.seq (.ops [{ dst := some 53, op := .mov (.s 9) },
        { dst := some 54, op := .bin .eql (.s 53) (.c (.int .u64 0)) }])
      (.cond (.s 54)
        (.seq (.ops [{ dst := some 55, op := .mov (.s 11) },
          { dst := some 56, op := .bin .eql (.s 55) (.c (.int .i64 30)) },
          { dst := some 57, op := .mov (.s 56) },
          { dst := some 58, op := .mov (.s 5), guard := some (57, true) },
          { dst := some 59, op := .mov (.s 7), guard := some (57, true) },
          { dst := some 60, op := .call 17 [(.s 58), (.s 59), (.c (.int .u64 2305843009213690799))], guard := some (57, true) },
          { dst := some 61, op := .bin .eql (.s 60) (.c (.int .u64 1)), guard := some (57, true) },
          { dst := some 62, op := .pick (.s 57) (.s 61) (.c (.bool false)) },
          { dst := some 4, op := .mov (.s 62) }])
        (.ret))
        (.skip)))
      (.seq (.ops [{ dst := some 63, op := .mov (.s 11) },
        { dst := some 64, op := .bin .eql (.s 63) (.c (.int .i64 0)) },
        { dst := some 65, op := .mov (.s 64) },
        { dst := some 66, op := .mov (.s 10), guard := some (65, true) },
        { dst := some 67, op := .mov (.s 5), guard := some (65, true) },
        { dst := some 68, op := .mov (.s 7), guard := some (65, true) },
        { dst := some 69, op := .call 17 [(.s 67), (.s 68), (.c (.int .u64 2305843009213690799))], guard := some (65, true) },
        { dst := some 70, op := .bin .eql (.s 66) (.s 69), guard := some (65, true) },
        { dst := some 71, op := .pick (.s 65) (.s 70) (.c (.bool false)) },
        { dst := some 4, op := .mov (.s 71) }])
      (.ret))))))))))))
    [.tmp 4]
theorem tr_wagonpoollaw03_SignKeys : trF Tryd.prog [31, 16, 37] 5 [] = some F_wagonpoollaw03_SignKeys := by kernel_rfl

/-! wagonpool/wagonpoollaw03.SignLimits -/
def F_wagonpoollaw03_SignLimits : PF :=
  .mk
    (.seq (.ops [{ dst := some 6, op := .mov (.c (.bool false)) }])
      (.seq (.seq (.ops [{ dst := some 18, op := .call 11 [] },
        { dst := some 19, op := .un .not (.s 18) }])
      (.cond (.s 19)
        (.seq (.ops [{ dst := some 6, op := .mov (.c (.bool false)) }])
        (.ret))
        (.skip)))
      (.seq (.seq (.ops [{ dst := some 20, op := .mov (.s 0) },
        { dst := some 21, op := .len false (.s 20) },
        { dst := some 22, op := .bin .lss (.s 21) (.c (.int .i64 1)) },
        { dst := some 23, op := .mov (.s 22) },
        { dst := some 24, op := .mov (.s 0), guard := some (23, false) },
        { dst := some 25, op := .len false (.s 24), guard := some (23, false) },
        { dst := some 26, op := .bin .gtr (.s 25) (.c (.int .i64 64)), guard := some (23, false) },
        { dst := some 27, op := .pick (.s 23) (.c (.bool true)) (.s 26) },
        { dst := some 28, op := .mov (.s 27) },
        { dst := some 29, op := .mov (.s 1), guard := some (28, false) },
        { dst := some 30, op := .len false (.s 29), guard := some (28, false) },
        { dst := some 31, op := .bin .gtr (.s 30) (.c (.int .i64 200)), guard := some (28, false) },
        { dst := some 32, op := .pick (.s 28) (.c (.bool true)) (.s 31) }])
      (.cond (.s 32)
        (.seq (.ops [{ dst := some 6, op := .mov (.c (.bool true)) }])
        (.ret))
        (.skip)))
      (.seq (.ops [{ dst := some 34, op := .mov (.s 0) },
        { dst := some 35, op := .call 12 [(.s 34)] },
        { dst := some 33, op := .mov (.s 35) },
        { dst := some 36, op := .ext (.s 33) 0 },
        { dst := some 37, op := .ext (.s 33) 1 },
        { dst := some 7, op := .mov (.s 36) },
        { dst := some 8, op := .mov (.s 37) }])
      (.seq (.ops [{ dst := some 39, op := .mov (.s 7) },
        { dst := some 40, op := .call 13 [(.s 39)] },
        { dst := some 38, op := .mov (.s 40) },
        { dst := some 41, op := .ext (.s 38) 0 },
        { dst := some 42, op := .ext (.s 38) 1 },
        { dst := some 9, op := .mov (.s 41) },
        { dst := some 10, op := .mov (.s 42) }])
      (.seq (.ops [{ dst := some 44, op := .mov (.s 7) },
        { dst := some 45, op := .mov (.s 1) },
        { dst := some 46, op := .call 14 [(.s 44), (.s 45)] },
        { dst := some 43, op := .mov (.s 46) },
        { dst := some 47, op := .ext (.s 43) 0 },
        { dst := some 48, op := .ext (.s 43) 1 },
        { dst := some 11, op := .box (.c (.agg [(.int .u64 0), (.int .u64 0)])) },
        { dst := none, op := .stor 2 (.s 11) (.s 47) },
        { dst := some 12, op := .mov (.s 48) }])
      (.seq (.seq (.ops [{ dst := some 49, op := .mov (.s 8) },
        { dst := some 50, op := .bin .neq (.s 49) (.c (.int .i64 0)) },
        { dst := some 51, op := .mov (.s 50) },
        { dst := some 52, op := .mov (.s 10), guard := some (51, false) },
        { dst := some 53, op := .bin .neq (.s 52) (.c (.int .i64 0)), guard := some (51, false) },
        { dst := some 54, op := .pick (.s 51) (.c (.bool true)) (.s 53) },
        { dst := some 55, op := .mov (.s 54) },
        { dst := some 56, op := .mov (.s 12), guard := some (55, false) },
        { dst := some 57, op := .bin .neq (.s 56) (.c (.int .i64 0)), guard := some (55, false) },
        { dst := some 58, op := .pick (.s 55) (.c (.bool true)) (.s 57) }])
      (.cond (.s 58)
        (.seq (.ops [{ dst := some 6, op := .mov (.c (.bool false)) }])
        (.ret))
        (.skip)))
      (.seq (.ops [{ dst := some 59, op := .mkslc 1 1 (.int .u8 0) (.c (.int .i64 65537)) (.c (.int .i64 65537)) },
        { dst := some 13, op := .mov (.s 59) }])
      (.seq (.ops [{ dst := some 61, op := .mov (.s 7) },
        { dst := some 62, op := .mov (.s 13) },
        { dst := some 63, op := .call 14 [(.s 61), (.s 62)] },
        { dst := some 60, op := .mov (.s 63) },
        { dst := some 64, op := .ext (.s 60) 0 },
        { dst := some 65, op := .ext (.s 60) 1 },
        { dst := some 14, op := .box (.c (.agg [(.int .u64 0), (.int .u64 0)])) },
        { dst := none, op := .stor 2 (.s 14) (.s 64) },
        { dst := some 15, op := .mov (.s 65) }])
      (.seq (.ops [{ dst := some 66, op := .fld 0 (.s 11) },
        { dst := some 67, op := .load 1 false (.s 66) },
        { dst := some 68, op := .bin .add (.s 67) (.c (.int .u64 1152921504606845399)) },
        { dst := some 69, op := .fld 1 (.s 11) },
        { dst := some 70, op := .load 1 false (.s 69) },
        { dst := some 71, op := .bld [(.int .u64 0), (.int .u64 0)] [(0, 1, (.s 68)), (1, 1, (.s 70))] },
        { dst := some 16, op := .box (.c (.agg [(.int .u64 0), (.int .u64 0)])) },
        { dst := none, op := .stor 2 (.s 16) (.s 71) }])
      (.seq (.ops [{ dst := some 72, op := .fld 0 (.s 11) },
        { dst := some 73, op := .load 1 false (.s 72) },
        { dst := some 74, op := .fld 1 (.s 11) },
        { dst := some 75, op := .load 1 false (.s 74) },
        { dst := some 76, op := .bin .add (.s 75) (.c (.int .u64 1152921504606845399)) },
        { dst := some 77, op := .bld [(.int .u64 0), (.int .u64 0)] [(0, 1, (.s 73)), (1, 1, (.s 76))] },
        { dst := some 17, op := .box (.c (.agg [(.int .u64 0), (.int .u64 0)])) },
        { dst := none, op := .stor 2 (.s 17) (.s 77) }])
      (.seq (.ops [{ dst := some 78, op := .mov (.s 15) },
        { dst := some 79, op := .bin .eql (.s 78) (.c (.int .i64 2)) },
        { dst := some 80, op := .mov (.s 79) },
        { dst := some 81, op := .mov (.s 9), guard := some (80, true) },
        { dst := some 82, op := .mov (.s 13), guard := some (80, true) },
        { dst := some 83, op := .load 2 true (.s 11), guard := some (80, true) },
        { dst := some 84, op := .call 20 [(.s 81), (.s 82), (.s 83)], guard := some (80, true) },
        { dst := some 85, op := .un .not (.s 84), guard := some (80, true) },
        { dst := some 86, op := .pick (.s 80) (.s 85) (.c (.bool false)) },
        { dst := some 87, op := .mov (.s 86) },
        { dst := some 88, op := .mov (.s 9), guard := some (87, true) },
        { dst := some 89, op := .mov (.s 1), guard := some (87, true) },
        { dst := some 90, op := .load 2 true (.s 16), guard := some (87, true) },
        { dst := some 91, op := .call 20 [(.s 88), (.s 89), (.s 90)], guard := some (87, true) },
        { dst := some 92, op := .un .not (.s 91), guard := some (87, true) },
        { dst := some 93, op := .pick (.s 87) (.s 92) (.c (.bool false)) },
        { dst := some 94, op := .mov (.s 93) },
        { dst := some 95, op := .mov (.s 9), guard := some (94, true) },
        { dst := some 96, op := .mov (.s 1), guard := some (94, true) },
        { dst := some 97, op := .load 2 true (.s 17), guard := some (94, true) },
        { dst := some 98, op := .call 20 [(.s 95), (.s 96), (.s 97)], guard := some (94, true) },
        { dst := some 99, op := .un .not (.s 98), guard := some (94, true) },
        { dst := some 100, op := .pick (.s 94) (.s 99) (.c (.bool false)) },
        { dst := some 101, op := .mov (.s 100) },
        { dst := some 102, op := .mov (.s 9), guard := some (101, true) },
        { dst := some 103, op := .bin .sub (.c (.int .u64 2305843009213690799)) (.s 102), guard := some (101, true) },
        { dst := some 104, op := .mov (.s 1), guard := some (101, true) },
        { dst := some 105, op := .load 2 true (.s 11), guard := some (101, true) },
        { dst := some 106, op := .call 20 [(.s 103), (.s 104), (.s 105)], guard := some (101, true) },
        { dst := some 107, op := .un .not (.s 106), guard := some (101, true) },
        { dst := some 108, op := .pick (.s 101) (.s 107) (.c (.bool false)) },
        { dst := some 109, op := .mov (.s 108) },
        { dst := some 110, op := .mov (.s 9), guard := some (109, true) },
        { dst := some 111, op := .bin .add (.s 110) (.c (.int .u64 2305843009213690799)), guard := some (109, true) },
        { dst := some 112, op := .mov (.s 1), guard := some (109, true) },
        { dst := some 113, op := .load 2 true (.s 11), guard := some (109, true) },
        { dst := some 114, op := .call 20 [(.s 111), (.s 112), (.s 113)], guard := some (109, true) },
        { dst := some 115, op := .un .not (.s 114), guard := some (109, true) },
        { dst := some 116, op := .pick (.s 109) (.s 115) (.c (.bool false)) },
        { dst := some 117, op := .mov (.s 116) },
        { dst := some 118, op := .mov (.s 9), guard := some (117, true) },
        { dst := some 119, op := .mov (.s 1), guard := some (117, true) },
        { dst := some 120, op := .mov (.s 2), guard := some (117, true) },
        { dst := some 121, op := .bin .rem (.s 120) (.c (.int .u64 1152921504606845399)), guard := some (117, true) },
        { dst := some 122, op := .bin .add (.c (.int .u64 1152921504606845399)) (.s 121), guard := some (117, true) },
        { dst := some 123, op := .fld 1 (.s 11), guard := some (117, true) },
        { dst := some 124, op := .load 1 false (.s 123), guard := some (117, true) },
        { dst := some 125, op := .bld [(.int .u64 0), (.int .u64 0)] [(0, 1, (.s 122)), (1, 1, (.s 124))], guard := some (117, true) },
        { dst := some 126, op := .call 20 [(.s 118), (.s 119), (.s 125)], guard := some (117, true) },
        { dst := some 127, op := .un .not (.s 126), guard := some (117, true) },
        { dst := some 128, op := .pick (.s 117) (.s 127) (.c (.bool false)) },
        { dst := some 6, op := .mov (.s 128) }])
      (.ret)))))))))))))
    [.tmp 6]
theorem tr_wagonpoollaw03_SignLimits : trF Tryd.prog [31, 16, 37] 6 [] = some F_wagonpoollaw03_SignLimits := by kernel_rfl

/-! wagonpool/wagonpoollaw03.SignMatches -/
def F_wagonpoollaw03_SignMatches : PF :=
  .mk
    (.seq (.ops [{ dst := some 6, op := .mov (.c (.bool false)) }])
      (.seq (.seq (.ops [{ dst := some 19, op := .call 11 [] },
        { dst := some 20, op := .un .not (.s 19) }])
      (.cond (.s 20)
        (.seq (.ops [{ dst := some 6, op := .mov (.c (.bool false)) }])
        (.ret))
        (.skip)))
      (.seq (.seq (.ops [{ dst := some 21, op := .mov (.s 0) },
        { dst := some 22, op := .len false (.s 21) },
        { dst := some 23, op := .bin .gtr (.s 22) (.c (.int .i64 2000)) },
        { dst := some 24, op := .mov (.s 23) },
        { dst := some 25, op := .mov (.s 2), guard := some (24, false) },
        { dst := some 26, op := .call 22 [(.s 25)], guard := some (24, false) },
        { dst := some 27, op := .un .not (.s 26), guard := some (24, false) },
        { dst := some 28, op := .pick (.s 24) (.c (.bool true)) (.s 27) }])
      (.cond (.s 28)
        (.seq (.ops [{ dst := some 6, op := .mov (.c (.bool true)) }])
        (.ret))
        (.skip)))
      (.seq (.ops [{ dst := some 30, op := .mov (.s 0) },
        { dst := some 31, op := .call 12 [(.s 30)] },
        { dst := some 29, op := .mov (.s 31) },
        { dst := some 32, op := .ext (.s 29) 0 },
        { dst := some 33, op := .ext (.s 29) 1 },
        { dst := some 7, op := .mov (.s 32) },
        { dst := some 8, op := .mov (.s 33) }])
      (.seq (.ops [{ dst := some 35, op := .mov (.s 0) },
        { dst := some 36, op := .call 23 [(.s 35)] },
        { dst := some 34, op := .mov (.s 36) },
        { dst := some 37, op := .ext (.s 34) 0 },
        { dst := some 38, op := .ext (.s 34) 1 },
        { dst := some 9, op := .mov (.s 37) },
        { dst := some 10, op := .mov (.s 38) }])
      (.seq (.ops [{ dst := some 40, op := .mov (.s 1) },
        { dst := some 41, op := .call 13 [(.s 40)] },
        { dst := some 39, op := .mov (.s 41) },
        { dst := some 42, op := .ext (.s 39) 0 },
        { dst := some 43, op := .ext (.s 39) 1 },
        { dst := some 11, op := .mov (.s 42) },
        { dst := some 12, op := .mov (.s 43) }])
      (.seq (.ops [{ dst := some 45, op := .mov (.s 1) },
        { dst := some 46, op := .call 24 [(.s 45)] },
        { dst := some 44, op := .mov (.s 46) },
        { dst := some 47, op := .ext (.s 44) 0 },
        { dst := some 48, op := .ext (.s 44) 1 },
        { dst := some 13, op := .mov (.s 47) },
        { dst := some 14, op := .mov (.s 48) }])
      (.seq (.ops [{ dst := some 50, op := .mov (.s 1) },
        { dst := some 51, op := .mov (.s 2) },
        { dst := some 52, op := .call 14 [(.s 50), (.s 51)] },
        { dst := some 49, op := .mov (.s 52) },
        { dst := some 53, op := .ext (.s 49) 0 },
        { dst := some 54, op := .ext (.s 49) 1 },
        { dst := some 15, op := .box (.c (.agg [(.int .u64 0), (.int .u64 0)])) },
        { dst := none, op := .stor 2 (.s 15) (.s 53) },
        { dst := some 16, op := .mov (.s 54) }])
      (.seq (.ops [{ dst := some 56, op := .mov (.s 1) },
        { dst := some 57, op := .mov (.s 2) },
        { dst := some 58, op := .call 25 [(.s 56), (.s 57)] },
        { dst := some 55, op := .mov (.s 58) },
        { dst := some 59, op := .ext (.s 55) 0 },
        { dst := some 60, op := .ext (.s 55) 1 },
        { dst := some 17, op := .box (.c (.agg [(.int .u64 0), (.int .u64 0)])) },
        { dst := none, op := .stor 2 (.s 17) (.s 59) },
        { dst := some 18, op := .mov (.s 60) }])
      (.seq (.ops [{ dst := some 61, op := .mov (.s 7) },
        { dst := some 62, op := .mov (.s 9) },
        { dst := some 63, op := .bin .eql (.s 61) (.s 62) },
        { dst := some 64, op := .mov (.s 63) },
        { dst := some 65, op := .mov (.s 8), guard := some (64, true) },
        { dst := some 66, op := .mov (.s 10), guard := some (64, true) },
        { dst := some 67, op := .bin .eql (.s 65) (.s 66), guard := some (64, true) },
        { dst := some 68, op := .pick (.s 64) (.s 67) (.c (.bool false)) },
        { dst := some 69, op := .mov (.s 68) },
        { dst := some 70, op := .mov (.s 11), guard := some (69, true) },
        { dst := some 71, op := .mov (.s 13), guard := some (69, true) },
        { dst := some 72, op := .bin .eql (.s 70) (.s 71), guard := some (69, true) },
        { dst := some 73, op := .pick (.s 69) (.s 72) (.c (.bool false)) },
        { dst := some 74, op := .mov (.s 73) },
        { dst := some 75, op := .mov (.s 12), guard := some (74, true) },
        { dst := some 76, op := .mov (.s 14), guard := some (74, true) },
        { dst := some 77, op := .bin .eql (.s 75) (.s 76), guard := some (74, true) },
        { dst := some 78, op := .pick (.s 74) (.s 77) (.c (.bool false)) },
        { dst := some 79, op := .mov (.s 78) },
        { dst := some 80, op := .load 2 true (.s 15), guard := some (79, true) },
        { dst := some 81, op := .load 2 true (.s 17), guard := some (79, true) },
        { dst := some 82, op := .aeq [0, 0] false (.s 80) (.s 81), guard := some (79, true) },
        { dst := some 83, op := .pick (.s 79) (.s 82) (.c (.bool false)) },
        { dst := some 84, op := .mov (.s 83) },
        { dst := some 85, op := .mov (.s 16), guard := some (84, true) },
        { dst := some 86, op := .mov (.s 18), guard := some (84, true) },
        { dst := some 87, op := .bin .eql (.s 85) (.s 86), guard := some (84, true) },
        { dst := some 88, op := .pick (.s 84) (.s 87) (.c (.bool false)) },
        { dst := some 6, op := .mov (.s 88) }])
      (.ret)))))))))))
    [.tmp 6]
theorem tr_wagonpoollaw03_SignMatches : trF Tryd.prog [31, 16, 37] 7 [] = some F_wagonpoollaw03_SignMatches := by kernel_rfl

/-! wagonpool/wagonpoollaw03.SignMatchesVerify -/
def F_wagonpoollaw03_SignMatchesVerify : PF :=
  .mk
    (.seq (.ops [{ dst := some 5, op := .box (.s 2) },
        { dst := some 6, op := .mov (.c (.bool false)) }])
      (.seq (.seq (.ops [{ dst := some 7, op := .call 11 [] },
        { dst := some 8, op := .un .not (.s 7) }])
      (.cond (.s 8)
        (.seq (.ops [{ dst := some 6, op := .mov (.c (.bool false)) }])
        (.ret))
        (.skip)))
      (.seq (.seq (.ops [{ dst := some 9, op := .mov (.s 1) },
        { dst := some 10, op := .call 22 [(.s 9)] },
        { dst := some 11, op := .un .not (.s 10) }])
      (.cond (.s 11)
        (.seq (.ops [{ dst := some 6, op := .mov (.c (.bool true)) }])
        (.ret))
        (.skip)))
      (.seq (.ops [{ dst := some 12, op := .mov (.s 0) },
        { dst := some 13, op := .mov (.s 1) },
        { dst := some 14, op := .load 2 true (.s 5) },
        { dst := some 15, op := .call 20 [(.s 12), (.s 13), (.s 14)] },
        { dst := some 16, op := .mov (.s 0) },
        { dst := some 17, op := .mov (.s 1) },
        { dst := some 18, op := .load 2 true (.s 5) },
        { dst := some 19, op := .call 26 [(.s 16), (.s 17), (.s 18)] },
        { dst := some 20, op := .beq false (.s 15) (.s 19) },
        { dst := some 21, op := .mov (.s 20) },
        { dst := some 22, op := .mov (.s 0), guard := some (21, true) },
        { dst := some 23, op := .call 21 [(.s 22)], guard := some (21, true) },
        { dst := some 24, op := .mov (.s 0), guard := some (21, true) },
        { dst := some 25, op := .call 27 [(.s 24)], guard := some (21, true) },
        { dst := some 26, op := .beq false (.s 23) (.s 25), guard := some (21, true) },
        { dst := some 27, op := .pick (.s 21) (.s 26) (.c (.bool false)) },
        { dst := some 28, op := .mov (.s 27) },
        { dst := some 29, op := .mov (.s 0), guard := some (28, true) },
        { dst := some 30, op := .fld 1 (.s 5), guard := some (28, true) },
        { dst := some 31, op := .load 1 false (.s 30), guard := some (28, true) },
        { dst := some 32, op := .call 15 [(.s 29), (.s 31)], guard := some (28, true) },
        { dst := some 33, op := .mov (.s 0), guard := some (28, true) },
        { dst := some 34, op := .fld 1 (.s 5), guard := some (28, true) },
        { dst := some 35, op := .load 1 false (.s 34), guard := some (28, true) },
        { dst := some 36, op := .call 28 [(.s 33), (.s 35)], guard := some (28, true) },
        { dst := some 37, op := .bin .eql (.s 32) (.s 36), guard := some (28, true) },
        { dst := some 38, op := .pick (.s 28) (.s 37) (.c (.bool false)) },
        { dst := some 6, op := .mov (.s 38) }])
      (.ret)))))
    [.tmp 6]
theorem tr_wagonpoollaw03_SignMatchesVerify : trF Tryd.prog [31, 16, 37] 8 [] = some F_wagonpoollaw03_SignMatchesVerify := by kernel_rfl

/-! wagonpool/wagonpoollaw03.SignPowers -/
def F_wagonpoollaw03_SignPowers : PF :=
  .mk
    (.seq (.ops [{ dst := some 6, op := .mov (.c (.bool false)) }])
      (.seq (.seq (.ops [{ dst := some 9, op := .call 11 [] },
        { dst := some 10, op := .un .not (.s 9) }])
      (.cond (.s 10)
        (.seq (.ops [{ dst := some 6, op := .mov (.c (.bool false)) }])
        (.ret))
        (.skip)))
      (.seq (.ops [{ dst := some 11, op := .mov (.s 1) },
        { dst := some 12, op := .bin .shr (.s 11) (.c (.int .u64 1)) },
        { dst := some 1, op := .mov (.s 12) }])
      (.seq (.ops [{ dst := some 13, op := .mov (.s 2) },
        { dst := some 14, op := .bin .shr (.s 13) (.c (.int .u64 1)) },
        { dst := some 2, op := .mov (.s 14) }])
      (.seq (.ops [{ dst := some 15, op := .mov (.s 0) },
        { dst := some 16, op := .mov (.s 1) },
        { dst := some 17, op := .call 15 [(.s 15), (.s 16)] },
        { dst := some 7, op := .mov (.s 17) }])
      (.seq (.ops [{ dst := some 18, op := .mov (.s 0) },
        { dst := some 19, op := .mov (.s 2) },
        { dst := some 20, op := .call 15 [(.s 18), (.s 19)] },
        { dst := some 8, op := .mov (.s 20) }])
      (.seq (.ops [{ dst := some 21, op := .mov (.s 7) },
        { dst := some 22, op := .bin .lss (.s 21) (.c (.int .u64 2305843009213690799)) },
        { dst := some 23, op := .mov (.s 22) },
        { dst := some 24, op := .mov (.s 8), guard := some (23, true) },
        { dst := some 25, op := .bin .lss (.s 24) (.c (.int .u64 2305843009213690799)), guard := some (23, true) },
        { dst := some 26, op := .pick (.s 23) (.s 25) (.c (.bool false)) },
        { dst := some 27, op := .mov (.s 26) },
        { dst := some 28, op := .mov (.s 0), guard := some (27, true) },
        { dst := some 29, op := .mov (.s 1), guard := some (27, true) },
        { dst := some 30, op := .mov (.s 2), guard := some (27, true) },
        { dst := some 31, op := .bin .add (.s 29) (.s 30), guard := some (27, true) },
        { dst := some 32, op := .call 15 [(.s 28), (.s 31)], guard := some (27, true) },
        { dst := some 33, op := .mov (.s 7), guard := some (27, true) },
        { dst := some 34, op := .mov (.s 8), guard := some (27, true) },
        { dst := some 35, op := .call 17 [(.s 33), (.s 34), (.c (.int .u64 2305843009213690799))], guard := some (27, true) },
        { dst := some 36, op := .bin .eql (.s 32) (.s 35), guard := some (27, true) },
        { dst := some 37, op := .pick (.s 27) (.s 36) (.c (.bool false)) },
        { dst := some 38, op := .mov (.s 37) },
        { dst := some 39, op := .mov (.s 7), guard := some (38, true) },
        { dst := some 40, op := .mov (.s 2), guard := some (38, true) },
        { dst := some 41, op := .call 15 [(.s 39), (.s 40)], guard := some (38, true) },
        { dst := some 42, op := .mov (.s 8), guard := some (38, true) },
        { dst := some 43, op := .mov (.s 1), guard := some (38, true) },
        { dst := some 44, op := .call 15 [(.s 42), (.s 43)], guard := some (38, true) },
        { dst := some 45, op := .bin .eql (.s 41) (.s 44), guard := some (38, true) },
        { dst := some 46, op := .pick (.s 38) (.s 45) (.c (.bool false)) },
        { dst := some 6, op := .mov (.s 46) }])
      (.ret))))))))
    [.tmp 6]
theorem tr_wagonpoollaw03_SignPowers : trF Tryd.prog [31, 16, 37] 9 [] = some F_wagonpoollaw03_SignPowers := by kernel_rfl

/-! wagonpool/wagonpoollaw03.SignVerifies -/
def F_wagonpoollaw03_SignVerifies : PF :=
  .mk
    (.seq (.ops [{ dst := some 4, op := .mov (.c (.bool false)) }])
      (.seq (.seq (.ops [{ dst := some 11, op := .call 11 [] },
        { dst := some 12, op := .un .not (.s 11) }])
      (.cond (.s 12)
        (.seq (.ops [{ dst := some 4, op := .mov (.c (.bool false)) }])
        (.ret))
        (.skip)))
      (.seq (.seq (.ops [{ dst := some 13, op := .mov (.s 0) },
        { dst := some 14, op := .len false (.s 13) },
        { dst := some 15, op := .bin .lss (.s 14) (.c (.int .i64 1)) },
        { dst := some 16, op := .mov (.s 15) },
        { dst := some 17, op := .mov (.s 0), guard := some (16, false) },
        { dst := some 18, op := .len false (.s 17), guard := some (16, false) },
        { dst := some 19, op := .bin .gtr (.s 18) (.c (.int .i64 64)), guard := some (16, false) },
        { dst := some 20, op := .pick (.s 16) (.c (.bool true)) (.s 19) },
        { dst := some 21, op := .mov (.s 20) },
        { dst := some 22, op := .mov (.s 1), guard := some (21, false) },
        { dst := some 23, op := .len false (.s 22), guard := some (21, false) },
        { dst := some 24, op := .bin .gtr (.s 23) (.c (.int .i64 2000)), guard := some (21, false) },
        { dst := some 25, op := .pick (.s 21) (.c (.bool true)) (.s 24) }])
      (.cond (.s 25)
        (.seq (.ops [{ dst := some 4, op := .mov (.c (.bool true)) }])
        (.ret))
        (.skip)))
      (.seq (.ops [{ dst := some 27, op := .mov (.s 0) },
        { dst := some 28, op := .call 12 [(.s 27)] },
        { dst := some 26, op := .mov (.s 28) },
        { dst := some 29, op := .ext (.s 26) 0 },
        { dst := some 30, op := .ext (.s 26) 1 },
        { dst := some 5, op := .mov (.s 29) },
        { dst := some 6, op := .mov (.s 30) }])
      (.seq (.ops [{ dst := some 32, op := .mov (.s 5) },
        { dst := some 33, op := .call 13 [(.s 32)] },
        { dst := some 31, op := .mov (.s 33) },
        { dst := some 34, op := .ext (.s 31) 0 },
        { dst := some 35, op := .ext (.s 31) 1 },
        { dst := some 7, op := .mov (.s 34) },
        { dst := some 8, op := .mov (.s 35) }])
      (.seq (.ops [{ dst := some 37, op := .mov (.s 5) },
        { dst := some 38, op := .mov (.s 1) },
        { dst := some 39, op := .call 14 [(.s 37), (.s 38)] },
        { dst := some 36, op := .mov (.s 39) },
        { dst := some 40, op := .ext (.s 36) 0 },
        { dst := some 41, op := .ext (.s 36) 1 },
        { dst := some 9, op := .box (.c (.agg [(.int .u64 0), (.int .u64 0)])) },
        { dst := none, op := .stor 2 (.s 9) (.s 40) },
        { dst := some 10, op := .mov (.s 41) }])
      (.seq (.ops [{ dst := some 42, op := .mov (.s 6) },
        { dst := some 43, op := .bin .eql (.s 42) (.c (.int .i64 0)) },
        { dst := some 44, op := .mov (.s 43) },
        { dst := some 45, op := .mov (.s 8), guard := some (44, true) },
        { dst := some 46, op := .bin .eql (.s 45) (.c (.int .i64 0)), guard := some (44, true) },
        { dst := some 47, op := .pick (.s 44) (.s 46) (.c (.bool false)) },
        { dst := some 48, op := .mov (.s 47) },
        { dst := some 49, op := .mov (.s 10), guard := some (48, true) },
        { dst := some 50, op := .bin .eql (.s 49) (.c (.int .i64 0)), guard := some (48, true) },
        { dst := some 51, op := .pick (.s 48) (.s 50) (.c (.bool false)) },
        { dst := some 52, op := .mov (.s 51) },
        { dst := some 53, op := .mov (.s 7), guard := some (52, true) },
        { dst := some 54, op := .call 21 [(.s 53)], guard := some (52, true) },
        { dst := some 55, op := .pick (.s 52) (.s 54) (.c (.bool false)) },
        { dst := some 56, op := .mov (.s 55) },
        { dst := some 57, op := .fld 0 (.s 9), guard := some (56, true) },
        { dst := some 58, op := .load 1 false (.s 57), guard := some (56, true) },
        { dst := some 59, op := .bin .lss (.s 58) (.c (.int .u64 1152921504606845399)), guard := some (56, true) },
        { dst := some 60, op := .pick (.s 56) (.s 59) (.c (.bool false)) },
        { dst := some 61, op := .mov (.s 60) },
        { dst := some 62, op := .fld 1 (.s 9), guard := some (61, true) },
        { dst := some 63, op := .load 1 false (.s 62), guard := some (61, true) },
        { dst := some 64, op := .bin .lss (.s 63) (.c (.int .u64 1152921504606845399)), guard := some (61, true) },
        { dst := some 65, op := .pick (.s 61) (.s 64) (.c (.bool false)) },
        { dst := some 66, op := .mov (.s 65) },
        { dst := some 67, op := .mov (.s 7), guard := some (66, true) },
        { dst := some 68, op := .mov (.s 1), guard := some (66, true) },
        { dst := some 69, op := .load 2 true (.s 9), guard := some (66, true) },
        { dst := some 70, op := .call 20 [(.s 67), (.s 68), (.s 69)], guard := some (66, true) },
        { dst := some 71, op := .pick (.s 66) (.s 70) (.c (.bool false)) },
        { dst := some 4, op := .mov (.s 71) }])
      (.ret))))))))
    [.tmp 4]
theorem tr_wagonpoollaw03_SignVerifies : trF Tryd.prog [31, 16, 37] 10 [] = some F_wagonpoollaw03_SignVerifies := by kernel_rfl

/-! wagonpool/wagonpoollaw03.sane -/
def F_wagonpoollaw03_sane : PF :=
  .mk
    (.seq (.ops [{ dst := some 0, op := .mov (.c (.bool false)) }])
      (.seq (.ops [{ dst := some 14, op := .call 13 [(.c (.int .u64 1))] },
        { dst := some 13, op := .mov (.s 14) },
        { dst := some 15, op := .ext (.s 13) 0 },
        { dst := some 16, op := .ext (.s 13) 1 },
        { dst := some 1, op := .mov (.s 15) },
        { dst := some 2, op := .mov (.s 16) }])
      (.seq (.ops [{ dst := some 18, op := .call 13 [(.c (.int .u64 5))] },
        { dst := some 17, op := .mov (.s 18) },
        { dst := some 19, op := .ext (.s 17) 0 },
        { dst := some 20, op := .ext (.s 17) 1 },
        { dst := some 3, op := .mov (.s 19) },
        { dst := some 4, op := .mov (.s 20) }])
      (.seq (.ops [{ dst := some 22, op := .call 13 [(.c (.int .u64 0))] },
        { dst := some 21, op := .mov (.s 22) },
        { dst := some 23, op := .ext (.s 21) 0 },
        { dst := some 24, op := .ext (.s 21) 1 },
        { dst := some 5, op := .mov (.s 23) },
        { dst := some 6, op := .mov (.s 24) }])
      (.seq (.ops [{ dst := some 26, op := .call 13 [(.c (.int .u64 1152921504606845399))] },
        { dst := some 25, op := .mov (.s 26) },
        { dst := some 27, op := .ext (.s 25) 0 },
        { dst := some 28, op := .ext (.s 25) 1 },
        { dst := some 7, op := .mov (.s 27) },
        { dst := some 8, op := .mov (.s 28) }])
      (.seq (.ops [{ dst := some 30, op := .call 12 [(.c (.slc 0 [] true))] },
        { dst := some 29, op := .mov (.s 30) },
        { dst := some 31, op := .ext (.s 29) 0 },
        { dst := some 32, op := .ext (.s 29) 1 },
        { dst := some 9, op := .mov (.s 31) },
        { dst := some 10, op := .mov (.s 32) }])
      (.seq (.ops [{ dst := some 34, op := .mkslc 1 1 (.int .u8 0) (.c (.int .i64 65)) (.c (.int .i64 65)) },
        { dst := some 35, op := .call 12 [(.s 34)] },
        { dst := some 33, op := .mov (.s 35) },
        { dst := some 36, op := .ext (.s 33) 0 },
        { dst := some 37, op := .ext (.s 33) 1 },
        { dst := some 11, op := .mov (.s 36) },
        { dst := some 12, op := .mov (.s 37) }])
      (.seq (.seq (.ops [{ dst := some 38, op := .call 15 [(.c (.int .u64 2)), (.c (.int .u64 10))] },
        { dst := some 39, op := .bin .neq (.s 38) (.c (.int .u64 1024)) },
        { dst := some 40, op := .mov (.s 39) },
        { dst := some 41, op := .call 15 [(.c (.int .u64 3)), (.c (.int .u64 0))], guard := some (40, false) },
        { dst := some 42, op := .bin .neq (.s 41) (.c (.int .u64 1)), guard := some (40, false) },
        { dst := some 43, op := .pick (.s 40) (.c (.bool true)) (.s 42) },
        { dst := some 44, op := .mov (.s 43) },
        { dst := some 45, op := .call 15 [(.c (.int .u64 2305843009213690799)), (.c (.int .u64 5))], guard := some (44, false) },
        { dst := some 46, op := .bin .neq (.s 45) (.c (.int .u64 0)), guard := some (44, false) },
        { dst := some 47, op := .pick (.s 44) (.c (.bool true)) (.s 46) },
        { dst := some 48, op := .mov (.s 47) },
        { dst := some 49, op := .call 15 [(.c (.int .u64 2305843009213690798)), (.c (.int .u64 3))], guard := some (48, false) },
        { dst := some 50, op := .bin .neq (.s 49) (.c (.int .u64 2305843009213690798)), guard := some (48, false) },
        { dst := some 51, op := .pick (.s 48) (.c (.bool true)) (.s 50) },
        { dst := some 52, op := .mov (.s 51) },
        { dst := some 53, op := .call 15 [(.c (.int .u64 4)), (.c (.int .u64 1152921504606845399))], guard := some (52, false) },
        { dst := some 54, op := .bin .neq (.s 53) (.c (.int .u64 1)), guard := some (52, false) },
        { dst := some 55, op := .pick (.s 52) (.c (.bool true)) (.s 54) }])
      (.cond (.s 55)
        (.seq (.ops [{ dst := some 0, op := .mov (.c (.bool false)) }])
        (.ret))
        (.skip)))
      (.seq (.ops [{ dst := some 56, op := .mov (.s 2) },
        { dst := some 57, op := .bin .eql (.s 56) (.c (.int .i64 0)) },
        { dst := some 58, op := .mov (.s 57) },
        { dst := some 59, op := .mov (.s 1), guard := some (58, true) },
        { dst := some 60, op := .bin .eql (.s 59) (.c (.int .u64 4)), guard := some (58, true) },
        { dst := some 61, op := .pick (.s 58) (.s 60) (.c (.bool false)) },
        { dst := some 62, op := .mov (.s 61) },
        { dst := some 63, op := .mov (.s 4), guard := some (62, true) },
        { dst := some 64, op := .bin .eql (.s 63) (.c (.int .i64 0)), guard := some (62, true) },
        { dst := some 65, op := .pick (.s 62) (.s 64) (.c (.bool false)) },
        { dst := some 66, op := .mov (.s 65) },
        { dst := some 67, op := .mov (.s 3), guard := some (66, true) },
        { dst := some 68, op := .bin .eql (.s 67) (.c (.int .u64 1024)), guard := some (66, true) },
        { dst := some 69, op := .pick (.s 66) (.s 68) (.c (.bool false)) },
        { dst := some 70, op := .mov (.s 69) },
        { dst := some 71, op := .mov (.s 6), guard := some (70, true) },
        { dst := some 72, op := .bin .eql (.s 71) (.c (.int .i64 30)), guard := some (70, true) },
        { dst := some 73, op := .pick (.s 70) (.s 72) (.c (.bool false)) },
        { dst := some 74, op := .mov (.s 73) },
        { dst := some 75, op := .mov (.s 8), guard := some (74, true) },
        { dst := some 76, op := .bin .eql (.s 75) (.c (.int .i64 30)), guard := some (74, true) },
        { dst := some 77, op := .pick (.s 74) (.s 76) (.c (.bool false)) },
        { dst := some 78, op := .mov (.s 77) },
        { dst := some 79, op := .mov (.s 10), guard := some (78, true) },
        { dst := some 80, op := .bin .eql (.s 79) (.c (.int .i64 1)), guard := some (78, true) },
        { dst := some 81, op := .pick (.s 78) (.s 80) (.c (.bool false)) },
        { dst := some 82, op := .mov (.s 81) },
        { dst := some 83, op := .mov (.s 12), guard := some (82, true) },
        { dst := some 84, op := .bin .eql (.s 83) (.c (.int .i64 1)), guard := some (82, true) },
        { dst := some 85, op := .pick (.s 82) (.s 84) (.c (.bool false)) },
        { dst := some 86, op := .mov (.s 85) },
        { dst := some 87, op := .call 21 [(.c (.int .u64 4))], guard := some (86, true) },
        { dst := some 88, op := .pick (.s 86) (.s 87) (.c (.bool false)) },
        { dst := some 89, op := .mov (.s 88) },
        { dst := some 90, op := .call 21 [(.c (.int .u64 2305843009213690795))], guard := some (89, true) },
        { dst := some 91, op := .un .not (.s 90), guard := some (89, true) },
        { dst := some 92, op := .pick (.s 89) (.s 91) (.c (.bool false)) },
        { dst := some 93, op := .mov (.s 92) },
        { dst := some 94, op := .call 21 [(.c (.int .u64 1))], guard := some (93, true) },
        { dst := some 95, op := .un .not (.s 94), guard := some (93, true) },
        { dst := some 96, op := .pick (.s 93) (.s 95) (.c (.bool false)) },
        { dst := some 97, op := .mov (.s 96) },
        { dst := some 98, op := .call 21 [(.c (.int .u64 0))], guard := some (97, true) },
        { dst := some 99, op := .un .not (.s 98), guard := some (97, true) },
        { dst := some 100, op := .pick (.s 97) (.s 99) (.c (.bool false)) },
        { dst := some 0, op := .mov (.s 100) }])
      (.ret))))))))))
    [.tmp 0]
theorem tr_wagonpoollaw03_sane : trF Tryd.prog [31, 16, 37] 11 [] = some F_wagonpoollaw03_sane := by kernel_rfl

/-! wagonpool/sign.Secret -/
def F_sign_Secret : PF :=
  .mk
    (.seq (.ops [{ dst := some 2, op := .mov (.c (.int .u64 0)) },
        { dst := some 3, op := .mov (.c (.int .i64 0)) }])
      (.seq (.seq (.ops [{ dst := some 4, op := .mov (.s 0) },
        { dst := some 5, op := .len false (.s 4) },
        { dst := some 6, op := .bin .lss (.s 5) (.c (.int .i64 1)) },
        { dst := some 7, op := .mov (.s 6) },
        { dst := some 8, op := .mov (.s 0), guard := some (7, false) },
        { dst := some 9, op := .len false (.s 8), guard := some (7, false) },
        { dst := some 10, op := .bin .gtr (.s 9) (.c (.int .i64 64)), guard := some (7, false) },
        { dst := some 11, op := .pick (.s 7) (.c (.bool true)) (.s 10) }])
      (.cond (.s 11)
        (.seq (.ops [{ dst := some 2, op := .mov (.c (.int .u64 0)) },
          { dst := some 3, op := .mov (.c (.int .i64 1)) }])
        (.ret))
        (.skip)))
      (.seq (.ops [{ dst := some 12, op := .mov (.s 0) },
        { dst := some 13, op := .call 19 [(.c (.str [115, 101, 99, 114, 101, 116])), (.s 12)] },
        { dst := some 14, op := .call 18 [(.s 13)] },
        { dst := some 15, op := .bin .rem (.s 14) (.c (.int .u64 1152921504606845398)) },
        { dst := some 16, op := .bin .add (.s 15) (.c (.int .u64 1)) },
        { dst := some 2, op := .mov (.s 16) },
        { dst := some 3, op := .mov (.c (.int .i64 0)) }])
      (.ret))))
    [.tmp 2, .tmp 3]
theorem tr_sign_Secret : trF Tryd.prog [31, 16, 37] 12 [] = some F_sign_Secret := by kernel_rfl

/-! wagonpool/sign.Public -/
def F_sign_Public : PF :=
  .mk
    (.seq (.ops [{ dst := some 2, op := .mov (.c (.int .u64 0)) },
        { dst := some 3, op := .mov (.c (.int .i64 0)) }])
      (.seq (.seq (.ops [{ dst := some 4, op := .mov (.s 0) },
        { dst := some 5, op := .bin .lss (.s 4) (.c (.int .u64 1)) },
        { dst := some 6, op := .mov (.s 5) },
        { dst := some 7, op := .mov (.s 0), guard := some (6, false) },
        { dst := some 8, op := .bin .geq (.s 7) (.c (.int .u64 1152921504606845399)), guard := some (6, false) },
        { dst := some 9, op := .pick (.s 6) (.c (.bool true)) (.s 8) }])
      (.cond (.s 9)
        (.seq (.ops [{ dst := some 2, op := .mov (.c (.int .u64 0)) },
          { dst := some 3, op := .mov (.c (.int .i64 30)) }])
        (.ret))
        (.skip)))
      (.seq (.ops [{ dst := some 10, op := .mov (.s 0) },
        { dst := some 11, op := .call 15 [(.c (.int .u64 4)), (.s 10)] },
        { dst := some 2, op := .mov (.s 11) },
        { dst := some 3, op := .mov (.c (.int .i64 0)) }])
      (.ret))))
    [.tmp 2, .tmp 3]
theorem tr_sign_Public : trF Tryd.prog [31, 16, 37] 13 [] = some F_sign_Public := by kernel_rfl

/-! wagonpool/sign.Sign -/
def F_sign_Sign : PF :=
  .mk
    (.seq (.ops [{ dst := some 4, op := .box (.c (.agg [(.int .u64 0), (.int .u64 0)])) },
        { dst := some 5, op := .mov (.c (.int .i64 0)) }])
      (.seq (.ops [{ dst := some 11, op := .mov (.s 0) },
        { dst := some 12, op := .call 13 [(.s 11)] },
        { dst := some 10, op := .mov (.s 12) },
        { dst := some 13, op := .ext (.s 10) 0 },
        { dst := some 14, op := .ext (.s 10) 1 },
        { dst := some 6, op := .mov (.s 13) },
        { dst := some 7, op := .mov (.s 14) }])
      (.seq (.seq (.ops [{ dst := some 15, op := .mov (.s 7) },
        { dst := some 16, op := .bin .neq (.s 15) (.c (.int .i64 0)) }])
      (.cond (.s 16)
        (.seq (.ops [{ dst := some 17, op := .bld [(.int .u64 0), (.int .u64 0)] [] },
          { dst := some 18, op := .mov (.s 7) },
          { dst := none, op := .stor 2 (.s 4) (.s 17) },
          { dst := some 5, op := .mov (.s 18) }])
        (.ret))
        (.skip)))
      (.seq (.seq (.ops [{ dst := some 19, op := .mov (.s 1) },
        { dst := some 20, op := .len false (.s 19) },
        { dst := some 21, op := .bin .gtr (.s 20) (.c (.int .i64 65536)) }])
      (.cond (.s 21)
        (.seq (.ops [{ dst := some 22, op := .bld [(.int .u64 0), (.int .u64 0)] [] },
          { dst := none, op := .stor 2 (.s 4) (.s 22) },
          { dst := some 5, op := .mov (.c (.int .i64 2)) }])
        (.ret))
        (.skip)))
      (.seq (.ops [{ dst := some 23, op := .mov (.s 1) },
        { dst := some 24, op := .mov (.s 0) },
        { dst := some 25, op := .bslc 1 [(.s 24)] },
        { dst := some 26, op := .call 29 [(.s 23), (.s 25)] },
        { dst := some 27, op := .call 19 [(.c (.str [110, 111, 110, 99, 101])), (.s 26)] },
        { dst := some 28, op := .call 18 [(.s 27)] },
        { dst := some 29, op := .bin .rem (.s 28) (.c (.int .u64 1152921504606845398)) },
        { dst := some 30, op := .bin .add (.s 29) (.c (.int .u64 1)) },
        { dst := some 8, op := .mov (.s 30) }])
      (.seq (.ops [{ dst := some 31, op := .mov (.s 8) },
        { dst := some 32, op := .call 15 [(.c (.int .u64 4)), (.s 31)] },
        { dst := some 33, op := .mov (.s 6) },
        { dst := some 34, op := .mov (.s 1) },
        { dst := some 35, op := .call 30 [(.s 32), (.s 33), (.s 34)] },
        { dst := some 9, op := .mov (.s 35) }])
      (.seq (.ops [{ dst := some 36, op := .mov (.s 9) },
        { dst := some 37, op := .mov (.s 8) },
        { dst := some 38, op := .icall 31 [(.c (.int .u64 1152921504606845399))] },
        { dst := some 39, op := .mov (.s 9) },
        { dst := some 40, op := .mov (.s 0) },
        { dst := some 41, op := .callv (.s 38) [(.s 39), (.s 40)] },
        { dst := some 42, op := .bin .add (.s 37) (.s 41) },
        { dst := some 43, op := .bin .rem (.s 42) (.c (.int .u64 1152921504606845399)) },
        { dst := some 44, op := .bld [(.int .u64 0), (.int .u64 0)] [(0, 1, (.s 36)), (1, 1, (.s 43))] },
        { dst := none, op := .stor 2 (.s 4) (.s 44) },
        { dst := some 5, op := .mov (.c (.int .i64 0)) }])
      (.ret))))))))
    [.cell 4 2 true, .tmp 5]
theorem tr_sign_Sign : trF Tryd.prog [31, 16, 37] 14 [] = some F_sign_Sign := by kernel_rfl

/-! wagonpool/sign.Pow -/
def F_sign_Pow_L0 : PC :=
  .seq (.ops [{ dst := some 12, op := .bin .lss (.s 11) (.s 10) }])
    (.seq (.cond (.s 12)
      (.skip)
      (.exit 0))
    (.seq (.block 1 (.seq (.ops [{ dst := some 13, op := .mov (.s 11) },
        { dst := some 7, op := .mov (.s 13) }])
      (.seq (.ops [{ dst := some 14, op := .mov (.s 5) },
        { dst := some 15, op := .mov (.s 6) },
        { dst := some 16, op := .mov (.s 6) },
        { dst := some 17, op := .callv (.s 14) [(.s 15), (.s 16)] },
        { dst := some 6, op := .mov (.s 17) }])
      (.seq (.ops [{ dst := some 18, op := .mov (.s 1) },
        { dst := some 19, op := .mov (.s 1) },
        { dst := some 20, op := .call 32 [(.s 19)] },
        { dst := some 21, op := .bin .sub (.s 20) (.c (.int .i64 1)) },
        { dst := some 22, op := .mov (.s 7) },
        { dst := some 23, op := .bin .sub (.s 21) (.s 22) },
        { dst := some 24, op := .bin .shr (.s 18) (.s 23) },
        { dst := some 25, op := .bin .and (.s 24) (.c (.int .u64 1)) },
        { dst := some 26, op := .bin .eql (.s 25) (.c (.int .u64 1)) }])
      (.cond (.s 26)
        (.ops [{ dst := some 27, op := .mov (.s 5) },
          { dst := some 28, op := .mov (.s 6) },
          { dst := some 29, op := .mov (.s 0) },
          { dst := some 30, op := .callv (.s 27) [(.s 28), (.s 29)] },
          { dst := some 6, op := .mov (.s 30) }])
        (.skip))))))
    (.ops [{ dst := some 31, op := .bin .add (.s 11) (.c (.int .i64 1)) },
      { dst := some 11, op := .mov (.s 31) }])))

def F_sign_Pow : PF :=
  .mk
    (.seq (.ops [{ dst := some 4, op := .mov (.c (.int .u64 0)) }])
      (.seq (.ops [{ dst := some 8, op := .icall 31 [(.c (.int .u64 2305843009213690799))] },
        { dst := some 5, op := .mov (.s 8) }])
      (.seq (.ops [{ dst := some 6, op := .mov (.c (.int .u64 1)) }])
      (.seq (.seq (.ops [{ dst := some 9, op := .mov (.s 1) },
        { dst := some 10, op := .call 32 [(.s 9)] },
        { dst := some 11, op := .mov (.c (.int .i64 0)) }])
      (.block 0 (.loop [0, 1, 5, 6, 10, 11] F_sign_Pow_L0)))
      (.seq (.ops [{ dst := some 32, op := .mov (.s 6) },
        { dst := some 4, op := .mov (.s 32) }])
      (.ret))))))
    [.tmp 4]
theorem tr_sign_Pow : trF Tryd.prog [31, 16, 37] 15 [[0, 1, 5, 6, 10, 11]] = some F_sign_Pow := by kernel_rfl

/-! wagonpool/wagonpoollaw03.packed -/
def F_wagonpoollaw03_packed_L0 : PC :=
  .seq (.seq (.ops [{ dst := some 5, op := .mov (.s 4) },
      { dst := some 6, op := .bin .lss (.s 5) (.c (.int .i64 8)) }])
    (.cond (.s 6)
      (.skip)
      (.exit 0)))
    (.seq (.block 1 (.ops [{ dst := some 9, op := .mov (.s 3) },
        { dst := some 10, op := .mov (.s 0) },
        { dst := some 11, op := .mov (.s 4) },
        { dst := some 12, op := .bin .mul (.c (.int .i64 8)) (.s 11) },
        { dst := some 13, op := .bin .sub (.c (.int .i64 56)) (.s 12) },
        { dst := some 14, op := .bin .shr (.s 10) (.s 13) },
        { dst := some 15, op := .conv (.int .u8) (.s 14) },
        { dst := some 16, op := .bslc 1 [(.s 15)] },
        { dst := some 17, op := .app 1 1 (.s 9) (.s 16) },
        { dst := some 3, op := .mov (.s 17) }]))
    (.ops [{ dst := some 7, op := .mov (.s 4) },
      { dst := some 8, op := .bin .add (.s 7) (.c (.int .i64 1)) },
      { dst := some 4, op := .mov (.s 8) }]))

def F_wagonpoollaw03_packed : PF :=
  .mk
    (.seq (.ops [{ dst := some 2, op := .mov (.c (.slc 0 [] true)) }])
      (.seq (.ops [{ dst := some 3, op := .mov (.c (.slc 0 [] true)) }])
      (.seq (.seq (.ops [{ dst := some 4, op := .mov (.c (.int .i64 0)) }])
      (.block 0 (.loop [0, 3, 4] F_wagonpoollaw03_packed_L0)))
      (.seq (.ops [{ dst := some 18, op := .mov (.s 3) },
        { dst := some 2, op := .mov (.s 18) }])
      (.ret)))))
    [.tmp 2]
theorem tr_wagonpoollaw03_packed : trF Tryd.prog [31, 16, 37] 16 [[0, 3, 4]] = some F_wagonpoollaw03_packed := by kernel_rfl

/-! wagonpool/wagonpoollaw03.times -/
def F_wagonpoollaw03_times : PF :=
  .mk
    (.seq (.ops [{ dst := some 6, op := .mov (.c (.int .u64 0)) }])
      (.seq (.ops [{ dst := some 7, op := .mov (.s 0) },
        { dst := some 8, op := .mov (.s 1) },
        { dst := some 9, op := .mov (.s 2) },
        { dst := some 10, op := .call 33 [(.s 7), (.s 8), (.s 9)] },
        { dst := some 6, op := .mov (.s 10) }])
      (.ret)))
    [.tmp 6]
theorem tr_wagonpoollaw03_times : trF Tryd.prog [31, 16, 37] 17 [] = some F_wagonpoollaw03_times := by kernel_rfl

/-! wagonpool/digest.Number -/
def F_digest_Number_L0 : PC :=
  .seq (.ops [{ dst := some 8, op := .bin .lss (.s 7) (.s 6) }])
    (.seq (.cond (.s 8)
      (.skip)
      (.exit 0))
    (.seq (.block 1 (.seq (.ops [{ dst := some 9, op := .idxS 1 (.s 5) (.s 7) },
        { dst := some 10, op := .load 1 false (.s 9) },
        { dst := some 4, op := .mov (.s 10) }])
      (.ops [{ dst := some 11, op := .mov (.s 2) },
        { dst := some 12, op := .bin .shl (.s 11) (.c (.int .u64 8)) },
        { dst := some 13, op := .mov (.s 4) },
        { dst := some 14, op := .conv (.int .u64) (.s 13) },
        { dst := some 15, op := .bin .or (.s 12) (.s 14) },
        { dst := some 2, op := .mov (.s 15) }])))
    (.ops [{ dst := some 16, op := .bin .add (.s 7) (.c (.int .i64 1)) },
      { dst := some 7, op := .mov (.s 16) }])))

def F_digest_Number : PF :=
  .mk
    (.seq (.ops [{ dst := some 1, op := .box (.s 0) },
        { dst := some 2, op := .mov (.c (.int .u64 0)) }])
      (.seq (.seq (.ops [{ dst := some 5, op := .sliceA 32 1 false (.s 1) none (some (.c (.int .i64 8))) },
        { dst := some 6, op := .len false (.s 5) },
        { dst := some 7, op := .mov (.c (.int .i64 0)) }])
      (.block 0 (.loop [2, 5, 6, 7] F_digest_Number_L0)))
      (.seq (.ops [{ dst := some 17, op := .mov (.s 2) },
        { dst := some 2, op := .mov (.s 17) }])
      (.ret))))
    [.tmp 2]
theorem tr_digest_Number : trF Tryd.prog [31, 16, 37] 18 [[2, 5, 6, 7]] = some F_digest_Number := by kernel_rfl

/-! wagonpool/digest.Tagged -/
def F_digest_Tagged : PF :=
  .mk
    (.seq (.ops [{ dst := some 4, op := .box (.c (.agg [(.int .u8 0), (.int .u8 0), (.int .u8 0), (.int .u8 0), (.int .u8 0), (.int .u8 0), (.int .u8 0), (.int .u8 0), (.int .u8 0), (.int .u8 0), (.int .u8 0), (.int .u8 0), (.int .u8 0), (.int .u8 0), (.int .u8 0), (.int .u8 0), (.int .u8 0), (.int .u8 0), (.int .u8 0), (.int .u8 0), (.int .u8 0), (.int .u8 0), (.int .u8 0), (.int .u8 0), (.int .u8 0), (.int .u8 0), (.int .u8 0), (.int .u8 0), (.int .u8 0), (.int .u8 0), (.int .u8 0), (.int .u8 0)])) }])
      (.seq (.ops [{ dst := some 5, op := .mov (.s 0) },
        { dst := some 6, op := .mov (.s 0) },
        { dst := some 7, op := .len true (.s 6) },
        { dst := some 8, op := .mm false (.s 7) (.c (.int .i64 255)) },
        { dst := some 9, op := .slice 0 (.s 5) none (some (.s 8)) none },
        { dst := some 0, op := .mov (.s 9) }])
      (.seq (.ops [{ dst := some 10, op := .mov (.s 0) },
        { dst := some 11, op := .len true (.s 10) },
        { dst := some 12, op := .conv (.int .u8) (.s 11) },
        { dst := some 13, op := .bslc 1 [(.s 12)] },
        { dst := some 14, op := .mov (.s 0) },
        { dst := some 15, op := .conv .bytes (.s 14) },
        { dst := some 16, op := .mov (.s 1) },
        { dst := some 17, op := .bslc 1 [(.s 13), (.s 15), (.s 16)] },
        { dst := some 18, op := .call 34 [(.s 17)] },
        { dst := none, op := .stor 32 (.s 4) (.s 18) }])
      (.ret))))
    [.cell 4 32 true]
theorem tr_digest_Tagged : trF Tryd.prog [31, 16, 37] 19 [] = some F_digest_Tagged := by kernel_rfl

/-! wagonpool/sign.Valid -/
def F_sign_Valid : PF :=
  .mk
    (.seq (.ops [{ dst := some 2, op := .mov (.c (.bool false)) }])
      (.seq (.ops [{ dst := some 3, op := .mov (.s 0) },
        { dst := some 4, op := .bin .geq (.s 3) (.c (.int .u64 2)) },
        { dst := some 5, op := .mov (.s 4) },
        { dst := some 6, op := .mov (.s 0), guard := some (5, true) },
        { dst := some 7, op := .bin .lss (.s 6) (.c (.int .u64 2305843009213690799)), guard := some (5, true) },
        { dst := some 8, op := .pick (.s 5) (.s 7) (.c (.bool false)) },
        { dst := some 9, op := .mov (.s 8) },
        { dst := some 10, op := .mov (.s 0), guard := some (9, true) },
        { dst := some 11, op := .call 15 [(.s 10), (.c (.int .u64 1152921504606845399))], guard := some (9, true) },
        { dst := some 12, op := .bin .eql (.s 11) (.c (.int .u64 1)), guard := some (9, true) },
        { dst := some 13, op := .pick (.s 9) (.s 12) (.c (.bool false)) },
        { dst := some 2, op := .mov (.s 13) }])
      (.ret)))
    [.tmp 2]
theorem tr_sign_Valid : trF Tryd.prog [31, 16, 37] 21 [] = some F_sign_Valid := by kernel_rfl

/-! wagonpool/wagonpoollaw03.short -/
def F_wagonpoollaw03_short : PF :=
  .mk
    (.seq (.ops [{ dst := some 2, op := .mov (.c (.bool false)) }])
      (.seq (.ops [{ dst := some 3, op := .mov (.s 0) },
        { dst := some 4, op := .len false (.s 3) },
        { dst := some 5, op := .bin .leq (.s 4) (.c (.int .i64 2000)) },
        { dst := some 6, op := .mov (.s 5) },
        { dst := some 7, op := .mov (.s 0), guard := some (6, false) },
        { dst := some 8, op := .len false (.s 7), guard := some (6, false) },
        { dst := some 9, op := .bin .gtr (.s 8) (.c (.int .i64 65536)), guard := some (6, false) },
        { dst := some 10, op := .pick (.s 6) (.c (.bool true)) (.s 9) },
        { dst := some 2, op := .mov (.s 10) }])
      (.ret)))
    [.tmp 2]
theorem tr_wagonpoollaw03_short : trF Tryd.prog [31, 16, 37] 22 [] = some F_wagonpoollaw03_short := by kernel_rfl

/-! wagonpool/wagonpoolref03.Secret -/
def F_wagonpoolref03_Secret : PF :=
  .mk
    (.seq (.ops [{ dst := some 2, op := .mov (.c (.int .u64 0)) },
        { dst := some 3, op := .mov (.c (.int .i64 0)) }])
      (.seq (.seq (.ops [{ dst := some 5, op := .mov (.s 0) },
        { dst := some 6, op := .len false (.s 5) },
        { dst := some 7, op := .bin .lss (.s 6) (.c (.int .i64 1)) },
        { dst := some 8, op := .mov (.s 7) },
        { dst := some 9, op := .mov (.s 0), guard := some (8, false) },
        { dst := some 10, op := .len false (.s 9), guard := some (8, false) },
        { dst := some 11, op := .bin .gtr (.s 10) (.c (.int .i64 64)), guard := some (8, false) },
        { dst := some 12, op := .pick (.s 8) (.c (.bool true)) (.s 11) }])
      (.cond (.s 12)
        (.seq (.ops [{ dst := some 2, op := .mov (.c (.int .u64 0)) },
          { dst := some 3, op := .mov (.c (.int .i64 1)) }])
        (.ret))
        (.skip)))
      (.seq (.ops [{ dst := some 13, op := .mov (.s 0) },
        { dst := some 14, op := .call 36 [(.c (.str [115, 101, 99, 114, 101, 116])), (.s 13)] },
        { dst := some 15, op := .call 35 [(.s 14)] },
        { dst := some 4, op := .mov (.s 15) }])
      (.seq (.ops [{ dst := some 16, op := .mov (.s 4) },
        { dst := some 17, op := .bin .rem (.s 16) (.c (.int .u64 1152921504606845398)) },
        { dst := some 18, op := .bin .add (.s 17) (.c (.int .u64 1)) },
        { dst := some 2, op := .mov (.s 18) },
        { dst := some 3, op := .mov (.c (.int .i64 0)) }])
      (.ret)))))
    [.tmp 2, .tmp 3]
theorem tr_wagonpoolref03_Secret : trF Tryd.prog [31, 16, 37] 23 [] = some F_wagonpoolref03_Secret := by kernel_rfl

/-! wagonpool/wagonpoolref03.Public -/
def F_wagonpoolref03_Public : PF :=
  .mk
    (.seq (.ops [{ dst := some 2, op := .mov (.c (.int .u64 0)) },
        { dst := some 3, op := .mov (.c (.int .i64 0)) }])
      (.seq (.seq (.ops [{ dst := some 4, op := .mov (.s 0) },
        { dst := some 5, op := .bin .lss (.s 4) (.c (.int .u64 1)) },
        { dst := some 6, op := .mov (.s 5) },
        { dst := some 7, op := .mov (.s 0), guard := some (6, false) },
        { dst := some 8, op := .bin .geq (.s 7) (.c (.int .u64 1152921504606845399)), guard := some (6, false) },
        { dst := some 9, op := .pick (.s 6) (.c (.bool true)) (.s 8) }])
      (.cond (.s 9)
        (.seq (.ops [{ dst := some 2, op := .mov (.c (.int .u64 0)) },
          { dst := some 3, op := .mov (.c (.int .i64 30)) }])
        (.ret))
        (.skip)))
      (.seq (.ops [{ dst := some 10, op := .mov (.s 0) },
        { dst := some 11, op := .call 28 [(.c (.int .u64 4)), (.s 10)] },
        { dst := some 2, op := .mov (.s 11) },
        { dst := some 3, op := .mov (.c (.int .i64 0)) }])
      (.ret))))
    [.tmp 2, .tmp 3]
theorem tr_wagonpoolref03_Public : trF Tryd.prog [31, 16, 37] 24 [] = some F_wagonpoolref03_Public := by kernel_rfl

/-! wagonpool/wagonpoolref03.Sign -/
def F_wagonpoolref03_Sign : PF :=
  .mk
    (.seq (.ops [{ dst := some 4, op := .box (.c (.agg [(.int .u64 0), (.int .u64 0)])) },
        { dst := some 5, op := .mov (.c (.int .i64 0)) }])
      (.seq (.ops [{ dst := some 12, op := .mov (.s 0) },
        { dst := some 13, op := .call 24 [(.s 12)] },
        { dst := some 11, op := .mov (.s 13) },
        { dst := some 14, op := .ext (.s 11) 0 },
        { dst := some 15, op := .ext (.s 11) 1 },
        { dst := some 6, op := .mov (.s 14) },
        { dst := some 7, op := .mov (.s 15) }])
      (.seq (.seq (.ops [{ dst := some 16, op := .mov (.s 7) },
        { dst := some 17, op := .bin .neq (.s 16) (.c (.int .i64 0)) }])
      (.cond (.s 17)
        (.seq (.ops [{ dst := some 18, op := .bld [(.int .u64 0), (.int .u64 0)] [] },
          { dst := some 19, op := .mov (.s 7) },
          { dst := none, op := .stor 2 (.s 4) (.s 18) },
          { dst := some 5, op := .mov (.s 19) }])
        (.ret))
        (.skip)))
      (.seq (.seq (.ops [{ dst := some 20, op := .mov (.s 1) },
        { dst := some 21, op := .len false (.s 20) },
        { dst := some 22, op := .bin .gtr (.s 21) (.c (.int .i64 65536)) }])
      (.cond (.s 22)
        (.seq (.ops [{ dst := some 23, op := .bld [(.int .u64 0), (.int .u64 0)] [] },
          { dst := none, op := .stor 2 (.s 4) (.s 23) },
          { dst := some 5, op := .mov (.c (.int .i64 2)) }])
        (.ret))
        (.skip)))
      (.seq (.ops [{ dst := some 24, op := .mov (.s 0) },
        { dst := some 25, op := .icall 37 [(.s 24)] },
        { dst := some 26, op := .mov (.s 1) },
        { dst := some 27, op := .app 1 1 (.s 25) (.s 26) },
        { dst := some 8, op := .mov (.s 27) }])
      (.seq (.ops [{ dst := some 28, op := .mov (.s 8) },
        { dst := some 29, op := .call 36 [(.c (.str [110, 111, 110, 99, 101])), (.s 28)] },
        { dst := some 30, op := .call 35 [(.s 29)] },
        { dst := some 31, op := .bin .rem (.s 30) (.c (.int .u64 1152921504606845398)) },
        { dst := some 32, op := .bin .add (.s 31) (.c (.int .u64 1)) },
        { dst := some 9, op := .mov (.s 32) }])
      (.seq (.ops [{ dst := some 33, op := .mov (.s 9) },
        { dst := some 34, op := .call 28 [(.c (.int .u64 4)), (.s 33)] },
        { dst := some 35, op := .mov (.s 6) },
        { dst := some 36, op := .mov (.s 1) },
        { dst := some 37, op := .call 38 [(.s 34), (.s 35), (.s 36)] },
        { dst := some 10, op := .mov (.s 37) }])
      (.seq (.ops [{ dst := some 38, op := .mov (.s 10) },
        { dst := some 39, op := .mov (.s 9) },
        { dst := some 40, op := .mov (.s 10) },
        { dst := some 41, op := .mov (.s 0) },
        { dst := some 42, op := .call 33 [(.s 40), (.s 41), (.c (.int .u64 1152921504606845399))] },
        { dst := some 43, op := .bin .add (.s 39) (.s 42) },
        { dst := some 44, op := .bin .rem (.s 43) (.c (.int .u64 1152921504606845399)) },
        { dst := some 45, op := .bld [(.int .u64 0), (.int .u64 0)] [(0, 1, (.s 38)), (1, 1, (.s 44))] },
        { dst := none, op := .stor 2 (.s 4) (.s 45) },
        { dst := some 5, op := .mov (.c (.int .i64 0)) }])
      (.ret)))))))))
    [.cell 4 2 true, .tmp 5]
theorem tr_wagonpoolref03_Sign : trF Tryd.prog [31, 16, 37] 25 [] = some F_wagonpoolref03_Sign := by kernel_rfl

/-! wagonpool/wagonpoolref03.Verify -/
def F_wagonpoolref03_Verify : PF :=
  .mk
    (.seq (.ops [{ dst := some 5, op := .box (.s 2) },
        { dst := some 6, op := .mov (.c (.bool false)) }])
      (.seq (.seq (.ops [{ dst := some 8, op := .mov (.s 1) },
        { dst := some 9, op := .len false (.s 8) },
        { dst := some 10, op := .bin .gtr (.s 9) (.c (.int .i64 65536)) },
        { dst := some 11, op := .mov (.s 10) },
        { dst := some 12, op := .fld 0 (.s 5), guard := some (11, false) },
        { dst := some 13, op := .load 1 false (.s 12), guard := some (11, false) },
        { dst := some 14, op := .bin .geq (.s 13) (.c (.int .u64 1152921504606845399)), guard := some (11, false) },
        { dst := some 15, op := .pick (.s 11) (.c (.bool true)) (.s 14) },
        { dst := some 16, op := .mov (.s 15) },
        { dst := some 17, op := .fld 1 (.s 5), guard := some (16, false) },
        { dst := some 18, op := .load 1 false (.s 17), guard := some (16, false) },
        { dst := some 19, op := .bin .geq (.s 18) (.c (.int .u64 1152921504606845399)), guard := some (16, false) },
        { dst := some 20, op := .pick (.s 16) (.c (.bool true)) (.s 19) },
        { dst := some 21, op := .mov (.s 20) },
        { dst := some 22, op := .mov (.s 0), guard := some (21, false) },
        { dst := some 23, op := .call 27 [(.s 22)], guard := some (21, false) },
        { dst := some 24, op := .un .not (.s 23), guard := some (21, false) },
        { dst := some 25, op := .pick (.s 21) (.c (.bool true)) (.s 24) }])
      (.cond (.s 25)
        (.seq (.ops [{ dst := some 6, op := .mov (.c (.bool false)) }])
        (.ret))
        (.skip)))
      (.seq (.ops [{ dst := some 26, op := .fld 1 (.s 5) },
        { dst := some 27, op := .load 1 false (.s 26) },
        { dst := some 28, op := .call 28 [(.c (.int .u64 4)), (.s 27)] },
        { dst := some 29, op := .mov (.s 0) },
        { dst := some 30, op := .fld 0 (.s 5) },
        { dst := some 31, op := .load 1 false (.s 30) },
        { dst := some 32, op := .bin .sub (.c (.int .u64 1152921504606845399)) (.s 31) },
        { dst := some 33, op := .call 28 [(.s 29), (.s 32)] },
        { dst := some 34, op := .call 33 [(.s 28), (.s 33), (.c (.int .u64 2305843009213690799))] },
        { dst := some 7, op := .mov (.s 34) }])
      (.seq (.ops [{ dst := some 35, op := .mov (.s 7) },
        { dst := some 36, op := .mov (.s 0) },
        { dst := some 37, op := .mov (.s 1) },
        { dst := some 38, op := .call 38 [(.s 35), (.s 36), (.s 37)] },
        { dst := some 39, op := .fld 0 (.s 5) },
        { dst := some 40, op := .load 1 false (.s 39) },
        { dst := some 41, op := .bin .eql (.s 38) (.s 40) },
        { dst := some 6, op := .mov (.s 41) }])
      (.ret)))))
    [.tmp 6]
theorem tr_wagonpoolref03_Verify : trF Tryd.prog [31, 16, 37] 26 [] = some F_wagonpoolref03_Verify := by kernel_rfl

/-! wagonpool/wagonpoolref03.Valid -/
def F_wagonpoolref03_Valid : PF :=
  .mk
    (.seq (.ops [{ dst := some 2, op := .mov (.c (.bool false)) }])
      (.seq (.ops [{ dst := some 3, op := .mov (.s 0) },
        { dst := some 4, op := .bin .geq (.s 3) (.c (.int .u64 2)) },
        { dst := some 5, op := .mov (.s 4) },
        { dst := some 6, op := .mov (.s 0), guard := some (5, true) },
        { dst := some 7, op := .bin .lss (.s 6) (.c (.int .u64 2305843009213690799)), guard := some (5, true) },
        { dst := some 8, op := .pick (.s 5) (.s 7) (.c (.bool false)) },
        { dst := some 9, op := .mov (.s 8) },
        { dst := some 10, op := .mov (.s 0), guard := some (9, true) },
        { dst := some 11, op := .call 28 [(.s 10), (.c (.int .u64 1152921504606845399))], guard := some (9, true) },
        { dst := some 12, op := .bin .eql (.s 11) (.c (.int .u64 1)), guard := some (9, true) },
        { dst := some 13, op := .pick (.s 9) (.s 12) (.c (.bool false)) },
        { dst := some 2, op := .mov (.s 13) }])
      (.ret)))
    [.tmp 2]
theorem tr_wagonpoolref03_Valid : trF Tryd.prog [31, 16, 37] 27 [] = some F_wagonpoolref03_Valid := by kernel_rfl

/-! wagonpool/wagonpoolref03.Pow -/
def F_wagonpoolref03_Pow_L0 : PC :=
  .seq (.seq (.ops [{ dst := some 8, op := .mov (.s 1) },
      { dst := some 9, op := .bin .gtr (.s 8) (.c (.int .u64 0)) }])
    (.cond (.s 9)
      (.skip)
      (.exit 0)))
    (.seq (.block 1 (.seq (.seq (.ops [{ dst := some 12, op := .mov (.s 1) },
        { dst := some 13, op := .bin .rem (.s 12) (.c (.int .u64 2)) },
        { dst := some 14, op := .bin .eql (.s 13) (.c (.int .u64 1)) }])
      (.cond (.s 14)
        (.ops [{ dst := some 15, op := .mov (.s 5) },
          { dst := some 16, op := .mov (.s 0) },
          { dst := some 17, op := .call 33 [(.s 15), (.s 16), (.c (.int .u64 2305843009213690799))] },
          { dst := some 5, op := .mov (.s 17) }])
        (.skip)))
      (.ops [{ dst := some 18, op := .mov (.s 0) },
        { dst := some 19, op := .mov (.s 0) },
        { dst := some 20, op := .call 33 [(.s 18), (.s 19), (.c (.int .u64 2305843009213690799))] },
        { dst := some 0, op := .mov (.s 20) }])))
    (.ops [{ dst := some 10, op := .mov (.s 1) },
      { dst := some 11, op := .bin .quo (.s 10) (.c (.int .u64 2)) },
      { dst := some 1, op := .mov (.s 11) }]))

def F_wagonpoolref03_Pow : PF :=
  .mk
    (.seq (.ops [{ dst := some 4, op := .mov (.c (.int .u64 0)) }])
      (.seq (.ops [{ dst := some 5, op := .mov (.c (.int .u64 1)) }])
      (.seq (.seq (.ops [{ dst := some 6, op := .mov (.s 0) },
        { dst := some 7, op := .bin .rem (.s 6) (.c (.int .u64 2305843009213690799)) },
        { dst := some 0, op := .mov (.s 7) }])
      (.block 0 (.loop [0, 1, 5] F_wagonpoolref03_Pow_L0)))
      (.seq (.ops [{ dst := some 21, op := .mov (.s 5) },
        { dst := some 4, op := .mov (.s 21) }])
      (.ret)))))
    [.tmp 4]
theorem tr_wagonpoolref03_Pow : trF Tryd.prog [31, 16, 37] 28 [[0, 1, 5]] = some F_wagonpoolref03_Pow := by kernel_rfl

/-! wagonpool/sign.joined -/
def F_sign_joined_L0 : PC :=
  .seq (.ops [{ dst := some 23, op := .bin .lss (.s 22) (.c (.int .i64 8)) }])
    (.seq (.cond (.s 23)
      (.skip)
      (.exit 2))
    (.seq (.block 3 (.seq (.ops [{ dst := some 24, op := .mov (.s 22) },
        { dst := some 8, op := .mov (.s 24) }])
      (.ops [{ dst := some 25, op := .mov (.s 5) },
        { dst := some 26, op := .mov (.s 7) },
        { dst := some 27, op := .mov (.s 8) },
        { dst := some 28, op := .bin .mul (.c (.int .i64 8)) (.s 27) },
        { dst := some 29, op := .bin .sub (.c (.int .i64 56)) (.s 28) },
        { dst := some 30, op := .bin .shr (.s 26) (.s 29) },
        { dst := some 31, op := .conv (.int .u8) (.s 30) },
        { dst := some 32, op := .bslc 1 [(.s 31)] },
        { dst := some 33, op := .app 1 1 (.s 25) (.s 32) },
        { dst := some 5, op := .mov (.s 33) }])))
    (.ops [{ dst := some 34, op := .bin .add (.s 22) (.c (.int .i64 1)) },
      { dst := some 22, op := .mov (.s 34) }])))

def F_sign_joined_L1 : PC :=
  .seq (.ops [{ dst := some 19, op := .bin .lss (.s 18) (.s 17) }])
    (.seq (.cond (.s 19)
      (.skip)
      (.exit 0))
    (.seq (.block 1 (.seq (.ops [{ dst := some 20, op := .idxS 1 (.s 16) (.s 18) },
        { dst := some 21, op := .load 1 false (.s 20) },
        { dst := some 7, op := .mov (.s 21) }])
      (.seq (.ops [{ dst := some 22, op := .mov (.c (.int .i64 0)) }])
      (.block 2 (.loop [0, 5, 7, 16, 17, 18, 22] F_sign_joined_L0)))))
    (.ops [{ dst := some 35, op := .bin .add (.s 18) (.c (.int .i64 1)) },
      { dst := some 18, op := .mov (.s 35) }])))

def F_sign_joined : PF :=
  .mk
    (.seq (.ops [{ dst := some 4, op := .mov (.c (.slc 0 [] true)) }])
      (.seq (.ops [{ dst := some 9, op := .mov (.s 1) },
        { dst := some 10, op := .len false (.s 9) },
        { dst := some 11, op := .bin .mul (.c (.int .i64 8)) (.s 10) },
        { dst := some 12, op := .mov (.s 0) },
        { dst := some 13, op := .len false (.s 12) },
        { dst := some 14, op := .bin .add (.s 11) (.s 13) },
        { dst := some 15, op := .mkslc 1 1 (.int .u8 0) (.c (.int .i64 0)) (.s 14) },
        { dst := some 5, op := .mov (.s 15) }])
      (.seq (.seq (.ops [{ dst := some 16, op := .mov (.s 1) },
        { dst := some 17, op := .len false (.s 16) },
        { dst := some 18, op := .mov (.c (.int .i64 0)) }])
      (.block 0 (.loop [0, 5, 16, 17, 18] F_sign_joined_L1)))
      (.seq (.ops [{ dst := some 36, op := .mov (.s 5) },
        { dst := some 37, op := .mov (.s 0) },
        { dst := some 38, op := .app 1 1 (.s 36) (.s 37) },
        { dst := some 4, op := .mov (.s 38) }])
      (.ret)))))
    [.tmp 4]
theorem tr_sign_joined : trF Tryd.prog [31, 16, 37] 29 [[0, 5, 16, 17, 18], [0, 5, 7, 16, 17, 18, 22]] = some F_sign_joined := by kernel_rfl

/-! wagonpool/sign.challenge -/
def F_sign_challenge : PF :=
  .mk
    (.seq (.ops [{ dst := some 6, op := .mov (.c (.int .u64 0)) }])
      (.seq (.ops [{ dst := some 7, op := .mov (.s 2) },
        { dst := some 8, op := .mov (.s 0) },
        { dst := some 9, op := .mov (.s 1) },
        { dst := some 10, op := .bslc 1 [(.s 8), (.s 9)] },
        { dst := some 11, op := .call 29 [(.s 7), (.s 10)] },
        { dst := some 12, op := .call 19 [(.c (.str [99, 104, 97, 108, 108, 101, 110, 103, 101])), (.s 11)] },
        { dst := some 13, op := .call 18 [(.s 12)] },
        { dst := some 14, op := .bin .rem (.s 13) (.c (.int .u64 1152921504606845399)) },
        { dst := some 6, op := .mov (.s 14) }])
      (.ret)))
    [.tmp 6]
theorem tr_sign_challenge : trF Tryd.prog [31, 16, 37] 30 [] = some F_sign_challenge := by kernel_rfl

/-! wagonpool/sign.modulo -/
def F_sign_modulo : PF :=
  .mk
    (.seq (.ops [{ dst := some 1, op := .box (.s 0) },
        { dst := some 2, op := .mov (.c .nilf) }])
      (.seq (.ops [{ dst := some 3, op := .mkclo 39 [(.s 1)] },
        { dst := some 2, op := .mov (.s 3) }])
      (.ret)))
    [.tmp 2]
theorem tr_sign_modulo : trF Tryd.prog [31, 16, 37] 31 [] = some F_sign_modulo := by kernel_rfl

/-! math/bits.Len64 -/
def F_math_bits_Len64 : PF :=
  .mk
    (.seq (.ops [{ dst := some 2, op := .mov (.c (.int .i64 0)) }])
      (.seq (.seq (.ops [{ dst := some 3, op := .mov (.s 0) },
        { dst := some 4, op := .bin .geq (.s 3) (.c (.int .u64 4294967296)) }])
      (.cond (.s 4)
        (.seq (.ops [{ dst := some 5, op := .mov (.s 0) },
          { dst := some 6, op := .bin .shr (.s 5) (.c (.int .u64 32)) },
          { dst := some 0, op := .mov (.s 6) }])
        (.ops [{ dst := some 2, op := .mov (.c (.int .i64 32)) }]))
        (.skip)))
      (.seq (.seq (.ops [{ dst := some 7, op := .mov (.s 0) },
        { dst := some 8, op := .bin .geq (.s 7) (.c (.int .u64 65536)) }])
      (.cond (.s 8)
        (.seq (.ops [{ dst := some 9, op := .mov (.s 0) },
          { dst := some 10, op := .bin .shr (.s 9) (.c (.int .u64 16)) },
          { dst := some 0, op := .mov (.s 10) }])
        (.ops [{ dst := some 11, op := .mov (.s 2) },
          { dst := some 12, op := .bin .add (.s 11) (.c (.int .i64 16)) },
          { dst := some 2, op := .mov (.s 12) }]))
        (.skip)))
      (.seq (.seq (.ops [{ dst := some 13, op := .mov (.s 0) },
        { dst := some 14, op := .bin .geq (.s 13) (.c (.int .u64 256)) }])
      (.cond (.s 14)
        (.seq (.ops [{ dst := some 15, op := .mov (.s 0) },
          { dst := some 16, op := .bin .shr (.s 15) (.c (.int .u64 8)) },
          { dst := some 0, op := .mov (.s 16) }])
        (.ops [{ dst := some 17, op := .mov (.s 2) },
          { dst := some 18, op := .bin .add (.s 17) (.c (.int .i64 8)) },
          { dst := some 2, op := .mov (.s 18) }]))
        (.skip)))
      (.seq (.ops [{ dst := some 19, op := .mov (.s 2) },
        { dst := some 20, op := .mov (.s 0) },
        { dst := some 21, op := .conv (.int .u8) (.s 20) },
        { dst := some 22, op := .idx (.c (.str [0, 1, 2, 2, 3, 3, 3, 3, 4, 4, 4, 4, 4, 4, 4, 4, 5, 5, 5, 5, 5, 5, 5, 5, 5, 5, 5, 5, 5, 5, 5, 5, 6, 6, 6, 6, 6, 6, 6, 6, 6, 6, 6, 6, 6, 6, 6, 6, 6, 6, 6, 6, 6, 6, 6, 6, 6, 6, 6, 6, 6, 6, 6, 6, 7, 7, 7, 7, 7, 7, 7, 7, 7, 7, 7, 7, 7, 7, 7, 7, 7, 7, 7, 7, 7, 7, 7, 7, 7, 7, 7, 7, 7, 7, 7, 7, 7, 7, 7, 7, 7, 7, 7, 7, 7, 7, 7, 7, 7, 7, 7, 7, 7, 7, 7, 7, 7, 7, 7, 7, 7, 7, 7, 7, 7, 7, 7, 7, 8, 8, 8, 8, 8, 8, 8, 8, 8, 8, 8, 8, 8, 8, 8, 8, 8, 8, 8, 8, 8, 8, 8, 8, 8, 8, 8, 8, 8, 8, 8, 8, 8, 8, 8, 8, 8, 8, 8, 8, 8, 8, 8, 8, 8, 8, 8, 8, 8, 8, 8, 8, 8, 8, 8, 8, 8, 8, 8, 8, 8, 8, 8, 8, 8, 8, 8, 8, 8, 8, 8, 8, 8, 8, 8, 8, 8, 8, 8, 8, 8, 8, 8, 8, 8, 8, 8, 8, 8, 8, 8, 8, 8, 8, 8, 8, 8, 8, 8, 8, 8, 8, 8, 8, 8, 8, 8, 8, 8, 8, 8, 8, 8, 8, 8, 8, 8, 8, 8, 8, 8, 8, 8, 8, 8, 8, 8, 8])) (.s 21) },
        { dst := some 23, op := .conv (.int .i64) (.s 22) },
        { dst := some 24, op := .bin .add (.s 19) (.s 23) },
        { dst := some 2, op := .mov (.s 24) }])
      (.ret))))))
    [.tmp 2]
theorem tr_math_bits_Len64 : trF Tryd.prog [31, 16, 37] 32 [] = some F_math_bits_Len64 := by kernel_rfl

/-! wagonpool/wagonpoolref03.Times -/
def F_wagonpoolref03_Times_L0 : PC :=
  .seq (.seq (.ops [{ dst := some 8, op := .mov (.s 1) },
      { dst := some 9, op := .bin .gtr (.s 8) (.c (.int .u64 0)) }])
    (.cond (.s 9)
      (.skip)
      (.exit 0)))
    (.seq (.block 1 (.seq (.seq (.ops [{ dst := some 12, op := .mov (.s 1) },
        { dst := some 13, op := .bin .rem (.s 12) (.c (.int .u64 2)) },
        { dst := some 14, op := .bin .eql (.s 13) (.c (.int .u64 1)) }])
      (.cond (.s 14)
        (.ops [{ dst := some 15, op := .mov (.s 7) },
          { dst := some 16, op := .mov (.s 0) },
          { dst := some 17, op := .bin .add (.s 15) (.s 16) },
          { dst := some 18, op := .mov (.s 2) },
          { dst := some 19, op := .bin .rem (.s 17) (.s 18) },
          { dst := some 7, op := .mov (.s 19) }])
        (.skip)))
      (.ops [{ dst := some 20, op := .mov (.s 0) },
        { dst := some 21, op := .mov (.s 0) },
        { dst := some 22, op := .bin .add (.s 20) (.s 21) },
        { dst := some 23, op := .mov (.s 2) },
        { dst := some 24, op := .bin .rem (.s 22) (.s 23) },
        { dst := some 0, op := .mov (.s 24) }])))
    (.ops [{ dst := some 10, op := .mov (.s 1) },
      { dst := some 11, op := .bin .quo (.s 10) (.c (.int .u64 2)) },
      { dst := some 1, op := .mov (.s 11) }]))

def F_wagonpoolref03_Times : PF :=
  .mk
    (.seq (.ops [{ dst := some 6, op := .mov (.c (.int .u64 0)) }])
      (.seq (.ops [{ dst := some 7, op := .mov (.c (.int .u64 0)) }])
      (.seq (.block 0 (.loop [0, 1, 2, 7] F_wagonpoolref03_Times_L0))
      (.seq (.ops [{ dst := some 25, op := .mov (.s 7) },
        { dst := some 6, op := .mov (.s 25) }])
      (.ret)))))
    [.tmp 6]
theorem tr_wagonpoolref03_Times : trF Tryd.prog [31, 16, 37] 33 [[0, 1, 2, 7]] = some F_wagonpoolref03_Times := by kernel_rfl

/-! wagonpool/digest.sum -/
def F_digest_sum_L0 : PC :=
  .seq (.ops [{ dst := some 13, op := .bin .lss (.s 12) (.s 11) }])
    (.seq (.cond (.s 13)
      (.skip)
      (.exit 0))
    (.seq (.block 1 (.seq (.ops [{ dst := some 14, op := .idxS 1 (.s 10) (.s 12) },
        { dst := some 15, op := .load 1 false (.s 14) },
        { dst := some 5, op := .mov (.s 15) }])
      (.ops [{ dst := some 16, op := .mov (.s 3) },
        { dst := some 17, op := .mov (.s 5) },
        { dst := some 18, op := .app 1 1 (.s 16) (.s 17) },
        { dst := some 3, op := .mov (.s 18) }])))
    (.ops [{ dst := some 19, op := .bin .add (.s 12) (.c (.int .i64 1)) },
      { dst := some 12, op := .mov (.s 19) }])))

def F_digest_sum_L1 : PC :=
  .seq (.seq (.ops [{ dst := some 27, op := .mov (.s 3) },
      { dst := some 28, op := .len false (.s 27) },
      { dst := some 29, op := .bin .rem (.s 28) (.c (.int .i64 64)) },
      { dst := some 30, op := .bin .neq (.s 29) (.c (.int .i64 56)) }])
    (.cond (.s 30)
      (.skip)
      (.exit 2)))
    (.block 3 (.ops [{ dst := some 31, op := .mov (.s 3) },
        { dst := some 32, op := .bslc 1 [(.c (.int .u8 0))] },
        { dst := some 33, op := .app 1 1 (.s 31) (.s 32) },
        { dst := some 3, op := .mov (.s 33) }]))

def F_digest_sum_L2 : PC :=
  .seq (.seq (.ops [{ dst := some 34, op := .mov (.s 7) },
      { dst := some 35, op := .bin .geq (.s 34) (.c (.int .i64 0)) }])
    (.cond (.s 35)
      (.skip)
      (.exit 4)))
    (.seq (.block 5 (.ops [{ dst := some 38, op := .mov (.s 3) },
        { dst := some 39, op := .mov (.s 6) },
        { dst := some 40, op := .mov (.s 7) },
        { dst := some 41, op := .bin .shr (.s 39) (.s 40) },
        { dst := some 42, op := .conv (.int .u8) (.s 41) },
        { dst := some 43, op := .bslc 1 [(.s 42)] },
        { dst := some 44, op := .app 1 1 (.s 38) (.s 43) },
        { dst := some 3, op := .mov (.s 44) }]))
    (.ops [{ dst := some 36, op := .mov (.s 7) },
      { dst := some 37, op := .bin .sub (.s 36) (.c (.int .i64 8)) },
      { dst := some 7, op := .mov (.s 37) }]))

def F_digest_sum_L3 : PC :=
  .seq (.seq (.ops [{ dst := some 46, op := .mov (.s 3) },
      { dst := some 47, op := .len false (.s 46) },
      { dst := some 48, op := .bin .gtr (.s 47) (.c (.int .i64 0)) }])
    (.cond (.s 48)
      (.skip)
      (.exit 6)))
    (.seq (.block 7 (.ops [{ dst := some 51, op := .load 8 true (.s 8) },
        { dst := some 52, op := .mov (.s 3) },
        { dst := some 53, op := .slice 1 (.s 52) none (some (.c (.int .i64 64))) none },
        { dst := some 54, op := .call 42 [(.s 51), (.s 53)] },
        { dst := none, op := .stor 8 (.s 8) (.s 54) }]))
    (.ops [{ dst := some 49, op := .mov (.s 3) },
      { dst := some 50, op := .slice 1 (.s 49) (some (.c (.int .i64 64))) none none },
      { dst := some 3, op := .mov (.s 50) }]))

def F_digest_sum_L4 : PC :=
  .seq (.ops [{ dst := some 56, op := .bin .lss (.s 55) (.c (.int .i64 32)) }])
    (.seq (.cond (.s 56)
      (.skip)
      (.exit 8))
    (.seq (.block 9 (.seq (.ops [{ dst := some 57, op := .mov (.s 55) },
        { dst := some 9, op := .mov (.s 57) }])
      (.ops [{ dst := some 58, op := .mov (.s 9) },
        { dst := some 59, op := .mov (.s 9) },
        { dst := some 60, op := .bin .quo (.s 59) (.c (.int .i64 4)) },
        { dst := some 61, op := .idxA 8 1 (.s 8) (.s 60) },
        { dst := some 62, op := .load 1 false (.s 61) },
        { dst := some 63, op := .mov (.s 9) },
        { dst := some 64, op := .bin .rem (.s 63) (.c (.int .i64 4)) },
        { dst := some 65, op := .bin .mul (.c (.int .i64 8)) (.s 64) },
        { dst := some 66, op := .bin .sub (.c (.int .i64 24)) (.s 65) },
        { dst := some 67, op := .bin .shr (.s 62) (.s 66) },
        { dst := some 68, op := .conv (.int .u8) (.s 67) },
        { dst := some 69, op := .idxA 32 1 (.s 2) (.s 58) },
        { dst := none, op := .stor 1 (.s 69) (.s 68) }])))
    (.ops [{ dst := some 70, op := .bin .add (.s 55) (.c (.int .i64 1)) },
      { dst := some 55, op := .mov (.s 70) }])))

def F_digest_sum : PF :=
  .mk
    (.seq (.ops [{ dst := some 2, op := .box (.c (.agg [(.int .u8 0), (.int .u8 0), (.int .u8 0), (.int .u8 0), (.int .u8 0), (.int .u8 0), (.int .u8 0), (.int .u8 0), (.int .u8 0), (.int .u8 0), (.int .u8 0), (.int .u8 0), (.int .u8 0), (.int .u8 0), (.int .u8 0), (.int .u8 0), (.int .u8 0), (.int .u8 0), (.int .u8 0), (.int .u8 0), (.int .u8 0), (.int .u8 0), (.int .u8 0), (.int .u8 0), (.int .u8 0), (.int .u8 0), (.int .u8 0), (.int .u8 0), (.int .u8 0), (.int .u8 0), (.int .u8 0), (.int .u8 0)])) }])
      (.seq (.ops [{ dst := some 3, op := .mov (.c (.slc 0 [] true)) }])
      (.seq (.seq (.ops [{ dst := some 10, op := .mov (.s 0) },
        { dst := some 11, op := .len false (.s 10) },
        { dst := some 12, op := .mov (.c (.int .i64 0)) }])
      (.block 0 (.loop [2, 3, 10, 11, 12] F_digest_sum_L0)))
      (.seq (.ops [{ dst := some 20, op := .mov (.s 3) },
        { dst := some 21, op := .len false (.s 20) },
        { dst := some 22, op := .conv (.int .u64) (.s 21) },
        { dst := some 23, op := .bin .mul (.s 22) (.c (.int .u64 8)) },
        { dst := some 6, op := .mov (.s 23) }])
      (.seq (.ops [{ dst := some 24, op := .mov (.s 3) },
        { dst := some 25, op := .bslc 1 [(.c (.int .u8 128))] },
        { dst := some 26, op := .app 1 1 (.s 24) (.s 25) },
        { dst := some 3, op := .mov (.s 26) }])
      (.seq (.block 2 (.loop [2, 3, 6] F_digest_sum_L1))
      (.seq (.seq (.ops [{ dst := some 7, op := .mov (.c (.int .i64 56)) }])
      (.block 4 (.loop [2, 3, 6, 7] F_digest_sum_L2)))
      (.seq (.ops [{ dst := some 45, op := .bld [(.int .u32 0), (.int .u32 0), (.int .u32 0), (.int .u32 0), (.int .u32 0), (.int .u32 0), (.int .u32 0), (.int .u32 0)] [(0, 1, (.c (.int .u32 1779033703))), (1, 1, (.c (.int .u32 3144134277))), (2, 1, (.c (.int .u32 1013904242))), (3, 1, (.c (.int .u32 2773480762))), (4, 1, (.c (.int .u32 1359893119))), (5, 1, (.c (.int .u32 2600822924))), (6, 1, (.c (.int .u32 528734635))), (7, 1, (.c (.int .u32 1541459225)))] },
        { dst := some 8, op := .box (.c (.agg [(.int .u32 0), (.int .u32 0), (.int .u32 0), (.int .u32 0), (.int .u32 0), (.int .u32 0), (.int .u32 0), (.int .u32 0)])) },
        { dst := none, op := .stor 8 (.s 8) (.s 45) }])
      (.seq (.block 6 (.loop [2, 3, 8] F_digest_sum_L3))
      (.seq (.seq (.ops [{ dst := some 55, op := .mov (.c (.int .i64 0)) }])
      (.block 8 (.loop [2, 8, 55] F_digest_sum_L4)))
      (.seq (.ops [{ dst := some 71, op := .load 32 true (.s 2) },
        { dst := none, op := .stor 32 (.s 2) (.s 71) }])
      (.ret))))))))))))
    [.cell 2 32 true]
theorem tr_digest_sum : trF Tryd.prog [31, 16, 37] 34 [[2, 3, 10, 11, 12], [2, 3, 6], [2, 3, 6, 7], [2, 3, 8], [2, 8, 55]] = some F_digest_sum := by kernel_rfl

/-! wagonpool/wagonpoolref02.Number -/
def F_wagonpoolref02_Number_L0 : PC :=
  .seq (.seq (.ops [{ dst := some 5, op := .mov (.s 4) },
      { dst := some 6, op := .bin .lss (.s 5) (.c (.int .i64 8)) }])
    (.cond (.s 6)
      (.skip)
      (.exit 0)))
    (.seq (.block 1 (.ops [{ dst := some 9, op := .mov (.s 3) },
        { dst := some 10, op := .bin .shl (.s 9) (.c (.int .u64 8)) },
        { dst := some 11, op := .mov (.s 4) },
        { dst := some 12, op := .idxA 32 1 (.s 1) (.s 11) },
        { dst := some 13, op := .load 1 false (.s 12) },
        { dst := some 14, op := .conv (.int .u64) (.s 13) },
        { dst := some 15, op := .bin .or (.s 10) (.s 14) },
        { dst := some 3, op := .mov (.s 15) }]))
    (.ops [{ dst := some 7, op := .mov (.s 4) },
      { dst := some 8, op := .bin .add (.s 7) (.c (.int .i64 1)) },
      { dst := some 4, op := .mov (.s 8) }]))

def F_wagonpoolref02_Number : PF :=
  .mk
    (.seq (.ops [{ dst := some 1, op := .box (.s 0) },
        { dst := some 2, op := .mov (.c (.int .u64 0)) }])
      (.seq (.ops [{ dst := some 3, op := .mov (.c (.int .u64 0)) }])
      (.seq (.seq (.ops [{ dst := some 4, op := .mov (.c (.int .i64 0)) }])
      (.block 0 (.loop [1, 3, 4] F_wagonpoolref02_Number_L0)))
      (.seq (.ops [{ dst := some 16, op := .mov (.s 3) },
        { dst := some 2, op := .mov (.s 16) }])
      (.ret)))))
    [.tmp 2]
theorem tr_wagonpoolref02_Number : trF Tryd.prog [31, 16, 37] 35 [[1, 3, 4]] = some F_wagonpoolref02_Number := by kernel_rfl

/-! wagonpool/wagonpoolref02.Tagged -/
def F_wagonpoolref02_Tagged : PF :=
  .mk
    (.seq (.ops [{ dst := some 4, op := .box (.c (.agg [(.int .u8 0), (.int .u8 0), (.int .u8 0), (.int .u8 0), (.int .u8 0), (.int .u8 0), (.int .u8 0), (.int .u8 0), (.int .u8 0), (.int .u8 0), (.int .u8 0), (.int .u8 0), (.int .u8 0), (.int .u8 0), (.int .u8 0), (.int .u8 0), (.int .u8 0), (.int .u8 0), (.int .u8 0), (.int .u8 0), (.int .u8 0), (.int .u8 0), (.int .u8 0), (.int .u8 0), (.int .u8 0), (.int .u8 0), (.int .u8 0), (.int .u8 0), (.int .u8 0), (.int .u8 0), (.int .u8 0), (.int .u8 0)])) }])
      (.seq (.ops [{ dst := some 5, op := .mov (.s 0) },
        { dst := some 6, op := .mov (.s 1) },
        { dst := some 7, op := .call 44 [(.s 5), (.s 6)] },
        { dst := some 8, op := .call 43 [(.s 7)] },
        { dst := none, op := .stor 32 (.s 4) (.s 8) }])
      (.ret)))
    [.cell 4 32 true]
theorem tr_wagonpoolref02_Tagged : trF Tryd.prog [31, 16, 37] 36 [] = some F_wagonpoolref02_Tagged := by kernel_rfl

/-! wagonpool/wagonpoolref03.Bytes -/
def F_wagonpoolref03_Bytes_L0 : PC :=
  .seq (.seq (.ops [{ dst := some 5, op := .mov (.s 4) },
      { dst := some 6, op := .bin .geq (.s 5) (.c (.int .i64 0)) }])
    (.cond (.s 6)
      (.skip)
      (.exit 0)))
    (.seq (.block 1 (.ops [{ dst := some 9, op := .mov (.s 3) },
        { dst := some 10, op := .mov (.s 0) },
        { dst := some 11, op := .mov (.s 4) },
        { dst := some 12, op := .bin .shr (.s 10) (.s 11) },
        { dst := some 13, op := .conv (.int .u8) (.s 12) },
        { dst := some 14, op := .bslc 1 [(.s 13)] },
        { dst := some 15, op := .app 1 1 (.s 9) (.s 14) },
        { dst := some 3, op := .mov (.s 15) }]))
    (.ops [{ dst := some 7, op := .mov (.s 4) },
      { dst := some 8, op := .bin .sub (.s 7) (.c (.int .i64 8)) },
      { dst := some 4, op := .mov (.s 8) }]))

def F_wagonpoolref03_Bytes : PF :=
  .mk
    (.seq (.ops [{ dst := some 2, op := .mov (.c (.slc 0 [] true)) }])
      (.seq (.ops [{ dst := some 3, op := .mov (.c (.slc 0 [] true)) }])
      (.seq (.seq (.ops [{ dst := some 4, op := .mov (.c (.int .i64 56)) }])
      (.block 0 (.loop [0, 3, 4] F_wagonpoolref03_Bytes_L0)))
      (.seq (.ops [{ dst := some 16, op := .mov (.s 3) },
        { dst := some 2, op := .mov (.s 16) }])
      (.ret)))))
    [.tmp 2]
theorem tr_wagonpoolref03_Bytes : trF Tryd.prog [31, 16, 37] 37 [[0, 3, 4]] = some F_wagonpoolref03_Bytes := by kernel_rfl

/-! wagonpool/wagonpoolref03.Challenge -/
def F_wagonpoolref03_Challenge : PF :=
  .mk
    (.seq (.ops [{ dst := some 6, op := .mov (.c (.int .u64 0)) }])
      (.seq (.ops [{ dst := some 8, op := .mov (.s 0) },
        { dst := some 9, op := .icall 37 [(.s 8)] },
        { dst := some 10, op := .mov (.s 1) },
        { dst := some 11, op := .icall 37 [(.s 10)] },
        { dst := some 12, op := .app 1 1 (.s 9) (.s 11) },
        { dst := some 7, op := .mov (.s 12) }])
      (.seq (.ops [{ dst := some 13, op := .mov (.s 7) },
        { dst := some 14, op := .mov (.s 2) },
        { dst := some 15, op := .app 1 1 (.s 13) (.s 14) },
        { dst := some 7, op := .mov (.s 15) }])
      (.seq (.ops [{ dst := some 16, op := .mov (.s 7) },
        { dst := some 17, op := .call 36 [(.c (.str [99, 104, 97, 108, 108, 101, 110, 103, 101])), (.s 16)] },
        { dst := some 18, op := .call 35 [(.s 17)] },
        { dst := some 19, op := .bin .rem (.s 18) (.c (.int .u64 1152921504606845399)) },
        { dst := some 6, op := .mov (.s 19) }])
      (.ret)))))
    [.tmp 6]
theorem tr_wagonpoolref03_Challenge : trF Tryd.prog [31, 16, 37] 38 [] = some F_wagonpoolref03_Challenge := by kernel_rfl

/-! wagonpool/sign.modulo$1 -/
def F_sign_modulo_1 : PF :=
  .mk
    (.seq (.ops [{ dst := some 5, op := .mov (.c (.int .u64 0)) }])
      (.seq (.ops [{ dst := some 11, op := .mov (.s 0) },
        { dst := some 12, op := .load 1 false (.s 2) },
        { dst := some 13, op := .bin .rem (.s 11) (.s 12) },
        { dst := some 14, op := .mov (.s 1) },
        { dst := some 15, op := .load 1 false (.s 2) },
        { dst := some 16, op := .bin .rem (.s 14) (.s 15) },
        { dst := some 17, op := .call 40 [(.s 13), (.s 16)] },
        { dst := some 10, op := .mov (.s 17) },
        { dst := some 18, op := .ext (.s 10) 0 },
        { dst := some 19, op := .ext (.s 10) 1 },
        { dst := some 6, op := .mov (.s 18) },
        { dst := some 7, op := .mov (.s 19) }])
      (.seq (.ops [{ dst := some 21, op := .mov (.s 6) },
        { dst := some 22, op := .mov (.s 7) },
        { dst := some 23, op := .load 1 false (.s 2) },
        { dst := some 24, op := .call 41 [(.s 21), (.s 22), (.s 23)] },
        { dst := some 20, op := .mov (.s 24) },
        { dst := some 25, op := .ext (.s 20) 0 },
        { dst := some 26, op := .ext (.s 20) 1 },
        { dst := some 8, op := .mov (.s 25) },
        { dst := some 9, op := .mov (.s 26) }])
      (.seq (.ops [{ dst := some 27, op := .mov (.s 9) },
        { dst := some 5, op := .mov (.s 27) }])
      (.ret)))))
    [.tmp 5]
theorem tr_sign_modulo_1 : trF Tryd.prog [31, 16, 37] 39 [] = some F_sign_modulo_1 := by kernel_rfl

/-! math/bits.Mul64 -/
def F_math_bits_Mul64 : PF :=
  .mk
    (.seq (.ops [{ dst := some 4, op := .mov (.c (.int .u64 0)) },
        { dst := some 5, op := .mov (.c (.int .u64 0)) }])
      (.seq (.ops [{ dst := some 14, op := .mov (.s 0) },
        { dst := some 15, op := .bin .and (.s 14) (.c (.int .u64 4294967295)) },
        { dst := some 6, op := .mov (.s 15) }])
      (.seq (.ops [{ dst := some 16, op := .mov (.s 0) },
        { dst := some 17, op := .bin .shr (.s 16) (.c (.int .u64 32)) },
        { dst := some 7, op := .mov (.s 17) }])
      (.seq (.ops [{ dst := some 18, op := .mov (.s 1) },
        { dst := some 19, op := .bin .and (.s 18) (.c (.int .u64 4294967295)) },
        { dst := some 8, op := .mov (.s 19) }])
      (.seq (.ops [{ dst := some 20, op := .mov (.s 1) },
        { dst := some 21, op := .bin .shr (.s 20) (.c (.int .u64 32)) },
        { dst := some 9, op := .mov (.s 21) }])
      (.seq (.ops [{ dst := some 22, op := .mov (.s 6) },
        { dst := some 23, op := .mov (.s 8) },
        { dst := some 24, op := .bin .mul (.s 22) (.s 23) },
        { dst := some 10, op := .mov (.s 24) }])
      (.seq (.ops [{ dst := some 25, op := .mov (.s 7) },
        { dst := some 26, op := .mov (.s 8) },
        { dst := some 27, op := .bin .mul (.s 25) (.s 26) },
        { dst := some 28, op := .mov (.s 10) },
        { dst := some 29, op := .bin .shr (.s 28) (.c (.int .u64 32)) },
        { dst := some 30, op := .bin .add (.s 27) (.s 29) },
        { dst := some 11, op := .mov (.s 30) }])
      (.seq (.ops [{ dst := some 31, op := .mov (.s 11) },
        { dst := some 32, op := .bin .and (.s 31) (.c (.int .u64 4294967295)) },
        { dst := some 12, op := .mov (.s 32) }])
      (.seq (.ops [{ dst := some 33, op := .mov (.s 11) },
        { dst := some 34, op := .bin .shr (.s 33) (.c (.int .u64 32)) },
        { dst := some 13, op := .mov (.s 34) }])
      (.seq (.ops [{ dst := some 35, op := .mov (.s 12) },
        { dst := some 36, op := .mov (.s 6) },
        { dst := some 37, op := .mov (.s 9) },
        { dst := some 38, op := .bin .mul (.s 36) (.s 37) },
        { dst := some 39, op := .bin .add (.s 35) (.s 38) },
        { dst := some 12, op := .mov (.s 39) }])
      (.seq (.ops [{ dst := some 40, op := .mov (.s 7) },
        { dst := some 41, op := .mov (.s 9) },
        { dst := some 42, op := .bin .mul (.s 40) (.s 41) },
        { dst := some 43, op := .mov (.s 13) },
        { dst := some 44, op := .bin .add (.s 42) (.s 43) },
        { dst := some 45, op := .mov (.s 12) },
        { dst := some 46, op := .bin .shr (.s 45) (.c (.int .u64 32)) },
        { dst := some 47, op := .bin .add (.s 44) (.s 46) },
        { dst := some 4, op := .mov (.s 47) }])
      (.seq (.ops [{ dst := some 48, op := .mov (.s 0) },
        { dst := some 49, op := .mov (.s 1) },
        { dst := some 50, op := .bin .mul (.s 48) (.s 49) },
        { dst := some 5, op := .mov (.s 50) }])
      (.ret)))))))))))))
    [.tmp 4, .tmp 5]
theorem tr_math_bits_Mul64 : trF Tryd.prog [31, 16, 37] 40 [] = some F_math_bits_Mul64 := by kernel_rfl

/-! math/bits.Div64 -/
def F_math_bits_Div64_L0 : PC :=
  .seq (.seq (.ops [{ dst := some 67, op := .mov (.s 15) },
      { dst := some 68, op := .bin .geq (.s 67) (.c (.int .u64 4294967296)) },
      { dst := some 69, op := .mov (.s 68) },
      { dst := some 70, op := .mov (.s 15), guard := some (69, false) },
      { dst := some 71, op := .mov (.s 10), guard := some (69, false) },
      { dst := some 72, op := .bin .mul (.s 70) (.s 71), guard := some (69, false) },
      { dst := some 73, op := .mov (.s 16), guard := some (69, false) },
      { dst := some 74, op := .bin .mul (.c (.int .u64 4294967296)) (.s 73), guard := some (69, false) },
      { dst := some 75, op := .mov (.s 13), guard := some (69, false) },
      { dst := some 76, op := .bin .add (.s 74) (.s 75), guard := some (69, false) },
      { dst := some 77, op := .bin .gtr (.s 72) (.s 76), guard := some (69, false) },
      { dst := some 78, op := .pick (.s 69) (.c (.bool true)) (.s 77) }])
    (.cond (.s 78)
      (.skip)
      (.exit 0)))
    (.block 1 (.seq (.ops [{ dst := some 79, op := .mov (.s 15) },
        { dst := some 80, op := .bin .sub (.s 79) (.c (.int .u64 1)) },
        { dst := some 15, op := .mov (.s 80) }])
      (.seq (.ops [{ dst := some 81, op := .mov (.s 16) },
        { dst := some 82, op := .mov (.s 9) },
        { dst := some 83, op := .bin .add (.s 81) (.s 82) },
        { dst := some 16, op := .mov (.s 83) }])
      (.seq (.ops [{ dst := some 84, op := .mov (.s 16) },
        { dst := some 85, op := .bin .geq (.s 84) (.c (.int .u64 4294967296)) }])
      (.cond (.s 85)
        (.exit 0)
        (.skip))))))

def F_math_bits_Div64_L1 : PC :=
  .seq (.seq (.ops [{ dst := some 102, op := .mov (.s 18) },
      { dst := some 103, op := .bin .geq (.s 102) (.c (.int .u64 4294967296)) },
      { dst := some 104, op := .mov (.s 103) },
      { dst := some 105, op := .mov (.s 18), guard := some (104, false) },
      { dst := some 106, op := .mov (.s 10), guard := some (104, false) },
      { dst := some 107, op := .bin .mul (.s 105) (.s 106), guard := some (104, false) },
      { dst := some 108, op := .mov (.s 16), guard := some (104, false) },
      { dst := some 109, op := .bin .mul (.c (.int .u64 4294967296)) (.s 108), guard := some (104, false) },
      { dst := some 110, op := .mov (.s 14), guard := some (104, false) },
      { dst := some 111, op := .bin .add (.s 109) (.s 110), guard := some (104, false) },
      { dst := some 112, op := .bin .gtr (.s 107) (.s 111), guard := some (104, false) },
      { dst := some 113, op := .pick (.s 104) (.c (.bool true)) (.s 112) }])
    (.cond (.s 113)
      (.skip)
      (.exit 2)))
    (.block 3 (.seq (.ops [{ dst := some 114, op := .mov (.s 18) },
        { dst := some 115, op := .bin .sub (.s 114) (.c (.int .u64 1)) },
        { dst := some 18, op := .mov (.s 115) }])
      (.seq (.ops [{ dst := some 116, op := .mov (.s 16) },
        { dst := some 117, op := .mov (.s 9) },
        { dst := some 118, op := .bin .add (.s 116) (.s 117) },
        { dst := some 16, op := .mov (.s 118) }])
      (.seq (.ops [{ dst := some 119, op := .mov (.s 16) },
        { dst := some 120, op := .bin .geq (.s 119) (.c (.int .u64 4294967296)) }])
      (.cond (.s 120)
        (.exit 2)
        (.skip))))))

def F_math_bits_Div64 : PF :=
  .mk
    (.seq (.ops [{ dst := some 6, op := .mov (.c (.int .u64 0)) },
        { dst := some 7, op := .mov (.c (.int .u64 0)) }])
      (.seq (.seq (.ops [{ dst := some 19, op := .mov (.s 2) },
        { dst := some 20, op := .bin .eql (.s 19) (.c (.int .u64 0)) }])
      (.cond (.s 20)
        (.ops [{ dst := some 21, op := .load 1 false (.g 0) },
          { dst := none, op := .fail }])
        (.skip)))
      (.seq (.seq (.ops [{ dst := some 22, op := .mov (.s 2) },
        { dst := some 23, op := .mov (.s 0) },
        { dst := some 24, op := .bin .leq (.s 22) (.s 23) }])
      (.cond (.s 24)
        (.ops [{ dst := some 25, op := .load 1 false (.g 1) },
          { dst := none, op := .fail }])
        (.skip)))
      (.seq (.seq (.ops [{ dst := some 26, op := .mov (.s 0) },
        { dst := some 27, op := .bin .eql (.s 26) (.c (.int .u64 0)) }])
      (.cond (.s 27)
        (.seq (.ops [{ dst := some 28, op := .mov (.s 1) },
          { dst := some 29, op := .mov (.s 2) },
          { dst := some 30, op := .bin .quo (.s 28) (.s 29) },
          { dst := some 31, op := .mov (.s 1) },
          { dst := some 32, op := .mov (.s 2) },
          { dst := some 33, op := .bin .rem (.s 31) (.s 32) },
          { dst := some 6, op := .mov (.s 30) },
          { dst := some 7, op := .mov (.s 33) }])
        (.ret))
        (.skip)))
      (.seq (.ops [{ dst := some 34, op := .mov (.s 2) },
        { dst := some 35, op := .call 45 [(.s 34)] },
        { dst := some 36, op := .conv (.int .u64) (.s 35) },
        { dst := some 8, op := .mov (.s 36) }])
      (.seq (.ops [{ dst := some 37, op := .mov (.s 2) },
        { dst := some 38, op := .mov (.s 8) },
        { dst := some 39, op := .bin .shl (.s 37) (.s 38) },
        { dst := some 2, op := .mov (.s 39) }])
      (.seq (.ops [{ dst := some 40, op := .mov (.s 2) },
        { dst := some 41, op := .bin .shr (.s 40) (.c (.int .u64 32)) },
        { dst := some 9, op := .mov (.s 41) }])
      (.seq (.ops [{ dst := some 42, op := .mov (.s 2) },
        { dst := some 43, op := .bin .and (.s 42) (.c (.int .u64 4294967295)) },
        { dst := some 10, op := .mov (.s 43) }])
      (.seq (.ops [{ dst := some 44, op := .mov (.s 0) },
        { dst := some 45, op := .mov (.s 8) },
        { dst := some 46, op := .bin .shl (.s 44) (.s 45) },
        { dst := some 47, op := .mov (.s 1) },
        { dst := some 48, op := .mov (.s 8) },
        { dst := some 49, op := .bin .sub (.c (.int .u64 64)) (.s 48) },
        { dst := some 50, op := .bin .shr (.s 47) (.s 49) },
        { dst := some 51, op := .bin .or (.s 46) (.s 50) },
        { dst := some 11, op := .mov (.s 51) }])
      (.seq (.ops [{ dst := some 52, op := .mov (.s 1) },
        { dst := some 53, op := .mov (.s 8) },
        { dst := some 54, op := .bin .shl (.s 52) (.s 53) },
        { dst := some 12, op := .mov (.s 54) }])
      (.seq (.ops [{ dst := some 55, op := .mov (.s 12) },
        { dst := some 56, op := .bin .shr (.s 55) (.c (.int .u64 32)) },
        { dst := some 13, op := .mov (.s 56) }])
      (.seq (.ops [{ dst := some 57, op := .mov (.s 12) },
        { dst := some 58, op := .bin .and (.s 57) (.c (.int .u64 4294967295)) },
        { dst := some 14, op := .mov (.s 58) }])
      (.seq (.ops [{ dst := some 59, op := .mov (.s 11) },
        { dst := some 60, op := .mov (.s 9) },
        { dst := some 61, op := .bin .quo (.s 59) (.s 60) },
        { dst := some 15, op := .mov (.s 61) }])
      (.seq (.ops [{ dst := some 62, op := .mov (.s 11) },
        { dst := some 63, op := .mov (.s 15) },
        { dst := some 64, op := .mov (.s 9) },
        { dst := some 65, op := .bin .mul (.s 63) (.s 64) },
        { dst := some 66, op := .bin .sub (.s 62) (.s 65) },
        { dst := some 16, op := .mov (.s 66) }])
      (.seq (.block 0 (.loop [2, 8, 9, 10, 11, 13, 14, 15, 16] F_math_bits_Div64_L0))
      (.seq (.ops [{ dst := some 86, op := .mov (.s 11) },
        { dst := some 87, op := .bin .mul (.s 86) (.c (.int .u64 4294967296)) },
        { dst := some 88, op := .mov (.s 13) },
        { dst := some 89, op := .bin .add (.s 87) (.s 88) },
        { dst := some 90, op := .mov (.s 15) },
        { dst := some 91, op := .mov (.s 2) },
        { dst := some 92, op := .bin .mul (.s 90) (.s 91) },
        { dst := some 93, op := .bin .sub (.s 89) (.s 92) },
        { dst := some 17, op := .mov (.s 93) }])
      (.seq (.ops [{ dst := some 94, op := .mov (.s 17) },
        { dst := some 95, op := .mov (.s 9) },
        { dst := some 96, op := .bin .quo (.s 94) (.s 95) },
        { dst := some 18, op := .mov (.s 96) }])
      (.seq (.ops [{ dst := some 97, op := .mov (.s 17) },
        { dst := some 98, op := .mov (.s 18) },
        { dst := some 99, op := .mov (.s 9) },
        { dst := some 100, op := .bin .mul (.s 98) (.s 99) },
        { dst := some 101, op := .bin .sub (.s 97) (.s 100) },
        { dst := some 16, op := .mov (.s 101) }])
      (.seq (.block 2 (.loop [2, 8, 9, 10, 14, 15, 16, 17, 18] F_math_bits_Div64_L1))
      (.seq (.ops [{ dst := some 121, op := .mov (.s 15) },
        { dst := some 122, op := .bin .mul (.s 121) (.c (.int .u64 4294967296)) },
        { dst := some 123, op := .mov (.s 18) },
        { dst := some 124, op := .bin .add (.s 122) (.s 123) },
        { dst := some 125, op := .mov (.s 17) },
        { dst := some 126, op := .bin .mul (.s 125) (.c (.int .u64 4294967296)) },
        { dst := some 127, op := .mov (.s 14) },
        { dst := some 128, op := .bin .add (.s 126) (.s 127) },
        { dst := some 129, op := .mov (.s 18) },
        { dst := some 130, op := .mov (.s 2) },
        { dst := some 131, op := .bin .mul (.s 129) (.s 130) },
        { dst := some 132, op := .bin .sub (.s 128) (.s 131) },
        { dst := some 133, op := .mov (.s 8) },
        { dst := some 134, op := .bin .shr (.s 132) (.s 133) },
        { dst := some 6, op := .mov (.s 124) },
        { dst := some 7, op := .mov (.s 134) }])
      (.ret)))))))))))))))))))))
    [.tmp 6, .tmp 7]
theorem tr_math_bits_Div64 : trF Tryd.prog [31, 16, 37] 41 [[2, 8, 9, 10, 11, 13, 14, 15, 16], [2, 8, 9, 10, 14, 15, 16, 17, 18]] = some F_math_bits_Div64 := by kernel_rfl

/-! wagonpool/digest.block -/
def F_digest_block_L0 : PC :=
  .seq (.ops [{ dst := some 20, op := .bin .lss (.s 19) (.c (.int .i64 16)) }])
    (.seq (.cond (.s 20)
      (.skip)
      (.exit 0))
    (.seq (.block 1 (.seq (.ops [{ dst := some 21, op := .mov (.s 19) },
        { dst := some 6, op := .mov (.s 21) }])
      (.ops [{ dst := some 22, op := .mov (.s 6) },
        { dst := some 23, op := .mov (.s 1) },
        { dst := some 24, op := .mov (.s 6) },
        { dst := some 25, op := .bin .mul (.c (.int .i64 4)) (.s 24) },
        { dst := some 26, op := .idxS 1 (.s 23) (.s 25) },
        { dst := some 27, op := .load 1 false (.s 26) },
        { dst := some 28, op := .conv (.int .u32) (.s 27) },
        { dst := some 29, op := .bin .shl (.s 28) (.c (.int .u64 24)) },
        { dst := some 30, op := .mov (.s 1) },
        { dst := some 31, op := .mov (.s 6) },
        { dst := some 32, op := .bin .mul (.c (.int .i64 4)) (.s 31) },
        { dst := some 33, op := .bin .add (.s 32) (.c (.int .i64 1)) },
        { dst := some 34, op := .idxS 1 (.s 30) (.s 33) },
        { dst := some 35, op := .load 1 false (.s 34) },
        { dst := some 36, op := .conv (.int .u32) (.s 35) },
        { dst := some 37, op := .bin .shl (.s 36) (.c (.int .u64 16)) },
        { dst := some 38, op := .bin .or (.s 29) (.s 37) },
        { dst := some 39, op := .mov (.s 1) },
        { dst := some 40, op := .mov (.s 6) },
        { dst := some 41, op := .bin .mul (.c (.int .i64 4)) (.s 40) },
        { dst := some 42, op := .bin .add (.s 41) (.c (.int .i64 2)) },
        { dst := some 43, op := .idxS 1 (.s 39) (.s 42) },
        { dst := some 44, op := .load 1 false (.s 43) },
        { dst := some 45, op := .conv (.int .u32) (.s 44) },
        { dst := some 46, op := .bin .shl (.s 45) (.c (.int .u64 8)) },
        { dst := some 47, op := .bin .or (.s 38) (.s 46) },
        { dst := some 48, op := .mov (.s 1) },
        { dst := some 49, op := .mov (.s 6) },
        { dst := some 50, op := .bin .mul (.c (.int .i64 4)) (.s 49) },
        { dst := some 51, op := .bin .add (.s 50) (.c (.int .i64 3)) },
        { dst := some 52, op := .idxS 1 (.s 48) (.s 51) },
        { dst := some 53, op := .load 1 false (.s 52) },
        { dst := some 54, op := .conv (.int .u32) (.s 53) },
        { dst := some 55, op := .bin .or (.s 47) (.s 54) },
        { dst := some 56, op := .idxA 64 1 (.s 5) (.s 22) },
        { dst := none, op := .stor 1 (.s 56) (.s 55) }])))
    (.ops [{ dst := some 57, op := .bin .add (.s 19) (.c (.int .i64 1)) },
      { dst := some 19, op := .mov (.s 57) }])))

def F_digest_block_L1 : PC :=
  .seq (.seq (.ops [{ dst := some 58, op := .mov (.s 7) },
      { dst := some 59, op := .bin .lss (.s 58) (.c (.int .i64 64)) }])
    (.cond (.s 59)
      (.skip)
      (.exit 2)))
    (.seq (.block 3 (.seq (.ops [{ dst := some 62, op := .mov (.s 7) },
        { dst := some 63, op := .bin .sub (.s 62) (.c (.int .i64 15)) },
        { dst := some 64, op := .idxA 64 1 (.s 5) (.s 63) },
        { dst := some 65, op := .load 1 false (.s 64) },
        { dst := some 66, op := .mov (.s 7) },
        { dst := some 67, op := .bin .sub (.s 66) (.c (.int .i64 2)) },
        { dst := some 68, op := .idxA 64 1 (.s 5) (.s 67) },
        { dst := some 69, op := .load 1 false (.s 68) },
        { dst := some 8, op := .mov (.s 65) },
        { dst := some 9, op := .mov (.s 69) }])
      (.seq (.ops [{ dst := some 70, op := .mov (.s 8) },
        { dst := some 71, op := .call 46 [(.s 70), (.c (.int .i64 (-7)))] },
        { dst := some 72, op := .mov (.s 8) },
        { dst := some 73, op := .call 46 [(.s 72), (.c (.int .i64 (-18)))] },
        { dst := some 74, op := .bin .xor (.s 71) (.s 73) },
        { dst := some 75, op := .mov (.s 8) },
        { dst := some 76, op := .bin .shr (.s 75) (.c (.int .u64 3)) },
        { dst := some 77, op := .bin .xor (.s 74) (.s 76) },
        { dst := some 10, op := .mov (.s 77) }])
      (.seq (.ops [{ dst := some 78, op := .mov (.s 9) },
        { dst := some 79, op := .call 46 [(.s 78), (.c (.int .i64 (-17)))] },
        { dst := some 80, op := .mov (.s 9) },
        { dst := some 81, op := .call 46 [(.s 80), (.c (.int .i64 (-19)))] },
        { dst := some 82, op := .bin .xor (.s 79) (.s 81) },
        { dst := some 83, op := .mov (.s 9) },
        { dst := some 84, op := .bin .shr (.s 83) (.c (.int .u64 10)) },
        { dst := some 85, op := .bin .xor (.s 82) (.s 84) },
        { dst := some 11, op := .mov (.s 85) }])
      (.ops [{ dst := some 86, op := .mov (.s 7) },
        { dst := some 87, op := .mov (.s 7) },
        { dst := some 88, op := .bin .sub (.s 87) (.c (.int .i64 16)) },
        { dst := some 89, op := .idxA 64 1 (.s 5) (.s 88) },
        { dst := some 90, op := .load 1 false (.s 89) },
        { dst := some 91, op := .mov (.s 10) },
        { dst := some 92, op := .bin .add (.s 90) (.s 91) },
        { dst := some 93, op := .mov (.s 7) },
        { dst := some 94, op := .bin .sub (.s 93) (.c (.int .i64 7)) },
        { dst := some 95, op := .idxA 64 1 (.s 5) (.s 94) },
        { dst := some 96, op := .load 1 false (.s 95) },
        { dst := some 97, op := .bin .add (.s 92) (.s 96) },
        { dst := some 98, op := .mov (.s 11) },
        { dst := some 99, op := .bin .add (.s 97) (.s 98) },
        { dst := some 100, op := .idxA 64 1 (.s 5) (.s 86) },
        { dst := none, op := .stor 1 (.s 100) (.s 99) }])))))
    (.ops [{ dst := some 60, op := .mov (.s 7) },
      { dst := some 61, op := .bin .add (.s 60) (.c (.int .i64 1)) },
      { dst := some 7, op := .mov (.s 61) }]))

def F_digest_block_L2 : PC :=
  .seq (.ops [{ dst := some 103, op := .bin .lss (.s 102) (.c (.int .i64 64)) }])
    (.seq (.cond (.s 103)
      (.skip)
      (.exit 4))
    (.seq (.block 5 (.seq (.ops [{ dst := some 104, op := .mov (.s 102) },
        { dst := some 13, op := .mov (.s 104) }])
      (.seq (.ops [{ dst := some 105, op := .idxA 8 1 (.s 12) (.c (.int .i64 0)) },
        { dst := some 106, op := .load 1 false (.s 105) },
        { dst := some 107, op := .idxA 8 1 (.s 12) (.c (.int .i64 4)) },
        { dst := some 108, op := .load 1 false (.s 107) },
        { dst := some 14, op := .mov (.s 106) },
        { dst := some 15, op := .mov (.s 108) }])
      (.seq (.ops [{ dst := some 109, op := .idxA 8 1 (.s 12) (.c (.int .i64 7)) },
        { dst := some 110, op := .load 1 false (.s 109) },
        { dst := some 111, op := .mov (.s 15) },
        { dst := some 112, op := .call 46 [(.s 111), (.c (.int .i64 (-6)))] },
        { dst := some 113, op := .mov (.s 15) },
        { dst := some 114, op := .call 46 [(.s 113), (.c (.int .i64 (-11)))] },
        { dst := some 115, op := .bin .xor (.s 112) (.s 114) },
        { dst := some 116, op := .mov (.s 15) },
        { dst := some 117, op := .call 46 [(.s 116), (.c (.int .i64 (-25)))] },
        { dst := some 118, op := .bin .xor (.s 115) (.s 117) },
        { dst := some 119, op := .bin .add (.s 110) (.s 118) },
        { dst := some 120, op := .mov (.s 15) },
        { dst := some 121, op := .idxA 8 1 (.s 12) (.c (.int .i64 5)) },
        { dst := some 122, op := .load 1 false (.s 121) },
        { dst := some 123, op := .bin .and (.s 120) (.s 122) },
        { dst := some 124, op := .mov (.s 15) },
        { dst := some 125, op := .un .xor (.s 124) },
        { dst := some 126, op := .idxA 8 1 (.s 12) (.c (.int .i64 6)) },
        { dst := some 127, op := .load 1 false (.s 126) },
        { dst := some 128, op := .bin .and (.s 125) (.s 127) },
        { dst := some 129, op := .bin .xor (.s 123) (.s 128) },
        { dst := some 130, op := .bin .add (.s 119) (.s 129) },
        { dst := some 131, op := .mov (.s 13) },
        { dst := some 132, op := .idxA 64 1 (.g 2) (.s 131) },
        { dst := some 133, op := .load 1 false (.s 132) },
        { dst := some 134, op := .bin .add (.s 130) (.s 133) },
        { dst := some 135, op := .mov (.s 13) },
        { dst := some 136, op := .idxA 64 1 (.s 5) (.s 135) },
        { dst := some 137, op := .load 1 false (.s 136) },
        { dst := some 138, op := .bin .add (.s 134) (.s 137) },
        { dst := some 16, op := .mov (.s 138) }])
      (.seq (.ops [{ dst := some 139, op := .mov (.s 14) },
        { dst := some 140, op := .call 46 [(.s 139), (.c (.int .i64 (-2)))] },
        { dst := some 141, op := .mov (.s 14) },
        { dst := some 142, op := .call 46 [(.s 141), (.c (.int .i64 (-13)))] },
        { dst := some 143, op := .bin .xor (.s 140) (.s 142) },
        { dst := some 144, op := .mov (.s 14) },
        { dst := some 145, op := .call 46 [(.s 144), (.c (.int .i64 (-22)))] },
        { dst := some 146, op := .bin .xor (.s 143) (.s 145) },
        { dst := some 147, op := .mov (.s 14) },
        { dst := some 148, op := .idxA 8 1 (.s 12) (.c (.int .i64 1)) },
        { dst := some 149, op := .load 1 false (.s 148) },
        { dst := some 150, op := .bin .and (.s 147) (.s 149) },
        { dst := some 151, op := .mov (.s 14) },
        { dst := some 152, op := .idxA 8 1 (.s 12) (.c (.int .i64 2)) },
        { dst := some 153, op := .load 1 false (.s 152) },
        { dst := some 154, op := .bin .and (.s 151) (.s 153) },
        { dst := some 155, op := .bin .xor (.s 150) (.s 154) },
        { dst := some 156, op := .idxA 8 1 (.s 12) (.c (.int .i64 1)) },
        { dst := some 157, op := .load 1 false (.s 156) },
        { dst := some 158, op := .idxA 8 1 (.s 12) (.c (.int .i64 2)) },
        { dst := some 159, op := .load 1 false (.s 158) },
        { dst := some 160, op := .bin .and (.s 157) (.s 159) },
        { dst := some 161, op := .bin .xor (.s 155) (.s 160) },
        { dst := some 162, op := .bin .add (.s 146) (.s 161) },
        { dst := some 17, op := .mov (.s 162) }])
      (.ops [{ dst := some 163, op := .mov (.s 16) },
        { dst := some 164, op := .mov (.s 17) },
        { dst := some 165, op := .bin .add (.s 163) (.s 164) },
        { dst := some 166, op := .mov (.s 14) },
        { dst := some 167, op := .idxA 8 1 (.s 12) (.c (.int .i64 1)) },
        { dst := some 168, op := .load 1 false (.s 167) },
        { dst := some 169, op := .idxA 8 1 (.s 12) (.c (.int .i64 2)) },
        { dst := some 170, op := .load 1 false (.s 169) },
        { dst := some 171, op := .idxA 8 1 (.s 12) (.c (.int .i64 3)) },
        { dst := some 172, op := .load 1 false (.s 171) },
        { dst := some 173, op := .mov (.s 16) },
        { dst := some 174, op := .bin .add (.s 172) (.s 173) },
        { dst := some 175, op := .mov (.s 15) },
        { dst := some 176, op := .idxA 8 1 (.s 12) (.c (.int .i64 5)) },
        { dst := some 177, op := .load 1 false (.s 176) },
        { dst := some 178, op := .idxA 8 1 (.s 12) (.c (.int .i64 6)) },
        { dst := some 179, op := .load 1 false (.s 178) },
        { dst := some 180, op := .bld [(.int .u32 0), (.int .u32 0), (.int .u32 0), (.int .u32 0), (.int .u32 0), (.int .u32 0), (.int .u32 0), (.int .u32 0)] [(0, 1, (.s 165)), (1, 1, (.s 166)), (2, 1, (.s 168)), (3, 1, (.s 170)), (4, 1, (.s 174)), (5, 1, (.s 175)), (6, 1, (.s 177)), (7, 1, (.s 179))] },
        { dst := none, op := .stor 8 (.s 12) (.s 180) }]))))))
    (.ops [{ dst := some 181, op := .bin .add (.s 102) (.c (.int .i64 1)) },
      { dst := some 102, op := .mov (.s 181) }])))

def F_digest_block_L3 : PC :=
  .seq (.ops [{ dst := some 183, op := .bin .lss (.s 182) (.c (.int .i64 8)) }])
    (.seq (.cond (.s 183)
      (.skip)
      (.exit 6))
    (.seq (.block 7 (.seq (.ops [{ dst := some 184, op := .mov (.s 182) },
        { dst := some 18, op := .mov (.s 184) }])
      (.ops [{ dst := some 185, op := .mov (.s 18) },
        { dst := some 186, op := .idxA 8 1 (.s 2) (.s 185) },
        { dst := some 187, op := .load 1 false (.s 186) },
        { dst := some 188, op := .mov (.s 18) },
        { dst := some 189, op := .idxA 8 1 (.s 12) (.s 188) },
        { dst := some 190, op := .load 1 false (.s 189) },
        { dst := some 191, op := .bin .add (.s 187) (.s 190) },
        { dst := some 192, op := .idxA 8 1 (.s 2) (.s 185) },
        { dst := none, op := .stor 1 (.s 192) (.s 191) }])))
    (.ops [{ dst := some 193, op := .bin .add (.s 182) (.c (.int .i64 1)) },
      { dst := some 182, op := .mov (.s 193) }])))

def F_digest_block : PF :=
  .mk
    (.seq (.ops [{ dst := some 2, op := .box (.s 0) },
        { dst := some 4, op := .box (.c (.agg [(.int .u32 0), (.int .u32 0), (.int .u32 0), (.int .u32 0), (.int .u32 0), (.int .u32 0), (.int .u32 0), (.int .u32 0)])) }])
      (.seq (.ops [{ dst := some 5, op := .box (.c (.agg [(.int .u32 0), (.int .u32 0), (.int .u32 0), (.int .u32 0), (.int .u32 0), (.int .u32 0), (.int .u32 0), (.int .u32 0), (.int .u32 0), (.int .u32 0), (.int .u32 0), (.int .u32 0), (.int .u32 0), (.int .u32 0), (.int .u32 0), (.int .u32 0), (.int .u32 0), (.int .u32 0), (.int .u32 0), (.int .u32 0), (.int .u32 0), (.int .u32 0), (.int .u32 0), (.int .u32 0), (.int .u32 0), (.int .u32 0), (.int .u32 0), (.int .u32 0), (.int .u32 0), (.int .u32 0), (.int .u32 0), (.int .u32 0), (.int .u32 0), (.int .u32 0), (.int .u32 0), (.int .u32 0), (.int .u32 0), (.int .u32 0), (.int .u32 0), (.int .u32 0), (.int .u32 0), (.int .u32 0), (.int .u32 0), (.int .u32 0), (.int .u32 0), (.int .u32 0), (.int .u32 0), (.int .u32 0), (.int .u32 0), (.int .u32 0), (.int .u32 0), (.int .u32 0), (.int .u32 0), (.int .u32 0), (.int .u32 0), (.int .u32 0), (.int .u32 0), (.int .u32 0), (.int .u32 0), (.int .u32 0), (.int .u32 0), (.int .u32 0), (.int .u32 0), (.int .u32 0)])) }])
      (.seq (.seq (.ops [{ dst := some 19, op := .mov (.c (.int .i64 0)) }])
      (.block 0 (.loop [1, 2, 4, 5, 19] F_digest_block_L0)))
      (.seq (.seq (.ops [{ dst := some 7, op := .mov (.c (.int .i64 16)) }])
      (.block 2 (.loop [2, 4, 5, 7] F_digest_block_L1)))
      (.seq (.ops [{ dst := some 101, op := .load 8 true (.s 2) },
        { dst := some 12, op := .box (.c (.agg [(.int .u32 0), (.int .u32 0), (.int .u32 0), (.int .u32 0), (.int .u32 0), (.int .u32 0), (.int .u32 0), (.int .u32 0)])) },
        { dst := none, op := .stor 8 (.s 12) (.s 101) }])
      (.seq (.seq (.ops [{ dst := some 102, op := .mov (.c (.int .i64 0)) }])
      (.block 4 (.loop [2, 4, 5, 12, 102] F_digest_block_L2)))
      (.seq (.seq (.ops [{ dst := some 182, op := .mov (.c (.int .i64 0)) }])
      (.block 6 (.loop [2, 4, 12, 182] F_digest_block_L3)))
      (.seq (.ops [{ dst := some 194, op := .load 8 true (.s 2) },
        { dst := none, op := .stor 8 (.s 4) (.s 194) }])
      (.ret)))))))))
    [.cell 4 8 true]
theorem tr_digest_block : trF Tryd.prog [31, 16, 37] 42 [[1, 2, 4, 5, 19], [2, 4, 5, 7], [2, 4, 5, 12, 102], [2, 4, 12, 182]] = some F_digest_block := by kernel_rfl

/-! wagonpool/wagonpoolref02.Sum -/
def F_wagonpoolref02_Sum_L0 : PC :=
  .seq (.seq (.ops [{ dst := some 11, op := .mov (.s 5) },
      { dst := some 12, op := .mov (.s 4) },
      { dst := some 13, op := .len false (.s 12) },
      { dst := some 14, op := .bin .lss (.s 11) (.s 13) }])
    (.cond (.s 14)
      (.skip)
      (.exit 0)))
    (.seq (.block 1 (.ops [{ dst := some 17, op := .load 8 true (.s 3) },
        { dst := some 18, op := .mov (.s 4) },
        { dst := some 19, op := .mov (.s 5) },
        { dst := some 20, op := .mov (.s 5) },
        { dst := some 21, op := .bin .add (.s 20) (.c (.int .i64 64)) },
        { dst := some 22, op := .slice 1 (.s 18) (some (.s 19)) (some (.s 21)) none },
        { dst := some 23, op := .call 48 [(.s 17), (.s 22)] },
        { dst := none, op := .stor 8 (.s 3) (.s 23) }]))
    (.ops [{ dst := some 15, op := .mov (.s 5) },
      { dst := some 16, op := .bin .add (.s 15) (.c (.int .i64 64)) },
      { dst := some 5, op := .mov (.s 16) }]))

def F_wagonpoolref02_Sum_L1 : PC :=
  .seq (.seq (.ops [{ dst := some 25, op := .mov (.s 7) },
      { dst := some 26, op := .bin .lss (.s 25) (.c (.int .i64 32)) }])
    (.cond (.s 26)
      (.skip)
      (.exit 2)))
    (.seq (.block 3 (.ops [{ dst := some 29, op := .mov (.s 7) },
        { dst := some 30, op := .mov (.s 7) },
        { dst := some 31, op := .bin .quo (.s 30) (.c (.int .i64 4)) },
        { dst := some 32, op := .idxA 8 1 (.s 3) (.s 31) },
        { dst := some 33, op := .load 1 false (.s 32) },
        { dst := some 34, op := .mov (.s 7) },
        { dst := some 35, op := .bin .rem (.s 34) (.c (.int .i64 4)) },
        { dst := some 36, op := .bin .mul (.c (.int .i64 8)) (.s 35) },
        { dst := some 37, op := .bin .sub (.c (.int .i64 24)) (.s 36) },
        { dst := some 38, op := .bin .shr (.s 33) (.s 37) },
        { dst := some 39, op := .conv (.int .u8) (.s 38) },
        { dst := some 40, op := .idxA 32 1 (.s 6) (.s 29) },
        { dst := none, op := .stor 1 (.s 40) (.s 39) }]))
    (.ops [{ dst := some 27, op := .mov (.s 7) },
      { dst := some 28, op := .bin .add (.s 27) (.c (.int .i64 1)) },
      { dst := some 7, op := .mov (.s 28) }]))

def F_wagonpoolref02_Sum : PF :=
  .mk
    (.seq (.ops [{ dst := some 2, op := .box (.c (.agg [(.int .u8 0), (.int .u8 0), (.int .u8 0), (.int .u8 0), (.int .u8 0), (.int .u8 0), (.int .u8 0), (.int .u8 0), (.int .u8 0), (.int .u8 0), (.int .u8 0), (.int .u8 0), (.int .u8 0), (.int .u8 0), (.int .u8 0), (.int .u8 0), (.int .u8 0), (.int .u8 0), (.int .u8 0), (.int .u8 0), (.int .u8 0), (.int .u8 0), (.int .u8 0), (.int .u8 0), (.int .u8 0), (.int .u8 0), (.int .u8 0), (.int .u8 0), (.int .u8 0), (.int .u8 0), (.int .u8 0), (.int .u8 0)])) }])
      (.seq (.ops [{ dst := some 8, op := .bld [(.int .u32 0), (.int .u32 0), (.int .u32 0), (.int .u32 0), (.int .u32 0), (.int .u32 0), (.int .u32 0), (.int .u32 0)] [(0, 1, (.c (.int .u32 1779033703))), (1, 1, (.c (.int .u32 3144134277))), (2, 1, (.c (.int .u32 1013904242))), (3, 1, (.c (.int .u32 2773480762))), (4, 1, (.c (.int .u32 1359893119))), (5, 1, (.c (.int .u32 2600822924))), (6, 1, (.c (.int .u32 528734635))), (7, 1, (.c (.int .u32 1541459225)))] },
        { dst := some 3, op := .box (.c (.agg [(.int .u32 0), (.int .u32 0), (.int .u32 0), (.int .u32 0), (.int .u32 0), (.int .u32 0), (.int .u32 0), (.int .u32 0)])) },
        { dst := none, op := .stor 8 (.s 3) (.s 8) }])
      (.seq (.ops [{ dst := some 9, op := .mov (.s 0) },
        { dst := some 10, op := .call 47 [(.s 9)] },
        { dst := some 4, op := .mov (.s 10) }])
      (.seq (.seq (.ops [{ dst := some 5, op := .mov (.c (.int .i64 0)) }])
      (.block 0 (.loop [2, 3, 4, 5] F_wagonpoolref02_Sum_L0)))
      (.seq (.ops [{ dst := some 24, op := .bld [(.int .u8 0), (.int .u8 0), (.int .u8 0), (.int .u8 0), (.int .u8 0), (.int .u8 0), (.int .u8 0), (.int .u8 0), (.int .u8 0), (.int .u8 0), (.int .u8 0), (.int .u8 0), (.int .u8 0), (.int .u8 0), (.int .u8 0), (.int .u8 0), (.int .u8 0), (.int .u8 0), (.int .u8 0), (.int .u8 0), (.int .u8 0), (.int .u8 0), (.int .u8 0), (.int .u8 0), (.int .u8 0), (.int .u8 0), (.int .u8 0), (.int .u8 0), (.int .u8 0), (.int .u8 0), (.int .u8 0), (.int .u8 0)] [] },
        { dst := some 6, op := .box (.c (.agg [(.int .u8 0), (.int .u8 0), (.int .u8 0), (.int .u8 0), (.int .u8 0), (.int .u8 0), (.int .u8 0), (.int .u8 0), (.int .u8 0), (.int .u8 0), (.int .u8 0), (.int .u8 0), (.int .u8 0), (.int .u8 0), (.int .u8 0), (.int .u8 0), (.int .u8 0), (.int .u8 0), (.int .u8 0), (.int .u8 0), (.int .u8 0), (.int .u8 0), (.int .u8 0), (.int .u8 0), (.int .u8 0), (.int .u8 0), (.int .u8 0), (.int .u8 0), (.int .u8 0), (.int .u8 0), (.int .u8 0), (.int .u8 0)])) },
        { dst := none, op := .stor 32 (.s 6) (.s 24) }])
      (.seq (.seq (.ops [{ dst := some 7, op := .mov (.c (.int .i64 0)) }])
      (.block 2 (.loop [2, 3, 6, 7] F_wagonpoolref02_Sum_L1)))
      (.seq (.ops [{ dst := some 41, op := .load 32 true (.s 6) },
        { dst := none, op := .stor 32 (.s 2) (.s 41) }])
      (.ret))))))))
    [.cell 2 32 true]
theorem tr_wagonpoolref02_Sum : trF Tryd.prog [31, 16, 37] 43 [[2, 3, 4, 5], [2, 3, 6, 7]] = some F_wagonpoolref02_Sum := by kernel_rfl

/-! wagonpool/wagonpoolref02.Hashed -/
def F_wagonpoolref02_Hashed : PF :=
  .mk
    (.seq (.ops [{ dst := some 4, op := .mov (.c (.slc 0 [] true)) }])
      (.seq (.ops [{ dst := some 7, op := .mov (.s 0) },
        { dst := some 8, op := .mov (.s 0) },
        { dst := some 9, op := .len true (.s 8) },
        { dst := some 10, op := .mm false (.s 9) (.c (.int .i64 255)) },
        { dst := some 11, op := .slice 0 (.s 7) none (some (.s 10)) none },
        { dst := some 5, op := .mov (.s 11) }])
      (.seq (.ops [{ dst := some 12, op := .mov (.s 5) },
        { dst := some 13, op := .len true (.s 12) },
        { dst := some 14, op := .conv (.int .u8) (.s 13) },
        { dst := some 15, op := .bslc 1 [(.s 14)] },
        { dst := some 6, op := .mov (.s 15) }])
      (.seq (.ops [{ dst := some 16, op := .mov (.s 6) },
        { dst := some 17, op := .mov (.s 5) },
        { dst := some 18, op := .conv .bytes (.s 17) },
        { dst := some 19, op := .app 1 1 (.s 16) (.s 18) },
        { dst := some 6, op := .mov (.s 19) }])
      (.seq (.ops [{ dst := some 20, op := .mov (.s 6) },
        { dst := some 21, op := .mov (.s 1) },
        { dst := some 22, op := .app 1 1 (.s 20) (.s 21) },
        { dst := some 4, op := .mov (.s 22) }])
      (.ret))))))
    [.tmp 4]
theorem tr_wagonpoolref02_Hashed : trF Tryd.prog [31, 16, 37] 44 [] = some F_wagonpoolref02_Hashed := by kernel_rfl

/-! math/bits.LeadingZeros64 -/
def F_math_bits_LeadingZeros64 : PF :=
  .mk
    (.seq (.ops [{ dst := some 2, op := .mov (.c (.int .i64 0)) }])
      (.seq (.ops [{ dst := some 3, op := .mov (.s 0) },
        { dst := some 4, op := .call 32 [(.s 3)] },
        { dst := some 5, op := .bin .sub (.c (.int .i64 64)) (.s 4) },
        { dst := some 2, op := .mov (.s 5) }])
      (.ret)))
    [.tmp 2]
theorem tr_math_bits_LeadingZeros64 : trF Tryd.prog [31, 16, 37] 45 [] = some F_math_bits_LeadingZeros64 := by kernel_rfl

/-! math/bits.RotateLeft32 -/
def F_math_bits_RotateLeft32 : PF :=
  .mk
    (.seq (.ops [{ dst := some 4, op := .mov (.c (.int .u32 0)) }])
      (.seq (.ops [{ dst := some 6, op := .mov (.s 1) },
        { dst := some 7, op := .conv (.int .u64) (.s 6) },
        { dst := some 8, op := .bin .and (.s 7) (.c (.int .u64 31)) },
        { dst := some 5, op := .mov (.s 8) }])
      (.seq (.ops [{ dst := some 9, op := .mov (.s 0) },
        { dst := some 10, op := .mov (.s 5) },
        { dst := some 11, op := .bin .shl (.s 9) (.s 10) },
        { dst := some 12, op := .mov (.s 0) },
        { dst := some 13, op := .mov (.s 5) },
        { dst := some 14, op := .bin .sub (.c (.int .u64 32)) (.s 13) },
        { dst := some 15, op := .bin .shr (.s 12) (.s 14) },
        { dst := some 16, op := .bin .or (.s 11) (.s 15) },
        { dst := some 4, op := .mov (.s 16) }])
      (.ret))))
    [.tmp 4]
theorem tr_math_bits_RotateLeft32 : trF Tryd.prog [31, 16, 37] 46 [] = some F_math_bits_RotateLeft32 := by kernel_rfl

/-! wagonpool/wagonpoolref02.padded -/
def F_wagonpoolref02_padded_L0 : PC :=
  .seq (.seq (.ops [{ dst := some 13, op := .mov (.s 3) },
      { dst := some 14, op := .len false (.s 13) },
      { dst := some 15, op := .bin .rem (.s 14) (.c (.int .i64 64)) },
      { dst := some 16, op := .bin .neq (.s 15) (.c (.int .i64 56)) }])
    (.cond (.s 16)
      (.skip)
      (.exit 0)))
    (.block 1 (.ops [{ dst := some 17, op := .mov (.s 3) },
        { dst := some 18, op := .bslc 1 [(.c (.int .u8 0))] },
        { dst := some 19, op := .app 1 1 (.s 17) (.s 18) },
        { dst := some 3, op := .mov (.s 19) }]))

def F_wagonpoolref02_padded_L1 : PC :=
  .seq (.seq (.ops [{ dst := some 24, op := .mov (.s 5) },
      { dst := some 25, op := .bin .lss (.s 24) (.c (.int .i64 8)) }])
    (.cond (.s 25)
      (.skip)
      (.exit 2)))
    (.seq (.block 3 (.ops [{ dst := some 28, op := .mov (.s 3) },
        { dst := some 29, op := .mov (.s 4) },
        { dst := some 30, op := .mov (.s 5) },
        { dst := some 31, op := .bin .mul (.c (.int .i64 8)) (.s 30) },
        { dst := some 32, op := .bin .sub (.c (.int .i64 56)) (.s 31) },
        { dst := some 33, op := .bin .shr (.s 29) (.s 32) },
        { dst := some 34, op := .conv (.int .u8) (.s 33) },
        { dst := some 35, op := .bslc 1 [(.s 34)] },
        { dst := some 36, op := .app 1 1 (.s 28) (.s 35) },
        { dst := some 3, op := .mov (.s 36) }]))
    (.ops [{ dst := some 26, op := .mov (.s 5) },
      { dst := some 27, op := .bin .add (.s 26) (.c (.int .i64 1)) },
      { dst := some 5, op := .mov (.s 27) }]))

def F_wagonpoolref02_padded : PF :=
  .mk
    (.seq (.ops [{ dst := some 2, op := .mov (.c (.slc 0 [] true)) }])
      (.seq (.ops [{ dst := some 6, op := .bslc 1 [] },
        { dst := some 3, op := .mov (.s 6) }])
      (.seq (.ops [{ dst := some 7, op := .mov (.s 3) },
        { dst := some 8, op := .mov (.s 0) },
        { dst := some 9, op := .app 1 1 (.s 7) (.s 8) },
        { dst := some 3, op := .mov (.s 9) }])
      (.seq (.ops [{ dst := some 10, op := .mov (.s 3) },
        { dst := some 11, op := .bslc 1 [(.c (.int .u8 128))] },
        { dst := some 12, op := .app 1 1 (.s 10) (.s 11) },
        { dst := some 3, op := .mov (.s 12) }])
      (.seq (.block 0 (.loop [0, 3] F_wagonpoolref02_padded_L0))
      (.seq (.ops [{ dst := some 20, op := .mov (.s 0) },
        { dst := some 21, op := .len false (.s 20) },
        { dst := some 22, op := .conv (.int .u64) (.s 21) },
        { dst := some 23, op := .bin .mul (.s 22) (.c (.int .u64 8)) },
        { dst := some 4, op := .mov (.s 23) }])
      (.seq (.seq (.ops [{ dst := some 5, op := .mov (.c (.int .i64 0)) }])
      (.block 2 (.loop [3, 4, 5] F_wagonpoolref02_padded_L1)))
      (.seq (.ops [{ dst := some 37, op := .mov (.s 3) },
        { dst := some 2, op := .mov (.s 37) }])
      (.ret)))))))))
    [.tmp 2]
theorem tr_wagonpoolref02_padded : trF Tryd.prog [31, 16, 37] 47 [[0, 3], [3, 4, 5]] = some F_wagonpoolref02_padded := by kernel_rfl

/-! wagonpool/wagonpoolref02.block -/
def F_wagonpoolref02_block_L0 : PC :=
  .seq (.seq (.ops [{ dst := some 20, op := .mov (.s 8) },
      { dst := some 21, op := .bin .lss (.s 20) (.c (.int .i64 64)) }])
    (.cond (.s 21)
      (.skip)
      (.exit 0)))
    (.seq (.block 1 (.seq (.ops [{ dst := some 24, op := .idxA 8 1 (.s 7) (.c (.int .i64 4)) },
        { dst := some 25, op := .load 1 false (.s 24) },
        { dst := some 26, op := .call 51 [(.s 25), (.c (.int .i64 6))] },
        { dst := some 27, op := .idxA 8 1 (.s 7) (.c (.int .i64 4)) },
        { dst := some 28, op := .load 1 false (.s 27) },
        { dst := some 29, op := .call 51 [(.s 28), (.c (.int .i64 11))] },
        { dst := some 30, op := .bin .xor (.s 26) (.s 29) },
        { dst := some 31, op := .idxA 8 1 (.s 7) (.c (.int .i64 4)) },
        { dst := some 32, op := .load 1 false (.s 31) },
        { dst := some 33, op := .call 51 [(.s 32), (.c (.int .i64 25))] },
        { dst := some 34, op := .bin .xor (.s 30) (.s 33) },
        { dst := some 9, op := .mov (.s 34) }])
      (.seq (.ops [{ dst := some 35, op := .idxA 8 1 (.s 7) (.c (.int .i64 4)) },
        { dst := some 36, op := .load 1 false (.s 35) },
        { dst := some 37, op := .idxA 8 1 (.s 7) (.c (.int .i64 5)) },
        { dst := some 38, op := .load 1 false (.s 37) },
        { dst := some 39, op := .bin .and (.s 36) (.s 38) },
        { dst := some 40, op := .idxA 8 1 (.s 7) (.c (.int .i64 4)) },
        { dst := some 41, op := .load 1 false (.s 40) },
        { dst := some 42, op := .un .xor (.s 41) },
        { dst := some 43, op := .idxA 8 1 (.s 7) (.c (.int .i64 6)) },
        { dst := some 44, op := .load 1 false (.s 43) },
        { dst := some 45, op := .bin .and (.s 42) (.s 44) },
        { dst := some 46, op := .bin .xor (.s 39) (.s 45) },
        { dst := some 10, op := .mov (.s 46) }])
      (.seq (.ops [{ dst := some 47, op := .idxA 8 1 (.s 7) (.c (.int .i64 7)) },
        { dst := some 48, op := .load 1 false (.s 47) },
        { dst := some 49, op := .mov (.s 9) },
        { dst := some 50, op := .bin .add (.s 48) (.s 49) },
        { dst := some 51, op := .mov (.s 10) },
        { dst := some 52, op := .bin .add (.s 50) (.s 51) },
        { dst := some 53, op := .mov (.s 8) },
        { dst := some 54, op := .idxA 64 1 (.s 6) (.s 53) },
        { dst := some 55, op := .load 1 false (.s 54) },
        { dst := some 56, op := .bin .add (.s 52) (.s 55) },
        { dst := some 57, op := .mov (.s 8) },
        { dst := some 58, op := .idxA 64 1 (.s 5) (.s 57) },
        { dst := some 59, op := .load 1 false (.s 58) },
        { dst := some 60, op := .bin .add (.s 56) (.s 59) },
        { dst := some 11, op := .mov (.s 60) }])
      (.seq (.ops [{ dst := some 61, op := .idxA 8 1 (.s 7) (.c (.int .i64 0)) },
        { dst := some 62, op := .load 1 false (.s 61) },
        { dst := some 63, op := .call 51 [(.s 62), (.c (.int .i64 2))] },
        { dst := some 64, op := .idxA 8 1 (.s 7) (.c (.int .i64 0)) },
        { dst := some 65, op := .load 1 false (.s 64) },
        { dst := some 66, op := .call 51 [(.s 65), (.c (.int .i64 13))] },
        { dst := some 67, op := .bin .xor (.s 63) (.s 66) },
        { dst := some 68, op := .idxA 8 1 (.s 7) (.c (.int .i64 0)) },
        { dst := some 69, op := .load 1 false (.s 68) },
        { dst := some 70, op := .call 51 [(.s 69), (.c (.int .i64 22))] },
        { dst := some 71, op := .bin .xor (.s 67) (.s 70) },
        { dst := some 12, op := .mov (.s 71) }])
      (.seq (.ops [{ dst := some 72, op := .idxA 8 1 (.s 7) (.c (.int .i64 0)) },
        { dst := some 73, op := .load 1 false (.s 72) },
        { dst := some 74, op := .idxA 8 1 (.s 7) (.c (.int .i64 1)) },
        { dst := some 75, op := .load 1 false (.s 74) },
        { dst := some 76, op := .bin .and (.s 73) (.s 75) },
        { dst := some 77, op := .idxA 8 1 (.s 7) (.c (.int .i64 0)) },
        { dst := some 78, op := .load 1 false (.s 77) },
        { dst := some 79, op := .idxA 8 1 (.s 7) (.c (.int .i64 2)) },
        { dst := some 80, op := .load 1 false (.s 79) },
        { dst := some 81, op := .bin .and (.s 78) (.s 80) },
        { dst := some 82, op := .bin .xor (.s 76) (.s 81) },
        { dst := some 83, op := .idxA 8 1 (.s 7) (.c (.int .i64 1)) },
        { dst := some 84, op := .load 1 false (.s 83) },
        { dst := some 85, op := .idxA 8 1 (.s 7) (.c (.int .i64 2)) },
        { dst := some 86, op := .load 1 false (.s 85) },
        { dst := some 87, op := .bin .and (.s 84) (.s 86) },
        { dst := some 88, op := .bin .xor (.s 82) (.s 87) },
        { dst := some 13, op := .mov (.s 88) }])
      (.seq (.ops [{ dst := some 89, op := .mov (.s 12) },
        { dst := some 90, op := .mov (.s 13) },
        { dst := some 91, op := .bin .add (.s 89) (.s 90) },
        { dst := some 14, op := .mov (.s 91) }])
      (.ops [{ dst := some 92, op := .mov (.s 11) },
        { dst := some 93, op := .mov (.s 14) },
        { dst := some 94, op := .bin .add (.s 92) (.s 93) },
        { dst := some 95, op := .idxA 8 1 (.s 7) (.c (.int .i64 0)) },
        { dst := some 96, op := .load 1 false (.s 95) },
        { dst := some 97, op := .idxA 8 1 (.s 7) (.c (.int .i64 1)) },
        { dst := some 98, op := .load 1 false (.s 97) },
        { dst := some 99, op := .idxA 8 1 (.s 7) (.c (.int .i64 2)) },
        { dst := some 100, op := .load 1 false (.s 99) },
        { dst := some 101, op := .idxA 8 1 (.s 7) (.c (.int .i64 3)) },
        { dst := some 102, op := .load 1 false (.s 101) },
        { dst := some 103, op := .mov (.s 11) },
        { dst := some 104, op := .bin .add (.s 102) (.s 103) },
        { dst := some 105, op := .idxA 8 1 (.s 7) (.c (.int .i64 4)) },
        { dst := some 106, op := .load 1 false (.s 105) },
        { dst := some 107, op := .idxA 8 1 (.s 7) (.c (.int .i64 5)) },
        { dst := some 108, op := .load 1 false (.s 107) },
        { dst := some 109, op := .idxA 8 1 (.s 7) (.c (.int .i64 6)) },
        { dst := some 110, op := .load 1 false (.s 109) },
        { dst := some 111, op := .bld [(.int .u32 0), (.int .u32 0), (.int .u32 0), (.int .u32 0), (.int .u32 0), (.int .u32 0), (.int .u32 0), (.int .u32 0)] [(0, 1, (.s 94)), (1, 1, (.s 96)), (2, 1, (.s 98)), (3, 1, (.s 100)), (4, 1, (.s 104)), (5, 1, (.s 106)), (6, 1, (.s 108)), (7, 1, (.s 110))] },
        { dst := none, op := .stor 8 (.s 7) (.s 111) }]))))))))
    (.ops [{ dst := some 22, op := .mov (.s 8) },
      { dst := some 23, op := .bin .add (.s 22) (.c (.int .i64 1)) },
      { dst := some 8, op := .mov (.s 23) }]))

def F_wagonpoolref02_block_L1 : PC :=
  .seq (.seq (.ops [{ dst := some 112, op := .mov (.s 15) },
      { dst := some 113, op := .bin .lss (.s 112) (.c (.int .i64 8)) }])
    (.cond (.s 113)
      (.skip)
      (.exit 2)))
    (.seq (.block 3 (.ops [{ dst := some 116, op := .mov (.s 15) },
        { dst := some 117, op := .mov (.s 15) },
        { dst := some 118, op := .idxA 8 1 (.s 2) (.s 117) },
        { dst := some 119, op := .load 1 false (.s 118) },
        { dst := some 120, op := .mov (.s 15) },
        { dst := some 121, op := .idxA 8 1 (.s 7) (.s 120) },
        { dst := some 122, op := .load 1 false (.s 121) },
        { dst := some 123, op := .bin .add (.s 119) (.s 122) },
        { dst := some 124, op := .idxA 8 1 (.s 2) (.s 116) },
        { dst := none, op := .stor 1 (.s 124) (.s 123) }]))
    (.ops [{ dst := some 114, op := .mov (.s 15) },
      { dst := some 115, op := .bin .add (.s 114) (.c (.int .i64 1)) },
      { dst := some 15, op := .mov (.s 115) }]))

def F_wagonpoolref02_block : PF :=
  .mk
    (.seq (.ops [{ dst := some 2, op := .box (.s 0) },
        { dst := some 4, op := .box (.c (.agg [(.int .u32 0), (.int .u32 0), (.int .u32 0), (.int .u32 0), (.int .u32 0), (.int .u32 0), (.int .u32 0), (.int .u32 0)])) }])
      (.seq (.ops [{ dst := some 16, op := .mov (.s 1) },
        { dst := some 17, op := .call 49 [(.s 16)] },
        { dst := some 5, op := .box (.c (.agg [(.int .u32 0), (.int .u32 0), (.int .u32 0), (.int .u32 0), (.int .u32 0), (.int .u32 0), (.int .u32 0), (.int .u32 0), (.int .u32 0), (.int .u32 0), (.int .u32 0), (.int .u32 0), (.int .u32 0), (.int .u32 0), (.int .u32 0), (.int .u32 0), (.int .u32 0), (.int .u32 0), (.int .u32 0), (.int .u32 0), (.int .u32 0), (.int .u32 0), (.int .u32 0), (.int .u32 0), (.int .u32 0), (.int .u32 0), (.int .u32 0), (.int .u32 0), (.int .u32 0), (.int .u32 0), (.int .u32 0), (.int .u32 0), (.int .u32 0), (.int .u32 0), (.int .u32 0), (.int .u32 0), (.int .u32 0), (.int .u32 0), (.int .u32 0), (.int .u32 0), (.int .u32 0), (.int .u32 0), (.int .u32 0), (.int .u32 0), (.int .u32 0), (.int .u32 0), (.int .u32 0), (.int .u32 0), (.int .u32 0), (.int .u32 0), (.int .u32 0), (.int .u32 0), (.int .u32 0), (.int .u32 0), (.int .u32 0), (.int .u32 0), (.int .u32 0), (.int .u32 0), (.int .u32 0), (.int .u32 0), (.int .u32 0), (.int .u32 0), (.int .u32 0), (.int .u32 0)])) },
        { dst := none, op := .stor 64 (.s 5) (.s 17) }])
      (.seq (.ops [{ dst := some 18, op := .call 50 [] },
        { dst := some 6, op := .box (.c (.agg [(.int .u32 0), (.int .u32 0), (.int .u32 0), (.int .u32 0), (.int .u32 0), (.int .u32 0), (.int .u32 0), (.int .u32 0), (.int .u32 0), (.int .u32 0), (.int .u32 0), (.int .u32 0), (.int .u32 0), (.int .u32 0), (.int .u32 0), (.int .u32 0), (.int .u32 0), (.int .u32 0), (.int .u32 0), (.int .u32 0), (.int .u32 0), (.int .u32 0), (.int .u32 0), (.int .u32 0), (.int .u32 0), (.int .u32 0), (.int .u32 0), (.int .u32 0), (.int .u32 0), (.int .u32 0), (.int .u32 0), (.int .u32 0), (.int .u32 0), (.int .u32 0), (.int .u32 0), (.int .u32 0), (.int .u32 0), (.int .u32 0), (.int .u32 0), (.int .u32 0), (.int .u32 0), (.int .u32 0), (.int .u32 0), (.int .u32 0), (.int .u32 0), (.int .u32 0), (.int .u32 0), (.int .u32 0), (.int .u32 0), (.int .u32 0), (.int .u32 0), (.int .u32 0), (.int .u32 0), (.int .u32 0), (.int .u32 0), (.int .u32 0), (.int .u32 0), (.int .u32 0), (.int .u32 0), (.int .u32 0), (.int .u32 0), (.int .u32 0), (.int .u32 0), (.int .u32 0)])) },
        { dst := none, op := .stor 64 (.s 6) (.s 18) }])
      (.seq (.ops [{ dst := some 19, op := .load 8 true (.s 2) },
        { dst := some 7, op := .box (.c (.agg [(.int .u32 0), (.int .u32 0), (.int .u32 0), (.int .u32 0), (.int .u32 0), (.int .u32 0), (.int .u32 0), (.int .u32 0)])) },
        { dst := none, op := .stor 8 (.s 7) (.s 19) }])
      (.seq (.seq (.ops [{ dst := some 8, op := .mov (.c (.int .i64 0)) }])
      (.block 0 (.loop [2, 4, 5, 6, 7, 8] F_wagonpoolref02_block_L0)))
      (.seq (.seq (.ops [{ dst := some 15, op := .mov (.c (.int .i64 0)) }])
      (.block 2 (.loop [2, 4, 7, 15] F_wagonpoolref02_block_L1)))
      (.seq (.ops [{ dst := some 125, op := .load 8 true (.s 2) },
        { dst := none, op := .stor 8 (.s 4) (.s 125) }])
      (.ret))))))))
    [.cell 4 8 true]
theorem tr_wagonpoolref02_block : trF Tryd.prog [31, 16, 37] 48 [[2, 4, 5, 6, 7, 8], [2, 4, 7, 15]] = some F_wagonpoolref02_block := by kernel_rfl

/-! wagonpool/wagonpoolref02.schedule -/
def F_wagonpoolref02_schedule_L0 : PC :=
  .seq (.seq (.ops [{ dst := some 9, op := .mov (.s 4) },
      { dst := some 10, op := .bin .lss (.s 9) (.c (.int .i64 16)) }])
    (.cond (.s 10)
      (.skip)
      (.exit 0)))
    (.seq (.block 1 (.ops [{ dst := some 13, op := .mov (.s 4) },
        { dst := some 14, op := .mov (.s 0) },
        { dst := some 15, op := .mov (.s 4) },
        { dst := some 16, op := .bin .mul (.c (.int .i64 4)) (.s 15) },
        { dst := some 17, op := .idxS 1 (.s 14) (.s 16) },
        { dst := some 18, op := .load 1 false (.s 17) },
        { dst := some 19, op := .conv (.int .u32) (.s 18) },
        { dst := some 20, op := .bin .shl (.s 19) (.c (.int .u64 24)) },
        { dst := some 21, op := .mov (.s 0) },
        { dst := some 22, op := .mov (.s 4) },
        { dst := some 23, op := .bin .mul (.c (.int .i64 4)) (.s 22) },
        { dst := some 24, op := .bin .add (.s 23) (.c (.int .i64 1)) },
        { dst := some 25, op := .idxS 1 (.s 21) (.s 24) },
        { dst := some 26, op := .load 1 false (.s 25) },
        { dst := some 27, op := .conv (.int .u32) (.s 26) },
        { dst := some 28, op := .bin .shl (.s 27) (.c (.int .u64 16)) },
        { dst := some 29, op := .bin .or (.s 20) (.s 28) },
        { dst := some 30, op := .mov (.s 0) },
        { dst := some 31, op := .mov (.s 4) },
        { dst := some 32, op := .bin .mul (.c (.int .i64 4)) (.s 31) },
        { dst := some 33, op := .bin .add (.s 32) (.c (.int .i64 2)) },
        { dst := some 34, op := .idxS 1 (.s 30) (.s 33) },
        { dst := some 35, op := .load 1 false (.s 34) },
        { dst := some 36, op := .conv (.int .u32) (.s 35) },
        { dst := some 37, op := .bin .shl (.s 36) (.c (.int .u64 8)) },
        { dst := some 38, op := .bin .or (.s 29) (.s 37) },
        { dst := some 39, op := .mov (.s 0) },
        { dst := some 40, op := .mov (.s 4) },
        { dst := some 41, op := .bin .mul (.c (.int .i64 4)) (.s 40) },
        { dst := some 42, op := .bin .add (.s 41) (.c (.int .i64 3)) },
        { dst := some 43, op := .idxS 1 (.s 39) (.s 42) },
        { dst := some 44, op := .load 1 false (.s 43) },
        { dst := some 45, op := .conv (.int .u32) (.s 44) },
        { dst := some 46, op := .bin .or (.s 38) (.s 45) },
        { dst := some 47, op := .idxA 64 1 (.s 3) (.s 13) },
        { dst := none, op := .stor 1 (.s 47) (.s 46) }]))
    (.ops [{ dst := some 11, op := .mov (.s 4) },
      { dst := some 12, op := .bin .add (.s 11) (.c (.int .i64 1)) },
      { dst := some 4, op := .mov (.s 12) }]))

def F_wagonpoolref02_schedule_L1 : PC :=
  .seq (.seq (.ops [{ dst := some 48, op := .mov (.s 5) },
      { dst := some 49, op := .bin .lss (.s 48) (.c (.int .i64 64)) }])
    (.cond (.s 49)
      (.skip)
      (.exit 2)))
    (.seq (.block 3 (.seq (.ops [{ dst := some 52, op := .mov (.s 5) },
        { dst := some 53, op := .bin .sub (.s 52) (.c (.int .i64 15)) },
        { dst := some 54, op := .idxA 64 1 (.s 3) (.s 53) },
        { dst := some 55, op := .load 1 false (.s 54) },
        { dst := some 56, op := .call 51 [(.s 55), (.c (.int .i64 7))] },
        { dst := some 57, op := .mov (.s 5) },
        { dst := some 58, op := .bin .sub (.s 57) (.c (.int .i64 15)) },
        { dst := some 59, op := .idxA 64 1 (.s 3) (.s 58) },
        { dst := some 60, op := .load 1 false (.s 59) },
        { dst := some 61, op := .call 51 [(.s 60), (.c (.int .i64 18))] },
        { dst := some 62, op := .bin .xor (.s 56) (.s 61) },
        { dst := some 63, op := .mov (.s 5) },
        { dst := some 64, op := .bin .sub (.s 63) (.c (.int .i64 15)) },
        { dst := some 65, op := .idxA 64 1 (.s 3) (.s 64) },
        { dst := some 66, op := .load 1 false (.s 65) },
        { dst := some 67, op := .bin .shr (.s 66) (.c (.int .u64 3)) },
        { dst := some 68, op := .bin .xor (.s 62) (.s 67) },
        { dst := some 6, op := .mov (.s 68) }])
      (.seq (.ops [{ dst := some 69, op := .mov (.s 5) },
        { dst := some 70, op := .bin .sub (.s 69) (.c (.int .i64 2)) },
        { dst := some 71, op := .idxA 64 1 (.s 3) (.s 70) },
        { dst := some 72, op := .load 1 false (.s 71) },
        { dst := some 73, op := .call 51 [(.s 72), (.c (.int .i64 17))] },
        { dst := some 74, op := .mov (.s 5) },
        { dst := some 75, op := .bin .sub (.s 74) (.c (.int .i64 2)) },
        { dst := some 76, op := .idxA 64 1 (.s 3) (.s 75) },
        { dst := some 77, op := .load 1 false (.s 76) },
        { dst := some 78, op := .call 51 [(.s 77), (.c (.int .i64 19))] },
        { dst := some 79, op := .bin .xor (.s 73) (.s 78) },
        { dst := some 80, op := .mov (.s 5) },
        { dst := some 81, op := .bin .sub (.s 80) (.c (.int .i64 2)) },
        { dst := some 82, op := .idxA 64 1 (.s 3) (.s 81) },
        { dst := some 83, op := .load 1 false (.s 82) },
        { dst := some 84, op := .bin .shr (.s 83) (.c (.int .u64 10)) },
        { dst := some 85, op := .bin .xor (.s 79) (.s 84) },
        { dst := some 7, op := .mov (.s 85) }])
      (.ops [{ dst := some 86, op := .mov (.s 5) },
        { dst := some 87, op := .mov (.s 5) },
        { dst := some 88, op := .bin .sub (.s 87) (.c (.int .i64 16)) },
        { dst := some 89, op := .idxA 64 1 (.s 3) (.s 88) },
        { dst := some 90, op := .load 1 false (.s 89) },
        { dst := some 91, op := .mov (.s 6) },
        { dst := some 92, op := .bin .add (.s 90) (.s 91) },
        { dst := some 93, op := .mov (.s 5) },
        { dst := some 94, op := .bin .sub (.s 93) (.c (.int .i64 7)) },
        { dst := some 95, op := .idxA 64 1 (.s 3) (.s 94) },
        { dst := some 96, op := .load 1 false (.s 95) },
        { dst := some 97, op := .bin .add (.s 92) (.s 96) },
        { dst := some 98, op := .mov (.s 7) },
        { dst := some 99, op := .bin .add (.s 97) (.s 98) },
        { dst := some 100, op := .idxA 64 1 (.s 3) (.s 86) },
        { dst := none, op := .stor 1 (.s 100) (.s 99) }]))))
    (.ops [{ dst := some 50, op := .mov (.s 5) },
      { dst := some 51, op := .bin .add (.s 50) (.c (.int .i64 1)) },
      { dst := some 5, op := .mov (.s 51) }]))

def F_wagonpoolref02_schedule : PF :=
  .mk
    (.seq (.ops [{ dst := some 2, op := .box (.c (.agg [(.int .u32 0), (.int .u32 0), (.int .u32 0), (.int .u32 0), (.int .u32 0), (.int .u32 0), (.int .u32 0), (.int .u32 0), (.int .u32 0), (.int .u32 0), (.int .u32 0), (.int .u32 0), (.int .u32 0), (.int .u32 0), (.int .u32 0), (.int .u32 0), (.int .u32 0), (.int .u32 0), (.int .u32 0), (.int .u32 0), (.int .u32 0), (.int .u32 0), (.int .u32 0), (.int .u32 0), (.int .u32 0), (.int .u32 0), (.int .u32 0), (.int .u32 0), (.int .u32 0), (.int .u32 0), (.int .u32 0), (.int .u32 0), (.int .u32 0), (.int .u32 0), (.int .u32 0), (.int .u32 0), (.int .u32 0), (.int .u32 0), (.int .u32 0), (.int .u32 0), (.int .u32 0), (.int .u32 0), (.int .u32 0), (.int .u32 0), (.int .u32 0), (.int .u32 0), (.int .u32 0), (.int .u32 0), (.int .u32 0), (.int .u32 0), (.int .u32 0), (.int .u32 0), (.int .u32 0), (.int .u32 0), (.int .u32 0), (.int .u32 0), (.int .u32 0), (.int .u32 0), (.int .u32 0), (.int .u32 0), (.int .u32 0), (.int .u32 0), (.int .u32 0), (.int .u32 0)])) }])
      (.seq (.ops [{ dst := some 8, op := .bld [(.int .u32 0), (.int .u32 0), (.int .u32 0), (.int .u32 0), (.int .u32 0), (.int .u32 0), (.int .u32 0), (.int .u32 0), (.int .u32 0), (.int .u32 0), (.int .u32 0), (.int .u32 0), (.int .u32 0), (.int .u32 0), (.int .u32 0), (.int .u32 0), (.int .u32 0), (.int .u32 0), (.int .u32 0), (.int .u32 0), (.int .u32 0), (.int .u32 0), (.int .u32 0), (.int .u32 0), (.int .u32 0), (.int .u32 0), (.int .u32 0), (.int .u32 0), (.int .u32 0), (.int .u32 0), (.int .u32 0), (.int .u32 0), (.int .u32 0), (.int .u32 0), (.int .u32 0), (.int .u32 0), (.int .u32 0), (.int .u32 0), (.int .u32 0), (.int .u32 0), (.int .u32 0), (.int .u32 0), (.int .u32 0), (.int .u32 0), (.int .u32 0), (.int .u32 0), (.int .u32 0), (.int .u32 0), (.int .u32 0), (.int .u32 0), (.int .u32 0), (.int .u32 0), (.int .u32 0), (.int .u32 0), (.int .u32 0), (.int .u32 0), (.int .u32 0), (.int .u32 0), (.int .u32 0), (.int .u32 0), (.int .u32 0), (.int .u32 0), (.int .u32 0), (.int .u32 0)] [] },
        { dst := some 3, op := .box (.c (.agg [(.int .u32 0), (.int .u32 0), (.int .u32 0), (.int .u32 0), (.int .u32 0), (.int .u32 0), (.int .u32 0), (.int .u32 0), (.int .u32 0), (.int .u32 0), (.int .u32 0), (.int .u32 0), (.int .u32 0), (.int .u32 0), (.int .u32 0), (.int .u32 0), (.int .u32 0), (.int .u32 0), (.int .u32 0), (.int .u32 0), (.int .u32 0), (.int .u32 0), (.int .u32 0), (.int .u32 0), (.int .u32 0), (.int .u32 0), (.int .u32 0), (.int .u32 0), (.int .u32 0), (.int .u32 0), (.int .u32 0), (.int .u32 0), (.int .u32 0), (.int .u32 0), (.int .u32 0), (.int .u32 0), (.int .u32 0), (.int .u32 0), (.int .u32 0), (.int .u32 0), (.int .u32 0), (.int .u32 0), (.int .u32 0), (.int .u32 0), (.int .u32 0), (.int .u32 0), (.int .u32 0), (.int .u32 0), (.int .u32 0), (.int .u32 0), (.int .u32 0), (.int .u32 0), (.int .u32 0), (.int .u32 0), (.int .u32 0), (.int .u32 0), (.int .u32 0), (.int .u32 0), (.int .u32 0), (.int .u32 0), (.int .u32 0), (.int .u32 0), (.int .u32 0), (.int .u32 0)])) },
        { dst := none, op := .stor 64 (.s 3) (.s 8) }])
      (.seq (.seq (.ops [{ dst := some 4, op := .mov (.c (.int .i64 0)) }])
      (.block 0 (.loop [0, 2, 3, 4] F_wagonpoolref02_schedule_L0)))
      (.seq (.seq (.ops [{ dst := some 5, op := .mov (.c (.int .i64 16)) }])
      (.block 2 (.loop [2, 3, 5] F_wagonpoolref02_schedule_L1)))
      (.seq (.ops [{ dst := some 101, op := .load 64 true (.s 3) },
        { dst := none, op := .stor 64 (.s 2) (.s 101) }])
      (.ret))))))
    [.cell 2 64 true]
theorem tr_wagonpoolref02_schedule : trF Tryd.prog [31, 16, 37] 49 [[0, 2, 3, 4], [2, 3, 5]] = some F_wagonpoolref02_schedule := by kernel_rfl

/-! wagonpool/wagonpoolref02.constants -/
def F_wagonpoolref02_constants : PF :=
  .mk
    (.seq (.ops [{ dst := some 0, op := .box (.c (.agg [(.int .u32 0), (.int .u32 0), (.int .u32 0), (.int .u32 0), (.int .u32 0), (.int .u32 0), (.int .u32 0), (.int .u32 0), (.int .u32 0), (.int .u32 0), (.int .u32 0), (.int .u32 0), (.int .u32 0), (.int .u32 0), (.int .u32 0), (.int .u32 0), (.int .u32 0), (.int .u32 0), (.int .u32 0), (.int .u32 0), (.int .u32 0), (.int .u32 0), (.int .u32 0), (.int .u32 0), (.int .u32 0), (.int .u32 0), (.int .u32 0), (.int .u32 0), (.int .u32 0), (.int .u32 0), (.int .u32 0), (.int .u32 0), (.int .u32 0), (.int .u32 0), (.int .u32 0), (.int .u32 0), (.int .u32 0), (.int .u32 0), (.int .u32 0), (.int .u32 0), (.int .u32 0), (.int .u32 0), (.int .u32 0), (.int .u32 0), (.int .u32 0), (.int .u32 0), (.int .u32 0), (.int .u32 0), (.int .u32 0), (.int .u32 0), (.int .u32 0), (.int .u32 0), (.int .u32 0), (.int .u32 0), (.int .u32 0), (.int .u32 0), (.int .u32 0), (.int .u32 0), (.int .u32 0), (.int .u32 0), (.int .u32 0), (.int .u32 0), (.int .u32 0), (.int .u32 0)])) }])
      (.seq (.ops [{ dst := some 1, op := .bld [(.int .u32 0), (.int .u32 0), (.int .u32 0), (.int .u32 0), (.int .u32 0), (.int .u32 0), (.int .u32 0), (.int .u32 0), (.int .u32 0), (.int .u32 0), (.int .u32 0), (.int .u32 0), (.int .u32 0), (.int .u32 0), (.int .u32 0), (.int .u32 0), (.int .u32 0), (.int .u32 0), (.int .u32 0), (.int .u32 0), (.int .u32 0), (.int .u32 0), (.int .u32 0), (.int .u32 0), (.int .u32 0), (.int .u32 0), (.int .u32 0), (.int .u32 0), (.int .u32 0), (.int .u32 0), (.int .u32 0), (.int .u32 0), (.int .u32 0), (.int .u32 0), (.int .u32 0), (.int .u32 0), (.int .u32 0), (.int .u32 0), (.int .u32 0), (.int .u32 0), (.int .u32 0), (.int .u32 0), (.int .u32 0), (.int .u32 0), (.int .u32 0), (.int .u32 0), (.int .u32 0), (.int .u32 0), (.int .u32 0), (.int .u32 0), (.int .u32 0), (.int .u32 0), (.int .u32 0), (.int .u32 0), (.int .u32 0), (.int .u32 0), (.int .u32 0), (.int .u32 0), (.int .u32 0), (.int .u32 0), (.int .u32 0), (.int .u32 0), (.int .u32 0), (.int .u32 0)] [(0, 1, (.c (.int .u32 1116352408))), (1, 1, (.c (.int .u32 1899447441))), (2, 1, (.c (.int .u32 3049323471))), (3, 1, (.c (.int .u32 3921009573))), (4, 1, (.c (.int .u32 961987163))), (5, 1, (.c (.int .u32 1508970993))), (6, 1, (.c (.int .u32 2453635748))), (7, 1, (.c (.int .u32 2870763221))), (8, 1, (.c (.int .u32 3624381080))), (9, 1, (.c (.int .u32 310598401))), (10, 1, (.c (.int .u32 607225278))), (11, 1, (.c (.int .u32 1426881987))), (12, 1, (.c (.int .u32 1925078388))), (13, 1, (.c (.int .u32 2162078206))), (14, 1, (.c (.int .u32 2614888103))), (15, 1, (.c (.int .u32 3248222580))), (16, 1, (.c (.int .u32 3835390401))), (17, 1, (.c (.int .u32 4022224774))), (18, 1, (.c (.int .u32 264347078))), (19, 1, (.c (.int .u32 604807628))), (20, 1, (.c (.int .u32 770255983))), (21, 1, (.c (.int .u32 1249150122))), (22, 1, (.c (.int .u32 1555081692))), (23, 1, (.c (.int .u32 1996064986))), (24, 1, (.c (.int .u32 2554220882))), (25, 1, (.c (.int .u32 2821834349))), (26, 1, (.c (.int .u32 2952996808))), (27, 1, (.c (.int .u32 3210313671))), (28, 1, (.c (.int .u32 3336571891))), (29, 1, (.c (.int .u32 3584528711))), (30, 1, (.c (.int .u32 113926993))), (31, 1, (.c (.int .u32 338241895))), (32, 1, (.c (.int .u32 666307205))), (33, 1, (.c (.int .u32 773529912))), (34, 1, (.c (.int .u32 1294757372))), (35, 1, (.c (.int .u32 1396182291))), (36, 1, (.c (.int .u32 1695183700))), (37, 1, (.c (.int .u32 1986661051))), (38, 1, (.c (.int .u32 2177026350))), (39, 1, (.c (.int .u32 2456956037))), (40, 1, (.c (.int .u32 2730485921))), (41, 1, (.c (.int .u32 2820302411))), (42, 1, (.c (.int .u32 3259730800))), (43, 1, (.c (.int .u32 3345764771))), (44, 1, (.c (.int .u32 3516065817))), (45, 1, (.c (.int .u32 3600352804))), (46, 1, (.c (.int .u32 4094571909))), (47, 1, (.c (.int .u32 275423344))), (48, 1, (.c (.int .u32 430227734))), (49, 1, (.c (.int .u32 506948616))), (50, 1, (.c (.int .u32 659060556))), (51, 1, (.c (.int .u32 883997877))), (52, 1, (.c (.int .u32 958139571))), (53, 1, (.c (.int .u32 1322822218))), (54, 1, (.c (.int .u32 1537002063))), (55, 1, (.c (.int .u32 1747873779))), (56, 1, (.c (.int .u32 1955562222))), (57, 1, (.c (.int .u32 2024104815))), (58, 1, (.c (.int .u32 2227730452))), (59, 1, (.c (.int .u32 2361852424))), (60, 1, (.c (.int .u32 2428436474))), (61, 1, (.c (.int .u32 2756734187))), (62, 1, (.c (.int .u32 3204031479))), (63, 1, (.c (.int .u32 3329325298)))] },
        { dst := none, op := .stor 64 (.s 0) (.s 1) }])
      (.ret)))
    [.cell 0 64 true]
theorem tr_wagonpoolref02_constants : trF Tryd.prog [31, 16, 37] 50 [] = some F_wagonpoolref02_constants := by kernel_rfl

/-! wagonpool/wagonpoolref02.rotr -/
def F_wagonpoolref02_rotr : PF :=
  .mk
    (.seq (.ops [{ dst := some 4, op := .mov (.c (.int .u32 0)) }])
      (.seq (.ops [{ dst := some 5, op := .mov (.s 0) },
        { dst := some 6, op := .mov (.s 1) },
        { dst := some 7, op := .bin .shr (.s 5) (.s 6) },
        { dst := some 8, op := .mov (.s 0) },
        { dst := some 9, op := .mov (.s 1) },
        { dst := some 10, op := .bin .sub (.c (.int .i64 32)) (.s 9) },
        { dst := some 11, op := .bin .shl (.s 8) (.s 10) },
        { dst := some 12, op := .bin .or (.s 7) (.s 11) },
        { dst := some 4, op := .mov (.s 12) }])
      (.ret)))
    [.tmp 4]
theorem tr_wagonpoolref02_rotr : trF Tryd.prog [31, 16, 37] 51 [] = some F_wagonpoolref02_rotr := by kernel_rfl

/-! wagonpool/sign.Verify -/
def F_sign_Verify : PF :=
  .mk
    (.seq (.ops [{ dst := some 5, op := .box (.s 2) },
        { dst := some 6, op := .mov (.c (.bool false)) }])
      (.seq (.seq (.ops [{ dst := some 8, op := .mov (.s 1) },
        { dst := some 9, op := .len false (.s 8) },
        { dst := some 10, op := .bin .gtr (.s 9) (.c (.int .i64 65536)) },
        { dst := some 11, op := .mov (.s 10) },
        { dst := some 12, op := .fld 0 (.s 5), guard := some (11, false) },
        { dst := some 13, op := .load 1 false (.s 12), guard := some (11, false) },
        { dst := some 14, op := .bin .geq (.s 13) (.c (.int .u64 1152921504606845399)), guard := some (11, false) },
        { dst := some 15, op := .pick (.s 11) (.c (.bool true)) (.s 14) },
        { dst := some 16, op := .mov (.s 15) },
        { dst := some 17, op := .fld 1 (.s 5), guard := some (16, false) },
        { dst := some 18, op := .load 1 false (.s 17), guard := some (16, false) },
        { dst := some 19, op := .bin .geq (.s 18) (.c (.int .u64 1152921504606845399)), guard := some (16, false) },
        { dst := some 20, op := .pick (.s 16) (.c (.bool true)) (.s 19) },
        { dst := some 21, op := .mov (.s 20) },
        { dst := some 22, op := .mov (.s 0), guard := some (21, false) },
        { dst := some 23, op := .call 21 [(.s 22)], guard := some (21, false) },
        { dst := some 24, op := .un .not (.s 23), guard := some (21, false) },
        { dst := some 25, op := .pick (.s 21) (.c (.bool true)) (.s 24) }])
      (.cond (.s 25)
        (.seq (.ops [{ dst := some 6, op := .mov (.c (.bool false)) }])
        (.ret))
        (.skip)))
      (.seq (.any [({ dst := some 26, op := .mcall 31 [(.c (.int .u64 2305843009213690799))] }, true, []),
        ({ dst := some 27, op := .fld 1 (.s 5) }, false, [0]),
        ({ dst := some 28, op := .load 1 false (.s 27) }, false, [0]),
        ({ dst := some 29, op := .call 15 [(.c (.int .u64 4)), (.s 28)] }, false, []),
        ({ dst := some 30, op := .mov (.s 0) }, false, []),
        ({ dst := some 31, op := .fld 0 (.s 5) }, false, [0]),
        ({ dst := some 32, op := .load 1 false (.s 31) }, false, [0]),
        ({ dst := some 33, op := .bin .sub (.c (.int .u64 1152921504606845399)) (.s 32) }, false, []),
        ({ dst := some 34, op := .call 15 [(.s 30), (.s 33)] }, false, []),
        ({ dst := some 35, op := .callv (.s 26) [(.s 29), (.s 34)] }, false, []),
        ({ dst := some 7, op := .mov (.s 35) }, false, [])])
      (.seq (.ops [{ dst := some 36, op := .mov (.s 7) },
        { dst := some 37, op := .mov (.s 0) },
        { dst := some 38, op := .mov (.s 1) },
        { dst := some 39, op := .call 30 [(.s 36), (.s 37), (.s 38)] },
        { dst := some 40, op := .fld 0 (.s 5) },
        { dst := some 41, op := .load 1 false (.s 40) },
        { dst := some 42, op := .bin .eql (.s 39) (.s 41) },
        { dst := some 6, op := .mov (.s 42) }])
      (.ret)))))
    [.tmp 6]
theorem tr_sign_Verify : trF Tryd.prog [1000031] 20 [] = some F_sign_Verify := by kernel_rfl

end Go.Proofs.YtgnekjlciiefbaaDoor.PI
