/-
  The translations of this seat's functions into pure code, each with the kernel's word that it is the translation. Written by a program (gen.py).
  Conditions: none.
-/
import Derived.Test.YtgppecaeegaooaaEngR
import Derived.KernelRfl
namespace Go.Proofs.Ytgppecaeegaooaa.PI
open Go
def F_wagonpoollaw19_sane : PF :=
  .mk
    (.seq (.ops [{ dst := some 0, op := .mov (.c (.bool false)) }])
      (.seq (.ops [{ dst := some 27, op := .call 28 [(.c (.int .i64 1)), (.c (.int .i64 3))] },
        { dst := some 28, op := .bslc 3 [(.s 27)] },
        { dst := some 29, op := .call 27 [(.s 28)] },
        { dst := some 1, op := .box (.c (.agg [(.str []), (.slc 0 [] true), (.int .i64 0), (.int .i64 0), (.int .i64 0), (.int .i64 0), (.int .i64 0), (.int .i64 0), (.slc 0 [] true)])) },
        { dst := none, op := .stor 9 (.s 1) (.s 29) }])
      (.seq (.ops [{ dst := some 30, op := .call 28 [(.c (.int .i64 3)), (.c (.int .i64 5))] },
        { dst := some 31, op := .bld [(.int .i64 0), (.int .i64 0), (.int .i64 0)] [(0, 1, (.c (.int .i64 0))), (1, 1, (.c (.int .i64 2))), (2, 1, (.c (.int .i64 2)))] },
        { dst := some 32, op := .bslc 3 [(.s 30), (.s 31)] },
        { dst := some 33, op := .call 27 [(.s 32)] },
        { dst := some 2, op := .box (.c (.agg [(.str []), (.slc 0 [] true), (.int .i64 0), (.int .i64 0), (.int .i64 0), (.int .i64 0), (.int .i64 0), (.int .i64 0), (.slc 0 [] true)])) },
        { dst := none, op := .stor 9 (.s 2) (.s 33) }])
      (.seq (.ops [{ dst := some 34, op := .call 28 [(.c (.int .i64 4)), (.c (.int .i64 2))] },
        { dst := some 35, op := .bslc 3 [(.s 34)] },
        { dst := some 36, op := .call 27 [(.s 35)] },
        { dst := some 3, op := .box (.c (.agg [(.str []), (.slc 0 [] true), (.int .i64 0), (.int .i64 0), (.int .i64 0), (.int .i64 0), (.int .i64 0), (.int .i64 0), (.slc 0 [] true)])) },
        { dst := none, op := .stor 9 (.s 3) (.s 36) }])
      (.seq (.ops [{ dst := some 38, op := .load 9 true (.s 1) },
        { dst := some 39, op := .call 13 [(.s 38)] },
        { dst := some 37, op := .mov (.s 39) },
        { dst := some 40, op := .ext (.s 37) 0 },
        { dst := some 41, op := .ext (.s 37) 1 },
        { dst := some 42, op := .ext (.s 37) 2 },
        { dst := some 4, op := .box (.c (.agg [(.int .i64 0), (.int .i64 0), (.int .i64 0), (.int .i64 0), (.int .i64 0), (.int .i64 0), (.int .i64 0), (.int .i64 0), (.int .i64 0), (.int .i64 0), (.int .i64 0), (.int .i64 0), (.int .i64 0), (.int .i64 0), (.int .i64 0), (.int .i64 0)])) },
        { dst := some 5, op := .box (.c (.agg [(.int .i64 0), (.int .i64 0), (.int .i64 0), (.int .i64 0), (.int .i64 0), (.int .i64 0), (.int .i64 0), (.int .i64 0), (.int .i64 0), (.int .i64 0), (.int .i64 0), (.int .i64 0), (.int .i64 0), (.int .i64 0), (.int .i64 0), (.int .i64 0)])) },
        { dst := none, op := .stor 16 (.s 4) (.s 40) },
        { dst := none, op := .stor 16 (.s 5) (.s 41) },
        { dst := some 6, op := .mov (.s 42) }])
      (.seq (.ops [{ dst := some 44, op := .load 9 true (.s 3) },
        { dst := some 45, op := .call 13 [(.s 44)] },
        { dst := some 43, op := .mov (.s 45) },
        { dst := some 46, op := .ext (.s 43) 0 },
        { dst := some 47, op := .ext (.s 43) 1 },
        { dst := some 48, op := .ext (.s 43) 2 },
        { dst := some 7, op := .box (.c (.agg [(.int .i64 0), (.int .i64 0), (.int .i64 0), (.int .i64 0), (.int .i64 0), (.int .i64 0), (.int .i64 0), (.int .i64 0), (.int .i64 0), (.int .i64 0), (.int .i64 0), (.int .i64 0), (.int .i64 0), (.int .i64 0), (.int .i64 0), (.int .i64 0)])) },
        { dst := some 8, op := .box (.c (.agg [(.int .i64 0), (.int .i64 0), (.int .i64 0), (.int .i64 0), (.int .i64 0), (.int .i64 0), (.int .i64 0), (.int .i64 0), (.int .i64 0), (.int .i64 0), (.int .i64 0), (.int .i64 0), (.int .i64 0), (.int .i64 0), (.int .i64 0), (.int .i64 0)])) },
        { dst := none, op := .stor 16 (.s 7) (.s 46) },
        { dst := none, op := .stor 16 (.s 8) (.s 47) },
        { dst := some 9, op := .mov (.s 48) }])
      (.seq (.seq (.ops [{ dst := some 49, op := .mov (.s 6) },
        { dst := some 50, op := .un .not (.s 49) },
        { dst := some 51, op := .mov (.s 50) },
        { dst := some 52, op := .mov (.s 9), guard := some (51, false) },
        { dst := some 53, op := .pick (.s 51) (.c (.bool true)) (.s 52) },
        { dst := some 54, op := .mov (.s 53) },
        { dst := some 55, op := .load 16 true (.s 4), guard := some (54, false) },
        { dst := some 56, op := .bld [(.int .i64 0), (.int .i64 0), (.int .i64 0), (.int .i64 0), (.int .i64 0), (.int .i64 0), (.int .i64 0), (.int .i64 0), (.int .i64 0), (.int .i64 0), (.int .i64 0), (.int .i64 0), (.int .i64 0), (.int .i64 0), (.int .i64 0), (.int .i64 0)] [(4, 1, (.c (.int .i64 1)))], guard := some (54, false) },
        { dst := some 57, op := .aeq [0, 0, 0, 0, 0, 0, 0, 0, 0, 0, 0, 0, 0, 0, 0, 0] true (.s 55) (.s 56), guard := some (54, false) },
        { dst := some 58, op := .pick (.s 54) (.c (.bool true)) (.s 57) },
        { dst := some 59, op := .mov (.s 58) },
        { dst := some 60, op := .idxA 16 1 (.s 5) (.c (.int .i64 4)), guard := some (59, false) },
        { dst := some 61, op := .load 1 false (.s 60), guard := some (59, false) },
        { dst := some 62, op := .bin .neq (.s 61) (.c (.int .i64 3)), guard := some (59, false) },
        { dst := some 63, op := .pick (.s 59) (.c (.bool true)) (.s 62) },
        { dst := some 64, op := .mov (.s 63) },
        { dst := some 65, op := .idxA 16 1 (.s 5) (.c (.int .i64 0)), guard := some (64, false) },
        { dst := some 66, op := .load 1 false (.s 65), guard := some (64, false) },
        { dst := some 67, op := .bin .neq (.s 66) (.c (.int .i64 9007199254740992)), guard := some (64, false) },
        { dst := some 68, op := .pick (.s 64) (.c (.bool true)) (.s 67) },
        { dst := some 69, op := .mov (.s 68) },
        { dst := some 70, op := .idxA 16 1 (.s 5) (.c (.int .i64 15)), guard := some (69, false) },
        { dst := some 71, op := .load 1 false (.s 70), guard := some (69, false) },
        { dst := some 72, op := .bin .neq (.s 71) (.c (.int .i64 9007199254740992)), guard := some (69, false) },
        { dst := some 73, op := .pick (.s 69) (.c (.bool true)) (.s 72) }])
      (.cond (.s 73)
        (.seq (.ops [{ dst := some 0, op := .mov (.c (.bool false)) }])
        (.ret))
        (.skip)))
      (.seq (.ops [{ dst := some 75, op := .load 9 true (.s 1) },
        { dst := some 76, op := .load 9 true (.s 2) },
        { dst := some 77, op := .bslc 9 [(.s 75), (.s 76)] },
        { dst := some 78, op := .call 16 [(.s 77)] },
        { dst := some 79, op := .call 21 [(.s 78)] },
        { dst := some 74, op := .mov (.s 79) },
        { dst := some 80, op := .ext (.s 74) 0 },
        { dst := some 81, op := .ext (.s 74) 1 },
        { dst := some 82, op := .ext (.s 74) 2 },
        { dst := some 83, op := .ext (.s 74) 3 },
        { dst := some 12, op := .box (.c (.agg [(.int .i64 0), (.int .i64 0), (.int .i64 0), (.int .i64 0), (.int .i64 0), (.int .i64 0), (.int .i64 0), (.int .i64 0), (.int .i64 0), (.int .i64 0), (.int .i64 0), (.int .i64 0), (.int .i64 0), (.int .i64 0), (.int .i64 0), (.int .i64 0), (.int .i64 0)])) },
        { dst := some 10, op := .mov (.s 80) },
        { dst := some 11, op := .mov (.s 81) },
        { dst := none, op := .stor 17 (.s 12) (.s 82) },
        { dst := some 13, op := .mov (.s 83) }])
      (.seq (.ops [{ dst := some 85, op := .load 9 true (.s 1) },
        { dst := some 86, op := .load 9 true (.s 3) },
        { dst := some 87, op := .bslc 9 [(.s 85), (.s 86)] },
        { dst := some 88, op := .call 16 [(.s 87)] },
        { dst := some 89, op := .call 21 [(.s 88)] },
        { dst := some 84, op := .mov (.s 89) },
        { dst := some 90, op := .ext (.s 84) 0 },
        { dst := some 91, op := .ext (.s 84) 1 },
        { dst := some 92, op := .ext (.s 84) 2 },
        { dst := some 93, op := .ext (.s 84) 3 },
        { dst := some 16, op := .box (.c (.agg [(.int .i64 0), (.int .i64 0), (.int .i64 0), (.int .i64 0), (.int .i64 0), (.int .i64 0), (.int .i64 0), (.int .i64 0), (.int .i64 0), (.int .i64 0), (.int .i64 0), (.int .i64 0), (.int .i64 0), (.int .i64 0), (.int .i64 0), (.int .i64 0), (.int .i64 0)])) },
        { dst := some 14, op := .mov (.s 90) },
        { dst := some 15, op := .mov (.s 91) },
        { dst := none, op := .stor 17 (.s 16) (.s 92) },
        { dst := some 17, op := .mov (.s 93) }])
      (.seq (.seq (.ops [{ dst := some 94, op := .mov (.s 13) },
        { dst := some 95, op := .un .not (.s 94) },
        { dst := some 96, op := .mov (.s 95) },
        { dst := some 97, op := .mov (.s 10), guard := some (96, false) },
        { dst := some 98, op := .bin .neq (.s 97) (.c (.int .i64 0)), guard := some (96, false) },
        { dst := some 99, op := .pick (.s 96) (.c (.bool true)) (.s 98) },
        { dst := some 100, op := .mov (.s 99) },
        { dst := some 101, op := .mov (.s 11), guard := some (100, false) },
        { dst := some 102, op := .bin .neq (.s 101) (.c (.int .i64 1)), guard := some (100, false) },
        { dst := some 103, op := .pick (.s 100) (.c (.bool true)) (.s 102) },
        { dst := some 104, op := .mov (.s 103) },
        { dst := some 105, op := .mov (.s 17), guard := some (104, false) },
        { dst := some 106, op := .pick (.s 104) (.c (.bool true)) (.s 105) },
        { dst := some 107, op := .mov (.s 106) },
        { dst := some 108, op := .load 17 true (.s 16), guard := some (107, false) },
        { dst := some 109, op := .bld [(.int .i64 0), (.int .i64 0), (.int .i64 0), (.int .i64 0), (.int .i64 0), (.int .i64 0), (.int .i64 0), (.int .i64 0), (.int .i64 0), (.int .i64 0), (.int .i64 0), (.int .i64 0), (.int .i64 0), (.int .i64 0), (.int .i64 0), (.int .i64 0), (.int .i64 0)] [], guard := some (107, false) },
        { dst := some 110, op := .aeq [0, 0, 0, 0, 0, 0, 0, 0, 0, 0, 0, 0, 0, 0, 0, 0, 0] true (.s 108) (.s 109), guard := some (107, false) },
        { dst := some 111, op := .pick (.s 107) (.c (.bool true)) (.s 110) },
        { dst := some 112, op := .mov (.s 111) },
        { dst := some 113, op := .load 17 true (.s 12), guard := some (112, false) },
        { dst := some 114, op := .bld [(.int .i64 0), (.int .i64 0), (.int .i64 0), (.int .i64 0), (.int .i64 0), (.int .i64 0), (.int .i64 0), (.int .i64 0), (.int .i64 0), (.int .i64 0), (.int .i64 0), (.int .i64 0), (.int .i64 0), (.int .i64 0), (.int .i64 0), (.int .i64 0)] [(0, 1, (.c (.int .i64 2))), (4, 1, (.c (.int .i64 3)))], guard := some (112, false) },
        { dst := some 115, op := .call 29 [(.s 114)], guard := some (112, false) },
        { dst := some 116, op := .aeq [0, 0, 0, 0, 0, 0, 0, 0, 0, 0, 0, 0, 0, 0, 0, 0, 0] true (.s 113) (.s 115), guard := some (112, false) },
        { dst := some 117, op := .pick (.s 112) (.c (.bool true)) (.s 116) }])
      (.cond (.s 117)
        (.seq (.ops [{ dst := some 0, op := .mov (.c (.bool false)) }])
        (.ret))
        (.skip)))
      (.seq (.seq (.ops [{ dst := some 118, op := .load 9 true (.s 1) },
        { dst := some 119, op := .bslc 9 [(.s 118)] },
        { dst := some 120, op := .call 16 [(.s 119)] },
        { dst := some 121, op := .call 23 [(.s 120)] },
        { dst := some 122, op := .bin .neq (.s 121) (.c (.int .i64 0)) },
        { dst := some 123, op := .mov (.s 122) },
        { dst := some 124, op := .load 9 true (.s 1), guard := some (123, false) },
        { dst := some 125, op := .load 9 true (.s 2), guard := some (123, false) },
        { dst := some 126, op := .bslc 9 [(.s 124), (.s 125)], guard := some (123, false) },
        { dst := some 127, op := .call 16 [(.s 126)], guard := some (123, false) },
        { dst := some 128, op := .call 23 [(.s 127)], guard := some (123, false) },
        { dst := some 129, op := .bin .neq (.s 128) (.c (.int .i64 190)), guard := some (123, false) },
        { dst := some 130, op := .pick (.s 123) (.c (.bool true)) (.s 129) },
        { dst := some 131, op := .mov (.s 130) },
        { dst := some 132, op := .load 9 true (.s 1), guard := some (131, false) },
        { dst := some 133, op := .load 9 true (.s 3), guard := some (131, false) },
        { dst := some 134, op := .bslc 9 [(.s 132), (.s 133)], guard := some (131, false) },
        { dst := some 135, op := .call 16 [(.s 134)], guard := some (131, false) },
        { dst := some 136, op := .call 23 [(.s 135)], guard := some (131, false) },
        { dst := some 137, op := .bin .neq (.s 136) (.c (.int .i64 190)), guard := some (131, false) },
        { dst := some 138, op := .pick (.s 131) (.c (.bool true)) (.s 137) }])
      (.cond (.s 138)
        (.seq (.ops [{ dst := some 0, op := .mov (.c (.bool false)) }])
        (.ret))
        (.skip)))
      (.seq (.seq (.ops [{ dst := some 139, op := .load 9 true (.s 1) },
        { dst := some 140, op := .bslc 9 [(.s 139)] },
        { dst := some 141, op := .call 16 [(.s 140)] },
        { dst := some 142, op := .call 28 [(.c (.int .i64 1)), (.c (.int .i64 3))] },
        { dst := some 143, op := .call 30 [(.s 141), (.s 142), (.c (.int .i64 (-1)))] },
        { dst := some 144, op := .un .not (.s 143) },
        { dst := some 145, op := .mov (.s 144) },
        { dst := some 146, op := .load 9 true (.s 1), guard := some (145, false) },
        { dst := some 147, op := .bslc 9 [(.s 146)], guard := some (145, false) },
        { dst := some 148, op := .call 16 [(.s 147)], guard := some (145, false) },
        { dst := some 149, op := .call 28 [(.c (.int .i64 1)), (.c (.int .i64 4))], guard := some (145, false) },
        { dst := some 150, op := .call 30 [(.s 148), (.s 149), (.c (.int .i64 4))], guard := some (145, false) },
        { dst := some 151, op := .un .not (.s 150), guard := some (145, false) },
        { dst := some 152, op := .pick (.s 145) (.c (.bool true)) (.s 151) },
        { dst := some 153, op := .mov (.s 152) },
        { dst := some 154, op := .load 9 true (.s 1), guard := some (153, false) },
        { dst := some 155, op := .bslc 9 [(.s 154)], guard := some (153, false) },
        { dst := some 156, op := .call 16 [(.s 155)], guard := some (153, false) },
        { dst := some 157, op := .call 28 [(.c (.int .i64 0)), (.c (.int .i64 3))], guard := some (153, false) },
        { dst := some 158, op := .call 30 [(.s 156), (.s 157), (.c (.int .i64 0))], guard := some (153, false) },
        { dst := some 159, op := .un .not (.s 158), guard := some (153, false) },
        { dst := some 160, op := .pick (.s 153) (.c (.bool true)) (.s 159) },
        { dst := some 161, op := .mov (.s 160) },
        { dst := some 162, op := .load 9 true (.s 1), guard := some (161, false) },
        { dst := some 163, op := .load 9 true (.s 2), guard := some (161, false) },
        { dst := some 164, op := .bslc 9 [(.s 162), (.s 163)], guard := some (161, false) },
        { dst := some 165, op := .call 16 [(.s 164)], guard := some (161, false) },
        { dst := some 166, op := .call 28 [(.c (.int .i64 2)), (.c (.int .i64 5))], guard := some (161, false) },
        { dst := some 167, op := .call 30 [(.s 165), (.s 166), (.c (.int .i64 4))], guard := some (161, false) },
        { dst := some 168, op := .un .not (.s 167), guard := some (161, false) },
        { dst := some 169, op := .pick (.s 161) (.c (.bool true)) (.s 168) }])
      (.cond (.s 169)
        (.seq (.ops [{ dst := some 0, op := .mov (.c (.bool false)) }])
        (.ret))
        (.skip)))
      (.seq (.ops [{ dst := some 171, op := .load 9 true (.s 1) },
        { dst := some 172, op := .bslc 9 [(.s 171)] },
        { dst := some 173, op := .call 16 [(.s 172)] },
        { dst := some 174, op := .call 28 [(.c (.int .i64 3)), (.c (.int .i64 2))] },
        { dst := some 175, op := .bslc 3 [(.s 174)] },
        { dst := some 176, op := .call 17 [(.s 173), (.s 175)] },
        { dst := some 170, op := .mov (.s 176) },
        { dst := some 177, op := .ext (.s 170) 0 },
        { dst := some 178, op := .ext (.s 170) 1 },
        { dst := some 179, op := .ext (.s 170) 2 },
        { dst := some 18, op := .box (.c (.agg [(.int .i64 0), (.int .i64 0), (.int .i64 0), (.int .i64 0), (.int .i64 0), (.int .i64 0), (.int .i64 0), (.int .i64 0), (.int .i64 0), (.int .i64 0), (.int .i64 0), (.int .i64 0), (.int .i64 0), (.int .i64 0), (.int .i64 0), (.int .i64 0), (.int .i64 0)])) },
        { dst := none, op := .stor 17 (.s 18) (.s 177) },
        { dst := some 19, op := .mov (.s 178) },
        { dst := some 20, op := .mov (.s 179) }])
      (.seq (.ops [{ dst := some 181, op := .load 9 true (.s 1) },
        { dst := some 182, op := .bslc 9 [(.s 181)] },
        { dst := some 183, op := .call 16 [(.s 182)] },
        { dst := some 184, op := .call 28 [(.c (.int .i64 1)), (.c (.int .i64 1))] },
        { dst := some 185, op := .call 28 [(.c (.int .i64 2)), (.c (.int .i64 2))] },
        { dst := some 186, op := .bslc 3 [(.s 184), (.s 185)] },
        { dst := some 187, op := .call 17 [(.s 183), (.s 186)] },
        { dst := some 180, op := .mov (.s 187) },
        { dst := some 188, op := .ext (.s 180) 0 },
        { dst := some 189, op := .ext (.s 180) 1 },
        { dst := some 190, op := .ext (.s 180) 2 },
        { dst := some 21, op := .box (.c (.agg [(.int .i64 0), (.int .i64 0), (.int .i64 0), (.int .i64 0), (.int .i64 0), (.int .i64 0), (.int .i64 0), (.int .i64 0), (.int .i64 0), (.int .i64 0), (.int .i64 0), (.int .i64 0), (.int .i64 0), (.int .i64 0), (.int .i64 0), (.int .i64 0), (.int .i64 0)])) },
        { dst := none, op := .stor 17 (.s 21) (.s 188) },
        { dst := some 22, op := .mov (.s 189) },
        { dst := some 23, op := .mov (.s 190) }])
      (.seq (.ops [{ dst := some 192, op := .mkslc 9 112 (.agg [(.str []), (.slc 0 [] true), (.int .i64 0), (.int .i64 0), (.int .i64 0), (.int .i64 0), (.int .i64 0), (.int .i64 0), (.slc 0 [] true)]) (.c (.int .i64 17)) (.c (.int .i64 17)) },
        { dst := some 193, op := .bld [(.str []), (.int .i64 0), (.slc 0 [] true)] [(2, 1, (.s 192))] },
        { dst := some 194, op := .call 17 [(.s 193), (.c (.slc 0 [] true))] },
        { dst := some 191, op := .mov (.s 194) },
        { dst := some 195, op := .ext (.s 191) 0 },
        { dst := some 196, op := .ext (.s 191) 1 },
        { dst := some 197, op := .ext (.s 191) 2 },
        { dst := some 24, op := .box (.c (.agg [(.int .i64 0), (.int .i64 0), (.int .i64 0), (.int .i64 0), (.int .i64 0), (.int .i64 0), (.int .i64 0), (.int .i64 0), (.int .i64 0), (.int .i64 0), (.int .i64 0), (.int .i64 0), (.int .i64 0), (.int .i64 0), (.int .i64 0), (.int .i64 0), (.int .i64 0)])) },
        { dst := none, op := .stor 17 (.s 24) (.s 195) },
        { dst := some 25, op := .mov (.s 196) },
        { dst := some 26, op := .mov (.s 197) }])
      (.seq (.ops [{ dst := some 198, op := .mov (.s 20) },
        { dst := some 199, op := .bin .eql (.s 198) (.c (.int .i64 1)) },
        { dst := some 200, op := .mov (.s 199) },
        { dst := some 201, op := .mov (.s 23), guard := some (200, true) },
        { dst := some 202, op := .bin .eql (.s 201) (.c (.int .i64 1)), guard := some (200, true) },
        { dst := some 203, op := .pick (.s 200) (.s 202) (.c (.bool false)) },
        { dst := some 204, op := .mov (.s 203) },
        { dst := some 205, op := .mov (.s 26), guard := some (204, true) },
        { dst := some 206, op := .bin .eql (.s 205) (.c (.int .i64 2)), guard := some (204, true) },
        { dst := some 207, op := .pick (.s 204) (.s 206) (.c (.bool false)) },
        { dst := some 0, op := .mov (.s 207) }])
      (.ret)))))))))))))))))
    [.tmp 0]
theorem tr_wagonpoollaw19_sane : trF Try.prog [36, 56] 10 [] = some F_wagonpoollaw19_sane := by kernel_rfl
def F_tbox_Box : PF :=
  .mk
    (.seq (.ops [{ dst := some 1, op := .box (.s 0) },
        { dst := some 2, op := .box (.c (.agg [(.int .i64 0), (.int .i64 0), (.int .i64 0), (.int .i64 0), (.int .i64 0), (.int .i64 0), (.int .i64 0), (.int .i64 0), (.int .i64 0), (.int .i64 0), (.int .i64 0), (.int .i64 0), (.int .i64 0), (.int .i64 0), (.int .i64 0), (.int .i64 0)])) },
        { dst := some 3, op := .box (.c (.agg [(.int .i64 0), (.int .i64 0), (.int .i64 0), (.int .i64 0), (.int .i64 0), (.int .i64 0), (.int .i64 0), (.int .i64 0), (.int .i64 0), (.int .i64 0), (.int .i64 0), (.int .i64 0), (.int .i64 0), (.int .i64 0), (.int .i64 0), (.int .i64 0)])) },
        { dst := some 4, op := .mov (.c (.bool false)) }])
      (.seq (.ops [{ dst := some 7, op := .load 9 true (.s 1) },
        { dst := some 8, op := .call 34 [(.s 7)] },
        { dst := some 6, op := .mov (.s 8) },
        { dst := some 9, op := .ext (.s 6) 0 },
        { dst := some 10, op := .ext (.s 6) 1 },
        { dst := some 5, op := .box (.c (.agg [(.int .i64 0), (.int .i64 0), (.int .i64 0), (.int .i64 0), (.int .i64 0), (.int .i64 0), (.int .i64 0), (.int .i64 0), (.int .i64 0), (.int .i64 0), (.int .i64 0), (.int .i64 0), (.int .i64 0), (.int .i64 0), (.int .i64 0), (.int .i64 0), (.int .i64 0), (.int .i64 0), (.int .i64 0), (.int .i64 0), (.int .i64 0), (.int .i64 0), (.int .i64 0), (.int .i64 0), (.int .i64 0), (.int .i64 0), (.int .i64 0), (.int .i64 0), (.int .i64 0), (.int .i64 0), (.int .i64 0), (.int .i64 0)])) },
        { dst := none, op := .stor 32 (.s 5) (.s 9) },
        { dst := some 4, op := .mov (.s 10) }])
      (.seq (.any [({ dst := some 11, op := .fld 0 (.s 5) }, false, []),
        ({ dst := some 12, op := .load 16 true (.s 11) }, false, []),
        ({ dst := some 13, op := .fld 16 (.s 5) }, true, []),
        ({ dst := some 14, op := .load 16 true (.s 13) }, true, []),
        ({ dst := some 15, op := .mov (.s 4) }, false, []),
        ({ dst := none, op := .stor 16 (.s 2) (.s 12) }, false, [2, 3]),
        ({ dst := none, op := .stor 16 (.s 3) (.s 14) }, false, []),
        ({ dst := some 4, op := .mov (.s 15) }, false, [])])
      (.ret))))
    [.cell 2 16 true, .cell 3 16 true, .tmp 4]
theorem tr_tbox_Box : trF Try.prog [36, 56] 13 [] = some F_tbox_Box := by kernel_rfl
def F_wagonpoollaw19_tariff : PF :=
  .mk
    (.seq (.ops [{ dst := some 2, op := .box (.c (.agg [(.str []), (.int .i64 0), (.slc 0 [] true)])) }])
      (.seq (.ops [{ dst := some 3, op := .mov (.s 0) },
        { dst := some 4, op := .bld [(.str []), (.int .i64 0), (.slc 0 [] true)] [(2, 1, (.s 3))] },
        { dst := none, op := .stor 3 (.s 2) (.s 4) }])
      (.ret)))
    [.cell 2 3 true]
theorem tr_wagonpoollaw19_tariff : trF Try.prog [36, 56] 16 [] = some F_wagonpoollaw19_tariff := by kernel_rfl
def F_tbox_Gap_L0 : PC :=
  .seq (.ops [{ dst := some 32, op := .bin .lss (.s 31) (.s 30) }])
    (.seq (.cond (.s 32)
      (.skip)
      (.exit 0))
    (.seq (.block 1 (.seq (.ops [{ dst := some 33, op := .idxS 9 (.s 29) (.s 31) },
        { dst := some 34, op := .load 9 true (.s 33) },
        { dst := some 11, op := .box (.c (.agg [(.str []), (.slc 0 [] true), (.int .i64 0), (.int .i64 0), (.int .i64 0), (.int .i64 0), (.int .i64 0), (.int .i64 0), (.slc 0 [] true)])) },
        { dst := none, op := .stor 9 (.s 11) (.s 34) }])
      (.seq (.ops [{ dst := some 36, op := .load 9 true (.s 11) },
        { dst := some 37, op := .call 34 [(.s 36)] },
        { dst := some 35, op := .mov (.s 37) },
        { dst := some 38, op := .ext (.s 35) 0 },
        { dst := some 39, op := .ext (.s 35) 1 },
        { dst := some 12, op := .box (.c (.agg [(.int .i64 0), (.int .i64 0), (.int .i64 0), (.int .i64 0), (.int .i64 0), (.int .i64 0), (.int .i64 0), (.int .i64 0), (.int .i64 0), (.int .i64 0), (.int .i64 0), (.int .i64 0), (.int .i64 0), (.int .i64 0), (.int .i64 0), (.int .i64 0), (.int .i64 0), (.int .i64 0), (.int .i64 0), (.int .i64 0), (.int .i64 0), (.int .i64 0), (.int .i64 0), (.int .i64 0), (.int .i64 0), (.int .i64 0), (.int .i64 0), (.int .i64 0), (.int .i64 0), (.int .i64 0), (.int .i64 0), (.int .i64 0)])) },
        { dst := none, op := .stor 32 (.s 12) (.s 38) },
        { dst := some 13, op := .mov (.s 39) }])
      (.seq (.ops [{ dst := some 40, op := .mov (.s 13) }])
      (.cond (.s 40)
        (.ops [{ dst := some 41, op := .mov (.s 9) },
          { dst := some 42, op := .load 32 true (.s 12) },
          { dst := some 43, op := .bslc 32 [(.s 42)] },
          { dst := some 44, op := .app 32 256 (.s 41) (.s 43) },
          { dst := some 9, op := .mov (.s 44) }])
        (.skip))))))
    (.ops [{ dst := some 45, op := .bin .add (.s 31) (.c (.int .i64 1)) },
      { dst := some 31, op := .mov (.s 45) }])))
def F_tbox_Gap : PF :=
  .mk
    (.seq (.ops [{ dst := some 2, op := .box (.s 0) },
        { dst := some 4, op := .box (.c (.agg [(.int .i64 0), (.int .i64 0), (.int .i64 0), (.int .i64 0), (.int .i64 0), (.int .i64 0), (.int .i64 0), (.int .i64 0), (.int .i64 0), (.int .i64 0), (.int .i64 0), (.int .i64 0), (.int .i64 0), (.int .i64 0), (.int .i64 0), (.int .i64 0), (.int .i64 0)])) },
        { dst := some 5, op := .mov (.c (.bool false)) },
        { dst := some 6, op := .mov (.c (.int .i64 0)) }])
      (.seq (.ops [{ dst := some 16, op := .mov (.s 1) },
        { dst := some 17, op := .call 35 [(.s 16)] },
        { dst := some 15, op := .mov (.s 17) },
        { dst := some 18, op := .ext (.s 15) 0 },
        { dst := some 19, op := .ext (.s 15) 1 },
        { dst := some 7, op := .box (.c (.agg [(.int .i64 0), (.int .i64 0), (.int .i64 0), (.int .i64 0), (.int .i64 0), (.int .i64 0), (.int .i64 0), (.int .i64 0), (.int .i64 0), (.int .i64 0), (.int .i64 0), (.int .i64 0), (.int .i64 0), (.int .i64 0), (.int .i64 0), (.int .i64 0), (.int .i64 0), (.int .i64 0), (.int .i64 0), (.int .i64 0), (.int .i64 0), (.int .i64 0), (.int .i64 0), (.int .i64 0), (.int .i64 0), (.int .i64 0), (.int .i64 0), (.int .i64 0), (.int .i64 0), (.int .i64 0), (.int .i64 0), (.int .i64 0)])) },
        { dst := none, op := .stor 32 (.s 7) (.s 18) },
        { dst := some 8, op := .mov (.s 19) }])
      (.seq (.seq (.ops [{ dst := some 20, op := .mov (.s 8) },
        { dst := some 21, op := .un .not (.s 20) }])
      (.cond (.s 21)
        (.seq (.ops [{ dst := some 22, op := .bld [(.int .i64 0), (.int .i64 0), (.int .i64 0), (.int .i64 0), (.int .i64 0), (.int .i64 0), (.int .i64 0), (.int .i64 0), (.int .i64 0), (.int .i64 0), (.int .i64 0), (.int .i64 0), (.int .i64 0), (.int .i64 0), (.int .i64 0), (.int .i64 0), (.int .i64 0)] [] },
          { dst := none, op := .stor 17 (.s 4) (.s 22) },
          { dst := some 5, op := .mov (.c (.bool false)) },
          { dst := some 6, op := .mov (.c (.int .i64 1)) }])
        (.ret))
        (.skip)))
      (.seq (.seq (.ops [{ dst := some 23, op := .fld 2 (.s 2) },
        { dst := some 24, op := .load 1 false (.s 23) },
        { dst := some 25, op := .len false (.s 24) },
        { dst := some 26, op := .bin .gtr (.s 25) (.c (.int .i64 16)) }])
      (.cond (.s 26)
        (.seq (.ops [{ dst := some 27, op := .bld [(.int .i64 0), (.int .i64 0), (.int .i64 0), (.int .i64 0), (.int .i64 0), (.int .i64 0), (.int .i64 0), (.int .i64 0), (.int .i64 0), (.int .i64 0), (.int .i64 0), (.int .i64 0), (.int .i64 0), (.int .i64 0), (.int .i64 0), (.int .i64 0), (.int .i64 0)] [] },
          { dst := none, op := .stor 17 (.s 4) (.s 27) },
          { dst := some 5, op := .mov (.c (.bool false)) },
          { dst := some 6, op := .mov (.c (.int .i64 2)) }])
        (.ret))
        (.skip)))
      (.seq (.ops [{ dst := some 9, op := .mov (.c (.slc 0 [] true)) }])
      (.seq (.seq (.ops [{ dst := some 28, op := .fld 2 (.s 2) },
        { dst := some 29, op := .load 1 false (.s 28) },
        { dst := some 30, op := .len false (.s 29) },
        { dst := some 31, op := .mov (.c (.int .i64 0)) }])
      (.block 0 (.loop [4, 7, 9, 29, 30, 31] F_tbox_Gap_L0)))
      (.seq (.ops [{ dst := some 46, op := .fld 0 (.s 7) },
        { dst := some 47, op := .load 16 true (.s 46) },
        { dst := some 14, op := .box (.c (.agg [(.int .i64 0), (.int .i64 0), (.int .i64 0), (.int .i64 0), (.int .i64 0), (.int .i64 0), (.int .i64 0), (.int .i64 0), (.int .i64 0), (.int .i64 0), (.int .i64 0), (.int .i64 0), (.int .i64 0), (.int .i64 0), (.int .i64 0), (.int .i64 0)])) },
        { dst := none, op := .stor 16 (.s 14) (.s 47) }])
      (.seq (.seq (.ops [{ dst := some 48, op := .load 32 true (.s 7) },
        { dst := some 49, op := .mov (.s 9) },
        { dst := some 50, op := .icall 36 [(.s 48), (.s 49), (.s 14)] },
        { dst := some 51, op := .un .not (.s 50) }])
      (.cond (.s 51)
        (.seq (.ops [{ dst := some 52, op := .bld [(.int .i64 0), (.int .i64 0), (.int .i64 0), (.int .i64 0), (.int .i64 0), (.int .i64 0), (.int .i64 0), (.int .i64 0), (.int .i64 0), (.int .i64 0), (.int .i64 0), (.int .i64 0), (.int .i64 0), (.int .i64 0), (.int .i64 0), (.int .i64 0), (.int .i64 0)] [] },
          { dst := none, op := .stor 17 (.s 4) (.s 52) },
          { dst := some 5, op := .mov (.c (.bool false)) },
          { dst := some 6, op := .mov (.c (.int .i64 0)) }])
        (.ret))
        (.skip)))
      (.seq (.ops [{ dst := some 53, op := .load 16 true (.s 14) },
        { dst := some 54, op := .call 37 [(.s 53)] },
        { dst := none, op := .stor 17 (.s 4) (.s 54) },
        { dst := some 5, op := .mov (.c (.bool true)) },
        { dst := some 6, op := .mov (.c (.int .i64 0)) }])
      (.ret))))))))))
    [.cell 4 17 true, .tmp 5, .tmp 6]
theorem tr_tbox_Gap : trF Try.prog [36, 56] 17 [[4, 7, 9, 29, 30, 31]] = some F_tbox_Gap := by kernel_rfl
def F_tbox_Overlap_L0 : PC :=
  .seq (.ops [{ dst := some 26, op := .bin .lss (.s 25) (.s 24) }])
    (.seq (.cond (.s 26)
      (.skip)
      (.exit 0))
    (.seq (.block 1 (.seq (.ops [{ dst := some 27, op := .mov (.s 25) },
        { dst := some 28, op := .idxS 9 (.s 23) (.s 25) },
        { dst := some 29, op := .load 9 true (.s 28) },
        { dst := some 9, op := .box (.c (.agg [(.str []), (.slc 0 [] true), (.int .i64 0), (.int .i64 0), (.int .i64 0), (.int .i64 0), (.int .i64 0), (.int .i64 0), (.slc 0 [] true)])) },
        { dst := some 8, op := .mov (.s 27) },
        { dst := none, op := .stor 9 (.s 9) (.s 29) }])
      (.ops [{ dst := some 31, op := .mov (.s 6) },
        { dst := some 32, op := .mov (.s 8) },
        { dst := some 33, op := .mov (.s 7) },
        { dst := some 34, op := .mov (.s 8) },
        { dst := some 35, op := .load 9 true (.s 9) },
        { dst := some 36, op := .call 34 [(.s 35)] },
        { dst := some 30, op := .mov (.s 36) },
        { dst := some 37, op := .ext (.s 30) 0 },
        { dst := some 38, op := .ext (.s 30) 1 },
        { dst := some 39, op := .idxS 32 (.s 31) (.s 32) },
        { dst := none, op := .stor 32 (.s 39) (.s 37) },
        { dst := some 40, op := .idxS 1 (.s 33) (.s 34) },
        { dst := none, op := .stor 1 (.s 40) (.s 38) }])))
    (.ops [{ dst := some 41, op := .bin .add (.s 25) (.c (.int .i64 1)) },
      { dst := some 25, op := .mov (.s 41) }])))
def F_tbox_Overlap_L1 : PC :=
  .seq (.seq (.ops [{ dst := some 49, op := .mov (.s 11) },
      { dst := some 50, op := .mov (.s 6) },
      { dst := some 51, op := .len false (.s 50) },
      { dst := some 52, op := .bin .lss (.s 49) (.s 51) }])
    (.cond (.s 52)
      (.skip)
      (.exit 4)))
    (.seq (.block 5 (.seq (.ops [{ dst := some 56, op := .mov (.s 6) },
        { dst := some 57, op := .mov (.s 10) },
        { dst := some 58, op := .idxS 32 (.s 56) (.s 57) },
        { dst := some 59, op := .load 32 true (.s 58) },
        { dst := some 60, op := .mov (.s 6) },
        { dst := some 61, op := .mov (.s 11) },
        { dst := some 62, op := .idxS 32 (.s 60) (.s 61) },
        { dst := some 63, op := .load 32 true (.s 62) },
        { dst := some 64, op := .call 39 [(.s 59), (.s 63)] },
        { dst := some 55, op := .mov (.s 64) },
        { dst := some 65, op := .ext (.s 55) 0 },
        { dst := some 66, op := .ext (.s 55) 1 },
        { dst := some 12, op := .box (.c (.agg [(.int .i64 0), (.int .i64 0), (.int .i64 0), (.int .i64 0), (.int .i64 0), (.int .i64 0), (.int .i64 0), (.int .i64 0), (.int .i64 0), (.int .i64 0), (.int .i64 0), (.int .i64 0), (.int .i64 0), (.int .i64 0), (.int .i64 0), (.int .i64 0), (.int .i64 0), (.int .i64 0), (.int .i64 0), (.int .i64 0), (.int .i64 0), (.int .i64 0), (.int .i64 0), (.int .i64 0), (.int .i64 0), (.int .i64 0), (.int .i64 0), (.int .i64 0), (.int .i64 0), (.int .i64 0), (.int .i64 0), (.int .i64 0)])) },
        { dst := none, op := .stor 32 (.s 12) (.s 65) },
        { dst := some 13, op := .mov (.s 66) }])
      (.seq (.ops [{ dst := some 67, op := .mov (.s 13) },
        { dst := some 68, op := .mov (.s 67) },
        { dst := some 69, op := .mov (.s 7), guard := some (68, true) },
        { dst := some 70, op := .mov (.s 10), guard := some (68, true) },
        { dst := some 71, op := .idxS 1 (.s 69) (.s 70), guard := some (68, true) },
        { dst := some 72, op := .load 1 false (.s 71), guard := some (68, true) },
        { dst := some 73, op := .pick (.s 68) (.s 72) (.c (.bool false)) },
        { dst := some 74, op := .mov (.s 73) },
        { dst := some 75, op := .mov (.s 7), guard := some (74, true) },
        { dst := some 76, op := .mov (.s 11), guard := some (74, true) },
        { dst := some 77, op := .idxS 1 (.s 75) (.s 76), guard := some (74, true) },
        { dst := some 78, op := .load 1 false (.s 77), guard := some (74, true) },
        { dst := some 79, op := .pick (.s 74) (.s 78) (.c (.bool false)) }])
      (.cond (.s 79)
        (.seq (.ops [{ dst := some 80, op := .mov (.s 10) },
          { dst := some 81, op := .mov (.s 11) },
          { dst := some 82, op := .fld 0 (.s 12) },
          { dst := some 83, op := .load 16 true (.s 82) },
          { dst := some 84, op := .call 37 [(.s 83)] },
          { dst := some 2, op := .mov (.s 80) },
          { dst := some 3, op := .mov (.s 81) },
          { dst := none, op := .stor 17 (.s 4) (.s 84) },
          { dst := some 5, op := .mov (.c (.bool true)) }])
        (.ret))
        (.skip)))))
    (.ops [{ dst := some 53, op := .mov (.s 11) },
      { dst := some 54, op := .bin .add (.s 53) (.c (.int .i64 1)) },
      { dst := some 11, op := .mov (.s 54) }]))
def F_tbox_Overlap_L2 : PC :=
  .seq (.ops [{ dst := some 45, op := .bin .lss (.s 44) (.s 43) }])
    (.seq (.cond (.s 45)
      (.skip)
      (.exit 2))
    (.seq (.block 3 (.seq (.ops [{ dst := some 46, op := .mov (.s 44) },
        { dst := some 10, op := .mov (.s 46) }])
      (.seq (.ops [{ dst := some 47, op := .mov (.s 10) },
        { dst := some 48, op := .bin .add (.s 47) (.c (.int .i64 1)) },
        { dst := some 11, op := .mov (.s 48) }])
      (.block 4 (.loop [4, 6, 7, 10, 11, 43, 44] F_tbox_Overlap_L1)))))
    (.ops [{ dst := some 85, op := .bin .add (.s 44) (.c (.int .i64 1)) },
      { dst := some 44, op := .mov (.s 85) }])))
def F_tbox_Overlap : PF :=
  .mk
    (.seq (.ops [{ dst := some 1, op := .box (.s 0) },
        { dst := some 2, op := .mov (.c (.int .i64 0)) },
        { dst := some 3, op := .mov (.c (.int .i64 0)) },
        { dst := some 4, op := .box (.c (.agg [(.int .i64 0), (.int .i64 0), (.int .i64 0), (.int .i64 0), (.int .i64 0), (.int .i64 0), (.int .i64 0), (.int .i64 0), (.int .i64 0), (.int .i64 0), (.int .i64 0), (.int .i64 0), (.int .i64 0), (.int .i64 0), (.int .i64 0), (.int .i64 0), (.int .i64 0)])) },
        { dst := some 5, op := .mov (.c (.bool false)) }])
      (.seq (.ops [{ dst := some 14, op := .fld 2 (.s 1) },
        { dst := some 15, op := .load 1 false (.s 14) },
        { dst := some 16, op := .len false (.s 15) },
        { dst := some 17, op := .mkslc 32 256 (.agg [(.int .i64 0), (.int .i64 0), (.int .i64 0), (.int .i64 0), (.int .i64 0), (.int .i64 0), (.int .i64 0), (.int .i64 0), (.int .i64 0), (.int .i64 0), (.int .i64 0), (.int .i64 0), (.int .i64 0), (.int .i64 0), (.int .i64 0), (.int .i64 0), (.int .i64 0), (.int .i64 0), (.int .i64 0), (.int .i64 0), (.int .i64 0), (.int .i64 0), (.int .i64 0), (.int .i64 0), (.int .i64 0), (.int .i64 0), (.int .i64 0), (.int .i64 0), (.int .i64 0), (.int .i64 0), (.int .i64 0), (.int .i64 0)]) (.s 16) (.s 16) },
        { dst := some 6, op := .mov (.s 17) }])
      (.seq (.ops [{ dst := some 18, op := .fld 2 (.s 1) },
        { dst := some 19, op := .load 1 false (.s 18) },
        { dst := some 20, op := .len false (.s 19) },
        { dst := some 21, op := .mkslc 1 1 (.bool false) (.s 20) (.s 20) },
        { dst := some 7, op := .mov (.s 21) }])
      (.seq (.seq (.ops [{ dst := some 22, op := .fld 2 (.s 1) },
        { dst := some 23, op := .load 1 false (.s 22) },
        { dst := some 24, op := .len false (.s 23) },
        { dst := some 25, op := .mov (.c (.int .i64 0)) }])
      (.block 0 (.loop [4, 6, 7, 23, 24, 25] F_tbox_Overlap_L0)))
      (.seq (.seq (.ops [{ dst := some 42, op := .mov (.s 6) },
        { dst := some 43, op := .len false (.s 42) },
        { dst := some 44, op := .mov (.c (.int .i64 0)) }])
      (.block 2 (.loop [4, 6, 7, 43, 44] F_tbox_Overlap_L2)))
      (.seq (.ops [{ dst := some 86, op := .bld [(.int .i64 0), (.int .i64 0), (.int .i64 0), (.int .i64 0), (.int .i64 0), (.int .i64 0), (.int .i64 0), (.int .i64 0), (.int .i64 0), (.int .i64 0), (.int .i64 0), (.int .i64 0), (.int .i64 0), (.int .i64 0), (.int .i64 0), (.int .i64 0), (.int .i64 0)] [] },
        { dst := some 2, op := .mov (.c (.int .i64 0)) },
        { dst := some 3, op := .mov (.c (.int .i64 0)) },
        { dst := none, op := .stor 17 (.s 4) (.s 86) },
        { dst := some 5, op := .mov (.c (.bool false)) }])
      (.ret)))))))
    [.tmp 2, .tmp 3, .cell 4 17 true, .tmp 5]
theorem tr_tbox_Overlap : trF Try.prog [36, 56] 21 [[4, 6, 7, 23, 24, 25], [4, 6, 7, 43, 44], [4, 6, 7, 10, 11, 43, 44]] = some F_tbox_Overlap := by kernel_rfl
def F_tbox_Check_L0 : PC :=
  .seq (.ops [{ dst := some 15, op := .bin .lss (.s 14) (.s 13) }])
    (.seq (.cond (.s 15)
      (.skip)
      (.exit 0))
    (.seq (.block 1 (.seq (.ops [{ dst := some 16, op := .idxS 9 (.s 12) (.s 14) },
        { dst := some 17, op := .load 9 true (.s 16) },
        { dst := some 4, op := .box (.c (.agg [(.str []), (.slc 0 [] true), (.int .i64 0), (.int .i64 0), (.int .i64 0), (.int .i64 0), (.int .i64 0), (.int .i64 0), (.slc 0 [] true)])) },
        { dst := none, op := .stor 9 (.s 4) (.s 17) }])
      (.seq (.ops [{ dst := some 19, op := .load 9 true (.s 4) },
        { dst := some 20, op := .call 34 [(.s 19)] },
        { dst := some 18, op := .mov (.s 20) },
        { dst := some 21, op := .ext (.s 18) 0 },
        { dst := some 22, op := .ext (.s 18) 1 },
        { dst := some 5, op := .box (.c (.agg [(.int .i64 0), (.int .i64 0), (.int .i64 0), (.int .i64 0), (.int .i64 0), (.int .i64 0), (.int .i64 0), (.int .i64 0), (.int .i64 0), (.int .i64 0), (.int .i64 0), (.int .i64 0), (.int .i64 0), (.int .i64 0), (.int .i64 0), (.int .i64 0), (.int .i64 0), (.int .i64 0), (.int .i64 0), (.int .i64 0), (.int .i64 0), (.int .i64 0), (.int .i64 0), (.int .i64 0), (.int .i64 0), (.int .i64 0), (.int .i64 0), (.int .i64 0), (.int .i64 0), (.int .i64 0), (.int .i64 0), (.int .i64 0)])) },
        { dst := none, op := .stor 32 (.s 5) (.s 21) },
        { dst := some 6, op := .mov (.s 22) }])
      (.seq (.ops [{ dst := some 23, op := .mov (.s 6) },
        { dst := some 24, op := .un .not (.s 23) }])
      (.cond (.s 24)
        (.seq (.ops [{ dst := some 2, op := .mov (.c (.int .i64 190)) }])
        (.ret))
        (.skip))))))
    (.ops [{ dst := some 25, op := .bin .add (.s 14) (.c (.int .i64 1)) },
      { dst := some 14, op := .mov (.s 25) }])))
def F_tbox_Check : PF :=
  .mk
    (.seq (.ops [{ dst := some 1, op := .box (.s 0) },
        { dst := some 2, op := .mov (.c (.int .i64 0)) }])
      (.seq (.seq (.ops [{ dst := some 11, op := .fld 2 (.s 1) },
        { dst := some 12, op := .load 1 false (.s 11) },
        { dst := some 13, op := .len false (.s 12) },
        { dst := some 14, op := .mov (.c (.int .i64 0)) }])
      (.block 0 (.loop [1, 12, 13, 14] F_tbox_Check_L0)))
      (.seq (.seq (.ops [{ dst := some 27, op := .load 3 true (.s 1) },
        { dst := some 28, op := .call 21 [(.s 27)] },
        { dst := some 26, op := .mov (.s 28) },
        { dst := some 29, op := .ext (.s 26) 0 },
        { dst := some 30, op := .ext (.s 26) 1 },
        { dst := some 31, op := .ext (.s 26) 2 },
        { dst := some 32, op := .ext (.s 26) 3 },
        { dst := some 9, op := .box (.c (.agg [(.int .i64 0), (.int .i64 0), (.int .i64 0), (.int .i64 0), (.int .i64 0), (.int .i64 0), (.int .i64 0), (.int .i64 0), (.int .i64 0), (.int .i64 0), (.int .i64 0), (.int .i64 0), (.int .i64 0), (.int .i64 0), (.int .i64 0), (.int .i64 0), (.int .i64 0)])) },
        { dst := some 7, op := .mov (.s 29) },
        { dst := some 8, op := .mov (.s 30) },
        { dst := none, op := .stor 17 (.s 9) (.s 31) },
        { dst := some 10, op := .mov (.s 32) }])
      (.seq (.ops [{ dst := some 33, op := .mov (.s 10) }])
      (.cond (.s 33)
        (.seq (.ops [{ dst := some 2, op := .mov (.c (.int .i64 190)) }])
        (.ret))
        (.skip))))
      (.seq (.ops [{ dst := some 2, op := .mov (.c (.int .i64 0)) }])
      (.ret)))))
    [.tmp 2]
theorem tr_tbox_Check : trF Try.prog [36, 56] 23 [[1, 12, 13, 14]] = some F_tbox_Check := by kernel_rfl
def F_wagonpoollaw19_clause : PF :=
  .mk
    (.seq (.ops [{ dst := some 2, op := .box (.c (.agg [(.str []), (.slc 0 [] true), (.int .i64 0), (.int .i64 0), (.int .i64 0), (.int .i64 0), (.int .i64 0), (.int .i64 0), (.slc 0 [] true)])) }])
      (.seq (.ops [{ dst := some 3, op := .mov (.s 0) },
        { dst := some 4, op := .bld [(.str []), (.slc 0 [] true), (.int .i64 0), (.int .i64 0), (.int .i64 0), (.int .i64 0), (.int .i64 0), (.int .i64 0), (.slc 0 [] true)] [(0, 1, (.c (.str [97]))), (1, 1, (.s 3))] },
        { dst := none, op := .stor 9 (.s 2) (.s 4) }])
      (.ret)))
    [.cell 2 9 true]
theorem tr_wagonpoollaw19_clause : trF Try.prog [36, 56] 27 [] = some F_wagonpoollaw19_clause := by kernel_rfl
def F_wagonpoollaw19_class : PF :=
  .mk
    (.seq (.ops [{ dst := some 4, op := .box (.c (.agg [(.int .i64 0), (.int .i64 0), (.int .i64 0)])) }])
      (.seq (.ops [{ dst := some 5, op := .mov (.s 0) },
        { dst := some 6, op := .mov (.s 1) },
        { dst := some 7, op := .bld [(.int .i64 0), (.int .i64 0), (.int .i64 0)] [(0, 1, (.c (.int .i64 4))), (1, 1, (.s 5)), (2, 1, (.s 6))] },
        { dst := none, op := .stor 3 (.s 4) (.s 7) }])
      (.ret)))
    [.cell 4 3 true]
theorem tr_wagonpoollaw19_class : trF Try.prog [36, 56] 28 [] = some F_wagonpoollaw19_class := by kernel_rfl
def F_wagonpoolref19_Env : PF :=
  .mk
    (.seq (.ops [{ dst := some 1, op := .box (.s 0) },
        { dst := some 2, op := .box (.c (.agg [(.int .i64 0), (.int .i64 0), (.int .i64 0), (.int .i64 0), (.int .i64 0), (.int .i64 0), (.int .i64 0), (.int .i64 0), (.int .i64 0), (.int .i64 0), (.int .i64 0), (.int .i64 0), (.int .i64 0), (.int .i64 0), (.int .i64 0), (.int .i64 0), (.int .i64 0)])) }])
      (.seq (.ops [{ dst := some 3, op := .load 16 true (.s 1) },
        { dst := some 4, op := .bld [(.int .i64 0), (.int .i64 0), (.int .i64 0), (.int .i64 0), (.int .i64 0), (.int .i64 0), (.int .i64 0), (.int .i64 0), (.int .i64 0), (.int .i64 0), (.int .i64 0), (.int .i64 0), (.int .i64 0), (.int .i64 0), (.int .i64 0), (.int .i64 0), (.int .i64 0)] [(0, 1, (.c (.int .i64 65535))), (1, 16, (.s 3))] },
        { dst := none, op := .stor 17 (.s 2) (.s 4) }])
      (.ret)))
    [.cell 2 17 true]
theorem tr_wagonpoolref19_Env : trF Try.prog [36, 56] 29 [] = some F_wagonpoolref19_Env := by kernel_rfl
def F_wagonpoollaw19_gap : PF :=
  .mk
    (.seq (.ops [{ dst := some 3, op := .box (.s 0) },
        { dst := some 4, op := .box (.s 1) },
        { dst := some 6, op := .mov (.c (.bool false)) }])
      (.seq (.ops [{ dst := some 12, op := .load 3 true (.s 3) },
        { dst := some 13, op := .load 3 true (.s 4) },
        { dst := some 14, op := .bslc 3 [(.s 13)] },
        { dst := some 15, op := .call 17 [(.s 12), (.s 14)] },
        { dst := some 11, op := .mov (.s 15) },
        { dst := some 16, op := .ext (.s 11) 0 },
        { dst := some 17, op := .ext (.s 11) 1 },
        { dst := some 18, op := .ext (.s 11) 2 },
        { dst := some 7, op := .box (.c (.agg [(.int .i64 0), (.int .i64 0), (.int .i64 0), (.int .i64 0), (.int .i64 0), (.int .i64 0), (.int .i64 0), (.int .i64 0), (.int .i64 0), (.int .i64 0), (.int .i64 0), (.int .i64 0), (.int .i64 0), (.int .i64 0), (.int .i64 0), (.int .i64 0), (.int .i64 0)])) },
        { dst := none, op := .stor 17 (.s 7) (.s 16) },
        { dst := some 8, op := .mov (.s 17) },
        { dst := some 9, op := .mov (.s 18) }])
      (.seq (.ops [{ dst := some 19, op := .bld [(.int .i64 0), (.int .i64 0), (.int .i64 0), (.int .i64 0), (.int .i64 0), (.int .i64 0), (.int .i64 0), (.int .i64 0), (.int .i64 0), (.int .i64 0), (.int .i64 0), (.int .i64 0), (.int .i64 0), (.int .i64 0), (.int .i64 0), (.int .i64 0), (.int .i64 0)] [] },
        { dst := some 10, op := .box (.c (.agg [(.int .i64 0), (.int .i64 0), (.int .i64 0), (.int .i64 0), (.int .i64 0), (.int .i64 0), (.int .i64 0), (.int .i64 0), (.int .i64 0), (.int .i64 0), (.int .i64 0), (.int .i64 0), (.int .i64 0), (.int .i64 0), (.int .i64 0), (.int .i64 0), (.int .i64 0)])) },
        { dst := none, op := .stor 17 (.s 10) (.s 19) }])
      (.seq (.seq (.ops [{ dst := some 20, op := .mov (.s 2) },
        { dst := some 21, op := .bin .geq (.s 20) (.c (.int .i64 0)) }])
      (.cond (.s 21)
        (.seq (.ops [{ dst := some 22, op := .fld 0 (.s 10) },
          { dst := none, op := .stor 1 (.s 22) (.c (.int .i64 65535)) }])
        (.ops [{ dst := some 23, op := .mov (.s 2) },
          { dst := some 24, op := .fld 1 (.s 10) },
          { dst := some 25, op := .idxA 16 1 (.s 24) (.c (.int .i64 4)) },
          { dst := none, op := .stor 1 (.s 25) (.s 23) }]))
        (.skip)))
      (.seq (.ops [{ dst := some 26, op := .mov (.s 9) },
        { dst := some 27, op := .bin .eql (.s 26) (.c (.int .i64 0)) },
        { dst := some 28, op := .mov (.s 27) },
        { dst := some 29, op := .mov (.s 8), guard := some (28, true) },
        { dst := some 30, op := .mov (.s 2), guard := some (28, true) },
        { dst := some 31, op := .bin .geq (.s 30) (.c (.int .i64 0)), guard := some (28, true) },
        { dst := some 32, op := .beq false (.s 29) (.s 31), guard := some (28, true) },
        { dst := some 33, op := .pick (.s 28) (.s 32) (.c (.bool false)) },
        { dst := some 34, op := .mov (.s 33) },
        { dst := some 35, op := .load 17 true (.s 7), guard := some (34, true) },
        { dst := some 36, op := .load 17 true (.s 10), guard := some (34, true) },
        { dst := some 37, op := .aeq [0, 0, 0, 0, 0, 0, 0, 0, 0, 0, 0, 0, 0, 0, 0, 0, 0] false (.s 35) (.s 36), guard := some (34, true) },
        { dst := some 38, op := .pick (.s 34) (.s 37) (.c (.bool false)) },
        { dst := some 6, op := .mov (.s 38) }])
      (.ret))))))
    [.tmp 6]
theorem tr_wagonpoollaw19_gap : trF Try.prog [36, 56] 30 [] = some F_wagonpoollaw19_gap := by kernel_rfl
def F_tbox_of_L0 : PC :=
  .seq (.ops [{ dst := some 14, op := .bin .lss (.s 13) (.s 12) }])
    (.seq (.cond (.s 14)
      (.skip)
      (.exit 0))
    (.seq (.block 1 (.seq (.ops [{ dst := some 15, op := .idxS 3 (.s 11) (.s 13) },
        { dst := some 16, op := .load 3 true (.s 15) },
        { dst := some 6, op := .box (.c (.agg [(.int .i64 0), (.int .i64 0), (.int .i64 0)])) },
        { dst := none, op := .stor 3 (.s 6) (.s 16) }])
      (.seq (.seq (.ops [{ dst := some 17, op := .fld 0 (.s 6) },
        { dst := some 18, op := .load 1 false (.s 17) },
        { dst := some 19, op := .bin .lss (.s 18) (.c (.int .i64 0)) },
        { dst := some 20, op := .mov (.s 19) },
        { dst := some 21, op := .fld 0 (.s 6), guard := some (20, false) },
        { dst := some 22, op := .load 1 false (.s 21), guard := some (20, false) },
        { dst := some 23, op := .bin .geq (.s 22) (.c (.int .i64 16)), guard := some (20, false) },
        { dst := some 24, op := .pick (.s 20) (.c (.bool true)) (.s 23) }])
      (.cond (.s 24)
        (.seq (.ops [{ dst := some 25, op := .bld [(.int .i64 0), (.int .i64 0), (.int .i64 0), (.int .i64 0), (.int .i64 0), (.int .i64 0), (.int .i64 0), (.int .i64 0), (.int .i64 0), (.int .i64 0), (.int .i64 0), (.int .i64 0), (.int .i64 0), (.int .i64 0), (.int .i64 0), (.int .i64 0), (.int .i64 0), (.int .i64 0), (.int .i64 0), (.int .i64 0), (.int .i64 0), (.int .i64 0), (.int .i64 0), (.int .i64 0), (.int .i64 0), (.int .i64 0), (.int .i64 0), (.int .i64 0), (.int .i64 0), (.int .i64 0), (.int .i64 0), (.int .i64 0)] [] },
          { dst := none, op := .stor 32 (.s 2) (.s 25) },
          { dst := some 3, op := .mov (.c (.bool false)) }])
        (.ret))
        (.skip)))
      (.ops [{ dst := some 26, op := .load 32 true (.s 4) },
        { dst := some 27, op := .load 3 true (.s 6) },
        { dst := some 28, op := .call 55 [(.s 26), (.s 27)] },
        { dst := none, op := .stor 32 (.s 4) (.s 28) }]))))
    (.ops [{ dst := some 29, op := .bin .add (.s 13) (.c (.int .i64 1)) },
      { dst := some 13, op := .mov (.s 29) }])))
def F_tbox_of : PF :=
  .mk
    (.seq (.ops [{ dst := some 1, op := .box (.s 0) },
        { dst := some 2, op := .box (.c (.agg [(.int .i64 0), (.int .i64 0), (.int .i64 0), (.int .i64 0), (.int .i64 0), (.int .i64 0), (.int .i64 0), (.int .i64 0), (.int .i64 0), (.int .i64 0), (.int .i64 0), (.int .i64 0), (.int .i64 0), (.int .i64 0), (.int .i64 0), (.int .i64 0), (.int .i64 0), (.int .i64 0), (.int .i64 0), (.int .i64 0), (.int .i64 0), (.int .i64 0), (.int .i64 0), (.int .i64 0), (.int .i64 0), (.int .i64 0), (.int .i64 0), (.int .i64 0), (.int .i64 0), (.int .i64 0), (.int .i64 0), (.int .i64 0)])) },
        { dst := some 3, op := .mov (.c (.bool false)) }])
      (.seq (.ops [{ dst := some 9, op := .call 54 [] },
        { dst := some 4, op := .box (.c (.agg [(.int .i64 0), (.int .i64 0), (.int .i64 0), (.int .i64 0), (.int .i64 0), (.int .i64 0), (.int .i64 0), (.int .i64 0), (.int .i64 0), (.int .i64 0), (.int .i64 0), (.int .i64 0), (.int .i64 0), (.int .i64 0), (.int .i64 0), (.int .i64 0), (.int .i64 0), (.int .i64 0), (.int .i64 0), (.int .i64 0), (.int .i64 0), (.int .i64 0), (.int .i64 0), (.int .i64 0), (.int .i64 0), (.int .i64 0), (.int .i64 0), (.int .i64 0), (.int .i64 0), (.int .i64 0), (.int .i64 0), (.int .i64 0)])) },
        { dst := none, op := .stor 32 (.s 4) (.s 9) }])
      (.seq (.seq (.ops [{ dst := some 10, op := .fld 1 (.s 1) },
        { dst := some 11, op := .load 1 false (.s 10) },
        { dst := some 12, op := .len false (.s 11) },
        { dst := some 13, op := .mov (.c (.int .i64 0)) }])
      (.block 0 (.loop [2, 4, 11, 12, 13] F_tbox_of_L0)))
      (.seq (.seq (.ops [{ dst := some 31, op := .load 32 true (.s 4) },
        { dst := some 32, op := .load 32 true (.s 4) },
        { dst := some 33, op := .call 39 [(.s 31), (.s 32)] },
        { dst := some 30, op := .mov (.s 33) },
        { dst := some 34, op := .ext (.s 30) 0 },
        { dst := some 35, op := .ext (.s 30) 1 },
        { dst := some 7, op := .box (.c (.agg [(.int .i64 0), (.int .i64 0), (.int .i64 0), (.int .i64 0), (.int .i64 0), (.int .i64 0), (.int .i64 0), (.int .i64 0), (.int .i64 0), (.int .i64 0), (.int .i64 0), (.int .i64 0), (.int .i64 0), (.int .i64 0), (.int .i64 0), (.int .i64 0), (.int .i64 0), (.int .i64 0), (.int .i64 0), (.int .i64 0), (.int .i64 0), (.int .i64 0), (.int .i64 0), (.int .i64 0), (.int .i64 0), (.int .i64 0), (.int .i64 0), (.int .i64 0), (.int .i64 0), (.int .i64 0), (.int .i64 0), (.int .i64 0)])) },
        { dst := none, op := .stor 32 (.s 7) (.s 34) },
        { dst := some 8, op := .mov (.s 35) }])
      (.seq (.ops [{ dst := some 36, op := .mov (.s 8) }])
      (.cond (.s 36)
        (.seq (.ops [{ dst := some 37, op := .load 32 true (.s 7) },
          { dst := none, op := .stor 32 (.s 2) (.s 37) },
          { dst := some 3, op := .mov (.c (.bool true)) }])
        (.ret))
        (.skip))))
      (.seq (.ops [{ dst := some 38, op := .bld [(.int .i64 0), (.int .i64 0), (.int .i64 0), (.int .i64 0), (.int .i64 0), (.int .i64 0), (.int .i64 0), (.int .i64 0), (.int .i64 0), (.int .i64 0), (.int .i64 0), (.int .i64 0), (.int .i64 0), (.int .i64 0), (.int .i64 0), (.int .i64 0), (.int .i64 0), (.int .i64 0), (.int .i64 0), (.int .i64 0), (.int .i64 0), (.int .i64 0), (.int .i64 0), (.int .i64 0), (.int .i64 0), (.int .i64 0), (.int .i64 0), (.int .i64 0), (.int .i64 0), (.int .i64 0), (.int .i64 0), (.int .i64 0)] [] },
        { dst := none, op := .stor 32 (.s 2) (.s 38) },
        { dst := some 3, op := .mov (.c (.bool false)) }])
      (.ret))))))
    [.cell 2 32 true, .tmp 3]
theorem tr_tbox_of : trF Try.prog [36, 56] 34 [[2, 4, 11, 12, 13]] = some F_tbox_of := by kernel_rfl
def F_tbox_region_L0 : PC :=
  .seq (.ops [{ dst := some 12, op := .bin .lss (.s 11) (.s 10) }])
    (.seq (.cond (.s 12)
      (.skip)
      (.exit 0))
    (.seq (.block 1 (.seq (.ops [{ dst := some 13, op := .idxS 3 (.s 9) (.s 11) },
        { dst := some 14, op := .load 3 true (.s 13) },
        { dst := some 7, op := .box (.c (.agg [(.int .i64 0), (.int .i64 0), (.int .i64 0)])) },
        { dst := none, op := .stor 3 (.s 7) (.s 14) }])
      (.seq (.seq (.ops [{ dst := some 15, op := .fld 0 (.s 7) },
        { dst := some 16, op := .load 1 false (.s 15) },
        { dst := some 17, op := .bin .lss (.s 16) (.c (.int .i64 0)) },
        { dst := some 18, op := .mov (.s 17) },
        { dst := some 19, op := .fld 0 (.s 7), guard := some (18, false) },
        { dst := some 20, op := .load 1 false (.s 19), guard := some (18, false) },
        { dst := some 21, op := .bin .geq (.s 20) (.c (.int .i64 16)), guard := some (18, false) },
        { dst := some 22, op := .pick (.s 18) (.c (.bool true)) (.s 21) },
        { dst := some 23, op := .mov (.s 22) },
        { dst := some 24, op := .fld 0 (.s 7), guard := some (23, false) },
        { dst := some 25, op := .load 1 false (.s 24), guard := some (23, false) },
        { dst := some 26, op := .idxA 16 1 (.s 5) (.s 25), guard := some (23, false) },
        { dst := some 27, op := .load 1 false (.s 26), guard := some (23, false) },
        { dst := some 28, op := .pick (.s 23) (.c (.bool true)) (.s 27) },
        { dst := some 29, op := .mov (.s 28) },
        { dst := some 30, op := .fld 1 (.s 7), guard := some (29, false) },
        { dst := some 31, op := .load 1 false (.s 30), guard := some (29, false) },
        { dst := some 32, op := .bin .lss (.s 31) (.c (.int .i64 0)), guard := some (29, false) },
        { dst := some 33, op := .pick (.s 29) (.c (.bool true)) (.s 32) },
        { dst := some 34, op := .mov (.s 33) },
        { dst := some 35, op := .fld 1 (.s 7), guard := some (34, false) },
        { dst := some 36, op := .load 1 false (.s 35), guard := some (34, false) },
        { dst := some 37, op := .fld 2 (.s 7), guard := some (34, false) },
        { dst := some 38, op := .load 1 false (.s 37), guard := some (34, false) },
        { dst := some 39, op := .bin .gtr (.s 36) (.s 38), guard := some (34, false) },
        { dst := some 40, op := .pick (.s 34) (.c (.bool true)) (.s 39) },
        { dst := some 41, op := .mov (.s 40) },
        { dst := some 42, op := .fld 2 (.s 7), guard := some (41, false) },
        { dst := some 43, op := .load 1 false (.s 42), guard := some (41, false) },
        { dst := some 44, op := .bin .gtr (.s 43) (.c (.int .i64 9007199254740992)), guard := some (41, false) },
        { dst := some 45, op := .pick (.s 41) (.c (.bool true)) (.s 44) }])
      (.cond (.s 45)
        (.seq (.ops [{ dst := some 46, op := .bld [(.int .i64 0), (.int .i64 0), (.int .i64 0), (.int .i64 0), (.int .i64 0), (.int .i64 0), (.int .i64 0), (.int .i64 0), (.int .i64 0), (.int .i64 0), (.int .i64 0), (.int .i64 0), (.int .i64 0), (.int .i64 0), (.int .i64 0), (.int .i64 0), (.int .i64 0), (.int .i64 0), (.int .i64 0), (.int .i64 0), (.int .i64 0), (.int .i64 0), (.int .i64 0), (.int .i64 0), (.int .i64 0), (.int .i64 0), (.int .i64 0), (.int .i64 0), (.int .i64 0), (.int .i64 0), (.int .i64 0), (.int .i64 0)] [] },
          { dst := none, op := .stor 32 (.s 2) (.s 46) },
          { dst := some 3, op := .mov (.c (.bool false)) }])
        (.ret))
        (.skip)))
      (.seq (.ops [{ dst := some 47, op := .fld 0 (.s 7) },
        { dst := some 48, op := .load 1 false (.s 47) },
        { dst := some 49, op := .idxA 16 1 (.s 5) (.s 48) },
        { dst := none, op := .stor 1 (.s 49) (.c (.bool true)) }])
      (.ops [{ dst := some 50, op := .load 32 true (.s 4) },
        { dst := some 51, op := .load 3 true (.s 7) },
        { dst := some 52, op := .call 55 [(.s 50), (.s 51)] },
        { dst := none, op := .stor 32 (.s 4) (.s 52) }])))))
    (.ops [{ dst := some 53, op := .bin .add (.s 11) (.c (.int .i64 1)) },
      { dst := some 11, op := .mov (.s 53) }])))
def F_tbox_region : PF :=
  .mk
    (.seq (.ops [{ dst := some 2, op := .box (.c (.agg [(.int .i64 0), (.int .i64 0), (.int .i64 0), (.int .i64 0), (.int .i64 0), (.int .i64 0), (.int .i64 0), (.int .i64 0), (.int .i64 0), (.int .i64 0), (.int .i64 0), (.int .i64 0), (.int .i64 0), (.int .i64 0), (.int .i64 0), (.int .i64 0), (.int .i64 0), (.int .i64 0), (.int .i64 0), (.int .i64 0), (.int .i64 0), (.int .i64 0), (.int .i64 0), (.int .i64 0), (.int .i64 0), (.int .i64 0), (.int .i64 0), (.int .i64 0), (.int .i64 0), (.int .i64 0), (.int .i64 0), (.int .i64 0)])) },
        { dst := some 3, op := .mov (.c (.bool false)) }])
      (.seq (.ops [{ dst := some 8, op := .call 54 [] },
        { dst := some 4, op := .box (.c (.agg [(.int .i64 0), (.int .i64 0), (.int .i64 0), (.int .i64 0), (.int .i64 0), (.int .i64 0), (.int .i64 0), (.int .i64 0), (.int .i64 0), (.int .i64 0), (.int .i64 0), (.int .i64 0), (.int .i64 0), (.int .i64 0), (.int .i64 0), (.int .i64 0), (.int .i64 0), (.int .i64 0), (.int .i64 0), (.int .i64 0), (.int .i64 0), (.int .i64 0), (.int .i64 0), (.int .i64 0), (.int .i64 0), (.int .i64 0), (.int .i64 0), (.int .i64 0), (.int .i64 0), (.int .i64 0), (.int .i64 0), (.int .i64 0)])) },
        { dst := none, op := .stor 32 (.s 4) (.s 8) }])
      (.seq (.ops [{ dst := some 5, op := .box (.c (.agg [(.bool false), (.bool false), (.bool false), (.bool false), (.bool false), (.bool false), (.bool false), (.bool false), (.bool false), (.bool false), (.bool false), (.bool false), (.bool false), (.bool false), (.bool false), (.bool false)])) }])
      (.seq (.seq (.ops [{ dst := some 9, op := .mov (.s 0) },
        { dst := some 10, op := .len false (.s 9) },
        { dst := some 11, op := .mov (.c (.int .i64 0)) }])
      (.block 0 (.loop [2, 4, 5, 9, 10, 11] F_tbox_region_L0)))
      (.seq (.ops [{ dst := some 54, op := .load 32 true (.s 4) },
        { dst := none, op := .stor 32 (.s 2) (.s 54) },
        { dst := some 3, op := .mov (.c (.bool true)) }])
      (.ret))))))
    [.cell 2 32 true, .tmp 3]
theorem tr_tbox_region : trF Try.prog [36, 56] 35 [[2, 4, 5, 9, 10, 11]] = some F_tbox_region := by kernel_rfl
def F_tbox_uncovered : PF :=
  .mk
    (.seq (.ops [{ dst := some 3, op := .box (.s 0) },
        { dst := some 4, op := .box (.s 1) },
        { dst := some 5, op := .box (.s 2) },
        { dst := some 6, op := .mov (.c (.bool false)) }])
      (.seq (.ops [{ dst := some 9, op := .mkmap 3 },
        { dst := some 7, op := .box (.c .nilm) },
        { dst := none, op := .stor 1 (.s 7) (.s 9) }])
      (.seq (.ops [{ dst := some 8, op := .box (.c .nilf) }])
      (.seq (.ops [{ dst := some 10, op := .mkclo 56 [(.s 5), (.s 3), (.s 7), (.s 4), (.s 8)] },
        { dst := none, op := .stor 1 (.s 8) (.s 10) }])
      (.seq (.ops [{ dst := some 11, op := .load 1 false (.s 8) },
        { dst := some 12, op := .load 1 false (.s 4) },
        { dst := some 13, op := .len false (.s 12) },
        { dst := some 14, op := .bin .shl (.c (.int .i64 1)) (.s 13) },
        { dst := some 15, op := .bin .sub (.s 14) (.c (.int .i64 1)) },
        { dst := some 16, op := .callv (.s 11) [(.c (.int .i64 0)), (.s 15)] },
        { dst := some 6, op := .mov (.s 16) }])
      (.ret))))))
    [.tmp 6]
theorem tr_tbox_uncovered : trF Try.prog [36, 56] 36 [] = some F_tbox_uncovered := by kernel_rfl
def F_tbox_env : PF :=
  .mk
    (.seq (.ops [{ dst := some 1, op := .box (.s 0) },
        { dst := some 2, op := .box (.c (.agg [(.int .i64 0), (.int .i64 0), (.int .i64 0), (.int .i64 0), (.int .i64 0), (.int .i64 0), (.int .i64 0), (.int .i64 0), (.int .i64 0), (.int .i64 0), (.int .i64 0), (.int .i64 0), (.int .i64 0), (.int .i64 0), (.int .i64 0), (.int .i64 0), (.int .i64 0)])) }])
      (.seq (.ops [{ dst := some 3, op := .load 16 true (.s 1) },
        { dst := some 4, op := .bld [(.int .i64 0), (.int .i64 0), (.int .i64 0), (.int .i64 0), (.int .i64 0), (.int .i64 0), (.int .i64 0), (.int .i64 0), (.int .i64 0), (.int .i64 0), (.int .i64 0), (.int .i64 0), (.int .i64 0), (.int .i64 0), (.int .i64 0), (.int .i64 0), (.int .i64 0)] [(0, 1, (.c (.int .i64 65535))), (1, 16, (.s 3))] },
        { dst := none, op := .stor 17 (.s 2) (.s 4) }])
      (.ret)))
    [.cell 2 17 true]
theorem tr_tbox_env : trF Try.prog [36, 56] 37 [] = some F_tbox_env := by kernel_rfl
def F_tbox_box_meet_L0 : PC :=
  .seq (.ops [{ dst := some 9, op := .bin .lss (.s 8) (.c (.int .i64 16)) }])
    (.seq (.cond (.s 9)
      (.skip)
      (.exit 0))
    (.seq (.block 1 (.seq (.ops [{ dst := some 10, op := .mov (.s 8) },
        { dst := some 7, op := .mov (.s 10) }])
      (.seq (.ops [{ dst := some 11, op := .mov (.s 7) },
        { dst := some 12, op := .mov (.s 7) },
        { dst := some 13, op := .fld 0 (.s 2) },
        { dst := some 14, op := .idxA 16 1 (.s 13) (.s 12) },
        { dst := some 15, op := .load 1 false (.s 14) },
        { dst := some 16, op := .mov (.s 7) },
        { dst := some 17, op := .fld 0 (.s 3) },
        { dst := some 18, op := .idxA 16 1 (.s 17) (.s 16) },
        { dst := some 19, op := .load 1 false (.s 18) },
        { dst := some 20, op := .mm true (.s 15) (.s 19) },
        { dst := some 21, op := .fld 0 (.s 2) },
        { dst := some 22, op := .idxA 16 1 (.s 21) (.s 11) },
        { dst := none, op := .stor 1 (.s 22) (.s 20) }])
      (.seq (.ops [{ dst := some 23, op := .mov (.s 7) },
        { dst := some 24, op := .mov (.s 7) },
        { dst := some 25, op := .fld 16 (.s 2) },
        { dst := some 26, op := .idxA 16 1 (.s 25) (.s 24) },
        { dst := some 27, op := .load 1 false (.s 26) },
        { dst := some 28, op := .mov (.s 7) },
        { dst := some 29, op := .fld 16 (.s 3) },
        { dst := some 30, op := .idxA 16 1 (.s 29) (.s 28) },
        { dst := some 31, op := .load 1 false (.s 30) },
        { dst := some 32, op := .mm false (.s 27) (.s 31) },
        { dst := some 33, op := .fld 16 (.s 2) },
        { dst := some 34, op := .idxA 16 1 (.s 33) (.s 23) },
        { dst := none, op := .stor 1 (.s 34) (.s 32) }])
      (.ops [{ dst := some 35, op := .mov (.s 6) },
        { dst := some 36, op := .mov (.s 35) },
        { dst := some 37, op := .mov (.s 7), guard := some (36, true) },
        { dst := some 38, op := .fld 0 (.s 2), guard := some (36, true) },
        { dst := some 39, op := .idxA 16 1 (.s 38) (.s 37), guard := some (36, true) },
        { dst := some 40, op := .load 1 false (.s 39), guard := some (36, true) },
        { dst := some 41, op := .mov (.s 7), guard := some (36, true) },
        { dst := some 42, op := .fld 16 (.s 2), guard := some (36, true) },
        { dst := some 43, op := .idxA 16 1 (.s 42) (.s 41), guard := some (36, true) },
        { dst := some 44, op := .load 1 false (.s 43), guard := some (36, true) },
        { dst := some 45, op := .bin .leq (.s 40) (.s 44), guard := some (36, true) },
        { dst := some 46, op := .pick (.s 36) (.s 45) (.c (.bool false)) },
        { dst := some 6, op := .mov (.s 46) }])))))
    (.ops [{ dst := some 47, op := .bin .add (.s 8) (.c (.int .i64 1)) },
      { dst := some 8, op := .mov (.s 47) }])))
def F_tbox_box_meet : PF :=
  .mk
    (.seq (.ops [{ dst := some 2, op := .box (.s 0) },
        { dst := some 3, op := .box (.s 1) },
        { dst := some 4, op := .box (.c (.agg [(.int .i64 0), (.int .i64 0), (.int .i64 0), (.int .i64 0), (.int .i64 0), (.int .i64 0), (.int .i64 0), (.int .i64 0), (.int .i64 0), (.int .i64 0), (.int .i64 0), (.int .i64 0), (.int .i64 0), (.int .i64 0), (.int .i64 0), (.int .i64 0), (.int .i64 0), (.int .i64 0), (.int .i64 0), (.int .i64 0), (.int .i64 0), (.int .i64 0), (.int .i64 0), (.int .i64 0), (.int .i64 0), (.int .i64 0), (.int .i64 0), (.int .i64 0), (.int .i64 0), (.int .i64 0), (.int .i64 0), (.int .i64 0)])) },
        { dst := some 5, op := .mov (.c (.bool false)) }])
      (.seq (.ops [{ dst := some 6, op := .mov (.c (.bool true)) }])
      (.seq (.seq (.ops [{ dst := some 8, op := .mov (.c (.int .i64 0)) }])
      (.block 0 (.loop [2, 3, 4, 6, 8] F_tbox_box_meet_L0)))
      (.seq (.ops [{ dst := some 48, op := .load 32 true (.s 2) },
        { dst := some 49, op := .mov (.s 6) },
        { dst := none, op := .stor 32 (.s 4) (.s 48) },
        { dst := some 5, op := .mov (.s 49) }])
      (.ret)))))
    [.cell 4 32 true, .tmp 5]
theorem tr_tbox_box_meet : trF Try.prog [36, 56] 39 [[2, 3, 4, 6, 8]] = some F_tbox_box_meet := by kernel_rfl
def F_tbox_all_L0 : PC :=
  .seq (.ops [{ dst := some 3, op := .bin .lss (.s 2) (.c (.int .i64 16)) }])
    (.seq (.cond (.s 3)
      (.skip)
      (.exit 0))
    (.seq (.block 1 (.seq (.ops [{ dst := some 4, op := .mov (.s 2) },
        { dst := some 1, op := .mov (.s 4) }])
      (.ops [{ dst := some 5, op := .mov (.s 1) },
        { dst := some 6, op := .fld 16 (.s 0) },
        { dst := some 7, op := .idxA 16 1 (.s 6) (.s 5) },
        { dst := none, op := .stor 1 (.s 7) (.c (.int .i64 9007199254740992)) }])))
    (.ops [{ dst := some 8, op := .bin .add (.s 2) (.c (.int .i64 1)) },
      { dst := some 2, op := .mov (.s 8) }])))
def F_tbox_all : PF :=
  .mk
    (.seq (.ops [{ dst := some 0, op := .box (.c (.agg [(.int .i64 0), (.int .i64 0), (.int .i64 0), (.int .i64 0), (.int .i64 0), (.int .i64 0), (.int .i64 0), (.int .i64 0), (.int .i64 0), (.int .i64 0), (.int .i64 0), (.int .i64 0), (.int .i64 0), (.int .i64 0), (.int .i64 0), (.int .i64 0), (.int .i64 0), (.int .i64 0), (.int .i64 0), (.int .i64 0), (.int .i64 0), (.int .i64 0), (.int .i64 0), (.int .i64 0), (.int .i64 0), (.int .i64 0), (.int .i64 0), (.int .i64 0), (.int .i64 0), (.int .i64 0), (.int .i64 0), (.int .i64 0)])) }])
      (.seq (.seq (.ops [{ dst := some 2, op := .mov (.c (.int .i64 0)) }])
      (.block 0 (.loop [0, 2] F_tbox_all_L0)))
      (.seq (.ops [{ dst := some 9, op := .load 32 true (.s 0) },
        { dst := none, op := .stor 32 (.s 0) (.s 9) }])
      (.ret))))
    [.cell 0 32 true]
theorem tr_tbox_all : trF Try.prog [36, 56] 54 [[0, 2]] = some F_tbox_all := by kernel_rfl
def F_tbox_box_cut : PF :=
  .mk
    (.seq (.ops [{ dst := some 2, op := .box (.s 0) },
        { dst := some 3, op := .box (.s 1) },
        { dst := some 4, op := .box (.c (.agg [(.int .i64 0), (.int .i64 0), (.int .i64 0), (.int .i64 0), (.int .i64 0), (.int .i64 0), (.int .i64 0), (.int .i64 0), (.int .i64 0), (.int .i64 0), (.int .i64 0), (.int .i64 0), (.int .i64 0), (.int .i64 0), (.int .i64 0), (.int .i64 0), (.int .i64 0), (.int .i64 0), (.int .i64 0), (.int .i64 0), (.int .i64 0), (.int .i64 0), (.int .i64 0), (.int .i64 0), (.int .i64 0), (.int .i64 0), (.int .i64 0), (.int .i64 0), (.int .i64 0), (.int .i64 0), (.int .i64 0), (.int .i64 0)])) }])
      (.seq (.ops [{ dst := some 5, op := .fld 0 (.s 3) },
        { dst := some 6, op := .load 1 false (.s 5) },
        { dst := some 7, op := .fld 0 (.s 3) },
        { dst := some 8, op := .load 1 false (.s 7) },
        { dst := some 9, op := .fld 0 (.s 2) },
        { dst := some 10, op := .idxA 16 1 (.s 9) (.s 8) },
        { dst := some 11, op := .load 1 false (.s 10) },
        { dst := some 12, op := .fld 1 (.s 3) },
        { dst := some 13, op := .load 1 false (.s 12) },
        { dst := some 14, op := .mm true (.s 11) (.s 13) },
        { dst := some 15, op := .fld 0 (.s 2) },
        { dst := some 16, op := .idxA 16 1 (.s 15) (.s 6) },
        { dst := none, op := .stor 1 (.s 16) (.s 14) }])
      (.seq (.ops [{ dst := some 17, op := .fld 0 (.s 3) },
        { dst := some 18, op := .load 1 false (.s 17) },
        { dst := some 19, op := .fld 0 (.s 3) },
        { dst := some 20, op := .load 1 false (.s 19) },
        { dst := some 21, op := .fld 16 (.s 2) },
        { dst := some 22, op := .idxA 16 1 (.s 21) (.s 20) },
        { dst := some 23, op := .load 1 false (.s 22) },
        { dst := some 24, op := .fld 2 (.s 3) },
        { dst := some 25, op := .load 1 false (.s 24) },
        { dst := some 26, op := .mm false (.s 23) (.s 25) },
        { dst := some 27, op := .fld 16 (.s 2) },
        { dst := some 28, op := .idxA 16 1 (.s 27) (.s 18) },
        { dst := none, op := .stor 1 (.s 28) (.s 26) }])
      (.seq (.ops [{ dst := some 29, op := .load 32 true (.s 2) },
        { dst := none, op := .stor 32 (.s 4) (.s 29) }])
      (.ret)))))
    [.cell 4 32 true]
theorem tr_tbox_box_cut : trF Try.prog [36, 56] 55 [] = some F_tbox_box_cut := by kernel_rfl
def F_tbox_uncovered_1_L0 : PC :=
  .seq (.ops [{ dst := some 47, op := .bin .lss (.s 46) (.s 45) }])
    (.seq (.cond (.s 47)
      (.skip)
      (.exit 2))
    (.seq (.block 3 (.seq (.ops [{ dst := some 48, op := .mov (.s 46) },
        { dst := some 49, op := .idxS 32 (.s 44) (.s 46) },
        { dst := some 50, op := .load 32 true (.s 49) },
        { dst := some 14, op := .box (.c (.agg [(.int .i64 0), (.int .i64 0), (.int .i64 0), (.int .i64 0), (.int .i64 0), (.int .i64 0), (.int .i64 0), (.int .i64 0), (.int .i64 0), (.int .i64 0), (.int .i64 0), (.int .i64 0), (.int .i64 0), (.int .i64 0), (.int .i64 0), (.int .i64 0), (.int .i64 0), (.int .i64 0), (.int .i64 0), (.int .i64 0), (.int .i64 0), (.int .i64 0), (.int .i64 0), (.int .i64 0), (.int .i64 0), (.int .i64 0), (.int .i64 0), (.int .i64 0), (.int .i64 0), (.int .i64 0), (.int .i64 0), (.int .i64 0)])) },
        { dst := some 13, op := .mov (.s 48) },
        { dst := none, op := .stor 32 (.s 14) (.s 50) }])
      (.seq (.seq (.ops [{ dst := some 51, op := .mov (.s 1) },
        { dst := some 52, op := .mov (.s 13) },
        { dst := some 53, op := .bin .shr (.s 51) (.s 52) },
        { dst := some 54, op := .bin .and (.s 53) (.c (.int .i64 1)) },
        { dst := some 55, op := .bin .eql (.s 54) (.c (.int .i64 0)) },
        { dst := some 56, op := .mov (.s 55) },
        { dst := some 57, op := .mov (.s 0), guard := some (56, false) },
        { dst := some 58, op := .fld 16 (.s 14), guard := some (56, false) },
        { dst := some 59, op := .idxA 16 1 (.s 58) (.s 57), guard := some (56, false) },
        { dst := some 60, op := .load 1 false (.s 59), guard := some (56, false) },
        { dst := some 61, op := .mov (.s 10), guard := some (56, false) },
        { dst := some 62, op := .bin .lss (.s 60) (.s 61), guard := some (56, false) },
        { dst := some 63, op := .pick (.s 56) (.c (.bool true)) (.s 62) }])
      (.cond (.s 63)
        (.exit 3)
        (.skip)))
      (.seq (.ops [{ dst := some 64, op := .mov (.s 12) },
        { dst := some 65, op := .mov (.s 0) },
        { dst := some 66, op := .fld 16 (.s 14) },
        { dst := some 67, op := .idxA 16 1 (.s 66) (.s 65) },
        { dst := some 68, op := .load 1 false (.s 67) },
        { dst := some 69, op := .bin .add (.s 68) (.c (.int .i64 1)) },
        { dst := some 70, op := .mm false (.s 64) (.s 69) },
        { dst := some 12, op := .mov (.s 70) }])
      (.seq (.ops [{ dst := some 71, op := .mov (.s 0) },
        { dst := some 72, op := .fld 0 (.s 14) },
        { dst := some 73, op := .idxA 16 1 (.s 72) (.s 71) },
        { dst := some 74, op := .load 1 false (.s 73) },
        { dst := some 75, op := .mov (.s 10) },
        { dst := some 76, op := .bin .leq (.s 74) (.s 75) }])
      (.cond (.s 76)
        (.ops [{ dst := some 77, op := .mov (.s 11) },
          { dst := some 78, op := .mov (.s 13) },
          { dst := some 79, op := .bin .shl (.c (.int .i64 1)) (.s 78) },
          { dst := some 80, op := .bin .or (.s 77) (.s 79) },
          { dst := some 11, op := .mov (.s 80) }])
        (.skip)))))))
    (.ops [{ dst := some 81, op := .bin .add (.s 46) (.c (.int .i64 1)) },
      { dst := some 46, op := .mov (.s 81) }])))
def F_tbox_uncovered_1_L1 : PC :=
  .seq (.seq (.ops [{ dst := some 38, op := .mov (.s 10) },
      { dst := some 39, op := .mov (.s 0) },
      { dst := some 40, op := .fld 16 (.s 3) },
      { dst := some 41, op := .idxA 16 1 (.s 40) (.s 39) },
      { dst := some 42, op := .load 1 false (.s 41) },
      { dst := some 43, op := .bin .leq (.s 38) (.s 42) }])
    (.cond (.s 43)
      (.skip)
      (.exit 0)))
    (.block 1 (.seq (.ops [{ dst := some 11, op := .mov (.c (.int .i64 0)) },
        { dst := some 12, op := .mov (.c (.int .i64 9007199254740993)) }])
      (.seq (.seq (.ops [{ dst := some 44, op := .load 1 false (.s 5) },
        { dst := some 45, op := .len false (.s 44) },
        { dst := some 46, op := .mov (.c (.int .i64 0)) }])
      (.block 2 (.loop [0, 1, 2, 3, 4, 5, 6, 10, 11, 12, 44, 45, 46] F_tbox_uncovered_1_L0)))
      (.seq (.ops [{ dst := some 82, op := .load 1 false (.s 2) },
        { dst := some 83, op := .mov (.s 0) },
        { dst := some 84, op := .mov (.s 10) },
        { dst := some 85, op := .nilc (.s 82) },
        { dst := some 86, op := .idxA 16 1 (.s 85) (.s 83) },
        { dst := none, op := .stor 1 (.s 86) (.s 84) }])
      (.seq (.seq (.ops [{ dst := some 87, op := .load 1 false (.s 6) },
        { dst := some 88, op := .mov (.s 0) },
        { dst := some 89, op := .bin .add (.s 88) (.c (.int .i64 1)) },
        { dst := some 90, op := .mov (.s 11) },
        { dst := some 91, op := .callv (.s 87) [(.s 89), (.s 90)] }])
      (.cond (.s 91)
        (.seq (.ops [{ dst := some 9, op := .mov (.c (.bool true)) }])
        (.ret))
        (.skip)))
      (.ops [{ dst := some 92, op := .mov (.s 12) },
        { dst := some 10, op := .mov (.s 92) }]))))))
def F_tbox_uncovered_1 : PF :=
  .mk
    (.seq (.ops [{ dst := some 9, op := .mov (.c (.bool false)) }])
      (.seq (.seq (.ops [{ dst := some 15, op := .mov (.s 1) },
        { dst := some 16, op := .bin .eql (.s 15) (.c (.int .i64 0)) }])
      (.cond (.s 16)
        (.seq (.ops [{ dst := some 17, op := .load 1 false (.s 2) },
          { dst := some 18, op := .nilc (.s 17) },
          { dst := some 19, op := .mov (.s 0) },
          { dst := some 20, op := .sliceA 16 1 false (.s 18) (some (.s 19)) none },
          { dst := some 21, op := .fld 0 (.s 3) },
          { dst := some 22, op := .mov (.s 0) },
          { dst := some 23, op := .sliceA 16 1 false (.s 21) (some (.s 22)) none },
          { dst := some 24, op := .cpy 1 (.s 20) (.s 23) }])
        (.seq (.ops [{ dst := some 9, op := .mov (.c (.bool true)) }])
        (.ret)))
        (.skip)))
      (.seq (.seq (.ops [{ dst := some 25, op := .mov (.s 0) },
        { dst := some 26, op := .bin .eql (.s 25) (.c (.int .i64 16)) },
        { dst := some 27, op := .mov (.s 26) },
        { dst := some 28, op := .load 1 false (.s 4), guard := some (27, false) },
        { dst := some 29, op := .mov (.s 0), guard := some (27, false) },
        { dst := some 30, op := .mov (.s 1), guard := some (27, false) },
        { dst := some 31, op := .bld [(.int .i64 0), (.int .i64 0)] [(0, 1, (.s 29)), (1, 1, (.s 30))], guard := some (27, false) },
        { dst := some 32, op := .mapget 3 [0, 0] false (.bool false) (.s 28) (.s 31), guard := some (27, false) },
        { dst := some 33, op := .pick (.s 27) (.c (.bool true)) (.s 32) }])
      (.cond (.s 33)
        (.seq (.ops [{ dst := some 9, op := .mov (.c (.bool false)) }])
        (.ret))
        (.skip)))
      (.seq (.seq (.ops [{ dst := some 34, op := .mov (.s 0) },
        { dst := some 35, op := .fld 0 (.s 3) },
        { dst := some 36, op := .idxA 16 1 (.s 35) (.s 34) },
        { dst := some 37, op := .load 1 false (.s 36) },
        { dst := some 10, op := .mov (.s 37) }])
      (.block 0 (.loop [0, 1, 2, 3, 4, 5, 6, 10] F_tbox_uncovered_1_L1)))
      (.seq (.ops [{ dst := some 93, op := .load 1 false (.s 4) },
        { dst := some 94, op := .mov (.s 0) },
        { dst := some 95, op := .mov (.s 1) },
        { dst := some 96, op := .bld [(.int .i64 0), (.int .i64 0)] [(0, 1, (.s 94)), (1, 1, (.s 95))] },
        { dst := none, op := .mapup 3 [0, 0] (.s 93) (.s 96) (.c (.bool true)) }])
      (.seq (.ops [{ dst := some 9, op := .mov (.c (.bool false)) }])
      (.ret)))))))
    [.tmp 9]
theorem tr_tbox_uncovered_1 : trF Try.prog [36, 56] 56 [[0, 1, 2, 3, 4, 5, 6, 10], [0, 1, 2, 3, 4, 5, 6, 10, 11, 12, 44, 45, 46]] = some F_tbox_uncovered_1 := by kernel_rfl
def F_wagonpoollaw19_TboxOrder_L0 : PC :=
  .seq (.seq (.ops [{ dst := some 40, op := .mov (.s 7) },
      { dst := some 41, op := .bin .geq (.s 40) (.c (.int .i64 0)) }])
    (.cond (.s 41)
      (.skip)
      (.exit 0)))
    (.seq (.block 1 (.ops [{ dst := some 44, op := .fld 2 (.s 5) },
        { dst := some 45, op := .load 1 false (.s 44) },
        { dst := some 46, op := .fld 2 (.s 2) },
        { dst := some 47, op := .load 1 false (.s 46) },
        { dst := some 48, op := .mov (.s 7) },
        { dst := some 49, op := .idxS 9 (.s 47) (.s 48) },
        { dst := some 50, op := .load 9 true (.s 49) },
        { dst := some 51, op := .bslc 9 [(.s 50)] },
        { dst := some 52, op := .app 9 112 (.s 45) (.s 51) },
        { dst := some 53, op := .fld 2 (.s 5) },
        { dst := none, op := .stor 1 (.s 53) (.s 52) }]))
    (.ops [{ dst := some 42, op := .mov (.s 7) },
      { dst := some 43, op := .bin .sub (.s 42) (.c (.int .i64 1)) },
      { dst := some 7, op := .mov (.s 43) }]))
def F_wagonpoollaw19_TboxOrder : PF :=
  .mk
    (.seq (.ops [{ dst := some 2, op := .box (.s 0) },
        { dst := some 3, op := .box (.s 1) },
        { dst := some 4, op := .mov (.c (.bool false)) }])
      (.seq (.seq (.ops [{ dst := some 14, op := .call 10 [] },
        { dst := some 15, op := .un .not (.s 14) }])
      (.cond (.s 15)
        (.seq (.ops [{ dst := some 4, op := .mov (.c (.bool false)) }])
        (.ret))
        (.skip)))
      (.seq (.seq (.ops [{ dst := some 16, op := .fld 2 (.s 2) },
        { dst := some 17, op := .load 1 false (.s 16) },
        { dst := some 18, op := .len false (.s 17) },
        { dst := some 19, op := .bin .gtr (.s 18) (.c (.int .i64 40)) },
        { dst := some 20, op := .mov (.s 19) },
        { dst := some 21, op := .load 17 true (.s 3), guard := some (20, false) },
        { dst := some 22, op := .call 11 [(.s 21)], guard := some (20, false) },
        { dst := some 23, op := .un .not (.s 22), guard := some (20, false) },
        { dst := some 24, op := .pick (.s 20) (.c (.bool true)) (.s 23) },
        { dst := some 25, op := .mov (.s 24) },
        { dst := some 26, op := .load 3 true (.s 2), guard := some (25, false) },
        { dst := some 27, op := .call 23 [(.s 26)], guard := some (25, false) },
        { dst := some 28, op := .bin .neq (.s 27) (.c (.int .i64 0)), guard := some (25, false) },
        { dst := some 29, op := .pick (.s 25) (.c (.bool true)) (.s 28) }])
      (.cond (.s 29)
        (.seq (.ops [{ dst := some 4, op := .mov (.c (.bool true)) }])
        (.ret))
        (.skip)))
      (.seq (.ops [{ dst := some 30, op := .fld 0 (.s 2) },
        { dst := some 31, op := .load 1 false (.s 30) },
        { dst := some 32, op := .fld 1 (.s 2) },
        { dst := some 33, op := .load 1 false (.s 32) },
        { dst := some 34, op := .bld [(.str []), (.int .i64 0), (.slc 0 [] true)] [(0, 1, (.s 31)), (1, 1, (.s 33))] },
        { dst := some 5, op := .box (.c (.agg [(.str []), (.int .i64 0), (.slc 0 [] true)])) },
        { dst := none, op := .stor 3 (.s 5) (.s 34) }])
      (.seq (.ops [{ dst := some 35, op := .fld 2 (.s 2) },
        { dst := some 36, op := .load 1 false (.s 35) },
        { dst := some 37, op := .len false (.s 36) },
        { dst := some 38, op := .bin .sub (.s 37) (.c (.int .i64 1)) },
        { dst := some 6, op := .mov (.s 38) }])
      (.seq (.seq (.ops [{ dst := some 39, op := .mov (.s 6) },
        { dst := some 7, op := .mov (.s 39) }])
      (.block 0 (.loop [2, 3, 5, 6, 7] F_wagonpoollaw19_TboxOrder_L0)))
      (.seq (.ops [{ dst := some 55, op := .load 3 true (.s 2) },
        { dst := some 56, op := .load 17 true (.s 3) },
        { dst := some 57, op := .call 19 [(.s 55), (.s 56)] },
        { dst := some 54, op := .mov (.s 57) },
        { dst := some 58, op := .ext (.s 54) 0 },
        { dst := some 59, op := .ext (.s 54) 1 },
        { dst := some 60, op := .ext (.s 54) 2 },
        { dst := some 8, op := .mov (.s 58) },
        { dst := some 9, op := .mov (.s 59) },
        { dst := some 10, op := .mov (.s 60) }])
      (.seq (.ops [{ dst := some 62, op := .load 3 true (.s 5) },
        { dst := some 63, op := .load 17 true (.s 3) },
        { dst := some 64, op := .call 19 [(.s 62), (.s 63)] },
        { dst := some 61, op := .mov (.s 64) },
        { dst := some 65, op := .ext (.s 61) 0 },
        { dst := some 66, op := .ext (.s 61) 1 },
        { dst := some 67, op := .ext (.s 61) 2 },
        { dst := some 11, op := .mov (.s 65) },
        { dst := some 12, op := .mov (.s 66) },
        { dst := some 13, op := .mov (.s 67) }])
      (.seq (.seq (.ops [{ dst := some 68, op := .mov (.s 10) },
        { dst := some 69, op := .bin .neq (.s 68) (.c (.int .i64 0)) }])
      (.cond (.s 69)
        (.seq (.ops [{ dst := some 70, op := .mov (.s 10) },
          { dst := some 71, op := .mov (.s 13) },
          { dst := some 72, op := .bin .eql (.s 70) (.s 71) },
          { dst := some 4, op := .mov (.s 72) }])
        (.ret))
        (.skip)))
      (.seq (.ops [{ dst := some 73, op := .mov (.s 13) },
        { dst := some 74, op := .bin .eql (.s 73) (.c (.int .i64 0)) },
        { dst := some 75, op := .mov (.s 74) },
        { dst := some 76, op := .mov (.s 8), guard := some (75, true) },
        { dst := some 77, op := .mov (.s 11), guard := some (75, true) },
        { dst := some 78, op := .bin .eql (.s 76) (.s 77), guard := some (75, true) },
        { dst := some 79, op := .pick (.s 75) (.s 78) (.c (.bool false)) },
        { dst := some 80, op := .mov (.s 79) },
        { dst := some 81, op := .mov (.s 9), guard := some (80, true) },
        { dst := some 82, op := .mov (.s 6), guard := some (80, true) },
        { dst := some 83, op := .mov (.s 12), guard := some (80, true) },
        { dst := some 84, op := .bin .sub (.s 82) (.s 83), guard := some (80, true) },
        { dst := some 85, op := .bin .eql (.s 81) (.s 84), guard := some (80, true) },
        { dst := some 86, op := .pick (.s 80) (.s 85) (.c (.bool false)) },
        { dst := some 4, op := .mov (.s 86) }])
      (.ret)))))))))))
    [.tmp 4]
theorem tr_wagonpoollaw19_TboxOrder : trF Try.prog [36, 56, 32, 33, 60000033, 80000012] 8 [[2, 3, 5, 6, 7]] = some F_wagonpoollaw19_TboxOrder := by kernel_rfl
def F_wagonpoolref19_IsCase_L0 : PC :=
  .seq (.seq (.ops [{ dst := some 4, op := .mov (.s 3) },
      { dst := some 5, op := .bin .lss (.s 4) (.c (.int .i64 16)) }])
    (.cond (.s 5)
      (.skip)
      (.exit 0)))
    (.seq (.block 1 (.seq (.ops [{ dst := some 8, op := .mov (.s 3) },
        { dst := some 9, op := .fld 1 (.s 1) },
        { dst := some 10, op := .idxA 16 1 (.s 9) (.s 8) },
        { dst := some 11, op := .load 1 false (.s 10) },
        { dst := some 12, op := .bin .lss (.s 11) (.c (.int .i64 0)) },
        { dst := some 13, op := .mov (.s 12) },
        { dst := some 14, op := .mov (.s 3), guard := some (13, false) },
        { dst := some 15, op := .fld 1 (.s 1), guard := some (13, false) },
        { dst := some 16, op := .idxA 16 1 (.s 15) (.s 14), guard := some (13, false) },
        { dst := some 17, op := .load 1 false (.s 16), guard := some (13, false) },
        { dst := some 18, op := .bin .gtr (.s 17) (.c (.int .i64 9007199254740992)), guard := some (13, false) },
        { dst := some 19, op := .pick (.s 13) (.c (.bool true)) (.s 18) }])
      (.cond (.s 19)
        (.seq (.ops [{ dst := some 2, op := .mov (.c (.bool false)) }])
        (.ret))
        (.skip))))
    (.ops [{ dst := some 6, op := .mov (.s 3) },
      { dst := some 7, op := .bin .add (.s 6) (.c (.int .i64 1)) },
      { dst := some 3, op := .mov (.s 7) }]))
def F_wagonpoolref19_IsCase : PF :=
  .mk
    (.seq (.ops [{ dst := some 1, op := .box (.s 0) },
        { dst := some 2, op := .mov (.c (.bool false)) }])
      (.seq (.seq (.ops [{ dst := some 3, op := .mov (.c (.int .i64 0)) }])
      (.block 0 (.loop [1, 3] F_wagonpoolref19_IsCase_L0)))
      (.seq (.ops [{ dst := some 20, op := .fld 0 (.s 1) },
        { dst := some 21, op := .load 1 false (.s 20) },
        { dst := some 22, op := .bin .eql (.s 21) (.c (.int .i64 65535)) },
        { dst := some 2, op := .mov (.s 22) }])
      (.ret))))
    [.tmp 2]
theorem tr_wagonpoolref19_IsCase : trF Try.prog [36, 56, 32, 33, 60000033, 80000012] 11 [[1, 3]] = some F_wagonpoolref19_IsCase := by kernel_rfl
def F_teval_Holds_L0 : PC :=
  .seq (.ops [{ dst := some 16, op := .bin .lss (.s 15) (.s 14) }])
    (.seq (.cond (.s 16)
      (.skip)
      (.exit 0))
    (.seq (.block 1 (.seq (.ops [{ dst := some 17, op := .idxS 3 (.s 13) (.s 15) },
        { dst := some 18, op := .load 3 true (.s 17) },
        { dst := some 8, op := .box (.c (.agg [(.int .i64 0), (.int .i64 0), (.int .i64 0)])) },
        { dst := none, op := .stor 3 (.s 8) (.s 18) }])
      (.seq (.opsX [{ dst := some 19, op := .mov (.s 6) },
        { dst := some 20, op := .fld 0 (.s 8) },
        { dst := some 21, op := .load 1 false (.s 20) },
        { dst := some 22, op := .icall 33 [(.s 19), (.s 21)] },
        { dst := some 9, op := .mov (.s 22) }])
      (.seq (.ops [{ dst := some 23, op := .mov (.s 9) },
        { dst := some 24, op := .fld 1 (.s 8) },
        { dst := some 25, op := .load 1 false (.s 24) },
        { dst := some 26, op := .bin .lss (.s 23) (.s 25) },
        { dst := some 27, op := .mov (.s 26) },
        { dst := some 28, op := .mov (.s 9), guard := some (27, false) },
        { dst := some 29, op := .fld 2 (.s 8), guard := some (27, false) },
        { dst := some 30, op := .load 1 false (.s 29), guard := some (27, false) },
        { dst := some 31, op := .bin .gtr (.s 28) (.s 30), guard := some (27, false) },
        { dst := some 32, op := .pick (.s 27) (.c (.bool true)) (.s 31) }])
      (.cond (.s 32)
        (.seq (.ops [{ dst := some 4, op := .mov (.c (.bool false)) },
          { dst := none, op := .stor 1 (.s 5) (.c (.int .i64 0)) }])
        (.ret))
        (.skip))))))
    (.ops [{ dst := some 33, op := .bin .add (.s 15) (.c (.int .i64 1)) },
      { dst := some 15, op := .mov (.s 33) }])))
def F_teval_Holds : PFD :=
  .mk
    [{ dst := some 2, op := .box (.s 0) },
      { dst := some 3, op := .box (.s 1) },
      { dst := some 4, op := .mov (.c (.bool false)) },
      { dst := some 5, op := .box (.c (.int .i64 0)) }]
    (.c (.clo 31 []))
    [(.s 5)]
    (.seq (.ops [{ dst := some 10, op := .load 17 true (.s 3) },
        { dst := some 11, op := .icall 32 [(.s 10)] },
        { dst := some 6, op := .mov (.s 11) }])
      (.seq (.seq (.ops [{ dst := some 12, op := .fld 1 (.s 2) },
        { dst := some 13, op := .load 1 false (.s 12) },
        { dst := some 14, op := .len false (.s 13) },
        { dst := some 15, op := .mov (.c (.int .i64 0)) }])
      (.block 0 (.loop [4, 5, 6, 13, 14, 15] F_teval_Holds_L0)))
      (.seq (.ops [{ dst := some 4, op := .mov (.c (.bool true)) },
        { dst := none, op := .stor 1 (.s 5) (.c (.int .i64 0)) }])
      (.ret))))
    [.tmp 4, .cell 5 1 false]
theorem tr_teval_Holds : trFD Try.prog [36, 56, 32, 33, 60000033, 80000012] 12 [[4, 5, 6, 13, 14, 15]] = some F_teval_Holds := by kernel_rfl
def F_teval_Amount_L0 : PC :=
  .seq (.ops [{ dst := some 15, op := .bin .lss (.s 14) (.s 13) }])
    (.seq (.cond (.s 15)
      (.skip)
      (.exit 0))
    (.seq (.block 1 (.seq (.ops [{ dst := some 16, op := .mov (.s 14) },
        { dst := some 17, op := .idxS 9 (.s 12) (.s 14) },
        { dst := some 18, op := .load 9 true (.s 17) },
        { dst := some 8, op := .box (.c (.agg [(.str []), (.slc 0 [] true), (.int .i64 0), (.int .i64 0), (.int .i64 0), (.int .i64 0), (.int .i64 0), (.int .i64 0), (.slc 0 [] true)])) },
        { dst := some 7, op := .mov (.s 16) },
        { dst := none, op := .stor 9 (.s 8) (.s 18) }])
      (.seq (.ops [{ dst := some 20, op := .load 9 true (.s 8) },
        { dst := some 21, op := .load 17 true (.s 3) },
        { dst := some 22, op := .call 12 [(.s 20), (.s 21)] },
        { dst := some 19, op := .mov (.s 22) },
        { dst := some 23, op := .ext (.s 19) 0 },
        { dst := some 24, op := .ext (.s 19) 1 },
        { dst := some 9, op := .mov (.s 23) },
        { dst := some 10, op := .mov (.s 24) }])
      (.seq (.seq (.ops [{ dst := some 25, op := .mov (.s 10) },
        { dst := some 26, op := .bin .neq (.s 25) (.c (.int .i64 0)) }])
      (.cond (.s 26)
        (.seq (.ops [{ dst := some 27, op := .mov (.s 10) },
          { dst := some 4, op := .mov (.c (.int .i64 0)) },
          { dst := some 5, op := .mov (.c (.int .i64 0)) },
          { dst := some 6, op := .mov (.s 27) }])
        (.ret))
        (.skip)))
      (.seq (.seq (.ops [{ dst := some 28, op := .mov (.s 9) },
        { dst := some 29, op := .un .not (.s 28) }])
      (.cond (.s 29)
        (.exit 1)
        (.skip)))
      (.seq (.seq (.ops [{ dst := some 31, op := .fld 2 (.s 8) },
        { dst := some 32, op := .load 7 true (.s 31) },
        { dst := some 33, op := .load 17 true (.s 3) },
        { dst := some 34, op := .call 38 [(.s 32), (.s 33)] },
        { dst := some 30, op := .mov (.s 34) },
        { dst := some 35, op := .ext (.s 30) 0 },
        { dst := some 36, op := .ext (.s 30) 1 },
        { dst := some 4, op := .mov (.s 35) },
        { dst := some 10, op := .mov (.s 36) }])
      (.seq (.ops [{ dst := some 37, op := .mov (.s 10) },
        { dst := some 38, op := .bin .neq (.s 37) (.c (.int .i64 0)) }])
      (.cond (.s 38)
        (.seq (.ops [{ dst := some 39, op := .mov (.s 10) },
          { dst := some 4, op := .mov (.c (.int .i64 0)) },
          { dst := some 5, op := .mov (.c (.int .i64 0)) },
          { dst := some 6, op := .mov (.s 39) }])
        (.ret))
        (.skip))))
      (.seq (.ops [{ dst := some 40, op := .mov (.s 4) },
        { dst := some 41, op := .mov (.s 7) },
        { dst := some 4, op := .mov (.s 40) },
        { dst := some 5, op := .mov (.s 41) },
        { dst := some 6, op := .mov (.c (.int .i64 0)) }])
      (.ret))))))))
    (.ops [{ dst := some 42, op := .bin .add (.s 14) (.c (.int .i64 1)) },
      { dst := some 14, op := .mov (.s 42) }])))
def F_teval_Amount : PF :=
  .mk
    (.seq (.ops [{ dst := some 2, op := .box (.s 0) },
        { dst := some 3, op := .box (.s 1) },
        { dst := some 4, op := .mov (.c (.int .i64 0)) },
        { dst := some 5, op := .mov (.c (.int .i64 0)) },
        { dst := some 6, op := .mov (.c (.int .i64 0)) }])
      (.seq (.seq (.ops [{ dst := some 11, op := .fld 2 (.s 2) },
        { dst := some 12, op := .load 1 false (.s 11) },
        { dst := some 13, op := .len false (.s 12) },
        { dst := some 14, op := .mov (.c (.int .i64 0)) }])
      (.block 0 (.loop [3, 12, 13, 14] F_teval_Amount_L0)))
      (.seq (.ops [{ dst := some 4, op := .mov (.c (.int .i64 0)) },
        { dst := some 5, op := .mov (.c (.int .i64 0)) },
        { dst := some 6, op := .mov (.c (.int .i64 180)) }])
      (.ret))))
    [.tmp 4, .tmp 5, .tmp 6]
theorem tr_teval_Amount : trF Try.prog [36, 56, 32, 33, 60000033, 80000012] 19 [[3, 12, 13, 14]] = some F_teval_Amount := by kernel_rfl
def F_teval_newEvaluator : PF :=
  .mk
    (.seq (.ops [{ dst := some 1, op := .box (.s 0) },
        { dst := some 2, op := .mov (.c .nilp) }])
      (.seq (.ops [{ dst := some 4, op := .load 17 true (.s 1) },
        { dst := some 5, op := .bld [(.int .i64 0), (.int .i64 0), (.int .i64 0), (.int .i64 0), (.int .i64 0), (.int .i64 0), (.int .i64 0), (.int .i64 0), (.int .i64 0), (.int .i64 0), (.int .i64 0), (.int .i64 0), (.int .i64 0), (.int .i64 0), (.int .i64 0), (.int .i64 0), (.int .i64 0), .nilm] [(0, 17, (.s 4))] },
        { dst := some 6, op := .box (.s 5) },
        { dst := some 3, op := .mov (.s 6) }])
      (.seq (.ops [{ dst := some 7, op := .mov (.s 3) },
        { dst := some 8, op := .mkmap 2 },
        { dst := some 9, op := .mov (.s 3) },
        { dst := some 10, op := .mkclo 5000045 [(.s 9)] },
        { dst := none, op := .mapup 2 [0] (.s 8) (.c (.int .i64 3)) (.s 10) },
        { dst := some 11, op := .mov (.s 3) },
        { dst := some 12, op := .mkclo 5000046 [(.s 11)] },
        { dst := none, op := .mapup 2 [0] (.s 8) (.c (.int .i64 4)) (.s 12) },
        { dst := some 13, op := .mov (.s 3) },
        { dst := some 14, op := .mkclo 5000047 [(.s 13)] },
        { dst := none, op := .mapup 2 [0] (.s 8) (.c (.int .i64 5)) (.s 14) },
        { dst := some 15, op := .mov (.s 3) },
        { dst := some 16, op := .mkclo 5000048 [(.s 15)] },
        { dst := none, op := .mapup 2 [0] (.s 8) (.c (.int .i64 6)) (.s 16) },
        { dst := some 17, op := .mov (.s 3) },
        { dst := some 18, op := .mkclo 5000049 [(.s 17)] },
        { dst := none, op := .mapup 2 [0] (.s 8) (.c (.int .i64 7)) (.s 18) },
        { dst := some 19, op := .mov (.s 3) },
        { dst := some 20, op := .mkclo 5000050 [(.s 19)] },
        { dst := none, op := .mapup 2 [0] (.s 8) (.c (.int .i64 8)) (.s 20) },
        { dst := some 21, op := .mov (.s 3) },
        { dst := some 22, op := .mkclo 5000051 [(.s 21)] },
        { dst := none, op := .mapup 2 [0] (.s 8) (.c (.int .i64 9)) (.s 22) },
        { dst := some 23, op := .mov (.s 3) },
        { dst := some 24, op := .mkclo 5000052 [(.s 23)] },
        { dst := none, op := .mapup 2 [0] (.s 8) (.c (.int .i64 10)) (.s 24) },
        { dst := some 25, op := .mov (.s 3) },
        { dst := some 26, op := .mkclo 5000053 [(.s 25)] },
        { dst := none, op := .mapup 2 [0] (.s 8) (.c (.int .i64 11)) (.s 26) },
        { dst := some 27, op := .mov (.s 8) },
        { dst := some 28, op := .nilc (.s 7) },
        { dst := some 29, op := .fld 17 (.s 28) },
        { dst := none, op := .stor 1 (.s 29) (.s 27) }])
      (.seq (.ops [{ dst := some 30, op := .mov (.s 3) },
        { dst := some 2, op := .mov (.s 30) }])
      (.ret)))))
    [.tmp 2]
theorem tr_teval_newEvaluator : trF Try.prog [36, 56, 32, 33, 60000033, 80000012] 32 [] = some F_teval_newEvaluator := by kernel_rfl
def F_teval_evaluator_load : PF :=
  .mk
    (.seq (.ops [{ dst := some 4, op := .mov (.c (.int .i64 0)) }])
      (.seq (.seq (.ops [{ dst := some 6, op := .mov (.s 1) },
        { dst := some 7, op := .bin .lss (.s 6) (.c (.int .i64 0)) },
        { dst := some 8, op := .mov (.s 7) },
        { dst := some 9, op := .mov (.s 1), guard := some (8, false) },
        { dst := some 10, op := .bin .geq (.s 9) (.c (.int .i64 16)), guard := some (8, false) },
        { dst := some 11, op := .pick (.s 8) (.c (.bool true)) (.s 10) }])
      (.cond (.s 11)
        (.pan [{ dst := some 12, op := .bld [(.int .i64 0)] [(0, 1, (.c (.int .i64 1)))] }] 13 96 (.s 12))
        (.skip)))
      (.seq (.seq (.ops [{ dst := some 14, op := .mov (.s 0) },
        { dst := some 15, op := .nilc (.s 14) },
        { dst := some 16, op := .fld 0 (.s 15) },
        { dst := some 17, op := .fld 0 (.s 16) },
        { dst := some 18, op := .load 1 false (.s 17) },
        { dst := some 19, op := .mov (.s 1) },
        { dst := some 20, op := .bin .shl (.c (.int .i64 1)) (.s 19) },
        { dst := some 21, op := .bin .and (.s 18) (.s 20) },
        { dst := some 22, op := .bin .eql (.s 21) (.c (.int .i64 0)) }])
      (.cond (.s 22)
        (.pan [{ dst := some 23, op := .bld [(.int .i64 0)] [(0, 1, (.c (.int .i64 181)))] }] 24 96 (.s 23))
        (.skip)))
      (.seq (.ops [{ dst := some 25, op := .mov (.s 0) },
        { dst := some 26, op := .mov (.s 1) },
        { dst := some 27, op := .nilc (.s 25) },
        { dst := some 28, op := .fld 0 (.s 27) },
        { dst := some 29, op := .fld 1 (.s 28) },
        { dst := some 30, op := .idxA 16 1 (.s 29) (.s 26) },
        { dst := some 31, op := .load 1 false (.s 30) },
        { dst := some 5, op := .mov (.s 31) }])
      (.seq (.seq (.ops [{ dst := some 32, op := .mov (.s 5) },
        { dst := some 33, op := .bin .lss (.s 32) (.c (.int .i64 (-9007199254740992))) },
        { dst := some 34, op := .mov (.s 33) },
        { dst := some 35, op := .mov (.s 5), guard := some (34, false) },
        { dst := some 36, op := .bin .gtr (.s 35) (.c (.int .i64 9007199254740992)), guard := some (34, false) },
        { dst := some 37, op := .pick (.s 34) (.c (.bool true)) (.s 36) }])
      (.cond (.s 37)
        (.pan [{ dst := some 38, op := .bld [(.int .i64 0)] [(0, 1, (.c (.int .i64 3)))] }] 39 96 (.s 38))
        (.skip)))
      (.seq (.ops [{ dst := some 40, op := .mov (.s 5) },
        { dst := some 4, op := .mov (.s 40) }])
      (.ret)))))))
    [.tmp 4]
theorem tr_teval_evaluator_load : trF Try.prog [36, 56, 32, 33, 60000033, 80000012] 33 [] = some F_teval_evaluator_load := by kernel_rfl
end Go.Proofs.Ytgppecaeegaooaa.PI
