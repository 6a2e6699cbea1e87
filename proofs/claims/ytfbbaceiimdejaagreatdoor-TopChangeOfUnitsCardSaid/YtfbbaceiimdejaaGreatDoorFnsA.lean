/-
  The translations of this seat's functions into pure code, each with the kernel's word that it is the translation. Written by a program (gen.py).
  Conditions: none.
-/
import Derived.Test.YtfbbaceiimdejaaGreatDoorEngW
import Derived.KernelRfl
set_option linter.unusedVariables false
set_option linter.unusedSimpArgs false
namespace Go.Proofs.YtfbbaceiimdejaaGreatDoor.PI
open Go
def F_wagonpooltop_TopChangeOfUnits:PF:=
 .mk
  (.seq (.ops [{dst:=some 4,op:=.box (.s 0)},
    {dst:=some 5,op:=.box (.s 1)},
    {dst:=some 8,op:=.mov (.c (.bool false))}])
   (.seq (.seq (.ops [{dst:=some 21,op:=.call 4 []},
    {dst:=some 22,op:=.un .not (.s 21)}])
   (.cond (.s 22)
    (.seq (.ops [{dst:=some 8,op:=.mov (.c (.bool false))}])
    (.ret))
    (.skip)))
   (.seq (.ops [{dst:=some 23,op:=.mov (.s 2)},
    {dst:=some 24,op:=.bin .rem (.s 23) (.c (.int .u8 4))},
    {dst:=some 25,op:=.conv (.int .i64) (.s 24)},
    {dst:=some 9,op:=.mov (.s 25)}])
   (.seq (.ops [{dst:=some 26,op:=.mov (.s 3)},
    {dst:=some 27,op:=.bin .rem (.s 26) (.c (.int .u8 4))},
    {dst:=some 28,op:=.conv (.int .i64) (.s 27)},
    {dst:=some 29,op:=.bin .add (.c (.int .i64 1)) (.s 28)},
    {dst:=some 10,op:=.mov (.s 29)}])
   (.seq (.seq (.ops [{dst:=some 30,op:=.load 7 true (.s 4)},
    {dst:=some 31,op:=.call 5 [(.s 30),(.c (.int .i64 31))]},
    {dst:=some 32,op:=.bin .gtr (.s 31) (.c (.int .i64 30))}])
   (.cond (.s 32)
    (.seq (.ops [{dst:=some 8,op:=.mov (.c (.bool true))}])
    (.ret))
    (.skip)))
   (.seq (.ops [{dst:=some 34,op:=.load 7 true (.s 4)},
    {dst:=some 35,op:=.mov (.s 9)},
    {dst:=some 36,op:=.mov (.s 10)},
    {dst:=some 37,op:=.call 6 [(.s 34),(.s 35),(.s 36)]},
    {dst:=some 33,op:=.mov (.s 37)},
    {dst:=some 38,op:=.ext (.s 33) 0},
    {dst:=some 39,op:=.ext (.s 33) 1},
    {dst:=some 11,op:=.box (.c (.agg [(.int .i64 0),(.int .i64 0),(.int .i64 0),(.int .i64 0),(.int .i64 0),(.int .i64 0),(.slc 0 [] true)]))},
    {dst:=none,op:=.stor 7 (.s 11) (.s 38)},
    {dst:=some 12,op:=.mov (.s 39)}])
   (.seq (.ops [{dst:=some 41,op:=.load 17 true (.s 5)},
    {dst:=some 42,op:=.mov (.s 9)},
    {dst:=some 43,op:=.mov (.s 10)},
    {dst:=some 44,op:=.call 7 [(.s 41),(.s 42),(.s 43)]},
    {dst:=some 40,op:=.mov (.s 44)},
    {dst:=some 45,op:=.ext (.s 40) 0},
    {dst:=some 46,op:=.ext (.s 40) 1},
    {dst:=some 13,op:=.box (.c (.agg [(.int .i64 0),(.int .i64 0),(.int .i64 0),(.int .i64 0),(.int .i64 0),(.int .i64 0),(.int .i64 0),(.int .i64 0),(.int .i64 0),(.int .i64 0),(.int .i64 0),(.int .i64 0),(.int .i64 0),(.int .i64 0),(.int .i64 0),(.int .i64 0),(.int .i64 0)]))},
    {dst:=none,op:=.stor 17 (.s 13) (.s 45)},
    {dst:=some 14,op:=.mov (.s 46)}])
   (.seq (.seq (.ops [{dst:=some 47,op:=.mov (.s 12)},
    {dst:=some 48,op:=.un .not (.s 47)},
    {dst:=some 49,op:=.mov (.s 48)},
    {dst:=some 50,op:=.mov (.s 14),guard:=some (49,false)},
    {dst:=some 51,op:=.un .not (.s 50),guard:=some (49,false)},
    {dst:=some 52,op:=.pick (.s 49) (.c (.bool true)) (.s 51)}])
   (.cond (.s 52)
    (.seq (.ops [{dst:=some 8,op:=.mov (.c (.bool true))}])
    (.ret))
    (.skip)))
   (.seq (.ops [{dst:=some 54,op:=.load 7 true (.s 4)},
    {dst:=some 55,op:=.call 8 [(.s 54)]},
    {dst:=some 53,op:=.mov (.s 55)},
    {dst:=some 56,op:=.ext (.s 53) 0},
    {dst:=some 57,op:=.ext (.s 53) 1},
    {dst:=some 15,op:=.box (.c (.agg [(.int .i64 0),(.int .i64 0),(.int .i64 0),(.int .i64 0)]))},
    {dst:=none,op:=.stor 4 (.s 15) (.s 56)},
    {dst:=some 16,op:=.mov (.s 57)}])
   (.seq (.ops [{dst:=some 59,op:=.load 7 true (.s 4)},
    {dst:=some 60,op:=.load 17 true (.s 5)},
    {dst:=some 61,op:=.call 9 [(.s 59),(.s 60)]},
    {dst:=some 58,op:=.mov (.s 61)},
    {dst:=some 62,op:=.ext (.s 58) 0},
    {dst:=some 63,op:=.ext (.s 58) 1},
    {dst:=some 17,op:=.mov (.s 62)},
    {dst:=some 18,op:=.mov (.s 63)}])
   (.seq (.ops [{dst:=some 65,op:=.load 7 true (.s 11)},
    {dst:=some 66,op:=.load 17 true (.s 13)},
    {dst:=some 67,op:=.call 9 [(.s 65),(.s 66)]},
    {dst:=some 64,op:=.mov (.s 67)},
    {dst:=some 68,op:=.ext (.s 64) 0},
    {dst:=some 69,op:=.ext (.s 64) 1},
    {dst:=some 19,op:=.mov (.s 68)},
    {dst:=some 20,op:=.mov (.s 69)}])
   (.seq (.seq (.ops [{dst:=some 70,op:=.mov (.s 16)},
    {dst:=some 71,op:=.bin .neq (.s 70) (.c (.int .i64 0))},
    {dst:=some 72,op:=.mov (.s 71)},
    {dst:=some 73,op:=.mov (.s 9),guard:=some (72,false)},
    {dst:=some 74,op:=.idxA 4 1 (.s 15) (.s 73),guard:=some (72,false)},
    {dst:=some 75,op:=.load 1 false (.s 74),guard:=some (72,false)},
    {dst:=some 76,op:=.bin .lss (.s 75) (.c (.int .i64 0)),guard:=some (72,false)},
    {dst:=some 77,op:=.pick (.s 72) (.c (.bool true)) (.s 76)},
    {dst:=some 78,op:=.mov (.s 77)},
    {dst:=some 79,op:=.mov (.s 9),guard:=some (78,false)},
    {dst:=some 80,op:=.idxA 4 1 (.s 15) (.s 79),guard:=some (78,false)},
    {dst:=some 81,op:=.load 1 false (.s 80),guard:=some (78,false)},
    {dst:=some 82,op:=.bin .gtr (.s 81) (.c (.int .i64 3)),guard:=some (78,false)},
    {dst:=some 83,op:=.pick (.s 78) (.c (.bool true)) (.s 82)}])
   (.cond (.s 83)
    (.seq (.ops [{dst:=some 8,op:=.mov (.c (.bool false))}])
    (.ret))
    (.skip)))
   (.seq (.seq (.ops [{dst:=some 84,op:=.mov (.s 18)},
    {dst:=some 85,op:=.bin .neq (.s 84) (.c (.int .i64 0))},
    {dst:=some 86,op:=.mov (.s 85)},
    {dst:=some 87,op:=.mov (.s 20),guard:=some (86,false)},
    {dst:=some 88,op:=.bin .neq (.s 87) (.c (.int .i64 0)),guard:=some (86,false)},
    {dst:=some 89,op:=.pick (.s 86) (.c (.bool true)) (.s 88)}])
   (.cond (.s 89)
    (.seq (.ops [{dst:=some 90,op:=.mov (.s 18)},
     {dst:=some 91,op:=.bin .eql (.s 90) (.c (.int .i64 0))},
     {dst:=some 92,op:=.mov (.s 91)},
     {dst:=some 93,op:=.mov (.s 20),guard:=some (92,true)},
     {dst:=some 94,op:=.bin .eql (.s 93) (.c (.int .i64 3)),guard:=some (92,true)},
     {dst:=some 95,op:=.pick (.s 92) (.s 94) (.c (.bool false))},
     {dst:=some 96,op:=.mov (.s 95)},
     {dst:=some 97,op:=.mov (.s 18),guard:=some (96,false)},
     {dst:=some 98,op:=.bin .neq (.s 97) (.c (.int .i64 0)),guard:=some (96,false)},
     {dst:=some 99,op:=.pick (.s 96) (.c (.bool true)) (.s 98)},
     {dst:=some 8,op:=.mov (.s 99)}])
    (.ret))
    (.skip)))
   (.seq (.ops [{dst:=some 100,op:=.mov (.s 19)},
    {dst:=some 101,op:=.mov (.s 17)},
    {dst:=some 102,op:=.mov (.s 10)},
    {dst:=some 103,op:=.mov (.s 9)},
    {dst:=some 104,op:=.idxA 4 1 (.s 15) (.s 103)},
    {dst:=some 105,op:=.load 1 false (.s 104)},
    {dst:=some 106,op:=.call 10 [(.s 102),(.s 105)]},
    {dst:=some 107,op:=.bin .mul (.s 101) (.s 106)},
    {dst:=some 108,op:=.bin .eql (.s 100) (.s 107)},
    {dst:=some 8,op:=.mov (.s 108)}])
   (.ret)))))))))))))))
  [.tmp 8]
theorem tr_wagonpooltop_TopChangeOfUnits:trF Tryz.prog [] 3 []=some F_wagonpooltop_TopChangeOfUnits:=by kernel_rfl
def F_wagonpooltop_tariffSane:PF:=
 .mk
  (.seq (.ops [{dst:=some 0,op:=.mov (.c (.bool false))}])
   (.seq (.ops [{dst:=some 8,op:=.call 11 [(.c (.str [116,97,114,105,102,102,32,116,32,102,111,114,32,104,105,114,101,32,123,32,99,108,97,117,115,101,32,97,32,112,97,121,32,50,32,109,111,110,101,121,32,112,101,114,32,109,105,110,117,116,101,32,42,32,109,105,110,117,116,101,115,59,32,125]))]},
    {dst:=some 7,op:=.mov (.s 8)},
    {dst:=some 9,op:=.ext (.s 7) 0},
    {dst:=some 10,op:=.ext (.s 7) 1},
    {dst:=some 11,op:=.ext (.s 7) 2},
    {dst:=some 1,op:=.box (.c (.agg [(.str []),(.int .i64 0),(.slc 0 [] true)]))},
    {dst:=none,op:=.stor 3 (.s 1) (.s 9)},
    {dst:=some 2,op:=.mov (.s 10)},
    {dst:=some 3,op:=.mov (.s 11)}])
   (.seq (.ops [{dst:=some 13,op:=.load 3 true (.s 1)},
    {dst:=some 14,op:=.bld [(.int .i64 0),(.int .i64 0),(.int .i64 0),(.int .i64 0),(.int .i64 0),(.int .i64 0),(.int .i64 0),(.int .i64 0),(.int .i64 0),(.int .i64 0),(.int .i64 0),(.int .i64 0),(.int .i64 0),(.int .i64 0),(.int .i64 0),(.int .i64 0)] [(7,1,(.c (.int .i64 21)))]},
    {dst:=some 15,op:=.bld [(.int .i64 0),(.int .i64 0),(.int .i64 0),(.int .i64 0),(.int .i64 0),(.int .i64 0),(.int .i64 0),(.int .i64 0),(.int .i64 0),(.int .i64 0),(.int .i64 0),(.int .i64 0),(.int .i64 0),(.int .i64 0),(.int .i64 0),(.int .i64 0),(.int .i64 0)] [(0,1,(.c (.int .i64 128))),(1,16,(.s 14))]},
    {dst:=some 16,op:=.call 12 [(.s 13),(.s 15)]},
    {dst:=some 12,op:=.mov (.s 16)},
    {dst:=some 17,op:=.ext (.s 12) 0},
    {dst:=some 18,op:=.ext (.s 12) 1},
    {dst:=some 19,op:=.ext (.s 12) 2},
    {dst:=some 4,op:=.mov (.s 17)},
    {dst:=some 5,op:=.mov (.s 18)},
    {dst:=some 6,op:=.mov (.s 19)}])
   (.seq (.ops [{dst:=some 20,op:=.mov (.s 3)},
    {dst:=some 21,op:=.bin .eql (.s 20) (.c (.int .i64 0))},
    {dst:=some 22,op:=.mov (.s 21)},
    {dst:=some 23,op:=.mov (.s 6),guard:=some (22,true)},
    {dst:=some 24,op:=.bin .eql (.s 23) (.c (.int .i64 0)),guard:=some (22,true)},
    {dst:=some 25,op:=.pick (.s 22) (.s 24) (.c (.bool false))},
    {dst:=some 26,op:=.mov (.s 25)},
    {dst:=some 27,op:=.mov (.s 4),guard:=some (26,true)},
    {dst:=some 28,op:=.bin .eql (.s 27) (.c (.int .i64 42)),guard:=some (26,true)},
    {dst:=some 29,op:=.pick (.s 26) (.s 28) (.c (.bool false))},
    {dst:=some 30,op:=.mov (.s 29)},
    {dst:=some 31,op:=.mov (.s 5),guard:=some (30,true)},
    {dst:=some 32,op:=.bin .eql (.s 31) (.c (.int .i64 0)),guard:=some (30,true)},
    {dst:=some 33,op:=.pick (.s 30) (.s 32) (.c (.bool false))},
    {dst:=some 0,op:=.mov (.s 33)}])
   (.ret)))))
  [.tmp 0]
theorem tr_wagonpooltop_tariffSane:trF Tryz.prog [] 4 []=some F_wagonpooltop_tariffSane:=by kernel_rfl
def F_wagonpoolref17_Size_L0:PC:=
 .seq (.seq (.ops [{dst:=some 7,op:=.mov (.s 6)},
   {dst:=some 8,op:=.fld 6 (.s 2)},
   {dst:=some 9,op:=.load 1 false (.s 8)},
   {dst:=some 10,op:=.len false (.s 9)},
   {dst:=some 11,op:=.bin .lss (.s 7) (.s 10)},
   {dst:=some 12,op:=.mov (.s 11)},
   {dst:=some 13,op:=.mov (.s 5),guard:=some (12,true)},
   {dst:=some 14,op:=.mov (.s 1),guard:=some (12,true)},
   {dst:=some 15,op:=.bin .lss (.s 13) (.s 14),guard:=some (12,true)},
   {dst:=some 16,op:=.pick (.s 12) (.s 15) (.c (.bool false))}])
  (.cond (.s 16)
   (.skip)
   (.exit 0)))
  (.seq (.block 1 (.ops [{dst:=some 19,op:=.mov (.s 5)},
    {dst:=some 20,op:=.fld 6 (.s 2)},
    {dst:=some 21,op:=.load 1 false (.s 20)},
    {dst:=some 22,op:=.mov (.s 6)},
    {dst:=some 23,op:=.idxS 7 (.s 21) (.s 22)},
    {dst:=some 24,op:=.load 7 true (.s 23)},
    {dst:=some 25,op:=.mov (.s 1)},
    {dst:=some 26,op:=.mov (.s 5)},
    {dst:=some 27,op:=.bin .sub (.s 25) (.s 26)},
    {dst:=some 28,op:=.call 5 [(.s 24),(.s 27)]},
    {dst:=some 29,op:=.bin .add (.s 19) (.s 28)},
    {dst:=some 5,op:=.mov (.s 29)}]))
  (.ops [{dst:=some 17,op:=.mov (.s 6)},
   {dst:=some 18,op:=.bin .add (.s 17) (.c (.int .i64 1))},
   {dst:=some 6,op:=.mov (.s 18)}]))
def F_wagonpoolref17_Size:PF:=
 .mk
  (.seq (.ops [{dst:=some 2,op:=.box (.s 0)},
    {dst:=some 4,op:=.mov (.c (.int .i64 0))}])
   (.seq (.ops [{dst:=some 5,op:=.mov (.c (.int .i64 1))}])
   (.seq (.seq (.ops [{dst:=some 6,op:=.mov (.c (.int .i64 0))}])
   (.block 0 (.loop [1,2,5,6] F_wagonpoolref17_Size_L0)))
   (.seq (.ops [{dst:=some 30,op:=.mov (.s 5)},
    {dst:=some 4,op:=.mov (.s 30)}])
   (.ret)))))
  [.tmp 4]
theorem tr_wagonpoolref17_Size:trF Tryz.prog [] 5 [[1,2,5,6]]=some F_wagonpoolref17_Size:=by kernel_rfl
def F_wagonpoolref17_Scaled_L0:PC:=
 .seq (.seq (.ops [{dst:=some 72,op:=.mov (.s 11)},
   {dst:=some 73,op:=.fld 6 (.s 3)},
   {dst:=some 74,op:=.load 1 false (.s 73)},
   {dst:=some 75,op:=.len false (.s 74)},
   {dst:=some 76,op:=.bin .lss (.s 72) (.s 75)}])
  (.cond (.s 76)
   (.skip)
   (.exit 0)))
  (.seq (.block 1 (.seq (.ops [{dst:=some 80,op:=.fld 6 (.s 3)},
    {dst:=some 81,op:=.load 1 false (.s 80)},
    {dst:=some 82,op:=.mov (.s 11)},
    {dst:=some 83,op:=.idxS 7 (.s 81) (.s 82)},
    {dst:=some 84,op:=.load 7 true (.s 83)},
    {dst:=some 85,op:=.mov (.s 1)},
    {dst:=some 86,op:=.mov (.s 2)},
    {dst:=some 87,op:=.call 6 [(.s 84),(.s 85),(.s 86)]},
    {dst:=some 79,op:=.mov (.s 87)},
    {dst:=some 88,op:=.ext (.s 79) 0},
    {dst:=some 89,op:=.ext (.s 79) 1},
    {dst:=some 12,op:=.box (.c (.agg [(.int .i64 0),(.int .i64 0),(.int .i64 0),(.int .i64 0),(.int .i64 0),(.int .i64 0),(.slc 0 [] true)]))},
    {dst:=none,op:=.stor 7 (.s 12) (.s 88)},
    {dst:=some 13,op:=.mov (.s 89)}])
   (.seq (.seq (.ops [{dst:=some 90,op:=.mov (.s 13)},
    {dst:=some 91,op:=.un .not (.s 90)}])
   (.cond (.s 91)
    (.seq (.ops [{dst:=some 92,op:=.bld [(.int .i64 0),(.int .i64 0),(.int .i64 0),(.int .i64 0),(.int .i64 0),(.int .i64 0),(.slc 0 [] true)] []},
     {dst:=none,op:=.stor 7 (.s 6) (.s 92)},
     {dst:=some 7,op:=.mov (.c (.bool false))}])
    (.ret))
    (.skip)))
   (.ops [{dst:=some 93,op:=.fld 6 (.s 10)},
    {dst:=some 94,op:=.load 1 false (.s 93)},
    {dst:=some 95,op:=.load 7 true (.s 12)},
    {dst:=some 96,op:=.bslc 7 [(.s 95)]},
    {dst:=some 97,op:=.app 7 72 (.s 94) (.s 96)},
    {dst:=some 98,op:=.fld 6 (.s 10)},
    {dst:=none,op:=.stor 1 (.s 98) (.s 97)}]))))
  (.ops [{dst:=some 77,op:=.mov (.s 11)},
   {dst:=some 78,op:=.bin .add (.s 77) (.c (.int .i64 1))},
   {dst:=some 11,op:=.mov (.s 78)}]))
def F_wagonpoolref17_Scaled:PF:=
 .mk
  (.seq (.ops [{dst:=some 3,op:=.box (.s 0)},
    {dst:=some 6,op:=.box (.c (.agg [(.int .i64 0),(.int .i64 0),(.int .i64 0),(.int .i64 0),(.int .i64 0),(.int .i64 0),(.slc 0 [] true)]))},
    {dst:=some 7,op:=.mov (.c (.bool false))}])
   (.seq (.ops [{dst:=some 15,op:=.load 7 true (.s 3)},
    {dst:=some 16,op:=.call 13 [(.s 15)]},
    {dst:=some 14,op:=.mov (.s 16)},
    {dst:=some 17,op:=.ext (.s 14) 0},
    {dst:=some 18,op:=.ext (.s 14) 1},
    {dst:=some 8,op:=.box (.c (.agg [(.int .i64 0),(.int .i64 0),(.int .i64 0),(.int .i64 0)]))},
    {dst:=none,op:=.stor 4 (.s 8) (.s 17)},
    {dst:=some 9,op:=.mov (.s 18)}])
   (.seq (.seq (.ops [{dst:=some 19,op:=.mov (.s 9)},
    {dst:=some 20,op:=.bin .neq (.s 19) (.c (.int .i64 0))},
    {dst:=some 21,op:=.mov (.s 20)},
    {dst:=some 22,op:=.mov (.s 1),guard:=some (21,false)},
    {dst:=some 23,op:=.idxA 4 1 (.s 8) (.s 22),guard:=some (21,false)},
    {dst:=some 24,op:=.load 1 false (.s 23),guard:=some (21,false)},
    {dst:=some 25,op:=.bin .lss (.s 24) (.c (.int .i64 0)),guard:=some (21,false)},
    {dst:=some 26,op:=.pick (.s 21) (.c (.bool true)) (.s 25)},
    {dst:=some 27,op:=.mov (.s 26)},
    {dst:=some 28,op:=.fld 0 (.s 3),guard:=some (27,false)},
    {dst:=some 29,op:=.load 1 false (.s 28),guard:=some (27,false)},
    {dst:=some 30,op:=.bin .eql (.s 29) (.c (.int .i64 8)),guard:=some (27,false)},
    {dst:=some 31,op:=.pick (.s 27) (.c (.bool true)) (.s 30)},
    {dst:=some 32,op:=.mov (.s 31)},
    {dst:=some 33,op:=.fld 0 (.s 3),guard:=some (32,false)},
    {dst:=some 34,op:=.load 1 false (.s 33),guard:=some (32,false)},
    {dst:=some 35,op:=.bin .eql (.s 34) (.c (.int .i64 9)),guard:=some (32,false)},
    {dst:=some 36,op:=.pick (.s 32) (.c (.bool true)) (.s 35)},
    {dst:=some 37,op:=.mov (.s 36)},
    {dst:=some 38,op:=.fld 0 (.s 3),guard:=some (37,false)},
    {dst:=some 39,op:=.load 1 false (.s 38),guard:=some (37,false)},
    {dst:=some 40,op:=.bin .eql (.s 39) (.c (.int .i64 10)),guard:=some (37,false)},
    {dst:=some 41,op:=.pick (.s 37) (.c (.bool true)) (.s 40)},
    {dst:=some 42,op:=.mov (.s 41)},
    {dst:=some 43,op:=.fld 0 (.s 3),guard:=some (42,false)},
    {dst:=some 44,op:=.load 1 false (.s 43),guard:=some (42,false)},
    {dst:=some 45,op:=.bin .eql (.s 44) (.c (.int .i64 1)),guard:=some (42,false)},
    {dst:=some 46,op:=.mov (.s 45),guard:=some (42,false)},
    {dst:=some 47,op:=.fld 1 (.s 3),guard:=some (46,true)},
    {dst:=some 48,op:=.load 1 false (.s 47),guard:=some (46,true)},
    {dst:=some 49,op:=.bin .gtr (.s 48) (.c (.int .i64 1048576)),guard:=some (46,true)},
    {dst:=some 50,op:=.pick (.s 46) (.s 49) (.c (.bool false)),guard:=some (42,false)},
    {dst:=some 51,op:=.pick (.s 42) (.c (.bool true)) (.s 50)}])
   (.cond (.s 51)
    (.seq (.ops [{dst:=some 52,op:=.bld [(.int .i64 0),(.int .i64 0),(.int .i64 0),(.int .i64 0),(.int .i64 0),(.int .i64 0),(.slc 0 [] true)] []},
     {dst:=none,op:=.stor 7 (.s 6) (.s 52)},
     {dst:=some 7,op:=.mov (.c (.bool false))}])
    (.ret))
    (.skip)))
   (.seq (.ops [{dst:=some 53,op:=.fld 0 (.s 3)},
    {dst:=some 54,op:=.load 1 false (.s 53)},
    {dst:=some 55,op:=.fld 1 (.s 3)},
    {dst:=some 56,op:=.load 1 false (.s 55)},
    {dst:=some 57,op:=.fld 2 (.s 3)},
    {dst:=some 58,op:=.load 4 true (.s 57)},
    {dst:=some 59,op:=.bld [(.int .i64 0),(.int .i64 0),(.int .i64 0),(.int .i64 0),(.int .i64 0),(.int .i64 0),(.slc 0 [] true)] [(0,1,(.s 54)),(1,1,(.s 56)),(2,4,(.s 58))]},
    {dst:=some 10,op:=.box (.c (.agg [(.int .i64 0),(.int .i64 0),(.int .i64 0),(.int .i64 0),(.int .i64 0),(.int .i64 0),(.slc 0 [] true)]))},
    {dst:=none,op:=.stor 7 (.s 10) (.s 59)}])
   (.seq (.seq (.ops [{dst:=some 60,op:=.fld 0 (.s 3)},
    {dst:=some 61,op:=.load 1 false (.s 60)},
    {dst:=some 62,op:=.bin .eql (.s 61) (.c (.int .i64 1))}])
   (.cond (.s 62)
    (.ops [{dst:=some 63,op:=.fld 1 (.s 3)},
     {dst:=some 64,op:=.load 1 false (.s 63)},
     {dst:=some 65,op:=.mov (.s 2)},
     {dst:=some 66,op:=.mov (.s 1)},
     {dst:=some 67,op:=.idxA 4 1 (.s 8) (.s 66)},
     {dst:=some 68,op:=.load 1 false (.s 67)},
     {dst:=some 69,op:=.call 10 [(.s 65),(.s 68)]},
     {dst:=some 70,op:=.bin .mul (.s 64) (.s 69)},
     {dst:=some 71,op:=.fld 1 (.s 10)},
     {dst:=none,op:=.stor 1 (.s 71) (.s 70)}])
    (.skip)))
   (.seq (.seq (.ops [{dst:=some 11,op:=.mov (.c (.int .i64 0))}])
   (.block 0 (.loop [1,2,3,6,10,11] F_wagonpoolref17_Scaled_L0)))
   (.seq (.ops [{dst:=some 99,op:=.load 7 true (.s 10)},
    {dst:=none,op:=.stor 7 (.s 6) (.s 99)},
    {dst:=some 7,op:=.mov (.c (.bool true))}])
   (.ret))))))))
  [.cell 6 7 true,.tmp 7]
theorem tr_wagonpoolref17_Scaled:trF Tryz.prog [] 6 [[1,2,3,6,10,11]]=some F_wagonpoolref17_Scaled:=by kernel_rfl
def F_wagonpoolref17_ScaledEnv_L0:PC:=
 .seq (.seq (.ops [{dst:=some 11,op:=.mov (.s 8)},
   {dst:=some 12,op:=.bin .lss (.s 11) (.c (.int .i64 16))}])
  (.cond (.s 12)
   (.skip)
   (.exit 0)))
  (.seq (.block 1 (.seq (.ops [{dst:=some 16,op:=.mov (.s 8)},
    {dst:=some 17,op:=.call 14 [(.s 16)]},
    {dst:=some 15,op:=.mov (.s 17)},
    {dst:=some 18,op:=.ext (.s 15) 0},
    {dst:=some 19,op:=.ext (.s 15) 1},
    {dst:=some 9,op:=.box (.c (.agg [(.int .i64 0),(.int .i64 0),(.int .i64 0),(.int .i64 0)]))},
    {dst:=none,op:=.stor 4 (.s 9) (.s 18)},
    {dst:=some 10,op:=.mov (.s 19)}])
   (.seq (.seq (.ops [{dst:=some 20,op:=.mov (.s 8)},
    {dst:=some 21,op:=.fld 1 (.s 3)},
    {dst:=some 22,op:=.idxA 16 1 (.s 21) (.s 20)},
    {dst:=some 23,op:=.load 1 false (.s 22)},
    {dst:=some 24,op:=.bin .lss (.s 23) (.c (.int .i64 (-1048576)))},
    {dst:=some 25,op:=.mov (.s 24)},
    {dst:=some 26,op:=.mov (.s 8),guard:=some (25,false)},
    {dst:=some 27,op:=.fld 1 (.s 3),guard:=some (25,false)},
    {dst:=some 28,op:=.idxA 16 1 (.s 27) (.s 26),guard:=some (25,false)},
    {dst:=some 29,op:=.load 1 false (.s 28),guard:=some (25,false)},
    {dst:=some 30,op:=.bin .gtr (.s 29) (.c (.int .i64 1048576)),guard:=some (25,false)},
    {dst:=some 31,op:=.pick (.s 25) (.c (.bool true)) (.s 30)}])
   (.cond (.s 31)
    (.seq (.ops [{dst:=some 32,op:=.bld [(.int .i64 0),(.int .i64 0),(.int .i64 0),(.int .i64 0),(.int .i64 0),(.int .i64 0),(.int .i64 0),(.int .i64 0),(.int .i64 0),(.int .i64 0),(.int .i64 0),(.int .i64 0),(.int .i64 0),(.int .i64 0),(.int .i64 0),(.int .i64 0),(.int .i64 0)] []},
     {dst:=none,op:=.stor 17 (.s 6) (.s 32)},
     {dst:=some 7,op:=.mov (.c (.bool false))}])
    (.ret))
    (.skip)))
   (.ops [{dst:=some 33,op:=.mov (.s 8)},
    {dst:=some 34,op:=.mov (.s 8)},
    {dst:=some 35,op:=.fld 1 (.s 3)},
    {dst:=some 36,op:=.idxA 16 1 (.s 35) (.s 34)},
    {dst:=some 37,op:=.load 1 false (.s 36)},
    {dst:=some 38,op:=.mov (.s 2)},
    {dst:=some 39,op:=.mov (.s 1)},
    {dst:=some 40,op:=.idxA 4 1 (.s 9) (.s 39)},
    {dst:=some 41,op:=.load 1 false (.s 40)},
    {dst:=some 42,op:=.call 10 [(.s 38),(.s 41)]},
    {dst:=some 43,op:=.bin .mul (.s 37) (.s 42)},
    {dst:=some 44,op:=.fld 1 (.s 3)},
    {dst:=some 45,op:=.idxA 16 1 (.s 44) (.s 33)},
    {dst:=none,op:=.stor 1 (.s 45) (.s 43)}]))))
  (.ops [{dst:=some 13,op:=.mov (.s 8)},
   {dst:=some 14,op:=.bin .add (.s 13) (.c (.int .i64 1))},
   {dst:=some 8,op:=.mov (.s 14)}]))
def F_wagonpoolref17_ScaledEnv:PF:=
 .mk
  (.seq (.ops [{dst:=some 3,op:=.box (.s 0)},
    {dst:=some 6,op:=.box (.c (.agg [(.int .i64 0),(.int .i64 0),(.int .i64 0),(.int .i64 0),(.int .i64 0),(.int .i64 0),(.int .i64 0),(.int .i64 0),(.int .i64 0),(.int .i64 0),(.int .i64 0),(.int .i64 0),(.int .i64 0),(.int .i64 0),(.int .i64 0),(.int .i64 0),(.int .i64 0)]))},
    {dst:=some 7,op:=.mov (.c (.bool false))}])
   (.seq (.seq (.ops [{dst:=some 8,op:=.mov (.c (.int .i64 0))}])
   (.block 0 (.loop [1,2,3,6,8] F_wagonpoolref17_ScaledEnv_L0)))
   (.seq (.ops [{dst:=some 46,op:=.load 17 true (.s 3)},
    {dst:=none,op:=.stor 17 (.s 6) (.s 46)},
    {dst:=some 7,op:=.mov (.c (.bool true))}])
   (.ret))))
  [.cell 6 17 true,.tmp 7]
theorem tr_wagonpoolref17_ScaledEnv:trF Tryz.prog [] 7 [[1,2,3,6,8]]=some F_wagonpoolref17_ScaledEnv:=by kernel_rfl
def F_wagonpoolref17_Power_L0:PC:=
 .seq (.seq (.ops [{dst:=some 7,op:=.mov (.s 6)},
   {dst:=some 8,op:=.mov (.s 1)},
   {dst:=some 9,op:=.bin .lss (.s 7) (.s 8)},
   {dst:=some 10,op:=.mov (.s 9)},
   {dst:=some 11,op:=.mov (.s 6),guard:=some (10,true)},
   {dst:=some 12,op:=.bin .lss (.s 11) (.c (.int .i64 3)),guard:=some (10,true)},
   {dst:=some 13,op:=.pick (.s 10) (.s 12) (.c (.bool false))}])
  (.cond (.s 13)
   (.skip)
   (.exit 0)))
  (.seq (.block 1 (.ops [{dst:=some 16,op:=.mov (.s 5)},
    {dst:=some 17,op:=.mov (.s 0)},
    {dst:=some 18,op:=.bin .mul (.s 16) (.s 17)},
    {dst:=some 5,op:=.mov (.s 18)}]))
  (.ops [{dst:=some 14,op:=.mov (.s 6)},
   {dst:=some 15,op:=.bin .add (.s 14) (.c (.int .i64 1))},
   {dst:=some 6,op:=.mov (.s 15)}]))
def F_wagonpoolref17_Power:PF:=
 .mk
  (.seq (.ops [{dst:=some 4,op:=.mov (.c (.int .i64 0))}])
   (.seq (.ops [{dst:=some 5,op:=.mov (.c (.int .i64 1))}])
   (.seq (.seq (.ops [{dst:=some 6,op:=.mov (.c (.int .i64 0))}])
   (.block 0 (.loop [0,1,5,6] F_wagonpoolref17_Power_L0)))
   (.seq (.ops [{dst:=some 19,op:=.mov (.s 5)},
    {dst:=some 4,op:=.mov (.s 19)}])
   (.ret)))))
  [.tmp 4]
theorem tr_wagonpoolref17_Power:trF Tryz.prog [] 10 [[0,1,5,6]]=some F_wagonpoolref17_Power:=by kernel_rfl
def F_teval_Amount_L0:PC:=
 .seq (.ops [{dst:=some 15,op:=.bin .lss (.s 14) (.s 13)}])
  (.seq (.cond (.s 15)
   (.skip)
   (.exit 0))
  (.seq (.block 1 (.seq (.ops [{dst:=some 16,op:=.mov (.s 14)},
    {dst:=some 17,op:=.idxS 9 (.s 12) (.s 14)},
    {dst:=some 18,op:=.load 9 true (.s 17)},
    {dst:=some 8,op:=.box (.c (.agg [(.str []),(.slc 0 [] true),(.int .i64 0),(.int .i64 0),(.int .i64 0),(.int .i64 0),(.int .i64 0),(.int .i64 0),(.slc 0 [] true)]))},
    {dst:=some 7,op:=.mov (.s 16)},
    {dst:=none,op:=.stor 9 (.s 8) (.s 18)}])
   (.seq (.ops [{dst:=some 20,op:=.load 9 true (.s 8)},
    {dst:=some 21,op:=.load 17 true (.s 3)},
    {dst:=some 22,op:=.call 31 [(.s 20),(.s 21)]},
    {dst:=some 19,op:=.mov (.s 22)},
    {dst:=some 23,op:=.ext (.s 19) 0},
    {dst:=some 24,op:=.ext (.s 19) 1},
    {dst:=some 9,op:=.mov (.s 23)},
    {dst:=some 10,op:=.mov (.s 24)}])
   (.seq (.seq (.ops [{dst:=some 25,op:=.mov (.s 10)},
    {dst:=some 26,op:=.bin .neq (.s 25) (.c (.int .i64 0))}])
   (.cond (.s 26)
    (.seq (.ops [{dst:=some 27,op:=.mov (.s 10)},
     {dst:=some 4,op:=.mov (.c (.int .i64 0))},
     {dst:=some 5,op:=.mov (.c (.int .i64 0))},
     {dst:=some 6,op:=.mov (.s 27)}])
    (.ret))
    (.skip)))
   (.seq (.seq (.ops [{dst:=some 28,op:=.mov (.s 9)},
    {dst:=some 29,op:=.un .not (.s 28)}])
   (.cond (.s 29)
    (.exit 1)
    (.skip)))
   (.seq (.seq (.ops [{dst:=some 31,op:=.fld 2 (.s 8)},
    {dst:=some 32,op:=.load 7 true (.s 31)},
    {dst:=some 33,op:=.load 17 true (.s 3)},
    {dst:=some 34,op:=.call 9 [(.s 32),(.s 33)]},
    {dst:=some 30,op:=.mov (.s 34)},
    {dst:=some 35,op:=.ext (.s 30) 0},
    {dst:=some 36,op:=.ext (.s 30) 1},
    {dst:=some 4,op:=.mov (.s 35)},
    {dst:=some 10,op:=.mov (.s 36)}])
   (.seq (.ops [{dst:=some 37,op:=.mov (.s 10)},
    {dst:=some 38,op:=.bin .neq (.s 37) (.c (.int .i64 0))}])
   (.cond (.s 38)
    (.seq (.ops [{dst:=some 39,op:=.mov (.s 10)},
     {dst:=some 4,op:=.mov (.c (.int .i64 0))},
     {dst:=some 5,op:=.mov (.c (.int .i64 0))},
     {dst:=some 6,op:=.mov (.s 39)}])
    (.ret))
    (.skip))))
   (.seq (.ops [{dst:=some 40,op:=.mov (.s 4)},
    {dst:=some 41,op:=.mov (.s 7)},
    {dst:=some 4,op:=.mov (.s 40)},
    {dst:=some 5,op:=.mov (.s 41)},
    {dst:=some 6,op:=.mov (.c (.int .i64 0))}])
   (.ret))))))))
  (.ops [{dst:=some 42,op:=.bin .add (.s 14) (.c (.int .i64 1))},
   {dst:=some 14,op:=.mov (.s 42)}])))
def F_teval_Amount:PF:=
 .mk
  (.seq (.ops [{dst:=some 2,op:=.box (.s 0)},
    {dst:=some 3,op:=.box (.s 1)},
    {dst:=some 4,op:=.mov (.c (.int .i64 0))},
    {dst:=some 5,op:=.mov (.c (.int .i64 0))},
    {dst:=some 6,op:=.mov (.c (.int .i64 0))}])
   (.seq (.seq (.ops [{dst:=some 11,op:=.fld 2 (.s 2)},
    {dst:=some 12,op:=.load 1 false (.s 11)},
    {dst:=some 13,op:=.len false (.s 12)},
    {dst:=some 14,op:=.mov (.c (.int .i64 0))}])
   (.block 0 (.loop [3,12,13,14] F_teval_Amount_L0)))
   (.seq (.ops [{dst:=some 4,op:=.mov (.c (.int .i64 0))},
    {dst:=some 5,op:=.mov (.c (.int .i64 0))},
    {dst:=some 6,op:=.mov (.c (.int .i64 180))}])
   (.ret))))
  [.tmp 4,.tmp 5,.tmp 6]
theorem tr_teval_Amount:trF Tryz.prog [] 12 [[3,12,13,14]]=some F_teval_Amount:=by kernel_rfl
def F_wagonpoolref17_Unit:PF:=
 .mk
  (.seq (.ops [{dst:=some 1,op:=.box (.s 0)},
    {dst:=some 2,op:=.box (.c (.agg [(.int .i64 0),(.int .i64 0),(.int .i64 0),(.int .i64 0)]))},
    {dst:=some 3,op:=.mov (.c (.int .i64 0))}])
   (.seq (.seq (.ops [{dst:=some 6,op:=.load 7 true (.s 1)},
    {dst:=some 7,op:=.call 32 [(.s 6)]},
    {dst:=some 8,op:=.un .not (.s 7)}])
   (.cond (.s 8)
    (.seq (.ops [{dst:=some 9,op:=.bld [(.int .i64 0),(.int .i64 0),(.int .i64 0),(.int .i64 0)] []},
     {dst:=none,op:=.stor 4 (.s 2) (.s 9)},
     {dst:=some 3,op:=.mov (.c (.int .i64 1))}])
    (.ret))
    (.skip)))
   (.seq (.ops [{dst:=some 11,op:=.load 7 true (.s 1)},
    {dst:=some 12,op:=.call 33 [(.s 11)]},
    {dst:=some 10,op:=.mov (.s 12)},
    {dst:=some 13,op:=.ext (.s 10) 0},
    {dst:=some 14,op:=.ext (.s 10) 1},
    {dst:=some 4,op:=.box (.c (.agg [(.int .i64 0),(.int .i64 0),(.int .i64 0),(.int .i64 0)]))},
    {dst:=none,op:=.stor 4 (.s 4) (.s 13)},
    {dst:=some 5,op:=.mov (.s 14)}])
   (.seq (.seq (.ops [{dst:=some 15,op:=.mov (.s 5)},
    {dst:=some 16,op:=.un .not (.s 15)}])
   (.cond (.s 16)
    (.seq (.ops [{dst:=some 17,op:=.bld [(.int .i64 0),(.int .i64 0),(.int .i64 0),(.int .i64 0)] []},
     {dst:=none,op:=.stor 4 (.s 2) (.s 17)},
     {dst:=some 3,op:=.mov (.c (.int .i64 170))}])
    (.ret))
    (.skip)))
   (.seq (.ops [{dst:=some 18,op:=.load 4 true (.s 4)},
    {dst:=none,op:=.stor 4 (.s 2) (.s 18)},
    {dst:=some 3,op:=.mov (.c (.int .i64 0))}])
   (.ret))))))
  [.cell 2 4 true,.tmp 3]
theorem tr_wagonpoolref17_Unit:trF Tryz.prog [] 13 []=some F_wagonpoolref17_Unit:=by kernel_rfl
def F_wagonpoolref17_Attr:PF:=
 .mk
  (.seq (.ops [{dst:=some 2,op:=.box (.c (.agg [(.int .i64 0),(.int .i64 0),(.int .i64 0),(.int .i64 0)]))},
    {dst:=some 3,op:=.mov (.c (.int .i64 0))}])
   (.seq (.seq (.ops [{dst:=some 4,op:=.mov (.s 0)},
    {dst:=some 5,op:=.bin .lss (.s 4) (.c (.int .i64 0))},
    {dst:=some 6,op:=.mov (.s 5)},
    {dst:=some 7,op:=.mov (.s 0),guard:=some (6,false)},
    {dst:=some 8,op:=.bin .geq (.s 7) (.c (.int .i64 16)),guard:=some (6,false)},
    {dst:=some 9,op:=.pick (.s 6) (.c (.bool true)) (.s 8)}])
   (.cond (.s 9)
    (.seq (.ops [{dst:=some 10,op:=.bld [(.int .i64 0),(.int .i64 0),(.int .i64 0),(.int .i64 0)] []},
     {dst:=none,op:=.stor 4 (.s 2) (.s 10)},
     {dst:=some 3,op:=.mov (.c (.int .i64 1))}])
    (.ret))
    (.skip)))
   (.seq (.seq (.ops [{dst:=some 11,op:=.mov (.s 0)}])
   (.block 0 (.seq (.seq (.ops [{dst:=some 13,op:=.bin .eql (.s 11) (.c (.int .i64 10))},
     {dst:=some 12,op:=.mov (.s 13)}])
    (.cond (.s 12)
     (.skip)
     (.ops [{dst:=some 14,op:=.bin .eql (.s 11) (.c (.int .i64 11))},
      {dst:=some 12,op:=.mov (.s 14)}])))
    (.cond (.s 12)
     (.seq (.ops [{dst:=some 15,op:=.call 34 []},
      {dst:=none,op:=.stor 4 (.s 2) (.s 15)},
      {dst:=some 3,op:=.mov (.c (.int .i64 0))}])
     (.ret))
     (.seq (.seq (.ops [{dst:=some 17,op:=.bin .eql (.s 11) (.c (.int .i64 7))},
      {dst:=some 16,op:=.mov (.s 17)}])
     (.cond (.s 16)
      (.skip)
      (.ops [{dst:=some 18,op:=.bin .eql (.s 11) (.c (.int .i64 8))},
       {dst:=some 16,op:=.mov (.s 18)}])))
     (.cond (.s 16)
      (.seq (.ops [{dst:=some 19,op:=.bld [(.int .i64 0),(.int .i64 0),(.int .i64 0),(.int .i64 0)] [(0,1,(.c (.int .i64 0))),(1,1,(.c (.int .i64 1))),(2,1,(.c (.int .i64 0))),(3,1,(.c (.int .i64 0)))]},
       {dst:=none,op:=.stor 4 (.s 2) (.s 19)},
       {dst:=some 3,op:=.mov (.c (.int .i64 0))}])
      (.ret))
      (.seq (.ops [{dst:=some 21,op:=.bin .eql (.s 11) (.c (.int .i64 6))},
       {dst:=some 20,op:=.mov (.s 21)}])
      (.cond (.s 20)
       (.seq (.ops [{dst:=some 22,op:=.bld [(.int .i64 0),(.int .i64 0),(.int .i64 0),(.int .i64 0)] [(0,1,(.c (.int .i64 0))),(1,1,(.c (.int .i64 0))),(2,1,(.c (.int .i64 1))),(3,1,(.c (.int .i64 0)))]},
        {dst:=none,op:=.stor 4 (.s 2) (.s 22)},
        {dst:=some 3,op:=.mov (.c (.int .i64 0))}])
       (.ret))
       (.seq (.ops [{dst:=some 24,op:=.bin .eql (.s 11) (.c (.int .i64 5))},
        {dst:=some 23,op:=.mov (.s 24)}])
       (.cond (.s 23)
        (.seq (.ops [{dst:=some 25,op:=.bld [(.int .i64 0),(.int .i64 0),(.int .i64 0),(.int .i64 0)] [(0,1,(.c (.int .i64 0))),(1,1,(.c (.int .i64 0))),(2,1,(.c (.int .i64 0))),(3,1,(.c (.int .i64 1)))]},
         {dst:=none,op:=.stor 4 (.s 2) (.s 25)},
         {dst:=some 3,op:=.mov (.c (.int .i64 0))}])
        (.ret))
        (.skip)))))))))))
   (.seq (.ops [{dst:=some 26,op:=.bld [(.int .i64 0),(.int .i64 0),(.int .i64 0),(.int .i64 0)] []},
    {dst:=none,op:=.stor 4 (.s 2) (.s 26)},
    {dst:=some 3,op:=.mov (.c (.int .i64 0))}])
   (.ret)))))
  [.cell 2 4 true,.tmp 3]
theorem tr_wagonpoolref17_Attr:trF Tryz.prog [] 14 []=some F_wagonpoolref17_Attr:=by kernel_rfl
def F_ttype_formed_L0:PC:=
 .seq (.ops [{dst:=some 17,op:=.bin .lss (.s 16) (.s 15)}])
  (.seq (.cond (.s 17)
   (.skip)
   (.exit 0))
  (.seq (.block 1 (.seq (.ops [{dst:=some 18,op:=.idxS 7 (.s 14) (.s 16)},
    {dst:=some 19,op:=.load 7 true (.s 18)},
    {dst:=some 5,op:=.box (.c (.agg [(.int .i64 0),(.int .i64 0),(.int .i64 0),(.int .i64 0),(.int .i64 0),(.int .i64 0),(.slc 0 [] true)]))},
    {dst:=none,op:=.stor 7 (.s 5) (.s 19)}])
   (.seq (.seq (.ops [{dst:=some 20,op:=.load 7 true (.s 5)},
    {dst:=some 21,op:=.call 15 [(.s 20)]},
    {dst:=some 22,op:=.un .not (.s 21)}])
   (.cond (.s 22)
    (.seq (.ops [{dst:=some 2,op:=.mov (.c (.bool false))}])
    (.ret))
    (.skip)))
   (.ops [{dst:=some 23,op:=.fld 6 (.s 3)},
    {dst:=some 24,op:=.load 1 false (.s 23)},
    {dst:=some 25,op:=.bld [(.int .i64 0),(.int .i64 0),(.int .i64 0),(.int .i64 0),(.int .i64 0),(.int .i64 0),(.slc 0 [] true)] [(0,1,(.c (.int .i64 1)))]},
    {dst:=some 26,op:=.bslc 7 [(.s 25)]},
    {dst:=some 27,op:=.app 7 72 (.s 24) (.s 26)},
    {dst:=some 28,op:=.fld 6 (.s 3)},
    {dst:=none,op:=.stor 1 (.s 28) (.s 27)}]))))
  (.ops [{dst:=some 29,op:=.bin .add (.s 16) (.c (.int .i64 1))},
   {dst:=some 16,op:=.mov (.s 29)}])))
def F_ttype_formed:PF:=
 .mk
  (.seq (.ops [{dst:=some 1,op:=.box (.s 0)},
    {dst:=some 2,op:=.mov (.c (.bool false))}])
   (.seq (.ops [{dst:=some 6,op:=.fld 0 (.s 1)},
    {dst:=some 7,op:=.load 1 false (.s 6)},
    {dst:=some 8,op:=.fld 1 (.s 1)},
    {dst:=some 9,op:=.load 1 false (.s 8)},
    {dst:=some 10,op:=.fld 2 (.s 1)},
    {dst:=some 11,op:=.load 4 true (.s 10)},
    {dst:=some 12,op:=.bld [(.int .i64 0),(.int .i64 0),(.int .i64 0),(.int .i64 0),(.int .i64 0),(.int .i64 0),(.slc 0 [] true)] [(0,1,(.s 7)),(1,1,(.s 9)),(2,4,(.s 11))]},
    {dst:=some 3,op:=.box (.c (.agg [(.int .i64 0),(.int .i64 0),(.int .i64 0),(.int .i64 0),(.int .i64 0),(.int .i64 0),(.slc 0 [] true)]))},
    {dst:=none,op:=.stor 7 (.s 3) (.s 12)}])
   (.seq (.seq (.ops [{dst:=some 13,op:=.fld 6 (.s 1)},
    {dst:=some 14,op:=.load 1 false (.s 13)},
    {dst:=some 15,op:=.len false (.s 14)},
    {dst:=some 16,op:=.mov (.c (.int .i64 0))}])
   (.block 0 (.loop [3,14,15,16] F_ttype_formed_L0)))
   (.seq (.ops [{dst:=some 30,op:=.load 7 true (.s 3)},
    {dst:=some 31,op:=.bld [(.str []),(.slc 0 [] true),(.int .i64 0),(.int .i64 0),(.int .i64 0),(.int .i64 0),(.int .i64 0),(.int .i64 0),(.slc 0 [] true)] [(0,1,(.c (.str [98]))),(2,7,(.s 30))]},
    {dst:=some 32,op:=.bslc 9 [(.s 31)]},
    {dst:=some 33,op:=.bld [(.str []),(.int .i64 0),(.slc 0 [] true)] [(0,1,(.c (.str [97]))),(1,1,(.c (.int .i64 1))),(2,1,(.s 32))]},
    {dst:=some 34,op:=.call 35 [(.s 33)]},
    {dst:=some 35,op:=.bin .neq (.s 34) (.c (.int .i64 1))},
    {dst:=some 2,op:=.mov (.s 35)}])
   (.ret)))))
  [.tmp 2]
theorem tr_ttype_formed:trF Tryz.prog [] 15 [[3,14,15,16]]=some F_ttype_formed:=by kernel_rfl
def F_teval_formed_L0:PC:=
 .seq (.ops [{dst:=some 44,op:=.bin .lss (.s 43) (.s 42)}])
  (.seq (.cond (.s 44)
   (.skip)
   (.exit 1))
  (.seq (.block 2 (.seq (.ops [{dst:=some 45,op:=.idxS 7 (.s 41) (.s 43)},
    {dst:=some 46,op:=.load 7 true (.s 45)},
    {dst:=some 6,op:=.box (.c (.agg [(.int .i64 0),(.int .i64 0),(.int .i64 0),(.int .i64 0),(.int .i64 0),(.int .i64 0),(.slc 0 [] true)]))},
    {dst:=none,op:=.stor 7 (.s 6) (.s 46)}])
   (.seq (.ops [{dst:=some 47,op:=.load 7 true (.s 6)},
    {dst:=some 48,op:=.mov (.s 1)},
    {dst:=some 49,op:=.bin .sub (.s 48) (.c (.int .i64 1))},
    {dst:=some 50,op:=.call 18 [(.s 47),(.s 49)]},
    {dst:=some 51,op:=.un .not (.s 50)}])
   (.cond (.s 51)
    (.seq (.ops [{dst:=some 4,op:=.mov (.c (.bool false))}])
    (.ret))
    (.skip)))))
  (.ops [{dst:=some 52,op:=.bin .add (.s 43) (.c (.int .i64 1))},
   {dst:=some 43,op:=.mov (.s 52)}])))
def F_teval_formed:PF:=
 .mk
  (.seq (.ops [{dst:=some 2,op:=.box (.s 0)},
    {dst:=some 4,op:=.mov (.c (.bool false))}])
   (.seq (.seq (.ops [{dst:=some 7,op:=.mov (.s 1)},
    {dst:=some 8,op:=.bin .eql (.s 7) (.c (.int .i64 0))},
    {dst:=some 9,op:=.mov (.s 8)},
    {dst:=some 10,op:=.fld 6 (.s 2),guard:=some (9,false)},
    {dst:=some 11,op:=.load 1 false (.s 10),guard:=some (9,false)},
    {dst:=some 12,op:=.len false (.s 11),guard:=some (9,false)},
    {dst:=some 13,op:=.fld 0 (.s 2),guard:=some (9,false)},
    {dst:=some 14,op:=.load 1 false (.s 13),guard:=some (9,false)},
    {dst:=some 15,op:=.call 40 [(.s 14)],guard:=some (9,false)},
    {dst:=some 16,op:=.bin .neq (.s 12) (.s 15),guard:=some (9,false)},
    {dst:=some 17,op:=.pick (.s 9) (.c (.bool true)) (.s 16)}])
   (.cond (.s 17)
    (.seq (.ops [{dst:=some 4,op:=.mov (.c (.bool false))}])
    (.ret))
    (.skip)))
   (.seq (.seq (.ops [{dst:=some 18,op:=.fld 0 (.s 2)},
    {dst:=some 19,op:=.load 1 false (.s 18)}])
   (.block 0 (.seq (.ops [{dst:=some 21,op:=.bin .eql (.s 19) (.c (.int .i64 1))},
     {dst:=some 20,op:=.mov (.s 21)}])
    (.cond (.s 20)
     (.seq (.ops [{dst:=some 22,op:=.fld 1 (.s 2)},
      {dst:=some 23,op:=.load 1 false (.s 22)},
      {dst:=some 24,op:=.bin .geq (.s 23) (.c (.int .i64 0))},
      {dst:=some 25,op:=.mov (.s 24)},
      {dst:=some 26,op:=.fld 1 (.s 2),guard:=some (25,true)},
      {dst:=some 27,op:=.load 1 false (.s 26),guard:=some (25,true)},
      {dst:=some 28,op:=.bin .leq (.s 27) (.c (.int .i64 1099511627776)),guard:=some (25,true)},
      {dst:=some 29,op:=.pick (.s 25) (.s 28) (.c (.bool false))},
      {dst:=some 4,op:=.mov (.s 29)}])
     (.ret))
     (.seq (.ops [{dst:=some 31,op:=.bin .eql (.s 19) (.c (.int .i64 2))},
      {dst:=some 30,op:=.mov (.s 31)}])
     (.cond (.s 30)
      (.seq (.ops [{dst:=some 32,op:=.fld 1 (.s 2)},
       {dst:=some 33,op:=.load 1 false (.s 32)},
       {dst:=some 34,op:=.bin .geq (.s 33) (.c (.int .i64 0))},
       {dst:=some 35,op:=.mov (.s 34)},
       {dst:=some 36,op:=.fld 1 (.s 2),guard:=some (35,true)},
       {dst:=some 37,op:=.load 1 false (.s 36),guard:=some (35,true)},
       {dst:=some 38,op:=.bin .lss (.s 37) (.c (.int .i64 16)),guard:=some (35,true)},
       {dst:=some 39,op:=.pick (.s 35) (.s 38) (.c (.bool false))},
       {dst:=some 4,op:=.mov (.s 39)}])
      (.ret))
      (.skip)))))))
   (.seq (.seq (.ops [{dst:=some 40,op:=.fld 6 (.s 2)},
    {dst:=some 41,op:=.load 1 false (.s 40)},
    {dst:=some 42,op:=.len false (.s 41)},
    {dst:=some 43,op:=.mov (.c (.int .i64 0))}])
   (.block 1 (.loop [1,41,42,43] F_teval_formed_L0)))
   (.seq (.ops [{dst:=some 4,op:=.mov (.c (.bool true))}])
   (.ret))))))
  [.tmp 4]
theorem tr_teval_formed:trF Tryz.prog [] 18 [[1,41,42,43]]=some F_teval_formed:=by kernel_rfl
def F_tlex_Tokens_L0:PC:=
 .seq (.seq (.ops [{dst:=some 13,op:=.mov (.s 6)},
   {dst:=some 14,op:=.mov (.s 0)},
   {dst:=some 15,op:=.len true (.s 14)},
   {dst:=some 16,op:=.bin .lss (.s 13) (.s 15)}])
  (.cond (.s 16)
   (.skip)
   (.exit 0)))
  (.block 1 (.seq (.seq (.ops [{dst:=some 17,op:=.mov (.s 0)},
    {dst:=some 18,op:=.mov (.s 6)},
    {dst:=some 19,op:=.idx (.s 17) (.s 18)}])
   (.block 2 (.seq (.seq (.ops [{dst:=some 21,op:=.bin .eql (.s 19) (.c (.int .u8 32))},
     {dst:=some 20,op:=.mov (.s 21)}])
    (.cond (.s 20)
     (.skip)
     (.seq (.ops [{dst:=some 22,op:=.bin .eql (.s 19) (.c (.int .u8 9))},
      {dst:=some 20,op:=.mov (.s 22)}])
     (.cond (.s 20)
      (.skip)
      (.seq (.ops [{dst:=some 23,op:=.bin .eql (.s 19) (.c (.int .u8 13))},
       {dst:=some 20,op:=.mov (.s 23)}])
      (.cond (.s 20)
       (.skip)
       (.ops [{dst:=some 24,op:=.bin .eql (.s 19) (.c (.int .u8 10))},
        {dst:=some 20,op:=.mov (.s 24)}])))))))
    (.cond (.s 20)
     (.seq (.ops [{dst:=some 25,op:=.mov (.s 6)},
      {dst:=some 26,op:=.bin .add (.s 25) (.c (.int .i64 1))},
      {dst:=some 6,op:=.mov (.s 26)}])
     (.exit 1))
     (.seq (.ops [{dst:=some 28,op:=.bin .eql (.s 19) (.c (.int .u8 35))},
      {dst:=some 27,op:=.mov (.s 28)}])
     (.cond (.s 27)
      (.seq (.ops [{dst:=some 29,op:=.mov (.s 0)},
       {dst:=some 30,op:=.mov (.s 6)},
       {dst:=some 31,op:=.slice 0 (.s 29) (some (.s 30)) none none},
       {dst:=some 32,op:=.call 51 [(.s 31),(.c (.int .u8 10))]},
       {dst:=some 7,op:=.mov (.s 32)}])
      (.seq (.seq (.ops [{dst:=some 33,op:=.mov (.s 7)},
       {dst:=some 34,op:=.bin .lss (.s 33) (.c (.int .i64 0))}])
      (.cond (.s 34)
       (.exit 0)
       (.skip)))
      (.seq (.ops [{dst:=some 35,op:=.mov (.s 6)},
       {dst:=some 36,op:=.mov (.s 7)},
       {dst:=some 37,op:=.bin .add (.s 36) (.c (.int .i64 1))},
       {dst:=some 38,op:=.bin .add (.s 35) (.s 37)},
       {dst:=some 6,op:=.mov (.s 38)}])
      (.exit 1))))
      (.skip)))))))
   (.seq (.ops [{dst:=some 40,op:=.mov (.s 0)},
    {dst:=some 41,op:=.mov (.s 6)},
    {dst:=some 42,op:=.slice 0 (.s 40) (some (.s 41)) none none},
    {dst:=some 43,op:=.call 52 [(.s 42)]},
    {dst:=some 39,op:=.mov (.s 43)},
    {dst:=some 44,op:=.ext (.s 39) 0},
    {dst:=some 45,op:=.ext (.s 39) 1},
    {dst:=some 8,op:=.box (.c (.agg [(.int .i64 0),(.str []),(.int .i64 0),(.int .i64 0)]))},
    {dst:=none,op:=.stor 4 (.s 8) (.s 44)},
    {dst:=some 9,op:=.mov (.s 45)}])
   (.seq (.seq (.ops [{dst:=some 46,op:=.mov (.s 9)},
    {dst:=some 47,op:=.bin .neq (.s 46) (.c (.int .i64 0))}])
   (.cond (.s 47)
    (.seq (.ops [{dst:=some 48,op:=.mov (.s 6)},
     {dst:=some 49,op:=.mov (.s 9)},
     {dst:=some 2,op:=.mov (.c (.slc 0 [] true))},
     {dst:=some 3,op:=.mov (.s 48)},
     {dst:=some 4,op:=.mov (.s 49)}])
    (.ret))
    (.skip)))
   (.seq (.ops [{dst:=some 50,op:=.mov (.s 6)},
    {dst:=some 51,op:=.fld 3 (.s 8)},
    {dst:=none,op:=.stor 1 (.s 51) (.s 50)}])
   (.seq (.ops [{dst:=some 52,op:=.mov (.s 5)},
    {dst:=some 53,op:=.load 4 true (.s 8)},
    {dst:=some 54,op:=.bslc 4 [(.s 53)]},
    {dst:=some 55,op:=.app 4 40 (.s 52) (.s 54)},
    {dst:=some 5,op:=.mov (.s 55)}])
   (.ops [{dst:=some 56,op:=.mov (.s 6)},
    {dst:=some 57,op:=.fld 1 (.s 8)},
    {dst:=some 58,op:=.load 1 false (.s 57)},
    {dst:=some 59,op:=.len true (.s 58)},
    {dst:=some 60,op:=.bin .add (.s 56) (.s 59)},
    {dst:=some 6,op:=.mov (.s 60)}])))))))
def F_tlex_Tokens:PF:=
 .mk
  (.seq (.ops [{dst:=some 2,op:=.mov (.c (.slc 0 [] true))},
    {dst:=some 3,op:=.mov (.c (.int .i64 0))},
    {dst:=some 4,op:=.mov (.c (.int .i64 0))}])
   (.seq (.seq (.ops [{dst:=some 10,op:=.mov (.s 0)},
    {dst:=some 11,op:=.len true (.s 10)},
    {dst:=some 12,op:=.bin .gtr (.s 11) (.c (.int .i64 2000))}])
   (.cond (.s 12)
    (.seq (.ops [{dst:=some 2,op:=.mov (.c (.slc 0 [] true))},
     {dst:=some 3,op:=.mov (.c (.int .i64 0))},
     {dst:=some 4,op:=.mov (.c (.int .i64 2))}])
    (.ret))
    (.skip)))
   (.seq (.ops [{dst:=some 5,op:=.mov (.c (.slc 0 [] true))}])
   (.seq (.ops [{dst:=some 6,op:=.mov (.c (.int .i64 0))}])
   (.seq (.skip)
   (.seq (.block 0 (.loop [0,5,6] F_tlex_Tokens_L0))
   (.seq (.ops [{dst:=some 61,op:=.mov (.s 5)},
    {dst:=some 2,op:=.mov (.s 61)},
    {dst:=some 3,op:=.mov (.c (.int .i64 0))},
    {dst:=some 4,op:=.mov (.c (.int .i64 0))}])
   (.ret))))))))
  [.tmp 2,.tmp 3,.tmp 4]
theorem tr_tlex_Tokens:trF Tryz.prog [] 22 [[0,5,6]]=some F_tlex_Tokens:=by kernel_rfl
def F_wagonpoolref16_Formed_L0:PC:=
 .seq (.seq (.ops [{dst:=some 74,op:=.mov (.s 3)},
   {dst:=some 75,op:=.fld 6 (.s 1)},
   {dst:=some 76,op:=.load 1 false (.s 75)},
   {dst:=some 77,op:=.len false (.s 76)},
   {dst:=some 78,op:=.bin .lss (.s 74) (.s 77)}])
  (.cond (.s 78)
   (.skip)
   (.exit 0)))
  (.seq (.block 1 (.seq (.ops [{dst:=some 81,op:=.fld 6 (.s 1)},
    {dst:=some 82,op:=.load 1 false (.s 81)},
    {dst:=some 83,op:=.mov (.s 3)},
    {dst:=some 84,op:=.idxS 7 (.s 82) (.s 83)},
    {dst:=some 85,op:=.load 7 true (.s 84)},
    {dst:=some 86,op:=.call 32 [(.s 85)]},
    {dst:=some 87,op:=.un .not (.s 86)}])
   (.cond (.s 87)
    (.seq (.ops [{dst:=some 2,op:=.mov (.c (.bool false))}])
    (.ret))
    (.skip))))
  (.ops [{dst:=some 79,op:=.mov (.s 3)},
   {dst:=some 80,op:=.bin .add (.s 79) (.c (.int .i64 1))},
   {dst:=some 3,op:=.mov (.s 80)}]))
def F_wagonpoolref16_Formed:PF:=
 .mk
  (.seq (.ops [{dst:=some 1,op:=.box (.s 0)},
    {dst:=some 2,op:=.mov (.c (.bool false))}])
   (.seq (.seq (.ops [{dst:=some 4,op:=.fld 0 (.s 1)},
    {dst:=some 5,op:=.load 1 false (.s 4)},
    {dst:=some 6,op:=.bin .lss (.s 5) (.c (.int .i64 1))},
    {dst:=some 7,op:=.mov (.s 6)},
    {dst:=some 8,op:=.fld 0 (.s 1),guard:=some (7,false)},
    {dst:=some 9,op:=.load 1 false (.s 8),guard:=some (7,false)},
    {dst:=some 10,op:=.bin .gtr (.s 9) (.c (.int .i64 11)),guard:=some (7,false)},
    {dst:=some 11,op:=.pick (.s 7) (.c (.bool true)) (.s 10)},
    {dst:=some 12,op:=.mov (.s 11)},
    {dst:=some 13,op:=.fld 6 (.s 1),guard:=some (12,false)},
    {dst:=some 14,op:=.load 1 false (.s 13),guard:=some (12,false)},
    {dst:=some 15,op:=.len false (.s 14),guard:=some (12,false)},
    {dst:=some 16,op:=.fld 0 (.s 1),guard:=some (12,false)},
    {dst:=some 17,op:=.load 1 false (.s 16),guard:=some (12,false)},
    {dst:=some 18,op:=.call 61 [(.s 17)],guard:=some (12,false)},
    {dst:=some 19,op:=.bin .neq (.s 15) (.s 18),guard:=some (12,false)},
    {dst:=some 20,op:=.pick (.s 12) (.c (.bool true)) (.s 19)},
    {dst:=some 21,op:=.mov (.s 20)},
    {dst:=some 22,op:=.fld 2 (.s 1),guard:=some (21,false)},
    {dst:=some 23,op:=.load 4 true (.s 22),guard:=some (21,false)},
    {dst:=some 24,op:=.call 62 [(.s 23)],guard:=some (21,false)},
    {dst:=some 25,op:=.un .not (.s 24),guard:=some (21,false)},
    {dst:=some 26,op:=.pick (.s 21) (.c (.bool true)) (.s 25)},
    {dst:=some 27,op:=.mov (.s 26)},
    {dst:=some 28,op:=.fld 1 (.s 1),guard:=some (27,false)},
    {dst:=some 29,op:=.load 1 false (.s 28),guard:=some (27,false)},
    {dst:=some 30,op:=.bin .lss (.s 29) (.c (.int .i64 0)),guard:=some (27,false)},
    {dst:=some 31,op:=.pick (.s 27) (.c (.bool true)) (.s 30)}])
   (.cond (.s 31)
    (.seq (.ops [{dst:=some 2,op:=.mov (.c (.bool false))}])
    (.ret))
    (.skip)))
   (.seq (.seq (.ops [{dst:=some 32,op:=.fld 0 (.s 1)},
    {dst:=some 33,op:=.load 1 false (.s 32)},
    {dst:=some 34,op:=.bin .eql (.s 33) (.c (.int .i64 1))},
    {dst:=some 35,op:=.mov (.s 34)},
    {dst:=some 36,op:=.fld 1 (.s 1),guard:=some (35,true)},
    {dst:=some 37,op:=.load 1 false (.s 36),guard:=some (35,true)},
    {dst:=some 38,op:=.bin .gtr (.s 37) (.c (.int .i64 1099511627776)),guard:=some (35,true)},
    {dst:=some 39,op:=.pick (.s 35) (.s 38) (.c (.bool false))},
    {dst:=some 40,op:=.mov (.s 39)},
    {dst:=some 41,op:=.fld 0 (.s 1),guard:=some (40,false)},
    {dst:=some 42,op:=.load 1 false (.s 41),guard:=some (40,false)},
    {dst:=some 43,op:=.bin .eql (.s 42) (.c (.int .i64 2)),guard:=some (40,false)},
    {dst:=some 44,op:=.mov (.s 43),guard:=some (40,false)},
    {dst:=some 45,op:=.fld 1 (.s 1),guard:=some (44,true)},
    {dst:=some 46,op:=.load 1 false (.s 45),guard:=some (44,true)},
    {dst:=some 47,op:=.bin .geq (.s 46) (.c (.int .i64 16)),guard:=some (44,true)},
    {dst:=some 48,op:=.pick (.s 44) (.s 47) (.c (.bool false)),guard:=some (40,false)},
    {dst:=some 49,op:=.pick (.s 40) (.c (.bool true)) (.s 48)},
    {dst:=some 50,op:=.mov (.s 49)},
    {dst:=some 51,op:=.fld 0 (.s 1),guard:=some (50,false)},
    {dst:=some 52,op:=.load 1 false (.s 51),guard:=some (50,false)},
    {dst:=some 53,op:=.bin .neq (.s 52) (.c (.int .i64 1)),guard:=some (50,false)},
    {dst:=some 54,op:=.mov (.s 53),guard:=some (50,false)},
    {dst:=some 55,op:=.fld 0 (.s 1),guard:=some (54,true)},
    {dst:=some 56,op:=.load 1 false (.s 55),guard:=some (54,true)},
    {dst:=some 57,op:=.bin .neq (.s 56) (.c (.int .i64 2)),guard:=some (54,true)},
    {dst:=some 58,op:=.pick (.s 54) (.s 57) (.c (.bool false)),guard:=some (50,false)},
    {dst:=some 59,op:=.mov (.s 58),guard:=some (50,false)},
    {dst:=some 60,op:=.fld 1 (.s 1),guard:=some (59,true)},
    {dst:=some 61,op:=.load 1 false (.s 60),guard:=some (59,true)},
    {dst:=some 62,op:=.bin .neq (.s 61) (.c (.int .i64 0)),guard:=some (59,true)},
    {dst:=some 63,op:=.pick (.s 59) (.s 62) (.c (.bool false)),guard:=some (50,false)},
    {dst:=some 64,op:=.pick (.s 50) (.c (.bool true)) (.s 63)}])
   (.cond (.s 64)
    (.seq (.ops [{dst:=some 2,op:=.mov (.c (.bool false))}])
    (.ret))
    (.skip)))
   (.seq (.seq (.ops [{dst:=some 65,op:=.fld 0 (.s 1)},
    {dst:=some 66,op:=.load 1 false (.s 65)},
    {dst:=some 67,op:=.bin .neq (.s 66) (.c (.int .i64 1))},
    {dst:=some 68,op:=.mov (.s 67)},
    {dst:=some 69,op:=.fld 2 (.s 1),guard:=some (68,true)},
    {dst:=some 70,op:=.load 4 true (.s 69),guard:=some (68,true)},
    {dst:=some 71,op:=.bld [(.int .i64 0),(.int .i64 0),(.int .i64 0),(.int .i64 0)] [],guard:=some (68,true)},
    {dst:=some 72,op:=.aeq [0,0,0,0] true (.s 70) (.s 71),guard:=some (68,true)},
    {dst:=some 73,op:=.pick (.s 68) (.s 72) (.c (.bool false))}])
   (.cond (.s 73)
    (.seq (.ops [{dst:=some 2,op:=.mov (.c (.bool false))}])
    (.ret))
    (.skip)))
   (.seq (.seq (.ops [{dst:=some 3,op:=.mov (.c (.int .i64 0))}])
   (.block 0 (.loop [1,3] F_wagonpoolref16_Formed_L0)))
   (.seq (.ops [{dst:=some 2,op:=.mov (.c (.bool true))}])
   (.ret)))))))
  [.tmp 2]
theorem tr_wagonpoolref16_Formed:trF Tryz.prog [] 32 [[1,3]]=some F_wagonpoolref16_Formed:=by kernel_rfl
def F_wagonpoolref17_unit:PF:=
 .mk
  (.seq (.ops [{dst:=some 1,op:=.box (.s 0)},
    {dst:=some 2,op:=.box (.c (.agg [(.int .i64 0),(.int .i64 0),(.int .i64 0),(.int .i64 0)]))},
    {dst:=some 3,op:=.mov (.c (.bool false))}])
   (.seq (.seq (.ops [{dst:=some 14,op:=.fld 0 (.s 1)},
    {dst:=some 15,op:=.load 1 false (.s 14)},
    {dst:=some 16,op:=.bin .eql (.s 15) (.c (.int .i64 1))}])
   (.cond (.s 16)
    (.seq (.ops [{dst:=some 17,op:=.fld 2 (.s 1)},
     {dst:=some 18,op:=.load 4 true (.s 17)},
     {dst:=none,op:=.stor 4 (.s 2) (.s 18)},
     {dst:=some 3,op:=.mov (.c (.bool true))}])
    (.ret))
    (.skip)))
   (.seq (.seq (.ops [{dst:=some 19,op:=.fld 0 (.s 1)},
    {dst:=some 20,op:=.load 1 false (.s 19)},
    {dst:=some 21,op:=.bin .eql (.s 20) (.c (.int .i64 2))}])
   (.cond (.s 21)
    (.seq (.ops [{dst:=some 23,op:=.fld 1 (.s 1)},
     {dst:=some 24,op:=.load 1 false (.s 23)},
     {dst:=some 25,op:=.call 14 [(.s 24)]},
     {dst:=some 22,op:=.mov (.s 25)},
     {dst:=some 26,op:=.ext (.s 22) 0},
     {dst:=some 27,op:=.ext (.s 22) 1},
     {dst:=some 4,op:=.box (.c (.agg [(.int .i64 0),(.int .i64 0),(.int .i64 0),(.int .i64 0)]))},
     {dst:=none,op:=.stor 4 (.s 4) (.s 26)},
     {dst:=some 5,op:=.mov (.s 27)}])
    (.seq (.ops [{dst:=some 28,op:=.load 4 true (.s 4)},
     {dst:=none,op:=.stor 4 (.s 2) (.s 28)},
     {dst:=some 3,op:=.mov (.c (.bool true))}])
    (.ret)))
    (.skip)))
   (.seq (.ops [{dst:=some 30,op:=.fld 6 (.s 1)},
    {dst:=some 31,op:=.load 1 false (.s 30)},
    {dst:=some 32,op:=.idxS 7 (.s 31) (.c (.int .i64 0))},
    {dst:=some 33,op:=.load 7 true (.s 32)},
    {dst:=some 34,op:=.call 33 [(.s 33)]},
    {dst:=some 29,op:=.mov (.s 34)},
    {dst:=some 35,op:=.ext (.s 29) 0},
    {dst:=some 36,op:=.ext (.s 29) 1},
    {dst:=some 6,op:=.box (.c (.agg [(.int .i64 0),(.int .i64 0),(.int .i64 0),(.int .i64 0)]))},
    {dst:=none,op:=.stor 4 (.s 6) (.s 35)},
    {dst:=some 7,op:=.mov (.s 36)}])
   (.seq (.ops [{dst:=some 38,op:=.fld 6 (.s 1)},
    {dst:=some 39,op:=.load 1 false (.s 38)},
    {dst:=some 40,op:=.idxS 7 (.s 39) (.c (.int .i64 1))},
    {dst:=some 41,op:=.load 7 true (.s 40)},
    {dst:=some 42,op:=.call 33 [(.s 41)]},
    {dst:=some 37,op:=.mov (.s 42)},
    {dst:=some 43,op:=.ext (.s 37) 0},
    {dst:=some 44,op:=.ext (.s 37) 1},
    {dst:=some 8,op:=.box (.c (.agg [(.int .i64 0),(.int .i64 0),(.int .i64 0),(.int .i64 0)]))},
    {dst:=none,op:=.stor 4 (.s 8) (.s 43)},
    {dst:=some 9,op:=.mov (.s 44)}])
   (.seq (.seq (.ops [{dst:=some 45,op:=.mov (.s 7)},
    {dst:=some 46,op:=.un .not (.s 45)},
    {dst:=some 47,op:=.mov (.s 46)},
    {dst:=some 48,op:=.mov (.s 9),guard:=some (47,false)},
    {dst:=some 49,op:=.un .not (.s 48),guard:=some (47,false)},
    {dst:=some 50,op:=.pick (.s 47) (.c (.bool true)) (.s 49)}])
   (.cond (.s 50)
    (.seq (.ops [{dst:=some 51,op:=.bld [(.int .i64 0),(.int .i64 0),(.int .i64 0),(.int .i64 0)] []},
     {dst:=none,op:=.stor 4 (.s 2) (.s 51)},
     {dst:=some 3,op:=.mov (.c (.bool false))}])
    (.ret))
    (.skip)))
   (.seq (.seq (.ops [{dst:=some 52,op:=.fld 0 (.s 1)},
    {dst:=some 53,op:=.load 1 false (.s 52)}])
   (.block 0 (.seq (.ops [{dst:=some 55,op:=.bin .eql (.s 53) (.c (.int .i64 5))},
     {dst:=some 54,op:=.mov (.s 55)}])
    (.cond (.s 54)
     (.seq (.ops [{dst:=some 56,op:=.load 4 true (.s 6)},
      {dst:=some 57,op:=.load 4 true (.s 8)},
      {dst:=some 58,op:=.call 63 [(.s 56),(.s 57),(.c (.int .i64 1))]},
      {dst:=some 59,op:=.ext (.s 58) 0},
      {dst:=some 60,op:=.ext (.s 58) 1},
      {dst:=none,op:=.stor 4 (.s 2) (.s 59)},
      {dst:=some 3,op:=.mov (.s 60)}])
     (.ret))
     (.seq (.seq (.ops [{dst:=some 62,op:=.bin .eql (.s 53) (.c (.int .i64 8))},
      {dst:=some 61,op:=.mov (.s 62)}])
     (.cond (.s 61)
      (.skip)
      (.seq (.ops [{dst:=some 63,op:=.bin .eql (.s 53) (.c (.int .i64 9))},
       {dst:=some 61,op:=.mov (.s 63)}])
      (.cond (.s 61)
       (.skip)
       (.ops [{dst:=some 64,op:=.bin .eql (.s 53) (.c (.int .i64 10))},
        {dst:=some 61,op:=.mov (.s 64)}])))))
     (.cond (.s 61)
      (.seq (.ops [{dst:=some 65,op:=.load 4 true (.s 6)},
       {dst:=some 66,op:=.load 4 true (.s 8)},
       {dst:=some 67,op:=.call 63 [(.s 65),(.s 66),(.c (.int .i64 (-1)))]},
       {dst:=some 68,op:=.ext (.s 67) 0},
       {dst:=some 69,op:=.ext (.s 67) 1},
       {dst:=none,op:=.stor 4 (.s 2) (.s 68)},
       {dst:=some 3,op:=.mov (.s 69)}])
      (.ret))
      (.seq (.ops [{dst:=some 71,op:=.bin .eql (.s 53) (.c (.int .i64 11))},
       {dst:=some 70,op:=.mov (.s 71)}])
      (.cond (.s 70)
       (.seq (.ops [{dst:=some 73,op:=.fld 6 (.s 1)},
        {dst:=some 74,op:=.load 1 false (.s 73)},
        {dst:=some 75,op:=.idxS 7 (.s 74) (.c (.int .i64 2))},
        {dst:=some 76,op:=.load 7 true (.s 75)},
        {dst:=some 77,op:=.call 33 [(.s 76)]},
        {dst:=some 72,op:=.mov (.s 77)},
        {dst:=some 78,op:=.ext (.s 72) 0},
        {dst:=some 79,op:=.ext (.s 72) 1},
        {dst:=some 10,op:=.box (.c (.agg [(.int .i64 0),(.int .i64 0),(.int .i64 0),(.int .i64 0)]))},
        {dst:=none,op:=.stor 4 (.s 10) (.s 78)},
        {dst:=some 11,op:=.mov (.s 79)}])
       (.seq (.ops [{dst:=some 81,op:=.fld 6 (.s 1)},
        {dst:=some 82,op:=.load 1 false (.s 81)},
        {dst:=some 83,op:=.idxS 7 (.s 82) (.c (.int .i64 3))},
        {dst:=some 84,op:=.load 7 true (.s 83)},
        {dst:=some 85,op:=.call 33 [(.s 84)]},
        {dst:=some 80,op:=.mov (.s 85)},
        {dst:=some 86,op:=.ext (.s 80) 0},
        {dst:=some 87,op:=.ext (.s 80) 1},
        {dst:=some 12,op:=.box (.c (.agg [(.int .i64 0),(.int .i64 0),(.int .i64 0),(.int .i64 0)]))},
        {dst:=none,op:=.stor 4 (.s 12) (.s 86)},
        {dst:=some 13,op:=.mov (.s 87)}])
       (.seq (.seq (.ops [{dst:=some 88,op:=.mov (.s 11)},
        {dst:=some 89,op:=.un .not (.s 88)},
        {dst:=some 90,op:=.mov (.s 89)},
        {dst:=some 91,op:=.mov (.s 13),guard:=some (90,false)},
        {dst:=some 92,op:=.un .not (.s 91),guard:=some (90,false)},
        {dst:=some 93,op:=.pick (.s 90) (.c (.bool true)) (.s 92)},
        {dst:=some 94,op:=.mov (.s 93)},
        {dst:=some 95,op:=.load 4 true (.s 6),guard:=some (94,false)},
        {dst:=some 96,op:=.load 4 true (.s 8),guard:=some (94,false)},
        {dst:=some 97,op:=.aeq [0,0,0,0] true (.s 95) (.s 96),guard:=some (94,false)},
        {dst:=some 98,op:=.pick (.s 94) (.c (.bool true)) (.s 97)},
        {dst:=some 99,op:=.mov (.s 98)},
        {dst:=some 100,op:=.load 4 true (.s 10),guard:=some (99,false)},
        {dst:=some 101,op:=.load 4 true (.s 12),guard:=some (99,false)},
        {dst:=some 102,op:=.aeq [0,0,0,0] true (.s 100) (.s 101),guard:=some (99,false)},
        {dst:=some 103,op:=.pick (.s 99) (.c (.bool true)) (.s 102)}])
       (.cond (.s 103)
        (.seq (.ops [{dst:=some 104,op:=.bld [(.int .i64 0),(.int .i64 0),(.int .i64 0),(.int .i64 0)] []},
         {dst:=none,op:=.stor 4 (.s 2) (.s 104)},
         {dst:=some 3,op:=.mov (.c (.bool false))}])
        (.ret))
        (.skip)))
       (.seq (.ops [{dst:=some 105,op:=.load 4 true (.s 10)},
        {dst:=none,op:=.stor 4 (.s 2) (.s 105)},
        {dst:=some 3,op:=.mov (.c (.bool true))}])
       (.ret)))))
       (.skip)))))))))
   (.seq (.seq (.ops [{dst:=some 106,op:=.load 4 true (.s 6)},
    {dst:=some 107,op:=.load 4 true (.s 8)},
    {dst:=some 108,op:=.aeq [0,0,0,0] true (.s 106) (.s 107)}])
   (.cond (.s 108)
    (.seq (.ops [{dst:=some 109,op:=.bld [(.int .i64 0),(.int .i64 0),(.int .i64 0),(.int .i64 0)] []},
     {dst:=none,op:=.stor 4 (.s 2) (.s 109)},
     {dst:=some 3,op:=.mov (.c (.bool false))}])
    (.ret))
    (.skip)))
   (.seq (.ops [{dst:=some 110,op:=.load 4 true (.s 6)},
    {dst:=none,op:=.stor 4 (.s 2) (.s 110)},
    {dst:=some 3,op:=.mov (.c (.bool true))}])
   (.ret))))))))))
  [.cell 2 4 true,.tmp 3]
theorem tr_wagonpoolref17_unit:trF Tryz.prog [] 33 []=some F_wagonpoolref17_unit:=by kernel_rfl
def F_wagonpoolref17_Money:PF:=
 .mk
  (.seq (.ops [{dst:=some 0,op:=.box (.c (.agg [(.int .i64 0),(.int .i64 0),(.int .i64 0),(.int .i64 0)]))}])
   (.seq (.ops [{dst:=some 1,op:=.bld [(.int .i64 0),(.int .i64 0),(.int .i64 0),(.int .i64 0)] [(0,1,(.c (.int .i64 1))),(1,1,(.c (.int .i64 0))),(2,1,(.c (.int .i64 0))),(3,1,(.c (.int .i64 0)))]},
    {dst:=none,op:=.stor 4 (.s 0) (.s 1)}])
   (.ret)))
  [.cell 0 4 true]
theorem tr_wagonpoolref17_Money:trF Tryz.prog [] 34 []=some F_wagonpoolref17_Money:=by kernel_rfl
def F_tparse_Check_L0:PC:=
 .seq (.ops [{dst:=some 53,op:=.bin .lss (.s 52) (.s 51)}])
  (.seq (.cond (.s 53)
   (.skip)
   (.exit 2))
  (.seq (.block 3 (.seq (.ops [{dst:=some 54,op:=.idxS 3 (.s 50) (.s 52)},
    {dst:=some 55,op:=.load 3 true (.s 54)},
    {dst:=some 9,op:=.box (.c (.agg [(.int .i64 0),(.int .i64 0),(.int .i64 0)]))},
    {dst:=none,op:=.stor 3 (.s 9) (.s 55)}])
   (.seq (.ops [{dst:=some 56,op:=.fld 0 (.s 9)},
    {dst:=some 57,op:=.load 1 false (.s 56)},
    {dst:=some 58,op:=.bin .lss (.s 57) (.c (.int .i64 0))},
    {dst:=some 59,op:=.mov (.s 58)},
    {dst:=some 60,op:=.fld 0 (.s 9),guard:=some (59,false)},
    {dst:=some 61,op:=.load 1 false (.s 60),guard:=some (59,false)},
    {dst:=some 62,op:=.bin .geq (.s 61) (.c (.int .i64 16)),guard:=some (59,false)},
    {dst:=some 63,op:=.pick (.s 59) (.c (.bool true)) (.s 62)},
    {dst:=some 64,op:=.mov (.s 63)},
    {dst:=some 65,op:=.fld 1 (.s 9),guard:=some (64,false)},
    {dst:=some 66,op:=.load 1 false (.s 65),guard:=some (64,false)},
    {dst:=some 67,op:=.fld 2 (.s 9),guard:=some (64,false)},
    {dst:=some 68,op:=.load 1 false (.s 67),guard:=some (64,false)},
    {dst:=some 69,op:=.mm false (.s 66) (.s 68),guard:=some (64,false)},
    {dst:=some 70,op:=.bin .lss (.s 69) (.c (.int .i64 0)),guard:=some (64,false)},
    {dst:=some 71,op:=.pick (.s 64) (.c (.bool true)) (.s 70)},
    {dst:=some 72,op:=.mov (.s 71)},
    {dst:=some 73,op:=.fld 1 (.s 9),guard:=some (72,false)},
    {dst:=some 74,op:=.load 1 false (.s 73),guard:=some (72,false)},
    {dst:=some 75,op:=.fld 2 (.s 9),guard:=some (72,false)},
    {dst:=some 76,op:=.load 1 false (.s 75),guard:=some (72,false)},
    {dst:=some 77,op:=.mm true (.s 74) (.s 76),guard:=some (72,false)},
    {dst:=some 78,op:=.bin .gtr (.s 77) (.c (.int .i64 1099511627776)),guard:=some (72,false)},
    {dst:=some 79,op:=.pick (.s 72) (.c (.bool true)) (.s 78)}])
   (.cond (.s 79)
    (.seq (.ops [{dst:=some 2,op:=.mov (.c (.int .i64 1))}])
    (.ret))
    (.skip)))))
  (.ops [{dst:=some 80,op:=.bin .add (.s 52) (.c (.int .i64 1))},
   {dst:=some 52,op:=.mov (.s 80)}])))
def F_tparse_Check_L1:PC:=
 .seq (.ops [{dst:=some 36,op:=.bin .lss (.s 35) (.s 34)}])
  (.seq (.cond (.s 36)
   (.skip)
   (.exit 0))
  (.seq (.block 1 (.seq (.ops [{dst:=some 37,op:=.idxS 9 (.s 33) (.s 35)},
    {dst:=some 38,op:=.load 9 true (.s 37)},
    {dst:=some 7,op:=.box (.c (.agg [(.str []),(.slc 0 [] true),(.int .i64 0),(.int .i64 0),(.int .i64 0),(.int .i64 0),(.int .i64 0),(.int .i64 0),(.slc 0 [] true)]))},
    {dst:=none,op:=.stor 9 (.s 7) (.s 38)}])
   (.seq (.seq (.ops [{dst:=some 39,op:=.fld 0 (.s 7)},
    {dst:=some 40,op:=.load 1 false (.s 39)},
    {dst:=some 41,op:=.call 64 [(.s 40)]},
    {dst:=some 42,op:=.un .not (.s 41)},
    {dst:=some 43,op:=.mov (.s 42)},
    {dst:=some 44,op:=.fld 2 (.s 7),guard:=some (43,false)},
    {dst:=some 45,op:=.load 7 true (.s 44),guard:=some (43,false)},
    {dst:=some 46,op:=.call 65 [(.s 45)],guard:=some (43,false)},
    {dst:=some 47,op:=.un .not (.s 46),guard:=some (43,false)},
    {dst:=some 48,op:=.pick (.s 43) (.c (.bool true)) (.s 47)}])
   (.cond (.s 48)
    (.seq (.ops [{dst:=some 2,op:=.mov (.c (.int .i64 1))}])
    (.ret))
    (.skip)))
   (.seq (.seq (.ops [{dst:=some 49,op:=.fld 1 (.s 7)},
    {dst:=some 50,op:=.load 1 false (.s 49)},
    {dst:=some 51,op:=.len false (.s 50)},
    {dst:=some 52,op:=.mov (.c (.int .i64 0))}])
   (.block 2 (.loop [3,4,5,7,33,34,35,50,51,52] F_tparse_Check_L0)))
   (.seq (.ops [{dst:=some 81,op:=.mov (.s 3)},
    {dst:=some 82,op:=.mov (.s 81)},
    {dst:=some 83,op:=.fld 0 (.s 7),guard:=some (82,false)},
    {dst:=some 84,op:=.load 1 false (.s 83),guard:=some (82,false)},
    {dst:=some 85,op:=.call 54 [(.s 84)],guard:=some (82,false)},
    {dst:=some 86,op:=.pick (.s 82) (.c (.bool true)) (.s 85)},
    {dst:=some 87,op:=.mov (.s 86)},
    {dst:=some 88,op:=.mov (.s 5),guard:=some (87,false)},
    {dst:=some 89,op:=.fld 0 (.s 7),guard:=some (87,false)},
    {dst:=some 90,op:=.load 1 false (.s 89),guard:=some (87,false)},
    {dst:=some 91,op:=.mapget 2 [2] false (.bool false) (.s 88) (.s 90),guard:=some (87,false)},
    {dst:=some 92,op:=.pick (.s 87) (.c (.bool true)) (.s 91)},
    {dst:=some 3,op:=.mov (.s 92)}])
   (.seq (.ops [{dst:=some 93,op:=.mov (.s 4)},
    {dst:=some 94,op:=.mov (.s 93)},
    {dst:=some 95,op:=.fld 1 (.s 7),guard:=some (94,false)},
    {dst:=some 96,op:=.load 1 false (.s 95),guard:=some (94,false)},
    {dst:=some 97,op:=.len false (.s 96),guard:=some (94,false)},
    {dst:=some 98,op:=.bin .gtr (.s 97) (.c (.int .i64 8)),guard:=some (94,false)},
    {dst:=some 99,op:=.pick (.s 94) (.c (.bool true)) (.s 98)},
    {dst:=some 100,op:=.mov (.s 99)},
    {dst:=some 101,op:=.fld 2 (.s 7),guard:=some (100,false)},
    {dst:=some 102,op:=.load 7 true (.s 101),guard:=some (100,false)},
    {dst:=some 103,op:=.call 60 [(.s 102)],guard:=some (100,false)},
    {dst:=some 104,op:=.bin .gtr (.s 103) (.c (.int .i64 24)),guard:=some (100,false)},
    {dst:=some 105,op:=.pick (.s 100) (.c (.bool true)) (.s 104)},
    {dst:=some 4,op:=.mov (.s 105)}])
   (.ops [{dst:=some 106,op:=.mov (.s 5)},
    {dst:=some 107,op:=.fld 0 (.s 7)},
    {dst:=some 108,op:=.load 1 false (.s 107)},
    {dst:=none,op:=.mapup 2 [2] (.s 106) (.s 108) (.c (.bool true))}])))))))
  (.ops [{dst:=some 109,op:=.bin .add (.s 35) (.c (.int .i64 1))},
   {dst:=some 35,op:=.mov (.s 109)}])))
def F_tparse_Check:PF:=
 .mk
  (.seq (.ops [{dst:=some 1,op:=.box (.s 0)},
    {dst:=some 2,op:=.mov (.c (.int .i64 0))}])
   (.seq (.seq (.ops [{dst:=some 10,op:=.fld 0 (.s 1)},
    {dst:=some 11,op:=.load 1 false (.s 10)},
    {dst:=some 12,op:=.call 64 [(.s 11)]},
    {dst:=some 13,op:=.un .not (.s 12)},
    {dst:=some 14,op:=.mov (.s 13)},
    {dst:=some 15,op:=.fld 1 (.s 1),guard:=some (14,false)},
    {dst:=some 16,op:=.load 1 false (.s 15),guard:=some (14,false)},
    {dst:=some 17,op:=.bin .lss (.s 16) (.c (.int .i64 1)),guard:=some (14,false)},
    {dst:=some 18,op:=.pick (.s 14) (.c (.bool true)) (.s 17)},
    {dst:=some 19,op:=.mov (.s 18)},
    {dst:=some 20,op:=.fld 1 (.s 1),guard:=some (19,false)},
    {dst:=some 21,op:=.load 1 false (.s 20),guard:=some (19,false)},
    {dst:=some 22,op:=.bin .gtr (.s 21) (.c (.int .i64 6)),guard:=some (19,false)},
    {dst:=some 23,op:=.pick (.s 19) (.c (.bool true)) (.s 22)}])
   (.cond (.s 23)
    (.seq (.ops [{dst:=some 2,op:=.mov (.c (.int .i64 1))}])
    (.ret))
    (.skip)))
   (.seq (.ops [{dst:=some 24,op:=.fld 0 (.s 1)},
    {dst:=some 25,op:=.load 1 false (.s 24)},
    {dst:=some 26,op:=.call 54 [(.s 25)]},
    {dst:=some 27,op:=.fld 2 (.s 1)},
    {dst:=some 28,op:=.load 1 false (.s 27)},
    {dst:=some 29,op:=.len false (.s 28)},
    {dst:=some 30,op:=.bin .gtr (.s 29) (.c (.int .i64 64))},
    {dst:=some 3,op:=.mov (.s 26)},
    {dst:=some 4,op:=.mov (.s 30)}])
   (.seq (.ops [{dst:=some 31,op:=.mkmap 2},
    {dst:=some 5,op:=.mov (.s 31)}])
   (.seq (.seq (.ops [{dst:=some 32,op:=.fld 2 (.s 1)},
    {dst:=some 33,op:=.load 1 false (.s 32)},
    {dst:=some 34,op:=.len false (.s 33)},
    {dst:=some 35,op:=.mov (.c (.int .i64 0))}])
   (.block 0 (.loop [3,4,5,33,34,35] F_tparse_Check_L1)))
   (.seq (.block 4 (.seq (.ops [{dst:=some 111,op:=.mov (.s 3)},
     {dst:=some 110,op:=.mov (.s 111)}])
    (.cond (.s 110)
     (.seq (.ops [{dst:=some 2,op:=.mov (.c (.int .i64 161))}])
     (.ret))
     (.seq (.ops [{dst:=some 113,op:=.mov (.s 4)},
      {dst:=some 112,op:=.mov (.s 113)}])
     (.cond (.s 112)
      (.seq (.ops [{dst:=some 2,op:=.mov (.c (.int .i64 2))}])
      (.ret))
      (.skip))))))
   (.seq (.ops [{dst:=some 2,op:=.mov (.c (.int .i64 0))}])
   (.ret))))))))
  [.tmp 2]
theorem tr_tparse_Check:trF Tryz.prog [] 35 [[3,4,5,33,34,35],[3,4,5,7,33,34,35,50,51,52]]=some F_tparse_Check:=by kernel_rfl
def F_ttype_attributes:PF:=
 .mk
  (.seq (.ops [{dst:=some 0,op:=.box (.c (.agg [(.int .i64 0),(.int .i64 0),(.int .i64 0),(.int .i64 0),(.int .i64 0),(.int .i64 0),(.int .i64 0),(.int .i64 0),(.int .i64 0),(.int .i64 0),(.int .i64 0),(.int .i64 0),(.int .i64 0),(.int .i64 0),(.int .i64 0),(.int .i64 0),(.int .i64 0),(.int .i64 0),(.int .i64 0),(.int .i64 0),(.int .i64 0),(.int .i64 0),(.int .i64 0),(.int .i64 0),(.int .i64 0),(.int .i64 0),(.int .i64 0),(.int .i64 0),(.int .i64 0),(.int .i64 0),(.int .i64 0),(.int .i64 0),(.int .i64 0),(.int .i64 0),(.int .i64 0),(.int .i64 0),(.int .i64 0),(.int .i64 0),(.int .i64 0),(.int .i64 0),(.int .i64 0),(.int .i64 0),(.int .i64 0),(.int .i64 0),(.int .i64 0),(.int .i64 0),(.int .i64 0),(.int .i64 0),(.int .i64 0),(.int .i64 0),(.int .i64 0),(.int .i64 0),(.int .i64 0),(.int .i64 0),(.int .i64 0),(.int .i64 0),(.int .i64 0),(.int .i64 0),(.int .i64 0),(.int .i64 0),(.int .i64 0),(.int .i64 0),(.int .i64 0),(.int .i64 0)]))}])
   (.seq (.ops [{dst:=some 1,op:=.bld [(.int .i64 0),(.int .i64 0),(.int .i64 0),(.int .i64 0)] [(3,1,(.c (.int .i64 1)))]},
    {dst:=some 2,op:=.bld [(.int .i64 0),(.int .i64 0),(.int .i64 0),(.int .i64 0)] [(2,1,(.c (.int .i64 1)))]},
    {dst:=some 3,op:=.bld [(.int .i64 0),(.int .i64 0),(.int .i64 0),(.int .i64 0)] [(1,1,(.c (.int .i64 1)))]},
    {dst:=some 4,op:=.bld [(.int .i64 0),(.int .i64 0),(.int .i64 0),(.int .i64 0)] [(1,1,(.c (.int .i64 1)))]},
    {dst:=some 5,op:=.bld [(.int .i64 0),(.int .i64 0),(.int .i64 0),(.int .i64 0)] [(0,1,(.c (.int .i64 1)))]},
    {dst:=some 6,op:=.bld [(.int .i64 0),(.int .i64 0),(.int .i64 0),(.int .i64 0)] [(0,1,(.c (.int .i64 1)))]},
    {dst:=some 7,op:=.bld [(.int .i64 0),(.int .i64 0),(.int .i64 0),(.int .i64 0),(.int .i64 0),(.int .i64 0),(.int .i64 0),(.int .i64 0),(.int .i64 0),(.int .i64 0),(.int .i64 0),(.int .i64 0),(.int .i64 0),(.int .i64 0),(.int .i64 0),(.int .i64 0),(.int .i64 0),(.int .i64 0),(.int .i64 0),(.int .i64 0),(.int .i64 0),(.int .i64 0),(.int .i64 0),(.int .i64 0),(.int .i64 0),(.int .i64 0),(.int .i64 0),(.int .i64 0),(.int .i64 0),(.int .i64 0),(.int .i64 0),(.int .i64 0),(.int .i64 0),(.int .i64 0),(.int .i64 0),(.int .i64 0),(.int .i64 0),(.int .i64 0),(.int .i64 0),(.int .i64 0),(.int .i64 0),(.int .i64 0),(.int .i64 0),(.int .i64 0),(.int .i64 0),(.int .i64 0),(.int .i64 0),(.int .i64 0),(.int .i64 0),(.int .i64 0),(.int .i64 0),(.int .i64 0),(.int .i64 0),(.int .i64 0),(.int .i64 0),(.int .i64 0),(.int .i64 0),(.int .i64 0),(.int .i64 0),(.int .i64 0),(.int .i64 0),(.int .i64 0),(.int .i64 0),(.int .i64 0)] [(20,4,(.s 1)),(24,4,(.s 2)),(28,4,(.s 3)),(32,4,(.s 4)),(40,4,(.s 5)),(44,4,(.s 6))]},
    {dst:=none,op:=.stor 64 (.s 0) (.s 7)}])
   (.ret)))
  [.cell 0 64 true]
theorem tr_ttype_attributes:trF Tryz.prog [] 36 []=some F_ttype_attributes:=by kernel_rfl
def F_teval_operands:PF:=
 .mk
  (.seq (.ops [{dst:=some 2,op:=.mov (.c (.int .i64 0))}])
   (.seq (.block 0 (.seq (.ops [{dst:=some 4,op:=.mov (.s 0)},
     {dst:=some 5,op:=.bin .lss (.s 4) (.c (.int .i64 1))},
     {dst:=some 6,op:=.mov (.s 5)},
     {dst:=some 7,op:=.mov (.s 0),guard:=some (6,false)},
     {dst:=some 8,op:=.bin .gtr (.s 7) (.c (.int .i64 11)),guard:=some (6,false)},
     {dst:=some 9,op:=.pick (.s 6) (.c (.bool true)) (.s 8)},
     {dst:=some 3,op:=.mov (.s 9)}])
    (.cond (.s 3)
     (.seq (.ops [{dst:=some 2,op:=.mov (.c (.int .i64 (-1)))}])
     (.ret))
     (.seq (.ops [{dst:=some 11,op:=.mov (.s 0)},
      {dst:=some 12,op:=.bin .eql (.s 11) (.c (.int .i64 1))},
      {dst:=some 13,op:=.mov (.s 12)},
      {dst:=some 14,op:=.mov (.s 0),guard:=some (13,false)},
      {dst:=some 15,op:=.bin .eql (.s 14) (.c (.int .i64 2)),guard:=some (13,false)},
      {dst:=some 16,op:=.pick (.s 13) (.c (.bool true)) (.s 15)},
      {dst:=some 10,op:=.mov (.s 16)}])
     (.cond (.s 10)
      (.seq (.ops [{dst:=some 2,op:=.mov (.c (.int .i64 0))}])
      (.ret))
      (.seq (.ops [{dst:=some 18,op:=.mov (.s 0)},
       {dst:=some 19,op:=.bin .eql (.s 18) (.c (.int .i64 11))},
       {dst:=some 17,op:=.mov (.s 19)}])
      (.cond (.s 17)
       (.seq (.ops [{dst:=some 2,op:=.mov (.c (.int .i64 4))}])
       (.ret))
       (.skip))))))))
   (.seq (.ops [{dst:=some 2,op:=.mov (.c (.int .i64 2))}])
   (.ret))))
  [.tmp 2]
theorem tr_teval_operands:trF Tryz.prog [] 40 []=some F_teval_operands:=by kernel_rfl
def F_tlex_token:PF:=
 .mk
  (.seq (.ops [{dst:=some 2,op:=.box (.c (.agg [(.int .i64 0),(.str []),(.int .i64 0),(.int .i64 0)]))},
    {dst:=some 3,op:=.mov (.c (.int .i64 0))}])
   (.seq (.seq (.ops [{dst:=some 10,op:=.mov (.s 0)},
    {dst:=some 11,op:=.idx (.s 10) (.c (.int .i64 0))},
    {dst:=some 4,op:=.mov (.s 11)}])
   (.block 0 (.seq (.ops [{dst:=some 13,op:=.mov (.s 4)},
     {dst:=some 14,op:=.call 74 [(.s 13)]},
     {dst:=some 12,op:=.mov (.s 14)}])
    (.cond (.s 12)
     (.seq (.ops [{dst:=some 15,op:=.mov (.s 0)},
      {dst:=some 16,op:=.mov (.s 0)},
      {dst:=some 17,op:=.call 75 [(.s 16),(.c (.clo 76 []))]},
      {dst:=some 18,op:=.slice 0 (.s 15) none (some (.s 17)) none},
      {dst:=some 5,op:=.mov (.s 18)}])
     (.seq (.seq (.ops [{dst:=some 19,op:=.mov (.s 5)},
      {dst:=some 20,op:=.len true (.s 19)},
      {dst:=some 21,op:=.bin .gtr (.s 20) (.c (.int .i64 32))}])
     (.cond (.s 21)
      (.seq (.ops [{dst:=some 22,op:=.bld [(.int .i64 0),(.str []),(.int .i64 0),(.int .i64 0)] []},
       {dst:=none,op:=.stor 4 (.s 2) (.s 22)},
       {dst:=some 3,op:=.mov (.c (.int .i64 2))}])
      (.ret))
      (.skip)))
     (.seq (.ops [{dst:=some 23,op:=.mov (.s 5)},
      {dst:=some 24,op:=.bld [(.int .i64 0),(.str []),(.int .i64 0),(.int .i64 0)] [(0,1,(.c (.int .i64 1))),(1,1,(.s 23))]},
      {dst:=none,op:=.stor 4 (.s 2) (.s 24)},
      {dst:=some 3,op:=.mov (.c (.int .i64 0))}])
     (.ret))))
     (.seq (.ops [{dst:=some 26,op:=.mov (.s 4)},
      {dst:=some 27,op:=.call 77 [(.s 26)]},
      {dst:=some 25,op:=.mov (.s 27)}])
     (.cond (.s 25)
      (.seq (.ops [{dst:=some 28,op:=.mov (.s 0)},
       {dst:=some 29,op:=.mov (.s 0)},
       {dst:=some 30,op:=.call 75 [(.s 29),(.c (.clo 77 []))]},
       {dst:=some 31,op:=.slice 0 (.s 28) none (some (.s 30)) none},
       {dst:=some 6,op:=.mov (.s 31)}])
      (.seq (.ops [{dst:=some 33,op:=.mov (.s 6)},
       {dst:=some 34,op:=.call 78 [(.s 33)]},
       {dst:=some 32,op:=.mov (.s 34)},
       {dst:=some 35,op:=.ext (.s 32) 0},
       {dst:=some 36,op:=.ext (.s 32) 1},
       {dst:=some 7,op:=.mov (.s 35)},
       {dst:=some 8,op:=.mov (.s 36)}])
      (.seq (.ops [{dst:=some 37,op:=.mov (.s 6)},
       {dst:=some 38,op:=.mov (.s 7)},
       {dst:=some 39,op:=.bld [(.int .i64 0),(.str []),(.int .i64 0),(.int .i64 0)] [(0,1,(.c (.int .i64 2))),(1,1,(.s 37)),(2,1,(.s 38))]},
       {dst:=some 40,op:=.mov (.s 8)},
       {dst:=none,op:=.stor 4 (.s 2) (.s 39)},
       {dst:=some 3,op:=.mov (.s 40)}])
      (.ret))))
      (.skip)))))))
   (.seq (.seq (.ops [{dst:=some 41,op:=.load 1 false (.g 0)},
    {dst:=some 42,op:=.mov (.s 0)},
    {dst:=some 43,op:=.idx (.s 42) (.c (.int .i64 0))},
    {dst:=some 44,op:=.mapget 2 [0] false (.str []) (.s 41) (.s 43)},
    {dst:=some 9,op:=.mov (.s 44)}])
   (.seq (.ops [{dst:=some 45,op:=.mov (.s 9)},
    {dst:=some 46,op:=.bin .neq (.s 45) (.c (.str []))},
    {dst:=some 47,op:=.mov (.s 46)},
    {dst:=some 48,op:=.mov (.s 0),guard:=some (47,true)},
    {dst:=some 49,op:=.mov (.s 9),guard:=some (47,true)},
    {dst:=some 50,op:=.call 79 [(.s 48),(.s 49)],guard:=some (47,true)},
    {dst:=some 51,op:=.pick (.s 47) (.s 50) (.c (.bool false))}])
   (.cond (.s 51)
    (.seq (.ops [{dst:=some 52,op:=.mov (.s 9)},
     {dst:=some 53,op:=.bld [(.int .i64 0),(.str []),(.int .i64 0),(.int .i64 0)] [(0,1,(.c (.int .i64 3))),(1,1,(.s 52))]},
     {dst:=none,op:=.stor 4 (.s 2) (.s 53)},
     {dst:=some 3,op:=.mov (.c (.int .i64 0))}])
    (.ret))
    (.skip))))
   (.seq (.ops [{dst:=some 54,op:=.bld [(.int .i64 0),(.str []),(.int .i64 0),(.int .i64 0)] []},
    {dst:=none,op:=.stor 4 (.s 2) (.s 54)},
    {dst:=some 3,op:=.mov (.c (.int .i64 150))}])
   (.ret)))))
  [.cell 2 4 true,.tmp 3]
theorem tr_tlex_token:trF Tryz.prog [] 52 []=some F_tlex_token:=by kernel_rfl
def F_tlex_Reserved:PF:=
 .mk
  (.seq (.ops [{dst:=some 2,op:=.mov (.c (.bool false))}])
   (.seq (.ops [{dst:=some 3,op:=.load 1 false (.g 1)},
    {dst:=some 4,op:=.mov (.s 0)},
    {dst:=some 5,op:=.mapget 2 [2] false (.bool false) (.s 3) (.s 4)},
    {dst:=some 2,op:=.mov (.s 5)}])
   (.ret)))
  [.tmp 2]
theorem tr_tlex_Reserved:trF Tryz.prog [] 54 []=some F_tlex_Reserved:=by kernel_rfl
def F_tparse_nesting_L0:PC:=
 .seq (.ops [{dst:=some 10,op:=.bin .lss (.s 9) (.s 8)}])
  (.seq (.cond (.s 10)
   (.skip)
   (.exit 0))
  (.seq (.block 1 (.seq (.ops [{dst:=some 11,op:=.idxS 7 (.s 7) (.s 9)},
    {dst:=some 12,op:=.load 7 true (.s 11)},
    {dst:=some 5,op:=.box (.c (.agg [(.int .i64 0),(.int .i64 0),(.int .i64 0),(.int .i64 0),(.int .i64 0),(.int .i64 0),(.slc 0 [] true)]))},
    {dst:=none,op:=.stor 7 (.s 5) (.s 12)}])
   (.ops [{dst:=some 13,op:=.mov (.s 3)},
    {dst:=some 14,op:=.load 7 true (.s 5)},
    {dst:=some 15,op:=.call 60 [(.s 14)]},
    {dst:=some 16,op:=.mm true (.s 13) (.s 15)},
    {dst:=some 3,op:=.mov (.s 16)}])))
  (.ops [{dst:=some 17,op:=.bin .add (.s 9) (.c (.int .i64 1))},
   {dst:=some 9,op:=.mov (.s 17)}])))
def F_tparse_nesting:PF:=
 .mk
  (.seq (.ops [{dst:=some 1,op:=.box (.s 0)},
    {dst:=some 2,op:=.mov (.c (.int .i64 0))}])
   (.seq (.ops [{dst:=some 3,op:=.mov (.c (.int .i64 0))}])
   (.seq (.seq (.ops [{dst:=some 6,op:=.fld 6 (.s 1)},
    {dst:=some 7,op:=.load 1 false (.s 6)},
    {dst:=some 8,op:=.len false (.s 7)},
    {dst:=some 9,op:=.mov (.c (.int .i64 0))}])
   (.block 0 (.loop [3,7,8,9] F_tparse_nesting_L0)))
   (.seq (.ops [{dst:=some 18,op:=.mov (.s 3)},
    {dst:=some 19,op:=.bin .add (.s 18) (.c (.int .i64 1))},
    {dst:=some 2,op:=.mov (.s 19)}])
   (.ret)))))
  [.tmp 2]
theorem tr_tparse_nesting:trF Tryz.prog [] 60 [[3,7,8,9]]=some F_tparse_nesting:=by kernel_rfl
def F_wagonpoolref16_operands:PF:=
 .mk
  (.seq (.ops [{dst:=some 2,op:=.mov (.c (.int .i64 0))}])
   (.seq (.seq (.ops [{dst:=some 3,op:=.mov (.s 0)}])
   (.block 0 (.seq (.seq (.ops [{dst:=some 5,op:=.bin .eql (.s 3) (.c (.int .i64 1))},
     {dst:=some 4,op:=.mov (.s 5)}])
    (.cond (.s 4)
     (.skip)
     (.ops [{dst:=some 6,op:=.bin .eql (.s 3) (.c (.int .i64 2))},
      {dst:=some 4,op:=.mov (.s 6)}])))
    (.cond (.s 4)
     (.seq (.ops [{dst:=some 2,op:=.mov (.c (.int .i64 0))}])
     (.ret))
     (.seq (.ops [{dst:=some 8,op:=.bin .eql (.s 3) (.c (.int .i64 11))},
      {dst:=some 7,op:=.mov (.s 8)}])
     (.cond (.s 7)
      (.seq (.ops [{dst:=some 2,op:=.mov (.c (.int .i64 4))}])
      (.ret))
      (.skip)))))))
   (.seq (.ops [{dst:=some 2,op:=.mov (.c (.int .i64 2))}])
   (.ret))))
  [.tmp 2]
theorem tr_wagonpoolref16_operands:trF Tryz.prog [] 61 []=some F_wagonpoolref16_operands:=by kernel_rfl
def F_wagonpoolref16_unitary_L0:PC:=
 .seq (.seq (.ops [{dst:=some 6,op:=.mov (.s 5)},
   {dst:=some 7,op:=.bin .lss (.s 6) (.c (.int .i64 4))}])
  (.cond (.s 7)
   (.skip)
   (.exit 0)))
  (.seq (.block 1 (.seq (.seq (.ops [{dst:=some 10,op:=.mov (.s 5)},
    {dst:=some 11,op:=.idxA 4 1 (.s 1) (.s 10)},
    {dst:=some 12,op:=.load 1 false (.s 11)},
    {dst:=some 13,op:=.bin .lss (.s 12) (.c (.int .i64 (-1)))},
    {dst:=some 14,op:=.mov (.s 13)},
    {dst:=some 15,op:=.mov (.s 5),guard:=some (14,false)},
    {dst:=some 16,op:=.idxA 4 1 (.s 1) (.s 15),guard:=some (14,false)},
    {dst:=some 17,op:=.load 1 false (.s 16),guard:=some (14,false)},
    {dst:=some 18,op:=.bin .gtr (.s 17) (.c (.int .i64 1)),guard:=some (14,false)},
    {dst:=some 19,op:=.pick (.s 14) (.c (.bool true)) (.s 18)}])
   (.cond (.s 19)
    (.seq (.ops [{dst:=some 2,op:=.mov (.c (.bool false))}])
    (.ret))
    (.skip)))
   (.seq (.seq (.ops [{dst:=some 20,op:=.mov (.s 5)},
    {dst:=some 21,op:=.idxA 4 1 (.s 1) (.s 20)},
    {dst:=some 22,op:=.load 1 false (.s 21)},
    {dst:=some 23,op:=.bin .eql (.s 22) (.c (.int .i64 1))}])
   (.cond (.s 23)
    (.ops [{dst:=some 24,op:=.mov (.s 3)},
     {dst:=some 25,op:=.bin .add (.s 24) (.c (.int .i64 1))},
     {dst:=some 3,op:=.mov (.s 25)}])
    (.skip)))
   (.seq (.ops [{dst:=some 26,op:=.mov (.s 5)},
    {dst:=some 27,op:=.idxA 4 1 (.s 1) (.s 26)},
    {dst:=some 28,op:=.load 1 false (.s 27)},
    {dst:=some 29,op:=.bin .eql (.s 28) (.c (.int .i64 (-1)))}])
   (.cond (.s 29)
    (.ops [{dst:=some 30,op:=.mov (.s 4)},
     {dst:=some 31,op:=.bin .add (.s 30) (.c (.int .i64 1))},
     {dst:=some 4,op:=.mov (.s 31)}])
    (.skip))))))
  (.ops [{dst:=some 8,op:=.mov (.s 5)},
   {dst:=some 9,op:=.bin .add (.s 8) (.c (.int .i64 1))},
   {dst:=some 5,op:=.mov (.s 9)}]))
def F_wagonpoolref16_unitary:PF:=
 .mk
  (.seq (.ops [{dst:=some 1,op:=.box (.s 0)},
    {dst:=some 2,op:=.mov (.c (.bool false))}])
   (.seq (.ops [{dst:=some 3,op:=.mov (.c (.int .i64 0))}])
   (.seq (.ops [{dst:=some 4,op:=.mov (.c (.int .i64 0))}])
   (.seq (.seq (.ops [{dst:=some 5,op:=.mov (.c (.int .i64 0))}])
   (.block 0 (.loop [1,3,4,5] F_wagonpoolref16_unitary_L0)))
   (.seq (.ops [{dst:=some 32,op:=.mov (.s 3)},
    {dst:=some 33,op:=.bin .leq (.s 32) (.c (.int .i64 1))},
    {dst:=some 34,op:=.mov (.s 33)},
    {dst:=some 35,op:=.mov (.s 4),guard:=some (34,true)},
    {dst:=some 36,op:=.bin .leq (.s 35) (.c (.int .i64 1)),guard:=some (34,true)},
    {dst:=some 37,op:=.pick (.s 34) (.s 36) (.c (.bool false))},
    {dst:=some 2,op:=.mov (.s 37)}])
   (.ret))))))
  [.tmp 2]
theorem tr_wagonpoolref16_unitary:trF Tryz.prog [] 62 [[1,3,4,5]]=some F_wagonpoolref16_unitary:=by kernel_rfl
def F_wagonpoolref17_Combine_L0:PC:=
 .seq (.seq (.ops [{dst:=some 11,op:=.mov (.s 9)},
   {dst:=some 12,op:=.bin .lss (.s 11) (.c (.int .i64 4))}])
  (.cond (.s 12)
   (.skip)
   (.exit 0)))
  (.seq (.block 1 (.seq (.ops [{dst:=some 15,op:=.mov (.s 9)},
    {dst:=some 16,op:=.mov (.s 9)},
    {dst:=some 17,op:=.idxA 4 1 (.s 3) (.s 16)},
    {dst:=some 18,op:=.load 1 false (.s 17)},
    {dst:=some 19,op:=.mov (.s 2)},
    {dst:=some 20,op:=.mov (.s 9)},
    {dst:=some 21,op:=.idxA 4 1 (.s 4) (.s 20)},
    {dst:=some 22,op:=.load 1 false (.s 21)},
    {dst:=some 23,op:=.bin .mul (.s 19) (.s 22)},
    {dst:=some 24,op:=.bin .add (.s 18) (.s 23)},
    {dst:=some 25,op:=.idxA 4 1 (.s 8) (.s 15)},
    {dst:=none,op:=.stor 1 (.s 25) (.s 24)}])
   (.seq (.ops [{dst:=some 26,op:=.mov (.s 9)},
    {dst:=some 27,op:=.idxA 4 1 (.s 8) (.s 26)},
    {dst:=some 28,op:=.load 1 false (.s 27)},
    {dst:=some 29,op:=.bin .lss (.s 28) (.c (.int .i64 (-3)))},
    {dst:=some 30,op:=.mov (.s 29)},
    {dst:=some 31,op:=.mov (.s 9),guard:=some (30,false)},
    {dst:=some 32,op:=.idxA 4 1 (.s 8) (.s 31),guard:=some (30,false)},
    {dst:=some 33,op:=.load 1 false (.s 32),guard:=some (30,false)},
    {dst:=some 34,op:=.bin .gtr (.s 33) (.c (.int .i64 3)),guard:=some (30,false)},
    {dst:=some 35,op:=.pick (.s 30) (.c (.bool true)) (.s 34)}])
   (.cond (.s 35)
    (.seq (.ops [{dst:=some 36,op:=.bld [(.int .i64 0),(.int .i64 0),(.int .i64 0),(.int .i64 0)] []},
     {dst:=none,op:=.stor 4 (.s 6) (.s 36)},
     {dst:=some 7,op:=.mov (.c (.bool false))}])
    (.ret))
    (.skip)))))
  (.ops [{dst:=some 13,op:=.mov (.s 9)},
   {dst:=some 14,op:=.bin .add (.s 13) (.c (.int .i64 1))},
   {dst:=some 9,op:=.mov (.s 14)}]))
def F_wagonpoolref17_Combine:PF:=
 .mk
  (.seq (.ops [{dst:=some 3,op:=.box (.s 0)},
    {dst:=some 4,op:=.box (.s 1)},
    {dst:=some 6,op:=.box (.c (.agg [(.int .i64 0),(.int .i64 0),(.int .i64 0),(.int .i64 0)]))},
    {dst:=some 7,op:=.mov (.c (.bool false))}])
   (.seq (.ops [{dst:=some 10,op:=.bld [(.int .i64 0),(.int .i64 0),(.int .i64 0),(.int .i64 0)] []},
    {dst:=some 8,op:=.box (.c (.agg [(.int .i64 0),(.int .i64 0),(.int .i64 0),(.int .i64 0)]))},
    {dst:=none,op:=.stor 4 (.s 8) (.s 10)}])
   (.seq (.seq (.ops [{dst:=some 9,op:=.mov (.c (.int .i64 0))}])
   (.block 0 (.loop [2,3,4,6,8,9] F_wagonpoolref17_Combine_L0)))
   (.seq (.ops [{dst:=some 37,op:=.load 4 true (.s 8)},
    {dst:=none,op:=.stor 4 (.s 6) (.s 37)},
    {dst:=some 7,op:=.mov (.c (.bool true))}])
   (.ret)))))
  [.cell 6 4 true,.tmp 7]
theorem tr_wagonpoolref17_Combine:trF Tryz.prog [] 63 [[2,3,4,6,8,9]]=some F_wagonpoolref17_Combine:=by kernel_rfl
def F_tparse_word:PF:=
 .mk
  (.seq (.ops [{dst:=some 2,op:=.mov (.c (.bool false))}])
   (.seq (.ops [{dst:=some 3,op:=.mov (.s 0)},
    {dst:=some 4,op:=.len true (.s 3)},
    {dst:=some 5,op:=.bin .leq (.s 4) (.c (.int .i64 32))},
    {dst:=some 6,op:=.mov (.s 5)},
    {dst:=some 7,op:=.mov (.s 0),guard:=some (6,true)},
    {dst:=some 8,op:=.bin .neq (.s 7) (.c (.str [])),guard:=some (6,true)},
    {dst:=some 9,op:=.pick (.s 6) (.s 8) (.c (.bool false))},
    {dst:=some 10,op:=.mov (.s 9)},
    {dst:=some 11,op:=.mov (.s 0),guard:=some (10,true)},
    {dst:=some 12,op:=.idx (.s 11) (.c (.int .i64 0)),guard:=some (10,true)},
    {dst:=some 13,op:=.bin .geq (.s 12) (.c (.int .u8 97)),guard:=some (10,true)},
    {dst:=some 14,op:=.pick (.s 10) (.s 13) (.c (.bool false))},
    {dst:=some 15,op:=.mov (.s 14)},
    {dst:=some 16,op:=.mov (.s 0),guard:=some (15,true)},
    {dst:=some 17,op:=.idx (.s 16) (.c (.int .i64 0)),guard:=some (15,true)},
    {dst:=some 18,op:=.bin .leq (.s 17) (.c (.int .u8 122)),guard:=some (15,true)},
    {dst:=some 19,op:=.pick (.s 15) (.s 18) (.c (.bool false))},
    {dst:=some 20,op:=.mov (.s 19)},
    {dst:=some 21,op:=.mov (.s 0),guard:=some (20,true)},
    {dst:=some 22,op:=.call 89 [(.s 21),(.c (.str [97,98,99,100,101,102,103,104,105,106,107,108,109,110,111,112,113,114,115,116,117,118,119,120,121,122,48,49,50,51,52,53,54,55,56,57]))],guard:=some (20,true)},
    {dst:=some 23,op:=.bin .eql (.s 22) (.c (.str [])),guard:=some (20,true)},
    {dst:=some 24,op:=.pick (.s 20) (.s 23) (.c (.bool false))},
    {dst:=some 2,op:=.mov (.s 24)}])
   (.ret)))
  [.tmp 2]
theorem tr_tparse_word:trF Tryz.prog [] 64 []=some F_tparse_word:=by kernel_rfl
def F_tparse_formed:PF:=
 .mk
  (.seq (.ops [{dst:=some 1,op:=.box (.s 0)},
    {dst:=some 2,op:=.mov (.c (.bool false))}])
   (.seq (.ops [{dst:=some 3,op:=.mov (.c (.int .i64 0))},
    {dst:=some 4,op:=.mov (.c (.int .i64 2))}])
   (.seq (.seq (.ops [{dst:=some 5,op:=.fld 0 (.s 1)},
    {dst:=some 6,op:=.load 1 false (.s 5)}])
   (.block 0 (.seq (.block 4 (.seq (.block 3 (.seq (.block 2 (.seq (.block 1 (.seq (.seq (.seq (.ops [{dst:=some 8,op:=.bin .eql (.s 6) (.c (.int .i64 1))},
         {dst:=some 7,op:=.mov (.s 8)}])
        (.cond (.s 7)
         (.exit 1)
         (.skip)))
        (.seq (.seq (.ops [{dst:=some 10,op:=.bin .eql (.s 6) (.c (.int .i64 2))},
         {dst:=some 9,op:=.mov (.s 10)}])
        (.cond (.s 9)
         (.exit 2)
         (.skip)))
        (.seq (.ops [{dst:=some 12,op:=.bin .eql (.s 6) (.c (.int .i64 11))},
         {dst:=some 11,op:=.mov (.s 12)}])
        (.cond (.s 11)
         (.exit 3)
         (.skip)))))
        (.exit 4)))
       (.seq (.ops [{dst:=some 3,op:=.mov (.c (.int .i64 1099511627776))},
        {dst:=some 4,op:=.mov (.c (.int .i64 0))}])
       (.exit 0))))
      (.seq (.ops [{dst:=some 3,op:=.mov (.c (.int .i64 15))},
       {dst:=some 4,op:=.mov (.c (.int .i64 0))}])
      (.exit 0))))
     (.ops [{dst:=some 4,op:=.mov (.c (.int .i64 4))}])))
    (.seq (.seq (.ops [{dst:=some 13,op:=.fld 0 (.s 1)},
     {dst:=some 14,op:=.load 1 false (.s 13)},
     {dst:=some 15,op:=.bin .lss (.s 14) (.c (.int .i64 1))},
     {dst:=some 16,op:=.mov (.s 15)},
     {dst:=some 17,op:=.fld 0 (.s 1),guard:=some (16,false)},
     {dst:=some 18,op:=.load 1 false (.s 17),guard:=some (16,false)},
     {dst:=some 19,op:=.bin .gtr (.s 18) (.c (.int .i64 11)),guard:=some (16,false)},
     {dst:=some 20,op:=.pick (.s 16) (.c (.bool true)) (.s 19)}])
    (.cond (.s 20)
     (.seq (.ops [{dst:=some 2,op:=.mov (.c (.bool false))}])
     (.ret))
     (.skip)))
    (.exit 0)))))
   (.seq (.seq (.ops [{dst:=some 21,op:=.fld 1 (.s 1)},
    {dst:=some 22,op:=.load 1 false (.s 21)},
    {dst:=some 23,op:=.bin .lss (.s 22) (.c (.int .i64 0))},
    {dst:=some 24,op:=.mov (.s 23)},
    {dst:=some 25,op:=.fld 1 (.s 1),guard:=some (24,false)},
    {dst:=some 26,op:=.load 1 false (.s 25),guard:=some (24,false)},
    {dst:=some 27,op:=.mov (.s 3),guard:=some (24,false)},
    {dst:=some 28,op:=.bin .gtr (.s 26) (.s 27),guard:=some (24,false)},
    {dst:=some 29,op:=.pick (.s 24) (.c (.bool true)) (.s 28)},
    {dst:=some 30,op:=.mov (.s 29)},
    {dst:=some 31,op:=.fld 6 (.s 1),guard:=some (30,false)},
    {dst:=some 32,op:=.load 1 false (.s 31),guard:=some (30,false)},
    {dst:=some 33,op:=.len false (.s 32),guard:=some (30,false)},
    {dst:=some 34,op:=.mov (.s 4),guard:=some (30,false)},
    {dst:=some 35,op:=.bin .neq (.s 33) (.s 34),guard:=some (30,false)},
    {dst:=some 36,op:=.pick (.s 30) (.c (.bool true)) (.s 35)},
    {dst:=some 37,op:=.mov (.s 36)},
    {dst:=some 38,op:=.fld 2 (.s 1),guard:=some (37,false)},
    {dst:=some 39,op:=.load 4 true (.s 38),guard:=some (37,false)},
    {dst:=some 40,op:=.call 90 [(.s 39)],guard:=some (37,false)},
    {dst:=some 41,op:=.un .not (.s 40),guard:=some (37,false)},
    {dst:=some 42,op:=.pick (.s 37) (.c (.bool true)) (.s 41)},
    {dst:=some 43,op:=.mov (.s 42)},
    {dst:=some 44,op:=.fld 0 (.s 1),guard:=some (43,false)},
    {dst:=some 45,op:=.load 1 false (.s 44),guard:=some (43,false)},
    {dst:=some 46,op:=.bin .neq (.s 45) (.c (.int .i64 1)),guard:=some (43,false)},
    {dst:=some 47,op:=.mov (.s 46),guard:=some (43,false)},
    {dst:=some 48,op:=.fld 2 (.s 1),guard:=some (47,true)},
    {dst:=some 49,op:=.load 4 true (.s 48),guard:=some (47,true)},
    {dst:=some 50,op:=.bld [(.int .i64 0),(.int .i64 0),(.int .i64 0),(.int .i64 0)] [],guard:=some (47,true)},
    {dst:=some 51,op:=.aeq [0,0,0,0] true (.s 49) (.s 50),guard:=some (47,true)},
    {dst:=some 52,op:=.pick (.s 47) (.s 51) (.c (.bool false)),guard:=some (43,false)},
    {dst:=some 53,op:=.pick (.s 43) (.c (.bool true)) (.s 52)}])
   (.cond (.s 53)
    (.seq (.ops [{dst:=some 2,op:=.mov (.c (.bool false))}])
    (.ret))
    (.skip)))
   (.seq (.ops [{dst:=some 54,op:=.fld 6 (.s 1)},
    {dst:=some 55,op:=.load 1 false (.s 54)},
    {dst:=some 56,op:=.call 91 [(.s 55),(.c (.clo 92 []))]},
    {dst:=some 57,op:=.un .not (.s 56)},
    {dst:=some 2,op:=.mov (.s 57)}])
   (.ret))))))
  [.tmp 2]
theorem tr_tparse_formed:trF Tryz.prog [] 65 []=some F_tparse_formed:=by kernel_rfl
def F_money_Add:PF:=
 .mk
  (.seq (.ops [{dst:=some 4,op:=.mov (.c (.int .i64 0))},
    {dst:=some 5,op:=.mov (.c (.int .i64 0))}])
   (.seq (.seq (.ops [{dst:=some 6,op:=.mov (.s 0)},
    {dst:=some 7,op:=.mov (.s 1)},
    {dst:=some 8,op:=.bslc 1 [(.s 6),(.s 7)]},
    {dst:=some 9,op:=.call 93 [(.s 8)]},
    {dst:=some 10,op:=.un .not (.s 9)}])
   (.cond (.s 10)
    (.seq (.ops [{dst:=some 4,op:=.mov (.c (.int .i64 0))},
     {dst:=some 5,op:=.mov (.c (.int .i64 3))}])
    (.ret))
    (.skip)))
   (.seq (.ops [{dst:=some 11,op:=.mov (.s 0)},
    {dst:=some 12,op:=.mov (.s 1)},
    {dst:=some 13,op:=.bin .add (.s 11) (.s 12)},
    {dst:=some 14,op:=.call 94 [(.s 13)]},
    {dst:=some 15,op:=.ext (.s 14) 0},
    {dst:=some 16,op:=.ext (.s 14) 1},
    {dst:=some 4,op:=.mov (.s 15)},
    {dst:=some 5,op:=.mov (.s 16)}])
   (.ret))))
  [.tmp 4,.tmp 5]
theorem tr_money_Add:trF Tryz.prog [] 68 []=some F_money_Add:=by kernel_rfl
def F_money_Sub:PF:=
 .mk
  (.seq (.ops [{dst:=some 4,op:=.mov (.c (.int .i64 0))},
    {dst:=some 5,op:=.mov (.c (.int .i64 0))}])
   (.seq (.seq (.ops [{dst:=some 6,op:=.mov (.s 0)},
    {dst:=some 7,op:=.mov (.s 1)},
    {dst:=some 8,op:=.bslc 1 [(.s 6),(.s 7)]},
    {dst:=some 9,op:=.call 93 [(.s 8)]},
    {dst:=some 10,op:=.un .not (.s 9)}])
   (.cond (.s 10)
    (.seq (.ops [{dst:=some 4,op:=.mov (.c (.int .i64 0))},
     {dst:=some 5,op:=.mov (.c (.int .i64 3))}])
    (.ret))
    (.skip)))
   (.seq (.ops [{dst:=some 11,op:=.mov (.s 0)},
    {dst:=some 12,op:=.mov (.s 1)},
    {dst:=some 13,op:=.bin .sub (.s 11) (.s 12)},
    {dst:=some 14,op:=.call 94 [(.s 13)]},
    {dst:=some 15,op:=.ext (.s 14) 0},
    {dst:=some 16,op:=.ext (.s 14) 1},
    {dst:=some 4,op:=.mov (.s 15)},
    {dst:=some 5,op:=.mov (.s 16)}])
   (.ret))))
  [.tmp 4,.tmp 5]
theorem tr_money_Sub:trF Tryz.prog [] 70 []=some F_money_Sub:=by kernel_rfl
def F_money_Mul:PF:=
 .mk
  (.seq (.ops [{dst:=some 4,op:=.mov (.c (.int .i64 0))},
    {dst:=some 5,op:=.mov (.c (.int .i64 0))}])
   (.seq (.seq (.ops [{dst:=some 8,op:=.mov (.s 0)},
    {dst:=some 9,op:=.mov (.s 1)},
    {dst:=some 10,op:=.bslc 1 [(.s 8),(.s 9)]},
    {dst:=some 11,op:=.call 93 [(.s 10)]},
    {dst:=some 12,op:=.un .not (.s 11)}])
   (.cond (.s 12)
    (.seq (.ops [{dst:=some 4,op:=.mov (.c (.int .i64 0))},
     {dst:=some 5,op:=.mov (.c (.int .i64 3))}])
    (.ret))
    (.skip)))
   (.seq (.seq (.ops [{dst:=some 14,op:=.mov (.s 0)},
    {dst:=some 15,op:=.call 96 [(.s 14)]},
    {dst:=some 16,op:=.mov (.s 1)},
    {dst:=some 17,op:=.call 96 [(.s 16)]},
    {dst:=some 18,op:=.call 95 [(.s 15),(.s 17)]},
    {dst:=some 13,op:=.mov (.s 18)},
    {dst:=some 19,op:=.ext (.s 13) 0},
    {dst:=some 20,op:=.ext (.s 13) 1},
    {dst:=some 6,op:=.mov (.s 19)},
    {dst:=some 7,op:=.mov (.s 20)}])
   (.seq (.ops [{dst:=some 21,op:=.mov (.s 6)},
    {dst:=some 22,op:=.bin .neq (.s 21) (.c (.int .u64 0))},
    {dst:=some 23,op:=.mov (.s 22)},
    {dst:=some 24,op:=.mov (.s 7),guard:=some (23,false)},
    {dst:=some 25,op:=.bin .gtr (.s 24) (.c (.int .u64 9007199254740992)),guard:=some (23,false)},
    {dst:=some 26,op:=.pick (.s 23) (.c (.bool true)) (.s 25)}])
   (.cond (.s 26)
    (.seq (.ops [{dst:=some 4,op:=.mov (.c (.int .i64 0))},
     {dst:=some 5,op:=.mov (.c (.int .i64 3))}])
    (.ret))
    (.skip))))
   (.seq (.ops [{dst:=some 27,op:=.mov (.s 0)},
    {dst:=some 28,op:=.mov (.s 1)},
    {dst:=some 29,op:=.bin .mul (.s 27) (.s 28)},
    {dst:=some 4,op:=.mov (.s 29)},
    {dst:=some 5,op:=.mov (.c (.int .i64 0))}])
   (.ret)))))
  [.tmp 4,.tmp 5]
theorem tr_money_Mul:trF Tryz.prog [] 71 []=some F_money_Mul:=by kernel_rfl
def F_tlex_letter:PF:=
 .mk
  (.seq (.ops [{dst:=some 2,op:=.mov (.c (.bool false))}])
   (.seq (.ops [{dst:=some 3,op:=.mov (.s 0)},
    {dst:=some 4,op:=.bin .leq (.c (.int .u8 97)) (.s 3)},
    {dst:=some 5,op:=.mov (.s 4)},
    {dst:=some 6,op:=.mov (.s 0),guard:=some (5,true)},
    {dst:=some 7,op:=.bin .leq (.s 6) (.c (.int .u8 122)),guard:=some (5,true)},
    {dst:=some 8,op:=.pick (.s 5) (.s 7) (.c (.bool false))},
    {dst:=some 2,op:=.mov (.s 8)}])
   (.ret)))
  [.tmp 2]
theorem tr_tlex_letter:trF Tryz.prog [] 74 []=some F_tlex_letter:=by kernel_rfl
def F_tlex_span_L0:PC:=
 .seq (.ops [{dst:=some 9,op:=.bin .lss (.s 8) (.s 7)}])
  (.seq (.cond (.s 9)
   (.skip)
   (.exit 0))
  (.seq (.block 1 (.seq (.ops [{dst:=some 10,op:=.mov (.s 8)},
    {dst:=some 5,op:=.mov (.s 10)}])
   (.seq (.ops [{dst:=some 11,op:=.mov (.s 1)},
    {dst:=some 12,op:=.mov (.s 0)},
    {dst:=some 13,op:=.mov (.s 5)},
    {dst:=some 14,op:=.idx (.s 12) (.s 13)},
    {dst:=some 15,op:=.callv (.s 11) [(.s 14)]},
    {dst:=some 16,op:=.un .not (.s 15)}])
   (.cond (.s 16)
    (.seq (.ops [{dst:=some 17,op:=.mov (.s 5)},
     {dst:=some 4,op:=.mov (.s 17)}])
    (.ret))
    (.skip)))))
  (.ops [{dst:=some 18,op:=.bin .add (.s 8) (.c (.int .i64 1))},
   {dst:=some 8,op:=.mov (.s 18)}])))
def F_tlex_span:PF:=
 .mk
  (.seq (.ops [{dst:=some 4,op:=.mov (.c (.int .i64 0))}])
   (.seq (.seq (.ops [{dst:=some 6,op:=.mov (.s 0)},
    {dst:=some 7,op:=.len true (.s 6)},
    {dst:=some 8,op:=.mov (.c (.int .i64 0))}])
   (.block 0 (.loop [0,1,7,8] F_tlex_span_L0)))
   (.seq (.ops [{dst:=some 19,op:=.mov (.s 0)},
    {dst:=some 20,op:=.len true (.s 19)},
    {dst:=some 4,op:=.mov (.s 20)}])
   (.ret))))
  [.tmp 4]
theorem tr_tlex_span:trF Tryz.prog [] 75 [[0,1,7,8]]=some F_tlex_span:=by kernel_rfl
def F_tlex_token_1:PF:=
 .mk
  (.seq (.ops [{dst:=some 2,op:=.mov (.c (.bool false))}])
   (.seq (.ops [{dst:=some 3,op:=.mov (.s 0)},
    {dst:=some 4,op:=.call 74 [(.s 3)]},
    {dst:=some 5,op:=.mov (.s 4)},
    {dst:=some 6,op:=.mov (.s 0),guard:=some (5,false)},
    {dst:=some 7,op:=.call 77 [(.s 6)],guard:=some (5,false)},
    {dst:=some 8,op:=.pick (.s 5) (.c (.bool true)) (.s 7)},
    {dst:=some 2,op:=.mov (.s 8)}])
   (.ret)))
  [.tmp 2]
theorem tr_tlex_token_1:trF Tryz.prog [] 76 []=some F_tlex_token_1:=by kernel_rfl
def F_tlex_digit:PF:=
 .mk
  (.seq (.ops [{dst:=some 2,op:=.mov (.c (.bool false))}])
   (.seq (.ops [{dst:=some 3,op:=.mov (.s 0)},
    {dst:=some 4,op:=.bin .leq (.c (.int .u8 48)) (.s 3)},
    {dst:=some 5,op:=.mov (.s 4)},
    {dst:=some 6,op:=.mov (.s 0),guard:=some (5,true)},
    {dst:=some 7,op:=.bin .leq (.s 6) (.c (.int .u8 57)),guard:=some (5,true)},
    {dst:=some 8,op:=.pick (.s 5) (.s 7) (.c (.bool false))},
    {dst:=some 2,op:=.mov (.s 8)}])
   (.ret)))
  [.tmp 2]
theorem tr_tlex_digit:trF Tryz.prog [] 77 []=some F_tlex_digit:=by kernel_rfl
def F_tlex_number_L0:PC:=
 .seq (.ops [{dst:=some 17,op:=.bin .lss (.s 16) (.s 15)}])
  (.seq (.cond (.s 17)
   (.skip)
   (.exit 0))
  (.seq (.block 1 (.seq (.ops [{dst:=some 18,op:=.mov (.s 16)},
    {dst:=some 5,op:=.mov (.s 18)}])
   (.seq (.ops [{dst:=some 19,op:=.mov (.s 4)},
    {dst:=some 20,op:=.bin .mul (.c (.int .i64 10)) (.s 19)},
    {dst:=some 21,op:=.mov (.s 0)},
    {dst:=some 22,op:=.mov (.s 5)},
    {dst:=some 23,op:=.idx (.s 21) (.s 22)},
    {dst:=some 24,op:=.bin .sub (.s 23) (.c (.int .u8 48))},
    {dst:=some 25,op:=.conv (.int .i64) (.s 24)},
    {dst:=some 26,op:=.bin .add (.s 20) (.s 25)},
    {dst:=some 4,op:=.mov (.s 26)}])
   (.seq (.ops [{dst:=some 27,op:=.mov (.s 4)},
    {dst:=some 28,op:=.bin .gtr (.s 27) (.c (.int .i64 1099511627776))}])
   (.cond (.s 28)
    (.seq (.ops [{dst:=some 2,op:=.mov (.c (.int .i64 0))},
     {dst:=some 3,op:=.mov (.c (.int .i64 2))}])
    (.ret))
    (.skip))))))
  (.ops [{dst:=some 29,op:=.bin .add (.s 16) (.c (.int .i64 1))},
   {dst:=some 16,op:=.mov (.s 29)}])))
def F_tlex_number:PF:=
 .mk
  (.seq (.ops [{dst:=some 2,op:=.mov (.c (.int .i64 0))},
    {dst:=some 3,op:=.mov (.c (.int .i64 0))}])
   (.seq (.seq (.ops [{dst:=some 6,op:=.mov (.s 0)},
    {dst:=some 7,op:=.len true (.s 6)},
    {dst:=some 8,op:=.bin .gtr (.s 7) (.c (.int .i64 1))},
    {dst:=some 9,op:=.mov (.s 8)},
    {dst:=some 10,op:=.mov (.s 0),guard:=some (9,true)},
    {dst:=some 11,op:=.idx (.s 10) (.c (.int .i64 0)),guard:=some (9,true)},
    {dst:=some 12,op:=.bin .eql (.s 11) (.c (.int .u8 48)),guard:=some (9,true)},
    {dst:=some 13,op:=.pick (.s 9) (.s 12) (.c (.bool false))}])
   (.cond (.s 13)
    (.seq (.ops [{dst:=some 2,op:=.mov (.c (.int .i64 0))},
     {dst:=some 3,op:=.mov (.c (.int .i64 150))}])
    (.ret))
    (.skip)))
   (.seq (.ops [{dst:=some 4,op:=.mov (.c (.int .i64 0))}])
   (.seq (.seq (.ops [{dst:=some 14,op:=.mov (.s 0)},
    {dst:=some 15,op:=.len true (.s 14)},
    {dst:=some 16,op:=.mov (.c (.int .i64 0))}])
   (.block 0 (.loop [0,4,15,16] F_tlex_number_L0)))
   (.seq (.ops [{dst:=some 30,op:=.mov (.s 4)},
    {dst:=some 2,op:=.mov (.s 30)},
    {dst:=some 3,op:=.mov (.c (.int .i64 0))}])
   (.ret))))))
  [.tmp 2,.tmp 3]
theorem tr_tlex_number:trF Tryz.prog [] 78 [[0,4,15,16]]=some F_tlex_number:=by kernel_rfl
def F_strings_HasPrefix:PF:=
 .mk
  (.seq (.ops [{dst:=some 4,op:=.mov (.c (.bool false))}])
   (.seq (.ops [{dst:=some 5,op:=.mov (.s 0)},
    {dst:=some 6,op:=.mov (.s 1)},
    {dst:=some 7,op:=.call 99 [(.s 5),(.s 6)]},
    {dst:=some 4,op:=.mov (.s 7)}])
   (.ret)))
  [.tmp 4]
theorem tr_strings_HasPrefix:trF Tryz.prog [] 79 []=some F_strings_HasPrefix:=by kernel_rfl
def F_slices_Index_string_string_L0:PC:=
 .seq (.ops [{dst:=some 9,op:=.bin .lss (.s 8) (.s 7)}])
  (.seq (.cond (.s 9)
   (.skip)
   (.exit 0))
  (.seq (.block 1 (.seq (.ops [{dst:=some 10,op:=.mov (.s 8)},
    {dst:=some 5,op:=.mov (.s 10)}])
   (.seq (.ops [{dst:=some 11,op:=.mov (.s 1)},
    {dst:=some 12,op:=.mov (.s 0)},
    {dst:=some 13,op:=.mov (.s 5)},
    {dst:=some 14,op:=.idxS 1 (.s 12) (.s 13)},
    {dst:=some 15,op:=.load 1 false (.s 14)},
    {dst:=some 16,op:=.bin .eql (.s 11) (.s 15)}])
   (.cond (.s 16)
    (.seq (.ops [{dst:=some 17,op:=.mov (.s 5)},
     {dst:=some 4,op:=.mov (.s 17)}])
    (.ret))
    (.skip)))))
  (.ops [{dst:=some 18,op:=.bin .add (.s 8) (.c (.int .i64 1))},
   {dst:=some 8,op:=.mov (.s 18)}])))
def F_slices_Index_string_string:PF:=
 .mk
  (.seq (.ops [{dst:=some 4,op:=.mov (.c (.int .i64 0))}])
   (.seq (.seq (.ops [{dst:=some 6,op:=.mov (.s 0)},
    {dst:=some 7,op:=.len false (.s 6)},
    {dst:=some 8,op:=.mov (.c (.int .i64 0))}])
   (.block 0 (.loop [0,1,7,8] F_slices_Index_string_string_L0)))
   (.seq (.ops [{dst:=some 4,op:=.mov (.c (.int .i64 (-1)))}])
   (.ret))))
  [.tmp 4]
theorem tr_slices_Index_string_string:trF Tryz.prog [] 80 [[0,1,7,8]]=some F_slices_Index_string_string:=by kernel_rfl
def F_strings_Fields_L0:PC:=
 .seq (.seq (.ops [{dst:=some 13,op:=.mov (.s 6)},
   {dst:=some 14,op:=.mov (.s 0)},
   {dst:=some 15,op:=.len true (.s 14)},
   {dst:=some 16,op:=.bin .lss (.s 13) (.s 15)}])
  (.cond (.s 16)
   (.skip)
   (.exit 0)))
  (.seq (.block 1 (.seq (.ops [{dst:=some 19,op:=.mov (.s 0)},
    {dst:=some 20,op:=.mov (.s 6)},
    {dst:=some 21,op:=.idx (.s 19) (.s 20)},
    {dst:=some 7,op:=.mov (.s 21)}])
   (.seq (.ops [{dst:=some 22,op:=.mov (.s 5)},
    {dst:=some 23,op:=.mov (.s 7)},
    {dst:=some 24,op:=.bin .or (.s 22) (.s 23)},
    {dst:=some 5,op:=.mov (.s 24)}])
   (.seq (.ops [{dst:=some 25,op:=.mov (.s 7)},
    {dst:=some 26,op:=.idxA 256 1 (.g 2) (.s 25)},
    {dst:=some 27,op:=.load 1 false (.s 26)},
    {dst:=some 28,op:=.conv (.int .i64) (.s 27)},
    {dst:=some 8,op:=.mov (.s 28)}])
   (.seq (.ops [{dst:=some 29,op:=.mov (.s 3)},
    {dst:=some 30,op:=.mov (.s 4)},
    {dst:=some 31,op:=.mov (.s 8)},
    {dst:=some 32,op:=.un .xor (.s 31)},
    {dst:=some 33,op:=.bin .and (.s 30) (.s 32)},
    {dst:=some 34,op:=.bin .add (.s 29) (.s 33)},
    {dst:=some 3,op:=.mov (.s 34)}])
   (.ops [{dst:=some 35,op:=.mov (.s 8)},
    {dst:=some 4,op:=.mov (.s 35)}]))))))
  (.ops [{dst:=some 17,op:=.mov (.s 6)},
   {dst:=some 18,op:=.bin .add (.s 17) (.c (.int .i64 1))},
   {dst:=some 6,op:=.mov (.s 18)}]))
def F_strings_Fields_L1:PC:=
 .seq (.seq (.ops [{dst:=some 42,op:=.mov (.s 12)},
   {dst:=some 43,op:=.mov (.s 0)},
   {dst:=some 44,op:=.len true (.s 43)},
   {dst:=some 45,op:=.bin .lss (.s 42) (.s 44)},
   {dst:=some 46,op:=.mov (.s 45)},
   {dst:=some 47,op:=.mov (.s 0),guard:=some (46,true)},
   {dst:=some 48,op:=.mov (.s 12),guard:=some (46,true)},
   {dst:=some 49,op:=.idx (.s 47) (.s 48),guard:=some (46,true)},
   {dst:=some 50,op:=.idxA 256 1 (.g 2) (.s 49),guard:=some (46,true)},
   {dst:=some 51,op:=.load 1 false (.s 50),guard:=some (46,true)},
   {dst:=some 52,op:=.bin .neq (.s 51) (.c (.int .u8 0)),guard:=some (46,true)},
   {dst:=some 53,op:=.pick (.s 46) (.s 52) (.c (.bool false))}])
  (.cond (.s 53)
   (.skip)
   (.exit 2)))
  (.block 3 (.ops [{dst:=some 54,op:=.mov (.s 12)},
    {dst:=some 55,op:=.bin .add (.s 54) (.c (.int .i64 1))},
    {dst:=some 12,op:=.mov (.s 55)}]))
def F_strings_Fields_L2:PC:=
 .seq (.seq (.ops [{dst:=some 80,op:=.mov (.s 12)},
   {dst:=some 81,op:=.mov (.s 0)},
   {dst:=some 82,op:=.len true (.s 81)},
   {dst:=some 83,op:=.bin .lss (.s 80) (.s 82)},
   {dst:=some 84,op:=.mov (.s 83)},
   {dst:=some 85,op:=.mov (.s 0),guard:=some (84,true)},
   {dst:=some 86,op:=.mov (.s 12),guard:=some (84,true)},
   {dst:=some 87,op:=.idx (.s 85) (.s 86),guard:=some (84,true)},
   {dst:=some 88,op:=.idxA 256 1 (.g 2) (.s 87),guard:=some (84,true)},
   {dst:=some 89,op:=.load 1 false (.s 88),guard:=some (84,true)},
   {dst:=some 90,op:=.bin .neq (.s 89) (.c (.int .u8 0)),guard:=some (84,true)},
   {dst:=some 91,op:=.pick (.s 84) (.s 90) (.c (.bool false))}])
  (.cond (.s 91)
   (.skip)
   (.exit 6)))
  (.block 7 (.ops [{dst:=some 92,op:=.mov (.s 12)},
    {dst:=some 93,op:=.bin .add (.s 92) (.c (.int .i64 1))},
    {dst:=some 12,op:=.mov (.s 93)}]))
def F_strings_Fields_L3:PC:=
 .seq (.seq (.ops [{dst:=some 57,op:=.mov (.s 12)},
   {dst:=some 58,op:=.mov (.s 0)},
   {dst:=some 59,op:=.len true (.s 58)},
   {dst:=some 60,op:=.bin .lss (.s 57) (.s 59)}])
  (.cond (.s 60)
   (.skip)
   (.exit 4)))
  (.block 5 (.seq (.seq (.ops [{dst:=some 61,op:=.mov (.s 0)},
    {dst:=some 62,op:=.mov (.s 12)},
    {dst:=some 63,op:=.idx (.s 61) (.s 62)},
    {dst:=some 64,op:=.idxA 256 1 (.g 2) (.s 63)},
    {dst:=some 65,op:=.load 1 false (.s 64)},
    {dst:=some 66,op:=.bin .eql (.s 65) (.c (.int .u8 0))}])
   (.cond (.s 66)
    (.seq (.ops [{dst:=some 67,op:=.mov (.s 12)},
     {dst:=some 68,op:=.bin .add (.s 67) (.c (.int .i64 1))},
     {dst:=some 12,op:=.mov (.s 68)}])
    (.exit 5))
    (.skip)))
   (.seq (.ops [{dst:=some 69,op:=.mov (.s 9)},
    {dst:=some 70,op:=.mov (.s 10)},
    {dst:=some 71,op:=.mov (.s 0)},
    {dst:=some 72,op:=.mov (.s 11)},
    {dst:=some 73,op:=.mov (.s 12)},
    {dst:=some 74,op:=.slice 0 (.s 71) (some (.s 72)) (some (.s 73)) none},
    {dst:=some 75,op:=.idxS 1 (.s 69) (.s 70)},
    {dst:=none,op:=.stor 1 (.s 75) (.s 74)}])
   (.seq (.ops [{dst:=some 76,op:=.mov (.s 10)},
    {dst:=some 77,op:=.bin .add (.s 76) (.c (.int .i64 1))},
    {dst:=some 10,op:=.mov (.s 77)}])
   (.seq (.ops [{dst:=some 78,op:=.mov (.s 12)},
    {dst:=some 79,op:=.bin .add (.s 78) (.c (.int .i64 1))},
    {dst:=some 12,op:=.mov (.s 79)}])
   (.seq (.block 6 (.loop [0,9,10,12] F_strings_Fields_L2))
   (.ops [{dst:=some 94,op:=.mov (.s 12)},
    {dst:=some 11,op:=.mov (.s 94)}])))))))
def F_strings_Fields:PF:=
 .mk
  (.seq (.ops [{dst:=some 2,op:=.mov (.c (.slc 0 [] true))}])
   (.seq (.ops [{dst:=some 3,op:=.mov (.c (.int .i64 0))}])
   (.seq (.ops [{dst:=some 4,op:=.mov (.c (.int .i64 1))}])
   (.seq (.ops [{dst:=some 5,op:=.mov (.c (.int .u8 0))}])
   (.seq (.seq (.ops [{dst:=some 6,op:=.mov (.c (.int .i64 0))}])
   (.block 0 (.loop [0,3,4,5,6] F_strings_Fields_L0)))
   (.seq (.seq (.ops [{dst:=some 36,op:=.mov (.s 5)},
    {dst:=some 37,op:=.bin .geq (.s 36) (.c (.int .u8 128))}])
   (.cond (.s 37)
    (.seq (.ops [{dst:=some 38,op:=.mov (.s 0)},
     {dst:=some 39,op:=.call 100 [(.s 38),(.c (.clo 101 []))]},
     {dst:=some 2,op:=.mov (.s 39)}])
    (.ret))
    (.skip)))
   (.seq (.ops [{dst:=some 40,op:=.mov (.s 3)},
    {dst:=some 41,op:=.mkslc 1 16 (.str []) (.s 40) (.s 40)},
    {dst:=some 9,op:=.mov (.s 41)}])
   (.seq (.ops [{dst:=some 10,op:=.mov (.c (.int .i64 0))}])
   (.seq (.ops [{dst:=some 11,op:=.mov (.c (.int .i64 0))}])
   (.seq (.ops [{dst:=some 12,op:=.mov (.c (.int .i64 0))}])
   (.seq (.block 2 (.loop [0,9,10,12] F_strings_Fields_L1))
   (.seq (.ops [{dst:=some 56,op:=.mov (.s 12)},
    {dst:=some 11,op:=.mov (.s 56)}])
   (.seq (.block 4 (.loop [0,9,10,11,12] F_strings_Fields_L3))
   (.seq (.seq (.ops [{dst:=some 95,op:=.mov (.s 11)},
    {dst:=some 96,op:=.mov (.s 0)},
    {dst:=some 97,op:=.len true (.s 96)},
    {dst:=some 98,op:=.bin .lss (.s 95) (.s 97)}])
   (.cond (.s 98)
    (.ops [{dst:=some 99,op:=.mov (.s 9)},
     {dst:=some 100,op:=.mov (.s 10)},
     {dst:=some 101,op:=.mov (.s 0)},
     {dst:=some 102,op:=.mov (.s 11)},
     {dst:=some 103,op:=.slice 0 (.s 101) (some (.s 102)) none none},
     {dst:=some 104,op:=.idxS 1 (.s 99) (.s 100)},
     {dst:=none,op:=.stor 1 (.s 104) (.s 103)}])
    (.skip)))
   (.seq (.ops [{dst:=some 105,op:=.mov (.s 9)},
    {dst:=some 2,op:=.mov (.s 105)}])
   (.ret))))))))))))))))
  [.tmp 2]
theorem tr_strings_Fields:trF Tryz.prog [] 81 [[0,3,4,5,6],[0,9,10,12],[0,9,10,11,12],[0,9,10,12]]=some F_strings_Fields:=by kernel_rfl
def F_tparse_writable_L0:PC:=
 .seq (.ops [{dst:=some 9,op:=.bin .lss (.s 8) (.c (.int .i64 4))}])
  (.seq (.cond (.s 9)
   (.skip)
   (.exit 0))
  (.seq (.block 1 (.seq (.ops [{dst:=some 10,op:=.idxV 4 1 false (.s 7) (.s 8)},
    {dst:=some 5,op:=.mov (.s 10)}])
   (.ops [{dst:=some 11,op:=.mov (.s 3)},
    {dst:=some 12,op:=.mov (.s 5)},
    {dst:=some 13,op:=.mapget 2 [0] false (.int .i64 0) (.s 11) (.s 12)},
    {dst:=some 14,op:=.bin .add (.s 13) (.c (.int .i64 1))},
    {dst:=none,op:=.mapup 2 [0] (.s 11) (.s 12) (.s 14)}])))
  (.ops [{dst:=some 15,op:=.bin .add (.s 8) (.c (.int .i64 1))},
   {dst:=some 8,op:=.mov (.s 15)}])))
def F_tparse_writable:PF:=
 .mk
  (.seq (.ops [{dst:=some 1,op:=.box (.s 0)},
    {dst:=some 2,op:=.mov (.c (.bool false))}])
   (.seq (.ops [{dst:=some 6,op:=.mkmap 2},
    {dst:=some 3,op:=.mov (.s 6)}])
   (.seq (.seq (.ops [{dst:=some 7,op:=.load 4 true (.s 1)},
    {dst:=some 8,op:=.mov (.c (.int .i64 0))}])
   (.block 0 (.loop [3,7,8] F_tparse_writable_L0)))
   (.seq (.ops [{dst:=some 16,op:=.mov (.s 3)},
    {dst:=some 17,op:=.mapget 2 [0] false (.int .i64 0) (.s 16) (.c (.int .i64 0))},
    {dst:=some 18,op:=.mov (.s 3)},
    {dst:=some 19,op:=.mapget 2 [0] false (.int .i64 0) (.s 18) (.c (.int .i64 1))},
    {dst:=some 20,op:=.bin .add (.s 17) (.s 19)},
    {dst:=some 21,op:=.mov (.s 3)},
    {dst:=some 22,op:=.mapget 2 [0] false (.int .i64 0) (.s 21) (.c (.int .i64 (-1)))},
    {dst:=some 23,op:=.bin .add (.s 20) (.s 22)},
    {dst:=some 24,op:=.bin .eql (.s 23) (.c (.int .i64 4))},
    {dst:=some 25,op:=.mov (.s 24)},
    {dst:=some 26,op:=.mov (.s 3),guard:=some (25,true)},
    {dst:=some 27,op:=.mapget 2 [0] false (.int .i64 0) (.s 26) (.c (.int .i64 1)),guard:=some (25,true)},
    {dst:=some 28,op:=.bin .leq (.s 27) (.c (.int .i64 1)),guard:=some (25,true)},
    {dst:=some 29,op:=.pick (.s 25) (.s 28) (.c (.bool false))},
    {dst:=some 30,op:=.mov (.s 29)},
    {dst:=some 31,op:=.mov (.s 3),guard:=some (30,true)},
    {dst:=some 32,op:=.mapget 2 [0] false (.int .i64 0) (.s 31) (.c (.int .i64 (-1))),guard:=some (30,true)},
    {dst:=some 33,op:=.bin .leq (.s 32) (.c (.int .i64 1)),guard:=some (30,true)},
    {dst:=some 34,op:=.pick (.s 30) (.s 33) (.c (.bool false))},
    {dst:=some 2,op:=.mov (.s 34)}])
   (.ret)))))
  [.tmp 2]
theorem tr_tparse_writable:trF Tryz.prog [] 90 [[3,7,8]]=some F_tparse_writable:=by kernel_rfl
def F_slices_ContainsFunc_api_Expr_api_Expr:PF:=
 .mk
  (.seq (.ops [{dst:=some 4,op:=.mov (.c (.bool false))}])
   (.seq (.ops [{dst:=some 5,op:=.mov (.s 0)},
    {dst:=some 6,op:=.mov (.s 1)},
    {dst:=some 7,op:=.call 111 [(.s 5),(.s 6)]},
    {dst:=some 8,op:=.bin .geq (.s 7) (.c (.int .i64 0))},
    {dst:=some 4,op:=.mov (.s 8)}])
   (.ret)))
  [.tmp 4]
theorem tr_slices_ContainsFunc_api_Expr_api_Expr:trF Tryz.prog [] 91 []=some F_slices_ContainsFunc_api_Expr_api_Expr:=by kernel_rfl
def F_tparse_formed_1:PF:=
 .mk
  (.seq (.ops [{dst:=some 1,op:=.box (.s 0)},
    {dst:=some 2,op:=.mov (.c (.bool false))}])
   (.seq (.ops [{dst:=some 3,op:=.load 7 true (.s 1)},
    {dst:=some 4,op:=.call 65 [(.s 3)]},
    {dst:=some 5,op:=.un .not (.s 4)},
    {dst:=some 2,op:=.mov (.s 5)}])
   (.ret)))
  [.tmp 2]
theorem tr_tparse_formed_1:trF Tryz.prog [] 92 []=some F_tparse_formed_1:=by kernel_rfl
def F_money_in_L0:PC:=
 .seq (.ops [{dst:=some 8,op:=.bin .lss (.s 7) (.s 6)}])
  (.seq (.cond (.s 8)
   (.skip)
   (.exit 0))
  (.seq (.block 1 (.seq (.ops [{dst:=some 9,op:=.idxS 1 (.s 5) (.s 7)},
    {dst:=some 10,op:=.load 1 false (.s 9)},
    {dst:=some 4,op:=.mov (.s 10)}])
   (.seq (.ops [{dst:=some 11,op:=.mov (.s 4)},
    {dst:=some 12,op:=.bin .lss (.s 11) (.c (.int .i64 (-9007199254740992)))},
    {dst:=some 13,op:=.mov (.s 12)},
    {dst:=some 14,op:=.mov (.s 4),guard:=some (13,false)},
    {dst:=some 15,op:=.bin .gtr (.s 14) (.c (.int .i64 9007199254740992)),guard:=some (13,false)},
    {dst:=some 16,op:=.pick (.s 13) (.c (.bool true)) (.s 15)}])
   (.cond (.s 16)
    (.seq (.ops [{dst:=some 2,op:=.mov (.c (.bool false))}])
    (.ret))
    (.skip)))))
  (.ops [{dst:=some 17,op:=.bin .add (.s 7) (.c (.int .i64 1))},
   {dst:=some 7,op:=.mov (.s 17)}])))
def F_money_in:PF:=
 .mk
  (.seq (.ops [{dst:=some 2,op:=.mov (.c (.bool false))}])
   (.seq (.seq (.ops [{dst:=some 5,op:=.mov (.s 0)},
    {dst:=some 6,op:=.len false (.s 5)},
    {dst:=some 7,op:=.mov (.c (.int .i64 0))}])
   (.block 0 (.loop [5,6,7] F_money_in_L0)))
   (.seq (.ops [{dst:=some 2,op:=.mov (.c (.bool true))}])
   (.ret))))
  [.tmp 2]
theorem tr_money_in:trF Tryz.prog [] 93 [[5,6,7]]=some F_money_in:=by kernel_rfl
def F_money_ranged:PF:=
 .mk
  (.seq (.ops [{dst:=some 2,op:=.mov (.c (.int .i64 0))},
    {dst:=some 3,op:=.mov (.c (.int .i64 0))}])
   (.seq (.seq (.ops [{dst:=some 4,op:=.mov (.s 0)},
    {dst:=some 5,op:=.bslc 1 [(.s 4)]},
    {dst:=some 6,op:=.call 93 [(.s 5)]},
    {dst:=some 7,op:=.un .not (.s 6)}])
   (.cond (.s 7)
    (.seq (.ops [{dst:=some 2,op:=.mov (.c (.int .i64 0))},
     {dst:=some 3,op:=.mov (.c (.int .i64 3))}])
    (.ret))
    (.skip)))
   (.seq (.ops [{dst:=some 8,op:=.mov (.s 0)},
    {dst:=some 2,op:=.mov (.s 8)},
    {dst:=some 3,op:=.mov (.c (.int .i64 0))}])
   (.ret))))
  [.tmp 2,.tmp 3]
theorem tr_money_ranged:trF Tryz.prog [] 94 []=some F_money_ranged:=by kernel_rfl
def F_math_bits_Mul64:PF:=
 .mk
  (.seq (.ops [{dst:=some 4,op:=.mov (.c (.int .u64 0))},
    {dst:=some 5,op:=.mov (.c (.int .u64 0))}])
   (.seq (.ops [{dst:=some 14,op:=.mov (.s 0)},
    {dst:=some 15,op:=.bin .and (.s 14) (.c (.int .u64 4294967295))},
    {dst:=some 6,op:=.mov (.s 15)}])
   (.seq (.ops [{dst:=some 16,op:=.mov (.s 0)},
    {dst:=some 17,op:=.bin .shr (.s 16) (.c (.int .u64 32))},
    {dst:=some 7,op:=.mov (.s 17)}])
   (.seq (.ops [{dst:=some 18,op:=.mov (.s 1)},
    {dst:=some 19,op:=.bin .and (.s 18) (.c (.int .u64 4294967295))},
    {dst:=some 8,op:=.mov (.s 19)}])
   (.seq (.ops [{dst:=some 20,op:=.mov (.s 1)},
    {dst:=some 21,op:=.bin .shr (.s 20) (.c (.int .u64 32))},
    {dst:=some 9,op:=.mov (.s 21)}])
   (.seq (.ops [{dst:=some 22,op:=.mov (.s 6)},
    {dst:=some 23,op:=.mov (.s 8)},
    {dst:=some 24,op:=.bin .mul (.s 22) (.s 23)},
    {dst:=some 10,op:=.mov (.s 24)}])
   (.seq (.ops [{dst:=some 25,op:=.mov (.s 7)},
    {dst:=some 26,op:=.mov (.s 8)},
    {dst:=some 27,op:=.bin .mul (.s 25) (.s 26)},
    {dst:=some 28,op:=.mov (.s 10)},
    {dst:=some 29,op:=.bin .shr (.s 28) (.c (.int .u64 32))},
    {dst:=some 30,op:=.bin .add (.s 27) (.s 29)},
    {dst:=some 11,op:=.mov (.s 30)}])
   (.seq (.ops [{dst:=some 31,op:=.mov (.s 11)},
    {dst:=some 32,op:=.bin .and (.s 31) (.c (.int .u64 4294967295))},
    {dst:=some 12,op:=.mov (.s 32)}])
   (.seq (.ops [{dst:=some 33,op:=.mov (.s 11)},
    {dst:=some 34,op:=.bin .shr (.s 33) (.c (.int .u64 32))},
    {dst:=some 13,op:=.mov (.s 34)}])
   (.seq (.ops [{dst:=some 35,op:=.mov (.s 12)},
    {dst:=some 36,op:=.mov (.s 6)},
    {dst:=some 37,op:=.mov (.s 9)},
    {dst:=some 38,op:=.bin .mul (.s 36) (.s 37)},
    {dst:=some 39,op:=.bin .add (.s 35) (.s 38)},
    {dst:=some 12,op:=.mov (.s 39)}])
   (.seq (.ops [{dst:=some 40,op:=.mov (.s 7)},
    {dst:=some 41,op:=.mov (.s 9)},
    {dst:=some 42,op:=.bin .mul (.s 40) (.s 41)},
    {dst:=some 43,op:=.mov (.s 13)},
    {dst:=some 44,op:=.bin .add (.s 42) (.s 43)},
    {dst:=some 45,op:=.mov (.s 12)},
    {dst:=some 46,op:=.bin .shr (.s 45) (.c (.int .u64 32))},
    {dst:=some 47,op:=.bin .add (.s 44) (.s 46)},
    {dst:=some 4,op:=.mov (.s 47)}])
   (.seq (.ops [{dst:=some 48,op:=.mov (.s 0)},
    {dst:=some 49,op:=.mov (.s 1)},
    {dst:=some 50,op:=.bin .mul (.s 48) (.s 49)},
    {dst:=some 5,op:=.mov (.s 50)}])
   (.ret)))))))))))))
  [.tmp 4,.tmp 5]
theorem tr_math_bits_Mul64:trF Tryz.prog [] 95 []=some F_math_bits_Mul64:=by kernel_rfl
def F_money_abs:PF:=
 .mk
  (.seq (.ops [{dst:=some 2,op:=.mov (.c (.int .u64 0))}])
   (.seq (.seq (.ops [{dst:=some 3,op:=.mov (.s 0)},
    {dst:=some 4,op:=.bin .lss (.s 3) (.c (.int .i64 0))}])
   (.cond (.s 4)
    (.seq (.ops [{dst:=some 5,op:=.mov (.s 0)},
     {dst:=some 6,op:=.conv (.int .u64) (.s 5)},
     {dst:=some 7,op:=.un .neg (.s 6)},
     {dst:=some 2,op:=.mov (.s 7)}])
    (.ret))
    (.skip)))
   (.seq (.ops [{dst:=some 8,op:=.mov (.s 0)},
    {dst:=some 9,op:=.conv (.int .u64) (.s 8)},
    {dst:=some 2,op:=.mov (.s 9)}])
   (.ret))))
  [.tmp 2]
theorem tr_money_abs:trF Tryz.prog [] 96 []=some F_money_abs:=by kernel_rfl
def F_money_Div:PF:=
 .mk
  (.seq (.ops [{dst:=some 6,op:=.mov (.c (.int .i64 0))},
    {dst:=some 7,op:=.mov (.c (.int .i64 0))}])
   (.seq (.seq (.ops [{dst:=some 8,op:=.mov (.s 2)},
    {dst:=some 9,op:=.bin .neq (.s 8) (.c (.int .i64 8))},
    {dst:=some 10,op:=.mov (.s 9)},
    {dst:=some 11,op:=.mov (.s 2),guard:=some (10,true)},
    {dst:=some 12,op:=.bin .neq (.s 11) (.c (.int .i64 9)),guard:=some (10,true)},
    {dst:=some 13,op:=.pick (.s 10) (.s 12) (.c (.bool false))},
    {dst:=some 14,op:=.mov (.s 13)},
    {dst:=some 15,op:=.mov (.s 2),guard:=some (14,true)},
    {dst:=some 16,op:=.bin .neq (.s 15) (.c (.int .i64 10)),guard:=some (14,true)},
    {dst:=some 17,op:=.pick (.s 14) (.s 16) (.c (.bool false))}])
   (.cond (.s 17)
    (.seq (.ops [{dst:=some 6,op:=.mov (.c (.int .i64 0))},
     {dst:=some 7,op:=.mov (.c (.int .i64 1))}])
    (.ret))
    (.skip)))
   (.seq (.seq (.ops [{dst:=some 18,op:=.mov (.s 0)},
    {dst:=some 19,op:=.mov (.s 1)},
    {dst:=some 20,op:=.bslc 1 [(.s 18),(.s 19)]},
    {dst:=some 21,op:=.call 93 [(.s 20)]},
    {dst:=some 22,op:=.un .not (.s 21)}])
   (.cond (.s 22)
    (.seq (.ops [{dst:=some 6,op:=.mov (.c (.int .i64 0))},
     {dst:=some 7,op:=.mov (.c (.int .i64 3))}])
    (.ret))
    (.skip)))
   (.seq (.seq (.ops [{dst:=some 23,op:=.mov (.s 1)},
    {dst:=some 24,op:=.bin .leq (.s 23) (.c (.int .i64 0))}])
   (.cond (.s 24)
    (.seq (.ops [{dst:=some 6,op:=.mov (.c (.int .i64 0))},
     {dst:=some 7,op:=.mov (.c (.int .i64 70))}])
    (.ret))
    (.skip)))
   (.seq (.seq (.ops [{dst:=some 25,op:=.mov (.s 2)}])
   (.block 0 (.seq (.block 3 (.seq (.block 2 (.seq (.block 1 (.seq (.seq (.seq (.ops [{dst:=some 27,op:=.bin .eql (.s 25) (.c (.int .i64 10))},
        {dst:=some 26,op:=.mov (.s 27)}])
       (.cond (.s 26)
        (.exit 1)
        (.skip)))
       (.seq (.ops [{dst:=some 29,op:=.bin .eql (.s 25) (.c (.int .i64 8))},
        {dst:=some 28,op:=.mov (.s 29)}])
       (.cond (.s 28)
        (.exit 2)
        (.skip))))
       (.exit 3)))
      (.ops [{dst:=some 30,op:=.mov (.s 0)},
       {dst:=some 31,op:=.bin .mul (.c (.int .i64 2)) (.s 30)},
       {dst:=some 32,op:=.mov (.s 1)},
       {dst:=some 33,op:=.bin .add (.s 31) (.s 32)},
       {dst:=some 34,op:=.mov (.s 1)},
       {dst:=some 35,op:=.bin .mul (.c (.int .i64 2)) (.s 34)},
       {dst:=some 0,op:=.mov (.s 33)},
       {dst:=some 1,op:=.mov (.s 35)}])))
     (.seq (.seq (.ops [{dst:=some 36,op:=.mov (.s 0)},
      {dst:=some 37,op:=.mov (.s 1)},
      {dst:=some 38,op:=.bin .rem (.s 36) (.s 37)},
      {dst:=some 39,op:=.bin .lss (.s 38) (.c (.int .i64 0))}])
     (.cond (.s 39)
      (.ops [{dst:=some 40,op:=.mov (.s 0)},
       {dst:=some 41,op:=.mov (.s 1)},
       {dst:=some 42,op:=.bin .sub (.s 40) (.s 41)},
       {dst:=some 0,op:=.mov (.s 42)}])
      (.skip)))
     (.exit 0))))
    (.seq (.seq (.ops [{dst:=some 43,op:=.mov (.s 0)},
     {dst:=some 44,op:=.mov (.s 1)},
     {dst:=some 45,op:=.bin .rem (.s 43) (.s 44)},
     {dst:=some 46,op:=.bin .gtr (.s 45) (.c (.int .i64 0))}])
    (.cond (.s 46)
     (.ops [{dst:=some 47,op:=.mov (.s 0)},
      {dst:=some 48,op:=.mov (.s 1)},
      {dst:=some 49,op:=.bin .add (.s 47) (.s 48)},
      {dst:=some 0,op:=.mov (.s 49)}])
     (.skip)))
    (.exit 0)))))
   (.seq (.ops [{dst:=some 50,op:=.mov (.s 0)},
    {dst:=some 51,op:=.mov (.s 1)},
    {dst:=some 52,op:=.bin .quo (.s 50) (.s 51)},
    {dst:=some 6,op:=.mov (.s 52)},
    {dst:=some 7,op:=.mov (.c (.int .i64 0))}])
   (.ret)))))))
  [.tmp 6,.tmp 7]
theorem tr_money_Div:trF Tryz.prog [] 97 []=some F_money_Div:=by kernel_rfl
def F_internal_stringslite_HasPrefix:PF:=
 .mk
  (.seq (.ops [{dst:=some 4,op:=.mov (.c (.bool false))}])
   (.seq (.ops [{dst:=some 5,op:=.mov (.s 0)},
    {dst:=some 6,op:=.len true (.s 5)},
    {dst:=some 7,op:=.mov (.s 1)},
    {dst:=some 8,op:=.len true (.s 7)},
    {dst:=some 9,op:=.bin .geq (.s 6) (.s 8)},
    {dst:=some 10,op:=.mov (.s 9)},
    {dst:=some 11,op:=.mov (.s 0),guard:=some (10,true)},
    {dst:=some 12,op:=.mov (.s 1),guard:=some (10,true)},
    {dst:=some 13,op:=.len true (.s 12),guard:=some (10,true)},
    {dst:=some 14,op:=.slice 0 (.s 11) none (some (.s 13)) none,guard:=some (10,true)},
    {dst:=some 15,op:=.mov (.s 1),guard:=some (10,true)},
    {dst:=some 16,op:=.bin .eql (.s 14) (.s 15),guard:=some (10,true)},
    {dst:=some 17,op:=.pick (.s 10) (.s 16) (.c (.bool false))},
    {dst:=some 4,op:=.mov (.s 17)}])
   (.ret)))
  [.tmp 4]
theorem tr_internal_stringslite_HasPrefix:trF Tryz.prog [] 99 []=some F_internal_stringslite_HasPrefix:=by kernel_rfl
def F_strings_makeASCIISet_L0:PC:=
 .seq (.seq (.ops [{dst:=some 6,op:=.mov (.s 4)},
   {dst:=some 7,op:=.mov (.s 0)},
   {dst:=some 8,op:=.len true (.s 7)},
   {dst:=some 9,op:=.bin .lss (.s 6) (.s 8)}])
  (.cond (.s 9)
   (.skip)
   (.exit 0)))
  (.seq (.block 1 (.seq (.ops [{dst:=some 12,op:=.mov (.s 0)},
    {dst:=some 13,op:=.mov (.s 4)},
    {dst:=some 14,op:=.idx (.s 12) (.s 13)},
    {dst:=some 5,op:=.mov (.s 14)}])
   (.seq (.seq (.ops [{dst:=some 15,op:=.mov (.s 5)},
    {dst:=some 16,op:=.bin .geq (.s 15) (.c (.int .u8 128))}])
   (.cond (.s 16)
    (.seq (.ops [{dst:=some 17,op:=.load 256 true (.s 2)},
     {dst:=none,op:=.stor 256 (.s 2) (.s 17)},
     {dst:=some 3,op:=.mov (.c (.bool false))}])
    (.ret))
    (.skip)))
   (.ops [{dst:=some 18,op:=.mov (.s 5)},
    {dst:=some 19,op:=.idxA 256 1 (.s 2) (.s 18)},
    {dst:=none,op:=.stor 1 (.s 19) (.c (.bool true))}]))))
  (.ops [{dst:=some 10,op:=.mov (.s 4)},
   {dst:=some 11,op:=.bin .add (.s 10) (.c (.int .i64 1))},
   {dst:=some 4,op:=.mov (.s 11)}]))
def F_strings_makeASCIISet:PF:=
 .mk
  (.seq (.ops [{dst:=some 2,op:=.box (.c (.agg [(.bool false),(.bool false),(.bool false),(.bool false),(.bool false),(.bool false),(.bool false),(.bool false),(.bool false),(.bool false),(.bool false),(.bool false),(.bool false),(.bool false),(.bool false),(.bool false),(.bool false),(.bool false),(.bool false),(.bool false),(.bool false),(.bool false),(.bool false),(.bool false),(.bool false),(.bool false),(.bool false),(.bool false),(.bool false),(.bool false),(.bool false),(.bool false),(.bool false),(.bool false),(.bool false),(.bool false),(.bool false),(.bool false),(.bool false),(.bool false),(.bool false),(.bool false),(.bool false),(.bool false),(.bool false),(.bool false),(.bool false),(.bool false),(.bool false),(.bool false),(.bool false),(.bool false),(.bool false),(.bool false),(.bool false),(.bool false),(.bool false),(.bool false),(.bool false),(.bool false),(.bool false),(.bool false),(.bool false),(.bool false),(.bool false),(.bool false),(.bool false),(.bool false),(.bool false),(.bool false),(.bool false),(.bool false),(.bool false),(.bool false),(.bool false),(.bool false),(.bool false),(.bool false),(.bool false),(.bool false),(.bool false),(.bool false),(.bool false),(.bool false),(.bool false),(.bool false),(.bool false),(.bool false),(.bool false),(.bool false),(.bool false),(.bool false),(.bool false),(.bool false),(.bool false),(.bool false),(.bool false),(.bool false),(.bool false),(.bool false),(.bool false),(.bool false),(.bool false),(.bool false),(.bool false),(.bool false),(.bool false),(.bool false),(.bool false),(.bool false),(.bool false),(.bool false),(.bool false),(.bool false),(.bool false),(.bool false),(.bool false),(.bool false),(.bool false),(.bool false),(.bool false),(.bool false),(.bool false),(.bool false),(.bool false),(.bool false),(.bool false),(.bool false),(.bool false),(.bool false),(.bool false),(.bool false),(.bool false),(.bool false),(.bool false),(.bool false),(.bool false),(.bool false),(.bool false),(.bool false),(.bool false),(.bool false),(.bool false),(.bool false),(.bool false),(.bool false),(.bool false),(.bool false),(.bool false),(.bool false),(.bool false),(.bool false),(.bool false),(.bool false),(.bool false),(.bool false),(.bool false),(.bool false),(.bool false),(.bool false),(.bool false),(.bool false),(.bool false),(.bool false),(.bool false),(.bool false),(.bool false),(.bool false),(.bool false),(.bool false),(.bool false),(.bool false),(.bool false),(.bool false),(.bool false),(.bool false),(.bool false),(.bool false),(.bool false),(.bool false),(.bool false),(.bool false),(.bool false),(.bool false),(.bool false),(.bool false),(.bool false),(.bool false),(.bool false),(.bool false),(.bool false),(.bool false),(.bool false),(.bool false),(.bool false),(.bool false),(.bool false),(.bool false),(.bool false),(.bool false),(.bool false),(.bool false),(.bool false),(.bool false),(.bool false),(.bool false),(.bool false),(.bool false),(.bool false),(.bool false),(.bool false),(.bool false),(.bool false),(.bool false),(.bool false),(.bool false),(.bool false),(.bool false),(.bool false),(.bool false),(.bool false),(.bool false),(.bool false),(.bool false),(.bool false),(.bool false),(.bool false),(.bool false),(.bool false),(.bool false),(.bool false),(.bool false),(.bool false),(.bool false),(.bool false),(.bool false),(.bool false),(.bool false),(.bool false),(.bool false),(.bool false),(.bool false),(.bool false),(.bool false),(.bool false),(.bool false),(.bool false),(.bool false),(.bool false),(.bool false),(.bool false),(.bool false),(.bool false),(.bool false),(.bool false),(.bool false)]))},
    {dst:=some 3,op:=.mov (.c (.bool false))}])
   (.seq (.seq (.ops [{dst:=some 4,op:=.mov (.c (.int .i64 0))}])
   (.block 0 (.loop [0,2,4] F_strings_makeASCIISet_L0)))
   (.seq (.ops [{dst:=some 20,op:=.load 256 true (.s 2)},
    {dst:=none,op:=.stor 256 (.s 2) (.s 20)},
    {dst:=some 3,op:=.mov (.c (.bool true))}])
   (.ret))))
  [.cell 2 256 true,.tmp 3]
theorem tr_strings_makeASCIISet:trF Tryz.prog [] 106 [[0,2,4]]=some F_strings_makeASCIISet:=by kernel_rfl
def F_slices_IndexFunc_api_Expr_api_Expr_L0:PC:=
 .seq (.ops [{dst:=some 9,op:=.bin .lss (.s 8) (.s 7)}])
  (.seq (.cond (.s 9)
   (.skip)
   (.exit 0))
  (.seq (.block 1 (.seq (.ops [{dst:=some 10,op:=.mov (.s 8)},
    {dst:=some 5,op:=.mov (.s 10)}])
   (.seq (.ops [{dst:=some 11,op:=.mov (.s 1)},
    {dst:=some 12,op:=.mov (.s 0)},
    {dst:=some 13,op:=.mov (.s 5)},
    {dst:=some 14,op:=.idxS 7 (.s 12) (.s 13)},
    {dst:=some 15,op:=.load 7 true (.s 14)},
    {dst:=some 16,op:=.callv (.s 11) [(.s 15)]}])
   (.cond (.s 16)
    (.seq (.ops [{dst:=some 17,op:=.mov (.s 5)},
     {dst:=some 4,op:=.mov (.s 17)}])
    (.ret))
    (.skip)))))
  (.ops [{dst:=some 18,op:=.bin .add (.s 8) (.c (.int .i64 1))},
   {dst:=some 8,op:=.mov (.s 18)}])))
def F_slices_IndexFunc_api_Expr_api_Expr:PF:=
 .mk
  (.seq (.ops [{dst:=some 4,op:=.mov (.c (.int .i64 0))}])
   (.seq (.seq (.ops [{dst:=some 6,op:=.mov (.s 0)},
    {dst:=some 7,op:=.len false (.s 6)},
    {dst:=some 8,op:=.mov (.c (.int .i64 0))}])
   (.block 0 (.loop [0,1,7,8] F_slices_IndexFunc_api_Expr_api_Expr_L0)))
   (.seq (.ops [{dst:=some 4,op:=.mov (.c (.int .i64 (-1)))}])
   (.ret))))
  [.tmp 4]
theorem tr_slices_IndexFunc_api_Expr_api_Expr:trF Tryz.prog [] 111 [[0,1,7,8]]=some F_slices_IndexFunc_api_Expr_api_Expr:=by kernel_rfl
end Go.Proofs.YtfbbaceiimdejaaGreatDoor.PI
