/-
  The translations of this seat's functions into pure code, each with the kernel's word that it is the translation. Written by a program (gen.py).
  Conditions: none.
-/
import Derived.Test.YtfbbaceiimdejaaGreatDoorEngW
import Derived.KernelRfl
set_option linter.unusedVariables false
set_option linter.unusedSimpArgs false
namespace Go.Proofs.YtfbbaceiimdejaaGreatDoor.PI
open Go
def F_ttype_Unit:PF:=
 .mk
  (.seq (.ops [{dst:=some 1,op:=.box (.s 0)},
    {dst:=some 2,op:=.box (.c (.agg [(.int .i64 0),(.int .i64 0),(.int .i64 0),(.int .i64 0)]))},
    {dst:=some 3,op:=.mov (.c (.int .i64 0))}])
   (.seq (.seq (.ops [{dst:=some 5,op:=.load 7 true (.s 1)},
    {dst:=some 6,op:=.call 15 [(.s 5)]},
    {dst:=some 7,op:=.un .not (.s 6)}])
   (.cond (.s 7)
    (.seq (.ops [{dst:=some 8,op:=.load 4 true (.s 2)},
     {dst:=none,op:=.stor 4 (.s 2) (.s 8)},
     {dst:=some 3,op:=.mov (.c (.int .i64 1))}])
    (.ret))
    (.skip)))
   (.seq (.any [({dst:=some 10,op:=.mcall 17 []},true,[]),
    ({dst:=some 11,op:=.load 7 true (.s 1)},false,[0]),
    ({dst:=some 12,op:=.icall 16 [(.s 10),(.s 11)]},false,[]),
    ({dst:=some 9,op:=.mov (.s 12)},false,[]),
    ({dst:=some 13,op:=.ext (.s 9) 0},false,[]),
    ({dst:=some 14,op:=.ext (.s 9) 1},false,[]),
    ({dst:=none,op:=.stor 4 (.s 2) (.s 13)},false,[]),
    ({dst:=some 4,op:=.mov (.s 14)},false,[])])
   (.seq (.seq (.ops [{dst:=some 15,op:=.mov (.s 4)},
    {dst:=some 16,op:=.un .not (.s 15)}])
   (.cond (.s 16)
    (.seq (.ops [{dst:=some 17,op:=.load 4 true (.s 2)},
     {dst:=none,op:=.stor 4 (.s 2) (.s 17)},
     {dst:=some 3,op:=.mov (.c (.int .i64 170))}])
    (.ret))
    (.skip)))
   (.seq (.ops [{dst:=some 18,op:=.load 4 true (.s 2)},
    {dst:=none,op:=.stor 4 (.s 2) (.s 18)},
    {dst:=some 3,op:=.mov (.c (.int .i64 0))}])
   (.ret))))))
  [.cell 2 4 true,.tmp 3]
theorem tr_ttype_Unit:trF Tryz.prog [1000017,16,2000016,2000066] 8 []=some F_ttype_Unit:=by kernel_rfl
def F_ttype_unit_L0:PC:=
 .seq (.ops [{dst:=some 27,op:=.bin .lss (.s 26) (.s 25)}])
  (.seq (.cond (.s 27)
   (.skip)
   (.exit 1))
  (.seq (.block 2 (.seq (.ops [{dst:=some 28,op:=.idxS 7 (.s 24) (.s 26)},
    {dst:=some 29,op:=.load 7 true (.s 28)},
    {dst:=some 8,op:=.box (.c (.agg [(.int .i64 0),(.int .i64 0),(.int .i64 0),(.int .i64 0),(.int .i64 0),(.int .i64 0),(.slc 0 [] true)]))},
    {dst:=none,op:=.stor 7 (.s 8) (.s 29)}])
   (.seq (.ops [{dst:=some 31,op:=.mov (.s 0)},
    {dst:=some 32,op:=.load 7 true (.s 8)},
    {dst:=some 33,op:=.icall 16 [(.s 31),(.s 32)]},
    {dst:=some 30,op:=.mov (.s 33)},
    {dst:=some 34,op:=.ext (.s 30) 0},
    {dst:=some 35,op:=.ext (.s 30) 1},
    {dst:=some 9,op:=.box (.c (.agg [(.int .i64 0),(.int .i64 0),(.int .i64 0),(.int .i64 0)]))},
    {dst:=none,op:=.stor 4 (.s 9) (.s 34)},
    {dst:=some 10,op:=.mov (.s 35)}])
   (.seq (.seq (.ops [{dst:=some 36,op:=.mov (.s 10)},
    {dst:=some 37,op:=.un .not (.s 36)}])
   (.cond (.s 37)
    (.seq (.ops [{dst:=some 38,op:=.bld [(.int .i64 0),(.int .i64 0),(.int .i64 0),(.int .i64 0)] []},
     {dst:=none,op:=.stor 4 (.s 4) (.s 38)},
     {dst:=some 5,op:=.mov (.c (.bool false))}])
    (.ret))
    (.skip)))
   (.ops [{dst:=some 39,op:=.mov (.s 6)},
    {dst:=some 40,op:=.load 4 true (.s 9)},
    {dst:=some 41,op:=.bslc 4 [(.s 40)]},
    {dst:=some 42,op:=.app 4 32 (.s 39) (.s 41)},
    {dst:=some 6,op:=.mov (.s 42)}])))))
  (.ops [{dst:=some 43,op:=.bin .add (.s 26) (.c (.int .i64 1))},
   {dst:=some 26,op:=.mov (.s 43)}])))
def F_ttype_unit:PF:=
 .mk
  (.seq (.ops [{dst:=some 3,op:=.box (.s 1)},
    {dst:=some 4,op:=.box (.c (.agg [(.int .i64 0),(.int .i64 0),(.int .i64 0),(.int .i64 0)]))},
    {dst:=some 5,op:=.mov (.c (.bool false))}])
   (.seq (.seq (.ops [{dst:=some 11,op:=.fld 0 (.s 3)},
    {dst:=some 12,op:=.load 1 false (.s 11)}])
   (.block 0 (.seq (.ops [{dst:=some 14,op:=.bin .eql (.s 12) (.c (.int .i64 1))},
     {dst:=some 13,op:=.mov (.s 14)}])
    (.cond (.s 13)
     (.seq (.ops [{dst:=some 15,op:=.fld 2 (.s 3)},
      {dst:=some 16,op:=.load 4 true (.s 15)},
      {dst:=none,op:=.stor 4 (.s 4) (.s 16)},
      {dst:=some 5,op:=.mov (.c (.bool true))}])
     (.ret))
     (.seq (.ops [{dst:=some 18,op:=.bin .eql (.s 12) (.c (.int .i64 2))},
      {dst:=some 17,op:=.mov (.s 18)}])
     (.cond (.s 17)
      (.seq (.ops [{dst:=some 19,op:=.call 36 []},
       {dst:=some 20,op:=.fld 1 (.s 3)},
       {dst:=some 21,op:=.load 1 false (.s 20)},
       {dst:=some 22,op:=.idxV 16 4 true (.s 19) (.s 21)},
       {dst:=none,op:=.stor 4 (.s 4) (.s 22)},
       {dst:=some 5,op:=.mov (.c (.bool true))}])
      (.ret))
      (.skip)))))))
   (.seq (.ops [{dst:=some 6,op:=.mov (.c (.slc 0 [] true))}])
   (.seq (.seq (.ops [{dst:=some 23,op:=.fld 6 (.s 3)},
    {dst:=some 24,op:=.load 1 false (.s 23)},
    {dst:=some 25,op:=.len false (.s 24)},
    {dst:=some 26,op:=.mov (.c (.int .i64 0))}])
   (.block 1 (.loopA [0,3,4,6,24,25,26] F_ttype_unit_L0)))
   (.seq (.seq (.ops [{dst:=some 45,op:=.mov (.s 0)},
    {dst:=some 46,op:=.fld 0 (.s 3)},
    {dst:=some 47,op:=.load 1 false (.s 46)},
    {dst:=some 48,op:=.mapget 2000002 [0] false (.agg [.nilf]) (.s 45) (.s 47)},
    {dst:=some 49,op:=.fldv 0 1 false (.s 48)},
    {dst:=some 50,op:=.mov (.s 6)},
    {dst:=some 51,op:=.callv (.s 49) [(.s 50)]},
    {dst:=some 44,op:=.mov (.s 51)},
    {dst:=some 52,op:=.ext (.s 44) 0},
    {dst:=some 53,op:=.ext (.s 44) 1},
    {dst:=none,op:=.stor 4 (.s 4) (.s 52)},
    {dst:=some 5,op:=.mov (.s 53)}])
   (.seq (.ops [{dst:=some 54,op:=.mov (.s 5)},
    {dst:=some 55,op:=.un .not (.s 54)}])
   (.cond (.s 55)
    (.seq (.ops [{dst:=some 56,op:=.bld [(.int .i64 0),(.int .i64 0),(.int .i64 0),(.int .i64 0)] []},
     {dst:=none,op:=.stor 4 (.s 4) (.s 56)},
     {dst:=some 5,op:=.mov (.c (.bool false))}])
    (.ret))
    (.skip))))
   (.seq (.ops [{dst:=some 57,op:=.load 4 true (.s 4)},
    {dst:=none,op:=.stor 4 (.s 4) (.s 57)},
    {dst:=some 5,op:=.mov (.c (.bool true))}])
   (.ret)))))))
  [.cell 4 4 true,.tmp 5]
theorem tr_ttype_unit:trF Tryz.prog [1000017,16,2000016,2000066] 16 [[1000000,0,3,4,6,24,25,26]]=some F_ttype_unit:=by kernel_rfl
def F_ttype_power:PF:=
 .mk
  (.seq (.ops [{dst:=some 1,op:=.box (.s 0)},
    {dst:=some 2,op:=.box (.c (.agg [.nilf]))}])
   (.seq (.ops [{dst:=some 3,op:=.mkclo 66 [(.s 1)]},
    {dst:=some 4,op:=.bld [.nilf] [(0,1,(.s 3))]},
    {dst:=none,op:=.stor 1 (.s 2) (.s 4)}])
   (.ret)))
  [.cell 2 1 true]
theorem tr_ttype_power:trF Tryz.prog [1000017,16,2000016,2000066] 39 []=some F_ttype_power:=by kernel_rfl
def F_ttype_power_1_L0:PC:=
 .seq (.ops [{dst:=some 7,op:=.bin .lss (.s 6) (.c (.int .i64 4))}])
  (.seq (.cond (.s 7)
   (.skip)
   (.exit 0))
  (.seq (.block 1 (.seq (.ops [{dst:=some 8,op:=.mov (.s 6)},
    {dst:=some 5,op:=.mov (.s 8)}])
   (.seq (.ops [{dst:=some 9,op:=.mov (.s 5)},
    {dst:=some 10,op:=.mov (.s 0)},
    {dst:=some 11,op:=.mov (.s 5)},
    {dst:=some 12,op:=.idxS 4 (.s 10) (.c (.int .i64 0))},
    {dst:=some 13,op:=.idxA 4 1 (.s 12) (.s 11)},
    {dst:=some 14,op:=.load 1 false (.s 13)},
    {dst:=some 15,op:=.load 1 false (.s 1)},
    {dst:=some 16,op:=.mov (.s 0)},
    {dst:=some 17,op:=.mov (.s 5)},
    {dst:=some 18,op:=.idxS 4 (.s 16) (.c (.int .i64 1))},
    {dst:=some 19,op:=.idxA 4 1 (.s 18) (.s 17)},
    {dst:=some 20,op:=.load 1 false (.s 19)},
    {dst:=some 21,op:=.bin .mul (.s 15) (.s 20)},
    {dst:=some 22,op:=.bin .add (.s 14) (.s 21)},
    {dst:=some 23,op:=.idxA 4 1 (.s 3) (.s 9)},
    {dst:=none,op:=.stor 1 (.s 23) (.s 22)}])
   (.seq (.ops [{dst:=some 24,op:=.mov (.s 5)},
    {dst:=some 25,op:=.idxA 4 1 (.s 3) (.s 24)},
    {dst:=some 26,op:=.load 1 false (.s 25)},
    {dst:=some 27,op:=.bin .lss (.s 26) (.c (.int .i64 (-3)))},
    {dst:=some 28,op:=.mov (.s 27)},
    {dst:=some 29,op:=.mov (.s 5),guard:=some (28,false)},
    {dst:=some 30,op:=.idxA 4 1 (.s 3) (.s 29),guard:=some (28,false)},
    {dst:=some 31,op:=.load 1 false (.s 30),guard:=some (28,false)},
    {dst:=some 32,op:=.bin .gtr (.s 31) (.c (.int .i64 3)),guard:=some (28,false)},
    {dst:=some 33,op:=.pick (.s 28) (.c (.bool true)) (.s 32)}])
   (.cond (.s 33)
    (.seq (.ops [{dst:=some 34,op:=.bld [(.int .i64 0),(.int .i64 0),(.int .i64 0),(.int .i64 0)] []},
     {dst:=none,op:=.stor 4 (.s 3) (.s 34)},
     {dst:=some 4,op:=.mov (.c (.bool false))}])
    (.ret))
    (.skip))))))
  (.ops [{dst:=some 35,op:=.bin .add (.s 6) (.c (.int .i64 1))},
   {dst:=some 6,op:=.mov (.s 35)}])))
def F_ttype_power_1:PF:=
 .mk
  (.seq (.ops [{dst:=some 3,op:=.box (.c (.agg [(.int .i64 0),(.int .i64 0),(.int .i64 0),(.int .i64 0)]))},
    {dst:=some 4,op:=.mov (.c (.bool false))}])
   (.seq (.seq (.ops [{dst:=some 6,op:=.mov (.c (.int .i64 0))}])
   (.block 0 (.loopA [0,1,3,6] F_ttype_power_1_L0)))
   (.seq (.ops [{dst:=some 36,op:=.load 4 true (.s 3)},
    {dst:=none,op:=.stor 4 (.s 3) (.s 36)},
    {dst:=some 4,op:=.mov (.c (.bool true))}])
   (.ret))))
  [.cell 3 4 true,.tmp 4]
theorem tr_ttype_power_1:trF Tryz.prog [1000017,16,2000016,2000066] 66 [[1000000,0,1,3,6]]=some F_ttype_power_1:=by kernel_rfl
def F_ttype_rules_1:PF:=
 .mk
  (.seq (.ops [{dst:=some 2,op:=.box (.c (.agg [(.int .i64 0),(.int .i64 0),(.int .i64 0),(.int .i64 0)]))},
    {dst:=some 3,op:=.mov (.c (.bool false))}])
   (.seq (.any [({dst:=some 4,op:=.mov (.s 0)},false,[]),
    ({dst:=some 5,op:=.idxS 4 (.s 4) (.c (.int .i64 0))},false,[]),
    ({dst:=some 6,op:=.load 4 true (.s 5)},false,[]),
    ({dst:=some 7,op:=.mov (.s 0)},false,[]),
    ({dst:=some 8,op:=.idxS 4 (.s 7) (.c (.int .i64 0))},true,[]),
    ({dst:=some 9,op:=.load 4 true (.s 8)},true,[]),
    ({dst:=some 10,op:=.mov (.s 0)},false,[]),
    ({dst:=some 11,op:=.idxS 4 (.s 10) (.c (.int .i64 1))},true,[]),
    ({dst:=some 12,op:=.load 4 true (.s 11)},true,[]),
    ({dst:=some 13,op:=.aeq [0,0,0,0] false (.s 9) (.s 12)},false,[]),
    ({dst:=none,op:=.stor 4 (.s 2) (.s 6)},false,[4,5,7,8]),
    ({dst:=some 3,op:=.mov (.s 13)},false,[])])
   (.ret)))
  [.cell 2 4 true,.tmp 3]
theorem tr_ttype_rules_1:trF Tryz.prog [1000017,16,2000016,2000066] 37 []=some F_ttype_rules_1:=by kernel_rfl
def F_ttype_rules_2:PF:=
 .mk
  (.seq (.ops [{dst:=some 2,op:=.box (.c (.agg [(.int .i64 0),(.int .i64 0),(.int .i64 0),(.int .i64 0)]))},
    {dst:=some 3,op:=.mov (.c (.bool false))}])
   (.seq (.any [({dst:=some 4,op:=.mov (.s 0)},false,[]),
    ({dst:=some 5,op:=.idxS 4 (.s 4) (.c (.int .i64 2))},false,[]),
    ({dst:=some 6,op:=.load 4 true (.s 5)},false,[]),
    ({dst:=some 7,op:=.mov (.s 0)},false,[]),
    ({dst:=some 8,op:=.idxS 4 (.s 7) (.c (.int .i64 0))},false,[]),
    ({dst:=some 9,op:=.load 4 true (.s 8)},false,[]),
    ({dst:=some 10,op:=.mov (.s 0)},false,[]),
    ({dst:=some 11,op:=.idxS 4 (.s 10) (.c (.int .i64 1))},false,[]),
    ({dst:=some 12,op:=.load 4 true (.s 11)},false,[]),
    ({dst:=some 13,op:=.aeq [0,0,0,0] false (.s 9) (.s 12)},false,[]),
    ({dst:=some 14,op:=.mov (.s 13)},false,[]),
    ({dst:=some 15,op:=.mov (.s 0),guard:=some (14,true)},false,[]),
    ({dst:=some 16,op:=.idxS 4 (.s 15) (.c (.int .i64 2)),guard:=some (14,true)},true,[]),
    ({dst:=some 17,op:=.load 4 true (.s 16),guard:=some (14,true)},true,[]),
    ({dst:=some 18,op:=.mov (.s 0),guard:=some (14,true)},false,[]),
    ({dst:=some 19,op:=.idxS 4 (.s 18) (.c (.int .i64 3)),guard:=some (14,true)},true,[]),
    ({dst:=some 20,op:=.load 4 true (.s 19),guard:=some (14,true)},true,[]),
    ({dst:=some 21,op:=.aeq [0,0,0,0] false (.s 17) (.s 20),guard:=some (14,true)},false,[]),
    ({dst:=some 22,op:=.pick (.s 14) (.s 21) (.c (.bool false))},false,[]),
    ({dst:=none,op:=.stor 4 (.s 2) (.s 6)},false,[12,13,15,16]),
    ({dst:=some 3,op:=.mov (.s 22)},false,[])])
   (.ret)))
  [.cell 2 4 true,.tmp 3]
theorem tr_ttype_rules_2:trF Tryz.prog [1000017,16,2000016,2000066] 38 []=some F_ttype_rules_2:=by kernel_rfl
end Go.Proofs.YtfbbaceiimdejaaGreatDoor.PI
