/-
  The translation of one function into pure code, in which the copy of a list is one that only makes an object. Written by a program (gen.py).
  Conditions: none.
-/
import Derived.Test.YtijnglngaogdjaaGreatDoorFns
set_option linter.unusedVariables false
set_option linter.unusedSimpArgs false
namespace Go.Proofs.YtijnglngaogdjaaGreatDoor.PI
open Go
def ylz:PF:=
 .mk
  (.seq (.opsX [{dst:=some 2,op:=.mov (.s 0)},
    {dst:=some 3,op:=.nilc (.s 2)},
    {dst:=some 4,op:=.fld 297 (.s 3)},
    {dst:=some 5,op:=.fld 1 (.s 4)},
    {dst:=some 6,op:=.load 1 false (.s 5)},
    {dst:=some 7,op:=.bin .eql (.s 6) (.c (.int .i64 0))},
    {dst:=some 8,op:=.mov (.s 7)},
    {dst:=some 9,op:=.mov (.s 0),guard:=some (8,true)},
    {dst:=some 10,op:=.nilc (.s 9),guard:=some (8,true)},
    {dst:=some 11,op:=.fld 0 (.s 10),guard:=some (8,true)},
    {dst:=some 12,op:=.fld 7 (.s 11),guard:=some (8,true)},
    {dst:=some 13,op:=.load 1 false (.s 12),guard:=some (8,true)},
    {dst:=some 14,op:=.bin .eql (.s 13) (.c (.int .i64 1)),guard:=some (8,true)},
    {dst:=some 15,op:=.pick (.s 8) (.s 14) (.c (.bool false))},
    {dst:=some 16,op:=.icall 73 [(.s 15),(.c (.int .i64 380))]}])
   (.seq (.opsX [{dst:=some 17,op:=.mov (.s 0)},
    {dst:=some 18,op:=.nilc (.s 17)},
    {dst:=some 19,op:=.fld 0 (.s 18)},
    {dst:=some 20,op:=.fld 278 (.s 19)},
    {dst:=some 21,op:=.load 1 false (.s 20)},
    {dst:=some 22,op:=.len false (.s 21)},
    {dst:=some 23,op:=.bin .lss (.s 22) (.c (.int .i64 8))},
    {dst:=some 24,op:=.icall 73 [(.s 23),(.c (.int .i64 2))]}])
   (.seq (.opsX [{dst:=some 25,op:=.mov (.s 0)},
    {dst:=some 26,op:=.nilc (.s 25)},
    {dst:=some 27,op:=.fld 297 (.s 26)},
    {dst:=some 28,op:=.fld 139 (.s 27)},
    {dst:=some 29,op:=.load 5 true (.s 28)},
    {dst:=some 30,op:=.mov (.s 0)},
    {dst:=some 31,op:=.nilc (.s 30)},
    {dst:=some 32,op:=.fld 0 (.s 31)},
    {dst:=some 33,op:=.fld 0 (.s 32)},
    {dst:=some 34,op:=.load 5 true (.s 33)},
    {dst:=some 35,op:=.aeq [0,0,0,0,0] true (.s 29) (.s 34)},
    {dst:=some 36,op:=.mov (.s 35)},
    {dst:=some 37,op:=.mov (.s 0),guard:=some (36,true)},
    {dst:=some 38,op:=.nilc (.s 37),guard:=some (36,true)},
    {dst:=some 39,op:=.fld 0 (.s 38),guard:=some (36,true)},
    {dst:=some 40,op:=.fld 278 (.s 39),guard:=some (36,true)},
    {dst:=some 41,op:=.load 1 false (.s 40),guard:=some (36,true)},
    {dst:=some 42,op:=.mov (.s 0),guard:=some (36,true)},
    {dst:=some 43,op:=.nilc (.s 42),guard:=some (36,true)},
    {dst:=some 44,op:=.fld 297 (.s 43),guard:=some (36,true)},
    {dst:=some 45,op:=.fld 139 (.s 44),guard:=some (36,true)},
    {dst:=some 46,op:=.load 5 true (.s 45),guard:=some (36,true)},
    {dst:=some 47,op:=.call 126 [(.s 41),(.s 46)],guard:=some (36,true)},
    {dst:=some 48,op:=.un .not (.s 47),guard:=some (36,true)},
    {dst:=some 49,op:=.pick (.s 36) (.s 48) (.c (.bool false))},
    {dst:=some 50,op:=.icall 73 [(.s 49),(.c (.int .i64 1))]}])
   (.any [({dst:=some 51,op:=.mov (.s 0)},false,[]),
    ({dst:=some 52,op:=.mov (.s 0)},false,[]),
    ({dst:=some 53,op:=.nilc (.s 52)},false,[]),
    ({dst:=some 54,op:=.fld 0 (.s 53)},false,[]),
    ({dst:=some 55,op:=.fld 278 (.s 54)},false,[]),
    ({dst:=some 56,op:=.load 1 false (.s 55)},false,[]),
    ({dst:=some 57,op:=.mcall 127 [(.s 56)]},true,[]),
    ({dst:=some 58,op:=.mov (.s 0)},false,[]),
    ({dst:=some 59,op:=.nilc (.s 58)},false,[6]),
    ({dst:=some 60,op:=.fld 297 (.s 59)},false,[6]),
    ({dst:=some 61,op:=.fld 139 (.s 60)},false,[6]),
    ({dst:=some 62,op:=.load 5 true (.s 61)},false,[6]),
    ({dst:=some 63,op:=.bslc 5 [(.s 62)]},false,[6]),
    ({dst:=some 64,op:=.app 5 40 (.s 57) (.s 63)},false,[]),
    ({dst:=some 65,op:=.nilc (.s 51)},false,[]),
    ({dst:=some 66,op:=.fld 0 (.s 65)},false,[]),
    ({dst:=some 67,op:=.fld 278 (.s 66)},false,[]),
    ({dst:=none,op:=.stor 1 (.s 67) (.s 64)},false,[])]))))
  []
theorem ysc:trF Tryz.prog [60,2000114,45,46,54,97,98,100,147,91,157,177,178,179,180,181,182,183,184,190,195,90000197,202,209,79,125,118,120,121,1000127,73,60000073,123,60000123,119,60000119,80000024,60000000] 72 []=some ylz:=by kernel_rfl
end Go.Proofs.YtijnglngaogdjaaGreatDoor.PI
