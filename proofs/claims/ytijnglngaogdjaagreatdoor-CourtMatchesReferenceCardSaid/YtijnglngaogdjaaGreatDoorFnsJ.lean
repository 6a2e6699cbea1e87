/-
  The translation of one function into pure code, in which the copy of a list is one that only makes an object. Written by a program (gen.py).
  Conditions: none.
-/
import Derived.Test.YtijnglngaogdjaaGreatDoorFns
open Bool renaming false→f_,true→t_
open Option renaming some→s_
set_option maxHeartbeats 8000000
set_option maxRecDepth 20000
set_option linter.unusedSimpArgs false
set_option linter.unusedVariables false
namespace Go.Proofs.YtijnglngaogdjaaGreatDoor.PI
open Go
open D renaming int→I,slc→O,agg→U,bool→V,ptr→Y
open Go.IntKind renaming i64→J
def sL:PF:=
 .mk
  (.seq (.opsX [{dst:=s_ 2,op:=.mov (.s 0)},
    {dst:=s_ 3,op:=.nilc (.s 2)},
    {dst:=s_ 4,op:=.fld 297 (.s 3)},
    {dst:=s_ 5,op:=.fld 1 (.s 4)},
    {dst:=s_ 6,op:=.load 1 f_ (.s 5)},
    {dst:=s_ 7,op:=.bin .eql (.s 6) (.c (I J 0))},
    {dst:=s_ 8,op:=.mov (.s 7)},
    {dst:=s_ 9,op:=.mov (.s 0),guard:=s_ (8,t_)},
    {dst:=s_ 10,op:=.nilc (.s 9),guard:=s_ (8,t_)},
    {dst:=s_ 11,op:=.fld 0 (.s 10),guard:=s_ (8,t_)},
    {dst:=s_ 12,op:=.fld 7 (.s 11),guard:=s_ (8,t_)},
    {dst:=s_ 13,op:=.load 1 f_ (.s 12),guard:=s_ (8,t_)},
    {dst:=s_ 14,op:=.bin .eql (.s 13) (.c (I J 1)),guard:=s_ (8,t_)},
    {dst:=s_ 15,op:=.pick (.s 8) (.s 14) (.c (V f_))},
    {dst:=s_ 16,op:=.icall 73 [(.s 15),(.c (I J 380))]}])
   (.seq (.opsX [{dst:=s_ 17,op:=.mov (.s 0)},
    {dst:=s_ 18,op:=.nilc (.s 17)},
    {dst:=s_ 19,op:=.fld 0 (.s 18)},
    {dst:=s_ 20,op:=.fld 278 (.s 19)},
    {dst:=s_ 21,op:=.load 1 f_ (.s 20)},
    {dst:=s_ 22,op:=.len f_ (.s 21)},
    {dst:=s_ 23,op:=.bin .lss (.s 22) (.c (I J 8))},
    {dst:=s_ 24,op:=.icall 73 [(.s 23),(.c (I J 2))]}])
   (.seq (.opsX [{dst:=s_ 25,op:=.mov (.s 0)},
    {dst:=s_ 26,op:=.nilc (.s 25)},
    {dst:=s_ 27,op:=.fld 297 (.s 26)},
    {dst:=s_ 28,op:=.fld 139 (.s 27)},
    {dst:=s_ 29,op:=.load 5 t_ (.s 28)},
    {dst:=s_ 30,op:=.mov (.s 0)},
    {dst:=s_ 31,op:=.nilc (.s 30)},
    {dst:=s_ 32,op:=.fld 0 (.s 31)},
    {dst:=s_ 33,op:=.fld 0 (.s 32)},
    {dst:=s_ 34,op:=.load 5 t_ (.s 33)},
    {dst:=s_ 35,op:=.aeq [0,0,0,0,0] t_ (.s 29) (.s 34)},
    {dst:=s_ 36,op:=.mov (.s 35)},
    {dst:=s_ 37,op:=.mov (.s 0),guard:=s_ (36,t_)},
    {dst:=s_ 38,op:=.nilc (.s 37),guard:=s_ (36,t_)},
    {dst:=s_ 39,op:=.fld 0 (.s 38),guard:=s_ (36,t_)},
    {dst:=s_ 40,op:=.fld 278 (.s 39),guard:=s_ (36,t_)},
    {dst:=s_ 41,op:=.load 1 f_ (.s 40),guard:=s_ (36,t_)},
    {dst:=s_ 42,op:=.mov (.s 0),guard:=s_ (36,t_)},
    {dst:=s_ 43,op:=.nilc (.s 42),guard:=s_ (36,t_)},
    {dst:=s_ 44,op:=.fld 297 (.s 43),guard:=s_ (36,t_)},
    {dst:=s_ 45,op:=.fld 139 (.s 44),guard:=s_ (36,t_)},
    {dst:=s_ 46,op:=.load 5 t_ (.s 45),guard:=s_ (36,t_)},
    {dst:=s_ 47,op:=.call 126 [(.s 41),(.s 46)],guard:=s_ (36,t_)},
    {dst:=s_ 48,op:=.un .not (.s 47),guard:=s_ (36,t_)},
    {dst:=s_ 49,op:=.pick (.s 36) (.s 48) (.c (V f_))},
    {dst:=s_ 50,op:=.icall 73 [(.s 49),(.c (I J 1))]}])
   (.any [({dst:=s_ 51,op:=.mov (.s 0)},f_,[]),
    ({dst:=s_ 52,op:=.mov (.s 0)},f_,[]),
    ({dst:=s_ 53,op:=.nilc (.s 52)},f_,[]),
    ({dst:=s_ 54,op:=.fld 0 (.s 53)},f_,[]),
    ({dst:=s_ 55,op:=.fld 278 (.s 54)},f_,[]),
    ({dst:=s_ 56,op:=.load 1 f_ (.s 55)},f_,[]),
    ({dst:=s_ 57,op:=.mcall 127 [(.s 56)]},t_,[]),
    ({dst:=s_ 58,op:=.mov (.s 0)},f_,[]),
    ({dst:=s_ 59,op:=.nilc (.s 58)},f_,[6]),
    ({dst:=s_ 60,op:=.fld 297 (.s 59)},f_,[6]),
    ({dst:=s_ 61,op:=.fld 139 (.s 60)},f_,[6]),
    ({dst:=s_ 62,op:=.load 5 t_ (.s 61)},f_,[6]),
    ({dst:=s_ 63,op:=.bslc 5 [(.s 62)]},f_,[6]),
    ({dst:=s_ 64,op:=.app 5 40 (.s 57) (.s 63)},f_,[]),
    ({dst:=s_ 65,op:=.nilc (.s 51)},f_,[]),
    ({dst:=s_ 66,op:=.fld 0 (.s 65)},f_,[]),
    ({dst:=s_ 67,op:=.fld 278 (.s 66)},f_,[]),
    ({dst:=none,op:=.stor 1 (.s 67) (.s 64)},f_,[])]))))
  []
theorem yz6:DA Tryz.prog [60,2000114,45,46,54,97,98,100,147,91,157,177,178,179,180,181,182,183,184,190,195,90000197,202,209,79,125,118,120,121,1000127,73,60000073,123,60000123,119,60000119,80000024,60000000] 72 []=s_ sL:=by kernel_rfl
