/-
  The translations of this seat's functions into pure code, each with the kernel's word that it is the translation. Written by a program (gen.py).
  Conditions: none.
-/
import Derived.Test.YtfbbaceiimdejaaGreatDoorEngHf
import Derived.KernelRfl
set_option linter.unusedVariables false
set_option linter.unusedSimpArgs false
namespace Go.Proofs.YtfbbaceiimdejaaGreatDoor.PI
open Go
def F_teval_evaluator_eval:PF:=
 .mk
  (.seq (.ops [{dst:=some 3,op:=.box (.s 1)},
    {dst:=some 4,op:=.mov (.c (.int .i64 0))}])
   (.seq (.seq (.ops [{dst:=some 5,op:=.fld 0 (.s 3)},
    {dst:=some 6,op:=.load 1 false (.s 5)}])
   (.block 0 (.seq (.ops [{dst:=some 8,op:=.bin .eql (.s 6) (.c (.int .i64 1))},
     {dst:=some 7,op:=.mov (.s 8)}])
    (.cond (.s 7)
     (.seq (.ops [{dst:=some 9,op:=.fld 1 (.s 3)},
      {dst:=some 10,op:=.load 1 false (.s 9)},
      {dst:=some 4,op:=.mov (.s 10)}])
     (.ret))
     (.seq (.ops [{dst:=some 12,op:=.bin .eql (.s 6) (.c (.int .i64 2))},
      {dst:=some 11,op:=.mov (.s 12)}])
     (.cond (.s 11)
      (.seq (.opsX [{dst:=some 13,op:=.mov (.s 0)},
       {dst:=some 14,op:=.fld 1 (.s 3)},
       {dst:=some 15,op:=.load 1 false (.s 14)},
       {dst:=some 16,op:=.icall 50 [(.s 13),(.s 15)]},
       {dst:=some 4,op:=.mov (.s 16)}])
      (.ret))
      (.skip)))))))
   (.seq (.opsX [{dst:=some 17,op:=.mov (.s 0)},
    {dst:=some 18,op:=.nilc (.s 17)},
    {dst:=some 19,op:=.fld 17 (.s 18)},
    {dst:=some 20,op:=.load 1 false (.s 19)},
    {dst:=some 21,op:=.fld 0 (.s 3)},
    {dst:=some 22,op:=.load 1 false (.s 21)},
    {dst:=some 23,op:=.mapget 2 [0] false .nilf (.s 20) (.s 22)},
    {dst:=some 24,op:=.fld 6 (.s 3)},
    {dst:=some 25,op:=.load 1 false (.s 24)},
    {dst:=some 26,op:=.callv (.s 23) [(.s 25)]},
    {dst:=some 4,op:=.mov (.s 26)}])
   (.ret))))
  [.tmp 4]
theorem tr_teval_evaluator_eval:trF Tryz.prog [21,60000021,50,60000050,67,60000067,69,60000069,72,60000072,60000000,80000009] 21 []=some F_teval_evaluator_eval:=by kernel_rfl
def F_teval_evaluator_add:PF:=
 .mk
  (.seq (.ops [{dst:=some 4,op:=.mov (.c (.int .i64 0))}])
   (.seq (.opsX [{dst:=some 5,op:=.mov (.s 0)},
    {dst:=some 6,op:=.mov (.s 1)},
    {dst:=some 7,op:=.icall 69 [(.s 5),(.s 6)]},
    {dst:=some 8,op:=.ext (.s 7) 0},
    {dst:=some 9,op:=.ext (.s 7) 1},
    {dst:=some 10,op:=.call 68 [(.s 8),(.s 9)]},
    {dst:=some 11,op:=.ext (.s 10) 0},
    {dst:=some 12,op:=.ext (.s 10) 1},
    {dst:=some 13,op:=.icall 67 [(.s 11),(.s 12)]},
    {dst:=some 4,op:=.mov (.s 13)}])
   (.ret)))
  [.tmp 4]
theorem tr_teval_evaluator_add:trF Tryz.prog [21,60000021,50,60000050,67,60000067,69,60000069,72,60000072,60000000,80000009] 41 []=some F_teval_evaluator_add:=by kernel_rfl
def F_teval_evaluator_sub:PF:=
 .mk
  (.seq (.ops [{dst:=some 4,op:=.mov (.c (.int .i64 0))}])
   (.seq (.opsX [{dst:=some 5,op:=.mov (.s 0)},
    {dst:=some 6,op:=.mov (.s 1)},
    {dst:=some 7,op:=.icall 69 [(.s 5),(.s 6)]},
    {dst:=some 8,op:=.ext (.s 7) 0},
    {dst:=some 9,op:=.ext (.s 7) 1},
    {dst:=some 10,op:=.call 70 [(.s 8),(.s 9)]},
    {dst:=some 11,op:=.ext (.s 10) 0},
    {dst:=some 12,op:=.ext (.s 10) 1},
    {dst:=some 13,op:=.icall 67 [(.s 11),(.s 12)]},
    {dst:=some 4,op:=.mov (.s 13)}])
   (.ret)))
  [.tmp 4]
theorem tr_teval_evaluator_sub:trF Tryz.prog [21,60000021,50,60000050,67,60000067,69,60000069,72,60000072,60000000,80000009] 42 []=some F_teval_evaluator_sub:=by kernel_rfl
def F_teval_evaluator_mul:PF:=
 .mk
  (.seq (.ops [{dst:=some 4,op:=.mov (.c (.int .i64 0))}])
   (.seq (.opsX [{dst:=some 5,op:=.mov (.s 0)},
    {dst:=some 6,op:=.mov (.s 1)},
    {dst:=some 7,op:=.icall 69 [(.s 5),(.s 6)]},
    {dst:=some 8,op:=.ext (.s 7) 0},
    {dst:=some 9,op:=.ext (.s 7) 1},
    {dst:=some 10,op:=.call 71 [(.s 8),(.s 9)]},
    {dst:=some 11,op:=.ext (.s 10) 0},
    {dst:=some 12,op:=.ext (.s 10) 1},
    {dst:=some 13,op:=.icall 67 [(.s 11),(.s 12)]},
    {dst:=some 4,op:=.mov (.s 13)}])
   (.ret)))
  [.tmp 4]
theorem tr_teval_evaluator_mul:trF Tryz.prog [21,60000021,50,60000050,67,60000067,69,60000069,72,60000072,60000000,80000009] 43 []=some F_teval_evaluator_mul:=by kernel_rfl
def F_teval_evaluator_least:PF:=
 .mk
  (.seq (.ops [{dst:=some 4,op:=.mov (.c (.int .i64 0))}])
   (.seq (.opsX [{dst:=some 8,op:=.mov (.s 0)},
    {dst:=some 9,op:=.mov (.s 1)},
    {dst:=some 10,op:=.icall 69 [(.s 8),(.s 9)]},
    {dst:=some 7,op:=.mov (.s 10)},
    {dst:=some 11,op:=.ext (.s 7) 0},
    {dst:=some 12,op:=.ext (.s 7) 1},
    {dst:=some 5,op:=.mov (.s 11)},
    {dst:=some 6,op:=.mov (.s 12)}])
   (.seq (.ops [{dst:=some 13,op:=.mov (.s 5)},
    {dst:=some 14,op:=.mov (.s 6)},
    {dst:=some 15,op:=.mm false (.s 13) (.s 14)},
    {dst:=some 4,op:=.mov (.s 15)}])
   (.ret))))
  [.tmp 4]
theorem tr_teval_evaluator_least:trF Tryz.prog [21,60000021,50,60000050,67,60000067,69,60000069,72,60000072,60000000,80000009] 44 []=some F_teval_evaluator_least:=by kernel_rfl
def F_teval_evaluator_greatest:PF:=
 .mk
  (.seq (.ops [{dst:=some 4,op:=.mov (.c (.int .i64 0))}])
   (.seq (.opsX [{dst:=some 8,op:=.mov (.s 0)},
    {dst:=some 9,op:=.mov (.s 1)},
    {dst:=some 10,op:=.icall 69 [(.s 8),(.s 9)]},
    {dst:=some 7,op:=.mov (.s 10)},
    {dst:=some 11,op:=.ext (.s 7) 0},
    {dst:=some 12,op:=.ext (.s 7) 1},
    {dst:=some 5,op:=.mov (.s 11)},
    {dst:=some 6,op:=.mov (.s 12)}])
   (.seq (.ops [{dst:=some 13,op:=.mov (.s 5)},
    {dst:=some 14,op:=.mov (.s 6)},
    {dst:=some 15,op:=.mm true (.s 13) (.s 14)},
    {dst:=some 4,op:=.mov (.s 15)}])
   (.ret))))
  [.tmp 4]
theorem tr_teval_evaluator_greatest:trF Tryz.prog [21,60000021,50,60000050,67,60000067,69,60000069,72,60000072,60000000,80000009] 45 []=some F_teval_evaluator_greatest:=by kernel_rfl
def F_teval_evaluator_down:PF:=
 .mk
  (.seq (.ops [{dst:=some 4,op:=.mov (.c (.int .i64 0))}])
   (.seq (.opsX [{dst:=some 5,op:=.mov (.s 0)},
    {dst:=some 6,op:=.mov (.s 1)},
    {dst:=some 7,op:=.icall 72 [(.s 5),(.s 6),(.c (.int .i64 8))]},
    {dst:=some 4,op:=.mov (.s 7)}])
   (.ret)))
  [.tmp 4]
theorem tr_teval_evaluator_down:trF Tryz.prog [21,60000021,50,60000050,67,60000067,69,60000069,72,60000072,60000000,80000009] 46 []=some F_teval_evaluator_down:=by kernel_rfl
def F_teval_evaluator_up:PF:=
 .mk
  (.seq (.ops [{dst:=some 4,op:=.mov (.c (.int .i64 0))}])
   (.seq (.opsX [{dst:=some 5,op:=.mov (.s 0)},
    {dst:=some 6,op:=.mov (.s 1)},
    {dst:=some 7,op:=.icall 72 [(.s 5),(.s 6),(.c (.int .i64 9))]},
    {dst:=some 4,op:=.mov (.s 7)}])
   (.ret)))
  [.tmp 4]
theorem tr_teval_evaluator_up:trF Tryz.prog [21,60000021,50,60000050,67,60000067,69,60000069,72,60000072,60000000,80000009] 47 []=some F_teval_evaluator_up:=by kernel_rfl
def F_teval_evaluator_half:PF:=
 .mk
  (.seq (.ops [{dst:=some 4,op:=.mov (.c (.int .i64 0))}])
   (.seq (.opsX [{dst:=some 5,op:=.mov (.s 0)},
    {dst:=some 6,op:=.mov (.s 1)},
    {dst:=some 7,op:=.icall 72 [(.s 5),(.s 6),(.c (.int .i64 10))]},
    {dst:=some 4,op:=.mov (.s 7)}])
   (.ret)))
  [.tmp 4]
theorem tr_teval_evaluator_half:trF Tryz.prog [21,60000021,50,60000050,67,60000067,69,60000069,72,60000072,60000000,80000009] 48 []=some F_teval_evaluator_half:=by kernel_rfl
def F_teval_evaluator_choose:PF:=
 .mk
  (.seq (.ops [{dst:=some 4,op:=.mov (.c (.int .i64 0))}])
   (.seq (.seq (.opsX [{dst:=some 8,op:=.mov (.s 0)},
    {dst:=some 9,op:=.mov (.s 1)},
    {dst:=some 10,op:=.icall 69 [(.s 8),(.s 9)]},
    {dst:=some 7,op:=.mov (.s 10)},
    {dst:=some 11,op:=.ext (.s 7) 0},
    {dst:=some 12,op:=.ext (.s 7) 1},
    {dst:=some 5,op:=.mov (.s 11)},
    {dst:=some 6,op:=.mov (.s 12)}])
   (.seq (.ops [{dst:=some 13,op:=.mov (.s 5)},
    {dst:=some 14,op:=.mov (.s 6)},
    {dst:=some 15,op:=.bin .lss (.s 13) (.s 14)}])
   (.cond (.s 15)
    (.seq (.opsX [{dst:=some 16,op:=.mov (.s 0)},
     {dst:=some 17,op:=.mov (.s 1)},
     {dst:=some 18,op:=.idxS 7 (.s 17) (.c (.int .i64 2))},
     {dst:=some 19,op:=.load 7 true (.s 18)},
     {dst:=some 20,op:=.icall 21 [(.s 16),(.s 19)]},
     {dst:=some 4,op:=.mov (.s 20)}])
    (.ret))
    (.skip))))
   (.seq (.opsX [{dst:=some 21,op:=.mov (.s 0)},
    {dst:=some 22,op:=.mov (.s 1)},
    {dst:=some 23,op:=.idxS 7 (.s 22) (.c (.int .i64 3))},
    {dst:=some 24,op:=.load 7 true (.s 23)},
    {dst:=some 25,op:=.icall 21 [(.s 21),(.s 24)]},
    {dst:=some 4,op:=.mov (.s 25)}])
   (.ret))))
  [.tmp 4]
theorem tr_teval_evaluator_choose:trF Tryz.prog [21,60000021,50,60000050,67,60000067,69,60000069,72,60000072,60000000,80000009] 49 []=some F_teval_evaluator_choose:=by kernel_rfl
def F_teval_evaluator_load:PF:=
 .mk
  (.seq (.ops [{dst:=some 4,op:=.mov (.c (.int .i64 0))}])
   (.seq (.seq (.ops [{dst:=some 6,op:=.mov (.s 1)},
    {dst:=some 7,op:=.bin .lss (.s 6) (.c (.int .i64 0))},
    {dst:=some 8,op:=.mov (.s 7)},
    {dst:=some 9,op:=.mov (.s 1),guard:=some (8,false)},
    {dst:=some 10,op:=.bin .geq (.s 9) (.c (.int .i64 16)),guard:=some (8,false)},
    {dst:=some 11,op:=.pick (.s 8) (.c (.bool true)) (.s 10)}])
   (.cond (.s 11)
    (.pan [{dst:=some 12,op:=.bld [(.int .i64 0)] [(0,1,(.c (.int .i64 1)))]}] 13 94 (.s 12))
    (.skip)))
   (.seq (.seq (.ops [{dst:=some 14,op:=.mov (.s 0)},
    {dst:=some 15,op:=.nilc (.s 14)},
    {dst:=some 16,op:=.fld 0 (.s 15)},
    {dst:=some 17,op:=.fld 0 (.s 16)},
    {dst:=some 18,op:=.load 1 false (.s 17)},
    {dst:=some 19,op:=.mov (.s 1)},
    {dst:=some 20,op:=.bin .shl (.c (.int .i64 1)) (.s 19)},
    {dst:=some 21,op:=.bin .and (.s 18) (.s 20)},
    {dst:=some 22,op:=.bin .eql (.s 21) (.c (.int .i64 0))}])
   (.cond (.s 22)
    (.pan [{dst:=some 23,op:=.bld [(.int .i64 0)] [(0,1,(.c (.int .i64 181)))]}] 24 94 (.s 23))
    (.skip)))
   (.seq (.ops [{dst:=some 25,op:=.mov (.s 0)},
    {dst:=some 26,op:=.mov (.s 1)},
    {dst:=some 27,op:=.nilc (.s 25)},
    {dst:=some 28,op:=.fld 0 (.s 27)},
    {dst:=some 29,op:=.fld 1 (.s 28)},
    {dst:=some 30,op:=.idxA 16 1 (.s 29) (.s 26)},
    {dst:=some 31,op:=.load 1 false (.s 30)},
    {dst:=some 5,op:=.mov (.s 31)}])
   (.seq (.seq (.ops [{dst:=some 32,op:=.mov (.s 5)},
    {dst:=some 33,op:=.bin .lss (.s 32) (.c (.int .i64 (-9007199254740992)))},
    {dst:=some 34,op:=.mov (.s 33)},
    {dst:=some 35,op:=.mov (.s 5),guard:=some (34,false)},
    {dst:=some 36,op:=.bin .gtr (.s 35) (.c (.int .i64 9007199254740992)),guard:=some (34,false)},
    {dst:=some 37,op:=.pick (.s 34) (.c (.bool true)) (.s 36)}])
   (.cond (.s 37)
    (.pan [{dst:=some 38,op:=.bld [(.int .i64 0)] [(0,1,(.c (.int .i64 3)))]}] 39 94 (.s 38))
    (.skip)))
   (.seq (.ops [{dst:=some 40,op:=.mov (.s 5)},
    {dst:=some 4,op:=.mov (.s 40)}])
   (.ret)))))))
  [.tmp 4]
theorem tr_teval_evaluator_load:trF Tryz.prog [21,60000021,50,60000050,67,60000067,69,60000069,72,60000072,60000000,80000009] 50 []=some F_teval_evaluator_load:=by kernel_rfl
def F_teval_must:PF:=
 .mk
  (.seq (.ops [{dst:=some 4,op:=.mov (.c (.int .i64 0))}])
   (.seq (.seq (.ops [{dst:=some 5,op:=.mov (.s 1)},
    {dst:=some 6,op:=.bin .neq (.s 5) (.c (.int .i64 0))}])
   (.cond (.s 6)
    (.pan [{dst:=some 7,op:=.mov (.s 1)},
     {dst:=some 8,op:=.bld [(.int .i64 0)] [(0,1,(.s 7))]}] 9 94 (.s 8))
    (.skip)))
   (.seq (.ops [{dst:=some 10,op:=.mov (.s 0)},
    {dst:=some 4,op:=.mov (.s 10)}])
   (.ret))))
  [.tmp 4]
theorem tr_teval_must:trF Tryz.prog [21,60000021,50,60000050,67,60000067,69,60000069,72,60000072,60000000,80000009] 67 []=some F_teval_must:=by kernel_rfl
def F_teval_evaluator_both:PF:=
 .mk
  (.seq (.ops [{dst:=some 4,op:=.mov (.c (.int .i64 0))},
    {dst:=some 5,op:=.mov (.c (.int .i64 0))}])
   (.seq (.opsX [{dst:=some 6,op:=.mov (.s 0)},
    {dst:=some 7,op:=.mov (.s 1)},
    {dst:=some 8,op:=.idxS 7 (.s 7) (.c (.int .i64 0))},
    {dst:=some 9,op:=.load 7 true (.s 8)},
    {dst:=some 10,op:=.icall 21 [(.s 6),(.s 9)]},
    {dst:=some 4,op:=.mov (.s 10)}])
   (.seq (.opsX [{dst:=some 11,op:=.mov (.s 4)},
    {dst:=some 12,op:=.mov (.s 0)},
    {dst:=some 13,op:=.mov (.s 1)},
    {dst:=some 14,op:=.idxS 7 (.s 13) (.c (.int .i64 1))},
    {dst:=some 15,op:=.load 7 true (.s 14)},
    {dst:=some 16,op:=.icall 21 [(.s 12),(.s 15)]},
    {dst:=some 4,op:=.mov (.s 11)},
    {dst:=some 5,op:=.mov (.s 16)}])
   (.ret))))
  [.tmp 4,.tmp 5]
theorem tr_teval_evaluator_both:trF Tryz.prog [21,60000021,50,60000050,67,60000067,69,60000069,72,60000072,60000000,80000009] 69 []=some F_teval_evaluator_both:=by kernel_rfl
def F_teval_evaluator_divide:PF:=
 .mk
  (.seq (.ops [{dst:=some 6,op:=.mov (.c (.int .i64 0))}])
   (.seq (.opsX [{dst:=some 10,op:=.mov (.s 0)},
    {dst:=some 11,op:=.mov (.s 1)},
    {dst:=some 12,op:=.icall 69 [(.s 10),(.s 11)]},
    {dst:=some 9,op:=.mov (.s 12)},
    {dst:=some 13,op:=.ext (.s 9) 0},
    {dst:=some 14,op:=.ext (.s 9) 1},
    {dst:=some 7,op:=.mov (.s 13)},
    {dst:=some 8,op:=.mov (.s 14)}])
   (.seq (.opsX [{dst:=some 15,op:=.mov (.s 7)},
    {dst:=some 16,op:=.mov (.s 8)},
    {dst:=some 17,op:=.mov (.s 2)},
    {dst:=some 18,op:=.call 97 [(.s 15),(.s 16),(.s 17)]},
    {dst:=some 19,op:=.ext (.s 18) 0},
    {dst:=some 20,op:=.ext (.s 18) 1},
    {dst:=some 21,op:=.icall 67 [(.s 19),(.s 20)]},
    {dst:=some 6,op:=.mov (.s 21)}])
   (.ret))))
  [.tmp 6]
theorem tr_teval_evaluator_divide:trF Tryz.prog [21,60000021,50,60000050,67,60000067,69,60000069,72,60000072,60000000,80000009] 72 []=some F_teval_evaluator_divide:=by kernel_rfl
def F_teval_Eval:PFE:=
 .mk
  (.seq (.ops [{dst:=some 2,op:=.box (.s 0)},
    {dst:=some 3,op:=.box (.s 1)},
    {dst:=some 4,op:=.mov (.c (.int .i64 0))},
    {dst:=some 5,op:=.box (.c (.int .i64 0))}])
   (.seq (.ops [{dst:=some 6,op:=.load 7 true (.s 2)},
    {dst:=some 7,op:=.call 18 [(.s 6),(.c (.int .i64 24))]},
    {dst:=some 8,op:=.un .not (.s 7)}])
   (.cond (.s 8)
    (.seq (.ops [{dst:=some 4,op:=.mov (.c (.int .i64 0))},
     {dst:=none,op:=.stor 1 (.s 5) (.c (.int .i64 1))}])
    (.ret))
    (.skip))))
  (.mk
  []
  (.c (.clo 19 []))
  [(.s 5)]
  (.seq (.alt (.any [({dst:=some 9,op:=.load 17 true (.s 3)},false,[]),
    ({dst:=some 10,op:=.mcall 20 [(.s 9)]},true,[]),
    ({dst:=some 11,op:=.load 7 true (.s 2)},false,[1]),
    ({dst:=some 12,op:=.icall 21 [(.s 10),(.s 11)]},false,[]),
    ({dst:=some 4,op:=.mov (.s 12)},false,[]),
    ({dst:=none,op:=.stor 1 (.s 5) (.c (.int .i64 0))},false,[])])
   (.seq (.seq (.any [({dst:=some 9,op:=.load 17 true (.s 3)},false,[]),
    ({dst:=some 10,op:=.mcall 20 [(.s 9)]},true,[]),
    ({dst:=some 11,op:=.load 7 true (.s 2)},false,[1])])
   (.opsX [{dst:=some 12,op:=.icall 21 [(.s 10),(.s 11)]}]))
   (.fail)))
   (.ret))
  [.tmp 4,.cell 5 1 false])
theorem tr_teval_Eval:trFE Tryz.prog [1000020,21,60000021,80000009] 9 []=some F_teval_Eval:=by kernel_rfl
def F_teval_newEvaluator:PF:=
 .mk
  (.seq (.ops [{dst:=some 1,op:=.box (.s 0)},
    {dst:=some 2,op:=.mov (.c .nilp)}])
   (.seq (.ops [{dst:=some 4,op:=.load 17 true (.s 1)},
    {dst:=some 5,op:=.bld [(.int .i64 0),(.int .i64 0),(.int .i64 0),(.int .i64 0),(.int .i64 0),(.int .i64 0),(.int .i64 0),(.int .i64 0),(.int .i64 0),(.int .i64 0),(.int .i64 0),(.int .i64 0),(.int .i64 0),(.int .i64 0),(.int .i64 0),(.int .i64 0),(.int .i64 0),.nilm] [(0,17,(.s 4))]},
    {dst:=some 6,op:=.box (.s 5)},
    {dst:=some 3,op:=.mov (.s 6)}])
   (.seq (.ops [{dst:=some 7,op:=.mov (.s 3)},
    {dst:=some 8,op:=.mkmap 2},
    {dst:=some 9,op:=.mov (.s 3)},
    {dst:=some 10,op:=.mkclo 5000041 [(.s 9)]},
    {dst:=none,op:=.mapup 2 [0] (.s 8) (.c (.int .i64 3)) (.s 10)},
    {dst:=some 11,op:=.mov (.s 3)},
    {dst:=some 12,op:=.mkclo 5000042 [(.s 11)]},
    {dst:=none,op:=.mapup 2 [0] (.s 8) (.c (.int .i64 4)) (.s 12)},
    {dst:=some 13,op:=.mov (.s 3)},
    {dst:=some 14,op:=.mkclo 5000043 [(.s 13)]},
    {dst:=none,op:=.mapup 2 [0] (.s 8) (.c (.int .i64 5)) (.s 14)},
    {dst:=some 15,op:=.mov (.s 3)},
    {dst:=some 16,op:=.mkclo 5000044 [(.s 15)]},
    {dst:=none,op:=.mapup 2 [0] (.s 8) (.c (.int .i64 6)) (.s 16)},
    {dst:=some 17,op:=.mov (.s 3)},
    {dst:=some 18,op:=.mkclo 5000045 [(.s 17)]},
    {dst:=none,op:=.mapup 2 [0] (.s 8) (.c (.int .i64 7)) (.s 18)},
    {dst:=some 19,op:=.mov (.s 3)},
    {dst:=some 20,op:=.mkclo 5000046 [(.s 19)]},
    {dst:=none,op:=.mapup 2 [0] (.s 8) (.c (.int .i64 8)) (.s 20)},
    {dst:=some 21,op:=.mov (.s 3)},
    {dst:=some 22,op:=.mkclo 5000047 [(.s 21)]},
    {dst:=none,op:=.mapup 2 [0] (.s 8) (.c (.int .i64 9)) (.s 22)},
    {dst:=some 23,op:=.mov (.s 3)},
    {dst:=some 24,op:=.mkclo 5000048 [(.s 23)]},
    {dst:=none,op:=.mapup 2 [0] (.s 8) (.c (.int .i64 10)) (.s 24)},
    {dst:=some 25,op:=.mov (.s 3)},
    {dst:=some 26,op:=.mkclo 5000049 [(.s 25)]},
    {dst:=none,op:=.mapup 2 [0] (.s 8) (.c (.int .i64 11)) (.s 26)},
    {dst:=some 27,op:=.mov (.s 8)},
    {dst:=some 28,op:=.nilc (.s 7)},
    {dst:=some 29,op:=.fld 17 (.s 28)},
    {dst:=none,op:=.stor 1 (.s 29) (.s 27)}])
   (.seq (.ops [{dst:=some 30,op:=.mov (.s 3)},
    {dst:=some 2,op:=.mov (.s 30)}])
   (.ret)))))
  [.tmp 2]
theorem tr_teval_newEvaluator:trF Tryz.prog [1000020,21,60000021,80000009] 20 []=some F_teval_newEvaluator:=by kernel_rfl
def F_teval_Holds_L0:PC:=
 .seq (.ops [{dst:=some 16,op:=.bin .lss (.s 15) (.s 14)}])
  (.seq (.cond (.s 16)
   (.skip)
   (.exit 0))
  (.seq (.block 1 (.seq (.ops [{dst:=some 17,op:=.idxS 3 (.s 13) (.s 15)},
    {dst:=some 18,op:=.load 3 true (.s 17)},
    {dst:=some 8,op:=.box (.c (.agg [(.int .i64 0),(.int .i64 0),(.int .i64 0)]))},
    {dst:=none,op:=.stor 3 (.s 8) (.s 18)}])
   (.seq (.opsX [{dst:=some 19,op:=.mov (.s 6)},
    {dst:=some 20,op:=.fld 0 (.s 8)},
    {dst:=some 21,op:=.load 1 false (.s 20)},
    {dst:=some 22,op:=.icall 50 [(.s 19),(.s 21)]},
    {dst:=some 9,op:=.mov (.s 22)}])
   (.seq (.ops [{dst:=some 23,op:=.mov (.s 9)},
    {dst:=some 24,op:=.fld 1 (.s 8)},
    {dst:=some 25,op:=.load 1 false (.s 24)},
    {dst:=some 26,op:=.bin .lss (.s 23) (.s 25)},
    {dst:=some 27,op:=.mov (.s 26)},
    {dst:=some 28,op:=.mov (.s 9),guard:=some (27,false)},
    {dst:=some 29,op:=.fld 2 (.s 8),guard:=some (27,false)},
    {dst:=some 30,op:=.load 1 false (.s 29),guard:=some (27,false)},
    {dst:=some 31,op:=.bin .gtr (.s 28) (.s 30),guard:=some (27,false)},
    {dst:=some 32,op:=.pick (.s 27) (.c (.bool true)) (.s 31)}])
   (.cond (.s 32)
    (.seq (.ops [{dst:=some 4,op:=.mov (.c (.bool false))},
     {dst:=none,op:=.stor 1 (.s 5) (.c (.int .i64 0))}])
    (.ret))
    (.skip))))))
  (.ops [{dst:=some 33,op:=.bin .add (.s 15) (.c (.int .i64 1))},
   {dst:=some 15,op:=.mov (.s 33)}])))
def F_teval_Holds:PFD:=
 .mk
  [{dst:=some 2,op:=.box (.s 0)},
   {dst:=some 3,op:=.box (.s 1)},
   {dst:=some 4,op:=.mov (.c (.bool false))},
   {dst:=some 5,op:=.box (.c (.int .i64 0))}]
  (.c (.clo 19 []))
  [(.s 5)]
  (.seq (.ops [{dst:=some 10,op:=.load 17 true (.s 3)},
    {dst:=some 11,op:=.mcall 20 [(.s 10)]},
    {dst:=some 6,op:=.mov (.s 11)}])
   (.seq (.seq (.ops [{dst:=some 12,op:=.fld 1 (.s 2)},
    {dst:=some 13,op:=.load 1 false (.s 12)},
    {dst:=some 14,op:=.len false (.s 13)},
    {dst:=some 15,op:=.mov (.c (.int .i64 0))}])
   (.block 0 (.loop [4,5,6,13,14,15] F_teval_Holds_L0)))
   (.seq (.ops [{dst:=some 4,op:=.mov (.c (.bool true))},
    {dst:=none,op:=.stor 1 (.s 5) (.c (.int .i64 0))}])
   (.ret))))
  [.tmp 4,.cell 5 1 false]
theorem tr_teval_Holds:trFD Tryz.prog [1000020,50,60000050,80000031] 31 [[4,5,6,13,14,15]]=some F_teval_Holds:=by kernel_rfl
end Go.Proofs.YtfbbaceiimdejaaGreatDoor.PI
