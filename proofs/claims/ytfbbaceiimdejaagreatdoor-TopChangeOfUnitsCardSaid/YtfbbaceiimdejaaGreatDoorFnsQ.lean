/-
  The translations of this seat's functions into pure code, each with the kernel's word that it is the translation. Written by a program (gen.py).
  Conditions: none.
-/
import Derived.Test.YtfbbaceiimdejaaGreatDoorEngHf
import Derived.KernelRfl
set_option linter.unusedVariables false
set_option linter.unusedSimpArgs false
namespace Go.Proofs.YtfbbaceiimdejaaGreatDoor.PI
open Go
def F_tparse_Parse_L0:PC:=
 .seq (.seq (.ops [{dst:=some 40,op:=.mov (.s 6)},
   {dst:=some 41,op:=.icall 28 [(.s 40),(.c (.str [99,108,97,117,115,101]))]}])
  (.cond (.s 41)
   (.skip)
   (.exit 0)))
  (.seq (.block 1 (.seq (.seq (.ops [{dst:=some 44,op:=.fld 2 (.s 2)},
    {dst:=some 45,op:=.load 1 false (.s 44)},
    {dst:=some 46,op:=.len false (.s 45)},
    {dst:=some 47,op:=.bin .eql (.s 46) (.c (.int .i64 64))}])
   (.cond (.s 47)
    (.pan [{dst:=some 48,op:=.mov (.s 7)},
     {dst:=some 49,op:=.bld [(.int .i64 0),(.int .i64 0)] [(0,1,(.s 48)),(1,1,(.c (.int .i64 2)))]}] 50 66 (.s 49))
    (.skip)))
   (.anyK [({dst:=some 51,op:=.fld 2 (.s 2)},true,[]),
    ({dst:=some 52,op:=.load 1 false (.s 51)},true,[]),
    ({dst:=some 53,op:=.mov (.s 6)},false,[]),
    ({dst:=some 54,op:=.fld 2 (.s 2)},false,[]),
    ({dst:=some 55,op:=.load 1 false (.s 54)},false,[]),
    ({dst:=some 56,op:=.icall 29 [(.s 53),(.s 55)]},false,[0,1]),
    ({dst:=some 57,op:=.bslc 9 [(.s 56)]},false,[]),
    ({dst:=some 58,op:=.app 9 112 (.s 52) (.s 57)},false,[]),
    ({dst:=some 59,op:=.fld 2 (.s 2)},false,[]),
    ({dst:=none,op:=.stor 1 (.s 59) (.s 58)},false,[])])))
  (.ops [{dst:=some 42,op:=.mov (.s 6)},
   {dst:=some 43,op:=.icall 27 [(.s 42)]},
   {dst:=some 7,op:=.mov (.s 43)}]))
def F_tparse_Parse:PFE:=
 .mk
  (.seq (.ops [{dst:=some 2,op:=.box (.c (.agg [(.str []),(.int .i64 0),(.slc 0 [] true)]))},
    {dst:=some 3,op:=.box (.c (.int .i64 0))},
    {dst:=some 4,op:=.box (.c (.int .i64 0))}])
   (.seq (.ops [{dst:=some 9,op:=.mov (.s 0)},
    {dst:=some 10,op:=.call 22 [(.s 9)]},
    {dst:=some 8,op:=.mov (.s 10)},
    {dst:=some 11,op:=.ext (.s 8) 0},
    {dst:=some 12,op:=.ext (.s 8) 1},
    {dst:=some 13,op:=.ext (.s 8) 2},
    {dst:=some 5,op:=.mov (.s 11)},
    {dst:=none,op:=.stor 1 (.s 3) (.s 12)},
    {dst:=none,op:=.stor 1 (.s 4) (.s 13)}])
   (.seq (.ops [{dst:=some 14,op:=.load 1 false (.s 4)},
    {dst:=some 15,op:=.bin .neq (.s 14) (.c (.int .i64 0))}])
   (.cond (.s 15)
    (.seq (.anyK [({dst:=some 16,op:=.bld [(.str []),(.int .i64 0),(.slc 0 [] true)] []},false,[]),
     ({dst:=some 17,op:=.load 1 false (.s 3)},true,[]),
     ({dst:=some 18,op:=.load 1 false (.s 4)},true,[]),
     ({dst:=none,op:=.stor 3 (.s 2) (.s 16)},false,[1,2]),
     ({dst:=none,op:=.stor 1 (.s 3) (.s 17)},false,[2]),
     ({dst:=none,op:=.stor 1 (.s 4) (.s 18)},false,[])])
    (.ret))
    (.skip)))))
  (.mk
  [{dst:=some 19,op:=.mkclo 23 [(.s 2),(.s 3),(.s 4)]}]
  (.s 19)
  []
  (.seq (.ops [{dst:=some 20,op:=.mov (.s 5)},
    {dst:=some 21,op:=.mov (.s 0)},
    {dst:=some 22,op:=.len true (.s 21)},
    {dst:=some 23,op:=.bld [(.slc 0 [] true),(.int .i64 0)] [(0,1,(.s 20)),(1,1,(.s 22))]},
    {dst:=some 24,op:=.box (.s 23)},
    {dst:=some 6,op:=.mov (.s 24)}])
   (.seq (.ops [{dst:=some 25,op:=.mov (.s 6)},
    {dst:=some 26,op:=.icall 24 [(.s 25),(.c (.str [116,97,114,105,102,102]))]}])
   (.seq (.ops [{dst:=some 27,op:=.mov (.s 6)},
    {dst:=some 28,op:=.icall 25 [(.s 27)]},
    {dst:=some 29,op:=.fld 0 (.s 2)},
    {dst:=none,op:=.stor 1 (.s 29) (.s 28)}])
   (.seq (.ops [{dst:=some 30,op:=.mov (.s 6)},
    {dst:=some 31,op:=.icall 24 [(.s 30),(.c (.str [102,111,114]))]}])
   (.seq (.ops [{dst:=some 32,op:=.mov (.s 6)},
    {dst:=some 33,op:=.icall 26 [(.s 32),(.c (.str [104,105,114,101,32,100,101,109,117,114,114,97,103,101,32,102,114,101,105,103,104,116,32,114,101,112,97,105,114,32,108,111,115,115,32,99,108,101,97,110,105,110,103]))]},
    {dst:=some 34,op:=.bin .add (.c (.int .i64 1)) (.s 33)},
    {dst:=some 35,op:=.fld 1 (.s 2)},
    {dst:=none,op:=.stor 1 (.s 35) (.s 34)}])
   (.seq (.ops [{dst:=some 36,op:=.mov (.s 6)},
    {dst:=some 37,op:=.icall 24 [(.s 36),(.c (.str [123]))]}])
   (.seq (.seq (.ops [{dst:=some 38,op:=.mov (.s 6)},
    {dst:=some 39,op:=.icall 27 [(.s 38)]},
    {dst:=some 7,op:=.mov (.s 39)}])
   (.block 0 (.loop [2,3,4,6,7] F_tparse_Parse_L0)))
   (.seq (.ops [{dst:=some 60,op:=.mov (.s 6)},
    {dst:=some 61,op:=.icall 24 [(.s 60),(.c (.str [125]))]}])
   (.seq (.seq (.ops [{dst:=some 62,op:=.mov (.s 6)},
    {dst:=some 63,op:=.nilc (.s 62)},
    {dst:=some 64,op:=.fld 0 (.s 63)},
    {dst:=some 65,op:=.load 1 false (.s 64)},
    {dst:=some 66,op:=.len false (.s 65)},
    {dst:=some 67,op:=.bin .gtr (.s 66) (.c (.int .i64 0))}])
   (.cond (.s 67)
    (.ops [{dst:=some 68,op:=.mov (.s 6)},
     {dst:=some 69,op:=.icall 30 [(.s 68)]}])
    (.skip)))
   (.seq (.ops [{dst:=some 70,op:=.load 3 true (.s 2)},
    {dst:=none,op:=.stor 3 (.s 2) (.s 70)},
    {dst:=none,op:=.stor 1 (.s 3) (.c (.int .i64 0))},
    {dst:=none,op:=.stor 1 (.s 4) (.c (.int .i64 0))}])
   (.ret)))))))))))
  [.cell 2 3 true,.cell 3 1 false,.cell 4 1 false])
theorem tr_tparse_Parse:trFE3 Tryz.prog [24,25,26,27,28,29,30,53,55,57,58,59,83,84,85,86,87,88,102,103,56,82,50000007,80000011] 11 [[2,3,4,6,7]]=some F_tparse_Parse:=by kernel_rfl
end Go.Proofs.YtfbbaceiimdejaaGreatDoor.PI
