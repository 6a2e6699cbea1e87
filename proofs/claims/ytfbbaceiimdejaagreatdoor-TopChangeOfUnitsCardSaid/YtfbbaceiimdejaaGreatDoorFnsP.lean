/-
  The translations of this seat's functions into pure code, each with the kernel's word that it is the translation. Written by a program (gen.py).
  Conditions: none.
-/
import Derived.Test.YtfbbaceiimdejaaGreatDoorEngW
import Derived.KernelRfl
set_option linter.unusedVariables false
set_option linter.unusedSimpArgs false
namespace Go.Proofs.YtfbbaceiimdejaaGreatDoor.PI
open Go
def F_tparse_parser_expect:PF:=
 .mk
  (.seq (.ops [{dst:=some 4,op:=.mov (.s 0)},
    {dst:=some 5,op:=.mov (.s 1)},
    {dst:=some 6,op:=.icall 28 [(.s 4),(.s 5)]},
    {dst:=some 7,op:=.un .not (.s 6)}])
   (.cond (.s 7)
    (.ops [{dst:=some 8,op:=.mov (.s 0)},
     {dst:=some 9,op:=.icall 30 [(.s 8)]}])
    (.skip)))
  []
theorem tr_tparse_parser_expect:trF Tryz.prog [24,25,26,27,28,29,30,53,55,57,58,59,83,84,85,86,87,88,102,103,56,82,50000007] 24 []=some F_tparse_parser_expect:=by kernel_rfl
def F_tparse_parser_name:PF:=
 .mk
  (.seq (.ops [{dst:=some 2,op:=.mov (.c (.str []))}])
   (.seq (.ops [{dst:=some 6,op:=.mov (.s 0)},
    {dst:=some 7,op:=.icall 53 [(.s 6),(.c (.int .i64 1))]},
    {dst:=some 5,op:=.mov (.s 7)},
    {dst:=some 8,op:=.ext (.s 5) 0},
    {dst:=some 9,op:=.ext (.s 5) 1},
    {dst:=some 3,op:=.box (.c (.agg [(.int .i64 0),(.str []),(.int .i64 0),(.int .i64 0)]))},
    {dst:=none,op:=.stor 4 (.s 3) (.s 8)},
    {dst:=some 4,op:=.mov (.s 9)}])
   (.seq (.seq (.ops [{dst:=some 10,op:=.mov (.s 4)},
    {dst:=some 11,op:=.un .not (.s 10)}])
   (.cond (.s 11)
    (.ops [{dst:=some 12,op:=.mov (.s 0)},
     {dst:=some 13,op:=.icall 30 [(.s 12)]}])
    (.skip)))
   (.seq (.seq (.ops [{dst:=some 14,op:=.fld 1 (.s 3)},
    {dst:=some 15,op:=.load 1 false (.s 14)},
    {dst:=some 16,op:=.call 54 [(.s 15)]}])
   (.cond (.s 16)
    (.pan [{dst:=some 17,op:=.fld 3 (.s 3)},
     {dst:=some 18,op:=.load 1 false (.s 17)},
     {dst:=some 19,op:=.bld [(.int .i64 0),(.int .i64 0)] [(0,1,(.s 18)),(1,1,(.c (.int .i64 161)))]}] 20 66 (.s 19))
    (.skip)))
   (.seq (.ops [{dst:=some 21,op:=.mov (.s 0)},
    {dst:=some 22,op:=.mov (.s 0)},
    {dst:=some 23,op:=.nilc (.s 22)},
    {dst:=some 24,op:=.fld 0 (.s 23)},
    {dst:=some 25,op:=.load 1 false (.s 24)},
    {dst:=some 26,op:=.slice 4 (.s 25) (some (.c (.int .i64 1))) none none},
    {dst:=some 27,op:=.nilc (.s 21)},
    {dst:=some 28,op:=.fld 0 (.s 27)},
    {dst:=none,op:=.stor 1 (.s 28) (.s 26)}])
   (.seq (.ops [{dst:=some 29,op:=.fld 1 (.s 3)},
    {dst:=some 30,op:=.load 1 false (.s 29)},
    {dst:=some 2,op:=.mov (.s 30)}])
   (.ret)))))))
  [.tmp 2]
theorem tr_tparse_parser_name:trF Tryz.prog [24,25,26,27,28,29,30,53,55,57,58,59,83,84,85,86,87,88,102,103,56,82,50000007] 25 []=some F_tparse_parser_name:=by kernel_rfl
def F_tparse_parser_must:PF:=
 .mk
  (.seq (.ops [{dst:=some 4,op:=.mov (.c (.int .i64 0))}])
   (.seq (.ops [{dst:=some 8,op:=.mov (.s 0)},
    {dst:=some 9,op:=.mov (.s 1)},
    {dst:=some 10,op:=.icall 55 [(.s 8),(.s 9)]},
    {dst:=some 7,op:=.mov (.s 10)},
    {dst:=some 11,op:=.ext (.s 7) 0},
    {dst:=some 12,op:=.ext (.s 7) 1},
    {dst:=some 5,op:=.mov (.s 11)},
    {dst:=some 6,op:=.mov (.s 12)}])
   (.seq (.seq (.ops [{dst:=some 13,op:=.mov (.s 6)},
    {dst:=some 14,op:=.un .not (.s 13)}])
   (.cond (.s 14)
    (.ops [{dst:=some 15,op:=.mov (.s 0)},
     {dst:=some 16,op:=.icall 30 [(.s 15)]}])
    (.skip)))
   (.seq (.ops [{dst:=some 17,op:=.mov (.s 5)},
    {dst:=some 4,op:=.mov (.s 17)}])
   (.ret)))))
  [.tmp 4]
theorem tr_tparse_parser_must:trF Tryz.prog [24,25,26,27,28,29,30,53,55,57,58,59,83,84,85,86,87,88,102,103,56,82,50000007] 26 []=some F_tparse_parser_must:=by kernel_rfl
def F_tparse_parser_here:PF:=
 .mk
  (.seq (.ops [{dst:=some 2,op:=.mov (.c (.int .i64 0))}])
   (.seq (.seq (.ops [{dst:=some 3,op:=.mov (.s 0)},
    {dst:=some 4,op:=.nilc (.s 3)},
    {dst:=some 5,op:=.fld 0 (.s 4)},
    {dst:=some 6,op:=.load 1 false (.s 5)},
    {dst:=some 7,op:=.len false (.s 6)},
    {dst:=some 8,op:=.bin .gtr (.s 7) (.c (.int .i64 0))}])
   (.cond (.s 8)
    (.seq (.ops [{dst:=some 9,op:=.mov (.s 0)},
     {dst:=some 10,op:=.nilc (.s 9)},
     {dst:=some 11,op:=.fld 0 (.s 10)},
     {dst:=some 12,op:=.load 1 false (.s 11)},
     {dst:=some 13,op:=.idxS 4 (.s 12) (.c (.int .i64 0))},
     {dst:=some 14,op:=.fld 3 (.s 13)},
     {dst:=some 15,op:=.load 1 false (.s 14)},
     {dst:=some 2,op:=.mov (.s 15)}])
    (.ret))
    (.skip)))
   (.seq (.ops [{dst:=some 16,op:=.mov (.s 0)},
    {dst:=some 17,op:=.nilc (.s 16)},
    {dst:=some 18,op:=.fld 1 (.s 17)},
    {dst:=some 19,op:=.load 1 false (.s 18)},
    {dst:=some 2,op:=.mov (.s 19)}])
   (.ret))))
  [.tmp 2]
theorem tr_tparse_parser_here:trF Tryz.prog [24,25,26,27,28,29,30,53,55,57,58,59,83,84,85,86,87,88,102,103,56,82,50000007] 27 []=some F_tparse_parser_here:=by kernel_rfl
def F_tparse_parser_accept:PF:=
 .mk
  (.seq (.ops [{dst:=some 4,op:=.mov (.c (.bool false))}])
   (.seq (.seq (.ops [{dst:=some 5,op:=.mov (.s 0)},
    {dst:=some 6,op:=.nilc (.s 5)},
    {dst:=some 7,op:=.fld 0 (.s 6)},
    {dst:=some 8,op:=.load 1 false (.s 7)},
    {dst:=some 9,op:=.len false (.s 8)},
    {dst:=some 10,op:=.bin .eql (.s 9) (.c (.int .i64 0))},
    {dst:=some 11,op:=.mov (.s 10)},
    {dst:=some 12,op:=.mov (.s 0),guard:=some (11,false)},
    {dst:=some 13,op:=.nilc (.s 12),guard:=some (11,false)},
    {dst:=some 14,op:=.fld 0 (.s 13),guard:=some (11,false)},
    {dst:=some 15,op:=.load 1 false (.s 14),guard:=some (11,false)},
    {dst:=some 16,op:=.idxS 4 (.s 15) (.c (.int .i64 0)),guard:=some (11,false)},
    {dst:=some 17,op:=.fld 0 (.s 16),guard:=some (11,false)},
    {dst:=some 18,op:=.load 1 false (.s 17),guard:=some (11,false)},
    {dst:=some 19,op:=.bin .eql (.s 18) (.c (.int .i64 2)),guard:=some (11,false)},
    {dst:=some 20,op:=.pick (.s 11) (.c (.bool true)) (.s 19)},
    {dst:=some 21,op:=.mov (.s 20)},
    {dst:=some 22,op:=.mov (.s 0),guard:=some (21,false)},
    {dst:=some 23,op:=.nilc (.s 22),guard:=some (21,false)},
    {dst:=some 24,op:=.fld 0 (.s 23),guard:=some (21,false)},
    {dst:=some 25,op:=.load 1 false (.s 24),guard:=some (21,false)},
    {dst:=some 26,op:=.idxS 4 (.s 25) (.c (.int .i64 0)),guard:=some (21,false)},
    {dst:=some 27,op:=.fld 1 (.s 26),guard:=some (21,false)},
    {dst:=some 28,op:=.load 1 false (.s 27),guard:=some (21,false)},
    {dst:=some 29,op:=.mov (.s 1),guard:=some (21,false)},
    {dst:=some 30,op:=.bin .neq (.s 28) (.s 29),guard:=some (21,false)},
    {dst:=some 31,op:=.pick (.s 21) (.c (.bool true)) (.s 30)}])
   (.cond (.s 31)
    (.seq (.ops [{dst:=some 4,op:=.mov (.c (.bool false))}])
    (.ret))
    (.skip)))
   (.seq (.ops [{dst:=some 32,op:=.mov (.s 0)},
    {dst:=some 33,op:=.mov (.s 0)},
    {dst:=some 34,op:=.nilc (.s 33)},
    {dst:=some 35,op:=.fld 0 (.s 34)},
    {dst:=some 36,op:=.load 1 false (.s 35)},
    {dst:=some 37,op:=.slice 4 (.s 36) (some (.c (.int .i64 1))) none none},
    {dst:=some 38,op:=.nilc (.s 32)},
    {dst:=some 39,op:=.fld 0 (.s 38)},
    {dst:=none,op:=.stor 1 (.s 39) (.s 37)}])
   (.seq (.ops [{dst:=some 4,op:=.mov (.c (.bool true))}])
   (.ret)))))
  [.tmp 4]
theorem tr_tparse_parser_accept:trF Tryz.prog [24,25,26,27,28,29,30,53,55,57,58,59,83,84,85,86,87,88,102,103,56,82,50000007] 28 []=some F_tparse_parser_accept:=by kernel_rfl
def F_tparse_parser_clause_L0:PC:=
 .seq (.seq (.ops [{dst:=some 21,op:=.mov (.s 7)}])
  (.cond (.s 21)
   (.skip)
   (.exit 0)))
  (.seq (.block 1 (.anyK [({dst:=some 24,op:=.fld 1 (.s 6)},true,[]),
    ({dst:=some 25,op:=.load 1 false (.s 24)},true,[]),
    ({dst:=some 26,op:=.mov (.s 0)},false,[]),
    ({dst:=some 27,op:=.fld 1 (.s 6)},false,[]),
    ({dst:=some 28,op:=.load 1 false (.s 27)},false,[]),
    ({dst:=some 29,op:=.len false (.s 28)},false,[]),
    ({dst:=some 30,op:=.icall 58 [(.s 26),(.s 29)]},false,[0,1]),
    ({dst:=some 31,op:=.bslc 3 [(.s 30)]},false,[]),
    ({dst:=some 32,op:=.app 3 24 (.s 25) (.s 31)},false,[]),
    ({dst:=some 33,op:=.fld 1 (.s 6)},false,[]),
    ({dst:=none,op:=.stor 1 (.s 33) (.s 32)},false,[])]))
  (.ops [{dst:=some 22,op:=.mov (.s 0)},
   {dst:=some 23,op:=.icall 28 [(.s 22),(.c (.str [97,110,100]))]},
   {dst:=some 7,op:=.mov (.s 23)}]))
def F_tparse_parser_clause:PF:=
 .mk
  (.seq (.ops [{dst:=some 4,op:=.box (.c (.agg [(.str []),(.slc 0 [] true),(.int .i64 0),(.int .i64 0),(.int .i64 0),(.int .i64 0),(.int .i64 0),(.int .i64 0),(.slc 0 [] true)]))}])
   (.seq (.ops [{dst:=some 8,op:=.mov (.s 0)},
    {dst:=some 9,op:=.icall 27 [(.s 8)]},
    {dst:=some 5,op:=.mov (.s 9)}])
   (.seq (.ops [{dst:=some 10,op:=.mov (.s 0)},
    {dst:=some 11,op:=.icall 25 [(.s 10)]},
    {dst:=some 12,op:=.bld [(.str []),(.slc 0 [] true),(.int .i64 0),(.int .i64 0),(.int .i64 0),(.int .i64 0),(.int .i64 0),(.int .i64 0),(.slc 0 [] true)] [(0,1,(.s 11))]},
    {dst:=some 6,op:=.box (.c (.agg [(.str []),(.slc 0 [] true),(.int .i64 0),(.int .i64 0),(.int .i64 0),(.int .i64 0),(.int .i64 0),(.int .i64 0),(.slc 0 [] true)]))},
    {dst:=none,op:=.stor 9 (.s 6) (.s 12)}])
   (.seq (.seq (.ops [{dst:=some 13,op:=.mov (.s 1)},
    {dst:=some 14,op:=.mkclo 57 [(.s 6)]},
    {dst:=some 15,op:=.icall 56 [(.s 13),(.s 14)]}])
   (.cond (.s 15)
    (.pan [{dst:=some 16,op:=.mov (.s 5)},
     {dst:=some 17,op:=.bld [(.int .i64 0),(.int .i64 0)] [(0,1,(.s 16)),(1,1,(.c (.int .i64 161)))]}] 18 66 (.s 17))
    (.skip)))
   (.seq (.seq (.ops [{dst:=some 19,op:=.mov (.s 0)},
    {dst:=some 20,op:=.icall 28 [(.s 19),(.c (.str [119,104,101,110]))]},
    {dst:=some 7,op:=.mov (.s 20)}])
   (.block 0 (.loop [0,4,6,7] F_tparse_parser_clause_L0)))
   (.seq (.ops [{dst:=some 34,op:=.mov (.s 0)},
    {dst:=some 35,op:=.icall 24 [(.s 34),(.c (.str [112,97,121]))]}])
   (.seq (.ops [{dst:=some 36,op:=.mov (.s 0)},
    {dst:=some 37,op:=.icall 27 [(.s 36)]},
    {dst:=some 5,op:=.mov (.s 37)}])
   (.seq (.ops [{dst:=some 38,op:=.mov (.s 0)},
    {dst:=some 39,op:=.icall 59 [(.s 38)]},
    {dst:=some 40,op:=.fld 2 (.s 6)},
    {dst:=none,op:=.stor 7 (.s 40) (.s 39)}])
   (.seq (.seq (.ops [{dst:=some 41,op:=.fld 2 (.s 6)},
    {dst:=some 42,op:=.load 7 true (.s 41)},
    {dst:=some 43,op:=.call 60 [(.s 42)]},
    {dst:=some 44,op:=.bin .gtr (.s 43) (.c (.int .i64 24))}])
   (.cond (.s 44)
    (.pan [{dst:=some 45,op:=.mov (.s 5)},
     {dst:=some 46,op:=.bld [(.int .i64 0),(.int .i64 0)] [(0,1,(.s 45)),(1,1,(.c (.int .i64 2)))]}] 47 66 (.s 46))
    (.skip)))
   (.seq (.ops [{dst:=some 48,op:=.mov (.s 0)},
    {dst:=some 49,op:=.icall 24 [(.s 48),(.c (.str [59]))]}])
   (.seq (.ops [{dst:=some 50,op:=.load 9 true (.s 6)},
    {dst:=none,op:=.stor 9 (.s 4) (.s 50)}])
   (.ret))))))))))))
  [.cell 4 9 true]
theorem tr_tparse_parser_clause:trF Tryz.prog [24,25,26,27,28,29,30,53,55,57,58,59,83,84,85,86,87,88,102,103,56,82,50000007] 29 [[0,4,6,7]]=some F_tparse_parser_clause:=by kernel_rfl
def F_tparse_parser_next:PF:=
 .mk
  (.seq (.ops [{dst:=some 4,op:=.box (.c (.agg [(.int .i64 0),(.str []),(.int .i64 0),(.int .i64 0)]))},
    {dst:=some 5,op:=.mov (.c (.bool false))}])
   (.seq (.seq (.ops [{dst:=some 6,op:=.mov (.s 0)},
    {dst:=some 7,op:=.nilc (.s 6)},
    {dst:=some 8,op:=.fld 0 (.s 7)},
    {dst:=some 9,op:=.load 1 false (.s 8)},
    {dst:=some 10,op:=.len false (.s 9)},
    {dst:=some 11,op:=.bin .eql (.s 10) (.c (.int .i64 0))},
    {dst:=some 12,op:=.mov (.s 11)},
    {dst:=some 13,op:=.mov (.s 0),guard:=some (12,false)},
    {dst:=some 14,op:=.nilc (.s 13),guard:=some (12,false)},
    {dst:=some 15,op:=.fld 0 (.s 14),guard:=some (12,false)},
    {dst:=some 16,op:=.load 1 false (.s 15),guard:=some (12,false)},
    {dst:=some 17,op:=.idxS 4 (.s 16) (.c (.int .i64 0)),guard:=some (12,false)},
    {dst:=some 18,op:=.fld 0 (.s 17),guard:=some (12,false)},
    {dst:=some 19,op:=.load 1 false (.s 18),guard:=some (12,false)},
    {dst:=some 20,op:=.mov (.s 1),guard:=some (12,false)},
    {dst:=some 21,op:=.bin .neq (.s 19) (.s 20),guard:=some (12,false)},
    {dst:=some 22,op:=.pick (.s 12) (.c (.bool true)) (.s 21)}])
   (.cond (.s 22)
    (.seq (.ops [{dst:=some 23,op:=.bld [(.int .i64 0),(.str []),(.int .i64 0),(.int .i64 0)] []},
     {dst:=none,op:=.stor 4 (.s 4) (.s 23)},
     {dst:=some 5,op:=.mov (.c (.bool false))}])
    (.ret))
    (.skip)))
   (.seq (.ops [{dst:=some 24,op:=.mov (.s 0)},
    {dst:=some 25,op:=.nilc (.s 24)},
    {dst:=some 26,op:=.fld 0 (.s 25)},
    {dst:=some 27,op:=.load 1 false (.s 26)},
    {dst:=some 28,op:=.idxS 4 (.s 27) (.c (.int .i64 0))},
    {dst:=some 29,op:=.load 4 true (.s 28)},
    {dst:=none,op:=.stor 4 (.s 4) (.s 29)},
    {dst:=some 5,op:=.mov (.c (.bool true))}])
   (.ret))))
  [.cell 4 4 true,.tmp 5]
theorem tr_tparse_parser_next:trF Tryz.prog [24,25,26,27,28,29,30,53,55,57,58,59,83,84,85,86,87,88,102,103,56,82,50000007] 53 []=some F_tparse_parser_next:=by kernel_rfl
def F_tparse_parser_choose:PF:=
 .mk
  (.seq (.ops [{dst:=some 4,op:=.mov (.c (.int .i64 0))},
    {dst:=some 5,op:=.mov (.c (.bool false))}])
   (.seq (.ops [{dst:=some 10,op:=.mov (.s 0)},
    {dst:=some 11,op:=.icall 53 [(.s 10),(.c (.int .i64 1))]},
    {dst:=some 9,op:=.mov (.s 11)},
    {dst:=some 12,op:=.ext (.s 9) 0},
    {dst:=some 13,op:=.ext (.s 9) 1},
    {dst:=some 6,op:=.box (.c (.agg [(.int .i64 0),(.str []),(.int .i64 0),(.int .i64 0)]))},
    {dst:=none,op:=.stor 4 (.s 6) (.s 12)},
    {dst:=some 7,op:=.mov (.s 13)}])
   (.seq (.ops [{dst:=some 14,op:=.mov (.s 1)},
    {dst:=some 15,op:=.call 81 [(.s 14)]},
    {dst:=some 16,op:=.fld 1 (.s 6)},
    {dst:=some 17,op:=.load 1 false (.s 16)},
    {dst:=some 18,op:=.call 80 [(.s 15),(.s 17)]},
    {dst:=some 8,op:=.mov (.s 18)}])
   (.seq (.seq (.ops [{dst:=some 19,op:=.mov (.s 7)},
    {dst:=some 20,op:=.un .not (.s 19)},
    {dst:=some 21,op:=.mov (.s 20)},
    {dst:=some 22,op:=.mov (.s 8),guard:=some (21,false)},
    {dst:=some 23,op:=.bin .lss (.s 22) (.c (.int .i64 0)),guard:=some (21,false)},
    {dst:=some 24,op:=.pick (.s 21) (.c (.bool true)) (.s 23)}])
   (.cond (.s 24)
    (.seq (.ops [{dst:=some 4,op:=.mov (.c (.int .i64 0))},
     {dst:=some 5,op:=.mov (.c (.bool false))}])
    (.ret))
    (.skip)))
   (.seq (.ops [{dst:=some 25,op:=.mov (.s 0)},
    {dst:=some 26,op:=.mov (.s 0)},
    {dst:=some 27,op:=.nilc (.s 26)},
    {dst:=some 28,op:=.fld 0 (.s 27)},
    {dst:=some 29,op:=.load 1 false (.s 28)},
    {dst:=some 30,op:=.slice 4 (.s 29) (some (.c (.int .i64 1))) none none},
    {dst:=some 31,op:=.nilc (.s 25)},
    {dst:=some 32,op:=.fld 0 (.s 31)},
    {dst:=none,op:=.stor 1 (.s 32) (.s 30)}])
   (.seq (.ops [{dst:=some 33,op:=.mov (.s 8)},
    {dst:=some 4,op:=.mov (.s 33)},
    {dst:=some 5,op:=.mov (.c (.bool true))}])
   (.ret)))))))
  [.tmp 4,.tmp 5]
theorem tr_tparse_parser_choose:trF Tryz.prog [24,25,26,27,28,29,30,53,55,57,58,59,83,84,85,86,87,88,102,103,56,82,50000007] 55 []=some F_tparse_parser_choose:=by kernel_rfl
def F_slices_ContainsFunc_api_Clause_api_Clause:PF:=
 .mk
  (.seq (.ops [{dst:=some 4,op:=.mov (.c (.bool false))}])
   (.seq (.ops [{dst:=some 5,op:=.mov (.s 0)},
    {dst:=some 6,op:=.mov (.s 1)},
    {dst:=some 7,op:=.icall 82 [(.s 5),(.s 6)]},
    {dst:=some 8,op:=.bin .geq (.s 7) (.c (.int .i64 0))},
    {dst:=some 4,op:=.mov (.s 8)}])
   (.ret)))
  [.tmp 4]
theorem tr_slices_ContainsFunc_api_Clause_api_Clause:trF Tryz.prog [24,25,26,27,28,29,30,53,55,57,58,59,83,84,85,86,87,88,102,103,56,82,50000007] 56 []=some F_slices_ContainsFunc_api_Clause_api_Clause:=by kernel_rfl
def F_tparse_parser_clause_1:PF:=
 .mk
  (.seq (.ops [{dst:=some 2,op:=.box (.s 0)},
    {dst:=some 3,op:=.mov (.c (.bool false))}])
   (.seq (.ops [{dst:=some 4,op:=.fld 0 (.s 2)},
    {dst:=some 5,op:=.load 1 false (.s 4)},
    {dst:=some 6,op:=.fld 0 (.s 1)},
    {dst:=some 7,op:=.load 1 false (.s 6)},
    {dst:=some 8,op:=.bin .eql (.s 5) (.s 7)},
    {dst:=some 3,op:=.mov (.s 8)}])
   (.ret)))
  [.tmp 3]
theorem tr_tparse_parser_clause_1:trF Tryz.prog [24,25,26,27,28,29,30,53,55,57,58,59,83,84,85,86,87,88,102,103,56,82,50000007] 57 []=some F_tparse_parser_clause_1:=by kernel_rfl
def F_tparse_parser_expr:PF:=
 .mk
  (.seq (.ops [{dst:=some 1,op:=.box (.s 0)},
    {dst:=some 2,op:=.box (.c (.agg [(.int .i64 0),(.int .i64 0),(.int .i64 0),(.int .i64 0),(.int .i64 0),(.int .i64 0),(.slc 0 [] true)]))}])
   (.seq (.ops [{dst:=some 4,op:=.mkclo 84 [(.s 1)]},
    {dst:=some 3,op:=.mov (.s 4)}])
   (.seq (.ops [{dst:=some 5,op:=.load 1 false (.s 1)},
    {dst:=some 6,op:=.mov (.s 3)},
    {dst:=some 7,op:=.mkclo 88 [(.s 1)]},
    {dst:=some 8,op:=.icall 85 [(.s 5),(.s 6),(.s 7)]},
    {dst:=none,op:=.stor 7 (.s 2) (.s 8)}])
   (.ret))))
  [.cell 2 7 true]
theorem tr_tparse_parser_expr:trF Tryz.prog [24,25,26,27,28,29,30,53,55,57,58,59,83,84,85,86,87,88,102,103,56,82,50000007] 59 []=some F_tparse_parser_expr:=by kernel_rfl
def F_slices_IndexFunc_api_Clause_api_Clause_L0:PC:=
 .seq (.ops [{dst:=some 9,op:=.bin .lss (.s 8) (.s 7)}])
  (.seq (.cond (.s 9)
   (.skip)
   (.exit 0))
  (.seq (.block 1 (.seq (.ops [{dst:=some 10,op:=.mov (.s 8)},
    {dst:=some 5,op:=.mov (.s 10)}])
   (.seq (.ops [{dst:=some 11,op:=.mov (.s 1)},
    {dst:=some 12,op:=.mov (.s 0)},
    {dst:=some 13,op:=.mov (.s 5)},
    {dst:=some 14,op:=.idxS 9 (.s 12) (.s 13)},
    {dst:=some 15,op:=.load 9 true (.s 14)},
    {dst:=some 16,op:=.callv (.s 11) [(.s 15)]}])
   (.cond (.s 16)
    (.seq (.ops [{dst:=some 17,op:=.mov (.s 5)},
     {dst:=some 4,op:=.mov (.s 17)}])
    (.ret))
    (.skip)))))
  (.ops [{dst:=some 18,op:=.bin .add (.s 8) (.c (.int .i64 1))},
   {dst:=some 8,op:=.mov (.s 18)}])))
def F_slices_IndexFunc_api_Clause_api_Clause:PF:=
 .mk
  (.seq (.ops [{dst:=some 4,op:=.mov (.c (.int .i64 0))}])
   (.seq (.seq (.ops [{dst:=some 6,op:=.mov (.s 0)},
    {dst:=some 7,op:=.len false (.s 6)},
    {dst:=some 8,op:=.mov (.c (.int .i64 0))}])
   (.block 0 (.loop [0,1,7,8] F_slices_IndexFunc_api_Clause_api_Clause_L0)))
   (.seq (.ops [{dst:=some 4,op:=.mov (.c (.int .i64 (-1)))}])
   (.ret))))
  [.tmp 4]
theorem tr_slices_IndexFunc_api_Clause_api_Clause:trF Tryz.prog [24,25,26,27,28,29,30,53,55,57,58,59,83,84,85,86,87,88,102,103,56,82,50000007] 82 [[0,1,7,8]]=some F_slices_IndexFunc_api_Clause_api_Clause:=by kernel_rfl
def F_tparse_parser_integer:PF:=
 .mk
  (.seq (.ops [{dst:=some 2,op:=.mov (.c (.int .i64 0))}])
   (.seq (.ops [{dst:=some 6,op:=.mov (.s 0)},
    {dst:=some 7,op:=.icall 53 [(.s 6),(.c (.int .i64 2))]},
    {dst:=some 5,op:=.mov (.s 7)},
    {dst:=some 8,op:=.ext (.s 5) 0},
    {dst:=some 9,op:=.ext (.s 5) 1},
    {dst:=some 3,op:=.box (.c (.agg [(.int .i64 0),(.str []),(.int .i64 0),(.int .i64 0)]))},
    {dst:=none,op:=.stor 4 (.s 3) (.s 8)},
    {dst:=some 4,op:=.mov (.s 9)}])
   (.seq (.seq (.ops [{dst:=some 10,op:=.mov (.s 4)},
    {dst:=some 11,op:=.un .not (.s 10)}])
   (.cond (.s 11)
    (.ops [{dst:=some 12,op:=.mov (.s 0)},
     {dst:=some 13,op:=.icall 30 [(.s 12)]}])
    (.skip)))
   (.seq (.ops [{dst:=some 14,op:=.mov (.s 0)},
    {dst:=some 15,op:=.mov (.s 0)},
    {dst:=some 16,op:=.nilc (.s 15)},
    {dst:=some 17,op:=.fld 0 (.s 16)},
    {dst:=some 18,op:=.load 1 false (.s 17)},
    {dst:=some 19,op:=.slice 4 (.s 18) (some (.c (.int .i64 1))) none none},
    {dst:=some 20,op:=.nilc (.s 14)},
    {dst:=some 21,op:=.fld 0 (.s 20)},
    {dst:=none,op:=.stor 1 (.s 21) (.s 19)}])
   (.seq (.ops [{dst:=some 22,op:=.fld 2 (.s 3)},
    {dst:=some 23,op:=.load 1 false (.s 22)},
    {dst:=some 2,op:=.mov (.s 23)}])
   (.ret))))))
  [.tmp 2]
theorem tr_tparse_parser_integer:trF Tryz.prog [24,25,26,27,28,29,30,53,55,57,58,59,83,84,85,86,87,88,102,103,56,82,50000007] 83 []=some F_tparse_parser_integer:=by kernel_rfl
def F_tparse_parser_expr_1:PF:=
 .mk
  (.seq (.ops [{dst:=some 1,op:=.box (.c (.agg [(.int .i64 0),(.int .i64 0),(.int .i64 0),(.int .i64 0),(.int .i64 0),(.int .i64 0),(.slc 0 [] true)]))}])
   (.seq (.ops [{dst:=some 2,op:=.load 1 false (.s 0)},
    {dst:=some 3,op:=.load 1 false (.s 0)},
    {dst:=some 4,op:=.mkclo 5000086 [(.s 3)]},
    {dst:=some 5,op:=.mkclo 87 [(.s 0)]},
    {dst:=some 6,op:=.icall 85 [(.s 2),(.s 4),(.s 5)]},
    {dst:=none,op:=.stor 7 (.s 1) (.s 6)}])
   (.ret)))
  [.cell 1 7 true]
theorem tr_tparse_parser_expr_1:trF Tryz.prog [24,25,26,27,28,29,30,53,55,57,58,59,83,84,85,86,87,88,102,103,56,82,50000007] 84 []=some F_tparse_parser_expr_1:=by kernel_rfl
def F_tparse_parser_chain_L0:PC:=
 .seq (.seq (.ops [{dst:=some 13,op:=.mov (.s 8)},
   {dst:=some 14,op:=.bin .neq (.s 13) (.c (.int .i64 0))}])
  (.cond (.s 14)
   (.skip)
   (.exit 0)))
  (.seq (.block 1 (.anyK [({dst:=some 17,op:=.mov (.s 8)},false,[]),
    ({dst:=some 18,op:=.load 7 true (.s 7)},true,[]),
    ({dst:=some 19,op:=.mov (.s 1)},false,[]),
    ({dst:=some 20,op:=.callv (.s 19) []},false,[1]),
    ({dst:=some 21,op:=.bslc 7 [(.s 18),(.s 20)]},false,[]),
    ({dst:=some 22,op:=.bld [(.int .i64 0),(.int .i64 0),(.int .i64 0),(.int .i64 0),(.int .i64 0),(.int .i64 0),(.slc 0 [] true)] [(0,1,(.s 17)),(6,1,(.s 21))]},false,[]),
    ({dst:=none,op:=.stor 7 (.s 7) (.s 22)},false,[])]))
  (.ops [{dst:=some 15,op:=.mov (.s 2)},
   {dst:=some 16,op:=.callv (.s 15) []},
   {dst:=some 8,op:=.mov (.s 16)}]))
def F_tparse_parser_chain:PF:=
 .mk
  (.seq (.ops [{dst:=some 6,op:=.box (.c (.agg [(.int .i64 0),(.int .i64 0),(.int .i64 0),(.int .i64 0),(.int .i64 0),(.int .i64 0),(.slc 0 [] true)]))}])
   (.seq (.ops [{dst:=some 9,op:=.mov (.s 1)},
    {dst:=some 10,op:=.callv (.s 9) []},
    {dst:=some 7,op:=.box (.c (.agg [(.int .i64 0),(.int .i64 0),(.int .i64 0),(.int .i64 0),(.int .i64 0),(.int .i64 0),(.slc 0 [] true)]))},
    {dst:=none,op:=.stor 7 (.s 7) (.s 10)}])
   (.seq (.seq (.ops [{dst:=some 11,op:=.mov (.s 2)},
    {dst:=some 12,op:=.callv (.s 11) []},
    {dst:=some 8,op:=.mov (.s 12)}])
   (.block 0 (.loop [1,2,6,7,8] F_tparse_parser_chain_L0)))
   (.seq (.ops [{dst:=some 23,op:=.load 7 true (.s 7)},
    {dst:=none,op:=.stor 7 (.s 6) (.s 23)}])
   (.ret)))))
  [.cell 6 7 true]
theorem tr_tparse_parser_chain:trF Tryz.prog [24,25,26,27,28,29,30,53,55,57,58,59,83,84,85,86,87,88,102,103,56,82,50000007] 85 [[1,2,6,7,8]]=some F_tparse_parser_chain:=by kernel_rfl
def F_tparse_parser_factor:PF:=
 .mk
  (.seq (.ops [{dst:=some 2,op:=.box (.c (.agg [(.int .i64 0),(.int .i64 0),(.int .i64 0),(.int .i64 0),(.int .i64 0),(.int .i64 0),(.slc 0 [] true)]))}])
   (.seq (.seq (.ops [{dst:=some 10,op:=.mov (.s 0)},
    {dst:=some 11,op:=.icall 53 [(.s 10),(.c (.int .i64 2))]},
    {dst:=some 9,op:=.mov (.s 11)},
    {dst:=some 12,op:=.ext (.s 9) 0},
    {dst:=some 13,op:=.ext (.s 9) 1},
    {dst:=some 3,op:=.box (.c (.agg [(.int .i64 0),(.str []),(.int .i64 0),(.int .i64 0)]))},
    {dst:=none,op:=.stor 4 (.s 3) (.s 12)},
    {dst:=some 4,op:=.mov (.s 13)}])
   (.seq (.ops [{dst:=some 14,op:=.mov (.s 4)}])
   (.cond (.s 14)
    (.seq (.ops [{dst:=some 15,op:=.mov (.s 0)},
     {dst:=some 16,op:=.icall 83 [(.s 15)]},
     {dst:=some 5,op:=.mov (.s 16)}])
    (.seq (.ops [{dst:=some 17,op:=.mov (.s 5)},
     {dst:=some 18,op:=.mov (.s 0)},
     {dst:=some 19,op:=.icall 102 [(.s 18)]},
     {dst:=some 20,op:=.bld [(.int .i64 0),(.int .i64 0),(.int .i64 0),(.int .i64 0),(.int .i64 0),(.int .i64 0),(.slc 0 [] true)] [(0,1,(.c (.int .i64 1))),(1,1,(.s 17)),(2,4,(.s 19))]},
     {dst:=none,op:=.stor 7 (.s 2) (.s 20)}])
    (.ret)))
    (.skip))))
   (.seq (.seq (.ops [{dst:=some 21,op:=.mov (.s 0)},
    {dst:=some 22,op:=.icall 28 [(.s 21),(.c (.str [40]))]}])
   (.cond (.s 22)
    (.seq (.ops [{dst:=some 23,op:=.mov (.s 0)},
     {dst:=some 24,op:=.icall 59 [(.s 23)]},
     {dst:=some 6,op:=.box (.c (.agg [(.int .i64 0),(.int .i64 0),(.int .i64 0),(.int .i64 0),(.int .i64 0),(.int .i64 0),(.slc 0 [] true)]))},
     {dst:=none,op:=.stor 7 (.s 6) (.s 24)}])
    (.seq (.ops [{dst:=some 25,op:=.mov (.s 0)},
     {dst:=some 26,op:=.icall 24 [(.s 25),(.c (.str [41]))]}])
    (.seq (.ops [{dst:=some 27,op:=.load 7 true (.s 6)},
     {dst:=none,op:=.stor 7 (.s 2) (.s 27)}])
    (.ret))))
    (.skip)))
   (.seq (.seq (.ops [{dst:=some 28,op:=.mov (.s 0)},
    {dst:=some 29,op:=.icall 28 [(.s 28),(.c (.str [105,102]))]}])
   (.cond (.s 29)
    (.seq (.ops [{dst:=some 30,op:=.mov (.s 0)},
     {dst:=some 31,op:=.bslc 1 [(.c (.str [60])),(.c (.str [44])),(.c (.str [44])),(.c (.str [41]))]},
     {dst:=some 32,op:=.icall 103 [(.s 30),(.c (.int .i64 11)),(.s 31)]},
     {dst:=none,op:=.stor 7 (.s 2) (.s 32)}])
    (.ret))
    (.skip)))
   (.seq (.seq (.ops [{dst:=some 34,op:=.mov (.s 0)},
    {dst:=some 35,op:=.icall 55 [(.s 34),(.c (.str [109,105,110,32,109,97,120,32,100,111,119,110,32,117,112,32,104,97,108,102]))]},
    {dst:=some 33,op:=.mov (.s 35)},
    {dst:=some 36,op:=.ext (.s 33) 0},
    {dst:=some 37,op:=.ext (.s 33) 1},
    {dst:=some 7,op:=.mov (.s 36)},
    {dst:=some 8,op:=.mov (.s 37)}])
   (.seq (.ops [{dst:=some 38,op:=.mov (.s 8)}])
   (.cond (.s 38)
    (.seq (.ops [{dst:=some 39,op:=.mov (.s 0)},
     {dst:=some 40,op:=.mov (.s 7)},
     {dst:=some 41,op:=.bin .add (.c (.int .i64 6)) (.s 40)},
     {dst:=some 42,op:=.bslc 1 [(.c (.str [44])),(.c (.str [41]))]},
     {dst:=some 43,op:=.icall 103 [(.s 39),(.s 41),(.s 42)]},
     {dst:=none,op:=.stor 7 (.s 2) (.s 43)}])
    (.ret))
    (.skip))))
   (.seq (.ops [{dst:=some 44,op:=.mov (.s 0)},
    {dst:=some 45,op:=.icall 26 [(.s 44),(.c (.str [116,121,112,101,32,111,119,110,101,114,32,114,97,105,108,119,97,121,32,115,104,105,112,112,101,114,32,99,108,97,115,115,32,119,101,105,103,104,116,32,107,109,32,109,105,110,117,116,101,115,32,119,111,114,107,105,110,103,32,99,111,100,101,32,119,111,114,116,104,32,99,111,115,116,32,109,111,110,116,104,32,98,101,103,105,110,32,112,97,114,116,115,32,112,97,114,116]))]},
    {dst:=some 46,op:=.bld [(.int .i64 0),(.int .i64 0),(.int .i64 0),(.int .i64 0),(.int .i64 0),(.int .i64 0),(.slc 0 [] true)] [(0,1,(.c (.int .i64 2))),(1,1,(.s 45))]},
    {dst:=none,op:=.stor 7 (.s 2) (.s 46)}])
   (.ret)))))))
  [.cell 2 7 true]
theorem tr_tparse_parser_factor:trF Tryz.prog [24,25,26,27,28,29,30,53,55,57,58,59,83,84,85,86,87,88,102,103,56,82,50000007] 86 []=some F_tparse_parser_factor:=by kernel_rfl
def F_tparse_parser_expr_1_1:PF:=
 .mk
  (.seq (.ops [{dst:=some 1,op:=.mov (.c (.int .i64 0))}])
   (.seq (.seq (.ops [{dst:=some 2,op:=.load 1 false (.s 0)},
    {dst:=some 3,op:=.icall 28 [(.s 2),(.c (.str [42]))]}])
   (.cond (.s 3)
    (.seq (.ops [{dst:=some 1,op:=.mov (.c (.int .i64 5))}])
    (.ret))
    (.skip)))
   (.seq (.ops [{dst:=some 1,op:=.mov (.c (.int .i64 0))}])
   (.ret))))
  [.tmp 1]
theorem tr_tparse_parser_expr_1_1:trF Tryz.prog [24,25,26,27,28,29,30,53,55,57,58,59,83,84,85,86,87,88,102,103,56,82,50000007] 87 []=some F_tparse_parser_expr_1_1:=by kernel_rfl
def F_tparse_parser_expr_2:PF:=
 .mk
  (.seq (.ops [{dst:=some 1,op:=.mov (.c (.int .i64 0))}])
   (.seq (.block 0 (.seq (.ops [{dst:=some 3,op:=.load 1 false (.s 0)},
     {dst:=some 4,op:=.icall 28 [(.s 3),(.c (.str [43]))]},
     {dst:=some 2,op:=.mov (.s 4)}])
    (.cond (.s 2)
     (.seq (.ops [{dst:=some 1,op:=.mov (.c (.int .i64 3))}])
     (.ret))
     (.seq (.ops [{dst:=some 6,op:=.load 1 false (.s 0)},
      {dst:=some 7,op:=.icall 28 [(.s 6),(.c (.str [45]))]},
      {dst:=some 5,op:=.mov (.s 7)}])
     (.cond (.s 5)
      (.seq (.ops [{dst:=some 1,op:=.mov (.c (.int .i64 4))}])
      (.ret))
      (.skip))))))
   (.seq (.ops [{dst:=some 1,op:=.mov (.c (.int .i64 0))}])
   (.ret))))
  [.tmp 1]
theorem tr_tparse_parser_expr_2:trF Tryz.prog [24,25,26,27,28,29,30,53,55,57,58,59,83,84,85,86,87,88,102,103,56,82,50000007] 88 []=some F_tparse_parser_expr_2:=by kernel_rfl
def F_tparse_parser_unit:PF:=
 .mk
  (.seq (.ops [{dst:=some 2,op:=.box (.c (.agg [(.int .i64 0),(.int .i64 0),(.int .i64 0),(.int .i64 0)]))}])
   (.seq (.seq (.ops [{dst:=some 6,op:=.mov (.s 0)},
    {dst:=some 7,op:=.icall 55 [(.s 6),(.c (.str [109,111,110,101,121,32,109,105,110,117,116,101,32,107,109,32,107,103]))]},
    {dst:=some 5,op:=.mov (.s 7)},
    {dst:=some 8,op:=.ext (.s 5) 0},
    {dst:=some 9,op:=.ext (.s 5) 1},
    {dst:=some 3,op:=.mov (.s 8)},
    {dst:=some 4,op:=.mov (.s 9)}])
   (.seq (.ops [{dst:=some 10,op:=.mov (.s 4)}])
   (.cond (.s 10)
    (.ops [{dst:=some 11,op:=.mov (.s 3)},
     {dst:=some 12,op:=.idxA 4 1 (.s 2) (.s 11)},
     {dst:=some 13,op:=.load 1 false (.s 12)},
     {dst:=some 14,op:=.bin .add (.s 13) (.c (.int .i64 1))},
     {dst:=some 15,op:=.idxA 4 1 (.s 2) (.s 11)},
     {dst:=none,op:=.stor 1 (.s 15) (.s 14)}])
    (.skip))))
   (.seq (.seq (.ops [{dst:=some 16,op:=.mov (.s 0)},
    {dst:=some 17,op:=.icall 28 [(.s 16),(.c (.str [112,101,114]))]}])
   (.cond (.s 17)
    (.ops [{dst:=some 18,op:=.mov (.s 0)},
     {dst:=some 19,op:=.icall 26 [(.s 18),(.c (.str [109,111,110,101,121,32,109,105,110,117,116,101,32,107,109,32,107,103]))]},
     {dst:=some 20,op:=.idxA 4 1 (.s 2) (.s 19)},
     {dst:=some 21,op:=.load 1 false (.s 20)},
     {dst:=some 22,op:=.bin .sub (.s 21) (.c (.int .i64 1))},
     {dst:=some 23,op:=.idxA 4 1 (.s 2) (.s 19)},
     {dst:=none,op:=.stor 1 (.s 23) (.s 22)}])
    (.skip)))
   (.seq (.ops [{dst:=some 24,op:=.load 4 true (.s 2)},
    {dst:=none,op:=.stor 4 (.s 2) (.s 24)}])
   (.ret)))))
  [.cell 2 4 true]
theorem tr_tparse_parser_unit:trF Tryz.prog [24,25,26,27,28,29,30,53,55,57,58,59,83,84,85,86,87,88,102,103,56,82,50000007] 102 []=some F_tparse_parser_unit:=by kernel_rfl
end Go.Proofs.YtfbbaceiimdejaaGreatDoor.PI
