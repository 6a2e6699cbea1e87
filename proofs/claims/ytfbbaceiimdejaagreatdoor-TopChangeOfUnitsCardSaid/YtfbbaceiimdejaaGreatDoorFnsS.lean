/-
  The translations of this seat's functions into pure code, each with the kernel's word that it is the translation. Written by a program (gen.py).
  Conditions: none.
-/
import Derived.Test.YtfbbaceiimdejaaGreatDoorEngW
import Derived.KernelRfl
set_option linter.unusedVariables false
set_option linter.unusedSimpArgs false
namespace Go.Proofs.YtfbbaceiimdejaaGreatDoor.PI
open Go
def F2_strings_Trim:PF:=
 .mk
  (.seq (.ops [{dst:=some 4,op:=.mov (.c (.str []))}])
   (.seq (.seq (.ops [{dst:=some 7,op:=.mov (.s 0)},
    {dst:=some 8,op:=.bin .eql (.s 7) (.c (.str []))},
    {dst:=some 9,op:=.mov (.s 8)},
    {dst:=some 10,op:=.mov (.s 1),guard:=some (9,false)},
    {dst:=some 11,op:=.bin .eql (.s 10) (.c (.str [])),guard:=some (9,false)},
    {dst:=some 12,op:=.pick (.s 9) (.c (.bool true)) (.s 11)}])
   (.cond (.s 12)
    (.seq (.ops [{dst:=some 13,op:=.mov (.s 0)},
     {dst:=some 4,op:=.mov (.s 13)}])
    (.ret))
    (.skip)))
   (.seq (.seq (.ops [{dst:=some 14,op:=.mov (.s 1)},
    {dst:=some 15,op:=.len true (.s 14)},
    {dst:=some 16,op:=.bin .eql (.s 15) (.c (.int .i64 1))},
    {dst:=some 17,op:=.mov (.s 16)},
    {dst:=some 18,op:=.mov (.s 1),guard:=some (17,true)},
    {dst:=some 19,op:=.idx (.s 18) (.c (.int .i64 0)),guard:=some (17,true)},
    {dst:=some 20,op:=.bin .lss (.s 19) (.c (.int .u8 128)),guard:=some (17,true)},
    {dst:=some 21,op:=.pick (.s 17) (.s 20) (.c (.bool false))}])
   (.cond (.s 21)
    (.seq (.ops [{dst:=some 22,op:=.mov (.s 0)},
     {dst:=some 23,op:=.mov (.s 1)},
     {dst:=some 24,op:=.idx (.s 23) (.c (.int .i64 0))},
     {dst:=some 25,op:=.call 105 [(.s 22),(.s 24)]},
     {dst:=some 26,op:=.mov (.s 1)},
     {dst:=some 27,op:=.idx (.s 26) (.c (.int .i64 0))},
     {dst:=some 28,op:=.call 104 [(.s 25),(.s 27)]},
     {dst:=some 4,op:=.mov (.s 28)}])
    (.ret))
    (.skip)))
   (.seq (.seq (.ops [{dst:=some 30,op:=.mov (.s 1)},
    {dst:=some 31,op:=.call 106 [(.s 30)]},
    {dst:=some 29,op:=.mov (.s 31)},
    {dst:=some 32,op:=.ext (.s 29) 0},
    {dst:=some 33,op:=.ext (.s 29) 1},
    {dst:=some 5,op:=.box (.c (.agg [(.bool false),(.bool false),(.bool false),(.bool false),(.bool false),(.bool false),(.bool false),(.bool false),(.bool false),(.bool false),(.bool false),(.bool false),(.bool false),(.bool false),(.bool false),(.bool false),(.bool false),(.bool false),(.bool false),(.bool false),(.bool false),(.bool false),(.bool false),(.bool false),(.bool false),(.bool false),(.bool false),(.bool false),(.bool false),(.bool false),(.bool false),(.bool false),(.bool false),(.bool false),(.bool false),(.bool false),(.bool false),(.bool false),(.bool false),(.bool false),(.bool false),(.bool false),(.bool false),(.bool false),(.bool false),(.bool false),(.bool false),(.bool false),(.bool false),(.bool false),(.bool false),(.bool false),(.bool false),(.bool false),(.bool false),(.bool false),(.bool false),(.bool false),(.bool false),(.bool false),(.bool false),(.bool false),(.bool false),(.bool false),(.bool false),(.bool false),(.bool false),(.bool false),(.bool false),(.bool false),(.bool false),(.bool false),(.bool false),(.bool false),(.bool false),(.bool false),(.bool false),(.bool false),(.bool false),(.bool false),(.bool false),(.bool false),(.bool false),(.bool false),(.bool false),(.bool false),(.bool false),(.bool false),(.bool false),(.bool false),(.bool false),(.bool false),(.bool false),(.bool false),(.bool false),(.bool false),(.bool false),(.bool false),(.bool false),(.bool false),(.bool false),(.bool false),(.bool false),(.bool false),(.bool false),(.bool false),(.bool false),(.bool false),(.bool false),(.bool false),(.bool false),(.bool false),(.bool false),(.bool false),(.bool false),(.bool false),(.bool false),(.bool false),(.bool false),(.bool false),(.bool false),(.bool false),(.bool false),(.bool false),(.bool false),(.bool false),(.bool false),(.bool false),(.bool false),(.bool false),(.bool false),(.bool false),(.bool false),(.bool false),(.bool false),(.bool false),(.bool false),(.bool false),(.bool false),(.bool false),(.bool false),(.bool false),(.bool false),(.bool false),(.bool false),(.bool false),(.bool false),(.bool false),(.bool false),(.bool false),(.bool false),(.bool false),(.bool false),(.bool false),(.bool false),(.bool false),(.bool false),(.bool false),(.bool false),(.bool false),(.bool false),(.bool false),(.bool false),(.bool false),(.bool false),(.bool false),(.bool false),(.bool false),(.bool false),(.bool false),(.bool false),(.bool false),(.bool false),(.bool false),(.bool false),(.bool false),(.bool false),(.bool false),(.bool false),(.bool false),(.bool false),(.bool false),(.bool false),(.bool false),(.bool false),(.bool false),(.bool false),(.bool false),(.bool false),(.bool false),(.bool false),(.bool false),(.bool false),(.bool false),(.bool false),(.bool false),(.bool false),(.bool false),(.bool false),(.bool false),(.bool false),(.bool false),(.bool false),(.bool false),(.bool false),(.bool false),(.bool false),(.bool false),(.bool false),(.bool false),(.bool false),(.bool false),(.bool false),(.bool false),(.bool false),(.bool false),(.bool false),(.bool false),(.bool false),(.bool false),(.bool false),(.bool false),(.bool false),(.bool false),(.bool false),(.bool false),(.bool false),(.bool false),(.bool false),(.bool false),(.bool false),(.bool false),(.bool false),(.bool false),(.bool false),(.bool false),(.bool false),(.bool false),(.bool false),(.bool false),(.bool false),(.bool false),(.bool false),(.bool false),(.bool false),(.bool false),(.bool false),(.bool false),(.bool false),(.bool false),(.bool false),(.bool false),(.bool false),(.bool false),(.bool false),(.bool false)]))},
    {dst:=none,op:=.stor 256 (.s 5) (.s 32)},
    {dst:=some 6,op:=.mov (.s 33)}])
   (.seq (.ops [{dst:=some 34,op:=.mov (.s 6)}])
   (.cond (.s 34)
    (.seq (.ops [{dst:=some 35,op:=.mov (.s 0)},
     {dst:=some 36,op:=.icall 108 [(.s 35),(.s 5)]},
     {dst:=some 37,op:=.icall 107 [(.s 36),(.s 5)]},
     {dst:=some 4,op:=.mov (.s 37)}])
    (.ret))
    (.skip))))
   (.seq (.ops [{dst:=some 38,op:=.mov (.s 0)},
    {dst:=some 39,op:=.mov (.s 1)},
    {dst:=some 40,op:=.call 110 [(.s 38),(.s 39)]},
    {dst:=some 41,op:=.mov (.s 1)},
    {dst:=some 42,op:=.call 109 [(.s 40),(.s 41)]},
    {dst:=some 4,op:=.mov (.s 42)}])
   (.ret))))))
  [.tmp 4]
theorem tr2_strings_Trim:trF Tryz.prog [107,108,113] 89 []=some F2_strings_Trim:=by kernel_rfl
def F2_strings_trimLeftASCII_L0:PC:=
 .seq (.seq (.ops [{dst:=some 5,op:=.mov (.s 0)},
   {dst:=some 6,op:=.len true (.s 5)},
   {dst:=some 7,op:=.bin .gtr (.s 6) (.c (.int .i64 0))}])
  (.cond (.s 7)
   (.skip)
   (.exit 0)))
  (.block 1 (.seq (.seq (.ops [{dst:=some 8,op:=.mov (.s 1)},
    {dst:=some 9,op:=.mov (.s 0)},
    {dst:=some 10,op:=.idx (.s 9) (.c (.int .i64 0))},
    {dst:=some 11,op:=.icall 113 [(.s 8),(.s 10)]},
    {dst:=some 12,op:=.un .not (.s 11)}])
   (.cond (.s 12)
    (.exit 0)
    (.skip)))
   (.ops [{dst:=some 13,op:=.mov (.s 0)},
    {dst:=some 14,op:=.slice 0 (.s 13) (some (.c (.int .i64 1))) none none},
    {dst:=some 0,op:=.mov (.s 14)}])))
def F2_strings_trimLeftASCII:PF:=
 .mk
  (.seq (.ops [{dst:=some 4,op:=.mov (.c (.str []))}])
   (.seq (.block 0 (.loop [0,1] F2_strings_trimLeftASCII_L0))
   (.seq (.ops [{dst:=some 15,op:=.mov (.s 0)},
    {dst:=some 4,op:=.mov (.s 15)}])
   (.ret))))
  [.tmp 4]
theorem tr2_strings_trimLeftASCII:trF Tryz.prog [107,108,113] 107 [[0,1]]=some F2_strings_trimLeftASCII:=by kernel_rfl
def F2_strings_trimRightASCII_L0:PC:=
 .seq (.seq (.ops [{dst:=some 5,op:=.mov (.s 0)},
   {dst:=some 6,op:=.len true (.s 5)},
   {dst:=some 7,op:=.bin .gtr (.s 6) (.c (.int .i64 0))}])
  (.cond (.s 7)
   (.skip)
   (.exit 0)))
  (.block 1 (.seq (.seq (.ops [{dst:=some 8,op:=.mov (.s 1)},
    {dst:=some 9,op:=.mov (.s 0)},
    {dst:=some 10,op:=.mov (.s 0)},
    {dst:=some 11,op:=.len true (.s 10)},
    {dst:=some 12,op:=.bin .sub (.s 11) (.c (.int .i64 1))},
    {dst:=some 13,op:=.idx (.s 9) (.s 12)},
    {dst:=some 14,op:=.icall 113 [(.s 8),(.s 13)]},
    {dst:=some 15,op:=.un .not (.s 14)}])
   (.cond (.s 15)
    (.exit 0)
    (.skip)))
   (.ops [{dst:=some 16,op:=.mov (.s 0)},
    {dst:=some 17,op:=.mov (.s 0)},
    {dst:=some 18,op:=.len true (.s 17)},
    {dst:=some 19,op:=.bin .sub (.s 18) (.c (.int .i64 1))},
    {dst:=some 20,op:=.slice 0 (.s 16) none (some (.s 19)) none},
    {dst:=some 0,op:=.mov (.s 20)}])))
def F2_strings_trimRightASCII:PF:=
 .mk
  (.seq (.ops [{dst:=some 4,op:=.mov (.c (.str []))}])
   (.seq (.block 0 (.loop [0,1] F2_strings_trimRightASCII_L0))
   (.seq (.ops [{dst:=some 21,op:=.mov (.s 0)},
    {dst:=some 4,op:=.mov (.s 21)}])
   (.ret))))
  [.tmp 4]
theorem tr2_strings_trimRightASCII:trF Tryz.prog [107,108,113] 108 [[0,1]]=some F2_strings_trimRightASCII:=by kernel_rfl
def F2_strings_asciiSet_contains:PF:=
 .mk
  (.seq (.ops [{dst:=some 4,op:=.mov (.c (.bool false))}])
   (.seq (.ops [{dst:=some 5,op:=.mov (.s 0)},
    {dst:=some 6,op:=.mov (.s 1)},
    {dst:=some 7,op:=.nilc (.s 5)},
    {dst:=some 8,op:=.idxA 256 1 (.s 7) (.s 6)},
    {dst:=some 9,op:=.load 1 false (.s 8)},
    {dst:=some 4,op:=.mov (.s 9)}])
   (.ret)))
  [.tmp 4]
theorem tr2_strings_asciiSet_contains:trF Tryz.prog [107,108,113] 113 []=some F2_strings_asciiSet_contains:=by kernel_rfl
end Go.Proofs.YtfbbaceiimdejaaGreatDoor.PI
