/-
  The translations of this seat's functions into pure code, each with the kernel's word that it is the translation. Written by a program (gen.py).
  Conditions: none.
-/
import Derived.Test.YtfbbaceiimdejaaGreatDoorEngW
import Derived.KernelRfl
set_option linter.unusedVariables false
set_option linter.unusedSimpArgs false
namespace Go.Proofs.YtfbbaceiimdejaaGreatDoor.PI
open Go
def F_ttype_rules:PF:=
 .mk
  (.seq (.ops [{dst:=some 0,op:=.mov (.c .nilm)}])
   (.seq (.ops [{dst:=some 3,op:=.bld [.nilf] [(0,1,(.c (.clo 37 [])))]},
    {dst:=some 1,op:=.box (.c (.agg [.nilf]))},
    {dst:=none,op:=.stor 1 (.s 1) (.s 3)}])
   (.seq (.ops [{dst:=some 4,op:=.bld [.nilf] [(0,1,(.c (.clo 38 [])))]},
    {dst:=some 2,op:=.box (.c (.agg [.nilf]))},
    {dst:=none,op:=.stor 1 (.s 2) (.s 4)}])
   (.seq (.any [({dst:=some 5,op:=.mkmap 2000002},true,[]),
    ({dst:=some 6,op:=.load 1 true (.s 1)},true,[0]),
    ({dst:=none,op:=.mapup 2000002 [0] (.s 5) (.c (.int .i64 3)) (.s 6)},true,[]),
    ({dst:=some 7,op:=.load 1 true (.s 1)},true,[0,2]),
    ({dst:=none,op:=.mapup 2000002 [0] (.s 5) (.c (.int .i64 4)) (.s 7)},true,[1]),
    ({dst:=some 8,op:=.load 1 true (.s 1)},true,[0,2,4]),
    ({dst:=none,op:=.mapup 2000002 [0] (.s 5) (.c (.int .i64 6)) (.s 8)},true,[1,3]),
    ({dst:=some 9,op:=.load 1 true (.s 1)},true,[0,2,4,6]),
    ({dst:=none,op:=.mapup 2000002 [0] (.s 5) (.c (.int .i64 7)) (.s 9)},true,[1,3,5]),
    ({dst:=some 10,op:=.rcall 39 [(.c (.int .i64 1))]},true,[0,2,4,6,8]),
    ({dst:=none,op:=.mapup 2000002 [0] (.s 5) (.c (.int .i64 5)) (.s 10)},true,[1,3,5,7]),
    ({dst:=some 11,op:=.rcall 39 [(.c (.int .i64 (-1)))]},true,[0,2,4,6,8,10]),
    ({dst:=none,op:=.mapup 2000002 [0] (.s 5) (.c (.int .i64 8)) (.s 11)},true,[1,3,5,7]),
    ({dst:=some 12,op:=.rcall 39 [(.c (.int .i64 (-1)))]},true,[0,2,4,6,8,10,12]),
    ({dst:=none,op:=.mapup 2000002 [0] (.s 5) (.c (.int .i64 9)) (.s 12)},true,[1,3,5,7]),
    ({dst:=some 13,op:=.rcall 39 [(.c (.int .i64 (-1)))]},true,[0,2,4,6,8,10,12,14]),
    ({dst:=none,op:=.mapup 2000002 [0] (.s 5) (.c (.int .i64 10)) (.s 13)},true,[1,3,5,7]),
    ({dst:=some 14,op:=.load 1 true (.s 2)},false,[0,2,4,6,8,10,12,14,16]),
    ({dst:=none,op:=.mapup 2000002 [0] (.s 5) (.c (.int .i64 11)) (.s 14)},false,[1,3,5,7,9,11,13,15]),
    ({dst:=some 15,op:=.mov (.s 5)},false,[]),
    ({dst:=some 0,op:=.mov (.s 15)},false,[])])
   (.ret)))))
  [.tmp 0]
theorem tr_ttype_rules:trF Tryz.prog [90000039] 17 []=some F_ttype_rules:=by kernel_rfl
end Go.Proofs.YtfbbaceiimdejaaGreatDoor.PI
