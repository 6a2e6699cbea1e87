/-
  The translations of this seat's functions into pure code, each with the kernel's word that it is the translation.
  Conditions: none.
-/
import Derived.Test.YtlnmoflpeohkbaaGreatDoorFns
import Derived.Test.YtlnmoflpeohkbaaGreatDoorEngHf
import Derived.KernelRfl
open Bool renaming false->f_,true->t_
open Option renaming some->s_
set_option maxHeartbeats 8000000
set_option maxRecDepth 20000
set_option linter.unusedSimpArgs false
set_option linter.unusedVariables false
set_option linter.defProp false
namespace Go.Proofs.YtlnmoflpeohkbaaGreatDoor.PI
open Go
def SZ:{F // Ywc Tryz.prog [42,43,44,45,46,47,48,82,84,87,88,128,129,130,131,132,133,157,158,2000014,60000042,60000043,60000044,60000047,60000048,60000087,60000088,60000128,60000129,60000130,60000131,60000133,60000157,60000158,60000000,50000007,50000009,80000014] 14 [[1000000,2,3,4,6,7],[1000000,2,3,4,6]]=s_ F}:=⟨_,by conv=>{lhs;reduce;simp only[Int.reduceOfNat,Int.reduceNegSucc,DA,UInt8.reduceOfNat]}⟩
