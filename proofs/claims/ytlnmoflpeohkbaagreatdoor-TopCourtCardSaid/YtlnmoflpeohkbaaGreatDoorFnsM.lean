/-
  The translations of this seat's functions into pure code, each with the kernel's word that it is the translation.
  Conditions: none.
-/
import Derived.Test.YtlnmoflpeohkbaaGreatDoorFns
import Derived.Test.YtlnmoflpeohkbaaGreatDoorEngW
import Derived.KernelRfl
open Bool renaming false->f_,true->t_
open Option renaming some->s_
open Int renaming reduceNegSucc->C0,reduceOfNat->C4
open UInt8 renaming reduceOfNat->CZ
set_option maxHeartbeats 8000000
set_option maxRecDepth 20000
set_option linter.unusedSimpArgs false
set_option linter.unusedVariables false
set_option linter.defProp false
namespace Go.Proofs.YtlnmoflpeohkbaaGreatDoor.PI
open Go
def ax:TR il6 127 [[1000000,0,1,7,8]]:=⟨_,by conv=>{lhs;reduce;simp only[C4,C0,DA,CZ]}⟩
def ZX:TR il6 89 [[3,7,8,9]]:=⟨_,by conv=>{lhs;reduce;simp only[C4,C0,DA,CZ]}⟩
def ZI:TR [2000040] 40 [[1000000,0,5,6]]:=⟨_,by conv=>{lhs;reduce;simp only[C4,C0,DA,CZ]}⟩
