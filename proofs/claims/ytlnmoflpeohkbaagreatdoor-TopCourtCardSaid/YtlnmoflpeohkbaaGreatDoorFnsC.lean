/-
  The translations of this seat's functions into pure code, each with the kernel's word that it is the translation.
  Conditions: none.
-/
import Derived.Test.YtlnmoflpeohkbaaGreatDoorFns
import Derived.Test.YtlnmoflpeohkbaaGreatDoorEngW
import Derived.KernelRfl
open Bool renaming false->f_,true->t_
open Option renaming some->s_
open Int renaming reduceNegSucc->C0,reduceOfNat->C4
open UInt8 renaming reduceOfNat->CZ
set_option maxHeartbeats 8000000
set_option maxRecDepth 20000
set_option linter.unusedSimpArgs false
set_option linter.unusedVariables false
set_option linter.defProp false
namespace Go.Proofs.YtlnmoflpeohkbaaGreatDoor.PI
open Go
def ZQ:TR OC 49 [[3,4,5,33,34,35],[3,4,5,7,33,34,35,50,51,52]]:=⟨_,by conv=>{lhs;reduce;simp only[C4,C0,DA,CZ]}⟩
def ZL:TR OC 90 []:=⟨_,by conv=>{lhs;reduce;simp only[C4,C0,DA,CZ]}⟩
def ZT:TR OC 91 []:=⟨_,by conv=>{lhs;reduce;simp only[C4,C0,DA,CZ]}⟩
def Z3:TR OC 135 [[3,7,8]]:=⟨_,by conv=>{lhs;reduce;simp only[C4,C0,DA,CZ]}⟩
def uI:TR OC 136 []:=⟨_,by conv=>{lhs;reduce;simp only[C4,C0,DA,CZ]}⟩
def Z0:TR OC 137 []:=⟨_,by conv=>{lhs;reduce;simp only[C4,C0,DA,CZ]}⟩
def yjr:TR OC 161 [[0,2,4]]:=⟨_,by conv=>{lhs;reduce;simp only[C4,C0,DA,CZ]}⟩
def ai:TR OC 162 [[1000000,0,1]]:=⟨_,by conv=>{lhs;reduce;simp only[C4,C0,DA,CZ]}⟩
def al:TR OC 163 [[1000000,0,1]]:=⟨_,by conv=>{lhs;reduce;simp only[C4,C0,DA,CZ]}⟩
def aw:TR OC 166 [[0,1,7,8]]:=⟨_,by conv=>{lhs;reduce;simp only[C4,C0,DA,CZ]}⟩
def au:TR OC 173 []:=⟨_,by conv=>{lhs;reduce;simp only[C4,C0,DA,CZ]}⟩
