/-
  The translations of this seat's functions into pure code, each with the kernel's word that it is the translation.
  Conditions: none.
-/
import Derived.Test.YtlnmoflpeohkbaaGreatDoorFns
import Derived.Test.YtlnmoflpeohkbaaGreatDoorEngW
import Derived.KernelRfl
open Bool renaming false->f_,true->t_
open Option renaming some->s_
open Int renaming reduceNegSucc->C0,reduceOfNat->C4
open UInt8 renaming reduceOfNat->CZ
set_option maxHeartbeats 8000000
set_option maxRecDepth 20000
set_option linter.unusedSimpArgs false
set_option linter.unusedVariables false
set_option linter.defProp false
namespace Go.Proofs.YtlnmoflpeohkbaaGreatDoor.PI
open Go
def Xn:TR Lx 42 []:=⟨_,by conv=>{lhs;reduce;simp only[C4,C0,DA,CZ]}⟩
def Xj:TR Lx 43 []:=⟨_,by conv=>{lhs;reduce;simp only[C4,C0,DA,CZ]}⟩
def Xp:TR Lx 44 []:=⟨_,by conv=>{lhs;reduce;simp only[C4,C0,DA,CZ]}⟩
def Z4:TR Lx 45 []:=⟨_,by conv=>{lhs;reduce;simp only[C4,C0,DA,CZ]}⟩
def Z8:TR Lx 46 []:=⟨_,by conv=>{lhs;reduce;simp only[C4,C0,DA,CZ]}⟩
def Xl:TR Lx 48 []:=⟨_,by conv=>{lhs;reduce;simp only[C4,C0,DA,CZ]}⟩
def Z5:TR Lx 82 []:=⟨_,by conv=>{lhs;reduce;simp only[C4,C0,DA,CZ]}⟩
def Z9:TR Lx 84 []:=⟨_,by conv=>{lhs;reduce;simp only[C4,C0,DA,CZ]}⟩
def Xk:TR Lx 87 []:=⟨_,by conv=>{lhs;reduce;simp only[C4,C0,DA,CZ]}⟩
def UB:TR Lx 88 []:=⟨_,by conv=>{lhs;reduce;simp only[C4,C0,DA,CZ]}⟩
def uH:TR Lx 85 []:=⟨_,by conv=>{lhs;reduce;simp only[C4,C0,DA,CZ]}⟩
def ao:TR Lx 86 []:=⟨_,by conv=>{lhs;reduce;simp only[C4,C0,DA,CZ]}⟩
def Xs:TR Lx 128 []:=⟨_,by conv=>{lhs;reduce;simp only[C4,C0,DA,CZ]}⟩
def Uy:TR Lx 129 []:=⟨_,by conv=>{lhs;reduce;simp only[C4,C0,DA,CZ]}⟩
def Uz:TR Lx 131 []:=⟨_,by conv=>{lhs;reduce;simp only[C4,C0,DA,CZ]}⟩
def Xq:TR Lx 132 []:=⟨_,by conv=>{lhs;reduce;simp only[C4,C0,DA,CZ]}⟩
def Xo:TR Lx 133 []:=⟨_,by conv=>{lhs;reduce;simp only[C4,C0,DA,CZ]}⟩
def Ta:TR Lx 157 []:=⟨_,by conv=>{lhs;reduce;simp only[C4,C0,DA,CZ]}⟩
def Xm:TR [42,43,44,45,46,47,48,82,84,87,88,128,129,130,131,132,133,157,158,2000047,60000042,60000043,60000044,60000047,60000048,60000087,60000088,60000128,60000129,60000130,60000131,60000133,60000157,60000158,60000000,70000000,50000007,50000009,85,127] 47 [[1000000,0,4,6,7],[1000000,0,4,6]]:=⟨_,by conv=>{lhs;reduce;simp only[C4,C0,DA,CZ]}⟩
def UC:TR il7 130 [[1000000,1,2,6,7,8],[1000000,1,2,6,7]]:=⟨_,by conv=>{lhs;reduce;simp only[C4,C0,DA,CZ]}⟩
def UA:TR il7 158 [[1000000,0,6,7,14,15,16],[1000000,0,6,7,9,14,15,16]]:=⟨_,by conv=>{lhs;reduce;simp only[C4,C0,DA,CZ]}⟩
