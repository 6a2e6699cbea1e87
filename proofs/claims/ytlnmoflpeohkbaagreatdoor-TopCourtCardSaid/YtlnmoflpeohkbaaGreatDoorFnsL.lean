/-
  The translations of this seat's functions into pure code, each with the kernel's word that it is the translation.
  Conditions: none.
-/
import Derived.Test.YtlnmoflpeohkbaaGreatDoorFns
import Derived.Test.YtlnmoflpeohkbaaGreatDoorEngW
import Derived.KernelRfl
open Bool renaming false->f_,true->t_
open Option renaming some->s_
open Int renaming reduceNegSucc->C0,reduceOfNat->C4
open UInt8 renaming reduceOfNat->CZ
set_option maxHeartbeats 8000000
set_option maxRecDepth 20000
set_option linter.unusedSimpArgs false
set_option linter.unusedVariables false
set_option linter.defProp false
namespace Go.Proofs.YtlnmoflpeohkbaaGreatDoor.PI
open Go
def ZD:TR [] 81 []:=⟨_,by conv=>{lhs;reduce;simp only[C4,C0,DA,CZ]}⟩
def ZS:TR [] 83 []:=⟨_,by conv=>{lhs;reduce;simp only[C4,C0,DA,CZ]}⟩
def ZJ:TR [] 119 []:=⟨_,by conv=>{lhs;reduce;simp only[C4,C0,DA,CZ]}⟩
def Zx:TR [] 120 [[0,1,7,8]]:=⟨_,by conv=>{lhs;reduce;simp only[C4,C0,DA,CZ]}⟩
def ZP:TR [] 121 []:=⟨_,by conv=>{lhs;reduce;simp only[C4,C0,DA,CZ]}⟩
def ZC:TR [] 122 []:=⟨_,by conv=>{lhs;reduce;simp only[C4,C0,DA,CZ]}⟩
def ZK:TR [] 123 [[0,4,15,16]]:=⟨_,by conv=>{lhs;reduce;simp only[C4,C0,DA,CZ]}⟩
def uE:TR [] 124 []:=⟨_,by conv=>{lhs;reduce;simp only[C4,C0,DA,CZ]}⟩
def uF:TR [] 80 []:=⟨_,by conv=>{lhs;reduce;simp only[C4,C0,DA,CZ]}⟩
def uG:TR [] 118 []:=⟨_,by conv=>{lhs;reduce;simp only[C4,C0,DA,CZ]}⟩
def ar:TR [] 154 []:=⟨_,by conv=>{lhs;reduce;simp only[C4,C0,DA,CZ]}⟩
def aq:TR [] 125 [[0,1,7,8]]:=⟨_,by conv=>{lhs;reduce;simp only[C4,C0,DA,CZ]}⟩
def yrv:TR [] 126 [[0,3,4,5,6],[0,9,10,12],[0,9,10,11,12],[0,9,10,12]]:=⟨_,by conv=>{lhs;reduce;simp only[C4,C0,DA,CZ]}⟩
