/-
  The translations of this seat's functions into pure code, each with the kernel's word that it is the translation.
  Conditions: none.
-/
import Derived.Test.YtlnmoflpeohkbaaGreatDoorFns
import Derived.Test.YtlnmoflpeohkbaaGreatDoorEngW
import Derived.KernelRfl
import Derived.Test.YtlnmoflpeohkbaaGreatDoorCtA
open Bool renaming false->f_,true->t_
open Option renaming some->s_
open Int renaming reduceNegSucc->C0,reduceOfNat->C4
open UInt8 renaming reduceOfNat->CZ
set_option maxHeartbeats 8000000
set_option maxRecDepth 20000
set_option linter.unusedSimpArgs false
set_option linter.unusedVariables false
set_option linter.defProp false
namespace Go.Proofs.YtlnmoflpeohkbaaGreatDoor.PI
open Go
def oi:TR [] 3 [[2,13,15,17,18,94,95,96]]:=⟨_,by have h0:GR=GR:=rfl;conv at h0=>{rhs;reduce;simp only[C4,C0,DA,CZ]};have h1:DD GJ=DD GJ:=rfl;conv at h1=>{rhs;reduce;simp only[C4,C0,DA,CZ]};have h2:E1=E1:=rfl;conv at h2=>{rhs;reduce;simp only[C4,C0,DA,CZ]};conv=>{lhs;reduce;simp only[C4,C0,DA,CZ];simp only[<-h0];simp only[<-h1];simp only[<-h2]}⟩
def Z7:TR [] 5 []:=⟨_,by conv=>{lhs;reduce;simp only[C4,C0,DA,CZ]}⟩
def n8:TR [] 9 []:=⟨_,by have h0:GR=GR:=rfl;conv at h0=>{rhs;reduce;simp only[C4,C0,DA,CZ]};have h1:E1=E1:=rfl;conv at h1=>{rhs;reduce;simp only[C4,C0,DA,CZ]};conv=>{lhs;reduce;simp only[C4,C0,DA,CZ];simp only[<-h0];simp only[<-h1]}⟩
