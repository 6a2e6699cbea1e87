/-
  The translations of this seat's functions into pure code, each with the kernel's word that it is the translation.
  Conditions: none.
-/
import Derived.Test.YtlnmoflpeohkbaaGreatDoorEngW
import Derived.KernelRfl
import Derived.Test.YtlnmoflpeohkbaaGreatDoorCtA
open Bool renaming false->f_,true->t_
open Option renaming some->s_
open Int renaming reduceNegSucc->C0,reduceOfNat->C4
open UInt8 renaming ofNat->De,reduceOfNat->CZ
set_option maxHeartbeats 8000000
set_option maxRecDepth 20000
set_option linter.unusedSimpArgs false
set_option linter.unusedVariables false
set_option linter.defProp false
namespace Go.Proofs.YtlnmoflpeohkbaaGreatDoor.PI
open Go
open D renaming int->I,slc->O,agg->U,bool->V,ptr->Y
open Go.IntKind renaming i64->J
def DA(n:Nat)(h:n<2^8):UInt8.ofBitVec ⟨⟨n,h⟩⟩=De n:=by apply UInt8.eq_of_toBitVec_eq;apply BitVec.eq_of_toNat_eq;simp[De,A3 h]
abbrev TR(l:List Nat)(f:Nat)(h:List (List Nat)):Type:={F // IY Tryz.prog l f h=s_ F}
def MV:PC->List PC
 |.loop _ c=>c::MV c
 |.loopA _ c=>c::MV c
 |.range _ _ a b=>[a,b]
 |.seq a b=>MV a++MV b
 |.cond _ a b=>MV a++MV b
 |.block _ c=>MV c
 |_=>[]
def Eb:List Nat:=[55,2000103,112,151,113,98,99,101,139,63,169,177,178,179,180,181,182,183,184,186,192,90000194,195,199,28,66,67,69,70,77]
def Lx:List Nat:=[42,43,44,45,46,47,48,82,84,87,88,128,129,130,131,132,133,157,158,60000042,60000043,60000044,60000047,60000048,60000087,60000088,60000128,60000129,60000130,60000131,60000133,60000157,60000158,60000000,85,127]
def OC:List Nat:=[162,163,173,2000162,2000163]
def Px:List Nat:=[55,2000103,112,151,113,98,99,101,139,63,169,177,178,179,180,181,182,183,184,186,192,90000194,195,199,28,66,67,69,70,77,37,60000037,72,60000072,68,60000068,80000011,60000000]
def VA:List Nat:=[1000050,51,2000051,2000138,2000015]
def rQ:List Nat:=[52,53,96,97,2000016,2000052]
def il6:List Nat:=[2000127,86]
def il7:List Nat:=[42,43,44,45,46,47,48,82,84,87,88,128,129,130,131,132,133,157,158,2000130,2000158,60000042,60000043,60000044,60000047,60000048,60000087,60000088,60000128,60000129,60000130,60000131,60000133,60000157,60000158,60000000,50000007,50000009,85,127]
def oh:TR Eb 4 []:=⟨_,by have h0:GR=GR:=rfl;conv at h0=>{rhs;reduce;simp only[C4,C0,DA,CZ]};have h1:E1=E1:=rfl;conv at h1=>{rhs;reduce;simp only[C4,C0,DA,CZ]};conv=>{lhs;reduce;simp only[C4,C0,DA,CZ];simp only[<-h0];simp only[<-h1]}⟩
def n9:TR Eb 6 [[6,7,8]]:=⟨_,by have h0:Dr DX=Dr DX:=rfl;conv at h0=>{rhs;reduce;simp only[C4,C0,DA,CZ]};have h1:Vu=Vu:=rfl;conv at h1=>{rhs;reduce;simp only[C4,C0,DA,CZ]};conv=>{lhs;reduce;simp only[C4,C0,DA,CZ];simp only[<-h0];simp only[<-h1]}⟩
def nJ:TR Eb 7 []:=⟨_,by conv=>{lhs;reduce;simp only[C4,C0,DA,CZ]}⟩
def mE:TR Eb 8 []:=⟨_,by have h0:GR=GR:=rfl;conv at h0=>{rhs;reduce;simp only[C4,C0,DA,CZ]};have h1:QJ=QJ:=rfl;conv at h1=>{rhs;reduce;simp only[C4,C0,DA,CZ]};conv=>{lhs;reduce;simp only[C4,C0,DA,CZ];simp only[<-h0];simp only[<-h1]}⟩
def mG:TR Eb 10 []:=⟨_,by have h0:Qw=Qw:=rfl;conv at h0=>{rhs;reduce;simp only[C4,C0,DA,CZ]};have h1:GR=GR:=rfl;conv at h1=>{rhs;reduce;simp only[C4,C0,DA,CZ]};conv=>{lhs;reduce;simp only[C4,C0,DA,CZ];simp only[<-h0];simp only[<-h1]}⟩
def mF:TR Eb 12 []:=⟨_,by conv=>{lhs;reduce;simp only[C4,C0,DA,CZ]}⟩
def nq:TR Eb 13 []:=⟨_,by have h0:DD GJ=DD GJ:=rfl;conv at h0=>{rhs;reduce;simp only[C4,C0,DA,CZ]};have h1:QI=QI:=rfl;conv at h1=>{rhs;reduce;simp only[C4,C0,DA,CZ]};conv=>{lhs;reduce;simp only[C4,C0,DA,CZ];simp only[<-h0];simp only[<-h1]}⟩
def Xe:TR Eb 17 []:=⟨_,by conv=>{lhs;reduce;simp only[C4,C0,DA,CZ]}⟩
def Xh:{c // (MV Xe.1.code).getD 0 .skip=c}:=⟨_,by conv=>{lhs;reduce;simp only[C4,C0,DA,CZ]}⟩
def Xi:{c // (MV Xe.1.code).getD 1 .skip=c}:=⟨_,by conv=>{lhs;reduce;simp only[C4,C0,DA,CZ]}⟩
def mI:TR Eb 18 []:=⟨_,by conv=>{lhs;reduce;simp only[C4,C0,DA,CZ]}⟩
def mZ:TR Eb 19 []:=⟨_,by conv=>{lhs;reduce;simp only[C4,C0,DA,CZ]}⟩
def nt:TR Eb 20 []:=⟨_,by conv=>{lhs;reduce;simp only[C4,C0,DA,CZ]}⟩
def nE:TR Eb 21 []:=⟨_,by have h0:Dr DX=Dr DX:=rfl;conv at h0=>{rhs;reduce;simp only[C4,C0,DA,CZ]};conv=>{lhs;reduce;simp only[C4,C0,DA,CZ];simp only[<-h0]}⟩
def nG:TR Eb 22 []:=⟨_,by have h0:DD GJ=DD GJ:=rfl;conv at h0=>{rhs;reduce;simp only[C4,C0,DA,CZ]};conv=>{lhs;reduce;simp only[C4,C0,DA,CZ];simp only[<-h0]}⟩
def Xg:TR Eb 23 []:=⟨_,by conv=>{lhs;reduce;simp only[C4,C0,DA,CZ]}⟩
def ZY:{c // (MV Xg.1.code).getD 0 .skip=c}:=⟨_,by conv=>{lhs;reduce;simp only[C4,C0,DA,CZ]}⟩
def ZZ:{c // (MV Xg.1.code).getD 1 .skip=c}:=⟨_,by conv=>{lhs;reduce;simp only[C4,C0,DA,CZ]}⟩
def lJ:TR Eb 24 []:=⟨_,by conv=>{lhs;reduce;simp only[C4,C0,DA,CZ]}⟩
def mY:TR Eb 25 []:=⟨_,by conv=>{lhs;reduce;simp only[C4,C0,DA,CZ]}⟩
def nH:TR Eb 26 []:=⟨_,by conv=>{lhs;reduce;simp only[C4,C0,DA,CZ]}⟩
def od:TR Eb 27 [[0,1,7,8]]:=⟨_,by conv=>{lhs;reduce;simp only[C4,C0,DA,CZ]}⟩
def nW:TR Eb 28 []:=⟨_,by conv=>{lhs;reduce;simp only[C4,C0,DA,CZ]}⟩
def nw:TR Eb 38 []:=⟨_,by conv=>{lhs;reduce;simp only[C4,C0,DA,CZ]}⟩
def nF:TR Eb 39 [[1,2,4,5,6],[2,4,5,6,11,12]]:=⟨_,by have h0:Dr DX=Dr DX:=rfl;conv at h0=>{rhs;reduce;simp only[C4,C0,DA,CZ]};conv=>{lhs;reduce;simp only[C4,C0,DA,CZ];simp only[<-h0]}⟩
def ZO:TR Eb 54 [[0,2,4,30,31,32],[0,2,4,5,10,30,31,32,110,111,112]]:=⟨_,by conv=>{lhs;reduce;simp only[C4,C0,DA,CZ]}⟩
def yrs:{c // (MV ZO.1.code).getD 1 .skip=c}:=⟨_,by conv=>{lhs;reduce;simp only[C4,C0,DA,CZ]}⟩
def ys0:TR Eb 55 []:=⟨_,by conv=>{lhs;reduce;simp only[C4,C0,DA,CZ]}⟩
def mJ:TR Eb 56 []:=⟨_,by conv=>{lhs;reduce;simp only[C4,C0,DA,CZ]}⟩
def mL:TR Eb 57 []:=⟨_,by conv=>{lhs;reduce;simp only[C4,C0,DA,CZ]}⟩
def nK:TR Eb 58 []:=⟨_,by conv=>{lhs;reduce;simp only[C4,C0,DA,CZ]}⟩
def mX:TR Eb 59 []:=⟨_,by conv=>{lhs;reduce;simp only[C4,C0,DA,CZ]}⟩
def nr:TR Eb 60 []:=⟨_,by conv=>{lhs;reduce;simp only[C4,C0,DA,CZ]}⟩
def mV:TR Eb 61 []:=⟨_,by have h0:QI=QI:=rfl;conv at h0=>{rhs;reduce;simp only[C4,C0,DA,CZ]};conv=>{lhs;reduce;simp only[C4,C0,DA,CZ];simp only[<-h0]}⟩
def mu:TR Eb 62 []:=⟨_,by conv=>{lhs;reduce;simp only[C4,C0,DA,CZ]}⟩
def nO:TR Eb 63 [[2,6,7,14,15],[2,6,7,9,10,14,15]]:=⟨_,by conv=>{lhs;reduce;simp only[C4,C0,DA,CZ]}⟩
def ysy:TR Eb 64 []:=⟨_,by conv=>{lhs;reduce;simp only[C4,C0,DA,CZ]}⟩
def mc:TR Eb 65 []:=⟨_,by conv=>{lhs;reduce;simp only[C4,C0,DA,CZ]}⟩
def n7:TR Eb 66 []:=⟨_,by conv=>{lhs;reduce;simp only[C4,C0,DA,CZ]}⟩
def ynh:TR Eb 67 []:=⟨_,by conv=>{lhs;reduce;simp only[C4,C0,DA,CZ]}⟩
def yos:TR Eb 69 []:=⟨_,by conv=>{lhs;reduce;simp only[C4,C0,DA,CZ]}⟩
def ypw:TR Eb 70 []:=⟨_,by conv=>{lhs;reduce;simp only[C4,C0,DA,CZ]}⟩
def nV:TR Eb 71 []:=⟨_,by have h0:DD GJ=DD GJ:=rfl;conv at h0=>{rhs;reduce;simp only[C4,C0,DA,CZ]};conv=>{lhs;reduce;simp only[C4,C0,DA,CZ];simp only[<-h0]}⟩
def mr:TR Eb 73 []:=⟨_,by conv=>{lhs;reduce;simp only[C4,C0,DA,CZ]}⟩
def nZ:TR Eb 74 [[1,3,4,6,33,34]]:=⟨_,by conv=>{lhs;reduce;simp only[C4,C0,DA,CZ]}⟩
def np:TR Eb 75 []:=⟨_,by conv=>{lhs;reduce;simp only[C4,C0,DA,CZ]}⟩
def nL:TR Eb 78 []:=⟨_,by conv=>{lhs;reduce;simp only[C4,C0,DA,CZ]}⟩
def nN:TR Eb 79 []:=⟨_,by conv=>{lhs;reduce;simp only[C4,C0,DA,CZ]}⟩
def ydw:TR Eb 98 []:=⟨_,by conv=>{lhs;reduce;simp only[C4,C0,DA,CZ]}⟩
def yru:TR Eb 99 []:=⟨_,by conv=>{lhs;reduce;simp only[C4,C0,DA,CZ]}⟩
def yi8:TR Eb 101 [[7,8]]:=⟨_,by conv=>{lhs;reduce;simp only[C4,C0,DA,CZ]}⟩
def nA:TR Eb 102 []:=⟨_,by conv=>{lhs;reduce;simp only[C4,C0,DA,CZ]}⟩
def ypv:TR Eb 103 [[1000000,0,1,2,4,5,6]]:=⟨_,by conv=>{lhs;reduce;simp only[C4,C0,DA,CZ]}⟩
def mv:TR Eb 104 []:=⟨_,by conv=>{lhs;reduce;simp only[C4,C0,DA,CZ]}⟩
def lL:TR Eb 105 []:=⟨_,by conv=>{lhs;reduce;simp only[C4,C0,DA,CZ]}⟩
def mB:TR Eb 106 []:=⟨_,by conv=>{lhs;reduce;simp only[C4,C0,DA,CZ]}⟩
def mH:TR Eb 107 [[2,3,10,11,12],[2,3,6],[2,3,6,7],[2,3,8],[2,8,55]]:=⟨_,by conv=>{lhs;reduce;simp only[C4,C0,DA,CZ]}⟩
def ysz:TR Eb 108 []:=⟨_,by conv=>{lhs;reduce;simp only[C4,C0,DA,CZ]}⟩
def lN:TR Eb 109 [[2,4,7,8,9]]:=⟨_,by conv=>{lhs;reduce;simp only[C4,C0,DA,CZ]}⟩
def nD:TR Eb 110 []:=⟨_,by conv=>{lhs;reduce;simp only[C4,C0,DA,CZ]}⟩
def oa:TR Eb 111 [[0,1,7,8]]:=⟨_,by conv=>{lhs;reduce;simp only[C4,C0,DA,CZ]}⟩
def ys1:TR Eb 112 [[4,6,19,20]]:=⟨_,by conv=>{lhs;reduce;simp only[C4,C0,DA,CZ]}⟩
def yrw:TR Eb 113 []:=⟨_,by conv=>{lhs;reduce;simp only[C4,C0,DA,CZ]}⟩
def nC:TR Eb 114 []:=⟨_,by conv=>{lhs;reduce;simp only[C4,C0,DA,CZ]}⟩
def nX:TR Eb 117 []:=⟨_,by conv=>{lhs;reduce;simp only[C4,C0,DA,CZ]}⟩
def yed:TR Eb 139 [[0,1,7,8]]:=⟨_,by conv=>{lhs;reduce;simp only[C4,C0,DA,CZ]}⟩
def n6:TR Eb 140 []:=⟨_,by conv=>{lhs;reduce;simp only[C4,C0,DA,CZ]}⟩
def nM:TR Eb 141 []:=⟨_,by conv=>{lhs;reduce;simp only[C4,C0,DA,CZ]}⟩
def mz:TR Eb 142 []:=⟨_,by conv=>{lhs;reduce;simp only[C4,C0,DA,CZ]}⟩
def nj:TR Eb 143 []:=⟨_,by conv=>{lhs;reduce;simp only[C4,C0,DA,CZ]}⟩
def mM:TR Eb 144 []:=⟨_,by conv=>{lhs;reduce;simp only[C4,C0,DA,CZ]}⟩
def lM:TR Eb 145 []:=⟨_,by conv=>{lhs;reduce;simp only[C4,C0,DA,CZ]}⟩
def mw:TR Eb 146 []:=⟨_,by conv=>{lhs;reduce;simp only[C4,C0,DA,CZ]}⟩
def ni:TR Eb 147 [[2,5,6,7]]:=⟨_,by conv=>{lhs;reduce;simp only[C4,C0,DA,CZ]}⟩
def mK:TR Eb 148 [[1,2,3,7,8]]:=⟨_,by conv=>{lhs;reduce;simp only[C4,C0,DA,CZ]}⟩
def mN:TR Eb 149 []:=⟨_,by conv=>{lhs;reduce;simp only[C4,C0,DA,CZ]}⟩
def nv:TR Eb 150 [[1,2,4,5,19],[2,4,5,7],[2,4,5,12,102],[2,4,12,182]]:=⟨_,by conv=>{lhs;reduce;simp only[C4,C0,DA,CZ]}⟩
def ypy:TR Eb 151 []:=⟨_,by conv=>{lhs;reduce;simp only[C4,C0,DA,CZ]}⟩
def my:TR Eb 152 []:=⟨_,by conv=>{lhs;reduce;simp only[C4,C0,DA,CZ]}⟩
def nY:TR Eb 168 []:=⟨_,by conv=>{lhs;reduce;simp only[C4,C0,DA,CZ]}⟩
def ylg:TR Eb 169 []:=⟨_,by conv=>{lhs;reduce;simp only[C4,C0,DA,CZ]}⟩
def yu7:TR Eb 170 []:=⟨_,by conv=>{lhs;reduce;simp only[C4,C0,DA,CZ]}⟩
def oc:TR Eb 171 []:=⟨_,by conv=>{lhs;reduce;simp only[C4,C0,DA,CZ]}⟩
def yoh:TR Eb 177 []:=⟨_,by conv=>{lhs;reduce;simp only[C4,C0,DA,CZ]}⟩
def yoj:TR Eb 178 []:=⟨_,by conv=>{lhs;reduce;simp only[C4,C0,DA,CZ]}⟩
def ylf:TR Eb 179 []:=⟨_,by conv=>{lhs;reduce;simp only[C4,C0,DA,CZ]}⟩
def yog:TR Eb 180 []:=⟨_,by conv=>{lhs;reduce;simp only[C4,C0,DA,CZ]}⟩
def yok:TR Eb 181 []:=⟨_,by conv=>{lhs;reduce;simp only[C4,C0,DA,CZ]}⟩
def ypu:TR Eb 182 []:=⟨_,by conv=>{lhs;reduce;simp only[C4,C0,DA,CZ]}⟩
def yoi:TR Eb 183 []:=⟨_,by conv=>{lhs;reduce;simp only[C4,C0,DA,CZ]}⟩
def ylh:TR Eb 184 []:=⟨_,by conv=>{lhs;reduce;simp only[C4,C0,DA,CZ]}⟩
def yxq:TR Eb 185 [[2,45,46,47]]:=⟨_,by conv=>{lhs;reduce;simp only[C4,C0,DA,CZ]}⟩
def Rt:TR Eb 186 [[0,23,24,25],[0,46,47,48]]:=⟨_,by conv=>{lhs;reduce;simp only[C4,C0,DA,CZ]}⟩
def ylb:{c // (MV Rt.1.code).getD 0 .skip=c}:=⟨_,by conv=>{lhs;reduce;simp only[C4,C0,DA,CZ]}⟩
def yla:{c // (MV Rt.1.code).getD 1 .skip=c}:=⟨_,by conv=>{lhs;reduce;simp only[C4,C0,DA,CZ]}⟩
def ypt:TR Eb 192 []:=⟨_,by conv=>{lhs;reduce;simp only[C4,C0,DA,CZ]}⟩
def mA:TR Eb 193 []:=⟨_,by conv=>{lhs;reduce;simp only[C4,C0,DA,CZ]}⟩
def yps:TR Eb 194 []:=⟨_,by conv=>{lhs;reduce;simp only[C4,C0,DA,CZ]}⟩
def uB:TR Eb 195 [[0,1,6,30,31]]:=⟨_,by conv=>{lhs;reduce;simp only[C4,C0,DA,CZ]}⟩
def ynd:{c // (MV uB.1.code).getD 0 .skip=c}:=⟨_,by conv=>{lhs;reduce;simp only[C4,C0,DA,CZ]}⟩
def ynj:TR Eb 199 [[0,2]]:=⟨_,by conv=>{lhs;reduce;simp only[C4,C0,DA,CZ]}⟩
def mf:TR Eb 219 []:=⟨_,by conv=>{lhs;reduce;simp only[C4,C0,DA,CZ]}⟩
def mi:TR Eb 220 []:=⟨_,by conv=>{lhs;reduce;simp only[C4,C0,DA,CZ]}⟩
def mh:TR Eb 221 []:=⟨_,by conv=>{lhs;reduce;simp only[C4,C0,DA,CZ]}⟩
def nR:TR Eb 222 []:=⟨_,by conv=>{lhs;reduce;simp only[C4,C0,DA,CZ]}⟩
def nS:TR Eb 223 []:=⟨_,by conv=>{lhs;reduce;simp only[C4,C0,DA,CZ]}⟩
def nT:TR Eb 224 []:=⟨_,by conv=>{lhs;reduce;simp only[C4,C0,DA,CZ]}⟩
def mg:TR Eb 225 []:=⟨_,by conv=>{lhs;reduce;simp only[C4,C0,DA,CZ]}⟩
def nU:TR Eb 226 []:=⟨_,by conv=>{lhs;reduce;simp only[C4,C0,DA,CZ]}⟩
def nP:TR Eb 227 []:=⟨_,by conv=>{lhs;reduce;simp only[C4,C0,DA,CZ]}⟩
def nQ:TR Eb 228 []:=⟨_,by conv=>{lhs;reduce;simp only[C4,C0,DA,CZ]}⟩
def lI:TR Eb 229 [[5,6,7]]:=⟨_,by conv=>{lhs;reduce;simp only[C4,C0,DA,CZ]}⟩
def ny:TR Eb 230 []:=⟨_,by conv=>{lhs;reduce;simp only[C4,C0,DA,CZ]}⟩
def mj:TR Eb 231 []:=⟨_,by conv=>{lhs;reduce;simp only[C4,C0,DA,CZ]}⟩
def Us:{F // RB Tryz.prog Px 11 []=s_ F}:=⟨_,by have h0:Qw=Qw:=rfl;conv at h0=>{rhs;reduce;simp only[C4,C0,DA,CZ]};have h1:GR=GR:=rfl;conv at h1=>{rhs;reduce;simp only[C4,C0,DA,CZ]};conv=>{lhs;reduce;simp only[C4,C0,DA,CZ];simp only[<-h0];simp only[<-h1]}⟩
def yni:TR Px 30 []:=⟨_,by have h0:DD GJ=DD GJ:=rfl;conv at h0=>{rhs;reduce;simp only[C4,C0,DA,CZ]};conv=>{lhs;reduce;simp only[C4,C0,DA,CZ];simp only[<-h0]}⟩
def yll:TR Px 31 []:=⟨_,by have h0:DD GJ=DD GJ:=rfl;conv at h0=>{rhs;reduce;simp only[C4,C0,DA,CZ]};conv=>{lhs;reduce;simp only[C4,C0,DA,CZ];simp only[<-h0]}⟩
def ypx:TR Px 32 [[0,2,4,5]]:=⟨_,by have h0:DD GJ=DD GJ:=rfl;conv at h0=>{rhs;reduce;simp only[C4,C0,DA,CZ]};have h1:QI=QI:=rfl;conv at h1=>{rhs;reduce;simp only[C4,C0,DA,CZ]};have h2:OE=OE:=rfl;conv at h2=>{rhs;reduce;simp only[C4,C0,DA,CZ]};have h3:Dr DX=Dr DX:=rfl;conv at h3=>{rhs;reduce;simp only[C4,C0,DA,CZ]};conv=>{lhs;reduce;simp only[C4,C0,DA,CZ];simp only[<-h0];simp only[<-h1];simp only[<-h2];simp only[<-h3]}⟩
def ylk:TR Px 33 []:=⟨_,by conv=>{lhs;reduce;simp only[C4,C0,DA,CZ]}⟩
def yl2:TR Px 34 []:=⟨_,by conv=>{lhs;reduce;simp only[C4,C0,DA,CZ]}⟩
def ylz:TR Px 35 []:=⟨_,by conv=>{lhs;reduce;simp only[C4,C0,DA,CZ]}⟩
def yAh:TR Px 37 []:=⟨_,by conv=>{lhs;reduce;simp only[C4,C0,DA,CZ]}⟩
def yng:TR Px 68 []:=⟨_,by have h0:QI=QI:=rfl;conv at h0=>{rhs;reduce;simp only[C4,C0,DA,CZ]};conv=>{lhs;reduce;simp only[C4,C0,DA,CZ];simp only[<-h0]}⟩
def yAg:TR Px 72 []:=⟨_,by conv=>{lhs;reduce;simp only[C4,C0,DA,CZ]}⟩
def nk:PF:=
 .mk
  (.seq (.ops [{dst:=s_ 1,op:=.box (.s 0)},
    {dst:=s_ 2,op:=.mov (.c (V f_))}])
   (.seq (.seq (.ops [{dst:=s_ 6,op:=.fld 0 (.s 1)},
    {dst:=s_ 7,op:=.load 1 f_ (.s 6)},
    {dst:=s_ 8,op:=.bin .lss (.s 7) (.c (I J 1))},
    {dst:=s_ 9,op:=.mov (.s 8)},
    {dst:=s_ 10,op:=.fld 0 (.s 1),guard:=s_ (9,f_)},
    {dst:=s_ 11,op:=.load 1 f_ (.s 10),guard:=s_ (9,f_)},
    {dst:=s_ 12,op:=.bin .geq (.s 11) (.c (I J 17)),guard:=s_ (9,f_)},
    {dst:=s_ 13,op:=.pick (.s 9) (.c (V t_)) (.s 12)}])
   (.cond (.s 13)
    (.seq (.ops [{dst:=s_ 2,op:=.mov (.c (V f_))}])
    (.ret))
    (.skip)))
   (.seq (.ops [{dst:=s_ 15,op:=.fld 0 (.s 1)},
    {dst:=s_ 16,op:=.load 1 f_ (.s 15)},
    {dst:=s_ 17,op:=.call 140 [(.s 16)]},
    {dst:=s_ 14,op:=.mov (.s 17)},
    {dst:=s_ 18,op:=.ext (.s 14) 0},
    {dst:=s_ 19,op:=.ext (.s 14) 1},
    {dst:=s_ 3,op:=.mov (.s 18)},
    {dst:=s_ 4,op:=.mov (.s 19)}])
   (.seq (.ops [{dst:=s_ 20,op:=.load 3 t_ (.s 1)},
    {dst:=s_ 5,op:=.box (.c (U [(I J 0),(I J 0),(I J 0)]))},
    {dst:=none,op:=.stor 3 (.s 5) (.s 20)}])
   (.seq (.seq (.ops [{dst:=s_ 21,op:=.mov (.s 3)},
    {dst:=s_ 22,op:=.bin .gtr (.s 21) (.c (I J 0))}])
   (.cond (.s 22)
    (.ops [{dst:=s_ 23,op:=.fld 1 (.s 5)},
     {dst:=none,op:=.stor 1 (.s 23) (.c (I J 0))}])
    (.skip)))
   (.seq (.seq (.ops [{dst:=s_ 24,op:=.mov (.s 3)},
    {dst:=s_ 25,op:=.bin .gtr (.s 24) (.c (I J 1))}])
   (.cond (.s 25)
    (.ops [{dst:=s_ 26,op:=.fld 2 (.s 5)},
     {dst:=none,op:=.stor 1 (.s 26) (.c (I J 0))}])
    (.skip)))
   (.seq (.ops [{dst:=s_ 27,op:=.load 3 t_ (.s 5)},
    {dst:=s_ 28,op:=.fld 0 (.s 1)},
    {dst:=s_ 29,op:=.load 1 f_ (.s 28)},
    {dst:=s_ 30,op:=.bld [(I J 0),(I J 0),(I J 0)] [(0,1,(.s 29))]},
    {dst:=s_ 31,op:=.aeq [0,0,0] f_ (.s 27) (.s 30)},
    {dst:=s_ 32,op:=.mov (.s 31)},
    {dst:=s_ 33,op:=.fld 1 (.s 1),guard:=s_ (32,t_)},
    {dst:=s_ 34,op:=.load 1 f_ (.s 33),guard:=s_ (32,t_)},
    {dst:=s_ 35,op:=.fld 2 (.s 1),guard:=s_ (32,t_)},
    {dst:=s_ 36,op:=.load 1 f_ (.s 35),guard:=s_ (32,t_)},
    {dst:=s_ 37,op:=.mm f_ (.s 34) (.s 36),guard:=s_ (32,t_)},
    {dst:=s_ 38,op:=.bin .geq (.s 37) (.c (I J 0)),guard:=s_ (32,t_)},
    {dst:=s_ 39,op:=.pick (.s 32) (.s 38) (.c (V f_))},
    {dst:=s_ 40,op:=.mov (.s 39)},
    {dst:=s_ 41,op:=.fld 1 (.s 1),guard:=s_ (40,t_)},
    {dst:=s_ 42,op:=.load 1 f_ (.s 41),guard:=s_ (40,t_)},
    {dst:=s_ 43,op:=.fld 2 (.s 1),guard:=s_ (40,t_)},
    {dst:=s_ 44,op:=.load 1 f_ (.s 43),guard:=s_ (40,t_)},
    {dst:=s_ 45,op:=.mm t_ (.s 42) (.s 44),guard:=s_ (40,t_)},
    {dst:=s_ 46,op:=.mov (.s 4),guard:=s_ (40,t_)},
    {dst:=s_ 47,op:=.bin .leq (.s 45) (.s 46),guard:=s_ (40,t_)},
    {dst:=s_ 48,op:=.pick (.s 40) (.s 47) (.c (V f_))},
    {dst:=s_ 2,op:=.mov (.s 48)}])
   (.ret))))))))
  [.tmp 2]
def yCc:IY Tryz.prog Eb 100 []=s_ nk:=by kernel_rfl
def yp8:PF:=
 .mk
  (.seq (.opsX [{dst:=s_ 2,op:=.mov (.s 0)},
    {dst:=s_ 3,op:=.nilc (.s 2)},
    {dst:=s_ 4,op:=.fld 297 (.s 3)},
    {dst:=s_ 5,op:=.fld 1 (.s 4)},
    {dst:=s_ 6,op:=.load 1 f_ (.s 5)},
    {dst:=s_ 7,op:=.bin .eql (.s 6) (.c (I J 0))},
    {dst:=s_ 8,op:=.mov (.s 7)},
    {dst:=s_ 9,op:=.mov (.s 0),guard:=s_ (8,t_)},
    {dst:=s_ 10,op:=.nilc (.s 9),guard:=s_ (8,t_)},
    {dst:=s_ 11,op:=.fld 0 (.s 10),guard:=s_ (8,t_)},
    {dst:=s_ 12,op:=.fld 7 (.s 11),guard:=s_ (8,t_)},
    {dst:=s_ 13,op:=.load 1 f_ (.s 12),guard:=s_ (8,t_)},
    {dst:=s_ 14,op:=.bin .eql (.s 13) (.c (I J 1)),guard:=s_ (8,t_)},
    {dst:=s_ 15,op:=.pick (.s 8) (.s 14) (.c (V f_))},
    {dst:=s_ 16,op:=.icall 37 [(.s 15),(.c (I J 380))]}])
   (.seq (.opsX [{dst:=s_ 17,op:=.mov (.s 0)},
    {dst:=s_ 18,op:=.nilc (.s 17)},
    {dst:=s_ 19,op:=.fld 0 (.s 18)},
    {dst:=s_ 20,op:=.fld 278 (.s 19)},
    {dst:=s_ 21,op:=.load 1 f_ (.s 20)},
    {dst:=s_ 22,op:=.len f_ (.s 21)},
    {dst:=s_ 23,op:=.bin .lss (.s 22) (.c (I J 8))},
    {dst:=s_ 24,op:=.icall 37 [(.s 23),(.c (I J 2))]}])
   (.seq (.opsX [{dst:=s_ 25,op:=.mov (.s 0)},
    {dst:=s_ 26,op:=.nilc (.s 25)},
    {dst:=s_ 27,op:=.fld 297 (.s 26)},
    {dst:=s_ 28,op:=.fld 139 (.s 27)},
    {dst:=s_ 29,op:=.load 5 t_ (.s 28)},
    {dst:=s_ 30,op:=.mov (.s 0)},
    {dst:=s_ 31,op:=.nilc (.s 30)},
    {dst:=s_ 32,op:=.fld 0 (.s 31)},
    {dst:=s_ 33,op:=.fld 0 (.s 32)},
    {dst:=s_ 34,op:=.load 5 t_ (.s 33)},
    {dst:=s_ 35,op:=.aeq [0,0,0,0,0] t_ (.s 29) (.s 34)},
    {dst:=s_ 36,op:=.mov (.s 35)},
    {dst:=s_ 37,op:=.mov (.s 0),guard:=s_ (36,t_)},
    {dst:=s_ 38,op:=.nilc (.s 37),guard:=s_ (36,t_)},
    {dst:=s_ 39,op:=.fld 0 (.s 38),guard:=s_ (36,t_)},
    {dst:=s_ 40,op:=.fld 278 (.s 39),guard:=s_ (36,t_)},
    {dst:=s_ 41,op:=.load 1 f_ (.s 40),guard:=s_ (36,t_)},
    {dst:=s_ 42,op:=.mov (.s 0),guard:=s_ (36,t_)},
    {dst:=s_ 43,op:=.nilc (.s 42),guard:=s_ (36,t_)},
    {dst:=s_ 44,op:=.fld 297 (.s 43),guard:=s_ (36,t_)},
    {dst:=s_ 45,op:=.fld 139 (.s 44),guard:=s_ (36,t_)},
    {dst:=s_ 46,op:=.load 5 t_ (.s 45),guard:=s_ (36,t_)},
    {dst:=s_ 47,op:=.call 76 [(.s 41),(.s 46)],guard:=s_ (36,t_)},
    {dst:=s_ 48,op:=.un .not (.s 47),guard:=s_ (36,t_)},
    {dst:=s_ 49,op:=.pick (.s 36) (.s 48) (.c (V f_))},
    {dst:=s_ 50,op:=.icall 37 [(.s 49),(.c (I J 1))]}])
   (.any [({dst:=s_ 51,op:=.mov (.s 0)},f_,[]),
    ({dst:=s_ 52,op:=.mov (.s 0)},f_,[]),
    ({dst:=s_ 53,op:=.nilc (.s 52)},f_,[]),
    ({dst:=s_ 54,op:=.fld 0 (.s 53)},f_,[]),
    ({dst:=s_ 55,op:=.fld 278 (.s 54)},f_,[]),
    ({dst:=s_ 56,op:=.load 1 f_ (.s 55)},f_,[]),
    ({dst:=s_ 57,op:=.icall 77 [(.s 56)]},t_,[]),
    ({dst:=s_ 58,op:=.mov (.s 0)},f_,[]),
    ({dst:=s_ 59,op:=.nilc (.s 58)},f_,[6]),
    ({dst:=s_ 60,op:=.fld 297 (.s 59)},f_,[6]),
    ({dst:=s_ 61,op:=.fld 139 (.s 60)},f_,[6]),
    ({dst:=s_ 62,op:=.load 5 t_ (.s 61)},f_,[6]),
    ({dst:=s_ 63,op:=.bslc 5 [(.s 62)]},f_,[6]),
    ({dst:=s_ 64,op:=.app 5 40 (.s 57) (.s 63)},f_,[]),
    ({dst:=s_ 65,op:=.nilc (.s 51)},f_,[]),
    ({dst:=s_ 66,op:=.fld 0 (.s 65)},f_,[]),
    ({dst:=s_ 67,op:=.fld 278 (.s 66)},f_,[]),
    ({dst:=none,op:=.stor 1 (.s 67) (.s 64)},f_,[])]))))
  []
def yv8:IY Tryz.prog Px 36 []=s_ yp8:=by kernel_rfl
def ZN:PF:=
 .mk
  (.seq (.ops [{dst:=s_ 4,op:=.mov (.c (.str []))}])
   (.seq (.seq (.ops [{dst:=s_ 7,op:=.mov (.s 0)},
    {dst:=s_ 8,op:=.bin .eql (.s 7) (.c (.str []))},
    {dst:=s_ 9,op:=.mov (.s 8)},
    {dst:=s_ 10,op:=.mov (.s 1),guard:=s_ (9,f_)},
    {dst:=s_ 11,op:=.bin .eql (.s 10) (.c (.str [])),guard:=s_ (9,f_)},
    {dst:=s_ 12,op:=.pick (.s 9) (.c (V t_)) (.s 11)}])
   (.cond (.s 12)
    (.seq (.ops [{dst:=s_ 13,op:=.mov (.s 0)},
     {dst:=s_ 4,op:=.mov (.s 13)}])
    (.ret))
    (.skip)))
   (.seq (.seq (.ops [{dst:=s_ 14,op:=.mov (.s 1)},
    {dst:=s_ 15,op:=.len t_ (.s 14)},
    {dst:=s_ 16,op:=.bin .eql (.s 15) (.c (I J 1))},
    {dst:=s_ 17,op:=.mov (.s 16)},
    {dst:=s_ 18,op:=.mov (.s 1),guard:=s_ (17,t_)},
    {dst:=s_ 19,op:=.idx (.s 18) (.c (I J 0)),guard:=s_ (17,t_)},
    {dst:=s_ 20,op:=.bin .lss (.s 19) (.c (I .u8 128)),guard:=s_ (17,t_)},
    {dst:=s_ 21,op:=.pick (.s 17) (.s 20) (.c (V f_))}])
   (.cond (.s 21)
    (.seq (.ops [{dst:=s_ 22,op:=.mov (.s 0)},
     {dst:=s_ 23,op:=.mov (.s 1)},
     {dst:=s_ 24,op:=.idx (.s 23) (.c (I J 0))},
     {dst:=s_ 25,op:=.call 160 [(.s 22),(.s 24)]},
     {dst:=s_ 26,op:=.mov (.s 1)},
     {dst:=s_ 27,op:=.idx (.s 26) (.c (I J 0))},
     {dst:=s_ 28,op:=.call 159 [(.s 25),(.s 27)]},
     {dst:=s_ 4,op:=.mov (.s 28)}])
    (.ret))
    (.skip)))
   (.seq (.seq (.ops [{dst:=s_ 30,op:=.mov (.s 1)},
    {dst:=s_ 31,op:=.call 161 [(.s 30)]},
    {dst:=s_ 29,op:=.mov (.s 31)},
    {dst:=s_ 32,op:=.ext (.s 29) 0},
    {dst:=s_ 33,op:=.ext (.s 29) 1},
    {dst:=s_ 5,op:=.box (.c (U (List.replicate 256 (V f_))))},
    {dst:=none,op:=.stor 256 (.s 5) (.s 32)},
    {dst:=s_ 6,op:=.mov (.s 33)}])
   (.seq (.ops [{dst:=s_ 34,op:=.mov (.s 6)}])
   (.cond (.s 34)
    (.seq (.ops [{dst:=s_ 35,op:=.mov (.s 0)},
     {dst:=s_ 36,op:=.icall 163 [(.s 35),(.s 5)]},
     {dst:=s_ 37,op:=.icall 162 [(.s 36),(.s 5)]},
     {dst:=s_ 4,op:=.mov (.s 37)}])
    (.ret))
    (.skip))))
   (.seq (.ops [{dst:=s_ 38,op:=.mov (.s 0)},
    {dst:=s_ 39,op:=.mov (.s 1)},
    {dst:=s_ 40,op:=.call 165 [(.s 38),(.s 39)]},
    {dst:=s_ 41,op:=.mov (.s 1)},
    {dst:=s_ 42,op:=.call 164 [(.s 40),(.s 41)]},
    {dst:=s_ 4,op:=.mov (.s 42)}])
   (.ret))))))
  [.tmp 4]
def yCd:IY Tryz.prog OC 134 []=s_ ZN:=by kernel_rfl
