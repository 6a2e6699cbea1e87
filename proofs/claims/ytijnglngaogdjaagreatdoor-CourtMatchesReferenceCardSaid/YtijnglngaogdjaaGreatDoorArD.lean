/-
  tvm: the digests of programs, attributes, stacks and states.
  Conditions: none; these are lemmas.
-/
import Derived.Test.YtijnglngaogdjaaGreatDoorFns
import Derived.Test.YtijnglngaogdjaaGreatDoorEngI2
import Derived.Test.YtijnglngaogdjaaGreatDoorSha
import Derived.WideKeyElems2
import Derived.LaidMore
import Derived.LaidHandle
import Derived.FnData
import Derived.KernelRfl
import Derived.Test.YtijnglngaogdjaaGreatDoorEngHe
open Bool renaming false→f_,true→t_
open Option renaming some→s_
open BitVec renaming ofInt→C0
open Int renaming reduceAdd→Dg,reduceLT→De,reduceNatCast'→CX,reduceNeg→C7,reducePow→Df,reduceToNat→C6
open List renaming range→C3,replicate→CZ
open Nat renaming reduceAdd→CY,reduceEqDiff→CW,reduceLT→C8,reduceLeDiff→C5
open UInt64 renaming ofNat→Dh
open UInt8 renaming ofNat→C4
set_option maxHeartbeats 8000000
set_option maxRecDepth 20000
set_option linter.unusedSimpArgs false
set_option linter.unusedVariables false
noncomputable section
namespace Go.Proofs.YtijnglngaogdjaaGreatDoor.PI
open Go
open D renaming int→I,slc→O,agg→U,bool→V,ptr→Y
open Go.IntKind renaming i64→J
def FH:List (Int×Nat):=[(3,231),(4,232),(5,233),(6,234),(7,235),(8,236),(9,238),(10,239),(11,240)]
def GG:DB:=fun n=>if n=0 then s_ (.gmap FH)else RW 1 .u32 (Sha.K.map fun x=>(x.toNat:Int)) n
theorem G1:GG 0=s_ (.gmap FH):=rfl
theorem rK:GG 1=s_ (U (Sha.K.map wD)):=rfl
theorem Ya(k:Int):DF .and (I .u64 (IntKind.wrap .u64 k)) (I .u64 31)=s_ (I .u64 ((k % 32).toNat:Int)):=by
 have h:(C0 (IntKind.bits .u64) (IntKind.wrap .u64 k) &&& C0 (IntKind.bits .u64) 31).toNat=(k % 32).toNat:=by
  show(C0 64 (IntKind.wrap .u64 k) &&& C0 64 31).toNat=_
  rw[CS,show(C0 64 31).toNat=2 ^ 5 - 1 from rfl,BN,BitVec.toNat_ofInt];simp[IntKind.wrap,IntKind.signed,IntKind.bits];omega
 simp only[DF,if_true,LY,Ae,h,VM]
 congr 2
 omega
def kg:List D→Option D:=Dq (α:=UInt32×Int) (fun a=>[wD a.1,I J a.2]) (fun a=>-31≤a.2∧a.2≤-1) (fun a=>wD (Sha.rotr a.1 (-a.2).toNat))
theorem uy(x:UInt32)(k:Int)(h:-31≤k∧k≤-1):kg [wD x,I J k]=s_ (wD (Sha.rotr x (-k).toNat)):=
 DK (fun⟨a0,a1⟩ ⟨b0,b1⟩ h=>by simp only[Aa,D.int.injEq,Yaj,true_and,and_true]at h; simp[h]) (x,k) h
theorem YG2(x:UInt32)(k:Int)(h:-31≤k∧k≤-1):@wW GG (tb [] []) cF.code (Dm [wD x,I J k]) [] ⟨Ds cF.res (wD (Sha.rotr x (-k).toNat))⟩:=by
 obtain⟨h1,h2⟩:=h;have E:∃ s:Nat,(k % 32).toNat=s∧0<s∧s<32∧(-k).toNat=32 - s:=⟨(k % 32).toNat,rfl,by omega,by omega,by omega⟩;obtain⟨s,M,e2,N,e4⟩:=E
 have e:DF .sub (I .u64 32) (I .u64 (s:Int))=s_ (I .u64 ((32 - s:Nat):Int)):=by
  simp only[DF,if_true,Lh,Ae];rw[show(32 - (s:Int))=((32 - s:Nat):Int) by omega,VM,Bd (by omega)]
 have hc:∀ st,FZ st (.int .u64) (I J k)=s_ (I .u64 (IntKind.wrap .u64 k)):=fun _=>rfl
 have e5:Sha.rotr x (32 - s)=x <<< UInt32.ofNat s ||| x >>> UInt32.ofNat (32 - s):=by
  unfold Sha.rotr;grind
 unfold cF
 push_cast [hc,Ya,M,e,YJr _ _ _ N,YJp x .u64 (32 - s) (by omega),PK,e4,e5]
theorem YM5:Contract Tryz.prog GG 187 kg:=
 DM yrh (DD all_nil all_nil) (fun a h=>YG2 a.1 a.2 h)
def Gq(b:List UInt8)(i:Nat):List UInt32:=Sha.sch b i++CZ (64 - i) 0
theorem Zg(b:List UInt8)(i:Nat)(h:i≤64):(Gq b i).length=64:=by simp[Gq,Sha.sch_length]; omega
theorem Yaz(b:List UInt8)(i j:Nat)(h:j<i):(Gq b i).getD j default=(Sha.sch b i).getD j 0:=by
 have E:j<(Sha.sch b i).length:=by rw[Sha.sch_length]; exact h
 simp[Gq,Ai,Av E,E]
theorem eF(b:List UInt8)(i:Nat)(v:UInt32)(h:i<64)(hv:Sha.sch b (i+1)=Sha.sch b i++[v]):(Gq b i).set i v=Gq b (i+1):=by have E:(Sha.sch b i).length=i:=Sha.sch_length b i;unfold Gq;rw[hv,BX _ _ (by omega),E,BF,show 64 - i=(64 - (i+1))+1 by omega,BP,Bn,Am];rfl
theorem zS(b:List UInt8)(i:Nat)(h:i<16):Sha.sch b (i+1)=Sha.sch b i++[Sha.word b i]:=by simp[Sha.sch,h]
theorem zR(b:List UInt8)(i:Nat)(h:16≤i):Sha.sch b (i+1)=Sha.sch b i++[(Sha.sch b i).getD (i - 16) 0+Sha.sig0 ((Sha.sch b i).getD (i - 15) 0)+(Sha.sch b i).getD (i - 7) 0+Sha.sig1 ((Sha.sch b i).getD (i - 2) 0)]:=by simp[Sha.sch,Nat.not_lt.2 h]
theorem Yd(s t:Sha.St8)(i:Nat)(h:i<8):(((s.add t).list.take i++s.list.drop i).set i (((s.add t).list.take i++s.list.drop i).getD i default+t.list.getD i default))=(s.add t).list.take (i+1)++s.list.drop (i+1):=by rcases i with _|_|_|_|_|_|_|_|i <;> first|rfl|omega
def mv:List D→Option D:=Dq (α:=Sha.St8×List UInt8) (fun a=>[U (Sha.St8.list a.1 |>.map wD),O (nz 1 (a.2.map Dr)) (a.2.map Dr) f_]) (fun a=>a.2.length=64) (fun a=>U ((Sha.block a.1 a.2).list.map wD))
theorem we(s:Sha.St8)(b:List UInt8)(h:b.length=64):mv [U (Sha.St8.list s |>.map wD),O (nz 1 (b.map Dr)) (b.map Dr) f_]=s_ (U ((Sha.block s b).list.map wD)):=
 DK (fun⟨a0,a1⟩ ⟨b0,b1⟩ h=>by simp only[Aa,D.slc.injEq,D.agg.injEq,Qd,vY,Sha.St8.list_iff,and_true]at h; simp[h]) (s,b) h
theorem YAf(s:Sha.St8)(b:List UInt8)(h:b.length=64):@wW GG (tb [(187,kg)] []) ZG.code (Dm [U (Sha.St8.list s |>.map wD),O (nz 1 (b.map Dr)) (b.map Dr) f_]) [] ⟨Ds ZG.res (U ((Sha.block s b).list.map wD))⟩:=by
 unfold ZG
 push_cast
 refine E0 (fun i:Nat=>[(1,O (nz 1 (b.map Dr)) (b.map Dr) f_),(2,Y 0 0),(4,Y 1 0),(5,Y 2 0),(19,I J (i:Int))])
  (fun i=>[⟨f_,1,s.list.map wD,f_⟩,⟨f_,1,(zW 8).map wD,f_⟩,⟨f_,1,(Gq b i).map wD,f_⟩]) (fun i=>i≤16) (fun i=>16 - i) 0 (by push_cast [↓CX] <;> rfl) (by omega) ?_
 intro i hi;unfold so
 push_cast
 refine Ew (fun h1=>?_) (fun h1=>?_)
 ·have ac:i<16:=by omega
  have E:(4*(i:Int)).toNat=4*i:=by omega
  have M:(4*(i:Int)+1).toNat=4*i+1:=by omega
  have N:(4*(i:Int)+2).toNat=4*i+2:=by omega
  have e3:(4*(i:Int)+3).toNat=4*i+3:=by omega
  have hl:(Gq b i).length=64:=Zg b i (by omega);have hw:=eF b i (Sha.word b i) (by omega) (zS b i ac);simp(disch:=omega) only[push_cast,↓reduceIte,CW,C8,C5,CY,C6,IA,DQ,KO,Yn8,qz,PK,KT,E,M,N,e3];refine EB (i+1) (by omega) (by omega) ?_;rw[← hw];rfl
 ·obtain rfl:i=16:=by omega
  push_cast [↓CX]
  refine E0 (fun i:Nat=>[(2,Y 0 0),(4,Y 1 0),(5,Y 2 0),(7,I J (i:Int))])
   (fun i=>[⟨f_,1,s.list.map wD,f_⟩,⟨f_,1,(zW 8).map wD,f_⟩,⟨f_,1,(Gq b i).map wD,f_⟩]) (fun i=>16≤i∧i≤64) (fun i=>64 - i) 16 (by push_cast [↓CX] <;> rfl) (by omega) ?_
  intro i hi;unfold ss
  push_cast
  refine Ew (fun h2=>?_) (fun h2=>?_)
  ·have hl:(Gq b i).length=64:=Zg b i (by omega);have hw:=eF b i _ (by omega) (zR b i (by omega));have E:((i:Int) - 15).toNat=i - 15:=by omega
   have M:((i:Int) - 2).toNat=i - 2:=by omega
   have N:((i:Int) - 16).toNat=i - 16:=by omega
   have e3:((i:Int) - 7).toNat=i - 7:=by omega
   simp(disch:=omega) only[push_cast,↓reduceIte,CW,C8,C5,CY,C6,C7,EI,DQ,KT,uy,gx,US,TP,E,M,N,e3,Yaz];refine EB (i+1) (by omega) (by omega) ?_;rw[← hw];rfl
  ·obtain rfl:i=64:=by omega
   have ab:Gq b 64=Sha.sch b 64:=by simp[Gq]
   have hl:(Sha.sch b 64).length=64:=Sha.sch_length b 64;have a1:s.list.length=8:=rfl;have a2:(zW 8).length=8:=rfl;simp(disch:=first|omega|rfl) only[push_cast,↓reduceIte,CW,CY,De,C7,↓CX,ab]
   refine E0 (fun i:Nat=>[(2,Y 0 0),(4,Y 1 0),(5,Y 2 0),(12,Y 3 0),(102,I J (i:Int))])
    (fun i=>[⟨f_,1,s.list.map wD,f_⟩,⟨f_,1,(zW 8).map wD,f_⟩,⟨f_,1,(Sha.sch b 64).map wD,f_⟩,⟨f_,1,(Sha.rounds (Sha.sch b 64) s i).list.map wD,f_⟩]) (fun i=>i≤64) (fun i=>64 - i) 0 (by push_cast [↓CX] <;> rfl) (by omega) ?_
   intro i hi;unfold su
   push_cast
   refine Ew (fun h3=>?_) (fun h3=>?_)
   ·have hK:Sha.K.length=64:=rfl;have hn:Sha.rounds (Sha.sch b 64) s (i+1)=Sha.round (Sha.rounds (Sha.sch b 64) s i) (Sha.K.getD i 0) ((Sha.sch b 64).getD i 0):=rfl;generalize Sha.rounds (Sha.sch b 64) s i=r at hn;simp(disch:=omega) only[push_cast,↓reduceIte,CW,C8,C5,CY,C6,C7,Sha.St8.list,KT,Ymy,Kk _ _ _ _ rK,uy,gx,YOx,YJ2,TP,DQ];refine EB (i+1) (by omega) (by omega) ?_;rw[hn];rfl
   ·obtain rfl:i=64:=by omega
    have hb:Sha.block s b=s.add (Sha.rounds (Sha.sch b 64) s 64):=rfl;rw[hb];generalize Sha.rounds (Sha.sch b 64) s 64=r
    push_cast [↓CX]
    refine E0 (fun i:Nat=>[(2,Y 0 0),(4,Y 1 0),(12,Y 3 0),(182,I J (i:Int))])
     (fun i=>[⟨f_,1,((s.add r).list.take i++s.list.drop i).map wD,f_⟩,⟨f_,1,(zW 8).map wD,f_⟩,⟨f_,1,(Sha.sch b 64).map wD,f_⟩,⟨f_,1,r.list.map wD,f_⟩]) (fun i=>i≤8) (fun i=>8 - i) 0 (by push_cast [↓CX] <;> rfl) (by omega) ?_
    intro i hi
    have a3:((s.add r).list.take i++s.list.drop i).length=8:=by
     simp only[Ac,AA,AW,Sha.St8.list_length]; omega
    have a4:r.list.length=8:=rfl;unfold sw
    push_cast
    refine Ew (fun h4=>?_) (fun h4=>?_)
    ·have ha:=Yd s r i (by omega);simp(disch:=omega) only[push_cast,↓reduceIte,CW,C8,C5,CY,KT,TP,DQ];refine EB (i+1) (by omega) (by omega) ?_;grind
    ·obtain rfl:i=8:=by omega
     have e8:(s.add r).list.take 8++s.list.drop 8=(s.add r).list:=rfl;have a5:(s.add r).list.length=8:=rfl;simp(disch:=first|omega|rfl) only[push_cast,↓reduceIte,CW,CY,De,↓CX,e8]
theorem YFq:Contract Tryz.prog GG 159 mv:=
 DM yHo (DD (all_cons YM5 all_nil) all_nil) (fun a h=>YAf a.1 a.2 h)
end Go.Proofs.YtijnglngaogdjaaGreatDoor.PI
namespace Go.Proofs.YtijnglngaogdjaaGreatDoor.PI
open Go Go.WideElems
open D renaming int→I,slc→O,agg→U,bool→V,ptr→Y
open Go.IntKind renaming i64→J
def binsD:DataW Unit:=.map [(.int .i64 3,.agg [.iface "func" (.lit (.string [119,97,103,111,110,112,111,111,108,47,109,111,110,101,121,46,65,100,100]))]),(.int .i64 4,.agg [.iface "func" (.lit (.string [119,97,103,111,110,112,111,111,108,47,109,111,110,101,121,46,83,117,98]))]),(.int .i64 5,.agg [.iface "func" (.lit (.string [119,97,103,111,110,112,111,111,108,47,109,111,110,101,121,46,77,117,108]))]),(.int .i64 6,.agg [.iface "func" (.lit (.string [119,97,103,111,110,112,111,111,108,47,116,118,109,46,98,105,110,97,114,105,101,115,36,49]))]),(.int .i64 7,.agg [.iface "func" (.lit (.string [119,97,103,111,110,112,111,111,108,47,116,118,109,46,98,105,110,97,114,105,101,115,36,50]))]),(.int .i64 8,.agg [.iface "func" (.lit (.string [119,97,103,111,110,112,111,111,108,47,116,118,109,46,98,105,110,97,114,105,101,115,36,51]))]),(.int .i64 9,.agg [.iface "func" (.lit (.string [119,97,103,111,110,112,111,111,108,47,116,118,109,46,98,105,110,97,114,105,101,115,36,52]))]),(.int .i64 10,.agg [.iface "func" (.lit (.string [119,97,103,111,110,112,111,111,108,47,116,118,109,46,98,105,110,97,114,105,101,115,36,53]))]),(.int .i64 11,.agg [.iface "func" (.lit (.string [119,97,103,111,110,112,111,111,108,47,116,118,109,46,98,105,110,97,114,105,101,115,36,54]))])]
theorem gB:Tryz.prog.globalNamed "wagonpool/tvm.binaries"=s_ 0:=by kernel_rfl
theorem tB:(Tryz.prog.globals[0]?).map (·.type)=s_ 198:=by kernel_rfl
theorem oM:Tryz.prog.underlying 198=s_ (.map 3 196):=by kernel_rfl
theorem u3:Tryz.prog.underlying 3=s_ (.int J):=by kernel_rfl
def Wu:Option TypeDesc→Bool
 |some (.struct fs)=>match fs.toList with
  |[f]=>f.offset == 0 && f.type == 194
  |_=>f_
 |_=>f_
def Xr:Option TypeDesc→Bool
 |some (.func _ _ _)=>t_
 |_=>f_
theorem V0:Wu (Tryz.prog.underlying 196)=t_:=by kernel_rfl
theorem V1:Xr (Tryz.prog.underlying 194)=t_:=by kernel_rfl
theorem oN:∃ f,Tryz.prog.underlying 196=s_ (.struct #[f])∧f.offset=0∧f.type=194:=by
 have h:=V0;unfold Wu at h
 split at h
 ·rename_i fs hu
  split at h
  ·rename_i f hf;simp only[Ad,beq_iff_eq]at h;have e:fs=#[f]:=Array.ext' hf;subst e;exact⟨f,hu,h.1,h.2⟩
  ·cases h
 ·cases h
theorem X3:Tryz.prog.cellsOf 196=1:=by kernel_rfl
theorem pF:Tryz.prog.cellsOf 194=1:=by kernel_rfl
theorem oO:∃ E rs M,Tryz.prog.underlying 194=s_ (.func E rs M):=by
 have h:=V1;unfold Xr at h
 split at h
 ·rename_i E rs M hu; exact⟨E,rs,M,hu⟩
 ·cases h
variable {k:Int}{v:Value}
theorem YK1{P:Program}{t:TypeId}{kd:IntKind}(M:P.underlying t=s_ (.int kd))(h:keyOf P t v=s_ (.int kd k)):v=.int kd k:=by
 unfold keyOf mapKey at h;rw[M]at h;simp only at h
 split at h
 ·rename_i E; cases E
 ·rename_i E; simp only[AS,TypeDesc.int.injEq]at E; subst E
  split at h
  ·simp only[AS,Lit.int.injEq]at h;rename_i N;rw[← N.1,h.2]
  ·cases h
 ·rename_i E; cases E
 ·cases h
theorem Yl9(h:keyOf Tryz.prog 3 v=s_ (.int .i64 k)):v=.int .i64 k:=YK1 u3 h
theorem uN{k:Int}{f:Nat}:∀ {l:List (Int×Nat)},Gx k l=s_ f→k∈l.map (·.1)
 |[],h=>by cases h
 |p::r,h=>by
  unfold Gx at h
  split at h
  ·rename_i e; simp[e]
  ·exact Ap _ (uN h)
theorem OM{W:World}{n:Nat}{e:MapEntry}{b:UInt8}{r:List UInt8}{f0:FuncId}(ab:((C3 Tryz.prog.funcs.size).filter fun f=>(Tryz.prog.funcs[f]?).any (·.name.toUTF8.data.toList == b::r))=[f0])
  (h:rd Tryz.prog 3 (elemAt (funcToken Tryz.prog) Tryz.prog W 0 (fun _=>t_) t_ n 196) e=s_ (.int .i64 k,.agg [.held (b::r)])):e.key=.int .i64 k∧e.val=.agg #[.func (.func f0) #[] #[]]:=by
 constructor
 ·exact Yl9 (rd_key h)
 ·obtain⟨z,N,aa⟩:=rd_val h;obtain⟨z1,z2⟩:=z;dsimp only at aa;subst aa;unfold elemAt at N
  split at N
  case isFalse=>cases N
  rename_i E;obtain⟨f,hu,ho,ht⟩:=oN;obtain⟨ps,rs,va,ac⟩:=oO
  cases n with
  |zero=>simp[DataW.trod]at N
  |succ n=>
   unfold Value.formed at E;rw[hu,X3]at E
   cases hv:e.val with
   |agg cs=>
    rw[hv]at N E;simp only[beq_iff_eq]at E
    obtain⟨v,rfl⟩:∃ v,cs=#[v]:=by
     obtain⟨l⟩:=cs
     match l,E with
     |[v],_=>exact⟨v,rfl⟩
    have M:DataW.trod (funcToken Tryz.prog) Tryz.prog W 0 (fun _=>t_) t_ (n+1) 196 [v]=s_ (.agg [.held (b::r)],z2):=N;rw[DataW.trod_step]at M;unfold DataW.trodStep at M;rw[hu]at M;simp[X3,ho,ht,pF]at M
    obtain⟨q,hq⟩:∃ q,DataW.trod (funcToken Tryz.prog) Tryz.prog W 0 (fun _=>t_) t_ n 194 [v]=s_ (.held (b::r),q):=by
     rw[Az]at M;obtain⟨⟨y1,y2⟩,h1,h2⟩:=M;simp at h2;exact⟨y2,by rw[h1,h2.1]⟩
    rw[func_of_trod ac ab hq]
   |_=>rw[hv]at E; simp at E
def Yg:List (Lit×DataW (List UInt8)):=[(.int .i64 3,.agg [.held [119,97,103,111,110,112,111,111,108,47,109,111,110,101,121,46,65,100,100]]),(.int .i64 4,.agg [.held [119,97,103,111,110,112,111,111,108,47,109,111,110,101,121,46,83,117,98]]),(.int .i64 5,.agg [.held [119,97,103,111,110,112,111,111,108,47,109,111,110,101,121,46,77,117,108]]),(.int .i64 6,.agg [.held [119,97,103,111,110,112,111,111,108,47,116,118,109,46,98,105,110,97,114,105,101,115,36,49]]),(.int .i64 7,.agg [.held [119,97,103,111,110,112,111,111,108,47,116,118,109,46,98,105,110,97,114,105,101,115,36,50]]),(.int .i64 8,.agg [.held [119,97,103,111,110,112,111,111,108,47,116,118,109,46,98,105,110,97,114,105,101,115,36,51]]),(.int .i64 9,.agg [.held [119,97,103,111,110,112,111,111,108,47,116,118,109,46,98,105,110,97,114,105,101,115,36,52]]),(.int .i64 10,.agg [.held [119,97,103,111,110,112,111,111,108,47,116,118,109,46,98,105,110,97,114,105,101,115,36,53]]),(.int .i64 11,.agg [.held [119,97,103,111,110,112,111,111,108,47,116,118,109,46,98,105,110,97,114,105,101,115,36,54]])]
theorem Yvt{W:World}(h:funcsAt Tryz.prog W "wagonpool/tvm.binaries" binsD):∃ b es clock,W.cell? ⟨0,0,none⟩=s_ (.map (s_ b))∧W.heap[b]?=s_ (.map es clock)∧NT (.map es clock)=t_∧qW es FH:=by
 obtain⟨g,t,cs,fuel,p,hg,ht,hv,hd⟩:=h;obtain rfl:=AE (gB.symm.trans hg);obtain rfl:=AE (tB.symm.trans ht);have hd':DataW.trod (funcToken Tryz.prog) Tryz.prog W 0 (fun _=>t_) t_ fuel 198 cs.toList=s_ (.map Yg,p):=hd;rcases open_map oM hd' with⟨_,hx⟩|⟨b,es,clock,n,rfl,hcs,hb,_,F,hx⟩
 ·cases hx
 simp only[AB,DataW.map.injEq]at hx
 have mem:∀ y,y∈Yg↔y∈es.toList.map (rg Tryz.prog 3 (elemAt (funcToken Tryz.prog) Tryz.prog W 0 (fun _=>t_) t_ n 196)):=fun y=>by
  rw[hx.1]; exact(Go.WideShapes.sorted_perm _).mem_iff
 have ent:∀ e∈es.toList,∃ k f,e.key=.int .i64 k∧e.val=.agg #[.func (.func f) #[] #[]]∧f<5000000∧Gx k FH=s_ f:=by
  intro e he;obtain⟨y,hy⟩:=F.reads e he;have hm:y∈Yg:=(mem y).2 (A1.2 ⟨e,he,rg_of hy⟩);simp only[Yg,Ay,AD,or_false]at hm;rcases hm with rfl|rfl|rfl|rfl|rfl|rfl|rfl|rfl|rfl
  ·obtain⟨h1,h2⟩:=OM (f0:=231) (by kernel_rfl) hy; exact⟨_,_,h1,h2,by decide,rfl⟩
  ·obtain⟨h1,h2⟩:=OM (f0:=232) (by kernel_rfl) hy; exact⟨_,_,h1,h2,by decide,rfl⟩
  ·obtain⟨h1,h2⟩:=OM (f0:=233) (by kernel_rfl) hy; exact⟨_,_,h1,h2,by decide,rfl⟩
  ·obtain⟨h1,h2⟩:=OM (f0:=234) (by kernel_rfl) hy; exact⟨_,_,h1,h2,by decide,rfl⟩
  ·obtain⟨h1,h2⟩:=OM (f0:=235) (by kernel_rfl) hy; exact⟨_,_,h1,h2,by decide,rfl⟩
  ·obtain⟨h1,h2⟩:=OM (f0:=236) (by kernel_rfl) hy; exact⟨_,_,h1,h2,by decide,rfl⟩
  ·obtain⟨h1,h2⟩:=OM (f0:=238) (by kernel_rfl) hy; exact⟨_,_,h1,h2,by decide,rfl⟩
  ·obtain⟨h1,h2⟩:=OM (f0:=239) (by kernel_rfl) hy; exact⟨_,_,h1,h2,by decide,rfl⟩
  ·obtain⟨h1,h2⟩:=OM (f0:=240) (by kernel_rfl) hy; exact⟨_,_,h1,h2,by decide,rfl⟩
 have all:∀ k∈FH.map (·.1),∃ e∈es.toList,e.key=.int .i64 k:=by
  intro k hk
  have hkL:∃ d,(Lit.int .i64 k,d)∈Yg:=by
   simp only[FH,Aw,Ba,Ay,AD,or_false]at hk;rcases hk with rfl|rfl|rfl|rfl|rfl|rfl|rfl|rfl|rfl
   ·exact⟨_,Bg⟩
   ·exact⟨_,Ap _ (Bg)⟩
   ·exact⟨_,Ap _ (Ap _ (Bg))⟩
   ·exact⟨_,Ap _ (Ap _ (Ap _ (Bg)))⟩
   ·exact⟨_,Ap _ (Ap _ (Ap _ (Ap _ (Bg))))⟩
   ·exact⟨_,Ap _ (Ap _ (Ap _ (Ap _ (Ap _ (Bg)))))⟩
   ·exact⟨_,Ap _ (Ap _ (Ap _ (Ap _ (Ap _ (Ap _ (Bg))))))⟩
   ·exact⟨_,Ap _ (Ap _ (Ap _ (Ap _ (Ap _ (Ap _ (Ap _ (Bg)))))))⟩
   ·exact⟨_,Ap _ (Ap _ (Ap _ (Ap _ (Ap _ (Ap _ (Ap _ (Ap _ (Bg))))))))⟩
  obtain⟨d,hd⟩:=hkL;obtain⟨e,he,hre⟩:=A1.1 ((mem _).1 hd);obtain⟨y,hy⟩:=F.reads e he;obtain⟨k',f,h1,h2,_⟩:=ent e he;rw[rg_of hy]at hre;subst hre;have hk:=Yl9 (rd_key hy);exact⟨e,he,hk⟩
 have hc0:W.cell? ⟨0,0,none⟩=s_ (.map (s_ b)):=by
  rw[World.var?_cell hg hv 0];obtain⟨l⟩:=cs;have:l=[.map (s_ b)]:=hcs;rw[this]; rfl
 have hsp:NT (.map es clock)=t_:=by
  rw[jJ];obtain⟨e,he,_⟩:=all 3 (by decide)
  have hlt:0<es.size:=by
   have:=List.length_pos_of_mem he;simpa using this
  rw[BI hlt];obtain⟨k,f,_,h2,_⟩:=ent es[0] (by simp);simp only[h2];rfl
 refine⟨b,es,clock,hc0,hb,hsp,fun e he=>?_,fun k f hf=>?_⟩
 ·exact ent e he
 ·exact all k (uN hf)
theorem globGG{W:World}(hk:Lib.TabIs Tryz.prog W "wagonpool/digest.k" .u32 (Sha.K.map fun x=>(x.toNat:Int)))(gk:Tryz.prog.globalNamed "wagonpool/digest.k"=s_ 1)(h:funcsAt Tryz.prog W "wagonpool/tvm.binaries" binsD):GlobOK GG W (Lg W):=by
 intro n d hd;unfold GG at hd
 split at hd
 ·rename_i e;subst e;simp only[AS]at hd;subst hd;obtain⟨b,es,clock,h1,h2,h3,h4⟩:=Yvt h
  have hj:∀ (j:Nat) (d:D),(D.gmap FH).cells[j]?=s_ d→j=0∧d=.gmap FH:=fun j d hd=>by
   cases j with
   |zero=>exact⟨rfl,(AE hd).symm⟩
   |succ j=>cases hd
  refine .eptr _ 0 _ 0 (fun _=>.map (s_ b)) (fun j d hd=>?_) (fun j d hd=>?_) (fun j d hd=>?_)
  ·obtain⟨rfl,rfl⟩:=hj j d hd; rfl
  ·obtain⟨rfl,rfl⟩:=hj j d hd;exact⟨by show(W.cell? ⟨_,0,none⟩).isSome=t_; rw[h1]; rfl,h1⟩
  ·obtain⟨rfl,rfl⟩:=hj j d hd;exact .gmap _ b es clock h2 h3 h4
 ·exact YEe hk gk n d hd
end Go.Proofs.YtijnglngaogdjaaGreatDoor.PI
namespace Go.Proofs.YtijnglngaogdjaaGreatDoor.PI
open Go
open D renaming int→I,slc→O,agg→U,bool→V,ptr→Y
open Go.IntKind renaming i64→J
theorem zO(n:Nat):DF .mul (I .u64 (n:Int)) (I .u64 8)=s_ (qD (Dh n*8)):=by
 have e:(n:Int)*8=((n*8:Nat):Int):=by omega
 simp only[DF,if_true,Lh,Ae,e,VM,qD]
 congr 3
 simp
theorem X7:D.int .u8 128=Dr 128:=rfl
theorem b0:D.int .u8 0=Dr 0:=rfl
theorem qC(n:Nat)(σ:List Nat)(x:UInt64):EO n σ (qD x)=qD x:=rfl
theorem rq(x:UInt64):hk (qD x)=[]:=rfl
variable {α:Type}
theorem yJv(l:List (List α))(i:Nat):(l.take i).flatten.length≤l.flatten.length:=by
 have:l.flatten=(l.take i).flatten++(l.drop i).flatten:=by rw[← List.flatten_append,Bu]
 rw[this,Ac];omega
theorem oF(s:Sha.St8):∀ (i:Nat) (m:List UInt8),Sha.blocks s (i+1) m=Sha.block (Sha.blocks s i m) ((m.drop (64*i)).take 64)
 |0,m=>by simp[Sha.blocks]
 |i+1,m=>by
  rw[Sha.blocks,oF (Sha.block s (m.take 64)) i (m.drop 64),Sha.blocks,Bx,show 64+64*i=64*(i+1) by omega]
theorem wO(m:List UInt8):(Sha.padded m).length=m.length+1+Sha.zeros m.length+8∧(Sha.padded m).length % 64=0:=by
 have h:(Sha.padded m).length=m.length+1+Sha.zeros m.length+8:=by
  simp[Sha.padded,Sha.lenB_length]; omega
 refine⟨h,?_⟩;rw[h]; unfold Sha.zeros; omega
def JB(l:List UInt32)(i:Nat):List UInt8:=Sha.outB l i++CZ (32 - i) 0
theorem Zc(l:List UInt32)(i:Nat)(h:i≤32):(JB l i).length=32:=by simp[JB,Sha.outB_length]; omega
theorem Ybo(l:List UInt32)(i:Nat)(h:i<32):(JB l i).set i ((l.getD (i / 4) 0 >>> UInt32.ofNat (24 - 8*(i % 4))).toUInt8)=JB l (i+1):=by have E:(Sha.outB l i).length=i:=Sha.outB_length l i;unfold JB;rw[Sha.outB,BX _ _ (by omega),E,BF,show 32 - i=(32 - (i+1))+1 by omega,BP,Bn,Am];rfl
def rC(sz key tot off:Nat):D:=if off<tot then .row key tot off (tot - off)else O sz [] f_
variable {key off sz tot:Nat}
theorem mC(h:off<tot):rC sz key tot off=.row key tot off (tot - off):=if_pos h
theorem Yak(h:¬ off<tot):rC sz key tot off=O sz [] f_:=if_neg h
def ir:List D→Option D:=Dq (α:=List (List UInt8)) (fun a=>[O (nz 1 (a.map L5)) (a.map L5) f_]) (fun a=>a.flatten.length≤4294960000∧a.length≤4294960000) (fun a=>Dl (JA a.flatten))
theorem Ywl(E:List (List UInt8))(h:E.flatten.length≤4294960000∧E.length≤4294960000):ir [O (nz 1 (E.map L5)) (E.map L5) f_]=s_ (Dl (JA E.flatten)):=
 DK (fun a b h=>by simp only[Aa,D.slc.injEq,YFu,and_true]at h; simp[h]) (E) h
theorem VO(N:List (List UInt8))(h:N.flatten.length≤4294960000∧N.length≤4294960000):@wW GG (tb [(159,mv)] []) Zm.code (Dm [O (nz 1 (N.map L5)) (N.map L5) f_]) [] ⟨Ds Zm.res (Dl (JA N.flatten))⟩:=by
 obtain⟨h,bg⟩:=h;generalize hm:N.flatten=m at h;unfold Zm
 push_cast [Yuf 1]
 refine E0 (fun i:Nat=>[(2,Y 0 0),(3,DY 0 1 ((N.take i).flatten.map Dr)),(10,O (nz 1 (N.map L5)) (N.map L5) f_),(11,I J (N.length:Int)),(12,I J (i:Int))])
  (fun i=>⟨f_,1,Dj DH,f_⟩::DC 1 ((N.take i).flatten.map Dr)) (fun i=>i≤N.length) (fun i=>N.length - i) 0 (by push_cast [↓CX] <;> rfl) (by omega) ?_
 intro i hi;unfold rU
 push_cast
 refine Ew (fun h1=>?_) (fun h1=>?_)
 ·have e:(N.take (i+1)).flatten=(N.take i).flatten++N.getD i default:=by
   rw[nB N i (by omega),List.flatten_append]; simp
  have hl:=yJv N (i+1);rw[e,Ac,hm]at hl
  push_cast(disch:=lia)[KO,DQ]
  refine EB (i+1) (by omega) (by omega) ?_;rw[e]
  push_cast <;> rfl
 ·obtain rfl:i=N.length:=by omega
  rw[AR,hm];have ad:(m++[128]).map Dr≠[]:=by simp
  push_cast(disch:=lia)[U6,zO,X7,Mc _ _ _ ad,LO _ _ ad]
  generalize hq:Dh m.length*8=q
  refine E0 (fun j:Nat=>[(2,Y 0 0),(3,.row 1 (m++[128]++CZ j 0).length 0 (m++[128]++CZ j 0).length),(6,qD q)])
   (fun j=>[⟨f_,1,Dj DH,f_⟩,⟨t_,1,(m++[128]++CZ j 0).map Dr,f_⟩]) (fun j=>j≤Sha.zeros m.length) (fun j=>Sha.zeros m.length - j) 0 (by push_cast [CA,Af] <;> rfl) (by omega) ?_
  intro j hj;have hlen:(m++[128]++CZ j 0).length=m.length+1+j:=by simp; omega
  have bh:(m.length+1+Sha.zeros m.length) % 64=56:=by unfold Sha.zeros; omega
  have hz:Sha.zeros m.length<64:=by unfold Sha.zeros; omega
  unfold rV
  push_cast(disch:=lia)[Yu]
  refine Ew (fun h2=>?_) (fun h2=>?_)
  ·obtain rfl:j=Sha.zeros m.length:=by
    unfold Sha.zeros at hj ⊢; omega
   push_cast
   have ae:(m++[128]++CZ (Sha.zeros m.length) 0)=(m++[128]++CZ (Sha.zeros m.length) 0)++Sha.lenB q 0:=(Af _).symm;generalize hM:m++[128]++CZ (Sha.zeros m.length) 0=M at hlen ae h2
   refine E0 (fun j:Nat=>[(2,Y 0 0),(3,.row 1 (M++Sha.lenB q j).length 0 (M++Sha.lenB q j).length),(6,qD q),(7,I J (56 - 8*(j:Int)))])
    (fun j=>[⟨f_,1,Dj DH,f_⟩,⟨t_,1,(M++Sha.lenB q j).map Dr,f_⟩]) (fun j=>j≤8) (fun j=>8 - j) 0 (by rw[← ae]; push_cast [↓CX] <;> rfl) (by omega) ?_
   intro j hj;have af:(M++Sha.lenB q j).length=M.length+j:=by rw[Ac,Sha.lenB_length]
   unfold rW
   push_cast
   refine Ew (fun h3=>?_) (fun h3=>?_)
   ·have e:(56 - 8*(j:Int)).toNat=56 - 8*j:=by omega
    have e2:M++Sha.lenB q (j+1)=(M++Sha.lenB q j)++[(q >>> Dh (56 - 8*j)).toUInt8]:=by rw[Sha.lenB,Am]
    push_cast(disch:=lia)[zT,Yn7,e,EI]
    refine EB (j+1) (by omega) (by omega) ?_;rw[e2];have e4:(56 - 8*(j:Int) - 8)=56 - 8*((j+1:Nat):Int):=by omega
    push_cast [qC,rq,e4] <;> rfl
   ·obtain rfl:j=8:=by omega
    have hP:M++Sha.lenB q 8=Sha.padded m:=by rw[← hM,← hq]; rfl
    rw[hP];rw[hP]at af;obtain⟨a2,a3⟩:=wO m;have a4:JA m=⟨Sha.outB (Sha.blocks Sha.H0 ((Sha.padded m).length / 64) (Sha.padded m)).list 32,Sha.outB_length _ 32⟩:=rfl;rw[a4];generalize Sha.padded m=E at af a2 a3;have hH:Sha.H0.list.length=8:=rfl;have b1:(zW 8).length=8:=rfl;simp(disch:=omega) only[push_cast,↓reduceIte,CW,CY,Int.reduceLE,C7,Int.reduceMul,Int.reduceSub,↓CX,zx]
    refine E0 (fun j:Nat=>[(2,Y 0 0),(3,rC 1 1 E.length (64*j)),(8,Y 2 0)])
     (fun j=>[⟨f_,1,Dj DH,f_⟩,⟨t_,1,E.map Dr,f_⟩,⟨f_,1,(Sha.blocks Sha.H0 j E).list.map wD,f_⟩]) (fun j=>j≤E.length / 64) (fun j=>E.length / 64 - j) 0 (by rw[mC (by omega)]; push_cast <;> rfl) (by omega) ?_
    intro j hj;unfold rX;rcases A5 (64*j) E.length with h4|h4
    ·have b2:((E.drop (64*j)).take 64).length=64:=by simp; omega
     have ab:=oF Sha.H0 j E;generalize Sha.blocks Sha.H0 j E=sj at ab;have a6:sj.list.length=8:=rfl;have b3:(Sha.block sj ((E.drop (64*j)).take 64)).list.length=8:=rfl;have c1:((0:Int)<((E.length - 64*j:Nat):Int)):=by omega
     have c2:((0:Int)<(E.length:Int) - 64*(j:Int)):=by omega
     have c3:¬ (64=E.length - 64*j)∨E.length - 64*j=64:=by omega
     rw[mC h4]
     by_cases h5:E.length - 64*j=64
     ·simp(disch:=omega) only[push_cast,↓reduceIte,CW,C8,C5,CY,De,C6,↓CX,Yi0,we,h5];refine EB (j+1) (by omega) (by omega) ?_;rw[Yak (by omega),ab]
     ·have h6:¬ 64=E.length - 64*j:=fun e=>h5 e.symm;simp(disch:=omega) only[push_cast,↓reduceIte,CW,C8,C5,CY,Nat.reduceSub,C6,↓CX,c2,Yi0,we,h6];refine EB (j+1) (by omega) (by omega) ?_;rw[mC (by omega),ab];simp only[Nat.mul_add,BO,Nat.sub_sub]
    ·obtain rfl:j=E.length / 64:=by omega
     rw[Yak (by omega)];generalize Sha.blocks Sha.H0 (E.length / 64) E=sj;have a6:sj.list.length=8:=rfl
     push_cast
     refine E0 (fun j:Nat=>[(2,Y 0 0),(8,Y 2 0),(55,I J (j:Int))])
      (fun j=>[⟨f_,1,(JB sj.list j).map Dr,f_⟩,⟨t_,1,E.map Dr,f_⟩,⟨f_,1,sj.list.map wD,f_⟩]) (fun j=>j≤32) (fun j=>32 - j) 0 (by push_cast [↓CX] <;> rfl) (by omega) ?_
     intro j hj;unfold rY
     push_cast
     refine Ew (fun h6=>?_) (fun h6=>?_)
     ·have a8:=Zc sj.list j (by omega);have a9:=Ybo sj.list j (by omega);have e1:((j:Int) / 4).toNat=j / 4:=by omega
      have e2:(24 - 8*((j:Int) % 4)).toNat=24 - 8*(j % 4):=by omega
      simp(disch:=omega) only[push_cast,↓reduceIte,CW,C8,C5,CY,gj,Yu,IA,EI,DQ,KT,US,Yn5,e1,e2];refine EB (j+1) (by omega) (by omega) ?_;rw[← a9]
      push_cast <;> rfl
     ·obtain rfl:j=32:=by omega
      have a8:=Zc sj.list 32 (by omega);simp(disch:=omega) only[push_cast,↓reduceIte,CW,CY,De,↓CX];rw[show JB sj.list 32=Sha.outB sj.list 32 from Af _];rfl
  ·push_cast(disch:=lia)[b0]
   have h9:j<Sha.zeros m.length:=by
    rcases A5 j (Sha.zeros m.length)with h3|h3
    ·exact h3
    ·exfalso;obtain rfl:j=Sha.zeros m.length:=by omega
     omega
   refine EB (j+1) (by omega) (by omega) ?_
   have e:m++[128]++CZ (j+1) 0=(m++[128]++CZ j 0)++[0]:=by
    rw[Cw,Am,Am,Am]
   rw[e]
   push_cast [qC,rq] <;> rfl
theorem XS:Contract Tryz.prog GG 116 ir:=
 DM yN3 (DD (all_cons YFq all_nil) all_nil) (fun a h=>VO a h)
def SJ:List D→Option D:=Dq (α:=List UInt8×List UInt8) (fun a=>[.str a.1,O (nz 1 (a.2.map Dr)) (a.2.map Dr) f_]) (fun a=>a.1.length+a.2.length≤4294900000) (fun a=>Dl (OW a.1 a.2))
theorem ot(t:List UInt8)(b:List UInt8)(h:t.length+b.length≤4294900000):SJ [.str t,O (nz 1 (b.map Dr)) (b.map Dr) f_]=s_ (Dl (OW t b)):=
 DK (fun⟨a0,a1⟩ ⟨b0,b1⟩ h=>by simp only[Aa,D.slc.injEq,D.str.injEq,Qd,and_true]at h; simp[h]) (t,b) h
theorem Yow(x:UInt8)(t b:List UInt8)(h:t.length+b.length≤4294950000) :
  ir [O 1 [O 1 [Dr x] f_,O (nz 1 (t.map Dr)) (t.map Dr) f_,O (nz 1 (b.map Dr)) (b.map Dr) f_] f_]=s_ (Dl (JA (x::(t++b)))):=by have:=Ywl [[x],t,b] ⟨by simp; omega,by simp⟩;rw[show([[x],t,b]:List (List UInt8)).flatten=x::(t++b) by simp]at this;exact this
theorem Yrq(t:List UInt8)(b:List UInt8)(h:t.length+b.length≤4294900000):@wW GG (tb [(116,ir)] []) ZR.code (Dm [.str t,O (nz 1 (b.map Dr)) (b.map Dr) f_]) [] ⟨Ds ZR.res (Dl (OW t b))⟩:=by
 unfold ZR;have M:(min (t.length:Int) 255).toNat=min t.length 255:=by omega
 have N:t.take (min t.length 255)=t.take 255:=by
  rcases Nat.le_total t.length 255 with E|E
  ·rw[BM E,AR,AL E]
  ·rw[Nat.min_eq_right E]
 have hl:(t.take 255).length≤255:=by simp; omega
 have aa:(t.take 255).length≤t.length:=by simp; omega
 simp(disch:=omega) only[push_cast,↓reduceIte,CW,xq,M,N,Nm,Yow];rfl
theorem kW:Contract Tryz.prog GG 62 SJ:=
 DM yFy (DD (all_cons XS all_nil) all_nil) (fun a h=>Yrq a.1 a.2 h)
def eN:List D→Option D:=Dq (α:=UInt32×Int) (fun a=>[wD a.1,I J a.2]) (fun a=>1≤a.2∧a.2≤31) (fun a=>wD (Sha.rotr a.1 a.2.toNat))
theorem wo(x:UInt32)(n:Int)(h:1≤n∧n≤31):eN [wD x,I J n]=s_ (wD (Sha.rotr x n.toNat)):=
 DK (fun⟨a0,a1⟩ ⟨b0,b1⟩ h=>by simp only[Aa,D.int.injEq,Yaj,true_and,and_true]at h; simp[h]) (x,n) h
theorem Yzv(x:UInt32)(n:Int)(h:1≤n∧n≤31):@wW GG (tb [] []) az.code (Dm [wD x,I J n]) [] ⟨Ds az.res (wD (Sha.rotr x n.toNat))⟩:=by
 unfold az;have e:(32 - n).toNat=32 - n.toNat:=by omega
 simp(disch:=omega) only[push_cast,↓reduceIte,CW,US,qz,EI,PK,e];rfl
theorem Yp9:Contract Tryz.prog GG 193 eN:=
 DM ywb (DD all_nil all_nil) (fun a h=>Yzv a.1 a.2 h)
def nF:List D→Option D:=Dq (α:=Unit) (fun _=>[]) (fun _=>True) (fun _=>U (Sha.K.map wD))
theorem yZs:nF []=s_ (U (Sha.K.map wD)):=
 DK (fun _ _ _=>rfl) () trivial
theorem Yru:@wW GG (tb [] []) cG.code (Dm []) [] ⟨Ds cG.res (U (Sha.K.map wD))⟩:=by unfold cG;have E:Sha.K.length=64:=rfl;have M:(zW 64).length=64:=rfl;simp(disch:=omega) only[push_cast,↓reduceIte,CW,CY,Xt]
theorem Yw2:Contract Tryz.prog GG 192 nF:=
 DM yo3 (DD all_nil all_nil) (fun a h=>Yru )
def nG:List D→Option D:=Dq (α:=List UInt8) (fun a=>[O (nz 1 (a.map Dr)) (a.map Dr) f_]) (fun a=>a.length=64) (fun a=>U ((Sha.sch a 64).map wD))
theorem yZr(b:List UInt8)(h:b.length=64):nG [O (nz 1 (b.map Dr)) (b.map Dr) f_]=s_ (U ((Sha.sch b 64).map wD)):=
 DK (fun a b h=>by simp only[Aa,D.slc.injEq,Qd,and_true]at h; simp[h]) (b) h
theorem Yrs(b:List UInt8)(h:b.length=64):@wW GG (tb [(193,eN)] []) cq.code (Dm [O (nz 1 (b.map Dr)) (b.map Dr) f_]) [] ⟨Ds cq.res (U ((Sha.sch b 64).map wD))⟩:=by
 unfold cq;have h2:(zW 64).length=64:=rfl;simp(disch:=omega) only[push_cast,↓reduceIte,CW,CY]
 refine E0 (fun i:Nat=>[(0,O (nz 1 (b.map Dr)) (b.map Dr) f_),(2,Y 0 0),(3,Y 1 0),(4,I J (i:Int))])
  (fun i=>[⟨f_,1,(zW 64).map wD,f_⟩,⟨f_,1,(Gq b i).map wD,f_⟩]) (fun i=>i≤16) (fun i=>16 - i) 0 (by push_cast [↓CX] <;> rfl) (by omega) ?_
 intro i hi;unfold tY
 push_cast
 refine Ew (fun h1=>?_) (fun h1=>?_)
 ·have ac:i<16:=by omega
  have E:(4*(i:Int)).toNat=4*i:=by omega
  have M:(4*(i:Int)+1).toNat=4*i+1:=by omega
  have N:(4*(i:Int)+2).toNat=4*i+2:=by omega
  have e3:(4*(i:Int)+3).toNat=4*i+3:=by omega
  have hl:(Gq b i).length=64:=Zg b i (by omega);have hw:=eF b i (Sha.word b i) (by omega) (zS b i ac);simp(disch:=omega) only[push_cast,↓reduceIte,CW,C8,C5,CY,C6,IA,DQ,KO,Yn8,qz,PK,KT,E,M,N,e3];refine EB (i+1) (by omega) (by omega) ?_;rw[← hw]
  push_cast <;> rfl
 ·obtain rfl:i=16:=by omega
  push_cast [↓CX]
  refine E0 (fun i:Nat=>[(2,Y 0 0),(3,Y 1 0),(5,I J (i:Int))])
   (fun i=>[⟨f_,1,(zW 64).map wD,f_⟩,⟨f_,1,(Gq b i).map wD,f_⟩]) (fun i=>16≤i∧i≤64) (fun i=>64 - i) 16 (by push_cast [↓CX] <;> rfl) (by omega) ?_
  intro i hi;unfold tZ
  push_cast
  refine Ew (fun h3=>?_) (fun h3=>?_)
  ·have hl:(Gq b i).length=64:=Zg b i (by omega);have hw:=eF b i _ (by omega) (zR b i (by omega));have E:((i:Int) - 15).toNat=i - 15:=by omega
   have M:((i:Int) - 2).toNat=i - 2:=by omega
   have N:((i:Int) - 16).toNat=i - 16:=by omega
   have e3:((i:Int) - 7).toNat=i - 7:=by omega
   simp(disch:=omega) only[push_cast,↓reduceIte,CW,C8,C5,CY,C6,EI,DQ,KT,wo,gx,US,TP,E,M,N,e3,Yaz];refine EB (i+1) (by omega) (by omega) ?_;rw[← hw]
   push_cast <;> rfl
  ·obtain rfl:i=64:=by omega
   have ab:Gq b 64=Sha.sch b 64:=by simp[Gq]
   have hl:(Sha.sch b 64).length=64:=Sha.sch_length b 64;simp(disch:=omega) only[push_cast,↓reduceIte,CW,CY,De,↓CX,ab]
theorem Yw1:Contract Tryz.prog GG 191 nG:=
 DM yp1 (DD (all_cons Yp9 all_nil) all_nil) (fun a h=>Yrs a h)
def nE:List D→Option D:=Dq (α:=Sha.St8×List UInt8) (fun a=>[U (Sha.St8.list a.1 |>.map wD),O (nz 1 (a.2.map Dr)) (a.2.map Dr) f_]) (fun a=>a.2.length=64) (fun a=>U ((Sha.block a.1 a.2).list.map wD))
theorem yZt(s:Sha.St8)(b:List UInt8)(h:b.length=64):nE [U (Sha.St8.list s |>.map wD),O (nz 1 (b.map Dr)) (b.map Dr) f_]=s_ (U ((Sha.block s b).list.map wD)):=
 DK (fun⟨a0,a1⟩ ⟨b0,b1⟩ h=>by simp only[Aa,D.slc.injEq,D.agg.injEq,Qd,vY,Sha.St8.list_iff,and_true]at h; simp[h]) (s,b) h
theorem Yrv(s:Sha.St8)(b:List UInt8)(h:b.length=64):@wW GG (tb [(193,eN),(191,nG),(192,nF)] []) aI.code (Dm [U (Sha.St8.list s |>.map wD),O (nz 1 (b.map Dr)) (b.map Dr) f_]) [] ⟨Ds aI.res (U ((Sha.block s b).list.map wD))⟩:=by
 unfold aI;have ab:(zW 8).length=8:=rfl;have E:(zW 64).length=64:=rfl;have hl:(Sha.sch b 64).length=64:=Sha.sch_length b 64;have ac:s.list.length=8:=rfl;have hK:Sha.K.length=64:=rfl;simp(disch:=omega) only[push_cast,↓reduceIte,CW,CY,yZr,yZs]
 refine E0 (fun i:Nat=>[(2,Y 0 0),(4,Y 1 0),(5,Y 2 0),(6,Y 3 0),(7,Y 4 0),(8,I J (i:Int))])
  (fun i=>[⟨f_,1,s.list.map wD,f_⟩,⟨f_,1,(zW 8).map wD,f_⟩,⟨f_,1,(Sha.sch b 64).map wD,f_⟩,⟨f_,1,Sha.K.map wD,f_⟩,⟨f_,1,(Sha.rounds (Sha.sch b 64) s i).list.map wD,f_⟩]) (fun i=>i≤64) (fun i=>64 - i) 0 (by push_cast [↓CX] <;> rfl) (by omega) ?_
 intro i hi;unfold tQ
 push_cast
 refine Ew (fun M=>?_) (fun M=>?_)
 ·have hn:Sha.rounds (Sha.sch b 64) s (i+1)=Sha.round (Sha.rounds (Sha.sch b 64) s i) (Sha.K.getD i 0) ((Sha.sch b 64).getD i 0):=rfl;generalize Sha.rounds (Sha.sch b 64) s i=r at hn;simp(disch:=omega) only[push_cast,↓reduceIte,CW,C8,C5,CY,C6,Sha.St8.list,KT,wo,gx,YOx,YJ2,TP,DQ];refine EB (i+1) (by omega) (by omega) ?_;rw[hn];rfl
 ·obtain rfl:i=64:=by omega
  have hb:Sha.block s b=s.add (Sha.rounds (Sha.sch b 64) s 64):=rfl;rw[hb];generalize Sha.rounds (Sha.sch b 64) s 64=r
  push_cast [↓CX]
  refine E0 (fun i:Nat=>[(2,Y 0 0),(4,Y 1 0),(7,Y 4 0),(15,I J (i:Int))])
   (fun i=>[⟨f_,1,((s.add r).list.take i++s.list.drop i).map wD,f_⟩,⟨f_,1,(zW 8).map wD,f_⟩,⟨f_,1,(Sha.sch b 64).map wD,f_⟩,⟨f_,1,Sha.K.map wD,f_⟩,⟨f_,1,r.list.map wD,f_⟩]) (fun i=>i≤8) (fun i=>8 - i) 0 (by push_cast [↓CX] <;> rfl) (by omega) ?_
  intro i hi
  have ad:((s.add r).list.take i++s.list.drop i).length=8:=by
   simp only[Ac,AA,AW,Sha.St8.list_length]; omega
  have ae:r.list.length=8:=rfl;unfold tR
  push_cast
  refine Ew (fun N=>?_) (fun N=>?_)
  ·have ha:=Yd s r i (by omega);simp(disch:=omega) only[push_cast,↓reduceIte,CW,C8,C5,CY,KT,TP,DQ];refine EB (i+1) (by omega) (by omega) ?_;rw[← ha]
   push_cast <;> rfl
  ·obtain rfl:i=8:=by omega
   have e8:(s.add r).list.take 8++s.list.drop 8=(s.add r).list:=rfl;have af:(s.add r).list.length=8:=rfl;simp(disch:=omega) only[push_cast,↓reduceIte,CW,CY,De,↓CX,e8]
theorem Yw3:Contract Tryz.prog GG 171 nE:=
 DM yt6 (DD (all_cons Yp9 (all_cons Yw1 (all_cons Yw2 all_nil))) all_nil) (fun a h=>Yrv a.1 a.2 h)
def od:List D→Option D:=Dq (α:=List UInt8) (fun a=>[O (nz 1 (a.map Dr)) (a.map Dr) f_]) (fun a=>a.length≤4294960000) (fun a=>O (nz 1 ((Sha.padded a).map Dr)) ((Sha.padded a).map Dr) f_)
theorem yVc(m:List UInt8)(h:m.length≤4294960000):od [O (nz 1 (m.map Dr)) (m.map Dr) f_]=s_ (O (nz 1 ((Sha.padded m).map Dr)) ((Sha.padded m).map Dr) f_):=
 DK (fun a b h=>by simp only[Aa,D.slc.injEq,Qd,and_true]at h; simp[h]) (m) h
theorem Yh0(m:List UInt8)(h:m.length≤4294960000):@wW GG (tb [] []) bB.code (Dm [O (nz 1 (m.map Dr)) (m.map Dr) f_]) [] ⟨Ds bB.res (O (nz 1 ((Sha.padded m).map Dr)) ((Sha.padded m).map Dr) f_)⟩:=by
 unfold bB;have N:(m++[128]).map Dr≠[]:=by simp
 push_cast(disch:=lia)[X7,YP,Mc _ _ _ N,LO _ _ N]
 refine E0 (fun j:Nat=>[(0,O (nz 1 (m.map Dr)) (m.map Dr) f_),(3,.row 0 (m++[128]++CZ j 0).length 0 (m++[128]++CZ j 0).length)])
  (fun j=>[⟨t_,1,(m++[128]++CZ j 0).map Dr,f_⟩]) (fun j=>j≤Sha.zeros m.length) (fun j=>Sha.zeros m.length - j) 0 (by push_cast [CA,Af] <;> rfl) (by omega) ?_
 intro j hj;have hlen:(m++[128]++CZ j 0).length=m.length+1+j:=by simp; omega
 have ae:(m.length+1+Sha.zeros m.length) % 64=56:=by unfold Sha.zeros; omega
 have hz:Sha.zeros m.length<64:=by unfold Sha.zeros; omega
 unfold tG
 push_cast(disch:=lia)[Yu]
 refine Ew (fun h2=>?_) (fun h2=>?_)
 ·obtain rfl:j=Sha.zeros m.length:=by
   unfold Sha.zeros at hj ⊢; omega
  push_cast(disch:=lia)[U6,zO]
  generalize hq:Dh m.length*8=q;have aa:(m++[128]++CZ (Sha.zeros m.length) 0)=(m++[128]++CZ (Sha.zeros m.length) 0)++Sha.lenB q 0:=(Af _).symm;have hP:(m++[128]++CZ (Sha.zeros m.length) 0)++Sha.lenB q 8=Sha.padded m:=by rw[← hq]; rfl
  rw[← hP];generalize hM:m++[128]++CZ (Sha.zeros m.length) 0=M at hlen aa h2
  refine E0 (fun j:Nat=>[(3,.row 0 (M++Sha.lenB q j).length 0 (M++Sha.lenB q j).length),(4,qD q),(5,I J (j:Int))])
   (fun j=>[⟨t_,1,(M++Sha.lenB q j).map Dr,f_⟩]) (fun j=>j≤8) (fun j=>8 - j) 0 (by rw[← aa]; push_cast [↓CX] <;> rfl) (by omega) ?_
  intro j hj;have af:(M++Sha.lenB q j).length=M.length+j:=by rw[Ac,Sha.lenB_length]
  unfold tH
  push_cast
  refine Ew (fun E=>?_) (fun E=>?_)
  ·have e:(56 - 8*(j:Int)).toNat=56 - 8*j:=by omega
   have e2:M++Sha.lenB q (j+1)=(M++Sha.lenB q j)++[(q >>> Dh (56 - 8*j)).toUInt8]:=by rw[Sha.lenB,Am]
   push_cast(disch:=lia)[IA,zT,Yn7,e,EI,DQ]
   refine EB (j+1) (by omega) (by omega) ?_;rw[e2]
   push_cast [qC,rq] <;> rfl
  ·obtain rfl:j=8:=by omega
   push_cast [↓CX]
 ·push_cast(disch:=lia)[b0]
  have h9:j<Sha.zeros m.length:=by
   rcases A5 j (Sha.zeros m.length)with E|E
   ·exact E
   ·exfalso;obtain rfl:j=Sha.zeros m.length:=by omega
    omega
  refine EB (j+1) (by omega) (by omega) ?_
  have e:m++[128]++CZ (j+1) 0=(m++[128]++CZ j 0)++[0]:=by
   rw[Cw,Am,Am,Am]
  rw[e]
theorem Yqa:Contract Tryz.prog GG 170 od:=
 DM yr8 (DD all_nil all_nil) (fun a h=>Yh0 a h)
def j9:List D→Option D:=Dq (α:=List UInt8) (fun a=>[O (nz 1 (a.map Dr)) (a.map Dr) f_]) (fun a=>a.length≤4294960000) (fun a=>Dl (JA a))
theorem Yoz(m:List UInt8)(h:m.length≤4294960000):j9 [O (nz 1 (m.map Dr)) (m.map Dr) f_]=s_ (Dl (JA m)):=
 DK (fun a b h=>by simp only[Aa,D.slc.injEq,Qd,and_true]at h; simp[h]) (m) h
theorem YG8(m:List UInt8)(h:m.length≤4294960000):@wW GG (tb [(170,od),(171,nE)] []) aF.code (Dm [O (nz 1 (m.map Dr)) (m.map Dr) f_]) [] ⟨Ds aF.res (Dl (JA m))⟩:=by
 unfold aF;obtain⟨ac,ad⟩:=wO m;have a7:Sha.zeros m.length<64:=by unfold Sha.zeros; omega
 have ae:JA m=⟨Sha.outB (Sha.blocks Sha.H0 ((Sha.padded m).length / 64) (Sha.padded m)).list 32,Sha.outB_length _ 32⟩:=rfl;have hH:Sha.H0.list.length=8:=rfl;have a8:(zW 8).length=8:=rfl;simp(disch:=omega) only[push_cast,↓reduceIte,CW,zx,yVc];rw[ae];generalize Sha.padded m=E at ac ad;have af:(nz 1 (E.map Dr)=1∨E.map Dr=[])∧1≠0:=⟨OD _ _,by decide⟩
 refine E0 (fun j:Nat=>[(2,Y 0 0),(3,Y 1 0),(4,O (nz 1 (E.map Dr)) (E.map Dr) f_),(5,I J (64*(j:Int)))])
  (fun j=>[⟨f_,1,Dj DH,f_⟩,⟨f_,1,(Sha.blocks Sha.H0 j E).list.map wD,f_⟩]) (fun j=>j≤E.length / 64) (fun j=>E.length / 64 - j) 0 (by push_cast [↓CX] <;> rfl) (by omega) ?_
 intro j hj;unfold ti
 push_cast
 refine Ew (fun h4=>?_) (fun h4=>?_)
 ·have e1:(64*(j:Int)).toNat=64*j:=by omega
  have e2:(64*(j:Int)+64).toNat=64*j+64:=by omega
  have e3:(E.take (64*j+64)).drop (64*j)=(E.drop (64*j)).take 64:=by
   rw[List.drop_take]; congr 1; omega
  have a9:((E.drop (64*j)).take 64).length=64:=by simp; omega
  have N:=oF Sha.H0 j E;generalize Sha.blocks Sha.H0 j E=M at N;have ah:M.list.length=8:=rfl;have ba:(Sha.block M ((E.drop (64*j)).take 64)).list.length=8:=rfl;simp(disch:=omega) only[push_cast,↓reduceIte,CW,C8,C5,CY,Ysx _ _ _ _ _ _ _ _ _ _ af,DQ,e1,e2,yZt,e3];refine EB (j+1) (by omega) (by omega) ?_;rw[N];have e5:64*(j:Int)+64=64*((j+1:Nat):Int):=by omega
  push_cast [e5] <;> rfl
 ·obtain rfl:j=E.length / 64:=by omega
  generalize Sha.blocks Sha.H0 (E.length / 64) E=M;have ah:M.list.length=8:=rfl
  push_cast [↓CX]
  refine E0 (fun j:Nat=>[(2,Y 0 0),(3,Y 1 0),(6,Y 2 0),(7,I J (j:Int))])
   (fun j=>[⟨f_,1,Dj DH,f_⟩,⟨f_,1,M.list.map wD,f_⟩,⟨f_,1,(JB M.list j).map Dr,f_⟩]) (fun j=>j≤32) (fun j=>32 - j) 0 (by push_cast [↓CX] <;> rfl) (by omega) ?_
  intro j hj;unfold tj
  push_cast
  refine Ew (fun h6=>?_) (fun h6=>?_)
  ·have a0:=Zc M.list j (by omega);have a1:=Ybo M.list j (by omega);have e1:((j:Int) / 4).toNat=j / 4:=by omega
   have e2:(24 - 8*((j:Int) % 4)).toNat=24 - 8*(j % 4):=by omega
   simp(disch:=omega) only[push_cast,↓reduceIte,CW,C8,C5,CY,gj,Yu,IA,EI,DQ,KT,US,Yn5,e1,e2];refine EB (j+1) (by omega) (by omega) ?_;rw[← a1]
   push_cast <;> rfl
  ·obtain rfl:j=32:=by omega
   have a0:=Zc M.list 32 (by omega)
   have a2:D.agg ((JB M.list 32).map Dr)=Dl ⟨Sha.outB M.list 32,Sha.outB_length _ 32⟩:=by
    rw[show JB M.list 32=Sha.outB M.list 32 from Af _];rfl
   simp(disch:=omega) only[push_cast,↓reduceIte,CW,CY,De,↓CX,a2]
theorem YM8:Contract Tryz.prog GG 150 j9:=
 DM ywx (DD (all_cons Yqa (all_cons Yw3 all_nil)) all_nil) (fun a h=>YG8 a h)
def oc:List D→Option D:=Dq (α:=List UInt8×List UInt8) (fun a=>[.str a.1,O (nz 1 (a.2.map Dr)) (a.2.map Dr) f_]) (fun a=>a.1.length+a.2.length≤4294900000) (fun a=>O (nz 1 ((Om a.1 a.2).map Dr)) ((Om a.1 a.2).map Dr) f_)
theorem yVk(t:List UInt8)(b:List UInt8)(h:t.length+b.length≤4294900000):oc [.str t,O (nz 1 (b.map Dr)) (b.map Dr) f_]=s_ (O (nz 1 ((Om t b).map Dr)) ((Om t b).map Dr) f_):=
 DK (fun⟨a0,a1⟩ ⟨b0,b1⟩ h=>by simp only[Aa,D.slc.injEq,D.str.injEq,Qd,and_true]at h; simp[h]) (t,b) h
theorem Yh2(t:List UInt8)(b:List UInt8)(h:t.length+b.length≤4294900000):@wW GG (tb [] []) bw.code (Dm [.str t,O (nz 1 (b.map Dr)) (b.map Dr) f_]) [] ⟨Ds bw.res (O (nz 1 ((Om t b).map Dr)) ((Om t b).map Dr) f_)⟩:=by
 unfold bw;have e1:(min (t.length:Int) 255).toNat=min t.length 255:=by omega
 have e2:t.take (min t.length 255)=t.take 255:=by
  rcases Nat.le_total t.length 255 with M|M
  ·rw[BM M,AR,AL M]
  ·rw[Nat.min_eq_right M]
 have hl:(t.take 255).length≤255:=by simp; omega
 have N:(t.take 255).length≤t.length:=by simp; omega
 have hh:Om t b=C4 (t.take 255).length::(t.take 255++b):=rfl;rw[hh];simp(disch:=omega) only[push_cast,↓reduceIte,CW,xq,e1,e2,Nm];generalize t.take 255=T at hl N;generalize C4 T.length=x
 by_cases hT:T=[]
 ·subst hT
  by_cases hb:b=[]
  ·subst hb
   push_cast(disch:=lia)[Ua]
  ·have E:Eg [] 1 1 (O 1 [Dr x] t_) (O (nz 1 (b.map Dr)) (b.map Dr) f_)=s_ (.row 0 (x::b).length 0 (x::b).length,[⟨t_,1,(x::b).map Dr,f_⟩]):=
    fu Dr [] 1 1 [x] b f_ (nz 1 (b.map Dr)) hb (OD _ _) (by decide) (by simp; omega) (by simp; omega)
   rw[show x::([]++b)=x::b from rfl];generalize hX:x::b=X at E
   push_cast(disch:=lia)[Ua,E]
 ·have E:Eg [] 1 1 (O 1 [Dr x] t_) (O 1 (T.map Dr) f_)=s_ (.row 0 (x::T).length 0 (x::T).length,[⟨t_,1,(x::T).map Dr,f_⟩]):=
   fu Dr [] 1 1 [x] T f_ 1 hT (.inl rfl) (by decide) (by simp; omega) (by simp; omega)
  have e4:(x::T).length=T.length+1:=by simp
  generalize hX:x::T=X at E e4;rw[show x::(T++b)=X++b by rw[← hX]; rfl]
  push_cast(disch:=lia)[E]
theorem Yqe:Contract Tryz.prog GG 151 oc:=
 DM ysa (DD all_nil all_nil) (fun a h=>Yh2 a.1 a.2 h)
def SV:List D→Option D:=Dq (α:=List UInt8×List UInt8) (fun a=>[.str a.1,O (nz 1 (a.2.map Dr)) (a.2.map Dr) f_]) (fun a=>a.1.length+a.2.length≤4294900000) (fun a=>Dl (OW a.1 a.2))
theorem iF(t:List UInt8)(b:List UInt8)(h:t.length+b.length≤4294900000):SV [.str t,O (nz 1 (b.map Dr)) (b.map Dr) f_]=s_ (Dl (OW t b)):=
 DK (fun⟨a0,a1⟩ ⟨b0,b1⟩ h=>by simp only[Aa,D.slc.injEq,D.str.injEq,Qd,and_true]at h; simp[h]) (t,b) h
theorem Yhz(t:List UInt8)(b:List UInt8)(h:t.length+b.length≤4294900000):@wW GG (tb [(151,oc),(150,j9)] []) bA.code (Dm [.str t,O (nz 1 (b.map Dr)) (b.map Dr) f_]) [] ⟨Ds bA.res (Dl (OW t b))⟩:=by
 unfold bA;have hl:(Om t b).length≤4294960000:=by simp[Om]; omega
 simp(disch:=omega) only[push_cast,↓reduceIte,CW,yVk,Yoz];rfl
theorem mF:Contract Tryz.prog GG 102 SV:=
 DM yr9 (DD (all_cons Yqe (all_cons YM8 all_nil)) all_nil) (fun a h=>Yhz a.1 a.2 h)
def nI(n:Int):D:=I J n
variable {a b:Int}
theorem YJ7:nI a=nI b↔a=b:=by simp[nI]
theorem P8{a b:List Int}:a.map nI=b.map nI↔a=b:=⟨P1 fun _ _=>YJ7.1,fun h=>by rw[h]⟩
theorem pI(n:Int):IntKind.wrap .u64 n=n % 18446744073709551616:=rfl
theorem mD{n:Int}(E:0≤n)(M:n<18446744073709551616):IntKind.wrap .u64 n=n:=by rw[pI]; omega
theorem Yc(E:0≤a+b)(M:a+b<18446744073709551616):DF .add (I .u64 a) (I .u64 b)=s_ (I .u64 (a+b)):=by simp only[DF,if_true,Lh,Ae,mD E M]
theorem WT(E:0≤a*b)(M:a*b<18446744073709551616):DF .mul (I .u64 a) (I .u64 b)=s_ (I .u64 (a*b)):=by simp only[DF,if_true,Lh,Ae,mD E M]
theorem YJ8(a b:Int):DF .mul (I .u64 a) (I .u64 b)=s_ (I .u64 ((a*b) % 18446744073709551616)):=by rfl
theorem ySa(E:0≤a)(M:a<18446744073709551616):(C0 64 a).toNat=a.toNat:=by grind
theorem Yxx(E:0≤a)(M:a<18446744073709551616):DF .and (I .u64 a) (I .u64 4294967295)=s_ (I .u64 (a % 4294967296)):=by
 have h:(C0 (IntKind.bits .u64) a &&& C0 (IntKind.bits .u64) 4294967295).toNat=(a % 4294967296).toNat:=by
  show(C0 64 a &&& C0 64 4294967295).toNat=_
  rw[CS,ySa E M,show(C0 64 4294967295).toNat=2 ^ 32 - 1 from rfl,BN];omega
 simp only[DF,if_true,LY,Ae,h];rw[mD (by omega) (by omega)]
 congr 2
 omega
theorem ee(M:0≤a)(hb:0≤b)(E:a≤4294967295)(N:b≤4294967295):0≤a*b∧a*b≤18446744065119617025:=by refine⟨Int.mul_nonneg M hb,?_⟩;have h1:a*b≤4294967295*b:=Cn E hb;omega
theorem Yla(x y:Int):x*y=(x / 4294967296)*(y / 4294967296)*18446744073709551616+((x / 4294967296)*(y % 4294967296)+(x % 4294967296)*(y / 4294967296))*4294967296+(x % 4294967296)*(y % 4294967296):=by
 have E:x=(x / 4294967296)*4294967296+x % 4294967296:=(Co x 4294967296).symm;have M:y=(y / 4294967296)*4294967296+y % 4294967296:=(Co y 4294967296).symm
 conv=>lhs; rw[E,M]
 grind
def di:List D→Option D:=Dq (α:=Int×Int) (fun a=>[I .u64 a.1,I .u64 a.2]) (fun a=>0≤a.1∧a.1<18446744073709551616∧0≤a.2∧a.2<18446744073709551616) (fun a=>.tup [I .u64 (a.1*a.2 / 18446744073709551616),I .u64 (a.1*a.2 % 18446744073709551616)])
theorem uh(x:Int)(y:Int)(h:0≤x∧x<18446744073709551616∧0≤y∧y<18446744073709551616):di [I .u64 x,I .u64 y]=s_ (.tup [I .u64 (x*y / 18446744073709551616),I .u64 (x*y % 18446744073709551616)]):=
 DK (fun⟨a0,a1⟩ ⟨b0,b1⟩ h=>by simp only[Aa,D.int.injEq,true_and,and_true]at h; simp[h]) (x,y) h
theorem YIq(x:Int)(y:Int)(h:0≤x∧x<18446744073709551616∧0≤y∧y<18446744073709551616):@wW GG (tb [] []) Z5.code (Dm [I .u64 x,I .u64 y]) [] ⟨Ds Z5.res (.tup [I .u64 (x*y / 18446744073709551616),I .u64 (x*y % 18446744073709551616)])⟩:=by
 obtain⟨M,N,aa,ab⟩:=h;have e:=Yla x y;have ha:=ee (a:=x / 4294967296) (b:=y / 4294967296) (by omega) (by omega) (by omega) (by omega);have hb:=ee (a:=x / 4294967296) (b:=y % 4294967296) (by omega) (by omega) (by omega) (by omega);have hc:=ee (a:=x % 4294967296) (b:=y / 4294967296) (by omega) (by omega) (by omega) (by omega);have hd:=ee (a:=x % 4294967296) (b:=y % 4294967296) (by omega) (by omega) (by omega) (by omega);unfold Z5;simp(disch:=omega) only[push_cast,↓reduceIte,CW,C6,Df,Yxx,OE,WT,Yc,YJ8 x y];rw[e];generalize (x / 4294967296)*(y / 4294967296)=a at*;generalize (x / 4294967296)*(y % 4294967296)=b at*;generalize (x % 4294967296)*(y / 4294967296)=c at*;generalize (x % 4294967296)*(y % 4294967296)=d at*;have E:a+(b+d / 4294967296) / 4294967296+((b+d / 4294967296) % 4294967296+c) / 4294967296=(a*18446744073709551616+(b+c)*4294967296+d) / 18446744073709551616:=by omega
 rw[E]
theorem zn:Contract Tryz.prog GG 169 di:=
 DM yBc (DD all_nil all_nil) (fun a h=>YIq a.1 a.2 h)
def Fq(x:Int):Bool:=decide (-9007199254740992≤x) && decide (x≤9007199254740992)
theorem Ku{x:Int}:Fq x=t_↔-9007199254740992≤x∧x≤9007199254740992:=by simp[Fq]
theorem jf{x:Int}:Fq x=f_↔x < -9007199254740992∨9007199254740992<x:=by rw[← Bool.not_eq_true,Ku]; omega
variable {i:Nat}
theorem Ywc{l:List Int}(h:i<l.length):(l.drop i).all Fq=(Fq (l.getD i default) && (l.drop (i+1)).all Fq):=by rw[Bf h,AX];grind
def OS:List D→Option D:=Dq (α:=List Int) (fun a=>[O (nz 1 (a.map nI)) (a.map nI) f_]) (fun a=>a.length≤65536) (fun a=>V (a.all Fq))
theorem ui(l:List Int)(h:l.length≤65536):OS [O (nz 1 (l.map nI)) (l.map nI) f_]=s_ (V (l.all Fq)):=
 DK (fun a b h=>by simp only[Aa,D.slc.injEq,and_true,P8]at h; simp[h]) (l) h
theorem YIh(l:List Int)(h:l.length≤65536):@wW GG (tb [] []) YS.code (Dm [O (nz 1 (l.map nI)) (l.map nI) f_]) [] ⟨Ds YS.res (V (l.all Fq))⟩:=by
 unfold YS
 push_cast(disch:=lia)
 refine E0 (fun i:Nat=>[(5,O (nz 1 (l.map nI)) (l.map nI) f_),(6,I J (l.length:Int)),(7,I J (i:Int))]) (fun _=>[]) (fun i=>i≤l.length∧l.all Fq=(l.drop i).all Fq) (fun i=>l.length - i) 0 (by push_cast [↓CX] <;> rfl) ⟨AY _,rfl⟩ ?_;rintro i ⟨hi,E⟩;unfold yD
 push_cast(disch:=lia)
 refine Ew (fun h2=>?_) (fun h2=>?_)
 ·have ac:i<l.length:=by omega
  rw[Ywc ac]at E
  have M:∀ st:St,GK st 1 (O (nz 1 (l.map nI)) (l.map nI) f_) (I J (i:Int))=s_ (.eptr (nI (l.getD i default)) 0):=fun st=>by
   have:=KO st 1 nI l f_ J (i:Int) (by omega) (by omega);grind
  generalize l.getD i default=x at*
  cases N:Fq x with
  |true=>
   obtain⟨h5,h6⟩:=Ku.1 N;rw[N,Bb]at E;have h7:¬ (x < -9007199254740992):=by omega
   have h8:¬ (9007199254740992<x):=by omega
   push_cast(disch:=lia)[M,nI,h7,h8,DQ]
   refine EB (i+1) (by exact⟨by omega,E⟩) (by omega) ?_;rfl
  |false=>
   rw[N,Bt]at E
   by_cases h7:x < -9007199254740992
   ·push_cast(disch:=lia)[M,nI,h7,E]
   ·have h8:9007199254740992<x:=by have:=jf.1 N; omega
    push_cast(disch:=lia)[M,nI,h7,h8,E]
 ·obtain rfl:i=l.length:=by omega
  rw[A2]at E
  push_cast(disch:=lia)[E,CH]
theorem UE:Contract Tryz.prog GG 241 OS:=
 DM yWd (DD all_nil all_nil) (fun a h=>YIh a h)
def IX(c:Int):Int×Int:=if Fq c then(c,0)else(0,3)
theorem Fp(a:Int):FP 1 [I J a]=s_ (O 1 [I J a] t_):=(rfl)
theorem GX(a b:Int):FP 1 [I J a,I J b]=s_ (O 1 [I J a,I J b] t_):=(rfl)
theorem XN:((9:Int)=8)=False:=by decide
theorem N3:((10:Int)=8)=False:=by decide
theorem N2:((10:Int)=9)=False:=by decide
theorem R5:((8:Int)=10)=False:=by decide
theorem R4:((9:Int)=10)=False:=by decide
theorem Ywu(a:Int):OS [O 1 [I J a] f_]=s_ (V (Fq a)):=by have:=ui [a] (by simp);simpa[nI,nz]using this
theorem dZ(a b:Int):OS [O 1 [I J a,I J b] f_]=s_ (V (Fq a && Fq b)):=by have:=ui [a,b] (by simp);simpa[nI,nz]using this
def dR:List D→Option D:=Dq (α:=Int) (fun a=>[I J a]) (fun a=>True) (fun a=>.tup [I J (IX a).1,I J (IX a).2])
theorem uj(c:Int):dR [I J c]=s_ (.tup [I J (IX c).1,I J (IX c).2]):=
 DK (fun a b h=>by simp only[Aa,D.int.injEq,true_and,and_true]at h; simp[h]) (c) trivial
theorem YIg(c:Int):@wW GG (tb [(241,OS)] []) ZI.code (Dm [I J c]) [] ⟨Ds ZI.res (.tup [I J (IX c).1,I J (IX c).2])⟩:=by unfold ZI IX;have:=Ywu c;cases hc:Fq c <;> rw[hc]at this <;> push_cast(disch:=lia)[Fp,this]
theorem zo:Contract Tryz.prog GG 242 dR:=
 DM yHm (DD (all_cons UE all_nil) all_nil) (fun a h=>YIg a)
def Gt(a b:Int):Int×Int:=if Fq a && Fq b then IX (a+b)else(0,3)
def Gp(a b:Int):Int×Int:=if Fq a && Fq b then IX (a - b)else(0,3)
def eI:List D→Option D:=Dq (α:=Int×Int) (fun a=>[I J a.1,I J a.2]) (fun a=>True) (fun a=>.tup [I J (Gt a.1 a.2).1,I J (Gt a.1 a.2).2])
theorem Yha(a:Int)(b:Int):eI [I J a,I J b]=s_ (.tup [I J (Gt a b).1,I J (Gt a b).2]):=
 DK (fun⟨a0,a1⟩ ⟨b0,b1⟩ h=>by simp only[Aa,D.int.injEq,true_and,and_true]at h; simp[h]) (a,b) trivial
theorem Yz5(a:Int)(b:Int):@wW GG (tb [(241,OS),(242,dR)] []) YZ.code (Dm [I J a,I J b]) [] ⟨Ds YZ.res (.tup [I J (Gt a b).1,I J (Gt a b).2])⟩:=by
 unfold YZ Gt;have E:=dZ a b;have M:=uj (a+b)
 cases hc:Fq a && Fq b with
 |false=>rw[hc]at E; push_cast(disch:=lia)[GX,E]
 |true=>
  rw[hc]at E;simp only[Ad,Ku]at hc
  push_cast(disch:=lia)[GX,E,M,DQ]
theorem YFl:Contract Tryz.prog GG 231 eI:=
 DM yR9 (DD (all_cons UE (all_cons zo all_nil)) all_nil) (fun a h=>Yz5 a.1 a.2)
def eK:List D→Option D:=Dq (α:=Int×Int) (fun a=>[I J a.1,I J a.2]) (fun a=>True) (fun a=>.tup [I J (Gp a.1 a.2).1,I J (Gp a.1 a.2).2])
theorem Yg8(a:Int)(b:Int):eK [I J a,I J b]=s_ (.tup [I J (Gp a b).1,I J (Gp a b).2]):=
 DK (fun⟨a0,a1⟩ ⟨b0,b1⟩ h=>by simp only[Aa,D.int.injEq,true_and,and_true]at h; simp[h]) (a,b) trivial
theorem Yz2(a:Int)(b:Int):@wW GG (tb [(241,OS),(242,dR)] []) Y2.code (Dm [I J a,I J b]) [] ⟨Ds Y2.res (.tup [I J (Gp a b).1,I J (Gp a b).2])⟩:=by
 unfold Y2 Gp;have E:=dZ a b;have M:=uj (a - b)
 cases hc:Fq a && Fq b with
 |false=>rw[hc]at E; push_cast(disch:=lia)[GX,E]
 |true=>
  rw[hc]at E;simp only[Ad,Ku]at hc
  push_cast(disch:=lia)[GX,E,M,EI]
theorem YFj:Contract Tryz.prog GG 232 eK:=
 DM yR6 (DD (all_cons UE (all_cons zo all_nil)) all_nil) (fun a h=>Yz2 a.1 a.2)
theorem WQ(E:0<a)(M:a<18446744073709551616):LC .neg (I .u64 a)=s_ (I .u64 (18446744073709551616 - a)):=by
 have e:(0 - a) % 18446744073709551616=18446744073709551616 - a:=by omega
 simp only[LC,pI,e]
theorem eX(st:St):FZ st (.int .u64) (I J a)=s_ (I .u64 (a % 18446744073709551616)):=by rfl
def VB:List D→Option D:=Dq (α:=Int) (fun a=>[I J a]) (fun a=>Fq a=t_) (fun a=>I .u64 (if a<0 then -a else a))
theorem wj(a:Int)(h:Fq a=t_):VB [I J a]=s_ (I .u64 (if a<0 then -a else a)):=
 DK (fun a b h=>by simp only[Aa,D.int.injEq,true_and,and_true]at h; simp[h]) (a) h
theorem Yz6(a:Int)(h:Fq a=t_):@wW GG (tb [] []) Y3.code (Dm [I J a]) [] ⟨Ds Y3.res (I .u64 (if a<0 then -a else a))⟩:=by
 obtain⟨h1,h2⟩:=Ku.1 h;unfold Y3
 by_cases E:a<0
 ·have M:(a % 18446744073709551616)=18446744073709551616+a:=by omega
  have N:18446744073709551616 - (18446744073709551616+a)=-a:=by omega
  push_cast(disch:=lia)[E,eX,M,WQ,N]
 ·push_cast(disch:=lia)[E,U6]
theorem YFm:Contract Tryz.prog GG 243 VB:=
 DM yR5 (DD all_nil all_nil) (fun a h=>Yz6 a h)
def FI(a:Int):Int:=if a<0 then -a else a
def Gr(a b:Int):Int×Int:=if Fq a && Fq b then IX (a*b)else(0,3)
theorem zg(a b:Int):FI a*FI b=FI (a*b):=by
 unfold FI;rcases CU a 0 with E|E <;> rcases CU b 0 with M|M
 ·have:=Int.mul_pos_of_neg_of_neg E M;grind
 ·have:=Int.mul_nonpos_of_nonpos_of_nonneg (Int.le_of_lt E) M;rw[if_pos E,YYN,Int.neg_mul];omega
 ·have:=Int.mul_nonpos_of_nonneg_of_nonpos E (Int.le_of_lt M);rw[YYN,if_pos M,Int.mul_neg];omega
 ·have:=Int.mul_nonneg E M;grind
theorem rb(h:Fq a=t_):0≤FI a∧FI a≤9007199254740992:=by have:=Ku.1 h;unfold FI; split <;> omega
theorem Ye(a:Int):Fq a=decide (FI a≤9007199254740992):=by
 cases h:Fq a with
 |true=>simp[(rb h).2]
 |false=>
  have:=jf.1 h
  symm
  rw[decide_eq_false_iff_not];unfold FI; split <;> omega
def eJ:List D→Option D:=Dq (α:=Int×Int) (fun a=>[I J a.1,I J a.2]) (fun a=>True) (fun a=>.tup [I J (Gr a.1 a.2).1,I J (Gr a.1 a.2).2])
theorem Yg9(a:Int)(b:Int):eJ [I J a,I J b]=s_ (.tup [I J (Gr a b).1,I J (Gr a b).2]):=
 DK (fun⟨a0,a1⟩ ⟨b0,b1⟩ h=>by simp only[Aa,D.int.injEq,true_and,and_true]at h; simp[h]) (a,b) trivial
theorem Yz3(a:Int)(b:Int):@wW GG (tb [(241,OS),(243,VB),(169,di)] []) Y1.code (Dm [I J a,I J b]) [] ⟨Ds Y1.res (.tup [I J (Gr a b).1,I J (Gr a b).2])⟩:=by
 unfold Y1 Gr;have E:=dZ a b
 cases hc:Fq a && Fq b with
 |false=>rw[hc]at E; push_cast(disch:=lia)[GX,E]
 |true=>
  rw[hc]at E;simp only[Ad]at hc;have c1:VB [I J a]=s_ (I .u64 (FI a)):=wj a hc.1;have c2:VB [I J b]=s_ (I .u64 (FI b)):=wj b hc.2;have l1:=rb hc.1;have l2:=rb hc.2;have N:=uh (FI a) (FI b) (by omega);have e:=zg a b;have ei:=Ye (a*b);have hn:0≤FI a*FI b:=Int.mul_nonneg l1.1 l2.1;have hb:FI a*FI b≤9007199254740992*9007199254740992:=Int.le_trans (Cn l1.2 l2.1) (by omega);rw[e]at N hn hb
  have hm:FI (a*b)≤9007199254740992→-9007199254740992≤a*b∧a*b≤9007199254740992:=fun h=>by
   unfold FI at h; split at h <;> omega
  have hmul:-9007199254740992≤a*b→a*b≤9007199254740992→DF .mul (I J a) (I J b)=s_ (I J (a*b)):=fun h1 E=>IA (by omega) (by omega);unfold IX;rw[ei];generalize a*b=m at*;generalize FI m=z at*
  by_cases h0:z / 18446744073709551616=0
  ·have h9:z % 18446744073709551616=z:=by omega
   rw[h0,h9]at N
   by_cases h8:9007199254740992<z
   ·have M:¬ z≤9007199254740992:=by omega
    push_cast(disch:=lia)[GX,E,c1,c2,N,h8,M]
   ·have M:z≤9007199254740992:=by omega
    have h6:=hm M;have c4:DF .mul (I J a) (I J b)=s_ (I J m):=hmul h6.1 h6.2
    push_cast(disch:=lia)[GX,E,c1,c2,N,h8,M,c4]
  ·have M:¬ z≤9007199254740992:=by omega
   push_cast(disch:=lia)[GX,E,c1,c2,N,h0,M]
theorem YFk:Contract Tryz.prog GG 233 eJ:=
 DM yR7 (DD (all_cons UE (all_cons YFm (all_cons zn all_nil))) all_nil) (fun a h=>Yz3 a.1 a.2)
theorem kA(a:Int)(hb:0<b):-(FI a)≤a.tdiv b∧a.tdiv b≤FI a:=by
 unfold FI;rcases CU a 0 with h|h
 ·have e:a.tdiv b=-((-a) / b):=by
   rw[← BD (by omega),Int.neg_tdiv,Int.neg_neg]
  have E:=Cs b (show 0≤-a by omega);have M:=CC (show 0≤-a by omega) (show 0≤b by omega);omega
 ·have e:a.tdiv b=a / b:=BD h;have E:=Cs b h;have M:=CC h (show 0≤b by omega);omega
theorem QE(hb:0<b)(E:-9223372036854775808<a)(M:a<9223372036854775808):DF .quo (I J a) (I J b)=s_ (I J (a.tdiv b)):=by
 have N:=kA a hb;have h4:FI a<9223372036854775808:=by unfold FI; split <;> omega
 simp only[DF,if_true,Lh,show ¬ b=0 by omega,if_false,Ae,On (show -9223372036854775808≤a.tdiv b by omega) (show a.tdiv b<9223372036854775808 by omega)]
theorem T4(hb:0<b):DF .rem (I J a) (I J b)=s_ (I J (a.tmod b)):=by simp only[DF,if_true,Lh,show ¬ b=0 by omega,if_false,Ae]
def XP(a b:Int):Int:=(if a.tmod b<0 then a - b else a).tdiv b
def fO(a b:Int):Int:=(if 0<a.tmod b then a+b else a).tdiv b
def Eu(a b m:Int):Int×Int:=if Fq a && Fq b then(if b≤0 then(0,70)else(if m=10 then XP (2*a+b) (2*b)else if m=8 then XP a b else fO a b,0))else(0,3)
def VC:List D→Option D:=Dq (α:=Int×Int×Int) (fun a=>[I J a.1,I J a.2.1,I J a.2.2]) (fun a=>a.2.2=8∨a.2.2=9∨a.2.2=10) (fun a=>.tup [I J (Eu a.1 a.2.1 a.2.2).1,I J (Eu a.1 a.2.1 a.2.2).2])
theorem nJ(a:Int)(b:Int)(m:Int)(h:m=8∨m=9∨m=10):VC [I J a,I J b,I J m]=s_ (.tup [I J (Eu a b m).1,I J (Eu a b m).2]):=
 DK (fun⟨a0,a1,E⟩ ⟨b0,b1,M⟩ h=>by simp only[Aa,D.int.injEq,true_and,and_true]at h; simp[h]) (a,b,m) h
theorem Yz4(a:Int)(b:Int)(m:Int)(h:m=8∨m=9∨m=10):@wW GG (tb [(241,OS)] []) Y0.code (Dm [I J a,I J b,I J m]) [] ⟨Ds Y0.res (.tup [I J (Eu a b m).1,I J (Eu a b m).2])⟩:=by
 unfold Y0 Eu;have E:=dZ a b
 cases hc:Fq a && Fq b with
 |false=>
  rw[hc]at E;rcases h with rfl|rfl|rfl <;> push_cast(disch:=lia)[GX,XN,N3,N2,E]
 |true=>
  rw[hc]at E;simp only[Ad,Ku]at hc;obtain⟨⟨a1,N⟩,b1,b2⟩:=hc
  by_cases hb:b≤0
  ·rcases h with rfl|rfl|rfl <;> push_cast(disch:=lia)[GX,XN,N3,N2,E,hb]
  ·unfold XP fO;rcases h with rfl|rfl|rfl
   ·by_cases M:a.tmod b<0
    ·push_cast(disch:=lia)[GX,R5,E,hb,T4,M,EI,QE]
    ·push_cast(disch:=lia)[GX,R5,E,hb,T4,M,QE]
   ·by_cases M:0<a.tmod b
    ·push_cast(disch:=lia)[GX,XN,R4,E,hb,T4,M,DQ,QE]
    ·push_cast(disch:=lia)[GX,XN,R4,E,hb,T4,M,QE]
   ·by_cases M:(2*a+b).tmod (2*b)<0
    ·push_cast(disch:=lia)[GX,N3,N2,E,hb,IA,DQ,T4,M,EI,QE]
    ·push_cast(disch:=lia)[GX,N3,N2,E,hb,IA,DQ,T4,M,QE]
theorem jk:Contract Tryz.prog GG 237 VC:=
 DM yR8 (DD (all_cons UE all_nil) all_nil) (fun a h=>Yz4 a.1 a.2.1 a.2.2 h)
def FX(R:List D→St→D×St→Prop):List D→St→Option (D×St):=fun ds st=>@dite _ (∃ r,R ds st r) (Classical.propDecidable _) (fun h=>s_ h.choose) (fun _=>none)
variable {r:D×St}{st:St}{ds:List D}
theorem Jx{R:List D→St→D×St→Prop}(h:FX R ds st=s_ r):R ds st r:=by
 unfold FX at h
 split at h
 ·rename_i E;simp only[AS]at h;rw[← h]; exact E.choose_spec
 ·cases h
theorem YBw{R:List D→St→D×St→Prop}(h:R ds st r)(N:∀ E,R ds st E→E=r):FX R ds st=s_ r:=by have M:∃ r,R ds st r:=⟨r,h⟩;unfold FX;rw[dif_pos M,N _ M.choose_spec]
def Ix(R:List D→St→D×St→Prop):Prop:=∀ ds st r r',R ds st r→R ds st r'→r=r'
theorem Mg{R:List D→St→D×St→Prop}(E:Ix R)(h:R ds st r):FX R ds st=s_ r:=YBw h fun M N=>E ds st M r N h
def StOK(st:St):Prop:=∀ o∈st,o.row=f_→∀ x∈o.els,EO st.length [] x=x
theorem vU(n:Nat):∀ (l acc:List Nat),Fc n n l acc=acc
 |[],acc=>rfl
 |k::r,acc=>by
  rw[Fc,YYN];exact vU n r acc
theorem Nt{α:Type}{f:α→α}:∀ {l:List α},(∀ x∈l,f x=x)→l.map f=l
 |[],_=>rfl
 |a::l,h=>by rw[Aw,h a (by simp),Nt fun x E=>h x (by simp[E])]
theorem Yjx(h:StOK st):st.map (FD st.length [])=st:=by
 refine Nt fun o E=>?_;obtain⟨row,sz,els,lent⟩:=o
 cases row with
 |true=>rfl
 |false=>
  show(⟨f_,sz,els.map (EO st.length []),lent⟩:Obj)=_
  rw[Nt (h _ E rfl)]
variable {fr:Frame}{keep:List Nat}
theorem oC(h:StOK st):restrict keep st.length ⟨fr,st⟩=⟨HC (Kh fr st.length [] keep),st⟩:=by unfold restrict;simp only[AF,if_true,vU];unfold restrictAt;rw[Vp];simp only[picked,Ba,Af,AR,Yjx h]
variable {n:Nat}
theorem Ue{m:Nat}(f:Nat→D)(M:∀ k,f k≠.junk)(E:n≤m)(h:JS f (Fi n [] key)=f key):JS f (Fi m [] key)=f key:=by
 unfold Fi at h ⊢
 by_cases hk:key<n
 ·rw[if_pos (A3 hk E)]; rfl
 ·rw[if_neg hk]at h;exact absurd h.symm (M key)
variable {x:D}
theorem vR{m:Nat}(E:n≤m)(h:Hf n [] x=x):Hf m [] x=x:=by
 cases x with
 |row key tot off len=>exact Ue (fun k=>.row k tot off len) (fun k e=>by cases e) E h
 |bsl key off j sz ag=>exact Ue (fun k=>.bsl k off j sz ag) (fun k e=>by cases e) E h
 |ptr key off=>exact Ue (fun k=>Y k off) (fun k e=>by cases e) E h
 |rptr key tot i off=>exact Ue (fun k=>.rptr k tot i off) (fun k e=>by cases e) E h
 |mapv key=>exact Ue .mapv (fun k e=>by cases e) E h
 |_=>exact h
theorem Rx{f:D→D}:∀ {l:List D},l.map f=l→∀ x∈l,f x=x
 |[],_,x,E=>by cases E
 |a::l,h,x,E=>by
  simp only[Aw,Aa]at h;rcases Ay.1 E with rfl|E
  ·exact h.1
  ·exact Rx h.2 x E
theorem vS{m:Nat}(E:n≤m)(h:EW n [] x=x):EW m [] x=x:=by
 cases x with
 |clo f l=>
  simp only[EW,D.clo.injEq,true_and]at h ⊢;exact Nt fun y M=>vR E (Rx h y M)
 |_=>unfold EW at h ⊢; exact vR E h
theorem Ytf{m:Nat}(E:n≤m)(h:EO n [] x=x):EO m [] x=x:=by
 cases x with
 |agg l=>
  simp only[EO,D.agg.injEq]at h ⊢;exact Nt fun y M=>vS E (Rx h y M)
 |tup l=>unfold EO at h ⊢; exact h
 |_=>unfold EO at h ⊢; exact vS E h
theorem StOK.nil:StOK []:=fun _ h=>by cases h
theorem StOK.app(h:StOK st)(l:St)(hl:∀ o∈l,o.row=f_→∀ x∈o.els,EO (st.length+l.length) [] x=x):StOK (st++l):=by
 intro o E M x N;rw[Ac];rcases AM.1 E with E|E
 ·exact Ytf (Nat.le_add_right _ _) (h o E M x N)
 ·exact hl o E M x N
theorem StOK.set(h:StOK st)(k:Nat)(o:Obj)(ho:o.row=f_→∀ x∈o.els,EO st.length [] x=x):StOK (st.set k o):=by
 intro q E M x N;rw[Cc];rcases BJ E with E|rfl
 ·exact h q E M x N
 ·exact ho M x N
theorem Yam(n m:Nat):∀ (l acc:List Nat),(∀ k∈l,k<n)→Fc n m l acc=acc
 |[],acc,_=>rfl
 |k::r,acc,h=>by
  have:=h k (by simp);rw[Fc,YYN];exact Yam n m r acc fun x E=>h x (by simp[E])
theorem yPm{l:St}(h:StOK st)(aa:∀ o∈st,o.row=f_→∀ x∈o.els,∀ k∈hk x,k<st.length)(hf:∀ s∈keep,∀ k∈hk (fr s),k<st.length) :
  restrict keep st.length ⟨fr,st++l⟩=⟨HC (Kh fr st.length [] keep),st⟩:=by
 have hle:st.length≤(st++l).length:=by simp
 have ht:(st++l).take st.length=st:=by simp
 unfold restrict;simp only[hle,if_true]
 rw[Yam _ _ _ _ (fun k M=>by
  simp only[UO,ht,AM,Bp]at M;rcases M with⟨s,hs,ac⟩|⟨o,ho,E⟩
  ·exact hf s hs k ac
  ·cases N:o.row with
   |true=>rw[N]at E; simp at E
   |false=>
    rw[N]at E;simp only[Ao,if_false,Bp]at E;obtain⟨x,hx,ad⟩:=E;exact aa o ho N x hx k ad)]
 unfold restrictAt;rw[Vp];simp only[picked,Ba,Af,ht,Yjx h]
def Ic:Nat→Nat→Nat
 |0,_=>0
 |n+1,u=>if u=0 then 0 else Ic n (u / 256)+1
theorem YBh(n:Nat):Ic n 0=0:=by cases n <;> rfl
theorem jI(n u:Nat):Ic (n+1) u=if u=0 then 0 else Ic n (u / 256)+1:=(rfl)
theorem xx:∀ (n u:Nat),u<256 ^ n→Ic (n+1) u=Ic n u
 |0,u,h=>by
  have:u=0:=by simpa using h
  subst this; rfl
 |n+1,u,h=>by
  rw[jI (n+1) u,jI n u]
  split
  ·rfl
  ·rw[xx n (u / 256) (by rw[CV]at h; omega)]
theorem Qc:∀ (n u:Nat),Ic n u≤n
 |0,_=>AF _
 |n+1,u=>by
  rw[Ic]
  split
  ·omega
  ·have:=Qc n (u / 256); omega
def YJo(ds:List D)(st:St)(r:D×St):Prop:=∃ u:Nat,StOK st∧u<18446744073709551616∧ds=[I .u64 (u:Int)]∧r=(I J (Ic 8 u:Int),st)
def jG:List D→St→Option (D×St):=FX YJo
theorem Ysy:Ix YJo:=by rintro ds st r E ⟨u,_,_,rfl,rfl⟩ ⟨M,_,_,h,rfl⟩;grind
theorem xz{u:Nat}(h:u≠0)(E:u<256 ^ n):Ic n u=Ic n (u / 256)+1:=by
 cases n with
 |zero=>simp at E; omega
 |succ n=>
  rw[jI n u,if_neg h,xx n (u / 256) (by rw[CV]at E; omega)]
theorem YE7:IContract Tryz.prog GG 209 jG:=by
 refine JX (T:=tb [] []) yzc (DD all_nil all_nil) ?_;intro ds st r hr;obtain⟨u,E,hu,rfl,rfl⟩:=Jx hr;unfold sO
 push_cast(disch:=lia)
 refine E0 (fun p:Nat×Nat=>[(0,I .u64 (p.1:Int)),(2,I J (p.2:Int))]) (fun _=>st) (fun p=>p.1<18446744073709551616∧Ic 8 u=Ic 8 p.1+p.2) (fun p=>p.1) (u,0) (by push_cast [↓oC E] <;> rfl) ⟨hu,rfl⟩ ?_;rintro⟨w,k⟩ ⟨hw,hk⟩;have ad:=Qc 8 u;dsimp only at hw hk;unfold tc
 push_cast(disch:=lia)
 refine Ew (fun h2=>?_) (fun h2=>?_)
 ·have M:w≠0:=by omega
  have hs:=xz (n:=8) M (by omega)
  have N:DF .shr (I .u64 (w:Int)) (I .u64 8)=s_ (I .u64 ((w / 256:Nat):Int)):=by
   rw[OE (by omega) (by omega)]; rfl
  push_cast(disch:=lia)[↓CX,↓oC E,N,DQ]
  refine EB (w / 256,k+1) (by dsimp only; omega) (by dsimp only; omega) ?_;rfl
 ·obtain rfl:w=0:=by omega
  rw[YBh]at hk;have aa:Ic 8 u=k:=by omega
  rw[aa]
  push_cast(disch:=lia)[↓CX]
def Oz(st:St)(b:D)(l:List UInt8):Prop:=(b=O 0 [] t_∧l=[])∨∃ key,b=.row key l.length 0 l.length∧l≠[]∧st[key]?=s_ ⟨t_,1,l.map Dr,f_⟩
def Km(st:St)(b:D)(l m:List UInt8):D×St:=match b with
 |.row key _ _ _=>(.row key (l++m).length 0 (l++m).length,st.set key ⟨t_,1,(l++m).map Dr,f_⟩)
 |_=>(.row st.length m.length 0 m.length,st++[⟨t_,1,m.map Dr,f_⟩])
variable {l:List UInt8}
theorem Yqv{b:D}{M:List UInt8}(h:Oz st b l)(N:Oz st b M):l=M:=by
 rcases h with⟨rfl,rfl⟩|⟨key,rfl,hl,hk⟩
 ·rcases N with⟨_,rfl⟩|⟨key,h,_⟩
  ·rfl
  ·cases h
 ·rcases N with⟨h,_⟩|⟨aa,h,_,E⟩
  ·cases h
  ·simp only[D.row.injEq]at h;obtain⟨rfl,_⟩:=h;rw[hk]at E;simp only[Dp,Obj.mk.injEq,true_and,and_true]at E;exact Rc E
variable {m:List UInt8}
theorem Vu{b:D}(h:Oz st b l)(M:m≠[])(hl:l.length+m.length≤4294967296)(t:Bool):Eg st 1 1 b (O 1 (m.map Dr) t)=s_ (Km st b l m):=by
 have E:m.map Dr≠[]:=by simpa using M
 have N:nz 1 (m.map Dr)=1:=by
  cases hc:m.map Dr with
  |nil=>exact absurd hc E
  |cons a r=>rfl
 rcases h with⟨rfl,rfl⟩|⟨key,rfl,aa,hk⟩
 ·have:=YP Dr st 1 0 1 m t (by decide) (by omega) (by simp at hl; omega);rw[N,Mc _ _ _ E,LO _ _ E,A7]at this;exact this
 ·rw[na,hk];have he:Hx st (O 1 (m.map Dr) t)=s_ (1,m.map Dr):=(rfl);rw[he,rf l m f_ hl];simp only[Ae,Km,A7]
def D7(st:St)(key:Nat)(l:List UInt8):St:=st.set key ⟨t_,1,l.map Dr,f_⟩
theorem og(st:St)(key:Nat)(l:List UInt8):(D7 st key l).length=st.length:=Cc
theorem kR(h:key<st.length)(l:List UInt8):(D7 st key l)[key]?=s_ ⟨t_,1,l.map Dr,f_⟩:=by simp[D7,h]
theorem Yqs(st:St)(key:Nat)(l m:List UInt8):D7 (D7 st key l) key m=D7 st key m:=by simp[D7]
theorem Va(h:StOK st)(key:Nat)(l:List UInt8):StOK (D7 st key l):=h.set _ _ fun e=>by cases e
theorem Ydx(h:key<st.length)(l m:List UInt8)(M:m≠[])(hl:l.length+m.length≤4294967296)(t:Bool) :
  Eg (D7 st key l) 1 1 (.row key l.length 0 l.length) (O 1 (m.map Dr) t)=s_ (.row key (l++m).length 0 (l++m).length,D7 st key (l++m)):=by
 by_cases E:l=[]
 ·subst E;rw[na,kR h];have he:Hx (D7 st key []) (O 1 (m.map Dr) t)=s_ (1,m.map Dr):=(rfl);rw[he,rf [] m f_ hl];simp only[Ae,A7];simp only[D7,List.set_set]
 ·rw[Vu (.inr ⟨key,rfl,E,kR h l⟩) M hl t];simp only[Km];simp only[D7,List.set_set]
theorem fh(h:key<st.length)(l:List UInt8)(x:UInt8)(hl:l.length<4294967296)(t:Bool) :
  Eg (D7 st key l) 1 1 (.row key l.length 0 l.length) (O 1 [Dr x] t)=s_ (.row key (l++[x]).length 0 (l++[x]).length,D7 st key (l++[x])):=
 Ydx h l [x] (by simp) (by simp; omega) t
theorem wb{b:D}(h:Oz st b l)(M:m≠[]):∃ key st1,key<st1.length∧Km st b l m=(.row key (l++m).length 0 (l++m).length,D7 st1 key (l++m))∧(StOK st→StOK st1)∧
  ∀ n,Km st b l (m++n)=(.row key (l++(m++n)).length 0 (l++(m++n)).length,D7 st1 key (l++(m++n))):=by
 rcases h with⟨rfl,rfl⟩|⟨key,rfl,hl,hk⟩
 ·refine⟨st.length,st++[⟨t_,1,[],f_⟩],by simp,?_,fun h=>h.app _ fun o N hr=>?_,fun n=>?_⟩
  ·simp[Km,D7]
  ·grind
  ·simp[Km,D7]
 ·have E:=(Ab.1 hk).1;exact⟨key,st,E,rfl,id,fun n=>rfl⟩
theorem Zu(h:StOK st)(hn:n=st.length):restrict keep n ⟨fr,st⟩=⟨HC (Kh fr n [] keep),st⟩:=by subst hn; exact oC h
def Ie(u k:Nat):List UInt8:=(C3 k).map fun i=>C4 (u / 2 ^ (8*(k - 1 - i)))
theorem S2(u k:Nat):(Ie u k).length=k:=by simp[Ie]
variable {k:Nat}
theorem yZ9{u:Nat}(h:i<k):(Ie u k).take (i+1)=(Ie u k).take i++[C4 (u / 2 ^ (8*(k - 1 - i)))]:=by
 rw[List.take_add_one]
 congr 1
 simp[Ie,h]
def DV(n:Int):Nat:=(n % 18446744073709551616).toNat
def JN(a:Nat):Nat:=18446744073709551615 - a
theorem Ych(a:Nat):JN a<18446744073709551616:=by unfold JN; omega
def F4(n:Int):List UInt8:=
 if 0≤n then C4 (32+Ic 8 (DV n))::Ie (DV n) (Ic 8 (DV n))
 else C4 (31 - Ic 8 (JN (DV n)))::Ie (DV n) (Ic 8 (JN (DV n)))
theorem Ysf{a:Nat}(h:a<18446744073709551616):LC .xor (I .u64 (a:Int))=s_ (I .u64 (JN a:Int)):=by
 unfold JN
 have E:LY .xor .u64 (if IntKind.u64.signed then -1 else IntKind.u64.max) (a:Int)=s_ ((18446744073709551615 - a:Nat):Int):=by
  unfold LY;have N:IntKind.u64.bits=64:=rfl;have M:(if IntKind.u64.signed then(-1:Int)else IntKind.u64.max)=18446744073709551615:=by decide
  rw[M];simp only
  have:(C0 IntKind.u64.bits 18446744073709551615 ^^^ C0 IntKind.u64.bits (a:Int)) = ~~~ (BitVec.ofNat 64 a):=by
   rfl
  rw[this]
  show s_ (IntKind.wrap .u64 (((~~~ (BitVec.ofNat 64 a):BitVec 64).toNat:Nat):Int))=_
  rw[BitVec.toNat_not,BitVec.toNat_ofNat,Bd (by omega)]
  show s_ (IntKind.wrap .u64 ((2 ^ 64 - 1 - a:Nat):Int))=_
  congr 1
  rw[pI];omega
 simp only[LC,E,Ae]
def Xl(ds:List D)(st:St)(r:D×St):Prop:=∃ (b:D) (l:List UInt8) (n:Int),StOK st∧Oz st b l∧l.length≤4294967000∧ds=[b,I J n]∧r=Km st b l (F4 n)
def Vf:List D→St→Option (D×St):=FX Xl
theorem Yxy:Ix Xl:=by rintro ds st r M ⟨b,l,n,_,hb,_,rfl,rfl⟩ ⟨b',N,n',_,E,_,h,rfl⟩;simp only[Aa,D.int.injEq,true_and,and_true]at h;obtain⟨rfl,rfl⟩:=h;rw[Yqv hb E]
theorem Yp3{b:D}(n:Int)(E:StOK st)(M:Oz st b l)(N:l.length≤4294967000):Vf [b,I J n] st=s_ (Km st b l (F4 n)):=Mg Yxy ⟨b,l,n,E,M,N,rfl,rfl⟩
theorem uY(u:Nat)(E:StOK st)(M:u<18446744073709551616):jG [I .u64 (u:Int)] st=s_ (I J (Ic 8 u:Int),st):=Mg Ysy ⟨u,E,M,rfl,rfl⟩
theorem RS(h:key<n):Fi n [] key=s_ key:=if_pos h
theorem dU(n:Int):DV n<18446744073709551616:=by unfold DV; omega
theorem kN(n:Int):n % 18446744073709551616=(DV n:Int):=by unfold DV; omega
theorem Nk(x:UInt8):FP 1 [Dr x]=s_ (O 1 [Dr x] t_):=(rfl)
theorem Pa(st:St)(x:UInt8):Ej st (Dr x)=s_ (Dr x):=(rfl)
theorem Po(x:UInt8):keys (Dr x)=[]:=(rfl)
theorem mQ(st:St)(k:Nat):FZ st (.int .u8) (I J (32+(k:Int)))=s_ (Dr (C4 (32+k))):=by rfl
theorem uE(st:St)(h:k≤31):FZ st (.int .u8) (I J (31 - (k:Int)))=s_ (Dr (C4 (31 - k))):=by rw[Nm st (by omega),show(31 - (k:Int)).toNat=31 - k by omega]
theorem Ygw(st:St)(u m:Nat):FZ st (.int .u8) (I .u64 ((u:Int) / 2 ^ m))=s_ (Dr (C4 (u / 2 ^ m))):=by rfl
/- the loop's part: the tag is laid -/
theorem Yh6(T:Tbl)(st1:St)(key:Nat)(E:key<st1.length)(aa:StOK st1)(l0:List UInt8)(n:Int)(k:Nat)(hk:k≤8)(hl:l0.length≤4294967200)(fr:Frame)(Q:Ex→Frame→St→Prop)
  (h0:fr 0=.row key l0.length 0 l0.length) (h1:fr 1=I J n) (h6:fr 6=I J (k:Int)) (ab:fr 30=I J (k:Int)) (ac:fr 31=I J 0)
  (hQ:∀ M,M 0=.row key (l0++Ie (DV n) k).length 0 (l0++Ie (DV n) k).length→Q (.exit 0) M (D7 st1 key (l0++Ie (DV n) k))) :
  @wW GG T (.loop [0,1,6,30,31] iU) fr (D7 st1 key l0) ⟨Q⟩:=by
 have hlen:=og st1 key;have hR:∀ (fr:Frame) (m:List UInt8),restrict [0,1,6,30,31] (D7 st1 key l0).length ⟨fr,D7 st1 key m⟩=⟨HC (Kh fr st1.length [] [0,1,6,30,31]),D7 st1 key m⟩:=fun fr m=>by rw[Zu (Va aa key m) (by rw[hlen,hlen]),hlen]
 refine E0 (fun i:Nat=>[(0,.row key (l0++(Ie (DV n) k).take i).length 0 (l0++(Ie (DV n) k).take i).length),(1,I J n),(6,I J (k:Int)),(30,I J (k:Int)),(31,I J (i:Int))])
  (fun i=>D7 st1 key (l0++(Ie (DV n) k).take i)) (fun i=>i≤k) (fun i=>k - i) 0 ?_ (by omega) ?_
 ·rw[hR];simp(disch:=omega) only[push_cast,↓CX,h0,h1,h6,ab,ac,RS] <;> rfl
 intro i hi;unfold iU;have hb:=S2 (DV n) k;have ht:((Ie (DV n) k).take i).length=i:=by rw[AA]; omega
 push_cast(disch:=lia)
 refine Ew (fun h2=>?_) (fun h2=>?_)
 ·have e1:((8*((k:Int) - 1 - (i:Int)))).toNat=8*(k - 1 - i):=by omega
  have N:=fun x=>fh (st:=st1) E (l0++(Ie (DV n) k).take i) x (by rw[Ac]; omega) t_
  push_cast(disch:=lia)[eX,kN,EI,IA,DQ,OE,e1,Ygw,Pa,Po,Nk,N,↓hR,E]
  refine EB (i+1) (by omega) (by omega) ?_;rw[yZ9 (by omega),← Am];rfl
 ·obtain rfl:i=k:=by omega
  have e2:(Ie (DV n) i).take i=Ie (DV n) i:=AL (by omega);rw[e2]
  push_cast(disch:=lia)
  exact hQ _ rfl
theorem YFc:IContract Tryz.prog GG 202 Vf:=by
 refine JX (T:=tb [] [(209,jG)]) yBg (DD all_nil (all_cons YE7 all_nil)) ?_;intro ds st r hr;obtain⟨b,l,n,ac,hb,hl,rfl,rfl⟩:=Jx hr;unfold sk;have hs:=uY (st:=st) (DV n) ac (dU n);have af:=Qc 8 (DV n);have hu:=dU n
 by_cases hn:n<0
 ·have ah:=uY (st:=st) (JN (DV n)) ac (Ych _);have a0:=Qc 8 (JN (DV n));have hI:F4 n=[C4 (31 - Ic 8 (JN (DV n)))]++Ie (DV n) (Ic 8 (JN (DV n))):=if_neg (by omega);rw[hI];generalize Ic 8 (JN (DV n))=k at*;obtain⟨key,st1,N,aa,ab,M⟩:=wb hb (m:=[C4 (31 - k)]) (by simp);have E:=Vu hb (m:=[C4 (31 - k)]) (by simp) (by simp; omega) t_;rw[aa]at E;have hm:=M (Ie (DV n) k);simp only[Aw,Ba]at E;rw[hm,← Am]
  push_cast(disch:=lia)[hn,eX,kN,hs,Ysf,ah,DQ,EI,uE,mQ,Pa,Po,Nk,E]
  refine Yh6 _ st1 key N (ab ac) (l++[C4 (31 - k)]) n k a0 (by simp; omega) _ _ (by push_cast) (by push_cast) (by push_cast) (by push_cast) (by push_cast) fun a1 hf=>?_
  push_cast(disch:=lia)[hf]
 ·have hI:F4 n=[C4 (32+Ic 8 (DV n))]++Ie (DV n) (Ic 8 (DV n)):=if_pos (by omega);rw[hI];generalize Ic 8 (DV n)=k at*;obtain⟨key,st1,N,aa,ab,M⟩:=wb hb (m:=[C4 (32+k)]) (by simp);have E:=Vu hb (m:=[C4 (32+k)]) (by simp) (by simp; omega) t_;rw[aa]at E;have hm:=M (Ie (DV n) k);simp only[Aw,Ba]at E;rw[hm,← Am]
  push_cast(disch:=lia)[hn,eX,kN,hs,DQ,mQ,Pa,Po,Nk,E]
  refine Yh6 _ st1 key N (ab ac) (l++[C4 (32+k)]) n k af (by simp; omega) _ _ (by push_cast) (by push_cast) (by push_cast) (by push_cast) (by push_cast) fun a1 hf=>?_
  push_cast(disch:=lia)[hf]
inductive Val where
 |int (n:Int)
 |bytes (b:List UInt8)
 |list (l:List Val)
instance:Inhabited Val:=⟨.int 0⟩
def vC(k n:Int)(B L:List D):List D:=[I J k,I J n,O (nz 1 B) B f_,O (nz 4 L) L f_]
def vD(k n:Int)(B L:List D):D:=U (vC k n B L)
mutual
def Dn:Val→D
 |.int n=>vD 1 n [] []
 |.bytes b=>vD 2 0 (b.map Dr) []
 |.list l=>vD 3 0 [] (NR l)
def NR:List Val→List D
 |[]=>[]
 |v::l=>Dn v::NR l
end
mutual
def DX:Val→Nat
 |.int _=>0
 |.bytes _=>0
 |.list l=>HL l+1
def HL:List Val→Nat
 |[]=>0
 |v::l=>max (DX v) (HL l)
end
def D9(c:UInt8):List UInt8:=if c=0 then [0,255]else [c]
mutual
def Dz:Val→List UInt8
 |.int n=>F4 n
 |.bytes b=>48::(b.flatMap D9++[0,0])
 |.list l=>64::(Rz l++[0])
def Rz:List Val→List UInt8
 |[]=>[]
 |v::l=>Dz v++Rz l
end
theorem Yal:∀ l:List Val,NR l=l.map Dn
 |[]=>by simp[NR]
 |v::l=>by simp[NR,Yal l]
theorem lH:∀ l:List Val,Rz l=l.flatMap Dz
 |[]=>by simp[Rz]
 |v::l=>by simp[Rz,lH l]
theorem eZ:∀ {l:List Val} {v:Val},v∈l→DX v≤HL l
 |a::l,v,h=>by
  rw[HL];rcases Ay.1 h with rfl|h
  ·omega
  ·exact AZ (eZ h) (Nat.le_max_right _ _)
theorem Ml(n:Int):Dn (.int n)=vD 1 n [] []:=by simp[Dn]
theorem Mq(b:List UInt8):Dn (.bytes b)=vD 2 0 (b.map Dr) []:=by simp[Dn]
theorem NA(l:List Val):Dn (.list l)=vD 3 0 [] (l.map Dn):=by simp[Dn,Yal]
theorem e9(n:Int):Dz (.int n)=F4 n:=by simp[Dz]
theorem SO(b:List UInt8):Dz (.bytes b)=48::(b.flatMap D9++[0,0]):=by simp[Dz]
theorem LU(l:List Val):Dz (.list l)=64::(l.flatMap Dz++[0]):=by simp[Dz,lH]
theorem Ydb(n:Int):DX (.int n)=0:=by simp[DX]
theorem wV(b:List UInt8):DX (.bytes b)=0:=by simp[DX]
theorem SL(l:List Val):DX (.list l)=HL l+1:=by simp[DX]
def VZ(v:Val):List D:=match v with
 |.int n=>vC 1 n [] []
 |.bytes b=>vC 2 0 (b.map Dr) []
 |.list l=>vC 3 0 [] (NR l)
theorem LV(v:Val):∃ k n B L,VZ v=vC k n B L∧Dn v=vD k n B L:=by
 cases v
 ·exact⟨_,_,_,_,rfl,by simp[Dn]⟩
 ·exact⟨_,_,_,_,rfl,by simp[Dn]⟩
 ·exact⟨_,_,_,_,rfl,by simp[Dn]⟩
theorem MS{k n k' E:Int}{B L M N:List D}(h:vD k n B L=vD k' E M N):k=k'∧n=E∧B=M∧L=N:=by simp only[vD,vC,D.agg.injEq,Aa,D.int.injEq,D.slc.injEq,true_and,and_true]at h;grind
mutual
theorem mA:∀ {v v':Val},Dn v=Dn v'→v=v'
 |.int n,.int E,h=>by rw[Ml,Ml]at h; rw[(MS h).2.1]
 |.bytes b,.bytes b',h=>by rw[Mq,Mq]at h; rw[Rc (MS h).2.2.1]
 |.list l,.list M,h=>by
  have:=h;simp only[Dn]at this;rw[vW (MS this).2.2.2]
 |.int n,.bytes b,h=>by rw[Ml,Mq]at h; exact absurd (MS h).1 (by decide)
 |.int n,.list b,h=>by rw[Ml,NA]at h; exact absurd (MS h).1 (by decide)
 |.bytes n,.int b,h=>by rw[Ml,Mq]at h; exact absurd (MS h).1 (by decide)
 |.bytes n,.list b,h=>by rw[Mq,NA]at h; exact absurd (MS h).1 (by decide)
 |.list n,.int b,h=>by rw[Ml,NA]at h; exact absurd (MS h).1 (by decide)
 |.list n,.bytes b,h=>by rw[Mq,NA]at h; exact absurd (MS h).1 (by decide)
theorem vW:∀ {l E:List Val},NR l=NR E→l=E
 |[],[],_=>rfl
 |[],_::_,h=>by simp[NR]at h
 |_::_,[],h=>by simp[NR]at h
 |a::l,b::E,h=>by
  simp only[NR,Aa]at h;rw[mA h.1,vW h.2]
end
theorem Ou{v v':Val}:Dn v=Dn v'↔v=v':=⟨mA,fun h=>by rw[h]⟩
theorem mB{l E:List Val}:l.map Dn=E.map Dn↔l=E:=⟨P1 fun _ _=>mA,fun h=>by rw[h]⟩
theorem Jo(k n:Int)(B L:List D):D4 (vD k n B L)=s_ (vC k n B L):=(rfl)
theorem QH:D4 (U [I J 0,I J 0,O 0 [] t_,O 0 [] t_])=s_ [I J 0,I J 0,O 0 [] t_,O 0 [] t_]:=(rfl)
theorem Ki(lent:Bool)(k n:Int)(B L:List D):DJ (s_ ⟨f_,1,vC k n B L,lent⟩) 1 f_ 0=s_ (I J k):=(rfl)
theorem TU(lent:Bool)(k n:Int)(B L:List D):DJ (s_ ⟨f_,1,vC k n B L,lent⟩) 1 f_ 1=s_ (I J n):=(rfl)
theorem Qt(lent:Bool)(k n:Int)(B L:List D):DJ (s_ ⟨f_,1,vC k n B L,lent⟩) 1 f_ 2=s_ (O (nz 1 B) B f_):=(rfl)
theorem Lf(lent:Bool)(k n:Int)(B L:List D):DJ (s_ ⟨f_,1,vC k n B L,lent⟩) 1 f_ 3=s_ (O (nz 4 L) L f_):=(rfl)
theorem Ka(lent:Bool)(k n:Int)(B L:List D):DJ (s_ ⟨f_,1,vC k n B L,lent⟩) 4 t_ 0=s_ (vD k n B L):=(rfl)
theorem Wj(k n:Int)(B L:List D):Eb (s_ ⟨f_,1,[I J 0,I J 0,O 0 [] t_,O 0 [] t_],f_⟩) 4 0 (vD k n B L)=s_ ⟨f_,1,vC k n B L,f_⟩:=(rfl)
theorem Yp(st:St)(k n:Int)(B L:List D):FL st 4 t_ (.eptr (vD k n B L) 0)=s_ (vD k n B L):=(rfl)
theorem NL(st:St)(k n:Int)(B L:List D):Ej st (vD k n B L)=s_ (vD k n B L):=by simp only[vD,vC,Ej,Es,D2,L3];rfl
theorem QN(k n:Int)(B L:List D):keys (vD k n B L)=[]:=(rfl)
theorem O9(k n:Int)(B L:List D):(vC k n B L).flatMap hk=[]:=(rfl)
theorem WG(m:Nat)(k n:Int)(B L:List D):∀ x∈vC k n B L,EO m [] x=x:=by intro x E;simp only[vC,Ay,AD,or_false]at E;rcases E with rfl|rfl|rfl|rfl <;> rfl
theorem Pt(m:Nat)(σ:List Nat)(k n:Int)(B L:List D):(vC k n B L).map (EO m σ)=vC k n B L:=(rfl)
theorem Yh(st:St)(l:List Val)(t:Bool)(i:Nat)(h:i<l.length):GK st 4 (O (nz 4 (l.map Dn)) (l.map Dn) t) (I J (i:Int))=s_ (.eptr (Dn (l.getD i default)) 0):=by have:=KO st 4 Dn l t J (i:Int) (by omega) (by omega);grind
theorem TO:((2:Int)=1)=False:=by simp
theorem Xn:((3:Int)=1)=False:=by simp
theorem Xm:((3:Int)=2)=False:=by simp
def eO(N:Nat):List D→Option D:=Dq (α:=Val) (fun v=>[Dn v]) (fun v=>DX v<N∧(Dz v).length≤4294967000) (fun v=>.tup [I J (DX v:Int),V t_])
theorem wq(N:Nat)(v:Val)(h:DX v<N∧(Dz v).length≤4294967000):eO N [Dn v]=s_ (.tup [I J (DX v:Int),V t_]):=
 DK (fun a b h=>by simp only[Aa,and_true,Ou]at h; rw[h]) v h
theorem lF:∀ b:List UInt8,b.length≤(b.flatMap D9).length
 |[]=>by simp
 |c::b=>by
  have:=lF b;have E:1≤(D9 c).length:=by unfold D9; split <;> simp
  grind
theorem Yve(n:Int):1≤(F4 n).length:=by unfold F4; split <;> simp
theorem Yc6:∀ v:Val,1≤(Dz v).length
 |.int n=>by rw[e9]; exact Yve n
 |.bytes b=>by rw[SO]; simp
 |.list l=>by rw[LU]; simp
theorem T7:∀ l:List Val,l.length≤(l.flatMap Dz).length
 |[]=>by simp
 |v::l=>by
  have:=T7 l;have:=Yc6 v;grind
theorem lG:∀ {l:List Val} {v:Val},v∈l→(Dz v).length≤(l.flatMap Dz).length
 |a::l,v,h=>by
  simp only[Au,Ac];rcases Ay.1 h with rfl|h
  ·omega
  ·have:=lG h; omega
mutual
theorem Yda:∀ v:Val,DX v≤(Dz v).length
 |.int n=>by simp[DX]
 |.bytes b=>by simp[DX]
 |.list l=>by
  have:=m0 l;simp only[DX,Dz,Ak,Ac,Ar];omega
theorem m0:∀ l:List Val,HL l≤(Rz l).length
 |[]=>by simp[HL]
 |v::l=>by
  have:=Yda v;have:=m0 l;simp only[HL,Rz,Ac];omega
end
def Kf:List Val→Nat
 |[]=>0
 |v::l=>max (Kf l) (DX v)
theorem Ydc:∀ l:List Val,Kf l.reverse=HL l:=by
 have h:∀ (l m:List Val),Kf (l++m)=max (Kf l) (Kf m):=by
  intro l m
  induction l with
  |nil=>simp[Kf]
  |cons a l E=>simp only[Ag,Kf,E]; omega
 intro l
 induction l with
 |nil=>simp[Kf,HL]
 |cons a l E=>rw[List.reverse_cons,h,E]; simp only[Kf,HL]; omega
theorem wX(l:List Val)(v:Val):HL (l++[v])=max (HL l) (DX v):=by rw[← Ydc,← Ydc l,List.reverse_append];rfl
theorem Lw[Inhabited α](l:List α)(h:i<l.length):l.take (i+1)=l.take i++[l.getD i default]:=by simp_all
theorem Yp8:∀ N:Nat,Contract Tryz.prog GG 189 (eO N)
 |0=>by
  intro w g ds vs d hd;obtain⟨a,_,hp,_⟩:=Sw hd;omega
 |N+1=>by
  refine DM (T:=tb [(189,eO N)] []) yLd (DD (all_cons (Yp8 N) all_nil) all_nil) ?_;rintro v ⟨hN,hl⟩;unfold yC
  cases v with
  |int n=>
   rw[Ml,Ydb]
   push_cast(disch:=lia)[↓CX,Jo,Ki,Qt,Lf]
  |bytes b=>
   rw[Mq,wV]
   push_cast(disch:=lia)[↓CX,Jo,Ki,TU,Lf,TO]
  |list l=>
   rw[NA,SL];rw[SL]at hN;rw[LU]at hl;have a5:=T7 l;have ad:=m0 l;rw[lH]at ad;simp only[Ak,Ac,Ar]at hl
   push_cast(disch:=lia)[Jo,Ki,TU,Qt,Lf,Xn,Xm]
   refine E0 (fun i:Nat=>[(2,I J (HL (l.take i):Int)),(45,O (nz 4 (l.map Dn)) (l.map Dn) f_),(46,I J (l.length:Int)),(47,I J (i:Int))])
    (fun _=>[⟨f_,1,vC 3 0 [] (l.map Dn),f_⟩]) (fun i=>i≤l.length) (fun i=>l.length - i) 0 (by push_cast [↓CX,O9,Pt] <;> rfl) (by omega) ?_
   intro i hi;unfold r9
   push_cast(disch:=lia)
   refine Ew (fun h2=>?_) (fun h2=>?_)
   ·have E:i<l.length:=by omega
    have hx:=Yh [⟨f_,1,vC 3 0 [] (l.map Dn),f_⟩] l f_ i E;have M:l.getD i default∈l:=by rw[Ai,Aj E]; exact Bv E
    have ae:=eZ M;have af:=lG M;have hc:=wq N (l.getD i default) ⟨by omega,by omega⟩;have aa:=Lw l E;obtain⟨x,ah⟩:∃ x,l.getD i default=x:=⟨_,rfl⟩;rw[ah]at hx hc aa ae af;have ab:=wX (l.take i) x;rw[← aa]at ab;obtain⟨k,n,B,L,hC,hD⟩:=LV x;rw[hD]at hx hc
    push_cast(disch:=lia)[hx,Yp,QH,Wj,Ka,NL,QN,hc,DQ]
    refine EB (i+1) (by omega) (by omega) ?_;rw[show((HL (l.take (i+1)):Nat):Int)=max (HL (l.take i):Int) (DX x:Int) by rw[ab]; omega];rfl
   ·obtain rfl:i=l.length:=by omega
    have e2:l.take l.length=l:=AR;rw[e2]
    push_cast(disch:=lia)[DQ]
theorem F2(st:St)(o:Obj):(st++[o])[st.length]?=s_ o:=List.getElem?_concat_length
theorem Yjd(st:St)(o o':Obj):(st++[o]).set st.length o'=st++[o']:=by simp
theorem j0(n:Nat)(d:D):EO n [] d=H6 n d:=by
 have N:∀ (f:Nat→D) (key:Nat),JS f (Fi n [] key)=if key<n then f key else .junk:=by
  intro f key; unfold Fi; split <;> rfl
 have E:∀ d,Hf n [] d=H5 n d:=by
  intro d;cases d <;> simp only[Hf,H5,N]
 have M:∀ d,EW n [] d=Hh n d:=by
  intro d
  cases d with
  |clo f l=>simp only[EW,Hh,D.clo.injEq,true_and]; exact BA fun x _=>E x
  |_=>simp only[EW,Hh]; exact E _
 cases d with
 |agg l=>simp only[EO,H6,D.agg.injEq]; exact BA fun x _=>M x
 |tup l=>rfl
 |_=>simp only[EO,H6]; exact M _
theorem YLt(h:EO n [] x=x):∀ k∈hk x,k<n:=by
 have E:∀ (f:Nat→D) (key:Nat),(∀ k,f k≠.junk)→JS f (Fi n [] key)=f key→key<n:=by
  intro f key hf h;unfold Fi at h
  split at h
  ·assumption
  ·exact absurd h.symm (hf key)
 have N:∀ x,Hf n [] x=x→∀ k∈GZ x,k<n:=by
  intro x h k hk
  cases x with
  |row key tot off len=>simp only[GZ,AP]at hk; subst hk; exact E (fun k=>.row k tot off len) _ (fun k e=>by cases e) h
  |bsl key off j sz ag=>simp only[GZ,AP]at hk; subst hk; exact E (fun k=>.bsl k off j sz ag) _ (fun k e=>by cases e) h
  |ptr key off=>simp only[GZ,AP]at hk; subst hk; exact E (fun k=>Y k off) _ (fun k e=>by cases e) h
  |rptr key tot i off=>simp only[GZ,AP]at hk; subst hk; exact E (fun k=>.rptr k tot i off) _ (fun k e=>by cases e) h
  |mapv key=>simp only[GZ,AP]at hk; subst hk; exact E .mapv _ (fun k e=>by cases e) h
  |_=>simp[GZ]at hk
 have h1:∀ x,EW n [] x=x→∀ k∈DR x,k<n:=by
  intro x h k hk
  cases x with
  |clo f l=>
   simp only[DR,Bp]at hk;obtain⟨y,M,hk⟩:=hk;simp only[EW,D.clo.injEq,true_and]at h;exact N y (Rx h y M) k hk
  |_=>unfold EW at h; unfold DR at hk; exact N _ h k hk
 intro k hk
 cases x with
 |agg l=>
  simp only[PI.hk,Bp]at hk;obtain⟨y,M,hk⟩:=hk;simp only[EO,D.agg.injEq]at h;exact h1 y (Rx h y M) k hk
 |tup l=>simp[PI.hk,DR,GZ]at hk
 |_=>unfold EO at h; unfold PI.hk at hk; exact h1 _ h k hk
theorem StOK.keys(h:StOK st):∀ o∈st,o.row=f_→∀ x∈o.els,∀ k∈hk x,k<st.length:=fun o E M x N=>YLt (h o E M x N)
theorem rS{l:St}(h:StOK st)(hn:n=st.length)(E:∀ k∈NK fr keep,k<n):restrict keep n ⟨fr,st++l⟩=⟨HC (Kh fr n [] keep),st⟩:=by subst hn;refine yPm h h.keys fun s M k hk=>E k ?_;rw[kZ,Bp];grind
theorem Yy0{l:St}(h:StOK st)(hn:n=st.length):cut n (st++l)=st:=by
 subst hn;unfold cut;rw[show(st++l).take st.length=st by simp];refine Nt fun o E=>?_;obtain⟨row,sz,els,lent⟩:=o
 cases row with
 |true=>rfl
 |false=>
  show(⟨f_,sz,els.map (H6 st.length),lent⟩:Obj)=_
  rw[Nt fun x M=>(j0 st.length x).symm.trans (h _ E rfl x M)]
theorem mo(h:StOK st)(k n:Int)(B L:List D)(lent:Bool):StOK (st++[⟨f_,1,vC k n B L,lent⟩]):=h.app _ fun o E N x M=>by
 simp only[AP]at E;subst E;exact WG _ _ _ _ _ x M
theorem Yhl{b:D}(h:Oz st b l)(m:St):Oz (st++m) b l:=by
 rcases h with⟨rfl,rfl⟩|⟨key,rfl,hl,hk⟩
 ·exact .inl ⟨rfl,rfl⟩
 ·exact .inr ⟨key,rfl,hl,by rw[Av (Ab.1 hk).1]; exact hk⟩
theorem wc{els:List D}{lent:Bool}(hk:st[key]?=s_ ⟨t_,sz,els,lent⟩){j:Nat}{o:PI.Obj}(hj:st[j]?=s_ o)(M:o.row=f_)(m:List UInt8):(D7 st key m)[j]?=s_ o:=by
 have E:key≠j:=by
  grind
 rw[D7,AO E];exact hj
theorem xI{b:D}(h:Oz st b l)(N:m≠[]):∃ key st1,key<st1.length∧Km st b l m=(.row key (l++m).length 0 (l++m).length,D7 st1 key (l++m))∧(StOK st→StOK st1)∧
  (∀ n,Km st b l (m++n)=(.row key (l++(m++n)).length 0 (l++(m++n)).length,D7 st1 key (l++(m++n))))∧∀ (j:Nat) (o:PI.Obj),st[j]?=s_ o→o.row=f_→∀ n,(D7 st1 key n)[j]?=s_ o:=by
 rcases h with⟨rfl,rfl⟩|⟨key,rfl,hl,hk⟩
 ·refine⟨st.length,st++[⟨t_,1,[],f_⟩],by simp,?_,fun h=>h.app _ fun o ho E=>?_,fun n=>?_,fun j o hj E n=>?_⟩
  ·simp[Km,D7]
  ·grind
  ·simp[Km,D7]
  ·exact wc (F2 st ⟨t_,1,[],f_⟩) (by rw[Av (Ab.1 hj).1]; exact hj) E n
 ·have M:=(Ab.1 hk).1;exact⟨key,st,M,rfl,id,fun n=>rfl,fun j o hj E n=>wc hk hj E n⟩
def Tm(st:St)(b:D)(l:List UInt8)(v:Val):D×St:=Km (st++[⟨f_,1,VZ v,f_⟩]) b l (Dz v)
def YIw(N:Nat)(ds:List D)(st:St)(r:D×St):Prop:=∃ (v:Val),StOK st∧DX v<N∧(Dz v).length≤4294967000∧ds=[O 0 [] t_,Dn v]∧r=Tm st (O 0 [] t_) [] v
def YIv(N:Nat)(ds:List D)(st:St)(r:D×St):Prop:=∃ (key:Nat) (l:List UInt8) (v:Val),StOK st∧DX v<N∧l.length+(Dz v).length≤4294967000∧l≠[]∧st[key]?=s_ ⟨t_,1,l.map Dr,f_⟩∧ds=[.row key l.length 0 l.length,Dn v]∧r=Km st (.row key l.length 0 l.length) l (Dz v)
def lS(N:Nat):List D→St→Option (D×St):=FX (YIw N)
def VK(N:Nat):List D→St→Option (D×St):=FX (YIv N)
theorem Yrb(N:Nat):Ix (YIv N):=by rintro ds st r r' ⟨key,l,v,_,_,_,_,hk,rfl,rfl⟩ ⟨M,l',v',_,_,_,_,E,h,rfl⟩;simp only[Aa,D.row.injEq,and_true,Ou]at h;obtain⟨⟨rfl,_⟩,rfl⟩:=h;rw[hk]at E;simp only[Dp,Obj.mk.injEq,true_and,and_true]at E;rw[Rc E]
theorem Yrc(N:Nat):Ix (YIw N):=by rintro ds st r E ⟨v,_,_,_,rfl,rfl⟩ ⟨v',_,_,_,h,rfl⟩;simp only[Aa,and_true,true_and,Ou]at h;rw[h]
theorem Yjs{G:DB}{T:Tbl}{c:PC}{res:List PRes}{K M:D→St→Prop}(h:@wW G T c fr st ⟨@Ht res ⟨K⟩⟩)(hk:∀ d st,K d st→M d st):@wW G T c fr st ⟨@Ht res ⟨M⟩⟩:=by
 refine gy (LL _ _ _ _ _ (JL h) fun e E st' h=>?_)
 have fin:@on _ (Eo ⟨E,st'⟩ res) ⟨fun l=>K (Ec l) st'⟩→@on _ (Eo ⟨E,st'⟩ res) ⟨fun l=>M (Ec l) st'⟩:=by
  unfold on;grind
 cases e with
 |next=>rw[vJ]at h ⊢; exact fin h
 |ret=>rw[Ya5]at h ⊢; exact fin h
 |exit id=>unfold Ht at h; exact h.elim
 |panic t d=>unfold Ht at h; exact h.elim
theorem pP(c:UInt8):DF .eql (Dr c) (I .u8 0)=s_ (V (decide (c=0))):=by
 unfold Dr;rw[qZ]
 congr 2
 rw[decide_eq_decide];refine⟨fun h=>?_,fun h=>by subst h; rfl⟩;apply CB.1;grind
theorem zN:FP 1 [I .u8 0,I .u8 0]=s_ (O 1 [I .u8 0,I .u8 0] t_):=(rfl)
theorem Qv(n:Int):FP 1 [I .u8 n]=s_ (O 1 [I .u8 n] t_):=(rfl)
theorem X5:Dr 48=I .u8 48:=(rfl)
theorem X4:Dr 64=I .u8 64:=(rfl)
theorem fU:Dr 0=I .u8 0:=(rfl)
theorem YOi:Dr 255=I .u8 255:=(rfl)
/- the bytes of a string,laid behind what is there -/
theorem Yr6(T:Tbl)(st1:St)(key:Nat)(E:key<st1.length)(ac:StOK st1)(l0 B:List UInt8)(hl:l0.length+(B.flatMap D9).length≤4294967100)(fr:Frame)(Q:Ex→Frame→St→Prop)
  (h0:fr 0=.row key l0.length 0 l0.length) (h1:fr 23=O (nz 1 (B.map Dr)) (B.map Dr) f_) (h6:fr 24=I J (B.length:Int)) (ad:fr 25=I J 0)
  (hQ:∀ N,N 0=.row key (l0++B.flatMap D9).length 0 (l0++B.flatMap D9).length→Q (.exit 1) N (D7 st1 key (l0++B.flatMap D9))) :
  @wW GG T (.loop [0,23,24,25] iV) fr (D7 st1 key l0) ⟨Q⟩:=by
 have hlen:=og st1 key;have hR:∀ (fr:Frame) (m:List UInt8),restrict [0,23,24,25] (D7 st1 key l0).length ⟨fr,D7 st1 key m⟩=⟨HC (Kh fr st1.length [] [0,23,24,25]),D7 st1 key m⟩:=fun fr m=>by rw[Zu (Va ac key m) (by rw[hlen,hlen]),hlen]
 have hB:=lF B
 refine E0 (fun i:Nat=>[(0,.row key (l0++(B.take i).flatMap D9).length 0 (l0++(B.take i).flatMap D9).length),(23,O (nz 1 (B.map Dr)) (B.map Dr) f_),(24,I J (B.length:Int)),(25,I J (i:Int))])
  (fun i=>D7 st1 key (l0++(B.take i).flatMap D9)) (fun i=>i≤B.length) (fun i=>B.length - i) 0 ?_ (by omega) ?_
 ·rw[hR];simp(disch:=omega) only[push_cast,↓CX,h0,h1,h6,ad,RS] <;> rfl
 intro i hi;unfold iV
 push_cast(disch:=lia)
 refine Ew (fun h2=>?_) (fun h2=>?_)
 ·have ae:i<B.length:=by omega
  have hx:GK (D7 st1 key (l0++(B.take i).flatMap D9)) 1 (O (nz 1 (B.map Dr)) (B.map Dr) f_) (I J (i:Int))=s_ (.eptr (Dr (B.getD i default)) 0):=by
   have:=KO (D7 st1 key (l0++(B.take i).flatMap D9)) 1 Dr B f_ J (i:Int) (by omega) (by omega);grind
  have a8:=Lw B ae
  have a7:((B.take i).flatMap D9).length+(D9 (B.getD i default)).length≤(B.flatMap D9).length:=by
   have e:B=B.take (i+1)++B.drop (i+1):=(Bu _ _).symm;grind
  generalize a9:B.getD i default=c at*;have a1:1≤(D9 c).length:=by unfold D9; split <;> simp
  have M:=fun x=>fh (st:=st1) E (l0++(B.take i).flatMap D9) x (by rw[Ac]; omega) t_
  have aa:l0++(B.take (i+1)).flatMap D9=l0++(B.take i).flatMap D9++D9 c:=by
   grind
  by_cases hc:c=0
  ·subst hc;have ah:DF .eql (Dr 0) (I .u8 0)=s_ (V t_):=(rfl)
   have h3:=fh (st:=st1) E (l0++(B.take i).flatMap D9++[0]) 255 (by
    grind) t_
   rw[YOi]at h3
   push_cast(disch:=lia)[hx,Ru,Pa,Po,Nk,Qv,M,ah,h3,DQ,↓hR,E]
   refine EB (i+1) (by omega) (by omega) ?_;rw[aa,show l0++(B.take i).flatMap D9++D9 0=l0++(B.take i).flatMap D9++[0]++[255] by simp[D9]]
   first|rfl|(push_cast [↓Hd,↓CX] <;> rfl)
  ·push_cast(disch:=lia)[hx,Ru,Pa,Po,Nk,M,pP,hc,decide_false,DQ,↓hR,E]
   refine EB (i+1) (by omega) (by omega) ?_;rw[aa,show l0++(B.take i).flatMap D9++D9 c=l0++(B.take i).flatMap D9++[c] by simp[D9,hc]]
   first|rfl|(push_cast [↓Hd,↓CX] <;> rfl)
 ·obtain rfl:i=B.length:=by omega
  rw[AR]
  push_cast(disch:=lia)
  exact hQ _ rfl
theorem Yhd{v:Val}{N:Nat}(E:StOK st)(M:DX v<N)(h3:l.length+(Dz v).length≤4294967000)(h4:l≠[])(h5:st[key]?=s_ ⟨t_,1,l.map Dr,f_⟩) :
  VK N [.row key l.length 0 l.length,Dn v] st=s_ (.row key (l++Dz v).length 0 (l++Dz v).length,st.set key ⟨t_,1,(l++Dz v).map Dr,f_⟩):=Mg (Yrb N) ⟨key,l,v,E,M,h3,h4,h5,rfl,rfl⟩
theorem mT[Inhabited α](f:α→List UInt8)(L:List α)(h:i<L.length):((L.take i).flatMap f).length+(f (L.getD i default)).length≤(L.flatMap f).length:=by have e:L=L.take (i+1)++L.drop (i+1):=(Bu _ _).symm;have:=congrArg (fun l=>(l.flatMap f).length) e;simp only[List.flatMap_append,Ac,Lw L h,Au,BE,Af]at this;omega
/- the values of a list,laid behind what is there -/
theorem Yr5(N:Nat)(st1:St)(key:Nat)(E:key<st1.length)(ab:StOK st1)(l0:List UInt8)(ah:l0≠[])(L:List Val)(hd:HL L<N)(hl:l0.length+(L.flatMap Dz).length≤4294967000)(fr:Frame)(Q:Ex→Frame→St→Prop)
  (h0:fr 0=.row key l0.length 0 l0.length) (h1:fr 46=O (nz 4 (L.map Dn)) (L.map Dn) f_) (h6:fr 47=I J (L.length:Int)) (a0:fr 48=I J 0)
  (hQ:∀ ac,ac 0=.row key (l0++L.flatMap Dz).length 0 (l0++L.flatMap Dz).length→Q (.exit 3) ac (D7 st1 key (l0++L.flatMap Dz))) :
  @wW GG (tb [] [(202,Vf),(190,VK N)]) (.loop [0,46,47,48] iW) fr (D7 st1 key l0) ⟨Q⟩:=by
 have hlen:=og st1 key;have hB:=T7 L;have hR:∀ (fr:Frame) (m:List UInt8),restrict [0,46,47,48] (D7 st1 key l0).length ⟨fr,D7 st1 key m⟩=⟨HC (Kh fr st1.length [] [0,46,47,48]),D7 st1 key m⟩:=fun fr m=>by rw[Zu (Va ab key m) (by rw[hlen,hlen]),hlen]
 refine E0 (fun i:Nat=>[(0,.row key (l0++(L.take i).flatMap Dz).length 0 (l0++(L.take i).flatMap Dz).length),(46,O (nz 4 (L.map Dn)) (L.map Dn) f_),(47,I J (L.length:Int)),(48,I J (i:Int))])
  (fun i=>D7 st1 key (l0++(L.take i).flatMap Dz)) (fun i=>i≤L.length) (fun i=>L.length - i) 0 ?_ (by omega) ?_
 ·rw[hR];simp(disch:=omega) only[push_cast,↓CX,h0,h1,h6,a0,RS] <;> rfl
 intro i hi;unfold iW
 push_cast(disch:=lia)
 refine Ew (fun h2=>?_) (fun h2=>?_)
 ·have aa:i<L.length:=by omega
  have hx:=Yh (D7 st1 key (l0++(L.take i).flatMap Dz)) L f_ i aa;have ae:L.getD i default∈L:=by rw[Ai,Aj aa]; exact Bv aa
  have a1:=eZ ae;have a2:=mT Dz L aa;have a3:=Lw L aa;obtain⟨x,a4⟩:∃ x,L.getD i default=x:=⟨_,rfl⟩;rw[a4]at hx a3 a1 a2
  have bd:l0++(L.take (i+1)).flatMap Dz=l0++(L.take i).flatMap Dz++Dz x:=by
   grind
  obtain⟨k,n,B,M,hC,hD⟩:=LV x;have af:=mo (Va ab key (l0++(L.take i).flatMap Dz)) k n B M f_
  have hc:=Yhd (N:=N) (v:=x) (l:=l0++(L.take i).flatMap Dz) (key:=key) af (by omega) (by rw[Ac]; omega) (by simp[ah]) (by
   rw[Av (by rw[hlen]; exact E)]; exact kR E _)
  rw[BZ _ _ (by rw[hlen]; exact E),show(D7 st1 key (l0++(L.take i).flatMap Dz)).set key ⟨t_,1,(l0++(L.take i).flatMap Dz++Dz x).map Dr,f_⟩=D7 st1 key (l0++(L.take i).flatMap Dz++Dz x)from Yqs st1 key _ _,hD]at hc;rw[hD]at hx
  have a6:∀ (fr:Frame) (m:List UInt8) (o:PI.Obj),(NK fr [0,46,47,48]).all (fun k=>decide (k<st1.length))=t_→restrict [0,46,47,48] (D7 st1 key l0).length ⟨fr,D7 st1 key m++[o]⟩=⟨HC (Kh fr st1.length [] [0,46,47,48]),D7 st1 key m⟩:=fun fr m o h=>by
   rw[rS (Va ab key m) (by rw[hlen,hlen]) (fun k hk=>by rw[hlen]; exact of_decide_eq_true (Ah.1 h k hk)),hlen]
  simp(disch:=first|omega|decide|(push_cast [↓Hd,↓CX,E]; done)) only[push_cast,↓reduceIte,CW,↓a6,hx,Yp,QH,F2,Yjd,Wj,Ka,hc,DQ,E];refine EB (i+1) (by omega) (by omega) ?_;grind
 ·obtain rfl:i=L.length:=by omega
  rw[AR]
  push_cast(disch:=lia)
  exact hQ _ rfl
/- the whole -/
theorem Yx1(N:Nat)(st:St)(b:D)(l:List UInt8)(v:Val)(a5:StOK st)(hb:Oz st b l)(hN:DX v<N+1)(hl:l.length+(Dz v).length≤4294967000) :
  @wW GG (tb [] [(202,Vf),(190,VK N)]) Z8.code (Dm [b,Dn v]) st ⟨@Ht Z8.res ⟨fun d st'=>(d,st')=Tm st b l v⟩⟩:=by
 unfold Z8 Tm;obtain⟨k,n,B,M,hC,hD⟩:=LV v;have ae:=mo a5 k n B M f_;have ad:=Yhl hb [⟨f_,1,vC k n B M,f_⟩];have a3:=F2 st ⟨f_,1,vC k n B M,f_⟩
 cases v with
 |int m=>
  obtain⟨rfl,rfl,rfl,rfl⟩:=MS ((Ml m).symm.trans hD);have hc:=Yp3 m ae ad (by omega);rw[hD,hC,e9];generalize Km (st++[⟨f_,1,vC 1 m [] [],f_⟩]) b l (F4 m)=r at*;obtain⟨r1,r2⟩:=r
  push_cast(disch:=lia)[Jo,Ki,TU,F2,hc]
 |bytes m=>
  obtain⟨rfl,rfl,rfl,rfl⟩:=MS ((Mq m).symm.trans hD);rw[SO]at hl;simp only[Ak,Ac,Ar]at hl;rw[hD,hC,SO];obtain⟨key,st1,ab,af,ah,ac,a0⟩:=xI ad (m:=[48]) (by simp);have E:=Vu ad (m:=[48]) (by simp) (by simp; omega) t_;rw[af]at E;simp only[Aw,Ba,X5]at E;have hm:=ac (m.flatMap D9++[0,0]);rw[show(48::(m.flatMap D9++[0,0]):List UInt8)=[48]++(m.flatMap D9++[0,0])from rfl,hm];have a2:=a0 _ _ a3 rfl (l++[48])
  push_cast(disch:=lia)[Jo,Ki,Qt,F2,TO,Qv,E,a2]
  refine Yr6 _ st1 key ab (ah ae) (l++[48]) m (by simp only[Ac,Ak,Ar]; omega) _ _ (by push_cast) (by push_cast) (by push_cast) (by push_cast) fun a6 hf=>?_;have aa:=Ydx (st:=st1) ab (l++[48]++m.flatMap D9) [0,0] (by simp) (by simp only[Ac,Ak,Ar]; omega) t_;simp only[Aw,Ba,fU]at aa
  push_cast(disch:=lia)[hf,zN,aa]
  grind
 |list m=>
  obtain⟨rfl,rfl,rfl,rfl⟩:=MS ((NA m).symm.trans hD);rw[LU]at hl;rw[SL]at hN;simp only[Ak,Ac,Ar]at hl;rw[hD,hC,LU];obtain⟨key,st1,ab,af,ah,ac,a0⟩:=xI ad (m:=[64]) (by simp);have E:=Vu ad (m:=[64]) (by simp) (by simp; omega) t_;rw[af]at E;simp only[Aw,Ba,X4]at E;have hm:=ac (m.flatMap Dz++[0]);rw[show(64::(m.flatMap Dz++[0]):List UInt8)=[64]++(m.flatMap Dz++[0])from rfl,hm];have a2:=a0 _ _ a3 rfl (l++[64])
  push_cast(disch:=lia)[Jo,Ki,Lf,F2,Xn,Xm,Qv,E,a2]
  refine Yr5 N st1 key ab (ah ae) (l++[64]) (by simp) m (by omega) (by simp only[Ac,Ak,Ar]; omega) _ _ (by push_cast) (by push_cast) (by push_cast) (by push_cast) fun a6 hf=>?_;have aa:=fh (st:=st1) ab (l++[64]++m.flatMap Dz) 0 (by simp only[Ac,Ak,Ar]; omega) t_;simp only[fU]at aa
  push_cast(disch:=lia)[hf,Qv,aa]
  grind
theorem Yoe:∀ N:Nat,IContract Tryz.prog GG 190 (lS N)∧IContract Tryz.prog GG 190 (VK N)
 |0=>by
  have hT:TblOK Tryz.prog GG (tb [] []):=DD all_nil all_nil;refine⟨JX au hT fun ds st r E=>?_,JX au hT fun ds st r E=>?_⟩
  ·obtain⟨v,_,h,_⟩:=Jx E;omega
  ·obtain⟨key,l,v,_,h,_⟩:=Jx E;omega
 |N+1=>by
  have hT:TblOK Tryz.prog GG (tb [] [(202,Vf),(190,VK N)]):=DD all_nil (all_cons YFc (all_cons (Yoe N).2 all_nil));refine⟨JX au hT fun ds st r E=>?_,Zt au hT fun ds st r E=>?_⟩
  ·obtain⟨v,M,hd,hl,rfl,rfl⟩:=Jx E;exact Yx1 N st _ [] v M (.inl ⟨rfl,rfl⟩) hd (by simpa using hl)
  ·obtain⟨key,l,v,M,hd,hl,ad,hk,rfl,rfl⟩:=Jx E;have ab:=(Ab.1 hk).1;refine Yjs (Yx1 N st _ l v M (.inr ⟨key,rfl,ad,hk⟩) hd hl) fun d st' h=>?_;simp only[Tm,Km,DO]at h ⊢;obtain⟨rfl,rfl⟩:=h;refine⟨?_,?_⟩
   ·show Ip st.length (.row key _ 0 _)=_
    simp only[Ip,H6,Hh,H5,ab,if_true]
   ·rw[BZ _ _ ab];exact Yy0 (M.set _ _ fun e=>by cases e) (by rw[Cc])
theorem Yhe{v:Val}{N:Nat}(E:StOK st)(M:DX v<N)(h3:(Dz v).length≤4294967000):lS N [O 0 [] t_,Dn v] st=s_ (Tm st (O 0 [] t_) [] v):=Mg (Yrc N) ⟨v,E,M,h3,rfl,rfl⟩
def LI(b:List UInt8):D:=O (nz 1 (b.map Dr)) (b.map Dr) f_
def H9(v:Val):List UInt8:=if(Dz v).length≤65536 then Dz v else []
def Ke(v:Val):Int:=if(Dz v).length≤65536 then 0 else 2
def nh:List D→Option D:=Dq (α:=Val) (fun v=>[Dn v]) (fun v=>DX v≤16∧(Dz v).length≤4294967000) (fun v=>.tup [LI (H9 v),I J (Ke v)])
theorem yZ0(v:Val)(h:DX v≤16∧(Dz v).length≤4294967000):nh [Dn v]=s_ (.tup [LI (H9 v),I J (Ke v)]):=
 DK (fun a b h=>by simp only[Aa,and_true,Ou]at h; rw[h]) v h
theorem Yw9:Contract Tryz.prog GG 167 nh:=by
 refine DM (T:=tb [(189,eO 17)] [(190,lS 17)]) yHq (DD (all_cons (Yp8 17) all_nil) (all_cons (Yoe 17).1 all_nil)) ?_;rintro v ⟨hd,hl⟩;unfold rM H9 Ke;obtain⟨k,n,B,M,hC,hD⟩:=LV v;have h1:=wq 17 v ⟨by omega,hl⟩;have h2:=Yhe (N:=17) (st:=[⟨f_,1,vC k n B M,f_⟩]) (v:=v) (by have:=mo StOK.nil k n B M f_; simpa using this) (by omega) hl
 have ae:Dz v≠[]:=by
  intro e; have:=Yc6 v; rw[e]at this; simp at this
 have hz:nz 1 ((Dz v).map Dr)=1:=by
  cases he:Dz v with
  |nil=>exact absurd he ae
  |cons a r=>rfl
 simp only[Tm,Km,Ag,Al,Ak,Ar]at h2;rw[hD]at h1 h2;rw[hD]
 push_cast(disch:=lia)[Jo,Ka,NL,QN,h1]
 have af:¬ ((16:Int)<(DX v:Int)):=by omega
 push_cast(disch:=lia)[af,decide_false,Ka,h2]
 by_cases E:(Dz v).length≤65536
 ·rw[if_pos E,if_pos E];have h4:¬ ((65536:Int)<((Dz v).length:Int)):=by omega
  push_cast(disch:=lia)[h4,decide_false,LI]
 ·rw[if_neg E,if_neg E];have h4:((65536:Int)<((Dz v).length:Int)):=by omega
  push_cast(disch:=lia)[h4,decide_true,LI]
def EP:Dig:=OW [112,97,100] []
def Hn(a b:Dig):Dig:=OW [110,111,100,101] (a.bs++b.bs)
def pG(l:List Dig)(k:Int)(pad:Dig):Dig:=if k<(l.length:Int)then l.getD k.toNat default else pad
def yI(pad:Dig):List Dig→List Dig
 |[]=>[]
 |[a]=>[Hn a pad]
 |a::b::r=>Hn a b::yI pad r
def Il:Nat→Dig
 |0=>EP
 |n+1=>Hn (Il n) (Il n)
def WC(l:List Dig):Nat→List Dig
 |0=>l
 |n+1=>yI (Il n) (WC l n)
def YJ4(l:List Dig)(level:Nat)(k:Int):Dig:=pG (WC l level) k (Il level)
def Hk(n:Nat):Nat:=if n=0 then 0 else n.log2+1
def DW(n:Int):Int:=if n<0∨65536<n then -1 else(Hk ((max n 1).toNat - 1):Nat)
theorem SK(h:n<2 ^ k):Hk n≤k:=by
 unfold Hk
 split
 ·omega
 ·rename_i E;have:n.log2<k:=(Nat.log2_lt E).2 h;omega
theorem xG:n<2 ^ Hk n:=by
 unfold Hk
 split
 ·omega
 ·rename_i E;exact(Nat.log2_lt E).1 (CR _)
theorem uf(h:2 ^ k≤n):k+1≤Hk n:=by
 have E:n≠0:=by
  grind
 have:=(Nat.le_log2 E).2 h;unfold Hk;grind
theorem Rl(n k:Nat)(h:2 ^ k≤n):Hk n=k+Hk (n / 2 ^ k):=by
 have M:=xG (n:=n / 2 ^ k)
 have h2:Hk n≤k+Hk (n / 2 ^ k):=by
  apply SK;rw[CO];exact(Cp (Cd k)).1 M |> fun x=>by rwa [Cj]
 have h3:1≤n / 2 ^ k:=(Nat.one_le_div_iff (Cd k)).2 h
 have h4:k+Hk (n / 2 ^ k)≤Hk n:=by
  obtain⟨j,hj⟩:∃ j,Hk (n / 2 ^ k)=j+1:=by
   have:=uf (n:=n / 2 ^ k) (k:=0) (by omega);exact⟨Hk (n / 2 ^ k) - 1,by omega⟩
  have N:2 ^ j≤n / 2 ^ k:=by
   rcases A5 (n / 2 ^ k) (2 ^ j)with E|E
   ·have:=SK E;omega
   ·exact E
  have E:2 ^ (k+j)≤n:=by
   rw[CO]
   calc 2 ^ k*2 ^ j≤2 ^ k*(n / 2 ^ k):=Nat.mul_le_mul_left _ N
    _≤n:=Nat.mul_div_le n (2 ^ k)
  have:=uf E;omega
 omega
def Lr(i:Nat)(x:Dig):List Dig→Dig
 |[]=>x
 |q::r=>Lr (i / 2) (if i % 2=0 then Hn x q else Hn q x) r
def Ga(c:Int×Dig)(i:Int)(leaf:Dig)(p:List Dig):Bool:=
 decide (0≤DW c.1∧0≤i∧i<2 ^ (DW c.1).toNat∧(p.length:Int)=DW c.1∧Lr i.toNat leaf p=c.2)
theorem Rf{n:Int}(E:0≤n)(M:n≤65536):DW n=(Hk ((max n 1).toNat - 1):Nat)∧0≤DW n∧DW n≤16:=by
 have e:DW n=(Hk ((max n 1).toNat - 1):Nat):=by unfold DW; rw[YYN]
 have:Hk ((max n 1).toNat - 1)≤16:=SK (by omega);omega
theorem Qk{n:Int}(h:n<0∨65536<n):DW n=-1:=by unfold DW; rw[if_pos h]
theorem Yn1{n:Int}(E:0≤n)(M:n≤65536):n≤2 ^ (DW n).toNat:=by obtain⟨e,_,_⟩:=Rf E M;rw[e,AI];have N:=xG (n:=(max n 1).toNat - 1);grind
theorem yUu{n:Int}(M:0≤n)(N:n≤65536)(d:Nat)(h:(d:Int)<DW n):(2:Int) ^ d<n:=by
 obtain⟨e,_,_⟩:=Rf M N;rw[e]at h
 have h4:2 ^ d≤(max n 1).toNat - 1:=by
  rcases A5 ((max n 1).toNat - 1) (2 ^ d)with E|E
  ·have:=SK E; omega
  ·exact E
 grind
theorem Q6{a b:Nat}(h:a≤b):(2:Int) ^ a≤2 ^ b:=by have E:(2:Nat) ^ a≤2 ^ b:=Cu (by decide) h;grind
theorem eD(a:Nat):(1:Int)≤2 ^ a:=Q6 (a:=0) (by omega)
theorem YCt:([0,1,2,2,3,3,3,3,4,4,4,4,4,4,4,4,5,5,5,5,5,5,5,5,5,5,5,5,5,5,5,5,6,6,6,6,6,6,6,6,6,6,6,6,6,6,6,6,6,6,6,6,6,6,6,6,6,6,6,6,6,6,6,6,7,7,7,7,7,7,7,7,7,7,7,7,7,7,7,7,7,7,7,7,7,7,7,7,7,7,7,7,7,7,7,7,7,7,7,7,7,7,7,7,7,7,7,7,7,7,7,7,7,7,7,7,7,7,7,7,7,7,7,7,7,7,7,7,8,8,8,8,8,8,8,8,8,8,8,8,8,8,8,8,8,8,8,8,8,8,8,8,8,8,8,8,8,8,8,8,8,8,8,8,8,8,8,8,8,8,8,8,8,8,8,8,8,8,8,8,8,8,8,8,8,8,8,8,8,8,8,8,8,8,8,8,8,8,8,8,8,8,8,8,8,8,8,8,8,8,8,8,8,8,8,8,8,8,8,8,8,8,8,8,8,8,8,8,8,8,8,8,8,8,8,8,8,8,8,8,8,8,8,8,8,8,8,8,8,8,8,8,8,8,8,8]:List UInt8)=(C3 256).map (fun j=>C4 (Hk j)):=by kernel_rfl
theorem P9(j:Nat)(h:j<256):((((C3 256).map (fun j=>C4 (Hk j))).getD j default).toNat:Int)=Hk j:=by have E:Hk j≤8:=SK (k:=8) (by omega);simp[Ai,h];omega
theorem yY2:((C3 256).map (fun j=>C4 (Hk j))).length=256:=by simp
theorem P7(b:UInt8):KZ (.str ((C3 256).map (fun j=>C4 (Hk j)))) (Dr b)=s_ (Dr (((C3 256).map (fun j=>C4 (Hk j))).getD b.toNat default)):=Yvm _ b (by rw[yY2]; exact b.toNat_lt)
theorem Qa(m:Nat)(h:m<256):(C4 m).toNat=m:=by simp; omega
def ni:List D→Option D:=Dq (α:=Int) (fun a=>[I .u64 a]) (fun a=>0≤a∧a<18446744073709551616) (fun a=>I J (Hk a.toNat:Int))
theorem yZy(x:Int)(h:0≤x∧x<18446744073709551616):ni [I .u64 x]=s_ (I J (Hk x.toNat:Int)):=
 DK (fun a b h=>by simp only[Aa,D.int.injEq,true_and,and_true]at h; simp[h]) (x) h
theorem Yr3(x:Int)(h:0≤x∧x<18446744073709551616):@wW GG (tb [] []) Z4.code (Dm [I .u64 x]) [] ⟨Ds Z4.res (I J (Hk x.toNat:Int))⟩:=by
 obtain⟨h0,h1⟩:=h;obtain⟨n,rfl⟩:=Bc h0;rw[AI];have d1:=Rl n 32;have d2:=Rl n 16;have d3:=Rl n 8;have d4:=Rl (n / 2 ^ 32) 16;have d5:=Rl (n / 2 ^ 32) 8;have d6:=Rl (n / 2 ^ 32 / 2 ^ 16) 8;have d7:=Rl (n / 2 ^ 16) 8;have M:∀ y,y<256→Hk y≤8:=fun y hy=>SK (k:=8) (by omega);unfold Z4;rw[YCt]
 push_cast
 refine Ew (fun h2=>?_) (fun h2=>?_)
 ·simp(disch:=omega) only[push_cast,↓reduceIte,CW,C6,Df,OE]
  ·refine Ew (fun h3=>?_) (fun h3=>?_)
   ·simp(disch:=omega) only[push_cast,↓reduceIte,CW,C6,Df,Dg,OE,DQ]
    ·refine Ew (fun N=>?_) (fun N=>?_)
     ·simp(disch:=omega) only[push_cast,↓reduceIte,CW,C6,Df,Dg,OE,DQ]
      ·have E:((n:Int) / 4294967296 / 65536 / 256).toNat=n / 2 ^ 32 / 2 ^ 16 / 2 ^ 8:=by omega
       have hb:=M (n / 2 ^ 32 / 2 ^ 16 / 2 ^ 8) (by omega);have aa:=d1 (by omega);have ac:=d4 (by omega);have ah:=d6 (by omega);simp(disch:=omega) only[push_cast,↓reduceIte,CW,Nm,P7,PZ,P9,Qa,E,DQ];refine congrArg (fun z=>s_ (D.int J z)) ?_;omega
     ·simp(disch:=omega) only[push_cast,↓reduceIte,CW]
      ·have E:((n:Int) / 4294967296 / 65536).toNat=n / 2 ^ 32 / 2 ^ 16:=by omega
       have hb:=M (n / 2 ^ 32 / 2 ^ 16) (by omega);have aa:=d1 (by omega);have ac:=d4 (by omega);simp(disch:=omega) only[push_cast,↓reduceIte,CW,Nm,P7,PZ,P9,Qa,E,DQ];refine congrArg (fun z=>s_ (D.int J z)) ?_;omega
   ·simp(disch:=omega) only[push_cast,↓reduceIte,CW]
    ·refine Ew (fun N=>?_) (fun N=>?_)
     ·simp(disch:=omega) only[push_cast,↓reduceIte,CW,C6,Df,Dg,OE,DQ]
      ·have E:((n:Int) / 4294967296 / 256).toNat=n / 2 ^ 32 / 2 ^ 8:=by omega
       have hb:=M (n / 2 ^ 32 / 2 ^ 8) (by omega);have aa:=d1 (by omega);have a0:=d5 (by omega);simp(disch:=omega) only[push_cast,↓reduceIte,CW,Nm,P7,PZ,P9,Qa,E,DQ];refine congrArg (fun z=>s_ (D.int J z)) ?_;omega
     ·simp(disch:=omega) only[push_cast,↓reduceIte,CW]
      ·have E:((n:Int) / 4294967296).toNat=n / 2 ^ 32:=by omega
       have hb:=M (n / 2 ^ 32) (by omega);have aa:=d1 (by omega);simp(disch:=omega) only[push_cast,↓reduceIte,CW,Nm,P7,PZ,P9,Qa,E,DQ];refine congrArg (fun z=>s_ (D.int J z)) ?_;omega
 ·simp(disch:=omega) only[push_cast,↓reduceIte,CW]
  ·refine Ew (fun h3=>?_) (fun h3=>?_)
   ·simp(disch:=omega) only[push_cast,↓reduceIte,CW,C6,Df,Dg,OE,DQ]
    ·refine Ew (fun N=>?_) (fun N=>?_)
     ·simp(disch:=omega) only[push_cast,↓reduceIte,CW,C6,Df,Dg,OE,DQ]
      ·have E:((n:Int) / 65536 / 256).toNat=n / 2 ^ 16 / 2 ^ 8:=by omega
       have hb:=M (n / 2 ^ 16 / 2 ^ 8) (by omega);have ad:=d2 (by omega);have a1:=d7 (by omega);simp(disch:=omega) only[push_cast,↓reduceIte,CW,Nm,P7,PZ,P9,Qa,E,DQ];refine congrArg (fun z=>s_ (D.int J z)) ?_;omega
     ·simp(disch:=omega) only[push_cast,↓reduceIte,CW]
      ·have E:((n:Int) / 65536).toNat=n / 2 ^ 16:=by omega
       have hb:=M (n / 2 ^ 16) (by omega);have ad:=d2 (by omega);simp(disch:=omega) only[push_cast,↓reduceIte,CW,Nm,P7,PZ,P9,Qa,E,DQ];refine congrArg (fun z=>s_ (D.int J z)) ?_;omega
   ·simp(disch:=omega) only[push_cast,↓reduceIte,CW]
    ·refine Ew (fun N=>?_) (fun N=>?_)
     ·simp(disch:=omega) only[push_cast,↓reduceIte,CW,C6,Df,Dg,OE,DQ]
      ·have E:((n:Int) / 256).toNat=n / 2 ^ 8:=by omega
       have hb:=M (n / 2 ^ 8) (by omega);have a2:=d3 (by omega);simp(disch:=omega) only[push_cast,↓reduceIte,CW,Nm,P7,PZ,P9,Qa,E,DQ];refine congrArg (fun z=>s_ (D.int J z)) ?_;omega
     ·simp(disch:=omega) only[push_cast,↓reduceIte,CW]
      ·have E:((n:Int)).toNat=n:=by omega
       have hb:=M (n) (by omega);simp(disch:=omega) only[push_cast,↓reduceIte,CW,Nm,P7,PZ,P9,Qa,E,DQ];refine congrArg (fun z=>s_ (D.int J z)) ?_;omega
theorem Yw7:Contract Tryz.prog GG 129 ni:=
 DM yBd (DD all_nil all_nil) (fun a h=>Yr3 a h)
def Wv:List D→Option D:=Dq (α:=List Dig×Int×Dig) (fun a=>[O (nz 32 (a.1.map Dl)) (a.1.map Dl) f_,I J a.2.1,Dl a.2.2]) (fun a=>0≤a.2.1) (fun a=>Dl (pG a.1 a.2.1 a.2.2))
theorem fT(l:List Dig)(k:Int)(E:Dig)(h:0≤k):Wv [O (nz 32 (l.map Dl)) (l.map Dl) f_,I J k,Dl E]=s_ (Dl (pG l k E)):=
 DK (fun⟨a0,a1,M⟩ ⟨b0,b1,N⟩ h=>by simp only[Aa,D.slc.injEq,D.int.injEq,Vw,Kt,true_and,and_true]at h; simp[h]) (l,k,E) h
def TF:List D→Option D:=Dq (α:=Unit) (fun _=>[]) (fun _=>True) (fun _=>Dl EP)
theorem fj:TF []=s_ (Dl EP):=
 DK (fun _ _ _=>rfl) () trivial
theorem YIi:@wW GG (tb [(62,SJ)] []) Zn.code (Dm []) [] ⟨Ds Zn.res (Dl EP)⟩:=by unfold Zn;have c:SJ [.str [112,97,100],O 0 [] f_]=s_ (Dl EP):=ot [112,97,100] [] (by decide);simp(disch:=omega) only[push_cast,↓reduceIte,CW,c]
theorem gA:Contract Tryz.prog GG 20 TF:=
 DM yN2 (DD (all_cons kW all_nil) all_nil) (fun a h=>YIi )
def TH:List D→Option D:=Dq (α:=Unit) (fun _=>[]) (fun _=>True) (fun _=>Dl EP)
theorem fm:TH []=s_ (Dl EP):=
 DK (fun _ _ _=>rfl) () trivial
theorem YHl:@wW GG (tb [(102,SV)] []) ai.code (Dm []) [] ⟨Ds ai.res (Dl EP)⟩:=by unfold ai;have c:SV [.str [112,97,100],O 0 [] f_]=s_ (Dl EP):=iF [112,97,100] [] (by decide);simp(disch:=omega) only[push_cast,↓reduceIte,CW,c]
theorem gE:Contract Tryz.prog GG 51 TH:=
 DM yww (DD (all_cons mF all_nil) all_nil) (fun a h=>YHl )
def Un:List D→Option D:=Dq (α:=Dig×Dig) (fun a=>[Dl a.1,Dl a.2]) (fun a=>True) (fun a=>Dl (Hn a.1 a.2))
theorem M4(a:Dig)(b:Dig):Un [Dl a,Dl b]=s_ (Dl (Hn a b)):=
 DK (fun⟨a0,a1⟩ ⟨b0,b1⟩ h=>by simp only[Aa,Kt,and_true]at h; simp[h]) (a,b) trivial
theorem Yh3(a:Dig)(b:Dig):@wW GG (tb [(62,SJ)] []) ZU.code (Dm [Dl a,Dl b]) [] ⟨Ds ZU.res (Dl (Hn a b))⟩:=by
 unfold ZU;have ha:=a.len;have hb:=b.len;have hl:(a.bs++b.bs).length=64:=by rw[Ac,ha,hb]
 have c:=ot [110,111,100,101] (a.bs++b.bs) (by rw[hl]; decide);simp(disch:=omega) only[push_cast,↓reduceIte,CW,CY,Yui,n7,c];rfl
theorem mE:Contract Tryz.prog GG 95 Un:=
 DM yFv (DD (all_cons kW all_nil) all_nil) (fun a h=>Yh3 a.1 a.2)
def jK:List D→Option D:=Dq (α:=Dig×Dig) (fun a=>[Dl a.1,Dl a.2]) (fun a=>True) (fun a=>O 1 ((a.1.bs++a.2.bs).map Dr) f_)
theorem Yp4(a:Dig)(b:Dig):jK [Dl a,Dl b]=s_ (O 1 ((a.bs++b.bs).map Dr) f_):=
 DK (fun⟨a0,a1⟩ ⟨b0,b1⟩ h=>by simp only[Aa,Kt,and_true]at h; simp[h]) (a,b) trivial
theorem YIs(a:Dig)(b:Dig):@wW GG (tb [] []) aA.code (Dm [Dl a,Dl b]) [] ⟨Ds aA.res (O 1 ((a.bs++b.bs).map Dr) f_)⟩:=by
 unfold aA;have ha:=a.len;have hb:=b.len;simp(disch:=omega) only[push_cast,↓reduceIte,CW,m8 1 2]
 refine E0 (fun i:Nat=>[(2,Y 0 0),(3,Y 1 0),(5,DY 1 2 ((a.bs.take i).map Dr)),(6,I J (i:Int))])
  (fun i=>⟨f_,1,Dj a,f_⟩::⟨f_,1,Dj b,f_⟩::DC 1 ((a.bs.take i).map Dr)) (fun i=>i≤32) (fun i=>32 - i) 0 (by push_cast [↓CX] <;> rfl) (by omega) ?_
 intro i hi;unfold tq
 push_cast
 refine Ew (fun M=>?_) (fun M=>?_)
 ·have e:=nB a.bs i (by omega);have hl:(a.bs.take i).length=i:=by rw[AA]; omega
  have N:Dj a=a.bs.map Dr:=rfl;rw[N]
  push_cast(disch:=lia)[KT,DQ]
  refine EB (i+1) (by omega) (by omega) ?_;rw[e]
  push_cast <;> rfl
 ·obtain rfl:i=32:=by omega
  rw[AL (by omega)]
  have E:a.bs.map Dr≠[]:=by
   intro h; have:=congrArg List.length h; simp[ha]at this
  push_cast [↓CX,Mc _ _ _ E,LO _ _ E]
  refine E0 (fun i:Nat=>[(3,Y 1 0),(5,.row 2 (a.bs++b.bs.take i).length 0 (a.bs++b.bs.take i).length),(7,I J (i:Int))])
   (fun i=>[⟨f_,1,Dj a,f_⟩,⟨f_,1,Dj b,f_⟩,⟨t_,1,(a.bs++b.bs.take i).map Dr,f_⟩]) (fun i=>i≤32) (fun i=>32 - i) 0 (by push_cast [↓CX] <;> rfl) (by omega) ?_
  intro i hi;unfold tr
  push_cast
  refine Ew (fun M=>?_) (fun M=>?_)
  ·have e:=nB b.bs i (by omega);have hl:(a.bs++b.bs.take i).length=32+i:=by rw[Ac,AA]; omega
   have N:Dj b=b.bs.map Dr:=rfl;rw[N]
   push_cast(disch:=lia)[KT,DQ]
   refine EB (i+1) (by omega) (by omega) ?_;rw[e,← Am]
   push_cast <;> rfl
  ·obtain rfl:i=32:=by omega
   rw[AL (by omega)]
   have E:(a.bs++b.bs).map Dr≠[]:=by
    intro h; have:=congrArg List.length h; simp[ha]at this
   have aa:nz 1 ((a.bs++b.bs).map Dr)=1:=(OD _ _).resolve_right E
   push_cast [↓CX,aa]
theorem YOh:Contract Tryz.prog GG 188 jK:=
 DM ywa (DD all_nil all_nil) (fun a h=>YIs a.1 a.2)
def SU:List D→Option D:=Dq (α:=Dig×Dig) (fun a=>[Dl a.1,Dl a.2]) (fun a=>True) (fun a=>Dl (Hn a.1 a.2))
theorem M5(a:Dig)(b:Dig):SU [Dl a,Dl b]=s_ (Dl (Hn a b)):=
 DK (fun⟨a0,a1⟩ ⟨b0,b1⟩ h=>by simp only[Aa,Kt,and_true]at h; simp[h]) (a,b) trivial
theorem Yh1(a:Dig)(b:Dig):@wW GG (tb [(188,jK),(102,SV)] []) bC.code (Dm [Dl a,Dl b]) [] ⟨Ds bC.res (Dl (Hn a b))⟩:=by
 unfold bC;have ha:=a.len;have hb:=b.len;have hl:(a.bs++b.bs).length=64:=by rw[Ac,ha,hb]
 have M:(a.bs++b.bs).map Dr≠[]:=by
  intro h; have:=congrArg List.length h; simp[ha]at this
 have E:nz 1 ((a.bs++b.bs).map Dr)=1:=(OD _ _).resolve_right M;have c:=iF [110,111,100,101] (a.bs++b.bs) (by rw[hl]; decide);rw[E]at c;simp(disch:=omega) only[push_cast,↓reduceIte,CW,CY,Yp4,E,c];rfl
theorem fi:Contract Tryz.prog GG 162 SU:=
 DM yr7 (DD (all_cons YOh (all_cons mF all_nil)) all_nil) (fun a h=>Yh1 a.1 a.2)
def jL:List D→Option D:=Dq (α:=Int) (fun a=>[I .u64 a]) (fun a=>0≤a∧a<18446744073709551616) (fun a=>I J (Hk a.toNat:Int))
theorem Yp2(x:Int)(h:0≤x∧x<18446744073709551616):jL [I .u64 x]=s_ (I J (Hk x.toNat:Int)):=
 DK (fun a b h=>by simp only[Aa,D.int.injEq,true_and,and_true]at h; simp[h]) (x) h
theorem YIr(x:Int)(h:0≤x∧x<18446744073709551616):@wW GG (tb [(129,ni)] []) ZS.code (Dm [I .u64 x]) [] ⟨Ds ZS.res (I J (Hk x.toNat:Int))⟩:=by unfold ZS;simp(disch:=omega) only[push_cast,↓reduceIte,CW,yZy]
theorem YOg:Contract Tryz.prog GG 75 jL:=
 DM yFx (DD (all_cons Yw7 all_nil) all_nil) (fun a h=>YIr a h)
def SH:List D→Option D:=Dq (α:=Int) (fun a=>[I J a]) (fun a=>True) (fun a=>I J (DW a))
theorem Rt(n:Int):SH [I J n]=s_ (I J (DW n)):=
 DK (fun a b h=>by simp only[Aa,D.int.injEq,true_and,and_true]at h; simp[h]) (n) trivial
theorem Yry(n:Int):@wW GG (tb [(75,jL)] []) ZH.code (Dm [I J n]) [] ⟨Ds ZH.res (I J (DW n))⟩:=by
 unfold ZH
 push_cast
 refine Ew (fun E=>?_) (fun E=>?_)
 ·push_cast [E,Qk (.inl E)]
 ·push_cast [E]
  refine Ew (fun M=>?_) (fun M=>?_)
  ·push_cast [M,Qk (.inr M)]
  ·have e:(max n 1 - 1).toNat=(max n 1).toNat - 1:=by omega
   have N:=(Rf (n:=n) (by omega) (by omega)).1;simp(disch:=omega) only[push_cast,↓reduceIte,CW,M,EI,U6,Yp2,N,e]
theorem dX:Contract Tryz.prog GG 25 SH:=
 DM yHn (DD (all_cons YOg all_nil) all_nil) (fun a h=>Yry a)
def fJ:List D→Option D:=Dq (α:=Int) (fun a=>[I J a]) (fun a=>0≤a∧a≤60) (fun a=>I J (2 ^ a.toNat))
theorem xB(n:Int)(h:0≤n∧n≤60):fJ [I J n]=s_ (I J (2 ^ n.toNat)):=
 DK (fun a b h=>by simp only[Aa,D.int.injEq,true_and,and_true]at h; simp[h]) (n) h
theorem Yrt(n:Int)(h:0≤n∧n≤60):@wW GG (tb [] []) aL.code (Dm [I J n]) [] ⟨Ds aL.res (I J (2 ^ n.toNat))⟩:=by
 unfold aL
 push_cast
 refine E0 (fun i:Nat=>[(0,I J n),(3,I J (2 ^ i)),(4,I J (i:Int))]) (fun _=>[]) (fun i=>(i:Int)≤n) (fun i=>n.toNat - i) 0 (by push_cast [↓CX] <;> rfl) (by omega) ?_;intro i hi;unfold tA
 push_cast
 refine Ew (fun E=>?_) (fun E=>?_)
 ·have M:(2:Int) ^ i≤2 ^ 60:=Q6 (by omega);have N:=eD i;have e:(2:Int)*2 ^ i=2 ^ (i+1):=by rw[Int.pow_succ,CI]
  simp(disch:=omega) only[push_cast,↓reduceIte,CW,IA,DQ];refine EB (i+1) (by omega) (by omega) ?_
  push_cast [e] <;> rfl
 ·have e:n.toNat=i:=by omega
  push_cast [e]
theorem Ydr:Contract Tryz.prog GG 163 fJ:=
 DM yt3 (DD all_nil all_nil) (fun a h=>Yrt a h)
def SI:List D→Option D:=Dq (α:=Int) (fun a=>[I J a]) (fun a=>True) (fun a=>I J (DW a))
theorem Qm(n:Int):SI [I J n]=s_ (I J (DW n)):=
 DK (fun a b h=>by simp only[Aa,D.int.injEq,true_and,and_true]at h; simp[h]) (n) trivial
theorem Yrw(n:Int):@wW GG (tb [(163,fJ)] []) aK.code (Dm [I J n]) [] ⟨Ds aK.res (I J (DW n))⟩:=by
 unfold aK
 push_cast
 refine Ew (fun E=>?_) (fun E=>?_)
 ·push_cast [E,Qk (.inl E)]
 ·push_cast [E]
  refine Ew (fun M=>?_) (fun M=>?_)
  ·push_cast [M,Qk (.inr M)]
  ·obtain⟨e1,e2,e3⟩:=Rf (n:=n) (by omega) (by omega)
   push_cast [M]
   refine E0 (fun i:Nat=>[(0,I J n),(3,I J (i:Int))]) (fun _=>[]) (fun i=>(i:Int)≤DW n) (fun i=>(DW n).toNat - i) 0 (by push_cast [↓CX] <;> rfl) (by omega) ?_;intro i hi;unfold tz;simp(disch:=omega) only[push_cast,↓reduceIte,CW,xB];refine Ew (fun h3=>?_) (fun h3=>?_)
   ·have N:(i:Int)<DW n:=by
     rcases CU (i:Int) (DW n)with N|N
     ·exact N
     ·have h5:(DW n).toNat=i:=by omega
      have:=Yn1 (n:=n) (by omega) (by omega);rw[h5]at this;omega
    simp(disch:=omega) only[push_cast,↓reduceIte,CW,DQ];refine EB (i+1) (by omega) (by omega) ?_
    push_cast <;> rfl
   ·have N:¬ ((i:Int)<DW n):=fun h5=>h3 (yUu (by omega) (by omega) i h5);have e:DW n=i:=by omega
    push_cast [e]
theorem dY:Contract Tryz.prog GG 136 SI:=
 DM yt4 (DD (all_cons Ydr all_nil) all_nil) (fun a h=>Yrw a)
structure Ins where
 op:Int
 n:Int
 m:Int
 deriving DecidableEq,Inhabited
structure Sta where
 pc:Int
 fuel:Int
 status:Int
 clause:Int
 stack:List Int
 deriving DecidableEq,Inhabited
structure Opn where
 pc:Int
 fuel:Int
 status:Int
 clause:Int
 top:List Int
 depth:Int
 rest:Dig
 deriving DecidableEq
def D1(x:Ins):List D:=[I J x.op,I J x.n,I J x.m]
def Dk(x:Ins):D:=U (D1 x)
def EA(l:List Int):D:=O (nz 1 (l.map nI)) (l.map nI) f_
def Ep(s:Sta):List D:=[I J s.pc,I J s.fuel,I J s.status,I J s.clause,EA s.stack]
def DS(s:Sta):D:=U (Ep s)
def Fv(o:Opn):List D:=I J o.pc::I J o.fuel::I J o.status::I J o.clause::EA o.top::I J o.depth::Dj o.rest
def DU(o:Opn):D:=U (Fv o)
def Ev(v:Int×List Int):List D:=I J v.1::v.2.map nI
def D6(v:Int×List Int):D:=U (Ev v)
theorem SB{a b:List Int}:EA a=EA b↔a=b:=by refine⟨fun h=>?_,fun h=>by rw[h]⟩;simp only[EA,D.slc.injEq,and_true]at h;exact P8.1 h.2
theorem O3{a b:Ins}:Dk a=Dk b↔a=b:=by obtain⟨a1,E,M⟩:=a; obtain⟨b1,N,b3⟩:=b;simp[Dk,D1]
theorem Ha{a b:List Ins}:a.map Dk=b.map Dk↔a=b:=⟨P1 fun _ _=>O3.1,fun h=>by rw[h]⟩
theorem Nu{a b:Sta}:DS a=DS b↔a=b:=by obtain⟨a1,E,M,N,a5⟩:=a; obtain⟨b1,b2,b3,b4,b5⟩:=b;simp[DS,Ep,SB]
theorem Nv{a b:Opn}:DU a=DU b↔a=b:=by obtain⟨a1,E,M,N,a5,a6,a7⟩:=a; obtain⟨b1,b2,b3,b4,b5,b6,b7⟩:=b;simp[DU,Fv,SB,Nq]
theorem Hz{a b:Int×List Int}:D6 a=D6 b↔a=b:=by obtain⟨a1,E⟩:=a; obtain⟨b1,M⟩:=b;simp[D6,Ev,P8]
def Le(t:List UInt8)(v:Val):Dig:=OW t (H9 v)
def T0:List UInt8:=[112,114,111,103,114,97,109]
def Mz:List UInt8:=[105,110,112,117,116,115]
def My:List UInt8:=[115,116,97,99,107]
def KX:List UInt8:=[115,116,97,116,101]
def YJx(d:Dig)(x:Ins):Dig:=Le T0 (.list [.int x.op,.int x.n,.int x.m,.bytes d.bs])
def JP(c:List Ins):Dig:=c.foldl YJx DH
def Iq(v:Int×List Int):Dig:=Le Mz (.list [.int v.1,.list (v.2.map .int)])
def YJ0(d:Dig)(n:Int):Dig:=Le My (.list [.int n,.bytes d.bs])
def Hy(d:Dig)(l:List Int):Dig:=l.foldl YJ0 d
def Oh(c:List Ins)(v:Int×List Int)(o:Opn):Dig:=Le KX (.list [.bytes (JP c).bs,.bytes (Iq v).bs,.int o.pc,.int o.fuel,.int o.status,.int o.clause,.int (o.depth+o.top.length),.bytes (Hy o.rest o.top).bs])
def Na(s:Sta)(n:Int):Nat:=s.stack.length - (min (max n 0) s.stack.length).toNat
def LA(s:Sta)(n:Int):Opn:=⟨s.pc,s.fuel,s.status,s.clause,s.stack.drop (Na s n),Na s n,Hy DH (s.stack.take (Na s n))⟩
def HJ(c:List Ins)(v:Int×List Int)(s:Sta):Dig:=Oh c v (LA s s.stack.length)
def Gy(c:List Ins)(v:Int×List Int)(o:Opn):Dig:=if o.depth<0∨64<o.depth then DH else Oh c v o
theorem Ymk(n:Int):(F4 n).length≤9:=by
 unfold F4
 split
 ·have:=Qc 8 (DV n);simp only[Ak,S2]; omega
 ·have:=Qc 8 (JN (DV n));simp only[Ak,S2]; omega
theorem Yc5:∀ b:List UInt8,(b.flatMap D9).length≤2*b.length
 |[]=>by simp
 |c::b=>by
  have:=Yc5 b;have E:(D9 c).length≤2:=by unfold D9; split <;> simp
  simp only[Au,Ac,Ak];omega
theorem Lk(n:Int):(Dz (.int n)).length≤9:=by rw[e9]; exact Ymk n
theorem P5(d:Dig):(Dz (.bytes d.bs)).length≤67:=by have:=Yc5 d.bs;rw[d.len]at this;rw[SO];simp only[Ak,Ac,Ar];omega
theorem uH:∀ l:List Int,((l.map Val.int).flatMap Dz).length≤9*l.length
 |[]=>by simp
 |n::l=>by
  have:=uH l;have:=Lk n;simp only[Aw,Au,Ac,Ak];omega
theorem wH(st:St)(key:Nat):D2 st (.bsl key 0 32 1 f_)=(XM st[key]?).map fun p=>O (nz 1 p.2) p.2 f_:=by
 rw[← xO];simp only[D2,It,Hx]
 cases KG st key 0 32 1 f_ with
 |none=>rfl
 |some els=>
  dsimp only
  split <;> rfl
theorem No(st:St)(v:Val):Ej st (Dn v)=s_ (Dn v):=by obtain⟨k,n,B,M,N,E⟩:=LV v;rw[E,NL]
theorem Ns(v:Val):keys (Dn v)=[]:=by obtain⟨k,n,B,M,N,E⟩:=LV v;rw[E,QN]
theorem vz(v:Val):(Dn v).noRef=f_:=by obtain⟨k,n,B,M,N,E⟩:=LV v;rw[E]; rfl
theorem Yof(v:Val):(Dn v).cells.length=4:=by obtain⟨k,n,B,M,N,E⟩:=LV v;rw[E]; rfl
theorem ep(l:List Val)(h:l.length≤1000):FP 4 (l.map Dn)=s_ (O 4 (l.map Dn) t_):=by
 have E:((l.map Dn).all fun e=>e.cells.length == 4)=t_:=by
  rw[Ah];intro e he;obtain⟨v,_,rfl⟩:=A1.1 he;simp[Yof]
 have M:decide ((l.map Dn).length*4≤16777216)=t_:=decide_eq_true (by rw[A7]; omega);simp only[FP,E,M];rfl
theorem LR:D4 (U [I J 0,I J 0,I J 0])=s_ [I J 0,I J 0,I J 0]:=(rfl)
theorem Ez(x:Ins):D4 (Dk x)=s_ (D1 x):=(rfl)
theorem Oe(x:Ins):Eb (s_ ⟨f_,1,[I J 0,I J 0,I J 0],f_⟩) 3 0 (Dk x)=s_ ⟨f_,1,D1 x,f_⟩:=(rfl)
theorem EU(lent:Bool)(x:Ins):DJ (s_ ⟨f_,1,D1 x,lent⟩) 1 f_ 0=s_ (I J x.op):=(rfl)
theorem GP(lent:Bool)(x:Ins):DJ (s_ ⟨f_,1,D1 x,lent⟩) 1 f_ 1=s_ (I J x.n):=(rfl)
theorem MU(lent:Bool)(x:Ins):DJ (s_ ⟨f_,1,D1 x,lent⟩) 1 f_ 2=s_ (I J x.m):=(rfl)
theorem Nj(lent:Bool)(x:Ins):DJ (s_ ⟨f_,1,D1 x,lent⟩) 3 t_ 0=s_ (Dk x):=(rfl)
theorem Ju(st:St)(x:Ins):FL st 3 t_ (.eptr (Dk x) 0)=s_ (Dk x):=(rfl)
theorem P0(st:St)(x:Ins):Ej st (Dk x)=s_ (Dk x):=(rfl)
theorem Vq(x:Ins):keys (Dk x)=[]:=(rfl)
theorem Nn(st:St)(c:List Ins)(t:Bool)(i:Nat)(h:i<c.length):GK st 3 (O (nz 3 (c.map Dk)) (c.map Dk) t) (I J (i:Int))=s_ (.eptr (Dk (c.getD i default)) 0):=by have:=KO st 3 Dk c t J (i:Int) (by omega) (by omega);simpa using this
theorem RF(st:St)(c:List Int)(t:Bool)(i:Nat)(h:i<c.length):GK st 1 (O (nz 1 (c.map nI)) (c.map nI) t) (I J (i:Int))=s_ (.eptr (nI (c.getD i default)) 0):=by have:=KO st 1 nI c t J (i:Int) (by omega) (by omega);simpa using this
theorem KK(st:St)(n:Int):FL st 1 f_ (.eptr (nI n) 0)=s_ (I J n):=(rfl)
theorem Yc1(n:Int):Ed [I J 0,I J 0,O 0 [] t_,O 0 [] t_] [(0,1,I J 1),(1,1,I J n)]=s_ [I J 1,I J n,O 0 [] t_,O 0 [] t_]:=(rfl)
theorem Yc4(k:Nat):Ed [I J 0,I J 0,O 0 [] t_,O 0 [] t_] [(0,1,I J 2),(2,1,.bsl k 0 32 1 f_)]=s_ [I J 2,I J 0,.bsl k 0 32 1 f_,O 0 [] t_]:=(rfl)
theorem Yc2(sz:Nat)(l:List D)(t:Bool):Ed [I J 0,I J 0,O 0 [] t_,O 0 [] t_] [(0,1,I J 3),(3,1,O sz l t)]=s_ [I J 3,I J 0,O 0 [] t_,O sz l t]:=(rfl)
theorem Ti(a b c d:D):Eb (s_ ⟨f_,1,[I J 0,I J 0,O 0 [] t_,O 0 [] t_],f_⟩) 4 0 (U [a,b,c,d])=if [a,b,c,d].all D.isCell then s_ ⟨f_,1,[a,b,c,d],f_⟩else none:=by simp only[Eb];rfl
theorem MK(lent:Bool)(a b c d:D):DJ (s_ ⟨f_,1,[a,b,c,d],lent⟩) 4 t_ 0=s_ (U [a,b,c,d]):=(rfl)
theorem Ydh(k o n s:Nat)(ag:Bool):(D.bsl k o n s ag).isCell=t_:=(rfl)
def TD:List D→Option D:=Dq (α:=Int) (fun a=>[I J a]) (fun a=>True) (fun a=>Dn (.int a))
theorem T6(n:Int):TD [I J n]=s_ (Dn (.int n)):=
 DK (fun a b h=>by simp only[Aa,D.int.injEq,true_and,and_true]at h; simp[h]) (n) trivial
theorem YGr(n:Int):@wW GG (tb [] []) Zr.code (Dm [I J n]) [] ⟨Ds Zr.res (Dn (.int n))⟩:=by
 unfold Zr;rw[Ml]
 push_cast(disch:=lia)[QH,Yc1,Ti,MK]
 rfl
theorem gH:Contract Tryz.prog GG 145 TD:=
 DM yNy (DD all_nil all_nil) (fun a h=>YGr a)
def Vn:List D→Option D:=Dq (α:=Dig) (fun a=>[Dl a]) (fun a=>True) (fun a=>Dn (.bytes a.bs))
theorem mN(d:Dig):Vn [Dl d]=s_ (Dn (.bytes d.bs)):=
 DK (fun a b h=>by simp only[Aa,Kt,and_true]at h; simp[h]) (d) trivial
theorem YGx(d:Dig):@wW GG (tb [] []) Y7.code (Dm [Dl d]) [] ⟨Ds Y7.res (Dn (.bytes d.bs))⟩:=by
 unfold Y7;rw[Mq]
 push_cast(disch:=lia)[QH,n7,Yc4,Ti,MK,Ydh,wH]
 rfl
theorem pR:Contract Tryz.prog GG 142 Vn:=
 DM yR1 (DD all_nil all_nil) (fun a h=>YGx a)
def OV:List D→Option D:=Dq (α:=List Val) (fun a=>[O (nz 4 (a.map Dn)) (a.map Dn) f_]) (fun a=>True) (fun a=>Dn (.list a))
theorem fB(l:List Val):OV [O (nz 4 (l.map Dn)) (l.map Dn) f_]=s_ (Dn (.list l)):=
 DK (fun a b h=>by simp only[Aa,D.slc.injEq,and_true,mB]at h; simp[h]) (l) trivial
theorem YGs(l:List Val):@wW GG (tb [] []) YU.code (Dm [O (nz 4 (l.map Dn)) (l.map Dn) f_]) [] ⟨Ds YU.res (Dn (.list l))⟩:=by
 unfold YU;rw[NA]
 push_cast(disch:=lia)[QH,Yc2,Ti,MK]
 rfl
theorem gG:Contract Tryz.prog GG 141 OV:=
 DM yWb (DD all_nil all_nil) (fun a h=>YGs a)
def TC:List D→Option D:=Dq (α:=List UInt8×Val) (fun a=>[.str a.1,Dn a.2]) (fun a=>a.1.length≤1000∧DX a.2≤16∧(Dz a.2).length≤4294967000) (fun a=>Dl (Le a.1 a.2))
theorem fA(t:List UInt8)(v:Val)(h:t.length≤1000∧DX v≤16∧(Dz v).length≤4294967000):TC [.str t,Dn v]=s_ (Dl (Le t v)):=
 DK (fun⟨a0,a1⟩ ⟨b0,b1⟩ h=>by simp only[Aa,D.str.injEq,and_true,Ou]at h; simp[h]) (t,v) h
theorem YGu(t:List UInt8)(v:Val)(h:t.length≤1000∧DX v≤16∧(Dz v).length≤4294967000):@wW GG (tb [(167,nh),(62,SJ)] []) Zq.code (Dm [.str t,Dn v]) [] ⟨Ds Zq.res (Dl (Le t v))⟩:=by
 unfold Zq Le;have E:=yZ0 v h.2
 have hl:(H9 v).length≤65536:=by
  unfold H9
  split
  ·assumption
  ·simp
 have h2:=ot t (H9 v) (by omega);obtain⟨k,n,B,M,hC,N⟩:=LV v;rw[N]at E;rw[N]
 push_cast(disch:=lia)[Jo,Ka,NL,QN,E,LI,h2]
theorem gF:Contract Tryz.prog GG 140 TC:=
 DM yNz (DD (all_cons Yw9 (all_cons kW all_nil)) all_nil) (fun a h=>YGu a.1 a.2 h)
theorem xn(c:List Ins)(x:Ins):JP (c++[x])=YJx (JP c) x:=by unfold JP; rw[List.foldl_append]; rfl
theorem Ybf(d:Dig)(x:Ins):T0.length≤1000∧DX (.list [.int x.op,.int x.n,.int x.m,.bytes d.bs])≤16∧(Dz (.list [.int x.op,.int x.n,.int x.m,.bytes d.bs])).length≤4294967000:=by have E:=Lk x.op;have M:=Lk x.n;have N:=Lk x.m;have h4:=P5 d;refine⟨by decide,by simp[DX,HL],?_⟩;rw[LU];simp only[Ak,Ac,Ar,Au,BE];omega
theorem YKl(a b c d:Val):FP 4 [Dn a,Dn b,Dn c,Dn d]=s_ (O 4 [Dn a,Dn b,Dn c,Dn d] t_):=ep [a,b,c,d] (by simp)
theorem WX(a b c d:Val):OV [O 4 [Dn a,Dn b,Dn c,Dn d] f_]=s_ (Dn (.list [a,b,c,d])):=fB [a,b,c,d]
theorem gd(a b:Val):FP 4 [Dn a,Dn b]=s_ (O 4 [Dn a,Dn b] t_):=ep [a,b] (by simp)
theorem YKg(a b:Val):OV [O 4 [Dn a,Dn b] f_]=s_ (Dn (.list [a,b])):=fB [a,b]
theorem YKk(a b c d e f g h:Val):FP 4 [Dn a,Dn b,Dn c,Dn d,Dn e,Dn f,Dn g,Dn h]=s_ (O 4 [Dn a,Dn b,Dn c,Dn d,Dn e,Dn f,Dn g,Dn h] t_):=ep [a,b,c,d,e,f,g,h] (by simp)
theorem WW(a b c d e f g h:Val):OV [O 4 [Dn a,Dn b,Dn c,Dn d,Dn e,Dn f,Dn g,Dn h] f_]=s_ (Dn (.list [a,b,c,d,e,f,g,h])):=fB [a,b,c,d,e,f,g,h]
def kr:List D→Option D:=Dq (α:=List Ins) (fun a=>[O (nz 3 (a.map Dk)) (a.map Dk) f_]) (fun a=>a.length≤4294967296) (fun a=>Dl (JP a))
theorem Yoq(c:List Ins)(h:c.length≤4294967296):kr [O (nz 3 (c.map Dk)) (c.map Dk) f_]=s_ (Dl (JP c)):=
 DK (fun a b h=>by simp only[Aa,D.slc.injEq,and_true,Ha]at h; simp[h]) (c) h
theorem YGq(c:List Ins)(h:c.length≤4294967296):@wW GG (tb [(145,TD),(142,Vn),(141,OV),(140,TC)] []) ZA.code (Dm [O (nz 3 (c.map Dk)) (c.map Dk) f_]) [] ⟨Ds ZA.res (Dl (JP c))⟩:=by
 unfold ZA
 push_cast(disch:=lia)
 refine E0 (fun i:Nat=>[(2,Y 0 0),(5,O (nz 3 (c.map Dk)) (c.map Dk) f_),(6,I J (c.length:Int)),(7,I J (i:Int))])
  (fun i=>[⟨f_,1,Dj (JP (c.take i)),f_⟩]) (fun i=>i≤c.length) (fun i=>c.length - i) 0 (by push_cast [↓CX] <;> rfl) (by omega) ?_
 intro i hi;unfold se
 push_cast(disch:=lia)
 refine Ew (fun h2=>?_) (fun h2=>?_)
 ·have E:i<c.length:=by omega
  have N:=Nn [⟨f_,1,Dj (JP (c.take i)),f_⟩] c f_ i E;have M:=Lw c E;obtain⟨x,aa⟩:∃ x,c.getD i default=x:=⟨_,rfl⟩;rw[aa]at N M;have hh:=fA T0 (.list [.int x.op,.int x.n,.int x.m,.bytes (JP (c.take i)).bs]) (Ybf _ _);simp only[T0]at hh
  push_cast(disch:=lia)[N,Ju,LR,Oe,EU,GP,MU,T6,mN,No,Ns,YKl,WX,hh,DQ]
  refine EB (i+1) (by omega) (by omega) ?_;rw[M,xn]
  push_cast <;> rfl
 ·obtain rfl:i=c.length:=by omega
  rw[show(c.take c.length)=c from AR]
  push_cast(disch:=lia)
theorem YMz:Contract Tryz.prog GG 143 kr:=
 DM yLc (DD (all_cons gH (all_cons pR (all_cons gG (all_cons gF all_nil)))) all_nil) (fun a h=>YGq a h)
theorem wN(d:Dig)(l:List Int)(n:Int):Hy d (l++[n])=YJ0 (Hy d l) n:=by unfold Hy; rw[List.foldl_append]; rfl
theorem Ybs(d:Dig)(n:Int):My.length≤1000∧DX (.list [.int n,.bytes d.bs])≤16∧(Dz (.list [.int n,.bytes d.bs])).length≤4294967000:=by have E:=Lk n;have M:=P5 d;refine⟨by decide,by simp[DX,HL],?_⟩;rw[LU];simp only[Ak,Ac,Ar,Au,BE];omega
def eQ:List D→Option D:=Dq (α:=Dig×List Int) (fun a=>[Dl a.1,O (nz 1 (a.2.map nI)) (a.2.map nI) f_]) (fun a=>a.2.length≤4294967296) (fun a=>Dl (Hy a.1 a.2))
theorem wv(d:Dig)(l:List Int)(h:l.length≤4294967296):eQ [Dl d,O (nz 1 (l.map nI)) (l.map nI) f_]=s_ (Dl (Hy d l)):=
 DK (fun⟨a0,a1⟩ ⟨b0,b1⟩ h=>by simp only[Aa,D.slc.injEq,Kt,and_true,P8]at h; simp[h]) (d,l) h
theorem Yzr(d:Dig)(l:List Int)(h:l.length≤4294967296):@wW GG (tb [(145,TD),(142,Vn),(141,OV),(140,TC)] []) YV.code (Dm [Dl d,O (nz 1 (l.map nI)) (l.map nI) f_]) [] ⟨Ds YV.res (Dl (Hy d l))⟩:=by
 unfold YV
 push_cast(disch:=lia)
 refine E0 (fun i:Nat=>[(2,Y 0 0),(4,Y 1 0),(7,O (nz 1 (l.map nI)) (l.map nI) f_),(8,I J (l.length:Int)),(9,I J (i:Int))])
  (fun i=>[⟨f_,1,Dj (Hy d (l.take i)),f_⟩,⟨f_,1,Dj DH,f_⟩]) (fun i=>i≤l.length) (fun i=>l.length - i) 0 (by push_cast [↓CX] <;> rfl) (by omega) ?_
 intro i hi;unfold yE
 push_cast(disch:=lia)
 refine Ew (fun h2=>?_) (fun h2=>?_)
 ·have E:i<l.length:=by omega
  have N:=RF [⟨f_,1,Dj (Hy d (l.take i)),f_⟩,⟨f_,1,Dj DH,f_⟩] l f_ i E;have M:=Lw l E;obtain⟨x,aa⟩:∃ x,l.getD i default=x:=⟨_,rfl⟩;rw[aa]at N M;have hh:=fA My (.list [.int x,.bytes (Hy d (l.take i)).bs]) (Ybs _ _);simp only[My]at hh
  push_cast(disch:=lia)[N,KK,T6,mN,No,Ns,gd,YKg,hh,DQ]
  refine EB (i+1) (by omega) (by omega) ?_;rw[M,wN]
  push_cast <;> rfl
 ·obtain rfl:i=l.length:=by omega
  rw[show(l.take l.length)=l from AR]
  push_cast(disch:=lia)
theorem Yp5:Contract Tryz.prog GG 146 eQ:=
 DM yWa (DD (all_cons gH (all_cons pR (all_cons gG (all_cons gF all_nil)))) all_nil) (fun a h=>Yzr a.1 a.2 h)
def ku:List D→Option D:=Dq (α:=List Int) (fun a=>[O (nz 1 (a.map nI)) (a.map nI) f_]) (fun a=>a.length≤4294967296) (fun a=>Dl (Hy DH a))
theorem Yop(l:List Int)(h:l.length≤4294967296):ku [O (nz 1 (l.map nI)) (l.map nI) f_]=s_ (Dl (Hy DH l)):=
 DK (fun a b h=>by simp only[Aa,D.slc.injEq,and_true,P8]at h; simp[h]) (l) h
theorem YGp(l:List Int)(h:l.length≤4294967296):@wW GG (tb [(146,eQ)] []) Y5.code (Dm [O (nz 1 (l.map nI)) (l.map nI) f_]) [] ⟨Ds Y5.res (Dl (Hy DH l))⟩:=by
 unfold Y5;have hc:=wv DH l h
 push_cast(disch:=lia)[hc]
theorem YMy:Contract Tryz.prog GG 96 ku:=
 DM yR3 (DD (all_cons Yp5 all_nil) all_nil) (fun a h=>YGp a h)
theorem Yml(v:Int×List Int)(h:v.2.length=16):Mz.length≤1000∧DX (.list [.int v.1,.list (v.2.map .int)])≤16∧(Dz (.list [.int v.1,.list (v.2.map .int)])).length≤4294967000:=by
 have N:=Lk v.1;have h4:=uH v.2
 have E:∀ l:List Int,HL (l.map .int)=0:=by
  intro l
  induction l with
  |nil=>simp[HL]
  |cons a l M=>simp[HL,DX,M]
 refine⟨by decide,by simp[DX,HL,E],?_⟩;rw[LU];simp only[Ak,Ac,Ar,Au,BE,LU];omega
theorem mY(l:List Int):(l.map nI).all D.isCell=t_:=ft nI (fun _=>rfl) l
theorem Ro(l:List Int):(l.map nI).all EY=t_:=by rw[Ah];intro x E;obtain⟨n,_,rfl⟩:=A1.1 E;rfl
theorem lI(v:Int×List Int):Ev v=(v.1::v.2).map nI:=(rfl)
theorem D5(v:Int×List Int):D4 (D6 v)=s_ (Ev v):=by rw[show D4 (D6 v)=if(Ev v).all D.isCell then s_ (Ev v)else none from rfl,lI,if_pos (mY _)]
theorem Fa(st:St)(v:Int×List Int):Ej st (D6 v)=s_ (D6 v):=O8 st (Ro (v.1::v.2))
theorem GO(v:Int×List Int):keys (D6 v)=[]:=Ql (Ro (v.1::v.2))
theorem gM(v:Int×List Int):(Ev v).flatMap hk=[]:=Ov (Ro (v.1::v.2))
theorem cY(m:Nat)(σ:List Nat)(v:Int×List Int):(Ev v).map (EO m σ)=Ev v:=NB m σ (Ro (v.1::v.2))
variable {v:Int×List Int}
theorem Fu(h:v.2.length=16)(sz:Nat)(lent:Bool):DJ (s_ ⟨f_,sz,Ev v,lent⟩) 17 t_ 0=s_ (D6 v):=LP sz lent _ 17 (by simp[Ev,h])
theorem S4(v:Int×List Int)(sz:Nat)(lent:Bool):DJ (s_ ⟨f_,sz,Ev v,lent⟩) 1 f_ 0=s_ (I J v.1):=JW (A:=[]) (C:=v.2.map nI) rfl rfl
theorem YKr(h:v.2.length=16)(sz:Nat)(lent:Bool):DJ (s_ ⟨f_,sz,Ev v,lent⟩) 16 t_ 1=s_ (U (v.2.map nI)):=Mf (A:=[I J v.1]) (B:=v.2.map nI) (C:=[]) (by simp[Ev]) rfl (by simp[h])
theorem YDu(l:List Int)(i:Nat)(h:i<l.length):Qw l.length 1 f_ (U (l.map nI)) (I J (i:Int))=s_ (nI (l.getD i default)):=by
 have E:Gk (I J (i:Int))=s_ i:=by simp[Gk]
 simp only[Qw,E,if_pos h,BO];refine Ynn (A:=(l.take i).map nI) (C:=(l.drop (i+1)).map nI) ?_ (by simp; omega);rw[← Aw,← Bm]
 congr 1
 have:l=l.take i++l.drop i:=(Bu _ _).symm;rw[Bf h]at this;rw[Ai,Aj h];exact this
theorem zM(a:Val):FP 4 [Dn a]=s_ (O 4 [Dn a] t_):=ep [a] (by simp)
theorem Ymz(l:List Int):hk (U (l.map nI))=[]:=VL (Ro l)
theorem Ya6(m:Nat)(σ:List Nat)(l:List Int):EO m σ (U (l.map nI))=U (l.map nI):=Rj m σ (Ro l)
def kn:List D→Option D:=Dq (α:=(Int×List Int)) (fun a=>[D6 a]) (fun a=>a.2.length=16) (fun a=>Dl (Iq a))
theorem Yor(v:Int×List Int)(h:v.2.length=16):kn [D6 v]=s_ (Dl (Iq v)):=
 DK (fun a b h=>by simp only[Aa,and_true,Hz]at h; simp[h]) (v) h
theorem YGt(v:Int×List Int)(h:v.2.length=16):@wW GG (tb [(145,TD),(141,OV),(140,TC)] []) Zp.code (Dm [D6 v]) [] ⟨Ds Zp.res (Dl (Iq v))⟩:=by
 unfold Zp;have hh:=fA Mz (.list [.int v.1,.list (v.2.map .int)]) (Yml v h);simp only[Mz]at hh
 push_cast(disch:=lia)[D5,YKr h]
 refine E0 (fun i:Nat=>[(1,Y 0 0),(2,Y 1 0),(3,DY 0 2 ((v.2.take i).map (Dn ∘ Val.int))),(7,U (v.2.map nI)),(8,I J (i:Int))])
  (fun i=>⟨f_,1,Ev v,f_⟩::⟨f_,1,Dj DH,f_⟩::DC 4 ((v.2.take i).map (Dn ∘ Val.int))) (fun i=>i≤16) (fun i=>16 - i) 0 (by push_cast [↓CX,gM,cY,Ymz,Ya6] <;> rfl) (by omega) ?_
 intro i hi;unfold rZ
 push_cast(disch:=lia)
 refine Ew (fun h2=>?_) (fun h2=>?_)
 ·have N:i<v.2.length:=by omega
  have hx:=YDu v.2 i N;rw[h]at hx;have aa:=Lw v.2 N;obtain⟨x,ab⟩:∃ x,v.2.getD i default=x:=⟨_,rfl⟩;rw[ab,show nI x=I J x from rfl]at hx;rw[ab]at aa;have M:=jw (f:=Dn ∘ Val.int) (sz:=4) (sz0:=0) (bytes:=64) (A:=v.2.take i) (x:=x) (t:=t_) (a:=⟨f_,1,Ev v,f_⟩) (b:=⟨f_,1,Dj DH,f_⟩) (hs0:=by decide) (hb:=by rw[AA]; omega) (hl:=by rw[AA]; omega);simp only[Function.comp_apply]at M
  push_cast(disch:=lia)[hx,T6,No,Ns,zM,M,DQ]
  refine EB (i+1) (by omega) (by omega) ?_;rw[aa]
  push_cast [gM,cY,Ymz,Ya6] <;> rfl
 ·obtain rfl:i=16:=by omega
  rw[show(v.2.take 16)=v.2 from AL (by omega)];have hb:Ej (⟨f_,1,Ev v,f_⟩::⟨f_,1,Dj DH,f_⟩::DC 4 (v.2.map (Dn ∘ Val.int))) (DY 0 2 (v.2.map (Dn ∘ Val.int)))=s_ (O (nz 4 (v.2.map (Dn ∘ Val.int))) (v.2.map (Dn ∘ Val.int)) f_):=pU _ _ 4 0 _;have hl:=fB (v.2.map Val.int);rw[CG]at hl
  have E:v.2.map (Dn ∘ Val.int)≠[]:=by
   intro e;have:=congrArg List.length e;simp[h]at this
  rw[Mc _ _ _ E,LO _ _ E]at hb
  push_cast(disch:=lia)[↓CX,Mc _ _ _ E,LO _ _ E,vz,S4,T6,No,Ns,hl,gd,YKg,hh]
  rfl
theorem YM0:Contract Tryz.prog GG 144 kn:=
 DM yN0 (DD (all_cons gH (all_cons gG (all_cons gF all_nil))) all_nil) (fun a h=>YGt a h)
