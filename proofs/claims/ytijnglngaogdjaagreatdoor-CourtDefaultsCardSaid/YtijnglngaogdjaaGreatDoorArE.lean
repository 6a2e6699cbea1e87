/-
  tvm: openings and their digests.
  Conditions: none; these are lemmas.
-/
import Derived.Test.YtijnglngaogdjaaGreatDoorFns
import Derived.Test.YtijnglngaogdjaaGreatDoorEngB2
import Derived.Test.YtijnglngaogdjaaGreatDoorSha
import Derived.WideKeyElems2
import Derived.LaidMore
import Derived.LaidHandle
import Derived.FnData
import Derived.KernelRfl
import Derived.Test.YtijnglngaogdjaaGreatDoorEngHe
open BitVec renaming ofInt→CF
open Int renaming reduceAdd→CN,reduceLE→CQ,reduceLT→CH,reduceMul→CV,reduceNatCast'→CA,reduceNeg→Cz,reducePow→CO,reduceSub→CP,reduceToNat→CI
open List renaming range→CG,replicate→CD
open Nat renaming reduceAdd→Cy,reduceBEq→CR,reduceEqDiff→Cx,reduceLT→CE,reduceLeDiff→CC,reduceMul→CB
open UInt64 renaming ofNat→CU
open UInt8 renaming ofNat→CJ
set_option linter.unusedVariables false
set_option linter.unusedSimpArgs false
namespace Go.Proofs.YtijnglngaogdjaaGreatDoor.PI
open Go
set_option linter.unusedSimpArgs false
set_option linter.unusedVariables false
def EP:List (Int×Nat):=[(3,231),(4,232),(5,233),(6,234),(7,235),(8,236),(9,238),(10,239),(11,240)]
def GG:C9:=fun n=>if n=0 then some (.gmap EP)else Py 1 .u32 (Sha.K.map fun x=>(x.toNat:Int)) n
theorem FQ:GG 0=some (.gmap EP):=rfl
theorem hX:GG 1=some (.agg (Sha.K.map wD)):=rfl
theorem Vv(k:Int):Dd .and (.int .u64 (IntKind.wrap .u64 k)) (.int .u64 31)=some (.int .u64 ((k % 32).toNat:Int)):=by
 have h:(CF (IntKind.bits .u64) (IntKind.wrap .u64 k) &&& CF (IntKind.bits .u64) 31).toNat=(k % 32).toNat:=by
  show(CF 64 (IntKind.wrap .u64 k) &&& CF 64 31).toNat=_
  rw[Ct,show(CF 64 31).toNat=2 ^ 5 - 1 from rfl,BE,BitVec.toNat_ofInt];simp[IntKind.wrap,IntKind.signed,IntKind.bits];omega
 simp only[Dd,if_true,Kh,Ag,h,R4]
 congr 2
 omega
noncomputable def du:List D→Option D:=Dc (α:=UInt32×Int) (fun a=>[wD a.1,.int .i64 a.2]) (fun a=>-31≤a.2∧a.2≤-1) (fun a=>wD (Sha.rotr a.1 (-a.2).toNat))
theorem nD(x:UInt32)(k:Int)(h:-31≤k∧k≤-1):du [wD x,.int .i64 k]=some (wD (Sha.rotr x (-k).toNat)):=
 DW (fun⟨a0,a1⟩ ⟨b0,b1⟩ h=>by simp only[Aa,D.int.injEq,Ych,true_and,and_true]at h; simp[h]) (x,k) h
set_option maxHeartbeats 4000000 in
set_option maxRecDepth 20000 in
theorem Yra(x:UInt32)(k:Int)(h:-31≤k∧k≤-1):@wW GG (tb [] []) X7.code (C3 [wD x,.int .i64 k]) [] ⟨Df X7.res (wD (Sha.rotr x (-k).toNat))⟩:=by
 obtain⟨O,U⟩:=h;have E:∃ s:Nat,(k % 32).toNat=s∧0<s∧s<32∧(-k).toNat=32 - s:=⟨(k % 32).toNat,rfl,by omega,by omega,by omega⟩;obtain⟨s,I,V,J,M⟩:=E
 have e:Dd .sub (.int .u64 32) (.int .u64 (s:Int))=some (.int .u64 ((32 - s:Nat):Int)):=by
  simp only[Dd,if_true,JI,Ag];rw[show(32 - (s:Int))=((32 - s:Nat):Int) by omega,R4,A4 (by omega)]
 have hc:∀ st,E7 st (.int .u64) (.int .i64 k)=some (.int .u64 (IntKind.wrap .u64 k)):=fun _=>rfl
 have N:Sha.rotr x (32 - s)=x <<< UInt32.ofNat s ||| x >>> UInt32.ofNat (32 - s):=by
  unfold Sha.rotr;grind
 unfold X7;simp only[push_cast,↓reduceIte,Cx,hc,Vv,I,e,rR _ _ _ J,rT x .u64 (32 - s) (by omega),Ue,M,N]
theorem Yvm:Contract Tryz.prog GG 187 du:=
 D8 vj (DA all_nil all_nil) (fun a h=>Yra a.1 a.2 h)
def GS(b:List UInt8)(i:Nat):List UInt32:=Sha.sch b i++CD (64 - i) 0
theorem iB(b:List UInt8)(i:Nat)(h:i≤64):(GS b i).length=64:=by
 simp[GS,Sha.sch_length]; omega
theorem Ydt(b:List UInt8)(i j:Nat)(h:j<i):(GS b i).getD j default=(Sha.sch b i).getD j 0:=by
 have E:j<(Sha.sch b i).length:=by rw[Sha.sch_length]; exact h
 simp[GS,Ao,At E,E]
theorem nt(b:List UInt8)(i:Nat)(v:UInt32)(h:i<64)(hv:Sha.sch b (i+1)=Sha.sch b i++[v]):(GS b i).set i v=GS b (i+1):=by
 have E:(Sha.sch b i).length=i:=Sha.sch_length b i;unfold GS;rw[hv,Ca _ _ (by omega),E,BK,show 64 - i=(64 - (i+1))+1 by omega,BT,Bn,Ah];rfl
theorem Ysk(b:List UInt8)(i:Nat)(h:i<16):Sha.sch b (i+1)=Sha.sch b i++[Sha.word b i]:=by
 simp[Sha.sch,h]
theorem Ysl(b:List UInt8)(i:Nat)(h:16≤i):Sha.sch b (i+1)=Sha.sch b i++[(Sha.sch b i).getD (i - 16) 0+Sha.sig0 ((Sha.sch b i).getD (i - 15) 0)+(Sha.sch b i).getD (i - 7) 0+Sha.sig1 ((Sha.sch b i).getD (i - 2) 0)]:=by
 simp[Sha.sch,Nat.not_lt.2 h]
theorem gj(s t:Sha.St8)(i:Nat)(h:i<8):(((s.add t).list.take i++s.list.drop i).set i (((s.add t).list.take i++s.list.drop i).getD i default+t.list.getD i default))=(s.add t).list.take (i+1)++s.list.drop (i+1):=by
 rcases i with _ | _ | _ | _ | _ | _ | _ | _ | i <;> first | rfl | omega
noncomputable def eV:List D→Option D:=Dc (α:=Sha.St8×List UInt8) (fun a=>[.agg (Sha.St8.list a.1 |>.map wD),.slc (nz 1 (a.2.map Da)) (a.2.map Da) false]) (fun a=>a.2.length=64) (fun a=>.agg ((Sha.block a.1 a.2).list.map wD))
theorem pK(s:Sha.St8)(b:List UInt8)(h:b.length=64):eV [.agg (Sha.St8.list s |>.map wD),.slc (nz 1 (b.map Da)) (b.map Da) false]=some (.agg ((Sha.block s b).list.map wD)):=
 DW (fun⟨a0,a1⟩ ⟨b0,b1⟩ h=>by simp only[Aa,D.slc.injEq,D.agg.injEq,nY,yu,Sha.St8.list_iff,and_true]at h; simp[h]) (s,b) h
set_option maxHeartbeats 4000000 in
set_option maxRecDepth 20000 in
theorem Ykq(s:Sha.St8)(b:List UInt8)(h:b.length=64):@wW GG (tb [(187,du)] []) Xx.code (C3 [.agg (Sha.St8.list s |>.map wD),.slc (nz 1 (b.map Da)) (b.map Da) false]) [] ⟨Df Xx.res (.agg ((Sha.block s b).list.map wD))⟩:=by
 unfold Xx;simp only[push_cast,Cy]
 refine Gy (fun i:Nat=>[(1,.slc (nz 1 (b.map Da)) (b.map Da) false),(2,.ptr 0 0),(4,.ptr 1 0),(5,.ptr 2 0),(19,.int .i64 (i:Int))])
  (fun i=>[⟨false,1,s.list.map wD,false⟩,⟨false,1,(zW 8).map wD,false⟩,⟨false,1,(GS b i).map wD,false⟩]) (fun i=>i≤16) (fun i=>16 - i) 0 (by simp only[push_cast,↓reduceIte,Cx,CE,CC,Cy,↓CA] <;> rfl) (by omega) ?_
 intro i hi;unfold jz;simp only[push_cast,↓reduceIte,Cx];refine E4 (fun U=>?_) (fun U=>?_)
 ·have O:i<16:=by omega
  have E:(4*(i:Int)).toNat=4*i:=by omega
  have I:(4*(i:Int)+1).toNat=4*i+1:=by omega
  have J:(4*(i:Int)+2).toNat=4*i+2:=by omega
  have M:(4*(i:Int)+3).toNat=4*i+3:=by omega
  have hl:(GS b i).length=64:=iB b i (by omega);have hw:=nt b i (Sha.word b i) (by omega) (Ysk b i O);simp (disch:=omega) only[push_cast,↓reduceIte,Cx,CE,CC,Cy,CI,Mw,DL,Lh,Yo6,Ysh,Ue,NW,E,I,J,M];refine Fb (i+1) (by omega) (by omega) ?_;rw[← hw];rfl
 ·obtain rfl:i=16:=by omega
  simp only[push_cast,↓reduceIte,Cy,CH,↓CA]
  refine Gy (fun i:Nat=>[(2,.ptr 0 0),(4,.ptr 1 0),(5,.ptr 2 0),(7,.int .i64 (i:Int))])
   (fun i=>[⟨false,1,s.list.map wD,false⟩,⟨false,1,(zW 8).map wD,false⟩,⟨false,1,(GS b i).map wD,false⟩]) (fun i=>16≤i∧i≤64) (fun i=>64 - i) 16 (by simp only[push_cast,↓reduceIte,Cx,CE,CC,Cy,↓CA] <;> rfl) (by omega) ?_
  intro i hi;unfold jA;simp only[push_cast,↓reduceIte,Cx,Cz];refine E4 (fun V=>?_) (fun V=>?_)
  ·have hl:(GS b i).length=64:=iB b i (by omega);have hw:=nt b i _ (by omega) (Ysl b i (by omega));have E:((i:Int) - 15).toNat=i - 15:=by omega
   have I:((i:Int) - 2).toNat=i - 2:=by omega
   have J:((i:Int) - 16).toNat=i - 16:=by omega
   have M:((i:Int) - 7).toNat=i - 7:=by omega
   simp (disch:=omega) only[push_cast,↓reduceIte,Cx,CE,CC,Cy,CI,Cz,Fa,DL,NW,nD,rZ,s9,gr,E,I,J,M,Ydt];refine Fb (i+1) (by omega) (by omega) ?_;rw[← hw];rfl
  ·obtain rfl:i=64:=by omega
   have N:GS b 64=Sha.sch b 64:=by simp[GS]
   have hl:(Sha.sch b 64).length=64:=Sha.sch_length b 64;have ac:s.list.length=8:=rfl;have ad:(zW 8).length=8:=rfl;simp (disch:=first | omega | rfl) only[push_cast,↓reduceIte,Cx,Cy,CH,Cz,↓CA,N]
   refine Gy (fun i:Nat=>[(2,.ptr 0 0),(4,.ptr 1 0),(5,.ptr 2 0),(12,.ptr 3 0),(102,.int .i64 (i:Int))])
    (fun i=>[⟨false,1,s.list.map wD,false⟩,⟨false,1,(zW 8).map wD,false⟩,⟨false,1,(Sha.sch b 64).map wD,false⟩,⟨false,1,(Sha.rounds (Sha.sch b 64) s i).list.map wD,false⟩]) (fun i=>i≤64) (fun i=>64 - i) 0 (by simp only[push_cast,↓reduceIte,Cx,CE,CC,Cy,↓CA] <;> rfl) (by omega) ?_
   intro i hi;unfold jB;simp only[push_cast,↓reduceIte,Cx,Cz];refine E4 (fun Y=>?_) (fun Y=>?_)
   ·have hK:Sha.K.length=64:=rfl;have hn:Sha.rounds (Sha.sch b 64) s (i+1)=Sha.round (Sha.rounds (Sha.sch b 64) s i) (Sha.K.getD i 0) ((Sha.sch b 64).getD i 0):=rfl;generalize Sha.rounds (Sha.sch b 64) s i=r at hn;simp (disch:=omega) only[push_cast,↓reduceIte,Cx,CE,CC,Cy,CI,Cz,Sha.St8.list,NW,wi,I2 _ _ _ _ hX,nD,rZ,Vu,Uj,gr,DL];refine Fb (i+1) (by omega) (by omega) ?_;rw[hn];rfl
   ·obtain rfl:i=64:=by omega
    have hb:Sha.block s b=s.add (Sha.rounds (Sha.sch b 64) s 64):=rfl;rw[hb];generalize Sha.rounds (Sha.sch b 64) s 64=r;simp only[push_cast,↓reduceIte,Cy,CH,Cz,↓CA]
    refine Gy (fun i:Nat=>[(2,.ptr 0 0),(4,.ptr 1 0),(12,.ptr 3 0),(182,.int .i64 (i:Int))])
     (fun i=>[⟨false,1,((s.add r).list.take i++s.list.drop i).map wD,false⟩,⟨false,1,(zW 8).map wD,false⟩,⟨false,1,(Sha.sch b 64).map wD,false⟩,⟨false,1,r.list.map wD,false⟩]) (fun i=>i≤8) (fun i=>8 - i) 0 (by simp only[push_cast,↓reduceIte,Cx,CE,CC,Cy,↓CA] <;> rfl) (by omega) ?_
    intro i hi
    have ae:((s.add r).list.take i++s.list.drop i).length=8:=by
     simp only[Ab,AQ,AX,Sha.St8.list_length]; omega
    have af:r.list.length=8:=rfl;unfold jC;simp only[push_cast,↓reduceIte,Cx];refine E4 (fun h4=>?_) (fun h4=>?_)
    ·have ha:=gj s r i (by omega);simp (disch:=omega) only[push_cast,↓reduceIte,Cx,CE,CC,Cy,NW,gr,DL];refine Fb (i+1) (by omega) (by omega) ?_;grind
    ·obtain rfl:i=8:=by omega
     have e8:(s.add r).list.take 8++s.list.drop 8=(s.add r).list:=rfl;have ah:(s.add r).list.length=8:=rfl;simp (disch:=first | omega | rfl) only[push_cast,↓reduceIte,Cx,Cy,CH,↓CA,e8]
theorem Ypt:Contract Tryz.prog GG 159 eV:=
 D8 tT (DA (all_cons Yvm all_nil) all_nil) (fun a h=>Ykq a.1 a.2 h)
end Go.Proofs.YtijnglngaogdjaaGreatDoor.PI
namespace Go.Proofs.YtijnglngaogdjaaGreatDoor.PI
open Go Go.WideElems
set_option linter.unusedSimpArgs false
set_option linter.unusedVariables false
def binsD:DataW Unit:=.map [(.int .i64 3,.agg [.iface "func" (.lit (.string [119,97,103,111,110,112,111,111,108,47,109,111,110,101,121,46,65,100,100]))]),(.int .i64 4,.agg [.iface "func" (.lit (.string [119,97,103,111,110,112,111,111,108,47,109,111,110,101,121,46,83,117,98]))]),(.int .i64 5,.agg [.iface "func" (.lit (.string [119,97,103,111,110,112,111,111,108,47,109,111,110,101,121,46,77,117,108]))]),(.int .i64 6,.agg [.iface "func" (.lit (.string [119,97,103,111,110,112,111,111,108,47,116,118,109,46,98,105,110,97,114,105,101,115,36,49]))]),(.int .i64 7,.agg [.iface "func" (.lit (.string [119,97,103,111,110,112,111,111,108,47,116,118,109,46,98,105,110,97,114,105,101,115,36,50]))]),(.int .i64 8,.agg [.iface "func" (.lit (.string [119,97,103,111,110,112,111,111,108,47,116,118,109,46,98,105,110,97,114,105,101,115,36,51]))]),(.int .i64 9,.agg [.iface "func" (.lit (.string [119,97,103,111,110,112,111,111,108,47,116,118,109,46,98,105,110,97,114,105,101,115,36,52]))]),(.int .i64 10,.agg [.iface "func" (.lit (.string [119,97,103,111,110,112,111,111,108,47,116,118,109,46,98,105,110,97,114,105,101,115,36,53]))]),(.int .i64 11,.agg [.iface "func" (.lit (.string [119,97,103,111,110,112,111,111,108,47,116,118,109,46,98,105,110,97,114,105,101,115,36,54]))])]
theorem gB:Tryz.prog.globalNamed "wagonpool/tvm.binaries"=some 0:=by kernel_rfl
theorem tB:(Tryz.prog.globals[0]?).map (·.type)=some 198:=by kernel_rfl
theorem fA:Tryz.prog.underlying 198=some (.map 3 196):=by kernel_rfl
theorem u3:Tryz.prog.underlying 3=some (.int .i64):=by kernel_rfl
def T0:Option TypeDesc→Bool
 |some (.struct fs)=>match fs.toList with
  |[f]=>f.offset == 0 && f.type == 194
  |_=>false
 |_=>false
def UU:Option TypeDesc→Bool
 |some (.func _ _ _)=>true
 |_=>false
theorem TA:T0 (Tryz.prog.underlying 196)=true:=by kernel_rfl
theorem TB:UU (Tryz.prog.underlying 194)=true:=by kernel_rfl
theorem fB:∃ f,Tryz.prog.underlying 196=some (.struct #[f])∧f.offset=0∧f.type=194:=by
 have h:=TA;unfold T0 at h
 split at h
 ·rename_i fs hu
  split at h
  ·rename_i f hf;simp only[Af,beq_iff_eq]at h;have e:fs=#[f]:=Array.ext' hf;subst e;exact⟨f,hu,h.1,h.2⟩
  ·cases h
 ·cases h
theorem Vo:Tryz.prog.cellsOf 196=1:=by kernel_rfl
theorem gd:Tryz.prog.cellsOf 194=1:=by kernel_rfl
theorem fC:∃ E rs I,Tryz.prog.underlying 194=some (.func E rs I):=by
 have h:=TB;unfold UU at h
 split at h
 ·rename_i E rs I hu; exact⟨E,rs,I,hu⟩
 ·cases h
variable {k:Int}{v:Value}
theorem Ytv{P:Program}{t:TypeId}{kd:IntKind}(I:P.underlying t=some (.int kd))(h:keyOf P t v=some (.int kd k)):v=.int kd k:=by
 unfold keyOf mapKey at h;rw[I]at h;simp only at h
 split at h
 ·rename_i E; cases E
 ·rename_i E; simp only[AN,TypeDesc.int.injEq]at E; subst E
  split at h
  ·simp only[AN,Lit.int.injEq]at h;rename_i J;rw[← J.1,h.2]
  ·cases h
 ·rename_i E; cases E
 ·cases h
theorem kN(h:keyOf Tryz.prog 3 v=some (.int .i64 k)):v=.int .i64 k:=Ytv u3 h
theorem oo{k:Int}{f:Nat}:∀ {l:List (Int×Nat)},Fv k l=some f→k∈l.map (·.1)
 |[],h=>by cases h
 |p::r,h=>by
  unfold Fv at h
  split at h
  ·rename_i e; simp[e]
  ·exact Ar _ (oo h)
set_option maxRecDepth 20000 in
theorem MQ{W:World}{n:Nat}{e:MapEntry}{b:UInt8}{r:List UInt8}{f0:FuncId}(N:((CG Tryz.prog.funcs.size).filter fun f=>(Tryz.prog.funcs[f]?).any (·.name.toUTF8.data.toList == b::r))=[f0])
  (h:rd Tryz.prog 3 (elemAt (funcToken Tryz.prog) Tryz.prog W 0 (fun _=>true) true n 196) e=some (.int .i64 k,.agg [.held (b::r)])):e.key=.int .i64 k∧e.val=.agg #[.func (.func f0) #[] #[]]:=by
 constructor
 ·exact kN (rd_key h)
 ·obtain⟨z,J,M⟩:=rd_val h;obtain⟨z1,V⟩:=z;dsimp only at M;subst M;unfold elemAt at J
  split at J
  case isFalse=>cases J
  rename_i E;obtain⟨f,hu,Y,ht⟩:=fB;obtain⟨ps,rs,va,O⟩:=fC
  cases n with
  |zero=>simp[DataW.trod]at J
  |succ n=>
   unfold Value.formed at E;rw[hu,Vo]at E
   cases hv:e.val with
   |agg cs=>
    rw[hv]at J E;simp only[beq_iff_eq]at E
    obtain⟨v,rfl⟩:∃ v,cs=#[v]:=by
     obtain⟨l⟩:=cs
     match l,E with
     |[v],_=>exact⟨v,rfl⟩
    have I:DataW.trod (funcToken Tryz.prog) Tryz.prog W 0 (fun _=>true) true (n+1) 196 [v]=some (.agg [.held (b::r)],V):=J;rw[DataW.trod_step]at I;unfold DataW.trodStep at I;rw[hu]at I;simp[Vo,Y,ht,gd]at I
    obtain⟨q,hq⟩:∃ q,DataW.trod (funcToken Tryz.prog) Tryz.prog W 0 (fun _=>true) true n 194 [v]=some (.held (b::r),q):=by
     rw[Ay]at I;obtain⟨⟨y1,y2⟩,h1,U⟩:=I;simp at U;exact⟨y2,by rw[h1,U.1]⟩
    rw[func_of_trod O N hq]
   |_=>rw[hv]at E; simp at E
def Vz:List (Lit×DataW (List UInt8)):=[(.int .i64 3,.agg [.held [119,97,103,111,110,112,111,111,108,47,109,111,110,101,121,46,65,100,100]]),(.int .i64 4,.agg [.held [119,97,103,111,110,112,111,111,108,47,109,111,110,101,121,46,83,117,98]]),(.int .i64 5,.agg [.held [119,97,103,111,110,112,111,111,108,47,109,111,110,101,121,46,77,117,108]]),(.int .i64 6,.agg [.held [119,97,103,111,110,112,111,111,108,47,116,118,109,46,98,105,110,97,114,105,101,115,36,49]]),(.int .i64 7,.agg [.held [119,97,103,111,110,112,111,111,108,47,116,118,109,46,98,105,110,97,114,105,101,115,36,50]]),(.int .i64 8,.agg [.held [119,97,103,111,110,112,111,111,108,47,116,118,109,46,98,105,110,97,114,105,101,115,36,51]]),(.int .i64 9,.agg [.held [119,97,103,111,110,112,111,111,108,47,116,118,109,46,98,105,110,97,114,105,101,115,36,52]]),(.int .i64 10,.agg [.held [119,97,103,111,110,112,111,111,108,47,116,118,109,46,98,105,110,97,114,105,101,115,36,53]]),(.int .i64 11,.agg [.held [119,97,103,111,110,112,111,111,108,47,116,118,109,46,98,105,110,97,114,105,101,115,36,54]])]
set_option maxRecDepth 20000 in
theorem Ygn{W:World}(h:funcsAt Tryz.prog W "wagonpool/tvm.binaries" binsD):∃ b es clock,W.cell? ⟨0,0,none⟩=some (.map (some b))∧W.heap[b]?=some (.map es clock)∧LV (.map es clock)=true∧cn es EP:=by
 obtain⟨g,t,cs,fuel,p,hg,ht,hv,hd⟩:=h;obtain rfl:=AD (gB.symm.trans hg);obtain rfl:=AD (tB.symm.trans ht);have hd':DataW.trod (funcToken Tryz.prog) Tryz.prog W 0 (fun _=>true) true fuel 198 cs.toList=some (.map Vz,p):=hd;rcases open_map fA hd' with⟨_,hx⟩ | ⟨b,es,clock,n,rfl,hcs,hb,_,F,hx⟩
 ·cases hx
 simp only[AA,DataW.map.injEq]at hx
 have mem:∀ y,y∈Vz↔y∈es.toList.map (rg Tryz.prog 3 (elemAt (funcToken Tryz.prog) Tryz.prog W 0 (fun _=>true) true n 196)):=fun y=>by
  rw[hx.1]; exact(Go.WideShapes.sorted_perm _).mem_iff
 have ent:∀ e∈es.toList,∃ k f,e.key=.int .i64 k∧e.val=.agg #[.func (.func f) #[] #[]]∧f<5000000∧Fv k EP=some f:=by
  intro e he;obtain⟨y,hy⟩:=F.reads e he;have hm:y∈Vz:=(mem y).2 (AV.2 ⟨e,he,rg_of hy⟩);simp only[Vz,Aw,AB,or_false]at hm;rcases hm with rfl | rfl | rfl | rfl | rfl | rfl | rfl | rfl | rfl
  ·obtain⟨h1,h2⟩:=MQ (f0:=231) (by kernel_rfl) hy; exact⟨_,_,h1,h2,by decide,rfl⟩
  ·obtain⟨h1,h2⟩:=MQ (f0:=232) (by kernel_rfl) hy; exact⟨_,_,h1,h2,by decide,rfl⟩
  ·obtain⟨h1,h2⟩:=MQ (f0:=233) (by kernel_rfl) hy; exact⟨_,_,h1,h2,by decide,rfl⟩
  ·obtain⟨h1,h2⟩:=MQ (f0:=234) (by kernel_rfl) hy; exact⟨_,_,h1,h2,by decide,rfl⟩
  ·obtain⟨h1,h2⟩:=MQ (f0:=235) (by kernel_rfl) hy; exact⟨_,_,h1,h2,by decide,rfl⟩
  ·obtain⟨h1,h2⟩:=MQ (f0:=236) (by kernel_rfl) hy; exact⟨_,_,h1,h2,by decide,rfl⟩
  ·obtain⟨h1,h2⟩:=MQ (f0:=238) (by kernel_rfl) hy; exact⟨_,_,h1,h2,by decide,rfl⟩
  ·obtain⟨h1,h2⟩:=MQ (f0:=239) (by kernel_rfl) hy; exact⟨_,_,h1,h2,by decide,rfl⟩
  ·obtain⟨h1,h2⟩:=MQ (f0:=240) (by kernel_rfl) hy; exact⟨_,_,h1,h2,by decide,rfl⟩
 have all:∀ k∈EP.map (·.1),∃ e∈es.toList,e.key=.int .i64 k:=by
  intro k hk
  have hkL:∃ d,(Lit.int .i64 k,d)∈Vz:=by
   simp only[EP,Ax,Bk,Aw,AB,or_false]at hk;rcases hk with rfl | rfl | rfl | rfl | rfl | rfl | rfl | rfl | rfl
   ·exact⟨_,A7⟩
   ·exact⟨_,Ar _ (A7)⟩
   ·exact⟨_,Ar _ (Ar _ (A7))⟩
   ·exact⟨_,Ar _ (Ar _ (Ar _ (A7)))⟩
   ·exact⟨_,Ar _ (Ar _ (Ar _ (Ar _ (A7))))⟩
   ·exact⟨_,Ar _ (Ar _ (Ar _ (Ar _ (Ar _ (A7)))))⟩
   ·exact⟨_,Ar _ (Ar _ (Ar _ (Ar _ (Ar _ (Ar _ (A7))))))⟩
   ·exact⟨_,Ar _ (Ar _ (Ar _ (Ar _ (Ar _ (Ar _ (Ar _ (A7)))))))⟩
   ·exact⟨_,Ar _ (Ar _ (Ar _ (Ar _ (Ar _ (Ar _ (Ar _ (Ar _ (A7))))))))⟩
  obtain⟨d,hd⟩:=hkL;obtain⟨e,he,hre⟩:=AV.1 ((mem _).1 hd);obtain⟨y,hy⟩:=F.reads e he;obtain⟨k',f,h1,h2,_⟩:=ent e he;rw[rg_of hy]at hre;subst hre;have hk:=kN (rd_key hy);exact⟨e,he,hk⟩
 have hc0:W.cell? ⟨0,0,none⟩=some (.map (some b)):=by
  rw[World.var?_cell hg hv 0];obtain⟨l⟩:=cs;have:l=[.map (some b)]:=hcs;rw[this]; rfl
 have hsp:LV (.map es clock)=true:=by
  rw[dn];obtain⟨e,he,_⟩:=all 3 (by decide)
  have hlt:0<es.size:=by
   have:=List.length_pos_of_mem he;simpa using this
  rw[BB hlt];obtain⟨k,f,_,h2,_⟩:=ent es[0] (by simp);simp only[h2];rfl
 refine⟨b,es,clock,hc0,hb,hsp,fun e he=>?_,fun k f hf=>?_⟩
 ·exact ent e he
 ·exact all k (oo hf)
theorem globGG{W:World}(hk:Lib.TabIs Tryz.prog W "wagonpool/digest.k" .u32 (Sha.K.map fun x=>(x.toNat:Int)))(gk:Tryz.prog.globalNamed "wagonpool/digest.k"=some 1)(h:funcsAt Tryz.prog W "wagonpool/tvm.binaries" binsD):GlobOK GG W (JH W):=by
 intro n d hd;unfold GG at hd
 split at hd
 ·rename_i e;subst e;simp only[AN]at hd;subst hd;obtain⟨b,es,clock,h1,h2,h3,h4⟩:=Ygn h
  have hj:∀ (j:Nat) (d:D),(D.gmap EP).cells[j]?=some d→j=0∧d=.gmap EP:=fun j d hd=>by
   cases j with
   |zero=>exact⟨rfl,(AD hd).symm⟩
   |succ j=>cases hd
  refine .eptr _ 0 _ 0 (fun _=>.map (some b)) (fun j d hd=>?_) (fun j d hd=>?_) (fun j d hd=>?_)
  ·obtain⟨rfl,rfl⟩:=hj j d hd; rfl
  ·obtain⟨rfl,rfl⟩:=hj j d hd;exact⟨by show(W.cell? ⟨_,0,none⟩).isSome=true; rw[h1]; rfl,h1⟩
  ·obtain⟨rfl,rfl⟩:=hj j d hd;exact .gmap _ b es clock h2 h3 h4
 ·exact Yoj hk gk n d hd
end Go.Proofs.YtijnglngaogdjaaGreatDoor.PI
namespace Go.Proofs.YtijnglngaogdjaaGreatDoor.PI
open Go
set_option linter.unusedSimpArgs false
set_option linter.unusedVariables false
theorem Ys4(n:Nat):Dd .mul (.int .u64 (n:Int)) (.int .u64 8)=some (qD (CU n*8)):=by
 have e:(n:Int)*8=((n*8:Nat):Int):=by omega
 simp only[Dd,if_true,JI,Ag,e,R4,qD]
 congr 3
 simp
theorem gi:D.int .u8 128=Da 128:=rfl
theorem b0:D.int .u8 0=Da 0:=rfl
theorem sZ(n:Nat)(σ:List Nat)(x:UInt64):Ed n σ (qD x)=qD x:=rfl
theorem rP(x:UInt64):hk (qD x)=[]:=rfl
variable {α:Type}
theorem tL(l:List (List α))(i:Nat):(l.take i).flatten.length≤l.flatten.length:=by
 have:l.flatten=(l.take i).flatten++(l.drop i).flatten:=by rw[← List.flatten_append,BA]
 rw[this,Ab];omega
theorem qE(s:Sha.St8):∀ (i:Nat) (m:List UInt8),Sha.blocks s (i+1) m=Sha.block (Sha.blocks s i m) ((m.drop (64*i)).take 64)
 |0,m=>by simp[Sha.blocks]
 |i+1,m=>by
  rw[Sha.blocks,qE (Sha.block s (m.take 64)) i (m.drop 64),Sha.blocks,Bq,show 64+64*i=64*(i+1) by omega]
theorem yR4(m:List UInt8):(Sha.padded m).length=m.length+1+Sha.zeros m.length+8∧(Sha.padded m).length % 64=0:=by
 have h:(Sha.padded m).length=m.length+1+Sha.zeros m.length+8:=by
  simp[Sha.padded,Sha.lenB_length]; omega
 refine⟨h,?_⟩;rw[h]; unfold Sha.zeros; omega
def J6(l:List UInt32)(i:Nat):List UInt8:=Sha.outB l i++CD (32 - i) 0
theorem iq(l:List UInt32)(i:Nat)(h:i≤32):(J6 l i).length=32:=by
 simp[J6,Sha.outB_length]; omega
theorem Ye2(l:List UInt32)(i:Nat)(h:i<32):(J6 l i).set i ((l.getD (i / 4) 0 >>> UInt32.ofNat (24 - 8*(i % 4))).toUInt8)=J6 l (i+1):=by
 have E:(Sha.outB l i).length=i:=Sha.outB_length l i;unfold J6;rw[Sha.outB,Ca _ _ (by omega),E,BK,show 32 - i=(32 - (i+1))+1 by omega,BT,Bn,Ah];rfl
def gN(sz key tot off:Nat):D:=if off<tot then .row key tot off (tot - off)else .slc sz [] false
variable {key off sz tot:Nat}
theorem eT(h:off<tot):gN sz key tot off=.row key tot off (tot - off):=if_pos h
theorem ng(h:¬ off<tot):gN sz key tot off=.slc sz [] false:=if_neg h
noncomputable def YF:List D→Option D:=Dc (α:=List (List UInt8)) (fun a=>[.slc (nz 1 (a.map Kw)) (a.map Kw) false]) (fun a=>a.flatten.length≤4294960000∧a.length≤4294960000) (fun a=>CY (KT a.flatten))
theorem Yhj(E:List (List UInt8))(h:E.flatten.length≤4294960000∧E.length≤4294960000):YF [.slc (nz 1 (E.map Kw)) (E.map Kw) false]=some (CY (KT E.flatten)):=
 DW (fun a b h=>by simp only[Aa,D.slc.injEq,Ypw,and_true]at h; simp[h]) (E) h
set_option maxHeartbeats 4000000 in
set_option maxRecDepth 20000 in
theorem Tq(I:List (List UInt8))(h:I.flatten.length≤4294960000∧I.length≤4294960000):@wW GG (tb [(159,eV)] []) Xb.code (C3 [.slc (nz 1 (I.map Kw)) (I.map Kw) false]) [] ⟨Df Xb.res (CY (KT I.flatten))⟩:=by
 obtain⟨h,ba⟩:=h;generalize hm:I.flatten=m at h;unfold Xb;simp only[push_cast,↓reduceIte,Cx,Ye9 1]
 refine Gy (fun i:Nat=>[(2,.ptr 0 0),(3,DV 0 1 ((I.take i).flatten.map Da)),(10,.slc (nz 1 (I.map Kw)) (I.map Kw) false),(11,.int .i64 (I.length:Int)),(12,.int .i64 (i:Int))])
  (fun i=>⟨false,1,CW Dl,false⟩::Dp 1 ((I.take i).flatten.map Da)) (fun i=>i≤I.length) (fun i=>I.length - i) 0 (by simp only[push_cast,↓reduceIte,Cx,CE,CC,↓CA] <;> rfl) (by omega) ?_
 intro i hi;unfold ji;simp only[push_cast,↓reduceIte,Cx];refine E4 (fun h1=>?_) (fun h1=>?_)
 ·have e:(I.take (i+1)).flatten=(I.take i).flatten++I.getD i default:=by
   rw[yE I i (by omega),List.flatten_append]; simp
  have hl:=tL I (i+1);rw[e,Ab,hm]at hl;simp (disch:=first|omega|decide) only[push_cast,↓reduceIte,Cx,CE,CC,Lh,DL];refine Fb (i+1) (by omega) (by omega) ?_;rw[e];simp only[push_cast] <;> rfl
 ·obtain rfl:i=I.length:=by omega
  rw[Be,hm];have U:(m++[128]).map Da≠[]:=by simp
  simp (disch:=first|omega|decide) only[push_cast,↓reduceIte,Cx,YY,Ys4,gi,Qg _ _ _ U,OH _ _ U];generalize hq:CU m.length*8=q
  refine Gy (fun j:Nat=>[(2,.ptr 0 0),(3,.row 1 (m++[128]++CD j 0).length 0 (m++[128]++CD j 0).length),(6,qD q)])
   (fun j=>[⟨false,1,CW Dl,false⟩,⟨true,1,(m++[128]++CD j 0).map Da,false⟩]) (fun j=>j≤Sha.zeros m.length) (fun j=>Sha.zeros m.length - j) 0 (by simp only[push_cast,↓reduceIte,Cx,CE,CC,Cy,List.replicate_zero,Ad] <;> rfl) (by omega) ?_
  intro j hj;have hlen:(m++[128]++CD j 0).length=m.length+1+j:=by simp; omega
  have bb:(m.length+1+Sha.zeros m.length) % 64=56:=by unfold Sha.zeros; omega
  have hz:Sha.zeros m.length<64:=by unfold Sha.zeros; omega
  unfold jj;simp (disch:=first|omega|decide) only[push_cast,↓reduceIte,Cx,rQ];refine E4 (fun h2=>?_) (fun h2=>?_)
  ·obtain rfl:j=Sha.zeros m.length:=by
    unfold Sha.zeros at hj ⊢; omega
   simp only[push_cast,↓reduceIte,Cy];have V:(m++[128]++CD (Sha.zeros m.length) 0)=(m++[128]++CD (Sha.zeros m.length) 0)++Sha.lenB q 0:=(Ad _).symm;generalize hM:m++[128]++CD (Sha.zeros m.length) 0=M at hlen V h2
   refine Gy (fun j:Nat=>[(2,.ptr 0 0),(3,.row 1 (M++Sha.lenB q j).length 0 (M++Sha.lenB q j).length),(6,qD q),(7,.int .i64 (56 - 8*(j:Int)))])
    (fun j=>[⟨false,1,CW Dl,false⟩,⟨true,1,(M++Sha.lenB q j).map Da,false⟩]) (fun j=>j≤8) (fun j=>8 - j) 0 (by rw[← V]; simp only[push_cast,↓reduceIte,Cx,CE,CC,Cy,CV,CP,↓CA] <;> rfl) (by omega) ?_
   intro j hj;have Y:(M++Sha.lenB q j).length=M.length+j:=by rw[Ab,Sha.lenB_length]
   unfold jk;simp only[push_cast,↓reduceIte,Cx];refine E4 (fun O=>?_) (fun O=>?_)
   ·have e:(56 - 8*(j:Int)).toNat=56 - 8*j:=by omega
    have e2:M++Sha.lenB q (j+1)=(M++Sha.lenB q j)++[(q >>> CU (56 - 8*j)).toUInt8]:=by rw[Sha.lenB,Ah]
    simp (disch:=first|omega|decide) only[push_cast,↓reduceIte,Cx,CE,CC,Cy,Ysf,Yo5,e,Fa];refine Fb (j+1) (by omega) (by omega) ?_;rw[e2];have e4:(56 - 8*(j:Int) - 8)=56 - 8*((j+1:Nat):Int):=by omega
    simp only[push_cast,sZ,rP,e4] <;> rfl
   ·obtain rfl:j=8:=by omega
    have hP:M++Sha.lenB q 8=Sha.padded m:=by rw[← hM,← hq]; rfl
    rw[hP];rw[hP]at Y;obtain⟨ad,ae⟩:=yR4 m;have af:KT m=⟨Sha.outB (Sha.blocks Sha.H0 ((Sha.padded m).length / 64) (Sha.padded m)).list 32,Sha.outB_length _ 32⟩:=rfl;rw[af];generalize Sha.padded m=E at Y ad ae;have hH:Sha.H0.list.length=8:=rfl;have bc:(zW 8).length=8:=rfl;simp (disch:=omega) only[push_cast,↓reduceIte,Cx,Cy,CQ,Cz,CV,CP,↓CA,Yut]
    refine Gy (fun j:Nat=>[(2,.ptr 0 0),(3,gN 1 1 E.length (64*j)),(8,.ptr 2 0)])
     (fun j=>[⟨false,1,CW Dl,false⟩,⟨true,1,E.map Da,false⟩,⟨false,1,(Sha.blocks Sha.H0 j E).list.map wD,false⟩]) (fun j=>j≤E.length / 64) (fun j=>E.length / 64 - j) 0 (by rw[eT (by omega)]; simp only[push_cast,↓reduceIte,Cx,CE,CC,Cy,CB,Cz] <;> rfl) (by omega) ?_
    intro j hj;unfold jl;rcases A6 (64*j) E.length with h4 | h4
    ·have bd:((E.drop (64*j)).take 64).length=64:=by simp; omega
     have N:=qE Sha.H0 j E;generalize Sha.blocks Sha.H0 j E=J at N;have a0:J.list.length=8:=rfl;have be:(Sha.block J ((E.drop (64*j)).take 64)).list.length=8:=rfl;have c1:((0:Int)<((E.length - 64*j:Nat):Int)):=by omega
     have c2:((0:Int)<(E.length:Int) - 64*(j:Int)):=by omega
     have c3:¬ (64=E.length - 64*j)∨E.length - 64*j=64:=by omega
     rw[eT h4]
     by_cases h5:E.length - 64*j=64
     ·simp (disch:=omega) only[push_cast,↓reduceIte,Cx,CE,CC,Cy,CH,CI,↓CA,lB,pK,h5];refine Fb (j+1) (by omega) (by omega) ?_;rw[ng (by omega),N]
     ·have h6:¬ 64=E.length - 64*j:=fun e=>h5 e.symm;simp (disch:=omega) only[push_cast,↓reduceIte,Cx,CE,CC,Cy,Nat.reduceSub,CI,↓CA,c2,lB,pK,h6];refine Fb (j+1) (by omega) (by omega) ?_;rw[eT (by omega),N];simp only[Nat.mul_add,BL,Nat.sub_sub]
    ·obtain rfl:j=E.length / 64:=by omega
     rw[ng (by omega)];generalize Sha.blocks Sha.H0 (E.length / 64) E=J;have a0:J.list.length=8:=rfl;simp only[push_cast,↓reduceIte,Cx,Cy,CH]
     refine Gy (fun j:Nat=>[(2,.ptr 0 0),(8,.ptr 2 0),(55,.int .i64 (j:Int))])
      (fun j=>[⟨false,1,(J6 J.list j).map Da,false⟩,⟨true,1,E.map Da,false⟩,⟨false,1,J.list.map wD,false⟩]) (fun j=>j≤32) (fun j=>32 - j) 0 (by simp only[push_cast,↓reduceIte,Cx,CE,CC,Cy,↓CA] <;> rfl) (by omega) ?_
     intro j hj;unfold jm;simp only[push_cast,↓reduceIte,Cx];refine E4 (fun h6=>?_) (fun h6=>?_)
     ·have a2:=iq J.list j (by omega);have a3:=Ye2 J.list j (by omega);have e1:((j:Int) / 4).toNat=j / 4:=by omega
      have e2:(24 - 8*((j:Int) % 4)).toNat=24 - 8*(j % 4):=by omega
      simp (disch:=omega) only[push_cast,↓reduceIte,Cx,CE,CC,Cy,Uc,rQ,Mw,Fa,DL,NW,s9,Yo4,e1,e2];refine Fb (j+1) (by omega) (by omega) ?_;rw[← a3];simp only[push_cast] <;> rfl
     ·obtain rfl:j=32:=by omega
      have a2:=iq J.list 32 (by omega);simp (disch:=omega) only[push_cast,↓reduceIte,Cx,Cy,CH,↓CA];rw[show J6 J.list 32=Sha.outB J.list 32 from Ad _];rfl
  ·simp (disch:=first|omega|decide) only[push_cast,↓reduceIte,Cx,CE,CC,Cy,b0]
   have h9:j<Sha.zeros m.length:=by
    rcases A6 j (Sha.zeros m.length)with O | O
    ·exact O
    ·exfalso;obtain rfl:j=Sha.zeros m.length:=by omega
     omega
   refine Fb (j+1) (by omega) (by omega) ?_
   have e:m++[128]++CD (j+1) 0=(m++[128]++CD j 0)++[0]:=by
    rw[List.replicate_succ',Ah,Ah,Ah]
   rw[e];simp only[push_cast,sZ,rP] <;> rfl
theorem Vh:Contract Tryz.prog GG 116 YF:=
 D8 yDn (DA (all_cons Ypt all_nil) all_nil) (fun a h=>Tq a h)
noncomputable def Qy:List D→Option D:=Dc (α:=List UInt8×List UInt8) (fun a=>[.str a.1,.slc (nz 1 (a.2.map Da)) (a.2.map Da) false]) (fun a=>a.1.length+a.2.length≤4294900000) (fun a=>CY (Qe a.1 a.2))
theorem aJ(t:List UInt8)(b:List UInt8)(h:t.length+b.length≤4294900000):Qy [.str t,.slc (nz 1 (b.map Da)) (b.map Da) false]=some (CY (Qe t b)):=
 DW (fun⟨a0,a1⟩ ⟨b0,b1⟩ h=>by simp only[Aa,D.slc.injEq,D.str.injEq,nY,and_true]at h; simp[h]) (t,b) h
theorem Ya1(x:UInt8)(t b:List UInt8)(h:t.length+b.length≤4294950000) :
  YF [.slc 1 [.slc 1 [Da x] false,.slc (nz 1 (t.map Da)) (t.map Da) false,.slc (nz 1 (b.map Da)) (b.map Da) false] false]=some (CY (KT (x::(t++b)))):=by
 have:=Yhj [[x],t,b] ⟨by simp; omega,by simp⟩;rw[show([[x],t,b]:List (List UInt8)).flatten=x::(t++b) by simp]at this;exact this
set_option maxHeartbeats 4000000 in
set_option maxRecDepth 20000 in
theorem Ycj(t:List UInt8)(b:List UInt8)(h:t.length+b.length≤4294900000):@wW GG (tb [(116,YF)] []) XO.code (C3 [.str t,.slc (nz 1 (b.map Da)) (b.map Da) false]) [] ⟨Df XO.res (CY (Qe t b))⟩:=by
 unfold XO;have I:(min (t.length:Int) 255).toNat=min t.length 255:=by omega
 have J:t.take (min t.length 255)=t.take 255:=by
  rcases Nat.le_total t.length 255 with E | E
  ·rw[B2 E,Be,AU E]
  ·rw[Nat.min_eq_right E]
 have hl:(t.take 255).length≤255:=by simp; omega
 have M:(t.take 255).length≤t.length:=by simp; omega
 simp (disch:=omega) only[push_cast,↓reduceIte,Cx,yRl,I,J,Mj,Ya1];rfl
theorem dG:Contract Tryz.prog GG 62 Qy:=
 D8 ub (DA (all_cons Vh all_nil) all_nil) (fun a h=>Ycj a.1 a.2 h)
set_option maxHeartbeats 8000000
set_option maxRecDepth 20000
def nI(n:Int):D:=.int .i64 n
variable {a b:Int}
theorem Ys2:nI a=nI b↔a=b:=by simp[nI]
theorem Qm{a b:List Int}:a.map nI=b.map nI↔a=b:=⟨NQ fun _ _=>Ys2.1,fun h=>by rw[h]⟩
theorem gS(n:Int):IntKind.wrap .u64 n=n % 18446744073709551616:=rfl
theorem eU{n:Int}(E:0≤n)(I:n<18446744073709551616):IntKind.wrap .u64 n=n:=by rw[gS]; omega
theorem Vx(E:0≤a+b)(I:a+b<18446744073709551616):Dd .add (.int .u64 a) (.int .u64 b)=some (.int .u64 (a+b)):=by
 simp only[Dd,if_true,JI,Ag,eU E I]
theorem Uo(E:0≤a*b)(I:a*b<18446744073709551616):Dd .mul (.int .u64 a) (.int .u64 b)=some (.int .u64 (a*b)):=by
 simp only[Dd,if_true,JI,Ag,eU E I]
theorem Ys3(a b:Int):Dd .mul (.int .u64 a) (.int .u64 b)=some (.int .u64 ((a*b) % 18446744073709551616)):=by
 rfl
theorem yG7(E:0≤a)(I:a<18446744073709551616):(CF 64 a).toNat=a.toNat:=by
 grind
theorem Yiq(E:0≤a)(I:a<18446744073709551616):Dd .and (.int .u64 a) (.int .u64 4294967295)=some (.int .u64 (a % 4294967296)):=by
 have h:(CF (IntKind.bits .u64) a &&& CF (IntKind.bits .u64) 4294967295).toNat=(a % 4294967296).toNat:=by
  show(CF 64 a &&& CF 64 4294967295).toNat=_
  rw[Ct,yG7 E I,show(CF 64 4294967295).toNat=2 ^ 32 - 1 from rfl,BE];omega
 simp only[Dd,if_true,Kh,Ag,h];rw[eU (by omega) (by omega)]
 congr 2
 omega
theorem VO(I:0≤a)(hb:0≤b)(E:a≤4294967295)(J:b≤4294967295):0≤a*b∧a*b≤18446744065119617025:=by
 refine⟨Int.mul_nonneg I hb,?_⟩;have M:a*b≤4294967295*b:=Cb E hb;omega
theorem mul4(a b c d:Int):a*b*(c*d)=a*c*(b*d):=by rw[Int.mul_assoc,Int.mul_left_comm b,← Int.mul_assoc]
theorem wz(x y:Int):x*y=(x / 4294967296)*(y / 4294967296)*18446744073709551616+((x / 4294967296)*(y % 4294967296)+(x % 4294967296)*(y / 4294967296))*4294967296+(x % 4294967296)*(y % 4294967296):=by
 have E:x=(x / 4294967296)*4294967296+x % 4294967296:=(Cc x 4294967296).symm;have I:y=(y / 4294967296)*4294967296+y % 4294967296:=(Cc y 4294967296).symm
 conv=>lhs; rw[E,I]
 grind
noncomputable def Y0:List D→Option D:=Dc (α:=Int×Int) (fun a=>[.int .u64 a.1,.int .u64 a.2]) (fun a=>0≤a.1∧a.1<18446744073709551616∧0≤a.2∧a.2<18446744073709551616) (fun a=>.tup [.int .u64 (a.1*a.2 / 18446744073709551616),.int .u64 (a.1*a.2 % 18446744073709551616)])
theorem nZ(x:Int)(y:Int)(h:0≤x∧x<18446744073709551616∧0≤y∧y<18446744073709551616):Y0 [.int .u64 x,.int .u64 y]=some (.tup [.int .u64 (x*y / 18446744073709551616),.int .u64 (x*y % 18446744073709551616)]):=
 DW (fun⟨a0,a1⟩ ⟨b0,b1⟩ h=>by simp only[Aa,D.int.injEq,true_and,and_true]at h; simp[h]) (x,y) h
theorem Yrk(x:Int)(y:Int)(h:0≤x∧x<18446744073709551616∧0≤y∧y<18446744073709551616):@wW GG (tb [] []) XU.code (C3 [.int .u64 x,.int .u64 y]) [] ⟨Df XU.res (.tup [.int .u64 (x*y / 18446744073709551616),.int .u64 (x*y % 18446744073709551616)])⟩:=by
 obtain⟨I,J,M,N⟩:=h;have e:=wz x y;have ha:=VO (a:=x / 4294967296) (b:=y / 4294967296) (by omega) (by omega) (by omega) (by omega);have hb:=VO (a:=x / 4294967296) (b:=y % 4294967296) (by omega) (by omega) (by omega) (by omega);have hc:=VO (a:=x % 4294967296) (b:=y / 4294967296) (by omega) (by omega) (by omega) (by omega);have O:=VO (a:=x % 4294967296) (b:=y % 4294967296) (by omega) (by omega) (by omega) (by omega);unfold XU;simp (disch:=omega) only[push_cast,↓reduceIte,Cx,CI,CO,Yiq,Mx,Uo,Vx,Ys3 x y];rw[e];generalize (x / 4294967296)*(y / 4294967296)=a at*;generalize (x / 4294967296)*(y % 4294967296)=b at*;generalize (x % 4294967296)*(y / 4294967296)=c at*;generalize (x % 4294967296)*(y % 4294967296)=d at*;have E:a+(b+d / 4294967296) / 4294967296+((b+d / 4294967296) % 4294967296+c) / 4294967296=(a*18446744073709551616+(b+c)*4294967296+d) / 18446744073709551616:=by omega
 rw[E]
theorem r9:Contract Tryz.prog GG 169 Y0:=
 D8 uD (DA all_nil all_nil) (fun a h=>Yrk a.1 a.2 h)
def Fq(x:Int):Bool:=decide (-9007199254740992≤x) && decide (x≤9007199254740992)
theorem OK{x:Int}:Fq x=true↔-9007199254740992≤x∧x≤9007199254740992:=by simp[Fq]
theorem kJ{x:Int}:Fq x=false↔x < -9007199254740992∨9007199254740992<x:=by
 rw[← Bool.not_eq_true,OK]; omega
variable {i:Nat}
theorem Yg7{l:List Int}(h:i<l.length):(l.drop i).all Fq=(Fq (l.getD i default) && (l.drop (i+1)).all Fq):=by
 rw[Bd h,A3];grind
noncomputable def MW:List D→Option D:=Dc (α:=List Int) (fun a=>[.slc (nz 1 (a.map nI)) (a.map nI) false]) (fun a=>a.length≤65536) (fun a=>.bool (a.all Fq))
theorem n6(l:List Int)(h:l.length≤65536):MW [.slc (nz 1 (l.map nI)) (l.map nI) false]=some (.bool (l.all Fq)):=
 DW (fun a b h=>by simp only[Aa,D.slc.injEq,and_true,Qm]at h; simp[h]) (l) h
theorem Yrc(l:List Int)(h:l.length≤65536):@wW GG (tb [] []) WI.code (C3 [.slc (nz 1 (l.map nI)) (l.map nI) false]) [] ⟨Df WI.res (.bool (l.all Fq))⟩:=by
 unfold WI;simp (disch:=first|omega|decide) only[push_cast,↓reduceIte,Cx];refine Gy (fun i:Nat=>[(5,.slc (nz 1 (l.map nI)) (l.map nI) false),(6,.int .i64 (l.length:Int)),(7,.int .i64 (i:Int))]) (fun _=>[]) (fun i=>i≤l.length∧l.all Fq=(l.drop i).all Fq) (fun i=>l.length - i) 0 (by simp only[push_cast,↓reduceIte,Cx,↓CA] <;> rfl) ⟨Bf _,rfl⟩ ?_;rintro i ⟨hi,E⟩;unfold iW;simp (disch:=first|omega|decide) only[push_cast,↓reduceIte,Cx,Cz];refine E4 (fun U=>?_) (fun U=>?_)
 ·have O:i<l.length:=by omega
  rw[Yg7 O]at E
  have I:∀ st:St,FY st 1 (.slc (nz 1 (l.map nI)) (l.map nI) false) (.int .i64 (i:Int))=some (.eptr (nI (l.getD i default)) 0):=fun st=>by
   have:=Lh st 1 nI l false .i64 (i:Int) (by omega) (by omega);grind
  generalize l.getD i default=x at*
  cases J:Fq x with
  |true=>
   obtain⟨V,Y⟩:=OK.1 J;rw[J,Bp]at E;have M:¬ (x < -9007199254740992):=by omega
   have N:¬ (9007199254740992<x):=by omega
   simp (disch:=first|omega|decide) only[push_cast,↓reduceIte,Cx,Cz,I,nI,M,N,DL];refine Fb (i+1) (by exact⟨by omega,E⟩) (by omega) ?_;rfl
  |false=>
   rw[J,Bool.false_and]at E
   by_cases M:x < -9007199254740992
   ·simp (disch:=first|omega|decide) only[push_cast,↓reduceIte,Cx,Cz,I,nI,M,E]
   ·have N:9007199254740992<x:=by have:=kJ.1 J; omega
    simp (disch:=first|omega|decide) only[push_cast,↓reduceIte,Cx,Cz,I,nI,M,N,E]
 ·obtain rfl:i=l.length:=by omega
  rw[Ba]at E;simp (disch:=first|omega|decide) only[push_cast,↓reduceIte,Cz,E,Cw]
theorem S2:Contract Tryz.prog GG 241 MW:=
 D8 yKp (DA all_nil all_nil) (fun a h=>Yrc a h)
def Kv(c:Int):Int×Int:=if Fq c then(c,0)else(0,3)
theorem Fp(a:Int):E0 1 [.int .i64 a]=some (.slc 1 [.int .i64 a] true):=(rfl)
theorem F5(a b:Int):E0 1 [.int .i64 a,.int .i64 b]=some (.slc 1 [.int .i64 a,.int .i64 b] true):=(rfl)
theorem Zf:((9:Int)=8)=False:=by decide
theorem NB:((10:Int)=8)=False:=by decide
theorem NA:((10:Int)=9)=False:=by decide
theorem Vd:((8:Int)=10)=False:=by decide
theorem Vc:((9:Int)=10)=False:=by decide
theorem Yhr(a:Int):MW [.slc 1 [.int .i64 a] false]=some (.bool (Fq a)):=by
 have:=n6 [a] (by simp);simpa[nI,nz]using this
theorem VG(a b:Int):MW [.slc 1 [.int .i64 a,.int .i64 b] false]=some (.bool (Fq a && Fq b)):=by
 have:=n6 [a,b] (by simp);simpa[nI,nz]using this
noncomputable def Za:List D→Option D:=Dc (α:=Int) (fun a=>[.int .i64 a]) (fun a=>True) (fun a=>.tup [.int .i64 (Kv a).1,.int .i64 (Kv a).2])
theorem nC(c:Int):Za [.int .i64 c]=some (.tup [.int .i64 (Kv c).1,.int .i64 (Kv c).2]):=
 DW (fun a b h=>by simp only[Aa,D.int.injEq,true_and,and_true]at h; simp[h]) (c) trivial
theorem Yrb(c:Int):@wW GG (tb [(241,MW)] []) Xz.code (C3 [.int .i64 c]) [] ⟨Df Xz.res (.tup [.int .i64 (Kv c).1,.int .i64 (Kv c).2])⟩:=by
 unfold Xz Kv;have:=Yhr c;cases hc:Fq c <;> rw[hc]at this <;> simp (disch:=first|omega|decide) only[push_cast,↓reduceIte,Cx,Fp,this]
theorem sd:Contract Tryz.prog GG 242 Za:=
 D8 tV (DA (all_cons S2 all_nil) all_nil) (fun a h=>Yrb a)
def Hp(a b:Int):Int×Int:=if Fq a && Fq b then Kv (a+b)else(0,3)
def Hf(a b:Int):Int×Int:=if Fq a && Fq b then Kv (a - b)else(0,3)
noncomputable def VW:List D→Option D:=Dc (α:=Int×Int) (fun a=>[.int .i64 a.1,.int .i64 a.2]) (fun a=>True) (fun a=>.tup [.int .i64 (Hp a.1 a.2).1,.int .i64 (Hp a.1 a.2).2])
theorem zt(a:Int)(b:Int):VW [.int .i64 a,.int .i64 b]=some (.tup [.int .i64 (Hp a b).1,.int .i64 (Hp a b).2]):=
 DW (fun⟨a0,a1⟩ ⟨b0,b1⟩ h=>by simp only[Aa,D.int.injEq,true_and,and_true]at h; simp[h]) (a,b) trivial
theorem Ykg(a:Int)(b:Int):@wW GG (tb [(241,MW),(242,Za)] []) WN.code (C3 [.int .i64 a,.int .i64 b]) [] ⟨Df WN.res (.tup [.int .i64 (Hp a b).1,.int .i64 (Hp a b).2])⟩:=by
 unfold WN Hp;have E:=VG a b;have I:=nC (a+b)
 cases hc:Fq a && Fq b with
 |false=>rw[hc]at E; simp (disch:=first|omega|decide) only[push_cast,↓reduceIte,Cx,F5,E]
 |true=>
  rw[hc]at E;simp only[Af,OK]at hc;simp (disch:=first|omega|decide) only[push_cast,↓reduceIte,Cx,F5,E,I,DL]
theorem Ypn:Contract Tryz.prog GG 231 VW:=
 D8 yG6 (DA (all_cons S2 (all_cons sd all_nil)) all_nil) (fun a h=>Ykg a.1 a.2)
noncomputable def VY:List D→Option D:=Dc (α:=Int×Int) (fun a=>[.int .i64 a.1,.int .i64 a.2]) (fun a=>True) (fun a=>.tup [.int .i64 (Hf a.1 a.2).1,.int .i64 (Hf a.1 a.2).2])
theorem zv(a:Int)(b:Int):VY [.int .i64 a,.int .i64 b]=some (.tup [.int .i64 (Hf a b).1,.int .i64 (Hf a b).2]):=
 DW (fun⟨a0,a1⟩ ⟨b0,b1⟩ h=>by simp only[Aa,D.int.injEq,true_and,and_true]at h; simp[h]) (a,b) trivial
theorem Ykd(a:Int)(b:Int):@wW GG (tb [(241,MW),(242,Za)] []) WY.code (C3 [.int .i64 a,.int .i64 b]) [] ⟨Df WY.res (.tup [.int .i64 (Hf a b).1,.int .i64 (Hf a b).2])⟩:=by
 unfold WY Hf;have E:=VG a b;have I:=nC (a - b)
 cases hc:Fq a && Fq b with
 |false=>rw[hc]at E; simp (disch:=first|omega|decide) only[push_cast,↓reduceIte,Cx,F5,E]
 |true=>
  rw[hc]at E;simp only[Af,OK]at hc;simp (disch:=first|omega|decide) only[push_cast,↓reduceIte,Cx,F5,E,I,Fa]
theorem Ypl:Contract Tryz.prog GG 232 VY:=
 D8 yG3 (DA (all_cons S2 (all_cons sd all_nil)) all_nil) (fun a h=>Ykd a.1 a.2)
theorem Um(E:0<a)(I:a<18446744073709551616):LZ .neg (.int .u64 a)=some (.int .u64 (18446744073709551616 - a)):=by
 have e:(0 - a) % 18446744073709551616=18446744073709551616 - a:=by omega
 simp only[LZ,gS,e]
theorem VJ(st:St):E7 st (.int .u64) (.int .i64 a)=some (.int .u64 (a % 18446744073709551616)):=by
 rfl
noncomputable def RW:List D→Option D:=Dc (α:=Int) (fun a=>[.int .i64 a]) (fun a=>Fq a=true) (fun a=>.int .u64 (if a<0 then -a else a))
theorem pL(a:Int)(h:Fq a=true):RW [.int .i64 a]=some (.int .u64 (if a<0 then -a else a)):=
 DW (fun a b h=>by simp only[Aa,D.int.injEq,true_and,and_true]at h; simp[h]) (a) h
theorem Ykh(a:Int)(h:Fq a=true):@wW GG (tb [] []) WZ.code (C3 [.int .i64 a]) [] ⟨Df WZ.res (.int .u64 (if a<0 then -a else a))⟩:=by
 obtain⟨M,N⟩:=OK.1 h;unfold WZ
 by_cases E:a<0
 ·have I:(a % 18446744073709551616)=18446744073709551616+a:=by omega
  have J:18446744073709551616 - (18446744073709551616+a)=-a:=by omega
  simp (disch:=first|omega|decide) only[push_cast,↓reduceIte,Cx,E,VJ,I,Um,J]
 ·simp (disch:=first|omega|decide) only[push_cast,↓reduceIte,Cx,E,YY]
theorem Ypo:Contract Tryz.prog GG 243 RW:=
 D8 yG2 (DA all_nil all_nil) (fun a h=>Ykh a h)
def Hq(a:Int):Int:=if a<0 then -a else a
def Hi(a b:Int):Int×Int:=if Fq a && Fq b then Kv (a*b)else(0,3)
theorem Yv9(a b:Int):Hq a*Hq b=Hq (a*b):=by
 unfold Hq;rcases Int.lt_or_le a 0 with E | E <;> rcases Int.lt_or_le b 0 with I | I
 ·have:=Int.mul_pos_of_neg_of_neg E I;grind
 ·have:=Int.mul_nonpos_of_nonpos_of_nonneg (Int.le_of_lt E) I;rw[if_pos E,if_neg (by omega),Int.neg_mul];omega
 ·have:=Int.mul_nonpos_of_nonneg_of_nonpos E (Int.le_of_lt I);rw[if_neg (by omega),if_pos I,Int.mul_neg];omega
 ·have:=Int.mul_nonneg E I;grind
theorem gp(h:Fq a=true):0≤Hq a∧Hq a≤9007199254740992:=by
 have:=OK.1 h;unfold Hq; split <;> omega
theorem Vy(a:Int):Fq a=decide (Hq a≤9007199254740992):=by
 cases h:Fq a with
 |true=>simp[(gp h).2]
 |false=>
  have:=kJ.1 h
  symm
  rw[decide_eq_false_iff_not];unfold Hq; split <;> omega
noncomputable def VX:List D→Option D:=Dc (α:=Int×Int) (fun a=>[.int .i64 a.1,.int .i64 a.2]) (fun a=>True) (fun a=>.tup [.int .i64 (Hi a.1 a.2).1,.int .i64 (Hi a.1 a.2).2])
theorem zu(a:Int)(b:Int):VX [.int .i64 a,.int .i64 b]=some (.tup [.int .i64 (Hi a b).1,.int .i64 (Hi a b).2]):=
 DW (fun⟨a0,a1⟩ ⟨b0,b1⟩ h=>by simp only[Aa,D.int.injEq,true_and,and_true]at h; simp[h]) (a,b) trivial
theorem Yke(a:Int)(b:Int):@wW GG (tb [(241,MW),(243,RW),(169,Y0)] []) WX.code (C3 [.int .i64 a,.int .i64 b]) [] ⟨Df WX.res (.tup [.int .i64 (Hi a b).1,.int .i64 (Hi a b).2])⟩:=by
 unfold WX Hi;have E:=VG a b
 cases hc:Fq a && Fq b with
 |false=>rw[hc]at E; simp (disch:=first|omega|decide) only[push_cast,↓reduceIte,Cx,F5,E]
 |true=>
  rw[hc]at E;simp only[Af]at hc;have c1:RW [.int .i64 a]=some (.int .u64 (Hq a)):=pL a hc.1;have M:RW [.int .i64 b]=some (.int .u64 (Hq b)):=pL b hc.2;have l1:=gp hc.1;have N:=gp hc.2;have J:=nZ (Hq a) (Hq b) (by omega);have e:=Yv9 a b;have Y:=Vy (a*b);have hn:0≤Hq a*Hq b:=Int.mul_nonneg l1.1 N.1;have hb:Hq a*Hq b≤9007199254740992*9007199254740992:=Int.le_trans (Cb l1.2 N.1) (by omega);rw[e]at J hn hb
  have hm:Hq (a*b)≤9007199254740992→-9007199254740992≤a*b∧a*b≤9007199254740992:=fun h=>by
   unfold Hq at h; split at h <;> omega
  have hmul:-9007199254740992≤a*b→a*b≤9007199254740992→Dd .mul (.int .i64 a) (.int .i64 b)=some (.int .i64 (a*b)):=fun h1 E=>Mw (by omega) (by omega);unfold Kv;rw[Y];generalize a*b=m at*;generalize Hq m=z at*
  by_cases O:z / 18446744073709551616=0
  ·have h9:z % 18446744073709551616=z:=by omega
   rw[O,h9]at J
   by_cases U:9007199254740992<z
   ·have I:¬ z≤9007199254740992:=by omega
    simp (disch:=first|omega|decide) only[push_cast,↓reduceIte,Cx,F5,E,c1,M,J,U,I]
   ·have I:z≤9007199254740992:=by omega
    have V:=hm I;have c4:Dd .mul (.int .i64 a) (.int .i64 b)=some (.int .i64 m):=hmul V.1 V.2;simp (disch:=first|omega|decide) only[push_cast,↓reduceIte,Cx,F5,E,c1,M,J,U,I,c4]
  ·have I:¬ z≤9007199254740992:=by omega
   simp (disch:=first|omega|decide) only[push_cast,↓reduceIte,Cx,F5,E,c1,M,J,O,I]
theorem Ypm:Contract Tryz.prog GG 233 VX:=
 D8 yG4 (DA (all_cons S2 (all_cons Ypo (all_cons r9 all_nil))) all_nil) (fun a h=>Yke a.1 a.2)
theorem Yld(a:Int)(hb:0<b):-(Hq a)≤a.tdiv b∧a.tdiv b≤Hq a:=by
 unfold Hq;rcases Int.lt_or_le a 0 with h | h
 ·have e:a.tdiv b=-((-a) / b):=by
   rw[← BM (by omega),Int.neg_tdiv,Int.neg_neg]
  have E:=Ce b (show 0≤-a by omega);have I:=Ci (show 0≤-a by omega) (show 0≤b by omega);omega
 ·have e:a.tdiv b=a / b:=BM h;have E:=Ce b h;have I:=Ci h (show 0≤b by omega);omega
theorem QU(hb:0<b)(E:-9223372036854775808<a)(I:a<9223372036854775808):Dd .quo (.int .i64 a) (.int .i64 b)=some (.int .i64 (a.tdiv b)):=by
 have J:=Yld a hb;have M:Hq a<9223372036854775808:=by unfold Hq; split <;> omega
 simp only[Dd,if_true,JI,show ¬ b=0 by omega,if_false,Ag,N1 (show -9223372036854775808≤a.tdiv b by omega) (show a.tdiv b<9223372036854775808 by omega)]
theorem QV(hb:0<b):Dd .rem (.int .i64 a) (.int .i64 b)=some (.int .i64 (a.tmod b)):=by
 simp only[Dd,if_true,JI,show ¬ b=0 by omega,if_false,Ag]
def fX(a b:Int):Int:=(if a.tmod b<0 then a - b else a).tdiv b
def qN(a b:Int):Int:=(if 0<a.tmod b then a+b else a).tdiv b
def Ec(a b m:Int):Int×Int:=if Fq a && Fq b then(if b≤0 then(0,70)else(if m=10 then fX (2*a+b) (2*b)else if m=8 then fX a b else qN a b,0))else(0,3)
noncomputable def RX:List D→Option D:=Dc (α:=Int×Int×Int) (fun a=>[.int .i64 a.1,.int .i64 a.2.1,.int .i64 a.2.2]) (fun a=>a.2.2=8∨a.2.2=9∨a.2.2=10) (fun a=>.tup [.int .i64 (Ec a.1 a.2.1 a.2.2).1,.int .i64 (Ec a.1 a.2.1 a.2.2).2])
theorem ay(a:Int)(b:Int)(m:Int)(h:m=8∨m=9∨m=10):RX [.int .i64 a,.int .i64 b,.int .i64 m]=some (.tup [.int .i64 (Ec a b m).1,.int .i64 (Ec a b m).2]):=
 DW (fun⟨a0,a1,E⟩ ⟨b0,b1,I⟩ h=>by simp only[Aa,D.int.injEq,true_and,and_true]at h; simp[h]) (a,b,m) h
theorem Ykf(a:Int)(b:Int)(m:Int)(h:m=8∨m=9∨m=10):@wW GG (tb [(241,MW)] []) WO.code (C3 [.int .i64 a,.int .i64 b,.int .i64 m]) [] ⟨Df WO.res (.tup [.int .i64 (Ec a b m).1,.int .i64 (Ec a b m).2])⟩:=by
 unfold WO Ec;have E:=VG a b
 cases hc:Fq a && Fq b with
 |false=>
  rw[hc]at E;rcases h with rfl | rfl | rfl <;> simp (disch:=first|omega|decide) only[push_cast,↓reduceIte,Cx,F5,Zf,NB,NA,E]
 |true=>
  rw[hc]at E;simp only[Af,OK]at hc;obtain⟨⟨a1,J⟩,b1,M⟩:=hc
  by_cases hb:b≤0
  ·rcases h with rfl | rfl | rfl <;> simp (disch:=first|omega|decide) only[push_cast,↓reduceIte,Cx,F5,Zf,NB,NA,E,hb]
  ·unfold fX qN;rcases h with rfl | rfl | rfl
   ·by_cases I:a.tmod b<0
    ·simp (disch:=first|omega|decide) only[push_cast,↓reduceIte,Cx,F5,Vd,E,hb,QV,I,Fa,QU]
    ·simp (disch:=first|omega|decide) only[push_cast,↓reduceIte,Cx,F5,Vd,E,hb,QV,I,QU]
   ·by_cases I:0<a.tmod b
    ·simp (disch:=first|omega|decide) only[push_cast,↓reduceIte,Cx,F5,Zf,Vc,E,hb,QV,I,DL,QU]
    ·simp (disch:=first|omega|decide) only[push_cast,↓reduceIte,Cx,F5,Zf,Vc,E,hb,QV,I,QU]
   ·by_cases I:(2*a+b).tmod (2*b)<0
    ·simp (disch:=first|omega|decide) only[push_cast,↓reduceIte,Cx,F5,NB,NA,E,hb,Mw,DL,QV,I,Fa,QU]
    ·simp (disch:=first|omega|decide) only[push_cast,↓reduceIte,Cx,F5,NB,NA,E,hb,Mw,DL,QV,I,QU]
theorem cH:Contract Tryz.prog GG 237 RX:=
 D8 yG5 (DA (all_cons S2 all_nil) all_nil) (fun a h=>Ykf a.1 a.2.1 a.2.2 h)
noncomputable def EY(R:List D→St→D×St→Prop):List D→St→Option (D×St):=fun ds st=>@dite _ (∃ r,R ds st r) (Classical.propDecidable _) (fun h=>some h.choose) (fun _=>none)
variable {r:D×St}{st:St}{ds:List D}
theorem Ii{R:List D→St→D×St→Prop}(h:EY R ds st=some r):R ds st r:=by
 unfold EY at h
 split at h
 ·rename_i E;simp only[AN]at h;rw[← h]; exact E.choose_spec
 ·cases h
theorem Yl5{R:List D→St→D×St→Prop}(h:R ds st r)(J:∀ E,R ds st E→E=r):EY R ds st=some r:=by
 have I:∃ r,R ds st r:=⟨r,h⟩;unfold EY;rw[dif_pos I,J _ I.choose_spec]
def Hs(R:List D→St→D×St→Prop):Prop:=∀ ds st r r',R ds st r→R ds st r'→r=r'
theorem KK{R:List D→St→D×St→Prop}(E:Hs R)(h:R ds st r):EY R ds st=some r:=Yl5 h fun I J=>E ds st I r J h
def StOK(st:St):Prop:=∀ o∈st,o.row=false→∀ x∈o.els,Ed st.length [] x=x
theorem oQ(n:Nat):∀ (l acc:List Nat),EJ n n l acc=acc
 |[],acc=>rfl
 |k::r,acc=>by
  rw[EJ,if_neg (by omega)];exact oQ n r acc
theorem LH{α:Type}{f:α→α}:∀ {l:List α},(∀ x∈l,f x=x)→l.map f=l
 |[],_=>rfl
 |a::l,h=>by rw[Ax,h a (by simp),LH fun x E=>h x (by simp[E])]
theorem lh(h:StOK st):st.map (EL st.length [])=st:=by
 refine LH fun o E=>?_;obtain⟨row,sz,els,lent⟩:=o
 cases row with
 |true=>rfl
 |false=>
  show(⟨false,sz,els.map (Ed st.length []),lent⟩:Obj)=_
  rw[LH (h _ E rfl)]
variable {fr:Frame}{keep:List Nat}
theorem aP(h:StOK st):restrict keep st.length ⟨fr,st⟩=⟨GC (IY fr st.length [] keep),st⟩:=by
 unfold restrict;simp only[AE,if_true,oQ];unfold restrictAt;rw[RL];simp only[picked,Bk,Ad,Be,lh h]
variable {n:Nat}
theorem Se{m:Nat}(f:Nat→D)(I:∀ k,f k≠.junk)(E:n≤m)(h:Ix f (Eu n [] key)=f key):Ix f (Eu m [] key)=f key:=by
 unfold Eu at h ⊢
 by_cases hk:key<n
 ·rw[if_pos (AY hk E)]; rfl
 ·rw[if_neg hk]at h;exact absurd h.symm (I key)
variable {x:D}
theorem oB{m:Nat}(E:n≤m)(h:F2 n [] x=x):F2 m [] x=x:=by
 cases x with
 |row key tot off len=>exact Se (fun k=>.row k tot off len) (fun k e=>by cases e) E h
 |bsl key off j sz ag=>exact Se (fun k=>.bsl k off j sz ag) (fun k e=>by cases e) E h
 |ptr key off=>exact Se (fun k=>.ptr k off) (fun k e=>by cases e) E h
 |rptr key tot i off=>exact Se (fun k=>.rptr k tot i off) (fun k e=>by cases e) E h
 |mapv key=>exact Se .mapv (fun k e=>by cases e) E h
 |_=>exact h
theorem Pg{f:D→D}:∀ {l:List D},l.map f=l→∀ x∈l,f x=x
 |[],_,x,E=>by cases E
 |a::l,h,x,E=>by
  simp only[Ax,Aa]at h;rcases Aw.1 E with rfl | E
  ·exact h.1
  ·exact Pg h.2 x E
theorem oC{m:Nat}(E:n≤m)(h:Ek n [] x=x):Ek m [] x=x:=by
 cases x with
 |clo f l=>
  simp only[Ek,D.clo.injEq,true_and]at h ⊢;exact LH fun y I=>oB E (Pg h y I)
 |_=>unfold Ek at h ⊢; exact oB E h
theorem Yd3{m:Nat}(E:n≤m)(h:Ed n [] x=x):Ed m [] x=x:=by
 cases x with
 |agg l=>
  simp only[Ed,D.agg.injEq]at h ⊢;exact LH fun y I=>oC E (Pg h y I)
 |tup l=>unfold Ed at h ⊢; exact h
 |_=>unfold Ed at h ⊢; exact oC E h
theorem StOK.nil:StOK []:=fun _ h=>by cases h
theorem StOK.app(h:StOK st)(l:St)(hl:∀ o∈l,o.row=false→∀ x∈o.els,Ed (st.length+l.length) [] x=x):StOK (st++l):=by
 intro o E I x J;rw[Ab];rcases AK.1 E with E | E
 ·exact Yd3 (Nat.le_add_right _ _) (h o E I x J)
 ·exact hl o E I x J
theorem StOK.set(h:StOK st)(k:Nat)(o:Obj)(M:o.row=false→∀ x∈o.els,Ed st.length [] x=x):StOK (st.set k o):=by
 intro q E I x J;rw[B5];rcases BP E with E | rfl
 ·exact h q E I x J
 ·exact M I x J
theorem nd(n m:Nat):∀ (l acc:List Nat),(∀ k∈l,k<n)→EJ n m l acc=acc
 |[],acc,_=>rfl
 |k::r,acc,h=>by
  have:=h k (by simp);rw[EJ,if_neg (by omega)];exact nd n m r acc fun x E=>h x (by simp[E])
theorem yEp{l:St}(h:StOK st)(M:∀ o∈st,o.row=false→∀ x∈o.els,∀ k∈hk x,k<st.length)(V:∀ s∈keep,∀ k∈hk (fr s),k<st.length) :
  restrict keep st.length ⟨fr,st++l⟩=⟨GC (IY fr st.length [] keep),st⟩:=by
 have hle:st.length≤(st++l).length:=by simp
 have N:(st++l).take st.length=st:=by simp
 unfold restrict;simp only[hle,if_true]
 rw[nd _ _ _ _ (fun k I=>by
  simp only[S3,N,AK,Bj]at I;rcases I with⟨s,Y,O⟩ | ⟨o,ho,E⟩
  ·exact V s Y k O
  ·cases J:o.row with
   |true=>rw[J]at E; simp at E
   |false=>
    rw[J]at E;simp only[Al,if_false,Bj]at E;obtain⟨x,hx,U⟩:=E;exact M o ho J x hx k U)]
 unfold restrictAt;rw[RL];simp only[picked,Bk,Ad,N,lh h]
def G9:Nat→Nat→Nat
 |0,_=>0
 |n+1,u=>if u=0 then 0 else G9 n (u / 256)+1
theorem Ylp(n:Nat):G9 n 0=0:=by cases n <;> rfl
theorem dm(n u:Nat):G9 (n+1) u=if u=0 then 0 else G9 n (u / 256)+1:=(rfl)
theorem p8:∀ (n u:Nat),u<256 ^ n→G9 (n+1) u=G9 n u
 |0,u,h=>by
  have:u=0:=by simpa using h
  subst this; rfl
 |n+1,u,h=>by
  rw[dm (n+1) u,dm n u]
  split
  ·rfl
  ·rw[p8 n (u / 256) (by rw[Nat.pow_succ]at h; omega)]
theorem Qr:∀ (n u:Nat),G9 n u≤n
 |0,_=>AE _
 |n+1,u=>by
  rw[G9]
  split
  ·omega
  ·have:=Qr n (u / 256); omega
def rU(ds:List D)(st:St)(r:D×St):Prop:=∃ u:Nat,StOK st∧u<18446744073709551616∧ds=[.int .u64 (u:Int)]∧r=(.int .i64 (G9 8 u:Int),st)
noncomputable def cP:List D→St→Option (D×St):=EY rU
theorem Ydl:Hs rU:=by
 rintro ds st r E ⟨u,_,_,rfl,rfl⟩ ⟨I,_,_,h,rfl⟩;grind
theorem yQ2{u:Nat}(h:u≠0)(E:u<256 ^ n):G9 n u=G9 n (u / 256)+1:=by
 cases n with
 |zero=>simp at E; omega
 |succ n=>
  rw[dm n u,if_neg h,p8 n (u / 256) (by rw[Nat.pow_succ]at E; omega)]
theorem Ypb:IContract Tryz.prog GG 209 cP:=by
 refine IB (T:=tb [] []) uQ (DA all_nil all_nil) ?_;intro ds st r N;obtain⟨u,E,hu,rfl,rfl⟩:=Ii N;unfold jO;simp (disch:=first|omega|decide) only[push_cast];refine Gy (fun p:Nat×Nat=>[(0,.int .u64 (p.1:Int)),(2,.int .i64 (p.2:Int))]) (fun _=>st) (fun p=>p.1<18446744073709551616∧G9 8 u=G9 8 p.1+p.2) (fun p=>p.1) (u,0) (by simp only[push_cast,↓reduceIte,Cx,↓aP E] <;> rfl) ⟨hu,rfl⟩ ?_;rintro⟨w,k⟩ ⟨hw,hk⟩;have U:=Qr 8 u;dsimp only at hw hk;unfold j4;simp (disch:=first|omega|decide) only[push_cast,↓reduceIte];refine E4 (fun O=>?_) (fun O=>?_)
 ·have I:w≠0:=by omega
  have V:=yQ2 (n:=8) I (by omega)
  have J:Dd .shr (.int .u64 (w:Int)) (.int .u64 8)=some (.int .u64 ((w / 256:Nat):Int)):=by
   rw[Mx (by omega) (by omega)]; rfl
  simp (disch:=first|omega|decide) only[push_cast,↓reduceIte,Cx,↓CA,↓aP E,J,DL];refine Fb (w / 256,k+1) (by dsimp only; omega) (by dsimp only; omega) ?_;rfl
 ·obtain rfl:w=0:=by omega
  rw[Ylp]at hk;have M:G9 8 u=k:=by omega
  rw[M];simp (disch:=first|omega|decide) only[push_cast,↓reduceIte,Cx,CH,↓CA]
def Mt(st:St)(b:D)(l:List UInt8):Prop:=(b=.slc 0 [] true∧l=[])∨∃ key,b=.row key l.length 0 l.length∧l≠[]∧st[key]?=some ⟨true,1,l.map Da,false⟩
def Iw(st:St)(b:D)(l m:List UInt8):D×St:=match b with
 |.row key _ _ _=>(.row key (l++m).length 0 (l++m).length,st.set key ⟨true,1,(l++m).map Da,false⟩)
 |_=>(.row st.length m.length 0 m.length,st++[⟨true,1,m.map Da,false⟩])
variable {l:List UInt8}
theorem Ybr{b:D}{I:List UInt8}(h:Mt st b l)(J:Mt st b I):l=I:=by
 rcases h with⟨rfl,rfl⟩ | ⟨key,rfl,hl,hk⟩
 ·rcases J with⟨_,rfl⟩ | ⟨key,h,_⟩
  ·rfl
  ·cases h
 ·rcases J with⟨h,_⟩ | ⟨M,h,_,E⟩
  ·cases h
  ·simp only[D.row.injEq]at h;obtain⟨rfl,_⟩:=h;rw[hk]at E;simp only[CX,Obj.mk.injEq,true_and,and_true]at E;exact O6 E
variable {m:List UInt8}
theorem Ywh{b:D}(h:StOK st):StOK (Iw st b l m).2:=by
 unfold Iw
 split
 ·exact h.set _ _ fun e=>by cases e
 ·exact h.app _ fun o E I=>by
   grind
theorem R2{b:D}(h:Mt st b l)(I:m≠[])(hl:l.length+m.length≤4294967296)(t:Bool):D7 st 1 1 b (.slc 1 (m.map Da) t)=some (Iw st b l m):=by
 have E:m.map Da≠[]:=by simpa using I
 have J:nz 1 (m.map Da)=1:=by
  cases hc:m.map Da with
  |nil=>exact absurd hc E
  |cons a r=>rfl
 rcases h with⟨rfl,rfl⟩ | ⟨key,rfl,M,hk⟩
 ·have:=pH Da st 1 0 1 m t (by decide) (by omega) (by simp at hl; omega);rw[J,Qg _ _ _ E,OH _ _ E,Bh]at this;exact this
 ·rw[ZX,hk];have he:Gt st (.slc 1 (m.map Da) t)=some (1,m.map Da):=(rfl);rw[he,gv l m false hl];simp only[Ag,Iw,Bh]
def Dy(st:St)(key:Nat)(l:List UInt8):St:=st.set key ⟨true,1,l.map Da,false⟩
theorem aD(st:St)(key:Nat)(l:List UInt8):(Dy st key l).length=st.length:=B5
theorem dD(h:key<st.length)(l:List UInt8):(Dy st key l)[key]?=some ⟨true,1,l.map Da,false⟩:=by simp[Dy,h]
theorem Ybq(st:St)(key:Nat)(l m:List UInt8):Dy (Dy st key l) key m=Dy st key m:=by simp[Dy]
theorem Tp(h:StOK st)(key:Nat)(l:List UInt8):StOK (Dy st key l):=h.set _ _ fun e=>by cases e
theorem lQ(h:key<st.length)(l m:List UInt8)(I:m≠[])(hl:l.length+m.length≤4294967296)(t:Bool) :
  D7 (Dy st key l) 1 1 (.row key l.length 0 l.length) (.slc 1 (m.map Da) t)=some (.row key (l++m).length 0 (l++m).length,Dy st key (l++m)):=by
 by_cases E:l=[]
 ·subst E;rw[ZX,dD h];have he:Gt (Dy st key []) (.slc 1 (m.map Da) t)=some (1,m.map Da):=(rfl);rw[he,gv [] m false hl];simp only[Ag,Bh];simp only[Dy,List.set_set]
 ·rw[R2 (.inr ⟨key,rfl,E,dD h l⟩) I hl t];simp only[Iw];simp only[Dy,List.set_set]
theorem Wa(h:key<st.length)(l:List UInt8)(x:UInt8)(hl:l.length<4294967296)(t:Bool) :
  D7 (Dy st key l) 1 1 (.row key l.length 0 l.length) (.slc 1 [Da x] t)=some (.row key (l++[x]).length 0 (l++[x]).length,Dy st key (l++[x])):=
 lQ h l [x] (by simp) (by simp; omega) t
theorem oZ{b:D}(h:Mt st b l)(I:m≠[]):∃ key st1,key<st1.length∧Iw st b l m=(.row key (l++m).length 0 (l++m).length,Dy st1 key (l++m))∧(StOK st→StOK st1)∧
  ∀ n,Iw st b l (m++n)=(.row key (l++(m++n)).length 0 (l++(m++n)).length,Dy st1 key (l++(m++n))):=by
 rcases h with⟨rfl,rfl⟩ | ⟨key,rfl,hl,hk⟩
 ·refine⟨st.length,st++[⟨true,1,[],false⟩],by simp,?_,fun h=>h.app _ fun o J M=>?_,fun n=>?_⟩
  ·simp[Iw,Dy]
  ·grind
  ·simp[Iw,Dy]
 ·have E:=(Ac.1 hk).1;exact⟨key,st,E,rfl,id,fun n=>rfl⟩
theorem Xi(h:StOK st)(hn:n=st.length):restrict keep n ⟨fr,st⟩=⟨GC (IY fr n [] keep),st⟩:=by
 subst hn; exact aP h
def Ic(u k:Nat):List UInt8:=(CG k).map fun i=>CJ (u / 2 ^ (8*(k - 1 - i)))
theorem bn(u k:Nat):(Ic u k).length=k:=by simp[Ic]
variable {k:Nat}
theorem yNc{u:Nat}(h:i<k):(Ic u k).take (i+1)=(Ic u k).take i++[CJ (u / 2 ^ (8*(k - 1 - i)))]:=by
 rw[List.take_add_one]
 congr 1
 simp[Ic,h]
def D1(n:Int):Nat:=(n % 18446744073709551616).toNat
def K7(a:Nat):Nat:=18446744073709551615 - a
theorem Yf8(a:Nat):K7 a<18446744073709551616:=by unfold K7; omega
def HT(n:Int):List UInt8:=
 if 0≤n then CJ (32+G9 8 (D1 n))::Ic (D1 n) (G9 8 (D1 n))
 else CJ (31 - G9 8 (K7 (D1 n)))::Ic (D1 n) (G9 8 (K7 (D1 n)))
theorem Yc1{a:Nat}(h:a<18446744073709551616):LZ .xor (.int .u64 (a:Int))=some (.int .u64 (K7 a:Int)):=by
 unfold K7
 have E:Kh .xor .u64 (if IntKind.u64.signed then -1 else IntKind.u64.max) (a:Int)=some ((18446744073709551615 - a:Nat):Int):=by
  unfold Kh;have J:IntKind.u64.bits=64:=rfl;have I:(if IntKind.u64.signed then(-1:Int)else IntKind.u64.max)=18446744073709551615:=by decide
  rw[I];simp only
  have:(CF IntKind.u64.bits 18446744073709551615 ^^^ CF IntKind.u64.bits (a:Int)) = ~~~ (BitVec.ofNat 64 a):=by
   rfl
  rw[this]
  show some (IntKind.wrap .u64 (((~~~ (BitVec.ofNat 64 a):BitVec 64).toNat:Nat):Int))=_
  rw[BitVec.toNat_not,BitVec.toNat_ofNat,A4 (by omega)]
  show some (IntKind.wrap .u64 ((2 ^ 64 - 1 - a:Nat):Int))=_
  congr 1
  rw[gS];omega
 simp only[LZ,E,Ag]
def UR(ds:List D)(st:St)(r:D×St):Prop:=∃ (b:D) (l:List UInt8) (n:Int),StOK st∧Mt st b l∧l.length≤4294967000∧ds=[b,.int .i64 n]∧r=Iw st b l (HT n)
noncomputable def RB:List D→St→Option (D×St):=EY UR
theorem Yir:Hs UR:=by
 rintro ds st r I ⟨b,l,n,_,hb,_,rfl,rfl⟩ ⟨b',J,M,_,E,_,h,rfl⟩;simp only[Aa,D.int.injEq,true_and,and_true]at h;obtain⟨rfl,rfl⟩:=h;rw[Ybr hb E]
theorem Yba{b:D}(n:Int)(E:StOK st)(I:Mt st b l)(J:l.length≤4294967000):RB [b,.int .i64 n] st=some (Iw st b l (HT n)):=KK Yir ⟨b,l,n,E,I,J,rfl,rfl⟩
theorem nG(u:Nat)(E:StOK st)(I:u<18446744073709551616):cP [.int .u64 (u:Int)] st=some (.int .i64 (G9 8 u:Int),st):=KK Ydl ⟨u,E,I,rfl,rfl⟩
theorem OP(h:key<n):Eu n [] key=some key:=if_pos h
theorem lG(n:Int):D1 n<18446744073709551616:=by unfold D1; omega
theorem dk(n:Int):n % 18446744073709551616=(D1 n:Int):=by unfold D1; omega
theorem S8(x:UInt8):E0 1 [Da x]=some (.slc 1 [Da x] true):=(rfl)
theorem SJ(st:St)(x:UInt8):DN st (Da x)=some (Da x):=(rfl)
theorem S4(x:UInt8):keys (Da x)=[]:=(rfl)
theorem nN(st:St)(k:Nat):E7 st (.int .u8) (.int .i64 (32+(k:Int)))=some (Da (CJ (32+k))):=by
 rfl
theorem Yab(st:St)(h:k≤31):E7 st (.int .u8) (.int .i64 (31 - (k:Int)))=some (Da (CJ (31 - k))):=by
 rw[Mj st (by omega),show(31 - (k:Int)).toNat=31 - k by omega]
theorem yR(st:St)(u m:Nat):E7 st (.int .u8) (.int .u64 ((u:Int) / 2 ^ m))=some (Da (CJ (u / 2 ^ m))):=by
 rfl
/- the loop's part: the tag is laid -/
theorem lJ(T:Tbl)(st1:St)(key:Nat)(E:key<st1.length)(M:StOK st1)(l0:List UInt8)(n:Int)(k:Nat)(hk:k≤8)(hl:l0.length≤4294967200)(fr:Frame)(Q:Ex→Frame→St→Prop)
  (V:fr 0=.row key l0.length 0 l0.length) (Y:fr 1=.int .i64 n) (h6:fr 6=.int .i64 (k:Int)) (N:fr 30=.int .i64 (k:Int)) (O:fr 31=.int .i64 0)
  (hQ:∀ I,I 0=.row key (l0++Ic (D1 n) k).length 0 (l0++Ic (D1 n) k).length→Q (.exit 0) I (Dy st1 key (l0++Ic (D1 n) k))) :
  @wW GG T (.loop [0,1,6,30,31] bA) fr (Dy st1 key l0) ⟨Q⟩:=by
 have hlen:=aD st1 key;have U:∀ (fr:Frame) (m:List UInt8),restrict [0,1,6,30,31] (Dy st1 key l0).length ⟨fr,Dy st1 key m⟩=⟨GC (IY fr st1.length [] [0,1,6,30,31]),Dy st1 key m⟩:=fun fr m=>by rw[Xi (Tp M key m) (by rw[hlen,hlen]),hlen]
 refine Gy (fun i:Nat=>[(0,.row key (l0++(Ic (D1 n) k).take i).length 0 (l0++(Ic (D1 n) k).take i).length),(1,.int .i64 n),(6,.int .i64 (k:Int)),(30,.int .i64 (k:Int)),(31,.int .i64 (i:Int))])
  (fun i=>Dy st1 key (l0++(Ic (D1 n) k).take i)) (fun i=>i≤k) (fun i=>k - i) 0 ?_ (by omega) ?_
 ·rw[U];simp (disch:=omega) only[push_cast,↓CA,V,Y,h6,N,O,OP] <;> rfl
 intro i hi;unfold bA;have hb:=bn (D1 n) k;have ht:((Ic (D1 n) k).take i).length=i:=by rw[AQ]; omega
 simp (disch:=first|omega|decide) only[push_cast,↓reduceIte,Cx];refine E4 (fun h2=>?_) (fun h2=>?_)
 ·have e1:((8*((k:Int) - 1 - (i:Int)))).toNat=8*(k - 1 - i):=by omega
  have J:=fun x=>Wa (st:=st1) E (l0++(Ic (D1 n) k).take i) x (by rw[Ab]; omega) true;simp (disch:=first|omega|decide) only[push_cast,↓reduceIte,Cx,VJ,dk,Fa,Mw,DL,Mx,e1,yR,SJ,S4,S8,J,↓U,E];refine Fb (i+1) (by omega) (by omega) ?_;rw[yNc (by omega),← Ah];rfl
 ·obtain rfl:i=k:=by omega
  have e2:(Ic (D1 n) i).take i=Ic (D1 n) i:=AU (by omega);rw[e2];simp (disch:=first|omega|decide) only[push_cast];exact hQ _ rfl
theorem Ypg:IContract Tryz.prog GG 202 RB:=by
 refine IB (T:=tb [] [(209,cP)]) uz (DA all_nil (all_cons Ypb all_nil)) ?_;intro ds st r hr;obtain⟨b,l,n,O,hb,hl,rfl,rfl⟩:=Ii hr;unfold jw;have V:=nG (st:=st) (D1 n) O (lG n);have Y:=Qr 8 (D1 n);have hu:=lG n
 by_cases hn:n<0
 ·have aa:=nG (st:=st) (K7 (D1 n)) O (Yf8 _);have ab:=Qr 8 (K7 (D1 n));have U:HT n=[CJ (31 - G9 8 (K7 (D1 n)))]++Ic (D1 n) (G9 8 (K7 (D1 n))):=if_neg (by omega);rw[U];generalize G9 8 (K7 (D1 n))=k at*;obtain⟨key,st1,J,M,N,I⟩:=oZ hb (m:=[CJ (31 - k)]) (by simp);have E:=R2 hb (m:=[CJ (31 - k)]) (by simp) (by simp; omega) true;rw[M]at E;have hm:=I (Ic (D1 n) k);simp only[Ax,Bk]at E;rw[hm,← Ah];simp (disch:=first|omega|decide) only[push_cast,↓reduceIte,Cx,hn,VJ,dk,V,Yc1,aa,DL,Fa,Yab,nN,SJ,S4,S8,E];refine lJ _ st1 key J (N O) (l++[CJ (31 - k)]) n k ab (by simp; omega) _ _ (by simp only[push_cast,↓reduceIte,Cx]) (by simp only[push_cast,↓reduceIte,Cx]) (by simp only[push_cast,↓reduceIte,Cx]) (by simp only[push_cast,↓reduceIte,Cx]) (by simp only[push_cast,↓reduceIte]) fun ac hf=>?_;simp (disch:=first|omega|decide) only[push_cast,↓reduceIte,hf]
 ·have U:HT n=[CJ (32+G9 8 (D1 n))]++Ic (D1 n) (G9 8 (D1 n)):=if_pos (by omega);rw[U];generalize G9 8 (D1 n)=k at*;obtain⟨key,st1,J,M,N,I⟩:=oZ hb (m:=[CJ (32+k)]) (by simp);have E:=R2 hb (m:=[CJ (32+k)]) (by simp) (by simp; omega) true;rw[M]at E;have hm:=I (Ic (D1 n) k);simp only[Ax,Bk]at E;rw[hm,← Ah];simp (disch:=first|omega|decide) only[push_cast,↓reduceIte,Cx,hn,VJ,dk,V,DL,nN,SJ,S4,S8,E];refine lJ _ st1 key J (N O) (l++[CJ (32+k)]) n k Y (by simp; omega) _ _ (by simp only[push_cast,↓reduceIte,Cx]) (by simp only[push_cast,↓reduceIte,Cx]) (by simp only[push_cast,↓reduceIte,Cx]) (by simp only[push_cast,↓reduceIte,Cx]) (by simp only[push_cast,↓reduceIte]) fun ac hf=>?_;simp (disch:=first|omega|decide) only[push_cast,↓reduceIte,hf]
inductive Val where
 |int (n:Int)
 |bytes (b:List UInt8)
 |list (l:List Val)
instance:Inhabited Val:=⟨.int 0⟩
def vC(k n:Int)(B L:List D):List D:=[.int .i64 k,.int .i64 n,.slc (nz 1 B) B false,.slc (nz 4 L) L false]
def vD(k n:Int)(B L:List D):D:=.agg (vC k n B L)
mutual
def C0:Val→D
 |.int n=>vD 1 n [] []
 |.bytes b=>vD 2 0 (b.map Da) []
 |.list l=>vD 3 0 [] (Lx l)
def Lx:List Val→List D
 |[]=>[]
 |v::l=>C0 v::Lx l
end
mutual
def DU:Val→Nat
 |.int _=>0
 |.bytes _=>0
 |.list l=>Ht l+1
def Ht:List Val→Nat
 |[]=>0
 |v::l=>max (DU v) (Ht l)
end
def DT(c:UInt8):List UInt8:=if c=0 then [0,255]else [c]
mutual
def Dk:Val→List UInt8
 |.int n=>HT n
 |.bytes b=>48::(b.flatMap DT++[0,0])
 |.list l=>64::(Po l++[0])
def Po:List Val→List UInt8
 |[]=>[]
 |v::l=>Dk v++Po l
end
theorem nf:∀ l:List Val,Lx l=l.map C0
 |[]=>by simp[Lx]
 |v::l=>by simp[Lx,nf l]
theorem ef:∀ l:List Val,Po l=l.flatMap Dk
 |[]=>by simp[Po]
 |v::l=>by simp[Po,ef l]
theorem dX:∀ {l:List Val} {v:Val},v∈l→DU v≤Ht l
 |a::l,v,h=>by
  rw[Ht];rcases Aw.1 h with rfl | h
  ·omega
  ·exact AS (dX h) (Nat.le_max_right _ _)
theorem M8(n:Int):C0 (.int n)=vD 1 n [] []:=by simp[C0]
theorem Nd(b:List UInt8):C0 (.bytes b)=vD 2 0 (b.map Da) []:=by simp[C0]
theorem O5(l:List Val):C0 (.list l)=vD 3 0 [] (l.map C0):=by simp[C0,nf]
theorem ee(n:Int):Dk (.int n)=HT n:=by simp[Dk]
theorem Wx(b:List UInt8):Dk (.bytes b)=48::(b.flatMap DT++[0,0]):=by simp[Dk]
theorem M9(l:List Val):Dk (.list l)=64::(l.flatMap Dk++[0]):=by simp[Dk,ef]
theorem Yg9(n:Int):DU (.int n)=0:=by simp[DU]
theorem yT(b:List UInt8):DU (.bytes b)=0:=by simp[DU]
theorem fi(l:List Val):DU (.list l)=Ht l+1:=by simp[DU]
def Tz(v:Val):List D:=match v with
 |.int n=>vC 1 n [] []
 |.bytes b=>vC 2 0 (b.map Da) []
 |.list l=>vC 3 0 [] (Lx l)
theorem Nc(v:Val):∃ k n B L,Tz v=vC k n B L∧C0 v=vD k n B L:=by
 cases v
 ·exact⟨_,_,_,_,rfl,by simp[C0]⟩
 ·exact⟨_,_,_,_,rfl,by simp[C0]⟩
 ·exact⟨_,_,_,_,rfl,by simp[C0]⟩
theorem Lg{k n k' E:Int}{B L I J:List D}(h:vD k n B L=vD k' E I J):k=k'∧n=E∧B=I∧L=J:=by
 simp only[vD,vC,D.agg.injEq,Aa,D.int.injEq,D.slc.injEq,true_and,and_true]at h;grind
mutual
theorem eS:∀ {v v':Val},C0 v=C0 v'→v=v'
 |.int n,.int E,h=>by rw[M8,M8]at h; rw[(Lg h).2.1]
 |.bytes b,.bytes b',h=>by rw[Nd,Nd]at h; rw[O6 (Lg h).2.2.1]
 |.list l,.list I,h=>by
  have:=h;simp only[C0]at this;rw[oS (Lg this).2.2.2]
 |.int n,.bytes b,h=>by rw[M8,Nd]at h; exact absurd (Lg h).1 (by decide)
 |.int n,.list b,h=>by rw[M8,O5]at h; exact absurd (Lg h).1 (by decide)
 |.bytes n,.int b,h=>by rw[M8,Nd]at h; exact absurd (Lg h).1 (by decide)
 |.bytes n,.list b,h=>by rw[Nd,O5]at h; exact absurd (Lg h).1 (by decide)
 |.list n,.int b,h=>by rw[M8,O5]at h; exact absurd (Lg h).1 (by decide)
 |.list n,.bytes b,h=>by rw[Nd,O5]at h; exact absurd (Lg h).1 (by decide)
theorem oS:∀ {l E:List Val},Lx l=Lx E→l=E
 |[],[],_=>rfl
 |[],_::_,h=>by simp[Lx]at h
 |_::_,[],h=>by simp[Lx]at h
 |a::l,b::E,h=>by
  simp only[Lx,Aa]at h;rw[eS h.1,oS h.2]
end
theorem R6{v v':Val}:C0 v=C0 v'↔v=v':=⟨eS,fun h=>by rw[h]⟩
theorem Ycy{l E:List Val}:l.map C0=E.map C0↔l=E:=⟨NQ fun _ _=>eS,fun h=>by rw[h]⟩
theorem Oe(k n:Int)(B L:List D):Dv (vD k n B L)=some (vC k n B L):=(rfl)
theorem S0:Dv (.agg [.int .i64 0,.int .i64 0,.slc 0 [] true,.slc 0 [] true])=some [.int .i64 0,.int .i64 0,.slc 0 [] true,.slc 0 [] true]:=(rfl)
theorem QR(lent:Bool)(k n:Int)(B L:List D):Dn (some ⟨false,1,vC k n B L,lent⟩) 1 false 0=some (.int .i64 k):=(rfl)
theorem gG(lent:Bool)(k n:Int)(B L:List D):Dn (some ⟨false,1,vC k n B L,lent⟩) 1 false 1=some (.int .i64 n):=(rfl)
theorem gH(lent:Bool)(k n:Int)(B L:List D):Dn (some ⟨false,1,vC k n B L,lent⟩) 1 false 2=some (.slc (nz 1 B) B false):=(rfl)
theorem Zn(lent:Bool)(k n:Int)(B L:List D):Dn (some ⟨false,1,vC k n B L,lent⟩) 1 false 3=some (.slc (nz 4 L) L false):=(rfl)
theorem L4(lent:Bool)(k n:Int)(B L:List D):Dn (some ⟨false,1,vC k n B L,lent⟩) 4 true 0=some (vD k n B L):=(rfl)
theorem TS(k n:Int)(B L:List D):DQ (some ⟨false,1,[.int .i64 0,.int .i64 0,.slc 0 [] true,.slc 0 [] true],false⟩) 4 0 (vD k n B L)=some ⟨false,1,vC k n B L,false⟩:=(rfl)
theorem rM(st:St)(k n:Int)(B L:List D):EV st 4 true (.eptr (vD k n B L) 0)=some (vD k n B L):=(rfl)
theorem Zj(st:St)(k n:Int)(B L:List D):DN st (vD k n B L)=some (vD k n B L):=by
 simp only[vD,vC,DN,DM,Du,Kj];rfl
theorem Yv(k n:Int)(B L:List D):keys (vD k n B L)=[]:=(rfl)
theorem US(k n:Int)(B L:List D):(vC k n B L).flatMap hk=[]:=(rfl)
theorem Ub(m:Nat)(k n:Int)(B L:List D):∀ x∈vC k n B L,Ed m [] x=x:=by
 intro x E;simp only[vC,Aw,AB,or_false]at E;rcases E with rfl | rfl | rfl | rfl <;> rfl
theorem Yso(m:Nat)(σ:List Nat)(k n:Int)(B L:List D):(vC k n B L).map (Ed m σ)=vC k n B L:=(rfl)
theorem rG(st:St)(l:List Val)(t:Bool)(i:Nat)(h:i<l.length):FY st 4 (.slc (nz 4 (l.map C0)) (l.map C0) t) (.int .i64 (i:Int))=some (.eptr (C0 (l.getD i default)) 0):=by
 have:=Lh st 4 C0 l t .i64 (i:Int) (by omega) (by omega);grind
theorem rh:((2:Int)=1)=False:=by simp
theorem rf:((3:Int)=1)=False:=by simp
theorem re:((3:Int)=2)=False:=by simp
noncomputable def V0(N:Nat):List D→Option D:=Dc (α:=Val) (fun v=>[C0 v]) (fun v=>DU v<N∧(Dk v).length≤4294967000) (fun v=>.tup [.int .i64 (DU v:Int),.bool true])
theorem pN(N:Nat)(v:Val)(h:DU v<N∧(Dk v).length≤4294967000):V0 N [C0 v]=some (.tup [.int .i64 (DU v:Int),.bool true]):=
 DW (fun a b h=>by simp only[Aa,and_true,R6]at h; rw[h]) v h
theorem lT:∀ b:List UInt8,b.length≤(b.flatMap DT).length
 |[]=>by simp
 |c::b=>by
  have:=lT b;have E:1≤(DT c).length:=by unfold DT; split <;> simp
  grind
theorem Yf9(n:Int):1≤(HT n).length:=by unfold HT; split <;> simp
theorem lU:∀ v:Val,1≤(Dk v).length
 |.int n=>by rw[ee]; exact Yf9 n
 |.bytes b=>by rw[Wx]; simp
 |.list l=>by rw[M9]; simp
theorem fo:∀ l:List Val,l.length≤(l.flatMap Dk).length
 |[]=>by simp
 |v::l=>by
  have:=fo l;have:=lU v;grind
theorem lV:∀ {l:List Val} {v:Val},v∈l→(Dk v).length≤(l.flatMap Dk).length
 |a::l,v,h=>by
  simp only[Au,Ab];rcases Aw.1 h with rfl | h
  ·omega
  ·have:=lV h; omega
mutual
theorem Yg8:∀ v:Val,DU v≤(Dk v).length
 |.int n=>by simp[DU]
 |.bytes b=>by simp[DU]
 |.list l=>by
  have:=fj l;simp only[DU,Dk,Ak,Ab,Ap];omega
theorem fj:∀ l:List Val,Ht l≤(Po l).length
 |[]=>by simp[Ht]
 |v::l=>by
  have:=Yg8 v;have:=fj l;simp only[Ht,Po,Ab];omega
end
def IV:List Val→Nat
 |[]=>0
 |v::l=>max (IV l) (DU v)
theorem mC:∀ l:List Val,IV l.reverse=Ht l:=by
 have h:∀ (l m:List Val),IV (l++m)=max (IV l) (IV m):=by
  intro l m
  induction l with
  |nil=>simp[IV]
  |cons a l E=>simp only[Ae,IV,E]; omega
 intro l
 induction l with
 |nil=>simp[IV,Ht]
 |cons a l E=>rw[List.reverse_cons,h,E]; simp only[IV,Ht]; omega
theorem yU(l:List Val)(v:Val):Ht (l++[v])=max (Ht l) (DU v):=by
 rw[← mC,← mC l,List.reverse_append];rfl
theorem O4[Inhabited α](l:List α)(h:i<l.length):l.take (i+1)=l.take i++[l.getD i default]:=by
 simp_all
set_option maxHeartbeats 4000000 in
set_option maxRecDepth 20000 in
theorem tt:∀ N:Nat,Contract Tryz.prog GG 189 (V0 N)
 |0=>by
  intro w g ds vs d hd;obtain⟨a,_,hp,_⟩:=eG hd;omega
 |N+1=>by
  refine D8 (T:=tb [(189,V0 N)] []) yBe (DA (all_cons (tt N) all_nil) all_nil) ?_;rintro v ⟨hN,hl⟩;unfold iZ
  cases v with
  |int n=>
   rw[M8,Yg9];simp (disch:=first|omega|decide) only[push_cast,↓reduceIte,Cx,↓CA,Oe,QR,gH,Zn]
  |bytes b=>
   rw[Nd,yT];simp (disch:=first|omega|decide) only[push_cast,↓reduceIte,Cx,↓CA,Oe,QR,gG,Zn,rh]
  |list l=>
   rw[O5,fi];rw[fi]at hN;rw[M9]at hl;have ah:=fo l;have U:=fj l;rw[ef]at U;simp only[Ak,Ab,Ap]at hl;simp (disch:=first|omega|decide) only[push_cast,↓reduceIte,Cx,Oe,QR,gG,gH,Zn,rf,re]
   refine Gy (fun i:Nat=>[(2,.int .i64 (Ht (l.take i):Int)),(45,.slc (nz 4 (l.map C0)) (l.map C0) false),(46,.int .i64 (l.length:Int)),(47,.int .i64 (i:Int))])
    (fun _=>[⟨false,1,vC 3 0 [] (l.map C0),false⟩]) (fun i=>i≤l.length) (fun i=>l.length - i) 0 (by simp only[push_cast,↓reduceIte,Cx,↓CA,US,Yso] <;> rfl) (by omega) ?_
   intro i hi;unfold jr;simp (disch:=first|omega|decide) only[push_cast,↓reduceIte,Cx];refine E4 (fun h2=>?_) (fun h2=>?_)
   ·have E:i<l.length:=by omega
    have O:=rG [⟨false,1,vC 3 0 [] (l.map C0),false⟩] l false i E;have I:l.getD i default∈l:=by rw[Ao,An E]; exact By E
    have V:=dX I;have Y:=lV I;have hc:=pN N (l.getD i default) ⟨by omega,by omega⟩;have J:=O4 l E;obtain⟨x,aa⟩:∃ x,l.getD i default=x:=⟨_,rfl⟩;rw[aa]at O hc J V Y;have M:=yU (l.take i) x;rw[← J]at M;obtain⟨k,n,B,L,hC,hD⟩:=Nc x;rw[hD]at O hc;simp (disch:=first|omega|decide) only[push_cast,↓reduceIte,Cx,CC,Cy,O,rM,S0,TS,L4,Zj,Yv,hc,DL];refine Fb (i+1) (by omega) (by omega) ?_;rw[show((Ht (l.take (i+1)):Nat):Int)=max (Ht (l.take i):Int) (DU x:Int) by rw[M]; omega];rfl
   ·obtain rfl:i=l.length:=by omega
    have e2:l.take l.length=l:=Be;rw[e2];simp (disch:=first|omega|decide) only[push_cast,↓reduceIte,Cx,DL]
theorem E2(st:St)(o:Obj):(st++[o])[st.length]?=some o:=List.getElem?_concat_length
theorem lz(st:St)(o o':Obj):(st++[o]).set st.length o'=st++[o']:=by simp
theorem cN(n:Nat)(d:D):Ed n [] d=GW n d:=by
 have J:∀ (f:Nat→D) (key:Nat),Ix f (Eu n [] key)=if key<n then f key else .junk:=by
  intro f key; unfold Eu; split <;> rfl
 have E:∀ d,F2 n [] d=GV n d:=by
  intro d;cases d <;> simp only[F2,GV,J]
 have I:∀ d,Ek n [] d=F4 n d:=by
  intro d
  cases d with
  |clo f l=>simp only[Ek,F4,D.clo.injEq,true_and]; exact BR fun x _=>E x
  |_=>simp only[Ek,F4]; exact E _
 cases d with
 |agg l=>simp only[Ed,GW,D.agg.injEq]; exact BR fun x _=>I x
 |tup l=>rfl
 |_=>simp only[Ed,GW]; exact I _
theorem Yui(h:Ed n [] x=x):∀ k∈hk x,k<n:=by
 have E:∀ (f:Nat→D) (key:Nat),(∀ k,f k≠.junk)→Ix f (Eu n [] key)=f key→key<n:=by
  intro f key hf h;unfold Eu at h
  split at h
  ·assumption
  ·exact absurd h.symm (hf key)
 have J:∀ x,F2 n [] x=x→∀ k∈FN x,k<n:=by
  intro x h k hk
  cases x with
  |row key tot off len=>simp only[FN,AM]at hk; subst hk; exact E (fun k=>.row k tot off len) _ (fun k e=>by cases e) h
  |bsl key off j sz ag=>simp only[FN,AM]at hk; subst hk; exact E (fun k=>.bsl k off j sz ag) _ (fun k e=>by cases e) h
  |ptr key off=>simp only[FN,AM]at hk; subst hk; exact E (fun k=>.ptr k off) _ (fun k e=>by cases e) h
  |rptr key tot i off=>simp only[FN,AM]at hk; subst hk; exact E (fun k=>.rptr k tot i off) _ (fun k e=>by cases e) h
  |mapv key=>simp only[FN,AM]at hk; subst hk; exact E .mapv _ (fun k e=>by cases e) h
  |_=>simp[FN]at hk
 have M:∀ x,Ek n [] x=x→∀ k∈Dm x,k<n:=by
  intro x h k hk
  cases x with
  |clo f l=>
   simp only[Dm,Bj]at hk;obtain⟨y,I,hk⟩:=hk;simp only[Ek,D.clo.injEq,true_and]at h;exact J y (Pg h y I) k hk
  |_=>unfold Ek at h; unfold Dm at hk; exact J _ h k hk
 intro k hk
 cases x with
 |agg l=>
  simp only[PI.hk,Bj]at hk;obtain⟨y,I,hk⟩:=hk;simp only[Ed,D.agg.injEq]at h;exact M y (Pg h y I) k hk
 |tup l=>simp[PI.hk,Dm,FN]at hk
 |_=>unfold Ed at h; unfold PI.hk at hk; exact M _ h k hk
theorem StOK.keys(h:StOK st):∀ o∈st,o.row=false→∀ x∈o.els,∀ k∈hk x,k<st.length:=fun o E I x J=>Yui (h o E I x J)
theorem jf{l:St}(h:StOK st)(hn:n=st.length)(E:∀ k∈Lu fr keep,k<n):restrict keep n ⟨fr,st++l⟩=⟨GC (IY fr n [] keep),st⟩:=by
 subst hn;refine yEp h h.keys fun s I k hk=>E k ?_;rw[dK,Bj];grind
theorem sm{l:St}(h:StOK st)(hn:n=st.length):cut n (st++l)=st:=by
 subst hn;unfold cut;rw[show(st++l).take st.length=st by simp];refine LH fun o E=>?_;obtain⟨row,sz,els,lent⟩:=o
 cases row with
 |true=>rfl
 |false=>
  show(⟨false,sz,els.map (GW st.length),lent⟩:Obj)=_
  rw[LH fun x I=>(cN st.length x).symm.trans (h _ E rfl x I)]
theorem eP(h:StOK st)(k n:Int)(B L:List D)(lent:Bool):StOK (st++[⟨false,1,vC k n B L,lent⟩]):=h.app _ fun o E J x I=>by
 simp only[AM]at E;subst E;exact Ub _ _ _ _ _ x I
theorem zl{b:D}(h:Mt st b l)(m:St):Mt (st++m) b l:=by
 rcases h with⟨rfl,rfl⟩ | ⟨key,rfl,hl,hk⟩
 ·exact .inl ⟨rfl,rfl⟩
 ·exact .inr ⟨key,rfl,hl,by rw[At (Ac.1 hk).1]; exact hk⟩
theorem o9{els:List D}{lent:Bool}(hk:st[key]?=some ⟨true,sz,els,lent⟩){j:Nat}{o:PI.Obj}(hj:st[j]?=some o)(I:o.row=false)(m:List UInt8):(Dy st key m)[j]?=some o:=by
 have E:key≠j:=by
  grind
 rw[Dy,AL E];exact hj
theorem qH{b:D}(h:Mt st b l)(J:m≠[]):∃ key st1,key<st1.length∧Iw st b l m=(.row key (l++m).length 0 (l++m).length,Dy st1 key (l++m))∧(StOK st→StOK st1)∧
  (∀ n,Iw st b l (m++n)=(.row key (l++(m++n)).length 0 (l++(m++n)).length,Dy st1 key (l++(m++n))))∧∀ (j:Nat) (o:PI.Obj),st[j]?=some o→o.row=false→∀ n,(Dy st1 key n)[j]?=some o:=by
 rcases h with⟨rfl,rfl⟩ | ⟨key,rfl,hl,hk⟩
 ·refine⟨st.length,st++[⟨true,1,[],false⟩],by simp,?_,fun h=>h.app _ fun o M E=>?_,fun n=>?_,fun j o hj E n=>?_⟩
  ·simp[Iw,Dy]
  ·grind
  ·simp[Iw,Dy]
  ·exact o9 (E2 st ⟨true,1,[],false⟩) (by rw[At (Ac.1 hj).1]; exact hj) E n
 ·have I:=(Ac.1 hk).1;exact⟨key,st,I,rfl,id,fun n=>rfl,fun j o hj E n=>o9 hk hj E n⟩
def Rj(st:St)(b:D)(l:List UInt8)(v:Val):D×St:=Iw (st++[⟨false,1,Tz v,false⟩]) b l (Dk v)
def rW(N:Nat)(ds:List D)(st:St)(r:D×St):Prop:=∃ (v:Val),StOK st∧DU v<N∧(Dk v).length≤4294967000∧ds=[.slc 0 [] true,C0 v]∧r=Rj st (.slc 0 [] true) [] v
def rX(N:Nat)(ds:List D)(st:St)(r:D×St):Prop:=∃ (key:Nat) (l:List UInt8) (v:Val),StOK st∧DU v<N∧l.length+(Dk v).length≤4294967000∧l≠[]∧st[key]?=some ⟨true,1,l.map Da,false⟩∧ds=[.row key l.length 0 l.length,C0 v]∧r=Iw st (.row key l.length 0 l.length) l (Dk v)
noncomputable def eF(N:Nat):List D→St→Option (D×St):=EY (rW N)
noncomputable def RR(N:Nat):List D→St→Option (D×St):=EY (rX N)
theorem Yb6(N:Nat):Hs (rX N):=by
 rintro ds st r J ⟨key,l,v,_,_,_,_,hk,rfl,rfl⟩ ⟨I,M,v',_,_,_,_,E,h,rfl⟩;simp only[Aa,D.row.injEq,and_true,R6]at h;obtain⟨⟨rfl,_⟩,rfl⟩:=h;rw[hk]at E;simp only[CX,Obj.mk.injEq,true_and,and_true]at E;rw[O6 E]
theorem Yb7(N:Nat):Hs (rW N):=by
 rintro ds st r E ⟨v,_,_,_,rfl,rfl⟩ ⟨v',_,_,_,h,rfl⟩;simp only[Aa,and_true,true_and,R6]at h;rw[h]
theorem xQ{G:C9}{T:Tbl}{c:PC}{res:List PRes}{K I:D→St→Prop}(h:@wW G T c fr st ⟨@Gm res ⟨K⟩⟩)(hk:∀ d st,K d st→I d st):@wW G T c fr st ⟨@Gm res ⟨I⟩⟩:=by
 refine Zz (Kk _ _ _ _ _ (Ir h) fun e E st' h=>?_)
 have fin:@on _ (DI ⟨E,st'⟩ res) ⟨fun l=>K (Dz l) st'⟩→@on _ (DI ⟨E,st'⟩ res) ⟨fun l=>I (Dz l) st'⟩:=by
  unfold on;grind
 cases e with
 |next=>rw[oD]at h ⊢; exact fin h
 |ret=>rw[nk]at h ⊢; exact fin h
 |exit id=>unfold Gm at h; exact h.elim
 |panic t d=>unfold Gm at h; exact h.elim
theorem Yvw(c:UInt8):Dd .eql (Da c) (.int .u8 0)=some (.bool (decide (c=0))):=by
 unfold Da;rw[tA]
 congr 2
 rw[decide_eq_decide];refine⟨fun h=>?_,fun h=>by subst h; rfl⟩;apply UInt8.toNat_inj.1;grind
theorem Ytd:E0 1 [.int .u8 0,.int .u8 0]=some (.slc 1 [.int .u8 0,.int .u8 0] true):=(rfl)
theorem Zq(n:Int):E0 1 [.int .u8 n]=some (.slc 1 [.int .u8 n] true):=(rfl)
theorem gh:Da 48=.int .u8 48:=(rfl)
theorem gg:Da 64=.int .u8 64:=(rfl)
theorem ru:Da 0=.int .u8 0:=(rfl)
theorem Vp:Da 255=.int .u8 255:=(rfl)
/- the bytes of a string,laid behind what is there -/
theorem Ycr(T:Tbl)(st1:St)(key:Nat)(E:key<st1.length)(O:StOK st1)(l0 B:List UInt8)(hl:l0.length+(B.flatMap DT).length≤4294967100)(fr:Frame)(Q:Ex→Frame→St→Prop)
  (h0:fr 0=.row key l0.length 0 l0.length) (h1:fr 23=.slc (nz 1 (B.map Da)) (B.map Da) false) (h6:fr 24=.int .i64 (B.length:Int)) (U:fr 25=.int .i64 0)
  (hQ:∀ J,J 0=.row key (l0++B.flatMap DT).length 0 (l0++B.flatMap DT).length→Q (.exit 1) J (Dy st1 key (l0++B.flatMap DT))) :
  @wW GG T (.loop [0,23,24,25] bB) fr (Dy st1 key l0) ⟨Q⟩:=by
 have hlen:=aD st1 key;have N:∀ (fr:Frame) (m:List UInt8),restrict [0,23,24,25] (Dy st1 key l0).length ⟨fr,Dy st1 key m⟩=⟨GC (IY fr st1.length [] [0,23,24,25]),Dy st1 key m⟩:=fun fr m=>by rw[Xi (Tp O key m) (by rw[hlen,hlen]),hlen]
 have hB:=lT B
 refine Gy (fun i:Nat=>[(0,.row key (l0++(B.take i).flatMap DT).length 0 (l0++(B.take i).flatMap DT).length),(23,.slc (nz 1 (B.map Da)) (B.map Da) false),(24,.int .i64 (B.length:Int)),(25,.int .i64 (i:Int))])
  (fun i=>Dy st1 key (l0++(B.take i).flatMap DT)) (fun i=>i≤B.length) (fun i=>B.length - i) 0 ?_ (by omega) ?_
 ·rw[N];simp (disch:=omega) only[push_cast,↓CA,h0,h1,h6,U,OP] <;> rfl
 intro i hi;unfold bB;simp (disch:=first|omega|decide) only[push_cast,↓reduceIte,Cx];refine E4 (fun h2=>?_) (fun h2=>?_)
 ·have V:i<B.length:=by omega
  have Y:FY (Dy st1 key (l0++(B.take i).flatMap DT)) 1 (.slc (nz 1 (B.map Da)) (B.map Da) false) (.int .i64 (i:Int))=some (.eptr (Da (B.getD i default)) 0):=by
   have:=Lh (Dy st1 key (l0++(B.take i).flatMap DT)) 1 Da B false .i64 (i:Int) (by omega) (by omega);grind
  have a2:=O4 B V
  have a1:((B.take i).flatMap DT).length+(DT (B.getD i default)).length≤(B.flatMap DT).length:=by
   have e:B=B.take (i+1)++B.drop (i+1):=(BA _ _).symm;grind
  generalize a3:B.getD i default=c at*;have ac:1≤(DT c).length:=by unfold DT; split <;> simp
  have I:=fun x=>Wa (st:=st1) E (l0++(B.take i).flatMap DT) x (by rw[Ab]; omega) true
  have M:l0++(B.take (i+1)).flatMap DT=l0++(B.take i).flatMap DT++DT c:=by
   grind
  by_cases hc:c=0
  ·subst hc;have aa:Dd .eql (Da 0) (.int .u8 0)=some (.bool true):=(rfl)
   have h3:=Wa (st:=st1) E (l0++(B.take i).flatMap DT++[0]) 255 (by
    grind) true
   rw[Vp]at h3;simp (disch:=first|omega|decide) only[push_cast,↓reduceIte,Cx,Y,aV,SJ,S4,S8,Zq,I,aa,h3,DL,↓N,E];refine Fb (i+1) (by omega) (by omega) ?_;rw[M,show l0++(B.take i).flatMap DT++DT 0=l0++(B.take i).flatMap DT++[0]++[255] by simp[DT]]
   first | rfl | (simp only[push_cast,↓EC,↓reduceIte,Cx,CE,CC,Cy,Nat.reduceSub,CB,CR,CH,CQ,CI,Cz,CO,CN,CV,CP,↓CA] <;> rfl)
  ·simp (disch:=first|omega|decide) only[push_cast,↓reduceIte,Cx,Y,aV,SJ,S4,S8,I,Yvw,hc,decide_false,DL,↓N,E];refine Fb (i+1) (by omega) (by omega) ?_;rw[M,show l0++(B.take i).flatMap DT++DT c=l0++(B.take i).flatMap DT++[c] by simp[DT,hc]]
   first | rfl | (simp only[push_cast,↓EC,↓reduceIte,Cx,CE,CC,Cy,Nat.reduceSub,CB,CR,CH,CQ,CI,Cz,CO,CN,CV,CP,↓CA] <;> rfl)
 ·obtain rfl:i=B.length:=by omega
  rw[Be];simp (disch:=first|omega|decide) only[push_cast];exact hQ _ rfl
theorem zp{v:Val}{N:Nat}(E:StOK st)(I:DU v<N)(J:l.length+(Dk v).length≤4294967000)(M:l≠[])(O:st[key]?=some ⟨true,1,l.map Da,false⟩) :
  RR N [.row key l.length 0 l.length,C0 v] st=some (.row key (l++Dk v).length 0 (l++Dk v).length,st.set key ⟨true,1,(l++Dk v).map Da,false⟩):=KK (Yb6 N) ⟨key,l,v,E,I,J,M,O,rfl,rfl⟩
theorem vz[Inhabited α](f:α→List UInt8)(L:List α)(h:i<L.length):((L.take i).flatMap f).length+(f (L.getD i default)).length≤(L.flatMap f).length:=by
 have e:L=L.take (i+1)++L.drop (i+1):=(BA _ _).symm;have:=congrArg (fun l=>(l.flatMap f).length) e;simp only[List.flatMap_append,Ab,O4 L h,Au,BG,Ad]at this;omega
/- the values of a list,laid behind what is there -/
theorem Ycq(N:Nat)(st1:St)(key:Nat)(E:key<st1.length)(J:StOK st1)(l0:List UInt8)(aa:l0≠[])(L:List Val)(hd:Ht L<N)(hl:l0.length+(L.flatMap Dk).length≤4294967000)(fr:Frame)(Q:Ex→Frame→St→Prop)
  (h0:fr 0=.row key l0.length 0 l0.length) (h1:fr 46=.slc (nz 4 (L.map C0)) (L.map C0) false) (h6:fr 47=.int .i64 (L.length:Int)) (ab:fr 48=.int .i64 0)
  (hQ:∀ O,O 0=.row key (l0++L.flatMap Dk).length 0 (l0++L.flatMap Dk).length→Q (.exit 3) O (Dy st1 key (l0++L.flatMap Dk))) :
  @wW GG (tb [] [(202,RB),(190,RR N)]) (.loop [0,46,47,48] bC) fr (Dy st1 key l0) ⟨Q⟩:=by
 have hlen:=aD st1 key;have hB:=fo L;have hR:∀ (fr:Frame) (m:List UInt8),restrict [0,46,47,48] (Dy st1 key l0).length ⟨fr,Dy st1 key m⟩=⟨GC (IY fr st1.length [] [0,46,47,48]),Dy st1 key m⟩:=fun fr m=>by rw[Xi (Tp J key m) (by rw[hlen,hlen]),hlen]
 refine Gy (fun i:Nat=>[(0,.row key (l0++(L.take i).flatMap Dk).length 0 (l0++(L.take i).flatMap Dk).length),(46,.slc (nz 4 (L.map C0)) (L.map C0) false),(47,.int .i64 (L.length:Int)),(48,.int .i64 (i:Int))])
  (fun i=>Dy st1 key (l0++(L.take i).flatMap Dk)) (fun i=>i≤L.length) (fun i=>L.length - i) 0 ?_ (by omega) ?_
 ·rw[hR];simp (disch:=omega) only[push_cast,↓CA,h0,h1,h6,ab,OP] <;> rfl
 intro i hi;unfold bC;simp (disch:=first|omega|decide) only[push_cast,↓reduceIte,Cx];refine E4 (fun h2=>?_) (fun h2=>?_)
 ·have I:i<L.length:=by omega
  have U:=rG (Dy st1 key (l0++(L.take i).flatMap Dk)) L false i I;have V:L.getD i default∈L:=by rw[Ao,An I]; exact By I
  have ac:=dX V;have ad:=vz Dk L I;have ae:=O4 L I;obtain⟨x,af⟩:∃ x,L.getD i default=x:=⟨_,rfl⟩;rw[af]at U ae ac ad
  have a7:l0++(L.take (i+1)).flatMap Dk=l0++(L.take i).flatMap Dk++Dk x:=by
   grind
  obtain⟨k,n,B,M,hC,hD⟩:=Nc x;have Y:=eP (Tp J key (l0++(L.take i).flatMap Dk)) k n B M false
  have hc:=zp (N:=N) (v:=x) (l:=l0++(L.take i).flatMap Dk) (key:=key) Y (by omega) (by rw[Ab]; omega) (by simp[aa]) (by
   rw[At (by rw[hlen]; exact E)]; exact dD E _)
  rw[BN _ _ (by rw[hlen]; exact E),show(Dy st1 key (l0++(L.take i).flatMap Dk)).set key ⟨true,1,(l0++(L.take i).flatMap Dk++Dk x).map Da,false⟩=Dy st1 key (l0++(L.take i).flatMap Dk++Dk x)from Ybq st1 key _ _,hD]at hc;rw[hD]at U
  have a0:∀ (fr:Frame) (m:List UInt8) (o:PI.Obj),(Lu fr [0,46,47,48]).all (fun k=>decide (k<st1.length))=true→restrict [0,46,47,48] (Dy st1 key l0).length ⟨fr,Dy st1 key m++[o]⟩=⟨GC (IY fr st1.length [] [0,46,47,48]),Dy st1 key m⟩:=fun fr m o h=>by
   rw[jf (Tp J key m) (by rw[hlen,hlen]) (fun k hk=>by rw[hlen]; exact of_decide_eq_true (Aj.1 h k hk)),hlen]
  simp (disch:=first | omega | decide | (simp only[push_cast,↓EC,↓reduceIte,Cx,CE,CC,Cy,Nat.reduceSub,CB,CR,CH,CQ,CI,Cz,CO,CN,CV,CP,↓CA,E]; done)) only[push_cast,↓reduceIte,Cx,↓a0,U,rM,S0,E2,lz,TS,L4,hc,DL,E];refine Fb (i+1) (by omega) (by omega) ?_;grind
 ·obtain rfl:i=L.length:=by omega
  rw[Be];simp (disch:=first|omega|decide) only[push_cast];exact hQ _ rfl
/- the whole -/
theorem sS(N:Nat)(st:St)(b:D)(l:List UInt8)(v:Val)(ah:StOK st)(hb:Mt st b l)(hN:DU v<N+1)(hl:l.length+(Dk v).length≤4294967000) :
  @wW GG (tb [] [(202,RB),(190,RR N)]) X5.code (C3 [b,C0 v]) st ⟨@Gm X5.res ⟨fun d st'=>(d,st')=Rj st b l v⟩⟩:=by
 unfold X5 Rj;obtain⟨k,n,B,M,hC,hD⟩:=Nc v;have V:=eP ah k n B M false;have U:=zl hb [⟨false,1,vC k n B M,false⟩];have ae:=E2 st ⟨false,1,vC k n B M,false⟩
 cases v with
 |int m=>
  obtain⟨rfl,rfl,rfl,rfl⟩:=Lg ((M8 m).symm.trans hD);have hc:=Yba m V U (by omega);rw[hD,hC,ee];generalize Iw (st++[⟨false,1,vC 1 m [] [],false⟩]) b l (HT m)=r at*;obtain⟨r1,r2⟩:=r;simp (disch:=first|omega|decide) only[push_cast,↓reduceIte,Cx,Oe,QR,gG,E2,hc]
 |bytes m=>
  obtain⟨rfl,rfl,rfl,rfl⟩:=Lg ((Nd m).symm.trans hD);rw[Wx]at hl;simp only[Ak,Ab,Ap]at hl;rw[hD,hC,Wx];obtain⟨key,st1,J,Y,aa,O,ab⟩:=qH U (m:=[48]) (by simp);have E:=R2 U (m:=[48]) (by simp) (by simp; omega) true;rw[Y]at E;simp only[Ax,Bk,gh]at E;have hm:=O (m.flatMap DT++[0,0]);rw[show(48::(m.flatMap DT++[0,0]):List UInt8)=[48]++(m.flatMap DT++[0,0])from rfl,hm];have ad:=ab _ _ ae rfl (l++[48]);simp (disch:=first|omega|decide) only[push_cast,↓reduceIte,Cx,Oe,QR,gH,E2,rh,Zq,E,ad];refine Ycr _ st1 key J (aa V) (l++[48]) m (by simp only[Ab,Ak,Ap]; omega) _ _ (by simp only[push_cast,↓reduceIte,Cx]) (by simp only[push_cast,↓reduceIte,Cx]) (by simp only[push_cast,↓reduceIte,Cx]) (by simp only[push_cast,↓reduceIte]) fun a0 hf=>?_;have I:=lQ (st:=st1) J (l++[48]++m.flatMap DT) [0,0] (by simp) (by simp only[Ab,Ak,Ap]; omega) true;simp only[Ax,Bk,ru]at I;simp (disch:=first|omega|decide) only[push_cast,↓reduceIte,Cx,hf,Ytd,I];grind
 |list m=>
  obtain⟨rfl,rfl,rfl,rfl⟩:=Lg ((O5 m).symm.trans hD);rw[M9]at hl;rw[fi]at hN;simp only[Ak,Ab,Ap]at hl;rw[hD,hC,M9];obtain⟨key,st1,J,Y,aa,O,ab⟩:=qH U (m:=[64]) (by simp);have E:=R2 U (m:=[64]) (by simp) (by simp; omega) true;rw[Y]at E;simp only[Ax,Bk,gg]at E;have hm:=O (m.flatMap Dk++[0]);rw[show(64::(m.flatMap Dk++[0]):List UInt8)=[64]++(m.flatMap Dk++[0])from rfl,hm];have ad:=ab _ _ ae rfl (l++[64]);simp (disch:=first|omega|decide) only[push_cast,↓reduceIte,Cx,Oe,QR,Zn,E2,rf,re,Zq,E,ad];refine Ycq N st1 key J (aa V) (l++[64]) (by simp) m (by omega) (by simp only[Ab,Ak,Ap]; omega) _ _ (by simp only[push_cast,↓reduceIte,Cx]) (by simp only[push_cast,↓reduceIte,Cx]) (by simp only[push_cast,↓reduceIte,Cx]) (by simp only[push_cast,↓reduceIte]) fun a0 hf=>?_;have I:=Wa (st:=st1) J (l++[64]++m.flatMap Dk) 0 (by simp only[Ab,Ak,Ap]; omega) true;simp only[ru]at I;simp (disch:=first|omega|decide) only[push_cast,↓reduceIte,Cx,hf,Zq,I];grind
theorem tG:∀ N:Nat,IContract Tryz.prog GG 190 (eF N)∧IContract Tryz.prog GG 190 (RR N)
 |0=>by
  have J:TblOK Tryz.prog GG (tb [] []):=DA all_nil all_nil;refine⟨IB X1 J fun ds st r E=>?_,IB X1 J fun ds st r E=>?_⟩
  ·obtain⟨v,_,h,_⟩:=Ii E;omega
  ·obtain⟨key,l,v,_,h,_⟩:=Ii E;omega
 |N+1=>by
  have J:TblOK Tryz.prog GG (tb [] [(202,RB),(190,RR N)]):=DA all_nil (all_cons Ypg (all_cons (tG N).2 all_nil));refine⟨IB X1 J fun ds st r E=>?_,Xh X1 J fun ds st r E=>?_⟩
  ·obtain⟨v,I,O,hl,rfl,rfl⟩:=Ii E;exact sS N st _ [] v I (.inl ⟨rfl,rfl⟩) O (by simpa using hl)
  ·obtain⟨key,l,v,I,O,hl,U,hk,rfl,rfl⟩:=Ii E;have M:=(Ac.1 hk).1;refine xQ (sS N st _ l v I (.inr ⟨key,rfl,U,hk⟩) O hl) fun d st' h=>?_;simp only[Rj,Iw,Di]at h ⊢;obtain⟨rfl,rfl⟩:=h;refine⟨?_,?_⟩
   ·show Hj st.length (.row key _ 0 _)=_
    simp only[Hj,GW,F4,GV,M,if_true]
   ·rw[BN _ _ M];exact sm (I.set _ _ fun e=>by cases e) (by rw[B5])
theorem zo{v:Val}{N:Nat}(E:StOK st)(I:DU v<N)(J:(Dk v).length≤4294967000):eF N [.slc 0 [] true,C0 v] st=some (Rj st (.slc 0 [] true) [] v):=KK (Yb7 N) ⟨v,E,I,J,rfl,rfl⟩
def Vr(b:List UInt8):D:=.slc (nz 1 (b.map Da)) (b.map Da) false
def J9(v:Val):List UInt8:=if(Dk v).length≤65536 then Dk v else []
def PN(v:Val):Int:=if(Dk v).length≤65536 then 0 else 2
noncomputable def ZR:List D→Option D:=Dc (α:=Val) (fun v=>[C0 v]) (fun v=>DU v≤16∧(Dk v).length≤4294967000) (fun v=>.tup [Vr (J9 v),.int .i64 (PN v)])
theorem yM6(v:Val)(h:DU v≤16∧(Dk v).length≤4294967000):ZR [C0 v]=some (.tup [Vr (J9 v),.int .i64 (PN v)]):=
 DW (fun a b h=>by simp only[Aa,and_true,R6]at h; rw[h]) v h
theorem Yh2:Contract Tryz.prog GG 167 ZR:=by
 refine D8 (T:=tb [(189,V0 17)] [(190,eF 17)]) tQ (DA (all_cons (tt 17) all_nil) (all_cons (tG 17).1 all_nil)) ?_;rintro v ⟨hd,hl⟩;unfold jc J9 PN;obtain⟨k,n,B,M,hC,O⟩:=Nc v;have U:=pN 17 v ⟨by omega,hl⟩;have I:=zo (N:=17) (st:=[⟨false,1,vC k n B M,false⟩]) (v:=v) (by have:=eP StOK.nil k n B M false; simpa using this) (by omega) hl
 have V:Dk v≠[]:=by
  intro e; have:=lU v; rw[e]at this; simp at this
 have hz:nz 1 ((Dk v).map Da)=1:=by
  cases he:Dk v with
  |nil=>exact absurd he V
  |cons a r=>rfl
 simp only[Rj,Iw,Ae,Ai,Ak,Ap]at I;rw[O]at U I;rw[O];simp (disch:=first|omega|decide) only[push_cast,↓reduceIte,Cx,Oe,L4,Zj,Yv,U];have Y:¬ ((16:Int)<(DU v:Int)):=by omega
 simp (disch:=first|omega|decide) only[push_cast,↓reduceIte,Cx,Cy,Y,decide_false,L4,I]
 by_cases E:(Dk v).length≤65536
 ·rw[if_pos E,if_pos E];have J:¬ ((65536:Int)<((Dk v).length:Int)):=by omega
  simp (disch:=first|omega|decide) only[push_cast,↓reduceIte,Cx,J,decide_false,Vr]
 ·rw[if_neg E,if_neg E];have J:((65536:Int)<((Dk v).length:Int)):=by omega
  simp (disch:=first|omega|decide) only[push_cast,↓reduceIte,Cx,J,decide_true,Vr]
def EM:Dig:=Qe [112,97,100] []
def H7(a b:Dig):Dig:=Qe [110,111,100,101] (a.bs++b.bs)
def atL(l:List Dig)(k:Int)(pad:Dig):Dig:=if k<(l.length:Int)then l.getD k.toNat default else pad
def qK(pad:Dig):List Dig→List Dig
 |[]=>[]
 |[a]=>[H7 a pad]
 |a::b::r=>H7 a b::qK pad r
def IQ:Nat→Dig
 |0=>EM
 |n+1=>H7 (IQ n) (IQ n)
def T8(l:List Dig):Nat→List Dig
 |0=>l
 |n+1=>qK (IQ n) (T8 l n)
def rV(l:List Dig)(level:Nat)(k:Int):Dig:=atL (T8 l level) k (IQ level)
def F9(n:Nat):Nat:=if n=0 then 0 else n.log2+1
def Ei(n:Int):Int:=if n<0∨65536<n then -1 else(F9 ((max n 1).toNat - 1):Nat)
theorem Si(h:n<2 ^ k):F9 n≤k:=by
 unfold F9
 split
 ·omega
 ·rename_i E;have:n.log2<k:=(Nat.log2_lt E).2 h;omega
theorem yNg:n<2 ^ F9 n:=by
 unfold F9
 split
 ·omega
 ·rename_i E;exact(Nat.log2_lt E).1 (Cs _)
theorem nB(h:2 ^ k≤n):k+1≤F9 n:=by
 have E:n≠0:=by
  grind
 have:=(Nat.le_log2 E).2 h;unfold F9;grind
theorem O9(n k:Nat)(h:2 ^ k≤n):F9 n=k+F9 (n / 2 ^ k):=by
 have I:=yNg (n:=n / 2 ^ k)
 have M:F9 n≤k+F9 (n / 2 ^ k):=by
  apply Si;rw[Nat.pow_add];exact(Nat.div_lt_iff_lt_mul (Nat.two_pow_pos k)).1 I |> fun x=>by rwa [Cv]
 have N:1≤n / 2 ^ k:=(Nat.one_le_div_iff (Nat.two_pow_pos k)).2 h
 have O:k+F9 (n / 2 ^ k)≤F9 n:=by
  obtain⟨j,hj⟩:∃ j,F9 (n / 2 ^ k)=j+1:=by
   have:=nB (n:=n / 2 ^ k) (k:=0) (by omega);exact⟨F9 (n / 2 ^ k) - 1,by omega⟩
  have J:2 ^ j≤n / 2 ^ k:=by
   rcases A6 (n / 2 ^ k) (2 ^ j)with E | E
   ·have:=Si E;omega
   ·exact E
  have E:2 ^ (k+j)≤n:=by
   rw[Nat.pow_add]
   calc 2 ^ k*2 ^ j≤2 ^ k*(n / 2 ^ k):=Nat.mul_le_mul_left _ J
    _≤n:=Nat.mul_div_le n (2 ^ k)
  have:=nB E;omega
 omega
def MI(i:Nat)(x:Dig):List Dig→Dig
 |[]=>x
 |q::r=>MI (i / 2) (if i % 2=0 then H7 x q else H7 q x) r
def G7(c:Int×Dig)(i:Int)(leaf:Dig)(p:List Dig):Bool:=
 decide (0≤Ei c.1∧0≤i∧i<2 ^ (Ei c.1).toNat∧(p.length:Int)=Ei c.1∧MI i.toNat leaf p=c.2)
theorem fl{n:Int}(E:0≤n)(I:n≤65536):Ei n=(F9 ((max n 1).toNat - 1):Nat)∧0≤Ei n∧Ei n≤16:=by
 have e:Ei n=(F9 ((max n 1).toNat - 1):Nat):=by unfold Ei; rw[if_neg (by omega)]
 have:F9 ((max n 1).toNat - 1)≤16:=Si (by omega);omega
theorem Sp{n:Int}(h:n<0∨65536<n):Ei n=-1:=by unfold Ei; rw[if_pos h]
theorem eO{a b:Nat}(h:a≤b):(2:Int) ^ a≤2 ^ b:=by
 have E:(2:Nat) ^ a≤2 ^ b:=Nat.pow_le_pow_right (by decide) h;grind
theorem Yel(a:Nat):(1:Int)≤2 ^ a:=eO (a:=0) (by omega)
theorem Ym0:([0,1,2,2,3,3,3,3,4,4,4,4,4,4,4,4,5,5,5,5,5,5,5,5,5,5,5,5,5,5,5,5,6,6,6,6,6,6,6,6,6,6,6,6,6,6,6,6,6,6,6,6,6,6,6,6,6,6,6,6,6,6,6,6,7,7,7,7,7,7,7,7,7,7,7,7,7,7,7,7,7,7,7,7,7,7,7,7,7,7,7,7,7,7,7,7,7,7,7,7,7,7,7,7,7,7,7,7,7,7,7,7,7,7,7,7,7,7,7,7,7,7,7,7,7,7,7,7,8,8,8,8,8,8,8,8,8,8,8,8,8,8,8,8,8,8,8,8,8,8,8,8,8,8,8,8,8,8,8,8,8,8,8,8,8,8,8,8,8,8,8,8,8,8,8,8,8,8,8,8,8,8,8,8,8,8,8,8,8,8,8,8,8,8,8,8,8,8,8,8,8,8,8,8,8,8,8,8,8,8,8,8,8,8,8,8,8,8,8,8,8,8,8,8,8,8,8,8,8,8,8,8,8,8,8,8,8,8,8,8,8,8,8,8,8,8,8,8,8,8,8,8,8,8,8,8]:List UInt8)=(CG 256).map (fun j=>CJ (F9 j)):=by kernel_rfl
theorem NY(j:Nat)(h:j<256):((((CG 256).map (fun j=>CJ (F9 j))).getD j default).toNat:Int)=F9 j:=by
 have E:F9 j≤8:=Si (k:=8) (by omega);simp[Ao,h];omega
theorem yMd:((CG 256).map (fun j=>CJ (F9 j))).length=256:=by simp
theorem NX(b:UInt8):Jp (.str ((CG 256).map (fun j=>CJ (F9 j)))) (Da b)=some (Da (((CG 256).map (fun j=>CJ (F9 j))).getD b.toNat default)):=Ygi _ b (by rw[yMd]; exact b.toNat_lt)
theorem NZ(m:Nat)(h:m<256):(CJ m).toNat=m:=by simp; omega
noncomputable def ZS:List D→Option D:=Dc (α:=Int) (fun a=>[.int .u64 a]) (fun a=>0≤a∧a<18446744073709551616) (fun a=>.int .i64 (F9 a.toNat:Int))
theorem yM4(x:Int)(h:0≤x∧x<18446744073709551616):ZS [.int .u64 x]=some (.int .i64 (F9 x.toNat:Int)):=
 DW (fun a b h=>by simp only[Aa,D.int.injEq,true_and,and_true]at h; simp[h]) (x) h
theorem Yco(x:Int)(h:0≤x∧x<18446744073709551616):@wW GG (tb [] []) XT.code (C3 [.int .u64 x]) [] ⟨Df XT.res (.int .i64 (F9 x.toNat:Int))⟩:=by
 obtain⟨V,h1⟩:=h;obtain⟨n,rfl⟩:=Bc V;rw[Bg];have d1:=O9 n 32;have d2:=O9 n 16;have d3:=O9 n 8;have d4:=O9 (n / 2 ^ 32) 16;have d5:=O9 (n / 2 ^ 32) 8;have d6:=O9 (n / 2 ^ 32 / 2 ^ 16) 8;have d7:=O9 (n / 2 ^ 16) 8;have I:∀ y,y<256→F9 y≤8:=fun y hy=>Si (k:=8) (by omega);unfold XT;rw[Ym0];simp only[push_cast,↓reduceIte,Cx];refine E4 (fun Y=>?_) (fun Y=>?_)
 ·simp (disch:=omega) only[push_cast,↓reduceIte,Cx,CI,CO,Mx]
  ·refine E4 (fun N=>?_) (fun N=>?_)
   ·simp (disch:=omega) only[push_cast,↓reduceIte,Cx,CI,CO,CN,Mx,DL]
    ·refine E4 (fun J=>?_) (fun J=>?_)
     ·simp (disch:=omega) only[push_cast,↓reduceIte,Cx,CI,CO,CN,Mx,DL]
      ·have E:((n:Int) / 4294967296 / 65536 / 256).toNat=n / 2 ^ 32 / 2 ^ 16 / 2 ^ 8:=by omega
       have hb:=I (n / 2 ^ 32 / 2 ^ 16 / 2 ^ 8) (by omega);have M:=d1 (by omega);have O:=d4 (by omega);have aa:=d6 (by omega);simp (disch:=omega) only[push_cast,↓reduceIte,Cx,Mj,NX,NP,NY,NZ,E,DL];refine congrArg (fun z=>some (D.int .i64 z)) ?_;omega
     ·simp (disch:=omega) only[push_cast,↓reduceIte,Cx]
      ·have E:((n:Int) / 4294967296 / 65536).toNat=n / 2 ^ 32 / 2 ^ 16:=by omega
       have hb:=I (n / 2 ^ 32 / 2 ^ 16) (by omega);have M:=d1 (by omega);have O:=d4 (by omega);simp (disch:=omega) only[push_cast,↓reduceIte,Cx,Mj,NX,NP,NY,NZ,E,DL];refine congrArg (fun z=>some (D.int .i64 z)) ?_;omega
   ·simp (disch:=omega) only[push_cast,↓reduceIte,Cx]
    ·refine E4 (fun J=>?_) (fun J=>?_)
     ·simp (disch:=omega) only[push_cast,↓reduceIte,Cx,CI,CO,CN,Mx,DL]
      ·have E:((n:Int) / 4294967296 / 256).toNat=n / 2 ^ 32 / 2 ^ 8:=by omega
       have hb:=I (n / 2 ^ 32 / 2 ^ 8) (by omega);have M:=d1 (by omega);have ab:=d5 (by omega);simp (disch:=omega) only[push_cast,↓reduceIte,Cx,Mj,NX,NP,NY,NZ,E,DL];refine congrArg (fun z=>some (D.int .i64 z)) ?_;omega
     ·simp (disch:=omega) only[push_cast,↓reduceIte,Cx]
      ·have E:((n:Int) / 4294967296).toNat=n / 2 ^ 32:=by omega
       have hb:=I (n / 2 ^ 32) (by omega);have M:=d1 (by omega);simp (disch:=omega) only[push_cast,↓reduceIte,Cx,Mj,NX,NP,NY,NZ,E,DL];refine congrArg (fun z=>some (D.int .i64 z)) ?_;omega
 ·simp (disch:=omega) only[push_cast,↓reduceIte,Cx]
  ·refine E4 (fun N=>?_) (fun N=>?_)
   ·simp (disch:=omega) only[push_cast,↓reduceIte,Cx,CI,CO,CN,Mx,DL]
    ·refine E4 (fun J=>?_) (fun J=>?_)
     ·simp (disch:=omega) only[push_cast,↓reduceIte,Cx,CI,CO,CN,Mx,DL]
      ·have E:((n:Int) / 65536 / 256).toNat=n / 2 ^ 16 / 2 ^ 8:=by omega
       have hb:=I (n / 2 ^ 16 / 2 ^ 8) (by omega);have U:=d2 (by omega);have ac:=d7 (by omega);simp (disch:=omega) only[push_cast,↓reduceIte,Cx,Mj,NX,NP,NY,NZ,E,DL];refine congrArg (fun z=>some (D.int .i64 z)) ?_;omega
     ·simp (disch:=omega) only[push_cast,↓reduceIte,Cx]
      ·have E:((n:Int) / 65536).toNat=n / 2 ^ 16:=by omega
       have hb:=I (n / 2 ^ 16) (by omega);have U:=d2 (by omega);simp (disch:=omega) only[push_cast,↓reduceIte,Cx,Mj,NX,NP,NY,NZ,E,DL];refine congrArg (fun z=>some (D.int .i64 z)) ?_;omega
   ·simp (disch:=omega) only[push_cast,↓reduceIte,Cx]
    ·refine E4 (fun J=>?_) (fun J=>?_)
     ·simp (disch:=omega) only[push_cast,↓reduceIte,Cx,CI,CO,CN,Mx,DL]
      ·have E:((n:Int) / 256).toNat=n / 2 ^ 8:=by omega
       have hb:=I (n / 2 ^ 8) (by omega);have ad:=d3 (by omega);simp (disch:=omega) only[push_cast,↓reduceIte,Cx,Mj,NX,NP,NY,NZ,E,DL];refine congrArg (fun z=>some (D.int .i64 z)) ?_;omega
     ·simp (disch:=omega) only[push_cast,↓reduceIte,Cx]
      ·have E:((n:Int)).toNat=n:=by omega
       have hb:=I (n) (by omega);simp (disch:=omega) only[push_cast,↓reduceIte,Cx,Mj,NX,NP,NY,NZ,E,DL];refine congrArg (fun z=>some (D.int .i64 z)) ?_;omega
theorem Yh0:Contract Tryz.prog GG 129 ZS:=
 D8 uC (DA all_nil all_nil) (fun a h=>Yco a h)
noncomputable def Qb:List D→Option D:=Dc (α:=Unit) (fun _=>[]) (fun _=>True) (fun _=>CY EM)
theorem R7:Qb []=some (CY EM):=
 DW (fun _ _ _=>rfl) () trivial
theorem Yrd:@wW GG (tb [(62,Qy)] []) Xc.code (C3 []) [] ⟨Df Xc.res (CY EM)⟩:=by
 unfold Xc;have c:Qy [.str [112,97,100],.slc 0 [] false]=some (CY EM):=aJ [112,97,100] [] (by decide);simp (disch:=omega) only[push_cast,↓reduceIte,Cx,c]
theorem Yg:Contract Tryz.prog GG 20 Qb:=
 D8 yDm (DA (all_cons dG all_nil) all_nil) (fun a h=>Yrd )
noncomputable def lC:List D→Option D:=Dc (α:=Unit) (fun _=>[]) (fun _=>True) (fun _=>CY EM)
theorem Ya2:lC []=some (CY EM):=
 DW (fun _ _ _=>rfl) () trivial
noncomputable def Sx:List D→Option D:=Dc (α:=Dig×Dig) (fun a=>[CY a.1,CY a.2]) (fun a=>True) (fun a=>CY (H7 a.1 a.2))
theorem Lp(a:Dig)(b:Dig):Sx [CY a,CY b]=some (CY (H7 a b)):=
 DW (fun⟨a0,a1⟩ ⟨b0,b1⟩ h=>by simp only[Aa,Mk,and_true]at h; simp[h]) (a,b) trivial
theorem yq(a:Dig)(b:Dig):@wW GG (tb [(62,Qy)] []) XR.code (C3 [CY a,CY b]) [] ⟨Df XR.res (CY (H7 a b))⟩:=by
 unfold XR;have ha:=a.len;have hb:=b.len;have hl:(a.bs++b.bs).length=64:=by rw[Ab,ha,hb]
 have c:=aJ [110,111,100,101] (a.bs++b.bs) (by rw[hl]; decide);simp (disch:=omega) only[push_cast,↓reduceIte,Cx,Cy,Yfc,p9,c];rfl
theorem fe:Contract Tryz.prog GG 95 Sx:=
 D8 ue (DA (all_cons dG all_nil) all_nil) (fun a h=>yq a.1 a.2)
noncomputable def pU:List D→Option D:=Dc (α:=Dig×Dig) (fun a=>[CY a.1,CY a.2]) (fun a=>True) (fun a=>CY (H7 a.1 a.2))
theorem yJy(a:Dig)(b:Dig):pU [CY a,CY b]=some (CY (H7 a b)):=
 DW (fun⟨a0,a1⟩ ⟨b0,b1⟩ h=>by simp only[Aa,Mk,and_true]at h; simp[h]) (a,b) trivial
noncomputable def dq:List D→Option D:=Dc (α:=Int) (fun a=>[.int .u64 a]) (fun a=>0≤a∧a<18446744073709551616) (fun a=>.int .i64 (F9 a.toNat:Int))
theorem Ya9(x:Int)(h:0≤x∧x<18446744073709551616):dq [.int .u64 x]=some (.int .i64 (F9 x.toNat:Int)):=
 DW (fun a b h=>by simp only[Aa,D.int.injEq,true_and,and_true]at h; simp[h]) (x) h
theorem Yrl(x:Int)(h:0≤x∧x<18446744073709551616):@wW GG (tb [(129,ZS)] []) XP.code (C3 [.int .u64 x]) [] ⟨Df XP.res (.int .i64 (F9 x.toNat:Int))⟩:=by
 unfold XP;simp (disch:=omega) only[push_cast,↓reduceIte,Cx,yM4]
theorem Yvt:Contract Tryz.prog GG 75 dq:=
 D8 uc (DA (all_cons Yh0 all_nil) all_nil) (fun a h=>Yrl a h)
noncomputable def QD:List D→Option D:=Dc (α:=Int) (fun a=>[.int .i64 a]) (fun a=>True) (fun a=>.int .i64 (Ei a))
theorem N9(n:Int):QD [.int .i64 n]=some (.int .i64 (Ei n)):=
 DW (fun a b h=>by simp only[Aa,D.int.injEq,true_and,and_true]at h; simp[h]) (n) trivial
theorem Yck(n:Int):@wW GG (tb [(75,dq)] []) Xy.code (C3 [.int .i64 n]) [] ⟨Df Xy.res (.int .i64 (Ei n))⟩:=by
 unfold Xy;simp only[push_cast,↓reduceIte,Cx,Cz];refine E4 (fun E=>?_) (fun E=>?_)
 ·simp only[push_cast,↓reduceIte,Cx,Cz,E,Sp (.inl E)]
 ·simp only[push_cast,↓reduceIte,Cx,Cz,E];refine E4 (fun I=>?_) (fun I=>?_)
  ·simp only[push_cast,↓reduceIte,Cz,I,Sp (.inr I)]
  ·have e:(max n 1 - 1).toNat=(max n 1).toNat - 1:=by omega
   have J:=(fl (n:=n) (by omega) (by omega)).1;simp (disch:=omega) only[push_cast,↓reduceIte,Cx,I,Fa,YY,Ya9,J,e]
theorem V8:Contract Tryz.prog GG 25 QD:=
 D8 tU (DA (all_cons Yvt all_nil) all_nil) (fun a h=>Yck a)
structure Ins where
 op:Int
 n:Int
 m:Int
 deriving DecidableEq,Inhabited
structure Sta where
 pc:Int
 fuel:Int
 status:Int
 clause:Int
 stack:List Int
 deriving DecidableEq,Inhabited
structure Opn where
 pc:Int
 fuel:Int
 status:Int
 clause:Int
 top:List Int
 depth:Int
 rest:Dig
 deriving DecidableEq
def Dx(x:Ins):List D:=[.int .i64 x.op,.int .i64 x.n,.int .i64 x.m]
def CZ(x:Ins):D:=.agg (Dx x)
def Eo(l:List Int):D:=.slc (nz 1 (l.map nI)) (l.map nI) false
def Em(s:Sta):List D:=[.int .i64 s.pc,.int .i64 s.fuel,.int .i64 s.status,.int .i64 s.clause,Eo s.stack]
def Eb(s:Sta):D:=.agg (Em s)
def EG(o:Opn):List D:=.int .i64 o.pc::.int .i64 o.fuel::.int .i64 o.status::.int .i64 o.clause::Eo o.top::.int .i64 o.depth::CW o.rest
def DS(o:Opn):D:=.agg (EG o)
def Ef(v:Int×List Int):List D:=.int .i64 v.1::v.2.map nI
def Ev(v:Int×List Int):D:=.agg (Ef v)
theorem Qv{a b:List Int}:Eo a=Eo b↔a=b:=by
 refine⟨fun h=>?_,fun h=>by rw[h]⟩;simp only[Eo,D.slc.injEq,and_true]at h;exact Qm.1 h.2
theorem Ql{a b:Ins}:CZ a=CZ b↔a=b:=by
 obtain⟨a1,E,I⟩:=a; obtain⟨b1,J,M⟩:=b;simp[CZ,Dx]
theorem J2{a b:List Ins}:a.map CZ=b.map CZ↔a=b:=⟨NQ fun _ _=>Ql.1,fun h=>by rw[h]⟩
theorem V3{a b:Sta}:Eb a=Eb b↔a=b:=by
 obtain⟨a1,E,I,J,M⟩:=a; obtain⟨b1,N,O,U,V⟩:=b;simp[Eb,Em,Qv]
theorem Qn{a b:Opn}:DS a=DS b↔a=b:=by
 obtain⟨a1,E,I,J,M,N,O⟩:=a; obtain⟨b1,U,V,Y,b5,b6,b7⟩:=b;simp[DS,EG,Qv,NU]
theorem KI{a b:Int×List Int}:Ev a=Ev b↔a=b:=by
 obtain⟨a1,E⟩:=a; obtain⟨b1,I⟩:=b;simp[Ev,Ef,Qm]
def Oi(t:List UInt8)(v:Val):Dig:=Qe t (J9 v)
def ZA:List UInt8:=[112,114,111,103,114,97,109]
def Np:List UInt8:=[105,110,112,117,116,115]
def Nn:List UInt8:=[115,116,97,99,107]
def No:List UInt8:=[115,116,97,116,101]
def rN(d:Dig)(x:Ins):Dig:=Oi ZA (.list [.int x.op,.int x.n,.int x.m,.bytes d.bs])
def KC(c:List Ins):Dig:=c.foldl rN Dl
def J7(v:Int×List Int):Dig:=Oi Np (.list [.int v.1,.list (v.2.map .int)])
def rL(d:Dig)(n:Int):Dig:=Oi Nn (.list [.int n,.bytes d.bs])
def I1(d:Dig)(l:List Int):Dig:=l.foldl rL d
def Rl(c:List Ins)(v:Int×List Int)(o:Opn):Dig:=Oi No (.list [.bytes (KC c).bs,.bytes (J7 v).bs,.int o.pc,.int o.fuel,.int o.status,.int o.clause,.int (o.depth+o.top.length),.bytes (I1 o.rest o.top).bs])
def Ni(s:Sta)(n:Int):Nat:=s.stack.length - (min (max n 0) s.stack.length).toNat
def Ol(s:Sta)(n:Int):Opn:=⟨s.pc,s.fuel,s.status,s.clause,s.stack.drop (Ni s n),Ni s n,I1 Dl (s.stack.take (Ni s n))⟩
def L7(c:List Ins)(v:Int×List Int)(s:Sta):Dig:=Rl c v (Ol s s.stack.length)
def Ga(c:List Ins)(v:Int×List Int)(o:Opn):Dig:=if o.depth<0∨64<o.depth then Dl else Rl c v o
theorem vY(n:Int):(HT n).length≤9:=by
 unfold HT
 split
 ·have:=Qr 8 (D1 n);simp only[Ak,bn]; omega
 ·have:=Qr 8 (K7 (D1 n));simp only[Ak,bn]; omega
theorem lW:∀ b:List UInt8,(b.flatMap DT).length≤2*b.length
 |[]=>by simp
 |c::b=>by
  have:=lW b;have E:(DT c).length≤2:=by unfold DT; split <;> simp
  simp only[Au,Ab,Ak];omega
theorem LJ(n:Int):(Dk (.int n)).length≤9:=by rw[ee]; exact vY n
theorem RK(d:Dig):(Dk (.bytes d.bs)).length≤67:=by
 have:=lW d.bs;rw[d.len]at this;rw[Wx];simp only[Ak,Ab,Ap];omega
theorem nR:∀ l:List Int,((l.map Val.int).flatMap Dk).length≤9*l.length
 |[]=>by simp
 |n::l=>by
  have:=nR l;have:=LJ n;simp only[Ax,Au,Ab,Ak];omega
theorem zV(st:St)(key:Nat):Du st (.bsl key 0 32 1 false)=(Vb st[key]?).map fun p=>.slc (nz 1 p.2) p.2 false:=by
 rw[← qt];simp only[Du,Hm,Gt]
 cases Km st key 0 32 1 false with
 |none=>rfl
 |some els=>
  dsimp only
  split <;> rfl
theorem Rz(st:St)(v:Val):DN st (C0 v)=some (C0 v):=by
 obtain⟨k,n,B,M,I,E⟩:=Nc v;rw[E,Zj]
theorem RM(v:Val):keys (C0 v)=[]:=by
 obtain⟨k,n,B,M,I,E⟩:=Nc v;rw[E,Yv]
theorem wH(v:Val):(C0 v).noRef=false:=by
 obtain⟨k,n,B,M,I,E⟩:=Nc v;rw[E]; rfl
theorem Yak(v:Val):(C0 v).cells.length=4:=by
 obtain⟨k,n,B,M,I,E⟩:=Nc v;rw[E]; rfl
theorem VS(l:List Val)(h:l.length≤1000):E0 4 (l.map C0)=some (.slc 4 (l.map C0) true):=by
 have E:((l.map C0).all fun e=>e.cells.length == 4)=true:=by
  rw[Aj];intro e he;obtain⟨v,_,rfl⟩:=AV.1 he;simp[Yak]
 have I:decide ((l.map C0).length*4≤16777216)=true:=decide_eq_true (by rw[Bh]; omega);simp only[E0,E,I];rfl
theorem Kq:Dv (.agg [.int .i64 0,.int .i64 0,.int .i64 0])=some [.int .i64 0,.int .i64 0,.int .i64 0]:=(rfl)
theorem EU(x:Ins):Dv (CZ x)=some (Dx x):=(rfl)
theorem Mg(x:Ins):DQ (some ⟨false,1,[.int .i64 0,.int .i64 0,.int .i64 0],false⟩) 3 0 (CZ x)=some ⟨false,1,Dx x,false⟩:=(rfl)
theorem FH(lent:Bool)(x:Ins):Dn (some ⟨false,1,Dx x,lent⟩) 1 false 0=some (.int .i64 x.op):=(rfl)
theorem Kn(lent:Bool)(x:Ins):Dn (some ⟨false,1,Dx x,lent⟩) 1 false 1=some (.int .i64 x.n):=(rfl)
theorem cF(lent:Bool)(x:Ins):Dn (some ⟨false,1,Dx x,lent⟩) 1 false 2=some (.int .i64 x.m):=(rfl)
theorem MJ(lent:Bool)(x:Ins):Dn (some ⟨false,1,Dx x,lent⟩) 3 true 0=some (CZ x):=(rfl)
theorem JM(st:St)(x:Ins):EV st 3 true (.eptr (CZ x) 0)=some (CZ x):=(rfl)
theorem Ynu(st:St)(x:Ins):DN st (CZ x)=some (CZ x):=(rfl)
theorem Rx(st:St)(c:List Ins)(t:Bool)(i:Nat)(h:i<c.length):FY st 3 (.slc (nz 3 (c.map CZ)) (c.map CZ) t) (.int .i64 (i:Int))=some (.eptr (CZ (c.getD i default)) 0):=by
 have:=Lh st 3 CZ c t .i64 (i:Int) (by omega) (by omega);simpa using this
theorem Yn(st:St)(c:List Int)(t:Bool)(i:Nat)(h:i<c.length):FY st 1 (.slc (nz 1 (c.map nI)) (c.map nI) t) (.int .i64 (i:Int))=some (.eptr (nI (c.getD i default)) 0):=by
 have:=Lh st 1 nI c t .i64 (i:Int) (by omega) (by omega);simpa using this
theorem Yu(st:St)(n:Int):EV st 1 false (.eptr (nI n) 0)=some (.int .i64 n):=(rfl)
theorem Yg1(n:Int):DD [.int .i64 0,.int .i64 0,.slc 0 [] true,.slc 0 [] true] [(0,1,.int .i64 1),(1,1,.int .i64 n)]=some [.int .i64 1,.int .i64 n,.slc 0 [] true,.slc 0 [] true]:=(rfl)
theorem Yg3(k:Nat):DD [.int .i64 0,.int .i64 0,.slc 0 [] true,.slc 0 [] true] [(0,1,.int .i64 2),(2,1,.bsl k 0 32 1 false)]=some [.int .i64 2,.int .i64 0,.bsl k 0 32 1 false,.slc 0 [] true]:=(rfl)
theorem Yg2(sz:Nat)(l:List D)(t:Bool):DD [.int .i64 0,.int .i64 0,.slc 0 [] true,.slc 0 [] true] [(0,1,.int .i64 3),(3,1,.slc sz l t)]=some [.int .i64 3,.int .i64 0,.slc 0 [] true,.slc sz l t]:=(rfl)
theorem bX(a b c d:D):DQ (some ⟨false,1,[.int .i64 0,.int .i64 0,.slc 0 [] true,.slc 0 [] true],false⟩) 4 0 (.agg [a,b,c,d])=if [a,b,c,d].all D.isCell then some ⟨false,1,[a,b,c,d],false⟩else none:=by
 simp only[DQ];rfl
theorem PL(lent:Bool)(a b c d:D):Dn (some ⟨false,1,[a,b,c,d],lent⟩) 4 true 0=some (.agg [a,b,c,d]):=(rfl)
theorem Yhh(k o n s:Nat)(ag:Bool):(D.bsl k o n s ag).isCell=true:=(rfl)
noncomputable def Qd:List D→Option D:=Dc (α:=Int) (fun a=>[.int .i64 a]) (fun a=>True) (fun a=>C0 (.int a))
theorem Sa(n:Int):Qd [.int .i64 n]=some (C0 (.int n)):=
 DW (fun a b h=>by simp only[Aa,D.int.injEq,true_and,and_true]at h; simp[h]) (n) trivial
theorem Yqz(n:Int):@wW GG (tb [] []) Xe.code (C3 [.int .i64 n]) [] ⟨Df Xe.res (C0 (.int n))⟩:=by
 unfold Xe;rw[M8];simp (disch:=first|omega|decide) only[push_cast,↓reduceIte,Cx,S0,Yg1,bX,PL];rfl
theorem Yj:Contract Tryz.prog GG 145 Qd:=
 D8 yDi (DA all_nil all_nil) (fun a h=>Yqz a)
noncomputable def RD:List D→Option D:=Dc (α:=Dig) (fun a=>[CY a]) (fun a=>True) (fun a=>C0 (.bytes a.bs))
theorem ff(d:Dig):RD [CY d]=some (C0 (.bytes d.bs)):=
 DW (fun a b h=>by simp only[Aa,Mk,and_true]at h; simp[h]) (d) trivial
theorem Yq5(d:Dig):@wW GG (tb [] []) W4.code (C3 [CY d]) [] ⟨Df W4.res (C0 (.bytes d.bs))⟩:=by
 unfold W4;rw[Nd];simp (disch:=first|omega|decide) only[push_cast,↓reduceIte,Cx,S0,p9,Yg3,bX,PL,Yhh,zV];rfl
theorem gW:Contract Tryz.prog GG 142 RD:=
 D8 yGy (DA all_nil all_nil) (fun a h=>Yq5 a)
noncomputable def MY:List D→Option D:=Dc (α:=List Val) (fun a=>[.slc (nz 4 (a.map C0)) (a.map C0) false]) (fun a=>True) (fun a=>C0 (.list a))
theorem Wc(l:List Val):MY [.slc (nz 4 (l.map C0)) (l.map C0) false]=some (C0 (.list l)):=
 DW (fun a b h=>by simp only[Aa,D.slc.injEq,and_true,Ycy]at h; simp[h]) (l) trivial
theorem Yq0(l:List Val):@wW GG (tb [] []) WK.code (C3 [.slc (nz 4 (l.map C0)) (l.map C0) false]) [] ⟨Df WK.res (C0 (.list l))⟩:=by
 unfold WK;rw[O5];simp (disch:=first|omega|decide) only[push_cast,↓reduceIte,Cx,S0,Yg2,bX,PL];rfl
theorem Yi:Contract Tryz.prog GG 141 MY:=
 D8 yKn (DA all_nil all_nil) (fun a h=>Yq0 a)
noncomputable def Qc:List D→Option D:=Dc (α:=List UInt8×Val) (fun a=>[.str a.1,C0 a.2]) (fun a=>a.1.length≤1000∧DU a.2≤16∧(Dk a.2).length≤4294967000) (fun a=>CY (Oi a.1 a.2))
theorem Wb(t:List UInt8)(v:Val)(h:t.length≤1000∧DU v≤16∧(Dk v).length≤4294967000):Qc [.str t,C0 v]=some (CY (Oi t v)):=
 DW (fun⟨a0,a1⟩ ⟨b0,b1⟩ h=>by simp only[Aa,D.str.injEq,and_true,R6]at h; simp[h]) (t,v) h
theorem Yq2(t:List UInt8)(v:Val)(h:t.length≤1000∧DU v≤16∧(Dk v).length≤4294967000):@wW GG (tb [(167,ZR),(62,Qy)] []) Xm.code (C3 [.str t,C0 v]) [] ⟨Df Xm.res (CY (Oi t v))⟩:=by
 unfold Xm Oi;have E:=yM6 v h.2
 have hl:(J9 v).length≤65536:=by
  unfold J9
  split
  ·assumption
  ·simp
 have J:=aJ t (J9 v) (by omega);obtain⟨k,n,B,M,N,I⟩:=Nc v;rw[I]at E;rw[I];simp (disch:=first|omega|decide) only[push_cast,↓reduceIte,Cx,Oe,L4,Zj,Yv,E,Vr,J]
theorem Yh:Contract Tryz.prog GG 140 Qc:=
 D8 yDj (DA (all_cons Yh2 (all_cons dG all_nil)) all_nil) (fun a h=>Yq2 a.1 a.2 h)
theorem yRn(c:List Ins)(x:Ins):KC (c++[x])=rN (KC c) x:=by unfold KC; rw[List.foldl_append]; rfl
theorem Yek(d:Dig)(x:Ins):ZA.length≤1000∧DU (.list [.int x.op,.int x.n,.int x.m,.bytes d.bs])≤16∧(Dk (.list [.int x.op,.int x.n,.int x.m,.bytes d.bs])).length≤4294967000:=by
 have E:=LJ x.op;have I:=LJ x.n;have J:=LJ x.m;have M:=RK d;refine⟨by decide,by simp[DU,Ht],?_⟩;rw[M9];simp only[Ak,Ab,Ap,Au,BG];omega
theorem Uu(a b c d:Val):E0 4 [C0 a,C0 b,C0 c,C0 d]=some (.slc 4 [C0 a,C0 b,C0 c,C0 d] true):=VS [a,b,c,d] (by simp)
theorem Us(a b c d:Val):MY [.slc 4 [C0 a,C0 b,C0 c,C0 d] false]=some (C0 (.list [a,b,c,d])):=Wc [a,b,c,d]
theorem rJ(a b:Val):E0 4 [C0 a,C0 b]=some (.slc 4 [C0 a,C0 b] true):=VS [a,b] (by simp)
theorem rK(a b:Val):MY [.slc 4 [C0 a,C0 b] false]=some (C0 (.list [a,b])):=Wc [a,b]
theorem Ut(a b c d e f g h:Val):E0 4 [C0 a,C0 b,C0 c,C0 d,C0 e,C0 f,C0 g,C0 h]=some (.slc 4 [C0 a,C0 b,C0 c,C0 d,C0 e,C0 f,C0 g,C0 h] true):=VS [a,b,c,d,e,f,g,h] (by simp)
theorem Ur(a b c d e f g h:Val):MY [.slc 4 [C0 a,C0 b,C0 c,C0 d,C0 e,C0 f,C0 g,C0 h] false]=some (C0 (.list [a,b,c,d,e,f,g,h])):=Wc [a,b,c,d,e,f,g,h]
noncomputable def cX:List D→Option D:=Dc (α:=List Ins) (fun a=>[.slc (nz 3 (a.map CZ)) (a.map CZ) false]) (fun a=>a.length≤4294967296) (fun a=>CY (KC a))
theorem Yav(c:List Ins)(h:c.length≤4294967296):cX [.slc (nz 3 (c.map CZ)) (c.map CZ) false]=some (CY (KC c)):=
 DW (fun a b h=>by simp only[Aa,D.slc.injEq,and_true,J2]at h; simp[h]) (c) h
theorem Yqy(c:List Ins)(h:c.length≤4294967296):@wW GG (tb [(145,Qd),(142,RD),(141,MY),(140,Qc)] []) Xo.code (C3 [.slc (nz 3 (c.map CZ)) (c.map CZ) false]) [] ⟨Df Xo.res (CY (KC c))⟩:=by
 unfold Xo;simp (disch:=first|omega|decide) only[push_cast,↓reduceIte,Cx]
 refine Gy (fun i:Nat=>[(2,.ptr 0 0),(5,.slc (nz 3 (c.map CZ)) (c.map CZ) false),(6,.int .i64 (c.length:Int)),(7,.int .i64 (i:Int))])
  (fun i=>[⟨false,1,CW (KC (c.take i)),false⟩]) (fun i=>i≤c.length) (fun i=>c.length - i) 0 (by simp only[push_cast,↓reduceIte,Cx,CE,CC,↓CA] <;> rfl) (by omega) ?_
 intro i hi;unfold ju;simp (disch:=first|omega|decide) only[push_cast,↓reduceIte,Cx];refine E4 (fun O=>?_) (fun O=>?_)
 ·have E:i<c.length:=by omega
  have J:=Rx [⟨false,1,CW (KC (c.take i)),false⟩] c false i E;have I:=O4 c E;obtain⟨x,M⟩:∃ x,c.getD i default=x:=⟨_,rfl⟩;rw[M]at J I;have N:=Wb ZA (.list [.int x.op,.int x.n,.int x.m,.bytes (KC (c.take i)).bs]) (Yek _ _);simp only[ZA]at N;simp (disch:=first|omega|decide) only[push_cast,↓reduceIte,Cx,CE,CC,Cy,J,JM,Kq,Mg,FH,Kn,cF,Sa,ff,Rz,RM,Uu,Us,N,DL];refine Fb (i+1) (by omega) (by omega) ?_;rw[I,yRn];simp only[push_cast] <;> rfl
 ·obtain rfl:i=c.length:=by omega
  rw[show(c.take c.length)=c from Be];simp (disch:=first|omega|decide) only[push_cast,↓reduceIte,Cx]
theorem Yvg:Contract Tryz.prog GG 143 cX:=
 D8 yBd (DA (all_cons Yj (all_cons gW (all_cons Yi (all_cons Yh all_nil)))) all_nil) (fun a h=>Yqy a h)
theorem yR7(d:Dig)(l:List Int)(n:Int):I1 d (l++[n])=rL (I1 d l) n:=by unfold I1; rw[List.foldl_append]; rfl
theorem Ye6(d:Dig)(n:Int):Nn.length≤1000∧DU (.list [.int n,.bytes d.bs])≤16∧(Dk (.list [.int n,.bytes d.bs])).length≤4294967000:=by
 have E:=LJ n;have I:=RK d;refine⟨by decide,by simp[DU,Ht],?_⟩;rw[M9];simp only[Ak,Ab,Ap,Au,BG];omega
noncomputable def V2:List D→Option D:=Dc (α:=Dig×List Int) (fun a=>[CY a.1,.slc (nz 1 (a.2.map nI)) (a.2.map nI) false]) (fun a=>a.2.length≤4294967296) (fun a=>CY (I1 a.1 a.2))
theorem pP(d:Dig)(l:List Int)(h:l.length≤4294967296):V2 [CY d,.slc (nz 1 (l.map nI)) (l.map nI) false]=some (CY (I1 d l)):=
 DW (fun⟨a0,a1⟩ ⟨b0,b1⟩ h=>by simp only[Aa,D.slc.injEq,Mk,and_true,Qm]at h; simp[h]) (d,l) h
theorem Yj7(d:Dig)(l:List Int)(h:l.length≤4294967296):@wW GG (tb [(145,Qd),(142,RD),(141,MY),(140,Qc)] []) WL.code (C3 [CY d,.slc (nz 1 (l.map nI)) (l.map nI) false]) [] ⟨Df WL.res (CY (I1 d l))⟩:=by
 unfold WL;simp (disch:=first|omega|decide) only[push_cast,↓reduceIte,Cx]
 refine Gy (fun i:Nat=>[(2,.ptr 0 0),(4,.ptr 1 0),(7,.slc (nz 1 (l.map nI)) (l.map nI) false),(8,.int .i64 (l.length:Int)),(9,.int .i64 (i:Int))])
  (fun i=>[⟨false,1,CW (I1 d (l.take i)),false⟩,⟨false,1,CW Dl,false⟩]) (fun i=>i≤l.length) (fun i=>l.length - i) 0 (by simp only[push_cast,↓reduceIte,Cx,CE,CC,Cy,↓CA] <;> rfl) (by omega) ?_
 intro i hi;unfold iX;simp (disch:=first|omega|decide) only[push_cast,↓reduceIte,Cx];refine E4 (fun O=>?_) (fun O=>?_)
 ·have E:i<l.length:=by omega
  have J:=Yn [⟨false,1,CW (I1 d (l.take i)),false⟩,⟨false,1,CW Dl,false⟩] l false i E;have I:=O4 l E;obtain⟨x,M⟩:∃ x,l.getD i default=x:=⟨_,rfl⟩;rw[M]at J I;have N:=Wb Nn (.list [.int x,.bytes (I1 d (l.take i)).bs]) (Ye6 _ _);simp only[Nn]at N;simp (disch:=first|omega|decide) only[push_cast,↓reduceIte,Cx,CE,CC,Cy,J,Yu,Sa,ff,Rz,RM,rJ,rK,N,DL];refine Fb (i+1) (by omega) (by omega) ?_;rw[I,yR7];simp only[push_cast] <;> rfl
 ·obtain rfl:i=l.length:=by omega
  rw[show(l.take l.length)=l from Be];simp (disch:=first|omega|decide) only[push_cast,↓reduceIte,Cx,Cy]
theorem tv:Contract Tryz.prog GG 146 V2:=
 D8 yKm (DA (all_cons Yj (all_cons gW (all_cons Yi (all_cons Yh all_nil)))) all_nil) (fun a h=>Yj7 a.1 a.2 h)
noncomputable def cY:List D→Option D:=Dc (α:=List Int) (fun a=>[.slc (nz 1 (a.map nI)) (a.map nI) false]) (fun a=>a.length≤4294967296) (fun a=>CY (I1 Dl a))
theorem Yau(l:List Int)(h:l.length≤4294967296):cY [.slc (nz 1 (l.map nI)) (l.map nI) false]=some (CY (I1 Dl l)):=
 DW (fun a b h=>by simp only[Aa,D.slc.injEq,and_true,Qm]at h; simp[h]) (l) h
theorem Yqx(l:List Int)(h:l.length≤4294967296):@wW GG (tb [(146,V2)] []) W1.code (C3 [.slc (nz 1 (l.map nI)) (l.map nI) false]) [] ⟨Df W1.res (CY (I1 Dl l))⟩:=by
 unfold W1;have hc:=pP Dl l h;simp (disch:=first|omega|decide) only[push_cast,↓reduceIte,Cx,hc]
theorem Yvf:Contract Tryz.prog GG 96 cY:=
 D8 yG0 (DA (all_cons tv all_nil) all_nil) (fun a h=>Yqx a h)
theorem Ynq(v:Int×List Int)(h:v.2.length=16):Np.length≤1000∧DU (.list [.int v.1,.list (v.2.map .int)])≤16∧(Dk (.list [.int v.1,.list (v.2.map .int)])).length≤4294967000:=by
 have J:=LJ v.1;have M:=nR v.2
 have E:∀ l:List Int,Ht (l.map .int)=0:=by
  intro l
  induction l with
  |nil=>simp[Ht]
  |cons a l I=>simp[Ht,DU,I]
 refine⟨by decide,by simp[DU,Ht,E],?_⟩;rw[M9];simp only[Ak,Ab,Ap,Au,BG,M9];omega
theorem ZF(l:List Int):(l.map nI).all D.isCell=true:=Wq nI (fun _=>rfl) l
theorem Pb(l:List Int):(l.map nI).all El=true:=by
 rw[Aj];intro x E;obtain⟨n,_,rfl⟩:=AV.1 E;rfl
theorem eg(v:Int×List Int):Ef v=(v.1::v.2).map nI:=(rfl)
theorem GD(v:Int×List Int):Dv (Ev v)=some (Ef v):=by
 rw[show Dv (Ev v)=if(Ef v).all D.isCell then some (Ef v)else none from rfl,eg,if_pos (ZF _)]
theorem EW(st:St)(v:Int×List Int):DN st (Ev v)=some (Ev v):=QB st (Pb (v.1::v.2))
theorem Hc(v:Int×List Int):keys (Ev v)=[]:=QJ (Pb (v.1::v.2))
theorem sw(v:Int×List Int):(Ef v).flatMap hk=[]:=OZ (Pb (v.1::v.2))
theorem lg(m:Nat)(σ:List Nat)(v:Int×List Int):(Ef v).map (Ed m σ)=Ef v:=N6 m σ (Pb (v.1::v.2))
variable {v:Int×List Int}
theorem I0(h:v.2.length=16)(sz:Nat)(lent:Bool):Dn (some ⟨false,sz,Ef v,lent⟩) 17 true 0=some (Ev v):=KJ sz lent _ 17 (by simp[Ef,h])
theorem Ytm(v:Int×List Int)(sz:Nat)(lent:Bool):Dn (some ⟨false,sz,Ef v,lent⟩) 1 false 0=some (.int .i64 v.1):=IK (A:=[]) (C:=v.2.map nI) rfl rfl
theorem Ytl(h:v.2.length=16)(sz:Nat)(lent:Bool):Dn (some ⟨false,sz,Ef v,lent⟩) 16 true 1=some (.agg (v.2.map nI)):=LD (A:=[.int .i64 v.1]) (B:=v.2.map nI) (C:=[]) (by simp[Ef]) rfl (by simp[h])
theorem Yn0(l:List Int)(i:Nat)(h:i<l.length):Om l.length 1 false (.agg (l.map nI)) (.int .i64 (i:Int))=some (nI (l.getD i default)):=by
 have E:Fk (.int .i64 (i:Int))=some i:=by simp[Fk]
 simp only[Om,E,if_pos h,BL];refine vA (A:=(l.take i).map nI) (C:=(l.drop (i+1)).map nI) ?_ (by simp; omega);rw[← Ax,← Bv]
 congr 1
 have:l=l.take i++l.drop i:=(BA _ _).symm;rw[Bd h]at this;rw[Ao,An h];exact this
theorem Ytf(a:Val):E0 4 [C0 a]=some (.slc 4 [C0 a] true):=VS [a] (by simp)
theorem kQ(l:List Int):hk (.agg (l.map nI))=[]:=RS (Pb l)
theorem nj(m:Nat)(σ:List Nat)(l:List Int):Ed m σ (.agg (l.map nI))=.agg (l.map nI):=O3 m σ (Pb l)
noncomputable def cW:List D→Option D:=Dc (α:=(Int×List Int)) (fun a=>[Ev a]) (fun a=>a.2.length=16) (fun a=>CY (J7 a))
theorem Yaw(v:Int×List Int)(h:v.2.length=16):cW [Ev v]=some (CY (J7 v)):=
 DW (fun a b h=>by simp only[Aa,and_true,KI]at h; simp[h]) (v) h
theorem Yq1(v:Int×List Int)(h:v.2.length=16):@wW GG (tb [(145,Qd),(141,MY),(140,Qc)] []) Xl.code (C3 [Ev v]) [] ⟨Df Xl.res (CY (J7 v))⟩:=by
 unfold Xl;have U:=Wb Np (.list [.int v.1,.list (v.2.map .int)]) (Ynq v h);simp only[Np]at U;simp (disch:=first|omega|decide) only[push_cast,↓reduceIte,Cx,GD,Ytl h]
 refine Gy (fun i:Nat=>[(1,.ptr 0 0),(2,.ptr 1 0),(3,DV 0 2 ((v.2.take i).map (C0 ∘ Val.int))),(7,.agg (v.2.map nI)),(8,.int .i64 (i:Int))])
  (fun i=>⟨false,1,Ef v,false⟩::⟨false,1,CW Dl,false⟩::Dp 4 ((v.2.take i).map (C0 ∘ Val.int))) (fun i=>i≤16) (fun i=>16 - i) 0 (by simp only[push_cast,↓reduceIte,Cx,CE,CC,Cy,↓CA,sw,lg,kQ,nj] <;> rfl) (by omega) ?_
 intro i hi;unfold jo;simp (disch:=first|omega|decide) only[push_cast,↓reduceIte,Cx];refine E4 (fun V=>?_) (fun V=>?_)
 ·have J:i<v.2.length:=by omega
  have O:=Yn0 v.2 i J;rw[h]at O;have M:=O4 v.2 J;obtain⟨x,N⟩:∃ x,v.2.getD i default=x:=⟨_,rfl⟩;rw[N,show nI x=.int .i64 x from rfl]at O;rw[N]at M;have I:=lk (f:=C0 ∘ Val.int) (sz:=4) (sz0:=0) (bytes:=64) (A:=v.2.take i) (x:=x) (t:=true) (a:=⟨false,1,Ef v,false⟩) (b:=⟨false,1,CW Dl,false⟩) (hs0:=by decide) (hb:=by rw[AQ]; omega) (hl:=by rw[AQ]; omega);simp only[Function.comp_apply]at I;simp (disch:=first|omega|decide) only[push_cast,↓reduceIte,Cx,CE,CC,Cy,O,Sa,Rz,RM,Ytf,I,DL];refine Fb (i+1) (by omega) (by omega) ?_;rw[M];simp only[push_cast,sw,lg,kQ,nj] <;> rfl
 ·obtain rfl:i=16:=by omega
  rw[show(v.2.take 16)=v.2 from AU (by omega)];have hb:DN (⟨false,1,Ef v,false⟩::⟨false,1,CW Dl,false⟩::Dp 4 (v.2.map (C0 ∘ Val.int))) (DV 0 2 (v.2.map (C0 ∘ Val.int)))=some (.slc (nz 4 (v.2.map (C0 ∘ Val.int))) (v.2.map (C0 ∘ Val.int)) false):=sy _ _ 4 0 _;have hl:=Wc (v.2.map Val.int);rw[List.map_map]at hl
  have E:v.2.map (C0 ∘ Val.int)≠[]:=by
   intro e;have:=congrArg List.length e;simp[h]at this
  rw[Qg _ _ _ E,OH _ _ E]at hb;simp (disch:=first|omega|decide) only[push_cast,↓reduceIte,Cx,Cy,CH,↓CA,Qg _ _ _ E,OH _ _ E,wH,Ytm,Sa,Rz,RM,hl,rJ,rK,U];rfl
theorem Yvh:Contract Tryz.prog GG 144 cW:=
 D8 yDk (DA (all_cons Yj (all_cons Yi (all_cons Yh all_nil))) all_nil) (fun a h=>Yq1 a h)
theorem T2(st:St)(E:sz≠0)(els:List D)(t:Bool)(h:k≤els.length):Gh st sz (.slc (nz sz els) els t) (some (.int .i64 (k:Int))) none none=some (.slc (nz sz els) (els.drop k) t):=by
 have I:((nz sz els == sz || els.isEmpty) && sz != 0)=true:=by
  cases els <;> simp[nz,E]
 have J:Fk (.int .i64 (k:Int))=some k:=by simp[Fk]
 simp only[Gh,I,if_true,FO,J];rw[if_pos ⟨h,AE _⟩,Be,beq_self_eq_true,BW]
theorem T3(st:St)(E:sz≠0)(els:List D)(t:Bool)(h:k≤els.length):Gh st sz (.slc (nz sz els) els t) none (some (.int .i64 (k:Int))) none=some (.slc (nz sz els) (els.take k) (t && k == els.length)):=by
 have I:((nz sz els == sz || els.isEmpty) && sz != 0)=true:=by
  cases els <;> simp[nz,E]
 have J:FO (some (.int .i64 (k:Int))) els.length=some k:=by simp[FO,Fk]
 simp only[Gh,I,if_true,J];simp only[FO];rw[if_pos ⟨Bf _,h⟩,Bt]
theorem T4(st:St)(E:sz≠0)(els:List D)(t:Bool)(h:k≤els.length):Gh st sz (.slc (nz sz els) els t) none (some (.int .i64 (k:Int))) (some (.int .i64 (k:Int)))=some (.slc (nz sz els) (els.take k) true):=by
 have I:((nz sz els == sz || els.isEmpty) && sz != 0)=true:=by
  cases els <;> simp[nz,E]
 have J:FO (some (.int .i64 (k:Int))) els.length=some k:=by simp[FO,Fk]
 have M:Fk (.int .i64 (k:Int))=some k:=by simp[Fk]
 simp only[Gh,I,if_true,J,M];simp only[FO];rw[if_pos (by simp[h]),Bt]
theorem Ydc(s:Sta):(Em s).all D.isCell=true:=(rfl)
theorem I7(s:Sta):Dv (Eb s)=some (Em s):=(rfl)
theorem Ks:Dv (.agg [.int .i64 0,.int .i64 0,.int .i64 0,.int .i64 0,.slc 0 [] true])=some [.int .i64 0,.int .i64 0,.int .i64 0,.int .i64 0,.slc 0 [] true]:=(rfl)
theorem MR(st:St)(s:Sta):DN st (Eb s)=some (Eb s):=by
 simp only[Eb,Em,Eo,DN,DM,Du,Kj];rfl
theorem VP(s:Sta):keys (Eb s)=[]:=(rfl)
theorem Jl(lent:Bool)(s:Sta):Dn (some ⟨false,1,Em s,lent⟩) 1 false 0=some (.int .i64 s.pc):=(rfl)
theorem JL(lent:Bool)(s:Sta):Dn (some ⟨false,1,Em s,lent⟩) 1 false 1=some (.int .i64 s.fuel):=(rfl)
theorem J1(lent:Bool)(s:Sta):Dn (some ⟨false,1,Em s,lent⟩) 1 false 2=some (.int .i64 s.status):=(rfl)
theorem MS(lent:Bool)(s:Sta):Dn (some ⟨false,1,Em s,lent⟩) 1 false 3=some (.int .i64 s.clause):=(rfl)
theorem OL(lent:Bool)(s:Sta):Dn (some ⟨false,1,Em s,lent⟩) 1 false 4=some (Eo s.stack):=(rfl)
theorem Lf(lent:Bool)(s:Sta):Dn (some ⟨false,1,Em s,lent⟩) 5 true 0=some (Eb s):=(rfl)
theorem NT(s:Sta):DQ (some ⟨false,1,[.int .i64 0,.int .i64 0,.int .i64 0,.int .i64 0,.slc 0 [] true],false⟩) 5 0 (Eb s)=some ⟨false,1,Em s,false⟩:=(rfl)
theorem bW(s s':Sta):DQ (some ⟨false,1,Em s,false⟩) 5 0 (Eb s')=some ⟨false,1,Em s',false⟩:=(rfl)
theorem YP(l:List Int):Eo l=.slc (nz 1 (l.map nI)) (l.map nI) false:=(rfl)
def Es(a b c d:Int)(t:D)(k:Int)(r:Dig):List D:=.int .i64 a::.int .i64 b::.int .i64 c::.int .i64 d::t::.int .i64 k::CW r
theorem JY(o:Opn):EG o=Es o.pc o.fuel o.status o.clause (Eo o.top) o.depth o.rest:=(rfl)
theorem WE(a b c d:Int)(t:D)(k:Int)(r:Dig):(Es a b c d t k r).length=38:=by simp[Es,DH]
variable {t:D}
theorem mL(a b c d:Int)(E:t.isCell=true)(k:Int)(r:Dig):(Es a b c d t k r).all D.isCell=true:=by
 simp only[Es,A3,E,pE,Bp];exact Kt (fun _=>rfl) r
theorem ON:(D.int .i64 0::.int .i64 0::.int .i64 0::.int .i64 0::.slc 0 [] true::.int .i64 0::CW Dl)=Es 0 0 0 0 (.slc 0 [] true) 0 Dl:=(rfl)
theorem r8(a b c d:Int)(E:t.isCell=true)(k:Int)(r:Dig):Dv (.agg (Es a b c d t k r))=some (Es a b c d t k r):=by
 rw[show Dv (.agg (Es a b c d t k r))=if(Es a b c d t k r).all D.isCell then some (Es a b c d t k r)else none from rfl,if_pos (mL a b c d E k r)]
theorem Mi(o:Opn):Dv (DS o)=some (EG o):=by
 rw[DS,JY,r8 _ _ _ _ rfl]
theorem TT(a b c d E b' c' I:Int)(t:D){t':D}(M:t'.isCell=true)(k k':Int)(r J:Dig):DQ (some ⟨false,1,Es a b c d t k r,false⟩) 38 0 (.agg (Es E b' c' I t' k' J))=some ⟨false,1,Es E b' c' I t' k' J,false⟩:=
 Lj 1 _ _ 38 (WE ..) (WE ..) (mL _ _ _ _ M _ _)
theorem QQ(lent:Bool)(a b c d:Int)(t:D)(k:Int)(r:Dig):Dn (some ⟨false,1,Es a b c d t k r,lent⟩) 38 true 0=some (.agg (Es a b c d t k r)):=KJ 1 lent _ 38 (WE ..)
theorem sE(lent:Bool)(a b c d:Int)(t:D)(k:Int)(r:Dig):Dn (some ⟨false,1,Es a b c d t k r,lent⟩) 1 false 0=some (.int .i64 a):=IK (A:=[]) rfl rfl
theorem sF(lent:Bool)(a b c d:Int)(t:D)(k:Int)(r:Dig):Dn (some ⟨false,1,Es a b c d t k r,lent⟩) 1 false 1=some (.int .i64 b):=IK (A:=[.int .i64 a]) rfl rfl
theorem bJ(lent:Bool)(a b c d:Int)(t:D)(k:Int)(r:Dig):Dn (some ⟨false,1,Es a b c d t k r,lent⟩) 1 false 2=some (.int .i64 c):=IK (A:=[.int .i64 a,.int .i64 b]) rfl rfl
theorem sG(lent:Bool)(a b c d:Int)(t:D)(k:Int)(r:Dig):Dn (some ⟨false,1,Es a b c d t k r,lent⟩) 1 false 3=some (.int .i64 d):=IK (A:=[.int .i64 a,.int .i64 b,.int .i64 c]) rfl rfl
theorem bK(lent:Bool)(a b c d:Int)(t:D)(k:Int)(r:Dig):Dn (some ⟨false,1,Es a b c d t k r,lent⟩) 1 false 4=some t:=IK (A:=[.int .i64 a,.int .i64 b,.int .i64 c,.int .i64 d]) rfl rfl
theorem S5(lent:Bool)(a b c d:Int)(t:D)(k:Int)(r:Dig):Dn (some ⟨false,1,Es a b c d t k r,lent⟩) 1 false 5=some (.int .i64 k):=IK (A:=[.int .i64 a,.int .i64 b,.int .i64 c,.int .i64 d,t]) rfl rfl
theorem sH(lent:Bool)(a b c d:Int)(t:D)(k:Int)(r:Dig):Dn (some ⟨false,1,Es a b c d t k r,lent⟩) 32 true 6=some (CY r):=LD (A:=[.int .i64 a,.int .i64 b,.int .i64 c,.int .i64 d,t,.int .i64 k]) (B:=CW r) (C:=[]) (by simp[Es]) rfl (DH r)
theorem Yor(a b c d:Int)(E:t.cells=[t])(hc:t.isCell=true)(k:Int)(r:Dig):DD (Es 0 0 0 0 (.slc 0 [] true) 0 Dl) [(0,1,.int .i64 a),(1,1,.int .i64 b),(2,1,.int .i64 c),(3,1,.int .i64 d),(4,1,t),(5,1,.int .i64 k),(6,32,CY r)]=some (Es a b c d t k r):=by
 refine(IA (cs:=Es 0 0 0 0 (.slc 0 [] true) 0 Dl) (cs':=Es a 0 0 0 (.slc 0 [] true) 0 Dl) (A:=[]) (B:=[.int .i64 0]) (xs:=[.int .i64 a]) rfl rfl rfl rfl rfl rfl rfl).trans ?_;refine(IA (cs:=Es a 0 0 0 (.slc 0 [] true) 0 Dl) (cs':=Es a b 0 0 (.slc 0 [] true) 0 Dl) (A:=[.int .i64 a]) (B:=[.int .i64 0]) (xs:=[.int .i64 b]) rfl rfl rfl rfl rfl rfl rfl).trans ?_;refine(IA (cs:=Es a b 0 0 (.slc 0 [] true) 0 Dl) (cs':=Es a b c 0 (.slc 0 [] true) 0 Dl) (A:=[.int .i64 a,.int .i64 b]) (B:=[.int .i64 0]) (xs:=[.int .i64 c]) rfl rfl rfl rfl rfl rfl rfl).trans ?_;refine(IA (cs:=Es a b c 0 (.slc 0 [] true) 0 Dl) (cs':=Es a b c d (.slc 0 [] true) 0 Dl) (A:=[.int .i64 a,.int .i64 b,.int .i64 c]) (B:=[.int .i64 0]) (xs:=[.int .i64 d]) rfl rfl rfl rfl rfl rfl rfl).trans ?_;refine(IA (cs:=Es a b c d (.slc 0 [] true) 0 Dl) (cs':=Es a b c d t 0 Dl) (A:=[.int .i64 a,.int .i64 b,.int .i64 c,.int .i64 d]) (B:=[.slc 0 [] true]) (xs:=[t]) rfl rfl rfl rfl E rfl (by simp[hc])).trans ?_;refine(IA (cs:=Es a b c d t 0 Dl) (cs':=Es a b c d t k Dl) (A:=[.int .i64 a,.int .i64 b,.int .i64 c,.int .i64 d,t]) (B:=[.int .i64 0]) (xs:=[.int .i64 k]) rfl rfl rfl rfl rfl rfl rfl).trans ?_;refine(IA (cs:=Es a b c d t k Dl) (cs':=Es a b c d t k r) (A:=[.int .i64 a,.int .i64 b,.int .i64 c,.int .i64 d,t,.int .i64 k]) (B:=CW Dl) (C:=[]) (xs:=CW r) (by simp[Es]) (by simp[Es]) rfl (DH _) rfl (DH _) (Kt (fun _=>rfl) r)).trans ?_;rfl
theorem lY(a b c d:Int)(sz:Nat)(els:List D)(E:Bool)(k:Int)(r:Dig):DD (Es 0 0 0 0 (.slc 0 [] true) 0 Dl) [(0,1,.int .i64 a),(1,1,.int .i64 b),(2,1,.int .i64 c),(3,1,.int .i64 d),(4,1,.slc sz els E),(5,1,.int .i64 k),(6,32,CY r)]=some (Es a b c d (.slc sz els E) k r):=Yor a b c d rfl rfl k r
theorem Fx(a b c d:Int)(sz:Nat)(els:List D)(E:Bool)(k:Int)(r:Dig):Dv (.agg (Es a b c d (.slc sz els E) k r))=some (Es a b c d (.slc sz els E) k r):=r8 a b c d rfl k r
theorem Te(a b c d E b' c' I:Int)(t:D)(sz:Nat)(els:List D)(M:Bool)(k k':Int)(r J:Dig):DQ (some ⟨false,1,Es a b c d t k r,false⟩) 38 0 (.agg (Es E b' c' I (.slc sz els M) k' J))=some ⟨false,1,Es E b' c' I (.slc sz els M) k' J,false⟩:=TT a b c d E b' c' I t rfl k k' r J
theorem Yo(st:St)(a b c d:Int)(sz:Nat)(els:List D)(E:Bool)(k:Int)(r:Dig):DN st (.agg (Es a b c d (.slc sz els E) k r))=some (.agg (Es a b c d (.slc (nz sz els) els false) k r)):=by
 simp only[Es,DN,ox,mi,dL,ml,Bl,Ag]
theorem Ft(st:St)(o:Opn):DN st (DS o)=some (DS o):=by
 rw[DS,JY,YP,Yo,Kj]
theorem Jc(o:Opn):keys (DS o)=[]:=by
 simp only[DS,EG,keys,Au]
 show []++([]++([]++([]++([]++([]++_)))))=[]
 have:(CW o.rest).flatMap ES=[]:=m0 o.rest;rw[this];rfl
theorem yt(c:List Ins)(v:Int×List Int)(o:Opn):No.length≤1000∧DU (.list [.bytes (KC c).bs,.bytes (J7 v).bs,.int o.pc,.int o.fuel,.int o.status,.int o.clause,.int (o.depth+o.top.length),.bytes (I1 o.rest o.top).bs])≤16∧
  (Dk (.list [.bytes (KC c).bs,.bytes (J7 v).bs,.int o.pc,.int o.fuel,.int o.status,.int o.clause,.int (o.depth+o.top.length),.bytes (I1 o.rest o.top).bs])).length≤4294967000:=by
 have E:=RK (KC c);have I:=RK (J7 v);have J:=RK (I1 o.rest o.top);have M:=LJ o.pc;have N:=LJ o.fuel;have O:=LJ o.status;have U:=LJ o.clause;have V:=LJ (o.depth+o.top.length);refine⟨by decide,by simp[DU,Ht],?_⟩;rw[M9];simp only[Ak,Ab,Ap,Au,BG];omega
noncomputable def Y7:List D→Option D:=Dc (α:=List Ins×(Int×List Int)×Opn) (fun a=>[.slc (nz 3 (a.1.map CZ)) (a.1.map CZ) false,Ev a.2.1,DS a.2.2]) (fun a=>a.1.length≤4294967296∧a.2.1.2.length=16∧a.2.2.top.length≤4294967296∧0≤a.2.2.depth∧a.2.2.depth≤4294967296) (fun a=>CY (Rl a.1 a.2.1 a.2.2))
theorem nJ(c:List Ins)(v:Int×List Int)(o:Opn)(h:c.length≤4294967296∧v.2.length=16∧o.top.length≤4294967296∧0≤o.depth∧o.depth≤4294967296):Y7 [.slc (nz 3 (c.map CZ)) (c.map CZ) false,Ev v,DS o]=some (CY (Rl c v o)):=
 DW (fun⟨a0,a1,E⟩ ⟨b0,b1,I⟩ h=>by simp only[Aa,D.slc.injEq,and_true,J2,Qn,KI]at h; simp[h]) (c,v,o) h
theorem Yqw(c:List Ins)(v:Int×List Int)(o:Opn)(h:c.length≤4294967296∧v.2.length=16∧o.top.length≤4294967296∧0≤o.depth∧o.depth≤4294967296):@wW GG (tb [(143,cX),(144,cW),(146,V2),(145,Qd),(142,RD),(141,MY),(140,Qc)] []) WS.code (C3 [.slc (nz 3 (c.map CZ)) (c.map CZ) false,Ev v,DS o]) [] ⟨Df WS.res (CY (Rl c v o))⟩:=by
 obtain⟨hc,hv,I,O,U⟩:=h;unfold WS;have E:=Wb No _ (yt c v o);simp only[No]at E;have J:=Yav c hc;have M:=Yaw v hv;have N:=pP o.rest o.top I;simp (disch:=first|omega|decide) only[push_cast,↓reduceIte,Cx,Cy,GD,Mi,JY,YP,I0 hv,EW,sE,sF,bJ,sG,bK,S5,sH,J,M,N,Sa,ff,Rz,RM,DL,Ut,Ur,E];rfl
theorem sj:Contract Tryz.prog GG 94 Y7:=
 D8 yGu (DA (all_cons Yvg (all_cons Yvh (all_cons tv (all_cons Yj (all_cons gW (all_cons Yi (all_cons Yh all_nil))))))) all_nil) (fun a h=>Yqw a.1 a.2.1 a.2.2 h)
theorem Ysa(st:St)(l:List Int)(t:Bool)(h:k≤l.length):Gh st 1 (.slc (nz 1 (l.map nI)) (l.map nI) t) (some (.int .i64 (k:Int))) none none=some (.slc (nz 1 (l.map nI)) ((l.drop k).map nI) t):=by
 rw[T2 st (by decide) (l.map nI) t (by simpa using h),Cg]
theorem Ysb(st:St)(l:List Int)(h:k≤l.length):Gh st 1 (.slc (nz 1 (l.map nI)) (l.map nI) false) none (some (.int .i64 (k:Int))) none=some (.slc (nz 1 (l.map nI)) ((l.take k).map nI) false):=by
 rw[T3 st (by decide) (l.map nI) false (by simpa using h),B0]; rfl
theorem Ysc(st:St)(l:List Int)(t:Bool)(h:k≤l.length):Gh st 1 (.slc (nz 1 (l.map nI)) (l.map nI) t) none (some (.int .i64 (k:Int))) (some (.int .i64 (k:Int)))=some (.slc (nz 1 (l.map nI)) ((l.take k).map nI) true):=by
 rw[T4 st (by decide) (l.map nI) t (by simpa using h),B0]
theorem Ye3(s:Sta)(n:Int):Ni s n≤s.stack.length:=Nat.sub_le _ _
theorem Ye4(s:Sta)(n:Int):(s.stack.length:Int) - min (max n 0) (s.stack.length:Int)=(Ni s n:Int):=by unfold Ni; omega
noncomputable def fc:List D→Option D:=Dc (α:=Sta×Int) (fun a=>[Eb a.1,.int .i64 a.2]) (fun a=>a.1.stack.length≤4294967296) (fun a=>DS (Ol a.1 a.2))
theorem yM(s:Sta)(n:Int)(h:s.stack.length≤4294967296):fc [Eb s,.int .i64 n]=some (DS (Ol s n)):=
 DW (fun⟨a0,a1⟩ ⟨b0,b1⟩ h=>by simp only[Aa,D.int.injEq,true_and,and_true,V3]at h; simp[h]) (s,n) h
theorem Yj6(s:Sta)(n:Int)(h:s.stack.length≤4294967296):@wW GG (tb [(96,cY)] []) WJ.code (C3 [Eb s,.int .i64 n]) [] ⟨Df WJ.res (DS (Ol s n))⟩:=by
 unfold WJ;have hk:=Ye3 s n;have E:=Yau (s.stack.take (Ni s n)) (by rw[AQ]; omega);have I:min (max n 0) (s.stack.length:Int)≤s.stack.length:=Int.min_le_right _ _;have J:0≤min (max n 0) (s.stack.length:Int):=by omega
 simp (disch:=first|omega|decide) only[push_cast,↓reduceIte,Cx,I7,ON,Fx,Jl,JL,J1,MS,OL,YP,Fa,Ye4,Ysa,Ysb,E,lY,Te,QQ,Yo,kU,kW];rfl
theorem Yph:Contract Tryz.prog GG 42 fc:=
 D8 yKo (DA (all_cons Yvf all_nil) all_nil) (fun a h=>Yj6 a.1 a.2 h)
noncomputable def dA:List D→Option D:=Dc (α:=List Ins×(Int×List Int)×Sta) (fun a=>[.slc (nz 3 (a.1.map CZ)) (a.1.map CZ) false,Ev a.2.1,Eb a.2.2]) (fun a=>a.1.length≤4294967296∧a.2.1.2.length=16∧a.2.2.stack.length≤4294967296) (fun a=>CY (L7 a.1 a.2.1 a.2.2))
theorem Yax(c:List Ins)(v:Int×List Int)(s:Sta)(h:c.length≤4294967296∧v.2.length=16∧s.stack.length≤4294967296):dA [.slc (nz 3 (c.map CZ)) (c.map CZ) false,Ev v,Eb s]=some (CY (L7 c v s)):=
 DW (fun⟨a0,a1,E⟩ ⟨b0,b1,I⟩ h=>by simp only[Aa,D.slc.injEq,and_true,J2,V3,KI]at h; simp[h]) (c,v,s) h
theorem Yq3(c:List Ins)(v:Int×List Int)(s:Sta)(h:c.length≤4294967296∧v.2.length=16∧s.stack.length≤4294967296):@wW GG (tb [(42,fc),(94,Y7)] []) Xd.code (C3 [.slc (nz 3 (c.map CZ)) (c.map CZ) false,Ev v,Eb s]) [] ⟨Df Xd.res (CY (L7 c v s))⟩:=by
 obtain⟨hc,hv,E⟩:=h;unfold Xd;have I:=yM s s.stack.length E;have hk:Ni s s.stack.length=0:=by unfold Ni; omega
 have hw:=nJ c v (Ol s s.stack.length) ⟨hc,hv,by simp only[Ol,AX]; omega,by simp only[Ol,hk]; omega,by simp only[Ol,hk]; omega⟩;simp (disch:=first|omega|decide) only[push_cast,↓reduceIte,Cx,Cy,GD,I0 hv,EW,I7,Lf,OL,YP,MR,VP,I,Ft,hw];rfl
theorem Yvi:Contract Tryz.prog GG 49 dA:=
 D8 yDl (DA (all_cons Yph (all_cons sj all_nil)) all_nil) (fun a h=>Yq3 a.1 a.2.1 a.2.2 h)
variable {o:Opn}{c:List Ins}
theorem Yad(E:0≤o.depth)(I:o.depth≤64):Ga c v o=Rl c v o:=if_neg (by omega)
theorem Yac(E:o.depth<0):Ga c v o=Dl:=if_pos (.inl E)
theorem Yae(E:64<o.depth):Ga c v o=Dl:=if_pos (.inr E)
noncomputable def RE:List D→Option D:=Dc (α:=List Ins×(Int×List Int)×Opn) (fun a=>[.slc (nz 3 (a.1.map CZ)) (a.1.map CZ) false,Ev a.2.1,DS a.2.2]) (fun a=>a.1.length≤4294967296∧a.2.1.2.length=16∧a.2.2.top.length≤4294967296) (fun a=>CY (Ga a.1 a.2.1 a.2.2))
theorem fg(c:List Ins)(v:Int×List Int)(o:Opn)(h:c.length≤4294967296∧v.2.length=16∧o.top.length≤4294967296):RE [.slc (nz 3 (c.map CZ)) (c.map CZ) false,Ev v,DS o]=some (CY (Ga c v o)):=
 DW (fun⟨a0,a1,E⟩ ⟨b0,b1,I⟩ h=>by simp only[Aa,D.slc.injEq,and_true,J2,Qn,KI]at h; simp[h]) (c,v,o) h
theorem Yq4(c:List Ins)(v:Int×List Int)(o:Opn)(h:c.length≤4294967296∧v.2.length=16∧o.top.length≤4294967296):@wW GG (tb [(94,Y7)] []) W0.code (C3 [.slc (nz 3 (c.map CZ)) (c.map CZ) false,Ev v,DS o]) [] ⟨Df W0.res (CY (Ga c v o))⟩:=by
 obtain⟨hc,hv,J⟩:=h;unfold W0
 by_cases E:o.depth<0
 ·rw[Yac E];simp (disch:=first|omega|decide) only[push_cast,↓reduceIte,Cx,Cy,GD,Mi,JY,S5,E]
 ·by_cases I:64<o.depth
  ·rw[Yae I];simp (disch:=first|omega|decide) only[push_cast,↓reduceIte,Cx,Cy,GD,Mi,JY,S5,E,I]
  ·rw[Yad (by omega) (by omega)];have hw:=nJ c v o ⟨hc,hv,J,by omega,by omega⟩;have hi:=fun st=>Ft st o;have hk:=Jc o;rw[DS,JY]at hw hi hk;simp (disch:=first|omega|decide) only[push_cast,↓reduceIte,Cx,Cy,GD,Mi,JY,S5,E,I,I0 hv,EW,QQ,hi,hw]
theorem sg:Contract Tryz.prog GG 40 RE:=
 D8 yG1 (DA (all_cons sj all_nil) all_nil) (fun a h=>Yq4 a.1 a.2.1 a.2.2 h)
end Go.Proofs.YtijnglngaogdjaaGreatDoor.PI
