/-
  tvm: openings and their digests.
  Conditions: none; these are lemmas.
-/
import Derived.Test.YtijnglngaogdjaaGreatDoorFns
import Derived.Test.YtijnglngaogdjaaGreatDoorEngB2
import Derived.Test.YtijnglngaogdjaaGreatDoorSha
import Derived.WideKeyElems2
import Derived.LaidMore
import Derived.LaidHandle
import Derived.FnData
import Derived.KernelRfl
import Derived.Test.YtijnglngaogdjaaGreatDoorEngHe
open BitVec renaming ofInt→CH
open Int renaming reduceAdd→CP,reduceLT→CJ,reduceMul→CX,reduceNatCast'→CC,reduceNeg→CB,reducePow→CQ,reduceSub→CR,reduceToNat→CL
open List renaming range→CI,replicate→CF
open Nat renaming reduceAdd→CA,reduceBEq→CT,reduceEqDiff→Cz,reduceLT→CG,reduceLeDiff→CE,reduceMul→CD
open UInt64 renaming ofNat→CW
open UInt8 renaming ofNat→CM
set_option linter.unusedVariables false
set_option linter.unusedSimpArgs false
namespace Go.Proofs.YtijnglngaogdjaaGreatDoor.PI
open Go
set_option linter.unusedSimpArgs false
set_option linter.unusedVariables false
def EV:List (Int×Nat):=[(3,231),(4,232),(5,233),(6,234),(7,235),(8,236),(9,238),(10,239),(11,240)]
def GG:Db:=fun n=>if n=0 then some (.gmap EV)else PR 1 .u32 (Sha.K.map fun x=>(x.toNat:Int)) n
theorem FY:GG 0=some (.gmap EV):=rfl
theorem iG:GG 1=some (.agg (Sha.K.map wD)):=rfl
theorem VD(k:Int):Df .and (.int .u64 (IntKind.wrap .u64 k)) (.int .u64 31)=some (.int .u64 ((k % 32).toNat:Int)):=by
 have h:(CH (IntKind.bits .u64) (IntKind.wrap .u64 k) &&& CH (IntKind.bits .u64) 31).toNat=(k % 32).toNat:=by
  show(CH 64 (IntKind.wrap .u64 k) &&& CH 64 31).toNat=_
  rw[Cv,show(CH 64 31).toNat=2 ^ 5 - 1 from rfl,BE,BitVec.toNat_ofInt];simp[IntKind.wrap,IntKind.signed,IntKind.bits];omega
 simp only[Df,if_true,Ko,Ah,h,R2]
 congr 2
 omega
noncomputable def dz:List D→Option D:=Dd (α:=UInt32×Int) (fun a=>[wD a.1,.int .i64 a.2]) (fun a=>-31≤a.2∧a.2≤-1) (fun a=>wD (Sha.rotr a.1 (-a.2).toNat))
theorem nK(x:UInt32)(k:Int)(h:-31≤k∧k≤-1):dz [wD x,.int .i64 k]=some (wD (Sha.rotr x (-k).toNat)):=
 DW (fun⟨a0,a1⟩ ⟨b0,b1⟩ h=>by simp only[Aa,D.int.injEq,Ycv,true_and,and_true]at h; simp[h]) (x,k) h
set_option maxHeartbeats 4000000 in
set_option maxRecDepth 20000 in
theorem Yrv(x:UInt32)(k:Int)(h:-31≤k∧k≤-1):@wW GG (tb [] []) Yk.code (C4 [wD x,.int .i64 k]) [] ⟨Dg Yk.res (wD (Sha.rotr x (-k).toNat))⟩:=by
 obtain⟨O,U⟩:=h;have E:∃ s:Nat,(k % 32).toNat=s∧0<s∧s<32∧(-k).toNat=32 - s:=⟨(k % 32).toNat,rfl,by omega,by omega,by omega⟩;obtain⟨s,I,V,J,M⟩:=E
 have e:Df .sub (.int .u64 32) (.int .u64 (s:Int))=some (.int .u64 ((32 - s:Nat):Int)):=by
  simp only[Df,if_true,JP,Ah];rw[show(32 - (s:Int))=((32 - s:Nat):Int) by omega,R2,A4 (by omega)]
 have hc:∀ st,Fa st (.int .u64) (.int .i64 k)=some (.int .u64 (IntKind.wrap .u64 k)):=fun _=>rfl
 have N:Sha.rotr x (32 - s)=x <<< UInt32.ofNat s ||| x >>> UInt32.ofNat (32 - s):=by
  unfold Sha.rotr;grind
 unfold Yk;simp only[push_cast,↓reduceIte,Cz,hc,VD,I,e,r9 _ _ _ J,se x .u64 (32 - s) (by omega),Um,M,N]
theorem Ywb:Contract Tryz.prog GG 187 dz:=
 D9 vB (DB all_nil all_nil) (fun a h=>Yrv a.1 a.2 h)
def G1(b:List UInt8)(i:Nat):List UInt32:=Sha.sch b i++CF (64 - i) 0
theorem iP(b:List UInt8)(i:Nat)(h:i≤64):(G1 b i).length=64:=by
 simp[G1,Sha.sch_length]; omega
theorem Yd8(b:List UInt8)(i j:Nat)(h:j<i):(G1 b i).getD j default=(Sha.sch b i).getD j 0:=by
 have E:j<(Sha.sch b i).length:=by rw[Sha.sch_length]; exact h
 simp[G1,Ao,Au E,E]
theorem m7(b:List UInt8)(i:Nat)(v:UInt32)(h:i<64)(hv:Sha.sch b (i+1)=Sha.sch b i++[v]):(G1 b i).set i v=G1 b (i+1):=by
 have E:(Sha.sch b i).length=i:=Sha.sch_length b i;unfold G1;rw[hv,Cb _ _ (by omega),E,BK,show 64 - i=(64 - (i+1))+1 by omega,BU,Bn,Ag];rfl
theorem Ys7(b:List UInt8)(i:Nat)(h:i<16):Sha.sch b (i+1)=Sha.sch b i++[Sha.word b i]:=by
 simp[Sha.sch,h]
theorem Ys8(b:List UInt8)(i:Nat)(h:16≤i):Sha.sch b (i+1)=Sha.sch b i++[(Sha.sch b i).getD (i - 16) 0+Sha.sig0 ((Sha.sch b i).getD (i - 15) 0)+(Sha.sch b i).getD (i - 7) 0+Sha.sig1 ((Sha.sch b i).getD (i - 2) 0)]:=by
 simp[Sha.sch,Nat.not_lt.2 h]
theorem gE(s t:Sha.St8)(i:Nat)(h:i<8):(((s.add t).list.take i++s.list.drop i).set i (((s.add t).list.take i++s.list.drop i).getD i default+t.list.getD i default))=(s.add t).list.take (i+1)++s.list.drop (i+1):=by
 rcases i with _ | _ | _ | _ | _ | _ | _ | _ | i <;> first | rfl | omega
noncomputable def eV:List D→Option D:=Dd (α:=Sha.St8×List UInt8) (fun a=>[.agg (Sha.St8.list a.1 |>.map wD),.slc (nz 1 (a.2.map Dc)) (a.2.map Dc) false]) (fun a=>a.2.length=64) (fun a=>.agg ((Sha.block a.1 a.2).list.map wD))
theorem pe(s:Sha.St8)(b:List UInt8)(h:b.length=64):eV [.agg (Sha.St8.list s |>.map wD),.slc (nz 1 (b.map Dc)) (b.map Dc) false]=some (.agg ((Sha.block s b).list.map wD)):=
 DW (fun⟨a0,a1⟩ ⟨b0,b1⟩ h=>by simp only[Aa,D.slc.injEq,D.agg.injEq,nF,yy,Sha.St8.list_iff,and_true]at h; simp[h]) (s,b) h
set_option maxHeartbeats 4000000 in
set_option maxRecDepth 20000 in
theorem Yk5(s:Sha.St8)(b:List UInt8)(h:b.length=64):@wW GG (tb [(187,dz)] []) XI.code (C4 [.agg (Sha.St8.list s |>.map wD),.slc (nz 1 (b.map Dc)) (b.map Dc) false]) [] ⟨Dg XI.res (.agg ((Sha.block s b).list.map wD))⟩:=by
 unfold XI;simp only[push_cast,CA]
 refine GF (fun i:Nat=>[(1,.slc (nz 1 (b.map Dc)) (b.map Dc) false),(2,.ptr 0 0),(4,.ptr 1 0),(5,.ptr 2 0),(19,.int .i64 (i:Int))])
  (fun i=>[⟨false,1,s.list.map wD,false⟩,⟨false,1,(zW 8).map wD,false⟩,⟨false,1,(G1 b i).map wD,false⟩]) (fun i=>i≤16) (fun i=>16 - i) 0 (by simp only[push_cast,↓reduceIte,Cz,CG,CE,CA,↓CC] <;> rfl) (by omega) ?_
 intro i hi;unfold jK;simp only[push_cast,↓reduceIte,Cz];refine E8 (fun U=>?_) (fun U=>?_)
 ·have O:i<16:=by omega
  have E:(4*(i:Int)).toNat=4*i:=by omega
  have I:(4*(i:Int)+1).toNat=4*i+1:=by omega
  have J:(4*(i:Int)+2).toNat=4*i+2:=by omega
  have M:(4*(i:Int)+3).toNat=4*i+3:=by omega
  have hl:(G1 b i).length=64:=iP b i (by omega);have hw:=m7 b i (Sha.word b i) (by omega) (Ys7 b i O);simp (disch:=omega) only[push_cast,↓reduceIte,Cz,CG,CE,CA,CL,MH,DP,Lt,Ypq,Ys4,Um,N7,E,I,J,M];refine Fi (i+1) (by omega) (by omega) ?_;rw[← hw];rfl
 ·obtain rfl:i=16:=by omega
  simp only[push_cast,↓reduceIte,CA,CJ,↓CC]
  refine GF (fun i:Nat=>[(2,.ptr 0 0),(4,.ptr 1 0),(5,.ptr 2 0),(7,.int .i64 (i:Int))])
   (fun i=>[⟨false,1,s.list.map wD,false⟩,⟨false,1,(zW 8).map wD,false⟩,⟨false,1,(G1 b i).map wD,false⟩]) (fun i=>16≤i∧i≤64) (fun i=>64 - i) 16 (by simp only[push_cast,↓reduceIte,Cz,CG,CE,CA,↓CC] <;> rfl) (by omega) ?_
  intro i hi;unfold jL;simp only[push_cast,↓reduceIte,Cz,CB];refine E8 (fun V=>?_) (fun V=>?_)
  ·have hl:(G1 b i).length=64:=iP b i (by omega);have hw:=m7 b i _ (by omega) (Ys8 b i (by omega));have E:((i:Int) - 15).toNat=i - 15:=by omega
   have I:((i:Int) - 2).toNat=i - 2:=by omega
   have J:((i:Int) - 16).toNat=i - 16:=by omega
   have M:((i:Int) - 7).toNat=i - 7:=by omega
   simp (disch:=omega) only[push_cast,↓reduceIte,Cz,CG,CE,CA,CL,CB,Fh,DP,N7,nK,sj,sQ,gK,E,I,J,M,Yd8];refine Fi (i+1) (by omega) (by omega) ?_;rw[← hw];rfl
  ·obtain rfl:i=64:=by omega
   have N:G1 b 64=Sha.sch b 64:=by simp[G1]
   have hl:(Sha.sch b 64).length=64:=Sha.sch_length b 64;have ac:s.list.length=8:=rfl;have ad:(zW 8).length=8:=rfl;simp (disch:=first | omega | rfl) only[push_cast,↓reduceIte,Cz,CA,CJ,CB,↓CC,N]
   refine GF (fun i:Nat=>[(2,.ptr 0 0),(4,.ptr 1 0),(5,.ptr 2 0),(12,.ptr 3 0),(102,.int .i64 (i:Int))])
    (fun i=>[⟨false,1,s.list.map wD,false⟩,⟨false,1,(zW 8).map wD,false⟩,⟨false,1,(Sha.sch b 64).map wD,false⟩,⟨false,1,(Sha.rounds (Sha.sch b 64) s i).list.map wD,false⟩]) (fun i=>i≤64) (fun i=>64 - i) 0 (by simp only[push_cast,↓reduceIte,Cz,CG,CE,CA,↓CC] <;> rfl) (by omega) ?_
   intro i hi;unfold jM;simp only[push_cast,↓reduceIte,Cz,CB];refine E8 (fun Y=>?_) (fun Y=>?_)
   ·have hK:Sha.K.length=64:=rfl;have hn:Sha.rounds (Sha.sch b 64) s (i+1)=Sha.round (Sha.rounds (Sha.sch b 64) s i) (Sha.K.getD i 0) ((Sha.sch b 64).getD i 0):=rfl;generalize Sha.rounds (Sha.sch b 64) s i=r at hn;simp (disch:=omega) only[push_cast,↓reduceIte,Cz,CG,CE,CA,CL,CB,Sha.St8.list,N7,vU,Jc _ _ _ _ iG,nK,sj,VC,Ur,gK,DP];refine Fi (i+1) (by omega) (by omega) ?_;rw[hn];rfl
   ·obtain rfl:i=64:=by omega
    have hb:Sha.block s b=s.add (Sha.rounds (Sha.sch b 64) s 64):=rfl;rw[hb];generalize Sha.rounds (Sha.sch b 64) s 64=r;simp only[push_cast,↓reduceIte,CA,CJ,CB,↓CC]
    refine GF (fun i:Nat=>[(2,.ptr 0 0),(4,.ptr 1 0),(12,.ptr 3 0),(182,.int .i64 (i:Int))])
     (fun i=>[⟨false,1,((s.add r).list.take i++s.list.drop i).map wD,false⟩,⟨false,1,(zW 8).map wD,false⟩,⟨false,1,(Sha.sch b 64).map wD,false⟩,⟨false,1,r.list.map wD,false⟩]) (fun i=>i≤8) (fun i=>8 - i) 0 (by simp only[push_cast,↓reduceIte,Cz,CG,CE,CA,↓CC] <;> rfl) (by omega) ?_
    intro i hi
    have ae:((s.add r).list.take i++s.list.drop i).length=8:=by
     simp only[Ab,AQ,AX,Sha.St8.list_length]; omega
    have af:r.list.length=8:=rfl;unfold jN;simp only[push_cast,↓reduceIte,Cz];refine E8 (fun h4=>?_) (fun h4=>?_)
    ·have ha:=gE s r i (by omega);simp (disch:=omega) only[push_cast,↓reduceIte,Cz,CG,CE,CA,N7,gK,DP];refine Fi (i+1) (by omega) (by omega) ?_;grind
    ·obtain rfl:i=8:=by omega
     have e8:(s.add r).list.take 8++s.list.drop 8=(s.add r).list:=rfl;have ah:(s.add r).list.length=8:=rfl;simp (disch:=first | omega | rfl) only[push_cast,↓reduceIte,Cz,CA,CJ,↓CC,e8]
theorem Yqe:Contract Tryz.prog GG 159 eV:=
 D9 ue (DB (all_cons Ywb all_nil) all_nil) (fun a h=>Yk5 a.1 a.2 h)
end Go.Proofs.YtijnglngaogdjaaGreatDoor.PI
namespace Go.Proofs.YtijnglngaogdjaaGreatDoor.PI
open Go Go.WideElems
set_option linter.unusedSimpArgs false
set_option linter.unusedVariables false
def binsD:DataW Unit:=.map [(.int .i64 3,.agg [.iface "func" (.lit (.string [119,97,103,111,110,112,111,111,108,47,109,111,110,101,121,46,65,100,100]))]),(.int .i64 4,.agg [.iface "func" (.lit (.string [119,97,103,111,110,112,111,111,108,47,109,111,110,101,121,46,83,117,98]))]),(.int .i64 5,.agg [.iface "func" (.lit (.string [119,97,103,111,110,112,111,111,108,47,109,111,110,101,121,46,77,117,108]))]),(.int .i64 6,.agg [.iface "func" (.lit (.string [119,97,103,111,110,112,111,111,108,47,116,118,109,46,98,105,110,97,114,105,101,115,36,49]))]),(.int .i64 7,.agg [.iface "func" (.lit (.string [119,97,103,111,110,112,111,111,108,47,116,118,109,46,98,105,110,97,114,105,101,115,36,50]))]),(.int .i64 8,.agg [.iface "func" (.lit (.string [119,97,103,111,110,112,111,111,108,47,116,118,109,46,98,105,110,97,114,105,101,115,36,51]))]),(.int .i64 9,.agg [.iface "func" (.lit (.string [119,97,103,111,110,112,111,111,108,47,116,118,109,46,98,105,110,97,114,105,101,115,36,52]))]),(.int .i64 10,.agg [.iface "func" (.lit (.string [119,97,103,111,110,112,111,111,108,47,116,118,109,46,98,105,110,97,114,105,101,115,36,53]))]),(.int .i64 11,.agg [.iface "func" (.lit (.string [119,97,103,111,110,112,111,111,108,47,116,118,109,46,98,105,110,97,114,105,101,115,36,54]))])]
theorem gB:Tryz.prog.globalNamed "wagonpool/tvm.binaries"=some 0:=by kernel_rfl
theorem tB:(Tryz.prog.globals[0]?).map (·.type)=some 198:=by kernel_rfl
theorem fO:Tryz.prog.underlying 198=some (.map 3 196):=by kernel_rfl
theorem u3:Tryz.prog.underlying 3=some (.int .i64):=by kernel_rfl
def T9:Option TypeDesc→Bool
 |some (.struct fs)=>match fs.toList with
  |[f]=>f.offset == 0 && f.type == 194
  |_=>false
 |_=>false
def U3:Option TypeDesc→Bool
 |some (.func _ _ _)=>true
 |_=>false
theorem TI:T9 (Tryz.prog.underlying 196)=true:=by kernel_rfl
theorem TJ:U3 (Tryz.prog.underlying 194)=true:=by kernel_rfl
theorem fP:∃ f,Tryz.prog.underlying 196=some (.struct #[f])∧f.offset=0∧f.type=194:=by
 have h:=TI;unfold T9 at h
 split at h
 ·rename_i fs hu
  split at h
  ·rename_i f hf;simp only[Af,beq_iff_eq]at h;have e:fs=#[f]:=Array.ext' hf;subst e;exact⟨f,hu,h.1,h.2⟩
  ·cases h
 ·cases h
theorem Vw:Tryz.prog.cellsOf 196=1:=by kernel_rfl
theorem gz:Tryz.prog.cellsOf 194=1:=by kernel_rfl
theorem fQ:∃ E rs I,Tryz.prog.underlying 194=some (.func E rs I):=by
 have h:=TJ;unfold U3 at h
 split at h
 ·rename_i E rs I hu; exact⟨E,rs,I,hu⟩
 ·cases h
variable {k:Int}{v:Value}
theorem Yui{P:Program}{t:TypeId}{kd:IntKind}(I:P.underlying t=some (.int kd))(h:keyOf P t v=some (.int kd k)):v=.int kd k:=by
 unfold keyOf mapKey at h;rw[I]at h;simp only at h
 split at h
 ·rename_i E; cases E
 ·rename_i E; simp only[AN,TypeDesc.int.injEq]at E; subst E
  split at h
  ·simp only[AN,Lit.int.injEq]at h;rename_i J;rw[← J.1,h.2]
  ·cases h
 ·rename_i E; cases E
 ·cases h
theorem kP(h:keyOf Tryz.prog 3 v=some (.int .i64 k)):v=.int .i64 k:=Yui u3 h
theorem n7{k:Int}{f:Nat}:∀ {l:List (Int×Nat)},FC k l=some f→k∈l.map (·.1)
 |[],h=>by cases h
 |p::r,h=>by
  unfold FC at h
  split at h
  ·rename_i e; simp[e]
  ·exact Ar _ (n7 h)
set_option maxRecDepth 20000 in
theorem M0{W:World}{n:Nat}{e:MapEntry}{b:UInt8}{r:List UInt8}{f0:FuncId}(N:((CI Tryz.prog.funcs.size).filter fun f=>(Tryz.prog.funcs[f]?).any (·.name.toUTF8.data.toList == b::r))=[f0])
  (h:rd Tryz.prog 3 (elemAt (funcToken Tryz.prog) Tryz.prog W 0 (fun _=>true) true n 196) e=some (.int .i64 k,.agg [.held (b::r)])):e.key=.int .i64 k∧e.val=.agg #[.func (.func f0) #[] #[]]:=by
 constructor
 ·exact kP (rd_key h)
 ·obtain⟨z,J,M⟩:=rd_val h;obtain⟨z1,V⟩:=z;dsimp only at M;subst M;unfold elemAt at J
  split at J
  case isFalse=>cases J
  rename_i E;obtain⟨f,hu,Y,ht⟩:=fP;obtain⟨ps,rs,va,O⟩:=fQ
  cases n with
  |zero=>simp[DataW.trod]at J
  |succ n=>
   unfold Value.formed at E;rw[hu,Vw]at E
   cases hv:e.val with
   |agg cs=>
    rw[hv]at J E;simp only[beq_iff_eq]at E
    obtain⟨v,rfl⟩:∃ v,cs=#[v]:=by
     obtain⟨l⟩:=cs
     match l,E with
     |[v],_=>exact⟨v,rfl⟩
    have I:DataW.trod (funcToken Tryz.prog) Tryz.prog W 0 (fun _=>true) true (n+1) 196 [v]=some (.agg [.held (b::r)],V):=J;rw[DataW.trod_step]at I;unfold DataW.trodStep at I;rw[hu]at I;simp[Vw,Y,ht,gz]at I
    obtain⟨q,hq⟩:∃ q,DataW.trod (funcToken Tryz.prog) Tryz.prog W 0 (fun _=>true) true n 194 [v]=some (.held (b::r),q):=by
     rw[Ay]at I;obtain⟨⟨y1,y2⟩,h1,U⟩:=I;simp at U;exact⟨y2,by rw[h1,U.1]⟩
    rw[func_of_trod O N hq]
   |_=>rw[hv]at E; simp at E
def VH:List (Lit×DataW (List UInt8)):=[(.int .i64 3,.agg [.held [119,97,103,111,110,112,111,111,108,47,109,111,110,101,121,46,65,100,100]]),(.int .i64 4,.agg [.held [119,97,103,111,110,112,111,111,108,47,109,111,110,101,121,46,83,117,98]]),(.int .i64 5,.agg [.held [119,97,103,111,110,112,111,111,108,47,109,111,110,101,121,46,77,117,108]]),(.int .i64 6,.agg [.held [119,97,103,111,110,112,111,111,108,47,116,118,109,46,98,105,110,97,114,105,101,115,36,49]]),(.int .i64 7,.agg [.held [119,97,103,111,110,112,111,111,108,47,116,118,109,46,98,105,110,97,114,105,101,115,36,50]]),(.int .i64 8,.agg [.held [119,97,103,111,110,112,111,111,108,47,116,118,109,46,98,105,110,97,114,105,101,115,36,51]]),(.int .i64 9,.agg [.held [119,97,103,111,110,112,111,111,108,47,116,118,109,46,98,105,110,97,114,105,101,115,36,52]]),(.int .i64 10,.agg [.held [119,97,103,111,110,112,111,111,108,47,116,118,109,46,98,105,110,97,114,105,101,115,36,53]]),(.int .i64 11,.agg [.held [119,97,103,111,110,112,111,111,108,47,116,118,109,46,98,105,110,97,114,105,101,115,36,54]])]
set_option maxRecDepth 20000 in
theorem Yg3{W:World}(h:funcsAt Tryz.prog W "wagonpool/tvm.binaries" binsD):∃ b es clock,W.cell? ⟨0,0,none⟩=some (.map (some b))∧W.heap[b]?=some (.map es clock)∧Mb (.map es clock)=true∧cN es EV:=by
 obtain⟨g,t,cs,fuel,p,hg,ht,hv,hd⟩:=h;obtain rfl:=AD (gB.symm.trans hg);obtain rfl:=AD (tB.symm.trans ht);have hd':DataW.trod (funcToken Tryz.prog) Tryz.prog W 0 (fun _=>true) true fuel 198 cs.toList=some (.map VH,p):=hd;rcases open_map fO hd' with⟨_,hx⟩ | ⟨b,es,clock,n,rfl,hcs,hb,_,F,hx⟩
 ·cases hx
 simp only[AA,DataW.map.injEq]at hx
 have mem:∀ y,y∈VH↔y∈es.toList.map (rg Tryz.prog 3 (elemAt (funcToken Tryz.prog) Tryz.prog W 0 (fun _=>true) true n 196)):=fun y=>by
  rw[hx.1]; exact(Go.WideShapes.sorted_perm _).mem_iff
 have ent:∀ e∈es.toList,∃ k f,e.key=.int .i64 k∧e.val=.agg #[.func (.func f) #[] #[]]∧f<5000000∧FC k EV=some f:=by
  intro e he;obtain⟨y,hy⟩:=F.reads e he;have hm:y∈VH:=(mem y).2 (AV.2 ⟨e,he,rg_of hy⟩);simp only[VH,Aw,AB,or_false]at hm;rcases hm with rfl | rfl | rfl | rfl | rfl | rfl | rfl | rfl | rfl
  ·obtain⟨h1,h2⟩:=M0 (f0:=231) (by kernel_rfl) hy; exact⟨_,_,h1,h2,by decide,rfl⟩
  ·obtain⟨h1,h2⟩:=M0 (f0:=232) (by kernel_rfl) hy; exact⟨_,_,h1,h2,by decide,rfl⟩
  ·obtain⟨h1,h2⟩:=M0 (f0:=233) (by kernel_rfl) hy; exact⟨_,_,h1,h2,by decide,rfl⟩
  ·obtain⟨h1,h2⟩:=M0 (f0:=234) (by kernel_rfl) hy; exact⟨_,_,h1,h2,by decide,rfl⟩
  ·obtain⟨h1,h2⟩:=M0 (f0:=235) (by kernel_rfl) hy; exact⟨_,_,h1,h2,by decide,rfl⟩
  ·obtain⟨h1,h2⟩:=M0 (f0:=236) (by kernel_rfl) hy; exact⟨_,_,h1,h2,by decide,rfl⟩
  ·obtain⟨h1,h2⟩:=M0 (f0:=238) (by kernel_rfl) hy; exact⟨_,_,h1,h2,by decide,rfl⟩
  ·obtain⟨h1,h2⟩:=M0 (f0:=239) (by kernel_rfl) hy; exact⟨_,_,h1,h2,by decide,rfl⟩
  ·obtain⟨h1,h2⟩:=M0 (f0:=240) (by kernel_rfl) hy; exact⟨_,_,h1,h2,by decide,rfl⟩
 have all:∀ k∈EV.map (·.1),∃ e∈es.toList,e.key=.int .i64 k:=by
  intro k hk
  have hkL:∃ d,(Lit.int .i64 k,d)∈VH:=by
   simp only[EV,Ax,Bk,Aw,AB,or_false]at hk;rcases hk with rfl | rfl | rfl | rfl | rfl | rfl | rfl | rfl | rfl
   ·exact⟨_,A7⟩
   ·exact⟨_,Ar _ (A7)⟩
   ·exact⟨_,Ar _ (Ar _ (A7))⟩
   ·exact⟨_,Ar _ (Ar _ (Ar _ (A7)))⟩
   ·exact⟨_,Ar _ (Ar _ (Ar _ (Ar _ (A7))))⟩
   ·exact⟨_,Ar _ (Ar _ (Ar _ (Ar _ (Ar _ (A7)))))⟩
   ·exact⟨_,Ar _ (Ar _ (Ar _ (Ar _ (Ar _ (Ar _ (A7))))))⟩
   ·exact⟨_,Ar _ (Ar _ (Ar _ (Ar _ (Ar _ (Ar _ (Ar _ (A7)))))))⟩
   ·exact⟨_,Ar _ (Ar _ (Ar _ (Ar _ (Ar _ (Ar _ (Ar _ (Ar _ (A7))))))))⟩
  obtain⟨d,hd⟩:=hkL;obtain⟨e,he,hre⟩:=AV.1 ((mem _).1 hd);obtain⟨y,hy⟩:=F.reads e he;obtain⟨k',f,h1,h2,_⟩:=ent e he;rw[rg_of hy]at hre;subst hre;have hk:=kP (rd_key hy);exact⟨e,he,hk⟩
 have hc0:W.cell? ⟨0,0,none⟩=some (.map (some b)):=by
  rw[World.var?_cell hg hv 0];obtain⟨l⟩:=cs;have:l=[.map (some b)]:=hcs;rw[this]; rfl
 have hsp:Mb (.map es clock)=true:=by
  rw[du];obtain⟨e,he,_⟩:=all 3 (by decide)
  have hlt:0<es.size:=by
   have:=List.length_pos_of_mem he;simpa using this
  rw[BB hlt];obtain⟨k,f,_,h2,_⟩:=ent es[0] (by simp);simp only[h2];rfl
 refine⟨b,es,clock,hc0,hb,hsp,fun e he=>?_,fun k f hf=>?_⟩
 ·exact ent e he
 ·exact all k (n7 hf)
theorem globGG{W:World}(hk:Lib.TabIs Tryz.prog W "wagonpool/digest.k" .u32 (Sha.K.map fun x=>(x.toNat:Int)))(gk:Tryz.prog.globalNamed "wagonpool/digest.k"=some 1)(h:funcsAt Tryz.prog W "wagonpool/tvm.binaries" binsD):GlobOK GG W (JO W):=by
 intro n d hd;unfold GG at hd
 split at hd
 ·rename_i e;subst e;simp only[AN]at hd;subst hd;obtain⟨b,es,clock,h1,h2,h3,h4⟩:=Yg3 h
  have hj:∀ (j:Nat) (d:D),(D.gmap EV).cells[j]?=some d→j=0∧d=.gmap EV:=fun j d hd=>by
   cases j with
   |zero=>exact⟨rfl,(AD hd).symm⟩
   |succ j=>cases hd
  refine .eptr _ 0 _ 0 (fun _=>.map (some b)) (fun j d hd=>?_) (fun j d hd=>?_) (fun j d hd=>?_)
  ·obtain⟨rfl,rfl⟩:=hj j d hd; rfl
  ·obtain⟨rfl,rfl⟩:=hj j d hd;exact⟨by show(W.cell? ⟨_,0,none⟩).isSome=true; rw[h1]; rfl,h1⟩
  ·obtain⟨rfl,rfl⟩:=hj j d hd;exact .gmap _ b es clock h2 h3 h4
 ·exact Yo1 hk gk n d hd
end Go.Proofs.YtijnglngaogdjaaGreatDoor.PI
namespace Go.Proofs.YtijnglngaogdjaaGreatDoor.PI
open Go
set_option linter.unusedSimpArgs false
set_option linter.unusedVariables false
theorem Ytr(n:Nat):Df .mul (.int .u64 (n:Int)) (.int .u64 8)=some (qD (CW n*8)):=by
 have e:(n:Int)*8=((n*8:Nat):Int):=by omega
 simp only[Df,if_true,JP,Ah,e,R2,qD]
 congr 3
 simp
theorem gD:D.int .u8 128=Dc 128:=rfl
theorem b0:D.int .u8 0=Dc 0:=rfl
theorem sN(n:Nat)(σ:List Nat)(x:UInt64):Ef n σ (qD x)=qD x:=rfl
theorem rV(x:UInt64):hk (qD x)=[]:=rfl
variable {α:Type}
theorem yAj(l:List (List α))(i:Nat):(l.take i).flatten.length≤l.flatten.length:=by
 have:l.flatten=(l.take i).flatten++(l.drop i).flatten:=by rw[← List.flatten_append,BA]
 rw[this,Ab];omega
theorem qh(s:Sha.St8):∀ (i:Nat) (m:List UInt8),Sha.blocks s (i+1) m=Sha.block (Sha.blocks s i m) ((m.drop (64*i)).take 64)
 |0,m=>by simp[Sha.blocks]
 |i+1,m=>by
  rw[Sha.blocks,qh (Sha.block s (m.take 64)) i (m.drop 64),Sha.blocks,Bq,show 64+64*i=64*(i+1) by omega]
theorem ySg(m:List UInt8):(Sha.padded m).length=m.length+1+Sha.zeros m.length+8∧(Sha.padded m).length % 64=0:=by
 have h:(Sha.padded m).length=m.length+1+Sha.zeros m.length+8:=by
  simp[Sha.padded,Sha.lenB_length]; omega
 refine⟨h,?_⟩;rw[h]; unfold Sha.zeros; omega
def Ke(l:List UInt32)(i:Nat):List UInt8:=Sha.outB l i++CF (32 - i) 0
theorem iJ(l:List UInt32)(i:Nat)(h:i≤32):(Ke l i).length=32:=by
 simp[Ke,Sha.outB_length]; omega
theorem Yfg(l:List UInt32)(i:Nat)(h:i<32):(Ke l i).set i ((l.getD (i / 4) 0 >>> UInt32.ofNat (24 - 8*(i % 4))).toUInt8)=Ke l (i+1):=by
 have E:(Sha.outB l i).length=i:=Sha.outB_length l i;unfold Ke;rw[Sha.outB,Cb _ _ (by omega),E,BK,show 32 - i=(32 - (i+1))+1 by omega,BU,Bn,Ag];rfl
def hX(sz key tot off:Nat):D:=if off<tot then .row key tot off (tot - off)else .slc sz [] false
variable {key off sz tot:Nat}
theorem fp(h:off<tot):hX sz key tot off=.row key tot off (tot - off):=if_pos h
theorem ny(h:¬ off<tot):hX sz key tot off=.slc sz [] false:=if_neg h
noncomputable def YP:List D→Option D:=Dd (α:=List (List UInt8)) (fun a=>[.slc (nz 1 (a.map KE)) (a.map KE) false]) (fun a=>a.flatten.length≤4294960000∧a.length≤4294960000) (fun a=>C0 (K3 a.flatten))
theorem Yhz(E:List (List UInt8))(h:E.flatten.length≤4294960000∧E.length≤4294960000):YP [.slc (nz 1 (E.map KE)) (E.map KE) false]=some (C0 (K3 E.flatten)):=
 DW (fun a b h=>by simp only[Aa,D.slc.injEq,Yqh,and_true]at h; simp[h]) (E) h
set_option maxHeartbeats 4000000 in
set_option maxRecDepth 20000 in
theorem Tz(I:List (List UInt8))(h:I.flatten.length≤4294960000∧I.length≤4294960000):@wW GG (tb [(159,eV)] []) Xl.code (C4 [.slc (nz 1 (I.map KE)) (I.map KE) false]) [] ⟨Dg Xl.res (C0 (K3 I.flatten))⟩:=by
 obtain⟨h,ba⟩:=h;generalize hm:I.flatten=m at h;unfold Xl;simp only[push_cast,↓reduceIte,Cz,Yfn 1]
 refine GF (fun i:Nat=>[(2,.ptr 0 0),(3,DV 0 1 ((I.take i).flatten.map Dc)),(10,.slc (nz 1 (I.map KE)) (I.map KE) false),(11,.int .i64 (I.length:Int)),(12,.int .i64 (i:Int))])
  (fun i=>⟨false,1,CY Dn,false⟩::Dr 1 ((I.take i).flatten.map Dc)) (fun i=>i≤I.length) (fun i=>I.length - i) 0 (by simp only[push_cast,↓reduceIte,Cz,CG,CE,↓CC] <;> rfl) (by omega) ?_
 intro i hi;unfold jv;simp only[push_cast,↓reduceIte,Cz];refine E8 (fun h1=>?_) (fun h1=>?_)
 ·have e:(I.take (i+1)).flatten=(I.take i).flatten++I.getD i default:=by
   rw[yg I i (by omega),List.flatten_append]; simp
  have hl:=yAj I (i+1);rw[e,Ab,hm]at hl;simp (disch:=first|omega|decide) only[push_cast,↓reduceIte,Cz,CG,CE,Lt,DP];refine Fi (i+1) (by omega) (by omega) ?_;rw[e];simp only[push_cast] <;> rfl
 ·obtain rfl:i=I.length:=by omega
  rw[Bf,hm];have U:(m++[128]).map Dc≠[]:=by simp
  simp (disch:=first|omega|decide) only[push_cast,↓reduceIte,Cz,YW,Ytr,gD,Qj _ _ _ U,O1 _ _ U];generalize hq:CW m.length*8=q
  refine GF (fun j:Nat=>[(2,.ptr 0 0),(3,.row 1 (m++[128]++CF j 0).length 0 (m++[128]++CF j 0).length),(6,qD q)])
   (fun j=>[⟨false,1,CY Dn,false⟩,⟨true,1,(m++[128]++CF j 0).map Dc,false⟩]) (fun j=>j≤Sha.zeros m.length) (fun j=>Sha.zeros m.length - j) 0 (by simp only[push_cast,↓reduceIte,Cz,CG,CE,CA,List.replicate_zero,Ad] <;> rfl) (by omega) ?_
  intro j hj;have hlen:(m++[128]++CF j 0).length=m.length+1+j:=by simp; omega
  have bb:(m.length+1+Sha.zeros m.length) % 64=56:=by unfold Sha.zeros; omega
  have hz:Sha.zeros m.length<64:=by unfold Sha.zeros; omega
  unfold jw;simp (disch:=first|omega|decide) only[push_cast,↓reduceIte,Cz,rW];refine E8 (fun h2=>?_) (fun h2=>?_)
  ·obtain rfl:j=Sha.zeros m.length:=by
    unfold Sha.zeros at hj ⊢; omega
   simp only[push_cast,↓reduceIte,CA];have V:(m++[128]++CF (Sha.zeros m.length) 0)=(m++[128]++CF (Sha.zeros m.length) 0)++Sha.lenB q 0:=(Ad _).symm;generalize hM:m++[128]++CF (Sha.zeros m.length) 0=M at hlen V h2
   refine GF (fun j:Nat=>[(2,.ptr 0 0),(3,.row 1 (M++Sha.lenB q j).length 0 (M++Sha.lenB q j).length),(6,qD q),(7,.int .i64 (56 - 8*(j:Int)))])
    (fun j=>[⟨false,1,CY Dn,false⟩,⟨true,1,(M++Sha.lenB q j).map Dc,false⟩]) (fun j=>j≤8) (fun j=>8 - j) 0 (by rw[← V]; simp only[push_cast,↓reduceIte,Cz,CG,CE,CA,CX,CR,↓CC] <;> rfl) (by omega) ?_
   intro j hj;have Y:(M++Sha.lenB q j).length=M.length+j:=by rw[Ab,Sha.lenB_length]
   unfold jx;simp only[push_cast,↓reduceIte,Cz];refine E8 (fun O=>?_) (fun O=>?_)
   ·have e:(56 - 8*(j:Int)).toNat=56 - 8*j:=by omega
    have e2:M++Sha.lenB q (j+1)=(M++Sha.lenB q j)++[(q >>> CW (56 - 8*j)).toUInt8]:=by rw[Sha.lenB,Ag]
    simp (disch:=first|omega|decide) only[push_cast,↓reduceIte,Cz,CG,CE,CA,Ys2,Ypp,e,Fh];refine Fi (j+1) (by omega) (by omega) ?_;rw[e2];have e4:(56 - 8*(j:Int) - 8)=56 - 8*((j+1:Nat):Int):=by omega
    simp only[push_cast,sN,rV,e4] <;> rfl
   ·obtain rfl:j=8:=by omega
    have hP:M++Sha.lenB q 8=Sha.padded m:=by rw[← hM,← hq]; rfl
    rw[hP];rw[hP]at Y;obtain⟨ad,ae⟩:=ySg m;have af:K3 m=⟨Sha.outB (Sha.blocks Sha.H0 ((Sha.padded m).length / 64) (Sha.padded m)).list 32,Sha.outB_length _ 32⟩:=rfl;rw[af];generalize Sha.padded m=E at Y ad ae;have hH:Sha.H0.list.length=8:=rfl;have bc:(zW 8).length=8:=rfl;simp (disch:=omega) only[push_cast,↓reduceIte,Cz,CA,Int.reduceLE,CB,CX,CR,↓CC,Yvi]
    refine GF (fun j:Nat=>[(2,.ptr 0 0),(3,hX 1 1 E.length (64*j)),(8,.ptr 2 0)])
     (fun j=>[⟨false,1,CY Dn,false⟩,⟨true,1,E.map Dc,false⟩,⟨false,1,(Sha.blocks Sha.H0 j E).list.map wD,false⟩]) (fun j=>j≤E.length / 64) (fun j=>E.length / 64 - j) 0 (by rw[fp (by omega)]; simp only[push_cast,↓reduceIte,Cz,CG,CE,CA,CD,CB] <;> rfl) (by omega) ?_
    intro j hj;unfold jy;rcases A6 (64*j) E.length with h4 | h4
    ·have bd:((E.drop (64*j)).take 64).length=64:=by simp; omega
     have N:=qh Sha.H0 j E;generalize Sha.blocks Sha.H0 j E=J at N;have a0:J.list.length=8:=rfl;have be:(Sha.block J ((E.drop (64*j)).take 64)).list.length=8:=rfl;have c1:((0:Int)<((E.length - 64*j:Nat):Int)):=by omega
     have c2:((0:Int)<(E.length:Int) - 64*(j:Int)):=by omega
     have c3:¬ (64=E.length - 64*j)∨E.length - 64*j=64:=by omega
     rw[fp h4]
     by_cases h5:E.length - 64*j=64
     ·simp (disch:=omega) only[push_cast,↓reduceIte,Cz,CG,CE,CA,CJ,CL,↓CC,lB,pe,h5];refine Fi (j+1) (by omega) (by omega) ?_;rw[ny (by omega),N]
     ·have h6:¬ 64=E.length - 64*j:=fun e=>h5 e.symm;simp (disch:=omega) only[push_cast,↓reduceIte,Cz,CG,CE,CA,Nat.reduceSub,CL,↓CC,c2,lB,pe,h6];refine Fi (j+1) (by omega) (by omega) ?_;rw[fp (by omega),N];simp only[Nat.mul_add,BL,Nat.sub_sub]
    ·obtain rfl:j=E.length / 64:=by omega
     rw[ny (by omega)];generalize Sha.blocks Sha.H0 (E.length / 64) E=J;have a0:J.list.length=8:=rfl;simp only[push_cast,↓reduceIte,Cz,CA,CJ]
     refine GF (fun j:Nat=>[(2,.ptr 0 0),(8,.ptr 2 0),(55,.int .i64 (j:Int))])
      (fun j=>[⟨false,1,(Ke J.list j).map Dc,false⟩,⟨true,1,E.map Dc,false⟩,⟨false,1,J.list.map wD,false⟩]) (fun j=>j≤32) (fun j=>32 - j) 0 (by simp only[push_cast,↓reduceIte,Cz,CG,CE,CA,↓CC] <;> rfl) (by omega) ?_
     intro j hj;unfold jz;simp only[push_cast,↓reduceIte,Cz];refine E8 (fun h6=>?_) (fun h6=>?_)
     ·have a2:=iJ J.list j (by omega);have a3:=Yfg J.list j (by omega);have e1:((j:Int) / 4).toNat=j / 4:=by omega
      have e2:(24 - 8*((j:Int) % 4)).toNat=24 - 8*(j % 4):=by omega
      simp (disch:=omega) only[push_cast,↓reduceIte,Cz,CG,CE,CA,Uk,rW,MH,Fh,DP,N7,sQ,Ypo,e1,e2];refine Fi (j+1) (by omega) (by omega) ?_;rw[← a3];simp only[push_cast] <;> rfl
     ·obtain rfl:j=32:=by omega
      have a2:=iJ J.list 32 (by omega);simp (disch:=omega) only[push_cast,↓reduceIte,Cz,CA,CJ,↓CC];rw[show Ke J.list 32=Sha.outB J.list 32 from Ad _];rfl
  ·simp (disch:=first|omega|decide) only[push_cast,↓reduceIte,Cz,CG,CE,CA,b0]
   have h9:j<Sha.zeros m.length:=by
    rcases A6 j (Sha.zeros m.length)with O | O
    ·exact O
    ·exfalso;obtain rfl:j=Sha.zeros m.length:=by omega
     omega
   refine Fi (j+1) (by omega) (by omega) ?_
   have e:m++[128]++CF (j+1) 0=(m++[128]++CF j 0)++[0]:=by
    rw[List.replicate_succ',Ag,Ag,Ag]
   rw[e];simp only[push_cast,sN,rV] <;> rfl
theorem Vp:Contract Tryz.prog GG 116 YP:=
 D9 yD4 (DB (all_cons Yqe all_nil) all_nil) (fun a h=>Tz a h)
noncomputable def QN:List D→Option D:=Dd (α:=List UInt8×List UInt8) (fun a=>[.str a.1,.slc (nz 1 (a.2.map Dc)) (a.2.map Dc) false]) (fun a=>a.1.length+a.2.length≤4294900000) (fun a=>C0 (Qp a.1 a.2))
theorem aN(t:List UInt8)(b:List UInt8)(h:t.length+b.length≤4294900000):QN [.str t,.slc (nz 1 (b.map Dc)) (b.map Dc) false]=some (C0 (Qp t b)):=
 DW (fun⟨a0,a1⟩ ⟨b0,b1⟩ h=>by simp only[Aa,D.slc.injEq,D.str.injEq,nF,and_true]at h; simp[h]) (t,b) h
theorem Ybf(x:UInt8)(t b:List UInt8)(h:t.length+b.length≤4294950000) :
  YP [.slc 1 [.slc 1 [Dc x] false,.slc (nz 1 (t.map Dc)) (t.map Dc) false,.slc (nz 1 (b.map Dc)) (b.map Dc) false] false]=some (C0 (K3 (x::(t++b)))):=by
 have:=Yhz [[x],t,b] ⟨by simp; omega,by simp⟩;rw[show([[x],t,b]:List (List UInt8)).flatten=x::(t++b) by simp]at this;exact this
set_option maxHeartbeats 4000000 in
set_option maxRecDepth 20000 in
theorem Ycx(t:List UInt8)(b:List UInt8)(h:t.length+b.length≤4294900000):@wW GG (tb [(116,YP)] []) XU.code (C4 [.str t,.slc (nz 1 (b.map Dc)) (b.map Dc) false]) [] ⟨Dg XU.res (C0 (Qp t b))⟩:=by
 unfold XU;have I:(min (t.length:Int) 255).toNat=min t.length 255:=by omega
 have J:t.take (min t.length 255)=t.take 255:=by
  rcases Nat.le_total t.length 255 with E | E
  ·rw[B3 E,Bf,AU E]
  ·rw[Nat.min_eq_right E]
 have hl:(t.take 255).length≤255:=by simp; omega
 have M:(t.take 255).length≤t.length:=by simp; omega
 simp (disch:=omega) only[push_cast,↓reduceIte,Cz,yRx,I,J,Mz,Ybf];rfl
theorem dP:Contract Tryz.prog GG 62 QN:=
 D9 uv (DB (all_cons Vp all_nil) all_nil) (fun a h=>Ycx a.1 a.2 h)
set_option maxHeartbeats 8000000
set_option maxRecDepth 20000
def nI(n:Int):D:=.int .i64 n
variable {a b:Int}
theorem Ytp:nI a=nI b↔a=b:=by simp[nI]
theorem QF{a b:List Int}:a.map nI=b.map nI↔a=b:=⟨N4 fun _ _=>Ytp.1,fun h=>by rw[h]⟩
theorem iq(n:Int):IntKind.wrap .u64 n=n % 18446744073709551616:=rfl
theorem fq{n:Int}(E:0≤n)(I:n<18446744073709551616):IntKind.wrap .u64 n=n:=by rw[iq]; omega
theorem VF(E:0≤a+b)(I:a+b<18446744073709551616):Df .add (.int .u64 a) (.int .u64 b)=some (.int .u64 (a+b)):=by
 simp only[Df,if_true,JP,Ah,fq E I]
theorem Uw(E:0≤a*b)(I:a*b<18446744073709551616):Df .mul (.int .u64 a) (.int .u64 b)=some (.int .u64 (a*b)):=by
 simp only[Df,if_true,JP,Ah,fq E I]
theorem Ytq(a b:Int):Df .mul (.int .u64 a) (.int .u64 b)=some (.int .u64 ((a*b) % 18446744073709551616)):=by
 rfl
theorem yHq(E:0≤a)(I:a<18446744073709551616):(CH 64 a).toNat=a.toNat:=by
 grind
theorem Yi6(E:0≤a)(I:a<18446744073709551616):Df .and (.int .u64 a) (.int .u64 4294967295)=some (.int .u64 (a % 4294967296)):=by
 have h:(CH (IntKind.bits .u64) a &&& CH (IntKind.bits .u64) 4294967295).toNat=(a % 4294967296).toNat:=by
  show(CH 64 a &&& CH 64 4294967295).toNat=_
  rw[Cv,yHq E I,show(CH 64 4294967295).toNat=2 ^ 32 - 1 from rfl,BE];omega
 simp only[Df,if_true,Ko,Ah,h];rw[fq (by omega) (by omega)]
 congr 2
 omega
theorem Wf(I:0≤a)(hb:0≤b)(E:a≤4294967295)(J:b≤4294967295):0≤a*b∧a*b≤18446744065119617025:=by
 refine⟨Int.mul_nonneg I hb,?_⟩;have M:a*b≤4294967295*b:=Cc E hb;omega
theorem mul4(a b c d:Int):a*b*(c*d)=a*c*(b*d):=by rw[Int.mul_assoc,Int.mul_left_comm b,← Int.mul_assoc]
theorem xm(x y:Int):x*y=(x / 4294967296)*(y / 4294967296)*18446744073709551616+((x / 4294967296)*(y % 4294967296)+(x % 4294967296)*(y / 4294967296))*4294967296+(x % 4294967296)*(y % 4294967296):=by
 have E:x=(x / 4294967296)*4294967296+x % 4294967296:=(Cd x 4294967296).symm;have I:y=(y / 4294967296)*4294967296+y % 4294967296:=(Cd y 4294967296).symm
 conv=>lhs; rw[E,I]
 grind
noncomputable def Za:List D→Option D:=Dd (α:=Int×Int) (fun a=>[.int .u64 a.1,.int .u64 a.2]) (fun a=>0≤a.1∧a.1<18446744073709551616∧0≤a.2∧a.2<18446744073709551616) (fun a=>.tup [.int .u64 (a.1*a.2 / 18446744073709551616),.int .u64 (a.1*a.2 % 18446744073709551616)])
theorem nG(x:Int)(y:Int)(h:0≤x∧x<18446744073709551616∧0≤y∧y<18446744073709551616):Za [.int .u64 x,.int .u64 y]=some (.tup [.int .u64 (x*y / 18446744073709551616),.int .u64 (x*y % 18446744073709551616)]):=
 DW (fun⟨a0,a1⟩ ⟨b0,b1⟩ h=>by simp only[Aa,D.int.injEq,true_and,and_true]at h; simp[h]) (x,y) h
theorem Yr6(x:Int)(y:Int)(h:0≤x∧x<18446744073709551616∧0≤y∧y<18446744073709551616):@wW GG (tb [] []) X8.code (C4 [.int .u64 x,.int .u64 y]) [] ⟨Dg X8.res (.tup [.int .u64 (x*y / 18446744073709551616),.int .u64 (x*y % 18446744073709551616)])⟩:=by
 obtain⟨I,J,M,N⟩:=h;have e:=xm x y;have ha:=Wf (a:=x / 4294967296) (b:=y / 4294967296) (by omega) (by omega) (by omega) (by omega);have hb:=Wf (a:=x / 4294967296) (b:=y % 4294967296) (by omega) (by omega) (by omega) (by omega);have hc:=Wf (a:=x % 4294967296) (b:=y / 4294967296) (by omega) (by omega) (by omega) (by omega);have O:=Wf (a:=x % 4294967296) (b:=y % 4294967296) (by omega) (by omega) (by omega) (by omega);unfold X8;simp (disch:=omega) only[push_cast,↓reduceIte,Cz,CL,CQ,Yi6,MI,Uw,VF,Ytq x y];rw[e];generalize (x / 4294967296)*(y / 4294967296)=a at*;generalize (x / 4294967296)*(y % 4294967296)=b at*;generalize (x % 4294967296)*(y / 4294967296)=c at*;generalize (x % 4294967296)*(y % 4294967296)=d at*;have E:a+(b+d / 4294967296) / 4294967296+((b+d / 4294967296) % 4294967296+c) / 4294967296=(a*18446744073709551616+(b+c)*4294967296+d) / 18446744073709551616:=by omega
 rw[E]
theorem ss:Contract Tryz.prog GG 169 Za:=
 D9 uN (DB all_nil all_nil) (fun a h=>Yr6 a.1 a.2 h)
def Fx(x:Int):Bool:=decide (-9007199254740992≤x) && decide (x≤9007199254740992)
theorem OV{x:Int}:Fx x=true↔-9007199254740992≤x∧x≤9007199254740992:=by simp[Fx]
theorem kT{x:Int}:Fx x=false↔x < -9007199254740992∨9007199254740992<x:=by
 rw[← Bool.not_eq_true,OV]; omega
variable {i:Nat}
theorem Yhn{l:List Int}(h:i<l.length):(l.drop i).all Fx=(Fx (l.getD i default) && (l.drop (i+1)).all Fx):=by
 rw[Be h,A3];grind
noncomputable def M6:List D→Option D:=Dd (α:=List Int) (fun a=>[.slc (nz 1 (a.map nI)) (a.map nI) false]) (fun a=>a.length≤65536) (fun a=>.bool (a.all Fx))
theorem nH(l:List Int)(h:l.length≤65536):M6 [.slc (nz 1 (l.map nI)) (l.map nI) false]=some (.bool (l.all Fx)):=
 DW (fun a b h=>by simp only[Aa,D.slc.injEq,and_true,QF]at h; simp[h]) (l) h
theorem Yrx(l:List Int)(h:l.length≤65536):@wW GG (tb [] []) WE.code (C4 [.slc (nz 1 (l.map nI)) (l.map nI) false]) [] ⟨Dg WE.res (.bool (l.all Fx))⟩:=by
 unfold WE;simp (disch:=first|omega|decide) only[push_cast,↓reduceIte,Cz];refine GF (fun i:Nat=>[(5,.slc (nz 1 (l.map nI)) (l.map nI) false),(6,.int .i64 (l.length:Int)),(7,.int .i64 (i:Int))]) (fun _=>[]) (fun i=>i≤l.length∧l.all Fx=(l.drop i).all Fx) (fun i=>l.length - i) 0 (by simp only[push_cast,↓reduceIte,Cz,↓CC] <;> rfl) ⟨Bg _,rfl⟩ ?_;rintro i ⟨hi,E⟩;unfold ji;simp (disch:=first|omega|decide) only[push_cast,↓reduceIte,Cz,CB];refine E8 (fun U=>?_) (fun U=>?_)
 ·have O:i<l.length:=by omega
  rw[Yhn O]at E
  have I:∀ st:St,F5 st 1 (.slc (nz 1 (l.map nI)) (l.map nI) false) (.int .i64 (i:Int))=some (.eptr (nI (l.getD i default)) 0):=fun st=>by
   have:=Lt st 1 nI l false .i64 (i:Int) (by omega) (by omega);grind
  generalize l.getD i default=x at*
  cases J:Fx x with
  |true=>
   obtain⟨V,Y⟩:=OV.1 J;rw[J,Bp]at E;have M:¬ (x < -9007199254740992):=by omega
   have N:¬ (9007199254740992<x):=by omega
   simp (disch:=first|omega|decide) only[push_cast,↓reduceIte,Cz,CB,I,nI,M,N,DP];refine Fi (i+1) (by exact⟨by omega,E⟩) (by omega) ?_;rfl
  |false=>
   rw[J,Bool.false_and]at E
   by_cases M:x < -9007199254740992
   ·simp (disch:=first|omega|decide) only[push_cast,↓reduceIte,Cz,CB,I,nI,M,E]
   ·have N:9007199254740992<x:=by have:=kT.1 J; omega
    simp (disch:=first|omega|decide) only[push_cast,↓reduceIte,Cz,CB,I,nI,M,N,E]
 ·obtain rfl:i=l.length:=by omega
  rw[Ba]at E;simp (disch:=first|omega|decide) only[push_cast,↓reduceIte,CB,E,Cy]
theorem S5:Contract Tryz.prog GG 241 M6:=
 D9 yLa (DB all_nil all_nil) (fun a h=>Yrx a h)
def KD(c:Int):Int×Int:=if Fx c then(c,0)else(0,3)
theorem Fw(a:Int):E4 1 [.int .i64 a]=some (.slc 1 [.int .i64 a] true):=(rfl)
theorem Gc(a b:Int):E4 1 [.int .i64 a,.int .i64 b]=some (.slc 1 [.int .i64 a,.int .i64 b] true):=(rfl)
theorem Zs:((9:Int)=8)=False:=by decide
theorem NN:((10:Int)=8)=False:=by decide
theorem NM:((10:Int)=9)=False:=by decide
theorem Vl:((8:Int)=10)=False:=by decide
theorem Vk:((9:Int)=10)=False:=by decide
theorem Yh7(a:Int):M6 [.slc 1 [.int .i64 a] false]=some (.bool (Fx a)):=by
 have:=nH [a] (by simp);simpa[nI,nz]using this
theorem VR(a b:Int):M6 [.slc 1 [.int .i64 a,.int .i64 b] false]=some (.bool (Fx a && Fx b)):=by
 have:=nH [a,b] (by simp);simpa[nI,nz]using this
noncomputable def Zi:List D→Option D:=Dd (α:=Int) (fun a=>[.int .i64 a]) (fun a=>True) (fun a=>.tup [.int .i64 (KD a).1,.int .i64 (KD a).2])
theorem nJ(c:Int):Zi [.int .i64 c]=some (.tup [.int .i64 (KD c).1,.int .i64 (KD c).2]):=
 DW (fun a b h=>by simp only[Aa,D.int.injEq,true_and,and_true]at h; simp[h]) (c) trivial
theorem Yrw(c:Int):@wW GG (tb [(241,M6)] []) XK.code (C4 [.int .i64 c]) [] ⟨Dg XK.res (.tup [.int .i64 (KD c).1,.int .i64 (KD c).2])⟩:=by
 unfold XK KD;have:=Yh7 c;cases hc:Fx c <;> rw[hc]at this <;> simp (disch:=first|omega|decide) only[push_cast,↓reduceIte,Cz,Fw,this]
theorem su:Contract Tryz.prog GG 242 Zi:=
 D9 ug (DB (all_cons S5 all_nil) all_nil) (fun a h=>Yrw a)
def Ht(a b:Int):Int×Int:=if Fx a && Fx b then KD (a+b)else(0,3)
def Hj(a b:Int):Int×Int:=if Fx a && Fx b then KD (a - b)else(0,3)
noncomputable def V0:List D→Option D:=Dd (α:=Int×Int) (fun a=>[.int .i64 a.1,.int .i64 a.2]) (fun a=>True) (fun a=>.tup [.int .i64 (Ht a.1 a.2).1,.int .i64 (Ht a.1 a.2).2])
theorem yN(a:Int)(b:Int):V0 [.int .i64 a,.int .i64 b]=some (.tup [.int .i64 (Ht a b).1,.int .i64 (Ht a b).2]):=
 DW (fun⟨a0,a1⟩ ⟨b0,b1⟩ h=>by simp only[Aa,D.int.injEq,true_and,and_true]at h; simp[h]) (a,b) trivial
theorem Ykv(a:Int)(b:Int):@wW GG (tb [(241,M6),(242,Zi)] []) WY.code (C4 [.int .i64 a,.int .i64 b]) [] ⟨Dg WY.res (.tup [.int .i64 (Ht a b).1,.int .i64 (Ht a b).2])⟩:=by
 unfold WY Ht;have E:=VR a b;have I:=nJ (a+b)
 cases hc:Fx a && Fx b with
 |false=>rw[hc]at E; simp (disch:=first|omega|decide) only[push_cast,↓reduceIte,Cz,Gc,E]
 |true=>
  rw[hc]at E;simp only[Af,OV]at hc;simp (disch:=first|omega|decide) only[push_cast,↓reduceIte,Cz,Gc,E,I,DP]
theorem Yp7:Contract Tryz.prog GG 231 V0:=
 D9 yHp (DB (all_cons S5 (all_cons su all_nil)) all_nil) (fun a h=>Ykv a.1 a.2)
noncomputable def V2:List D→Option D:=Dd (α:=Int×Int) (fun a=>[.int .i64 a.1,.int .i64 a.2]) (fun a=>True) (fun a=>.tup [.int .i64 (Hj a.1 a.2).1,.int .i64 (Hj a.1 a.2).2])
theorem yP(a:Int)(b:Int):V2 [.int .i64 a,.int .i64 b]=some (.tup [.int .i64 (Hj a b).1,.int .i64 (Hj a b).2]):=
 DW (fun⟨a0,a1⟩ ⟨b0,b1⟩ h=>by simp only[Aa,D.int.injEq,true_and,and_true]at h; simp[h]) (a,b) trivial
theorem Yks(a:Int)(b:Int):@wW GG (tb [(241,M6),(242,Zi)] []) W1.code (C4 [.int .i64 a,.int .i64 b]) [] ⟨Dg W1.res (.tup [.int .i64 (Hj a b).1,.int .i64 (Hj a b).2])⟩:=by
 unfold W1 Hj;have E:=VR a b;have I:=nJ (a - b)
 cases hc:Fx a && Fx b with
 |false=>rw[hc]at E; simp (disch:=first|omega|decide) only[push_cast,↓reduceIte,Cz,Gc,E]
 |true=>
  rw[hc]at E;simp only[Af,OV]at hc;simp (disch:=first|omega|decide) only[push_cast,↓reduceIte,Cz,Gc,E,I,Fh]
theorem Yp5:Contract Tryz.prog GG 232 V2:=
 D9 yHm (DB (all_cons S5 (all_cons su all_nil)) all_nil) (fun a h=>Yks a.1 a.2)
theorem Uu(E:0<a)(I:a<18446744073709551616):Mf .neg (.int .u64 a)=some (.int .u64 (18446744073709551616 - a)):=by
 have e:(0 - a) % 18446744073709551616=18446744073709551616 - a:=by omega
 simp only[Mf,iq,e]
theorem Wa(st:St):Fa st (.int .u64) (.int .i64 a)=some (.int .u64 (a % 18446744073709551616)):=by
 rfl
noncomputable def RX:List D→Option D:=Dd (α:=Int) (fun a=>[.int .i64 a]) (fun a=>Fx a=true) (fun a=>.int .u64 (if a<0 then -a else a))
theorem pk(a:Int)(h:Fx a=true):RX [.int .i64 a]=some (.int .u64 (if a<0 then -a else a)):=
 DW (fun a b h=>by simp only[Aa,D.int.injEq,true_and,and_true]at h; simp[h]) (a) h
theorem Ykw(a:Int)(h:Fx a=true):@wW GG (tb [] []) W3.code (C4 [.int .i64 a]) [] ⟨Dg W3.res (.int .u64 (if a<0 then -a else a))⟩:=by
 obtain⟨M,N⟩:=OV.1 h;unfold W3
 by_cases E:a<0
 ·have I:(a % 18446744073709551616)=18446744073709551616+a:=by omega
  have J:18446744073709551616 - (18446744073709551616+a)=-a:=by omega
  simp (disch:=first|omega|decide) only[push_cast,↓reduceIte,Cz,E,Wa,I,Uu,J]
 ·simp (disch:=first|omega|decide) only[push_cast,↓reduceIte,Cz,E,YW]
theorem Yp8:Contract Tryz.prog GG 243 RX:=
 D9 yHl (DB all_nil all_nil) (fun a h=>Ykw a h)
def Hu(a:Int):Int:=if a<0 then -a else a
def Hm(a b:Int):Int×Int:=if Fx a && Fx b then KD (a*b)else(0,3)
theorem Yw0(a b:Int):Hu a*Hu b=Hu (a*b):=by
 unfold Hu;rcases Int.lt_or_le a 0 with E | E <;> rcases Int.lt_or_le b 0 with I | I
 ·have:=Int.mul_pos_of_neg_of_neg E I;grind
 ·have:=Int.mul_nonpos_of_nonpos_of_nonneg (Int.le_of_lt E) I;rw[if_pos E,if_neg (by omega),Int.neg_mul];omega
 ·have:=Int.mul_nonpos_of_nonneg_of_nonpos E (Int.le_of_lt I);rw[if_neg (by omega),if_pos I,Int.mul_neg];omega
 ·have:=Int.mul_nonneg E I;grind
theorem gJ(h:Fx a=true):0≤Hu a∧Hu a≤9007199254740992:=by
 have:=OV.1 h;unfold Hu; split <;> omega
theorem VG(a:Int):Fx a=decide (Hu a≤9007199254740992):=by
 cases h:Fx a with
 |true=>simp[(gJ h).2]
 |false=>
  have:=kT.1 h
  symm
  rw[decide_eq_false_iff_not];unfold Hu; split <;> omega
noncomputable def V1:List D→Option D:=Dd (α:=Int×Int) (fun a=>[.int .i64 a.1,.int .i64 a.2]) (fun a=>True) (fun a=>.tup [.int .i64 (Hm a.1 a.2).1,.int .i64 (Hm a.1 a.2).2])
theorem yO(a:Int)(b:Int):V1 [.int .i64 a,.int .i64 b]=some (.tup [.int .i64 (Hm a b).1,.int .i64 (Hm a b).2]):=
 DW (fun⟨a0,a1⟩ ⟨b0,b1⟩ h=>by simp only[Aa,D.int.injEq,true_and,and_true]at h; simp[h]) (a,b) trivial
theorem Ykt(a:Int)(b:Int):@wW GG (tb [(241,M6),(243,RX),(169,Za)] []) W0.code (C4 [.int .i64 a,.int .i64 b]) [] ⟨Dg W0.res (.tup [.int .i64 (Hm a b).1,.int .i64 (Hm a b).2])⟩:=by
 unfold W0 Hm;have E:=VR a b
 cases hc:Fx a && Fx b with
 |false=>rw[hc]at E; simp (disch:=first|omega|decide) only[push_cast,↓reduceIte,Cz,Gc,E]
 |true=>
  rw[hc]at E;simp only[Af]at hc;have c1:RX [.int .i64 a]=some (.int .u64 (Hu a)):=pk a hc.1;have M:RX [.int .i64 b]=some (.int .u64 (Hu b)):=pk b hc.2;have l1:=gJ hc.1;have N:=gJ hc.2;have J:=nG (Hu a) (Hu b) (by omega);have e:=Yw0 a b;have Y:=VG (a*b);have hn:0≤Hu a*Hu b:=Int.mul_nonneg l1.1 N.1;have hb:Hu a*Hu b≤9007199254740992*9007199254740992:=Int.le_trans (Cc l1.2 N.1) (by omega);rw[e]at J hn hb
  have hm:Hu (a*b)≤9007199254740992→-9007199254740992≤a*b∧a*b≤9007199254740992:=fun h=>by
   unfold Hu at h; split at h <;> omega
  have hmul:-9007199254740992≤a*b→a*b≤9007199254740992→Df .mul (.int .i64 a) (.int .i64 b)=some (.int .i64 (a*b)):=fun h1 E=>MH (by omega) (by omega);unfold KD;rw[Y];generalize a*b=m at*;generalize Hu m=z at*
  by_cases O:z / 18446744073709551616=0
  ·have h9:z % 18446744073709551616=z:=by omega
   rw[O,h9]at J
   by_cases U:9007199254740992<z
   ·have I:¬ z≤9007199254740992:=by omega
    simp (disch:=first|omega|decide) only[push_cast,↓reduceIte,Cz,Gc,E,c1,M,J,U,I]
   ·have I:z≤9007199254740992:=by omega
    have V:=hm I;have c4:Df .mul (.int .i64 a) (.int .i64 b)=some (.int .i64 m):=hmul V.1 V.2;simp (disch:=first|omega|decide) only[push_cast,↓reduceIte,Cz,Gc,E,c1,M,J,U,I,c4]
  ·have I:¬ z≤9007199254740992:=by omega
   simp (disch:=first|omega|decide) only[push_cast,↓reduceIte,Cz,Gc,E,c1,M,J,O,I]
theorem Yp6:Contract Tryz.prog GG 233 V1:=
 D9 yHn (DB (all_cons S5 (all_cons Yp8 (all_cons ss all_nil))) all_nil) (fun a h=>Ykt a.1 a.2)
theorem Yls(a:Int)(hb:0<b):-(Hu a)≤a.tdiv b∧a.tdiv b≤Hu a:=by
 unfold Hu;rcases Int.lt_or_le a 0 with h | h
 ·have e:a.tdiv b=-((-a) / b):=by
   rw[← BN (by omega),Int.neg_tdiv,Int.neg_neg]
  have E:=Cf b (show 0≤-a by omega);have I:=Ck (show 0≤-a by omega) (show 0≤b by omega);omega
 ·have e:a.tdiv b=a / b:=BN h;have E:=Cf b h;have I:=Ck h (show 0≤b by omega);omega
theorem Q4(hb:0<b)(E:-9223372036854775808<a)(I:a<9223372036854775808):Df .quo (.int .i64 a) (.int .i64 b)=some (.int .i64 (a.tdiv b)):=by
 have J:=Yls a hb;have M:Hu a<9223372036854775808:=by unfold Hu; split <;> omega
 simp only[Df,if_true,JP,show ¬ b=0 by omega,if_false,Ah,N9 (show -9223372036854775808≤a.tdiv b by omega) (show a.tdiv b<9223372036854775808 by omega)]
theorem Q5(hb:0<b):Df .rem (.int .i64 a) (.int .i64 b)=some (.int .i64 (a.tmod b)):=by
 simp only[Df,if_true,JP,show ¬ b=0 by omega,if_false,Ah]
def gu(a b:Int):Int:=(if a.tmod b<0 then a - b else a).tdiv b
def qZ(a b:Int):Int:=(if 0<a.tmod b then a+b else a).tdiv b
def Ed(a b m:Int):Int×Int:=if Fx a && Fx b then(if b≤0 then(0,70)else(if m=10 then gu (2*a+b) (2*b)else if m=8 then gu a b else qZ a b,0))else(0,3)
noncomputable def RY:List D→Option D:=Dd (α:=Int×Int×Int) (fun a=>[.int .i64 a.1,.int .i64 a.2.1,.int .i64 a.2.2]) (fun a=>a.2.2=8∨a.2.2=9∨a.2.2=10) (fun a=>.tup [.int .i64 (Ed a.1 a.2.1 a.2.2).1,.int .i64 (Ed a.1 a.2.1 a.2.2).2])
theorem aw(a:Int)(b:Int)(m:Int)(h:m=8∨m=9∨m=10):RY [.int .i64 a,.int .i64 b,.int .i64 m]=some (.tup [.int .i64 (Ed a b m).1,.int .i64 (Ed a b m).2]):=
 DW (fun⟨a0,a1,E⟩ ⟨b0,b1,I⟩ h=>by simp only[Aa,D.int.injEq,true_and,and_true]at h; simp[h]) (a,b,m) h
theorem Yku(a:Int)(b:Int)(m:Int)(h:m=8∨m=9∨m=10):@wW GG (tb [(241,M6)] []) WZ.code (C4 [.int .i64 a,.int .i64 b,.int .i64 m]) [] ⟨Dg WZ.res (.tup [.int .i64 (Ed a b m).1,.int .i64 (Ed a b m).2])⟩:=by
 unfold WZ Ed;have E:=VR a b
 cases hc:Fx a && Fx b with
 |false=>
  rw[hc]at E;rcases h with rfl | rfl | rfl <;> simp (disch:=first|omega|decide) only[push_cast,↓reduceIte,Cz,Gc,Zs,NN,NM,E]
 |true=>
  rw[hc]at E;simp only[Af,OV]at hc;obtain⟨⟨a1,J⟩,b1,M⟩:=hc
  by_cases hb:b≤0
  ·rcases h with rfl | rfl | rfl <;> simp (disch:=first|omega|decide) only[push_cast,↓reduceIte,Cz,Gc,Zs,NN,NM,E,hb]
  ·unfold gu qZ;rcases h with rfl | rfl | rfl
   ·by_cases I:a.tmod b<0
    ·simp (disch:=first|omega|decide) only[push_cast,↓reduceIte,Cz,Gc,Vl,E,hb,Q5,I,Fh,Q4]
    ·simp (disch:=first|omega|decide) only[push_cast,↓reduceIte,Cz,Gc,Vl,E,hb,Q5,I,Q4]
   ·by_cases I:0<a.tmod b
    ·simp (disch:=first|omega|decide) only[push_cast,↓reduceIte,Cz,Gc,Zs,Vk,E,hb,Q5,I,DP,Q4]
    ·simp (disch:=first|omega|decide) only[push_cast,↓reduceIte,Cz,Gc,Zs,Vk,E,hb,Q5,I,Q4]
   ·by_cases I:(2*a+b).tmod (2*b)<0
    ·simp (disch:=first|omega|decide) only[push_cast,↓reduceIte,Cz,Gc,NN,NM,E,hb,MH,DP,Q5,I,Fh,Q4]
    ·simp (disch:=first|omega|decide) only[push_cast,↓reduceIte,Cz,Gc,NN,NM,E,hb,MH,DP,Q5,I,Q4]
theorem cJ:Contract Tryz.prog GG 237 RY:=
 D9 yHo (DB (all_cons S5 all_nil) all_nil) (fun a h=>Yku a.1 a.2.1 a.2.2 h)
noncomputable def E2(R:List D→St→D×St→Prop):List D→St→Option (D×St):=fun ds st=>@dite _ (∃ r,R ds st r) (Classical.propDecidable _) (fun h=>some h.choose) (fun _=>none)
variable {r:D×St}{st:St}{ds:List D}
theorem Iv{R:List D→St→D×St→Prop}(h:E2 R ds st=some r):R ds st r:=by
 unfold E2 at h
 split at h
 ·rename_i E;simp only[AN]at h;rw[← h]; exact E.choose_spec
 ·cases h
theorem Ymk{R:List D→St→D×St→Prop}(h:R ds st r)(J:∀ E,R ds st E→E=r):E2 R ds st=some r:=by
 have I:∃ r,R ds st r:=⟨r,h⟩;unfold E2;rw[dif_pos I,J _ I.choose_spec]
def Hw(R:List D→St→D×St→Prop):Prop:=∀ ds st r r',R ds st r→R ds st r'→r=r'
theorem KP{R:List D→St→D×St→Prop}(E:Hw R)(h:R ds st r):E2 R ds st=some r:=Ymk h fun I J=>E ds st I r J h
def StOK(st:St):Prop:=∀ o∈st,o.row=false→∀ x∈o.els,Ef st.length [] x=x
theorem oP(n:Nat):∀ (l acc:List Nat),ER n n l acc=acc
 |[],acc=>rfl
 |k::r,acc=>by
  rw[ER,if_neg (by omega)];exact oP n r acc
theorem LV{α:Type}{f:α→α}:∀ {l:List α},(∀ x∈l,f x=x)→l.map f=l
 |[],_=>rfl
 |a::l,h=>by rw[Ax,h a (by simp),LV fun x E=>h x (by simp[E])]
theorem lu(h:StOK st):st.map (ES st.length [])=st:=by
 refine LV fun o E=>?_;obtain⟨row,sz,els,lent⟩:=o
 cases row with
 |true=>rfl
 |false=>
  show(⟨false,sz,els.map (Ef st.length []),lent⟩:Obj)=_
  rw[LV (h _ E rfl)]
variable {fr:Frame}{keep:List Nat}
theorem aX(h:StOK st):restrict keep st.length ⟨fr,st⟩=⟨GK (Ja fr st.length [] keep),st⟩:=by
 unfold restrict;simp only[AE,if_true,oP];unfold restrictAt;rw[RN];simp only[picked,Bk,Ad,Bf,lu h]
variable {n:Nat}
theorem Si{m:Nat}(f:Nat→D)(I:∀ k,f k≠.junk)(E:n≤m)(h:IH f (EA n [] key)=f key):IH f (EA m [] key)=f key:=by
 unfold EA at h ⊢
 by_cases hk:key<n
 ·rw[if_pos (AY hk E)]; rfl
 ·rw[if_neg hk]at h;exact absurd h.symm (I key)
variable {x:D}
theorem oH{m:Nat}(E:n≤m)(h:F9 n [] x=x):F9 m [] x=x:=by
 cases x with
 |row key tot off len=>exact Si (fun k=>.row k tot off len) (fun k e=>by cases e) E h
 |bsl key off j sz ag=>exact Si (fun k=>.bsl k off j sz ag) (fun k e=>by cases e) E h
 |ptr key off=>exact Si (fun k=>.ptr k off) (fun k e=>by cases e) E h
 |rptr key tot i off=>exact Si (fun k=>.rptr k tot i off) (fun k e=>by cases e) E h
 |mapv key=>exact Si .mapv (fun k e=>by cases e) E h
 |_=>exact h
theorem PB{f:D→D}:∀ {l:List D},l.map f=l→∀ x∈l,f x=x
 |[],_,x,E=>by cases E
 |a::l,h,x,E=>by
  simp only[Ax,Aa]at h;rcases Aw.1 E with rfl | E
  ·exact h.1
  ·exact PB h.2 x E
theorem oI{m:Nat}(E:n≤m)(h:En n [] x=x):En m [] x=x:=by
 cases x with
 |clo f l=>
  simp only[En,D.clo.injEq,true_and]at h ⊢;exact LV fun y I=>oH E (PB h y I)
 |_=>unfold En at h ⊢; exact oH E h
theorem Yei{m:Nat}(E:n≤m)(h:Ef n [] x=x):Ef m [] x=x:=by
 cases x with
 |agg l=>
  simp only[Ef,D.agg.injEq]at h ⊢;exact LV fun y I=>oI E (PB h y I)
 |tup l=>unfold Ef at h ⊢; exact h
 |_=>unfold Ef at h ⊢; exact oI E h
theorem StOK.nil:StOK []:=fun _ h=>by cases h
theorem StOK.app(h:StOK st)(l:St)(hl:∀ o∈l,o.row=false→∀ x∈o.els,Ef (st.length+l.length) [] x=x):StOK (st++l):=by
 intro o E I x J;rw[Ab];rcases AK.1 E with E | E
 ·exact Yei (Nat.le_add_right _ _) (h o E I x J)
 ·exact hl o E I x J
theorem StOK.set(h:StOK st)(k:Nat)(o:Obj)(M:o.row=false→∀ x∈o.els,Ef st.length [] x=x):StOK (st.set k o):=by
 intro q E I x J;rw[B6];rcases BQ E with E | rfl
 ·exact h q E I x J
 ·exact M I x J
theorem nt(n m:Nat):∀ (l acc:List Nat),(∀ k∈l,k<n)→ER n m l acc=acc
 |[],acc,_=>rfl
 |k::r,acc,h=>by
  have:=h k (by simp);rw[ER,if_neg (by omega)];exact nt n m r acc fun x E=>h x (by simp[E])
theorem yE8{l:St}(h:StOK st)(M:∀ o∈st,o.row=false→∀ x∈o.els,∀ k∈hk x,k<st.length)(V:∀ s∈keep,∀ k∈hk (fr s),k<st.length) :
  restrict keep st.length ⟨fr,st++l⟩=⟨GK (Ja fr st.length [] keep),st⟩:=by
 have hle:st.length≤(st++l).length:=by simp
 have N:(st++l).take st.length=st:=by simp
 unfold restrict;simp only[hle,if_true]
 rw[nt _ _ _ _ (fun k I=>by
  simp only[Ta,N,AK,Bj]at I;rcases I with⟨s,Y,O⟩ | ⟨o,ho,E⟩
  ·exact V s Y k O
  ·cases J:o.row with
   |true=>rw[J]at E; simp at E
   |false=>
    rw[J]at E;simp only[Al,if_false,Bj]at E;obtain⟨x,hx,U⟩:=E;exact M o ho J x hx k U)]
 unfold restrictAt;rw[RN];simp only[picked,Bk,Ad,N,lu h]
def Hd:Nat→Nat→Nat
 |0,_=>0
 |n+1,u=>if u=0 then 0 else Hd n (u / 256)+1
theorem Yl4(n:Nat):Hd n 0=0:=by cases n <;> rfl
theorem dq(n u:Nat):Hd (n+1) u=if u=0 then 0 else Hd n (u / 256)+1:=(rfl)
theorem pT:∀ (n u:Nat),u<256 ^ n→Hd (n+1) u=Hd n u
 |0,u,h=>by
  have:u=0:=by simpa using h
  subst this; rfl
 |n+1,u,h=>by
  rw[dq (n+1) u,dq n u]
  split
  ·rfl
  ·rw[pT n (u / 256) (by rw[Nat.pow_succ]at h; omega)]
theorem Qz:∀ (n u:Nat),Hd n u≤n
 |0,_=>AE _
 |n+1,u=>by
  rw[Hd]
  split
  ·omega
  ·have:=Qz n (u / 256); omega
def sg(ds:List D)(st:St)(r:D×St):Prop:=∃ u:Nat,StOK st∧u<18446744073709551616∧ds=[.int .u64 (u:Int)]∧r=(.int .i64 (Hd 8 u:Int),st)
noncomputable def dm:List D→St→Option (D×St):=E2 sg
theorem Yd0:Hw sg:=by
 rintro ds st r E ⟨u,_,_,rfl,rfl⟩ ⟨I,_,_,h,rfl⟩;grind
theorem yRh{u:Nat}(h:u≠0)(E:u<256 ^ n):Hd n u=Hd n (u / 256)+1:=by
 cases n with
 |zero=>simp at E; omega
 |succ n=>
  rw[dq n u,if_neg h,pT n (u / 256) (by rw[Nat.pow_succ]at E; omega)]
theorem Ypv:IContract Tryz.prog GG 209 dm:=by
 refine IM (T:=tb [] []) uU (DB all_nil all_nil) ?_;intro ds st r N;obtain⟨u,E,hu,rfl,rfl⟩:=Iv N;unfold j2;simp (disch:=first|omega|decide) only[push_cast];refine GF (fun p:Nat×Nat=>[(0,.int .u64 (p.1:Int)),(2,.int .i64 (p.2:Int))]) (fun _=>st) (fun p=>p.1<18446744073709551616∧Hd 8 u=Hd 8 p.1+p.2) (fun p=>p.1) (u,0) (by simp only[push_cast,↓reduceIte,Cz,↓aX E] <;> rfl) ⟨hu,rfl⟩ ?_;rintro⟨w,k⟩ ⟨hw,hk⟩;have U:=Qz 8 u;dsimp only at hw hk;unfold kn;simp (disch:=first|omega|decide) only[push_cast,↓reduceIte];refine E8 (fun O=>?_) (fun O=>?_)
 ·have I:w≠0:=by omega
  have V:=yRh (n:=8) I (by omega)
  have J:Df .shr (.int .u64 (w:Int)) (.int .u64 8)=some (.int .u64 ((w / 256:Nat):Int)):=by
   rw[MI (by omega) (by omega)]; rfl
  simp (disch:=first|omega|decide) only[push_cast,↓reduceIte,Cz,↓CC,↓aX E,J,DP];refine Fi (w / 256,k+1) (by dsimp only; omega) (by dsimp only; omega) ?_;rfl
 ·obtain rfl:w=0:=by omega
  rw[Yl4]at hk;have M:Hd 8 u=k:=by omega
  rw[M];simp (disch:=first|omega|decide) only[push_cast,↓reduceIte,Cz,CJ,↓CC]
def MK(st:St)(b:D)(l:List UInt8):Prop:=(b=.slc 0 [] true∧l=[])∨∃ key,b=.row key l.length 0 l.length∧l≠[]∧st[key]?=some ⟨true,1,l.map Dc,false⟩
def IG(st:St)(b:D)(l m:List UInt8):D×St:=match b with
 |.row key _ _ _=>(.row key (l++m).length 0 (l++m).length,st.set key ⟨true,1,(l++m).map Dc,false⟩)
 |_=>(.row st.length m.length 0 m.length,st++[⟨true,1,m.map Dc,false⟩])
variable {l:List UInt8}
theorem Yb5{b:D}{I:List UInt8}(h:MK st b l)(J:MK st b I):l=I:=by
 rcases h with⟨rfl,rfl⟩ | ⟨key,rfl,hl,hk⟩
 ·rcases J with⟨_,rfl⟩ | ⟨key,h,_⟩
  ·rfl
  ·cases h
 ·rcases J with⟨h,_⟩ | ⟨M,h,_,E⟩
  ·cases h
  ·simp only[D.row.injEq]at h;obtain⟨rfl,_⟩:=h;rw[hk]at E;simp only[C3,Obj.mk.injEq,true_and,and_true]at E;exact Pb E
variable {m:List UInt8}
theorem Yw8{b:D}(h:StOK st):StOK (IG st b l m).2:=by
 unfold IG
 split
 ·exact h.set _ _ fun e=>by cases e
 ·exact h.app _ fun o E I=>by
   grind
theorem RS{b:D}(h:MK st b l)(hm:m≠[])(hl:l.length+m.length≤4294967296)(t:Bool):D8 st 1 1 b (.slc 1 (m.map Dc) t)=some (IG st b l m):=by
 have E:m.map Dc≠[]:=by simpa using hm
 have I:nz 1 (m.map Dc)=1:=by
  cases hc:m.map Dc with
  |nil=>exact absurd hc E
  |cons a r=>rfl
 rcases h with⟨rfl,rfl⟩ | ⟨key,rfl,J,hk⟩
 ·have:=pM Dc st 1 0 1 m t (by decide) (by omega) (by simp at hl; omega);rw[I,Qj _ _ _ E,O1 _ _ E,Bd]at this;exact this
 ·rw[ZV,hk];have he:Gy st (.slc 1 (m.map Dc) t)=some (1,m.map Dc):=(rfl);rw[he,gH l m false hl];simp only[Ah,IG,Bd]
def DA(st:St)(key:Nat)(l:List UInt8):St:=st.set key ⟨true,1,l.map Dc,false⟩
theorem bj(st:St)(key:Nat)(l:List UInt8):(DA st key l).length=st.length:=B6
theorem dM(h:key<st.length)(l:List UInt8):(DA st key l)[key]?=some ⟨true,1,l.map Dc,false⟩:=by simp[DA,h]
theorem Yb4(st:St)(key:Nat)(l m:List UInt8):DA (DA st key l) key m=DA st key m:=by simp[DA]
theorem Tp(h:StOK st)(key:Nat)(l:List UInt8):StOK (DA st key l):=h.set _ _ fun e=>by cases e
theorem lR(h:key<st.length)(l m:List UInt8)(hm:m≠[])(hl:l.length+m.length≤4294967296)(t:Bool) :
  D8 (DA st key l) 1 1 (.row key l.length 0 l.length) (.slc 1 (m.map Dc) t)=some (.row key (l++m).length 0 (l++m).length,DA st key (l++m)):=by
 by_cases E:l=[]
 ·subst E;rw[ZV,dM h];have he:Gy (DA st key []) (.slc 1 (m.map Dc) t)=some (1,m.map Dc):=(rfl);rw[he,gH [] m false hl];simp only[Ah,Bd];simp only[DA,List.set_set]
 ·rw[RS (.inr ⟨key,rfl,E,dM h l⟩) hm hl t];simp only[IG];simp only[DA,List.set_set]
theorem Wt(h:key<st.length)(l:List UInt8)(x:UInt8)(hl:l.length<4294967296)(t:Bool) :
  D8 (DA st key l) 1 1 (.row key l.length 0 l.length) (.slc 1 [Dc x] t)=some (.row key (l++[x]).length 0 (l++[x]).length,DA st key (l++[x])):=
 lR h l [x] (by simp) (by simp; omega) t
theorem o9{b:D}(h:MK st b l)(hm:m≠[]):∃ key st1,key<st1.length∧IG st b l m=(.row key (l++m).length 0 (l++m).length,DA st1 key (l++m))∧(StOK st→StOK st1)∧
  ∀ n,IG st b l (m++n)=(.row key (l++(m++n)).length 0 (l++(m++n)).length,DA st1 key (l++(m++n))):=by
 rcases h with⟨rfl,rfl⟩ | ⟨key,rfl,hl,hk⟩
 ·refine⟨st.length,st++[⟨true,1,[],false⟩],by simp,?_,fun h=>h.app _ fun o I J=>?_,fun n=>?_⟩
  ·simp[IG,DA]
  ·grind
  ·simp[IG,DA]
 ·have E:=(Ac.1 hk).1;exact⟨key,st,E,rfl,id,fun n=>rfl⟩
theorem Xv(h:StOK st)(hn:n=st.length):restrict keep n ⟨fr,st⟩=⟨GK (Ja fr n [] keep),st⟩:=by
 subst hn; exact aX h
def Iq(u k:Nat):List UInt8:=(CI k).map fun i=>CM (u / 2 ^ (8*(k - 1 - i)))
theorem bC(u k:Nat):(Iq u k).length=k:=by simp[Iq]
variable {k:Nat}
theorem yNt{u:Nat}(h:i<k):(Iq u k).take (i+1)=(Iq u k).take i++[CM (u / 2 ^ (8*(k - 1 - i)))]:=by
 rw[List.take_add_one]
 congr 1
 simp[Iq,h]
def D2(n:Int):Nat:=(n % 18446744073709551616).toNat
def Li(a:Nat):Nat:=18446744073709551615 - a
theorem Ygm(a:Nat):Li a<18446744073709551616:=by unfold Li; omega
def H4(n:Int):List UInt8:=
 if 0≤n then CM (32+Hd 8 (D2 n))::Iq (D2 n) (Hd 8 (D2 n))
 else CM (31 - Hd 8 (Li (D2 n)))::Iq (D2 n) (Hd 8 (Li (D2 n)))
theorem Ydg{a:Nat}(h:a<18446744073709551616):Mf .xor (.int .u64 (a:Int))=some (.int .u64 (Li a:Int)):=by
 unfold Li
 have E:Ko .xor .u64 (if IntKind.u64.signed then -1 else IntKind.u64.max) (a:Int)=some ((18446744073709551615 - a:Nat):Int):=by
  unfold Ko;have J:IntKind.u64.bits=64:=rfl;have I:(if IntKind.u64.signed then(-1:Int)else IntKind.u64.max)=18446744073709551615:=by decide
  rw[I];simp only
  have:(CH IntKind.u64.bits 18446744073709551615 ^^^ CH IntKind.u64.bits (a:Int)) = ~~~ (BitVec.ofNat 64 a):=by
   rfl
  rw[this]
  show some (IntKind.wrap .u64 (((~~~ (BitVec.ofNat 64 a):BitVec 64).toNat:Nat):Int))=_
  rw[BitVec.toNat_not,BitVec.toNat_ofNat,A4 (by omega)]
  show some (IntKind.wrap .u64 ((2 ^ 64 - 1 - a:Nat):Int))=_
  congr 1
  rw[iq];omega
 simp only[Mf,E,Ah]
def U0(ds:List D)(st:St)(r:D×St):Prop:=∃ (b:D) (l:List UInt8) (n:Int),StOK st∧MK st b l∧l.length≤4294967000∧ds=[b,.int .i64 n]∧r=IG st b l (H4 n)
noncomputable def RI:List D→St→Option (D×St):=E2 U0
theorem Yi7:Hw U0:=by
 rintro ds st r I ⟨b,l,n,_,hb,_,rfl,rfl⟩ ⟨b',J,M,_,E,_,h,rfl⟩;simp only[Aa,D.int.injEq,true_and,and_true]at h;obtain⟨rfl,rfl⟩:=h;rw[Yb5 hb E]
theorem Ybp{b:D}(n:Int)(E:StOK st)(I:MK st b l)(J:l.length≤4294967000):RI [b,.int .i64 n] st=some (IG st b l (H4 n)):=KP Yi7 ⟨b,l,n,E,I,J,rfl,rfl⟩
theorem nN(u:Nat)(E:StOK st)(I:u<18446744073709551616):dm [.int .u64 (u:Int)] st=some (.int .i64 (Hd 8 u:Int),st):=KP Yd0 ⟨u,E,I,rfl,rfl⟩
theorem OZ(h:key<n):EA n [] key=some key:=if_pos h
theorem lF(n:Int):D2 n<18446744073709551616:=by unfold D2; omega
theorem dK(n:Int):n % 18446744073709551616=(D2 n:Int):=by unfold D2; omega
theorem Tf(x:UInt8):E4 1 [Dc x]=some (.slc 1 [Dc x] true):=(rfl)
theorem SM(st:St)(x:UInt8):DO st (Dc x)=some (Dc x):=(rfl)
theorem Tb(x:UInt8):keys (Dc x)=[]:=(rfl)
theorem oq(st:St)(k:Nat):Fa st (.int .u8) (.int .i64 (32+(k:Int)))=some (Dc (CM (32+k))):=by
 rfl
theorem Yap(st:St)(h:k≤31):Fa st (.int .u8) (.int .i64 (31 - (k:Int)))=some (Dc (CM (31 - k))):=by
 rw[Mz st (by omega),show(31 - (k:Int)).toNat=31 - k by omega]
theorem zN(st:St)(u m:Nat):Fa st (.int .u8) (.int .u64 ((u:Int) / 2 ^ m))=some (Dc (CM (u / 2 ^ m))):=by
 rfl
/- the loop's part: the tag is laid -/
theorem lN(T:Tbl)(st1:St)(key:Nat)(E:key<st1.length)(M:StOK st1)(l0:List UInt8)(n:Int)(k:Nat)(hk:k≤8)(hl:l0.length≤4294967200)(fr:Frame)(Q:Ex→Frame→St→Prop)
  (V:fr 0=.row key l0.length 0 l0.length) (Y:fr 1=.int .i64 n) (h6:fr 6=.int .i64 (k:Int)) (N:fr 30=.int .i64 (k:Int)) (O:fr 31=.int .i64 0)
  (hQ:∀ I,I 0=.row key (l0++Iq (D2 n) k).length 0 (l0++Iq (D2 n) k).length→Q (.exit 0) I (DA st1 key (l0++Iq (D2 n) k))) :
  @wW GG T (.loop [0,1,6,30,31] bK) fr (DA st1 key l0) ⟨Q⟩:=by
 have hlen:=bj st1 key;have U:∀ (fr:Frame) (m:List UInt8),restrict [0,1,6,30,31] (DA st1 key l0).length ⟨fr,DA st1 key m⟩=⟨GK (Ja fr st1.length [] [0,1,6,30,31]),DA st1 key m⟩:=fun fr m=>by rw[Xv (Tp M key m) (by rw[hlen,hlen]),hlen]
 refine GF (fun i:Nat=>[(0,.row key (l0++(Iq (D2 n) k).take i).length 0 (l0++(Iq (D2 n) k).take i).length),(1,.int .i64 n),(6,.int .i64 (k:Int)),(30,.int .i64 (k:Int)),(31,.int .i64 (i:Int))])
  (fun i=>DA st1 key (l0++(Iq (D2 n) k).take i)) (fun i=>i≤k) (fun i=>k - i) 0 ?_ (by omega) ?_
 ·rw[U];simp (disch:=omega) only[push_cast,↓CC,V,Y,h6,N,O,OZ] <;> rfl
 intro i hi;unfold bK;have hb:=bC (D2 n) k;have ht:((Iq (D2 n) k).take i).length=i:=by rw[AQ]; omega
 simp (disch:=first|omega|decide) only[push_cast,↓reduceIte,Cz];refine E8 (fun h2=>?_) (fun h2=>?_)
 ·have e1:((8*((k:Int) - 1 - (i:Int)))).toNat=8*(k - 1 - i):=by omega
  have J:=fun x=>Wt (st:=st1) E (l0++(Iq (D2 n) k).take i) x (by rw[Ab]; omega) true;simp (disch:=first|omega|decide) only[push_cast,↓reduceIte,Cz,Wa,dK,Fh,MH,DP,MI,e1,zN,SM,Tb,Tf,J,↓U,E];refine Fi (i+1) (by omega) (by omega) ?_;rw[yNt (by omega),← Ag];rfl
 ·obtain rfl:i=k:=by omega
  have e2:(Iq (D2 n) i).take i=Iq (D2 n) i:=AU (by omega);rw[e2];simp (disch:=first|omega|decide) only[push_cast];exact hQ _ rfl
theorem Yp0:IContract Tryz.prog GG 202 RI:=by
 refine IM (T:=tb [] [(209,dm)]) uJ (DB all_nil (all_cons Ypv all_nil)) ?_;intro ds st r hr;obtain⟨b,l,n,O,hb,hl,rfl,rfl⟩:=Iv hr;unfold jH;have V:=nN (st:=st) (D2 n) O (lF n);have Y:=Qz 8 (D2 n);have hu:=lF n
 by_cases hn:n<0
 ·have aa:=nN (st:=st) (Li (D2 n)) O (Ygm _);have ab:=Qz 8 (Li (D2 n));have U:H4 n=[CM (31 - Hd 8 (Li (D2 n)))]++Iq (D2 n) (Hd 8 (Li (D2 n))):=if_neg (by omega);rw[U];generalize Hd 8 (Li (D2 n))=k at*;obtain⟨key,st1,J,M,N,I⟩:=o9 hb (m:=[CM (31 - k)]) (by simp);have E:=RS hb (m:=[CM (31 - k)]) (by simp) (by simp; omega) true;rw[M]at E;have hm:=I (Iq (D2 n) k);simp only[Ax,Bk]at E;rw[hm,← Ag];simp (disch:=first|omega|decide) only[push_cast,↓reduceIte,Cz,hn,Wa,dK,V,Ydg,aa,DP,Fh,Yap,oq,SM,Tb,Tf,E];refine lN _ st1 key J (N O) (l++[CM (31 - k)]) n k ab (by simp; omega) _ _ (by simp only[push_cast,↓reduceIte,Cz]) (by simp only[push_cast,↓reduceIte,Cz]) (by simp only[push_cast,↓reduceIte,Cz]) (by simp only[push_cast,↓reduceIte,Cz]) (by simp only[push_cast,↓reduceIte]) fun ac hf=>?_;simp (disch:=first|omega|decide) only[push_cast,↓reduceIte,hf]
 ·have U:H4 n=[CM (32+Hd 8 (D2 n))]++Iq (D2 n) (Hd 8 (D2 n)):=if_pos (by omega);rw[U];generalize Hd 8 (D2 n)=k at*;obtain⟨key,st1,J,M,N,I⟩:=o9 hb (m:=[CM (32+k)]) (by simp);have E:=RS hb (m:=[CM (32+k)]) (by simp) (by simp; omega) true;rw[M]at E;have hm:=I (Iq (D2 n) k);simp only[Ax,Bk]at E;rw[hm,← Ag];simp (disch:=first|omega|decide) only[push_cast,↓reduceIte,Cz,hn,Wa,dK,V,DP,oq,SM,Tb,Tf,E];refine lN _ st1 key J (N O) (l++[CM (32+k)]) n k Y (by simp; omega) _ _ (by simp only[push_cast,↓reduceIte,Cz]) (by simp only[push_cast,↓reduceIte,Cz]) (by simp only[push_cast,↓reduceIte,Cz]) (by simp only[push_cast,↓reduceIte,Cz]) (by simp only[push_cast,↓reduceIte]) fun ac hf=>?_;simp (disch:=first|omega|decide) only[push_cast,↓reduceIte,hf]
inductive Val where
 |int (n:Int)
 |bytes (b:List UInt8)
 |list (l:List Val)
instance:Inhabited Val:=⟨.int 0⟩
def vC(k n:Int)(B L:List D):List D:=[.int .i64 k,.int .i64 n,.slc (nz 1 B) B false,.slc (nz 4 L) L false]
def vD(k n:Int)(B L:List D):D:=.agg (vC k n B L)
mutual
def C5:Val→D
 |.int n=>vD 1 n [] []
 |.bytes b=>vD 2 0 (b.map Dc) []
 |.list l=>vD 3 0 [] (LL l)
def LL:List Val→List D
 |[]=>[]
 |v::l=>C5 v::LL l
end
mutual
def DU:Val→Nat
 |.int _=>0
 |.bytes _=>0
 |.list l=>Hx l+1
def Hx:List Val→Nat
 |[]=>0
 |v::l=>max (DU v) (Hx l)
end
def DT(c:UInt8):List UInt8:=if c=0 then [0,255]else [c]
mutual
def Dm:Val→List UInt8
 |.int n=>H4 n
 |.bytes b=>48::(b.flatMap DT++[0,0])
 |.list l=>64::(PE l++[0])
def PE:List Val→List UInt8
 |[]=>[]
 |v::l=>Dm v++PE l
end
theorem nv:∀ l:List Val,LL l=l.map C5
 |[]=>by simp[LL]
 |v::l=>by simp[LL,nv l]
theorem dX:∀ l:List Val,PE l=l.flatMap Dm
 |[]=>by simp[PE]
 |v::l=>by simp[PE,dX l]
theorem dS:∀ {l:List Val} {v:Val},v∈l→DU v≤Hx l
 |a::l,v,h=>by
  rw[Hx];rcases Aw.1 h with rfl | h
  ·omega
  ·exact AS (dS h) (Nat.le_max_right _ _)
theorem Nj(n:Int):C5 (.int n)=vD 1 n [] []:=by simp[C5]
theorem No(b:List UInt8):C5 (.bytes b)=vD 2 0 (b.map Dc) []:=by simp[C5]
theorem Pl(l:List Val):C5 (.list l)=vD 3 0 [] (l.map C5):=by simp[C5,nv]
theorem dW(n:Int):Dm (.int n)=H4 n:=by simp[Dm]
theorem WN(b:List UInt8):Dm (.bytes b)=48::(b.flatMap DT++[0,0]):=by simp[Dm]
theorem Nl(l:List Val):Dm (.list l)=64::(l.flatMap Dm++[0]):=by simp[Dm,dX]
theorem Yhp(n:Int):DU (.int n)=0:=by simp[DU]
theorem yY(b:List UInt8):DU (.bytes b)=0:=by simp[DU]
theorem fK(l:List Val):DU (.list l)=Hx l+1:=by simp[DU]
def TH(v:Val):List D:=match v with
 |.int n=>vC 1 n [] []
 |.bytes b=>vC 2 0 (b.map Dc) []
 |.list l=>vC 3 0 [] (LL l)
theorem Nk(v:Val):∃ k n B L,TH v=vC k n B L∧C5 v=vD k n B L:=by
 cases v
 ·exact⟨_,_,_,_,rfl,by simp[C5]⟩
 ·exact⟨_,_,_,_,rfl,by simp[C5]⟩
 ·exact⟨_,_,_,_,rfl,by simp[C5]⟩
theorem Lq{k n k' E:Int}{B L I J:List D}(h:vD k n B L=vD k' E I J):k=k'∧n=E∧B=I∧L=J:=by
 simp only[vD,vC,D.agg.injEq,Aa,D.int.injEq,D.slc.injEq,true_and,and_true]at h;grind
mutual
theorem fo:∀ {v v':Val},C5 v=C5 v'→v=v'
 |.int n,.int E,h=>by rw[Nj,Nj]at h; rw[(Lq h).2.1]
 |.bytes b,.bytes b',h=>by rw[No,No]at h; rw[Pb (Lq h).2.2.1]
 |.list l,.list I,h=>by
  have:=h;simp only[C5]at this;rw[oR (Lq this).2.2.2]
 |.int n,.bytes b,h=>by rw[Nj,No]at h; exact absurd (Lq h).1 (by decide)
 |.int n,.list b,h=>by rw[Nj,Pl]at h; exact absurd (Lq h).1 (by decide)
 |.bytes n,.int b,h=>by rw[Nj,No]at h; exact absurd (Lq h).1 (by decide)
 |.bytes n,.list b,h=>by rw[No,Pl]at h; exact absurd (Lq h).1 (by decide)
 |.list n,.int b,h=>by rw[Nj,Pl]at h; exact absurd (Lq h).1 (by decide)
 |.list n,.bytes b,h=>by rw[No,Pl]at h; exact absurd (Lq h).1 (by decide)
theorem oR:∀ {l E:List Val},LL l=LL E→l=E
 |[],[],_=>rfl
 |[],_::_,h=>by simp[LL]at h
 |_::_,[],h=>by simp[LL]at h
 |a::l,b::E,h=>by
  simp only[LL,Aa]at h;rw[fo h.1,oR h.2]
end
theorem R1{v v':Val}:C5 v=C5 v'↔v=v':=⟨fo,fun h=>by rw[h]⟩
theorem Ydd{l E:List Val}:l.map C5=E.map C5↔l=E:=⟨N4 fun _ _=>fo,fun h=>by rw[h]⟩
theorem On(k n:Int)(B L:List D):Dx (vD k n B L)=some (vC k n B L):=(rfl)
theorem S3:Dx (.agg [.int .i64 0,.int .i64 0,.slc 0 [] true,.slc 0 [] true])=some [.int .i64 0,.int .i64 0,.slc 0 [] true,.slc 0 [] true]:=(rfl)
theorem Q2(lent:Bool)(k n:Int)(B L:List D):Dq (some ⟨false,1,vC k n B L,lent⟩) 1 false 0=some (.int .i64 k):=(rfl)
theorem gR(lent:Bool)(k n:Int)(B L:List D):Dq (some ⟨false,1,vC k n B L,lent⟩) 1 false 1=some (.int .i64 n):=(rfl)
theorem gS(lent:Bool)(k n:Int)(B L:List D):Dq (some ⟨false,1,vC k n B L,lent⟩) 1 false 2=some (.slc (nz 1 B) B false):=(rfl)
theorem ZE(lent:Bool)(k n:Int)(B L:List D):Dq (some ⟨false,1,vC k n B L,lent⟩) 1 false 3=some (.slc (nz 4 L) L false):=(rfl)
theorem Mk(lent:Bool)(k n:Int)(B L:List D):Dq (some ⟨false,1,vC k n B L,lent⟩) 4 true 0=some (vD k n B L):=(rfl)
theorem T0(k n:Int)(B L:List D):DY (some ⟨false,1,[.int .i64 0,.int .i64 0,.slc 0 [] true,.slc 0 [] true],false⟩) 4 0 (vD k n B L)=some ⟨false,1,vC k n B L,false⟩:=(rfl)
theorem rS(st:St)(k n:Int)(B L:List D):E1 st 4 true (.eptr (vD k n B L) 0)=some (vD k n B L):=(rfl)
theorem Zx(st:St)(k n:Int)(B L:List D):DO st (vD k n B L)=some (vD k n B L):=by
 simp only[vD,vC,DO,DQ,Dw,Kq];rfl
theorem Yz(k n:Int)(B L:List D):keys (vD k n B L)=[]:=(rfl)
theorem U1(k n:Int)(B L:List D):(vC k n B L).flatMap hk=[]:=(rfl)
theorem Uj(m:Nat)(k n:Int)(B L:List D):∀ x∈vC k n B L,Ef m [] x=x:=by
 intro x E;simp only[vC,Aw,AB,or_false]at E;rcases E with rfl | rfl | rfl | rfl <;> rfl
theorem Ytb(m:Nat)(σ:List Nat)(k n:Int)(B L:List D):(vC k n B L).map (Ef m σ)=vC k n B L:=(rfl)
theorem rM(st:St)(l:List Val)(t:Bool)(i:Nat)(h:i<l.length):F5 st 4 (.slc (nz 4 (l.map C5)) (l.map C5) t) (.int .i64 (i:Int))=some (.eptr (C5 (l.getD i default)) 0):=by
 have:=Lt st 4 C5 l t .i64 (i:Int) (by omega) (by omega);grind
theorem rp:((2:Int)=1)=False:=by simp
theorem rm:((3:Int)=1)=False:=by simp
theorem rl:((3:Int)=2)=False:=by simp
noncomputable def V4(N:Nat):List D→Option D:=Dd (α:=Val) (fun v=>[C5 v]) (fun v=>DU v<N∧(Dm v).length≤4294967000) (fun v=>.tup [.int .i64 (DU v:Int),.bool true])
theorem pq(N:Nat)(v:Val)(h:DU v<N∧(Dm v).length≤4294967000):V4 N [C5 v]=some (.tup [.int .i64 (DU v:Int),.bool true]):=
 DW (fun a b h=>by simp only[Aa,and_true,R1]at h; rw[h]) v h
theorem mf:∀ b:List UInt8,b.length≤(b.flatMap DT).length
 |[]=>by simp
 |c::b=>by
  have:=mf b;have E:1≤(DT c).length:=by unfold DT; split <;> simp
  grind
theorem Ygn(n:Int):1≤(H4 n).length:=by unfold H4; split <;> simp
theorem mg:∀ v:Val,1≤(Dm v).length
 |.int n=>by rw[dW]; exact Ygn n
 |.bytes b=>by rw[WN]; simp
 |.list l=>by rw[Nl]; simp
theorem fC:∀ l:List Val,l.length≤(l.flatMap Dm).length
 |[]=>by simp
 |v::l=>by
  have:=fC l;have:=mg v;grind
theorem mh:∀ {l:List Val} {v:Val},v∈l→(Dm v).length≤(l.flatMap Dm).length
 |a::l,v,h=>by
  simp only[At,Ab];rcases Aw.1 h with rfl | h
  ·omega
  ·have:=mh h; omega
mutual
theorem Yho:∀ v:Val,DU v≤(Dm v).length
 |.int n=>by simp[DU]
 |.bytes b=>by simp[DU]
 |.list l=>by
  have:=fy l;simp only[DU,Dm,Ak,Ab,Ap];omega
theorem fy:∀ l:List Val,Hx l≤(PE l).length
 |[]=>by simp[Hx]
 |v::l=>by
  have:=Yho v;have:=fy l;simp only[Hx,PE,Ab];omega
end
def I6:List Val→Nat
 |[]=>0
 |v::l=>max (I6 l) (DU v)
theorem l9:∀ l:List Val,I6 l.reverse=Hx l:=by
 have h:∀ (l m:List Val),I6 (l++m)=max (I6 l) (I6 m):=by
  intro l m
  induction l with
  |nil=>simp[I6]
  |cons a l E=>simp only[Ae,I6,E]; omega
 intro l
 induction l with
 |nil=>simp[I6,Hx]
 |cons a l E=>rw[List.reverse_cons,h,E]; simp only[I6,Hx]; omega
theorem yZ(l:List Val)(v:Val):Hx (l++[v])=max (Hx l) (DU v):=by
 rw[← l9,← l9 l,List.reverse_append];rfl
theorem Pk[Inhabited α](l:List α)(h:i<l.length):l.take (i+1)=l.take i++[l.getD i default]:=by
 simp_all
set_option maxHeartbeats 4000000 in
set_option maxRecDepth 20000 in
theorem tD:∀ N:Nat,Contract Tryz.prog GG 189 (V4 N)
 |0=>by
  intro w g ds vs d hd;obtain⟨a,_,hp,_⟩:=fl hd;omega
 |N+1=>by
  refine D9 (T:=tb [(189,V4 N)] []) yBs (DB (all_cons (tD N) all_nil) all_nil) ?_;rintro v ⟨hN,hl⟩;unfold jh
  cases v with
  |int n=>
   rw[Nj,Yhp];simp (disch:=first|omega|decide) only[push_cast,↓reduceIte,Cz,↓CC,On,Q2,gS,ZE]
  |bytes b=>
   rw[No,yY];simp (disch:=first|omega|decide) only[push_cast,↓reduceIte,Cz,↓CC,On,Q2,gR,ZE,rp]
  |list l=>
   rw[Pl,fK];rw[fK]at hN;rw[Nl]at hl;have ah:=fC l;have U:=fy l;rw[dX]at U;simp only[Ak,Ab,Ap]at hl;simp (disch:=first|omega|decide) only[push_cast,↓reduceIte,Cz,On,Q2,gR,gS,ZE,rm,rl]
   refine GF (fun i:Nat=>[(2,.int .i64 (Hx (l.take i):Int)),(45,.slc (nz 4 (l.map C5)) (l.map C5) false),(46,.int .i64 (l.length:Int)),(47,.int .i64 (i:Int))])
    (fun _=>[⟨false,1,vC 3 0 [] (l.map C5),false⟩]) (fun i=>i≤l.length) (fun i=>l.length - i) 0 (by simp only[push_cast,↓reduceIte,Cz,↓CC,U1,Ytb] <;> rfl) (by omega) ?_
   intro i hi;unfold jD;simp (disch:=first|omega|decide) only[push_cast,↓reduceIte,Cz];refine E8 (fun h2=>?_) (fun h2=>?_)
   ·have E:i<l.length:=by omega
    have O:=rM [⟨false,1,vC 3 0 [] (l.map C5),false⟩] l false i E;have I:l.getD i default∈l:=by rw[Ao,An E]; exact By E
    have V:=dS I;have Y:=mh I;have hc:=pq N (l.getD i default) ⟨by omega,by omega⟩;have J:=Pk l E;obtain⟨x,aa⟩:∃ x,l.getD i default=x:=⟨_,rfl⟩;rw[aa]at O hc J V Y;have M:=yZ (l.take i) x;rw[← J]at M;obtain⟨k,n,B,L,hC,hD⟩:=Nk x;rw[hD]at O hc;simp (disch:=first|omega|decide) only[push_cast,↓reduceIte,Cz,CE,CA,O,rS,S3,T0,Mk,Zx,Yz,hc,DP];refine Fi (i+1) (by omega) (by omega) ?_;rw[show((Hx (l.take (i+1)):Nat):Int)=max (Hx (l.take i):Int) (DU x:Int) by rw[M]; omega];rfl
   ·obtain rfl:i=l.length:=by omega
    have e2:l.take l.length=l:=Bf;rw[e2];simp (disch:=first|omega|decide) only[push_cast,↓reduceIte,Cz,DP]
theorem E7(st:St)(o:Obj):(st++[o])[st.length]?=some o:=List.getElem?_concat_length
theorem lI(st:St)(o o':Obj):(st++[o]).set st.length o'=st++[o']:=by simp
theorem dJ(n:Nat)(d:D):Ef n [] d=G3 n d:=by
 have J:∀ (f:Nat→D) (key:Nat),IH f (EA n [] key)=if key<n then f key else .junk:=by
  intro f key; unfold EA; split <;> rfl
 have E:∀ d,F9 n [] d=G2 n d:=by
  intro d;cases d <;> simp only[F9,G2,J]
 have I:∀ d,En n [] d=Gb n d:=by
  intro d
  cases d with
  |clo f l=>simp only[En,Gb,D.clo.injEq,true_and]; exact BS fun x _=>E x
  |_=>simp only[En,Gb]; exact E _
 cases d with
 |agg l=>simp only[Ef,G3,D.agg.injEq]; exact BS fun x _=>I x
 |tup l=>rfl
 |_=>simp only[Ef,G3]; exact I _
theorem Yu5(h:Ef n [] x=x):∀ k∈hk x,k<n:=by
 have E:∀ (f:Nat→D) (key:Nat),(∀ k,f k≠.junk)→IH f (EA n [] key)=f key→key<n:=by
  intro f key hf h;unfold EA at h
  split at h
  ·assumption
  ·exact absurd h.symm (hf key)
 have J:∀ x,F9 n [] x=x→∀ k∈FV x,k<n:=by
  intro x h k hk
  cases x with
  |row key tot off len=>simp only[FV,AM]at hk; subst hk; exact E (fun k=>.row k tot off len) _ (fun k e=>by cases e) h
  |bsl key off j sz ag=>simp only[FV,AM]at hk; subst hk; exact E (fun k=>.bsl k off j sz ag) _ (fun k e=>by cases e) h
  |ptr key off=>simp only[FV,AM]at hk; subst hk; exact E (fun k=>.ptr k off) _ (fun k e=>by cases e) h
  |rptr key tot i off=>simp only[FV,AM]at hk; subst hk; exact E (fun k=>.rptr k tot i off) _ (fun k e=>by cases e) h
  |mapv key=>simp only[FV,AM]at hk; subst hk; exact E .mapv _ (fun k e=>by cases e) h
  |_=>simp[FV]at hk
 have M:∀ x,En n [] x=x→∀ k∈Dp x,k<n:=by
  intro x h k hk
  cases x with
  |clo f l=>
   simp only[Dp,Bj]at hk;obtain⟨y,I,hk⟩:=hk;simp only[En,D.clo.injEq,true_and]at h;exact J y (PB h y I) k hk
  |_=>unfold En at h; unfold Dp at hk; exact J _ h k hk
 intro k hk
 cases x with
 |agg l=>
  simp only[PI.hk,Bj]at hk;obtain⟨y,I,hk⟩:=hk;simp only[Ef,D.agg.injEq]at h;exact M y (PB h y I) k hk
 |tup l=>simp[PI.hk,Dp,FV]at hk
 |_=>unfold Ef at h; unfold PI.hk at hk; exact M _ h k hk
theorem StOK.keys(h:StOK st):∀ o∈st,o.row=false→∀ x∈o.els,∀ k∈hk x,k<st.length:=fun o E I x J=>Yu5 (h o E I x J)
theorem jt{l:St}(h:StOK st)(hn:n=st.length)(E:∀ k∈L7 fr keep,k<n):restrict keep n ⟨fr,st++l⟩=⟨GK (Ja fr n [] keep),st⟩:=by
 subst hn;refine yE8 h h.keys fun s I k hk=>E k ?_;rw[eg,Bj];grind
theorem tc{l:St}(h:StOK st)(hn:n=st.length):cut n (st++l)=st:=by
 subst hn;unfold cut;rw[show(st++l).take st.length=st by simp];refine LV fun o E=>?_;obtain⟨row,sz,els,lent⟩:=o
 cases row with
 |true=>rfl
 |false=>
  show(⟨false,sz,els.map (G3 st.length),lent⟩:Obj)=_
  rw[LV fun x I=>(dJ st.length x).symm.trans (h _ E rfl x I)]
theorem ff(h:StOK st)(k n:Int)(B L:List D)(lent:Bool):StOK (st++[⟨false,1,vC k n B L,lent⟩]):=h.app _ fun o E J x I=>by
 simp only[AM]at E;subst E;exact Uj _ _ _ _ _ x I
theorem yG{b:D}(h:MK st b l)(m:St):MK (st++m) b l:=by
 rcases h with⟨rfl,rfl⟩ | ⟨key,rfl,hl,hk⟩
 ·exact .inl ⟨rfl,rfl⟩
 ·exact .inr ⟨key,rfl,hl,by rw[Au (Ac.1 hk).1]; exact hk⟩
theorem pb{els:List D}{lent:Bool}(hk:st[key]?=some ⟨true,sz,els,lent⟩){j:Nat}{o:PI.Obj}(hj:st[j]?=some o)(I:o.row=false)(m:List UInt8):(DA st key m)[j]?=some o:=by
 have E:key≠j:=by
  grind
 rw[DA,AL E];exact hj
theorem qu{b:D}(h:MK st b l)(hm:m≠[]):∃ key st1,key<st1.length∧IG st b l m=(.row key (l++m).length 0 (l++m).length,DA st1 key (l++m))∧(StOK st→StOK st1)∧
  (∀ n,IG st b l (m++n)=(.row key (l++(m++n)).length 0 (l++(m++n)).length,DA st1 key (l++(m++n))))∧∀ (j:Nat) (o:PI.Obj),st[j]?=some o→o.row=false→∀ n,(DA st1 key n)[j]?=some o:=by
 rcases h with⟨rfl,rfl⟩ | ⟨key,rfl,hl,hk⟩
 ·refine⟨st.length,st++[⟨true,1,[],false⟩],by simp,?_,fun h=>h.app _ fun o J E=>?_,fun n=>?_,fun j o hj E n=>?_⟩
  ·simp[IG,DA]
  ·grind
  ·simp[IG,DA]
  ·exact pb (E7 st ⟨true,1,[],false⟩) (by rw[Au (Ac.1 hj).1]; exact hj) E n
 ·have I:=(Ac.1 hk).1;exact⟨key,st,I,rfl,id,fun n=>rfl,fun j o hj E n=>pb hk hj E n⟩
def Rr(st:St)(b:D)(l:List UInt8)(v:Val):D×St:=IG (st++[⟨false,1,TH v,false⟩]) b l (Dm v)
def r7(N:Nat)(ds:List D)(st:St)(r:D×St):Prop:=∃ (v:Val),StOK st∧DU v<N∧(Dm v).length≤4294967000∧ds=[.slc 0 [] true,C5 v]∧r=Rr st (.slc 0 [] true) [] v
def r8(N:Nat)(ds:List D)(st:St)(r:D×St):Prop:=∃ (key:Nat) (l:List UInt8) (v:Val),StOK st∧DU v<N∧l.length+(Dm v).length≤4294967000∧l≠[]∧st[key]?=some ⟨true,1,l.map Dc,false⟩∧ds=[.row key l.length 0 l.length,C5 v]∧r=IG st (.row key l.length 0 l.length) l (Dm v)
noncomputable def fj(N:Nat):List D→St→Option (D×St):=E2 (r7 N)
noncomputable def R4(N:Nat):List D→St→Option (D×St):=E2 (r8 N)
theorem Yck(N:Nat):Hw (r8 N):=by
 rintro ds st r J ⟨key,l,v,_,_,_,_,hk,rfl,rfl⟩ ⟨I,M,v',_,_,_,_,E,h,rfl⟩;simp only[Aa,D.row.injEq,and_true,R1]at h;obtain⟨⟨rfl,_⟩,rfl⟩:=h;rw[hk]at E;simp only[C3,Obj.mk.injEq,true_and,and_true]at E;rw[Pb E]
theorem Ycl(N:Nat):Hw (r7 N):=by
 rintro ds st r E ⟨v,_,_,_,rfl,rfl⟩ ⟨v',_,_,_,h,rfl⟩;simp only[Aa,and_true,true_and,R1]at h;rw[h]
theorem xC{G:Db}{T:Tbl}{c:PC}{res:List PRes}{K I:D→St→Prop}(h:@wW G T c fr st ⟨@Gs res ⟨K⟩⟩)(hk:∀ d st,K d st→I d st):@wW G T c fr st ⟨@Gs res ⟨I⟩⟩:=by
 refine ZO (Kt _ _ _ _ _ (IC h) fun e E st' h=>?_)
 have fin:@on _ (DK ⟨E,st'⟩ res) ⟨fun l=>K (DC l) st'⟩→@on _ (DK ⟨E,st'⟩ res) ⟨fun l=>I (DC l) st'⟩:=by
  unfold on;grind
 cases e with
 |next=>rw[oS]at h ⊢; exact fin h
 |ret=>rw[mZ]at h ⊢; exact fin h
 |exit id=>unfold Gs at h; exact h.elim
 |panic t d=>unfold Gs at h; exact h.elim
theorem Ywm(c:UInt8):Df .eql (Dc c) (.int .u8 0)=some (.bool (decide (c=0))):=by
 unfold Dc;rw[tu]
 congr 2
 rw[decide_eq_decide];refine⟨fun h=>?_,fun h=>by subst h; rfl⟩;apply UInt8.toNat_inj.1;grind
theorem Yt1:E4 1 [.int .u8 0,.int .u8 0]=some (.slc 1 [.int .u8 0,.int .u8 0] true):=(rfl)
theorem ZA(n:Int):E4 1 [.int .u8 n]=some (.slc 1 [.int .u8 n] true):=(rfl)
theorem gC:Dc 48=.int .u8 48:=(rfl)
theorem gA:Dc 64=.int .u8 64:=(rfl)
theorem rD:Dc 0=.int .u8 0:=(rfl)
theorem Vx:Dc 255=.int .u8 255:=(rfl)
/- the bytes of a string,laid behind what is there -/
theorem Yc5(T:Tbl)(st1:St)(key:Nat)(E:key<st1.length)(O:StOK st1)(l0 B:List UInt8)(hl:l0.length+(B.flatMap DT).length≤4294967100)(fr:Frame)(Q:Ex→Frame→St→Prop)
  (h0:fr 0=.row key l0.length 0 l0.length) (h1:fr 23=.slc (nz 1 (B.map Dc)) (B.map Dc) false) (h6:fr 24=.int .i64 (B.length:Int)) (U:fr 25=.int .i64 0)
  (hQ:∀ J,J 0=.row key (l0++B.flatMap DT).length 0 (l0++B.flatMap DT).length→Q (.exit 1) J (DA st1 key (l0++B.flatMap DT))) :
  @wW GG T (.loop [0,23,24,25] bL) fr (DA st1 key l0) ⟨Q⟩:=by
 have hlen:=bj st1 key;have N:∀ (fr:Frame) (m:List UInt8),restrict [0,23,24,25] (DA st1 key l0).length ⟨fr,DA st1 key m⟩=⟨GK (Ja fr st1.length [] [0,23,24,25]),DA st1 key m⟩:=fun fr m=>by rw[Xv (Tp O key m) (by rw[hlen,hlen]),hlen]
 have hB:=mf B
 refine GF (fun i:Nat=>[(0,.row key (l0++(B.take i).flatMap DT).length 0 (l0++(B.take i).flatMap DT).length),(23,.slc (nz 1 (B.map Dc)) (B.map Dc) false),(24,.int .i64 (B.length:Int)),(25,.int .i64 (i:Int))])
  (fun i=>DA st1 key (l0++(B.take i).flatMap DT)) (fun i=>i≤B.length) (fun i=>B.length - i) 0 ?_ (by omega) ?_
 ·rw[N];simp (disch:=omega) only[push_cast,↓CC,h0,h1,h6,U,OZ] <;> rfl
 intro i hi;unfold bL;simp (disch:=first|omega|decide) only[push_cast,↓reduceIte,Cz];refine E8 (fun h2=>?_) (fun h2=>?_)
 ·have V:i<B.length:=by omega
  have Y:F5 (DA st1 key (l0++(B.take i).flatMap DT)) 1 (.slc (nz 1 (B.map Dc)) (B.map Dc) false) (.int .i64 (i:Int))=some (.eptr (Dc (B.getD i default)) 0):=by
   have:=Lt (DA st1 key (l0++(B.take i).flatMap DT)) 1 Dc B false .i64 (i:Int) (by omega) (by omega);grind
  have a2:=Pk B V
  have a1:((B.take i).flatMap DT).length+(DT (B.getD i default)).length≤(B.flatMap DT).length:=by
   have e:B=B.take (i+1)++B.drop (i+1):=(BA _ _).symm;grind
  generalize a3:B.getD i default=c at*;have ac:1≤(DT c).length:=by unfold DT; split <;> simp
  have I:=fun x=>Wt (st:=st1) E (l0++(B.take i).flatMap DT) x (by rw[Ab]; omega) true
  have M:l0++(B.take (i+1)).flatMap DT=l0++(B.take i).flatMap DT++DT c:=by
   grind
  by_cases hc:c=0
  ·subst hc;have aa:Df .eql (Dc 0) (.int .u8 0)=some (.bool true):=(rfl)
   have h3:=Wt (st:=st1) E (l0++(B.take i).flatMap DT++[0]) 255 (by
    grind) true
   rw[Vx]at h3;simp (disch:=first|omega|decide) only[push_cast,↓reduceIte,Cz,Y,aV,SM,Tb,Tf,ZA,I,aa,h3,DP,↓N,E];refine Fi (i+1) (by omega) (by omega) ?_;rw[M,show l0++(B.take i).flatMap DT++DT 0=l0++(B.take i).flatMap DT++[0]++[255] by simp[DT]]
   first | rfl | (simp only[push_cast,↓EH,↓reduceIte,Cz,CG,CE,CA,Nat.reduceSub,CD,CT,CJ,Int.reduceLE,CL,CB,CQ,CP,CX,CR,↓CC] <;> rfl)
  ·simp (disch:=first|omega|decide) only[push_cast,↓reduceIte,Cz,Y,aV,SM,Tb,Tf,I,Ywm,hc,decide_false,DP,↓N,E];refine Fi (i+1) (by omega) (by omega) ?_;rw[M,show l0++(B.take i).flatMap DT++DT c=l0++(B.take i).flatMap DT++[c] by simp[DT,hc]]
   first | rfl | (simp only[push_cast,↓EH,↓reduceIte,Cz,CG,CE,CA,Nat.reduceSub,CD,CT,CJ,Int.reduceLE,CL,CB,CQ,CP,CX,CR,↓CC] <;> rfl)
 ·obtain rfl:i=B.length:=by omega
  rw[Bf];simp (disch:=first|omega|decide) only[push_cast];exact hQ _ rfl
theorem yK{v:Val}{N:Nat}(E:StOK st)(I:DU v<N)(J:l.length+(Dm v).length≤4294967000)(M:l≠[])(O:st[key]?=some ⟨true,1,l.map Dc,false⟩) :
  R4 N [.row key l.length 0 l.length,C5 v] st=some (.row key (l++Dm v).length 0 (l++Dm v).length,st.set key ⟨true,1,(l++Dm v).map Dc,false⟩):=KP (Yck N) ⟨key,l,v,E,I,J,M,O,rfl,rfl⟩
theorem v9[Inhabited α](f:α→List UInt8)(L:List α)(h:i<L.length):((L.take i).flatMap f).length+(f (L.getD i default)).length≤(L.flatMap f).length:=by
 have e:L=L.take (i+1)++L.drop (i+1):=(BA _ _).symm;have:=congrArg (fun l=>(l.flatMap f).length) e;simp only[List.flatMap_append,Ab,Pk L h,At,BG,Ad]at this;omega
/- the values of a list,laid behind what is there -/
theorem Yc4(N:Nat)(st1:St)(key:Nat)(E:key<st1.length)(J:StOK st1)(l0:List UInt8)(aa:l0≠[])(L:List Val)(hd:Hx L<N)(hl:l0.length+(L.flatMap Dm).length≤4294967000)(fr:Frame)(Q:Ex→Frame→St→Prop)
  (h0:fr 0=.row key l0.length 0 l0.length) (h1:fr 46=.slc (nz 4 (L.map C5)) (L.map C5) false) (h6:fr 47=.int .i64 (L.length:Int)) (ab:fr 48=.int .i64 0)
  (hQ:∀ O,O 0=.row key (l0++L.flatMap Dm).length 0 (l0++L.flatMap Dm).length→Q (.exit 3) O (DA st1 key (l0++L.flatMap Dm))) :
  @wW GG (tb [] [(202,RI),(190,R4 N)]) (.loop [0,46,47,48] bM) fr (DA st1 key l0) ⟨Q⟩:=by
 have hlen:=bj st1 key;have hB:=fC L;have hR:∀ (fr:Frame) (m:List UInt8),restrict [0,46,47,48] (DA st1 key l0).length ⟨fr,DA st1 key m⟩=⟨GK (Ja fr st1.length [] [0,46,47,48]),DA st1 key m⟩:=fun fr m=>by rw[Xv (Tp J key m) (by rw[hlen,hlen]),hlen]
 refine GF (fun i:Nat=>[(0,.row key (l0++(L.take i).flatMap Dm).length 0 (l0++(L.take i).flatMap Dm).length),(46,.slc (nz 4 (L.map C5)) (L.map C5) false),(47,.int .i64 (L.length:Int)),(48,.int .i64 (i:Int))])
  (fun i=>DA st1 key (l0++(L.take i).flatMap Dm)) (fun i=>i≤L.length) (fun i=>L.length - i) 0 ?_ (by omega) ?_
 ·rw[hR];simp (disch:=omega) only[push_cast,↓CC,h0,h1,h6,ab,OZ] <;> rfl
 intro i hi;unfold bM;simp (disch:=first|omega|decide) only[push_cast,↓reduceIte,Cz];refine E8 (fun h2=>?_) (fun h2=>?_)
 ·have I:i<L.length:=by omega
  have U:=rM (DA st1 key (l0++(L.take i).flatMap Dm)) L false i I;have V:L.getD i default∈L:=by rw[Ao,An I]; exact By I
  have ac:=dS V;have ad:=v9 Dm L I;have ae:=Pk L I;obtain⟨x,af⟩:∃ x,L.getD i default=x:=⟨_,rfl⟩;rw[af]at U ae ac ad
  have a7:l0++(L.take (i+1)).flatMap Dm=l0++(L.take i).flatMap Dm++Dm x:=by
   grind
  obtain⟨k,n,B,M,hC,hD⟩:=Nk x;have Y:=ff (Tp J key (l0++(L.take i).flatMap Dm)) k n B M false
  have hc:=yK (N:=N) (v:=x) (l:=l0++(L.take i).flatMap Dm) (key:=key) Y (by omega) (by rw[Ab]; omega) (by simp[aa]) (by
   rw[Au (by rw[hlen]; exact E)]; exact dM E _)
  rw[BO _ _ (by rw[hlen]; exact E),show(DA st1 key (l0++(L.take i).flatMap Dm)).set key ⟨true,1,(l0++(L.take i).flatMap Dm++Dm x).map Dc,false⟩=DA st1 key (l0++(L.take i).flatMap Dm++Dm x)from Yb4 st1 key _ _,hD]at hc;rw[hD]at U
  have a0:∀ (fr:Frame) (m:List UInt8) (o:PI.Obj),(L7 fr [0,46,47,48]).all (fun k=>decide (k<st1.length))=true→restrict [0,46,47,48] (DA st1 key l0).length ⟨fr,DA st1 key m++[o]⟩=⟨GK (Ja fr st1.length [] [0,46,47,48]),DA st1 key m⟩:=fun fr m o h=>by
   rw[jt (Tp J key m) (by rw[hlen,hlen]) (fun k hk=>by rw[hlen]; exact of_decide_eq_true (Aj.1 h k hk)),hlen]
  simp (disch:=first | omega | decide | (simp only[push_cast,↓EH,↓reduceIte,Cz,CG,CE,CA,Nat.reduceSub,CD,CT,CJ,Int.reduceLE,CL,CB,CQ,CP,CX,CR,↓CC,E]; done)) only[push_cast,↓reduceIte,Cz,↓a0,U,rS,S3,E7,lI,T0,Mk,hc,DP,E];refine Fi (i+1) (by omega) (by omega) ?_;grind
 ·obtain rfl:i=L.length:=by omega
  rw[Bf];simp (disch:=first|omega|decide) only[push_cast];exact hQ _ rfl
/- the whole -/
theorem sZ(N:Nat)(st:St)(b:D)(l:List UInt8)(v:Val)(ah:StOK st)(hb:MK st b l)(hN:DU v<N+1)(hl:l.length+(Dm v).length≤4294967000) :
  @wW GG (tb [] [(202,RI),(190,R4 N)]) Yb.code (C4 [b,C5 v]) st ⟨@Gs Yb.res ⟨fun d st'=>(d,st')=Rr st b l v⟩⟩:=by
 unfold Yb Rr;obtain⟨k,n,B,M,hC,hD⟩:=Nk v;have V:=ff ah k n B M false;have U:=yG hb [⟨false,1,vC k n B M,false⟩];have ae:=E7 st ⟨false,1,vC k n B M,false⟩
 cases v with
 |int m=>
  obtain⟨rfl,rfl,rfl,rfl⟩:=Lq ((Nj m).symm.trans hD);have hc:=Ybp m V U (by omega);rw[hD,hC,dW];generalize IG (st++[⟨false,1,vC 1 m [] [],false⟩]) b l (H4 m)=r at*;obtain⟨r1,r2⟩:=r;simp (disch:=first|omega|decide) only[push_cast,↓reduceIte,Cz,On,Q2,gR,E7,hc]
 |bytes m=>
  obtain⟨rfl,rfl,rfl,rfl⟩:=Lq ((No m).symm.trans hD);rw[WN]at hl;simp only[Ak,Ab,Ap]at hl;rw[hD,hC,WN];obtain⟨key,st1,J,Y,aa,O,ab⟩:=qu U (m:=[48]) (by simp);have E:=RS U (m:=[48]) (by simp) (by simp; omega) true;rw[Y]at E;simp only[Ax,Bk,gC]at E;have hm:=O (m.flatMap DT++[0,0]);rw[show(48::(m.flatMap DT++[0,0]):List UInt8)=[48]++(m.flatMap DT++[0,0])from rfl,hm];have ad:=ab _ _ ae rfl (l++[48]);simp (disch:=first|omega|decide) only[push_cast,↓reduceIte,Cz,On,Q2,gS,E7,rp,ZA,E,ad];refine Yc5 _ st1 key J (aa V) (l++[48]) m (by simp only[Ab,Ak,Ap]; omega) _ _ (by simp only[push_cast,↓reduceIte,Cz]) (by simp only[push_cast,↓reduceIte,Cz]) (by simp only[push_cast,↓reduceIte,Cz]) (by simp only[push_cast,↓reduceIte]) fun a0 hf=>?_;have I:=lR (st:=st1) J (l++[48]++m.flatMap DT) [0,0] (by simp) (by simp only[Ab,Ak,Ap]; omega) true;simp only[Ax,Bk,rD]at I;simp (disch:=first|omega|decide) only[push_cast,↓reduceIte,Cz,hf,Yt1,I];grind
 |list m=>
  obtain⟨rfl,rfl,rfl,rfl⟩:=Lq ((Pl m).symm.trans hD);rw[Nl]at hl;rw[fK]at hN;simp only[Ak,Ab,Ap]at hl;rw[hD,hC,Nl];obtain⟨key,st1,J,Y,aa,O,ab⟩:=qu U (m:=[64]) (by simp);have E:=RS U (m:=[64]) (by simp) (by simp; omega) true;rw[Y]at E;simp only[Ax,Bk,gA]at E;have hm:=O (m.flatMap Dm++[0]);rw[show(64::(m.flatMap Dm++[0]):List UInt8)=[64]++(m.flatMap Dm++[0])from rfl,hm];have ad:=ab _ _ ae rfl (l++[64]);simp (disch:=first|omega|decide) only[push_cast,↓reduceIte,Cz,On,Q2,ZE,E7,rm,rl,ZA,E,ad];refine Yc4 N st1 key J (aa V) (l++[64]) (by simp) m (by omega) (by simp only[Ab,Ak,Ap]; omega) _ _ (by simp only[push_cast,↓reduceIte,Cz]) (by simp only[push_cast,↓reduceIte,Cz]) (by simp only[push_cast,↓reduceIte,Cz]) (by simp only[push_cast,↓reduceIte]) fun a0 hf=>?_;have I:=Wt (st:=st1) J (l++[64]++m.flatMap Dm) 0 (by simp only[Ab,Ak,Ap]; omega) true;simp only[rD]at I;simp (disch:=first|omega|decide) only[push_cast,↓reduceIte,Cz,hf,ZA,I];grind
theorem tH:∀ N:Nat,IContract Tryz.prog GG 190 (fj N)∧IContract Tryz.prog GG 190 (R4 N)
 |0=>by
  have J:TblOK Tryz.prog GG (tb [] []):=DB all_nil all_nil;refine⟨IM Yc J fun ds st r E=>?_,IM Yc J fun ds st r E=>?_⟩
  ·obtain⟨v,_,h,_⟩:=Iv E;omega
  ·obtain⟨key,l,v,_,h,_⟩:=Iv E;omega
 |N+1=>by
  have J:TblOK Tryz.prog GG (tb [] [(202,RI),(190,R4 N)]):=DB all_nil (all_cons Yp0 (all_cons (tH N).2 all_nil));refine⟨IM Yc J fun ds st r E=>?_,Xt Yc J fun ds st r E=>?_⟩
  ·obtain⟨v,I,O,hl,rfl,rfl⟩:=Iv E;exact sZ N st _ [] v I (.inl ⟨rfl,rfl⟩) O (by simpa using hl)
  ·obtain⟨key,l,v,I,O,hl,U,hk,rfl,rfl⟩:=Iv E;have M:=(Ac.1 hk).1;refine xC (sZ N st _ l v I (.inr ⟨key,rfl,U,hk⟩) O hl) fun d st' h=>?_;simp only[Rr,IG,Dk]at h ⊢;obtain⟨rfl,rfl⟩:=h;refine⟨?_,?_⟩
   ·show Hn st.length (.row key _ 0 _)=_
    simp only[Hn,G3,Gb,G2,M,if_true]
   ·rw[BO _ _ M];exact tc (I.set _ _ fun e=>by cases e) (by rw[B6])
theorem yJ{v:Val}{N:Nat}(E:StOK st)(I:DU v<N)(J:(Dm v).length≤4294967000):fj N [.slc 0 [] true,C5 v] st=some (Rr st (.slc 0 [] true) [] v):=KP (Ycl N) ⟨v,E,I,J,rfl,rfl⟩
def Vz(b:List UInt8):D:=.slc (nz 1 (b.map Dc)) (b.map Dc) false
def Kh(v:Val):List UInt8:=if(Dm v).length≤65536 then Dm v else []
def P2(v:Val):Int:=if(Dm v).length≤65536 then 0 else 2
noncomputable def Z9:List D→Option D:=Dd (α:=Val) (fun v=>[C5 v]) (fun v=>DU v≤16∧(Dm v).length≤4294967000) (fun v=>.tup [Vz (Kh v),.int .i64 (P2 v)])
theorem yNn(v:Val)(h:DU v≤16∧(Dm v).length≤4294967000):Z9 [C5 v]=some (.tup [Vz (Kh v),.int .i64 (P2 v)]):=
 DW (fun a b h=>by simp only[Aa,and_true,R1]at h; rw[h]) v h
theorem Yii:Contract Tryz.prog GG 167 Z9:=by
 refine D9 (T:=tb [(189,V4 17)] [(190,fj 17)]) uc (DB (all_cons (tD 17) all_nil) (all_cons (tH 17).1 all_nil)) ?_;rintro v ⟨hd,hl⟩;unfold jo Kh P2;obtain⟨k,n,B,M,hC,O⟩:=Nk v;have U:=pq 17 v ⟨by omega,hl⟩;have I:=yJ (N:=17) (st:=[⟨false,1,vC k n B M,false⟩]) (v:=v) (by have:=ff StOK.nil k n B M false; simpa using this) (by omega) hl
 have V:Dm v≠[]:=by
  intro e; have:=mg v; rw[e]at this; simp at this
 have hz:nz 1 ((Dm v).map Dc)=1:=by
  cases he:Dm v with
  |nil=>exact absurd he V
  |cons a r=>rfl
 simp only[Rr,IG,Ae,Ai,Ak,Ap]at I;rw[O]at U I;rw[O];simp (disch:=first|omega|decide) only[push_cast,↓reduceIte,Cz,On,Mk,Zx,Yz,U];have Y:¬ ((16:Int)<(DU v:Int)):=by omega
 simp (disch:=first|omega|decide) only[push_cast,↓reduceIte,Cz,CA,Y,decide_false,Mk,I]
 by_cases E:(Dm v).length≤65536
 ·rw[if_pos E,if_pos E];have J:¬ ((65536:Int)<((Dm v).length:Int)):=by omega
  simp (disch:=first|omega|decide) only[push_cast,↓reduceIte,Cz,J,decide_false,Vz]
 ·rw[if_neg E,if_neg E];have J:((65536:Int)<((Dm v).length:Int)):=by omega
  simp (disch:=first|omega|decide) only[push_cast,↓reduceIte,Cz,J,decide_true,Vz]
def EI:Dig:=Qp [112,97,100] []
def Ij(a b:Dig):Dig:=Qp [110,111,100,101] (a.bs++b.bs)
def atL(l:List Dig)(k:Int)(pad:Dig):Dig:=if k<(l.length:Int)then l.getD k.toNat default else pad
def qY(pad:Dig):List Dig→List Dig
 |[]=>[]
 |[a]=>[Ij a pad]
 |a::b::r=>Ij a b::qY pad r
def I2:Nat→Dig
 |0=>EI
 |n+1=>Ij (I2 n) (I2 n)
def Ug(l:List Dig):Nat→List Dig
 |0=>l
 |n+1=>qY (I2 n) (Ug l n)
def rQ(l:List Dig)(level:Nat)(k:Int):Dig:=atL (Ug l level) k (I2 level)
def Gg(n:Nat):Nat:=if n=0 then 0 else n.log2+1
def Ek(n:Int):Int:=if n<0∨65536<n then -1 else(Gg ((max n 1).toNat - 1):Nat)
theorem Sa(h:n<2 ^ k):Gg n≤k:=by
 unfold Gg
 split
 ·omega
 ·rename_i E;have:n.log2<k:=(Nat.log2_lt E).2 h;omega
theorem yNx:n<2 ^ Gg n:=by
 unfold Gg
 split
 ·omega
 ·rename_i E;exact(Nat.log2_lt E).1 (Cu _)
theorem nD(h:2 ^ k≤n):k+1≤Gg n:=by
 have E:n≠0:=by
  grind
 have:=(Nat.le_log2 E).2 h;unfold Gg;grind
theorem Pr(n k:Nat)(h:2 ^ k≤n):Gg n=k+Gg (n / 2 ^ k):=by
 have I:=yNx (n:=n / 2 ^ k)
 have M:Gg n≤k+Gg (n / 2 ^ k):=by
  apply Sa;rw[Nat.pow_add];exact(Nat.div_lt_iff_lt_mul (Nat.two_pow_pos k)).1 I |> fun x=>by rwa [Cx]
 have N:1≤n / 2 ^ k:=(Nat.one_le_div_iff (Nat.two_pow_pos k)).2 h
 have O:k+Gg (n / 2 ^ k)≤Gg n:=by
  obtain⟨j,hj⟩:∃ j,Gg (n / 2 ^ k)=j+1:=by
   have:=nD (n:=n / 2 ^ k) (k:=0) (by omega);exact⟨Gg (n / 2 ^ k) - 1,by omega⟩
  have J:2 ^ j≤n / 2 ^ k:=by
   rcases A6 (n / 2 ^ k) (2 ^ j)with E | E
   ·have:=Sa E;omega
   ·exact E
  have E:2 ^ (k+j)≤n:=by
   rw[Nat.pow_add]
   calc 2 ^ k*2 ^ j≤2 ^ k*(n / 2 ^ k):=Nat.mul_le_mul_left _ J
    _≤n:=Nat.mul_div_le n (2 ^ k)
  have:=nD E;omega
 omega
def MQ(i:Nat)(x:Dig):List Dig→Dig
 |[]=>x
 |q::r=>MQ (i / 2) (if i % 2=0 then Ij x q else Ij q x) r
def Hc(c:Int×Dig)(i:Int)(leaf:Dig)(p:List Dig):Bool:=
 decide (0≤Ek c.1∧0≤i∧i<2 ^ (Ek c.1).toNat∧(p.length:Int)=Ek c.1∧MQ i.toNat leaf p=c.2)
theorem fA{n:Int}(E:0≤n)(I:n≤65536):Ek n=(Gg ((max n 1).toNat - 1):Nat)∧0≤Ek n∧Ek n≤16:=by
 have e:Ek n=(Gg ((max n 1).toNat - 1):Nat):=by unfold Ek; rw[if_neg (by omega)]
 have:Gg ((max n 1).toNat - 1)≤16:=Sa (by omega);omega
theorem SB{n:Int}(h:n<0∨65536<n):Ek n=-1:=by unfold Ek; rw[if_pos h]
theorem eJ{a b:Nat}(h:a≤b):(2:Int) ^ a≤2 ^ b:=by
 have E:(2:Nat) ^ a≤2 ^ b:=Nat.pow_le_pow_right (by decide) h;grind
theorem Ye0(a:Nat):(1:Int)≤2 ^ a:=eJ (a:=0) (by omega)
theorem Yng:([0,1,2,2,3,3,3,3,4,4,4,4,4,4,4,4,5,5,5,5,5,5,5,5,5,5,5,5,5,5,5,5,6,6,6,6,6,6,6,6,6,6,6,6,6,6,6,6,6,6,6,6,6,6,6,6,6,6,6,6,6,6,6,6,7,7,7,7,7,7,7,7,7,7,7,7,7,7,7,7,7,7,7,7,7,7,7,7,7,7,7,7,7,7,7,7,7,7,7,7,7,7,7,7,7,7,7,7,7,7,7,7,7,7,7,7,7,7,7,7,7,7,7,7,7,7,7,7,8,8,8,8,8,8,8,8,8,8,8,8,8,8,8,8,8,8,8,8,8,8,8,8,8,8,8,8,8,8,8,8,8,8,8,8,8,8,8,8,8,8,8,8,8,8,8,8,8,8,8,8,8,8,8,8,8,8,8,8,8,8,8,8,8,8,8,8,8,8,8,8,8,8,8,8,8,8,8,8,8,8,8,8,8,8,8,8,8,8,8,8,8,8,8,8,8,8,8,8,8,8,8,8,8,8,8,8,8,8,8,8,8,8,8,8,8,8,8,8,8,8,8,8,8,8,8,8]:List UInt8)=(CI 256).map (fun j=>CM (Gg j)):=by kernel_rfl
theorem Oa(j:Nat)(h:j<256):((((CI 256).map (fun j=>CM (Gg j))).getD j default).toNat:Int)=Gg j:=by
 have E:Gg j≤8:=Sa (k:=8) (by omega);simp[Ao,h];omega
theorem yMx:((CI 256).map (fun j=>CM (Gg j))).length=256:=by simp
theorem N8(b:UInt8):Jz (.str ((CI 256).map (fun j=>CM (Gg j)))) (Dc b)=some (Dc (((CI 256).map (fun j=>CM (Gg j))).getD b.toNat default)):=Ygw _ b (by rw[yMx]; exact b.toNat_lt)
theorem Ob(m:Nat)(h:m<256):(CM m).toNat=m:=by simp; omega
noncomputable def ai:List D→Option D:=Dd (α:=Int) (fun a=>[.int .u64 a]) (fun a=>0≤a∧a<18446744073709551616) (fun a=>.int .i64 (Gg a.toNat:Int))
theorem yNl(x:Int)(h:0≤x∧x<18446744073709551616):ai [.int .u64 x]=some (.int .i64 (Gg x.toNat:Int)):=
 DW (fun a b h=>by simp only[Aa,D.int.injEq,true_and,and_true]at h; simp[h]) (x) h
theorem Yc2(x:Int)(h:0≤x∧x<18446744073709551616):@wW GG (tb [] []) X7.code (C4 [.int .u64 x]) [] ⟨Dg X7.res (.int .i64 (Gg x.toNat:Int))⟩:=by
 obtain⟨V,h1⟩:=h;obtain⟨n,rfl⟩:=Bc V;rw[Bh];have d1:=Pr n 32;have d2:=Pr n 16;have d3:=Pr n 8;have d4:=Pr (n / 2 ^ 32) 16;have d5:=Pr (n / 2 ^ 32) 8;have d6:=Pr (n / 2 ^ 32 / 2 ^ 16) 8;have d7:=Pr (n / 2 ^ 16) 8;have I:∀ y,y<256→Gg y≤8:=fun y hy=>Sa (k:=8) (by omega);unfold X7;rw[Yng];simp only[push_cast,↓reduceIte,Cz];refine E8 (fun Y=>?_) (fun Y=>?_)
 ·simp (disch:=omega) only[push_cast,↓reduceIte,Cz,CL,CQ,MI]
  ·refine E8 (fun N=>?_) (fun N=>?_)
   ·simp (disch:=omega) only[push_cast,↓reduceIte,Cz,CL,CQ,CP,MI,DP]
    ·refine E8 (fun J=>?_) (fun J=>?_)
     ·simp (disch:=omega) only[push_cast,↓reduceIte,Cz,CL,CQ,CP,MI,DP]
      ·have E:((n:Int) / 4294967296 / 65536 / 256).toNat=n / 2 ^ 32 / 2 ^ 16 / 2 ^ 8:=by omega
       have hb:=I (n / 2 ^ 32 / 2 ^ 16 / 2 ^ 8) (by omega);have M:=d1 (by omega);have O:=d4 (by omega);have aa:=d6 (by omega);simp (disch:=omega) only[push_cast,↓reduceIte,Cz,Mz,N8,N0,Oa,Ob,E,DP];refine congrArg (fun z=>some (D.int .i64 z)) ?_;omega
     ·simp (disch:=omega) only[push_cast,↓reduceIte,Cz]
      ·have E:((n:Int) / 4294967296 / 65536).toNat=n / 2 ^ 32 / 2 ^ 16:=by omega
       have hb:=I (n / 2 ^ 32 / 2 ^ 16) (by omega);have M:=d1 (by omega);have O:=d4 (by omega);simp (disch:=omega) only[push_cast,↓reduceIte,Cz,Mz,N8,N0,Oa,Ob,E,DP];refine congrArg (fun z=>some (D.int .i64 z)) ?_;omega
   ·simp (disch:=omega) only[push_cast,↓reduceIte,Cz]
    ·refine E8 (fun J=>?_) (fun J=>?_)
     ·simp (disch:=omega) only[push_cast,↓reduceIte,Cz,CL,CQ,CP,MI,DP]
      ·have E:((n:Int) / 4294967296 / 256).toNat=n / 2 ^ 32 / 2 ^ 8:=by omega
       have hb:=I (n / 2 ^ 32 / 2 ^ 8) (by omega);have M:=d1 (by omega);have ab:=d5 (by omega);simp (disch:=omega) only[push_cast,↓reduceIte,Cz,Mz,N8,N0,Oa,Ob,E,DP];refine congrArg (fun z=>some (D.int .i64 z)) ?_;omega
     ·simp (disch:=omega) only[push_cast,↓reduceIte,Cz]
      ·have E:((n:Int) / 4294967296).toNat=n / 2 ^ 32:=by omega
       have hb:=I (n / 2 ^ 32) (by omega);have M:=d1 (by omega);simp (disch:=omega) only[push_cast,↓reduceIte,Cz,Mz,N8,N0,Oa,Ob,E,DP];refine congrArg (fun z=>some (D.int .i64 z)) ?_;omega
 ·simp (disch:=omega) only[push_cast,↓reduceIte,Cz]
  ·refine E8 (fun N=>?_) (fun N=>?_)
   ·simp (disch:=omega) only[push_cast,↓reduceIte,Cz,CL,CQ,CP,MI,DP]
    ·refine E8 (fun J=>?_) (fun J=>?_)
     ·simp (disch:=omega) only[push_cast,↓reduceIte,Cz,CL,CQ,CP,MI,DP]
      ·have E:((n:Int) / 65536 / 256).toNat=n / 2 ^ 16 / 2 ^ 8:=by omega
       have hb:=I (n / 2 ^ 16 / 2 ^ 8) (by omega);have U:=d2 (by omega);have ac:=d7 (by omega);simp (disch:=omega) only[push_cast,↓reduceIte,Cz,Mz,N8,N0,Oa,Ob,E,DP];refine congrArg (fun z=>some (D.int .i64 z)) ?_;omega
     ·simp (disch:=omega) only[push_cast,↓reduceIte,Cz]
      ·have E:((n:Int) / 65536).toNat=n / 2 ^ 16:=by omega
       have hb:=I (n / 2 ^ 16) (by omega);have U:=d2 (by omega);simp (disch:=omega) only[push_cast,↓reduceIte,Cz,Mz,N8,N0,Oa,Ob,E,DP];refine congrArg (fun z=>some (D.int .i64 z)) ?_;omega
   ·simp (disch:=omega) only[push_cast,↓reduceIte,Cz]
    ·refine E8 (fun J=>?_) (fun J=>?_)
     ·simp (disch:=omega) only[push_cast,↓reduceIte,Cz,CL,CQ,CP,MI,DP]
      ·have E:((n:Int) / 256).toNat=n / 2 ^ 8:=by omega
       have hb:=I (n / 2 ^ 8) (by omega);have ad:=d3 (by omega);simp (disch:=omega) only[push_cast,↓reduceIte,Cz,Mz,N8,N0,Oa,Ob,E,DP];refine congrArg (fun z=>some (D.int .i64 z)) ?_;omega
     ·simp (disch:=omega) only[push_cast,↓reduceIte,Cz]
      ·have E:((n:Int)).toNat=n:=by omega
       have hb:=I (n) (by omega);simp (disch:=omega) only[push_cast,↓reduceIte,Cz,Mz,N8,N0,Oa,Ob,E,DP];refine congrArg (fun z=>some (D.int .i64 z)) ?_;omega
theorem Yig:Contract Tryz.prog GG 129 ai:=
 D9 uM (DB all_nil all_nil) (fun a h=>Yc2 a h)
noncomputable def Qm:List D→Option D:=Dd (α:=Unit) (fun _=>[]) (fun _=>True) (fun _=>C0 EI)
theorem Sc:Qm []=some (C0 EI):=
 DW (fun _ _ _=>rfl) () trivial
theorem Yry:@wW GG (tb [(62,QN)] []) Xm.code (C4 []) [] ⟨Dg Xm.res (C0 EI)⟩:=by
 unfold Xm;have c:QN [.str [112,97,100],.slc 0 [] false]=some (C0 EI):=aN [112,97,100] [] (by decide);simp (disch:=omega) only[push_cast,↓reduceIte,Cz,c]
theorem Yq:Contract Tryz.prog GG 20 Qm:=
 D9 yD3 (DB (all_cons dP all_nil) all_nil) (fun a h=>Yry )
noncomputable def lC:List D→Option D:=Dd (α:=Unit) (fun _=>[]) (fun _=>True) (fun _=>C0 EI)
theorem Ybg:lC []=some (C0 EI):=
 DW (fun _ _ _=>rfl) () trivial
noncomputable def Sx:List D→Option D:=Dd (α:=Dig×Dig) (fun a=>[C0 a.1,C0 a.2]) (fun a=>True) (fun a=>C0 (Ij a.1 a.2))
theorem LF(a:Dig)(b:Dig):Sx [C0 a,C0 b]=some (C0 (Ij a b)):=
 DW (fun⟨a0,a1⟩ ⟨b0,b1⟩ h=>by simp only[Aa,MA,and_true]at h; simp[h]) (a,b) trivial
theorem yw(a:Dig)(b:Dig):@wW GG (tb [(62,QN)] []) XX.code (C4 [C0 a,C0 b]) [] ⟨Dg XX.res (C0 (Ij a b))⟩:=by
 unfold XX;have ha:=a.len;have hb:=b.len;have hl:(a.bs++b.bs).length=64:=by rw[Ab,ha,hb]
 have c:=aN [110,111,100,101] (a.bs++b.bs) (by rw[hl]; decide);simp (disch:=omega) only[push_cast,↓reduceIte,Cz,CA,Yfq,pU,c];rfl
theorem fv:Contract Tryz.prog GG 95 Sx:=
 D9 uy (DB (all_cons dP all_nil) all_nil) (fun a h=>yw a.1 a.2)
noncomputable def pW:List D→Option D:=Dd (α:=Dig×Dig) (fun a=>[C0 a.1,C0 a.2]) (fun a=>True) (fun a=>C0 (Ij a.1 a.2))
theorem yKj(a:Dig)(b:Dig):pW [C0 a,C0 b]=some (C0 (Ij a b)):=
 DW (fun⟨a0,a1⟩ ⟨b0,b1⟩ h=>by simp only[Aa,MA,and_true]at h; simp[h]) (a,b) trivial
noncomputable def dw:List D→Option D:=Dd (α:=Int) (fun a=>[.int .u64 a]) (fun a=>0≤a∧a<18446744073709551616) (fun a=>.int .i64 (Gg a.toNat:Int))
theorem Ybo(x:Int)(h:0≤x∧x<18446744073709551616):dw [.int .u64 x]=some (.int .i64 (Gg x.toNat:Int)):=
 DW (fun a b h=>by simp only[Aa,D.int.injEq,true_and,and_true]at h; simp[h]) (x) h
theorem Yr7(x:Int)(h:0≤x∧x<18446744073709551616):@wW GG (tb [(129,ai)] []) XV.code (C4 [.int .u64 x]) [] ⟨Dg XV.res (.int .i64 (Gg x.toNat:Int))⟩:=by
 unfold XV;simp (disch:=omega) only[push_cast,↓reduceIte,Cz,yNl]
theorem Ywj:Contract Tryz.prog GG 75 dw:=
 D9 uw (DB (all_cons Yig all_nil) all_nil) (fun a h=>Yr7 a h)
noncomputable def QM:List D→Option D:=Dd (α:=Int) (fun a=>[.int .i64 a]) (fun a=>True) (fun a=>.int .i64 (Ek a))
theorem Oi(n:Int):QM [.int .i64 n]=some (.int .i64 (Ek n)):=
 DW (fun a b h=>by simp only[Aa,D.int.injEq,true_and,and_true]at h; simp[h]) (n) trivial
theorem Ycy(n:Int):@wW GG (tb [(75,dw)] []) XJ.code (C4 [.int .i64 n]) [] ⟨Dg XJ.res (.int .i64 (Ek n))⟩:=by
 unfold XJ;simp only[push_cast,↓reduceIte,Cz,CB];refine E8 (fun E=>?_) (fun E=>?_)
 ·simp only[push_cast,↓reduceIte,Cz,CB,E,SB (.inl E)]
 ·simp only[push_cast,↓reduceIte,Cz,CB,E];refine E8 (fun I=>?_) (fun I=>?_)
  ·simp only[push_cast,↓reduceIte,CB,I,SB (.inr I)]
  ·have e:(max n 1 - 1).toNat=(max n 1).toNat - 1:=by omega
   have J:=(fA (n:=n) (by omega) (by omega)).1;simp (disch:=omega) only[push_cast,↓reduceIte,Cz,I,Fh,YW,Ybo,J,e]
theorem VQ:Contract Tryz.prog GG 25 QM:=
 D9 uf (DB (all_cons Ywj all_nil) all_nil) (fun a h=>Ycy a)
structure Ins where
 op:Int
 n:Int
 m:Int
 deriving DecidableEq,Inhabited
structure Sta where
 pc:Int
 fuel:Int
 status:Int
 clause:Int
 stack:List Int
 deriving DecidableEq,Inhabited
structure Opn where
 pc:Int
 fuel:Int
 status:Int
 clause:Int
 top:List Int
 depth:Int
 rest:Dig
 deriving DecidableEq
def Dz(x:Ins):List D:=[.int .i64 x.op,.int .i64 x.n,.int .i64 x.m]
def CZ(x:Ins):D:=.agg (Dz x)
def El(l:List Int):D:=.slc (nz 1 (l.map nI)) (l.map nI) false
def Er(s:Sta):List D:=[.int .i64 s.pc,.int .i64 s.fuel,.int .i64 s.status,.int .i64 s.clause,El s.stack]
def Ec(s:Sta):D:=.agg (Er s)
def EJ(o:Opn):List D:=.int .i64 o.pc::.int .i64 o.fuel::.int .i64 o.status::.int .i64 o.clause::El o.top::.int .i64 o.depth::CY o.rest
def DN(o:Opn):D:=.agg (EJ o)
def Eh(v:Int×List Int):List D:=.int .i64 v.1::v.2.map nI
def Ev(v:Int×List Int):D:=.agg (Eh v)
theorem QH{a b:List Int}:El a=El b↔a=b:=by
 refine⟨fun h=>?_,fun h=>by rw[h]⟩;simp only[El,D.slc.injEq,and_true]at h;exact QF.1 h.2
theorem QE{a b:Ins}:CZ a=CZ b↔a=b:=by
 obtain⟨a1,E,I⟩:=a; obtain⟨b1,J,M⟩:=b;simp[CZ,Dz]
theorem J9{a b:List Ins}:a.map CZ=b.map CZ↔a=b:=⟨N4 fun _ _=>QE.1,fun h=>by rw[h]⟩
theorem V7{a b:Sta}:Ec a=Ec b↔a=b:=by
 obtain⟨a1,E,I,J,M⟩:=a; obtain⟨b1,N,O,U,V⟩:=b;simp[Ec,Er,QH]
theorem QG{a b:Opn}:DN a=DN b↔a=b:=by
 obtain⟨a1,E,I,J,M,N,O⟩:=a; obtain⟨b1,U,V,Y,b5,b6,b7⟩:=b;simp[DN,EJ,QH,N5]
theorem KS{a b:Int×List Int}:Ev a=Ev b↔a=b:=by
 obtain⟨a1,E⟩:=a; obtain⟨b1,I⟩:=b;simp[Ev,Eh,QF]
def Oo(t:List UInt8)(v:Val):Dig:=Qp t (Kh v)
def ZK:List UInt8:=[112,114,111,103,114,97,109]
def NA:List UInt8:=[105,110,112,117,116,115]
def Ny:List UInt8:=[115,116,97,99,107]
def Nz:List UInt8:=[115,116,97,116,101]
def rT(d:Dig)(x:Ins):Dig:=Oo ZK (.list [.int x.op,.int x.n,.int x.m,.bytes d.bs])
def KH(c:List Ins):Dig:=c.foldl rT Dn
def Kf(v:Int×List Int):Dig:=Oo NA (.list [.int v.1,.list (v.2.map .int)])
def rR(d:Dig)(n:Int):Dig:=Oo Ny (.list [.int n,.bytes d.bs])
def Jb(d:Dig)(l:List Int):Dig:=l.foldl rR d
def Rt(c:List Ins)(v:Int×List Int)(o:Opn):Dig:=Oo Nz (.list [.bytes (KH c).bs,.bytes (Kf v).bs,.int o.pc,.int o.fuel,.int o.status,.int o.clause,.int (o.depth+o.top.length),.bytes (Jb o.rest o.top).bs])
def Np(s:Sta)(n:Int):Nat:=s.stack.length - (min (max n 0) s.stack.length).toNat
def Oz(s:Sta)(n:Int):Opn:=⟨s.pc,s.fuel,s.status,s.clause,s.stack.drop (Np s n),Np s n,Jb Dn (s.stack.take (Np s n))⟩
def Mn(c:List Ins)(v:Int×List Int)(s:Sta):Dig:=Rt c v (Oz s s.stack.length)
def F1(c:List Ins)(v:Int×List Int)(o:Opn):Dig:=if o.depth<0∨64<o.depth then Dn else Rt c v o
theorem wK(n:Int):(H4 n).length≤9:=by
 unfold H4
 split
 ·have:=Qz 8 (D2 n);simp only[Ak,bC]; omega
 ·have:=Qz 8 (Li (D2 n));simp only[Ak,bC]; omega
theorem mi:∀ b:List UInt8,(b.flatMap DT).length≤2*b.length
 |[]=>by simp
 |c::b=>by
  have:=mi b;have E:(DT c).length≤2:=by unfold DT; split <;> simp
  simp only[At,Ab,Ak];omega
theorem LS(n:Int):(Dm (.int n)).length≤9:=by rw[dW]; exact wK n
theorem RM(d:Dig):(Dm (.bytes d.bs)).length≤67:=by
 have:=mi d.bs;rw[d.len]at this;rw[WN];simp only[Ak,Ab,Ap];omega
theorem nV:∀ l:List Int,((l.map Val.int).flatMap Dm).length≤9*l.length
 |[]=>by simp
 |n::l=>by
  have:=nV l;have:=LS n;simp only[Ax,At,Ab,Ak];omega
theorem zw(st:St)(key:Nat):Dw st (.bsl key 0 32 1 false)=(Vj st[key]?).map fun p=>.slc (nz 1 p.2) p.2 false:=by
 rw[← qC];simp only[Dw,Hq,Gy]
 cases Kv st key 0 32 1 false with
 |none=>rfl
 |some els=>
  dsimp only
  split <;> rfl
theorem Tv(st:St)(v:Val):DO st (C5 v)=some (C5 v):=by
 obtain⟨k,n,B,M,I,E⟩:=Nk v;rw[E,Zx]
theorem RO(v:Val):keys (C5 v)=[]:=by
 obtain⟨k,n,B,M,I,E⟩:=Nk v;rw[E,Yz]
theorem wQ(v:Val):(C5 v).noRef=false:=by
 obtain⟨k,n,B,M,I,E⟩:=Nk v;rw[E]; rfl
theorem Yay(v:Val):(C5 v).cells.length=4:=by
 obtain⟨k,n,B,M,I,E⟩:=Nk v;rw[E]; rfl
theorem VU(l:List Val)(h:l.length≤1000):E4 4 (l.map C5)=some (.slc 4 (l.map C5) true):=by
 have E:((l.map C5).all fun e=>e.cells.length == 4)=true:=by
  rw[Aj];intro e he;obtain⟨v,_,rfl⟩:=AV.1 he;simp[Yay]
 have I:decide ((l.map C5).length*4≤16777216)=true:=decide_eq_true (by rw[Bd]; omega);simp only[E4,E,I];rfl
theorem KA:Dx (.agg [.int .i64 0,.int .i64 0,.int .i64 0])=some [.int .i64 0,.int .i64 0,.int .i64 0]:=(rfl)
theorem EZ(x:Ins):Dx (CZ x)=some (Dz x):=(rfl)
theorem Mw(x:Ins):DY (some ⟨false,1,[.int .i64 0,.int .i64 0,.int .i64 0],false⟩) 3 0 (CZ x)=some ⟨false,1,Dz x,false⟩:=(rfl)
theorem FO(lent:Bool)(x:Ins):Dq (some ⟨false,1,Dz x,lent⟩) 1 false 0=some (.int .i64 x.op):=(rfl)
theorem Kz(lent:Bool)(x:Ins):Dq (some ⟨false,1,Dz x,lent⟩) 1 false 1=some (.int .i64 x.n):=(rfl)
theorem cO(lent:Bool)(x:Ins):Dq (some ⟨false,1,Dz x,lent⟩) 1 false 2=some (.int .i64 x.m):=(rfl)
theorem MR(lent:Bool)(x:Ins):Dq (some ⟨false,1,Dz x,lent⟩) 3 true 0=some (CZ x):=(rfl)
theorem JS(st:St)(x:Ins):E1 st 3 true (.eptr (CZ x) 0)=some (CZ x):=(rfl)
theorem Yob(st:St)(x:Ins):DO st (CZ x)=some (CZ x):=(rfl)
theorem Tt(st:St)(c:List Ins)(t:Bool)(i:Nat)(h:i<c.length):F5 st 3 (.slc (nz 3 (c.map CZ)) (c.map CZ) t) (.int .i64 (i:Int))=some (.eptr (CZ (c.getD i default)) 0):=by
 have:=Lt st 3 CZ c t .i64 (i:Int) (by omega) (by omega);simpa using this
theorem Yw(st:St)(c:List Int)(t:Bool)(i:Nat)(h:i<c.length):F5 st 1 (.slc (nz 1 (c.map nI)) (c.map nI) t) (.int .i64 (i:Int))=some (.eptr (nI (c.getD i default)) 0):=by
 have:=Lt st 1 nI c t .i64 (i:Int) (by omega) (by omega);simpa using this
theorem YK(st:St)(n:Int):E1 st 1 false (.eptr (nI n) 0)=some (.int .i64 n):=(rfl)
theorem Yhh(n:Int):DF [.int .i64 0,.int .i64 0,.slc 0 [] true,.slc 0 [] true] [(0,1,.int .i64 1),(1,1,.int .i64 n)]=some [.int .i64 1,.int .i64 n,.slc 0 [] true,.slc 0 [] true]:=(rfl)
theorem Yhj(k:Nat):DF [.int .i64 0,.int .i64 0,.slc 0 [] true,.slc 0 [] true] [(0,1,.int .i64 2),(2,1,.bsl k 0 32 1 false)]=some [.int .i64 2,.int .i64 0,.bsl k 0 32 1 false,.slc 0 [] true]:=(rfl)
theorem Yhi(sz:Nat)(l:List D)(t:Bool):DF [.int .i64 0,.int .i64 0,.slc 0 [] true,.slc 0 [] true] [(0,1,.int .i64 3),(3,1,.slc sz l t)]=some [.int .i64 3,.int .i64 0,.slc 0 [] true,.slc sz l t]:=(rfl)
theorem cz(a b c d:D):DY (some ⟨false,1,[.int .i64 0,.int .i64 0,.slc 0 [] true,.slc 0 [] true],false⟩) 4 0 (.agg [a,b,c,d])=if [a,b,c,d].all D.isCell then some ⟨false,1,[a,b,c,d],false⟩else none:=by
 simp only[DY];rfl
theorem P0(lent:Bool)(a b c d:D):Dq (some ⟨false,1,[a,b,c,d],lent⟩) 4 true 0=some (.agg [a,b,c,d]):=(rfl)
theorem Yhx(k o n s:Nat)(ag:Bool):(D.bsl k o n s ag).isCell=true:=(rfl)
noncomputable def Qo:List D→Option D:=Dd (α:=Int) (fun a=>[.int .i64 a]) (fun a=>True) (fun a=>C5 (.int a))
theorem Sf(n:Int):Qo [.int .i64 n]=some (C5 (.int n)):=
 DW (fun a b h=>by simp only[Aa,D.int.injEq,true_and,and_true]at h; simp[h]) (n) trivial
theorem Yrk(n:Int):@wW GG (tb [] []) Xq.code (C4 [.int .i64 n]) [] ⟨Dg Xq.res (C5 (.int n))⟩:=by
 unfold Xq;rw[Nj];simp (disch:=first|omega|decide) only[push_cast,↓reduceIte,Cz,S3,Yhh,cz,P0];rfl
theorem Yt:Contract Tryz.prog GG 145 Qo:=
 D9 yDz (DB all_nil all_nil) (fun a h=>Yrk a)
noncomputable def RK:List D→Option D:=Dd (α:=Dig) (fun a=>[C0 a]) (fun a=>True) (fun a=>C5 (.bytes a.bs))
theorem fw(d:Dig):RK [C0 d]=some (C5 (.bytes d.bs)):=
 DW (fun a b h=>by simp only[Aa,MA,and_true]at h; simp[h]) (d) trivial
theorem Yrq(d:Dig):@wW GG (tb [] []) W7.code (C4 [C0 d]) [] ⟨Dg W7.res (C5 (.bytes d.bs))⟩:=by
 unfold W7;rw[No];simp (disch:=first|omega|decide) only[push_cast,↓reduceIte,Cz,S3,pU,Yhj,cz,P0,Yhx,zw];rfl
theorem iz:Contract Tryz.prog GG 142 RK:=
 D9 yHh (DB all_nil all_nil) (fun a h=>Yrq a)
noncomputable def M8:List D→Option D:=Dd (α:=List Val) (fun a=>[.slc (nz 4 (a.map C5)) (a.map C5) false]) (fun a=>True) (fun a=>C5 (.list a))
theorem Wv(l:List Val):M8 [.slc (nz 4 (l.map C5)) (l.map C5) false]=some (C5 (.list l)):=
 DW (fun a b h=>by simp only[Aa,D.slc.injEq,and_true,Ydd]at h; simp[h]) (l) trivial
theorem Yrl(l:List Val):@wW GG (tb [] []) WH.code (C4 [.slc (nz 4 (l.map C5)) (l.map C5) false]) [] ⟨Dg WH.res (C5 (.list l))⟩:=by
 unfold WH;rw[Pl];simp (disch:=first|omega|decide) only[push_cast,↓reduceIte,Cz,S3,Yhi,cz,P0];rfl
theorem Ys:Contract Tryz.prog GG 141 M8:=
 D9 yK8 (DB all_nil all_nil) (fun a h=>Yrl a)
noncomputable def Qn:List D→Option D:=Dd (α:=List UInt8×Val) (fun a=>[.str a.1,C5 a.2]) (fun a=>a.1.length≤1000∧DU a.2≤16∧(Dm a.2).length≤4294967000) (fun a=>C0 (Oo a.1 a.2))
theorem Wu(t:List UInt8)(v:Val)(h:t.length≤1000∧DU v≤16∧(Dm v).length≤4294967000):Qn [.str t,C5 v]=some (C0 (Oo t v)):=
 DW (fun⟨a0,a1⟩ ⟨b0,b1⟩ h=>by simp only[Aa,D.str.injEq,and_true,R1]at h; simp[h]) (t,v) h
theorem Yrn(t:List UInt8)(v:Val)(h:t.length≤1000∧DU v≤16∧(Dm v).length≤4294967000):@wW GG (tb [(167,Z9),(62,QN)] []) Xp.code (C4 [.str t,C5 v]) [] ⟨Dg Xp.res (C0 (Oo t v))⟩:=by
 unfold Xp Oo;have E:=yNn v h.2
 have hl:(Kh v).length≤65536:=by
  unfold Kh
  split
  ·assumption
  ·simp
 have J:=aN t (Kh v) (by omega);obtain⟨k,n,B,M,N,I⟩:=Nk v;rw[I]at E;rw[I];simp (disch:=first|omega|decide) only[push_cast,↓reduceIte,Cz,On,Mk,Zx,Yz,E,Vz,J]
theorem Yr:Contract Tryz.prog GG 140 Qn:=
 D9 yD0 (DB (all_cons Yii (all_cons dP all_nil)) all_nil) (fun a h=>Yrn a.1 a.2 h)
theorem yRz(c:List Ins)(x:Ins):KH (c++[x])=rT (KH c) x:=by unfold KH; rw[List.foldl_append]; rfl
theorem Yez(d:Dig)(x:Ins):ZK.length≤1000∧DU (.list [.int x.op,.int x.n,.int x.m,.bytes d.bs])≤16∧(Dm (.list [.int x.op,.int x.n,.int x.m,.bytes d.bs])).length≤4294967000:=by
 have E:=LS x.op;have I:=LS x.n;have J:=LS x.m;have M:=RM d;refine⟨by decide,by simp[DU,Hx],?_⟩;rw[Nl];simp only[Ak,Ab,Ap,At,BG];omega
theorem UC(a b c d:Val):E4 4 [C5 a,C5 b,C5 c,C5 d]=some (.slc 4 [C5 a,C5 b,C5 c,C5 d] true):=VU [a,b,c,d] (by simp)
theorem UA(a b c d:Val):M8 [.slc 4 [C5 a,C5 b,C5 c,C5 d] false]=some (C5 (.list [a,b,c,d])):=Wv [a,b,c,d]
theorem rX(a b:Val):E4 4 [C5 a,C5 b]=some (.slc 4 [C5 a,C5 b] true):=VU [a,b] (by simp)
theorem rP(a b:Val):M8 [.slc 4 [C5 a,C5 b] false]=some (C5 (.list [a,b])):=Wv [a,b]
theorem UB(a b c d e f g h:Val):E4 4 [C5 a,C5 b,C5 c,C5 d,C5 e,C5 f,C5 g,C5 h]=some (.slc 4 [C5 a,C5 b,C5 c,C5 d,C5 e,C5 f,C5 g,C5 h] true):=VU [a,b,c,d,e,f,g,h] (by simp)
theorem Uz(a b c d e f g h:Val):M8 [.slc 4 [C5 a,C5 b,C5 c,C5 d,C5 e,C5 f,C5 g,C5 h] false]=some (C5 (.list [a,b,c,d,e,f,g,h])):=Wv [a,b,c,d,e,f,g,h]
noncomputable def dE:List D→Option D:=Dd (α:=List Ins) (fun a=>[.slc (nz 3 (a.map CZ)) (a.map CZ) false]) (fun a=>a.length≤4294967296) (fun a=>C0 (KH a))
theorem Ya9(c:List Ins)(h:c.length≤4294967296):dE [.slc (nz 3 (c.map CZ)) (c.map CZ) false]=some (C0 (KH c)):=
 DW (fun a b h=>by simp only[Aa,D.slc.injEq,and_true,J9]at h; simp[h]) (c) h
theorem Yrj(c:List Ins)(h:c.length≤4294967296):@wW GG (tb [(145,Qo),(142,RK),(141,M8),(140,Qn)] []) Xy.code (C4 [.slc (nz 3 (c.map CZ)) (c.map CZ) false]) [] ⟨Dg Xy.res (C0 (KH c))⟩:=by
 unfold Xy;simp (disch:=first|omega|decide) only[push_cast,↓reduceIte,Cz]
 refine GF (fun i:Nat=>[(2,.ptr 0 0),(5,.slc (nz 3 (c.map CZ)) (c.map CZ) false),(6,.int .i64 (c.length:Int)),(7,.int .i64 (i:Int))])
  (fun i=>[⟨false,1,CY (KH (c.take i)),false⟩]) (fun i=>i≤c.length) (fun i=>c.length - i) 0 (by simp only[push_cast,↓reduceIte,Cz,CG,CE,↓CC] <;> rfl) (by omega) ?_
 intro i hi;unfold jF;simp (disch:=first|omega|decide) only[push_cast,↓reduceIte,Cz];refine E8 (fun O=>?_) (fun O=>?_)
 ·have E:i<c.length:=by omega
  have J:=Tt [⟨false,1,CY (KH (c.take i)),false⟩] c false i E;have I:=Pk c E;obtain⟨x,M⟩:∃ x,c.getD i default=x:=⟨_,rfl⟩;rw[M]at J I;have N:=Wu ZK (.list [.int x.op,.int x.n,.int x.m,.bytes (KH (c.take i)).bs]) (Yez _ _);simp only[ZK]at N;simp (disch:=first|omega|decide) only[push_cast,↓reduceIte,Cz,CG,CE,CA,J,JS,KA,Mw,FO,Kz,cO,Sf,fw,Tv,RO,UC,UA,N,DP];refine Fi (i+1) (by omega) (by omega) ?_;rw[I,yRz];simp only[push_cast] <;> rfl
 ·obtain rfl:i=c.length:=by omega
  rw[show(c.take c.length)=c from Bf];simp (disch:=first|omega|decide) only[push_cast,↓reduceIte,Cz]
theorem Yv5:Contract Tryz.prog GG 143 dE:=
 D9 yBr (DB (all_cons Yt (all_cons iz (all_cons Ys (all_cons Yr all_nil)))) all_nil) (fun a h=>Yrj a h)
theorem ySi(d:Dig)(l:List Int)(n:Int):Jb d (l++[n])=rR (Jb d l) n:=by unfold Jb; rw[List.foldl_append]; rfl
theorem Yfk(d:Dig)(n:Int):Ny.length≤1000∧DU (.list [.int n,.bytes d.bs])≤16∧(Dm (.list [.int n,.bytes d.bs])).length≤4294967000:=by
 have E:=LS n;have I:=RM d;refine⟨by decide,by simp[DU,Hx],?_⟩;rw[Nl];simp only[Ak,Ab,Ap,At,BG];omega
noncomputable def V6:List D→Option D:=Dd (α:=Dig×List Int) (fun a=>[C0 a.1,.slc (nz 1 (a.2.map nI)) (a.2.map nI) false]) (fun a=>a.2.length≤4294967296) (fun a=>C0 (Jb a.1 a.2))
theorem pw(d:Dig)(l:List Int)(h:l.length≤4294967296):V6 [C0 d,.slc (nz 1 (l.map nI)) (l.map nI) false]=some (C0 (Jb d l)):=
 DW (fun⟨a0,a1⟩ ⟨b0,b1⟩ h=>by simp only[Aa,D.slc.injEq,MA,and_true,QF]at h; simp[h]) (d,l) h
theorem Ykm(d:Dig)(l:List Int)(h:l.length≤4294967296):@wW GG (tb [(145,Qo),(142,RK),(141,M8),(140,Qn)] []) WI.code (C4 [C0 d,.slc (nz 1 (l.map nI)) (l.map nI) false]) [] ⟨Dg WI.res (C0 (Jb d l))⟩:=by
 unfold WI;simp (disch:=first|omega|decide) only[push_cast,↓reduceIte,Cz]
 refine GF (fun i:Nat=>[(2,.ptr 0 0),(4,.ptr 1 0),(7,.slc (nz 1 (l.map nI)) (l.map nI) false),(8,.int .i64 (l.length:Int)),(9,.int .i64 (i:Int))])
  (fun i=>[⟨false,1,CY (Jb d (l.take i)),false⟩,⟨false,1,CY Dn,false⟩]) (fun i=>i≤l.length) (fun i=>l.length - i) 0 (by simp only[push_cast,↓reduceIte,Cz,CG,CE,CA,↓CC] <;> rfl) (by omega) ?_
 intro i hi;unfold jj;simp (disch:=first|omega|decide) only[push_cast,↓reduceIte,Cz];refine E8 (fun O=>?_) (fun O=>?_)
 ·have E:i<l.length:=by omega
  have J:=Yw [⟨false,1,CY (Jb d (l.take i)),false⟩,⟨false,1,CY Dn,false⟩] l false i E;have I:=Pk l E;obtain⟨x,M⟩:∃ x,l.getD i default=x:=⟨_,rfl⟩;rw[M]at J I;have N:=Wu Ny (.list [.int x,.bytes (Jb d (l.take i)).bs]) (Yfk _ _);simp only[Ny]at N;simp (disch:=first|omega|decide) only[push_cast,↓reduceIte,Cz,CG,CE,CA,J,YK,Sf,fw,Tv,RO,rX,rP,N,DP];refine Fi (i+1) (by omega) (by omega) ?_;rw[I,ySi];simp only[push_cast] <;> rfl
 ·obtain rfl:i=l.length:=by omega
  rw[show(l.take l.length)=l from Bf];simp (disch:=first|omega|decide) only[push_cast,↓reduceIte,Cz,CA]
theorem tF:Contract Tryz.prog GG 146 V6:=
 D9 yK7 (DB (all_cons Yt (all_cons iz (all_cons Ys (all_cons Yr all_nil)))) all_nil) (fun a h=>Ykm a.1 a.2 h)
noncomputable def dF:List D→Option D:=Dd (α:=List Int) (fun a=>[.slc (nz 1 (a.map nI)) (a.map nI) false]) (fun a=>a.length≤4294967296) (fun a=>C0 (Jb Dn a))
theorem Ya8(l:List Int)(h:l.length≤4294967296):dF [.slc (nz 1 (l.map nI)) (l.map nI) false]=some (C0 (Jb Dn l)):=
 DW (fun a b h=>by simp only[Aa,D.slc.injEq,and_true,QF]at h; simp[h]) (l) h
theorem Yri(l:List Int)(h:l.length≤4294967296):@wW GG (tb [(146,V6)] []) W5.code (C4 [.slc (nz 1 (l.map nI)) (l.map nI) false]) [] ⟨Dg W5.res (C0 (Jb Dn l))⟩:=by
 unfold W5;have hc:=pw Dn l h;simp (disch:=first|omega|decide) only[push_cast,↓reduceIte,Cz,hc]
theorem Yv4:Contract Tryz.prog GG 96 dF:=
 D9 yHj (DB (all_cons tF all_nil) all_nil) (fun a h=>Yri a h)
theorem Yn7(v:Int×List Int)(h:v.2.length=16):NA.length≤1000∧DU (.list [.int v.1,.list (v.2.map .int)])≤16∧(Dm (.list [.int v.1,.list (v.2.map .int)])).length≤4294967000:=by
 have J:=LS v.1;have M:=nV v.2
 have E:∀ l:List Int,Hx (l.map .int)=0:=by
  intro l
  induction l with
  |nil=>simp[Hx]
  |cons a l I=>simp[Hx,DU,I]
 refine⟨by decide,by simp[DU,Hx,E],?_⟩;rw[Nl];simp only[Ak,Ab,Ap,At,BG,Nl];omega
theorem Z3(l:List Int):(l.map nI).all D.isCell=true:=Wp nI (fun _=>rfl) l
theorem Pu(l:List Int):(l.map nI).all Eo=true:=by
 rw[Aj];intro x E;obtain⟨n,_,rfl⟩:=AV.1 E;rfl
theorem dY(v:Int×List Int):Eh v=(v.1::v.2).map nI:=(rfl)
theorem Fb(v:Int×List Int):Dx (Ev v)=some (Eh v):=by
 rw[show Dx (Ev v)=if(Eh v).all D.isCell then some (Eh v)else none from rfl,dY,if_pos (Z3 _)]
theorem Ez(st:St)(v:Int×List Int):DO st (Ev v)=some (Ev v):=Ph st (Pu (v.1::v.2))
theorem FE(v:Int×List Int):keys (Ev v)=[]:=Pn (Pu (v.1::v.2))
theorem tj(v:Int×List Int):(Eh v).flatMap hk=[]:=Pd (Pu (v.1::v.2))
theorem lp(m:Nat)(σ:List Nat)(v:Int×List Int):(Eh v).map (Ef m σ)=Eh v:=Oh m σ (Pu (v.1::v.2))
variable {v:Int×List Int}
theorem Gz(h:v.2.length=16)(sz:Nat)(lent:Bool):Dq (some ⟨false,sz,Eh v,lent⟩) 17 true 0=some (Ev v):=KT sz lent _ 17 (by simp[Eh,h])
theorem Yt9(v:Int×List Int)(sz:Nat)(lent:Bool):Dq (some ⟨false,sz,Eh v,lent⟩) 1 false 0=some (.int .i64 v.1):=IX (A:=[]) (C:=v.2.map nI) rfl rfl
theorem Yt8(h:v.2.length=16)(sz:Nat)(lent:Bool):Dq (some ⟨false,sz,Eh v,lent⟩) 16 true 1=some (.agg (v.2.map nI)):=LQ (A:=[.int .i64 v.1]) (B:=v.2.map nI) (C:=[]) (by simp[Eh]) rfl (by simp[h])
theorem Yoh(l:List Int)(i:Nat)(h:i<l.length):OA l.length 1 false (.agg (l.map nI)) (.int .i64 (i:Int))=some (nI (l.getD i default)):=by
 have E:Fq (.int .i64 (i:Int))=some i:=by simp[Fq]
 simp only[OA,E,if_pos h,BL];refine wa (A:=(l.take i).map nI) (C:=(l.drop (i+1)).map nI) ?_ (by simp; omega);rw[← Ax,← Bv]
 congr 1
 have:l=l.take i++l.drop i:=(BA _ _).symm;rw[Be h]at this;rw[Ao,An h];exact this
theorem Yt3(a:Val):E4 4 [C5 a]=some (.slc 4 [C5 a] true):=VU [a] (by simp)
theorem kI(l:List Int):hk (.agg (l.map nI))=[]:=R5 (Pu l)
theorem mY(m:Nat)(σ:List Nat)(l:List Int):Ef m σ (.agg (l.map nI))=.agg (l.map nI):=Pj m σ (Pu l)
noncomputable def dD:List D→Option D:=Dd (α:=(Int×List Int)) (fun a=>[Ev a]) (fun a=>a.2.length=16) (fun a=>C0 (Kf a))
theorem Yba(v:Int×List Int)(h:v.2.length=16):dD [Ev v]=some (C0 (Kf v)):=
 DW (fun a b h=>by simp only[Aa,and_true,KS]at h; simp[h]) (v) h
theorem Yrm(v:Int×List Int)(h:v.2.length=16):@wW GG (tb [(145,Qo),(141,M8),(140,Qn)] []) Xo.code (C4 [Ev v]) [] ⟨Dg Xo.res (C0 (Kf v))⟩:=by
 unfold Xo;have U:=Wu NA (.list [.int v.1,.list (v.2.map .int)]) (Yn7 v h);simp only[NA]at U;simp (disch:=first|omega|decide) only[push_cast,↓reduceIte,Cz,Fb,Yt8 h]
 refine GF (fun i:Nat=>[(1,.ptr 0 0),(2,.ptr 1 0),(3,DV 0 2 ((v.2.take i).map (C5 ∘ Val.int))),(7,.agg (v.2.map nI)),(8,.int .i64 (i:Int))])
  (fun i=>⟨false,1,Eh v,false⟩::⟨false,1,CY Dn,false⟩::Dr 4 ((v.2.take i).map (C5 ∘ Val.int))) (fun i=>i≤16) (fun i=>16 - i) 0 (by simp only[push_cast,↓reduceIte,Cz,CG,CE,CA,↓CC,tj,lp,kI,mY] <;> rfl) (by omega) ?_
 intro i hi;unfold jA;simp (disch:=first|omega|decide) only[push_cast,↓reduceIte,Cz];refine E8 (fun V=>?_) (fun V=>?_)
 ·have J:i<v.2.length:=by omega
  have O:=Yoh v.2 i J;rw[h]at O;have M:=Pk v.2 J;obtain⟨x,N⟩:∃ x,v.2.getD i default=x:=⟨_,rfl⟩;rw[N,show nI x=.int .i64 x from rfl]at O;rw[N]at M;have I:=lh (f:=C5 ∘ Val.int) (sz:=4) (sz0:=0) (bytes:=64) (A:=v.2.take i) (x:=x) (t:=true) (a:=⟨false,1,Eh v,false⟩) (b:=⟨false,1,CY Dn,false⟩) (hs0:=by decide) (hb:=by rw[AQ]; omega) (hl:=by rw[AQ]; omega);simp only[Function.comp_apply]at I;simp (disch:=first|omega|decide) only[push_cast,↓reduceIte,Cz,CG,CE,CA,O,Sf,Tv,RO,Yt3,I,DP];refine Fi (i+1) (by omega) (by omega) ?_;rw[M];simp only[push_cast,tj,lp,kI,mY] <;> rfl
 ·obtain rfl:i=16:=by omega
  rw[show(v.2.take 16)=v.2 from AU (by omega)];have hb:DO (⟨false,1,Eh v,false⟩::⟨false,1,CY Dn,false⟩::Dr 4 (v.2.map (C5 ∘ Val.int))) (DV 0 2 (v.2.map (C5 ∘ Val.int)))=some (.slc (nz 4 (v.2.map (C5 ∘ Val.int))) (v.2.map (C5 ∘ Val.int)) false):=tl _ _ 4 0 _;have hl:=Wv (v.2.map Val.int);rw[List.map_map]at hl
  have E:v.2.map (C5 ∘ Val.int)≠[]:=by
   intro e;have:=congrArg List.length e;simp[h]at this
  rw[Qj _ _ _ E,O1 _ _ E]at hb;simp (disch:=first|omega|decide) only[push_cast,↓reduceIte,Cz,CA,CJ,↓CC,Qj _ _ _ E,O1 _ _ E,wQ,Yt9,Sf,Tv,RO,hl,rX,rP,U];rfl
theorem Yv6:Contract Tryz.prog GG 144 dD:=
 D9 yD1 (DB (all_cons Yt (all_cons Ys (all_cons Yr all_nil))) all_nil) (fun a h=>Yrm a h)
theorem Ua(st:St)(E:sz≠0)(els:List D)(t:Bool)(h:k≤els.length):Gm st sz (.slc (nz sz els) els t) (some (.int .i64 (k:Int))) none none=some (.slc (nz sz els) (els.drop k) t):=by
 have I:((nz sz els == sz || els.isEmpty) && sz != 0)=true:=by
  cases els <;> simp[nz,E]
 have J:Fq (.int .i64 (k:Int))=some k:=by simp[Fq]
 simp only[Gm,I,if_true,FW,J];rw[if_pos ⟨h,AE _⟩,Bf,beq_self_eq_true,BX]
theorem Ub(st:St)(E:sz≠0)(els:List D)(t:Bool)(h:k≤els.length):Gm st sz (.slc (nz sz els) els t) none (some (.int .i64 (k:Int))) none=some (.slc (nz sz els) (els.take k) (t && k == els.length)):=by
 have I:((nz sz els == sz || els.isEmpty) && sz != 0)=true:=by
  cases els <;> simp[nz,E]
 have J:FW (some (.int .i64 (k:Int))) els.length=some k:=by simp[FW,Fq]
 simp only[Gm,I,if_true,J];simp only[FW];rw[if_pos ⟨Bg _,h⟩,Bt]
theorem Uc(st:St)(E:sz≠0)(els:List D)(t:Bool)(h:k≤els.length):Gm st sz (.slc (nz sz els) els t) none (some (.int .i64 (k:Int))) (some (.int .i64 (k:Int)))=some (.slc (nz sz els) (els.take k) true):=by
 have I:((nz sz els == sz || els.isEmpty) && sz != 0)=true:=by
  cases els <;> simp[nz,E]
 have J:FW (some (.int .i64 (k:Int))) els.length=some k:=by simp[FW,Fq]
 have M:Fq (.int .i64 (k:Int))=some k:=by simp[Fq]
 simp only[Gm,I,if_true,J,M];simp only[FW];rw[if_pos (by simp[h]),Bt]
theorem Ydr(s:Sta):(Er s).all D.isCell=true:=(rfl)
theorem Jh(s:Sta):Dx (Ec s)=some (Er s):=(rfl)
theorem KB:Dx (.agg [.int .i64 0,.int .i64 0,.int .i64 0,.int .i64 0,.slc 0 [] true])=some [.int .i64 0,.int .i64 0,.int .i64 0,.int .i64 0,.slc 0 [] true]:=(rfl)
theorem M9(st:St)(s:Sta):DO st (Ec s)=some (Ec s):=by
 simp only[Ec,Er,El,DO,DQ,Dw,Kq];rfl
theorem Wg(s:Sta):keys (Ec s)=[]:=(rfl)
theorem Ju(lent:Bool)(s:Sta):Dq (some ⟨false,1,Er s,lent⟩) 1 false 0=some (.int .i64 s.pc):=(rfl)
theorem JT(lent:Bool)(s:Sta):Dq (some ⟨false,1,Er s,lent⟩) 1 false 1=some (.int .i64 s.fuel):=(rfl)
theorem J8(lent:Bool)(s:Sta):Dq (some ⟨false,1,Er s,lent⟩) 1 false 2=some (.int .i64 s.status):=(rfl)
theorem M1(lent:Bool)(s:Sta):Dq (some ⟨false,1,Er s,lent⟩) 1 false 3=some (.int .i64 s.clause):=(rfl)
theorem OW(lent:Bool)(s:Sta):Dq (some ⟨false,1,Er s,lent⟩) 1 false 4=some (El s.stack):=(rfl)
theorem Lp(lent:Bool)(s:Sta):Dq (some ⟨false,1,Er s,lent⟩) 5 true 0=some (Ec s):=(rfl)
theorem N3(s:Sta):DY (some ⟨false,1,[.int .i64 0,.int .i64 0,.int .i64 0,.int .i64 0,.slc 0 [] true],false⟩) 5 0 (Ec s)=some ⟨false,1,Er s,false⟩:=(rfl)
theorem cy(s s':Sta):DY (some ⟨false,1,Er s,false⟩) 5 0 (Ec s')=some ⟨false,1,Er s',false⟩:=(rfl)
theorem Y0(l:List Int):El l=.slc (nz 1 (l.map nI)) (l.map nI) false:=(rfl)
def Ey(a b c d:Int)(t:D)(k:Int)(r:Dig):List D:=.int .i64 a::.int .i64 b::.int .i64 c::.int .i64 d::t::.int .i64 k::CY r
theorem J7(o:Opn):EJ o=Ey o.pc o.fuel o.status o.clause (El o.top) o.depth o.rest:=(rfl)
theorem WX(a b c d:Int)(t:D)(k:Int)(r:Dig):(Ey a b c d t k r).length=38:=by simp[Ey,DJ]
variable {t:D}
theorem na(a b c d:Int)(E:t.isCell=true)(k:Int)(r:Dig):(Ey a b c d t k r).all D.isCell=true:=by
 simp only[Ey,A3,E,pJ,Bp];exact KC (fun _=>rfl) r
theorem OY:(D.int .i64 0::.int .i64 0::.int .i64 0::.int .i64 0::.slc 0 [] true::.int .i64 0::CY Dn)=Ey 0 0 0 0 (.slc 0 [] true) 0 Dn:=(rfl)
theorem so(a b c d:Int)(E:t.isCell=true)(k:Int)(r:Dig):Dx (.agg (Ey a b c d t k r))=some (Ey a b c d t k r):=by
 rw[show Dx (.agg (Ey a b c d t k r))=if(Ey a b c d t k r).all D.isCell then some (Ey a b c d t k r)else none from rfl,if_pos (na a b c d E k r)]
theorem My(o:Opn):Dx (DN o)=some (EJ o):=by
 rw[DN,J7,so _ _ _ _ rfl]
theorem T2(a b c d E b' c' I:Int)(t:D){t':D}(M:t'.isCell=true)(k k':Int)(r J:Dig):DY (some ⟨false,1,Ey a b c d t k r,false⟩) 38 0 (.agg (Ey E b' c' I t' k' J))=some ⟨false,1,Ey E b' c' I t' k' J,false⟩:=
 Lx 1 _ _ 38 (WX ..) (WX ..) (na _ _ _ _ M _ _)
theorem Q1(lent:Bool)(a b c d:Int)(t:D)(k:Int)(r:Dig):Dq (some ⟨false,1,Ey a b c d t k r,lent⟩) 38 true 0=some (.agg (Ey a b c d t k r)):=KT 1 lent _ 38 (WX ..)
theorem sC(lent:Bool)(a b c d:Int)(t:D)(k:Int)(r:Dig):Dq (some ⟨false,1,Ey a b c d t k r,lent⟩) 1 false 0=some (.int .i64 a):=IX (A:=[]) rfl rfl
theorem sD(lent:Bool)(a b c d:Int)(t:D)(k:Int)(r:Dig):Dq (some ⟨false,1,Ey a b c d t k r,lent⟩) 1 false 1=some (.int .i64 b):=IX (A:=[.int .i64 a]) rfl rfl
theorem bU(lent:Bool)(a b c d:Int)(t:D)(k:Int)(r:Dig):Dq (some ⟨false,1,Ey a b c d t k r,lent⟩) 1 false 2=some (.int .i64 c):=IX (A:=[.int .i64 a,.int .i64 b]) rfl rfl
theorem sE(lent:Bool)(a b c d:Int)(t:D)(k:Int)(r:Dig):Dq (some ⟨false,1,Ey a b c d t k r,lent⟩) 1 false 3=some (.int .i64 d):=IX (A:=[.int .i64 a,.int .i64 b,.int .i64 c]) rfl rfl
theorem bV(lent:Bool)(a b c d:Int)(t:D)(k:Int)(r:Dig):Dq (some ⟨false,1,Ey a b c d t k r,lent⟩) 1 false 4=some t:=IX (A:=[.int .i64 a,.int .i64 b,.int .i64 c,.int .i64 d]) rfl rfl
theorem Tc(lent:Bool)(a b c d:Int)(t:D)(k:Int)(r:Dig):Dq (some ⟨false,1,Ey a b c d t k r,lent⟩) 1 false 5=some (.int .i64 k):=IX (A:=[.int .i64 a,.int .i64 b,.int .i64 c,.int .i64 d,t]) rfl rfl
theorem sF(lent:Bool)(a b c d:Int)(t:D)(k:Int)(r:Dig):Dq (some ⟨false,1,Ey a b c d t k r,lent⟩) 32 true 6=some (C0 r):=LQ (A:=[.int .i64 a,.int .i64 b,.int .i64 c,.int .i64 d,t,.int .i64 k]) (B:=CY r) (C:=[]) (by simp[Ey]) rfl (DJ r)
theorem Ypa(a b c d:Int)(E:t.cells=[t])(hc:t.isCell=true)(k:Int)(r:Dig):DF (Ey 0 0 0 0 (.slc 0 [] true) 0 Dn) [(0,1,.int .i64 a),(1,1,.int .i64 b),(2,1,.int .i64 c),(3,1,.int .i64 d),(4,1,t),(5,1,.int .i64 k),(6,32,C0 r)]=some (Ey a b c d t k r):=by
 refine(IK (cs:=Ey 0 0 0 0 (.slc 0 [] true) 0 Dn) (cs':=Ey a 0 0 0 (.slc 0 [] true) 0 Dn) (A:=[]) (B:=[.int .i64 0]) (xs:=[.int .i64 a]) rfl rfl rfl rfl rfl rfl rfl).trans ?_;refine(IK (cs:=Ey a 0 0 0 (.slc 0 [] true) 0 Dn) (cs':=Ey a b 0 0 (.slc 0 [] true) 0 Dn) (A:=[.int .i64 a]) (B:=[.int .i64 0]) (xs:=[.int .i64 b]) rfl rfl rfl rfl rfl rfl rfl).trans ?_;refine(IK (cs:=Ey a b 0 0 (.slc 0 [] true) 0 Dn) (cs':=Ey a b c 0 (.slc 0 [] true) 0 Dn) (A:=[.int .i64 a,.int .i64 b]) (B:=[.int .i64 0]) (xs:=[.int .i64 c]) rfl rfl rfl rfl rfl rfl rfl).trans ?_;refine(IK (cs:=Ey a b c 0 (.slc 0 [] true) 0 Dn) (cs':=Ey a b c d (.slc 0 [] true) 0 Dn) (A:=[.int .i64 a,.int .i64 b,.int .i64 c]) (B:=[.int .i64 0]) (xs:=[.int .i64 d]) rfl rfl rfl rfl rfl rfl rfl).trans ?_;refine(IK (cs:=Ey a b c d (.slc 0 [] true) 0 Dn) (cs':=Ey a b c d t 0 Dn) (A:=[.int .i64 a,.int .i64 b,.int .i64 c,.int .i64 d]) (B:=[.slc 0 [] true]) (xs:=[t]) rfl rfl rfl rfl E rfl (by simp[hc])).trans ?_;refine(IK (cs:=Ey a b c d t 0 Dn) (cs':=Ey a b c d t k Dn) (A:=[.int .i64 a,.int .i64 b,.int .i64 c,.int .i64 d,t]) (B:=[.int .i64 0]) (xs:=[.int .i64 k]) rfl rfl rfl rfl rfl rfl rfl).trans ?_;refine(IK (cs:=Ey a b c d t k Dn) (cs':=Ey a b c d t k r) (A:=[.int .i64 a,.int .i64 b,.int .i64 c,.int .i64 d,t,.int .i64 k]) (B:=CY Dn) (C:=[]) (xs:=CY r) (by simp[Ey]) (by simp[Ey]) rfl (DJ _) rfl (DJ _) (KC (fun _=>rfl) r)).trans ?_;rfl
theorem mJ(a b c d:Int)(sz:Nat)(els:List D)(E:Bool)(k:Int)(r:Dig):DF (Ey 0 0 0 0 (.slc 0 [] true) 0 Dn) [(0,1,.int .i64 a),(1,1,.int .i64 b),(2,1,.int .i64 c),(3,1,.int .i64 d),(4,1,.slc sz els E),(5,1,.int .i64 k),(6,32,C0 r)]=some (Ey a b c d (.slc sz els E) k r):=Ypa a b c d rfl rfl k r
theorem FD(a b c d:Int)(sz:Nat)(els:List D)(E:Bool)(k:Int)(r:Dig):Dx (.agg (Ey a b c d (.slc sz els E) k r))=some (Ey a b c d (.slc sz els E) k r):=so a b c d rfl k r
theorem Ti(a b c d E b' c' I:Int)(t:D)(sz:Nat)(els:List D)(M:Bool)(k k':Int)(r J:Dig):DY (some ⟨false,1,Ey a b c d t k r,false⟩) 38 0 (.agg (Ey E b' c' I (.slc sz els M) k' J))=some ⟨false,1,Ey E b' c' I (.slc sz els M) k' J,false⟩:=T2 a b c d E b' c' I t rfl k k' r J
theorem Yx(st:St)(a b c d:Int)(sz:Nat)(els:List D)(E:Bool)(k:Int)(r:Dig):DO st (.agg (Ey a b c d (.slc sz els E) k r))=some (.agg (Ey a b c d (.slc (nz sz els) els false) k r)):=by
 simp only[Ey,DO,oe,mq,eh,mv,Bl,Ah]
theorem FA(st:St)(o:Opn):DO st (DN o)=some (DN o):=by
 rw[DN,J7,Y0,Yx,Kq]
theorem Jk(o:Opn):keys (DN o)=[]:=by
 simp only[DN,EJ,keys,At]
 show []++([]++([]++([]++([]++([]++_)))))=[]
 have:(CY o.rest).flatMap EX=[]:=mA o.rest;rw[this];rfl
theorem yx(c:List Ins)(v:Int×List Int)(o:Opn):Nz.length≤1000∧DU (.list [.bytes (KH c).bs,.bytes (Kf v).bs,.int o.pc,.int o.fuel,.int o.status,.int o.clause,.int (o.depth+o.top.length),.bytes (Jb o.rest o.top).bs])≤16∧
  (Dm (.list [.bytes (KH c).bs,.bytes (Kf v).bs,.int o.pc,.int o.fuel,.int o.status,.int o.clause,.int (o.depth+o.top.length),.bytes (Jb o.rest o.top).bs])).length≤4294967000:=by
 have E:=RM (KH c);have I:=RM (Kf v);have J:=RM (Jb o.rest o.top);have M:=LS o.pc;have N:=LS o.fuel;have O:=LS o.status;have U:=LS o.clause;have V:=LS (o.depth+o.top.length);refine⟨by decide,by simp[DU,Hx],?_⟩;rw[Nl];simp only[Ak,Ab,Ap,At,BG];omega
noncomputable def Zk:List D→Option D:=Dd (α:=List Ins×(Int×List Int)×Opn) (fun a=>[.slc (nz 3 (a.1.map CZ)) (a.1.map CZ) false,Ev a.2.1,DN a.2.2]) (fun a=>a.1.length≤4294967296∧a.2.1.2.length=16∧a.2.2.top.length≤4294967296∧0≤a.2.2.depth∧a.2.2.depth≤4294967296) (fun a=>C0 (Rt a.1 a.2.1 a.2.2))
theorem nP(c:List Ins)(v:Int×List Int)(o:Opn)(h:c.length≤4294967296∧v.2.length=16∧o.top.length≤4294967296∧0≤o.depth∧o.depth≤4294967296):Zk [.slc (nz 3 (c.map CZ)) (c.map CZ) false,Ev v,DN o]=some (C0 (Rt c v o)):=
 DW (fun⟨a0,a1,E⟩ ⟨b0,b1,I⟩ h=>by simp only[Aa,D.slc.injEq,and_true,J9,QG,KS]at h; simp[h]) (c,v,o) h
theorem Yrh(c:List Ins)(v:Int×List Int)(o:Opn)(h:c.length≤4294967296∧v.2.length=16∧o.top.length≤4294967296∧0≤o.depth∧o.depth≤4294967296):@wW GG (tb [(143,dE),(144,dD),(146,V6),(145,Qo),(142,RK),(141,M8),(140,Qn)] []) Xb.code (C4 [.slc (nz 3 (c.map CZ)) (c.map CZ) false,Ev v,DN o]) [] ⟨Dg Xb.res (C0 (Rt c v o))⟩:=by
 obtain⟨hc,hv,I,O,U⟩:=h;unfold Xb;have E:=Wu Nz _ (yx c v o);simp only[Nz]at E;have J:=Ya9 c hc;have M:=Yba v hv;have N:=pw o.rest o.top I;simp (disch:=first|omega|decide) only[push_cast,↓reduceIte,Cz,CA,Fb,My,J7,Y0,Gz hv,Ez,sC,sD,bU,sE,bV,Tc,sF,J,M,N,Sf,fw,Tv,RO,DP,UB,Uz,E];rfl
theorem s9:Contract Tryz.prog GG 94 Zk:=
 D9 yHd (DB (all_cons Yv5 (all_cons Yv6 (all_cons tF (all_cons Yt (all_cons iz (all_cons Ys (all_cons Yr all_nil))))))) all_nil) (fun a h=>Yrh a.1 a.2.1 a.2.2 h)
theorem Ysx(st:St)(l:List Int)(t:Bool)(h:k≤l.length):Gm st 1 (.slc (nz 1 (l.map nI)) (l.map nI) t) (some (.int .i64 (k:Int))) none none=some (.slc (nz 1 (l.map nI)) ((l.drop k).map nI) t):=by
 rw[Ua st (by decide) (l.map nI) t (by simpa using h),Ci]
theorem Ysy(st:St)(l:List Int)(h:k≤l.length):Gm st 1 (.slc (nz 1 (l.map nI)) (l.map nI) false) none (some (.int .i64 (k:Int))) none=some (.slc (nz 1 (l.map nI)) ((l.take k).map nI) false):=by
 rw[Ub st (by decide) (l.map nI) false (by simpa using h),B1]; rfl
theorem Ysz(st:St)(l:List Int)(t:Bool)(h:k≤l.length):Gm st 1 (.slc (nz 1 (l.map nI)) (l.map nI) t) none (some (.int .i64 (k:Int))) (some (.int .i64 (k:Int)))=some (.slc (nz 1 (l.map nI)) ((l.take k).map nI) true):=by
 rw[Uc st (by decide) (l.map nI) t (by simpa using h),B1]
theorem Yfh(s:Sta)(n:Int):Np s n≤s.stack.length:=Nat.sub_le _ _
theorem Yfi(s:Sta)(n:Int):(s.stack.length:Int) - min (max n 0) (s.stack.length:Int)=(Np s n:Int):=by unfold Np; omega
noncomputable def fe:List D→Option D:=Dd (α:=Sta×Int) (fun a=>[Ec a.1,.int .i64 a.2]) (fun a=>a.1.stack.length≤4294967296) (fun a=>DN (Oz a.1 a.2))
theorem zH(s:Sta)(n:Int)(h:s.stack.length≤4294967296):fe [Ec s,.int .i64 n]=some (DN (Oz s n)):=
 DW (fun⟨a0,a1⟩ ⟨b0,b1⟩ h=>by simp only[Aa,D.int.injEq,true_and,and_true,V7]at h; simp[h]) (s,n) h
theorem Ykl(s:Sta)(n:Int)(h:s.stack.length≤4294967296):@wW GG (tb [(96,dF)] []) WG.code (C4 [Ec s,.int .i64 n]) [] ⟨Dg WG.res (DN (Oz s n))⟩:=by
 unfold WG;have hk:=Yfh s n;have E:=Ya8 (s.stack.take (Np s n)) (by rw[AQ]; omega);have I:min (max n 0) (s.stack.length:Int)≤s.stack.length:=Int.min_le_right _ _;have J:0≤min (max n 0) (s.stack.length:Int):=by omega
 simp (disch:=first|omega|decide) only[push_cast,↓reduceIte,Cz,Jh,OY,FD,Ju,JT,J8,M1,OW,Y0,Fh,Yfi,Ysx,Ysy,E,mJ,Ti,Q1,Yx,kY,kZ];rfl
theorem Yp1:Contract Tryz.prog GG 42 fe:=
 D9 yK9 (DB (all_cons Yv4 all_nil) all_nil) (fun a h=>Ykl a.1 a.2 h)
noncomputable def dC:List D→Option D:=Dd (α:=List Ins×(Int×List Int)×Sta) (fun a=>[.slc (nz 3 (a.1.map CZ)) (a.1.map CZ) false,Ev a.2.1,Ec a.2.2]) (fun a=>a.1.length≤4294967296∧a.2.1.2.length=16∧a.2.2.stack.length≤4294967296) (fun a=>C0 (Mn a.1 a.2.1 a.2.2))
theorem Ybb(c:List Ins)(v:Int×List Int)(s:Sta)(h:c.length≤4294967296∧v.2.length=16∧s.stack.length≤4294967296):dC [.slc (nz 3 (c.map CZ)) (c.map CZ) false,Ev v,Ec s]=some (C0 (Mn c v s)):=
 DW (fun⟨a0,a1,E⟩ ⟨b0,b1,I⟩ h=>by simp only[Aa,D.slc.injEq,and_true,J9,V7,KS]at h; simp[h]) (c,v,s) h
theorem Yro(c:List Ins)(v:Int×List Int)(s:Sta)(h:c.length≤4294967296∧v.2.length=16∧s.stack.length≤4294967296):@wW GG (tb [(42,fe),(94,Zk)] []) Xn.code (C4 [.slc (nz 3 (c.map CZ)) (c.map CZ) false,Ev v,Ec s]) [] ⟨Dg Xn.res (C0 (Mn c v s))⟩:=by
 obtain⟨hc,hv,E⟩:=h;unfold Xn;have I:=zH s s.stack.length E;have hk:Np s s.stack.length=0:=by unfold Np; omega
 have hw:=nP c v (Oz s s.stack.length) ⟨hc,hv,by simp only[Oz,AX]; omega,by simp only[Oz,hk]; omega,by simp only[Oz,hk]; omega⟩;simp (disch:=first|omega|decide) only[push_cast,↓reduceIte,Cz,CA,Fb,Gz hv,Ez,Jh,Lp,OW,Y0,M9,Wg,I,FA,hw];rfl
theorem Yv7:Contract Tryz.prog GG 49 dC:=
 D9 yD2 (DB (all_cons Yp1 (all_cons s9 all_nil)) all_nil) (fun a h=>Yro a.1 a.2.1 a.2.2 h)
variable {o:Opn}{c:List Ins}
theorem Yar(E:0≤o.depth)(I:o.depth≤64):F1 c v o=Rt c v o:=if_neg (by omega)
theorem Yaq(E:o.depth<0):F1 c v o=Dn:=if_pos (.inl E)
theorem Yas(E:64<o.depth):F1 c v o=Dn:=if_pos (.inr E)
noncomputable def RL:List D→Option D:=Dd (α:=List Ins×(Int×List Int)×Opn) (fun a=>[.slc (nz 3 (a.1.map CZ)) (a.1.map CZ) false,Ev a.2.1,DN a.2.2]) (fun a=>a.1.length≤4294967296∧a.2.1.2.length=16∧a.2.2.top.length≤4294967296) (fun a=>C0 (F1 a.1 a.2.1 a.2.2))
theorem fI(c:List Ins)(v:Int×List Int)(o:Opn)(h:c.length≤4294967296∧v.2.length=16∧o.top.length≤4294967296):RL [.slc (nz 3 (c.map CZ)) (c.map CZ) false,Ev v,DN o]=some (C0 (F1 c v o)):=
 DW (fun⟨a0,a1,E⟩ ⟨b0,b1,I⟩ h=>by simp only[Aa,D.slc.injEq,and_true,J9,QG,KS]at h; simp[h]) (c,v,o) h
theorem Yrp(c:List Ins)(v:Int×List Int)(o:Opn)(h:c.length≤4294967296∧v.2.length=16∧o.top.length≤4294967296):@wW GG (tb [(94,Zk)] []) W4.code (C4 [.slc (nz 3 (c.map CZ)) (c.map CZ) false,Ev v,DN o]) [] ⟨Dg W4.res (C0 (F1 c v o))⟩:=by
 obtain⟨hc,hv,J⟩:=h;unfold W4
 by_cases E:o.depth<0
 ·rw[Yaq E];simp (disch:=first|omega|decide) only[push_cast,↓reduceIte,Cz,CA,Fb,My,J7,Tc,E]
 ·by_cases I:64<o.depth
  ·rw[Yas I];simp (disch:=first|omega|decide) only[push_cast,↓reduceIte,Cz,CA,Fb,My,J7,Tc,E,I]
  ·rw[Yar (by omega) (by omega)];have hw:=nP c v o ⟨hc,hv,J,by omega,by omega⟩;have hi:=fun st=>FA st o;have hk:=Jk o;rw[DN,J7]at hw hi hk;simp (disch:=first|omega|decide) only[push_cast,↓reduceIte,Cz,CA,Fb,My,J7,Tc,E,I,Gz hv,Ez,Q1,hi,hw]
theorem s8:Contract Tryz.prog GG 40 RL:=
 D9 yHk (DB (all_cons s9 all_nil) all_nil) (fun a h=>Yrp a.1 a.2.1 a.2.2 h)
end Go.Proofs.YtijnglngaogdjaaGreatDoor.PI
