/-
  tvm: openings and their digests.
  Conditions: none; these are lemmas.
-/
import Derived.Test.YtijnglngaogdjaaGreatDoorFns
import Derived.Test.YtijnglngaogdjaaGreatDoorEngB2
import Derived.Test.YtijnglngaogdjaaGreatDoorSha
import Derived.WideKeyElems2
import Derived.LaidMore
import Derived.LaidHandle
import Derived.FnData
import Derived.KernelRfl
import Derived.Test.YtijnglngaogdjaaGreatDoorEngHe
open BitVec renaming ofInt→CJ
open Int renaming reduceAdd→CR,reduceLT→CM,reduceMul→CY,reduceNatCast'→CE,reduceNeg→CD,reducePow→CS,reduceSub→CT,reduceToNat→CN
open List renaming range→CL,replicate→CH
open Nat renaming reduceAdd→CC,reduceBEq→CU,reduceEqDiff→CB,reduceLT→CI,reduceLeDiff→CG,reduceMul→CF
open UInt64 renaming ofNat→CX
open UInt8 renaming ofNat→CO
set_option linter.unusedVariables false
set_option linter.unusedSimpArgs false
namespace Go.Proofs.YtijnglngaogdjaaGreatDoor.PI
open Go
set_option linter.unusedSimpArgs false
set_option linter.unusedVariables false
def EW:List (Int×Nat):=[(3,231),(4,232),(5,233),(6,234),(7,235),(8,236),(9,238),(10,239),(11,240)]
def GG:Dc:=fun n=>if n=0 then some (.gmap EW)else PR 1 .u32 (Sha.K.map fun x=>(x.toNat:Int)) n
theorem F0:GG 0=some (.gmap EW):=rfl
theorem iR:GG 1=some (.agg (Sha.K.map wD)):=rfl
theorem VS(k:Int):Df .and (.int .u64 (IntKind.wrap .u64 k)) (.int .u64 31)=some (.int .u64 ((k % 32).toNat:Int)):=by
 have h:(CJ (IntKind.bits .u64) (IntKind.wrap .u64 k) &&& CJ (IntKind.bits .u64) 31).toNat=(k % 32).toNat:=by
  show(CJ 64 (IntKind.wrap .u64 k) &&& CJ 64 31).toNat=_
  rw[Cx,show(CJ 64 31).toNat=2 ^ 5 - 1 from rfl,BE,BitVec.toNat_ofInt];simp[IntKind.wrap,IntKind.signed,IntKind.bits];omega
 simp only[Df,if_true,Kk,Ag,h,R8]
 congr 2
 omega
noncomputable def dG:List D→Option D:=De (α:=UInt32×Int) (fun a=>[wD a.1,.int .i64 a.2]) (fun a=>-31≤a.2∧a.2≤-1) (fun a=>wD (Sha.rotr a.1 (-a.2).toNat))
theorem nQ(x:UInt32)(k:Int)(h:-31≤k∧k≤-1):dG [wD x,.int .i64 k]=some (wD (Sha.rotr x (-k).toNat)):=
 DX (fun⟨a0,a1⟩ ⟨b0,b1⟩ h=>by simp only[Aa,D.int.injEq,Ydh,true_and,and_true]at h; simp[h]) (x,k) h
set_option maxHeartbeats 4000000 in
set_option maxRecDepth 20000 in
theorem Ysb(x:UInt32)(k:Int)(h:-31≤k∧k≤-1):@wW GG (tb [] []) Yy.code (C5 [wD x,.int .i64 k]) [] ⟨Dg Yy.res (wD (Sha.rotr x (-k).toNat))⟩:=by
 obtain⟨O,U⟩:=h;have E:∃ s:Nat,(k % 32).toNat=s∧0<s∧s<32∧(-k).toNat=32 - s:=⟨(k % 32).toNat,rfl,by omega,by omega,by omega⟩;obtain⟨s,I,V,J,M⟩:=E
 have e:Df .sub (.int .u64 32) (.int .u64 (s:Int))=some (.int .u64 ((32 - s:Nat):Int)):=by
  simp only[Df,if_true,JQ,Ag];rw[show(32 - (s:Int))=((32 - s:Nat):Int) by omega,R8,A4 (by omega)]
 have hc:∀ st,E7 st (.int .u64) (.int .i64 k)=some (.int .u64 (IntKind.wrap .u64 k)):=fun _=>rfl
 have N:Sha.rotr x (32 - s)=x <<< UInt32.ofNat s ||| x >>> UInt32.ofNat (32 - s):=by
  unfold Sha.rotr;grind
 unfold Yy;simp only[push_cast,↓reduceIte,CB,hc,VS,I,e,so _ _ _ J,su x .u64 (32 - s) (by omega),UB,M,N]
theorem Ywu:Contract Tryz.prog GG 187 dG:=
 Eb vW (DC all_nil all_nil) (fun a h=>Ysb a.1 a.2 h)
def G0(b:List UInt8)(i:Nat):List UInt32:=Sha.sch b i++CH (64 - i) 0
theorem iZ(b:List UInt8)(i:Nat)(h:i≤64):(G0 b i).length=64:=by
 simp[G0,Sha.sch_length]; omega
theorem Yet(b:List UInt8)(i j:Nat)(h:j<i):(G0 b i).getD j default=(Sha.sch b i).getD j 0:=by
 have E:j<(Sha.sch b i).length:=by rw[Sha.sch_length]; exact h
 simp[G0,Ao,Au E,E]
theorem nk(b:List UInt8)(i:Nat)(v:UInt32)(h:i<64)(hv:Sha.sch b (i+1)=Sha.sch b i++[v]):(G0 b i).set i v=G0 b (i+1):=by
 have E:(Sha.sch b i).length=i:=Sha.sch_length b i;unfold G0;rw[hv,Cc _ _ (by omega),E,BK,show 64 - i=(64 - (i+1))+1 by omega,BU,Bn,Ah];rfl
theorem Ytn(b:List UInt8)(i:Nat)(h:i<16):Sha.sch b (i+1)=Sha.sch b i++[Sha.word b i]:=by
 simp[Sha.sch,h]
theorem Yto(b:List UInt8)(i:Nat)(h:16≤i):Sha.sch b (i+1)=Sha.sch b i++[(Sha.sch b i).getD (i - 16) 0+Sha.sig0 ((Sha.sch b i).getD (i - 15) 0)+(Sha.sch b i).getD (i - 7) 0+Sha.sig1 ((Sha.sch b i).getD (i - 2) 0)]:=by
 simp[Sha.sch,Nat.not_lt.2 h]
theorem gQ(s t:Sha.St8)(i:Nat)(h:i<8):(((s.add t).list.take i++s.list.drop i).set i (((s.add t).list.take i++s.list.drop i).getD i default+t.list.getD i default))=(s.add t).list.take (i+1)++s.list.drop (i+1):=by
 rcases i with _ | _ | _ | _ | _ | _ | _ | _ | i <;> first | rfl | omega
noncomputable def fh:List D→Option D:=De (α:=Sha.St8×List UInt8) (fun a=>[.agg (Sha.St8.list a.1 |>.map wD),.slc (nz 1 (a.2.map Dd)) (a.2.map Dd) false]) (fun a=>a.2.length=64) (fun a=>.agg ((Sha.block a.1 a.2).list.map wD))
theorem pC(s:Sha.St8)(b:List UInt8)(h:b.length=64):fh [.agg (Sha.St8.list s |>.map wD),.slc (nz 1 (b.map Dd)) (b.map Dd) false]=some (.agg ((Sha.block s b).list.map wD)):=
 DX (fun⟨a0,a1⟩ ⟨b0,b1⟩ h=>by simp only[Aa,D.slc.injEq,D.agg.injEq,nM,yI,Sha.St8.list_iff,and_true]at h; simp[h]) (s,b) h
set_option maxHeartbeats 4000000 in
set_option maxRecDepth 20000 in
theorem Yls(s:Sha.St8)(b:List UInt8)(h:b.length=64):@wW GG (tb [(187,dG)] []) XW.code (C5 [.agg (Sha.St8.list s |>.map wD),.slc (nz 1 (b.map Dd)) (b.map Dd) false]) [] ⟨Dg XW.res (.agg ((Sha.block s b).list.map wD))⟩:=by
 unfold XW;simp only[push_cast,CC]
 refine Gr (fun i:Nat=>[(1,.slc (nz 1 (b.map Dd)) (b.map Dd) false),(2,.ptr 0 0),(4,.ptr 1 0),(5,.ptr 2 0),(19,.int .i64 (i:Int))])
  (fun i=>[⟨false,1,s.list.map wD,false⟩,⟨false,1,(zW 8).map wD,false⟩,⟨false,1,(G0 b i).map wD,false⟩]) (fun i=>i≤16) (fun i=>16 - i) 0 (by simp only[push_cast,↓reduceIte,CB,CI,CG,CC,↓CE] <;> rfl) (by omega) ?_
 intro i hi;unfold jU;simp only[push_cast,↓reduceIte,CB];refine E4 (fun U=>?_) (fun U=>?_)
 ·have O:i<16:=by omega
  have E:(4*(i:Int)).toNat=4*i:=by omega
  have I:(4*(i:Int)+1).toNat=4*i+1:=by omega
  have J:(4*(i:Int)+2).toNat=4*i+2:=by omega
  have M:(4*(i:Int)+3).toNat=4*i+3:=by omega
  have hl:(G0 b i).length=64:=iZ b i (by omega);have hw:=nk b i (Sha.word b i) (by omega) (Ytn b i O);simp (disch:=omega) only[push_cast,↓reduceIte,CB,CI,CG,CC,CN,MD,DI,KP,Yp9,Ytk,UB,N5,E,I,J,M];refine E0 (i+1) (by omega) (by omega) ?_;rw[← hw];rfl
 ·obtain rfl:i=16:=by omega
  simp only[push_cast,↓reduceIte,CC,CM,↓CE]
  refine Gr (fun i:Nat=>[(2,.ptr 0 0),(4,.ptr 1 0),(5,.ptr 2 0),(7,.int .i64 (i:Int))])
   (fun i=>[⟨false,1,s.list.map wD,false⟩,⟨false,1,(zW 8).map wD,false⟩,⟨false,1,(G0 b i).map wD,false⟩]) (fun i=>16≤i∧i≤64) (fun i=>64 - i) 16 (by simp only[push_cast,↓reduceIte,CB,CI,CG,CC,↓CE] <;> rfl) (by omega) ?_
  intro i hi;unfold jV;simp only[push_cast,↓reduceIte,CB,CD];refine E4 (fun V=>?_) (fun V=>?_)
  ·have hl:(G0 b i).length=64:=iZ b i (by omega);have hw:=nk b i _ (by omega) (Yto b i (by omega));have E:((i:Int) - 15).toNat=i - 15:=by omega
   have I:((i:Int) - 2).toNat=i - 2:=by omega
   have J:((i:Int) - 16).toNat=i - 16:=by omega
   have M:((i:Int) - 7).toNat=i - 7:=by omega
   simp (disch:=omega) only[push_cast,↓reduceIte,CB,CI,CG,CC,CN,CD,Fc,DI,N5,nQ,sF,tD,gU,E,I,J,M,Yet];refine E0 (i+1) (by omega) (by omega) ?_;rw[← hw];rfl
  ·obtain rfl:i=64:=by omega
   have N:G0 b 64=Sha.sch b 64:=by simp[G0]
   have hl:(Sha.sch b 64).length=64:=Sha.sch_length b 64;have ac:s.list.length=8:=rfl;have ad:(zW 8).length=8:=rfl;simp (disch:=first | omega | rfl) only[push_cast,↓reduceIte,CB,CC,CM,CD,↓CE,N]
   refine Gr (fun i:Nat=>[(2,.ptr 0 0),(4,.ptr 1 0),(5,.ptr 2 0),(12,.ptr 3 0),(102,.int .i64 (i:Int))])
    (fun i=>[⟨false,1,s.list.map wD,false⟩,⟨false,1,(zW 8).map wD,false⟩,⟨false,1,(Sha.sch b 64).map wD,false⟩,⟨false,1,(Sha.rounds (Sha.sch b 64) s i).list.map wD,false⟩]) (fun i=>i≤64) (fun i=>64 - i) 0 (by simp only[push_cast,↓reduceIte,CB,CI,CG,CC,↓CE] <;> rfl) (by omega) ?_
   intro i hi;unfold jW;simp only[push_cast,↓reduceIte,CB,CD];refine E4 (fun Y=>?_) (fun Y=>?_)
   ·have hK:Sha.K.length=64:=rfl;have hn:Sha.rounds (Sha.sch b 64) s (i+1)=Sha.round (Sha.rounds (Sha.sch b 64) s i) (Sha.K.getD i 0) ((Sha.sch b 64).getD i 0):=rfl;generalize Sha.rounds (Sha.sch b 64) s i=r at hn;simp (disch:=omega) only[push_cast,↓reduceIte,CB,CI,CG,CC,CN,CD,Sha.St8.list,N5,wA,Jh _ _ _ _ iR,nQ,sF,VR,UG,gU,DI];refine E0 (i+1) (by omega) (by omega) ?_;rw[hn];rfl
   ·obtain rfl:i=64:=by omega
    have hb:Sha.block s b=s.add (Sha.rounds (Sha.sch b 64) s 64):=rfl;rw[hb];generalize Sha.rounds (Sha.sch b 64) s 64=r;simp only[push_cast,↓reduceIte,CC,CM,CD,↓CE]
    refine Gr (fun i:Nat=>[(2,.ptr 0 0),(4,.ptr 1 0),(12,.ptr 3 0),(182,.int .i64 (i:Int))])
     (fun i=>[⟨false,1,((s.add r).list.take i++s.list.drop i).map wD,false⟩,⟨false,1,(zW 8).map wD,false⟩,⟨false,1,(Sha.sch b 64).map wD,false⟩,⟨false,1,r.list.map wD,false⟩]) (fun i=>i≤8) (fun i=>8 - i) 0 (by simp only[push_cast,↓reduceIte,CB,CI,CG,CC,↓CE] <;> rfl) (by omega) ?_
    intro i hi
    have ae:((s.add r).list.take i++s.list.drop i).length=8:=by
     simp only[Ab,AQ,AX,Sha.St8.list_length]; omega
    have af:r.list.length=8:=rfl;unfold jX;simp only[push_cast,↓reduceIte,CB];refine E4 (fun h4=>?_) (fun h4=>?_)
    ·have ha:=gQ s r i (by omega);simp (disch:=omega) only[push_cast,↓reduceIte,CB,CI,CG,CC,N5,gU,DI];refine E0 (i+1) (by omega) (by omega) ?_;grind
    ·obtain rfl:i=8:=by omega
     have e8:(s.add r).list.take 8++s.list.drop 8=(s.add r).list:=rfl;have ah:(s.add r).list.length=8:=rfl;simp (disch:=first | omega | rfl) only[push_cast,↓reduceIte,CB,CC,CM,↓CE,e8]
theorem Yqv:Contract Tryz.prog GG 159 fh:=
 Eb uC (DC (all_cons Ywu all_nil) all_nil) (fun a h=>Yls a.1 a.2 h)
end Go.Proofs.YtijnglngaogdjaaGreatDoor.PI
namespace Go.Proofs.YtijnglngaogdjaaGreatDoor.PI
open Go Go.WideElems
set_option linter.unusedSimpArgs false
set_option linter.unusedVariables false
def binsD:DataW Unit:=.map [(.int .i64 3,.agg [.iface "func" (.lit (.string [119,97,103,111,110,112,111,111,108,47,109,111,110,101,121,46,65,100,100]))]),(.int .i64 4,.agg [.iface "func" (.lit (.string [119,97,103,111,110,112,111,111,108,47,109,111,110,101,121,46,83,117,98]))]),(.int .i64 5,.agg [.iface "func" (.lit (.string [119,97,103,111,110,112,111,111,108,47,109,111,110,101,121,46,77,117,108]))]),(.int .i64 6,.agg [.iface "func" (.lit (.string [119,97,103,111,110,112,111,111,108,47,116,118,109,46,98,105,110,97,114,105,101,115,36,49]))]),(.int .i64 7,.agg [.iface "func" (.lit (.string [119,97,103,111,110,112,111,111,108,47,116,118,109,46,98,105,110,97,114,105,101,115,36,50]))]),(.int .i64 8,.agg [.iface "func" (.lit (.string [119,97,103,111,110,112,111,111,108,47,116,118,109,46,98,105,110,97,114,105,101,115,36,51]))]),(.int .i64 9,.agg [.iface "func" (.lit (.string [119,97,103,111,110,112,111,111,108,47,116,118,109,46,98,105,110,97,114,105,101,115,36,52]))]),(.int .i64 10,.agg [.iface "func" (.lit (.string [119,97,103,111,110,112,111,111,108,47,116,118,109,46,98,105,110,97,114,105,101,115,36,53]))]),(.int .i64 11,.agg [.iface "func" (.lit (.string [119,97,103,111,110,112,111,111,108,47,116,118,109,46,98,105,110,97,114,105,101,115,36,54]))])]
theorem gB:Tryz.prog.globalNamed "wagonpool/tvm.binaries"=some 0:=by kernel_rfl
theorem tB:(Tryz.prog.globals[0]?).map (·.type)=some 198:=by kernel_rfl
theorem ga:Tryz.prog.underlying 198=some (.map 3 196):=by kernel_rfl
theorem u3:Tryz.prog.underlying 3=some (.int .i64):=by kernel_rfl
def Uo:Option TypeDesc→Bool
 |some (.struct fs)=>match fs.toList with
  |[f]=>f.offset == 0 && f.type == 194
  |_=>false
 |_=>false
def Vi:Option TypeDesc→Bool
 |some (.func _ _ _)=>true
 |_=>false
theorem TW:Uo (Tryz.prog.underlying 196)=true:=by kernel_rfl
theorem TX:Vi (Tryz.prog.underlying 194)=true:=by kernel_rfl
theorem gb:∃ f,Tryz.prog.underlying 196=some (.struct #[f])∧f.offset=0∧f.type=194:=by
 have h:=TW;unfold Uo at h
 split at h
 ·rename_i fs hu
  split at h
  ·rename_i f hf;simp only[Af,beq_iff_eq]at h;have e:fs=#[f]:=Array.ext' hf;subst e;exact⟨f,hu,h.1,h.2⟩
  ·cases h
 ·cases h
theorem VL:Tryz.prog.cellsOf 196=1:=by kernel_rfl
theorem gM:Tryz.prog.cellsOf 194=1:=by kernel_rfl
theorem gd:∃ E rs I,Tryz.prog.underlying 194=some (.func E rs I):=by
 have h:=TX;unfold Vi at h
 split at h
 ·rename_i E rs I hu; exact⟨E,rs,I,hu⟩
 ·cases h
variable {k:Int}{v:Value}
theorem Yux{P:Program}{t:TypeId}{kd:IntKind}(I:P.underlying t=some (.int kd))(h:keyOf P t v=some (.int kd k)):v=.int kd k:=by
 unfold keyOf mapKey at h;rw[I]at h;simp only at h
 split at h
 ·rename_i E; cases E
 ·rename_i E; simp only[AN,TypeDesc.int.injEq]at E; subst E
  split at h
  ·simp only[AN,Lit.int.injEq]at h;rename_i J;rw[← J.1,h.2]
  ·cases h
 ·rename_i E; cases E
 ·cases h
theorem ld(h:keyOf Tryz.prog 3 v=some (.int .i64 k)):v=.int .i64 k:=Yux u3 h
theorem oF{k:Int}{f:Nat}:∀ {l:List (Int×Nat)},Fy k l=some f→k∈l.map (·.1)
 |[],h=>by cases h
 |p::r,h=>by
  unfold Fy at h
  split at h
  ·rename_i e; simp[e]
  ·exact Ar _ (oF h)
set_option maxRecDepth 20000 in
theorem MV{W:World}{n:Nat}{e:MapEntry}{b:UInt8}{r:List UInt8}{f0:FuncId}(N:((CL Tryz.prog.funcs.size).filter fun f=>(Tryz.prog.funcs[f]?).any (·.name.toUTF8.data.toList == b::r))=[f0])
  (h:rd Tryz.prog 3 (elemAt (funcToken Tryz.prog) Tryz.prog W 0 (fun _=>true) true n 196) e=some (.int .i64 k,.agg [.held (b::r)])):e.key=.int .i64 k∧e.val=.agg #[.func (.func f0) #[] #[]]:=by
 constructor
 ·exact ld (rd_key h)
 ·obtain⟨z,J,M⟩:=rd_val h;obtain⟨z1,V⟩:=z;dsimp only at M;subst M;unfold elemAt at J
  split at J
  case isFalse=>cases J
  rename_i E;obtain⟨f,hu,Y,ht⟩:=gb;obtain⟨ps,rs,va,O⟩:=gd
  cases n with
  |zero=>simp[DataW.trod]at J
  |succ n=>
   unfold Value.formed at E;rw[hu,VL]at E
   cases hv:e.val with
   |agg cs=>
    rw[hv]at J E;simp only[beq_iff_eq]at E
    obtain⟨v,rfl⟩:∃ v,cs=#[v]:=by
     obtain⟨l⟩:=cs
     match l,E with
     |[v],_=>exact⟨v,rfl⟩
    have I:DataW.trod (funcToken Tryz.prog) Tryz.prog W 0 (fun _=>true) true (n+1) 196 [v]=some (.agg [.held (b::r)],V):=J;rw[DataW.trod_step]at I;unfold DataW.trodStep at I;rw[hu]at I;simp[VL,Y,ht,gM]at I
    obtain⟨q,hq⟩:∃ q,DataW.trod (funcToken Tryz.prog) Tryz.prog W 0 (fun _=>true) true n 194 [v]=some (.held (b::r),q):=by
     rw[Ay]at I;obtain⟨⟨y1,y2⟩,h1,U⟩:=I;simp at U;exact⟨y2,by rw[h1,U.1]⟩
    rw[func_of_trod O N hq]
   |_=>rw[hv]at E; simp at E
def VW:List (Lit×DataW (List UInt8)):=[(.int .i64 3,.agg [.held [119,97,103,111,110,112,111,111,108,47,109,111,110,101,121,46,65,100,100]]),(.int .i64 4,.agg [.held [119,97,103,111,110,112,111,111,108,47,109,111,110,101,121,46,83,117,98]]),(.int .i64 5,.agg [.held [119,97,103,111,110,112,111,111,108,47,109,111,110,101,121,46,77,117,108]]),(.int .i64 6,.agg [.held [119,97,103,111,110,112,111,111,108,47,116,118,109,46,98,105,110,97,114,105,101,115,36,49]]),(.int .i64 7,.agg [.held [119,97,103,111,110,112,111,111,108,47,116,118,109,46,98,105,110,97,114,105,101,115,36,50]]),(.int .i64 8,.agg [.held [119,97,103,111,110,112,111,111,108,47,116,118,109,46,98,105,110,97,114,105,101,115,36,51]]),(.int .i64 9,.agg [.held [119,97,103,111,110,112,111,111,108,47,116,118,109,46,98,105,110,97,114,105,101,115,36,52]]),(.int .i64 10,.agg [.held [119,97,103,111,110,112,111,111,108,47,116,118,109,46,98,105,110,97,114,105,101,115,36,53]]),(.int .i64 11,.agg [.held [119,97,103,111,110,112,111,111,108,47,116,118,109,46,98,105,110,97,114,105,101,115,36,54]])]
set_option maxRecDepth 20000 in
theorem Yho{W:World}(h:funcsAt Tryz.prog W "wagonpool/tvm.binaries" binsD):∃ b es clock,W.cell? ⟨0,0,none⟩=some (.map (some b))∧W.heap[b]?=some (.map es clock)∧L3 (.map es clock)=true∧cO es EW:=by
 obtain⟨g,t,cs,fuel,p,hg,ht,hv,hd⟩:=h;obtain rfl:=AD (gB.symm.trans hg);obtain rfl:=AD (tB.symm.trans ht);have hd':DataW.trod (funcToken Tryz.prog) Tryz.prog W 0 (fun _=>true) true fuel 198 cs.toList=some (.map VW,p):=hd;rcases open_map ga hd' with⟨_,hx⟩ | ⟨b,es,clock,n,rfl,hcs,hb,_,F,hx⟩
 ·cases hx
 simp only[AA,DataW.map.injEq]at hx
 have mem:∀ y,y∈VW↔y∈es.toList.map (rg Tryz.prog 3 (elemAt (funcToken Tryz.prog) Tryz.prog W 0 (fun _=>true) true n 196)):=fun y=>by
  rw[hx.1]; exact(Go.WideShapes.sorted_perm _).mem_iff
 have ent:∀ e∈es.toList,∃ k f,e.key=.int .i64 k∧e.val=.agg #[.func (.func f) #[] #[]]∧f<5000000∧Fy k EW=some f:=by
  intro e he;obtain⟨y,hy⟩:=F.reads e he;have hm:y∈VW:=(mem y).2 (AV.2 ⟨e,he,rg_of hy⟩);simp only[VW,Aw,AB,or_false]at hm;rcases hm with rfl | rfl | rfl | rfl | rfl | rfl | rfl | rfl | rfl
  ·obtain⟨h1,h2⟩:=MV (f0:=231) (by kernel_rfl) hy; exact⟨_,_,h1,h2,by decide,rfl⟩
  ·obtain⟨h1,h2⟩:=MV (f0:=232) (by kernel_rfl) hy; exact⟨_,_,h1,h2,by decide,rfl⟩
  ·obtain⟨h1,h2⟩:=MV (f0:=233) (by kernel_rfl) hy; exact⟨_,_,h1,h2,by decide,rfl⟩
  ·obtain⟨h1,h2⟩:=MV (f0:=234) (by kernel_rfl) hy; exact⟨_,_,h1,h2,by decide,rfl⟩
  ·obtain⟨h1,h2⟩:=MV (f0:=235) (by kernel_rfl) hy; exact⟨_,_,h1,h2,by decide,rfl⟩
  ·obtain⟨h1,h2⟩:=MV (f0:=236) (by kernel_rfl) hy; exact⟨_,_,h1,h2,by decide,rfl⟩
  ·obtain⟨h1,h2⟩:=MV (f0:=238) (by kernel_rfl) hy; exact⟨_,_,h1,h2,by decide,rfl⟩
  ·obtain⟨h1,h2⟩:=MV (f0:=239) (by kernel_rfl) hy; exact⟨_,_,h1,h2,by decide,rfl⟩
  ·obtain⟨h1,h2⟩:=MV (f0:=240) (by kernel_rfl) hy; exact⟨_,_,h1,h2,by decide,rfl⟩
 have all:∀ k∈EW.map (·.1),∃ e∈es.toList,e.key=.int .i64 k:=by
  intro k hk
  have hkL:∃ d,(Lit.int .i64 k,d)∈VW:=by
   simp only[EW,Ax,Bk,Aw,AB,or_false]at hk;rcases hk with rfl | rfl | rfl | rfl | rfl | rfl | rfl | rfl | rfl
   ·exact⟨_,A7⟩
   ·exact⟨_,Ar _ (A7)⟩
   ·exact⟨_,Ar _ (Ar _ (A7))⟩
   ·exact⟨_,Ar _ (Ar _ (Ar _ (A7)))⟩
   ·exact⟨_,Ar _ (Ar _ (Ar _ (Ar _ (A7))))⟩
   ·exact⟨_,Ar _ (Ar _ (Ar _ (Ar _ (Ar _ (A7)))))⟩
   ·exact⟨_,Ar _ (Ar _ (Ar _ (Ar _ (Ar _ (Ar _ (A7))))))⟩
   ·exact⟨_,Ar _ (Ar _ (Ar _ (Ar _ (Ar _ (Ar _ (Ar _ (A7)))))))⟩
   ·exact⟨_,Ar _ (Ar _ (Ar _ (Ar _ (Ar _ (Ar _ (Ar _ (Ar _ (A7))))))))⟩
  obtain⟨d,hd⟩:=hkL;obtain⟨e,he,hre⟩:=AV.1 ((mem _).1 hd);obtain⟨y,hy⟩:=F.reads e he;obtain⟨k',f,h1,h2,_⟩:=ent e he;rw[rg_of hy]at hre;subst hre;have hk:=ld (rd_key hy);exact⟨e,he,hk⟩
 have hc0:W.cell? ⟨0,0,none⟩=some (.map (some b)):=by
  rw[World.var?_cell hg hv 0];obtain⟨l⟩:=cs;have:l=[.map (some b)]:=hcs;rw[this]; rfl
 have hsp:L3 (.map es clock)=true:=by
  rw[dU];obtain⟨e,he,_⟩:=all 3 (by decide)
  have hlt:0<es.size:=by
   have:=List.length_pos_of_mem he;simpa using this
  rw[BB hlt];obtain⟨k,f,_,h2,_⟩:=ent es[0] (by simp);simp only[h2];rfl
 refine⟨b,es,clock,hc0,hb,hsp,fun e he=>?_,fun k f hf=>?_⟩
 ·exact ent e he
 ·exact all k (oF hf)
theorem globGG{W:World}(hk:Lib.TabIs Tryz.prog W "wagonpool/digest.k" .u32 (Sha.K.map fun x=>(x.toNat:Int)))(gk:Tryz.prog.globalNamed "wagonpool/digest.k"=some 1)(h:funcsAt Tryz.prog W "wagonpool/tvm.binaries" binsD):GlobOK GG W (JP W):=by
 intro n d hd;unfold GG at hd
 split at hd
 ·rename_i e;subst e;simp only[AN]at hd;subst hd;obtain⟨b,es,clock,h1,h2,h3,h4⟩:=Yho h
  have hj:∀ (j:Nat) (d:D),(D.gmap EW).cells[j]?=some d→j=0∧d=.gmap EW:=fun j d hd=>by
   cases j with
   |zero=>exact⟨rfl,(AD hd).symm⟩
   |succ j=>cases hd
  refine .eptr _ 0 _ 0 (fun _=>.map (some b)) (fun j d hd=>?_) (fun j d hd=>?_) (fun j d hd=>?_)
  ·obtain⟨rfl,rfl⟩:=hj j d hd; rfl
  ·obtain⟨rfl,rfl⟩:=hj j d hd;exact⟨by show(W.cell? ⟨_,0,none⟩).isSome=true; rw[h1]; rfl,h1⟩
  ·obtain⟨rfl,rfl⟩:=hj j d hd;exact .gmap _ b es clock h2 h3 h4
 ·exact Ypm hk gk n d hd
end Go.Proofs.YtijnglngaogdjaaGreatDoor.PI
namespace Go.Proofs.YtijnglngaogdjaaGreatDoor.PI
open Go
set_option linter.unusedSimpArgs false
set_option linter.unusedVariables false
theorem Yt7(n:Nat):Df .mul (.int .u64 (n:Int)) (.int .u64 8)=some (qD (CX n*8)):=by
 have e:(n:Int)*8=((n*8:Nat):Int):=by omega
 simp only[Df,if_true,JQ,Ag,e,R8,qD]
 congr 3
 simp
theorem gP:D.int .u8 128=Dd 128:=rfl
theorem b0:D.int .u8 0=Dd 0:=rfl
theorem tA(n:Nat)(σ:List Nat)(x:UInt64):Ef n σ (qD x)=qD x:=rfl
theorem sm(x:UInt64):hk (qD x)=[]:=rfl
variable {α:Type}
theorem yAv(l:List (List α))(i:Nat):(l.take i).flatten.length≤l.flatten.length:=by
 have:l.flatten=(l.take i).flatten++(l.drop i).flatten:=by rw[← List.flatten_append,BA]
 rw[this,Ab];omega
theorem qQ(s:Sha.St8):∀ (i:Nat) (m:List UInt8),Sha.blocks s (i+1) m=Sha.block (Sha.blocks s i m) ((m.drop (64*i)).take 64)
 |0,m=>by simp[Sha.blocks]
 |i+1,m=>by
  rw[Sha.blocks,qQ (Sha.block s (m.take 64)) i (m.drop 64),Sha.blocks,Bq,show 64+64*i=64*(i+1) by omega]
theorem ySw(m:List UInt8):(Sha.padded m).length=m.length+1+Sha.zeros m.length+8∧(Sha.padded m).length % 64=0:=by
 have h:(Sha.padded m).length=m.length+1+Sha.zeros m.length+8:=by
  simp[Sha.padded,Sha.lenB_length]; omega
 refine⟨h,?_⟩;rw[h]; unfold Sha.zeros; omega
def J9(l:List UInt32)(i:Nat):List UInt8:=Sha.outB l i++CH (32 - i) 0
theorem iT(l:List UInt32)(i:Nat)(h:i≤32):(J9 l i).length=32:=by
 simp[J9,Sha.outB_length]; omega
theorem Yf1(l:List UInt32)(i:Nat)(h:i<32):(J9 l i).set i ((l.getD (i / 4) 0 >>> UInt32.ofNat (24 - 8*(i % 4))).toUInt8)=J9 l (i+1):=by
 have E:(Sha.outB l i).length=i:=Sha.outB_length l i;unfold J9;rw[Sha.outB,Cc _ _ (by omega),E,BK,show 32 - i=(32 - (i+1))+1 by omega,BU,Bn,Ah];rfl
def iE(sz key tot off:Nat):D:=if off<tot then .row key tot off (tot - off)else .slc sz [] false
variable {key off sz tot:Nat}
theorem fA(h:off<tot):iE sz key tot off=.row key tot off (tot - off):=if_pos h
theorem nA(h:¬ off<tot):iE sz key tot off=.slc sz [] false:=if_neg h
noncomputable def Y2:List D→Option D:=De (α:=List (List UInt8)) (fun a=>[.slc (nz 1 (a.map KA)) (a.map KA) false]) (fun a=>a.flatten.length≤4294960000∧a.length≤4294960000) (fun a=>C3 (KZ a.flatten))
theorem Yik(E:List (List UInt8))(h:E.flatten.length≤4294960000∧E.length≤4294960000):Y2 [.slc (nz 1 (E.map KA)) (E.map KA) false]=some (C3 (KZ E.flatten)):=
 DX (fun a b h=>by simp only[Aa,D.slc.injEq,Yqy,and_true]at h; simp[h]) (E) h
set_option maxHeartbeats 4000000 in
set_option maxRecDepth 20000 in
theorem TN(I:List (List UInt8))(h:I.flatten.length≤4294960000∧I.length≤4294960000):@wW GG (tb [(159,fh)] []) XE.code (C5 [.slc (nz 1 (I.map KA)) (I.map KA) false]) [] ⟨Dg XE.res (C3 (KZ I.flatten))⟩:=by
 obtain⟨h,ba⟩:=h;generalize hm:I.flatten=m at h;unfold XE;simp only[push_cast,↓reduceIte,CB,Yf8 1]
 refine Gr (fun i:Nat=>[(2,.ptr 0 0),(3,DW 0 1 ((I.take i).flatten.map Dd)),(10,.slc (nz 1 (I.map KA)) (I.map KA) false),(11,.int .i64 (I.length:Int)),(12,.int .i64 (i:Int))])
  (fun i=>⟨false,1,CZ Dp,false⟩::Ds 1 ((I.take i).flatten.map Dd)) (fun i=>i≤I.length) (fun i=>I.length - i) 0 (by simp only[push_cast,↓reduceIte,CB,CI,CG,↓CE] <;> rfl) (by omega) ?_
 intro i hi;unfold jF;simp only[push_cast,↓reduceIte,CB];refine E4 (fun h1=>?_) (fun h1=>?_)
 ·have e:(I.take (i+1)).flatten=(I.take i).flatten++I.getD i default:=by
   rw[yt I i (by omega),List.flatten_append]; simp
  have hl:=yAv I (i+1);rw[e,Ab,hm]at hl;simp (disch:=first|omega|decide) only[push_cast,↓reduceIte,CB,CI,CG,KP,DI];refine E0 (i+1) (by omega) (by omega) ?_;rw[e];simp only[push_cast] <;> rfl
 ·obtain rfl:i=I.length:=by omega
  rw[Bg,hm];have U:(m++[128]).map Dd≠[]:=by simp
  simp (disch:=first|omega|decide) only[push_cast,↓reduceIte,CB,Y8,Yt7,gP,Qk _ _ _ U,OU _ _ U];generalize hq:CX m.length*8=q
  refine Gr (fun j:Nat=>[(2,.ptr 0 0),(3,.row 1 (m++[128]++CH j 0).length 0 (m++[128]++CH j 0).length),(6,qD q)])
   (fun j=>[⟨false,1,CZ Dp,false⟩,⟨true,1,(m++[128]++CH j 0).map Dd,false⟩]) (fun j=>j≤Sha.zeros m.length) (fun j=>Sha.zeros m.length - j) 0 (by simp only[push_cast,↓reduceIte,CB,CI,CG,CC,List.replicate_zero,Ad] <;> rfl) (by omega) ?_
  intro j hj;have hlen:(m++[128]++CH j 0).length=m.length+1+j:=by simp; omega
  have bb:(m.length+1+Sha.zeros m.length) % 64=56:=by unfold Sha.zeros; omega
  have hz:Sha.zeros m.length<64:=by unfold Sha.zeros; omega
  unfold jG;simp (disch:=first|omega|decide) only[push_cast,↓reduceIte,CB,sn];refine E4 (fun h2=>?_) (fun h2=>?_)
  ·obtain rfl:j=Sha.zeros m.length:=by
    unfold Sha.zeros at hj ⊢; omega
   simp only[push_cast,↓reduceIte,CC];have V:(m++[128]++CH (Sha.zeros m.length) 0)=(m++[128]++CH (Sha.zeros m.length) 0)++Sha.lenB q 0:=(Ad _).symm;generalize hM:m++[128]++CH (Sha.zeros m.length) 0=M at hlen V h2
   refine Gr (fun j:Nat=>[(2,.ptr 0 0),(3,.row 1 (M++Sha.lenB q j).length 0 (M++Sha.lenB q j).length),(6,qD q),(7,.int .i64 (56 - 8*(j:Int)))])
    (fun j=>[⟨false,1,CZ Dp,false⟩,⟨true,1,(M++Sha.lenB q j).map Dd,false⟩]) (fun j=>j≤8) (fun j=>8 - j) 0 (by rw[← V]; simp only[push_cast,↓reduceIte,CB,CI,CG,CC,CY,CT,↓CE] <;> rfl) (by omega) ?_
   intro j hj;have Y:(M++Sha.lenB q j).length=M.length+j:=by rw[Ab,Sha.lenB_length]
   unfold jH;simp only[push_cast,↓reduceIte,CB];refine E4 (fun O=>?_) (fun O=>?_)
   ·have e:(56 - 8*(j:Int)).toNat=56 - 8*j:=by omega
    have e2:M++Sha.lenB q (j+1)=(M++Sha.lenB q j)++[(q >>> CX (56 - 8*j)).toUInt8]:=by rw[Sha.lenB,Ah]
    simp (disch:=first|omega|decide) only[push_cast,↓reduceIte,CB,CI,CG,CC,Yti,Yp8,e,Fc];refine E0 (j+1) (by omega) (by omega) ?_;rw[e2];have e4:(56 - 8*(j:Int) - 8)=56 - 8*((j+1:Nat):Int):=by omega
    simp only[push_cast,tA,sm,e4] <;> rfl
   ·obtain rfl:j=8:=by omega
    have hP:M++Sha.lenB q 8=Sha.padded m:=by rw[← hM,← hq]; rfl
    rw[hP];rw[hP]at Y;obtain⟨ad,ae⟩:=ySw m;have af:KZ m=⟨Sha.outB (Sha.blocks Sha.H0 ((Sha.padded m).length / 64) (Sha.padded m)).list 32,Sha.outB_length _ 32⟩:=rfl;rw[af];generalize Sha.padded m=E at Y ad ae;have hH:Sha.H0.list.length=8:=rfl;have bc:(zW 8).length=8:=rfl;simp (disch:=omega) only[push_cast,↓reduceIte,CB,CC,Int.reduceLE,CD,CY,CT,↓CE,Yv2]
    refine Gr (fun j:Nat=>[(2,.ptr 0 0),(3,iE 1 1 E.length (64*j)),(8,.ptr 2 0)])
     (fun j=>[⟨false,1,CZ Dp,false⟩,⟨true,1,E.map Dd,false⟩,⟨false,1,(Sha.blocks Sha.H0 j E).list.map wD,false⟩]) (fun j=>j≤E.length / 64) (fun j=>E.length / 64 - j) 0 (by rw[fA (by omega)]; simp only[push_cast,↓reduceIte,CB,CI,CG,CC,CF,CD] <;> rfl) (by omega) ?_
    intro j hj;unfold jI;rcases A6 (64*j) E.length with h4 | h4
    ·have bd:((E.drop (64*j)).take 64).length=64:=by simp; omega
     have N:=qQ Sha.H0 j E;generalize Sha.blocks Sha.H0 j E=J at N;have a0:J.list.length=8:=rfl;have be:(Sha.block J ((E.drop (64*j)).take 64)).list.length=8:=rfl;have c1:((0:Int)<((E.length - 64*j:Nat):Int)):=by omega
     have c2:((0:Int)<(E.length:Int) - 64*(j:Int)):=by omega
     have c3:¬ (64=E.length - 64*j)∨E.length - 64*j=64:=by omega
     rw[fA h4]
     by_cases h5:E.length - 64*j=64
     ·simp (disch:=omega) only[push_cast,↓reduceIte,CB,CI,CG,CC,CM,CN,↓CE,lL,pC,h5];refine E0 (j+1) (by omega) (by omega) ?_;rw[nA (by omega),N]
     ·have h6:¬ 64=E.length - 64*j:=fun e=>h5 e.symm;simp (disch:=omega) only[push_cast,↓reduceIte,CB,CI,CG,CC,Nat.reduceSub,CN,↓CE,c2,lL,pC,h6];refine E0 (j+1) (by omega) (by omega) ?_;rw[fA (by omega),N];simp only[Nat.mul_add,BL,Nat.sub_sub]
    ·obtain rfl:j=E.length / 64:=by omega
     rw[nA (by omega)];generalize Sha.blocks Sha.H0 (E.length / 64) E=J;have a0:J.list.length=8:=rfl;simp only[push_cast,↓reduceIte,CB,CC,CM]
     refine Gr (fun j:Nat=>[(2,.ptr 0 0),(8,.ptr 2 0),(55,.int .i64 (j:Int))])
      (fun j=>[⟨false,1,(J9 J.list j).map Dd,false⟩,⟨true,1,E.map Dd,false⟩,⟨false,1,J.list.map wD,false⟩]) (fun j=>j≤32) (fun j=>32 - j) 0 (by simp only[push_cast,↓reduceIte,CB,CI,CG,CC,↓CE] <;> rfl) (by omega) ?_
     intro j hj;unfold jJ;simp only[push_cast,↓reduceIte,CB];refine E4 (fun h6=>?_) (fun h6=>?_)
     ·have a2:=iT J.list j (by omega);have a3:=Yf1 J.list j (by omega);have e1:((j:Int) / 4).toNat=j / 4:=by omega
      have e2:(24 - 8*((j:Int) % 4)).toNat=24 - 8*(j % 4):=by omega
      simp (disch:=omega) only[push_cast,↓reduceIte,CB,CI,CG,CC,Uz,sn,MD,Fc,DI,N5,tD,Yp7,e1,e2];refine E0 (j+1) (by omega) (by omega) ?_;rw[← a3];simp only[push_cast] <;> rfl
     ·obtain rfl:j=32:=by omega
      have a2:=iT J.list 32 (by omega);simp (disch:=omega) only[push_cast,↓reduceIte,CB,CC,CM,↓CE];rw[show J9 J.list 32=Sha.outB J.list 32 from Ad _];rfl
  ·simp (disch:=first|omega|decide) only[push_cast,↓reduceIte,CB,CI,CG,CC,b0]
   have h9:j<Sha.zeros m.length:=by
    rcases A6 j (Sha.zeros m.length)with O | O
    ·exact O
    ·exfalso;obtain rfl:j=Sha.zeros m.length:=by omega
     omega
   refine E0 (j+1) (by omega) (by omega) ?_
   have e:m++[128]++CH (j+1) 0=(m++[128]++CH j 0)++[0]:=by
    rw[List.replicate_succ',Ah,Ah,Ah]
   rw[e];simp only[push_cast,tA,sm] <;> rfl
theorem VE:Contract Tryz.prog GG 116 Y2:=
 Eb yEd (DC (all_cons Yqv all_nil) all_nil) (fun a h=>TN a h)
noncomputable def QS:List D→Option D:=De (α:=List UInt8×List UInt8) (fun a=>[.str a.1,.slc (nz 1 (a.2.map Dd)) (a.2.map Dd) false]) (fun a=>a.1.length+a.2.length≤4294900000) (fun a=>C3 (Qs a.1 a.2))
theorem bD(t:List UInt8)(b:List UInt8)(h:t.length+b.length≤4294900000):QS [.str t,.slc (nz 1 (b.map Dd)) (b.map Dd) false]=some (C3 (Qs t b)):=
 DX (fun⟨a0,a1⟩ ⟨b0,b1⟩ h=>by simp only[Aa,D.slc.injEq,D.str.injEq,nM,and_true]at h; simp[h]) (t,b) h
theorem Yby(x:UInt8)(t b:List UInt8)(h:t.length+b.length≤4294950000) :
  Y2 [.slc 1 [.slc 1 [Dd x] false,.slc (nz 1 (t.map Dd)) (t.map Dd) false,.slc (nz 1 (b.map Dd)) (b.map Dd) false] false]=some (C3 (KZ (x::(t++b)))):=by
 have:=Yik [[x],t,b] ⟨by simp; omega,by simp⟩;rw[show([[x],t,b]:List (List UInt8)).flatten=x::(t++b) by simp]at this;exact this
set_option maxHeartbeats 4000000 in
set_option maxRecDepth 20000 in
theorem Ydj(t:List UInt8)(b:List UInt8)(h:t.length+b.length≤4294900000):@wW GG (tb [(116,Y2)] []) Ya.code (C5 [.str t,.slc (nz 1 (b.map Dd)) (b.map Dd) false]) [] ⟨Dg Ya.res (C3 (Qs t b))⟩:=by
 unfold Ya;have I:(min (t.length:Int) 255).toNat=min t.length 255:=by omega
 have J:t.take (min t.length 255)=t.take 255:=by
  rcases Nat.le_total t.length 255 with E | E
  ·rw[B4 E,Bg,AS E]
  ·rw[Nat.min_eq_right E]
 have hl:(t.take 255).length≤255:=by simp; omega
 have M:(t.take 255).length≤t.length:=by simp; omega
 simp (disch:=omega) only[push_cast,↓reduceIte,CB,ySd,I,J,Ms,Yby];rfl
theorem eL:Contract Tryz.prog GG 62 QS:=
 Eb uO (DC (all_cons VE all_nil) all_nil) (fun a h=>Ydj a.1 a.2 h)
set_option maxHeartbeats 8000000
set_option maxRecDepth 20000
def nI(n:Int):D:=.int .i64 n
variable {a b:Int}
theorem Yt5:nI a=nI b↔a=b:=by simp[nI]
theorem QH{a b:List Int}:a.map nI=b.map nI↔a=b:=⟨N0 fun _ _=>Yt5.1,fun h=>by rw[h]⟩
theorem iG(n:Int):IntKind.wrap .u64 n=n % 18446744073709551616:=rfl
theorem fB{n:Int}(E:0≤n)(I:n<18446744073709551616):IntKind.wrap .u64 n=n:=by rw[iG]; omega
theorem VU(E:0≤a+b)(I:a+b<18446744073709551616):Df .add (.int .u64 a) (.int .u64 b)=some (.int .u64 (a+b)):=by
 simp only[Df,if_true,JQ,Ag,fB E I]
theorem UL(E:0≤a*b)(I:a*b<18446744073709551616):Df .mul (.int .u64 a) (.int .u64 b)=some (.int .u64 (a*b)):=by
 simp only[Df,if_true,JQ,Ag,fB E I]
theorem Yt6(a b:Int):Df .mul (.int .u64 a) (.int .u64 b)=some (.int .u64 ((a*b) % 18446744073709551616)):=by
 rfl
theorem yHy(E:0≤a)(I:a<18446744073709551616):(CJ 64 a).toNat=a.toNat:=by
 grind
theorem Yjr(E:0≤a)(I:a<18446744073709551616):Df .and (.int .u64 a) (.int .u64 4294967295)=some (.int .u64 (a % 4294967296)):=by
 have h:(CJ (IntKind.bits .u64) a &&& CJ (IntKind.bits .u64) 4294967295).toNat=(a % 4294967296).toNat:=by
  show(CJ 64 a &&& CJ 64 4294967295).toNat=_
  rw[Cx,yHy E I,show(CJ 64 4294967295).toNat=2 ^ 32 - 1 from rfl,BE];omega
 simp only[Df,if_true,Kk,Ag,h];rw[fB (by omega) (by omega)]
 congr 2
 omega
theorem Wp(I:0≤a)(hb:0≤b)(E:a≤4294967295)(J:b≤4294967295):0≤a*b∧a*b≤18446744065119617025:=by
 refine⟨Int.mul_nonneg I hb,?_⟩;have M:a*b≤4294967295*b:=Cd E hb;omega
theorem mul4(a b c d:Int):a*b*(c*d)=a*c*(b*d):=by rw[Int.mul_assoc,Int.mul_left_comm b,← Int.mul_assoc]
theorem wR(x y:Int):x*y=(x / 4294967296)*(y / 4294967296)*18446744073709551616+((x / 4294967296)*(y % 4294967296)+(x % 4294967296)*(y / 4294967296))*4294967296+(x % 4294967296)*(y % 4294967296):=by
 have E:x=(x / 4294967296)*4294967296+x % 4294967296:=(Ce x 4294967296).symm;have I:y=(y / 4294967296)*4294967296+y % 4294967296:=(Ce y 4294967296).symm
 conv=>lhs; rw[E,I]
 grind
noncomputable def Zv:List D→Option D:=De (α:=Int×Int) (fun a=>[.int .u64 a.1,.int .u64 a.2]) (fun a=>0≤a.1∧a.1<18446744073709551616∧0≤a.2∧a.2<18446744073709551616) (fun a=>.tup [.int .u64 (a.1*a.2 / 18446744073709551616),.int .u64 (a.1*a.2 % 18446744073709551616)])
theorem nN(x:Int)(y:Int)(h:0≤x∧x<18446744073709551616∧0≤y∧y<18446744073709551616):Zv [.int .u64 x,.int .u64 y]=some (.tup [.int .u64 (x*y / 18446744073709551616),.int .u64 (x*y % 18446744073709551616)]):=
 DX (fun⟨a0,a1⟩ ⟨b0,b1⟩ h=>by simp only[Aa,D.int.injEq,true_and,and_true]at h; simp[h]) (x,y) h
theorem Ysm(x:Int)(y:Int)(h:0≤x∧x<18446744073709551616∧0≤y∧y<18446744073709551616):@wW GG (tb [] []) Ym.code (C5 [.int .u64 x,.int .u64 y]) [] ⟨Dg Ym.res (.tup [.int .u64 (x*y / 18446744073709551616),.int .u64 (x*y % 18446744073709551616)])⟩:=by
 obtain⟨I,J,M,N⟩:=h;have e:=wR x y;have ha:=Wp (a:=x / 4294967296) (b:=y / 4294967296) (by omega) (by omega) (by omega) (by omega);have hb:=Wp (a:=x / 4294967296) (b:=y % 4294967296) (by omega) (by omega) (by omega) (by omega);have hc:=Wp (a:=x % 4294967296) (b:=y / 4294967296) (by omega) (by omega) (by omega) (by omega);have O:=Wp (a:=x % 4294967296) (b:=y % 4294967296) (by omega) (by omega) (by omega) (by omega);unfold Ym;simp (disch:=omega) only[push_cast,↓reduceIte,CB,CN,CS,Yjr,ME,UL,VU,Yt6 x y];rw[e];generalize (x / 4294967296)*(y / 4294967296)=a at*;generalize (x / 4294967296)*(y % 4294967296)=b at*;generalize (x % 4294967296)*(y / 4294967296)=c at*;generalize (x % 4294967296)*(y % 4294967296)=d at*;have E:a+(b+d / 4294967296) / 4294967296+((b+d / 4294967296) % 4294967296+c) / 4294967296=(a*18446744073709551616+(b+c)*4294967296+d) / 18446744073709551616:=by omega
 rw[E]
theorem sG:Contract Tryz.prog GG 169 Zv:=
 Eb ve (DC all_nil all_nil) (fun a h=>Ysm a.1 a.2 h)
def Fv(x:Int):Bool:=decide (-9007199254740992≤x) && decide (x≤9007199254740992)
theorem ON{x:Int}:Fv x=true↔-9007199254740992≤x∧x≤9007199254740992:=by simp[Fv]
theorem kW{x:Int}:Fv x=false↔x < -9007199254740992∨9007199254740992<x:=by
 rw[← Bool.not_eq_true,ON]; omega
variable {i:Nat}
theorem Yh8{l:List Int}(h:i<l.length):(l.drop i).all Fv=(Fv (l.getD i default) && (l.drop (i+1)).all Fv):=by
 rw[Bf h,A3];grind
noncomputable def M0:List D→Option D:=De (α:=List Int) (fun a=>[.slc (nz 1 (a.map nI)) (a.map nI) false]) (fun a=>a.length≤65536) (fun a=>.bool (a.all Fv))
theorem nO(l:List Int)(h:l.length≤65536):M0 [.slc (nz 1 (l.map nI)) (l.map nI) false]=some (.bool (l.all Fv)):=
 DX (fun a b h=>by simp only[Aa,D.slc.injEq,and_true,QH]at h; simp[h]) (l) h
theorem Ysd(l:List Int)(h:l.length≤65536):@wW GG (tb [] []) WV.code (C5 [.slc (nz 1 (l.map nI)) (l.map nI) false]) [] ⟨Dg WV.res (.bool (l.all Fv))⟩:=by
 unfold WV;simp (disch:=first|omega|decide) only[push_cast,↓reduceIte,CB];refine Gr (fun i:Nat=>[(5,.slc (nz 1 (l.map nI)) (l.map nI) false),(6,.int .i64 (l.length:Int)),(7,.int .i64 (i:Int))]) (fun _=>[]) (fun i=>i≤l.length∧l.all Fv=(l.drop i).all Fv) (fun i=>l.length - i) 0 (by simp only[push_cast,↓reduceIte,CB,↓CE] <;> rfl) ⟨Bd _,rfl⟩ ?_;rintro i ⟨hi,E⟩;unfold jv;simp (disch:=first|omega|decide) only[push_cast,↓reduceIte,CB,CD];refine E4 (fun U=>?_) (fun U=>?_)
 ·have O:i<l.length:=by omega
  rw[Yh8 O]at E
  have I:∀ st:St,F2 st 1 (.slc (nz 1 (l.map nI)) (l.map nI) false) (.int .i64 (i:Int))=some (.eptr (nI (l.getD i default)) 0):=fun st=>by
   have:=KP st 1 nI l false .i64 (i:Int) (by omega) (by omega);grind
  generalize l.getD i default=x at*
  cases J:Fv x with
  |true=>
   obtain⟨V,Y⟩:=ON.1 J;rw[J,Bp]at E;have M:¬ (x < -9007199254740992):=by omega
   have N:¬ (9007199254740992<x):=by omega
   simp (disch:=first|omega|decide) only[push_cast,↓reduceIte,CB,CD,I,nI,M,N,DI];refine E0 (i+1) (by exact⟨by omega,E⟩) (by omega) ?_;rfl
  |false=>
   rw[J,Bool.false_and]at E
   by_cases M:x < -9007199254740992
   ·simp (disch:=first|omega|decide) only[push_cast,↓reduceIte,CB,CD,I,nI,M,E]
   ·have N:9007199254740992<x:=by have:=kW.1 J; omega
    simp (disch:=first|omega|decide) only[push_cast,↓reduceIte,CB,CD,I,nI,M,N,E]
 ·obtain rfl:i=l.length:=by omega
  rw[Ba]at E;simp (disch:=first|omega|decide) only[push_cast,↓reduceIte,CD,E,CA]
theorem Tg:Contract Tryz.prog GG 241 M0:=
 Eb yLl (DC all_nil all_nil) (fun a h=>Ysd a h)
def Kz(c:Int):Int×Int:=if Fv c then(c,0)else(0,3)
theorem Fu(a:Int):E2 1 [.int .i64 a]=some (.slc 1 [.int .i64 a] true):=(rfl)
theorem Ge(a b:Int):E2 1 [.int .i64 a,.int .i64 b]=some (.slc 1 [.int .i64 a,.int .i64 b] true):=(rfl)
theorem ZH:((9:Int)=8)=False:=by decide
theorem NJ:((10:Int)=8)=False:=by decide
theorem NI:((10:Int)=9)=False:=by decide
theorem VA:((8:Int)=10)=False:=by decide
theorem Vz:((9:Int)=10)=False:=by decide
theorem Yis(a:Int):M0 [.slc 1 [.int .i64 a] false]=some (.bool (Fv a)):=by
 have:=nO [a] (by simp);simpa[nI,nz]using this
theorem V6(a b:Int):M0 [.slc 1 [.int .i64 a,.int .i64 b] false]=some (.bool (Fv a && Fv b)):=by
 have:=nO [a,b] (by simp);simpa[nI,nz]using this
noncomputable def Zr:List D→Option D:=De (α:=Int) (fun a=>[.int .i64 a]) (fun a=>True) (fun a=>.tup [.int .i64 (Kz a).1,.int .i64 (Kz a).2])
theorem nP(c:Int):Zr [.int .i64 c]=some (.tup [.int .i64 (Kz c).1,.int .i64 (Kz c).2]):=
 DX (fun a b h=>by simp only[Aa,D.int.injEq,true_and,and_true]at h; simp[h]) (c) trivial
theorem Ysc(c:Int):@wW GG (tb [(241,M0)] []) XZ.code (C5 [.int .i64 c]) [] ⟨Dg XZ.res (.tup [.int .i64 (Kz c).1,.int .i64 (Kz c).2])⟩:=by
 unfold XZ Kz;have:=Yis c;cases hc:Fv c <;> rw[hc]at this <;> simp (disch:=first|omega|decide) only[push_cast,↓reduceIte,CB,Fu,this]
theorem sH:Contract Tryz.prog GG 242 Zr:=
 Eb uE (DC (all_cons Tg all_nil) all_nil) (fun a h=>Ysc a)
def Hs(a b:Int):Int×Int:=if Fv a && Fv b then Kz (a+b)else(0,3)
def Hj(a b:Int):Int×Int:=if Fv a && Fv b then Kz (a - b)else(0,3)
noncomputable def We:List D→Option D:=De (α:=Int×Int) (fun a=>[.int .i64 a.1,.int .i64 a.2]) (fun a=>True) (fun a=>.tup [.int .i64 (Hs a.1 a.2).1,.int .i64 (Hs a.1 a.2).2])
theorem yQ(a:Int)(b:Int):We [.int .i64 a,.int .i64 b]=some (.tup [.int .i64 (Hs a b).1,.int .i64 (Hs a b).2]):=
 DX (fun⟨a0,a1⟩ ⟨b0,b1⟩ h=>by simp only[Aa,D.int.injEq,true_and,and_true]at h; simp[h]) (a,b) trivial
theorem Yli(a:Int)(b:Int):@wW GG (tb [(241,M0),(242,Zr)] []) Xe.code (C5 [.int .i64 a,.int .i64 b]) [] ⟨Dg Xe.res (.tup [.int .i64 (Hs a b).1,.int .i64 (Hs a b).2])⟩:=by
 unfold Xe Hs;have E:=V6 a b;have I:=nP (a+b)
 cases hc:Fv a && Fv b with
 |false=>rw[hc]at E; simp (disch:=first|omega|decide) only[push_cast,↓reduceIte,CB,Ge,E]
 |true=>
  rw[hc]at E;simp only[Af,ON]at hc;simp (disch:=first|omega|decide) only[push_cast,↓reduceIte,CB,Ge,E,I,DI]
theorem Yqq:Contract Tryz.prog GG 231 We:=
 Eb yHx (DC (all_cons Tg (all_cons sH all_nil)) all_nil) (fun a h=>Yli a.1 a.2)
noncomputable def Wg:List D→Option D:=De (α:=Int×Int) (fun a=>[.int .i64 a.1,.int .i64 a.2]) (fun a=>True) (fun a=>.tup [.int .i64 (Hj a.1 a.2).1,.int .i64 (Hj a.1 a.2).2])
theorem yS(a:Int)(b:Int):Wg [.int .i64 a,.int .i64 b]=some (.tup [.int .i64 (Hj a b).1,.int .i64 (Hj a b).2]):=
 DX (fun⟨a0,a1⟩ ⟨b0,b1⟩ h=>by simp only[Aa,D.int.injEq,true_and,and_true]at h; simp[h]) (a,b) trivial
theorem Ylf(a:Int)(b:Int):@wW GG (tb [(241,M0),(242,Zr)] []) Xh.code (C5 [.int .i64 a,.int .i64 b]) [] ⟨Dg Xh.res (.tup [.int .i64 (Hj a b).1,.int .i64 (Hj a b).2])⟩:=by
 unfold Xh Hj;have E:=V6 a b;have I:=nP (a - b)
 cases hc:Fv a && Fv b with
 |false=>rw[hc]at E; simp (disch:=first|omega|decide) only[push_cast,↓reduceIte,CB,Ge,E]
 |true=>
  rw[hc]at E;simp only[Af,ON]at hc;simp (disch:=first|omega|decide) only[push_cast,↓reduceIte,CB,Ge,E,I,Fc]
theorem Yqo:Contract Tryz.prog GG 232 Wg:=
 Eb yHu (DC (all_cons Tg (all_cons sH all_nil)) all_nil) (fun a h=>Ylf a.1 a.2)
theorem UJ(E:0<a)(I:a<18446744073709551616):L7 .neg (.int .u64 a)=some (.int .u64 (18446744073709551616 - a)):=by
 have e:(0 - a) % 18446744073709551616=18446744073709551616 - a:=by omega
 simp only[L7,iG,e]
theorem V9(st:St):E7 st (.int .u64) (.int .i64 a)=some (.int .u64 (a % 18446744073709551616)):=by
 rfl
noncomputable def R3:List D→Option D:=De (α:=Int) (fun a=>[.int .i64 a]) (fun a=>Fv a=true) (fun a=>.int .u64 (if a<0 then -a else a))
theorem pD(a:Int)(h:Fv a=true):R3 [.int .i64 a]=some (.int .u64 (if a<0 then -a else a)):=
 DX (fun a b h=>by simp only[Aa,D.int.injEq,true_and,and_true]at h; simp[h]) (a) h
theorem Ylj(a:Int)(h:Fv a=true):@wW GG (tb [] []) Xi.code (C5 [.int .i64 a]) [] ⟨Dg Xi.res (.int .u64 (if a<0 then -a else a))⟩:=by
 obtain⟨M,N⟩:=ON.1 h;unfold Xi
 by_cases E:a<0
 ·have I:(a % 18446744073709551616)=18446744073709551616+a:=by omega
  have J:18446744073709551616 - (18446744073709551616+a)=-a:=by omega
  simp (disch:=first|omega|decide) only[push_cast,↓reduceIte,CB,E,V9,I,UJ,J]
 ·simp (disch:=first|omega|decide) only[push_cast,↓reduceIte,CB,E,Y8]
theorem Yqr:Contract Tryz.prog GG 243 R3:=
 Eb yHt (DC all_nil all_nil) (fun a h=>Ylj a h)
def Ht(a:Int):Int:=if a<0 then -a else a
def Hm(a b:Int):Int×Int:=if Fv a && Fv b then Kz (a*b)else(0,3)
theorem Yxh(a b:Int):Ht a*Ht b=Ht (a*b):=by
 unfold Ht;rcases Int.lt_or_le a 0 with E | E <;> rcases Int.lt_or_le b 0 with I | I
 ·have:=Int.mul_pos_of_neg_of_neg E I;grind
 ·have:=Int.mul_nonpos_of_nonpos_of_nonneg (Int.le_of_lt E) I;rw[if_pos E,if_neg (by omega),Int.neg_mul];omega
 ·have:=Int.mul_nonpos_of_nonneg_of_nonpos E (Int.le_of_lt I);rw[if_neg (by omega),if_pos I,Int.mul_neg];omega
 ·have:=Int.mul_nonneg E I;grind
theorem gT(h:Fv a=true):0≤Ht a∧Ht a≤9007199254740992:=by
 have:=ON.1 h;unfold Ht; split <;> omega
theorem VV(a:Int):Fv a=decide (Ht a≤9007199254740992):=by
 cases h:Fv a with
 |true=>simp[(gT h).2]
 |false=>
  have:=kW.1 h
  symm
  rw[decide_eq_false_iff_not];unfold Ht; split <;> omega
noncomputable def Wf:List D→Option D:=De (α:=Int×Int) (fun a=>[.int .i64 a.1,.int .i64 a.2]) (fun a=>True) (fun a=>.tup [.int .i64 (Hm a.1 a.2).1,.int .i64 (Hm a.1 a.2).2])
theorem yR(a:Int)(b:Int):Wf [.int .i64 a,.int .i64 b]=some (.tup [.int .i64 (Hm a b).1,.int .i64 (Hm a b).2]):=
 DX (fun⟨a0,a1⟩ ⟨b0,b1⟩ h=>by simp only[Aa,D.int.injEq,true_and,and_true]at h; simp[h]) (a,b) trivial
theorem Ylg(a:Int)(b:Int):@wW GG (tb [(241,M0),(243,R3),(169,Zv)] []) Xg.code (C5 [.int .i64 a,.int .i64 b]) [] ⟨Dg Xg.res (.tup [.int .i64 (Hm a b).1,.int .i64 (Hm a b).2])⟩:=by
 unfold Xg Hm;have E:=V6 a b
 cases hc:Fv a && Fv b with
 |false=>rw[hc]at E; simp (disch:=first|omega|decide) only[push_cast,↓reduceIte,CB,Ge,E]
 |true=>
  rw[hc]at E;simp only[Af]at hc;have c1:R3 [.int .i64 a]=some (.int .u64 (Ht a)):=pD a hc.1;have M:R3 [.int .i64 b]=some (.int .u64 (Ht b)):=pD b hc.2;have l1:=gT hc.1;have N:=gT hc.2;have J:=nN (Ht a) (Ht b) (by omega);have e:=Yxh a b;have Y:=VV (a*b);have hn:0≤Ht a*Ht b:=Int.mul_nonneg l1.1 N.1;have hb:Ht a*Ht b≤9007199254740992*9007199254740992:=Int.le_trans (Cd l1.2 N.1) (by omega);rw[e]at J hn hb
  have hm:Ht (a*b)≤9007199254740992→-9007199254740992≤a*b∧a*b≤9007199254740992:=fun h=>by
   unfold Ht at h; split at h <;> omega
  have hmul:-9007199254740992≤a*b→a*b≤9007199254740992→Df .mul (.int .i64 a) (.int .i64 b)=some (.int .i64 (a*b)):=fun h1 E=>MD (by omega) (by omega);unfold Kz;rw[Y];generalize a*b=m at*;generalize Ht m=z at*
  by_cases O:z / 18446744073709551616=0
  ·have h9:z % 18446744073709551616=z:=by omega
   rw[O,h9]at J
   by_cases U:9007199254740992<z
   ·have I:¬ z≤9007199254740992:=by omega
    simp (disch:=first|omega|decide) only[push_cast,↓reduceIte,CB,Ge,E,c1,M,J,U,I]
   ·have I:z≤9007199254740992:=by omega
    have V:=hm I;have c4:Df .mul (.int .i64 a) (.int .i64 b)=some (.int .i64 m):=hmul V.1 V.2;simp (disch:=first|omega|decide) only[push_cast,↓reduceIte,CB,Ge,E,c1,M,J,U,I,c4]
  ·have I:¬ z≤9007199254740992:=by omega
   simp (disch:=first|omega|decide) only[push_cast,↓reduceIte,CB,Ge,E,c1,M,J,O,I]
theorem Yqp:Contract Tryz.prog GG 233 Wf:=
 Eb yHv (DC (all_cons Tg (all_cons Yqr (all_cons sG all_nil))) all_nil) (fun a h=>Ylg a.1 a.2)
theorem Ymf(a:Int)(hb:0<b):-(Ht a)≤a.tdiv b∧a.tdiv b≤Ht a:=by
 unfold Ht;rcases Int.lt_or_le a 0 with h | h
 ·have e:a.tdiv b=-((-a) / b):=by
   rw[← BN (by omega),Int.neg_tdiv,Int.neg_neg]
  have E:=Cg b (show 0≤-a by omega);have I:=Cl (show 0≤-a by omega) (show 0≤b by omega);omega
 ·have e:a.tdiv b=a / b:=BN h;have E:=Cg b h;have I:=Cl h (show 0≤b by omega);omega
theorem Q9(hb:0<b)(E:-9223372036854775808<a)(I:a<9223372036854775808):Df .quo (.int .i64 a) (.int .i64 b)=some (.int .i64 (a.tdiv b)):=by
 have J:=Ymf a hb;have M:Ht a<9223372036854775808:=by unfold Ht; split <;> omega
 simp only[Df,if_true,JQ,show ¬ b=0 by omega,if_false,Ag,N4 (show -9223372036854775808≤a.tdiv b by omega) (show a.tdiv b<9223372036854775808 by omega)]
theorem Ra(hb:0<b):Df .rem (.int .i64 a) (.int .i64 b)=some (.int .i64 (a.tmod b)):=by
 simp only[Df,if_true,JQ,show ¬ b=0 by omega,if_false,Ag]
def gH(a b:Int):Int:=(if a.tmod b<0 then a - b else a).tdiv b
def rp(a b:Int):Int:=(if 0<a.tmod b then a+b else a).tdiv b
def Eh(a b m:Int):Int×Int:=if Fv a && Fv b then(if b≤0 then(0,70)else(if m=10 then gH (2*a+b) (2*b)else if m=8 then gH a b else rp a b,0))else(0,3)
noncomputable def R4:List D→Option D:=De (α:=Int×Int×Int) (fun a=>[.int .i64 a.1,.int .i64 a.2.1,.int .i64 a.2.2]) (fun a=>a.2.2=8∨a.2.2=9∨a.2.2=10) (fun a=>.tup [.int .i64 (Eh a.1 a.2.1 a.2.2).1,.int .i64 (Eh a.1 a.2.1 a.2.2).2])
theorem aI(a:Int)(b:Int)(m:Int)(h:m=8∨m=9∨m=10):R4 [.int .i64 a,.int .i64 b,.int .i64 m]=some (.tup [.int .i64 (Eh a b m).1,.int .i64 (Eh a b m).2]):=
 DX (fun⟨a0,a1,E⟩ ⟨b0,b1,I⟩ h=>by simp only[Aa,D.int.injEq,true_and,and_true]at h; simp[h]) (a,b,m) h
theorem Ylh(a:Int)(b:Int)(m:Int)(h:m=8∨m=9∨m=10):@wW GG (tb [(241,M0)] []) Xf.code (C5 [.int .i64 a,.int .i64 b,.int .i64 m]) [] ⟨Dg Xf.res (.tup [.int .i64 (Eh a b m).1,.int .i64 (Eh a b m).2])⟩:=by
 unfold Xf Eh;have E:=V6 a b
 cases hc:Fv a && Fv b with
 |false=>
  rw[hc]at E;rcases h with rfl | rfl | rfl <;> simp (disch:=first|omega|decide) only[push_cast,↓reduceIte,CB,Ge,ZH,NJ,NI,E]
 |true=>
  rw[hc]at E;simp only[Af,ON]at hc;obtain⟨⟨a1,J⟩,b1,M⟩:=hc
  by_cases hb:b≤0
  ·rcases h with rfl | rfl | rfl <;> simp (disch:=first|omega|decide) only[push_cast,↓reduceIte,CB,Ge,ZH,NJ,NI,E,hb]
  ·unfold gH rp;rcases h with rfl | rfl | rfl
   ·by_cases I:a.tmod b<0
    ·simp (disch:=first|omega|decide) only[push_cast,↓reduceIte,CB,Ge,VA,E,hb,Ra,I,Fc,Q9]
    ·simp (disch:=first|omega|decide) only[push_cast,↓reduceIte,CB,Ge,VA,E,hb,Ra,I,Q9]
   ·by_cases I:0<a.tmod b
    ·simp (disch:=first|omega|decide) only[push_cast,↓reduceIte,CB,Ge,ZH,Vz,E,hb,Ra,I,DI,Q9]
    ·simp (disch:=first|omega|decide) only[push_cast,↓reduceIte,CB,Ge,ZH,Vz,E,hb,Ra,I,Q9]
   ·by_cases I:(2*a+b).tmod (2*b)<0
    ·simp (disch:=first|omega|decide) only[push_cast,↓reduceIte,CB,Ge,NJ,NI,E,hb,MD,DI,Ra,I,Fc,Q9]
    ·simp (disch:=first|omega|decide) only[push_cast,↓reduceIte,CB,Ge,NJ,NI,E,hb,MD,DI,Ra,I,Q9]
theorem dk:Contract Tryz.prog GG 237 R4:=
 Eb yHw (DC (all_cons Tg all_nil) all_nil) (fun a h=>Ylh a.1 a.2.1 a.2.2 h)
noncomputable def E1(R:List D→St→D×St→Prop):List D→St→Option (D×St):=fun ds st=>@dite _ (∃ r,R ds st r) (Classical.propDecidable _) (fun h=>some h.choose) (fun _=>none)
variable {r:D×St}{st:St}{ds:List D}
theorem Iw{R:List D→St→D×St→Prop}(h:E1 R ds st=some r):R ds st r:=by
 unfold E1 at h
 split at h
 ·rename_i E;simp only[AN]at h;rw[← h]; exact E.choose_spec
 ·cases h
theorem Ym7{R:List D→St→D×St→Prop}(h:R ds st r)(J:∀ E,R ds st E→E=r):E1 R ds st=some r:=by
 have I:∃ r,R ds st r:=⟨r,h⟩;unfold E1;rw[dif_pos I,J _ I.choose_spec]
def Hv(R:List D→St→D×St→Prop):Prop:=∀ ds st r r',R ds st r→R ds st r'→r=r'
theorem KK{R:List D→St→D×St→Prop}(E:Hv R)(h:R ds st r):E1 R ds st=some r:=Ym7 h fun I J=>E ds st I r J h
def StOK(st:St):Prop:=∀ o∈st,o.row=false→∀ x∈o.els,Ef st.length [] x=x
theorem pb(n:Nat):∀ (l acc:List Nat),ER n n l acc=acc
 |[],acc=>rfl
 |k::r,acc=>by
  rw[ER,if_neg (by omega)];exact pb n r acc
theorem LN{α:Type}{f:α→α}:∀ {l:List α},(∀ x∈l,f x=x)→l.map f=l
 |[],_=>rfl
 |a::l,h=>by rw[Ax,h a (by simp),LN fun x E=>h x (by simp[E])]
theorem lN(h:StOK st):st.map (ES st.length [])=st:=by
 refine LN fun o E=>?_;obtain⟨row,sz,els,lent⟩:=o
 cases row with
 |true=>rfl
 |false=>
  show(⟨false,sz,els.map (Ef st.length []),lent⟩:Obj)=_
  rw[LN (h _ E rfl)]
variable {fr:Frame}{keep:List Nat}
theorem bq(h:StOK st):restrict keep st.length ⟨fr,st⟩=⟨GH (Jf fr st.length [] keep),st⟩:=by
 unfold restrict;simp only[AE,if_true,pb];unfold restrictAt;rw[RR];simp only[picked,Bk,Ad,Bg,lN h]
variable {n:Nat}
theorem So{m:Nat}(f:Nat→D)(I:∀ k,f k≠.junk)(E:n≤m)(h:IL f (EA n [] key)=f key):IL f (EA m [] key)=f key:=by
 unfold EA at h ⊢
 by_cases hk:key<n
 ·rw[if_pos (AY hk E)]; rfl
 ·rw[if_neg hk]at h;exact absurd h.symm (I key)
variable {x:D}
theorem oP{m:Nat}(E:n≤m)(h:Gb n [] x=x):Gb m [] x=x:=by
 cases x with
 |row key tot off len=>exact So (fun k=>.row k tot off len) (fun k e=>by cases e) E h
 |bsl key off j sz ag=>exact So (fun k=>.bsl k off j sz ag) (fun k e=>by cases e) E h
 |ptr key off=>exact So (fun k=>.ptr k off) (fun k e=>by cases e) E h
 |rptr key tot i off=>exact So (fun k=>.rptr k tot i off) (fun k e=>by cases e) E h
 |mapv key=>exact So .mapv (fun k e=>by cases e) E h
 |_=>exact h
theorem Pr{f:D→D}:∀ {l:List D},l.map f=l→∀ x∈l,f x=x
 |[],_,x,E=>by cases E
 |a::l,h,x,E=>by
  simp only[Ax,Aa]at h;rcases Aw.1 E with rfl | E
  ·exact h.1
  ·exact Pr h.2 x E
theorem oQ{m:Nat}(E:n≤m)(h:Ep n [] x=x):Ep m [] x=x:=by
 cases x with
 |clo f l=>
  simp only[Ep,D.clo.injEq,true_and]at h ⊢;exact LN fun y I=>oP E (Pr h y I)
 |_=>unfold Ep at h ⊢; exact oP E h
theorem Ye3{m:Nat}(E:n≤m)(h:Ef n [] x=x):Ef m [] x=x:=by
 cases x with
 |agg l=>
  simp only[Ef,D.agg.injEq]at h ⊢;exact LN fun y I=>oQ E (Pr h y I)
 |tup l=>unfold Ef at h ⊢; exact h
 |_=>unfold Ef at h ⊢; exact oQ E h
theorem StOK.nil:StOK []:=fun _ h=>by cases h
theorem StOK.app(h:StOK st)(l:St)(hl:∀ o∈l,o.row=false→∀ x∈o.els,Ef (st.length+l.length) [] x=x):StOK (st++l):=by
 intro o E I x J;rw[Ab];rcases AK.1 E with E | E
 ·exact Ye3 (Nat.le_add_right _ _) (h o E I x J)
 ·exact hl o E I x J
theorem StOK.set(h:StOK st)(k:Nat)(o:Obj)(M:o.row=false→∀ x∈o.els,Ef st.length [] x=x):StOK (st.set k o):=by
 intro q E I x J;rw[B7];rcases BQ E with E | rfl
 ·exact h q E I x J
 ·exact M I x J
theorem nw(n m:Nat):∀ (l acc:List Nat),(∀ k∈l,k<n)→ER n m l acc=acc
 |[],acc,_=>rfl
 |k::r,acc,h=>by
  have:=h k (by simp);rw[ER,if_neg (by omega)];exact nw n m r acc fun x E=>h x (by simp[E])
theorem yFf{l:St}(h:StOK st)(M:∀ o∈st,o.row=false→∀ x∈o.els,∀ k∈hk x,k<st.length)(V:∀ s∈keep,∀ k∈hk (fr s),k<st.length) :
  restrict keep st.length ⟨fr,st++l⟩=⟨GH (Jf fr st.length [] keep),st⟩:=by
 have hle:st.length≤(st++l).length:=by simp
 have N:(st++l).take st.length=st:=by simp
 unfold restrict;simp only[hle,if_true]
 rw[nw _ _ _ _ (fun k I=>by
  simp only[Tm,N,AK,Bj]at I;rcases I with⟨s,Y,O⟩ | ⟨o,ho,E⟩
  ·exact V s Y k O
  ·cases J:o.row with
   |true=>rw[J]at E; simp at E
   |false=>
    rw[J]at E;simp only[Al,if_false,Bj]at E;obtain⟨x,hx,U⟩:=E;exact M o ho J x hx k U)]
 unfold restrictAt;rw[RR];simp only[picked,Bk,Ad,N,lN h]
def He:Nat→Nat→Nat
 |0,_=>0
 |n+1,u=>if u=0 then 0 else He n (u / 256)+1
theorem Ymq(n:Nat):He n 0=0:=by cases n <;> rfl
theorem dS(n u:Nat):He (n+1) u=if u=0 then 0 else He n (u / 256)+1:=(rfl)
theorem qg:∀ (n u:Nat),u<256 ^ n→He (n+1) u=He n u
 |0,u,h=>by
  have:u=0:=by simpa using h
  subst this; rfl
 |n+1,u,h=>by
  rw[dS (n+1) u,dS n u]
  split
  ·rfl
  ·rw[qg n (u / 256) (by rw[Nat.pow_succ]at h; omega)]
theorem QA:∀ (n u:Nat),He n u≤n
 |0,_=>AE _
 |n+1,u=>by
  rw[He]
  split
  ·omega
  ·have:=QA n (u / 256); omega
def sv(ds:List D)(st:St)(r:D×St):Prop:=∃ u:Nat,StOK st∧u<18446744073709551616∧ds=[.int .u64 (u:Int)]∧r=(.int .i64 (He 8 u:Int),st)
noncomputable def dQ:List D→St→Option (D×St):=E1 sv
theorem Yel:Hv sv:=by
 rintro ds st r E ⟨u,_,_,rfl,rfl⟩ ⟨I,_,_,h,rfl⟩;grind
theorem yRx{u:Nat}(h:u≠0)(E:u<256 ^ n):He n u=He n (u / 256)+1:=by
 cases n with
 |zero=>simp at E; omega
 |succ n=>
  rw[dS n u,if_neg h,qg n (u / 256) (by rw[Nat.pow_succ]at E; omega)]
theorem Yqe:IContract Tryz.prog GG 209 dQ:=by
 refine IS (T:=tb [] []) vv (DC all_nil all_nil) ?_;intro ds st r N;obtain⟨u,E,hu,rfl,rfl⟩:=Iw N;unfold ki;simp (disch:=first|omega|decide) only[push_cast];refine Gr (fun p:Nat×Nat=>[(0,.int .u64 (p.1:Int)),(2,.int .i64 (p.2:Int))]) (fun _=>st) (fun p=>p.1<18446744073709551616∧He 8 u=He 8 p.1+p.2) (fun p=>p.1) (u,0) (by simp only[push_cast,↓reduceIte,CB,↓bq E] <;> rfl) ⟨hu,rfl⟩ ?_;rintro⟨w,k⟩ ⟨hw,hk⟩;have U:=QA 8 u;dsimp only at hw hk;unfold kE;simp (disch:=first|omega|decide) only[push_cast,↓reduceIte];refine E4 (fun O=>?_) (fun O=>?_)
 ·have I:w≠0:=by omega
  have V:=yRx (n:=8) I (by omega)
  have J:Df .shr (.int .u64 (w:Int)) (.int .u64 8)=some (.int .u64 ((w / 256:Nat):Int)):=by
   rw[ME (by omega) (by omega)]; rfl
  simp (disch:=first|omega|decide) only[push_cast,↓reduceIte,CB,↓CE,↓bq E,J,DI];refine E0 (w / 256,k+1) (by dsimp only; omega) (by dsimp only; omega) ?_;rfl
 ·obtain rfl:w=0:=by omega
  rw[Ymq]at hk;have M:He 8 u=k:=by omega
  rw[M];simp (disch:=first|omega|decide) only[push_cast,↓reduceIte,CB,CM,↓CE]
def MB(st:St)(b:D)(l:List UInt8):Prop:=(b=.slc 0 [] true∧l=[])∨∃ key,b=.row key l.length 0 l.length∧l≠[]∧st[key]?=some ⟨true,1,l.map Dd,false⟩
def IK(st:St)(b:D)(l m:List UInt8):D×St:=match b with
 |.row key _ _ _=>(.row key (l++m).length 0 (l++m).length,st.set key ⟨true,1,(l++m).map Dd,false⟩)
 |_=>(.row st.length m.length 0 m.length,st++[⟨true,1,m.map Dd,false⟩])
variable {l:List UInt8}
theorem Ycp{b:D}{I:List UInt8}(h:MB st b l)(J:MB st b I):l=I:=by
 rcases h with⟨rfl,rfl⟩ | ⟨key,rfl,hl,hk⟩
 ·rcases J with⟨_,rfl⟩ | ⟨key,h,_⟩
  ·rfl
  ·cases h
 ·rcases J with⟨h,_⟩ | ⟨M,h,_,E⟩
  ·cases h
  ·simp only[D.row.injEq]at h;obtain⟨rfl,_⟩:=h;rw[hk]at E;simp only[C4,Obj.mk.injEq,true_and,and_true]at E;exact O4 E
variable {m:List UInt8}
theorem Yxp{b:D}(h:StOK st):StOK (IK st b l m).2:=by
 unfold IK
 split
 ·exact h.set _ _ fun e=>by cases e
 ·exact h.app _ fun o E I=>by
   grind
theorem RW{b:D}(h:MB st b l)(hm:m≠[])(hl:l.length+m.length≤4294967296)(t:Bool):Ea st 1 1 b (.slc 1 (m.map Dd) t)=some (IK st b l m):=by
 have E:m.map Dd≠[]:=by simpa using hm
 have I:nz 1 (m.map Dd)=1:=by
  cases hc:m.map Dd with
  |nil=>exact absurd hc E
  |cons a r=>rfl
 rcases h with⟨rfl,rfl⟩ | ⟨key,rfl,J,hk⟩
 ·have:=qJ Dd st 1 0 1 m t (by decide) (by omega) (by simp at hl; omega);rw[I,Qk _ _ _ E,OU _ _ E,Be]at this;exact this
 ·rw[Z9,hk];have he:Gy st (.slc 1 (m.map Dd) t)=some (1,m.map Dd):=(rfl);rw[he,gW l m false hl];simp only[Ag,IK,Be]
def DB(st:St)(key:Nat)(l:List UInt8):St:=st.set key ⟨true,1,l.map Dd,false⟩
theorem bu(st:St)(key:Nat)(l:List UInt8):(DB st key l).length=st.length:=B7
theorem eI(h:key<st.length)(l:List UInt8):(DB st key l)[key]?=some ⟨true,1,l.map Dd,false⟩:=by simp[DB,h]
theorem Yco(st:St)(key:Nat)(l m:List UInt8):DB (DB st key l) key m=DB st key m:=by simp[DB]
theorem TE(h:StOK st)(key:Nat)(l:List UInt8):StOK (DB st key l):=h.set _ _ fun e=>by cases e
theorem mf(h:key<st.length)(l m:List UInt8)(hm:m≠[])(hl:l.length+m.length≤4294967296)(t:Bool) :
  Ea (DB st key l) 1 1 (.row key l.length 0 l.length) (.slc 1 (m.map Dd) t)=some (.row key (l++m).length 0 (l++m).length,DB st key (l++m)):=by
 by_cases E:l=[]
 ·subst E;rw[Z9,eI h];have he:Gy (DB st key []) (.slc 1 (m.map Dd) t)=some (1,m.map Dd):=(rfl);rw[he,gW [] m false hl];simp only[Ag,Be];simp only[DB,List.set_set]
 ·rw[RW (.inr ⟨key,rfl,E,eI h l⟩) hm hl t];simp only[IK];simp only[DB,List.set_set]
theorem WH(h:key<st.length)(l:List UInt8)(x:UInt8)(hl:l.length<4294967296)(t:Bool) :
  Ea (DB st key l) 1 1 (.row key l.length 0 l.length) (.slc 1 [Dd x] t)=some (.row key (l++[x]).length 0 (l++[x]).length,DB st key (l++[x])):=
 mf h l [x] (by simp) (by simp; omega) t
theorem p4{b:D}(h:MB st b l)(hm:m≠[]):∃ key st1,key<st1.length∧IK st b l m=(.row key (l++m).length 0 (l++m).length,DB st1 key (l++m))∧(StOK st→StOK st1)∧
  ∀ n,IK st b l (m++n)=(.row key (l++(m++n)).length 0 (l++(m++n)).length,DB st1 key (l++(m++n))):=by
 rcases h with⟨rfl,rfl⟩ | ⟨key,rfl,hl,hk⟩
 ·refine⟨st.length,st++[⟨true,1,[],false⟩],by simp,?_,fun h=>h.app _ fun o I J=>?_,fun n=>?_⟩
  ·simp[IK,DB]
  ·grind
  ·simp[IK,DB]
 ·have E:=(Ac.1 hk).1;exact⟨key,st,E,rfl,id,fun n=>rfl⟩
theorem XM(h:StOK st)(hn:n=st.length):restrict keep n ⟨fr,st⟩=⟨GH (Jf fr n [] keep),st⟩:=by
 subst hn; exact bq h
def Ip(u k:Nat):List UInt8:=(CL k).map fun i=>CO (u / 2 ^ (8*(k - 1 - i)))
theorem bM(u k:Nat):(Ip u k).length=k:=by simp[Ip]
variable {k:Nat}
theorem yN9{u:Nat}(h:i<k):(Ip u k).take (i+1)=(Ip u k).take i++[CO (u / 2 ^ (8*(k - 1 - i)))]:=by
 rw[List.take_add_one]
 congr 1
 simp[Ip,h]
def D3(n:Int):Nat:=(n % 18446744073709551616).toNat
def Le(a:Nat):Nat:=18446744073709551615 - a
theorem Yg7(a:Nat):Le a<18446744073709551616:=by unfold Le; omega
def HZ(n:Int):List UInt8:=
 if 0≤n then CO (32+He 8 (D3 n))::Ip (D3 n) (He 8 (D3 n))
 else CO (31 - He 8 (Le (D3 n)))::Ip (D3 n) (He 8 (Le (D3 n)))
theorem Yd1{a:Nat}(h:a<18446744073709551616):L7 .xor (.int .u64 (a:Int))=some (.int .u64 (Le a:Int)):=by
 unfold Le
 have E:Kk .xor .u64 (if IntKind.u64.signed then -1 else IntKind.u64.max) (a:Int)=some ((18446744073709551615 - a:Nat):Int):=by
  unfold Kk;have J:IntKind.u64.bits=64:=rfl;have I:(if IntKind.u64.signed then(-1:Int)else IntKind.u64.max)=18446744073709551615:=by decide
  rw[I];simp only
  have:(CJ IntKind.u64.bits 18446744073709551615 ^^^ CJ IntKind.u64.bits (a:Int)) = ~~~ (BitVec.ofNat 64 a):=by
   rfl
  rw[this]
  show some (IntKind.wrap .u64 (((~~~ (BitVec.ofNat 64 a):BitVec 64).toNat:Nat):Int))=_
  rw[BitVec.toNat_not,BitVec.toNat_ofNat,A4 (by omega)]
  show some (IntKind.wrap .u64 ((2 ^ 64 - 1 - a:Nat):Int))=_
  congr 1
  rw[iG];omega
 simp only[L7,E,Ag]
def Vf(ds:List D)(st:St)(r:D×St):Prop:=∃ (b:D) (l:List UInt8) (n:Int),StOK st∧MB st b l∧l.length≤4294967000∧ds=[b,.int .i64 n]∧r=IK st b l (HZ n)
noncomputable def RI:List D→St→Option (D×St):=E1 Vf
theorem Yjs:Hv Vf:=by
 rintro ds st r I ⟨b,l,n,_,hb,_,rfl,rfl⟩ ⟨b',J,M,_,E,_,h,rfl⟩;simp only[Aa,D.int.injEq,true_and,and_true]at h;obtain⟨rfl,rfl⟩:=h;rw[Ycp hb E]
theorem Yb8{b:D}(n:Int)(E:StOK st)(I:MB st b l)(J:l.length≤4294967000):RI [b,.int .i64 n] st=some (IK st b l (HZ n)):=KK Yjs ⟨b,l,n,E,I,J,rfl,rfl⟩
theorem nT(u:Nat)(E:StOK st)(I:u<18446744073709551616):dQ [.int .u64 (u:Int)] st=some (.int .i64 (He 8 u:Int),st):=KK Yel ⟨u,E,I,rfl,rfl⟩
theorem OT(h:key<n):EA n [] key=some key:=if_pos h
theorem lR(n:Int):D3 n<18446744073709551616:=by unfold D3; omega
theorem dP(n:Int):n % 18446744073709551616=(D3 n:Int):=by unfold D3; omega
theorem Ts(x:UInt8):E2 1 [Dd x]=some (.slc 1 [Dd x] true):=(rfl)
theorem S0(st:St)(x:UInt8):DP st (Dd x)=some (Dd x):=(rfl)
theorem Tn(x:UInt8):keys (Dd x)=[]:=(rfl)
theorem nZ(st:St)(k:Nat):E7 st (.int .u8) (.int .i64 (32+(k:Int)))=some (Dd (CO (32+k))):=by
 rfl
theorem Ya8(st:St)(h:k≤31):E7 st (.int .u8) (.int .i64 (31 - (k:Int)))=some (Dd (CO (31 - k))):=by
 rw[Ms st (by omega),show(31 - (k:Int)).toNat=31 - k by omega]
theorem zc(st:St)(u m:Nat):E7 st (.int .u8) (.int .u64 ((u:Int) / 2 ^ m))=some (Dd (CO (u / 2 ^ m))):=by
 rfl
/- the loop's part: the tag is laid -/
theorem lU(T:Tbl)(st1:St)(key:Nat)(E:key<st1.length)(M:StOK st1)(l0:List UInt8)(n:Int)(k:Nat)(hk:k≤8)(hl:l0.length≤4294967200)(fr:Frame)(Q:Ex→Frame→St→Prop)
  (V:fr 0=.row key l0.length 0 l0.length) (Y:fr 1=.int .i64 n) (h6:fr 6=.int .i64 (k:Int)) (N:fr 30=.int .i64 (k:Int)) (O:fr 31=.int .i64 0)
  (hQ:∀ I,I 0=.row key (l0++Ip (D3 n) k).length 0 (l0++Ip (D3 n) k).length→Q (.exit 0) I (DB st1 key (l0++Ip (D3 n) k))) :
  @wW GG T (.loop [0,1,6,30,31] bU) fr (DB st1 key l0) ⟨Q⟩:=by
 have hlen:=bu st1 key;have U:∀ (fr:Frame) (m:List UInt8),restrict [0,1,6,30,31] (DB st1 key l0).length ⟨fr,DB st1 key m⟩=⟨GH (Jf fr st1.length [] [0,1,6,30,31]),DB st1 key m⟩:=fun fr m=>by rw[XM (TE M key m) (by rw[hlen,hlen]),hlen]
 refine Gr (fun i:Nat=>[(0,.row key (l0++(Ip (D3 n) k).take i).length 0 (l0++(Ip (D3 n) k).take i).length),(1,.int .i64 n),(6,.int .i64 (k:Int)),(30,.int .i64 (k:Int)),(31,.int .i64 (i:Int))])
  (fun i=>DB st1 key (l0++(Ip (D3 n) k).take i)) (fun i=>i≤k) (fun i=>k - i) 0 ?_ (by omega) ?_
 ·rw[U];simp (disch:=omega) only[push_cast,↓CE,V,Y,h6,N,O,OT] <;> rfl
 intro i hi;unfold bU;have hb:=bM (D3 n) k;have ht:((Ip (D3 n) k).take i).length=i:=by rw[AQ]; omega
 simp (disch:=first|omega|decide) only[push_cast,↓reduceIte,CB];refine E4 (fun h2=>?_) (fun h2=>?_)
 ·have e1:((8*((k:Int) - 1 - (i:Int)))).toNat=8*(k - 1 - i):=by omega
  have J:=fun x=>WH (st:=st1) E (l0++(Ip (D3 n) k).take i) x (by rw[Ab]; omega) true;simp (disch:=first|omega|decide) only[push_cast,↓reduceIte,CB,V9,dP,Fc,MD,DI,ME,e1,zc,S0,Tn,Ts,J,↓U,E];refine E0 (i+1) (by omega) (by omega) ?_;rw[yN9 (by omega),← Ah];rfl
 ·obtain rfl:i=k:=by omega
  have e2:(Ip (D3 n) i).take i=Ip (D3 n) i:=AS (by omega);rw[e2];simp (disch:=first|omega|decide) only[push_cast];exact hQ _ rfl
theorem Yqj:IContract Tryz.prog GG 202 RI:=by
 refine IS (T:=tb [] [(209,dQ)]) u6 (DC all_nil (all_cons Yqe all_nil)) ?_;intro ds st r hr;obtain⟨b,l,n,O,hb,hl,rfl,rfl⟩:=Iw hr;unfold jR;have V:=nT (st:=st) (D3 n) O (lR n);have Y:=QA 8 (D3 n);have hu:=lR n
 by_cases hn:n<0
 ·have aa:=nT (st:=st) (Le (D3 n)) O (Yg7 _);have ab:=QA 8 (Le (D3 n));have U:HZ n=[CO (31 - He 8 (Le (D3 n)))]++Ip (D3 n) (He 8 (Le (D3 n))):=if_neg (by omega);rw[U];generalize He 8 (Le (D3 n))=k at*;obtain⟨key,st1,J,M,N,I⟩:=p4 hb (m:=[CO (31 - k)]) (by simp);have E:=RW hb (m:=[CO (31 - k)]) (by simp) (by simp; omega) true;rw[M]at E;have hm:=I (Ip (D3 n) k);simp only[Ax,Bk]at E;rw[hm,← Ah];simp (disch:=first|omega|decide) only[push_cast,↓reduceIte,CB,hn,V9,dP,V,Yd1,aa,DI,Fc,Ya8,nZ,S0,Tn,Ts,E];refine lU _ st1 key J (N O) (l++[CO (31 - k)]) n k ab (by simp; omega) _ _ (by simp only[push_cast,↓reduceIte,CB]) (by simp only[push_cast,↓reduceIte,CB]) (by simp only[push_cast,↓reduceIte,CB]) (by simp only[push_cast,↓reduceIte,CB]) (by simp only[push_cast,↓reduceIte]) fun ac hf=>?_;simp (disch:=first|omega|decide) only[push_cast,↓reduceIte,hf]
 ·have U:HZ n=[CO (32+He 8 (D3 n))]++Ip (D3 n) (He 8 (D3 n)):=if_pos (by omega);rw[U];generalize He 8 (D3 n)=k at*;obtain⟨key,st1,J,M,N,I⟩:=p4 hb (m:=[CO (32+k)]) (by simp);have E:=RW hb (m:=[CO (32+k)]) (by simp) (by simp; omega) true;rw[M]at E;have hm:=I (Ip (D3 n) k);simp only[Ax,Bk]at E;rw[hm,← Ah];simp (disch:=first|omega|decide) only[push_cast,↓reduceIte,CB,hn,V9,dP,V,DI,nZ,S0,Tn,Ts,E];refine lU _ st1 key J (N O) (l++[CO (32+k)]) n k Y (by simp; omega) _ _ (by simp only[push_cast,↓reduceIte,CB]) (by simp only[push_cast,↓reduceIte,CB]) (by simp only[push_cast,↓reduceIte,CB]) (by simp only[push_cast,↓reduceIte,CB]) (by simp only[push_cast,↓reduceIte]) fun ac hf=>?_;simp (disch:=first|omega|decide) only[push_cast,↓reduceIte,hf]
inductive Val where
 |int (n:Int)
 |bytes (b:List UInt8)
 |list (l:List Val)
instance:Inhabited Val:=⟨.int 0⟩
def vC(k n:Int)(B L:List D):List D:=[.int .i64 k,.int .i64 n,.slc (nz 1 B) B false,.slc (nz 4 L) L false]
def vD(k n:Int)(B L:List D):D:=.agg (vC k n B L)
mutual
def C6:Val→D
 |.int n=>vD 1 n [] []
 |.bytes b=>vD 2 0 (b.map Dd) []
 |.list l=>vD 3 0 [] (LD l)
def LD:List Val→List D
 |[]=>[]
 |v::l=>C6 v::LD l
end
mutual
def DV:Val→Nat
 |.int _=>0
 |.bytes _=>0
 |.list l=>Hw l+1
def Hw:List Val→Nat
 |[]=>0
 |v::l=>max (DV v) (Hw l)
end
def DU(c:UInt8):List UInt8:=if c=0 then [0,255]else [c]
mutual
def Dn:Val→List UInt8
 |.int n=>HZ n
 |.bytes b=>48::(b.flatMap DU++[0,0])
 |.list l=>64::(Pw l++[0])
def Pw:List Val→List UInt8
 |[]=>[]
 |v::l=>Dn v++Pw l
end
theorem ny:∀ l:List Val,LD l=l.map C6
 |[]=>by simp[LD]
 |v::l=>by simp[LD,ny l]
theorem ef:∀ l:List Val,Pw l=l.flatMap Dn
 |[]=>by simp[Pw]
 |v::l=>by simp[Pw,ef l]
theorem dX:∀ {l:List Val} {v:Val},v∈l→DV v≤Hw l
 |a::l,v,h=>by
  rw[Hw];rcases Aw.1 h with rfl | h
  ·omega
  ·exact AT (dX h) (Nat.le_max_right _ _)
theorem Nf(n:Int):C6 (.int n)=vD 1 n [] []:=by simp[C6]
theorem Nl(b:List UInt8):C6 (.bytes b)=vD 2 0 (b.map Dd) []:=by simp[C6]
theorem O7(l:List Val):C6 (.list l)=vD 3 0 [] (l.map C6):=by simp[C6,ny]
theorem ee(n:Int):Dn (.int n)=HZ n:=by simp[Dn]
theorem W6(b:List UInt8):Dn (.bytes b)=48::(b.flatMap DU++[0,0]):=by simp[Dn]
theorem Ni(l:List Val):Dn (.list l)=64::(l.flatMap Dn++[0]):=by simp[Dn,ef]
theorem Yia(n:Int):DV (.int n)=0:=by simp[DV]
theorem zf(b:List UInt8):DV (.bytes b)=0:=by simp[DV]
theorem fI(l:List Val):DV (.list l)=Hw l+1:=by simp[DV]
def TV(v:Val):List D:=match v with
 |.int n=>vC 1 n [] []
 |.bytes b=>vC 2 0 (b.map Dd) []
 |.list l=>vC 3 0 [] (LD l)
theorem Nh(v:Val):∃ k n B L,TV v=vC k n B L∧C6 v=vD k n B L:=by
 cases v
 ·exact⟨_,_,_,_,rfl,by simp[C6]⟩
 ·exact⟨_,_,_,_,rfl,by simp[C6]⟩
 ·exact⟨_,_,_,_,rfl,by simp[C6]⟩
theorem Ln{k n k' E:Int}{B L I J:List D}(h:vD k n B L=vD k' E I J):k=k'∧n=E∧B=I∧L=J:=by
 simp only[vD,vC,D.agg.injEq,Aa,D.int.injEq,D.slc.injEq,true_and,and_true]at h;grind
mutual
theorem fy:∀ {v v':Val},C6 v=C6 v'→v=v'
 |.int n,.int E,h=>by rw[Nf,Nf]at h; rw[(Ln h).2.1]
 |.bytes b,.bytes b',h=>by rw[Nl,Nl]at h; rw[O4 (Ln h).2.2.1]
 |.list l,.list I,h=>by
  have:=h;simp only[C6]at this;rw[pe (Ln this).2.2.2]
 |.int n,.bytes b,h=>by rw[Nf,Nl]at h; exact absurd (Ln h).1 (by decide)
 |.int n,.list b,h=>by rw[Nf,O7]at h; exact absurd (Ln h).1 (by decide)
 |.bytes n,.int b,h=>by rw[Nf,Nl]at h; exact absurd (Ln h).1 (by decide)
 |.bytes n,.list b,h=>by rw[Nl,O7]at h; exact absurd (Ln h).1 (by decide)
 |.list n,.int b,h=>by rw[Nf,O7]at h; exact absurd (Ln h).1 (by decide)
 |.list n,.bytes b,h=>by rw[Nl,O7]at h; exact absurd (Ln h).1 (by decide)
theorem pe:∀ {l E:List Val},LD l=LD E→l=E
 |[],[],_=>rfl
 |[],_::_,h=>by simp[LD]at h
 |_::_,[],h=>by simp[LD]at h
 |a::l,b::E,h=>by
  simp only[LD,Aa]at h;rw[fy h.1,pe h.2]
end
theorem R7{v v':Val}:C6 v=C6 v'↔v=v':=⟨fy,fun h=>by rw[h]⟩
theorem Ydy{l E:List Val}:l.map C6=E.map C6↔l=E:=⟨N0 fun _ _=>fy,fun h=>by rw[h]⟩
theorem Om(k n:Int)(B L:List D):Dy (vD k n B L)=some (vC k n B L):=(rfl)
theorem Ti:Dy (.agg [.int .i64 0,.int .i64 0,.slc 0 [] true,.slc 0 [] true])=some [.int .i64 0,.int .i64 0,.slc 0 [] true,.slc 0 [] true]:=(rfl)
theorem Q5(lent:Bool)(k n:Int)(B L:List D):Dr (some ⟨false,1,vC k n B L,lent⟩) 1 false 0=some (.int .i64 k):=(rfl)
theorem ik(lent:Bool)(k n:Int)(B L:List D):Dr (some ⟨false,1,vC k n B L,lent⟩) 1 false 1=some (.int .i64 n):=(rfl)
theorem iq(lent:Bool)(k n:Int)(B L:List D):Dr (some ⟨false,1,vC k n B L,lent⟩) 1 false 2=some (.slc (nz 1 B) B false):=(rfl)
theorem ZP(lent:Bool)(k n:Int)(B L:List D):Dr (some ⟨false,1,vC k n B L,lent⟩) 1 false 3=some (.slc (nz 4 L) L false):=(rfl)
theorem Mc(lent:Bool)(k n:Int)(B L:List D):Dr (some ⟨false,1,vC k n B L,lent⟩) 4 true 0=some (vD k n B L):=(rfl)
theorem Ug(k n:Int)(B L:List D):DZ (some ⟨false,1,[.int .i64 0,.int .i64 0,.slc 0 [] true,.slc 0 [] true],false⟩) 4 0 (vD k n B L)=some ⟨false,1,vC k n B L,false⟩:=(rfl)
theorem sg(st:St)(k n:Int)(B L:List D):EO st 4 true (.eptr (vD k n B L) 0)=some (vD k n B L):=(rfl)
theorem ZL(st:St)(k n:Int)(B L:List D):DP st (vD k n B L)=some (vD k n B L):=by
 simp only[vD,vC,DP,DR,Dx,Km];rfl
theorem YW(k n:Int)(B L:List D):keys (vD k n B L)=[]:=(rfl)
theorem Vg(k n:Int)(B L:List D):(vC k n B L).flatMap hk=[]:=(rfl)
theorem Uy(m:Nat)(k n:Int)(B L:List D):∀ x∈vC k n B L,Ef m [] x=x:=by
 intro x E;simp only[vC,Aw,AB,or_false]at E;rcases E with rfl | rfl | rfl | rfl <;> rfl
theorem Ytr(m:Nat)(σ:List Nat)(k n:Int)(B L:List D):(vC k n B L).map (Ef m σ)=vC k n B L:=(rfl)
theorem rV(st:St)(l:List Val)(t:Bool)(i:Nat)(h:i<l.length):F2 st 4 (.slc (nz 4 (l.map C6)) (l.map C6) t) (.int .i64 (i:Int))=some (.eptr (C6 (l.getD i default)) 0):=by
 have:=KP st 4 C6 l t .i64 (i:Int) (by omega) (by omega);grind
theorem rI:((2:Int)=1)=False:=by simp
theorem rH:((3:Int)=1)=False:=by simp
theorem rG:((3:Int)=2)=False:=by simp
noncomputable def Wi(N:Nat):List D→Option D:=De (α:=Val) (fun v=>[C6 v]) (fun v=>DV v<N∧(Dn v).length≤4294967000) (fun v=>.tup [.int .i64 (DV v:Int),.bool true])
theorem pF(N:Nat)(v:Val)(h:DV v<N∧(Dn v).length≤4294967000):Wi N [C6 v]=some (.tup [.int .i64 (DV v:Int),.bool true]):=
 DX (fun a b h=>by simp only[Aa,and_true,R7]at h; rw[h]) v h
theorem mo:∀ b:List UInt8,b.length≤(b.flatMap DU).length
 |[]=>by simp
 |c::b=>by
  have:=mo b;have E:1≤(DU c).length:=by unfold DU; split <;> simp
  grind
theorem Yg8(n:Int):1≤(HZ n).length:=by unfold HZ; split <;> simp
theorem mq:∀ v:Val,1≤(Dn v).length
 |.int n=>by rw[ee]; exact Yg8 n
 |.bytes b=>by rw[W6]; simp
 |.list l=>by rw[Ni]; simp
theorem fU:∀ l:List Val,l.length≤(l.flatMap Dn).length
 |[]=>by simp
 |v::l=>by
  have:=fU l;have:=mq v;grind
theorem mu:∀ {l:List Val} {v:Val},v∈l→(Dn v).length≤(l.flatMap Dn).length
 |a::l,v,h=>by
  simp only[At,Ab];rcases Aw.1 h with rfl | h
  ·omega
  ·have:=mu h; omega
mutual
theorem Yh9:∀ v:Val,DV v≤(Dn v).length
 |.int n=>by simp[DV]
 |.bytes b=>by simp[DV]
 |.list l=>by
  have:=fJ l;simp only[DV,Dn,Ak,Ab,Ap];omega
theorem fJ:∀ l:List Val,Hw l≤(Pw l).length
 |[]=>by simp[Hw]
 |v::l=>by
  have:=Yh9 v;have:=fJ l;simp only[Hw,Pw,Ab];omega
end
def Ja:List Val→Nat
 |[]=>0
 |v::l=>max (Ja l) (DV v)
theorem mj:∀ l:List Val,Ja l.reverse=Hw l:=by
 have h:∀ (l m:List Val),Ja (l++m)=max (Ja l) (Ja m):=by
  intro l m
  induction l with
  |nil=>simp[Ja]
  |cons a l E=>simp only[Ae,Ja,E]; omega
 intro l
 induction l with
 |nil=>simp[Ja,Hw]
 |cons a l E=>rw[List.reverse_cons,h,E]; simp only[Ja,Hw]; omega
theorem zg(l:List Val)(v:Val):Hw (l++[v])=max (Hw l) (DV v):=by
 rw[← mj,← mj l,List.reverse_append];rfl
theorem O6[Inhabited α](l:List α)(h:i<l.length):l.take (i+1)=l.take i++[l.getD i default]:=by
 simp_all
set_option maxHeartbeats 4000000 in
set_option maxRecDepth 20000 in
theorem tT:∀ N:Nat,Contract Tryz.prog GG 189 (Wi N)
 |0=>by
  intro w g ds vs d hd;obtain⟨a,_,hp,_⟩:=fv hd;omega
 |N+1=>by
  refine Eb (T:=tb [(189,Wi N)] []) yB3 (DC (all_cons (tT N) all_nil) all_nil) ?_;rintro v ⟨hN,hl⟩;unfold ju
  cases v with
  |int n=>
   rw[Nf,Yia];simp (disch:=first|omega|decide) only[push_cast,↓reduceIte,CB,↓CE,Om,Q5,iq,ZP]
  |bytes b=>
   rw[Nl,zf];simp (disch:=first|omega|decide) only[push_cast,↓reduceIte,CB,↓CE,Om,Q5,ik,ZP,rI]
  |list l=>
   rw[O7,fI];rw[fI]at hN;rw[Ni]at hl;have ah:=fU l;have U:=fJ l;rw[ef]at U;simp only[Ak,Ab,Ap]at hl;simp (disch:=first|omega|decide) only[push_cast,↓reduceIte,CB,Om,Q5,ik,iq,ZP,rH,rG]
   refine Gr (fun i:Nat=>[(2,.int .i64 (Hw (l.take i):Int)),(45,.slc (nz 4 (l.map C6)) (l.map C6) false),(46,.int .i64 (l.length:Int)),(47,.int .i64 (i:Int))])
    (fun _=>[⟨false,1,vC 3 0 [] (l.map C6),false⟩]) (fun i=>i≤l.length) (fun i=>l.length - i) 0 (by simp only[push_cast,↓reduceIte,CB,↓CE,Vg,Ytr] <;> rfl) (by omega) ?_
   intro i hi;unfold jN;simp (disch:=first|omega|decide) only[push_cast,↓reduceIte,CB];refine E4 (fun h2=>?_) (fun h2=>?_)
   ·have E:i<l.length:=by omega
    have O:=rV [⟨false,1,vC 3 0 [] (l.map C6),false⟩] l false i E;have I:l.getD i default∈l:=by rw[Ao,An E]; exact By E
    have V:=dX I;have Y:=mu I;have hc:=pF N (l.getD i default) ⟨by omega,by omega⟩;have J:=O6 l E;obtain⟨x,aa⟩:∃ x,l.getD i default=x:=⟨_,rfl⟩;rw[aa]at O hc J V Y;have M:=zg (l.take i) x;rw[← J]at M;obtain⟨k,n,B,L,hC,hD⟩:=Nh x;rw[hD]at O hc;simp (disch:=first|omega|decide) only[push_cast,↓reduceIte,CB,CG,CC,O,sg,Ti,Ug,Mc,ZL,YW,hc,DI];refine E0 (i+1) (by omega) (by omega) ?_;rw[show((Hw (l.take (i+1)):Nat):Int)=max (Hw (l.take i):Int) (DV x:Int) by rw[M]; omega];rfl
   ·obtain rfl:i=l.length:=by omega
    have e2:l.take l.length=l:=Bg;rw[e2];simp (disch:=first|omega|decide) only[push_cast,↓reduceIte,CB,DI]
theorem E5(st:St)(o:Obj):(st++[o])[st.length]?=some o:=List.getElem?_concat_length
theorem lJ(st:St)(o o':Obj):(st++[o]).set st.length o'=st++[o']:=by simp
theorem dA(n:Nat)(d:D):Ef n [] d=G2 n d:=by
 have J:∀ (f:Nat→D) (key:Nat),IL f (EA n [] key)=if key<n then f key else .junk:=by
  intro f key; unfold EA; split <;> rfl
 have E:∀ d,Gb n [] d=G1 n d:=by
  intro d;cases d <;> simp only[Gb,G1,J]
 have I:∀ d,Ep n [] d=Gd n d:=by
  intro d
  cases d with
  |clo f l=>simp only[Ep,Gd,D.clo.injEq,true_and]; exact BS fun x _=>E x
  |_=>simp only[Ep,Gd]; exact E _
 cases d with
 |agg l=>simp only[Ef,G2,D.agg.injEq]; exact BS fun x _=>I x
 |tup l=>rfl
 |_=>simp only[Ef,G2]; exact I _
theorem Yvl(h:Ef n [] x=x):∀ k∈hk x,k<n:=by
 have E:∀ (f:Nat→D) (key:Nat),(∀ k,f k≠.junk)→IL f (EA n [] key)=f key→key<n:=by
  intro f key hf h;unfold EA at h
  split at h
  ·assumption
  ·exact absurd h.symm (hf key)
 have J:∀ x,Gb n [] x=x→∀ k∈FX x,k<n:=by
  intro x h k hk
  cases x with
  |row key tot off len=>simp only[FX,AM]at hk; subst hk; exact E (fun k=>.row k tot off len) _ (fun k e=>by cases e) h
  |bsl key off j sz ag=>simp only[FX,AM]at hk; subst hk; exact E (fun k=>.bsl k off j sz ag) _ (fun k e=>by cases e) h
  |ptr key off=>simp only[FX,AM]at hk; subst hk; exact E (fun k=>.ptr k off) _ (fun k e=>by cases e) h
  |rptr key tot i off=>simp only[FX,AM]at hk; subst hk; exact E (fun k=>.rptr k tot i off) _ (fun k e=>by cases e) h
  |mapv key=>simp only[FX,AM]at hk; subst hk; exact E .mapv _ (fun k e=>by cases e) h
  |_=>simp[FX]at hk
 have M:∀ x,Ep n [] x=x→∀ k∈Dq x,k<n:=by
  intro x h k hk
  cases x with
  |clo f l=>
   simp only[Dq,Bj]at hk;obtain⟨y,I,hk⟩:=hk;simp only[Ep,D.clo.injEq,true_and]at h;exact J y (Pr h y I) k hk
  |_=>unfold Ep at h; unfold Dq at hk; exact J _ h k hk
 intro k hk
 cases x with
 |agg l=>
  simp only[PI.hk,Bj]at hk;obtain⟨y,I,hk⟩:=hk;simp only[Ef,D.agg.injEq]at h;exact M y (Pr h y I) k hk
 |tup l=>simp[PI.hk,Dq,FX]at hk
 |_=>unfold Ef at h; unfold PI.hk at hk; exact M _ h k hk
theorem StOK.keys(h:StOK st):∀ o∈st,o.row=false→∀ x∈o.els,∀ k∈hk x,k<st.length:=fun o E I x J=>Yvl (h o E I x J)
theorem jB{l:St}(h:StOK st)(hn:n=st.length)(E:∀ k∈LZ fr keep,k<n):restrict keep n ⟨fr,st++l⟩=⟨GH (Jf fr n [] keep),st⟩:=by
 subst hn;refine yFf h h.keys fun s I k hk=>E k ?_;rw[eu,Bj];grind
theorem sM{l:St}(h:StOK st)(hn:n=st.length):cut n (st++l)=st:=by
 subst hn;unfold cut;rw[show(st++l).take st.length=st by simp];refine LN fun o E=>?_;obtain⟨row,sz,els,lent⟩:=o
 cases row with
 |true=>rfl
 |false=>
  show(⟨false,sz,els.map (G2 st.length),lent⟩:Obj)=_
  rw[LN fun x I=>(dA st.length x).symm.trans (h _ E rfl x I)]
theorem fq(h:StOK st)(k n:Int)(B L:List D)(lent:Bool):StOK (st++[⟨false,1,vC k n B L,lent⟩]):=h.app _ fun o E J x I=>by
 simp only[AM]at E;subst E;exact Uy _ _ _ _ _ x I
theorem zy{b:D}(h:MB st b l)(m:St):MB (st++m) b l:=by
 rcases h with⟨rfl,rfl⟩ | ⟨key,rfl,hl,hk⟩
 ·exact .inl ⟨rfl,rfl⟩
 ·exact .inr ⟨key,rfl,hl,by rw[Au (Ac.1 hk).1]; exact hk⟩
theorem p5{els:List D}{lent:Bool}(hk:st[key]?=some ⟨true,sz,els,lent⟩){j:Nat}{o:PI.Obj}(hj:st[j]?=some o)(I:o.row=false)(m:List UInt8):(DB st key m)[j]?=some o:=by
 have E:key≠j:=by
  grind
 rw[DB,AL E];exact hj
theorem qS{b:D}(h:MB st b l)(hm:m≠[]):∃ key st1,key<st1.length∧IK st b l m=(.row key (l++m).length 0 (l++m).length,DB st1 key (l++m))∧(StOK st→StOK st1)∧
  (∀ n,IK st b l (m++n)=(.row key (l++(m++n)).length 0 (l++(m++n)).length,DB st1 key (l++(m++n))))∧∀ (j:Nat) (o:PI.Obj),st[j]?=some o→o.row=false→∀ n,(DB st1 key n)[j]?=some o:=by
 rcases h with⟨rfl,rfl⟩ | ⟨key,rfl,hl,hk⟩
 ·refine⟨st.length,st++[⟨true,1,[],false⟩],by simp,?_,fun h=>h.app _ fun o J E=>?_,fun n=>?_,fun j o hj E n=>?_⟩
  ·simp[IK,DB]
  ·grind
  ·simp[IK,DB]
  ·exact p5 (E5 st ⟨true,1,[],false⟩) (by rw[Au (Ac.1 hj).1]; exact hj) E n
 ·have I:=(Ac.1 hk).1;exact⟨key,st,I,rfl,id,fun n=>rfl,fun j o hj E n=>p5 hk hj E n⟩
def Ro(st:St)(b:D)(l:List UInt8)(v:Val):D×St:=IK (st++[⟨false,1,TV v,false⟩]) b l (Dn v)
def sC(N:Nat)(ds:List D)(st:St)(r:D×St):Prop:=∃ (v:Val),StOK st∧DV v<N∧(Dn v).length≤4294967000∧ds=[.slc 0 [] true,C6 v]∧r=Ro st (.slc 0 [] true) [] v
def sD(N:Nat)(ds:List D)(st:St)(r:D×St):Prop:=∃ (key:Nat) (l:List UInt8) (v:Val),StOK st∧DV v<N∧l.length+(Dn v).length≤4294967000∧l≠[]∧st[key]?=some ⟨true,1,l.map Dd,false⟩∧ds=[.row key l.length 0 l.length,C6 v]∧r=IK st (.row key l.length 0 l.length) l (Dn v)
noncomputable def fc(N:Nat):List D→St→Option (D×St):=E1 (sC N)
noncomputable def R0(N:Nat):List D→St→Option (D×St):=E1 (sD N)
theorem Yc4(N:Nat):Hv (sD N):=by
 rintro ds st r J ⟨key,l,v,_,_,_,_,hk,rfl,rfl⟩ ⟨I,M,v',_,_,_,_,E,h,rfl⟩;simp only[Aa,D.row.injEq,and_true,R7]at h;obtain⟨⟨rfl,_⟩,rfl⟩:=h;rw[hk]at E;simp only[C4,Obj.mk.injEq,true_and,and_true]at E;rw[O4 E]
theorem Yc5(N:Nat):Hv (sC N):=by
 rintro ds st r E ⟨v,_,_,_,rfl,rfl⟩ ⟨v',_,_,_,h,rfl⟩;simp only[Aa,and_true,true_and,R7]at h;rw[h]
theorem yo{G:Dc}{T:Tbl}{c:PC}{res:List PRes}{K I:D→St→Prop}(h:@wW G T c fr st ⟨@Gt res ⟨K⟩⟩)(hk:∀ d st,K d st→I d st):@wW G T c fr st ⟨@Gt res ⟨I⟩⟩:=by
 refine Z3 (Kn _ _ _ _ _ (IE h) fun e E st' h=>?_)
 have fin:@on _ (DL ⟨E,st'⟩ res) ⟨fun l=>K (DD l) st'⟩→@on _ (DL ⟨E,st'⟩ res) ⟨fun l=>I (DD l) st'⟩:=by
  unfold on;grind
 cases e with
 |next=>rw[oR]at h ⊢; exact fin h
 |ret=>rw[nF]at h ⊢; exact fin h
 |exit id=>unfold Gt at h; exact h.elim
 |panic t d=>unfold Gt at h; exact h.elim
theorem Yw5(c:UInt8):Df .eql (Dd c) (.int .u8 0)=some (.bool (decide (c=0))):=by
 unfold Dd;rw[tY]
 congr 2
 rw[decide_eq_decide];refine⟨fun h=>?_,fun h=>by subst h; rfl⟩;apply UInt8.toNat_inj.1;grind
theorem Yug:E2 1 [.int .u8 0,.int .u8 0]=some (.slc 1 [.int .u8 0,.int .u8 0] true):=(rfl)
theorem ZS(n:Int):E2 1 [.int .u8 n]=some (.slc 1 [.int .u8 n] true):=(rfl)
theorem gO:Dd 48=.int .u8 48:=(rfl)
theorem gN:Dd 64=.int .u8 64:=(rfl)
theorem rQ:Dd 0=.int .u8 0:=(rfl)
theorem VM:Dd 255=.int .u8 255:=(rfl)
/- the bytes of a string,laid behind what is there -/
theorem Ydr(T:Tbl)(st1:St)(key:Nat)(E:key<st1.length)(O:StOK st1)(l0 B:List UInt8)(hl:l0.length+(B.flatMap DU).length≤4294967100)(fr:Frame)(Q:Ex→Frame→St→Prop)
  (h0:fr 0=.row key l0.length 0 l0.length) (h1:fr 23=.slc (nz 1 (B.map Dd)) (B.map Dd) false) (h6:fr 24=.int .i64 (B.length:Int)) (U:fr 25=.int .i64 0)
  (hQ:∀ J,J 0=.row key (l0++B.flatMap DU).length 0 (l0++B.flatMap DU).length→Q (.exit 1) J (DB st1 key (l0++B.flatMap DU))) :
  @wW GG T (.loop [0,23,24,25] bV) fr (DB st1 key l0) ⟨Q⟩:=by
 have hlen:=bu st1 key;have N:∀ (fr:Frame) (m:List UInt8),restrict [0,23,24,25] (DB st1 key l0).length ⟨fr,DB st1 key m⟩=⟨GH (Jf fr st1.length [] [0,23,24,25]),DB st1 key m⟩:=fun fr m=>by rw[XM (TE O key m) (by rw[hlen,hlen]),hlen]
 have hB:=mo B
 refine Gr (fun i:Nat=>[(0,.row key (l0++(B.take i).flatMap DU).length 0 (l0++(B.take i).flatMap DU).length),(23,.slc (nz 1 (B.map Dd)) (B.map Dd) false),(24,.int .i64 (B.length:Int)),(25,.int .i64 (i:Int))])
  (fun i=>DB st1 key (l0++(B.take i).flatMap DU)) (fun i=>i≤B.length) (fun i=>B.length - i) 0 ?_ (by omega) ?_
 ·rw[N];simp (disch:=omega) only[push_cast,↓CE,h0,h1,h6,U,OT] <;> rfl
 intro i hi;unfold bV;simp (disch:=first|omega|decide) only[push_cast,↓reduceIte,CB];refine E4 (fun h2=>?_) (fun h2=>?_)
 ·have V:i<B.length:=by omega
  have Y:F2 (DB st1 key (l0++(B.take i).flatMap DU)) 1 (.slc (nz 1 (B.map Dd)) (B.map Dd) false) (.int .i64 (i:Int))=some (.eptr (Dd (B.getD i default)) 0):=by
   have:=KP (DB st1 key (l0++(B.take i).flatMap DU)) 1 Dd B false .i64 (i:Int) (by omega) (by omega);grind
  have a2:=O6 B V
  have a1:((B.take i).flatMap DU).length+(DU (B.getD i default)).length≤(B.flatMap DU).length:=by
   have e:B=B.take (i+1)++B.drop (i+1):=(BA _ _).symm;grind
  generalize a3:B.getD i default=c at*;have ac:1≤(DU c).length:=by unfold DU; split <;> simp
  have I:=fun x=>WH (st:=st1) E (l0++(B.take i).flatMap DU) x (by rw[Ab]; omega) true
  have M:l0++(B.take (i+1)).flatMap DU=l0++(B.take i).flatMap DU++DU c:=by
   grind
  by_cases hc:c=0
  ·subst hc;have aa:Df .eql (Dd 0) (.int .u8 0)=some (.bool true):=(rfl)
   have h3:=WH (st:=st1) E (l0++(B.take i).flatMap DU++[0]) 255 (by
    grind) true
   rw[VM]at h3;simp (disch:=first|omega|decide) only[push_cast,↓reduceIte,CB,Y,bo,S0,Tn,Ts,ZS,I,aa,h3,DI,↓N,E];refine E0 (i+1) (by omega) (by omega) ?_;rw[M,show l0++(B.take i).flatMap DU++DU 0=l0++(B.take i).flatMap DU++[0]++[255] by simp[DU]]
   first | rfl | (simp only[push_cast,↓EE,↓reduceIte,CB,CI,CG,CC,Nat.reduceSub,CF,CU,CM,Int.reduceLE,CN,CD,CS,CR,CY,CT,↓CE] <;> rfl)
  ·simp (disch:=first|omega|decide) only[push_cast,↓reduceIte,CB,Y,bo,S0,Tn,Ts,I,Yw5,hc,decide_false,DI,↓N,E];refine E0 (i+1) (by omega) (by omega) ?_;rw[M,show l0++(B.take i).flatMap DU++DU c=l0++(B.take i).flatMap DU++[c] by simp[DU,hc]]
   first | rfl | (simp only[push_cast,↓EE,↓reduceIte,CB,CI,CG,CC,Nat.reduceSub,CF,CU,CM,Int.reduceLE,CN,CD,CS,CR,CY,CT,↓CE] <;> rfl)
 ·obtain rfl:i=B.length:=by omega
  rw[Bg];simp (disch:=first|omega|decide) only[push_cast];exact hQ _ rfl
theorem yN{v:Val}{N:Nat}(E:StOK st)(I:DV v<N)(J:l.length+(Dn v).length≤4294967000)(M:l≠[])(O:st[key]?=some ⟨true,1,l.map Dd,false⟩) :
  R0 N [.row key l.length 0 l.length,C6 v] st=some (.row key (l++Dn v).length 0 (l++Dn v).length,st.set key ⟨true,1,(l++Dn v).map Dd,false⟩):=KK (Yc4 N) ⟨key,l,v,E,I,J,M,O,rfl,rfl⟩
theorem Yaq[Inhabited α](f:α→List UInt8)(L:List α)(h:i<L.length):((L.take i).flatMap f).length+(f (L.getD i default)).length≤(L.flatMap f).length:=by
 have e:L=L.take (i+1)++L.drop (i+1):=(BA _ _).symm;have:=congrArg (fun l=>(l.flatMap f).length) e;simp only[List.flatMap_append,Ab,O6 L h,At,BG,Ad]at this;omega
/- the values of a list,laid behind what is there -/
theorem Ydq(N:Nat)(st1:St)(key:Nat)(E:key<st1.length)(J:StOK st1)(l0:List UInt8)(aa:l0≠[])(L:List Val)(hd:Hw L<N)(hl:l0.length+(L.flatMap Dn).length≤4294967000)(fr:Frame)(Q:Ex→Frame→St→Prop)
  (h0:fr 0=.row key l0.length 0 l0.length) (h1:fr 46=.slc (nz 4 (L.map C6)) (L.map C6) false) (h6:fr 47=.int .i64 (L.length:Int)) (ab:fr 48=.int .i64 0)
  (hQ:∀ O,O 0=.row key (l0++L.flatMap Dn).length 0 (l0++L.flatMap Dn).length→Q (.exit 3) O (DB st1 key (l0++L.flatMap Dn))) :
  @wW GG (tb [] [(202,RI),(190,R0 N)]) (.loop [0,46,47,48] bW) fr (DB st1 key l0) ⟨Q⟩:=by
 have hlen:=bu st1 key;have hB:=fU L;have hR:∀ (fr:Frame) (m:List UInt8),restrict [0,46,47,48] (DB st1 key l0).length ⟨fr,DB st1 key m⟩=⟨GH (Jf fr st1.length [] [0,46,47,48]),DB st1 key m⟩:=fun fr m=>by rw[XM (TE J key m) (by rw[hlen,hlen]),hlen]
 refine Gr (fun i:Nat=>[(0,.row key (l0++(L.take i).flatMap Dn).length 0 (l0++(L.take i).flatMap Dn).length),(46,.slc (nz 4 (L.map C6)) (L.map C6) false),(47,.int .i64 (L.length:Int)),(48,.int .i64 (i:Int))])
  (fun i=>DB st1 key (l0++(L.take i).flatMap Dn)) (fun i=>i≤L.length) (fun i=>L.length - i) 0 ?_ (by omega) ?_
 ·rw[hR];simp (disch:=omega) only[push_cast,↓CE,h0,h1,h6,ab,OT] <;> rfl
 intro i hi;unfold bW;simp (disch:=first|omega|decide) only[push_cast,↓reduceIte,CB];refine E4 (fun h2=>?_) (fun h2=>?_)
 ·have I:i<L.length:=by omega
  have U:=rV (DB st1 key (l0++(L.take i).flatMap Dn)) L false i I;have V:L.getD i default∈L:=by rw[Ao,An I]; exact By I
  have ac:=dX V;have ad:=Yaq Dn L I;have ae:=O6 L I;obtain⟨x,af⟩:∃ x,L.getD i default=x:=⟨_,rfl⟩;rw[af]at U ae ac ad
  have a7:l0++(L.take (i+1)).flatMap Dn=l0++(L.take i).flatMap Dn++Dn x:=by
   grind
  obtain⟨k,n,B,M,hC,hD⟩:=Nh x;have Y:=fq (TE J key (l0++(L.take i).flatMap Dn)) k n B M false
  have hc:=yN (N:=N) (v:=x) (l:=l0++(L.take i).flatMap Dn) (key:=key) Y (by omega) (by rw[Ab]; omega) (by simp[aa]) (by
   rw[Au (by rw[hlen]; exact E)]; exact eI E _)
  rw[BO _ _ (by rw[hlen]; exact E),show(DB st1 key (l0++(L.take i).flatMap Dn)).set key ⟨true,1,(l0++(L.take i).flatMap Dn++Dn x).map Dd,false⟩=DB st1 key (l0++(L.take i).flatMap Dn++Dn x)from Yco st1 key _ _,hD]at hc;rw[hD]at U
  have a0:∀ (fr:Frame) (m:List UInt8) (o:PI.Obj),(LZ fr [0,46,47,48]).all (fun k=>decide (k<st1.length))=true→restrict [0,46,47,48] (DB st1 key l0).length ⟨fr,DB st1 key m++[o]⟩=⟨GH (Jf fr st1.length [] [0,46,47,48]),DB st1 key m⟩:=fun fr m o h=>by
   rw[jB (TE J key m) (by rw[hlen,hlen]) (fun k hk=>by rw[hlen]; exact of_decide_eq_true (Aj.1 h k hk)),hlen]
  simp (disch:=first | omega | decide | (simp only[push_cast,↓EE,↓reduceIte,CB,CI,CG,CC,Nat.reduceSub,CF,CU,CM,Int.reduceLE,CN,CD,CS,CR,CY,CT,↓CE,E]; done)) only[push_cast,↓reduceIte,CB,↓a0,U,sg,Ti,E5,lJ,Ug,Mc,hc,DI,E];refine E0 (i+1) (by omega) (by omega) ?_;grind
 ·obtain rfl:i=L.length:=by omega
  rw[Bg];simp (disch:=first|omega|decide) only[push_cast];exact hQ _ rfl
/- the whole -/
theorem tt(N:Nat)(st:St)(b:D)(l:List UInt8)(v:Val)(ah:StOK st)(hb:MB st b l)(hN:DV v<N+1)(hl:l.length+(Dn v).length≤4294967000) :
  @wW GG (tb [] [(202,RI),(190,R0 N)]) Yp.code (C5 [b,C6 v]) st ⟨@Gt Yp.res ⟨fun d st'=>(d,st')=Ro st b l v⟩⟩:=by
 unfold Yp Ro;obtain⟨k,n,B,M,hC,hD⟩:=Nh v;have V:=fq ah k n B M false;have U:=zy hb [⟨false,1,vC k n B M,false⟩];have ae:=E5 st ⟨false,1,vC k n B M,false⟩
 cases v with
 |int m=>
  obtain⟨rfl,rfl,rfl,rfl⟩:=Ln ((Nf m).symm.trans hD);have hc:=Yb8 m V U (by omega);rw[hD,hC,ee];generalize IK (st++[⟨false,1,vC 1 m [] [],false⟩]) b l (HZ m)=r at*;obtain⟨r1,r2⟩:=r;simp (disch:=first|omega|decide) only[push_cast,↓reduceIte,CB,Om,Q5,ik,E5,hc]
 |bytes m=>
  obtain⟨rfl,rfl,rfl,rfl⟩:=Ln ((Nl m).symm.trans hD);rw[W6]at hl;simp only[Ak,Ab,Ap]at hl;rw[hD,hC,W6];obtain⟨key,st1,J,Y,aa,O,ab⟩:=qS U (m:=[48]) (by simp);have E:=RW U (m:=[48]) (by simp) (by simp; omega) true;rw[Y]at E;simp only[Ax,Bk,gO]at E;have hm:=O (m.flatMap DU++[0,0]);rw[show(48::(m.flatMap DU++[0,0]):List UInt8)=[48]++(m.flatMap DU++[0,0])from rfl,hm];have ad:=ab _ _ ae rfl (l++[48]);simp (disch:=first|omega|decide) only[push_cast,↓reduceIte,CB,Om,Q5,iq,E5,rI,ZS,E,ad];refine Ydr _ st1 key J (aa V) (l++[48]) m (by simp only[Ab,Ak,Ap]; omega) _ _ (by simp only[push_cast,↓reduceIte,CB]) (by simp only[push_cast,↓reduceIte,CB]) (by simp only[push_cast,↓reduceIte,CB]) (by simp only[push_cast,↓reduceIte]) fun a0 hf=>?_;have I:=mf (st:=st1) J (l++[48]++m.flatMap DU) [0,0] (by simp) (by simp only[Ab,Ak,Ap]; omega) true;simp only[Ax,Bk,rQ]at I;simp (disch:=first|omega|decide) only[push_cast,↓reduceIte,CB,hf,Yug,I];grind
 |list m=>
  obtain⟨rfl,rfl,rfl,rfl⟩:=Ln ((O7 m).symm.trans hD);rw[Ni]at hl;rw[fI]at hN;simp only[Ak,Ab,Ap]at hl;rw[hD,hC,Ni];obtain⟨key,st1,J,Y,aa,O,ab⟩:=qS U (m:=[64]) (by simp);have E:=RW U (m:=[64]) (by simp) (by simp; omega) true;rw[Y]at E;simp only[Ax,Bk,gN]at E;have hm:=O (m.flatMap Dn++[0]);rw[show(64::(m.flatMap Dn++[0]):List UInt8)=[64]++(m.flatMap Dn++[0])from rfl,hm];have ad:=ab _ _ ae rfl (l++[64]);simp (disch:=first|omega|decide) only[push_cast,↓reduceIte,CB,Om,Q5,ZP,E5,rH,rG,ZS,E,ad];refine Ydq N st1 key J (aa V) (l++[64]) (by simp) m (by omega) (by simp only[Ab,Ak,Ap]; omega) _ _ (by simp only[push_cast,↓reduceIte,CB]) (by simp only[push_cast,↓reduceIte,CB]) (by simp only[push_cast,↓reduceIte,CB]) (by simp only[push_cast,↓reduceIte]) fun a0 hf=>?_;have I:=WH (st:=st1) J (l++[64]++m.flatMap Dn) 0 (by simp only[Ab,Ak,Ap]; omega) true;simp only[rQ]at I;simp (disch:=first|omega|decide) only[push_cast,↓reduceIte,CB,hf,ZS,I];grind
theorem ud:∀ N:Nat,IContract Tryz.prog GG 190 (fc N)∧IContract Tryz.prog GG 190 (R0 N)
 |0=>by
  have J:TblOK Tryz.prog GG (tb [] []):=DC all_nil all_nil;refine⟨IS Yr J fun ds st r E=>?_,IS Yr J fun ds st r E=>?_⟩
  ·obtain⟨v,_,h,_⟩:=Iw E;omega
  ·obtain⟨key,l,v,_,h,_⟩:=Iw E;omega
 |N+1=>by
  have J:TblOK Tryz.prog GG (tb [] [(202,RI),(190,R0 N)]):=DC all_nil (all_cons Yqj (all_cons (ud N).2 all_nil));refine⟨IS Yr J fun ds st r E=>?_,XL Yr J fun ds st r E=>?_⟩
  ·obtain⟨v,I,O,hl,rfl,rfl⟩:=Iw E;exact tt N st _ [] v I (.inl ⟨rfl,rfl⟩) O (by simpa using hl)
  ·obtain⟨key,l,v,I,O,hl,U,hk,rfl,rfl⟩:=Iw E;have M:=(Ac.1 hk).1;refine yo (tt N st _ l v I (.inr ⟨key,rfl,U,hk⟩) O hl) fun d st' h=>?_;simp only[Ro,IK,Dl]at h ⊢;obtain⟨rfl,rfl⟩:=h;refine⟨?_,?_⟩
   ·show Hn st.length (.row key _ 0 _)=_
    simp only[Hn,G2,Gd,G1,M,if_true]
   ·rw[BO _ _ M];exact sM (I.set _ _ fun e=>by cases e) (by rw[B7])
theorem zB{v:Val}{N:Nat}(E:StOK st)(I:DV v<N)(J:(Dn v).length≤4294967000):fc N [.slc 0 [] true,C6 v] st=some (Ro st (.slc 0 [] true) [] v):=KK (Yc5 N) ⟨v,E,I,J,rfl,rfl⟩
def VO(b:List UInt8):D:=.slc (nz 1 (b.map Dd)) (b.map Dd) false
def Kc(v:Val):List UInt8:=if(Dn v).length≤65536 then Dn v else []
def P2(v:Val):Int:=if(Dn v).length≤65536 then 0 else 2
noncomputable def ao:List D→Option D:=De (α:=Val) (fun v=>[C6 v]) (fun v=>DV v≤16∧(Dn v).length≤4294967000) (fun v=>.tup [VO (Kc v),.int .i64 (P2 v)])
theorem yN2(v:Val)(h:DV v≤16∧(Dn v).length≤4294967000):ao [C6 v]=some (.tup [VO (Kc v),.int .i64 (P2 v)]):=
 DX (fun a b h=>by simp only[Aa,and_true,R7]at h; rw[h]) v h
theorem Yi3:Contract Tryz.prog GG 167 ao:=by
 refine Eb (T:=tb [(189,Wi 17)] [(190,fc 17)]) uA (DC (all_cons (tT 17) all_nil) (all_cons (ud 17).1 all_nil)) ?_;rintro v ⟨hd,hl⟩;unfold jC Kc P2;obtain⟨k,n,B,M,hC,O⟩:=Nh v;have U:=pF 17 v ⟨by omega,hl⟩;have I:=zB (N:=17) (st:=[⟨false,1,vC k n B M,false⟩]) (v:=v) (by have:=fq StOK.nil k n B M false; simpa using this) (by omega) hl
 have V:Dn v≠[]:=by
  intro e; have:=mq v; rw[e]at this; simp at this
 have hz:nz 1 ((Dn v).map Dd)=1:=by
  cases he:Dn v with
  |nil=>exact absurd he V
  |cons a r=>rfl
 simp only[Ro,IK,Ae,Ai,Ak,Ap]at I;rw[O]at U I;rw[O];simp (disch:=first|omega|decide) only[push_cast,↓reduceIte,CB,Om,Mc,ZL,YW,U];have Y:¬ ((16:Int)<(DV v:Int)):=by omega
 simp (disch:=first|omega|decide) only[push_cast,↓reduceIte,CB,CC,Y,decide_false,Mc,I]
 by_cases E:(Dn v).length≤65536
 ·rw[if_pos E,if_pos E];have J:¬ ((65536:Int)<((Dn v).length:Int)):=by omega
  simp (disch:=first|omega|decide) only[push_cast,↓reduceIte,CB,J,decide_false,VO]
 ·rw[if_neg E,if_neg E];have J:((65536:Int)<((Dn v).length:Int)):=by omega
  simp (disch:=first|omega|decide) only[push_cast,↓reduceIte,CB,J,decide_true,VO]
def EL:Dig:=Qs [112,97,100] []
def Ii(a b:Dig):Dig:=Qs [110,111,100,101] (a.bs++b.bs)
def atL(l:List Dig)(k:Int)(pad:Dig):Dig:=if k<(l.length:Int)then l.getD k.toNat default else pad
def rm(pad:Dig):List Dig→List Dig
 |[]=>[]
 |[a]=>[Ii a pad]
 |a::b::r=>Ii a b::rm pad r
def I6:Nat→Dig
 |0=>EL
 |n+1=>Ii (I6 n) (I6 n)
def Uv(l:List Dig):Nat→List Dig
 |0=>l
 |n+1=>rm (I6 n) (Uv l n)
def sw(l:List Dig)(level:Nat)(k:Int):Dig:=atL (Uv l level) k (I6 level)
def Gi(n:Nat):Nat:=if n=0 then 0 else n.log2+1
def El(n:Int):Int:=if n<0∨65536<n then -1 else(Gi ((max n 1).toNat - 1):Nat)
theorem Sh(h:n<2 ^ k):Gi n≤k:=by
 unfold Gi
 split
 ·omega
 ·rename_i E;have:n.log2<k:=(Nat.log2_lt E).2 h;omega
theorem yOd:n<2 ^ Gi n:=by
 unfold Gi
 split
 ·omega
 ·rename_i E;exact(Nat.log2_lt E).1 (Cw _)
theorem oc(h:2 ^ k≤n):k+1≤Gi n:=by
 have E:n≠0:=by
  grind
 have:=(Nat.le_log2 E).2 h;unfold Gi;grind
theorem Pl(n k:Nat)(h:2 ^ k≤n):Gi n=k+Gi (n / 2 ^ k):=by
 have I:=yOd (n:=n / 2 ^ k)
 have M:Gi n≤k+Gi (n / 2 ^ k):=by
  apply Sh;rw[Nat.pow_add];exact(Nat.div_lt_iff_lt_mul (Nat.two_pow_pos k)).1 I |> fun x=>by rwa [Cz]
 have N:1≤n / 2 ^ k:=(Nat.one_le_div_iff (Nat.two_pow_pos k)).2 h
 have O:k+Gi (n / 2 ^ k)≤Gi n:=by
  obtain⟨j,hj⟩:∃ j,Gi (n / 2 ^ k)=j+1:=by
   have:=oc (n:=n / 2 ^ k) (k:=0) (by omega);exact⟨Gi (n / 2 ^ k) - 1,by omega⟩
  have J:2 ^ j≤n / 2 ^ k:=by
   rcases A6 (n / 2 ^ k) (2 ^ j)with E | E
   ·have:=Sh E;omega
   ·exact E
  have E:2 ^ (k+j)≤n:=by
   rw[Nat.pow_add]
   calc 2 ^ k*2 ^ j≤2 ^ k*(n / 2 ^ k):=Nat.mul_le_mul_left _ J
    _≤n:=Nat.mul_div_le n (2 ^ k)
  have:=oc E;omega
 omega
def MR(i:Nat)(x:Dig):List Dig→Dig
 |[]=>x
 |q::r=>MR (i / 2) (if i % 2=0 then Ii x q else Ii q x) r
def Hc(c:Int×Dig)(i:Int)(leaf:Dig)(p:List Dig):Bool:=
 decide (0≤El c.1∧0≤i∧i<2 ^ (El c.1).toNat∧(p.length:Int)=El c.1∧MR i.toNat leaf p=c.2)
theorem fK{n:Int}(E:0≤n)(I:n≤65536):El n=(Gi ((max n 1).toNat - 1):Nat)∧0≤El n∧El n≤16:=by
 have e:El n=(Gi ((max n 1).toNat - 1):Nat):=by unfold El; rw[if_neg (by omega)]
 have:Gi ((max n 1).toNat - 1)≤16:=Sh (by omega);omega
theorem Sy{n:Int}(h:n<0∨65536<n):El n=-1:=by unfold El; rw[if_pos h]
theorem eT{a b:Nat}(h:a≤b):(2:Int) ^ a≤2 ^ b:=by
 have E:(2:Nat) ^ a≤2 ^ b:=Nat.pow_le_pow_right (by decide) h;grind
theorem Yfl(a:Nat):(1:Int)≤2 ^ a:=eT (a:=0) (by omega)
theorem Yn3:([0,1,2,2,3,3,3,3,4,4,4,4,4,4,4,4,5,5,5,5,5,5,5,5,5,5,5,5,5,5,5,5,6,6,6,6,6,6,6,6,6,6,6,6,6,6,6,6,6,6,6,6,6,6,6,6,6,6,6,6,6,6,6,6,7,7,7,7,7,7,7,7,7,7,7,7,7,7,7,7,7,7,7,7,7,7,7,7,7,7,7,7,7,7,7,7,7,7,7,7,7,7,7,7,7,7,7,7,7,7,7,7,7,7,7,7,7,7,7,7,7,7,7,7,7,7,7,7,8,8,8,8,8,8,8,8,8,8,8,8,8,8,8,8,8,8,8,8,8,8,8,8,8,8,8,8,8,8,8,8,8,8,8,8,8,8,8,8,8,8,8,8,8,8,8,8,8,8,8,8,8,8,8,8,8,8,8,8,8,8,8,8,8,8,8,8,8,8,8,8,8,8,8,8,8,8,8,8,8,8,8,8,8,8,8,8,8,8,8,8,8,8,8,8,8,8,8,8,8,8,8,8,8,8,8,8,8,8,8,8,8,8,8,8,8,8,8,8,8,8,8,8,8,8,8,8]:List UInt8)=(CL 256).map (fun j=>CO (Gi j)):=by kernel_rfl
theorem N7(j:Nat)(h:j<256):((((CL 256).map (fun j=>CO (Gi j))).getD j default).toNat:Int)=Gi j:=by
 have E:Gi j≤8:=Sh (k:=8) (by omega);simp[Ao,h];omega
theorem yNb:((CL 256).map (fun j=>CO (Gi j))).length=256:=by simp
theorem N6(b:UInt8):JA (.str ((CL 256).map (fun j=>CO (Gi j)))) (Dd b)=some (Dd (((CL 256).map (fun j=>CO (Gi j))).getD b.toNat default)):=Yhh _ b (by rw[yNb]; exact b.toNat_lt)
theorem N8(m:Nat)(h:m<256):(CO m).toNat=m:=by simp; omega
noncomputable def aq:List D→Option D:=De (α:=Int) (fun a=>[.int .u64 a]) (fun a=>0≤a∧a<18446744073709551616) (fun a=>.int .i64 (Gi a.toNat:Int))
theorem yN0(x:Int)(h:0≤x∧x<18446744073709551616):aq [.int .u64 x]=some (.int .i64 (Gi x.toNat:Int)):=
 DX (fun a b h=>by simp only[Aa,D.int.injEq,true_and,and_true]at h; simp[h]) (x) h
theorem Ydo(x:Int)(h:0≤x∧x<18446744073709551616):@wW GG (tb [] []) Yl.code (C5 [.int .u64 x]) [] ⟨Dg Yl.res (.int .i64 (Gi x.toNat:Int))⟩:=by
 obtain⟨V,h1⟩:=h;obtain⟨n,rfl⟩:=Bc V;rw[Bh];have d1:=Pl n 32;have d2:=Pl n 16;have d3:=Pl n 8;have d4:=Pl (n / 2 ^ 32) 16;have d5:=Pl (n / 2 ^ 32) 8;have d6:=Pl (n / 2 ^ 32 / 2 ^ 16) 8;have d7:=Pl (n / 2 ^ 16) 8;have I:∀ y,y<256→Gi y≤8:=fun y hy=>Sh (k:=8) (by omega);unfold Yl;rw[Yn3];simp only[push_cast,↓reduceIte,CB];refine E4 (fun Y=>?_) (fun Y=>?_)
 ·simp (disch:=omega) only[push_cast,↓reduceIte,CB,CN,CS,ME]
  ·refine E4 (fun N=>?_) (fun N=>?_)
   ·simp (disch:=omega) only[push_cast,↓reduceIte,CB,CN,CS,CR,ME,DI]
    ·refine E4 (fun J=>?_) (fun J=>?_)
     ·simp (disch:=omega) only[push_cast,↓reduceIte,CB,CN,CS,CR,ME,DI]
      ·have E:((n:Int) / 4294967296 / 65536 / 256).toNat=n / 2 ^ 32 / 2 ^ 16 / 2 ^ 8:=by omega
       have hb:=I (n / 2 ^ 32 / 2 ^ 16 / 2 ^ 8) (by omega);have M:=d1 (by omega);have O:=d4 (by omega);have aa:=d6 (by omega);simp (disch:=omega) only[push_cast,↓reduceIte,CB,Ms,N6,NW,N7,N8,E,DI];refine congrArg (fun z=>some (D.int .i64 z)) ?_;omega
     ·simp (disch:=omega) only[push_cast,↓reduceIte,CB]
      ·have E:((n:Int) / 4294967296 / 65536).toNat=n / 2 ^ 32 / 2 ^ 16:=by omega
       have hb:=I (n / 2 ^ 32 / 2 ^ 16) (by omega);have M:=d1 (by omega);have O:=d4 (by omega);simp (disch:=omega) only[push_cast,↓reduceIte,CB,Ms,N6,NW,N7,N8,E,DI];refine congrArg (fun z=>some (D.int .i64 z)) ?_;omega
   ·simp (disch:=omega) only[push_cast,↓reduceIte,CB]
    ·refine E4 (fun J=>?_) (fun J=>?_)
     ·simp (disch:=omega) only[push_cast,↓reduceIte,CB,CN,CS,CR,ME,DI]
      ·have E:((n:Int) / 4294967296 / 256).toNat=n / 2 ^ 32 / 2 ^ 8:=by omega
       have hb:=I (n / 2 ^ 32 / 2 ^ 8) (by omega);have M:=d1 (by omega);have ab:=d5 (by omega);simp (disch:=omega) only[push_cast,↓reduceIte,CB,Ms,N6,NW,N7,N8,E,DI];refine congrArg (fun z=>some (D.int .i64 z)) ?_;omega
     ·simp (disch:=omega) only[push_cast,↓reduceIte,CB]
      ·have E:((n:Int) / 4294967296).toNat=n / 2 ^ 32:=by omega
       have hb:=I (n / 2 ^ 32) (by omega);have M:=d1 (by omega);simp (disch:=omega) only[push_cast,↓reduceIte,CB,Ms,N6,NW,N7,N8,E,DI];refine congrArg (fun z=>some (D.int .i64 z)) ?_;omega
 ·simp (disch:=omega) only[push_cast,↓reduceIte,CB]
  ·refine E4 (fun N=>?_) (fun N=>?_)
   ·simp (disch:=omega) only[push_cast,↓reduceIte,CB,CN,CS,CR,ME,DI]
    ·refine E4 (fun J=>?_) (fun J=>?_)
     ·simp (disch:=omega) only[push_cast,↓reduceIte,CB,CN,CS,CR,ME,DI]
      ·have E:((n:Int) / 65536 / 256).toNat=n / 2 ^ 16 / 2 ^ 8:=by omega
       have hb:=I (n / 2 ^ 16 / 2 ^ 8) (by omega);have U:=d2 (by omega);have ac:=d7 (by omega);simp (disch:=omega) only[push_cast,↓reduceIte,CB,Ms,N6,NW,N7,N8,E,DI];refine congrArg (fun z=>some (D.int .i64 z)) ?_;omega
     ·simp (disch:=omega) only[push_cast,↓reduceIte,CB]
      ·have E:((n:Int) / 65536).toNat=n / 2 ^ 16:=by omega
       have hb:=I (n / 2 ^ 16) (by omega);have U:=d2 (by omega);simp (disch:=omega) only[push_cast,↓reduceIte,CB,Ms,N6,NW,N7,N8,E,DI];refine congrArg (fun z=>some (D.int .i64 z)) ?_;omega
   ·simp (disch:=omega) only[push_cast,↓reduceIte,CB]
    ·refine E4 (fun J=>?_) (fun J=>?_)
     ·simp (disch:=omega) only[push_cast,↓reduceIte,CB,CN,CS,CR,ME,DI]
      ·have E:((n:Int) / 256).toNat=n / 2 ^ 8:=by omega
       have hb:=I (n / 2 ^ 8) (by omega);have ad:=d3 (by omega);simp (disch:=omega) only[push_cast,↓reduceIte,CB,Ms,N6,NW,N7,N8,E,DI];refine congrArg (fun z=>some (D.int .i64 z)) ?_;omega
     ·simp (disch:=omega) only[push_cast,↓reduceIte,CB]
      ·have E:((n:Int)).toNat=n:=by omega
       have hb:=I (n) (by omega);simp (disch:=omega) only[push_cast,↓reduceIte,CB,Ms,N6,NW,N7,N8,E,DI];refine congrArg (fun z=>some (D.int .i64 z)) ?_;omega
theorem Yi1:Contract Tryz.prog GG 129 aq:=
 Eb vb (DC all_nil all_nil) (fun a h=>Ydo a h)
noncomputable def Qp:List D→Option D:=De (α:=Unit) (fun _=>[]) (fun _=>True) (fun _=>C3 EL)
theorem Sj:Qp []=some (C3 EL):=
 DX (fun _ _ _=>rfl) () trivial
theorem Yse:@wW GG (tb [(62,QS)] []) XF.code (C5 []) [] ⟨Dg XF.res (C3 EL)⟩:=by
 unfold XF;have c:QS [.str [112,97,100],.slc 0 [] false]=some (C3 EL):=bD [112,97,100] [] (by decide);simp (disch:=omega) only[push_cast,↓reduceIte,CB,c]
theorem YK:Contract Tryz.prog GG 20 Qp:=
 Eb yEc (DC (all_cons eL all_nil) all_nil) (fun a h=>Yse )
noncomputable def lM:List D→Option D:=De (α:=Unit) (fun _=>[]) (fun _=>True) (fun _=>C3 EL)
theorem Ybz:lM []=some (C3 EL):=
 DX (fun _ _ _=>rfl) () trivial
noncomputable def SI:List D→Option D:=De (α:=Dig×Dig) (fun a=>[C3 a.1,C3 a.2]) (fun a=>True) (fun a=>C3 (Ii a.1 a.2))
theorem Lx(a:Dig)(b:Dig):SI [C3 a,C3 b]=some (C3 (Ii a b)):=
 DX (fun⟨a0,a1⟩ ⟨b0,b1⟩ h=>by simp only[Aa,Mt,and_true]at h; simp[h]) (a,b) trivial
theorem yG(a:Dig)(b:Dig):@wW GG (tb [(62,QS)] []) Yd.code (C5 [C3 a,C3 b]) [] ⟨Dg Yd.res (C3 (Ii a b))⟩:=by
 unfold Yd;have ha:=a.len;have hb:=b.len;have hl:(a.bs++b.bs).length=64:=by rw[Ab,ha,hb]
 have c:=bD [110,111,100,101] (a.bs++b.bs) (by rw[hl]; decide);simp (disch:=omega) only[push_cast,↓reduceIte,CB,CC,Ygb,qh,c];rfl
theorem fE:Contract Tryz.prog GG 95 SI:=
 Eb uR (DC (all_cons eL all_nil) all_nil) (fun a h=>yG a.1 a.2)
noncomputable def qu:List D→Option D:=De (α:=Dig×Dig) (fun a=>[C3 a.1,C3 a.2]) (fun a=>True) (fun a=>C3 (Ii a.1 a.2))
theorem yKt(a:Dig)(b:Dig):qu [C3 a,C3 b]=some (C3 (Ii a b)):=
 DX (fun⟨a0,a1⟩ ⟨b0,b1⟩ h=>by simp only[Aa,Mt,and_true]at h; simp[h]) (a,b) trivial
noncomputable def dV:List D→Option D:=De (α:=Int) (fun a=>[.int .u64 a]) (fun a=>0≤a∧a<18446744073709551616) (fun a=>.int .i64 (Gi a.toNat:Int))
theorem Yb7(x:Int)(h:0≤x∧x<18446744073709551616):dV [.int .u64 x]=some (.int .i64 (Gi x.toNat:Int)):=
 DX (fun a b h=>by simp only[Aa,D.int.injEq,true_and,and_true]at h; simp[h]) (x) h
theorem Ysn(x:Int)(h:0≤x∧x<18446744073709551616):@wW GG (tb [(129,aq)] []) Yb.code (C5 [.int .u64 x]) [] ⟨Dg Yb.res (.int .i64 (Gi x.toNat:Int))⟩:=by
 unfold Yb;simp (disch:=omega) only[push_cast,↓reduceIte,CB,yN0]
theorem Yw2:Contract Tryz.prog GG 75 dV:=
 Eb uP (DC (all_cons Yi1 all_nil) all_nil) (fun a h=>Ysn a h)
noncomputable def QR:List D→Option D:=De (α:=Int) (fun a=>[.int .i64 a]) (fun a=>True) (fun a=>.int .i64 (El a))
theorem Oe(n:Int):QR [.int .i64 n]=some (.int .i64 (El n)):=
 DX (fun a b h=>by simp only[Aa,D.int.injEq,true_and,and_true]at h; simp[h]) (n) trivial
theorem Ydk(n:Int):@wW GG (tb [(75,dV)] []) XX.code (C5 [.int .i64 n]) [] ⟨Dg XX.res (.int .i64 (El n))⟩:=by
 unfold XX;simp only[push_cast,↓reduceIte,CB,CD];refine E4 (fun E=>?_) (fun E=>?_)
 ·simp only[push_cast,↓reduceIte,CB,CD,E,Sy (.inl E)]
 ·simp only[push_cast,↓reduceIte,CB,CD,E];refine E4 (fun I=>?_) (fun I=>?_)
  ·simp only[push_cast,↓reduceIte,CD,I,Sy (.inr I)]
  ·have e:(max n 1 - 1).toNat=(max n 1).toNat - 1:=by omega
   have J:=(fK (n:=n) (by omega) (by omega)).1;simp (disch:=omega) only[push_cast,↓reduceIte,CB,I,Fc,Y8,Yb7,J,e]
theorem V5:Contract Tryz.prog GG 25 QR:=
 Eb uD (DC (all_cons Yw2 all_nil) all_nil) (fun a h=>Ydk a)
structure Ins where
 op:Int
 n:Int
 m:Int
 deriving DecidableEq,Inhabited
structure Sta where
 pc:Int
 fuel:Int
 status:Int
 clause:Int
 stack:List Int
 deriving DecidableEq,Inhabited
structure Opn where
 pc:Int
 fuel:Int
 status:Int
 clause:Int
 top:List Int
 depth:Int
 rest:Dig
 deriving DecidableEq
def DA(x:Ins):List D:=[.int .i64 x.op,.int .i64 x.n,.int .i64 x.m]
def C0(x:Ins):D:=.agg (DA x)
def Eo(l:List Int):D:=.slc (nz 1 (l.map nI)) (l.map nI) false
def Er(s:Sta):List D:=[.int .i64 s.pc,.int .i64 s.fuel,.int .i64 s.status,.int .i64 s.clause,Eo s.stack]
def Eg(s:Sta):D:=.agg (Er s)
def EF(o:Opn):List D:=.int .i64 o.pc::.int .i64 o.fuel::.int .i64 o.status::.int .i64 o.clause::Eo o.top::.int .i64 o.depth::CZ o.rest
def DO(o:Opn):D:=.agg (EF o)
def Ed(v:Int×List Int):List D:=.int .i64 v.1::v.2.map nI
def Ew(v:Int×List Int):D:=.agg (Ed v)
theorem QM{a b:List Int}:Eo a=Eo b↔a=b:=by
 refine⟨fun h=>?_,fun h=>by rw[h]⟩;simp only[Eo,D.slc.injEq,and_true]at h;exact QH.1 h.2
theorem QG{a b:Ins}:C0 a=C0 b↔a=b:=by
 obtain⟨a1,E,I⟩:=a; obtain⟨b1,J,M⟩:=b;simp[C0,DA]
theorem J5{a b:List Ins}:a.map C0=b.map C0↔a=b:=⟨N0 fun _ _=>QG.1,fun h=>by rw[h]⟩
theorem Wl{a b:Sta}:Eg a=Eg b↔a=b:=by
 obtain⟨a1,E,I,J,M⟩:=a; obtain⟨b1,N,O,U,V⟩:=b;simp[Eg,Er,QM]
theorem QI{a b:Opn}:DO a=DO b↔a=b:=by
 obtain⟨a1,E,I,J,M,N,O⟩:=a; obtain⟨b1,U,V,Y,b5,b6,b7⟩:=b;simp[DO,EF,QM,N1]
theorem KO{a b:Int×List Int}:Ew a=Ew b↔a=b:=by
 obtain⟨a1,E⟩:=a; obtain⟨b1,I⟩:=b;simp[Ew,Ed,QH]
def On(t:List UInt8)(v:Val):Dig:=Qs t (Kc v)
def Z4:List UInt8:=[112,114,111,103,114,97,109]
def Nv:List UInt8:=[105,110,112,117,116,115]
def Nt:List UInt8:=[115,116,97,99,107]
def Nu:List UInt8:=[115,116,97,116,101]
def sj(d:Dig)(x:Ins):Dig:=On Z4 (.list [.int x.op,.int x.n,.int x.m,.bytes d.bs])
def KF(c:List Ins):Dig:=c.foldl sj Dp
def Ka(v:Int×List Int):Dig:=On Nv (.list [.int v.1,.list (v.2.map .int)])
def se(d:Dig)(n:Int):Dig:=On Nt (.list [.int n,.bytes d.bs])
def Jg(d:Dig)(l:List Int):Dig:=l.foldl se d
def Rq(c:List Ins)(v:Int×List Int)(o:Opn):Dig:=On Nu (.list [.bytes (KF c).bs,.bytes (Ka v).bs,.int o.pc,.int o.fuel,.int o.status,.int o.clause,.int (o.depth+o.top.length),.bytes (Jg o.rest o.top).bs])
def Nm(s:Sta)(n:Int):Nat:=s.stack.length - (min (max n 0) s.stack.length).toNat
def Ot(s:Sta)(n:Int):Opn:=⟨s.pc,s.fuel,s.status,s.clause,s.stack.drop (Nm s n),Nm s n,Jg Dp (s.stack.take (Nm s n))⟩
def Mf(c:List Ins)(v:Int×List Int)(s:Sta):Dig:=Rq c v (Ot s s.stack.length)
def F5(c:List Ins)(v:Int×List Int)(o:Opn):Dig:=if o.depth<0∨64<o.depth then Dp else Rq c v o
theorem wi(n:Int):(HZ n).length≤9:=by
 unfold HZ
 split
 ·have:=QA 8 (D3 n);simp only[Ak,bM]; omega
 ·have:=QA 8 (Le (D3 n));simp only[Ak,bM]; omega
theorem mv:∀ b:List UInt8,(b.flatMap DU).length≤2*b.length
 |[]=>by simp
 |c::b=>by
  have:=mv b;have E:(DU c).length≤2:=by unfold DU; split <;> simp
  simp only[At,Ab,Ak];omega
theorem LL(n:Int):(Dn (.int n)).length≤9:=by rw[ee]; exact wi n
theorem R1(d:Dig):(Dn (.bytes d.bs)).length≤67:=by
 have:=mv d.bs;rw[d.len]at this;rw[W6];simp only[Ak,Ab,Ap];omega
theorem oz:∀ l:List Int,((l.map Val.int).flatMap Dn).length≤9*l.length
 |[]=>by simp
 |n::l=>by
  have:=oz l;have:=LL n;simp only[Ax,At,Ab,Ak];omega
theorem zG(st:St)(key:Nat):Dx st (.bsl key 0 32 1 false)=(Vy st[key]?).map fun p=>.slc (nz 1 p.2) p.2 false:=by
 rw[← ri];simp only[Dx,Hp,Gy]
 cases Ko st key 0 32 1 false with
 |none=>rfl
 |some els=>
  dsimp only
  split <;> rfl
theorem TK(st:St)(v:Val):DP st (C6 v)=some (C6 v):=by
 obtain⟨k,n,B,M,I,E⟩:=Nh v;rw[E,ZL]
theorem RS(v:Val):keys (C6 v)=[]:=by
 obtain⟨k,n,B,M,I,E⟩:=Nh v;rw[E,YW]
theorem wX(v:Val):(C6 v).noRef=false:=by
 obtain⟨k,n,B,M,I,E⟩:=Nh v;rw[E]; rfl
theorem Ybh(v:Val):(C6 v).cells.length=4:=by
 obtain⟨k,n,B,M,I,E⟩:=Nh v;rw[E]; rfl
theorem Wv(l:List Val)(h:l.length≤1000):E2 4 (l.map C6)=some (.slc 4 (l.map C6) true):=by
 have E:((l.map C6).all fun e=>e.cells.length == 4)=true:=by
  rw[Aj];intro e he;obtain⟨v,_,rfl⟩:=AV.1 he;simp[Ybh]
 have I:decide ((l.map C6).length*4≤16777216)=true:=decide_eq_true (by rw[Be]; omega);simp only[E2,E,I];rfl
theorem Ku:Dy (.agg [.int .i64 0,.int .i64 0,.int .i64 0])=some [.int .i64 0,.int .i64 0,.int .i64 0]:=(rfl)
theorem EZ(x:Ins):Dy (C0 x)=some (DA x):=(rfl)
theorem Mn(x:Ins):DZ (some ⟨false,1,[.int .i64 0,.int .i64 0,.int .i64 0],false⟩) 3 0 (C0 x)=some ⟨false,1,DA x,false⟩:=(rfl)
theorem FP(lent:Bool)(x:Ins):Dr (some ⟨false,1,DA x,lent⟩) 1 false 0=some (.int .i64 x.op):=(rfl)
theorem Kt(lent:Bool)(x:Ins):Dr (some ⟨false,1,DA x,lent⟩) 1 false 1=some (.int .i64 x.n):=(rfl)
theorem cX(lent:Bool)(x:Ins):Dr (some ⟨false,1,DA x,lent⟩) 1 false 2=some (.int .i64 x.m):=(rfl)
theorem MN(lent:Bool)(x:Ins):Dr (some ⟨false,1,DA x,lent⟩) 3 true 0=some (C0 x):=(rfl)
theorem JU(st:St)(x:Ins):EO st 3 true (.eptr (C0 x) 0)=some (C0 x):=(rfl)
theorem Yox(st:St)(x:Ins):DP st (C0 x)=some (C0 x):=(rfl)
theorem TI(st:St)(c:List Ins)(t:Bool)(i:Nat)(h:i<c.length):F2 st 3 (.slc (nz 3 (c.map C0)) (c.map C0) t) (.int .i64 (i:Int))=some (.eptr (C0 (c.getD i default)) 0):=by
 have:=KP st 3 C0 c t .i64 (i:Int) (by omega) (by omega);simpa using this
theorem YJ(st:St)(c:List Int)(t:Bool)(i:Nat)(h:i<c.length):F2 st 1 (.slc (nz 1 (c.map nI)) (c.map nI) t) (.int .i64 (i:Int))=some (.eptr (nI (c.getD i default)) 0):=by
 have:=KP st 1 nI c t .i64 (i:Int) (by omega) (by omega);simpa using this
theorem YT(st:St)(n:Int):EO st 1 false (.eptr (nI n) 0)=some (.int .i64 n):=(rfl)
theorem Yh2(n:Int):DG [.int .i64 0,.int .i64 0,.slc 0 [] true,.slc 0 [] true] [(0,1,.int .i64 1),(1,1,.int .i64 n)]=some [.int .i64 1,.int .i64 n,.slc 0 [] true,.slc 0 [] true]:=(rfl)
theorem Yh4(k:Nat):DG [.int .i64 0,.int .i64 0,.slc 0 [] true,.slc 0 [] true] [(0,1,.int .i64 2),(2,1,.bsl k 0 32 1 false)]=some [.int .i64 2,.int .i64 0,.bsl k 0 32 1 false,.slc 0 [] true]:=(rfl)
theorem Yh3(sz:Nat)(l:List D)(t:Bool):DG [.int .i64 0,.int .i64 0,.slc 0 [] true,.slc 0 [] true] [(0,1,.int .i64 3),(3,1,.slc sz l t)]=some [.int .i64 3,.int .i64 0,.slc 0 [] true,.slc sz l t]:=(rfl)
theorem cN(a b c d:D):DZ (some ⟨false,1,[.int .i64 0,.int .i64 0,.slc 0 [] true,.slc 0 [] true],false⟩) 4 0 (.agg [a,b,c,d])=if [a,b,c,d].all D.isCell then some ⟨false,1,[a,b,c,d],false⟩else none:=by
 simp only[DZ];rfl
theorem P0(lent:Bool)(a b c d:D):Dr (some ⟨false,1,[a,b,c,d],lent⟩) 4 true 0=some (.agg [a,b,c,d]):=(rfl)
theorem Yii(k o n s:Nat)(ag:Bool):(D.bsl k o n s ag).isCell=true:=(rfl)
noncomputable def Qr:List D→Option D:=De (α:=Int) (fun a=>[.int .i64 a]) (fun a=>True) (fun a=>C6 (.int a))
theorem Sm(n:Int):Qr [.int .i64 n]=some (C6 (.int n)):=
 DX (fun a b h=>by simp only[Aa,D.int.injEq,true_and,and_true]at h; simp[h]) (n) trivial
theorem Yr0(n:Int):@wW GG (tb [] []) XJ.code (C5 [.int .i64 n]) [] ⟨Dg XJ.res (C6 (.int n))⟩:=by
 unfold XJ;rw[Nf];simp (disch:=first|omega|decide) only[push_cast,↓reduceIte,CB,Ti,Yh2,cN,P0];rfl
theorem YN:Contract Tryz.prog GG 145 Qr:=
 Eb yD8 (DC all_nil all_nil) (fun a h=>Yr0 a)
noncomputable def RM:List D→Option D:=De (α:=Dig) (fun a=>[C3 a]) (fun a=>True) (fun a=>C6 (.bytes a.bs))
theorem fF(d:Dig):RM [C3 d]=some (C6 (.bytes d.bs)):=
 DX (fun a b h=>by simp only[Aa,Mt,and_true]at h; simp[h]) (d) trivial
theorem Yr6(d:Dig):@wW GG (tb [] []) Xm.code (C5 [C3 d]) [] ⟨Dg Xm.res (C6 (.bytes d.bs))⟩:=by
 unfold Xm;rw[Nl];simp (disch:=first|omega|decide) only[push_cast,↓reduceIte,CB,Ti,qh,Yh4,cN,P0,Yii,zG];rfl
theorem iK:Contract Tryz.prog GG 142 RM:=
 Eb yHp (DC all_nil all_nil) (fun a h=>Yr6 a)
noncomputable def M3:List D→Option D:=De (α:=List Val) (fun a=>[.slc (nz 4 (a.map C6)) (a.map C6) false]) (fun a=>True) (fun a=>C6 (.list a))
theorem WJ(l:List Val):M3 [.slc (nz 4 (l.map C6)) (l.map C6) false]=some (C6 (.list l)):=
 DX (fun a b h=>by simp only[Aa,D.slc.injEq,and_true,Ydy]at h; simp[h]) (l) trivial
theorem Yr1(l:List Val):@wW GG (tb [] []) WX.code (C5 [.slc (nz 4 (l.map C6)) (l.map C6) false]) [] ⟨Dg WX.res (C6 (.list l))⟩:=by
 unfold WX;rw[O7];simp (disch:=first|omega|decide) only[push_cast,↓reduceIte,CB,Ti,Yh3,cN,P0];rfl
theorem YM:Contract Tryz.prog GG 141 M3:=
 Eb yLj (DC all_nil all_nil) (fun a h=>Yr1 a)
noncomputable def Qq:List D→Option D:=De (α:=List UInt8×Val) (fun a=>[.str a.1,C6 a.2]) (fun a=>a.1.length≤1000∧DV a.2≤16∧(Dn a.2).length≤4294967000) (fun a=>C3 (On a.1 a.2))
theorem WI(t:List UInt8)(v:Val)(h:t.length≤1000∧DV v≤16∧(Dn v).length≤4294967000):Qq [.str t,C6 v]=some (C3 (On t v)):=
 DX (fun⟨a0,a1⟩ ⟨b0,b1⟩ h=>by simp only[Aa,D.str.injEq,and_true,R7]at h; simp[h]) (t,v) h
theorem Yr3(t:List UInt8)(v:Val)(h:t.length≤1000∧DV v≤16∧(Dn v).length≤4294967000):@wW GG (tb [(167,ao),(62,QS)] []) XI.code (C5 [.str t,C6 v]) [] ⟨Dg XI.res (C3 (On t v))⟩:=by
 unfold XI On;have E:=yN2 v h.2
 have hl:(Kc v).length≤65536:=by
  unfold Kc
  split
  ·assumption
  ·simp
 have J:=bD t (Kc v) (by omega);obtain⟨k,n,B,M,N,I⟩:=Nh v;rw[I]at E;rw[I];simp (disch:=first|omega|decide) only[push_cast,↓reduceIte,CB,Om,Mc,ZL,YW,E,VO,J]
theorem YL:Contract Tryz.prog GG 140 Qq:=
 Eb yD9 (DC (all_cons Yi3 (all_cons eL all_nil)) all_nil) (fun a h=>Yr3 a.1 a.2 h)
theorem ySf(c:List Ins)(x:Ins):KF (c++[x])=sj (KF c) x:=by unfold KF; rw[List.foldl_append]; rfl
theorem Yfk(d:Dig)(x:Ins):Z4.length≤1000∧DV (.list [.int x.op,.int x.n,.int x.m,.bytes d.bs])≤16∧(Dn (.list [.int x.op,.int x.n,.int x.m,.bytes d.bs])).length≤4294967000:=by
 have E:=LL x.op;have I:=LL x.n;have J:=LL x.m;have M:=R1 d;refine⟨by decide,by simp[DV,Hw],?_⟩;rw[Ni];simp only[Ak,Ab,Ap,At,BG];omega
theorem UR(a b c d:Val):E2 4 [C6 a,C6 b,C6 c,C6 d]=some (.slc 4 [C6 a,C6 b,C6 c,C6 d] true):=Wv [a,b,c,d] (by simp)
theorem UP(a b c d:Val):M3 [.slc 4 [C6 a,C6 b,C6 c,C6 d] false]=some (C6 (.list [a,b,c,d])):=WJ [a,b,c,d]
theorem r9(a b:Val):E2 4 [C6 a,C6 b]=some (.slc 4 [C6 a,C6 b] true):=Wv [a,b] (by simp)
theorem sd(a b:Val):M3 [.slc 4 [C6 a,C6 b] false]=some (C6 (.list [a,b])):=WJ [a,b]
theorem UQ(a b c d e f g h:Val):E2 4 [C6 a,C6 b,C6 c,C6 d,C6 e,C6 f,C6 g,C6 h]=some (.slc 4 [C6 a,C6 b,C6 c,C6 d,C6 e,C6 f,C6 g,C6 h] true):=Wv [a,b,c,d,e,f,g,h] (by simp)
theorem UO(a b c d e f g h:Val):M3 [.slc 4 [C6 a,C6 b,C6 c,C6 d,C6 e,C6 f,C6 g,C6 h] false]=some (C6 (.list [a,b,c,d,e,f,g,h])):=WJ [a,b,c,d,e,f,g,h]
noncomputable def dL:List D→Option D:=De (α:=List Ins) (fun a=>[.slc (nz 3 (a.map C0)) (a.map C0) false]) (fun a=>a.length≤4294967296) (fun a=>C3 (KF a))
theorem Ybs(c:List Ins)(h:c.length≤4294967296):dL [.slc (nz 3 (c.map C0)) (c.map C0) false]=some (C3 (KF c)):=
 DX (fun a b h=>by simp only[Aa,D.slc.injEq,and_true,J5]at h; simp[h]) (c) h
theorem Yrz(c:List Ins)(h:c.length≤4294967296):@wW GG (tb [(145,Qr),(142,RM),(141,M3),(140,Qq)] []) XQ.code (C5 [.slc (nz 3 (c.map C0)) (c.map C0) false]) [] ⟨Dg XQ.res (C3 (KF c))⟩:=by
 unfold XQ;simp (disch:=first|omega|decide) only[push_cast,↓reduceIte,CB]
 refine Gr (fun i:Nat=>[(2,.ptr 0 0),(5,.slc (nz 3 (c.map C0)) (c.map C0) false),(6,.int .i64 (c.length:Int)),(7,.int .i64 (i:Int))])
  (fun i=>[⟨false,1,CZ (KF (c.take i)),false⟩]) (fun i=>i≤c.length) (fun i=>c.length - i) 0 (by simp only[push_cast,↓reduceIte,CB,CI,CG,↓CE] <;> rfl) (by omega) ?_
 intro i hi;unfold jP;simp (disch:=first|omega|decide) only[push_cast,↓reduceIte,CB];refine E4 (fun O=>?_) (fun O=>?_)
 ·have E:i<c.length:=by omega
  have J:=TI [⟨false,1,CZ (KF (c.take i)),false⟩] c false i E;have I:=O6 c E;obtain⟨x,M⟩:∃ x,c.getD i default=x:=⟨_,rfl⟩;rw[M]at J I;have N:=WI Z4 (.list [.int x.op,.int x.n,.int x.m,.bytes (KF (c.take i)).bs]) (Yfk _ _);simp only[Z4]at N;simp (disch:=first|omega|decide) only[push_cast,↓reduceIte,CB,CI,CG,CC,J,JU,Ku,Mn,FP,Kt,cX,Sm,fF,TK,RS,UR,UP,N,DI];refine E0 (i+1) (by omega) (by omega) ?_;rw[I,ySf];simp only[push_cast] <;> rfl
 ·obtain rfl:i=c.length:=by omega
  rw[show(c.take c.length)=c from Bg];simp (disch:=first|omega|decide) only[push_cast,↓reduceIte,CB]
theorem Ywo:Contract Tryz.prog GG 143 dL:=
 Eb yB2 (DC (all_cons YN (all_cons iK (all_cons YM (all_cons YL all_nil)))) all_nil) (fun a h=>Yrz a h)
theorem ySy(d:Dig)(l:List Int)(n:Int):Jg d (l++[n])=se (Jg d l) n:=by unfold Jg; rw[List.foldl_append]; rfl
theorem Yf5(d:Dig)(n:Int):Nt.length≤1000∧DV (.list [.int n,.bytes d.bs])≤16∧(Dn (.list [.int n,.bytes d.bs])).length≤4294967000:=by
 have E:=LL n;have I:=R1 d;refine⟨by decide,by simp[DV,Hw],?_⟩;rw[Ni];simp only[Ak,Ab,Ap,At,BG];omega
noncomputable def Wk:List D→Option D:=De (α:=Dig×List Int) (fun a=>[C3 a.1,.slc (nz 1 (a.2.map nI)) (a.2.map nI) false]) (fun a=>a.2.length≤4294967296) (fun a=>C3 (Jg a.1 a.2))
theorem pH(d:Dig)(l:List Int)(h:l.length≤4294967296):Wk [C3 d,.slc (nz 1 (l.map nI)) (l.map nI) false]=some (C3 (Jg d l)):=
 DX (fun⟨a0,a1⟩ ⟨b0,b1⟩ h=>by simp only[Aa,D.slc.injEq,Mt,and_true,QH]at h; simp[h]) (d,l) h
theorem Yk9(d:Dig)(l:List Int)(h:l.length≤4294967296):@wW GG (tb [(145,Qr),(142,RM),(141,M3),(140,Qq)] []) WY.code (C5 [C3 d,.slc (nz 1 (l.map nI)) (l.map nI) false]) [] ⟨Dg WY.res (C3 (Jg d l))⟩:=by
 unfold WY;simp (disch:=first|omega|decide) only[push_cast,↓reduceIte,CB]
 refine Gr (fun i:Nat=>[(2,.ptr 0 0),(4,.ptr 1 0),(7,.slc (nz 1 (l.map nI)) (l.map nI) false),(8,.int .i64 (l.length:Int)),(9,.int .i64 (i:Int))])
  (fun i=>[⟨false,1,CZ (Jg d (l.take i)),false⟩,⟨false,1,CZ Dp,false⟩]) (fun i=>i≤l.length) (fun i=>l.length - i) 0 (by simp only[push_cast,↓reduceIte,CB,CI,CG,CC,↓CE] <;> rfl) (by omega) ?_
 intro i hi;unfold jw;simp (disch:=first|omega|decide) only[push_cast,↓reduceIte,CB];refine E4 (fun O=>?_) (fun O=>?_)
 ·have E:i<l.length:=by omega
  have J:=YJ [⟨false,1,CZ (Jg d (l.take i)),false⟩,⟨false,1,CZ Dp,false⟩] l false i E;have I:=O6 l E;obtain⟨x,M⟩:∃ x,l.getD i default=x:=⟨_,rfl⟩;rw[M]at J I;have N:=WI Nt (.list [.int x,.bytes (Jg d (l.take i)).bs]) (Yf5 _ _);simp only[Nt]at N;simp (disch:=first|omega|decide) only[push_cast,↓reduceIte,CB,CI,CG,CC,J,YT,Sm,fF,TK,RS,r9,sd,N,DI];refine E0 (i+1) (by omega) (by omega) ?_;rw[I,ySy];simp only[push_cast] <;> rfl
 ·obtain rfl:i=l.length:=by omega
  rw[show(l.take l.length)=l from Bg];simp (disch:=first|omega|decide) only[push_cast,↓reduceIte,CB,CC]
theorem uf:Contract Tryz.prog GG 146 Wk:=
 Eb yLi (DC (all_cons YN (all_cons iK (all_cons YM (all_cons YL all_nil)))) all_nil) (fun a h=>Yk9 a.1 a.2 h)
noncomputable def dM:List D→Option D:=De (α:=List Int) (fun a=>[.slc (nz 1 (a.map nI)) (a.map nI) false]) (fun a=>a.length≤4294967296) (fun a=>C3 (Jg Dp a))
theorem Ybr(l:List Int)(h:l.length≤4294967296):dM [.slc (nz 1 (l.map nI)) (l.map nI) false]=some (C3 (Jg Dp l)):=
 DX (fun a b h=>by simp only[Aa,D.slc.injEq,and_true,QH]at h; simp[h]) (l) h
theorem Yry(l:List Int)(h:l.length≤4294967296):@wW GG (tb [(146,Wk)] []) Xk.code (C5 [.slc (nz 1 (l.map nI)) (l.map nI) false]) [] ⟨Dg Xk.res (C3 (Jg Dp l))⟩:=by
 unfold Xk;have hc:=pH Dp l h;simp (disch:=first|omega|decide) only[push_cast,↓reduceIte,CB,hc]
theorem Ywn:Contract Tryz.prog GG 96 dM:=
 Eb yHr (DC (all_cons uf all_nil) all_nil) (fun a h=>Yry a h)
theorem Yot(v:Int×List Int)(h:v.2.length=16):Nv.length≤1000∧DV (.list [.int v.1,.list (v.2.map .int)])≤16∧(Dn (.list [.int v.1,.list (v.2.map .int)])).length≤4294967000:=by
 have J:=LL v.1;have M:=oz v.2
 have E:∀ l:List Int,Hw (l.map .int)=0:=by
  intro l
  induction l with
  |nil=>simp[Hw]
  |cons a l I=>simp[Hw,DV,I]
 refine⟨by decide,by simp[DV,Hw,E],?_⟩;rw[Ni];simp only[Ak,Ab,Ap,At,BG,Ni];omega
theorem fQ(l:List Int):(l.map nI).all D.isCell=true:=WE nI (fun _=>rfl) l
theorem Pd(l:List Int):(l.map nI).all Em=true:=by
 rw[Aj];intro x E;obtain⟨n,_,rfl⟩:=AV.1 E;rfl
theorem eg(v:Int×List Int):Ed v=(v.1::v.2).map nI:=(rfl)
theorem F4(v:Int×List Int):Dy (Ew v)=some (Ed v):=by
 rw[show Dy (Ew v)=if(Ed v).all D.isCell then some (Ed v)else none from rfl,eg,if_pos (fQ _)]
theorem EP(st:St)(v:Int×List Int):DP st (Ew v)=some (Ew v):=Pb st (Pd (v.1::v.2))
theorem GJ(v:Int×List Int):keys (Ew v)=[]:=Pg (Pd (v.1::v.2))
theorem sQ(v:Int×List Int):(Ed v).flatMap hk=[]:=Nk (Pd (v.1::v.2))
theorem lE(m:Nat)(σ:List Nat)(v:Int×List Int):(Ed v).map (Ef m σ)=Ed v:=Mz m σ (Pd (v.1::v.2))
variable {v:Int×List Int}
theorem H9(h:v.2.length=16)(sz:Nat)(lent:Bool):Dr (some ⟨false,sz,Ed v,lent⟩) 17 true 0=some (Ew v):=KJ sz lent _ 17 (by simp[Ed,h])
theorem Yuo(v:Int×List Int)(sz:Nat)(lent:Bool):Dr (some ⟨false,sz,Ed v,lent⟩) 1 false 0=some (.int .i64 v.1):=I1 (A:=[]) (C:=v.2.map nI) rfl rfl
theorem Yun(h:v.2.length=16)(sz:Nat)(lent:Bool):Dr (some ⟨false,sz,Ed v,lent⟩) 16 true 1=some (.agg (v.2.map nI)):=LI (A:=[.int .i64 v.1]) (B:=v.2.map nI) (C:=[]) (by simp[Ed]) rfl (by simp[h])
theorem Yo3(l:List Int)(i:Nat)(h:i<l.length):Ou l.length 1 false (.agg (l.map nI)) (.int .i64 (i:Int))=some (nI (l.getD i default)):=by
 have E:Fm (.int .i64 (i:Int))=some i:=by simp[Fm]
 simp only[Ou,E,if_pos h,BL];refine Yao (A:=(l.take i).map nI) (C:=(l.drop (i+1)).map nI) ?_ (by simp; omega);rw[← Ax,← Bv]
 congr 1
 have:l=l.take i++l.drop i:=(BA _ _).symm;rw[Bf h]at this;rw[Ao,An h];exact this
theorem Yui(a:Val):E2 4 [C6 a]=some (.slc 4 [C6 a] true):=Wv [a] (by simp)
theorem lj(l:List Int):hk (.agg (l.map nI))=[]:=Sa (Pd l)
theorem nE(m:Nat)(σ:List Nat)(l:List Int):Ef m σ (.agg (l.map nI))=.agg (l.map nI):=Pc m σ (Pd l)
noncomputable def dK:List D→Option D:=De (α:=(Int×List Int)) (fun a=>[Ew a]) (fun a=>a.2.length=16) (fun a=>C3 (Ka a))
theorem Ybt(v:Int×List Int)(h:v.2.length=16):dK [Ew v]=some (C3 (Ka v)):=
 DX (fun a b h=>by simp only[Aa,and_true,KO]at h; simp[h]) (v) h
theorem Yr2(v:Int×List Int)(h:v.2.length=16):@wW GG (tb [(145,Qr),(141,M3),(140,Qq)] []) XH.code (C5 [Ew v]) [] ⟨Dg XH.res (C3 (Ka v))⟩:=by
 unfold XH;have U:=WI Nv (.list [.int v.1,.list (v.2.map .int)]) (Yot v h);simp only[Nv]at U;simp (disch:=first|omega|decide) only[push_cast,↓reduceIte,CB,F4,Yun h]
 refine Gr (fun i:Nat=>[(1,.ptr 0 0),(2,.ptr 1 0),(3,DW 0 2 ((v.2.take i).map (C6 ∘ Val.int))),(7,.agg (v.2.map nI)),(8,.int .i64 (i:Int))])
  (fun i=>⟨false,1,Ed v,false⟩::⟨false,1,CZ Dp,false⟩::Ds 4 ((v.2.take i).map (C6 ∘ Val.int))) (fun i=>i≤16) (fun i=>16 - i) 0 (by simp only[push_cast,↓reduceIte,CB,CI,CG,CC,↓CE,sQ,lE,lj,nE] <;> rfl) (by omega) ?_
 intro i hi;unfold jK;simp (disch:=first|omega|decide) only[push_cast,↓reduceIte,CB];refine E4 (fun V=>?_) (fun V=>?_)
 ·have J:i<v.2.length:=by omega
  have O:=Yo3 v.2 i J;rw[h]at O;have M:=O6 v.2 J;obtain⟨x,N⟩:∃ x,v.2.getD i default=x:=⟨_,rfl⟩;rw[N,show nI x=.int .i64 x from rfl]at O;rw[N]at M;have I:=lB (f:=C6 ∘ Val.int) (sz:=4) (sz0:=0) (bytes:=64) (A:=v.2.take i) (x:=x) (t:=true) (a:=⟨false,1,Ed v,false⟩) (b:=⟨false,1,CZ Dp,false⟩) (hs0:=by decide) (hb:=by rw[AQ]; omega) (hl:=by rw[AQ]; omega);simp only[Function.comp_apply]at I;simp (disch:=first|omega|decide) only[push_cast,↓reduceIte,CB,CI,CG,CC,O,Sm,TK,RS,Yui,I,DI];refine E0 (i+1) (by omega) (by omega) ?_;rw[M];simp only[push_cast,sQ,lE,lj,nE] <;> rfl
 ·obtain rfl:i=16:=by omega
  rw[show(v.2.take 16)=v.2 from AS (by omega)];have hb:DP (⟨false,1,Ed v,false⟩::⟨false,1,CZ Dp,false⟩::Ds 4 (v.2.map (C6 ∘ Val.int))) (DW 0 2 (v.2.map (C6 ∘ Val.int)))=some (.slc (nz 4 (v.2.map (C6 ∘ Val.int))) (v.2.map (C6 ∘ Val.int)) false):=sR _ _ 4 0 _;have hl:=WJ (v.2.map Val.int);rw[List.map_map]at hl
  have E:v.2.map (C6 ∘ Val.int)≠[]:=by
   intro e;have:=congrArg List.length e;simp[h]at this
  rw[Qk _ _ _ E,OU _ _ E]at hb;simp (disch:=first|omega|decide) only[push_cast,↓reduceIte,CB,CC,CM,↓CE,Qk _ _ _ E,OU _ _ E,wX,Yuo,Sm,TK,RS,hl,r9,sd,U];rfl
theorem Ywp:Contract Tryz.prog GG 144 dK:=
 Eb yEa (DC (all_cons YN (all_cons YM (all_cons YL all_nil))) all_nil) (fun a h=>Yr2 a h)
theorem Up(st:St)(E:sz≠0)(els:List D)(t:Bool)(h:k≤els.length):Gp st sz (.slc (nz sz els) els t) (some (.int .i64 (k:Int))) none none=some (.slc (nz sz els) (els.drop k) t):=by
 have I:((nz sz els == sz || els.isEmpty) && sz != 0)=true:=by
  cases els <;> simp[nz,E]
 have J:Fm (.int .i64 (k:Int))=some k:=by simp[Fm]
 simp only[Gp,I,if_true,FY,J];rw[if_pos ⟨h,AE _⟩,Bg,beq_self_eq_true,BY]
theorem Uq(st:St)(E:sz≠0)(els:List D)(t:Bool)(h:k≤els.length):Gp st sz (.slc (nz sz els) els t) none (some (.int .i64 (k:Int))) none=some (.slc (nz sz els) (els.take k) (t && k == els.length)):=by
 have I:((nz sz els == sz || els.isEmpty) && sz != 0)=true:=by
  cases els <;> simp[nz,E]
 have J:FY (some (.int .i64 (k:Int))) els.length=some k:=by simp[FY,Fm]
 simp only[Gp,I,if_true,J];simp only[FY];rw[if_pos ⟨Bd _,h⟩,Bt]
theorem Ur(st:St)(E:sz≠0)(els:List D)(t:Bool)(h:k≤els.length):Gp st sz (.slc (nz sz els) els t) none (some (.int .i64 (k:Int))) (some (.int .i64 (k:Int)))=some (.slc (nz sz els) (els.take k) true):=by
 have I:((nz sz els == sz || els.isEmpty) && sz != 0)=true:=by
  cases els <;> simp[nz,E]
 have J:FY (some (.int .i64 (k:Int))) els.length=some k:=by simp[FY,Fm]
 have M:Fm (.int .i64 (k:Int))=some k:=by simp[Fm]
 simp only[Gp,I,if_true,J,M];simp only[FY];rw[if_pos (by simp[h]),Bt]
theorem Yec(s:Sta):(Er s).all D.isCell=true:=(rfl)
theorem Jl(s:Sta):Dy (Eg s)=some (Er s):=(rfl)
theorem Kv:Dy (.agg [.int .i64 0,.int .i64 0,.int .i64 0,.int .i64 0,.slc 0 [] true])=some [.int .i64 0,.int .i64 0,.int .i64 0,.int .i64 0,.slc 0 [] true]:=(rfl)
theorem M4(st:St)(s:Sta):DP st (Eg s)=some (Eg s):=by
 simp only[Eg,Er,Eo,DP,DR,Dx,Km];rfl
theorem Wq(s:Sta):keys (Eg s)=[]:=(rfl)
theorem Jw(lent:Bool)(s:Sta):Dr (some ⟨false,1,Er s,lent⟩) 1 false 0=some (.int .i64 s.pc):=(rfl)
theorem JT(lent:Bool)(s:Sta):Dr (some ⟨false,1,Er s,lent⟩) 1 false 1=some (.int .i64 s.fuel):=(rfl)
theorem J4(lent:Bool)(s:Sta):Dr (some ⟨false,1,Er s,lent⟩) 1 false 2=some (.int .i64 s.status):=(rfl)
theorem M5(lent:Bool)(s:Sta):Dr (some ⟨false,1,Er s,lent⟩) 1 false 3=some (.int .i64 s.clause):=(rfl)
theorem OP(lent:Bool)(s:Sta):Dr (some ⟨false,1,Er s,lent⟩) 1 false 4=some (Eo s.stack):=(rfl)
theorem Lm(lent:Bool)(s:Sta):Dr (some ⟨false,1,Er s,lent⟩) 5 true 0=some (Eg s):=(rfl)
theorem NZ(s:Sta):DZ (some ⟨false,1,[.int .i64 0,.int .i64 0,.int .i64 0,.int .i64 0,.slc 0 [] true],false⟩) 5 0 (Eg s)=some ⟨false,1,Er s,false⟩:=(rfl)
theorem cM(s s':Sta):DZ (some ⟨false,1,Er s,false⟩) 5 0 (Eg s')=some ⟨false,1,Er s',false⟩:=(rfl)
theorem Zd(l:List Int):Eo l=.slc (nz 1 (l.map nI)) (l.map nI) false:=(rfl)
def Ez(a b c d:Int)(t:D)(k:Int)(r:Dig):List D:=.int .i64 a::.int .i64 b::.int .i64 c::.int .i64 d::t::.int .i64 k::CZ r
theorem J3(o:Opn):EF o=Ez o.pc o.fuel o.status o.clause (Eo o.top) o.depth o.rest:=(rfl)
theorem Xd(a b c d:Int)(t:D)(k:Int)(r:Dig):(Ez a b c d t k r).length=38:=by simp[Ez,DK]
variable {t:D}
theorem mV(a b c d:Int)(E:t.isCell=true)(k:Int)(r:Dig):(Ez a b c d t k r).all D.isCell=true:=by
 simp only[Ez,A3,E,qE,Bp];exact Kw (fun _=>rfl) r
theorem OR:(D.int .i64 0::.int .i64 0::.int .i64 0::.int .i64 0::.slc 0 [] true::.int .i64 0::CZ Dp)=Ez 0 0 0 0 (.slc 0 [] true) 0 Dp:=(rfl)
theorem tn(a b c d:Int)(E:t.isCell=true)(k:Int)(r:Dig):Dy (.agg (Ez a b c d t k r))=some (Ez a b c d t k r):=by
 rw[show Dy (.agg (Ez a b c d t k r))=if(Ez a b c d t k r).all D.isCell then some (Ez a b c d t k r)else none from rfl,if_pos (mV a b c d E k r)]
theorem Mr(o:Opn):Dy (DO o)=some (EF o):=by
 rw[DO,J3,tn _ _ _ _ rfl]
theorem Uh(a b c d E b' c' I:Int)(t:D){t':D}(M:t'.isCell=true)(k k':Int)(r J:Dig):DZ (some ⟨false,1,Ez a b c d t k r,false⟩) 38 0 (.agg (Ez E b' c' I t' k' J))=some ⟨false,1,Ez E b' c' I t' k' J,false⟩:=
 Lp 1 _ _ 38 (Xd ..) (Xd ..) (mV _ _ _ _ M _ _)
theorem Q4(lent:Bool)(a b c d:Int)(t:D)(k:Int)(r:Dig):Dr (some ⟨false,1,Ez a b c d t k r,lent⟩) 38 true 0=some (.agg (Ez a b c d t k r)):=KJ 1 lent _ 38 (Xd ..)
theorem sW(lent:Bool)(a b c d:Int)(t:D)(k:Int)(r:Dig):Dr (some ⟨false,1,Ez a b c d t k r,lent⟩) 1 false 0=some (.int .i64 a):=I1 (A:=[]) rfl rfl
theorem sX(lent:Bool)(a b c d:Int)(t:D)(k:Int)(r:Dig):Dr (some ⟨false,1,Ez a b c d t k r,lent⟩) 1 false 1=some (.int .i64 b):=I1 (A:=[.int .i64 a]) rfl rfl
theorem cw(lent:Bool)(a b c d:Int)(t:D)(k:Int)(r:Dig):Dr (some ⟨false,1,Ez a b c d t k r,lent⟩) 1 false 2=some (.int .i64 c):=I1 (A:=[.int .i64 a,.int .i64 b]) rfl rfl
theorem sY(lent:Bool)(a b c d:Int)(t:D)(k:Int)(r:Dig):Dr (some ⟨false,1,Ez a b c d t k r,lent⟩) 1 false 3=some (.int .i64 d):=I1 (A:=[.int .i64 a,.int .i64 b,.int .i64 c]) rfl rfl
theorem cA(lent:Bool)(a b c d:Int)(t:D)(k:Int)(r:Dig):Dr (some ⟨false,1,Ez a b c d t k r,lent⟩) 1 false 4=some t:=I1 (A:=[.int .i64 a,.int .i64 b,.int .i64 c,.int .i64 d]) rfl rfl
theorem To(lent:Bool)(a b c d:Int)(t:D)(k:Int)(r:Dig):Dr (some ⟨false,1,Ez a b c d t k r,lent⟩) 1 false 5=some (.int .i64 k):=I1 (A:=[.int .i64 a,.int .i64 b,.int .i64 c,.int .i64 d,t]) rfl rfl
theorem sZ(lent:Bool)(a b c d:Int)(t:D)(k:Int)(r:Dig):Dr (some ⟨false,1,Ez a b c d t k r,lent⟩) 32 true 6=some (C3 r):=LI (A:=[.int .i64 a,.int .i64 b,.int .i64 c,.int .i64 d,t,.int .i64 k]) (B:=CZ r) (C:=[]) (by simp[Ez]) rfl (DK r)
theorem Ypu(a b c d:Int)(E:t.cells=[t])(hc:t.isCell=true)(k:Int)(r:Dig):DG (Ez 0 0 0 0 (.slc 0 [] true) 0 Dp) [(0,1,.int .i64 a),(1,1,.int .i64 b),(2,1,.int .i64 c),(3,1,.int .i64 d),(4,1,t),(5,1,.int .i64 k),(6,32,C3 r)]=some (Ez a b c d t k r):=by
 refine(IN (cs:=Ez 0 0 0 0 (.slc 0 [] true) 0 Dp) (cs':=Ez a 0 0 0 (.slc 0 [] true) 0 Dp) (A:=[]) (B:=[.int .i64 0]) (xs:=[.int .i64 a]) rfl rfl rfl rfl rfl rfl rfl).trans ?_;refine(IN (cs:=Ez a 0 0 0 (.slc 0 [] true) 0 Dp) (cs':=Ez a b 0 0 (.slc 0 [] true) 0 Dp) (A:=[.int .i64 a]) (B:=[.int .i64 0]) (xs:=[.int .i64 b]) rfl rfl rfl rfl rfl rfl rfl).trans ?_;refine(IN (cs:=Ez a b 0 0 (.slc 0 [] true) 0 Dp) (cs':=Ez a b c 0 (.slc 0 [] true) 0 Dp) (A:=[.int .i64 a,.int .i64 b]) (B:=[.int .i64 0]) (xs:=[.int .i64 c]) rfl rfl rfl rfl rfl rfl rfl).trans ?_;refine(IN (cs:=Ez a b c 0 (.slc 0 [] true) 0 Dp) (cs':=Ez a b c d (.slc 0 [] true) 0 Dp) (A:=[.int .i64 a,.int .i64 b,.int .i64 c]) (B:=[.int .i64 0]) (xs:=[.int .i64 d]) rfl rfl rfl rfl rfl rfl rfl).trans ?_;refine(IN (cs:=Ez a b c d (.slc 0 [] true) 0 Dp) (cs':=Ez a b c d t 0 Dp) (A:=[.int .i64 a,.int .i64 b,.int .i64 c,.int .i64 d]) (B:=[.slc 0 [] true]) (xs:=[t]) rfl rfl rfl rfl E rfl (by simp[hc])).trans ?_;refine(IN (cs:=Ez a b c d t 0 Dp) (cs':=Ez a b c d t k Dp) (A:=[.int .i64 a,.int .i64 b,.int .i64 c,.int .i64 d,t]) (B:=[.int .i64 0]) (xs:=[.int .i64 k]) rfl rfl rfl rfl rfl rfl rfl).trans ?_;refine(IN (cs:=Ez a b c d t k Dp) (cs':=Ez a b c d t k r) (A:=[.int .i64 a,.int .i64 b,.int .i64 c,.int .i64 d,t,.int .i64 k]) (B:=CZ Dp) (C:=[]) (xs:=CZ r) (by simp[Ez]) (by simp[Ez]) rfl (DK _) rfl (DK _) (Kw (fun _=>rfl) r)).trans ?_;rfl
theorem my(a b c d:Int)(sz:Nat)(els:List D)(E:Bool)(k:Int)(r:Dig):DG (Ez 0 0 0 0 (.slc 0 [] true) 0 Dp) [(0,1,.int .i64 a),(1,1,.int .i64 b),(2,1,.int .i64 c),(3,1,.int .i64 d),(4,1,.slc sz els E),(5,1,.int .i64 k),(6,32,C3 r)]=some (Ez a b c d (.slc sz els E) k r):=Ypu a b c d rfl rfl k r
theorem FD(a b c d:Int)(sz:Nat)(els:List D)(E:Bool)(k:Int)(r:Dig):Dy (.agg (Ez a b c d (.slc sz els E) k r))=some (Ez a b c d (.slc sz els E) k r):=tn a b c d rfl k r
theorem Tz(a b c d E b' c' I:Int)(t:D)(sz:Nat)(els:List D)(M:Bool)(k k':Int)(r J:Dig):DZ (some ⟨false,1,Ez a b c d t k r,false⟩) 38 0 (.agg (Ez E b' c' I (.slc sz els M) k' J))=some ⟨false,1,Ez E b' c' I (.slc sz els M) k' J,false⟩:=Uh a b c d E b' c' I t rfl k k' r J
theorem YU(st:St)(a b c d:Int)(sz:Nat)(els:List D)(E:Bool)(k:Int)(r:Dig):DP st (.agg (Ez a b c d (.slc sz els E) k r))=some (.agg (Ez a b c d (.slc (nz sz els) els false) k r)):=by
 simp only[Ez,DP,oi,mF,ew,mH,Bl,Ag]
theorem Fx(st:St)(o:Opn):DP st (DO o)=some (DO o):=by
 rw[DO,J3,Zd,YU,Km]
theorem Jo(o:Opn):keys (DO o)=[]:=by
 simp only[DO,EF,keys,At]
 show []++([]++([]++([]++([]++([]++_)))))=[]
 have:(CZ o.rest).flatMap EY=[]:=nh o.rest;rw[this];rfl
theorem yH(c:List Ins)(v:Int×List Int)(o:Opn):Nu.length≤1000∧DV (.list [.bytes (KF c).bs,.bytes (Ka v).bs,.int o.pc,.int o.fuel,.int o.status,.int o.clause,.int (o.depth+o.top.length),.bytes (Jg o.rest o.top).bs])≤16∧
  (Dn (.list [.bytes (KF c).bs,.bytes (Ka v).bs,.int o.pc,.int o.fuel,.int o.status,.int o.clause,.int (o.depth+o.top.length),.bytes (Jg o.rest o.top).bs])).length≤4294967000:=by
 have E:=R1 (KF c);have I:=R1 (Ka v);have J:=R1 (Jg o.rest o.top);have M:=LL o.pc;have N:=LL o.fuel;have O:=LL o.status;have U:=LL o.clause;have V:=LL (o.depth+o.top.length);refine⟨by decide,by simp[DV,Hw],?_⟩;rw[Ni];simp only[Ak,Ab,Ap,At,BG];omega
noncomputable def Zt:List D→Option D:=De (α:=List Ins×(Int×List Int)×Opn) (fun a=>[.slc (nz 3 (a.1.map C0)) (a.1.map C0) false,Ew a.2.1,DO a.2.2]) (fun a=>a.1.length≤4294967296∧a.2.1.2.length=16∧a.2.2.top.length≤4294967296∧0≤a.2.2.depth∧a.2.2.depth≤4294967296) (fun a=>C3 (Rq a.1 a.2.1 a.2.2))
theorem nV(c:List Ins)(v:Int×List Int)(o:Opn)(h:c.length≤4294967296∧v.2.length=16∧o.top.length≤4294967296∧0≤o.depth∧o.depth≤4294967296):Zt [.slc (nz 3 (c.map C0)) (c.map C0) false,Ew v,DO o]=some (C3 (Rq c v o)):=
 DX (fun⟨a0,a1,E⟩ ⟨b0,b1,I⟩ h=>by simp only[Aa,D.slc.injEq,and_true,J5,QI,KO]at h; simp[h]) (c,v,o) h
theorem Yrx(c:List Ins)(v:Int×List Int)(o:Opn)(h:c.length≤4294967296∧v.2.length=16∧o.top.length≤4294967296∧0≤o.depth∧o.depth≤4294967296):@wW GG (tb [(143,dL),(144,dK),(146,Wk),(145,Qr),(142,RM),(141,M3),(140,Qq)] []) Xq.code (C5 [.slc (nz 3 (c.map C0)) (c.map C0) false,Ew v,DO o]) [] ⟨Dg Xq.res (C3 (Rq c v o))⟩:=by
 obtain⟨hc,hv,I,O,U⟩:=h;unfold Xq;have E:=WI Nu _ (yH c v o);simp only[Nu]at E;have J:=Ybs c hc;have M:=Ybt v hv;have N:=pH o.rest o.top I;simp (disch:=first|omega|decide) only[push_cast,↓reduceIte,CB,CC,F4,Mr,J3,Zd,H9 hv,EP,sW,sX,cw,sY,cA,To,sZ,J,M,N,Sm,fF,TK,RS,DI,UQ,UO,E];rfl
theorem sK:Contract Tryz.prog GG 94 Zt:=
 Eb yHl (DC (all_cons Ywo (all_cons Ywp (all_cons uf (all_cons YN (all_cons iK (all_cons YM (all_cons YL all_nil))))))) all_nil) (fun a h=>Yrx a.1 a.2.1 a.2.2 h)
theorem Ytd(st:St)(l:List Int)(t:Bool)(h:k≤l.length):Gp st 1 (.slc (nz 1 (l.map nI)) (l.map nI) t) (some (.int .i64 (k:Int))) none none=some (.slc (nz 1 (l.map nI)) ((l.drop k).map nI) t):=by
 rw[Up st (by decide) (l.map nI) t (by simpa using h),Cj]
theorem Yte(st:St)(l:List Int)(h:k≤l.length):Gp st 1 (.slc (nz 1 (l.map nI)) (l.map nI) false) none (some (.int .i64 (k:Int))) none=some (.slc (nz 1 (l.map nI)) ((l.take k).map nI) false):=by
 rw[Uq st (by decide) (l.map nI) false (by simpa using h),B2]; rfl
theorem Ytf(st:St)(l:List Int)(t:Bool)(h:k≤l.length):Gp st 1 (.slc (nz 1 (l.map nI)) (l.map nI) t) none (some (.int .i64 (k:Int))) (some (.int .i64 (k:Int)))=some (.slc (nz 1 (l.map nI)) ((l.take k).map nI) true):=by
 rw[Ur st (by decide) (l.map nI) t (by simpa using h),B2]
theorem Yf2(s:Sta)(n:Int):Nm s n≤s.stack.length:=Nat.sub_le _ _
theorem Yf3(s:Sta)(n:Int):(s.stack.length:Int) - min (max n 0) (s.stack.length:Int)=(Nm s n:Int):=by unfold Nm; omega
noncomputable def fp:List D→Option D:=De (α:=Sta×Int) (fun a=>[Eg a.1,.int .i64 a.2]) (fun a=>a.1.stack.length≤4294967296) (fun a=>DO (Ot a.1 a.2))
theorem yX(s:Sta)(n:Int)(h:s.stack.length≤4294967296):fp [Eg s,.int .i64 n]=some (DO (Ot s n)):=
 DX (fun⟨a0,a1⟩ ⟨b0,b1⟩ h=>by simp only[Aa,D.int.injEq,true_and,and_true,Wl]at h; simp[h]) (s,n) h
theorem Yk8(s:Sta)(n:Int)(h:s.stack.length≤4294967296):@wW GG (tb [(96,dM)] []) WW.code (C5 [Eg s,.int .i64 n]) [] ⟨Dg WW.res (DO (Ot s n))⟩:=by
 unfold WW;have hk:=Yf2 s n;have E:=Ybr (s.stack.take (Nm s n)) (by rw[AQ]; omega);have I:min (max n 0) (s.stack.length:Int)≤s.stack.length:=Int.min_le_right _ _;have J:0≤min (max n 0) (s.stack.length:Int):=by omega
 simp (disch:=first|omega|decide) only[push_cast,↓reduceIte,CB,Jl,OR,FD,Jw,JT,J4,M5,OP,Zd,Fc,Yf3,Ytd,Yte,E,my,Tz,Q4,YU,lu,lz];rfl
theorem Yqk:Contract Tryz.prog GG 42 fp:=
 Eb yLk (DC (all_cons Ywn all_nil) all_nil) (fun a h=>Yk8 a.1 a.2 h)
noncomputable def dJ:List D→Option D:=De (α:=List Ins×(Int×List Int)×Sta) (fun a=>[.slc (nz 3 (a.1.map C0)) (a.1.map C0) false,Ew a.2.1,Eg a.2.2]) (fun a=>a.1.length≤4294967296∧a.2.1.2.length=16∧a.2.2.stack.length≤4294967296) (fun a=>C3 (Mf a.1 a.2.1 a.2.2))
theorem Ybu(c:List Ins)(v:Int×List Int)(s:Sta)(h:c.length≤4294967296∧v.2.length=16∧s.stack.length≤4294967296):dJ [.slc (nz 3 (c.map C0)) (c.map C0) false,Ew v,Eg s]=some (C3 (Mf c v s)):=
 DX (fun⟨a0,a1,E⟩ ⟨b0,b1,I⟩ h=>by simp only[Aa,D.slc.injEq,and_true,J5,Wl,KO]at h; simp[h]) (c,v,s) h
theorem Yr4(c:List Ins)(v:Int×List Int)(s:Sta)(h:c.length≤4294967296∧v.2.length=16∧s.stack.length≤4294967296):@wW GG (tb [(42,fp),(94,Zt)] []) XG.code (C5 [.slc (nz 3 (c.map C0)) (c.map C0) false,Ew v,Eg s]) [] ⟨Dg XG.res (C3 (Mf c v s))⟩:=by
 obtain⟨hc,hv,E⟩:=h;unfold XG;have I:=yX s s.stack.length E;have hk:Nm s s.stack.length=0:=by unfold Nm; omega
 have hw:=nV c v (Ot s s.stack.length) ⟨hc,hv,by simp only[Ot,AX]; omega,by simp only[Ot,hk]; omega,by simp only[Ot,hk]; omega⟩;simp (disch:=first|omega|decide) only[push_cast,↓reduceIte,CB,CC,F4,H9 hv,EP,Jl,Lm,OP,Zd,M4,Wq,I,Fx,hw];rfl
theorem Ywq:Contract Tryz.prog GG 49 dJ:=
 Eb yEb (DC (all_cons Yqk (all_cons sK all_nil)) all_nil) (fun a h=>Yr4 a.1 a.2.1 a.2.2 h)
variable {o:Opn}{c:List Ins}
theorem Yba(E:0≤o.depth)(I:o.depth≤64):F5 c v o=Rq c v o:=if_neg (by omega)
theorem Ya9(E:o.depth<0):F5 c v o=Dp:=if_pos (.inl E)
theorem Ybb(E:64<o.depth):F5 c v o=Dp:=if_pos (.inr E)
noncomputable def RN:List D→Option D:=De (α:=List Ins×(Int×List Int)×Opn) (fun a=>[.slc (nz 3 (a.1.map C0)) (a.1.map C0) false,Ew a.2.1,DO a.2.2]) (fun a=>a.1.length≤4294967296∧a.2.1.2.length=16∧a.2.2.top.length≤4294967296) (fun a=>C3 (F5 a.1 a.2.1 a.2.2))
theorem fG(c:List Ins)(v:Int×List Int)(o:Opn)(h:c.length≤4294967296∧v.2.length=16∧o.top.length≤4294967296):RN [.slc (nz 3 (c.map C0)) (c.map C0) false,Ew v,DO o]=some (C3 (F5 c v o)):=
 DX (fun⟨a0,a1,E⟩ ⟨b0,b1,I⟩ h=>by simp only[Aa,D.slc.injEq,and_true,J5,QI,KO]at h; simp[h]) (c,v,o) h
theorem Yr5(c:List Ins)(v:Int×List Int)(o:Opn)(h:c.length≤4294967296∧v.2.length=16∧o.top.length≤4294967296):@wW GG (tb [(94,Zt)] []) Xj.code (C5 [.slc (nz 3 (c.map C0)) (c.map C0) false,Ew v,DO o]) [] ⟨Dg Xj.res (C3 (F5 c v o))⟩:=by
 obtain⟨hc,hv,J⟩:=h;unfold Xj
 by_cases E:o.depth<0
 ·rw[Ya9 E];simp (disch:=first|omega|decide) only[push_cast,↓reduceIte,CB,CC,F4,Mr,J3,To,E]
 ·by_cases I:64<o.depth
  ·rw[Ybb I];simp (disch:=first|omega|decide) only[push_cast,↓reduceIte,CB,CC,F4,Mr,J3,To,E,I]
  ·rw[Yba (by omega) (by omega)];have hw:=nV c v o ⟨hc,hv,J,by omega,by omega⟩;have hi:=fun st=>Fx st o;have hk:=Jo o;rw[DO,J3]at hw hi hk;simp (disch:=first|omega|decide) only[push_cast,↓reduceIte,CB,CC,F4,Mr,J3,To,E,I,H9 hv,EP,Q4,hi,hw]
theorem sJ:Contract Tryz.prog GG 40 RN:=
 Eb yHs (DC (all_cons sK all_nil) all_nil) (fun a h=>Yr5 a.1 a.2.1 a.2.2 h)
end Go.Proofs.YtijnglngaogdjaaGreatDoor.PI
