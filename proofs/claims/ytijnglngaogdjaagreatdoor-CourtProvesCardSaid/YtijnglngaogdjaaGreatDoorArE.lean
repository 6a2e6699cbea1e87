/-
  tvm: openings and their digests.
  Conditions: none; these are lemmas.
-/
import Derived.Test.YtijnglngaogdjaaGreatDoorFns
import Derived.Test.YtijnglngaogdjaaGreatDoorEngI2
import Derived.Test.YtijnglngaogdjaaGreatDoorSha
import Derived.WideKeyElems2
import Derived.LaidMore
import Derived.LaidHandle
import Derived.FnData
import Derived.KernelRfl
import Derived.Test.YtijnglngaogdjaaGreatDoorEngHe
open BitVec renaming ofInt→CR
open Int renaming reduceAdd→C0,reduceLT→CT,reduceMul→C4,reduceNatCast'→CM,reduceNeg→CL,reducePow→CY,reduceSub→C3,reduceToNat→CU
open List renaming range→CS,replicate→CQ
open Nat renaming reduceAdd→CJ,reduceBEq→CZ,reduceEqDiff→CI,reduceLT→CP,reduceLeDiff→CN,reduceMul→CO
open UInt64 renaming ofNat→C7
open UInt8 renaming ofNat→CV
set_option linter.unusedVariables false
set_option linter.unusedSimpArgs false
namespace Go.Proofs.YtijnglngaogdjaaGreatDoor.PI
open Go
set_option linter.unusedSimpArgs false
set_option linter.unusedVariables false
def Fj:List (Int×Nat):=[(3,231),(4,232),(5,233),(6,234),(7,235),(8,236),(9,238),(10,239),(11,240)]
def GG:Dj:=fun n=>if n=0 then some (.gmap Fj)else Rl 1 .u32 (Sha.K.map fun x=>(x.toNat:Int)) n
theorem Gu:GG 0=some (.gmap Fj):=rfl
theorem lK:GG 1=some (.agg (Sha.K.map wD)):=rfl
theorem Xx(k:Int):Dp .and (.int .u64 (IntKind.wrap .u64 k)) (.int .u64 31)=some (.int .u64 ((k % 32).toNat:Int)):=by
 have h:(CR (IntKind.bits .u64) (IntKind.wrap .u64 k) &&& CR (IntKind.bits .u64) 31).toNat=(k % 32).toNat:=by
  show(CR 64 (IntKind.wrap .u64 k) &&& CR 64 31).toNat=_
  rw[CE,show(CR 64 31).toNat=2 ^ 5 - 1 from rfl,BI,BitVec.toNat_ofInt];simp[IntKind.wrap,IntKind.signed,IntKind.bits];omega
 simp only[Dp,if_true,K5,Ag,h,TU]
 congr 2
 omega
noncomputable def gx:List D→Option D:=Dk (α:=UInt32×Int) (fun a=>[wD a.1,.int .i64 a.2]) (fun a=>-31≤a.2∧a.2≤-1) (fun a=>wD (Sha.rotr a.1 (-a.2).toNat))
theorem qd(x:UInt32)(k:Int)(h:-31≤k∧k≤-1):gx [wD x,.int .i64 k]=some (wD (Sha.rotr x (-k).toNat)):=
 D7 (fun⟨a0,a1⟩ ⟨b0,b1⟩ h=>by simp only[Aa,D.int.injEq,Yh6,true_and,and_true]at h; simp[h]) (x,k) h
set_option maxHeartbeats 4000000 in
set_option maxRecDepth 20000 in
theorem Yxx(x:UInt32)(k:Int)(h:-31≤k∧k≤-1):@wW GG (tb [] []) Z9.code (Dc [wD x,.int .i64 k]) [] ⟨Dn Z9.res (wD (Sha.rotr x (-k).toNat))⟩:=by
 obtain⟨O,U⟩:=h;have E:∃ s:Nat,(k % 32).toNat=s∧0<s∧s<32∧(-k).toNat=32 - s:=⟨(k % 32).toNat,rfl,by omega,by omega,by omega⟩;obtain⟨s,I,V,J,M⟩:=E
 have e:Dp .sub (.int .u64 32) (.int .u64 (s:Int))=some (.int .u64 ((32 - s:Nat):Int)):=by
  simp only[Dp,if_true,KX,Ag];rw[show(32 - (s:Int))=((32 - s:Nat):Int) by omega,TU,A7 (by omega)]
 have hc:∀ st,FD st (.int .u64) (.int .i64 k)=some (.int .u64 (IntKind.wrap .u64 k)):=fun _=>rfl
 have N:Sha.rotr x (32 - s)=x <<< UInt32.ofNat s ||| x >>> UInt32.ofNat (32 - s):=by
  unfold Sha.rotr;grind
 unfold Z9;simp only[push_cast,↓reduceIte,CI,hc,Xx,I,e,uR _ _ _ J,uT x .u64 (32 - s) (by omega),Wb,M,N]
theorem YCd:Contract Tryz.prog GG 187 gx:=
 Ed zO (DI all_nil all_nil) (fun a h=>Yxx a.1 a.2 h)
def HA(b:List UInt8)(i:Nat):List UInt32:=Sha.sch b i++CQ (64 - i) 0
theorem ud(b:List UInt8)(i:Nat)(h:i≤64):(HA b i).length=64:=by
 simp[HA,Sha.sch_length]; omega
theorem Yjk(b:List UInt8)(i j:Nat)(h:j<i):(HA b i).getD j default=(Sha.sch b i).getD j 0:=by
 have E:j<(Sha.sch b i).length:=by rw[Sha.sch_length]; exact h
 simp[HA,Al,Au E,E]
theorem pD(b:List UInt8)(i:Nat)(v:UInt32)(h:i<64)(hv:Sha.sch b (i+1)=Sha.sch b i++[v]):(HA b i).set i v=HA b (i+1):=by
 have E:(Sha.sch b i).length=i:=Sha.sch_length b i;unfold HA;rw[hv,Cf _ _ (by omega),E,BQ,show 64 - i=(64 - (i+1))+1 by omega,B1,Bv,Aj];rfl
theorem Yy9(b:List UInt8)(i:Nat)(h:i<16):Sha.sch b (i+1)=Sha.sch b i++[Sha.word b i]:=by
 simp[Sha.sch,h]
theorem Yza(b:List UInt8)(i:Nat)(h:16≤i):Sha.sch b (i+1)=Sha.sch b i++[(Sha.sch b i).getD (i - 16) 0+Sha.sig0 ((Sha.sch b i).getD (i - 15) 0)+(Sha.sch b i).getD (i - 7) 0+Sha.sig1 ((Sha.sch b i).getD (i - 2) 0)]:=by
 simp[Sha.sch,Nat.not_lt.2 h]
theorem ka(s t:Sha.St8)(i:Nat)(h:i<8):(((s.add t).list.take i++s.list.drop i).set i (((s.add t).list.take i++s.list.drop i).getD i default+t.list.getD i default))=(s.add t).list.take (i+1)++s.list.drop (i+1):=by
 rcases i with _ | _ | _ | _ | _ | _ | _ | _ | i <;> first | rfl | omega
noncomputable def iO:List D→Option D:=Dk (α:=Sha.St8×List UInt8) (fun a=>[.agg (Sha.St8.list a.1 |>.map wD),.slc (nz 1 (a.2.map Dl)) (a.2.map Dl) false]) (fun a=>a.2.length=64) (fun a=>.agg ((Sha.block a.1 a.2).list.map wD))
theorem sV(s:Sha.St8)(b:List UInt8)(h:b.length=64):iO [.agg (Sha.St8.list s |>.map wD),.slc (nz 1 (b.map Dl)) (b.map Dl) false]=some (.agg ((Sha.block s b).list.map wD)):=
 D7 (fun⟨a0,a1⟩ ⟨b0,b1⟩ h=>by simp only[Aa,D.slc.injEq,D.agg.injEq,qS,yZi,Sha.St8.list_iff,and_true]at h; simp[h]) (s,b) h
set_option maxHeartbeats 4000000 in
set_option maxRecDepth 20000 in
theorem Yq5(s:Sha.St8)(b:List UInt8)(h:b.length=64):@wW GG (tb [(187,gx)] []) Zw.code (Dc [.agg (Sha.St8.list s |>.map wD),.slc (nz 1 (b.map Dl)) (b.map Dl) false]) [] ⟨Dn Zw.res (.agg ((Sha.block s b).list.map wD))⟩:=by
 unfold Zw;simp only[push_cast,CJ]
 refine F9 (fun i:Nat=>[(1,.slc (nz 1 (b.map Dl)) (b.map Dl) false),(2,.ptr 0 0),(4,.ptr 1 0),(5,.ptr 2 0),(19,.int .i64 (i:Int))])
  (fun i=>[⟨false,1,s.list.map wD,false⟩,⟨false,1,(zW 8).map wD,false⟩,⟨false,1,(HA b i).map wD,false⟩]) (fun i=>i≤16) (fun i=>16 - i) 0 (by simp only[push_cast,↓reduceIte,CI,CP,CN,CJ,↓CM] <;> rfl) (by omega) ?_
 intro i hi;unfold mS;simp only[push_cast,↓reduceIte,CI];refine EU (fun U=>?_) (fun U=>?_)
 ·have O:i<16:=by omega
  have E:(4*(i:Int)).toNat=4*i:=by omega
  have I:(4*(i:Int)+1).toNat=4*i+1:=by omega
  have J:(4*(i:Int)+2).toNat=4*i+2:=by omega
  have M:(4*(i:Int)+3).toNat=4*i+3:=by omega
  have hl:(HA b i).length=64:=ud b i (by omega);have hw:=pD b i (Sha.word b i) (by omega) (Yy9 b i O);simp (disch:=omega) only[push_cast,↓reduceIte,CI,CP,CN,CJ,CU,NX,DN,Ks,Yvu,Yy6,Wb,PJ,E,I,J,M];refine E2 (i+1) (by omega) (by omega) ?_;rw[← hw];rfl
 ·obtain rfl:i=16:=by omega
  simp only[push_cast,↓reduceIte,CJ,CT,↓CM]
  refine F9 (fun i:Nat=>[(2,.ptr 0 0),(4,.ptr 1 0),(5,.ptr 2 0),(7,.int .i64 (i:Int))])
   (fun i=>[⟨false,1,s.list.map wD,false⟩,⟨false,1,(zW 8).map wD,false⟩,⟨false,1,(HA b i).map wD,false⟩]) (fun i=>16≤i∧i≤64) (fun i=>64 - i) 16 (by simp only[push_cast,↓reduceIte,CI,CP,CN,CJ,↓CM] <;> rfl) (by omega) ?_
  intro i hi;unfold mT;simp only[push_cast,↓reduceIte,CI,CL];refine EU (fun V=>?_) (fun V=>?_)
  ·have hl:(HA b i).length=64:=ud b i (by omega);have hw:=pD b i _ (by omega) (Yza b i (by omega));have E:((i:Int) - 15).toNat=i - 15:=by omega
   have I:((i:Int) - 2).toNat=i - 2:=by omega
   have J:((i:Int) - 16).toNat=i - 16:=by omega
   have M:((i:Int) - 7).toNat=i - 7:=by omega
   simp (disch:=omega) only[push_cast,↓reduceIte,CI,CP,CN,CJ,CU,CL,E1,DN,PJ,qd,uV,vV,kr,E,I,J,M,Yjk];refine E2 (i+1) (by omega) (by omega) ?_;rw[← hw];rfl
  ·obtain rfl:i=64:=by omega
   have N:HA b 64=Sha.sch b 64:=by simp[HA]
   have hl:(Sha.sch b 64).length=64:=Sha.sch_length b 64;have ac:s.list.length=8:=rfl;have ad:(zW 8).length=8:=rfl;simp (disch:=first | omega | rfl) only[push_cast,↓reduceIte,CI,CJ,CT,CL,↓CM,N]
   refine F9 (fun i:Nat=>[(2,.ptr 0 0),(4,.ptr 1 0),(5,.ptr 2 0),(12,.ptr 3 0),(102,.int .i64 (i:Int))])
    (fun i=>[⟨false,1,s.list.map wD,false⟩,⟨false,1,(zW 8).map wD,false⟩,⟨false,1,(Sha.sch b 64).map wD,false⟩,⟨false,1,(Sha.rounds (Sha.sch b 64) s i).list.map wD,false⟩]) (fun i=>i≤64) (fun i=>64 - i) 0 (by simp only[push_cast,↓reduceIte,CI,CP,CN,CJ,↓CM] <;> rfl) (by omega) ?_
   intro i hi;unfold mU;simp only[push_cast,↓reduceIte,CI,CL];refine EU (fun Y=>?_) (fun Y=>?_)
   ·have hK:Sha.K.length=64:=rfl;have hn:Sha.rounds (Sha.sch b 64) s (i+1)=Sha.round (Sha.rounds (Sha.sch b 64) s i) (Sha.K.getD i 0) ((Sha.sch b 64).getD i 0):=rfl;generalize Sha.rounds (Sha.sch b 64) s i=r at hn;simp (disch:=omega) only[push_cast,↓reduceIte,CI,CP,CN,CJ,CU,CL,Sha.St8.list,PJ,Yei,J4 _ _ _ _ lK,qd,uV,Xw,Wg,kr,DN];refine E2 (i+1) (by omega) (by omega) ?_;rw[hn];rfl
   ·obtain rfl:i=64:=by omega
    have hb:Sha.block s b=s.add (Sha.rounds (Sha.sch b 64) s 64):=rfl;rw[hb];generalize Sha.rounds (Sha.sch b 64) s 64=r;simp only[push_cast,↓reduceIte,CJ,CT,CL,↓CM]
    refine F9 (fun i:Nat=>[(2,.ptr 0 0),(4,.ptr 1 0),(12,.ptr 3 0),(182,.int .i64 (i:Int))])
     (fun i=>[⟨false,1,((s.add r).list.take i++s.list.drop i).map wD,false⟩,⟨false,1,(zW 8).map wD,false⟩,⟨false,1,(Sha.sch b 64).map wD,false⟩,⟨false,1,r.list.map wD,false⟩]) (fun i=>i≤8) (fun i=>8 - i) 0 (by simp only[push_cast,↓reduceIte,CI,CP,CN,CJ,↓CM] <;> rfl) (by omega) ?_
    intro i hi
    have ae:((s.add r).list.take i++s.list.drop i).length=8:=by
     simp only[Ab,AL,AQ,Sha.St8.list_length]; omega
    have af:r.list.length=8:=rfl;unfold mV;simp only[push_cast,↓reduceIte,CI];refine EU (fun h4=>?_) (fun h4=>?_)
    ·have ha:=ka s r i (by omega);simp (disch:=omega) only[push_cast,↓reduceIte,CI,CP,CN,CJ,PJ,kr,DN];refine E2 (i+1) (by omega) (by omega) ?_;grind
    ·obtain rfl:i=8:=by omega
     have e8:(s.add r).list.take 8++s.list.drop 8=(s.add r).list:=rfl;have ah:(s.add r).list.length=8:=rfl;simp (disch:=first | omega | rfl) only[push_cast,↓reduceIte,CI,CJ,CT,↓CM,e8]
theorem Ywg:Contract Tryz.prog GG 159 iO:=
 Ed yBr (DI (all_cons YCd all_nil) all_nil) (fun a h=>Yq5 a.1 a.2 h)
end Go.Proofs.YtijnglngaogdjaaGreatDoor.PI
namespace Go.Proofs.YtijnglngaogdjaaGreatDoor.PI
open Go Go.WideElems
set_option linter.unusedSimpArgs false
set_option linter.unusedVariables false
def binsD:DataW Unit:=.map [(.int .i64 3,.agg [.iface "func" (.lit (.string [119,97,103,111,110,112,111,111,108,47,109,111,110,101,121,46,65,100,100]))]),(.int .i64 4,.agg [.iface "func" (.lit (.string [119,97,103,111,110,112,111,111,108,47,109,111,110,101,121,46,83,117,98]))]),(.int .i64 5,.agg [.iface "func" (.lit (.string [119,97,103,111,110,112,111,111,108,47,109,111,110,101,121,46,77,117,108]))]),(.int .i64 6,.agg [.iface "func" (.lit (.string [119,97,103,111,110,112,111,111,108,47,116,118,109,46,98,105,110,97,114,105,101,115,36,49]))]),(.int .i64 7,.agg [.iface "func" (.lit (.string [119,97,103,111,110,112,111,111,108,47,116,118,109,46,98,105,110,97,114,105,101,115,36,50]))]),(.int .i64 8,.agg [.iface "func" (.lit (.string [119,97,103,111,110,112,111,111,108,47,116,118,109,46,98,105,110,97,114,105,101,115,36,51]))]),(.int .i64 9,.agg [.iface "func" (.lit (.string [119,97,103,111,110,112,111,111,108,47,116,118,109,46,98,105,110,97,114,105,101,115,36,52]))]),(.int .i64 10,.agg [.iface "func" (.lit (.string [119,97,103,111,110,112,111,111,108,47,116,118,109,46,98,105,110,97,114,105,101,115,36,53]))]),(.int .i64 11,.agg [.iface "func" (.lit (.string [119,97,103,111,110,112,111,111,108,47,116,118,109,46,98,105,110,97,114,105,101,115,36,54]))])]
theorem gB:Tryz.prog.globalNamed "wagonpool/tvm.binaries"=some 0:=by kernel_rfl
theorem tB:(Tryz.prog.globals[0]?).map (·.type)=some 198:=by kernel_rfl
theorem jH:Tryz.prog.underlying 198=some (.map 3 196):=by kernel_rfl
theorem u3:Tryz.prog.underlying 3=some (.int .i64):=by kernel_rfl
def V0:Option TypeDesc→Bool
 |some (.struct fs)=>match fs.toList with
  |[f]=>f.offset == 0 && f.type == 194
  |_=>false
 |_=>false
def WU:Option TypeDesc→Bool
 |some (.func _ _ _)=>true
 |_=>false
theorem VB:V0 (Tryz.prog.underlying 196)=true:=by kernel_rfl
theorem VC:WU (Tryz.prog.underlying 194)=true:=by kernel_rfl
theorem jI:∃ f,Tryz.prog.underlying 196=some (.struct #[f])∧f.offset=0∧f.type=194:=by
 have h:=VB;unfold V0 at h
 split at h
 ·rename_i fs hu
  split at h
  ·rename_i f hf;simp only[Af,beq_iff_eq]at h;have e:fs=#[f]:=Array.ext' hf;subst e;exact⟨f,hu,h.1,h.2⟩
  ·cases h
 ·cases h
theorem Xp:Tryz.prog.cellsOf 196=1:=by kernel_rfl
theorem j6:Tryz.prog.cellsOf 194=1:=by kernel_rfl
theorem jJ:∃ ps rs E,Tryz.prog.underlying 194=some (.func ps rs E):=by
 have h:=VC;unfold WU at h
 split at h
 ·rename_i ps rs E hu; exact⟨ps,rs,E,hu⟩
 ·cases h
variable {k:Int}{v:Value}
theorem YAl{P:Program}{t:TypeId}{kd:IntKind}(I:P.underlying t=some (.int kd))(h:keyOf P t v=some (.int kd k)):v=.int kd k:=by
 unfold keyOf mapKey at h;rw[I]at h;simp only at h
 split at h
 ·rename_i E; cases E
 ·rename_i E; simp only[AO,TypeDesc.int.injEq]at E; subst E
  split at h
  ·simp only[AO,Lit.int.injEq]at h;rename_i J;rw[← J.1,h.2]
  ·cases h
 ·rename_i E; cases E
 ·cases h
theorem xx(h:keyOf Tryz.prog 3 v=some (.int .i64 k)):v=.int .i64 k:=YAl u3 h
theorem ru{k:Int}{f:Nat}:∀ {l:List (Int×Nat)},F6 k l=some f→k∈l.map (·.1)
 |[],h=>by cases h
 |p::r,h=>by
  unfold F6 at h
  split at h
  ·rename_i e; simp[e]
  ·exact Ar _ (ru h)
set_option maxRecDepth 20000 in
theorem Ov{W:World}{n:Nat}{e:MapEntry}{b:UInt8}{r:List UInt8}{f0:FuncId}(N:((CS Tryz.prog.funcs.size).filter fun f=>(Tryz.prog.funcs[f]?).any (·.name.toUTF8.data.toList == b::r))=[f0])
  (h:rd Tryz.prog 3 (elemAt (funcToken Tryz.prog) Tryz.prog W 0 (fun _=>true) true n 196) e=some (.int .i64 k,.agg [.held (b::r)])):e.key=.int .i64 k∧e.val=.agg #[.func (.func f0) #[] #[]]:=by
 constructor
 ·exact xx (rd_key h)
 ·obtain⟨z,J,M⟩:=rd_val h;obtain⟨z1,V⟩:=z;dsimp only at M;subst M;unfold elemAt at J
  split at J
  case isFalse=>cases J
  rename_i E;obtain⟨f,hu,Y,ht⟩:=jI;obtain⟨ps,rs,va,O⟩:=jJ
  cases n with
  |zero=>simp[DataW.trod]at J
  |succ n=>
   unfold Value.formed at E;rw[hu,Xp]at E
   cases hv:e.val with
   |agg cs=>
    rw[hv]at J E;simp only[beq_iff_eq]at E
    obtain⟨v,rfl⟩:∃ v,cs=#[v]:=by
     obtain⟨l⟩:=cs
     match l,E with
     |[v],_=>exact⟨v,rfl⟩
    have I:DataW.trod (funcToken Tryz.prog) Tryz.prog W 0 (fun _=>true) true (n+1) 196 [v]=some (.agg [.held (b::r)],V):=J;rw[DataW.trod_step]at I;unfold DataW.trodStep at I;rw[hu]at I;simp[Xp,Y,ht,j6]at I
    obtain⟨q,hq⟩:∃ q,DataW.trod (funcToken Tryz.prog) Tryz.prog W 0 (fun _=>true) true n 194 [v]=some (.held (b::r),q):=by
     rw[Ay]at I;obtain⟨⟨y1,y2⟩,h1,U⟩:=I;simp at U;exact⟨y2,by rw[h1,U.1]⟩
    rw[func_of_trod O N hq]
   |_=>rw[hv]at E; simp at E
def XF:List (Lit×DataW (List UInt8)):=[(.int .i64 3,.agg [.held [119,97,103,111,110,112,111,111,108,47,109,111,110,101,121,46,65,100,100]]),(.int .i64 4,.agg [.held [119,97,103,111,110,112,111,111,108,47,109,111,110,101,121,46,83,117,98]]),(.int .i64 5,.agg [.held [119,97,103,111,110,112,111,111,108,47,109,111,110,101,121,46,77,117,108]]),(.int .i64 6,.agg [.held [119,97,103,111,110,112,111,111,108,47,116,118,109,46,98,105,110,97,114,105,101,115,36,49]]),(.int .i64 7,.agg [.held [119,97,103,111,110,112,111,111,108,47,116,118,109,46,98,105,110,97,114,105,101,115,36,50]]),(.int .i64 8,.agg [.held [119,97,103,111,110,112,111,111,108,47,116,118,109,46,98,105,110,97,114,105,101,115,36,51]]),(.int .i64 9,.agg [.held [119,97,103,111,110,112,111,111,108,47,116,118,109,46,98,105,110,97,114,105,101,115,36,52]]),(.int .i64 10,.agg [.held [119,97,103,111,110,112,111,111,108,47,116,118,109,46,98,105,110,97,114,105,101,115,36,53]]),(.int .i64 11,.agg [.held [119,97,103,111,110,112,111,111,108,47,116,118,109,46,98,105,110,97,114,105,101,115,36,54]])]
set_option maxRecDepth 20000 in
theorem Yml{W:World}(h:funcsAt Tryz.prog W "wagonpool/tvm.binaries" binsD):∃ b es clock,W.cell? ⟨0,0,none⟩=some (.map (some b))∧W.heap[b]?=some (.map es clock)∧No (.map es clock)=true∧fD es Fj:=by
 obtain⟨g,t,cs,fuel,p,hg,ht,hv,hd⟩:=h;obtain rfl:=AB (gB.symm.trans hg);obtain rfl:=AB (tB.symm.trans ht);have hd':DataW.trod (funcToken Tryz.prog) Tryz.prog W 0 (fun _=>true) true fuel 198 cs.toList=some (.map XF,p):=hd;rcases open_map jH hd' with⟨_,hx⟩ | ⟨b,es,clock,n,rfl,hcs,hb,_,F,hx⟩
 ·cases hx
 simp only[Az,DataW.map.injEq]at hx
 have mem:∀ y,y∈XF↔y∈es.toList.map (rg Tryz.prog 3 (elemAt (funcToken Tryz.prog) Tryz.prog W 0 (fun _=>true) true n 196)):=fun y=>by
  rw[hx.1]; exact(Go.WideShapes.sorted_perm _).mem_iff
 have ent:∀ e∈es.toList,∃ k f,e.key=.int .i64 k∧e.val=.agg #[.func (.func f) #[] #[]]∧f<5000000∧F6 k Fj=some f:=by
  intro e he;obtain⟨y,hy⟩:=F.reads e he;have hm:y∈XF:=(mem y).2 (AW.2 ⟨e,he,rg_of hy⟩);simp only[XF,Ax,AE,or_false]at hm;rcases hm with rfl | rfl | rfl | rfl | rfl | rfl | rfl | rfl | rfl
  ·obtain⟨h1,h2⟩:=Ov (f0:=231) (by kernel_rfl) hy; exact⟨_,_,h1,h2,by decide,rfl⟩
  ·obtain⟨h1,h2⟩:=Ov (f0:=232) (by kernel_rfl) hy; exact⟨_,_,h1,h2,by decide,rfl⟩
  ·obtain⟨h1,h2⟩:=Ov (f0:=233) (by kernel_rfl) hy; exact⟨_,_,h1,h2,by decide,rfl⟩
  ·obtain⟨h1,h2⟩:=Ov (f0:=234) (by kernel_rfl) hy; exact⟨_,_,h1,h2,by decide,rfl⟩
  ·obtain⟨h1,h2⟩:=Ov (f0:=235) (by kernel_rfl) hy; exact⟨_,_,h1,h2,by decide,rfl⟩
  ·obtain⟨h1,h2⟩:=Ov (f0:=236) (by kernel_rfl) hy; exact⟨_,_,h1,h2,by decide,rfl⟩
  ·obtain⟨h1,h2⟩:=Ov (f0:=238) (by kernel_rfl) hy; exact⟨_,_,h1,h2,by decide,rfl⟩
  ·obtain⟨h1,h2⟩:=Ov (f0:=239) (by kernel_rfl) hy; exact⟨_,_,h1,h2,by decide,rfl⟩
  ·obtain⟨h1,h2⟩:=Ov (f0:=240) (by kernel_rfl) hy; exact⟨_,_,h1,h2,by decide,rfl⟩
 have all:∀ k∈Fj.map (·.1),∃ e∈es.toList,e.key=.int .i64 k:=by
  intro k hk
  have hkL:∃ d,(Lit.int .i64 k,d)∈XF:=by
   simp only[Fj,Aw,Bk,Ax,AE,or_false]at hk;rcases hk with rfl | rfl | rfl | rfl | rfl | rfl | rfl | rfl | rfl
   ·exact⟨_,Bb⟩
   ·exact⟨_,Ar _ (Bb)⟩
   ·exact⟨_,Ar _ (Ar _ (Bb))⟩
   ·exact⟨_,Ar _ (Ar _ (Ar _ (Bb)))⟩
   ·exact⟨_,Ar _ (Ar _ (Ar _ (Ar _ (Bb))))⟩
   ·exact⟨_,Ar _ (Ar _ (Ar _ (Ar _ (Ar _ (Bb)))))⟩
   ·exact⟨_,Ar _ (Ar _ (Ar _ (Ar _ (Ar _ (Ar _ (Bb))))))⟩
   ·exact⟨_,Ar _ (Ar _ (Ar _ (Ar _ (Ar _ (Ar _ (Ar _ (Bb)))))))⟩
   ·exact⟨_,Ar _ (Ar _ (Ar _ (Ar _ (Ar _ (Ar _ (Ar _ (Ar _ (Bb))))))))⟩
  obtain⟨d,hd⟩:=hkL;obtain⟨e,he,hre⟩:=AW.1 ((mem _).1 hd);obtain⟨y,hy⟩:=F.reads e he;obtain⟨k',f,h1,h2,_⟩:=ent e he;rw[rg_of hy]at hre;subst hre;have hk:=xx (rd_key hy);exact⟨e,he,hk⟩
 have hc0:W.cell? ⟨0,0,none⟩=some (.map (some b)):=by
  rw[World.var?_cell hg hv 0];obtain⟨l⟩:=cs;have:l=[.map (some b)]:=hcs;rw[this]; rfl
 have hsp:No (.map es clock)=true:=by
  rw[gg];obtain⟨e,he,_⟩:=all 3 (by decide)
  have hlt:0<es.size:=by
   have:=List.length_pos_of_mem he;simpa using this
  rw[BF hlt];obtain⟨k,f,_,h2,_⟩:=ent es[0] (by simp);simp only[h2];rfl
 refine⟨b,es,clock,hc0,hb,hsp,fun e he=>?_,fun k f hf=>?_⟩
 ·exact ent e he
 ·exact all k (ru hf)
theorem globGG{W:World}(hk:Lib.TabIs Tryz.prog W "wagonpool/digest.k" .u32 (Sha.K.map fun x=>(x.toNat:Int)))(gk:Tryz.prog.globalNamed "wagonpool/digest.k"=some 1)(h:funcsAt Tryz.prog W "wagonpool/tvm.binaries" binsD):GlobOK GG W (KW W):=by
 intro n d hd;unfold GG at hd
 split at hd
 ·rename_i e;subst e;simp only[AO]at hd;subst hd;obtain⟨b,es,clock,h1,h2,h3,h4⟩:=Yml h
  have hj:∀ (j:Nat) (d:D),(D.gmap Fj).cells[j]?=some d→j=0∧d=.gmap Fj:=fun j d hd=>by
   cases j with
   |zero=>exact⟨rfl,(AB hd).symm⟩
   |succ j=>cases hd
  refine .eptr _ 0 _ 0 (fun _=>.map (some b)) (fun j d hd=>?_) (fun j d hd=>?_) (fun j d hd=>?_)
  ·obtain⟨rfl,rfl⟩:=hj j d hd; rfl
  ·obtain⟨rfl,rfl⟩:=hj j d hd;exact⟨by show(W.cell? ⟨_,0,none⟩).isSome=true; rw[h1]; rfl,h1⟩
  ·obtain⟨rfl,rfl⟩:=hj j d hd;exact .gmap _ b es clock h2 h3 h4
 ·exact Yu3 hk gk n d hd
end Go.Proofs.YtijnglngaogdjaaGreatDoor.PI
namespace Go.Proofs.YtijnglngaogdjaaGreatDoor.PI
open Go
set_option linter.unusedSimpArgs false
set_option linter.unusedVariables false
theorem Yzv(n:Nat):Dp .mul (.int .u64 (n:Int)) (.int .u64 8)=some (qD (C7 n*8)):=by
 have e:(n:Int)*8=((n*8:Nat):Int):=by omega
 simp only[Dp,if_true,KX,Ag,e,TU,qD]
 congr 3
 simp
theorem j9:D.int .u8 128=Dl 128:=rfl
theorem b0:D.int .u8 0=Dl 0:=rfl
theorem vH(n:Nat)(σ:List Nat)(x:UInt64):EC n σ (qD x)=qD x:=rfl
theorem uK(x:UInt64):hk (qD x)=[]:=rfl
variable {α:Type}
theorem yDj(l:List (List α))(i:Nat):(l.take i).flatten.length≤l.flatten.length:=by
 have:l.flatten=(l.take i).flatten++(l.drop i).flatten:=by rw[← List.flatten_append,Bl]
 rw[this,Ab];omega
theorem tE(s:Sha.St8):∀ (i:Nat) (m:List UInt8),Sha.blocks s (i+1) m=Sha.block (Sha.blocks s i m) ((m.drop (64*i)).take 64)
 |0,m=>by simp[Sha.blocks]
 |i+1,m=>by
  rw[Sha.blocks,tE (Sha.block s (m.take 64)) i (m.drop 64),Sha.blocks,By,show 64+64*i=64*(i+1) by omega]
theorem yWt(m:List UInt8):(Sha.padded m).length=m.length+1+Sha.zeros m.length+8∧(Sha.padded m).length % 64=0:=by
 have h:(Sha.padded m).length=m.length+1+Sha.zeros m.length+8:=by
  simp[Sha.padded,Sha.lenB_length]; omega
 refine⟨h,?_⟩;rw[h]; unfold Sha.zeros; omega
def Lo(l:List UInt32)(i:Nat):List UInt8:=Sha.outB l i++CQ (32 - i) 0
theorem tX(l:List UInt32)(i:Nat)(h:i≤32):(Lo l i).length=32:=by
 simp[Lo,Sha.outB_length]; omega
theorem Yks(l:List UInt32)(i:Nat)(h:i<32):(Lo l i).set i ((l.getD (i / 4) 0 >>> UInt32.ofNat (24 - 8*(i % 4))).toUInt8)=Lo l (i+1):=by
 have E:(Sha.outB l i).length=i:=Sha.outB_length l i;unfold Lo;rw[Sha.outB,Cf _ _ (by omega),E,BQ,show 32 - i=(32 - (i+1))+1 by omega,B1,Bv,Aj];rfl
def kM(sz key tot off:Nat):D:=if off<tot then .row key tot off (tot - off)else .slc sz [] false
variable {key off sz tot:Nat}
theorem iM(h:off<tot):kM sz key tot off=.row key tot off (tot - off):=if_pos h
theorem pT(h:¬ off<tot):kM sz key tot off=.slc sz [] false:=if_neg h
noncomputable def aU:List D→Option D:=Dk (α:=List (List UInt8)) (fun a=>[.slc (nz 1 (a.map LK)) (a.map LK) false]) (fun a=>a.flatten.length≤4294960000∧a.length≤4294960000) (fun a=>C9 (Me a.flatten))
theorem Ynl(ps:List (List UInt8))(h:ps.flatten.length≤4294960000∧ps.length≤4294960000):aU [.slc (nz 1 (ps.map LK)) (ps.map LK) false]=some (C9 (Me ps.flatten)):=
 D7 (fun a b h=>by simp only[Aa,D.slc.injEq,Ywj,and_true]at h; simp[h]) (ps) h
set_option maxHeartbeats 4000000 in
set_option maxRecDepth 20000 in
theorem Vq(ps:List (List UInt8))(h:ps.flatten.length≤4294960000∧ps.length≤4294960000):@wW GG (tb [(159,iO)] []) Y8.code (Dc [.slc (nz 1 (ps.map LK)) (ps.map LK) false]) [] ⟨Dn Y8.res (C9 (Me ps.flatten))⟩:=by
 obtain⟨h,a9⟩:=h;generalize hm:ps.flatten=m at h;unfold Y8;simp only[push_cast,↓reduceIte,CI,Yk0 1]
 refine F9 (fun i:Nat=>[(2,.ptr 0 0),(3,Ec 0 1 ((ps.take i).flatten.map Dl)),(10,.slc (nz 1 (ps.map LK)) (ps.map LK) false),(11,.int .i64 (ps.length:Int)),(12,.int .i64 (i:Int))])
  (fun i=>⟨false,1,C8 Du,false⟩::DC 1 ((ps.take i).flatten.map Dl)) (fun i=>i≤ps.length) (fun i=>ps.length - i) 0 (by simp only[push_cast,↓reduceIte,CI,CP,CN,↓CM] <;> rfl) (by omega) ?_
 intro i hi;unfold mq;simp only[push_cast,↓reduceIte,CI];refine EU (fun h1=>?_) (fun h1=>?_)
 ·have e:(ps.take (i+1)).flatten=(ps.take i).flatten++ps.getD i default:=by
   rw[sg ps i (by omega),List.flatten_append]; simp
  have hl:=yDj ps (i+1);rw[e,Ab,hm]at hl;simp (disch:=first|omega|decide) only[push_cast,↓reduceIte,CI,CP,CN,Ks,DN];refine E2 (i+1) (by omega) (by omega) ?_;rw[e];simp only[push_cast] <;> rfl
 ·obtain rfl:i=ps.length:=by omega
  rw[Bj,hm];have O:(m++[128]).map Dl≠[]:=by simp
  simp (disch:=first|omega|decide) only[push_cast,↓reduceIte,CI,bj,Yzv,j9,RY _ _ _ O,Qs _ _ O];generalize hq:C7 m.length*8=q
  refine F9 (fun j:Nat=>[(2,.ptr 0 0),(3,.row 1 (m++[128]++CQ j 0).length 0 (m++[128]++CQ j 0).length),(6,qD q)])
   (fun j=>[⟨false,1,C8 Du,false⟩,⟨true,1,(m++[128]++CQ j 0).map Dl,false⟩]) (fun j=>j≤Sha.zeros m.length) (fun j=>Sha.zeros m.length - j) 0 (by simp only[push_cast,↓reduceIte,CI,CP,CN,CJ,List.replicate_zero,Ad] <;> rfl) (by omega) ?_
  intro j hj;have hlen:(m++[128]++CQ j 0).length=m.length+1+j:=by simp; omega
  have ba:(m.length+1+Sha.zeros m.length) % 64=56:=by unfold Sha.zeros; omega
  have hz:Sha.zeros m.length<64:=by unfold Sha.zeros; omega
  unfold mu;simp (disch:=first|omega|decide) only[push_cast,↓reduceIte,CI,P9];refine EU (fun h2=>?_) (fun h2=>?_)
  ·obtain rfl:j=Sha.zeros m.length:=by
    unfold Sha.zeros at hj ⊢; omega
   simp only[push_cast,↓reduceIte,CJ];have U:(m++[128]++CQ (Sha.zeros m.length) 0)=(m++[128]++CQ (Sha.zeros m.length) 0)++Sha.lenB q 0:=(Ad _).symm;generalize hM:m++[128]++CQ (Sha.zeros m.length) 0=M at hlen U h2
   refine F9 (fun j:Nat=>[(2,.ptr 0 0),(3,.row 1 (M++Sha.lenB q j).length 0 (M++Sha.lenB q j).length),(6,qD q),(7,.int .i64 (56 - 8*(j:Int)))])
    (fun j=>[⟨false,1,C8 Du,false⟩,⟨true,1,(M++Sha.lenB q j).map Dl,false⟩]) (fun j=>j≤8) (fun j=>8 - j) 0 (by rw[← U]; simp only[push_cast,↓reduceIte,CI,CP,CN,CJ,C4,C3,↓CM] <;> rfl) (by omega) ?_
   intro j hj;have V:(M++Sha.lenB q j).length=M.length+j:=by rw[Ab,Sha.lenB_length]
   unfold mv;simp only[push_cast,↓reduceIte,CI];refine EU (fun N=>?_) (fun N=>?_)
   ·have e:(56 - 8*(j:Int)).toNat=56 - 8*j:=by omega
    have Y:M++Sha.lenB q (j+1)=(M++Sha.lenB q j)++[(q >>> C7 (56 - 8*j)).toUInt8]:=by rw[Sha.lenB,Aj]
    simp (disch:=first|omega|decide) only[push_cast,↓reduceIte,CI,CP,CN,CJ,Yy4,Yvt,e,E1];refine E2 (j+1) (by omega) (by omega) ?_;rw[Y];have e4:(56 - 8*(j:Int) - 8)=56 - 8*((j+1:Nat):Int):=by omega
    simp only[push_cast,vH,uK,e4] <;> rfl
   ·obtain rfl:j=8:=by omega
    have hP:M++Sha.lenB q 8=Sha.padded m:=by rw[← hM,← hq]; rfl
    rw[hP];rw[hP]at V;obtain⟨ac,ad⟩:=yWt m;have ae:Me m=⟨Sha.outB (Sha.blocks Sha.H0 ((Sha.padded m).length / 64) (Sha.padded m)).list 32,Sha.outB_length _ 32⟩:=rfl;rw[ae];generalize Sha.padded m=E at V ac ad;have hH:Sha.H0.list.length=8:=rfl;have bb:(zW 8).length=8:=rfl;simp (disch:=omega) only[push_cast,↓reduceIte,CI,CJ,Int.reduceLE,CL,C4,C3,↓CM,YBk]
    refine F9 (fun j:Nat=>[(2,.ptr 0 0),(3,kM 1 1 E.length (64*j)),(8,.ptr 2 0)])
     (fun j=>[⟨false,1,C8 Du,false⟩,⟨true,1,E.map Dl,false⟩,⟨false,1,(Sha.blocks Sha.H0 j E).list.map wD,false⟩]) (fun j=>j≤E.length / 64) (fun j=>E.length / 64 - j) 0 (by rw[iM (by omega)]; simp only[push_cast,↓reduceIte,CI,CP,CN,CJ,CO,CL] <;> rfl) (by omega) ?_
    intro j hj;unfold mw;rcases Ba (64*j) E.length with h4 | h4
    ·have bc:((E.drop (64*j)).take 64).length=64:=by simp; omega
     have J:=tE Sha.H0 j E;generalize Sha.blocks Sha.H0 j E=I at J;have ah:I.list.length=8:=rfl;have bd:(Sha.block I ((E.drop (64*j)).take 64)).list.length=8:=rfl;have c1:((0:Int)<((E.length - 64*j:Nat):Int)):=by omega
     have c2:((0:Int)<(E.length:Int) - 64*(j:Int)):=by omega
     have c3:¬ (64=E.length - 64*j)∨E.length - 64*j=64:=by omega
     rw[iM h4]
     by_cases h5:E.length - 64*j=64
     ·simp (disch:=omega) only[push_cast,↓reduceIte,CI,CP,CN,CJ,CT,CU,↓CM,xX,sV,h5];refine E2 (j+1) (by omega) (by omega) ?_;rw[pT (by omega),J]
     ·have h6:¬ 64=E.length - 64*j:=fun e=>h5 e.symm;simp (disch:=omega) only[push_cast,↓reduceIte,CI,CP,CN,CJ,Nat.reduceSub,CU,↓CM,c2,xX,sV,h6];refine E2 (j+1) (by omega) (by omega) ?_;rw[iM (by omega),J];simp only[Nat.mul_add,BR,Nat.sub_sub]
    ·obtain rfl:j=E.length / 64:=by omega
     rw[pT (by omega)];generalize Sha.blocks Sha.H0 (E.length / 64) E=I;have ah:I.list.length=8:=rfl;simp only[push_cast,↓reduceIte,CI,CJ,CT]
     refine F9 (fun j:Nat=>[(2,.ptr 0 0),(8,.ptr 2 0),(55,.int .i64 (j:Int))])
      (fun j=>[⟨false,1,(Lo I.list j).map Dl,false⟩,⟨true,1,E.map Dl,false⟩,⟨false,1,I.list.map wD,false⟩]) (fun j=>j≤32) (fun j=>32 - j) 0 (by simp only[push_cast,↓reduceIte,CI,CP,CN,CJ,↓CM] <;> rfl) (by omega) ?_
     intro j hj;unfold my;simp only[push_cast,↓reduceIte,CI];refine EU (fun h6=>?_) (fun h6=>?_)
     ·have a1:=tX I.list j (by omega);have a2:=Yks I.list j (by omega);have e1:((j:Int) / 4).toNat=j / 4:=by omega
      have Y:(24 - 8*((j:Int) % 4)).toNat=24 - 8*(j % 4):=by omega
      simp (disch:=omega) only[push_cast,↓reduceIte,CI,CP,CN,CJ,OU,P9,NX,E1,DN,PJ,vV,Yvs,e1,Y];refine E2 (j+1) (by omega) (by omega) ?_;rw[← a2];simp only[push_cast] <;> rfl
     ·obtain rfl:j=32:=by omega
      have a1:=tX I.list 32 (by omega);simp (disch:=omega) only[push_cast,↓reduceIte,CI,CJ,CT,↓CM];rw[show Lo I.list 32=Sha.outB I.list 32 from Ad _];rfl
  ·simp (disch:=first|omega|decide) only[push_cast,↓reduceIte,CI,CP,CN,CJ,b0]
   have h9:j<Sha.zeros m.length:=by
    rcases Ba j (Sha.zeros m.length)with N | N
    ·exact N
    ·exfalso;obtain rfl:j=Sha.zeros m.length:=by omega
     omega
   refine E2 (j+1) (by omega) (by omega) ?_
   have e:m++[128]++CQ (j+1) 0=(m++[128]++CQ j 0)++[0]:=by
    rw[List.replicate_succ',Aj,Aj,Aj]
   rw[e];simp only[push_cast,vH,uK] <;> rfl
theorem Xi:Contract Tryz.prog GG 116 aU:=
 Ed yHl (DI (all_cons Ywg all_nil) all_nil) (fun a h=>Vq a h)
noncomputable def Sq:List D→Option D:=Dk (α:=List UInt8×List UInt8) (fun a=>[.str a.1,.slc (nz 1 (a.2.map Dl)) (a.2.map Dl) false]) (fun a=>a.1.length+a.2.length≤4294900000) (fun a=>C9 (R3 a.1 a.2))
theorem eW(t:List UInt8)(b:List UInt8)(h:t.length+b.length≤4294900000):Sq [.str t,.slc (nz 1 (b.map Dl)) (b.map Dl) false]=some (C9 (R3 t b)):=
 D7 (fun⟨a0,a1⟩ ⟨b0,b1⟩ h=>by simp only[Aa,D.slc.injEq,D.str.injEq,qS,and_true]at h; simp[h]) (t,b) h
theorem Yge(x:UInt8)(t b:List UInt8)(h:t.length+b.length≤4294950000) :
  aU [.slc 1 [.slc 1 [Dl x] false,.slc (nz 1 (t.map Dl)) (t.map Dl) false,.slc (nz 1 (b.map Dl)) (b.map Dl) false] false]=some (C9 (Me (x::(t++b)))):=by
 have:=Ynl [[x],t,b] ⟨by simp; omega,by simp⟩;rw[show([[x],t,b]:List (List UInt8)).flatten=x::(t++b) by simp]at this;exact this
set_option maxHeartbeats 4000000 in
set_option maxRecDepth 20000 in
theorem Yia(t:List UInt8)(b:List UInt8)(h:t.length+b.length≤4294900000):@wW GG (tb [(116,aU)] []) ZI.code (Dc [.str t,.slc (nz 1 (b.map Dl)) (b.map Dl) false]) [] ⟨Dn ZI.res (C9 (R3 t b))⟩:=by
 unfold ZI;have I:(min (t.length:Int) 255).toNat=min t.length 255:=by omega
 have J:t.take (min t.length 255)=t.take 255:=by
  rcases Nat.le_total t.length 255 with E | E
  ·rw[B8 E,Bj,AI E]
  ·rw[Nat.min_eq_right E]
 have hl:(t.take 255).length≤255:=by simp; omega
 have M:(t.take 255).length≤t.length:=by simp; omega
 simp (disch:=omega) only[push_cast,↓reduceIte,CI,yV9,I,J,NM,Yge];rfl
theorem gZ:Contract Tryz.prog GG 62 Sq:=
 Ed yN (DI (all_cons Xi all_nil) all_nil) (fun a h=>Yia a.1 a.2 h)
set_option maxHeartbeats 8000000
set_option maxRecDepth 20000
def nI(n:Int):D:=.int .i64 n
variable {a b:Int}
theorem Yzt:nI a=nI b↔a=b:=by simp[nI]
theorem Sd{a b:List Int}:a.map nI=b.map nI↔a=b:=⟨Py fun _ _=>Yzt.1,fun h=>by rw[h]⟩
theorem kO(n:Int):IntKind.wrap .u64 n=n % 18446744073709551616:=rfl
theorem iN{n:Int}(E:0≤n)(I:n<18446744073709551616):IntKind.wrap .u64 n=n:=by rw[kO]; omega
theorem Xz(E:0≤a+b)(I:a+b<18446744073709551616):Dp .add (.int .u64 a) (.int .u64 b)=some (.int .u64 (a+b)):=by
 simp only[Dp,if_true,KX,Ag,iN E I]
theorem Wl(E:0≤a*b)(I:a*b<18446744073709551616):Dp .mul (.int .u64 a) (.int .u64 b)=some (.int .u64 (a*b)):=by
 simp only[Dp,if_true,KX,Ag,iN E I]
theorem Yzu(a b:Int):Dp .mul (.int .u64 a) (.int .u64 b)=some (.int .u64 ((a*b) % 18446744073709551616)):=by
 rfl
theorem yKz(E:0≤a)(I:a<18446744073709551616):(CR 64 a).toNat=a.toNat:=by
 grind
theorem Yot(E:0≤a)(I:a<18446744073709551616):Dp .and (.int .u64 a) (.int .u64 4294967295)=some (.int .u64 (a % 4294967296)):=by
 have h:(CR (IntKind.bits .u64) a &&& CR (IntKind.bits .u64) 4294967295).toNat=(a % 4294967296).toNat:=by
  show(CR 64 a &&& CR 64 4294967295).toNat=_
  rw[CE,yKz E I,show(CR 64 4294967295).toNat=2 ^ 32 - 1 from rfl,BI];omega
 simp only[Dp,if_true,K5,Ag,h];rw[iN (by omega) (by omega)]
 congr 2
 omega
theorem cR(I:0≤a)(hb:0≤b)(E:a≤4294967295)(J:b≤4294967295):0≤a*b∧a*b≤18446744065119617025:=by
 refine⟨Int.mul_nonneg I hb,?_⟩;have M:a*b≤4294967295*b:=Cg E hb;omega
theorem mul4(a b c d:Int):a*b*(c*d)=a*c*(b*d):=by rw[Int.mul_assoc,Int.mul_left_comm b,← Int.mul_assoc]
theorem Yc0(x y:Int):x*y=(x / 4294967296)*(y / 4294967296)*18446744073709551616+((x / 4294967296)*(y % 4294967296)+(x % 4294967296)*(y / 4294967296))*4294967296+(x % 4294967296)*(y % 4294967296):=by
 have E:x=(x / 4294967296)*4294967296+x % 4294967296:=(Ch x 4294967296).symm;have I:y=(y / 4294967296)*4294967296+y % 4294967296:=(Ch y 4294967296).symm
 conv=>lhs; rw[E,I]
 grind
noncomputable def bB:List D→Option D:=Dk (α:=Int×Int) (fun a=>[.int .u64 a.1,.int .u64 a.2]) (fun a=>0≤a.1∧a.1<18446744073709551616∧0≤a.2∧a.2<18446744073709551616) (fun a=>.tup [.int .u64 (a.1*a.2 / 18446744073709551616),.int .u64 (a.1*a.2 % 18446744073709551616)])
theorem qW(x:Int)(y:Int)(h:0≤x∧x<18446744073709551616∧0≤y∧y<18446744073709551616):bB [.int .u64 x,.int .u64 y]=some (.tup [.int .u64 (x*y / 18446744073709551616),.int .u64 (x*y % 18446744073709551616)]):=
 D7 (fun⟨a0,a1⟩ ⟨b0,b1⟩ h=>by simp only[Aa,D.int.injEq,true_and,and_true]at h; simp[h]) (x,y) h
theorem Yx7(x:Int)(y:Int)(h:0≤x∧x<18446744073709551616∧0≤y∧y<18446744073709551616):@wW GG (tb [] []) ZU.code (Dc [.int .u64 x,.int .u64 y]) [] ⟨Dn ZU.res (.tup [.int .u64 (x*y / 18446744073709551616),.int .u64 (x*y % 18446744073709551616)])⟩:=by
 obtain⟨I,J,M,N⟩:=h;have e:=Yc0 x y;have ha:=cR (a:=x / 4294967296) (b:=y / 4294967296) (by omega) (by omega) (by omega) (by omega);have hb:=cR (a:=x / 4294967296) (b:=y % 4294967296) (by omega) (by omega) (by omega) (by omega);have hc:=cR (a:=x % 4294967296) (b:=y / 4294967296) (by omega) (by omega) (by omega) (by omega);have O:=cR (a:=x % 4294967296) (b:=y % 4294967296) (by omega) (by omega) (by omega) (by omega);unfold ZU;simp (disch:=omega) only[push_cast,↓reduceIte,CI,CU,CY,Yot,NY,Wl,Xz,Yzu x y];rw[e];generalize (x / 4294967296)*(y / 4294967296)=a at*;generalize (x / 4294967296)*(y % 4294967296)=b at*;generalize (x % 4294967296)*(y / 4294967296)=c at*;generalize (x % 4294967296)*(y % 4294967296)=d at*;have E:a+(b+d / 4294967296) / 4294967296+((b+d / 4294967296) % 4294967296+c) / 4294967296=(a*18446744073709551616+(b+c)*4294967296+d) / 18446744073709551616:=by omega
 rw[E]
theorem vK:Contract Tryz.prog GG 169 bB:=
 Ed ze (DI all_nil all_nil) (fun a h=>Yx7 a.1 a.2 h)
def F1(x:Int):Bool:=decide (-9007199254740992≤x) && decide (x≤9007199254740992)
theorem Px{x:Int}:F1 x=true↔-9007199254740992≤x∧x≤9007199254740992:=by simp[F1]
theorem xC{x:Int}:F1 x=false↔x < -9007199254740992∨9007199254740992<x:=by
 rw[← Bool.not_eq_true,Px]; omega
variable {i:Nat}
theorem Ym4{l:List Int}(h:i<l.length):(l.drop i).all F1=(F1 (l.getD i default) && (l.drop (i+1)).all F1):=by
 rw[A9 h,AZ];grind
noncomputable def Oq:List D→Option D:=Dk (α:=List Int) (fun a=>[.slc (nz 1 (a.map nI)) (a.map nI) false]) (fun a=>a.length≤65536) (fun a=>.bool (a.all F1))
theorem p8(l:List Int)(h:l.length≤65536):Oq [.slc (nz 1 (l.map nI)) (l.map nI) false]=some (.bool (l.all F1)):=
 D7 (fun a b h=>by simp only[Aa,D.slc.injEq,and_true,Sd]at h; simp[h]) (l) h
theorem Yxz(l:List Int)(h:l.length≤65536):@wW GG (tb [] []) Yq.code (Dc [.slc (nz 1 (l.map nI)) (l.map nI) false]) [] ⟨Dn Yq.res (.bool (l.all F1))⟩:=by
 unfold Yq;simp (disch:=first|omega|decide) only[push_cast,↓reduceIte,CI];refine F9 (fun i:Nat=>[(5,.slc (nz 1 (l.map nI)) (l.map nI) false),(6,.int .i64 (l.length:Int)),(7,.int .i64 (i:Int))]) (fun _=>[]) (fun i=>i≤l.length∧l.all F1=(l.drop i).all F1) (fun i=>l.length - i) 0 (by simp only[push_cast,↓reduceIte,CI,↓CM] <;> rfl) ⟨Bh _,rfl⟩ ?_;rintro i ⟨hi,E⟩;unfold l9;simp (disch:=first|omega|decide) only[push_cast,↓reduceIte,CI,CL];refine EU (fun U=>?_) (fun U=>?_)
 ·have O:i<l.length:=by omega
  rw[Ym4 O]at E
  have I:∀ st:St,Gx st 1 (.slc (nz 1 (l.map nI)) (l.map nI) false) (.int .i64 (i:Int))=some (.eptr (nI (l.getD i default)) 0):=fun st=>by
   have:=Ks st 1 nI l false .i64 (i:Int) (by omega) (by omega);grind
  generalize l.getD i default=x at*
  cases J:F1 x with
  |true=>
   obtain⟨V,Y⟩:=Px.1 J;rw[J,Bx]at E;have M:¬ (x < -9007199254740992):=by omega
   have N:¬ (9007199254740992<x):=by omega
   simp (disch:=first|omega|decide) only[push_cast,↓reduceIte,CI,CL,I,nI,M,N,DN];refine E2 (i+1) (by exact⟨by omega,E⟩) (by omega) ?_;rfl
  |false=>
   rw[J,Bool.false_and]at E
   by_cases M:x < -9007199254740992
   ·simp (disch:=first|omega|decide) only[push_cast,↓reduceIte,CI,CL,I,nI,M,E]
   ·have N:9007199254740992<x:=by have:=xC.1 J; omega
    simp (disch:=first|omega|decide) only[push_cast,↓reduceIte,CI,CL,I,nI,M,N,E]
 ·obtain rfl:i=l.length:=by omega
  rw[Bd]at E;simp (disch:=first|omega|decide) only[push_cast,↓reduceIte,CL,E,Ct]
theorem UM:Contract Tryz.prog GG 241 Oq:=
 Ed yOv (DI all_nil all_nil) (fun a h=>Yxz a h)
def KC(c:Int):Int×Int:=if F1 c then(c,0)else(0,3)
theorem F0(a:Int):Ff 1 [.int .i64 a]=some (.slc 1 [.int .i64 a] true):=(rfl)
theorem GP(a b:Int):Ff 1 [.int .i64 a,.int .i64 b]=some (.slc 1 [.int .i64 a,.int .i64 b] true):=(rfl)
theorem di:((9:Int)=8)=False:=by decide
theorem Pd:((10:Int)=8)=False:=by decide
theorem Pc:((10:Int)=9)=False:=by decide
theorem Xd:((8:Int)=10)=False:=by decide
theorem Xc:((9:Int)=10)=False:=by decide
theorem Ynu(a:Int):Oq [.slc 1 [.int .i64 a] false]=some (.bool (F1 a)):=by
 have:=p8 [a] (by simp);simpa[nI,nz]using this
theorem bS(a b:Int):Oq [.slc 1 [.int .i64 a,.int .i64 b] false]=some (.bool (F1 a && F1 b)):=by
 have:=p8 [a,b] (by simp);simpa[nI,nz]using this
noncomputable def bP:List D→Option D:=Dk (α:=Int) (fun a=>[.int .i64 a]) (fun a=>True) (fun a=>.tup [.int .i64 (KC a).1,.int .i64 (KC a).2])
theorem p9(c:Int):bP [.int .i64 c]=some (.tup [.int .i64 (KC c).1,.int .i64 (KC c).2]):=
 D7 (fun a b h=>by simp only[Aa,D.int.injEq,true_and,and_true]at h; simp[h]) (c) trivial
theorem Yxy(c:Int):@wW GG (tb [(241,Oq)] []) Zy.code (Dc [.int .i64 c]) [] ⟨Dn Zy.res (.tup [.int .i64 (KC c).1,.int .i64 (KC c).2])⟩:=by
 unfold Zy KC;have:=Ynu c;cases hc:F1 c <;> rw[hc]at this <;> simp (disch:=first|omega|decide) only[push_cast,↓reduceIte,CI,F0,this]
theorem vL:Contract Tryz.prog GG 242 bP:=
 Ed yBp (DI (all_cons UM all_nil) all_nil) (fun a h=>Yxy a)
def HI(a b:Int):Int×Int:=if F1 a && F1 b then KC (a+b)else(0,3)
def Hz(a b:Int):Int×Int:=if F1 a && F1 b then KC (a - b)else(0,3)
noncomputable def cA:List D→Option D:=Dk (α:=Int×Int) (fun a=>[.int .i64 a.1,.int .i64 a.2]) (fun a=>True) (fun a=>.tup [.int .i64 (HI a.1 a.2).1,.int .i64 (HI a.1 a.2).2])
theorem yYx(a:Int)(b:Int):cA [.int .i64 a,.int .i64 b]=some (.tup [.int .i64 (HI a b).1,.int .i64 (HI a b).2]):=
 D7 (fun⟨a0,a1⟩ ⟨b0,b1⟩ h=>by simp only[Aa,D.int.injEq,true_and,and_true]at h; simp[h]) (a,b) trivial
theorem Yqs(a:Int)(b:Int):@wW GG (tb [(241,Oq),(242,bP)] []) YK.code (Dc [.int .i64 a,.int .i64 b]) [] ⟨Dn YK.res (.tup [.int .i64 (HI a b).1,.int .i64 (HI a b).2])⟩:=by
 unfold YK HI;have E:=bS a b;have I:=p9 (a+b)
 cases hc:F1 a && F1 b with
 |false=>rw[hc]at E; simp (disch:=first|omega|decide) only[push_cast,↓reduceIte,CI,GP,E]
 |true=>
  rw[hc]at E;simp only[Af,Px]at hc;simp (disch:=first|omega|decide) only[push_cast,↓reduceIte,CI,GP,E,I,DN]
theorem Yv9:Contract Tryz.prog GG 231 cA:=
 Ed yKx (DI (all_cons UM (all_cons vL all_nil)) all_nil) (fun a h=>Yqs a.1 a.2)
noncomputable def cC:List D→Option D:=Dk (α:=Int×Int) (fun a=>[.int .i64 a.1,.int .i64 a.2]) (fun a=>True) (fun a=>.tup [.int .i64 (Hz a.1 a.2).1,.int .i64 (Hz a.1 a.2).2])
theorem yYv(a:Int)(b:Int):cC [.int .i64 a,.int .i64 b]=some (.tup [.int .i64 (Hz a b).1,.int .i64 (Hz a b).2]):=
 D7 (fun⟨a0,a1⟩ ⟨b0,b1⟩ h=>by simp only[Aa,D.int.injEq,true_and,and_true]at h; simp[h]) (a,b) trivial
theorem Yqp(a:Int)(b:Int):@wW GG (tb [(241,Oq),(242,bP)] []) YN.code (Dc [.int .i64 a,.int .i64 b]) [] ⟨Dn YN.res (.tup [.int .i64 (Hz a b).1,.int .i64 (Hz a b).2])⟩:=by
 unfold YN Hz;have E:=bS a b;have I:=p9 (a - b)
 cases hc:F1 a && F1 b with
 |false=>rw[hc]at E; simp (disch:=first|omega|decide) only[push_cast,↓reduceIte,CI,GP,E]
 |true=>
  rw[hc]at E;simp only[Af,Px]at hc;simp (disch:=first|omega|decide) only[push_cast,↓reduceIte,CI,GP,E,I,E1]
theorem Yv7:Contract Tryz.prog GG 232 cC:=
 Ed yKu (DI (all_cons UM (all_cons vL all_nil)) all_nil) (fun a h=>Yqp a.1 a.2)
theorem Wj(E:0<a)(I:a<18446744073709551616):Ns .neg (.int .u64 a)=some (.int .u64 (18446744073709551616 - a)):=by
 have e:(0 - a) % 18446744073709551616=18446744073709551616 - a:=by omega
 simp only[Ns,kO,e]
theorem bV(st:St):FD st (.int .u64) (.int .i64 a)=some (.int .u64 (a % 18446744073709551616)):=by
 rfl
noncomputable def T0:List D→Option D:=Dk (α:=Int) (fun a=>[.int .i64 a]) (fun a=>F1 a=true) (fun a=>.int .u64 (if a<0 then -a else a))
theorem sk(a:Int)(h:F1 a=true):T0 [.int .i64 a]=some (.int .u64 (if a<0 then -a else a)):=
 D7 (fun a b h=>by simp only[Aa,D.int.injEq,true_and,and_true]at h; simp[h]) (a) h
theorem Yqt(a:Int)(h:F1 a=true):@wW GG (tb [] []) YO.code (Dc [.int .i64 a]) [] ⟨Dn YO.res (.int .u64 (if a<0 then -a else a))⟩:=by
 obtain⟨M,N⟩:=Px.1 h;unfold YO
 by_cases E:a<0
 ·have I:(a % 18446744073709551616)=18446744073709551616+a:=by omega
  have J:18446744073709551616 - (18446744073709551616+a)=-a:=by omega
  simp (disch:=first|omega|decide) only[push_cast,↓reduceIte,CI,E,bV,I,Wj,J]
 ·simp (disch:=first|omega|decide) only[push_cast,↓reduceIte,CI,E,bj]
theorem Ywa:Contract Tryz.prog GG 243 T0:=
 Ed yKt (DI all_nil all_nil) (fun a h=>Yqt a h)
def Ib(a:Int):Int:=if a<0 then -a else a
def HD(a b:Int):Int×Int:=if F1 a && F1 b then KC (a*b)else(0,3)
theorem YC2(a b:Int):Ib a*Ib b=Ib (a*b):=by
 unfold Ib;rcases Ci a 0 with E | E <;> rcases Ci b 0 with I | I
 ·have:=Int.mul_pos_of_neg_of_neg E I;grind
 ·have:=Int.mul_nonpos_of_nonpos_of_nonneg (Int.le_of_lt E) I;rw[if_pos E,if_neg (by omega),Int.neg_mul];omega
 ·have:=Int.mul_nonpos_of_nonneg_of_nonpos E (Int.le_of_lt I);rw[if_neg (by omega),if_pos I,Int.mul_neg];omega
 ·have:=Int.mul_nonneg E I;grind
theorem kn(h:F1 a=true):0≤Ib a∧Ib a≤9007199254740992:=by
 have:=Px.1 h;unfold Ib; split <;> omega
theorem XE(a:Int):F1 a=decide (Ib a≤9007199254740992):=by
 cases h:F1 a with
 |true=>simp[(kn h).2]
 |false=>
  have:=xC.1 h
  symm
  rw[decide_eq_false_iff_not];unfold Ib; split <;> omega
noncomputable def cB:List D→Option D:=Dk (α:=Int×Int) (fun a=>[.int .i64 a.1,.int .i64 a.2]) (fun a=>True) (fun a=>.tup [.int .i64 (HD a.1 a.2).1,.int .i64 (HD a.1 a.2).2])
theorem yYw(a:Int)(b:Int):cB [.int .i64 a,.int .i64 b]=some (.tup [.int .i64 (HD a b).1,.int .i64 (HD a b).2]):=
 D7 (fun⟨a0,a1⟩ ⟨b0,b1⟩ h=>by simp only[Aa,D.int.injEq,true_and,and_true]at h; simp[h]) (a,b) trivial
theorem Yqq(a:Int)(b:Int):@wW GG (tb [(241,Oq),(243,T0),(169,bB)] []) YM.code (Dc [.int .i64 a,.int .i64 b]) [] ⟨Dn YM.res (.tup [.int .i64 (HD a b).1,.int .i64 (HD a b).2])⟩:=by
 unfold YM HD;have E:=bS a b
 cases hc:F1 a && F1 b with
 |false=>rw[hc]at E; simp (disch:=first|omega|decide) only[push_cast,↓reduceIte,CI,GP,E]
 |true=>
  rw[hc]at E;simp only[Af]at hc;have c1:T0 [.int .i64 a]=some (.int .u64 (Ib a)):=sk a hc.1;have M:T0 [.int .i64 b]=some (.int .u64 (Ib b)):=sk b hc.2;have l1:=kn hc.1;have N:=kn hc.2;have J:=qW (Ib a) (Ib b) (by omega);have e:=YC2 a b;have Y:=XE (a*b);have hn:0≤Ib a*Ib b:=Int.mul_nonneg l1.1 N.1;have hb:Ib a*Ib b≤9007199254740992*9007199254740992:=Int.le_trans (Cg l1.2 N.1) (by omega);rw[e]at J hn hb
  have hm:Ib (a*b)≤9007199254740992→-9007199254740992≤a*b∧a*b≤9007199254740992:=fun h=>by
   unfold Ib at h; split at h <;> omega
  have hmul:-9007199254740992≤a*b→a*b≤9007199254740992→Dp .mul (.int .i64 a) (.int .i64 b)=some (.int .i64 (a*b)):=fun h1 E=>NX (by omega) (by omega);unfold KC;rw[Y];generalize a*b=m at*;generalize Ib m=z at*
  by_cases O:z / 18446744073709551616=0
  ·have h9:z % 18446744073709551616=z:=by omega
   rw[O,h9]at J
   by_cases U:9007199254740992<z
   ·have I:¬ z≤9007199254740992:=by omega
    simp (disch:=first|omega|decide) only[push_cast,↓reduceIte,CI,GP,E,c1,M,J,U,I]
   ·have I:z≤9007199254740992:=by omega
    have V:=hm I;have c4:Dp .mul (.int .i64 a) (.int .i64 b)=some (.int .i64 m):=hmul V.1 V.2;simp (disch:=first|omega|decide) only[push_cast,↓reduceIte,CI,GP,E,c1,M,J,U,I,c4]
  ·have I:¬ z≤9007199254740992:=by omega
   simp (disch:=first|omega|decide) only[push_cast,↓reduceIte,CI,GP,E,c1,M,J,O,I]
theorem Yv8:Contract Tryz.prog GG 233 cB:=
 Ed yKv (DI (all_cons UM (all_cons Ywa (all_cons vK all_nil))) all_nil) (fun a h=>Yqq a.1 a.2)
theorem Yrs(a:Int)(hb:0<b):-(Ib a)≤a.tdiv b∧a.tdiv b≤Ib a:=by
 unfold Ib;rcases Ci a 0 with h | h
 ·have e:a.tdiv b=-((-a) / b):=by
   rw[← Bq (by omega),Int.neg_tdiv,Int.neg_neg]
  have E:=BZ b (show 0≤-a by omega);have I:=BD (show 0≤-a by omega) (show 0≤b by omega);omega
 ·have e:a.tdiv b=a / b:=Bq h;have E:=BZ b h;have I:=BD h (show 0≤b by omega);omega
theorem SX(hb:0<b)(E:-9223372036854775808<a)(I:a<9223372036854775808):Dp .quo (.int .i64 a) (.int .i64 b)=some (.int .i64 (a.tdiv b)):=by
 have J:=Yrs a hb;have M:Ib a<9223372036854775808:=by unfold Ib; split <;> omega
 simp only[Dp,if_true,KX,show ¬ b=0 by omega,if_false,Ag,OE (show -9223372036854775808≤a.tdiv b by omega) (show a.tdiv b<9223372036854775808 by omega)]
theorem SY(hb:0<b):Dp .rem (.int .i64 a) (.int .i64 b)=some (.int .i64 (a.tmod b)):=by
 simp only[Dp,if_true,KX,show ¬ b=0 by omega,if_false,Ag]
def NB(a b:Int):Int:=(if a.tmod b<0 then a - b else a).tdiv b
def Tl(a b:Int):Int:=(if 0<a.tmod b then a+b else a).tdiv b
def Er(a b m:Int):Int×Int:=if F1 a && F1 b then(if b≤0 then(0,70)else(if m=10 then NB (2*a+b) (2*b)else if m=8 then NB a b else Tl a b,0))else(0,3)
noncomputable def T2:List D→Option D:=Dk (α:=Int×Int×Int) (fun a=>[.int .i64 a.1,.int .i64 a.2.1,.int .i64 a.2.2]) (fun a=>a.2.2=8∨a.2.2=9∨a.2.2=10) (fun a=>.tup [.int .i64 (Er a.1 a.2.1 a.2.2).1,.int .i64 (Er a.1 a.2.1 a.2.2).2])
theorem dN(a:Int)(b:Int)(m:Int)(h:m=8∨m=9∨m=10):T2 [.int .i64 a,.int .i64 b,.int .i64 m]=some (.tup [.int .i64 (Er a b m).1,.int .i64 (Er a b m).2]):=
 D7 (fun⟨a0,a1,E⟩ ⟨b0,b1,I⟩ h=>by simp only[Aa,D.int.injEq,true_and,and_true]at h; simp[h]) (a,b,m) h
theorem Yqr(a:Int)(b:Int)(m:Int)(h:m=8∨m=9∨m=10):@wW GG (tb [(241,Oq)] []) YL.code (Dc [.int .i64 a,.int .i64 b,.int .i64 m]) [] ⟨Dn YL.res (.tup [.int .i64 (Er a b m).1,.int .i64 (Er a b m).2])⟩:=by
 unfold YL Er;have E:=bS a b
 cases hc:F1 a && F1 b with
 |false=>
  rw[hc]at E;rcases h with rfl | rfl | rfl <;> simp (disch:=first|omega|decide) only[push_cast,↓reduceIte,CI,GP,di,Pd,Pc,E]
 |true=>
  rw[hc]at E;simp only[Af,Px]at hc;obtain⟨⟨a1,J⟩,b1,M⟩:=hc
  by_cases hb:b≤0
  ·rcases h with rfl | rfl | rfl <;> simp (disch:=first|omega|decide) only[push_cast,↓reduceIte,CI,GP,di,Pd,Pc,E,hb]
  ·unfold NB Tl;rcases h with rfl | rfl | rfl
   ·by_cases I:a.tmod b<0
    ·simp (disch:=first|omega|decide) only[push_cast,↓reduceIte,CI,GP,Xd,E,hb,SY,I,E1,SX]
    ·simp (disch:=first|omega|decide) only[push_cast,↓reduceIte,CI,GP,Xd,E,hb,SY,I,SX]
   ·by_cases I:0<a.tmod b
    ·simp (disch:=first|omega|decide) only[push_cast,↓reduceIte,CI,GP,di,Xc,E,hb,SY,I,DN,SX]
    ·simp (disch:=first|omega|decide) only[push_cast,↓reduceIte,CI,GP,di,Xc,E,hb,SY,I,SX]
   ·by_cases I:(2*a+b).tmod (2*b)<0
    ·simp (disch:=first|omega|decide) only[push_cast,↓reduceIte,CI,GP,Pd,Pc,E,hb,NX,DN,SY,I,E1,SX]
    ·simp (disch:=first|omega|decide) only[push_cast,↓reduceIte,CI,GP,Pd,Pc,E,hb,NX,DN,SY,I,SX]
theorem fI:Contract Tryz.prog GG 237 T2:=
 Ed yKw (DI (all_cons UM all_nil) all_nil) (fun a h=>Yqr a.1 a.2.1 a.2.2 h)
noncomputable def Fv(R:List D→St→D×St→Prop):List D→St→Option (D×St):=fun ds st=>@dite _ (∃ r,R ds st r) (Classical.propDecidable _) (fun h=>some h.choose) (fun _=>none)
variable {r:D×St}{st:St}{ds:List D}
theorem Je{R:List D→St→D×St→Prop}(h:Fv R ds st=some r):R ds st r:=by
 unfold Fv at h
 split at h
 ·rename_i E;simp only[AO]at h;rw[← h]; exact E.choose_spec
 ·cases h
theorem Ysi{R:List D→St→D×St→Prop}(h:R ds st r)(J:∀ E,R ds st E→E=r):Fv R ds st=some r:=by
 have I:∃ r,R ds st r:=⟨r,h⟩;unfold Fv;rw[dif_pos I,J _ I.choose_spec]
def Ic(R:List D→St→D×St→Prop):Prop:=∀ ds st r r',R ds st r→R ds st r'→r=r'
theorem L0{R:List D→St→D×St→Prop}(E:Ic R)(h:R ds st r):Fv R ds st=some r:=Ysi h fun I J=>E ds st I r J h
def StOK(st:St):Prop:=∀ o∈st,o.row=false→∀ x∈o.els,EC st.length [] x=x
theorem rV(n:Nat):∀ (l acc:List Nat),Fc n n l acc=acc
 |[],acc=>rfl
 |k::r,acc=>by
  rw[Fc,if_neg (by omega)];exact rV n r acc
theorem MZ{α:Type}{f:α→α}:∀ {l:List α},(∀ x∈l,f x=x)→l.map f=l
 |[],_=>rfl
 |a::l,h=>by rw[Aw,h a (by simp),MZ fun x E=>h x (by simp[E])]
theorem xQ(h:StOK st):st.map (Fe st.length [])=st:=by
 refine MZ fun o E=>?_;obtain⟨row,sz,els,lent⟩:=o
 cases row with
 |true=>rfl
 |false=>
  show(⟨false,sz,els.map (EC st.length []),lent⟩:Obj)=_
  rw[MZ (h _ E rfl)]
variable {fr:Frame}{keep:List Nat}
theorem eN(h:StOK st):restrict keep st.length ⟨fr,st⟩=⟨F3 (J1 fr st.length [] keep),st⟩:=by
 unfold restrict;simp only[AD,if_true,rV];unfold restrictAt;rw[TP];simp only[picked,Bk,Ad,Bj,xQ h]
variable {n:Nat}
theorem Uc{m:Nat}(f:Nat→D)(I:∀ k,f k≠.junk)(E:n≤m)(h:Jv f (EV n [] key)=f key):Jv f (EV m [] key)=f key:=by
 unfold EV at h ⊢
 by_cases hk:key<n
 ·rw[if_pos (AY hk E)]; rfl
 ·rw[if_neg hk]at h;exact absurd h.symm (I key)
variable {x:D}
theorem rG{m:Nat}(E:n≤m)(h:GK n [] x=x):GK m [] x=x:=by
 cases x with
 |row key tot off len=>exact Uc (fun k=>.row k tot off len) (fun k e=>by cases e) E h
 |bsl key off j sz ag=>exact Uc (fun k=>.bsl k off j sz ag) (fun k e=>by cases e) E h
 |ptr key off=>exact Uc (fun k=>.ptr k off) (fun k e=>by cases e) E h
 |rptr key tot i off=>exact Uc (fun k=>.rptr k tot i off) (fun k e=>by cases e) E h
 |mapv key=>exact Uc .mapv (fun k e=>by cases e) E h
 |_=>exact h
theorem QX{f:D→D}:∀ {l:List D},l.map f=l→∀ x∈l,f x=x
 |[],_,x,E=>by cases E
 |a::l,h,x,E=>by
  simp only[Aw,Aa]at h;rcases Ax.1 E with rfl | E
  ·exact h.1
  ·exact QX h.2 x E
theorem rH{m:Nat}(E:n≤m)(h:EK n [] x=x):EK m [] x=x:=by
 cases x with
 |clo f l=>
  simp only[EK,D.clo.injEq,true_and]at h ⊢;exact MZ fun y I=>rG E (QX h y I)
 |_=>unfold EK at h ⊢; exact rG E h
theorem Yjv{m:Nat}(E:n≤m)(h:EC n [] x=x):EC m [] x=x:=by
 cases x with
 |agg l=>
  simp only[EC,D.agg.injEq]at h ⊢;exact MZ fun y I=>rH E (QX h y I)
 |tup l=>unfold EC at h ⊢; exact h
 |_=>unfold EC at h ⊢; exact rH E h
theorem StOK.nil:StOK []:=fun _ h=>by cases h
theorem StOK.app(h:StOK st)(l:St)(hl:∀ o∈l,o.row=false→∀ x∈o.els,EC (st.length+l.length) [] x=x):StOK (st++l):=by
 intro o E I x J;rw[Ab];rcases AP.1 E with E | E
 ·exact Yjv (Nat.le_add_right _ _) (h o E I x J)
 ·exact hl o E I x J
theorem StOK.set(h:StOK st)(k:Nat)(o:Obj)(M:o.row=false→∀ x∈o.els,EC st.length [] x=x):StOK (st.set k o):=by
 intro q E I x J;rw[BT];rcases BX E with E | rfl
 ·exact h q E I x J
 ·exact M I x J
theorem pR(n m:Nat):∀ (l acc:List Nat),(∀ k∈l,k<n)→Fc n m l acc=acc
 |[],acc,_=>rfl
 |k::r,acc,h=>by
  have:=h k (by simp);rw[Fc,if_neg (by omega)];exact pR n m r acc fun x E=>h x (by simp[E])
theorem yIk{l:St}(h:StOK st)(M:∀ o∈st,o.row=false→∀ x∈o.els,∀ k∈hk x,k<st.length)(V:∀ s∈keep,∀ k∈hk (fr s),k<st.length) :
  restrict keep st.length ⟨fr,st++l⟩=⟨F3 (J1 fr st.length [] keep),st⟩:=by
 have hle:st.length≤(st++l).length:=by simp
 have N:(st++l).take st.length=st:=by simp
 unfold restrict;simp only[hle,if_true]
 rw[pR _ _ _ _ (fun k I=>by
  simp only[UN,N,AP,Bo]at I;rcases I with⟨s,Y,O⟩ | ⟨o,ho,E⟩
  ·exact V s Y k O
  ·cases J:o.row with
   |true=>rw[J]at E; simp at E
   |false=>
    rw[J]at E;simp only[Ao,if_false,Bo]at E;obtain⟨x,hx,U⟩:=E;exact M o ho J x hx k U)]
 unfold restrictAt;rw[TP];simp only[picked,Bk,Ad,N,xQ h]
def HT:Nat→Nat→Nat
 |0,_=>0
 |n+1,u=>if u=0 then 0 else HT n (u / 256)+1
theorem Yr4(n:Nat):HT n 0=0:=by cases n <;> rfl
theorem gd(n u:Nat):HT (n+1) u=if u=0 then 0 else HT n (u / 256)+1:=(rfl)
theorem tj:∀ (n u:Nat),u<256 ^ n→HT (n+1) u=HT n u
 |0,u,h=>by
  have:u=0:=by simpa using h
  subst this; rfl
 |n+1,u,h=>by
  rw[gd (n+1) u,gd n u]
  split
  ·rfl
  ·rw[tj n (u / 256) (by rw[CH]at h; omega)]
theorem R8:∀ (n u:Nat),HT n u≤n
 |0,_=>AD _
 |n+1,u=>by
  rw[HT]
  split
  ·omega
  ·have:=R8 n (u / 256); omega
def uU(ds:List D)(st:St)(r:D×St):Prop:=∃ u:Nat,StOK st∧u<18446744073709551616∧ds=[.int .u64 (u:Int)]∧r=(.int .i64 (HT 8 u:Int),st)
noncomputable def ga:List D→St→Option (D×St):=Fv uU
theorem Yjc:Ic uU:=by
 rintro ds st r E ⟨u,_,_,rfl,rfl⟩ ⟨I,_,_,h,rfl⟩;grind
theorem yVs{u:Nat}(h:u≠0)(E:u<256 ^ n):HT n u=HT n (u / 256)+1:=by
 cases n with
 |zero=>simp at E; omega
 |succ n=>
  rw[gd n u,if_neg h,tj n (u / 256) (by rw[CH]at E; omega)]
theorem Yvz:IContract Tryz.prog GG 209 ga:=by
 refine Jz (T:=tb [] []) zr (DI all_nil all_nil) ?_;intro ds st r N;obtain⟨u,E,hu,rfl,rfl⟩:=Je N;unfold m4;simp (disch:=first|omega|decide) only[push_cast];refine F9 (fun p:Nat×Nat=>[(0,.int .u64 (p.1:Int)),(2,.int .i64 (p.2:Int))]) (fun _=>st) (fun p=>p.1<18446744073709551616∧HT 8 u=HT 8 p.1+p.2) (fun p=>p.1) (u,0) (by simp only[push_cast,↓reduceIte,CI,↓eN E] <;> rfl) ⟨hu,rfl⟩ ?_;rintro⟨w,k⟩ ⟨hw,hk⟩;have U:=R8 8 u;dsimp only at hw hk;unfold nv;simp (disch:=first|omega|decide) only[push_cast,↓reduceIte];refine EU (fun O=>?_) (fun O=>?_)
 ·have I:w≠0:=by omega
  have V:=yVs (n:=8) I (by omega)
  have J:Dp .shr (.int .u64 (w:Int)) (.int .u64 8)=some (.int .u64 ((w / 256:Nat):Int)):=by
   rw[NY (by omega) (by omega)]; rfl
  simp (disch:=first|omega|decide) only[push_cast,↓reduceIte,CI,↓CM,↓eN E,J,DN];refine E2 (w / 256,k+1) (by dsimp only; omega) (by dsimp only; omega) ?_;rfl
 ·obtain rfl:w=0:=by omega
  rw[Yr4]at hk;have M:HT 8 u=k:=by omega
  rw[M];simp (disch:=first|omega|decide) only[push_cast,↓reduceIte,CI,CT,↓CM]
def NV(st:St)(b:D)(l:List UInt8):Prop:=(b=.slc 0 [] true∧l=[])∨∃ key,b=.row key l.length 0 l.length∧l≠[]∧st[key]?=some ⟨true,1,l.map Dl,false⟩
def Jt(st:St)(b:D)(l m:List UInt8):D×St:=match b with
 |.row key _ _ _=>(.row key (l++m).length 0 (l++m).length,st.set key ⟨true,1,(l++m).map Dl,false⟩)
 |_=>(.row st.length m.length 0 m.length,st++[⟨true,1,m.map Dl,false⟩])
variable {l:List UInt8}
theorem Yhd{b:D}{I:List UInt8}(h:NV st b l)(J:NV st b I):l=I:=by
 rcases h with⟨rfl,rfl⟩ | ⟨key,rfl,hl,hk⟩
 ·rcases J with⟨_,rfl⟩ | ⟨key,h,_⟩
  ·rfl
  ·cases h
 ·rcases J with⟨h,_⟩ | ⟨M,h,_,E⟩
  ·cases h
  ·simp only[D.row.injEq]at h;obtain⟨rfl,_⟩:=h;rw[hk]at E;simp only[Db,Obj.mk.injEq,true_and,and_true]at E;exact QB E
variable {m:List UInt8}
theorem YDa{b:D}(h:StOK st):StOK (Jt st b l m).2:=by
 unfold Jt
 split
 ·exact h.set _ _ fun e=>by cases e
 ·exact h.app _ fun o E I=>by
   grind
theorem TD{b:D}(h:NV st b l)(hm:m≠[])(hl:l.length+m.length≤4294967296)(t:Bool):Ep st 1 1 b (.slc 1 (m.map Dl) t)=some (Jt st b l m):=by
 have E:m.map Dl≠[]:=by simpa using hm
 have I:nz 1 (m.map Dl)=1:=by
  cases hc:m.map Dl with
  |nil=>exact absurd hc E
  |cons a r=>rfl
 rcases h with⟨rfl,rfl⟩ | ⟨key,rfl,J,hk⟩
 ·have:=s9 Dl st 1 0 1 m t (by decide) (by omega) (by simp at hl; omega);rw[I,RY _ _ _ E,Qs _ _ E,Bi]at this;exact this
 ·rw[jk,hk];have he:G7 st (.slc 1 (m.map Dl) t)=some (1,m.map Dl):=(rfl);rw[he,km l m false hl];simp only[Ag,Jt,Bi]
def DM(st:St)(key:Nat)(l:List UInt8):St:=st.set key ⟨true,1,l.map Dl,false⟩
theorem eQ(st:St)(key:Nat)(l:List UInt8):(DM st key l).length=st.length:=BT
theorem gW(h:key<st.length)(l:List UInt8):(DM st key l)[key]?=some ⟨true,1,l.map Dl,false⟩:=by simp[DM,h]
theorem Yhc(st:St)(key:Nat)(l m:List UInt8):DM (DM st key l) key m=DM st key m:=by simp[DM]
theorem U6(h:StOK st)(key:Nat)(l:List UInt8):StOK (DM st key l):=h.set _ _ fun e=>by cases e
theorem ov(h:key<st.length)(l m:List UInt8)(hm:m≠[])(hl:l.length+m.length≤4294967296)(t:Bool) :
  Ep (DM st key l) 1 1 (.row key l.length 0 l.length) (.slc 1 (m.map Dl) t)=some (.row key (l++m).length 0 (l++m).length,DM st key (l++m)):=by
 by_cases E:l=[]
 ·subst E;rw[jk,gW h];have he:G7 (DM st key []) (.slc 1 (m.map Dl) t)=some (1,m.map Dl):=(rfl);rw[he,km [] m false hl];simp only[Ag,Bi];simp only[DM,List.set_set]
 ·rw[TD (.inr ⟨key,rfl,E,gW h l⟩) hm hl t];simp only[Jt];simp only[DM,List.set_set]
theorem X5(h:key<st.length)(l:List UInt8)(x:UInt8)(hl:l.length<4294967296)(t:Bool) :
  Ep (DM st key l) 1 1 (.row key l.length 0 l.length) (.slc 1 [Dl x] t)=some (.row key (l++[x]).length 0 (l++[x]).length,DM st key (l++[x])):=
 ov h l [x] (by simp) (by simp; omega) t
theorem sR{b:D}(h:NV st b l)(hm:m≠[]):∃ key st1,key<st1.length∧Jt st b l m=(.row key (l++m).length 0 (l++m).length,DM st1 key (l++m))∧(StOK st→StOK st1)∧
  ∀ n,Jt st b l (m++n)=(.row key (l++(m++n)).length 0 (l++(m++n)).length,DM st1 key (l++(m++n))):=by
 rcases h with⟨rfl,rfl⟩ | ⟨key,rfl,hl,hk⟩
 ·refine⟨st.length,st++[⟨true,1,[],false⟩],by simp,?_,fun h=>h.app _ fun o I J=>?_,fun n=>?_⟩
  ·simp[Jt,DM]
  ·grind
  ·simp[Jt,DM]
 ·have E:=(Ac.1 hk).1;exact⟨key,st,E,rfl,id,fun n=>rfl⟩
theorem Zf(h:StOK st)(hn:n=st.length):restrict keep n ⟨fr,st⟩=⟨F3 (J1 fr n [] keep),st⟩:=by
 subst hn; exact eN h
def Ja(u k:Nat):List UInt8:=(CS k).map fun i=>CV (u / 2 ^ (8*(k - 1 - i)))
theorem fi(u k:Nat):(Ja u k).length=k:=by simp[Ja]
variable {k:Nat}
theorem yRl{u:Nat}(h:i<k):(Ja u k).take (i+1)=(Ja u k).take i++[CV (u / 2 ^ (8*(k - 1 - i)))]:=by
 rw[List.take_add_one]
 congr 1
 simp[Ja,h]
def En(n:Int):Nat:=(n % 18446744073709551616).toNat
def MK(a:Nat):Nat:=18446744073709551615 - a
theorem Yl1(a:Nat):MK a<18446744073709551616:=by unfold MK; omega
def IK(n:Int):List UInt8:=
 if 0≤n then CV (32+HT 8 (En n))::Ja (En n) (HT 8 (En n))
 else CV (31 - HT 8 (MK (En n)))::Ja (En n) (HT 8 (MK (En n)))
theorem Yis{a:Nat}(h:a<18446744073709551616):Ns .xor (.int .u64 (a:Int))=some (.int .u64 (MK a:Int)):=by
 unfold MK
 have E:K5 .xor .u64 (if IntKind.u64.signed then -1 else IntKind.u64.max) (a:Int)=some ((18446744073709551615 - a:Nat):Int):=by
  unfold K5;have J:IntKind.u64.bits=64:=rfl;have I:(if IntKind.u64.signed then(-1:Int)else IntKind.u64.max)=18446744073709551615:=by decide
  rw[I];simp only
  have:(CR IntKind.u64.bits 18446744073709551615 ^^^ CR IntKind.u64.bits (a:Int)) = ~~~ (BitVec.ofNat 64 a):=by
   rfl
  rw[this]
  show some (IntKind.wrap .u64 (((~~~ (BitVec.ofNat 64 a):BitVec 64).toNat:Nat):Int))=_
  rw[BitVec.toNat_not,BitVec.toNat_ofNat,A7 (by omega)]
  show some (IntKind.wrap .u64 ((2 ^ 64 - 1 - a:Nat):Int))=_
  congr 1
  rw[kO];omega
 simp only[Ns,E,Ag]
def WR(ds:List D)(st:St)(r:D×St):Prop:=∃ (b:D) (l:List UInt8) (n:Int),StOK st∧NV st b l∧l.length≤4294967000∧ds=[b,.int .i64 n]∧r=Jt st b l (IK n)
noncomputable def Vj:List D→St→Option (D×St):=Fv WR
theorem You:Ic WR:=by
 rintro ds st r I ⟨b,l,n,_,hb,_,rfl,rfl⟩ ⟨b',J,M,_,E,_,h,rfl⟩;simp only[Aa,D.int.injEq,true_and,and_true]at h;obtain⟨rfl,rfl⟩:=h;rw[Yhd hb E]
theorem Ygo{b:D}(n:Int)(E:StOK st)(I:NV st b l)(J:l.length≤4294967000):Vj [b,.int .i64 n] st=some (Jt st b l (IK n)):=L0 You ⟨b,l,n,E,I,J,rfl,rfl⟩
theorem qt(u:Nat)(E:StOK st)(I:u<18446744073709551616):ga [.int .u64 (u:Int)] st=some (.int .i64 (HT 8 u:Int),st):=L0 Yjc ⟨u,E,I,rfl,rfl⟩
theorem Qq(h:key<n):EV n [] key=some key:=if_pos h
theorem nK(n:Int):En n<18446744073709551616:=by unfold En; omega
theorem gr(n:Int):n % 18446744073709551616=(En n:Int):=by unfold En; omega
theorem US(x:UInt8):Ff 1 [Dl x]=some (.slc 1 [Dl x] true):=(rfl)
theorem XG(st:St)(x:UInt8):DW st (Dl x)=some (Dl x):=(rfl)
theorem UO(x:UInt8):keys (Dl x)=[]:=(rfl)
theorem qC(st:St)(k:Nat):FD st (.int .u8) (.int .i64 (32+(k:Int)))=some (Dl (CV (32+k))):=by
 rfl
theorem Yfq(st:St)(h:k≤31):FD st (.int .u8) (.int .i64 (31 - (k:Int)))=some (Dl (CV (31 - k))):=by
 rw[NM st (by omega),show(31 - (k:Int)).toNat=31 - k by omega]
theorem yYk(st:St)(u m:Nat):FD st (.int .u8) (.int .u64 ((u:Int) / 2 ^ m))=some (Dl (CV (u / 2 ^ m))):=by
 rfl
/- the loop's part: the tag is laid -/
theorem nN(T:Tbl)(st1:St)(key:Nat)(E:key<st1.length)(M:StOK st1)(l0:List UInt8)(n:Int)(k:Nat)(hk:k≤8)(hl:l0.length≤4294967200)(fr:Frame)(Q:Ex→Frame→St→Prop)
  (V:fr 0=.row key l0.length 0 l0.length) (Y:fr 1=.int .i64 n) (h6:fr 6=.int .i64 (k:Int)) (N:fr 30=.int .i64 (k:Int)) (O:fr 31=.int .i64 0)
  (hQ:∀ I,I 0=.row key (l0++Ja (En n) k).length 0 (l0++Ja (En n) k).length→Q (.exit 0) I (DM st1 key (l0++Ja (En n) k))) :
  @wW GG T (.loop [0,1,6,30,31] fu) fr (DM st1 key l0) ⟨Q⟩:=by
 have hlen:=eQ st1 key;have U:∀ (fr:Frame) (m:List UInt8),restrict [0,1,6,30,31] (DM st1 key l0).length ⟨fr,DM st1 key m⟩=⟨F3 (J1 fr st1.length [] [0,1,6,30,31]),DM st1 key m⟩:=fun fr m=>by rw[Zf (U6 M key m) (by rw[hlen,hlen]),hlen]
 refine F9 (fun i:Nat=>[(0,.row key (l0++(Ja (En n) k).take i).length 0 (l0++(Ja (En n) k).take i).length),(1,.int .i64 n),(6,.int .i64 (k:Int)),(30,.int .i64 (k:Int)),(31,.int .i64 (i:Int))])
  (fun i=>DM st1 key (l0++(Ja (En n) k).take i)) (fun i=>i≤k) (fun i=>k - i) 0 ?_ (by omega) ?_
 ·rw[U];simp (disch:=omega) only[push_cast,↓CM,V,Y,h6,N,O,Qq] <;> rfl
 intro i hi;unfold fu;have hb:=fi (En n) k;have ht:((Ja (En n) k).take i).length=i:=by rw[AL]; omega
 simp (disch:=first|omega|decide) only[push_cast,↓reduceIte,CI];refine EU (fun h2=>?_) (fun h2=>?_)
 ·have e1:((8*((k:Int) - 1 - (i:Int)))).toNat=8*(k - 1 - i):=by omega
  have J:=fun x=>X5 (st:=st1) E (l0++(Ja (En n) k).take i) x (by rw[Ab]; omega) true;simp (disch:=first|omega|decide) only[push_cast,↓reduceIte,CI,bV,gr,E1,NX,DN,NY,e1,yYk,XG,UO,US,J,↓U,E];refine E2 (i+1) (by omega) (by omega) ?_;rw[yRl (by omega),← Aj];rfl
 ·obtain rfl:i=k:=by omega
  have e2:(Ja (En n) i).take i=Ja (En n) i:=AI (by omega);rw[e2];simp (disch:=first|omega|decide) only[push_cast];exact hQ _ rfl
theorem Yv4:IContract Tryz.prog GG 202 Vj:=by
 refine Jz (T:=tb [] [(209,ga)]) yY (DI all_nil (all_cons Yvz all_nil)) ?_;intro ds st r hr;obtain⟨b,l,n,O,hb,hl,rfl,rfl⟩:=Je hr;unfold mO;have V:=qt (st:=st) (En n) O (nK n);have Y:=R8 8 (En n);have hu:=nK n
 by_cases hn:n<0
 ·have aa:=qt (st:=st) (MK (En n)) O (Yl1 _);have ab:=R8 8 (MK (En n));have U:IK n=[CV (31 - HT 8 (MK (En n)))]++Ja (En n) (HT 8 (MK (En n))):=if_neg (by omega);rw[U];generalize HT 8 (MK (En n))=k at*;obtain⟨key,st1,J,M,N,I⟩:=sR hb (m:=[CV (31 - k)]) (by simp);have E:=TD hb (m:=[CV (31 - k)]) (by simp) (by simp; omega) true;rw[M]at E;have hm:=I (Ja (En n) k);simp only[Aw,Bk]at E;rw[hm,← Aj];simp (disch:=first|omega|decide) only[push_cast,↓reduceIte,CI,hn,bV,gr,V,Yis,aa,DN,E1,Yfq,qC,XG,UO,US,E];refine nN _ st1 key J (N O) (l++[CV (31 - k)]) n k ab (by simp; omega) _ _ (by simp only[push_cast,↓reduceIte,CI]) (by simp only[push_cast,↓reduceIte,CI]) (by simp only[push_cast,↓reduceIte,CI]) (by simp only[push_cast,↓reduceIte,CI]) (by simp only[push_cast,↓reduceIte]) fun ac hf=>?_;simp (disch:=first|omega|decide) only[push_cast,↓reduceIte,hf]
 ·have U:IK n=[CV (32+HT 8 (En n))]++Ja (En n) (HT 8 (En n)):=if_pos (by omega);rw[U];generalize HT 8 (En n)=k at*;obtain⟨key,st1,J,M,N,I⟩:=sR hb (m:=[CV (32+k)]) (by simp);have E:=TD hb (m:=[CV (32+k)]) (by simp) (by simp; omega) true;rw[M]at E;have hm:=I (Ja (En n) k);simp only[Aw,Bk]at E;rw[hm,← Aj];simp (disch:=first|omega|decide) only[push_cast,↓reduceIte,CI,hn,bV,gr,V,DN,qC,XG,UO,US,E];refine nN _ st1 key J (N O) (l++[CV (32+k)]) n k Y (by simp; omega) _ _ (by simp only[push_cast,↓reduceIte,CI]) (by simp only[push_cast,↓reduceIte,CI]) (by simp only[push_cast,↓reduceIte,CI]) (by simp only[push_cast,↓reduceIte,CI]) (by simp only[push_cast,↓reduceIte]) fun ac hf=>?_;simp (disch:=first|omega|decide) only[push_cast,↓reduceIte,hf]
inductive Val where
 |int (n:Int)
 |bytes (b:List UInt8)
 |list (l:List Val)
instance:Inhabited Val:=⟨.int 0⟩
def vC(k n:Int)(B L:List D):List D:=[.int .i64 k,.int .i64 n,.slc (nz 1 B) B false,.slc (nz 4 L) L false]
def vD(k n:Int)(B L:List D):D:=.agg (vC k n B L)
mutual
def De:Val→D
 |.int n=>vD 1 n [] []
 |.bytes b=>vD 2 0 (b.map Dl) []
 |.list l=>vD 3 0 [] (Nk l)
def Nk:List Val→List D
 |[]=>[]
 |v::l=>De v::Nk l
end
mutual
def Eh:Val→Nat
 |.int _=>0
 |.bytes _=>0
 |.list l=>Ii l+1
def Ii:List Val→Nat
 |[]=>0
 |v::l=>max (Eh v) (Ii l)
end
def Eg(c:UInt8):List UInt8:=if c=0 then [0,255]else [c]
mutual
def Dz:Val→List UInt8
 |.int n=>IK n
 |.bytes b=>48::(b.flatMap Eg++[0,0])
 |.list l=>64::(Q7 l++[0])
def Q7:List Val→List UInt8
 |[]=>[]
 |v::l=>Dz v++Q7 l
end
theorem pS:∀ l:List Val,Nk l=l.map De
 |[]=>by simp[Nk]
 |v::l=>by simp[Nk,pS l]
theorem gJ:∀ l:List Val,Q7 l=l.flatMap Dz
 |[]=>by simp[Q7]
 |v::l=>by simp[Q7,gJ l]
theorem gG:∀ {l:List Val} {v:Val},v∈l→Eh v≤Ii l
 |a::l,v,h=>by
  rw[Ii];rcases Ax.1 h with rfl | h
  ·omega
  ·exact AT (gG h) (Nat.le_max_right _ _)
theorem OD(n:Int):De (.int n)=vD 1 n [] []:=by simp[De]
theorem OQ(b:List UInt8):De (.bytes b)=vD 2 0 (b.map Dl) []:=by simp[De]
theorem QK(l:List Val):De (.list l)=vD 3 0 [] (l.map De):=by simp[De,pS]
theorem gI(n:Int):Dz (.int n)=IK n:=by simp[Dz]
theorem Yy(b:List UInt8):Dz (.bytes b)=48::(b.flatMap Eg++[0,0]):=by simp[Dz]
theorem OJ(l:List Val):Dz (.list l)=64::(l.flatMap Dz++[0]):=by simp[Dz,gJ]
theorem Ym8(n:Int):Eh (.int n)=0:=by simp[Eh]
theorem yYi(b:List UInt8):Eh (.bytes b)=0:=by simp[Eh]
theorem jf(l:List Val):Eh (.list l)=Ii l+1:=by simp[Eh]
def Vz(v:Val):List D:=match v with
 |.int n=>vC 1 n [] []
 |.bytes b=>vC 2 0 (b.map Dl) []
 |.list l=>vC 3 0 [] (Nk l)
theorem OM(v:Val):∃ k n B L,Vz v=vC k n B L∧De v=vD k n B L:=by
 cases v
 ·exact⟨_,_,_,_,rfl,by simp[De]⟩
 ·exact⟨_,_,_,_,rfl,by simp[De]⟩
 ·exact⟨_,_,_,_,rfl,by simp[De]⟩
theorem MA{k n k' E:Int}{B L I J:List D}(h:vD k n B L=vD k' E I J):k=k'∧n=E∧B=I∧L=J:=by
 simp only[vD,vC,D.agg.injEq,Aa,D.int.injEq,D.slc.injEq,true_and,and_true]at h;grind
mutual
theorem iL:∀ {v v':Val},De v=De v'→v=v'
 |.int n,.int E,h=>by rw[OD,OD]at h; rw[(MA h).2.1]
 |.bytes b,.bytes b',h=>by rw[OQ,OQ]at h; rw[QB (MA h).2.2.1]
 |.list l,.list I,h=>by
  have:=h;simp only[De]at this;rw[rX (MA this).2.2.2]
 |.int n,.bytes b,h=>by rw[OD,OQ]at h; exact absurd (MA h).1 (by decide)
 |.int n,.list b,h=>by rw[OD,QK]at h; exact absurd (MA h).1 (by decide)
 |.bytes n,.int b,h=>by rw[OD,OQ]at h; exact absurd (MA h).1 (by decide)
 |.bytes n,.list b,h=>by rw[OQ,QK]at h; exact absurd (MA h).1 (by decide)
 |.list n,.int b,h=>by rw[OD,QK]at h; exact absurd (MA h).1 (by decide)
 |.list n,.bytes b,h=>by rw[OQ,QK]at h; exact absurd (MA h).1 (by decide)
theorem rX:∀ {l E:List Val},Nk l=Nk E→l=E
 |[],[],_=>rfl
 |[],_::_,h=>by simp[Nk]at h
 |_::_,[],h=>by simp[Nk]at h
 |a::l,b::E,h=>by
  simp only[Nk,Aa]at h;rw[iL h.1,rX h.2]
end
theorem TT{v v':Val}:De v=De v'↔v=v':=⟨iL,fun h=>by rw[h]⟩
theorem Yip{l E:List Val}:l.map De=E.map De↔l=E:=⟨Py fun _ _=>iL,fun h=>by rw[h]⟩
theorem P3(k n:Int)(B L:List D):DH (vD k n B L)=some (vC k n B L):=(rfl)
theorem UK:DH (.agg [.int .i64 0,.int .i64 0,.slc 0 [] true,.slc 0 [] true])=some [.int .i64 0,.int .i64 0,.slc 0 [] true,.slc 0 [] true]:=(rfl)
theorem SK(lent:Bool)(k n:Int)(B L:List D):Dy (some ⟨false,1,vC k n B L,lent⟩) 1 false 0=some (.int .i64 k):=(rfl)
theorem kA(lent:Bool)(k n:Int)(B L:List D):Dy (some ⟨false,1,vC k n B L,lent⟩) 1 false 1=some (.int .i64 n):=(rfl)
theorem kB(lent:Bool)(k n:Int)(B L:List D):Dy (some ⟨false,1,vC k n B L,lent⟩) 1 false 2=some (.slc (nz 1 B) B false):=(rfl)
theorem du(lent:Bool)(k n:Int)(B L:List D):Dy (some ⟨false,1,vC k n B L,lent⟩) 1 false 3=some (.slc (nz 4 L) L false):=(rfl)
theorem Ny(lent:Bool)(k n:Int)(B L:List D):Dy (some ⟨false,1,vC k n B L,lent⟩) 4 true 0=some (vD k n B L):=(rfl)
theorem VS(k n:Int)(B L:List D):DY (some ⟨false,1,[.int .i64 0,.int .i64 0,.slc 0 [] true,.slc 0 [] true],false⟩) 4 0 (vD k n B L)=some ⟨false,1,vC k n B L,false⟩:=(rfl)
theorem uH(st:St)(k n:Int)(B L:List D):Ft st 4 true (.eptr (vD k n B L) 0)=some (vD k n B L):=(rfl)
theorem dB(st:St)(k n:Int)(B L:List D):DW st (vD k n B L)=some (vD k n B L):=by
 simp only[vD,vC,DW,D9,DD,J3];rfl
theorem aB(k n:Int)(B L:List D):keys (vD k n B L)=[]:=(rfl)
theorem WS(k n:Int)(B L:List D):(vC k n B L).flatMap hk=[]:=(rfl)
theorem V9(m:Nat)(k n:Int)(B L:List D):∀ x∈vC k n B L,EC m [] x=x:=by
 intro x E;simp only[vC,Ax,AE,or_false]at E;rcases E with rfl | rfl | rfl | rfl <;> rfl
theorem Yzg(m:Nat)(σ:List Nat)(k n:Int)(B L:List D):(vC k n B L).map (EC m σ)=vC k n B L:=(rfl)
theorem yA(st:St)(l:List Val)(t:Bool)(i:Nat)(h:i<l.length):Gx st 4 (.slc (nz 4 (l.map De)) (l.map De) t) (.int .i64 (i:Int))=some (.eptr (De (l.getD i default)) 0):=by
 have:=Ks st 4 De l t .i64 (i:Int) (by omega) (by omega);grind
theorem ux:((2:Int)=1)=False:=by simp
theorem uw:((3:Int)=1)=False:=by simp
theorem uv:((3:Int)=2)=False:=by simp
noncomputable def cG(N:Nat):List D→Option D:=Dk (α:=Val) (fun v=>[De v]) (fun v=>Eh v<N∧(Dz v).length≤4294967000) (fun v=>.tup [.int .i64 (Eh v:Int),.bool true])
theorem so(N:Nat)(v:Val)(h:Eh v<N∧(Dz v).length≤4294967000):cG N [De v]=some (.tup [.int .i64 (Eh v:Int),.bool true]):=
 D7 (fun a b h=>by simp only[Aa,and_true,TT]at h; rw[h]) v h
theorem oc:∀ b:List UInt8,b.length≤(b.flatMap Eg).length
 |[]=>by simp
 |c::b=>by
  have:=oc b;have E:1≤(Eg c).length:=by unfold Eg; split <;> simp
  grind
theorem Yl2(n:Int):1≤(IK n).length:=by unfold IK; split <;> simp
theorem od:∀ v:Val,1≤(Dz v).length
 |.int n=>by rw[gI]; exact Yl2 n
 |.bytes b=>by rw[Yy]; simp
 |.list l=>by rw[OJ]; simp
theorem iX:∀ l:List Val,l.length≤(l.flatMap Dz).length
 |[]=>by simp
 |v::l=>by
  have:=iX l;have:=od v;grind
theorem oe:∀ {l:List Val} {v:Val},v∈l→(Dz v).length≤(l.flatMap Dz).length
 |a::l,v,h=>by
  simp only[At,Ab];rcases Ax.1 h with rfl | h
  ·omega
  ·have:=oe h; omega
mutual
theorem Ym7:∀ v:Val,Eh v≤(Dz v).length
 |.int n=>by simp[Eh]
 |.bytes b=>by simp[Eh]
 |.list l=>by
  have:=jg l;simp only[Eh,Dz,Ah,Ab,Aq];omega
theorem jg:∀ l:List Val,Ii l≤(Q7 l).length
 |[]=>by simp[Ii]
 |v::l=>by
  have:=Ym7 v;have:=jg l;simp only[Ii,Q7,Ab];omega
end
def JV:List Val→Nat
 |[]=>0
 |v::l=>max (JV l) (Eh v)
theorem n7:∀ l:List Val,JV l.reverse=Ii l:=by
 have h:∀ (l m:List Val),JV (l++m)=max (JV l) (JV m):=by
  intro l m
  induction l with
  |nil=>simp[JV]
  |cons a l E=>simp only[Ae,JV,E]; omega
 intro l
 induction l with
 |nil=>simp[JV,Ii]
 |cons a l E=>rw[List.reverse_cons,h,E]; simp only[JV,Ii]; omega
theorem yYh(l:List Val)(v:Val):Ii (l++[v])=max (Ii l) (Eh v):=by
 rw[← n7,← n7 l,List.reverse_append];rfl
theorem QJ[Inhabited α](l:List α)(h:i<l.length):l.take (i+1)=l.take i++[l.getD i default]:=by
 simp_all
set_option maxHeartbeats 4000000 in
set_option maxRecDepth 20000 in
theorem wE:∀ N:Nat,Contract Tryz.prog GG 189 (cG N)
 |0=>by
  intro w g ds vs d hd;obtain⟨a,_,hp,_⟩:=iA hd;omega
 |N+1=>by
  refine Ed (T:=tb [(189,cG N)] []) yEz (DI (all_cons (wE N) all_nil) all_nil) ?_;rintro v ⟨hN,hl⟩;unfold lZ
  cases v with
  |int n=>
   rw[OD,Ym8];simp (disch:=first|omega|decide) only[push_cast,↓reduceIte,CI,↓CM,P3,SK,kB,du]
  |bytes b=>
   rw[OQ,yYi];simp (disch:=first|omega|decide) only[push_cast,↓reduceIte,CI,↓CM,P3,SK,kA,du,ux]
  |list l=>
   rw[QK,jf];rw[jf]at hN;rw[OJ]at hl;have ah:=iX l;have U:=jg l;rw[gJ]at U;simp only[Ah,Ab,Aq]at hl;simp (disch:=first|omega|decide) only[push_cast,↓reduceIte,CI,P3,SK,kA,kB,du,uw,uv]
   refine F9 (fun i:Nat=>[(2,.int .i64 (Ii (l.take i):Int)),(45,.slc (nz 4 (l.map De)) (l.map De) false),(46,.int .i64 (l.length:Int)),(47,.int .i64 (i:Int))])
    (fun _=>[⟨false,1,vC 3 0 [] (l.map De),false⟩]) (fun i=>i≤l.length) (fun i=>l.length - i) 0 (by simp only[push_cast,↓reduceIte,CI,↓CM,WS,Yzg] <;> rfl) (by omega) ?_
   intro i hi;unfold mF;simp (disch:=first|omega|decide) only[push_cast,↓reduceIte,CI];refine EU (fun h2=>?_) (fun h2=>?_)
   ·have E:i<l.length:=by omega
    have O:=yA [⟨false,1,vC 3 0 [] (l.map De),false⟩] l false i E;have I:l.getD i default∈l:=by rw[Al,Am E]; exact BE E
    have V:=gG I;have Y:=oe I;have hc:=so N (l.getD i default) ⟨by omega,by omega⟩;have J:=QJ l E;obtain⟨x,aa⟩:∃ x,l.getD i default=x:=⟨_,rfl⟩;rw[aa]at O hc J V Y;have M:=yYh (l.take i) x;rw[← J]at M;obtain⟨k,n,B,L,hC,hD⟩:=OM x;rw[hD]at O hc;simp (disch:=first|omega|decide) only[push_cast,↓reduceIte,CI,CN,CJ,O,uH,UK,VS,Ny,dB,aB,hc,DN];refine E2 (i+1) (by omega) (by omega) ?_;rw[show((Ii (l.take (i+1)):Nat):Int)=max (Ii (l.take i):Int) (Eh x:Int) by rw[M]; omega];rfl
   ·obtain rfl:i=l.length:=by omega
    have e2:l.take l.length=l:=Bj;rw[e2];simp (disch:=first|omega|decide) only[push_cast,↓reduceIte,CI,DN]
theorem Fa(st:St)(o:Obj):(st++[o])[st.length]?=some o:=List.getElem?_concat_length
theorem RV(st:St)(o o':Obj):(st++[o]).set st.length o'=st++[o']:=by simp
theorem fW(n:Nat)(d:D):EC n [] d=Ht n d:=by
 have J:∀ (f:Nat→D) (key:Nat),Jv f (EV n [] key)=if key<n then f key else .junk:=by
  intro f key; unfold EV; split <;> rfl
 have E:∀ d,GK n [] d=HE n d:=by
  intro d;cases d <;> simp only[GK,HE,J]
 have I:∀ d,EK n [] d=GO n d:=by
  intro d
  cases d with
  |clo f l=>simp only[EK,GO,D.clo.injEq,true_and]; exact BJ fun x _=>E x
  |_=>simp only[EK,GO]; exact E _
 cases d with
 |agg l=>simp only[EC,Ht,D.agg.injEq]; exact BJ fun x _=>I x
 |tup l=>rfl
 |_=>simp only[EC,Ht]; exact I _
theorem YA8(h:EC n [] x=x):∀ k∈hk x,k<n:=by
 have E:∀ (f:Nat→D) (key:Nat),(∀ k,f k≠.junk)→Jv f (EV n [] key)=f key→key<n:=by
  intro f key hf h;unfold EV at h
  split at h
  ·assumption
  ·exact absurd h.symm (hf key)
 have J:∀ x,GK n [] x=x→∀ k∈Gr x,k<n:=by
  intro x h k hk
  cases x with
  |row key tot off len=>simp only[Gr,AN]at hk; subst hk; exact E (fun k=>.row k tot off len) _ (fun k e=>by cases e) h
  |bsl key off j sz ag=>simp only[Gr,AN]at hk; subst hk; exact E (fun k=>.bsl k off j sz ag) _ (fun k e=>by cases e) h
  |ptr key off=>simp only[Gr,AN]at hk; subst hk; exact E (fun k=>.ptr k off) _ (fun k e=>by cases e) h
  |rptr key tot i off=>simp only[Gr,AN]at hk; subst hk; exact E (fun k=>.rptr k tot i off) _ (fun k e=>by cases e) h
  |mapv key=>simp only[Gr,AN]at hk; subst hk; exact E .mapv _ (fun k e=>by cases e) h
  |_=>simp[Gr]at hk
 have M:∀ x,EK n [] x=x→∀ k∈DB x,k<n:=by
  intro x h k hk
  cases x with
  |clo f l=>
   simp only[DB,Bo]at hk;obtain⟨y,I,hk⟩:=hk;simp only[EK,D.clo.injEq,true_and]at h;exact J y (QX h y I) k hk
  |_=>unfold EK at h; unfold DB at hk; exact J _ h k hk
 intro k hk
 cases x with
 |agg l=>
  simp only[PI.hk,Bo]at hk;obtain⟨y,I,hk⟩:=hk;simp only[EC,D.agg.injEq]at h;exact M y (QX h y I) k hk
 |tup l=>simp[PI.hk,DB,Gr]at hk
 |_=>unfold EC at h; unfold PI.hk at hk; exact M _ h k hk
theorem StOK.keys(h:StOK st):∀ o∈st,o.row=false→∀ x∈o.els,∀ k∈hk x,k<st.length:=fun o E I x J=>YA8 (h o E I x J)
theorem mi{l:St}(h:StOK st)(hn:n=st.length)(E:∀ k∈Nb fr keep,k<n):restrict keep n ⟨fr,st++l⟩=⟨F3 (J1 fr n [] keep),st⟩:=by
 subst hn;refine yIk h h.keys fun s I k hk=>E k ?_;rw[gM,Bo];grind
theorem vQ{l:St}(h:StOK st)(hn:n=st.length):cut n (st++l)=st:=by
 subst hn;unfold cut;rw[show(st++l).take st.length=st by simp];refine MZ fun o E=>?_;obtain⟨row,sz,els,lent⟩:=o
 cases row with
 |true=>rfl
 |false=>
  show(⟨false,sz,els.map (Ht st.length),lent⟩:Obj)=_
  rw[MZ fun x I=>(fW st.length x).symm.trans (h _ E rfl x I)]
theorem iI(h:StOK st)(k n:Int)(B L:List D)(lent:Bool):StOK (st++[⟨false,1,vC k n B L,lent⟩]):=h.app _ fun o E J x I=>by
 simp only[AN]at E;subst E;exact V9 _ _ _ _ _ x I
theorem yY6{b:D}(h:NV st b l)(m:St):NV (st++m) b l:=by
 rcases h with⟨rfl,rfl⟩ | ⟨key,rfl,hl,hk⟩
 ·exact .inl ⟨rfl,rfl⟩
 ·exact .inr ⟨key,rfl,hl,by rw[Au (Ac.1 hk).1]; exact hk⟩
theorem sS{els:List D}{lent:Bool}(hk:st[key]?=some ⟨true,sz,els,lent⟩){j:Nat}{o:PI.Obj}(hj:st[j]?=some o)(I:o.row=false)(m:List UInt8):(DM st key m)[j]?=some o:=by
 have E:key≠j:=by
  grind
 rw[DM,AM E];exact hj
theorem tG{b:D}(h:NV st b l)(hm:m≠[]):∃ key st1,key<st1.length∧Jt st b l m=(.row key (l++m).length 0 (l++m).length,DM st1 key (l++m))∧(StOK st→StOK st1)∧
  (∀ n,Jt st b l (m++n)=(.row key (l++(m++n)).length 0 (l++(m++n)).length,DM st1 key (l++(m++n))))∧∀ (j:Nat) (o:PI.Obj),st[j]?=some o→o.row=false→∀ n,(DM st1 key n)[j]?=some o:=by
 rcases h with⟨rfl,rfl⟩ | ⟨key,rfl,hl,hk⟩
 ·refine⟨st.length,st++[⟨true,1,[],false⟩],by simp,?_,fun h=>h.app _ fun o J E=>?_,fun n=>?_,fun j o hj E n=>?_⟩
  ·simp[Jt,DM]
  ·grind
  ·simp[Jt,DM]
  ·exact sS (Fa st ⟨true,1,[],false⟩) (by rw[Au (Ac.1 hj).1]; exact hj) E n
 ·have I:=(Ac.1 hk).1;exact⟨key,st,I,rfl,id,fun n=>rfl,fun j o hj E n=>sS hk hj E n⟩
def Td(st:St)(b:D)(l:List UInt8)(v:Val):D×St:=Jt (st++[⟨false,1,Vz v,false⟩]) b l (Dz v)
def uP(N:Nat)(ds:List D)(st:St)(r:D×St):Prop:=∃ (v:Val),StOK st∧Eh v<N∧(Dz v).length≤4294967000∧ds=[.slc 0 [] true,De v]∧r=Td st (.slc 0 [] true) [] v
def uQ(N:Nat)(ds:List D)(st:St)(r:D×St):Prop:=∃ (key:Nat) (l:List UInt8) (v:Val),StOK st∧Eh v<N∧l.length+(Dz v).length≤4294967000∧l≠[]∧st[key]?=some ⟨true,1,l.map Dl,false⟩∧ds=[.row key l.length 0 l.length,De v]∧r=Jt st (.row key l.length 0 l.length) l (Dz v)
noncomputable def iz(N:Nat):List D→St→Option (D×St):=Fv (uP N)
noncomputable def TJ(N:Nat):List D→St→Option (D×St):=Fv (uQ N)
theorem Yhu(N:Nat):Ic (uQ N):=by
 rintro ds st r J ⟨key,l,v,_,_,_,_,hk,rfl,rfl⟩ ⟨I,M,v',_,_,_,_,E,h,rfl⟩;simp only[Aa,D.row.injEq,and_true,TT]at h;obtain⟨⟨rfl,_⟩,rfl⟩:=h;rw[hk]at E;simp only[Db,Obj.mk.injEq,true_and,and_true]at E;rw[QB E]
theorem Yhv(N:Nat):Ic (uP N):=by
 rintro ds st r E ⟨v,_,_,_,rfl,rfl⟩ ⟨v',_,_,_,h,rfl⟩;simp only[Aa,and_true,true_and,TT]at h;rw[h]
theorem Ybf{G:Dj}{T:Tbl}{c:PC}{res:List PRes}{K I:D→St→Prop}(h:@wW G T c fr st ⟨@GJ res ⟨K⟩⟩)(hk:∀ d st,K d st→I d st):@wW G T c fr st ⟨@GJ res ⟨I⟩⟩:=by
 refine SV (KV _ _ _ _ _ (Ho h) fun e E st' h=>?_)
 have fin:@on _ (D3 ⟨E,st'⟩ res) ⟨fun l=>K (DQ l) st'⟩→@on _ (D3 ⟨E,st'⟩ res) ⟨fun l=>I (DQ l) st'⟩:=by
  unfold on;grind
 cases e with
 |next=>rw[rI]at h ⊢; exact fin h
 |ret=>rw[pg]at h ⊢; exact fin h
 |exit id=>unfold GJ at h; exact h.elim
 |panic t d=>unfold GJ at h; exact h.elim
theorem YCo(c:UInt8):Dp .eql (Dl c) (.int .u8 0)=some (.bool (decide (c=0))):=by
 unfold Dl;rw[wk]
 congr 2
 rw[decide_eq_decide];refine⟨fun h=>?_,fun h=>by subst h; rfl⟩;apply UInt8.toNat_inj.1;grind
theorem Yz4:Ff 1 [.int .u8 0,.int .u8 0]=some (.slc 1 [.int .u8 0,.int .u8 0] true):=(rfl)
theorem dA(n:Int):Ff 1 [.int .u8 n]=some (.slc 1 [.int .u8 n] true):=(rfl)
theorem j8:Dl 48=.int .u8 48:=(rfl)
theorem j7:Dl 64=.int .u8 64:=(rfl)
theorem uF:Dl 0=.int .u8 0:=(rfl)
theorem Xq:Dl 255=.int .u8 255:=(rfl)
/- the bytes of a string,laid behind what is there -/
theorem Yij(T:Tbl)(st1:St)(key:Nat)(E:key<st1.length)(O:StOK st1)(l0 B:List UInt8)(hl:l0.length+(B.flatMap Eg).length≤4294967100)(fr:Frame)(Q:Ex→Frame→St→Prop)
  (h0:fr 0=.row key l0.length 0 l0.length) (h1:fr 23=.slc (nz 1 (B.map Dl)) (B.map Dl) false) (h6:fr 24=.int .i64 (B.length:Int)) (U:fr 25=.int .i64 0)
  (hQ:∀ J,J 0=.row key (l0++B.flatMap Eg).length 0 (l0++B.flatMap Eg).length→Q (.exit 1) J (DM st1 key (l0++B.flatMap Eg))) :
  @wW GG T (.loop [0,23,24,25] fv) fr (DM st1 key l0) ⟨Q⟩:=by
 have hlen:=eQ st1 key;have N:∀ (fr:Frame) (m:List UInt8),restrict [0,23,24,25] (DM st1 key l0).length ⟨fr,DM st1 key m⟩=⟨F3 (J1 fr st1.length [] [0,23,24,25]),DM st1 key m⟩:=fun fr m=>by rw[Zf (U6 O key m) (by rw[hlen,hlen]),hlen]
 have hB:=oc B
 refine F9 (fun i:Nat=>[(0,.row key (l0++(B.take i).flatMap Eg).length 0 (l0++(B.take i).flatMap Eg).length),(23,.slc (nz 1 (B.map Dl)) (B.map Dl) false),(24,.int .i64 (B.length:Int)),(25,.int .i64 (i:Int))])
  (fun i=>DM st1 key (l0++(B.take i).flatMap Eg)) (fun i=>i≤B.length) (fun i=>B.length - i) 0 ?_ (by omega) ?_
 ·rw[N];simp (disch:=omega) only[push_cast,↓CM,h0,h1,h6,U,Qq] <;> rfl
 intro i hi;unfold fv;simp (disch:=first|omega|decide) only[push_cast,↓reduceIte,CI];refine EU (fun h2=>?_) (fun h2=>?_)
 ·have V:i<B.length:=by omega
  have Y:Gx (DM st1 key (l0++(B.take i).flatMap Eg)) 1 (.slc (nz 1 (B.map Dl)) (B.map Dl) false) (.int .i64 (i:Int))=some (.eptr (Dl (B.getD i default)) 0):=by
   have:=Ks (DM st1 key (l0++(B.take i).flatMap Eg)) 1 Dl B false .i64 (i:Int) (by omega) (by omega);grind
  have a2:=QJ B V
  have a1:((B.take i).flatMap Eg).length+(Eg (B.getD i default)).length≤(B.flatMap Eg).length:=by
   have e:B=B.take (i+1)++B.drop (i+1):=(Bl _ _).symm;grind
  generalize a3:B.getD i default=c at*;have ac:1≤(Eg c).length:=by unfold Eg; split <;> simp
  have I:=fun x=>X5 (st:=st1) E (l0++(B.take i).flatMap Eg) x (by rw[Ab]; omega) true
  have M:l0++(B.take (i+1)).flatMap Eg=l0++(B.take i).flatMap Eg++Eg c:=by
   grind
  by_cases hc:c=0
  ·subst hc;have aa:Dp .eql (Dl 0) (.int .u8 0)=some (.bool true):=(rfl)
   have h3:=X5 (st:=st1) E (l0++(B.take i).flatMap Eg++[0]) 255 (by
    grind) true
   rw[Xq]at h3;simp (disch:=first|omega|decide) only[push_cast,↓reduceIte,CI,Y,eL,XG,UO,US,dA,I,aa,h3,DN,↓N,E];refine E2 (i+1) (by omega) (by omega) ?_;rw[M,show l0++(B.take i).flatMap Eg++Eg 0=l0++(B.take i).flatMap Eg++[0]++[255] by simp[Eg]]
   first | rfl | (simp only[push_cast,↓E3,↓reduceIte,CI,CP,CN,CJ,Nat.reduceSub,CO,CZ,CT,Int.reduceLE,CU,CL,CY,C0,C4,C3,↓CM] <;> rfl)
  ·simp (disch:=first|omega|decide) only[push_cast,↓reduceIte,CI,Y,eL,XG,UO,US,I,YCo,hc,decide_false,DN,↓N,E];refine E2 (i+1) (by omega) (by omega) ?_;rw[M,show l0++(B.take i).flatMap Eg++Eg c=l0++(B.take i).flatMap Eg++[c] by simp[Eg,hc]]
   first | rfl | (simp only[push_cast,↓E3,↓reduceIte,CI,CP,CN,CJ,Nat.reduceSub,CO,CZ,CT,Int.reduceLE,CU,CL,CY,C0,C4,C3,↓CM] <;> rfl)
 ·obtain rfl:i=B.length:=by omega
  rw[Bj];simp (disch:=first|omega|decide) only[push_cast];exact hQ _ rfl
theorem yY2{v:Val}{N:Nat}(E:StOK st)(I:Eh v<N)(J:l.length+(Dz v).length≤4294967000)(M:l≠[])(O:st[key]?=some ⟨true,1,l.map Dl,false⟩) :
  TJ N [.row key l.length 0 l.length,De v] st=some (.row key (l++Dz v).length 0 (l++Dz v).length,st.set key ⟨true,1,(l++Dz v).map Dl,false⟩):=L0 (Yhu N) ⟨key,l,v,E,I,J,M,O,rfl,rfl⟩
theorem Ye5[Inhabited α](f:α→List UInt8)(L:List α)(h:i<L.length):((L.take i).flatMap f).length+(f (L.getD i default)).length≤(L.flatMap f).length:=by
 have e:L=L.take (i+1)++L.drop (i+1):=(Bl _ _).symm;have:=congrArg (fun l=>(l.flatMap f).length) e;simp only[List.flatMap_append,Ab,QJ L h,At,BL,Ad]at this;omega
/- the values of a list,laid behind what is there -/
theorem Yii(N:Nat)(st1:St)(key:Nat)(E:key<st1.length)(J:StOK st1)(l0:List UInt8)(aa:l0≠[])(L:List Val)(hd:Ii L<N)(hl:l0.length+(L.flatMap Dz).length≤4294967000)(fr:Frame)(Q:Ex→Frame→St→Prop)
  (h0:fr 0=.row key l0.length 0 l0.length) (h1:fr 46=.slc (nz 4 (L.map De)) (L.map De) false) (h6:fr 47=.int .i64 (L.length:Int)) (ab:fr 48=.int .i64 0)
  (hQ:∀ O,O 0=.row key (l0++L.flatMap Dz).length 0 (l0++L.flatMap Dz).length→Q (.exit 3) O (DM st1 key (l0++L.flatMap Dz))) :
  @wW GG (tb [] [(202,Vj),(190,TJ N)]) (.loop [0,46,47,48] fw) fr (DM st1 key l0) ⟨Q⟩:=by
 have hlen:=eQ st1 key;have hB:=iX L;have hR:∀ (fr:Frame) (m:List UInt8),restrict [0,46,47,48] (DM st1 key l0).length ⟨fr,DM st1 key m⟩=⟨F3 (J1 fr st1.length [] [0,46,47,48]),DM st1 key m⟩:=fun fr m=>by rw[Zf (U6 J key m) (by rw[hlen,hlen]),hlen]
 refine F9 (fun i:Nat=>[(0,.row key (l0++(L.take i).flatMap Dz).length 0 (l0++(L.take i).flatMap Dz).length),(46,.slc (nz 4 (L.map De)) (L.map De) false),(47,.int .i64 (L.length:Int)),(48,.int .i64 (i:Int))])
  (fun i=>DM st1 key (l0++(L.take i).flatMap Dz)) (fun i=>i≤L.length) (fun i=>L.length - i) 0 ?_ (by omega) ?_
 ·rw[hR];simp (disch:=omega) only[push_cast,↓CM,h0,h1,h6,ab,Qq] <;> rfl
 intro i hi;unfold fw;simp (disch:=first|omega|decide) only[push_cast,↓reduceIte,CI];refine EU (fun h2=>?_) (fun h2=>?_)
 ·have I:i<L.length:=by omega
  have U:=yA (DM st1 key (l0++(L.take i).flatMap Dz)) L false i I;have V:L.getD i default∈L:=by rw[Al,Am I]; exact BE I
  have ac:=gG V;have ad:=Ye5 Dz L I;have ae:=QJ L I;obtain⟨x,af⟩:∃ x,L.getD i default=x:=⟨_,rfl⟩;rw[af]at U ae ac ad
  have a7:l0++(L.take (i+1)).flatMap Dz=l0++(L.take i).flatMap Dz++Dz x:=by
   grind
  obtain⟨k,n,B,M,hC,hD⟩:=OM x;have Y:=iI (U6 J key (l0++(L.take i).flatMap Dz)) k n B M false
  have hc:=yY2 (N:=N) (v:=x) (l:=l0++(L.take i).flatMap Dz) (key:=key) Y (by omega) (by rw[Ab]; omega) (by simp[aa]) (by
   rw[Au (by rw[hlen]; exact E)]; exact gW E _)
  rw[BV _ _ (by rw[hlen]; exact E),show(DM st1 key (l0++(L.take i).flatMap Dz)).set key ⟨true,1,(l0++(L.take i).flatMap Dz++Dz x).map Dl,false⟩=DM st1 key (l0++(L.take i).flatMap Dz++Dz x)from Yhc st1 key _ _,hD]at hc;rw[hD]at U
  have a0:∀ (fr:Frame) (m:List UInt8) (o:PI.Obj),(Nb fr [0,46,47,48]).all (fun k=>decide (k<st1.length))=true→restrict [0,46,47,48] (DM st1 key l0).length ⟨fr,DM st1 key m++[o]⟩=⟨F3 (J1 fr st1.length [] [0,46,47,48]),DM st1 key m⟩:=fun fr m o h=>by
   rw[mi (U6 J key m) (by rw[hlen,hlen]) (fun k hk=>by rw[hlen]; exact of_decide_eq_true (Ak.1 h k hk)),hlen]
  simp (disch:=first | omega | decide | (simp only[push_cast,↓E3,↓reduceIte,CI,CP,CN,CJ,Nat.reduceSub,CO,CZ,CT,Int.reduceLE,CU,CL,CY,C0,C4,C3,↓CM,E]; done)) only[push_cast,↓reduceIte,CI,↓a0,U,uH,UK,Fa,RV,VS,Ny,hc,DN,E];refine E2 (i+1) (by omega) (by omega) ?_;grind
 ·obtain rfl:i=L.length:=by omega
  rw[Bj];simp (disch:=first|omega|decide) only[push_cast];exact hQ _ rfl
/- the whole -/
theorem vT(N:Nat)(st:St)(b:D)(l:List UInt8)(v:Val)(ah:StOK st)(hb:NV st b l)(hN:Eh v<N+1)(hl:l.length+(Dz v).length≤4294967000) :
  @wW GG (tb [] [(202,Vj),(190,TJ N)]) Z3.code (Dc [b,De v]) st ⟨@GJ Z3.res ⟨fun d st'=>(d,st')=Td st b l v⟩⟩:=by
 unfold Z3 Td;obtain⟨k,n,B,M,hC,hD⟩:=OM v;have V:=iI ah k n B M false;have U:=yY6 hb [⟨false,1,vC k n B M,false⟩];have ae:=Fa st ⟨false,1,vC k n B M,false⟩
 cases v with
 |int m=>
  obtain⟨rfl,rfl,rfl,rfl⟩:=MA ((OD m).symm.trans hD);have hc:=Ygo m V U (by omega);rw[hD,hC,gI];generalize Jt (st++[⟨false,1,vC 1 m [] [],false⟩]) b l (IK m)=r at*;obtain⟨r1,r2⟩:=r;simp (disch:=first|omega|decide) only[push_cast,↓reduceIte,CI,P3,SK,kA,Fa,hc]
 |bytes m=>
  obtain⟨rfl,rfl,rfl,rfl⟩:=MA ((OQ m).symm.trans hD);rw[Yy]at hl;simp only[Ah,Ab,Aq]at hl;rw[hD,hC,Yy];obtain⟨key,st1,J,Y,aa,O,ab⟩:=tG U (m:=[48]) (by simp);have E:=TD U (m:=[48]) (by simp) (by simp; omega) true;rw[Y]at E;simp only[Aw,Bk,j8]at E;have hm:=O (m.flatMap Eg++[0,0]);rw[show(48::(m.flatMap Eg++[0,0]):List UInt8)=[48]++(m.flatMap Eg++[0,0])from rfl,hm];have ad:=ab _ _ ae rfl (l++[48]);simp (disch:=first|omega|decide) only[push_cast,↓reduceIte,CI,P3,SK,kB,Fa,ux,dA,E,ad];refine Yij _ st1 key J (aa V) (l++[48]) m (by simp only[Ab,Ah,Aq]; omega) _ _ (by simp only[push_cast,↓reduceIte,CI]) (by simp only[push_cast,↓reduceIte,CI]) (by simp only[push_cast,↓reduceIte,CI]) (by simp only[push_cast,↓reduceIte]) fun a0 hf=>?_;have I:=ov (st:=st1) J (l++[48]++m.flatMap Eg) [0,0] (by simp) (by simp only[Ab,Ah,Aq]; omega) true;simp only[Aw,Bk,uF]at I;simp (disch:=first|omega|decide) only[push_cast,↓reduceIte,CI,hf,Yz4,I];grind
 |list m=>
  obtain⟨rfl,rfl,rfl,rfl⟩:=MA ((QK m).symm.trans hD);rw[OJ]at hl;rw[jf]at hN;simp only[Ah,Ab,Aq]at hl;rw[hD,hC,OJ];obtain⟨key,st1,J,Y,aa,O,ab⟩:=tG U (m:=[64]) (by simp);have E:=TD U (m:=[64]) (by simp) (by simp; omega) true;rw[Y]at E;simp only[Aw,Bk,j7]at E;have hm:=O (m.flatMap Dz++[0]);rw[show(64::(m.flatMap Dz++[0]):List UInt8)=[64]++(m.flatMap Dz++[0])from rfl,hm];have ad:=ab _ _ ae rfl (l++[64]);simp (disch:=first|omega|decide) only[push_cast,↓reduceIte,CI,P3,SK,du,Fa,uw,uv,dA,E,ad];refine Yii N st1 key J (aa V) (l++[64]) (by simp) m (by omega) (by simp only[Ab,Ah,Aq]; omega) _ _ (by simp only[push_cast,↓reduceIte,CI]) (by simp only[push_cast,↓reduceIte,CI]) (by simp only[push_cast,↓reduceIte,CI]) (by simp only[push_cast,↓reduceIte]) fun a0 hf=>?_;have I:=X5 (st:=st1) J (l++[64]++m.flatMap Dz) 0 (by simp only[Ab,Ah,Aq]; omega) true;simp only[uF]at I;simp (disch:=first|omega|decide) only[push_cast,↓reduceIte,CI,hf,dA,I];grind
theorem wP:∀ N:Nat,IContract Tryz.prog GG 190 (iz N)∧IContract Tryz.prog GG 190 (TJ N)
 |0=>by
  have J:TblOK Tryz.prog GG (tb [] []):=DI all_nil all_nil;refine⟨Jz ZX J fun ds st r E=>?_,Jz ZX J fun ds st r E=>?_⟩
  ·obtain⟨v,_,h,_⟩:=Je E;omega
  ·obtain⟨key,l,v,_,h,_⟩:=Je E;omega
 |N+1=>by
  have J:TblOK Tryz.prog GG (tb [] [(202,Vj),(190,TJ N)]):=DI all_nil (all_cons Yv4 (all_cons (wP N).2 all_nil));refine⟨Jz ZX J fun ds st r E=>?_,Ze ZX J fun ds st r E=>?_⟩
  ·obtain⟨v,I,O,hl,rfl,rfl⟩:=Je E;exact vT N st _ [] v I (.inl ⟨rfl,rfl⟩) O (by simpa using hl)
  ·obtain⟨key,l,v,I,O,hl,U,hk,rfl,rfl⟩:=Je E;have M:=(Ac.1 hk).1;refine Ybf (vT N st _ l v I (.inr ⟨key,rfl,U,hk⟩) O hl) fun d st' h=>?_;simp only[Td,Jt,Dv]at h ⊢;obtain⟨rfl,rfl⟩:=h;refine⟨?_,?_⟩
   ·show H6 st.length (.row key _ 0 _)=_
    simp only[H6,Ht,GO,HE,M,if_true]
   ·rw[BV _ _ M];exact vQ (I.set _ _ fun e=>by cases e) (by rw[BT])
theorem yY3{v:Val}{N:Nat}(E:StOK st)(I:Eh v<N)(J:(Dz v).length≤4294967000):iz N [.slc 0 [] true,De v] st=some (Td st (.slc 0 [] true) [] v):=L0 (Yhv N) ⟨v,E,I,J,rfl,rfl⟩
def Xs(b:List UInt8):D:=.slc (nz 1 (b.map Dl)) (b.map Dl) false
def Lr(v:Val):List UInt8:=if(Dz v).length≤65536 then Dz v else []
def Rx(v:Val):Int:=if(Dz v).length≤65536 then 0 else 2
noncomputable def jo:List D→Option D:=Dk (α:=Val) (fun v=>[De v]) (fun v=>Eh v≤16∧(Dz v).length≤4294967000) (fun v=>.tup [Xs (Lr v),.int .i64 (Rx v)])
theorem yRg(v:Val)(h:Eh v≤16∧(Dz v).length≤4294967000):jo [De v]=some (.tup [Xs (Lr v),.int .i64 (Rx v)]):=
 D7 (fun a b h=>by simp only[Aa,and_true,TT]at h; rw[h]) v h
theorem Yn5:Contract Tryz.prog GG 167 jo:=by
 refine Ed (T:=tb [(189,cG 17)] [(190,iz 17)]) yBu (DI (all_cons (wE 17) all_nil) (all_cons (wP 17).1 all_nil)) ?_;rintro v ⟨hd,hl⟩;unfold mj Lr Rx;obtain⟨k,n,B,M,hC,O⟩:=OM v;have U:=so 17 v ⟨by omega,hl⟩;have I:=yY3 (N:=17) (st:=[⟨false,1,vC k n B M,false⟩]) (v:=v) (by have:=iI StOK.nil k n B M false; simpa using this) (by omega) hl
 have V:Dz v≠[]:=by
  intro e; have:=od v; rw[e]at this; simp at this
 have hz:nz 1 ((Dz v).map Dl)=1:=by
  cases he:Dz v with
  |nil=>exact absurd he V
  |cons a r=>rfl
 simp only[Td,Jt,Ae,Ai,Ah,Aq]at I;rw[O]at U I;rw[O];simp (disch:=first|omega|decide) only[push_cast,↓reduceIte,CI,P3,Ny,dB,aB,U];have Y:¬ ((16:Int)<(Eh v:Int)):=by omega
 simp (disch:=first|omega|decide) only[push_cast,↓reduceIte,CI,CJ,Y,decide_false,Ny,I]
 by_cases E:(Dz v).length≤65536
 ·rw[if_pos E,if_pos E];have J:¬ ((65536:Int)<((Dz v).length:Int)):=by omega
  simp (disch:=first|omega|decide) only[push_cast,↓reduceIte,CI,J,decide_false,Xs]
 ·rw[if_neg E,if_neg E];have J:((65536:Int)<((Dz v).length:Int)):=by omega
  simp (disch:=first|omega|decide) only[push_cast,↓reduceIte,CI,J,decide_true,Xs]
def DU:Dig:=R3 [112,97,100] []
def ET(a b:Dig):Dig:=R3 [110,111,100,101] (a.bs++b.bs)
def GB(l:List Dig)(k:Int)(pad:Dig):Dig:=if k<(l.length:Int)then l.getD k.toNat default else pad
def Gj(pad:Dig):List Dig→List Dig
 |[]=>[]
 |[a]=>[ET a pad]
 |a::b::r=>ET a b::Gj pad r
def EL:Nat→Dig
 |0=>DU
 |n+1=>ET (EL n) (EL n)
def EZ(l:List Dig):Nat→List Dig
 |0=>l
 |n+1=>Gj (EL n) (EZ l n)
def HK(l:List Dig)(level:Nat)(k:Int):Dig:=GB (EZ l level) k (EL level)
def GV(n:Nat):Nat:=if n=0 then 0 else n.log2+1
def D1(n:Int):Int:=if n<0∨65536<n then -1 else(GV ((max n 1).toNat - 1):Nat)
theorem Sx(E:Dig):∀ l:List Dig,(Gj E l).length=(l.length+1) / 2
 |[]=>rfl
 |[a]=>by simp[Gj]
 |a::b::r=>by
  simp only[Gj,Ah,Sx E r];omega
theorem T5(h:n<2 ^ k):GV n≤k:=by
 unfold GV
 split
 ·omega
 ·rename_i E;have:n.log2<k:=(Nat.log2_lt E).2 h;omega
theorem tD:n<2 ^ GV n:=by
 unfold GV
 split
 ·omega
 ·rename_i E;exact(Nat.log2_lt E).1 (Ck _)
theorem p7(h:2 ^ k≤n):k+1≤GV n:=by
 have E:n≠0:=by
  grind
 have:=(Nat.le_log2 E).2 h;unfold GV;grind
theorem QO(n k:Nat)(h:2 ^ k≤n):GV n=k+GV (n / 2 ^ k):=by
 have I:=tD (n:=n / 2 ^ k)
 have M:GV n≤k+GV (n / 2 ^ k):=by
  apply T5;rw[Nat.pow_add];exact(Nat.div_lt_iff_lt_mul (Nat.two_pow_pos k)).1 I |> fun x=>by rwa [Cr]
 have N:1≤n / 2 ^ k:=(Nat.one_le_div_iff (Nat.two_pow_pos k)).2 h
 have O:k+GV (n / 2 ^ k)≤GV n:=by
  obtain⟨j,hj⟩:∃ j,GV (n / 2 ^ k)=j+1:=by
   have:=p7 (n:=n / 2 ^ k) (k:=0) (by omega);exact⟨GV (n / 2 ^ k) - 1,by omega⟩
  have J:2 ^ j≤n / 2 ^ k:=by
   rcases Ba (n / 2 ^ k) (2 ^ j)with E | E
   ·have:=T5 E;omega
   ·exact E
  have E:2 ^ (k+j)≤n:=by
   rw[Nat.pow_add]
   calc 2 ^ k*2 ^ j≤2 ^ k*(n / 2 ^ k):=Nat.mul_le_mul_left _ J
    _≤n:=Nat.mul_div_le n (2 ^ k)
  have:=p7 E;omega
 omega
def kY:Int×Dig:=(0,Du)
def FY(k:Int):Int:=if k % 2=0 then k+1 else k - 1
def Ju(i:Nat)(x:Dig):List Dig→Dig
 |[]=>x
 |q::r=>Ju (i / 2) (if i % 2=0 then ET x q else ET q x) r
def GA(c:Int×Dig)(i:Int)(leaf:Dig)(p:List Dig):Bool:=
 decide (0≤D1 c.1∧0≤i∧i<2 ^ (D1 c.1).toNat∧(p.length:Int)=D1 c.1∧Ju i.toNat leaf p=c.2)
def Hi(l:List Dig)(i:Int):Nat→List Dig
 |0=>[]
 |n+1=>Hi l i n++[HK l n (FY (i / 2 ^ n))]
theorem NP{n:Int}(E:0≤n)(I:n≤65536):D1 n=(GV ((max n 1).toNat - 1):Nat)∧0≤D1 n∧D1 n≤16:=by
 have e:D1 n=(GV ((max n 1).toNat - 1):Nat):=by unfold D1; rw[if_neg (by omega)]
 have:GV ((max n 1).toNat - 1)≤16:=T5 (by omega);omega
theorem Uo{n:Int}(h:n<0∨65536<n):D1 n=-1:=by unfold D1; rw[if_pos h]
theorem Yfl{n:Int}(E:0≤n)(I:n≤65536):n≤2 ^ (D1 n).toNat:=by
 obtain⟨e,_,_⟩:=NP E I;rw[e,Be];have J:=tD (n:=(max n 1).toNat - 1);grind
theorem bX{a b:Nat}(h:a≤b):(2:Int) ^ a≤2 ^ b:=by
 have E:(2:Nat) ^ a≤2 ^ b:=Nat.pow_le_pow_right (by decide) h;grind
theorem TG(a:Nat):(1:Int)≤2 ^ a:=bX (a:=0) (by omega)
theorem gu(E:Dig):∀ (row:List Dig) (j:Nat),2*j<row.length→(Gj E row).getD j default=ET (row.getD (2*j) default) (GB row (2*(j:Int)+1) E)
 |[],j,h=>by simp at h
 |[a],j,h=>by
  obtain rfl:j=0:=by simp at h; omega
  rfl
 |a::b::r,0,_=>by
  have:GB (a::b::r) (2*((0:Nat):Int)+1) E=b:=by
   unfold GB;grind
  rw[this];rfl
 |a::b::r,j+1,h=>by
  have I:=gu E r j (by simp at h; omega)
  have J:(a::b::r).getD (2*(j+1)) default=r.getD (2*j) default:=by
   rfl
  have M:GB (a::b::r) (2*((j+1:Nat):Int)+1) E=GB r (2*(j:Int)+1) E:=by
   unfold GB;grind
  rw[J,M,← I];rfl
theorem cN(E:Dig)(row:List Dig)(j:Nat)(h:2*j<row.length):(Gj E row).take (j+1)=(Gj E row).take j++[ET (row.getD (2*j) default) (GB row (2*(j:Int)+1) E)]:=by
 rw[sg _ j (by rw[Sx]; omega),gu E row j h]
theorem eP(l:List Dig):∀ n,(EZ l n).length≤l.length
 |0=>AD _
 |n+1=>by
  rw[EZ,Sx];have:=eP l n;omega
theorem Yte:([0,1,2,2,3,3,3,3,4,4,4,4,4,4,4,4,5,5,5,5,5,5,5,5,5,5,5,5,5,5,5,5,6,6,6,6,6,6,6,6,6,6,6,6,6,6,6,6,6,6,6,6,6,6,6,6,6,6,6,6,6,6,6,6,7,7,7,7,7,7,7,7,7,7,7,7,7,7,7,7,7,7,7,7,7,7,7,7,7,7,7,7,7,7,7,7,7,7,7,7,7,7,7,7,7,7,7,7,7,7,7,7,7,7,7,7,7,7,7,7,7,7,7,7,7,7,7,7,8,8,8,8,8,8,8,8,8,8,8,8,8,8,8,8,8,8,8,8,8,8,8,8,8,8,8,8,8,8,8,8,8,8,8,8,8,8,8,8,8,8,8,8,8,8,8,8,8,8,8,8,8,8,8,8,8,8,8,8,8,8,8,8,8,8,8,8,8,8,8,8,8,8,8,8,8,8,8,8,8,8,8,8,8,8,8,8,8,8,8,8,8,8,8,8,8,8,8,8,8,8,8,8,8,8,8,8,8,8,8,8,8,8,8,8,8,8,8,8,8,8,8,8,8,8,8,8]:List UInt8)=(CS 256).map (fun j=>CV (GV j)):=by kernel_rfl
theorem PL(j:Nat)(h:j<256):((((CS 256).map (fun j=>CV (GV j))).getD j default).toNat:Int)=GV j:=by
 have E:GV j≤8:=T5 (k:=8) (by omega);simp[Al,h];omega
theorem yQl:((CS 256).map (fun j=>CV (GV j))).length=256:=by simp
theorem PK(b:UInt8):KD (.str ((CS 256).map (fun j=>CV (GV j)))) (Dl b)=some (Dl (((CS 256).map (fun j=>CV (GV j))).getD b.toNat default)):=Yme _ b (by rw[yQl]; exact b.toNat_lt)
theorem PM(m:Nat)(h:m<256):(CV m).toNat=m:=by simp; omega
noncomputable def jx:List D→Option D:=Dk (α:=Int) (fun a=>[.int .u64 a]) (fun a=>0≤a∧a<18446744073709551616) (fun a=>.int .i64 (GV a.toNat:Int))
theorem yRe(x:Int)(h:0≤x∧x<18446744073709551616):jx [.int .u64 x]=some (.int .i64 (GV x.toNat:Int)):=
 D7 (fun a b h=>by simp only[Aa,D.int.injEq,true_and,and_true]at h; simp[h]) (x) h
theorem Yig(x:Int)(h:0≤x∧x<18446744073709551616):@wW GG (tb [] []) ZT.code (Dc [.int .u64 x]) [] ⟨Dn ZT.res (.int .i64 (GV x.toNat:Int))⟩:=by
 obtain⟨V,h1⟩:=h;obtain⟨n,rfl⟩:=Bg V;rw[Be];have d1:=QO n 32;have d2:=QO n 16;have d3:=QO n 8;have d4:=QO (n / 2 ^ 32) 16;have d5:=QO (n / 2 ^ 32) 8;have d6:=QO (n / 2 ^ 32 / 2 ^ 16) 8;have d7:=QO (n / 2 ^ 16) 8;have I:∀ y,y<256→GV y≤8:=fun y hy=>T5 (k:=8) (by omega);unfold ZT;rw[Yte];simp only[push_cast,↓reduceIte,CI];refine EU (fun Y=>?_) (fun Y=>?_)
 ·simp (disch:=omega) only[push_cast,↓reduceIte,CI,CU,CY,NY]
  ·refine EU (fun N=>?_) (fun N=>?_)
   ·simp (disch:=omega) only[push_cast,↓reduceIte,CI,CU,CY,C0,NY,DN]
    ·refine EU (fun J=>?_) (fun J=>?_)
     ·simp (disch:=omega) only[push_cast,↓reduceIte,CI,CU,CY,C0,NY,DN]
      ·have E:((n:Int) / 4294967296 / 65536 / 256).toNat=n / 2 ^ 32 / 2 ^ 16 / 2 ^ 8:=by omega
       have hb:=I (n / 2 ^ 32 / 2 ^ 16 / 2 ^ 8) (by omega);have M:=d1 (by omega);have O:=d4 (by omega);have aa:=d6 (by omega);simp (disch:=omega) only[push_cast,↓reduceIte,CI,NM,PK,PE,PL,PM,E,DN];refine congrArg (fun z=>some (D.int .i64 z)) ?_;omega
     ·simp (disch:=omega) only[push_cast,↓reduceIte,CI]
      ·have E:((n:Int) / 4294967296 / 65536).toNat=n / 2 ^ 32 / 2 ^ 16:=by omega
       have hb:=I (n / 2 ^ 32 / 2 ^ 16) (by omega);have M:=d1 (by omega);have O:=d4 (by omega);simp (disch:=omega) only[push_cast,↓reduceIte,CI,NM,PK,PE,PL,PM,E,DN];refine congrArg (fun z=>some (D.int .i64 z)) ?_;omega
   ·simp (disch:=omega) only[push_cast,↓reduceIte,CI]
    ·refine EU (fun J=>?_) (fun J=>?_)
     ·simp (disch:=omega) only[push_cast,↓reduceIte,CI,CU,CY,C0,NY,DN]
      ·have E:((n:Int) / 4294967296 / 256).toNat=n / 2 ^ 32 / 2 ^ 8:=by omega
       have hb:=I (n / 2 ^ 32 / 2 ^ 8) (by omega);have M:=d1 (by omega);have ab:=d5 (by omega);simp (disch:=omega) only[push_cast,↓reduceIte,CI,NM,PK,PE,PL,PM,E,DN];refine congrArg (fun z=>some (D.int .i64 z)) ?_;omega
     ·simp (disch:=omega) only[push_cast,↓reduceIte,CI]
      ·have E:((n:Int) / 4294967296).toNat=n / 2 ^ 32:=by omega
       have hb:=I (n / 2 ^ 32) (by omega);have M:=d1 (by omega);simp (disch:=omega) only[push_cast,↓reduceIte,CI,NM,PK,PE,PL,PM,E,DN];refine congrArg (fun z=>some (D.int .i64 z)) ?_;omega
 ·simp (disch:=omega) only[push_cast,↓reduceIte,CI]
  ·refine EU (fun N=>?_) (fun N=>?_)
   ·simp (disch:=omega) only[push_cast,↓reduceIte,CI,CU,CY,C0,NY,DN]
    ·refine EU (fun J=>?_) (fun J=>?_)
     ·simp (disch:=omega) only[push_cast,↓reduceIte,CI,CU,CY,C0,NY,DN]
      ·have E:((n:Int) / 65536 / 256).toNat=n / 2 ^ 16 / 2 ^ 8:=by omega
       have hb:=I (n / 2 ^ 16 / 2 ^ 8) (by omega);have U:=d2 (by omega);have ac:=d7 (by omega);simp (disch:=omega) only[push_cast,↓reduceIte,CI,NM,PK,PE,PL,PM,E,DN];refine congrArg (fun z=>some (D.int .i64 z)) ?_;omega
     ·simp (disch:=omega) only[push_cast,↓reduceIte,CI]
      ·have E:((n:Int) / 65536).toNat=n / 2 ^ 16:=by omega
       have hb:=I (n / 2 ^ 16) (by omega);have U:=d2 (by omega);simp (disch:=omega) only[push_cast,↓reduceIte,CI,NM,PK,PE,PL,PM,E,DN];refine congrArg (fun z=>some (D.int .i64 z)) ?_;omega
   ·simp (disch:=omega) only[push_cast,↓reduceIte,CI]
    ·refine EU (fun J=>?_) (fun J=>?_)
     ·simp (disch:=omega) only[push_cast,↓reduceIte,CI,CU,CY,C0,NY,DN]
      ·have E:((n:Int) / 256).toNat=n / 2 ^ 8:=by omega
       have hb:=I (n / 2 ^ 8) (by omega);have ad:=d3 (by omega);simp (disch:=omega) only[push_cast,↓reduceIte,CI,NM,PK,PE,PL,PM,E,DN];refine congrArg (fun z=>some (D.int .i64 z)) ?_;omega
     ·simp (disch:=omega) only[push_cast,↓reduceIte,CI]
      ·have E:((n:Int)).toNat=n:=by omega
       have hb:=I (n) (by omega);simp (disch:=omega) only[push_cast,↓reduceIte,CI,NM,PK,PE,PL,PM,E,DN];refine congrArg (fun z=>some (D.int .i64 z)) ?_;omega
theorem Yn3:Contract Tryz.prog GG 129 jx:=
 Ed zc (DI all_nil all_nil) (fun a h=>Yig a h)
noncomputable def SQ:List D→Option D:=Dk (α:=List Dig×Int×Dig) (fun a=>[.slc (nz 32 (a.1.map C9)) (a.1.map C9) false,.int .i64 a.2.1,C9 a.2.2]) (fun a=>0≤a.2.1) (fun a=>C9 (GB a.1 a.2.1 a.2.2))
theorem Pw(l:List Dig)(k:Int)(E:Dig)(h:0≤k):SQ [.slc (nz 32 (l.map C9)) (l.map C9) false,.int .i64 k,C9 E]=some (C9 (GB l k E)):=
 D7 (fun⟨a0,a1,I⟩ ⟨b0,b1,J⟩ h=>by simp only[Aa,D.slc.injEq,D.int.injEq,Li,KZ,true_and,and_true]at h; simp[h]) (l,k,E) h
theorem jG(l:List Dig)(k:Int)(I:Dig)(h:0≤k):@wW GG (tb [] []) YJ.code (Dc [.slc (nz 32 (l.map C9)) (l.map C9) false,.int .i64 k,C9 I]) [] ⟨Dn YJ.res (C9 (GB l k I))⟩:=by
 unfold YJ;simp only[push_cast,↓reduceIte,CI];refine EU (fun E=>?_) (fun E=>?_)
 ·simp only[push_cast,↓reduceIte,CI,Ks _ _ _ _ _ _ _ h E,GB,E]
 ·simp only[push_cast,↓reduceIte,CI,GB,E]
theorem Pg:Contract Tryz.prog GG 93 SQ:=
 Ed yKy (DI all_nil all_nil) (fun a h=>jG a.1 a.2.1 a.2.2 h)
noncomputable def PD:List D→Option D:=Dk (α:=Unit) (fun _=>[]) (fun _=>True) (fun _=>C9 DU)
theorem QD:PD []=some (C9 DU):=
 D7 (fun _ _ _=>rfl) () trivial
theorem Yx0:@wW GG (tb [(62,Sq)] []) Y9.code (Dc []) [] ⟨Dn Y9.res (C9 DU)⟩:=by
 unfold Y9;have c:Sq [.str [112,97,100],.slc 0 [] false]=some (C9 DU):=eW [112,97,100] [] (by decide);simp (disch:=omega) only[push_cast,↓reduceIte,CI,c]
theorem S2:Contract Tryz.prog GG 20 PD:=
 Ed yHk (DI (all_cons gZ all_nil) all_nil) (fun a h=>Yx0 )
noncomputable def xY:List D→Option D:=Dk (α:=Unit) (fun _=>[]) (fun _=>True) (fun _=>C9 DU)
theorem Ygg:xY []=some (C9 DU):=
 D7 (fun _ _ _=>rfl) () trivial
noncomputable def PX:List D→Option D:=Dk (α:=Dig×Dig) (fun a=>[C9 a.1,C9 a.2]) (fun a=>True) (fun a=>C9 (ET a.1 a.2))
theorem HP(a:Dig)(b:Dig):PX [C9 a,C9 b]=some (C9 (ET a b)):=
 D7 (fun⟨a0,a1⟩ ⟨b0,b1⟩ h=>by simp only[Aa,KZ,and_true]at h; simp[h]) (a,b) trivial
theorem yZk(a:Dig)(b:Dig):@wW GG (tb [(62,Sq)] []) ZL.code (Dc [C9 a,C9 b]) [] ⟨Dn ZL.res (C9 (ET a b))⟩:=by
 unfold ZL;have ha:=a.len;have hb:=b.len;have hl:(a.bs++b.bs).length=64:=by rw[Ab,ha,hb]
 have c:=eW [110,111,100,101] (a.bs++b.bs) (by rw[hl]; decide);simp (disch:=omega) only[push_cast,↓reduceIte,CI,CJ,Yk3,tn,c];rfl
theorem Si:Contract Tryz.prog GG 95 PX:=
 Ed yF (DI (all_cons gZ all_nil) all_nil) (fun a h=>yZk a.1 a.2)
noncomputable def tq:List D→Option D:=Dk (α:=Dig×Dig) (fun a=>[C9 a.1,C9 a.2]) (fun a=>True) (fun a=>C9 (ET a.1 a.2))
theorem yNw(a:Dig)(b:Dig):tq [C9 a,C9 b]=some (C9 (ET a b)):=
 D7 (fun⟨a0,a1⟩ ⟨b0,b1⟩ h=>by simp only[Aa,KZ,and_true]at h; simp[h]) (a,b) trivial
noncomputable def gw:List D→Option D:=Dk (α:=Int) (fun a=>[.int .u64 a]) (fun a=>0≤a∧a<18446744073709551616) (fun a=>.int .i64 (GV a.toNat:Int))
theorem Ygn(x:Int)(h:0≤x∧x<18446744073709551616):gw [.int .u64 x]=some (.int .i64 (GV x.toNat:Int)):=
 D7 (fun a b h=>by simp only[Aa,D.int.injEq,true_and,and_true]at h; simp[h]) (x) h
theorem Yx8(x:Int)(h:0≤x∧x<18446744073709551616):@wW GG (tb [(129,jx)] []) ZJ.code (Dc [.int .u64 x]) [] ⟨Dn ZJ.res (.int .i64 (GV x.toNat:Int))⟩:=by
 unfold ZJ;simp (disch:=omega) only[push_cast,↓reduceIte,CI,yRe]
theorem YCk:Contract Tryz.prog GG 75 gw:=
 Ed yC (DI (all_cons Yn3 all_nil) all_nil) (fun a h=>Yx8 a h)
noncomputable def OL:List D→Option D:=Dk (α:=Int) (fun a=>[.int .i64 a]) (fun a=>True) (fun a=>.int .i64 (D1 a))
theorem NT(n:Int):OL [.int .i64 n]=some (.int .i64 (D1 n)):=
 D7 (fun a b h=>by simp only[Aa,D.int.injEq,true_and,and_true]at h; simp[h]) (n) trivial
theorem Yic(n:Int):@wW GG (tb [(75,gw)] []) Zx.code (Dc [.int .i64 n]) [] ⟨Dn Zx.res (.int .i64 (D1 n))⟩:=by
 unfold Zx;simp only[push_cast,↓reduceIte,CI,CL];refine EU (fun E=>?_) (fun E=>?_)
 ·simp only[push_cast,↓reduceIte,CI,CL,E,Uo (.inl E)]
 ·simp only[push_cast,↓reduceIte,CI,CL,E];refine EU (fun I=>?_) (fun I=>?_)
  ·simp only[push_cast,↓reduceIte,CL,I,Uo (.inr I)]
  ·have e:(max n 1 - 1).toNat=(max n 1).toNat - 1:=by omega
   have J:=(NP (n:=n) (by omega) (by omega)).1;simp (disch:=omega) only[push_cast,↓reduceIte,CI,I,E1,bj,Ygn,J,e]
theorem R5:Contract Tryz.prog GG 25 OL:=
 Ed yBq (DI (all_cons YCk all_nil) all_nil) (fun a h=>Yic a)
structure Ins where
 op:Int
 n:Int
 m:Int
 deriving DecidableEq,Inhabited
structure Sta where
 pc:Int
 fuel:Int
 status:Int
 clause:Int
 stack:List Int
 deriving DecidableEq,Inhabited
structure Opn where
 pc:Int
 fuel:Int
 status:Int
 clause:Int
 top:List Int
 depth:Int
 rest:Dig
 deriving DecidableEq
def DL(x:Ins):List D:=[.int .i64 x.op,.int .i64 x.n,.int .i64 x.m]
def Da(x:Ins):D:=.agg (DL x)
def EB(l:List Int):D:=.slc (nz 1 (l.map nI)) (l.map nI) false
def DS(s:Sta):List D:=[.int .i64 s.pc,.int .i64 s.fuel,.int .i64 s.status,.int .i64 s.clause,EB s.stack]
def DP(s:Sta):D:=.agg (DS s)
def EW(o:Opn):List D:=.int .i64 o.pc::.int .i64 o.fuel::.int .i64 o.status::.int .i64 o.clause::EB o.top::.int .i64 o.depth::C8 o.rest
def D0(o:Opn):D:=.agg (EW o)
def D2(v:Int×List Int):List D:=.int .i64 v.1::v.2.map nI
def Ez(v:Int×List Int):D:=.agg (D2 v)
theorem Sl{a b:List Int}:EB a=EB b↔a=b:=by
 refine⟨fun h=>?_,fun h=>by rw[h]⟩;simp only[EB,D.slc.injEq,and_true]at h;exact Sd.1 h.2
theorem Sc{a b:Ins}:Da a=Da b↔a=b:=by
 obtain⟨a1,E,I⟩:=a; obtain⟨b1,J,M⟩:=b;simp[Da,DL]
theorem Kw{a b:List Ins}:a.map Da=b.map Da↔a=b:=⟨Py fun _ _=>Sc.1,fun h=>by rw[h]⟩
theorem Sa{a b:Sta}:DP a=DP b↔a=b:=by
 obtain⟨a1,E,I,J,M⟩:=a; obtain⟨b1,N,O,U,V⟩:=b;simp[DP,DS,Sl]
theorem Se{a b:Opn}:D0 a=D0 b↔a=b:=by
 obtain⟨a1,E,I,J,M,N,O⟩:=a; obtain⟨b1,U,V,Y,b5,b6,b7⟩:=b;simp[D0,EW,Sl,L5]
theorem Kb{a b:Int×List Int}:Ez a=Ez b↔a=b:=by
 obtain⟨a1,E⟩:=a; obtain⟨b1,I⟩:=b;simp[Ez,D2,Sd]
def P7(t:List UInt8)(v:Val):Dig:=R3 t (Lr v)
def dG:List UInt8:=[112,114,111,103,114,97,109]
def O0:List UInt8:=[105,110,112,117,116,115]
def OY:List UInt8:=[115,116,97,99,107]
def OZ:List UInt8:=[115,116,97,116,101]
def uI(d:Dig)(x:Ins):Dig:=P7 dG (.list [.int x.op,.int x.n,.int x.m,.bytes d.bs])
def LP(c:List Ins):Dig:=c.foldl uI Du
def Lq(v:Int×List Int):Dig:=P7 O0 (.list [.int v.1,.list (v.2.map .int)])
def uG(d:Dig)(n:Int):Dig:=P7 OY (.list [.int n,.bytes d.bs])
def Ig(d:Dig)(l:List Int):Dig:=l.foldl uG d
def MB(c:List Ins)(v:Int×List Int)(o:Opn):Dig:=P7 OZ (.list [.bytes (LP c).bs,.bytes (Lq v).bs,.int o.pc,.int o.fuel,.int o.status,.int o.clause,.int (o.depth+o.top.length),.bytes (Ig o.rest o.top).bs])
def Nh(s:Sta)(n:Int):Nat:=s.stack.length - (min (max n 0) s.stack.length).toNat
def Hv(s:Sta)(n:Int):Opn:=⟨s.pc,s.fuel,s.status,s.clause,s.stack.drop (Nh s n),Nh s n,Ig Du (s.stack.take (Nh s n))⟩
def Es(c:List Ins)(v:Int×List Int)(s:Sta):Dig:=MB c v (Hv s s.stack.length)
def FV(c:List Ins)(v:Int×List Int)(o:Opn):Dig:=if o.depth<0∨64<o.depth then Du else MB c v o
theorem Yd5(n:Int):(IK n).length≤9:=by
 unfold IK
 split
 ·have:=R8 8 (En n);simp only[Ah,fi]; omega
 ·have:=R8 8 (MK (En n));simp only[Ah,fi]; omega
theorem og:∀ b:List UInt8,(b.flatMap Eg).length≤2*b.length
 |[]=>by simp
 |c::b=>by
  have:=og b;have E:(Eg c).length≤2:=by unfold Eg; split <;> simp
  simp only[At,Ab,Ah];omega
theorem MX(n:Int):(Dz (.int n)).length≤9:=by rw[gI]; exact Yd5 n
theorem TM(d:Dig):(Dz (.bytes d.bs)).length≤67:=by
 have:=og d.bs;rw[d.len]at this;rw[Yy];simp only[Ah,Ab,Aq];omega
theorem qJ:∀ l:List Int,((l.map Val.int).flatMap Dz).length≤9*l.length
 |[]=>by simp
 |n::l=>by
  have:=qJ l;have:=MX n;simp only[Aw,At,Ab,Ah];omega
theorem yXv(st:St)(key:Nat):DD st (.bsl key 0 32 1 false)=(Xb st[key]?).map fun p=>.slc (nz 1 p.2) p.2 false:=by
 rw[← tK];simp only[DD,H8,G7]
 cases LA st key 0 32 1 false with
 |none=>rfl
 |some els=>
  dsimp only
  split <;> rfl
theorem Vc(st:St)(v:Val):DW st (De v)=some (De v):=by
 obtain⟨k,n,B,M,I,E⟩:=OM v;rw[E,dB]
theorem Tx(v:Val):keys (De v)=[]:=by
 obtain⟨k,n,B,M,I,E⟩:=OM v;rw[E,aB]
theorem Ycv(v:Val):(De v).noRef=false:=by
 obtain⟨k,n,B,M,I,E⟩:=OM v;rw[E]; rfl
theorem Yfz(v:Val):(De v).cells.length=4:=by
 obtain⟨k,n,B,M,I,E⟩:=OM v;rw[E]; rfl
theorem cV(l:List Val)(h:l.length≤1000):Ff 4 (l.map De)=some (.slc 4 (l.map De) true):=by
 have E:((l.map De).all fun e=>e.cells.length == 4)=true:=by
  rw[Ak];intro e he;obtain⟨v,_,rfl⟩:=AW.1 he;simp[Yfz]
 have I:decide ((l.map De).length*4≤16777216)=true:=decide_eq_true (by rw[Bi]; omega);simp only[Ff,E,I];rfl
theorem LH:DH (.agg [.int .i64 0,.int .i64 0,.int .i64 0])=some [.int .i64 0,.int .i64 0,.int .i64 0]:=(rfl)
theorem Fq(x:Ins):DH (Da x)=some (DL x):=(rfl)
theorem NJ(x:Ins):DY (some ⟨false,1,[.int .i64 0,.int .i64 0,.int .i64 0],false⟩) 3 0 (Da x)=some ⟨false,1,DL x,false⟩:=(rfl)
theorem Gm(lent:Bool)(x:Ins):Dy (some ⟨false,1,DL x,lent⟩) 1 false 0=some (.int .i64 x.op):=(rfl)
theorem LG(lent:Bool)(x:Ins):Dy (some ⟨false,1,DL x,lent⟩) 1 false 1=some (.int .i64 x.n):=(rfl)
theorem fN(lent:Bool)(x:Ins):Dy (some ⟨false,1,DL x,lent⟩) 1 false 2=some (.int .i64 x.m):=(rfl)
theorem Oa(lent:Bool)(x:Ins):Dy (some ⟨false,1,DL x,lent⟩) 3 true 0=some (Da x):=(rfl)
theorem K2(st:St)(x:Ins):Ft st 3 true (.eptr (Da x) 0)=some (Da x):=(rfl)
theorem Yub(st:St)(x:Ins):DW st (Da x)=some (Da x):=(rfl)
theorem Vb(st:St)(c:List Ins)(t:Bool)(i:Nat)(h:i<c.length):Gx st 3 (.slc (nz 3 (c.map Da)) (c.map Da) t) (.int .i64 (i:Int))=some (.eptr (Da (c.getD i default)) 0):=by
 have:=Ks st 3 Da c t .i64 (i:Int) (by omega) (by omega);simpa using this
theorem UT(st:St)(c:List Int)(t:Bool)(i:Nat)(h:i<c.length):Gx st 1 (.slc (nz 1 (c.map nI)) (c.map nI) t) (.int .i64 (i:Int))=some (.eptr (nI (c.getD i default)) 0):=by
 have:=Ks st 1 nI c t .i64 (i:Int) (by omega) (by omega);simpa using this
theorem UU(st:St)(n:Int):Ft st 1 false (.eptr (nI n) 0)=some (.int .i64 n):=(rfl)
theorem Ymy(n:Int):DO [.int .i64 0,.int .i64 0,.slc 0 [] true,.slc 0 [] true] [(0,1,.int .i64 1),(1,1,.int .i64 n)]=some [.int .i64 1,.int .i64 n,.slc 0 [] true,.slc 0 [] true]:=(rfl)
theorem Ym0(k:Nat):DO [.int .i64 0,.int .i64 0,.slc 0 [] true,.slc 0 [] true] [(0,1,.int .i64 2),(2,1,.bsl k 0 32 1 false)]=some [.int .i64 2,.int .i64 0,.bsl k 0 32 1 false,.slc 0 [] true]:=(rfl)
theorem Ymz(sz:Nat)(l:List D)(t:Bool):DO [.int .i64 0,.int .i64 0,.slc 0 [] true,.slc 0 [] true] [(0,1,.int .i64 3),(3,1,.slc sz l t)]=some [.int .i64 3,.int .i64 0,.slc 0 [] true,.slc sz l t]:=(rfl)
theorem lF(a b c d:D):DY (some ⟨false,1,[.int .i64 0,.int .i64 0,.slc 0 [] true,.slc 0 [] true],false⟩) 4 0 (.agg [a,b,c,d])=if [a,b,c,d].all D.isCell then some ⟨false,1,[a,b,c,d],false⟩else none:=by
 simp only[DY];rfl
theorem Ru(lent:Bool)(a b c d:D):Dy (some ⟨false,1,[a,b,c,d],lent⟩) 4 true 0=some (.agg [a,b,c,d]):=(rfl)
theorem Ynj(k o n s:Nat)(ag:Bool):(D.bsl k o n s ag).isCell=true:=(rfl)
noncomputable def R2:List D→Option D:=Dk (α:=Int) (fun a=>[.int .i64 a]) (fun a=>True) (fun a=>De (.int a))
theorem Ui(n:Int):R2 [.int .i64 n]=some (De (.int n)):=
 D7 (fun a b h=>by simp only[Aa,D.int.injEq,true_and,and_true]at h; simp[h]) (n) trivial
theorem Yxl(n:Int):@wW GG (tb [] []) Zi.code (Dc [.int .i64 n]) [] ⟨Dn Zi.res (De (.int n))⟩:=by
 unfold Zi;rw[OD];simp (disch:=first|omega|decide) only[push_cast,↓reduceIte,CI,UK,Ymy,lF,Ru];rfl
theorem ao:Contract Tryz.prog GG 145 R2:=
 Ed yHf (DI all_nil all_nil) (fun a h=>Yxl a)
noncomputable def Vo:List D→Option D:=Dk (α:=Dig) (fun a=>[C9 a]) (fun a=>True) (fun a=>De (.bytes a.bs))
theorem iU(d:Dig):Vo [C9 d]=some (De (.bytes d.bs)):=
 D7 (fun a b h=>by simp only[Aa,KZ,and_true]at h; simp[h]) (d) trivial
theorem Yxr(d:Dig):@wW GG (tb [] []) YS.code (Dc [C9 d]) [] ⟨Dn YS.res (De (.bytes d.bs))⟩:=by
 unfold YS;rw[OQ];simp (disch:=first|omega|decide) only[push_cast,↓reduceIte,CI,UK,tn,Ym0,lF,Ru,Ynj,yXv];rfl
theorem kT:Contract Tryz.prog GG 142 Vo:=
 Ed yKp (DI all_nil all_nil) (fun a h=>Yxr a)
noncomputable def Ou:List D→Option D:=Dk (α:=List Val) (fun a=>[.slc (nz 4 (a.map De)) (a.map De) false]) (fun a=>True) (fun a=>De (.list a))
theorem X9(l:List Val):Ou [.slc (nz 4 (l.map De)) (l.map De) false]=some (De (.list l)):=
 D7 (fun a b h=>by simp only[Aa,D.slc.injEq,and_true,Yip]at h; simp[h]) (l) trivial
theorem Yxm(l:List Val):@wW GG (tb [] []) Yt.code (Dc [.slc (nz 4 (l.map De)) (l.map De) false]) [] ⟨Dn Yt.res (De (.list l))⟩:=by
 unfold Yt;rw[QK];simp (disch:=first|omega|decide) only[push_cast,↓reduceIte,CI,UK,Ymz,lF,Ru];rfl
theorem al:Contract Tryz.prog GG 141 Ou:=
 Ed yOs (DI all_nil all_nil) (fun a h=>Yxm a)
noncomputable def R1:List D→Option D:=Dk (α:=List UInt8×Val) (fun a=>[.str a.1,De a.2]) (fun a=>a.1.length≤1000∧Eh a.2≤16∧(Dz a.2).length≤4294967000) (fun a=>C9 (P7 a.1 a.2))
theorem X8(t:List UInt8)(v:Val)(h:t.length≤1000∧Eh v≤16∧(Dz v).length≤4294967000):R1 [.str t,De v]=some (C9 (P7 t v)):=
 D7 (fun⟨a0,a1⟩ ⟨b0,b1⟩ h=>by simp only[Aa,D.str.injEq,and_true,TT]at h; simp[h]) (t,v) h
theorem Yxo(t:List UInt8)(v:Val)(h:t.length≤1000∧Eh v≤16∧(Dz v).length≤4294967000):@wW GG (tb [(167,jo),(62,Sq)] []) Zd.code (Dc [.str t,De v]) [] ⟨Dn Zd.res (C9 (P7 t v))⟩:=by
 unfold Zd P7;have E:=yRg v h.2
 have hl:(Lr v).length≤65536:=by
  unfold Lr
  split
  ·assumption
  ·simp
 have J:=eW t (Lr v) (by omega);obtain⟨k,n,B,M,N,I⟩:=OM v;rw[I]at E;rw[I];simp (disch:=first|omega|decide) only[push_cast,↓reduceIte,CI,P3,Ny,dB,aB,E,Xs,J]
theorem ay:Contract Tryz.prog GG 140 R1:=
 Ed yHg (DI (all_cons Yn5 (all_cons gZ all_nil)) all_nil) (fun a h=>Yxo a.1 a.2 h)
theorem yWb(c:List Ins)(x:Ins):LP (c++[x])=uI (LP c) x:=by unfold LP; rw[Cy]; rfl
theorem Ykb(d:Dig)(x:Ins):dG.length≤1000∧Eh (.list [.int x.op,.int x.n,.int x.m,.bytes d.bs])≤16∧(Dz (.list [.int x.op,.int x.n,.int x.m,.bytes d.bs])).length≤4294967000:=by
 have E:=MX x.op;have I:=MX x.n;have J:=MX x.m;have M:=TM d;refine⟨by decide,by simp[Eh,Ii],?_⟩;rw[OJ];simp only[Ah,Ab,Aq,At,BL];omega
theorem Ws(a b c d:Val):Ff 4 [De a,De b,De c,De d]=some (.slc 4 [De a,De b,De c,De d] true):=cV [a,b,c,d] (by simp)
theorem Wp(a b c d:Val):Ou [.slc 4 [De a,De b,De c,De d] false]=some (De (.list [a,b,c,d])):=X9 [a,b,c,d]
theorem uM(a b:Val):Ff 4 [De a,De b]=some (.slc 4 [De a,De b] true):=cV [a,b] (by simp)
theorem uN(a b:Val):Ou [.slc 4 [De a,De b] false]=some (De (.list [a,b])):=X9 [a,b]
theorem Wq(a b c d e f g h:Val):Ff 4 [De a,De b,De c,De d,De e,De f,De g,De h]=some (.slc 4 [De a,De b,De c,De d,De e,De f,De g,De h] true):=cV [a,b,c,d,e,f,g,h] (by simp)
theorem Wo(a b c d e f g h:Val):Ou [.slc 4 [De a,De b,De c,De d,De e,De f,De g,De h] false]=some (De (.list [a,b,c,d,e,f,g,h])):=X9 [a,b,c,d,e,f,g,h]
noncomputable def gD:List D→Option D:=Dk (α:=List Ins) (fun a=>[.slc (nz 3 (a.map Da)) (a.map Da) false]) (fun a=>a.length≤4294967296) (fun a=>C9 (LP a))
theorem Yf9(c:List Ins)(h:c.length≤4294967296):gD [.slc (nz 3 (c.map Da)) (c.map Da) false]=some (C9 (LP c)):=
 D7 (fun a b h=>by simp only[Aa,D.slc.injEq,and_true,Kw]at h; simp[h]) (c) h
theorem Yxk(c:List Ins)(h:c.length≤4294967296):@wW GG (tb [(145,R2),(142,Vo),(141,Ou),(140,R1)] []) Zp.code (Dc [.slc (nz 3 (c.map Da)) (c.map Da) false]) [] ⟨Dn Zp.res (C9 (LP c))⟩:=by
 unfold Zp;simp (disch:=first|omega|decide) only[push_cast,↓reduceIte,CI]
 refine F9 (fun i:Nat=>[(2,.ptr 0 0),(5,.slc (nz 3 (c.map Da)) (c.map Da) false),(6,.int .i64 (c.length:Int)),(7,.int .i64 (i:Int))])
  (fun i=>[⟨false,1,C8 (LP (c.take i)),false⟩]) (fun i=>i≤c.length) (fun i=>c.length - i) 0 (by simp only[push_cast,↓reduceIte,CI,CP,CN,↓CM] <;> rfl) (by omega) ?_
 intro i hi;unfold mH;simp (disch:=first|omega|decide) only[push_cast,↓reduceIte,CI];refine EU (fun O=>?_) (fun O=>?_)
 ·have E:i<c.length:=by omega
  have J:=Vb [⟨false,1,C8 (LP (c.take i)),false⟩] c false i E;have I:=QJ c E;obtain⟨x,M⟩:∃ x,c.getD i default=x:=⟨_,rfl⟩;rw[M]at J I;have N:=X8 dG (.list [.int x.op,.int x.n,.int x.m,.bytes (LP (c.take i)).bs]) (Ykb _ _);simp only[dG]at N;simp (disch:=first|omega|decide) only[push_cast,↓reduceIte,CI,CP,CN,CJ,J,K2,LH,NJ,Gm,LG,fN,Ui,iU,Vc,Tx,Ws,Wp,N,DN];refine E2 (i+1) (by omega) (by omega) ?_;rw[I,yWb];simp only[push_cast] <;> rfl
 ·obtain rfl:i=c.length:=by omega
  rw[show(c.take c.length)=c from Bj];simp (disch:=first|omega|decide) only[push_cast,↓reduceIte,CI]
theorem YB7:Contract Tryz.prog GG 143 gD:=
 Ed yEv (DI (all_cons ao (all_cons kT (all_cons al (all_cons ay all_nil)))) all_nil) (fun a h=>Yxk a h)
theorem yWv(d:Dig)(l:List Int)(n:Int):Ig d (l++[n])=uG (Ig d l) n:=by unfold Ig; rw[Cy]; rfl
theorem rQ(d:Dig)(l m:List Int):Ig d (l++m)=Ig (Ig d l) m:=by unfold Ig; rw[Cy]
theorem Ykx(d:Dig)(n:Int):OY.length≤1000∧Eh (.list [.int n,.bytes d.bs])≤16∧(Dz (.list [.int n,.bytes d.bs])).length≤4294967000:=by
 have E:=MX n;have I:=TM d;refine⟨by decide,by simp[Eh,Ii],?_⟩;rw[OJ];simp only[Ah,Ab,Aq,At,BL];omega
noncomputable def cK:List D→Option D:=Dk (α:=Dig×List Int) (fun a=>[C9 a.1,.slc (nz 1 (a.2.map nI)) (a.2.map nI) false]) (fun a=>a.2.length≤4294967296) (fun a=>C9 (Ig a.1 a.2))
theorem sv(d:Dig)(l:List Int)(h:l.length≤4294967296):cK [C9 d,.slc (nz 1 (l.map nI)) (l.map nI) false]=some (C9 (Ig d l)):=
 D7 (fun⟨a0,a1⟩ ⟨b0,b1⟩ h=>by simp only[Aa,D.slc.injEq,KZ,and_true,Sd]at h; simp[h]) (d,l) h
theorem Yqi(d:Dig)(l:List Int)(h:l.length≤4294967296):@wW GG (tb [(145,R2),(142,Vo),(141,Ou),(140,R1)] []) Yu.code (Dc [C9 d,.slc (nz 1 (l.map nI)) (l.map nI) false]) [] ⟨Dn Yu.res (C9 (Ig d l))⟩:=by
 unfold Yu;simp (disch:=first|omega|decide) only[push_cast,↓reduceIte,CI]
 refine F9 (fun i:Nat=>[(2,.ptr 0 0),(4,.ptr 1 0),(7,.slc (nz 1 (l.map nI)) (l.map nI) false),(8,.int .i64 (l.length:Int)),(9,.int .i64 (i:Int))])
  (fun i=>[⟨false,1,C8 (Ig d (l.take i)),false⟩,⟨false,1,C8 Du,false⟩]) (fun i=>i≤l.length) (fun i=>l.length - i) 0 (by simp only[push_cast,↓reduceIte,CI,CP,CN,CJ,↓CM] <;> rfl) (by omega) ?_
 intro i hi;unfold mc;simp (disch:=first|omega|decide) only[push_cast,↓reduceIte,CI];refine EU (fun O=>?_) (fun O=>?_)
 ·have E:i<l.length:=by omega
  have J:=UT [⟨false,1,C8 (Ig d (l.take i)),false⟩,⟨false,1,C8 Du,false⟩] l false i E;have I:=QJ l E;obtain⟨x,M⟩:∃ x,l.getD i default=x:=⟨_,rfl⟩;rw[M]at J I;have N:=X8 OY (.list [.int x,.bytes (Ig d (l.take i)).bs]) (Ykx _ _);simp only[OY]at N;simp (disch:=first|omega|decide) only[push_cast,↓reduceIte,CI,CP,CN,CJ,J,UU,Ui,iU,Vc,Tx,uM,uN,N,DN];refine E2 (i+1) (by omega) (by omega) ?_;rw[I,yWv];simp only[push_cast] <;> rfl
 ·obtain rfl:i=l.length:=by omega
  rw[show(l.take l.length)=l from Bj];simp (disch:=first|omega|decide) only[push_cast,↓reduceIte,CI,CJ]
theorem wJ:Contract Tryz.prog GG 146 cK:=
 Ed yOr (DI (all_cons ao (all_cons kT (all_cons al (all_cons ay all_nil)))) all_nil) (fun a h=>Yqi a.1 a.2 h)
noncomputable def gE:List D→Option D:=Dk (α:=List Int) (fun a=>[.slc (nz 1 (a.map nI)) (a.map nI) false]) (fun a=>a.length≤4294967296) (fun a=>C9 (Ig Du a))
theorem Yf8(l:List Int)(h:l.length≤4294967296):gE [.slc (nz 1 (l.map nI)) (l.map nI) false]=some (C9 (Ig Du l)):=
 D7 (fun a b h=>by simp only[Aa,D.slc.injEq,and_true,Sd]at h; simp[h]) (l) h
theorem Yxj(l:List Int)(h:l.length≤4294967296):@wW GG (tb [(146,cK)] []) YQ.code (Dc [.slc (nz 1 (l.map nI)) (l.map nI) false]) [] ⟨Dn YQ.res (C9 (Ig Du l))⟩:=by
 unfold YQ;have hc:=sv Du l h;simp (disch:=first|omega|decide) only[push_cast,↓reduceIte,CI,hc]
theorem YB6:Contract Tryz.prog GG 96 gE:=
 Ed yKr (DI (all_cons wJ all_nil) all_nil) (fun a h=>Yxj a h)
theorem Yt7(v:Int×List Int)(h:v.2.length=16):O0.length≤1000∧Eh (.list [.int v.1,.list (v.2.map .int)])≤16∧(Dz (.list [.int v.1,.list (v.2.map .int)])).length≤4294967000:=by
 have J:=MX v.1;have M:=qJ v.2
 have E:∀ l:List Int,Ii (l.map .int)=0:=by
  intro l
  induction l with
  |nil=>simp[Ii]
  |cons a l I=>simp[Ii,Eh,I]
 refine⟨by decide,by simp[Eh,Ii,E],?_⟩;rw[OJ];simp only[Ah,Ab,Aq,At,BL,OJ];omega
theorem T9(l:List Int):(l.map nI).all D.isCell=true:=Yd nI (fun _=>rfl) l
theorem QQ(l:List Int):(l.map nI).all EJ=true:=by
 rw[Ak];intro x E;obtain⟨n,_,rfl⟩:=AW.1 E;rfl
theorem TN(v:Int×List Int):D2 v=(v.1::v.2).map nI:=(rfl)
theorem E8(v:Int×List Int):DH (Ez v)=some (D2 v):=by
 rw[show DH (Ez v)=if(D2 v).all D.isCell then some (D2 v)else none from rfl,TN,if_pos (T9 _)]
theorem ED(st:St)(v:Int×List Int):DW st (Ez v)=some (Ez v):=QH st (QQ (v.1::v.2))
theorem Fu(v:Int×List Int):keys (Ez v)=[]:=PW (QQ (v.1::v.2))
theorem u6(v:Int×List Int):(D2 v).flatMap hk=[]:=QM (QQ (v.1::v.2))
theorem xP(m:Nat)(σ:List Nat)(v:Int×List Int):(D2 v).map (EC m σ)=D2 v:=PV m σ (QQ (v.1::v.2))
variable {v:Int×List Int}
theorem FI(h:v.2.length=16)(sz:Nat)(lent:Bool):Dy (some ⟨false,sz,D2 v,lent⟩) 17 true 0=some (Ez v):=LF sz lent _ 17 (by simp[D2,h])
theorem YAc(v:Int×List Int)(sz:Nat)(lent:Bool):Dy (some ⟨false,sz,D2 v,lent⟩) 1 false 0=some (.int .i64 v.1):=I2 (A:=[]) (C:=v.2.map nI) rfl rfl
theorem YAb(h:v.2.length=16)(sz:Nat)(lent:Bool):Dy (some ⟨false,sz,D2 v,lent⟩) 16 true 1=some (.agg (v.2.map nI)):=MC (A:=[.int .i64 v.1]) (B:=v.2.map nI) (C:=[]) (by simp[D2]) rfl (by simp[h])
theorem Yuh(l:List Int)(i:Nat)(h:i<l.length):Qb l.length 1 false (.agg (l.map nI)) (.int .i64 (i:Int))=some (nI (l.getD i default)):=by
 have E:FP (.int .i64 (i:Int))=some i:=by simp[FP]
 simp only[Qb,E,if_pos h,BR];refine Ye3 (A:=(l.take i).map nI) (C:=(l.drop (i+1)).map nI) ?_ (by simp; omega);rw[← Aw,← BC]
 congr 1
 have:l=l.take i++l.drop i:=(Bl _ _).symm;rw[A9 h]at this;rw[Al,Am h];exact this
theorem Yz6(a:Val):Ff 4 [De a]=some (.slc 4 [De a] true):=cV [a] (by simp)
theorem xf(l:List Int):hk (.agg (l.map nI))=[]:=TK (QQ l)
theorem pf(m:Nat)(σ:List Nat)(l:List Int):EC m σ (.agg (l.map nI))=.agg (l.map nI):=QI m σ (QQ l)
noncomputable def gC:List D→Option D:=Dk (α:=(Int×List Int)) (fun a=>[Ez a]) (fun a=>a.2.length=16) (fun a=>C9 (Lq a))
theorem Yga(v:Int×List Int)(h:v.2.length=16):gC [Ez v]=some (C9 (Lq v)):=
 D7 (fun a b h=>by simp only[Aa,and_true,Kb]at h; simp[h]) (v) h
theorem Yxn(v:Int×List Int)(h:v.2.length=16):@wW GG (tb [(145,R2),(141,Ou),(140,R1)] []) Zb.code (Dc [Ez v]) [] ⟨Dn Zb.res (C9 (Lq v))⟩:=by
 unfold Zb;have U:=X8 O0 (.list [.int v.1,.list (v.2.map .int)]) (Yt7 v h);simp only[O0]at U;simp (disch:=first|omega|decide) only[push_cast,↓reduceIte,CI,E8,YAb h]
 refine F9 (fun i:Nat=>[(1,.ptr 0 0),(2,.ptr 1 0),(3,Ec 0 2 ((v.2.take i).map (De ∘ Val.int))),(7,.agg (v.2.map nI)),(8,.int .i64 (i:Int))])
  (fun i=>⟨false,1,D2 v,false⟩::⟨false,1,C8 Du,false⟩::DC 4 ((v.2.take i).map (De ∘ Val.int))) (fun i=>i≤16) (fun i=>16 - i) 0 (by simp only[push_cast,↓reduceIte,CI,CP,CN,CJ,↓CM,u6,xP,xf,pf] <;> rfl) (by omega) ?_
 intro i hi;unfold mB;simp (disch:=first|omega|decide) only[push_cast,↓reduceIte,CI];refine EU (fun V=>?_) (fun V=>?_)
 ·have J:i<v.2.length:=by omega
  have O:=Yuh v.2 i J;rw[h]at O;have M:=QJ v.2 J;obtain⟨x,N⟩:∃ x,v.2.getD i default=x:=⟨_,rfl⟩;rw[N,show nI x=.int .i64 x from rfl]at O;rw[N]at M;have I:=xK (f:=De ∘ Val.int) (sz:=4) (sz0:=0) (bytes:=64) (A:=v.2.take i) (x:=x) (t:=true) (a:=⟨false,1,D2 v,false⟩) (b:=⟨false,1,C8 Du,false⟩) (hs0:=by decide) (hb:=by rw[AL]; omega) (hl:=by rw[AL]; omega);simp only[Function.comp_apply]at I;simp (disch:=first|omega|decide) only[push_cast,↓reduceIte,CI,CP,CN,CJ,O,Ui,Vc,Tx,Yz6,I,DN];refine E2 (i+1) (by omega) (by omega) ?_;rw[M];simp only[push_cast,u6,xP,xf,pf] <;> rfl
 ·obtain rfl:i=16:=by omega
  rw[show(v.2.take 16)=v.2 from AI (by omega)];have hb:DW (⟨false,1,D2 v,false⟩::⟨false,1,C8 Du,false⟩::DC 4 (v.2.map (De ∘ Val.int))) (Ec 0 2 (v.2.map (De ∘ Val.int)))=some (.slc (nz 4 (v.2.map (De ∘ Val.int))) (v.2.map (De ∘ Val.int)) false):=u7 _ _ 4 0 _;have hl:=X9 (v.2.map Val.int);rw[CG]at hl
  have E:v.2.map (De ∘ Val.int)≠[]:=by
   intro e;have:=congrArg List.length e;simp[h]at this
  rw[RY _ _ _ E,Qs _ _ E]at hb;simp (disch:=first|omega|decide) only[push_cast,↓reduceIte,CI,CJ,CT,↓CM,RY _ _ _ E,Qs _ _ E,Ycv,YAc,Ui,Vc,Tx,hl,uM,uN,U];rfl
theorem YB8:Contract Tryz.prog GG 144 gC:=
 Ed yHi (DI (all_cons ao (all_cons al (all_cons ay all_nil))) all_nil) (fun a h=>Yxn a h)
theorem V1(st:St)(E:sz≠0)(els:List D)(t:Bool)(h:k≤els.length):G3 st sz (.slc (nz sz els) els t) (some (.int .i64 (k:Int))) none none=some (.slc (nz sz els) (els.drop k) t):=by
 have I:((nz sz els == sz || els.isEmpty) && sz != 0)=true:=by
  cases els <;> simp[nz,E]
 have J:FP (.int .i64 (k:Int))=some k:=by simp[FP]
 simp only[G3,I,if_true,Gs,J];rw[if_pos ⟨h,AD _⟩,Bj,beq_self_eq_true,BU]
theorem V2(st:St)(E:sz≠0)(els:List D)(t:Bool)(h:k≤els.length):G3 st sz (.slc (nz sz els) els t) none (some (.int .i64 (k:Int))) none=some (.slc (nz sz els) (els.take k) (t && k == els.length)):=by
 have I:((nz sz els == sz || els.isEmpty) && sz != 0)=true:=by
  cases els <;> simp[nz,E]
 have J:Gs (some (.int .i64 (k:Int))) els.length=some k:=by simp[Gs,FP]
 simp only[G3,I,if_true,J];simp only[Gs];rw[if_pos ⟨Bh _,h⟩,BA]
theorem V3(st:St)(E:sz≠0)(els:List D)(t:Bool)(h:k≤els.length):G3 st sz (.slc (nz sz els) els t) none (some (.int .i64 (k:Int))) (some (.int .i64 (k:Int)))=some (.slc (nz sz els) (els.take k) true):=by
 have I:((nz sz els == sz || els.isEmpty) && sz != 0)=true:=by
  cases els <;> simp[nz,E]
 have J:Gs (some (.int .i64 (k:Int))) els.length=some k:=by simp[Gs,FP]
 have M:FP (.int .i64 (k:Int))=some k:=by simp[FP]
 simp only[G3,I,if_true,J,M];simp only[Gs];rw[if_pos (by simp[h]),BA]
theorem Yi2(s:Sta):(DS s).all D.isCell=true:=(rfl)
theorem Ik(s:Sta):DH (DP s)=some (DS s):=(rfl)
theorem He:DH (.agg [.int .i64 0,.int .i64 0,.int .i64 0,.int .i64 0,.slc 0 [] true])=some [.int .i64 0,.int .i64 0,.int .i64 0,.int .i64 0,.slc 0 [] true]:=(rfl)
theorem Il(st:St)(s:Sta):DW st (DP s)=some (DP s):=by
 simp only[DP,DS,EB,DW,D9,DD,J3];rfl
theorem Kx(s:Sta):keys (DP s)=[]:=(rfl)
theorem Kt(lent:Bool)(s:Sta):Dy (some ⟨false,1,DS s,lent⟩) 1 false 0=some (.int .i64 s.pc):=(rfl)
theorem K1(lent:Bool)(s:Sta):Dy (some ⟨false,1,DS s,lent⟩) 1 false 1=some (.int .i64 s.fuel):=(rfl)
theorem Jd(lent:Bool)(s:Sta):Dy (some ⟨false,1,DS s,lent⟩) 1 false 2=some (.int .i64 s.status):=(rfl)
theorem NN(lent:Bool)(s:Sta):Dy (some ⟨false,1,DS s,lent⟩) 1 false 3=some (.int .i64 s.clause):=(rfl)
theorem Ol(lent:Bool)(s:Sta):Dy (some ⟨false,1,DS s,lent⟩) 1 false 4=some (EB s.stack):=(rfl)
theorem Hd(lent:Bool)(s:Sta):Dy (some ⟨false,1,DS s,lent⟩) 5 true 0=some (DP s):=(rfl)
theorem Iv(s:Sta):DY (some ⟨false,1,[.int .i64 0,.int .i64 0,.int .i64 0,.int .i64 0,.slc 0 [] true],false⟩) 5 0 (DP s)=some ⟨false,1,DS s,false⟩:=(rfl)
theorem aV(s s':Sta):DY (some ⟨false,1,DS s,false⟩) 5 0 (DP s')=some ⟨false,1,DS s',false⟩:=(rfl)
theorem bn(l:List Int):EB l=.slc (nz 1 (l.map nI)) (l.map nI) false:=(rfl)
def EP(a b c d:Int)(t:D)(k:Int)(r:Dig):List D:=.int .i64 a::.int .i64 b::.int .i64 c::.int .i64 d::t::.int .i64 k::C8 r
theorem J8(o:Opn):EW o=EP o.pc o.fuel o.status o.clause (EB o.top) o.depth o.rest:=(rfl)
theorem Uu(a b c d:Int)(t:D)(k:Int)(r:Dig):(EP a b c d t k r).length=38:=by simp[EP,DX]
variable {t:D}
theorem pF(a b c d:Int)(E:t.isCell=true)(k:Int)(r:Dig):(EP a b c d t k r).all D.isCell=true:=by
 simp only[EP,AZ,E,dS,Bx];exact Lh (fun _=>rfl) r
theorem Qo:(D.int .i64 0::.int .i64 0::.int .i64 0::.int .i64 0::.slc 0 [] true::.int .i64 0::C8 Du)=EP 0 0 0 0 (.slc 0 [] true) 0 Du:=(rfl)
theorem vJ(a b c d:Int)(E:t.isCell=true)(k:Int)(r:Dig):DH (.agg (EP a b c d t k r))=some (EP a b c d t k r):=by
 rw[show DH (.agg (EP a b c d t k r))=if(EP a b c d t k r).all D.isCell then some (EP a b c d t k r)else none from rfl,if_pos (pF a b c d E k r)]
theorem Hp(o:Opn):DH (D0 o)=some (EW o):=by
 rw[D0,J8,vJ _ _ _ _ rfl]
theorem VT(a b c d E b' c' I:Int)(t:D){t':D}(M:t'.isCell=true)(k k':Int)(r J:Dig):DY (some ⟨false,1,EP a b c d t k r,false⟩) 38 0 (.agg (EP E b' c' I t' k' J))=some ⟨false,1,EP E b' c' I t' k' J,false⟩:=
 L1 1 _ _ 38 (Uu ..) (Uu ..) (pF _ _ _ _ M _ _)
theorem SJ(lent:Bool)(a b c d:Int)(t:D)(k:Int)(r:Dig):Dy (some ⟨false,1,EP a b c d t k r,lent⟩) 38 true 0=some (.agg (EP a b c d t k r)):=LF 1 lent _ 38 (Uu ..)
theorem vg(lent:Bool)(a b c d:Int)(t:D)(k:Int)(r:Dig):Dy (some ⟨false,1,EP a b c d t k r,lent⟩) 1 false 0=some (.int .i64 a):=I2 (A:=[]) rfl rfl
theorem vj(lent:Bool)(a b c d:Int)(t:D)(k:Int)(r:Dig):Dy (some ⟨false,1,EP a b c d t k r,lent⟩) 1 false 1=some (.int .i64 b):=I2 (A:=[.int .i64 a]) rfl rfl
theorem lg(lent:Bool)(a b c d:Int)(t:D)(k:Int)(r:Dig):Dy (some ⟨false,1,EP a b c d t k r,lent⟩) 1 false 2=some (.int .i64 c):=I2 (A:=[.int .i64 a,.int .i64 b]) rfl rfl
theorem vn(lent:Bool)(a b c d:Int)(t:D)(k:Int)(r:Dig):Dy (some ⟨false,1,EP a b c d t k r,lent⟩) 1 false 3=some (.int .i64 d):=I2 (A:=[.int .i64 a,.int .i64 b,.int .i64 c]) rfl rfl
theorem aC(lent:Bool)(a b c d:Int)(t:D)(k:Int)(r:Dig):Dy (some ⟨false,1,EP a b c d t k r,lent⟩) 1 false 4=some t:=I2 (A:=[.int .i64 a,.int .i64 b,.int .i64 c,.int .i64 d]) rfl rfl
theorem UP(lent:Bool)(a b c d:Int)(t:D)(k:Int)(r:Dig):Dy (some ⟨false,1,EP a b c d t k r,lent⟩) 1 false 5=some (.int .i64 k):=I2 (A:=[.int .i64 a,.int .i64 b,.int .i64 c,.int .i64 d,t]) rfl rfl
theorem vo(lent:Bool)(a b c d:Int)(t:D)(k:Int)(r:Dig):Dy (some ⟨false,1,EP a b c d t k r,lent⟩) 32 true 6=some (C9 r):=MC (A:=[.int .i64 a,.int .i64 b,.int .i64 c,.int .i64 d,t,.int .i64 k]) (B:=C8 r) (C:=[]) (by simp[EP]) rfl (DX r)
theorem Yvd(a b c d:Int)(E:t.cells=[t])(hc:t.isCell=true)(k:Int)(r:Dig):DO (EP 0 0 0 0 (.slc 0 [] true) 0 Du) [(0,1,.int .i64 a),(1,1,.int .i64 b),(2,1,.int .i64 c),(3,1,.int .i64 d),(4,1,t),(5,1,.int .i64 k),(6,32,C9 r)]=some (EP a b c d t k r):=by
 refine(I1 (cs:=EP 0 0 0 0 (.slc 0 [] true) 0 Du) (cs':=EP a 0 0 0 (.slc 0 [] true) 0 Du) (A:=[]) (B:=[.int .i64 0]) (xs:=[.int .i64 a]) rfl rfl rfl rfl rfl rfl rfl).trans ?_;refine(I1 (cs:=EP a 0 0 0 (.slc 0 [] true) 0 Du) (cs':=EP a b 0 0 (.slc 0 [] true) 0 Du) (A:=[.int .i64 a]) (B:=[.int .i64 0]) (xs:=[.int .i64 b]) rfl rfl rfl rfl rfl rfl rfl).trans ?_;refine(I1 (cs:=EP a b 0 0 (.slc 0 [] true) 0 Du) (cs':=EP a b c 0 (.slc 0 [] true) 0 Du) (A:=[.int .i64 a,.int .i64 b]) (B:=[.int .i64 0]) (xs:=[.int .i64 c]) rfl rfl rfl rfl rfl rfl rfl).trans ?_;refine(I1 (cs:=EP a b c 0 (.slc 0 [] true) 0 Du) (cs':=EP a b c d (.slc 0 [] true) 0 Du) (A:=[.int .i64 a,.int .i64 b,.int .i64 c]) (B:=[.int .i64 0]) (xs:=[.int .i64 d]) rfl rfl rfl rfl rfl rfl rfl).trans ?_;refine(I1 (cs:=EP a b c d (.slc 0 [] true) 0 Du) (cs':=EP a b c d t 0 Du) (A:=[.int .i64 a,.int .i64 b,.int .i64 c,.int .i64 d]) (B:=[.slc 0 [] true]) (xs:=[t]) rfl rfl rfl rfl E rfl (by simp[hc])).trans ?_;refine(I1 (cs:=EP a b c d t 0 Du) (cs':=EP a b c d t k Du) (A:=[.int .i64 a,.int .i64 b,.int .i64 c,.int .i64 d,t]) (B:=[.int .i64 0]) (xs:=[.int .i64 k]) rfl rfl rfl rfl rfl rfl rfl).trans ?_;refine(I1 (cs:=EP a b c d t k Du) (cs':=EP a b c d t k r) (A:=[.int .i64 a,.int .i64 b,.int .i64 c,.int .i64 d,t,.int .i64 k]) (B:=C8 Du) (C:=[]) (xs:=C8 r) (by simp[EP]) (by simp[EP]) rfl (DX _) rfl (DX _) (Lh (fun _=>rfl) r)).trans ?_;rfl
theorem oj(a b c d:Int)(sz:Nat)(els:List D)(E:Bool)(k:Int)(r:Dig):DO (EP 0 0 0 0 (.slc 0 [] true) 0 Du) [(0,1,.int .i64 a),(1,1,.int .i64 b),(2,1,.int .i64 c),(3,1,.int .i64 d),(4,1,.slc sz els E),(5,1,.int .i64 k),(6,32,C9 r)]=some (EP a b c d (.slc sz els E) k r):=Yvd a b c d rfl rfl k r
theorem Gb(a b c d:Int)(sz:Nat)(els:List D)(E:Bool)(k:Int)(r:Dig):DH (.agg (EP a b c d (.slc sz els E) k r))=some (EP a b c d (.slc sz els E) k r):=vJ a b c d rfl k r
theorem U1(a b c d E b' c' I:Int)(t:D)(sz:Nat)(els:List D)(M:Bool)(k k':Int)(r J:Dig):DY (some ⟨false,1,EP a b c d t k r,false⟩) 38 0 (.agg (EP E b' c' I (.slc sz els M) k' J))=some ⟨false,1,EP E b' c' I (.slc sz els M) k' J,false⟩:=VT a b c d E b' c' I t rfl k k' r J
theorem az(st:St)(a b c d:Int)(sz:Nat)(els:List D)(E:Bool)(k:Int)(r:Dig):DW st (.agg (EP a b c d (.slc sz els E) k r))=some (.agg (EP a b c d (.slc (nz sz els) els false) k r)):=by
 simp only[EP,DW,qY,gN,gO,oU,Bp,Ag]
theorem Fl(st:St)(o:Opn):DW st (D0 o)=some (D0 o):=by
 rw[D0,J8,bn,az,J3]
theorem Kf(o:Opn):keys (D0 o)=[]:=by
 simp only[D0,EW,keys,At]
 show []++([]++([]++([]++([]++([]++_)))))=[]
 have:(C8 o.rest).flatMap Fp=[]:=oC o.rest;rw[this];rfl
theorem yZj(c:List Ins)(v:Int×List Int)(o:Opn):OZ.length≤1000∧Eh (.list [.bytes (LP c).bs,.bytes (Lq v).bs,.int o.pc,.int o.fuel,.int o.status,.int o.clause,.int (o.depth+o.top.length),.bytes (Ig o.rest o.top).bs])≤16∧
  (Dz (.list [.bytes (LP c).bs,.bytes (Lq v).bs,.int o.pc,.int o.fuel,.int o.status,.int o.clause,.int (o.depth+o.top.length),.bytes (Ig o.rest o.top).bs])).length≤4294967000:=by
 have E:=TM (LP c);have I:=TM (Lq v);have J:=TM (Ig o.rest o.top);have M:=MX o.pc;have N:=MX o.fuel;have O:=MX o.status;have U:=MX o.clause;have V:=MX (o.depth+o.top.length);refine⟨by decide,by simp[Eh,Ii],?_⟩;rw[OJ];simp only[Ah,Ab,Aq,At,BL];omega
noncomputable def bH:List D→Option D:=Dk (α:=List Ins×(Int×List Int)×Opn) (fun a=>[.slc (nz 3 (a.1.map Da)) (a.1.map Da) false,Ez a.2.1,D0 a.2.2]) (fun a=>a.1.length≤4294967296∧a.2.1.2.length=16∧a.2.2.top.length≤4294967296∧0≤a.2.2.depth∧a.2.2.depth≤4294967296) (fun a=>C9 (MB a.1 a.2.1 a.2.2))
theorem qu(c:List Ins)(v:Int×List Int)(o:Opn)(h:c.length≤4294967296∧v.2.length=16∧o.top.length≤4294967296∧0≤o.depth∧o.depth≤4294967296):bH [.slc (nz 3 (c.map Da)) (c.map Da) false,Ez v,D0 o]=some (C9 (MB c v o)):=
 D7 (fun⟨a0,a1,E⟩ ⟨b0,b1,I⟩ h=>by simp only[Aa,D.slc.injEq,and_true,Kw,Se,Kb]at h; simp[h]) (c,v,o) h
theorem Yxi(c:List Ins)(v:Int×List Int)(o:Opn)(h:c.length≤4294967296∧v.2.length=16∧o.top.length≤4294967296∧0≤o.depth∧o.depth≤4294967296):@wW GG (tb [(143,gD),(144,gC),(146,cK),(145,R2),(142,Vo),(141,Ou),(140,R1)] []) Y1.code (Dc [.slc (nz 3 (c.map Da)) (c.map Da) false,Ez v,D0 o]) [] ⟨Dn Y1.res (C9 (MB c v o))⟩:=by
 obtain⟨hc,hv,I,O,U⟩:=h;unfold Y1;have E:=X8 OZ _ (yZj c v o);simp only[OZ]at E;have J:=Yf9 c hc;have M:=Yga v hv;have N:=sv o.rest o.top I;simp (disch:=first|omega|decide) only[push_cast,↓reduceIte,CI,CJ,E8,Hp,J8,bn,FI hv,ED,vg,vj,lg,vn,aC,UP,vo,J,M,N,Ui,iU,Vc,Tx,DN,Wq,Wo,E];rfl
theorem vN:Contract Tryz.prog GG 94 bH:=
 Ed yKl (DI (all_cons YB7 (all_cons YB8 (all_cons wJ (all_cons ao (all_cons kT (all_cons al (all_cons ay all_nil))))))) all_nil) (fun a h=>Yxi a.1 a.2.1 a.2.2 h)
theorem Yyz(st:St)(l:List Int)(t:Bool)(h:k≤l.length):G3 st 1 (.slc (nz 1 (l.map nI)) (l.map nI) t) (some (.int .i64 (k:Int))) none none=some (.slc (nz 1 (l.map nI)) ((l.drop k).map nI) t):=by
 rw[V1 st (by decide) (l.map nI) t (by simpa using h),Cn]
theorem Yy0(st:St)(l:List Int)(h:k≤l.length):G3 st 1 (.slc (nz 1 (l.map nI)) (l.map nI) false) none (some (.int .i64 (k:Int))) none=some (.slc (nz 1 (l.map nI)) ((l.take k).map nI) false):=by
 rw[V2 st (by decide) (l.map nI) false (by simpa using h),B6]; rfl
theorem Yy1(st:St)(l:List Int)(t:Bool)(h:k≤l.length):G3 st 1 (.slc (nz 1 (l.map nI)) (l.map nI) t) none (some (.int .i64 (k:Int))) (some (.int .i64 (k:Int)))=some (.slc (nz 1 (l.map nI)) ((l.take k).map nI) true):=by
 rw[V3 st (by decide) (l.map nI) t (by simpa using h),B6]
theorem pG(s:Sta)(n:Int):Nh s n≤s.stack.length:=Nat.sub_le _ _
theorem Ykv(s:Sta)(n:Int):(s.stack.length:Int) - min (max n 0) (s.stack.length:Int)=(Nh s n:Int):=by unfold Nh; omega
noncomputable def T3:List D→Option D:=Dk (α:=Sta×Int) (fun a=>[DP a.1,.int .i64 a.2]) (fun a=>a.1.stack.length≤4294967296) (fun a=>D0 (Hv a.1 a.2))
theorem sw(s:Sta)(n:Int)(h:s.stack.length≤4294967296):T3 [DP s,.int .i64 n]=some (D0 (Hv s n)):=
 D7 (fun⟨a0,a1⟩ ⟨b0,b1⟩ h=>by simp only[Aa,D.int.injEq,true_and,and_true,Sa]at h; simp[h]) (s,n) h
theorem Yqh(s:Sta)(n:Int)(h:s.stack.length≤4294967296):@wW GG (tb [(96,gE)] []) Yr.code (Dc [DP s,.int .i64 n]) [] ⟨Dn Yr.res (D0 (Hv s n))⟩:=by
 unfold Yr;have hk:=pG s n;have E:=Yf8 (s.stack.take (Nh s n)) (by rw[AL]; omega);have I:min (max n 0) (s.stack.length:Int)≤s.stack.length:=Int.min_le_right _ _;have J:0≤min (max n 0) (s.stack.length:Int):=by omega
 simp (disch:=first|omega|decide) only[push_cast,↓reduceIte,CI,Ik,Qo,Gb,Kt,K1,Jd,NN,Ol,bn,E1,Ykv,Yyz,Yy0,E,oj,U1,SJ,az,xF,xG];rfl
theorem wK:Contract Tryz.prog GG 42 T3:=
 Ed yOu (DI (all_cons YB6 all_nil) all_nil) (fun a h=>Yqh a.1 a.2 h)
noncomputable def bG:List D→Option D:=Dk (α:=List Ins×(Int×List Int)×Sta) (fun a=>[.slc (nz 3 (a.1.map Da)) (a.1.map Da) false,Ez a.2.1,DP a.2.2]) (fun a=>a.1.length≤4294967296∧a.2.1.2.length=16∧a.2.2.stack.length≤4294967296) (fun a=>C9 (Es a.1 a.2.1 a.2.2))
theorem iV(c:List Ins)(v:Int×List Int)(s:Sta)(h:c.length≤4294967296∧v.2.length=16∧s.stack.length≤4294967296):bG [.slc (nz 3 (c.map Da)) (c.map Da) false,Ez v,DP s]=some (C9 (Es c v s)):=
 D7 (fun⟨a0,a1,E⟩ ⟨b0,b1,I⟩ h=>by simp only[Aa,D.slc.injEq,and_true,Kw,Sa,Kb]at h; simp[h]) (c,v,s) h
theorem Yxp(c:List Ins)(v:Int×List Int)(s:Sta)(h:c.length≤4294967296∧v.2.length=16∧s.stack.length≤4294967296):@wW GG (tb [(42,T3),(94,bH)] []) Za.code (Dc [.slc (nz 3 (c.map Da)) (c.map Da) false,Ez v,DP s]) [] ⟨Dn Za.res (C9 (Es c v s))⟩:=by
 obtain⟨hc,hv,E⟩:=h;unfold Za;have I:=sw s s.stack.length E;have hk:Nh s s.stack.length=0:=by unfold Nh; omega
 have hw:=qu c v (Hv s s.stack.length) ⟨hc,hv,by simp only[Hv,AQ]; omega,by simp only[Hv,hk]; omega,by simp only[Hv,hk]; omega⟩;simp (disch:=first|omega|decide) only[push_cast,↓reduceIte,CI,CJ,E8,FI hv,ED,Ik,Hd,Ol,bn,Il,Kx,I,Fl,hw];rfl
theorem vM:Contract Tryz.prog GG 49 bG:=
 Ed yHj (DI (all_cons wK (all_cons vN all_nil)) all_nil) (fun a h=>Yxp a.1 a.2.1 a.2.2 h)
variable {o:Opn}{c:List Ins}
theorem Yfs(E:0≤o.depth)(I:o.depth≤64):FV c v o=MB c v o:=if_neg (by omega)
theorem Yfr(E:o.depth<0):FV c v o=Du:=if_pos (.inl E)
theorem Yft(E:64<o.depth):FV c v o=Du:=if_pos (.inr E)
noncomputable def Qr:List D→Option D:=Dk (α:=List Ins×(Int×List Int)×Opn) (fun a=>[.slc (nz 3 (a.1.map Da)) (a.1.map Da) false,Ez a.2.1,D0 a.2.2]) (fun a=>a.1.length≤4294967296∧a.2.1.2.length=16∧a.2.2.top.length≤4294967296) (fun a=>C9 (FV a.1 a.2.1 a.2.2))
theorem X7(c:List Ins)(v:Int×List Int)(o:Opn)(h:c.length≤4294967296∧v.2.length=16∧o.top.length≤4294967296):Qr [.slc (nz 3 (c.map Da)) (c.map Da) false,Ez v,D0 o]=some (C9 (FV c v o)):=
 D7 (fun⟨a0,a1,E⟩ ⟨b0,b1,I⟩ h=>by simp only[Aa,D.slc.injEq,and_true,Kw,Se,Kb]at h; simp[h]) (c,v,o) h
theorem Yxq(c:List Ins)(v:Int×List Int)(o:Opn)(h:c.length≤4294967296∧v.2.length=16∧o.top.length≤4294967296):@wW GG (tb [(94,bH)] []) YP.code (Dc [.slc (nz 3 (c.map Da)) (c.map Da) false,Ez v,D0 o]) [] ⟨Dn YP.res (C9 (FV c v o))⟩:=by
 obtain⟨hc,hv,J⟩:=h;unfold YP
 by_cases E:o.depth<0
 ·rw[Yfr E];simp (disch:=first|omega|decide) only[push_cast,↓reduceIte,CI,CJ,E8,Hp,J8,UP,E]
 ·by_cases I:64<o.depth
  ·rw[Yft I];simp (disch:=first|omega|decide) only[push_cast,↓reduceIte,CI,CJ,E8,Hp,J8,UP,E,I]
  ·rw[Yfs (by omega) (by omega)];have hw:=qu c v o ⟨hc,hv,J,by omega,by omega⟩;have hi:=fun st=>Fl st o;have hk:=Kf o;rw[D0,J8]at hw hi hk;simp (disch:=first|omega|decide) only[push_cast,↓reduceIte,CI,CJ,E8,Hp,J8,UP,E,I,FI hv,ED,SJ,hi,hw]
theorem kU:Contract Tryz.prog GG 40 Qr:=
 Ed yKs (DI (all_cons vN all_nil) all_nil) (fun a h=>Yxq a.1 a.2.1 a.2.2 h)
end Go.Proofs.YtijnglngaogdjaaGreatDoor.PI
