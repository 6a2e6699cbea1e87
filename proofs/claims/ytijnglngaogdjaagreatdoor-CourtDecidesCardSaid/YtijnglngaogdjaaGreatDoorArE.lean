/-
  tvm: openings and their digests.
  Conditions: none; these are lemmas.
-/
import Derived.Test.YtijnglngaogdjaaGreatDoorFns
import Derived.Test.YtijnglngaogdjaaGreatDoorEngI2
import Derived.Test.YtijnglngaogdjaaGreatDoorSha
import Derived.WideKeyElems2
import Derived.LaidMore
import Derived.LaidHandle
import Derived.FnData
import Derived.KernelRfl
import Derived.Test.YtijnglngaogdjaaGreatDoorEngHe
open BitVec renaming ofInt→CR
open Int renaming reduceAdd→CZ,reduceLT→CT,reduceMul→C4,reduceNatCast'→CL,reduceNeg→CN,reducePow→C0,reduceSub→C3,reduceToNat→CU
open List renaming range→CS,replicate→CQ
open Nat renaming reduceAdd→CJ,reduceBEq→CV,reduceEqDiff→CI,reduceLT→CO,reduceLeDiff→CM,reduceMul→CP
open UInt64 renaming ofNat→C7
open UInt8 renaming ofNat→CW
namespace Go.Proofs.YtijnglngaogdjaaGreatDoor.PI
open Go
set_option linter.unusedSimpArgs false
set_option linter.unusedVariables false
def Fm:List (Int×Nat):=[(3,231),(4,232),(5,233),(6,234),(7,235),(8,236),(9,238),(10,239),(11,240)]
def GG:Dj:=fun n=>if n=0 then some (.gmap Fm)else RD 1 .u32 (Sha.K.map fun x=>(x.toNat:Int)) n
theorem GF:GG 0=some (.gmap Fm):=rfl
theorem nf:GG 1=some (.agg (Sha.K.map wD)):=rfl
theorem XQ(k:Int):Ds .and (.int .u64 (IntKind.wrap .u64 k)) (.int .u64 31)=some (.int .u64 ((k % 32).toNat:Int)):=by
 have h:(CR (IntKind.bits .u64) (IntKind.wrap .u64 k) &&& CR (IntKind.bits .u64) 31).toNat=(k % 32).toNat:=by
  show(CR 64 (IntKind.wrap .u64 k) &&& CR 64 31).toNat=_
  rw[CE,show(CR 64 31).toNat=2 ^ 5 - 1 from rfl,BH,BitVec.toNat_ofInt];simp[IntKind.wrap,IntKind.signed,IntKind.bits];omega
 simp only[Ds,if_true,K3,Ae,h,T9]
 congr 2
 omega
noncomputable def gS:List D→Option D:=Dl (α:=UInt32×Int) (fun a=>[wD a.1,.int .i64 a.2]) (fun a=>-31≤a.2∧a.2≤-1) (fun a=>wD (Sha.rotr a.1 (-a.2).toNat))
theorem ta(x:UInt32)(k:Int)(h:-31≤k∧k≤-1):gS [wD x,.int .i64 k]=some (wD (Sha.rotr x (-k).toNat)):=
 D5 (fun⟨a0,a1⟩ ⟨b0,b1⟩ h=>by simp only[Aa,D.int.injEq,Ykd,true_and,and_true]at h; simp[h]) (x,k) h
set_option maxHeartbeats 4000000 in
set_option maxRecDepth 20000 in
theorem YAl(x:UInt32)(k:Int)(h:-31≤k∧k≤-1):@wW GG (tb [] []) aJ.code (Dc [wD x,.int .i64 k]) [] ⟨Dp aJ.res (wD (Sha.rotr x (-k).toNat))⟩:=by
 obtain⟨V,Y⟩:=h;have E:∃ s:Nat,(k % 32).toNat=s∧0<s∧s<32∧(-k).toNat=32 - s:=⟨(k % 32).toNat,rfl,by omega,by omega,by omega⟩;obtain⟨s,I,e2,J,M⟩:=E
 have e:Ds .sub (.int .u64 32) (.int .u64 (s:Int))=some (.int .u64 ((32 - s:Nat):Int)):=by
  simp only[Ds,if_true,KS,Ae];rw[show(32 - (s:Int))=((32 - s:Nat):Int) by omega,T9,A5 (by omega)]
 have hc:∀ st,FJ st (.int .u64) (.int .i64 k)=some (.int .u64 (IntKind.wrap .u64 k)):=fun _=>rfl
 have U:Sha.rotr x (32 - s)=x <<< UInt32.ofNat s ||| x >>> UInt32.ofNat (32 - s):=by
  unfold Sha.rotr;grind
 unfold aJ;simp only[push_cast,↓reduceIte,CI,hc,XQ,I,e,YB0 _ _ _ J,YBw x .u64 (32 - s) (by omega),Wn,M,U]
theorem YFf:Contract Tryz.prog GG 187 gS:=
 Ed ynn (DI all_nil all_nil) (fun a h=>YAl a.1 a.2 h)
def HI(b:List UInt8)(i:Nat):List UInt32:=Sha.sch b i++CQ (64 - i) 0
theorem wj(b:List UInt8)(i:Nat)(h:i≤64):(HI b i).length=64:=by
 simp[HI,Sha.sch_length]; omega
theorem Ylt(b:List UInt8)(i j:Nat)(h:j<i):(HI b i).getD j default=(Sha.sch b i).getD j 0:=by
 have E:j<(Sha.sch b i).length:=by rw[Sha.sch_length]; exact h
 simp[HI,Af,At E,E]
theorem sj(b:List UInt8)(i:Nat)(v:UInt32)(h:i<64)(hv:Sha.sch b (i+1)=Sha.sch b i++[v]):(HI b i).set i v=HI b (i+1):=by
 have E:(Sha.sch b i).length=i:=Sha.sch_length b i;unfold HI;rw[hv,Ce _ _ (by omega),E,BG,show 64 - i=(64 - (i+1))+1 by omega,B0,Bu,Ap];rfl
theorem YB3(b:List UInt8)(i:Nat)(h:i<16):Sha.sch b (i+1)=Sha.sch b i++[Sha.word b i]:=by
 simp[Sha.sch,h]
theorem YB4(b:List UInt8)(i:Nat)(h:16≤i):Sha.sch b (i+1)=Sha.sch b i++[(Sha.sch b i).getD (i - 16) 0+Sha.sig0 ((Sha.sch b i).getD (i - 15) 0)+(Sha.sch b i).getD (i - 7) 0+Sha.sig1 ((Sha.sch b i).getD (i - 2) 0)]:=by
 simp[Sha.sch,Nat.not_lt.2 h]
theorem lJ(s t:Sha.St8)(i:Nat)(h:i<8):(((s.add t).list.take i++s.list.drop i).set i (((s.add t).list.take i++s.list.drop i).getD i default+t.list.getD i default))=(s.add t).list.take (i+1)++s.list.drop (i+1):=by
 rcases i with _ | _ | _ | _ | _ | _ | _ | _ | i <;> first | rfl | omega
noncomputable def jD:List D→Option D:=Dl (α:=Sha.St8×List UInt8) (fun a=>[.agg (Sha.St8.list a.1 |>.map wD),.slc (nz 1 (a.2.map Dn)) (a.2.map Dn) false]) (fun a=>a.2.length=64) (fun a=>.agg ((Sha.block a.1 a.2).list.map wD))
theorem ur(s:Sha.St8)(b:List UInt8)(h:b.length=64):jD [.agg (Sha.St8.list s |>.map wD),.slc (nz 1 (b.map Dn)) (b.map Dn) false]=some (.agg ((Sha.block s b).list.map wD)):=
 D5 (fun⟨a0,a1⟩ ⟨b0,b1⟩ h=>by simp only[Aa,D.slc.injEq,D.agg.injEq,sD,Ya1,Sha.St8.list_iff,and_true]at h; simp[h]) (s,b) h
set_option maxHeartbeats 4000000 in
set_option maxRecDepth 20000 in
theorem Ytr(s:Sha.St8)(b:List UInt8)(h:b.length=64):@wW GG (tb [(187,gS)] []) ZS.code (Dc [.agg (Sha.St8.list s |>.map wD),.slc (nz 1 (b.map Dn)) (b.map Dn) false]) [] ⟨Dp ZS.res (.agg ((Sha.block s b).list.map wD))⟩:=by
 unfold ZS;simp only[push_cast,CJ]
 refine FQ (fun i:Nat=>[(1,.slc (nz 1 (b.map Dn)) (b.map Dn) false),(2,.ptr 0 0),(4,.ptr 1 0),(5,.ptr 2 0),(19,.int .i64 (i:Int))])
  (fun i=>[⟨false,1,s.list.map wD,false⟩,⟨false,1,(zW 8).map wD,false⟩,⟨false,1,(HI b i).map wD,false⟩]) (fun i=>i≤16) (fun i=>16 - i) 0 (by simp only[push_cast,↓reduceIte,CI,CO,CM,CJ,↓CL] <;> rfl) (by omega) ?_
 intro i hi;unfold ow;simp only[push_cast,↓reduceIte,CI];refine EU (fun Y=>?_) (fun Y=>?_)
 ·have V:i<16:=by omega
  have E:(4*(i:Int)).toNat=4*i:=by omega
  have I:(4*(i:Int)+1).toNat=4*i+1:=by omega
  have J:(4*(i:Int)+2).toNat=4*i+2:=by omega
  have M:(4*(i:Int)+3).toNat=4*i+3:=by omega
  have hl:(HI b i).length=64:=wj b i (by omega);have hw:=sj b i (Sha.word b i) (by omega) (YB3 b i V);simp (disch:=omega) only[push_cast,↓reduceIte,CI,CO,CM,CJ,CU,Nc,DK,Kj,Yyh,YBz,Wn,PU,E,I,J,M];refine EV (i+1) (by omega) (by omega) ?_;rw[← hw];rfl
 ·obtain rfl:i=16:=by omega
  simp only[push_cast,↓reduceIte,CJ,CT,↓CL]
  refine FQ (fun i:Nat=>[(2,.ptr 0 0),(4,.ptr 1 0),(5,.ptr 2 0),(7,.int .i64 (i:Int))])
   (fun i=>[⟨false,1,s.list.map wD,false⟩,⟨false,1,(zW 8).map wD,false⟩,⟨false,1,(HI b i).map wD,false⟩]) (fun i=>16≤i∧i≤64) (fun i=>64 - i) 16 (by simp only[push_cast,↓reduceIte,CI,CO,CM,CJ,↓CL] <;> rfl) (by omega) ?_
  intro i hi;unfold ox;simp only[push_cast,↓reduceIte,CI,CN];refine EU (fun h2=>?_) (fun h2=>?_)
  ·have hl:(HI b i).length=64:=wj b i (by omega);have hw:=sj b i _ (by omega) (YB4 b i (by omega));have E:((i:Int) - 15).toNat=i - 15:=by omega
   have I:((i:Int) - 2).toNat=i - 2:=by omega
   have J:((i:Int) - 16).toNat=i - 16:=by omega
   have M:((i:Int) - 7).toNat=i - 7:=by omega
   simp (disch:=omega) only[push_cast,↓reduceIte,CI,CO,CM,CJ,CU,CN,Fq,DK,PU,ta,wU,xN,lM,E,I,J,M,Ylt];refine EV (i+1) (by omega) (by omega) ?_;rw[← hw];rfl
  ·obtain rfl:i=64:=by omega
   have U:HI b 64=Sha.sch b 64:=by simp[HI]
   have hl:(Sha.sch b 64).length=64:=Sha.sch_length b 64;have ae:s.list.length=8:=rfl;have af:(zW 8).length=8:=rfl;simp (disch:=first | omega | rfl) only[push_cast,↓reduceIte,CI,CJ,CT,CN,↓CL,U]
   refine FQ (fun i:Nat=>[(2,.ptr 0 0),(4,.ptr 1 0),(5,.ptr 2 0),(12,.ptr 3 0),(102,.int .i64 (i:Int))])
    (fun i=>[⟨false,1,s.list.map wD,false⟩,⟨false,1,(zW 8).map wD,false⟩,⟨false,1,(Sha.sch b 64).map wD,false⟩,⟨false,1,(Sha.rounds (Sha.sch b 64) s i).list.map wD,false⟩]) (fun i=>i≤64) (fun i=>64 - i) 0 (by simp only[push_cast,↓reduceIte,CI,CO,CM,CJ,↓CL] <;> rfl) (by omega) ?_
   intro i hi;unfold oy;simp only[push_cast,↓reduceIte,CI,CN];refine EU (fun h3=>?_) (fun h3=>?_)
   ·have hK:Sha.K.length=64:=rfl;have hn:Sha.rounds (Sha.sch b 64) s (i+1)=Sha.round (Sha.rounds (Sha.sch b 64) s i) (Sha.K.getD i 0) ((Sha.sch b 64).getD i 0):=rfl;generalize Sha.rounds (Sha.sch b 64) s i=r at hn;simp (disch:=omega) only[push_cast,↓reduceIte,CI,CO,CM,CJ,CU,CN,Sha.St8.list,PU,Ygk,JV _ _ _ _ nf,ta,wU,XP,Wu,lM,DK];refine EV (i+1) (by omega) (by omega) ?_;rw[hn];rfl
   ·obtain rfl:i=64:=by omega
    have hb:Sha.block s b=s.add (Sha.rounds (Sha.sch b 64) s 64):=rfl;rw[hb];generalize Sha.rounds (Sha.sch b 64) s 64=r;simp only[push_cast,↓reduceIte,CJ,CT,CN,↓CL]
    refine FQ (fun i:Nat=>[(2,.ptr 0 0),(4,.ptr 1 0),(12,.ptr 3 0),(182,.int .i64 (i:Int))])
     (fun i=>[⟨false,1,((s.add r).list.take i++s.list.drop i).map wD,false⟩,⟨false,1,(zW 8).map wD,false⟩,⟨false,1,(Sha.sch b 64).map wD,false⟩,⟨false,1,r.list.map wD,false⟩]) (fun i=>i≤8) (fun i=>8 - i) 0 (by simp only[push_cast,↓reduceIte,CI,CO,CM,CJ,↓CL] <;> rfl) (by omega) ?_
    intro i hi
    have ah:((s.add r).list.take i++s.list.drop i).length=8:=by
     simp only[Ad,AH,AI,Sha.St8.list_length]; omega
    have a0:r.list.length=8:=rfl;unfold og;simp only[push_cast,↓reduceIte,CI];refine EU (fun h4=>?_) (fun h4=>?_)
    ·have ha:=lJ s r i (by omega);simp (disch:=omega) only[push_cast,↓reduceIte,CI,CO,CM,CJ,PU,lM,DK];refine EV (i+1) (by omega) (by omega) ?_;grind
    ·obtain rfl:i=8:=by omega
     have e8:(s.add r).list.take 8++s.list.drop 8=(s.add r).list:=rfl;have a1:(s.add r).list.length=8:=rfl;simp (disch:=first | omega | rfl) only[push_cast,↓reduceIte,CI,CJ,CT,↓CL,e8]
theorem Yy3:Contract Tryz.prog GG 159 jD:=
 Ed yB5 (DI (all_cons YFf all_nil) all_nil) (fun a h=>Ytr a.1 a.2 h)
end Go.Proofs.YtijnglngaogdjaaGreatDoor.PI
namespace Go.Proofs.YtijnglngaogdjaaGreatDoor.PI
open Go Go.WideElems
set_option linter.unusedSimpArgs false
set_option linter.unusedVariables false
def binsD:DataW Unit:=.map [(.int .i64 3,.agg [.iface "func" (.lit (.string [119,97,103,111,110,112,111,111,108,47,109,111,110,101,121,46,65,100,100]))]),(.int .i64 4,.agg [.iface "func" (.lit (.string [119,97,103,111,110,112,111,111,108,47,109,111,110,101,121,46,83,117,98]))]),(.int .i64 5,.agg [.iface "func" (.lit (.string [119,97,103,111,110,112,111,111,108,47,109,111,110,101,121,46,77,117,108]))]),(.int .i64 6,.agg [.iface "func" (.lit (.string [119,97,103,111,110,112,111,111,108,47,116,118,109,46,98,105,110,97,114,105,101,115,36,49]))]),(.int .i64 7,.agg [.iface "func" (.lit (.string [119,97,103,111,110,112,111,111,108,47,116,118,109,46,98,105,110,97,114,105,101,115,36,50]))]),(.int .i64 8,.agg [.iface "func" (.lit (.string [119,97,103,111,110,112,111,111,108,47,116,118,109,46,98,105,110,97,114,105,101,115,36,51]))]),(.int .i64 9,.agg [.iface "func" (.lit (.string [119,97,103,111,110,112,111,111,108,47,116,118,109,46,98,105,110,97,114,105,101,115,36,52]))]),(.int .i64 10,.agg [.iface "func" (.lit (.string [119,97,103,111,110,112,111,111,108,47,116,118,109,46,98,105,110,97,114,105,101,115,36,53]))]),(.int .i64 11,.agg [.iface "func" (.lit (.string [119,97,103,111,110,112,111,111,108,47,116,118,109,46,98,105,110,97,114,105,101,115,36,54]))])]
theorem gB:Tryz.prog.globalNamed "wagonpool/tvm.binaries"=some 0:=by kernel_rfl
theorem tB:(Tryz.prog.globals[0]?).map (·.type)=some 198:=by kernel_rfl
theorem kJ:Tryz.prog.underlying 198=some (.map 3 196):=by kernel_rfl
theorem u3:Tryz.prog.underlying 3=some (.int .i64):=by kernel_rfl
def Wc:Option TypeDesc→Bool
 |some (.struct fs)=>match fs.toList with
  |[f]=>f.offset == 0 && f.type == 194
  |_=>false
 |_=>false
def Xa:Option TypeDesc→Bool
 |some (.func _ _ _)=>true
 |_=>false
theorem VN:Wc (Tryz.prog.underlying 196)=true:=by kernel_rfl
theorem VO:Xa (Tryz.prog.underlying 194)=true:=by kernel_rfl
theorem kK:∃ f,Tryz.prog.underlying 196=some (.struct #[f])∧f.offset=0∧f.type=194:=by
 have h:=VN;unfold Wc at h
 split at h
 ·rename_i fs hu
  split at h
  ·rename_i f hf;simp only[Ac,beq_iff_eq]at h;have e:fs=#[f]:=Array.ext' hf;subst e;exact⟨f,hu,h.1,h.2⟩
  ·cases h
 ·cases h
theorem XJ:Tryz.prog.cellsOf 196=1:=by kernel_rfl
theorem lF:Tryz.prog.cellsOf 194=1:=by kernel_rfl
theorem kL:∃ ps rs E,Tryz.prog.underlying 194=some (.func ps rs E):=by
 have h:=VO;unfold Xa at h
 split at h
 ·rename_i ps rs E hu; exact⟨ps,rs,E,hu⟩
 ·cases h
variable {k:Int}{v:Value}
theorem YDi{P:Program}{t:TypeId}{kd:IntKind}(I:P.underlying t=some (.int kd))(h:keyOf P t v=some (.int kd k)):v=.int kd k:=by
 unfold keyOf mapKey at h;rw[I]at h;simp only at h
 split at h
 ·rename_i E; cases E
 ·rename_i E; simp only[AK,TypeDesc.int.injEq]at E; subst E
  split at h
  ·simp only[AK,Lit.int.injEq]at h;rename_i J;rw[← J.1,h.2]
  ·cases h
 ·rename_i E; cases E
 ·cases h
theorem zD(h:keyOf Tryz.prog 3 v=some (.int .i64 k)):v=.int .i64 k:=YDi u3 h
theorem sX{k:Int}{f:Nat}:∀ {l:List (Int×Nat)},Gg k l=some f→k∈l.map (·.1)
 |[],h=>by cases h
 |p::r,h=>by
  unfold Gg at h
  split at h
  ·rename_i e; simp[e]
  ·exact Am _ (sX h)
set_option maxRecDepth 20000 in
theorem OG{W:World}{n:Nat}{e:MapEntry}{b:UInt8}{r:List UInt8}{f0:FuncId}(U:((CS Tryz.prog.funcs.size).filter fun f=>(Tryz.prog.funcs[f]?).any (·.name.toUTF8.data.toList == b::r))=[f0])
  (h:rd Tryz.prog 3 (elemAt (funcToken Tryz.prog) Tryz.prog W 0 (fun _=>true) true n 196) e=some (.int .i64 k,.agg [.held (b::r)])):e.key=.int .i64 k∧e.val=.agg #[.func (.func f0) #[] #[]]:=by
 constructor
 ·exact zD (rd_key h)
 ·obtain⟨z,J,M⟩:=rd_val h;obtain⟨z1,z2⟩:=z;dsimp only at M;subst M;unfold elemAt at J
  split at J
  case isFalse=>cases J
  rename_i E;obtain⟨f,hu,ho,ht⟩:=kK;obtain⟨ps,rs,va,V⟩:=kL
  cases n with
  |zero=>simp[DataW.trod]at J
  |succ n=>
   unfold Value.formed at E;rw[hu,XJ]at E
   cases hv:e.val with
   |agg cs=>
    rw[hv]at J E;simp only[beq_iff_eq]at E
    obtain⟨v,rfl⟩:∃ v,cs=#[v]:=by
     obtain⟨l⟩:=cs
     match l,E with
     |[v],_=>exact⟨v,rfl⟩
    have I:DataW.trod (funcToken Tryz.prog) Tryz.prog W 0 (fun _=>true) true (n+1) 196 [v]=some (.agg [.held (b::r)],z2):=J;rw[DataW.trod_step]at I;unfold DataW.trodStep at I;rw[hu]at I;simp[XJ,ho,ht,lF]at I
    obtain⟨q,hq⟩:∃ q,DataW.trod (funcToken Tryz.prog) Tryz.prog W 0 (fun _=>true) true n 194 [v]=some (.held (b::r),q):=by
     rw[Ay]at I;obtain⟨⟨y1,y2⟩,h1,Y⟩:=I;simp at Y;exact⟨y2,by rw[h1,Y.1]⟩
    rw[func_of_trod V U hq]
   |_=>rw[hv]at E; simp at E
def XU:List (Lit×DataW (List UInt8)):=[(.int .i64 3,.agg [.held [119,97,103,111,110,112,111,111,108,47,109,111,110,101,121,46,65,100,100]]),(.int .i64 4,.agg [.held [119,97,103,111,110,112,111,111,108,47,109,111,110,101,121,46,83,117,98]]),(.int .i64 5,.agg [.held [119,97,103,111,110,112,111,111,108,47,109,111,110,101,121,46,77,117,108]]),(.int .i64 6,.agg [.held [119,97,103,111,110,112,111,111,108,47,116,118,109,46,98,105,110,97,114,105,101,115,36,49]]),(.int .i64 7,.agg [.held [119,97,103,111,110,112,111,111,108,47,116,118,109,46,98,105,110,97,114,105,101,115,36,50]]),(.int .i64 8,.agg [.held [119,97,103,111,110,112,111,111,108,47,116,118,109,46,98,105,110,97,114,105,101,115,36,51]]),(.int .i64 9,.agg [.held [119,97,103,111,110,112,111,111,108,47,116,118,109,46,98,105,110,97,114,105,101,115,36,52]]),(.int .i64 10,.agg [.held [119,97,103,111,110,112,111,111,108,47,116,118,109,46,98,105,110,97,114,105,101,115,36,53]]),(.int .i64 11,.agg [.held [119,97,103,111,110,112,111,111,108,47,116,118,109,46,98,105,110,97,114,105,101,115,36,54]])]
set_option maxRecDepth 20000 in
theorem Yoy{W:World}(h:funcsAt Tryz.prog W "wagonpool/tvm.binaries" binsD):∃ b es clock,W.cell? ⟨0,0,none⟩=some (.map (some b))∧W.heap[b]?=some (.map es clock)∧Nn (.map es clock)=true∧gd es Fm:=by
 obtain⟨g,t,cs,fuel,p,hg,ht,hv,hd⟩:=h;obtain rfl:=Az (gB.symm.trans hg);obtain rfl:=Az (tB.symm.trans ht);have hd':DataW.trod (funcToken Tryz.prog) Tryz.prog W 0 (fun _=>true) true fuel 198 cs.toList=some (.map XU,p):=hd;rcases open_map kJ hd' with⟨_,hx⟩ | ⟨b,es,clock,n,rfl,hcs,hb,_,F,hx⟩
 ·cases hx
 simp only[AA,DataW.map.injEq]at hx
 have mem:∀ y,y∈XU↔y∈es.toList.map (rg Tryz.prog 3 (elemAt (funcToken Tryz.prog) Tryz.prog W 0 (fun _=>true) true n 196)):=fun y=>by
  rw[hx.1]; exact(Go.WideShapes.sorted_perm _).mem_iff
 have ent:∀ e∈es.toList,∃ k f,e.key=.int .i64 k∧e.val=.agg #[.func (.func f) #[] #[]]∧f<5000000∧Gg k Fm=some f:=by
  intro e he;obtain⟨y,hy⟩:=F.reads e he;have hm:y∈XU:=(mem y).2 (AU.2 ⟨e,he,rg_of hy⟩);simp only[XU,Av,AB,or_false]at hm;rcases hm with rfl | rfl | rfl | rfl | rfl | rfl | rfl | rfl | rfl
  ·obtain⟨h1,h2⟩:=OG (f0:=231) (by kernel_rfl) hy; exact⟨_,_,h1,h2,by decide,rfl⟩
  ·obtain⟨h1,h2⟩:=OG (f0:=232) (by kernel_rfl) hy; exact⟨_,_,h1,h2,by decide,rfl⟩
  ·obtain⟨h1,h2⟩:=OG (f0:=233) (by kernel_rfl) hy; exact⟨_,_,h1,h2,by decide,rfl⟩
  ·obtain⟨h1,h2⟩:=OG (f0:=234) (by kernel_rfl) hy; exact⟨_,_,h1,h2,by decide,rfl⟩
  ·obtain⟨h1,h2⟩:=OG (f0:=235) (by kernel_rfl) hy; exact⟨_,_,h1,h2,by decide,rfl⟩
  ·obtain⟨h1,h2⟩:=OG (f0:=236) (by kernel_rfl) hy; exact⟨_,_,h1,h2,by decide,rfl⟩
  ·obtain⟨h1,h2⟩:=OG (f0:=238) (by kernel_rfl) hy; exact⟨_,_,h1,h2,by decide,rfl⟩
  ·obtain⟨h1,h2⟩:=OG (f0:=239) (by kernel_rfl) hy; exact⟨_,_,h1,h2,by decide,rfl⟩
  ·obtain⟨h1,h2⟩:=OG (f0:=240) (by kernel_rfl) hy; exact⟨_,_,h1,h2,by decide,rfl⟩
 have all:∀ k∈Fm.map (·.1),∃ e∈es.toList,e.key=.int .i64 k:=by
  intro k hk
  have hkL:∃ d,(Lit.int .i64 k,d)∈XU:=by
   simp only[Fm,Aw,Bj,Av,AB,or_false]at hk;rcases hk with rfl | rfl | rfl | rfl | rfl | rfl | rfl | rfl | rfl
   ·exact⟨_,Ba⟩
   ·exact⟨_,Am _ (Ba)⟩
   ·exact⟨_,Am _ (Am _ (Ba))⟩
   ·exact⟨_,Am _ (Am _ (Am _ (Ba)))⟩
   ·exact⟨_,Am _ (Am _ (Am _ (Am _ (Ba))))⟩
   ·exact⟨_,Am _ (Am _ (Am _ (Am _ (Am _ (Ba)))))⟩
   ·exact⟨_,Am _ (Am _ (Am _ (Am _ (Am _ (Am _ (Ba))))))⟩
   ·exact⟨_,Am _ (Am _ (Am _ (Am _ (Am _ (Am _ (Am _ (Ba)))))))⟩
   ·exact⟨_,Am _ (Am _ (Am _ (Am _ (Am _ (Am _ (Am _ (Am _ (Ba))))))))⟩
  obtain⟨d,hd⟩:=hkL;obtain⟨e,he,hre⟩:=AU.1 ((mem _).1 hd);obtain⟨y,hy⟩:=F.reads e he;obtain⟨k',f,h1,h2,_⟩:=ent e he;rw[rg_of hy]at hre;subst hre;have hk:=zD (rd_key hy);exact⟨e,he,hk⟩
 have hc0:W.cell? ⟨0,0,none⟩=some (.map (some b)):=by
  rw[World.var?_cell hg hv 0];obtain⟨l⟩:=cs;have:l=[.map (some b)]:=hcs;rw[this]; rfl
 have hsp:Nn (.map es clock)=true:=by
  rw[gQ];obtain⟨e,he,_⟩:=all 3 (by decide)
  have hlt:0<es.size:=by
   have:=List.length_pos_of_mem he;simpa using this
  rw[BD hlt];obtain⟨k,f,_,h2,_⟩:=ent es[0] (by simp);simp only[h2];rfl
 refine⟨b,es,clock,hc0,hb,hsp,fun e he=>?_,fun k f hf=>?_⟩
 ·exact ent e he
 ·exact all k (sX hf)
theorem globGG{W:World}(hk:Lib.TabIs Tryz.prog W "wagonpool/digest.k" .u32 (Sha.K.map fun x=>(x.toNat:Int)))(gk:Tryz.prog.globalNamed "wagonpool/digest.k"=some 1)(h:funcsAt Tryz.prog W "wagonpool/tvm.binaries" binsD):GlobOK GG W (KR W):=by
 intro n d hd;unfold GG at hd
 split at hd
 ·rename_i e;subst e;simp only[AK]at hd;subst hd;obtain⟨b,es,clock,h1,h2,h3,h4⟩:=Yoy h
  have hj:∀ (j:Nat) (d:D),(D.gmap Fm).cells[j]?=some d→j=0∧d=.gmap Fm:=fun j d hd=>by
   cases j with
   |zero=>exact⟨rfl,(Az hd).symm⟩
   |succ j=>cases hd
  refine .eptr _ 0 _ 0 (fun _=>.map (some b)) (fun j d hd=>?_) (fun j d hd=>?_) (fun j d hd=>?_)
  ·obtain⟨rfl,rfl⟩:=hj j d hd; rfl
  ·obtain⟨rfl,rfl⟩:=hj j d hd;exact⟨by show(W.cell? ⟨_,0,none⟩).isSome=true; rw[h1]; rfl,h1⟩
  ·obtain⟨rfl,rfl⟩:=hj j d hd;exact .gmap _ b es clock h2 h3 h4
 ·exact Yxq hk gk n d hd
end Go.Proofs.YtijnglngaogdjaaGreatDoor.PI
namespace Go.Proofs.YtijnglngaogdjaaGreatDoor.PI
open Go
set_option linter.unusedSimpArgs false
set_option linter.unusedVariables false
theorem YCs(n:Nat):Ds .mul (.int .u64 (n:Int)) (.int .u64 8)=some (qD (C7 n*8)):=by
 have e:(n:Int)*8=((n*8:Nat):Int):=by omega
 simp only[Ds,if_true,KS,Ae,e,T9,qD]
 congr 3
 simp
theorem lI:D.int .u8 128=Dn 128:=rfl
theorem b0:D.int .u8 0=Dn 0:=rfl
theorem xM(n:Nat)(σ:List Nat)(x:UInt64):Eu n σ (qD x)=qD x:=rfl
theorem YCc(x:UInt64):hk (qD x)=[]:=rfl
variable {α:Type}
theorem yD2(l:List (List α))(i:Nat):(l.take i).flatten.length≤l.flatten.length:=by
 have:l.flatten=(l.take i).flatten++(l.drop i).flatten:=by rw[← List.flatten_append,Bk]
 rw[this,Ad];omega
theorem vR(s:Sha.St8):∀ (i:Nat) (m:List UInt8),Sha.blocks s (i+1) m=Sha.block (Sha.blocks s i m) ((m.drop (64*i)).take 64)
 |0,m=>by simp[Sha.blocks]
 |i+1,m=>by
  rw[Sha.blocks,vR (Sha.block s (m.take 64)) i (m.drop 64),Sha.blocks,Bx,show 64+64*i=64*(i+1) by omega]
theorem yYg(m:List UInt8):(Sha.padded m).length=m.length+1+Sha.zeros m.length+8∧(Sha.padded m).length % 64=0:=by
 have h:(Sha.padded m).length=m.length+1+Sha.zeros m.length+8:=by
  simp[Sha.padded,Sha.lenB_length]; omega
 refine⟨h,?_⟩;rw[h]; unfold Sha.zeros; omega
def Lh(l:List UInt32)(i:Nat):List UInt8:=Sha.outB l i++CQ (32 - i) 0
theorem wq(l:List UInt32)(i:Nat)(h:i≤32):(Lh l i).length=32:=by
 simp[Lh,Sha.outB_length]; omega
theorem Ym4(l:List UInt32)(i:Nat)(h:i<32):(Lh l i).set i ((l.getD (i / 4) 0 >>> UInt32.ofNat (24 - 8*(i % 4))).toUInt8)=Lh l (i+1):=by
 have E:(Sha.outB l i).length=i:=Sha.outB_length l i;unfold Lh;rw[Sha.outB,Ce _ _ (by omega),E,BG,show 32 - i=(32 - (i+1))+1 by omega,B0,Bu,Ap];rfl
def mi(sz key tot off:Nat):D:=if off<tot then .row key tot off (tot - off)else .slc sz [] false
variable {key off sz tot:Nat}
theorem jI(h:off<tot):mi sz key tot off=.row key tot off (tot - off):=if_pos h
theorem rX(h:¬ off<tot):mi sz key tot off=.slc sz [] false:=if_neg h
noncomputable def bI:List D→Option D:=Dl (α:=List (List UInt8)) (fun a=>[.slc (nz 1 (a.map LH)) (a.map LH) false]) (fun a=>a.flatten.length≤4294960000∧a.length≤4294960000) (fun a=>C9 (Mf a.flatten))
theorem Ypy(ps:List (List UInt8))(h:ps.flatten.length≤4294960000∧ps.length≤4294960000):bI [.slc (nz 1 (ps.map LH)) (ps.map LH) false]=some (C9 (Mf ps.flatten)):=
 D5 (fun a b h=>by simp only[Aa,D.slc.injEq,Yy6,and_true]at h; simp[h]) (ps) h
set_option maxHeartbeats 4000000 in
set_option maxRecDepth 20000 in
theorem VC(ps:List (List UInt8))(h:ps.flatten.length≤4294960000∧ps.length≤4294960000):@wW GG (tb [(159,jD)] []) Zu.code (Dc [.slc (nz 1 (ps.map LH)) (ps.map LH) false]) [] ⟨Dp Zu.res (C9 (Mf ps.flatten))⟩:=by
 obtain⟨h,bb⟩:=h;generalize hm:ps.flatten=m at h;unfold Zu;simp only[push_cast,↓reduceIte,CI,Ync 1]
 refine FQ (fun i:Nat=>[(2,.ptr 0 0),(3,D4 0 1 ((ps.take i).flatten.map Dn)),(10,.slc (nz 1 (ps.map LH)) (ps.map LH) false),(11,.int .i64 (ps.length:Int)),(12,.int .i64 (i:Int))])
  (fun i=>⟨false,1,C8 Dt,false⟩::Dz 1 ((ps.take i).flatten.map Dn)) (fun i=>i≤ps.length) (fun i=>ps.length - i) 0 (by simp only[push_cast,↓reduceIte,CI,CO,CM,↓CL] <;> rfl) (by omega) ?_
 intro i hi;unfold nT;simp only[push_cast,↓reduceIte,CI];refine EU (fun h1=>?_) (fun h1=>?_)
 ·have e:(ps.take (i+1)).flatten=(ps.take i).flatten++ps.getD i default:=by
   rw[uk ps i (by omega),List.flatten_append]; simp
  have hl:=yD2 ps (i+1);rw[e,Ad,hm]at hl;simp (disch:=first|omega|decide) only[push_cast,↓reduceIte,CI,CO,CM,Kj,DK];refine EV (i+1) (by omega) (by omega) ?_;rw[e];simp only[push_cast] <;> rfl
 ·obtain rfl:i=ps.length:=by omega
  rw[Bi,hm];have V:(m++[128]).map Dn≠[]:=by simp
  simp (disch:=first|omega|decide) only[push_cast,↓reduceIte,CI,cu,YCs,lI,R6 _ _ _ V,QA _ _ V];generalize hq:C7 m.length*8=q
  refine FQ (fun j:Nat=>[(2,.ptr 0 0),(3,.row 1 (m++[128]++CQ j 0).length 0 (m++[128]++CQ j 0).length),(6,qD q)])
   (fun j=>[⟨false,1,C8 Dt,false⟩,⟨true,1,(m++[128]++CQ j 0).map Dn,false⟩]) (fun j=>j≤Sha.zeros m.length) (fun j=>Sha.zeros m.length - j) 0 (by simp only[push_cast,↓reduceIte,CI,CO,CM,CJ,List.replicate_zero,Ai] <;> rfl) (by omega) ?_
  intro j hj;have hlen:(m++[128]++CQ j 0).length=m.length+1+j:=by simp; omega
  have bc:(m.length+1+Sha.zeros m.length) % 64=56:=by unfold Sha.zeros; omega
  have hz:Sha.zeros m.length<64:=by unfold Sha.zeros; omega
  unfold nU;simp (disch:=first|omega|decide) only[push_cast,↓reduceIte,CI,YCb];refine EU (fun h2=>?_) (fun h2=>?_)
  ·obtain rfl:j=Sha.zeros m.length:=by
    unfold Sha.zeros at hj ⊢; omega
   simp only[push_cast,↓reduceIte,CJ];have Y:(m++[128]++CQ (Sha.zeros m.length) 0)=(m++[128]++CQ (Sha.zeros m.length) 0)++Sha.lenB q 0:=(Ai _).symm;generalize hM:m++[128]++CQ (Sha.zeros m.length) 0=M at hlen Y h2
   refine FQ (fun j:Nat=>[(2,.ptr 0 0),(3,.row 1 (M++Sha.lenB q j).length 0 (M++Sha.lenB q j).length),(6,qD q),(7,.int .i64 (56 - 8*(j:Int)))])
    (fun j=>[⟨false,1,C8 Dt,false⟩,⟨true,1,(M++Sha.lenB q j).map Dn,false⟩]) (fun j=>j≤8) (fun j=>8 - j) 0 (by rw[← Y]; simp only[push_cast,↓reduceIte,CI,CO,CM,CJ,C4,C3,↓CL] <;> rfl) (by omega) ?_
   intro j hj;have aa:(M++Sha.lenB q j).length=M.length+j:=by rw[Ad,Sha.lenB_length]
   unfold nV;simp only[push_cast,↓reduceIte,CI];refine EU (fun U=>?_) (fun U=>?_)
   ·have e:(56 - 8*(j:Int)).toNat=56 - 8*j:=by omega
    have e2:M++Sha.lenB q (j+1)=(M++Sha.lenB q j)++[(q >>> C7 (56 - 8*j)).toUInt8]:=by rw[Sha.lenB,Ap]
    simp (disch:=first|omega|decide) only[push_cast,↓reduceIte,CI,CO,CM,CJ,YBx,Yyg,e,Fq];refine EV (j+1) (by omega) (by omega) ?_;rw[e2];have e4:(56 - 8*(j:Int) - 8)=56 - 8*((j+1:Nat):Int):=by omega
    simp only[push_cast,xM,YCc,e4] <;> rfl
   ·obtain rfl:j=8:=by omega
    have hP:M++Sha.lenB q 8=Sha.padded m:=by rw[← hM,← hq]; rfl
    rw[hP];rw[hP]at aa;obtain⟨ae,af⟩:=yYg m;have ah:Mf m=⟨Sha.outB (Sha.blocks Sha.H0 ((Sha.padded m).length / 64) (Sha.padded m)).list 32,Sha.outB_length _ 32⟩:=rfl;rw[ah];generalize Sha.padded m=E at aa ae af;have hH:Sha.H0.list.length=8:=rfl;have bd:(zW 8).length=8:=rfl;simp (disch:=omega) only[push_cast,↓reduceIte,CI,CJ,Int.reduceLE,CN,C4,C3,↓CL,YEk]
    refine FQ (fun j:Nat=>[(2,.ptr 0 0),(3,mi 1 1 E.length (64*j)),(8,.ptr 2 0)])
     (fun j=>[⟨false,1,C8 Dt,false⟩,⟨true,1,E.map Dn,false⟩,⟨false,1,(Sha.blocks Sha.H0 j E).list.map wD,false⟩]) (fun j=>j≤E.length / 64) (fun j=>E.length / 64 - j) 0 (by rw[jI (by omega)]; simp only[push_cast,↓reduceIte,CI,CO,CM,CJ,CP,CN] <;> rfl) (by omega) ?_
    intro j hj;unfold nW;rcases A8 (64*j) E.length with h4 | h4
    ·have be:((E.drop (64*j)).take 64).length=64:=by simp; omega
     have J:=vR Sha.H0 j E;generalize Sha.blocks Sha.H0 j E=I at J;have a1:I.list.length=8:=rfl;have bf:(Sha.block I ((E.drop (64*j)).take 64)).list.length=8:=rfl;have c1:((0:Int)<((E.length - 64*j:Nat):Int)):=by omega
     have c2:((0:Int)<(E.length:Int) - 64*(j:Int)):=by omega
     have c3:¬ (64=E.length - 64*j)∨E.length - 64*j=64:=by omega
     rw[jI h4]
     by_cases h5:E.length - 64*j=64
     ·simp (disch:=omega) only[push_cast,↓reduceIte,CI,CO,CM,CJ,CT,CU,↓CL,Yb5,ur,h5];refine EV (j+1) (by omega) (by omega) ?_;rw[rX (by omega),J]
     ·have h6:¬ 64=E.length - 64*j:=fun e=>h5 e.symm;simp (disch:=omega) only[push_cast,↓reduceIte,CI,CO,CM,CJ,Nat.reduceSub,CU,↓CL,c2,Yb5,ur,h6];refine EV (j+1) (by omega) (by omega) ?_;rw[jI (by omega),J];simp only[Nat.mul_add,BP,Nat.sub_sub]
    ·obtain rfl:j=E.length / 64:=by omega
     rw[rX (by omega)];generalize Sha.blocks Sha.H0 (E.length / 64) E=I;have a1:I.list.length=8:=rfl;simp only[push_cast,↓reduceIte,CI,CJ,CT]
     refine FQ (fun j:Nat=>[(2,.ptr 0 0),(8,.ptr 2 0),(55,.int .i64 (j:Int))])
      (fun j=>[⟨false,1,(Lh I.list j).map Dn,false⟩,⟨true,1,E.map Dn,false⟩,⟨false,1,I.list.map wD,false⟩]) (fun j=>j≤32) (fun j=>32 - j) 0 (by simp only[push_cast,↓reduceIte,CI,CO,CM,CJ,↓CL] <;> rfl) (by omega) ?_
     intro j hj;unfold nX;simp only[push_cast,↓reduceIte,CI];refine EU (fun h6=>?_) (fun h6=>?_)
     ·have a3:=wq I.list j (by omega);have a4:=Ym4 I.list j (by omega);have e1:((j:Int) / 4).toNat=j / 4:=by omega
      have e2:(24 - 8*((j:Int) % 4)).toNat=24 - 8*(j % 4):=by omega
      simp (disch:=omega) only[push_cast,↓reduceIte,CI,CO,CM,CJ,X5,YCb,Nc,Fq,DK,PU,xN,Yyf,e1,e2];refine EV (j+1) (by omega) (by omega) ?_;rw[← a4];simp only[push_cast] <;> rfl
     ·obtain rfl:j=32:=by omega
      have a3:=wq I.list 32 (by omega);simp (disch:=omega) only[push_cast,↓reduceIte,CI,CJ,CT,↓CL];rw[show Lh I.list 32=Sha.outB I.list 32 from Ai _];rfl
  ·simp (disch:=first|omega|decide) only[push_cast,↓reduceIte,CI,CO,CM,CJ,b0]
   have h9:j<Sha.zeros m.length:=by
    rcases A8 j (Sha.zeros m.length)with U | U
    ·exact U
    ·exfalso;obtain rfl:j=Sha.zeros m.length:=by omega
     omega
   refine EV (j+1) (by omega) (by omega) ?_
   have e:m++[128]++CQ (j+1) 0=(m++[128]++CQ j 0)++[0]:=by
    rw[List.replicate_succ',Ap,Ap,Ap]
   rw[e];simp only[push_cast,xM,YCc] <;> rfl
theorem Xy:Contract Tryz.prog GG 116 bI:=
 Ed yIf (DI (all_cons Yy3 all_nil) all_nil) (fun a h=>VC a h)
noncomputable def SL:List D→Option D:=Dl (α:=List UInt8×List UInt8) (fun a=>[.str a.1,.slc (nz 1 (a.2.map Dn)) (a.2.map Dn) false]) (fun a=>a.1.length+a.2.length≤4294900000) (fun a=>C9 (Si a.1 a.2))
theorem fm(t:List UInt8)(b:List UInt8)(h:t.length+b.length≤4294900000):SL [.str t,.slc (nz 1 (b.map Dn)) (b.map Dn) false]=some (C9 (Si t b)):=
 D5 (fun⟨a0,a1⟩ ⟨b0,b1⟩ h=>by simp only[Aa,D.slc.injEq,D.str.injEq,sD,and_true]at h; simp[h]) (t,b) h
theorem Yii(x:UInt8)(t b:List UInt8)(h:t.length+b.length≤4294950000) :
  bI [.slc 1 [.slc 1 [Dn x] false,.slc (nz 1 (t.map Dn)) (t.map Dn) false,.slc (nz 1 (b.map Dn)) (b.map Dn) false] false]=some (C9 (Mf (x::(t++b)))):=by
 have:=Ypy [[x],t,b] ⟨by simp; omega,by simp⟩;rw[show([[x],t,b]:List (List UInt8)).flatten=x::(t++b) by simp]at this;exact this
set_option maxHeartbeats 4000000 in
set_option maxRecDepth 20000 in
theorem Ykg(t:List UInt8)(b:List UInt8)(h:t.length+b.length≤4294900000):@wW GG (tb [(116,bI)] []) Z6.code (Dc [.str t,.slc (nz 1 (b.map Dn)) (b.map Dn) false]) [] ⟨Dp Z6.res (C9 (Si t b))⟩:=by
 unfold Z6;have I:(min (t.length:Int) 255).toNat=min t.length 255:=by omega
 have J:t.take (min t.length 255)=t.take 255:=by
  rcases Nat.le_total t.length 255 with E | E
  ·rw[BR E,Bi,AE E]
  ·rw[Nat.min_eq_right E]
 have hl:(t.take 255).length≤255:=by simp; omega
 have M:(t.take 255).length≤t.length:=by simp; omega
 simp (disch:=omega) only[push_cast,↓reduceIte,CI,yXw,I,J,My,Yii];rfl
theorem iS:Contract Tryz.prog GG 62 SL:=
 Ed yAc (DI (all_cons Xy all_nil) all_nil) (fun a h=>Ykg a.1 a.2 h)
set_option maxHeartbeats 8000000
set_option maxRecDepth 20000
def nI(n:Int):D:=.int .i64 n
variable {a b:Int}
theorem YCq:nI a=nI b↔a=b:=by simp[nI]
theorem Ss{a b:List Int}:a.map nI=b.map nI↔a=b:=⟨PJ fun _ _=>YCq.1,fun h=>by rw[h]⟩
theorem mn(n:Int):IntKind.wrap .u64 n=n % 18446744073709551616:=rfl
theorem jJ{n:Int}(E:0≤n)(I:n<18446744073709551616):IntKind.wrap .u64 n=n:=by rw[mn]; omega
theorem XS(E:0≤a+b)(I:a+b<18446744073709551616):Ds .add (.int .u64 a) (.int .u64 b)=some (.int .u64 (a+b)):=by
 simp only[Ds,if_true,KS,Ae,jJ E I]
theorem WA(E:0≤a*b)(I:a*b<18446744073709551616):Ds .mul (.int .u64 a) (.int .u64 b)=some (.int .u64 (a*b)):=by
 simp only[Ds,if_true,KS,Ae,jJ E I]
theorem YCr(a b:Int):Ds .mul (.int .u64 a) (.int .u64 b)=some (.int .u64 ((a*b) % 18446744073709551616)):=by
 rfl
theorem yL4(E:0≤a)(I:a<18446744073709551616):(CR 64 a).toNat=a.toNat:=by
 grind
theorem Yq8(E:0≤a)(I:a<18446744073709551616):Ds .and (.int .u64 a) (.int .u64 4294967295)=some (.int .u64 (a % 4294967296)):=by
 have h:(CR (IntKind.bits .u64) a &&& CR (IntKind.bits .u64) 4294967295).toNat=(a % 4294967296).toNat:=by
  show(CR 64 a &&& CR 64 4294967295).toNat=_
  rw[CE,yL4 E I,show(CR 64 4294967295).toNat=2 ^ 32 - 1 from rfl,BH];omega
 simp only[Ds,if_true,K3,Ae,h];rw[jJ (by omega) (by omega)]
 congr 2
 omega
theorem cZ(I:0≤a)(hb:0≤b)(E:a≤4294967295)(J:b≤4294967295):0≤a*b∧a*b≤18446744065119617025:=by
 refine⟨Int.mul_nonneg I hb,?_⟩;have M:a*b≤4294967295*b:=Cf E hb;omega
theorem mul4(a b c d:Int):a*b*(c*d)=a*c*(b*d):=by rw[Int.mul_assoc,Int.mul_left_comm b,← Int.mul_assoc]
theorem Yeq(x y:Int):x*y=(x / 4294967296)*(y / 4294967296)*18446744073709551616+((x / 4294967296)*(y % 4294967296)+(x % 4294967296)*(y / 4294967296))*4294967296+(x % 4294967296)*(y % 4294967296):=by
 have E:x=(x / 4294967296)*4294967296+x % 4294967296:=(Cg x 4294967296).symm;have I:y=(y / 4294967296)*4294967296+y % 4294967296:=(Cg y 4294967296).symm
 conv=>lhs; rw[E,I]
 grind
noncomputable def cH:List D→Option D:=Dl (α:=Int×Int) (fun a=>[.int .u64 a.1,.int .u64 a.2]) (fun a=>0≤a.1∧a.1<18446744073709551616∧0≤a.2∧a.2<18446744073709551616) (fun a=>.tup [.int .u64 (a.1*a.2 / 18446744073709551616),.int .u64 (a.1*a.2 % 18446744073709551616)])
theorem sF(x:Int)(y:Int)(h:0≤x∧x<18446744073709551616∧0≤y∧y<18446744073709551616):cH [.int .u64 x,.int .u64 y]=some (.tup [.int .u64 (x*y / 18446744073709551616),.int .u64 (x*y % 18446744073709551616)]):=
 D5 (fun⟨a0,a1⟩ ⟨b0,b1⟩ h=>by simp only[Aa,D.int.injEq,true_and,and_true]at h; simp[h]) (x,y) h
theorem YAv(x:Int)(y:Int)(h:0≤x∧x<18446744073709551616∧0≤y∧y<18446744073709551616):@wW GG (tb [] []) ak.code (Dc [.int .u64 x,.int .u64 y]) [] ⟨Dp ak.res (.tup [.int .u64 (x*y / 18446744073709551616),.int .u64 (x*y % 18446744073709551616)])⟩:=by
 obtain⟨I,J,M,U⟩:=h;have e:=Yeq x y;have ha:=cZ (a:=x / 4294967296) (b:=y / 4294967296) (by omega) (by omega) (by omega) (by omega);have hb:=cZ (a:=x / 4294967296) (b:=y % 4294967296) (by omega) (by omega) (by omega) (by omega);have hc:=cZ (a:=x % 4294967296) (b:=y / 4294967296) (by omega) (by omega) (by omega) (by omega);have V:=cZ (a:=x % 4294967296) (b:=y % 4294967296) (by omega) (by omega) (by omega) (by omega);unfold ak;simp (disch:=omega) only[push_cast,↓reduceIte,CI,CU,C0,Yq8,Oc,WA,XS,YCr x y];rw[e];generalize (x / 4294967296)*(y / 4294967296)=a at*;generalize (x / 4294967296)*(y % 4294967296)=b at*;generalize (x % 4294967296)*(y / 4294967296)=c at*;generalize (x % 4294967296)*(y % 4294967296)=d at*;have E:a+(b+d / 4294967296) / 4294967296+((b+d / 4294967296) % 4294967296+c) / 4294967296=(a*18446744073709551616+(b+c)*4294967296+d) / 18446744073709551616:=by omega
 rw[E]
theorem xg:Contract Tryz.prog GG 169 cH:=
 Ed yvy (DI all_nil all_nil) (fun a h=>YAv a.1 a.2 h)
def Ga(x:Int):Bool:=decide (-9007199254740992≤x) && decide (x≤9007199254740992)
theorem PG{x:Int}:Ga x=true↔-9007199254740992≤x∧x≤9007199254740992:=by simp[Ga]
theorem zM{x:Int}:Ga x=false↔x < -9007199254740992∨9007199254740992<x:=by
 rw[← Bool.not_eq_true,PG]; omega
variable {i:Nat}
theorem Yph{l:List Int}(h:i<l.length):(l.drop i).all Ga=(Ga (l.getD i default) && (l.drop (i+1)).all Ga):=by
 rw[A7 h,AY];grind
noncomputable def OD:List D→Option D:=Dl (α:=List Int) (fun a=>[.slc (nz 1 (a.map nI)) (a.map nI) false]) (fun a=>a.length≤65536) (fun a=>.bool (a.all Ga))
theorem s8(l:List Int)(h:l.length≤65536):OD [.slc (nz 1 (l.map nI)) (l.map nI) false]=some (.bool (l.all Ga)):=
 D5 (fun a b h=>by simp only[Aa,D.slc.injEq,and_true,Ss]at h; simp[h]) (l) h
theorem YAn(l:List Int)(h:l.length≤65536):@wW GG (tb [] []) YG.code (Dc [.slc (nz 1 (l.map nI)) (l.map nI) false]) [] ⟨Dp YG.res (.bool (l.all Ga))⟩:=by
 unfold YG;simp (disch:=first|omega|decide) only[push_cast,↓reduceIte,CI];refine FQ (fun i:Nat=>[(5,.slc (nz 1 (l.map nI)) (l.map nI) false),(6,.int .i64 (l.length:Int)),(7,.int .i64 (i:Int))]) (fun _=>[]) (fun i=>i≤l.length∧l.all Ga=(l.drop i).all Ga) (fun i=>l.length - i) 0 (by simp only[push_cast,↓reduceIte,CI,↓CL] <;> rfl) ⟨A2 _,rfl⟩ ?_;rintro i ⟨hi,E⟩;unfold nE;simp (disch:=first|omega|decide) only[push_cast,↓reduceIte,CI,CN];refine EU (fun Y=>?_) (fun Y=>?_)
 ·have V:i<l.length:=by omega
  rw[Yph V]at E
  have I:∀ st:St,GM st 1 (.slc (nz 1 (l.map nI)) (l.map nI) false) (.int .i64 (i:Int))=some (.eptr (nI (l.getD i default)) 0):=fun st=>by
   have:=Kj st 1 nI l false .i64 (i:Int) (by omega) (by omega);grind
  generalize l.getD i default=x at*
  cases J:Ga x with
  |true=>
   obtain⟨h5,h6⟩:=PG.1 J;rw[J,Bt]at E;have M:¬ (x < -9007199254740992):=by omega
   have U:¬ (9007199254740992<x):=by omega
   simp (disch:=first|omega|decide) only[push_cast,↓reduceIte,CI,CN,I,nI,M,U,DK];refine EV (i+1) (by exact⟨by omega,E⟩) (by omega) ?_;rfl
  |false=>
   rw[J,Bool.false_and]at E
   by_cases M:x < -9007199254740992
   ·simp (disch:=first|omega|decide) only[push_cast,↓reduceIte,CI,CN,I,nI,M,E]
   ·have U:9007199254740992<x:=by have:=zM.1 J; omega
    simp (disch:=first|omega|decide) only[push_cast,↓reduceIte,CI,CN,I,nI,M,U,E]
 ·obtain rfl:i=l.length:=by omega
  rw[Bf]at E;simp (disch:=first|omega|decide) only[push_cast,↓reduceIte,CN,E,Ct]
theorem UW:Contract Tryz.prog GG 241 OD:=
 Ed yP5 (DI all_nil all_nil) (fun a h=>YAn a h)
def Kx(c:Int):Int×Int:=if Ga c then(c,0)else(0,3)
theorem F9(a:Int):Fi 1 [.int .i64 a]=some (.slc 1 [.int .i64 a] true):=(rfl)
theorem GX(a b:Int):Fi 1 [.int .i64 a,.int .i64 b]=some (.slc 1 [.int .i64 a,.int .i64 b] true):=(rfl)
theorem dX:((9:Int)=8)=False:=by decide
theorem Pf:((10:Int)=8)=False:=by decide
theorem Pe:((10:Int)=9)=False:=by decide
theorem Xt:((8:Int)=10)=False:=by decide
theorem Xs:((9:Int)=10)=False:=by decide
theorem Yp7(a:Int):OD [.slc 1 [.int .i64 a] false]=some (.bool (Ga a)):=by
 have:=s8 [a] (by simp);simpa[nI,nz]using this
theorem cR(a b:Int):OD [.slc 1 [.int .i64 a,.int .i64 b] false]=some (.bool (Ga a && Ga b)):=by
 have:=s8 [a,b] (by simp);simpa[nI,nz]using this
noncomputable def cC:List D→Option D:=Dl (α:=Int) (fun a=>[.int .i64 a]) (fun a=>True) (fun a=>.tup [.int .i64 (Kx a).1,.int .i64 (Kx a).2])
theorem s9(c:Int):cC [.int .i64 c]=some (.tup [.int .i64 (Kx c).1,.int .i64 (Kx c).2]):=
 D5 (fun a b h=>by simp only[Aa,D.int.injEq,true_and,and_true]at h; simp[h]) (c) trivial
theorem YAm(c:Int):@wW GG (tb [(241,OD)] []) ZU.code (Dc [.int .i64 c]) [] ⟨Dp ZU.res (.tup [.int .i64 (Kx c).1,.int .i64 (Kx c).2])⟩:=by
 unfold ZU Kx;have:=Yp7 c;cases hc:Ga c <;> rw[hc]at this <;> simp (disch:=first|omega|decide) only[push_cast,↓reduceIte,CI,F9,this]
theorem xp:Contract Tryz.prog GG 242 cC:=
 Ed yB3 (DI (all_cons UW all_nil) all_nil) (fun a h=>YAm a)
def HQ(a b:Int):Int×Int:=if Ga a && Ga b then Kx (a+b)else(0,3)
def HH(a b:Int):Int×Int:=if Ga a && Ga b then Kx (a - b)else(0,3)
noncomputable def dS:List D→Option D:=Dl (α:=Int×Int) (fun a=>[.int .i64 a.1,.int .i64 a.2]) (fun a=>True) (fun a=>.tup [.int .i64 (HQ a.1 a.2).1,.int .i64 (HQ a.1 a.2).2])
theorem Yaj(a:Int)(b:Int):dS [.int .i64 a,.int .i64 b]=some (.tup [.int .i64 (HQ a b).1,.int .i64 (HQ a b).2]):=
 D5 (fun⟨a0,a1⟩ ⟨b0,b1⟩ h=>by simp only[Aa,D.int.injEq,true_and,and_true]at h; simp[h]) (a,b) trivial
theorem Yte(a:Int)(b:Int):@wW GG (tb [(241,OD),(242,cC)] []) Y3.code (Dc [.int .i64 a,.int .i64 b]) [] ⟨Dp Y3.res (.tup [.int .i64 (HQ a b).1,.int .i64 (HQ a b).2])⟩:=by
 unfold Y3 HQ;have E:=cR a b;have I:=s9 (a+b)
 cases hc:Ga a && Ga b with
 |false=>rw[hc]at E; simp (disch:=first|omega|decide) only[push_cast,↓reduceIte,CI,GX,E]
 |true=>
  rw[hc]at E;simp only[Ac,PG]at hc;simp (disch:=first|omega|decide) only[push_cast,↓reduceIte,CI,GX,E,I,DK]
theorem Yyw:Contract Tryz.prog GG 231 dS:=
 Ed yL2 (DI (all_cons UW (all_cons xp all_nil)) all_nil) (fun a h=>Yte a.1 a.2)
noncomputable def dA:List D→Option D:=Dl (α:=Int×Int) (fun a=>[.int .i64 a.1,.int .i64 a.2]) (fun a=>True) (fun a=>.tup [.int .i64 (HH a.1 a.2).1,.int .i64 (HH a.1 a.2).2])
theorem Yah(a:Int)(b:Int):dA [.int .i64 a,.int .i64 b]=some (.tup [.int .i64 (HH a b).1,.int .i64 (HH a b).2]):=
 D5 (fun⟨a0,a1⟩ ⟨b0,b1⟩ h=>by simp only[Aa,D.int.injEq,true_and,and_true]at h; simp[h]) (a,b) trivial
theorem Ytb(a:Int)(b:Int):@wW GG (tb [(241,OD),(242,cC)] []) Y6.code (Dc [.int .i64 a,.int .i64 b]) [] ⟨Dp Y6.res (.tup [.int .i64 (HH a b).1,.int .i64 (HH a b).2])⟩:=by
 unfold Y6 HH;have E:=cR a b;have I:=s9 (a - b)
 cases hc:Ga a && Ga b with
 |false=>rw[hc]at E; simp (disch:=first|omega|decide) only[push_cast,↓reduceIte,CI,GX,E]
 |true=>
  rw[hc]at E;simp only[Ac,PG]at hc;simp (disch:=first|omega|decide) only[push_cast,↓reduceIte,CI,GX,E,I,Fq]
theorem Yyu:Contract Tryz.prog GG 232 dA:=
 Ed yLz (DI (all_cons UW (all_cons xp all_nil)) all_nil) (fun a h=>Ytb a.1 a.2)
theorem Ww(E:0<a)(I:a<18446744073709551616):Nr .neg (.int .u64 a)=some (.int .u64 (18446744073709551616 - a)):=by
 have e:(0 - a) % 18446744073709551616=18446744073709551616 - a:=by omega
 simp only[Nr,mn,e]
theorem cU(st:St):FJ st (.int .u64) (.int .i64 a)=some (.int .u64 (a % 18446744073709551616)):=by
 rfl
noncomputable def T2:List D→Option D:=Dl (α:=Int) (fun a=>[.int .i64 a]) (fun a=>Ga a=true) (fun a=>.int .u64 (if a<0 then -a else a))
theorem uB(a:Int)(h:Ga a=true):T2 [.int .i64 a]=some (.int .u64 (if a<0 then -a else a)):=
 D5 (fun a b h=>by simp only[Aa,D.int.injEq,true_and,and_true]at h; simp[h]) (a) h
theorem Ytf(a:Int)(h:Ga a=true):@wW GG (tb [] []) Y7.code (Dc [.int .i64 a]) [] ⟨Dp Y7.res (.int .u64 (if a<0 then -a else a))⟩:=by
 obtain⟨M,U⟩:=PG.1 h;unfold Y7
 by_cases E:a<0
 ·have I:(a % 18446744073709551616)=18446744073709551616+a:=by omega
  have J:18446744073709551616 - (18446744073709551616+a)=-a:=by omega
  simp (disch:=first|omega|decide) only[push_cast,↓reduceIte,CI,E,cU,I,Ww,J]
 ·simp (disch:=first|omega|decide) only[push_cast,↓reduceIte,CI,E,cu]
theorem Yyx:Contract Tryz.prog GG 243 T2:=
 Ed yLy (DI all_nil all_nil) (fun a h=>Ytf a h)
def Ig(a:Int):Int:=if a<0 then -a else a
def HJ(a b:Int):Int×Int:=if Ga a && Ga b then Kx (a*b)else(0,3)
theorem YF7(a b:Int):Ig a*Ig b=Ig (a*b):=by
 unfold Ig;rcases Ch a 0 with E | E <;> rcases Ch b 0 with I | I
 ·have:=Int.mul_pos_of_neg_of_neg E I;grind
 ·have:=Int.mul_nonpos_of_nonpos_of_nonneg (Int.le_of_lt E) I;rw[if_pos E,if_neg (by omega),Int.neg_mul];omega
 ·have:=Int.mul_nonpos_of_nonneg_of_nonpos E (Int.le_of_lt I);rw[if_neg (by omega),if_pos I,Int.mul_neg];omega
 ·have:=Int.mul_nonneg E I;grind
theorem lL(h:Ga a=true):0≤Ig a∧Ig a≤9007199254740992:=by
 have:=PG.1 h;unfold Ig; split <;> omega
theorem XT(a:Int):Ga a=decide (Ig a≤9007199254740992):=by
 cases h:Ga a with
 |true=>simp[(lL h).2]
 |false=>
  have:=zM.1 h
  symm
  rw[decide_eq_false_iff_not];unfold Ig; split <;> omega
noncomputable def dU:List D→Option D:=Dl (α:=Int×Int) (fun a=>[.int .i64 a.1,.int .i64 a.2]) (fun a=>True) (fun a=>.tup [.int .i64 (HJ a.1 a.2).1,.int .i64 (HJ a.1 a.2).2])
theorem Yai(a:Int)(b:Int):dU [.int .i64 a,.int .i64 b]=some (.tup [.int .i64 (HJ a b).1,.int .i64 (HJ a b).2]):=
 D5 (fun⟨a0,a1⟩ ⟨b0,b1⟩ h=>by simp only[Aa,D.int.injEq,true_and,and_true]at h; simp[h]) (a,b) trivial
theorem Ytc(a:Int)(b:Int):@wW GG (tb [(241,OD),(243,T2),(169,cH)] []) Y5.code (Dc [.int .i64 a,.int .i64 b]) [] ⟨Dp Y5.res (.tup [.int .i64 (HJ a b).1,.int .i64 (HJ a b).2])⟩:=by
 unfold Y5 HJ;have E:=cR a b
 cases hc:Ga a && Ga b with
 |false=>rw[hc]at E; simp (disch:=first|omega|decide) only[push_cast,↓reduceIte,CI,GX,E]
 |true=>
  rw[hc]at E;simp only[Ac]at hc;have c1:T2 [.int .i64 a]=some (.int .u64 (Ig a)):=uB a hc.1;have M:T2 [.int .i64 b]=some (.int .u64 (Ig b)):=uB b hc.2;have l1:=lL hc.1;have U:=lL hc.2;have J:=sF (Ig a) (Ig b) (by omega);have e:=YF7 a b;have ei:=XT (a*b);have hn:0≤Ig a*Ig b:=Int.mul_nonneg l1.1 U.1;have hb:Ig a*Ig b≤9007199254740992*9007199254740992:=Int.le_trans (Cf l1.2 U.1) (by omega);rw[e]at J hn hb
  have hm:Ig (a*b)≤9007199254740992→-9007199254740992≤a*b∧a*b≤9007199254740992:=fun h=>by
   unfold Ig at h; split at h <;> omega
  have hmul:-9007199254740992≤a*b→a*b≤9007199254740992→Ds .mul (.int .i64 a) (.int .i64 b)=some (.int .i64 (a*b)):=fun h1 E=>Nc (by omega) (by omega);unfold Kx;rw[ei];generalize a*b=m at*;generalize Ig m=z at*
  by_cases V:z / 18446744073709551616=0
  ·have h9:z % 18446744073709551616=z:=by omega
   rw[V,h9]at J
   by_cases Y:9007199254740992<z
   ·have I:¬ z≤9007199254740992:=by omega
    simp (disch:=first|omega|decide) only[push_cast,↓reduceIte,CI,GX,E,c1,M,J,Y,I]
   ·have I:z≤9007199254740992:=by omega
    have h6:=hm I;have c4:Ds .mul (.int .i64 a) (.int .i64 b)=some (.int .i64 m):=hmul h6.1 h6.2;simp (disch:=first|omega|decide) only[push_cast,↓reduceIte,CI,GX,E,c1,M,J,Y,I,c4]
  ·have I:¬ z≤9007199254740992:=by omega
   simp (disch:=first|omega|decide) only[push_cast,↓reduceIte,CI,GX,E,c1,M,J,V,I]
theorem Yyv:Contract Tryz.prog GG 233 dU:=
 Ed yL0 (DI (all_cons UW (all_cons Yyx (all_cons xg all_nil))) all_nil) (fun a h=>Ytc a.1 a.2)
theorem Yue(a:Int)(hb:0<b):-(Ig a)≤a.tdiv b∧a.tdiv b≤Ig a:=by
 unfold Ig;rcases Ch a 0 with h | h
 ·have e:a.tdiv b=-((-a) / b):=by
   rw[← Bp (by omega),Int.neg_tdiv,Int.neg_neg]
  have E:=BY b (show 0≤-a by omega);have I:=BB (show 0≤-a by omega) (show 0≤b by omega);omega
 ·have e:a.tdiv b=a / b:=Bp h;have E:=BY b h;have I:=BB h (show 0≤b by omega);omega
theorem S6(hb:0<b)(E:-9223372036854775808<a)(I:a<9223372036854775808):Ds .quo (.int .i64 a) (.int .i64 b)=some (.int .i64 (a.tdiv b)):=by
 have J:=Yue a hb;have M:Ig a<9223372036854775808:=by unfold Ig; split <;> omega
 simp only[Ds,if_true,KS,show ¬ b=0 by omega,if_false,Ae,OM (show -9223372036854775808≤a.tdiv b by omega) (show a.tdiv b<9223372036854775808 by omega)]
theorem S7(hb:0<b):Ds .rem (.int .i64 a) (.int .i64 b)=some (.int .i64 (a.tmod b)):=by
 simp only[Ds,if_true,KS,show ¬ b=0 by omega,if_false,Ae]
def Nz(a b:Int):Int:=(if a.tmod b<0 then a - b else a).tdiv b
def Tz(a b:Int):Int:=(if 0<a.tmod b then a+b else a).tdiv b
def Et(a b m:Int):Int×Int:=if Ga a && Ga b then(if b≤0 then(0,70)else(if m=10 then Nz (2*a+b) (2*b)else if m=8 then Nz a b else Tz a b,0))else(0,3)
noncomputable def T3:List D→Option D:=Dl (α:=Int×Int×Int) (fun a=>[.int .i64 a.1,.int .i64 a.2.1,.int .i64 a.2.2]) (fun a=>a.2.2=8∨a.2.2=9∨a.2.2=10) (fun a=>.tup [.int .i64 (Et a.1 a.2.1 a.2.2).1,.int .i64 (Et a.1 a.2.1 a.2.2).2])
theorem eZ(a:Int)(b:Int)(m:Int)(h:m=8∨m=9∨m=10):T3 [.int .i64 a,.int .i64 b,.int .i64 m]=some (.tup [.int .i64 (Et a b m).1,.int .i64 (Et a b m).2]):=
 D5 (fun⟨a0,a1,E⟩ ⟨b0,b1,I⟩ h=>by simp only[Aa,D.int.injEq,true_and,and_true]at h; simp[h]) (a,b,m) h
theorem Ytd(a:Int)(b:Int)(m:Int)(h:m=8∨m=9∨m=10):@wW GG (tb [(241,OD)] []) Y4.code (Dc [.int .i64 a,.int .i64 b,.int .i64 m]) [] ⟨Dp Y4.res (.tup [.int .i64 (Et a b m).1,.int .i64 (Et a b m).2])⟩:=by
 unfold Y4 Et;have E:=cR a b
 cases hc:Ga a && Ga b with
 |false=>
  rw[hc]at E;rcases h with rfl | rfl | rfl <;> simp (disch:=first|omega|decide) only[push_cast,↓reduceIte,CI,GX,dX,Pf,Pe,E]
 |true=>
  rw[hc]at E;simp only[Ac,PG]at hc;obtain⟨⟨a1,J⟩,b1,M⟩:=hc
  by_cases hb:b≤0
  ·rcases h with rfl | rfl | rfl <;> simp (disch:=first|omega|decide) only[push_cast,↓reduceIte,CI,GX,dX,Pf,Pe,E,hb]
  ·unfold Nz Tz;rcases h with rfl | rfl | rfl
   ·by_cases I:a.tmod b<0
    ·simp (disch:=first|omega|decide) only[push_cast,↓reduceIte,CI,GX,Xt,E,hb,S7,I,Fq,S6]
    ·simp (disch:=first|omega|decide) only[push_cast,↓reduceIte,CI,GX,Xt,E,hb,S7,I,S6]
   ·by_cases I:0<a.tmod b
    ·simp (disch:=first|omega|decide) only[push_cast,↓reduceIte,CI,GX,dX,Xs,E,hb,S7,I,DK,S6]
    ·simp (disch:=first|omega|decide) only[push_cast,↓reduceIte,CI,GX,dX,Xs,E,hb,S7,I,S6]
   ·by_cases I:(2*a+b).tmod (2*b)<0
    ·simp (disch:=first|omega|decide) only[push_cast,↓reduceIte,CI,GX,Pf,Pe,E,hb,Nc,DK,S7,I,Fq,S6]
    ·simp (disch:=first|omega|decide) only[push_cast,↓reduceIte,CI,GX,Pf,Pe,E,hb,Nc,DK,S7,I,S6]
theorem gh:Contract Tryz.prog GG 237 T3:=
 Ed yL1 (DI (all_cons UW all_nil) all_nil) (fun a h=>Ytd a.1 a.2.1 a.2.2 h)
noncomputable def FB(R:List D→St→D×St→Prop):List D→St→Option (D×St):=fun ds st=>@dite _ (∃ r,R ds st r) (Classical.propDecidable _) (fun h=>some h.choose) (fun _=>none)
variable {r:D×St}{st:St}{ds:List D}
theorem Jd{R:List D→St→D×St→Prop}(h:FB R ds st=some r):R ds st r:=by
 unfold FB at h
 split at h
 ·rename_i E;simp only[AK]at h;rw[← h]; exact E.choose_spec
 ·cases h
theorem Yu7{R:List D→St→D×St→Prop}(h:R ds st r)(J:∀ E,R ds st E→E=r):FB R ds st=some r:=by
 have I:∃ r,R ds st r:=⟨r,h⟩;unfold FB;rw[dif_pos I,J _ I.choose_spec]
def Ih(R:List D→St→D×St→Prop):Prop:=∀ ds st r r',R ds st r→R ds st r'→r=r'
theorem LY{R:List D→St→D×St→Prop}(E:Ih R)(h:R ds st r):FB R ds st=some r:=Yu7 h fun I J=>E ds st I r J h
def StOK(st:St):Prop:=∀ o∈st,o.row=false→∀ x∈o.els,Eu st.length [] x=x
theorem ue(n:Nat):∀ (l acc:List Nat),E1 n n l acc=acc
 |[],acc=>rfl
 |k::r,acc=>by
  rw[E1,if_neg (by omega)];exact ue n r acc
theorem MW{α:Type}{f:α→α}:∀ {l:List α},(∀ x∈l,f x=x)→l.map f=l
 |[],_=>rfl
 |a::l,h=>by rw[Aw,h a (by simp),MW fun x E=>h x (by simp[E])]
theorem Yc7(h:StOK st):st.map (Fg st.length [])=st:=by
 refine MW fun o E=>?_;obtain⟨row,sz,els,lent⟩:=o
 cases row with
 |true=>rfl
 |false=>
  show(⟨false,sz,els.map (Eu st.length []),lent⟩:Obj)=_
  rw[MW (h _ E rfl)]
variable {fr:Frame}{keep:List Nat}
theorem fv(h:StOK st):restrict keep st.length ⟨fr,st⟩=⟨Gf (JU fr st.length [] keep),st⟩:=by
 unfold restrict;simp only[Ax,if_true,ue];unfold restrictAt;rw[TO];simp only[picked,Bj,Ai,Bi,Yc7 h]
variable {n:Nat}
theorem Un{m:Nat}(f:Nat→D)(I:∀ k,f k≠.junk)(E:n≤m)(h:Jq f (EW n [] key)=f key):Jq f (EW m [] key)=f key:=by
 unfold EW at h ⊢
 by_cases hk:key<n
 ·rw[if_pos (AX hk E)]; rfl
 ·rw[if_neg hk]at h;exact absurd h.symm (I key)
variable {x:D}
theorem tL{m:Nat}(E:n≤m)(h:GR n [] x=x):GR m [] x=x:=by
 cases x with
 |row key tot off len=>exact Un (fun k=>.row k tot off len) (fun k e=>by cases e) E h
 |bsl key off j sz ag=>exact Un (fun k=>.bsl k off j sz ag) (fun k e=>by cases e) E h
 |ptr key off=>exact Un (fun k=>.ptr k off) (fun k e=>by cases e) E h
 |rptr key tot i off=>exact Un (fun k=>.rptr k tot i off) (fun k e=>by cases e) E h
 |mapv key=>exact Un .mapv (fun k e=>by cases e) E h
 |_=>exact h
theorem Rf{f:D→D}:∀ {l:List D},l.map f=l→∀ x∈l,f x=x
 |[],_,x,E=>by cases E
 |a::l,h,x,E=>by
  simp only[Aw,Aa]at h;rcases Av.1 E with rfl | E
  ·exact h.1
  ·exact Rf h.2 x E
theorem tM{m:Nat}(E:n≤m)(h:EI n [] x=x):EI m [] x=x:=by
 cases x with
 |clo f l=>
  simp only[EI,D.clo.injEq,true_and]at h ⊢;exact MW fun y I=>tL E (Rf h y I)
 |_=>unfold EI at h ⊢; exact tL E h
theorem Yl4{m:Nat}(E:n≤m)(h:Eu n [] x=x):Eu m [] x=x:=by
 cases x with
 |agg l=>
  simp only[Eu,D.agg.injEq]at h ⊢;exact MW fun y I=>tM E (Rf h y I)
 |tup l=>unfold Eu at h ⊢; exact h
 |_=>unfold Eu at h ⊢; exact tM E h
theorem StOK.nil:StOK []:=fun _ h=>by cases h
theorem StOK.app(h:StOK st)(l:St)(hl:∀ o∈l,o.row=false→∀ x∈o.els,Eu (st.length+l.length) [] x=x):StOK (st++l):=by
 intro o E I x J;rw[Ad];rcases AL.1 E with E | E
 ·exact Yl4 (Nat.le_add_right _ _) (h o E I x J)
 ·exact hl o E I x J
theorem StOK.set(h:StOK st)(k:Nat)(o:Obj)(M:o.row=false→∀ x∈o.els,Eu st.length [] x=x):StOK (st.set k o):=by
 intro q E I x J;rw[BS];rcases BW E with E | rfl
 ·exact h q E I x J
 ·exact M I x J
theorem rV(n m:Nat):∀ (l acc:List Nat),(∀ k∈l,k<n)→E1 n m l acc=acc
 |[],acc,_=>rfl
 |k::r,acc,h=>by
  have:=h k (by simp);rw[E1,if_neg (by omega)];exact rV n m r acc fun x E=>h x (by simp[E])
theorem yJj{l:St}(h:StOK st)(M:∀ o∈st,o.row=false→∀ x∈o.els,∀ k∈hk x,k<st.length)(hf:∀ s∈keep,∀ k∈hk (fr s),k<st.length) :
  restrict keep st.length ⟨fr,st++l⟩=⟨Gf (JU fr st.length [] keep),st⟩:=by
 have hle:st.length≤(st++l).length:=by simp
 have U:(st++l).take st.length=st:=by simp
 unfold restrict;simp only[hle,if_true]
 rw[rV _ _ _ _ (fun k I=>by
  simp only[UY,U,AL,Bn]at I;rcases I with⟨s,hs,V⟩ | ⟨o,ho,E⟩
  ·exact hf s hs k V
  ·cases J:o.row with
   |true=>rw[J]at E; simp at E
   |false=>
    rw[J]at E;simp only[Al,if_false,Bn]at E;obtain⟨x,hx,Y⟩:=E;exact M o ho J x hx k Y)]
 unfold restrictAt;rw[TO];simp only[picked,Bj,Ai,U,Yc7 h]
def HY:Nat→Nat→Nat
 |0,_=>0
 |n+1,u=>if u=0 then 0 else HY n (u / 256)+1
theorem Yus(n:Nat):HY n 0=0:=by cases n <;> rfl
theorem gP(n u:Nat):HY (n+1) u=if u=0 then 0 else HY n (u / 256)+1:=(rfl)
theorem vB:∀ (n u:Nat),u<256 ^ n→HY (n+1) u=HY n u
 |0,u,h=>by
  have:u=0:=by simpa using h
  subst this; rfl
 |n+1,u,h=>by
  rw[gP (n+1) u,gP n u]
  split
  ·rfl
  ·rw[vB n (u / 256) (by rw[Cu]at h; omega)]
theorem SC:∀ (n u:Nat),HY n u≤n
 |0,_=>Ax _
 |n+1,u=>by
  rw[HY]
  split
  ·omega
  ·have:=SC n (u / 256); omega
def YBv(ds:List D)(st:St)(r:D×St):Prop:=∃ u:Nat,StOK st∧u<18446744073709551616∧ds=[.int .u64 (u:Int)]∧r=(.int .i64 (HY 8 u:Int),st)
noncomputable def gN:List D→St→Option (D×St):=FB YBv
theorem Yll:Ih YBv:=by
 rintro ds st r E ⟨u,_,_,rfl,rfl⟩ ⟨I,_,_,h,rfl⟩;grind
theorem yXg{u:Nat}(h:u≠0)(E:u<256 ^ n):HY n u=HY n (u / 256)+1:=by
 cases n with
 |zero=>simp at E; omega
 |succ n=>
  rw[gP n u,if_neg h,vB n (u / 256) (by rw[Cu]at E; omega)]
theorem Yym:IContract Tryz.prog GG 209 gN:=by
 refine Jv (T:=tb [] []) ytw (DI all_nil all_nil) ?_;intro ds st r U;obtain⟨u,E,hu,rfl,rfl⟩:=Jd U;unfold oE;simp (disch:=first|omega|decide) only[push_cast];refine FQ (fun p:Nat×Nat=>[(0,.int .u64 (p.1:Int)),(2,.int .i64 (p.2:Int))]) (fun _=>st) (fun p=>p.1<18446744073709551616∧HY 8 u=HY 8 p.1+p.2) (fun p=>p.1) (u,0) (by simp only[push_cast,↓reduceIte,CI,↓fv E] <;> rfl) ⟨hu,rfl⟩ ?_;rintro⟨w,k⟩ ⟨hw,hk⟩;have Y:=SC 8 u;dsimp only at hw hk;unfold oX;simp (disch:=first|omega|decide) only[push_cast,↓reduceIte];refine EU (fun V=>?_) (fun V=>?_)
 ·have I:w≠0:=by omega
  have hs:=yXg (n:=8) I (by omega)
  have J:Ds .shr (.int .u64 (w:Int)) (.int .u64 8)=some (.int .u64 ((w / 256:Nat):Int)):=by
   rw[Oc (by omega) (by omega)]; rfl
  simp (disch:=first|omega|decide) only[push_cast,↓reduceIte,CI,↓CL,↓fv E,J,DK];refine EV (w / 256,k+1) (by dsimp only; omega) (by dsimp only; omega) ?_;rfl
 ·obtain rfl:w=0:=by omega
  rw[Yus]at hk;have M:HY 8 u=k:=by omega
  rw[M];simp (disch:=first|omega|decide) only[push_cast,↓reduceIte,CI,CT,↓CL]
def N7(st:St)(b:D)(l:List UInt8):Prop:=(b=.slc 0 [] true∧l=[])∨∃ key,b=.row key l.length 0 l.length∧l≠[]∧st[key]?=some ⟨true,1,l.map Dn,false⟩
def Jo(st:St)(b:D)(l m:List UInt8):D×St:=match b with
 |.row key _ _ _=>(.row key (l++m).length 0 (l++m).length,st.set key ⟨true,1,(l++m).map Dn,false⟩)
 |_=>(.row st.length m.length 0 m.length,st++[⟨true,1,m.map Dn,false⟩])
variable {l:List UInt8}
theorem Yji{b:D}{I:List UInt8}(h:N7 st b l)(J:N7 st b I):l=I:=by
 rcases h with⟨rfl,rfl⟩ | ⟨key,rfl,hl,hk⟩
 ·rcases J with⟨_,rfl⟩ | ⟨key,h,_⟩
  ·rfl
  ·cases h
 ·rcases J with⟨h,_⟩ | ⟨M,h,_,E⟩
  ·cases h
  ·simp only[D.row.injEq]at h;obtain⟨rfl,_⟩:=h;rw[hk]at E;simp only[Db,Obj.mk.injEq,true_and,and_true]at E;exact QY E
variable {m:List UInt8}
theorem YGf{b:D}(h:StOK st):StOK (Jo st b l m).2:=by
 unfold Jo
 split
 ·exact h.set _ _ fun e=>by cases e
 ·exact h.app _ fun o E I=>by
   grind
theorem TQ{b:D}(h:N7 st b l)(hm:m≠[])(hl:l.length+m.length≤4294967296)(t:Bool):Ek st 1 1 b (.slc 1 (m.map Dn) t)=some (Jo st b l m):=by
 have E:m.map Dn≠[]:=by simpa using hm
 have I:nz 1 (m.map Dn)=1:=by
  cases hc:m.map Dn with
  |nil=>exact absurd hc E
  |cons a r=>rfl
 rcases h with⟨rfl,rfl⟩ | ⟨key,rfl,J,hk⟩
 ·have:=u6 Dn st 1 0 1 m t (by decide) (by omega) (by simp at hl; omega);rw[I,R6 _ _ _ E,QA _ _ E,Bc]at this;exact this
 ·rw[kB,hk];have he:Hh st (.slc 1 (m.map Dn) t)=some (1,m.map Dn):=(rfl);rw[he,lO l m false hl];simp only[Ae,Jo,Bc]
def DP(st:St)(key:Nat)(l:List UInt8):St:=st.set key ⟨true,1,l.map Dn,false⟩
theorem fi(st:St)(key:Nat)(l:List UInt8):(DP st key l).length=st.length:=BS
theorem iP(h:key<st.length)(l:List UInt8):(DP st key l)[key]?=some ⟨true,1,l.map Dn,false⟩:=by simp[DP,h]
theorem Yjh(st:St)(key:Nat)(l m:List UInt8):DP (DP st key l) key m=DP st key m:=by simp[DP]
theorem Vk(h:StOK st)(key:Nat)(l:List UInt8):StOK (DP st key l):=h.set _ _ fun e=>by cases e
theorem pK(h:key<st.length)(l m:List UInt8)(hm:m≠[])(hl:l.length+m.length≤4294967296)(t:Bool) :
  Ek (DP st key l) 1 1 (.row key l.length 0 l.length) (.slc 1 (m.map Dn) t)=some (.row key (l++m).length 0 (l++m).length,DP st key (l++m)):=by
 by_cases E:l=[]
 ·subst E;rw[kB,iP h];have he:Hh (DP st key []) (.slc 1 (m.map Dn) t)=some (1,m.map Dn):=(rfl);rw[he,lO [] m false hl];simp only[Ae,Bc];simp only[DP,List.set_set]
 ·rw[TQ (.inr ⟨key,rfl,E,iP h l⟩) hm hl t];simp only[Jo];simp only[DP,List.set_set]
theorem Ym(h:key<st.length)(l:List UInt8)(x:UInt8)(hl:l.length<4294967296)(t:Bool) :
  Ek (DP st key l) 1 1 (.row key l.length 0 l.length) (.slc 1 [Dn x] t)=some (.row key (l++[x]).length 0 (l++[x]).length,DP st key (l++[x])):=
 pK h l [x] (by simp) (by simp; omega) t
theorem um{b:D}(h:N7 st b l)(hm:m≠[]):∃ key st1,key<st1.length∧Jo st b l m=(.row key (l++m).length 0 (l++m).length,DP st1 key (l++m))∧(StOK st→StOK st1)∧
  ∀ n,Jo st b l (m++n)=(.row key (l++(m++n)).length 0 (l++(m++n)).length,DP st1 key (l++(m++n))):=by
 rcases h with⟨rfl,rfl⟩ | ⟨key,rfl,hl,hk⟩
 ·refine⟨st.length,st++[⟨true,1,[],false⟩],by simp,?_,fun h=>h.app _ fun o I J=>?_,fun n=>?_⟩
  ·simp[Jo,DP]
  ·grind
  ·simp[Jo,DP]
 ·have E:=(Ab.1 hk).1;exact⟨key,st,E,rfl,id,fun n=>rfl⟩
theorem Zz(h:StOK st)(hn:n=st.length):restrict keep n ⟨fr,st⟩=⟨Gf (JU fr n [] keep),st⟩:=by
 subst hn; exact fv h
def I9(u k:Nat):List UInt8:=(CS k).map fun i=>CW (u / 2 ^ (8*(k - 1 - i)))
theorem fP(u k:Nat):(I9 u k).length=k:=by simp[I9]
variable {k:Nat}
theorem yS2{u:Nat}(h:i<k):(I9 u k).take (i+1)=(I9 u k).take i++[CW (u / 2 ^ (8*(k - 1 - i)))]:=by
 rw[List.take_add_one]
 congr 1
 simp[I9,h]
def Er(n:Int):Nat:=(n % 18446744073709551616).toNat
def MJ(a:Nat):Nat:=18446744073709551615 - a
theorem Yod(a:Nat):MJ a<18446744073709551616:=by unfold MJ; omega
def IU(n:Int):List UInt8:=
 if 0≤n then CW (32+HY 8 (Er n))::I9 (Er n) (HY 8 (Er n))
 else CW (31 - HY 8 (MJ (Er n)))::I9 (Er n) (HY 8 (MJ (Er n)))
theorem Yky{a:Nat}(h:a<18446744073709551616):Nr .xor (.int .u64 (a:Int))=some (.int .u64 (MJ a:Int)):=by
 unfold MJ
 have E:K3 .xor .u64 (if IntKind.u64.signed then -1 else IntKind.u64.max) (a:Int)=some ((18446744073709551615 - a:Nat):Int):=by
  unfold K3;have J:IntKind.u64.bits=64:=rfl;have I:(if IntKind.u64.signed then(-1:Int)else IntKind.u64.max)=18446744073709551615:=by decide
  rw[I];simp only
  have:(CR IntKind.u64.bits 18446744073709551615 ^^^ CR IntKind.u64.bits (a:Int)) = ~~~ (BitVec.ofNat 64 a):=by
   rfl
  rw[this]
  show some (IntKind.wrap .u64 (((~~~ (BitVec.ofNat 64 a):BitVec 64).toNat:Nat):Int))=_
  rw[BitVec.toNat_not,BitVec.toNat_ofNat,A5 (by omega)]
  show some (IntKind.wrap .u64 ((2 ^ 64 - 1 - a:Nat):Int))=_
  congr 1
  rw[mn];omega
 simp only[Nr,E,Ae]
def W6(ds:List D)(st:St)(r:D×St):Prop:=∃ (b:D) (l:List UInt8) (n:Int),StOK st∧N7 st b l∧l.length≤4294967000∧ds=[b,.int .i64 n]∧r=Jo st b l (IU n)
noncomputable def Vs:List D→St→Option (D×St):=FB W6
theorem Yq9:Ih W6:=by
 rintro ds st r I ⟨b,l,n,_,hb,_,rfl,rfl⟩ ⟨b',J,M,_,E,_,h,rfl⟩;simp only[Aa,D.int.injEq,true_and,and_true]at h;obtain⟨rfl,rfl⟩:=h;rw[Yji hb E]
theorem Yis{b:D}(n:Int)(E:StOK st)(I:N7 st b l)(J:l.length≤4294967000):Vs [b,.int .i64 n] st=some (Jo st b l (IU n)):=LY Yq9 ⟨b,l,n,E,I,J,rfl,rfl⟩
theorem te(u:Nat)(E:StOK st)(I:u<18446744073709551616):gN [.int .u64 (u:Int)] st=some (.int .i64 (HY 8 u:Int),st):=LY Yll ⟨u,E,I,rfl,rfl⟩
theorem QF(h:key<n):EW n [] key=some key:=if_pos h
theorem Ybi(n:Int):Er n<18446744073709551616:=by unfold Er; omega
theorem iv(n:Int):n % 18446744073709551616=(Er n:Int):=by unfold Er; omega
theorem U5(x:UInt8):Fi 1 [Dn x]=some (.slc 1 [Dn x] true):=(rfl)
theorem XV(st:St)(x:UInt8):DV st (Dn x)=some (Dn x):=(rfl)
theorem UZ(x:UInt8):keys (Dn x)=[]:=(rfl)
theorem sK(st:St)(k:Nat):FJ st (.int .u8) (.int .i64 (32+(k:Int)))=some (Dn (CW (32+k))):=by
 rfl
theorem Yht(st:St)(h:k≤31):FJ st (.int .u8) (.int .i64 (31 - (k:Int)))=some (Dn (CW (31 - k))):=by
 rw[My st (by omega),show(31 - (k:Int)).toNat=31 - k by omega]
theorem yZ6(st:St)(u m:Nat):FJ st (.int .u8) (.int .u64 ((u:Int) / 2 ^ m))=some (Dn (CW (u / 2 ^ m))):=by
 rfl
/- the loop's part: the tag is laid -/
theorem Ya8(T:Tbl)(st1:St)(key:Nat)(E:key<st1.length)(M:StOK st1)(l0:List UInt8)(n:Int)(k:Nat)(hk:k≤8)(hl:l0.length≤4294967200)(fr:Frame)(Q:Ex→Frame→St→Prop)
  (h0:fr 0=.row key l0.length 0 l0.length) (h1:fr 1=.int .i64 n) (h6:fr 6=.int .i64 (k:Int)) (U:fr 30=.int .i64 (k:Int)) (V:fr 31=.int .i64 0)
  (hQ:∀ I,I 0=.row key (l0++I9 (Er n) k).length 0 (l0++I9 (Er n) k).length→Q (.exit 0) I (DP st1 key (l0++I9 (Er n) k))) :
  @wW GG T (.loop [0,1,6,30,31] fX) fr (DP st1 key l0) ⟨Q⟩:=by
 have hlen:=fi st1 key;have Y:∀ (fr:Frame) (m:List UInt8),restrict [0,1,6,30,31] (DP st1 key l0).length ⟨fr,DP st1 key m⟩=⟨Gf (JU fr st1.length [] [0,1,6,30,31]),DP st1 key m⟩:=fun fr m=>by rw[Zz (Vk M key m) (by rw[hlen,hlen]),hlen]
 refine FQ (fun i:Nat=>[(0,.row key (l0++(I9 (Er n) k).take i).length 0 (l0++(I9 (Er n) k).take i).length),(1,.int .i64 n),(6,.int .i64 (k:Int)),(30,.int .i64 (k:Int)),(31,.int .i64 (i:Int))])
  (fun i=>DP st1 key (l0++(I9 (Er n) k).take i)) (fun i=>i≤k) (fun i=>k - i) 0 ?_ (by omega) ?_
 ·rw[Y];simp (disch:=omega) only[push_cast,↓CL,h0,h1,h6,U,V,QF] <;> rfl
 intro i hi;unfold fX;have hb:=fP (Er n) k;have ht:((I9 (Er n) k).take i).length=i:=by rw[AH]; omega
 simp (disch:=first|omega|decide) only[push_cast,↓reduceIte,CI];refine EU (fun h2=>?_) (fun h2=>?_)
 ·have e1:((8*((k:Int) - 1 - (i:Int)))).toNat=8*(k - 1 - i):=by omega
  have J:=fun x=>Ym (st:=st1) E (l0++(I9 (Er n) k).take i) x (by rw[Ad]; omega) true;simp (disch:=first|omega|decide) only[push_cast,↓reduceIte,CI,cU,iv,Fq,Nc,DK,Oc,e1,yZ6,XV,UZ,U5,J,↓Y,E];refine EV (i+1) (by omega) (by omega) ?_;rw[yS2 (by omega),← Ap];rfl
 ·obtain rfl:i=k:=by omega
  have e2:(I9 (Er n) i).take i=I9 (Er n) i:=AE (by omega);rw[e2];simp (disch:=first|omega|decide) only[push_cast];exact hQ _ rfl
theorem Yyr:IContract Tryz.prog GG 202 Vs:=by
 refine Jv (T:=tb [] [(209,gN)]) yv3 (DI all_nil (all_cons Yym all_nil)) ?_;intro ds st r hr;obtain⟨b,l,n,V,hb,hl,rfl,rfl⟩:=Jd hr;unfold oq;have hs:=te (st:=st) (Er n) V (Ybi n);have ab:=SC 8 (Er n);have hu:=Ybi n
 by_cases hn:n<0
 ·have ac:=te (st:=st) (MJ (Er n)) V (Yod _);have ad:=SC 8 (MJ (Er n));have Y:IU n=[CW (31 - HY 8 (MJ (Er n)))]++I9 (Er n) (HY 8 (MJ (Er n))):=if_neg (by omega);rw[Y];generalize HY 8 (MJ (Er n))=k at*;obtain⟨key,st1,J,M,U,I⟩:=um hb (m:=[CW (31 - k)]) (by simp);have E:=TQ hb (m:=[CW (31 - k)]) (by simp) (by simp; omega) true;rw[M]at E;have hm:=I (I9 (Er n) k);simp only[Aw,Bj]at E;rw[hm,← Ap];simp (disch:=first|omega|decide) only[push_cast,↓reduceIte,CI,hn,cU,iv,hs,Yky,ac,DK,Fq,Yht,sK,XV,UZ,U5,E];refine Ya8 _ st1 key J (U V) (l++[CW (31 - k)]) n k ad (by simp; omega) _ _ (by simp only[push_cast,↓reduceIte,CI]) (by simp only[push_cast,↓reduceIte,CI]) (by simp only[push_cast,↓reduceIte,CI]) (by simp only[push_cast,↓reduceIte,CI]) (by simp only[push_cast,↓reduceIte]) fun ae hf=>?_;simp (disch:=first|omega|decide) only[push_cast,↓reduceIte,hf]
 ·have Y:IU n=[CW (32+HY 8 (Er n))]++I9 (Er n) (HY 8 (Er n)):=if_pos (by omega);rw[Y];generalize HY 8 (Er n)=k at*;obtain⟨key,st1,J,M,U,I⟩:=um hb (m:=[CW (32+k)]) (by simp);have E:=TQ hb (m:=[CW (32+k)]) (by simp) (by simp; omega) true;rw[M]at E;have hm:=I (I9 (Er n) k);simp only[Aw,Bj]at E;rw[hm,← Ap];simp (disch:=first|omega|decide) only[push_cast,↓reduceIte,CI,hn,cU,iv,hs,DK,sK,XV,UZ,U5,E];refine Ya8 _ st1 key J (U V) (l++[CW (32+k)]) n k ab (by simp; omega) _ _ (by simp only[push_cast,↓reduceIte,CI]) (by simp only[push_cast,↓reduceIte,CI]) (by simp only[push_cast,↓reduceIte,CI]) (by simp only[push_cast,↓reduceIte,CI]) (by simp only[push_cast,↓reduceIte]) fun ae hf=>?_;simp (disch:=first|omega|decide) only[push_cast,↓reduceIte,hf]
inductive Val where
 |int (n:Int)
 |bytes (b:List UInt8)
 |list (l:List Val)
instance:Inhabited Val:=⟨.int 0⟩
def vC(k n:Int)(B L:List D):List D:=[.int .i64 k,.int .i64 n,.slc (nz 1 B) B false,.slc (nz 4 L) L false]
def vD(k n:Int)(B L:List D):D:=.agg (vC k n B L)
mutual
def De:Val→D
 |.int n=>vD 1 n [] []
 |.bytes b=>vD 2 0 (b.map Dn) []
 |.list l=>vD 3 0 [] (Nk l)
def Nk:List Val→List D
 |[]=>[]
 |v::l=>De v::Nk l
end
mutual
def Ei:Val→Nat
 |.int _=>0
 |.bytes _=>0
 |.list l=>Io l+1
def Io:List Val→Nat
 |[]=>0
 |v::l=>max (Ei v) (Io l)
end
def Eh(c:UInt8):List UInt8:=if c=0 then [0,255]else [c]
mutual
def DD:Val→List UInt8
 |.int n=>IU n
 |.bytes b=>48::(b.flatMap Eh++[0,0])
 |.list l=>64::(Rm l++[0])
def Rm:List Val→List UInt8
 |[]=>[]
 |v::l=>DD v++Rm l
end
theorem rW:∀ l:List Val,Nk l=l.map De
 |[]=>by simp[Nk]
 |v::l=>by simp[Nk,rW l]
theorem iC:∀ l:List Val,Rm l=l.flatMap DD
 |[]=>by simp[Rm]
 |v::l=>by simp[Rm,iC l]
theorem iW:∀ {l:List Val} {v:Val},v∈l→Ei v≤Io l
 |a::l,v,h=>by
  rw[Io];rcases Av.1 h with rfl | h
  ·omega
  ·exact AP (iW h) (Nat.le_max_right _ _)
theorem OL(n:Int):De (.int n)=vD 1 n [] []:=by simp[De]
theorem OS(b:List UInt8):De (.bytes b)=vD 2 0 (b.map Dn) []:=by simp[De]
theorem QX(l:List Val):De (.list l)=vD 3 0 [] (l.map De):=by simp[De,rW]
theorem iB(n:Int):DD (.int n)=IU n:=by simp[DD]
theorem YO(b:List UInt8):DD (.bytes b)=48::(b.flatMap Eh++[0,0]):=by simp[DD]
theorem OR(l:List Val):DD (.list l)=64::(l.flatMap DD++[0]):=by simp[DD,iC]
theorem Ypm(n:Int):Ei (.int n)=0:=by simp[Ei]
theorem yZ4(b:List UInt8):Ei (.bytes b)=0:=by simp[Ei]
theorem jP(l:List Val):Ei (.list l)=Io l+1:=by simp[Ei]
def VL(v:Val):List D:=match v with
 |.int n=>vC 1 n [] []
 |.bytes b=>vC 2 0 (b.map Dn) []
 |.list l=>vC 3 0 [] (Nk l)
theorem OQ(v:Val):∃ k n B L,VL v=vC k n B L∧De v=vD k n B L:=by
 cases v
 ·exact⟨_,_,_,_,rfl,by simp[De]⟩
 ·exact⟨_,_,_,_,rfl,by simp[De]⟩
 ·exact⟨_,_,_,_,rfl,by simp[De]⟩
theorem Mx{k n k' E:Int}{B L I J:List D}(h:vD k n B L=vD k' E I J):k=k'∧n=E∧B=I∧L=J:=by
 simp only[vD,vC,D.agg.injEq,Aa,D.int.injEq,D.slc.injEq,true_and,and_true]at h;grind
mutual
theorem jH:∀ {v v':Val},De v=De v'→v=v'
 |.int n,.int E,h=>by rw[OL,OL]at h; rw[(Mx h).2.1]
 |.bytes b,.bytes b',h=>by rw[OS,OS]at h; rw[QY (Mx h).2.2.1]
 |.list l,.list I,h=>by
  have:=h;simp only[De]at this;rw[ug (Mx this).2.2.2]
 |.int n,.bytes b,h=>by rw[OL,OS]at h; exact absurd (Mx h).1 (by decide)
 |.int n,.list b,h=>by rw[OL,QX]at h; exact absurd (Mx h).1 (by decide)
 |.bytes n,.int b,h=>by rw[OL,OS]at h; exact absurd (Mx h).1 (by decide)
 |.bytes n,.list b,h=>by rw[OS,QX]at h; exact absurd (Mx h).1 (by decide)
 |.list n,.int b,h=>by rw[OL,QX]at h; exact absurd (Mx h).1 (by decide)
 |.list n,.bytes b,h=>by rw[OS,QX]at h; exact absurd (Mx h).1 (by decide)
theorem ug:∀ {l E:List Val},Nk l=Nk E→l=E
 |[],[],_=>rfl
 |[],_::_,h=>by simp[Nk]at h
 |_::_,[],h=>by simp[Nk]at h
 |a::l,b::E,h=>by
  simp only[Nk,Aa]at h;rw[jH h.1,ug h.2]
end
theorem T8{v v':Val}:De v=De v'↔v=v':=⟨jH,fun h=>by rw[h]⟩
theorem Ykv{l E:List Val}:l.map De=E.map De↔l=E:=⟨PJ fun _ _=>jH,fun h=>by rw[h]⟩
theorem Qg(k n:Int)(B L:List D):DG (vD k n B L)=some (vC k n B L):=(rfl)
theorem UT:DG (.agg [.int .i64 0,.int .i64 0,.slc 0 [] true,.slc 0 [] true])=some [.int .i64 0,.int .i64 0,.slc 0 [] true,.slc 0 [] true]:=(rfl)
theorem S4(lent:Bool)(k n:Int)(B L:List D):DA (some ⟨false,1,vC k n B L,lent⟩) 1 false 0=some (.int .i64 k):=(rfl)
theorem lX(lent:Bool)(k n:Int)(B L:List D):DA (some ⟨false,1,vC k n B L,lent⟩) 1 false 1=some (.int .i64 n):=(rfl)
theorem lY(lent:Bool)(k n:Int)(B L:List D):DA (some ⟨false,1,vC k n B L,lent⟩) 1 false 2=some (.slc (nz 1 B) B false):=(rfl)
theorem eh(lent:Bool)(k n:Int)(B L:List D):DA (some ⟨false,1,vC k n B L,lent⟩) 1 false 3=some (.slc (nz 4 L) L false):=(rfl)
theorem Nw(lent:Bool)(k n:Int)(B L:List D):DA (some ⟨false,1,vC k n B L,lent⟩) 4 true 0=some (vD k n B L):=(rfl)
theorem V4(k n:Int)(B L:List D):DR (some ⟨false,1,[.int .i64 0,.int .i64 0,.slc 0 [] true,.slc 0 [] true],false⟩) 4 0 (vD k n B L)=some ⟨false,1,vC k n B L,false⟩:=(rfl)
theorem YCf(st:St)(k n:Int)(B L:List D):Fy st 4 true (.eptr (vD k n B L) 0)=some (vD k n B L):=(rfl)
theorem ef(st:St)(k n:Int)(B L:List D):DV st (vD k n B L)=some (vD k n B L):=by
 simp only[vD,vC,DV,D3,DC,Ik];rfl
theorem bl(k n:Int)(B L:List D):keys (vD k n B L)=[]:=(rfl)
theorem W7(k n:Int)(B L:List D):(vC k n B L).flatMap hk=[]:=(rfl)
theorem Wl(m:Nat)(k n:Int)(B L:List D):∀ x∈vC k n B L,Eu m [] x=x:=by
 intro x E;simp only[vC,Av,AB,or_false]at E;rcases E with rfl | rfl | rfl | rfl <;> rfl
theorem YCa(m:Nat)(σ:List Nat)(k n:Int)(B L:List D):(vC k n B L).map (Eu m σ)=vC k n B L:=(rfl)
theorem YD1(st:St)(l:List Val)(t:Bool)(i:Nat)(h:i<l.length):GM st 4 (.slc (nz 4 (l.map De)) (l.map De) t) (.int .i64 (i:Int))=some (.eptr (De (l.getD i default)) 0):=by
 have:=Kj st 4 De l t .i64 (i:Int) (by omega) (by omega);grind
theorem wL:((2:Int)=1)=False:=by simp
theorem wK:((3:Int)=1)=False:=by simp
theorem wJ:((3:Int)=2)=False:=by simp
noncomputable def dD(N:Nat):List D→Option D:=Dl (α:=Val) (fun v=>[De v]) (fun v=>Ei v<N∧(DD v).length≤4294967000) (fun v=>.tup [.int .i64 (Ei v:Int),.bool true])
theorem uE(N:Nat)(v:Val)(h:Ei v<N∧(DD v).length≤4294967000):dD N [De v]=some (.tup [.int .i64 (Ei v:Int),.bool true]):=
 D5 (fun a b h=>by simp only[Aa,and_true,T8]at h; rw[h]) v h
theorem qR:∀ b:List UInt8,b.length≤(b.flatMap Eh).length
 |[]=>by simp
 |c::b=>by
  have:=qR b;have E:1≤(Eh c).length:=by unfold Eh; split <;> simp
  grind
theorem Yoe(n:Int):1≤(IU n).length:=by unfold IU; split <;> simp
theorem qS:∀ v:Val,1≤(DD v).length
 |.int n=>by rw[iB]; exact Yoe n
 |.bytes b=>by rw[YO]; simp
 |.list l=>by rw[OR]; simp
theorem jU:∀ l:List Val,l.length≤(l.flatMap DD).length
 |[]=>by simp
 |v::l=>by
  have:=jU l;have:=qS v;grind
theorem qW:∀ {l:List Val} {v:Val},v∈l→(DD v).length≤(l.flatMap DD).length
 |a::l,v,h=>by
  simp only[Au,Ad];rcases Av.1 h with rfl | h
  ·omega
  ·have:=qW h; omega
mutual
theorem Ypl:∀ v:Val,Ei v≤(DD v).length
 |.int n=>by simp[Ei]
 |.bytes b=>by simp[Ei]
 |.list l=>by
  have:=jQ l;simp only[Ei,DD,An,Ad,As];omega
theorem jQ:∀ l:List Val,Io l≤(Rm l).length
 |[]=>by simp[Io]
 |v::l=>by
  have:=Ypl v;have:=jQ l;simp only[Io,Rm,Ad];omega
end
def JP:List Val→Nat
 |[]=>0
 |v::l=>max (JP l) (Ei v)
theorem qH:∀ l:List Val,JP l.reverse=Io l:=by
 have h:∀ (l m:List Val),JP (l++m)=max (JP l) (JP m):=by
  intro l m
  induction l with
  |nil=>simp[JP]
  |cons a l E=>simp only[Ak,JP,E]; omega
 intro l
 induction l with
 |nil=>simp[JP,Io]
 |cons a l E=>rw[List.reverse_cons,h,E]; simp only[JP,Io]; omega
theorem yZ3(l:List Val)(v:Val):Io (l++[v])=max (Io l) (Ei v):=by
 rw[← qH,← qH l,List.reverse_append];rfl
theorem QW[Inhabited α](l:List α)(h:i<l.length):l.take (i+1)=l.take i++[l.getD i default]:=by
 simp_all
set_option maxHeartbeats 4000000 in
set_option maxRecDepth 20000 in
theorem yO:∀ N:Nat,Contract Tryz.prog GG 189 (dD N)
 |0=>by
  intro w g ds vs d hd;obtain⟨a,_,hp,_⟩:=jk hd;omega
 |N+1=>by
  refine Ed (T:=tb [(189,dD N)] []) yFk (DI (all_cons (yO N) all_nil) all_nil) ?_;rintro v ⟨hN,hl⟩;unfold nD
  cases v with
  |int n=>
   rw[OL,Ypm];simp (disch:=first|omega|decide) only[push_cast,↓reduceIte,CI,↓CL,Qg,S4,lY,eh]
  |bytes b=>
   rw[OS,yZ4];simp (disch:=first|omega|decide) only[push_cast,↓reduceIte,CI,↓CL,Qg,S4,lX,eh,wL]
  |list l=>
   rw[QX,jP];rw[jP]at hN;rw[OR]at hl;have a0:=jU l;have V:=jQ l;rw[iC]at V;simp only[An,Ad,As]at hl;simp (disch:=first|omega|decide) only[push_cast,↓reduceIte,CI,Qg,S4,lX,lY,eh,wK,wJ]
   refine FQ (fun i:Nat=>[(2,.int .i64 (Io (l.take i):Int)),(45,.slc (nz 4 (l.map De)) (l.map De) false),(46,.int .i64 (l.length:Int)),(47,.int .i64 (i:Int))])
    (fun _=>[⟨false,1,vC 3 0 [] (l.map De),false⟩]) (fun i=>i≤l.length) (fun i=>l.length - i) 0 (by simp only[push_cast,↓reduceIte,CI,↓CL,W7,YCa] <;> rfl) (by omega) ?_
   intro i hi;unfold oa;simp (disch:=first|omega|decide) only[push_cast,↓reduceIte,CI];refine EU (fun h2=>?_) (fun h2=>?_)
   ·have E:i<l.length:=by omega
    have U:=YD1 [⟨false,1,vC 3 0 [] (l.map De),false⟩] l false i E;have I:l.getD i default∈l:=by rw[Af,Ah E]; exact BC E
    have Y:=iW I;have aa:=qW I;have hc:=uE N (l.getD i default) ⟨by omega,by omega⟩;have J:=QW l E;obtain⟨x,ab⟩:∃ x,l.getD i default=x:=⟨_,rfl⟩;rw[ab]at U hc J Y aa;have M:=yZ3 (l.take i) x;rw[← J]at M;obtain⟨k,n,B,L,hC,hD⟩:=OQ x;rw[hD]at U hc;simp (disch:=first|omega|decide) only[push_cast,↓reduceIte,CI,CM,CJ,U,YCf,UT,V4,Nw,ef,bl,hc,DK];refine EV (i+1) (by omega) (by omega) ?_;rw[show((Io (l.take (i+1)):Nat):Int)=max (Io (l.take i):Int) (Ei x:Int) by rw[M]; omega];rfl
   ·obtain rfl:i=l.length:=by omega
    have e2:l.take l.length=l:=Bi;rw[e2];simp (disch:=first|omega|decide) only[push_cast,↓reduceIte,CI,DK]
theorem Fc(st:St)(o:Obj):(st++[o])[st.length]?=some o:=List.getElem?_concat_length
theorem Sd(st:St)(o o':Obj):(st++[o]).set st.length o'=st++[o']:=by simp
theorem hX(n:Nat)(d:D):Eu n [] d=HD n d:=by
 have J:∀ (f:Nat→D) (key:Nat),Jq f (EW n [] key)=if key<n then f key else .junk:=by
  intro f key; unfold EW; split <;> rfl
 have E:∀ d,GR n [] d=HL n d:=by
  intro d;cases d <;> simp only[GR,HL,J]
 have I:∀ d,EI n [] d=GW n d:=by
  intro d
  cases d with
  |clo f l=>simp only[EI,GW,D.clo.injEq,true_and]; exact BI fun x _=>E x
  |_=>simp only[EI,GW]; exact E _
 cases d with
 |agg l=>simp only[Eu,HD,D.agg.injEq]; exact BI fun x _=>I x
 |tup l=>rfl
 |_=>simp only[Eu,HD]; exact I _
theorem YD7(h:Eu n [] x=x):∀ k∈hk x,k<n:=by
 have E:∀ (f:Nat→D) (key:Nat),(∀ k,f k≠.junk)→Jq f (EW n [] key)=f key→key<n:=by
  intro f key hf h;unfold EW at h
  split at h
  ·assumption
  ·exact absurd h.symm (hf key)
 have J:∀ x,GR n [] x=x→∀ k∈GB x,k<n:=by
  intro x h k hk
  cases x with
  |row key tot off len=>simp only[GB,AJ]at hk; subst hk; exact E (fun k=>.row k tot off len) _ (fun k e=>by cases e) h
  |bsl key off j sz ag=>simp only[GB,AJ]at hk; subst hk; exact E (fun k=>.bsl k off j sz ag) _ (fun k e=>by cases e) h
  |ptr key off=>simp only[GB,AJ]at hk; subst hk; exact E (fun k=>.ptr k off) _ (fun k e=>by cases e) h
  |rptr key tot i off=>simp only[GB,AJ]at hk; subst hk; exact E (fun k=>.rptr k tot i off) _ (fun k e=>by cases e) h
  |mapv key=>simp only[GB,AJ]at hk; subst hk; exact E .mapv _ (fun k e=>by cases e) h
  |_=>simp[GB]at hk
 have M:∀ x,EI n [] x=x→∀ k∈DE x,k<n:=by
  intro x h k hk
  cases x with
  |clo f l=>
   simp only[DE,Bn]at hk;obtain⟨y,I,hk⟩:=hk;simp only[EI,D.clo.injEq,true_and]at h;exact J y (Rf h y I) k hk
  |_=>unfold EI at h; unfold DE at hk; exact J _ h k hk
 intro k hk
 cases x with
 |agg l=>
  simp only[PI.hk,Bn]at hk;obtain⟨y,I,hk⟩:=hk;simp only[Eu,D.agg.injEq]at h;exact M y (Rf h y I) k hk
 |tup l=>simp[PI.hk,DE,GB]at hk
 |_=>unfold Eu at h; unfold PI.hk at hk; exact M _ h k hk
theorem StOK.keys(h:StOK st):∀ o∈st,o.row=false→∀ x∈o.els,∀ k∈hk x,k<st.length:=fun o E I x J=>YD7 (h o E I x J)
theorem nQ{l:St}(h:StOK st)(hn:n=st.length)(E:∀ k∈Nb fr keep,k<n):restrict keep n ⟨fr,st++l⟩=⟨Gf (JU fr n [] keep),st⟩:=by
 subst hn;refine yJj h h.keys fun s I k hk=>E k ?_;rw[iG,Bn];grind
theorem xA{l:St}(h:StOK st)(hn:n=st.length):cut n (st++l)=st:=by
 subst hn;unfold cut;rw[show(st++l).take st.length=st by simp];refine MW fun o E=>?_;obtain⟨row,sz,els,lent⟩:=o
 cases row with
 |true=>rfl
 |false=>
  show(⟨false,sz,els.map (HD st.length),lent⟩:Obj)=_
  rw[MW fun x I=>(hX st.length x).symm.trans (h _ E rfl x I)]
theorem jA(h:StOK st)(k n:Int)(B L:List D)(lent:Bool):StOK (st++[⟨false,1,vC k n B L,lent⟩]):=h.app _ fun o E J x I=>by
 simp only[AJ]at E;subst E;exact Wl _ _ _ _ _ x I
theorem Yar{b:D}(h:N7 st b l)(m:St):N7 (st++m) b l:=by
 rcases h with⟨rfl,rfl⟩ | ⟨key,rfl,hl,hk⟩
 ·exact .inl ⟨rfl,rfl⟩
 ·exact .inr ⟨key,rfl,hl,by rw[At (Ab.1 hk).1]; exact hk⟩
theorem uo{els:List D}{lent:Bool}(hk:st[key]?=some ⟨true,sz,els,lent⟩){j:Nat}{o:PI.Obj}(hj:st[j]?=some o)(I:o.row=false)(m:List UInt8):(DP st key m)[j]?=some o:=by
 have E:key≠j:=by
  grind
 rw[DP,AN E];exact hj
theorem vT{b:D}(h:N7 st b l)(hm:m≠[]):∃ key st1,key<st1.length∧Jo st b l m=(.row key (l++m).length 0 (l++m).length,DP st1 key (l++m))∧(StOK st→StOK st1)∧
  (∀ n,Jo st b l (m++n)=(.row key (l++(m++n)).length 0 (l++(m++n)).length,DP st1 key (l++(m++n))))∧∀ (j:Nat) (o:PI.Obj),st[j]?=some o→o.row=false→∀ n,(DP st1 key n)[j]?=some o:=by
 rcases h with⟨rfl,rfl⟩ | ⟨key,rfl,hl,hk⟩
 ·refine⟨st.length,st++[⟨true,1,[],false⟩],by simp,?_,fun h=>h.app _ fun o J E=>?_,fun n=>?_,fun j o hj E n=>?_⟩
  ·simp[Jo,DP]
  ·grind
  ·simp[Jo,DP]
  ·exact uo (Fc st ⟨true,1,[],false⟩) (by rw[At (Ab.1 hj).1]; exact hj) E n
 ·have I:=(Ab.1 hk).1;exact⟨key,st,I,rfl,id,fun n=>rfl,fun j o hj E n=>uo hk hj E n⟩
def Tt(st:St)(b:D)(l:List UInt8)(v:Val):D×St:=Jo (st++[⟨false,1,VL v,false⟩]) b l (DD v)
def YA1(N:Nat)(ds:List D)(st:St)(r:D×St):Prop:=∃ (v:Val),StOK st∧Ei v<N∧(DD v).length≤4294967000∧ds=[.slc 0 [] true,De v]∧r=Tt st (.slc 0 [] true) [] v
def YA0(N:Nat)(ds:List D)(st:St)(r:D×St):Prop:=∃ (key:Nat) (l:List UInt8) (v:Val),StOK st∧Ei v<N∧l.length+(DD v).length≤4294967000∧l≠[]∧st[key]?=some ⟨true,1,l.map Dn,false⟩∧ds=[.row key l.length 0 l.length,De v]∧r=Jo st (.row key l.length 0 l.length) l (DD v)
noncomputable def jj(N:Nat):List D→St→Option (D×St):=FB (YA1 N)
noncomputable def TX(N:Nat):List D→St→Option (D×St):=FB (YA0 N)
theorem Yj0(N:Nat):Ih (YA0 N):=by
 rintro ds st r J ⟨key,l,v,_,_,_,_,hk,rfl,rfl⟩ ⟨I,M,v',_,_,_,_,E,h,rfl⟩;simp only[Aa,D.row.injEq,and_true,T8]at h;obtain⟨⟨rfl,_⟩,rfl⟩:=h;rw[hk]at E;simp only[Db,Obj.mk.injEq,true_and,and_true]at E;rw[QY E]
theorem Yj1(N:Nat):Ih (YA1 N):=by
 rintro ds st r E ⟨v,_,_,_,rfl,rfl⟩ ⟨v',_,_,_,h,rfl⟩;simp only[Aa,and_true,true_and,T8]at h;rw[h]
theorem Yc2{G:Dj}{T:Tbl}{c:PC}{res:List PRes}{K I:D→St→Prop}(h:@wW G T c fr st ⟨@GQ res ⟨K⟩⟩)(hk:∀ d st,K d st→I d st):@wW G T c fr st ⟨@GQ res ⟨I⟩⟩:=by
 refine Td (KQ _ _ _ _ _ (Hv h) fun e E st' h=>?_)
 have fin:@on _ (D8 ⟨E,st'⟩ res) ⟨fun l=>K (DS l) st'⟩→@on _ (D8 ⟨E,st'⟩ res) ⟨fun l=>I (DS l) st'⟩:=by
  unfold on;grind
 cases e with
 |next=>rw[tN]at h ⊢; exact fin h
 |ret=>rw[rG]at h ⊢; exact fin h
 |exit id=>unfold GQ at h; exact h.elim
 |panic t d=>unfold GQ at h; exact h.elim
theorem YFr(c:UInt8):Ds .eql (Dn c) (.int .u8 0)=some (.bool (decide (c=0))):=by
 unfold Dn;rw[yE]
 congr 2
 rw[decide_eq_decide];refine⟨fun h=>?_,fun h=>by subst h; rfl⟩;apply UInt8.toNat_inj.1;grind
theorem YC1:Fi 1 [.int .u8 0,.int .u8 0]=some (.slc 1 [.int .u8 0,.int .u8 0] true):=(rfl)
theorem eu(n:Int):Fi 1 [.int .u8 n]=some (.slc 1 [.int .u8 n] true):=(rfl)
theorem lH:Dn 48=.int .u8 48:=(rfl)
theorem lG:Dn 64=.int .u8 64:=(rfl)
theorem wT:Dn 0=.int .u8 0:=(rfl)
theorem XK:Dn 255=.int .u8 255:=(rfl)
/- the bytes of a string,laid behind what is there -/
theorem Ykp(T:Tbl)(st1:St)(key:Nat)(E:key<st1.length)(V:StOK st1)(l0 B:List UInt8)(hl:l0.length+(B.flatMap Eh).length≤4294967100)(fr:Frame)(Q:Ex→Frame→St→Prop)
  (h0:fr 0=.row key l0.length 0 l0.length) (h1:fr 23=.slc (nz 1 (B.map Dn)) (B.map Dn) false) (h6:fr 24=.int .i64 (B.length:Int)) (Y:fr 25=.int .i64 0)
  (hQ:∀ J,J 0=.row key (l0++B.flatMap Eh).length 0 (l0++B.flatMap Eh).length→Q (.exit 1) J (DP st1 key (l0++B.flatMap Eh))) :
  @wW GG T (.loop [0,23,24,25] fY) fr (DP st1 key l0) ⟨Q⟩:=by
 have hlen:=fi st1 key;have U:∀ (fr:Frame) (m:List UInt8),restrict [0,23,24,25] (DP st1 key l0).length ⟨fr,DP st1 key m⟩=⟨Gf (JU fr st1.length [] [0,23,24,25]),DP st1 key m⟩:=fun fr m=>by rw[Zz (Vk V key m) (by rw[hlen,hlen]),hlen]
 have hB:=qR B
 refine FQ (fun i:Nat=>[(0,.row key (l0++(B.take i).flatMap Eh).length 0 (l0++(B.take i).flatMap Eh).length),(23,.slc (nz 1 (B.map Dn)) (B.map Dn) false),(24,.int .i64 (B.length:Int)),(25,.int .i64 (i:Int))])
  (fun i=>DP st1 key (l0++(B.take i).flatMap Eh)) (fun i=>i≤B.length) (fun i=>B.length - i) 0 ?_ (by omega) ?_
 ·rw[U];simp (disch:=omega) only[push_cast,↓CL,h0,h1,h6,Y,QF] <;> rfl
 intro i hi;unfold fY;simp (disch:=first|omega|decide) only[push_cast,↓reduceIte,CI];refine EU (fun h2=>?_) (fun h2=>?_)
 ·have aa:i<B.length:=by omega
  have hx:GM (DP st1 key (l0++(B.take i).flatMap Eh)) 1 (.slc (nz 1 (B.map Dn)) (B.map Dn) false) (.int .i64 (i:Int))=some (.eptr (Dn (B.getD i default)) 0):=by
   have:=Kj (DP st1 key (l0++(B.take i).flatMap Eh)) 1 Dn B false .i64 (i:Int) (by omega) (by omega);grind
  have a4:=QW B aa
  have a3:((B.take i).flatMap Eh).length+(Eh (B.getD i default)).length≤(B.flatMap Eh).length:=by
   have e:B=B.take (i+1)++B.drop (i+1):=(Bk _ _).symm;grind
  generalize a5:B.getD i default=c at*;have ae:1≤(Eh c).length:=by unfold Eh; split <;> simp
  have I:=fun x=>Ym (st:=st1) E (l0++(B.take i).flatMap Eh) x (by rw[Ad]; omega) true
  have M:l0++(B.take (i+1)).flatMap Eh=l0++(B.take i).flatMap Eh++Eh c:=by
   grind
  by_cases hc:c=0
  ·subst hc;have ac:Ds .eql (Dn 0) (.int .u8 0)=some (.bool true):=(rfl)
   have h3:=Ym (st:=st1) E (l0++(B.take i).flatMap Eh++[0]) 255 (by
    grind) true
   rw[XK]at h3;simp (disch:=first|omega|decide) only[push_cast,↓reduceIte,CI,hx,ft,XV,UZ,U5,eu,I,ac,h3,DK,↓U,E];refine EV (i+1) (by omega) (by omega) ?_;rw[M,show l0++(B.take i).flatMap Eh++Eh 0=l0++(B.take i).flatMap Eh++[0]++[255] by simp[Eh]]
   first | rfl | (simp only[push_cast,↓F4,↓reduceIte,CI,CO,CM,CJ,Nat.reduceSub,CP,CV,CT,Int.reduceLE,CU,CN,C0,CZ,C4,C3,↓CL] <;> rfl)
  ·simp (disch:=first|omega|decide) only[push_cast,↓reduceIte,CI,hx,ft,XV,UZ,U5,I,YFr,hc,decide_false,DK,↓U,E];refine EV (i+1) (by omega) (by omega) ?_;rw[M,show l0++(B.take i).flatMap Eh++Eh c=l0++(B.take i).flatMap Eh++[c] by simp[Eh,hc]]
   first | rfl | (simp only[push_cast,↓F4,↓reduceIte,CI,CO,CM,CJ,Nat.reduceSub,CP,CV,CT,Int.reduceLE,CU,CN,C0,CZ,C4,C3,↓CL] <;> rfl)
 ·obtain rfl:i=B.length:=by omega
  rw[Bi];simp (disch:=first|omega|decide) only[push_cast];exact hQ _ rfl
theorem Yam{v:Val}{N:Nat}(E:StOK st)(I:Ei v<N)(J:l.length+(DD v).length≤4294967000)(M:l≠[])(U:st[key]?=some ⟨true,1,l.map Dn,false⟩) :
  TX N [.row key l.length 0 l.length,De v] st=some (.row key (l++DD v).length 0 (l++DD v).length,st.set key ⟨true,1,(l++DD v).map Dn,false⟩):=LY (Yj0 N) ⟨key,l,v,E,I,J,M,U,rfl,rfl⟩
theorem Yg5[Inhabited α](f:α→List UInt8)(L:List α)(h:i<L.length):((L.take i).flatMap f).length+(f (L.getD i default)).length≤(L.flatMap f).length:=by
 have e:L=L.take (i+1)++L.drop (i+1):=(Bk _ _).symm;have:=congrArg (fun l=>(l.flatMap f).length) e;simp only[List.flatMap_append,Ad,QW L h,Au,BK,Ai]at this;omega
/- the values of a list,laid behind what is there -/
theorem Yko(N:Nat)(st1:St)(key:Nat)(E:key<st1.length)(J:StOK st1)(l0:List UInt8)(ab:l0≠[])(L:List Val)(hd:Io L<N)(hl:l0.length+(L.flatMap DD).length≤4294967000)(fr:Frame)(Q:Ex→Frame→St→Prop)
  (h0:fr 0=.row key l0.length 0 l0.length) (h1:fr 46=.slc (nz 4 (L.map De)) (L.map De) false) (h6:fr 47=.int .i64 (L.length:Int)) (ac:fr 48=.int .i64 0)
  (hQ:∀ U,U 0=.row key (l0++L.flatMap DD).length 0 (l0++L.flatMap DD).length→Q (.exit 3) U (DP st1 key (l0++L.flatMap DD))) :
  @wW GG (tb [] [(202,Vs),(190,TX N)]) (.loop [0,46,47,48] ga) fr (DP st1 key l0) ⟨Q⟩:=by
 have hlen:=fi st1 key;have hB:=jU L;have hR:∀ (fr:Frame) (m:List UInt8),restrict [0,46,47,48] (DP st1 key l0).length ⟨fr,DP st1 key m⟩=⟨Gf (JU fr st1.length [] [0,46,47,48]),DP st1 key m⟩:=fun fr m=>by rw[Zz (Vk J key m) (by rw[hlen,hlen]),hlen]
 refine FQ (fun i:Nat=>[(0,.row key (l0++(L.take i).flatMap DD).length 0 (l0++(L.take i).flatMap DD).length),(46,.slc (nz 4 (L.map De)) (L.map De) false),(47,.int .i64 (L.length:Int)),(48,.int .i64 (i:Int))])
  (fun i=>DP st1 key (l0++(L.take i).flatMap DD)) (fun i=>i≤L.length) (fun i=>L.length - i) 0 ?_ (by omega) ?_
 ·rw[hR];simp (disch:=omega) only[push_cast,↓CL,h0,h1,h6,ac,QF] <;> rfl
 intro i hi;unfold ga;simp (disch:=first|omega|decide) only[push_cast,↓reduceIte,CI];refine EU (fun h2=>?_) (fun h2=>?_)
 ·have I:i<L.length:=by omega
  have V:=YD1 (DP st1 key (l0++(L.take i).flatMap DD)) L false i I;have Y:L.getD i default∈L:=by rw[Af,Ah I]; exact BC I
  have ad:=iW Y;have ae:=Yg5 DD L I;have af:=QW L I;obtain⟨x,ah⟩:∃ x,L.getD i default=x:=⟨_,rfl⟩;rw[ah]at V af ad ae
  have a8:l0++(L.take (i+1)).flatMap DD=l0++(L.take i).flatMap DD++DD x:=by
   grind
  obtain⟨k,n,B,M,hC,hD⟩:=OQ x;have aa:=jA (Vk J key (l0++(L.take i).flatMap DD)) k n B M false
  have hc:=Yam (N:=N) (v:=x) (l:=l0++(L.take i).flatMap DD) (key:=key) aa (by omega) (by rw[Ad]; omega) (by simp[ab]) (by
   rw[At (by rw[hlen]; exact E)]; exact iP E _)
  rw[BU _ _ (by rw[hlen]; exact E),show(DP st1 key (l0++(L.take i).flatMap DD)).set key ⟨true,1,(l0++(L.take i).flatMap DD++DD x).map Dn,false⟩=DP st1 key (l0++(L.take i).flatMap DD++DD x)from Yjh st1 key _ _,hD]at hc;rw[hD]at V
  have a1:∀ (fr:Frame) (m:List UInt8) (o:PI.Obj),(Nb fr [0,46,47,48]).all (fun k=>decide (k<st1.length))=true→restrict [0,46,47,48] (DP st1 key l0).length ⟨fr,DP st1 key m++[o]⟩=⟨Gf (JU fr st1.length [] [0,46,47,48]),DP st1 key m⟩:=fun fr m o h=>by
   rw[nQ (Vk J key m) (by rw[hlen,hlen]) (fun k hk=>by rw[hlen]; exact of_decide_eq_true (Ag.1 h k hk)),hlen]
  simp (disch:=first | omega | decide | (simp only[push_cast,↓F4,↓reduceIte,CI,CO,CM,CJ,Nat.reduceSub,CP,CV,CT,Int.reduceLE,CU,CN,C0,CZ,C4,C3,↓CL,E]; done)) only[push_cast,↓reduceIte,CI,↓a1,V,YCf,UT,Fc,Sd,V4,Nw,hc,DK,E];refine EV (i+1) (by omega) (by omega) ?_;grind
 ·obtain rfl:i=L.length:=by omega
  rw[Bi];simp (disch:=first|omega|decide) only[push_cast];exact hQ _ rfl
/- the whole -/
theorem ym(N:Nat)(st:St)(b:D)(l:List UInt8)(v:Val)(a0:StOK st)(hb:N7 st b l)(hN:Ei v<N+1)(hl:l.length+(DD v).length≤4294967000) :
  @wW GG (tb [] [(202,Vs),(190,TX N)]) az.code (Dc [b,De v]) st ⟨@GQ az.res ⟨fun d st'=>(d,st')=Tt st b l v⟩⟩:=by
 unfold az Tt;obtain⟨k,n,B,M,hC,hD⟩:=OQ v;have Y:=jA a0 k n B M false;have V:=Yar hb [⟨false,1,vC k n B M,false⟩];have af:=Fc st ⟨false,1,vC k n B M,false⟩
 cases v with
 |int m=>
  obtain⟨rfl,rfl,rfl,rfl⟩:=Mx ((OL m).symm.trans hD);have hc:=Yis m Y V (by omega);rw[hD,hC,iB];generalize Jo (st++[⟨false,1,vC 1 m [] [],false⟩]) b l (IU m)=r at*;obtain⟨r1,r2⟩:=r;simp (disch:=first|omega|decide) only[push_cast,↓reduceIte,CI,Qg,S4,lX,Fc,hc]
 |bytes m=>
  obtain⟨rfl,rfl,rfl,rfl⟩:=Mx ((OS m).symm.trans hD);rw[YO]at hl;simp only[An,Ad,As]at hl;rw[hD,hC,YO];obtain⟨key,st1,J,aa,ab,U,ac⟩:=vT V (m:=[48]) (by simp);have E:=TQ V (m:=[48]) (by simp) (by simp; omega) true;rw[aa]at E;simp only[Aw,Bj,lH]at E;have hm:=U (m.flatMap Eh++[0,0]);rw[show(48::(m.flatMap Eh++[0,0]):List UInt8)=[48]++(m.flatMap Eh++[0,0])from rfl,hm];have ae:=ac _ _ af rfl (l++[48]);simp (disch:=first|omega|decide) only[push_cast,↓reduceIte,CI,Qg,S4,lY,Fc,wL,eu,E,ae];refine Ykp _ st1 key J (ab Y) (l++[48]) m (by simp only[Ad,An,As]; omega) _ _ (by simp only[push_cast,↓reduceIte,CI]) (by simp only[push_cast,↓reduceIte,CI]) (by simp only[push_cast,↓reduceIte,CI]) (by simp only[push_cast,↓reduceIte]) fun a1 hf=>?_;have I:=pK (st:=st1) J (l++[48]++m.flatMap Eh) [0,0] (by simp) (by simp only[Ad,An,As]; omega) true;simp only[Aw,Bj,wT]at I;simp (disch:=first|omega|decide) only[push_cast,↓reduceIte,CI,hf,YC1,I];grind
 |list m=>
  obtain⟨rfl,rfl,rfl,rfl⟩:=Mx ((QX m).symm.trans hD);rw[OR]at hl;rw[jP]at hN;simp only[An,Ad,As]at hl;rw[hD,hC,OR];obtain⟨key,st1,J,aa,ab,U,ac⟩:=vT V (m:=[64]) (by simp);have E:=TQ V (m:=[64]) (by simp) (by simp; omega) true;rw[aa]at E;simp only[Aw,Bj,lG]at E;have hm:=U (m.flatMap DD++[0]);rw[show(64::(m.flatMap DD++[0]):List UInt8)=[64]++(m.flatMap DD++[0])from rfl,hm];have ae:=ac _ _ af rfl (l++[64]);simp (disch:=first|omega|decide) only[push_cast,↓reduceIte,CI,Qg,S4,eh,Fc,wK,wJ,eu,E,ae];refine Yko N st1 key J (ab Y) (l++[64]) (by simp) m (by omega) (by simp only[Ad,An,As]; omega) _ _ (by simp only[push_cast,↓reduceIte,CI]) (by simp only[push_cast,↓reduceIte,CI]) (by simp only[push_cast,↓reduceIte,CI]) (by simp only[push_cast,↓reduceIte]) fun a1 hf=>?_;have I:=Ym (st:=st1) J (l++[64]++m.flatMap DD) 0 (by simp only[Ad,An,As]; omega) true;simp only[wT]at I;simp (disch:=first|omega|decide) only[push_cast,↓reduceIte,CI,hf,eu,I];grind
theorem zr:∀ N:Nat,IContract Tryz.prog GG 190 (jj N)∧IContract Tryz.prog GG 190 (TX N)
 |0=>by
  have J:TblOK Tryz.prog GG (tb [] []):=DI all_nil all_nil;refine⟨Jv aH J fun ds st r E=>?_,Jv aH J fun ds st r E=>?_⟩
  ·obtain⟨v,_,h,_⟩:=Jd E;omega
  ·obtain⟨key,l,v,_,h,_⟩:=Jd E;omega
 |N+1=>by
  have J:TblOK Tryz.prog GG (tb [] [(202,Vs),(190,TX N)]):=DI all_nil (all_cons Yyr (all_cons (zr N).2 all_nil));refine⟨Jv aH J fun ds st r E=>?_,Zx aH J fun ds st r E=>?_⟩
  ·obtain⟨v,I,U,hl,rfl,rfl⟩:=Jd E;exact ym N st _ [] v I (.inl ⟨rfl,rfl⟩) U (by simpa using hl)
  ·obtain⟨key,l,v,I,U,hl,V,hk,rfl,rfl⟩:=Jd E;have M:=(Ab.1 hk).1;refine Yc2 (ym N st _ l v I (.inr ⟨key,rfl,V,hk⟩) U hl) fun d st' h=>?_;simp only[Tt,Jo,Dx]at h ⊢;obtain⟨rfl,rfl⟩:=h;refine⟨?_,?_⟩
   ·show H9 st.length (.row key _ 0 _)=_
    simp only[H9,HD,GW,HL,M,if_true]
   ·rw[BU _ _ M];exact xA (I.set _ _ fun e=>by cases e) (by rw[BS])
theorem Yan{v:Val}{N:Nat}(E:StOK st)(I:Ei v<N)(J:(DD v).length≤4294967000):jj N [.slc 0 [] true,De v] st=some (Tt st (.slc 0 [] true) [] v):=LY (Yj1 N) ⟨v,E,I,J,rfl,rfl⟩
def XM(b:List UInt8):D:=.slc (nz 1 (b.map Dn)) (b.map Dn) false
def Lk(v:Val):List UInt8:=if(DD v).length≤65536 then DD v else []
def RO(v:Val):Int:=if(DD v).length≤65536 then 0 else 2
noncomputable def kn:List D→Option D:=Dl (α:=Val) (fun v=>[De v]) (fun v=>Ei v≤16∧(DD v).length≤4294967000) (fun v=>.tup [XM (Lk v),.int .i64 (RO v)])
theorem ySx(v:Val)(h:Ei v≤16∧(DD v).length≤4294967000):kn [De v]=some (.tup [XM (Lk v),.int .i64 (RO v)]):=
 D5 (fun a b h=>by simp only[Aa,and_true,T8]at h; rw[h]) v h
theorem Yqi:Contract Tryz.prog GG 167 kn:=by
 refine Ed (T:=tb [(189,dD 17)] [(190,jj 17)]) yB8 (DI (all_cons (yO 17) all_nil) (all_cons (zr 17).1 all_nil)) ?_;rintro v ⟨hd,hl⟩;unfold nL Lk RO;obtain⟨k,n,B,M,hC,U⟩:=OQ v;have V:=uE 17 v ⟨by omega,hl⟩;have I:=Yan (N:=17) (st:=[⟨false,1,vC k n B M,false⟩]) (v:=v) (by have:=jA StOK.nil k n B M false; simpa using this) (by omega) hl
 have Y:DD v≠[]:=by
  intro e; have:=qS v; rw[e]at this; simp at this
 have hz:nz 1 ((DD v).map Dn)=1:=by
  cases he:DD v with
  |nil=>exact absurd he Y
  |cons a r=>rfl
 simp only[Tt,Jo,Ak,Ao,An,As]at I;rw[U]at V I;rw[U];simp (disch:=first|omega|decide) only[push_cast,↓reduceIte,CI,Qg,Nw,ef,bl,V];have aa:¬ ((16:Int)<(Ei v:Int)):=by omega
 simp (disch:=first|omega|decide) only[push_cast,↓reduceIte,CI,CJ,aa,decide_false,Nw,I]
 by_cases E:(DD v).length≤65536
 ·rw[if_pos E,if_pos E];have J:¬ ((65536:Int)<((DD v).length:Int)):=by omega
  simp (disch:=first|omega|decide) only[push_cast,↓reduceIte,CI,J,decide_false,XM]
 ·rw[if_neg E,if_neg E];have J:((65536:Int)<((DD v).length:Int)):=by omega
  simp (disch:=first|omega|decide) only[push_cast,↓reduceIte,CI,J,decide_true,XM]
def Dq:Dig:=Si [112,97,100] []
def G6(a b:Dig):Dig:=Si [110,111,100,101] (a.bs++b.bs)
def EJ(l:List Dig)(k:Int)(pad:Dig):Dig:=if k<(l.length:Int)then l.getD k.toNat default else pad
def Gl(pad:Dig):List Dig→List Dig
 |[]=>[]
 |[a]=>[G6 a pad]
 |a::b::r=>G6 a b::Gl pad r
def EF:Nat→Dig
 |0=>Dq
 |n+1=>G6 (EF n) (EF n)
def EN(l:List Dig):Nat→List Dig
 |0=>l
 |n+1=>Gl (EF n) (EN l n)
def D0(l:List Dig)(level:Nat)(k:Int):Dig:=EJ (EN l level) k (EF level)
def GK(n:Nat):Nat:=if n=0 then 0 else n.log2+1
def DN(n:Int):Int:=if n<0∨65536<n then -1 else(GK ((max n 1).toNat - 1):Nat)
theorem Q4(E:Dig):∀ l:List Dig,(Gl E l).length=(l.length+1) / 2
 |[]=>rfl
 |[a]=>by simp[Gl]
 |a::b::r=>by
  simp only[Gl,An,Q4 E r];omega
theorem SE(h:n<2 ^ k):GK n≤k:=by
 unfold GK
 split
 ·omega
 ·rename_i E;have:n.log2<k:=(Nat.log2_lt E).2 h;omega
theorem fh:n<2 ^ GK n:=by
 unfold GK
 split
 ·omega
 ·rename_i E;exact(Nat.log2_lt E).1 (Cj _)
theorem sy(h:2 ^ k≤n):k+1≤GK n:=by
 have E:n≠0:=by
  grind
 have:=(Nat.le_log2 E).2 h;unfold GK;grind
theorem Q7(n k:Nat)(h:2 ^ k≤n):GK n=k+GK (n / 2 ^ k):=by
 have I:=fh (n:=n / 2 ^ k)
 have M:GK n≤k+GK (n / 2 ^ k):=by
  apply SE;rw[Nat.pow_add];exact(Nat.div_lt_iff_lt_mul (Nat.two_pow_pos k)).1 I |> fun x=>by rwa [B2]
 have U:1≤n / 2 ^ k:=(Nat.one_le_div_iff (Nat.two_pow_pos k)).2 h
 have V:k+GK (n / 2 ^ k)≤GK n:=by
  obtain⟨j,hj⟩:∃ j,GK (n / 2 ^ k)=j+1:=by
   have:=sy (n:=n / 2 ^ k) (k:=0) (by omega);exact⟨GK (n / 2 ^ k) - 1,by omega⟩
  have J:2 ^ j≤n / 2 ^ k:=by
   rcases A8 (n / 2 ^ k) (2 ^ j)with E | E
   ·have:=SE E;omega
   ·exact E
  have E:2 ^ (k+j)≤n:=by
   rw[Nat.pow_add]
   calc 2 ^ k*2 ^ j≤2 ^ k*(n / 2 ^ k):=Nat.mul_le_mul_left _ J
    _≤n:=Nat.mul_div_le n (2 ^ k)
  have:=sy E;omega
 omega
def mB:Int×Dig:=(0,Dt)
def F8(k:Int):Int:=if k % 2=0 then k+1 else k - 1
def Ke(i:Nat)(x:Dig):List Dig→Dig
 |[]=>x
 |q::r=>Ke (i / 2) (if i % 2=0 then G6 x q else G6 q x) r
def Iv(c:Int×Dig)(i:Int)(leaf:Dig)(p:List Dig):Bool:=
 decide (0≤DN c.1∧0≤i∧i<2 ^ (DN c.1).toNat∧(p.length:Int)=DN c.1∧Ke i.toNat leaf p=c.2)
def Hj(l:List Dig)(i:Int):Nat→List Dig
 |0=>[]
 |n+1=>Hj l i n++[D0 l n (F8 (i / 2 ^ n))]
theorem L8{n:Int}(E:0≤n)(I:n≤65536):DN n=(GK ((max n 1).toNat - 1):Nat)∧0≤DN n∧DN n≤16:=by
 have e:DN n=(GK ((max n 1).toNat - 1):Nat):=by unfold DN; rw[if_neg (by omega)]
 have:GK ((max n 1).toNat - 1)≤16:=SE (by omega);omega
theorem Uy{n:Int}(h:n<0∨65536<n):DN n=-1:=by unfold DN; rw[if_pos h]
theorem jR{n:Int}(E:0≤n)(I:n≤65536):n≤2 ^ (DN n).toNat:=by
 obtain⟨e,_,_⟩:=L8 E I;rw[e,AO];have J:=fh (n:=(max n 1).toNat - 1);grind
theorem TT{a b:Nat}(h:a≤b):(2:Int) ^ a≤2 ^ b:=by
 have E:(2:Nat) ^ a≤2 ^ b:=Cn (by decide) h;grind
theorem TU(a:Nat):(1:Int)≤2 ^ a:=TT (a:=0) (by omega)
theorem ic(E:Dig):∀ (row:List Dig) (j:Nat),2*j<row.length→(Gl E row).getD j default=G6 (row.getD (2*j) default) (EJ row (2*(j:Int)+1) E)
 |[],j,h=>by simp at h
 |[a],j,h=>by
  obtain rfl:j=0:=by simp at h; omega
  rfl
 |a::b::r,0,_=>by
  have:EJ (a::b::r) (2*((0:Nat):Int)+1) E=b:=by
   unfold EJ;grind
  rw[this];rfl
 |a::b::r,j+1,h=>by
  have I:=ic E r j (by simp at h; omega)
  have J:(a::b::r).getD (2*(j+1)) default=r.getD (2*j) default:=by
   rfl
  have M:EJ (a::b::r) (2*((j+1:Nat):Int)+1) E=EJ r (2*(j:Int)+1) E:=by
   unfold EJ;grind
  rw[J,M,← I];rfl
theorem dJ(E:Dig)(row:List Dig)(j:Nat)(h:2*j<row.length):(Gl E row).take (j+1)=(Gl E row).take j++[G6 (row.getD (2*j) default) (EJ row (2*(j:Int)+1) E)]:=by
 rw[uk _ j (by rw[Q4]; omega),ic E row j h]
theorem fy(l:List Dig):∀ n,(EN l n).length≤l.length
 |0=>Ax _
 |n+1=>by
  rw[EN,Q4];have:=fy l n;omega
theorem Yv4:([0,1,2,2,3,3,3,3,4,4,4,4,4,4,4,4,5,5,5,5,5,5,5,5,5,5,5,5,5,5,5,5,6,6,6,6,6,6,6,6,6,6,6,6,6,6,6,6,6,6,6,6,6,6,6,6,6,6,6,6,6,6,6,6,7,7,7,7,7,7,7,7,7,7,7,7,7,7,7,7,7,7,7,7,7,7,7,7,7,7,7,7,7,7,7,7,7,7,7,7,7,7,7,7,7,7,7,7,7,7,7,7,7,7,7,7,7,7,7,7,7,7,7,7,7,7,7,7,8,8,8,8,8,8,8,8,8,8,8,8,8,8,8,8,8,8,8,8,8,8,8,8,8,8,8,8,8,8,8,8,8,8,8,8,8,8,8,8,8,8,8,8,8,8,8,8,8,8,8,8,8,8,8,8,8,8,8,8,8,8,8,8,8,8,8,8,8,8,8,8,8,8,8,8,8,8,8,8,8,8,8,8,8,8,8,8,8,8,8,8,8,8,8,8,8,8,8,8,8,8,8,8,8,8,8,8,8,8,8,8,8,8,8,8,8,8,8,8,8,8,8,8,8,8,8,8]:List UInt8)=(CS 256).map (fun j=>CW (GK j)):=by kernel_rfl
theorem PW(j:Nat)(h:j<256):((((CS 256).map (fun j=>CW (GK j))).getD j default).toNat:Int)=GK j:=by
 have E:GK j≤8:=SE (k:=8) (by omega);simp[Af,h];omega
theorem yRy:((CS 256).map (fun j=>CW (GK j))).length=256:=by simp
theorem PV(b:UInt8):Kz (.str ((CS 256).map (fun j=>CW (GK j)))) (Dn b)=some (Dn (((CS 256).map (fun j=>CW (GK j))).getD b.toNat default)):=Yop _ b (by rw[yRy]; exact b.toNat_lt)
theorem PX(m:Nat)(h:m<256):(CW m).toNat=m:=by simp; omega
noncomputable def kr:List D→Option D:=Dl (α:=Int) (fun a=>[.int .u64 a]) (fun a=>0≤a∧a<18446744073709551616) (fun a=>.int .i64 (GK a.toNat:Int))
theorem ySv(x:Int)(h:0≤x∧x<18446744073709551616):kr [.int .u64 x]=some (.int .i64 (GK x.toNat:Int)):=
 D5 (fun a b h=>by simp only[Aa,D.int.injEq,true_and,and_true]at h; simp[h]) (x) h
theorem Ykm(x:Int)(h:0≤x∧x<18446744073709551616):@wW GG (tb [] []) aj.code (Dc [.int .u64 x]) [] ⟨Dp aj.res (.int .i64 (GK x.toNat:Int))⟩:=by
 obtain⟨h0,h1⟩:=h;obtain⟨n,rfl⟩:=A4 h0;rw[AO];have d1:=Q7 n 32;have d2:=Q7 n 16;have d3:=Q7 n 8;have d4:=Q7 (n / 2 ^ 32) 16;have d5:=Q7 (n / 2 ^ 32) 8;have d6:=Q7 (n / 2 ^ 32 / 2 ^ 16) 8;have d7:=Q7 (n / 2 ^ 16) 8;have I:∀ y,y<256→GK y≤8:=fun y hy=>SE (k:=8) (by omega);unfold aj;rw[Yv4];simp only[push_cast,↓reduceIte,CI];refine EU (fun h2=>?_) (fun h2=>?_)
 ·simp (disch:=omega) only[push_cast,↓reduceIte,CI,CU,C0,Oc]
  ·refine EU (fun U=>?_) (fun U=>?_)
   ·simp (disch:=omega) only[push_cast,↓reduceIte,CI,CU,C0,CZ,Oc,DK]
    ·refine EU (fun J=>?_) (fun J=>?_)
     ·simp (disch:=omega) only[push_cast,↓reduceIte,CI,CU,C0,CZ,Oc,DK]
      ·have E:((n:Int) / 4294967296 / 65536 / 256).toNat=n / 2 ^ 32 / 2 ^ 16 / 2 ^ 8:=by omega
       have hb:=I (n / 2 ^ 32 / 2 ^ 16 / 2 ^ 8) (by omega);have M:=d1 (by omega);have V:=d4 (by omega);have ac:=d6 (by omega);simp (disch:=omega) only[push_cast,↓reduceIte,CI,My,PV,PO,PW,PX,E,DK];refine congrArg (fun z=>some (D.int .i64 z)) ?_;omega
     ·simp (disch:=omega) only[push_cast,↓reduceIte,CI]
      ·have E:((n:Int) / 4294967296 / 65536).toNat=n / 2 ^ 32 / 2 ^ 16:=by omega
       have hb:=I (n / 2 ^ 32 / 2 ^ 16) (by omega);have M:=d1 (by omega);have V:=d4 (by omega);simp (disch:=omega) only[push_cast,↓reduceIte,CI,My,PV,PO,PW,PX,E,DK];refine congrArg (fun z=>some (D.int .i64 z)) ?_;omega
   ·simp (disch:=omega) only[push_cast,↓reduceIte,CI]
    ·refine EU (fun J=>?_) (fun J=>?_)
     ·simp (disch:=omega) only[push_cast,↓reduceIte,CI,CU,C0,CZ,Oc,DK]
      ·have E:((n:Int) / 4294967296 / 256).toNat=n / 2 ^ 32 / 2 ^ 8:=by omega
       have hb:=I (n / 2 ^ 32 / 2 ^ 8) (by omega);have M:=d1 (by omega);have ad:=d5 (by omega);simp (disch:=omega) only[push_cast,↓reduceIte,CI,My,PV,PO,PW,PX,E,DK];refine congrArg (fun z=>some (D.int .i64 z)) ?_;omega
     ·simp (disch:=omega) only[push_cast,↓reduceIte,CI]
      ·have E:((n:Int) / 4294967296).toNat=n / 2 ^ 32:=by omega
       have hb:=I (n / 2 ^ 32) (by omega);have M:=d1 (by omega);simp (disch:=omega) only[push_cast,↓reduceIte,CI,My,PV,PO,PW,PX,E,DK];refine congrArg (fun z=>some (D.int .i64 z)) ?_;omega
 ·simp (disch:=omega) only[push_cast,↓reduceIte,CI]
  ·refine EU (fun U=>?_) (fun U=>?_)
   ·simp (disch:=omega) only[push_cast,↓reduceIte,CI,CU,C0,CZ,Oc,DK]
    ·refine EU (fun J=>?_) (fun J=>?_)
     ·simp (disch:=omega) only[push_cast,↓reduceIte,CI,CU,C0,CZ,Oc,DK]
      ·have E:((n:Int) / 65536 / 256).toNat=n / 2 ^ 16 / 2 ^ 8:=by omega
       have hb:=I (n / 2 ^ 16 / 2 ^ 8) (by omega);have Y:=d2 (by omega);have ae:=d7 (by omega);simp (disch:=omega) only[push_cast,↓reduceIte,CI,My,PV,PO,PW,PX,E,DK];refine congrArg (fun z=>some (D.int .i64 z)) ?_;omega
     ·simp (disch:=omega) only[push_cast,↓reduceIte,CI]
      ·have E:((n:Int) / 65536).toNat=n / 2 ^ 16:=by omega
       have hb:=I (n / 2 ^ 16) (by omega);have Y:=d2 (by omega);simp (disch:=omega) only[push_cast,↓reduceIte,CI,My,PV,PO,PW,PX,E,DK];refine congrArg (fun z=>some (D.int .i64 z)) ?_;omega
   ·simp (disch:=omega) only[push_cast,↓reduceIte,CI]
    ·refine EU (fun J=>?_) (fun J=>?_)
     ·simp (disch:=omega) only[push_cast,↓reduceIte,CI,CU,C0,CZ,Oc,DK]
      ·have E:((n:Int) / 256).toNat=n / 2 ^ 8:=by omega
       have hb:=I (n / 2 ^ 8) (by omega);have af:=d3 (by omega);simp (disch:=omega) only[push_cast,↓reduceIte,CI,My,PV,PO,PW,PX,E,DK];refine congrArg (fun z=>some (D.int .i64 z)) ?_;omega
     ·simp (disch:=omega) only[push_cast,↓reduceIte,CI]
      ·have E:((n:Int)).toNat=n:=by omega
       have hb:=I (n) (by omega);simp (disch:=omega) only[push_cast,↓reduceIte,CI,My,PV,PO,PW,PX,E,DK];refine congrArg (fun z=>some (D.int .i64 z)) ?_;omega
theorem Yqg:Contract Tryz.prog GG 129 kr:=
 Ed yvz (DI all_nil all_nil) (fun a h=>Ykm a h)
noncomputable def S9:List D→Option D:=Dl (α:=List Dig×Int×Dig) (fun a=>[.slc (nz 32 (a.1.map C9)) (a.1.map C9) false,.int .i64 a.2.1,C9 a.2.2]) (fun a=>0≤a.2.1) (fun a=>C9 (EJ a.1 a.2.1 a.2.2))
theorem PB(l:List Dig)(k:Int)(E:Dig)(h:0≤k):S9 [.slc (nz 32 (l.map C9)) (l.map C9) false,.int .i64 k,C9 E]=some (C9 (EJ l k E)):=
 D5 (fun⟨a0,a1,I⟩ ⟨b0,b1,J⟩ h=>by simp only[Aa,D.slc.injEq,D.int.injEq,Kp,La,true_and,and_true]at h; simp[h]) (l,k,E) h
theorem kI(l:List Dig)(k:Int)(I:Dig)(h:0≤k):@wW GG (tb [] []) Y2.code (Dc [.slc (nz 32 (l.map C9)) (l.map C9) false,.int .i64 k,C9 I]) [] ⟨Dp Y2.res (C9 (EJ l k I))⟩:=by
 unfold Y2;simp only[push_cast,↓reduceIte,CI];refine EU (fun E=>?_) (fun E=>?_)
 ·simp only[push_cast,↓reduceIte,CI,Kj _ _ _ _ _ _ _ h E,EJ,E]
 ·simp only[push_cast,↓reduceIte,CI,EJ,E]
theorem Pj:Contract Tryz.prog GG 93 S9:=
 Ed yL3 (DI all_nil all_nil) (fun a h=>kI a.1 a.2.1 a.2.2 h)
noncomputable def NU:List D→Option D:=Dl (α:=Unit) (fun _=>[]) (fun _=>True) (fun _=>C9 Dq)
theorem QZ:NU []=some (C9 Dq):=
 D5 (fun _ _ _=>rfl) () trivial
theorem YAo:@wW GG (tb [(62,SL)] []) Zv.code (Dc []) [] ⟨Dp Zv.res (C9 Dq)⟩:=by
 unfold Zv;have c:SL [.str [112,97,100],.slc 0 [] false]=some (C9 Dq):=fm [112,97,100] [] (by decide);simp (disch:=omega) only[push_cast,↓reduceIte,CI,c]
theorem Rt:Contract Tryz.prog GG 20 NU:=
 Ed yIe (DI (all_cons iS all_nil) all_nil) (fun a h=>YAo )
noncomputable def Yb3:List D→Option D:=Dl (α:=Unit) (fun _=>[]) (fun _=>True) (fun _=>C9 Dq)
theorem Yik:Yb3 []=some (C9 Dq):=
 D5 (fun _ _ _=>rfl) () trivial
noncomputable def Q2:List D→Option D:=Dl (α:=Dig×Dig) (fun a=>[C9 a.1,C9 a.2]) (fun a=>True) (fun a=>C9 (G6 a.1 a.2))
theorem Ju(a:Dig)(b:Dig):Q2 [C9 a,C9 b]=some (C9 (G6 a b)):=
 D5 (fun⟨a0,a1⟩ ⟨b0,b1⟩ h=>by simp only[Aa,La,and_true]at h; simp[h]) (a,b) trivial
theorem Ya4(a:Dig)(b:Dig):@wW GG (tb [(62,SL)] []) Z9.code (Dc [C9 a,C9 b]) [] ⟨Dp Z9.res (C9 (G6 a b))⟩:=by
 unfold Z9;have ha:=a.len;have hb:=b.len;have hl:(a.bs++b.bs).length=64:=by rw[Ad,ha,hb]
 have c:=fm [110,111,100,101] (a.bs++b.bs) (by rw[hl]; decide);simp (disch:=omega) only[push_cast,↓reduceIte,CI,CJ,Ynf,vE,c];rfl
theorem Uf:Contract Tryz.prog GG 95 Q2:=
 Ed yz8 (DI (all_cons iS all_nil) all_nil) (fun a h=>Ya4 a.1 a.2)
noncomputable def vG:List D→Option D:=Dl (α:=Dig×Dig) (fun a=>[C9 a.1,C9 a.2]) (fun a=>True) (fun a=>C9 (G6 a.1 a.2))
theorem yO5(a:Dig)(b:Dig):vG [C9 a,C9 b]=some (C9 (G6 a b)):=
 D5 (fun⟨a0,a1⟩ ⟨b0,b1⟩ h=>by simp only[Aa,La,and_true]at h; simp[h]) (a,b) trivial
noncomputable def gR:List D→Option D:=Dl (α:=Int) (fun a=>[.int .u64 a]) (fun a=>0≤a∧a<18446744073709551616) (fun a=>.int .i64 (GK a.toNat:Int))
theorem Yir(x:Int)(h:0≤x∧x<18446744073709551616):gR [.int .u64 x]=some (.int .i64 (GK x.toNat:Int)):=
 D5 (fun a b h=>by simp only[Aa,D.int.injEq,true_and,and_true]at h; simp[h]) (x) h
theorem YAw(x:Int)(h:0≤x∧x<18446744073709551616):@wW GG (tb [(129,kr)] []) Z7.code (Dc [.int .u64 x]) [] ⟨Dp Z7.res (.int .i64 (GK x.toNat:Int))⟩:=by
 unfold Z7;simp (disch:=omega) only[push_cast,↓reduceIte,CI,ySv]
theorem YFm:Contract Tryz.prog GG 75 gR:=
 Ed yAb (DI (all_cons Yqg all_nil) all_nil) (fun a h=>YAw a h)
noncomputable def Ma:List D→Option D:=Dl (α:=Int) (fun a=>[.int .i64 a]) (fun a=>True) (fun a=>.int .i64 (DN a))
theorem M4(n:Int):Ma [.int .i64 n]=some (.int .i64 (DN n)):=
 D5 (fun a b h=>by simp only[Aa,D.int.injEq,true_and,and_true]at h; simp[h]) (n) trivial
theorem Yki(n:Int):@wW GG (tb [(75,gR)] []) ZT.code (Dc [.int .i64 n]) [] ⟨Dp ZT.res (.int .i64 (DN n))⟩:=by
 unfold ZT;simp only[push_cast,↓reduceIte,CI,CN];refine EU (fun E=>?_) (fun E=>?_)
 ·simp only[push_cast,↓reduceIte,CI,CN,E,Uy (.inl E)]
 ·simp only[push_cast,↓reduceIte,CI,CN,E];refine EU (fun I=>?_) (fun I=>?_)
  ·simp only[push_cast,↓reduceIte,CN,I,Uy (.inr I)]
  ·have e:(max n 1 - 1).toNat=(max n 1).toNat - 1:=by omega
   have J:=(L8 (n:=n) (by omega) (by omega)).1;simp (disch:=omega) only[push_cast,↓reduceIte,CI,I,Fq,cu,Yir,J,e]
theorem QQ:Contract Tryz.prog GG 25 Ma:=
 Ed yB4 (DI (all_cons YFm all_nil) all_nil) (fun a h=>Yki a)
structure Ins where
 op:Int
 n:Int
 m:Int
 deriving DecidableEq,Inhabited
structure Sta where
 pc:Int
 fuel:Int
 status:Int
 clause:Int
 stack:List Int
 deriving DecidableEq,Inhabited
structure Opn where
 pc:Int
 fuel:Int
 status:Int
 clause:Int
 top:List Int
 depth:Int
 rest:Dig
 deriving DecidableEq
def DM(x:Ins):List D:=[.int .i64 x.op,.int .i64 x.n,.int .i64 x.m]
def Da(x:Ins):D:=.agg (DM x)
def Ev(l:List Int):D:=.slc (nz 1 (l.map nI)) (l.map nI) false
def DW(s:Sta):List D:=[.int .i64 s.pc,.int .i64 s.fuel,.int .i64 s.status,.int .i64 s.clause,Ev s.stack]
def DQ(s:Sta):D:=.agg (DW s)
def E5(o:Opn):List D:=.int .i64 o.pc::.int .i64 o.fuel::.int .i64 o.status::.int .i64 o.clause::Ev o.top::.int .i64 o.depth::C8 o.rest
def Ee(o:Opn):D:=.agg (E5 o)
def DY(v:Int×List Int):List D:=.int .i64 v.1::v.2.map nI
def ED(v:Int×List Int):D:=.agg (DY v)
theorem SG{a b:List Int}:Ev a=Ev b↔a=b:=by
 refine⟨fun h=>?_,fun h=>by rw[h]⟩;simp only[Ev,D.slc.injEq,and_true]at h;exact Ss.1 h.2
theorem Sr{a b:Ins}:Da a=Da b↔a=b:=by
 obtain⟨a1,E,I⟩:=a; obtain⟨b1,J,M⟩:=b;simp[Da,DM]
theorem Ko{a b:List Ins}:a.map Da=b.map Da↔a=b:=⟨PJ fun _ _=>Sr.1,fun h=>by rw[h]⟩
theorem Sx{a b:Sta}:DQ a=DQ b↔a=b:=by
 obtain⟨a1,E,I,J,M⟩:=a; obtain⟨b1,U,V,Y,b5⟩:=b;simp[DQ,DW,SG]
theorem Sz{a b:Opn}:Ee a=Ee b↔a=b:=by
 obtain⟨a1,E,I,J,M,U,V⟩:=a; obtain⟨b1,Y,b3,b4,b5,b6,b7⟩:=b;simp[Ee,E5,SG,L3]
theorem J0{a b:Int×List Int}:ED a=ED b↔a=b:=by
 obtain⟨a1,E⟩:=a; obtain⟨b1,I⟩:=b;simp[ED,DY,Ss]
def Qi(t:List UInt8)(v:Val):Dig:=Si t (Lk v)
def eK:List UInt8:=[112,114,111,103,114,97,109]
def O4:List UInt8:=[105,110,112,117,116,115]
def O2:List UInt8:=[115,116,97,99,107]
def O3:List UInt8:=[115,116,97,116,101]
def YCe(d:Dig)(x:Ins):Dig:=Qi eK (.list [.int x.op,.int x.n,.int x.m,.bytes d.bs])
def LN(c:List Ins):Dig:=c.foldl YCe Dt
def Lj(v:Int×List Int):Dig:=Qi O4 (.list [.int v.1,.list (v.2.map .int)])
def YCk(d:Dig)(n:Int):Dig:=Qi O2 (.list [.int n,.bytes d.bs])
def HW(d:Dig)(l:List Int):Dig:=l.foldl YCk d
def LW(c:List Ins)(v:Int×List Int)(o:Opn):Dig:=Qi O3 (.list [.bytes (LN c).bs,.bytes (Lj v).bs,.int o.pc,.int o.fuel,.int o.status,.int o.clause,.int (o.depth+o.top.length),.bytes (HW o.rest o.top).bs])
def Ls(s:Sta)(n:Int):Nat:=s.stack.length - (min (max n 0) s.stack.length).toNat
def Fp(s:Sta)(n:Int):Opn:=⟨s.pc,s.fuel,s.status,s.clause,s.stack.drop (Ls s n),Ls s n,HW Dt (s.stack.take (Ls s n))⟩
def DT(c:List Ins)(v:Int×List Int)(s:Sta):Dig:=LW c v (Fp s s.stack.length)
def HF(c:List Ins)(v:Int×List Int)(o:Opn):Dig:=if o.depth<0∨64<o.depth then Dt else LW c v o
theorem Yf3(n:Int):(IU n).length≤9:=by
 unfold IU
 split
 ·have:=SC 8 (Er n);simp only[An,fP]; omega
 ·have:=SC 8 (MJ (Er n));simp only[An,fP]; omega
theorem qY:∀ b:List UInt8,(b.flatMap Eh).length≤2*b.length
 |[]=>by simp
 |c::b=>by
  have:=qY b;have E:(Eh c).length≤2:=by unfold Eh; split <;> simp
  simp only[Au,Ad,An];omega
theorem MY(n:Int):(DD (.int n)).length≤9:=by rw[iB]; exact Yf3 n
theorem TL(d:Dig):(DD (.bytes d.bs)).length≤67:=by
 have:=qY d.bs;rw[d.len]at this;rw[YO];simp only[An,Ad,As];omega
theorem sQ:∀ l:List Int,((l.map Val.int).flatMap DD).length≤9*l.length
 |[]=>by simp
 |n::l=>by
  have:=sQ l;have:=MY n;simp only[Aw,Au,Ad,An];omega
theorem yZj(st:St)(key:Nat):DC st (.bsl key 0 32 1 false)=(Xr st[key]?).map fun p=>.slc (nz 1 p.2) p.2 false:=by
 rw[← vN];simp only[DC,Ib,Hh]
 cases Lv st key 0 32 1 false with
 |none=>rfl
 |some els=>
  dsimp only
  split <;> rfl
theorem Vn(st:St)(v:Val):DV st (De v)=some (De v):=by
 obtain⟨k,n,B,M,I,E⟩:=OQ v;rw[E,ef]
theorem T5(v:Val):keys (De v)=[]:=by
 obtain⟨k,n,B,M,I,E⟩:=OQ v;rw[E,bl]
theorem Yek(v:Val):(De v).noRef=false:=by
 obtain⟨k,n,B,M,I,E⟩:=OQ v;rw[E]; rfl
theorem Yh3(v:Val):(De v).cells.length=4:=by
 obtain⟨k,n,B,M,I,E⟩:=OQ v;rw[E]; rfl
theorem dk(l:List Val)(h:l.length≤1000):Fi 4 (l.map De)=some (.slc 4 (l.map De) true):=by
 have E:((l.map De).all fun e=>e.cells.length == 4)=true:=by
  rw[Ag];intro e he;obtain⟨v,_,rfl⟩:=AU.1 he;simp[Yh3]
 have I:decide ((l.map De).length*4≤16777216)=true:=decide_eq_true (by rw[Bc]; omega);simp only[Fi,E,I];rfl
theorem LB:DG (.agg [.int .i64 0,.int .i64 0,.int .i64 0])=some [.int .i64 0,.int .i64 0,.int .i64 0]:=(rfl)
theorem Fu(x:Ins):DG (Da x)=some (DM x):=(rfl)
theorem NQ(x:Ins):DR (some ⟨false,1,[.int .i64 0,.int .i64 0,.int .i64 0],false⟩) 3 0 (Da x)=some ⟨false,1,DM x,false⟩:=(rfl)
theorem Gw(lent:Bool)(x:Ins):DA (some ⟨false,1,DM x,lent⟩) 1 false 0=some (.int .i64 x.op):=(rfl)
theorem LA(lent:Bool)(x:Ins):DA (some ⟨false,1,DM x,lent⟩) 1 false 1=some (.int .i64 x.n):=(rfl)
theorem gJ(lent:Bool)(x:Ins):DA (some ⟨false,1,DM x,lent⟩) 1 false 2=some (.int .i64 x.m):=(rfl)
theorem Ou(lent:Bool)(x:Ins):DA (some ⟨false,1,DM x,lent⟩) 3 true 0=some (Da x):=(rfl)
theorem KV(st:St)(x:Ins):Fy st 3 true (.eptr (Da x) 0)=some (Da x):=(rfl)
theorem Yw2(st:St)(x:Ins):DV st (Da x)=some (Da x):=(rfl)
theorem Vm(st:St)(c:List Ins)(t:Bool)(i:Nat)(h:i<c.length):GM st 3 (.slc (nz 3 (c.map Da)) (c.map Da) t) (.int .i64 (i:Int))=some (.eptr (Da (c.getD i default)) 0):=by
 have:=Kj st 3 Da c t .i64 (i:Int) (by omega) (by omega);simpa using this
theorem aZ(st:St)(c:List Int)(t:Bool)(i:Nat)(h:i<c.length):GM st 1 (.slc (nz 1 (c.map nI)) (c.map nI) t) (.int .i64 (i:Int))=some (.eptr (nI (c.getD i default)) 0):=by
 have:=Kj st 1 nI c t .i64 (i:Int) (by omega) (by omega);simpa using this
theorem bq(st:St)(n:Int):Fy st 1 false (.eptr (nI n) 0)=some (.int .i64 n):=(rfl)
theorem Ypb(n:Int):DL [.int .i64 0,.int .i64 0,.slc 0 [] true,.slc 0 [] true] [(0,1,.int .i64 1),(1,1,.int .i64 n)]=some [.int .i64 1,.int .i64 n,.slc 0 [] true,.slc 0 [] true]:=(rfl)
theorem Ypd(k:Nat):DL [.int .i64 0,.int .i64 0,.slc 0 [] true,.slc 0 [] true] [(0,1,.int .i64 2),(2,1,.bsl k 0 32 1 false)]=some [.int .i64 2,.int .i64 0,.bsl k 0 32 1 false,.slc 0 [] true]:=(rfl)
theorem Ypc(sz:Nat)(l:List D)(t:Bool):DL [.int .i64 0,.int .i64 0,.slc 0 [] true,.slc 0 [] true] [(0,1,.int .i64 3),(3,1,.slc sz l t)]=some [.int .i64 3,.int .i64 0,.slc 0 [] true,.slc sz l t]:=(rfl)
theorem mX(a b c d:D):DR (some ⟨false,1,[.int .i64 0,.int .i64 0,.slc 0 [] true,.slc 0 [] true],false⟩) 4 0 (.agg [a,b,c,d])=if [a,b,c,d].all D.isCell then some ⟨false,1,[a,b,c,d],false⟩else none:=by
 simp only[DR];rfl
theorem RL(lent:Bool)(a b c d:D):DA (some ⟨false,1,[a,b,c,d],lent⟩) 4 true 0=some (.agg [a,b,c,d]):=(rfl)
theorem Ypw(k o n s:Nat)(ag:Bool):(D.bsl k o n s ag).isCell=true:=(rfl)
noncomputable def Sh:List D→Option D:=Dl (α:=Int) (fun a=>[.int .i64 a]) (fun a=>True) (fun a=>De (.int a))
theorem Uh(n:Int):Sh [.int .i64 n]=some (De (.int n)):=
 D5 (fun a b h=>by simp only[Aa,D.int.injEq,true_and,and_true]at h; simp[h]) (n) trivial
theorem Yz9(n:Int):@wW GG (tb [] []) ZG.code (Dc [.int .i64 n]) [] ⟨Dp ZG.res (De (.int n))⟩:=by
 unfold ZG;rw[OL];simp (disch:=first|omega|decide) only[push_cast,↓reduceIte,CI,UT,Ypb,mX,RL];rfl
theorem aW:Contract Tryz.prog GG 145 Sh:=
 Ed yH9 (DI all_nil all_nil) (fun a h=>Yz9 a)
noncomputable def Vu:List D→Option D:=Dl (α:=Dig) (fun a=>[C9 a]) (fun a=>True) (fun a=>De (.bytes a.bs))
theorem jL(d:Dig):Vu [C9 d]=some (De (.bytes d.bs)):=
 D5 (fun a b h=>by simp only[Aa,La,and_true]at h; simp[h]) (d) trivial
theorem YAf(d:Dig):@wW GG (tb [] []) Zb.code (Dc [C9 d]) [] ⟨Dp Zb.res (De (.bytes d.bs))⟩:=by
 unfold Zb;rw[OS];simp (disch:=first|omega|decide) only[push_cast,↓reduceIte,CI,UT,vE,Ypd,mX,RL,Ypw,yZj];rfl
theorem my:Contract Tryz.prog GG 142 Vu:=
 Ed yLu (DI all_nil all_nil) (fun a h=>YAf a)
noncomputable def OF:List D→Option D:=Dl (α:=List Val) (fun a=>[.slc (nz 4 (a.map De)) (a.map De) false]) (fun a=>True) (fun a=>De (.list a))
theorem Yq(l:List Val):OF [.slc (nz 4 (l.map De)) (l.map De) false]=some (De (.list l)):=
 D5 (fun a b h=>by simp only[Aa,D.slc.injEq,and_true,Ykv]at h; simp[h]) (l) trivial
theorem YAa(l:List Val):@wW GG (tb [] []) YJ.code (Dc [.slc (nz 4 (l.map De)) (l.map De) false]) [] ⟨Dp YJ.res (De (.list l))⟩:=by
 unfold YJ;rw[QX];simp (disch:=first|omega|decide) only[push_cast,↓reduceIte,CI,UT,Ypc,mX,RL];rfl
theorem aV:Contract Tryz.prog GG 141 OF:=
 Ed yP2 (DI all_nil all_nil) (fun a h=>YAa a)
noncomputable def Sf:List D→Option D:=Dl (α:=List UInt8×Val) (fun a=>[.str a.1,De a.2]) (fun a=>a.1.length≤1000∧Ei a.2≤16∧(DD a.2).length≤4294967000) (fun a=>C9 (Qi a.1 a.2))
theorem Yp(t:List UInt8)(v:Val)(h:t.length≤1000∧Ei v≤16∧(DD v).length≤4294967000):Sf [.str t,De v]=some (C9 (Qi t v)):=
 D5 (fun⟨a0,a1⟩ ⟨b0,b1⟩ h=>by simp only[Aa,D.str.injEq,and_true,T8]at h; simp[h]) (t,v) h
theorem YAc(t:List UInt8)(v:Val)(h:t.length≤1000∧Ei v≤16∧(DD v).length≤4294967000):@wW GG (tb [(167,kn),(62,SL)] []) ZF.code (Dc [.str t,De v]) [] ⟨Dp ZF.res (C9 (Qi t v))⟩:=by
 unfold ZF Qi;have E:=ySx v h.2
 have hl:(Lk v).length≤65536:=by
  unfold Lk
  split
  ·assumption
  ·simp
 have J:=fm t (Lk v) (by omega);obtain⟨k,n,B,M,U,I⟩:=OQ v;rw[I]at E;rw[I];simp (disch:=first|omega|decide) only[push_cast,↓reduceIte,CI,Qg,Nw,ef,bl,E,XM,J]
theorem aU:Contract Tryz.prog GG 140 Sf:=
 Ed yIa (DI (all_cons Yqi (all_cons iS all_nil)) all_nil) (fun a h=>YAc a.1 a.2 h)
theorem yXy(c:List Ins)(x:Ins):LN (c++[x])=YCe (LN c) x:=by unfold LN; rw[Cz]; rfl
theorem Yml(d:Dig)(x:Ins):eK.length≤1000∧Ei (.list [.int x.op,.int x.n,.int x.m,.bytes d.bs])≤16∧(DD (.list [.int x.op,.int x.n,.int x.m,.bytes d.bs])).length≤4294967000:=by
 have E:=MY x.op;have I:=MY x.n;have J:=MY x.m;have M:=TL d;refine⟨by decide,by simp[Ei,Io],?_⟩;rw[OR];simp only[An,Ad,As,Au,BK];omega
theorem WH(a b c d:Val):Fi 4 [De a,De b,De c,De d]=some (.slc 4 [De a,De b,De c,De d] true):=dk [a,b,c,d] (by simp)
theorem WE(a b c d:Val):OF [.slc 4 [De a,De b,De c,De d] false]=some (De (.list [a,b,c,d])):=Yq [a,b,c,d]
theorem YC2(a b:Val):Fi 4 [De a,De b]=some (.slc 4 [De a,De b] true):=dk [a,b] (by simp)
theorem YCy(a b:Val):OF [.slc 4 [De a,De b] false]=some (De (.list [a,b])):=Yq [a,b]
theorem WG(a b c d e f g h:Val):Fi 4 [De a,De b,De c,De d,De e,De f,De g,De h]=some (.slc 4 [De a,De b,De c,De d,De e,De f,De g,De h] true):=dk [a,b,c,d,e,f,g,h] (by simp)
theorem WD(a b c d e f g h:Val):OF [.slc 4 [De a,De b,De c,De d,De e,De f,De g,De h] false]=some (De (.list [a,b,c,d,e,f,g,h])):=Yq [a,b,c,d,e,f,g,h]
noncomputable def gX:List D→Option D:=Dl (α:=List Ins) (fun a=>[.slc (nz 3 (a.map Da)) (a.map Da) false]) (fun a=>a.length≤4294967296) (fun a=>C9 (LN a))
theorem Yid(c:List Ins)(h:c.length≤4294967296):gX [.slc (nz 3 (c.map Da)) (c.map Da) false]=some (C9 (LN c)):=
 D5 (fun a b h=>by simp only[Aa,D.slc.injEq,and_true,Ko]at h; simp[h]) (c) h
theorem Yz8(c:List Ins)(h:c.length≤4294967296):@wW GG (tb [(145,Sh),(142,Vu),(141,OF),(140,Sf)] []) ZL.code (Dc [.slc (nz 3 (c.map Da)) (c.map Da) false]) [] ⟨Dp ZL.res (C9 (LN c))⟩:=by
 unfold ZL;simp (disch:=first|omega|decide) only[push_cast,↓reduceIte,CI]
 refine FQ (fun i:Nat=>[(2,.ptr 0 0),(5,.slc (nz 3 (c.map Da)) (c.map Da) false),(6,.int .i64 (c.length:Int)),(7,.int .i64 (i:Int))])
  (fun i=>[⟨false,1,C8 (LN (c.take i)),false⟩]) (fun i=>i≤c.length) (fun i=>c.length - i) 0 (by simp only[push_cast,↓reduceIte,CI,CO,CM,↓CL] <;> rfl) (by omega) ?_
 intro i hi;unfold od;simp (disch:=first|omega|decide) only[push_cast,↓reduceIte,CI];refine EU (fun V=>?_) (fun V=>?_)
 ·have E:i<c.length:=by omega
  have J:=Vm [⟨false,1,C8 (LN (c.take i)),false⟩] c false i E;have I:=QW c E;obtain⟨x,M⟩:∃ x,c.getD i default=x:=⟨_,rfl⟩;rw[M]at J I;have U:=Yp eK (.list [.int x.op,.int x.n,.int x.m,.bytes (LN (c.take i)).bs]) (Yml _ _);simp only[eK]at U;simp (disch:=first|omega|decide) only[push_cast,↓reduceIte,CI,CO,CM,CJ,J,KV,LB,NQ,Gw,LA,gJ,Uh,jL,Vn,T5,WH,WE,U,DK];refine EV (i+1) (by omega) (by omega) ?_;rw[I,yXy];simp only[push_cast] <;> rfl
 ·obtain rfl:i=c.length:=by omega
  rw[show(c.take c.length)=c from Bi];simp (disch:=first|omega|decide) only[push_cast,↓reduceIte,CI]
theorem YE9:Contract Tryz.prog GG 143 gX:=
 Ed yFg (DI (all_cons aW (all_cons my (all_cons aV (all_cons aU all_nil)))) all_nil) (fun a h=>Yz8 a h)
theorem yYi(d:Dig)(l:List Int)(n:Int):HW d (l++[n])=YCk (HW d l) n:=by unfold HW; rw[Cz]; rfl
theorem tV(d:Dig)(l m:List Int):HW d (l++m)=HW (HW d l) m:=by unfold HW; rw[Cz]
theorem Ym8(d:Dig)(n:Int):O2.length≤1000∧Ei (.list [.int n,.bytes d.bs])≤16∧(DD (.list [.int n,.bytes d.bs])).length≤4294967000:=by
 have E:=MY n;have I:=TL d;refine⟨by decide,by simp[Ei,Io],?_⟩;rw[OR];simp only[An,Ad,As,Au,BK];omega
noncomputable def dG:List D→Option D:=Dl (α:=Dig×List Int) (fun a=>[C9 a.1,.slc (nz 1 (a.2.map nI)) (a.2.map nI) false]) (fun a=>a.2.length≤4294967296) (fun a=>C9 (HW a.1 a.2))
theorem uH(d:Dig)(l:List Int)(h:l.length≤4294967296):dG [C9 d,.slc (nz 1 (l.map nI)) (l.map nI) false]=some (C9 (HW d l)):=
 D5 (fun⟨a0,a1⟩ ⟨b0,b1⟩ h=>by simp only[Aa,D.slc.injEq,La,and_true,Ss]at h; simp[h]) (d,l) h
theorem Ys4(d:Dig)(l:List Int)(h:l.length≤4294967296):@wW GG (tb [(145,Sh),(142,Vu),(141,OF),(140,Sf)] []) YK.code (Dc [C9 d,.slc (nz 1 (l.map nI)) (l.map nI) false]) [] ⟨Dp YK.res (C9 (HW d l))⟩:=by
 unfold YK;simp (disch:=first|omega|decide) only[push_cast,↓reduceIte,CI]
 refine FQ (fun i:Nat=>[(2,.ptr 0 0),(4,.ptr 1 0),(7,.slc (nz 1 (l.map nI)) (l.map nI) false),(8,.int .i64 (l.length:Int)),(9,.int .i64 (i:Int))])
  (fun i=>[⟨false,1,C8 (HW d (l.take i)),false⟩,⟨false,1,C8 Dt,false⟩]) (fun i=>i≤l.length) (fun i=>l.length - i) 0 (by simp only[push_cast,↓reduceIte,CI,CO,CM,CJ,↓CL] <;> rfl) (by omega) ?_
 intro i hi;unfold nF;simp (disch:=first|omega|decide) only[push_cast,↓reduceIte,CI];refine EU (fun V=>?_) (fun V=>?_)
 ·have E:i<l.length:=by omega
  have J:=aZ [⟨false,1,C8 (HW d (l.take i)),false⟩,⟨false,1,C8 Dt,false⟩] l false i E;have I:=QW l E;obtain⟨x,M⟩:∃ x,l.getD i default=x:=⟨_,rfl⟩;rw[M]at J I;have U:=Yp O2 (.list [.int x,.bytes (HW d (l.take i)).bs]) (Ym8 _ _);simp only[O2]at U;simp (disch:=first|omega|decide) only[push_cast,↓reduceIte,CI,CO,CM,CJ,J,bq,Uh,jL,Vn,T5,YC2,YCy,U,DK];refine EV (i+1) (by omega) (by omega) ?_;rw[I,yYi];simp only[push_cast] <;> rfl
 ·obtain rfl:i=l.length:=by omega
  rw[show(l.take l.length)=l from Bi];simp (disch:=first|omega|decide) only[push_cast,↓reduceIte,CI,CJ]
theorem yR:Contract Tryz.prog GG 146 dG:=
 Ed yP1 (DI (all_cons aW (all_cons my (all_cons aV (all_cons aU all_nil)))) all_nil) (fun a h=>Ys4 a.1 a.2 h)
noncomputable def gY:List D→Option D:=Dl (α:=List Int) (fun a=>[.slc (nz 1 (a.map nI)) (a.map nI) false]) (fun a=>a.length≤4294967296) (fun a=>C9 (HW Dt a))
theorem Yic(l:List Int)(h:l.length≤4294967296):gY [.slc (nz 1 (l.map nI)) (l.map nI) false]=some (C9 (HW Dt l)):=
 D5 (fun a b h=>by simp only[Aa,D.slc.injEq,and_true,Ss]at h; simp[h]) (l) h
theorem Yz7(l:List Int)(h:l.length≤4294967296):@wW GG (tb [(146,dG)] []) Y9.code (Dc [.slc (nz 1 (l.map nI)) (l.map nI) false]) [] ⟨Dp Y9.res (C9 (HW Dt l))⟩:=by
 unfold Y9;have hc:=uH Dt l h;simp (disch:=first|omega|decide) only[push_cast,↓reduceIte,CI,hc]
theorem YE8:Contract Tryz.prog GG 96 gY:=
 Ed yLw (DI (all_cons yR all_nil) all_nil) (fun a h=>Yz7 a h)
theorem Ywx(v:Int×List Int)(h:v.2.length=16):O4.length≤1000∧Ei (.list [.int v.1,.list (v.2.map .int)])≤16∧(DD (.list [.int v.1,.list (v.2.map .int)])).length≤4294967000:=by
 have J:=MY v.1;have M:=sQ v.2
 have E:∀ l:List Int,Io (l.map .int)=0:=by
  intro l
  induction l with
  |nil=>simp[Io]
  |cons a l I=>simp[Io,Ei,I]
 refine⟨by decide,by simp[Ei,Io,E],?_⟩;rw[OR];simp only[An,Ad,As,Au,BK,OR];omega
theorem Uj(l:List Int):(l.map nI).all D.isCell=true:=YD nI (fun _=>rfl) l
theorem Q9(l:List Int):(l.map nI).all Ep=true:=by
 rw[Ag];intro x E;obtain⟨n,_,rfl⟩:=AU.1 E;rfl
theorem TM(v:Int×List Int):DY v=(v.1::v.2).map nI:=(rfl)
theorem FK(v:Int×List Int):DG (ED v)=some (DY v):=by
 rw[show DG (ED v)=if(DY v).all D.isCell then some (DY v)else none from rfl,TM,if_pos (Uj _)]
theorem FH(st:St)(v:Int×List Int):DV st (ED v)=some (ED v):=QU st (Q9 (v.1::v.2))
theorem Hm(v:Int×List Int):keys (ED v)=[]:=Qa (Q9 (v.1::v.2))
theorem xE(v:Int×List Int):(DY v).flatMap hk=[]:=MG (Q9 (v.1::v.2))
theorem Yc9(m:Nat)(σ:List Nat)(v:Int×List Int):(DY v).map (Eu m σ)=DY v:=Mb m σ (Q9 (v.1::v.2))
variable {v:Int×List Int}
theorem Gh(h:v.2.length=16)(sz:Nat)(lent:Bool):DA (some ⟨false,sz,DY v,lent⟩) 17 true 0=some (ED v):=Lz sz lent _ 17 (by simp[DY,h])
theorem YC8(v:Int×List Int)(sz:Nat)(lent:Bool):DA (some ⟨false,sz,DY v,lent⟩) 1 false 0=some (.int .i64 v.1):=I5 (A:=[]) (C:=v.2.map nI) rfl rfl
theorem YC7(h:v.2.length=16)(sz:Nat)(lent:Bool):DA (some ⟨false,sz,DY v,lent⟩) 16 true 1=some (.agg (v.2.map nI)):=Mz (A:=[.int .i64 v.1]) (B:=v.2.map nI) (C:=[]) (by simp[DY]) rfl (by simp[h])
theorem Yw6(l:List Int)(i:Nat)(h:i<l.length):Qo l.length 1 false (.agg (l.map nI)) (.int .i64 (i:Int))=some (nI (l.getD i default)):=by
 have E:FZ (.int .i64 (i:Int))=some i:=by simp[FZ]
 simp only[Qo,E,if_pos h,BP];refine Yg3 (A:=(l.take i).map nI) (C:=(l.drop (i+1)).map nI) ?_ (by simp; omega);rw[← Aw,← Bh]
 congr 1
 have:l=l.take i++l.drop i:=(Bk _ _).symm;rw[A7 h]at this;rw[Af,Ah h];exact this
theorem YC3(a:Val):Fi 4 [De a]=some (.slc 4 [De a] true):=dk [a] (by simp)
theorem zu(l:List Int):hk (.agg (l.map nI))=[]:=TY (Q9 l)
theorem rF(m:Nat)(σ:List Nat)(l:List Int):Eu m σ (.agg (l.map nI))=.agg (l.map nI):=QV m σ (Q9 l)
noncomputable def gW:List D→Option D:=Dl (α:=(Int×List Int)) (fun a=>[ED a]) (fun a=>a.2.length=16) (fun a=>C9 (Lj a))
theorem Yie(v:Int×List Int)(h:v.2.length=16):gW [ED v]=some (C9 (Lj v)):=
 D5 (fun a b h=>by simp only[Aa,and_true,J0]at h; simp[h]) (v) h
theorem YAb(v:Int×List Int)(h:v.2.length=16):@wW GG (tb [(145,Sh),(141,OF),(140,Sf)] []) ZD.code (Dc [ED v]) [] ⟨Dp ZD.res (C9 (Lj v))⟩:=by
 unfold ZD;have Y:=Yp O4 (.list [.int v.1,.list (v.2.map .int)]) (Ywx v h);simp only[O4]at Y;simp (disch:=first|omega|decide) only[push_cast,↓reduceIte,CI,FK,YC7 h]
 refine FQ (fun i:Nat=>[(1,.ptr 0 0),(2,.ptr 1 0),(3,D4 0 2 ((v.2.take i).map (De ∘ Val.int))),(7,.agg (v.2.map nI)),(8,.int .i64 (i:Int))])
  (fun i=>⟨false,1,DY v,false⟩::⟨false,1,C8 Dt,false⟩::Dz 4 ((v.2.take i).map (De ∘ Val.int))) (fun i=>i≤16) (fun i=>16 - i) 0 (by simp only[push_cast,↓reduceIte,CI,CO,CM,CJ,↓CL,xE,Yc9,zu,rF] <;> rfl) (by omega) ?_
 intro i hi;unfold n6;simp (disch:=first|omega|decide) only[push_cast,↓reduceIte,CI];refine EU (fun h2=>?_) (fun h2=>?_)
 ·have J:i<v.2.length:=by omega
  have V:=Yw6 v.2 i J;rw[h]at V;have M:=QW v.2 J;obtain⟨x,U⟩:∃ x,v.2.getD i default=x:=⟨_,rfl⟩;rw[U,show nI x=.int .i64 x from rfl]at V;rw[U]at M;have I:=zX (f:=De ∘ Val.int) (sz:=4) (sz0:=0) (bytes:=64) (A:=v.2.take i) (x:=x) (t:=true) (a:=⟨false,1,DY v,false⟩) (b:=⟨false,1,C8 Dt,false⟩) (hs0:=by decide) (hb:=by rw[AH]; omega) (hl:=by rw[AH]; omega);simp only[Function.comp_apply]at I;simp (disch:=first|omega|decide) only[push_cast,↓reduceIte,CI,CO,CM,CJ,V,Uh,Vn,T5,YC3,I,DK];refine EV (i+1) (by omega) (by omega) ?_;rw[M];simp only[push_cast,xE,Yc9,zu,rF] <;> rfl
 ·obtain rfl:i=16:=by omega
  rw[show(v.2.take 16)=v.2 from AE (by omega)];have hb:DV (⟨false,1,DY v,false⟩::⟨false,1,C8 Dt,false⟩::Dz 4 (v.2.map (De ∘ Val.int))) (D4 0 2 (v.2.map (De ∘ Val.int)))=some (.slc (nz 4 (v.2.map (De ∘ Val.int))) (v.2.map (De ∘ Val.int)) false):=xF _ _ 4 0 _;have hl:=Yq (v.2.map Val.int);rw[CG]at hl
  have E:v.2.map (De ∘ Val.int)≠[]:=by
   intro e;have:=congrArg List.length e;simp[h]at this
  rw[R6 _ _ _ E,QA _ _ E]at hb;simp (disch:=first|omega|decide) only[push_cast,↓reduceIte,CI,CJ,CT,↓CL,R6 _ _ _ E,QA _ _ E,Yek,YC8,Uh,Vn,T5,hl,YC2,YCy,Y];rfl
theorem YFa:Contract Tryz.prog GG 144 gW:=
 Ed yIc (DI (all_cons aW (all_cons aV (all_cons aU all_nil))) all_nil) (fun a h=>YAb a h)
theorem Wd(st:St)(E:sz≠0)(els:List D)(t:Bool)(h:k≤els.length):Hb st sz (.slc (nz sz els) els t) (some (.int .i64 (k:Int))) none none=some (.slc (nz sz els) (els.drop k) t):=by
 have I:((nz sz els == sz || els.isEmpty) && sz != 0)=true:=by
  cases els <;> simp[nz,E]
 have J:FZ (.int .i64 (k:Int))=some k:=by simp[FZ]
 simp only[Hb,I,if_true,GC,J];rw[if_pos ⟨h,Ax _⟩,Bi,beq_self_eq_true,BT]
theorem We(st:St)(E:sz≠0)(els:List D)(t:Bool)(h:k≤els.length):Hb st sz (.slc (nz sz els) els t) none (some (.int .i64 (k:Int))) none=some (.slc (nz sz els) (els.take k) (t && k == els.length)):=by
 have I:((nz sz els == sz || els.isEmpty) && sz != 0)=true:=by
  cases els <;> simp[nz,E]
 have J:GC (some (.int .i64 (k:Int))) els.length=some k:=by simp[GC,FZ]
 simp only[Hb,I,if_true,J];simp only[GC];rw[if_pos ⟨A2 _,h⟩,Bz]
theorem Wf(st:St)(E:sz≠0)(els:List D)(t:Bool)(h:k≤els.length):Hb st sz (.slc (nz sz els) els t) none (some (.int .i64 (k:Int))) (some (.int .i64 (k:Int)))=some (.slc (nz sz els) (els.take k) true):=by
 have I:((nz sz els == sz || els.isEmpty) && sz != 0)=true:=by
  cases els <;> simp[nz,E]
 have J:GC (some (.int .i64 (k:Int))) els.length=some k:=by simp[GC,FZ]
 have M:FZ (.int .i64 (k:Int))=some k:=by simp[FZ]
 simp only[Hb,I,if_true,J,M];simp only[GC];rw[if_pos (by simp[h]),Bz]
theorem Yk9(s:Sta):(DW s).all D.isCell=true:=(rfl)
theorem Ir(s:Sta):DG (DQ s)=some (DW s):=(rfl)
theorem H3:DG (.agg [.int .i64 0,.int .i64 0,.int .i64 0,.int .i64 0,.slc 0 [] true])=some [.int .i64 0,.int .i64 0,.int .i64 0,.int .i64 0,.slc 0 [] true]:=(rfl)
theorem Kk(st:St)(s:Sta):DV st (DQ s)=some (DQ s):=by
 simp only[DQ,DW,Ev,DV,D3,DC,Ik];rfl
theorem NX(s:Sta):keys (DQ s)=[]:=(rfl)
theorem Kl(lent:Bool)(s:Sta):DA (some ⟨false,1,DW s,lent⟩) 1 false 0=some (.int .i64 s.pc):=(rfl)
theorem KU(lent:Bool)(s:Sta):DA (some ⟨false,1,DW s,lent⟩) 1 false 1=some (.int .i64 s.fuel):=(rfl)
theorem Jc(lent:Bool)(s:Sta):DA (some ⟨false,1,DW s,lent⟩) 1 false 2=some (.int .i64 s.status):=(rfl)
theorem NS(lent:Bool)(s:Sta):DA (some ⟨false,1,DW s,lent⟩) 1 false 3=some (.int .i64 s.clause):=(rfl)
theorem Oz(lent:Bool)(s:Sta):DA (some ⟨false,1,DW s,lent⟩) 1 false 4=some (Ev s.stack):=(rfl)
theorem IB(lent:Bool)(s:Sta):DA (some ⟨false,1,DW s,lent⟩) 5 true 0=some (DQ s):=(rfl)
theorem J2(s:Sta):DR (some ⟨false,1,[.int .i64 0,.int .i64 0,.int .i64 0,.int .i64 0,.slc 0 [] true],false⟩) 5 0 (DQ s)=some ⟨false,1,DW s,false⟩:=(rfl)
theorem bK(s s':Sta):DR (some ⟨false,1,DW s,false⟩) 5 0 (DQ s')=some ⟨false,1,DW s',false⟩:=(rfl)
theorem bW(l:List Int):Ev l=.slc (nz 1 (l.map nI)) (l.map nI) false:=(rfl)
def ES(a b c d:Int)(t:D)(k:Int)(r:Dig):List D:=.int .i64 a::.int .i64 b::.int .i64 c::.int .i64 d::t::.int .i64 k::C8 r
theorem Ka(o:Opn):E5 o=ES o.pc o.fuel o.status o.clause (Ev o.top) o.depth o.rest:=(rfl)
theorem UG(a b c d:Int)(t:D)(k:Int)(r:Dig):(ES a b c d t k r).length=38:=by simp[ES,D1]
variable {t:D}
theorem re(a b c d:Int)(E:t.isCell=true)(k:Int)(r:Dig):(ES a b c d t k r).all D.isCell=true:=by
 simp only[ES,AY,E,eQ,Bt];exact KW (fun _=>rfl) r
theorem QI:(D.int .i64 0::.int .i64 0::.int .i64 0::.int .i64 0::.slc 0 [] true::.int .i64 0::C8 Dt)=ES 0 0 0 0 (.slc 0 [] true) 0 Dt:=(rfl)
theorem w9(a b c d:Int)(E:t.isCell=true)(k:Int)(r:Dig):DG (.agg (ES a b c d t k r))=some (ES a b c d t k r):=by
 rw[show DG (.agg (ES a b c d t k r))=if(ES a b c d t k r).all D.isCell then some (ES a b c d t k r)else none from rfl,if_pos (re a b c d E k r)]
theorem NR(o:Opn):DG (Ee o)=some (E5 o):=by
 rw[Ee,Ka,w9 _ _ _ _ rfl]
theorem V5(a b c d E b' c' I:Int)(t:D){t':D}(M:t'.isCell=true)(k k':Int)(r J:Dig):DR (some ⟨false,1,ES a b c d t k r,false⟩) 38 0 (.agg (ES E b' c' I t' k' J))=some ⟨false,1,ES E b' c' I t' k' J,false⟩:=
 Lx 1 _ _ 38 (UG ..) (UG ..) (re _ _ _ _ M _ _)
theorem S3(lent:Bool)(a b c d:Int)(t:D)(k:Int)(r:Dig):DA (some ⟨false,1,ES a b c d t k r,lent⟩) 38 true 0=some (.agg (ES a b c d t k r)):=Lz 1 lent _ 38 (UG ..)
theorem xJ(lent:Bool)(a b c d:Int)(t:D)(k:Int)(r:Dig):DA (some ⟨false,1,ES a b c d t k r,lent⟩) 1 false 0=some (.int .i64 a):=I5 (A:=[]) rfl rfl
theorem yo(lent:Bool)(a b c d:Int)(t:D)(k:Int)(r:Dig):DA (some ⟨false,1,ES a b c d t k r,lent⟩) 1 false 1=some (.int .i64 b):=I5 (A:=[.int .i64 a]) rfl rfl
theorem mJ(lent:Bool)(a b c d:Int)(t:D)(k:Int)(r:Dig):DA (some ⟨false,1,ES a b c d t k r,lent⟩) 1 false 2=some (.int .i64 c):=I5 (A:=[.int .i64 a,.int .i64 b]) rfl rfl
theorem yp(lent:Bool)(a b c d:Int)(t:D)(k:Int)(r:Dig):DA (some ⟨false,1,ES a b c d t k r,lent⟩) 1 false 3=some (.int .i64 d):=I5 (A:=[.int .i64 a,.int .i64 b,.int .i64 c]) rfl rfl
theorem mK(lent:Bool)(a b c d:Int)(t:D)(k:Int)(r:Dig):DA (some ⟨false,1,ES a b c d t k r,lent⟩) 1 false 4=some t:=I5 (A:=[.int .i64 a,.int .i64 b,.int .i64 c,.int .i64 d]) rfl rfl
theorem U1(lent:Bool)(a b c d:Int)(t:D)(k:Int)(r:Dig):DA (some ⟨false,1,ES a b c d t k r,lent⟩) 1 false 5=some (.int .i64 k):=I5 (A:=[.int .i64 a,.int .i64 b,.int .i64 c,.int .i64 d,t]) rfl rfl
theorem yq(lent:Bool)(a b c d:Int)(t:D)(k:Int)(r:Dig):DA (some ⟨false,1,ES a b c d t k r,lent⟩) 32 true 6=some (C9 r):=Mz (A:=[.int .i64 a,.int .i64 b,.int .i64 c,.int .i64 d,t,.int .i64 k]) (B:=C8 r) (C:=[]) (by simp[ES]) rfl (D1 r)
theorem Yxz(a b c d:Int)(E:t.cells=[t])(hc:t.isCell=true)(k:Int)(r:Dig):DL (ES 0 0 0 0 (.slc 0 [] true) 0 Dt) [(0,1,.int .i64 a),(1,1,.int .i64 b),(2,1,.int .i64 c),(3,1,.int .i64 d),(4,1,t),(5,1,.int .i64 k),(6,32,C9 r)]=some (ES a b c d t k r):=by
 refine(I4 (cs:=ES 0 0 0 0 (.slc 0 [] true) 0 Dt) (cs':=ES a 0 0 0 (.slc 0 [] true) 0 Dt) (A:=[]) (B:=[.int .i64 0]) (xs:=[.int .i64 a]) rfl rfl rfl rfl rfl rfl rfl).trans ?_;refine(I4 (cs:=ES a 0 0 0 (.slc 0 [] true) 0 Dt) (cs':=ES a b 0 0 (.slc 0 [] true) 0 Dt) (A:=[.int .i64 a]) (B:=[.int .i64 0]) (xs:=[.int .i64 b]) rfl rfl rfl rfl rfl rfl rfl).trans ?_;refine(I4 (cs:=ES a b 0 0 (.slc 0 [] true) 0 Dt) (cs':=ES a b c 0 (.slc 0 [] true) 0 Dt) (A:=[.int .i64 a,.int .i64 b]) (B:=[.int .i64 0]) (xs:=[.int .i64 c]) rfl rfl rfl rfl rfl rfl rfl).trans ?_;refine(I4 (cs:=ES a b c 0 (.slc 0 [] true) 0 Dt) (cs':=ES a b c d (.slc 0 [] true) 0 Dt) (A:=[.int .i64 a,.int .i64 b,.int .i64 c]) (B:=[.int .i64 0]) (xs:=[.int .i64 d]) rfl rfl rfl rfl rfl rfl rfl).trans ?_;refine(I4 (cs:=ES a b c d (.slc 0 [] true) 0 Dt) (cs':=ES a b c d t 0 Dt) (A:=[.int .i64 a,.int .i64 b,.int .i64 c,.int .i64 d]) (B:=[.slc 0 [] true]) (xs:=[t]) rfl rfl rfl rfl E rfl (by simp[hc])).trans ?_;refine(I4 (cs:=ES a b c d t 0 Dt) (cs':=ES a b c d t k Dt) (A:=[.int .i64 a,.int .i64 b,.int .i64 c,.int .i64 d,t]) (B:=[.int .i64 0]) (xs:=[.int .i64 k]) rfl rfl rfl rfl rfl rfl rfl).trans ?_;refine(I4 (cs:=ES a b c d t k Dt) (cs':=ES a b c d t k r) (A:=[.int .i64 a,.int .i64 b,.int .i64 c,.int .i64 d,t,.int .i64 k]) (B:=C8 Dt) (C:=[]) (xs:=C8 r) (by simp[ES]) (by simp[ES]) rfl (D1 _) rfl (D1 _) (KW (fun _=>rfl) r)).trans ?_;rfl
theorem pY(a b c d:Int)(sz:Nat)(els:List D)(E:Bool)(k:Int)(r:Dig):DL (ES 0 0 0 0 (.slc 0 [] true) 0 Dt) [(0,1,.int .i64 a),(1,1,.int .i64 b),(2,1,.int .i64 c),(3,1,.int .i64 d),(4,1,.slc sz els E),(5,1,.int .i64 k),(6,32,C9 r)]=some (ES a b c d (.slc sz els E) k r):=Yxz a b c d rfl rfl k r
theorem Ki(a b c d:Int)(sz:Nat)(els:List D)(E:Bool)(k:Int)(r:Dig):DG (.agg (ES a b c d (.slc sz els E) k r))=some (ES a b c d (.slc sz els E) k r):=w9 a b c d rfl k r
theorem Vb(a b c d E b' c' I:Int)(t:D)(sz:Nat)(els:List D)(M:Bool)(k k':Int)(r J:Dig):DR (some ⟨false,1,ES a b c d t k r,false⟩) 38 0 (.agg (ES E b' c' I (.slc sz els M) k' J))=some ⟨false,1,ES E b' c' I (.slc sz els M) k' J,false⟩:=V5 a b c d E b' c' I t rfl k k' r J
theorem bj(st:St)(a b c d:Int)(sz:Nat)(els:List D)(E:Bool)(k:Int)(r:Dig):DV st (.agg (ES a b c d (.slc sz els E) k r))=some (.agg (ES a b c d (.slc (nz sz els) els false) k r)):=by
 simp only[ES,DV,tF,iH,iI,qh,Bo,Ae]
theorem J1(st:St)(o:Opn):DV st (Ee o)=some (Ee o):=by
 rw[Ee,Ka,bW,bj,Ik]
theorem Sv(o:Opn):keys (Ee o)=[]:=by
 simp only[Ee,E5,keys,Au]
 show []++([]++([]++([]++([]++([]++_)))))=[]
 have:(C8 o.rest).flatMap Fs=[]:=qC o.rest;rw[this];rfl
theorem Ya2(c:List Ins)(v:Int×List Int)(o:Opn):O3.length≤1000∧Ei (.list [.bytes (LN c).bs,.bytes (Lj v).bs,.int o.pc,.int o.fuel,.int o.status,.int o.clause,.int (o.depth+o.top.length),.bytes (HW o.rest o.top).bs])≤16∧
  (DD (.list [.bytes (LN c).bs,.bytes (Lj v).bs,.int o.pc,.int o.fuel,.int o.status,.int o.clause,.int (o.depth+o.top.length),.bytes (HW o.rest o.top).bs])).length≤4294967000:=by
 have E:=TL (LN c);have I:=TL (Lj v);have J:=TL (HW o.rest o.top);have M:=MY o.pc;have U:=MY o.fuel;have V:=MY o.status;have Y:=MY o.clause;have h8:=MY (o.depth+o.top.length);refine⟨by decide,by simp[Ei,Io],?_⟩;rw[OR];simp only[An,Ad,As,Au,BK];omega
noncomputable def cF:List D→Option D:=Dl (α:=List Ins×(Int×List Int)×Opn) (fun a=>[.slc (nz 3 (a.1.map Da)) (a.1.map Da) false,ED a.2.1,Ee a.2.2]) (fun a=>a.1.length≤4294967296∧a.2.1.2.length=16∧a.2.2.top.length≤4294967296∧0≤a.2.2.depth∧a.2.2.depth≤4294967296) (fun a=>C9 (LW a.1 a.2.1 a.2.2))
theorem th(c:List Ins)(v:Int×List Int)(o:Opn)(h:c.length≤4294967296∧v.2.length=16∧o.top.length≤4294967296∧0≤o.depth∧o.depth≤4294967296):cF [.slc (nz 3 (c.map Da)) (c.map Da) false,ED v,Ee o]=some (C9 (LW c v o)):=
 D5 (fun⟨a0,a1,E⟩ ⟨b0,b1,I⟩ h=>by simp only[Aa,D.slc.injEq,and_true,Ko,Sz,J0]at h; simp[h]) (c,v,o) h
theorem Yz6(c:List Ins)(v:Int×List Int)(o:Opn)(h:c.length≤4294967296∧v.2.length=16∧o.top.length≤4294967296∧0≤o.depth∧o.depth≤4294967296):@wW GG (tb [(143,gX),(144,gW),(146,dG),(145,Sh),(142,Vu),(141,OF),(140,Sf)] []) Zm.code (Dc [.slc (nz 3 (c.map Da)) (c.map Da) false,ED v,Ee o]) [] ⟨Dp Zm.res (C9 (LW c v o))⟩:=by
 obtain⟨hc,hv,I,V,Y⟩:=h;unfold Zm;have E:=Yp O3 _ (Ya2 c v o);simp only[O3]at E;have J:=Yid c hc;have M:=Yie v hv;have U:=uH o.rest o.top I;simp (disch:=first|omega|decide) only[push_cast,↓reduceIte,CI,CJ,FK,NR,Ka,bW,Gh hv,FH,xJ,yo,mJ,yp,mK,U1,yq,J,M,U,Uh,jL,Vn,T5,DK,WG,WD,E];rfl
theorem xw:Contract Tryz.prog GG 94 cF:=
 Ed yLq (DI (all_cons YE9 (all_cons YFa (all_cons yR (all_cons aW (all_cons my (all_cons aV (all_cons aU all_nil))))))) all_nil) (fun a h=>Yz6 a.1 a.2.1 a.2.2 h)
theorem YBs(st:St)(l:List Int)(t:Bool)(h:k≤l.length):Hb st 1 (.slc (nz 1 (l.map nI)) (l.map nI) t) (some (.int .i64 (k:Int))) none none=some (.slc (nz 1 (l.map nI)) ((l.drop k).map nI) t):=by
 rw[Wd st (by decide) (l.map nI) t (by simpa using h),Co]
theorem YBt(st:St)(l:List Int)(h:k≤l.length):Hb st 1 (.slc (nz 1 (l.map nI)) (l.map nI) false) none (some (.int .i64 (k:Int))) none=some (.slc (nz 1 (l.map nI)) ((l.take k).map nI) false):=by
 rw[We st (by decide) (l.map nI) false (by simpa using h),B6]; rfl
theorem YBu(st:St)(l:List Int)(t:Bool)(h:k≤l.length):Hb st 1 (.slc (nz 1 (l.map nI)) (l.map nI) t) none (some (.int .i64 (k:Int))) (some (.int .i64 (k:Int)))=some (.slc (nz 1 (l.map nI)) ((l.take k).map nI) true):=by
 rw[Wf st (by decide) (l.map nI) t (by simpa using h),B6]
theorem jv(s:Sta)(n:Int):Ls s n≤s.stack.length:=Nat.sub_le _ _
theorem Ym6(s:Sta)(n:Int):(s.stack.length:Int) - min (max n 0) (s.stack.length:Int)=(Ls s n:Int):=by unfold Ls; omega
noncomputable def dH:List D→Option D:=Dl (α:=Sta×Int) (fun a=>[DQ a.1,.int .i64 a.2]) (fun a=>a.1.stack.length≤4294967296) (fun a=>Ee (Fp a.1 a.2))
theorem uI(s:Sta)(n:Int)(h:s.stack.length≤4294967296):dH [DQ s,.int .i64 n]=some (Ee (Fp s n)):=
 D5 (fun⟨a0,a1⟩ ⟨b0,b1⟩ h=>by simp only[Aa,D.int.injEq,true_and,and_true,Sx]at h; simp[h]) (s,n) h
theorem Ys3(s:Sta)(n:Int)(h:s.stack.length≤4294967296):@wW GG (tb [(96,gY)] []) YH.code (Dc [DQ s,.int .i64 n]) [] ⟨Dp YH.res (Ee (Fp s n))⟩:=by
 unfold YH;have hk:=jv s n;have E:=Yic (s.stack.take (Ls s n)) (by rw[AH]; omega);have I:min (max n 0) (s.stack.length:Int)≤s.stack.length:=Int.min_le_right _ _;have J:0≤min (max n 0) (s.stack.length:Int):=by omega
 simp (disch:=first|omega|decide) only[push_cast,↓reduceIte,CI,Ir,QI,Ki,Kl,KU,Jc,NS,Oz,bW,Fq,Ym6,YBs,YBt,E,pY,Vb,S3,bj,zP,zQ];rfl
theorem yS:Contract Tryz.prog GG 42 dH:=
 Ed yP4 (DI (all_cons YE8 all_nil) all_nil) (fun a h=>Ys3 a.1 a.2 h)
noncomputable def cE:List D→Option D:=Dl (α:=List Ins×(Int×List Int)×Sta) (fun a=>[.slc (nz 3 (a.1.map Da)) (a.1.map Da) false,ED a.2.1,DQ a.2.2]) (fun a=>a.1.length≤4294967296∧a.2.1.2.length=16∧a.2.2.stack.length≤4294967296) (fun a=>C9 (DT a.1 a.2.1 a.2.2))
theorem jN(c:List Ins)(v:Int×List Int)(s:Sta)(h:c.length≤4294967296∧v.2.length=16∧s.stack.length≤4294967296):cE [.slc (nz 3 (c.map Da)) (c.map Da) false,ED v,DQ s]=some (C9 (DT c v s)):=
 D5 (fun⟨a0,a1,E⟩ ⟨b0,b1,I⟩ h=>by simp only[Aa,D.slc.injEq,and_true,Ko,Sx,J0]at h; simp[h]) (c,v,s) h
theorem YAd(c:List Ins)(v:Int×List Int)(s:Sta)(h:c.length≤4294967296∧v.2.length=16∧s.stack.length≤4294967296):@wW GG (tb [(42,dH),(94,cF)] []) ZC.code (Dc [.slc (nz 3 (c.map Da)) (c.map Da) false,ED v,DQ s]) [] ⟨Dp ZC.res (C9 (DT c v s))⟩:=by
 obtain⟨hc,hv,E⟩:=h;unfold ZC;have I:=uI s s.stack.length E;have hk:Ls s s.stack.length=0:=by unfold Ls; omega
 have hw:=th c v (Fp s s.stack.length) ⟨hc,hv,by simp only[Fp,AI]; omega,by simp only[Fp,hk]; omega,by simp only[Fp,hk]; omega⟩;simp (disch:=first|omega|decide) only[push_cast,↓reduceIte,CI,CJ,FK,Gh hv,FH,Ir,IB,Oz,bW,Kk,NX,I,J1,hw];rfl
theorem xu:Contract Tryz.prog GG 49 cE:=
 Ed yId (DI (all_cons yS (all_cons xw all_nil)) all_nil) (fun a h=>YAd a.1 a.2.1 a.2.2 h)
variable {o:Opn}{c:List Ins}
theorem Yhv(E:0≤o.depth)(I:o.depth≤64):HF c v o=LW c v o:=if_neg (by omega)
theorem Yhu(E:o.depth<0):HF c v o=Dt:=if_pos (.inl E)
theorem Yhw(E:64<o.depth):HF c v o=Dt:=if_pos (.inr E)
noncomputable def Vv:List D→Option D:=Dl (α:=List Ins×(Int×List Int)×Opn) (fun a=>[.slc (nz 3 (a.1.map Da)) (a.1.map Da) false,ED a.2.1,Ee a.2.2]) (fun a=>a.1.length≤4294967296∧a.2.1.2.length=16∧a.2.2.top.length≤4294967296) (fun a=>C9 (HF a.1 a.2.1 a.2.2))
theorem jM(c:List Ins)(v:Int×List Int)(o:Opn)(h:c.length≤4294967296∧v.2.length=16∧o.top.length≤4294967296):Vv [.slc (nz 3 (c.map Da)) (c.map Da) false,ED v,Ee o]=some (C9 (HF c v o)):=
 D5 (fun⟨a0,a1,E⟩ ⟨b0,b1,I⟩ h=>by simp only[Aa,D.slc.injEq,and_true,Ko,Sz,J0]at h; simp[h]) (c,v,o) h
theorem YAe(c:List Ins)(v:Int×List Int)(o:Opn)(h:c.length≤4294967296∧v.2.length=16∧o.top.length≤4294967296):@wW GG (tb [(94,cF)] []) Y8.code (Dc [.slc (nz 3 (c.map Da)) (c.map Da) false,ED v,Ee o]) [] ⟨Dp Y8.res (C9 (HF c v o))⟩:=by
 obtain⟨hc,hv,J⟩:=h;unfold Y8
 by_cases E:o.depth<0
 ·rw[Yhu E];simp (disch:=first|omega|decide) only[push_cast,↓reduceIte,CI,CJ,FK,NR,Ka,U1,E]
 ·by_cases I:64<o.depth
  ·rw[Yhw I];simp (disch:=first|omega|decide) only[push_cast,↓reduceIte,CI,CJ,FK,NR,Ka,U1,E,I]
  ·rw[Yhv (by omega) (by omega)];have hw:=th c v o ⟨hc,hv,J,by omega,by omega⟩;have hi:=fun st=>J1 st o;have hk:=Sv o;rw[Ee,Ka]at hw hi hk;simp (disch:=first|omega|decide) only[push_cast,↓reduceIte,CI,CJ,FK,NR,Ka,U1,E,I,Gh hv,FH,S3,hi,hw]
theorem xq:Contract Tryz.prog GG 40 Vv:=
 Ed yLx (DI (all_cons xw all_nil) all_nil) (fun a h=>YAe a.1 a.2.1 a.2.2 h)
end Go.Proofs.YtijnglngaogdjaaGreatDoor.PI
