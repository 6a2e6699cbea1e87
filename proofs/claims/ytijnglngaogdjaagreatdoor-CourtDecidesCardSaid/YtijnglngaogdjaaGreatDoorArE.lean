/-
  tvm: openings and their digests.
  Conditions: none; these are lemmas.
-/
import Derived.Test.YtijnglngaogdjaaGreatDoorFns
import Derived.Test.YtijnglngaogdjaaGreatDoorEngI2
import Derived.Test.YtijnglngaogdjaaGreatDoorSha
import Derived.WideKeyElems2
import Derived.LaidMore
import Derived.LaidHandle
import Derived.FnData
import Derived.KernelRfl
import Derived.Test.YtijnglngaogdjaaGreatDoorEngHe
open BitVec renaming ofInt→CR
open Int renaming reduceAdd→CZ,reduceLT→CT,reduceMul→C4,reduceNatCast'→CL,reduceNeg→CO,reducePow→C0,reduceSub→C3,reduceToNat→CU
open List renaming range→CS,replicate→CQ
open Nat renaming reduceAdd→CJ,reduceBEq→CV,reduceEqDiff→CI,reduceLT→CP,reduceLeDiff→CM,reduceMul→CN
open UInt64 renaming ofNat→C7
open UInt8 renaming ofNat→CW
namespace Go.Proofs.YtijnglngaogdjaaGreatDoor.PI
open Go
set_option linter.unusedSimpArgs false
set_option linter.unusedVariables false
def Fx:List (Int×Nat):=[(3,231),(4,232),(5,233),(6,234),(7,235),(8,236),(9,238),(10,239),(11,240)]
def GG:Dj:=fun n=>if n=0 then some (.gmap Fx)else RK 1 .u32 (Sha.K.map fun x=>(x.toNat:Int)) n
theorem GR:GG 0=some (.gmap Fx):=rfl
theorem np:GG 1=some (.agg (Sha.K.map wD)):=rfl
theorem XW(k:Int):Ds .and (.int .u64 (IntKind.wrap .u64 k)) (.int .u64 31)=some (.int .u64 ((k % 32).toNat:Int)):=by
 have h:(CR (IntKind.bits .u64) (IntKind.wrap .u64 k) &&& CR (IntKind.bits .u64) 31).toNat=(k % 32).toNat:=by
  show(CR 64 (IntKind.wrap .u64 k) &&& CR 64 31).toNat=_
  rw[CE,show(CR 64 31).toNat=2 ^ 5 - 1 from rfl,BH,BitVec.toNat_ofInt];simp[IntKind.wrap,IntKind.signed,IntKind.bits];omega
 simp only[Ds,if_true,Li,Ag,h,Ug]
 congr 2
 omega
noncomputable def gW:List D→Option D:=Dl (α:=UInt32×Int) (fun a=>[wD a.1,.int .i64 a.2]) (fun a=>-31≤a.2∧a.2≤-1) (fun a=>wD (Sha.rotr a.1 (-a.2).toNat))
theorem sJ(x:UInt32)(k:Int)(h:-31≤k∧k≤-1):gW [wD x,.int .i64 k]=some (wD (Sha.rotr x (-k).toNat)):=
 D7 (fun⟨a0,a1⟩ ⟨b0,b1⟩ h=>by simp only[Aa,D.int.injEq,Ykf,true_and,and_true]at h; simp[h]) (x,k) h
set_option maxHeartbeats 4000000 in
set_option maxRecDepth 20000 in
theorem YAm(x:UInt32)(k:Int)(h:-31≤k∧k≤-1):@wW GG (tb [] []) aU.code (Dc [wD x,.int .i64 k]) [] ⟨Dq aU.res (wD (Sha.rotr x (-k).toNat))⟩:=by
 obtain⟨V,Y⟩:=h;have E:∃ s:Nat,(k % 32).toNat=s∧0<s∧s<32∧(-k).toNat=32 - s:=⟨(k % 32).toNat,rfl,by omega,by omega,by omega⟩;obtain⟨s,I,e2,J,M⟩:=E
 have e:Ds .sub (.int .u64 32) (.int .u64 (s:Int))=some (.int .u64 ((32 - s:Nat):Int)):=by
  simp only[Ds,if_true,Lb,Ag];rw[show(32 - (s:Int))=((32 - s:Nat):Int) by omega,Ug,A7 (by omega)]
 have hc:∀ st,FT st (.int .u64) (.int .i64 k)=some (.int .u64 (IntKind.wrap .u64 k)):=fun _=>rfl
 have U:Sha.rotr x (32 - s)=x <<< UInt32.ofNat s ||| x >>> UInt32.ofNat (32 - s):=by
  unfold Sha.rotr;grind
 unfold aU;simp only[push_cast,↓reduceIte,CI,hc,XW,I,e,YB1 _ _ _ J,YBx x .u64 (32 - s) (by omega),Wv,M,U]
theorem YFf:Contract Tryz.prog GG 187 gW:=
 Eg yn7 (DJ all_nil all_nil) (fun a h=>YAm a.1 a.2 h)
def H4(b:List UInt8)(i:Nat):List UInt32:=Sha.sch b i++CQ (64 - i) 0
theorem wj(b:List UInt8)(i:Nat)(h:i≤64):(H4 b i).length=64:=by
 simp[H4,Sha.sch_length]; omega
theorem Ylu(b:List UInt8)(i j:Nat)(h:j<i):(H4 b i).getD j default=(Sha.sch b i).getD j 0:=by
 have E:j<(Sha.sch b i).length:=by rw[Sha.sch_length]; exact h
 simp[H4,Ai,At E,E]
theorem sj(b:List UInt8)(i:Nat)(v:UInt32)(h:i<64)(hv:Sha.sch b (i+1)=Sha.sch b i++[v]):(H4 b i).set i v=H4 b (i+1):=by
 have E:(Sha.sch b i).length=i:=Sha.sch_length b i;unfold H4;rw[hv,Ce _ _ (by omega),E,BG,show 64 - i=(64 - (i+1))+1 by omega,B0,Bv,Ak];rfl
theorem YB3(b:List UInt8)(i:Nat)(h:i<16):Sha.sch b (i+1)=Sha.sch b i++[Sha.word b i]:=by
 simp[Sha.sch,h]
theorem YB4(b:List UInt8)(i:Nat)(h:16≤i):Sha.sch b (i+1)=Sha.sch b i++[(Sha.sch b i).getD (i - 16) 0+Sha.sig0 ((Sha.sch b i).getD (i - 15) 0)+(Sha.sch b i).getD (i - 7) 0+Sha.sig1 ((Sha.sch b i).getD (i - 2) 0)]:=by
 simp[Sha.sch,Nat.not_lt.2 h]
theorem lP(s t:Sha.St8)(i:Nat)(h:i<8):(((s.add t).list.take i++s.list.drop i).set i (((s.add t).list.take i++s.list.drop i).getD i default+t.list.getD i default))=(s.add t).list.take (i+1)++s.list.drop (i+1):=by
 rcases i with _ | _ | _ | _ | _ | _ | _ | _ | i <;> first | rfl | omega
noncomputable def jJ:List D→Option D:=Dl (α:=Sha.St8×List UInt8) (fun a=>[.agg (Sha.St8.list a.1 |>.map wD),.slc (nz 1 (a.2.map Dn)) (a.2.map Dn) false]) (fun a=>a.2.length=64) (fun a=>.agg ((Sha.block a.1 a.2).list.map wD))
theorem uo(s:Sha.St8)(b:List UInt8)(h:b.length=64):jJ [.agg (Sha.St8.list s |>.map wD),.slc (nz 1 (b.map Dn)) (b.map Dn) false]=some (.agg ((Sha.block s b).list.map wD)):=
 D7 (fun⟨a0,a1⟩ ⟨b0,b1⟩ h=>by simp only[Aa,D.slc.injEq,D.agg.injEq,sE,Ya3,Sha.St8.list_iff,and_true]at h; simp[h]) (s,b) h
set_option maxHeartbeats 4000000 in
set_option maxRecDepth 20000 in
theorem Yts(s:Sha.St8)(b:List UInt8)(h:b.length=64):@wW GG (tb [(187,gW)] []) Z3.code (Dc [.agg (Sha.St8.list s |>.map wD),.slc (nz 1 (b.map Dn)) (b.map Dn) false]) [] ⟨Dq Z3.res (.agg ((Sha.block s b).list.map wD))⟩:=by
 unfold Z3;simp only[push_cast,CJ]
 refine F0 (fun i:Nat=>[(1,.slc (nz 1 (b.map Dn)) (b.map Dn) false),(2,.ptr 0 0),(4,.ptr 1 0),(5,.ptr 2 0),(19,.int .i64 (i:Int))])
  (fun i=>[⟨false,1,s.list.map wD,false⟩,⟨false,1,(zW 8).map wD,false⟩,⟨false,1,(H4 b i).map wD,false⟩]) (fun i=>i≤16) (fun i=>16 - i) 0 (by simp only[push_cast,↓reduceIte,CI,CP,CM,CJ,↓CL] <;> rfl) (by omega) ?_
 intro i hi;unfold oq;simp only[push_cast,↓reduceIte,CI];refine E3 (fun Y=>?_) (fun Y=>?_)
 ·have V:i<16:=by omega
  have E:(4*(i:Int)).toNat=4*i:=by omega
  have I:(4*(i:Int)+1).toNat=4*i+1:=by omega
  have J:(4*(i:Int)+2).toNat=4*i+2:=by omega
  have M:(4*(i:Int)+3).toNat=4*i+3:=by omega
  have hl:(H4 b i).length=64:=wj b i (by omega);have hw:=sj b i (Sha.word b i) (by omega) (YB3 b i V);simp (disch:=omega) only[push_cast,↓reduceIte,CI,CP,CM,CJ,CU,Nn,DM,KH,Yyi,YB0,Wv,PZ,E,I,J,M];refine E5 (i+1) (by omega) (by omega) ?_;rw[← hw];rfl
 ·obtain rfl:i=16:=by omega
  simp only[push_cast,↓reduceIte,CJ,CT,↓CL]
  refine F0 (fun i:Nat=>[(2,.ptr 0 0),(4,.ptr 1 0),(5,.ptr 2 0),(7,.int .i64 (i:Int))])
   (fun i=>[⟨false,1,s.list.map wD,false⟩,⟨false,1,(zW 8).map wD,false⟩,⟨false,1,(H4 b i).map wD,false⟩]) (fun i=>16≤i∧i≤64) (fun i=>64 - i) 16 (by simp only[push_cast,↓reduceIte,CI,CP,CM,CJ,↓CL] <;> rfl) (by omega) ?_
  intro i hi;unfold ot;simp only[push_cast,↓reduceIte,CI,CO];refine E3 (fun h2=>?_) (fun h2=>?_)
  ·have hl:(H4 b i).length=64:=wj b i (by omega);have hw:=sj b i _ (by omega) (YB4 b i (by omega));have E:((i:Int) - 15).toNat=i - 15:=by omega
   have I:((i:Int) - 2).toNat=i - 2:=by omega
   have J:((i:Int) - 16).toNat=i - 16:=by omega
   have M:((i:Int) - 7).toNat=i - 7:=by omega
   simp (disch:=omega) only[push_cast,↓reduceIte,CI,CP,CM,CJ,CU,CO,Fy,DM,PZ,sJ,wY,xR,lR,E,I,J,M,Ylu];refine E5 (i+1) (by omega) (by omega) ?_;rw[← hw];rfl
  ·obtain rfl:i=64:=by omega
   have U:H4 b 64=Sha.sch b 64:=by simp[H4]
   have hl:(Sha.sch b 64).length=64:=Sha.sch_length b 64;have ae:s.list.length=8:=rfl;have af:(zW 8).length=8:=rfl;simp (disch:=first | omega | rfl) only[push_cast,↓reduceIte,CI,CJ,CT,CO,↓CL,U]
   refine F0 (fun i:Nat=>[(2,.ptr 0 0),(4,.ptr 1 0),(5,.ptr 2 0),(12,.ptr 3 0),(102,.int .i64 (i:Int))])
    (fun i=>[⟨false,1,s.list.map wD,false⟩,⟨false,1,(zW 8).map wD,false⟩,⟨false,1,(Sha.sch b 64).map wD,false⟩,⟨false,1,(Sha.rounds (Sha.sch b 64) s i).list.map wD,false⟩]) (fun i=>i≤64) (fun i=>64 - i) 0 (by simp only[push_cast,↓reduceIte,CI,CP,CM,CJ,↓CL] <;> rfl) (by omega) ?_
   intro i hi;unfold ou;simp only[push_cast,↓reduceIte,CI,CO];refine E3 (fun h3=>?_) (fun h3=>?_)
   ·have hK:Sha.K.length=64:=rfl;have hn:Sha.rounds (Sha.sch b 64) s (i+1)=Sha.round (Sha.rounds (Sha.sch b 64) s i) (Sha.K.getD i 0) ((Sha.sch b 64).getD i 0):=rfl;generalize Sha.rounds (Sha.sch b 64) s i=r at hn;simp (disch:=omega) only[push_cast,↓reduceIte,CI,CP,CM,CJ,CU,CO,Sha.St8.list,PZ,Ygm,Ki _ _ _ _ np,sJ,wY,XV,WB,lR,DM];refine E5 (i+1) (by omega) (by omega) ?_;rw[hn];rfl
   ·obtain rfl:i=64:=by omega
    have hb:Sha.block s b=s.add (Sha.rounds (Sha.sch b 64) s 64):=rfl;rw[hb];generalize Sha.rounds (Sha.sch b 64) s 64=r;simp only[push_cast,↓reduceIte,CJ,CT,CO,↓CL]
    refine F0 (fun i:Nat=>[(2,.ptr 0 0),(4,.ptr 1 0),(12,.ptr 3 0),(182,.int .i64 (i:Int))])
     (fun i=>[⟨false,1,((s.add r).list.take i++s.list.drop i).map wD,false⟩,⟨false,1,(zW 8).map wD,false⟩,⟨false,1,(Sha.sch b 64).map wD,false⟩,⟨false,1,r.list.map wD,false⟩]) (fun i=>i≤8) (fun i=>8 - i) 0 (by simp only[push_cast,↓reduceIte,CI,CP,CM,CJ,↓CL] <;> rfl) (by omega) ?_
    intro i hi
    have ah:((s.add r).list.take i++s.list.drop i).length=8:=by
     simp only[Ab,AK,AL,Sha.St8.list_length]; omega
    have a0:r.list.length=8:=rfl;unfold ov;simp only[push_cast,↓reduceIte,CI];refine E3 (fun h4=>?_) (fun h4=>?_)
    ·have ha:=lP s r i (by omega);simp (disch:=omega) only[push_cast,↓reduceIte,CI,CP,CM,CJ,PZ,lR,DM];refine E5 (i+1) (by omega) (by omega) ?_;grind
    ·obtain rfl:i=8:=by omega
     have e8:(s.add r).list.take 8++s.list.drop 8=(s.add r).list:=rfl;have a1:(s.add r).list.length=8:=rfl;simp (disch:=first | omega | rfl) only[push_cast,↓reduceIte,CI,CJ,CT,↓CL,e8]
theorem Yy4:Contract Tryz.prog GG 159 jJ:=
 Eg yB8 (DJ (all_cons YFf all_nil) all_nil) (fun a h=>Yts a.1 a.2 h)
end Go.Proofs.YtijnglngaogdjaaGreatDoor.PI
namespace Go.Proofs.YtijnglngaogdjaaGreatDoor.PI
open Go Go.WideElems
set_option linter.unusedSimpArgs false
set_option linter.unusedVariables false
def binsD:DataW Unit:=.map [(.int .i64 3,.agg [.iface "func" (.lit (.string [119,97,103,111,110,112,111,111,108,47,109,111,110,101,121,46,65,100,100]))]),(.int .i64 4,.agg [.iface "func" (.lit (.string [119,97,103,111,110,112,111,111,108,47,109,111,110,101,121,46,83,117,98]))]),(.int .i64 5,.agg [.iface "func" (.lit (.string [119,97,103,111,110,112,111,111,108,47,109,111,110,101,121,46,77,117,108]))]),(.int .i64 6,.agg [.iface "func" (.lit (.string [119,97,103,111,110,112,111,111,108,47,116,118,109,46,98,105,110,97,114,105,101,115,36,49]))]),(.int .i64 7,.agg [.iface "func" (.lit (.string [119,97,103,111,110,112,111,111,108,47,116,118,109,46,98,105,110,97,114,105,101,115,36,50]))]),(.int .i64 8,.agg [.iface "func" (.lit (.string [119,97,103,111,110,112,111,111,108,47,116,118,109,46,98,105,110,97,114,105,101,115,36,51]))]),(.int .i64 9,.agg [.iface "func" (.lit (.string [119,97,103,111,110,112,111,111,108,47,116,118,109,46,98,105,110,97,114,105,101,115,36,52]))]),(.int .i64 10,.agg [.iface "func" (.lit (.string [119,97,103,111,110,112,111,111,108,47,116,118,109,46,98,105,110,97,114,105,101,115,36,53]))]),(.int .i64 11,.agg [.iface "func" (.lit (.string [119,97,103,111,110,112,111,111,108,47,116,118,109,46,98,105,110,97,114,105,101,115,36,54]))])]
theorem gB:Tryz.prog.globalNamed "wagonpool/tvm.binaries"=some 0:=by kernel_rfl
theorem tB:(Tryz.prog.globals[0]?).map (·.type)=some 198:=by kernel_rfl
theorem kP:Tryz.prog.underlying 198=some (.map 3 196):=by kernel_rfl
theorem u3:Tryz.prog.underlying 3=some (.int .i64):=by kernel_rfl
def Wj:Option TypeDesc→Bool
 |some (.struct fs)=>match fs.toList with
  |[f]=>f.offset == 0 && f.type == 194
  |_=>false
 |_=>false
def Xg:Option TypeDesc→Bool
 |some (.func _ _ _)=>true
 |_=>false
theorem VU:Wj (Tryz.prog.underlying 196)=true:=by kernel_rfl
theorem VV:Xg (Tryz.prog.underlying 194)=true:=by kernel_rfl
theorem kQ:∃ f,Tryz.prog.underlying 196=some (.struct #[f])∧f.offset=0∧f.type=194:=by
 have h:=VU;unfold Wj at h
 split at h
 ·rename_i fs hu
  split at h
  ·rename_i f hf;simp only[Af,beq_iff_eq]at h;have e:fs=#[f]:=Array.ext' hf;subst e;exact⟨f,hu,h.1,h.2⟩
  ·cases h
 ·cases h
theorem XP:Tryz.prog.cellsOf 196=1:=by kernel_rfl
theorem lL:Tryz.prog.cellsOf 194=1:=by kernel_rfl
theorem kR:∃ ps rs E,Tryz.prog.underlying 194=some (.func ps rs E):=by
 have h:=VV;unfold Xg at h
 split at h
 ·rename_i ps rs E hu; exact⟨ps,rs,E,hu⟩
 ·cases h
variable {k:Int}{v:Value}
theorem YDi{P:Program}{t:TypeId}{kd:IntKind}(I:P.underlying t=some (.int kd))(h:keyOf P t v=some (.int kd k)):v=.int kd k:=by
 unfold keyOf mapKey at h;rw[I]at h;simp only at h
 split at h
 ·rename_i E; cases E
 ·rename_i E; simp only[AN,TypeDesc.int.injEq]at E; subst E
  split at h
  ·simp only[AN,Lit.int.injEq]at h;rename_i J;rw[← J.1,h.2]
  ·cases h
 ·rename_i E; cases E
 ·cases h
theorem zJ(h:keyOf Tryz.prog 3 v=some (.int .i64 k)):v=.int .i64 k:=YDi u3 h
theorem sX{k:Int}{f:Nat}:∀ {l:List (Int×Nat)},Gp k l=some f→k∈l.map (·.1)
 |[],h=>by cases h
 |p::r,h=>by
  unfold Gp at h
  split at h
  ·rename_i e; simp[e]
  ·exact Ar _ (sX h)
set_option maxRecDepth 20000 in
theorem OF{W:World}{n:Nat}{e:MapEntry}{b:UInt8}{r:List UInt8}{f0:FuncId}(U:((CS Tryz.prog.funcs.size).filter fun f=>(Tryz.prog.funcs[f]?).any (·.name.toUTF8.data.toList == b::r))=[f0])
  (h:rd Tryz.prog 3 (elemAt (funcToken Tryz.prog) Tryz.prog W 0 (fun _=>true) true n 196) e=some (.int .i64 k,.agg [.held (b::r)])):e.key=.int .i64 k∧e.val=.agg #[.func (.func f0) #[] #[]]:=by
 constructor
 ·exact zJ (rd_key h)
 ·obtain⟨z,J,M⟩:=rd_val h;obtain⟨z1,z2⟩:=z;dsimp only at M;subst M;unfold elemAt at J
  split at J
  case isFalse=>cases J
  rename_i E;obtain⟨f,hu,ho,ht⟩:=kQ;obtain⟨ps,rs,va,V⟩:=kR
  cases n with
  |zero=>simp[DataW.trod]at J
  |succ n=>
   unfold Value.formed at E;rw[hu,XP]at E
   cases hv:e.val with
   |agg cs=>
    rw[hv]at J E;simp only[beq_iff_eq]at E
    obtain⟨v,rfl⟩:∃ v,cs=#[v]:=by
     obtain⟨l⟩:=cs
     match l,E with
     |[v],_=>exact⟨v,rfl⟩
    have I:DataW.trod (funcToken Tryz.prog) Tryz.prog W 0 (fun _=>true) true (n+1) 196 [v]=some (.agg [.held (b::r)],z2):=J;rw[DataW.trod_step]at I;unfold DataW.trodStep at I;rw[hu]at I;simp[XP,ho,ht,lL]at I
    obtain⟨q,hq⟩:∃ q,DataW.trod (funcToken Tryz.prog) Tryz.prog W 0 (fun _=>true) true n 194 [v]=some (.held (b::r),q):=by
     rw[Az]at I;obtain⟨⟨y1,y2⟩,h1,Y⟩:=I;simp at Y;exact⟨y2,by rw[h1,Y.1]⟩
    rw[func_of_trod V U hq]
   |_=>rw[hv]at E; simp at E
def X2:List (Lit×DataW (List UInt8)):=[(.int .i64 3,.agg [.held [119,97,103,111,110,112,111,111,108,47,109,111,110,101,121,46,65,100,100]]),(.int .i64 4,.agg [.held [119,97,103,111,110,112,111,111,108,47,109,111,110,101,121,46,83,117,98]]),(.int .i64 5,.agg [.held [119,97,103,111,110,112,111,111,108,47,109,111,110,101,121,46,77,117,108]]),(.int .i64 6,.agg [.held [119,97,103,111,110,112,111,111,108,47,116,118,109,46,98,105,110,97,114,105,101,115,36,49]]),(.int .i64 7,.agg [.held [119,97,103,111,110,112,111,111,108,47,116,118,109,46,98,105,110,97,114,105,101,115,36,50]]),(.int .i64 8,.agg [.held [119,97,103,111,110,112,111,111,108,47,116,118,109,46,98,105,110,97,114,105,101,115,36,51]]),(.int .i64 9,.agg [.held [119,97,103,111,110,112,111,111,108,47,116,118,109,46,98,105,110,97,114,105,101,115,36,52]]),(.int .i64 10,.agg [.held [119,97,103,111,110,112,111,111,108,47,116,118,109,46,98,105,110,97,114,105,101,115,36,53]]),(.int .i64 11,.agg [.held [119,97,103,111,110,112,111,111,108,47,116,118,109,46,98,105,110,97,114,105,101,115,36,54]])]
set_option maxRecDepth 20000 in
theorem Yoy{W:World}(h:funcsAt Tryz.prog W "wagonpool/tvm.binaries" binsD):∃ b es clock,W.cell? ⟨0,0,none⟩=some (.map (some b))∧W.heap[b]?=some (.map es clock)∧Ny (.map es clock)=true∧gn es Fx:=by
 obtain⟨g,t,cs,fuel,p,hg,ht,hv,hd⟩:=h;obtain rfl:=AB (gB.symm.trans hg);obtain rfl:=AB (tB.symm.trans ht);have hd':DataW.trod (funcToken Tryz.prog) Tryz.prog W 0 (fun _=>true) true fuel 198 cs.toList=some (.map X2,p):=hd;rcases open_map kP hd' with⟨_,hx⟩ | ⟨b,es,clock,n,rfl,hcs,hb,_,F,hx⟩
 ·cases hx
 simp only[AD,DataW.map.injEq]at hx
 have mem:∀ y,y∈X2↔y∈es.toList.map (rg Tryz.prog 3 (elemAt (funcToken Tryz.prog) Tryz.prog W 0 (fun _=>true) true n 196)):=fun y=>by
  rw[hx.1]; exact(Go.WideShapes.sorted_perm _).mem_iff
 have ent:∀ e∈es.toList,∃ k f,e.key=.int .i64 k∧e.val=.agg #[.func (.func f) #[] #[]]∧f<5000000∧Gp k Fx=some f:=by
  intro e he;obtain⟨y,hy⟩:=F.reads e he;have hm:y∈X2:=(mem y).2 (AX.2 ⟨e,he,rg_of hy⟩);simp only[X2,Aw,AE,or_false]at hm;rcases hm with rfl | rfl | rfl | rfl | rfl | rfl | rfl | rfl | rfl
  ·obtain⟨h1,h2⟩:=OF (f0:=231) (by kernel_rfl) hy; exact⟨_,_,h1,h2,by decide,rfl⟩
  ·obtain⟨h1,h2⟩:=OF (f0:=232) (by kernel_rfl) hy; exact⟨_,_,h1,h2,by decide,rfl⟩
  ·obtain⟨h1,h2⟩:=OF (f0:=233) (by kernel_rfl) hy; exact⟨_,_,h1,h2,by decide,rfl⟩
  ·obtain⟨h1,h2⟩:=OF (f0:=234) (by kernel_rfl) hy; exact⟨_,_,h1,h2,by decide,rfl⟩
  ·obtain⟨h1,h2⟩:=OF (f0:=235) (by kernel_rfl) hy; exact⟨_,_,h1,h2,by decide,rfl⟩
  ·obtain⟨h1,h2⟩:=OF (f0:=236) (by kernel_rfl) hy; exact⟨_,_,h1,h2,by decide,rfl⟩
  ·obtain⟨h1,h2⟩:=OF (f0:=238) (by kernel_rfl) hy; exact⟨_,_,h1,h2,by decide,rfl⟩
  ·obtain⟨h1,h2⟩:=OF (f0:=239) (by kernel_rfl) hy; exact⟨_,_,h1,h2,by decide,rfl⟩
  ·obtain⟨h1,h2⟩:=OF (f0:=240) (by kernel_rfl) hy; exact⟨_,_,h1,h2,by decide,rfl⟩
 have all:∀ k∈Fx.map (·.1),∃ e∈es.toList,e.key=.int .i64 k:=by
  intro k hk
  have hkL:∃ d,(Lit.int .i64 k,d)∈X2:=by
   simp only[Fx,Ax,Bk,Aw,AE,or_false]at hk;rcases hk with rfl | rfl | rfl | rfl | rfl | rfl | rfl | rfl | rfl
   ·exact⟨_,Bb⟩
   ·exact⟨_,Ar _ (Bb)⟩
   ·exact⟨_,Ar _ (Ar _ (Bb))⟩
   ·exact⟨_,Ar _ (Ar _ (Ar _ (Bb)))⟩
   ·exact⟨_,Ar _ (Ar _ (Ar _ (Ar _ (Bb))))⟩
   ·exact⟨_,Ar _ (Ar _ (Ar _ (Ar _ (Ar _ (Bb)))))⟩
   ·exact⟨_,Ar _ (Ar _ (Ar _ (Ar _ (Ar _ (Ar _ (Bb))))))⟩
   ·exact⟨_,Ar _ (Ar _ (Ar _ (Ar _ (Ar _ (Ar _ (Ar _ (Bb)))))))⟩
   ·exact⟨_,Ar _ (Ar _ (Ar _ (Ar _ (Ar _ (Ar _ (Ar _ (Ar _ (Bb))))))))⟩
  obtain⟨d,hd⟩:=hkL;obtain⟨e,he,hre⟩:=AX.1 ((mem _).1 hd);obtain⟨y,hy⟩:=F.reads e he;obtain⟨k',f,h1,h2,_⟩:=ent e he;rw[rg_of hy]at hre;subst hre;have hk:=zJ (rd_key hy);exact⟨e,he,hk⟩
 have hc0:W.cell? ⟨0,0,none⟩=some (.map (some b)):=by
  rw[World.var?_cell hg hv 0];obtain⟨l⟩:=cs;have:l=[.map (some b)]:=hcs;rw[this]; rfl
 have hsp:Ny (.map es clock)=true:=by
  rw[gU];obtain⟨e,he,_⟩:=all 3 (by decide)
  have hlt:0<es.size:=by
   have:=List.length_pos_of_mem he;simpa using this
  rw[BD hlt];obtain⟨k,f,_,h2,_⟩:=ent es[0] (by simp);simp only[h2];rfl
 refine⟨b,es,clock,hc0,hb,hsp,fun e he=>?_,fun k f hf=>?_⟩
 ·exact ent e he
 ·exact all k (sX hf)
theorem globGG{W:World}(hk:Lib.TabIs Tryz.prog W "wagonpool/digest.k" .u32 (Sha.K.map fun x=>(x.toNat:Int)))(gk:Tryz.prog.globalNamed "wagonpool/digest.k"=some 1)(h:funcsAt Tryz.prog W "wagonpool/tvm.binaries" binsD):GlobOK GG W (La W):=by
 intro n d hd;unfold GG at hd
 split at hd
 ·rename_i e;subst e;simp only[AN]at hd;subst hd;obtain⟨b,es,clock,h1,h2,h3,h4⟩:=Yoy h
  have hj:∀ (j:Nat) (d:D),(D.gmap Fx).cells[j]?=some d→j=0∧d=.gmap Fx:=fun j d hd=>by
   cases j with
   |zero=>exact⟨rfl,(AB hd).symm⟩
   |succ j=>cases hd
  refine .eptr _ 0 _ 0 (fun _=>.map (some b)) (fun j d hd=>?_) (fun j d hd=>?_) (fun j d hd=>?_)
  ·obtain⟨rfl,rfl⟩:=hj j d hd; rfl
  ·obtain⟨rfl,rfl⟩:=hj j d hd;exact⟨by show(W.cell? ⟨_,0,none⟩).isSome=true; rw[h1]; rfl,h1⟩
  ·obtain⟨rfl,rfl⟩:=hj j d hd;exact .gmap _ b es clock h2 h3 h4
 ·exact Yxr hk gk n d hd
end Go.Proofs.YtijnglngaogdjaaGreatDoor.PI
namespace Go.Proofs.YtijnglngaogdjaaGreatDoor.PI
open Go
set_option linter.unusedSimpArgs false
set_option linter.unusedVariables false
theorem YCs(n:Nat):Ds .mul (.int .u64 (n:Int)) (.int .u64 8)=some (qD (C7 n*8)):=by
 have e:(n:Int)*8=((n*8:Nat):Int):=by omega
 simp only[Ds,if_true,Lb,Ag,e,Ug,qD]
 congr 3
 simp
theorem lO:D.int .u8 128=Dn 128:=rfl
theorem b0:D.int .u8 0=Dn 0:=rfl
theorem xP(n:Nat)(σ:List Nat)(x:UInt64):Ez n σ (qD x)=qD x:=rfl
theorem YCc(x:UInt64):hk (qD x)=[]:=rfl
variable {α:Type}
theorem yD4(l:List (List α))(i:Nat):(l.take i).flatten.length≤l.flatten.length:=by
 have:l.flatten=(l.take i).flatten++(l.drop i).flatten:=by rw[← List.flatten_append,Bl]
 rw[this,Ab];omega
theorem vS(s:Sha.St8):∀ (i:Nat) (m:List UInt8),Sha.blocks s (i+1) m=Sha.block (Sha.blocks s i m) ((m.drop (64*i)).take 64)
 |0,m=>by simp[Sha.blocks]
 |i+1,m=>by
  rw[Sha.blocks,vS (Sha.block s (m.take 64)) i (m.drop 64),Sha.blocks,Bx,show 64+64*i=64*(i+1) by omega]
theorem yYj(m:List UInt8):(Sha.padded m).length=m.length+1+Sha.zeros m.length+8∧(Sha.padded m).length % 64=0:=by
 have h:(Sha.padded m).length=m.length+1+Sha.zeros m.length+8:=by
  simp[Sha.padded,Sha.lenB_length]; omega
 refine⟨h,?_⟩;rw[h]; unfold Sha.zeros; omega
def Lz(l:List UInt32)(i:Nat):List UInt8:=Sha.outB l i++CQ (32 - i) 0
theorem wo(l:List UInt32)(i:Nat)(h:i≤32):(Lz l i).length=32:=by
 simp[Lz,Sha.outB_length]; omega
theorem Ym5(l:List UInt32)(i:Nat)(h:i<32):(Lz l i).set i ((l.getD (i / 4) 0 >>> UInt32.ofNat (24 - 8*(i % 4))).toUInt8)=Lz l (i+1):=by
 have E:(Sha.outB l i).length=i:=Sha.outB_length l i;unfold Lz;rw[Sha.outB,Ce _ _ (by omega),E,BG,show 32 - i=(32 - (i+1))+1 by omega,B0,Bv,Ak];rfl
def my(sz key tot off:Nat):D:=if off<tot then .row key tot off (tot - off)else .slc sz [] false
variable {key off sz tot:Nat}
theorem jO(h:off<tot):my sz key tot off=.row key tot off (tot - off):=if_pos h
theorem se(h:¬ off<tot):my sz key tot off=.slc sz [] false:=if_neg h
noncomputable def bV:List D→Option D:=Dl (α:=List (List UInt8)) (fun a=>[.slc (nz 1 (a.map LZ)) (a.map LZ) false]) (fun a=>a.flatten.length≤4294960000∧a.length≤4294960000) (fun a=>C9 (Mu a.flatten))
theorem Ypy(ps:List (List UInt8))(h:ps.flatten.length≤4294960000∧ps.length≤4294960000):bV [.slc (nz 1 (ps.map LZ)) (ps.map LZ) false]=some (C9 (Mu ps.flatten)):=
 D7 (fun a b h=>by simp only[Aa,D.slc.injEq,Yy7,and_true]at h; simp[h]) (ps) h
set_option maxHeartbeats 4000000 in
set_option maxRecDepth 20000 in
theorem VJ(ps:List (List UInt8))(h:ps.flatten.length≤4294960000∧ps.length≤4294960000):@wW GG (tb [(159,jJ)] []) ZA.code (Dc [.slc (nz 1 (ps.map LZ)) (ps.map LZ) false]) [] ⟨Dq ZA.res (C9 (Mu ps.flatten))⟩:=by
 obtain⟨h,bb⟩:=h;generalize hm:ps.flatten=m at h;unfold ZA;simp only[push_cast,↓reduceIte,CI,Ynd 1]
 refine F0 (fun i:Nat=>[(2,.ptr 0 0),(3,D6 0 1 ((ps.take i).flatten.map Dn)),(10,.slc (nz 1 (ps.map LZ)) (ps.map LZ) false),(11,.int .i64 (ps.length:Int)),(12,.int .i64 (i:Int))])
  (fun i=>⟨false,1,C8 Dt,false⟩::Dz 1 ((ps.take i).flatten.map Dn)) (fun i=>i≤ps.length) (fun i=>ps.length - i) 0 (by simp only[push_cast,↓reduceIte,CI,CP,CM,↓CL] <;> rfl) (by omega) ?_
 intro i hi;unfold nY;simp only[push_cast,↓reduceIte,CI];refine E3 (fun h1=>?_) (fun h1=>?_)
 ·have e:(ps.take (i+1)).flatten=(ps.take i).flatten++ps.getD i default:=by
   rw[um ps i (by omega),List.flatten_append]; simp
  have hl:=yD4 ps (i+1);rw[e,Ab,hm]at hl;simp (disch:=first|omega|decide) only[push_cast,↓reduceIte,CI,CP,CM,KH,DM];refine E5 (i+1) (by omega) (by omega) ?_;rw[e];simp only[push_cast] <;> rfl
 ·obtain rfl:i=ps.length:=by omega
  rw[Bj,hm];have V:(m++[128]).map Dn≠[]:=by simp
  simp (disch:=first|omega|decide) only[push_cast,↓reduceIte,CI,cH,YCs,lO,Sd _ _ _ V,QH _ _ V];generalize hq:C7 m.length*8=q
  refine F0 (fun j:Nat=>[(2,.ptr 0 0),(3,.row 1 (m++[128]++CQ j 0).length 0 (m++[128]++CQ j 0).length),(6,qD q)])
   (fun j=>[⟨false,1,C8 Dt,false⟩,⟨true,1,(m++[128]++CQ j 0).map Dn,false⟩]) (fun j=>j≤Sha.zeros m.length) (fun j=>Sha.zeros m.length - j) 0 (by simp only[push_cast,↓reduceIte,CI,CP,CM,CJ,List.replicate_zero,Ad] <;> rfl) (by omega) ?_
  intro j hj;have hlen:(m++[128]++CQ j 0).length=m.length+1+j:=by simp; omega
  have bc:(m.length+1+Sha.zeros m.length) % 64=56:=by unfold Sha.zeros; omega
  have hz:Sha.zeros m.length<64:=by unfold Sha.zeros; omega
  unfold nZ;simp (disch:=first|omega|decide) only[push_cast,↓reduceIte,CI,YCb];refine E3 (fun h2=>?_) (fun h2=>?_)
  ·obtain rfl:j=Sha.zeros m.length:=by
    unfold Sha.zeros at hj ⊢; omega
   simp only[push_cast,↓reduceIte,CJ];have Y:(m++[128]++CQ (Sha.zeros m.length) 0)=(m++[128]++CQ (Sha.zeros m.length) 0)++Sha.lenB q 0:=(Ad _).symm;generalize hM:m++[128]++CQ (Sha.zeros m.length) 0=M at hlen Y h2
   refine F0 (fun j:Nat=>[(2,.ptr 0 0),(3,.row 1 (M++Sha.lenB q j).length 0 (M++Sha.lenB q j).length),(6,qD q),(7,.int .i64 (56 - 8*(j:Int)))])
    (fun j=>[⟨false,1,C8 Dt,false⟩,⟨true,1,(M++Sha.lenB q j).map Dn,false⟩]) (fun j=>j≤8) (fun j=>8 - j) 0 (by rw[← Y]; simp only[push_cast,↓reduceIte,CI,CP,CM,CJ,C4,C3,↓CL] <;> rfl) (by omega) ?_
   intro j hj;have aa:(M++Sha.lenB q j).length=M.length+j:=by rw[Ab,Sha.lenB_length]
   unfold n6;simp only[push_cast,↓reduceIte,CI];refine E3 (fun U=>?_) (fun U=>?_)
   ·have e:(56 - 8*(j:Int)).toNat=56 - 8*j:=by omega
    have e2:M++Sha.lenB q (j+1)=(M++Sha.lenB q j)++[(q >>> C7 (56 - 8*j)).toUInt8]:=by rw[Sha.lenB,Ak]
    simp (disch:=first|omega|decide) only[push_cast,↓reduceIte,CI,CP,CM,CJ,YBy,Yyh,e,Fy];refine E5 (j+1) (by omega) (by omega) ?_;rw[e2];have e4:(56 - 8*(j:Int) - 8)=56 - 8*((j+1:Nat):Int):=by omega
    simp only[push_cast,xP,YCc,e4] <;> rfl
   ·obtain rfl:j=8:=by omega
    have hP:M++Sha.lenB q 8=Sha.padded m:=by rw[← hM,← hq]; rfl
    rw[hP];rw[hP]at aa;obtain⟨ae,af⟩:=yYj m;have ah:Mu m=⟨Sha.outB (Sha.blocks Sha.H0 ((Sha.padded m).length / 64) (Sha.padded m)).list 32,Sha.outB_length _ 32⟩:=rfl;rw[ah];generalize Sha.padded m=E at aa ae af;have hH:Sha.H0.list.length=8:=rfl;have bd:(zW 8).length=8:=rfl;simp (disch:=omega) only[push_cast,↓reduceIte,CI,CJ,Int.reduceLE,CO,C4,C3,↓CL,YEk]
    refine F0 (fun j:Nat=>[(2,.ptr 0 0),(3,my 1 1 E.length (64*j)),(8,.ptr 2 0)])
     (fun j=>[⟨false,1,C8 Dt,false⟩,⟨true,1,E.map Dn,false⟩,⟨false,1,(Sha.blocks Sha.H0 j E).list.map wD,false⟩]) (fun j=>j≤E.length / 64) (fun j=>E.length / 64 - j) 0 (by rw[jO (by omega)]; simp only[push_cast,↓reduceIte,CI,CP,CM,CJ,CN,CO] <;> rfl) (by omega) ?_
    intro j hj;unfold n7;rcases Ba (64*j) E.length with h4 | h4
    ·have be:((E.drop (64*j)).take 64).length=64:=by simp; omega
     have J:=vS Sha.H0 j E;generalize Sha.blocks Sha.H0 j E=I at J;have a1:I.list.length=8:=rfl;have bf:(Sha.block I ((E.drop (64*j)).take 64)).list.length=8:=rfl;have c1:((0:Int)<((E.length - 64*j:Nat):Int)):=by omega
     have c2:((0:Int)<(E.length:Int) - 64*(j:Int)):=by omega
     have c3:¬ (64=E.length - 64*j)∨E.length - 64*j=64:=by omega
     rw[jO h4]
     by_cases h5:E.length - 64*j=64
     ·simp (disch:=omega) only[push_cast,↓reduceIte,CI,CP,CM,CJ,CT,CU,↓CL,Yb7,uo,h5];refine E5 (j+1) (by omega) (by omega) ?_;rw[se (by omega),J]
     ·have h6:¬ 64=E.length - 64*j:=fun e=>h5 e.symm;simp (disch:=omega) only[push_cast,↓reduceIte,CI,CP,CM,CJ,Nat.reduceSub,CU,↓CL,c2,Yb7,uo,h6];refine E5 (j+1) (by omega) (by omega) ?_;rw[jO (by omega),J];simp only[Nat.mul_add,BP,Nat.sub_sub]
    ·obtain rfl:j=E.length / 64:=by omega
     rw[se (by omega)];generalize Sha.blocks Sha.H0 (E.length / 64) E=I;have a1:I.list.length=8:=rfl;simp only[push_cast,↓reduceIte,CI,CJ,CT]
     refine F0 (fun j:Nat=>[(2,.ptr 0 0),(8,.ptr 2 0),(55,.int .i64 (j:Int))])
      (fun j=>[⟨false,1,(Lz I.list j).map Dn,false⟩,⟨true,1,E.map Dn,false⟩,⟨false,1,I.list.map wD,false⟩]) (fun j=>j≤32) (fun j=>32 - j) 0 (by simp only[push_cast,↓reduceIte,CI,CP,CM,CJ,↓CL] <;> rfl) (by omega) ?_
     intro j hj;unfold n8;simp only[push_cast,↓reduceIte,CI];refine E3 (fun h6=>?_) (fun h6=>?_)
     ·have a3:=wo I.list j (by omega);have a4:=Ym5 I.list j (by omega);have e1:((j:Int) / 4).toNat=j / 4:=by omega
      have e2:(24 - 8*((j:Int) % 4)).toNat=24 - 8*(j % 4):=by omega
      simp (disch:=omega) only[push_cast,↓reduceIte,CI,CP,CM,CJ,Yc,YCb,Nn,Fy,DM,PZ,xR,Yyg,e1,e2];refine E5 (j+1) (by omega) (by omega) ?_;rw[← a4];simp only[push_cast] <;> rfl
     ·obtain rfl:j=32:=by omega
      have a3:=wo I.list 32 (by omega);simp (disch:=omega) only[push_cast,↓reduceIte,CI,CJ,CT,↓CL];rw[show Lz I.list 32=Sha.outB I.list 32 from Ad _];rfl
  ·simp (disch:=first|omega|decide) only[push_cast,↓reduceIte,CI,CP,CM,CJ,b0]
   have h9:j<Sha.zeros m.length:=by
    rcases Ba j (Sha.zeros m.length)with U | U
    ·exact U
    ·exfalso;obtain rfl:j=Sha.zeros m.length:=by omega
     omega
   refine E5 (j+1) (by omega) (by omega) ?_
   have e:m++[128]++CQ (j+1) 0=(m++[128]++CQ j 0)++[0]:=by
    rw[List.replicate_succ',Ak,Ak,Ak]
   rw[e];simp only[push_cast,xP,YCc] <;> rfl
theorem XI:Contract Tryz.prog GG 116 bV:=
 Eg yIi (DJ (all_cons Yy4 all_nil) all_nil) (fun a h=>VJ a h)
noncomputable def SL:List D→Option D:=Dl (α:=List UInt8×List UInt8) (fun a=>[.str a.1,.slc (nz 1 (a.2.map Dn)) (a.2.map Dn) false]) (fun a=>a.1.length+a.2.length≤4294900000) (fun a=>C9 (Sn a.1 a.2))
theorem fw(t:List UInt8)(b:List UInt8)(h:t.length+b.length≤4294900000):SL [.str t,.slc (nz 1 (b.map Dn)) (b.map Dn) false]=some (C9 (Sn t b)):=
 D7 (fun⟨a0,a1⟩ ⟨b0,b1⟩ h=>by simp only[Aa,D.slc.injEq,D.str.injEq,sE,and_true]at h; simp[h]) (t,b) h
theorem Yik(x:UInt8)(t b:List UInt8)(h:t.length+b.length≤4294950000) :
  bV [.slc 1 [.slc 1 [Dn x] false,.slc (nz 1 (t.map Dn)) (t.map Dn) false,.slc (nz 1 (b.map Dn)) (b.map Dn) false] false]=some (C9 (Mu (x::(t++b)))):=by
 have:=Ypy [[x],t,b] ⟨by simp; omega,by simp⟩;rw[show([[x],t,b]:List (List UInt8)).flatten=x::(t++b) by simp]at this;exact this
set_option maxHeartbeats 4000000 in
set_option maxRecDepth 20000 in
theorem Yki(t:List UInt8)(b:List UInt8)(h:t.length+b.length≤4294900000):@wW GG (tb [(116,bV)] []) Z9.code (Dc [.str t,.slc (nz 1 (b.map Dn)) (b.map Dn) false]) [] ⟨Dq Z9.res (C9 (Sn t b))⟩:=by
 unfold Z9;have I:(min (t.length:Int) 255).toNat=min t.length 255:=by omega
 have J:t.take (min t.length 255)=t.take 255:=by
  rcases Nat.le_total t.length 255 with E | E
  ·rw[BR E,Bj,AG E]
  ·rw[Nat.min_eq_right E]
 have hl:(t.take 255).length≤255:=by simp; omega
 have M:(t.take 255).length≤t.length:=by simp; omega
 simp (disch:=omega) only[push_cast,↓reduceIte,CI,yX0,I,J,MM,Yik];rfl
theorem iJ:Contract Tryz.prog GG 62 SL:=
 Eg yAj (DJ (all_cons XI all_nil) all_nil) (fun a h=>Yki a.1 a.2 h)
set_option maxHeartbeats 8000000
set_option maxRecDepth 20000
def nI(n:Int):D:=.int .i64 n
variable {a b:Int}
theorem YCq:nI a=nI b↔a=b:=by simp[nI]
theorem Sy{a b:List Int}:a.map nI=b.map nI↔a=b:=⟨PV fun _ _=>YCq.1,fun h=>by rw[h]⟩
theorem mz(n:Int):IntKind.wrap .u64 n=n % 18446744073709551616:=rfl
theorem jP{n:Int}(E:0≤n)(I:n<18446744073709551616):IntKind.wrap .u64 n=n:=by rw[mz]; omega
theorem XZ(E:0≤a+b)(I:a+b<18446744073709551616):Ds .add (.int .u64 a) (.int .u64 b)=some (.int .u64 (a+b)):=by
 simp only[Ds,if_true,Lb,Ag,jP E I]
theorem WH(E:0≤a*b)(I:a*b<18446744073709551616):Ds .mul (.int .u64 a) (.int .u64 b)=some (.int .u64 (a*b)):=by
 simp only[Ds,if_true,Lb,Ag,jP E I]
theorem YCr(a b:Int):Ds .mul (.int .u64 a) (.int .u64 b)=some (.int .u64 ((a*b) % 18446744073709551616)):=by
 rfl
theorem yL8(E:0≤a)(I:a<18446744073709551616):(CR 64 a).toNat=a.toNat:=by
 grind
theorem Yq8(E:0≤a)(I:a<18446744073709551616):Ds .and (.int .u64 a) (.int .u64 4294967295)=some (.int .u64 (a % 4294967296)):=by
 have h:(CR (IntKind.bits .u64) a &&& CR (IntKind.bits .u64) 4294967295).toNat=(a % 4294967296).toNat:=by
  show(CR 64 a &&& CR 64 4294967295).toNat=_
  rw[CE,yL8 E I,show(CR 64 4294967295).toNat=2 ^ 32 - 1 from rfl,BH];omega
 simp only[Ds,if_true,Li,Ag,h];rw[jP (by omega) (by omega)]
 congr 2
 omega
theorem du(I:0≤a)(hb:0≤b)(E:a≤4294967295)(J:b≤4294967295):0≤a*b∧a*b≤18446744065119617025:=by
 refine⟨Int.mul_nonneg I hb,?_⟩;have M:a*b≤4294967295*b:=Cf E hb;omega
theorem mul4(a b c d:Int):a*b*(c*d)=a*c*(b*d):=by rw[Int.mul_assoc,Int.mul_left_comm b,← Int.mul_assoc]
theorem Yes(x y:Int):x*y=(x / 4294967296)*(y / 4294967296)*18446744073709551616+((x / 4294967296)*(y % 4294967296)+(x % 4294967296)*(y / 4294967296))*4294967296+(x % 4294967296)*(y % 4294967296):=by
 have E:x=(x / 4294967296)*4294967296+x % 4294967296:=(Cg x 4294967296).symm;have I:y=(y / 4294967296)*4294967296+y % 4294967296:=(Cg y 4294967296).symm
 conv=>lhs; rw[E,I]
 grind
noncomputable def cK:List D→Option D:=Dl (α:=Int×Int) (fun a=>[.int .u64 a.1,.int .u64 a.2]) (fun a=>0≤a.1∧a.1<18446744073709551616∧0≤a.2∧a.2<18446744073709551616) (fun a=>.tup [.int .u64 (a.1*a.2 / 18446744073709551616),.int .u64 (a.1*a.2 % 18446744073709551616)])
theorem sG(x:Int)(y:Int)(h:0≤x∧x<18446744073709551616∧0≤y∧y<18446744073709551616):cK [.int .u64 x,.int .u64 y]=some (.tup [.int .u64 (x*y / 18446744073709551616),.int .u64 (x*y % 18446744073709551616)]):=
 D7 (fun⟨a0,a1⟩ ⟨b0,b1⟩ h=>by simp only[Aa,D.int.injEq,true_and,and_true]at h; simp[h]) (x,y) h
theorem YAw(x:Int)(y:Int)(h:0≤x∧x<18446744073709551616∧0≤y∧y<18446744073709551616):@wW GG (tb [] []) aG.code (Dc [.int .u64 x,.int .u64 y]) [] ⟨Dq aG.res (.tup [.int .u64 (x*y / 18446744073709551616),.int .u64 (x*y % 18446744073709551616)])⟩:=by
 obtain⟨I,J,M,U⟩:=h;have e:=Yes x y;have ha:=du (a:=x / 4294967296) (b:=y / 4294967296) (by omega) (by omega) (by omega) (by omega);have hb:=du (a:=x / 4294967296) (b:=y % 4294967296) (by omega) (by omega) (by omega) (by omega);have hc:=du (a:=x % 4294967296) (b:=y / 4294967296) (by omega) (by omega) (by omega) (by omega);have V:=du (a:=x % 4294967296) (b:=y % 4294967296) (by omega) (by omega) (by omega) (by omega);unfold aG;simp (disch:=omega) only[push_cast,↓reduceIte,CI,CU,C0,Yq8,Oi,WH,XZ,YCr x y];rw[e];generalize (x / 4294967296)*(y / 4294967296)=a at*;generalize (x / 4294967296)*(y % 4294967296)=b at*;generalize (x % 4294967296)*(y / 4294967296)=c at*;generalize (x % 4294967296)*(y % 4294967296)=d at*;have E:a+(b+d / 4294967296) / 4294967296+((b+d / 4294967296) % 4294967296+c) / 4294967296=(a*18446744073709551616+(b+c)*4294967296+d) / 18446744073709551616:=by omega
 rw[E]
theorem xq:Contract Tryz.prog GG 169 cK:=
 Eg yv7 (DJ all_nil all_nil) (fun a h=>YAw a.1 a.2 h)
def Gh(x:Int):Bool:=decide (-9007199254740992≤x) && decide (x≤9007199254740992)
theorem PQ{x:Int}:Gh x=true↔-9007199254740992≤x∧x≤9007199254740992:=by simp[Gh]
theorem zO{x:Int}:Gh x=false↔x < -9007199254740992∨9007199254740992<x:=by
 rw[← Bool.not_eq_true,PQ]; omega
variable {i:Nat}
theorem Yph{l:List Int}(h:i<l.length):(l.drop i).all Gh=(Gh (l.getD i default) && (l.drop (i+1)).all Gh):=by
 rw[A9 h,A0];grind
noncomputable def OH:List D→Option D:=Dl (α:=List Int) (fun a=>[.slc (nz 1 (a.map nI)) (a.map nI) false]) (fun a=>a.length≤65536) (fun a=>.bool (a.all Gh))
theorem sH(l:List Int)(h:l.length≤65536):OH [.slc (nz 1 (l.map nI)) (l.map nI) false]=some (.bool (l.all Gh)):=
 D7 (fun a b h=>by simp only[Aa,D.slc.injEq,and_true,Sy]at h; simp[h]) (l) h
theorem YAo(l:List Int)(h:l.length≤65536):@wW GG (tb [] []) Y1.code (Dc [.slc (nz 1 (l.map nI)) (l.map nI) false]) [] ⟨Dq Y1.res (.bool (l.all Gh))⟩:=by
 unfold Y1;simp (disch:=first|omega|decide) only[push_cast,↓reduceIte,CI];refine F0 (fun i:Nat=>[(5,.slc (nz 1 (l.map nI)) (l.map nI) false),(6,.int .i64 (l.length:Int)),(7,.int .i64 (i:Int))]) (fun _=>[]) (fun i=>i≤l.length∧l.all Gh=(l.drop i).all Gh) (fun i=>l.length - i) 0 (by simp only[push_cast,↓reduceIte,CI,↓CL] <;> rfl) ⟨A4 _,rfl⟩ ?_;rintro i ⟨hi,E⟩;unfold nJ;simp (disch:=first|omega|decide) only[push_cast,↓reduceIte,CI,CO];refine E3 (fun Y=>?_) (fun Y=>?_)
 ·have V:i<l.length:=by omega
  rw[Yph V]at E
  have I:∀ st:St,GX st 1 (.slc (nz 1 (l.map nI)) (l.map nI) false) (.int .i64 (i:Int))=some (.eptr (nI (l.getD i default)) 0):=fun st=>by
   have:=KH st 1 nI l false .i64 (i:Int) (by omega) (by omega);grind
  generalize l.getD i default=x at*
  cases J:Gh x with
  |true=>
   obtain⟨h5,h6⟩:=PQ.1 J;rw[J,Bu]at E;have M:¬ (x < -9007199254740992):=by omega
   have U:¬ (9007199254740992<x):=by omega
   simp (disch:=first|omega|decide) only[push_cast,↓reduceIte,CI,CO,I,nI,M,U,DM];refine E5 (i+1) (by exact⟨by omega,E⟩) (by omega) ?_;rfl
  |false=>
   rw[J,Bool.false_and]at E
   by_cases M:x < -9007199254740992
   ·simp (disch:=first|omega|decide) only[push_cast,↓reduceIte,CI,CO,I,nI,M,E]
   ·have U:9007199254740992<x:=by have:=zO.1 J; omega
    simp (disch:=first|omega|decide) only[push_cast,↓reduceIte,CI,CO,I,nI,M,U,E]
 ·obtain rfl:i=l.length:=by omega
  rw[Bg]at E;simp (disch:=first|omega|decide) only[push_cast,↓reduceIte,CO,E,Ct]
theorem U1:Contract Tryz.prog GG 241 OH:=
 Eg yQb (DJ all_nil all_nil) (fun a h=>YAo a h)
def KR(c:Int):Int×Int:=if Gh c then(c,0)else(0,3)
theorem Gg(a:Int):Ft 1 [.int .i64 a]=some (.slc 1 [.int .i64 a] true):=(rfl)
theorem Ha(a b:Int):Ft 1 [.int .i64 a,.int .i64 b]=some (.slc 1 [.int .i64 a,.int .i64 b] true):=(rfl)
theorem eh:((9:Int)=8)=False:=by decide
theorem Pm:((10:Int)=8)=False:=by decide
theorem Pl:((10:Int)=9)=False:=by decide
theorem Xz:((8:Int)=10)=False:=by decide
theorem Xy:((9:Int)=10)=False:=by decide
theorem Yp7(a:Int):OH [.slc 1 [.int .i64 a] false]=some (.bool (Gh a)):=by
 have:=sH [a] (by simp);simpa[nI,nz]using this
theorem cY(a b:Int):OH [.slc 1 [.int .i64 a,.int .i64 b] false]=some (.bool (Gh a && Gh b)):=by
 have:=sH [a,b] (by simp);simpa[nI,nz]using this
noncomputable def cU:List D→Option D:=Dl (α:=Int) (fun a=>[.int .i64 a]) (fun a=>True) (fun a=>.tup [.int .i64 (KR a).1,.int .i64 (KR a).2])
theorem sI(c:Int):cU [.int .i64 c]=some (.tup [.int .i64 (KR c).1,.int .i64 (KR c).2]):=
 D7 (fun a b h=>by simp only[Aa,D.int.injEq,true_and,and_true]at h; simp[h]) (c) trivial
theorem YAn(c:Int):@wW GG (tb [(241,OH)] []) Z5.code (Dc [.int .i64 c]) [] ⟨Dq Z5.res (.tup [.int .i64 (KR c).1,.int .i64 (KR c).2])⟩:=by
 unfold Z5 KR;have:=Yp7 c;cases hc:Gh c <;> rw[hc]at this <;> simp (disch:=first|omega|decide) only[push_cast,↓reduceIte,CI,Gg,this]
theorem xu:Contract Tryz.prog GG 242 cU:=
 Eg yB6 (DJ (all_cons U1 all_nil) all_nil) (fun a h=>YAn a)
def Ib(a b:Int):Int×Int:=if Gh a && Gh b then KR (a+b)else(0,3)
def H3(a b:Int):Int×Int:=if Gh a && Gh b then KR (a - b)else(0,3)
noncomputable def dU:List D→Option D:=Dl (α:=Int×Int) (fun a=>[.int .i64 a.1,.int .i64 a.2]) (fun a=>True) (fun a=>.tup [.int .i64 (Ib a.1 a.2).1,.int .i64 (Ib a.1 a.2).2])
theorem Yam(a:Int)(b:Int):dU [.int .i64 a,.int .i64 b]=some (.tup [.int .i64 (Ib a b).1,.int .i64 (Ib a b).2]):=
 D7 (fun⟨a0,a1⟩ ⟨b0,b1⟩ h=>by simp only[Aa,D.int.injEq,true_and,and_true]at h; simp[h]) (a,b) trivial
theorem Ytf(a:Int)(b:Int):@wW GG (tb [(241,OH),(242,cU)] []) Zr.code (Dc [.int .i64 a,.int .i64 b]) [] ⟨Dq Zr.res (.tup [.int .i64 (Ib a b).1,.int .i64 (Ib a b).2])⟩:=by
 unfold Zr Ib;have E:=cY a b;have I:=sI (a+b)
 cases hc:Gh a && Gh b with
 |false=>rw[hc]at E; simp (disch:=first|omega|decide) only[push_cast,↓reduceIte,CI,Ha,E]
 |true=>
  rw[hc]at E;simp only[Af,PQ]at hc;simp (disch:=first|omega|decide) only[push_cast,↓reduceIte,CI,Ha,E,I,DM]
theorem Yyx:Contract Tryz.prog GG 231 dU:=
 Eg yL6 (DJ (all_cons U1 (all_cons xu all_nil)) all_nil) (fun a h=>Ytf a.1 a.2)
noncomputable def dW:List D→Option D:=Dl (α:=Int×Int) (fun a=>[.int .i64 a.1,.int .i64 a.2]) (fun a=>True) (fun a=>.tup [.int .i64 (H3 a.1 a.2).1,.int .i64 (H3 a.1 a.2).2])
theorem Yak(a:Int)(b:Int):dW [.int .i64 a,.int .i64 b]=some (.tup [.int .i64 (H3 a b).1,.int .i64 (H3 a b).2]):=
 D7 (fun⟨a0,a1⟩ ⟨b0,b1⟩ h=>by simp only[Aa,D.int.injEq,true_and,and_true]at h; simp[h]) (a,b) trivial
theorem Ytc(a:Int)(b:Int):@wW GG (tb [(241,OH),(242,cU)] []) Y9.code (Dc [.int .i64 a,.int .i64 b]) [] ⟨Dq Y9.res (.tup [.int .i64 (H3 a b).1,.int .i64 (H3 a b).2])⟩:=by
 unfold Y9 H3;have E:=cY a b;have I:=sI (a - b)
 cases hc:Gh a && Gh b with
 |false=>rw[hc]at E; simp (disch:=first|omega|decide) only[push_cast,↓reduceIte,CI,Ha,E]
 |true=>
  rw[hc]at E;simp only[Af,PQ]at hc;simp (disch:=first|omega|decide) only[push_cast,↓reduceIte,CI,Ha,E,I,Fy]
theorem Yyv:Contract Tryz.prog GG 232 dW:=
 Eg yL3 (DJ (all_cons U1 (all_cons xu all_nil)) all_nil) (fun a h=>Ytc a.1 a.2)
theorem WD(E:0<a)(I:a<18446744073709551616):NC .neg (.int .u64 a)=some (.int .u64 (18446744073709551616 - a)):=by
 have e:(0 - a) % 18446744073709551616=18446744073709551616 - a:=by omega
 simp only[NC,mz,e]
theorem dj(st:St):FT st (.int .u64) (.int .i64 a)=some (.int .u64 (a % 18446744073709551616)):=by
 rfl
noncomputable def T5:List D→Option D:=Dl (α:=Int) (fun a=>[.int .i64 a]) (fun a=>Gh a=true) (fun a=>.int .u64 (if a<0 then -a else a))
theorem uy(a:Int)(h:Gh a=true):T5 [.int .i64 a]=some (.int .u64 (if a<0 then -a else a)):=
 D7 (fun a b h=>by simp only[Aa,D.int.injEq,true_and,and_true]at h; simp[h]) (a) h
theorem Ytg(a:Int)(h:Gh a=true):@wW GG (tb [] []) Za.code (Dc [.int .i64 a]) [] ⟨Dq Za.res (.int .u64 (if a<0 then -a else a))⟩:=by
 obtain⟨M,U⟩:=PQ.1 h;unfold Za
 by_cases E:a<0
 ·have I:(a % 18446744073709551616)=18446744073709551616+a:=by omega
  have J:18446744073709551616 - (18446744073709551616+a)=-a:=by omega
  simp (disch:=first|omega|decide) only[push_cast,↓reduceIte,CI,E,dj,I,WD,J]
 ·simp (disch:=first|omega|decide) only[push_cast,↓reduceIte,CI,E,cH]
theorem Yyy:Contract Tryz.prog GG 243 T5:=
 Eg yL2 (DJ all_nil all_nil) (fun a h=>Ytg a h)
def IE(a:Int):Int:=if a<0 then -a else a
def H5(a b:Int):Int×Int:=if Gh a && Gh b then KR (a*b)else(0,3)
theorem YF7(a b:Int):IE a*IE b=IE (a*b):=by
 unfold IE;rcases Ch a 0 with E | E <;> rcases Ch b 0 with I | I
 ·have:=Int.mul_pos_of_neg_of_neg E I;grind
 ·have:=Int.mul_nonpos_of_nonpos_of_nonneg (Int.le_of_lt E) I;rw[if_pos E,if_neg (by omega),Int.neg_mul];omega
 ·have:=Int.mul_nonpos_of_nonneg_of_nonpos E (Int.le_of_lt I);rw[if_neg (by omega),if_pos I,Int.mul_neg];omega
 ·have:=Int.mul_nonneg E I;grind
theorem lQ(h:Gh a=true):0≤IE a∧IE a≤9007199254740992:=by
 have:=PQ.1 h;unfold IE; split <;> omega
theorem X1(a:Int):Gh a=decide (IE a≤9007199254740992):=by
 cases h:Gh a with
 |true=>simp[(lQ h).2]
 |false=>
  have:=zO.1 h
  symm
  rw[decide_eq_false_iff_not];unfold IE; split <;> omega
noncomputable def dV:List D→Option D:=Dl (α:=Int×Int) (fun a=>[.int .i64 a.1,.int .i64 a.2]) (fun a=>True) (fun a=>.tup [.int .i64 (H5 a.1 a.2).1,.int .i64 (H5 a.1 a.2).2])
theorem Yal(a:Int)(b:Int):dV [.int .i64 a,.int .i64 b]=some (.tup [.int .i64 (H5 a b).1,.int .i64 (H5 a b).2]):=
 D7 (fun⟨a0,a1⟩ ⟨b0,b1⟩ h=>by simp only[Aa,D.int.injEq,true_and,and_true]at h; simp[h]) (a,b) trivial
theorem Ytd(a:Int)(b:Int):@wW GG (tb [(241,OH),(243,T5),(169,cK)] []) Y8.code (Dc [.int .i64 a,.int .i64 b]) [] ⟨Dq Y8.res (.tup [.int .i64 (H5 a b).1,.int .i64 (H5 a b).2])⟩:=by
 unfold Y8 H5;have E:=cY a b
 cases hc:Gh a && Gh b with
 |false=>rw[hc]at E; simp (disch:=first|omega|decide) only[push_cast,↓reduceIte,CI,Ha,E]
 |true=>
  rw[hc]at E;simp only[Af]at hc;have c1:T5 [.int .i64 a]=some (.int .u64 (IE a)):=uy a hc.1;have M:T5 [.int .i64 b]=some (.int .u64 (IE b)):=uy b hc.2;have l1:=lQ hc.1;have U:=lQ hc.2;have J:=sG (IE a) (IE b) (by omega);have e:=YF7 a b;have ei:=X1 (a*b);have hn:0≤IE a*IE b:=Int.mul_nonneg l1.1 U.1;have hb:IE a*IE b≤9007199254740992*9007199254740992:=Int.le_trans (Cf l1.2 U.1) (by omega);rw[e]at J hn hb
  have hm:IE (a*b)≤9007199254740992→-9007199254740992≤a*b∧a*b≤9007199254740992:=fun h=>by
   unfold IE at h; split at h <;> omega
  have hmul:-9007199254740992≤a*b→a*b≤9007199254740992→Ds .mul (.int .i64 a) (.int .i64 b)=some (.int .i64 (a*b)):=fun h1 E=>Nn (by omega) (by omega);unfold KR;rw[ei];generalize a*b=m at*;generalize IE m=z at*
  by_cases V:z / 18446744073709551616=0
  ·have h9:z % 18446744073709551616=z:=by omega
   rw[V,h9]at J
   by_cases Y:9007199254740992<z
   ·have I:¬ z≤9007199254740992:=by omega
    simp (disch:=first|omega|decide) only[push_cast,↓reduceIte,CI,Ha,E,c1,M,J,Y,I]
   ·have I:z≤9007199254740992:=by omega
    have h6:=hm I;have c4:Ds .mul (.int .i64 a) (.int .i64 b)=some (.int .i64 m):=hmul h6.1 h6.2;simp (disch:=first|omega|decide) only[push_cast,↓reduceIte,CI,Ha,E,c1,M,J,Y,I,c4]
  ·have I:¬ z≤9007199254740992:=by omega
   simp (disch:=first|omega|decide) only[push_cast,↓reduceIte,CI,Ha,E,c1,M,J,V,I]
theorem Yyw:Contract Tryz.prog GG 233 dV:=
 Eg yL4 (DJ (all_cons U1 (all_cons Yyy (all_cons xq all_nil))) all_nil) (fun a h=>Ytd a.1 a.2)
theorem Yuf(a:Int)(hb:0<b):-(IE a)≤a.tdiv b∧a.tdiv b≤IE a:=by
 unfold IE;rcases Ch a 0 with h | h
 ·have e:a.tdiv b=-((-a) / b):=by
   rw[← Bq (by omega),Int.neg_tdiv,Int.neg_neg]
  have E:=BY b (show 0≤-a by omega);have I:=BB (show 0≤-a by omega) (show 0≤b by omega);omega
 ·have e:a.tdiv b=a / b:=Bq h;have E:=BY b h;have I:=BB h (show 0≤b by omega);omega
theorem Ta(hb:0<b)(E:-9223372036854775808<a)(I:a<9223372036854775808):Ds .quo (.int .i64 a) (.int .i64 b)=some (.int .i64 (a.tdiv b)):=by
 have J:=Yuf a hb;have M:IE a<9223372036854775808:=by unfold IE; split <;> omega
 simp only[Ds,if_true,Lb,show ¬ b=0 by omega,if_false,Ag,OU (show -9223372036854775808≤a.tdiv b by omega) (show a.tdiv b<9223372036854775808 by omega)]
theorem Tb(hb:0<b):Ds .rem (.int .i64 a) (.int .i64 b)=some (.int .i64 (a.tmod b)):=by
 simp only[Ds,if_true,Lb,show ¬ b=0 by omega,if_false,Ag]
def NL(a b:Int):Int:=(if a.tmod b<0 then a - b else a).tdiv b
def TD(a b:Int):Int:=(if 0<a.tmod b then a+b else a).tdiv b
def Ew(a b m:Int):Int×Int:=if Gh a && Gh b then(if b≤0 then(0,70)else(if m=10 then NL (2*a+b) (2*b)else if m=8 then NL a b else TD a b,0))else(0,3)
noncomputable def T6:List D→Option D:=Dl (α:=Int×Int×Int) (fun a=>[.int .i64 a.1,.int .i64 a.2.1,.int .i64 a.2.2]) (fun a=>a.2.2=8∨a.2.2=9∨a.2.2=10) (fun a=>.tup [.int .i64 (Ew a.1 a.2.1 a.2.2).1,.int .i64 (Ew a.1 a.2.1 a.2.2).2])
theorem eW(a:Int)(b:Int)(m:Int)(h:m=8∨m=9∨m=10):T6 [.int .i64 a,.int .i64 b,.int .i64 m]=some (.tup [.int .i64 (Ew a b m).1,.int .i64 (Ew a b m).2]):=
 D7 (fun⟨a0,a1,E⟩ ⟨b0,b1,I⟩ h=>by simp only[Aa,D.int.injEq,true_and,and_true]at h; simp[h]) (a,b,m) h
theorem Yte(a:Int)(b:Int)(m:Int)(h:m=8∨m=9∨m=10):@wW GG (tb [(241,OH)] []) Zs.code (Dc [.int .i64 a,.int .i64 b,.int .i64 m]) [] ⟨Dq Zs.res (.tup [.int .i64 (Ew a b m).1,.int .i64 (Ew a b m).2])⟩:=by
 unfold Zs Ew;have E:=cY a b
 cases hc:Gh a && Gh b with
 |false=>
  rw[hc]at E;rcases h with rfl | rfl | rfl <;> simp (disch:=first|omega|decide) only[push_cast,↓reduceIte,CI,Ha,eh,Pm,Pl,E]
 |true=>
  rw[hc]at E;simp only[Af,PQ]at hc;obtain⟨⟨a1,J⟩,b1,M⟩:=hc
  by_cases hb:b≤0
  ·rcases h with rfl | rfl | rfl <;> simp (disch:=first|omega|decide) only[push_cast,↓reduceIte,CI,Ha,eh,Pm,Pl,E,hb]
  ·unfold NL TD;rcases h with rfl | rfl | rfl
   ·by_cases I:a.tmod b<0
    ·simp (disch:=first|omega|decide) only[push_cast,↓reduceIte,CI,Ha,Xz,E,hb,Tb,I,Fy,Ta]
    ·simp (disch:=first|omega|decide) only[push_cast,↓reduceIte,CI,Ha,Xz,E,hb,Tb,I,Ta]
   ·by_cases I:0<a.tmod b
    ·simp (disch:=first|omega|decide) only[push_cast,↓reduceIte,CI,Ha,eh,Xy,E,hb,Tb,I,DM,Ta]
    ·simp (disch:=first|omega|decide) only[push_cast,↓reduceIte,CI,Ha,eh,Xy,E,hb,Tb,I,Ta]
   ·by_cases I:(2*a+b).tmod (2*b)<0
    ·simp (disch:=first|omega|decide) only[push_cast,↓reduceIte,CI,Ha,Pm,Pl,E,hb,Nn,DM,Tb,I,Fy,Ta]
    ·simp (disch:=first|omega|decide) only[push_cast,↓reduceIte,CI,Ha,Pm,Pl,E,hb,Nn,DM,Tb,I,Ta]
theorem gF:Contract Tryz.prog GG 237 T6:=
 Eg yL5 (DJ (all_cons U1 all_nil) all_nil) (fun a h=>Yte a.1 a.2.1 a.2.2 h)
noncomputable def FI(R:List D→St→D×St→Prop):List D→St→Option (D×St):=fun ds st=>@dite _ (∃ r,R ds st r) (Classical.propDecidable _) (fun h=>some h.choose) (fun _=>none)
variable {r:D×St}{st:St}{ds:List D}
theorem Jy{R:List D→St→D×St→Prop}(h:FI R ds st=some r):R ds st r:=by
 unfold FI at h
 split at h
 ·rename_i E;simp only[AN]at h;rw[← h]; exact E.choose_spec
 ·cases h
theorem Yu8{R:List D→St→D×St→Prop}(h:R ds st r)(J:∀ E,R ds st E→E=r):FI R ds st=some r:=by
 have I:∃ r,R ds st r:=⟨r,h⟩;unfold FI;rw[dif_pos I,J _ I.choose_spec]
def IF(R:List D→St→D×St→Prop):Prop:=∀ ds st r r',R ds st r→R ds st r'→r=r'
theorem Mg{R:List D→St→D×St→Prop}(E:IF R)(h:R ds st r):FI R ds st=some r:=Yu8 h fun I J=>E ds st I r J h
def StOK(st:St):Prop:=∀ o∈st,o.row=false→∀ x∈o.els,Ez st.length [] x=x
theorem ug(n:Nat):∀ (l acc:List Nat),Fa n n l acc=acc
 |[],acc=>rfl
 |k::r,acc=>by
  rw[Fa,if_neg (by omega)];exact ug n r acc
theorem Nb{α:Type}{f:α→α}:∀ {l:List α},(∀ x∈l,f x=x)→l.map f=l
 |[],_=>rfl
 |a::l,h=>by rw[Ax,h a (by simp),Nb fun x E=>h x (by simp[E])]
theorem Yc9(h:StOK st):st.map (Fq st.length [])=st:=by
 refine Nb fun o E=>?_;obtain⟨row,sz,els,lent⟩:=o
 cases row with
 |true=>rfl
 |false=>
  show(⟨false,sz,els.map (Ez st.length []),lent⟩:Obj)=_
  rw[Nb (h _ E rfl)]
variable {fr:Frame}{keep:List Nat}
theorem fK(h:StOK st):restrict keep st.length ⟨fr,st⟩=⟨Gn (Kh fr st.length [] keep),st⟩:=by
 unfold restrict;simp only[Ay,if_true,ug];unfold restrictAt;rw[TT];simp only[picked,Bk,Ad,Bj,Yc9 h]
variable {n:Nat}
theorem Us{m:Nat}(f:Nat→D)(I:∀ k,f k≠.junk)(E:n≤m)(h:JL f (E6 n [] key)=f key):JL f (E6 m [] key)=f key:=by
 unfold E6 at h ⊢
 by_cases hk:key<n
 ·rw[if_pos (AZ hk E)]; rfl
 ·rw[if_neg hk]at h;exact absurd h.symm (I key)
variable {x:D}
theorem tR{m:Nat}(E:n≤m)(h:G5 n [] x=x):G5 m [] x=x:=by
 cases x with
 |row key tot off len=>exact Us (fun k=>.row k tot off len) (fun k e=>by cases e) E h
 |bsl key off j sz ag=>exact Us (fun k=>.bsl k off j sz ag) (fun k e=>by cases e) E h
 |ptr key off=>exact Us (fun k=>.ptr k off) (fun k e=>by cases e) E h
 |rptr key tot i off=>exact Us (fun k=>.rptr k tot i off) (fun k e=>by cases e) E h
 |mapv key=>exact Us .mapv (fun k e=>by cases e) E h
 |_=>exact h
theorem Rm{f:D→D}:∀ {l:List D},l.map f=l→∀ x∈l,f x=x
 |[],_,x,E=>by cases E
 |a::l,h,x,E=>by
  simp only[Ax,Aa]at h;rcases Aw.1 E with rfl | E
  ·exact h.1
  ·exact Rm h.2 x E
theorem tT{m:Nat}(E:n≤m)(h:ER n [] x=x):ER m [] x=x:=by
 cases x with
 |clo f l=>
  simp only[ER,D.clo.injEq,true_and]at h ⊢;exact Nb fun y I=>tR E (Rm h y I)
 |_=>unfold ER at h ⊢; exact tR E h
theorem Yl5{m:Nat}(E:n≤m)(h:Ez n [] x=x):Ez m [] x=x:=by
 cases x with
 |agg l=>
  simp only[Ez,D.agg.injEq]at h ⊢;exact Nb fun y I=>tT E (Rm h y I)
 |tup l=>unfold Ez at h ⊢; exact h
 |_=>unfold Ez at h ⊢; exact tT E h
theorem StOK.nil:StOK []:=fun _ h=>by cases h
theorem StOK.app(h:StOK st)(l:St)(hl:∀ o∈l,o.row=false→∀ x∈o.els,Ez (st.length+l.length) [] x=x):StOK (st++l):=by
 intro o E I x J;rw[Ab];rcases AO.1 E with E | E
 ·exact Yl5 (Nat.le_add_right _ _) (h o E I x J)
 ·exact hl o E I x J
theorem StOK.set(h:StOK st)(k:Nat)(o:Obj)(M:o.row=false→∀ x∈o.els,Ez st.length [] x=x):StOK (st.set k o):=by
 intro q E I x J;rw[BS];rcases BW E with E | rfl
 ·exact h q E I x J
 ·exact M I x J
theorem r8(n m:Nat):∀ (l acc:List Nat),(∀ k∈l,k<n)→Fa n m l acc=acc
 |[],acc,_=>rfl
 |k::r,acc,h=>by
  have:=h k (by simp);rw[Fa,if_neg (by omega)];exact r8 n m r acc fun x E=>h x (by simp[E])
theorem yJm{l:St}(h:StOK st)(M:∀ o∈st,o.row=false→∀ x∈o.els,∀ k∈hk x,k<st.length)(hf:∀ s∈keep,∀ k∈hk (fr s),k<st.length) :
  restrict keep st.length ⟨fr,st++l⟩=⟨Gn (Kh fr st.length [] keep),st⟩:=by
 have hle:st.length≤(st++l).length:=by simp
 have U:(st++l).take st.length=st:=by simp
 unfold restrict;simp only[hle,if_true]
 rw[r8 _ _ _ _ (fun k I=>by
  simp only[Vb,U,AO,Bo]at I;rcases I with⟨s,hs,V⟩ | ⟨o,ho,E⟩
  ·exact hf s hs k V
  ·cases J:o.row with
   |true=>rw[J]at E; simp at E
   |false=>
    rw[J]at E;simp only[Ap,if_false,Bo]at E;obtain⟨x,hx,Y⟩:=E;exact M o ho J x hx k Y)]
 unfold restrictAt;rw[TT];simp only[picked,Bk,Ad,U,Yc9 h]
def Ip:Nat→Nat→Nat
 |0,_=>0
 |n+1,u=>if u=0 then 0 else Ip n (u / 256)+1
theorem Yut(n:Nat):Ip n 0=0:=by cases n <;> rfl
theorem gT(n u:Nat):Ip (n+1) u=if u=0 then 0 else Ip n (u / 256)+1:=(rfl)
theorem vj:∀ (n u:Nat),u<256 ^ n→Ip (n+1) u=Ip n u
 |0,u,h=>by
  have:u=0:=by simpa using h
  subst this; rfl
 |n+1,u,h=>by
  rw[gT (n+1) u,gT n u]
  split
  ·rfl
  ·rw[vj n (u / 256) (by rw[Cu]at h; omega)]
theorem SD:∀ (n u:Nat),Ip n u≤n
 |0,_=>Ay _
 |n+1,u=>by
  rw[Ip]
  split
  ·omega
  ·have:=SD n (u / 256); omega
def YBw(ds:List D)(st:St)(r:D×St):Prop:=∃ u:Nat,StOK st∧u<18446744073709551616∧ds=[.int .u64 (u:Int)]∧r=(.int .i64 (Ip 8 u:Int),st)
noncomputable def gR:List D→St→Option (D×St):=FI YBw
theorem Ylm:IF YBw:=by
 rintro ds st r E ⟨u,_,_,rfl,rfl⟩ ⟨I,_,_,h,rfl⟩;grind
theorem yXk{u:Nat}(h:u≠0)(E:u<256 ^ n):Ip n u=Ip n (u / 256)+1:=by
 cases n with
 |zero=>simp at E; omega
 |succ n=>
  rw[gT n u,if_neg h,vj n (u / 256) (by rw[Cu]at E; omega)]
theorem Yyn:IContract Tryz.prog GG 209 gR:=by
 refine JR (T:=tb [] []) yub (DJ all_nil all_nil) ?_;intro ds st r U;obtain⟨u,E,hu,rfl,rfl⟩:=Jy U;unfold oK;simp (disch:=first|omega|decide) only[push_cast];refine F0 (fun p:Nat×Nat=>[(0,.int .u64 (p.1:Int)),(2,.int .i64 (p.2:Int))]) (fun _=>st) (fun p=>p.1<18446744073709551616∧Ip 8 u=Ip 8 p.1+p.2) (fun p=>p.1) (u,0) (by simp only[push_cast,↓reduceIte,CI,↓fK E] <;> rfl) ⟨hu,rfl⟩ ?_;rintro⟨w,k⟩ ⟨hw,hk⟩;have Y:=SD 8 u;dsimp only at hw hk;unfold oY;simp (disch:=first|omega|decide) only[push_cast,↓reduceIte];refine E3 (fun V=>?_) (fun V=>?_)
 ·have I:w≠0:=by omega
  have hs:=yXk (n:=8) I (by omega)
  have J:Ds .shr (.int .u64 (w:Int)) (.int .u64 8)=some (.int .u64 ((w / 256:Nat):Int)):=by
   rw[Oi (by omega) (by omega)]; rfl
  simp (disch:=first|omega|decide) only[push_cast,↓reduceIte,CI,↓CL,↓fK E,J,DM];refine E5 (w / 256,k+1) (by dsimp only; omega) (by dsimp only; omega) ?_;rfl
 ·obtain rfl:w=0:=by omega
  rw[Yut]at hk;have M:Ip 8 u=k:=by omega
  rw[M];simp (disch:=first|omega|decide) only[push_cast,↓reduceIte,CI,CT,↓CL]
def Od(st:St)(b:D)(l:List UInt8):Prop:=(b=.slc 0 [] true∧l=[])∨∃ key,b=.row key l.length 0 l.length∧l≠[]∧st[key]?=some ⟨true,1,l.map Dn,false⟩
def JM(st:St)(b:D)(l m:List UInt8):D×St:=match b with
 |.row key _ _ _=>(.row key (l++m).length 0 (l++m).length,st.set key ⟨true,1,(l++m).map Dn,false⟩)
 |_=>(.row st.length m.length 0 m.length,st++[⟨true,1,m.map Dn,false⟩])
variable {l:List UInt8}
theorem Yjk{b:D}{I:List UInt8}(h:Od st b l)(J:Od st b I):l=I:=by
 rcases h with⟨rfl,rfl⟩ | ⟨key,rfl,hl,hk⟩
 ·rcases J with⟨_,rfl⟩ | ⟨key,h,_⟩
  ·rfl
  ·cases h
 ·rcases J with⟨h,_⟩ | ⟨M,h,_,E⟩
  ·cases h
  ·simp only[D.row.injEq]at h;obtain⟨rfl,_⟩:=h;rw[hk]at E;simp only[Db,Obj.mk.injEq,true_and,and_true]at E;exact QY E
variable {m:List UInt8}
theorem YGf{b:D}(h:StOK st):StOK (JM st b l m).2:=by
 unfold JM
 split
 ·exact h.set _ _ fun e=>by cases e
 ·exact h.app _ fun o E I=>by
   grind
theorem Ub{b:D}(h:Od st b l)(hm:m≠[])(hl:l.length+m.length≤4294967296)(t:Bool):Em st 1 1 b (.slc 1 (m.map Dn) t)=some (JM st b l m):=by
 have E:m.map Dn≠[]:=by simpa using hm
 have I:nz 1 (m.map Dn)=1:=by
  cases hc:m.map Dn with
  |nil=>exact absurd hc E
  |cons a r=>rfl
 rcases h with⟨rfl,rfl⟩ | ⟨key,rfl,J,hk⟩
 ·have:=u5 Dn st 1 0 1 m t (by decide) (by omega) (by simp at hl; omega);rw[I,Sd _ _ _ E,QH _ _ E,Bd]at this;exact this
 ·rw[kI,hk];have he:Hw st (.slc 1 (m.map Dn) t)=some (1,m.map Dn):=(rfl);rw[he,lT l m false hl];simp only[Ag,JM,Bd]
def DR(st:St)(key:Nat)(l:List UInt8):St:=st.set key ⟨true,1,l.map Dn,false⟩
theorem ft(st:St)(key:Nat)(l:List UInt8):(DR st key l).length=st.length:=BS
theorem iG(h:key<st.length)(l:List UInt8):(DR st key l)[key]?=some ⟨true,1,l.map Dn,false⟩:=by simp[DR,h]
theorem Yjj(st:St)(key:Nat)(l m:List UInt8):DR (DR st key l) key m=DR st key m:=by simp[DR]
theorem Vt(h:StOK st)(key:Nat)(l:List UInt8):StOK (DR st key l):=h.set _ _ fun e=>by cases e
theorem pJ(h:key<st.length)(l m:List UInt8)(hm:m≠[])(hl:l.length+m.length≤4294967296)(t:Bool) :
  Em (DR st key l) 1 1 (.row key l.length 0 l.length) (.slc 1 (m.map Dn) t)=some (.row key (l++m).length 0 (l++m).length,DR st key (l++m)):=by
 by_cases E:l=[]
 ·subst E;rw[kI,iG h];have he:Hw (DR st key []) (.slc 1 (m.map Dn) t)=some (1,m.map Dn):=(rfl);rw[he,lT [] m false hl];simp only[Ag,Bd];simp only[DR,List.set_set]
 ·rw[Ub (.inr ⟨key,rfl,E,iG h l⟩) hm hl t];simp only[JM];simp only[DR,List.set_set]
theorem Yt(h:key<st.length)(l:List UInt8)(x:UInt8)(hl:l.length<4294967296)(t:Bool) :
  Em (DR st key l) 1 1 (.row key l.length 0 l.length) (.slc 1 [Dn x] t)=some (.row key (l++[x]).length 0 (l++[x]).length,DR st key (l++[x])):=
 pJ h l [x] (by simp) (by simp; omega) t
theorem uS{b:D}(h:Od st b l)(hm:m≠[]):∃ key st1,key<st1.length∧JM st b l m=(.row key (l++m).length 0 (l++m).length,DR st1 key (l++m))∧(StOK st→StOK st1)∧
  ∀ n,JM st b l (m++n)=(.row key (l++(m++n)).length 0 (l++(m++n)).length,DR st1 key (l++(m++n))):=by
 rcases h with⟨rfl,rfl⟩ | ⟨key,rfl,hl,hk⟩
 ·refine⟨st.length,st++[⟨true,1,[],false⟩],by simp,?_,fun h=>h.app _ fun o I J=>?_,fun n=>?_⟩
  ·simp[JM,DR]
  ·grind
  ·simp[JM,DR]
 ·have E:=(Ac.1 hk).1;exact⟨key,st,E,rfl,id,fun n=>rfl⟩
theorem ZL(h:StOK st)(hn:n=st.length):restrict keep n ⟨fr,st⟩=⟨Gn (Kh fr n [] keep),st⟩:=by
 subst hn; exact fK h
def Jt(u k:Nat):List UInt8:=(CS k).map fun i=>CW (u / 2 ^ (8*(k - 1 - i)))
theorem fT(u k:Nat):(Jt u k).length=k:=by simp[Jt]
variable {k:Nat}
theorem yS8{u:Nat}(h:i<k):(Jt u k).take (i+1)=(Jt u k).take i++[CW (u / 2 ^ (8*(k - 1 - i)))]:=by
 rw[List.take_add_one]
 congr 1
 simp[Jt,h]
def Eu(n:Int):Nat:=(n % 18446744073709551616).toNat
def MY(a:Nat):Nat:=18446744073709551615 - a
theorem Yod(a:Nat):MY a<18446744073709551616:=by unfold MY; omega
def Jd(n:Int):List UInt8:=
 if 0≤n then CW (32+Ip 8 (Eu n))::Jt (Eu n) (Ip 8 (Eu n))
 else CW (31 - Ip 8 (MY (Eu n)))::Jt (Eu n) (Ip 8 (MY (Eu n)))
theorem Yk0{a:Nat}(h:a<18446744073709551616):NC .xor (.int .u64 (a:Int))=some (.int .u64 (MY a:Int)):=by
 unfold MY
 have E:Li .xor .u64 (if IntKind.u64.signed then -1 else IntKind.u64.max) (a:Int)=some ((18446744073709551615 - a:Nat):Int):=by
  unfold Li;have J:IntKind.u64.bits=64:=rfl;have I:(if IntKind.u64.signed then(-1:Int)else IntKind.u64.max)=18446744073709551615:=by decide
  rw[I];simp only
  have:(CR IntKind.u64.bits 18446744073709551615 ^^^ CR IntKind.u64.bits (a:Int)) = ~~~ (BitVec.ofNat 64 a):=by
   rfl
  rw[this]
  show some (IntKind.wrap .u64 (((~~~ (BitVec.ofNat 64 a):BitVec 64).toNat:Nat):Int))=_
  rw[BitVec.toNat_not,BitVec.toNat_ofNat,A7 (by omega)]
  show some (IntKind.wrap .u64 ((2 ^ 64 - 1 - a:Nat):Int))=_
  congr 1
  rw[mz];omega
 simp only[NC,E,Ag]
def Xc(ds:List D)(st:St)(r:D×St):Prop:=∃ (b:D) (l:List UInt8) (n:Int),StOK st∧Od st b l∧l.length≤4294967000∧ds=[b,.int .i64 n]∧r=JM st b l (Jd n)
noncomputable def Vz:List D→St→Option (D×St):=FI Xc
theorem Yq9:IF Xc:=by
 rintro ds st r I ⟨b,l,n,_,hb,_,rfl,rfl⟩ ⟨b',J,M,_,E,_,h,rfl⟩;simp only[Aa,D.int.injEq,true_and,and_true]at h;obtain⟨rfl,rfl⟩:=h;rw[Yjk hb E]
theorem Yiu{b:D}(n:Int)(E:StOK st)(I:Od st b l)(J:l.length≤4294967000):Vz [b,.int .i64 n] st=some (JM st b l (Jd n)):=Mg Yq9 ⟨b,l,n,E,I,J,rfl,rfl⟩
theorem ti(u:Nat)(E:StOK st)(I:u<18446744073709551616):gR [.int .u64 (u:Int)] st=some (.int .i64 (Ip 8 u:Int),st):=Mg Ylm ⟨u,E,I,rfl,rfl⟩
theorem QO(h:key<n):E6 n [] key=some key:=if_pos h
theorem Ybk(n:Int):Eu n<18446744073709551616:=by unfold Eu; omega
theorem iA(n:Int):n % 18446744073709551616=(Eu n:Int):=by unfold Eu; omega
theorem Va(x:UInt8):Ft 1 [Dn x]=some (.slc 1 [Dn x] true):=(rfl)
theorem X3(st:St)(x:UInt8):DX st (Dn x)=some (Dn x):=(rfl)
theorem U4(x:UInt8):keys (Dn x)=[]:=(rfl)
theorem sK(st:St)(k:Nat):FT st (.int .u8) (.int .i64 (32+(k:Int)))=some (Dn (CW (32+k))):=by
 rfl
theorem Yhv(st:St)(h:k≤31):FT st (.int .u8) (.int .i64 (31 - (k:Int)))=some (Dn (CW (31 - k))):=by
 rw[MM st (by omega),show(31 - (k:Int)).toNat=31 - k by omega]
theorem yZ9(st:St)(u m:Nat):FT st (.int .u8) (.int .u64 ((u:Int) / 2 ^ m))=some (Dn (CW (u / 2 ^ m))):=by
 rfl
/- the loop's part: the tag is laid -/
theorem Yba(T:Tbl)(st1:St)(key:Nat)(E:key<st1.length)(M:StOK st1)(l0:List UInt8)(n:Int)(k:Nat)(hk:k≤8)(hl:l0.length≤4294967200)(fr:Frame)(Q:Ex→Frame→St→Prop)
  (h0:fr 0=.row key l0.length 0 l0.length) (h1:fr 1=.int .i64 n) (h6:fr 6=.int .i64 (k:Int)) (U:fr 30=.int .i64 (k:Int)) (V:fr 31=.int .i64 0)
  (hQ:∀ I,I 0=.row key (l0++Jt (Eu n) k).length 0 (l0++Jt (Eu n) k).length→Q (.exit 0) I (DR st1 key (l0++Jt (Eu n) k))) :
  @wW GG T (.loop [0,1,6,30,31] gg) fr (DR st1 key l0) ⟨Q⟩:=by
 have hlen:=ft st1 key;have Y:∀ (fr:Frame) (m:List UInt8),restrict [0,1,6,30,31] (DR st1 key l0).length ⟨fr,DR st1 key m⟩=⟨Gn (Kh fr st1.length [] [0,1,6,30,31]),DR st1 key m⟩:=fun fr m=>by rw[ZL (Vt M key m) (by rw[hlen,hlen]),hlen]
 refine F0 (fun i:Nat=>[(0,.row key (l0++(Jt (Eu n) k).take i).length 0 (l0++(Jt (Eu n) k).take i).length),(1,.int .i64 n),(6,.int .i64 (k:Int)),(30,.int .i64 (k:Int)),(31,.int .i64 (i:Int))])
  (fun i=>DR st1 key (l0++(Jt (Eu n) k).take i)) (fun i=>i≤k) (fun i=>k - i) 0 ?_ (by omega) ?_
 ·rw[Y];simp (disch:=omega) only[push_cast,↓CL,h0,h1,h6,U,V,QO] <;> rfl
 intro i hi;unfold gg;have hb:=fT (Eu n) k;have ht:((Jt (Eu n) k).take i).length=i:=by rw[AK]; omega
 simp (disch:=first|omega|decide) only[push_cast,↓reduceIte,CI];refine E3 (fun h2=>?_) (fun h2=>?_)
 ·have e1:((8*((k:Int) - 1 - (i:Int)))).toNat=8*(k - 1 - i):=by omega
  have J:=fun x=>Yt (st:=st1) E (l0++(Jt (Eu n) k).take i) x (by rw[Ab]; omega) true;simp (disch:=first|omega|decide) only[push_cast,↓reduceIte,CI,dj,iA,Fy,Nn,DM,Oi,e1,yZ9,X3,U4,Va,J,↓Y,E];refine E5 (i+1) (by omega) (by omega) ?_;rw[yS8 (by omega),← Ak];rfl
 ·obtain rfl:i=k:=by omega
  have e2:(Jt (Eu n) i).take i=Jt (Eu n) i:=AG (by omega);rw[e2];simp (disch:=first|omega|decide) only[push_cast];exact hQ _ rfl
theorem Yys:IContract Tryz.prog GG 202 Vz:=by
 refine JR (T:=tb [] [(209,gR)]) ywc (DJ all_nil (all_cons Yyn all_nil)) ?_;intro ds st r hr;obtain⟨b,l,n,V,hb,hl,rfl,rfl⟩:=Jy hr;unfold oi;have hs:=ti (st:=st) (Eu n) V (Ybk n);have ab:=SD 8 (Eu n);have hu:=Ybk n
 by_cases hn:n<0
 ·have ac:=ti (st:=st) (MY (Eu n)) V (Yod _);have ad:=SD 8 (MY (Eu n));have Y:Jd n=[CW (31 - Ip 8 (MY (Eu n)))]++Jt (Eu n) (Ip 8 (MY (Eu n))):=if_neg (by omega);rw[Y];generalize Ip 8 (MY (Eu n))=k at*;obtain⟨key,st1,J,M,U,I⟩:=uS hb (m:=[CW (31 - k)]) (by simp);have E:=Ub hb (m:=[CW (31 - k)]) (by simp) (by simp; omega) true;rw[M]at E;have hm:=I (Jt (Eu n) k);simp only[Ax,Bk]at E;rw[hm,← Ak];simp (disch:=first|omega|decide) only[push_cast,↓reduceIte,CI,hn,dj,iA,hs,Yk0,ac,DM,Fy,Yhv,sK,X3,U4,Va,E];refine Yba _ st1 key J (U V) (l++[CW (31 - k)]) n k ad (by simp; omega) _ _ (by simp only[push_cast,↓reduceIte,CI]) (by simp only[push_cast,↓reduceIte,CI]) (by simp only[push_cast,↓reduceIte,CI]) (by simp only[push_cast,↓reduceIte,CI]) (by simp only[push_cast,↓reduceIte]) fun ae hf=>?_;simp (disch:=first|omega|decide) only[push_cast,↓reduceIte,hf]
 ·have Y:Jd n=[CW (32+Ip 8 (Eu n))]++Jt (Eu n) (Ip 8 (Eu n)):=if_pos (by omega);rw[Y];generalize Ip 8 (Eu n)=k at*;obtain⟨key,st1,J,M,U,I⟩:=uS hb (m:=[CW (32+k)]) (by simp);have E:=Ub hb (m:=[CW (32+k)]) (by simp) (by simp; omega) true;rw[M]at E;have hm:=I (Jt (Eu n) k);simp only[Ax,Bk]at E;rw[hm,← Ak];simp (disch:=first|omega|decide) only[push_cast,↓reduceIte,CI,hn,dj,iA,hs,DM,sK,X3,U4,Va,E];refine Yba _ st1 key J (U V) (l++[CW (32+k)]) n k ab (by simp; omega) _ _ (by simp only[push_cast,↓reduceIte,CI]) (by simp only[push_cast,↓reduceIte,CI]) (by simp only[push_cast,↓reduceIte,CI]) (by simp only[push_cast,↓reduceIte,CI]) (by simp only[push_cast,↓reduceIte]) fun ae hf=>?_;simp (disch:=first|omega|decide) only[push_cast,↓reduceIte,hf]
inductive Val where
 |int (n:Int)
 |bytes (b:List UInt8)
 |list (l:List Val)
instance:Inhabited Val:=⟨.int 0⟩
def vC(k n:Int)(B L:List D):List D:=[.int .i64 k,.int .i64 n,.slc (nz 1 B) B false,.slc (nz 4 L) L false]
def vD(k n:Int)(B L:List D):D:=.agg (vC k n B L)
mutual
def De:Val→D
 |.int n=>vD 1 n [] []
 |.bytes b=>vD 2 0 (b.map Dn) []
 |.list l=>vD 3 0 [] (Nv l)
def Nv:List Val→List D
 |[]=>[]
 |v::l=>De v::Nv l
end
mutual
def Ek:Val→Nat
 |.int _=>0
 |.bytes _=>0
 |.list l=>IG l+1
def IG:List Val→Nat
 |[]=>0
 |v::l=>max (Ek v) (IG l)
end
def Ej(c:UInt8):List UInt8:=if c=0 then [0,255]else [c]
mutual
def DD:Val→List UInt8
 |.int n=>Jd n
 |.bytes b=>48::(b.flatMap Ej++[0,0])
 |.list l=>64::(Rt l++[0])
def Rt:List Val→List UInt8
 |[]=>[]
 |v::l=>DD v++Rt l
end
theorem r9:∀ l:List Val,Nv l=l.map De
 |[]=>by simp[Nv]
 |v::l=>by simp[Nv,r9 l]
theorem jd:∀ l:List Val,Rt l=l.flatMap DD
 |[]=>by simp[Rt]
 |v::l=>by simp[Rt,jd l]
theorem iZ:∀ {l:List Val} {v:Val},v∈l→Ek v≤IG l
 |a::l,v,h=>by
  rw[IG];rcases Aw.1 h with rfl | h
  ·omega
  ·exact AS (iZ h) (Nat.le_max_right _ _)
theorem OT(n:Int):De (.int n)=vD 1 n [] []:=by simp[De]
theorem OZ(b:List UInt8):De (.bytes b)=vD 2 0 (b.map Dn) []:=by simp[De]
theorem Q6(l:List Val):De (.list l)=vD 3 0 [] (l.map De):=by simp[De,r9]
theorem jc(n:Int):DD (.int n)=Jd n:=by simp[DD]
theorem YO(b:List UInt8):DD (.bytes b)=48::(b.flatMap Ej++[0,0]):=by simp[DD]
theorem OV(l:List Val):DD (.list l)=64::(l.flatMap DD++[0]):=by simp[DD,jd]
theorem Ypm(n:Int):Ek (.int n)=0:=by simp[Ek]
theorem yZ7(b:List UInt8):Ek (.bytes b)=0:=by simp[Ek]
theorem jV(l:List Val):Ek (.list l)=IG l+1:=by simp[Ek]
def VS(v:Val):List D:=match v with
 |.int n=>vC 1 n [] []
 |.bytes b=>vC 2 0 (b.map Dn) []
 |.list l=>vC 3 0 [] (Nv l)
theorem OX(v:Val):∃ k n B L,VS v=vC k n B L∧De v=vD k n B L:=by
 cases v
 ·exact⟨_,_,_,_,rfl,by simp[De]⟩
 ·exact⟨_,_,_,_,rfl,by simp[De]⟩
 ·exact⟨_,_,_,_,rfl,by simp[De]⟩
theorem ML{k n k' E:Int}{B L I J:List D}(h:vD k n B L=vD k' E I J):k=k'∧n=E∧B=I∧L=J:=by
 simp only[vD,vC,D.agg.injEq,Aa,D.int.injEq,D.slc.injEq,true_and,and_true]at h;grind
mutual
theorem jI:∀ {v v':Val},De v=De v'→v=v'
 |.int n,.int E,h=>by rw[OT,OT]at h; rw[(ML h).2.1]
 |.bytes b,.bytes b',h=>by rw[OZ,OZ]at h; rw[QY (ML h).2.2.1]
 |.list l,.list I,h=>by
  have:=h;simp only[De]at this;rw[ui (ML this).2.2.2]
 |.int n,.bytes b,h=>by rw[OT,OZ]at h; exact absurd (ML h).1 (by decide)
 |.int n,.list b,h=>by rw[OT,Q6]at h; exact absurd (ML h).1 (by decide)
 |.bytes n,.int b,h=>by rw[OT,OZ]at h; exact absurd (ML h).1 (by decide)
 |.bytes n,.list b,h=>by rw[OZ,Q6]at h; exact absurd (ML h).1 (by decide)
 |.list n,.int b,h=>by rw[OT,Q6]at h; exact absurd (ML h).1 (by decide)
 |.list n,.bytes b,h=>by rw[OZ,Q6]at h; exact absurd (ML h).1 (by decide)
theorem ui:∀ {l E:List Val},Nv l=Nv E→l=E
 |[],[],_=>rfl
 |[],_::_,h=>by simp[Nv]at h
 |_::_,[],h=>by simp[Nv]at h
 |a::l,b::E,h=>by
  simp only[Nv,Aa]at h;rw[jI h.1,ui h.2]
end
theorem Ui{v v':Val}:De v=De v'↔v=v':=⟨jI,fun h=>by rw[h]⟩
theorem Ykx{l E:List Val}:l.map De=E.map De↔l=E:=⟨PV fun _ _=>jI,fun h=>by rw[h]⟩
theorem Ql(k n:Int)(B L:List D):DH (vD k n B L)=some (vC k n B L):=(rfl)
theorem UZ:DH (.agg [.int .i64 0,.int .i64 0,.slc 0 [] true,.slc 0 [] true])=some [.int .i64 0,.int .i64 0,.slc 0 [] true,.slc 0 [] true]:=(rfl)
theorem S7(lent:Bool)(k n:Int)(B L:List D):DA (some ⟨false,1,vC k n B L,lent⟩) 1 false 0=some (.int .i64 k):=(rfl)
theorem mj(lent:Bool)(k n:Int)(B L:List D):DA (some ⟨false,1,vC k n B L,lent⟩) 1 false 1=some (.int .i64 n):=(rfl)
theorem ml(lent:Bool)(k n:Int)(B L:List D):DA (some ⟨false,1,vC k n B L,lent⟩) 1 false 2=some (.slc (nz 1 B) B false):=(rfl)
theorem eD(lent:Bool)(k n:Int)(B L:List D):DA (some ⟨false,1,vC k n B L,lent⟩) 1 false 3=some (.slc (nz 4 L) L false):=(rfl)
theorem NI(lent:Bool)(k n:Int)(B L:List D):DA (some ⟨false,1,vC k n B L,lent⟩) 4 true 0=some (vD k n B L):=(rfl)
theorem Wb(k n:Int)(B L:List D):DT (some ⟨false,1,[.int .i64 0,.int .i64 0,.slc 0 [] true,.slc 0 [] true],false⟩) 4 0 (vD k n B L)=some ⟨false,1,vC k n B L,false⟩:=(rfl)
theorem YCf(st:St)(k n:Int)(B L:List D):FF st 4 true (.eptr (vD k n B L) 0)=some (vD k n B L):=(rfl)
theorem ew(st:St)(k n:Int)(B L:List D):DX st (vD k n B L)=some (vD k n B L):=by
 simp only[vD,vC,DX,D5,DC,IJ];rfl
theorem bu(k n:Int)(B L:List D):keys (vD k n B L)=[]:=(rfl)
theorem Xd(k n:Int)(B L:List D):(vC k n B L).flatMap hk=[]:=(rfl)
theorem Wt(m:Nat)(k n:Int)(B L:List D):∀ x∈vC k n B L,Ez m [] x=x:=by
 intro x E;simp only[vC,Aw,AE,or_false]at E;rcases E with rfl | rfl | rfl | rfl <;> rfl
theorem YCa(m:Nat)(σ:List Nat)(k n:Int)(B L:List D):(vC k n B L).map (Ez m σ)=vC k n B L:=(rfl)
theorem YD1(st:St)(l:List Val)(t:Bool)(i:Nat)(h:i<l.length):GX st 4 (.slc (nz 4 (l.map De)) (l.map De) t) (.int .i64 (i:Int))=some (.eptr (De (l.getD i default)) 0):=by
 have:=KH st 4 De l t .i64 (i:Int) (by omega) (by omega);grind
theorem wO:((2:Int)=1)=False:=by simp
theorem wN:((3:Int)=1)=False:=by simp
theorem wM:((3:Int)=2)=False:=by simp
noncomputable def dZ(N:Nat):List D→Option D:=Dl (α:=Val) (fun v=>[De v]) (fun v=>Ek v<N∧(DD v).length≤4294967000) (fun v=>.tup [.int .i64 (Ek v:Int),.bool true])
theorem uB(N:Nat)(v:Val)(h:Ek v<N∧(DD v).length≤4294967000):dZ N [De v]=some (.tup [.int .i64 (Ek v:Int),.bool true]):=
 D7 (fun a b h=>by simp only[Aa,and_true,Ui]at h; rw[h]) v h
theorem qQ:∀ b:List UInt8,b.length≤(b.flatMap Ej).length
 |[]=>by simp
 |c::b=>by
  have:=qQ b;have E:1≤(Ej c).length:=by unfold Ej; split <;> simp
  grind
theorem Yoe(n:Int):1≤(Jd n).length:=by unfold Jd; split <;> simp
theorem qR:∀ v:Val,1≤(DD v).length
 |.int n=>by rw[jc]; exact Yoe n
 |.bytes b=>by rw[YO]; simp
 |.list l=>by rw[OV]; simp
theorem j0:∀ l:List Val,l.length≤(l.flatMap DD).length
 |[]=>by simp
 |v::l=>by
  have:=j0 l;have:=qR v;grind
theorem qS:∀ {l:List Val} {v:Val},v∈l→(DD v).length≤(l.flatMap DD).length
 |a::l,v,h=>by
  simp only[Au,Ab];rcases Aw.1 h with rfl | h
  ·omega
  ·have:=qS h; omega
mutual
theorem Ypl:∀ v:Val,Ek v≤(DD v).length
 |.int n=>by simp[Ek]
 |.bytes b=>by simp[Ek]
 |.list l=>by
  have:=jW l;simp only[Ek,DD,Ah,Ab,Aq];omega
theorem jW:∀ l:List Val,IG l≤(Rt l).length
 |[]=>by simp[IG]
 |v::l=>by
  have:=Ypl v;have:=jW l;simp only[IG,Rt,Ab];omega
end
def Kc:List Val→Nat
 |[]=>0
 |v::l=>max (Kc l) (Ek v)
theorem pV:∀ l:List Val,Kc l.reverse=IG l:=by
 have h:∀ (l m:List Val),Kc (l++m)=max (Kc l) (Kc m):=by
  intro l m
  induction l with
  |nil=>simp[Kc]
  |cons a l E=>simp only[Ae,Kc,E]; omega
 intro l
 induction l with
 |nil=>simp[Kc,IG]
 |cons a l E=>rw[List.reverse_cons,h,E]; simp only[Kc,IG]; omega
theorem yZ6(l:List Val)(v:Val):IG (l++[v])=max (IG l) (Ek v):=by
 rw[← pV,← pV l,List.reverse_append];rfl
theorem Q5[Inhabited α](l:List α)(h:i<l.length):l.take (i+1)=l.take i++[l.getD i default]:=by
 simp_all
set_option maxHeartbeats 4000000 in
set_option maxRecDepth 20000 in
theorem zh:∀ N:Nat,Contract Tryz.prog GG 189 (dZ N)
 |0=>by
  intro w g ds vs d hd;obtain⟨a,_,hp,_⟩:=jr hd;omega
 |N+1=>by
  refine Eg (T:=tb [(189,dZ N)] []) yFm (DJ (all_cons (zh N) all_nil) all_nil) ?_;rintro v ⟨hN,hl⟩;unfold nH
  cases v with
  |int n=>
   rw[OT,Ypm];simp (disch:=first|omega|decide) only[push_cast,↓reduceIte,CI,↓CL,Ql,S7,ml,eD]
  |bytes b=>
   rw[OZ,yZ7];simp (disch:=first|omega|decide) only[push_cast,↓reduceIte,CI,↓CL,Ql,S7,mj,eD,wO]
  |list l=>
   rw[Q6,jV];rw[jV]at hN;rw[OV]at hl;have a0:=j0 l;have V:=jW l;rw[jd]at V;simp only[Ah,Ab,Aq]at hl;simp (disch:=first|omega|decide) only[push_cast,↓reduceIte,CI,Ql,S7,mj,ml,eD,wN,wM]
   refine F0 (fun i:Nat=>[(2,.int .i64 (IG (l.take i):Int)),(45,.slc (nz 4 (l.map De)) (l.map De) false),(46,.int .i64 (l.length:Int)),(47,.int .i64 (i:Int))])
    (fun _=>[⟨false,1,vC 3 0 [] (l.map De),false⟩]) (fun i=>i≤l.length) (fun i=>l.length - i) 0 (by simp only[push_cast,↓reduceIte,CI,↓CL,Xd,YCa] <;> rfl) (by omega) ?_
   intro i hi;unfold oc;simp (disch:=first|omega|decide) only[push_cast,↓reduceIte,CI];refine E3 (fun h2=>?_) (fun h2=>?_)
   ·have E:i<l.length:=by omega
    have U:=YD1 [⟨false,1,vC 3 0 [] (l.map De),false⟩] l false i E;have I:l.getD i default∈l:=by rw[Ai,Am E]; exact BC E
    have Y:=iZ I;have aa:=qS I;have hc:=uB N (l.getD i default) ⟨by omega,by omega⟩;have J:=Q5 l E;obtain⟨x,ab⟩:∃ x,l.getD i default=x:=⟨_,rfl⟩;rw[ab]at U hc J Y aa;have M:=yZ6 (l.take i) x;rw[← J]at M;obtain⟨k,n,B,L,hC,hD⟩:=OX x;rw[hD]at U hc;simp (disch:=first|omega|decide) only[push_cast,↓reduceIte,CI,CM,CJ,U,YCf,UZ,Wb,NI,ew,bu,hc,DM];refine E5 (i+1) (by omega) (by omega) ?_;rw[show((IG (l.take (i+1)):Nat):Int)=max (IG (l.take i):Int) (Ek x:Int) by rw[M]; omega];rfl
   ·obtain rfl:i=l.length:=by omega
    have e2:l.take l.length=l:=Bj;rw[e2];simp (disch:=first|omega|decide) only[push_cast,↓reduceIte,CI,DM]
theorem Fo(st:St)(o:Obj):(st++[o])[st.length]?=some o:=List.getElem?_concat_length
theorem Sj(st:St)(o o':Obj):(st++[o]).set st.length o'=st++[o']:=by simp
theorem iw(n:Nat)(d:D):Ez n [] d=HY n d:=by
 have J:∀ (f:Nat→D) (key:Nat),JL f (E6 n [] key)=if key<n then f key else .junk:=by
  intro f key; unfold E6; split <;> rfl
 have E:∀ d,G5 n [] d=H7 n d:=by
  intro d;cases d <;> simp only[G5,H7,J]
 have I:∀ d,ER n [] d=G9 n d:=by
  intro d
  cases d with
  |clo f l=>simp only[ER,G9,D.clo.injEq,true_and]; exact BI fun x _=>E x
  |_=>simp only[ER,G9]; exact E _
 cases d with
 |agg l=>simp only[Ez,HY,D.agg.injEq]; exact BI fun x _=>I x
 |tup l=>rfl
 |_=>simp only[Ez,HY]; exact I _
theorem YD7(h:Ez n [] x=x):∀ k∈hk x,k<n:=by
 have E:∀ (f:Nat→D) (key:Nat),(∀ k,f k≠.junk)→JL f (E6 n [] key)=f key→key<n:=by
  intro f key hf h;unfold E6 at h
  split at h
  ·assumption
  ·exact absurd h.symm (hf key)
 have J:∀ x,G5 n [] x=x→∀ k∈GO x,k<n:=by
  intro x h k hk
  cases x with
  |row key tot off len=>simp only[GO,AM]at hk; subst hk; exact E (fun k=>.row k tot off len) _ (fun k e=>by cases e) h
  |bsl key off j sz ag=>simp only[GO,AM]at hk; subst hk; exact E (fun k=>.bsl k off j sz ag) _ (fun k e=>by cases e) h
  |ptr key off=>simp only[GO,AM]at hk; subst hk; exact E (fun k=>.ptr k off) _ (fun k e=>by cases e) h
  |rptr key tot i off=>simp only[GO,AM]at hk; subst hk; exact E (fun k=>.rptr k tot i off) _ (fun k e=>by cases e) h
  |mapv key=>simp only[GO,AM]at hk; subst hk; exact E .mapv _ (fun k e=>by cases e) h
  |_=>simp[GO]at hk
 have M:∀ x,ER n [] x=x→∀ k∈DE x,k<n:=by
  intro x h k hk
  cases x with
  |clo f l=>
   simp only[DE,Bo]at hk;obtain⟨y,I,hk⟩:=hk;simp only[ER,D.clo.injEq,true_and]at h;exact J y (Rm h y I) k hk
  |_=>unfold ER at h; unfold DE at hk; exact J _ h k hk
 intro k hk
 cases x with
 |agg l=>
  simp only[PI.hk,Bo]at hk;obtain⟨y,I,hk⟩:=hk;simp only[Ez,D.agg.injEq]at h;exact M y (Rm h y I) k hk
 |tup l=>simp[PI.hk,DE,GO]at hk
 |_=>unfold Ez at h; unfold PI.hk at hk; exact M _ h k hk
theorem StOK.keys(h:StOK st):∀ o∈st,o.row=false→∀ x∈o.els,∀ k∈hk x,k<st.length:=fun o E I x J=>YD7 (h o E I x J)
theorem nR{l:St}(h:StOK st)(hn:n=st.length)(E:∀ k∈Ns fr keep,k<n):restrict keep n ⟨fr,st++l⟩=⟨Gn (Kh fr n [] keep),st⟩:=by
 subst hn;refine yJm h h.keys fun s I k hk=>E k ?_;rw[iM,Bo];grind
theorem xC{l:St}(h:StOK st)(hn:n=st.length):cut n (st++l)=st:=by
 subst hn;unfold cut;rw[show(st++l).take st.length=st by simp];refine Nb fun o E=>?_;obtain⟨row,sz,els,lent⟩:=o
 cases row with
 |true=>rfl
 |false=>
  show(⟨false,sz,els.map (HY st.length),lent⟩:Obj)=_
  rw[Nb fun x I=>(iw st.length x).symm.trans (h _ E rfl x I)]
theorem jE(h:StOK st)(k n:Int)(B L:List D)(lent:Bool):StOK (st++[⟨false,1,vC k n B L,lent⟩]):=h.app _ fun o E J x I=>by
 simp only[AM]at E;subst E;exact Wt _ _ _ _ _ x I
theorem Yat{b:D}(h:Od st b l)(m:St):Od (st++m) b l:=by
 rcases h with⟨rfl,rfl⟩ | ⟨key,rfl,hl,hk⟩
 ·exact .inl ⟨rfl,rfl⟩
 ·exact .inr ⟨key,rfl,hl,by rw[At (Ac.1 hk).1]; exact hk⟩
theorem uT{els:List D}{lent:Bool}(hk:st[key]?=some ⟨true,sz,els,lent⟩){j:Nat}{o:PI.Obj}(hj:st[j]?=some o)(I:o.row=false)(m:List UInt8):(DR st key m)[j]?=some o:=by
 have E:key≠j:=by
  grind
 rw[DR,AQ E];exact hj
theorem vU{b:D}(h:Od st b l)(hm:m≠[]):∃ key st1,key<st1.length∧JM st b l m=(.row key (l++m).length 0 (l++m).length,DR st1 key (l++m))∧(StOK st→StOK st1)∧
  (∀ n,JM st b l (m++n)=(.row key (l++(m++n)).length 0 (l++(m++n)).length,DR st1 key (l++(m++n))))∧∀ (j:Nat) (o:PI.Obj),st[j]?=some o→o.row=false→∀ n,(DR st1 key n)[j]?=some o:=by
 rcases h with⟨rfl,rfl⟩ | ⟨key,rfl,hl,hk⟩
 ·refine⟨st.length,st++[⟨true,1,[],false⟩],by simp,?_,fun h=>h.app _ fun o J E=>?_,fun n=>?_,fun j o hj E n=>?_⟩
  ·simp[JM,DR]
  ·grind
  ·simp[JM,DR]
  ·exact uT (Fo st ⟨true,1,[],false⟩) (by rw[At (Ac.1 hj).1]; exact hj) E n
 ·have I:=(Ac.1 hk).1;exact⟨key,st,I,rfl,id,fun n=>rfl,fun j o hj E n=>uT hk hj E n⟩
def TC(st:St)(b:D)(l:List UInt8)(v:Val):D×St:=JM (st++[⟨false,1,VS v,false⟩]) b l (DD v)
def YA2(N:Nat)(ds:List D)(st:St)(r:D×St):Prop:=∃ (v:Val),StOK st∧Ek v<N∧(DD v).length≤4294967000∧ds=[.slc 0 [] true,De v]∧r=TC st (.slc 0 [] true) [] v
def YA1(N:Nat)(ds:List D)(st:St)(r:D×St):Prop:=∃ (key:Nat) (l:List UInt8) (v:Val),StOK st∧Ek v<N∧l.length+(DD v).length≤4294967000∧l≠[]∧st[key]?=some ⟨true,1,l.map Dn,false⟩∧ds=[.row key l.length 0 l.length,De v]∧r=JM st (.row key l.length 0 l.length) l (DD v)
noncomputable def jq(N:Nat):List D→St→Option (D×St):=FI (YA2 N)
noncomputable def TZ(N:Nat):List D→St→Option (D×St):=FI (YA1 N)
theorem Yj2(N:Nat):IF (YA1 N):=by
 rintro ds st r J ⟨key,l,v,_,_,_,_,hk,rfl,rfl⟩ ⟨I,M,v',_,_,_,_,E,h,rfl⟩;simp only[Aa,D.row.injEq,and_true,Ui]at h;obtain⟨⟨rfl,_⟩,rfl⟩:=h;rw[hk]at E;simp only[Db,Obj.mk.injEq,true_and,and_true]at E;rw[QY E]
theorem Yj3(N:Nat):IF (YA2 N):=by
 rintro ds st r E ⟨v,_,_,_,rfl,rfl⟩ ⟨v',_,_,_,h,rfl⟩;simp only[Aa,and_true,true_and,Ui]at h;rw[h]
theorem Yc4{G:Dj}{T:Tbl}{c:PC}{res:List PRes}{K I:D→St→Prop}(h:@wW G T c fr st ⟨@G4 res ⟨K⟩⟩)(hk:∀ d st,K d st→I d st):@wW G T c fr st ⟨@G4 res ⟨I⟩⟩:=by
 refine Tg (K9 _ _ _ _ _ (HQ h) fun e E st' h=>?_)
 have fin:@on _ (D9 ⟨E,st'⟩ res) ⟨fun l=>K (DU l) st'⟩→@on _ (D9 ⟨E,st'⟩ res) ⟨fun l=>I (DU l) st'⟩:=by
  unfold on;grind
 cases e with
 |next=>rw[tU]at h ⊢; exact fin h
 |ret=>rw[rE]at h ⊢; exact fin h
 |exit id=>unfold G4 at h; exact h.elim
 |panic t d=>unfold G4 at h; exact h.elim
theorem YFr(c:UInt8):Ds .eql (Dn c) (.int .u8 0)=some (.bool (decide (c=0))):=by
 unfold Dn;rw[yI]
 congr 2
 rw[decide_eq_decide];refine⟨fun h=>?_,fun h=>by subst h; rfl⟩;apply UInt8.toNat_inj.1;grind
theorem YC1:Ft 1 [.int .u8 0,.int .u8 0]=some (.slc 1 [.int .u8 0,.int .u8 0] true):=(rfl)
theorem eG(n:Int):Ft 1 [.int .u8 n]=some (.slc 1 [.int .u8 n] true):=(rfl)
theorem lN:Dn 48=.int .u8 48:=(rfl)
theorem lM:Dn 64=.int .u8 64:=(rfl)
theorem wX:Dn 0=.int .u8 0:=(rfl)
theorem XQ:Dn 255=.int .u8 255:=(rfl)
/- the bytes of a string,laid behind what is there -/
theorem Ykr(T:Tbl)(st1:St)(key:Nat)(E:key<st1.length)(V:StOK st1)(l0 B:List UInt8)(hl:l0.length+(B.flatMap Ej).length≤4294967100)(fr:Frame)(Q:Ex→Frame→St→Prop)
  (h0:fr 0=.row key l0.length 0 l0.length) (h1:fr 23=.slc (nz 1 (B.map Dn)) (B.map Dn) false) (h6:fr 24=.int .i64 (B.length:Int)) (Y:fr 25=.int .i64 0)
  (hQ:∀ J,J 0=.row key (l0++B.flatMap Ej).length 0 (l0++B.flatMap Ej).length→Q (.exit 1) J (DR st1 key (l0++B.flatMap Ej))) :
  @wW GG T (.loop [0,23,24,25] gh) fr (DR st1 key l0) ⟨Q⟩:=by
 have hlen:=ft st1 key;have U:∀ (fr:Frame) (m:List UInt8),restrict [0,23,24,25] (DR st1 key l0).length ⟨fr,DR st1 key m⟩=⟨Gn (Kh fr st1.length [] [0,23,24,25]),DR st1 key m⟩:=fun fr m=>by rw[ZL (Vt V key m) (by rw[hlen,hlen]),hlen]
 have hB:=qQ B
 refine F0 (fun i:Nat=>[(0,.row key (l0++(B.take i).flatMap Ej).length 0 (l0++(B.take i).flatMap Ej).length),(23,.slc (nz 1 (B.map Dn)) (B.map Dn) false),(24,.int .i64 (B.length:Int)),(25,.int .i64 (i:Int))])
  (fun i=>DR st1 key (l0++(B.take i).flatMap Ej)) (fun i=>i≤B.length) (fun i=>B.length - i) 0 ?_ (by omega) ?_
 ·rw[U];simp (disch:=omega) only[push_cast,↓CL,h0,h1,h6,Y,QO] <;> rfl
 intro i hi;unfold gh;simp (disch:=first|omega|decide) only[push_cast,↓reduceIte,CI];refine E3 (fun h2=>?_) (fun h2=>?_)
 ·have aa:i<B.length:=by omega
  have hx:GX (DR st1 key (l0++(B.take i).flatMap Ej)) 1 (.slc (nz 1 (B.map Dn)) (B.map Dn) false) (.int .i64 (i:Int))=some (.eptr (Dn (B.getD i default)) 0):=by
   have:=KH (DR st1 key (l0++(B.take i).flatMap Ej)) 1 Dn B false .i64 (i:Int) (by omega) (by omega);grind
  have a4:=Q5 B aa
  have a3:((B.take i).flatMap Ej).length+(Ej (B.getD i default)).length≤(B.flatMap Ej).length:=by
   have e:B=B.take (i+1)++B.drop (i+1):=(Bl _ _).symm;grind
  generalize a5:B.getD i default=c at*;have ae:1≤(Ej c).length:=by unfold Ej; split <;> simp
  have I:=fun x=>Yt (st:=st1) E (l0++(B.take i).flatMap Ej) x (by rw[Ab]; omega) true
  have M:l0++(B.take (i+1)).flatMap Ej=l0++(B.take i).flatMap Ej++Ej c:=by
   grind
  by_cases hc:c=0
  ·subst hc;have ac:Ds .eql (Dn 0) (.int .u8 0)=some (.bool true):=(rfl)
   have h3:=Yt (st:=st1) E (l0++(B.take i).flatMap Ej++[0]) 255 (by
    grind) true
   rw[XQ]at h3;simp (disch:=first|omega|decide) only[push_cast,↓reduceIte,CI,hx,fI,X3,U4,Va,eG,I,ac,h3,DM,↓U,E];refine E5 (i+1) (by omega) (by omega) ?_;rw[M,show l0++(B.take i).flatMap Ej++Ej 0=l0++(B.take i).flatMap Ej++[0]++[255] by simp[Ej]]
   first | rfl | (simp only[push_cast,↓EZ,↓reduceIte,CI,CP,CM,CJ,Nat.reduceSub,CN,CV,CT,Int.reduceLE,CU,CO,C0,CZ,C4,C3,↓CL] <;> rfl)
  ·simp (disch:=first|omega|decide) only[push_cast,↓reduceIte,CI,hx,fI,X3,U4,Va,I,YFr,hc,decide_false,DM,↓U,E];refine E5 (i+1) (by omega) (by omega) ?_;rw[M,show l0++(B.take i).flatMap Ej++Ej c=l0++(B.take i).flatMap Ej++[c] by simp[Ej,hc]]
   first | rfl | (simp only[push_cast,↓EZ,↓reduceIte,CI,CP,CM,CJ,Nat.reduceSub,CN,CV,CT,Int.reduceLE,CU,CO,C0,CZ,C4,C3,↓CL] <;> rfl)
 ·obtain rfl:i=B.length:=by omega
  rw[Bj];simp (disch:=first|omega|decide) only[push_cast];exact hQ _ rfl
theorem Yap{v:Val}{N:Nat}(E:StOK st)(I:Ek v<N)(J:l.length+(DD v).length≤4294967000)(M:l≠[])(U:st[key]?=some ⟨true,1,l.map Dn,false⟩) :
  TZ N [.row key l.length 0 l.length,De v] st=some (.row key (l++DD v).length 0 (l++DD v).length,st.set key ⟨true,1,(l++DD v).map Dn,false⟩):=Mg (Yj2 N) ⟨key,l,v,E,I,J,M,U,rfl,rfl⟩
theorem Yg7[Inhabited α](f:α→List UInt8)(L:List α)(h:i<L.length):((L.take i).flatMap f).length+(f (L.getD i default)).length≤(L.flatMap f).length:=by
 have e:L=L.take (i+1)++L.drop (i+1):=(Bl _ _).symm;have:=congrArg (fun l=>(l.flatMap f).length) e;simp only[List.flatMap_append,Ab,Q5 L h,Au,BK,Ad]at this;omega
/- the values of a list,laid behind what is there -/
theorem Ykq(N:Nat)(st1:St)(key:Nat)(E:key<st1.length)(J:StOK st1)(l0:List UInt8)(ab:l0≠[])(L:List Val)(hd:IG L<N)(hl:l0.length+(L.flatMap DD).length≤4294967000)(fr:Frame)(Q:Ex→Frame→St→Prop)
  (h0:fr 0=.row key l0.length 0 l0.length) (h1:fr 46=.slc (nz 4 (L.map De)) (L.map De) false) (h6:fr 47=.int .i64 (L.length:Int)) (ac:fr 48=.int .i64 0)
  (hQ:∀ U,U 0=.row key (l0++L.flatMap DD).length 0 (l0++L.flatMap DD).length→Q (.exit 3) U (DR st1 key (l0++L.flatMap DD))) :
  @wW GG (tb [] [(202,Vz),(190,TZ N)]) (.loop [0,46,47,48] gi) fr (DR st1 key l0) ⟨Q⟩:=by
 have hlen:=ft st1 key;have hB:=j0 L;have hR:∀ (fr:Frame) (m:List UInt8),restrict [0,46,47,48] (DR st1 key l0).length ⟨fr,DR st1 key m⟩=⟨Gn (Kh fr st1.length [] [0,46,47,48]),DR st1 key m⟩:=fun fr m=>by rw[ZL (Vt J key m) (by rw[hlen,hlen]),hlen]
 refine F0 (fun i:Nat=>[(0,.row key (l0++(L.take i).flatMap DD).length 0 (l0++(L.take i).flatMap DD).length),(46,.slc (nz 4 (L.map De)) (L.map De) false),(47,.int .i64 (L.length:Int)),(48,.int .i64 (i:Int))])
  (fun i=>DR st1 key (l0++(L.take i).flatMap DD)) (fun i=>i≤L.length) (fun i=>L.length - i) 0 ?_ (by omega) ?_
 ·rw[hR];simp (disch:=omega) only[push_cast,↓CL,h0,h1,h6,ac,QO] <;> rfl
 intro i hi;unfold gi;simp (disch:=first|omega|decide) only[push_cast,↓reduceIte,CI];refine E3 (fun h2=>?_) (fun h2=>?_)
 ·have I:i<L.length:=by omega
  have V:=YD1 (DR st1 key (l0++(L.take i).flatMap DD)) L false i I;have Y:L.getD i default∈L:=by rw[Ai,Am I]; exact BC I
  have ad:=iZ Y;have ae:=Yg7 DD L I;have af:=Q5 L I;obtain⟨x,ah⟩:∃ x,L.getD i default=x:=⟨_,rfl⟩;rw[ah]at V af ad ae
  have a8:l0++(L.take (i+1)).flatMap DD=l0++(L.take i).flatMap DD++DD x:=by
   grind
  obtain⟨k,n,B,M,hC,hD⟩:=OX x;have aa:=jE (Vt J key (l0++(L.take i).flatMap DD)) k n B M false
  have hc:=Yap (N:=N) (v:=x) (l:=l0++(L.take i).flatMap DD) (key:=key) aa (by omega) (by rw[Ab]; omega) (by simp[ab]) (by
   rw[At (by rw[hlen]; exact E)]; exact iG E _)
  rw[BU _ _ (by rw[hlen]; exact E),show(DR st1 key (l0++(L.take i).flatMap DD)).set key ⟨true,1,(l0++(L.take i).flatMap DD++DD x).map Dn,false⟩=DR st1 key (l0++(L.take i).flatMap DD++DD x)from Yjj st1 key _ _,hD]at hc;rw[hD]at V
  have a1:∀ (fr:Frame) (m:List UInt8) (o:PI.Obj),(Ns fr [0,46,47,48]).all (fun k=>decide (k<st1.length))=true→restrict [0,46,47,48] (DR st1 key l0).length ⟨fr,DR st1 key m++[o]⟩=⟨Gn (Kh fr st1.length [] [0,46,47,48]),DR st1 key m⟩:=fun fr m o h=>by
   rw[nR (Vt J key m) (by rw[hlen,hlen]) (fun k hk=>by rw[hlen]; exact of_decide_eq_true (Al.1 h k hk)),hlen]
  simp (disch:=first | omega | decide | (simp only[push_cast,↓EZ,↓reduceIte,CI,CP,CM,CJ,Nat.reduceSub,CN,CV,CT,Int.reduceLE,CU,CO,C0,CZ,C4,C3,↓CL,E]; done)) only[push_cast,↓reduceIte,CI,↓a1,V,YCf,UZ,Fo,Sj,Wb,NI,hc,DM,E];refine E5 (i+1) (by omega) (by omega) ?_;grind
 ·obtain rfl:i=L.length:=by omega
  rw[Bj];simp (disch:=first|omega|decide) only[push_cast];exact hQ _ rfl
/- the whole -/
theorem yq(N:Nat)(st:St)(b:D)(l:List UInt8)(v:Val)(a0:StOK st)(hb:Od st b l)(hN:Ek v<N+1)(hl:l.length+(DD v).length≤4294967000) :
  @wW GG (tb [] [(202,Vz),(190,TZ N)]) aJ.code (Dc [b,De v]) st ⟨@G4 aJ.res ⟨fun d st'=>(d,st')=TC st b l v⟩⟩:=by
 unfold aJ TC;obtain⟨k,n,B,M,hC,hD⟩:=OX v;have Y:=jE a0 k n B M false;have V:=Yat hb [⟨false,1,vC k n B M,false⟩];have af:=Fo st ⟨false,1,vC k n B M,false⟩
 cases v with
 |int m=>
  obtain⟨rfl,rfl,rfl,rfl⟩:=ML ((OT m).symm.trans hD);have hc:=Yiu m Y V (by omega);rw[hD,hC,jc];generalize JM (st++[⟨false,1,vC 1 m [] [],false⟩]) b l (Jd m)=r at*;obtain⟨r1,r2⟩:=r;simp (disch:=first|omega|decide) only[push_cast,↓reduceIte,CI,Ql,S7,mj,Fo,hc]
 |bytes m=>
  obtain⟨rfl,rfl,rfl,rfl⟩:=ML ((OZ m).symm.trans hD);rw[YO]at hl;simp only[Ah,Ab,Aq]at hl;rw[hD,hC,YO];obtain⟨key,st1,J,aa,ab,U,ac⟩:=vU V (m:=[48]) (by simp);have E:=Ub V (m:=[48]) (by simp) (by simp; omega) true;rw[aa]at E;simp only[Ax,Bk,lN]at E;have hm:=U (m.flatMap Ej++[0,0]);rw[show(48::(m.flatMap Ej++[0,0]):List UInt8)=[48]++(m.flatMap Ej++[0,0])from rfl,hm];have ae:=ac _ _ af rfl (l++[48]);simp (disch:=first|omega|decide) only[push_cast,↓reduceIte,CI,Ql,S7,ml,Fo,wO,eG,E,ae];refine Ykr _ st1 key J (ab Y) (l++[48]) m (by simp only[Ab,Ah,Aq]; omega) _ _ (by simp only[push_cast,↓reduceIte,CI]) (by simp only[push_cast,↓reduceIte,CI]) (by simp only[push_cast,↓reduceIte,CI]) (by simp only[push_cast,↓reduceIte]) fun a1 hf=>?_;have I:=pJ (st:=st1) J (l++[48]++m.flatMap Ej) [0,0] (by simp) (by simp only[Ab,Ah,Aq]; omega) true;simp only[Ax,Bk,wX]at I;simp (disch:=first|omega|decide) only[push_cast,↓reduceIte,CI,hf,YC1,I];grind
 |list m=>
  obtain⟨rfl,rfl,rfl,rfl⟩:=ML ((Q6 m).symm.trans hD);rw[OV]at hl;rw[jV]at hN;simp only[Ah,Ab,Aq]at hl;rw[hD,hC,OV];obtain⟨key,st1,J,aa,ab,U,ac⟩:=vU V (m:=[64]) (by simp);have E:=Ub V (m:=[64]) (by simp) (by simp; omega) true;rw[aa]at E;simp only[Ax,Bk,lM]at E;have hm:=U (m.flatMap DD++[0]);rw[show(64::(m.flatMap DD++[0]):List UInt8)=[64]++(m.flatMap DD++[0])from rfl,hm];have ae:=ac _ _ af rfl (l++[64]);simp (disch:=first|omega|decide) only[push_cast,↓reduceIte,CI,Ql,S7,eD,Fo,wN,wM,eG,E,ae];refine Ykq N st1 key J (ab Y) (l++[64]) (by simp) m (by omega) (by simp only[Ab,Ah,Aq]; omega) _ _ (by simp only[push_cast,↓reduceIte,CI]) (by simp only[push_cast,↓reduceIte,CI]) (by simp only[push_cast,↓reduceIte,CI]) (by simp only[push_cast,↓reduceIte]) fun a1 hf=>?_;have I:=Yt (st:=st1) J (l++[64]++m.flatMap DD) 0 (by simp only[Ab,Ah,Aq]; omega) true;simp only[wX]at I;simp (disch:=first|omega|decide) only[push_cast,↓reduceIte,CI,hf,eG,I];grind
theorem zw:∀ N:Nat,IContract Tryz.prog GG 190 (jq N)∧IContract Tryz.prog GG 190 (TZ N)
 |0=>by
  have J:TblOK Tryz.prog GG (tb [] []):=DJ all_nil all_nil;refine⟨JR aK J fun ds st r E=>?_,JR aK J fun ds st r E=>?_⟩
  ·obtain⟨v,_,h,_⟩:=Jy E;omega
  ·obtain⟨key,l,v,_,h,_⟩:=Jy E;omega
 |N+1=>by
  have J:TblOK Tryz.prog GG (tb [] [(202,Vz),(190,TZ N)]):=DJ all_nil (all_cons Yys (all_cons (zw N).2 all_nil));refine⟨JR aK J fun ds st r E=>?_,ZJ aK J fun ds st r E=>?_⟩
  ·obtain⟨v,I,U,hl,rfl,rfl⟩:=Jy E;exact yq N st _ [] v I (.inl ⟨rfl,rfl⟩) U (by simpa using hl)
  ·obtain⟨key,l,v,I,U,hl,V,hk,rfl,rfl⟩:=Jy E;have M:=(Ac.1 hk).1;refine Yc4 (yq N st _ l v I (.inr ⟨key,rfl,V,hk⟩) U hl) fun d st' h=>?_;simp only[TC,JM,Dx]at h ⊢;obtain⟨rfl,rfl⟩:=h;refine⟨?_,?_⟩
   ·show Iz st.length (.row key _ 0 _)=_
    simp only[Iz,HY,G9,H7,M,if_true]
   ·rw[BU _ _ M];exact xC (I.set _ _ fun e=>by cases e) (by rw[BS])
theorem Yaq{v:Val}{N:Nat}(E:StOK st)(I:Ek v<N)(J:(DD v).length≤4294967000):jq N [.slc 0 [] true,De v] st=some (TC st (.slc 0 [] true) [] v):=Mg (Yj3 N) ⟨v,E,I,J,rfl,rfl⟩
def XS(b:List UInt8):D:=.slc (nz 1 (b.map Dn)) (b.map Dn) false
def LC(v:Val):List UInt8:=if(DD v).length≤65536 then DD v else []
def RV(v:Val):Int:=if(DD v).length≤65536 then 0 else 2
noncomputable def kz:List D→Option D:=Dl (α:=Val) (fun v=>[De v]) (fun v=>Ek v≤16∧(DD v).length≤4294967000) (fun v=>.tup [XS (LC v),.int .i64 (RV v)])
theorem yS3(v:Val)(h:Ek v≤16∧(DD v).length≤4294967000):kz [De v]=some (.tup [XS (LC v),.int .i64 (RV v)]):=
 D7 (fun a b h=>by simp only[Aa,and_true,Ui]at h; rw[h]) v h
theorem Yqi:Contract Tryz.prog GG 167 kz:=by
 refine Eg (T:=tb [(189,dZ 17)] [(190,jq 17)]) yCb (DJ (all_cons (zh 17) all_nil) (all_cons (zw 17).1 all_nil)) ?_;rintro v ⟨hd,hl⟩;unfold nN LC RV;obtain⟨k,n,B,M,hC,U⟩:=OX v;have V:=uB 17 v ⟨by omega,hl⟩;have I:=Yaq (N:=17) (st:=[⟨false,1,vC k n B M,false⟩]) (v:=v) (by have:=jE StOK.nil k n B M false; simpa using this) (by omega) hl
 have Y:DD v≠[]:=by
  intro e; have:=qR v; rw[e]at this; simp at this
 have hz:nz 1 ((DD v).map Dn)=1:=by
  cases he:DD v with
  |nil=>exact absurd he Y
  |cons a r=>rfl
 simp only[TC,JM,Ae,Aj,Ah,Aq]at I;rw[U]at V I;rw[U];simp (disch:=first|omega|decide) only[push_cast,↓reduceIte,CI,Ql,NI,ew,bu,V];have aa:¬ ((16:Int)<(Ek v:Int)):=by omega
 simp (disch:=first|omega|decide) only[push_cast,↓reduceIte,CI,CJ,aa,decide_false,NI,I]
 by_cases E:(DD v).length≤65536
 ·rw[if_pos E,if_pos E];have J:¬ ((65536:Int)<((DD v).length:Int)):=by omega
  simp (disch:=first|omega|decide) only[push_cast,↓reduceIte,CI,J,decide_false,XS]
 ·rw[if_neg E,if_neg E];have J:((65536:Int)<((DD v).length:Int)):=by omega
  simp (disch:=first|omega|decide) only[push_cast,↓reduceIte,CI,J,decide_true,XS]
def Dp:Dig:=Sn [112,97,100] []
def Hl(a b:Dig):Dig:=Sn [110,111,100,101] (a.bs++b.bs)
def ES(l:List Dig)(k:Int)(pad:Dig):Dig:=if k<(l.length:Int)then l.getD k.toNat default else pad
def Gw(pad:Dig):List Dig→List Dig
 |[]=>[]
 |[a]=>[Hl a pad]
 |a::b::r=>Hl a b::Gw pad r
def EL:Nat→Dig
 |0=>Dp
 |n+1=>Hl (EL n) (EL n)
def EW(l:List Dig):Nat→List Dig
 |0=>l
 |n+1=>Gw (EL n) (EW l n)
def D3(l:List Dig)(level:Nat)(k:Int):Dig:=ES (EW l level) k (EL level)
def GZ(n:Nat):Nat:=if n=0 then 0 else n.log2+1
def DL(n:Int):Int:=if n<0∨65536<n then -1 else(GZ ((max n 1).toNat - 1):Nat)
theorem Rg(E:Dig):∀ l:List Dig,(Gw E l).length=(l.length+1) / 2
 |[]=>rfl
 |[a]=>by simp[Gw]
 |a::b::r=>by
  simp only[Gw,Ah,Rg E r];omega
theorem SH(h:n<2 ^ k):GZ n≤k:=by
 unfold GZ
 split
 ·omega
 ·rename_i E;have:n.log2<k:=(Nat.log2_lt E).2 h;omega
theorem fq:n<2 ^ GZ n:=by
 unfold GZ
 split
 ·omega
 ·rename_i E;exact(Nat.log2_lt E).1 (Cj _)
theorem sC(h:2 ^ k≤n):k+1≤GZ n:=by
 have E:n≠0:=by
  grind
 have:=(Nat.le_log2 E).2 h;unfold GZ;grind
theorem Q8(n k:Nat)(h:2 ^ k≤n):GZ n=k+GZ (n / 2 ^ k):=by
 have I:=fq (n:=n / 2 ^ k)
 have M:GZ n≤k+GZ (n / 2 ^ k):=by
  apply SH;rw[Nat.pow_add];exact(Nat.div_lt_iff_lt_mul (Nat.two_pow_pos k)).1 I |> fun x=>by rwa [B2]
 have U:1≤n / 2 ^ k:=(Nat.one_le_div_iff (Nat.two_pow_pos k)).2 h
 have V:k+GZ (n / 2 ^ k)≤GZ n:=by
  obtain⟨j,hj⟩:∃ j,GZ (n / 2 ^ k)=j+1:=by
   have:=sC (n:=n / 2 ^ k) (k:=0) (by omega);exact⟨GZ (n / 2 ^ k) - 1,by omega⟩
  have J:2 ^ j≤n / 2 ^ k:=by
   rcases Ba (n / 2 ^ k) (2 ^ j)with E | E
   ·have:=SH E;omega
   ·exact E
  have E:2 ^ (k+j)≤n:=by
   rw[Nat.pow_add]
   calc 2 ^ k*2 ^ j≤2 ^ k*(n / 2 ^ k):=Nat.mul_le_mul_left _ J
    _≤n:=Nat.mul_div_le n (2 ^ k)
  have:=sC E;omega
 omega
def mG:Int×Dig:=(0,Dt)
def Gf(k:Int):Int:=if k % 2=0 then k+1 else k - 1
def KB(i:Nat)(x:Dig):List Dig→Dig
 |[]=>x
 |q::r=>KB (i / 2) (if i % 2=0 then Hl x q else Hl q x) r
def HC(c:Int×Dig)(i:Int)(leaf:Dig)(p:List Dig):Bool:=
 decide (0≤DL c.1∧0≤i∧i<2 ^ (DL c.1).toNat∧(p.length:Int)=DL c.1∧KB i.toNat leaf p=c.2)
def HE(l:List Dig)(i:Int):Nat→List Dig
 |0=>[]
 |n+1=>HE l i n++[D3 l n (Gf (i / 2 ^ n))]
theorem Mq{n:Int}(E:0≤n)(I:n≤65536):DL n=(GZ ((max n 1).toNat - 1):Nat)∧0≤DL n∧DL n≤16:=by
 have e:DL n=(GZ ((max n 1).toNat - 1):Nat):=by unfold DL; rw[if_neg (by omega)]
 have:GZ ((max n 1).toNat - 1)≤16:=SH (by omega);omega
theorem UL{n:Int}(h:n<0∨65536<n):DL n=-1:=by unfold DL; rw[if_pos h]
theorem jX{n:Int}(E:0≤n)(I:n≤65536):n≤2 ^ (DL n).toNat:=by
 obtain⟨e,_,_⟩:=Mq E I;rw[e,AR];have J:=fq (n:=(max n 1).toNat - 1);grind
theorem Ue{a b:Nat}(h:a≤b):(2:Int) ^ a≤2 ^ b:=by
 have E:(2:Nat) ^ a≤2 ^ b:=Cn (by decide) h;grind
theorem Uf(a:Nat):(1:Int)≤2 ^ a:=Ue (a:=0) (by omega)
theorem iB(E:Dig):∀ (row:List Dig) (j:Nat),2*j<row.length→(Gw E row).getD j default=Hl (row.getD (2*j) default) (ES row (2*(j:Int)+1) E)
 |[],j,h=>by simp at h
 |[a],j,h=>by
  obtain rfl:j=0:=by simp at h; omega
  rfl
 |a::b::r,0,_=>by
  have:ES (a::b::r) (2*((0:Nat):Int)+1) E=b:=by
   unfold ES;grind
  rw[this];rfl
 |a::b::r,j+1,h=>by
  have I:=iB E r j (by simp at h; omega)
  have J:(a::b::r).getD (2*(j+1)) default=r.getD (2*j) default:=by
   rfl
  have M:ES (a::b::r) (2*((j+1:Nat):Int)+1) E=ES r (2*(j:Int)+1) E:=by
   unfold ES;grind
  rw[J,M,← I];rfl
theorem dP(E:Dig)(row:List Dig)(j:Nat)(h:2*j<row.length):(Gw E row).take (j+1)=(Gw E row).take j++[Hl (row.getD (2*j) default) (ES row (2*(j:Int)+1) E)]:=by
 rw[um _ j (by rw[Rg]; omega),iB E row j h]
theorem fM(l:List Dig):∀ n,(EW l n).length≤l.length
 |0=>Ay _
 |n+1=>by
  rw[EW,Rg];have:=fM l n;omega
theorem Yv5:([0,1,2,2,3,3,3,3,4,4,4,4,4,4,4,4,5,5,5,5,5,5,5,5,5,5,5,5,5,5,5,5,6,6,6,6,6,6,6,6,6,6,6,6,6,6,6,6,6,6,6,6,6,6,6,6,6,6,6,6,6,6,6,6,7,7,7,7,7,7,7,7,7,7,7,7,7,7,7,7,7,7,7,7,7,7,7,7,7,7,7,7,7,7,7,7,7,7,7,7,7,7,7,7,7,7,7,7,7,7,7,7,7,7,7,7,7,7,7,7,7,7,7,7,7,7,7,7,8,8,8,8,8,8,8,8,8,8,8,8,8,8,8,8,8,8,8,8,8,8,8,8,8,8,8,8,8,8,8,8,8,8,8,8,8,8,8,8,8,8,8,8,8,8,8,8,8,8,8,8,8,8,8,8,8,8,8,8,8,8,8,8,8,8,8,8,8,8,8,8,8,8,8,8,8,8,8,8,8,8,8,8,8,8,8,8,8,8,8,8,8,8,8,8,8,8,8,8,8,8,8,8,8,8,8,8,8,8,8,8,8,8,8,8,8,8,8,8,8,8,8,8,8,8,8,8]:List UInt8)=(CS 256).map (fun j=>CW (GZ j)):=by kernel_rfl
theorem P2(j:Nat)(h:j<256):((((CS 256).map (fun j=>CW (GZ j))).getD j default).toNat:Int)=GZ j:=by
 have E:GZ j≤8:=SH (k:=8) (by omega);simp[Ai,h];omega
theorem yR4:((CS 256).map (fun j=>CW (GZ j))).length=256:=by simp
theorem P0(b:UInt8):KS (.str ((CS 256).map (fun j=>CW (GZ j)))) (Dn b)=some (Dn (((CS 256).map (fun j=>CW (GZ j))).getD b.toNat default)):=Yop _ b (by rw[yR4]; exact b.toNat_lt)
theorem P3(m:Nat)(h:m<256):(CW m).toNat=m:=by simp; omega
noncomputable def kA:List D→Option D:=Dl (α:=Int) (fun a=>[.int .u64 a]) (fun a=>0≤a∧a<18446744073709551616) (fun a=>.int .i64 (GZ a.toNat:Int))
theorem yS1(x:Int)(h:0≤x∧x<18446744073709551616):kA [.int .u64 x]=some (.int .i64 (GZ x.toNat:Int)):=
 D7 (fun a b h=>by simp only[Aa,D.int.injEq,true_and,and_true]at h; simp[h]) (x) h
theorem Yko(x:Int)(h:0≤x∧x<18446744073709551616):@wW GG (tb [] []) aF.code (Dc [.int .u64 x]) [] ⟨Dq aF.res (.int .i64 (GZ x.toNat:Int))⟩:=by
 obtain⟨h0,h1⟩:=h;obtain⟨n,rfl⟩:=A6 h0;rw[AR];have d1:=Q8 n 32;have d2:=Q8 n 16;have d3:=Q8 n 8;have d4:=Q8 (n / 2 ^ 32) 16;have d5:=Q8 (n / 2 ^ 32) 8;have d6:=Q8 (n / 2 ^ 32 / 2 ^ 16) 8;have d7:=Q8 (n / 2 ^ 16) 8;have I:∀ y,y<256→GZ y≤8:=fun y hy=>SH (k:=8) (by omega);unfold aF;rw[Yv5];simp only[push_cast,↓reduceIte,CI];refine E3 (fun h2=>?_) (fun h2=>?_)
 ·simp (disch:=omega) only[push_cast,↓reduceIte,CI,CU,C0,Oi]
  ·refine E3 (fun U=>?_) (fun U=>?_)
   ·simp (disch:=omega) only[push_cast,↓reduceIte,CI,CU,C0,CZ,Oi,DM]
    ·refine E3 (fun J=>?_) (fun J=>?_)
     ·simp (disch:=omega) only[push_cast,↓reduceIte,CI,CU,C0,CZ,Oi,DM]
      ·have E:((n:Int) / 4294967296 / 65536 / 256).toNat=n / 2 ^ 32 / 2 ^ 16 / 2 ^ 8:=by omega
       have hb:=I (n / 2 ^ 32 / 2 ^ 16 / 2 ^ 8) (by omega);have M:=d1 (by omega);have V:=d4 (by omega);have ac:=d6 (by omega);simp (disch:=omega) only[push_cast,↓reduceIte,CI,MM,P0,PL,P2,P3,E,DM];refine congrArg (fun z=>some (D.int .i64 z)) ?_;omega
     ·simp (disch:=omega) only[push_cast,↓reduceIte,CI]
      ·have E:((n:Int) / 4294967296 / 65536).toNat=n / 2 ^ 32 / 2 ^ 16:=by omega
       have hb:=I (n / 2 ^ 32 / 2 ^ 16) (by omega);have M:=d1 (by omega);have V:=d4 (by omega);simp (disch:=omega) only[push_cast,↓reduceIte,CI,MM,P0,PL,P2,P3,E,DM];refine congrArg (fun z=>some (D.int .i64 z)) ?_;omega
   ·simp (disch:=omega) only[push_cast,↓reduceIte,CI]
    ·refine E3 (fun J=>?_) (fun J=>?_)
     ·simp (disch:=omega) only[push_cast,↓reduceIte,CI,CU,C0,CZ,Oi,DM]
      ·have E:((n:Int) / 4294967296 / 256).toNat=n / 2 ^ 32 / 2 ^ 8:=by omega
       have hb:=I (n / 2 ^ 32 / 2 ^ 8) (by omega);have M:=d1 (by omega);have ad:=d5 (by omega);simp (disch:=omega) only[push_cast,↓reduceIte,CI,MM,P0,PL,P2,P3,E,DM];refine congrArg (fun z=>some (D.int .i64 z)) ?_;omega
     ·simp (disch:=omega) only[push_cast,↓reduceIte,CI]
      ·have E:((n:Int) / 4294967296).toNat=n / 2 ^ 32:=by omega
       have hb:=I (n / 2 ^ 32) (by omega);have M:=d1 (by omega);simp (disch:=omega) only[push_cast,↓reduceIte,CI,MM,P0,PL,P2,P3,E,DM];refine congrArg (fun z=>some (D.int .i64 z)) ?_;omega
 ·simp (disch:=omega) only[push_cast,↓reduceIte,CI]
  ·refine E3 (fun U=>?_) (fun U=>?_)
   ·simp (disch:=omega) only[push_cast,↓reduceIte,CI,CU,C0,CZ,Oi,DM]
    ·refine E3 (fun J=>?_) (fun J=>?_)
     ·simp (disch:=omega) only[push_cast,↓reduceIte,CI,CU,C0,CZ,Oi,DM]
      ·have E:((n:Int) / 65536 / 256).toNat=n / 2 ^ 16 / 2 ^ 8:=by omega
       have hb:=I (n / 2 ^ 16 / 2 ^ 8) (by omega);have Y:=d2 (by omega);have ae:=d7 (by omega);simp (disch:=omega) only[push_cast,↓reduceIte,CI,MM,P0,PL,P2,P3,E,DM];refine congrArg (fun z=>some (D.int .i64 z)) ?_;omega
     ·simp (disch:=omega) only[push_cast,↓reduceIte,CI]
      ·have E:((n:Int) / 65536).toNat=n / 2 ^ 16:=by omega
       have hb:=I (n / 2 ^ 16) (by omega);have Y:=d2 (by omega);simp (disch:=omega) only[push_cast,↓reduceIte,CI,MM,P0,PL,P2,P3,E,DM];refine congrArg (fun z=>some (D.int .i64 z)) ?_;omega
   ·simp (disch:=omega) only[push_cast,↓reduceIte,CI]
    ·refine E3 (fun J=>?_) (fun J=>?_)
     ·simp (disch:=omega) only[push_cast,↓reduceIte,CI,CU,C0,CZ,Oi,DM]
      ·have E:((n:Int) / 256).toNat=n / 2 ^ 8:=by omega
       have hb:=I (n / 2 ^ 8) (by omega);have af:=d3 (by omega);simp (disch:=omega) only[push_cast,↓reduceIte,CI,MM,P0,PL,P2,P3,E,DM];refine congrArg (fun z=>some (D.int .i64 z)) ?_;omega
     ·simp (disch:=omega) only[push_cast,↓reduceIte,CI]
      ·have E:((n:Int)).toNat=n:=by omega
       have hb:=I (n) (by omega);simp (disch:=omega) only[push_cast,↓reduceIte,CI,MM,P0,PL,P2,P3,E,DM];refine congrArg (fun z=>some (D.int .i64 z)) ?_;omega
theorem Yqg:Contract Tryz.prog GG 129 kA:=
 Eg yv8 (DJ all_nil all_nil) (fun a h=>Yko a h)
noncomputable def Td:List D→Option D:=Dl (α:=List Dig×Int×Dig) (fun a=>[.slc (nz 32 (a.1.map C9)) (a.1.map C9) false,.int .i64 a.2.1,C9 a.2.2]) (fun a=>0≤a.2.1) (fun a=>C9 (ES a.1 a.2.1 a.2.2))
theorem PK(l:List Dig)(k:Int)(E:Dig)(h:0≤k):Td [.slc (nz 32 (l.map C9)) (l.map C9) false,.int .i64 k,C9 E]=some (C9 (ES l k E)):=
 D7 (fun⟨a0,a1,I⟩ ⟨b0,b1,J⟩ h=>by simp only[Aa,D.slc.injEq,D.int.injEq,KM,Ls,true_and,and_true]at h; simp[h]) (l,k,E) h
theorem kO(l:List Dig)(k:Int)(I:Dig)(h:0≤k):@wW GG (tb [] []) Zq.code (Dc [.slc (nz 32 (l.map C9)) (l.map C9) false,.int .i64 k,C9 I]) [] ⟨Dq Zq.res (C9 (ES l k I))⟩:=by
 unfold Zq;simp only[push_cast,↓reduceIte,CI];refine E3 (fun E=>?_) (fun E=>?_)
 ·simp only[push_cast,↓reduceIte,CI,KH _ _ _ _ _ _ _ h E,ES,E]
 ·simp only[push_cast,↓reduceIte,CI,ES,E]
theorem Pp:Contract Tryz.prog GG 93 Td:=
 Eg yL7 (DJ all_nil all_nil) (fun a h=>kO a.1 a.2.1 a.2.2 h)
noncomputable def N2:List D→Option D:=Dl (α:=Unit) (fun _=>[]) (fun _=>True) (fun _=>C9 Dp)
theorem P7:N2 []=some (C9 Dp):=
 D7 (fun _ _ _=>rfl) () trivial
theorem YAp:@wW GG (tb [(62,SL)] []) ZB.code (Dc []) [] ⟨Dq ZB.res (C9 Dp)⟩:=by
 unfold ZB;have c:SL [.str [112,97,100],.slc 0 [] false]=some (C9 Dp):=fw [112,97,100] [] (by decide);simp (disch:=omega) only[push_cast,↓reduceIte,CI,c]
theorem RA:Contract Tryz.prog GG 20 N2:=
 Eg yIh (DJ (all_cons iJ all_nil) all_nil) (fun a h=>YAp )
noncomputable def Yb5:List D→Option D:=Dl (α:=Unit) (fun _=>[]) (fun _=>True) (fun _=>C9 Dp)
theorem Yim:Yb5 []=some (C9 Dp):=
 D7 (fun _ _ _=>rfl) () trivial
noncomputable def Re:List D→Option D:=Dl (α:=Dig×Dig) (fun a=>[C9 a.1,C9 a.2]) (fun a=>True) (fun a=>C9 (Hl a.1 a.2))
theorem JQ(a:Dig)(b:Dig):Re [C9 a,C9 b]=some (C9 (Hl a b)):=
 D7 (fun⟨a0,a1⟩ ⟨b0,b1⟩ h=>by simp only[Aa,Ls,and_true]at h; simp[h]) (a,b) trivial
theorem Ya6(a:Dig)(b:Dig):@wW GG (tb [(62,SL)] []) ak.code (Dc [C9 a,C9 b]) [] ⟨Dq ak.res (C9 (Hl a b))⟩:=by
 unfold ak;have ha:=a.len;have hb:=b.len;have hl:(a.bs++b.bs).length=64:=by rw[Ab,ha,hb]
 have c:=fw [110,111,100,101] (a.bs++b.bs) (by rw[hl]; decide);simp (disch:=omega) only[push_cast,↓reduceIte,CI,CJ,Yng,vn,c];rfl
theorem Ul:Contract Tryz.prog GG 95 Re:=
 Eg yAf (DJ (all_cons iJ all_nil) all_nil) (fun a h=>Ya6 a.1 a.2)
noncomputable def vG:List D→Option D:=Dl (α:=Dig×Dig) (fun a=>[C9 a.1,C9 a.2]) (fun a=>True) (fun a=>C9 (Hl a.1 a.2))
theorem yPb(a:Dig)(b:Dig):vG [C9 a,C9 b]=some (C9 (Hl a b)):=
 D7 (fun⟨a0,a1⟩ ⟨b0,b1⟩ h=>by simp only[Aa,Ls,and_true]at h; simp[h]) (a,b) trivial
noncomputable def gV:List D→Option D:=Dl (α:=Int) (fun a=>[.int .u64 a]) (fun a=>0≤a∧a<18446744073709551616) (fun a=>.int .i64 (GZ a.toNat:Int))
theorem Yit(x:Int)(h:0≤x∧x<18446744073709551616):gV [.int .u64 x]=some (.int .i64 (GZ x.toNat:Int)):=
 D7 (fun a b h=>by simp only[Aa,D.int.injEq,true_and,and_true]at h; simp[h]) (x) h
theorem YAx(x:Int)(h:0≤x∧x<18446744073709551616):@wW GG (tb [(129,kA)] []) ai.code (Dc [.int .u64 x]) [] ⟨Dq ai.res (.int .i64 (GZ x.toNat:Int))⟩:=by
 unfold ai;simp (disch:=omega) only[push_cast,↓reduceIte,CI,yS1]
theorem YFm:Contract Tryz.prog GG 75 gV:=
 Eg yAi (DJ (all_cons Yqg all_nil) all_nil) (fun a h=>YAx a h)
noncomputable def Mp:List D→Option D:=Dl (α:=Int) (fun a=>[.int .i64 a]) (fun a=>True) (fun a=>.int .i64 (DL a))
theorem MW(n:Int):Mp [.int .i64 n]=some (.int .i64 (DL n)):=
 D7 (fun a b h=>by simp only[Aa,D.int.injEq,true_and,and_true]at h; simp[h]) (n) trivial
theorem Ykk(n:Int):@wW GG (tb [(75,gV)] []) Z4.code (Dc [.int .i64 n]) [] ⟨Dq Z4.res (.int .i64 (DL n))⟩:=by
 unfold Z4;simp only[push_cast,↓reduceIte,CI,CO];refine E3 (fun E=>?_) (fun E=>?_)
 ·simp only[push_cast,↓reduceIte,CI,CO,E,UL (.inl E)]
 ·simp only[push_cast,↓reduceIte,CI,CO,E];refine E3 (fun I=>?_) (fun I=>?_)
  ·simp only[push_cast,↓reduceIte,CO,I,UL (.inr I)]
  ·have e:(max n 1 - 1).toNat=(max n 1).toNat - 1:=by omega
   have J:=(Mq (n:=n) (by omega) (by omega)).1;simp (disch:=omega) only[push_cast,↓reduceIte,CI,I,Fy,cH,Yit,J,e]
theorem QQ:Contract Tryz.prog GG 25 Mp:=
 Eg yB7 (DJ (all_cons YFm all_nil) all_nil) (fun a h=>Ykk a)
structure Ins where
 op:Int
 n:Int
 m:Int
 deriving DecidableEq,Inhabited
structure Sta where
 pc:Int
 fuel:Int
 status:Int
 clause:Int
 stack:List Int
 deriving DecidableEq,Inhabited
structure Opn where
 pc:Int
 fuel:Int
 status:Int
 clause:Int
 top:List Int
 depth:Int
 rest:Dig
 deriving DecidableEq
def DP(x:Ins):List D:=[.int .i64 x.op,.int .i64 x.n,.int .i64 x.m]
def Da(x:Ins):D:=.agg (DP x)
def Ey(l:List Int):D:=.slc (nz 1 (l.map nI)) (l.map nI) false
def DY(s:Sta):List D:=[.int .i64 s.pc,.int .i64 s.fuel,.int .i64 s.status,.int .i64 s.clause,Ey s.stack]
def DS(s:Sta):D:=.agg (DY s)
def Ff(o:Opn):List D:=.int .i64 o.pc::.int .i64 o.fuel::.int .i64 o.status::.int .i64 o.clause::Ey o.top::.int .i64 o.depth::C8 o.rest
def Ef(o:Opn):D:=.agg (Ff o)
def D0(v:Int×List Int):List D:=.int .i64 v.1::v.2.map nI
def EJ(v:Int×List Int):D:=.agg (D0 v)
theorem SN{a b:List Int}:Ey a=Ey b↔a=b:=by
 refine⟨fun h=>?_,fun h=>by rw[h]⟩;simp only[Ey,D.slc.injEq,and_true]at h;exact Sy.1 h.2
theorem Sx{a b:Ins}:Da a=Da b↔a=b:=by
 obtain⟨a1,E,I⟩:=a; obtain⟨b1,J,M⟩:=b;simp[Da,DP]
theorem KL{a b:List Ins}:a.map Da=b.map Da↔a=b:=⟨PV fun _ _=>Sx.1,fun h=>by rw[h]⟩
theorem SF{a b:Sta}:DS a=DS b↔a=b:=by
 obtain⟨a1,E,I,J,M⟩:=a; obtain⟨b1,U,V,Y,b5⟩:=b;simp[DS,DY,SN]
theorem SA{a b:Opn}:Ef a=Ef b↔a=b:=by
 obtain⟨a1,E,I,J,M,U,V⟩:=a; obtain⟨b1,Y,b3,b4,b5,b6,b7⟩:=b;simp[Ef,Ff,SN,Mj]
theorem Kn{a b:Int×List Int}:EJ a=EJ b↔a=b:=by
 obtain⟨a1,E⟩:=a; obtain⟨b1,I⟩:=b;simp[EJ,D0,Sy]
def Qo(t:List UInt8)(v:Val):Dig:=Sn t (LC v)
def eO:List UInt8:=[112,114,111,103,114,97,109]
def Pa:List UInt8:=[105,110,112,117,116,115]
def O8:List UInt8:=[115,116,97,99,107]
def O9:List UInt8:=[115,116,97,116,101]
def YCe(d:Dig)(x:Ins):Dig:=Qo eO (.list [.int x.op,.int x.n,.int x.m,.bytes d.bs])
def L5(c:List Ins):Dig:=c.foldl YCe Dt
def LB(v:Int×List Int):Dig:=Qo Pa (.list [.int v.1,.list (v.2.map .int)])
def YCk(d:Dig)(n:Int):Dig:=Qo O8 (.list [.int n,.bytes d.bs])
def Il(d:Dig)(l:List Int):Dig:=l.foldl YCk d
def Md(c:List Ins)(v:Int×List Int)(o:Opn):Dig:=Qo O9 (.list [.bytes (L5 c).bs,.bytes (LB v).bs,.int o.pc,.int o.fuel,.int o.status,.int o.clause,.int (o.depth+o.top.length),.bytes (Il o.rest o.top).bs])
def LM(s:Sta)(n:Int):Nat:=s.stack.length - (min (max n 0) s.stack.length).toNat
def FA(s:Sta)(n:Int):Opn:=⟨s.pc,s.fuel,s.status,s.clause,s.stack.drop (LM s n),LM s n,Il Dt (s.stack.take (LM s n))⟩
def DV(c:List Ins)(v:Int×List Int)(s:Sta):Dig:=Md c v (FA s s.stack.length)
def Gs(c:List Ins)(v:Int×List Int)(o:Opn):Dig:=if o.depth<0∨64<o.depth then Dt else Md c v o
theorem Yf5(n:Int):(Jd n).length≤9:=by
 unfold Jd
 split
 ·have:=SD 8 (Eu n);simp only[Ah,fT]; omega
 ·have:=SD 8 (MY (Eu n));simp only[Ah,fT]; omega
theorem qW:∀ b:List UInt8,(b.flatMap Ej).length≤2*b.length
 |[]=>by simp
 |c::b=>by
  have:=qW b;have E:(Ej c).length≤2:=by unfold Ej; split <;> simp
  simp only[Au,Ab,Ah];omega
theorem M9(n:Int):(DD (.int n)).length≤9:=by rw[jc]; exact Yf5 n
theorem TQ(d:Dig):(DD (.bytes d.bs)).length≤67:=by
 have:=qW d.bs;rw[d.len]at this;rw[YO];simp only[Ah,Ab,Aq];omega
theorem sQ:∀ l:List Int,((l.map Val.int).flatMap DD).length≤9*l.length
 |[]=>by simp
 |n::l=>by
  have:=sQ l;have:=M9 n;simp only[Ax,Au,Ab,Ah];omega
theorem yZm(st:St)(key:Nat):DC st (.bsl key 0 32 1 false)=(Xx st[key]?).map fun p=>.slc (nz 1 p.2) p.2 false:=by
 rw[← vO];simp only[DC,IB,Hw]
 cases LN st key 0 32 1 false with
 |none=>rfl
 |some els=>
  dsimp only
  split <;> rfl
theorem Vw(st:St)(v:Val):DX st (De v)=some (De v):=by
 obtain⟨k,n,B,M,I,E⟩:=OX v;rw[E,ew]
theorem TU(v:Val):keys (De v)=[]:=by
 obtain⟨k,n,B,M,I,E⟩:=OX v;rw[E,bu]
theorem Yem(v:Val):(De v).noRef=false:=by
 obtain⟨k,n,B,M,I,E⟩:=OX v;rw[E]; rfl
theorem Yh5(v:Val):(De v).cells.length=4:=by
 obtain⟨k,n,B,M,I,E⟩:=OX v;rw[E]; rfl
theorem dA(l:List Val)(h:l.length≤1000):Ft 4 (l.map De)=some (.slc 4 (l.map De) true):=by
 have E:((l.map De).all fun e=>e.cells.length == 4)=true:=by
  rw[Al];intro e he;obtain⟨v,_,rfl⟩:=AX.1 he;simp[Yh5]
 have I:decide ((l.map De).length*4≤16777216)=true:=decide_eq_true (by rw[Bd]; omega);simp only[Ft,E,I];rfl
theorem LU:DH (.agg [.int .i64 0,.int .i64 0,.int .i64 0])=some [.int .i64 0,.int .i64 0,.int .i64 0]:=(rfl)
theorem FC(x:Ins):DH (Da x)=some (DP x):=(rfl)
theorem NX(x:Ins):DT (some ⟨false,1,[.int .i64 0,.int .i64 0,.int .i64 0],false⟩) 3 0 (Da x)=some ⟨false,1,DP x,false⟩:=(rfl)
theorem GJ(lent:Bool)(x:Ins):DA (some ⟨false,1,DP x,lent⟩) 1 false 0=some (.int .i64 x.op):=(rfl)
theorem LR(lent:Bool)(x:Ins):DA (some ⟨false,1,DP x,lent⟩) 1 false 1=some (.int .i64 x.n):=(rfl)
theorem gP(lent:Bool)(x:Ins):DA (some ⟨false,1,DP x,lent⟩) 1 false 2=some (.int .i64 x.m):=(rfl)
theorem Ov(lent:Bool)(x:Ins):DA (some ⟨false,1,DP x,lent⟩) 3 true 0=some (Da x):=(rfl)
theorem Le(st:St)(x:Ins):FF st 3 true (.eptr (Da x) 0)=some (Da x):=(rfl)
theorem Yw3(st:St)(x:Ins):DX st (Da x)=some (Da x):=(rfl)
theorem Vv(st:St)(c:List Ins)(t:Bool)(i:Nat)(h:i<c.length):GX st 3 (.slc (nz 3 (c.map Da)) (c.map Da) t) (.int .i64 (i:Int))=some (.eptr (Da (c.getD i default)) 0):=by
 have:=KH st 3 Da c t .i64 (i:Int) (by omega) (by omega);simpa using this
theorem U2(st:St)(c:List Int)(t:Bool)(i:Nat)(h:i<c.length):GX st 1 (.slc (nz 1 (c.map nI)) (c.map nI) t) (.int .i64 (i:Int))=some (.eptr (nI (c.getD i default)) 0):=by
 have:=KH st 1 nI c t .i64 (i:Int) (by omega) (by omega);simpa using this
theorem Vk(st:St)(n:Int):FF st 1 false (.eptr (nI n) 0)=some (.int .i64 n):=(rfl)
theorem Ypb(n:Int):DN [.int .i64 0,.int .i64 0,.slc 0 [] true,.slc 0 [] true] [(0,1,.int .i64 1),(1,1,.int .i64 n)]=some [.int .i64 1,.int .i64 n,.slc 0 [] true,.slc 0 [] true]:=(rfl)
theorem Ypd(k:Nat):DN [.int .i64 0,.int .i64 0,.slc 0 [] true,.slc 0 [] true] [(0,1,.int .i64 2),(2,1,.bsl k 0 32 1 false)]=some [.int .i64 2,.int .i64 0,.bsl k 0 32 1 false,.slc 0 [] true]:=(rfl)
theorem Ypc(sz:Nat)(l:List D)(t:Bool):DN [.int .i64 0,.int .i64 0,.slc 0 [] true,.slc 0 [] true] [(0,1,.int .i64 3),(3,1,.slc sz l t)]=some [.int .i64 3,.int .i64 0,.slc 0 [] true,.slc sz l t]:=(rfl)
theorem m6(a b c d:D):DT (some ⟨false,1,[.int .i64 0,.int .i64 0,.slc 0 [] true,.slc 0 [] true],false⟩) 4 0 (.agg [a,b,c,d])=if [a,b,c,d].all D.isCell then some ⟨false,1,[a,b,c,d],false⟩else none:=by
 simp only[DT];rfl
theorem RS(lent:Bool)(a b c d:D):DA (some ⟨false,1,[a,b,c,d],lent⟩) 4 true 0=some (.agg [a,b,c,d]):=(rfl)
theorem Ypw(k o n s:Nat)(ag:Bool):(D.bsl k o n s ag).isCell=true:=(rfl)
noncomputable def Sm:List D→Option D:=Dl (α:=Int) (fun a=>[.int .i64 a]) (fun a=>True) (fun a=>De (.int a))
theorem Uo(n:Int):Sm [.int .i64 n]=some (De (.int n)):=
 D7 (fun a b h=>by simp only[Aa,D.int.injEq,true_and,and_true]at h; simp[h]) (n) trivial
theorem YAa(n:Int):@wW GG (tb [] []) ZG.code (Dc [.int .i64 n]) [] ⟨Dq ZG.res (De (.int n))⟩:=by
 unfold ZG;rw[OT];simp (disch:=first|omega|decide) only[push_cast,↓reduceIte,CI,UZ,Ypb,m6,RS];rfl
theorem bo:Contract Tryz.prog GG 145 Sm:=
 Eg yIc (DJ all_nil all_nil) (fun a h=>YAa a)
noncomputable def VB:List D→Option D:=Dl (α:=Dig) (fun a=>[C9 a]) (fun a=>True) (fun a=>De (.bytes a.bs))
theorem j3(d:Dig):VB [C9 d]=some (De (.bytes d.bs)):=
 D7 (fun a b h=>by simp only[Aa,Ls,and_true]at h; simp[h]) (d) trivial
theorem YAg(d:Dig):@wW GG (tb [] []) Ze.code (Dc [C9 d]) [] ⟨Dq Ze.res (De (.bytes d.bs))⟩:=by
 unfold Ze;rw[OZ];simp (disch:=first|omega|decide) only[push_cast,↓reduceIte,CI,UZ,vn,Ypd,m6,RS,Ypw,yZm];rfl
theorem mE:Contract Tryz.prog GG 142 VB:=
 Eg yLy (DJ all_nil all_nil) (fun a h=>YAg a)
noncomputable def OJ:List D→Option D:=Dl (α:=List Val) (fun a=>[.slc (nz 4 (a.map De)) (a.map De) false]) (fun a=>True) (fun a=>De (.list a))
theorem Yw(l:List Val):OJ [.slc (nz 4 (l.map De)) (l.map De) false]=some (De (.list l)):=
 D7 (fun a b h=>by simp only[Aa,D.slc.injEq,and_true,Ykx]at h; simp[h]) (l) trivial
theorem YAb(l:List Val):@wW GG (tb [] []) Y4.code (Dc [.slc (nz 4 (l.map De)) (l.map De) false]) [] ⟨Dq Y4.res (De (.list l))⟩:=by
 unfold Y4;rw[Q6];simp (disch:=first|omega|decide) only[push_cast,↓reduceIte,CI,UZ,Ypc,m6,RS];rfl
theorem bn:Contract Tryz.prog GG 141 OJ:=
 Eg yP8 (DJ all_nil all_nil) (fun a h=>YAb a)
noncomputable def Sl:List D→Option D:=Dl (α:=List UInt8×Val) (fun a=>[.str a.1,De a.2]) (fun a=>a.1.length≤1000∧Ek a.2≤16∧(DD a.2).length≤4294967000) (fun a=>C9 (Qo a.1 a.2))
theorem Yv(t:List UInt8)(v:Val)(h:t.length≤1000∧Ek v≤16∧(DD v).length≤4294967000):Sl [.str t,De v]=some (C9 (Qo t v)):=
 D7 (fun⟨a0,a1⟩ ⟨b0,b1⟩ h=>by simp only[Aa,D.str.injEq,and_true,Ui]at h; simp[h]) (t,v) h
theorem YAd(t:List UInt8)(v:Val)(h:t.length≤1000∧Ek v≤16∧(DD v).length≤4294967000):@wW GG (tb [(167,kz),(62,SL)] []) ZF.code (Dc [.str t,De v]) [] ⟨Dq ZF.res (C9 (Qo t v))⟩:=by
 unfold ZF Qo;have E:=yS3 v h.2
 have hl:(LC v).length≤65536:=by
  unfold LC
  split
  ·assumption
  ·simp
 have J:=fw t (LC v) (by omega);obtain⟨k,n,B,M,U,I⟩:=OX v;rw[I]at E;rw[I];simp (disch:=first|omega|decide) only[push_cast,↓reduceIte,CI,Ql,NI,ew,bu,E,XS,J]
theorem bl:Contract Tryz.prog GG 140 Sl:=
 Eg yId (DJ (all_cons Yqi (all_cons iJ all_nil)) all_nil) (fun a h=>YAd a.1 a.2 h)
theorem yX2(c:List Ins)(x:Ins):L5 (c++[x])=YCe (L5 c) x:=by unfold L5; rw[Cz]; rfl
theorem Ymm(d:Dig)(x:Ins):eO.length≤1000∧Ek (.list [.int x.op,.int x.n,.int x.m,.bytes d.bs])≤16∧(DD (.list [.int x.op,.int x.n,.int x.m,.bytes d.bs])).length≤4294967000:=by
 have E:=M9 x.op;have I:=M9 x.n;have J:=M9 x.m;have M:=TQ d;refine⟨by decide,by simp[Ek,IG],?_⟩;rw[OV];simp only[Ah,Ab,Aq,Au,BK];omega
theorem WN(a b c d:Val):Ft 4 [De a,De b,De c,De d]=some (.slc 4 [De a,De b,De c,De d] true):=dA [a,b,c,d] (by simp)
theorem WL(a b c d:Val):OJ [.slc 4 [De a,De b,De c,De d] false]=some (De (.list [a,b,c,d])):=Yw [a,b,c,d]
theorem YC2(a b:Val):Ft 4 [De a,De b]=some (.slc 4 [De a,De b] true):=dA [a,b] (by simp)
theorem YCy(a b:Val):OJ [.slc 4 [De a,De b] false]=some (De (.list [a,b])):=Yw [a,b]
theorem WM(a b c d e f g h:Val):Ft 4 [De a,De b,De c,De d,De e,De f,De g,De h]=some (.slc 4 [De a,De b,De c,De d,De e,De f,De g,De h] true):=dA [a,b,c,d,e,f,g,h] (by simp)
theorem WK(a b c d e f g h:Val):OJ [.slc 4 [De a,De b,De c,De d,De e,De f,De g,De h] false]=some (De (.list [a,b,c,d,e,f,g,h])):=Yw [a,b,c,d,e,f,g,h]
noncomputable def hU:List D→Option D:=Dl (α:=List Ins) (fun a=>[.slc (nz 3 (a.map Da)) (a.map Da) false]) (fun a=>a.length≤4294967296) (fun a=>C9 (L5 a))
theorem Yif(c:List Ins)(h:c.length≤4294967296):hU [.slc (nz 3 (c.map Da)) (c.map Da) false]=some (C9 (L5 c)):=
 D7 (fun a b h=>by simp only[Aa,D.slc.injEq,and_true,KL]at h; simp[h]) (c) h
theorem Yz9(c:List Ins)(h:c.length≤4294967296):@wW GG (tb [(145,Sm),(142,VB),(141,OJ),(140,Sl)] []) ZS.code (Dc [.slc (nz 3 (c.map Da)) (c.map Da) false]) [] ⟨Dq ZS.res (C9 (L5 c))⟩:=by
 unfold ZS;simp (disch:=first|omega|decide) only[push_cast,↓reduceIte,CI]
 refine F0 (fun i:Nat=>[(2,.ptr 0 0),(5,.slc (nz 3 (c.map Da)) (c.map Da) false),(6,.int .i64 (c.length:Int)),(7,.int .i64 (i:Int))])
  (fun i=>[⟨false,1,C8 (L5 (c.take i)),false⟩]) (fun i=>i≤c.length) (fun i=>c.length - i) 0 (by simp only[push_cast,↓reduceIte,CI,CP,CM,↓CL] <;> rfl) (by omega) ?_
 intro i hi;unfold oe;simp (disch:=first|omega|decide) only[push_cast,↓reduceIte,CI];refine E3 (fun V=>?_) (fun V=>?_)
 ·have E:i<c.length:=by omega
  have J:=Vv [⟨false,1,C8 (L5 (c.take i)),false⟩] c false i E;have I:=Q5 c E;obtain⟨x,M⟩:∃ x,c.getD i default=x:=⟨_,rfl⟩;rw[M]at J I;have U:=Yv eO (.list [.int x.op,.int x.n,.int x.m,.bytes (L5 (c.take i)).bs]) (Ymm _ _);simp only[eO]at U;simp (disch:=first|omega|decide) only[push_cast,↓reduceIte,CI,CP,CM,CJ,J,Le,LU,NX,GJ,LR,gP,Uo,j3,Vw,TU,WN,WL,U,DM];refine E5 (i+1) (by omega) (by omega) ?_;rw[I,yX2];simp only[push_cast] <;> rfl
 ·obtain rfl:i=c.length:=by omega
  rw[show(c.take c.length)=c from Bj];simp (disch:=first|omega|decide) only[push_cast,↓reduceIte,CI]
theorem YE9:Contract Tryz.prog GG 143 hU:=
 Eg yFi (DJ (all_cons bo (all_cons mE (all_cons bn (all_cons bl all_nil)))) all_nil) (fun a h=>Yz9 a h)
theorem yYl(d:Dig)(l:List Int)(n:Int):Il d (l++[n])=YCk (Il d l) n:=by unfold Il; rw[Cz]; rfl
theorem tG(d:Dig)(l m:List Int):Il d (l++m)=Il (Il d l) m:=by unfold Il; rw[Cz]
theorem Ym9(d:Dig)(n:Int):O8.length≤1000∧Ek (.list [.int n,.bytes d.bs])≤16∧(DD (.list [.int n,.bytes d.bs])).length≤4294967000:=by
 have E:=M9 n;have I:=TQ d;refine⟨by decide,by simp[Ek,IG],?_⟩;rw[OV];simp only[Ah,Ab,Aq,Au,BK];omega
noncomputable def dM:List D→Option D:=Dl (α:=Dig×List Int) (fun a=>[C9 a.1,.slc (nz 1 (a.2.map nI)) (a.2.map nI) false]) (fun a=>a.2.length≤4294967296) (fun a=>C9 (Il a.1 a.2))
theorem uE(d:Dig)(l:List Int)(h:l.length≤4294967296):dM [C9 d,.slc (nz 1 (l.map nI)) (l.map nI) false]=some (C9 (Il d l)):=
 D7 (fun⟨a0,a1⟩ ⟨b0,b1⟩ h=>by simp only[Aa,D.slc.injEq,Ls,and_true,Sy]at h; simp[h]) (d,l) h
theorem Ys5(d:Dig)(l:List Int)(h:l.length≤4294967296):@wW GG (tb [(145,Sm),(142,VB),(141,OJ),(140,Sl)] []) Y5.code (Dc [C9 d,.slc (nz 1 (l.map nI)) (l.map nI) false]) [] ⟨Dq Y5.res (C9 (Il d l))⟩:=by
 unfold Y5;simp (disch:=first|omega|decide) only[push_cast,↓reduceIte,CI]
 refine F0 (fun i:Nat=>[(2,.ptr 0 0),(4,.ptr 1 0),(7,.slc (nz 1 (l.map nI)) (l.map nI) false),(8,.int .i64 (l.length:Int)),(9,.int .i64 (i:Int))])
  (fun i=>[⟨false,1,C8 (Il d (l.take i)),false⟩,⟨false,1,C8 Dt,false⟩]) (fun i=>i≤l.length) (fun i=>l.length - i) 0 (by simp only[push_cast,↓reduceIte,CI,CP,CM,CJ,↓CL] <;> rfl) (by omega) ?_
 intro i hi;unfold nK;simp (disch:=first|omega|decide) only[push_cast,↓reduceIte,CI];refine E3 (fun V=>?_) (fun V=>?_)
 ·have E:i<l.length:=by omega
  have J:=U2 [⟨false,1,C8 (Il d (l.take i)),false⟩,⟨false,1,C8 Dt,false⟩] l false i E;have I:=Q5 l E;obtain⟨x,M⟩:∃ x,l.getD i default=x:=⟨_,rfl⟩;rw[M]at J I;have U:=Yv O8 (.list [.int x,.bytes (Il d (l.take i)).bs]) (Ym9 _ _);simp only[O8]at U;simp (disch:=first|omega|decide) only[push_cast,↓reduceIte,CI,CP,CM,CJ,J,Vk,Uo,j3,Vw,TU,YC2,YCy,U,DM];refine E5 (i+1) (by omega) (by omega) ?_;rw[I,yYl];simp only[push_cast] <;> rfl
 ·obtain rfl:i=l.length:=by omega
  rw[show(l.take l.length)=l from Bj];simp (disch:=first|omega|decide) only[push_cast,↓reduceIte,CI,CJ]
theorem yU:Contract Tryz.prog GG 146 dM:=
 Eg yP7 (DJ (all_cons bo (all_cons mE (all_cons bn (all_cons bl all_nil)))) all_nil) (fun a h=>Ys5 a.1 a.2 h)
noncomputable def hX:List D→Option D:=Dl (α:=List Int) (fun a=>[.slc (nz 1 (a.map nI)) (a.map nI) false]) (fun a=>a.length≤4294967296) (fun a=>C9 (Il Dt a))
theorem Yie(l:List Int)(h:l.length≤4294967296):hX [.slc (nz 1 (l.map nI)) (l.map nI) false]=some (C9 (Il Dt l)):=
 D7 (fun a b h=>by simp only[Aa,D.slc.injEq,and_true,Sy]at h; simp[h]) (l) h
theorem Yz8(l:List Int)(h:l.length≤4294967296):@wW GG (tb [(146,dM)] []) Zc.code (Dc [.slc (nz 1 (l.map nI)) (l.map nI) false]) [] ⟨Dq Zc.res (C9 (Il Dt l))⟩:=by
 unfold Zc;have hc:=uE Dt l h;simp (disch:=first|omega|decide) only[push_cast,↓reduceIte,CI,hc]
theorem YE8:Contract Tryz.prog GG 96 hX:=
 Eg yL0 (DJ (all_cons yU all_nil) all_nil) (fun a h=>Yz8 a h)
theorem Ywy(v:Int×List Int)(h:v.2.length=16):Pa.length≤1000∧Ek (.list [.int v.1,.list (v.2.map .int)])≤16∧(DD (.list [.int v.1,.list (v.2.map .int)])).length≤4294967000:=by
 have J:=M9 v.1;have M:=sQ v.2
 have E:∀ l:List Int,IG (l.map .int)=0:=by
  intro l
  induction l with
  |nil=>simp[IG]
  |cons a l I=>simp[IG,Ek,I]
 refine⟨by decide,by simp[Ek,IG,E],?_⟩;rw[OV];simp only[Ah,Ab,Aq,Au,BK,OV];omega
theorem Uq(l:List Int):(l.map nI).all D.isCell=true:=YE nI (fun _=>rfl) l
theorem Ra(l:List Int):(l.map nI).all Es=true:=by
 rw[Al];intro x E;obtain⟨n,_,rfl⟩:=AX.1 E;rfl
theorem TR(v:Int×List Int):D0 v=(v.1::v.2).map nI:=(rfl)
theorem FV(v:Int×List Int):DH (EJ v)=some (D0 v):=by
 rw[show DH (EJ v)=if(D0 v).all D.isCell then some (D0 v)else none from rfl,TR,if_pos (Uq _)]
theorem ET(st:St)(v:Int×List Int):DX st (EJ v)=some (EJ v):=Q3 st (Ra (v.1::v.2))
theorem F1(v:Int×List Int):keys (EJ v)=[]:=Qc (Ra (v.1::v.2))
theorem xG(v:Int×List Int):(D0 v).flatMap hk=[]:=MU (Ra (v.1::v.2))
theorem z4(m:Nat)(σ:List Nat)(v:Int×List Int):(D0 v).map (Ez m σ)=D0 v:=Mr m σ (Ra (v.1::v.2))
variable {v:Int×List Int}
theorem Gq(h:v.2.length=16)(sz:Nat)(lent:Bool):DA (some ⟨false,sz,D0 v,lent⟩) 17 true 0=some (EJ v):=LQ sz lent _ 17 (by simp[D0,h])
theorem YC8(v:Int×List Int)(sz:Nat)(lent:Bool):DA (some ⟨false,sz,D0 v,lent⟩) 1 false 0=some (.int .i64 v.1):=Jp (A:=[]) (C:=v.2.map nI) rfl rfl
theorem YC7(h:v.2.length=16)(sz:Nat)(lent:Bool):DA (some ⟨false,sz,D0 v,lent⟩) 16 true 1=some (.agg (v.2.map nI)):=MN (A:=[.int .i64 v.1]) (B:=v.2.map nI) (C:=[]) (by simp[D0]) rfl (by simp[h])
theorem Yw7(l:List Int)(i:Nat)(h:i<l.length):Qu l.length 1 false (.agg (l.map nI)) (.int .i64 (i:Int))=some (nI (l.getD i default)):=by
 have E:F8 (.int .i64 (i:Int))=some i:=by simp[F8]
 simp only[Qu,E,if_pos h,BP];refine Yg5 (A:=(l.take i).map nI) (C:=(l.drop (i+1)).map nI) ?_ (by simp; omega);rw[← Ax,← Bi]
 congr 1
 have:l=l.take i++l.drop i:=(Bl _ _).symm;rw[A9 h]at this;rw[Ai,Am h];exact this
theorem YC3(a:Val):Ft 4 [De a]=some (.slc 4 [De a] true):=dA [a] (by simp)
theorem zx(l:List Int):hk (.agg (l.map nI))=[]:=T0 (Ra l)
theorem rD(m:Nat)(σ:List Nat)(l:List Int):Ez m σ (.agg (l.map nI))=.agg (l.map nI):=Q4 m σ (Ra l)
noncomputable def hJ:List D→Option D:=Dl (α:=(Int×List Int)) (fun a=>[EJ a]) (fun a=>a.2.length=16) (fun a=>C9 (LB a))
theorem Yig(v:Int×List Int)(h:v.2.length=16):hJ [EJ v]=some (C9 (LB v)):=
 D7 (fun a b h=>by simp only[Aa,and_true,Kn]at h; simp[h]) (v) h
theorem YAc(v:Int×List Int)(h:v.2.length=16):@wW GG (tb [(145,Sm),(141,OJ),(140,Sl)] []) ZD.code (Dc [EJ v]) [] ⟨Dq ZD.res (C9 (LB v))⟩:=by
 unfold ZD;have Y:=Yv Pa (.list [.int v.1,.list (v.2.map .int)]) (Ywy v h);simp only[Pa]at Y;simp (disch:=first|omega|decide) only[push_cast,↓reduceIte,CI,FV,YC7 h]
 refine F0 (fun i:Nat=>[(1,.ptr 0 0),(2,.ptr 1 0),(3,D6 0 2 ((v.2.take i).map (De ∘ Val.int))),(7,.agg (v.2.map nI)),(8,.int .i64 (i:Int))])
  (fun i=>⟨false,1,D0 v,false⟩::⟨false,1,C8 Dt,false⟩::Dz 4 ((v.2.take i).map (De ∘ Val.int))) (fun i=>i≤16) (fun i=>16 - i) 0 (by simp only[push_cast,↓reduceIte,CI,CP,CM,CJ,↓CL,xG,z4,zx,rD] <;> rfl) (by omega) ?_
 intro i hi;unfold nT;simp (disch:=first|omega|decide) only[push_cast,↓reduceIte,CI];refine E3 (fun h2=>?_) (fun h2=>?_)
 ·have J:i<v.2.length:=by omega
  have V:=Yw7 v.2 i J;rw[h]at V;have M:=Q5 v.2 J;obtain⟨x,U⟩:∃ x,v.2.getD i default=x:=⟨_,rfl⟩;rw[U,show nI x=.int .i64 x from rfl]at V;rw[U]at M;have I:=z6 (f:=De ∘ Val.int) (sz:=4) (sz0:=0) (bytes:=64) (A:=v.2.take i) (x:=x) (t:=true) (a:=⟨false,1,D0 v,false⟩) (b:=⟨false,1,C8 Dt,false⟩) (hs0:=by decide) (hb:=by rw[AK]; omega) (hl:=by rw[AK]; omega);simp only[Function.comp_apply]at I;simp (disch:=first|omega|decide) only[push_cast,↓reduceIte,CI,CP,CM,CJ,V,Uo,Vw,TU,YC3,I,DM];refine E5 (i+1) (by omega) (by omega) ?_;rw[M];simp only[push_cast,xG,z4,zx,rD] <;> rfl
 ·obtain rfl:i=16:=by omega
  rw[show(v.2.take 16)=v.2 from AG (by omega)];have hb:DX (⟨false,1,D0 v,false⟩::⟨false,1,C8 Dt,false⟩::Dz 4 (v.2.map (De ∘ Val.int))) (D6 0 2 (v.2.map (De ∘ Val.int)))=some (.slc (nz 4 (v.2.map (De ∘ Val.int))) (v.2.map (De ∘ Val.int)) false):=xH _ _ 4 0 _;have hl:=Yw (v.2.map Val.int);rw[CG]at hl
  have E:v.2.map (De ∘ Val.int)≠[]:=by
   intro e;have:=congrArg List.length e;simp[h]at this
  rw[Sd _ _ _ E,QH _ _ E]at hb;simp (disch:=first|omega|decide) only[push_cast,↓reduceIte,CI,CJ,CT,↓CL,Sd _ _ _ E,QH _ _ E,Yem,YC8,Uo,Vw,TU,hl,YC2,YCy,Y];rfl
theorem YFa:Contract Tryz.prog GG 144 hJ:=
 Eg yIf (DJ (all_cons bo (all_cons bn (all_cons bl all_nil))) all_nil) (fun a h=>YAc a h)
theorem Wk(st:St)(E:sz≠0)(els:List D)(t:Bool)(h:k≤els.length):Hp st sz (.slc (nz sz els) els t) (some (.int .i64 (k:Int))) none none=some (.slc (nz sz els) (els.drop k) t):=by
 have I:((nz sz els == sz || els.isEmpty) && sz != 0)=true:=by
  cases els <;> simp[nz,E]
 have J:F8 (.int .i64 (k:Int))=some k:=by simp[F8]
 simp only[Hp,I,if_true,GP,J];rw[if_pos ⟨h,Ay _⟩,Bj,beq_self_eq_true,BT]
theorem Wl(st:St)(E:sz≠0)(els:List D)(t:Bool)(h:k≤els.length):Hp st sz (.slc (nz sz els) els t) none (some (.int .i64 (k:Int))) none=some (.slc (nz sz els) (els.take k) (t && k == els.length)):=by
 have I:((nz sz els == sz || els.isEmpty) && sz != 0)=true:=by
  cases els <;> simp[nz,E]
 have J:GP (some (.int .i64 (k:Int))) els.length=some k:=by simp[GP,F8]
 simp only[Hp,I,if_true,J];simp only[GP];rw[if_pos ⟨A4 _,h⟩,Bz]
theorem Wm(st:St)(E:sz≠0)(els:List D)(t:Bool)(h:k≤els.length):Hp st sz (.slc (nz sz els) els t) none (some (.int .i64 (k:Int))) (some (.int .i64 (k:Int)))=some (.slc (nz sz els) (els.take k) true):=by
 have I:((nz sz els == sz || els.isEmpty) && sz != 0)=true:=by
  cases els <;> simp[nz,E]
 have J:GP (some (.int .i64 (k:Int))) els.length=some k:=by simp[GP,F8]
 have M:F8 (.int .i64 (k:Int))=some k:=by simp[F8]
 simp only[Hp,I,if_true,J,M];simp only[GP];rw[if_pos (by simp[h]),Bz]
theorem Ylb(s:Sta):(DY s).all D.isCell=true:=(rfl)
theorem IM(s:Sta):DH (DS s)=some (DY s):=(rfl)
theorem Is:DH (.agg [.int .i64 0,.int .i64 0,.int .i64 0,.int .i64 0,.slc 0 [] true])=some [.int .i64 0,.int .i64 0,.int .i64 0,.int .i64 0,.slc 0 [] true]:=(rfl)
theorem KI(st:St)(s:Sta):DX st (DS s)=some (DS s):=by
 simp only[DS,DY,Ey,DX,D5,DC,IJ];rfl
theorem N5(s:Sta):keys (DS s)=[]:=(rfl)
theorem KJ(lent:Bool)(s:Sta):DA (some ⟨false,1,DY s,lent⟩) 1 false 0=some (.int .i64 s.pc):=(rfl)
theorem Ld(lent:Bool)(s:Sta):DA (some ⟨false,1,DY s,lent⟩) 1 false 1=some (.int .i64 s.fuel):=(rfl)
theorem Jx(lent:Bool)(s:Sta):DA (some ⟨false,1,DY s,lent⟩) 1 false 2=some (.int .i64 s.status):=(rfl)
theorem N0(lent:Bool)(s:Sta):DA (some ⟨false,1,DY s,lent⟩) 1 false 3=some (.int .i64 s.clause):=(rfl)
theorem OK(lent:Bool)(s:Sta):DA (some ⟨false,1,DY s,lent⟩) 1 false 4=some (Ey s.stack):=(rfl)
theorem IW(lent:Bool)(s:Sta):DA (some ⟨false,1,DY s,lent⟩) 5 true 0=some (DS s):=(rfl)
theorem Kp(s:Sta):DT (some ⟨false,1,[.int .i64 0,.int .i64 0,.int .i64 0,.int .i64 0,.slc 0 [] true],false⟩) 5 0 (DS s)=some ⟨false,1,DY s,false⟩:=(rfl)
theorem bL(s s':Sta):DT (some ⟨false,1,DY s,false⟩) 5 0 (DS s')=some ⟨false,1,DY s',false⟩:=(rfl)
theorem cq(l:List Int):Ey l=.slc (nz 1 (l.map nI)) (l.map nI) false:=(rfl)
def E1(a b c d:Int)(t:D)(k:Int)(r:Dig):List D:=.int .i64 a::.int .i64 b::.int .i64 c::.int .i64 d::t::.int .i64 k::C8 r
theorem KD(o:Opn):Ff o=E1 o.pc o.fuel o.status o.clause (Ey o.top) o.depth o.rest:=(rfl)
theorem UF(a b c d:Int)(t:D)(k:Int)(r:Dig):(E1 a b c d t k r).length=38:=by simp[E1,D2]
variable {t:D}
theorem rS(a b c d:Int)(E:t.isCell=true)(k:Int)(r:Dig):(E1 a b c d t k r).all D.isCell=true:=by
 simp only[E1,A0,E,fh,Bu];exact Lf (fun _=>rfl) r
theorem QM:(D.int .i64 0::.int .i64 0::.int .i64 0::.int .i64 0::.slc 0 [] true::.int .i64 0::C8 Dt)=E1 0 0 0 0 (.slc 0 [] true) 0 Dt:=(rfl)
theorem xg(a b c d:Int)(E:t.isCell=true)(k:Int)(r:Dig):DH (.agg (E1 a b c d t k r))=some (E1 a b c d t k r):=by
 rw[show DH (.agg (E1 a b c d t k r))=if(E1 a b c d t k r).all D.isCell then some (E1 a b c d t k r)else none from rfl,if_pos (rS a b c d E k r)]
theorem NY(o:Opn):DH (Ef o)=some (Ff o):=by
 rw[Ef,KD,xg _ _ _ _ rfl]
theorem Wc(a b c d E b' c' I:Int)(t:D){t':D}(M:t'.isCell=true)(k k':Int)(r J:Dig):DT (some ⟨false,1,E1 a b c d t k r,false⟩) 38 0 (.agg (E1 E b' c' I t' k' J))=some ⟨false,1,E1 E b' c' I t' k' J,false⟩:=
 LS 1 _ _ 38 (UF ..) (UF ..) (rS _ _ _ _ M _ _)
theorem S6(lent:Bool)(a b c d:Int)(t:D)(k:Int)(r:Dig):DA (some ⟨false,1,E1 a b c d t k r,lent⟩) 38 true 0=some (.agg (E1 a b c d t k r)):=LQ 1 lent _ 38 (UF ..)
theorem xL(lent:Bool)(a b c d:Int)(t:D)(k:Int)(r:Dig):DA (some ⟨false,1,E1 a b c d t k r,lent⟩) 1 false 0=some (.int .i64 a):=Jp (A:=[]) rfl rfl
theorem xM(lent:Bool)(a b c d:Int)(t:D)(k:Int)(r:Dig):DA (some ⟨false,1,E1 a b c d t k r,lent⟩) 1 false 1=some (.int .i64 b):=Jp (A:=[.int .i64 a]) rfl rfl
theorem mQ(lent:Bool)(a b c d:Int)(t:D)(k:Int)(r:Dig):DA (some ⟨false,1,E1 a b c d t k r,lent⟩) 1 false 2=some (.int .i64 c):=Jp (A:=[.int .i64 a,.int .i64 b]) rfl rfl
theorem yv(lent:Bool)(a b c d:Int)(t:D)(k:Int)(r:Dig):DA (some ⟨false,1,E1 a b c d t k r,lent⟩) 1 false 3=some (.int .i64 d):=Jp (A:=[.int .i64 a,.int .i64 b,.int .i64 c]) rfl rfl
theorem mR(lent:Bool)(a b c d:Int)(t:D)(k:Int)(r:Dig):DA (some ⟨false,1,E1 a b c d t k r,lent⟩) 1 false 4=some t:=Jp (A:=[.int .i64 a,.int .i64 b,.int .i64 c,.int .i64 d]) rfl rfl
theorem U6(lent:Bool)(a b c d:Int)(t:D)(k:Int)(r:Dig):DA (some ⟨false,1,E1 a b c d t k r,lent⟩) 1 false 5=some (.int .i64 k):=Jp (A:=[.int .i64 a,.int .i64 b,.int .i64 c,.int .i64 d,t]) rfl rfl
theorem yw(lent:Bool)(a b c d:Int)(t:D)(k:Int)(r:Dig):DA (some ⟨false,1,E1 a b c d t k r,lent⟩) 32 true 6=some (C9 r):=MN (A:=[.int .i64 a,.int .i64 b,.int .i64 c,.int .i64 d,t,.int .i64 k]) (B:=C8 r) (C:=[]) (by simp[E1]) rfl (D2 r)
theorem Yx0(a b c d:Int)(E:t.cells=[t])(hc:t.isCell=true)(k:Int)(r:Dig):DN (E1 0 0 0 0 (.slc 0 [] true) 0 Dt) [(0,1,.int .i64 a),(1,1,.int .i64 b),(2,1,.int .i64 c),(3,1,.int .i64 d),(4,1,t),(5,1,.int .i64 k),(6,32,C9 r)]=some (E1 a b c d t k r):=by
 refine(Jo (cs:=E1 0 0 0 0 (.slc 0 [] true) 0 Dt) (cs':=E1 a 0 0 0 (.slc 0 [] true) 0 Dt) (A:=[]) (B:=[.int .i64 0]) (xs:=[.int .i64 a]) rfl rfl rfl rfl rfl rfl rfl).trans ?_;refine(Jo (cs:=E1 a 0 0 0 (.slc 0 [] true) 0 Dt) (cs':=E1 a b 0 0 (.slc 0 [] true) 0 Dt) (A:=[.int .i64 a]) (B:=[.int .i64 0]) (xs:=[.int .i64 b]) rfl rfl rfl rfl rfl rfl rfl).trans ?_;refine(Jo (cs:=E1 a b 0 0 (.slc 0 [] true) 0 Dt) (cs':=E1 a b c 0 (.slc 0 [] true) 0 Dt) (A:=[.int .i64 a,.int .i64 b]) (B:=[.int .i64 0]) (xs:=[.int .i64 c]) rfl rfl rfl rfl rfl rfl rfl).trans ?_;refine(Jo (cs:=E1 a b c 0 (.slc 0 [] true) 0 Dt) (cs':=E1 a b c d (.slc 0 [] true) 0 Dt) (A:=[.int .i64 a,.int .i64 b,.int .i64 c]) (B:=[.int .i64 0]) (xs:=[.int .i64 d]) rfl rfl rfl rfl rfl rfl rfl).trans ?_;refine(Jo (cs:=E1 a b c d (.slc 0 [] true) 0 Dt) (cs':=E1 a b c d t 0 Dt) (A:=[.int .i64 a,.int .i64 b,.int .i64 c,.int .i64 d]) (B:=[.slc 0 [] true]) (xs:=[t]) rfl rfl rfl rfl E rfl (by simp[hc])).trans ?_;refine(Jo (cs:=E1 a b c d t 0 Dt) (cs':=E1 a b c d t k Dt) (A:=[.int .i64 a,.int .i64 b,.int .i64 c,.int .i64 d,t]) (B:=[.int .i64 0]) (xs:=[.int .i64 k]) rfl rfl rfl rfl rfl rfl rfl).trans ?_;refine(Jo (cs:=E1 a b c d t k Dt) (cs':=E1 a b c d t k r) (A:=[.int .i64 a,.int .i64 b,.int .i64 c,.int .i64 d,t,.int .i64 k]) (B:=C8 Dt) (C:=[]) (xs:=C8 r) (by simp[E1]) (by simp[E1]) rfl (D2 _) rfl (D2 _) (Lf (fun _=>rfl) r)).trans ?_;rfl
theorem q9(a b c d:Int)(sz:Nat)(els:List D)(E:Bool)(k:Int)(r:Dig):DN (E1 0 0 0 0 (.slc 0 [] true) 0 Dt) [(0,1,.int .i64 a),(1,1,.int .i64 b),(2,1,.int .i64 c),(3,1,.int .i64 d),(4,1,.slc sz els E),(5,1,.int .i64 k),(6,32,C9 r)]=some (E1 a b c d (.slc sz els E) k r):=Yx0 a b c d rfl rfl k r
theorem Gu(a b c d:Int)(sz:Nat)(els:List D)(E:Bool)(k:Int)(r:Dig):DH (.agg (E1 a b c d (.slc sz els E) k r))=some (E1 a b c d (.slc sz els E) k r):=xg a b c d rfl k r
theorem Vh(a b c d E b' c' I:Int)(t:D)(sz:Nat)(els:List D)(M:Bool)(k k':Int)(r J:Dig):DT (some ⟨false,1,E1 a b c d t k r,false⟩) 38 0 (.agg (E1 E b' c' I (.slc sz els M) k' J))=some ⟨false,1,E1 E b' c' I (.slc sz els M) k' J,false⟩:=Wc a b c d E b' c' I t rfl k k' r J
theorem br(st:St)(a b c d:Int)(sz:Nat)(els:List D)(E:Bool)(k:Int)(r:Dig):DX st (.agg (E1 a b c d (.slc sz els E) k r))=some (.agg (E1 a b c d (.slc (nz sz els) els false) k r)):=by
 simp only[E1,DX,tc,iN,iO,qt,Bp,Ag]
theorem Gm(st:St)(o:Opn):DX st (Ef o)=some (Ef o):=by
 rw[Ef,KD,cq,br,IJ]
theorem Ks(o:Opn):keys (Ef o)=[]:=by
 simp only[Ef,Ff,keys,Au]
 show []++([]++([]++([]++([]++([]++_)))))=[]
 have:(C8 o.rest).flatMap FB=[]:=qE o.rest;rw[this];rfl
theorem Ya4(c:List Ins)(v:Int×List Int)(o:Opn):O9.length≤1000∧Ek (.list [.bytes (L5 c).bs,.bytes (LB v).bs,.int o.pc,.int o.fuel,.int o.status,.int o.clause,.int (o.depth+o.top.length),.bytes (Il o.rest o.top).bs])≤16∧
  (DD (.list [.bytes (L5 c).bs,.bytes (LB v).bs,.int o.pc,.int o.fuel,.int o.status,.int o.clause,.int (o.depth+o.top.length),.bytes (Il o.rest o.top).bs])).length≤4294967000:=by
 have E:=TQ (L5 c);have I:=TQ (LB v);have J:=TQ (Il o.rest o.top);have M:=M9 o.pc;have U:=M9 o.fuel;have V:=M9 o.status;have Y:=M9 o.clause;have h8:=M9 (o.depth+o.top.length);refine⟨by decide,by simp[Ek,IG],?_⟩;rw[OV];simp only[Ah,Ab,Aq,Au,BK];omega
noncomputable def cO:List D→Option D:=Dl (α:=List Ins×(Int×List Int)×Opn) (fun a=>[.slc (nz 3 (a.1.map Da)) (a.1.map Da) false,EJ a.2.1,Ef a.2.2]) (fun a=>a.1.length≤4294967296∧a.2.1.2.length=16∧a.2.2.top.length≤4294967296∧0≤a.2.2.depth∧a.2.2.depth≤4294967296) (fun a=>C9 (Md a.1 a.2.1 a.2.2))
theorem tj(c:List Ins)(v:Int×List Int)(o:Opn)(h:c.length≤4294967296∧v.2.length=16∧o.top.length≤4294967296∧0≤o.depth∧o.depth≤4294967296):cO [.slc (nz 3 (c.map Da)) (c.map Da) false,EJ v,Ef o]=some (C9 (Md c v o)):=
 D7 (fun⟨a0,a1,E⟩ ⟨b0,b1,I⟩ h=>by simp only[Aa,D.slc.injEq,and_true,KL,SA,Kn]at h; simp[h]) (c,v,o) h
theorem Yz7(c:List Ins)(v:Int×List Int)(o:Opn)(h:c.length≤4294967296∧v.2.length=16∧o.top.length≤4294967296∧0≤o.depth∧o.depth≤4294967296):@wW GG (tb [(143,hU),(144,hJ),(146,dM),(145,Sm),(142,VB),(141,OJ),(140,Sl)] []) Zi.code (Dc [.slc (nz 3 (c.map Da)) (c.map Da) false,EJ v,Ef o]) [] ⟨Dq Zi.res (C9 (Md c v o))⟩:=by
 obtain⟨hc,hv,I,V,Y⟩:=h;unfold Zi;have E:=Yv O9 _ (Ya4 c v o);simp only[O9]at E;have J:=Yif c hc;have M:=Yig v hv;have U:=uE o.rest o.top I;simp (disch:=first|omega|decide) only[push_cast,↓reduceIte,CI,CJ,FV,NY,KD,cq,Gq hv,ET,xL,xM,mQ,yv,mR,U6,yw,J,M,U,Uo,j3,Vw,TU,DM,WM,WK,E];rfl
theorem xz:Contract Tryz.prog GG 94 cO:=
 Eg yLu (DJ (all_cons YE9 (all_cons YFa (all_cons yU (all_cons bo (all_cons mE (all_cons bn (all_cons bl all_nil))))))) all_nil) (fun a h=>Yz7 a.1 a.2.1 a.2.2 h)
theorem YBt(st:St)(l:List Int)(t:Bool)(h:k≤l.length):Hp st 1 (.slc (nz 1 (l.map nI)) (l.map nI) t) (some (.int .i64 (k:Int))) none none=some (.slc (nz 1 (l.map nI)) ((l.drop k).map nI) t):=by
 rw[Wk st (by decide) (l.map nI) t (by simpa using h),Co]
theorem YBu(st:St)(l:List Int)(h:k≤l.length):Hp st 1 (.slc (nz 1 (l.map nI)) (l.map nI) false) none (some (.int .i64 (k:Int))) none=some (.slc (nz 1 (l.map nI)) ((l.take k).map nI) false):=by
 rw[Wl st (by decide) (l.map nI) false (by simpa using h),B6]; rfl
theorem YBv(st:St)(l:List Int)(t:Bool)(h:k≤l.length):Hp st 1 (.slc (nz 1 (l.map nI)) (l.map nI) t) none (some (.int .i64 (k:Int))) (some (.int .i64 (k:Int)))=some (.slc (nz 1 (l.map nI)) ((l.take k).map nI) true):=by
 rw[Wm st (by decide) (l.map nI) t (by simpa using h),B6]
theorem jz(s:Sta)(n:Int):LM s n≤s.stack.length:=Nat.sub_le _ _
theorem Ym7(s:Sta)(n:Int):(s.stack.length:Int) - min (max n 0) (s.stack.length:Int)=(LM s n:Int):=by unfold LM; omega
noncomputable def dN:List D→Option D:=Dl (α:=Sta×Int) (fun a=>[DS a.1,.int .i64 a.2]) (fun a=>a.1.stack.length≤4294967296) (fun a=>Ef (FA a.1 a.2))
theorem uF(s:Sta)(n:Int)(h:s.stack.length≤4294967296):dN [DS s,.int .i64 n]=some (Ef (FA s n)):=
 D7 (fun⟨a0,a1⟩ ⟨b0,b1⟩ h=>by simp only[Aa,D.int.injEq,true_and,and_true,SF]at h; simp[h]) (s,n) h
theorem Ys4(s:Sta)(n:Int)(h:s.stack.length≤4294967296):@wW GG (tb [(96,hX)] []) Y2.code (Dc [DS s,.int .i64 n]) [] ⟨Dq Y2.res (Ef (FA s n))⟩:=by
 unfold Y2;have hk:=jz s n;have E:=Yie (s.stack.take (LM s n)) (by rw[AK]; omega);have I:min (max n 0) (s.stack.length:Int)≤s.stack.length:=Int.min_le_right _ _;have J:0≤min (max n 0) (s.stack.length:Int):=by omega
 simp (disch:=first|omega|decide) only[push_cast,↓reduceIte,CI,IM,QM,Gu,KJ,Ld,Jx,N0,OK,cq,Fy,Ym7,YBt,YBu,E,q9,Vh,S6,br,zR,zS];rfl
theorem yV:Contract Tryz.prog GG 42 dN:=
 Eg yQa (DJ (all_cons YE8 all_nil) all_nil) (fun a h=>Ys4 a.1 a.2 h)
noncomputable def cN:List D→Option D:=Dl (α:=List Ins×(Int×List Int)×Sta) (fun a=>[.slc (nz 3 (a.1.map Da)) (a.1.map Da) false,EJ a.2.1,DS a.2.2]) (fun a=>a.1.length≤4294967296∧a.2.1.2.length=16∧a.2.2.stack.length≤4294967296) (fun a=>C9 (DV a.1 a.2.1 a.2.2))
theorem jT(c:List Ins)(v:Int×List Int)(s:Sta)(h:c.length≤4294967296∧v.2.length=16∧s.stack.length≤4294967296):cN [.slc (nz 3 (c.map Da)) (c.map Da) false,EJ v,DS s]=some (C9 (DV c v s)):=
 D7 (fun⟨a0,a1,E⟩ ⟨b0,b1,I⟩ h=>by simp only[Aa,D.slc.injEq,and_true,KL,SF,Kn]at h; simp[h]) (c,v,s) h
theorem YAe(c:List Ins)(v:Int×List Int)(s:Sta)(h:c.length≤4294967296∧v.2.length=16∧s.stack.length≤4294967296):@wW GG (tb [(42,dN),(94,cO)] []) ZC.code (Dc [.slc (nz 3 (c.map Da)) (c.map Da) false,EJ v,DS s]) [] ⟨Dq ZC.res (C9 (DV c v s))⟩:=by
 obtain⟨hc,hv,E⟩:=h;unfold ZC;have I:=uF s s.stack.length E;have hk:LM s s.stack.length=0:=by unfold LM; omega
 have hw:=tj c v (FA s s.stack.length) ⟨hc,hv,by simp only[FA,AL]; omega,by simp only[FA,hk]; omega,by simp only[FA,hk]; omega⟩;simp (disch:=first|omega|decide) only[push_cast,↓reduceIte,CI,CJ,FV,Gq hv,ET,IM,IW,OK,cq,KI,N5,I,Gm,hw];rfl
theorem xx:Contract Tryz.prog GG 49 cN:=
 Eg yIg (DJ (all_cons yV (all_cons xz all_nil)) all_nil) (fun a h=>YAe a.1 a.2.1 a.2.2 h)
variable {o:Opn}{c:List Ins}
theorem Yhx(E:0≤o.depth)(I:o.depth≤64):Gs c v o=Md c v o:=if_neg (by omega)
theorem Yhw(E:o.depth<0):Gs c v o=Dt:=if_pos (.inl E)
theorem Yhy(E:64<o.depth):Gs c v o=Dt:=if_pos (.inr E)
noncomputable def VC:List D→Option D:=Dl (α:=List Ins×(Int×List Int)×Opn) (fun a=>[.slc (nz 3 (a.1.map Da)) (a.1.map Da) false,EJ a.2.1,Ef a.2.2]) (fun a=>a.1.length≤4294967296∧a.2.1.2.length=16∧a.2.2.top.length≤4294967296) (fun a=>C9 (Gs a.1 a.2.1 a.2.2))
theorem j4(c:List Ins)(v:Int×List Int)(o:Opn)(h:c.length≤4294967296∧v.2.length=16∧o.top.length≤4294967296):VC [.slc (nz 3 (c.map Da)) (c.map Da) false,EJ v,Ef o]=some (C9 (Gs c v o)):=
 D7 (fun⟨a0,a1,E⟩ ⟨b0,b1,I⟩ h=>by simp only[Aa,D.slc.injEq,and_true,KL,SA,Kn]at h; simp[h]) (c,v,o) h
theorem YAf(c:List Ins)(v:Int×List Int)(o:Opn)(h:c.length≤4294967296∧v.2.length=16∧o.top.length≤4294967296):@wW GG (tb [(94,cO)] []) Zb.code (Dc [.slc (nz 3 (c.map Da)) (c.map Da) false,EJ v,Ef o]) [] ⟨Dq Zb.res (C9 (Gs c v o))⟩:=by
 obtain⟨hc,hv,J⟩:=h;unfold Zb
 by_cases E:o.depth<0
 ·rw[Yhw E];simp (disch:=first|omega|decide) only[push_cast,↓reduceIte,CI,CJ,FV,NY,KD,U6,E]
 ·by_cases I:64<o.depth
  ·rw[Yhy I];simp (disch:=first|omega|decide) only[push_cast,↓reduceIte,CI,CJ,FV,NY,KD,U6,E,I]
  ·rw[Yhx (by omega) (by omega)];have hw:=tj c v o ⟨hc,hv,J,by omega,by omega⟩;have hi:=fun st=>Gm st o;have hk:=Ks o;rw[Ef,KD]at hw hi hk;simp (disch:=first|omega|decide) only[push_cast,↓reduceIte,CI,CJ,FV,NY,KD,U6,E,I,Gq hv,ET,S6,hi,hw]
theorem xw:Contract Tryz.prog GG 40 VC:=
 Eg yL1 (DJ (all_cons xz all_nil) all_nil) (fun a h=>YAf a.1 a.2.1 a.2.2 h)
end Go.Proofs.YtijnglngaogdjaaGreatDoor.PI
