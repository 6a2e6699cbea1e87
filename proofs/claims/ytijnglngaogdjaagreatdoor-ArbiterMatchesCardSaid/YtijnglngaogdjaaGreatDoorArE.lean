/-
  tvm: openings and their digests.
  Conditions: none; these are lemmas.
-/
import Derived.Test.YtijnglngaogdjaaGreatDoorFns
import Derived.Test.YtijnglngaogdjaaGreatDoorEngB2
import Derived.Test.YtijnglngaogdjaaGreatDoorSha
import Derived.WideKeyElems2
import Derived.LaidMore
import Derived.LaidHandle
import Derived.FnData
import Derived.KernelRfl
import Derived.Test.YtijnglngaogdjaaGreatDoorEngHe
open BitVec renaming ofInt→CP
open Int renaming reduceAdd→CW,reduceLE→C3,reduceLT→CO,reduceMul→CV,reduceNatCast'→CI,reduceNeg→CN,reducePow→C0,reduceSub→CZ,reduceToNat→CT
open List renaming range→CQ,replicate→CM
open Nat renaming reduceAdd→CH,reduceEqDiff→CG,reduceLT→CL,reduceLeDiff→CJ,reduceMul→C4
open UInt64 renaming ofNat→CX
open UInt8 renaming ofNat→CS
set_option linter.unusedVariables false
set_option linter.unusedSimpArgs false
namespace Go.Proofs.YtijnglngaogdjaaGreatDoor.PI
open Go
set_option linter.unusedSimpArgs false
set_option linter.unusedVariables false
def EM:List (Int×Nat):=[(3,231),(4,232),(5,233),(6,234),(7,235),(8,236),(9,238),(10,239),(11,240)]
def GG:Dh:=fun n=>if n=0 then some (.gmap EM)else MX 1 .u32 (Sha.K.map fun x=>(x.toNat:Int)) n
theorem FW:GG 0=some (.gmap EM):=rfl
theorem au:GG 1=some (.agg (Sha.K.map wD)):=rfl
theorem Rl(k:Int):Dj .and (.int .u64 (IntKind.wrap .u64 k)) (.int .u64 31)=some (.int .u64 ((k % 32).toNat:Int)):=by
 have h:(CP (IntKind.bits .u64) (IntKind.wrap .u64 k) &&& CP (IntKind.bits .u64) 31).toNat=(k % 32).toNat:=by
  show(CP 64 (IntKind.wrap .u64 k) &&& CP 64 31).toNat=_
  rw[BitVec.toNat_and,show(CP 64 31).toNat=2 ^ 5 - 1 from rfl,B9,BitVec.toNat_ofInt];simp[IntKind.wrap,IntKind.signed,IntKind.bits];omega
 simp only[Dj,if_true,Jd,Ae,h,OS]
 congr 2
 omega
noncomputable def YE:List D→Option D:=Dd (α:=UInt32×Int) (fun a=>[wD a.1,.int .i64 a.2]) (fun a=>-31≤a.2∧a.2≤-1) (fun a=>wD (Sha.rotr a.1 (-a.2).toNat))
theorem iS(x:UInt32)(k:Int)(h:-31≤k∧k≤-1):YE [wD x,.int .i64 k]=some (wD (Sha.rotr x (-k).toNat)):=
 DG (fun⟨a0,a1⟩ ⟨b0,b1⟩ h=>by simp only[Aa,D.int.injEq,iH,true_and,and_true]at h; simp[h]) (x,k) h
set_option maxHeartbeats 4000000 in
set_option maxRecDepth 20000 in
theorem Yms(x:UInt32)(k:Int)(h:-31≤k∧k≤-1):@wW GG (tb [] []) Um.code (Db [wD x,.int .i64 k]) [] ⟨De Um.res (wD (Sha.rotr x (-k).toNat))⟩:=by
 obtain⟨O,U⟩:=h;have u:∃ s:Nat,(k % 32).toNat=s∧0<s∧s<32∧(-k).toNat=32 - s:=⟨(k % 32).toNat,rfl,by omega,by omega,by omega⟩;obtain⟨s,E,V,I,J⟩:=u
 have e:Dj .sub (.int .u64 32) (.int .u64 (s:Int))=some (.int .u64 ((32 - s:Nat):Int)):=by
  simp only[Dj,if_true,Ic,Ae];rw[show(32 - (s:Int))=((32 - s:Nat):Int) by omega,OS,AW (by omega)]
 have M:∀ st,E0 st (.int .u64) (.int .i64 k)=some (.int .u64 (IntKind.wrap .u64 k)):=fun _=>rfl
 have N:Sha.rotr x (32 - s)=x <<< UInt32.ofNat s ||| x >>> UInt32.ofNat (32 - s):=by
  unfold Sha.rotr;grind
 unfold Um;simp only[push_cast,↓reduceIte,CG,M,Rl,E,e,lQ _ _ _ I,lT x .u64 (32 - s) (by omega),Ld,J,N]
theorem zz:Contract Tryz.prog GG 187 YE:=
 DH oR (Dy all_nil all_nil) (fun a h=>Yms a.1 a.2 h)
def Fl(b:List UInt8)(i:Nat):List UInt32:=Sha.sch b i++CM (64 - i) 0
theorem SQ(b:List UInt8)(i:Nat)(h:i≤64):(Fl b i).length=64:=by
 simp[Fl,Sha.sch_length]; omega
theorem g9(b:List UInt8)(i j:Nat)(h:j<i):(Fl b i).getD j default=(Sha.sch b i).getD j 0:=by
 have u:j<(Sha.sch b i).length:=by rw[Sha.sch_length]; exact h
 simp[Fl,Aj,Ao u,u]
theorem RP(b:List UInt8)(i:Nat)(v:UInt32)(h:i<64)(hv:Sha.sch b (i+1)=Sha.sch b i++[v]):(Fl b i).set i v=Fl b (i+1):=by
 have u:(Sha.sch b i).length=i:=Sha.sch_length b i;unfold Fl;rw[hv,BO _ _ (by omega),u,BA,show 64 - i=(64 - (i+1))+1 by omega,BI,Bh,Ar];rfl
theorem mB(b:List UInt8)(i:Nat)(h:i<16):Sha.sch b (i+1)=Sha.sch b i++[Sha.word b i]:=by
 simp[Sha.sch,h]
theorem mA(b:List UInt8)(i:Nat)(h:16≤i):Sha.sch b (i+1)=Sha.sch b i++[(Sha.sch b i).getD (i - 16) 0+Sha.sig0 ((Sha.sch b i).getD (i - 15) 0)+(Sha.sch b i).getD (i - 7) 0+Sha.sig1 ((Sha.sch b i).getD (i - 2) 0)]:=by
 simp[Sha.sch,Nat.not_lt.2 h]
theorem Ro(s t:Sha.St8)(i:Nat)(h:i<8):(((s.add t).list.take i++s.list.drop i).set i (((s.add t).list.take i++s.list.drop i).getD i default+t.list.getD i default))=(s.add t).list.take (i+1)++s.list.drop (i+1):=by
 rcases i with _ | _ | _ | _ | _ | _ | _ | _ | i <;> first | rfl | omega
noncomputable def Zk:List D→Option D:=Dd (α:=Sha.St8×List UInt8) (fun a=>[.agg (Sha.St8.list a.1 |>.map wD),.slc (nz 1 (a.2.map Da)) (a.2.map Da) false]) (fun a=>a.2.length=64) (fun a=>.agg ((Sha.block a.1 a.2).list.map wD))
theorem kx(s:Sha.St8)(b:List UInt8)(h:b.length=64):Zk [.agg (Sha.St8.list s |>.map wD),.slc (nz 1 (b.map Da)) (b.map Da) false]=some (.agg ((Sha.block s b).list.map wD)):=
 DG (fun⟨a0,a1⟩ ⟨b0,b1⟩ h=>by simp only[Aa,D.slc.injEq,D.agg.injEq,LN,kj,Sha.St8.list_iff,and_true]at h; simp[h]) (s,b) h
set_option maxHeartbeats 4000000 in
set_option maxRecDepth 20000 in
theorem Yg3(s:Sha.St8)(b:List UInt8)(h:b.length=64):@wW GG (tb [(187,YE)] []) Th.code (Db [.agg (Sha.St8.list s |>.map wD),.slc (nz 1 (b.map Da)) (b.map Da) false]) [] ⟨De Th.res (.agg ((Sha.block s b).list.map wD))⟩:=by
 unfold Th;simp only[push_cast,CH]
 refine EP (fun i:Nat=>[(1,.slc (nz 1 (b.map Da)) (b.map Da) false),(2,.ptr 0 0),(4,.ptr 1 0),(5,.ptr 2 0),(19,.int .i64 (i:Int))])
  (fun i=>[⟨false,1,s.list.map wD,false⟩,⟨false,1,(zW 8).map wD,false⟩,⟨false,1,(Fl b i).map wD,false⟩]) (fun i=>i≤16) (fun i=>16 - i) 0 (by simp only[push_cast,↓reduceIte,CG,CL,CJ,CH,↓CI] <;> rfl) (by omega) ?_
 intro i hi;unfold cN;simp only[push_cast,↓reduceIte,CG];refine Fg (fun U=>?_) (fun U=>?_)
 ·have N:i<16:=by omega
  have u:(4*(i:Int)).toNat=4*i:=by omega
  have E:(4*(i:Int)+1).toNat=4*i+1:=by omega
  have I:(4*(i:Int)+2).toNat=4*i+2:=by omega
  have J:(4*(i:Int)+3).toNat=4*i+3:=by omega
  have hl:(Fl b i).length=64:=SQ b i (by omega);have hw:=RP b i (Sha.word b i) (by omega) (mB b i N);simp (disch:=omega) only[push_cast,↓reduceIte,CG,CL,CJ,CH,CT,Jh,DL,KA,eO,Xr,Ld,IL,u,E,I,J];refine El (i+1) (by omega) (by omega) ?_;rw[← hw];rfl
 ·obtain rfl:i=16:=by omega
  simp only[push_cast,↓reduceIte,CH,CO,↓CI]
  refine EP (fun i:Nat=>[(2,.ptr 0 0),(4,.ptr 1 0),(5,.ptr 2 0),(7,.int .i64 (i:Int))])
   (fun i=>[⟨false,1,s.list.map wD,false⟩,⟨false,1,(zW 8).map wD,false⟩,⟨false,1,(Fl b i).map wD,false⟩]) (fun i=>16≤i∧i≤64) (fun i=>64 - i) 16 (by simp only[push_cast,↓reduceIte,CG,CL,CJ,CH,↓CI] <;> rfl) (by omega) ?_
  intro i hi;unfold cO;simp only[push_cast,↓reduceIte,CG,CN];refine Fg (fun V=>?_) (fun V=>?_)
  ·have hl:(Fl b i).length=64:=SQ b i (by omega);have hw:=RP b i _ (by omega) (mA b i (by omega));have u:((i:Int) - 15).toNat=i - 15:=by omega
   have E:((i:Int) - 2).toNat=i - 2:=by omega
   have I:((i:Int) - 16).toNat=i - 16:=by omega
   have J:((i:Int) - 7).toNat=i - 7:=by omega
   simp (disch:=omega) only[push_cast,↓reduceIte,CG,CL,CJ,CH,CT,CN,Ez,DL,IL,iS,Uv,PO,NY,u,E,I,J,g9];refine El (i+1) (by omega) (by omega) ?_;rw[← hw];rfl
  ·obtain rfl:i=64:=by omega
   have M:Fl b 64=Sha.sch b 64:=by simp[Fl]
   have hl:(Sha.sch b 64).length=64:=Sha.sch_length b 64;have ab:s.list.length=8:=rfl;have ac:(zW 8).length=8:=rfl;simp (disch:=first | omega | rfl) only[push_cast,↓reduceIte,CG,CH,CO,CN,↓CI,M]
   refine EP (fun i:Nat=>[(2,.ptr 0 0),(4,.ptr 1 0),(5,.ptr 2 0),(12,.ptr 3 0),(102,.int .i64 (i:Int))])
    (fun i=>[⟨false,1,s.list.map wD,false⟩,⟨false,1,(zW 8).map wD,false⟩,⟨false,1,(Sha.sch b 64).map wD,false⟩,⟨false,1,(Sha.rounds (Sha.sch b 64) s i).list.map wD,false⟩]) (fun i=>i≤64) (fun i=>64 - i) 0 (by simp only[push_cast,↓reduceIte,CG,CL,CJ,CH,↓CI] <;> rfl) (by omega) ?_
   intro i hi;unfold cP;simp only[push_cast,↓reduceIte,CG,CN];refine Fg (fun X=>?_) (fun X=>?_)
   ·have hK:Sha.K.length=64:=rfl;have O:Sha.rounds (Sha.sch b 64) s (i+1)=Sha.round (Sha.rounds (Sha.sch b 64) s i) (Sha.K.getD i 0) ((Sha.sch b 64).getD i 0):=rfl;generalize Sha.rounds (Sha.sch b 64) s i=r at O;simp (disch:=omega) only[push_cast,↓reduceIte,CG,CL,CJ,CH,CT,CN,Sha.St8.list,IL,sk,HU _ _ _ _ au,iS,Uv,lC,lK,NY,DL];refine El (i+1) (by omega) (by omega) ?_;rw[O];rfl
   ·obtain rfl:i=64:=by omega
    have hb:Sha.block s b=s.add (Sha.rounds (Sha.sch b 64) s 64):=rfl;rw[hb];generalize Sha.rounds (Sha.sch b 64) s 64=r;simp only[push_cast,↓reduceIte,CH,CO,CN,↓CI]
    refine EP (fun i:Nat=>[(2,.ptr 0 0),(4,.ptr 1 0),(12,.ptr 3 0),(182,.int .i64 (i:Int))])
     (fun i=>[⟨false,1,((s.add r).list.take i++s.list.drop i).map wD,false⟩,⟨false,1,(zW 8).map wD,false⟩,⟨false,1,(Sha.sch b 64).map wD,false⟩,⟨false,1,r.list.map wD,false⟩]) (fun i=>i≤8) (fun i=>8 - i) 0 (by simp only[push_cast,↓reduceIte,CG,CL,CJ,CH,↓CI] <;> rfl) (by omega) ?_
    intro i hi
    have ad:((s.add r).list.take i++s.list.drop i).length=8:=by
     simp only[Ad,As,AE,Sha.St8.list_length]; omega
    have ae:r.list.length=8:=rfl;unfold cQ;simp only[push_cast,↓reduceIte,CG];refine Fg (fun Y=>?_) (fun Y=>?_)
    ·have ha:=Ro s r i (by omega);simp (disch:=omega) only[push_cast,↓reduceIte,CG,CL,CJ,CH,IL,NY,DL];refine El (i+1) (by omega) (by omega) ?_;grind
    ·obtain rfl:i=8:=by omega
     have e8:(s.add r).list.take 8++s.list.drop 8=(s.add r).list:=rfl;have af:(s.add r).list.length=8:=rfl;simp (disch:=first | omega | rfl) only[push_cast,↓reduceIte,CG,CH,CO,↓CI,e8]
theorem Ylo:Contract Tryz.prog GG 159 Zk:=
 DH nb (Dy (all_cons zz all_nil) all_nil) (fun a h=>Yg3 a.1 a.2 h)
end Go.Proofs.YtijnglngaogdjaaGreatDoor.PI
namespace Go.Proofs.YtijnglngaogdjaaGreatDoor.PI
open Go Go.WideElems
set_option linter.unusedSimpArgs false
set_option linter.unusedVariables false
def binsD:DataW Unit:=.map [(.int .i64 3,.agg [.iface "func" (.lit (.string [119,97,103,111,110,112,111,111,108,47,109,111,110,101,121,46,65,100,100]))]),(.int .i64 4,.agg [.iface "func" (.lit (.string [119,97,103,111,110,112,111,111,108,47,109,111,110,101,121,46,83,117,98]))]),(.int .i64 5,.agg [.iface "func" (.lit (.string [119,97,103,111,110,112,111,111,108,47,109,111,110,101,121,46,77,117,108]))]),(.int .i64 6,.agg [.iface "func" (.lit (.string [119,97,103,111,110,112,111,111,108,47,116,118,109,46,98,105,110,97,114,105,101,115,36,49]))]),(.int .i64 7,.agg [.iface "func" (.lit (.string [119,97,103,111,110,112,111,111,108,47,116,118,109,46,98,105,110,97,114,105,101,115,36,50]))]),(.int .i64 8,.agg [.iface "func" (.lit (.string [119,97,103,111,110,112,111,111,108,47,116,118,109,46,98,105,110,97,114,105,101,115,36,51]))]),(.int .i64 9,.agg [.iface "func" (.lit (.string [119,97,103,111,110,112,111,111,108,47,116,118,109,46,98,105,110,97,114,105,101,115,36,52]))]),(.int .i64 10,.agg [.iface "func" (.lit (.string [119,97,103,111,110,112,111,111,108,47,116,118,109,46,98,105,110,97,114,105,101,115,36,53]))]),(.int .i64 11,.agg [.iface "func" (.lit (.string [119,97,103,111,110,112,111,111,108,47,116,118,109,46,98,105,110,97,114,105,101,115,36,54]))])]
theorem gB:Tryz.prog.globalNamed "wagonpool/tvm.binaries"=some 0:=by kernel_rfl
theorem tB:(Tryz.prog.globals[0]?).map (·.type)=some 198:=by kernel_rfl
theorem Zw:Tryz.prog.underlying 198=some (.map 3 196):=by kernel_rfl
theorem u3:Tryz.prog.underlying 3=some (.int .i64):=by kernel_rfl
def Ql:Option TypeDesc→Bool
 |some (.struct fs)=>match fs.toList with
  |[f]=>f.offset == 0 && f.type == 194
  |_=>false
 |_=>false
def QY:Option TypeDesc→Bool
 |some (.func _ _ _)=>true
 |_=>false
theorem P0:Ql (Tryz.prog.underlying 196)=true:=by kernel_rfl
theorem P1:QY (Tryz.prog.underlying 194)=true:=by kernel_rfl
theorem Zx:∃ f,Tryz.prog.underlying 196=some (.struct #[f])∧f.offset=0∧f.type=194:=by
 have h:=P0;unfold Ql at h
 split at h
 ·rename_i fs hu
  split at h
  ·rename_i f hf;simp only[Ac,beq_iff_eq]at h;have e:fs=#[f]:=Array.ext' hf;subst e;exact⟨f,hu,h.1,h.2⟩
  ·cases h
 ·cases h
theorem Re:Tryz.prog.cellsOf 196=1:=by kernel_rfl
theorem ZR:Tryz.prog.cellsOf 194=1:=by kernel_rfl
theorem Zy:∃ ps rs u,Tryz.prog.underlying 194=some (.func ps rs u):=by
 have h:=P1;unfold QY at h
 split at h
 ·rename_i ps rs u hu; exact⟨ps,rs,u,hu⟩
 ·cases h
variable {k:Int}{v:Value}
theorem Ypf{P:Program}{t:TypeId}{E:IntKind}(I:P.underlying t=some (.int E))(h:keyOf P t v=some (.int E k)):v=.int E k:=by
 unfold keyOf mapKey at h;rw[I]at h;simp only at h
 split at h
 ·rename_i u; cases u
 ·rename_i u; simp only[BF,TypeDesc.int.injEq]at u; subst u
  split at h
  ·simp only[BF,Lit.int.injEq]at h;rename_i J;rw[← J.1,h.2]
  ·cases h
 ·rename_i u; cases u
 ·cases h
theorem eZ(h:keyOf Tryz.prog 3 v=some (.int .i64 k)):v=.int .i64 k:=Ypf u3 h
theorem jI{k:Int}{f:Nat}:∀ {l:List (Int×Nat)},FY k l=some f→k∈l.map (·.1)
 |[],h=>by cases h
 |p::r,h=>by
  unfold FY at h
  split at h
  ·rename_i e; simp[e]
  ·exact Ai _ (jI h)
set_option maxRecDepth 20000 in
theorem KP{W:World}{n:Nat}{e:MapEntry}{b:UInt8}{r:List UInt8}{f0:FuncId}(M:((CQ Tryz.prog.funcs.size).filter fun f=>(Tryz.prog.funcs[f]?).any (·.name.toUTF8.data.toList == b::r))=[f0])
  (h:rd Tryz.prog 3 (elemAt (funcToken Tryz.prog) Tryz.prog W 0 (fun _=>true) true n 196) e=some (.int .i64 k,.agg [.held (b::r)])):e.key=.int .i64 k∧e.val=.agg #[.func (.func f0) #[] #[]]:=by
 constructor
 ·exact eZ (rd_key h)
 ·obtain⟨z,I,J⟩:=rd_val h;obtain⟨z1,U⟩:=z;dsimp only at J;subst J;unfold elemAt at I
  split at I
  case isFalse=>cases I
  rename_i u;obtain⟨f,hu,V,X⟩:=Zx;obtain⟨ps,rs,va,N⟩:=Zy
  cases n with
  |zero=>simp[DataW.trod]at I
  |succ n=>
   unfold Value.formed at u;rw[hu,Re]at u
   cases hv:e.val with
   |agg cs=>
    rw[hv]at I u;simp only[beq_iff_eq]at u
    obtain⟨v,rfl⟩:∃ v,cs=#[v]:=by
     obtain⟨l⟩:=cs
     match l,u with
     |[v],_=>exact⟨v,rfl⟩
    have E:DataW.trod (funcToken Tryz.prog) Tryz.prog W 0 (fun _=>true) true (n+1) 196 [v]=some (.agg [.held (b::r)],U):=I;rw[DataW.trod_step]at E;unfold DataW.trodStep at E;rw[hu]at E;simp[Re,V,X,ZR]at E
    obtain⟨q,Y⟩:∃ q,DataW.trod (funcToken Tryz.prog) Tryz.prog W 0 (fun _=>true) true n 194 [v]=some (.held (b::r),q):=by
     rw[Aw]at E;obtain⟨⟨y1,y2⟩,h1,O⟩:=E;simp at O;exact⟨y2,by rw[h1,O.1]⟩
    rw[func_of_trod N M Y]
   |_=>rw[hv]at u; simp at u
def Pn:List (Lit×DataW (List UInt8)):=[(.int .i64 3,.agg [.held [119,97,103,111,110,112,111,111,108,47,109,111,110,101,121,46,65,100,100]]),(.int .i64 4,.agg [.held [119,97,103,111,110,112,111,111,108,47,109,111,110,101,121,46,83,117,98]]),(.int .i64 5,.agg [.held [119,97,103,111,110,112,111,111,108,47,109,111,110,101,121,46,77,117,108]]),(.int .i64 6,.agg [.held [119,97,103,111,110,112,111,111,108,47,116,118,109,46,98,105,110,97,114,105,101,115,36,49]]),(.int .i64 7,.agg [.held [119,97,103,111,110,112,111,111,108,47,116,118,109,46,98,105,110,97,114,105,101,115,36,50]]),(.int .i64 8,.agg [.held [119,97,103,111,110,112,111,111,108,47,116,118,109,46,98,105,110,97,114,105,101,115,36,51]]),(.int .i64 9,.agg [.held [119,97,103,111,110,112,111,111,108,47,116,118,109,46,98,105,110,97,114,105,101,115,36,52]]),(.int .i64 10,.agg [.held [119,97,103,111,110,112,111,111,108,47,116,118,109,46,98,105,110,97,114,105,101,115,36,53]]),(.int .i64 11,.agg [.held [119,97,103,111,110,112,111,111,108,47,116,118,109,46,98,105,110,97,114,105,101,115,36,54]])]
set_option maxRecDepth 20000 in
theorem Yc7{W:World}(h:funcsAt Tryz.prog W "wagonpool/tvm.binaries" binsD):∃ b es clock,W.cell? ⟨0,0,none⟩=some (.map (some b))∧W.heap[b]?=some (.map es clock)∧Kf (.map es clock)=true∧XO es EM:=by
 obtain⟨g,t,cs,fuel,p,hg,ht,hv,hd⟩:=h;obtain rfl:=Au (gB.symm.trans hg);obtain rfl:=Au (tB.symm.trans ht);have hd':DataW.trod (funcToken Tryz.prog) Tryz.prog W 0 (fun _=>true) true fuel 198 cs.toList=some (.map Pn,p):=hd;rcases open_map Zw hd' with⟨_,hx⟩ | ⟨b,es,clock,n,rfl,hcs,hb,_,F,hx⟩
 ·cases hx
 simp only[Prod.mk.injEq,DataW.map.injEq]at hx
 have mem:∀ y,y∈Pn↔y∈es.toList.map (rg Tryz.prog 3 (elemAt (funcToken Tryz.prog) Tryz.prog W 0 (fun _=>true) true n 196)):=fun y=>by
  rw[hx.1]; exact(Go.WideShapes.sorted_perm _).mem_iff
 have ent:∀ e∈es.toList,∃ k f,e.key=.int .i64 k∧e.val=.agg #[.func (.func f) #[] #[]]∧f<5000000∧FY k EM=some f:=by
  intro e he;obtain⟨y,hy⟩:=F.reads e he;have hm:y∈Pn:=(mem y).2 (AS.2 ⟨e,he,rg_of hy⟩);simp only[Pn,AA,AQ,or_false]at hm;rcases hm with rfl | rfl | rfl | rfl | rfl | rfl | rfl | rfl | rfl
  ·obtain⟨h1,h2⟩:=KP (f0:=231) (by kernel_rfl) hy; exact⟨_,_,h1,h2,by decide,rfl⟩
  ·obtain⟨h1,h2⟩:=KP (f0:=232) (by kernel_rfl) hy; exact⟨_,_,h1,h2,by decide,rfl⟩
  ·obtain⟨h1,h2⟩:=KP (f0:=233) (by kernel_rfl) hy; exact⟨_,_,h1,h2,by decide,rfl⟩
  ·obtain⟨h1,h2⟩:=KP (f0:=234) (by kernel_rfl) hy; exact⟨_,_,h1,h2,by decide,rfl⟩
  ·obtain⟨h1,h2⟩:=KP (f0:=235) (by kernel_rfl) hy; exact⟨_,_,h1,h2,by decide,rfl⟩
  ·obtain⟨h1,h2⟩:=KP (f0:=236) (by kernel_rfl) hy; exact⟨_,_,h1,h2,by decide,rfl⟩
  ·obtain⟨h1,h2⟩:=KP (f0:=238) (by kernel_rfl) hy; exact⟨_,_,h1,h2,by decide,rfl⟩
  ·obtain⟨h1,h2⟩:=KP (f0:=239) (by kernel_rfl) hy; exact⟨_,_,h1,h2,by decide,rfl⟩
  ·obtain⟨h1,h2⟩:=KP (f0:=240) (by kernel_rfl) hy; exact⟨_,_,h1,h2,by decide,rfl⟩
 have all:∀ k∈EM.map (·.1),∃ e∈es.toList,e.key=.int .i64 k:=by
  intro k hk
  have hkL:∃ d,(Lit.int .i64 k,d)∈Pn:=by
   simp only[EM,Aq,A6,AA,AQ,or_false]at hk;rcases hk with rfl | rfl | rfl | rfl | rfl | rfl | rfl | rfl | rfl
   ·exact⟨_,Bc⟩
   ·exact⟨_,Ai _ (Bc)⟩
   ·exact⟨_,Ai _ (Ai _ (Bc))⟩
   ·exact⟨_,Ai _ (Ai _ (Ai _ (Bc)))⟩
   ·exact⟨_,Ai _ (Ai _ (Ai _ (Ai _ (Bc))))⟩
   ·exact⟨_,Ai _ (Ai _ (Ai _ (Ai _ (Ai _ (Bc)))))⟩
   ·exact⟨_,Ai _ (Ai _ (Ai _ (Ai _ (Ai _ (Ai _ (Bc))))))⟩
   ·exact⟨_,Ai _ (Ai _ (Ai _ (Ai _ (Ai _ (Ai _ (Ai _ (Bc)))))))⟩
   ·exact⟨_,Ai _ (Ai _ (Ai _ (Ai _ (Ai _ (Ai _ (Ai _ (Ai _ (Bc))))))))⟩
  obtain⟨d,hd⟩:=hkL;obtain⟨e,he,hre⟩:=AS.1 ((mem _).1 hd);obtain⟨y,hy⟩:=F.reads e he;obtain⟨k',f,h1,h2,_⟩:=ent e he;rw[rg_of hy]at hre;subst hre;have hk:=eZ (rd_key hy);exact⟨e,he,hk⟩
 have hc0:W.cell? ⟨0,0,none⟩=some (.map (some b)):=by
  rw[World.var?_cell hg hv 0];obtain⟨l⟩:=cs;have:l=[.map (some b)]:=hcs;rw[this]; rfl
 have hsp:Kf (.map es clock)=true:=by
  rw[X6];obtain⟨e,he,_⟩:=all 3 (by decide)
  have hlt:0<es.size:=by
   have:=List.length_pos_of_mem he;simpa using this
  rw[BC hlt];obtain⟨k,f,_,h2,_⟩:=ent es[0] (by simp);simp only[h2];rfl
 refine⟨b,es,clock,hc0,hb,hsp,fun e he=>?_,fun k f hf=>?_⟩
 ·exact ent e he
 ·exact all k (jI hf)
theorem globGG{W:World}(hk:Lib.TabIs Tryz.prog W "wagonpool/digest.k" .u32 (Sha.K.map fun x=>(x.toNat:Int)))(gk:Tryz.prog.globalNamed "wagonpool/digest.k"=some 1)(h:funcsAt Tryz.prog W "wagonpool/tvm.binaries" binsD):GlobOK GG W (IF W):=by
 intro n d hd;unfold GG at hd
 split at hd
 ·rename_i e;subst e;simp only[BF]at hd;subst hd;obtain⟨b,es,clock,h1,h2,h3,h4⟩:=Yc7 h
  have hj:∀ (j:Nat) (d:D),(D.gmap EM).cells[j]?=some d→j=0∧d=.gmap EM:=fun j d hd=>by
   cases j with
   |zero=>exact⟨rfl,(Au hd).symm⟩
   |succ j=>cases hd
  refine .eptr _ 0 _ 0 (fun _=>.map (some b)) (fun j d hd=>?_) (fun j d hd=>?_) (fun j d hd=>?_)
  ·obtain⟨rfl,rfl⟩:=hj j d hd; rfl
  ·obtain⟨rfl,rfl⟩:=hj j d hd;exact⟨by show(W.cell? ⟨_,0,none⟩).isSome=true; rw[h1]; rfl,h1⟩
  ·obtain⟨rfl,rfl⟩:=hj j d hd;exact .gmap _ b es clock h2 h3 h4
 ·exact Ykg hk gk n d hd
end Go.Proofs.YtijnglngaogdjaaGreatDoor.PI
namespace Go.Proofs.YtijnglngaogdjaaGreatDoor.PI
open Go
set_option linter.unusedSimpArgs false
set_option linter.unusedVariables false
theorem mw(n:Nat):Dj .mul (.int .u64 (n:Int)) (.int .u64 8)=some (qD (CX n*8)):=by
 have e:(n:Int)*8=((n*8:Nat):Int):=by omega
 simp only[Dj,if_true,Ic,Ae,e,OS,qD]
 congr 3
 simp
theorem Rj:D.int .u8 128=Da 128:=rfl
theorem b0:D.int .u8 0=Da 0:=rfl
theorem Xp(n:Nat)(σ:List Nat)(x:UInt64):Eo n σ (qD x)=qD x:=rfl
theorem al(x:UInt64):hk (qD x)=[]:=rfl
variable {α:Type}
theorem m6(l:List (List α))(i:Nat):(l.take i).flatten.length≤l.flatten.length:=by
 have:l.flatten=(l.take i).flatten++(l.drop i).flatten:=by rw[← List.flatten_append,A8]
 rw[this,Ad];omega
theorem WY(s:Sha.St8):∀ (i:Nat) (m:List UInt8),Sha.blocks s (i+1) m=Sha.block (Sha.blocks s i m) ((m.drop (64*i)).take 64)
 |0,m=>by simp[Sha.blocks]
 |i+1,m=>by
  rw[Sha.blocks,WY (Sha.block s (m.take 64)) i (m.drop 64),Sha.blocks,Bu,show 64+64*i=64*(i+1) by omega]
theorem az(m:List UInt8):(Sha.padded m).length=m.length+1+Sha.zeros m.length+8∧(Sha.padded m).length % 64=0:=by
 have h:(Sha.padded m).length=m.length+1+Sha.zeros m.length+8:=by
  simp[Sha.padded,Sha.lenB_length]; omega
 refine⟨h,?_⟩;rw[h]; unfold Sha.zeros; omega
def Hl(l:List UInt32)(i:Nat):List UInt8:=Sha.outB l i++CM (32 - i) 0
theorem SN(l:List UInt32)(i:Nat)(h:i≤32):(Hl l i).length=32:=by
 simp[Hl,Sha.outB_length]; omega
theorem ik(l:List UInt32)(i:Nat)(h:i<32):(Hl l i).set i ((l.getD (i / 4) 0 >>> UInt32.ofNat (24 - 8*(i % 4))).toUInt8)=Hl l (i+1):=by
 have u:(Sha.outB l i).length=i:=Sha.outB_length l i;unfold Hl;rw[Sha.outB,BO _ _ (by omega),u,BA,show 32 - i=(32 - (i+1))+1 by omega,BI,Bh,Ar];rfl
def aq(sz key tot off:Nat):D:=if off<tot then .row key tot off (tot - off)else .slc sz [] false
variable {key off sz tot:Nat}
theorem Zo(h:off<tot):aq sz key tot off=.row key tot off (tot - off):=if_pos h
theorem iF(h:¬ off<tot):aq sz key tot off=.slc sz [] false:=if_neg h
noncomputable def US:List D→Option D:=Dd (α:=List (List UInt8)) (fun a=>[.slc (nz 1 (a.map Jb)) (a.map Jb) false]) (fun a=>a.flatten.length≤4294960000∧a.length≤4294960000) (fun a=>C7 (Hj a.flatten))
theorem Yd0(ps:List (List UInt8))(h:ps.flatten.length≤4294960000∧ps.length≤4294960000):US [.slc (nz 1 (ps.map Jb)) (ps.map Jb) false]=some (C7 (Hj ps.flatten)):=
 DG (fun a b h=>by simp only[Aa,D.slc.injEq,Ylp,and_true]at h; simp[h]) (ps) h
set_option maxHeartbeats 4000000 in
set_option maxRecDepth 20000 in
theorem PR(ps:List (List UInt8))(h:ps.flatten.length≤4294960000∧ps.length≤4294960000):@wW GG (tb [(159,Zk)] []) Ta.code (Db [.slc (nz 1 (ps.map Jb)) (ps.map Jb) false]) [] ⟨De Ta.res (C7 (Hj ps.flatten))⟩:=by
 obtain⟨h,a8⟩:=h;generalize hm:ps.flatten=m at h;unfold Ta;simp only[push_cast,↓reduceIte,CG,Ybx 1]
 refine EP (fun i:Nat=>[(2,.ptr 0 0),(3,DC 0 1 ((ps.take i).flatten.map Da)),(10,.slc (nz 1 (ps.map Jb)) (ps.map Jb) false),(11,.int .i64 (ps.length:Int)),(12,.int .i64 (i:Int))])
  (fun i=>⟨false,1,C6 DF,false⟩::Di 1 ((ps.take i).flatten.map Da)) (fun i=>i≤ps.length) (fun i=>ps.length - i) 0 (by simp only[push_cast,↓reduceIte,CG,CL,CJ,↓CI] <;> rfl) (by omega) ?_
 intro i hi;unfold cx;simp only[push_cast,↓reduceIte,CG];refine Fg (fun h1=>?_) (fun h1=>?_)
 ·have e:(ps.take (i+1)).flatten=(ps.take i).flatten++ps.getD i default:=by
   rw[uo ps i (by omega),List.flatten_append]; simp
  have hl:=m6 ps (i+1);rw[e,Ad,hm]at hl;simp (disch:=first|omega|decide) only[push_cast,↓reduceIte,CG,CL,CJ,KA,DL];refine El (i+1) (by omega) (by omega) ?_;rw[e];simp only[push_cast] <;> rfl
 ·obtain rfl:i=ps.length:=by omega
  rw[AJ,hm];have O:(m++[128]).map Da≠[]:=by simp
  simp (disch:=first|omega|decide) only[push_cast,↓reduceIte,CG,UZ,mw,Rj,J8 _ _ _ O,JK _ _ O];generalize hq:CX m.length*8=q
  refine EP (fun j:Nat=>[(2,.ptr 0 0),(3,.row 1 (m++[128]++CM j 0).length 0 (m++[128]++CM j 0).length),(6,qD q)])
   (fun j=>[⟨false,1,C6 DF,false⟩,⟨true,1,(m++[128]++CM j 0).map Da,false⟩]) (fun j=>j≤Sha.zeros m.length) (fun j=>Sha.zeros m.length - j) 0 (by simp only[push_cast,↓reduceIte,CG,CL,CJ,CH,Cl,Av] <;> rfl) (by omega) ?_
  intro j J;have hlen:(m++[128]++CM j 0).length=m.length+1+j:=by simp; omega
  have a9:(m.length+1+Sha.zeros m.length) % 64=56:=by unfold Sha.zeros; omega
  have hz:Sha.zeros m.length<64:=by unfold Sha.zeros; omega
  unfold cy;simp (disch:=first|omega|decide) only[push_cast,↓reduceIte,CG,VE];refine Fg (fun h2=>?_) (fun h2=>?_)
  ·obtain rfl:j=Sha.zeros m.length:=by
    unfold Sha.zeros at J ⊢; omega
   simp only[push_cast,↓reduceIte,CH];have U:(m++[128]++CM (Sha.zeros m.length) 0)=(m++[128]++CM (Sha.zeros m.length) 0)++Sha.lenB q 0:=(Av _).symm;generalize hM:m++[128]++CM (Sha.zeros m.length) 0=M at hlen U h2
   refine EP (fun j:Nat=>[(2,.ptr 0 0),(3,.row 1 (M++Sha.lenB q j).length 0 (M++Sha.lenB q j).length),(6,qD q),(7,.int .i64 (56 - 8*(j:Int)))])
    (fun j=>[⟨false,1,C6 DF,false⟩,⟨true,1,(M++Sha.lenB q j).map Da,false⟩]) (fun j=>j≤8) (fun j=>8 - j) 0 (by rw[← U]; simp only[push_cast,↓reduceIte,CG,CL,CJ,CH,CV,CZ,↓CI] <;> rfl) (by omega) ?_
   intro j J;have V:(M++Sha.lenB q j).length=M.length+j:=by rw[Ad,Sha.lenB_length]
   unfold cz;simp only[push_cast,↓reduceIte,CG];refine Fg (fun N=>?_) (fun N=>?_)
   ·have e:(56 - 8*(j:Int)).toNat=56 - 8*j:=by omega
    have X:M++Sha.lenB q (j+1)=(M++Sha.lenB q j)++[(q >>> CX (56 - 8*j)).toUInt8]:=by rw[Sha.lenB,Ar]
    simp (disch:=first|omega|decide) only[push_cast,↓reduceIte,CG,CL,CJ,CH,mC,eP,e,Ez];refine El (j+1) (by omega) (by omega) ?_;rw[X];have e4:(56 - 8*(j:Int) - 8)=56 - 8*((j+1:Nat):Int):=by omega
    simp only[push_cast,Xp,al,e4] <;> rfl
   ·obtain rfl:j=8:=by omega
    have hP:M++Sha.lenB q 8=Sha.padded m:=by rw[← hM,← hq]; rfl
    rw[hP];rw[hP]at V;obtain⟨ab,ac⟩:=az m;have ad:Hj m=⟨Sha.outB (Sha.blocks Sha.H0 ((Sha.padded m).length / 64) (Sha.padded m)).list 32,Sha.outB_length _ 32⟩:=rfl;rw[ad];generalize Sha.padded m=u at V ab ac;have hH:Sha.H0.list.length=8:=rfl;have ba:(zW 8).length=8:=rfl;simp (disch:=omega) only[push_cast,↓reduceIte,CG,CH,C3,CN,CV,CZ,↓CI,mg]
    refine EP (fun j:Nat=>[(2,.ptr 0 0),(3,aq 1 1 u.length (64*j)),(8,.ptr 2 0)])
     (fun j=>[⟨false,1,C6 DF,false⟩,⟨true,1,u.map Da,false⟩,⟨false,1,(Sha.blocks Sha.H0 j u).list.map wD,false⟩]) (fun j=>j≤u.length / 64) (fun j=>u.length / 64 - j) 0 (by rw[Zo (by omega)]; simp only[push_cast,↓reduceIte,CG,CL,CJ,CH,C4,CN] <;> rfl) (by omega) ?_
    intro j J;unfold cA;rcases Be (64*j) u.length with h4 | h4
    ·have bb:((u.drop (64*j)).take 64).length=64:=by simp; omega
     have I:=WY Sha.H0 j u;generalize Sha.blocks Sha.H0 j u=E at I;have af:E.list.length=8:=rfl;have bc:(Sha.block E ((u.drop (64*j)).take 64)).list.length=8:=rfl;have c1:((0:Int)<((u.length - 64*j:Nat):Int)):=by omega
     have c2:((0:Int)<(u.length:Int) - 64*(j:Int)):=by omega
     have c3:¬ (64=u.length - 64*j)∨u.length - 64*j=64:=by omega
     rw[Zo h4]
     by_cases h5:u.length - 64*j=64
     ·simp (disch:=omega) only[push_cast,↓reduceIte,CG,CL,CJ,CH,CO,CT,↓CI,ft,kx,h5];refine El (j+1) (by omega) (by omega) ?_;rw[iF (by omega),I]
     ·have Y:¬ 64=u.length - 64*j:=fun e=>h5 e.symm;simp (disch:=omega) only[push_cast,↓reduceIte,CG,CL,CJ,CH,Nat.reduceSub,CT,↓CI,c2,ft,kx,Y];refine El (j+1) (by omega) (by omega) ?_;rw[Zo (by omega),I];simp only[Nat.mul_add,BH,Nat.sub_sub]
    ·obtain rfl:j=u.length / 64:=by omega
     rw[iF (by omega)];generalize Sha.blocks Sha.H0 (u.length / 64) u=E;have af:E.list.length=8:=rfl;simp only[push_cast,↓reduceIte,CG,CH,CO]
     refine EP (fun j:Nat=>[(2,.ptr 0 0),(8,.ptr 2 0),(55,.int .i64 (j:Int))])
      (fun j=>[⟨false,1,(Hl E.list j).map Da,false⟩,⟨true,1,u.map Da,false⟩,⟨false,1,E.list.map wD,false⟩]) (fun j=>j≤32) (fun j=>32 - j) 0 (by simp only[push_cast,↓reduceIte,CG,CL,CJ,CH,↓CI] <;> rfl) (by omega) ?_
     intro j J;unfold cD;simp only[push_cast,↓reduceIte,CG];refine Fg (fun Y=>?_) (fun Y=>?_)
     ·have a0:=SN E.list j (by omega);have a1:=ik E.list j (by omega);have e1:((j:Int) / 4).toNat=j / 4:=by omega
      have X:(24 - 8*((j:Int) % 4)).toNat=24 - 8*(j % 4):=by omega
      simp (disch:=omega) only[push_cast,↓reduceIte,CG,CL,CJ,CH,lO,VE,Jh,Ez,DL,IL,PO,eQ,e1,X];refine El (j+1) (by omega) (by omega) ?_;rw[← a1];simp only[push_cast] <;> rfl
     ·obtain rfl:j=32:=by omega
      have a0:=SN E.list 32 (by omega);simp (disch:=omega) only[push_cast,↓reduceIte,CG,CH,CO,↓CI];rw[show Hl E.list 32=Sha.outB E.list 32 from Av _];rfl
  ·simp (disch:=first|omega|decide) only[push_cast,↓reduceIte,CG,CL,CJ,CH,b0]
   have h9:j<Sha.zeros m.length:=by
    rcases Be j (Sha.zeros m.length)with N | N
    ·exact N
    ·exfalso;obtain rfl:j=Sha.zeros m.length:=by omega
     omega
   refine El (j+1) (by omega) (by omega) ?_
   have e:m++[128]++CM (j+1) 0=(m++[128]++CM j 0)++[0]:=by
    rw[Cg,Ar,Ar,Ar]
   rw[e];simp only[push_cast,Xp,al] <;> rfl
theorem Rb:Contract Tryz.prog GG 116 US:=
 DH yw (Dy (all_cons Ylo all_nil) all_nil) (fun a h=>PR a h)
noncomputable def O0:List D→Option D:=Dd (α:=List UInt8×List UInt8) (fun a=>[.str a.1,.slc (nz 1 (a.2.map Da)) (a.2.map Da) false]) (fun a=>a.1.length+a.2.length≤4294900000) (fun a=>C7 (LA a.1 a.2))
theorem bk(t:List UInt8)(b:List UInt8)(h:t.length+b.length≤4294900000):O0 [.str t,.slc (nz 1 (b.map Da)) (b.map Da) false]=some (C7 (LA t b)):=
 DG (fun⟨a0,a1⟩ ⟨b0,b1⟩ h=>by simp only[Aa,D.slc.injEq,D.str.injEq,LN,and_true]at h; simp[h]) (t,b) h
theorem rT(x:UInt8)(t b:List UInt8)(h:t.length+b.length≤4294950000) :
  US [.slc 1 [.slc 1 [Da x] false,.slc (nz 1 (t.map Da)) (t.map Da) false,.slc (nz 1 (b.map Da)) (b.map Da) false] false]=some (C7 (Hj (x::(t++b)))):=by
 have:=Yd0 [[x],t,b] ⟨by simp; omega,by simp⟩;rw[show([[x],t,b]:List (List UInt8)).flatten=x::(t++b) by simp]at this;exact this
set_option maxHeartbeats 4000000 in
set_option maxRecDepth 20000 in
theorem pJ(t:List UInt8)(b:List UInt8)(h:t.length+b.length≤4294900000):@wW GG (tb [(116,US)] []) Tn.code (Db [.str t,.slc (nz 1 (b.map Da)) (b.map Da) false]) [] ⟨De Tn.res (C7 (LA t b))⟩:=by
 unfold Tn;have E:(min (t.length:Int) 255).toNat=min t.length 255:=by omega
 have I:t.take (min t.length 255)=t.take 255:=by
  rcases Nat.le_total t.length 255 with u | u
  ·rw[By u,AJ,AI u]
  ·rw[Nat.min_eq_right u]
 have hl:(t.take 255).length≤255:=by simp; omega
 have J:(t.take 255).length≤t.length:=by simp; omega
 simp (disch:=omega) only[push_cast,↓reduceIte,CG,aE,E,I,XI,rT];rfl
theorem gn:Contract Tryz.prog GG 62 O0:=
 DH np (Dy (all_cons Rb all_nil) all_nil) (fun a h=>pJ a.1 a.2 h)
set_option maxHeartbeats 8000000
set_option maxRecDepth 20000
noncomputable def RY:List D→Option D:=Dd (α:=UInt32×Int) (fun a=>[wD a.1,.int .i64 a.2]) (fun a=>1≤a.2∧a.2≤31) (fun a=>wD (Sha.rotr a.1 a.2.toNat))
theorem kC(x:UInt32)(n:Int)(h:1≤n∧n≤31):RY [wD x,.int .i64 n]=some (wD (Sha.rotr x n.toNat)):=
 DG (fun⟨a0,a1⟩ ⟨b0,b1⟩ h=>by simp only[Aa,D.int.injEq,iH,true_and,and_true]at h; simp[h]) (x,n) h
theorem Ygs(x:UInt32)(n:Int)(h:1≤n∧n≤31):@wW GG (tb [] []) TH.code (Db [wD x,.int .i64 n]) [] ⟨De TH.res (wD (Sha.rotr x n.toNat))⟩:=by
 unfold TH;have e:(32 - n).toNat=32 - n.toNat:=by omega
 simp (disch:=omega) only[push_cast,↓reduceIte,CG,PO,Xr,Ez,Ld,e];rfl
theorem eI:Contract Tryz.prog GG 193 RY:=
 DH n6 (Dy all_nil all_nil) (fun a h=>Ygs a.1 a.2 h)
noncomputable def Wi:List D→Option D:=Dd (α:=Unit) (fun _=>[]) (fun _=>True) (fun _=>.agg (Sha.K.map wD))
theorem wO:Wi []=some (.agg (Sha.K.map wD)):=
 DG (fun _ _ _=>rfl) () trivial
theorem pF:@wW GG (tb [] []) Uk.code (Db []) [] ⟨De Uk.res (.agg (Sha.K.map wD))⟩:=by
 unfold Uk;have u:Sha.K.length=64:=rfl;have E:(zW 64).length=64:=rfl;simp (disch:=omega) only[push_cast,↓reduceIte,CG,CH,QZ]
theorem Yed:Contract Tryz.prog GG 192 Wi:=
 DH pe (Dy all_nil all_nil) (fun a h=>pF )
noncomputable def Wk:List D→Option D:=Dd (α:=List UInt8) (fun a=>[.slc (nz 1 (a.map Da)) (a.map Da) false]) (fun a=>a.length=64) (fun a=>.agg ((Sha.sch a 64).map wD))
theorem wP(b:List UInt8)(h:b.length=64):Wk [.slc (nz 1 (b.map Da)) (b.map Da) false]=some (.agg ((Sha.sch b 64).map wD)):=
 DG (fun a b h=>by simp only[Aa,D.slc.injEq,LN,and_true]at h; simp[h]) (b) h
theorem pH(b:List UInt8)(h:b.length=64):@wW GG (tb [(193,RY)] []) Ui.code (Db [.slc (nz 1 (b.map Da)) (b.map Da) false]) [] ⟨De Ui.res (.agg ((Sha.sch b 64).map wD))⟩:=by
 unfold Ui;have V:(zW 64).length=64:=rfl;simp (disch:=omega) only[push_cast,↓reduceIte,CG,CH]
 refine EP (fun i:Nat=>[(0,.slc (nz 1 (b.map Da)) (b.map Da) false),(2,.ptr 0 0),(3,.ptr 1 0),(4,.int .i64 (i:Int))])
  (fun i=>[⟨false,1,(zW 64).map wD,false⟩,⟨false,1,(Fl b i).map wD,false⟩]) (fun i=>i≤16) (fun i=>16 - i) 0 (by simp only[push_cast,↓reduceIte,CG,CL,CJ,CH,↓CI] <;> rfl) (by omega) ?_
 intro i hi;unfold dV;simp only[push_cast,↓reduceIte,CG];refine Fg (fun O=>?_) (fun O=>?_)
 ·have N:i<16:=by omega
  have u:(4*(i:Int)).toNat=4*i:=by omega
  have E:(4*(i:Int)+1).toNat=4*i+1:=by omega
  have I:(4*(i:Int)+2).toNat=4*i+2:=by omega
  have J:(4*(i:Int)+3).toNat=4*i+3:=by omega
  have hl:(Fl b i).length=64:=SQ b i (by omega);have hw:=RP b i (Sha.word b i) (by omega) (mB b i N);simp (disch:=omega) only[push_cast,↓reduceIte,CG,CL,CJ,CH,CT,Jh,DL,KA,eO,Xr,Ld,IL,u,E,I,J];refine El (i+1) (by omega) (by omega) ?_;rw[← hw];simp only[push_cast] <;> rfl
 ·obtain rfl:i=16:=by omega
  simp only[push_cast,↓reduceIte,CH,CO,↓CI]
  refine EP (fun i:Nat=>[(2,.ptr 0 0),(3,.ptr 1 0),(5,.int .i64 (i:Int))])
   (fun i=>[⟨false,1,(zW 64).map wD,false⟩,⟨false,1,(Fl b i).map wD,false⟩]) (fun i=>16≤i∧i≤64) (fun i=>64 - i) 16 (by simp only[push_cast,↓reduceIte,CG,CL,CJ,CH,↓CI] <;> rfl) (by omega) ?_
  intro i hi;unfold dW;simp only[push_cast,↓reduceIte,CG];refine Fg (fun U=>?_) (fun U=>?_)
  ·have hl:(Fl b i).length=64:=SQ b i (by omega);have hw:=RP b i _ (by omega) (mA b i (by omega));have u:((i:Int) - 15).toNat=i - 15:=by omega
   have E:((i:Int) - 2).toNat=i - 2:=by omega
   have I:((i:Int) - 16).toNat=i - 16:=by omega
   have J:((i:Int) - 7).toNat=i - 7:=by omega
   simp (disch:=omega) only[push_cast,↓reduceIte,CG,CL,CJ,CH,CT,Ez,DL,IL,kC,Uv,PO,NY,u,E,I,J,g9];refine El (i+1) (by omega) (by omega) ?_;rw[← hw];simp only[push_cast] <;> rfl
  ·obtain rfl:i=64:=by omega
   have M:Fl b 64=Sha.sch b 64:=by simp[Fl]
   have hl:(Sha.sch b 64).length=64:=Sha.sch_length b 64;simp (disch:=omega) only[push_cast,↓reduceIte,CG,CH,CO,↓CI,M]
theorem Yeb:Contract Tryz.prog GG 191 Wk:=
 DH oX (Dy (all_cons eI all_nil) all_nil) (fun a h=>pH a h)
noncomputable def Wh:List D→Option D:=Dd (α:=Sha.St8×List UInt8) (fun a=>[.agg (Sha.St8.list a.1 |>.map wD),.slc (nz 1 (a.2.map Da)) (a.2.map Da) false]) (fun a=>a.2.length=64) (fun a=>.agg ((Sha.block a.1 a.2).list.map wD))
theorem wN(s:Sha.St8)(b:List UInt8)(h:b.length=64):Wh [.agg (Sha.St8.list s |>.map wD),.slc (nz 1 (b.map Da)) (b.map Da) false]=some (.agg ((Sha.block s b).list.map wD)):=
 DG (fun⟨a0,a1⟩ ⟨b0,b1⟩ h=>by simp only[Aa,D.slc.injEq,D.agg.injEq,LN,kj,Sha.St8.list_iff,and_true]at h; simp[h]) (s,b) h
theorem pE(s:Sha.St8)(b:List UInt8)(h:b.length=64):@wW GG (tb [(193,RY),(191,Wk),(192,Wi)] []) TN.code (Db [.agg (Sha.St8.list s |>.map wD),.slc (nz 1 (b.map Da)) (b.map Da) false]) [] ⟨De TN.res (.agg ((Sha.block s b).list.map wD))⟩:=by
 unfold TN;have N:(zW 8).length=8:=rfl;have E:(zW 64).length=64:=rfl;have hl:(Sha.sch b 64).length=64:=Sha.sch_length b 64;have O:s.list.length=8:=rfl;have Y:Sha.K.length=64:=rfl;simp (disch:=omega) only[push_cast,↓reduceIte,CG,CH,wP,wO]
 refine EP (fun i:Nat=>[(2,.ptr 0 0),(4,.ptr 1 0),(5,.ptr 2 0),(6,.ptr 3 0),(7,.ptr 4 0),(8,.int .i64 (i:Int))])
  (fun i=>[⟨false,1,s.list.map wD,false⟩,⟨false,1,(zW 8).map wD,false⟩,⟨false,1,(Sha.sch b 64).map wD,false⟩,⟨false,1,Sha.K.map wD,false⟩,⟨false,1,(Sha.rounds (Sha.sch b 64) s i).list.map wD,false⟩]) (fun i=>i≤64) (fun i=>64 - i) 0 (by simp only[push_cast,↓reduceIte,CG,CL,CJ,CH,↓CI] <;> rfl) (by omega) ?_
 intro i hi;unfold dU;simp only[push_cast,↓reduceIte,CG];refine Fg (fun I=>?_) (fun I=>?_)
 ·have u:Sha.rounds (Sha.sch b 64) s (i+1)=Sha.round (Sha.rounds (Sha.sch b 64) s i) (Sha.K.getD i 0) ((Sha.sch b 64).getD i 0):=rfl;generalize Sha.rounds (Sha.sch b 64) s i=r at u;simp (disch:=omega) only[push_cast,↓reduceIte,CG,CL,CJ,CH,CT,Sha.St8.list,IL,kC,Uv,lC,lK,NY,DL];refine El (i+1) (by omega) (by omega) ?_;rw[u];rfl
 ·obtain rfl:i=64:=by omega
  have hb:Sha.block s b=s.add (Sha.rounds (Sha.sch b 64) s 64):=rfl;rw[hb];generalize Sha.rounds (Sha.sch b 64) s 64=r;simp only[push_cast,↓reduceIte,CH,CO,↓CI]
  refine EP (fun i:Nat=>[(2,.ptr 0 0),(4,.ptr 1 0),(7,.ptr 4 0),(15,.int .i64 (i:Int))])
   (fun i=>[⟨false,1,((s.add r).list.take i++s.list.drop i).map wD,false⟩,⟨false,1,(zW 8).map wD,false⟩,⟨false,1,(Sha.sch b 64).map wD,false⟩,⟨false,1,Sha.K.map wD,false⟩,⟨false,1,r.list.map wD,false⟩]) (fun i=>i≤8) (fun i=>8 - i) 0 (by simp only[push_cast,↓reduceIte,CG,CL,CJ,CH,↓CI] <;> rfl) (by omega) ?_
  intro i hi
  have U:((s.add r).list.take i++s.list.drop i).length=8:=by
   simp only[Ad,As,AE,Sha.St8.list_length]; omega
  have V:r.list.length=8:=rfl;unfold dG;simp only[push_cast,↓reduceIte,CG];refine Fg (fun J=>?_) (fun J=>?_)
  ·have ha:=Ro s r i (by omega);simp (disch:=omega) only[push_cast,↓reduceIte,CG,CL,CJ,CH,IL,NY,DL];refine El (i+1) (by omega) (by omega) ?_;rw[← ha];simp only[push_cast] <;> rfl
  ·obtain rfl:i=8:=by omega
   have M:(s.add r).list.take 8++s.list.drop 8=(s.add r).list:=rfl;have X:(s.add r).list.length=8:=rfl;simp (disch:=omega) only[push_cast,↓reduceIte,CG,CH,CO,↓CI,M]
theorem Yee:Contract Tryz.prog GG 171 Wh:=
 DH oy (Dy (all_cons eI (all_cons Yeb (all_cons Yed all_nil))) all_nil) (fun a h=>pE a.1 a.2 h)
noncomputable def WI:List D→Option D:=Dd (α:=List UInt8) (fun a=>[.slc (nz 1 (a.map Da)) (a.map Da) false]) (fun a=>a.length≤4294960000) (fun a=>.slc (nz 1 ((Sha.padded a).map Da)) ((Sha.padded a).map Da) false)
theorem xJ(m:List UInt8)(h:m.length≤4294960000):WI [.slc (nz 1 (m.map Da)) (m.map Da) false]=some (.slc (nz 1 ((Sha.padded m).map Da)) ((Sha.padded m).map Da) false):=
 DG (fun a b h=>by simp only[Aa,D.slc.injEq,LN,and_true]at h; simp[h]) (m) h
theorem tW(m:List UInt8)(h:m.length≤4294960000):@wW GG (tb [] []) TX.code (Db [.slc (nz 1 (m.map Da)) (m.map Da) false]) [] ⟨De TX.res (.slc (nz 1 ((Sha.padded m).map Da)) ((Sha.padded m).map Da) false)⟩:=by
 unfold TX;have E:(m++[128]).map Da≠[]:=by simp
 simp (disch:=first|omega|decide) only[push_cast,↓reduceIte,CG,Rj,WC,J8 _ _ _ E,JK _ _ E]
 refine EP (fun j:Nat=>[(0,.slc (nz 1 (m.map Da)) (m.map Da) false),(3,.row 0 (m++[128]++CM j 0).length 0 (m++[128]++CM j 0).length)])
  (fun j=>[⟨true,1,(m++[128]++CM j 0).map Da,false⟩]) (fun j=>j≤Sha.zeros m.length) (fun j=>Sha.zeros m.length - j) 0 (by simp only[push_cast,↓reduceIte,CG,CL,CJ,Cl,Av] <;> rfl) (by omega) ?_
 intro j J;have hlen:(m++[128]++CM j 0).length=m.length+1+j:=by simp; omega
 have V:(m.length+1+Sha.zeros m.length) % 64=56:=by unfold Sha.zeros; omega
 have Y:Sha.zeros m.length<64:=by unfold Sha.zeros; omega
 unfold dJ;simp (disch:=first|omega|decide) only[push_cast,↓reduceIte,CG,VE];refine Fg (fun N=>?_) (fun N=>?_)
 ·obtain rfl:j=Sha.zeros m.length:=by
   unfold Sha.zeros at J ⊢; omega
  simp (disch:=first|omega|decide) only[push_cast,↓reduceIte,CG,UZ,mw];generalize O:CX m.length*8=q;have I:(m++[128]++CM (Sha.zeros m.length) 0)=(m++[128]++CM (Sha.zeros m.length) 0)++Sha.lenB q 0:=(Av _).symm;have hP:(m++[128]++CM (Sha.zeros m.length) 0)++Sha.lenB q 8=Sha.padded m:=by rw[← O]; rfl
  rw[← hP];generalize hM:m++[128]++CM (Sha.zeros m.length) 0=M at hlen I N
  refine EP (fun j:Nat=>[(3,.row 0 (M++Sha.lenB q j).length 0 (M++Sha.lenB q j).length),(4,qD q),(5,.int .i64 (j:Int))])
   (fun j=>[⟨true,1,(M++Sha.lenB q j).map Da,false⟩]) (fun j=>j≤8) (fun j=>8 - j) 0 (by rw[← I]; simp only[push_cast,↓reduceIte,CG,CL,CJ,↓CI] <;> rfl) (by omega) ?_
  intro j J;have X:(M++Sha.lenB q j).length=M.length+j:=by rw[Ad,Sha.lenB_length]
  unfold dK;simp only[push_cast,↓reduceIte,CG];refine Fg (fun u=>?_) (fun u=>?_)
  ·have e:(56 - 8*(j:Int)).toNat=56 - 8*j:=by omega
   have U:M++Sha.lenB q (j+1)=(M++Sha.lenB q j)++[(q >>> CX (56 - 8*j)).toUInt8]:=by rw[Sha.lenB,Ar]
   simp (disch:=first|omega|decide) only[push_cast,↓reduceIte,CG,CL,CJ,Jh,mC,eP,e,Ez,DL];refine El (j+1) (by omega) (by omega) ?_;rw[U];simp only[push_cast,Xp,al] <;> rfl
  ·obtain rfl:j=8:=by omega
   simp only[push_cast,↓reduceIte,CG,CO,↓CI]
 ·simp (disch:=first|omega|decide) only[push_cast,↓reduceIte,CG,CL,CJ,b0]
  have h9:j<Sha.zeros m.length:=by
   rcases Be j (Sha.zeros m.length)with u | u
   ·exact u
   ·exfalso;obtain rfl:j=Sha.zeros m.length:=by omega
    omega
  refine El (j+1) (by omega) (by omega) ?_
  have e:m++[128]++CM (j+1) 0=(m++[128]++CM j 0)++[0]:=by
   rw[Cg,Ar,Ar,Ar]
  rw[e]
theorem rj:Contract Tryz.prog GG 170 WI:=
 DH oH (Dy all_nil all_nil) (fun a h=>tW a h)
noncomputable def Yu:List D→Option D:=Dd (α:=List UInt8) (fun a=>[.slc (nz 1 (a.map Da)) (a.map Da) false]) (fun a=>a.length≤4294960000) (fun a=>C7 (Hj a))
theorem rQ(m:List UInt8)(h:m.length≤4294960000):Yu [.slc (nz 1 (m.map Da)) (m.map Da) false]=some (C7 (Hj m)):=
 DG (fun a b h=>by simp only[Aa,D.slc.injEq,LN,and_true]at h; simp[h]) (m) h
theorem Ymx(m:List UInt8)(h:m.length≤4294960000):@wW GG (tb [(170,WI),(171,Wh)] []) TQ.code (Db [.slc (nz 1 (m.map Da)) (m.map Da) false]) [] ⟨De TQ.res (C7 (Hj m))⟩:=by
 unfold TQ;obtain⟨N,O⟩:=az m;have a0:Sha.zeros m.length<64:=by unfold Sha.zeros; omega
 have U:Hj m=⟨Sha.outB (Sha.blocks Sha.H0 ((Sha.padded m).length / 64) (Sha.padded m)).list 32,Sha.outB_length _ 32⟩:=rfl;have hH:Sha.H0.list.length=8:=rfl;have a1:(zW 8).length=8:=rfl;simp (disch:=omega) only[push_cast,↓reduceIte,CG,mg,xJ];rw[U];generalize Sha.padded m=u at N O;have V:(nz 1 (u.map Da)=1∨u.map Da=[])∧1≠0:=⟨L5 _ _,by decide⟩
 refine EP (fun j:Nat=>[(2,.ptr 0 0),(3,.ptr 1 0),(4,.slc (nz 1 (u.map Da)) (u.map Da) false),(5,.int .i64 (64*(j:Int)))])
  (fun j=>[⟨false,1,C6 DF,false⟩,⟨false,1,(Sha.blocks Sha.H0 j u).list.map wD,false⟩]) (fun j=>j≤u.length / 64) (fun j=>u.length / 64 - j) 0 (by simp only[push_cast,↓reduceIte,CG,CL,CJ,CH,CV,↓CI] <;> rfl) (by omega) ?_
 intro j hj;unfold dz;simp only[push_cast,↓reduceIte,CG];refine Fg (fun h4=>?_) (fun h4=>?_)
 ·have J:(64*(j:Int)).toNat=64*j:=by omega
  have M:(64*(j:Int)+64).toNat=64*j+64:=by omega
  have e3:(u.take (64*j+64)).drop (64*j)=(u.drop (64*j)).take 64:=by
   rw[List.drop_take]; congr 1; omega
  have a2:((u.drop (64*j)).take 64).length=64:=by simp; omega
  have I:=WY Sha.H0 j u;generalize Sha.blocks Sha.H0 j u=E at I;have X:E.list.length=8:=rfl;have a3:(Sha.block E ((u.drop (64*j)).take 64)).list.length=8:=rfl;simp (disch:=omega) only[push_cast,↓reduceIte,CG,CL,CJ,CH,Yad _ _ _ _ _ _ _ _ _ _ V,DL,J,M,wN,e3];refine El (j+1) (by omega) (by omega) ?_;rw[I];have e5:64*(j:Int)+64=64*((j+1:Nat):Int):=by omega
  simp only[push_cast,e5] <;> rfl
 ·obtain rfl:j=u.length / 64:=by omega
  generalize Sha.blocks Sha.H0 (u.length / 64) u=E;have X:E.list.length=8:=rfl;simp only[push_cast,↓reduceIte,CG,CH,↓CI]
  refine EP (fun j:Nat=>[(2,.ptr 0 0),(3,.ptr 1 0),(6,.ptr 2 0),(7,.int .i64 (j:Int))])
   (fun j=>[⟨false,1,C6 DF,false⟩,⟨false,1,E.list.map wD,false⟩,⟨false,1,(Hl E.list j).map Da,false⟩]) (fun j=>j≤32) (fun j=>32 - j) 0 (by simp only[push_cast,↓reduceIte,CG,CL,CJ,CH,↓CI] <;> rfl) (by omega) ?_
  intro j hj;unfold dA;simp only[push_cast,↓reduceIte,CG];refine Fg (fun h6=>?_) (fun h6=>?_)
  ·have Y:=SN E.list j (by omega);have aa:=ik E.list j (by omega);have J:((j:Int) / 4).toNat=j / 4:=by omega
   have M:(24 - 8*((j:Int) % 4)).toNat=24 - 8*(j % 4):=by omega
   simp (disch:=omega) only[push_cast,↓reduceIte,CG,CL,CJ,CH,lO,VE,Jh,Ez,DL,IL,PO,eQ,J,M];refine El (j+1) (by omega) (by omega) ?_;rw[← aa];simp only[push_cast] <;> rfl
  ·obtain rfl:j=32:=by omega
   have Y:=SN E.list 32 (by omega)
   have ab:D.agg ((Hl E.list 32).map Da)=C7 ⟨Sha.outB E.list 32,Sha.outB_length _ 32⟩:=by
    rw[show Hl E.list 32=Sha.outB E.list 32 from Av _];rfl
   simp (disch:=omega) only[push_cast,↓reduceIte,CG,CH,CO,↓CI,ab]
theorem zx:Contract Tryz.prog GG 150 Yu:=
 DH oe (Dy (all_cons rj (all_cons Yee all_nil)) all_nil) (fun a h=>Ymx a h)
noncomputable def WH:List D→Option D:=Dd (α:=List UInt8×List UInt8) (fun a=>[.str a.1,.slc (nz 1 (a.2.map Da)) (a.2.map Da) false]) (fun a=>a.1.length+a.2.length≤4294900000) (fun a=>.slc (nz 1 ((Kz a.1 a.2).map Da)) ((Kz a.1 a.2).map Da) false)
theorem xM(t:List UInt8)(b:List UInt8)(h:t.length+b.length≤4294900000):WH [.str t,.slc (nz 1 (b.map Da)) (b.map Da) false]=some (.slc (nz 1 ((Kz t b).map Da)) ((Kz t b).map Da) false):=
 DG (fun⟨a0,a1⟩ ⟨b0,b1⟩ h=>by simp only[Aa,D.slc.injEq,D.str.injEq,LN,and_true]at h; simp[h]) (t,b) h
theorem tV(t:List UInt8)(b:List UInt8)(h:t.length+b.length≤4294900000):@wW GG (tb [] []) TV.code (Db [.str t,.slc (nz 1 (b.map Da)) (b.map Da) false]) [] ⟨De TV.res (.slc (nz 1 ((Kz t b).map Da)) ((Kz t b).map Da) false)⟩:=by
 unfold TV;have N:(min (t.length:Int) 255).toNat=min t.length 255:=by omega
 have O:t.take (min t.length 255)=t.take 255:=by
  rcases Nat.le_total t.length 255 with E | E
  ·rw[By E,AJ,AI E]
  ·rw[Nat.min_eq_right E]
 have hl:(t.take 255).length≤255:=by simp; omega
 have I:(t.take 255).length≤t.length:=by simp; omega
 have U:Kz t b=CS (t.take 255).length::(t.take 255++b):=rfl;rw[U];simp (disch:=omega) only[push_cast,↓reduceIte,CG,aE,N,O,XI];generalize t.take 255=T at hl I;generalize CS T.length=x
 by_cases J:T=[]
 ·subst J
  by_cases hb:b=[]
  ·subst hb;simp (disch:=first|omega|decide) only[push_cast,↓reduceIte,CG,Sf]
  ·have u:DR [] 1 1 (.slc 1 [Da x] true) (.slc (nz 1 (b.map Da)) (b.map Da) false)=some (.row 0 (x::b).length 0 (x::b).length,[⟨true,1,(x::b).map Da,false⟩]):=
    Sh Da [] 1 1 [x] b false (nz 1 (b.map Da)) hb (L5 _ _) (by decide) (by simp; omega) (by simp; omega)
   rw[show x::([]++b)=x::b from rfl];generalize M:x::b=X at u;simp (disch:=first|omega|decide) only[push_cast,↓reduceIte,CG,Sf,u]
 ·have u:DR [] 1 1 (.slc 1 [Da x] true) (.slc 1 (T.map Da) false)=some (.row 0 (x::T).length 0 (x::T).length,[⟨true,1,(x::T).map Da,false⟩]):=
   Sh Da [] 1 1 [x] T false 1 J (.inl rfl) (by decide) (by simp; omega) (by simp; omega)
  have V:(x::T).length=T.length+1:=by simp
  generalize M:x::T=X at u V;rw[show x::(T++b)=X++b by rw[← M]; rfl];simp (disch:=first|omega|decide) only[push_cast,↓reduceIte,CG,u]
theorem ri:Contract Tryz.prog GG 151 WH:=
 DH oF (Dy all_nil all_nil) (fun a h=>tV a.1 a.2 h)
noncomputable def Pf:List D→Option D:=Dd (α:=List UInt8×List UInt8) (fun a=>[.str a.1,.slc (nz 1 (a.2.map Da)) (a.2.map Da) false]) (fun a=>a.1.length+a.2.length≤4294900000) (fun a=>C7 (LA a.1 a.2))
theorem bK(t:List UInt8)(b:List UInt8)(h:t.length+b.length≤4294900000):Pf [.str t,.slc (nz 1 (b.map Da)) (b.map Da) false]=some (C7 (LA t b)):=
 DG (fun⟨a0,a1⟩ ⟨b0,b1⟩ h=>by simp only[Aa,D.slc.injEq,D.str.injEq,LN,and_true]at h; simp[h]) (t,b) h
theorem tX(t:List UInt8)(b:List UInt8)(h:t.length+b.length≤4294900000):@wW GG (tb [(151,WH),(150,Yu)] []) TW.code (Db [.str t,.slc (nz 1 (b.map Da)) (b.map Da) false]) [] ⟨De TW.res (C7 (LA t b))⟩:=by
 unfold TW;have hl:(Kz t b).length≤4294960000:=by simp[Kz]; omega
 simp (disch:=omega) only[push_cast,↓reduceIte,CG,xM,rQ];rfl
theorem iN:Contract Tryz.prog GG 102 Pf:=
 DH oG (Dy (all_cons ri (all_cons zx all_nil)) all_nil) (fun a h=>tX a.1 a.2 h)
def nI(n:Int):D:=.int .i64 n
variable {a b:Int}
theorem Yoz:nI a=nI b↔a=b:=by simp[nI]
theorem LG{a b:List Int}:a.map nI=b.map nI↔a=b:=⟨Lx fun _ _=>Yoz.1,fun h=>by rw[h]⟩
theorem ao(n:Int):IntKind.wrap .u64 n=n % 18446744073709551616:=rfl
theorem Zp{n:Int}(u:0≤n)(E:n<18446744073709551616):IntKind.wrap .u64 n=n:=by rw[ao]; omega
theorem Rn(u:0≤a+b)(E:a+b<18446744073709551616):Dj .add (.int .u64 a) (.int .u64 b)=some (.int .u64 (a+b)):=by
 simp only[Dj,if_true,Ic,Ae,Zp u E]
theorem Qz(u:0≤a*b)(E:a*b<18446744073709551616):Dj .mul (.int .u64 a) (.int .u64 b)=some (.int .u64 (a*b)):=by
 simp only[Dj,if_true,Ic,Ae,Zp u E]
theorem Yo0(a b:Int):Dj .mul (.int .u64 a) (.int .u64 b)=some (.int .u64 ((a*b) % 18446744073709551616)):=by
 rfl
theorem yd(u:0≤a)(E:a<18446744073709551616):(CP 64 a).toNat=a.toNat:=by
 grind
theorem Ye2(u:0≤a)(E:a<18446744073709551616):Dj .and (.int .u64 a) (.int .u64 4294967295)=some (.int .u64 (a % 4294967296)):=by
 have h:(CP (IntKind.bits .u64) a &&& CP (IntKind.bits .u64) 4294967295).toNat=(a % 4294967296).toNat:=by
  show(CP 64 a &&& CP 64 4294967295).toNat=_
  rw[BitVec.toNat_and,yd u E,show(CP 64 4294967295).toNat=2 ^ 32 - 1 from rfl,B9];omega
 simp only[Dj,if_true,Jd,Ae,h];rw[Zp (by omega) (by omega)]
 congr 2
 omega
theorem RG(E:0≤a)(hb:0≤b)(u:a≤4294967295)(I:b≤4294967295):0≤a*b∧a*b≤18446744065119617025:=by
 refine⟨Int.mul_nonneg E hb,?_⟩;have J:a*b≤4294967295*b:=Ca u hb;omega
theorem yE(a b c d:Int):a*b*(c*d)=a*c*(b*d):=by rw[Int.mul_assoc,Int.mul_left_comm b,← Int.mul_assoc]
theorem sS(x y:Int):x*y=(x / 4294967296)*(y / 4294967296)*18446744073709551616+((x / 4294967296)*(y % 4294967296)+(x % 4294967296)*(y / 4294967296))*4294967296+(x % 4294967296)*(y % 4294967296):=by
 have u:x=(x / 4294967296)*4294967296+x % 4294967296:=(Int.ediv_mul_add_emod x 4294967296).symm;have E:y=(y / 4294967296)*4294967296+y % 4294967296:=(Int.ediv_mul_add_emod y 4294967296).symm
 conv=>lhs; rw[u,E]
 grind
noncomputable def Vk:List D→Option D:=Dd (α:=Int×Int) (fun a=>[.int .u64 a.1,.int .u64 a.2]) (fun a=>0≤a.1∧a.1<18446744073709551616∧0≤a.2∧a.2<18446744073709551616) (fun a=>.tup [.int .u64 (a.1*a.2 / 18446744073709551616),.int .u64 (a.1*a.2 % 18446744073709551616)])
theorem jj(x:Int)(y:Int)(h:0≤x∧x<18446744073709551616∧0≤y∧y<18446744073709551616):Vk [.int .u64 x,.int .u64 y]=some (.tup [.int .u64 (x*y / 18446744073709551616),.int .u64 (x*y % 18446744073709551616)]):=
 DG (fun⟨a0,a1⟩ ⟨b0,b1⟩ h=>by simp only[Aa,D.int.injEq,true_and,and_true]at h; simp[h]) (x,y) h
theorem Ynz(x:Int)(y:Int)(h:0≤x∧x<18446744073709551616∧0≤y∧y<18446744073709551616):@wW GG (tb [] []) Ts.code (Db [.int .u64 x,.int .u64 y]) [] ⟨De Ts.res (.tup [.int .u64 (x*y / 18446744073709551616),.int .u64 (x*y % 18446744073709551616)])⟩:=by
 obtain⟨E,I,J,M⟩:=h;have e:=sS x y;have ha:=RG (a:=x / 4294967296) (b:=y / 4294967296) (by omega) (by omega) (by omega) (by omega);have hb:=RG (a:=x / 4294967296) (b:=y % 4294967296) (by omega) (by omega) (by omega) (by omega);have N:=RG (a:=x % 4294967296) (b:=y / 4294967296) (by omega) (by omega) (by omega) (by omega);have O:=RG (a:=x % 4294967296) (b:=y % 4294967296) (by omega) (by omega) (by omega) (by omega);unfold Ts;simp (disch:=omega) only[push_cast,↓reduceIte,CG,CT,C0,Ye2,Z8,Qz,Rn,Yo0 x y];rw[e];generalize (x / 4294967296)*(y / 4294967296)=a at*;generalize (x / 4294967296)*(y % 4294967296)=b at*;generalize (x % 4294967296)*(y / 4294967296)=c at*;generalize (x % 4294967296)*(y % 4294967296)=d at*;have u:a+(b+d / 4294967296) / 4294967296+((b+d / 4294967296) % 4294967296+c) / 4294967296=(a*18446744073709551616+(b+c)*4294967296+d) / 18446744073709551616:=by omega
 rw[u]
theorem ma:Contract Tryz.prog GG 169 Vk:=
 DH nH (Dy all_nil all_nil) (fun a h=>Ynz a.1 a.2 h)
def Ew(x:Int):Bool:=decide (-9007199254740992≤x) && decide (x≤9007199254740992)
theorem H2{x:Int}:Ew x=true↔-9007199254740992≤x∧x≤9007199254740992:=by simp[Ew]
theorem XN{x:Int}:Ew x=false↔x < -9007199254740992∨9007199254740992<x:=by
 rw[← Bool.not_eq_true,H2]; omega
variable {i:Nat}
theorem Ydq{l:List Int}(h:i<l.length):(l.drop i).all Ew=(Ew (l.getD i default) && (l.drop (i+1)).all Ew):=by
 rw[Bs h,AU];grind
noncomputable def KU:List D→Option D:=Dd (α:=List Int) (fun a=>[.slc (nz 1 (a.map nI)) (a.map nI) false]) (fun a=>a.length≤65536) (fun a=>.bool (a.all Ew))
theorem jk(l:List Int)(h:l.length≤65536):KU [.slc (nz 1 (l.map nI)) (l.map nI) false]=some (.bool (l.all Ew)):=
 DG (fun a b h=>by simp only[Aa,D.slc.injEq,and_true,LG]at h; simp[h]) (l) h
theorem Ynr(l:List Int)(h:l.length≤65536):@wW GG (tb [] []) Sq.code (Db [.slc (nz 1 (l.map nI)) (l.map nI) false]) [] ⟨De Sq.res (.bool (l.all Ew))⟩:=by
 unfold Sq;simp (disch:=first|omega|decide) only[push_cast,↓reduceIte,CG];refine EP (fun i:Nat=>[(5,.slc (nz 1 (l.map nI)) (l.map nI) false),(6,.int .i64 (l.length:Int)),(7,.int .i64 (i:Int))]) (fun _=>[]) (fun i=>i≤l.length∧l.all Ew=(l.drop i).all Ew) (fun i=>l.length - i) 0 (by simp only[push_cast,↓reduceIte,CG,↓CI] <;> rfl) ⟨Ba _,rfl⟩ ?_;rintro i ⟨hi,u⟩;unfold bY;simp (disch:=first|omega|decide) only[push_cast,↓reduceIte,CG,CN];refine Fg (fun O=>?_) (fun O=>?_)
 ·have N:i<l.length:=by omega
  rw[Ydq N]at u
  have E:∀ st:St,Fy st 1 (.slc (nz 1 (l.map nI)) (l.map nI) false) (.int .i64 (i:Int))=some (.eptr (nI (l.getD i default)) 0):=fun st=>by
   have:=KA st 1 nI l false .i64 (i:Int) (by omega) (by omega);grind
  generalize l.getD i default=x at*
  cases I:Ew x with
  |true=>
   obtain⟨U,V⟩:=H2.1 I;rw[I,A1]at u;have J:¬ (x < -9007199254740992):=by omega
   have M:¬ (9007199254740992<x):=by omega
   simp (disch:=first|omega|decide) only[push_cast,↓reduceIte,CG,CN,E,nI,J,M,DL];refine El (i+1) (by exact⟨by omega,u⟩) (by omega) ?_;rfl
  |false=>
   rw[I,Bq]at u
   by_cases J:x < -9007199254740992
   ·simp (disch:=first|omega|decide) only[push_cast,↓reduceIte,CG,CN,E,nI,J,u]
   ·have M:9007199254740992<x:=by have:=XN.1 I; omega
    simp (disch:=first|omega|decide) only[push_cast,↓reduceIte,CG,CN,E,nI,J,M,u]
 ·obtain rfl:i=l.length:=by omega
  rw[Bm]at u;simp (disch:=first|omega|decide) only[push_cast,↓reduceIte,CN,u,CF]
theorem Pz:Contract Tryz.prog GG 241 KU:=
 DH xA (Dy all_nil all_nil) (fun a h=>Ynr a h)
def GY(c:Int):Int×Int:=if Ew c then(c,0)else(0,3)
theorem Ev(a:Int):ES 1 [.int .i64 a]=some (.slc 1 [.int .i64 a] true):=(rfl)
theorem FQ(a b:Int):ES 1 [.int .i64 a,.int .i64 b]=some (.slc 1 [.int .i64 a,.int .i64 b] true):=(rfl)
theorem Q7:((9:Int)=8)=False:=by decide
theorem Kk:((10:Int)=8)=False:=by decide
theorem Kj:((10:Int)=9)=False:=by decide
theorem M6:((8:Int)=10)=False:=by decide
theorem M5:((9:Int)=10)=False:=by decide
theorem Yd6(a:Int):KU [.slc 1 [.int .i64 a] false]=some (.bool (Ew a)):=by
 have:=jk [a] (by simp);simpa[nI,nz]using this
theorem Rw(a b:Int):KU [.slc 1 [.int .i64 a,.int .i64 b] false]=some (.bool (Ew a && Ew b)):=by
 have:=jk [a,b] (by simp);simpa[nI,nz]using this
noncomputable def Vr:List D→Option D:=Dd (α:=Int) (fun a=>[.int .i64 a]) (fun a=>True) (fun a=>.tup [.int .i64 (GY a).1,.int .i64 (GY a).2])
theorem jl(c:Int):Vr [.int .i64 c]=some (.tup [.int .i64 (GY c).1,.int .i64 (GY c).2]):=
 DG (fun a b h=>by simp only[Aa,D.int.injEq,true_and,and_true]at h; simp[h]) (c) trivial
theorem Ynq(c:Int):@wW GG (tb [(241,KU)] []) Ti.code (Db [.int .i64 c]) [] ⟨De Ti.res (.tup [.int .i64 (GY c).1,.int .i64 (GY c).2])⟩:=by
 unfold Ti GY;have:=Yd6 c;cases u:Ew c <;> rw[u]at this <;> simp (disch:=first|omega|decide) only[push_cast,↓reduceIte,CG,Ev,this]
theorem mb:Contract Tryz.prog GG 242 Vr:=
 DH nd (Dy (all_cons Pz all_nil) all_nil) (fun a h=>Ynq a)
def Fs(a b:Int):Int×Int:=if Ew a && Ew b then GY (a+b)else(0,3)
def Fk(a b:Int):Int×Int:=if Ew a && Ew b then GY (a - b)else(0,3)
noncomputable def RR:List D→Option D:=Dd (α:=Int×Int) (fun a=>[.int .i64 a.1,.int .i64 a.2]) (fun a=>True) (fun a=>.tup [.int .i64 (Fs a.1 a.2).1,.int .i64 (Fs a.1 a.2).2])
theorem uW(a:Int)(b:Int):RR [.int .i64 a,.int .i64 b]=some (.tup [.int .i64 (Fs a b).1,.int .i64 (Fs a b).2]):=
 DG (fun⟨a0,a1⟩ ⟨b0,b1⟩ h=>by simp only[Aa,D.int.injEq,true_and,and_true]at h; simp[h]) (a,b) trivial
theorem Yg0(a:Int)(b:Int):@wW GG (tb [(241,KU),(242,Vr)] []) SF.code (Db [.int .i64 a,.int .i64 b]) [] ⟨De SF.res (.tup [.int .i64 (Fs a b).1,.int .i64 (Fs a b).2])⟩:=by
 unfold SF Fs;have u:=Rw a b;have I:=jl (a+b)
 cases E:Ew a && Ew b with
 |false=>rw[E]at u; simp (disch:=first|omega|decide) only[push_cast,↓reduceIte,CG,FQ,u]
 |true=>
  rw[E]at u;simp only[Ac,H2]at E;simp (disch:=first|omega|decide) only[push_cast,↓reduceIte,CG,FQ,u,I,DL]
theorem Yll:Contract Tryz.prog GG 231 RR:=
 DH ye (Dy (all_cons Pz (all_cons mb all_nil)) all_nil) (fun a h=>Yg0 a.1 a.2)
noncomputable def RT:List D→Option D:=Dd (α:=Int×Int) (fun a=>[.int .i64 a.1,.int .i64 a.2]) (fun a=>True) (fun a=>.tup [.int .i64 (Fk a.1 a.2).1,.int .i64 (Fk a.1 a.2).2])
theorem uY(a:Int)(b:Int):RT [.int .i64 a,.int .i64 b]=some (.tup [.int .i64 (Fk a b).1,.int .i64 (Fk a b).2]):=
 DG (fun⟨a0,a1⟩ ⟨b0,b1⟩ h=>by simp only[Aa,D.int.injEq,true_and,and_true]at h; simp[h]) (a,b) trivial
theorem Ygx(a:Int)(b:Int):@wW GG (tb [(241,KU),(242,Vr)] []) SI.code (Db [.int .i64 a,.int .i64 b]) [] ⟨De SI.res (.tup [.int .i64 (Fk a b).1,.int .i64 (Fk a b).2])⟩:=by
 unfold SI Fk;have u:=Rw a b;have I:=jl (a - b)
 cases E:Ew a && Ew b with
 |false=>rw[E]at u; simp (disch:=first|omega|decide) only[push_cast,↓reduceIte,CG,FQ,u]
 |true=>
  rw[E]at u;simp only[Ac,H2]at E;simp (disch:=first|omega|decide) only[push_cast,↓reduceIte,CG,FQ,u,I,Ez]
theorem Ylj:Contract Tryz.prog GG 232 RT:=
 DH yh (Dy (all_cons Pz (all_cons mb all_nil)) all_nil) (fun a h=>Ygx a.1 a.2)
theorem Qy(u:0<a)(E:a<18446744073709551616):IS .neg (.int .u64 a)=some (.int .u64 (18446744073709551616 - a)):=by
 have e:(0 - a) % 18446744073709551616=18446744073709551616 - a:=by omega
 simp only[IS,ao,e]
theorem Ry(st:St):E0 st (.int .u64) (.int .i64 a)=some (.int .u64 (a % 18446744073709551616)):=by
 rfl
noncomputable def OM:List D→Option D:=Dd (α:=Int) (fun a=>[.int .i64 a]) (fun a=>Ew a=true) (fun a=>.int .u64 (if a<0 then -a else a))
theorem ky(a:Int)(h:Ew a=true):OM [.int .i64 a]=some (.int .u64 (if a<0 then -a else a)):=
 DG (fun a b h=>by simp only[Aa,D.int.injEq,true_and,and_true]at h; simp[h]) (a) h
theorem Yg1(a:Int)(h:Ew a=true):@wW GG (tb [] []) SJ.code (Db [.int .i64 a]) [] ⟨De SJ.res (.int .u64 (if a<0 then -a else a))⟩:=by
 obtain⟨J,M⟩:=H2.1 h;unfold SJ
 by_cases u:a<0
 ·have E:(a % 18446744073709551616)=18446744073709551616+a:=by omega
  have I:18446744073709551616 - (18446744073709551616+a)=-a:=by omega
  simp (disch:=first|omega|decide) only[push_cast,↓reduceIte,CG,u,Ry,E,Qy,I]
 ·simp (disch:=first|omega|decide) only[push_cast,↓reduceIte,CG,u,UZ]
theorem Ylm:Contract Tryz.prog GG 243 OM:=
 DH yj (Dy all_nil all_nil) (fun a h=>Yg1 a h)
def EN(a:Int):Int:=if a<0 then -a else a
def Fo(a b:Int):Int×Int:=if Ew a && Ew b then GY (a*b)else(0,3)
theorem l5(a b:Int):EN a*EN b=EN (a*b):=by
 unfold EN;rcases Int.lt_or_le a 0 with u | u <;> rcases Int.lt_or_le b 0 with E | E
 ·have:=Int.mul_pos_of_neg_of_neg u E;grind
 ·have:=Int.mul_nonpos_of_nonpos_of_nonneg (Int.le_of_lt u) E;rw[if_pos u,if_neg (by omega),Int.neg_mul];omega
 ·have:=Int.mul_nonpos_of_nonneg_of_nonpos u (Int.le_of_lt E);rw[if_neg (by omega),if_pos E,Int.mul_neg];omega
 ·have:=Int.mul_nonneg u E;grind
theorem ZV(h:Ew a=true):0≤EN a∧EN a≤9007199254740992:=by
 have:=H2.1 h;unfold EN; split <;> omega
theorem Rp(a:Int):Ew a=decide (EN a≤9007199254740992):=by
 cases h:Ew a with
 |true=>simp[(ZV h).2]
 |false=>
  have:=XN.1 h
  symm
  rw[decide_eq_false_iff_not];unfold EN; split <;> omega
noncomputable def RS:List D→Option D:=Dd (α:=Int×Int) (fun a=>[.int .i64 a.1,.int .i64 a.2]) (fun a=>True) (fun a=>.tup [.int .i64 (Fo a.1 a.2).1,.int .i64 (Fo a.1 a.2).2])
theorem uX(a:Int)(b:Int):RS [.int .i64 a,.int .i64 b]=some (.tup [.int .i64 (Fo a b).1,.int .i64 (Fo a b).2]):=
 DG (fun⟨a0,a1⟩ ⟨b0,b1⟩ h=>by simp only[Aa,D.int.injEq,true_and,and_true]at h; simp[h]) (a,b) trivial
theorem Ygy(a:Int)(b:Int):@wW GG (tb [(241,KU),(243,OM),(169,Vk)] []) SH.code (Db [.int .i64 a,.int .i64 b]) [] ⟨De SH.res (.tup [.int .i64 (Fo a b).1,.int .i64 (Fo a b).2])⟩:=by
 unfold SH Fo;have u:=Rw a b
 cases E:Ew a && Ew b with
 |false=>rw[E]at u; simp (disch:=first|omega|decide) only[push_cast,↓reduceIte,CG,FQ,u]
 |true=>
  rw[E]at u;simp only[Ac]at E;have c1:OM [.int .i64 a]=some (.int .u64 (EN a)):=ky a E.1;have M:OM [.int .i64 b]=some (.int .u64 (EN b)):=ky b E.2;have l1:=ZV E.1;have N:=ZV E.2;have J:=jj (EN a) (EN b) (by omega);have e:=l5 a b;have X:=Rp (a*b);have Y:0≤EN a*EN b:=Int.mul_nonneg l1.1 N.1;have hb:EN a*EN b≤9007199254740992*9007199254740992:=Int.le_trans (Ca l1.2 N.1) (by omega);rw[e]at J Y hb
  have hm:EN (a*b)≤9007199254740992→-9007199254740992≤a*b∧a*b≤9007199254740992:=fun h=>by
   unfold EN at h; split at h <;> omega
  have hmul:-9007199254740992≤a*b→a*b≤9007199254740992→Dj .mul (.int .i64 a) (.int .i64 b)=some (.int .i64 (a*b)):=fun h1 u=>Jh (by omega) (by omega);unfold GY;rw[X];generalize a*b=m at*;generalize EN m=z at*
  by_cases O:z / 18446744073709551616=0
  ·have h9:z % 18446744073709551616=z:=by omega
   rw[O,h9]at J
   by_cases U:9007199254740992<z
   ·have I:¬ z≤9007199254740992:=by omega
    simp (disch:=first|omega|decide) only[push_cast,↓reduceIte,CG,FQ,u,c1,M,J,U,I]
   ·have I:z≤9007199254740992:=by omega
    have V:=hm I;have c4:Dj .mul (.int .i64 a) (.int .i64 b)=some (.int .i64 m):=hmul V.1 V.2;simp (disch:=first|omega|decide) only[push_cast,↓reduceIte,CG,FQ,u,c1,M,J,U,I,c4]
  ·have I:¬ z≤9007199254740992:=by omega
   simp (disch:=first|omega|decide) only[push_cast,↓reduceIte,CG,FQ,u,c1,M,J,O,I]
theorem Ylk:Contract Tryz.prog GG 233 RS:=
 DH yg (Dy (all_cons Pz (all_cons Ylm (all_cons ma all_nil))) all_nil) (fun a h=>Ygy a.1 a.2)
theorem YB(a:Int)(hb:0<b):-(EN a)≤a.tdiv b∧a.tdiv b≤EN a:=by
 unfold EN;rcases Int.lt_or_le a 0 with h | h
 ·have e:a.tdiv b=-((-a) / b):=by
   rw[← Bz (by omega),Int.neg_tdiv,Int.neg_neg]
  have u:=CC b (show 0≤-a by omega);have E:=Int.ediv_nonneg (show 0≤-a by omega) (show 0≤b by omega);omega
 ·have e:a.tdiv b=a / b:=Bz h;have u:=CC b h;have E:=Int.ediv_nonneg h (show 0≤b by omega);omega
theorem L3(hb:0<b)(u:-9223372036854775808<a)(E:a<9223372036854775808):Dj .quo (.int .i64 a) (.int .i64 b)=some (.int .i64 (a.tdiv b)):=by
 have I:=YB a hb;have J:EN a<9223372036854775808:=by unfold EN; split <;> omega
 simp only[Dj,if_true,Ic,show ¬ b=0 by omega,if_false,Ae,LL (show -9223372036854775808≤a.tdiv b by omega) (show a.tdiv b<9223372036854775808 by omega)]
theorem Oa(hb:0<b):Dj .rem (.int .i64 a) (.int .i64 b)=some (.int .i64 (a.tmod b)):=by
 simp only[Dj,if_true,Ic,show ¬ b=0 by omega,if_false,Ae]
def Q8(a b:Int):Int:=(if a.tmod b<0 then a - b else a).tdiv b
def Vv(a b:Int):Int:=(if 0<a.tmod b then a+b else a).tdiv b
def DT(a b m:Int):Int×Int:=if Ew a && Ew b then(if b≤0 then(0,70)else(if m=10 then Q8 (2*a+b) (2*b)else if m=8 then Q8 a b else Vv a b,0))else(0,3)
noncomputable def ON:List D→Option D:=Dd (α:=Int×Int×Int) (fun a=>[.int .i64 a.1,.int .i64 a.2.1,.int .i64 a.2.2]) (fun a=>a.2.2=8∨a.2.2=9∨a.2.2=10) (fun a=>.tup [.int .i64 (DT a.1 a.2.1 a.2.2).1,.int .i64 (DT a.1 a.2.1 a.2.2).2])
theorem Wq(a:Int)(b:Int)(m:Int)(h:m=8∨m=9∨m=10):ON [.int .i64 a,.int .i64 b,.int .i64 m]=some (.tup [.int .i64 (DT a b m).1,.int .i64 (DT a b m).2]):=
 DG (fun⟨a0,a1,u⟩ ⟨b0,b1,E⟩ h=>by simp only[Aa,D.int.injEq,true_and,and_true]at h; simp[h]) (a,b,m) h
theorem Ygz(a:Int)(b:Int)(m:Int)(h:m=8∨m=9∨m=10):@wW GG (tb [(241,KU)] []) SG.code (Db [.int .i64 a,.int .i64 b,.int .i64 m]) [] ⟨De SG.res (.tup [.int .i64 (DT a b m).1,.int .i64 (DT a b m).2])⟩:=by
 unfold SG DT;have u:=Rw a b
 cases I:Ew a && Ew b with
 |false=>
  rw[I]at u;rcases h with rfl | rfl | rfl <;> simp (disch:=first|omega|decide) only[push_cast,↓reduceIte,CG,FQ,Q7,Kk,Kj,u]
 |true=>
  rw[I]at u;simp only[Ac,H2]at I;obtain⟨⟨a1,J⟩,b1,M⟩:=I
  by_cases hb:b≤0
  ·rcases h with rfl | rfl | rfl <;> simp (disch:=first|omega|decide) only[push_cast,↓reduceIte,CG,FQ,Q7,Kk,Kj,u,hb]
  ·unfold Q8 Vv;rcases h with rfl | rfl | rfl
   ·by_cases E:a.tmod b<0
    ·simp (disch:=first|omega|decide) only[push_cast,↓reduceIte,CG,FQ,M6,u,hb,Oa,E,Ez,L3]
    ·simp (disch:=first|omega|decide) only[push_cast,↓reduceIte,CG,FQ,M6,u,hb,Oa,E,L3]
   ·by_cases E:0<a.tmod b
    ·simp (disch:=first|omega|decide) only[push_cast,↓reduceIte,CG,FQ,Q7,M5,u,hb,Oa,E,DL,L3]
    ·simp (disch:=first|omega|decide) only[push_cast,↓reduceIte,CG,FQ,Q7,M5,u,hb,Oa,E,L3]
   ·by_cases E:(2*a+b).tmod (2*b)<0
    ·simp (disch:=first|omega|decide) only[push_cast,↓reduceIte,CG,FQ,Kk,Kj,u,hb,Jh,DL,Oa,E,Ez,L3]
    ·simp (disch:=first|omega|decide) only[push_cast,↓reduceIte,CG,FQ,Kk,Kj,u,hb,Jh,DL,Oa,E,L3]
theorem XG:Contract Tryz.prog GG 237 ON:=
 DH yf (Dy (all_cons Pz all_nil) all_nil) (fun a h=>Ygz a.1 a.2.1 a.2.2 h)
noncomputable def Gb(R:List D→St→D×St→Prop):List D→St→Option (D×St):=fun ds st=>@dite _ (∃ r,R ds st r) (Classical.propDecidable _) (fun h=>some h.choose) (fun _=>none)
variable {r:D×St}{st:St}{ds:List D}
theorem HF{R:List D→St→D×St→Prop}(h:Gb R ds st=some r):R ds st r:=by
 unfold Gb at h
 split at h
 ·rename_i u;simp only[BF]at h;rw[← h]; exact u.choose_spec
 ·cases h
theorem Yh8{R:List D→St→D×St→Prop}(h:R ds st r)(I:∀ u,R ds st u→u=r):Gb R ds st=some r:=by
 have E:∃ r,R ds st r:=⟨r,h⟩;unfold Gb;rw[dif_pos E,I _ E.choose_spec]
def G3(R:List D→St→D×St→Prop):Prop:=∀ ds st r r',R ds st r→R ds st r'→r=r'
theorem J7{R:List D→St→D×St→Prop}(u:G3 R)(h:R ds st r):Gb R ds st=some r:=Yh8 h fun E I=>u ds st E r I h
def StOK(st:St):Prop:=∀ o∈st,o.row=false→∀ x∈o.els,Eo st.length [] x=x
theorem j9(n:Nat):∀ (l acc:List Nat),Et n n l acc=acc
 |[],acc=>rfl
 |k::r,acc=>by
  rw[Et,if_neg (by omega)];exact j9 n r acc
theorem Ms{α:Type}{f:α→α}:∀ {l:List α},(∀ x∈l,f x=x)→l.map f=l
 |[],_=>rfl
 |a::l,h=>by rw[Aq,h a (by simp),Ms fun x u=>h x (by simp[u])]
theorem fw(h:StOK st):st.map (EJ st.length [])=st:=by
 refine Ms fun o u=>?_;obtain⟨row,sz,els,lent⟩:=o
 cases row with
 |true=>rfl
 |false=>
  show(⟨false,sz,els.map (Eo st.length []),lent⟩:Obj)=_
  rw[Ms (h _ u rfl)]
variable {fr:Frame}{keep:List Nat}
theorem WV(h:StOK st):restrict keep st.length ⟨fr,st⟩=⟨Fu (HV fr st.length [] keep),st⟩:=by
 unfold restrict;simp only[Az,if_true,j9];unfold restrictAt;rw[RH];simp only[picked,A6,Av,AJ,fw h]
variable {n:Nat}
theorem OX{m:Nat}(f:Nat→D)(E:∀ k,f k≠.junk)(u:n≤m)(h:HX f (ED n [] key)=f key):HX f (ED m [] key)=f key:=by
 unfold ED at h ⊢
 by_cases hk:key<n
 ·rw[if_pos (AZ hk u)]; rfl
 ·rw[if_neg hk]at h;exact absurd h.symm (E key)
variable {x:D}
theorem jS{m:Nat}(u:n≤m)(h:Gi n [] x=x):Gi m [] x=x:=by
 cases x with
 |row key tot off len=>exact OX (fun k=>.row k tot off len) (fun k e=>by cases e) u h
 |bsl key off j sz ag=>exact OX (fun k=>.bsl k off j sz ag) (fun k e=>by cases e) u h
 |ptr key off=>exact OX (fun k=>.ptr k off) (fun k e=>by cases e) u h
 |rptr key tot i off=>exact OX (fun k=>.rptr k tot i off) (fun k e=>by cases e) u h
 |mapv key=>exact OX .mapv (fun k e=>by cases e) u h
 |_=>exact h
theorem Pk{f:D→D}:∀ {l:List D},l.map f=l→∀ x∈l,f x=x
 |[],_,x,u=>by cases u
 |a::l,h,x,u=>by
  simp only[Aq,Aa]at h;rcases AA.1 u with rfl | u
  ·exact h.1
  ·exact Pk h.2 x u
theorem jT{m:Nat}(u:n≤m)(h:Ep n [] x=x):Ep m [] x=x:=by
 cases x with
 |clo f l=>
  simp only[Ep,D.clo.injEq,true_and]at h ⊢;exact Ms fun y E=>jS u (Pk h y E)
 |_=>unfold Ep at h ⊢; exact jS u h
theorem Yax{m:Nat}(u:n≤m)(h:Eo n [] x=x):Eo m [] x=x:=by
 cases x with
 |agg l=>
  simp only[Eo,D.agg.injEq]at h ⊢;exact Ms fun y E=>jT u (Pk h y E)
 |tup l=>unfold Eo at h ⊢; exact h
 |_=>unfold Eo at h ⊢; exact jT u h
theorem StOK.nil:StOK []:=fun _ h=>by cases h
theorem StOK.app(h:StOK st)(l:St)(hl:∀ o∈l,o.row=false→∀ x∈o.els,Eo (st.length+l.length) [] x=x):StOK (st++l):=by
 intro o u E x I;rw[Ad];rcases AF.1 u with u | u
 ·exact Yax (Nat.le_add_right _ _) (h o u E x I)
 ·exact hl o u E x I
theorem StOK.set(h:StOK st)(k:Nat)(o:Obj)(J:o.row=false→∀ x∈o.els,Eo st.length [] x=x):StOK (st.set k o):=by
 intro q u E x I;rw[BP];rcases BD u with u | rfl
 ·exact h q u E x I
 ·exact J E x I
theorem iC(n m:Nat):∀ (l acc:List Nat),(∀ k∈l,k<n)→Et n m l acc=acc
 |[],acc,_=>rfl
 |k::r,acc,h=>by
  have:=h k (by simp);rw[Et,if_neg (by omega)];exact iC n m r acc fun x u=>h x (by simp[u])
theorem yp{l:St}(h:StOK st)(J:∀ o∈st,o.row=false→∀ x∈o.els,∀ k∈hk x,k<st.length)(U:∀ s∈keep,∀ k∈hk (fr s),k<st.length) :
  restrict keep st.length ⟨fr,st++l⟩=⟨Fu (HV fr st.length [] keep),st⟩:=by
 have hle:st.length≤(st++l).length:=by simp
 have M:(st++l).take st.length=st:=by simp
 unfold restrict;simp only[hle,if_true]
 rw[iC _ _ _ _ (fun k E=>by
  simp only[PE,M,AF,Bk]at E;rcases E with⟨s,V,N⟩ | ⟨o,X,u⟩
  ·exact U s V k N
  ·cases I:o.row with
   |true=>rw[I]at u; simp at u
   |false=>
    rw[I]at u;simp only[Ak,if_false,Bk]at u;obtain⟨x,Y,O⟩:=u;exact J o X I x Y k O)]
 unfold restrictAt;rw[RH];simp only[picked,A6,Av,M,fw h]
def Gw:Nat→Nat→Nat
 |0,_=>0
 |n+1,u=>if u=0 then 0 else Gw n (u / 256)+1
theorem Yhu(n:Nat):Gw n 0=0:=by cases n <;> rfl
theorem Yy(n u:Nat):Gw (n+1) u=if u=0 then 0 else Gw n (u / 256)+1:=(rfl)
theorem aI:∀ (n u:Nat),u<256 ^ n→Gw (n+1) u=Gw n u
 |0,u,h=>by
  have:u=0:=by simpa using h
  subst this; rfl
 |n+1,u,h=>by
  rw[Yy (n+1) u,Yy n u]
  split
  ·rfl
  ·rw[aI n (u / 256) (by rw[Nat.pow_succ]at h; omega)]
theorem LK:∀ (n u:Nat),Gw n u≤n
 |0,_=>Az _
 |n+1,u=>by
  rw[Gw]
  split
  ·omega
  ·have:=LK n (u / 256); omega
def lU(ds:List D)(st:St)(r:D×St):Prop:=∃ u:Nat,StOK st∧u<18446744073709551616∧ds=[.int .u64 (u:Int)]∧r=(.int .i64 (Gw 8 u:Int),st)
noncomputable def Yw:List D→St→Option (D×St):=Gb lU
theorem Yae:G3 lU:=by
 rintro ds st r E ⟨u,_,_,rfl,rfl⟩ ⟨I,_,_,h,rfl⟩;grind
theorem aJ{u:Nat}(h:u≠0)(E:u<256 ^ n):Gw n u=Gw n (u / 256)+1:=by
 cases n with
 |zero=>simp at E; omega
 |succ n=>
  rw[Yy n u,if_neg h,aI n (u / 256) (by rw[Nat.pow_succ]at E; omega)]
theorem Yla:IContract Tryz.prog GG 209 Yw:=by
 refine Ii (T:=tb [] []) nS (Dy all_nil all_nil) ?_;intro ds st r N;obtain⟨u,E,hu,rfl,rfl⟩:=HF N;unfold dk;simp (disch:=first|omega|decide) only[push_cast];refine EP (fun p:Nat×Nat=>[(0,.int .u64 (p.1:Int)),(2,.int .i64 (p.2:Int))]) (fun _=>st) (fun p=>p.1<18446744073709551616∧Gw 8 u=Gw 8 p.1+p.2) (fun p=>p.1) (u,0) (by simp only[push_cast,↓reduceIte,CG,↓WV E] <;> rfl) ⟨hu,rfl⟩ ?_;rintro⟨w,k⟩ ⟨hw,hk⟩;have U:=LK 8 u;dsimp only at hw hk;unfold dm;simp (disch:=first|omega|decide) only[push_cast,↓reduceIte];refine Fg (fun O=>?_) (fun O=>?_)
 ·have I:w≠0:=by omega
  have V:=aJ (n:=8) I (by omega)
  have J:Dj .shr (.int .u64 (w:Int)) (.int .u64 8)=some (.int .u64 ((w / 256:Nat):Int)):=by
   rw[Z8 (by omega) (by omega)]; rfl
  simp (disch:=first|omega|decide) only[push_cast,↓reduceIte,CG,↓CI,↓WV E,J,DL];refine El (w / 256,k+1) (by dsimp only; omega) (by dsimp only; omega) ?_;rfl
 ·obtain rfl:w=0:=by omega
  rw[Yhu]at hk;have M:Gw 8 u=k:=by omega
  rw[M];simp (disch:=first|omega|decide) only[push_cast,↓reduceIte,CG,CO,↓CI]
def Km(st:St)(b:D)(l:List UInt8):Prop:=(b=.slc 0 [] true∧l=[])∨∃ key,b=.row key l.length 0 l.length∧l≠[]∧st[key]?=some ⟨true,1,l.map Da,false⟩
def Hu(st:St)(b:D)(l m:List UInt8):D×St:=match b with
 |.row key _ _ _=>(.row key (l++m).length 0 (l++m).length,st.set key ⟨true,1,(l++m).map Da,false⟩)
 |_=>(.row st.length m.length 0 m.length,st++[⟨true,1,m.map Da,false⟩])
variable {l:List UInt8}
theorem p4{b:D}{E:List UInt8}(h:Km st b l)(I:Km st b E):l=E:=by
 rcases h with⟨rfl,rfl⟩ | ⟨key,rfl,hl,hk⟩
 ·rcases I with⟨_,rfl⟩ | ⟨key,h,_⟩
  ·rfl
  ·cases h
 ·rcases I with⟨h,_⟩ | ⟨J,h,_,u⟩
  ·cases h
  ·simp only[D.row.injEq]at h;obtain⟨rfl,_⟩:=h;rw[hk]at u;simp only[C9,Obj.mk.injEq,true_and,and_true]at u;exact Mz u
variable {m:List UInt8}
theorem Ytd{b:D}(h:StOK st):StOK (Hu st b l m).2:=by
 unfold Hu
 split
 ·exact h.set _ _ fun e=>by cases e
 ·exact h.app _ fun o u E=>by
   grind
theorem OF{b:D}(h:Km st b l)(E:m≠[])(hl:l.length+m.length≤4294967296)(t:Bool):DR st 1 1 b (.slc 1 (m.map Da) t)=some (Hu st b l m):=by
 have u:m.map Da≠[]:=by simpa using E
 have I:nz 1 (m.map Da)=1:=by
  cases J:m.map Da with
  |nil=>exact absurd J u
  |cons a r=>rfl
 rcases h with⟨rfl,rfl⟩ | ⟨key,rfl,M,hk⟩
 ·have:=WC Da st 1 0 1 m t (by decide) (by omega) (by simp at hl; omega);rw[I,J8 _ _ _ u,JK _ _ u,A2]at this;exact this
 ·rw[Wo,hk];have he:Gc st (.slc 1 (m.map Da) t)=some (1,m.map Da):=(rfl);rw[he,ZU l m false hl];simp only[Ae,Hu,A2]
def DI(st:St)(key:Nat)(l:List UInt8):St:=st.set key ⟨true,1,l.map Da,false⟩
theorem WZ(st:St)(key:Nat)(l:List UInt8):(DI st key l).length=st.length:=BP
theorem YN(h:key<st.length)(l:List UInt8):(DI st key l)[key]?=some ⟨true,1,l.map Da,false⟩:=by simp[DI,h]
theorem p7(st:St)(key:Nat)(l m:List UInt8):DI (DI st key l) key m=DI st key m:=by simp[DI]
theorem Ok(h:StOK st)(key:Nat)(l:List UInt8):StOK (DI st key l):=h.set _ _ fun e=>by cases e
theorem gj(h:key<st.length)(l m:List UInt8)(E:m≠[])(hl:l.length+m.length≤4294967296)(t:Bool) :
  DR (DI st key l) 1 1 (.row key l.length 0 l.length) (.slc 1 (m.map Da) t)=some (.row key (l++m).length 0 (l++m).length,DI st key (l++m)):=by
 by_cases u:l=[]
 ·subst u;rw[Wo,YN h];have he:Gc (DI st key []) (.slc 1 (m.map Da) t)=some (1,m.map Da):=(rfl);rw[he,ZU [] m false hl];simp only[Ae,A2];simp only[DI,List.set_set]
 ·rw[OF (.inr ⟨key,rfl,u,YN h l⟩) E hl t];simp only[Hu];simp only[DI,List.set_set]
theorem R7(h:key<st.length)(l:List UInt8)(x:UInt8)(hl:l.length<4294967296)(t:Bool) :
  DR (DI st key l) 1 1 (.row key l.length 0 l.length) (.slc 1 [Da x] t)=some (.row key (l++[x]).length 0 (l++[x]).length,DI st key (l++[x])):=
 gj h l [x] (by simp) (by simp; omega) t
theorem kr{b:D}(h:Km st b l)(E:m≠[]):∃ key st1,key<st1.length∧Hu st b l m=(.row key (l++m).length 0 (l++m).length,DI st1 key (l++m))∧(StOK st→StOK st1)∧
  ∀ n,Hu st b l (m++n)=(.row key (l++(m++n)).length 0 (l++(m++n)).length,DI st1 key (l++(m++n))):=by
 rcases h with⟨rfl,rfl⟩ | ⟨key,rfl,hl,hk⟩
 ·refine⟨st.length,st++[⟨true,1,[],false⟩],by simp,?_,fun h=>h.app _ fun o I J=>?_,fun n=>?_⟩
  ·simp[Hu,DI]
  ·grind
  ·simp[Hu,DI]
 ·have u:=(Ab.1 hk).1;exact⟨key,st,u,rfl,id,fun n=>rfl⟩
theorem S7(h:StOK st)(u:n=st.length):restrict keep n ⟨fr,st⟩=⟨Fu (HV fr n [] keep),st⟩:=by
 subst u; exact WV h
def Gx(u k:Nat):List UInt8:=(CQ k).map fun i=>CS (u / 2 ^ (8*(k - 1 - i)))
theorem NU(u k:Nat):(Gx u k).length=k:=by simp[Gx]
variable {k:Nat}
theorem wK{u:Nat}(h:i<k):(Gx u k).take (i+1)=(Gx u k).take i++[CS (u / 2 ^ (8*(k - 1 - i)))]:=by
 rw[List.take_add_one]
 congr 1
 simp[Gx,h]
def Du(n:Int):Nat:=(n % 18446744073709551616).toNat
def Hs(a:Nat):Nat:=18446744073709551615 - a
theorem gw(a:Nat):Hs a<18446744073709551616:=by unfold Hs; omega
def E3(n:Int):List UInt8:=
 if 0≤n then CS (32+Gw 8 (Du n))::Gx (Du n) (Gw 8 (Du n))
 else CS (31 - Gw 8 (Hs (Du n)))::Gx (Du n) (Gw 8 (Hs (Du n)))
theorem pn{a:Nat}(h:a<18446744073709551616):IS .xor (.int .u64 (a:Int))=some (.int .u64 (Hs a:Int)):=by
 unfold Hs
 have u:Jd .xor .u64 (if IntKind.u64.signed then -1 else IntKind.u64.max) (a:Int)=some ((18446744073709551615 - a:Nat):Int):=by
  unfold Jd;have I:IntKind.u64.bits=64:=rfl;have E:(if IntKind.u64.signed then(-1:Int)else IntKind.u64.max)=18446744073709551615:=by decide
  rw[E];simp only
  have:(CP IntKind.u64.bits 18446744073709551615 ^^^ CP IntKind.u64.bits (a:Int)) = ~~~ (BitVec.ofNat 64 a):=by
   rfl
  rw[this]
  show some (IntKind.wrap .u64 (((~~~ (BitVec.ofNat 64 a):BitVec 64).toNat:Nat):Int))=_
  rw[BitVec.toNat_not,BitVec.toNat_ofNat,AW (by omega)]
  show some (IntKind.wrap .u64 ((2 ^ 64 - 1 - a:Nat):Int))=_
  congr 1
  rw[ao];omega
 simp only[IS,u,Ae]
def QT(ds:List D)(st:St)(r:D×St):Prop:=∃ (b:D) (l:List UInt8) (n:Int),StOK st∧Km st b l∧l.length≤4294967000∧ds=[b,.int .i64 n]∧r=Hu st b l (E3 n)
noncomputable def Ov:List D→St→Option (D×St):=Gb QT
theorem Ye3:G3 QT:=by
 rintro ds st r E ⟨b,l,n,_,hb,_,rfl,rfl⟩ ⟨b',I,J,_,u,_,h,rfl⟩;simp only[Aa,D.int.injEq,true_and,and_true]at h;obtain⟨rfl,rfl⟩:=h;rw[p4 hb u]
theorem qE{b:D}(n:Int)(u:StOK st)(E:Km st b l)(I:l.length≤4294967000):Ov [b,.int .i64 n] st=some (Hu st b l (E3 n)):=J7 Ye3 ⟨b,l,n,u,E,I,rfl,rfl⟩
theorem iT(u:Nat)(E:StOK st)(I:u<18446744073709551616):Yw [.int .u64 (u:Int)] st=some (.int .i64 (Gw 8 u:Int),st):=J7 Yae ⟨u,E,I,rfl,rfl⟩
theorem Mn(h:key<n):ED n [] key=some key:=if_pos h
theorem Vs(n:Int):Du n<18446744073709551616:=by unfold Du; omega
theorem YC(n:Int):n % 18446744073709551616=(Du n:Int):=by unfold Du; omega
theorem J4(x:UInt8):ES 1 [Da x]=some (.slc 1 [Da x] true):=(rfl)
theorem K6(st:St)(x:UInt8):D4 st (Da x)=some (Da x):=(rfl)
theorem KM(x:UInt8):keys (Da x)=[]:=(rfl)
theorem VW(st:St)(k:Nat):E0 st (.int .u8) (.int .i64 (32+(k:Int)))=some (Da (CS (32+k))):=by
 rfl
theorem ja(st:St)(h:k≤31):E0 st (.int .u8) (.int .i64 (31 - (k:Int)))=some (Da (CS (31 - k))):=by
 rw[XI st (by omega),show(31 - (k:Int)).toNat=31 - k by omega]
theorem ux(st:St)(u m:Nat):E0 st (.int .u8) (.int .u64 ((u:Int) / 2 ^ m))=some (Da (CS (u / 2 ^ m))):=by
 rfl
/- the loop's part: the tag is laid -/
theorem fD(T:Tbl)(st1:St)(key:Nat)(E:key<st1.length)(M:StOK st1)(u:List UInt8)(n:Int)(k:Nat)(hk:k≤8)(hl:u.length≤4294967200)(fr:Frame)(Q:Ex→Frame→St→Prop)
  (V:fr 0=.row key u.length 0 u.length) (X:fr 1=.int .i64 n) (Y:fr 6=.int .i64 (k:Int)) (N:fr 30=.int .i64 (k:Int)) (O:fr 31=.int .i64 0)
  (hQ:∀ I,I 0=.row key (u++Gx (Du n) k).length 0 (u++Gx (Du n) k).length→Q (.exit 0) I (DI st1 key (u++Gx (Du n) k))) :
  @wW GG T (.loop [0,1,6,30,31] Xa) fr (DI st1 key u) ⟨Q⟩:=by
 have hlen:=WZ st1 key;have U:∀ (fr:Frame) (m:List UInt8),restrict [0,1,6,30,31] (DI st1 key u).length ⟨fr,DI st1 key m⟩=⟨Fu (HV fr st1.length [] [0,1,6,30,31]),DI st1 key m⟩:=fun fr m=>by rw[S7 (Ok M key m) (by rw[hlen,hlen]),hlen]
 refine EP (fun i:Nat=>[(0,.row key (u++(Gx (Du n) k).take i).length 0 (u++(Gx (Du n) k).take i).length),(1,.int .i64 n),(6,.int .i64 (k:Int)),(30,.int .i64 (k:Int)),(31,.int .i64 (i:Int))])
  (fun i=>DI st1 key (u++(Gx (Du n) k).take i)) (fun i=>i≤k) (fun i=>k - i) 0 ?_ (by omega) ?_
 ·rw[U];simp (disch:=omega) only[push_cast,↓CI,V,X,Y,N,O,Mn] <;> rfl
 intro i hi;unfold Xa;have hb:=NU (Du n) k;have ht:((Gx (Du n) k).take i).length=i:=by rw[As]; omega
 simp (disch:=first|omega|decide) only[push_cast,↓reduceIte,CG];refine Fg (fun h2=>?_) (fun h2=>?_)
 ·have e1:((8*((k:Int) - 1 - (i:Int)))).toNat=8*(k - 1 - i):=by omega
  have J:=fun x=>R7 (st:=st1) E (u++(Gx (Du n) k).take i) x (by rw[Ad]; omega) true;simp (disch:=first|omega|decide) only[push_cast,↓reduceIte,CG,Ry,YC,Ez,Jh,DL,Z8,e1,ux,K6,KM,J4,J,↓U,E];refine El (i+1) (by omega) (by omega) ?_;rw[wK (by omega),← Ar];rfl
 ·obtain rfl:i=k:=by omega
  have e2:(Gx (Du n) i).take i=Gx (Du n) i:=AI (by omega);rw[e2];simp (disch:=first|omega|decide) only[push_cast];exact hQ _ rfl
theorem Ylf:IContract Tryz.prog GG 202 Ov:=by
 refine Ii (T:=tb [] [(209,Yw)]) nF (Dy all_nil (all_cons Yla all_nil)) ?_;intro ds st r hr;obtain⟨b,l,n,N,hb,hl,rfl,rfl⟩:=HF hr;unfold cL;have U:=iT (st:=st) (Du n) N (Vs n);have V:=LK 8 (Du n);have hu:=Vs n
 by_cases X:n<0
 ·have Y:=iT (st:=st) (Hs (Du n)) N (gw _);have aa:=LK 8 (Hs (Du n));have O:E3 n=[CS (31 - Gw 8 (Hs (Du n)))]++Gx (Du n) (Gw 8 (Hs (Du n))):=if_neg (by omega);rw[O];generalize Gw 8 (Hs (Du n))=k at*;obtain⟨key,st1,I,J,M,E⟩:=kr hb (m:=[CS (31 - k)]) (by simp);have u:=OF hb (m:=[CS (31 - k)]) (by simp) (by simp; omega) true;rw[J]at u;have hm:=E (Gx (Du n) k);simp only[Aq,A6]at u;rw[hm,← Ar];simp (disch:=first|omega|decide) only[push_cast,↓reduceIte,CG,X,Ry,YC,U,pn,Y,DL,Ez,ja,VW,K6,KM,J4,u];refine fD _ st1 key I (M N) (l++[CS (31 - k)]) n k aa (by simp; omega) _ _ (by simp only[push_cast,↓reduceIte,CG]) (by simp only[push_cast,↓reduceIte,CG]) (by simp only[push_cast,↓reduceIte,CG]) (by simp only[push_cast,↓reduceIte,CG]) (by simp only[push_cast,↓reduceIte]) fun ab hf=>?_;simp (disch:=first|omega|decide) only[push_cast,↓reduceIte,hf]
 ·have O:E3 n=[CS (32+Gw 8 (Du n))]++Gx (Du n) (Gw 8 (Du n)):=if_pos (by omega);rw[O];generalize Gw 8 (Du n)=k at*;obtain⟨key,st1,I,J,M,E⟩:=kr hb (m:=[CS (32+k)]) (by simp);have u:=OF hb (m:=[CS (32+k)]) (by simp) (by simp; omega) true;rw[J]at u;have hm:=E (Gx (Du n) k);simp only[Aq,A6]at u;rw[hm,← Ar];simp (disch:=first|omega|decide) only[push_cast,↓reduceIte,CG,X,Ry,YC,U,DL,VW,K6,KM,J4,u];refine fD _ st1 key I (M N) (l++[CS (32+k)]) n k V (by simp; omega) _ _ (by simp only[push_cast,↓reduceIte,CG]) (by simp only[push_cast,↓reduceIte,CG]) (by simp only[push_cast,↓reduceIte,CG]) (by simp only[push_cast,↓reduceIte,CG]) (by simp only[push_cast,↓reduceIte]) fun ab hf=>?_;simp (disch:=first|omega|decide) only[push_cast,↓reduceIte,hf]
inductive Val where
 |int (n:Int)
 |bytes (b:List UInt8)
 |list (l:List Val)
instance:Inhabited Val:=⟨.int 0⟩
def vC(k n:Int)(B L:List D):List D:=[.int .i64 k,.int .i64 n,.slc (nz 1 B) B false,.slc (nz 4 L) L false]
def vD(k n:Int)(B L:List D):D:=.agg (vC k n B L)
mutual
def C8:Val→D
 |.int n=>vD 1 n [] []
 |.bytes b=>vD 2 0 (b.map Da) []
 |.list l=>vD 3 0 [] (J0 l)
def J0:List Val→List D
 |[]=>[]
 |v::l=>C8 v::J0 l
end
mutual
def Dx:Val→Nat
 |.int _=>0
 |.bytes _=>0
 |.list l=>Gl l+1
def Gl:List Val→Nat
 |[]=>0
 |v::l=>max (Dx v) (Gl l)
end
def DJ(c:UInt8):List UInt8:=if c=0 then [0,255]else [c]
mutual
def Df:Val→List UInt8
 |.int n=>E3 n
 |.bytes b=>48::(b.flatMap DJ++[0,0])
 |.list l=>64::(MO l++[0])
def MO:List Val→List UInt8
 |[]=>[]
 |v::l=>Df v++MO l
end
theorem iE:∀ l:List Val,J0 l=l.map C8
 |[]=>by simp[J0]
 |v::l=>by simp[J0,iE l]
theorem YR:∀ l:List Val,MO l=l.flatMap Df
 |[]=>by simp[MO]
 |v::l=>by simp[MO,YR l]
theorem Rz:∀ {l:List Val} {v:Val},v∈l→Dx v≤Gl l
 |a::l,v,h=>by
  rw[Gl];rcases AA.1 h with rfl | h
  ·omega
  ·exact AT (Rz h) (Nat.le_max_right _ _)
theorem Jr(n:Int):C8 (.int n)=vD 1 n [] []:=by simp[C8]
theorem Jt(b:List UInt8):C8 (.bytes b)=vD 2 0 (b.map Da) []:=by simp[C8]
theorem Kc(l:List Val):C8 (.list l)=vD 3 0 [] (l.map C8):=by simp[C8,iE]
theorem RB(n:Int):Df (.int n)=E3 n:=by simp[Df]
theorem NP(b:List UInt8):Df (.bytes b)=48::(b.flatMap DJ++[0,0]):=by simp[Df]
theorem I6(l:List Val):Df (.list l)=64::(l.flatMap Df++[0]):=by simp[Df,YR]
theorem fS(n:Int):Dx (.int n)=0:=by simp[Dx]
theorem kP(b:List UInt8):Dx (.bytes b)=0:=by simp[Dx]
theorem NH(l:List Val):Dx (.list l)=Gl l+1:=by simp[Dx]
def PZ(v:Val):List D:=match v with
 |.int n=>vC 1 n [] []
 |.bytes b=>vC 2 0 (b.map Da) []
 |.list l=>vC 3 0 [] (J0 l)
theorem I8(v:Val):∃ k n B L,PZ v=vC k n B L∧C8 v=vD k n B L:=by
 cases v
 ·exact⟨_,_,_,_,rfl,by simp[C8]⟩
 ·exact⟨_,_,_,_,rfl,by simp[C8]⟩
 ·exact⟨_,_,_,_,rfl,by simp[C8]⟩
theorem JJ{k n k' u:Int}{B L E I:List D}(h:vD k n B L=vD k' u E I):k=k'∧n=u∧B=E∧L=I:=by
 simp only[vD,vC,D.agg.injEq,Aa,D.int.injEq,D.slc.injEq,true_and,and_true]at h;grind
mutual
theorem Zm:∀ {v v':Val},C8 v=C8 v'→v=v'
 |.int n,.int u,h=>by rw[Jr,Jr]at h; rw[(JJ h).2.1]
 |.bytes b,.bytes b',h=>by rw[Jt,Jt]at h; rw[Mz (JJ h).2.2.1]
 |.list l,.list E,h=>by
  have:=h;simp only[C8]at this;rw[kf (JJ this).2.2.2]
 |.int n,.bytes b,h=>by rw[Jr,Jt]at h; exact absurd (JJ h).1 (by decide)
 |.int n,.list b,h=>by rw[Jr,Kc]at h; exact absurd (JJ h).1 (by decide)
 |.bytes n,.int b,h=>by rw[Jr,Jt]at h; exact absurd (JJ h).1 (by decide)
 |.bytes n,.list b,h=>by rw[Jt,Kc]at h; exact absurd (JJ h).1 (by decide)
 |.list n,.int b,h=>by rw[Jr,Kc]at h; exact absurd (JJ h).1 (by decide)
 |.list n,.bytes b,h=>by rw[Jt,Kc]at h; exact absurd (JJ h).1 (by decide)
theorem kf:∀ {l u:List Val},J0 l=J0 u→l=u
 |[],[],_=>rfl
 |[],_::_,h=>by simp[J0]at h
 |_::_,[],h=>by simp[J0]at h
 |a::l,b::u,h=>by
  simp only[J0,Aa]at h;rw[Zm h.1,kf h.2]
end
theorem KC{v v':Val}:C8 v=C8 v'↔v=v':=⟨Zm,fun h=>by rw[h]⟩
theorem Zn{l u:List Val}:l.map C8=u.map C8↔l=u:=⟨Lx fun _ _=>Zm,fun h=>by rw[h]⟩
theorem G9(k n:Int)(B L:List D):D0 (vD k n B L)=some (vC k n B L):=(rfl)
theorem Li:D0 (.agg [.int .i64 0,.int .i64 0,.slc 0 [] true,.slc 0 [] true])=some [.int .i64 0,.int .i64 0,.slc 0 [] true,.slc 0 [] true]:=(rfl)
theorem HS(lent:Bool)(k n:Int)(B L:List D):DY (some ⟨false,1,vC k n B L,lent⟩) 1 false 0=some (.int .i64 k):=(rfl)
theorem N3(lent:Bool)(k n:Int)(B L:List D):DY (some ⟨false,1,vC k n B L,lent⟩) 1 false 1=some (.int .i64 n):=(rfl)
theorem LX(lent:Bool)(k n:Int)(B L:List D):DY (some ⟨false,1,vC k n B L,lent⟩) 1 false 2=some (.slc (nz 1 B) B false):=(rfl)
theorem IC(lent:Bool)(k n:Int)(B L:List D):DY (some ⟨false,1,vC k n B L,lent⟩) 1 false 3=some (.slc (nz 4 L) L false):=(rfl)
theorem HJ(lent:Bool)(k n:Int)(B L:List D):DY (some ⟨false,1,vC k n B L,lent⟩) 4 true 0=some (vD k n B L):=(rfl)
theorem Qd(k n:Int)(B L:List D):Eh (some ⟨false,1,[.int .i64 0,.int .i64 0,.slc 0 [] true,.slc 0 [] true],false⟩) 4 0 (vD k n B L)=some ⟨false,1,vC k n B L,false⟩:=(rfl)
theorem Ps(st:St)(k n:Int)(B L:List D):EU st 4 true (.eptr (vD k n B L) 0)=some (vD k n B L):=(rfl)
theorem JW(st:St)(k n:Int)(B L:List D):D4 st (vD k n B L)=some (vD k n B L):=by
 simp only[vD,vC,D4,D3,DD,JX];rfl
theorem Lo(k n:Int)(B L:List D):keys (vD k n B L)=[]:=(rfl)
theorem IZ(k n:Int)(B L:List D):(vC k n B L).flatMap hk=[]:=(rfl)
theorem Qt(m:Nat)(k n:Int)(B L:List D):∀ x∈vC k n B L,Eo m [] x=x:=by
 intro x u;simp only[vC,AA,AQ,or_false]at u;rcases u with rfl | rfl | rfl | rfl <;> rfl
theorem I2(m:Nat)(σ:List Nat)(k n:Int)(B L:List D):(vC k n B L).map (Eo m σ)=vC k n B L:=(rfl)
theorem Pp(st:St)(l:List Val)(t:Bool)(i:Nat)(h:i<l.length):Fy st 4 (.slc (nz 4 (l.map C8)) (l.map C8) t) (.int .i64 (i:Int))=some (.eptr (C8 (l.getD i default)) 0):=by
 have:=KA st 4 C8 l t .i64 (i:Int) (by omega) (by omega);grind
theorem Oi:((2:Int)=1)=False:=by simp
theorem QV:((3:Int)=1)=False:=by simp
theorem QU:((3:Int)=2)=False:=by simp
noncomputable def RZ(N:Nat):List D→Option D:=Dd (α:=Val) (fun v=>[C8 v]) (fun v=>Dx v<N∧(Df v).length≤4294967000) (fun v=>.tup [.int .i64 (Dx v:Int),.bool true])
theorem kD(N:Nat)(v:Val)(h:Dx v<N∧(Df v).length≤4294967000):RZ N [C8 v]=some (.tup [.int .i64 (Dx v:Int),.bool true]):=
 DG (fun a b h=>by simp only[Aa,and_true,KC]at h; rw[h]) v h
theorem YP:∀ b:List UInt8,b.length≤(b.flatMap DJ).length
 |[]=>by simp
 |c::b=>by
  have:=YP b;have u:1≤(DJ c).length:=by unfold DJ; split <;> simp
  grind
theorem Ycs(n:Int):1≤(E3 n).length:=by unfold E3; split <;> simp
theorem fV:∀ v:Val,1≤(Df v).length
 |.int n=>by rw[RB]; exact Ycs n
 |.bytes b=>by rw[NP]; simp
 |.list l=>by rw[I6]; simp
theorem O4:∀ l:List Val,l.length≤(l.flatMap Df).length
 |[]=>by simp
 |v::l=>by
  have:=O4 l;have:=fV v;grind
theorem YQ:∀ {l:List Val} {v:Val},v∈l→(Df v).length≤(l.flatMap Df).length
 |a::l,v,h=>by
  simp only[An,Ad];rcases AA.1 h with rfl | h
  ·omega
  ·have:=YQ h; omega
mutual
theorem fT:∀ v:Val,Dx v≤(Df v).length
 |.int n=>by simp[Dx]
 |.bytes b=>by simp[Dx]
 |.list l=>by
  have:=V9 l;simp only[Dx,Df,Al,Ad,Ap];omega
theorem V9:∀ l:List Val,Gl l≤(MO l).length
 |[]=>by simp[Gl]
 |v::l=>by
  have:=fT v;have:=V9 l;simp only[Gl,MO,Ad];omega
end
def HO:List Val→Nat
 |[]=>0
 |v::l=>max (HO l) (Dx v)
theorem fR:∀ l:List Val,HO l.reverse=Gl l:=by
 have h:∀ (l m:List Val),HO (l++m)=max (HO l) (HO m):=by
  intro l m
  induction l with
  |nil=>simp[HO]
  |cons a l u=>simp only[At,HO,u]; omega
 intro l
 induction l with
 |nil=>simp[HO,Gl]
 |cons a l u=>rw[List.reverse_cons,h,u]; simp only[HO,Gl]; omega
theorem kQ(l:List Val)(v:Val):Gl (l++[v])=max (Gl l) (Dx v):=by
 rw[← fR,← fR l,List.reverse_append];rfl
theorem I7[Inhabited α](l:List α)(h:i<l.length):l.take (i+1)=l.take i++[l.getD i default]:=by
 simp_all
set_option maxHeartbeats 4000000 in
set_option maxRecDepth 20000 in
theorem eJ:∀ N:Nat,Contract Tryz.prog GG 189 (RZ N)
 |0=>by
  intro w g ds vs d hd;obtain⟨a,_,hp,_⟩:=OL hd;omega
 |N+1=>by
  refine DH (T:=tb [(189,RZ N)] []) mY (Dy (all_cons (eJ N) all_nil) all_nil) ?_;rintro v ⟨hN,hl⟩;unfold bX
  cases v with
  |int n=>
   rw[Jr,fS];simp (disch:=first|omega|decide) only[push_cast,↓reduceIte,CG,↓CI,G9,HS,LX,IC]
  |bytes b=>
   rw[Jt,kP];simp (disch:=first|omega|decide) only[push_cast,↓reduceIte,CG,↓CI,G9,HS,N3,IC,Oi]
  |list l=>
   rw[Kc,NH];rw[NH]at hN;rw[I6]at hl;have af:=O4 l;have U:=V9 l;rw[YR]at U;simp only[Al,Ad,Ap]at hl;simp (disch:=first|omega|decide) only[push_cast,↓reduceIte,CG,G9,HS,N3,LX,IC,QV,QU]
   refine EP (fun i:Nat=>[(2,.int .i64 (Gl (l.take i):Int)),(45,.slc (nz 4 (l.map C8)) (l.map C8) false),(46,.int .i64 (l.length:Int)),(47,.int .i64 (i:Int))])
    (fun _=>[⟨false,1,vC 3 0 [] (l.map C8),false⟩]) (fun i=>i≤l.length) (fun i=>l.length - i) 0 (by simp only[push_cast,↓reduceIte,CG,↓CI,IZ,I2] <;> rfl) (by omega) ?_
   intro i hi;unfold cH;simp (disch:=first|omega|decide) only[push_cast,↓reduceIte,CG];refine Fg (fun h2=>?_) (fun h2=>?_)
   ·have u:i<l.length:=by omega
    have M:=Pp [⟨false,1,vC 3 0 [] (l.map C8),false⟩] l false i u;have E:l.getD i default∈l:=by rw[Aj,Af u]; exact Bj u
    have V:=Rz E;have X:=YQ E;have O:=kD N (l.getD i default) ⟨by omega,by omega⟩;have I:=I7 l u;obtain⟨x,Y⟩:∃ x,l.getD i default=x:=⟨_,rfl⟩;rw[Y]at M O I V X;have J:=kQ (l.take i) x;rw[← I]at J;obtain⟨k,n,B,L,hC,hD⟩:=I8 x;rw[hD]at M O;simp (disch:=first|omega|decide) only[push_cast,↓reduceIte,CG,CJ,CH,M,Ps,Li,Qd,HJ,JW,Lo,O,DL];refine El (i+1) (by omega) (by omega) ?_;rw[show((Gl (l.take (i+1)):Nat):Int)=max (Gl (l.take i):Int) (Dx x:Int) by rw[J]; omega];rfl
   ·obtain rfl:i=l.length:=by omega
    have e2:l.take l.length=l:=AJ;rw[e2];simp (disch:=first|omega|decide) only[push_cast,↓reduceIte,CG,DL]
theorem EG(st:St)(o:Obj):(st++[o])[st.length]?=some o:=List.getElem?_concat_length
theorem Nw(st:St)(o o':Obj):(st++[o]).set st.length o'=st++[o']:=by simp
theorem X1(n:Nat)(d:D):Eo n [] d=Gs n d:=by
 have I:∀ (f:Nat→D) (key:Nat),HX f (ED n [] key)=if key<n then f key else .junk:=by
  intro f key; unfold ED; split <;> rfl
 have u:∀ d,Gi n [] d=Gr n d:=by
  intro d;cases d <;> simp only[Gi,Gr,I]
 have E:∀ d,Ep n [] d=F5 n d:=by
  intro d
  cases d with
  |clo f l=>simp only[Ep,F5,D.clo.injEq,true_and]; exact Bx fun x _=>u x
  |_=>simp only[Ep,F5]; exact u _
 cases d with
 |agg l=>simp only[Eo,Gs,D.agg.injEq]; exact Bx fun x _=>E x
 |tup l=>rfl
 |_=>simp only[Eo,Gs]; exact E _
theorem Yp7(h:Eo n [] x=x):∀ k∈hk x,k<n:=by
 have u:∀ (f:Nat→D) (key:Nat),(∀ k,f k≠.junk)→HX f (ED n [] key)=f key→key<n:=by
  intro f key hf h;unfold ED at h
  split at h
  ·assumption
  ·exact absurd h.symm (hf key)
 have I:∀ x,Gi n [] x=x→∀ k∈FU x,k<n:=by
  intro x h k hk
  cases x with
  |row key tot off len=>simp only[FU,AP]at hk; subst hk; exact u (fun k=>.row k tot off len) _ (fun k e=>by cases e) h
  |bsl key off j sz ag=>simp only[FU,AP]at hk; subst hk; exact u (fun k=>.bsl k off j sz ag) _ (fun k e=>by cases e) h
  |ptr key off=>simp only[FU,AP]at hk; subst hk; exact u (fun k=>.ptr k off) _ (fun k e=>by cases e) h
  |rptr key tot i off=>simp only[FU,AP]at hk; subst hk; exact u (fun k=>.rptr k tot i off) _ (fun k e=>by cases e) h
  |mapv key=>simp only[FU,AP]at hk; subst hk; exact u .mapv _ (fun k e=>by cases e) h
  |_=>simp[FU]at hk
 have J:∀ x,Ep n [] x=x→∀ k∈Dt x,k<n:=by
  intro x h k hk
  cases x with
  |clo f l=>
   simp only[Dt,Bk]at hk;obtain⟨y,E,hk⟩:=hk;simp only[Ep,D.clo.injEq,true_and]at h;exact I y (Pk h y E) k hk
  |_=>unfold Ep at h; unfold Dt at hk; exact I _ h k hk
 intro k hk
 cases x with
 |agg l=>
  simp only[PI.hk,Bk]at hk;obtain⟨y,E,hk⟩:=hk;simp only[Eo,D.agg.injEq]at h;exact J y (Pk h y E) k hk
 |tup l=>simp[PI.hk,Dt,FU]at hk
 |_=>unfold Eo at h; unfold PI.hk at hk; exact J _ h k hk
theorem StOK.keys(h:StOK st):∀ o∈st,o.row=false→∀ x∈o.els,∀ k∈hk x,k<st.length:=fun o u E x I=>Yp7 (h o u E x I)
theorem cB{l:St}(h:StOK st)(u:n=st.length)(E:∀ k∈JV fr keep,k<n):restrict keep n ⟨fr,st++l⟩=⟨Fu (HV fr n [] keep),st⟩:=by
 subst u;refine yp h h.keys fun s I k hk=>E k ?_;rw[Y9,Bk];grind
theorem mS{l:St}(h:StOK st)(u:n=st.length):cut n (st++l)=st:=by
 subst u;unfold cut;rw[show(st++l).take st.length=st by simp];refine Ms fun o E=>?_;obtain⟨row,sz,els,lent⟩:=o
 cases row with
 |true=>rfl
 |false=>
  show(⟨false,sz,els.map (Gs st.length),lent⟩:Obj)=_
  rw[Ms fun x I=>(X1 st.length x).symm.trans (h _ E rfl x I)]
theorem Zi(h:StOK st)(k n:Int)(B L:List D)(lent:Bool):StOK (st++[⟨false,1,vC k n B L,lent⟩]):=h.app _ fun o u I x E=>by
 simp only[AP]at u;subst u;exact Qt _ _ _ _ _ x E
theorem uf{b:D}(h:Km st b l)(m:St):Km (st++m) b l:=by
 rcases h with⟨rfl,rfl⟩ | ⟨key,rfl,hl,hk⟩
 ·exact .inl ⟨rfl,rfl⟩
 ·exact .inr ⟨key,rfl,hl,by rw[Ao (Ab.1 hk).1]; exact hk⟩
theorem ku{els:List D}{lent:Bool}(I:st[key]?=some ⟨true,sz,els,lent⟩){j:Nat}{o:PI.Obj}(E:st[j]?=some o)(J:o.row=false)(m:List UInt8):(DI st key m)[j]?=some o:=by
 have u:key≠j:=by
  grind
 rw[DI,Ay u];exact E
theorem aY{b:D}(h:Km st b l)(J:m≠[]):∃ key st1,key<st1.length∧Hu st b l m=(.row key (l++m).length 0 (l++m).length,DI st1 key (l++m))∧(StOK st→StOK st1)∧
  (∀ n,Hu st b l (m++n)=(.row key (l++(m++n)).length 0 (l++(m++n)).length,DI st1 key (l++(m++n))))∧∀ (j:Nat) (o:PI.Obj),st[j]?=some o→o.row=false→∀ n,(DI st1 key n)[j]?=some o:=by
 rcases h with⟨rfl,rfl⟩ | ⟨key,rfl,hl,hk⟩
 ·refine⟨st.length,st++[⟨true,1,[],false⟩],by simp,?_,fun h=>h.app _ fun o M u=>?_,fun n=>?_,fun j o E u n=>?_⟩
  ·simp[Hu,DI]
  ·grind
  ·simp[Hu,DI]
  ·exact ku (EG st ⟨true,1,[],false⟩) (by rw[Ao (Ab.1 E).1]; exact E) u n
 ·have I:=(Ab.1 hk).1;exact⟨key,st,I,rfl,id,fun n=>rfl,fun j o E u n=>ku hk E u n⟩
def Np(st:St)(b:D)(l:List UInt8)(v:Val):D×St:=Hu (st++[⟨false,1,PZ v,false⟩]) b l (Df v)
def lZ(N:Nat)(ds:List D)(st:St)(r:D×St):Prop:=∃ (v:Val),StOK st∧Dx v<N∧(Df v).length≤4294967000∧ds=[.slc 0 [] true,C8 v]∧r=Np st (.slc 0 [] true) [] v
def l3(N:Nat)(ds:List D)(st:St)(r:D×St):Prop:=∃ (key:Nat) (l:List UInt8) (v:Val),StOK st∧Dx v<N∧l.length+(Df v).length≤4294967000∧l≠[]∧st[key]?=some ⟨true,1,l.map Da,false⟩∧ds=[.row key l.length 0 l.length,C8 v]∧r=Hu st (.row key l.length 0 l.length) l (Df v)
noncomputable def Y8(N:Nat):List D→St→Option (D×St):=Gb (lZ N)
noncomputable def OK(N:Nat):List D→St→Option (D×St):=Gb (l3 N)
theorem qz(N:Nat):G3 (l3 N):=by
 rintro ds st r I ⟨key,l,v,_,_,_,_,hk,rfl,rfl⟩ ⟨E,J,v',_,_,_,_,u,h,rfl⟩;simp only[Aa,D.row.injEq,and_true,KC]at h;obtain⟨⟨rfl,_⟩,rfl⟩:=h;rw[hk]at u;simp only[C9,Obj.mk.injEq,true_and,and_true]at u;rw[Mz u]
theorem qy(N:Nat):G3 (lZ N):=by
 rintro ds st r u ⟨v,_,_,_,rfl,rfl⟩ ⟨v',_,_,_,h,rfl⟩;simp only[Aa,and_true,true_and,KC]at h;rw[h]
theorem tO{G:Dh}{T:Tbl}{c:PC}{u:List PRes}{K I:D→St→Prop}(h:@wW G T c fr st ⟨@Gh u ⟨K⟩⟩)(J:∀ d st,K d st→I d st):@wW G T c fr st ⟨@Gh u ⟨I⟩⟩:=by
 refine Uu (I1 _ _ _ _ _ (G2 h) fun e E st' h=>?_)
 have fin:@on _ (Ea ⟨E,st'⟩ u) ⟨fun l=>K (D1 l) st'⟩→@on _ (Ea ⟨E,st'⟩ u) ⟨fun l=>I (D1 l) st'⟩:=by
  unfold on;grind
 cases e with
 |next=>rw[jU]at h ⊢; exact fin h
 |ret=>rw[gZ]at h ⊢; exact fin h
 |exit id=>unfold Gh at h; exact h.elim
 |panic t d=>unfold Gh at h; exact h.elim
theorem Xh(c:UInt8):Dj .eql (Da c) (.int .u8 0)=some (.bool (decide (c=0))):=by
 unfold Da;rw[XF]
 congr 2
 rw[decide_eq_decide];refine⟨fun h=>?_,fun h=>by subst h; rfl⟩;apply Cm.1;grind
theorem mv:ES 1 [.int .u8 0,.int .u8 0]=some (.slc 1 [.int .u8 0,.int .u8 0] true):=(rfl)
theorem LZ(n:Int):ES 1 [.int .u8 n]=some (.slc 1 [.int .u8 n] true):=(rfl)
theorem Rg:Da 48=.int .u8 48:=(rfl)
theorem Rf:Da 64=.int .u8 64:=(rfl)
theorem Vy:Da 0=.int .u8 0:=(rfl)
theorem lz:Da 255=.int .u8 255:=(rfl)
/- the bytes of a string,laid behind what is there -/
theorem pB(T:Tbl)(st1:St)(key:Nat)(E:key<st1.length)(U:StOK st1)(u B:List UInt8)(hl:u.length+(B.flatMap DJ).length≤4294967100)(fr:Frame)(Q:Ex→Frame→St→Prop)
  (h0:fr 0=.row key u.length 0 u.length) (h1:fr 23=.slc (nz 1 (B.map Da)) (B.map Da) false) (h6:fr 24=.int .i64 (B.length:Int)) (V:fr 25=.int .i64 0)
  (hQ:∀ J,J 0=.row key (u++B.flatMap DJ).length 0 (u++B.flatMap DJ).length→Q (.exit 1) J (DI st1 key (u++B.flatMap DJ))) :
  @wW GG T (.loop [0,23,24,25] Xb) fr (DI st1 key u) ⟨Q⟩:=by
 have hlen:=WZ st1 key;have N:∀ (fr:Frame) (m:List UInt8),restrict [0,23,24,25] (DI st1 key u).length ⟨fr,DI st1 key m⟩=⟨Fu (HV fr st1.length [] [0,23,24,25]),DI st1 key m⟩:=fun fr m=>by rw[S7 (Ok U key m) (by rw[hlen,hlen]),hlen]
 have hB:=YP B
 refine EP (fun i:Nat=>[(0,.row key (u++(B.take i).flatMap DJ).length 0 (u++(B.take i).flatMap DJ).length),(23,.slc (nz 1 (B.map Da)) (B.map Da) false),(24,.int .i64 (B.length:Int)),(25,.int .i64 (i:Int))])
  (fun i=>DI st1 key (u++(B.take i).flatMap DJ)) (fun i=>i≤B.length) (fun i=>B.length - i) 0 ?_ (by omega) ?_
 ·rw[N];simp (disch:=omega) only[push_cast,↓CI,h0,h1,h6,V,Mn] <;> rfl
 intro i hi;unfold Xb;simp (disch:=first|omega|decide) only[push_cast,↓reduceIte,CG];refine Fg (fun h2=>?_) (fun h2=>?_)
 ·have X:i<B.length:=by omega
  have Y:Fy (DI st1 key (u++(B.take i).flatMap DJ)) 1 (.slc (nz 1 (B.map Da)) (B.map Da) false) (.int .i64 (i:Int))=some (.eptr (Da (B.getD i default)) 0):=by
   have:=KA (DI st1 key (u++(B.take i).flatMap DJ)) 1 Da B false .i64 (i:Int) (by omega) (by omega);grind
  have a2:=I7 B X
  have a1:((B.take i).flatMap DJ).length+(DJ (B.getD i default)).length≤(B.flatMap DJ).length:=by
   have e:B=B.take (i+1)++B.drop (i+1):=(A8 _ _).symm;grind
  generalize a3:B.getD i default=c at*;have ac:1≤(DJ c).length:=by unfold DJ; split <;> simp
  have I:=fun x=>R7 (st:=st1) E (u++(B.take i).flatMap DJ) x (by rw[Ad]; omega) true
  have M:u++(B.take (i+1)).flatMap DJ=u++(B.take i).flatMap DJ++DJ c:=by
   grind
  by_cases O:c=0
  ·subst O;have aa:Dj .eql (Da 0) (.int .u8 0)=some (.bool true):=(rfl)
   have h3:=R7 (st:=st1) E (u++(B.take i).flatMap DJ++[0]) 255 (by
    grind) true
   rw[lz]at h3;simp (disch:=first|omega|decide) only[push_cast,↓reduceIte,CG,Y,MI,K6,KM,J4,LZ,I,aa,h3,DL,↓N,E];refine El (i+1) (by omega) (by omega) ?_;rw[M,show u++(B.take i).flatMap DJ++DJ 0=u++(B.take i).flatMap DJ++[0]++[255] by simp[DJ]]
   first | rfl | (simp only[push_cast,↓LC,↓reduceIte,CG,CL,CJ,CH,Nat.reduceSub,C4,Nat.reduceBEq,CO,C3,CT,CN,C0,CW,CV,CZ,↓CI] <;> rfl)
  ·simp (disch:=first|omega|decide) only[push_cast,↓reduceIte,CG,Y,MI,K6,KM,J4,I,Xh,O,decide_false,DL,↓N,E];refine El (i+1) (by omega) (by omega) ?_;rw[M,show u++(B.take i).flatMap DJ++DJ c=u++(B.take i).flatMap DJ++[c] by simp[DJ,O]]
   first | rfl | (simp only[push_cast,↓LC,↓reduceIte,CG,CL,CJ,CH,Nat.reduceSub,C4,Nat.reduceBEq,CO,C3,CT,CN,C0,CW,CV,CZ,↓CI] <;> rfl)
 ·obtain rfl:i=B.length:=by omega
  rw[AJ];simp (disch:=first|omega|decide) only[push_cast];exact hQ _ rfl
theorem uk{v:Val}{N:Nat}(u:StOK st)(E:Dx v<N)(I:l.length+(Df v).length≤4294967000)(J:l≠[])(M:st[key]?=some ⟨true,1,l.map Da,false⟩) :
  OK N [.row key l.length 0 l.length,C8 v] st=some (.row key (l++Df v).length 0 (l++Df v).length,st.set key ⟨true,1,(l++Df v).map Da,false⟩):=J7 (qz N) ⟨key,l,v,u,E,I,J,M,rfl,rfl⟩
theorem VX[Inhabited α](f:α→List UInt8)(L:List α)(h:i<L.length):((L.take i).flatMap f).length+(f (L.getD i default)).length≤(L.flatMap f).length:=by
 have e:L=L.take (i+1)++L.drop (i+1):=(A8 _ _).symm;have:=congrArg (fun l=>(l.flatMap f).length) e;simp only[List.flatMap_append,Ad,I7 L h,An,BK,Av]at this;omega
/- the values of a list,laid behind what is there -/
theorem pC(N:Nat)(st1:St)(key:Nat)(E:key<st1.length)(J:StOK st1)(u:List UInt8)(Y:u≠[])(L:List Val)(hd:Gl L<N)(hl:u.length+(L.flatMap Df).length≤4294967000)(fr:Frame)(Q:Ex→Frame→St→Prop)
  (h0:fr 0=.row key u.length 0 u.length) (h1:fr 46=.slc (nz 4 (L.map C8)) (L.map C8) false) (h6:fr 47=.int .i64 (L.length:Int)) (aa:fr 48=.int .i64 0)
  (hQ:∀ O,O 0=.row key (u++L.flatMap Df).length 0 (u++L.flatMap Df).length→Q (.exit 3) O (DI st1 key (u++L.flatMap Df))) :
  @wW GG (tb [] [(202,Ov),(190,OK N)]) (.loop [0,46,47,48] Xc) fr (DI st1 key u) ⟨Q⟩:=by
 have hlen:=WZ st1 key;have hB:=O4 L;have hR:∀ (fr:Frame) (m:List UInt8),restrict [0,46,47,48] (DI st1 key u).length ⟨fr,DI st1 key m⟩=⟨Fu (HV fr st1.length [] [0,46,47,48]),DI st1 key m⟩:=fun fr m=>by rw[S7 (Ok J key m) (by rw[hlen,hlen]),hlen]
 refine EP (fun i:Nat=>[(0,.row key (u++(L.take i).flatMap Df).length 0 (u++(L.take i).flatMap Df).length),(46,.slc (nz 4 (L.map C8)) (L.map C8) false),(47,.int .i64 (L.length:Int)),(48,.int .i64 (i:Int))])
  (fun i=>DI st1 key (u++(L.take i).flatMap Df)) (fun i=>i≤L.length) (fun i=>L.length - i) 0 ?_ (by omega) ?_
 ·rw[hR];simp (disch:=omega) only[push_cast,↓CI,h0,h1,h6,aa,Mn] <;> rfl
 intro i hi;unfold Xc;simp (disch:=first|omega|decide) only[push_cast,↓reduceIte,CG];refine Fg (fun h2=>?_) (fun h2=>?_)
 ·have I:i<L.length:=by omega
  have U:=Pp (DI st1 key (u++(L.take i).flatMap Df)) L false i I;have V:L.getD i default∈L:=by rw[Aj,Af I]; exact Bj I
  have ab:=Rz V;have ac:=VX Df L I;have ad:=I7 L I;obtain⟨x,ae⟩:∃ x,L.getD i default=x:=⟨_,rfl⟩;rw[ae]at U ad ab ac
  have a7:u++(L.take (i+1)).flatMap Df=u++(L.take i).flatMap Df++Df x:=by
   grind
  obtain⟨k,n,B,M,hC,hD⟩:=I8 x;have X:=Zi (Ok J key (u++(L.take i).flatMap Df)) k n B M false
  have hc:=uk (N:=N) (v:=x) (l:=u++(L.take i).flatMap Df) (key:=key) X (by omega) (by rw[Ad]; omega) (by simp[Y]) (by
   rw[Ao (by rw[hlen]; exact E)]; exact YN E _)
  rw[BR _ _ (by rw[hlen]; exact E),show(DI st1 key (u++(L.take i).flatMap Df)).set key ⟨true,1,(u++(L.take i).flatMap Df++Df x).map Da,false⟩=DI st1 key (u++(L.take i).flatMap Df++Df x)from p7 st1 key _ _,hD]at hc;rw[hD]at U
  have a0:∀ (fr:Frame) (m:List UInt8) (o:PI.Obj),(JV fr [0,46,47,48]).all (fun k=>decide (k<st1.length))=true→restrict [0,46,47,48] (DI st1 key u).length ⟨fr,DI st1 key m++[o]⟩=⟨Fu (HV fr st1.length [] [0,46,47,48]),DI st1 key m⟩:=fun fr m o h=>by
   rw[cB (Ok J key m) (by rw[hlen,hlen]) (fun k hk=>by rw[hlen]; exact of_decide_eq_true (Ag.1 h k hk)),hlen]
  simp (disch:=first | omega | decide | (simp only[push_cast,↓LC,↓reduceIte,CG,CL,CJ,CH,Nat.reduceSub,C4,Nat.reduceBEq,CO,C3,CT,CN,C0,CW,CV,CZ,↓CI,E]; done)) only[push_cast,↓reduceIte,CG,↓a0,U,Ps,Li,EG,Nw,Qd,HJ,hc,DL,E];refine El (i+1) (by omega) (by omega) ?_;grind
 ·obtain rfl:i=L.length:=by omega
  rw[AJ];simp (disch:=first|omega|decide) only[push_cast];exact hQ _ rfl
/- the whole -/
theorem mV(N:Nat)(st:St)(b:D)(l:List UInt8)(v:Val)(ae:StOK st)(hb:Km st b l)(hN:Dx v<N+1)(hl:l.length+(Df v).length≤4294967000) :
  @wW GG (tb [] [(202,Ov),(190,OK N)]) Tz.code (Db [b,C8 v]) st ⟨@Gh Tz.res ⟨fun d st'=>(d,st')=Np st b l v⟩⟩:=by
 unfold Tz Np;obtain⟨k,n,B,M,hC,hD⟩:=I8 v;have U:=Zi ae k n B M false;have O:=uf hb [⟨false,1,vC k n B M,false⟩];have ac:=EG st ⟨false,1,vC k n B M,false⟩
 cases v with
 |int m=>
  obtain⟨rfl,rfl,rfl,rfl⟩:=JJ ((Jr m).symm.trans hD);have hc:=qE m U O (by omega);rw[hD,hC,RB];generalize Hu (st++[⟨false,1,vC 1 m [] [],false⟩]) b l (E3 m)=r at*;obtain⟨r1,r2⟩:=r;simp (disch:=first|omega|decide) only[push_cast,↓reduceIte,CG,G9,HS,N3,EG,hc]
 |bytes m=>
  obtain⟨rfl,rfl,rfl,rfl⟩:=JJ ((Jt m).symm.trans hD);rw[NP]at hl;simp only[Al,Ad,Ap]at hl;rw[hD,hC,NP];obtain⟨key,st1,I,V,X,J,Y⟩:=aY O (m:=[48]) (by simp);have u:=OF O (m:=[48]) (by simp) (by simp; omega) true;rw[V]at u;simp only[Aq,A6,Rg]at u;have hm:=J (m.flatMap DJ++[0,0]);rw[show(48::(m.flatMap DJ++[0,0]):List UInt8)=[48]++(m.flatMap DJ++[0,0])from rfl,hm];have ab:=Y _ _ ac rfl (l++[48]);simp (disch:=first|omega|decide) only[push_cast,↓reduceIte,CG,G9,HS,LX,EG,Oi,LZ,u,ab];refine pB _ st1 key I (X U) (l++[48]) m (by simp only[Ad,Al,Ap]; omega) _ _ (by simp only[push_cast,↓reduceIte,CG]) (by simp only[push_cast,↓reduceIte,CG]) (by simp only[push_cast,↓reduceIte,CG]) (by simp only[push_cast,↓reduceIte]) fun af hf=>?_;have E:=gj (st:=st1) I (l++[48]++m.flatMap DJ) [0,0] (by simp) (by simp only[Ad,Al,Ap]; omega) true;simp only[Aq,A6,Vy]at E;simp (disch:=first|omega|decide) only[push_cast,↓reduceIte,CG,hf,mv,E];grind
 |list m=>
  obtain⟨rfl,rfl,rfl,rfl⟩:=JJ ((Kc m).symm.trans hD);rw[I6]at hl;rw[NH]at hN;simp only[Al,Ad,Ap]at hl;rw[hD,hC,I6];obtain⟨key,st1,I,V,X,J,Y⟩:=aY O (m:=[64]) (by simp);have u:=OF O (m:=[64]) (by simp) (by simp; omega) true;rw[V]at u;simp only[Aq,A6,Rf]at u;have hm:=J (m.flatMap Df++[0]);rw[show(64::(m.flatMap Df++[0]):List UInt8)=[64]++(m.flatMap Df++[0])from rfl,hm];have ab:=Y _ _ ac rfl (l++[64]);simp (disch:=first|omega|decide) only[push_cast,↓reduceIte,CG,G9,HS,IC,EG,QV,QU,LZ,u,ab];refine pC N st1 key I (X U) (l++[64]) (by simp) m (by omega) (by simp only[Ad,Al,Ap]; omega) _ _ (by simp only[push_cast,↓reduceIte,CG]) (by simp only[push_cast,↓reduceIte,CG]) (by simp only[push_cast,↓reduceIte,CG]) (by simp only[push_cast,↓reduceIte]) fun af hf=>?_;have E:=R7 (st:=st1) I (l++[64]++m.flatMap Df) 0 (by simp only[Ad,Al,Ap]; omega) true;simp only[Vy]at E;simp (disch:=first|omega|decide) only[push_cast,↓reduceIte,CG,hf,LZ,E];grind
theorem eM:∀ N:Nat,IContract Tryz.prog GG 190 (Y8 N)∧IContract Tryz.prog GG 190 (OK N)
 |0=>by
  have I:TblOK Tryz.prog GG (tb [] []):=Dy all_nil all_nil;refine⟨Ii TE I fun ds st r u=>?_,Ii TE I fun ds st r u=>?_⟩
  ·obtain⟨v,_,h,_⟩:=HF u;omega
  ·obtain⟨key,l,v,_,h,_⟩:=HF u;omega
 |N+1=>by
  have I:TblOK Tryz.prog GG (tb [] [(202,Ov),(190,OK N)]):=Dy all_nil (all_cons Ylf (all_cons (eM N).2 all_nil));refine⟨Ii TE I fun ds st r u=>?_,S6 TE I fun ds st r u=>?_⟩
  ·obtain⟨v,E,M,hl,rfl,rfl⟩:=HF u;exact mV N st _ [] v E (.inl ⟨rfl,rfl⟩) M (by simpa using hl)
  ·obtain⟨key,l,v,E,M,hl,O,hk,rfl,rfl⟩:=HF u;have J:=(Ab.1 hk).1;refine tO (mV N st _ l v E (.inr ⟨key,rfl,O,hk⟩) M hl) fun d st' h=>?_;simp only[Np,Hu,Dr]at h ⊢;obtain⟨rfl,rfl⟩:=h;refine⟨?_,?_⟩
   ·show GJ st.length (.row key _ 0 _)=_
    simp only[GJ,Gs,F5,Gr,J,if_true]
   ·rw[BR _ _ J];exact mS (E.set _ _ fun e=>by cases e) (by rw[BP])
theorem uj{v:Val}{N:Nat}(u:StOK st)(E:Dx v<N)(I:(Df v).length≤4294967000):Y8 N [.slc 0 [] true,C8 v] st=some (Np st (.slc 0 [] true) [] v):=J7 (qy N) ⟨v,u,E,I,rfl,rfl⟩
def IV(b:List UInt8):D:=.slc (nz 1 (b.map Da)) (b.map Da) false
def Gv(v:Val):List UInt8:=if(Df v).length≤65536 then Df v else []
def HN(v:Val):Int:=if(Df v).length≤65536 then 0 else 2
noncomputable def Wf:List D→Option D:=Dd (α:=Val) (fun v=>[C8 v]) (fun v=>Dx v≤16∧(Df v).length≤4294967000) (fun v=>.tup [IV (Gv v),.int .i64 (HN v)])
theorem wL(v:Val)(h:Dx v≤16∧(Df v).length≤4294967000):Wf [C8 v]=some (.tup [IV (Gv v),.int .i64 (HN v)]):=
 DG (fun a b h=>by simp only[Aa,and_true,KC]at h; rw[h]) v h
theorem Yeg:Contract Tryz.prog GG 167 Wf:=by
 refine DH (T:=tb [(189,RZ 17)] [(190,Y8 17)]) m9 (Dy (all_cons (eJ 17) all_nil) (all_cons (eM 17).1 all_nil)) ?_;rintro v ⟨X,hl⟩;unfold cn Gv HN;obtain⟨k,n,B,M,Y,J⟩:=I8 v;have O:=kD 17 v ⟨by omega,hl⟩;have E:=uj (N:=17) (st:=[⟨false,1,vC k n B M,false⟩]) (v:=v) (by have:=Zi StOK.nil k n B M false; simpa using this) (by omega) hl
 have U:Df v≠[]:=by
  intro e; have:=fV v; rw[e]at this; simp at this
 have hz:nz 1 ((Df v).map Da)=1:=by
  cases he:Df v with
  |nil=>exact absurd he U
  |cons a r=>rfl
 simp only[Np,Hu,At,AH,Al,Ap]at E;rw[J]at O E;rw[J];simp (disch:=first|omega|decide) only[push_cast,↓reduceIte,CG,G9,HJ,JW,Lo,O];have V:¬ ((16:Int)<(Dx v:Int)):=by omega
 simp (disch:=first|omega|decide) only[push_cast,↓reduceIte,CG,CH,V,decide_false,HJ,E]
 by_cases u:(Df v).length≤65536
 ·rw[if_pos u,if_pos u];have I:¬ ((65536:Int)<((Df v).length:Int)):=by omega
  simp (disch:=first|omega|decide) only[push_cast,↓reduceIte,CG,I,decide_false,IV]
 ·rw[if_neg u,if_neg u];have I:((65536:Int)<((Df v).length:Int)):=by omega
  simp (disch:=first|omega|decide) only[push_cast,↓reduceIte,CG,I,decide_true,IV]
def DV:Dig:=LA [112,97,100] []
noncomputable def Ox:List D→Option D:=Dd (α:=Unit) (fun _=>[]) (fun _=>True) (fun _=>C7 DV)
theorem VN:Ox []=some (C7 DV):=
 DG (fun _ _ _=>rfl) () trivial
set_option maxHeartbeats 4000000 in
set_option maxRecDepth 20000 in
theorem Yns:@wW GG (tb [(62,O0)] []) Tb.code (Db []) [] ⟨De Tb.res (C7 DV)⟩:=by
 unfold Tb;have c:O0 [.str [112,97,100],.slc 0 [] false]=some (C7 DV):=bk [112,97,100] [] (by decide);simp (disch:=omega) only[push_cast,↓reduceIte,CG,c]
theorem Xf:Contract Tryz.prog GG 20 Ox:=
 DH yx (Dy (all_cons gn all_nil) all_nil) (fun a h=>Yns )
noncomputable def Vb:List D→Option D:=Dd (α:=Unit) (fun _=>[]) (fun _=>True) (fun _=>C7 DV)
theorem iO:Vb []=some (C7 DV):=
 DG (fun _ _ _=>rfl) () trivial
set_option maxHeartbeats 4000000 in
set_option maxRecDepth 20000 in
theorem Ym5:@wW GG (tb [(102,Pf)] []) TR.code (Db []) [] ⟨De TR.res (C7 DV)⟩:=by
 unfold TR;have c:Pf [.str [112,97,100],.slc 0 [] false]=some (C7 DV):=bK [112,97,100] [] (by decide);simp (disch:=omega) only[push_cast,↓reduceIte,CG,c]
theorem mK:Contract Tryz.prog GG 51 Vb:=
 DH og (Dy (all_cons iN all_nil) all_nil) (fun a h=>Ym5 )
structure Ins where
 op:Int
 n:Int
 m:Int
 deriving DecidableEq,Inhabited
structure Sta where
 pc:Int
 fuel:Int
 status:Int
 clause:Int
 stack:List Int
 deriving DecidableEq,Inhabited
structure Opn where
 pc:Int
 fuel:Int
 status:Int
 clause:Int
 top:List Int
 depth:Int
 rest:Dig
 deriving DecidableEq
def Dz(x:Ins):List D:=[.int .i64 x.op,.int .i64 x.n,.int .i64 x.m]
def C5(x:Ins):D:=.agg (Dz x)
def Ed(l:List Int):D:=.slc (nz 1 (l.map nI)) (l.map nI) false
def DB(s:Sta):List D:=[.int .i64 s.pc,.int .i64 s.fuel,.int .i64 s.status,.int .i64 s.clause,Ed s.stack]
def Dk(s:Sta):D:=.agg (DB s)
def Fm(o:Opn):List D:=.int .i64 o.pc::.int .i64 o.fuel::.int .i64 o.status::.int .i64 o.clause::Ed o.top::.int .i64 o.depth::C6 o.rest
def Dv(o:Opn):D:=.agg (Fm o)
def DS(v:Int×List Int):List D:=.int .i64 v.1::v.2.map nI
def DQ(v:Int×List Int):D:=.agg (DS v)
theorem NI{a b:List Int}:Ed a=Ed b↔a=b:=by
 refine⟨fun h=>?_,fun h=>by rw[h]⟩;simp only[Ed,D.slc.injEq,and_true]at h;exact LG.1 h.2
theorem K0{a b:Ins}:C5 a=C5 b↔a=b:=by
 obtain⟨a1,u,E⟩:=a; obtain⟨b1,I,J⟩:=b;simp[C5,Dz]
theorem GA{a b:List Ins}:a.map C5=b.map C5↔a=b:=⟨Lx fun _ _=>K0.1,fun h=>by rw[h]⟩
theorem JP{a b:Sta}:Dk a=Dk b↔a=b:=by
 obtain⟨a1,u,E,I,J⟩:=a; obtain⟨b1,M,N,O,U⟩:=b;simp[Dk,DB,NI]
theorem KB{a b:Opn}:Dv a=Dv b↔a=b:=by
 obtain⟨a1,u,E,I,J,M,N⟩:=a; obtain⟨b1,O,U,V,X,Y,b7⟩:=b;simp[Dv,Fm,NI,RA]
theorem Gz{a b:Int×List Int}:DQ a=DQ b↔a=b:=by
 obtain⟨a1,u⟩:=a; obtain⟨b1,E⟩:=b;simp[DQ,DS,LG]
def IA(t:List UInt8)(v:Val):Dig:=LA t (Gv v)
def N7:List UInt8:=[112,114,111,103,114,97,109]
def Jw:List UInt8:=[105,110,112,117,116,115]
def Jv:List UInt8:=[115,116,97,99,107]
def Ij:List UInt8:=[115,116,97,116,101]
def lM(d:Dig)(x:Ins):Dig:=IA N7 (.list [.int x.op,.int x.n,.int x.m,.bytes d.bs])
def Ht(c:List Ins):Dig:=c.foldl lM DF
def GK(v:Int×List Int):Dig:=IA Jw (.list [.int v.1,.list (v.2.map .int)])
def lL(d:Dig)(n:Int):Dig:=IA Jv (.list [.int n,.bytes d.bs])
def Fx(d:Dig)(l:List Int):Dig:=l.foldl lL d
def Ib(c:List Ins)(v:Int×List Int)(o:Opn):Dig:=IA Ij (.list [.bytes (Ht c).bs,.bytes (GK v).bs,.int o.pc,.int o.fuel,.int o.status,.int o.clause,.int (o.depth+o.top.length),.bytes (Fx o.rest o.top).bs])
def JG(s:Sta)(n:Int):Nat:=s.stack.length - (min (max n 0) s.stack.length).toNat
def Fc(s:Sta)(n:Int):Opn:=⟨s.pc,s.fuel,s.status,s.clause,s.stack.drop (JG s n),JG s n,Fx DF (s.stack.take (JG s n))⟩
def DU(c:List Ins)(v:Int×List Int)(s:Sta):Dig:=Ib c v (Fc s s.stack.length)
def G6(c:List Ins)(v:Int×List Int)(o:Opn):Dig:=if o.depth<0∨64<o.depth then DF else Ib c v o
theorem sY(n:Int):(E3 n).length≤9:=by
 unfold E3
 split
 ·have:=LK 8 (Du n);simp only[Al,NU]; omega
 ·have:=LK 8 (Hs (Du n));simp only[Al,NU]; omega
theorem fW:∀ b:List UInt8,(b.flatMap DJ).length≤2*b.length
 |[]=>by simp
 |c::b=>by
  have:=fW b;have u:(DJ c).length≤2:=by unfold DJ; split <;> simp
  simp only[An,Ad,Al];omega
theorem IH(n:Int):(Df (.int n)).length≤9:=by rw[RB]; exact sY n
theorem LD(d:Dig):(Df (.bytes d.bs)).length≤67:=by
 have:=fW d.bs;rw[d.len]at this;rw[NP];simp only[Al,Ad,Ap];omega
theorem jd:∀ l:List Int,((l.map Val.int).flatMap Df).length≤9*l.length
 |[]=>by simp
 |n::l=>by
  have:=jd l;have:=IH n;simp only[Aq,An,Ad,Al];omega
theorem aT(st:St)(key:Nat):DD st (.bsl key 0 32 1 false)=(Q6 st[key]?).map fun p=>.slc (nz 1 p.2) p.2 false:=by
 rw[← bt];simp only[DD,G0,Gc]
 cases JI st key 0 32 1 false with
 |none=>rfl
 |some els=>
  dsimp only
  split <;> rfl
theorem J6(st:St)(v:Val):D4 st (C8 v)=some (C8 v):=by
 obtain⟨k,n,B,M,E,u⟩:=I8 v;rw[u,JW]
theorem Ka(v:Val):keys (C8 v)=[]:=by
 obtain⟨k,n,B,M,E,u⟩:=I8 v;rw[u,Lo]
theorem j4(v:Val):(C8 v).noRef=false:=by
 obtain⟨k,n,B,M,E,u⟩:=I8 v;rw[u]; rfl
theorem rC(v:Val):(C8 v).cells.length=4:=by
 obtain⟨k,n,B,M,E,u⟩:=I8 v;rw[u]; rfl
theorem RJ(l:List Val)(h:l.length≤1000):ES 4 (l.map C8)=some (.slc 4 (l.map C8) true):=by
 have u:((l.map C8).all fun e=>e.cells.length == 4)=true:=by
  rw[Ag];intro e he;obtain⟨v,_,rfl⟩:=AS.1 he;simp[rC]
 have E:decide ((l.map C8).length*4≤16777216)=true:=decide_eq_true (by rw[A2]; omega);simp only[ES,u,E];rfl
theorem I5:D0 (.agg [.int .i64 0,.int .i64 0,.int .i64 0])=some [.int .i64 0,.int .i64 0,.int .i64 0]:=(rfl)
theorem DX(x:Ins):D0 (C5 x)=some (Dz x):=(rfl)
theorem Kt(x:Ins):Eh (some ⟨false,1,[.int .i64 0,.int .i64 0,.int .i64 0],false⟩) 3 0 (C5 x)=some ⟨false,1,Dz x,false⟩:=(rfl)
theorem Eg(lent:Bool)(x:Ins):DY (some ⟨false,1,Dz x,lent⟩) 1 false 0=some (.int .i64 x.op):=(rfl)
theorem FH(lent:Bool)(x:Ins):DY (some ⟨false,1,Dz x,lent⟩) 1 false 1=some (.int .i64 x.n):=(rfl)
theorem JL(lent:Bool)(x:Ins):DY (some ⟨false,1,Dz x,lent⟩) 1 false 2=some (.int .i64 x.m):=(rfl)
theorem J3(lent:Bool)(x:Ins):DY (some ⟨false,1,Dz x,lent⟩) 3 true 0=some (C5 x):=(rfl)
theorem He(st:St)(x:Ins):EU st 3 true (.eptr (C5 x) 0)=some (C5 x):=(rfl)
theorem Lv(st:St)(x:Ins):D4 st (C5 x)=some (C5 x):=(rfl)
theorem OQ(x:Ins):keys (C5 x)=[]:=(rfl)
theorem J5(st:St)(c:List Ins)(t:Bool)(i:Nat)(h:i<c.length):Fy st 3 (.slc (nz 3 (c.map C5)) (c.map C5) t) (.int .i64 (i:Int))=some (.eptr (C5 (c.getD i default)) 0):=by
 have:=KA st 3 C5 c t .i64 (i:Int) (by omega) (by omega);simpa using this
theorem Nm(st:St)(c:List Int)(t:Bool)(i:Nat)(h:i<c.length):Fy st 1 (.slc (nz 1 (c.map nI)) (c.map nI) t) (.int .i64 (i:Int))=some (.eptr (nI (c.getD i default)) 0):=by
 have:=KA st 1 nI c t .i64 (i:Int) (by omega) (by omega);simpa using this
theorem IG(st:St)(n:Int):EU st 1 false (.eptr (nI n) 0)=some (.int .i64 n):=(rfl)
theorem gb(n:Int):Fi [.int .i64 0,.int .i64 0,.slc 0 [] true,.slc 0 [] true] [(0,1,.int .i64 1),(1,1,.int .i64 n)]=some [.int .i64 1,.int .i64 n,.slc 0 [] true,.slc 0 [] true]:=(rfl)
theorem fY(k:Nat):Fi [.int .i64 0,.int .i64 0,.slc 0 [] true,.slc 0 [] true] [(0,1,.int .i64 2),(2,1,.bsl k 0 32 1 false)]=some [.int .i64 2,.int .i64 0,.bsl k 0 32 1 false,.slc 0 [] true]:=(rfl)
theorem fZ(sz:Nat)(l:List D)(t:Bool):Fi [.int .i64 0,.int .i64 0,.slc 0 [] true,.slc 0 [] true] [(0,1,.int .i64 3),(3,1,.slc sz l t)]=some [.int .i64 3,.int .i64 0,.slc 0 [] true,.slc sz l t]:=(rfl)
theorem No(a b c d:D):Eh (some ⟨false,1,[.int .i64 0,.int .i64 0,.slc 0 [] true,.slc 0 [] true],false⟩) 4 0 (.agg [a,b,c,d])=if [a,b,c,d].all D.isCell then some ⟨false,1,[a,b,c,d],false⟩else none:=by
 simp only[Eh];rfl
theorem JB(lent:Bool)(a b c d:D):DY (some ⟨false,1,[a,b,c,d],lent⟩) 4 true 0=some (.agg [a,b,c,d]):=(rfl)
theorem fM(k o n s:Nat)(ag:Bool):(D.bsl k o n s ag).isCell=true:=(rfl)
noncomputable def Nz:List D→Option D:=Dd (α:=Int) (fun a=>[.int .i64 a]) (fun a=>True) (fun a=>C8 (.int a))
theorem O3(n:Int):Nz [.int .i64 n]=some (C8 (.int n)):=
 DG (fun a b h=>by simp only[Aa,D.int.injEq,true_and,and_true]at h; simp[h]) (n) trivial
theorem Ymg(n:Int):@wW GG (tb [] []) S4.code (Db [.int .i64 n]) [] ⟨De S4.res (C8 (.int n))⟩:=by
 unfold S4;rw[Jr];simp (disch:=first|omega|decide) only[push_cast,↓reduceIte,CG,Li,gb,No,JB];rfl
theorem Uz:Contract Tryz.prog GG 145 Nz:=
 DH yC (Dy all_nil all_nil) (fun a h=>Ymg a)
noncomputable def Oz:List D→Option D:=Dd (α:=Dig) (fun a=>[C7 a]) (fun a=>True) (fun a=>C8 (.bytes a.bs))
theorem VT(d:Dig):Oz [C7 d]=some (C8 (.bytes d.bs)):=
 DG (fun a b h=>by simp only[Aa,KR,and_true]at h; simp[h]) (d) trivial
theorem Ymm(d:Dig):@wW GG (tb [] []) SW.code (Db [C7 d]) [] ⟨De SW.res (C8 (.bytes d.bs))⟩:=by
 unfold SW;rw[Jt];simp (disch:=first|omega|decide) only[push_cast,↓reduceIte,CG,Li,aK,fY,No,JB,fM,aT];rfl
theorem Xi:Contract Tryz.prog GG 142 Oz:=
 DH x7 (Dy all_nil all_nil) (fun a h=>Ymm a)
noncomputable def KY:List D→Option D:=Dd (α:=List Val) (fun a=>[.slc (nz 4 (a.map C8)) (a.map C8) false]) (fun a=>True) (fun a=>C8 (.list a))
theorem Sb(l:List Val):KY [.slc (nz 4 (l.map C8)) (l.map C8) false]=some (C8 (.list l)):=
 DG (fun a b h=>by simp only[Aa,D.slc.injEq,and_true,Zn]at h; simp[h]) (l) trivial
theorem Ymh(l:List Val):@wW GG (tb [] []) Su.code (Db [.slc (nz 4 (l.map C8)) (l.map C8) false]) [] ⟨De Su.res (C8 (.list l))⟩:=by
 unfold Su;rw[Kc];simp (disch:=first|omega|decide) only[push_cast,↓reduceIte,CG,Li,fZ,No,JB];rfl
theorem Uy:Contract Tryz.prog GG 141 KY:=
 DH xD (Dy all_nil all_nil) (fun a h=>Ymh a)
noncomputable def Ny:List D→Option D:=Dd (α:=List UInt8×Val) (fun a=>[.str a.1,C8 a.2]) (fun a=>a.1.length≤1000∧Dx a.2≤16∧(Df a.2).length≤4294967000) (fun a=>C7 (IA a.1 a.2))
theorem Sa(t:List UInt8)(v:Val)(h:t.length≤1000∧Dx v≤16∧(Df v).length≤4294967000):Ny [.str t,C8 v]=some (C7 (IA t v)):=
 DG (fun⟨a0,a1⟩ ⟨b0,b1⟩ h=>by simp only[Aa,D.str.injEq,and_true,KC]at h; simp[h]) (t,v) h
theorem Ymj(t:List UInt8)(v:Val)(h:t.length≤1000∧Dx v≤16∧(Df v).length≤4294967000):@wW GG (tb [(167,Wf),(62,O0)] []) S3.code (Db [.str t,C8 v]) [] ⟨De S3.res (C7 (IA t v))⟩:=by
 unfold S3 IA;have u:=wL v h.2
 have hl:(Gv v).length≤65536:=by
  unfold Gv
  split
  ·assumption
  ·simp
 have I:=bk t (Gv v) (by omega);obtain⟨k,n,B,M,J,E⟩:=I8 v;rw[E]at u;rw[E];simp (disch:=first|omega|decide) only[push_cast,↓reduceIte,CG,G9,HJ,JW,Lo,u,IV,I]
theorem Ux:Contract Tryz.prog GG 140 Ny:=
 DH yB (Dy (all_cons Yeg (all_cons gn all_nil)) all_nil) (fun a h=>Ymj a.1 a.2 h)
theorem aC(c:List Ins)(x:Ins):Ht (c++[x])=lM (Ht c) x:=by unfold Ht; rw[Cw]; rfl
theorem iB(d:Dig)(x:Ins):N7.length≤1000∧Dx (.list [.int x.op,.int x.n,.int x.m,.bytes d.bs])≤16∧(Df (.list [.int x.op,.int x.n,.int x.m,.bytes d.bs])).length≤4294967000:=by
 have u:=IH x.op;have E:=IH x.n;have I:=IH x.m;have J:=LD d;refine⟨by decide,by simp[Dx,Gl],?_⟩;rw[I6];simp only[Al,Ad,Ap,An,BK];omega
theorem lW(a b c d:Val):ES 4 [C8 a,C8 b,C8 c,C8 d]=some (.slc 4 [C8 a,C8 b,C8 c,C8 d] true):=RJ [a,b,c,d] (by simp)
theorem QD(a b c d:Val):KY [.slc 4 [C8 a,C8 b,C8 c,C8 d] false]=some (C8 (.list [a,b,c,d])):=Sb [a,b,c,d]
theorem VF(a b:Val):ES 4 [C8 a,C8 b]=some (.slc 4 [C8 a,C8 b] true):=RJ [a,b] (by simp)
theorem lY(a b:Val):KY [.slc 4 [C8 a,C8 b] false]=some (C8 (.list [a,b])):=Sb [a,b]
theorem lX(a b c d e f g h:Val):ES 4 [C8 a,C8 b,C8 c,C8 d,C8 e,C8 f,C8 g,C8 h]=some (.slc 4 [C8 a,C8 b,C8 c,C8 d,C8 e,C8 f,C8 g,C8 h] true):=RJ [a,b,c,d,e,f,g,h] (by simp)
theorem QB(a b c d e f g h:Val):KY [.slc 4 [C8 a,C8 b,C8 c,C8 d,C8 e,C8 f,C8 g,C8 h] false]=some (C8 (.list [a,b,c,d,e,f,g,h])):=Sb [a,b,c,d,e,f,g,h]
noncomputable def YK:List D→Option D:=Dd (α:=List Ins) (fun a=>[.slc (nz 3 (a.map C5)) (a.map C5) false]) (fun a=>a.length≤4294967296) (fun a=>C7 (Ht a))
theorem rq(c:List Ins)(h:c.length≤4294967296):YK [.slc (nz 3 (c.map C5)) (c.map C5) false]=some (C7 (Ht c)):=
 DG (fun a b h=>by simp only[Aa,D.slc.injEq,and_true,GA]at h; simp[h]) (c) h
theorem Ymf(c:List Ins)(h:c.length≤4294967296):@wW GG (tb [(145,Nz),(142,Oz),(141,KY),(140,Ny)] []) Td.code (Db [.slc (nz 3 (c.map C5)) (c.map C5) false]) [] ⟨De Td.res (C7 (Ht c))⟩:=by
 unfold Td;simp (disch:=first|omega|decide) only[push_cast,↓reduceIte,CG]
 refine EP (fun i:Nat=>[(2,.ptr 0 0),(5,.slc (nz 3 (c.map C5)) (c.map C5) false),(6,.int .i64 (c.length:Int)),(7,.int .i64 (i:Int))])
  (fun i=>[⟨false,1,C6 (Ht (c.take i)),false⟩]) (fun i=>i≤c.length) (fun i=>c.length - i) 0 (by simp only[push_cast,↓reduceIte,CG,CL,CJ,↓CI] <;> rfl) (by omega) ?_
 intro i hi;unfold cJ;simp (disch:=first|omega|decide) only[push_cast,↓reduceIte,CG];refine Fg (fun N=>?_) (fun N=>?_)
 ·have u:i<c.length:=by omega
  have I:=J5 [⟨false,1,C6 (Ht (c.take i)),false⟩] c false i u;have E:=I7 c u;obtain⟨x,J⟩:∃ x,c.getD i default=x:=⟨_,rfl⟩;rw[J]at I E;have M:=Sa N7 (.list [.int x.op,.int x.n,.int x.m,.bytes (Ht (c.take i)).bs]) (iB _ _);simp only[N7]at M;simp (disch:=first|omega|decide) only[push_cast,↓reduceIte,CG,CL,CJ,CH,I,He,I5,Kt,Eg,FH,JL,O3,VT,J6,Ka,lW,QD,M,DL];refine El (i+1) (by omega) (by omega) ?_;rw[E,aC];simp only[push_cast] <;> rfl
 ·obtain rfl:i=c.length:=by omega
  rw[show(c.take c.length)=c from AJ];simp (disch:=first|omega|decide) only[push_cast,↓reduceIte,CG]
theorem zH:Contract Tryz.prog GG 143 YK:=
 DH mZ (Dy (all_cons Uz (all_cons Xi (all_cons Uy (all_cons Ux all_nil)))) all_nil) (fun a h=>Ymf a h)
theorem ay(d:Dig)(l:List Int)(n:Int):Fx d (l++[n])=lL (Fx d l) n:=by unfold Fx; rw[Cw]; rfl
theorem j5(d:Dig)(l m:List Int):Fx d (l++m)=Fx (Fx d l) m:=by unfold Fx; rw[Cw]
theorem gK(d:Dig)(n:Int):Jv.length≤1000∧Dx (.list [.int n,.bytes d.bs])≤16∧(Df (.list [.int n,.bytes d.bs])).length≤4294967000:=by
 have u:=IH n;have E:=LD d;refine⟨by decide,by simp[Dx,Gl],?_⟩;rw[I6];simp only[Al,Ad,Ap,An,BK];omega
noncomputable def R2:List D→Option D:=Dd (α:=Dig×List Int) (fun a=>[C7 a.1,.slc (nz 1 (a.2.map nI)) (a.2.map nI) false]) (fun a=>a.2.length≤4294967296) (fun a=>C7 (Fx a.1 a.2))
theorem kJ(d:Dig)(l:List Int)(h:l.length≤4294967296):R2 [C7 d,.slc (nz 1 (l.map nI)) (l.map nI) false]=some (C7 (Fx d l)):=
 DG (fun⟨a0,a1⟩ ⟨b0,b1⟩ h=>by simp only[Aa,D.slc.injEq,KR,and_true,LG]at h; simp[h]) (d,l) h
theorem Ygn(d:Dig)(l:List Int)(h:l.length≤4294967296):@wW GG (tb [(145,Nz),(142,Oz),(141,KY),(140,Ny)] []) Sv.code (Db [C7 d,.slc (nz 1 (l.map nI)) (l.map nI) false]) [] ⟨De Sv.res (C7 (Fx d l))⟩:=by
 unfold Sv;simp (disch:=first|omega|decide) only[push_cast,↓reduceIte,CG]
 refine EP (fun i:Nat=>[(2,.ptr 0 0),(4,.ptr 1 0),(7,.slc (nz 1 (l.map nI)) (l.map nI) false),(8,.int .i64 (l.length:Int)),(9,.int .i64 (i:Int))])
  (fun i=>[⟨false,1,C6 (Fx d (l.take i)),false⟩,⟨false,1,C6 DF,false⟩]) (fun i=>i≤l.length) (fun i=>l.length - i) 0 (by simp only[push_cast,↓reduceIte,CG,CL,CJ,CH,↓CI] <;> rfl) (by omega) ?_
 intro i hi;unfold bZ;simp (disch:=first|omega|decide) only[push_cast,↓reduceIte,CG];refine Fg (fun N=>?_) (fun N=>?_)
 ·have u:i<l.length:=by omega
  have I:=Nm [⟨false,1,C6 (Fx d (l.take i)),false⟩,⟨false,1,C6 DF,false⟩] l false i u;have E:=I7 l u;obtain⟨x,J⟩:∃ x,l.getD i default=x:=⟨_,rfl⟩;rw[J]at I E;have M:=Sa Jv (.list [.int x,.bytes (Fx d (l.take i)).bs]) (gK _ _);simp only[Jv]at M;simp (disch:=first|omega|decide) only[push_cast,↓reduceIte,CG,CL,CJ,CH,I,IG,O3,VT,J6,Ka,VF,lY,M,DL];refine El (i+1) (by omega) (by omega) ?_;rw[E,ay];simp only[push_cast] <;> rfl
 ·obtain rfl:i=l.length:=by omega
  rw[show(l.take l.length)=l from AJ];simp (disch:=first|omega|decide) only[push_cast,↓reduceIte,CG,CH]
theorem eD:Contract Tryz.prog GG 146 R2:=
 DH xE (Dy (all_cons Uz (all_cons Xi (all_cons Uy (all_cons Ux all_nil)))) all_nil) (fun a h=>Ygn a.1 a.2 h)
noncomputable def YL:List D→Option D:=Dd (α:=List Int) (fun a=>[.slc (nz 1 (a.map nI)) (a.map nI) false]) (fun a=>a.length≤4294967296) (fun a=>C7 (Fx DF a))
theorem ru(l:List Int)(h:l.length≤4294967296):YL [.slc (nz 1 (l.map nI)) (l.map nI) false]=some (C7 (Fx DF l)):=
 DG (fun a b h=>by simp only[Aa,D.slc.injEq,and_true,LG]at h; simp[h]) (l) h
theorem Yme(l:List Int)(h:l.length≤4294967296):@wW GG (tb [(146,R2)] []) SU.code (Db [.slc (nz 1 (l.map nI)) (l.map nI) false]) [] ⟨De SU.res (C7 (Fx DF l))⟩:=by
 unfold SU;have u:=kJ DF l h;simp (disch:=first|omega|decide) only[push_cast,↓reduceIte,CG,u]
theorem zJ:Contract Tryz.prog GG 96 YL:=
 DH yl (Dy (all_cons eD all_nil) all_nil) (fun a h=>Yme a h)
theorem ff(v:Int×List Int)(h:v.2.length=16):Jw.length≤1000∧Dx (.list [.int v.1,.list (v.2.map .int)])≤16∧(Df (.list [.int v.1,.list (v.2.map .int)])).length≤4294967000:=by
 have I:=IH v.1;have J:=jd v.2
 have u:∀ l:List Int,Gl (l.map .int)=0:=by
  intro l
  induction l with
  |nil=>simp[Gl]
  |cons a l E=>simp[Gl,Dx,E]
 refine⟨by decide,by simp[Dx,Gl,u],?_⟩;rw[I6];simp only[Al,Ad,Ap,An,BK,I6];omega
theorem OU(l:List Int):(l.map nI).all D.isCell=true:=So nI (fun _=>rfl) l
theorem MD(l:List Int):(l.map nI).all E7=true:=by
 rw[Ag];intro x u;obtain⟨n,_,rfl⟩:=AS.1 u;rfl
theorem OD(v:Int×List Int):DS v=(v.1::v.2).map nI:=(rfl)
theorem D9(v:Int×List Int):D0 (DQ v)=some (DS v):=by
 rw[show D0 (DQ v)=if(DS v).all D.isCell then some (DS v)else none from rfl,OD,if_pos (OU _)]
theorem F7(st:St)(v:Int×List Int):D4 st (DQ v)=some (DQ v):=Sj st (MD (v.1::v.2))
theorem H3(v:Int×List Int):keys (DQ v)=[]:=Pe (MD (v.1::v.2))
theorem UM(v:Int×List Int):(DS v).flatMap hk=[]:=OT (MD (v.1::v.2))
theorem U3(m:Nat)(σ:List Nat)(v:Int×List Int):(DS v).map (Eo m σ)=DS v:=Pd m σ (MD (v.1::v.2))
variable {v:Int×List Int}
theorem Fw(h:v.2.length=16)(sz:Nat)(lent:Bool):DY (some ⟨false,sz,DS v,lent⟩) 17 true 0=some (DQ v):=Lw sz lent _ 17 (by simp[DS,h])
theorem Nd(v:Int×List Int)(sz:Nat)(lent:Bool):DY (some ⟨false,sz,DS v,lent⟩) 1 false 0=some (.int .i64 v.1):=IM (A:=[]) (C:=v.2.map nI) rfl rfl
theorem Ypc(h:v.2.length=16)(sz:Nat)(lent:Bool):DY (some ⟨false,sz,DS v,lent⟩) 16 true 1=some (.agg (v.2.map nI)):=Ns (A:=[.int .i64 v.1]) (B:=v.2.map nI) (C:=[]) (by simp[DS]) rfl (by simp[h])
theorem Yjx(l:List Int)(i:Nat)(h:i<l.length):L1 l.length 1 false (.agg (l.map nI)) (.int .i64 (i:Int))=some (nI (l.getD i default)):=by
 have u:Fj (.int .i64 (i:Int))=some i:=by simp[Fj]
 simp only[L1,u,if_pos h,BH];refine sy (A:=(l.take i).map nI) (C:=(l.drop (i+1)).map nI) ?_ (by simp; omega);rw[← Aq,← A4]
 congr 1
 have:l=l.take i++l.drop i:=(A8 _ _).symm;rw[Bs h]at this;rw[Aj,Af h];exact this
theorem mu(a:Val):ES 4 [C8 a]=some (.slc 4 [C8 a] true):=RJ [a] (by simp)
theorem eU(l:List Int):hk (.agg (l.map nI))=[]:=Zj (MD l)
theorem gY(m:Nat)(σ:List Nat)(l:List Int):Eo m σ (.agg (l.map nI))=.agg (l.map nI):=NM m σ (MD l)
noncomputable def YJ:List D→Option D:=Dd (α:=(Int×List Int)) (fun a=>[DQ a]) (fun a=>a.2.length=16) (fun a=>C7 (GK a))
theorem rp(v:Int×List Int)(h:v.2.length=16):YJ [DQ v]=some (C7 (GK v)):=
 DG (fun a b h=>by simp only[Aa,and_true,Gz]at h; simp[h]) (v) h
theorem Ymi(v:Int×List Int)(h:v.2.length=16):@wW GG (tb [(145,Nz),(141,KY),(140,Ny)] []) S1.code (Db [DQ v]) [] ⟨De S1.res (C7 (GK v))⟩:=by
 unfold S1;have O:=Sa Jw (.list [.int v.1,.list (v.2.map .int)]) (ff v h);simp only[Jw]at O;simp (disch:=first|omega|decide) only[push_cast,↓reduceIte,CG,D9,Ypc h]
 refine EP (fun i:Nat=>[(1,.ptr 0 0),(2,.ptr 1 0),(3,DC 0 2 ((v.2.take i).map (C8 ∘ Val.int))),(7,.agg (v.2.map nI)),(8,.int .i64 (i:Int))])
  (fun i=>⟨false,1,DS v,false⟩::⟨false,1,C6 DF,false⟩::Di 4 ((v.2.take i).map (C8 ∘ Val.int))) (fun i=>i≤16) (fun i=>16 - i) 0 (by simp only[push_cast,↓reduceIte,CG,CL,CJ,CH,↓CI,UM,U3,eU,gY] <;> rfl) (by omega) ?_
 intro i hi;unfold cE;simp (disch:=first|omega|decide) only[push_cast,↓reduceIte,CG];refine Fg (fun U=>?_) (fun U=>?_)
 ·have I:i<v.2.length:=by omega
  have N:=Yjx v.2 i I;rw[h]at N;have J:=I7 v.2 I;obtain⟨x,M⟩:∃ x,v.2.getD i default=x:=⟨_,rfl⟩;rw[M,show nI x=.int .i64 x from rfl]at N;rw[M]at J;have E:=XW (f:=C8 ∘ Val.int) (sz:=4) (sz0:=0) (bytes:=64) (A:=v.2.take i) (x:=x) (t:=true) (a:=⟨false,1,DS v,false⟩) (b:=⟨false,1,C6 DF,false⟩) (hs0:=by decide) (hb:=by rw[As]; omega) (hl:=by rw[As]; omega);simp only[Function.comp_apply]at E;simp (disch:=first|omega|decide) only[push_cast,↓reduceIte,CG,CL,CJ,CH,N,O3,J6,Ka,mu,E,DL];refine El (i+1) (by omega) (by omega) ?_;rw[J];simp only[push_cast,UM,U3,eU,gY] <;> rfl
 ·obtain rfl:i=16:=by omega
  rw[show(v.2.take 16)=v.2 from AI (by omega)];have hb:D4 (⟨false,1,DS v,false⟩::⟨false,1,C6 DF,false⟩::Di 4 (v.2.map (C8 ∘ Val.int))) (DC 0 2 (v.2.map (C8 ∘ Val.int)))=some (.slc (nz 4 (v.2.map (C8 ∘ Val.int))) (v.2.map (C8 ∘ Val.int)) false):=Xl _ _ 4 0 _;have hl:=Sb (v.2.map Val.int);rw[Cs]at hl
  have u:v.2.map (C8 ∘ Val.int)≠[]:=by
   intro e;have:=congrArg List.length e;simp[h]at this
  rw[J8 _ _ _ u,JK _ _ u]at hb;simp (disch:=first|omega|decide) only[push_cast,↓reduceIte,CG,CH,CO,↓CI,J8 _ _ _ u,JK _ _ u,j4,Nd,O3,J6,Ka,hl,VF,lY,O];rfl
theorem zG:Contract Tryz.prog GG 144 YJ:=
 DH yz (Dy (all_cons Uz (all_cons Uy (all_cons Ux all_nil))) all_nil) (fun a h=>Ymi a h)
theorem Qm(st:St)(u:sz≠0)(els:List D)(t:Bool)(h:k≤els.length):FX st sz (.slc (nz sz els) els t) (some (.int .i64 (k:Int))) none none=some (.slc (nz sz els) (els.drop k) t):=by
 have E:((nz sz els == sz || els.isEmpty) && sz != 0)=true:=by
  cases els <;> simp[nz,u]
 have I:Fj (.int .i64 (k:Int))=some k:=by simp[Fj]
 simp only[FX,E,if_true,FJ,I];rw[if_pos ⟨h,Az _⟩,AJ,beq_self_eq_true,Ch]
theorem Qn(st:St)(u:sz≠0)(els:List D)(t:Bool)(h:k≤els.length):FX st sz (.slc (nz sz els) els t) none (some (.int .i64 (k:Int))) none=some (.slc (nz sz els) (els.take k) (t && k == els.length)):=by
 have E:((nz sz els == sz || els.isEmpty) && sz != 0)=true:=by
  cases els <;> simp[nz,u]
 have I:FJ (some (.int .i64 (k:Int))) els.length=some k:=by simp[FJ,Fj]
 simp only[FX,E,if_true,I];simp only[FJ];rw[if_pos ⟨Ba _,h⟩,Bp]
theorem Qo(st:St)(u:sz≠0)(els:List D)(t:Bool)(h:k≤els.length):FX st sz (.slc (nz sz els) els t) none (some (.int .i64 (k:Int))) (some (.int .i64 (k:Int)))=some (.slc (nz sz els) (els.take k) true):=by
 have E:((nz sz els == sz || els.isEmpty) && sz != 0)=true:=by
  cases els <;> simp[nz,u]
 have I:FJ (some (.int .i64 (k:Int))) els.length=some k:=by simp[FJ,Fj]
 have J:Fj (.int .i64 (k:Int))=some k:=by simp[Fj]
 simp only[FX,E,if_true,I,J];simp only[FJ];rw[if_pos (by simp[h]),Bp]
theorem pQ(s:Sta):(DB s).all D.isCell=true:=(rfl)
theorem En(s:Sta):D0 (Dk s)=some (DB s):=(rfl)
theorem EH:D0 (.agg [.int .i64 0,.int .i64 0,.int .i64 0,.int .i64 0,.slc 0 [] true])=some [.int .i64 0,.int .i64 0,.int .i64 0,.int .i64 0,.slc 0 [] true]:=(rfl)
theorem FA(st:St)(s:Sta):D4 st (Dk s)=some (Dk s):=by
 simp only[Dk,DB,Ed,D4,D3,DD,JX];rfl
theorem H4(s:Sta):keys (Dk s)=[]:=(rfl)
theorem F2(lent:Bool)(s:Sta):DY (some ⟨false,1,DB s,lent⟩) 1 false 0=some (.int .i64 s.pc):=(rfl)
theorem F9(lent:Bool)(s:Sta):DY (some ⟨false,1,DB s,lent⟩) 1 false 1=some (.int .i64 s.fuel):=(rfl)
theorem GI(lent:Bool)(s:Sta):DY (some ⟨false,1,DB s,lent⟩) 1 false 2=some (.int .i64 s.status):=(rfl)
theorem HC(lent:Bool)(s:Sta):DY (some ⟨false,1,DB s,lent⟩) 1 false 3=some (.int .i64 s.clause):=(rfl)
theorem FM(lent:Bool)(s:Sta):DY (some ⟨false,1,DB s,lent⟩) 1 false 4=some (Ed s.stack):=(rfl)
theorem E2(lent:Bool)(s:Sta):DY (some ⟨false,1,DB s,lent⟩) 5 true 0=some (Dk s):=(rfl)
theorem FN(s:Sta):Eh (some ⟨false,1,[.int .i64 0,.int .i64 0,.int .i64 0,.int .i64 0,.slc 0 [] true],false⟩) 5 0 (Dk s)=some ⟨false,1,DB s,false⟩:=(rfl)
theorem UT(s s':Sta):Eh (some ⟨false,1,DB s,false⟩) 5 0 (Dk s')=some ⟨false,1,DB s',false⟩:=(rfl)
theorem Ge(l:List Int):Ed l=.slc (nz 1 (l.map nI)) (l.map nI) false:=(rfl)
def Er(a b c d:Int)(t:D)(k:Int)(r:Dig):List D:=.int .i64 a::.int .i64 b::.int .i64 c::.int .i64 d::t::.int .i64 k::C6 r
theorem Hb(o:Opn):Fm o=Er o.pc o.fuel o.status o.clause (Ed o.top) o.depth o.rest:=(rfl)
theorem WB(a b c d:Int)(t:D)(k:Int)(r:Dig):(Er a b c d t k r).length=38:=by simp[Er,Fh]
variable {t:D}
theorem gL(a b c d:Int)(u:t.isCell=true)(k:Int)(r:Dig):(Er a b c d t k r).all D.isCell=true:=by
 simp only[Er,AU,u,Wx,A1];exact I4 (fun _=>rfl) r
theorem Ih:(D.int .i64 0::.int .i64 0::.int .i64 0::.int .i64 0::.slc 0 [] true::.int .i64 0::C6 DF)=Er 0 0 0 0 (.slc 0 [] true) 0 DF:=(rfl)
theorem l9(a b c d:Int)(u:t.isCell=true)(k:Int)(r:Dig):D0 (.agg (Er a b c d t k r))=some (Er a b c d t k r):=by
 rw[show D0 (.agg (Er a b c d t k r))=if(Er a b c d t k r).all D.isCell then some (Er a b c d t k r)else none from rfl,if_pos (gL a b c d u k r)]
theorem Gd(o:Opn):D0 (Dv o)=some (Fm o):=by
 rw[Dv,Hb,l9 _ _ _ _ rfl]
theorem Qe(a b c d u b' c' E:Int)(t:D){t':D}(J:t'.isCell=true)(k k':Int)(r I:Dig):Eh (some ⟨false,1,Er a b c d t k r,false⟩) 38 0 (.agg (Er u b' c' E t' k' I))=some ⟨false,1,Er u b' c' E t' k' I,false⟩:=
 Ly 1 _ _ 38 (WB ..) (WB ..) (gL _ _ _ _ J _ _)
theorem Jf(lent:Bool)(a b c d:Int)(t:D)(k:Int)(r:Dig):DY (some ⟨false,1,Er a b c d t k r,lent⟩) 38 true 0=some (.agg (Er a b c d t k r)):=Lw 1 lent _ 38 (WB ..)
theorem UG(lent:Bool)(a b c d:Int)(t:D)(k:Int)(r:Dig):DY (some ⟨false,1,Er a b c d t k r,lent⟩) 1 false 0=some (.int .i64 a):=IM (A:=[]) rfl rfl
theorem UH(lent:Bool)(a b c d:Int)(t:D)(k:Int)(r:Dig):DY (some ⟨false,1,Er a b c d t k r,lent⟩) 1 false 1=some (.int .i64 b):=IM (A:=[.int .i64 a]) rfl rfl
theorem PJ(lent:Bool)(a b c d:Int)(t:D)(k:Int)(r:Dig):DY (some ⟨false,1,Er a b c d t k r,lent⟩) 1 false 2=some (.int .i64 c):=IM (A:=[.int .i64 a,.int .i64 b]) rfl rfl
theorem UI(lent:Bool)(a b c d:Int)(t:D)(k:Int)(r:Dig):DY (some ⟨false,1,Er a b c d t k r,lent⟩) 1 false 3=some (.int .i64 d):=IM (A:=[.int .i64 a,.int .i64 b,.int .i64 c]) rfl rfl
theorem PK(lent:Bool)(a b c d:Int)(t:D)(k:Int)(r:Dig):DY (some ⟨false,1,Er a b c d t k r,lent⟩) 1 false 4=some t:=IM (A:=[.int .i64 a,.int .i64 b,.int .i64 c,.int .i64 d]) rfl rfl
theorem Ks(lent:Bool)(a b c d:Int)(t:D)(k:Int)(r:Dig):DY (some ⟨false,1,Er a b c d t k r,lent⟩) 1 false 5=some (.int .i64 k):=IM (A:=[.int .i64 a,.int .i64 b,.int .i64 c,.int .i64 d,t]) rfl rfl
theorem UJ(lent:Bool)(a b c d:Int)(t:D)(k:Int)(r:Dig):DY (some ⟨false,1,Er a b c d t k r,lent⟩) 32 true 6=some (C7 r):=Ns (A:=[.int .i64 a,.int .i64 b,.int .i64 c,.int .i64 d,t,.int .i64 k]) (B:=C6 r) (C:=[]) (by simp[Er]) rfl (Fh r)
theorem Yko(a b c d:Int)(u:t.cells=[t])(E:t.isCell=true)(k:Int)(r:Dig):Fi (Er 0 0 0 0 (.slc 0 [] true) 0 DF) [(0,1,.int .i64 a),(1,1,.int .i64 b),(2,1,.int .i64 c),(3,1,.int .i64 d),(4,1,t),(5,1,.int .i64 k),(6,32,C7 r)]=some (Er a b c d t k r):=by
 refine(II (cs:=Er 0 0 0 0 (.slc 0 [] true) 0 DF) (cs':=Er a 0 0 0 (.slc 0 [] true) 0 DF) (A:=[]) (B:=[.int .i64 0]) (xs:=[.int .i64 a]) rfl rfl rfl rfl rfl rfl rfl).trans ?_;refine(II (cs:=Er a 0 0 0 (.slc 0 [] true) 0 DF) (cs':=Er a b 0 0 (.slc 0 [] true) 0 DF) (A:=[.int .i64 a]) (B:=[.int .i64 0]) (xs:=[.int .i64 b]) rfl rfl rfl rfl rfl rfl rfl).trans ?_;refine(II (cs:=Er a b 0 0 (.slc 0 [] true) 0 DF) (cs':=Er a b c 0 (.slc 0 [] true) 0 DF) (A:=[.int .i64 a,.int .i64 b]) (B:=[.int .i64 0]) (xs:=[.int .i64 c]) rfl rfl rfl rfl rfl rfl rfl).trans ?_;refine(II (cs:=Er a b c 0 (.slc 0 [] true) 0 DF) (cs':=Er a b c d (.slc 0 [] true) 0 DF) (A:=[.int .i64 a,.int .i64 b,.int .i64 c]) (B:=[.int .i64 0]) (xs:=[.int .i64 d]) rfl rfl rfl rfl rfl rfl rfl).trans ?_;refine(II (cs:=Er a b c d (.slc 0 [] true) 0 DF) (cs':=Er a b c d t 0 DF) (A:=[.int .i64 a,.int .i64 b,.int .i64 c,.int .i64 d]) (B:=[.slc 0 [] true]) (xs:=[t]) rfl rfl rfl rfl u rfl (by simp[E])).trans ?_;refine(II (cs:=Er a b c d t 0 DF) (cs':=Er a b c d t k DF) (A:=[.int .i64 a,.int .i64 b,.int .i64 c,.int .i64 d,t]) (B:=[.int .i64 0]) (xs:=[.int .i64 k]) rfl rfl rfl rfl rfl rfl rfl).trans ?_;refine(II (cs:=Er a b c d t k DF) (cs':=Er a b c d t k r) (A:=[.int .i64 a,.int .i64 b,.int .i64 c,.int .i64 d,t,.int .i64 k]) (B:=C6 DF) (C:=[]) (xs:=C6 r) (by simp[Er]) (by simp[Er]) rfl (Fh _) rfl (Fh _) (I4 (fun _=>rfl) r)).trans ?_;rfl
theorem YT(a b c d:Int)(sz:Nat)(els:List D)(u:Bool)(k:Int)(r:Dig):Fi (Er 0 0 0 0 (.slc 0 [] true) 0 DF) [(0,1,.int .i64 a),(1,1,.int .i64 b),(2,1,.int .i64 c),(3,1,.int .i64 d),(4,1,.slc sz els u),(5,1,.int .i64 k),(6,32,C7 r)]=some (Er a b c d (.slc sz els u) k r):=Yko a b c d rfl rfl k r
theorem Ig(a b c d:Int)(sz:Nat)(els:List D)(u:Bool)(k:Int)(r:Dig):D0 (.agg (Er a b c d (.slc sz els u) k r))=some (Er a b c d (.slc sz els u) k r):=l9 a b c d rfl k r
theorem Ku(a b c d u b' c' E:Int)(t:D)(sz:Nat)(els:List D)(J:Bool)(k k':Int)(r I:Dig):Eh (some ⟨false,1,Er a b c d t k r,false⟩) 38 0 (.agg (Er u b' c' E (.slc sz els J) k' I))=some ⟨false,1,Er u b' c' E (.slc sz els J) k' I,false⟩:=Qe a b c d u b' c' E t rfl k k' r I
theorem KL(st:St)(a b c d:Int)(sz:Nat)(els:List D)(u:Bool)(k:Int)(r:Dig):D4 st (.agg (Er a b c d (.slc sz els u) k r))=some (.agg (Er a b c d (.slc (nz sz els) els false) k r)):=by
 simp only[Er,D4,jO,Zb,Zc,gq,Bl,Ae]
theorem Hv(st:St)(o:Opn):D4 st (Dv o)=some (Dv o):=by
 rw[Dv,Hb,Ge,KL,JX]
theorem LH(o:Opn):keys (Dv o)=[]:=by
 simp only[Dv,Fm,keys,An]
 show []++([]++([]++([]++([]++([]++_)))))=[]
 have:(C6 o.rest).flatMap Fp=[]:=gz o.rest;rw[this];rfl
theorem tY(c:List Ins)(v:Int×List Int)(o:Opn):Ij.length≤1000∧Dx (.list [.bytes (Ht c).bs,.bytes (GK v).bs,.int o.pc,.int o.fuel,.int o.status,.int o.clause,.int (o.depth+o.top.length),.bytes (Fx o.rest o.top).bs])≤16∧
  (Df (.list [.bytes (Ht c).bs,.bytes (GK v).bs,.int o.pc,.int o.fuel,.int o.status,.int o.clause,.int (o.depth+o.top.length),.bytes (Fx o.rest o.top).bs])).length≤4294967000:=by
 have u:=LD (Ht c);have E:=LD (GK v);have I:=LD (Fx o.rest o.top);have J:=IH o.pc;have M:=IH o.fuel;have N:=IH o.status;have O:=IH o.clause;have U:=IH (o.depth+o.top.length);refine⟨by decide,by simp[Dx,Gl],?_⟩;rw[I6];simp only[Al,Ad,Ap,An,BK];omega
noncomputable def Vi:List D→Option D:=Dd (α:=List Ins×(Int×List Int)×Opn) (fun a=>[.slc (nz 3 (a.1.map C5)) (a.1.map C5) false,DQ a.2.1,Dv a.2.2]) (fun a=>a.1.length≤4294967296∧a.2.1.2.length=16∧a.2.2.top.length≤4294967296∧0≤a.2.2.depth∧a.2.2.depth≤4294967296) (fun a=>C7 (Ib a.1 a.2.1 a.2.2))
theorem iV(c:List Ins)(v:Int×List Int)(o:Opn)(h:c.length≤4294967296∧v.2.length=16∧o.top.length≤4294967296∧0≤o.depth∧o.depth≤4294967296):Vi [.slc (nz 3 (c.map C5)) (c.map C5) false,DQ v,Dv o]=some (C7 (Ib c v o)):=
 DG (fun⟨a0,a1,u⟩ ⟨b0,b1,E⟩ h=>by simp only[Aa,D.slc.injEq,and_true,GA,KB,Gz]at h; simp[h]) (c,v,o) h
theorem Ymd(c:List Ins)(v:Int×List Int)(o:Opn)(h:c.length≤4294967296∧v.2.length=16∧o.top.length≤4294967296∧0≤o.depth∧o.depth≤4294967296):@wW GG (tb [(143,YK),(144,YJ),(146,R2),(145,Nz),(142,Oz),(141,KY),(140,Ny)] []) S0.code (Db [.slc (nz 3 (c.map C5)) (c.map C5) false,DQ v,Dv o]) [] ⟨De S0.res (C7 (Ib c v o))⟩:=by
 obtain⟨E,hv,I,O,U⟩:=h;unfold S0;have u:=Sa Ij _ (tY c v o);simp only[Ij]at u;have J:=rq c E;have M:=rp v hv;have N:=kJ o.rest o.top I;simp (disch:=first|omega|decide) only[push_cast,↓reduceIte,CG,CH,D9,Gd,Hb,Ge,Fw hv,F7,UG,UH,PJ,UI,PK,Ks,UJ,J,M,N,O3,VT,J6,Ka,DL,lX,QB,u];rfl
theorem mQ:Contract Tryz.prog GG 94 Vi:=
 DH yb (Dy (all_cons zH (all_cons zG (all_cons eD (all_cons Uz (all_cons Xi (all_cons Uy (all_cons Ux all_nil))))))) all_nil) (fun a h=>Ymd a.1 a.2.1 a.2.2 h)
theorem mD(st:St)(l:List Int)(t:Bool)(h:k≤l.length):FX st 1 (.slc (nz 1 (l.map nI)) (l.map nI) t) (some (.int .i64 (k:Int))) none none=some (.slc (nz 1 (l.map nI)) ((l.drop k).map nI) t):=by
 rw[Qm st (by decide) (l.map nI) t (by simpa using h),Ci]
theorem Xt(st:St)(l:List Int)(h:k≤l.length):FX st 1 (.slc (nz 1 (l.map nI)) (l.map nI) false) none (some (.int .i64 (k:Int))) none=some (.slc (nz 1 (l.map nI)) ((l.take k).map nI) false):=by
 rw[Qn st (by decide) (l.map nI) false (by simpa using h),B0]; rfl
theorem Yoc(st:St)(l:List Int)(t:Bool)(h:k≤l.length):FX st 1 (.slc (nz 1 (l.map nI)) (l.map nI) t) none (some (.int .i64 (k:Int))) (some (.int .i64 (k:Int)))=some (.slc (nz 1 (l.map nI)) ((l.take k).map nI) true):=by
 rw[Qo st (by decide) (l.map nI) t (by simpa using h),B0]
theorem Y1(s:Sta)(n:Int):JG s n≤s.stack.length:=Nat.sub_le _ _
theorem gM(s:Sta)(n:Int):(s.stack.length:Int) - min (max n 0) (s.stack.length:Int)=(JG s n:Int):=by unfold JG; omega
noncomputable def R3:List D→Option D:=Dd (α:=Sta×Int) (fun a=>[Dk a.1,.int .i64 a.2]) (fun a=>a.1.stack.length≤4294967296) (fun a=>Dv (Fc a.1 a.2))
theorem Sx(s:Sta)(n:Int)(h:s.stack.length≤4294967296):R3 [Dk s,.int .i64 n]=some (Dv (Fc s n)):=
 DG (fun⟨a0,a1⟩ ⟨b0,b1⟩ h=>by simp only[Aa,D.int.injEq,true_and,and_true,JP]at h; simp[h]) (s,n) h
theorem Ygm(s:Sta)(n:Int)(h:s.stack.length≤4294967296):@wW GG (tb [(96,YL)] []) Sr.code (Db [Dk s,.int .i64 n]) [] ⟨De Sr.res (Dv (Fc s n))⟩:=by
 unfold Sr;have hk:=Y1 s n;have u:=ru (s.stack.take (JG s n)) (by rw[As]; omega);have E:min (max n 0) (s.stack.length:Int)≤s.stack.length:=Int.min_le_right _ _;have I:0≤min (max n 0) (s.stack.length:Int):=by omega
 simp (disch:=first|omega|decide) only[push_cast,↓reduceIte,CG,En,Ih,Ig,F2,F9,GI,HC,FM,Ge,Ez,gM,mD,Xt,u,YT,Ku,Jf,KL,XT,XU];rfl
theorem eE:Contract Tryz.prog GG 42 R3:=
 DH xB (Dy (all_cons zJ all_nil) all_nil) (fun a h=>Ygm a.1 a.2 h)
noncomputable def Vh:List D→Option D:=Dd (α:=List Ins×(Int×List Int)×Sta) (fun a=>[.slc (nz 3 (a.1.map C5)) (a.1.map C5) false,DQ a.2.1,Dk a.2.2]) (fun a=>a.1.length≤4294967296∧a.2.1.2.length=16∧a.2.2.stack.length≤4294967296) (fun a=>C7 (DU a.1 a.2.1 a.2.2))
theorem VU(c:List Ins)(v:Int×List Int)(s:Sta)(h:c.length≤4294967296∧v.2.length=16∧s.stack.length≤4294967296):Vh [.slc (nz 3 (c.map C5)) (c.map C5) false,DQ v,Dk s]=some (C7 (DU c v s)):=
 DG (fun⟨a0,a1,u⟩ ⟨b0,b1,E⟩ h=>by simp only[Aa,D.slc.injEq,and_true,GA,JP,Gz]at h; simp[h]) (c,v,s) h
theorem Ymk(c:List Ins)(v:Int×List Int)(s:Sta)(h:c.length≤4294967296∧v.2.length=16∧s.stack.length≤4294967296):@wW GG (tb [(42,R3),(94,Vi)] []) Tc.code (Db [.slc (nz 3 (c.map C5)) (c.map C5) false,DQ v,Dk s]) [] ⟨De Tc.res (C7 (DU c v s))⟩:=by
 obtain⟨u,hv,E⟩:=h;unfold Tc;have I:=Sx s s.stack.length E;have hk:JG s s.stack.length=0:=by unfold JG; omega
 have hw:=iV c v (Fc s s.stack.length) ⟨u,hv,by simp only[Fc,AE]; omega,by simp only[Fc,hk]; omega,by simp only[Fc,hk]; omega⟩;simp (disch:=first|omega|decide) only[push_cast,↓reduceIte,CG,CH,D9,Fw hv,F7,En,E2,FM,Ge,FA,H4,I,Hv,hw];rfl
theorem mP:Contract Tryz.prog GG 49 Vh:=
 DH yy (Dy (all_cons eE (all_cons mQ all_nil)) all_nil) (fun a h=>Ymk a.1 a.2.1 a.2.2 h)
variable {o:Opn}{c:List Ins}
theorem iY(u:0≤o.depth)(E:o.depth≤64):G6 c v o=Ib c v o:=if_neg (by omega)
theorem iZ(u:o.depth<0):G6 c v o=DF:=if_pos (.inl u)
theorem iX(u:64<o.depth):G6 c v o=DF:=if_pos (.inr u)
noncomputable def YI:List D→Option D:=Dd (α:=List Ins×(Int×List Int)×Opn) (fun a=>[.slc (nz 3 (a.1.map C5)) (a.1.map C5) false,DQ a.2.1,Dv a.2.2]) (fun a=>a.1.length≤4294967296∧a.2.1.2.length=16∧a.2.2.top.length≤4294967296) (fun a=>C7 (G6 a.1 a.2.1 a.2.2))
theorem iU(c:List Ins)(v:Int×List Int)(o:Opn)(h:c.length≤4294967296∧v.2.length=16∧o.top.length≤4294967296):YI [.slc (nz 3 (c.map C5)) (c.map C5) false,DQ v,Dv o]=some (C7 (G6 c v o)):=
 DG (fun⟨a0,a1,u⟩ ⟨b0,b1,E⟩ h=>by simp only[Aa,D.slc.injEq,and_true,GA,KB,Gz]at h; simp[h]) (c,v,o) h
theorem Yml(c:List Ins)(v:Int×List Int)(o:Opn)(h:c.length≤4294967296∧v.2.length=16∧o.top.length≤4294967296):@wW GG (tb [(94,Vi)] []) SS.code (Db [.slc (nz 3 (c.map C5)) (c.map C5) false,DQ v,Dv o]) [] ⟨De SS.res (C7 (G6 c v o))⟩:=by
 obtain⟨I,hv,J⟩:=h;unfold SS
 by_cases u:o.depth<0
 ·rw[iZ u];simp (disch:=first|omega|decide) only[push_cast,↓reduceIte,CG,CH,D9,Gd,Hb,Ks,u]
 ·by_cases E:64<o.depth
  ·rw[iX E];simp (disch:=first|omega|decide) only[push_cast,↓reduceIte,CG,CH,D9,Gd,Hb,Ks,u,E]
  ·rw[iY (by omega) (by omega)];have hw:=iV c v o ⟨I,hv,J,by omega,by omega⟩;have hi:=fun st=>Hv st o;have hk:=LH o;rw[Dv,Hb]at hw hi hk;simp (disch:=first|omega|decide) only[push_cast,↓reduceIte,CG,CH,D9,Gd,Hb,Ks,u,E,Fw hv,F7,Jf,hi,hw]
theorem zF:Contract Tryz.prog GG 40 YI:=
 DH yk (Dy (all_cons mQ all_nil) all_nil) (fun a h=>Yml a.1 a.2.1 a.2.2 h)
end Go.Proofs.YtijnglngaogdjaaGreatDoor.PI
