/-
  tvm: the digests of programs, attributes, stacks and states.
  Conditions: none; these are lemmas.
-/
import Derived.Test.YtijnglngaogdjaaGreatDoorFns
import Derived.Test.YtijnglngaogdjaaGreatDoorEngS
import Derived.Test.YtijnglngaogdjaaGreatDoorSha
import Derived.WideKeyElems2
import Derived.LaidMore
import Derived.LaidHandle
import Derived.FnData
import Derived.KernelRfl
import Derived.Test.YtijnglngaogdjaaGreatDoorEngHe
set_option linter.unusedVariables false
set_option linter.unusedSimpArgs false
namespace Go.Proofs.YtijnglngaogdjaaGreatDoor.PI
open Go
set_option linter.unusedSimpArgs false
set_option linter.unusedVariables false
def binA:List (Int×Nat):=[(3,231),(4,232),(5,233),(6,234),(7,235),(8,236),(9,238),(10,239),(11,240)]
def GG:Glob:=fun n=>if n=0 then some (.gmap binA)else tabG 1 .u32 (Sha.K.map fun x=>(x.toNat:Int)) n
theorem GG_b:GG 0=some (.gmap binA):=rfl
theorem GG_k:GG 1=some (.agg (Sha.K.map wD)):=rfl
theorem and31(k:Int):pbin .and (.int .u64 (IntKind.wrap .u64 k)) (.int .u64 31)=some (.int .u64 ((k % 32).toNat:Int)):=by
 have h:(BitVec.ofInt (IntKind.bits .u64) (IntKind.wrap .u64 k) &&& BitVec.ofInt (IntKind.bits .u64) 31).toNat=(k % 32).toNat:=by
  show(BitVec.ofInt 64 (IntKind.wrap .u64 k) &&& BitVec.ofInt 64 31).toNat=_
  rw[BitVec.toNat_and,show(BitVec.ofInt 64 31).toNat=2 ^ 5 - 1 from rfl,Nat.and_two_pow_sub_one_eq_mod,BitVec.toNat_ofInt]
  simp[IntKind.wrap,IntKind.signed,IntKind.bits]
  omega
 simp only[pbin,if_true,yut,Option.map_some,h,ytb]
 congr 2
 omega
noncomputable def yLf:List D→Option D:=spOf (α:=UInt32×Int) (fun a=>[wD a.1,.int .i64 a.2]) (fun a=>-31≤a.2∧a.2≤-1) (fun a=>wD (Sha.rotr a.1 (-a.2).toNat))
theorem yKa(x:UInt32)(k:Int)(h:-31≤k∧k≤-1):yLf [wD x,.int .i64 k]=some (wD (Sha.rotr x (-k).toNat)):=
 yae (fun⟨a0,a1⟩ ⟨b0,b1⟩ h=>by simp only[List.cons.injEq,D.int.injEq,Yco,true_and,and_true]at h; simp[h]) (x,k) h
set_option maxHeartbeats 4000000 in
set_option maxRecDepth 20000 in
theorem Yrd(x:UInt32)(k:Int)(h:-31≤k∧k≤-1):@wW GG (tb [] []) ycl.code (argF [wD x,.int .i64 k]) [] ⟨retQ ycl.res (wD (Sha.rotr x (-k).toNat))⟩:=by
 obtain⟨h1,h2⟩:=h
 have hs:∃ s:Nat,(k % 32).toNat=s∧0<s∧s<32∧(-k).toNat=32 - s:=⟨(k % 32).toNat,rfl,by omega,by omega,by omega⟩
 obtain⟨s,e1,e2,e3,e4⟩:=hs
 have e:pbin .sub (.int .u64 32) (.int .u64 (s:Int))=some (.int .u64 ((32 - s:Nat):Int)):=by
  simp only[pbin,if_true,yhm,Option.map_some]
  rw[show(32 - (s:Int))=((32 - s:Nat):Int) by omega,ytb,Nat.mod_eq_of_lt (by omega)]
 have hc:∀ st,yde st (.int .u64) (.int .i64 k)=some (.int .u64 (IntKind.wrap .u64 k)):=fun _=>rfl
 have e5:Sha.rotr x (32 - s)=x <<< UInt32.ofNat s ||| x >>> UInt32.ofNat (32 - s):=by
  unfold Sha.rotr
  rw[show 32 - (32 - s)=s by omega,UInt32.or_comm]
 unfold ycl
 simp only[push_cast,↓reduceIte,Nat.reduceEqDiff,hc,and31,e1,e,Ysl _ _ _ e3,Ysh x .u64 (32 - s) (by omega),or_w,e4,e5]
theorem Yvl:Contract Tryz.prog GG 187 yLf:=
 yac yl3 (yan all_nil all_nil) (fun a h=>Yrd a.1 a.2 h)
def schZ(b:List UInt8)(i:Nat):List UInt32:=Sha.sch b i++List.replicate (64 - i) 0
theorem yy9(b:List UInt8)(i:Nat)(h:i≤64):(schZ b i).length=64:=by
 simp[schZ,Sha.sch_length]; omega
theorem Ydz(b:List UInt8)(i j:Nat)(h:j<i):(schZ b i).getD j default=(Sha.sch b i).getD j 0:=by
 have h2:j<(Sha.sch b i).length:=by rw[Sha.sch_length]; exact h
 simp[schZ,List.getD_eq_getElem?_getD,List.getElem?_append_left h2,h2]
theorem yOc(b:List UInt8)(i:Nat)(v:UInt32)(h:i<64)(hv:Sha.sch b (i+1)=Sha.sch b i++[v]):(schZ b i).set i v=schZ b (i+1):=by
 have h2:(Sha.sch b i).length=i:=Sha.sch_length b i
 unfold schZ
 rw[hv,List.set_append_right _ _ (by omega),h2,Nat.sub_self,show 64 - i=(64 - (i+1))+1 by omega,List.replicate_succ,List.set_cons_zero,List.append_assoc]
 rfl
theorem Ysn(b:List UInt8)(i:Nat)(h:i<16):Sha.sch b (i+1)=Sha.sch b i++[Sha.word b i]:=by
 simp[Sha.sch,h]
theorem Yso(b:List UInt8)(i:Nat)(h:16≤i):Sha.sch b (i+1)=Sha.sch b i++[(Sha.sch b i).getD (i - 16) 0+Sha.sig0 ((Sha.sch b i).getD (i - 15) 0)+(Sha.sch b i).getD (i - 7) 0+Sha.sig1 ((Sha.sch b i).getD (i - 2) 0)]:=by
 simp[Sha.sch,Nat.not_lt.2 h]
theorem add8(s t:Sha.St8)(i:Nat)(h:i<8):(((s.add t).list.take i++s.list.drop i).set i (((s.add t).list.take i++s.list.drop i).getD i default+t.list.getD i default))=(s.add t).list.take (i+1)++s.list.drop (i+1):=by
 rcases i with _ | _ | _ | _ | _ | _ | _ | _ | i <;> first | rfl | omega
noncomputable def yEj:List D→Option D:=spOf (α:=Sha.St8×List UInt8) (fun a=>[.agg (Sha.St8.list a.1 |>.map wD),.slc (nz 1 (a.2.map yaf)) (a.2.map yaf) false]) (fun a=>a.2.length=64) (fun a=>.agg ((Sha.block a.1 a.2).list.map wD))
theorem yDi(s:Sha.St8)(b:List UInt8)(h:b.length=64):yEj [.agg (Sha.St8.list s |>.map wD),.slc (nz 1 (b.map yaf)) (b.map yaf) false]=some (.agg ((Sha.block s b).list.map wD)):=
 yae (fun⟨a0,a1⟩ ⟨b0,b1⟩ h=>by simp only[List.cons.injEq,D.slc.injEq,D.agg.injEq,yKh,yUu,Sha.St8.list_iff,and_true]at h; simp[h]) (s,b) h
set_option maxHeartbeats 4000000 in
set_option maxRecDepth 20000 in
theorem Ykr(s:Sha.St8)(b:List UInt8)(h:b.length=64):@wW GG (tb [(187,yLf)] []) yij.code (argF [.agg (Sha.St8.list s |>.map wD),.slc (nz 1 (b.map yaf)) (b.map yaf) false]) [] ⟨retQ yij.res (.agg ((Sha.block s b).list.map wD))⟩:=by
 unfold yij
 simp only[push_cast,Nat.reduceAdd]
 refine ybr (fun i:Nat=>[(1,.slc (nz 1 (b.map yaf)) (b.map yaf) false),(2,.ptr 0 0),(4,.ptr 1 0),(5,.ptr 2 0),(19,.int .i64 (i:Int))])
  (fun i=>[⟨false,1,s.list.map wD,false⟩,⟨false,1,(zW 8).map wD,false⟩,⟨false,1,(schZ b i).map wD,false⟩]) (fun i=>i≤16) (fun i=>16 - i) 0 (by simp only[push_cast,↓reduceIte,Nat.reduceEqDiff,Nat.reduceLT,Nat.reduceLeDiff,Nat.reduceAdd,↓Int.reduceNatCast'] <;> rfl) (by omega) ?_
 intro i hi
 unfold ync
 simp only[push_cast,↓reduceIte,Nat.reduceEqDiff]
 refine yai (fun h1=>?_) (fun h1=>?_)
 ·have h1':i<16:=by omega
  have e0:(4*(i:Int)).toNat=4*i:=by omega
  have e1:(4*(i:Int)+1).toNat=4*i+1:=by omega
  have e2:(4*(i:Int)+2).toNat=4*i+2:=by omega
  have e3:(4*(i:Int)+3).toNat=4*i+3:=by omega
  have hl:(schZ b i).length=64:=yy9 b i (by omega)
  have hw:=yOc b i (Sha.word b i) (by omega) (Ysn b i h1')
  simp (disch:=omega) only[push_cast,↓reduceIte,Nat.reduceEqDiff,Nat.reduceLT,Nat.reduceLeDiff,Nat.reduceAdd,Int.reduceToNat,yBt,yaz,yi6,Yo9,Ysk,or_w,yk9,e0,e1,e2,e3]
  refine yaj (i+1) (by omega) (by omega) ?_
  rw[← hw]
  simp only[push_cast] <;> rfl
 ·obtain rfl:i=16:=by omega
  simp only[push_cast,↓reduceIte,Nat.reduceAdd,Int.reduceLT,↓Int.reduceNatCast']
  refine ybr (fun i:Nat=>[(2,.ptr 0 0),(4,.ptr 1 0),(5,.ptr 2 0),(7,.int .i64 (i:Int))])
   (fun i=>[⟨false,1,s.list.map wD,false⟩,⟨false,1,(zW 8).map wD,false⟩,⟨false,1,(schZ b i).map wD,false⟩]) (fun i=>16≤i∧i≤64) (fun i=>64 - i) 16 (by simp only[push_cast,↓reduceIte,Nat.reduceEqDiff,Nat.reduceLT,Nat.reduceLeDiff,Nat.reduceAdd,↓Int.reduceNatCast'] <;> rfl) (by omega) ?_
  intro i hi
  unfold ynb
  simp only[push_cast,↓reduceIte,Nat.reduceEqDiff,Int.reduceNeg]
  refine yai (fun h2=>?_) (fun h2=>?_)
  ·have hl:(schZ b i).length=64:=yy9 b i (by omega)
   have hw:=yOc b i _ (by omega) (Yso b i (by omega))
   have e0:((i:Int) - 15).toNat=i - 15:=by omega
   have e1:((i:Int) - 2).toNat=i - 2:=by omega
   have e2:((i:Int) - 16).toNat=i - 16:=by omega
   have e3:((i:Int) - 7).toNat=i - 7:=by omega
   simp (disch:=omega) only[push_cast,↓reduceIte,Nat.reduceEqDiff,Nat.reduceLT,Nat.reduceLeDiff,Nat.reduceAdd,Int.reduceToNat,Int.reduceNeg,ydy,yaz,yk9,yKa,Yqy,Yi8,Yqm,e0,e1,e2,e3,Ydz]
   refine yaj (i+1) (by omega) (by omega) ?_
   rw[← hw]
   simp only[push_cast] <;> rfl
  ·obtain rfl:i=64:=by omega
   have hs64:schZ b 64=Sha.sch b 64:=by simp[schZ]
   have hl:(Sha.sch b 64).length=64:=Sha.sch_length b 64
   have hs8:s.list.length=8:=rfl
   have hz8:(zW 8).length=8:=rfl
   simp (disch:=first | omega | rfl) only[push_cast,↓reduceIte,Nat.reduceEqDiff,Nat.reduceAdd,Int.reduceLT,Int.reduceNeg,↓Int.reduceNatCast',hs64]
   refine ybr (fun i:Nat=>[(2,.ptr 0 0),(4,.ptr 1 0),(5,.ptr 2 0),(12,.ptr 3 0),(102,.int .i64 (i:Int))])
    (fun i=>[⟨false,1,s.list.map wD,false⟩,⟨false,1,(zW 8).map wD,false⟩,⟨false,1,(Sha.sch b 64).map wD,false⟩,⟨false,1,(Sha.rounds (Sha.sch b 64) s i).list.map wD,false⟩]) (fun i=>i≤64) (fun i=>64 - i) 0 (by simp only[push_cast,↓reduceIte,Nat.reduceEqDiff,Nat.reduceLT,Nat.reduceLeDiff,Nat.reduceAdd,↓Int.reduceNatCast'] <;> rfl) (by omega) ?_
   intro i hi
   unfold yna
   simp only[push_cast,↓reduceIte,Nat.reduceEqDiff,Int.reduceNeg]
   refine yai (fun h3=>?_) (fun h3=>?_)
   ·have hK:Sha.K.length=64:=rfl
    have hn:Sha.rounds (Sha.sch b 64) s (i+1)=Sha.round (Sha.rounds (Sha.sch b 64) s i) (Sha.K.getD i 0) ((Sha.sch b 64).getD i 0):=rfl
    generalize Sha.rounds (Sha.sch b 64) s i=r at hn
    simp (disch:=omega) only[push_cast,↓reduceIte,Nat.reduceEqDiff,Nat.reduceLT,Nat.reduceLeDiff,Nat.reduceAdd,Int.reduceToNat,Int.reduceNeg,Sha.St8.list,yk9,yZf,ypb _ _ _ _ GG_k,yKa,Yqy,and_w,not_w,Yqm,yaz]
    refine yaj (i+1) (by omega) (by omega) ?_
    rw[hn]
    rfl
   ·obtain rfl:i=64:=by omega
    have hb:Sha.block s b=s.add (Sha.rounds (Sha.sch b 64) s 64):=rfl
    rw[hb]
    generalize Sha.rounds (Sha.sch b 64) s 64=r
    simp only[push_cast,↓reduceIte,Nat.reduceAdd,Int.reduceLT,Int.reduceNeg,↓Int.reduceNatCast']
    refine ybr (fun i:Nat=>[(2,.ptr 0 0),(4,.ptr 1 0),(12,.ptr 3 0),(182,.int .i64 (i:Int))])
     (fun i=>[⟨false,1,((s.add r).list.take i++s.list.drop i).map wD,false⟩,⟨false,1,(zW 8).map wD,false⟩,⟨false,1,(Sha.sch b 64).map wD,false⟩,⟨false,1,r.list.map wD,false⟩]) (fun i=>i≤8) (fun i=>8 - i) 0 (by simp only[push_cast,↓reduceIte,Nat.reduceEqDiff,Nat.reduceLT,Nat.reduceLeDiff,Nat.reduceAdd,↓Int.reduceNatCast'] <;> rfl) (by omega) ?_
    intro i hi
    have hl1:((s.add r).list.take i++s.list.drop i).length=8:=by
     simp only[List.length_append,List.length_take,List.length_drop,Sha.St8.list_length]; omega
    have hl2:r.list.length=8:=rfl
    unfold ym9
    simp only[push_cast,↓reduceIte,Nat.reduceEqDiff]
    refine yai (fun h4=>?_) (fun h4=>?_)
    ·have ha:=add8 s r i (by omega)
     simp (disch:=omega) only[push_cast,↓reduceIte,Nat.reduceEqDiff,Nat.reduceLT,Nat.reduceLeDiff,Nat.reduceAdd,yk9,Yqm,yaz]
     refine yaj (i+1) (by omega) (by omega) ?_
     rw[← ha]
     simp only[push_cast] <;> rfl
    ·obtain rfl:i=8:=by omega
     have e8:(s.add r).list.take 8++s.list.drop 8=(s.add r).list:=rfl
     have hl3:(s.add r).list.length=8:=rfl
     simp (disch:=first | omega | rfl) only[push_cast,↓reduceIte,Nat.reduceEqDiff,Nat.reduceAdd,Int.reduceLT,↓Int.reduceNatCast',e8]
theorem Ypw:Contract Tryz.prog GG 159 yEj:=
 yac yyo (yan (all_cons Yvl all_nil) all_nil) (fun a h=>Ykr a.1 a.2 h)
end Go.Proofs.YtijnglngaogdjaaGreatDoor.PI
namespace Go.Proofs.YtijnglngaogdjaaGreatDoor.PI
open Go Go.WideElems
set_option linter.unusedSimpArgs false
set_option linter.unusedVariables false
def binsD:DataW Unit:=.map [(.int .i64 3,.agg [.iface "func" (.lit (.string [119,97,103,111,110,112,111,111,108,47,109,111,110,101,121,46,65,100,100]))]),(.int .i64 4,.agg [.iface "func" (.lit (.string [119,97,103,111,110,112,111,111,108,47,109,111,110,101,121,46,83,117,98]))]),(.int .i64 5,.agg [.iface "func" (.lit (.string [119,97,103,111,110,112,111,111,108,47,109,111,110,101,121,46,77,117,108]))]),(.int .i64 6,.agg [.iface "func" (.lit (.string [119,97,103,111,110,112,111,111,108,47,116,118,109,46,98,105,110,97,114,105,101,115,36,49]))]),(.int .i64 7,.agg [.iface "func" (.lit (.string [119,97,103,111,110,112,111,111,108,47,116,118,109,46,98,105,110,97,114,105,101,115,36,50]))]),(.int .i64 8,.agg [.iface "func" (.lit (.string [119,97,103,111,110,112,111,111,108,47,116,118,109,46,98,105,110,97,114,105,101,115,36,51]))]),(.int .i64 9,.agg [.iface "func" (.lit (.string [119,97,103,111,110,112,111,111,108,47,116,118,109,46,98,105,110,97,114,105,101,115,36,52]))]),(.int .i64 10,.agg [.iface "func" (.lit (.string [119,97,103,111,110,112,111,111,108,47,116,118,109,46,98,105,110,97,114,105,101,115,36,53]))]),(.int .i64 11,.agg [.iface "func" (.lit (.string [119,97,103,111,110,112,111,111,108,47,116,118,109,46,98,105,110,97,114,105,101,115,36,54]))])]
theorem gB:Tryz.prog.globalNamed "wagonpool/tvm.binaries"=some 0:=by kernel_rfl
theorem tB:(Tryz.prog.globals[0]?).map (·.type)=some 198:=by kernel_rfl
theorem u144:Tryz.prog.underlying 198=some (.map 3 196):=by kernel_rfl
theorem u3:Tryz.prog.underlying 3=some (.int .i64):=by kernel_rfl
def stB1:Option TypeDesc→Bool
 |some (.struct fs)=>match fs.toList with
  |[f]=>f.offset == 0 && f.type == 194
  |_=>false
 |_=>false
def fnB1:Option TypeDesc→Bool
 |some (.func _ _ _)=>true
 |_=>false
theorem u142b:stB1 (Tryz.prog.underlying 196)=true:=by kernel_rfl
theorem u140b:fnB1 (Tryz.prog.underlying 194)=true:=by kernel_rfl
theorem u142:∃ f,Tryz.prog.underlying 196=some (.struct #[f])∧f.offset=0∧f.type=194:=by
 have h:=u142b
 unfold stB1 at h
 split at h
 ·rename_i fs hu
  split at h
  ·rename_i f hf
   simp only[Bool.and_eq_true,beq_iff_eq]at h
   have e:fs=#[f]:=Array.ext' hf
   subst e
   exact⟨f,hu,h.1,h.2⟩
  ·cases h
 ·cases h
theorem c142:Tryz.prog.cellsOf 196=1:=by kernel_rfl
theorem c140:Tryz.prog.cellsOf 194=1:=by kernel_rfl
theorem u140:∃ ps rs va,Tryz.prog.underlying 194=some (.func ps rs va):=by
 have h:=u140b
 unfold fnB1 at h
 split at h
 ·rename_i ps rs va hu; exact⟨ps,rs,va,hu⟩
 ·cases h
theorem Ytw{P:Program}{t:TypeId}{v:Value}{k:Int}{kd:IntKind}(hu:P.underlying t=some (.int kd))(h:keyOf P t v=some (.int kd k)):v=.int kd k:=by
 unfold keyOf mapKey at h
 rw[hu]at h
 simp only at h
 split at h
 ·rename_i h1; cases h1
 ·rename_i h1; simp only[Option.some.injEq,TypeDesc.int.injEq]at h1; subst h1
  split at h
  ·simp only[Option.some.injEq,Lit.int.injEq]at h
   rename_i hq
   rw[← hq.1,h.2]
  ·cases h
 ·rename_i h1; cases h1
 ·cases h
theorem yYs{v:Value}{k:Int}(h:keyOf Tryz.prog 3 v=some (.int .i64 k)):v=.int .i64 k:=Ytw u3 h
theorem yJm{k:Int}{f:Nat}:∀ {l:List (Int×Nat)},yel k l=some f→k∈l.map (·.1)
 |[],h=>by cases h
 |p::r,h=>by
  unfold yel at h
  split at h
  ·rename_i e; simp[e]
  ·exact List.mem_cons_of_mem _ (yJm h)
set_option maxRecDepth 20000 in
theorem yob{W:World}{n:Nat}{e:MapEntry}{k:Int}{b:UInt8}{r:List UInt8}{f0:FuncId}(hone:((List.range Tryz.prog.funcs.size).filter fun f=>(Tryz.prog.funcs[f]?).any (·.name.toUTF8.data.toList == b::r))=[f0])
  (h:rd Tryz.prog 3 (elemAt (funcToken Tryz.prog) Tryz.prog W 0 (fun _=>true) true n 196) e=some (.int .i64 k,.agg [.held (b::r)])):e.key=.int .i64 k∧e.val=.agg #[.func (.func f0) #[] #[]]:=by
 constructor
 ·exact yYs (rd_key h)
 ·obtain⟨z,hz,hz2⟩:=rd_val h
  obtain⟨z1,z2⟩:=z
  dsimp only at hz2
  subst hz2
  unfold elemAt at hz
  split at hz
  case isFalse=>cases hz
  rename_i hfm
  obtain⟨f,hu,ho,ht⟩:=u142
  obtain⟨ps,rs,va,hu4⟩:=u140
  cases n with
  |zero=>simp[DataW.trod]at hz
  |succ n=>
   unfold Value.formed at hfm
   rw[hu,c142]at hfm
   cases hv:e.val with
   |agg cs=>
    rw[hv]at hz hfm
    simp only[beq_iff_eq]at hfm
    obtain⟨v,rfl⟩:∃ v,cs=#[v]:=by
     obtain⟨l⟩:=cs
     match l,hfm with
     |[v],_=>exact⟨v,rfl⟩
    have hz':DataW.trod (funcToken Tryz.prog) Tryz.prog W 0 (fun _=>true) true (n+1) 196 [v]=some (.agg [.held (b::r)],z2):=hz
    rw[DataW.trod_step]at hz'
    unfold DataW.trodStep at hz'
    rw[hu]at hz'
    simp[c142,ho,ht,c140]at hz'
    obtain⟨q,hq⟩:∃ q,DataW.trod (funcToken Tryz.prog) Tryz.prog W 0 (fun _=>true) true n 194 [v]=some (.held (b::r),q):=by
     rw[Option.bind_eq_some_iff]at hz'
     obtain⟨⟨y1,y2⟩,h1,h2⟩:=hz'
     simp at h2
     exact⟨y2,by rw[h1,h2.1]⟩
    rw[func_of_trod hu4 hone hq]
   |_=>rw[hv]at hfm; simp at hfm
def Yb8:List (Lit×DataW (List UInt8)):=[(.int .i64 3,.agg [.held [119,97,103,111,110,112,111,111,108,47,109,111,110,101,121,46,65,100,100]]),(.int .i64 4,.agg [.held [119,97,103,111,110,112,111,111,108,47,109,111,110,101,121,46,83,117,98]]),(.int .i64 5,.agg [.held [119,97,103,111,110,112,111,111,108,47,109,111,110,101,121,46,77,117,108]]),(.int .i64 6,.agg [.held [119,97,103,111,110,112,111,111,108,47,116,118,109,46,98,105,110,97,114,105,101,115,36,49]]),(.int .i64 7,.agg [.held [119,97,103,111,110,112,111,111,108,47,116,118,109,46,98,105,110,97,114,105,101,115,36,50]]),(.int .i64 8,.agg [.held [119,97,103,111,110,112,111,111,108,47,116,118,109,46,98,105,110,97,114,105,101,115,36,51]]),(.int .i64 9,.agg [.held [119,97,103,111,110,112,111,111,108,47,116,118,109,46,98,105,110,97,114,105,101,115,36,52]]),(.int .i64 10,.agg [.held [119,97,103,111,110,112,111,111,108,47,116,118,109,46,98,105,110,97,114,105,101,115,36,53]]),(.int .i64 11,.agg [.held [119,97,103,111,110,112,111,111,108,47,116,118,109,46,98,105,110,97,114,105,101,115,36,54]])]
set_option maxRecDepth 20000 in
theorem Ygu{W:World}(h:funcsAt Tryz.prog W "wagonpool/tvm.binaries" binsD):∃ b es clock,W.cell? ⟨0,0,none⟩=some (.map (some b))∧W.heap[b]?=some (.map es clock)∧spM (.map es clock)=true∧yNw es binA:=by
 obtain⟨g,t,cs,fuel,p,hg,ht,hv,hd⟩:=h
 obtain rfl:=Option.some.inj (gB.symm.trans hg)
 obtain rfl:=Option.some.inj (tB.symm.trans ht)
 have hd':DataW.trod (funcToken Tryz.prog) Tryz.prog W 0 (fun _=>true) true fuel 198 cs.toList=some (.map Yb8,p):=hd
 rcases open_map u144 hd' with⟨_,hx⟩ | ⟨b,es,clock,n,rfl,hcs,hb,_,F,hx⟩
 ·cases hx
 simp only[Prod.mk.injEq,DataW.map.injEq]at hx
 have mem:∀ y,y∈Yb8↔y∈es.toList.map (rg Tryz.prog 3 (elemAt (funcToken Tryz.prog) Tryz.prog W 0 (fun _=>true) true n 196)):=fun y=>by
  rw[hx.1]; exact(Go.WideShapes.sorted_perm _).mem_iff
 have ent:∀ e∈es.toList,∃ k f,e.key=.int .i64 k∧e.val=.agg #[.func (.func f) #[] #[]]∧f<5000000∧yel k binA=some f:=by
  intro e he
  obtain⟨y,hy⟩:=F.reads e he
  have hm:y∈Yb8:=(mem y).2 (List.mem_map.2 ⟨e,he,rg_of hy⟩)
  simp only[Yb8,List.mem_cons,List.not_mem_nil,or_false]at hm
  rcases hm with rfl | rfl | rfl | rfl | rfl | rfl | rfl | rfl | rfl
  ·obtain⟨h1,h2⟩:=yob (f0:=231) (by kernel_rfl) hy; exact⟨_,_,h1,h2,by decide,rfl⟩
  ·obtain⟨h1,h2⟩:=yob (f0:=232) (by kernel_rfl) hy; exact⟨_,_,h1,h2,by decide,rfl⟩
  ·obtain⟨h1,h2⟩:=yob (f0:=233) (by kernel_rfl) hy; exact⟨_,_,h1,h2,by decide,rfl⟩
  ·obtain⟨h1,h2⟩:=yob (f0:=234) (by kernel_rfl) hy; exact⟨_,_,h1,h2,by decide,rfl⟩
  ·obtain⟨h1,h2⟩:=yob (f0:=235) (by kernel_rfl) hy; exact⟨_,_,h1,h2,by decide,rfl⟩
  ·obtain⟨h1,h2⟩:=yob (f0:=236) (by kernel_rfl) hy; exact⟨_,_,h1,h2,by decide,rfl⟩
  ·obtain⟨h1,h2⟩:=yob (f0:=238) (by kernel_rfl) hy; exact⟨_,_,h1,h2,by decide,rfl⟩
  ·obtain⟨h1,h2⟩:=yob (f0:=239) (by kernel_rfl) hy; exact⟨_,_,h1,h2,by decide,rfl⟩
  ·obtain⟨h1,h2⟩:=yob (f0:=240) (by kernel_rfl) hy; exact⟨_,_,h1,h2,by decide,rfl⟩
 have all:∀ k∈binA.map (·.1),∃ e∈es.toList,e.key=.int .i64 k:=by
  intro k hk
  have hkL:∃ d,(Lit.int .i64 k,d)∈Yb8:=by
   simp only[binA,List.map_cons,List.map_nil,List.mem_cons,List.not_mem_nil,or_false]at hk
   rcases hk with rfl | rfl | rfl | rfl | rfl | rfl | rfl | rfl | rfl
   ·exact⟨_,List.mem_cons_self⟩
   ·exact⟨_,List.mem_cons_of_mem _ (List.mem_cons_self)⟩
   ·exact⟨_,List.mem_cons_of_mem _ (List.mem_cons_of_mem _ (List.mem_cons_self))⟩
   ·exact⟨_,List.mem_cons_of_mem _ (List.mem_cons_of_mem _ (List.mem_cons_of_mem _ (List.mem_cons_self)))⟩
   ·exact⟨_,List.mem_cons_of_mem _ (List.mem_cons_of_mem _ (List.mem_cons_of_mem _ (List.mem_cons_of_mem _ (List.mem_cons_self))))⟩
   ·exact⟨_,List.mem_cons_of_mem _ (List.mem_cons_of_mem _ (List.mem_cons_of_mem _ (List.mem_cons_of_mem _ (List.mem_cons_of_mem _ (List.mem_cons_self)))))⟩
   ·exact⟨_,List.mem_cons_of_mem _ (List.mem_cons_of_mem _ (List.mem_cons_of_mem _ (List.mem_cons_of_mem _ (List.mem_cons_of_mem _ (List.mem_cons_of_mem _ (List.mem_cons_self))))))⟩
   ·exact⟨_,List.mem_cons_of_mem _ (List.mem_cons_of_mem _ (List.mem_cons_of_mem _ (List.mem_cons_of_mem _ (List.mem_cons_of_mem _ (List.mem_cons_of_mem _ (List.mem_cons_of_mem _ (List.mem_cons_self)))))))⟩
   ·exact⟨_,List.mem_cons_of_mem _ (List.mem_cons_of_mem _ (List.mem_cons_of_mem _ (List.mem_cons_of_mem _ (List.mem_cons_of_mem _ (List.mem_cons_of_mem _ (List.mem_cons_of_mem _ (List.mem_cons_of_mem _ (List.mem_cons_self))))))))⟩
  obtain⟨d,hd⟩:=hkL
  obtain⟨e,he,hre⟩:=List.mem_map.1 ((mem _).1 hd)
  obtain⟨y,hy⟩:=F.reads e he
  obtain⟨k',f,h1,h2,_⟩:=ent e he
  rw[rg_of hy]at hre
  subst hre
  have hk:=yYs (rd_key hy)
  exact⟨e,he,hk⟩
 have hc0:W.cell? ⟨0,0,none⟩=some (.map (some b)):=by
  rw[World.var?_cell hg hv 0]
  obtain⟨l⟩:=cs
  have:l=[.map (some b)]:=hcs
  rw[this]; rfl
 have hsp:spM (.map es clock)=true:=by
  rw[yLh]
  obtain⟨e,he,_⟩:=all 3 (by decide)
  have hlt:0<es.size:=by
   have:=List.length_pos_of_mem he
   simpa using this
  rw[Array.getElem?_eq_getElem hlt]
  obtain⟨k,f,_,h2,_⟩:=ent es[0] (by simp)
  simp only[h2]
  rfl
 refine⟨b,es,clock,hc0,hb,hsp,fun e he=>?_,fun k f hf=>?_⟩
 ·exact ent e he
 ·exact all k (yJm hf)
theorem globGG{W:World}(hk:Lib.TabIs Tryz.prog W "wagonpool/digest.k" .u32 (Sha.K.map fun x=>(x.toNat:Int)))(gk:Tryz.prog.globalNamed "wagonpool/digest.k"=some 1)(h:funcsAt Tryz.prog W "wagonpool/tvm.binaries" binsD):GlobOK GG W (yja W):=by
 intro n d hd
 unfold GG at hd
 split at hd
 ·rename_i e
  subst e
  simp only[Option.some.injEq]at hd
  subst hd
  obtain⟨b,es,clock,h1,h2,h3,h4⟩:=Ygu h
  have hj:∀ (j:Nat) (d:D),(D.gmap binA).cells[j]?=some d→j=0∧d=.gmap binA:=fun j d hd=>by
   cases j with
   |zero=>exact⟨rfl,(Option.some.inj hd).symm⟩
   |succ j=>cases hd
  refine .eptr _ 0 _ 0 (fun _=>.map (some b)) (fun j d hd=>?_) (fun j d hd=>?_) (fun j d hd=>?_)
  ·obtain⟨rfl,rfl⟩:=hj j d hd; rfl
  ·obtain⟨rfl,rfl⟩:=hj j d hd
   exact⟨by show(W.cell? ⟨_,0,none⟩).isSome=true; rw[h1]; rfl,h1⟩
  ·obtain⟨rfl,rfl⟩:=hj j d hd
   exact .gmap _ b es clock h2 h3 h4
 ·exact Yoj hk gk n d hd
end Go.Proofs.YtijnglngaogdjaaGreatDoor.PI
namespace Go.Proofs.YtijnglngaogdjaaGreatDoor.PI
open Go
set_option linter.unusedSimpArgs false
set_option linter.unusedVariables false
theorem Ys5(n:Nat):pbin .mul (.int .u64 (n:Int)) (.int .u64 8)=some (qD (UInt64.ofNat n*8)):=by
 have e:(n:Int)*8=((n*8:Nat):Int):=by omega
 simp only[pbin,if_true,yhm,Option.map_some,e,ytb,qD]
 congr 3
 simp
theorem b128:D.int .u8 128=yaf 128:=rfl
theorem b0:D.int .u8 0=yaf 0:=rfl
theorem Yjb(n:Nat)(σ:List Nat)(x:UInt64):ren n σ (qD x)=qD x:=rfl
theorem Yss(x:UInt64):hk (qD x)=[]:=rfl
theorem yAh{α:Type}(l:List (List α))(i:Nat):(l.take i).flatten.length≤l.flatten.length:=by
 have:l.flatten=(l.take i).flatten++(l.drop i).flatten:=by rw[← List.flatten_append,List.take_append_drop]
 rw[this,List.length_append]
 omega
theorem yBe(s:Sha.St8):∀ (i:Nat) (m:List UInt8),Sha.blocks s (i+1) m=Sha.block (Sha.blocks s i m) ((m.drop (64*i)).take 64)
 |0,m=>by simp[Sha.blocks]
 |i+1,m=>by
  rw[Sha.blocks,yBe (Sha.block s (m.take 64)) i (m.drop 64),Sha.blocks,List.drop_drop,show 64+64*i=64*(i+1) by omega]
theorem ySb(m:List UInt8):(Sha.padded m).length=m.length+1+Sha.zeros m.length+8∧(Sha.padded m).length % 64=0:=by
 have h:(Sha.padded m).length=m.length+1+Sha.zeros m.length+8:=by
  simp[Sha.padded,Sha.lenB_length]; omega
 refine⟨h,?_⟩
 rw[h]; unfold Sha.zeros; omega
def outZ(l:List UInt32)(i:Nat):List UInt8:=Sha.outB l i++List.replicate (32 - i) 0
theorem yzn(l:List UInt32)(i:Nat)(h:i≤32):(outZ l i).length=32:=by
 simp[outZ,Sha.outB_length]; omega
theorem Ye8(l:List UInt32)(i:Nat)(h:i<32):(outZ l i).set i ((l.getD (i / 4) 0 >>> UInt32.ofNat (24 - 8*(i % 4))).toUInt8)=outZ l (i+1):=by
 have h2:(Sha.outB l i).length=i:=Sha.outB_length l i
 unfold outZ
 rw[Sha.outB,List.set_append_right _ _ (by omega),h2,Nat.sub_self,show 32 - i=(32 - (i+1))+1 by omega,List.replicate_succ,List.set_cons_zero,List.append_assoc]
 rfl
def Ykz(sz key tot off:Nat):D:=if off<tot then .row key tot off (tot - off)else .slc sz [] false
theorem yDp{sz key tot off:Nat}(h:off<tot):Ykz sz key tot off=.row key tot off (tot - off):=if_pos h
theorem yNx{sz key tot off:Nat}(h:¬ off<tot):Ykz sz key tot off=.slc sz [] false:=if_neg h
noncomputable def yN7:List D→Option D:=spOf (α:=List (List UInt8)) (fun a=>[.slc (nz 1 (a.map bsD)) (a.map bsD) false]) (fun a=>a.flatten.length≤4294960000∧a.length≤4294960000) (fun a=>digD (shaL a.flatten))
theorem Yhp(ps:List (List UInt8))(h:ps.flatten.length≤4294960000∧ps.length≤4294960000):yN7 [.slc (nz 1 (ps.map bsD)) (ps.map bsD) false]=some (digD (shaL ps.flatten)):=
 yae (fun a b h=>by simp only[List.cons.injEq,D.slc.injEq,Ypz,and_true]at h; simp[h]) (ps) h
set_option maxHeartbeats 4000000 in
set_option maxRecDepth 20000 in
theorem w_sum(ps:List (List UInt8))(h:ps.flatten.length≤4294960000∧ps.length≤4294960000):@wW GG (tb [(159,yEj)] []) yls.code (argF [.slc (nz 1 (ps.map bsD)) (ps.map bsD) false]) [] ⟨retQ yls.res (digD (shaL ps.flatten))⟩:=by
 obtain⟨h,hps⟩:=h
 generalize hm:ps.flatten=m at h
 unfold yls
 simp only[push_cast,↓reduceIte,Nat.reduceEqDiff,Yfg 1]
 refine ybr (fun i:Nat=>[(2,.ptr 0 0),(3,bufD 0 1 ((ps.take i).flatten.map yaf)),(10,.slc (nz 1 (ps.map bsD)) (ps.map bsD) false),(11,.int .i64 (ps.length:Int)),(12,.int .i64 (i:Int))])
  (fun i=>⟨false,1,digC yab,false⟩::bufS 1 ((ps.take i).flatten.map yaf)) (fun i=>i≤ps.length) (fun i=>ps.length - i) 0 (by simp only[push_cast,↓reduceIte,Nat.reduceEqDiff,Nat.reduceLT,Nat.reduceLeDiff,↓Int.reduceNatCast'] <;> rfl) (by omega) ?_
 intro i hi
 unfold yqq
 simp only[push_cast,↓reduceIte,Nat.reduceEqDiff]
 refine yai (fun h1=>?_) (fun h1=>?_)
 ·have e:(ps.take (i+1)).flatten=(ps.take i).flatten++ps.getD i default:=by
   rw[yVe ps i (by omega),List.flatten_append]; simp
  have hl:=yAh ps (i+1)
  rw[e,List.length_append,hm]at hl
  simp (disch:=first|omega|decide) only[push_cast,↓reduceIte,Nat.reduceEqDiff,Nat.reduceLT,Nat.reduceLeDiff,yi6,yaz]
  refine yaj (i+1) (by omega) (by omega) ?_
  rw[e]
  simp only[push_cast] <;> rfl
 ·obtain rfl:i=ps.length:=by omega
  rw[List.take_length,hm]
  have hne:(m++[128]).map yaf≠[]:=by simp
  simp (disch:=first|omega|decide) only[push_cast,↓reduceIte,Nat.reduceEqDiff,yGj,Ys5,b128,ywk _ _ _ hne,ys7 _ _ hne]
  generalize hq:UInt64.ofNat m.length*8=q
  refine ybr (fun j:Nat=>[(2,.ptr 0 0),(3,.row 1 (m++[128]++List.replicate j 0).length 0 (m++[128]++List.replicate j 0).length),(6,qD q)])
   (fun j=>[⟨false,1,digC yab,false⟩,⟨true,1,(m++[128]++List.replicate j 0).map yaf,false⟩]) (fun j=>j≤Sha.zeros m.length) (fun j=>Sha.zeros m.length - j) 0 (by simp only[push_cast,↓reduceIte,Nat.reduceEqDiff,Nat.reduceLT,Nat.reduceLeDiff,Nat.reduceAdd,List.replicate_zero,List.append_nil] <;> rfl) (by omega) ?_
  intro j hj
  have hlen:(m++[128]++List.replicate j 0).length=m.length+1+j:=by simp; omega
  have hz2:(m.length+1+Sha.zeros m.length) % 64=56:=by unfold Sha.zeros; omega
  have hz:Sha.zeros m.length<64:=by unfold Sha.zeros; omega
  unfold yqp
  simp (disch:=first|omega|decide) only[push_cast,↓reduceIte,Nat.reduceEqDiff,Ysr]
  refine yai (fun h2=>?_) (fun h2=>?_)
  ·obtain rfl:j=Sha.zeros m.length:=by
    unfold Sha.zeros at hj ⊢; omega
   simp only[push_cast,↓reduceIte,Nat.reduceAdd]
   have hmz:(m++[128]++List.replicate (Sha.zeros m.length) 0)=(m++[128]++List.replicate (Sha.zeros m.length) 0)++Sha.lenB q 0:=(List.append_nil _).symm
   generalize hM:m++[128]++List.replicate (Sha.zeros m.length) 0=M at hlen hmz h2
   refine ybr (fun j:Nat=>[(2,.ptr 0 0),(3,.row 1 (M++Sha.lenB q j).length 0 (M++Sha.lenB q j).length),(6,qD q),(7,.int .i64 (56 - 8*(j:Int)))])
    (fun j=>[⟨false,1,digC yab,false⟩,⟨true,1,(M++Sha.lenB q j).map yaf,false⟩]) (fun j=>j≤8) (fun j=>8 - j) 0 (by rw[← hmz]; simp only[push_cast,↓reduceIte,Nat.reduceEqDiff,Nat.reduceLT,Nat.reduceLeDiff,Nat.reduceAdd,Int.reduceMul,Int.reduceSub,↓Int.reduceNatCast'] <;> rfl) (by omega) ?_
   intro j hj
   have hl2:(M++Sha.lenB q j).length=M.length+j:=by rw[List.length_append,Sha.lenB_length]
   unfold yqo
   simp only[push_cast,↓reduceIte,Nat.reduceEqDiff]
   refine yai (fun h3=>?_) (fun h3=>?_)
   ·have e:(56 - 8*(j:Int)).toNat=56 - 8*j:=by omega
    have e2:M++Sha.lenB q (j+1)=(M++Sha.lenB q j)++[(q >>> UInt64.ofNat (56 - 8*j)).toUInt8]:=by rw[Sha.lenB,List.append_assoc]
    simp (disch:=first|omega|decide) only[push_cast,↓reduceIte,Nat.reduceEqDiff,Nat.reduceLT,Nat.reduceLeDiff,Nat.reduceAdd,Ysi,Yo8,e,ydy]
    refine yaj (j+1) (by omega) (by omega) ?_
    rw[e2]
    have e4:(56 - 8*(j:Int) - 8)=56 - 8*((j+1:Nat):Int):=by omega
    simp only[push_cast,Yjb,Yss,e4] <;> rfl
   ·obtain rfl:j=8:=by omega
    have hP:M++Sha.lenB q 8=Sha.padded m:=by rw[← hM,← hq]; rfl
    rw[hP]
    rw[hP]at hl2
    obtain⟨hp1,hp2⟩:=ySb m
    have hsh:shaL m=⟨Sha.outB (Sha.blocks Sha.H0 ((Sha.padded m).length / 64) (Sha.padded m)).list 32,Sha.outB_length _ 32⟩:=rfl
    rw[hsh]
    generalize Sha.padded m=PM at hl2 hp1 hp2
    have hH:Sha.H0.list.length=8:=rfl
    have hz8:(zW 8).length=8:=rfl
    simp (disch:=omega) only[push_cast,↓reduceIte,Nat.reduceEqDiff,Nat.reduceAdd,Int.reduceLE,Int.reduceNeg,Int.reduceMul,Int.reduceSub,↓Int.reduceNatCast',Yuw]
    refine ybr (fun j:Nat=>[(2,.ptr 0 0),(3,Ykz 1 1 PM.length (64*j)),(8,.ptr 2 0)])
     (fun j=>[⟨false,1,digC yab,false⟩,⟨true,1,PM.map yaf,false⟩,⟨false,1,(Sha.blocks Sha.H0 j PM).list.map wD,false⟩]) (fun j=>j≤PM.length / 64) (fun j=>PM.length / 64 - j) 0 (by rw[yDp (by omega)]; simp only[push_cast,↓reduceIte,Nat.reduceEqDiff,Nat.reduceLT,Nat.reduceLeDiff,Nat.reduceAdd,Nat.reduceMul,Int.reduceNeg] <;> rfl) (by omega) ?_
    intro j hj
    unfold yqn
    rcases Nat.lt_or_ge (64*j) PM.length with h4 | h4
    ·have hbl:((PM.drop (64*j)).take 64).length=64:=by simp; omega
     have hbs:=yBe Sha.H0 j PM
     generalize Sha.blocks Sha.H0 j PM=sj at hbs
     have hl8:sj.list.length=8:=rfl
     have hl9:(Sha.block sj ((PM.drop (64*j)).take 64)).list.length=8:=rfl
     have c1:((0:Int)<((PM.length - 64*j:Nat):Int)):=by omega
     have c2:((0:Int)<(PM.length:Int) - 64*(j:Int)):=by omega
     have c3:¬ (64=PM.length - 64*j)∨PM.length - 64*j=64:=by omega
     rw[yDp h4]
     by_cases h5:PM.length - 64*j=64
     ·simp (disch:=omega) only[push_cast,↓reduceIte,Nat.reduceEqDiff,Nat.reduceLT,Nat.reduceLeDiff,Nat.reduceAdd,Int.reduceLT,Int.reduceToNat,↓Int.reduceNatCast',yVt,yDi,h5]
      refine yaj (j+1) (by omega) (by omega) ?_
      rw[yNx (by omega),hbs]
     ·have h6:¬ 64=PM.length - 64*j:=fun e=>h5 e.symm
      simp (disch:=omega) only[push_cast,↓reduceIte,Nat.reduceEqDiff,Nat.reduceLT,Nat.reduceLeDiff,Nat.reduceAdd,Nat.reduceSub,Int.reduceToNat,↓Int.reduceNatCast',c2,yVt,yDi,h6]
      refine yaj (j+1) (by omega) (by omega) ?_
      rw[yDp (by omega),hbs]
      simp only[Nat.mul_add,Nat.mul_one,Nat.sub_sub]
    ·obtain rfl:j=PM.length / 64:=by omega
     rw[yNx (by omega)]
     generalize Sha.blocks Sha.H0 (PM.length / 64) PM=sj
     have hl8:sj.list.length=8:=rfl
     simp only[push_cast,↓reduceIte,Nat.reduceEqDiff,Nat.reduceAdd,Int.reduceLT]
     refine ybr (fun j:Nat=>[(2,.ptr 0 0),(8,.ptr 2 0),(55,.int .i64 (j:Int))])
      (fun j=>[⟨false,1,(outZ sj.list j).map yaf,false⟩,⟨true,1,PM.map yaf,false⟩,⟨false,1,sj.list.map wD,false⟩]) (fun j=>j≤32) (fun j=>32 - j) 0 (by simp only[push_cast,↓reduceIte,Nat.reduceEqDiff,Nat.reduceLT,Nat.reduceLeDiff,Nat.reduceAdd,↓Int.reduceNatCast'] <;> rfl) (by omega) ?_
     intro j hj
     unfold yqm
     simp only[push_cast,↓reduceIte,Nat.reduceEqDiff]
     refine yai (fun h6=>?_) (fun h6=>?_)
     ·have hz3:=yzn sj.list j (by omega)
      have hz4:=Ye8 sj.list j (by omega)
      have e1:((j:Int) / 4).toNat=j / 4:=by omega
      have e2:(24 - 8*((j:Int) % 4)).toNat=24 - 8*(j % 4):=by omega
      simp (disch:=omega) only[push_cast,↓reduceIte,Nat.reduceEqDiff,Nat.reduceLT,Nat.reduceLeDiff,Nat.reduceAdd,quo_i,Ysr,yBt,ydy,yaz,yk9,Yi8,Yo7,e1,e2]
      refine yaj (j+1) (by omega) (by omega) ?_
      rw[← hz4]
      simp only[push_cast] <;> rfl
     ·obtain rfl:j=32:=by omega
      have hz3:=yzn sj.list 32 (by omega)
      simp (disch:=omega) only[push_cast,↓reduceIte,Nat.reduceEqDiff,Nat.reduceAdd,Int.reduceLT,↓Int.reduceNatCast']
      rw[show outZ sj.list 32=Sha.outB sj.list 32 from List.append_nil _]
      rfl
  ·simp (disch:=first|omega|decide) only[push_cast,↓reduceIte,Nat.reduceEqDiff,Nat.reduceLT,Nat.reduceLeDiff,Nat.reduceAdd,b0]
   have h9:j<Sha.zeros m.length:=by
    rcases Nat.lt_or_ge j (Sha.zeros m.length)with h3 | h3
    ·exact h3
    ·exfalso
     obtain rfl:j=Sha.zeros m.length:=by omega
     omega
   refine yaj (j+1) (by omega) (by omega) ?_
   have e:m++[128]++List.replicate (j+1) 0=(m++[128]++List.replicate j 0)++[0]:=by
    rw[List.replicate_succ',List.append_assoc,List.append_assoc,List.append_assoc]
   rw[e]
   simp only[push_cast,Yjb,Yss] <;> rfl
theorem c_sum:Contract Tryz.prog GG 116 yN7:=
 yac yDx (yan (all_cons Ypw all_nil) all_nil) (fun a h=>w_sum a h)
noncomputable def ymg:List D→Option D:=spOf (α:=List UInt8×List UInt8) (fun a=>[.str a.1,.slc (nz 1 (a.2.map yaf)) (a.2.map yaf) false]) (fun a=>a.1.length+a.2.length≤4294900000) (fun a=>digD (yvp a.1 a.2))
theorem ysz(t:List UInt8)(b:List UInt8)(h:t.length+b.length≤4294900000):ymg [.str t,.slc (nz 1 (b.map yaf)) (b.map yaf) false]=some (digD (yvp t b)):=
 yae (fun⟨a0,a1⟩ ⟨b0,b1⟩ h=>by simp only[List.cons.injEq,D.slc.injEq,D.str.injEq,yKh,and_true]at h; simp[h]) (t,b) h
theorem Ya8(x:UInt8)(t b:List UInt8)(h:t.length+b.length≤4294950000) :
  yN7 [.slc 1 [.slc 1 [yaf x] false,.slc (nz 1 (t.map yaf)) (t.map yaf) false,.slc (nz 1 (b.map yaf)) (b.map yaf) false] false]=some (digD (shaL (x::(t++b)))):=by
 have:=Yhp [[x],t,b] ⟨by simp; omega,by simp⟩
 rw[show([[x],t,b]:List (List UInt8)).flatten=x::(t++b) by simp]at this
 exact this
set_option maxHeartbeats 4000000 in
set_option maxRecDepth 20000 in
theorem Ycq(t:List UInt8)(b:List UInt8)(h:t.length+b.length≤4294900000):@wW GG (tb [(116,yN7)] []) yhe.code (argF [.str t,.slc (nz 1 (b.map yaf)) (b.map yaf) false]) [] ⟨retQ yhe.res (digD (yvp t b))⟩:=by
 unfold yhe
 have e1:(min (t.length:Int) 255).toNat=min t.length 255:=by omega
 have e2:t.take (min t.length 255)=t.take 255:=by
  rcases Nat.le_total t.length 255 with h1 | h1
  ·rw[Nat.min_eq_left h1,List.take_length,List.take_of_length_le h1]
  ·rw[Nat.min_eq_right h1]
 have hl:(t.take 255).length≤255:=by simp; omega
 have hl2:(t.take 255).length≤t.length:=by simp; omega
 simp (disch:=omega) only[push_cast,↓reduceIte,Nat.reduceEqDiff,yRs,e1,e2,yi7,Ya8]
 rfl
theorem yGm:Contract Tryz.prog GG 62 ymg:=
 yac yxb (yan (all_cons c_sum all_nil) all_nil) (fun a h=>Ycq a.1 a.2 h)
set_option maxHeartbeats 8000000
set_option maxRecDepth 20000
def nI(n:Int):D:=.int .i64 n
theorem Ys3{a b:Int}:nI a=nI b↔a=b:=by simp[nI]
theorem yq5{a b:List Int}:a.map nI=b.map nI↔a=b:=⟨ypw fun _ _=>Ys3.1,fun h=>by rw[h]⟩
theorem yUt(n:Int):IntKind.wrap .u64 n=n % 18446744073709551616:=rfl
theorem yDo{n:Int}(h0:0≤n)(h1:n<18446744073709551616):IntKind.wrap .u64 n=n:=by rw[yUt]; omega
theorem add_u{a b:Int}(h0:0≤a+b)(h1:a+b<18446744073709551616):pbin .add (.int .u64 a) (.int .u64 b)=some (.int .u64 (a+b)):=by
 simp only[pbin,if_true,yhm,Option.map_some,yDo h0 h1]
theorem mul_u{a b:Int}(h0:0≤a*b)(h1:a*b<18446744073709551616):pbin .mul (.int .u64 a) (.int .u64 b)=some (.int .u64 (a*b)):=by
 simp only[pbin,if_true,yhm,Option.map_some,yDo h0 h1]
theorem Ys4(a b:Int):pbin .mul (.int .u64 a) (.int .u64 b)=some (.int .u64 ((a*b) % 18446744073709551616)):=by
 simp only[pbin,if_true,yhm,Option.map_some,yUt]
theorem yHj{a:Int}(h0:0≤a)(h1:a<18446744073709551616):(BitVec.ofInt 64 a).toNat=a.toNat:=by
 rw[BitVec.toNat_ofInt]
 omega
theorem Yiw{a:Int}(h0:0≤a)(h1:a<18446744073709551616):pbin .and (.int .u64 a) (.int .u64 4294967295)=some (.int .u64 (a % 4294967296)):=by
 have h:(BitVec.ofInt (IntKind.bits .u64) a &&& BitVec.ofInt (IntKind.bits .u64) 4294967295).toNat=(a % 4294967296).toNat:=by
  show(BitVec.ofInt 64 a &&& BitVec.ofInt 64 4294967295).toNat=_
  rw[BitVec.toNat_and,yHj h0 h1,show(BitVec.ofInt 64 4294967295).toNat=2 ^ 32 - 1 from rfl,Nat.and_two_pow_sub_one_eq_mod]
  omega
 simp only[pbin,if_true,yut,Option.map_some,h]
 rw[yDo (by omega) (by omega)]
 congr 2
 omega
theorem yx3{a b:Int}(ha:0≤a)(hb:0≤b)(ha2:a≤4294967295)(hb2:b≤4294967295):0≤a*b∧a*b≤18446744065119617025:=by
 refine⟨Int.mul_nonneg ha hb,?_⟩
 have h1:a*b≤4294967295*b:=Int.mul_le_mul_of_nonneg_right ha2 hb
 omega
theorem mul4(a b c d:Int):a*b*(c*d)=a*c*(b*d):=by rw[Int.mul_assoc,Int.mul_left_comm b,← Int.mul_assoc]
theorem yXy(x y:Int):x*y=(x / 4294967296)*(y / 4294967296)*18446744073709551616+((x / 4294967296)*(y % 4294967296)+(x % 4294967296)*(y / 4294967296))*4294967296+(x % 4294967296)*(y % 4294967296):=by
 have e1:x=(x / 4294967296)*4294967296+x % 4294967296:=(Int.ediv_mul_add_emod x 4294967296).symm
 have e2:y=(y / 4294967296)*4294967296+y % 4294967296:=(Int.ediv_mul_add_emod y 4294967296).symm
 conv=>lhs; rw[e1,e2]
 rw[Int.add_mul,Int.mul_add,Int.mul_add,mul4,Int.mul_right_comm (x / 4294967296) 4294967296,← Int.mul_assoc (x % 4294967296),Int.add_mul]
 omega
noncomputable def yEq:List D→Option D:=spOf (α:=Int×Int) (fun a=>[.int .u64 a.1,.int .u64 a.2]) (fun a=>0≤a.1∧a.1<18446744073709551616∧0≤a.2∧a.2<18446744073709551616) (fun a=>.tup [.int .u64 (a.1*a.2 / 18446744073709551616),.int .u64 (a.1*a.2 % 18446744073709551616)])
theorem yKf(x:Int)(y:Int)(h:0≤x∧x<18446744073709551616∧0≤y∧y<18446744073709551616):yEq [.int .u64 x,.int .u64 y]=some (.tup [.int .u64 (x*y / 18446744073709551616),.int .u64 (x*y % 18446744073709551616)]):=
 yae (fun⟨a0,a1⟩ ⟨b0,b1⟩ h=>by simp only[List.cons.injEq,D.int.injEq,true_and,and_true]at h; simp[h]) (x,y) h
theorem Yrn(x:Int)(y:Int)(h:0≤x∧x<18446744073709551616∧0≤y∧y<18446744073709551616):@wW GG (tb [] []) yfo.code (argF [.int .u64 x,.int .u64 y]) [] ⟨retQ yfo.res (.tup [.int .u64 (x*y / 18446744073709551616),.int .u64 (x*y % 18446744073709551616)])⟩:=by
 obtain⟨hx0,hx1,hy0,hy1⟩:=h
 have e:=yXy x y
 have ha:=yx3 (a:=x / 4294967296) (b:=y / 4294967296) (by omega) (by omega) (by omega) (by omega)
 have hb:=yx3 (a:=x / 4294967296) (b:=y % 4294967296) (by omega) (by omega) (by omega) (by omega)
 have hc:=yx3 (a:=x % 4294967296) (b:=y / 4294967296) (by omega) (by omega) (by omega) (by omega)
 have hd:=yx3 (a:=x % 4294967296) (b:=y % 4294967296) (by omega) (by omega) (by omega) (by omega)
 unfold yfo
 simp (disch:=omega) only[push_cast,↓reduceIte,Nat.reduceEqDiff,Int.reduceToNat,Int.reducePow,Yiw,yBs,mul_u,add_u,Ys4 x y]
 rw[e]
 generalize (x / 4294967296)*(y / 4294967296)=a at*
 generalize (x / 4294967296)*(y % 4294967296)=b at*
 generalize (x % 4294967296)*(y / 4294967296)=c at*
 generalize (x % 4294967296)*(y % 4294967296)=d at*
 have e9:a+(b+d / 4294967296) / 4294967296+((b+d / 4294967296) % 4294967296+c) / 4294967296=(a*18446744073709551616+(b+c)*4294967296+d) / 18446744073709551616:=by omega
 rw[e9]
theorem Yjz:Contract Tryz.prog GG 169 yEq:=
 yac ytk (yan all_nil all_nil) (fun a h=>Yrn a.1 a.2 h)
def inI(x:Int):Bool:=decide (-9007199254740992≤x) && decide (x≤9007199254740992)
theorem ysu{x:Int}:inI x=true↔-9007199254740992≤x∧x≤9007199254740992:=by simp[inI]
theorem yY3{x:Int}:inI x=false↔x < -9007199254740992∨9007199254740992<x:=by
 rw[← Bool.not_eq_true,ysu]; omega
theorem Yhd{l:List Int}{i:Nat}(h:i<l.length):(l.drop i).all inI=(inI (l.getD i default) && (l.drop (i+1)).all inI):=by
 rw[List.drop_eq_getElem_cons h,List.all_cons]
 simp[List.getD_eq_getElem?_getD,h]
noncomputable def ynm:List D→Option D:=spOf (α:=List Int) (fun a=>[.slc (nz 1 (a.map nI)) (a.map nI) false]) (fun a=>a.length≤65536) (fun a=>.bool (a.all inI))
theorem yKd(l:List Int)(h:l.length≤65536):ynm [.slc (nz 1 (l.map nI)) (l.map nI) false]=some (.bool (l.all inI)):=
 yae (fun a b h=>by simp only[List.cons.injEq,D.slc.injEq,and_true,yq5]at h; simp[h]) (l) h
theorem Yrf(l:List Int)(h:l.length≤65536):@wW GG (tb [] []) yrj.code (argF [.slc (nz 1 (l.map nI)) (l.map nI) false]) [] ⟨retQ yrj.res (.bool (l.all inI))⟩:=by
 unfold yrj
 simp (disch:=first|omega|decide) only[push_cast,↓reduceIte,Nat.reduceEqDiff]
 refine ybr (fun i:Nat=>[(5,.slc (nz 1 (l.map nI)) (l.map nI) false),(6,.int .i64 (l.length:Int)),(7,.int .i64 (i:Int))]) (fun _=>[]) (fun i=>i≤l.length∧l.all inI=(l.drop i).all inI) (fun i=>l.length - i) 0 (by simp only[push_cast,↓reduceIte,Nat.reduceEqDiff,↓Int.reduceNatCast'] <;> rfl) ⟨Nat.zero_le _,rfl⟩ ?_
 rintro i ⟨hi,hh⟩
 unfold yvc
 simp (disch:=first|omega|decide) only[push_cast,↓reduceIte,Nat.reduceEqDiff,Int.reduceNeg]
 refine yai (fun h2=>?_) (fun h2=>?_)
 ·have hlt:i<l.length:=by omega
  rw[Yhd hlt]at hh
  have hix:∀ st:St,yfw st 1 (.slc (nz 1 (l.map nI)) (l.map nI) false) (.int .i64 (i:Int))=some (.eptr (nI (l.getD i default)) 0):=fun st=>by
   have:=yi6 st 1 nI l false .i64 (i:Int) (by omega) (by omega)
   rwa [Int.toNat_natCast]at this
  generalize l.getD i default=x at*
  cases hx:inI x with
  |true=>
   obtain⟨h5,h6⟩:=ysu.1 hx
   rw[hx,Bool.true_and]at hh
   have h7:¬ (x < -9007199254740992):=by omega
   have h8:¬ (9007199254740992<x):=by omega
   simp (disch:=first|omega|decide) only[push_cast,↓reduceIte,Nat.reduceEqDiff,Int.reduceNeg,hix,nI,h7,h8,yaz]
   refine yaj (i+1) (by exact⟨by omega,hh⟩) (by omega) ?_
   simp only[push_cast] <;> rfl
  |false=>
   rw[hx,Bool.false_and]at hh
   by_cases h7:x < -9007199254740992
   ·simp (disch:=first|omega|decide) only[push_cast,↓reduceIte,Nat.reduceEqDiff,Int.reduceNeg,hix,nI,h7,hh]
   ·have h8:9007199254740992<x:=by have:=yY3.1 hx; omega
    simp (disch:=first|omega|decide) only[push_cast,↓reduceIte,Nat.reduceEqDiff,Int.reduceNeg,hix,nI,h7,h8,hh]
 ·obtain rfl:i=l.length:=by omega
  rw[List.drop_length]at hh
  simp (disch:=first|omega|decide) only[push_cast,↓reduceIte,Int.reduceNeg,hh,List.all_nil]
theorem yKg:Contract Tryz.prog GG 241 ynm:=
 yac yK3 (yan all_nil all_nil) (fun a h=>Yrf a h)
def rgF(c:Int):Int×Int:=if inI c then(c,0)else(0,3)
theorem lit1(a:Int):litD 1 [.int .i64 a]=some (.slc 1 [.int .i64 a] true):=(rfl)
theorem lit2(a b:Int):litD 1 [.int .i64 a,.int .i64 b]=some (.slc 1 [.int .i64 a,.int .i64 b] true):=(rfl)
theorem e98:((9:Int)=8)=False:=by decide
theorem e108:((10:Int)=8)=False:=by decide
theorem e109:((10:Int)=9)=False:=by decide
theorem e810:((8:Int)=10)=False:=by decide
theorem e910:((9:Int)=10)=False:=by decide
theorem Yhx(a:Int):ynm [.slc 1 [.int .i64 a] false]=some (.bool (inI a)):=by
 have:=yKd [a] (by simp)
 simpa[nI,nz]using this
theorem yyb(a b:Int):ynm [.slc 1 [.int .i64 a,.int .i64 b] false]=some (.bool (inI a && inI b)):=by
 have:=yKd [a,b] (by simp)
 simpa[nI,nz]using this
noncomputable def yEf:List D→Option D:=spOf (α:=Int) (fun a=>[.int .i64 a]) (fun a=>True) (fun a=>.tup [.int .i64 (rgF a).1,.int .i64 (rgF a).2])
theorem yKc(c:Int):yEf [.int .i64 c]=some (.tup [.int .i64 (rgF c).1,.int .i64 (rgF c).2]):=
 yae (fun a b h=>by simp only[List.cons.injEq,D.int.injEq,true_and,and_true]at h; simp[h]) (c) trivial
theorem Yre(c:Int):@wW GG (tb [(241,ynm)] []) yih.code (argF [.int .i64 c]) [] ⟨retQ yih.res (.tup [.int .i64 (rgF c).1,.int .i64 (rgF c).2])⟩:=by
 unfold yih rgF
 have:=Yhx c
 cases hc:inI c <;> rw[hc]at this <;> simp (disch:=first|omega|decide) only[push_cast,↓reduceIte,Nat.reduceEqDiff,lit1,this]
theorem Yjy:Contract Tryz.prog GG 242 yEf:=
 yac yym (yan (all_cons yKg all_nil) all_nil) (fun a h=>Yre a)
def addF(a b:Int):Int×Int:=if inI a && inI b then rgF (a+b)else(0,3)
def subF(a b:Int):Int×Int:=if inI a && inI b then rgF (a - b)else(0,3)
noncomputable def yxu:List D→Option D:=spOf (α:=Int×Int) (fun a=>[.int .i64 a.1,.int .i64 a.2]) (fun a=>True) (fun a=>.tup [.int .i64 (addF a.1 a.2).1,.int .i64 (addF a.1 a.2).2])
theorem yUb(a:Int)(b:Int):yxu [.int .i64 a,.int .i64 b]=some (.tup [.int .i64 (addF a b).1,.int .i64 (addF a b).2]):=
 yae (fun⟨a0,a1⟩ ⟨b0,b1⟩ h=>by simp only[List.cons.injEq,D.int.injEq,true_and,and_true]at h; simp[h]) (a,b) trivial
theorem Ykh(a:Int)(b:Int):@wW GG (tb [(241,ynm),(242,yEf)] []) yoq.code (argF [.int .i64 a,.int .i64 b]) [] ⟨retQ yoq.res (.tup [.int .i64 (addF a b).1,.int .i64 (addF a b).2])⟩:=by
 unfold yoq addF
 have h2:=yyb a b
 have h3:=yKc (a+b)
 cases hc:inI a && inI b with
 |false=>rw[hc]at h2; simp (disch:=first|omega|decide) only[push_cast,↓reduceIte,Nat.reduceEqDiff,lit2,h2]
 |true=>
  rw[hc]at h2
  simp only[Bool.and_eq_true,ysu]at hc
  simp (disch:=first|omega|decide) only[push_cast,↓reduceIte,Nat.reduceEqDiff,lit2,h2,h3,yaz]
theorem Ypq:Contract Tryz.prog GG 231 yxu:=
 yac yHi (yan (all_cons yKg (all_cons Yjy all_nil)) all_nil) (fun a h=>Ykh a.1 a.2)
noncomputable def yxs:List D→Option D:=spOf (α:=Int×Int) (fun a=>[.int .i64 a.1,.int .i64 a.2]) (fun a=>True) (fun a=>.tup [.int .i64 (subF a.1 a.2).1,.int .i64 (subF a.1 a.2).2])
theorem yT9(a:Int)(b:Int):yxs [.int .i64 a,.int .i64 b]=some (.tup [.int .i64 (subF a b).1,.int .i64 (subF a b).2]):=
 yae (fun⟨a0,a1⟩ ⟨b0,b1⟩ h=>by simp only[List.cons.injEq,D.int.injEq,true_and,and_true]at h; simp[h]) (a,b) trivial
theorem Yke(a:Int)(b:Int):@wW GG (tb [(241,ynm),(242,yEf)] []) yon.code (argF [.int .i64 a,.int .i64 b]) [] ⟨retQ yon.res (.tup [.int .i64 (subF a b).1,.int .i64 (subF a b).2])⟩:=by
 unfold yon subF
 have h2:=yyb a b
 have h3:=yKc (a - b)
 cases hc:inI a && inI b with
 |false=>rw[hc]at h2; simp (disch:=first|omega|decide) only[push_cast,↓reduceIte,Nat.reduceEqDiff,lit2,h2]
 |true=>
  rw[hc]at h2
  simp only[Bool.and_eq_true,ysu]at hc
  simp (disch:=first|omega|decide) only[push_cast,↓reduceIte,Nat.reduceEqDiff,lit2,h2,h3,ydy]
theorem Ypo:Contract Tryz.prog GG 232 yxs:=
 yac yHf (yan (all_cons yKg (all_cons Yjy all_nil)) all_nil) (fun a h=>Yke a.1 a.2)
theorem neg_u{a:Int}(h0:0<a)(h1:a<18446744073709551616):pun .neg (.int .u64 a)=some (.int .u64 (18446744073709551616 - a)):=by
 have e:(0 - a) % 18446744073709551616=18446744073709551616 - a:=by omega
 simp only[pun,yUt,e]
theorem yx8(st:St){a:Int}:yde st (.int .u64) (.int .i64 a)=some (.int .u64 (a % 18446744073709551616)):=by
 simp only[yde,yUt]
noncomputable def ytx:List D→Option D:=spOf (α:=Int) (fun a=>[.int .i64 a]) (fun a=>inI a=true) (fun a=>.int .u64 (if a<0 then -a else a))
theorem yDg(a:Int)(h:inI a=true):ytx [.int .i64 a]=some (.int .u64 (if a<0 then -a else a)):=
 yae (fun a b h=>by simp only[List.cons.injEq,D.int.injEq,true_and,and_true]at h; simp[h]) (a) h
theorem Yki(a:Int)(h:inI a=true):@wW GG (tb [] []) yom.code (argF [.int .i64 a]) [] ⟨retQ yom.res (.int .u64 (if a<0 then -a else a))⟩:=by
 obtain⟨h1,h2⟩:=ysu.1 h
 unfold yom
 by_cases h0:a<0
 ·have e1:(a % 18446744073709551616)=18446744073709551616+a:=by omega
  have e2:18446744073709551616 - (18446744073709551616+a)=-a:=by omega
  simp (disch:=first|omega|decide) only[push_cast,↓reduceIte,Nat.reduceEqDiff,h0,yx8,e1,neg_u,e2]
 ·simp (disch:=first|omega|decide) only[push_cast,↓reduceIte,Nat.reduceEqDiff,h0,yGj]
theorem Ypr:Contract Tryz.prog GG 243 ytx:=
 yac yHe (yan all_nil all_nil) (fun a h=>Yki a h)
def abI(a:Int):Int:=if a<0 then -a else a
def mulF(a b:Int):Int×Int:=if inI a && inI b then rgF (a*b)else(0,3)
theorem Yv8(a b:Int):abI a*abI b=abI (a*b):=by
 unfold abI
 rcases Int.lt_or_le a 0 with h1 | h1 <;> rcases Int.lt_or_le b 0 with h2 | h2
 ·have:=Int.mul_pos_of_neg_of_neg h1 h2
  rw[if_pos h1,if_pos h2,if_neg (by omega),Int.neg_mul_neg]
 ·have:=Int.mul_nonpos_of_nonpos_of_nonneg (Int.le_of_lt h1) h2
  rw[if_pos h1,if_neg (by omega),Int.neg_mul]
  split <;> omega
 ·have:=Int.mul_nonpos_of_nonneg_of_nonpos h1 (Int.le_of_lt h2)
  rw[if_neg (by omega),if_pos h2,Int.mul_neg]
  split <;> omega
 ·have:=Int.mul_nonneg h1 h2
  rw[if_neg (by omega),if_neg (by omega),if_neg (by omega)]
theorem Yqn{a:Int}(h:inI a=true):0≤abI a∧abI a≤9007199254740992:=by
 have:=ysu.1 h
 unfold abI; split <;> omega
theorem ab_in(a:Int):inI a=decide (abI a≤9007199254740992):=by
 cases h:inI a with
 |true=>simp[(Yqn h).2]
 |false=>
  have:=yY3.1 h
  symm
  rw[decide_eq_false_iff_not]
  unfold abI; split <;> omega
noncomputable def yxt:List D→Option D:=spOf (α:=Int×Int) (fun a=>[.int .i64 a.1,.int .i64 a.2]) (fun a=>True) (fun a=>.tup [.int .i64 (mulF a.1 a.2).1,.int .i64 (mulF a.1 a.2).2])
theorem yUa(a:Int)(b:Int):yxt [.int .i64 a,.int .i64 b]=some (.tup [.int .i64 (mulF a b).1,.int .i64 (mulF a b).2]):=
 yae (fun⟨a0,a1⟩ ⟨b0,b1⟩ h=>by simp only[List.cons.injEq,D.int.injEq,true_and,and_true]at h; simp[h]) (a,b) trivial
theorem Ykf(a:Int)(b:Int):@wW GG (tb [(241,ynm),(243,ytx),(169,yEq)] []) yoo.code (argF [.int .i64 a,.int .i64 b]) [] ⟨retQ yoo.res (.tup [.int .i64 (mulF a b).1,.int .i64 (mulF a b).2])⟩:=by
 unfold yoo mulF
 have h2:=yyb a b
 cases hc:inI a && inI b with
 |false=>rw[hc]at h2; simp (disch:=first|omega|decide) only[push_cast,↓reduceIte,Nat.reduceEqDiff,lit2,h2]
 |true=>
  rw[hc]at h2
  simp only[Bool.and_eq_true]at hc
  have c1:ytx [.int .i64 a]=some (.int .u64 (abI a)):=yDg a hc.1
  have c2:ytx [.int .i64 b]=some (.int .u64 (abI b)):=yDg b hc.2
  have l1:=Yqn hc.1
  have l2:=Yqn hc.2
  have c3:=yKf (abI a) (abI b) (by omega)
  have e:=Yv8 a b
  have ei:=ab_in (a*b)
  have hn:0≤abI a*abI b:=Int.mul_nonneg l1.1 l2.1
  have hb:abI a*abI b≤9007199254740992*9007199254740992:=Int.le_trans (Int.mul_le_mul_of_nonneg_right l1.2 l2.1) (by omega)
  rw[e]at c3 hn hb
  have hm:abI (a*b)≤9007199254740992→-9007199254740992≤a*b∧a*b≤9007199254740992:=fun h=>by
   unfold abI at h; split at h <;> omega
  have hmul:-9007199254740992≤a*b→a*b≤9007199254740992→pbin .mul (.int .i64 a) (.int .i64 b)=some (.int .i64 (a*b)):=fun h1 h2=>yBt (by omega) (by omega)
  unfold rgF
  rw[ei]
  generalize a*b=m at*
  generalize abI m=z at*
  by_cases h0:z / 18446744073709551616=0
  ·have h9:z % 18446744073709551616=z:=by omega
   rw[h0,h9]at c3
   by_cases h8:9007199254740992<z
   ·have h7:¬ z≤9007199254740992:=by omega
    simp (disch:=first|omega|decide) only[push_cast,↓reduceIte,Nat.reduceEqDiff,lit2,h2,c1,c2,c3,h8,h7]
   ·have h7:z≤9007199254740992:=by omega
    have h6:=hm h7
    have c4:pbin .mul (.int .i64 a) (.int .i64 b)=some (.int .i64 m):=hmul h6.1 h6.2
    simp (disch:=first|omega|decide) only[push_cast,↓reduceIte,Nat.reduceEqDiff,lit2,h2,c1,c2,c3,h8,h7,c4]
  ·have h7:¬ z≤9007199254740992:=by omega
   simp (disch:=first|omega|decide) only[push_cast,↓reduceIte,Nat.reduceEqDiff,lit2,h2,c1,c2,c3,h0,h7]
theorem Ypp:Contract Tryz.prog GG 233 yxt:=
 yac yHg (yan (all_cons yKg (all_cons Ypr (all_cons Yjz all_nil))) all_nil) (fun a h=>Ykf a.1 a.2)
theorem Yle(a:Int){b:Int}(hb:0<b):-(abI a)≤a.tdiv b∧a.tdiv b≤abI a:=by
 unfold abI
 rcases Int.lt_or_le a 0 with h | h
 ·have e:a.tdiv b=-((-a) / b):=by
   rw[← Int.tdiv_eq_ediv_of_nonneg (by omega),Int.neg_tdiv,Int.neg_neg]
  have h1:=Int.ediv_le_self b (show 0≤-a by omega)
  have h2:=Int.ediv_nonneg (show 0≤-a by omega) (show 0≤b by omega)
  rw[if_pos h,e]; omega
 ·have e:a.tdiv b=a / b:=Int.tdiv_eq_ediv_of_nonneg h
  have h1:=Int.ediv_le_self b h
  have h2:=Int.ediv_nonneg h (show 0≤b by omega)
  rw[if_neg (by omega),e]; omega
theorem yRr{a b:Int}(hb:0<b)(h1:-9223372036854775808<a)(h2:a<9223372036854775808):pbin .quo (.int .i64 a) (.int .i64 b)=some (.int .i64 (a.tdiv b)):=by
 have h3:=Yle a hb
 have h4:abI a<9223372036854775808:=by unfold abI; split <;> omega
 simp only[pbin,if_true,yhm,show ¬ b=0 by omega,if_false,Option.map_some,ykv (show -9223372036854775808≤a.tdiv b by omega) (show a.tdiv b<9223372036854775808 by omega)]
theorem yRq{a b:Int}(hb:0<b):pbin .rem (.int .i64 a) (.int .i64 b)=some (.int .i64 (a.tmod b)):=by
 simp only[pbin,if_true,yhm,show ¬ b=0 by omega,if_false,Option.map_some]
def dnF(a b:Int):Int:=(if a.tmod b<0 then a - b else a).tdiv b
def upF(a b:Int):Int:=(if 0<a.tmod b then a+b else a).tdiv b
def divF(a b m:Int):Int×Int:=if inI a && inI b then(if b≤0 then(0,70)else(if m=10 then dnF (2*a+b) (2*b)else if m=8 then dnF a b else upF a b,0))else(0,3)
noncomputable def ytw:List D→Option D:=spOf (α:=Int×Int×Int) (fun a=>[.int .i64 a.1,.int .i64 a.2.1,.int .i64 a.2.2]) (fun a=>a.2.2=8∨a.2.2=9∨a.2.2=10) (fun a=>.tup [.int .i64 (divF a.1 a.2.1 a.2.2).1,.int .i64 (divF a.1 a.2.1 a.2.2).2])
theorem ywg(a:Int)(b:Int)(m:Int)(h:m=8∨m=9∨m=10):ytw [.int .i64 a,.int .i64 b,.int .i64 m]=some (.tup [.int .i64 (divF a b m).1,.int .i64 (divF a b m).2]):=
 yae (fun⟨a0,a1,a2⟩ ⟨b0,b1,b2⟩ h=>by simp only[List.cons.injEq,D.int.injEq,true_and,and_true]at h; simp[h]) (a,b,m) h
theorem Ykg(a:Int)(b:Int)(m:Int)(h:m=8∨m=9∨m=10):@wW GG (tb [(241,ynm)] []) yop.code (argF [.int .i64 a,.int .i64 b,.int .i64 m]) [] ⟨retQ yop.res (.tup [.int .i64 (divF a b m).1,.int .i64 (divF a b m).2])⟩:=by
 unfold yop divF
 have h2:=yyb a b
 cases hc:inI a && inI b with
 |false=>
  rw[hc]at h2
  rcases h with rfl | rfl | rfl <;> simp (disch:=first|omega|decide) only[push_cast,↓reduceIte,Nat.reduceEqDiff,lit2,e98,e108,e109,h2]
 |true=>
  rw[hc]at h2
  simp only[Bool.and_eq_true,ysu]at hc
  obtain⟨⟨a1,a2⟩,b1,b2⟩:=hc
  by_cases hb:b≤0
  ·rcases h with rfl | rfl | rfl <;> simp (disch:=first|omega|decide) only[push_cast,↓reduceIte,Nat.reduceEqDiff,lit2,e98,e108,e109,h2,hb]
  ·unfold dnF upF
   rcases h with rfl | rfl | rfl
   ·by_cases hr:a.tmod b<0
    ·simp (disch:=first|omega|decide) only[push_cast,↓reduceIte,Nat.reduceEqDiff,lit2,e810,h2,hb,yRq,hr,ydy,yRr]
    ·simp (disch:=first|omega|decide) only[push_cast,↓reduceIte,Nat.reduceEqDiff,lit2,e810,h2,hb,yRq,hr,yRr]
   ·by_cases hr:0<a.tmod b
    ·simp (disch:=first|omega|decide) only[push_cast,↓reduceIte,Nat.reduceEqDiff,lit2,e98,e910,h2,hb,yRq,hr,yaz,yRr]
    ·simp (disch:=first|omega|decide) only[push_cast,↓reduceIte,Nat.reduceEqDiff,lit2,e98,e910,h2,hb,yRq,hr,yRr]
   ·by_cases hr:(2*a+b).tmod (2*b)<0
    ·simp (disch:=first|omega|decide) only[push_cast,↓reduceIte,Nat.reduceEqDiff,lit2,e108,e109,h2,hb,yBt,yaz,yRq,hr,ydy,yRr]
    ·simp (disch:=first|omega|decide) only[push_cast,↓reduceIte,Nat.reduceEqDiff,lit2,e108,e109,h2,hb,yBt,yaz,yRq,hr,yRr]
theorem yNj:Contract Tryz.prog GG 237 ytw:=
 yac yHh (yan (all_cons yKg all_nil) all_nil) (fun a h=>Ykg a.1 a.2.1 a.2.2 h)
noncomputable def relI(R:List D→St→D×St→Prop):List D→St→Option (D×St):=fun ds st=>@dite _ (∃ r,R ds st r) (Classical.propDecidable _) (fun h=>some h.choose) (fun _=>none)
theorem yb9{R:List D→St→D×St→Prop}{ds:List D}{st:St}{r:D×St}(h:relI R ds st=some r):R ds st r:=by
 unfold relI at h
 split at h
 ·rename_i hx
  simp only[Option.some.injEq]at h
  rw[← h]; exact hx.choose_spec
 ·cases h
theorem Yl6{R:List D→St→D×St→Prop}{ds:List D}{st:St}{r:D×St}(h:R ds st r)(hu:∀ r',R ds st r'→r'=r):relI R ds st=some r:=by
 have hx:∃ r,R ds st r:=⟨r,h⟩
 unfold relI
 rw[dif_pos hx,hu _ hx.choose_spec]
def Fun1(R:List D→St→D×St→Prop):Prop:=∀ ds st r r',R ds st r→R ds st r'→r=r'
theorem yhw{R:List D→St→D×St→Prop}(hf:Fun1 R){ds:List D}{st:St}{r:D×St}(h:R ds st r):relI R ds st=some r:=Yl6 h fun r' h'=>hf ds st r' r h' h
def StOK(st:St):Prop:=∀ o∈st,o.row=false→∀ x∈o.els,ren st.length [] x=x
theorem yG5(n:Nat):∀ (l acc:List Nat),uniq n n l acc=acc
 |[],acc=>rfl
 |k::r,acc=>by
  rw[uniq,if_neg (by omega)]
  exact yG5 n r acc
theorem ygz{α:Type}{f:α→α}:∀ {l:List α},(∀ x∈l,f x=x)→l.map f=l
 |[],_=>rfl
 |a::l,h=>by rw[List.map_cons,h a (by simp),ygz fun x hx=>h x (by simp[hx])]
theorem yWn{st:St}(h:StOK st):st.map (renO st.length [])=st:=by
 refine ygz fun o ho=>?_
 obtain⟨row,sz,els,lent⟩:=o
 cases row with
 |true=>rfl
 |false=>
  show(⟨false,sz,els.map (ren st.length []),lent⟩:Obj)=_
  rw[ygz (h _ ho rfl)]
theorem ysg{keep:List Nat}{fr:Frame}{st:St}(h:StOK st):restrict keep st.length ⟨fr,st⟩=⟨mkF (ypg fr st.length [] keep),st⟩:=by
 unfold restrict
 simp only[Nat.le_refl,if_true,yG5]
 unfold restrictAt
 rw[yuu]
 simp only[picked,List.map_nil,List.append_nil,List.take_length,yWn h]
theorem yps{n m key:Nat}(f:Nat→D)(hf:∀ k,f k≠.junk)(hnm:n≤m)(h:ygn f (renK n [] key)=f key):ygn f (renK m [] key)=f key:=by
 unfold renK at h ⊢
 by_cases hk:key<n
 ·rw[if_pos (Nat.lt_of_lt_of_le hk hnm)]; rfl
 ·rw[if_neg hk]at h
  exact absurd h.symm (hf key)
theorem yH5{n m:Nat}(hnm:n≤m){x:D}(h:ren0 n [] x=x):ren0 m [] x=x:=by
 cases x with
 |row key tot off len=>exact yps (fun k=>.row k tot off len) (fun k e=>by cases e) hnm h
 |bsl key off j sz ag=>exact yps (fun k=>.bsl k off j sz ag) (fun k e=>by cases e) hnm h
 |ptr key off=>exact yps (fun k=>.ptr k off) (fun k e=>by cases e) hnm h
 |rptr key tot i off=>exact yps (fun k=>.rptr k tot i off) (fun k e=>by cases e) hnm h
 |mapv key=>exact yps .mapv (fun k e=>by cases e) hnm h
 |_=>exact h
theorem ye4{f:D→D}:∀ {l:List D},l.map f=l→∀ x∈l,f x=x
 |[],_,x,hx=>by cases hx
 |a::l,h,x,hx=>by
  simp only[List.map_cons,List.cons.injEq]at h
  rcases List.mem_cons.1 hx with rfl | hx
  ·exact h.1
  ·exact ye4 h.2 x hx
theorem yH4{n m:Nat}(hnm:n≤m){x:D}(h:ren1 n [] x=x):ren1 m [] x=x:=by
 cases x with
 |clo f l=>
  simp only[ren1,D.clo.injEq,true_and]at h ⊢
  exact ygz fun y hy=>yH5 hnm (ye4 h y hy)
 |_=>unfold ren1 at h ⊢; exact yH5 hnm h
theorem Yd9{n m:Nat}(hnm:n≤m){x:D}(h:ren n [] x=x):ren m [] x=x:=by
 cases x with
 |agg l=>
  simp only[ren,D.agg.injEq]at h ⊢
  exact ygz fun y hy=>yH4 hnm (ye4 h y hy)
 |tup l=>unfold ren at h ⊢; exact h
 |_=>unfold ren at h ⊢; exact yH4 hnm h
theorem StOK.nil:StOK []:=fun _ h=>by cases h
theorem StOK.app{st:St}(h:StOK st)(l:St)(hl:∀ o∈l,o.row=false→∀ x∈o.els,ren (st.length+l.length) [] x=x):StOK (st++l):=by
 intro o ho hr x hx
 rw[List.length_append]
 rcases List.mem_append.1 ho with ho | ho
 ·exact Yd9 (Nat.le_add_right _ _) (h o ho hr x hx)
 ·exact hl o ho hr x hx
theorem StOK.set{st:St}(h:StOK st)(k:Nat)(o:Obj)(ho:o.row=false→∀ x∈o.els,ren st.length [] x=x):StOK (st.set k o):=by
 intro q hq hr x hx
 rw[List.length_set]
 rcases List.mem_or_eq_of_mem_set hq with hq | rfl
 ·exact h q hq hr x hx
 ·exact ho hr x hx
theorem yNz(n m:Nat):∀ (l acc:List Nat),(∀ k∈l,k<n)→uniq n m l acc=acc
 |[],acc,_=>rfl
 |k::r,acc,h=>by
  have:=h k (by simp)
  rw[uniq,if_neg (by omega)]
  exact yNz n m r acc fun x hx=>h x (by simp[hx])
theorem yEz{keep:List Nat}{fr:Frame}{st l:St}(h:StOK st)(hks:∀ o∈st,o.row=false→∀ x∈o.els,∀ k∈hk x,k<st.length)(hf:∀ s∈keep,∀ k∈hk (fr s),k<st.length) :
  restrict keep st.length ⟨fr,st++l⟩=⟨mkF (ypg fr st.length [] keep),st⟩:=by
 have hle:st.length≤(st++l).length:=by simp
 have ht:(st++l).take st.length=st:=by simp
 unfold restrict
 simp only[hle,if_true]
 rw[yNz _ _ _ _ (fun k hk'=>by
  simp only[yI4,ht,List.mem_append,List.mem_flatMap]at hk'
  rcases hk' with⟨s,hs,hs2⟩ | ⟨o,ho,ho2⟩
  ·exact hf s hs k hs2
  ·cases hr:o.row with
   |true=>rw[hr]at ho2; simp at ho2
   |false=>
    rw[hr]at ho2
    simp only[Bool.false_eq_true,if_false,List.mem_flatMap]at ho2
    obtain⟨x,hx,hxk⟩:=ho2
    exact hks o ho hr x hx k hxk)]
 unfold restrictAt
 rw[yuu]
 simp only[picked,List.map_nil,List.append_nil,ht,yWn h]
def yi3:Nat→Nat→Nat
 |0,_=>0
 |n+1,u=>if u=0 then 0 else yi3 n (u / 256)+1
theorem Ylq(n:Nat):yi3 n 0=0:=by cases n <;> rfl
theorem yLj(n u:Nat):yi3 (n+1) u=if u=0 then 0 else yi3 n (u / 256)+1:=(rfl)
theorem yCb:∀ (n u:Nat),u<256 ^ n→yi3 (n+1) u=yi3 n u
 |0,u,h=>by
  have:u=0:=by simpa using h
  subst this; rfl
 |n+1,u,h=>by
  rw[yLj (n+1) u,yLj n u]
  split
  ·rfl
  ·rw[yCb n (u / 256) (by rw[Nat.pow_succ]at h; omega)]
theorem yqw:∀ (n u:Nat),yi3 n u≤n
 |0,_=>Nat.le_refl _
 |n+1,u=>by
  rw[yi3]
  split
  ·omega
  ·have:=yqw n (u / 256); omega
def Ysg(ds:List D)(st:St)(r:D×St):Prop:=∃ u:Nat,StOK st∧u<18446744073709551616∧ds=[.int .u64 (u:Int)]∧r=(.int .i64 (yi3 8 u:Int),st)
noncomputable def yLp:List D→St→Option (D×St):=relI Ysg
theorem Ydr:Fun1 Ysg:=by
 rintro ds st r r' ⟨u,_,_,rfl,rfl⟩ ⟨u',_,_,h,rfl⟩
 simp only[List.cons.injEq,D.int.injEq,true_and,and_true]at h
 obtain rfl:u=u':=by omega
 rfl
theorem yRb{n u:Nat}(h:u≠0)(hu:u<256 ^ n):yi3 n u=yi3 n (u / 256)+1:=by
 cases n with
 |zero=>simp at hu; omega
 |succ n=>
  rw[yLj n u,if_neg h,yCb n (u / 256) (by rw[Nat.pow_succ]at hu; omega)]
theorem Ype:IContract Tryz.prog GG 209 yLp:=by
 refine yak (T:=tb [] []) yrn (yan all_nil all_nil) ?_
 intro ds st r hr
 obtain⟨u,hok,hu,rfl,rfl⟩:=yb9 hr
 unfold ykr
 simp (disch:=first|omega|decide) only[push_cast]
 refine ybr (fun p:Nat×Nat=>[(0,.int .u64 (p.1:Int)),(2,.int .i64 (p.2:Int))]) (fun _=>st) (fun p=>p.1<18446744073709551616∧yi3 8 u=yi3 8 p.1+p.2) (fun p=>p.1) (u,0) (by simp only[push_cast,↓reduceIte,Nat.reduceEqDiff,↓ysg hok] <;> rfl) ⟨hu,rfl⟩ ?_
 rintro⟨w,k⟩ ⟨hw,hk⟩
 have hk8:=yqw 8 u
 dsimp only at hw hk
 unfold yhp
 simp (disch:=first|omega|decide) only[push_cast,↓reduceIte]
 refine yai (fun h2=>?_) (fun h2=>?_)
 ·have hw0:w≠0:=by omega
  have hs:=yRb (n:=8) hw0 (by omega)
  have hsh:pbin .shr (.int .u64 (w:Int)) (.int .u64 8)=some (.int .u64 ((w / 256:Nat):Int)):=by
   rw[yBs (by omega) (by omega)]; rfl
  simp (disch:=first|omega|decide) only[push_cast,↓reduceIte,Nat.reduceEqDiff,↓Int.reduceNatCast',↓ysg hok,hsh,yaz]
  refine yaj (w / 256,k+1) (by dsimp only; omega) (by dsimp only; omega) ?_
  simp only[push_cast,↓Int.reduceNatCast'] <;> rfl
 ·obtain rfl:w=0:=by omega
  rw[Ylq]at hk
  have hk':yi3 8 u=k:=by omega
  rw[hk']
  simp (disch:=first|omega|decide) only[push_cast,↓reduceIte,Nat.reduceEqDiff,Int.reduceLT,↓Int.reduceNatCast']
def yBw(st:St)(b:D)(l:List UInt8):Prop:=(b=.slc 0 [] true∧l=[])∨∃ key,b=.row key l.length 0 l.length∧l≠[]∧st[key]?=some ⟨true,1,l.map yaf,false⟩
def ygp(st:St)(b:D)(l m:List UInt8):D×St:=match b with
 |.row key _ _ _=>(.row key (l++m).length 0 (l++m).length,st.set key ⟨true,1,(l++m).map yaf,false⟩)
 |_=>(.row st.length m.length 0 m.length,st++[⟨true,1,m.map yaf,false⟩])
theorem Yby{st:St}{b:D}{l l':List UInt8}(h:yBw st b l)(h':yBw st b l'):l=l':=by
 rcases h with⟨rfl,rfl⟩ | ⟨key,rfl,hl,hk⟩
 ·rcases h' with⟨_,rfl⟩ | ⟨key,h,_⟩
  ·rfl
  ·cases h
 ·rcases h' with⟨h,_⟩ | ⟨key',h,_,hk'⟩
  ·cases h
  ·simp only[D.row.injEq]at h
   obtain⟨rfl,_⟩:=h
   rw[hk]at hk'
   simp only[Ywh,Obj.mk.injEq,true_and,and_true]at hk'
   exact ykk hk'
theorem Ywg{st:St}{b:D}{l m:List UInt8}(h:StOK st):StOK (ygp st b l m).2:=by
 unfold ygp
 split
 ·exact h.set _ _ fun e=>by cases e
 ·exact h.app _ fun o ho hr=>by
   simp only[List.mem_singleton]at ho
   subst ho; cases hr
theorem yui{st:St}{b:D}{l m:List UInt8}(h:yBw st b l)(hm:m≠[])(hl:l.length+m.length≤4294967296)(t:Bool):papp st 1 1 b (.slc 1 (m.map yaf) t)=some (ygp st b l m):=by
 have hne:m.map yaf≠[]:=by simpa using hm
 have hz:nz 1 (m.map yaf)=1:=by
  cases hc:m.map yaf with
  |nil=>exact absurd hc hne
  |cons a r=>rfl
 rcases h with⟨rfl,rfl⟩ | ⟨key,rfl,hl',hk⟩
 ·have:=yCl yaf st 1 0 1 m t (by decide) (by omega) (by simp at hl; omega)
  rw[hz,ywk _ _ _ hne,ys7 _ _ hne,List.length_map]at this
  exact this
 ·rw[yzl,hk]
  have he:ygl st (.slc 1 (m.map yaf) t)=some (1,m.map yaf):=(rfl)
  rw[he,Yqf l m false hl]
  simp only[Option.map_some,ygp,List.length_map]
def bufW(st:St)(key:Nat)(l:List UInt8):St:=st.set key ⟨true,1,l.map yaf,false⟩
theorem ys6(st:St)(key:Nat)(l:List UInt8):(bufW st key l).length=st.length:=List.length_set
theorem yGp{st:St}{key:Nat}(h:key<st.length)(l:List UInt8):(bufW st key l)[key]?=some ⟨true,1,l.map yaf,false⟩:=by simp[bufW,h]
theorem Ybx(st:St)(key:Nat)(l m:List UInt8):bufW (bufW st key l) key m=bufW st key m:=by simp[bufW]
theorem yBb{st:St}(h:StOK st)(key:Nat)(l:List UInt8):StOK (bufW st key l):=h.set _ _ fun e=>by cases e
theorem yQo{st:St}{key:Nat}(h:key<st.length)(l m:List UInt8)(hm:m≠[])(hl:l.length+m.length≤4294967296)(t:Bool) :
  papp (bufW st key l) 1 1 (.row key l.length 0 l.length) (.slc 1 (m.map yaf) t)=some (.row key (l++m).length 0 (l++m).length,bufW st key (l++m)):=by
 by_cases hl0:l=[]
 ·subst hl0
  rw[yzl,yGp h]
  have he:ygl (bufW st key []) (.slc 1 (m.map yaf) t)=some (1,m.map yaf):=(rfl)
  rw[he,Yqf [] m false hl]
  simp only[Option.map_some,List.length_map]
  simp only[bufW,List.set_set]
 ·rw[yui (.inr ⟨key,rfl,hl0,yGp h l⟩) hm hl t]
  simp only[ygp]
  simp only[bufW,List.set_set]
theorem yu6{st:St}{key:Nat}(h:key<st.length)(l:List UInt8)(x:UInt8)(hl:l.length<4294967296)(t:Bool) :
  papp (bufW st key l) 1 1 (.row key l.length 0 l.length) (.slc 1 [yaf x] t)=some (.row key (l++[x]).length 0 (l++[x]).length,bufW st key (l++[x])):=
 yQo h l [x] (by simp) (by simp; omega) t
theorem yDl{st:St}{b:D}{l m:List UInt8}(h:yBw st b l)(hm:m≠[]):∃ key st1,key<st1.length∧ygp st b l m=(.row key (l++m).length 0 (l++m).length,bufW st1 key (l++m))∧(StOK st→StOK st1)∧
  ∀ n,ygp st b l (m++n)=(.row key (l++(m++n)).length 0 (l++(m++n)).length,bufW st1 key (l++(m++n))):=by
 rcases h with⟨rfl,rfl⟩ | ⟨key,rfl,hl,hk⟩
 ·refine⟨st.length,st++[⟨true,1,[],false⟩],by simp,?_,fun h=>h.app _ fun o ho hr=>?_,fun n=>?_⟩
  ·simp[ygp,bufW]
  ·simp only[List.mem_singleton]at ho
   subst ho; cases hr
  ·simp[ygp,bufW]
 ·have hlt:=(List.getElem?_eq_some_iff.1 hk).1
  exact⟨key,st,hlt,rfl,id,fun n=>rfl⟩
theorem ykz{keep:List Nat}{fr:Frame}{st:St}{n:Nat}(h:StOK st)(hn:n=st.length):restrict keep n ⟨fr,st⟩=⟨mkF (ypg fr n [] keep),st⟩:=by
 subst hn; exact ysg h
def yf7(u k:Nat):List UInt8:=(List.range k).map fun i=>UInt8.ofNat (u / 2 ^ (8*(k - 1 - i)))
theorem yn9(u k:Nat):(yf7 u k).length=k:=by simp[yf7]
theorem yNo{u k i:Nat}(h:i<k):(yf7 u k).take (i+1)=(yf7 u k).take i++[UInt8.ofNat (u / 2 ^ (8*(k - 1 - i)))]:=by
 rw[List.take_add_one]
 congr 1
 simp[yf7,h]
def u64N(n:Int):Nat:=(n % 18446744073709551616).toNat
def yxk(a:Nat):Nat:=18446744073709551615 - a
theorem Ygf(a:Nat):yxk a<18446744073709551616:=by unfold yxk; omega
def intB(n:Int):List UInt8:=
 if 0≤n then UInt8.ofNat (32+yi3 8 (u64N n))::yf7 (u64N n) (yi3 8 (u64N n))
 else UInt8.ofNat (31 - yi3 8 (yxk (u64N n)))::yf7 (u64N n) (yi3 8 (yxk (u64N n)))
theorem Yc8{a:Nat}(h:a<18446744073709551616):pun .xor (.int .u64 (a:Int))=some (.int .u64 (yxk a:Int)):=by
 unfold yxk
 have e1:yut .xor .u64 (if IntKind.u64.signed then -1 else IntKind.u64.max) (a:Int)=some ((18446744073709551615 - a:Nat):Int):=by
  unfold yut
  have h64:IntKind.u64.bits=64:=rfl
  have hs:(if IntKind.u64.signed then(-1:Int)else IntKind.u64.max)=18446744073709551615:=by decide
  rw[hs]
  simp only
  have:(BitVec.ofInt IntKind.u64.bits 18446744073709551615 ^^^ BitVec.ofInt IntKind.u64.bits (a:Int)) = ~~~ (BitVec.ofNat 64 a):=by
   show(BitVec.ofInt 64 18446744073709551615 ^^^ BitVec.ofInt 64 (a:Int))=_
   rw[show(BitVec.ofInt 64 18446744073709551615)=BitVec.allOnes 64 by decide,show(BitVec.ofInt 64 (a:Int))=BitVec.ofNat 64 a from BitVec.ofInt_natCast 64 a,BitVec.allOnes_xor]
  rw[this]
  show some (IntKind.wrap .u64 (((~~~ (BitVec.ofNat 64 a):BitVec 64).toNat:Nat):Int))=_
  rw[BitVec.toNat_not,BitVec.toNat_ofNat,Nat.mod_eq_of_lt (by omega)]
  show some (IntKind.wrap .u64 ((2 ^ 64 - 1 - a:Nat):Int))=_
  congr 1
  rw[yUt]
  omega
 simp only[pun,e1,Option.map_some]
def intR(ds:List D)(st:St)(r:D×St):Prop:=∃ (b:D) (l:List UInt8) (n:Int),StOK st∧yBw st b l∧l.length≤4294967000∧ds=[b,.int .i64 n]∧r=ygp st b l (intB n)
noncomputable def yy8:List D→St→Option (D×St):=relI intR
theorem Yix:Fun1 intR:=by
 rintro ds st r r' ⟨b,l,n,_,hb,_,rfl,rfl⟩ ⟨b',l',n',_,hb',_,h,rfl⟩
 simp only[List.cons.injEq,D.int.injEq,true_and,and_true]at h
 obtain⟨rfl,rfl⟩:=h
 rw[Yby hb hb']
theorem Ybh{st:St}{b:D}{l:List UInt8}(n:Int)(h1:StOK st)(h2:yBw st b l)(h3:l.length≤4294967000):yy8 [b,.int .i64 n] st=some (ygp st b l (intB n)):=yhw Yix ⟨b,l,n,h1,h2,h3,rfl,rfl⟩
theorem yJ7{st:St}(u:Nat)(h1:StOK st)(h2:u<18446744073709551616):yLp [.int .u64 (u:Int)] st=some (.int .i64 (yi3 8 u:Int),st):=yhw Ydr ⟨u,h1,h2,rfl,rfl⟩
theorem ysi{n key:Nat}(h:key<n):renK n [] key=some key:=if_pos h
theorem yU8(n:Int):u64N n<18446744073709551616:=by unfold u64N; omega
theorem yKz(n:Int):n % 18446744073709551616=(u64N n:Int):=by unfold u64N; omega
theorem yIv(x:UInt8):litD 1 [yaf x]=some (.slc 1 [yaf x] true):=(rfl)
theorem yY9(st:St)(x:UInt8):imm st (yaf x)=some (yaf x):=(rfl)
theorem yI3(x:UInt8):keys (yaf x)=[]:=(rfl)
theorem yJz(st:St)(k:Nat):yde st (.int .u8) (.int .i64 (32+(k:Int)))=some (yaf (UInt8.ofNat (32+k))):=by
 rw[yi7 st (by omega),show(32+(k:Int)).toNat=32+k by omega]
theorem Yai(st:St){k:Nat}(h:k≤31):yde st (.int .u8) (.int .i64 (31 - (k:Int)))=some (yaf (UInt8.ofNat (31 - k))):=by
 rw[yi7 st (by omega),show(31 - (k:Int)).toNat=31 - k by omega]
theorem yTz(st:St)(u m:Nat):yde st (.int .u8) (.int .u64 ((u:Int) / 2 ^ m))=some (yaf (UInt8.ofNat (u / 2 ^ m))):=by
 have e:((u:Int) / 2 ^ m)=((u / 2 ^ m:Nat):Int):=by simp
 rw[e,yi7 st (Int.natCast_nonneg _)]; rfl
/- the loop's part: the tag is laid -/
theorem yUz(T:Tbl)(st1:St)(key:Nat)(hkey:key<st1.length)(hok:StOK st1)(l0:List UInt8)(n:Int)(k:Nat)(hk:k≤8)(hl:l0.length≤4294967200)(fr:Frame)(Q:Ex→Frame→St→Prop)
  (h0:fr 0=.row key l0.length 0 l0.length) (h1:fr 1=.int .i64 n) (h6:fr 6=.int .i64 (k:Int)) (h30:fr 30=.int .i64 (k:Int)) (h31:fr 31=.int .i64 0)
  (hQ:∀ fr',fr' 0=.row key (l0++yf7 (u64N n) k).length 0 (l0++yf7 (u64N n) k).length→Q (.exit 0) fr' (bufW st1 key (l0++yf7 (u64N n) k))) :
  @wW GG T (.loop [0,1,6,30,31] yfz) fr (bufW st1 key l0) ⟨Q⟩:=by
 have hlen:=ys6 st1 key
 have hR:∀ (fr:Frame) (m:List UInt8),restrict [0,1,6,30,31] (bufW st1 key l0).length ⟨fr,bufW st1 key m⟩=⟨mkF (ypg fr st1.length [] [0,1,6,30,31]),bufW st1 key m⟩:=fun fr m=>by rw[ykz (yBb hok key m) (by rw[hlen,hlen]),hlen]
 refine ybr (fun i:Nat=>[(0,.row key (l0++(yf7 (u64N n) k).take i).length 0 (l0++(yf7 (u64N n) k).take i).length),(1,.int .i64 n),(6,.int .i64 (k:Int)),(30,.int .i64 (k:Int)),(31,.int .i64 (i:Int))])
  (fun i=>bufW st1 key (l0++(yf7 (u64N n) k).take i)) (fun i=>i≤k) (fun i=>k - i) 0 ?_ (by omega) ?_
 ·rw[hR]
  simp (disch:=omega) only[push_cast,↓Int.reduceNatCast',h0,h1,h6,h30,h31,ysi] <;> rfl
 intro i hi
 unfold yfz
 have hb:=yn9 (u64N n) k
 have ht:((yf7 (u64N n) k).take i).length=i:=by rw[List.length_take]; omega
 simp (disch:=first|omega|decide) only[push_cast,↓reduceIte,Nat.reduceEqDiff]
 refine yai (fun h2=>?_) (fun h2=>?_)
 ·have e1:((8*((k:Int) - 1 - (i:Int)))).toNat=8*(k - 1 - i):=by omega
  have happ:=fun x=>yu6 (st:=st1) hkey (l0++(yf7 (u64N n) k).take i) x (by rw[List.length_append]; omega) true
  simp (disch:=first|omega|decide) only[push_cast,↓reduceIte,Nat.reduceEqDiff,yx8,yKz,ydy,yBt,yaz,yBs,e1,yTz,yY9,yI3,yIv,happ,↓hR,hkey]
  refine yaj (i+1) (by omega) (by omega) ?_
  rw[yNo (by omega),← List.append_assoc]
  simp (disch:=omega) only[push_cast] <;> rfl
 ·obtain rfl:i=k:=by omega
  have e2:(yf7 (u64N n) i).take i=yf7 (u64N n) i:=List.take_of_length_le (by omega)
  rw[e2]
  simp (disch:=first|omega|decide) only[push_cast]
  exact hQ _ rfl
theorem Ypj:IContract Tryz.prog GG 202 yy8:=by
 refine yak (T:=tb [] [(209,yLp)]) yto (yan all_nil (all_cons Ype all_nil)) ?_
 intro ds st r hr
 obtain⟨b,l,n,hok,hb,hl,rfl,rfl⟩:=yb9 hr
 unfold ynf
 have hs:=yJ7 (st:=st) (u64N n) hok (yU8 n)
 have hs8:=yqw 8 (u64N n)
 have hu:=yU8 n
 by_cases hn:n<0
 ·have hs':=yJ7 (st:=st) (yxk (u64N n)) hok (Ygf _)
  have hs9:=yqw 8 (yxk (u64N n))
  have hI:intB n=[UInt8.ofNat (31 - yi3 8 (yxk (u64N n)))]++yf7 (u64N n) (yi3 8 (yxk (u64N n))):=if_neg (by omega)
  rw[hI]
  generalize yi3 8 (yxk (u64N n))=k at*
  obtain⟨key,st1,hkey,hput,hok1,hmore⟩:=yDl hb (m:=[UInt8.ofNat (31 - k)]) (by simp)
  have happ:=yui hb (m:=[UInt8.ofNat (31 - k)]) (by simp) (by simp; omega) true
  rw[hput]at happ
  have hm:=hmore (yf7 (u64N n) k)
  simp only[List.map_cons,List.map_nil]at happ
  rw[hm,← List.append_assoc]
  simp (disch:=first|omega|decide) only[push_cast,↓reduceIte,Nat.reduceEqDiff,hn,yx8,yKz,hs,Yc8,hs',yaz,ydy,Yai,yJz,yY9,yI3,yIv,happ]
  refine yUz _ st1 key hkey (hok1 hok) (l++[UInt8.ofNat (31 - k)]) n k hs9 (by simp; omega) _ _ (by simp only[push_cast,↓reduceIte,Nat.reduceEqDiff]) (by simp only[push_cast,↓reduceIte,Nat.reduceEqDiff]) (by simp only[push_cast,↓reduceIte,Nat.reduceEqDiff]) (by simp only[push_cast,↓reduceIte,Nat.reduceEqDiff]) (by simp only[push_cast,↓reduceIte]) fun fr' hf=>?_
  simp (disch:=first|omega|decide) only[push_cast,↓reduceIte,hf]
 ·have hI:intB n=[UInt8.ofNat (32+yi3 8 (u64N n))]++yf7 (u64N n) (yi3 8 (u64N n)):=if_pos (by omega)
  rw[hI]
  generalize yi3 8 (u64N n)=k at*
  obtain⟨key,st1,hkey,hput,hok1,hmore⟩:=yDl hb (m:=[UInt8.ofNat (32+k)]) (by simp)
  have happ:=yui hb (m:=[UInt8.ofNat (32+k)]) (by simp) (by simp; omega) true
  rw[hput]at happ
  have hm:=hmore (yf7 (u64N n) k)
  simp only[List.map_cons,List.map_nil]at happ
  rw[hm,← List.append_assoc]
  simp (disch:=first|omega|decide) only[push_cast,↓reduceIte,Nat.reduceEqDiff,hn,yx8,yKz,hs,yaz,yJz,yY9,yI3,yIv,happ]
  refine yUz _ st1 key hkey (hok1 hok) (l++[UInt8.ofNat (32+k)]) n k hs8 (by simp; omega) _ _ (by simp only[push_cast,↓reduceIte,Nat.reduceEqDiff]) (by simp only[push_cast,↓reduceIte,Nat.reduceEqDiff]) (by simp only[push_cast,↓reduceIte,Nat.reduceEqDiff]) (by simp only[push_cast,↓reduceIte,Nat.reduceEqDiff]) (by simp only[push_cast,↓reduceIte]) fun fr' hf=>?_
  simp (disch:=first|omega|decide) only[push_cast,↓reduceIte,hf]
inductive Val where
 |int (n:Int)
 |bytes (b:List UInt8)
 |list (l:List Val)
instance:Inhabited Val:=⟨.int 0⟩
def vC(k n:Int)(B L:List D):List D:=[.int .i64 k,.int .i64 n,.slc (nz 1 B) B false,.slc (nz 4 L) L false]
def vD(k n:Int)(B L:List D):D:=.agg (vC k n B L)
mutual
def valD:Val→D
 |.int n=>vD 1 n [] []
 |.bytes b=>vD 2 0 (b.map yaf) []
 |.list l=>vD 3 0 [] (yyh l)
def yyh:List Val→List D
 |[]=>[]
 |v::l=>valD v::yyh l
end
mutual
def depV:Val→Nat
 |.int _=>0
 |.bytes _=>0
 |.list l=>yjn l+1
def yjn:List Val→Nat
 |[]=>0
 |v::l=>max (depV v) (yjn l)
end
def escB(c:UInt8):List UInt8:=if c=0 then [0,255]else [c]
mutual
def encV:Val→List UInt8
 |.int n=>intB n
 |.bytes b=>48::(b.flatMap escB++[0,0])
 |.list l=>64::(yM6 l++[0])
def yM6:List Val→List UInt8
 |[]=>[]
 |v::l=>encV v++yM6 l
end
theorem yNy:∀ l:List Val,yyh l=l.map valD
 |[]=>by simp[yyh]
 |v::l=>by simp[yyh,yNy l]
theorem yGd:∀ l:List Val,yM6 l=l.flatMap encV
 |[]=>by simp[yM6]
 |v::l=>by simp[yM6,yGd l]
theorem yGh:∀ {l:List Val} {v:Val},v∈l→depV v≤yjn l
 |a::l,v,h=>by
  rw[yjn]
  rcases List.mem_cons.1 h with rfl | h
  ·exact Nat.le_max_left _ _
  ·exact Nat.le_trans (yGh h) (Nat.le_max_right _ _)
theorem yje(n:Int):valD (.int n)=vD 1 n [] []:=by simp[valD]
theorem yfd(b:List UInt8):valD (.bytes b)=vD 2 0 (b.map yaf) []:=by simp[valD]
theorem yj0(l:List Val):valD (.list l)=vD 3 0 [] (l.map valD):=by simp[valD,yNy]
theorem yGe(n:Int):encV (.int n)=intB n:=by simp[encV]
theorem yra(b:List UInt8):encV (.bytes b)=48::(b.flatMap escB++[0,0]):=by simp[encV]
theorem yg5(l:List Val):encV (.list l)=64::(l.flatMap encV++[0]):=by simp[encV,yGd]
theorem Yhf(n:Int):depV (.int n)=0:=by simp[depV]
theorem yTx(b:List UInt8):depV (.bytes b)=0:=by simp[depV]
theorem yAy(l:List Val):depV (.list l)=yjn l+1:=by simp[depV]
def valC(v:Val):List D:=match v with
 |.int n=>vC 1 n [] []
 |.bytes b=>vC 2 0 (b.map yaf) []
 |.list l=>vC 3 0 [] (yyh l)
theorem ygs(v:Val):∃ k n B L,valC v=vC k n B L∧valD v=vD k n B L:=by
 cases v
 ·exact⟨_,_,_,_,rfl,by simp[valD]⟩
 ·exact⟨_,_,_,_,rfl,by simp[valD]⟩
 ·exact⟨_,_,_,_,rfl,by simp[valD]⟩
theorem yor{k n k' n':Int}{B L B' L':List D}(h:vD k n B L=vD k' n' B' L'):k=k'∧n=n'∧B=B'∧L=L':=by
 simp only[vD,vC,D.agg.injEq,List.cons.injEq,D.int.injEq,D.slc.injEq,true_and,and_true]at h
 exact⟨h.1,h.2.1,h.2.2.1.2,h.2.2.2.2⟩
mutual
theorem yDr:∀ {v v':Val},valD v=valD v'→v=v'
 |.int n,.int n',h=>by rw[yje,yje]at h; rw[(yor h).2.1]
 |.bytes b,.bytes b',h=>by rw[yfd,yfd]at h; rw[ykk (yor h).2.2.1]
 |.list l,.list l',h=>by
  have:=h
  simp only[valD]at this
  rw[yG3 (yor this).2.2.2]
 |.int n,.bytes b,h=>by rw[yje,yfd]at h; exact absurd (yor h).1 (by decide)
 |.int n,.list b,h=>by rw[yje,yj0]at h; exact absurd (yor h).1 (by decide)
 |.bytes n,.int b,h=>by rw[yje,yfd]at h; exact absurd (yor h).1 (by decide)
 |.bytes n,.list b,h=>by rw[yfd,yj0]at h; exact absurd (yor h).1 (by decide)
 |.list n,.int b,h=>by rw[yje,yj0]at h; exact absurd (yor h).1 (by decide)
 |.list n,.bytes b,h=>by rw[yfd,yj0]at h; exact absurd (yor h).1 (by decide)
theorem yG3:∀ {l l':List Val},yyh l=yyh l'→l=l'
 |[],[],_=>rfl
 |[],_::_,h=>by simp[yyh]at h
 |_::_,[],h=>by simp[yyh]at h
 |a::l,b::l',h=>by
  simp only[yyh,List.cons.injEq]at h
  rw[yDr h.1,yG3 h.2]
end
theorem ytd{v v':Val}:valD v=valD v'↔v=v':=⟨yDr,fun h=>by rw[h]⟩
theorem Yc5{l l':List Val}:l.map valD=l'.map valD↔l=l':=⟨ypw fun _ _=>yDr,fun h=>by rw[h]⟩
theorem yKm(k n:Int)(B L:List D):boxD (vD k n B L)=some (vC k n B L):=(rfl)
theorem yKl:boxD (.agg [.int .i64 0,.int .i64 0,.slc 0 [] true,.slc 0 [] true])=some [.int .i64 0,.int .i64 0,.slc 0 [] true,.slc 0 [] true]:=(rfl)
theorem yS0(lent:Bool)(k n:Int)(B L:List D):ldO (some ⟨false,1,vC k n B L,lent⟩) 1 false 0=some (.int .i64 k):=(rfl)
theorem Ym5(lent:Bool)(k n:Int)(B L:List D):ldO (some ⟨false,1,vC k n B L,lent⟩) 1 false 1=some (.int .i64 n):=(rfl)
theorem Ym4(lent:Bool)(k n:Int)(B L:List D):ldO (some ⟨false,1,vC k n B L,lent⟩) 1 false 2=some (.slc (nz 1 B) B false):=(rfl)
theorem Yf0(lent:Bool)(k n:Int)(B L:List D):ldO (some ⟨false,1,vC k n B L,lent⟩) 1 false 3=some (.slc (nz 4 L) L false):=(rfl)
theorem ld_v(lent:Bool)(k n:Int)(B L:List D):ldO (some ⟨false,1,vC k n B L,lent⟩) 4 true 0=some (vD k n B L):=(rfl)
theorem st_v(k n:Int)(B L:List D):stO (some ⟨false,1,[.int .i64 0,.int .i64 0,.slc 0 [] true,.slc 0 [] true],false⟩) 4 0 (vD k n B L)=some ⟨false,1,vC k n B L,false⟩:=(rfl)
theorem Ysv(st:St)(k n:Int)(B L:List D):ydd st 4 true (.eptr (vD k n B L) 0)=some (vD k n B L):=(rfl)
theorem Ygi(st:St)(k n:Int)(B L:List D):imm st (vD k n B L)=some (vD k n B L):=by
 simp only[vD,vC,imm,immL,imm1,yuk]
 rfl
theorem yPi(k n:Int)(B L:List D):keys (vD k n B L)=[]:=(rfl)
theorem Yuq(k n:Int)(B L:List D):(vC k n B L).flatMap hk=[]:=(rfl)
theorem ren_v(m:Nat)(k n:Int)(B L:List D):∀ x∈vC k n B L,ren m [] x=x:=by
 intro x hx
 simp only[vC,List.mem_cons,List.not_mem_nil,or_false]at hx
 rcases hx with rfl | rfl | rfl | rfl <;> rfl
theorem Yja(m:Nat)(σ:List Nat)(k n:Int)(B L:List D):(vC k n B L).map (ren m σ)=vC k n B L:=(rfl)
theorem Yud(st:St)(l:List Val)(t:Bool)(i:Nat)(h:i<l.length):yfw st 4 (.slc (nz 4 (l.map valD)) (l.map valD) t) (.int .i64 (i:Int))=some (.eptr (valD (l.getD i default)) 0):=by
 have:=yi6 st 4 valD l t .i64 (i:Int) (by omega) (by omega)
 simpa using this
theorem i21:((2:Int)=1)=False:=by simp
theorem i31:((3:Int)=1)=False:=by simp
theorem i32:((3:Int)=2)=False:=by simp
noncomputable def yxq(N:Nat):List D→Option D:=spOf (α:=Val) (fun v=>[valD v]) (fun v=>depV v<N∧(encV v).length≤4294967000) (fun v=>.tup [.int .i64 (depV v:Int),.bool true])
theorem yDe(N:Nat)(v:Val)(h:depV v<N∧(encV v).length≤4294967000):yxq N [valD v]=some (.tup [.int .i64 (depV v:Int),.bool true]):=
 yae (fun a b h=>by simp only[List.cons.injEq,and_true,ytd]at h; rw[h]) v h
theorem yP7:∀ b:List UInt8,b.length≤(b.flatMap escB).length
 |[]=>by simp
 |c::b=>by
  have:=yP7 b
  have h1:1≤(escB c).length:=by unfold escB; split <;> simp
  simp only[List.flatMap_cons,List.length_append,List.length_cons]
  omega
theorem Ygg(n:Int):1≤(intB n).length:=by unfold intB; split <;> simp
theorem yP6:∀ v:Val,1≤(encV v).length
 |.int n=>by rw[yGe]; exact Ygg n
 |.bytes b=>by rw[yra]; simp
 |.list l=>by rw[yg5]; simp
theorem yAs:∀ l:List Val,l.length≤(l.flatMap encV).length
 |[]=>by simp
 |v::l=>by
  have:=yAs l
  have:=yP6 v
  simp only[List.flatMap_cons,List.length_append,List.length_cons]
  omega
theorem yP5:∀ {l:List Val} {v:Val},v∈l→(encV v).length≤(l.flatMap encV).length
 |a::l,v,h=>by
  simp only[List.flatMap_cons,List.length_append]
  rcases List.mem_cons.1 h with rfl | h
  ·omega
  ·have:=yP5 h; omega
mutual
theorem Yhe:∀ v:Val,depV v≤(encV v).length
 |.int n=>by simp[depV]
 |.bytes b=>by simp[depV]
 |.list l=>by
  have:=yAx l
  simp only[depV,encV,List.length_cons,List.length_append,List.length_nil]
  omega
theorem yAx:∀ l:List Val,yjn l≤(yM6 l).length
 |[]=>by simp[yjn]
 |v::l=>by
  have:=Yhe v
  have:=yAx l
  simp only[yjn,yM6,List.length_append]
  omega
end
def depT:List Val→Nat
 |[]=>0
 |v::l=>max (depT l) (depV v)
theorem yQa:∀ l:List Val,depT l.reverse=yjn l:=by
 have h:∀ (l m:List Val),depT (l++m)=max (depT l) (depT m):=by
  intro l m
  induction l with
  |nil=>simp[depT]
  |cons a l ih=>simp only[List.cons_append,depT,ih]; omega
 intro l
 induction l with
 |nil=>simp[depT,yjn]
 |cons a l ih=>rw[List.reverse_cons,h,ih]; simp only[depT,yjn]; omega
theorem yTw(l:List Val)(v:Val):yjn (l++[v])=max (yjn l) (depV v):=by
 rw[← yQa,← yQa l,List.reverse_append]
 rfl
theorem yj2{α:Type}[Inhabited α](l:List α){i:Nat}(h:i<l.length):l.take (i+1)=l.take i++[l.getD i default]:=by
 rw[List.take_add_one]
 simp[h]
set_option maxHeartbeats 4000000 in
set_option maxRecDepth 20000 in
theorem Ybl:∀ N:Nat,Contract Tryz.prog GG 189 (yxq N)
 |0=>by
  intro w g ds vs d hd
  obtain⟨a,_,hp,_⟩:=yEs hd
  exact absurd hp.1 (by omega)
 |N+1=>by
  refine yac (T:=tb [(189,yxq N)] []) yBo (yan (all_cons (Ybl N) all_nil) all_nil) ?_
  rintro v ⟨hN,hl⟩
  unfold yvd
  cases v with
  |int n=>
   rw[yje,Yhf]
   simp (disch:=first|omega|decide) only[push_cast,↓reduceIte,Nat.reduceEqDiff,↓Int.reduceNatCast',yKm,yS0,Ym4,Yf0]
  |bytes b=>
   rw[yfd,yTx]
   simp (disch:=first|omega|decide) only[push_cast,↓reduceIte,Nat.reduceEqDiff,↓Int.reduceNatCast',yKm,yS0,Ym5,Yf0,i21]
  |list l=>
   rw[yj0,yAy]
   rw[yAy]at hN
   rw[yg5]at hl
   have hll:=yAs l
   have hdl:=yAx l
   rw[yGd]at hdl
   simp only[List.length_cons,List.length_append,List.length_nil]at hl
   simp (disch:=first|omega|decide) only[push_cast,↓reduceIte,Nat.reduceEqDiff,yKm,yS0,Ym5,Ym4,Yf0,i31,i32]
   refine ybr (fun i:Nat=>[(2,.int .i64 (yjn (l.take i):Int)),(45,.slc (nz 4 (l.map valD)) (l.map valD) false),(46,.int .i64 (l.length:Int)),(47,.int .i64 (i:Int))])
    (fun _=>[⟨false,1,vC 3 0 [] (l.map valD),false⟩]) (fun i=>i≤l.length) (fun i=>l.length - i) 0 (by simp only[push_cast,↓reduceIte,Nat.reduceEqDiff,↓Int.reduceNatCast',Yuq,Yja] <;> rfl) (by omega) ?_
   intro i hi
   unfold yo1
   simp (disch:=first|omega|decide) only[push_cast,↓reduceIte,Nat.reduceEqDiff]
   refine yai (fun h2=>?_) (fun h2=>?_)
   ·have hil:i<l.length:=by omega
    have hx:=Yud [⟨false,1,vC 3 0 [] (l.map valD),false⟩] l false i hil
    have hmem:l.getD i default∈l:=by rw[List.getD_eq_getElem?_getD,List.getElem?_eq_getElem hil]; exact List.getElem_mem hil
    have hd1:=yGh hmem
    have he1:=yP5 hmem
    have hc:=yDe N (l.getD i default) ⟨by omega,by omega⟩
    have hts:=yj2 l hil
    obtain⟨x,hxe⟩:∃ x,l.getD i default=x:=⟨_,rfl⟩
    rw[hxe]at hx hc hts hd1 he1
    have hds:=yTw (l.take i) x
    rw[← hts]at hds
    obtain⟨k,n,B,L,hC,hD⟩:=ygs x
    rw[hD]at hx hc
    simp (disch:=first|omega|decide) only[push_cast,↓reduceIte,Nat.reduceEqDiff,Nat.reduceLeDiff,Nat.reduceAdd,hx,Ysv,yKl,st_v,ld_v,Ygi,yPi,hc,yaz]
    refine yaj (i+1) (by omega) (by omega) ?_
    rw[show((yjn (l.take (i+1)):Nat):Int)=max (yjn (l.take i):Int) (depV x:Int) by rw[hds]; omega]
    simp only[push_cast,Yuq,Yja] <;> rfl
   ·obtain rfl:i=l.length:=by omega
    have e2:l.take l.length=l:=List.take_length
    rw[e2]
    simp (disch:=first|omega|decide) only[push_cast,↓reduceIte,Nat.reduceEqDiff,yaz]
theorem yax(st:St)(o:Obj):(st++[o])[st.length]?=some o:=List.getElem?_concat_length
theorem yV4(st:St)(o o':Obj):(st++[o]).set st.length o'=st++[o']:=by simp
theorem yLv(n:Nat)(d:D):ren n [] d=low n d:=by
 have rk:∀ (f:Nat→D) (key:Nat),ygn f (renK n [] key)=if key<n then f key else .junk:=by
  intro f key; unfold renK; split <;> rfl
 have h0:∀ d,ren0 n [] d=low0 n d:=by
  intro d
  cases d <;> simp only[ren0,low0,rk]
 have h1:∀ d,ren1 n [] d=low1 n d:=by
  intro d
  cases d with
  |clo f l=>simp only[ren1,low1,D.clo.injEq,true_and]; exact List.map_congr_left fun x _=>h0 x
  |_=>simp only[ren1,low1]; exact h0 _
 cases d with
 |agg l=>simp only[ren,low,D.agg.injEq]; exact List.map_congr_left fun x _=>h1 x
 |tup l=>rfl
 |_=>simp only[ren,low]; exact h1 _
theorem Yuj{n:Nat}{x:D}(h:ren n [] x=x):∀ k∈hk x,k<n:=by
 have rk:∀ (f:Nat→D) (key:Nat),(∀ k,f k≠.junk)→ygn f (renK n [] key)=f key→key<n:=by
  intro f key hf h
  unfold renK at h
  split at h
  ·assumption
  ·exact absurd h.symm (hf key)
 have h0:∀ x,ren0 n [] x=x→∀ k∈hk0 x,k<n:=by
  intro x h k hk
  cases x with
  |row key tot off len=>simp only[hk0,List.mem_singleton]at hk; subst hk; exact rk (fun k=>.row k tot off len) _ (fun k e=>by cases e) h
  |bsl key off j sz ag=>simp only[hk0,List.mem_singleton]at hk; subst hk; exact rk (fun k=>.bsl k off j sz ag) _ (fun k e=>by cases e) h
  |ptr key off=>simp only[hk0,List.mem_singleton]at hk; subst hk; exact rk (fun k=>.ptr k off) _ (fun k e=>by cases e) h
  |rptr key tot i off=>simp only[hk0,List.mem_singleton]at hk; subst hk; exact rk (fun k=>.rptr k tot i off) _ (fun k e=>by cases e) h
  |mapv key=>simp only[hk0,List.mem_singleton]at hk; subst hk; exact rk .mapv _ (fun k e=>by cases e) h
  |_=>simp[hk0]at hk
 have h1:∀ x,ren1 n [] x=x→∀ k∈hk1 x,k<n:=by
  intro x h k hk
  cases x with
  |clo f l=>
   simp only[hk1,List.mem_flatMap]at hk
   obtain⟨y,hy,hk⟩:=hk
   simp only[ren1,D.clo.injEq,true_and]at h
   exact h0 y (ye4 h y hy) k hk
  |_=>unfold ren1 at h; unfold hk1 at hk; exact h0 _ h k hk
 intro k hk
 cases x with
 |agg l=>
  simp only[PI.hk,List.mem_flatMap]at hk
  obtain⟨y,hy,hk⟩:=hk
  simp only[ren,D.agg.injEq]at h
  exact h1 y (ye4 h y hy) k hk
 |tup l=>simp[PI.hk,hk1,hk0]at hk
 |_=>unfold ren at h; unfold PI.hk at hk; exact h1 _ h k hk
theorem StOK.keys{st:St}(h:StOK st):∀ o∈st,o.row=false→∀ x∈o.els,∀ k∈hk x,k<st.length:=fun o ho hr x hx=>Yuj (h o ho hr x hx)
theorem yrr{keep:List Nat}{fr:Frame}{st l:St}{n:Nat}(h:StOK st)(hn:n=st.length)(hf:∀ k∈yAe fr keep,k<n):restrict keep n ⟨fr,st++l⟩=⟨mkF (ypg fr n [] keep),st⟩:=by
 subst hn
 refine yEz h h.keys fun s hs k hk=>hf k ?_
 rw[yF5,List.mem_flatMap]
 exact⟨s,hs,hk⟩
theorem Yjt{st l:St}{n:Nat}(h:StOK st)(hn:n=st.length):cut n (st++l)=st:=by
 subst hn
 unfold cut
 rw[show(st++l).take st.length=st by simp]
 refine ygz fun o ho=>?_
 obtain⟨row,sz,els,lent⟩:=o
 cases row with
 |true=>rfl
 |false=>
  show(⟨false,sz,els.map (low st.length),lent⟩:Obj)=_
  rw[ygz fun x hx=>(yLv st.length x).symm.trans (h _ ho rfl x hx)]
theorem yD8{st:St}(h:StOK st)(k n:Int)(B L:List D)(lent:Bool):StOK (st++[⟨false,1,vC k n B L,lent⟩]):=h.app _ fun o ho hr x hx=>by
 simp only[List.mem_singleton]at ho
 subst ho
 exact ren_v _ _ _ _ _ x hx
theorem yUi{st:St}{b:D}{l:List UInt8}(h:yBw st b l)(m:St):yBw (st++m) b l:=by
 rcases h with⟨rfl,rfl⟩ | ⟨key,rfl,hl,hk⟩
 ·exact .inl ⟨rfl,rfl⟩
 ·exact .inr ⟨key,rfl,hl,by rw[List.getElem?_append_left (List.getElem?_eq_some_iff.1 hk).1]; exact hk⟩
theorem yDk{st:St}{key:Nat}{sz:Nat}{els:List D}{lent:Bool}(hk:st[key]?=some ⟨true,sz,els,lent⟩){j:Nat}{o:PI.Obj}(hj:st[j]?=some o)(hr:o.row=false)(m:List UInt8):(bufW st key m)[j]?=some o:=by
 have hne:key≠j:=by
  rintro rfl
  rw[hk]at hj
  simp only[Ywh]at hj
  subst hj; cases hr
 rw[bufW,List.getElem?_set_ne hne]
 exact hj
theorem yBc{st:St}{b:D}{l m:List UInt8}(h:yBw st b l)(hm:m≠[]):∃ key st1,key<st1.length∧ygp st b l m=(.row key (l++m).length 0 (l++m).length,bufW st1 key (l++m))∧(StOK st→StOK st1)∧
  (∀ n,ygp st b l (m++n)=(.row key (l++(m++n)).length 0 (l++(m++n)).length,bufW st1 key (l++(m++n))))∧∀ (j:Nat) (o:PI.Obj),st[j]?=some o→o.row=false→∀ n,(bufW st1 key n)[j]?=some o:=by
 rcases h with⟨rfl,rfl⟩ | ⟨key,rfl,hl,hk⟩
 ·refine⟨st.length,st++[⟨true,1,[],false⟩],by simp,?_,fun h=>h.app _ fun o ho hr=>?_,fun n=>?_,fun j o hj hr n=>?_⟩
  ·simp[ygp,bufW]
  ·simp only[List.mem_singleton]at ho
   subst ho; cases hr
  ·simp[ygp,bufW]
  ·exact yDk (yax st ⟨true,1,[],false⟩) (by rw[List.getElem?_append_left (List.getElem?_eq_some_iff.1 hj).1]; exact hj) hr n
 ·have hlt:=(List.getElem?_eq_some_iff.1 hk).1
  exact⟨key,st,hlt,rfl,id,fun n=>rfl,fun j o hj hr n=>yDk hk hj hr n⟩
def yBz(st:St)(b:D)(l:List UInt8)(v:Val):D×St:=ygp (st++[⟨false,1,valC v,false⟩]) b l (encV v)
def Yrs(N:Nat)(ds:List D)(st:St)(r:D×St):Prop:=∃ (v:Val),StOK st∧depV v<N∧(encV v).length≤4294967000∧ds=[.slc 0 [] true,valD v]∧r=yBz st (.slc 0 [] true) [] v
def Yrr(N:Nat)(ds:List D)(st:St)(r:D×St):Prop:=∃ (key:Nat) (l:List UInt8) (v:Val),StOK st∧depV v<N∧l.length+(encV v).length≤4294967000∧l≠[]∧st[key]?=some ⟨true,1,l.map yaf,false⟩∧ds=[.row key l.length 0 l.length,valD v]∧r=ygp st (.row key l.length 0 l.length) l (encV v)
noncomputable def yEx(N:Nat):List D→St→Option (D×St):=relI (Yrs N)
noncomputable def yt9(N:Nat):List D→St→Option (D×St):=relI (Yrr N)
theorem Ycd(N:Nat):Fun1 (Yrr N):=by
 rintro ds st r r' ⟨key,l,v,_,_,_,_,hk,rfl,rfl⟩ ⟨key',l',v',_,_,_,_,hk',h,rfl⟩
 simp only[List.cons.injEq,D.row.injEq,and_true,ytd]at h
 obtain⟨⟨rfl,_⟩,rfl⟩:=h
 rw[hk]at hk'
 simp only[Ywh,Obj.mk.injEq,true_and,and_true]at hk'
 rw[ykk hk']
theorem Yce(N:Nat):Fun1 (Yrs N):=by
 rintro ds st r r' ⟨v,_,_,_,rfl,rfl⟩ ⟨v',_,_,_,h,rfl⟩
 simp only[List.cons.injEq,and_true,true_and,ytd]at h
 rw[h]
theorem yWi{G:Glob}{T:Tbl}{c:PC}{fr:Frame}{st:St}{res:List PRes}{K K':D→St→Prop}(h:@wW G T c fr st ⟨@retI res ⟨K⟩⟩)(hk:∀ d st,K d st→K' d st):@wW G T c fr st ⟨@retI res ⟨K'⟩⟩:=by
 refine Yc1 (ylh _ _ _ _ _ (W_of h) fun e fr' st' h=>?_)
 have fin:@on _ (raws ⟨fr',st'⟩ res) ⟨fun l=>K (pack l) st'⟩→@on _ (raws ⟨fr',st'⟩ res) ⟨fun l=>K' (pack l) st'⟩:=by
  unfold on
  split
  ·exact hk _ _
  ·exact id
 cases e with
 |next=>rw[yHz]at h ⊢; exact fin h
 |ret=>rw[yOi]at h ⊢; exact fin h
 |exit id=>unfold retI at h; exact h.elim
 |panic t d=>unfold retI at h; exact h.elim
theorem Yvv(c:UInt8):pbin .eql (yaf c) (.int .u8 0)=some (.bool (decide (c=0))):=by
 unfold yaf
 rw[Yb9]
 congr 2
 rw[decide_eq_decide]
 refine⟨fun h=>?_,fun h=>by subst h; rfl⟩
 apply UInt8.toNat_inj.1
 have:c.toNat=0:=by omega
 rw[this]; rfl
theorem Yte:litD 1 [.int .u8 0,.int .u8 0]=some (.slc 1 [.int .u8 0,.int .u8 0] true):=(rfl)
theorem Yfs(n:Int):litD 1 [.int .u8 n]=some (.slc 1 [.int .u8 n] true):=(rfl)
theorem by48:yaf 48=.int .u8 48:=(rfl)
theorem by64:yaf 64=.int .u8 64:=(rfl)
theorem by0:yaf 0=.int .u8 0:=(rfl)
theorem by255:yaf 255=.int .u8 255:=(rfl)
/- the bytes of a string,laid behind what is there -/
theorem Ycy(T:Tbl)(st1:St)(key:Nat)(hkey:key<st1.length)(hok:StOK st1)(l0 B:List UInt8)(hl:l0.length+(B.flatMap escB).length≤4294967100)(fr:Frame)(Q:Ex→Frame→St→Prop)
  (h0:fr 0=.row key l0.length 0 l0.length) (h1:fr 23=.slc (nz 1 (B.map yaf)) (B.map yaf) false) (h6:fr 24=.int .i64 (B.length:Int)) (h31:fr 25=.int .i64 0)
  (hQ:∀ fr',fr' 0=.row key (l0++B.flatMap escB).length 0 (l0++B.flatMap escB).length→Q (.exit 1) fr' (bufW st1 key (l0++B.flatMap escB))) :
  @wW GG T (.loop [0,23,24,25] yeq) fr (bufW st1 key l0) ⟨Q⟩:=by
 have hlen:=ys6 st1 key
 have hR:∀ (fr:Frame) (m:List UInt8),restrict [0,23,24,25] (bufW st1 key l0).length ⟨fr,bufW st1 key m⟩=⟨mkF (ypg fr st1.length [] [0,23,24,25]),bufW st1 key m⟩:=fun fr m=>by rw[ykz (yBb hok key m) (by rw[hlen,hlen]),hlen]
 have hB:=yP7 B
 refine ybr (fun i:Nat=>[(0,.row key (l0++(B.take i).flatMap escB).length 0 (l0++(B.take i).flatMap escB).length),(23,.slc (nz 1 (B.map yaf)) (B.map yaf) false),(24,.int .i64 (B.length:Int)),(25,.int .i64 (i:Int))])
  (fun i=>bufW st1 key (l0++(B.take i).flatMap escB)) (fun i=>i≤B.length) (fun i=>B.length - i) 0 ?_ (by omega) ?_
 ·rw[hR]
  simp (disch:=omega) only[push_cast,↓Int.reduceNatCast',h0,h1,h6,h31,ysi] <;> rfl
 intro i hi
 unfold yeq
 simp (disch:=first|omega|decide) only[push_cast,↓reduceIte,Nat.reduceEqDiff]
 refine yai (fun h2=>?_) (fun h2=>?_)
 ·have hil:i<B.length:=by omega
  have hx:yfw (bufW st1 key (l0++(B.take i).flatMap escB)) 1 (.slc (nz 1 (B.map yaf)) (B.map yaf) false) (.int .i64 (i:Int))=some (.eptr (yaf (B.getD i default)) 0):=by
   have:=yi6 (bufW st1 key (l0++(B.take i).flatMap escB)) 1 yaf B false .i64 (i:Int) (by omega) (by omega)
   simpa using this
  have hts:=yj2 B hil
  have hple:((B.take i).flatMap escB).length+(escB (B.getD i default)).length≤(B.flatMap escB).length:=by
   have e:B=B.take (i+1)++B.drop (i+1):=(List.take_append_drop _ _).symm
   have:=congrArg (fun l=>(l.flatMap escB).length) e
   simp only[List.flatMap_append,List.length_append,hts,List.flatMap_cons,List.flatMap_nil,List.append_nil]at this
   omega
  generalize hxe:B.getD i default=c at*
  have hesc1:1≤(escB c).length:=by unfold escB; split <;> simp
  have happ:=fun x=>yu6 (st:=st1) hkey (l0++(B.take i).flatMap escB) x (by rw[List.length_append]; omega) true
  have hnx:l0++(B.take (i+1)).flatMap escB=l0++(B.take i).flatMap escB++escB c:=by
   rw[hts]; simp
  by_cases hc:c=0
  ·subst hc
   have hb0:pbin .eql (yaf 0) (.int .u8 0)=some (.bool true):=(rfl)
   have h3:=yu6 (st:=st1) hkey (l0++(B.take i).flatMap escB++[0]) 255 (by
    have:(escB 0).length=2:=by simp[escB]
    simp only[List.length_append,List.length_cons,List.length_nil]; omega) true
   rw[by255]at h3
   simp (disch:=first|omega|decide) only[push_cast,↓reduceIte,Nat.reduceEqDiff,hx,ysj,yY9,yI3,yIv,Yfs,happ,hb0,h3,yaz,↓hR,hkey]
   refine yaj (i+1) (by omega) (by omega) ?_
   rw[hnx,show l0++(B.take i).flatMap escB++escB 0=l0++(B.take i).flatMap escB++[0]++[255] by simp[escB]]
   first | rfl | (simp only[push_cast,↓yal,↓reduceIte,Nat.reduceEqDiff,Nat.reduceLT,Nat.reduceLeDiff,Nat.reduceAdd,Nat.reduceSub,Nat.reduceMul,Nat.reduceBEq,Int.reduceLT,Int.reduceLE,Int.reduceToNat,Int.reduceNeg,Int.reducePow,Int.reduceAdd,Int.reduceMul,Int.reduceSub,↓Int.reduceNatCast'] <;> rfl)
  ·simp (disch:=first|omega|decide) only[push_cast,↓reduceIte,Nat.reduceEqDiff,hx,ysj,yY9,yI3,yIv,happ,Yvv,hc,decide_false,yaz,↓hR,hkey]
   refine yaj (i+1) (by omega) (by omega) ?_
   rw[hnx,show l0++(B.take i).flatMap escB++escB c=l0++(B.take i).flatMap escB++[c] by simp[escB,hc]]
   first | rfl | (simp only[push_cast,↓yal,↓reduceIte,Nat.reduceEqDiff,Nat.reduceLT,Nat.reduceLeDiff,Nat.reduceAdd,Nat.reduceSub,Nat.reduceMul,Nat.reduceBEq,Int.reduceLT,Int.reduceLE,Int.reduceToNat,Int.reduceNeg,Int.reducePow,Int.reduceAdd,Int.reduceMul,Int.reduceSub,↓Int.reduceNatCast'] <;> rfl)
 ·obtain rfl:i=B.length:=by omega
  rw[List.take_length]
  simp (disch:=first|omega|decide) only[push_cast]
  exact hQ _ rfl
theorem yUe{st:St}{key:Nat}{l:List UInt8}{v:Val}{N:Nat}(h1:StOK st)(h2:depV v<N)(h3:l.length+(encV v).length≤4294967000)(h4:l≠[])(h5:st[key]?=some ⟨true,1,l.map yaf,false⟩) :
  yt9 N [.row key l.length 0 l.length,valD v] st=some (.row key (l++encV v).length 0 (l++encV v).length,st.set key ⟨true,1,(l++encV v).map yaf,false⟩):=yhw (Ycd N) ⟨key,l,v,h1,h2,h3,h4,h5,rfl,rfl⟩
theorem yZ0{α:Type}[Inhabited α](f:α→List UInt8)(L:List α){i:Nat}(h:i<L.length):((L.take i).flatMap f).length+(f (L.getD i default)).length≤(L.flatMap f).length:=by
 have e:L=L.take (i+1)++L.drop (i+1):=(List.take_append_drop _ _).symm
 have:=congrArg (fun l=>(l.flatMap f).length) e
 simp only[List.flatMap_append,List.length_append,yj2 L h,List.flatMap_cons,List.flatMap_nil,List.append_nil]at this
 omega
/- the values of a list,laid behind what is there -/
theorem Ycx(N:Nat)(st1:St)(key:Nat)(hkey:key<st1.length)(hok:StOK st1)(l0:List UInt8)(hl0:l0≠[])(L:List Val)(hd:yjn L<N)(hl:l0.length+(L.flatMap encV).length≤4294967000)(fr:Frame)(Q:Ex→Frame→St→Prop)
  (h0:fr 0=.row key l0.length 0 l0.length) (h1:fr 46=.slc (nz 4 (L.map valD)) (L.map valD) false) (h6:fr 47=.int .i64 (L.length:Int)) (h31:fr 48=.int .i64 0)
  (hQ:∀ fr',fr' 0=.row key (l0++L.flatMap encV).length 0 (l0++L.flatMap encV).length→Q (.exit 3) fr' (bufW st1 key (l0++L.flatMap encV))) :
  @wW GG (tb [] [(202,yy8),(190,yt9 N)]) (.loop [0,46,47,48] yep) fr (bufW st1 key l0) ⟨Q⟩:=by
 have hlen:=ys6 st1 key
 have hB:=yAs L
 have hR:∀ (fr:Frame) (m:List UInt8),restrict [0,46,47,48] (bufW st1 key l0).length ⟨fr,bufW st1 key m⟩=⟨mkF (ypg fr st1.length [] [0,46,47,48]),bufW st1 key m⟩:=fun fr m=>by rw[ykz (yBb hok key m) (by rw[hlen,hlen]),hlen]
 refine ybr (fun i:Nat=>[(0,.row key (l0++(L.take i).flatMap encV).length 0 (l0++(L.take i).flatMap encV).length),(46,.slc (nz 4 (L.map valD)) (L.map valD) false),(47,.int .i64 (L.length:Int)),(48,.int .i64 (i:Int))])
  (fun i=>bufW st1 key (l0++(L.take i).flatMap encV)) (fun i=>i≤L.length) (fun i=>L.length - i) 0 ?_ (by omega) ?_
 ·rw[hR]
  simp (disch:=omega) only[push_cast,↓Int.reduceNatCast',h0,h1,h6,h31,ysi] <;> rfl
 intro i hi
 unfold yep
 simp (disch:=first|omega|decide) only[push_cast,↓reduceIte,Nat.reduceEqDiff]
 refine yai (fun h2=>?_) (fun h2=>?_)
 ·have hil:i<L.length:=by omega
  have hx:=Yud (bufW st1 key (l0++(L.take i).flatMap encV)) L false i hil
  have hmem:L.getD i default∈L:=by rw[List.getD_eq_getElem?_getD,List.getElem?_eq_getElem hil]; exact List.getElem_mem hil
  have hd1:=yGh hmem
  have hft:=yZ0 encV L hil
  have hts:=yj2 L hil
  obtain⟨x,hxe⟩:∃ x,L.getD i default=x:=⟨_,rfl⟩
  rw[hxe]at hx hts hd1 hft
  have hnx:l0++(L.take (i+1)).flatMap encV=l0++(L.take i).flatMap encV++encV x:=by
   rw[hts]; simp
  obtain⟨k,n,B,M,hC,hD⟩:=ygs x
  have hbox:=yD8 (yBb hok key (l0++(L.take i).flatMap encV)) k n B M false
  have hc:=yUe (N:=N) (v:=x) (l:=l0++(L.take i).flatMap encV) (key:=key) hbox (by omega) (by rw[List.length_append]; omega) (by simp[hl0]) (by
   rw[List.getElem?_append_left (by rw[hlen]; exact hkey)]; exact yGp hkey _)
  rw[List.set_append_left _ _ (by rw[hlen]; exact hkey),show(bufW st1 key (l0++(L.take i).flatMap encV)).set key ⟨true,1,(l0++(L.take i).flatMap encV++encV x).map yaf,false⟩=bufW st1 key (l0++(L.take i).flatMap encV++encV x)from Ybx st1 key _ _,hD]at hc
  rw[hD]at hx
  have hR':∀ (fr:Frame) (m:List UInt8) (o:PI.Obj),(yAe fr [0,46,47,48]).all (fun k=>decide (k<st1.length))=true→restrict [0,46,47,48] (bufW st1 key l0).length ⟨fr,bufW st1 key m++[o]⟩=⟨mkF (ypg fr st1.length [] [0,46,47,48]),bufW st1 key m⟩:=fun fr m o h=>by
   rw[yrr (yBb hok key m) (by rw[hlen,hlen]) (fun k hk=>by rw[hlen]; exact of_decide_eq_true (List.all_eq_true.1 h k hk)),hlen]
  simp (disch:=first | omega | decide | (simp only[push_cast,↓yal,↓reduceIte,Nat.reduceEqDiff,Nat.reduceLT,Nat.reduceLeDiff,Nat.reduceAdd,Nat.reduceSub,Nat.reduceMul,Nat.reduceBEq,Int.reduceLT,Int.reduceLE,Int.reduceToNat,Int.reduceNeg,Int.reducePow,Int.reduceAdd,Int.reduceMul,Int.reduceSub,↓Int.reduceNatCast',hkey]; done)) only[push_cast,↓reduceIte,Nat.reduceEqDiff,↓hR',hx,Ysv,yKl,yax,yV4,st_v,ld_v,hc,yaz,hkey]
  refine yaj (i+1) (by omega) (by omega) ?_
  rw[hnx]
  first | rfl | (simp only[push_cast,↓yal,↓reduceIte,Nat.reduceEqDiff,Nat.reduceLT,Nat.reduceLeDiff,Nat.reduceAdd,Nat.reduceSub,Nat.reduceMul,Nat.reduceBEq,Int.reduceLT,Int.reduceLE,Int.reduceToNat,Int.reduceNeg,Int.reducePow,Int.reduceAdd,Int.reduceMul,Int.reduceSub,↓Int.reduceNatCast'] <;> rfl)
 ·obtain rfl:i=L.length:=by omega
  rw[List.take_length]
  simp (disch:=first|omega|decide) only[push_cast]
  exact hQ _ rfl
/- the whole -/
theorem Yi0(N:Nat)(st:St)(b:D)(l:List UInt8)(v:Val)(hok:StOK st)(hb:yBw st b l)(hN:depV v<N+1)(hl:l.length+(encV v).length≤4294967000) :
  @wW GG (tb [] [(202,yy8),(190,yt9 N)]) yeb.code (argF [b,valD v]) st ⟨@retI yeb.res ⟨fun d st'=>(d,st')=yBz st b l v⟩⟩:=by
 unfold yeb yBz
 obtain⟨k,n,B,M,hC,hD⟩:=ygs v
 have hok2:=yD8 hok k n B M false
 have hb2:=yUi hb [⟨false,1,vC k n B M,false⟩]
 have hbx:=yax st ⟨false,1,vC k n B M,false⟩
 cases v with
 |int m=>
  obtain⟨rfl,rfl,rfl,rfl⟩:=yor ((yje m).symm.trans hD)
  have hc:=Ybh m hok2 hb2 (by omega)
  rw[hD,hC,yGe]
  generalize ygp (st++[⟨false,1,vC 1 m [] [],false⟩]) b l (intB m)=r at*
  obtain⟨r1,r2⟩:=r
  simp (disch:=first|omega|decide) only[push_cast,↓reduceIte,Nat.reduceEqDiff,yKm,yS0,Ym5,yax,hc]
 |bytes m=>
  obtain⟨rfl,rfl,rfl,rfl⟩:=yor ((yfd m).symm.trans hD)
  rw[yra]at hl
  simp only[List.length_cons,List.length_append,List.length_nil]at hl
  rw[hD,hC,yra]
  obtain⟨key,st1,hkey,hput,hok1,hmore,hoth⟩:=yBc hb2 (m:=[48]) (by simp)
  have happ:=yui hb2 (m:=[48]) (by simp) (by simp; omega) true
  rw[hput]at happ
  simp only[List.map_cons,List.map_nil,by48]at happ
  have hm:=hmore (m.flatMap escB++[0,0])
  rw[show(48::(m.flatMap escB++[0,0]):List UInt8)=[48]++(m.flatMap escB++[0,0])from rfl,hm]
  have hld:=hoth _ _ hbx rfl (l++[48])
  simp (disch:=first|omega|decide) only[push_cast,↓reduceIte,Nat.reduceEqDiff,yKm,yS0,Ym4,yax,i21,Yfs,happ,hld]
  refine Ycy _ st1 key hkey (hok1 hok2) (l++[48]) m (by simp only[List.length_append,List.length_cons,List.length_nil]; omega) _ _ (by simp only[push_cast,↓reduceIte,Nat.reduceEqDiff]) (by simp only[push_cast,↓reduceIte,Nat.reduceEqDiff]) (by simp only[push_cast,↓reduceIte,Nat.reduceEqDiff]) (by simp only[push_cast,↓reduceIte]) fun fr' hf=>?_
  have happ2:=yQo (st:=st1) hkey (l++[48]++m.flatMap escB) [0,0] (by simp) (by simp only[List.length_append,List.length_cons,List.length_nil]; omega) true
  simp only[List.map_cons,List.map_nil,by0]at happ2
  simp (disch:=first|omega|decide) only[push_cast,↓reduceIte,Nat.reduceEqDiff,hf,Yte,happ2]
  simp only[List.append_assoc,List.cons_append,List.nil_append]
 |list m=>
  obtain⟨rfl,rfl,rfl,rfl⟩:=yor ((yj0 m).symm.trans hD)
  rw[yg5]at hl
  rw[yAy]at hN
  simp only[List.length_cons,List.length_append,List.length_nil]at hl
  rw[hD,hC,yg5]
  obtain⟨key,st1,hkey,hput,hok1,hmore,hoth⟩:=yBc hb2 (m:=[64]) (by simp)
  have happ:=yui hb2 (m:=[64]) (by simp) (by simp; omega) true
  rw[hput]at happ
  simp only[List.map_cons,List.map_nil,by64]at happ
  have hm:=hmore (m.flatMap encV++[0])
  rw[show(64::(m.flatMap encV++[0]):List UInt8)=[64]++(m.flatMap encV++[0])from rfl,hm]
  have hld:=hoth _ _ hbx rfl (l++[64])
  simp (disch:=first|omega|decide) only[push_cast,↓reduceIte,Nat.reduceEqDiff,yKm,yS0,Yf0,yax,i31,i32,Yfs,happ,hld]
  refine Ycx N st1 key hkey (hok1 hok2) (l++[64]) (by simp) m (by omega) (by simp only[List.length_append,List.length_cons,List.length_nil]; omega) _ _ (by simp only[push_cast,↓reduceIte,Nat.reduceEqDiff]) (by simp only[push_cast,↓reduceIte,Nat.reduceEqDiff]) (by simp only[push_cast,↓reduceIte,Nat.reduceEqDiff]) (by simp only[push_cast,↓reduceIte]) fun fr' hf=>?_
  have happ2:=yu6 (st:=st1) hkey (l++[64]++m.flatMap encV) 0 (by simp only[List.length_append,List.length_cons,List.length_nil]; omega) true
  simp only[by0]at happ2
  simp (disch:=first|omega|decide) only[push_cast,↓reduceIte,Nat.reduceEqDiff,hf,Yfs,happ2]
  simp only[List.append_assoc,List.cons_append,List.nil_append]
theorem Yaq:∀ N:Nat,IContract Tryz.prog GG 190 (yEx N)∧IContract Tryz.prog GG 190 (yt9 N)
 |0=>by
  have hT:TblOK Tryz.prog GG (tb [] []):=yan all_nil all_nil
  refine⟨yak ydv hT fun ds st r hr=>?_,yak ydv hT fun ds st r hr=>?_⟩
  ·obtain⟨v,_,h,_⟩:=yb9 hr
   omega
  ·obtain⟨key,l,v,_,h,_⟩:=yb9 hr
   omega
 |N+1=>by
  have hT:TblOK Tryz.prog GG (tb [] [(202,yy8),(190,yt9 N)]):=yan all_nil (all_cons Ypj (all_cons (Yaq N).2 all_nil))
  refine⟨yak ydv hT fun ds st r hr=>?_,yla ydv hT fun ds st r hr=>?_⟩
  ·obtain⟨v,hok,hd,hl,rfl,rfl⟩:=yb9 hr
   exact Yi0 N st _ [] v hok (.inl ⟨rfl,rfl⟩) hd (by simpa using hl)
  ·obtain⟨key,l,v,hok,hd,hl,hl0,hk,rfl,rfl⟩:=yb9 hr
   have hlt:=(List.getElem?_eq_some_iff.1 hk).1
   refine yWi (Yi0 N st _ l v hok (.inr ⟨key,rfl,hl0,hk⟩) hd hl) fun d st' h=>?_
   simp only[yBz,ygp,Ywj]at h ⊢
   obtain⟨rfl,rfl⟩:=h
   refine⟨?_,?_⟩
   ·show lowR st.length (.row key _ 0 _)=_
    simp only[lowR,low,low1,low0,hlt,if_true]
   ·rw[List.set_append_left _ _ hlt]
    exact Yjt (hok.set _ _ fun e=>by cases e) (by rw[List.length_set])
theorem yUf{v:Val}{N:Nat}{st:St}(h1:StOK st)(h2:depV v<N)(h3:(encV v).length≤4294967000):yEx N [.slc 0 [] true,valD v] st=some (yBz st (.slc 0 [] true) [] v):=yhw (Yce N) ⟨v,h1,h2,h3,rfl,rfl⟩
def bsO(b:List UInt8):D:=.slc (nz 1 (b.map yaf)) (b.map yaf) false
def encF(v:Val):List UInt8:=if(encV v).length≤65536 then encV v else []
def encE(v:Val):Int:=if(encV v).length≤65536 then 0 else 2
noncomputable def yy6:List D→Option D:=spOf (α:=Val) (fun v=>[valD v]) (fun v=>depV v≤16∧(encV v).length≤4294967000) (fun v=>.tup [bsO (encF v),.int .i64 (encE v)])
theorem yNi(v:Val)(h:depV v≤16∧(encV v).length≤4294967000):yy6 [valD v]=some (.tup [bsO (encF v),.int .i64 (encE v)]):=
 yae (fun a b h=>by simp only[List.cons.injEq,and_true,ytd]at h; rw[h]) v h
theorem Yh8:Contract Tryz.prog GG 167 yy6:=by
 refine yac (T:=tb [(189,yxq 17)] [(190,yEx 17)]) yyq (yan (all_cons (Ybl 17) all_nil) (all_cons (Yaq 17).1 all_nil)) ?_
 rintro v ⟨hd,hl⟩
 unfold yrz encF encE
 obtain⟨k,n,B,M,hC,hD⟩:=ygs v
 have h1:=yDe 17 v ⟨by omega,hl⟩
 have h2:=yUf (N:=17) (st:=[⟨false,1,vC k n B M,false⟩]) (v:=v) (by have:=yD8 StOK.nil k n B M false; simpa using this) (by omega) hl
 have hne:encV v≠[]:=by
  intro e; have:=yP6 v; rw[e]at this; simp at this
 have hz:nz 1 ((encV v).map yaf)=1:=by
  cases he:encV v with
  |nil=>exact absurd he hne
  |cons a r=>rfl
 simp only[yBz,ygp,List.cons_append,List.nil_append,List.length_cons,List.length_nil]at h2
 rw[hD]at h1 h2
 rw[hD]
 simp (disch:=first|omega|decide) only[push_cast,↓reduceIte,Nat.reduceEqDiff,yKm,ld_v,Ygi,yPi,h1]
 have h16:¬ ((16:Int)<(depV v:Int)):=by omega
 simp (disch:=first|omega|decide) only[push_cast,↓reduceIte,Nat.reduceEqDiff,Nat.reduceAdd,h16,decide_false,ld_v,h2]
 by_cases h3:(encV v).length≤65536
 ·rw[if_pos h3,if_pos h3]
  have h4:¬ ((65536:Int)<((encV v).length:Int)):=by omega
  simp (disch:=first|omega|decide) only[push_cast,↓reduceIte,Nat.reduceEqDiff,h4,decide_false,bsO]
 ·rw[if_neg h3,if_neg h3]
  have h4:((65536:Int)<((encV v).length:Int)):=by omega
  simp (disch:=first|omega|decide) only[push_cast,↓reduceIte,Nat.reduceEqDiff,h4,decide_true,bsO]
def padL:Dig:=yvp [112,97,100] []
def ydj(a b:Dig):Dig:=yvp [110,111,100,101] (a.bs++b.bs)
def atL(l:List Dig)(k:Int)(pad:Dig):Dig:=if k<(l.length:Int)then l.getD k.toNat default else pad
def upL(pad:Dig):List Dig→List Dig
 |[]=>[]
 |[a]=>[ydj a pad]
 |a::b::r=>ydj a b::upL pad r
def padN:Nat→Dig
 |0=>padL
 |n+1=>ydj (padN n) (padN n)
def rowN(l:List Dig):Nat→List Dig
 |0=>l
 |n+1=>upL (padN n) (rowN l n)
def Ys1(l:List Dig)(level:Nat)(k:Int):Dig:=atL (rowN l level) k (padN level)
def ycy(n:Nat):Nat:=if n=0 then 0 else n.log2+1
def yao(n:Int):Int:=if n<0∨65536<n then -1 else(ycy ((max n 1).toNat - 1):Nat)
theorem yqj{n k:Nat}(h:n<2 ^ k):ycy n≤k:=by
 unfold ycy
 split
 ·omega
 ·rename_i h0
  have:n.log2<k:=(Nat.log2_lt h0).2 h
  omega
theorem yNs{n:Nat}:n<2 ^ ycy n:=by
 unfold ycy
 split
 ·rename_i h; subst h; decide
 ·rename_i h0
  exact(Nat.log2_lt h0).1 (Nat.lt_succ_self _)
theorem yKn{n k:Nat}(h:2 ^ k≤n):k+1≤ycy n:=by
 have h0:n≠0:=by
  have:=Nat.two_pow_pos k
  omega
 have:=(Nat.le_log2 h0).2 h
 unfold ycy
 rw[if_neg h0]
 omega
theorem yh5(n k:Nat)(h:2 ^ k≤n):ycy n=k+ycy (n / 2 ^ k):=by
 have h1:=yNs (n:=n / 2 ^ k)
 have h2:ycy n≤k+ycy (n / 2 ^ k):=by
  apply yqj
  rw[Nat.pow_add]
  exact(Nat.div_lt_iff_lt_mul (Nat.two_pow_pos k)).1 h1 |> fun x=>by rwa [Nat.mul_comm]
 have h3:1≤n / 2 ^ k:=(Nat.one_le_div_iff (Nat.two_pow_pos k)).2 h
 have h4:k+ycy (n / 2 ^ k)≤ycy n:=by
  obtain⟨j,hj⟩:∃ j,ycy (n / 2 ^ k)=j+1:=by
   have:=yKn (n:=n / 2 ^ k) (k:=0) (by omega)
   exact⟨ycy (n / 2 ^ k) - 1,by omega⟩
  have h5:2 ^ j≤n / 2 ^ k:=by
   rcases Nat.lt_or_ge (n / 2 ^ k) (2 ^ j)with h6 | h6
   ·have:=yqj h6
    omega
   ·exact h6
  have h6:2 ^ (k+j)≤n:=by
   rw[Nat.pow_add]
   calc 2 ^ k*2 ^ j≤2 ^ k*(n / 2 ^ k):=Nat.mul_le_mul_left _ h5
    _≤n:=Nat.mul_div_le n (2 ^ k)
  have:=yKn h6
  omega
 omega
def yu0(i:Nat)(x:Dig):List Dig→Dig
 |[]=>x
 |q::r=>yu0 (i / 2) (if i % 2=0 then ydj x q else ydj q x) r
def ya3(c:Int×Dig)(i:Int)(leaf:Dig)(p:List Dig):Bool:=
 decide (0≤yao c.1∧0≤i∧i<2 ^ (yao c.1).toNat∧(p.length:Int)=yao c.1∧yu0 i.toNat leaf p=c.2)
theorem yAw{n:Int}(h0:0≤n)(h1:n≤65536):yao n=(ycy ((max n 1).toNat - 1):Nat)∧0≤yao n∧yao n≤16:=by
 have e:yao n=(ycy ((max n 1).toNat - 1):Nat):=by unfold yao; rw[if_neg (by omega)]
 have:ycy ((max n 1).toNat - 1)≤16:=yqj (by omega)
 refine⟨e,?_,?_⟩ <;> rw[e] <;> omega
theorem ym0{n:Int}(h:n<0∨65536<n):yao n=-1:=by unfold yao; rw[if_pos h]
theorem yFa{a b:Nat}(h:a≤b):(2:Int) ^ a≤2 ^ b:=by
 have h6:(2:Nat) ^ a≤2 ^ b:=Nat.pow_le_pow_right (by decide) h
 have h7:∀ k:Nat,(2:Int) ^ k=((2 ^ k:Nat):Int):=by simp
 rw[h7,h7]; omega
theorem Yer(a:Nat):(1:Int)≤2 ^ a:=yFa (a:=0) (by omega)
theorem Ym1:([0,1,2,2,3,3,3,3,4,4,4,4,4,4,4,4,5,5,5,5,5,5,5,5,5,5,5,5,5,5,5,5,6,6,6,6,6,6,6,6,6,6,6,6,6,6,6,6,6,6,6,6,6,6,6,6,6,6,6,6,6,6,6,6,7,7,7,7,7,7,7,7,7,7,7,7,7,7,7,7,7,7,7,7,7,7,7,7,7,7,7,7,7,7,7,7,7,7,7,7,7,7,7,7,7,7,7,7,7,7,7,7,7,7,7,7,7,7,7,7,7,7,7,7,7,7,7,7,8,8,8,8,8,8,8,8,8,8,8,8,8,8,8,8,8,8,8,8,8,8,8,8,8,8,8,8,8,8,8,8,8,8,8,8,8,8,8,8,8,8,8,8,8,8,8,8,8,8,8,8,8,8,8,8,8,8,8,8,8,8,8,8,8,8,8,8,8,8,8,8,8,8,8,8,8,8,8,8,8,8,8,8,8,8,8,8,8,8,8,8,8,8,8,8,8,8,8,8,8,8,8,8,8,8,8,8,8,8,8,8,8,8,8,8,8,8,8,8,8,8,8,8,8,8,8,8]:List UInt8)=(List.range 256).map (fun j=>UInt8.ofNat (ycy j)):=by kernel_rfl
theorem yk7(j:Nat)(h:j<256):((((List.range 256).map (fun j=>UInt8.ofNat (ycy j))).getD j default).toNat:Int)=ycy j:=by
 have h1:ycy j≤8:=yqj (k:=8) (by omega)
 simp[List.getD_eq_getElem?_getD,h]
 omega
theorem yMp:((List.range 256).map (fun j=>UInt8.ofNat (ycy j))).length=256:=by simp
theorem yk8(b:UInt8):pidx (.str ((List.range 256).map (fun j=>UInt8.ofNat (ycy j)))) (yaf b)=some (yaf (((List.range 256).map (fun j=>UInt8.ofNat (ycy j))).getD b.toNat default)):=Ygp _ b (by rw[yMp]; exact b.toNat_lt)
theorem yk6(m:Nat)(h:m<256):(UInt8.ofNat m).toNat=m:=by simp; omega
noncomputable def yy5:List D→Option D:=spOf (α:=Int) (fun a=>[.int .u64 a]) (fun a=>0≤a∧a<18446744073709551616) (fun a=>.int .i64 (ycy a.toNat:Int))
theorem yNg(x:Int)(h:0≤x∧x<18446744073709551616):yy5 [.int .u64 x]=some (.int .i64 (ycy x.toNat:Int)):=
 yae (fun a b h=>by simp only[List.cons.injEq,D.int.injEq,true_and,and_true]at h; simp[h]) (x) h
theorem Ycv(x:Int)(h:0≤x∧x<18446744073709551616):@wW GG (tb [] []) yfp.code (argF [.int .u64 x]) [] ⟨retQ yfp.res (.int .i64 (ycy x.toNat:Int))⟩:=by
 obtain⟨h0,h1⟩:=h
 obtain⟨n,rfl⟩:=Int.eq_ofNat_of_zero_le h0
 rw[Int.toNat_natCast]
 have d1:=yh5 n 32
 have d2:=yh5 n 16
 have d3:=yh5 n 8
 have d4:=yh5 (n / 2 ^ 32) 16
 have d5:=yh5 (n / 2 ^ 32) 8
 have d6:=yh5 (n / 2 ^ 32 / 2 ^ 16) 8
 have d7:=yh5 (n / 2 ^ 16) 8
 have b8:∀ y,y<256→ycy y≤8:=fun y hy=>yqj (k:=8) (by omega)
 unfold yfp
 rw[Ym1]
 simp only[push_cast,↓reduceIte,Nat.reduceEqDiff]
 refine yai (fun h2=>?_) (fun h2=>?_)
 ·simp (disch:=omega) only[push_cast,↓reduceIte,Nat.reduceEqDiff,Int.reduceToNat,Int.reducePow,yBs]
  ·refine yai (fun h3=>?_) (fun h3=>?_)
   ·simp (disch:=omega) only[push_cast,↓reduceIte,Nat.reduceEqDiff,Int.reduceToNat,Int.reducePow,Int.reduceAdd,yBs,yaz]
    ·refine yai (fun h4=>?_) (fun h4=>?_)
     ·simp (disch:=omega) only[push_cast,↓reduceIte,Nat.reduceEqDiff,Int.reduceToNat,Int.reducePow,Int.reduceAdd,yBs,yaz]
      ·have ey:((n:Int) / 4294967296 / 65536 / 256).toNat=n / 2 ^ 32 / 2 ^ 16 / 2 ^ 8:=by omega
       have hb:=b8 (n / 2 ^ 32 / 2 ^ 16 / 2 ^ 8) (by omega)
       have ed1:=d1 (by omega)
       have ed4:=d4 (by omega)
       have ed6:=d6 (by omega)
       simp (disch:=omega) only[push_cast,↓reduceIte,Nat.reduceEqDiff,yi7,yk8,yp8,yk7,yk6,ey,yaz]
       refine congrArg (fun z=>some (D.int .i64 z)) ?_
       omega
     ·simp (disch:=omega) only[push_cast,↓reduceIte,Nat.reduceEqDiff]
      ·have ey:((n:Int) / 4294967296 / 65536).toNat=n / 2 ^ 32 / 2 ^ 16:=by omega
       have hb:=b8 (n / 2 ^ 32 / 2 ^ 16) (by omega)
       have ed1:=d1 (by omega)
       have ed4:=d4 (by omega)
       simp (disch:=omega) only[push_cast,↓reduceIte,Nat.reduceEqDiff,yi7,yk8,yp8,yk7,yk6,ey,yaz]
       refine congrArg (fun z=>some (D.int .i64 z)) ?_
       omega
   ·simp (disch:=omega) only[push_cast,↓reduceIte,Nat.reduceEqDiff]
    ·refine yai (fun h4=>?_) (fun h4=>?_)
     ·simp (disch:=omega) only[push_cast,↓reduceIte,Nat.reduceEqDiff,Int.reduceToNat,Int.reducePow,Int.reduceAdd,yBs,yaz]
      ·have ey:((n:Int) / 4294967296 / 256).toNat=n / 2 ^ 32 / 2 ^ 8:=by omega
       have hb:=b8 (n / 2 ^ 32 / 2 ^ 8) (by omega)
       have ed1:=d1 (by omega)
       have ed5:=d5 (by omega)
       simp (disch:=omega) only[push_cast,↓reduceIte,Nat.reduceEqDiff,yi7,yk8,yp8,yk7,yk6,ey,yaz]
       refine congrArg (fun z=>some (D.int .i64 z)) ?_
       omega
     ·simp (disch:=omega) only[push_cast,↓reduceIte,Nat.reduceEqDiff]
      ·have ey:((n:Int) / 4294967296).toNat=n / 2 ^ 32:=by omega
       have hb:=b8 (n / 2 ^ 32) (by omega)
       have ed1:=d1 (by omega)
       simp (disch:=omega) only[push_cast,↓reduceIte,Nat.reduceEqDiff,yi7,yk8,yp8,yk7,yk6,ey,yaz]
       refine congrArg (fun z=>some (D.int .i64 z)) ?_
       omega
 ·simp (disch:=omega) only[push_cast,↓reduceIte,Nat.reduceEqDiff]
  ·refine yai (fun h3=>?_) (fun h3=>?_)
   ·simp (disch:=omega) only[push_cast,↓reduceIte,Nat.reduceEqDiff,Int.reduceToNat,Int.reducePow,Int.reduceAdd,yBs,yaz]
    ·refine yai (fun h4=>?_) (fun h4=>?_)
     ·simp (disch:=omega) only[push_cast,↓reduceIte,Nat.reduceEqDiff,Int.reduceToNat,Int.reducePow,Int.reduceAdd,yBs,yaz]
      ·have ey:((n:Int) / 65536 / 256).toNat=n / 2 ^ 16 / 2 ^ 8:=by omega
       have hb:=b8 (n / 2 ^ 16 / 2 ^ 8) (by omega)
       have ed2:=d2 (by omega)
       have ed7:=d7 (by omega)
       simp (disch:=omega) only[push_cast,↓reduceIte,Nat.reduceEqDiff,yi7,yk8,yp8,yk7,yk6,ey,yaz]
       refine congrArg (fun z=>some (D.int .i64 z)) ?_
       omega
     ·simp (disch:=omega) only[push_cast,↓reduceIte,Nat.reduceEqDiff]
      ·have ey:((n:Int) / 65536).toNat=n / 2 ^ 16:=by omega
       have hb:=b8 (n / 2 ^ 16) (by omega)
       have ed2:=d2 (by omega)
       simp (disch:=omega) only[push_cast,↓reduceIte,Nat.reduceEqDiff,yi7,yk8,yp8,yk7,yk6,ey,yaz]
       refine congrArg (fun z=>some (D.int .i64 z)) ?_
       omega
   ·simp (disch:=omega) only[push_cast,↓reduceIte,Nat.reduceEqDiff]
    ·refine yai (fun h4=>?_) (fun h4=>?_)
     ·simp (disch:=omega) only[push_cast,↓reduceIte,Nat.reduceEqDiff,Int.reduceToNat,Int.reducePow,Int.reduceAdd,yBs,yaz]
      ·have ey:((n:Int) / 256).toNat=n / 2 ^ 8:=by omega
       have hb:=b8 (n / 2 ^ 8) (by omega)
       have ed3:=d3 (by omega)
       simp (disch:=omega) only[push_cast,↓reduceIte,Nat.reduceEqDiff,yi7,yk8,yp8,yk7,yk6,ey,yaz]
       refine congrArg (fun z=>some (D.int .i64 z)) ?_
       omega
     ·simp (disch:=omega) only[push_cast,↓reduceIte,Nat.reduceEqDiff]
      ·have ey:((n:Int)).toNat=n:=by omega
       have hb:=b8 (n) (by omega)
       simp (disch:=omega) only[push_cast,↓reduceIte,Nat.reduceEqDiff,yi7,yk8,yp8,yk7,yk6,ey,yaz]
       refine congrArg (fun z=>some (D.int .i64 z)) ?_
       omega
theorem Yh6:Contract Tryz.prog GG 129 yy5:=
 yac ytl (yan all_nil all_nil) (fun a h=>Ycv a h)
noncomputable def yvt:List D→Option D:=spOf (α:=Unit) (fun _=>[]) (fun _=>True) (fun _=>digD padL)
theorem yqf:yvt []=some (digD padL):=
 yae (fun _ _ _=>rfl) () trivial
theorem Yrg:@wW GG (tb [(62,ymg)] []) ylr.code (argF []) [] ⟨retQ ylr.res (digD padL)⟩:=by
 unfold ylr
 have c:ymg [.str [112,97,100],.slc 0 [] false]=some (digD padL):=ysz [112,97,100] [] (by decide)
 simp (disch:=omega) only[push_cast,↓reduceIte,Nat.reduceEqDiff,c]
theorem yQm:Contract Tryz.prog GG 20 yvt:=
 yac yDw (yan (all_cons yGm all_nil) all_nil) (fun a h=>Yrg )
noncomputable def yVq:List D→Option D:=spOf (α:=Unit) (fun _=>[]) (fun _=>True) (fun _=>digD padL)
theorem Ya9:yVq []=some (digD padL):=
 yae (fun _ _ _=>rfl) () trivial
noncomputable def ymh:List D→Option D:=spOf (α:=Dig×Dig) (fun a=>[digD a.1,digD a.2]) (fun a=>True) (fun a=>digD (ydj a.1 a.2))
theorem ybx(a:Dig)(b:Dig):ymh [digD a,digD b]=some (digD (ydj a b)):=
 yae (fun⟨a0,a1⟩ ⟨b0,b1⟩ h=>by simp only[List.cons.injEq,yl9,and_true]at h; simp[h]) (a,b) trivial
theorem yUw(a:Dig)(b:Dig):@wW GG (tb [(62,ymg)] []) yhb.code (argF [digD a,digD b]) [] ⟨retQ yhb.res (digD (ydj a b))⟩:=by
 unfold yhb
 have ha:=a.len
 have hb:=b.len
 have hl:(a.bs++b.bs).length=64:=by rw[List.length_append,ha,hb]
 have c:=ysz [110,111,100,101] (a.bs++b.bs) (by rw[hl]; decide)
 simp (disch:=omega) only[push_cast,↓reduceIte,Nat.reduceEqDiff,Nat.reduceAdd,Yfj,yCa,c]
 rfl
theorem yA9:Contract Tryz.prog GG 95 ymh:=
 yac yw8 (yan (all_cons yGm all_nil) all_nil) (fun a h=>yUw a.1 a.2)
noncomputable def yB8:List D→Option D:=spOf (α:=Dig×Dig) (fun a=>[digD a.1,digD a.2]) (fun a=>True) (fun a=>digD (ydj a.1 a.2))
theorem yKb(a:Dig)(b:Dig):yB8 [digD a,digD b]=some (digD (ydj a b)):=
 yae (fun⟨a0,a1⟩ ⟨b0,b1⟩ h=>by simp only[List.cons.injEq,yl9,and_true]at h; simp[h]) (a,b) trivial
noncomputable def yLg:List D→Option D:=spOf (α:=Int) (fun a=>[.int .u64 a]) (fun a=>0≤a∧a<18446744073709551616) (fun a=>.int .i64 (ycy a.toNat:Int))
theorem Ybg(x:Int)(h:0≤x∧x<18446744073709551616):yLg [.int .u64 x]=some (.int .i64 (ycy x.toNat:Int)):=
 yae (fun a b h=>by simp only[List.cons.injEq,D.int.injEq,true_and,and_true]at h; simp[h]) (x) h
theorem Yro(x:Int)(h:0≤x∧x<18446744073709551616):@wW GG (tb [(129,yy5)] []) yhd.code (argF [.int .u64 x]) [] ⟨retQ yhd.res (.int .i64 (ycy x.toNat:Int))⟩:=by
 unfold yhd
 simp (disch:=omega) only[push_cast,↓reduceIte,Nat.reduceEqDiff,yNg]
theorem Yvs:Contract Tryz.prog GG 75 yLg:=
 yac yxa (yan (all_cons Yh6 all_nil) all_nil) (fun a h=>Yro a h)
noncomputable def ymi:List D→Option D:=spOf (α:=Int) (fun a=>[.int .i64 a]) (fun a=>True) (fun a=>.int .i64 (yao a))
theorem ye9(n:Int):ymi [.int .i64 n]=some (.int .i64 (yao n)):=
 yae (fun a b h=>by simp only[List.cons.injEq,D.int.injEq,true_and,and_true]at h; simp[h]) (n) trivial
theorem Ycr(n:Int):@wW GG (tb [(75,yLg)] []) yii.code (argF [.int .i64 n]) [] ⟨retQ yii.res (.int .i64 (yao n))⟩:=by
 unfold yii
 simp only[push_cast,↓reduceIte,Nat.reduceEqDiff,Int.reduceNeg]
 refine yai (fun h1=>?_) (fun h1=>?_)
 ·simp only[push_cast,↓reduceIte,Nat.reduceEqDiff,Int.reduceNeg,h1,ym0 (.inl h1)]
 ·simp only[push_cast,↓reduceIte,Nat.reduceEqDiff,Int.reduceNeg,h1]
  refine yai (fun h2=>?_) (fun h2=>?_)
  ·simp only[push_cast,↓reduceIte,Int.reduceNeg,h2,ym0 (.inr h2)]
  ·have e:(max n 1 - 1).toNat=(max n 1).toNat - 1:=by omega
   have e2:=(yAw (n:=n) (by omega) (by omega)).1
   simp (disch:=omega) only[push_cast,↓reduceIte,Nat.reduceEqDiff,h2,ydy,yGj,Ybg,e2,e]
theorem yyc:Contract Tryz.prog GG 25 ymi:=
 yac yyn (yan (all_cons Yvs all_nil) all_nil) (fun a h=>Ycr a)
structure Ins where
 op:Int
 n:Int
 m:Int
 deriving DecidableEq,Inhabited
structure Sta where
 pc:Int
 fuel:Int
 status:Int
 clause:Int
 stack:List Int
 deriving DecidableEq,Inhabited
structure Opn where
 pc:Int
 fuel:Int
 status:Int
 clause:Int
 top:List Int
 depth:Int
 rest:Dig
 deriving DecidableEq
def insC(x:Ins):List D:=[.int .i64 x.op,.int .i64 x.n,.int .i64 x.m]
def insD(x:Ins):D:=.agg (insC x)
def ybq(l:List Int):D:=.slc (nz 1 (l.map nI)) (l.map nI) false
def staC(s:Sta):List D:=[.int .i64 s.pc,.int .i64 s.fuel,.int .i64 s.status,.int .i64 s.clause,ybq s.stack]
def staD(s:Sta):D:=.agg (staC s)
def opnC(o:Opn):List D:=.int .i64 o.pc::.int .i64 o.fuel::.int .i64 o.status::.int .i64 o.clause::ybq o.top::.int .i64 o.depth::digC o.rest
def opnD(o:Opn):D:=.agg (opnC o)
def evC(v:Int×List Int):List D:=.int .i64 v.1::v.2.map nI
def evD(v:Int×List Int):D:=.agg (evC v)
theorem ymu{a b:List Int}:ybq a=ybq b↔a=b:=by
 refine⟨fun h=>?_,fun h=>by rw[h]⟩
 simp only[ybq,D.slc.injEq,and_true]at h
 exact yq5.1 h.2
theorem yq6{a b:Ins}:insD a=insD b↔a=b:=by
 obtain⟨a1,a2,a3⟩:=a; obtain⟨b1,b2,b3⟩:=b
 simp[insD,insC]
theorem yea{a b:List Ins}:a.map insD=b.map insD↔a=b:=⟨ypw fun _ _=>yq6.1,fun h=>by rw[h]⟩
theorem yxn{a b:Sta}:staD a=staD b↔a=b:=by
 obtain⟨a1,a2,a3,a4,a5⟩:=a; obtain⟨b1,b2,b3,b4,b5⟩:=b
 simp[staD,staC,ymu]
theorem yq0{a b:Opn}:opnD a=opnD b↔a=b:=by
 obtain⟨a1,a2,a3,a4,a5,a6,a7⟩:=a; obtain⟨b1,b2,b3,b4,b5,b6,b7⟩:=b
 simp[opnD,opnC,ymu,yld]
theorem yh2{a b:Int×List Int}:evD a=evD b↔a=b:=by
 obtain⟨a1,a2⟩:=a; obtain⟨b1,b2⟩:=b
 simp[evD,evC,yq5]
def yJj(t:List UInt8)(v:Val):Dig:=yvp t (encF v)
def Ydf:List UInt8:=[112,114,111,103,114,97,109]
def tInp:List UInt8:=[105,110,112,117,116,115]
def tStk:List UInt8:=[115,116,97,99,107]
def tSta:List UInt8:=[115,116,97,116,101]
def Ysu(d:Dig)(x:Ins):Dig:=yJj Ydf (.list [.int x.op,.int x.n,.int x.m,.bytes d.bs])
def yvz(c:List Ins):Dig:=c.foldl Ysu yab
def inpF(v:Int×List Int):Dig:=yJj tInp (.list [.int v.1,.list (v.2.map .int)])
def Ysy(d:Dig)(n:Int):Dig:=yJj tStk (.list [.int n,.bytes d.bs])
def ypd(d:Dig)(l:List Int):Dig:=l.foldl Ysy d
def yBx(c:List Ins)(v:Int×List Int)(o:Opn):Dig:=yJj tSta (.list [.bytes (yvz c).bs,.bytes (inpF v).bs,.int o.pc,.int o.fuel,.int o.status,.int o.clause,.int (o.depth+o.top.length),.bytes (ypd o.rest o.top).bs])
def yFg(s:Sta)(n:Int):Nat:=s.stack.length - (min (max n 0) s.stack.length).toNat
def yIk(s:Sta)(n:Int):Opn:=⟨s.pc,s.fuel,s.status,s.clause,s.stack.drop (yFg s n),yFg s n,ypd yab (s.stack.take (yFg s n))⟩
def digF(c:List Ins)(v:Int×List Int)(s:Sta):Dig:=yBx c v (yIk s s.stack.length)
def ycx(c:List Ins)(v:Int×List Int)(o:Opn):Dig:=if o.depth<0∨64<o.depth then yab else yBx c v o
theorem yY2(n:Int):(intB n).length≤9:=by
 unfold intB
 split
 ·have:=yqw 8 (u64N n)
  simp only[List.length_cons,yn9]; omega
 ·have:=yqw 8 (yxk (u64N n))
  simp only[List.length_cons,yn9]; omega
theorem yP4:∀ b:List UInt8,(b.flatMap escB).length≤2*b.length
 |[]=>by simp
 |c::b=>by
  have:=yP4 b
  have h1:(escB c).length≤2:=by unfold escB; split <;> simp
  simp only[List.flatMap_cons,List.length_append,List.length_cons]
  omega
theorem yg6(n:Int):(encV (.int n)).length≤9:=by rw[yGe]; exact yY2 n
theorem yuy(d:Dig):(encV (.bytes d.bs)).length≤67:=by
 have:=yP4 d.bs
 rw[d.len]at this
 rw[yra]
 simp only[List.length_cons,List.length_append,List.length_nil]
 omega
theorem yJs:∀ l:List Int,((l.map Val.int).flatMap encV).length≤9*l.length
 |[]=>by simp
 |n::l=>by
  have:=yJs l
  have:=yg6 n
  simp only[List.map_cons,List.flatMap_cons,List.length_append,List.length_cons]
  omega
theorem yTd(st:St)(key:Nat):imm1 st (.bsl key 0 32 1 false)=(elB st[key]?).map fun p=>.slc (nz 1 p.2) p.2 false:=by
 rw[← yAv]
 simp only[imm1,bslI,ygl]
 cases ylf st key 0 32 1 false with
 |none=>rfl
 |some els=>
  dsimp only
  split <;> rfl
theorem yz9(st:St)(v:Val):imm st (valD v)=some (valD v):=by
 obtain⟨k,n,B,M,hC,hD⟩:=ygs v
 rw[hD,Ygi]
theorem yuq(v:Val):keys (valD v)=[]:=by
 obtain⟨k,n,B,M,hC,hD⟩:=ygs v
 rw[hD,yPi]
theorem yXt(v:Val):(valD v).noRef=false:=by
 obtain⟨k,n,B,M,hC,hD⟩:=ygs v
 rw[hD]; rfl
theorem Yar(v:Val):(valD v).cells.length=4:=by
 obtain⟨k,n,B,M,hC,hD⟩:=ygs v
 rw[hD]; rfl
theorem yxz(l:List Val)(h:l.length≤1000):litD 4 (l.map valD)=some (.slc 4 (l.map valD) true):=by
 have h1:((l.map valD).all fun e=>e.cells.length == 4)=true:=by
  rw[List.all_eq_true]
  intro e he
  obtain⟨v,_,rfl⟩:=List.mem_map.1 he
  simp[Yar]
 have h2:decide ((l.map valD).length*4≤16777216)=true:=decide_eq_true (by rw[List.length_map]; omega)
 simp only[litD,h1,h2]
 rfl
theorem yew:boxD (.agg [.int .i64 0,.int .i64 0,.int .i64 0])=some [.int .i64 0,.int .i64 0,.int .i64 0]:=(rfl)
theorem yav(x:Ins):boxD (insD x)=some (insC x):=(rfl)
theorem yrq(x:Ins):stO (some ⟨false,1,[.int .i64 0,.int .i64 0,.int .i64 0],false⟩) 3 0 (insD x)=some ⟨false,1,insC x,false⟩:=(rfl)
theorem ybe(lent:Bool)(x:Ins):ldO (some ⟨false,1,insC x,lent⟩) 1 false 0=some (.int .i64 x.op):=(rfl)
theorem yg2(lent:Bool)(x:Ins):ldO (some ⟨false,1,insC x,lent⟩) 1 false 1=some (.int .i64 x.n):=(rfl)
theorem yMr(lent:Bool)(x:Ins):ldO (some ⟨false,1,insC x,lent⟩) 1 false 2=some (.int .i64 x.m):=(rfl)
theorem yuo(lent:Bool)(x:Ins):ldO (some ⟨false,1,insC x,lent⟩) 3 true 0=some (insD x):=(rfl)
theorem yfv(st:St)(x:Ins):ydd st 3 true (.eptr (insD x) 0)=some (insD x):=(rfl)
theorem Ynv(st:St)(x:Ins):imm st (insD x)=some (insD x):=(rfl)
theorem yAb(st:St)(c:List Ins)(t:Bool)(i:Nat)(h:i<c.length):yfw st 3 (.slc (nz 3 (c.map insD)) (c.map insD) t) (.int .i64 (i:Int))=some (.eptr (insD (c.getD i default)) 0):=by
 have:=yi6 st 3 insD c t .i64 (i:Int) (by omega) (by omega)
 simpa using this
theorem yPt(st:St)(c:List Int)(t:Bool)(i:Nat)(h:i<c.length):yfw st 1 (.slc (nz 1 (c.map nI)) (c.map nI) t) (.int .i64 (i:Int))=some (.eptr (nI (c.getD i default)) 0):=by
 have:=yi6 st 1 nI c t .i64 (i:Int) (by omega) (by omega)
 simpa using this
theorem yOr(st:St)(n:Int):ydd st 1 false (.eptr (nI n) 0)=some (.int .i64 n):=(rfl)
theorem Yg7(n:Int):yar [.int .i64 0,.int .i64 0,.slc 0 [] true,.slc 0 [] true] [(0,1,.int .i64 1),(1,1,.int .i64 n)]=some [.int .i64 1,.int .i64 n,.slc 0 [] true,.slc 0 [] true]:=(rfl)
theorem Yg9(k:Nat):yar [.int .i64 0,.int .i64 0,.slc 0 [] true,.slc 0 [] true] [(0,1,.int .i64 2),(2,1,.bsl k 0 32 1 false)]=some [.int .i64 2,.int .i64 0,.bsl k 0 32 1 false,.slc 0 [] true]:=(rfl)
theorem Yg8(sz:Nat)(l:List D)(t:Bool):yar [.int .i64 0,.int .i64 0,.slc 0 [] true,.slc 0 [] true] [(0,1,.int .i64 3),(3,1,.slc sz l t)]=some [.int .i64 3,.int .i64 0,.slc 0 [] true,.slc sz l t]:=(rfl)
theorem yVl(a b c d:D):stO (some ⟨false,1,[.int .i64 0,.int .i64 0,.slc 0 [] true,.slc 0 [] true],false⟩) 4 0 (.agg [a,b,c,d])=if [a,b,c,d].all D.isCell then some ⟨false,1,[a,b,c,d],false⟩else none:=by
 simp only[stO]
 rfl
theorem ld_4(lent:Bool)(a b c d:D):ldO (some ⟨false,1,[a,b,c,d],lent⟩) 4 true 0=some (.agg [a,b,c,d]):=(rfl)
theorem Yhn(k o n s:Nat)(ag:Bool):(D.bsl k o n s ag).isCell=true:=(rfl)
noncomputable def yvr:List D→Option D:=spOf (α:=Int) (fun a=>[.int .i64 a]) (fun a=>True) (fun a=>valD (.int a))
theorem yqc(n:Int):yvr [.int .i64 n]=some (valD (.int n)):=
 yae (fun a b h=>by simp only[List.cons.injEq,D.int.injEq,true_and,and_true]at h; simp[h]) (n) trivial
theorem Yq2(n:Int):@wW GG (tb [] []) yli.code (argF [.int .i64 n]) [] ⟨retQ yli.res (valD (.int n))⟩:=by
 unfold yli
 rw[yje]
 simp (disch:=first|omega|decide) only[push_cast,↓reduceIte,Nat.reduceEqDiff,yKl,Yg7,yVl,ld_4]
 rfl
theorem yQj:Contract Tryz.prog GG 145 yvr:=
 yac yDs (yan all_nil all_nil) (fun a h=>Yq2 a)
noncomputable def yy2:List D→Option D:=spOf (α:=Dig) (fun a=>[digD a]) (fun a=>True) (fun a=>valD (.bytes a.bs))
theorem yA7(d:Dig):yy2 [digD d]=some (valD (.bytes d.bs)):=
 yae (fun a b h=>by simp only[List.cons.injEq,yl9,and_true]at h; simp[h]) (d) trivial
theorem Yq8(d:Dig):@wW GG (tb [] []) yoi.code (argF [digD d]) [] ⟨retQ yoi.res (valD (.bytes d.bs))⟩:=by
 unfold yoi
 rw[yfd]
 simp (disch:=first|omega|decide) only[push_cast,↓reduceIte,Nat.reduceEqDiff,yKl,yCa,Yg9,yVl,ld_4,Yhn,yTd]
 rfl
theorem Ybj:Contract Tryz.prog GG 142 yy2:=
 yac yHa (yan all_nil all_nil) (fun a h=>Yq8 a)
noncomputable def ynk:List D→Option D:=spOf (α:=List Val) (fun a=>[.slc (nz 4 (a.map valD)) (a.map valD) false]) (fun a=>True) (fun a=>valD (.list a))
theorem yu4(l:List Val):ynk [.slc (nz 4 (l.map valD)) (l.map valD) false]=some (valD (.list l)):=
 yae (fun a b h=>by simp only[List.cons.injEq,D.slc.injEq,and_true,Yc5]at h; simp[h]) (l) trivial
theorem Yq3(l:List Val):@wW GG (tb [] []) yrh.code (argF [.slc (nz 4 (l.map valD)) (l.map valD) false]) [] ⟨retQ yrh.res (valD (.list l))⟩:=by
 unfold yrh
 rw[yj0]
 simp (disch:=first|omega|decide) only[push_cast,↓reduceIte,Nat.reduceEqDiff,yKl,Yg8,yVl,ld_4]
 rfl
theorem yQk:Contract Tryz.prog GG 141 ynk:=
 yac yK1 (yan all_nil all_nil) (fun a h=>Yq3 a)
noncomputable def yvs:List D→Option D:=spOf (α:=List UInt8×Val) (fun a=>[.str a.1,valD a.2]) (fun a=>a.1.length≤1000∧depV a.2≤16∧(encV a.2).length≤4294967000) (fun a=>digD (yJj a.1 a.2))
theorem yu5(t:List UInt8)(v:Val)(h:t.length≤1000∧depV v≤16∧(encV v).length≤4294967000):yvs [.str t,valD v]=some (digD (yJj t v)):=
 yae (fun⟨a0,a1⟩ ⟨b0,b1⟩ h=>by simp only[List.cons.injEq,D.str.injEq,and_true,ytd]at h; simp[h]) (t,v) h
theorem Yq5(t:List UInt8)(v:Val)(h:t.length≤1000∧depV v≤16∧(encV v).length≤4294967000):@wW GG (tb [(167,yy6),(62,ymg)] []) ylo.code (argF [.str t,valD v]) [] ⟨retQ ylo.res (digD (yJj t v))⟩:=by
 unfold ylo yJj
 have h1:=yNi v h.2
 have hl:(encF v).length≤65536:=by
  unfold encF
  split
  ·assumption
  ·simp
 have h2:=ysz t (encF v) (by omega)
 obtain⟨k,n,B,M,hC,hD⟩:=ygs v
 rw[hD]at h1
 rw[hD]
 simp (disch:=first|omega|decide) only[push_cast,↓reduceIte,Nat.reduceEqDiff,yKm,ld_v,Ygi,yPi,h1,bsO,h2]
theorem yQl:Contract Tryz.prog GG 140 yvs:=
 yac yDt (yan (all_cons Yh8 (all_cons yGm all_nil)) all_nil) (fun a h=>Yq5 a.1 a.2 h)
theorem yRu(c:List Ins)(x:Ins):yvz (c++[x])=Ysu (yvz c) x:=by unfold yvz; rw[List.foldl_append]; rfl
theorem Yeq(d:Dig)(x:Ins):Ydf.length≤1000∧depV (.list [.int x.op,.int x.n,.int x.m,.bytes d.bs])≤16∧(encV (.list [.int x.op,.int x.n,.int x.m,.bytes d.bs])).length≤4294967000:=by
 have h1:=yg6 x.op
 have h2:=yg6 x.n
 have h3:=yg6 x.m
 have h4:=yuy d
 refine⟨by decide,by simp[depV,yjn],?_⟩
 rw[yg5]
 simp only[List.length_cons,List.length_append,List.length_nil,List.flatMap_cons,List.flatMap_nil]
 omega
theorem lit_4(a b c d:Val):litD 4 [valD a,valD b,valD c,valD d]=some (.slc 4 [valD a,valD b,valD c,valD d] true):=yxz [a,b,c,d] (by simp)
theorem lst_4(a b c d:Val):ynk [.slc 4 [valD a,valD b,valD c,valD d] false]=some (valD (.list [a,b,c,d])):=yu4 [a,b,c,d]
theorem Ytf(a b:Val):litD 4 [valD a,valD b]=some (.slc 4 [valD a,valD b] true):=yxz [a,b] (by simp)
theorem Ytb(a b:Val):ynk [.slc 4 [valD a,valD b] false]=some (valD (.list [a,b])):=yu4 [a,b]
theorem lit_8(a b c d e f g h:Val):litD 4 [valD a,valD b,valD c,valD d,valD e,valD f,valD g,valD h]=some (.slc 4 [valD a,valD b,valD c,valD d,valD e,valD f,valD g,valD h] true):=yxz [a,b,c,d,e,f,g,h] (by simp)
theorem lst_8(a b c d e f g h:Val):ynk [.slc 4 [valD a,valD b,valD c,valD d,valD e,valD f,valD g,valD h] false]=some (valD (.list [a,b,c,d,e,f,g,h])):=yu4 [a,b,c,d,e,f,g,h]
noncomputable def yLa:List D→Option D:=spOf (α:=List Ins) (fun a=>[.slc (nz 3 (a.map insD)) (a.map insD) false]) (fun a=>a.length≤4294967296) (fun a=>digD (yvz a))
theorem Ya2(c:List Ins)(h:c.length≤4294967296):yLa [.slc (nz 3 (c.map insD)) (c.map insD) false]=some (digD (yvz c)):=
 yae (fun a b h=>by simp only[List.cons.injEq,D.slc.injEq,and_true,yea]at h; simp[h]) (c) h
theorem Yq1(c:List Ins)(h:c.length≤4294967296):@wW GG (tb [(145,yvr),(142,yy2),(141,ynk),(140,yvs)] []) yjs.code (argF [.slc (nz 3 (c.map insD)) (c.map insD) false]) [] ⟨retQ yjs.res (digD (yvz c))⟩:=by
 unfold yjs
 simp (disch:=first|omega|decide) only[push_cast,↓reduceIte,Nat.reduceEqDiff]
 refine ybr (fun i:Nat=>[(2,.ptr 0 0),(5,.slc (nz 3 (c.map insD)) (c.map insD) false),(6,.int .i64 (c.length:Int)),(7,.int .i64 (i:Int))])
  (fun i=>[⟨false,1,digC (yvz (c.take i)),false⟩]) (fun i=>i≤c.length) (fun i=>c.length - i) 0 (by simp only[push_cast,↓reduceIte,Nat.reduceEqDiff,Nat.reduceLT,Nat.reduceLeDiff,↓Int.reduceNatCast'] <;> rfl) (by omega) ?_
 intro i hi
 unfold yoz
 simp (disch:=first|omega|decide) only[push_cast,↓reduceIte,Nat.reduceEqDiff]
 refine yai (fun h2=>?_) (fun h2=>?_)
 ·have hil:i<c.length:=by omega
  have hx:=yAb [⟨false,1,digC (yvz (c.take i)),false⟩] c false i hil
  have hts:=yj2 c hil
  obtain⟨x,hxe⟩:∃ x,c.getD i default=x:=⟨_,rfl⟩
  rw[hxe]at hx hts
  have hh:=yu5 Ydf (.list [.int x.op,.int x.n,.int x.m,.bytes (yvz (c.take i)).bs]) (Yeq _ _)
  simp only[Ydf]at hh
  simp (disch:=first|omega|decide) only[push_cast,↓reduceIte,Nat.reduceEqDiff,Nat.reduceLT,Nat.reduceLeDiff,Nat.reduceAdd,hx,yfv,yew,yrq,ybe,yg2,yMr,yqc,yA7,yz9,yuq,lit_4,lst_4,hh,yaz]
  refine yaj (i+1) (by omega) (by omega) ?_
  rw[hts,yRu]
  simp only[push_cast] <;> rfl
 ·obtain rfl:i=c.length:=by omega
  rw[show(c.take c.length)=c from List.take_length]
  simp (disch:=first|omega|decide) only[push_cast,↓reduceIte,Nat.reduceEqDiff]
theorem Yvf:Contract Tryz.prog GG 143 yLa:=
 yac yBn (yan (all_cons yQj (all_cons Ybj (all_cons yQk (all_cons yQl all_nil)))) all_nil) (fun a h=>Yq1 a h)
theorem ySe(d:Dig)(l:List Int)(n:Int):ypd d (l++[n])=Ysy (ypd d l) n:=by unfold ypd; rw[List.foldl_append]; rfl
theorem Yfd(d:Dig)(n:Int):tStk.length≤1000∧depV (.list [.int n,.bytes d.bs])≤16∧(encV (.list [.int n,.bytes d.bs])).length≤4294967000:=by
 have h1:=yg6 n
 have h4:=yuy d
 refine⟨by decide,by simp[depV,yjn],?_⟩
 rw[yg5]
 simp only[List.length_cons,List.length_append,List.length_nil,List.flatMap_cons,List.flatMap_nil]
 omega
noncomputable def yxo:List D→Option D:=spOf (α:=Dig×List Int) (fun a=>[digD a.1,.slc (nz 1 (a.2.map nI)) (a.2.map nI) false]) (fun a=>a.2.length≤4294967296) (fun a=>digD (ypd a.1 a.2))
theorem yDc(d:Dig)(l:List Int)(h:l.length≤4294967296):yxo [digD d,.slc (nz 1 (l.map nI)) (l.map nI) false]=some (digD (ypd d l)):=
 yae (fun⟨a0,a1⟩ ⟨b0,b1⟩ h=>by simp only[List.cons.injEq,D.slc.injEq,yl9,and_true,yq5]at h; simp[h]) (d,l) h
theorem Yj8(d:Dig)(l:List Int)(h:l.length≤4294967296):@wW GG (tb [(145,yvr),(142,yy2),(141,ynk),(140,yvs)] []) yrg.code (argF [digD d,.slc (nz 1 (l.map nI)) (l.map nI) false]) [] ⟨retQ yrg.res (digD (ypd d l))⟩:=by
 unfold yrg
 simp (disch:=first|omega|decide) only[push_cast,↓reduceIte,Nat.reduceEqDiff]
 refine ybr (fun i:Nat=>[(2,.ptr 0 0),(4,.ptr 1 0),(7,.slc (nz 1 (l.map nI)) (l.map nI) false),(8,.int .i64 (l.length:Int)),(9,.int .i64 (i:Int))])
  (fun i=>[⟨false,1,digC (ypd d (l.take i)),false⟩,⟨false,1,digC yab,false⟩]) (fun i=>i≤l.length) (fun i=>l.length - i) 0 (by simp only[push_cast,↓reduceIte,Nat.reduceEqDiff,Nat.reduceLT,Nat.reduceLeDiff,Nat.reduceAdd,↓Int.reduceNatCast'] <;> rfl) (by omega) ?_
 intro i hi
 unfold yvb
 simp (disch:=first|omega|decide) only[push_cast,↓reduceIte,Nat.reduceEqDiff]
 refine yai (fun h2=>?_) (fun h2=>?_)
 ·have hil:i<l.length:=by omega
  have hx:=yPt [⟨false,1,digC (ypd d (l.take i)),false⟩,⟨false,1,digC yab,false⟩] l false i hil
  have hts:=yj2 l hil
  obtain⟨x,hxe⟩:∃ x,l.getD i default=x:=⟨_,rfl⟩
  rw[hxe]at hx hts
  have hh:=yu5 tStk (.list [.int x,.bytes (ypd d (l.take i)).bs]) (Yfd _ _)
  simp only[tStk]at hh
  simp (disch:=first|omega|decide) only[push_cast,↓reduceIte,Nat.reduceEqDiff,Nat.reduceLT,Nat.reduceLeDiff,Nat.reduceAdd,hx,yOr,yqc,yA7,yz9,yuq,Ytf,Ytb,hh,yaz]
  refine yaj (i+1) (by omega) (by omega) ?_
  rw[hts,ySe]
  simp only[push_cast] <;> rfl
 ·obtain rfl:i=l.length:=by omega
  rw[show(l.take l.length)=l from List.take_length]
  simp (disch:=first|omega|decide) only[push_cast,↓reduceIte,Nat.reduceEqDiff,Nat.reduceAdd]
theorem Ybi:Contract Tryz.prog GG 146 yxo:=
 yac yK0 (yan (all_cons yQj (all_cons Ybj (all_cons yQk (all_cons yQl all_nil)))) all_nil) (fun a h=>Yj8 a.1 a.2 h)
noncomputable def yK9:List D→Option D:=spOf (α:=List Int) (fun a=>[.slc (nz 1 (a.map nI)) (a.map nI) false]) (fun a=>a.length≤4294967296) (fun a=>digD (ypd yab a))
theorem Ya1(l:List Int)(h:l.length≤4294967296):yK9 [.slc (nz 1 (l.map nI)) (l.map nI) false]=some (digD (ypd yab l)):=
 yae (fun a b h=>by simp only[List.cons.injEq,D.slc.injEq,and_true,yq5]at h; simp[h]) (l) h
theorem Yq0(l:List Int)(h:l.length≤4294967296):@wW GG (tb [(146,yxo)] []) yok.code (argF [.slc (nz 1 (l.map nI)) (l.map nI) false]) [] ⟨retQ yok.res (digD (ypd yab l))⟩:=by
 unfold yok
 have hc:=yDc yab l h
 simp (disch:=first|omega|decide) only[push_cast,↓reduceIte,Nat.reduceEqDiff,hc]
theorem Yve:Contract Tryz.prog GG 96 yK9:=
 yac yHc (yan (all_cons Ybi all_nil) all_nil) (fun a h=>Yq0 a h)
theorem Ynr(v:Int×List Int)(h:v.2.length=16):tInp.length≤1000∧depV (.list [.int v.1,.list (v.2.map .int)])≤16∧(encV (.list [.int v.1,.list (v.2.map .int)])).length≤4294967000:=by
 have h1:=yg6 v.1
 have h4:=yJs v.2
 have hd:∀ l:List Int,yjn (l.map .int)=0:=by
  intro l
  induction l with
  |nil=>simp[yjn]
  |cons a l ih=>simp[yjn,depV,ih]
 refine⟨by decide,by simp[depV,yjn,hd],?_⟩
 rw[yg5]
 simp only[List.length_cons,List.length_append,List.length_nil,List.flatMap_cons,List.flatMap_nil,yg5]
 omega
theorem yz5(l:List Int):(l.map nI).all D.isCell=true:=yum nI (fun _=>rfl) l
theorem yh1(l:List Int):(l.map nI).all yas=true:=by
 rw[List.all_eq_true]
 intro x hx
 obtain⟨n,_,rfl⟩:=List.mem_map.1 hx
 rfl
theorem yGc(v:Int×List Int):evC v=(v.1::v.2).map nI:=(rfl)
theorem ydo(v:Int×List Int):boxD (evD v)=some (evC v):=by
 rw[show boxD (evD v)=if(evC v).all D.isCell then some (evC v)else none from rfl,yGc,if_pos (yz5 _)]
theorem ybg(st:St)(v:Int×List Int):imm st (evD v)=some (evD v):=ymj st (yh1 (v.1::v.2))
theorem ycn(v:Int×List Int):keys (evD v)=[]:=yju (yh1 (v.1::v.2))
theorem Yjr(v:Int×List Int):(evC v).flatMap hk=[]:=ykc (yh1 (v.1::v.2))
theorem yWp(m:Nat)(σ:List Nat)(v:Int×List Int):(evC v).map (ren m σ)=evC v:=ygm m σ (yh1 (v.1::v.2))
theorem ypf{v:Int×List Int}(h:v.2.length=16)(sz:Nat)(lent:Bool):ldO (some ⟨false,sz,evC v,lent⟩) 17 true 0=some (evD v):=yh0 sz lent _ 17 (by simp[evC,h])
theorem Ytn(v:Int×List Int)(sz:Nat)(lent:Bool):ldO (some ⟨false,sz,evC v,lent⟩) 1 false 0=some (.int .i64 v.1):=ycs (A:=[]) (C:=v.2.map nI) rfl rfl
theorem Ytm{v:Int×List Int}(h:v.2.length=16)(sz:Nat)(lent:Bool):ldO (some ⟨false,sz,evC v,lent⟩) 16 true 1=some (.agg (v.2.map nI)):=yj9 (A:=[.int .i64 v.1]) (B:=v.2.map nI) (C:=[]) (by simp[evC]) rfl (by simp[h])
theorem Yn1(l:List Int)(i:Nat)(h:i<l.length):yIf l.length 1 false (.agg (l.map nI)) (.int .i64 (i:Int))=some (nI (l.getD i default)):=by
 have h1:yd5 (.int .i64 (i:Int))=some i:=by simp[yd5]
 simp only[yIf,h1,if_pos h,Nat.mul_one]
 refine yZy (A:=(l.take i).map nI) (C:=(l.drop (i+1)).map nI) ?_ (by simp; omega)
 rw[← List.map_cons,← List.map_append]
 congr 1
 have:l=l.take i++l.drop i:=(List.take_append_drop _ _).symm
 rw[List.drop_eq_getElem_cons h]at this
 rw[List.getD_eq_getElem?_getD,List.getElem?_eq_getElem h]
 exact this
theorem Ytg(a:Val):litD 4 [valD a]=some (.slc 4 [valD a] true):=yxz [a] (by simp)
theorem yZh(l:List Int):hk (.agg (l.map nI))=[]:=yt6 (yh1 l)
theorem yOj(m:Nat)(σ:List Nat)(l:List Int):ren m σ (.agg (l.map nI))=.agg (l.map nI):=yj3 m σ (yh1 l)
noncomputable def yLb:List D→Option D:=spOf (α:=(Int×List Int)) (fun a=>[evD a]) (fun a=>a.2.length=16) (fun a=>digD (inpF a))
theorem Ya3(v:Int×List Int)(h:v.2.length=16):yLb [evD v]=some (digD (inpF v)):=
 yae (fun a b h=>by simp only[List.cons.injEq,and_true,yh2]at h; simp[h]) (v) h
theorem Yq4(v:Int×List Int)(h:v.2.length=16):@wW GG (tb [(145,yvr),(141,ynk),(140,yvs)] []) ylp.code (argF [evD v]) [] ⟨retQ ylp.res (digD (inpF v))⟩:=by
 unfold ylp
 have hh:=yu5 tInp (.list [.int v.1,.list (v.2.map .int)]) (Ynr v h)
 simp only[tInp]at hh
 simp (disch:=first|omega|decide) only[push_cast,↓reduceIte,Nat.reduceEqDiff,ydo,Ytm h]
 refine ybr (fun i:Nat=>[(1,.ptr 0 0),(2,.ptr 1 0),(3,bufD 0 2 ((v.2.take i).map (valD ∘ Val.int))),(7,.agg (v.2.map nI)),(8,.int .i64 (i:Int))])
  (fun i=>⟨false,1,evC v,false⟩::⟨false,1,digC yab,false⟩::bufS 4 ((v.2.take i).map (valD ∘ Val.int))) (fun i=>i≤16) (fun i=>16 - i) 0 (by simp only[push_cast,↓reduceIte,Nat.reduceEqDiff,Nat.reduceLT,Nat.reduceLeDiff,Nat.reduceAdd,↓Int.reduceNatCast',Yjr,yWp,yZh,yOj] <;> rfl) (by omega) ?_
 intro i hi
 unfold yql
 simp (disch:=first|omega|decide) only[push_cast,↓reduceIte,Nat.reduceEqDiff]
 refine yai (fun h2=>?_) (fun h2=>?_)
 ·have hil:i<v.2.length:=by omega
  have hx:=Yn1 v.2 i hil
  rw[h]at hx
  have hts:=yj2 v.2 hil
  obtain⟨x,hxe⟩:∃ x,v.2.getD i default=x:=⟨_,rfl⟩
  rw[hxe,show nI x=.int .i64 x from rfl]at hx
  rw[hxe]at hts
  have happ:=yXd (f:=valD ∘ Val.int) (sz:=4) (sz0:=0) (bytes:=64) (A:=v.2.take i) (x:=x) (t:=true) (a:=⟨false,1,evC v,false⟩) (b:=⟨false,1,digC yab,false⟩) (hs0:=by decide) (hb:=by rw[List.length_take]; omega) (hl:=by rw[List.length_take]; omega)
  simp only[Function.comp_apply]at happ
  simp (disch:=first|omega|decide) only[push_cast,↓reduceIte,Nat.reduceEqDiff,Nat.reduceLT,Nat.reduceLeDiff,Nat.reduceAdd,hx,yqc,yz9,yuq,Ytg,happ,yaz]
  refine yaj (i+1) (by omega) (by omega) ?_
  rw[hts]
  simp only[push_cast,Yjr,yWp,yZh,yOj] <;> rfl
 ·obtain rfl:i=16:=by omega
  rw[show(v.2.take 16)=v.2 from List.take_of_length_le (by omega)]
  have hb:imm (⟨false,1,evC v,false⟩::⟨false,1,digC yab,false⟩::bufS 4 (v.2.map (valD ∘ Val.int))) (bufD 0 2 (v.2.map (valD ∘ Val.int)))=some (.slc (nz 4 (v.2.map (valD ∘ Val.int))) (v.2.map (valD ∘ Val.int)) false):=Yjq _ _ 4 0 _
  have hl:=yu4 (v.2.map Val.int)
  rw[List.map_map]at hl
  have hne:v.2.map (valD ∘ Val.int)≠[]:=by
   intro e
   have:=congrArg List.length e
   simp[h]at this
  rw[ywk _ _ _ hne,ys7 _ _ hne]at hb
  simp (disch:=first|omega|decide) only[push_cast,↓reduceIte,Nat.reduceEqDiff,Nat.reduceAdd,Int.reduceLT,↓Int.reduceNatCast',ywk _ _ _ hne,ys7 _ _ hne,yXt,Ytn,yqc,yz9,yuq,hl,Ytf,Ytb,hh]
  rfl
theorem Yvg:Contract Tryz.prog GG 144 yLb:=
 yac yDu (yan (all_cons yQj (all_cons yQk (all_cons yQl all_nil))) all_nil) (fun a h=>Yq4 a h)
end Go.Proofs.YtijnglngaogdjaaGreatDoor.PI
