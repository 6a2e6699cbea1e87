/-
  tvm: the digests of programs, attributes, stacks and states.
  Conditions: none; these are lemmas.
-/
import Derived.Test.YtijnglngaogdjaaGreatDoorFns
import Derived.Test.YtijnglngaogdjaaGreatDoorEngS
import Derived.Test.YtijnglngaogdjaaGreatDoorSha
import Derived.WideKeyElems2
import Derived.LaidMore
import Derived.LaidHandle
import Derived.FnData
import Derived.KernelRfl
import Derived.Test.YtijnglngaogdjaaGreatDoorEngHe
set_option linter.unusedVariables false
set_option linter.unusedSimpArgs false
namespace Go.Proofs.YtijnglngaogdjaaGreatDoor.PI
open Go
set_option linter.unusedSimpArgs false
set_option linter.unusedVariables false
def binA:List (Int×Nat):=[(3,231),(4,232),(5,233),(6,234),(7,235),(8,236),(9,238),(10,239),(11,240)]
def GG:Glob:=fun n=>if n=0 then some (.gmap binA)else tabG 1 .u32 (Sha.K.map fun x=>(x.toNat:Int)) n
theorem GG_b:GG 0=some (.gmap binA):=rfl
theorem GG_k:GG 1=some (.agg (Sha.K.map wD)):=rfl
theorem and31(k:Int):pbin .and (.int .u64 (IntKind.wrap .u64 k)) (.int .u64 31)=some (.int .u64 ((k % 32).toNat:Int)):=by
 have h:(BitVec.ofInt (IntKind.bits .u64) (IntKind.wrap .u64 k) &&& BitVec.ofInt (IntKind.bits .u64) 31).toNat=(k % 32).toNat:=by
  show(BitVec.ofInt 64 (IntKind.wrap .u64 k) &&& BitVec.ofInt 64 31).toNat=_
  rw[BitVec.toNat_and,show(BitVec.ofInt 64 31).toNat=2 ^ 5 - 1 from rfl,Nat.and_two_pow_sub_one_eq_mod,BitVec.toNat_ofInt]
  simp[IntKind.wrap,IntKind.signed,IntKind.bits]
  omega
 simp only[pbin,if_true,yul,Option.map_some,h,ys2]
 congr 2
 omega
noncomputable def yLg:List D→Option D:=spOf (α:=UInt32×Int) (fun a=>[wD a.1,.int .i64 a.2]) (fun a=>-31≤a.2∧a.2≤-1) (fun a=>wD (Sha.rotr a.1 (-a.2).toNat))
theorem yJ9(x:UInt32)(k:Int)(h:-31≤k∧k≤-1):yLg [wD x,.int .i64 k]=some (wD (Sha.rotr x (-k).toNat)):=
 yae (fun⟨a0,a1⟩ ⟨b0,b1⟩ h=>by simp only[List.cons.injEq,D.int.injEq,Ycn,true_and,and_true]at h; simp[h]) (x,k) h
set_option maxHeartbeats 4000000 in
set_option maxRecDepth 20000 in
theorem Yq9(x:UInt32)(k:Int)(h:-31≤k∧k≤-1):@wW GG (tb [] []) ycm.code (argF [wD x,.int .i64 k]) [] ⟨retQ ycm.res (wD (Sha.rotr x (-k).toNat))⟩:=by
 obtain⟨h1,h2⟩:=h
 have hs:∃ s:Nat,(k % 32).toNat=s∧0<s∧s<32∧(-k).toNat=32 - s:=⟨(k % 32).toNat,rfl,by omega,by omega,by omega⟩
 obtain⟨s,e1,e2,e3,e4⟩:=hs
 have e:pbin .sub (.int .u64 32) (.int .u64 (s:Int))=some (.int .u64 ((32 - s:Nat):Int)):=by
  simp only[pbin,if_true,yhn,Option.map_some]
  rw[show(32 - (s:Int))=((32 - s:Nat):Int) by omega,ys2,Nat.mod_eq_of_lt (by omega)]
 have hc:∀ st,ydf st (.int .u64) (.int .i64 k)=some (.int .u64 (IntKind.wrap .u64 k)):=fun _=>rfl
 have e5:Sha.rotr x (32 - s)=x <<< UInt32.ofNat s ||| x >>> UInt32.ofNat (32 - s):=by
  unfold Sha.rotr
  rw[show 32 - (32 - s)=s by omega,UInt32.or_comm]
 unfold ycm
 simp only[push_cast,↓reduceIte,Nat.reduceEqDiff,hc,and31,e1,e,Ysh _ _ _ e3,Ysd x .u64 (32 - s) (by omega),or_w,e4,e5]
theorem Yvj:Contract Tryz.prog GG 187 yLg:=
 yac ylx (yao all_nil all_nil) (fun a h=>Yq9 a.1 a.2 h)
def schZ(b:List UInt8)(i:Nat):List UInt32:=Sha.sch b i++List.replicate (64 - i) 0
theorem yy5(b:List UInt8)(i:Nat)(h:i≤64):(schZ b i).length=64:=by
 simp[schZ,Sha.sch_length]; omega
theorem Ydy(b:List UInt8)(i j:Nat)(h:j<i):(schZ b i).getD j default=(Sha.sch b i).getD j 0:=by
 have h2:j<(Sha.sch b i).length:=by rw[Sha.sch_length]; exact h
 simp[schZ,List.getD_eq_getElem?_getD,List.getElem?_append_left h2,h2]
theorem yN8(b:List UInt8)(i:Nat)(v:UInt32)(h:i<64)(hv:Sha.sch b (i+1)=Sha.sch b i++[v]):(schZ b i).set i v=schZ b (i+1):=by
 have h2:(Sha.sch b i).length=i:=Sha.sch_length b i
 unfold schZ
 rw[hv,List.set_append_right _ _ (by omega),h2,Nat.sub_self,show 64 - i=(64 - (i+1))+1 by omega,List.replicate_succ,List.set_cons_zero,List.append_assoc]
 rfl
theorem Ysj(b:List UInt8)(i:Nat)(h:i<16):Sha.sch b (i+1)=Sha.sch b i++[Sha.word b i]:=by
 simp[Sha.sch,h]
theorem Ysk(b:List UInt8)(i:Nat)(h:16≤i):Sha.sch b (i+1)=Sha.sch b i++[(Sha.sch b i).getD (i - 16) 0+Sha.sig0 ((Sha.sch b i).getD (i - 15) 0)+(Sha.sch b i).getD (i - 7) 0+Sha.sig1 ((Sha.sch b i).getD (i - 2) 0)]:=by
 simp[Sha.sch,Nat.not_lt.2 h]
theorem add8(s t:Sha.St8)(i:Nat)(h:i<8):(((s.add t).list.take i++s.list.drop i).set i (((s.add t).list.take i++s.list.drop i).getD i default+t.list.getD i default))=(s.add t).list.take (i+1)++s.list.drop (i+1):=by
 rcases i with _ | _ | _ | _ | _ | _ | _ | _ | i <;> first | rfl | omega
noncomputable def yEk:List D→Option D:=spOf (α:=Sha.St8×List UInt8) (fun a=>[.agg (Sha.St8.list a.1 |>.map wD),.slc (nz 1 (a.2.map yaf)) (a.2.map yaf) false]) (fun a=>a.2.length=64) (fun a=>.agg ((Sha.block a.1 a.2).list.map wD))
theorem yDi(s:Sha.St8)(b:List UInt8)(h:b.length=64):yEk [.agg (Sha.St8.list s |>.map wD),.slc (nz 1 (b.map yaf)) (b.map yaf) false]=some (.agg ((Sha.block s b).list.map wD)):=
 yae (fun⟨a0,a1⟩ ⟨b0,b1⟩ h=>by simp only[List.cons.injEq,D.slc.injEq,D.agg.injEq,yKg,yUr,Sha.St8.list_iff,and_true]at h; simp[h]) (s,b) h
set_option maxHeartbeats 4000000 in
set_option maxRecDepth 20000 in
theorem Ykt(s:Sha.St8)(b:List UInt8)(h:b.length=64):@wW GG (tb [(187,yLg)] []) yij.code (argF [.agg (Sha.St8.list s |>.map wD),.slc (nz 1 (b.map yaf)) (b.map yaf) false]) [] ⟨retQ yij.res (.agg ((Sha.block s b).list.map wD))⟩:=by
 unfold yij
 simp only[push_cast,Nat.reduceAdd]
 refine ybs (fun i:Nat=>[(1,.slc (nz 1 (b.map yaf)) (b.map yaf) false),(2,.ptr 0 0),(4,.ptr 1 0),(5,.ptr 2 0),(19,.int .i64 (i:Int))])
  (fun i=>[⟨false,1,s.list.map wD,false⟩,⟨false,1,(zW 8).map wD,false⟩,⟨false,1,(schZ b i).map wD,false⟩]) (fun i=>i≤16) (fun i=>16 - i) 0 (by simp only[push_cast,↓reduceIte,Nat.reduceEqDiff,Nat.reduceLT,Nat.reduceLeDiff,Nat.reduceAdd,↓Int.reduceNatCast'] <;> rfl) (by omega) ?_
 intro i hi
 unfold ym8
 simp only[push_cast,↓reduceIte,Nat.reduceEqDiff]
 refine yag (fun h1=>?_) (fun h1=>?_)
 ·have h1':i<16:=by omega
  have e0:(4*(i:Int)).toNat=4*i:=by omega
  have e1:(4*(i:Int)+1).toNat=4*i+1:=by omega
  have e2:(4*(i:Int)+2).toNat=4*i+2:=by omega
  have e3:(4*(i:Int)+3).toNat=4*i+3:=by omega
  have hl:(schZ b i).length=64:=yy5 b i (by omega)
  have hw:=yN8 b i (Sha.word b i) (by omega) (Ysj b i h1')
  simp (disch:=omega) only[push_cast,↓reduceIte,Nat.reduceEqDiff,Nat.reduceLT,Nat.reduceLeDiff,Nat.reduceAdd,Int.reduceToNat,yBp,yax,yi5,Yo6,Ysg,or_w,yk0,e0,e1,e2,e3]
  refine yai (i+1) (by omega) (by omega) ?_
  rw[← hw]
  simp only[push_cast] <;> rfl
 ·obtain rfl:i=16:=by omega
  simp only[push_cast,↓reduceIte,Nat.reduceAdd,Int.reduceLT,↓Int.reduceNatCast']
  refine ybs (fun i:Nat=>[(2,.ptr 0 0),(4,.ptr 1 0),(5,.ptr 2 0),(7,.int .i64 (i:Int))])
   (fun i=>[⟨false,1,s.list.map wD,false⟩,⟨false,1,(zW 8).map wD,false⟩,⟨false,1,(schZ b i).map wD,false⟩]) (fun i=>16≤i∧i≤64) (fun i=>64 - i) 16 (by simp only[push_cast,↓reduceIte,Nat.reduceEqDiff,Nat.reduceLT,Nat.reduceLeDiff,Nat.reduceAdd,↓Int.reduceNatCast'] <;> rfl) (by omega) ?_
  intro i hi
  unfold ym7
  simp only[push_cast,↓reduceIte,Nat.reduceEqDiff,Int.reduceNeg]
  refine yag (fun h2=>?_) (fun h2=>?_)
  ·have hl:(schZ b i).length=64:=yy5 b i (by omega)
   have hw:=yN8 b i _ (by omega) (Ysk b i (by omega))
   have e0:((i:Int) - 15).toNat=i - 15:=by omega
   have e1:((i:Int) - 2).toNat=i - 2:=by omega
   have e2:((i:Int) - 16).toNat=i - 16:=by omega
   have e3:((i:Int) - 7).toNat=i - 7:=by omega
   simp (disch:=omega) only[push_cast,↓reduceIte,Nat.reduceEqDiff,Nat.reduceLT,Nat.reduceLeDiff,Nat.reduceAdd,Int.reduceToNat,Int.reduceNeg,ydz,yax,yk0,yJ9,Yqu,Yi9,Yqi,e0,e1,e2,e3,Ydy]
   refine yai (i+1) (by omega) (by omega) ?_
   rw[← hw]
   simp only[push_cast] <;> rfl
  ·obtain rfl:i=64:=by omega
   have hs64:schZ b 64=Sha.sch b 64:=by simp[schZ]
   have hl:(Sha.sch b 64).length=64:=Sha.sch_length b 64
   have hs8:s.list.length=8:=rfl
   have hz8:(zW 8).length=8:=rfl
   simp (disch:=first | omega | rfl) only[push_cast,↓reduceIte,Nat.reduceEqDiff,Nat.reduceAdd,Int.reduceLT,Int.reduceNeg,↓Int.reduceNatCast',hs64]
   refine ybs (fun i:Nat=>[(2,.ptr 0 0),(4,.ptr 1 0),(5,.ptr 2 0),(12,.ptr 3 0),(102,.int .i64 (i:Int))])
    (fun i=>[⟨false,1,s.list.map wD,false⟩,⟨false,1,(zW 8).map wD,false⟩,⟨false,1,(Sha.sch b 64).map wD,false⟩,⟨false,1,(Sha.rounds (Sha.sch b 64) s i).list.map wD,false⟩]) (fun i=>i≤64) (fun i=>64 - i) 0 (by simp only[push_cast,↓reduceIte,Nat.reduceEqDiff,Nat.reduceLT,Nat.reduceLeDiff,Nat.reduceAdd,↓Int.reduceNatCast'] <;> rfl) (by omega) ?_
   intro i hi
   unfold ym6
   simp only[push_cast,↓reduceIte,Nat.reduceEqDiff,Int.reduceNeg]
   refine yag (fun h3=>?_) (fun h3=>?_)
   ·have hK:Sha.K.length=64:=rfl
    have hn:Sha.rounds (Sha.sch b 64) s (i+1)=Sha.round (Sha.rounds (Sha.sch b 64) s i) (Sha.K.getD i 0) ((Sha.sch b 64).getD i 0):=rfl
    generalize Sha.rounds (Sha.sch b 64) s i=r at hn
    simp (disch:=omega) only[push_cast,↓reduceIte,Nat.reduceEqDiff,Nat.reduceLT,Nat.reduceLeDiff,Nat.reduceAdd,Int.reduceToNat,Int.reduceNeg,Sha.St8.list,yk0,yZd,yo7 _ _ _ _ GG_k,yJ9,Yqu,and_w,not_w,Yqi,yax]
    refine yai (i+1) (by omega) (by omega) ?_
    rw[hn]
    rfl
   ·obtain rfl:i=64:=by omega
    have hb:Sha.block s b=s.add (Sha.rounds (Sha.sch b 64) s 64):=rfl
    rw[hb]
    generalize Sha.rounds (Sha.sch b 64) s 64=r
    simp only[push_cast,↓reduceIte,Nat.reduceAdd,Int.reduceLT,Int.reduceNeg,↓Int.reduceNatCast']
    refine ybs (fun i:Nat=>[(2,.ptr 0 0),(4,.ptr 1 0),(12,.ptr 3 0),(182,.int .i64 (i:Int))])
     (fun i=>[⟨false,1,((s.add r).list.take i++s.list.drop i).map wD,false⟩,⟨false,1,(zW 8).map wD,false⟩,⟨false,1,(Sha.sch b 64).map wD,false⟩,⟨false,1,r.list.map wD,false⟩]) (fun i=>i≤8) (fun i=>8 - i) 0 (by simp only[push_cast,↓reduceIte,Nat.reduceEqDiff,Nat.reduceLT,Nat.reduceLeDiff,Nat.reduceAdd,↓Int.reduceNatCast'] <;> rfl) (by omega) ?_
    intro i hi
    have hl1:((s.add r).list.take i++s.list.drop i).length=8:=by
     simp only[List.length_append,List.length_take,List.length_drop,Sha.St8.list_length]; omega
    have hl2:r.list.length=8:=rfl
    unfold ym5
    simp only[push_cast,↓reduceIte,Nat.reduceEqDiff]
    refine yag (fun h4=>?_) (fun h4=>?_)
    ·have ha:=add8 s r i (by omega)
     simp (disch:=omega) only[push_cast,↓reduceIte,Nat.reduceEqDiff,Nat.reduceLT,Nat.reduceLeDiff,Nat.reduceAdd,yk0,Yqi,yax]
     refine yai (i+1) (by omega) (by omega) ?_
     rw[← ha]
     simp only[push_cast] <;> rfl
    ·obtain rfl:i=8:=by omega
     have e8:(s.add r).list.take 8++s.list.drop 8=(s.add r).list:=rfl
     have hl3:(s.add r).list.length=8:=rfl
     simp (disch:=first | omega | rfl) only[push_cast,↓reduceIte,Nat.reduceEqDiff,Nat.reduceAdd,Int.reduceLT,↓Int.reduceNatCast',e8]
theorem Yps:Contract Tryz.prog GG 159 yEk:=
 yac yyk (yao (all_cons Yvj all_nil) all_nil) (fun a h=>Ykt a.1 a.2 h)
end Go.Proofs.YtijnglngaogdjaaGreatDoor.PI
namespace Go.Proofs.YtijnglngaogdjaaGreatDoor.PI
open Go Go.WideElems
set_option linter.unusedSimpArgs false
set_option linter.unusedVariables false
def binsD:DataW Unit:=.map [(.int .i64 3,.agg [.iface "func" (.lit (.string [119,97,103,111,110,112,111,111,108,47,109,111,110,101,121,46,65,100,100]))]),(.int .i64 4,.agg [.iface "func" (.lit (.string [119,97,103,111,110,112,111,111,108,47,109,111,110,101,121,46,83,117,98]))]),(.int .i64 5,.agg [.iface "func" (.lit (.string [119,97,103,111,110,112,111,111,108,47,109,111,110,101,121,46,77,117,108]))]),(.int .i64 6,.agg [.iface "func" (.lit (.string [119,97,103,111,110,112,111,111,108,47,116,118,109,46,98,105,110,97,114,105,101,115,36,49]))]),(.int .i64 7,.agg [.iface "func" (.lit (.string [119,97,103,111,110,112,111,111,108,47,116,118,109,46,98,105,110,97,114,105,101,115,36,50]))]),(.int .i64 8,.agg [.iface "func" (.lit (.string [119,97,103,111,110,112,111,111,108,47,116,118,109,46,98,105,110,97,114,105,101,115,36,51]))]),(.int .i64 9,.agg [.iface "func" (.lit (.string [119,97,103,111,110,112,111,111,108,47,116,118,109,46,98,105,110,97,114,105,101,115,36,52]))]),(.int .i64 10,.agg [.iface "func" (.lit (.string [119,97,103,111,110,112,111,111,108,47,116,118,109,46,98,105,110,97,114,105,101,115,36,53]))]),(.int .i64 11,.agg [.iface "func" (.lit (.string [119,97,103,111,110,112,111,111,108,47,116,118,109,46,98,105,110,97,114,105,101,115,36,54]))])]
theorem gB:Tryz.prog.globalNamed "wagonpool/tvm.binaries"=some 0:=by kernel_rfl
theorem tB:(Tryz.prog.globals[0]?).map (·.type)=some 198:=by kernel_rfl
theorem u144:Tryz.prog.underlying 198=some (.map 3 196):=by kernel_rfl
theorem u3:Tryz.prog.underlying 3=some (.int .i64):=by kernel_rfl
def stB1:Option TypeDesc→Bool
 |some (.struct fs)=>match fs.toList with
  |[f]=>f.offset == 0 && f.type == 194
  |_=>false
 |_=>false
def fnB1:Option TypeDesc→Bool
 |some (.func _ _ _)=>true
 |_=>false
theorem u142b:stB1 (Tryz.prog.underlying 196)=true:=by kernel_rfl
theorem u140b:fnB1 (Tryz.prog.underlying 194)=true:=by kernel_rfl
theorem u142:∃ f,Tryz.prog.underlying 196=some (.struct #[f])∧f.offset=0∧f.type=194:=by
 have h:=u142b
 unfold stB1 at h
 split at h
 ·rename_i fs hu
  split at h
  ·rename_i f hf
   simp only[Bool.and_eq_true,beq_iff_eq]at h
   have e:fs=#[f]:=Array.ext' hf
   subst e
   exact⟨f,hu,h.1,h.2⟩
  ·cases h
 ·cases h
theorem c142:Tryz.prog.cellsOf 196=1:=by kernel_rfl
theorem c140:Tryz.prog.cellsOf 194=1:=by kernel_rfl
theorem u140:∃ ps rs va,Tryz.prog.underlying 194=some (.func ps rs va):=by
 have h:=u140b
 unfold fnB1 at h
 split at h
 ·rename_i ps rs va hu; exact⟨ps,rs,va,hu⟩
 ·cases h
theorem Ytr{P:Program}{t:TypeId}{v:Value}{k:Int}{kd:IntKind}(hu:P.underlying t=some (.int kd))(h:keyOf P t v=some (.int kd k)):v=.int kd k:=by
 unfold keyOf mapKey at h
 rw[hu]at h
 simp only at h
 split at h
 ·rename_i h1; cases h1
 ·rename_i h1; simp only[Option.some.injEq,TypeDesc.int.injEq]at h1; subst h1
  split at h
  ·simp only[Option.some.injEq,Lit.int.injEq]at h
   rename_i hq
   rw[← hq.1,h.2]
  ·cases h
 ·rename_i h1; cases h1
 ·cases h
theorem yYq{v:Value}{k:Int}(h:keyOf Tryz.prog 3 v=some (.int .i64 k)):v=.int .i64 k:=Ytr u3 h
theorem yJl{k:Int}{f:Nat}:∀ {l:List (Int×Nat)},yem k l=some f→k∈l.map (·.1)
 |[],h=>by cases h
 |p::r,h=>by
  unfold yem at h
  split at h
  ·rename_i e; simp[e]
  ·exact List.mem_cons_of_mem _ (yJl h)
set_option maxRecDepth 20000 in
theorem yn8{W:World}{n:Nat}{e:MapEntry}{k:Int}{b:UInt8}{r:List UInt8}{f0:FuncId}(hone:((List.range Tryz.prog.funcs.size).filter fun f=>(Tryz.prog.funcs[f]?).any (·.name.toUTF8.data.toList == b::r))=[f0])
  (h:rd Tryz.prog 3 (elemAt (funcToken Tryz.prog) Tryz.prog W 0 (fun _=>true) true n 196) e=some (.int .i64 k,.agg [.held (b::r)])):e.key=.int .i64 k∧e.val=.agg #[.func (.func f0) #[] #[]]:=by
 constructor
 ·exact yYq (rd_key h)
 ·obtain⟨z,hz,hz2⟩:=rd_val h
  obtain⟨z1,z2⟩:=z
  dsimp only at hz2
  subst hz2
  unfold elemAt at hz
  split at hz
  case isFalse=>cases hz
  rename_i hfm
  obtain⟨f,hu,ho,ht⟩:=u142
  obtain⟨ps,rs,va,hu4⟩:=u140
  cases n with
  |zero=>simp[DataW.trod]at hz
  |succ n=>
   unfold Value.formed at hfm
   rw[hu,c142]at hfm
   cases hv:e.val with
   |agg cs=>
    rw[hv]at hz hfm
    simp only[beq_iff_eq]at hfm
    obtain⟨v,rfl⟩:∃ v,cs=#[v]:=by
     obtain⟨l⟩:=cs
     match l,hfm with
     |[v],_=>exact⟨v,rfl⟩
    have hz':DataW.trod (funcToken Tryz.prog) Tryz.prog W 0 (fun _=>true) true (n+1) 196 [v]=some (.agg [.held (b::r)],z2):=hz
    rw[DataW.trod_step]at hz'
    unfold DataW.trodStep at hz'
    rw[hu]at hz'
    simp[c142,ho,ht,c140]at hz'
    obtain⟨q,hq⟩:∃ q,DataW.trod (funcToken Tryz.prog) Tryz.prog W 0 (fun _=>true) true n 194 [v]=some (.held (b::r),q):=by
     rw[Option.bind_eq_some_iff]at hz'
     obtain⟨⟨y1,y2⟩,h1,h2⟩:=hz'
     simp at h2
     exact⟨y2,by rw[h1,h2.1]⟩
    rw[func_of_trod hu4 hone hq]
   |_=>rw[hv]at hfm; simp at hfm
def Yb8:List (Lit×DataW (List UInt8)):=[(.int .i64 3,.agg [.held [119,97,103,111,110,112,111,111,108,47,109,111,110,101,121,46,65,100,100]]),(.int .i64 4,.agg [.held [119,97,103,111,110,112,111,111,108,47,109,111,110,101,121,46,83,117,98]]),(.int .i64 5,.agg [.held [119,97,103,111,110,112,111,111,108,47,109,111,110,101,121,46,77,117,108]]),(.int .i64 6,.agg [.held [119,97,103,111,110,112,111,111,108,47,116,118,109,46,98,105,110,97,114,105,101,115,36,49]]),(.int .i64 7,.agg [.held [119,97,103,111,110,112,111,111,108,47,116,118,109,46,98,105,110,97,114,105,101,115,36,50]]),(.int .i64 8,.agg [.held [119,97,103,111,110,112,111,111,108,47,116,118,109,46,98,105,110,97,114,105,101,115,36,51]]),(.int .i64 9,.agg [.held [119,97,103,111,110,112,111,111,108,47,116,118,109,46,98,105,110,97,114,105,101,115,36,52]]),(.int .i64 10,.agg [.held [119,97,103,111,110,112,111,111,108,47,116,118,109,46,98,105,110,97,114,105,101,115,36,53]]),(.int .i64 11,.agg [.held [119,97,103,111,110,112,111,111,108,47,116,118,109,46,98,105,110,97,114,105,101,115,36,54]])]
set_option maxRecDepth 20000 in
theorem Ygv{W:World}(h:funcsAt Tryz.prog W "wagonpool/tvm.binaries" binsD):∃ b es clock,W.cell? ⟨0,0,none⟩=some (.map (some b))∧W.heap[b]?=some (.map es clock)∧spM (.map es clock)=true∧yNs es binA:=by
 obtain⟨g,t,cs,fuel,p,hg,ht,hv,hd⟩:=h
 obtain rfl:=Option.some.inj (gB.symm.trans hg)
 obtain rfl:=Option.some.inj (tB.symm.trans ht)
 have hd':DataW.trod (funcToken Tryz.prog) Tryz.prog W 0 (fun _=>true) true fuel 198 cs.toList=some (.map Yb8,p):=hd
 rcases open_map u144 hd' with⟨_,hx⟩ | ⟨b,es,clock,n,rfl,hcs,hb,_,F,hx⟩
 ·cases hx
 simp only[Prod.mk.injEq,DataW.map.injEq]at hx
 have mem:∀ y,y∈Yb8↔y∈es.toList.map (rg Tryz.prog 3 (elemAt (funcToken Tryz.prog) Tryz.prog W 0 (fun _=>true) true n 196)):=fun y=>by
  rw[hx.1]; exact(Go.WideShapes.sorted_perm _).mem_iff
 have ent:∀ e∈es.toList,∃ k f,e.key=.int .i64 k∧e.val=.agg #[.func (.func f) #[] #[]]∧f<5000000∧yem k binA=some f:=by
  intro e he
  obtain⟨y,hy⟩:=F.reads e he
  have hm:y∈Yb8:=(mem y).2 (List.mem_map.2 ⟨e,he,rg_of hy⟩)
  simp only[Yb8,List.mem_cons,List.not_mem_nil,or_false]at hm
  rcases hm with rfl | rfl | rfl | rfl | rfl | rfl | rfl | rfl | rfl
  ·obtain⟨h1,h2⟩:=yn8 (f0:=231) (by kernel_rfl) hy; exact⟨_,_,h1,h2,by decide,rfl⟩
  ·obtain⟨h1,h2⟩:=yn8 (f0:=232) (by kernel_rfl) hy; exact⟨_,_,h1,h2,by decide,rfl⟩
  ·obtain⟨h1,h2⟩:=yn8 (f0:=233) (by kernel_rfl) hy; exact⟨_,_,h1,h2,by decide,rfl⟩
  ·obtain⟨h1,h2⟩:=yn8 (f0:=234) (by kernel_rfl) hy; exact⟨_,_,h1,h2,by decide,rfl⟩
  ·obtain⟨h1,h2⟩:=yn8 (f0:=235) (by kernel_rfl) hy; exact⟨_,_,h1,h2,by decide,rfl⟩
  ·obtain⟨h1,h2⟩:=yn8 (f0:=236) (by kernel_rfl) hy; exact⟨_,_,h1,h2,by decide,rfl⟩
  ·obtain⟨h1,h2⟩:=yn8 (f0:=238) (by kernel_rfl) hy; exact⟨_,_,h1,h2,by decide,rfl⟩
  ·obtain⟨h1,h2⟩:=yn8 (f0:=239) (by kernel_rfl) hy; exact⟨_,_,h1,h2,by decide,rfl⟩
  ·obtain⟨h1,h2⟩:=yn8 (f0:=240) (by kernel_rfl) hy; exact⟨_,_,h1,h2,by decide,rfl⟩
 have all:∀ k∈binA.map (·.1),∃ e∈es.toList,e.key=.int .i64 k:=by
  intro k hk
  have hkL:∃ d,(Lit.int .i64 k,d)∈Yb8:=by
   simp only[binA,List.map_cons,List.map_nil,List.mem_cons,List.not_mem_nil,or_false]at hk
   rcases hk with rfl | rfl | rfl | rfl | rfl | rfl | rfl | rfl | rfl
   ·exact⟨_,List.mem_cons_self⟩
   ·exact⟨_,List.mem_cons_of_mem _ (List.mem_cons_self)⟩
   ·exact⟨_,List.mem_cons_of_mem _ (List.mem_cons_of_mem _ (List.mem_cons_self))⟩
   ·exact⟨_,List.mem_cons_of_mem _ (List.mem_cons_of_mem _ (List.mem_cons_of_mem _ (List.mem_cons_self)))⟩
   ·exact⟨_,List.mem_cons_of_mem _ (List.mem_cons_of_mem _ (List.mem_cons_of_mem _ (List.mem_cons_of_mem _ (List.mem_cons_self))))⟩
   ·exact⟨_,List.mem_cons_of_mem _ (List.mem_cons_of_mem _ (List.mem_cons_of_mem _ (List.mem_cons_of_mem _ (List.mem_cons_of_mem _ (List.mem_cons_self)))))⟩
   ·exact⟨_,List.mem_cons_of_mem _ (List.mem_cons_of_mem _ (List.mem_cons_of_mem _ (List.mem_cons_of_mem _ (List.mem_cons_of_mem _ (List.mem_cons_of_mem _ (List.mem_cons_self))))))⟩
   ·exact⟨_,List.mem_cons_of_mem _ (List.mem_cons_of_mem _ (List.mem_cons_of_mem _ (List.mem_cons_of_mem _ (List.mem_cons_of_mem _ (List.mem_cons_of_mem _ (List.mem_cons_of_mem _ (List.mem_cons_self)))))))⟩
   ·exact⟨_,List.mem_cons_of_mem _ (List.mem_cons_of_mem _ (List.mem_cons_of_mem _ (List.mem_cons_of_mem _ (List.mem_cons_of_mem _ (List.mem_cons_of_mem _ (List.mem_cons_of_mem _ (List.mem_cons_of_mem _ (List.mem_cons_self))))))))⟩
  obtain⟨d,hd⟩:=hkL
  obtain⟨e,he,hre⟩:=List.mem_map.1 ((mem _).1 hd)
  obtain⟨y,hy⟩:=F.reads e he
  obtain⟨k',f,h1,h2,_⟩:=ent e he
  rw[rg_of hy]at hre
  subst hre
  have hk:=yYq (rd_key hy)
  exact⟨e,he,hk⟩
 have hc0:W.cell? ⟨0,0,none⟩=some (.map (some b)):=by
  rw[World.var?_cell hg hv 0]
  obtain⟨l⟩:=cs
  have:l=[.map (some b)]:=hcs
  rw[this]; rfl
 have hsp:spM (.map es clock)=true:=by
  rw[yLi]
  obtain⟨e,he,_⟩:=all 3 (by decide)
  have hlt:0<es.size:=by
   have:=List.length_pos_of_mem he
   simpa using this
  rw[Array.getElem?_eq_getElem hlt]
  obtain⟨k,f,_,h2,_⟩:=ent es[0] (by simp)
  simp only[h2]
  rfl
 refine⟨b,es,clock,hc0,hb,hsp,fun e he=>?_,fun k f hf=>?_⟩
 ·exact ent e he
 ·exact all k (yJl hf)
theorem globGG{W:World}(hk:Lib.TabIs Tryz.prog W "wagonpool/digest.k" .u32 (Sha.K.map fun x=>(x.toNat:Int)))(gk:Tryz.prog.globalNamed "wagonpool/digest.k"=some 1)(h:funcsAt Tryz.prog W "wagonpool/tvm.binaries" binsD):GlobOK GG W (yi9 W):=by
 intro n d hd
 unfold GG at hd
 split at hd
 ·rename_i e
  subst e
  simp only[Option.some.injEq]at hd
  subst hd
  obtain⟨b,es,clock,h1,h2,h3,h4⟩:=Ygv h
  have hj:∀ (j:Nat) (d:D),(D.gmap binA).cells[j]?=some d→j=0∧d=.gmap binA:=fun j d hd=>by
   cases j with
   |zero=>exact⟨rfl,(Option.some.inj hd).symm⟩
   |succ j=>cases hd
  refine .eptr _ 0 _ 0 (fun _=>.map (some b)) (fun j d hd=>?_) (fun j d hd=>?_) (fun j d hd=>?_)
  ·obtain⟨rfl,rfl⟩:=hj j d hd; rfl
  ·obtain⟨rfl,rfl⟩:=hj j d hd
   exact⟨by show(W.cell? ⟨_,0,none⟩).isSome=true; rw[h1]; rfl,h1⟩
  ·obtain⟨rfl,rfl⟩:=hj j d hd
   exact .gmap _ b es clock h2 h3 h4
 ·exact Yok hk gk n d hd
end Go.Proofs.YtijnglngaogdjaaGreatDoor.PI
namespace Go.Proofs.YtijnglngaogdjaaGreatDoor.PI
open Go
set_option linter.unusedSimpArgs false
set_option linter.unusedVariables false
theorem Ys1(n:Nat):pbin .mul (.int .u64 (n:Int)) (.int .u64 8)=some (qD (UInt64.ofNat n*8)):=by
 have e:(n:Int)*8=((n*8:Nat):Int):=by omega
 simp only[pbin,if_true,yhn,Option.map_some,e,ys2,qD]
 congr 3
 simp
theorem b128:D.int .u8 128=yaf 128:=rfl
theorem b0:D.int .u8 0=yaf 0:=rfl
theorem Yjc(n:Nat)(σ:List Nat)(x:UInt64):ren n σ (qD x)=qD x:=rfl
theorem Yso(x:UInt64):hk (qD x)=[]:=rfl
theorem yAd{α:Type}(l:List (List α))(i:Nat):(l.take i).flatten.length≤l.flatten.length:=by
 have:l.flatten=(l.take i).flatten++(l.drop i).flatten:=by rw[← List.flatten_append,List.take_append_drop]
 rw[this,List.length_append]
 omega
theorem yBa(s:Sha.St8):∀ (i:Nat) (m:List UInt8),Sha.blocks s (i+1) m=Sha.block (Sha.blocks s i m) ((m.drop (64*i)).take 64)
 |0,m=>by simp[Sha.blocks]
 |i+1,m=>by
  rw[Sha.blocks,yBa (Sha.block s (m.take 64)) i (m.drop 64),Sha.blocks,List.drop_drop,show 64+64*i=64*(i+1) by omega]
theorem yR6(m:List UInt8):(Sha.padded m).length=m.length+1+Sha.zeros m.length+8∧(Sha.padded m).length % 64=0:=by
 have h:(Sha.padded m).length=m.length+1+Sha.zeros m.length+8:=by
  simp[Sha.padded,Sha.lenB_length]; omega
 refine⟨h,?_⟩
 rw[h]; unfold Sha.zeros; omega
def outZ(l:List UInt32)(i:Nat):List UInt8:=Sha.outB l i++List.replicate (32 - i) 0
theorem yzj(l:List UInt32)(i:Nat)(h:i≤32):(outZ l i).length=32:=by
 simp[outZ,Sha.outB_length]; omega
theorem Ye7(l:List UInt32)(i:Nat)(h:i<32):(outZ l i).set i ((l.getD (i / 4) 0 >>> UInt32.ofNat (24 - 8*(i % 4))).toUInt8)=outZ l (i+1):=by
 have h2:(Sha.outB l i).length=i:=Sha.outB_length l i
 unfold outZ
 rw[Sha.outB,List.set_append_right _ _ (by omega),h2,Nat.sub_self,show 32 - i=(32 - (i+1))+1 by omega,List.replicate_succ,List.set_cons_zero,List.append_assoc]
 rfl
def Yk1(sz key tot off:Nat):D:=if off<tot then .row key tot off (tot - off)else .slc sz [] false
theorem yDr{sz key tot off:Nat}(h:off<tot):Yk1 sz key tot off=.row key tot off (tot - off):=if_pos h
theorem yNt{sz key tot off:Nat}(h:¬ off<tot):Yk1 sz key tot off=.slc sz [] false:=if_neg h
noncomputable def yN3:List D→Option D:=spOf (α:=List (List UInt8)) (fun a=>[.slc (nz 1 (a.map bsD)) (a.map bsD) false]) (fun a=>a.flatten.length≤4294960000∧a.length≤4294960000) (fun a=>digD (shaL a.flatten))
theorem Yhq(ps:List (List UInt8))(h:ps.flatten.length≤4294960000∧ps.length≤4294960000):yN3 [.slc (nz 1 (ps.map bsD)) (ps.map bsD) false]=some (digD (shaL ps.flatten)):=
 yae (fun a b h=>by simp only[List.cons.injEq,D.slc.injEq,Ypv,and_true]at h; simp[h]) (ps) h
set_option maxHeartbeats 4000000 in
set_option maxRecDepth 20000 in
theorem w_sum(ps:List (List UInt8))(h:ps.flatten.length≤4294960000∧ps.length≤4294960000):@wW GG (tb [(159,yEk)] []) ylo.code (argF [.slc (nz 1 (ps.map bsD)) (ps.map bsD) false]) [] ⟨retQ ylo.res (digD (shaL ps.flatten))⟩:=by
 obtain⟨h,hps⟩:=h
 generalize hm:ps.flatten=m at h
 unfold ylo
 simp only[push_cast,↓reduceIte,Nat.reduceEqDiff,Yfg 1]
 refine ybs (fun i:Nat=>[(2,.ptr 0 0),(3,bufD 0 1 ((ps.take i).flatten.map yaf)),(10,.slc (nz 1 (ps.map bsD)) (ps.map bsD) false),(11,.int .i64 (ps.length:Int)),(12,.int .i64 (i:Int))])
  (fun i=>⟨false,1,digC yab,false⟩::bufS 1 ((ps.take i).flatten.map yaf)) (fun i=>i≤ps.length) (fun i=>ps.length - i) 0 (by simp only[push_cast,↓reduceIte,Nat.reduceEqDiff,Nat.reduceLT,Nat.reduceLeDiff,↓Int.reduceNatCast'] <;> rfl) (by omega) ?_
 intro i hi
 unfold yqm
 simp only[push_cast,↓reduceIte,Nat.reduceEqDiff]
 refine yag (fun h1=>?_) (fun h1=>?_)
 ·have e:(ps.take (i+1)).flatten=(ps.take i).flatten++ps.getD i default:=by
   rw[yVb ps i (by omega),List.flatten_append]; simp
  have hl:=yAd ps (i+1)
  rw[e,List.length_append,hm]at hl
  simp (disch:=first|omega|decide) only[push_cast,↓reduceIte,Nat.reduceEqDiff,Nat.reduceLT,Nat.reduceLeDiff,yi5,yax]
  refine yai (i+1) (by omega) (by omega) ?_
  rw[e]
  simp only[push_cast] <;> rfl
 ·obtain rfl:i=ps.length:=by omega
  rw[List.take_length,hm]
  have hne:(m++[128]).map yaf≠[]:=by simp
  simp (disch:=first|omega|decide) only[push_cast,↓reduceIte,Nat.reduceEqDiff,yGi,Ys1,b128,ywf _ _ _ hne,ysy _ _ hne]
  generalize hq:UInt64.ofNat m.length*8=q
  refine ybs (fun j:Nat=>[(2,.ptr 0 0),(3,.row 1 (m++[128]++List.replicate j 0).length 0 (m++[128]++List.replicate j 0).length),(6,qD q)])
   (fun j=>[⟨false,1,digC yab,false⟩,⟨true,1,(m++[128]++List.replicate j 0).map yaf,false⟩]) (fun j=>j≤Sha.zeros m.length) (fun j=>Sha.zeros m.length - j) 0 (by simp only[push_cast,↓reduceIte,Nat.reduceEqDiff,Nat.reduceLT,Nat.reduceLeDiff,Nat.reduceAdd,List.replicate_zero,List.append_nil] <;> rfl) (by omega) ?_
  intro j hj
  have hlen:(m++[128]++List.replicate j 0).length=m.length+1+j:=by simp; omega
  have hz2:(m.length+1+Sha.zeros m.length) % 64=56:=by unfold Sha.zeros; omega
  have hz:Sha.zeros m.length<64:=by unfold Sha.zeros; omega
  unfold yql
  simp (disch:=first|omega|decide) only[push_cast,↓reduceIte,Nat.reduceEqDiff,Ysn]
  refine yag (fun h2=>?_) (fun h2=>?_)
  ·obtain rfl:j=Sha.zeros m.length:=by
    unfold Sha.zeros at hj ⊢; omega
   simp only[push_cast,↓reduceIte,Nat.reduceAdd]
   have hmz:(m++[128]++List.replicate (Sha.zeros m.length) 0)=(m++[128]++List.replicate (Sha.zeros m.length) 0)++Sha.lenB q 0:=(List.append_nil _).symm
   generalize hM:m++[128]++List.replicate (Sha.zeros m.length) 0=M at hlen hmz h2
   refine ybs (fun j:Nat=>[(2,.ptr 0 0),(3,.row 1 (M++Sha.lenB q j).length 0 (M++Sha.lenB q j).length),(6,qD q),(7,.int .i64 (56 - 8*(j:Int)))])
    (fun j=>[⟨false,1,digC yab,false⟩,⟨true,1,(M++Sha.lenB q j).map yaf,false⟩]) (fun j=>j≤8) (fun j=>8 - j) 0 (by rw[← hmz]; simp only[push_cast,↓reduceIte,Nat.reduceEqDiff,Nat.reduceLT,Nat.reduceLeDiff,Nat.reduceAdd,Int.reduceMul,Int.reduceSub,↓Int.reduceNatCast'] <;> rfl) (by omega) ?_
   intro j hj
   have hl2:(M++Sha.lenB q j).length=M.length+j:=by rw[List.length_append,Sha.lenB_length]
   unfold yqk
   simp only[push_cast,↓reduceIte,Nat.reduceEqDiff]
   refine yag (fun h3=>?_) (fun h3=>?_)
   ·have e:(56 - 8*(j:Int)).toNat=56 - 8*j:=by omega
    have e2:M++Sha.lenB q (j+1)=(M++Sha.lenB q j)++[(q >>> UInt64.ofNat (56 - 8*j)).toUInt8]:=by rw[Sha.lenB,List.append_assoc]
    simp (disch:=first|omega|decide) only[push_cast,↓reduceIte,Nat.reduceEqDiff,Nat.reduceLT,Nat.reduceLeDiff,Nat.reduceAdd,Yse,Yo5,e,ydz]
    refine yai (j+1) (by omega) (by omega) ?_
    rw[e2]
    have e4:(56 - 8*(j:Int) - 8)=56 - 8*((j+1:Nat):Int):=by omega
    simp only[push_cast,Yjc,Yso,e4] <;> rfl
   ·obtain rfl:j=8:=by omega
    have hP:M++Sha.lenB q 8=Sha.padded m:=by rw[← hM,← hq]; rfl
    rw[hP]
    rw[hP]at hl2
    obtain⟨hp1,hp2⟩:=yR6 m
    have hsh:shaL m=⟨Sha.outB (Sha.blocks Sha.H0 ((Sha.padded m).length / 64) (Sha.padded m)).list 32,Sha.outB_length _ 32⟩:=rfl
    rw[hsh]
    generalize Sha.padded m=PM at hl2 hp1 hp2
    have hH:Sha.H0.list.length=8:=rfl
    have hz8:(zW 8).length=8:=rfl
    simp (disch:=omega) only[push_cast,↓reduceIte,Nat.reduceEqDiff,Nat.reduceAdd,Int.reduceLE,Int.reduceNeg,Int.reduceMul,Int.reduceSub,↓Int.reduceNatCast',Yuq]
    refine ybs (fun j:Nat=>[(2,.ptr 0 0),(3,Yk1 1 1 PM.length (64*j)),(8,.ptr 2 0)])
     (fun j=>[⟨false,1,digC yab,false⟩,⟨true,1,PM.map yaf,false⟩,⟨false,1,(Sha.blocks Sha.H0 j PM).list.map wD,false⟩]) (fun j=>j≤PM.length / 64) (fun j=>PM.length / 64 - j) 0 (by rw[yDr (by omega)]; simp only[push_cast,↓reduceIte,Nat.reduceEqDiff,Nat.reduceLT,Nat.reduceLeDiff,Nat.reduceAdd,Nat.reduceMul,Int.reduceNeg] <;> rfl) (by omega) ?_
    intro j hj
    unfold yqj
    rcases Nat.lt_or_ge (64*j) PM.length with h4 | h4
    ·have hbl:((PM.drop (64*j)).take 64).length=64:=by simp; omega
     have hbs:=yBa Sha.H0 j PM
     generalize Sha.blocks Sha.H0 j PM=sj at hbs
     have hl8:sj.list.length=8:=rfl
     have hl9:(Sha.block sj ((PM.drop (64*j)).take 64)).list.length=8:=rfl
     have c1:((0:Int)<((PM.length - 64*j:Nat):Int)):=by omega
     have c2:((0:Int)<(PM.length:Int) - 64*(j:Int)):=by omega
     have c3:¬ (64=PM.length - 64*j)∨PM.length - 64*j=64:=by omega
     rw[yDr h4]
     by_cases h5:PM.length - 64*j=64
     ·simp (disch:=omega) only[push_cast,↓reduceIte,Nat.reduceEqDiff,Nat.reduceLT,Nat.reduceLeDiff,Nat.reduceAdd,Int.reduceLT,Int.reduceToNat,↓Int.reduceNatCast',yVq,yDi,h5]
      refine yai (j+1) (by omega) (by omega) ?_
      rw[yNt (by omega),hbs]
     ·have h6:¬ 64=PM.length - 64*j:=fun e=>h5 e.symm
      simp (disch:=omega) only[push_cast,↓reduceIte,Nat.reduceEqDiff,Nat.reduceLT,Nat.reduceLeDiff,Nat.reduceAdd,Nat.reduceSub,Int.reduceToNat,↓Int.reduceNatCast',c2,yVq,yDi,h6]
      refine yai (j+1) (by omega) (by omega) ?_
      rw[yDr (by omega),hbs]
      simp only[Nat.mul_add,Nat.mul_one,Nat.sub_sub]
    ·obtain rfl:j=PM.length / 64:=by omega
     rw[yNt (by omega)]
     generalize Sha.blocks Sha.H0 (PM.length / 64) PM=sj
     have hl8:sj.list.length=8:=rfl
     simp only[push_cast,↓reduceIte,Nat.reduceEqDiff,Nat.reduceAdd,Int.reduceLT]
     refine ybs (fun j:Nat=>[(2,.ptr 0 0),(8,.ptr 2 0),(55,.int .i64 (j:Int))])
      (fun j=>[⟨false,1,(outZ sj.list j).map yaf,false⟩,⟨true,1,PM.map yaf,false⟩,⟨false,1,sj.list.map wD,false⟩]) (fun j=>j≤32) (fun j=>32 - j) 0 (by simp only[push_cast,↓reduceIte,Nat.reduceEqDiff,Nat.reduceLT,Nat.reduceLeDiff,Nat.reduceAdd,↓Int.reduceNatCast'] <;> rfl) (by omega) ?_
     intro j hj
     unfold yqi
     simp only[push_cast,↓reduceIte,Nat.reduceEqDiff]
     refine yag (fun h6=>?_) (fun h6=>?_)
     ·have hz3:=yzj sj.list j (by omega)
      have hz4:=Ye7 sj.list j (by omega)
      have e1:((j:Int) / 4).toNat=j / 4:=by omega
      have e2:(24 - 8*((j:Int) % 4)).toNat=24 - 8*(j % 4):=by omega
      simp (disch:=omega) only[push_cast,↓reduceIte,Nat.reduceEqDiff,Nat.reduceLT,Nat.reduceLeDiff,Nat.reduceAdd,quo_i,Ysn,yBp,ydz,yax,yk0,Yi9,Yo4,e1,e2]
      refine yai (j+1) (by omega) (by omega) ?_
      rw[← hz4]
      simp only[push_cast] <;> rfl
     ·obtain rfl:j=32:=by omega
      have hz3:=yzj sj.list 32 (by omega)
      simp (disch:=omega) only[push_cast,↓reduceIte,Nat.reduceEqDiff,Nat.reduceAdd,Int.reduceLT,↓Int.reduceNatCast']
      rw[show outZ sj.list 32=Sha.outB sj.list 32 from List.append_nil _]
      rfl
  ·simp (disch:=first|omega|decide) only[push_cast,↓reduceIte,Nat.reduceEqDiff,Nat.reduceLT,Nat.reduceLeDiff,Nat.reduceAdd,b0]
   have h9:j<Sha.zeros m.length:=by
    rcases Nat.lt_or_ge j (Sha.zeros m.length)with h3 | h3
    ·exact h3
    ·exfalso
     obtain rfl:j=Sha.zeros m.length:=by omega
     omega
   refine yai (j+1) (by omega) (by omega) ?_
   have e:m++[128]++List.replicate (j+1) 0=(m++[128]++List.replicate j 0)++[0]:=by
    rw[List.replicate_succ',List.append_assoc,List.append_assoc,List.append_assoc]
   rw[e]
   simp only[push_cast,Yjc,Yso] <;> rfl
theorem c_sum:Contract Tryz.prog GG 116 yN3:=
 yac yDz (yao (all_cons Yps all_nil) all_nil) (fun a h=>w_sum a h)
noncomputable def ymc:List D→Option D:=spOf (α:=List UInt8×List UInt8) (fun a=>[.str a.1,.slc (nz 1 (a.2.map yaf)) (a.2.map yaf) false]) (fun a=>a.1.length+a.2.length≤4294900000) (fun a=>digD (yvj a.1 a.2))
theorem ysq(t:List UInt8)(b:List UInt8)(h:t.length+b.length≤4294900000):ymc [.str t,.slc (nz 1 (b.map yaf)) (b.map yaf) false]=some (digD (yvj t b)):=
 yae (fun⟨a0,a1⟩ ⟨b0,b1⟩ h=>by simp only[List.cons.injEq,D.slc.injEq,D.str.injEq,yKg,and_true]at h; simp[h]) (t,b) h
theorem Ya6(x:UInt8)(t b:List UInt8)(h:t.length+b.length≤4294950000) :
  yN3 [.slc 1 [.slc 1 [yaf x] false,.slc (nz 1 (t.map yaf)) (t.map yaf) false,.slc (nz 1 (b.map yaf)) (b.map yaf) false] false]=some (digD (shaL (x::(t++b)))):=by
 have:=Yhq [[x],t,b] ⟨by simp; omega,by simp⟩
 rw[show([[x],t,b]:List (List UInt8)).flatten=x::(t++b) by simp]at this
 exact this
set_option maxHeartbeats 4000000 in
set_option maxRecDepth 20000 in
theorem Ycp(t:List UInt8)(b:List UInt8)(h:t.length+b.length≤4294900000):@wW GG (tb [(116,yN3)] []) yhg.code (argF [.str t,.slc (nz 1 (b.map yaf)) (b.map yaf) false]) [] ⟨retQ yhg.res (digD (yvj t b))⟩:=by
 unfold yhg
 have e1:(min (t.length:Int) 255).toNat=min t.length 255:=by omega
 have e2:t.take (min t.length 255)=t.take 255:=by
  rcases Nat.le_total t.length 255 with h1 | h1
  ·rw[Nat.min_eq_left h1,List.take_length,List.take_of_length_le h1]
  ·rw[Nat.min_eq_right h1]
 have hl:(t.take 255).length≤255:=by simp; omega
 have hl2:(t.take 255).length≤t.length:=by simp; omega
 simp (disch:=omega) only[push_cast,↓reduceIte,Nat.reduceEqDiff,yRn,e1,e2,yi6,Ya6]
 rfl
theorem yGm:Contract Tryz.prog GG 62 ymc:=
 yac yw6 (yao (all_cons c_sum all_nil) all_nil) (fun a h=>Ycp a.1 a.2 h)
set_option maxHeartbeats 8000000
set_option maxRecDepth 20000
def nI(n:Int):D:=.int .i64 n
theorem Ysz{a b:Int}:nI a=nI b↔a=b:=by simp[nI]
theorem yqz{a b:List Int}:a.map nI=b.map nI↔a=b:=⟨ypr fun _ _=>Ysz.1,fun h=>by rw[h]⟩
theorem yUq(n:Int):IntKind.wrap .u64 n=n % 18446744073709551616:=rfl
theorem yDq{n:Int}(h0:0≤n)(h1:n<18446744073709551616):IntKind.wrap .u64 n=n:=by rw[yUq]; omega
theorem add_u{a b:Int}(h0:0≤a+b)(h1:a+b<18446744073709551616):pbin .add (.int .u64 a) (.int .u64 b)=some (.int .u64 (a+b)):=by
 simp only[pbin,if_true,yhn,Option.map_some,yDq h0 h1]
theorem mul_u{a b:Int}(h0:0≤a*b)(h1:a*b<18446744073709551616):pbin .mul (.int .u64 a) (.int .u64 b)=some (.int .u64 (a*b)):=by
 simp only[pbin,if_true,yhn,Option.map_some,yDq h0 h1]
theorem Ys0(a b:Int):pbin .mul (.int .u64 a) (.int .u64 b)=some (.int .u64 ((a*b) % 18446744073709551616)):=by
 simp only[pbin,if_true,yhn,Option.map_some,yUq]
theorem yHh{a:Int}(h0:0≤a)(h1:a<18446744073709551616):(BitVec.ofInt 64 a).toNat=a.toNat:=by
 rw[BitVec.toNat_ofInt]
 omega
theorem Yix{a:Int}(h0:0≤a)(h1:a<18446744073709551616):pbin .and (.int .u64 a) (.int .u64 4294967295)=some (.int .u64 (a % 4294967296)):=by
 have h:(BitVec.ofInt (IntKind.bits .u64) a &&& BitVec.ofInt (IntKind.bits .u64) 4294967295).toNat=(a % 4294967296).toNat:=by
  show(BitVec.ofInt 64 a &&& BitVec.ofInt 64 4294967295).toNat=_
  rw[BitVec.toNat_and,yHh h0 h1,show(BitVec.ofInt 64 4294967295).toNat=2 ^ 32 - 1 from rfl,Nat.and_two_pow_sub_one_eq_mod]
  omega
 simp only[pbin,if_true,yul,Option.map_some,h]
 rw[yDq (by omega) (by omega)]
 congr 2
 omega
theorem yxz{a b:Int}(ha:0≤a)(hb:0≤b)(ha2:a≤4294967295)(hb2:b≤4294967295):0≤a*b∧a*b≤18446744065119617025:=by
 refine⟨Int.mul_nonneg ha hb,?_⟩
 have h1:a*b≤4294967295*b:=Int.mul_le_mul_of_nonneg_right ha2 hb
 omega
theorem mul4(a b c d:Int):a*b*(c*d)=a*c*(b*d):=by rw[Int.mul_assoc,Int.mul_left_comm b,← Int.mul_assoc]
theorem yXv(x y:Int):x*y=(x / 4294967296)*(y / 4294967296)*18446744073709551616+((x / 4294967296)*(y % 4294967296)+(x % 4294967296)*(y / 4294967296))*4294967296+(x % 4294967296)*(y % 4294967296):=by
 have e1:x=(x / 4294967296)*4294967296+x % 4294967296:=(Int.ediv_mul_add_emod x 4294967296).symm
 have e2:y=(y / 4294967296)*4294967296+y % 4294967296:=(Int.ediv_mul_add_emod y 4294967296).symm
 conv=>lhs; rw[e1,e2]
 rw[Int.add_mul,Int.mul_add,Int.mul_add,mul4,Int.mul_right_comm (x / 4294967296) 4294967296,← Int.mul_assoc (x % 4294967296),Int.add_mul]
 omega
noncomputable def yEr:List D→Option D:=spOf (α:=Int×Int) (fun a=>[.int .u64 a.1,.int .u64 a.2]) (fun a=>0≤a.1∧a.1<18446744073709551616∧0≤a.2∧a.2<18446744073709551616) (fun a=>.tup [.int .u64 (a.1*a.2 / 18446744073709551616),.int .u64 (a.1*a.2 % 18446744073709551616)])
theorem yKe(x:Int)(y:Int)(h:0≤x∧x<18446744073709551616∧0≤y∧y<18446744073709551616):yEr [.int .u64 x,.int .u64 y]=some (.tup [.int .u64 (x*y / 18446744073709551616),.int .u64 (x*y % 18446744073709551616)]):=
 yae (fun⟨a0,a1⟩ ⟨b0,b1⟩ h=>by simp only[List.cons.injEq,D.int.injEq,true_and,and_true]at h; simp[h]) (x,y) h
theorem Yrj(x:Int)(y:Int)(h:0≤x∧x<18446744073709551616∧0≤y∧y<18446744073709551616):@wW GG (tb [] []) yfo.code (argF [.int .u64 x,.int .u64 y]) [] ⟨retQ yfo.res (.tup [.int .u64 (x*y / 18446744073709551616),.int .u64 (x*y % 18446744073709551616)])⟩:=by
 obtain⟨hx0,hx1,hy0,hy1⟩:=h
 have e:=yXv x y
 have ha:=yxz (a:=x / 4294967296) (b:=y / 4294967296) (by omega) (by omega) (by omega) (by omega)
 have hb:=yxz (a:=x / 4294967296) (b:=y % 4294967296) (by omega) (by omega) (by omega) (by omega)
 have hc:=yxz (a:=x % 4294967296) (b:=y / 4294967296) (by omega) (by omega) (by omega) (by omega)
 have hd:=yxz (a:=x % 4294967296) (b:=y % 4294967296) (by omega) (by omega) (by omega) (by omega)
 unfold yfo
 simp (disch:=omega) only[push_cast,↓reduceIte,Nat.reduceEqDiff,Int.reduceToNat,Int.reducePow,Yix,yBo,mul_u,add_u,Ys0 x y]
 rw[e]
 generalize (x / 4294967296)*(y / 4294967296)=a at*
 generalize (x / 4294967296)*(y % 4294967296)=b at*
 generalize (x % 4294967296)*(y / 4294967296)=c at*
 generalize (x % 4294967296)*(y % 4294967296)=d at*
 have e9:a+(b+d / 4294967296) / 4294967296+((b+d / 4294967296) % 4294967296+c) / 4294967296=(a*18446744073709551616+(b+c)*4294967296+d) / 18446744073709551616:=by omega
 rw[e9]
theorem Yj1:Contract Tryz.prog GG 169 yEr:=
 yac ytb (yao all_nil all_nil) (fun a h=>Yrj a.1 a.2 h)
def inI(x:Int):Bool:=decide (-9007199254740992≤x) && decide (x≤9007199254740992)
theorem ysl{x:Int}:inI x=true↔-9007199254740992≤x∧x≤9007199254740992:=by simp[inI]
theorem yY1{x:Int}:inI x=false↔x < -9007199254740992∨9007199254740992<x:=by
 rw[← Bool.not_eq_true,ysl]; omega
theorem Yhe{l:List Int}{i:Nat}(h:i<l.length):(l.drop i).all inI=(inI (l.getD i default) && (l.drop (i+1)).all inI):=by
 rw[List.drop_eq_getElem_cons h,List.all_cons]
 simp[List.getD_eq_getElem?_getD,h]
noncomputable def yni:List D→Option D:=spOf (α:=List Int) (fun a=>[.slc (nz 1 (a.map nI)) (a.map nI) false]) (fun a=>a.length≤65536) (fun a=>.bool (a.all inI))
theorem yKc(l:List Int)(h:l.length≤65536):yni [.slc (nz 1 (l.map nI)) (l.map nI) false]=some (.bool (l.all inI)):=
 yae (fun a b h=>by simp only[List.cons.injEq,D.slc.injEq,and_true,yqz]at h; simp[h]) (l) h
theorem Yrb(l:List Int)(h:l.length≤65536):@wW GG (tb [] []) yrb.code (argF [.slc (nz 1 (l.map nI)) (l.map nI) false]) [] ⟨retQ yrb.res (.bool (l.all inI))⟩:=by
 unfold yrb
 simp (disch:=first|omega|decide) only[push_cast,↓reduceIte,Nat.reduceEqDiff]
 refine ybs (fun i:Nat=>[(5,.slc (nz 1 (l.map nI)) (l.map nI) false),(6,.int .i64 (l.length:Int)),(7,.int .i64 (i:Int))]) (fun _=>[]) (fun i=>i≤l.length∧l.all inI=(l.drop i).all inI) (fun i=>l.length - i) 0 (by simp only[push_cast,↓reduceIte,Nat.reduceEqDiff,↓Int.reduceNatCast'] <;> rfl) ⟨Nat.zero_le _,rfl⟩ ?_
 rintro i ⟨hi,hh⟩
 unfold yu6
 simp (disch:=first|omega|decide) only[push_cast,↓reduceIte,Nat.reduceEqDiff,Int.reduceNeg]
 refine yag (fun h2=>?_) (fun h2=>?_)
 ·have hlt:i<l.length:=by omega
  rw[Yhe hlt]at hh
  have hix:∀ st:St,yfx st 1 (.slc (nz 1 (l.map nI)) (l.map nI) false) (.int .i64 (i:Int))=some (.eptr (nI (l.getD i default)) 0):=fun st=>by
   have:=yi5 st 1 nI l false .i64 (i:Int) (by omega) (by omega)
   rwa [Int.toNat_natCast]at this
  generalize l.getD i default=x at*
  cases hx:inI x with
  |true=>
   obtain⟨h5,h6⟩:=ysl.1 hx
   rw[hx,Bool.true_and]at hh
   have h7:¬ (x < -9007199254740992):=by omega
   have h8:¬ (9007199254740992<x):=by omega
   simp (disch:=first|omega|decide) only[push_cast,↓reduceIte,Nat.reduceEqDiff,Int.reduceNeg,hix,nI,h7,h8,yax]
   refine yai (i+1) (by exact⟨by omega,hh⟩) (by omega) ?_
   simp only[push_cast] <;> rfl
  |false=>
   rw[hx,Bool.false_and]at hh
   by_cases h7:x < -9007199254740992
   ·simp (disch:=first|omega|decide) only[push_cast,↓reduceIte,Nat.reduceEqDiff,Int.reduceNeg,hix,nI,h7,hh]
   ·have h8:9007199254740992<x:=by have:=yY1.1 hx; omega
    simp (disch:=first|omega|decide) only[push_cast,↓reduceIte,Nat.reduceEqDiff,Int.reduceNeg,hix,nI,h7,h8,hh]
 ·obtain rfl:i=l.length:=by omega
  rw[List.drop_length]at hh
  simp (disch:=first|omega|decide) only[push_cast,↓reduceIte,Int.reduceNeg,hh,List.all_nil]
theorem yKf:Contract Tryz.prog GG 241 yni:=
 yac yK4 (yao all_nil all_nil) (fun a h=>Yrb a h)
def rgF(c:Int):Int×Int:=if inI c then(c,0)else(0,3)
theorem lit1(a:Int):litD 1 [.int .i64 a]=some (.slc 1 [.int .i64 a] true):=(rfl)
theorem lit2(a b:Int):litD 1 [.int .i64 a,.int .i64 b]=some (.slc 1 [.int .i64 a,.int .i64 b] true):=(rfl)
theorem e98:((9:Int)=8)=False:=by decide
theorem e108:((10:Int)=8)=False:=by decide
theorem e109:((10:Int)=9)=False:=by decide
theorem e810:((8:Int)=10)=False:=by decide
theorem e910:((9:Int)=10)=False:=by decide
theorem Yhy(a:Int):yni [.slc 1 [.int .i64 a] false]=some (.bool (inI a)):=by
 have:=yKc [a] (by simp)
 simpa[nI,nz]using this
theorem yx7(a b:Int):yni [.slc 1 [.int .i64 a,.int .i64 b] false]=some (.bool (inI a && inI b)):=by
 have:=yKc [a,b] (by simp)
 simpa[nI,nz]using this
noncomputable def yEh:List D→Option D:=spOf (α:=Int) (fun a=>[.int .i64 a]) (fun a=>True) (fun a=>.tup [.int .i64 (rgF a).1,.int .i64 (rgF a).2])
theorem yKb(c:Int):yEh [.int .i64 c]=some (.tup [.int .i64 (rgF c).1,.int .i64 (rgF c).2]):=
 yae (fun a b h=>by simp only[List.cons.injEq,D.int.injEq,true_and,and_true]at h; simp[h]) (c) trivial
theorem Yra(c:Int):@wW GG (tb [(241,yni)] []) yih.code (argF [.int .i64 c]) [] ⟨retQ yih.res (.tup [.int .i64 (rgF c).1,.int .i64 (rgF c).2])⟩:=by
 unfold yih rgF
 have:=Yhy c
 cases hc:inI c <;> rw[hc]at this <;> simp (disch:=first|omega|decide) only[push_cast,↓reduceIte,Nat.reduceEqDiff,lit1,this]
theorem Yj0:Contract Tryz.prog GG 242 yEh:=
 yac yyi (yao (all_cons yKf all_nil) all_nil) (fun a h=>Yra a)
def addF(a b:Int):Int×Int:=if inI a && inI b then rgF (a+b)else(0,3)
def subF(a b:Int):Int×Int:=if inI a && inI b then rgF (a - b)else(0,3)
noncomputable def yxp:List D→Option D:=spOf (α:=Int×Int) (fun a=>[.int .i64 a.1,.int .i64 a.2]) (fun a=>True) (fun a=>.tup [.int .i64 (addF a.1 a.2).1,.int .i64 (addF a.1 a.2).2])
theorem yT8(a:Int)(b:Int):yxp [.int .i64 a,.int .i64 b]=some (.tup [.int .i64 (addF a b).1,.int .i64 (addF a b).2]):=
 yae (fun⟨a0,a1⟩ ⟨b0,b1⟩ h=>by simp only[List.cons.injEq,D.int.injEq,true_and,and_true]at h; simp[h]) (a,b) trivial
theorem Ykj(a:Int)(b:Int):@wW GG (tb [(241,yni),(242,yEh)] []) yon.code (argF [.int .i64 a,.int .i64 b]) [] ⟨retQ yon.res (.tup [.int .i64 (addF a b).1,.int .i64 (addF a b).2])⟩:=by
 unfold yon addF
 have h2:=yx7 a b
 have h3:=yKb (a+b)
 cases hc:inI a && inI b with
 |false=>rw[hc]at h2; simp (disch:=first|omega|decide) only[push_cast,↓reduceIte,Nat.reduceEqDiff,lit2,h2]
 |true=>
  rw[hc]at h2
  simp only[Bool.and_eq_true,ysl]at hc
  simp (disch:=first|omega|decide) only[push_cast,↓reduceIte,Nat.reduceEqDiff,lit2,h2,h3,yax]
theorem Ypn:Contract Tryz.prog GG 231 yxp:=
 yac yHg (yao (all_cons yKf (all_cons Yj0 all_nil)) all_nil) (fun a h=>Ykj a.1 a.2)
noncomputable def yxn:List D→Option D:=spOf (α:=Int×Int) (fun a=>[.int .i64 a.1,.int .i64 a.2]) (fun a=>True) (fun a=>.tup [.int .i64 (subF a.1 a.2).1,.int .i64 (subF a.1 a.2).2])
theorem yT6(a:Int)(b:Int):yxn [.int .i64 a,.int .i64 b]=some (.tup [.int .i64 (subF a b).1,.int .i64 (subF a b).2]):=
 yae (fun⟨a0,a1⟩ ⟨b0,b1⟩ h=>by simp only[List.cons.injEq,D.int.injEq,true_and,and_true]at h; simp[h]) (a,b) trivial
theorem Ykg(a:Int)(b:Int):@wW GG (tb [(241,yni),(242,yEh)] []) yok.code (argF [.int .i64 a,.int .i64 b]) [] ⟨retQ yok.res (.tup [.int .i64 (subF a b).1,.int .i64 (subF a b).2])⟩:=by
 unfold yok subF
 have h2:=yx7 a b
 have h3:=yKb (a - b)
 cases hc:inI a && inI b with
 |false=>rw[hc]at h2; simp (disch:=first|omega|decide) only[push_cast,↓reduceIte,Nat.reduceEqDiff,lit2,h2]
 |true=>
  rw[hc]at h2
  simp only[Bool.and_eq_true,ysl]at hc
  simp (disch:=first|omega|decide) only[push_cast,↓reduceIte,Nat.reduceEqDiff,lit2,h2,h3,ydz]
theorem Ypl:Contract Tryz.prog GG 232 yxn:=
 yac yHd (yao (all_cons yKf (all_cons Yj0 all_nil)) all_nil) (fun a h=>Ykg a.1 a.2)
theorem neg_u{a:Int}(h0:0<a)(h1:a<18446744073709551616):pun .neg (.int .u64 a)=some (.int .u64 (18446744073709551616 - a)):=by
 have e:(0 - a) % 18446744073709551616=18446744073709551616 - a:=by omega
 simp only[pun,yUq,e]
theorem yx4(st:St){a:Int}:ydf st (.int .u64) (.int .i64 a)=some (.int .u64 (a % 18446744073709551616)):=by
 simp only[ydf,yUq]
noncomputable def yto:List D→Option D:=spOf (α:=Int) (fun a=>[.int .i64 a]) (fun a=>inI a=true) (fun a=>.int .u64 (if a<0 then -a else a))
theorem yDe(a:Int)(h:inI a=true):yto [.int .i64 a]=some (.int .u64 (if a<0 then -a else a)):=
 yae (fun a b h=>by simp only[List.cons.injEq,D.int.injEq,true_and,and_true]at h; simp[h]) (a) h
theorem Ykk(a:Int)(h:inI a=true):@wW GG (tb [] []) yoj.code (argF [.int .i64 a]) [] ⟨retQ yoj.res (.int .u64 (if a<0 then -a else a))⟩:=by
 obtain⟨h1,h2⟩:=ysl.1 h
 unfold yoj
 by_cases h0:a<0
 ·have e1:(a % 18446744073709551616)=18446744073709551616+a:=by omega
  have e2:18446744073709551616 - (18446744073709551616+a)=-a:=by omega
  simp (disch:=first|omega|decide) only[push_cast,↓reduceIte,Nat.reduceEqDiff,h0,yx4,e1,neg_u,e2]
 ·simp (disch:=first|omega|decide) only[push_cast,↓reduceIte,Nat.reduceEqDiff,h0,yGi]
theorem Ypo:Contract Tryz.prog GG 243 yto:=
 yac yHc (yao all_nil all_nil) (fun a h=>Ykk a h)
def abI(a:Int):Int:=if a<0 then -a else a
def mulF(a b:Int):Int×Int:=if inI a && inI b then rgF (a*b)else(0,3)
theorem Yv5(a b:Int):abI a*abI b=abI (a*b):=by
 unfold abI
 rcases Int.lt_or_le a 0 with h1 | h1 <;> rcases Int.lt_or_le b 0 with h2 | h2
 ·have:=Int.mul_pos_of_neg_of_neg h1 h2
  rw[if_pos h1,if_pos h2,if_neg (by omega),Int.neg_mul_neg]
 ·have:=Int.mul_nonpos_of_nonpos_of_nonneg (Int.le_of_lt h1) h2
  rw[if_pos h1,if_neg (by omega),Int.neg_mul]
  split <;> omega
 ·have:=Int.mul_nonpos_of_nonneg_of_nonpos h1 (Int.le_of_lt h2)
  rw[if_neg (by omega),if_pos h2,Int.mul_neg]
  split <;> omega
 ·have:=Int.mul_nonneg h1 h2
  rw[if_neg (by omega),if_neg (by omega),if_neg (by omega)]
theorem Yqj{a:Int}(h:inI a=true):0≤abI a∧abI a≤9007199254740992:=by
 have:=ysl.1 h
 unfold abI; split <;> omega
theorem ab_in(a:Int):inI a=decide (abI a≤9007199254740992):=by
 cases h:inI a with
 |true=>simp[(Yqj h).2]
 |false=>
  have:=yY1.1 h
  symm
  rw[decide_eq_false_iff_not]
  unfold abI; split <;> omega
noncomputable def yxo:List D→Option D:=spOf (α:=Int×Int) (fun a=>[.int .i64 a.1,.int .i64 a.2]) (fun a=>True) (fun a=>.tup [.int .i64 (mulF a.1 a.2).1,.int .i64 (mulF a.1 a.2).2])
theorem yT7(a:Int)(b:Int):yxo [.int .i64 a,.int .i64 b]=some (.tup [.int .i64 (mulF a b).1,.int .i64 (mulF a b).2]):=
 yae (fun⟨a0,a1⟩ ⟨b0,b1⟩ h=>by simp only[List.cons.injEq,D.int.injEq,true_and,and_true]at h; simp[h]) (a,b) trivial
theorem Ykh(a:Int)(b:Int):@wW GG (tb [(241,yni),(243,yto),(169,yEr)] []) yol.code (argF [.int .i64 a,.int .i64 b]) [] ⟨retQ yol.res (.tup [.int .i64 (mulF a b).1,.int .i64 (mulF a b).2])⟩:=by
 unfold yol mulF
 have h2:=yx7 a b
 cases hc:inI a && inI b with
 |false=>rw[hc]at h2; simp (disch:=first|omega|decide) only[push_cast,↓reduceIte,Nat.reduceEqDiff,lit2,h2]
 |true=>
  rw[hc]at h2
  simp only[Bool.and_eq_true]at hc
  have c1:yto [.int .i64 a]=some (.int .u64 (abI a)):=yDe a hc.1
  have c2:yto [.int .i64 b]=some (.int .u64 (abI b)):=yDe b hc.2
  have l1:=Yqj hc.1
  have l2:=Yqj hc.2
  have c3:=yKe (abI a) (abI b) (by omega)
  have e:=Yv5 a b
  have ei:=ab_in (a*b)
  have hn:0≤abI a*abI b:=Int.mul_nonneg l1.1 l2.1
  have hb:abI a*abI b≤9007199254740992*9007199254740992:=Int.le_trans (Int.mul_le_mul_of_nonneg_right l1.2 l2.1) (by omega)
  rw[e]at c3 hn hb
  have hm:abI (a*b)≤9007199254740992→-9007199254740992≤a*b∧a*b≤9007199254740992:=fun h=>by
   unfold abI at h; split at h <;> omega
  have hmul:-9007199254740992≤a*b→a*b≤9007199254740992→pbin .mul (.int .i64 a) (.int .i64 b)=some (.int .i64 (a*b)):=fun h1 h2=>yBp (by omega) (by omega)
  unfold rgF
  rw[ei]
  generalize a*b=m at*
  generalize abI m=z at*
  by_cases h0:z / 18446744073709551616=0
  ·have h9:z % 18446744073709551616=z:=by omega
   rw[h0,h9]at c3
   by_cases h8:9007199254740992<z
   ·have h7:¬ z≤9007199254740992:=by omega
    simp (disch:=first|omega|decide) only[push_cast,↓reduceIte,Nat.reduceEqDiff,lit2,h2,c1,c2,c3,h8,h7]
   ·have h7:z≤9007199254740992:=by omega
    have h6:=hm h7
    have c4:pbin .mul (.int .i64 a) (.int .i64 b)=some (.int .i64 m):=hmul h6.1 h6.2
    simp (disch:=first|omega|decide) only[push_cast,↓reduceIte,Nat.reduceEqDiff,lit2,h2,c1,c2,c3,h8,h7,c4]
  ·have h7:¬ z≤9007199254740992:=by omega
   simp (disch:=first|omega|decide) only[push_cast,↓reduceIte,Nat.reduceEqDiff,lit2,h2,c1,c2,c3,h0,h7]
theorem Ypm:Contract Tryz.prog GG 233 yxo:=
 yac yHe (yao (all_cons yKf (all_cons Ypo (all_cons Yj1 all_nil))) all_nil) (fun a h=>Ykh a.1 a.2)
theorem Ylg(a:Int){b:Int}(hb:0<b):-(abI a)≤a.tdiv b∧a.tdiv b≤abI a:=by
 unfold abI
 rcases Int.lt_or_le a 0 with h | h
 ·have e:a.tdiv b=-((-a) / b):=by
   rw[← Int.tdiv_eq_ediv_of_nonneg (by omega),Int.neg_tdiv,Int.neg_neg]
  have h1:=Int.ediv_le_self b (show 0≤-a by omega)
  have h2:=Int.ediv_nonneg (show 0≤-a by omega) (show 0≤b by omega)
  rw[if_pos h,e]; omega
 ·have e:a.tdiv b=a / b:=Int.tdiv_eq_ediv_of_nonneg h
  have h1:=Int.ediv_le_self b h
  have h2:=Int.ediv_nonneg h (show 0≤b by omega)
  rw[if_neg (by omega),e]; omega
theorem yRm{a b:Int}(hb:0<b)(h1:-9223372036854775808<a)(h2:a<9223372036854775808):pbin .quo (.int .i64 a) (.int .i64 b)=some (.int .i64 (a.tdiv b)):=by
 have h3:=Ylg a hb
 have h4:abI a<9223372036854775808:=by unfold abI; split <;> omega
 simp only[pbin,if_true,yhn,show ¬ b=0 by omega,if_false,Option.map_some,ykq (show -9223372036854775808≤a.tdiv b by omega) (show a.tdiv b<9223372036854775808 by omega)]
theorem yRl{a b:Int}(hb:0<b):pbin .rem (.int .i64 a) (.int .i64 b)=some (.int .i64 (a.tmod b)):=by
 simp only[pbin,if_true,yhn,show ¬ b=0 by omega,if_false,Option.map_some]
def dnF(a b:Int):Int:=(if a.tmod b<0 then a - b else a).tdiv b
def upF(a b:Int):Int:=(if 0<a.tmod b then a+b else a).tdiv b
def divF(a b m:Int):Int×Int:=if inI a && inI b then(if b≤0 then(0,70)else(if m=10 then dnF (2*a+b) (2*b)else if m=8 then dnF a b else upF a b,0))else(0,3)
noncomputable def ytn:List D→Option D:=spOf (α:=Int×Int×Int) (fun a=>[.int .i64 a.1,.int .i64 a.2.1,.int .i64 a.2.2]) (fun a=>a.2.2=8∨a.2.2=9∨a.2.2=10) (fun a=>.tup [.int .i64 (divF a.1 a.2.1 a.2.2).1,.int .i64 (divF a.1 a.2.1 a.2.2).2])
theorem ywc(a:Int)(b:Int)(m:Int)(h:m=8∨m=9∨m=10):ytn [.int .i64 a,.int .i64 b,.int .i64 m]=some (.tup [.int .i64 (divF a b m).1,.int .i64 (divF a b m).2]):=
 yae (fun⟨a0,a1,a2⟩ ⟨b0,b1,b2⟩ h=>by simp only[List.cons.injEq,D.int.injEq,true_and,and_true]at h; simp[h]) (a,b,m) h
theorem Yki(a:Int)(b:Int)(m:Int)(h:m=8∨m=9∨m=10):@wW GG (tb [(241,yni)] []) yom.code (argF [.int .i64 a,.int .i64 b,.int .i64 m]) [] ⟨retQ yom.res (.tup [.int .i64 (divF a b m).1,.int .i64 (divF a b m).2])⟩:=by
 unfold yom divF
 have h2:=yx7 a b
 cases hc:inI a && inI b with
 |false=>
  rw[hc]at h2
  rcases h with rfl | rfl | rfl <;> simp (disch:=first|omega|decide) only[push_cast,↓reduceIte,Nat.reduceEqDiff,lit2,e98,e108,e109,h2]
 |true=>
  rw[hc]at h2
  simp only[Bool.and_eq_true,ysl]at hc
  obtain⟨⟨a1,a2⟩,b1,b2⟩:=hc
  by_cases hb:b≤0
  ·rcases h with rfl | rfl | rfl <;> simp (disch:=first|omega|decide) only[push_cast,↓reduceIte,Nat.reduceEqDiff,lit2,e98,e108,e109,h2,hb]
  ·unfold dnF upF
   rcases h with rfl | rfl | rfl
   ·by_cases hr:a.tmod b<0
    ·simp (disch:=first|omega|decide) only[push_cast,↓reduceIte,Nat.reduceEqDiff,lit2,e810,h2,hb,yRl,hr,ydz,yRm]
    ·simp (disch:=first|omega|decide) only[push_cast,↓reduceIte,Nat.reduceEqDiff,lit2,e810,h2,hb,yRl,hr,yRm]
   ·by_cases hr:0<a.tmod b
    ·simp (disch:=first|omega|decide) only[push_cast,↓reduceIte,Nat.reduceEqDiff,lit2,e98,e910,h2,hb,yRl,hr,yax,yRm]
    ·simp (disch:=first|omega|decide) only[push_cast,↓reduceIte,Nat.reduceEqDiff,lit2,e98,e910,h2,hb,yRl,hr,yRm]
   ·by_cases hr:(2*a+b).tmod (2*b)<0
    ·simp (disch:=first|omega|decide) only[push_cast,↓reduceIte,Nat.reduceEqDiff,lit2,e108,e109,h2,hb,yBp,yax,yRl,hr,ydz,yRm]
    ·simp (disch:=first|omega|decide) only[push_cast,↓reduceIte,Nat.reduceEqDiff,lit2,e108,e109,h2,hb,yBp,yax,yRl,hr,yRm]
theorem yNf:Contract Tryz.prog GG 237 ytn:=
 yac yHf (yao (all_cons yKf all_nil) all_nil) (fun a h=>Yki a.1 a.2.1 a.2.2 h)
noncomputable def relI(R:List D→St→D×St→Prop):List D→St→Option (D×St):=fun ds st=>@dite _ (∃ r,R ds st r) (Classical.propDecidable _) (fun h=>some h.choose) (fun _=>none)
theorem yca{R:List D→St→D×St→Prop}{ds:List D}{st:St}{r:D×St}(h:relI R ds st=some r):R ds st r:=by
 unfold relI at h
 split at h
 ·rename_i hx
  simp only[Option.some.injEq]at h
  rw[← h]; exact hx.choose_spec
 ·cases h
theorem Yl8{R:List D→St→D×St→Prop}{ds:List D}{st:St}{r:D×St}(h:R ds st r)(hu:∀ r',R ds st r'→r'=r):relI R ds st=some r:=by
 have hx:∃ r,R ds st r:=⟨r,h⟩
 unfold relI
 rw[dif_pos hx,hu _ hx.choose_spec]
def Fun1(R:List D→St→D×St→Prop):Prop:=∀ ds st r r',R ds st r→R ds st r'→r=r'
theorem yhx{R:List D→St→D×St→Prop}(hf:Fun1 R){ds:List D}{st:St}{r:D×St}(h:R ds st r):relI R ds st=some r:=Yl8 h fun r' h'=>hf ds st r' r h' h
def StOK(st:St):Prop:=∀ o∈st,o.row=false→∀ x∈o.els,ren st.length [] x=x
theorem yG3(n:Nat):∀ (l acc:List Nat),uniq n n l acc=acc
 |[],acc=>rfl
 |k::r,acc=>by
  rw[uniq,if_neg (by omega)]
  exact yG3 n r acc
theorem yg2{α:Type}{f:α→α}:∀ {l:List α},(∀ x∈l,f x=x)→l.map f=l
 |[],_=>rfl
 |a::l,h=>by rw[List.map_cons,h a (by simp),yg2 fun x hx=>h x (by simp[hx])]
theorem yWk{st:St}(h:StOK st):st.map (renO st.length [])=st:=by
 refine yg2 fun o ho=>?_
 obtain⟨row,sz,els,lent⟩:=o
 cases row with
 |true=>rfl
 |false=>
  show(⟨false,sz,els.map (ren st.length []),lent⟩:Obj)=_
  rw[yg2 (h _ ho rfl)]
theorem yr6{keep:List Nat}{fr:Frame}{st:St}(h:StOK st):restrict keep st.length ⟨fr,st⟩=⟨mkF (ypb fr st.length [] keep),st⟩:=by
 unfold restrict
 simp only[Nat.le_refl,if_true,yG3]
 unfold restrictAt
 rw[yum]
 simp only[picked,List.map_nil,List.append_nil,List.take_length,yWk h]
theorem ypn{n m key:Nat}(f:Nat→D)(hf:∀ k,f k≠.junk)(hnm:n≤m)(h:ygo f (renK n [] key)=f key):ygo f (renK m [] key)=f key:=by
 unfold renK at h ⊢
 by_cases hk:key<n
 ·rw[if_pos (Nat.lt_of_lt_of_le hk hnm)]; rfl
 ·rw[if_neg hk]at h
  exact absurd h.symm (hf key)
theorem yH4{n m:Nat}(hnm:n≤m){x:D}(h:ren0 n [] x=x):ren0 m [] x=x:=by
 cases x with
 |row key tot off len=>exact ypn (fun k=>.row k tot off len) (fun k e=>by cases e) hnm h
 |bsl key off j sz ag=>exact ypn (fun k=>.bsl k off j sz ag) (fun k e=>by cases e) hnm h
 |ptr key off=>exact ypn (fun k=>.ptr k off) (fun k e=>by cases e) hnm h
 |rptr key tot i off=>exact ypn (fun k=>.rptr k tot i off) (fun k e=>by cases e) hnm h
 |mapv key=>exact ypn .mapv (fun k e=>by cases e) hnm h
 |_=>exact h
theorem ye3{f:D→D}:∀ {l:List D},l.map f=l→∀ x∈l,f x=x
 |[],_,x,hx=>by cases hx
 |a::l,h,x,hx=>by
  simp only[List.map_cons,List.cons.injEq]at h
  rcases List.mem_cons.1 hx with rfl | hx
  ·exact h.1
  ·exact ye3 h.2 x hx
theorem yH3{n m:Nat}(hnm:n≤m){x:D}(h:ren1 n [] x=x):ren1 m [] x=x:=by
 cases x with
 |clo f l=>
  simp only[ren1,D.clo.injEq,true_and]at h ⊢
  exact yg2 fun y hy=>yH4 hnm (ye3 h y hy)
 |_=>unfold ren1 at h ⊢; exact yH4 hnm h
theorem Yd8{n m:Nat}(hnm:n≤m){x:D}(h:ren n [] x=x):ren m [] x=x:=by
 cases x with
 |agg l=>
  simp only[ren,D.agg.injEq]at h ⊢
  exact yg2 fun y hy=>yH3 hnm (ye3 h y hy)
 |tup l=>unfold ren at h ⊢; exact h
 |_=>unfold ren at h ⊢; exact yH3 hnm h
theorem StOK.nil:StOK []:=fun _ h=>by cases h
theorem StOK.app{st:St}(h:StOK st)(l:St)(hl:∀ o∈l,o.row=false→∀ x∈o.els,ren (st.length+l.length) [] x=x):StOK (st++l):=by
 intro o ho hr x hx
 rw[List.length_append]
 rcases List.mem_append.1 ho with ho | ho
 ·exact Yd8 (Nat.le_add_right _ _) (h o ho hr x hx)
 ·exact hl o ho hr x hx
theorem StOK.set{st:St}(h:StOK st)(k:Nat)(o:Obj)(ho:o.row=false→∀ x∈o.els,ren st.length [] x=x):StOK (st.set k o):=by
 intro q hq hr x hx
 rw[List.length_set]
 rcases List.mem_or_eq_of_mem_set hq with hq | rfl
 ·exact h q hq hr x hx
 ·exact ho hr x hx
theorem yNv(n m:Nat):∀ (l acc:List Nat),(∀ k∈l,k<n)→uniq n m l acc=acc
 |[],acc,_=>rfl
 |k::r,acc,h=>by
  have:=h k (by simp)
  rw[uniq,if_neg (by omega)]
  exact yNv n m r acc fun x hx=>h x (by simp[hx])
theorem yE0{keep:List Nat}{fr:Frame}{st l:St}(h:StOK st)(hks:∀ o∈st,o.row=false→∀ x∈o.els,∀ k∈hk x,k<st.length)(hf:∀ s∈keep,∀ k∈hk (fr s),k<st.length) :
  restrict keep st.length ⟨fr,st++l⟩=⟨mkF (ypb fr st.length [] keep),st⟩:=by
 have hle:st.length≤(st++l).length:=by simp
 have ht:(st++l).take st.length=st:=by simp
 unfold restrict
 simp only[hle,if_true]
 rw[yNv _ _ _ _ (fun k hk'=>by
  simp only[yI3,ht,List.mem_append,List.mem_flatMap]at hk'
  rcases hk' with⟨s,hs,hs2⟩ | ⟨o,ho,ho2⟩
  ·exact hf s hs k hs2
  ·cases hr:o.row with
   |true=>rw[hr]at ho2; simp at ho2
   |false=>
    rw[hr]at ho2
    simp only[Bool.false_eq_true,if_false,List.mem_flatMap]at ho2
    obtain⟨x,hx,hxk⟩:=ho2
    exact hks o ho hr x hx k hxk)]
 unfold restrictAt
 rw[yum]
 simp only[picked,List.map_nil,List.append_nil,ht,yWk h]
def yi2:Nat→Nat→Nat
 |0,_=>0
 |n+1,u=>if u=0 then 0 else yi2 n (u / 256)+1
theorem Yls(n:Nat):yi2 n 0=0:=by cases n <;> rfl
theorem yLk(n u:Nat):yi2 (n+1) u=if u=0 then 0 else yi2 n (u / 256)+1:=(rfl)
theorem yB9:∀ (n u:Nat),u<256 ^ n→yi2 (n+1) u=yi2 n u
 |0,u,h=>by
  have:u=0:=by simpa using h
  subst this; rfl
 |n+1,u,h=>by
  rw[yLk (n+1) u,yLk n u]
  split
  ·rfl
  ·rw[yB9 n (u / 256) (by rw[Nat.pow_succ]at h; omega)]
theorem yqq:∀ (n u:Nat),yi2 n u≤n
 |0,_=>Nat.le_refl _
 |n+1,u=>by
  rw[yi2]
  split
  ·omega
  ·have:=yqq n (u / 256); omega
def Ysc(ds:List D)(st:St)(r:D×St):Prop:=∃ u:Nat,StOK st∧u<18446744073709551616∧ds=[.int .u64 (u:Int)]∧r=(.int .i64 (yi2 8 u:Int),st)
noncomputable def yLq:List D→St→Option (D×St):=relI Ysc
theorem Ydq:Fun1 Ysc:=by
 rintro ds st r r' ⟨u,_,_,rfl,rfl⟩ ⟨u',_,_,h,rfl⟩
 simp only[List.cons.injEq,D.int.injEq,true_and,and_true]at h
 obtain rfl:u=u':=by omega
 rfl
theorem yQ6{n u:Nat}(h:u≠0)(hu:u<256 ^ n):yi2 n u=yi2 n (u / 256)+1:=by
 cases n with
 |zero=>simp at hu; omega
 |succ n=>
  rw[yLk n u,if_neg h,yB9 n (u / 256) (by rw[Nat.pow_succ]at hu; omega)]
theorem Ypb:IContract Tryz.prog GG 209 yLq:=by
 refine yaj (T:=tb [] []) yrf (yao all_nil all_nil) ?_
 intro ds st r hr
 obtain⟨u,hok,hu,rfl,rfl⟩:=yca hr
 unfold ykm
 simp (disch:=first|omega|decide) only[push_cast]
 refine ybs (fun p:Nat×Nat=>[(0,.int .u64 (p.1:Int)),(2,.int .i64 (p.2:Int))]) (fun _=>st) (fun p=>p.1<18446744073709551616∧yi2 8 u=yi2 8 p.1+p.2) (fun p=>p.1) (u,0) (by simp only[push_cast,↓reduceIte,Nat.reduceEqDiff,↓yr6 hok] <;> rfl) ⟨hu,rfl⟩ ?_
 rintro⟨w,k⟩ ⟨hw,hk⟩
 have hk8:=yqq 8 u
 dsimp only at hw hk
 unfold yhq
 simp (disch:=first|omega|decide) only[push_cast,↓reduceIte]
 refine yag (fun h2=>?_) (fun h2=>?_)
 ·have hw0:w≠0:=by omega
  have hs:=yQ6 (n:=8) hw0 (by omega)
  have hsh:pbin .shr (.int .u64 (w:Int)) (.int .u64 8)=some (.int .u64 ((w / 256:Nat):Int)):=by
   rw[yBo (by omega) (by omega)]; rfl
  simp (disch:=first|omega|decide) only[push_cast,↓reduceIte,Nat.reduceEqDiff,↓Int.reduceNatCast',↓yr6 hok,hsh,yax]
  refine yai (w / 256,k+1) (by dsimp only; omega) (by dsimp only; omega) ?_
  simp only[push_cast,↓Int.reduceNatCast'] <;> rfl
 ·obtain rfl:w=0:=by omega
  rw[Yls]at hk
  have hk':yi2 8 u=k:=by omega
  rw[hk']
  simp (disch:=first|omega|decide) only[push_cast,↓reduceIte,Nat.reduceEqDiff,Int.reduceLT,↓Int.reduceNatCast']
def yBt(st:St)(b:D)(l:List UInt8):Prop:=(b=.slc 0 [] true∧l=[])∨∃ key,b=.row key l.length 0 l.length∧l≠[]∧st[key]?=some ⟨true,1,l.map yaf,false⟩
def ygs(st:St)(b:D)(l m:List UInt8):D×St:=match b with
 |.row key _ _ _=>(.row key (l++m).length 0 (l++m).length,st.set key ⟨true,1,(l++m).map yaf,false⟩)
 |_=>(.row st.length m.length 0 m.length,st++[⟨true,1,m.map yaf,false⟩])
theorem Yby{st:St}{b:D}{l l':List UInt8}(h:yBt st b l)(h':yBt st b l'):l=l':=by
 rcases h with⟨rfl,rfl⟩ | ⟨key,rfl,hl,hk⟩
 ·rcases h' with⟨_,rfl⟩ | ⟨key,h,_⟩
  ·rfl
  ·cases h
 ·rcases h' with⟨h,_⟩ | ⟨key',h,_,hk'⟩
  ·cases h
  ·simp only[D.row.injEq]at h
   obtain⟨rfl,_⟩:=h
   rw[hk]at hk'
   simp only[Ywe,Obj.mk.injEq,true_and,and_true]at hk'
   exact ykg hk'
theorem Ywd{st:St}{b:D}{l m:List UInt8}(h:StOK st):StOK (ygs st b l m).2:=by
 unfold ygs
 split
 ·exact h.set _ _ fun e=>by cases e
 ·exact h.app _ fun o ho hr=>by
   simp only[List.mem_singleton]at ho
   subst ho; cases hr
theorem yua{st:St}{b:D}{l m:List UInt8}(h:yBt st b l)(hm:m≠[])(hl:l.length+m.length≤4294967296)(t:Bool):papp st 1 1 b (.slc 1 (m.map yaf) t)=some (ygs st b l m):=by
 have hne:m.map yaf≠[]:=by simpa using hm
 have hz:nz 1 (m.map yaf)=1:=by
  cases hc:m.map yaf with
  |nil=>exact absurd hc hne
  |cons a r=>rfl
 rcases h with⟨rfl,rfl⟩ | ⟨key,rfl,hl',hk⟩
 ·have:=yCj yaf st 1 0 1 m t (by decide) (by omega) (by simp at hl; omega)
  rw[hz,ywf _ _ _ hne,ysy _ _ hne,List.length_map]at this
  exact this
 ·rw[yzh,hk]
  have he:ygl st (.slc 1 (m.map yaf) t)=some (1,m.map yaf):=(rfl)
  rw[he,Yqb l m false hl]
  simp only[Option.map_some,ygs,List.length_map]
def bufW(st:St)(key:Nat)(l:List UInt8):St:=st.set key ⟨true,1,l.map yaf,false⟩
theorem ysx(st:St)(key:Nat)(l:List UInt8):(bufW st key l).length=st.length:=List.length_set
theorem yGp{st:St}{key:Nat}(h:key<st.length)(l:List UInt8):(bufW st key l)[key]?=some ⟨true,1,l.map yaf,false⟩:=by simp[bufW,h]
theorem Ybx(st:St)(key:Nat)(l m:List UInt8):bufW (bufW st key l) key m=bufW st key m:=by simp[bufW]
theorem yA7{st:St}(h:StOK st)(key:Nat)(l:List UInt8):StOK (bufW st key l):=h.set _ _ fun e=>by cases e
theorem yQk{st:St}{key:Nat}(h:key<st.length)(l m:List UInt8)(hm:m≠[])(hl:l.length+m.length≤4294967296)(t:Bool) :
  papp (bufW st key l) 1 1 (.row key l.length 0 l.length) (.slc 1 (m.map yaf) t)=some (.row key (l++m).length 0 (l++m).length,bufW st key (l++m)):=by
 by_cases hl0:l=[]
 ·subst hl0
  rw[yzh,yGp h]
  have he:ygl (bufW st key []) (.slc 1 (m.map yaf) t)=some (1,m.map yaf):=(rfl)
  rw[he,Yqb [] m false hl]
  simp only[Option.map_some,List.length_map]
  simp only[bufW,List.set_set]
 ·rw[yua (.inr ⟨key,rfl,hl0,yGp h l⟩) hm hl t]
  simp only[ygs]
  simp only[bufW,List.set_set]
theorem yu0{st:St}{key:Nat}(h:key<st.length)(l:List UInt8)(x:UInt8)(hl:l.length<4294967296)(t:Bool) :
  papp (bufW st key l) 1 1 (.row key l.length 0 l.length) (.slc 1 [yaf x] t)=some (.row key (l++[x]).length 0 (l++[x]).length,bufW st key (l++[x])):=
 yQk h l [x] (by simp) (by simp; omega) t
theorem yDl{st:St}{b:D}{l m:List UInt8}(h:yBt st b l)(hm:m≠[]):∃ key st1,key<st1.length∧ygs st b l m=(.row key (l++m).length 0 (l++m).length,bufW st1 key (l++m))∧(StOK st→StOK st1)∧
  ∀ n,ygs st b l (m++n)=(.row key (l++(m++n)).length 0 (l++(m++n)).length,bufW st1 key (l++(m++n))):=by
 rcases h with⟨rfl,rfl⟩ | ⟨key,rfl,hl,hk⟩
 ·refine⟨st.length,st++[⟨true,1,[],false⟩],by simp,?_,fun h=>h.app _ fun o ho hr=>?_,fun n=>?_⟩
  ·simp[ygs,bufW]
  ·simp only[List.mem_singleton]at ho
   subst ho; cases hr
  ·simp[ygs,bufW]
 ·have hlt:=(List.getElem?_eq_some_iff.1 hk).1
  exact⟨key,st,hlt,rfl,id,fun n=>rfl⟩
theorem yku{keep:List Nat}{fr:Frame}{st:St}{n:Nat}(h:StOK st)(hn:n=st.length):restrict keep n ⟨fr,st⟩=⟨mkF (ypb fr n [] keep),st⟩:=by
 subst hn; exact yr6 h
def yf9(u k:Nat):List UInt8:=(List.range k).map fun i=>UInt8.ofNat (u / 2 ^ (8*(k - 1 - i)))
theorem yn6(u k:Nat):(yf9 u k).length=k:=by simp[yf9]
theorem yNj{u k i:Nat}(h:i<k):(yf9 u k).take (i+1)=(yf9 u k).take i++[UInt8.ofNat (u / 2 ^ (8*(k - 1 - i)))]:=by
 rw[List.take_add_one]
 congr 1
 simp[yf9,h]
def u64N(n:Int):Nat:=(n % 18446744073709551616).toNat
def yxf(a:Nat):Nat:=18446744073709551615 - a
theorem Ygf(a:Nat):yxf a<18446744073709551616:=by unfold yxf; omega
def intB(n:Int):List UInt8:=
 if 0≤n then UInt8.ofNat (32+yi2 8 (u64N n))::yf9 (u64N n) (yi2 8 (u64N n))
 else UInt8.ofNat (31 - yi2 8 (yxf (u64N n)))::yf9 (u64N n) (yi2 8 (yxf (u64N n)))
theorem Yc7{a:Nat}(h:a<18446744073709551616):pun .xor (.int .u64 (a:Int))=some (.int .u64 (yxf a:Int)):=by
 unfold yxf
 have e1:yul .xor .u64 (if IntKind.u64.signed then -1 else IntKind.u64.max) (a:Int)=some ((18446744073709551615 - a:Nat):Int):=by
  unfold yul
  have h64:IntKind.u64.bits=64:=rfl
  have hs:(if IntKind.u64.signed then(-1:Int)else IntKind.u64.max)=18446744073709551615:=by decide
  rw[hs]
  simp only
  have:(BitVec.ofInt IntKind.u64.bits 18446744073709551615 ^^^ BitVec.ofInt IntKind.u64.bits (a:Int)) = ~~~ (BitVec.ofNat 64 a):=by
   show(BitVec.ofInt 64 18446744073709551615 ^^^ BitVec.ofInt 64 (a:Int))=_
   rw[show(BitVec.ofInt 64 18446744073709551615)=BitVec.allOnes 64 by decide,show(BitVec.ofInt 64 (a:Int))=BitVec.ofNat 64 a from BitVec.ofInt_natCast 64 a,BitVec.allOnes_xor]
  rw[this]
  show some (IntKind.wrap .u64 (((~~~ (BitVec.ofNat 64 a):BitVec 64).toNat:Nat):Int))=_
  rw[BitVec.toNat_not,BitVec.toNat_ofNat,Nat.mod_eq_of_lt (by omega)]
  show some (IntKind.wrap .u64 ((2 ^ 64 - 1 - a:Nat):Int))=_
  congr 1
  rw[yUq]
  omega
 simp only[pun,e1,Option.map_some]
def intR(ds:List D)(st:St)(r:D×St):Prop:=∃ (b:D) (l:List UInt8) (n:Int),StOK st∧yBt st b l∧l.length≤4294967000∧ds=[b,.int .i64 n]∧r=ygs st b l (intB n)
noncomputable def yy4:List D→St→Option (D×St):=relI intR
theorem Yiy:Fun1 intR:=by
 rintro ds st r r' ⟨b,l,n,_,hb,_,rfl,rfl⟩ ⟨b',l',n',_,hb',_,h,rfl⟩
 simp only[List.cons.injEq,D.int.injEq,true_and,and_true]at h
 obtain⟨rfl,rfl⟩:=h
 rw[Yby hb hb']
theorem Ybf{st:St}{b:D}{l:List UInt8}(n:Int)(h1:StOK st)(h2:yBt st b l)(h3:l.length≤4294967000):yy4 [b,.int .i64 n] st=some (ygs st b l (intB n)):=yhx Yiy ⟨b,l,n,h1,h2,h3,rfl,rfl⟩
theorem yJ6{st:St}(u:Nat)(h1:StOK st)(h2:u<18446744073709551616):yLq [.int .u64 (u:Int)] st=some (.int .i64 (yi2 8 u:Int),st):=yhx Ydq ⟨u,h1,h2,rfl,rfl⟩
theorem yr8{n key:Nat}(h:key<n):renK n [] key=some key:=if_pos h
theorem yU5(n:Int):u64N n<18446744073709551616:=by unfold u64N; omega
theorem yK0(n:Int):n % 18446744073709551616=(u64N n:Int):=by unfold u64N; omega
theorem yIu(x:UInt8):litD 1 [yaf x]=some (.slc 1 [yaf x] true):=(rfl)
theorem yY7(st:St)(x:UInt8):imm st (yaf x)=some (yaf x):=(rfl)
theorem yI2(x:UInt8):keys (yaf x)=[]:=(rfl)
theorem yJy(st:St)(k:Nat):ydf st (.int .u8) (.int .i64 (32+(k:Int)))=some (yaf (UInt8.ofNat (32+k))):=by
 rw[yi6 st (by omega),show(32+(k:Int)).toNat=32+k by omega]
theorem Yag(st:St){k:Nat}(h:k≤31):ydf st (.int .u8) (.int .i64 (31 - (k:Int)))=some (yaf (UInt8.ofNat (31 - k))):=by
 rw[yi6 st (by omega),show(31 - (k:Int)).toNat=31 - k by omega]
theorem yTw(st:St)(u m:Nat):ydf st (.int .u8) (.int .u64 ((u:Int) / 2 ^ m))=some (yaf (UInt8.ofNat (u / 2 ^ m))):=by
 have e:((u:Int) / 2 ^ m)=((u / 2 ^ m:Nat):Int):=by simp
 rw[e,yi6 st (Int.natCast_nonneg _)]; rfl
/- the loop's part: the tag is laid -/
theorem yUw(T:Tbl)(st1:St)(key:Nat)(hkey:key<st1.length)(hok:StOK st1)(l0:List UInt8)(n:Int)(k:Nat)(hk:k≤8)(hl:l0.length≤4294967200)(fr:Frame)(Q:Ex→Frame→St→Prop)
  (h0:fr 0=.row key l0.length 0 l0.length) (h1:fr 1=.int .i64 n) (h6:fr 6=.int .i64 (k:Int)) (h30:fr 30=.int .i64 (k:Int)) (h31:fr 31=.int .i64 0)
  (hQ:∀ fr',fr' 0=.row key (l0++yf9 (u64N n) k).length 0 (l0++yf9 (u64N n) k).length→Q (.exit 0) fr' (bufW st1 key (l0++yf9 (u64N n) k))) :
  @wW GG T (.loop [0,1,6,30,31] yf0) fr (bufW st1 key l0) ⟨Q⟩:=by
 have hlen:=ysx st1 key
 have hR:∀ (fr:Frame) (m:List UInt8),restrict [0,1,6,30,31] (bufW st1 key l0).length ⟨fr,bufW st1 key m⟩=⟨mkF (ypb fr st1.length [] [0,1,6,30,31]),bufW st1 key m⟩:=fun fr m=>by rw[yku (yA7 hok key m) (by rw[hlen,hlen]),hlen]
 refine ybs (fun i:Nat=>[(0,.row key (l0++(yf9 (u64N n) k).take i).length 0 (l0++(yf9 (u64N n) k).take i).length),(1,.int .i64 n),(6,.int .i64 (k:Int)),(30,.int .i64 (k:Int)),(31,.int .i64 (i:Int))])
  (fun i=>bufW st1 key (l0++(yf9 (u64N n) k).take i)) (fun i=>i≤k) (fun i=>k - i) 0 ?_ (by omega) ?_
 ·rw[hR]
  simp (disch:=omega) only[push_cast,↓Int.reduceNatCast',h0,h1,h6,h30,h31,yr8] <;> rfl
 intro i hi
 unfold yf0
 have hb:=yn6 (u64N n) k
 have ht:((yf9 (u64N n) k).take i).length=i:=by rw[List.length_take]; omega
 simp (disch:=first|omega|decide) only[push_cast,↓reduceIte,Nat.reduceEqDiff]
 refine yag (fun h2=>?_) (fun h2=>?_)
 ·have e1:((8*((k:Int) - 1 - (i:Int)))).toNat=8*(k - 1 - i):=by omega
  have happ:=fun x=>yu0 (st:=st1) hkey (l0++(yf9 (u64N n) k).take i) x (by rw[List.length_append]; omega) true
  simp (disch:=first|omega|decide) only[push_cast,↓reduceIte,Nat.reduceEqDiff,yx4,yK0,ydz,yBp,yax,yBo,e1,yTw,yY7,yI2,yIu,happ,↓hR,hkey]
  refine yai (i+1) (by omega) (by omega) ?_
  rw[yNj (by omega),← List.append_assoc]
  simp (disch:=omega) only[push_cast] <;> rfl
 ·obtain rfl:i=k:=by omega
  have e2:(yf9 (u64N n) i).take i=yf9 (u64N n) i:=List.take_of_length_le (by omega)
  rw[e2]
  simp (disch:=first|omega|decide) only[push_cast]
  exact hQ _ rfl
theorem Ypg:IContract Tryz.prog GG 202 yy4:=by
 refine yaj (T:=tb [] [(209,yLq)]) ytf (yao all_nil (all_cons Ypb all_nil)) ?_
 intro ds st r hr
 obtain⟨b,l,n,hok,hb,hl,rfl,rfl⟩:=yca hr
 unfold ynb
 have hs:=yJ6 (st:=st) (u64N n) hok (yU5 n)
 have hs8:=yqq 8 (u64N n)
 have hu:=yU5 n
 by_cases hn:n<0
 ·have hs':=yJ6 (st:=st) (yxf (u64N n)) hok (Ygf _)
  have hs9:=yqq 8 (yxf (u64N n))
  have hI:intB n=[UInt8.ofNat (31 - yi2 8 (yxf (u64N n)))]++yf9 (u64N n) (yi2 8 (yxf (u64N n))):=if_neg (by omega)
  rw[hI]
  generalize yi2 8 (yxf (u64N n))=k at*
  obtain⟨key,st1,hkey,hput,hok1,hmore⟩:=yDl hb (m:=[UInt8.ofNat (31 - k)]) (by simp)
  have happ:=yua hb (m:=[UInt8.ofNat (31 - k)]) (by simp) (by simp; omega) true
  rw[hput]at happ
  have hm:=hmore (yf9 (u64N n) k)
  simp only[List.map_cons,List.map_nil]at happ
  rw[hm,← List.append_assoc]
  simp (disch:=first|omega|decide) only[push_cast,↓reduceIte,Nat.reduceEqDiff,hn,yx4,yK0,hs,Yc7,hs',yax,ydz,Yag,yJy,yY7,yI2,yIu,happ]
  refine yUw _ st1 key hkey (hok1 hok) (l++[UInt8.ofNat (31 - k)]) n k hs9 (by simp; omega) _ _ (by simp only[push_cast,↓reduceIte,Nat.reduceEqDiff]) (by simp only[push_cast,↓reduceIte,Nat.reduceEqDiff]) (by simp only[push_cast,↓reduceIte,Nat.reduceEqDiff]) (by simp only[push_cast,↓reduceIte,Nat.reduceEqDiff]) (by simp only[push_cast,↓reduceIte]) fun fr' hf=>?_
  simp (disch:=first|omega|decide) only[push_cast,↓reduceIte,hf]
 ·have hI:intB n=[UInt8.ofNat (32+yi2 8 (u64N n))]++yf9 (u64N n) (yi2 8 (u64N n)):=if_pos (by omega)
  rw[hI]
  generalize yi2 8 (u64N n)=k at*
  obtain⟨key,st1,hkey,hput,hok1,hmore⟩:=yDl hb (m:=[UInt8.ofNat (32+k)]) (by simp)
  have happ:=yua hb (m:=[UInt8.ofNat (32+k)]) (by simp) (by simp; omega) true
  rw[hput]at happ
  have hm:=hmore (yf9 (u64N n) k)
  simp only[List.map_cons,List.map_nil]at happ
  rw[hm,← List.append_assoc]
  simp (disch:=first|omega|decide) only[push_cast,↓reduceIte,Nat.reduceEqDiff,hn,yx4,yK0,hs,yax,yJy,yY7,yI2,yIu,happ]
  refine yUw _ st1 key hkey (hok1 hok) (l++[UInt8.ofNat (32+k)]) n k hs8 (by simp; omega) _ _ (by simp only[push_cast,↓reduceIte,Nat.reduceEqDiff]) (by simp only[push_cast,↓reduceIte,Nat.reduceEqDiff]) (by simp only[push_cast,↓reduceIte,Nat.reduceEqDiff]) (by simp only[push_cast,↓reduceIte,Nat.reduceEqDiff]) (by simp only[push_cast,↓reduceIte]) fun fr' hf=>?_
  simp (disch:=first|omega|decide) only[push_cast,↓reduceIte,hf]
inductive Val where
 |int (n:Int)
 |bytes (b:List UInt8)
 |list (l:List Val)
instance:Inhabited Val:=⟨.int 0⟩
def vC(k n:Int)(B L:List D):List D:=[.int .i64 k,.int .i64 n,.slc (nz 1 B) B false,.slc (nz 4 L) L false]
def vD(k n:Int)(B L:List D):D:=.agg (vC k n B L)
mutual
def valD:Val→D
 |.int n=>vD 1 n [] []
 |.bytes b=>vD 2 0 (b.map yaf) []
 |.list l=>vD 3 0 [] (yyd l)
def yyd:List Val→List D
 |[]=>[]
 |v::l=>valD v::yyd l
end
mutual
def depV:Val→Nat
 |.int _=>0
 |.bytes _=>0
 |.list l=>yjl l+1
def yjl:List Val→Nat
 |[]=>0
 |v::l=>max (depV v) (yjl l)
end
def escB(c:UInt8):List UInt8:=if c=0 then [0,255]else [c]
mutual
def encV:Val→List UInt8
 |.int n=>intB n
 |.bytes b=>48::(b.flatMap escB++[0,0])
 |.list l=>64::(yM4 l++[0])
def yM4:List Val→List UInt8
 |[]=>[]
 |v::l=>encV v++yM4 l
end
theorem yNu:∀ l:List Val,yyd l=l.map valD
 |[]=>by simp[yyd]
 |v::l=>by simp[yyd,yNu l]
theorem yGc:∀ l:List Val,yM4 l=l.flatMap encV
 |[]=>by simp[yM4]
 |v::l=>by simp[yM4,yGc l]
theorem yGg:∀ {l:List Val} {v:Val},v∈l→depV v≤yjl l
 |a::l,v,h=>by
  rw[yjl]
  rcases List.mem_cons.1 h with rfl | h
  ·exact Nat.le_max_left _ _
  ·exact Nat.le_trans (yGg h) (Nat.le_max_right _ _)
theorem yjd(n:Int):valD (.int n)=vD 1 n [] []:=by simp[valD]
theorem yfc(b:List UInt8):valD (.bytes b)=vD 2 0 (b.map yaf) []:=by simp[valD]
theorem yjx(l:List Val):valD (.list l)=vD 3 0 [] (l.map valD):=by simp[valD,yNu]
theorem yGd(n:Int):encV (.int n)=intB n:=by simp[encV]
theorem yq4(b:List UInt8):encV (.bytes b)=48::(b.flatMap escB++[0,0]):=by simp[encV]
theorem yg7(l:List Val):encV (.list l)=64::(l.flatMap encV++[0]):=by simp[encV,yGc]
theorem Yhg(n:Int):depV (.int n)=0:=by simp[depV]
theorem yTu(b:List UInt8):depV (.bytes b)=0:=by simp[depV]
theorem yAu(l:List Val):depV (.list l)=yjl l+1:=by simp[depV]
def valC(v:Val):List D:=match v with
 |.int n=>vC 1 n [] []
 |.bytes b=>vC 2 0 (b.map yaf) []
 |.list l=>vC 3 0 [] (yyd l)
theorem ygw(v:Val):∃ k n B L,valC v=vC k n B L∧valD v=vD k n B L:=by
 cases v
 ·exact⟨_,_,_,_,rfl,by simp[valD]⟩
 ·exact⟨_,_,_,_,rfl,by simp[valD]⟩
 ·exact⟨_,_,_,_,rfl,by simp[valD]⟩
theorem yoo{k n k' n':Int}{B L B' L':List D}(h:vD k n B L=vD k' n' B' L'):k=k'∧n=n'∧B=B'∧L=L':=by
 simp only[vD,vC,D.agg.injEq,List.cons.injEq,D.int.injEq,D.slc.injEq,true_and,and_true]at h
 exact⟨h.1,h.2.1,h.2.2.1.2,h.2.2.2.2⟩
mutual
theorem yDt:∀ {v v':Val},valD v=valD v'→v=v'
 |.int n,.int n',h=>by rw[yjd,yjd]at h; rw[(yoo h).2.1]
 |.bytes b,.bytes b',h=>by rw[yfc,yfc]at h; rw[ykg (yoo h).2.2.1]
 |.list l,.list l',h=>by
  have:=h
  simp only[valD]at this
  rw[yG1 (yoo this).2.2.2]
 |.int n,.bytes b,h=>by rw[yjd,yfc]at h; exact absurd (yoo h).1 (by decide)
 |.int n,.list b,h=>by rw[yjd,yjx]at h; exact absurd (yoo h).1 (by decide)
 |.bytes n,.int b,h=>by rw[yjd,yfc]at h; exact absurd (yoo h).1 (by decide)
 |.bytes n,.list b,h=>by rw[yfc,yjx]at h; exact absurd (yoo h).1 (by decide)
 |.list n,.int b,h=>by rw[yjd,yjx]at h; exact absurd (yoo h).1 (by decide)
 |.list n,.bytes b,h=>by rw[yfc,yjx]at h; exact absurd (yoo h).1 (by decide)
theorem yG1:∀ {l l':List Val},yyd l=yyd l'→l=l'
 |[],[],_=>rfl
 |[],_::_,h=>by simp[yyd]at h
 |_::_,[],h=>by simp[yyd]at h
 |a::l,b::l',h=>by
  simp only[yyd,List.cons.injEq]at h
  rw[yDt h.1,yG1 h.2]
end
theorem ys4{v v':Val}:valD v=valD v'↔v=v':=⟨yDt,fun h=>by rw[h]⟩
theorem Yc4{l l':List Val}:l.map valD=l'.map valD↔l=l':=⟨ypr fun _ _=>yDt,fun h=>by rw[h]⟩
theorem yKm(k n:Int)(B L:List D):boxD (vD k n B L)=some (vC k n B L):=(rfl)
theorem yKl:boxD (.agg [.int .i64 0,.int .i64 0,.slc 0 [] true,.slc 0 [] true])=some [.int .i64 0,.int .i64 0,.slc 0 [] true,.slc 0 [] true]:=(rfl)
theorem ySv(lent:Bool)(k n:Int)(B L:List D):ldO (some ⟨false,1,vC k n B L,lent⟩) 1 false 0=some (.int .i64 k):=(rfl)
theorem Ym7(lent:Bool)(k n:Int)(B L:List D):ldO (some ⟨false,1,vC k n B L,lent⟩) 1 false 1=some (.int .i64 n):=(rfl)
theorem Ym6(lent:Bool)(k n:Int)(B L:List D):ldO (some ⟨false,1,vC k n B L,lent⟩) 1 false 2=some (.slc (nz 1 B) B false):=(rfl)
theorem Yf0(lent:Bool)(k n:Int)(B L:List D):ldO (some ⟨false,1,vC k n B L,lent⟩) 1 false 3=some (.slc (nz 4 L) L false):=(rfl)
theorem ld_v(lent:Bool)(k n:Int)(B L:List D):ldO (some ⟨false,1,vC k n B L,lent⟩) 4 true 0=some (vD k n B L):=(rfl)
theorem st_v(k n:Int)(B L:List D):stO (some ⟨false,1,[.int .i64 0,.int .i64 0,.slc 0 [] true,.slc 0 [] true],false⟩) 4 0 (vD k n B L)=some ⟨false,1,vC k n B L,false⟩:=(rfl)
theorem Ysr(st:St)(k n:Int)(B L:List D):yde st 4 true (.eptr (vD k n B L) 0)=some (vD k n B L):=(rfl)
theorem Ygi(st:St)(k n:Int)(B L:List D):imm st (vD k n B L)=some (vD k n B L):=by
 simp only[vD,vC,imm,immL,imm1,yuc]
 rfl
theorem yPe(k n:Int)(B L:List D):keys (vD k n B L)=[]:=(rfl)
theorem Yul(k n:Int)(B L:List D):(vC k n B L).flatMap hk=[]:=(rfl)
theorem ren_v(m:Nat)(k n:Int)(B L:List D):∀ x∈vC k n B L,ren m [] x=x:=by
 intro x hx
 simp only[vC,List.mem_cons,List.not_mem_nil,or_false]at hx
 rcases hx with rfl | rfl | rfl | rfl <;> rfl
theorem Yjb(m:Nat)(σ:List Nat)(k n:Int)(B L:List D):(vC k n B L).map (ren m σ)=vC k n B L:=(rfl)
theorem Yt8(st:St)(l:List Val)(t:Bool)(i:Nat)(h:i<l.length):yfx st 4 (.slc (nz 4 (l.map valD)) (l.map valD) t) (.int .i64 (i:Int))=some (.eptr (valD (l.getD i default)) 0):=by
 have:=yi5 st 4 valD l t .i64 (i:Int) (by omega) (by omega)
 simpa using this
theorem i21:((2:Int)=1)=False:=by simp
theorem i31:((3:Int)=1)=False:=by simp
theorem i32:((3:Int)=2)=False:=by simp
noncomputable def yxl(N:Nat):List D→Option D:=spOf (α:=Val) (fun v=>[valD v]) (fun v=>depV v<N∧(encV v).length≤4294967000) (fun v=>.tup [.int .i64 (depV v:Int),.bool true])
theorem yDc(N:Nat)(v:Val)(h:depV v<N∧(encV v).length≤4294967000):yxl N [valD v]=some (.tup [.int .i64 (depV v:Int),.bool true]):=
 yae (fun a b h=>by simp only[List.cons.injEq,and_true,ys4]at h; rw[h]) v h
theorem yP3:∀ b:List UInt8,b.length≤(b.flatMap escB).length
 |[]=>by simp
 |c::b=>by
  have:=yP3 b
  have h1:1≤(escB c).length:=by unfold escB; split <;> simp
  simp only[List.flatMap_cons,List.length_append,List.length_cons]
  omega
theorem Ygg(n:Int):1≤(intB n).length:=by unfold intB; split <;> simp
theorem yP2:∀ v:Val,1≤(encV v).length
 |.int n=>by rw[yGd]; exact Ygg n
 |.bytes b=>by rw[yq4]; simp
 |.list l=>by rw[yg7]; simp
theorem yAp:∀ l:List Val,l.length≤(l.flatMap encV).length
 |[]=>by simp
 |v::l=>by
  have:=yAp l
  have:=yP2 v
  simp only[List.flatMap_cons,List.length_append,List.length_cons]
  omega
theorem yP1:∀ {l:List Val} {v:Val},v∈l→(encV v).length≤(l.flatMap encV).length
 |a::l,v,h=>by
  simp only[List.flatMap_cons,List.length_append]
  rcases List.mem_cons.1 h with rfl | h
  ·omega
  ·have:=yP1 h; omega
mutual
theorem Yhf:∀ v:Val,depV v≤(encV v).length
 |.int n=>by simp[depV]
 |.bytes b=>by simp[depV]
 |.list l=>by
  have:=yAt l
  simp only[depV,encV,List.length_cons,List.length_append,List.length_nil]
  omega
theorem yAt:∀ l:List Val,yjl l≤(yM4 l).length
 |[]=>by simp[yjl]
 |v::l=>by
  have:=Yhf v
  have:=yAt l
  simp only[yjl,yM4,List.length_append]
  omega
end
def depT:List Val→Nat
 |[]=>0
 |v::l=>max (depT l) (depV v)
theorem yP6:∀ l:List Val,depT l.reverse=yjl l:=by
 have h:∀ (l m:List Val),depT (l++m)=max (depT l) (depT m):=by
  intro l m
  induction l with
  |nil=>simp[depT]
  |cons a l ih=>simp only[List.cons_append,depT,ih]; omega
 intro l
 induction l with
 |nil=>simp[depT,yjl]
 |cons a l ih=>rw[List.reverse_cons,h,ih]; simp only[depT,yjl]; omega
theorem yTt(l:List Val)(v:Val):yjl (l++[v])=max (yjl l) (depV v):=by
 rw[← yP6,← yP6 l,List.reverse_append]
 rfl
theorem yjz{α:Type}[Inhabited α](l:List α){i:Nat}(h:i<l.length):l.take (i+1)=l.take i++[l.getD i default]:=by
 rw[List.take_add_one]
 simp[h]
set_option maxHeartbeats 4000000 in
set_option maxRecDepth 20000 in
theorem Ybj:∀ N:Nat,Contract Tryz.prog GG 189 (yxl N)
 |0=>by
  intro w g ds vs d hd
  obtain⟨a,_,hp,_⟩:=yEt hd
  exact absurd hp.1 (by omega)
 |N+1=>by
  refine yac (T:=tb [(189,yxl N)] []) yBk (yao (all_cons (Ybj N) all_nil) all_nil) ?_
  rintro v ⟨hN,hl⟩
  unfold yu7
  cases v with
  |int n=>
   rw[yjd,Yhg]
   simp (disch:=first|omega|decide) only[push_cast,↓reduceIte,Nat.reduceEqDiff,↓Int.reduceNatCast',yKm,ySv,Ym6,Yf0]
  |bytes b=>
   rw[yfc,yTu]
   simp (disch:=first|omega|decide) only[push_cast,↓reduceIte,Nat.reduceEqDiff,↓Int.reduceNatCast',yKm,ySv,Ym7,Yf0,i21]
  |list l=>
   rw[yjx,yAu]
   rw[yAu]at hN
   rw[yg7]at hl
   have hll:=yAp l
   have hdl:=yAt l
   rw[yGc]at hdl
   simp only[List.length_cons,List.length_append,List.length_nil]at hl
   simp (disch:=first|omega|decide) only[push_cast,↓reduceIte,Nat.reduceEqDiff,yKm,ySv,Ym7,Ym6,Yf0,i31,i32]
   refine ybs (fun i:Nat=>[(2,.int .i64 (yjl (l.take i):Int)),(45,.slc (nz 4 (l.map valD)) (l.map valD) false),(46,.int .i64 (l.length:Int)),(47,.int .i64 (i:Int))])
    (fun _=>[⟨false,1,vC 3 0 [] (l.map valD),false⟩]) (fun i=>i≤l.length) (fun i=>l.length - i) 0 (by simp only[push_cast,↓reduceIte,Nat.reduceEqDiff,↓Int.reduceNatCast',Yul,Yjb] <;> rfl) (by omega) ?_
   intro i hi
   unfold yox
   simp (disch:=first|omega|decide) only[push_cast,↓reduceIte,Nat.reduceEqDiff]
   refine yag (fun h2=>?_) (fun h2=>?_)
   ·have hil:i<l.length:=by omega
    have hx:=Yt8 [⟨false,1,vC 3 0 [] (l.map valD),false⟩] l false i hil
    have hmem:l.getD i default∈l:=by rw[List.getD_eq_getElem?_getD,List.getElem?_eq_getElem hil]; exact List.getElem_mem hil
    have hd1:=yGg hmem
    have he1:=yP1 hmem
    have hc:=yDc N (l.getD i default) ⟨by omega,by omega⟩
    have hts:=yjz l hil
    obtain⟨x,hxe⟩:∃ x,l.getD i default=x:=⟨_,rfl⟩
    rw[hxe]at hx hc hts hd1 he1
    have hds:=yTt (l.take i) x
    rw[← hts]at hds
    obtain⟨k,n,B,L,hC,hD⟩:=ygw x
    rw[hD]at hx hc
    simp (disch:=first|omega|decide) only[push_cast,↓reduceIte,Nat.reduceEqDiff,Nat.reduceLeDiff,Nat.reduceAdd,hx,Ysr,yKl,st_v,ld_v,Ygi,yPe,hc,yax]
    refine yai (i+1) (by omega) (by omega) ?_
    rw[show((yjl (l.take (i+1)):Nat):Int)=max (yjl (l.take i):Int) (depV x:Int) by rw[hds]; omega]
    simp only[push_cast,Yul,Yjb] <;> rfl
   ·obtain rfl:i=l.length:=by omega
    have e2:l.take l.length=l:=List.take_length
    rw[e2]
    simp (disch:=first|omega|decide) only[push_cast,↓reduceIte,Nat.reduceEqDiff,yax]
theorem yaw(st:St)(o:Obj):(st++[o])[st.length]?=some o:=List.getElem?_concat_length
theorem yV1(st:St)(o o':Obj):(st++[o]).set st.length o'=st++[o']:=by simp
theorem yLw(n:Nat)(d:D):ren n [] d=low n d:=by
 have rk:∀ (f:Nat→D) (key:Nat),ygo f (renK n [] key)=if key<n then f key else .junk:=by
  intro f key; unfold renK; split <;> rfl
 have h0:∀ d,ren0 n [] d=low0 n d:=by
  intro d
  cases d <;> simp only[ren0,low0,rk]
 have h1:∀ d,ren1 n [] d=low1 n d:=by
  intro d
  cases d with
  |clo f l=>simp only[ren1,low1,D.clo.injEq,true_and]; exact List.map_congr_left fun x _=>h0 x
  |_=>simp only[ren1,low1]; exact h0 _
 cases d with
 |agg l=>simp only[ren,low,D.agg.injEq]; exact List.map_congr_left fun x _=>h1 x
 |tup l=>rfl
 |_=>simp only[ren,low]; exact h1 _
theorem Yue{n:Nat}{x:D}(h:ren n [] x=x):∀ k∈hk x,k<n:=by
 have rk:∀ (f:Nat→D) (key:Nat),(∀ k,f k≠.junk)→ygo f (renK n [] key)=f key→key<n:=by
  intro f key hf h
  unfold renK at h
  split at h
  ·assumption
  ·exact absurd h.symm (hf key)
 have h0:∀ x,ren0 n [] x=x→∀ k∈hk0 x,k<n:=by
  intro x h k hk
  cases x with
  |row key tot off len=>simp only[hk0,List.mem_singleton]at hk; subst hk; exact rk (fun k=>.row k tot off len) _ (fun k e=>by cases e) h
  |bsl key off j sz ag=>simp only[hk0,List.mem_singleton]at hk; subst hk; exact rk (fun k=>.bsl k off j sz ag) _ (fun k e=>by cases e) h
  |ptr key off=>simp only[hk0,List.mem_singleton]at hk; subst hk; exact rk (fun k=>.ptr k off) _ (fun k e=>by cases e) h
  |rptr key tot i off=>simp only[hk0,List.mem_singleton]at hk; subst hk; exact rk (fun k=>.rptr k tot i off) _ (fun k e=>by cases e) h
  |mapv key=>simp only[hk0,List.mem_singleton]at hk; subst hk; exact rk .mapv _ (fun k e=>by cases e) h
  |_=>simp[hk0]at hk
 have h1:∀ x,ren1 n [] x=x→∀ k∈hk1 x,k<n:=by
  intro x h k hk
  cases x with
  |clo f l=>
   simp only[hk1,List.mem_flatMap]at hk
   obtain⟨y,hy,hk⟩:=hk
   simp only[ren1,D.clo.injEq,true_and]at h
   exact h0 y (ye3 h y hy) k hk
  |_=>unfold ren1 at h; unfold hk1 at hk; exact h0 _ h k hk
 intro k hk
 cases x with
 |agg l=>
  simp only[PI.hk,List.mem_flatMap]at hk
  obtain⟨y,hy,hk⟩:=hk
  simp only[ren,D.agg.injEq]at h
  exact h1 y (ye3 h y hy) k hk
 |tup l=>simp[PI.hk,hk1,hk0]at hk
 |_=>unfold ren at h; unfold PI.hk at hk; exact h1 _ h k hk
theorem StOK.keys{st:St}(h:StOK st):∀ o∈st,o.row=false→∀ x∈o.els,∀ k∈hk x,k<st.length:=fun o ho hr x hx=>Yue (h o ho hr x hx)
theorem yrj{keep:List Nat}{fr:Frame}{st l:St}{n:Nat}(h:StOK st)(hn:n=st.length)(hf:∀ k∈yAa fr keep,k<n):restrict keep n ⟨fr,st++l⟩=⟨mkF (ypb fr n [] keep),st⟩:=by
 subst hn
 refine yE0 h h.keys fun s hs k hk=>hf k ?_
 rw[yF4,List.mem_flatMap]
 exact⟨s,hs,hk⟩
theorem Yjv{st l:St}{n:Nat}(h:StOK st)(hn:n=st.length):cut n (st++l)=st:=by
 subst hn
 unfold cut
 rw[show(st++l).take st.length=st by simp]
 refine yg2 fun o ho=>?_
 obtain⟨row,sz,els,lent⟩:=o
 cases row with
 |true=>rfl
 |false=>
  show(⟨false,sz,els.map (low st.length),lent⟩:Obj)=_
  rw[yg2 fun x hx=>(yLw st.length x).symm.trans (h _ ho rfl x hx)]
theorem yEa{st:St}(h:StOK st)(k n:Int)(B L:List D)(lent:Bool):StOK (st++[⟨false,1,vC k n B L,lent⟩]):=h.app _ fun o ho hr x hx=>by
 simp only[List.mem_singleton]at ho
 subst ho
 exact ren_v _ _ _ _ _ x hx
theorem yUf{st:St}{b:D}{l:List UInt8}(h:yBt st b l)(m:St):yBt (st++m) b l:=by
 rcases h with⟨rfl,rfl⟩ | ⟨key,rfl,hl,hk⟩
 ·exact .inl ⟨rfl,rfl⟩
 ·exact .inr ⟨key,rfl,hl,by rw[List.getElem?_append_left (List.getElem?_eq_some_iff.1 hk).1]; exact hk⟩
theorem yDk{st:St}{key:Nat}{sz:Nat}{els:List D}{lent:Bool}(hk:st[key]?=some ⟨true,sz,els,lent⟩){j:Nat}{o:PI.Obj}(hj:st[j]?=some o)(hr:o.row=false)(m:List UInt8):(bufW st key m)[j]?=some o:=by
 have hne:key≠j:=by
  rintro rfl
  rw[hk]at hj
  simp only[Ywe]at hj
  subst hj; cases hr
 rw[bufW,List.getElem?_set_ne hne]
 exact hj
theorem yA8{st:St}{b:D}{l m:List UInt8}(h:yBt st b l)(hm:m≠[]):∃ key st1,key<st1.length∧ygs st b l m=(.row key (l++m).length 0 (l++m).length,bufW st1 key (l++m))∧(StOK st→StOK st1)∧
  (∀ n,ygs st b l (m++n)=(.row key (l++(m++n)).length 0 (l++(m++n)).length,bufW st1 key (l++(m++n))))∧∀ (j:Nat) (o:PI.Obj),st[j]?=some o→o.row=false→∀ n,(bufW st1 key n)[j]?=some o:=by
 rcases h with⟨rfl,rfl⟩ | ⟨key,rfl,hl,hk⟩
 ·refine⟨st.length,st++[⟨true,1,[],false⟩],by simp,?_,fun h=>h.app _ fun o ho hr=>?_,fun n=>?_,fun j o hj hr n=>?_⟩
  ·simp[ygs,bufW]
  ·simp only[List.mem_singleton]at ho
   subst ho; cases hr
  ·simp[ygs,bufW]
  ·exact yDk (yaw st ⟨true,1,[],false⟩) (by rw[List.getElem?_append_left (List.getElem?_eq_some_iff.1 hj).1]; exact hj) hr n
 ·have hlt:=(List.getElem?_eq_some_iff.1 hk).1
  exact⟨key,st,hlt,rfl,id,fun n=>rfl,fun j o hj hr n=>yDk hk hj hr n⟩
def yBx(st:St)(b:D)(l:List UInt8)(v:Val):D×St:=ygs (st++[⟨false,1,valC v,false⟩]) b l (encV v)
def Yro(N:Nat)(ds:List D)(st:St)(r:D×St):Prop:=∃ (v:Val),StOK st∧depV v<N∧(encV v).length≤4294967000∧ds=[.slc 0 [] true,valD v]∧r=yBx st (.slc 0 [] true) [] v
def Yrn(N:Nat)(ds:List D)(st:St)(r:D×St):Prop:=∃ (key:Nat) (l:List UInt8) (v:Val),StOK st∧depV v<N∧l.length+(encV v).length≤4294967000∧l≠[]∧st[key]?=some ⟨true,1,l.map yaf,false⟩∧ds=[.row key l.length 0 l.length,valD v]∧r=ygs st (.row key l.length 0 l.length) l (encV v)
noncomputable def yEy(N:Nat):List D→St→Option (D×St):=relI (Yro N)
noncomputable def ytz(N:Nat):List D→St→Option (D×St):=relI (Yrn N)
theorem Ycd(N:Nat):Fun1 (Yrn N):=by
 rintro ds st r r' ⟨key,l,v,_,_,_,_,hk,rfl,rfl⟩ ⟨key',l',v',_,_,_,_,hk',h,rfl⟩
 simp only[List.cons.injEq,D.row.injEq,and_true,ys4]at h
 obtain⟨⟨rfl,_⟩,rfl⟩:=h
 rw[hk]at hk'
 simp only[Ywe,Obj.mk.injEq,true_and,and_true]at hk'
 rw[ykg hk']
theorem Yce(N:Nat):Fun1 (Yro N):=by
 rintro ds st r r' ⟨v,_,_,_,rfl,rfl⟩ ⟨v',_,_,_,h,rfl⟩
 simp only[List.cons.injEq,and_true,true_and,ys4]at h
 rw[h]
theorem yWf{G:Glob}{T:Tbl}{c:PC}{fr:Frame}{st:St}{res:List PRes}{K K':D→St→Prop}(h:@wW G T c fr st ⟨@retI res ⟨K⟩⟩)(hk:∀ d st,K d st→K' d st):@wW G T c fr st ⟨@retI res ⟨K'⟩⟩:=by
 refine Yc0 (yld _ _ _ _ _ (W_of h) fun e fr' st' h=>?_)
 have fin:@on _ (raws ⟨fr',st'⟩ res) ⟨fun l=>K (pack l) st'⟩→@on _ (raws ⟨fr',st'⟩ res) ⟨fun l=>K' (pack l) st'⟩:=by
  unfold on
  split
  ·exact hk _ _
  ·exact id
 cases e with
 |next=>rw[yHy]at h ⊢; exact fin h
 |ret=>rw[yOe]at h ⊢; exact fin h
 |exit id=>unfold retI at h; exact h.elim
 |panic t d=>unfold retI at h; exact h.elim
theorem Yvt(c:UInt8):pbin .eql (yaf c) (.int .u8 0)=some (.bool (decide (c=0))):=by
 unfold yaf
 rw[Yb9]
 congr 2
 rw[decide_eq_decide]
 refine⟨fun h=>?_,fun h=>by subst h; rfl⟩
 apply UInt8.toNat_inj.1
 have:c.toNat=0:=by omega
 rw[this]; rfl
theorem Yta:litD 1 [.int .u8 0,.int .u8 0]=some (.slc 1 [.int .u8 0,.int .u8 0] true):=(rfl)
theorem Yfs(n:Int):litD 1 [.int .u8 n]=some (.slc 1 [.int .u8 n] true):=(rfl)
theorem by48:yaf 48=.int .u8 48:=(rfl)
theorem by64:yaf 64=.int .u8 64:=(rfl)
theorem by0:yaf 0=.int .u8 0:=(rfl)
theorem by255:yaf 255=.int .u8 255:=(rfl)
/- the bytes of a string,laid behind what is there -/
theorem Ycx(T:Tbl)(st1:St)(key:Nat)(hkey:key<st1.length)(hok:StOK st1)(l0 B:List UInt8)(hl:l0.length+(B.flatMap escB).length≤4294967100)(fr:Frame)(Q:Ex→Frame→St→Prop)
  (h0:fr 0=.row key l0.length 0 l0.length) (h1:fr 23=.slc (nz 1 (B.map yaf)) (B.map yaf) false) (h6:fr 24=.int .i64 (B.length:Int)) (h31:fr 25=.int .i64 0)
  (hQ:∀ fr',fr' 0=.row key (l0++B.flatMap escB).length 0 (l0++B.flatMap escB).length→Q (.exit 1) fr' (bufW st1 key (l0++B.flatMap escB))) :
  @wW GG T (.loop [0,23,24,25] yer) fr (bufW st1 key l0) ⟨Q⟩:=by
 have hlen:=ysx st1 key
 have hR:∀ (fr:Frame) (m:List UInt8),restrict [0,23,24,25] (bufW st1 key l0).length ⟨fr,bufW st1 key m⟩=⟨mkF (ypb fr st1.length [] [0,23,24,25]),bufW st1 key m⟩:=fun fr m=>by rw[yku (yA7 hok key m) (by rw[hlen,hlen]),hlen]
 have hB:=yP3 B
 refine ybs (fun i:Nat=>[(0,.row key (l0++(B.take i).flatMap escB).length 0 (l0++(B.take i).flatMap escB).length),(23,.slc (nz 1 (B.map yaf)) (B.map yaf) false),(24,.int .i64 (B.length:Int)),(25,.int .i64 (i:Int))])
  (fun i=>bufW st1 key (l0++(B.take i).flatMap escB)) (fun i=>i≤B.length) (fun i=>B.length - i) 0 ?_ (by omega) ?_
 ·rw[hR]
  simp (disch:=omega) only[push_cast,↓Int.reduceNatCast',h0,h1,h6,h31,yr8] <;> rfl
 intro i hi
 unfold yer
 simp (disch:=first|omega|decide) only[push_cast,↓reduceIte,Nat.reduceEqDiff]
 refine yag (fun h2=>?_) (fun h2=>?_)
 ·have hil:i<B.length:=by omega
  have hx:yfx (bufW st1 key (l0++(B.take i).flatMap escB)) 1 (.slc (nz 1 (B.map yaf)) (B.map yaf) false) (.int .i64 (i:Int))=some (.eptr (yaf (B.getD i default)) 0):=by
   have:=yi5 (bufW st1 key (l0++(B.take i).flatMap escB)) 1 yaf B false .i64 (i:Int) (by omega) (by omega)
   simpa using this
  have hts:=yjz B hil
  have hple:((B.take i).flatMap escB).length+(escB (B.getD i default)).length≤(B.flatMap escB).length:=by
   have e:B=B.take (i+1)++B.drop (i+1):=(List.take_append_drop _ _).symm
   have:=congrArg (fun l=>(l.flatMap escB).length) e
   simp only[List.flatMap_append,List.length_append,hts,List.flatMap_cons,List.flatMap_nil,List.append_nil]at this
   omega
  generalize hxe:B.getD i default=c at*
  have hesc1:1≤(escB c).length:=by unfold escB; split <;> simp
  have happ:=fun x=>yu0 (st:=st1) hkey (l0++(B.take i).flatMap escB) x (by rw[List.length_append]; omega) true
  have hnx:l0++(B.take (i+1)).flatMap escB=l0++(B.take i).flatMap escB++escB c:=by
   rw[hts]; simp
  by_cases hc:c=0
  ·subst hc
   have hb0:pbin .eql (yaf 0) (.int .u8 0)=some (.bool true):=(rfl)
   have h3:=yu0 (st:=st1) hkey (l0++(B.take i).flatMap escB++[0]) 255 (by
    have:(escB 0).length=2:=by simp[escB]
    simp only[List.length_append,List.length_cons,List.length_nil]; omega) true
   rw[by255]at h3
   simp (disch:=first|omega|decide) only[push_cast,↓reduceIte,Nat.reduceEqDiff,hx,yr9,yY7,yI2,yIu,Yfs,happ,hb0,h3,yax,↓hR,hkey]
   refine yai (i+1) (by omega) (by omega) ?_
   rw[hnx,show l0++(B.take i).flatMap escB++escB 0=l0++(B.take i).flatMap escB++[0]++[255] by simp[escB]]
   first | rfl | (simp only[push_cast,↓yal,↓reduceIte,Nat.reduceEqDiff,Nat.reduceLT,Nat.reduceLeDiff,Nat.reduceAdd,Nat.reduceSub,Nat.reduceMul,Nat.reduceBEq,Int.reduceLT,Int.reduceLE,Int.reduceToNat,Int.reduceNeg,Int.reducePow,Int.reduceAdd,Int.reduceMul,Int.reduceSub,↓Int.reduceNatCast'] <;> rfl)
  ·simp (disch:=first|omega|decide) only[push_cast,↓reduceIte,Nat.reduceEqDiff,hx,yr9,yY7,yI2,yIu,happ,Yvt,hc,decide_false,yax,↓hR,hkey]
   refine yai (i+1) (by omega) (by omega) ?_
   rw[hnx,show l0++(B.take i).flatMap escB++escB c=l0++(B.take i).flatMap escB++[c] by simp[escB,hc]]
   first | rfl | (simp only[push_cast,↓yal,↓reduceIte,Nat.reduceEqDiff,Nat.reduceLT,Nat.reduceLeDiff,Nat.reduceAdd,Nat.reduceSub,Nat.reduceMul,Nat.reduceBEq,Int.reduceLT,Int.reduceLE,Int.reduceToNat,Int.reduceNeg,Int.reducePow,Int.reduceAdd,Int.reduceMul,Int.reduceSub,↓Int.reduceNatCast'] <;> rfl)
 ·obtain rfl:i=B.length:=by omega
  rw[List.take_length]
  simp (disch:=first|omega|decide) only[push_cast]
  exact hQ _ rfl
theorem yUb{st:St}{key:Nat}{l:List UInt8}{v:Val}{N:Nat}(h1:StOK st)(h2:depV v<N)(h3:l.length+(encV v).length≤4294967000)(h4:l≠[])(h5:st[key]?=some ⟨true,1,l.map yaf,false⟩) :
  ytz N [.row key l.length 0 l.length,valD v] st=some (.row key (l++encV v).length 0 (l++encV v).length,st.set key ⟨true,1,(l++encV v).map yaf,false⟩):=yhx (Ycd N) ⟨key,l,v,h1,h2,h3,h4,h5,rfl,rfl⟩
theorem yZy{α:Type}[Inhabited α](f:α→List UInt8)(L:List α){i:Nat}(h:i<L.length):((L.take i).flatMap f).length+(f (L.getD i default)).length≤(L.flatMap f).length:=by
 have e:L=L.take (i+1)++L.drop (i+1):=(List.take_append_drop _ _).symm
 have:=congrArg (fun l=>(l.flatMap f).length) e
 simp only[List.flatMap_append,List.length_append,yjz L h,List.flatMap_cons,List.flatMap_nil,List.append_nil]at this
 omega
/- the values of a list,laid behind what is there -/
theorem Ycw(N:Nat)(st1:St)(key:Nat)(hkey:key<st1.length)(hok:StOK st1)(l0:List UInt8)(hl0:l0≠[])(L:List Val)(hd:yjl L<N)(hl:l0.length+(L.flatMap encV).length≤4294967000)(fr:Frame)(Q:Ex→Frame→St→Prop)
  (h0:fr 0=.row key l0.length 0 l0.length) (h1:fr 46=.slc (nz 4 (L.map valD)) (L.map valD) false) (h6:fr 47=.int .i64 (L.length:Int)) (h31:fr 48=.int .i64 0)
  (hQ:∀ fr',fr' 0=.row key (l0++L.flatMap encV).length 0 (l0++L.flatMap encV).length→Q (.exit 3) fr' (bufW st1 key (l0++L.flatMap encV))) :
  @wW GG (tb [] [(202,yy4),(190,ytz N)]) (.loop [0,46,47,48] yeq) fr (bufW st1 key l0) ⟨Q⟩:=by
 have hlen:=ysx st1 key
 have hB:=yAp L
 have hR:∀ (fr:Frame) (m:List UInt8),restrict [0,46,47,48] (bufW st1 key l0).length ⟨fr,bufW st1 key m⟩=⟨mkF (ypb fr st1.length [] [0,46,47,48]),bufW st1 key m⟩:=fun fr m=>by rw[yku (yA7 hok key m) (by rw[hlen,hlen]),hlen]
 refine ybs (fun i:Nat=>[(0,.row key (l0++(L.take i).flatMap encV).length 0 (l0++(L.take i).flatMap encV).length),(46,.slc (nz 4 (L.map valD)) (L.map valD) false),(47,.int .i64 (L.length:Int)),(48,.int .i64 (i:Int))])
  (fun i=>bufW st1 key (l0++(L.take i).flatMap encV)) (fun i=>i≤L.length) (fun i=>L.length - i) 0 ?_ (by omega) ?_
 ·rw[hR]
  simp (disch:=omega) only[push_cast,↓Int.reduceNatCast',h0,h1,h6,h31,yr8] <;> rfl
 intro i hi
 unfold yeq
 simp (disch:=first|omega|decide) only[push_cast,↓reduceIte,Nat.reduceEqDiff]
 refine yag (fun h2=>?_) (fun h2=>?_)
 ·have hil:i<L.length:=by omega
  have hx:=Yt8 (bufW st1 key (l0++(L.take i).flatMap encV)) L false i hil
  have hmem:L.getD i default∈L:=by rw[List.getD_eq_getElem?_getD,List.getElem?_eq_getElem hil]; exact List.getElem_mem hil
  have hd1:=yGg hmem
  have hft:=yZy encV L hil
  have hts:=yjz L hil
  obtain⟨x,hxe⟩:∃ x,L.getD i default=x:=⟨_,rfl⟩
  rw[hxe]at hx hts hd1 hft
  have hnx:l0++(L.take (i+1)).flatMap encV=l0++(L.take i).flatMap encV++encV x:=by
   rw[hts]; simp
  obtain⟨k,n,B,M,hC,hD⟩:=ygw x
  have hbox:=yEa (yA7 hok key (l0++(L.take i).flatMap encV)) k n B M false
  have hc:=yUb (N:=N) (v:=x) (l:=l0++(L.take i).flatMap encV) (key:=key) hbox (by omega) (by rw[List.length_append]; omega) (by simp[hl0]) (by
   rw[List.getElem?_append_left (by rw[hlen]; exact hkey)]; exact yGp hkey _)
  rw[List.set_append_left _ _ (by rw[hlen]; exact hkey),show(bufW st1 key (l0++(L.take i).flatMap encV)).set key ⟨true,1,(l0++(L.take i).flatMap encV++encV x).map yaf,false⟩=bufW st1 key (l0++(L.take i).flatMap encV++encV x)from Ybx st1 key _ _,hD]at hc
  rw[hD]at hx
  have hR':∀ (fr:Frame) (m:List UInt8) (o:PI.Obj),(yAa fr [0,46,47,48]).all (fun k=>decide (k<st1.length))=true→restrict [0,46,47,48] (bufW st1 key l0).length ⟨fr,bufW st1 key m++[o]⟩=⟨mkF (ypb fr st1.length [] [0,46,47,48]),bufW st1 key m⟩:=fun fr m o h=>by
   rw[yrj (yA7 hok key m) (by rw[hlen,hlen]) (fun k hk=>by rw[hlen]; exact of_decide_eq_true (List.all_eq_true.1 h k hk)),hlen]
  simp (disch:=first | omega | decide | (simp only[push_cast,↓yal,↓reduceIte,Nat.reduceEqDiff,Nat.reduceLT,Nat.reduceLeDiff,Nat.reduceAdd,Nat.reduceSub,Nat.reduceMul,Nat.reduceBEq,Int.reduceLT,Int.reduceLE,Int.reduceToNat,Int.reduceNeg,Int.reducePow,Int.reduceAdd,Int.reduceMul,Int.reduceSub,↓Int.reduceNatCast',hkey]; done)) only[push_cast,↓reduceIte,Nat.reduceEqDiff,↓hR',hx,Ysr,yKl,yaw,yV1,st_v,ld_v,hc,yax,hkey]
  refine yai (i+1) (by omega) (by omega) ?_
  rw[hnx]
  first | rfl | (simp only[push_cast,↓yal,↓reduceIte,Nat.reduceEqDiff,Nat.reduceLT,Nat.reduceLeDiff,Nat.reduceAdd,Nat.reduceSub,Nat.reduceMul,Nat.reduceBEq,Int.reduceLT,Int.reduceLE,Int.reduceToNat,Int.reduceNeg,Int.reducePow,Int.reduceAdd,Int.reduceMul,Int.reduceSub,↓Int.reduceNatCast'] <;> rfl)
 ·obtain rfl:i=L.length:=by omega
  rw[List.take_length]
  simp (disch:=first|omega|decide) only[push_cast]
  exact hQ _ rfl
/- the whole -/
theorem Yi1(N:Nat)(st:St)(b:D)(l:List UInt8)(v:Val)(hok:StOK st)(hb:yBt st b l)(hN:depV v<N+1)(hl:l.length+(encV v).length≤4294967000) :
  @wW GG (tb [] [(202,yy4),(190,ytz N)]) yeb.code (argF [b,valD v]) st ⟨@retI yeb.res ⟨fun d st'=>(d,st')=yBx st b l v⟩⟩:=by
 unfold yeb yBx
 obtain⟨k,n,B,M,hC,hD⟩:=ygw v
 have hok2:=yEa hok k n B M false
 have hb2:=yUf hb [⟨false,1,vC k n B M,false⟩]
 have hbx:=yaw st ⟨false,1,vC k n B M,false⟩
 cases v with
 |int m=>
  obtain⟨rfl,rfl,rfl,rfl⟩:=yoo ((yjd m).symm.trans hD)
  have hc:=Ybf m hok2 hb2 (by omega)
  rw[hD,hC,yGd]
  generalize ygs (st++[⟨false,1,vC 1 m [] [],false⟩]) b l (intB m)=r at*
  obtain⟨r1,r2⟩:=r
  simp (disch:=first|omega|decide) only[push_cast,↓reduceIte,Nat.reduceEqDiff,yKm,ySv,Ym7,yaw,hc]
 |bytes m=>
  obtain⟨rfl,rfl,rfl,rfl⟩:=yoo ((yfc m).symm.trans hD)
  rw[yq4]at hl
  simp only[List.length_cons,List.length_append,List.length_nil]at hl
  rw[hD,hC,yq4]
  obtain⟨key,st1,hkey,hput,hok1,hmore,hoth⟩:=yA8 hb2 (m:=[48]) (by simp)
  have happ:=yua hb2 (m:=[48]) (by simp) (by simp; omega) true
  rw[hput]at happ
  simp only[List.map_cons,List.map_nil,by48]at happ
  have hm:=hmore (m.flatMap escB++[0,0])
  rw[show(48::(m.flatMap escB++[0,0]):List UInt8)=[48]++(m.flatMap escB++[0,0])from rfl,hm]
  have hld:=hoth _ _ hbx rfl (l++[48])
  simp (disch:=first|omega|decide) only[push_cast,↓reduceIte,Nat.reduceEqDiff,yKm,ySv,Ym6,yaw,i21,Yfs,happ,hld]
  refine Ycx _ st1 key hkey (hok1 hok2) (l++[48]) m (by simp only[List.length_append,List.length_cons,List.length_nil]; omega) _ _ (by simp only[push_cast,↓reduceIte,Nat.reduceEqDiff]) (by simp only[push_cast,↓reduceIte,Nat.reduceEqDiff]) (by simp only[push_cast,↓reduceIte,Nat.reduceEqDiff]) (by simp only[push_cast,↓reduceIte]) fun fr' hf=>?_
  have happ2:=yQk (st:=st1) hkey (l++[48]++m.flatMap escB) [0,0] (by simp) (by simp only[List.length_append,List.length_cons,List.length_nil]; omega) true
  simp only[List.map_cons,List.map_nil,by0]at happ2
  simp (disch:=first|omega|decide) only[push_cast,↓reduceIte,Nat.reduceEqDiff,hf,Yta,happ2]
  simp only[List.append_assoc,List.cons_append,List.nil_append]
 |list m=>
  obtain⟨rfl,rfl,rfl,rfl⟩:=yoo ((yjx m).symm.trans hD)
  rw[yg7]at hl
  rw[yAu]at hN
  simp only[List.length_cons,List.length_append,List.length_nil]at hl
  rw[hD,hC,yg7]
  obtain⟨key,st1,hkey,hput,hok1,hmore,hoth⟩:=yA8 hb2 (m:=[64]) (by simp)
  have happ:=yua hb2 (m:=[64]) (by simp) (by simp; omega) true
  rw[hput]at happ
  simp only[List.map_cons,List.map_nil,by64]at happ
  have hm:=hmore (m.flatMap encV++[0])
  rw[show(64::(m.flatMap encV++[0]):List UInt8)=[64]++(m.flatMap encV++[0])from rfl,hm]
  have hld:=hoth _ _ hbx rfl (l++[64])
  simp (disch:=first|omega|decide) only[push_cast,↓reduceIte,Nat.reduceEqDiff,yKm,ySv,Yf0,yaw,i31,i32,Yfs,happ,hld]
  refine Ycw N st1 key hkey (hok1 hok2) (l++[64]) (by simp) m (by omega) (by simp only[List.length_append,List.length_cons,List.length_nil]; omega) _ _ (by simp only[push_cast,↓reduceIte,Nat.reduceEqDiff]) (by simp only[push_cast,↓reduceIte,Nat.reduceEqDiff]) (by simp only[push_cast,↓reduceIte,Nat.reduceEqDiff]) (by simp only[push_cast,↓reduceIte]) fun fr' hf=>?_
  have happ2:=yu0 (st:=st1) hkey (l++[64]++m.flatMap encV) 0 (by simp only[List.length_append,List.length_cons,List.length_nil]; omega) true
  simp only[by0]at happ2
  simp (disch:=first|omega|decide) only[push_cast,↓reduceIte,Nat.reduceEqDiff,hf,Yfs,happ2]
  simp only[List.append_assoc,List.cons_append,List.nil_append]
theorem Yao:∀ N:Nat,IContract Tryz.prog GG 190 (yEy N)∧IContract Tryz.prog GG 190 (ytz N)
 |0=>by
  have hT:TblOK Tryz.prog GG (tb [] []):=yao all_nil all_nil
  refine⟨yaj ydx hT fun ds st r hr=>?_,yaj ydx hT fun ds st r hr=>?_⟩
  ·obtain⟨v,_,h,_⟩:=yca hr
   omega
  ·obtain⟨key,l,v,_,h,_⟩:=yca hr
   omega
 |N+1=>by
  have hT:TblOK Tryz.prog GG (tb [] [(202,yy4),(190,ytz N)]):=yao all_nil (all_cons Ypg (all_cons (Yao N).2 all_nil))
  refine⟨yaj ydx hT fun ds st r hr=>?_,yk6 ydx hT fun ds st r hr=>?_⟩
  ·obtain⟨v,hok,hd,hl,rfl,rfl⟩:=yca hr
   exact Yi1 N st _ [] v hok (.inl ⟨rfl,rfl⟩) hd (by simpa using hl)
  ·obtain⟨key,l,v,hok,hd,hl,hl0,hk,rfl,rfl⟩:=yca hr
   have hlt:=(List.getElem?_eq_some_iff.1 hk).1
   refine yWf (Yi1 N st _ l v hok (.inr ⟨key,rfl,hl0,hk⟩) hd hl) fun d st' h=>?_
   simp only[yBx,ygs,Ywg]at h ⊢
   obtain⟨rfl,rfl⟩:=h
   refine⟨?_,?_⟩
   ·show lowR st.length (.row key _ 0 _)=_
    simp only[lowR,low,low1,low0,hlt,if_true]
   ·rw[List.set_append_left _ _ hlt]
    exact Yjv (hok.set _ _ fun e=>by cases e) (by rw[List.length_set])
theorem yUc{v:Val}{N:Nat}{st:St}(h1:StOK st)(h2:depV v<N)(h3:(encV v).length≤4294967000):yEy N [.slc 0 [] true,valD v] st=some (yBx st (.slc 0 [] true) [] v):=yhx (Yce N) ⟨v,h1,h2,h3,rfl,rfl⟩
def bsO(b:List UInt8):D:=.slc (nz 1 (b.map yaf)) (b.map yaf) false
def encF(v:Val):List UInt8:=if(encV v).length≤65536 then encV v else []
def encE(v:Val):Int:=if(encV v).length≤65536 then 0 else 2
noncomputable def yy2:List D→Option D:=spOf (α:=Val) (fun v=>[valD v]) (fun v=>depV v≤16∧(encV v).length≤4294967000) (fun v=>.tup [bsO (encF v),.int .i64 (encE v)])
theorem yNe(v:Val)(h:depV v≤16∧(encV v).length≤4294967000):yy2 [valD v]=some (.tup [bsO (encF v),.int .i64 (encE v)]):=
 yae (fun a b h=>by simp only[List.cons.injEq,and_true,ys4]at h; rw[h]) v h
theorem Yh9:Contract Tryz.prog GG 167 yy2:=by
 refine yac (T:=tb [(189,yxl 17)] [(190,yEy 17)]) yym (yao (all_cons (Ybj 17) all_nil) (all_cons (Yao 17).1 all_nil)) ?_
 rintro v ⟨hd,hl⟩
 unfold yrq encF encE
 obtain⟨k,n,B,M,hC,hD⟩:=ygw v
 have h1:=yDc 17 v ⟨by omega,hl⟩
 have h2:=yUc (N:=17) (st:=[⟨false,1,vC k n B M,false⟩]) (v:=v) (by have:=yEa StOK.nil k n B M false; simpa using this) (by omega) hl
 have hne:encV v≠[]:=by
  intro e; have:=yP2 v; rw[e]at this; simp at this
 have hz:nz 1 ((encV v).map yaf)=1:=by
  cases he:encV v with
  |nil=>exact absurd he hne
  |cons a r=>rfl
 simp only[yBx,ygs,List.cons_append,List.nil_append,List.length_cons,List.length_nil]at h2
 rw[hD]at h1 h2
 rw[hD]
 simp (disch:=first|omega|decide) only[push_cast,↓reduceIte,Nat.reduceEqDiff,yKm,ld_v,Ygi,yPe,h1]
 have h16:¬ ((16:Int)<(depV v:Int)):=by omega
 simp (disch:=first|omega|decide) only[push_cast,↓reduceIte,Nat.reduceEqDiff,Nat.reduceAdd,h16,decide_false,ld_v,h2]
 by_cases h3:(encV v).length≤65536
 ·rw[if_pos h3,if_pos h3]
  have h4:¬ ((65536:Int)<((encV v).length:Int)):=by omega
  simp (disch:=first|omega|decide) only[push_cast,↓reduceIte,Nat.reduceEqDiff,h4,decide_false,bsO]
 ·rw[if_neg h3,if_neg h3]
  have h4:((65536:Int)<((encV v).length:Int)):=by omega
  simp (disch:=first|omega|decide) only[push_cast,↓reduceIte,Nat.reduceEqDiff,h4,decide_true,bsO]
def padL:Dig:=yvj [112,97,100] []
def ydk(a b:Dig):Dig:=yvj [110,111,100,101] (a.bs++b.bs)
def atL(l:List Dig)(k:Int)(pad:Dig):Dig:=if k<(l.length:Int)then l.getD k.toNat default else pad
def upL(pad:Dig):List Dig→List Dig
 |[]=>[]
 |[a]=>[ydk a pad]
 |a::b::r=>ydk a b::upL pad r
def padN:Nat→Dig
 |0=>padL
 |n+1=>ydk (padN n) (padN n)
def rowN(l:List Dig):Nat→List Dig
 |0=>l
 |n+1=>upL (padN n) (rowN l n)
def Ysx(l:List Dig)(level:Nat)(k:Int):Dig:=atL (rowN l level) k (padN level)
def ycy(n:Nat):Nat:=if n=0 then 0 else n.log2+1
def yan(n:Int):Int:=if n<0∨65536<n then -1 else(ycy ((max n 1).toNat - 1):Nat)
theorem yqf{n k:Nat}(h:n<2 ^ k):ycy n≤k:=by
 unfold ycy
 split
 ·omega
 ·rename_i h0
  have:n.log2<k:=(Nat.log2_lt h0).2 h
  omega
theorem yNn{n:Nat}:n<2 ^ ycy n:=by
 unfold ycy
 split
 ·rename_i h; subst h; decide
 ·rename_i h0
  exact(Nat.log2_lt h0).1 (Nat.lt_succ_self _)
theorem yKn{n k:Nat}(h:2 ^ k≤n):k+1≤ycy n:=by
 have h0:n≠0:=by
  have:=Nat.two_pow_pos k
  omega
 have:=(Nat.le_log2 h0).2 h
 unfold ycy
 rw[if_neg h0]
 omega
theorem yh5(n k:Nat)(h:2 ^ k≤n):ycy n=k+ycy (n / 2 ^ k):=by
 have h1:=yNn (n:=n / 2 ^ k)
 have h2:ycy n≤k+ycy (n / 2 ^ k):=by
  apply yqf
  rw[Nat.pow_add]
  exact(Nat.div_lt_iff_lt_mul (Nat.two_pow_pos k)).1 h1 |> fun x=>by rwa [Nat.mul_comm]
 have h3:1≤n / 2 ^ k:=(Nat.one_le_div_iff (Nat.two_pow_pos k)).2 h
 have h4:k+ycy (n / 2 ^ k)≤ycy n:=by
  obtain⟨j,hj⟩:∃ j,ycy (n / 2 ^ k)=j+1:=by
   have:=yKn (n:=n / 2 ^ k) (k:=0) (by omega)
   exact⟨ycy (n / 2 ^ k) - 1,by omega⟩
  have h5:2 ^ j≤n / 2 ^ k:=by
   rcases Nat.lt_or_ge (n / 2 ^ k) (2 ^ j)with h6 | h6
   ·have:=yqf h6
    omega
   ·exact h6
  have h6:2 ^ (k+j)≤n:=by
   rw[Nat.pow_add]
   calc 2 ^ k*2 ^ j≤2 ^ k*(n / 2 ^ k):=Nat.mul_le_mul_left _ h5
    _≤n:=Nat.mul_div_le n (2 ^ k)
  have:=yKn h6
  omega
 omega
def yuu(i:Nat)(x:Dig):List Dig→Dig
 |[]=>x
 |q::r=>yuu (i / 2) (if i % 2=0 then ydk x q else ydk q x) r
def yaz(c:Int×Dig)(i:Int)(leaf:Dig)(p:List Dig):Bool:=
 decide (0≤yan c.1∧0≤i∧i<2 ^ (yan c.1).toNat∧(p.length:Int)=yan c.1∧yuu i.toNat leaf p=c.2)
theorem yut{n:Int}(h0:0≤n)(h1:n≤65536):yan n=(ycy ((max n 1).toNat - 1):Nat)∧0≤yan n∧yan n≤16:=by
 have e:yan n=(ycy ((max n 1).toNat - 1):Nat):=by unfold yan; rw[if_neg (by omega)]
 have:ycy ((max n 1).toNat - 1)≤16:=yqf (by omega)
 refine⟨e,?_,?_⟩ <;> rw[e] <;> omega
theorem ymv{n:Int}(h:n<0∨65536<n):yan n=-1:=by unfold yan; rw[if_pos h]
theorem yFb{a b:Nat}(h:a≤b):(2:Int) ^ a≤2 ^ b:=by
 have h6:(2:Nat) ^ a≤2 ^ b:=Nat.pow_le_pow_right (by decide) h
 have h7:∀ k:Nat,(2:Int) ^ k=((2 ^ k:Nat):Int):=by simp
 rw[h7,h7]; omega
theorem Yeq(a:Nat):(1:Int)≤2 ^ a:=yFb (a:=0) (by omega)
theorem Ym3:([0,1,2,2,3,3,3,3,4,4,4,4,4,4,4,4,5,5,5,5,5,5,5,5,5,5,5,5,5,5,5,5,6,6,6,6,6,6,6,6,6,6,6,6,6,6,6,6,6,6,6,6,6,6,6,6,6,6,6,6,6,6,6,6,7,7,7,7,7,7,7,7,7,7,7,7,7,7,7,7,7,7,7,7,7,7,7,7,7,7,7,7,7,7,7,7,7,7,7,7,7,7,7,7,7,7,7,7,7,7,7,7,7,7,7,7,7,7,7,7,7,7,7,7,7,7,7,7,8,8,8,8,8,8,8,8,8,8,8,8,8,8,8,8,8,8,8,8,8,8,8,8,8,8,8,8,8,8,8,8,8,8,8,8,8,8,8,8,8,8,8,8,8,8,8,8,8,8,8,8,8,8,8,8,8,8,8,8,8,8,8,8,8,8,8,8,8,8,8,8,8,8,8,8,8,8,8,8,8,8,8,8,8,8,8,8,8,8,8,8,8,8,8,8,8,8,8,8,8,8,8,8,8,8,8,8,8,8,8,8,8,8,8,8,8,8,8,8,8,8,8,8,8,8,8,8]:List UInt8)=(List.range 256).map (fun j=>UInt8.ofNat (ycy j)):=by kernel_rfl
theorem yky(j:Nat)(h:j<256):((((List.range 256).map (fun j=>UInt8.ofNat (ycy j))).getD j default).toNat:Int)=ycy j:=by
 have h1:ycy j≤8:=yqf (k:=8) (by omega)
 simp[List.getD_eq_getElem?_getD,h]
 omega
theorem yMq:((List.range 256).map (fun j=>UInt8.ofNat (ycy j))).length=256:=by simp
theorem ykz(b:UInt8):pidx (.str ((List.range 256).map (fun j=>UInt8.ofNat (ycy j)))) (yaf b)=some (yaf (((List.range 256).map (fun j=>UInt8.ofNat (ycy j))).getD b.toNat default)):=Ygp _ b (by rw[yMq]; exact b.toNat_lt)
theorem ykx(m:Nat)(h:m<256):(UInt8.ofNat m).toNat=m:=by simp; omega
noncomputable def yy1:List D→Option D:=spOf (α:=Int) (fun a=>[.int .u64 a]) (fun a=>0≤a∧a<18446744073709551616) (fun a=>.int .i64 (ycy a.toNat:Int))
theorem yNc(x:Int)(h:0≤x∧x<18446744073709551616):yy1 [.int .u64 x]=some (.int .i64 (ycy x.toNat:Int)):=
 yae (fun a b h=>by simp only[List.cons.injEq,D.int.injEq,true_and,and_true]at h; simp[h]) (x) h
theorem Ycu(x:Int)(h:0≤x∧x<18446744073709551616):@wW GG (tb [] []) yfp.code (argF [.int .u64 x]) [] ⟨retQ yfp.res (.int .i64 (ycy x.toNat:Int))⟩:=by
 obtain⟨h0,h1⟩:=h
 obtain⟨n,rfl⟩:=Int.eq_ofNat_of_zero_le h0
 rw[Int.toNat_natCast]
 have d1:=yh5 n 32
 have d2:=yh5 n 16
 have d3:=yh5 n 8
 have d4:=yh5 (n / 2 ^ 32) 16
 have d5:=yh5 (n / 2 ^ 32) 8
 have d6:=yh5 (n / 2 ^ 32 / 2 ^ 16) 8
 have d7:=yh5 (n / 2 ^ 16) 8
 have b8:∀ y,y<256→ycy y≤8:=fun y hy=>yqf (k:=8) (by omega)
 unfold yfp
 rw[Ym3]
 simp only[push_cast,↓reduceIte,Nat.reduceEqDiff]
 refine yag (fun h2=>?_) (fun h2=>?_)
 ·simp (disch:=omega) only[push_cast,↓reduceIte,Nat.reduceEqDiff,Int.reduceToNat,Int.reducePow,yBo]
  ·refine yag (fun h3=>?_) (fun h3=>?_)
   ·simp (disch:=omega) only[push_cast,↓reduceIte,Nat.reduceEqDiff,Int.reduceToNat,Int.reducePow,Int.reduceAdd,yBo,yax]
    ·refine yag (fun h4=>?_) (fun h4=>?_)
     ·simp (disch:=omega) only[push_cast,↓reduceIte,Nat.reduceEqDiff,Int.reduceToNat,Int.reducePow,Int.reduceAdd,yBo,yax]
      ·have ey:((n:Int) / 4294967296 / 65536 / 256).toNat=n / 2 ^ 32 / 2 ^ 16 / 2 ^ 8:=by omega
       have hb:=b8 (n / 2 ^ 32 / 2 ^ 16 / 2 ^ 8) (by omega)
       have ed1:=d1 (by omega)
       have ed4:=d4 (by omega)
       have ed6:=d6 (by omega)
       simp (disch:=omega) only[push_cast,↓reduceIte,Nat.reduceEqDiff,yi6,ykz,yp5,yky,ykx,ey,yax]
       refine congrArg (fun z=>some (D.int .i64 z)) ?_
       omega
     ·simp (disch:=omega) only[push_cast,↓reduceIte,Nat.reduceEqDiff]
      ·have ey:((n:Int) / 4294967296 / 65536).toNat=n / 2 ^ 32 / 2 ^ 16:=by omega
       have hb:=b8 (n / 2 ^ 32 / 2 ^ 16) (by omega)
       have ed1:=d1 (by omega)
       have ed4:=d4 (by omega)
       simp (disch:=omega) only[push_cast,↓reduceIte,Nat.reduceEqDiff,yi6,ykz,yp5,yky,ykx,ey,yax]
       refine congrArg (fun z=>some (D.int .i64 z)) ?_
       omega
   ·simp (disch:=omega) only[push_cast,↓reduceIte,Nat.reduceEqDiff]
    ·refine yag (fun h4=>?_) (fun h4=>?_)
     ·simp (disch:=omega) only[push_cast,↓reduceIte,Nat.reduceEqDiff,Int.reduceToNat,Int.reducePow,Int.reduceAdd,yBo,yax]
      ·have ey:((n:Int) / 4294967296 / 256).toNat=n / 2 ^ 32 / 2 ^ 8:=by omega
       have hb:=b8 (n / 2 ^ 32 / 2 ^ 8) (by omega)
       have ed1:=d1 (by omega)
       have ed5:=d5 (by omega)
       simp (disch:=omega) only[push_cast,↓reduceIte,Nat.reduceEqDiff,yi6,ykz,yp5,yky,ykx,ey,yax]
       refine congrArg (fun z=>some (D.int .i64 z)) ?_
       omega
     ·simp (disch:=omega) only[push_cast,↓reduceIte,Nat.reduceEqDiff]
      ·have ey:((n:Int) / 4294967296).toNat=n / 2 ^ 32:=by omega
       have hb:=b8 (n / 2 ^ 32) (by omega)
       have ed1:=d1 (by omega)
       simp (disch:=omega) only[push_cast,↓reduceIte,Nat.reduceEqDiff,yi6,ykz,yp5,yky,ykx,ey,yax]
       refine congrArg (fun z=>some (D.int .i64 z)) ?_
       omega
 ·simp (disch:=omega) only[push_cast,↓reduceIte,Nat.reduceEqDiff]
  ·refine yag (fun h3=>?_) (fun h3=>?_)
   ·simp (disch:=omega) only[push_cast,↓reduceIte,Nat.reduceEqDiff,Int.reduceToNat,Int.reducePow,Int.reduceAdd,yBo,yax]
    ·refine yag (fun h4=>?_) (fun h4=>?_)
     ·simp (disch:=omega) only[push_cast,↓reduceIte,Nat.reduceEqDiff,Int.reduceToNat,Int.reducePow,Int.reduceAdd,yBo,yax]
      ·have ey:((n:Int) / 65536 / 256).toNat=n / 2 ^ 16 / 2 ^ 8:=by omega
       have hb:=b8 (n / 2 ^ 16 / 2 ^ 8) (by omega)
       have ed2:=d2 (by omega)
       have ed7:=d7 (by omega)
       simp (disch:=omega) only[push_cast,↓reduceIte,Nat.reduceEqDiff,yi6,ykz,yp5,yky,ykx,ey,yax]
       refine congrArg (fun z=>some (D.int .i64 z)) ?_
       omega
     ·simp (disch:=omega) only[push_cast,↓reduceIte,Nat.reduceEqDiff]
      ·have ey:((n:Int) / 65536).toNat=n / 2 ^ 16:=by omega
       have hb:=b8 (n / 2 ^ 16) (by omega)
       have ed2:=d2 (by omega)
       simp (disch:=omega) only[push_cast,↓reduceIte,Nat.reduceEqDiff,yi6,ykz,yp5,yky,ykx,ey,yax]
       refine congrArg (fun z=>some (D.int .i64 z)) ?_
       omega
   ·simp (disch:=omega) only[push_cast,↓reduceIte,Nat.reduceEqDiff]
    ·refine yag (fun h4=>?_) (fun h4=>?_)
     ·simp (disch:=omega) only[push_cast,↓reduceIte,Nat.reduceEqDiff,Int.reduceToNat,Int.reducePow,Int.reduceAdd,yBo,yax]
      ·have ey:((n:Int) / 256).toNat=n / 2 ^ 8:=by omega
       have hb:=b8 (n / 2 ^ 8) (by omega)
       have ed3:=d3 (by omega)
       simp (disch:=omega) only[push_cast,↓reduceIte,Nat.reduceEqDiff,yi6,ykz,yp5,yky,ykx,ey,yax]
       refine congrArg (fun z=>some (D.int .i64 z)) ?_
       omega
     ·simp (disch:=omega) only[push_cast,↓reduceIte,Nat.reduceEqDiff]
      ·have ey:((n:Int)).toNat=n:=by omega
       have hb:=b8 (n) (by omega)
       simp (disch:=omega) only[push_cast,↓reduceIte,Nat.reduceEqDiff,yi6,ykz,yp5,yky,ykx,ey,yax]
       refine congrArg (fun z=>some (D.int .i64 z)) ?_
       omega
theorem Yh7:Contract Tryz.prog GG 129 yy1:=
 yac ytc (yao all_nil all_nil) (fun a h=>Ycu a h)
noncomputable def yvn:List D→Option D:=spOf (α:=Unit) (fun _=>[]) (fun _=>True) (fun _=>digD padL)
theorem yqb:yvn []=some (digD padL):=
 yae (fun _ _ _=>rfl) () trivial
theorem Yrc:@wW GG (tb [(62,ymc)] []) yln.code (argF []) [] ⟨retQ yln.res (digD padL)⟩:=by
 unfold yln
 have c:ymc [.str [112,97,100],.slc 0 [] false]=some (digD padL):=ysq [112,97,100] [] (by decide)
 simp (disch:=omega) only[push_cast,↓reduceIte,Nat.reduceEqDiff,c]
theorem yQi:Contract Tryz.prog GG 20 yvn:=
 yac yDy (yao (all_cons yGm all_nil) all_nil) (fun a h=>Yrc )
noncomputable def yVn:List D→Option D:=spOf (α:=Unit) (fun _=>[]) (fun _=>True) (fun _=>digD padL)
theorem Ya7:yVn []=some (digD padL):=
 yae (fun _ _ _=>rfl) () trivial
noncomputable def ymd:List D→Option D:=spOf (α:=Dig×Dig) (fun a=>[digD a.1,digD a.2]) (fun a=>True) (fun a=>digD (ydk a.1 a.2))
theorem ybx(a:Dig)(b:Dig):ymd [digD a,digD b]=some (digD (ydk a b)):=
 yae (fun⟨a0,a1⟩ ⟨b0,b1⟩ h=>by simp only[List.cons.injEq,yl5,and_true]at h; simp[h]) (a,b) trivial
theorem yUt(a:Dig)(b:Dig):@wW GG (tb [(62,ymc)] []) yhd.code (argF [digD a,digD b]) [] ⟨retQ yhd.res (digD (ydk a b))⟩:=by
 unfold yhd
 have ha:=a.len
 have hb:=b.len
 have hl:(a.bs++b.bs).length=64:=by rw[List.length_append,ha,hb]
 have c:=ysq [110,111,100,101] (a.bs++b.bs) (by rw[hl]; decide)
 simp (disch:=omega) only[push_cast,↓reduceIte,Nat.reduceEqDiff,Nat.reduceAdd,Yfj,yB8,c]
 rfl
theorem yA5:Contract Tryz.prog GG 95 ymd:=
 yac yw3 (yao (all_cons yGm all_nil) all_nil) (fun a h=>yUt a.1 a.2)
noncomputable def yB6:List D→Option D:=spOf (α:=Dig×Dig) (fun a=>[digD a.1,digD a.2]) (fun a=>True) (fun a=>digD (ydk a.1 a.2))
theorem yKa(a:Dig)(b:Dig):yB6 [digD a,digD b]=some (digD (ydk a b)):=
 yae (fun⟨a0,a1⟩ ⟨b0,b1⟩ h=>by simp only[List.cons.injEq,yl5,and_true]at h; simp[h]) (a,b) trivial
noncomputable def yLh:List D→Option D:=spOf (α:=Int) (fun a=>[.int .u64 a]) (fun a=>0≤a∧a<18446744073709551616) (fun a=>.int .i64 (ycy a.toNat:Int))
theorem Ybe(x:Int)(h:0≤x∧x<18446744073709551616):yLh [.int .u64 x]=some (.int .i64 (ycy x.toNat:Int)):=
 yae (fun a b h=>by simp only[List.cons.injEq,D.int.injEq,true_and,and_true]at h; simp[h]) (x) h
theorem Yrk(x:Int)(h:0≤x∧x<18446744073709551616):@wW GG (tb [(129,yy1)] []) yhf.code (argF [.int .u64 x]) [] ⟨retQ yhf.res (.int .i64 (ycy x.toNat:Int))⟩:=by
 unfold yhf
 simp (disch:=omega) only[push_cast,↓reduceIte,Nat.reduceEqDiff,yNc]
theorem Yvq:Contract Tryz.prog GG 75 yLh:=
 yac yw5 (yao (all_cons Yh7 all_nil) all_nil) (fun a h=>Yrk a h)
noncomputable def yme:List D→Option D:=spOf (α:=Int) (fun a=>[.int .i64 a]) (fun a=>True) (fun a=>.int .i64 (yan a))
theorem ye8(n:Int):yme [.int .i64 n]=some (.int .i64 (yan n)):=
 yae (fun a b h=>by simp only[List.cons.injEq,D.int.injEq,true_and,and_true]at h; simp[h]) (n) trivial
theorem Ycq(n:Int):@wW GG (tb [(75,yLh)] []) yii.code (argF [.int .i64 n]) [] ⟨retQ yii.res (.int .i64 (yan n))⟩:=by
 unfold yii
 simp only[push_cast,↓reduceIte,Nat.reduceEqDiff,Int.reduceNeg]
 refine yag (fun h1=>?_) (fun h1=>?_)
 ·simp only[push_cast,↓reduceIte,Nat.reduceEqDiff,Int.reduceNeg,h1,ymv (.inl h1)]
 ·simp only[push_cast,↓reduceIte,Nat.reduceEqDiff,Int.reduceNeg,h1]
  refine yag (fun h2=>?_) (fun h2=>?_)
  ·simp only[push_cast,↓reduceIte,Int.reduceNeg,h2,ymv (.inr h2)]
  ·have e:(max n 1 - 1).toNat=(max n 1).toNat - 1:=by omega
   have e2:=(yut (n:=n) (by omega) (by omega)).1
   simp (disch:=omega) only[push_cast,↓reduceIte,Nat.reduceEqDiff,h2,ydz,yGi,Ybe,e2,e]
theorem yx8:Contract Tryz.prog GG 25 yme:=
 yac yyj (yao (all_cons Yvq all_nil) all_nil) (fun a h=>Ycq a)
structure Ins where
 op:Int
 n:Int
 m:Int
 deriving DecidableEq,Inhabited
structure Sta where
 pc:Int
 fuel:Int
 status:Int
 clause:Int
 stack:List Int
 deriving DecidableEq,Inhabited
structure Opn where
 pc:Int
 fuel:Int
 status:Int
 clause:Int
 top:List Int
 depth:Int
 rest:Dig
 deriving DecidableEq
def insC(x:Ins):List D:=[.int .i64 x.op,.int .i64 x.n,.int .i64 x.m]
def insD(x:Ins):D:=.agg (insC x)
def ybq(l:List Int):D:=.slc (nz 1 (l.map nI)) (l.map nI) false
def staC(s:Sta):List D:=[.int .i64 s.pc,.int .i64 s.fuel,.int .i64 s.status,.int .i64 s.clause,ybq s.stack]
def staD(s:Sta):D:=.agg (staC s)
def opnC(o:Opn):List D:=.int .i64 o.pc::.int .i64 o.fuel::.int .i64 o.status::.int .i64 o.clause::ybq o.top::.int .i64 o.depth::digC o.rest
def opnD(o:Opn):D:=.agg (opnC o)
def evC(v:Int×List Int):List D:=.int .i64 v.1::v.2.map nI
def evD(v:Int×List Int):D:=.agg (evC v)
theorem ymq{a b:List Int}:ybq a=ybq b↔a=b:=by
 refine⟨fun h=>?_,fun h=>by rw[h]⟩
 simp only[ybq,D.slc.injEq,and_true]at h
 exact yqz.1 h.2
theorem yq0{a b:Ins}:insD a=insD b↔a=b:=by
 obtain⟨a1,a2,a3⟩:=a; obtain⟨b1,b2,b3⟩:=b
 simp[insD,insC]
theorem yea{a b:List Ins}:a.map insD=b.map insD↔a=b:=⟨ypr fun _ _=>yq0.1,fun h=>by rw[h]⟩
theorem yxi{a b:Sta}:staD a=staD b↔a=b:=by
 obtain⟨a1,a2,a3,a4,a5⟩:=a; obtain⟨b1,b2,b3,b4,b5⟩:=b
 simp[staD,staC,ymq]
theorem yqt{a b:Opn}:opnD a=opnD b↔a=b:=by
 obtain⟨a1,a2,a3,a4,a5,a6,a7⟩:=a; obtain⟨b1,b2,b3,b4,b5,b6,b7⟩:=b
 simp[opnD,opnC,ymq,yk9]
theorem yh2{a b:Int×List Int}:evD a=evD b↔a=b:=by
 obtain⟨a1,a2⟩:=a; obtain⟨b1,b2⟩:=b
 simp[evD,evC,yqz]
def yJi(t:List UInt8)(v:Val):Dig:=yvj t (encF v)
def Yde:List UInt8:=[112,114,111,103,114,97,109]
def tInp:List UInt8:=[105,110,112,117,116,115]
def tStk:List UInt8:=[115,116,97,99,107]
def tSta:List UInt8:=[115,116,97,116,101]
def Ysq(d:Dig)(x:Ins):Dig:=yJi Yde (.list [.int x.op,.int x.n,.int x.m,.bytes d.bs])
def yvt(c:List Ins):Dig:=c.foldl Ysq yab
def inpF(v:Int×List Int):Dig:=yJi tInp (.list [.int v.1,.list (v.2.map .int)])
def Ysu(d:Dig)(n:Int):Dig:=yJi tStk (.list [.int n,.bytes d.bs])
def yo9(d:Dig)(l:List Int):Dig:=l.foldl Ysu d
def yBv(c:List Ins)(v:Int×List Int)(o:Opn):Dig:=yJi tSta (.list [.bytes (yvt c).bs,.bytes (inpF v).bs,.int o.pc,.int o.fuel,.int o.status,.int o.clause,.int (o.depth+o.top.length),.bytes (yo9 o.rest o.top).bs])
def yFh(s:Sta)(n:Int):Nat:=s.stack.length - (min (max n 0) s.stack.length).toNat
def yIj(s:Sta)(n:Int):Opn:=⟨s.pc,s.fuel,s.status,s.clause,s.stack.drop (yFh s n),yFh s n,yo9 yab (s.stack.take (yFh s n))⟩
def digF(c:List Ins)(v:Int×List Int)(s:Sta):Dig:=yBv c v (yIj s s.stack.length)
def ycx(c:List Ins)(v:Int×List Int)(o:Opn):Dig:=if o.depth<0∨64<o.depth then yab else yBv c v o
theorem yY0(n:Int):(intB n).length≤9:=by
 unfold intB
 split
 ·have:=yqq 8 (u64N n)
  simp only[List.length_cons,yn6]; omega
 ·have:=yqq 8 (yxf (u64N n))
  simp only[List.length_cons,yn6]; omega
theorem yP0:∀ b:List UInt8,(b.flatMap escB).length≤2*b.length
 |[]=>by simp
 |c::b=>by
  have:=yP0 b
  have h1:(escB c).length≤2:=by unfold escB; split <;> simp
  simp only[List.flatMap_cons,List.length_append,List.length_cons]
  omega
theorem yg8(n:Int):(encV (.int n)).length≤9:=by rw[yGd]; exact yY0 n
theorem yur(d:Dig):(encV (.bytes d.bs)).length≤67:=by
 have:=yP0 d.bs
 rw[d.len]at this
 rw[yq4]
 simp only[List.length_cons,List.length_append,List.length_nil]
 omega
theorem yJr:∀ l:List Int,((l.map Val.int).flatMap encV).length≤9*l.length
 |[]=>by simp
 |n::l=>by
  have:=yJr l
  have:=yg8 n
  simp only[List.map_cons,List.flatMap_cons,List.length_append,List.length_cons]
  omega
theorem yS9(st:St)(key:Nat):imm1 st (.bsl key 0 32 1 false)=(elB st[key]?).map fun p=>.slc (nz 1 p.2) p.2 false:=by
 rw[← yAs]
 simp only[imm1,bslI,ygl]
 cases ylb st key 0 32 1 false with
 |none=>rfl
 |some els=>
  dsimp only
  split <;> rfl
theorem yz6(st:St)(v:Val):imm st (valD v)=some (valD v):=by
 obtain⟨k,n,B,M,hC,hD⟩:=ygw v
 rw[hD,Ygi]
theorem yui(v:Val):keys (valD v)=[]:=by
 obtain⟨k,n,B,M,hC,hD⟩:=ygw v
 rw[hD,yPe]
theorem yXq(v:Val):(valD v).noRef=false:=by
 obtain⟨k,n,B,M,hC,hD⟩:=ygw v
 rw[hD]; rfl
theorem Yap(v:Val):(valD v).cells.length=4:=by
 obtain⟨k,n,B,M,hC,hD⟩:=ygw v
 rw[hD]; rfl
theorem yxv(l:List Val)(h:l.length≤1000):litD 4 (l.map valD)=some (.slc 4 (l.map valD) true):=by
 have h1:((l.map valD).all fun e=>e.cells.length == 4)=true:=by
  rw[List.all_eq_true]
  intro e he
  obtain⟨v,_,rfl⟩:=List.mem_map.1 he
  simp[Yap]
 have h2:decide ((l.map valD).length*4≤16777216)=true:=decide_eq_true (by rw[List.length_map]; omega)
 simp only[litD,h1,h2]
 rfl
theorem yew:boxD (.agg [.int .i64 0,.int .i64 0,.int .i64 0])=some [.int .i64 0,.int .i64 0,.int .i64 0]:=(rfl)
theorem yau(x:Ins):boxD (insD x)=some (insC x):=(rfl)
theorem yri(x:Ins):stO (some ⟨false,1,[.int .i64 0,.int .i64 0,.int .i64 0],false⟩) 3 0 (insD x)=some ⟨false,1,insC x,false⟩:=(rfl)
theorem ybd(lent:Bool)(x:Ins):ldO (some ⟨false,1,insC x,lent⟩) 1 false 0=some (.int .i64 x.op):=(rfl)
theorem yg4(lent:Bool)(x:Ins):ldO (some ⟨false,1,insC x,lent⟩) 1 false 1=some (.int .i64 x.n):=(rfl)
theorem yMs(lent:Bool)(x:Ins):ldO (some ⟨false,1,insC x,lent⟩) 1 false 2=some (.int .i64 x.m):=(rfl)
theorem yug(lent:Bool)(x:Ins):ldO (some ⟨false,1,insC x,lent⟩) 3 true 0=some (insD x):=(rfl)
theorem yfv(st:St)(x:Ins):yde st 3 true (.eptr (insD x) 0)=some (insD x):=(rfl)
theorem Ynx(st:St)(x:Ins):imm st (insD x)=some (insD x):=(rfl)
theorem yz7(st:St)(c:List Ins)(t:Bool)(i:Nat)(h:i<c.length):yfx st 3 (.slc (nz 3 (c.map insD)) (c.map insD) t) (.int .i64 (i:Int))=some (.eptr (insD (c.getD i default)) 0):=by
 have:=yi5 st 3 insD c t .i64 (i:Int) (by omega) (by omega)
 simpa using this
theorem yPp(st:St)(c:List Int)(t:Bool)(i:Nat)(h:i<c.length):yfx st 1 (.slc (nz 1 (c.map nI)) (c.map nI) t) (.int .i64 (i:Int))=some (.eptr (nI (c.getD i default)) 0):=by
 have:=yi5 st 1 nI c t .i64 (i:Int) (by omega) (by omega)
 simpa using this
theorem yOn(st:St)(n:Int):yde st 1 false (.eptr (nI n) 0)=some (.int .i64 n):=(rfl)
theorem Yg8(n:Int):yam [.int .i64 0,.int .i64 0,.slc 0 [] true,.slc 0 [] true] [(0,1,.int .i64 1),(1,1,.int .i64 n)]=some [.int .i64 1,.int .i64 n,.slc 0 [] true,.slc 0 [] true]:=(rfl)
theorem Yha(k:Nat):yam [.int .i64 0,.int .i64 0,.slc 0 [] true,.slc 0 [] true] [(0,1,.int .i64 2),(2,1,.bsl k 0 32 1 false)]=some [.int .i64 2,.int .i64 0,.bsl k 0 32 1 false,.slc 0 [] true]:=(rfl)
theorem Yg9(sz:Nat)(l:List D)(t:Bool):yam [.int .i64 0,.int .i64 0,.slc 0 [] true,.slc 0 [] true] [(0,1,.int .i64 3),(3,1,.slc sz l t)]=some [.int .i64 3,.int .i64 0,.slc 0 [] true,.slc sz l t]:=(rfl)
theorem yVi(a b c d:D):stO (some ⟨false,1,[.int .i64 0,.int .i64 0,.slc 0 [] true,.slc 0 [] true],false⟩) 4 0 (.agg [a,b,c,d])=if [a,b,c,d].all D.isCell then some ⟨false,1,[a,b,c,d],false⟩else none:=by
 simp only[stO]
 rfl
theorem ld_4(lent:Bool)(a b c d:D):ldO (some ⟨false,1,[a,b,c,d],lent⟩) 4 true 0=some (.agg [a,b,c,d]):=(rfl)
theorem Yho(k o n s:Nat)(ag:Bool):(D.bsl k o n s ag).isCell=true:=(rfl)
noncomputable def yvl:List D→Option D:=spOf (α:=Int) (fun a=>[.int .i64 a]) (fun a=>True) (fun a=>valD (.int a))
theorem yp8(n:Int):yvl [.int .i64 n]=some (valD (.int n)):=
 yae (fun a b h=>by simp only[List.cons.injEq,D.int.injEq,true_and,and_true]at h; simp[h]) (n) trivial
theorem Yqy(n:Int):@wW GG (tb [] []) yle.code (argF [.int .i64 n]) [] ⟨retQ yle.res (valD (.int n))⟩:=by
 unfold yle
 rw[yjd]
 simp (disch:=first|omega|decide) only[push_cast,↓reduceIte,Nat.reduceEqDiff,yKl,Yg8,yVi,ld_4]
 rfl
theorem yQf:Contract Tryz.prog GG 145 yvl:=
 yac yDu (yao all_nil all_nil) (fun a h=>Yqy a)
noncomputable def yyy:List D→Option D:=spOf (α:=Dig) (fun a=>[digD a]) (fun a=>True) (fun a=>valD (.bytes a.bs))
theorem yA3(d:Dig):yyy [digD d]=some (valD (.bytes d.bs)):=
 yae (fun a b h=>by simp only[List.cons.injEq,yl5,and_true]at h; simp[h]) (d) trivial
theorem Yq4(d:Dig):@wW GG (tb [] []) yof.code (argF [digD d]) [] ⟨retQ yof.res (valD (.bytes d.bs))⟩:=by
 unfold yof
 rw[yfc]
 simp (disch:=first|omega|decide) only[push_cast,↓reduceIte,Nat.reduceEqDiff,yKl,yB8,Yha,yVi,ld_4,Yho,yS9]
 rfl
theorem Ybh:Contract Tryz.prog GG 142 yyy:=
 yac yG8 (yao all_nil all_nil) (fun a h=>Yq4 a)
noncomputable def yng:List D→Option D:=spOf (α:=List Val) (fun a=>[.slc (nz 4 (a.map valD)) (a.map valD) false]) (fun a=>True) (fun a=>valD (.list a))
theorem yuy(l:List Val):yng [.slc (nz 4 (l.map valD)) (l.map valD) false]=some (valD (.list l)):=
 yae (fun a b h=>by simp only[List.cons.injEq,D.slc.injEq,and_true,Yc4]at h; simp[h]) (l) trivial
theorem Yqz(l:List Val):@wW GG (tb [] []) yq9.code (argF [.slc (nz 4 (l.map valD)) (l.map valD) false]) [] ⟨retQ yq9.res (valD (.list l))⟩:=by
 unfold yq9
 rw[yjx]
 simp (disch:=first|omega|decide) only[push_cast,↓reduceIte,Nat.reduceEqDiff,yKl,Yg9,yVi,ld_4]
 rfl
theorem yQg:Contract Tryz.prog GG 141 yng:=
 yac yK2 (yao all_nil all_nil) (fun a h=>Yqz a)
noncomputable def yvm:List D→Option D:=spOf (α:=List UInt8×Val) (fun a=>[.str a.1,valD a.2]) (fun a=>a.1.length≤1000∧depV a.2≤16∧(encV a.2).length≤4294967000) (fun a=>digD (yJi a.1 a.2))
theorem yuz(t:List UInt8)(v:Val)(h:t.length≤1000∧depV v≤16∧(encV v).length≤4294967000):yvm [.str t,valD v]=some (digD (yJi t v)):=
 yae (fun⟨a0,a1⟩ ⟨b0,b1⟩ h=>by simp only[List.cons.injEq,D.str.injEq,and_true,ys4]at h; simp[h]) (t,v) h
theorem Yq1(t:List UInt8)(v:Val)(h:t.length≤1000∧depV v≤16∧(encV v).length≤4294967000):@wW GG (tb [(167,yy2),(62,ymc)] []) ylk.code (argF [.str t,valD v]) [] ⟨retQ ylk.res (digD (yJi t v))⟩:=by
 unfold ylk yJi
 have h1:=yNe v h.2
 have hl:(encF v).length≤65536:=by
  unfold encF
  split
  ·assumption
  ·simp
 have h2:=ysq t (encF v) (by omega)
 obtain⟨k,n,B,M,hC,hD⟩:=ygw v
 rw[hD]at h1
 rw[hD]
 simp (disch:=first|omega|decide) only[push_cast,↓reduceIte,Nat.reduceEqDiff,yKm,ld_v,Ygi,yPe,h1,bsO,h2]
theorem yQh:Contract Tryz.prog GG 140 yvm:=
 yac yDv (yao (all_cons Yh9 (all_cons yGm all_nil)) all_nil) (fun a h=>Yq1 a.1 a.2 h)
theorem yRp(c:List Ins)(x:Ins):yvt (c++[x])=Ysq (yvt c) x:=by unfold yvt; rw[List.foldl_append]; rfl
theorem Yep(d:Dig)(x:Ins):Yde.length≤1000∧depV (.list [.int x.op,.int x.n,.int x.m,.bytes d.bs])≤16∧(encV (.list [.int x.op,.int x.n,.int x.m,.bytes d.bs])).length≤4294967000:=by
 have h1:=yg8 x.op
 have h2:=yg8 x.n
 have h3:=yg8 x.m
 have h4:=yur d
 refine⟨by decide,by simp[depV,yjl],?_⟩
 rw[yg7]
 simp only[List.length_cons,List.length_append,List.length_nil,List.flatMap_cons,List.flatMap_nil]
 omega
theorem lit_4(a b c d:Val):litD 4 [valD a,valD b,valD c,valD d]=some (.slc 4 [valD a,valD b,valD c,valD d] true):=yxv [a,b,c,d] (by simp)
theorem lst_4(a b c d:Val):yng [.slc 4 [valD a,valD b,valD c,valD d] false]=some (valD (.list [a,b,c,d])):=yuy [a,b,c,d]
theorem Ytb(a b:Val):litD 4 [valD a,valD b]=some (.slc 4 [valD a,valD b] true):=yxv [a,b] (by simp)
theorem Ys7(a b:Val):yng [.slc 4 [valD a,valD b] false]=some (valD (.list [a,b])):=yuy [a,b]
theorem lit_8(a b c d e f g h:Val):litD 4 [valD a,valD b,valD c,valD d,valD e,valD f,valD g,valD h]=some (.slc 4 [valD a,valD b,valD c,valD d,valD e,valD f,valD g,valD h] true):=yxv [a,b,c,d,e,f,g,h] (by simp)
theorem lst_8(a b c d e f g h:Val):yng [.slc 4 [valD a,valD b,valD c,valD d,valD e,valD f,valD g,valD h] false]=some (valD (.list [a,b,c,d,e,f,g,h])):=yuy [a,b,c,d,e,f,g,h]
noncomputable def yLb:List D→Option D:=spOf (α:=List Ins) (fun a=>[.slc (nz 3 (a.map insD)) (a.map insD) false]) (fun a=>a.length≤4294967296) (fun a=>digD (yvt a))
theorem Ya0(c:List Ins)(h:c.length≤4294967296):yLb [.slc (nz 3 (c.map insD)) (c.map insD) false]=some (digD (yvt c)):=
 yae (fun a b h=>by simp only[List.cons.injEq,D.slc.injEq,and_true,yea]at h; simp[h]) (c) h
theorem Yqx(c:List Ins)(h:c.length≤4294967296):@wW GG (tb [(145,yvl),(142,yyy),(141,yng),(140,yvm)] []) yjq.code (argF [.slc (nz 3 (c.map insD)) (c.map insD) false]) [] ⟨retQ yjq.res (digD (yvt c))⟩:=by
 unfold yjq
 simp (disch:=first|omega|decide) only[push_cast,↓reduceIte,Nat.reduceEqDiff]
 refine ybs (fun i:Nat=>[(2,.ptr 0 0),(5,.slc (nz 3 (c.map insD)) (c.map insD) false),(6,.int .i64 (c.length:Int)),(7,.int .i64 (i:Int))])
  (fun i=>[⟨false,1,digC (yvt (c.take i)),false⟩]) (fun i=>i≤c.length) (fun i=>c.length - i) 0 (by simp only[push_cast,↓reduceIte,Nat.reduceEqDiff,Nat.reduceLT,Nat.reduceLeDiff,↓Int.reduceNatCast'] <;> rfl) (by omega) ?_
 intro i hi
 unfold yov
 simp (disch:=first|omega|decide) only[push_cast,↓reduceIte,Nat.reduceEqDiff]
 refine yag (fun h2=>?_) (fun h2=>?_)
 ·have hil:i<c.length:=by omega
  have hx:=yz7 [⟨false,1,digC (yvt (c.take i)),false⟩] c false i hil
  have hts:=yjz c hil
  obtain⟨x,hxe⟩:∃ x,c.getD i default=x:=⟨_,rfl⟩
  rw[hxe]at hx hts
  have hh:=yuz Yde (.list [.int x.op,.int x.n,.int x.m,.bytes (yvt (c.take i)).bs]) (Yep _ _)
  simp only[Yde]at hh
  simp (disch:=first|omega|decide) only[push_cast,↓reduceIte,Nat.reduceEqDiff,Nat.reduceLT,Nat.reduceLeDiff,Nat.reduceAdd,hx,yfv,yew,yri,ybd,yg4,yMs,yp8,yA3,yz6,yui,lit_4,lst_4,hh,yax]
  refine yai (i+1) (by omega) (by omega) ?_
  rw[hts,yRp]
  simp only[push_cast] <;> rfl
 ·obtain rfl:i=c.length:=by omega
  rw[show(c.take c.length)=c from List.take_length]
  simp (disch:=first|omega|decide) only[push_cast,↓reduceIte,Nat.reduceEqDiff]
theorem Yvd:Contract Tryz.prog GG 143 yLb:=
 yac yBj (yao (all_cons yQf (all_cons Ybh (all_cons yQg (all_cons yQh all_nil)))) all_nil) (fun a h=>Yqx a h)
theorem yR9(d:Dig)(l:List Int)(n:Int):yo9 d (l++[n])=Ysu (yo9 d l) n:=by unfold yo9; rw[List.foldl_append]; rfl
theorem Yfd(d:Dig)(n:Int):tStk.length≤1000∧depV (.list [.int n,.bytes d.bs])≤16∧(encV (.list [.int n,.bytes d.bs])).length≤4294967000:=by
 have h1:=yg8 n
 have h4:=yur d
 refine⟨by decide,by simp[depV,yjl],?_⟩
 rw[yg7]
 simp only[List.length_cons,List.length_append,List.length_nil,List.flatMap_cons,List.flatMap_nil]
 omega
noncomputable def yxj:List D→Option D:=spOf (α:=Dig×List Int) (fun a=>[digD a.1,.slc (nz 1 (a.2.map nI)) (a.2.map nI) false]) (fun a=>a.2.length≤4294967296) (fun a=>digD (yo9 a.1 a.2))
theorem yDa(d:Dig)(l:List Int)(h:l.length≤4294967296):yxj [digD d,.slc (nz 1 (l.map nI)) (l.map nI) false]=some (digD (yo9 d l)):=
 yae (fun⟨a0,a1⟩ ⟨b0,b1⟩ h=>by simp only[List.cons.injEq,D.slc.injEq,yl5,and_true,yqz]at h; simp[h]) (d,l) h
theorem Yka(d:Dig)(l:List Int)(h:l.length≤4294967296):@wW GG (tb [(145,yvl),(142,yyy),(141,yng),(140,yvm)] []) yq8.code (argF [digD d,.slc (nz 1 (l.map nI)) (l.map nI) false]) [] ⟨retQ yq8.res (digD (yo9 d l))⟩:=by
 unfold yq8
 simp (disch:=first|omega|decide) only[push_cast,↓reduceIte,Nat.reduceEqDiff]
 refine ybs (fun i:Nat=>[(2,.ptr 0 0),(4,.ptr 1 0),(7,.slc (nz 1 (l.map nI)) (l.map nI) false),(8,.int .i64 (l.length:Int)),(9,.int .i64 (i:Int))])
  (fun i=>[⟨false,1,digC (yo9 d (l.take i)),false⟩,⟨false,1,digC yab,false⟩]) (fun i=>i≤l.length) (fun i=>l.length - i) 0 (by simp only[push_cast,↓reduceIte,Nat.reduceEqDiff,Nat.reduceLT,Nat.reduceLeDiff,Nat.reduceAdd,↓Int.reduceNatCast'] <;> rfl) (by omega) ?_
 intro i hi
 unfold yu5
 simp (disch:=first|omega|decide) only[push_cast,↓reduceIte,Nat.reduceEqDiff]
 refine yag (fun h2=>?_) (fun h2=>?_)
 ·have hil:i<l.length:=by omega
  have hx:=yPp [⟨false,1,digC (yo9 d (l.take i)),false⟩,⟨false,1,digC yab,false⟩] l false i hil
  have hts:=yjz l hil
  obtain⟨x,hxe⟩:∃ x,l.getD i default=x:=⟨_,rfl⟩
  rw[hxe]at hx hts
  have hh:=yuz tStk (.list [.int x,.bytes (yo9 d (l.take i)).bs]) (Yfd _ _)
  simp only[tStk]at hh
  simp (disch:=first|omega|decide) only[push_cast,↓reduceIte,Nat.reduceEqDiff,Nat.reduceLT,Nat.reduceLeDiff,Nat.reduceAdd,hx,yOn,yp8,yA3,yz6,yui,Ytb,Ys7,hh,yax]
  refine yai (i+1) (by omega) (by omega) ?_
  rw[hts,yR9]
  simp only[push_cast] <;> rfl
 ·obtain rfl:i=l.length:=by omega
  rw[show(l.take l.length)=l from List.take_length]
  simp (disch:=first|omega|decide) only[push_cast,↓reduceIte,Nat.reduceEqDiff,Nat.reduceAdd]
theorem Ybg:Contract Tryz.prog GG 146 yxj:=
 yac yK1 (yao (all_cons yQf (all_cons Ybh (all_cons yQg (all_cons yQh all_nil)))) all_nil) (fun a h=>Yka a.1 a.2 h)
noncomputable def yLa:List D→Option D:=spOf (α:=List Int) (fun a=>[.slc (nz 1 (a.map nI)) (a.map nI) false]) (fun a=>a.length≤4294967296) (fun a=>digD (yo9 yab a))
theorem Yaz(l:List Int)(h:l.length≤4294967296):yLa [.slc (nz 1 (l.map nI)) (l.map nI) false]=some (digD (yo9 yab l)):=
 yae (fun a b h=>by simp only[List.cons.injEq,D.slc.injEq,and_true,yqz]at h; simp[h]) (l) h
theorem Yqw(l:List Int)(h:l.length≤4294967296):@wW GG (tb [(146,yxj)] []) yoh.code (argF [.slc (nz 1 (l.map nI)) (l.map nI) false]) [] ⟨retQ yoh.res (digD (yo9 yab l))⟩:=by
 unfold yoh
 have hc:=yDa yab l h
 simp (disch:=first|omega|decide) only[push_cast,↓reduceIte,Nat.reduceEqDiff,hc]
theorem Yvc:Contract Tryz.prog GG 96 yLa:=
 yac yHa (yao (all_cons Ybg all_nil) all_nil) (fun a h=>Yqw a h)
theorem Ynt(v:Int×List Int)(h:v.2.length=16):tInp.length≤1000∧depV (.list [.int v.1,.list (v.2.map .int)])≤16∧(encV (.list [.int v.1,.list (v.2.map .int)])).length≤4294967000:=by
 have h1:=yg8 v.1
 have h4:=yJr v.2
 have hd:∀ l:List Int,yjl (l.map .int)=0:=by
  intro l
  induction l with
  |nil=>simp[yjl]
  |cons a l ih=>simp[yjl,depV,ih]
 refine⟨by decide,by simp[depV,yjl,hd],?_⟩
 rw[yg7]
 simp only[List.length_cons,List.length_append,List.length_nil,List.flatMap_cons,List.flatMap_nil,yg7]
 omega
theorem yz2(l:List Int):(l.map nI).all D.isCell=true:=yue nI (fun _=>rfl) l
theorem yh1(l:List Int):(l.map nI).all yaq=true:=by
 rw[List.all_eq_true]
 intro x hx
 obtain⟨n,_,rfl⟩:=List.mem_map.1 hx
 rfl
theorem yGb(v:Int×List Int):evC v=(v.1::v.2).map nI:=(rfl)
theorem ydp(v:Int×List Int):boxD (evD v)=some (evC v):=by
 rw[show boxD (evD v)=if(evC v).all D.isCell then some (evC v)else none from rfl,yGb,if_pos (yz2 _)]
theorem yba(st:St)(v:Int×List Int):imm st (evD v)=some (evD v):=ymf st (yh1 (v.1::v.2))
theorem yby(v:Int×List Int):keys (evD v)=[]:=yjs (yh1 (v.1::v.2))
theorem Yjs(v:Int×List Int):(evC v).flatMap hk=[]:=yka (yh1 (v.1::v.2))
theorem yWm(m:Nat)(σ:List Nat)(v:Int×List Int):(evC v).map (ren m σ)=evC v:=ygn m σ (yh1 (v.1::v.2))
theorem ypa{v:Int×List Int}(h:v.2.length=16)(sz:Nat)(lent:Bool):ldO (some ⟨false,sz,evC v,lent⟩) 17 true 0=some (evD v):=yh0 sz lent _ 17 (by simp[evC,h])
theorem Yti(v:Int×List Int)(sz:Nat)(lent:Bool):ldO (some ⟨false,sz,evC v,lent⟩) 1 false 0=some (.int .i64 v.1):=ycs (A:=[]) (C:=v.2.map nI) rfl rfl
theorem Yth{v:Int×List Int}(h:v.2.length=16)(sz:Nat)(lent:Bool):ldO (some ⟨false,sz,evC v,lent⟩) 16 true 1=some (.agg (v.2.map nI)):=yj7 (A:=[.int .i64 v.1]) (B:=v.2.map nI) (C:=[]) (by simp[evC]) rfl (by simp[h])
theorem Yn3(l:List Int)(i:Nat)(h:i<l.length):yIe l.length 1 false (.agg (l.map nI)) (.int .i64 (i:Int))=some (nI (l.getD i default)):=by
 have h1:yd6 (.int .i64 (i:Int))=some i:=by simp[yd6]
 simp only[yIe,h1,if_pos h,Nat.mul_one]
 refine yZw (A:=(l.take i).map nI) (C:=(l.drop (i+1)).map nI) ?_ (by simp; omega)
 rw[← List.map_cons,← List.map_append]
 congr 1
 have:l=l.take i++l.drop i:=(List.take_append_drop _ _).symm
 rw[List.drop_eq_getElem_cons h]at this
 rw[List.getD_eq_getElem?_getD,List.getElem?_eq_getElem h]
 exact this
theorem Ytc(a:Val):litD 4 [valD a]=some (.slc 4 [valD a] true):=yxv [a] (by simp)
theorem yZf(l:List Int):hk (.agg (l.map nI))=[]:=ytw (yh1 l)
theorem yOf(m:Nat)(σ:List Nat)(l:List Int):ren m σ (.agg (l.map nI))=.agg (l.map nI):=yj1 m σ (yh1 l)
noncomputable def yLc:List D→Option D:=spOf (α:=(Int×List Int)) (fun a=>[evD a]) (fun a=>a.2.length=16) (fun a=>digD (inpF a))
theorem Ya1(v:Int×List Int)(h:v.2.length=16):yLc [evD v]=some (digD (inpF v)):=
 yae (fun a b h=>by simp only[List.cons.injEq,and_true,yh2]at h; simp[h]) (v) h
theorem Yq0(v:Int×List Int)(h:v.2.length=16):@wW GG (tb [(145,yvl),(141,yng),(140,yvm)] []) yll.code (argF [evD v]) [] ⟨retQ yll.res (digD (inpF v))⟩:=by
 unfold yll
 have hh:=yuz tInp (.list [.int v.1,.list (v.2.map .int)]) (Ynt v h)
 simp only[tInp]at hh
 simp (disch:=first|omega|decide) only[push_cast,↓reduceIte,Nat.reduceEqDiff,ydp,Yth h]
 refine ybs (fun i:Nat=>[(1,.ptr 0 0),(2,.ptr 1 0),(3,bufD 0 2 ((v.2.take i).map (valD ∘ Val.int))),(7,.agg (v.2.map nI)),(8,.int .i64 (i:Int))])
  (fun i=>⟨false,1,evC v,false⟩::⟨false,1,digC yab,false⟩::bufS 4 ((v.2.take i).map (valD ∘ Val.int))) (fun i=>i≤16) (fun i=>16 - i) 0 (by simp only[push_cast,↓reduceIte,Nat.reduceEqDiff,Nat.reduceLT,Nat.reduceLeDiff,Nat.reduceAdd,↓Int.reduceNatCast',Yjs,yWm,yZf,yOf] <;> rfl) (by omega) ?_
 intro i hi
 unfold yqh
 simp (disch:=first|omega|decide) only[push_cast,↓reduceIte,Nat.reduceEqDiff]
 refine yag (fun h2=>?_) (fun h2=>?_)
 ·have hil:i<v.2.length:=by omega
  have hx:=Yn3 v.2 i hil
  rw[h]at hx
  have hts:=yjz v.2 hil
  obtain⟨x,hxe⟩:∃ x,v.2.getD i default=x:=⟨_,rfl⟩
  rw[hxe,show nI x=.int .i64 x from rfl]at hx
  rw[hxe]at hts
  have happ:=yXa (f:=valD ∘ Val.int) (sz:=4) (sz0:=0) (bytes:=64) (A:=v.2.take i) (x:=x) (t:=true) (a:=⟨false,1,evC v,false⟩) (b:=⟨false,1,digC yab,false⟩) (hs0:=by decide) (hb:=by rw[List.length_take]; omega) (hl:=by rw[List.length_take]; omega)
  simp only[Function.comp_apply]at happ
  simp (disch:=first|omega|decide) only[push_cast,↓reduceIte,Nat.reduceEqDiff,Nat.reduceLT,Nat.reduceLeDiff,Nat.reduceAdd,hx,yp8,yz6,yui,Ytc,happ,yax]
  refine yai (i+1) (by omega) (by omega) ?_
  rw[hts]
  simp only[push_cast,Yjs,yWm,yZf,yOf] <;> rfl
 ·obtain rfl:i=16:=by omega
  rw[show(v.2.take 16)=v.2 from List.take_of_length_le (by omega)]
  have hb:imm (⟨false,1,evC v,false⟩::⟨false,1,digC yab,false⟩::bufS 4 (v.2.map (valD ∘ Val.int))) (bufD 0 2 (v.2.map (valD ∘ Val.int)))=some (.slc (nz 4 (v.2.map (valD ∘ Val.int))) (v.2.map (valD ∘ Val.int)) false):=Yjr _ _ 4 0 _
  have hl:=yuy (v.2.map Val.int)
  rw[List.map_map]at hl
  have hne:v.2.map (valD ∘ Val.int)≠[]:=by
   intro e
   have:=congrArg List.length e
   simp[h]at this
  rw[ywf _ _ _ hne,ysy _ _ hne]at hb
  simp (disch:=first|omega|decide) only[push_cast,↓reduceIte,Nat.reduceEqDiff,Nat.reduceAdd,Int.reduceLT,↓Int.reduceNatCast',ywf _ _ _ hne,ysy _ _ hne,yXq,Yti,yp8,yz6,yui,hl,Ytb,Ys7,hh]
  rfl
theorem Yve:Contract Tryz.prog GG 144 yLc:=
 yac yDw (yao (all_cons yQf (all_cons yQg (all_cons yQh all_nil))) all_nil) (fun a h=>Yq0 a h)
end Go.Proofs.YtijnglngaogdjaaGreatDoor.PI
