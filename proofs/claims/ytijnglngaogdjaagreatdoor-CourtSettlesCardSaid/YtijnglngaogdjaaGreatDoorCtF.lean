/-
  court: what the moves do.
  Conditions: none; these are lemmas.
-/
import Derived.Test.YtijnglngaogdjaaGreatDoorArP
import Derived.Test.YtijnglngaogdjaaGreatDoorArD
import Derived.Test.YtijnglngaogdjaaGreatDoorEngHe
import Derived.Test.YtijnglngaogdjaaGreatDoorSha
import Derived.Test.YtijnglngaogdjaaGreatDoorFnsJ
set_option linter.unusedVariables false
set_option linter.unusedSimpArgs false
namespace Go.Proofs.YtijnglngaogdjaaGreatDoor.PI
open Go
set_option linter.unusedSimpArgs false
set_option linter.unusedVariables false
structure Der where
 code:List Ins
 env:Int×List Int
 am:Int
 er:Int
 lv:List Dig
 deriving Inhabited
section
variable {v:Int×List Int} (hv:vOK v) (lent:Bool) (cs L:D) (a e:Int)
include hv
end
structure okS (s:Sta):Prop where
 l:s.stack.length≤4294967296
 t:s.status≤1000000
theorem ymr(st:St):∀ {A:List D} (B:List D),A.all yaq=true→immL st (A++B)=(immL st B).map (A++·)
 |[],B,_=>by simp
 |d::A,B,h=>by
  simp only[List.all_cons,Bool.and_eq_true]at h
  rw[List.cons_append,immL,yvq st h.1,ymr st B h.2]
  cases immL st B <;> rfl
theorem yuq(v:Int×List Int):(evC v).all yaq=true:=by
 rw[yGb]; exact yh1 (v.1::v.2)
theorem getR(S l:St)(k:Nat):(S++l)[S.length+k]?=l[k]?:=by
 rw[List.getElem?_append_right (by omega)]; congr 1; omega
theorem ycg(S l:St):(S++l)[S.length]?=l[0]?:=getR S l 0
theorem setR(S l:St)(k:Nat)(x:PI.Obj):(S++l).set (S.length+k) x=S++l.set k x:=by
 rw[List.set_append_right _ _ (by omega)]; congr 2; omega
theorem ycn(S l:St)(x:PI.Obj):(S++l).set S.length x=S++l.set 0 x:=setR S l 0 x
theorem yez(fr:Frame)(st:St)(t n:Nat)(ag:Bool)(l:List PRes):raws ⟨fr,st⟩ (.cell t n ag::l)=(yde st n ag (fr t)).bind fun d=>(raws ⟨fr,st⟩ l).map (d::·):=by
 simp only[raws]
 cases yde st n ag (fr t) <;> cases raws ⟨fr,st⟩ l <;> rfl
def clD(p:Dig×Dig):D:=.agg (digC p.1++digC p.2)
theorem yM9{a b:Dig×Dig}:clD a=clD b↔a=b:=by
 refine⟨fun h=>?_,fun h=>by rw[h]⟩
 obtain⟨a1,a2⟩:=a
 obtain⟨b1,b2⟩:=b
 simp only[clD,D.agg.injEq]at h
 obtain⟨h1,h2⟩:=List.append_inj h (by rw[yaa,yaa])
 rw[yk9.1 h1,yk9.1 h2]
theorem Yo7(p:Dig×Dig):(digC p.1++digC p.2).all D.isCell=true:=by
 rw[List.all_append,yeu (fun _=>rfl),yeu (fun _=>rfl)]; rfl
theorem Yal(p:Dig×Dig):(digC p.1++digC p.2).length=64:=by simp[yaa]
theorem Yb4(p:Dig×Dig):boxD (clD p)=some (digC p.1++digC p.2):=by
 rw[show boxD (clD p)=if(digC p.1++digC p.2).all D.isCell then some (digC p.1++digC p.2)else none from rfl,if_pos (Yo7 p)]
theorem Ym8(lent:Bool)(p:Dig×Dig):ldO (some ⟨false,1,digC p.1++digC p.2,lent⟩) 64 true 0=some (clD p):=yh0 1 lent _ 64 (Yal p)
theorem cl_0(p:Dig×Dig):yIe 2 32 true (clD p) (.int .i64 0)=some (digD p.1):=
 yPw (A:=[]) (B:=digC p.1) (C:=digC p.2) rfl rfl (yaa _)
theorem cl_1(p:Dig×Dig):yIe 2 32 true (clD p) (.int .i64 1)=some (digD p.2):=
 yPw (A:=digC p.1) (B:=digC p.2) (C:=[]) (by rw[List.append_nil]) (yaa _) (yaa _)
theorem yP8(p:Dig×Dig):ymg (clD p)=true:=by
 simp only[clD,ymg,List.all_append]
 rw[show(digC p.1).all yaq=true from yh3 _,show(digC p.2).all yaq=true from yh3 _]; rfl
theorem Yob(p:Dig×Dig):hk (clD p)=[]:=ytw (yP8 p)
theorem yWj(n:Nat)(σ:List Nat)(p:Dig×Dig):ren n σ (clD p)=clD p:=yj1 n σ (yP8 p)
def verD(p:Int×Dig):D:=.agg (.int .i64 p.1::digC p.2)
def yzz(cl:Dig×Dig)(d:Dig):Int:=if cl.1=d then 0 else if cl.2=d then 1 else -1
def yip(cl:Dig×Dig)(r:Dig×Int):Int×Dig:=if r.2=0 then(yzz cl r.1,r.1)else(0,yab)
def boxC(cl:Dig×Dig):PI.Obj:=⟨false,1,digC cl.1++digC cl.2,false⟩
def boxV(p:Int×Dig):PI.Obj:=⟨false,1,.int .i64 p.1::digC p.2,false⟩
def Yjq(f:Nat)(sp:List D→St→Option (D×St))(ds:List D)(st:St)(r:D×St):Prop:=∃ (cl:Dig×Dig) (caps:List D) (d:Dig) (e:Int),StOK st∧ds=[clD cl,.clo f caps]∧
 sp caps (st++[boxC cl,boxV (0,yab)])=some (.tup [digD d,.int .i64 e],st++[boxC cl,boxV (0,yab)])∧r=(.tup [verD (yip cl (d,e)),.int .i64 e],st)
theorem yI6(f:Nat)(sp:List D→St→Option (D×St)):Fun1 (Yjq f sp):=by
 rintro ds st r r' ⟨cl,caps,d,e,_,rfl,h2,rfl⟩ ⟨cl',caps',d',e',_,h,h2',rfl⟩
 simp only[List.cons.injEq,D.clo.injEq,and_true,true_and,yM9]at h
 obtain⟨rfl,rfl⟩:=h
 rw[h2]at h2'
 simp only[Ywe,Ywg,D.tup.injEq,List.cons.injEq,yl5,D.int.injEq,true_and,and_true]at h2'
 obtain⟨rfl,rfl⟩:=h2'
 rfl
noncomputable def yqr(f:Nat)(sp:List D→St→Option (D×St)):List D→St→Option (D×St):=relI (Yjq f sp)
theorem ypj{S:St}(h:StOK S)(l:St)(hl:∀ o∈l,o.els.all yaq=true):StOK (S++l):=
 h.app _ fun o ho _ x hx=>yj1 _ _ (yks (List.all_eq_true.1 (hl o ho) x hx))
theorem yco(d:Dig):(digC d).all yaq=true:=yh3 d
theorem yjv(cl:Dig×Dig):(boxC cl).els.all yaq=true:=by
 simp only[boxC,List.all_append,yco]; rfl
theorem ym0(p:Int×Dig):(boxV p).els.all yaq=true:=by
 simp only[boxV,List.all_cons,yco]; rfl
theorem yAw{S l:St}(h:StOK S):cut S.length (S++l)=S:=Yjv h rfl
theorem Yfm(n:Nat)(a:Int)(d:Dig)(e:Int):lowR n (.tup [.agg (.int .i64 a::digC d),.int .i64 e])=.tup [.agg (.int .i64 a::digC d),.int .i64 e]:=by
 have h:low n (.agg (.int .i64 a::digC d))=.agg (.int .i64 a::digC d):=by
  rw[← yLw]; exact yj1 n [] (d:=.agg (.int .i64 a::digC d)) (by simp only[ymg,List.all_cons,yco]; rfl)
 simp only[lowR,List.map_cons,List.map_nil,h]
 rfl
theorem yB1(p:Int×Dig)(a:Int)(d:Dig):stO (some (boxV p)) 33 0 (.agg (.int .i64 a::digC d))=some (boxV (a,d)):=
 yi1 1 _ _ 33 (by simp[yaa]) (by simp[yaa]) (by rw[List.all_cons,yeu (fun _=>rfl)]; rfl)
theorem yCr(p:Int×Dig):ldO (some (boxV p)) 33 true 0=some (verD p):=yh0 1 false _ 33 (by simp[yaa])
theorem Ytj(cl:Dig×Dig):ldO (some (boxC cl)) 64 true 0=some (clD cl):=Ym8 false cl
theorem yF8(a:Int)(d:Dig):yam (.int .i64 0::digC yab) [(0,1,.int .i64 a),(1,32,digD d)]=some (.int .i64 a::digC d):=by
 refine(yci (cs:=.int .i64 0::digC yab) (cs':=.int .i64 a::digC yab) (A:=[]) (B:=[.int .i64 0]) (xs:=[.int .i64 a]) rfl rfl rfl rfl rfl rfl rfl).trans ?_
 refine(yci (cs:=.int .i64 a::digC yab) (cs':=.int .i64 a::digC d) (A:=[.int .i64 a]) (B:=digC yab) (C:=[]) (xs:=digC d) (by simp) (by simp) rfl (yaa _) rfl (yaa _) (yeu (fun _=>rfl) d)).trans ?_
 rfl
theorem yDs(n:Nat)(p:Int×Dig)(e:Int):lowR n (.tup [verD p,.int .i64 e])=.tup [verD p,.int .i64 e]:=Yfm n p.1 p.2 e
set_option maxHeartbeats 4000000 in
set_option maxRecDepth 20000 in
theorem yQa(f:Nat)(hf:f<5000000)(sp:List D→St→Option (D×St))(hc:IContract Tryz.prog GG f sp):IContract Tryz.prog GG 45 (yqr f sp):=by
 refine yk6 (T:=tb [] [(f,sp)]) yxa (yao all_nil (all_cons hc all_nil)) ?_
 intro ds st r hr
 obtain⟨cl,caps,d,e,hok,rfl,h2,rfl⟩:=yca hr
 unfold yqn
 have hT:(tb [] [(f,sp)]).i f=some sp:=by rw[tb_i,yIt,if_pos rfl]
 have hcl:cloD (tb [] [(f,sp)]) (.clo f caps)=some (sp,[],caps):=by rw[Yak _ _ _ hf,hT]; rfl
 have hz:(.int .i64 0::digC yab:List D)=(.int .i64 0::digC yab:List D):=rfl
 simp (disch:=first|omega|decide) only[push_cast,↓reduceIte,Nat.reduceEqDiff,Int.reduceNeg,Yb4,hcl,List.append_assoc,List.cons_append,List.nil_append]
 rw[show st++[⟨false,1,digC cl.1++digC cl.2,false⟩,⟨false,1,.int .i64 0::digC yab,false⟩]=st++[boxC cl,boxV (0,yab)]from rfl,h2]
 simp (disch:=first|omega|decide) only[push_cast,↓reduceIte,Nat.reduceEqDiff,Nat.reduceAdd,Int.reduceNeg,List.append_assoc,List.cons_append,List.nil_append,List.length_append,List.length_cons,List.length_nil,Nat.zero_add,Nat.reduceAdd,getR,setR]
 by_cases he:e=0
 ·subst he
  have hS3:StOK (st++[boxC cl,boxV (0,yab),⟨false,1,digC d,false⟩]):=ypj hok _ (fun o ho=>by
   simp only[List.mem_cons,List.not_mem_nil,or_false]at ho
   rcases ho with rfl | rfl | rfl
   ·exact yjv cl
   ·exact ym0 _
   ·exact yco d)
  have hl3:(st++[boxC cl,boxV (0,yab),⟨false,1,digC d,false⟩]).length=st.length+3:=by simp
  have k1:st.length+1<st.length+3:=by omega
  have k2:st.length+2<st.length+3:=by omega
  have hR:∀ (fr:Frame) (l:St),(yAa fr [4,6,19,20]).all (fun k=>decide (k<st.length+3))=true→restrict [4,6,19,20] (st++[boxC cl,boxV (0,yab),⟨false,1,digC d,false⟩]).length ⟨fr,st++boxC cl::boxV (0,yab)::⟨false,1,digC d,false⟩::l⟩=⟨mkF (ypb fr (st.length+3) [] [4,6,19,20]),st++[boxC cl,boxV (0,yab),⟨false,1,digC d,false⟩]⟩:=fun fr l h=>by
   have:=yrj (keep:=[4,6,19,20]) (fr:=fr) (l:=l) hS3 hl3.symm (fun k hk=>of_decide_eq_true (List.all_eq_true.1 h k hk))
   rw[List.append_assoc]at this
   rw[hl3]
   exact this
  have hR':=hR
  simp only[hl3]at hR'
  simp (disch:=first|omega|decide) only[push_cast,↓reduceIte,Nat.reduceEqDiff,Int.reduceNeg,ycg,Ytj]
  refine ybs (fun i:Nat=>[(4,.ptr (st.length+1) 0),(6,.ptr (st.length+2) 0),(19,clD cl),(20,.int .i64 (i:Int))]) (fun _=>st++[boxC cl,boxV (0,yab),⟨false,1,digC d,false⟩])
   (fun i=>i≤2∧(0<i→¬ cl.1=d)∧(1<i→¬ cl.2=d)) (fun i=>2 - i) 0 ?_ ⟨by omega,fun h=>absurd h (by omega),fun h=>absurd h (by omega)⟩ ?_
  ·simp (disch:=first | omega | decide | (simp only[push_cast,↓yal,↓reduceIte,Nat.reduceEqDiff,Nat.reduceLT,Nat.reduceLeDiff,Nat.reduceAdd,Nat.reduceSub,Nat.reduceMul,Nat.reduceBEq,Int.reduceLT,Int.reduceLE,Int.reduceToNat,Int.reduceNeg,Int.reducePow,Int.reduceAdd,Int.reduceMul,Int.reduceSub,↓Int.reduceNatCast',Yob,k1,k2,decide_true]; done)) only[push_cast,↓reduceIte,Nat.reduceEqDiff,↓Int.reduceNatCast',↓hR,yWj,yr8]
  rintro i ⟨hi,h0,h1⟩
  unfold ylu
  match i,hi,h0,h1 with
  |0,_,_,_=>
   have c0:=cl_0 cl
   by_cases q:cl.1=d
   ·rw[show yip cl (d,0)=(0,d) by unfold yip yzz; rw[if_pos rfl,if_pos q]]
    simp (disch:=first|omega|decide) only[push_cast,↓reduceIte,Nat.reduceEqDiff,Nat.reduceAdd,Int.reduceLT,Int.reduceNeg,↓Int.reduceNatCast',List.append_assoc,List.cons_append,List.nil_append,List.length_append,List.length_cons,List.length_nil,Nat.zero_add,Nat.reduceAdd,getR,setR,c0,q,yF8,yB1,yCr,yDs,yez,yAw hok]
    trace_state
   ·simp (disch:=first | omega | decide | (simp only[push_cast,↓yal,↓reduceIte,Nat.reduceEqDiff,Nat.reduceLT,Nat.reduceLeDiff,Nat.reduceAdd,Nat.reduceSub,Nat.reduceMul,Nat.reduceBEq,Int.reduceLT,Int.reduceLE,Int.reduceToNat,Int.reduceNeg,Int.reducePow,Int.reduceAdd,Int.reduceMul,Int.reduceSub,↓Int.reduceNatCast',Yob,k1,k2,decide_true]; done)) only[push_cast,↓reduceIte,Nat.reduceEqDiff,Nat.reduceAdd,Int.reduceLT,Int.reduceAdd,↓Int.reduceNatCast',↓hR',yWj,yr8,List.append_assoc,List.cons_append,List.nil_append,List.length_append,List.length_cons,List.length_nil,Nat.zero_add,Nat.reduceAdd,getR,setR,c0,q,yax]
    refine yai 1 (by exact⟨by omega,fun _=>q,fun h=>absurd h (by omega)⟩) (by omega) ?_
    simp (disch:=first|omega|decide) only[push_cast,↓Int.reduceNatCast'] <;> rfl
  |1,_,h0,_=>
   have c1:=cl_1 cl
   have q0:=h0 (by omega)
   by_cases q:cl.2=d
   ·rw[show yip cl (d,0)=(1,d) by unfold yip yzz; rw[if_pos rfl,if_neg q0,if_pos q]]
    simp (disch:=first|omega|decide) only[push_cast,↓reduceIte,Nat.reduceEqDiff,Nat.reduceAdd,Int.reduceLT,Int.reduceNeg,↓Int.reduceNatCast',List.append_assoc,List.cons_append,List.nil_append,List.length_append,List.length_cons,List.length_nil,Nat.zero_add,Nat.reduceAdd,getR,setR,c1,q,yF8,yB1,yCr,yDs,yez,yAw hok]
   ·simp (disch:=first | omega | decide | (simp only[push_cast,↓yal,↓reduceIte,Nat.reduceEqDiff,Nat.reduceLT,Nat.reduceLeDiff,Nat.reduceAdd,Nat.reduceSub,Nat.reduceMul,Nat.reduceBEq,Int.reduceLT,Int.reduceLE,Int.reduceToNat,Int.reduceNeg,Int.reducePow,Int.reduceAdd,Int.reduceMul,Int.reduceSub,↓Int.reduceNatCast',Yob,k1,k2,decide_true]; done)) only[push_cast,↓reduceIte,Nat.reduceEqDiff,Nat.reduceAdd,Int.reduceLT,Int.reduceAdd,↓Int.reduceNatCast',↓hR',yWj,yr8,List.append_assoc,List.cons_append,List.nil_append,List.length_append,List.length_cons,List.length_nil,Nat.zero_add,Nat.reduceAdd,getR,setR,c1,q,yax]
    refine yai 2 (by exact⟨by omega,fun _=>q0,fun _=>q⟩) (by omega) ?_
    simp (disch:=first|omega|decide) only[push_cast,↓Int.reduceNatCast'] <;> rfl
  |2,_,h0,h1=>
   rw[show yip cl (d,0)=(-1,d) by unfold yip yzz; rw[if_pos rfl,if_neg (h0 (by omega)),if_neg (h1 (by omega))]]
   simp (disch:=first|omega|decide) only[push_cast,↓reduceIte,Nat.reduceEqDiff,Nat.reduceAdd,Int.reduceLT,Int.reduceNeg,↓Int.reduceNatCast',List.length_append,List.length_cons,List.length_nil,Nat.zero_add,Nat.reduceAdd,getR,setR,yF8,yB1,yCr,yDs,yez,yAw hok]
 ·have hv:yip cl (d,e)=(0,yab):=if_neg he
  rw[hv]
  simp (disch:=first|omega|decide) only[push_cast,↓reduceIte,Nat.reduceEqDiff,Int.reduceNeg,he,getR,setR,yAw hok,yB1,yCr,yDs,yAk,yez]
theorem yQb(c:List Ins):([.slc (nz 3 (c.map insD)) (c.map insD) false]:List D).all yaq=true:=by
 simp[yaq,yuc]
def yef(c:List Ins)(v:Int×List Int):Dig×Int:=if c.length=0 then(padL,0)else if(ycc c).2≠0 then(yab,(ycc c).2)else(digF c v (yrh (c.length+1)),0)
def f1R(ds:List D)(st:St)(r:D×St):Prop:=∃ (kc kv:Nat) (c:List Ins) (v:Int×List Int) (lc lv:Bool),StOK st∧ds=[.ptr kc 0,.ptr kv 0]∧st[kc]?=some ⟨false,1,[cdD c],lc⟩∧st[kv]?=some ⟨false,1,evC v,lv⟩∧c.length≤9223372036854775807∧vOK v∧
 r=(.tup [digD (yef c v).1,.int .i64 (yef c v).2],st)
theorem Yuv:Fun1 f1R:=by
 rintro ds st r r' ⟨kc,kv,c,v,lc,lv,_,rfl,h1,h2,_,_,rfl⟩ ⟨kc',kv',c',v',lc',lv',_,h,h1',h2',_,_,rfl⟩
 simp only[List.cons.injEq,D.ptr.injEq,and_true]at h
 obtain⟨rfl,rfl⟩:=h
 rw[h1]at h1'
 rw[h2]at h2'
 simp only[Ywe,Obj.mk.injEq,List.cons.injEq,and_true,true_and,Yav]at h1' h2'
 obtain⟨rfl,_⟩:=h1'
 obtain rfl:v=v':=yh2.1 (congrArg D.agg h2'.1)
 rfl
noncomputable def Ydw:List D→St→Option (D×St):=relI f1R
theorem ynr(n:Nat)(d:Dig)(e:Int):lowR n (.tup [digD d,.int .i64 e])=.tup [digD d,.int .i64 e]:=by
 have h:low n (digD d)=digD d:=by rw[← yLw]; exact yOg n [] d
 simp only[lowR,List.map_cons,List.map_nil,h]
 rfl
theorem yK7(a d:Dig):stO (some ⟨false,1,digC a,false⟩) 32 0 (digD d)=some ⟨false,1,digC d,false⟩:=yi1 1 _ _ 32 (yaa _) (yaa _) (yeu (fun _=>rfl) d)
set_option maxHeartbeats 4000000 in
set_option maxRecDepth 20000 in
theorem ci_f1:IContract Tryz.prog GG 46 Ydw:=by
 refine yk6 (T:=tb [(20,yvn),(47,yEd),(48,yEf),(49,yLd)] []) yth (yao (all_cons yQi (all_cons Yjz (all_cons Ypj (all_cons Yvf all_nil)))) all_nil) ?_
 intro ds st r hr
 obtain⟨kc,kv,c,v,lc,lv,hok,rfl,h1,h2,hc,hv,rfl⟩:=yca hr
 have hk1:∀ l:St,(st++l)[kc]?=some ⟨false,1,[.slc (nz 3 (c.map insD)) (c.map insD) false],lc⟩:=fun l=>by
  rw[List.getElem?_append_left (List.getElem?_eq_some_iff.1 h1).1]; exact h1
 have hk2:∀ l:St,(st++l)[kv]?=some ⟨false,1,evC v,lv⟩:=fun l=>by
  rw[List.getElem?_append_left (List.getElem?_eq_some_iff.1 h2).1]; exact h2
 have cv:=yJ5 c hc
 have cp:=yqb
 unfold ync
 by_cases q1:c.length=0
 ·rw[show yef c v=(padL,0)from if_pos q1]
  have q1':(c.length:Int)=0:=by omega
  simp (disch:=first|omega|decide) only[push_cast,↓reduceIte,Nat.reduceEqDiff,hk1,q1',cp,ycg,ycn,ynr,yAw hok,yez,yK7]
 by_cases q2:(ycc c).2=0
 ·rw[show yef c v=(digF c v (yrh (c.length+1)),0) by unfold yef; rw[if_neg q1,if_neg (by simp[q2])]]
  have q1':¬ (c.length:Int)=0:=by omega
  obtain⟨hc2,_⟩:=yGz q2
  have cs:=yT3 ((c.length:Int)+1)
  rw[show yyw ((c.length:Int)+1)=0 from if_neg (by omega)]at cs
  have cd:=Ya2 c v (yrh ((c.length:Int)+1)) ⟨by omega,hv,by
   rw[show yrh ((c.length:Int)+1)={zSta with fuel:=(c.length:Int)+1} from if_neg (by omega)]; exact Nat.zero_le _⟩
  simp (disch:=first|omega|decide) only[push_cast,↓reduceIte,Nat.reduceEqDiff,hk1,hk2,q1',q2,cv,cs,cd,yax,yev,yph,yop,ypa hv,yba,ynx,List.append_assoc,List.cons_append,List.nil_append,List.length_append,List.length_cons,List.length_nil,Nat.zero_add,getR,setR,ycg,ycn,ynr,yAw hok,yez,yK7]
 ·rw[show yef c v=(yab,(ycc c).2) by unfold yef; rw[if_neg q1,if_pos q2]]
  have q1':¬ (c.length:Int)=0:=by omega
  simp (disch:=first|omega|decide) only[push_cast,↓reduceIte,Nat.reduceEqDiff,hk1,q1',q2,cv,List.nil_append,ycg,ycn,ynr,yAw hok,yez,yK7,yAk]
noncomputable def ytv:List D→Option D:=spOf (α:=List Ins×(Int×List Int)×(Dig×Dig)) (fun a=>[.slc (nz 3 (a.1.map insD)) (a.1.map insD) false,evD a.2.1,clD a.2.2]) (fun a=>a.1.length≤9223372036854775807∧vOK a.2.1) (fun a=>.tup [verD (yip a.2.2 (yef a.1 a.2.1)),.int .i64 (yef a.1 a.2.1).2])
theorem yNd(c:List Ins)(v:Int×List Int)(cl:Dig×Dig)(h:c.length≤9223372036854775807∧vOK v):ytv [.slc (nz 3 (c.map insD)) (c.map insD) false,evD v,clD cl]=some (.tup [verD (yip cl (yef c v)),.int .i64 (yef c v).2]):=
 yae (fun⟨a0,a1,a2⟩ ⟨b0,b1,b2⟩ h=>by simp only[List.cons.injEq,D.slc.injEq,and_true,yea,yh2,yM9]at h; simp[h]) (c,v,cl) h
set_option maxHeartbeats 4000000 in
set_option maxRecDepth 20000 in
theorem Ycz(c:List Ins)(v:Int×List Int)(cl:Dig×Dig)(h:c.length≤9223372036854775807∧vOK v):@wW GG (tb [] [(45,yqr 46 Ydw)]) yhl.code (argF [.slc (nz 3 (c.map insD)) (c.map insD) false,evD v,clD cl]) [] ⟨retQ yhl.res (.tup [verD (yip cl (yef c v)),.int .i64 (yef c v).2])⟩:=by
 obtain⟨hc,hv⟩:=h
 unfold yhl
 have hcl:(digC cl.1++digC cl.2).all yaq=true:=yjv cl
 have hok:StOK [⟨false,1,[.slc (nz 3 (c.map insD)) (c.map insD) false],false⟩,⟨false,1,evC v,false⟩,boxC cl,boxV (0,yab)]:=by
  refine ypj (S:=[]) (fun o ho=>by cases ho) _ (fun o ho=>?_)
  simp only[List.mem_cons,List.not_mem_nil,or_false]at ho
  rcases ho with rfl | rfl | rfl | rfl
  ·exact yQb c
  ·exact yuq v
  ·exact yjv cl
  ·exact ym0 _
 have hok2:=ypj hok [boxC cl,boxV (0,yab)] (fun o ho=>by
  simp only[List.mem_cons,List.not_mem_nil,or_false]at ho
  rcases ho with rfl | rfl
  ·exact yjv cl
  ·exact ym0 _)
 have hj:yqr 46 Ydw [clD cl,.clo 46 [.ptr 0 0,.ptr 1 0]] [⟨false,1,[.slc (nz 3 (c.map insD)) (c.map insD) false],false⟩,⟨false,1,evC v,false⟩,boxC cl,boxV (0,yab)]=some (.tup [verD (yip cl (yef c v)),.int .i64 (yef c v).2],[⟨false,1,[.slc (nz 3 (c.map insD)) (c.map insD) false],false⟩,⟨false,1,evC v,false⟩,boxC cl,boxV (0,yab)]):=
  yhx (yI6 _ _) ⟨cl,[.ptr 0 0,.ptr 1 0],(yef c v).1,(yef c v).2,hok,rfl,yhx Yuv ⟨0,1,c,v,false,false,hok2,rfl,rfl,rfl,hc,hv,rfl⟩,rfl⟩
 have sv:=yB1 (0,yab)
 have lv:=yCr
 simp only[boxC,boxV,verD]at hj sv lv
 simp (disch:=first|omega|decide) only[push_cast,↓reduceIte,Nat.reduceEqDiff,Nat.reduceAdd,ydp,Yb4,Ym8,hj,verD,sv,lv]
theorem Yh8:Contract Tryz.prog GG 14 ytv:=
 yac (T:=tb [] [(45,yqr 46 Ydw)]) yxb (yao all_nil (all_cons (yQa _ (by decide) _ ci_f1) all_nil)) (fun a h=>Ycz a.1 a.2.1 a.2.2 h)
theorem Yqh(v:Int×List Int)(b:Int)(s:Sta)(x:Ins):(advF v b s x).stack.length≤s.stack.length+1:=by
 have h:∀ o:Out,(outS (decS s) o).stack.length≤s.stack.length+1:=by
  intro o
  cases o with
  |err e=>exact Nat.le_succ _
  |set p t c=>exact Nat.le_succ _
  |pop k push pc=>
   show(s.stack.take (s.stack.length - k)++push.toList).length≤_
   rw[List.length_append,List.length_take]
   have:push.toList.length≤1:=by cases push <;> simp
   omega
 unfold advF
 split
 ·exact Nat.le_succ _
 ·exact h _
theorem yVf(c:List Ins)(v:Int×List Int)(o:Opn):(ypf c v o).top.length≤o.top.length+1:=by
 unfold ypf
 split
 ·exact Yqh v o.depth (opS o) _
 ·simp[zOpn]
def yej(c:List Ins)(v:Int×List Int)(b:Dig)(o:Opn):Dig×Int:=if b=padL then(b,0)else if ycx c v o≠b then(yab,390)else if o.status≠0 then(padL,0)else(ycx c v (ypf c v o),ypg c o)
def s1R(ds:List D)(st:St)(r:D×St):Prop:=∃ (kb kc kv ko:Nat) (b:Dig) (c:List Ins) (v:Int×List Int) (o:Opn) (lb lc lv lo:Bool),StOK st∧ds=[.ptr kb 0,.ptr kc 0,.ptr kv 0,.ptr ko 0]∧st[kb]?=some ⟨false,1,digC b,lb⟩∧st[kc]?=some ⟨false,1,[cdD c],lc⟩∧st[kv]?=some ⟨false,1,evC v,lv⟩∧st[ko]?=some ⟨false,1,opnC o,lo⟩∧c.length≤4294967296∧vOK v∧o.top.length≤4294967295∧
 r=(.tup [digD (yej c v b o).1,.int .i64 (yej c v b o).2],st)
theorem Ysl:Fun1 s1R:=by
 rintro ds st r r' ⟨kb,kc,kv,ko,b,c,v,o,lb,lc,lv,lo,_,rfl,h0,h1,h2,h3,_,_,_,rfl⟩ ⟨kb',kc',kv',ko',b',c',v',o',lb',lc',lv',lo',_,h,h0',h1',h2',h3',_,_,_,rfl⟩
 simp only[List.cons.injEq,D.ptr.injEq,and_true]at h
 obtain⟨rfl,rfl,rfl,rfl⟩:=h
 rw[h0]at h0'
 rw[h1]at h1'
 rw[h2]at h2'
 rw[h3]at h3'
 simp only[Ywe,Obj.mk.injEq,List.cons.injEq,and_true,true_and,Yav,yk9]at h0' h1' h2' h3'
 obtain⟨rfl,_⟩:=h0'
 obtain⟨rfl,_⟩:=h1'
 obtain rfl:v=v':=yh2.1 (congrArg D.agg h2'.1)
 obtain rfl:o=o':=yqt.1 (congrArg D.agg h3'.1)
 rfl
noncomputable def Ylu:List D→St→Option (D×St):=relI s1R
theorem Yf1(lent:Bool)(d:Dig):ldO (some ⟨false,1,digC d,lent⟩) 32 true 0=some (digD d):=yh0 1 lent _ 32 (yaa d)
theorem ycp(lent:Bool)(o:Opn):ldO (some ⟨false,1,opnC o,lent⟩) 38 true 0=some (opnD o):=by rw[opnD,yj3]; exact ySw ..
theorem ylz(lent:Bool)(o:Opn):ldO (some ⟨false,1,opnC o,lent⟩) 1 false 2=some (.int .i64 o.status):=by rw[yj3]; exact yYj ..
theorem yc3(o:Opn):stO (some ⟨false,1,opC 0 0 0 0 (.slc 0 [] true) 0 yab,false⟩) 38 0 (opnD o)=some ⟨false,1,opnC o,false⟩:=by rw[opnD,yj3]; exact yHn ..
set_option maxHeartbeats 8000000 in
set_option maxRecDepth 20000 in
theorem ci_s1:IContract Tryz.prog GG 54 Ylu:=by
 refine yk6 (T:=tb [(20,yvn),(40,yyx),(55,yEe)] []) yvg (yao (all_cons yQi (all_cons Yjy (all_cons Ypi all_nil))) all_nil) ?_
 intro ds st r hr
 obtain⟨kb,kc,kv,ko,b,c,v,o,lb,lc,lv,lo,hok,rfl,h0,h1,h2,h3,hc,hv,hto,rfl⟩:=yca hr
 have hk0:∀ l:St,(st++l)[kb]?=some ⟨false,1,digC b,lb⟩:=fun l=>by
  rw[List.getElem?_append_left (List.getElem?_eq_some_iff.1 h0).1]; exact h0
 have hk1:∀ l:St,(st++l)[kc]?=some ⟨false,1,[.slc (nz 3 (c.map insD)) (c.map insD) false],lc⟩:=fun l=>by
  rw[List.getElem?_append_left (List.getElem?_eq_some_iff.1 h1).1]; exact h1
 have hk2:∀ l:St,(st++l)[kv]?=some ⟨false,1,evC v,lv⟩:=fun l=>by
  rw[List.getElem?_append_left (List.getElem?_eq_some_iff.1 h2).1]; exact h2
 have hk3:∀ l:St,(st++l)[ko]?=some ⟨false,1,opnC o,lo⟩:=fun l=>by
  rw[List.getElem?_append_left (List.getElem?_eq_some_iff.1 h3).1]; exact h3
 have cp:=yqb
 have cc:=yA2 c v o ⟨hc,hv,by omega⟩
 have co:=yT2 c v o ⟨hc,hv⟩
 have hlo:=yVf c v o
 have cc2:=yA2 c v (ypf c v o) ⟨hc,hv,by omega⟩
 unfold yoy
 by_cases q1:b=padL
 ·rw[show yej c v b o=(b,0)from if_pos q1]
  simp (disch:=first|omega|decide) only[push_cast,↓reduceIte,Nat.reduceEqDiff,hk0,Yf1,q1,cp,ycg,ycn,ynr,yAw hok,yez,yK7]
 by_cases q2:ycx c v o=b
 ·by_cases q3:o.status=0
  ·rw[show yej c v b o=(ycx c v (ypf c v o),ypg c o) by unfold yej; rw[if_neg q1,if_neg (by simp[q2]),if_neg (by simp[q3])]]
   simp (disch:=first|omega|decide) only[push_cast,↓reduceIte,Nat.reduceEqDiff,hk0,hk1,hk2,hk3,Yf1,q1,q2,q3,cp,cc,cc2,co,ypa hv,yba,yby,ya5,ydb,ycp,ylz,yc3,ysc,ya8,List.append_assoc,List.cons_append,List.nil_append,List.length_append,List.length_cons,List.length_nil,Nat.zero_add,getR,setR,ycg,ycn,ynr,yAw hok,yez,yK7]
  ·rw[show yej c v b o=(padL,0) by unfold yej; rw[if_neg q1,if_neg (by simp[q2]),if_pos q3]]
   simp (disch:=first|omega|decide) only[push_cast,↓reduceIte,Nat.reduceEqDiff,hk0,hk1,hk2,hk3,Yf1,q1,q2,q3,cp,cc,ypa hv,yba,ya5,ycp,ylz,Nat.zero_add,ycg,ycn,ynr,yAw hok,yez,yK7]
 ·rw[show yej c v b o=(yab,390) by unfold yej; rw[if_neg q1,if_pos q2]]
  simp (disch:=first|omega|decide) only[push_cast,↓reduceIte,Nat.reduceEqDiff,hk0,hk1,hk2,hk3,Yf1,q1,q2,cp,cc,ypa hv,yba,ya5,ycp,ycg,ycn,ynr,yAw hok,yez,yK7,yAk]
noncomputable def ytu:List D→Option D:=spOf (α:=List Ins×(Int×List Int)×Dig×(Dig×Dig)×Opn) (fun a=>[.slc (nz 3 (a.1.map insD)) (a.1.map insD) false,evD a.2.1,digD a.2.2.1,clD a.2.2.2.1,opnD a.2.2.2.2]) (fun a=>a.1.length≤4294967296∧vOK a.2.1∧a.2.2.2.2.top.length≤4294967295) (fun a=>.tup [verD (yip a.2.2.2.1 (yej a.1 a.2.1 a.2.2.1 a.2.2.2.2)),.int .i64 (yej a.1 a.2.1 a.2.2.1 a.2.2.2.2).2])
theorem yDj(c:List Ins)(v:Int×List Int)(b:Dig)(cl:Dig×Dig)(o:Opn)(h:c.length≤4294967296∧vOK v∧o.top.length≤4294967295):ytu [.slc (nz 3 (c.map insD)) (c.map insD) false,evD v,digD b,clD cl,opnD o]=some (.tup [verD (yip cl (yej c v b o)),.int .i64 (yej c v b o).2]):=
 yae (fun⟨a0,a1,a2,a3,a4⟩ ⟨b0,b1,b2,b3,b4⟩ h=>by simp only[List.cons.injEq,D.slc.injEq,yl5,and_true,yea,yqt,yh2,yM9]at h; simp[h]) (c,v,b,cl,o) h
noncomputable def stpT:Tbl:=tb [] [(45,yqr 54 Ylu)]
set_option maxHeartbeats 8000000 in
set_option maxRecDepth 20000 in
theorem Ykw(c:List Ins)(v:Int×List Int)(b:Dig)(cl:Dig×Dig)(o:Opn)(h:c.length≤4294967296∧vOK v∧o.top.length≤4294967295):@wW GG stpT yin.code (argF [.slc (nz 3 (c.map insD)) (c.map insD) false,evD v,digD b,clD cl,opnD o]) [] ⟨retQ yin.res (.tup [verD (yip cl (yej c v b o)),.int .i64 (yej c v b o).2])⟩:=by
 obtain⟨hc,hv,hto⟩:=h
 unfold yin
 have hos:(opnC o).all yaq=true:=by
  rw[yj3]
  simp only[opC,List.all_cons,yco]
  simp[yaq,ybq,yuc]
 have hok:StOK [⟨false,1,[.slc (nz 3 (c.map insD)) (c.map insD) false],false⟩,⟨false,1,evC v,false⟩,⟨false,1,digC b,false⟩,boxC cl,⟨false,1,opnC o,false⟩,boxV (0,yab)]:=by
  refine ypj (S:=[]) (fun o ho=>by cases ho) _ (fun x ho=>?_)
  simp only[List.mem_cons,List.not_mem_nil,or_false]at ho
  rcases ho with rfl | rfl | rfl | rfl | rfl | rfl
  ·exact yQb c
  ·exact yuq v
  ·exact yco b
  ·exact yjv cl
  ·exact hos
  ·exact ym0 _
 have hok2:=ypj hok [boxC cl,boxV (0,yab)] (fun o ho=>by
  simp only[List.mem_cons,List.not_mem_nil,or_false]at ho
  rcases ho with rfl | rfl
  ·exact yjv cl
  ·exact ym0 _)
 have hj:yqr 54 Ylu [clD cl,.clo 54 [.ptr 2 0,.ptr 0 0,.ptr 1 0,.ptr 4 0]] [⟨false,1,[.slc (nz 3 (c.map insD)) (c.map insD) false],false⟩,⟨false,1,evC v,false⟩,⟨false,1,digC b,false⟩,boxC cl,⟨false,1,opnC o,false⟩,boxV (0,yab)]=some (.tup [verD (yip cl (yej c v b o)),.int .i64 (yej c v b o).2],[⟨false,1,[.slc (nz 3 (c.map insD)) (c.map insD) false],false⟩,⟨false,1,evC v,false⟩,⟨false,1,digC b,false⟩,boxC cl,⟨false,1,opnC o,false⟩,boxV (0,yab)]):=
  yhx (yI6 _ _) ⟨cl,[.ptr 2 0,.ptr 0 0,.ptr 1 0,.ptr 4 0],(yej c v b o).1,(yej c v b o).2,hok,rfl,yhx Ysl ⟨2,0,1,4,b,c,v,o,false,false,false,false,hok2,rfl,rfl,rfl,rfl,rfl,hc,hv,hto,rfl⟩,rfl⟩
 have sv:=yB1 (0,yab)
 have lv:=yCr
 simp only[boxC,boxV,verD]at hj sv lv
 simp (disch:=first|omega|decide) only[push_cast,↓reduceIte,Nat.reduceEqDiff,Nat.reduceAdd,stpT,ydp,Yb4,yl6,Ym8,hj,verD,sv,lv]
theorem Ypu:Contract Tryz.prog GG 16 ytu:=
 yac (T:=stpT) yyp (yao all_nil (all_cons (yQa _ (by decide) _ ci_s1) all_nil)) (fun a h=>Ykw a.1 a.2.1 a.2.2.1 a.2.2.2.1 a.2.2.2.2 h)
noncomputable def Ydp:List D→Option D:=spOf (α:=Int×Dig×List Dig) (fun a=>[.int .i64 a.1,digD a.2.1,.slc (nz 32 (a.2.2.map digD)) (a.2.2.map digD) false]) (fun a=>0≤a.1∧a.1<4611686018427387904∧a.2.2.length≤4294967296) (fun a=>digD (yuu a.1.toNat a.2.1 a.2.2))
theorem Yqs(i:Int)(x:Dig)(p:List Dig)(h:0≤i∧i<4611686018427387904∧p.length≤4294967296):Ydp [.int .i64 i,digD x,.slc (nz 32 (p.map digD)) (p.map digD) false]=some (digD (yuu i.toNat x p)):=
 yae (fun⟨a0,a1,a2⟩ ⟨b0,b1,b2⟩ h=>by simp only[List.cons.injEq,D.slc.injEq,D.int.injEq,yGf,yl5,true_and,and_true]at h; simp[h]) (i,x,p) h
noncomputable def yey:List D→Option D:=spOf (α:=(Int×Dig)×Int×Dig×List Dig) (fun a=>[.agg (.int .i64 (Prod.fst a.1)::digC (Prod.snd a.1)),.int .i64 a.2.1,digD a.2.2.1,.slc (nz 32 (a.2.2.2.map digD)) (a.2.2.2.map digD) false]) (fun a=>-9223372036854775808≤a.2.1∧a.2.1<9223372036854775808) (fun a=>.bool (yaz a.1 a.2.1 a.2.2.1 a.2.2.2))
theorem yic(c:Int×Dig)(i:Int)(x:Dig)(p:List Dig)(h:-9223372036854775808≤i∧i<9223372036854775808):yey [.agg (.int .i64 (Prod.fst c)::digC (Prod.snd c)),.int .i64 i,digD x,.slc (nz 32 (p.map digD)) (p.map digD) false]=some (.bool (yaz c i x p)):=
 yae (fun⟨a0,a1,a2,a3⟩ ⟨b0,b1,b2,b3⟩ h=>by simp only[List.cons.injEq,D.slc.injEq,D.int.injEq,D.agg.injEq,yGf,yl5,yk9,true_and,and_true]at h; simp[h,Prod.ext_iff]) (c,i,x,p) h
set_option maxHeartbeats 4000000 in
set_option maxRecDepth 20000 in
theorem yKx(c:Int×Dig)(i:Int)(x:Dig)(p:List Dig)(h:-9223372036854775808≤i∧i<9223372036854775808):@wW GG (tb [(25,yme),(95,ymd)] []) yfn.code (argF [.agg (.int .i64 (Prod.fst c)::digC (Prod.snd c)),.int .i64 i,digD x,.slc (nz 32 (p.map digD)) (p.map digD) false]) [] ⟨retQ yfn.res (.bool (yaz c i x p))⟩:=by
 obtain⟨n,r⟩:=c
 unfold yfn
 simp (disch:=omega) only[push_cast,↓reduceIte,Nat.reduceEqDiff,ye8]
 refine yag (fun h1=>?_) (fun h1=>?_)
 ·have e:yaz (n,r) i x p=false:=by unfold yaz; simp; omega
  simp (disch:=omega) only[push_cast,↓reduceIte,Nat.reduceEqDiff,h1,e]
 ·have hd:0≤n∧n≤65536:=by
   by_cases hb:n<0∨65536<n
   ·rw[ymv hb]at h1; omega
   ·omega
  obtain⟨e1,e2,e3⟩:=yut hd.1 hd.2
  simp (disch:=omega) only[push_cast,↓reduceIte,Nat.reduceEqDiff,h1]
  refine yag (fun h2=>?_) (fun h2=>?_)
  ·have e:yaz (n,r) i x p=false:=by unfold yaz; simp; omega
   simp (disch:=omega) only[push_cast,↓reduceIte,Nat.reduceEqDiff,h2,e]
  ·simp (disch:=omega) only[push_cast,↓reduceIte,Nat.reduceEqDiff,h2,Ylw]
   refine yag (fun h3=>?_) (fun h3=>?_)
   ·have e:yaz (n,r) i x p=false:=by unfold yaz; simp; omega
    simp (disch:=omega) only[push_cast,↓reduceIte,Nat.reduceEqDiff,h3,e]
   ·simp (disch:=omega) only[push_cast,↓reduceIte,Nat.reduceEqDiff,h3]
    refine yag (fun h4=>?_) (fun h4=>?_)
    ·have e:yaz (n,r) i x p=decide (yuu i.toNat x p=r):=by
      unfold yaz
      simp only[show 0≤yan n from e2,show 0≤i by omega,show i<2 ^ (yan n).toNat by omega,h4,true_and]
     rw[e]
     simp (disch:=omega) only[push_cast,↓reduceIte,Nat.reduceEqDiff,h4]
     have hp:p.length≤16:=by omega
     have h16:(2:Int) ^ (yan n).toNat≤2 ^ 16:=yFb (by omega)
     refine ybs (fun q:Nat×Dig=>[(1,.int .i64 i),(3,.slc (nz 32 (p.map digD)) (p.map digD) false),(4,.ptr 0 0),(6,.ptr 1 0),(33,.int .i64 (p.length:Int)),(34,.int .i64 (q.1:Int))])
      (fun q=>[⟨false,1,.int .i64 n::digC r,false⟩,⟨false,1,digC q.2,false⟩])
      (fun q=>q.1≤p.length∧yuu i.toNat x p=yuu (i.toNat / 2 ^ q.1) q.2 (p.drop q.1)) (fun q=>p.length - q.1) (0,x) (by simp only[push_cast,↓reduceIte,Nat.reduceEqDiff,Nat.reduceLT,Nat.reduceLeDiff,Nat.reduceAdd,h4] <;> rfl) ⟨Nat.zero_le _,by simp⟩ ?_
     rintro⟨j,y⟩ ⟨h5,h6⟩
     simp only at h5 h6
     unfold yja
     simp only[push_cast,↓reduceIte,Nat.reduceEqDiff]
     refine yag (fun h7=>?_) (fun h7=>?_)
     ·rw[yJs p j (by omega),yuu,Nat.div_div_eq_div_mul,← Nat.pow_succ]at h6
      have h8:=Yeq j
      have h9:0≤i / 2 ^ j:=Int.ediv_nonneg (by omega) (by omega)
      have h10:i / 2 ^ j≤i:=Int.ediv_le_self _ (by omega)
      have h11:(i / 2 ^ j) % 2=((i.toNat / 2 ^ j % 2:Nat):Int):=by
       have:i=(i.toNat:Int):=by omega
       rw[this]; simp
      simp (disch:=omega) only[push_cast,↓reduceIte,Nat.reduceEqDiff,Ylv,Yqd]
      refine yag (fun h12=>?_) (fun h12=>?_)
      ·rw[if_pos (show i.toNat / 2 ^ j % 2=0 by omega)]at h6
       simp (disch:=omega) only[push_cast,↓reduceIte,Nat.reduceEqDiff,Nat.reduceLT,Nat.reduceLeDiff,Nat.reduceAdd,yi5,ybx,yax]
       refine yai (j+1,ydk y (p.getD j default)) ⟨by show j+1≤_; omega,h6⟩ (by show p.length - (j+1)<p.length - j; omega) ?_
       rfl
      ·rw[if_neg (show ¬ i.toNat / 2 ^ j % 2=0 by omega)]at h6
       simp (disch:=omega) only[push_cast,↓reduceIte,Nat.reduceEqDiff,Nat.reduceLT,Nat.reduceLeDiff,Nat.reduceAdd,yi5,ybx,yax]
       refine yai (j+1,ydk (p.getD j default) y) ⟨by show j+1≤_; omega,h6⟩ (by show p.length - (j+1)<p.length - j; omega) ?_
       rfl
     ·rw[List.drop_of_length_le (by omega)]at h6
      have h6:yuu i.toNat x p=y:=h6
      simp (disch:=omega) only[push_cast,↓reduceIte,Nat.reduceEqDiff,Nat.reduceAdd,h6]
    ·have e:yaz (n,r) i x p=false:=by
      unfold yaz
      simp
      intro _ _ _ h5
      exact absurd h5 h4
     simp (disch:=omega) only[push_cast,↓reduceIte,h4,e]
theorem yNg:Contract Tryz.prog GG 124 yey:=
 yac yta (yao (all_cons yx8 (all_cons yA5 all_nil)) all_nil) (fun a h=>yKx a.1 a.2.1 a.2.2.1 a.2.2.2 h)
set_option maxHeartbeats 8000000
set_option maxRecDepth 20000
def ykh(x:Bis):Bool:=if x.h<0 then false else if 16<x.h then false else if x.l<0 then false else if x.h<x.l then false else if 0≤x.i then(if x.i<2 ^ (x.h - x.l).toNat then decide (x.r=x.h - x.l)else false)else false
theorem ysw{x:Bis}(h:ykh x=true):0≤x.h∧x.h≤16∧0≤x.l∧x.l≤x.h∧0≤x.i∧x.i<2 ^ (x.h - x.l).toNat∧x.r=x.h - x.l:=by
 unfold ykh at h
 split at h; · cases h
 split at h; · cases h
 split at h; · cases h
 split at h; · cases h
 split at h
 ·split at h
  ·exact⟨by omega,by omega,by omega,by omega,by assumption,by assumption,of_decide_eq_true h⟩
  ·cases h
 ·cases h
theorem yJt{i:Int}{k:Nat}(h0:0≤i):i / 2 ^ k=0↔i<2 ^ k:=by
 have hp:(0:Int)<2 ^ k:=Int.pow_pos (by decide)
 constructor
 ·intro h
  have:=Int.emod_lt_of_pos i hp
  have e:=Int.ediv_mul_add_emod i (2 ^ k)
  rw[h]at e
  omega
 ·intro h
  exact Int.ediv_eq_zero_of_lt h0 h
noncomputable def yts:List D→Option D:=spOf (α:=Bis) (fun a=>[bisD a]) (fun a=>True) (fun a=>.bool (ykh a))
theorem ysr(x:Bis):yts [bisD x]=some (.bool (ykh x)):=
 yae (fun a b h=>by simp only[List.cons.injEq,and_true,yx9]at h; simp[h]) (x) trivial
theorem Ycs(x:Bis):@wW GG (tb [] []) yil.code (argF [bisD x]) [] ⟨retQ yil.res (.bool (ykh x))⟩:=by
 unfold yil ykh
 by_cases h1:x.h<0
 ·simp (disch:=first|omega|decide) only[push_cast,↓reduceIte,Nat.reduceEqDiff,h1]
 by_cases h2:16<x.h
 ·simp (disch:=first|omega|decide) only[push_cast,↓reduceIte,Nat.reduceEqDiff,h1,h2]
 by_cases h3:x.l<0
 ·simp (disch:=first|omega|decide) only[push_cast,↓reduceIte,Nat.reduceEqDiff,h1,h2,h3]
 by_cases h4:x.h<x.l
 ·simp (disch:=first|omega|decide) only[push_cast,↓reduceIte,Nat.reduceEqDiff,h1,h2,h3,h4]
 by_cases h5:0≤x.i
 ·have e:=yJt (k:=(x.h - x.l).toNat) h5
  by_cases h6:x.i<2 ^ (x.h - x.l).toNat
  ·simp (disch:=first|omega|decide) only[push_cast,↓reduceIte,Nat.reduceEqDiff,h1,h2,h3,h4,h5,h6,ydz,Ylv,e]
  ·simp (disch:=first|omega|decide) only[push_cast,↓reduceIte,Nat.reduceEqDiff,h1,h2,h3,h4,h5,h6,ydz,Ylv,e]
 ·simp (disch:=first|omega|decide) only[push_cast,↓reduceIte,Nat.reduceEqDiff,h1,h2,h3,h4,h5]
theorem yQj:Contract Tryz.prog GG 77 yts:=
 yac yyn (yao all_nil all_nil) (fun a h=>Ycs a)
theorem Yqp(n:Int)(h:0≤n∧n≤60):@wW GG (tb [(51,yVn),(162,yB6)] []) yd4.code (argF [.int .i64 n]) [] ⟨retQ yd4.res (digD (padN n.toNat))⟩:=by
 obtain⟨h0,h1⟩:=h
 unfold yd4
 simp (disch:=omega) only[push_cast,↓reduceIte,Nat.reduceEqDiff,Ya7]
 refine ybs (fun i:Nat=>[(0,.int .i64 n),(2,.ptr 0 0),(3,.ptr 1 0),(4,.int .i64 (i:Int))]) (fun i=>[⟨false,1,digC yab,false⟩,⟨false,1,digC (padN i),false⟩]) (fun i=>(i:Int)≤n) (fun i=>(n - i).toNat) 0 (by simp only[push_cast,↓reduceIte,Nat.reduceEqDiff,Nat.reduceLT,Nat.reduceLeDiff,Nat.reduceAdd,↓Int.reduceNatCast'] <;> rfl) (by omega) ?_
 intro i hi
 unfold ye9
 simp (disch:=omega) only[push_cast,↓reduceIte,Nat.reduceEqDiff]
 refine yag (fun h2=>?_) (fun h2=>?_)
 ·simp (disch:=first|omega|decide) only[push_cast,↓reduceIte,Nat.reduceEqDiff,Nat.reduceLT,Nat.reduceLeDiff,Nat.reduceAdd,yKa,yax]
  refine yai (i+1) (by omega) (by omega) ?_
  simp only[push_cast] <;> rfl
 ·have e:n.toNat=i:=by omega
  rw[e]
  simp (disch:=omega) only[push_cast,↓reduceIte,Nat.reduceEqDiff,Nat.reduceAdd,h2]
def padF(s:Int)(root:Dig):Nat→Dig
 |0=>root
 |j+1=>if yan s≤(j:Int)then ydk (padF s root j) (padN j)else padF s root j
noncomputable def yvo:List D→Option D:=spOf (α:=(Int×Dig)×Int) (fun a=>[.agg (.int .i64 (Prod.fst a.1)::digC (Prod.snd a.1)),.int .i64 a.2]) (fun a=>0≤a.2∧a.2≤60) (fun a=>digD (padF a.1.1 a.1.2 a.2.toNat))
theorem yw0(c:Int×Dig)(n:Int)(h:0≤n∧n≤60):yvo [.agg (.int .i64 (Prod.fst c)::digC (Prod.snd c)),.int .i64 n]=some (digD (padF c.1 c.2 n.toNat)):=
 yae (fun⟨a0,a1⟩ ⟨b0,b1⟩ h=>by simp only[List.cons.injEq,D.int.injEq,D.agg.injEq,yk9,true_and,and_true]at h; simp[h,Prod.ext_iff]) (c,n) h
theorem yUv(c:Int×Dig)(n:Int)(h:0≤n∧n≤60):@wW GG (tb [(20,yvn),(95,ymd),(25,yme)] []) yhk.code (argF [.agg (.int .i64 (Prod.fst c)::digC (Prod.snd c)),.int .i64 n]) [] ⟨retQ yhk.res (digD (padF c.1 c.2 n.toNat))⟩:=by
 obtain⟨s,root⟩:=c
 obtain⟨h0,h1⟩:=h
 dsimp only
 unfold yhk
 simp (disch:=omega) only[push_cast,↓yal,↓reduceIte,Nat.reduceEqDiff,Nat.reduceLT,Nat.reduceAdd,yqb,ya7,yPd]
 refine ybs (fun i:Nat=>[(2,.ptr 0 0),(4,.ptr 1 0),(5,.ptr 2 0),(6,.ptr 3 0),(11,.int .i64 n),(12,.int .i64 (i:Int))]) (fun i=>[⟨false,1,.int .i64 s::digC root,false⟩,⟨false,1,digC yab,false⟩,⟨false,1,digC (padF s root i),false⟩,⟨false,1,digC (padN i),false⟩]) (fun i=>(i:Int)≤n) (fun i=>(n - i).toNat) 0 (by simp only[push_cast,↓reduceIte,Nat.reduceEqDiff,Nat.reduceLT,Nat.reduceLeDiff,Nat.reduceAdd,↓Int.reduceNatCast'] <;> rfl) (by omega) ?_
 intro i hi
 unfold ylt
 simp (disch:=omega) only[push_cast,↓reduceIte,Nat.reduceEqDiff]
 refine yag (fun h2=>?_) (fun h2=>?_)
 ·simp (disch:=first|omega|decide) only[push_cast,↓reduceIte,Nat.reduceEqDiff,ye8,yvz,h2]
  refine yag (fun h3=>?_) (fun h3=>?_)
  ·simp (disch:=first|omega|decide) only[push_cast,↓reduceIte,Nat.reduceEqDiff,Nat.reduceLT,Nat.reduceLeDiff,Nat.reduceAdd,ybx,yax,h3]
   refine yai (i+1) (by omega) (by omega) ?_
   rw[show padF s root (i+1)=ydk (padF s root i) (padN i)from if_pos h3]
   simp only[push_cast] <;> rfl
  ·simp (disch:=first|omega|decide) only[push_cast,↓reduceIte,Nat.reduceEqDiff,Nat.reduceLT,Nat.reduceLeDiff,Nat.reduceAdd,ybx,yax,h3]
   refine yai (i+1) (by omega) (by omega) ?_
   rw[show padF s root (i+1)=padF s root i from if_neg h3]
   simp only[push_cast] <;> rfl
 ·have e:n.toNat=i:=by omega
  rw[e]
  simp (disch:=omega) only[push_cast,↓reduceIte,Nat.reduceEqDiff,Nat.reduceAdd,h2]
theorem Ybr:Contract Tryz.prog GG 76 yvo:=
 yac yw9 (yao (all_cons yQi (all_cons yA5 (all_cons yx8 all_nil))) all_nil) (fun a h=>yUv a.1 a.2 h)
theorem yah(st:St)(n sz key off:Nat)(k:IntKind)(i:Int)(h0:0≤i)(h1:i<(n:Int)):ymj st n sz (.ptr key off) (.int k i)=some (.ptr key (off+i.toNat*sz)):=by
 simp only[ymj,yj6 k i h0,pfld]
 rw[if_pos (by omega)]
def yot(a b:Int×Dig):Bis:=⟨max (yan a.1) (yan b.1),max (yan a.1) (yan b.1),0,padF a.1 a.2 (max (yan a.1) (yan b.1)).toNat,padF b.1 b.2 (max (yan a.1) (yan b.1)).toNat,false,false,yab,yab,yab,yab,0⟩
def ylc(a b:Int×Dig):Bis:=if yan a.1<0 then ybf else if yan b.1<0 then ybf else if(yot a b).n0=(yot a b).n1 then ybf else yot a b
def ydw(a b:Int×Dig):Int:=if yan a.1<0 then 1 else if yan b.1<0 then 1 else if(yot a b).n0=(yot a b).n1 then 380 else 0
theorem yla(n:Int):-1≤yan n∧yan n≤16:=by
 by_cases h:n<0∨65536<n
 ·rw[ymv h]; omega
 ·have:=yut (n:=n) (by omega) (by omega)
  omega
noncomputable def yit:List D→Option D:=spOf (α:=(Int×Dig)×(Int×Dig)) (fun a=>[.agg (.int .i64 (Prod.fst a.1)::digC (Prod.snd a.1)),.agg (.int .i64 (Prod.fst a.2)::digC (Prod.snd a.2))]) (fun a=>True) (fun a=>.tup [bisD (ylc a.1 a.2),.int .i64 (ydw a.1 a.2)])
theorem yss(a:Int×Dig)(b:Int×Dig):yit [.agg (.int .i64 (Prod.fst a)::digC (Prod.snd a)),.agg (.int .i64 (Prod.fst b)::digC (Prod.snd b))]=some (.tup [bisD (ylc a b),.int .i64 (ydw a b)]):=
 yae (fun⟨a0,a1⟩ ⟨b0,b1⟩ h=>by simp only[List.cons.injEq,D.int.injEq,D.agg.injEq,yk9,true_and,and_true]at h; simp[h,Prod.ext_iff]) (a,b) trivial
set_option maxHeartbeats 4000000 in
set_option maxRecDepth 20000 in
theorem Ycv(a:Int×Dig)(b:Int×Dig):@wW GG (tb [(25,yme),(76,yvo)] []) yim.code (argF [.agg (.int .i64 (Prod.fst a)::digC (Prod.snd a)),.agg (.int .i64 (Prod.fst b)::digC (Prod.snd b))]) [] ⟨retQ yim.res (.tup [bisD (ylc a b),.int .i64 (ydw a b)])⟩:=by
 obtain⟨s1,r1⟩:=a
 obtain⟨s2,r2⟩:=b
 have d1:=yla s1
 have d2:=yla s2
 unfold yim ylc ydw
 dsimp only
 by_cases h1:yan s1<0
 ·simp (disch:=first|omega|decide) only[push_cast,↓reduceIte,Nat.reduceEqDiff,Nat.reduceAdd,ya7,yvz,ye8,h1]
 by_cases h2:yan s2<0
 ·simp (disch:=first|omega|decide) only[push_cast,↓reduceIte,Nat.reduceEqDiff,Nat.reduceAdd,ya7,yvz,ye8,h1,h2]
 have c1:=yw0 (s1,r1) (max (yan s1) (yan s2)) ⟨by omega,by omega⟩
 have c2:=yw0 (s2,r2) (max (yan s1) (yan s2)) ⟨by omega,by omega⟩
 dsimp only at c1 c2
 have e1:(yot (s1,r1) (s2,r2)).n0=padF s1 r1 (max (yan s1) (yan s2)).toNat:=rfl
 have e2:(yot (s1,r1) (s2,r2)).n1=padF s2 r2 (max (yan s1) (yan s2)).toNat:=rfl
 have e3:yot (s1,r1) (s2,r2)={ybf with h:=max (yan s1) (yan s2),l:=max (yan s1) (yan s2),n0:=padF s1 r1 (max (yan s1) (yan s2)).toNat,n1:=padF s2 r2 (max (yan s1) (yan s2)).toNat}:=rfl
 rw[e1,e2,e3]
 generalize padF s1 r1 (max (yan s1) (yan s2)).toNat=p1 at*
 generalize padF s2 r2 (max (yan s1) (yan s2)).toNat=p2 at*
 by_cases h3:p1=p2
 ·simp (disch:=first|omega|decide) only[push_cast,↓reduceIte,Nat.reduceEqDiff,Nat.reduceAdd,Nat.reduceMul,ya7,yvz,yfh,ye8,h1,h2,c1,c2,h3,yjk,yah]
 ·simp (disch:=first|omega|decide) only[push_cast,↓reduceIte,Nat.reduceEqDiff,Nat.reduceAdd,Nat.reduceMul,ya7,yvz,yfh,ye8,h1,h2,c1,c2,h3,yjk,yah]
theorem yGn:Contract Tryz.prog GG 26 yit:=
 yac yyo (yao (all_cons yx8 (all_cons Ybr all_nil)) all_nil) (fun a h=>Ycv a.1 a.2)
def Yk8(x:Bis)(p:Int):Bool:=if p=0 then x.t0 else x.t1
def ySa(x:Bis)(p:Int):Dig:=if p=0 then x.n0 else x.n1
def setB(x:Bis)(p:Int)(l r:Dig):Bis:=if p=0 then {x with t0:=true,l0:=l,r0:=r} else {x with t1:=true,l1:=l,r1:=r}
def yVg(x:Bis):Bis:=if x.l0=x.l1 then {ybf with h:=x.h,l:=x.l - 1,i:=2*x.i+1,n0:=x.r0,n1:=x.r1,r:=x.r+1} else {ybf with h:=x.h,l:=x.l - 1,i:=2*x.i,n0:=x.l0,n1:=x.l1,r:=x.r+1}
def yen(x:Bis)(p:Int)(l r:Dig):Bis:=if ykh x=true∧(p=0∨p=1)then(if x.l=0∨Yk8 x p=true then ybf else if ydk l r=ySa x p then(if Yk8 x (1 - p)=true then yVg (setB x p l r)else setB x p l r)else ybf)else ybf
def yfz(x:Bis)(p:Int)(l r:Dig):Int:=if ykh x=true∧(p=0∨p=1)then(if x.l=0∨Yk8 x p=true then 380 else if ydk l r=ySa x p then 0 else 381)else 1
theorem yZe{x:Bis}(h:ykh x=true):x.i<65536:=by
 obtain⟨a,b,c,d,e,f,g⟩:=ysw h
 have:=yFb (a:=(x.h - x.l).toNat) (b:=16) (by omega)
 omega
noncomputable def yEs:List D→Option D:=spOf (α:=Bis×Int×Dig×Dig) (fun a=>[bisD a.1,.int .i64 a.2.1,digD a.2.2.1,digD a.2.2.2]) (fun a=>-9223372036854775808≤a.2.1∧a.2.1<9223372036854775808) (fun a=>.tup [bisD (yen a.1 a.2.1 a.2.2.1 a.2.2.2),.int .i64 (yfz a.1 a.2.1 a.2.2.1 a.2.2.2)])
theorem yUa(x:Bis)(p:Int)(l:Dig)(r:Dig)(h:-9223372036854775808≤p∧p<9223372036854775808):yEs [bisD x,.int .i64 p,digD l,digD r]=some (.tup [bisD (yen x p l r),.int .i64 (yfz x p l r)]):=
 yae (fun⟨a0,a1,a2,a3⟩ ⟨b0,b1,b2,b3⟩ h=>by simp only[List.cons.injEq,D.int.injEq,yl5,true_and,and_true,yx9]at h; simp[h]) (x,p,l,r) h
set_option maxHeartbeats 4000000 in
set_option maxRecDepth 20000 in
theorem Ykv(x:Bis)(p:Int)(l:Dig)(r:Dig)(h:-9223372036854775808≤p∧p<9223372036854775808):@wW GG (tb [(77,yts),(95,ymd)] []) yfq.code (argF [bisD x,.int .i64 p,digD l,digD r]) [] ⟨retQ yfq.res (.tup [bisD (yen x p l r),.int .i64 (yfz x p l r)])⟩:=by
 unfold yfq
 by_cases hv:ykh x=true
 ·have cv:=ysr x
  rw[hv]at cv
  by_cases hp:p=0∨p=1
  ·obtain⟨v1,v2,v3,v4,v5,v6,v7⟩:=ysw hv
   have v8:=yZe hv
   rcases hp with rfl | rfl
   ·have q1:¬ (1:Int)=0:=by decide
    by_cases h1:x.l=0
    ·have e1:yen x 0 l r=ybf:=by unfold yen; rw[if_pos ⟨hv,.inl rfl⟩,if_pos (.inl h1)]
     have e2:yfz x 0 l r=380:=by unfold yfz; rw[if_pos ⟨hv,.inl rfl⟩,if_pos (.inl h1)]
     rw[e1,e2]
     simp (disch:=first|omega|decide) only[push_cast,↓reduceIte,Nat.reduceEqDiff,Nat.reduceAdd,cv,h1]
    by_cases h2:x.t0=true
    ·have e1:yen x 0 l r=ybf:=by unfold yen; rw[if_pos ⟨hv,.inl rfl⟩,if_pos (.inr h2)]
     have e2:yfz x 0 l r=380:=by unfold yfz; rw[if_pos ⟨hv,.inl rfl⟩,if_pos (.inr h2)]
     rw[e1,e2]
     simp (disch:=first|omega|decide) only[push_cast,↓reduceIte,Nat.reduceEqDiff,Nat.reduceAdd,Nat.reduceMul,cv,h1,h2,yah]
    have h2':x.t0=false:=by simpa using h2
    by_cases h3:ydk l r=x.n0
    ·by_cases h4:x.t1=true
     ·have e1:yen x 0 l r=yVg (setB x 0 l r):=by unfold yen; rw[if_pos ⟨hv,.inl rfl⟩,if_neg (by intro h; rcases h with h | h; exact h1 h; exact h2 h),if_pos (show ydk l r=ySa x 0 from h3)]; exact if_pos h4
      have e2:yfz x 0 l r=0:=by unfold yfz; rw[if_pos ⟨hv,.inl rfl⟩,if_neg (by intro h; rcases h with h | h; exact h1 h; exact h2 h)]; exact if_pos h3
      rw[e1,e2,show setB x 0 l r={x with t0:=true,l0:=l,r0:=r} from rfl]
      unfold yVg
      by_cases h5:l=x.l1
      ·simp (disch:=first|omega|decide) only[push_cast,↓yal,↓reduceIte,Nat.reduceEqDiff,Nat.reduceAdd,Nat.reduceMul,Nat.reduceBEq,Int.reduceSub,cv,h1,h2',h3,h4,← h5,yah,ybx,ydz,yBp,yax,yjk]
      ·simp (disch:=first|omega|decide) only[push_cast,↓yal,↓reduceIte,Nat.reduceEqDiff,Nat.reduceAdd,Nat.reduceMul,Nat.reduceBEq,Int.reduceSub,cv,h1,h2',h3,h4,h5,yah,ybx,ydz,yBp,yax,yjk]
     ·have h4':x.t1=false:=by simpa using h4
      have e1:yen x 0 l r=setB x 0 l r:=by unfold yen; rw[if_pos ⟨hv,.inl rfl⟩,if_neg (by intro h; rcases h with h | h; exact h1 h; exact h2 h),if_pos (show ydk l r=ySa x 0 from h3)]; exact if_neg h4
      have e2:yfz x 0 l r=0:=by unfold yfz; rw[if_pos ⟨hv,.inl rfl⟩,if_neg (by intro h; rcases h with h | h; exact h1 h; exact h2 h)]; exact if_pos h3
      rw[e1,e2,show setB x 0 l r={x with t0:=true,l0:=l,r0:=r} from rfl]
      simp (disch:=first|omega|decide) only[push_cast,↓yal,↓reduceIte,Nat.reduceEqDiff,Nat.reduceAdd,Nat.reduceMul,Nat.reduceBEq,Int.reduceSub,cv,h1,h2',h3,h4',yah,ybx,ydz]
    ·have e1:yen x 0 l r=ybf:=by unfold yen; rw[if_pos ⟨hv,.inl rfl⟩,if_neg (by intro h; rcases h with h | h; exact h1 h; exact h2 h)]; exact if_neg h3
     have e2:yfz x 0 l r=381:=by unfold yfz; rw[if_pos ⟨hv,.inl rfl⟩,if_neg (by intro h; rcases h with h | h; exact h1 h; exact h2 h)]; exact if_neg h3
     rw[e1,e2]
     simp (disch:=first|omega|decide) only[push_cast,↓reduceIte,Nat.reduceEqDiff,Nat.reduceAdd,Nat.reduceMul,cv,h1,h2',h3,yah,ybx]
   ·have q1:¬ (1:Int)=0:=by decide
    by_cases h1:x.l=0
    ·have e1:yen x 1 l r=ybf:=by unfold yen; rw[if_pos ⟨hv,.inr rfl⟩,if_pos (.inl h1)]
     have e2:yfz x 1 l r=380:=by unfold yfz; rw[if_pos ⟨hv,.inr rfl⟩,if_pos (.inl h1)]
     rw[e1,e2]
     simp (disch:=first|omega|decide) only[push_cast,↓reduceIte,Nat.reduceEqDiff,Nat.reduceAdd,cv,h1,q1]
    by_cases h2:x.t1=true
    ·have e1:yen x 1 l r=ybf:=by unfold yen; rw[if_pos ⟨hv,.inr rfl⟩,if_pos (.inr h2)]
     have e2:yfz x 1 l r=380:=by unfold yfz; rw[if_pos ⟨hv,.inr rfl⟩,if_pos (.inr h2)]
     rw[e1,e2]
     simp (disch:=first|omega|decide) only[push_cast,↓reduceIte,Nat.reduceEqDiff,Nat.reduceAdd,Nat.reduceMul,cv,h1,h2,q1,yah]
    have h2':x.t1=false:=by simpa using h2
    by_cases h3:ydk l r=x.n1
    ·by_cases h4:x.t0=true
     ·have e1:yen x 1 l r=yVg (setB x 1 l r):=by unfold yen; rw[if_pos ⟨hv,.inr rfl⟩,if_neg (by intro h; rcases h with h | h; exact h1 h; exact h2 h),if_pos (show ydk l r=ySa x 1 from h3)]; exact if_pos h4
      have e2:yfz x 1 l r=0:=by unfold yfz; rw[if_pos ⟨hv,.inr rfl⟩,if_neg (by intro h; rcases h with h | h; exact h1 h; exact h2 h)]; exact if_pos h3
      rw[e1,e2,show setB x 1 l r={x with t1:=true,l1:=l,r1:=r} from rfl]
      unfold yVg
      by_cases h5:l=x.l0
      ·simp (disch:=first|omega|decide) only[push_cast,↓yal,↓reduceIte,Nat.reduceEqDiff,Nat.reduceAdd,Nat.reduceMul,Nat.reduceBEq,Int.reduceSub,cv,h1,h2',h3,h4,q1,← h5,yah,ybx,ydz,yBp,yax,yjk]
      ·have h6:¬ x.l0=l:=fun h=>h5 h.symm
       simp (disch:=first|omega|decide) only[push_cast,↓yal,↓reduceIte,Nat.reduceEqDiff,Nat.reduceAdd,Nat.reduceMul,Nat.reduceBEq,Int.reduceSub,cv,h1,h2',h3,h4,h5,h6,q1,yah,ybx,ydz,yBp,yax,yjk]
     ·have h4':x.t0=false:=by simpa using h4
      have e1:yen x 1 l r=setB x 1 l r:=by unfold yen; rw[if_pos ⟨hv,.inr rfl⟩,if_neg (by intro h; rcases h with h | h; exact h1 h; exact h2 h),if_pos (show ydk l r=ySa x 1 from h3)]; exact if_neg h4
      have e2:yfz x 1 l r=0:=by unfold yfz; rw[if_pos ⟨hv,.inr rfl⟩,if_neg (by intro h; rcases h with h | h; exact h1 h; exact h2 h)]; exact if_pos h3
      rw[e1,e2,show setB x 1 l r={x with t1:=true,l1:=l,r1:=r} from rfl]
      simp (disch:=first|omega|decide) only[push_cast,↓yal,↓reduceIte,Nat.reduceEqDiff,Nat.reduceAdd,Nat.reduceMul,Nat.reduceBEq,Int.reduceSub,cv,h1,h2',h3,h4',q1,yah,ybx,ydz]
    ·have e1:yen x 1 l r=ybf:=by unfold yen; rw[if_pos ⟨hv,.inr rfl⟩,if_neg (by intro h; rcases h with h | h; exact h1 h; exact h2 h)]; exact if_neg h3
     have e2:yfz x 1 l r=381:=by unfold yfz; rw[if_pos ⟨hv,.inr rfl⟩,if_neg (by intro h; rcases h with h | h; exact h1 h; exact h2 h)]; exact if_neg h3
     rw[e1,e2]
     simp (disch:=first|omega|decide) only[push_cast,↓reduceIte,Nat.reduceEqDiff,Nat.reduceAdd,Nat.reduceMul,cv,h1,h2',h3,q1,yah,ybx]
  ·have e1:yen x p l r=ybf:=by unfold yen; exact if_neg fun h=>hp h.2
   have e2:yfz x p l r=1:=by unfold yfz; exact if_neg fun h=>hp h.2
   have p0:¬ p=0:=fun h=>hp (.inl h)
   have p1:¬ p=1:=fun h=>hp (.inr h)
   rw[e1,e2]
   simp (disch:=first|omega|decide) only[push_cast,↓reduceIte,Nat.reduceEqDiff,Nat.reduceAdd,cv,p0,p1]
 ·have hv':ykh x=false:=by simpa using hv
  have cv:=ysr x
  rw[hv']at cv
  have e1:yen x p l r=ybf:=by unfold yen; exact if_neg fun h=>hv h.1
  have e2:yfz x p l r=1:=by unfold yfz; exact if_neg fun h=>hv h.1
  rw[e1,e2]
  simp (disch:=first|omega|decide) only[push_cast,↓reduceIte,Nat.reduceEqDiff,Nat.reduceAdd,cv]
theorem Ypt:Contract Tryz.prog GG 122 yEs:=
 yac ytg (yao (all_cons yQj (all_cons yA5 all_nil)) all_nil) (fun a h=>Ykv a.1 a.2.1 a.2.2.1 a.2.2.2 h)
noncomputable def Ydo:List D→Option D:=spOf (α:=Bis×Int×Dig×Dig) (fun a=>[bisD a.1,.int .i64 a.2.1,digD a.2.2.1,digD a.2.2.2]) (fun a=>-9223372036854775808≤a.2.1∧a.2.1<9223372036854775808) (fun a=>.tup [bisD (yen a.1 a.2.1 a.2.2.1 a.2.2.2),.int .i64 (yfz a.1 a.2.1 a.2.2.1 a.2.2.2)])
theorem Yqr(x:Bis)(p:Int)(l:Dig)(r:Dig)(h:-9223372036854775808≤p∧p<9223372036854775808):Ydo [bisD x,.int .i64 p,digD l,digD r]=some (.tup [bisD (yen x p l r),.int .i64 (yfz x p l r)]):=
 yae (fun⟨a0,a1,a2,a3⟩ ⟨b0,b1,b2,b3⟩ h=>by simp only[List.cons.injEq,D.int.injEq,yl5,true_and,and_true,yx9]at h; simp[h]) (x,p,l,r) h
theorem ydv(st:St)(a b:Dig):immL st (d2C a b)=some (d2C a b):=yhw st (yJw a b)
def yor(x:Bis):Bool:=ykh x && decide (x.l≤0)
def yv5(x:Bis):Int:=if yor x=true then x.i else 0
def ykp(x:Bis):Dig:=if yor x=true then x.n0 else yab
def yko(x:Bis):Dig:=if yor x=true then x.n1 else yab
noncomputable def ytt:List D→Option D:=spOf (α:=Bis) (fun a=>[bisD a]) (fun a=>True) (fun a=>.tup [.int .i64 (yv5 a),.agg (d2C (ykp a) (yko a)),.bool (yor a)])
theorem yq6(x:Bis):ytt [bisD x]=some (.tup [.int .i64 (yv5 x),.agg (d2C (ykp x) (yko x)),.bool (yor x)]):=
 yae (fun a b h=>by simp only[List.cons.injEq,and_true,yx9]at h; simp[h]) (x) trivial
set_option maxHeartbeats 4000000 in
set_option maxRecDepth 20000 in
theorem Yku(x:Bis):@wW GG (tb [(77,yts)] []) yjr.code (argF [bisD x]) [] ⟨retQ yjr.res (.tup [.int .i64 (yv5 x),.agg (d2C (ykp x) (yko x)),.bool (yor x)])⟩:=by
 have cv:=ysr x
 unfold yjr yv5 ykp yko yor
 by_cases hv:ykh x=true
 ·rw[hv]at cv ⊢
  by_cases h1:0<x.l
  ·have h2:¬ x.l≤0:=by omega
   simp (disch:=first|omega|decide) only[push_cast,↓reduceIte,Nat.reduceEqDiff,ydv,cv,h1,h2]
  ·have h2:x.l≤0:=by omega
   simp (disch:=first|omega|decide) only[push_cast,↓reduceIte,Nat.reduceEqDiff,ydv,cv,h1,h2]
 ·have hv':ykh x=false:=by simpa using hv
  rw[hv']at cv ⊢
  simp (disch:=first|omega|decide) only[push_cast,↓reduceIte,Nat.reduceEqDiff,ydv,cv]
theorem yNi:Contract Tryz.prog GG 88 ytt:=
 yac yBl (yao (all_cons yQj all_nil) all_nil) (fun a h=>Yku a)
structure Ky where
 kd:Int
 wg:Int
 rr:Int
 rn:Int
 pt:Int
 deriving DecidableEq,Inhabited
def kyC(k:Ky):List D:=[.int .i64 k.kd,.int .i64 k.wg,.int .i64 k.rr,.int .i64 k.rn,.int .i64 k.pt]
def kyD(k:Ky):D:=.agg (kyC k)
abbrev kysD(l:List Ky):D:=.slc (nz 5 (l.map kyD)) (l.map kyD) false
theorem yYo{a b:Ky}:kyC a=kyC b↔a=b:=by
 refine⟨fun h=>?_,fun h=>by rw[h]⟩
 obtain⟨a1,a2,a3,a4,a5⟩:=a
 obtain⟨b1,b2,b3,b4,b5⟩:=b
 simp only[kyC,List.cons.injEq,D.int.injEq,true_and,and_true]at h
 obtain⟨rfl,rfl,rfl,rfl,rfl⟩:=h
 rfl
theorem yFx{a b:Ky}:kyD a=kyD b↔a=b:=by simp only[kyD,D.agg.injEq,yYo]
theorem yFw{a b:List Ky}:a.map kyD=b.map kyD↔a=b:=by
 refine⟨fun h=>?_,fun h=>by rw[h]⟩
 induction a generalizing b with
 |nil=>cases b with
  |nil=>rfl
  |cons y b=>simp at h
 |cons x a ih=>cases b with
  |nil=>simp at h
  |cons y b=>
   simp only[List.map_cons,List.cons.injEq,yFx]at h
   rw[h.1,ih h.2]
theorem yxx{a b:List Ky}:kysD a=kysD b↔a=b:=by
 simp only[kysD,D.slc.injEq,and_true,yFw]
 exact⟨fun h=>h.2,fun h=>⟨by rw[h],h⟩⟩
theorem Yb7{a b:List Bool}:a.map D.bool=b.map D.bool↔a=b:=by
 refine⟨fun h=>?_,fun h=>by rw[h]⟩
 induction a generalizing b with
 |nil=>cases b with
  |nil=>rfl
  |cons y b=>simp at h
 |cons x a ih=>cases b with
  |nil=>simp at h
  |cons y b=>
   simp only[List.map_cons,List.cons.injEq,D.bool.injEq]at h
   rw[h.1,ih h.2]
structure Cse where
 key:Ky
 p0:Int
 p1:Int
 ph:Int
 dl:Int
 a0:Int
 a1:Int
 c0:Int×Dig
 c1:Int×Dig
 b:Bis
 wn:Int
 am:Int
 ct:Int
 jn:List Ky
 deriving DecidableEq
def bisS(x:Bis):List Sg:=[.c (.int .i64 x.h),.c (.int .i64 x.l),.c (.int .i64 x.i),.g x.n0,.g x.n1,.c (.bool x.t0),.c (.bool x.t1),.g x.l0,.g x.l1,.g x.r0,.g x.r1,.c (.int .i64 x.r)]
theorem ywg(x:Bis):flat (bisS x)=bisC x:=by simp[flat,bisS,bisC,Sg.cs]
def kyS(k:Ky):List Sg:=[.c (.int .i64 k.kd),.c (.int .i64 k.wg),.c (.int .i64 k.rr),.c (.int .i64 k.rn),.c (.int .i64 k.pt)]
theorem Yjp(k:Ky):flat (kyS k)=kyC k:=rfl
def cseS(x:Cse)(j:D):List Sg:=kyS x.key++[.c (.int .i64 x.p0),.c (.int .i64 x.p1),.c (.int .i64 x.ph),.c (.int .i64 x.dl),.c (.int .i64 x.a0),.c (.int .i64 x.a1),.c (.int .i64 x.c0.1),.g x.c0.2,.c (.int .i64 x.c1.1),.g x.c1.2]++bisS x.b++[.c (.int .i64 x.wn),.c (.int .i64 x.am),.c (.int .i64 x.ct),.c j]
def cseC(x:Cse)(j:D):List D:=flat (cseS x j)
def cseD(x:Cse):D:=.agg (cseC x (kysD x.jn))
theorem yeg(x:Cse)(j:D):wfS (cseS x j):=trivial
theorem yc8(x:Cse)(j:D):(cseC x j).length=279:=by
 rw[cseC,yji (yeg x j)]; simp[lenS,cseS,kyS,bisS,Sg.sz]
theorem yGh{x y:Cse}{i j:D}(h:cseC x i=cseC y j):({x with jn:=[]}:Cse)={y with jn:=[]}∧i=j:=by
 obtain⟨xk,x0,x1,x2,x3,x4,x5,xc,xe,xb,x6,x7,x8,xj⟩:=x
 obtain⟨yk,y0,y1,y2,y3,y4,y5,yc,ye,yb,y6,y7,y8,yj⟩:=y
 obtain⟨xk1,xk2,xk3,xk4,xk5⟩:=xk
 obtain⟨yk1,yk2,yk3,yk4,yk5⟩:=yk
 obtain⟨xc1,xc2⟩:=xc
 obtain⟨xe1,xe2⟩:=xe
 obtain⟨yc1,yc2⟩:=yc
 obtain⟨ye1,ye2⟩:=ye
 simp only[cseC,cseS,kyS,List.cons_append,List.nil_append,flat,Sg.cs,yfi,ywg,List.cons.injEq,D.int.injEq,true_and,List.append_nil]at h
 obtain⟨rfl,rfl,rfl,rfl,rfl,rfl,rfl,rfl,rfl,rfl,rfl,rfl,h⟩:=h
 obtain⟨h1,h2⟩:=List.append_inj h (by simp[yaa])
 clear h
 simp only[List.cons.injEq,D.int.injEq,true_and]at h2
 obtain⟨q1,h3⟩:=h2
 obtain⟨h4,h5⟩:=List.append_inj h3 (by simp[yaa])
 obtain⟨h6,h7⟩:=List.append_inj h5 (by simp[yki])
 simp only[List.cons.injEq,D.int.injEq,true_and,and_true]at h7
 obtain⟨q2,q3,q4,q5⟩:=h7
 subst q1 q2 q3 q4 q5
 obtain rfl:=ygc h1
 obtain rfl:=ygc h4
 obtain rfl:=yQn h6
 exact⟨rfl,rfl⟩
theorem yjn{x y:Cse}:cseD x=cseD y↔x=y:=by
 refine⟨fun h=>?_,fun h=>by rw[h]⟩
 simp only[cseD,D.agg.injEq]at h
 obtain⟨h1,h2⟩:=yGh h
 rw[yxx]at h2
 obtain⟨xk,x0,x1,x2,x3,x4,x5,xc,xe,xb,x6,x7,x8,xj⟩:=x
 obtain⟨yk,y0,y1,y2,y3,y4,y5,yc,ye,yb,y6,y7,y8,yj⟩:=y
 simp only[Cse.mk.injEq,and_true]at h1 h2 ⊢
 exact⟨h1.1,h1.2.1,h1.2.2.1,h1.2.2.2.1,h1.2.2.2.2.1,h1.2.2.2.2.2.1,h1.2.2.2.2.2.2.1,h1.2.2.2.2.2.2.2.1,h1.2.2.2.2.2.2.2.2.1,h1.2.2.2.2.2.2.2.2.2.1,h1.2.2.2.2.2.2.2.2.2.2.1,h1.2.2.2.2.2.2.2.2.2.2.2.1,h1.2.2.2.2.2.2.2.2.2.2.2.2,h2⟩
def yUm:Ky:=⟨0,0,0,0,0⟩
def ybj:Cse:=⟨yUm,0,0,0,0,0,0,(0,yab),(0,yab),ybf,0,0,0,[]⟩
structure Mv where
 kd:Int
 pt:Int
 am:Int
 cm:Int×Dig
 lf:Dig
 rt:Dig
 op:Opn
 path:List Dig
 key:Ky
 deriving DecidableEq
abbrev dgsD(l:List Dig):D:=.slc (nz 32 (l.map digD)) (l.map digD) false
def opnS(o:Opn)(t:D):List Sg:=[.c (.int .i64 o.pc),.c (.int .i64 o.fuel),.c (.int .i64 o.status),.c (.int .i64 o.clause),.c t,.c (.int .i64 o.depth),.g o.rest]
theorem yXi(o:Opn):flat (opnS o (ybq o.top))=opnC o:=by simp[flat,opnS,opnC,Sg.cs]
def mvS(m:Mv):List Sg:=[.c (.int .i64 m.kd),.c (.int .i64 m.pt),.c (.int .i64 m.am),.c (.int .i64 m.cm.1),.g m.cm.2,.g m.lf,.g m.rt]++opnS m.op (ybq m.op.top)++[.c (dgsD m.path)]++kyS m.key
def mvC(m:Mv):List D:=flat (mvS m)
def mvD(m:Mv):D:=.agg (mvC m)
theorem Ymq(m:Mv):wfS (mvS m):=trivial
theorem yqw(m:Mv):(mvC m).length=144:=by
 rw[mvC,yji (Ymq m)]; simp[lenS,mvS,opnS,kyS,Sg.sz]
theorem yMi{x y:Mv}:mvD x=mvD y↔x=y:=by
 refine⟨fun h=>?_,fun h=>by rw[h]⟩
 obtain⟨x1,x2,x3,⟨x4,x5⟩,x6,x7,x8,x9,x10⟩:=x
 obtain⟨y1,y2,y3,⟨y4,y5⟩,y6,y7,y8,y9,y10⟩:=y
 simp only[mvD,D.agg.injEq,mvC,mvS,yfi,yXi,List.append_assoc]at h
 simp only[flat,Sg.cs,List.cons_append,List.nil_append,List.cons.injEq,D.int.injEq,true_and,List.append_nil,List.append_assoc]at h
 obtain⟨rfl,rfl,rfl,rfl,h⟩:=h
 obtain⟨h1,g1⟩:=List.append_inj h (by simp[yaa])
 obtain⟨h2,g2⟩:=List.append_inj g1 (by simp[yaa])
 obtain⟨h3,g3⟩:=List.append_inj g2 (by simp[yaa])
 obtain⟨h4,g4⟩:=List.append_inj g3 (by simp[yj3,yqu])
 simp only[List.cons.injEq,dgsD,D.slc.injEq,and_true,yGf,Yjp,yYo]at g4
 obtain⟨⟨_,q1⟩,q2⟩:=g4
 subst q1 q2
 obtain rfl:=ygc h1
 obtain rfl:=ygc h2
 obtain rfl:=ygc h3
 obtain rfl:=yqt.1 (congrArg D.agg h4)
 rfl
structure Ply where
 x:Cse
 j:D
 c:List Ins
 v:Int×List Int
 m:Mv
 now:Int
 hv:vOK v
def plyS(p:Ply):List Sg:=cseS p.x p.j++[.c (cdD p.c),.w 17 (evC p.v)]++mvS p.m++[.c (.int .i64 p.now)]
def plyC(p:Ply):List D:=flat (plyS p)
theorem ycv(p:Ply):wfS (plyS p):=⟨ybi p.hv,trivial⟩
theorem yL3(p:Ply):(plyC p).length=442:=by
 rw[plyC,yji (ycv p)]; simp[lenS,plyS,cseS,mvS,opnS,bisS,kyS,Sg.sz]
def yh6(n:Int):Prop:=-9007199254740992≤n∧n≤9007199254740992
instance (n:Int):Decidable (yh6 n):=inferInstanceAs (Decidable (_∧_))
def ysb(x:Cse):Prop:=x.ph=4∨x.ph=5∨x.ph=6
instance (x:Cse):Decidable (ysb x):=inferInstanceAs (Decidable (_∨_))
def ygv(x:Cse):Prop:=x.ph=1∨x.ph=2∨x.ph=3
instance (x:Cse):Decidable (ygv x):=inferInstanceAs (Decidable (_∨_))
def ygm(x:Cse)(w a:Int):Cse:={x with ph:=4,wn:=w,am:=a}
def yKr(x:Cse)(p:Int):Int:=if p=0 then x.a0 else x.a1
def yp6(x:Cse)(p:Int):Int×Dig:=if p=0 then x.c0 else x.c1
def yek(x:Cse)(p:Int):Cse:=if p<0 then ygm x (-1) 0 else ygm x p (yKr x p)
def idx2(x:Cse)(n:Int):Int:=if x.a0=n then 0 else if x.a1=n then 1 else -1
def yS2(x:Cse)(n:Int):Cse:=ygm x (idx2 x n) n
def yQt(x:Cse)(now:Int):Cse:={x with ph:=3,dl:=now+1440}
def yr4(c:List Ins)(v:Int×List Int)(x:Cse)(now:Int):Cse×Int:=
 if yor x.b=true then
  if yv5 x.b=0 then
   if(yef c v).2=0 then(yek x (yip (ykp x.b,yko x.b) (yef c v)).1,0)else(x,(yef c v).2)
  else(yQt x now,0)
 else(x,0)
def yBu(c:List Ins)(v:Int×List Int)(x:Cse)(m:Mv)(now:Int):Cse×Int:=
 if m.pt=1∧x.ph=1 then
  if yh6 m.am then
   let y:Cse:={x with a1:=m.am,c1:=m.cm}
   if ydw x.c0 m.cm=1 then(y,381)
   else if ydw x.c0 m.cm=0 then yr4 c v {y with b:=ylc x.c0 m.cm,ph:=2,dl:=now+1440} now
   else if x.a0=m.am then(yek y 1,0)
   else if c.length=0 then(yS2 y 0,0)
   else(yQt y now,0)
  else(x,1)
 else(x,380)
def yTs(c:List Ins)(v:Int×List Int)(x:Cse)(m:Mv)(now:Int):Cse×Int:=
 if x.ph=2 then
  if yfz x.b m.pt m.lf m.rt=0 then
   if(yen x.b m.pt m.lf m.rt).r=x.b.r then({x with b:=yen x.b m.pt m.lf m.rt},0)
   else yr4 c v {x with b:=yen x.b m.pt m.lf m.rt,dl:=now+1440} now
  else(x,yfz x.b m.pt m.lf m.rt)
 else(x,380)
def nxtC(x:Cse)(p:Int):Int:=if ydw x.c0 x.c1=380 then(yp6 x p).1 else if ydw x.c0 x.c1=0 then yv5 x.b else 0
def yi3(x:Cse)(p:Int):Int×Bool:=
 if x.ph=3∧(p=0∨p=1)then
  if nxtC x p=0 then(0,false)else(nxtC x p - 1,true)
 else(0,false)
def Ync(l:List Int):Int:=l.getD (l.length - 1) 0
def yR8(c:List Ins)(v:Int×List Int)(x:Cse)(m:Mv):Cse×Int:=
 if(yi3 x m.pt).2=true then
  if ydw x.c0 x.c1=380 then
   if yaz (yp6 x m.pt) (yi3 x m.pt).1 (ycx c v m.op) m.path=true then
    if m.op.status≠0∧(m.op.status≠1∨0<m.op.top.length)then(yS2 x (if m.op.status=1 then Ync m.op.top else 0),0)
    else(x,390)
   else(x,40)
  else
   let i:=(yi3 x m.pt).1
   let bef:=if(yp6 x m.pt).1≤i then padL else ycx c v m.op
   if 2 ^ (yan (yp6 x m.pt).1).toNat≤i∨yaz (yp6 x m.pt) i bef m.path=true then
    if(yej c v bef m.op).2=0 then(yek x (yip (ykp x.b,yko x.b) (yej c v bef m.op)).1,0)
    else(x,(yej c v bef m.op).2)
   else(x,40)
 else(x,380)
def yKw(x:Cse)(m:Mv):Cse×Int:=if m.pt=0 then({x with ph:=5,wn:=1},0)else(x,380)
def yGj(x:Cse)(m:Mv):Cse×Int:=if m.pt=1 then(yek x 0,0)else if 0≤x.ct then(ygm x 1 x.ct,0)else(x,380)
def yBs(x:Cse)(m:Mv)(now:Int):Cse×Int:=
 if m.pt=1∧x.ph=1∧x.ct<0 then
  if 0≤m.am∧yh6 m.am then({x with ct:=m.am,dl:=now+1440},0)else(x,1)
 else(x,380)
def ykn(x:Cse)(m:Mv):Cse×Int:=
 if m.pt=0∧x.ph=1 then
  if x.jn.length<8 then
   if m.key≠x.key∧m.key∉x.jn then({x with jn:=x.jn++[m.key]},0)else(x,1)
  else(x,2)
 else(x,380)
def yed(c:List Ins)(v:Int×List Int)(x:Cse)(m:Mv)(now:Int):Cse×Int:=
 if m.kd=1 then yBu c v x m now
 else if m.kd=2 then yTs c v x m now
 else if m.kd=3 then yR8 c v x m
 else if m.kd=4 then yKw x m
 else if m.kd=5 then yGj x m
 else if m.kd=6 then yBs x m now
 else ykn x m
def yd5(c:List Ins)(v:Int×List Int)(x:Cse)(m:Mv)(now:Int):Int:=
 if ygv x then
  if(1≤m.kd∧m.kd≤7)∧0≤now∧now≤1073741824∧(m.pt=0∨m.pt=1)then
   if now≤x.dl then(yed c v x m now).2 else 401
  else 1
 else 400
def yfw(c:List Ins)(v:Int×List Int)(x:Cse)(m:Mv)(now:Int):Cse:=if yd5 c v x m now=0 then(yed c v x m now).1 else ybj
def ybw(p q n:Int)(c:Int×Dig)(now:Int):Int:=
 if min p q<0∨16≤max p q∨p=q∨¬ yh6 n∨now<0∨1073741824<now then 1 else if c.1<0∨65536<c.1 then 381 else 0
def ykw(k:Ky)(p q n:Int)(c:Int×Dig)(now:Int):Cse:=
 if ybw p q n c now=0 then⟨k,p,q,1,now+1440,n,0,c,(0,yab),ybf,-1,0,-1,[]⟩else ybj
def yje(x:Cse):Int:=if x.ph=1 then 0 else if x.ph=2∧x.b.t0≠x.b.t1 then(if x.b.t0=true then 0 else 1)else -1
def yvi(x:Cse)(now:Int):Cse:=if ygv x∧x.dl<now then {yek x (yje x)with ph:=6} else x
section
variable (p:Ply) (sz:Nat) (lent:Bool)
theorem yet:ldO (some ⟨false,sz,plyC p,lent⟩) 1 false 7=some (.int .i64 p.x.ph):=ybv (l:=plyS p) rfl rfl (ycv p)
theorem yPb:ldO (some ⟨false,sz,plyC p,lent⟩) 1 false 9=some (.int .i64 p.x.a0):=ybv (l:=plyS p) rfl rfl (ycv p)
theorem yPa:ldO (some ⟨false,sz,plyC p,lent⟩) 1 false 10=some (.int .i64 p.x.a1):=ybv (l:=plyS p) rfl rfl (ycv p)
theorem yYe:ldO (some ⟨false,sz,plyC p,lent⟩) 1 false 274=some (.int .i64 p.x.b.r):=ybv (l:=plyS p) rfl rfl (ycv p)
theorem yCp:ldO (some ⟨false,sz,plyC p,lent⟩) 1 false 277=some (.int .i64 p.x.ct):=ybv (l:=plyS p) rfl rfl (ycv p)
theorem yYc:ldO (some ⟨false,sz,plyC p,lent⟩) 1 false 278=some p.j:=ybv (l:=plyS p) rfl rfl (ycv p)
theorem yfg:ldO (some ⟨false,sz,plyC p,lent⟩) 1 false 279=some (cdD p.c):=ybv (l:=plyS p) rfl rfl (ycv p)
theorem yat:ldO (some ⟨false,sz,plyC p,lent⟩) 1 false 298=some (.int .i64 p.m.pt):=ybv (l:=plyS p) rfl rfl (ycv p)
theorem yrk:ldO (some ⟨false,sz,plyC p,lent⟩) 1 false 299=some (.int .i64 p.m.am):=ybv (l:=plyS p) rfl rfl (ycv p)
theorem yft:ldO (some ⟨false,sz,plyC p,lent⟩) 1 false 435=some (dgsD p.m.path):=ybv (l:=plyS p) rfl rfl (ycv p)
theorem Ym4:ldO (some ⟨false,sz,plyC p,lent⟩) 1 false 441=some (.int .i64 p.now):=ybv (l:=plyS p) rfl rfl (ycv p)
theorem yFq:ldO (some ⟨false,sz,plyC p,lent⟩) 5 true 0=some (kyD p.x.key):=yd3 (l:=plyS p) rfl rfl (ycv p) rfl
theorem yFr:ldO (some ⟨false,sz,plyC p,lent⟩) 279 true 0=some (.agg (cseC p.x p.j)):=yd3 (l:=plyS p) rfl rfl (ycv p) rfl
theorem yb9:ldO (some ⟨false,sz,plyC p,lent⟩) 33 true 11=some (.agg (.int .i64 p.x.c0.1::digC p.x.c0.2)):=yd3 (l:=plyS p) rfl rfl (ycv p) (by simp[flat,Sg.cs])
theorem yb8:ldO (some ⟨false,sz,plyC p,lent⟩) 33 true 44=some (.agg (.int .i64 p.x.c1.1::digC p.x.c1.2)):=yd3 (l:=plyS p) rfl rfl (ycv p) (by simp[flat,Sg.cs])
theorem yjg:ldO (some ⟨false,sz,plyC p,lent⟩) 198 true 77=some (bisD p.x.b):=yd3 (l:=plyS p) rfl rfl (ycv p) (by rw[bisD,← ywg]; rfl)
theorem yf7:ldO (some ⟨false,sz,plyC p,lent⟩) 17 true 280=some (evD p.v):=yd3 (l:=plyS p) rfl rfl (ycv p) (by simp[flat,Sg.cs,evD])
theorem yCo:ldO (some ⟨false,sz,plyC p,lent⟩) 33 true 300=some (.agg (.int .i64 p.m.cm.1::digC p.m.cm.2)):=yd3 (l:=plyS p) rfl rfl (ycv p) (by simp[flat,Sg.cs])
theorem yO9:ldO (some ⟨false,sz,plyC p,lent⟩) 32 true 333=some (digD p.m.lf):=yd3 (l:=plyS p) rfl rfl (ycv p) (by simp[flat,Sg.cs,digD])
theorem yO8:ldO (some ⟨false,sz,plyC p,lent⟩) 32 true 365=some (digD p.m.rt):=yd3 (l:=plyS p) rfl rfl (ycv p) (by simp[flat,Sg.cs,digD])
theorem ydi:ldO (some ⟨false,sz,plyC p,lent⟩) 38 true 397=some (opnD p.m.op):=yd3 (l:=plyS p) rfl rfl (ycv p) (by rw[opnD,← yXi]; rfl)
theorem yFp:ldO (some ⟨false,sz,plyC p,lent⟩) 5 true 436=some (kyD p.m.key):=yd3 (l:=plyS p) rfl rfl (ycv p) rfl
end
section
variable (p:Ply) (sz:Nat)
theorem yHl(n:Int):stO (some ⟨false,sz,plyC p,false⟩) 1 7 (.int .i64 n)=some ⟨false,sz,plyC {p with x:={p.x with ph:=n}},false⟩:=yhu (l:=plyS p) (X:=[.c (.int .i64 n)]) rfl rfl (ycv p) rfl rfl rfl rfl
theorem Yru(n:Int):stO (some ⟨false,sz,plyC p,false⟩) 1 8 (.int .i64 n)=some ⟨false,sz,plyC {p with x:={p.x with dl:=n}},false⟩:=yhu (l:=plyS p) (X:=[.c (.int .i64 n)]) rfl rfl (ycv p) rfl rfl rfl rfl
theorem yB0(n:Int):stO (some ⟨false,sz,plyC p,false⟩) 1 10 (.int .i64 n)=some ⟨false,sz,plyC {p with x:={p.x with a1:=n}},false⟩:=yhu (l:=plyS p) (X:=[.c (.int .i64 n)]) rfl rfl (ycv p) rfl rfl rfl rfl
theorem Yi5(n:Int):stO (some ⟨false,sz,plyC p,false⟩) 1 275 (.int .i64 n)=some ⟨false,sz,plyC {p with x:={p.x with wn:=n}},false⟩:=yhu (l:=plyS p) (X:=[.c (.int .i64 n)]) rfl rfl (ycv p) rfl rfl rfl rfl
theorem Yrw(n:Int):stO (some ⟨false,sz,plyC p,false⟩) 1 276 (.int .i64 n)=some ⟨false,sz,plyC {p with x:={p.x with am:=n}},false⟩:=yhu (l:=plyS p) (X:=[.c (.int .i64 n)]) rfl rfl (ycv p) rfl rfl rfl rfl
theorem Yrv(n:Int):stO (some ⟨false,sz,plyC p,false⟩) 1 277 (.int .i64 n)=some ⟨false,sz,plyC {p with x:={p.x with ct:=n}},false⟩:=yhu (l:=plyS p) (X:=[.c (.int .i64 n)]) rfl rfl (ycv p) rfl rfl rfl rfl
theorem Yi6(k t f l:Nat):stO (some ⟨false,sz,plyC p,false⟩) 1 278 (.row k t f l)=some ⟨false,sz,plyC {p with j:=.row k t f l},false⟩:=yhu (l:=plyS p) (X:=[.c (.row k t f l)]) rfl rfl (ycv p) rfl rfl rfl rfl
theorem yBz(c:Int×Dig):stO (some ⟨false,sz,plyC p,false⟩) 33 44 (.agg (.int .i64 c.1::digC c.2))=some ⟨false,sz,plyC {p with x:={p.x with c1:=c}},false⟩:=
 yhu (l:=plyS p) (X:=[.c (.int .i64 c.1),.g c.2]) rfl rfl (ycv p) rfl (by simp[flat,Sg.cs,D.cells]) (by simp[flat,Sg.cs,yaa]) (by simp only[flat,Sg.cs,List.append_nil,List.cons_append,List.nil_append,List.all_cons,ybb]; rfl)
theorem yVe(b:Bis):stO (some ⟨false,sz,plyC p,false⟩) 198 77 (bisD b)=some ⟨false,sz,plyC {p with x:={p.x with b:=b}},false⟩:=
 yhu (l:=plyS p) (X:=bisS b) rfl rfl (ycv p) rfl (by rw[ywg]; rfl) (by rw[ywg,yki]) (by rw[ywg]; exact yBb b)
end
noncomputable def relK(R:List D→St→D×Int×St→Prop):List D→St→Option (D×Int×St):=fun ds st=>@dite _ (∃ r,R ds st r) (Classical.propDecidable _) (fun h=>some h.choose) (fun _=>none)
theorem yOl{R:List D→St→D×Int×St→Prop}{ds:List D}{st:St}{r:D×Int×St}(h:relK R ds st=some r):R ds st r:=by
 unfold relK at h
 split at h
 ·rename_i hx
  simp only[Option.some.injEq]at h
  rw[← h]; exact hx.choose_spec
 ·cases h
def FnlK(R:List D→St→D×Int×St→Prop):Prop:=∀ ds st r r',R ds st r→R ds st r'→r=r'
theorem yLx{R:List D→St→D×Int×St→Prop}(hf:FnlK R){ds:List D}{st:St}{r:D×Int×St}(h:R ds st r):relK R ds st=some r:=by
 have hx:∃ r,R ds st r:=⟨r,h⟩
 unfold relK
 rw[dif_pos hx,hf _ _ _ _ hx.choose_spec h]
noncomputable def siK(R:List D→St→D×Int×St→Prop):List D→St→Option (D×St):=fun ds st=>match relK R ds st with
 |some (d,e,st')=>if e=0 then some (d,st')else none
 |none=>none
noncomputable def sxK(R:List D→St→D×Int×St→Prop):List D→St→Option (Nat×D×St):=fun ds st=>match relK R ds st with
 |some (_,e,st')=>if e=0 then none else some (125,.int .i64 e,st')
 |none=>none
theorem yHr{R:List D→St→D×Int×St→Prop}(hf:FnlK R){ds:List D}{st st':St}{d:D}(h:R ds st (d,0,st')):siK R ds st=some (d,st'):=by
 simp only[siK,yLx hf h,if_true]
theorem yHs{R:List D→St→D×Int×St→Prop}(hf:FnlK R){ds:List D}{st st':St}{d:D}{e:Int}(h:R ds st (d,e,st'))(he:e≠0):siK R ds st=none:=by
 simp only[siK,yLx hf h,if_neg he]
theorem yyt{R:List D→St→D×Int×St→Prop}(hf:FnlK R){ds:List D}{st st':St}{d:D}{e:Int}(h:R ds st (d,e,st'))(he:e≠0):sxK R ds st=some (125,.int .i64 e,st'):=by
 simp only[sxK,yLx hf h,if_neg he]
def retK(res:List PRes)(d:D)(e:Int)(st':St)(x:Ex)(fr:Frame)(st:St):Prop:=match x with
 |.exit _=>False
 |.panic t y=>¬ e=0∧t=125∧y=.int .i64 e∧st=st'
 |_=>e=0∧@on _ (raws ⟨fr,st⟩ res) ⟨fun l=>(pack l,st)=(d,st')⟩
theorem Yd3(res:List PRes)(d:D)(e:Int)(st':St)(fr:Frame)(st:St):retK res d e st' .ret fr st=(e=0∧@on _ (raws ⟨fr,st⟩ res) ⟨fun l=>(pack l,st)=(d,st')⟩):=(rfl)
theorem yWe(res:List PRes)(d:D)(e:Int)(st':St)(fr:Frame)(st:St):retK res d e st' .next fr st=(e=0∧@on _ (raws ⟨fr,st⟩ res) ⟨fun l=>(pack l,st)=(d,st')⟩):=(rfl)
theorem yRf(res:List PRes)(d:D)(e:Int)(st':St)(t:Nat)(y:D)(fr:Frame)(st:St):retK res d e st' (.panic t y) fr st=(¬ e=0∧t=125∧y=.int .i64 e∧st=st'):=(rfl)
theorem yj9{T:Tbl}{il:List Nat}{f:Nat}{hints:List (List Nat)}{F:PF}{R:List D→St→D×Int×St→Prop}(ht:trF Tryz.prog il f hints=some F)(hT:TblOK Tryz.prog GG T)
  (h:∀ ds st d e st',R ds st (d,e,st')→@wW GG T F.code (argF ds) st ⟨retK F.res d e st'⟩) (hy:T.y=fun _ _ _=>none:=by rfl):IContract Tryz.prog GG f (siK R)∧yh7 Tryz.prog GG f (sxK R):=by
 constructor
 ·refine yaj ht hT (fun ds st r hr=>?_) hy
  unfold siK at hr
  split at hr
  case h_2=>cases hr
  rename_i d e st' hg
  split at hr
  case isFalse=>cases hr
  rename_i he
  simp only[Option.some.injEq]at hr
  subst hr; subst he
  refine Yc0 (yld _ _ _ _ _ (W_of (h _ _ _ _ _ (yOl hg))) fun x fr st hq=>?_)
  cases x with
  |exit i=>exact hq.elim
  |panic t y=>exact absurd rfl hq.1
  |next=>unfold retI; exact hq.2
  |ret=>unfold retI; exact hq.2
 ·refine yGx ht hT (fun ds st r hr=>?_) hy
  unfold sxK at hr
  split at hr
  case h_2=>cases hr
  rename_i d e st' hg
  split at hr
  case isTrue=>cases hr
  rename_i he
  simp only[Option.some.injEq]at hr
  subst hr
  refine Yc0 (yld _ _ _ _ _ (W_of (h _ _ _ _ _ (yOl hg))) fun x fr st hq=>?_)
  cases x with
  |exit i=>exact hq.elim
  |panic t y=>obtain⟨_,rfl,rfl,rfl⟩:=hq; unfold retX; rfl
  |next=>exact absurd hq.1 he
  |ret=>exact absurd hq.1 he
attribute [irreducible] retK
attribute [push_cast] Yd3 yWe yRf
abbrev CK(f:Nat)(R:List D→St→D×Int×St→Prop):Prop:=IContract Tryz.prog GG f (siK R)∧yh7 Tryz.prog GG f (sxK R)
def yj4(ds:List D)(st:St)(r:D×Int×St):Prop:=∃ (b:Bool) (e:Int),ds=[.bool b,.int .i64 e]∧(b=false→e≠0)∧r=(.tup [],if b=true then 0 else e,st)
theorem yFi:FnlK yj4:=by
 rintro ds st r r' ⟨b,e,rfl,_,rfl⟩ ⟨b',e',h,_,rfl⟩
 simp only[List.cons.injEq,D.bool.injEq,D.int.injEq,true_and,and_true]at h
 obtain⟨rfl,rfl⟩:=h
 rfl
theorem sn_t(e:Int)(st:St):siK yj4 [.bool true,.int .i64 e] st=some (.tup [],st):=yHr yFi ⟨true,e,rfl,(fun h=>by cases h),rfl⟩
theorem sn_f{e:Int}(he:e≠0)(st:St):siK yj4 [.bool false,.int .i64 e] st=none:=yHs yFi (e:=e) ⟨false,e,rfl,fun _=>he,rfl⟩ he
theorem sx_f{e:Int}(he:e≠0)(st:St):sxK yj4 [.bool false,.int .i64 e] st=some (125,.int .i64 e,st):=yyt yFi (e:=e) (d:=.tup []) ⟨false,e,rfl,fun _=>he,rfl⟩ he
theorem yeo:CK 73 yj4:=by
 refine yj9 (T:=tb [] []) yD1 (yao all_nil all_nil) ?_
 rintro ds st d e st' ⟨b,e',rfl,hb,h⟩
 simp only[Prod.mk.injEq]at h
 obtain⟨rfl,rfl,rfl⟩:=h
 unfold yw2
 cases b with
 |true=>simp (disch:=first|omega|decide) only[push_cast,↓reduceIte,and_true]
 |false=>
  have he:=hb rfl
  simp (disch:=first|omega|decide) only[push_cast,↓reduceIte,Nat.reduceEqDiff,he,and_true,not_false_eq_true]
def yzg(ds:List D)(st:St)(r:D×Int×St):Prop:=∃ (e:Int),ds=[.int .i64 e]∧r=(.tup [],e,st)
theorem yFg:FnlK yzg:=by
 rintro ds st r r' ⟨e,rfl,rfl⟩ ⟨e',h,rfl⟩
 simp only[List.cons.injEq,D.int.injEq,true_and,and_true]at h
 rw[h]
theorem sp_t(st:St):siK yzg [.int .i64 0] st=some (.tup [],st):=yHr yFg ⟨0,rfl,rfl⟩
theorem sp_f{e:Int}(he:e≠0)(st:St):siK yzg [.int .i64 e] st=none:=yHs yFg (e:=e) ⟨e,rfl,rfl⟩ he
theorem yBm{e:Int}(he:e≠0)(st:St):sxK yzg [.int .i64 e] st=some (125,.int .i64 e,st):=yyt yFg (e:=e) (d:=.tup []) ⟨e,rfl,rfl⟩ he
noncomputable abbrev TND:Tbl:=tbx [] [(73,siK yj4)] [(73,sxK yj4)]
theorem yv9:CK 123 yzg:=by
 refine yj9 (T:=TND) yD0 (ytk all_nil (all_cons yeo.1 all_nil) (all_cons yeo.2 all_nil)) ?_
 rintro ds st d e st' ⟨e',rfl,h⟩
 simp only[Prod.mk.injEq]at h
 obtain⟨rfl,rfl,rfl⟩:=h
 unfold yw1
 by_cases he:e=0
 ·have g:=eq_true he
  simp (disch:=first|omega|decide) only[push_cast,↓reduceIte,Nat.reduceEqDiff,g,decide_true,sn_t,and_true]
 ·simp (disch:=first|omega|decide) only[push_cast,↓reduceIte,Nat.reduceEqDiff,he,decide_false,sn_f,sx_f,and_true,not_false_eq_true]
def ixG{α:Type}[DecidableEq α](a:α):List α→Nat→Int
 |[],_=>-1
 |x::r,i=>if a=x then i else ixG a r (i+1)
theorem yFy{α:Type}[DecidableEq α][Inhabited α](a:α)(l:List α){i:Nat}(h:i<l.length):ixG a (l.drop i) i=if a=l.getD i default then(i:Int)else ixG a (l.drop (i+1)) (i+1):=by
 rw[List.drop_eq_getElem_cons h,ixG]
 simp[List.getD_eq_getElem?_getD,h]
theorem yYx{α:Type}[DecidableEq α](a:α):∀ (l:List α) (i:Nat),(0≤ixG a l i↔a∈l)∧-1≤ixG a l i
 |[],i=>by simp[ixG]
 |x::r,i=>by
  unfold ixG
  have ih:=yYx a r (i+1)
  by_cases h:a=x
  ·rw[if_pos h]; subst h; simp
  ·rw[if_neg h]
   exact⟨by rw[ih.1]; simp[h],ih.2⟩
theorem Yns(n a b:Int):ixG n [a,b] 0=if a=n then 0 else if b=n then 1 else -1:=by
 show(if n=a then((0:Nat):Int)else if n=b then((1:Nat):Int)else -1)=_
 by_cases h:n=a
 ·subst h; simp
 ·have h':¬ a=n:=fun e=>h e.symm
  by_cases h2:n=b
  ·subst h2; simp[h,h']
  ·have h2':¬ b=n:=fun e=>h2 e.symm
   simp[h,h',h2,h2']
noncomputable def yN4:List D→Option D:=spOf (α:=List Int×Int) (fun a=>[.slc (nz 1 (a.1.map nI)) (a.1.map nI) false,.int .i64 a.2]) (fun a=>a.1.length≤4294967296) (fun a=>.int .i64 (ixG a.2 a.1 0))
theorem Yhw(l:List Int)(n:Int)(h:l.length≤4294967296):yN4 [.slc (nz 1 (l.map nI)) (l.map nI) false,.int .i64 n]=some (.int .i64 (ixG n l 0)):=
 yae (fun⟨a0,a1⟩ ⟨b0,b1⟩ h=>by simp only[List.cons.injEq,D.slc.injEq,D.int.injEq,true_and,and_true,yqz]at h; simp[h]) (l,n) h
theorem w_ixI(l:List Int)(n:Int)(h:l.length≤4294967296):@wW GG (tb [] []) ydd.code (argF [.slc (nz 1 (l.map nI)) (l.map nI) false,.int .i64 n]) [] ⟨retQ ydd.res (.int .i64 (ixG n l 0))⟩:=by
 unfold ydd
 simp (disch:=first|omega|decide) only[push_cast,↓reduceIte,Nat.reduceEqDiff,Int.reduceNeg]
 refine ybs (fun i:Nat=>[(0,.slc (nz 1 (l.map nI)) (l.map nI) false),(1,.int .i64 n),(7,.int .i64 (l.length:Int)),(8,.int .i64 (i:Int))]) (fun _=>[]) (fun i=>i≤l.length∧ixG n l 0=ixG n (l.drop i) i) (fun i=>l.length - i) 0 (by simp only[push_cast,↓reduceIte,Nat.reduceEqDiff,↓Int.reduceNatCast'] <;> rfl) ⟨Nat.zero_le _,rfl⟩ ?_
 rintro i ⟨hi,hh⟩
 unfold yga
 simp (disch:=first|omega|decide) only[push_cast,↓reduceIte,Nat.reduceEqDiff]
 refine yag (fun h2=>?_) (fun h2=>?_)
 ·have hlt:i<l.length:=by omega
  rw[yFy _ _ hlt]at hh
  have hix:∀ st:St,yfx st 1 (.slc (nz 1 (l.map nI)) (l.map nI) false) (.int .i64 (i:Int))=some (.eptr (nI (l.getD i default)) 0):=fun st=>by
   have:=yi5 st 1 nI l false .i64 (i:Int) (by omega) (by omega)
   rwa [Int.toNat_natCast]at this
  generalize l.getD i default=x at*
  by_cases hx:n=x
  ·rw[if_pos hx]at hh
   simp (disch:=first|omega|decide) only[push_cast,↓reduceIte,Nat.reduceEqDiff,Int.reduceNeg,hix,nI,hx]
   rw[← hh,hx]
  ·rw[if_neg hx]at hh
   simp (disch:=first|omega|decide) only[push_cast,↓reduceIte,Nat.reduceEqDiff,hix,nI,hx,yax]
   refine yai (i+1) (by exact⟨by omega,hh⟩) (by omega) ?_
   simp only[push_cast] <;> rfl
 ·obtain rfl:i=l.length:=by omega
  rw[List.drop_length]at hh
  simp (disch:=first|omega|decide) only[push_cast,↓reduceIte,Int.reduceNeg,hh,ixG]
theorem c_ixI:Contract Tryz.prog GG 160 yN4:=
 yac ynf (yao all_nil all_nil) (fun a h=>w_ixI a.1 a.2 h)
noncomputable def yHp:List D→Option D:=spOf (α:=List Bool×Bool) (fun a=>[.slc (nz 1 (a.1.map D.bool)) (a.1.map D.bool) false,.bool a.2]) (fun a=>a.1.length≤4294967296) (fun a=>.int .i64 (ixG a.2 a.1 0))
theorem Yhx(l:List Bool)(n:Bool)(h:l.length≤4294967296):yHp [.slc (nz 1 (l.map D.bool)) (l.map D.bool) false,.bool n]=some (.int .i64 (ixG n l 0)):=
 yae (fun⟨a0,a1⟩ ⟨b0,b1⟩ h=>by simp only[List.cons.injEq,D.slc.injEq,D.bool.injEq,and_true,Yb7]at h; simp[h]) (l,n) h
theorem w_ixB(l:List Bool)(n:Bool)(h:l.length≤4294967296):@wW GG (tb [] []) ycj.code (argF [.slc (nz 1 (l.map D.bool)) (l.map D.bool) false,.bool n]) [] ⟨retQ ycj.res (.int .i64 (ixG n l 0))⟩:=by
 unfold ycj
 simp (disch:=first|omega|decide) only[push_cast,↓reduceIte,Nat.reduceEqDiff,Int.reduceNeg]
 refine ybs (fun i:Nat=>[(0,.slc (nz 1 (l.map D.bool)) (l.map D.bool) false),(1,.bool n),(7,.int .i64 (l.length:Int)),(8,.int .i64 (i:Int))]) (fun _=>[]) (fun i=>i≤l.length∧ixG n l 0=ixG n (l.drop i) i) (fun i=>l.length - i) 0 (by simp only[push_cast,↓reduceIte,Nat.reduceEqDiff,↓Int.reduceNatCast'] <;> rfl) ⟨Nat.zero_le _,rfl⟩ ?_
 rintro i ⟨hi,hh⟩
 unfold yfa
 simp (disch:=first|omega|decide) only[push_cast,↓reduceIte,Nat.reduceEqDiff]
 refine yag (fun h2=>?_) (fun h2=>?_)
 ·have hlt:i<l.length:=by omega
  rw[yFy _ _ hlt]at hh
  have hix:∀ st:St,yfx st 1 (.slc (nz 1 (l.map D.bool)) (l.map D.bool) false) (.int .i64 (i:Int))=some (.eptr (.bool (l.getD i default)) 0):=fun st=>by
   have:=yi5 st 1 D.bool l false .i64 (i:Int) (by omega) (by omega)
   rwa [Int.toNat_natCast]at this
  have hld:∀ (st:St) (b:Bool),yde st 1 false (.eptr (.bool b) 0)=some (.bool b):=fun _ _=>rfl
  generalize l.getD i default=x at*
  by_cases hx:n=x
  ·rw[if_pos hx]at hh
   subst hx
   have h1:(n == n)=true:=by simp
   simp (disch:=first|omega|decide) only[push_cast,↓reduceIte,Nat.reduceEqDiff,Int.reduceNeg,hix,hld,h1,hh]
  ·rw[if_neg hx]at hh
   have h1:(n == x)=false:=by simpa using hx
   simp (disch:=first|omega|decide) only[push_cast,↓reduceIte,Nat.reduceEqDiff,hix,hld,h1,yax]
   refine yai (i+1) (by exact⟨by omega,hh⟩) (by omega) ?_
   simp only[push_cast] <;> rfl
 ·obtain rfl:i=l.length:=by omega
  rw[List.drop_length]at hh
  simp (disch:=first|omega|decide) only[push_cast,↓reduceIte,Int.reduceNeg,hh,ixG]
theorem c_ixB:Contract Tryz.prog GG 78 yHp:=
 yac ylw (yao all_nil all_nil) (fun a h=>w_ixB a.1 a.2 h)
theorem yhp(neg:Bool)(a b:Ky):paeq [0,0,0,0,0] neg (kyD a) (kyD b)=some (.bool (decide (a=b) != neg)):=by
 obtain⟨a1,a2,a3,a4,a5⟩:=a
 obtain⟨b1,b2,b3,b4,b5⟩:=b
 have h:yay [0,0,0,0,0] (kyC ⟨a1,a2,a3,a4,a5⟩) (kyC ⟨b1,b2,b3,b4,b5⟩)=some (decide ((⟨a1,a2,a3,a4,a5⟩:Ky)=⟨b1,b2,b3,b4,b5⟩)):=by
  simp only[kyC,yay,ydl,if_true,Bool.and_true,Ky.mk.injEq,Option.some.injEq]
  rw[Bool.eq_iff_iff]
  simp
 simp only[paeq,kyD,h,Option.map_some]
theorem yuh(k:Ky):(kyC k).all yaq=true:=rfl
theorem yos(k:Ky):boxD (kyD k)=some (kyC k):=rfl
theorem ySx(sz:Nat)(lent:Bool)(k:Ky):ldO (some ⟨false,sz,kyC k,lent⟩) 5 true 0=some (kyD k):=yh0 sz lent _ 5 rfl
theorem yOo(st:St)(k:Ky):yde st 5 true (.eptr (kyD k) 0)=some (kyD k):=rfl
theorem ypy(st:St)(k:Ky):imm st (kyD k)=some (kyD k):=ymf st (yuh k)
theorem ypv(k:Ky):keys (kyD k)=[]:=yjs (yuh k)
theorem Yuf(k:Ky):hk (kyD k)=[]:=ytw (yuh k)
theorem yWn(n:Nat)(σ:List Nat)(k:Ky):(kyC k).map (ren n σ)=kyC k:=ygn n σ (yuh k)
theorem Yjt(k:Ky):(kyC k).flatMap hk=[]:=yka (yuh k)
theorem yZc(st:St)(l:List Ky)(t:Bool)(i:Nat)(h:i<l.length):yfx st 5 (.slc (nz 5 (l.map kyD)) (l.map kyD) t) (.int .i64 (i:Int))=some (.eptr (kyD (l.getD i default)) 0):=by
 have:=yi5 st 5 kyD l t .i64 (i:Int) (by omega) (by omega)
 rwa [Int.toNat_natCast]at this
noncomputable def yVo:List D→Option D:=spOf (α:=List Ky×Ky) (fun a=>[.slc (nz 5 (a.1.map kyD)) (a.1.map kyD) false,kyD a.2]) (fun a=>a.1.length≤4294967296) (fun a=>.int .i64 (ixG a.2 a.1 0))
theorem Yhv(l:List Ky)(n:Ky)(h:l.length≤4294967296):yVo [.slc (nz 5 (l.map kyD)) (l.map kyD) false,kyD n]=some (.int .i64 (ixG n l 0)):=
 yae (fun⟨a0,a1⟩ ⟨b0,b1⟩ h=>by simp only[List.cons.injEq,D.slc.injEq,and_true,yFx,yFw]at h; simp[h]) (l,n) h
theorem w_ixK(l:List Ky)(n:Ky)(h:l.length≤4294967296):@wW GG (tb [] []) ybh.code (argF [.slc (nz 5 (l.map kyD)) (l.map kyD) false,kyD n]) [] ⟨retQ ybh.res (.int .i64 (ixG n l 0))⟩:=by
 unfold ybh
 simp (disch:=first|omega|decide) only[push_cast,↓reduceIte,Nat.reduceEqDiff,Int.reduceNeg,yos]
 refine ybs (fun i:Nat=>[(0,.slc (nz 5 (l.map kyD)) (l.map kyD) false),(3,.ptr 0 0),(7,.int .i64 (l.length:Int)),(8,.int .i64 (i:Int))]) (fun _=>[⟨false,1,kyC n,false⟩]) (fun i=>i≤l.length∧ixG n l 0=ixG n (l.drop i) i) (fun i=>l.length - i) 0 (by simp only[push_cast,↓reduceIte,Nat.reduceEqDiff,Nat.reduceLT,Nat.reduceLeDiff,↓Int.reduceNatCast',yWn,Yjt] <;> rfl) ⟨Nat.zero_le _,rfl⟩ ?_
 rintro i ⟨hi,hh⟩
 unfold ydt
 simp (disch:=first|omega|decide) only[push_cast,↓reduceIte,Nat.reduceEqDiff]
 refine yag (fun h2=>?_) (fun h2=>?_)
 ·have hlt:i<l.length:=by omega
  rw[yFy _ _ hlt]at hh
  have hix:=fun st=>yZc st l false i hlt
  generalize l.getD i default=x at*
  by_cases hx:n=x
  ·rw[if_pos hx]at hh
   subst hx
   have h1:decide (n=n)=true:=by simp
   simp (disch:=first|omega|decide) only[push_cast,↓reduceIte,Nat.reduceEqDiff,Int.reduceNeg,hix,ySx,yOo,yhp,hh]
  ·rw[if_neg hx]at hh
   simp (disch:=first|omega|decide) only[push_cast,↓reduceIte,Nat.reduceEqDiff,Nat.reduceLT,Nat.reduceLeDiff,hix,ySx,yOo,yhp,hx,yax]
   refine yai (i+1) (by exact⟨by omega,hh⟩) (by omega) ?_
   simp only[push_cast,yWn,Yjt] <;> rfl
 ·obtain rfl:i=l.length:=by omega
  rw[List.drop_length]at hh
  simp (disch:=first|omega|decide) only[push_cast,↓reduceIte,Int.reduceNeg,hh,ixG]
theorem c_ixK:Contract Tryz.prog GG 161 yVo:=
 yac yht (yao all_nil all_nil) (fun a h=>w_ixK a.1 a.2 h)
noncomputable def yN5:List D→Option D:=spOf (α:=List Ky×Ky) (fun a=>[.slc (nz 5 (a.1.map kyD)) (a.1.map kyD) false,kyD a.2]) (fun a=>a.1.length≤4294967296) (fun a=>.bool (decide (a.2∈a.1)))
theorem Yh1(l:List Ky)(n:Ky)(h:l.length≤4294967296):yN5 [.slc (nz 5 (l.map kyD)) (l.map kyD) false,kyD n]=some (.bool (decide (n∈l))):=
 yae (fun⟨a0,a1⟩ ⟨b0,b1⟩ h=>by simp only[List.cons.injEq,D.slc.injEq,and_true,yFx,yFw]at h; simp[h]) (l,n) h
theorem w_ctK(l:List Ky)(n:Ky)(h:l.length≤4294967296):@wW GG (tb [(161,yVo)] []) ya9.code (argF [.slc (nz 5 (l.map kyD)) (l.map kyD) false,kyD n]) [] ⟨retQ ya9.res (.bool (decide (n∈l)))⟩:=by
 unfold ya9
 have c1:=Yhv l n h
 have m:=(yYx n l 0).1
 generalize ixG n l 0=z at*
 by_cases hz:0≤z
 ·have hm:decide (n∈l)=true:=by simp[m.1 hz]
  simp (disch:=first|omega|decide) only[push_cast,↓reduceIte,Nat.reduceEqDiff,yos,ySx,ypy,c1,hz,hm]
 ·have hm:decide (n∈l)=false:=by simp; exact fun q=>hz (m.2 q)
  simp (disch:=first|omega|decide) only[push_cast,↓reduceIte,Nat.reduceEqDiff,yos,ySx,ypy,c1,hz,hm]
theorem c_ctK:Contract Tryz.prog GG 126 yN5:=
 yac ygu (yao (all_cons c_ixK all_nil) all_nil) (fun a h=>w_ctK a.1 a.2 h)
theorem RepV.emptyT{w:World}{g:Ghost}{st:St}{sz sz':Nat}{v:Value}(h:RepV w g st (.slc sz [] true) v):RepV w g st (.slc sz' [] true) v:=by
 cases h with
 |slcE _ _ a cap h=>exact .slcE _ _ a cap h
 |slc _ _ b off cap _ val h1=>exact absurd rfl h1
noncomputable def Yi8:List D→St→Option (D×St):=siOf (α:=List Ky×St) (fun a=>([.slc (nz 5 (a.1.map kyD)) (a.1.map kyD) false],a.2)) (fun a=>a.1.length≤4294900000)
 (fun a=>if a.1=[]then(.slc 0 [] true,a.2)else(.row a.2.length a.1.length 0 a.1.length,a.2++[⟨true,5,a.1.map kyD,false⟩]))
theorem Yh3(l:List Ky)(st:St)(h:l.length≤4294900000):Yi8 [.slc (nz 5 (l.map kyD)) (l.map kyD) false] st=some (if l=[]then(.slc 0 [] true,st)else(.row st.length l.length 0 l.length,st++[⟨true,5,l.map kyD,false⟩])):=
 yt2 (fun a b e=>by
  simp only[Prod.mk.injEq,List.cons.injEq,D.slc.injEq,yFw,and_true]at e
  rw[e.1.2,e.2]) ((l,st):List Ky×St) h rfl
def cl0:List PI:=[{dst:=some 2,op:=.mov (.c (.slc 0 [] true))}]
def clA:PC:=.seq (.ops [{dst:=some 2,op:=.mov (.c (.slc 0 [] true))}]) .ret
def clB:PC:=.seq (.ops [{dst:=some 5,op:=.bslc 5 []},{dst:=some 6,op:=.mov (.s 0)},{dst:=some 7,op:=.app 5 40 (.s 5) (.s 6)},{dst:=some 2,op:=.mov (.s 7)}]) .ret
theorem Yhl(T:Tbl)(l:List Ky)(st:St)(h:l.length≤4294900000)(fr:Frame)(h0:fr 0=.slc (nz 5 (l.map kyD)) (l.map kyD) false) :
  ∃ fr',clB.exec GG T 0 ⟨fr,st⟩=some (.ret,⟨fr',if l=[]then st else st++[⟨true,5,l.map kyD,false⟩]⟩)∧fr' 2=if l=[]then .slc 5 [] true else .row st.length l.length 0 l.length:=by
 have e1:papp st 5 40 (.slc 5 [] true) (.slc (nz 5 (l.map kyD)) (l.map kyD) false)=some (if l=[]then .slc 5 [] true else .row st.length l.length 0 l.length,if l=[]then st else st++[⟨true,5,l.map kyD,false⟩]):=by
  by_cases hl:l=[]
  ·subst hl
   exact yIi st 5 40 5 0 [] false (by decide)
  ·have hne:l.map kyD≠[]:=by simpa using hl
   rw[yCj kyD st 5 5 40 l false (by decide) (by omega) (by omega),ywf _ _ _ hne,ysy _ _ hne,if_neg hl,if_neg hl,List.length_map]
 simp only[clB,PC.exec,ych,PI.exec,PI.wanted,POp.exec,rho,List.map_nil,imms,List.all_nil,Nat.reduceLT,decide_true,Bool.and_self,List.length_nil,Nat.zero_mul,Nat.zero_le,if_true,lend,List.flatMap_nil,Frame.put,Frame.set,h0,Nat.reduceEqDiff,if_false,show ¬ (5:Nat)=6 from by decide,show ¬ (0:Nat)=5 from by decide,show ¬ (0:Nat)=6 from by decide,e1]
 exact⟨_,rfl,rfl⟩
theorem Yjw:IContract Tryz.prog GG 127 Yi8:=by
 refine Yhk (T:=tb [] []) (il:=[]) (yao all_nil all_nil) rfl (l0:=cl0) (pA:=clA) (pB:=clB) (res:=[.tmp 2]) (t3:=3) (e:=58) Tryz.func127 (by kernel_rfl) rfl (by kernel_rfl) (by kernel_rfl) (by kernel_rfl) (by kernel_rfl) (by kernel_rfl) rfl rfl rfl (by decide) Tryz.underlying63 ?_
 intro ds st d st' hx
 obtain⟨⟨l,st0⟩,ha,hp,hr⟩:=yEz hx
 simp only[Prod.mk.injEq]at ha
 obtain⟨rfl,rfl⟩:=ha
 dsimp only at hp hr
 refine⟨_,_,_,(argF [.slc (nz 5 (l.map kyD)) (l.map kyD) false]).set 2 (.slc 0 [] true),rfl,rfl,rfl,fun he=>?_,?_⟩
 ·obtain rfl:l=[]:=by simpa using he
  rw[if_pos rfl]at hr
  simp only[Prod.mk.injEq]at hr
  obtain⟨rfl,rfl⟩:=hr
  exact⟨0,_,_,rfl,rfl,rfl,fun w g v h=>h.emptyT⟩
 ·obtain⟨fr',h1,h2⟩:=Yhl (tb [] []) l st0 hp ((((argF [.slc (nz 5 (l.map kyD)) (l.map kyD) false]).set 2 (.slc 0 [] true)).set 3 (.slc (nz 5 (l.map kyD)) (l.map kyD) false)).set 4 (.bool false)) rfl
  by_cases hl:l=[]
  ·subst hl
   rw[if_pos rfl]at hr h2
   simp only[Prod.mk.injEq]at hr
   obtain⟨rfl,rfl⟩:=hr
   exact⟨0,_,[.slc 5 [] true],h1,by rw[if_pos rfl],by simp only[yE5,yE6,h2]; rfl,fun w g v h=>h.emptyT⟩
  ·rw[if_neg hl]at hr h2
   simp only[Prod.mk.injEq]at hr
   obtain⟨rfl,rfl⟩:=hr
   exact⟨0,_,[.row st0.length l.length 0 l.length],h1,by rw[if_neg hl],by simp only[yE5,yE6,h2]; rfl,fun w g v h=>h⟩
theorem yYn(l:List Ky):yaq (kysD l)=true:=by
 simp[yaq,yuc]
theorem yAx(x:Cse){p:D→Bool}(h0:∀ k n,p (.int k n)=true)(h1:∀ b,p (.bool b)=true){j:D}(h2:p j=true):(cseC x j).all p=true:=by
 have hd:∀ d,(digC d).all p=true:=fun d=>yeu (fun b=>h0 _ _) d
 refine yjj h0 fun s hs=>?_
 simp only[cseS,kyS,bisS,List.cons_append,List.nil_append,List.mem_cons,List.not_mem_nil,or_false]at hs
 rcases hs with rfl | rfl | rfl | rfl | rfl | rfl | rfl | rfl | rfl | rfl | rfl | rfl | rfl | rfl | rfl | rfl | rfl | rfl | rfl | rfl | rfl | rfl | rfl | rfl | rfl | rfl | rfl | rfl | rfl | rfl | rfl <;> simp[Sg.cs,h0,h1,h2,hd]
theorem yjm(x:Cse){j:D}(hj:j.isCell=true):(cseC x j).all D.isCell=true:=yAx x (fun _ _=>rfl) (fun _=>rfl) hj
theorem ymw(x:Cse):(cseC x (kysD x.jn)).all yaq=true:=yAx x (fun _ _=>rfl) (fun _=>rfl) (yYn _)
theorem yar(x:Cse):boxD (cseD x)=some (cseC x (kysD x.jn)):=by
 simp only[boxD,cseD,D.cells,yjm x (j:=kysD x.jn) rfl,if_true]
theorem yak(st:St)(x:Cse):imm st (cseD x)=some (cseD x):=ymf st (ymw x)
theorem yas(x:Cse):keys (cseD x)=[]:=yjs (ymw x)
section
variable (x:Cse) (j:D) (sz:Nat) (lent:Bool)
theorem yb4:ldO (some ⟨false,sz,cseC x j,lent⟩) 1 false 7=some (.int .i64 x.ph):=ybv (l:=cseS x j) rfl rfl (yeg x j)
theorem ygp:ldO (some ⟨false,sz,cseC x j,lent⟩) 1 false 8=some (.int .i64 x.dl):=ybv (l:=cseS x j) rfl rfl (yeg x j)
theorem Yjj:ldO (some ⟨false,sz,cseC x j,lent⟩) 1 false 11=some (.int .i64 x.c0.1):=ybv (l:=cseS x j) rfl rfl (yeg x j)
theorem Yji:ldO (some ⟨false,sz,cseC x j,lent⟩) 1 false 44=some (.int .i64 x.c1.1):=ybv (l:=cseS x j) rfl rfl (yeg x j)
theorem yCq:ldO (some ⟨false,sz,cseC x j,lent⟩) 1 false 275=some (.int .i64 x.wn):=ybv (l:=cseS x j) rfl rfl (yeg x j)
theorem yPc:ldO (some ⟨false,sz,cseC x j,lent⟩) 1 false 276=some (.int .i64 x.am):=ybv (l:=cseS x j) rfl rfl (yeg x j)
theorem yYg:ldO (some ⟨false,sz,cseC x j,lent⟩) 1 false 277=some (.int .i64 x.ct):=ybv (l:=cseS x j) rfl rfl (yeg x j)
theorem yYf:ldO (some ⟨false,sz,cseC x j,lent⟩) 1 false 278=some j:=ybv (l:=cseS x j) rfl rfl (yeg x j)
theorem yly:ldO (some ⟨false,sz,cseC x j,lent⟩) 5 true 0=some (kyD x.key):=yd3 (l:=cseS x j) rfl rfl (yeg x j) rfl
theorem yFt:ldO (some ⟨false,sz,cseC x j,lent⟩) 2 true 5=some (.agg [.int .i64 x.p0,.int .i64 x.p1]):=yd3 (l:=cseS x j) rfl rfl (yeg x j) rfl
theorem ySu:ldO (some ⟨false,sz,cseC x j,lent⟩) 2 true 9=some (.agg [.int .i64 x.a0,.int .i64 x.a1]):=yd3 (l:=cseS x j) rfl rfl (yeg x j) rfl
theorem yrn:ldO (some ⟨false,sz,cseC x j,lent⟩) 33 true 11=some (.agg (.int .i64 x.c0.1::digC x.c0.2)):=yd3 (l:=cseS x j) rfl rfl (yeg x j) (by simp[flat,Sg.cs])
theorem yrm:ldO (some ⟨false,sz,cseC x j,lent⟩) 33 true 44=some (.agg (.int .i64 x.c1.1::digC x.c1.2)):=yd3 (l:=cseS x j) rfl rfl (yeg x j) (by simp[flat,Sg.cs])
theorem Yfz:ldO (some ⟨false,sz,cseC x j,lent⟩) 2 true 144=some (.agg [.bool x.b.t0,.bool x.b.t1]):=yd3 (l:=cseS x j) rfl rfl (yeg x j) rfl
theorem yI0:ldO (some ⟨false,sz,cseC x j,lent⟩) 198 true 77=some (bisD x.b):=yd3 (l:=cseS x j) rfl rfl (yeg x j) (by rw[bisD,← ywg]; rfl)
def cm2C(a b:Int×Dig):List D:=(.int .i64 a.1::digC a.2)++(.int .i64 b.1::digC b.2)
theorem yIz:ldO (some ⟨false,sz,cseC x j,lent⟩) 66 true 11=some (.agg (cm2C x.c0 x.c1)):=yd3 (l:=cseS x j) rfl rfl (yeg x j) (by simp[flat,Sg.cs,cm2C])
theorem ya4:ldO (some ⟨false,sz,cseC x j,lent⟩) 279 true 0=some (.agg (cseC x j)):=yh0 sz lent _ 279 (yc8 x j)
end
theorem ybr(x:Cse):D.agg (cseC x (kysD x.jn))=cseD x:=rfl
theorem yei:ycf=cseC ybj (.slc 0 [] true):=(rfl)
noncomputable def ypi:List D→Option D:=spOf (α:=Int) (fun a=>[.int .i64 a]) (fun a=>True) (fun a=>.bool (decide (yh6 a)))
theorem yst(n:Int):ypi [.int .i64 n]=some (.bool (decide (yh6 n))):=
 yae (fun a b h=>by simp only[List.cons.injEq,D.int.injEq,true_and,and_true]at h; simp[h]) (n) trivial
theorem Ycy(n:Int):@wW GG (tb [] []) yik.code (argF [.int .i64 n]) [] ⟨retQ yik.res (.bool (decide (yh6 n)))⟩:=by
 unfold yik
 by_cases h1:-9007199254740992≤n
 ·by_cases h2:n≤9007199254740992
  ·have e:decide (yh6 n)=true:=decide_eq_true ⟨h1,h2⟩
   simp (disch:=first|omega|decide) only[push_cast,↓reduceIte,Nat.reduceEqDiff,Int.reduceNeg,h1,h2,e]
  ·have e:decide (yh6 n)=false:=decide_eq_false fun q=>h2 q.2
   simp (disch:=first|omega|decide) only[push_cast,↓reduceIte,Nat.reduceEqDiff,Int.reduceNeg,h1,h2,e]
 ·have e:decide (yh6 n)=false:=decide_eq_false fun q=>h1 q.1
  simp (disch:=first|omega|decide) only[push_cast,↓reduceIte,Nat.reduceEqDiff,Int.reduceNeg,h1,e]
theorem yGo:Contract Tryz.prog GG 64 ypi:=
 yac yyl (yao all_nil all_nil) (fun a h=>Ycy a)
noncomputable def ytp:List D→Option D:=spOf (α:=Cse) (fun a=>[cseD a]) (fun a=>True) (fun a=>.bool (decide (ygv a)))
theorem ymy(x:Cse):ytp [cseD x]=some (.bool (decide (ygv x))):=
 yae (fun a b h=>by simp only[List.cons.injEq,and_true,yjn]at h; simp[h]) (x) trivial
theorem Ykm(x:Cse):@wW GG (tb [] []) yhi.code (argF [cseD x]) [] ⟨retQ yhi.res (.bool (decide (ygv x)))⟩:=by
 unfold yhi
 by_cases h1:x.ph=1
 ·have e:decide (ygv x)=true:=by simp[ygv,h1]
  simp (disch:=first|omega|decide) only[push_cast,↓reduceIte,Nat.reduceEqDiff,yar,yb4,h1,e]
 by_cases h2:x.ph=2
 ·have e:decide (ygv x)=true:=by simp[ygv,h2]
  have g:=eq_true h2
  simp (disch:=first|omega|decide) only[push_cast,↓reduceIte,Nat.reduceEqDiff,yar,yb4,h1,g,e]
 by_cases h3:x.ph=3
 ·have e:decide (ygv x)=true:=by simp[ygv,h3]
  have g:=eq_true h3
  simp (disch:=first|omega|decide) only[push_cast,↓reduceIte,Nat.reduceEqDiff,yar,yb4,h1,h2,g,e]
 ·have e:decide (ygv x)=false:=by simp[ygv,h1,h2,h3]
  simp (disch:=first|omega|decide) only[push_cast,↓reduceIte,Nat.reduceEqDiff,yar,yb4,h1,h2,h3,e]
theorem Ybl:Contract Tryz.prog GG 74 ytp:=
 yac yw7 (yao all_nil all_nil) (fun a h=>Ykm a)
noncomputable def yxr:List D→Option D:=spOf (α:=Cse) (fun a=>[cseD a]) (fun a=>True) (fun a=>.bool (decide (ysb a)))
theorem yDf(x:Cse):yxr [cseD x]=some (.bool (decide (ysb x))):=
 yae (fun a b h=>by simp only[List.cons.injEq,and_true,yjn]at h; simp[h]) (x) trivial
theorem Ykn(x:Cse):@wW GG (tb [] []) ylr.code (argF [cseD x]) [] ⟨retQ ylr.res (.bool (decide (ysb x)))⟩:=by
 unfold ylr
 by_cases h1:x.ph=4
 ·have e:decide (ysb x)=true:=by simp[ysb,h1]
  simp (disch:=first|omega|decide) only[push_cast,↓reduceIte,Nat.reduceEqDiff,yar,yb4,h1,e]
 by_cases h2:x.ph=5
 ·have e:decide (ysb x)=true:=by simp[ysb,h2]
  have g:=eq_true h2
  simp (disch:=first|omega|decide) only[push_cast,↓reduceIte,Nat.reduceEqDiff,yar,yb4,h1,g,e]
 by_cases h3:x.ph=6
 ·have e:decide (ysb x)=true:=by simp[ysb,h3]
  have g:=eq_true h3
  simp (disch:=first|omega|decide) only[push_cast,↓reduceIte,Nat.reduceEqDiff,yar,yb4,h1,h2,g,e]
 ·have e:decide (ysb x)=false:=by simp[ysb,h1,h2,h3]
  simp (disch:=first|omega|decide) only[push_cast,↓reduceIte,Nat.reduceEqDiff,yar,yb4,h1,h2,h3,e]
theorem Ybm:Contract Tryz.prog GG 31 yxr:=
 yac yD4 (yao all_nil all_nil) (fun a h=>Ykn a)
def dig1(b:UInt8):Dig:=⟨b::List.replicate 31 0,by simp⟩
theorem yZ4(b:UInt8):yam (digC yab) [(0,1,yaf b)]=some (digC (dig1 b)):=by
 have h:digC yab=(List.replicate 32 (0:UInt8)).map yaf:=rfl
 rw[h,yg5 yaf (fun _=>rfl) _ _ _ _ (by simp),yjk]
 rfl
def bis0(h l i:Int)(a b:Dig)(r:Int):Bis:=⟨h,l,i,a,b,false,false,yab,yab,yab,yab,r⟩
theorem dp1:yan 1=0:=by decide +kernel
abbrev tCommit:Ty:=.agg [.int .i64,.agg (List.replicate 32 (.int .u8))]
def nextI(a b:List Dig)(lv i:Int):Int:=if Ysx a (lv - 1).toNat (2*i)=Ysx b (lv - 1).toNat (2*i)then 2*i+1 else 2*i
def idxS(a b:List Dig)(h:Int):Nat→Int
 |0=>0
 |k+1=>nextI a b (h - k) (idxS a b h k)
variable {c:List Ins} {v:Int×List Int} {x:Cse} {m:Mv} {now:Int}
theorem ysa(h:yd5 c v x m now≠0):yfw c v x m now=ybj:=if_neg h
theorem yt6(h:yd5 c v x m now=0):yfw c v x m now=(yed c v x m now).1:=if_pos h
theorem yId(h:¬ ygv x):yd5 c v x m now=400:=if_neg h
def argP(m:Mv)(now:Int):Prop:=(1≤m.kd∧m.kd≤7)∧0≤now∧now≤1073741824∧(m.pt=0∨m.pt=1)
theorem Yes(h:ygv x)(h2:¬ argP m now):yd5 c v x m now=1:=by
 unfold yd5; rw[if_pos h]; exact if_neg h2
theorem yIc(h:ygv x)(h2:argP m now)(h3:¬ now≤x.dl):yd5 c v x m now=401:=by
 unfold yd5 argP at *; rw[if_pos h,if_pos h2]; exact if_neg h3
theorem yt7(h:ygv x)(h2:argP m now)(h3:now≤x.dl):yd5 c v x m now=(yed c v x m now).2:=by
 unfold yd5 argP at *; rw[if_pos h,if_pos h2]; exact if_pos h3
def Ysw(x:Cse)(m:Mv):Prop:=((m.kd=1∨m.kd=6)∧(m.pt=0∨x.ph≠1))∨(m.kd=4∧m.pt=1)∨(m.kd=7∧(m.pt=1∨x.ph≠1))∨(m.kd=2∧x.ph≠2)∨(m.kd=3∧x.ph≠3)
theorem yOq(h:ygv x)(h2:argP m now)(h3:now≤x.dl)(hn:Ysw x m):yd5 c v x m now=380:=by
 rw[yt7 h h2 h3]
 unfold yed
 rcases hn with⟨hk | hk,hp⟩ | ⟨hk,hp⟩ | ⟨hk,hp⟩ | ⟨hk,hp⟩ | ⟨hk,hp⟩
 ·rw[if_pos hk]; unfold yBu; rw[if_neg (by omega)]
 ·rw[if_neg (by omega),if_neg (by omega),if_neg (by omega),if_neg (by omega),if_neg (by omega),if_pos hk]; unfold yBs; rw[if_neg (by omega)]
 ·rw[if_neg (by omega),if_neg (by omega),if_neg (by omega),if_pos hk]; unfold yKw; rw[if_neg (by omega)]
 ·rw[if_neg (by omega),if_neg (by omega),if_neg (by omega),if_neg (by omega),if_neg (by omega),if_neg (by omega)]; unfold ykn; rw[if_neg (by omega)]
 ·rw[if_neg (by omega),if_pos hk]; unfold yTs; rw[if_neg hp]
 ·rw[if_neg (by omega),if_neg (by omega),if_pos hk]; unfold yR8 yi3; rw[if_neg (by simp[hp])]
structure Keep (x y:Cse):Prop where
 key:y.key=x.key
 p0:y.p0=x.p0
 p1:y.p1=x.p1
 a0:y.a0=x.a0
 c0:y.c0=x.c0
 dl:y.ph≤3→x.dl≤y.dl
theorem Keep.refl(x:Cse):Keep x x:=⟨rfl,rfl,rfl,rfl,rfl,fun _=>Int.le_refl _⟩
structure Live (x:Cse) (now:Int):Prop where
 ph:1≤x.ph∧x.ph≤6
 dl:x.ph≤3→x.dl≤now+1440
 wn:-1≤x.wn∧x.wn≤1
 bv:ykh x.b=true
theorem Yqq(x:Cse)(n:Int):-1≤idx2 x n∧idx2 x n≤1:=by
 unfold idx2; split
 ·omega
 ·split <;> omega
theorem yI7(cl:Dig×Dig)(d:Dig):-1≤yzz cl d∧yzz cl d≤1:=by
 unfold yzz; split
 ·omega
 ·split <;> omega
theorem yrt(cl:Dig×Dig)(r:Dig×Int):-1≤(yip cl r).1∧(yip cl r).1≤1:=by
 unfold yip; split
 ·exact yI7 ..
 ·simp
def yf3(st:St)(k:Nat)(p:Ply):Prop:=st[k]?=some ⟨false,1,plyC p,false⟩
theorem yfe{st:St}{k:Nat}{p:Ply}(h:yf3 st k p):k<st.length:=(List.getElem?_eq_some_iff.1 h).1
theorem Yhp{a b:List Ins}:cdD a=cdD b↔a=b:=by
 refine⟨fun h=>?_,fun h=>by rw[h]⟩
 simp only[cdD,D.slc.injEq,and_true]at h
 exact yea.1 h.2
theorem yOm{p q:Ply}(h:plyC p=plyC q)(hp:p.j=kysD p.x.jn)(hq:q.j=kysD q.x.jn):p=q:=by
 obtain⟨px,pj,pc,pv,pm,pn,phv⟩:=p
 obtain⟨qx,qj,qc,qv,qm,qn,qhv⟩:=q
 dsimp only at hp hq
 simp only[plyC,plyS,yfi,List.append_assoc]at h
 obtain⟨h1,h2⟩:=List.append_inj h ((yc8 px pj).trans (yc8 qx qj).symm)
 simp only[flat,Sg.cs,List.cons_append,List.nil_append,List.append_nil,List.cons.injEq,Yhp]at h2
 obtain⟨rfl,h3⟩:=h2
 obtain⟨h4,h5⟩:=List.append_inj h3 ((ybi phv).trans (ybi qhv).symm)
 obtain⟨h6,h7⟩:=List.append_inj h5 ((yqw pm).trans (yqw qm).symm)
 simp only[List.cons.injEq,D.int.injEq,true_and,and_true]at h7
 obtain rfl:=h7
 obtain rfl:=yMi.1 (congrArg D.agg h6)
 obtain rfl:=yh2.1 (congrArg D.agg h4)
 obtain⟨h8,h9⟩:=yGh h1
 subst h9
 have h10:px.jn=qx.jn:=yxx.1 (hp.symm.trans hq)
 have:px=qx:=by
  obtain⟨xk,x0,x1,x2,x3,x4,x5,xc,xe,xb,x6,x7,x8,xj⟩:=px
  obtain⟨yk,y0,y1,y2,y3,y4,y5,yc,ye,yb,y6,y7,y8,yj⟩:=qx
  simp only[Cse.mk.injEq,and_true]at h8 h10 ⊢
  exact⟨h8.1,h8.2.1,h8.2.2.1,h8.2.2.2.1,h8.2.2.2.2.1,h8.2.2.2.2.2.1,h8.2.2.2.2.2.2.1,h8.2.2.2.2.2.2.2.1,h8.2.2.2.2.2.2.2.2.1,h8.2.2.2.2.2.2.2.2.2.1,h8.2.2.2.2.2.2.2.2.2.2.1,h8.2.2.2.2.2.2.2.2.2.2.2.1,h8.2.2.2.2.2.2.2.2.2.2.2.2,h10⟩
 subst this
 rfl
section
variable {α:Type} (enc:α→List D) (pre:Ply→α→Prop) (F:Ply→α→Cse×Int×St)
def ypq(ds:List D)(st:St)(r:D×Int×St):Prop:=∃ (k:Nat) (p:Ply) (a:α),p.j=kysD p.x.jn∧yf3 st k p∧pre p a∧ds=.ptr k 0::enc a∧r=(.tup [],(F p a).2.1,mset st k (plyC {p with x:=(F p a).1})++(F p a).2.2)
variable {enc pre F}
theorem yjf(hi:∀ a b,enc a=enc b→a=b):FnlK (ypq enc pre F):=by
 rintro ds st r r' ⟨k,p,a,hj,hk,_,rfl,rfl⟩ ⟨k',p',a',hj',hk',_,h,rfl⟩
 simp only[List.cons.injEq,D.ptr.injEq,and_true]at h
 obtain⟨rfl,h⟩:=h
 obtain rfl:=hi _ _ h
 unfold yf3 at hk hk'
 rw[hk]at hk'
 simp only[Option.some.injEq,PI.Obj.mk.injEq,true_and,and_true]at hk'
 obtain rfl:=yOm hk' hj hj'
 rfl
theorem yvw(hi:∀ a b,enc a=enc b→a=b){st:St}{k:Nat}{p:Ply}{a:α}(hj:p.j=kysD p.x.jn)(hk:yf3 st k p)(hp:pre p a)(h0:(F p a).2.1=0) :
  siK (ypq enc pre F) (.ptr k 0::enc a) st=some (.tup [],mset st k (plyC {p with x:=(F p a).1})++(F p a).2.2):=
 yHr (yjf hi) ⟨k,p,a,hj,hk,hp,rfl,by rw[h0]⟩
theorem Ymv(hi:∀ a b,enc a=enc b→a=b){st:St}{k:Nat}{p:Ply}{a:α}(hj:p.j=kysD p.x.jn)(hk:yf3 st k p)(hp:pre p a)(h0:(F p a).2.1≠0) :
  siK (ypq enc pre F) (.ptr k 0::enc a) st=none:=yHs (yjf hi) ⟨k,p,a,hj,hk,hp,rfl,rfl⟩ h0
theorem Ys6(hi:∀ a b,enc a=enc b→a=b){st:St}{k:Nat}{p:Ply}{a:α}(hj:p.j=kysD p.x.jn)(hk:yf3 st k p)(hp:pre p a)(h0:(F p a).2.1≠0) :
  sxK (ypq enc pre F) (.ptr k 0::enc a) st=some (125,.int .i64 (F p a).2.1,mset st k (plyC {p with x:=(F p a).1})++(F p a).2.2):=
 yyt (yjf hi) ⟨k,p,a,hj,hk,hp,rfl,rfl⟩ h0
end
theorem ybu{st:St}{k:Nat}{p:Ply}(h:yf3 st k p)(l:St):yf3 (st++l) k p:=by
 unfold yf3; rw[yc7 (yfe h)]; exact h
theorem yj2{st:St}{k:Nat}(h:k<st.length)(p:Ply):yf3 (mset st k (plyC p)) k p:=yg0 h _
theorem yiu{st:St}{k:Nat}{p:Ply}(h:yf3 st k p):mset st k (plyC p)=st:=by
 unfold yf3 at h
 obtain⟨h1,h2⟩:=List.getElem?_eq_some_iff.1 h
 unfold mset
 rw[← h2,List.set_getElem_self]
def yl3:Unit→List D:=fun _=>[]
def eInt:Int→List D:=fun n=>[.int .i64 n]
def eTwo:Int×Int→List D:=fun a=>[.int .i64 a.1,.int .i64 a.2]
theorem ye7:∀ a b,yl3 a=yl3 b→a=b:=fun _ _ _=>rfl
theorem yGe:∀ a b,eInt a=eInt b→a=b:=fun a b h=>by simpa[eInt]using h
theorem yP4:∀ a b,eTwo a=eTwo b→a=b:=fun a b h=>by
 simp only[eTwo,List.cons.injEq,D.int.injEq,true_and,and_true]at h
 exact Prod.ext h.1 h.2
def cloF(p:Ply)(a:Int×Int):Cse×Int×St:=(ygm p.x a.1 a.2,0,[])
abbrev RClo:=ypq eTwo (fun _ _=>True) cloF
theorem yGl:CK 125 RClo:=by
 refine yj9 (T:=tb [] []) yjy (yao all_nil all_nil) ?_
 rintro ds st d e st' ⟨k,p,⟨w,a⟩,hj,hk,_,rfl,h⟩
 simp only[Prod.mk.injEq]at h
 obtain⟨rfl,rfl,rfl⟩:=h
 have hlt:=yfe hk
 unfold yf3 at hk
 unfold yhh
 simp (disch:=first|omega|decide) only[push_cast,↓reduceIte,Nat.reduceEqDiff,eTwo,cloF,ygm,yad,hk,yHl,Yi5,Yrw,ybz,yg0 hlt,yd1,List.append_nil,and_true]
noncomputable abbrev TClo:Tbl:=tb [] [(125,siK RClo)]
theorem ywe{st:St}{k:Nat}{p:Ply}(hj:p.j=kysD p.x.jn)(hk:yf3 st k p)(w a:Int):siK RClo [.ptr k 0,.int .i64 w,.int .i64 a] st=some (.tup [],mset st k (plyC {p with x:=ygm p.x w a})):=by
 have:=yvw (F:=cloF) (pre:=fun _ _=>True) yP4 (a:=(w,a)) hj hk trivial rfl
 rw[show(cloF p (w,a)).2.2=[]from rfl,List.append_nil]at this
 exact this
def rulF(p:Ply)(a:Int):Cse×Int×St:=(yek p.x a,0,[])
abbrev RRul:=ypq eInt (fun _ a=>a≤1) rulF
theorem yGk:CK 79 RRul:=by
 refine yj9 (T:=TClo) ykr (yao all_nil (all_cons yGl.1 all_nil)) ?_
 rintro ds st d e st' ⟨k,p,a,hj,hk,ha,rfl,h⟩
 simp only[Prod.mk.injEq]at h
 obtain⟨rfl,rfl,rfl⟩:=h
 have hlt:=yfe hk
 have cc:=fun w a=>ywe hj hk w a
 unfold yf3 at hk
 unfold yia
 by_cases h1:a<0
 ·simp (disch:=first|omega|decide) only[push_cast,↓reduceIte,Nat.reduceEqDiff,Int.reduceNeg,eInt,rulF,yek,h1,cc,List.append_nil,and_true]
 ·have h2:a=0∨a=1:=by omega
  rcases h2 with rfl | rfl
  ·have e:yek p.x 0=ygm p.x 0 p.x.a0:=by unfold yek yKr; rw[if_neg (by omega),if_pos rfl]
   simp (disch:=first|omega|decide) only[push_cast,↓reduceIte,Nat.reduceEqDiff,Nat.reduceMul,Int.reduceNeg,eInt,rulF,e,h1,yad,hk,yah,yPb,cc,List.append_nil,and_true]
  ·have e:yek p.x 1=ygm p.x 1 p.x.a1:=by unfold yek yKr; rw[if_neg (by omega),if_neg (by omega)]
   simp (disch:=first|omega|decide) only[push_cast,↓reduceIte,Nat.reduceEqDiff,Nat.reduceAdd,Nat.reduceMul,Int.reduceNeg,eInt,rulF,e,h1,yad,hk,yah,yPa,cc,List.append_nil,and_true]
theorem yp9{st:St}{k:Nat}{p:Ply}(hj:p.j=kysD p.x.jn)(hk:yf3 st k p){a:Int}(ha:a≤1):siK RRul [.ptr k 0,.int .i64 a] st=some (.tup [],mset st k (plyC {p with x:=yek p.x a})):=by
 have:=yvw (F:=rulF) (pre:=fun _ a=>a≤1) yGe (a:=a) hj hk ha rfl
 rw[show(rulF p a).2.2=[]from rfl,List.append_nil]at this
 exact this
theorem Yt6{st:St}{k:Nat}{p:Ply}(hk:st[k]?=some ⟨false,1,plyC p,false⟩):imm st (.bsl k 9 2 1 false)=some (.slc 1 [.int .i64 p.x.a0,.int .i64 p.x.a1] false):=by
 have h1:ylb st k 9 2 1 false=some [.int .i64 p.x.a0,.int .i64 p.x.a1]:=by
  unfold ylb
  rw[hk]
  dsimp only
  rw[yL3,if_pos (by decide)]
  rfl
 simp only[imm,imm1,bslI,h1]
 rfl
def judF(p:Ply)(n:Int):Cse×Int×St:=(yS2 p.x n,0,[])
abbrev RJud:=ypq eInt (fun _ _=>True) judF
theorem yQc:CK 120 RJud:=by
 refine yj9 (T:=tb [(160,yN4)] [(125,siK RClo)]) yrz (yao (all_cons c_ixI all_nil) (all_cons yGl.1 all_nil)) ?_
 rintro ds st d e st' ⟨k,p,a,hj,hk,ha,rfl,h⟩
 simp only[Prod.mk.injEq]at h
 obtain⟨rfl,rfl,rfl⟩:=h
 have cc:=fun w a=>ywe hj hk w a
 have ci:yN4 [.slc 1 [.int .i64 p.x.a0,.int .i64 p.x.a1] false,.int .i64 a]=some (.int .i64 (idx2 p.x a)):=by
  have:=Yhw [p.x.a0,p.x.a1] a (by simp)
  rw[Yns]at this
  exact this
 unfold yf3 at hk
 have hi:=Yt6 hk
 have hs:ypo 2 1 false (.ptr k 9) none none=some (.bsl k 9 2 1 false):=rfl
 have hk1:keys (.bsl k 9 2 1 false)=[k]:=rfl
 unfold ylp
 simp (disch:=first|omega|decide) only[push_cast,↓reduceIte,Nat.reduceEqDiff,eInt,judF,yS2,yad,hs,hi,ci,cc,List.append_nil,and_true]
theorem ywd{st:St}{k:Nat}{p:Ply}(hj:p.j=kysD p.x.jn)(hk:yf3 st k p)(a:Int):siK RJud [.ptr k 0,.int .i64 a] st=some (.tup [],mset st k (plyC {p with x:=yS2 p.x a})):=by
 have:=yvw (F:=judF) (pre:=fun _ _=>True) yGe (a:=a) hj hk trivial rfl
 rw[show(judF p a).2.2=[]from rfl,List.append_nil]at this
 exact this
def yzl(p:Ply):Prop:=0≤p.now∧p.now≤1073741824
def extF(p:Ply)(_:Unit):Cse×Int×St:=({p.x with dl:=p.now+1440},0,[])
abbrev RExt:=ypq yl3 (fun p _=>yzl p) extF
theorem yuw:CK 118 RExt:=by
 refine yj9 (T:=tb [] []) yrd (yao all_nil all_nil) ?_
 rintro ds st d e st' ⟨k,p,a,hj,hk,ha,rfl,h⟩
 simp only[Prod.mk.injEq]at h
 obtain⟨rfl,rfl,rfl⟩:=h
 obtain⟨n1,n2⟩:=ha
 have hlt:=yfe hk
 unfold yf3 at hk
 unfold ykk
 simp (disch:=first|omega|decide) only[push_cast,↓reduceIte,Nat.reduceEqDiff,yl3,extF,yad,hk,Ym4,yax,Yru,ybz,List.append_nil,and_true]
theorem yn5{st:St}{k:Nat}{p:Ply}(hj:p.j=kysD p.x.jn)(hk:yf3 st k p)(hn:yzl p):siK RExt [.ptr k 0] st=some (.tup [],mset st k (plyC {p with x:={p.x with dl:=p.now+1440}})):=by
 have:=yvw (F:=extF) (pre:=fun p _=>yzl p) ye7 (a:=()) hj hk hn rfl
 rw[show(extF p ()).2.2=[]from rfl,List.append_nil]at this
 exact this
def stpF(p:Ply)(_:Unit):Cse×Int×St:=(yQt p.x p.now,0,[])
abbrev RStp:=ypq yl3 (fun p _=>yzl p) stpF
theorem Yaw:CK 121 RStp:=by
 refine yj9 (T:=tb [] [(118,siK RExt)]) ytd (yao all_nil (all_cons yuw.1 all_nil)) ?_
 rintro ds st d e st' ⟨k,p,a,hj,hk,ha,rfl,h⟩
 simp only[Prod.mk.injEq]at h
 obtain⟨rfl,rfl,rfl⟩:=h
 have hlt:=yfe hk
 have ce:=yn5 (st:=mset st k (plyC {p with x:={p.x with ph:=3}})) (k:=k) (p:={p with x:={p.x with ph:=3}}) hj (yj2 hlt _) ha
 unfold yf3 at hk
 unfold ym9
 simp (disch:=first|omega|decide) only[push_cast,↓reduceIte,Nat.reduceEqDiff,yl3,stpF,yQt,yad,hk,yHl,ybz,ce,yd1,List.append_nil,and_true]
theorem yQd{st:St}{k:Nat}{p:Ply}(hj:p.j=kysD p.x.jn)(hk:yf3 st k p)(hn:yzl p):siK RStp [.ptr k 0] st=some (.tup [],mset st k (plyC {p with x:=yQt p.x p.now})):=by
 have:=yvw (F:=stpF) (pre:=fun p _=>yzl p) ye7 (a:=()) hj hk hn rfl
 rw[show(stpF p ()).2.2=[]from rfl,List.append_nil]at this
 exact this
theorem ycw(st:St)(c:List Ins):imm st (cdD c)=some (cdD c):=ymf st (d:=cdD c) (by simp[cdD,ymg,yaq,yuc])
theorem yel(c:List Ins):keys (cdD c)=[]:=rfl
theorem n380:((380:Int)=0)=False:=by simp
theorem n381:((381:Int)=0)=False:=by simp
theorem n1e:((1:Int)=0)=False:=by simp
theorem n2e:((2:Int)=0)=False:=by simp
theorem n40:((40:Int)=0)=False:=by simp
theorem n390:((390:Int)=0)=False:=by simp
def vrdC(p:Int×Dig):List D:=.int .i64 p.1::digC p.2
def yRa(c:List Ins)(v:Int×List Int)(x:Cse):St:=⟨false,1,d2C (ykp x.b) (yko x.b),false⟩::(if yor x.b=true∧yv5 x.b=0 then [⟨false,1,vrdC (yip (ykp x.b,yko x.b) (yef c v)),false⟩]else [])
def setF(p:Ply)(_:Unit):Cse×Int×St:=((yr4 p.c p.v p.x p.now).1,(yr4 p.c p.v p.x p.now).2,yRa p.c p.v p.x)
def setQ(p:Ply)(_:Unit):Prop:=p.c.length≤4294967296∧yzl p
abbrev RSet:=ypq yl3 setQ setF
noncomputable abbrev TSet:Tbl:=tbx [(88,ytt),(14,ytv)] [(123,siK yzg),(79,siK RRul),(121,siK RStp)] [(123,sxK yzg)]
theorem yuv:CK 119 RSet:=by
 refine yj9 (T:=TSet) yrc (ytk (all_cons yNi (all_cons Yh8 all_nil)) (all_cons yv9.1 (all_cons yGk.1 (all_cons Yaw.1 all_nil))) (all_cons yv9.2 all_nil)) ?_
 rintro ds st d e st' ⟨k,p,a,hj,hk,⟨hc,hn⟩,rfl,h⟩
 simp only[Prod.mk.injEq]at h
 obtain⟨rfl,rfl,rfl⟩:=h
 have hlt:=yfe hk
 have hs:mset st k (plyC {p with x:=p.x})=st:=yiu hk
 have cd:=yq6 p.x.b
 have cf:ytv [cdD p.c,evD p.v,.agg (d2C (ykp p.x.b) (yko p.x.b))]=some (.tup [verD (yip (ykp p.x.b,yko p.x.b) (yef p.c p.v)),.int .i64 (yef p.c p.v).2]):=yNd p.c p.v (ykp p.x.b,yko p.x.b) ⟨by omega,p.hv⟩
 have hvr:=(yrt (ykp p.x.b,yko p.x.b) (yef p.c p.v)).2
 have cr:∀ l,_:=fun l=>yp9 (st:=st++l) hj (ybu hk l) hvr
 have cs:∀ l,_:=fun l=>yQd (st:=st++l) hj (ybu hk l) hn
 have hka:∀ l:St,(st++l)[k]?=some ⟨false,1,plyC p,false⟩:=fun l=>ybu hk l
 have hk':st[k]?=some ⟨false,1,plyC p,false⟩:=hk
 unfold ykj yl3 setF yr4 yRa
 by_cases h1:yor p.x.b=true
 ·by_cases h2:yv5 p.x.b=0
  ·by_cases h3:(yef p.c p.v).2=0
   ·have g2:=eq_true h2
    have g3:=eq_true h3
    rw[h1]at cd
    rw[h3]at cf
    simp (disch:=first|omega|decide) only[push_cast,↓reduceIte,Nat.reduceEqDiff,yad,hk',hka,ycw,yel,yba,yby,ydv,sp_t,verD,vrdC,List.append_assoc,List.cons_append,List.nil_append,List.append_nil,List.length_append,List.length_cons,List.length_nil,Nat.zero_add,getR,setR,ycg,ycn,ybo hlt,and_self,decide_true,yjg,yfg,yf7,cd,cf,cr,h1,g2,h3]
   ·have g2:=eq_true h2
    rw[h1]at cd
    simp (disch:=first|omega|decide) only[push_cast,↓reduceIte,Nat.reduceEqDiff,yad,hk',hka,ycw,yel,yba,yby,ydv,sp_f,yBm,hs,verD,vrdC,List.append_assoc,List.cons_append,List.nil_append,List.append_nil,List.length_append,List.length_cons,List.length_nil,Nat.zero_add,getR,setR,ycg,ycn,and_self,not_false_eq_true,decide_true,yjg,yfg,yf7,cd,cf,h1,g2,h3]
  ·rw[h1]at cd
   simp (disch:=first|omega|decide) only[push_cast,↓reduceIte,Nat.reduceEqDiff,yad,hk',Nat.zero_add,ycg,ycn,ybo hlt,and_self,and_false,decide_false,yjg,cd,cs,h1,h2]
 ·have h1':yor p.x.b=false:=by simpa using h1
  rw[h1']at cd
  simp (disch:=first|omega|decide) only[push_cast,↓reduceIte,Nat.reduceEqDiff,yad,hk',hs,Nat.zero_add,ycg,ycn,and_self,false_and,yjg,cd,h1',Bool.false_eq_true]
section
variable {st:St} {k:Nat} {p:Ply} (hj:p.j=kysD p.x.jn) (hk:yf3 st k p) (hc:p.c.length≤4294967296) (hn:yzl p)
include hj hk hc hn
theorem yQe(h:(yr4 p.c p.v p.x p.now).2=0):siK RSet [.ptr k 0] st=some (.tup [],mset st k (plyC {p with x:=(yr4 p.c p.v p.x p.now).1})++yRa p.c p.v p.x):=
 yvw (F:=setF) (pre:=setQ) ye7 (a:=()) hj hk ⟨hc,hn⟩ h
theorem yJ8(h:(yr4 p.c p.v p.x p.now).2≠0):siK RSet [.ptr k 0] st=none:=Ymv (F:=setF) (pre:=setQ) ye7 (a:=()) hj hk ⟨hc,hn⟩ h
theorem yJ7(h:(yr4 p.c p.v p.x p.now).2≠0):sxK RSet [.ptr k 0] st=some (125,.int .i64 (yr4 p.c p.v p.x p.now).2,mset st k (plyC {p with x:=(yr4 p.c p.v p.x p.now).1})++yRa p.c p.v p.x):=
 Ys6 (F:=setF) (pre:=setQ) ye7 (a:=()) hj hk ⟨hc,hn⟩ h
end
def witF(p:Ply)(_:Unit):Cse×Int×St:=((yKw p.x p.m).1,(yKw p.x p.m).2,[])
abbrev RWit:=ypq yl3 (fun _ _=>True) witF
theorem yAz:CK 69 RWit:=by
 refine yj9 (T:=TND) yo5 (ytk all_nil (all_cons yeo.1 all_nil) (all_cons yeo.2 all_nil)) ?_
 rintro ds st d e st' ⟨k,p,a,hj,hk,_,rfl,h⟩
 simp only[Prod.mk.injEq]at h
 obtain⟨rfl,rfl,rfl⟩:=h
 have hlt:=yfe hk
 have hs:mset st k (plyC {p with x:=p.x})=st:=yiu hk
 have hka:∀ l:St,(st++l)[k]?=some ⟨false,1,plyC p,false⟩:=fun l=>ybu hk l
 have hk':st[k]?=some ⟨false,1,plyC p,false⟩:=hk
 unfold yiy yl3 witF yKw
 by_cases h1:p.m.pt=0
 ·have g1:=eq_true h1
  simp (disch:=first|omega|decide) only[push_cast,↓reduceIte,Nat.reduceEqDiff,Nat.reduceAdd,yad,hk',sn_t,ybz,List.append_nil,Nat.zero_add,Nat.reduceAdd,and_self,decide_true,yat,g1,yHl,Yi5,yg0 hlt,yd1]
 ·simp (disch:=first|omega|decide) only[push_cast,↓reduceIte,Nat.reduceAdd,yad,hk',sn_f,sx_f,hs,List.append_nil,Nat.zero_add,Nat.reduceAdd,and_self,not_false_eq_true,decide_false,n380,yat,h1]
def conF(p:Ply)(_:Unit):Cse×Int×St:=((yGj p.x p.m).1,(yGj p.x p.m).2,[])
abbrev RCon:=ypq yl3 (fun _ _=>True) conF
theorem yC8:CK 70 RCon:=by
 refine yj9 (T:=tbx [] [(73,siK yj4),(79,siK RRul),(125,siK RClo)] [(73,sxK yj4)]) ype (ytk all_nil (all_cons yeo.1 (all_cons yGk.1 (all_cons yGl.1 all_nil))) (all_cons yeo.2 all_nil)) ?_
 rintro ds st d e st' ⟨k,p,a,hj,hk,_,rfl,h⟩
 simp only[Prod.mk.injEq]at h
 obtain⟨rfl,rfl,rfl⟩:=h
 have hlt:=yfe hk
 have hs:mset st k (plyC {p with x:=p.x})=st:=yiu hk
 have hka:∀ l:St,(st++l)[k]?=some ⟨false,1,plyC p,false⟩:=fun l=>ybu hk l
 have hk':st[k]?=some ⟨false,1,plyC p,false⟩:=hk
 have c1:=yp9 hj hk (a:=0) (by omega)
 have c2:=ywe hj hk 1 p.x.ct
 unfold yjc yl3 conF yGj
 by_cases h1:p.m.pt=1
 ·have g1:=eq_true h1
  simp (disch:=first|omega|decide) only[push_cast,↓reduceIte,Nat.reduceEqDiff,Nat.reduceAdd,yad,hk',List.append_nil,Nat.zero_add,Nat.reduceAdd,and_self,decide_true,yat,g1,c1]
 ·by_cases h2:0≤p.x.ct
  ·simp (disch:=first|omega|decide) only[push_cast,↓reduceIte,Nat.reduceEqDiff,Nat.reduceAdd,yad,hk',sn_t,List.append_nil,Nat.zero_add,Nat.reduceAdd,and_self,decide_true,decide_false,yat,yCp,h1,h2,c2]
  ·simp (disch:=first|omega|decide) only[push_cast,↓reduceIte,Nat.reduceEqDiff,Nat.reduceAdd,yad,hk',sn_f,sx_f,hs,List.append_nil,Nat.zero_add,Nat.reduceAdd,and_self,not_false_eq_true,decide_false,n380,yat,yCp,h1,h2]
def couF(p:Ply)(_:Unit):Cse×Int×St:=((yBs p.x p.m p.now).1,(yBs p.x p.m p.now).2,[])
abbrev RCou:=ypq yl3 (fun p _=>yzl p) couF
theorem yC7:CK 71 RCou:=by
 refine yj9 (T:=tbx [(64,ypi)] [(73,siK yj4),(118,siK RExt)] [(73,sxK yj4)]) ypd (ytk (all_cons yGo all_nil) (all_cons yeo.1 (all_cons yuw.1 all_nil)) (all_cons yeo.2 all_nil)) ?_
 rintro ds st d e st' ⟨k,p,a,hj,hk,hn,rfl,h⟩
 simp only[Prod.mk.injEq]at h
 obtain⟨rfl,rfl,rfl⟩:=h
 have hlt:=yfe hk
 have hs:mset st k (plyC {p with x:=p.x})=st:=yiu hk
 have hka:∀ l:St,(st++l)[k]?=some ⟨false,1,plyC p,false⟩:=fun l=>ybu hk l
 have hk':st[k]?=some ⟨false,1,plyC p,false⟩:=hk
 have ca:=yst p.m.am
 have ce:=yn5 (st:=mset st k (plyC {p with x:={p.x with ct:=p.m.am}})) (k:=k) (p:={p with x:={p.x with ct:=p.m.am}}) hj (yj2 hlt _) hn
 unfold yjb yl3 couF yBs
 by_cases h1:p.m.pt=1
 ·have g1:=eq_true h1
  by_cases h2:p.x.ph=1
  ·have g2:=eq_true h2
   by_cases h3:p.x.ct<0
   ·by_cases h4:0≤p.m.am
    ·by_cases h5:yh6 p.m.am
     ·simp only[h5,decide_true]at ca
      simp (disch:=first|omega|decide) only[push_cast,↓reduceIte,Nat.reduceEqDiff,Nat.reduceAdd,yad,hk',sn_t,ybz,List.append_nil,Nat.zero_add,Nat.reduceAdd,and_self,decide_true,yat,yet,yCp,yrk,g1,g2,h3,h4,h5,ca,Yrv,ce,yd1]
     ·simp only[h5,decide_false]at ca
      simp (disch:=first|omega|decide) only[push_cast,↓reduceIte,Nat.reduceEqDiff,Nat.reduceAdd,yad,hk',sn_t,sn_f,sx_f,hs,List.append_nil,Nat.zero_add,Nat.reduceAdd,and_self,and_false,not_false_eq_true,decide_true,n1e,yat,yet,yCp,yrk,g1,g2,h3,h4,h5,ca]
    ·simp (disch:=first|omega|decide) only[push_cast,↓reduceIte,Nat.reduceEqDiff,Nat.reduceAdd,yad,hk',sn_t,sn_f,sx_f,hs,List.append_nil,Nat.zero_add,Nat.reduceAdd,and_self,false_and,not_false_eq_true,decide_true,decide_false,n1e,yat,yet,yCp,yrk,g1,g2,h3,h4]
   ·simp (disch:=first|omega|decide) only[push_cast,↓reduceIte,Nat.reduceEqDiff,Nat.reduceAdd,yad,hk',sn_f,sx_f,hs,List.append_nil,Nat.zero_add,Nat.reduceAdd,and_self,and_false,not_false_eq_true,decide_true,decide_false,n380,yat,yet,yCp,g1,g2,h3]
  ·simp (disch:=first|omega|decide) only[push_cast,↓reduceIte,Nat.reduceEqDiff,Nat.reduceAdd,yad,hk',sn_f,sx_f,hs,List.append_nil,Nat.zero_add,Nat.reduceAdd,and_self,and_false,false_and,not_false_eq_true,decide_true,decide_false,n380,yat,yet,g1,h2]
 ·simp (disch:=first|omega|decide) only[push_cast,↓reduceIte,Nat.reduceEqDiff,Nat.reduceAdd,yad,hk',sn_f,sx_f,hs,List.append_nil,Nat.zero_add,Nat.reduceAdd,and_self,false_and,not_false_eq_true,decide_false,n380,yat,h1]
def ansX(x:Cse)(m:Mv):Cse:={x with a1:=m.am,c1:=m.cm}
def ansY(x:Cse)(m:Mv)(now:Int):Cse:={x with a1:=m.am,c1:=m.cm,b:=ylc x.c0 m.cm,ph:=2,dl:=now+1440}
def Yv4(c:List Ins)(v:Int×List Int)(x:Cse)(m:Mv)(now:Int):St:=
 if m.pt=1∧x.ph=1 then
  if yh6 m.am then⟨false,1,bisC (ylc x.c0 m.cm),false⟩::(if ydw x.c0 m.cm=0 then yRa c v (ansY x m now)else [])
  else []
 else []
def ansF(p:Ply)(_:Unit):Cse×Int×St:=((yBu p.c p.v p.x p.m p.now).1,(yBu p.c p.v p.x p.m p.now).2,Yv4 p.c p.v p.x p.m p.now)
abbrev RAns:=ypq yl3 setQ ansF
theorem Yjg(st:St)(c:List Ins):lenD st false (cdD c)=some (.int .i64 (c.length:Int)):=by
 simp[lenD,ypx,cdD,sLen]
noncomputable abbrev TAns:Tbl:=tbx [(64,ypi),(26,yit)]
 [(73,siK yj4),(118,siK RExt),(119,siK RSet),(79,siK RRul),(120,siK RJud),(121,siK RStp)]
 [(73,sxK yj4),(119,sxK RSet)]
theorem yJ1:CK 66 RAns:=by
 refine yj9 (T:=TAns) yre (ytk (all_cons yGo (all_cons yGn all_nil)) (all_cons yeo.1 (all_cons yuw.1 (all_cons yuv.1 (all_cons yGk.1 (all_cons yQc.1 (all_cons Yaw.1 all_nil)))))) (all_cons yeo.2 (all_cons yuv.2 all_nil))) ?_
 rintro ds st d e st' ⟨k,p,a,hj,hk,⟨hc,hn⟩,rfl,h⟩
 simp only[Prod.mk.injEq]at h
 obtain⟨rfl,rfl,rfl⟩:=h
 have hlt:=yfe hk
 have hs:mset st k (plyC {p with x:=p.x})=st:=yiu hk
 have hka:∀ l:St,(st++l)[k]?=some ⟨false,1,plyC p,false⟩:=fun l=>ybu hk l
 have hk':st[k]?=some ⟨false,1,plyC p,false⟩:=hk
 have ca:=yst p.m.am
 have cb:yit [.agg (.int .i64 p.x.c0.1::digC p.x.c0.2),.agg (.int .i64 p.m.cm.1::digC p.m.cm.2)]=some (.tup [bisD (ylc p.x.c0 p.m.cm),.int .i64 (ydw p.x.c0 p.m.cm)]):=yss p.x.c0 p.m.cm
 have hz:=fun C=>yg0 hlt C
 have hz2:=fun C m=>ynq hlt C m
 unfold ykl yl3 ansF yBu Yv4
 by_cases h1:p.m.pt=1
 ·have g1:=eq_true h1
  by_cases h2:p.x.ph=1
  ·have g2:=eq_true h2
   by_cases h5:yh6 p.m.am
   ·simp only[h5,decide_true]at ca
    -- the case with the answer
    have hx1:∀ l,yf3 (mset st k (plyC {p with x:=ansX p.x p.m})++l) k {p with x:=ansX p.x p.m}:=fun l=>ybu (yj2 hlt _) l
    by_cases h6:ydw p.x.c0 p.m.cm=1
    ·rw[h6]at cb
     have n0:¬ (1:Int)=0:=by decide
     simp (disch:=first|omega|decide) only[push_cast,↓yal,↓reduceIte,Nat.reduceEqDiff,Nat.reduceAdd,Nat.reduceMul,yad,hk',sn_t,sn_f,sx_f,ybz,List.cons_append,List.nil_append,Nat.zero_add,Nat.reduceAdd,ycg,ycn,and_self,not_false_eq_true,decide_true,n381,yat,yet,yrk,yCo,yb9,yb8,g1,g2,h5,h6,ca,cb,yB0,yBz,hz,yd1,yah,n0]
    ·by_cases h7:ydw p.x.c0 p.m.cm=0
     ·have g7:=eq_true h7
      have ce:∀ l:St,siK RExt [.ptr k 0] (mset st k (plyC {p with x:={ansX p.x p.m with b:=ylc p.x.c0 p.m.cm,ph:=2}})++l)=some (.tup [],mset (mset st k (plyC {p with x:={ansX p.x p.m with b:=ylc p.x.c0 p.m.cm,ph:=2}})++l) k (plyC {p with x:=ansY p.x p.m p.now})):=
       fun l=>yn5 (p:={p with x:={ansX p.x p.m with b:=ylc p.x.c0 p.m.cm,ph:=2}}) hj (ybu (yj2 hlt _) l) hn
      have hx2:∀ l,yf3 (mset st k (plyC {p with x:=ansY p.x p.m p.now})++l) k {p with x:=ansY p.x p.m p.now}:=fun l=>ybu (yj2 hlt _) l
      by_cases h8:(yr4 p.c p.v (ansY p.x p.m p.now) p.now).2=0
      ·have cs:=fun l=>yQe (p:={p with x:=ansY p.x p.m p.now}) hj (hx2 l) hc hn h8
       have g8:=eq_true h8
       simp only[ansX,ansY]at ce cs h8 g8
       simp (disch:=first|omega|decide) only[push_cast,↓yal,↓reduceIte,Nat.reduceEqDiff,Nat.reduceAdd,Nat.reduceMul,yad,hk',sn_t,ybz,List.append_assoc,List.cons_append,List.nil_append,Nat.zero_add,Nat.reduceAdd,ycg,ycn,and_self,decide_true,decide_false,yat,yet,yrk,yCo,yb9,yb8,g1,g2,h5,h6,g7,ca,cb,yB0,yBz,yVe,yHl,hz,hz2,yd1,yf5 hlt,yah,ce,cs,h8,ansY]
      ·have cs:=fun l=>yJ8 (p:={p with x:=ansY p.x p.m p.now}) hj (hx2 l) hc hn h8
       have cx:=fun l=>yJ7 (p:={p with x:=ansY p.x p.m p.now}) hj (hx2 l) hc hn h8
       simp only[ansX,ansY]at ce cs cx h8
       simp (disch:=first|omega|decide) only[push_cast,↓yal,↓reduceIte,Nat.reduceEqDiff,Nat.reduceAdd,Nat.reduceMul,yad,hk',sn_t,ybz,List.append_assoc,List.cons_append,List.nil_append,Nat.zero_add,Nat.reduceAdd,ycg,ycn,and_self,not_false_eq_true,decide_true,decide_false,yat,yet,yrk,yCo,yb9,yb8,g1,g2,h5,h6,g7,ca,cb,yB0,yBz,yVe,yHl,hz,hz2,yd1,yf5 hlt,yah,ce,cs,cx,h8,ansY]
     ·have cr:=fun l=>yp9 (p:={p with x:=ansX p.x p.m}) hj (hx1 l) (a:=1) (by omega)
      have cj:=fun l=>ywd (p:={p with x:=ansX p.x p.m}) hj (hx1 l) 0
      have ct:=fun l=>yQd (p:={p with x:=ansX p.x p.m}) hj (hx1 l) hn
      simp only[ansX]at cr cj ct
      by_cases h8:p.x.a0=p.m.am
      ·have g8:=eq_true h8
       simp (disch:=first|omega|decide) only[push_cast,↓yal,↓reduceIte,Nat.reduceEqDiff,Nat.reduceAdd,Nat.reduceMul,yad,hk',sn_t,ybz,List.cons_append,List.nil_append,Nat.zero_add,Nat.reduceAdd,ycg,ycn,and_self,decide_true,decide_false,yat,yet,yrk,yCo,yb9,yb8,yPb,yPa,g1,g2,h5,h6,h7,ca,cb,yB0,yBz,hz,hz2,yd1,yf5 hlt,yah,cr,g8]
      ·by_cases h9:p.c.length=0
       ·have g9:((p.c.length:Int)=0)=True:=by simp[h9]
        simp (disch:=first|omega|decide) only[push_cast,↓yal,↓reduceIte,Nat.reduceEqDiff,Nat.reduceAdd,Nat.reduceMul,yad,hk',sn_t,ybz,List.cons_append,List.nil_append,Nat.zero_add,Nat.reduceAdd,ycg,ycn,and_self,decide_true,decide_false,yat,yet,yrk,yCo,yb9,yb8,yPb,yPa,yfg,Yjg,g1,g2,h5,h6,h7,ca,cb,yB0,yBz,hz,hz2,yd1,yf5 hlt,yah,cj,h8,h9]
       ·have g9:((p.c.length:Int)=0)=False:=by simp; simpa using h9
        simp (disch:=first|omega|decide) only[push_cast,↓yal,↓reduceIte,Nat.reduceEqDiff,Nat.reduceAdd,Nat.reduceMul,yad,hk',sn_t,ybz,List.cons_append,List.nil_append,Nat.zero_add,Nat.reduceAdd,ycg,ycn,and_self,decide_true,decide_false,yat,yet,yrk,yCo,yb9,yb8,yPb,yPa,yfg,Yjg,g1,g2,h5,h6,h7,ca,cb,yB0,yBz,hz,hz2,yd1,yf5 hlt,yah,ct,h8,g9,h9]
   ·simp only[h5,decide_false]at ca
    simp (disch:=first|omega|decide) only[push_cast,↓reduceIte,Nat.reduceEqDiff,Nat.reduceAdd,yad,hk',sn_t,sn_f,sx_f,hs,List.append_nil,Nat.zero_add,Nat.reduceAdd,and_self,not_false_eq_true,decide_true,n1e,yat,yet,yrk,g1,g2,h5,ca]
  ·simp (disch:=first|omega|decide) only[push_cast,↓reduceIte,Nat.reduceEqDiff,Nat.reduceAdd,yad,hk',sn_f,sx_f,hs,List.append_nil,Nat.zero_add,Nat.reduceAdd,and_self,and_false,not_false_eq_true,decide_true,decide_false,n380,yat,yet,g1,h2]
 ·simp (disch:=first|omega|decide) only[push_cast,↓reduceIte,Nat.reduceEqDiff,Nat.reduceAdd,yad,hk',sn_f,sx_f,hs,List.append_nil,Nat.zero_add,Nat.reduceAdd,and_self,false_and,not_false_eq_true,decide_false,n380,yat,h1]
def dscX(x:Cse)(m:Mv):Cse:={x with b:=yen x.b m.pt m.lf m.rt}
def dscY(x:Cse)(m:Mv)(now:Int):Cse:={x with b:=yen x.b m.pt m.lf m.rt,dl:=now+1440}
def Yu1(c:List Ins)(v:Int×List Int)(x:Cse)(m:Mv)(now:Int):St:=
 if x.ph=2 then⟨false,1,bisC (yen x.b m.pt m.lf m.rt),false⟩::(if yfz x.b m.pt m.lf m.rt=0 then(if(yen x.b m.pt m.lf m.rt).r=x.b.r then []else yRa c v (dscY x m now))else [])else []
def dscF(p:Ply)(_:Unit):Cse×Int×St:=((yTs p.c p.v p.x p.m p.now).1,(yTs p.c p.v p.x p.m p.now).2,Yu1 p.c p.v p.x p.m p.now)
def dscQ(p:Ply)(u:Unit):Prop:=setQ p u∧(p.m.pt=0∨p.m.pt=1)
abbrev RDsc:=ypq yl3 dscQ dscF
noncomputable abbrev TDsc:Tbl:=tbx [(122,yEs)]
 [(73,siK yj4),(123,siK yzg),(118,siK RExt),(119,siK RSet)]
 [(73,sxK yj4),(123,sxK yzg),(119,sxK RSet)]
theorem yA0:CK 67 RDsc:=by
 refine yj9 (T:=TDsc) yo6 (ytk (all_cons Ypt all_nil) (all_cons yeo.1 (all_cons yv9.1 (all_cons yuw.1 (all_cons yuv.1 all_nil)))) (all_cons yeo.2 (all_cons yv9.2 (all_cons yuv.2 all_nil)))) ?_
 rintro ds st d e st' ⟨k,p,a,hj,hk,⟨⟨hc,hn⟩,hp⟩,rfl,h⟩
 simp only[Prod.mk.injEq]at h
 obtain⟨rfl,rfl,rfl⟩:=h
 have hlt:=yfe hk
 have hs:mset st k (plyC {p with x:=p.x})=st:=yiu hk
 have hka:∀ l:St,(st++l)[k]?=some ⟨false,1,plyC p,false⟩:=fun l=>ybu hk l
 have hk':st[k]?=some ⟨false,1,plyC p,false⟩:=hk
 have cb:=yUa p.x.b p.m.pt p.m.lf p.m.rt (by omega)
 have hz:=fun C=>yg0 hlt C
 have hz2:=fun C m=>ynq hlt C m
 unfold yiz yl3 dscF yTs Yu1
 by_cases h1:p.x.ph=2
 ·have g1:=eq_true h1
  by_cases h2:yfz p.x.b p.m.pt p.m.lf p.m.rt=0
  ·have g2:=eq_true h2
   rw[h2]at cb
   by_cases h3:(yen p.x.b p.m.pt p.m.lf p.m.rt).r=p.x.b.r
   ·have g3:=eq_true h3
    simp (disch:=first|omega|decide) only[push_cast,↓reduceIte,Nat.reduceEqDiff,Nat.reduceAdd,yad,hk',hka,sp_t,sn_t,ybz,Nat.zero_add,Nat.reduceAdd,ycg,ycn,ybo hlt,and_self,decide_true,yet,yjg,yat,yO9,yO8,yYe,g1,g3,h2,cb,yVe]
   ·have ce:∀ l:St,siK RExt [.ptr k 0] (mset st k (plyC {p with x:=dscX p.x p.m})++l)=some (.tup [],mset (mset st k (plyC {p with x:=dscX p.x p.m})++l) k (plyC {p with x:=dscY p.x p.m p.now})):=
     fun l=>yn5 (p:={p with x:=dscX p.x p.m}) hj (ybu (yj2 hlt _) l) hn
    have hx2:∀ l,yf3 (mset st k (plyC {p with x:=dscY p.x p.m p.now})++l) k {p with x:=dscY p.x p.m p.now}:=fun l=>ybu (yj2 hlt _) l
    by_cases h8:(yr4 p.c p.v (dscY p.x p.m p.now) p.now).2=0
    ·have cs:=fun l=>yQe (p:={p with x:=dscY p.x p.m p.now}) hj (hx2 l) hc hn h8
     have g8:=eq_true h8
     simp only[dscX,dscY]at ce cs h8 g8
     simp (disch:=first|omega|decide) only[push_cast,↓reduceIte,Nat.reduceEqDiff,Nat.reduceAdd,yad,hk',hka,sp_t,sn_t,ybz,List.append_assoc,List.cons_append,List.nil_append,Nat.zero_add,Nat.reduceAdd,ycg,ycn,ybo hlt,and_self,decide_true,decide_false,yet,yjg,yat,yO9,yO8,yYe,g1,h3,h2,cb,yVe,yf5 hlt,ce,cs,h8,dscY]
    ·have cs:=fun l=>yJ8 (p:={p with x:=dscY p.x p.m p.now}) hj (hx2 l) hc hn h8
     have cx:=fun l=>yJ7 (p:={p with x:=dscY p.x p.m p.now}) hj (hx2 l) hc hn h8
     simp only[dscX,dscY]at ce cs cx h8
     simp (disch:=first|omega|decide) only[push_cast,↓reduceIte,Nat.reduceEqDiff,Nat.reduceAdd,yad,hk',hka,sp_t,sn_t,ybz,List.append_assoc,List.cons_append,List.nil_append,Nat.zero_add,Nat.reduceAdd,ycg,ycn,ybo hlt,and_self,not_false_eq_true,decide_true,decide_false,yet,yjg,yat,yO9,yO8,yYe,g1,h3,h2,cb,yVe,yf5 hlt,ce,cs,cx,h8,dscY]
  ·simp (disch:=first|omega|decide) only[push_cast,↓reduceIte,Nat.reduceEqDiff,Nat.reduceAdd,yad,hk',sp_f,yBm,sn_t,hs,Nat.zero_add,Nat.reduceAdd,ycg,ycn,and_self,not_false_eq_true,decide_true,yet,yjg,yat,yO9,yO8,g1,h2,cb]
 ·simp (disch:=first|omega|decide) only[push_cast,↓reduceIte,yad,hk',sn_f,sx_f,hs,List.append_nil,Nat.zero_add,and_self,not_false_eq_true,decide_false,n380,yet,h1]
noncomputable def yCl:List D→Option ((Nat→D)×(Nat→List PI.Obj)):=fun ds=>@dite _ (∃ l:List Ky,l.length≤4294900000∧ds=[kysD l]) (Classical.propDecidable _)
 (fun h=>some (if h.choose=[]then(fun _=>.slc 0 [] true,fun _=>[])else(fun n=>.row n h.choose.length 0 h.choose.length,fun _=>[⟨true,5,h.choose.map kyD,false⟩]))) (fun _=>none)
theorem yJ2(l:List Ky)(h:l.length≤4294900000):yCl [kysD l]=some (if l=[]then(fun _=>.slc 0 [] true,fun _=>[])else(fun n=>.row n l.length 0 l.length,fun _=>[⟨true,5,l.map kyD,false⟩])):=by
 have hx:∃ q:List Ky,q.length≤4294900000∧[kysD l]=[kysD q]:=⟨l,h,rfl⟩
 unfold yCl
 rw[dif_pos hx]
 have h2:=hx.choose_spec.2
 generalize hx.choose=q at*
 simp only[List.cons.injEq,and_true,yxx]at h2
 subst h2
 rfl
theorem Yu4:IContract Tryz.prog GG 127 (fun ds st=>(yCl ds).map fun r=>(r.1 st.length,st++r.2 st.length)):=
 Yjw.or Yjw fun ds st r h=>.inl (by
  simp only[Option.map_eq_some_iff]at h
  obtain⟨r0,h0,rfl⟩:=h
  have hx:∃ l:List Ky,l.length≤4294900000∧ds=[kysD l]:=by
   unfold yCl at h0
   split at h0
   ·assumption
   ·cases h0
  obtain⟨l,hl,rfl⟩:=hx
  rw[yJ2 l hl]at h0
  rw[Yh3 l st hl]
  simp only[Option.some.injEq]at h0
  subst h0
  split <;> simp)
noncomputable def TJoi:Tbl:={p:=look [(126,yN5)],i:=look [(73,siK yj4)],m:=look [(127,yCl)],x:=look [(73,sxK yj4)]}
theorem tbj_p(n:Nat):TJoi.p n=look [(126,yN5)] n:=(rfl)
theorem tbj_i(n:Nat):TJoi.i n=look [(73,siK yj4)] n:=(rfl)
theorem tbj_m(n:Nat):TJoi.m n=look [(127,yCl)] n:=(rfl)
theorem tbj_x(n:Nat):TJoi.x n=look [(73,sxK yj4)] n:=(rfl)
attribute [push_cast] tbj_p tbj_i tbj_m tbj_x
theorem Yrq:TblOK Tryz.prog GG TJoi:=
 ⟨fun _ _ hs=>.inl (by
   have:=ydy hs
   simp only[List.mem_singleton,Prod.mk.injEq]at this
   obtain⟨rfl,rfl⟩:=this
   exact⟨by decide,c_ctK⟩),fun _ _ hs=>(by
   have:=ydy hs
   simp only[List.mem_singleton,Prod.mk.injEq]at this
   obtain⟨rfl,rfl⟩:=this
   exact yeo.1),fun _ _ hs=>(by
   have:=ydy hs
   simp only[List.mem_singleton,Prod.mk.injEq]at this
   obtain⟨rfl,rfl⟩:=this
   exact Yu4),fun _ _ hs=>(by cases hs),fun _ _ hs=>(by
   have:=ydy hs
   simp only[List.mem_singleton,Prod.mk.injEq]at this
   obtain⟨rfl,rfl⟩:=this
   exact yeo.2),fun _ _ hs=>(by cases hs)⟩
def joiR(ds:List D)(st:St)(r:D×Int×St):Prop:=∃ (k:Nat) (p:Ply),p.j=kysD p.x.jn∧yf3 st k p∧ds=[.ptr k 0]∧
 r=if(ykn p.x p.m).2=0 then(.tup [],0,mset st k (plyC {p with j:=.row st.length (p.x.jn.length+1) 0 (p.x.jn.length+1)})++[⟨true,5,(p.x.jn++[p.m.key]).map kyD,false⟩])else(.tup [],(ykn p.x p.m).2,st)
theorem yMw:FnlK joiR:=by
 rintro ds st r r' ⟨k,p,hj,hk,rfl,rfl⟩ ⟨k',p',hj',hk',h,rfl⟩
 simp only[List.cons.injEq,D.ptr.injEq,and_true]at h
 obtain rfl:=h
 unfold yf3 at hk hk'
 rw[hk]at hk'
 simp only[Option.some.injEq,PI.Obj.mk.injEq,true_and,and_true]at hk'
 obtain rfl:=yOm hk' hj hj'
 rfl
theorem Yjf(k:Ky):litD 5 [kyD k]=some (.slc 5 [kyD k] true):=rfl
theorem Yp8(st:St)(k:Ky):papp st 5 40 (.slc 0 [] true) (.slc 5 [kyD k] true)=some (.row st.length 1 0 1,st++[⟨true,5,[kyD k],false⟩]):=by
 simp[papp,ygl]
theorem Yp7(st:St)(l:List Ky)(k:Ky)(h:l.length≤100):papp (st++[⟨true,5,l.map kyD,false⟩]) 5 40 (.row st.length l.length 0 l.length) (.slc 5 [kyD k] true)=some (.row st.length (l.length+1) 0 (l.length+1),st++[⟨true,5,(l++[k]).map kyD,false⟩]):=by
 have e1:(l.length+1)*40≤140737488355328:=by omega
 have e2:l.length+1≤4294967296:=by omega
 simp[papp,ygl,e1,e2]
theorem Yay:CK 72 joiR:=by
 refine yj9 (T:=TJoi) yr3 Yrq ?_
 rintro ds st d e st' ⟨k,p,hj,hk,rfl,h⟩
 have hlt:=yfe hk
 have hs:mset st k (plyC {p with x:=p.x})=st:=yiu hk
 have hka:∀ l:St,(st++l)[k]?=some ⟨false,1,plyC p,false⟩:=fun l=>ybu hk l
 have hk':st[k]?=some ⟨false,1,plyC p,false⟩:=hk
 have ll:∀ st:St,lenD st false (kysD p.x.jn)=some (.int .i64 (p.x.jn.length:Int)):=fun st=>by simp[lenD,ypx,sLen]
 have hz:=fun C=>yg0 hlt C
 unfold ylv
 by_cases h1:p.m.pt=0
 ·have g1:=eq_true h1
  by_cases h2:p.x.ph=1
  ·have g2:=eq_true h2
   by_cases h3:p.x.jn.length<8
   ·have g3:((p.x.jn.length:Int)<8)=True:=eq_true (by omega)
    have cc:=Yh1 p.x.jn p.m.key (by omega)
    by_cases h4:p.m.key=p.x.key
    ·have g4:=eq_true h4
     have e:ykn p.x p.m=(p.x,1):=by unfold ykn; rw[if_pos ⟨h1,h2⟩,if_pos h3,if_neg (by simp[h4])]
     rw[e,if_neg (by simp)]at h
     simp only[Prod.mk.injEq]at h
     obtain⟨rfl,rfl,rfl⟩:=h
     simp (disch:=first|omega|decide) only[push_cast,↓reduceIte,Nat.reduceEqDiff,Nat.reduceAdd,yad,hk',sn_t,sn_f,sx_f,Nat.zero_add,Nat.reduceAdd,and_self,not_false_eq_true,decide_true,n1e,yat,yet,yYc,hj,ll,yFp,yFq,yhp,g1,g2,g3,g4]
    ·by_cases h5:p.m.key∈p.x.jn
     ·have e:ykn p.x p.m=(p.x,1):=by unfold ykn; rw[if_pos ⟨h1,h2⟩,if_pos h3,if_neg (by simp[h5])]
      rw[e,if_neg (by simp)]at h
      simp only[Prod.mk.injEq]at h
      obtain⟨rfl,rfl,rfl⟩:=h
      simp only[h5,decide_true]at cc
      simp (disch:=first|omega|decide) only[push_cast,↓reduceIte,Nat.reduceEqDiff,Nat.reduceAdd,yad,hk',sn_t,sn_f,sx_f,Nat.zero_add,Nat.reduceAdd,and_self,not_false_eq_true,decide_true,decide_false,n1e,yat,yet,yYc,hj,ll,yFp,yFq,yhp,ypy,g1,g2,g3,h4,cc]
     ·have e:ykn p.x p.m=({p.x with jn:=p.x.jn++[p.m.key]},0):=by unfold ykn; rw[if_pos ⟨h1,h2⟩,if_pos h3,if_pos ⟨h4,h5⟩]
      rw[e,if_pos rfl]at h
      simp only[Prod.mk.injEq]at h
      obtain⟨rfl,rfl,rfl⟩:=h
      simp only[h5,decide_false]at cc
      have cm:=yJ2 p.x.jn (by omega)
      by_cases h6:p.x.jn=[]
      ·rw[if_pos h6]at cm
       have e1:(p.x.jn++[p.m.key]).map kyD=[kyD p.m.key]:=by rw[h6]; rfl
       have e2:p.x.jn.length+1=1:=by rw[h6]; rfl
       rw[e1,e2]
       simp (disch:=first|omega|decide) only[push_cast,↓yal,↓reduceIte,Nat.reduceEqDiff,Nat.reduceAdd,yad,hk',hka,sn_t,ybz,List.cons_append,List.nil_append,List.append_nil,Nat.zero_add,Nat.reduceAdd,ybo hlt,and_self,decide_true,decide_false,yat,yet,yYc,hj,ll,yFp,yFq,yhp,ypy,ypv,g1,g2,g3,h4,cc,cm,Yp8,Yi6,Yuf,Yjf,eq_true hlt]
      ·rw[if_neg h6]at cm
       have a1:=Yp7 st p.x.jn p.m.key (by omega)
       simp (disch:=first|omega|decide) only[push_cast,↓yal,↓reduceIte,Nat.reduceEqDiff,Nat.reduceAdd,yad,hk',hka,sn_t,ybz,List.cons_append,List.nil_append,List.append_nil,Nat.zero_add,Nat.reduceAdd,ybo hlt,and_self,decide_true,decide_false,yat,yet,yYc,hj,ll,yFp,yFq,yhp,ypy,ypv,g1,g2,g3,h4,cc,cm,a1,Yi6,Yuf,Yjf,eq_true hlt]
   ·have g3:((p.x.jn.length:Int)<8)=False:=eq_false (by omega)
    have e:ykn p.x p.m=(p.x,2):=by unfold ykn; rw[if_pos ⟨h1,h2⟩,if_neg h3]
    rw[e,if_neg (by simp)]at h
    simp only[Prod.mk.injEq]at h
    obtain⟨rfl,rfl,rfl⟩:=h
    simp (disch:=first|omega|decide) only[push_cast,↓reduceIte,Nat.reduceEqDiff,Nat.reduceAdd,yad,hk',sn_t,sn_f,sx_f,Nat.zero_add,Nat.reduceAdd,and_self,not_false_eq_true,decide_true,decide_false,n2e,yat,yet,yYc,hj,ll,g1,g2,g3]
  ·have e:ykn p.x p.m=(p.x,380):=by unfold ykn; rw[if_neg (fun q=>h2 q.2)]
   rw[e,if_neg (by simp)]at h
   simp only[Prod.mk.injEq]at h
   obtain⟨rfl,rfl,rfl⟩:=h
   simp (disch:=first|omega|decide) only[push_cast,↓reduceIte,Nat.reduceEqDiff,Nat.reduceAdd,yad,hk',sn_f,sx_f,Nat.zero_add,Nat.reduceAdd,and_self,not_false_eq_true,decide_true,decide_false,n380,yat,yet,g1,h2]
 ·have e:ykn p.x p.m=(p.x,380):=by unfold ykn; rw[if_neg (fun q=>h1 q.1)]
  rw[e,if_neg (by simp)]at h
  simp only[Prod.mk.injEq]at h
  obtain⟨rfl,rfl,rfl⟩:=h
  simp (disch:=first|omega|decide) only[push_cast,↓reduceIte,Nat.reduceEqDiff,Nat.reduceAdd,yad,hk',sn_f,sx_f,Nat.zero_add,Nat.reduceAdd,and_self,not_false_eq_true,decide_false,n380,yat,h1]
end Go.Proofs.YtijnglngaogdjaaGreatDoor.PI
