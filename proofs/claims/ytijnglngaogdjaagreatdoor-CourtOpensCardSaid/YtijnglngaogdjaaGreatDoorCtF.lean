/-
  court: what the moves do.
  Conditions: none; these are lemmas.
-/
import Derived.Test.YtijnglngaogdjaaGreatDoorArP
import Derived.Test.YtijnglngaogdjaaGreatDoorArD
import Derived.Test.YtijnglngaogdjaaGreatDoorEngHe
import Derived.Test.YtijnglngaogdjaaGreatDoorSha
import Derived.Test.YtijnglngaogdjaaGreatDoorFnsJ
set_option linter.unusedVariables false
set_option linter.unusedSimpArgs false
namespace Go.Proofs.YtijnglngaogdjaaGreatDoor.PI
open Go
set_option linter.unusedSimpArgs false
set_option linter.unusedVariables false
structure Der where
 code:List Ins
 env:Int×List Int
 am:Int
 er:Int
 lv:List Dig
 deriving Inhabited
section
variable {v:Int×List Int} (hv:vOK v) (lent:Bool) (cs L:D) (a e:Int)
include hv
end
structure okS (s:Sta):Prop where
 l:s.stack.length≤4294967296
 t:s.status≤1000000
theorem ymv(st:St):∀ {A:List D} (B:List D),A.all yas=true→immL st (A++B)=(immL st B).map (A++·)
 |[],B,_=>by simp
 |d::A,B,h=>by
  simp only[List.all_cons,Bool.and_eq_true]at h
  rw[List.cons_append,immL,yvw st h.1,ymv st B h.2]
  cases immL st B <;> rfl
theorem yux(v:Int×List Int):(evC v).all yas=true:=by
 rw[yGc]; exact yh1 (v.1::v.2)
theorem getR(S l:St)(k:Nat):(S++l)[S.length+k]?=l[k]?:=by
 rw[List.getElem?_append_right (by omega)]; congr 1; omega
theorem ycf(S l:St):(S++l)[S.length]?=l[0]?:=getR S l 0
theorem setR(S l:St)(k:Nat)(x:PI.Obj):(S++l).set (S.length+k) x=S++l.set k x:=by
 rw[List.set_append_right _ _ (by omega)]; congr 2; omega
theorem ycm(S l:St)(x:PI.Obj):(S++l).set S.length x=S++l.set 0 x:=setR S l 0 x
theorem ye0(fr:Frame)(st:St)(t n:Nat)(ag:Bool)(l:List PRes):raws ⟨fr,st⟩ (.cell t n ag::l)=(ydd st n ag (fr t)).bind fun d=>(raws ⟨fr,st⟩ l).map (d::·):=by
 simp only[raws]
 cases ydd st n ag (fr t) <;> cases raws ⟨fr,st⟩ l <;> rfl
def clD(p:Dig×Dig):D:=.agg (digC p.1++digC p.2)
theorem yNd{a b:Dig×Dig}:clD a=clD b↔a=b:=by
 refine⟨fun h=>?_,fun h=>by rw[h]⟩
 obtain⟨a1,a2⟩:=a
 obtain⟨b1,b2⟩:=b
 simp only[clD,D.agg.injEq]at h
 obtain⟨h1,h2⟩:=List.append_inj h (by rw[yaa,yaa])
 rw[yld.1 h1,yld.1 h2]
theorem Ypa(p:Dig×Dig):(digC p.1++digC p.2).all D.isCell=true:=by
 rw[List.all_append,yet (fun _=>rfl),yet (fun _=>rfl)]; rfl
theorem Yan(p:Dig×Dig):(digC p.1++digC p.2).length=64:=by simp[yaa]
theorem Yb4(p:Dig×Dig):boxD (clD p)=some (digC p.1++digC p.2):=by
 rw[show boxD (clD p)=if(digC p.1++digC p.2).all D.isCell then some (digC p.1++digC p.2)else none from rfl,if_pos (Ypa p)]
theorem Ym6(lent:Bool)(p:Dig×Dig):ldO (some ⟨false,1,digC p.1++digC p.2,lent⟩) 64 true 0=some (clD p):=yh0 1 lent _ 64 (Yan p)
theorem cl_0(p:Dig×Dig):yIf 2 32 true (clD p) (.int .i64 0)=some (digD p.1):=
 yP1 (A:=[]) (B:=digC p.1) (C:=digC p.2) rfl rfl (yaa _)
theorem cl_1(p:Dig×Dig):yIf 2 32 true (clD p) (.int .i64 1)=some (digD p.2):=
 yP1 (A:=digC p.1) (B:=digC p.2) (C:=[]) (by rw[List.append_nil]) (yaa _) (yaa _)
theorem yQc(p:Dig×Dig):ymk (clD p)=true:=by
 simp only[clD,ymk,List.all_append]
 rw[show(digC p.1).all yas=true from yh3 _,show(digC p.2).all yas=true from yh3 _]; rfl
theorem Yn9(p:Dig×Dig):hk (clD p)=[]:=yt6 (yQc p)
theorem yWm(n:Nat)(σ:List Nat)(p:Dig×Dig):ren n σ (clD p)=clD p:=yj3 n σ (yQc p)
def verD(p:Int×Dig):D:=.agg (.int .i64 p.1::digC p.2)
def yz2(cl:Dig×Dig)(d:Dig):Int:=if cl.1=d then 0 else if cl.2=d then 1 else -1
def yip(cl:Dig×Dig)(r:Dig×Int):Int×Dig:=if r.2=0 then(yz2 cl r.1,r.1)else(0,yab)
def boxC(cl:Dig×Dig):PI.Obj:=⟨false,1,digC cl.1++digC cl.2,false⟩
def boxV(p:Int×Dig):PI.Obj:=⟨false,1,.int .i64 p.1::digC p.2,false⟩
def Yjp(f:Nat)(sp:List D→St→Option (D×St))(ds:List D)(st:St)(r:D×St):Prop:=∃ (cl:Dig×Dig) (caps:List D) (d:Dig) (e:Int),StOK st∧ds=[clD cl,.clo f caps]∧
 sp caps (st++[boxC cl,boxV (0,yab)])=some (.tup [digD d,.int .i64 e],st++[boxC cl,boxV (0,yab)])∧r=(.tup [verD (yip cl (d,e)),.int .i64 e],st)
theorem yI7(f:Nat)(sp:List D→St→Option (D×St)):Fun1 (Yjp f sp):=by
 rintro ds st r r' ⟨cl,caps,d,e,_,rfl,h2,rfl⟩ ⟨cl',caps',d',e',_,h,h2',rfl⟩
 simp only[List.cons.injEq,D.clo.injEq,and_true,true_and,yNd]at h
 obtain⟨rfl,rfl⟩:=h
 rw[h2]at h2'
 simp only[Ywh,Ywj,D.tup.injEq,List.cons.injEq,yl9,D.int.injEq,true_and,and_true]at h2'
 obtain⟨rfl,rfl⟩:=h2'
 rfl
noncomputable def yqx(f:Nat)(sp:List D→St→Option (D×St)):List D→St→Option (D×St):=relI (Yjp f sp)
theorem ypo{S:St}(h:StOK S)(l:St)(hl:∀ o∈l,o.els.all yas=true):StOK (S++l):=
 h.app _ fun o ho _ x hx=>yj3 _ _ (ykx (List.all_eq_true.1 (hl o ho) x hx))
theorem yco(d:Dig):(digC d).all yas=true:=yh3 d
theorem yjy(cl:Dig×Dig):(boxC cl).els.all yas=true:=by
 simp only[boxC,List.all_append,yco]; rfl
theorem ym4(p:Int×Dig):(boxV p).els.all yas=true:=by
 simp only[boxV,List.all_cons,yco]; rfl
theorem yA0{S l:St}(h:StOK S):cut S.length (S++l)=S:=Yjt h rfl
theorem Yfm(n:Nat)(a:Int)(d:Dig)(e:Int):lowR n (.tup [.agg (.int .i64 a::digC d),.int .i64 e])=.tup [.agg (.int .i64 a::digC d),.int .i64 e]:=by
 have h:low n (.agg (.int .i64 a::digC d))=.agg (.int .i64 a::digC d):=by
  rw[← yLv]; exact yj3 n [] (d:=.agg (.int .i64 a::digC d)) (by simp only[ymk,List.all_cons,yco]; rfl)
 simp only[lowR,List.map_cons,List.map_nil,h]
 rfl
theorem yB3(p:Int×Dig)(a:Int)(d:Dig):stO (some (boxV p)) 33 0 (.agg (.int .i64 a::digC d))=some (boxV (a,d)):=
 yi2 1 _ _ 33 (by simp[yaa]) (by simp[yaa]) (by rw[List.all_cons,yet (fun _=>rfl)]; rfl)
theorem yCt(p:Int×Dig):ldO (some (boxV p)) 33 true 0=some (verD p):=yh0 1 false _ 33 (by simp[yaa])
theorem Yto(cl:Dig×Dig):ldO (some (boxC cl)) 64 true 0=some (clD cl):=Ym6 false cl
theorem yF8(a:Int)(d:Dig):yar (.int .i64 0::digC yab) [(0,1,.int .i64 a),(1,32,digD d)]=some (.int .i64 a::digC d):=by
 refine(ych (cs:=.int .i64 0::digC yab) (cs':=.int .i64 a::digC yab) (A:=[]) (B:=[.int .i64 0]) (xs:=[.int .i64 a]) rfl rfl rfl rfl rfl rfl rfl).trans ?_
 refine(ych (cs:=.int .i64 a::digC yab) (cs':=.int .i64 a::digC d) (A:=[.int .i64 a]) (B:=digC yab) (C:=[]) (xs:=digC d) (by simp) (by simp) rfl (yaa _) rfl (yaa _) (yet (fun _=>rfl) d)).trans ?_
 rfl
theorem yDq(n:Nat)(p:Int×Dig)(e:Int):lowR n (.tup [verD p,.int .i64 e])=.tup [verD p,.int .i64 e]:=Yfm n p.1 p.2 e
set_option maxHeartbeats 4000000 in
set_option maxRecDepth 20000 in
theorem yQe(f:Nat)(hf:f<5000000)(sp:List D→St→Option (D×St))(hc:IContract Tryz.prog GG f sp):IContract Tryz.prog GG 45 (yqx f sp):=by
 refine yla (T:=tb [] [(f,sp)]) yxf (yan all_nil (all_cons hc all_nil)) ?_
 intro ds st r hr
 obtain⟨cl,caps,d,e,hok,rfl,h2,rfl⟩:=yb9 hr
 unfold yqr
 have hT:(tb [] [(f,sp)]).i f=some sp:=by rw[tb_i,yIu,if_pos rfl]
 have hcl:cloD (tb [] [(f,sp)]) (.clo f caps)=some (sp,[],caps):=by rw[Yam _ _ _ hf,hT]; rfl
 have hz:(.int .i64 0::digC yab:List D)=(.int .i64 0::digC yab:List D):=rfl
 simp (disch:=first|omega|decide) only[push_cast,↓reduceIte,Nat.reduceEqDiff,Int.reduceNeg,Yb4,hcl,List.append_assoc,List.cons_append,List.nil_append]
 rw[show st++[⟨false,1,digC cl.1++digC cl.2,false⟩,⟨false,1,.int .i64 0::digC yab,false⟩]=st++[boxC cl,boxV (0,yab)]from rfl,h2]
 simp (disch:=first|omega|decide) only[push_cast,↓reduceIte,Nat.reduceEqDiff,Nat.reduceAdd,Int.reduceNeg,List.append_assoc,List.cons_append,List.nil_append,List.length_append,List.length_cons,List.length_nil,Nat.zero_add,Nat.reduceAdd,getR,setR]
 by_cases he:e=0
 ·subst he
  have hS3:StOK (st++[boxC cl,boxV (0,yab),⟨false,1,digC d,false⟩]):=ypo hok _ (fun o ho=>by
   simp only[List.mem_cons,List.not_mem_nil,or_false]at ho
   rcases ho with rfl | rfl | rfl
   ·exact yjy cl
   ·exact ym4 _
   ·exact yco d)
  have hl3:(st++[boxC cl,boxV (0,yab),⟨false,1,digC d,false⟩]).length=st.length+3:=by simp
  have k1:st.length+1<st.length+3:=by omega
  have k2:st.length+2<st.length+3:=by omega
  have hR:∀ (fr:Frame) (l:St),(yAe fr [4,6,19,20]).all (fun k=>decide (k<st.length+3))=true→restrict [4,6,19,20] (st++[boxC cl,boxV (0,yab),⟨false,1,digC d,false⟩]).length ⟨fr,st++boxC cl::boxV (0,yab)::⟨false,1,digC d,false⟩::l⟩=⟨mkF (ypg fr (st.length+3) [] [4,6,19,20]),st++[boxC cl,boxV (0,yab),⟨false,1,digC d,false⟩]⟩:=fun fr l h=>by
   have:=yrr (keep:=[4,6,19,20]) (fr:=fr) (l:=l) hS3 hl3.symm (fun k hk=>of_decide_eq_true (List.all_eq_true.1 h k hk))
   rw[List.append_assoc]at this
   rw[hl3]
   exact this
  have hR':=hR
  simp only[hl3]at hR'
  simp (disch:=first|omega|decide) only[push_cast,↓reduceIte,Nat.reduceEqDiff,Int.reduceNeg,ycf,Yto]
  refine ybr (fun i:Nat=>[(4,.ptr (st.length+1) 0),(6,.ptr (st.length+2) 0),(19,clD cl),(20,.int .i64 (i:Int))]) (fun _=>st++[boxC cl,boxV (0,yab),⟨false,1,digC d,false⟩])
   (fun i=>i≤2∧(0<i→¬ cl.1=d)∧(1<i→¬ cl.2=d)) (fun i=>2 - i) 0 ?_ ⟨by omega,fun h=>absurd h (by omega),fun h=>absurd h (by omega)⟩ ?_
  ·simp (disch:=first | omega | decide | (simp only[push_cast,↓yal,↓reduceIte,Nat.reduceEqDiff,Nat.reduceLT,Nat.reduceLeDiff,Nat.reduceAdd,Nat.reduceSub,Nat.reduceMul,Nat.reduceBEq,Int.reduceLT,Int.reduceLE,Int.reduceToNat,Int.reduceNeg,Int.reducePow,Int.reduceAdd,Int.reduceMul,Int.reduceSub,↓Int.reduceNatCast',Yn9,k1,k2,decide_true]; done)) only[push_cast,↓reduceIte,Nat.reduceEqDiff,↓Int.reduceNatCast',↓hR,yWm,ysi]
  rintro i ⟨hi,h0,h1⟩
  unfold yly
  match i,hi,h0,h1 with
  |0,_,_,_=>
   have c0:=cl_0 cl
   by_cases q:cl.1=d
   ·rw[show yip cl (d,0)=(0,d) by unfold yip yz2; rw[if_pos rfl,if_pos q]]
    simp (disch:=first|omega|decide) only[push_cast,↓reduceIte,Nat.reduceEqDiff,Nat.reduceAdd,Int.reduceLT,Int.reduceNeg,↓Int.reduceNatCast',List.append_assoc,List.cons_append,List.nil_append,List.length_append,List.length_cons,List.length_nil,Nat.zero_add,Nat.reduceAdd,getR,setR,c0,q,yF8,yB3,yCt,yDq,ye0,yA0 hok]
    trace_state
   ·simp (disch:=first | omega | decide | (simp only[push_cast,↓yal,↓reduceIte,Nat.reduceEqDiff,Nat.reduceLT,Nat.reduceLeDiff,Nat.reduceAdd,Nat.reduceSub,Nat.reduceMul,Nat.reduceBEq,Int.reduceLT,Int.reduceLE,Int.reduceToNat,Int.reduceNeg,Int.reducePow,Int.reduceAdd,Int.reduceMul,Int.reduceSub,↓Int.reduceNatCast',Yn9,k1,k2,decide_true]; done)) only[push_cast,↓reduceIte,Nat.reduceEqDiff,Nat.reduceAdd,Int.reduceLT,Int.reduceAdd,↓Int.reduceNatCast',↓hR',yWm,ysi,List.append_assoc,List.cons_append,List.nil_append,List.length_append,List.length_cons,List.length_nil,Nat.zero_add,Nat.reduceAdd,getR,setR,c0,q,yaz]
    refine yaj 1 (by exact⟨by omega,fun _=>q,fun h=>absurd h (by omega)⟩) (by omega) ?_
    simp (disch:=first|omega|decide) only[push_cast,↓Int.reduceNatCast'] <;> rfl
  |1,_,h0,_=>
   have c1:=cl_1 cl
   have q0:=h0 (by omega)
   by_cases q:cl.2=d
   ·rw[show yip cl (d,0)=(1,d) by unfold yip yz2; rw[if_pos rfl,if_neg q0,if_pos q]]
    simp (disch:=first|omega|decide) only[push_cast,↓reduceIte,Nat.reduceEqDiff,Nat.reduceAdd,Int.reduceLT,Int.reduceNeg,↓Int.reduceNatCast',List.append_assoc,List.cons_append,List.nil_append,List.length_append,List.length_cons,List.length_nil,Nat.zero_add,Nat.reduceAdd,getR,setR,c1,q,yF8,yB3,yCt,yDq,ye0,yA0 hok]
   ·simp (disch:=first | omega | decide | (simp only[push_cast,↓yal,↓reduceIte,Nat.reduceEqDiff,Nat.reduceLT,Nat.reduceLeDiff,Nat.reduceAdd,Nat.reduceSub,Nat.reduceMul,Nat.reduceBEq,Int.reduceLT,Int.reduceLE,Int.reduceToNat,Int.reduceNeg,Int.reducePow,Int.reduceAdd,Int.reduceMul,Int.reduceSub,↓Int.reduceNatCast',Yn9,k1,k2,decide_true]; done)) only[push_cast,↓reduceIte,Nat.reduceEqDiff,Nat.reduceAdd,Int.reduceLT,Int.reduceAdd,↓Int.reduceNatCast',↓hR',yWm,ysi,List.append_assoc,List.cons_append,List.nil_append,List.length_append,List.length_cons,List.length_nil,Nat.zero_add,Nat.reduceAdd,getR,setR,c1,q,yaz]
    refine yaj 2 (by exact⟨by omega,fun _=>q0,fun _=>q⟩) (by omega) ?_
    simp (disch:=first|omega|decide) only[push_cast,↓Int.reduceNatCast'] <;> rfl
  |2,_,h0,h1=>
   rw[show yip cl (d,0)=(-1,d) by unfold yip yz2; rw[if_pos rfl,if_neg (h0 (by omega)),if_neg (h1 (by omega))]]
   simp (disch:=first|omega|decide) only[push_cast,↓reduceIte,Nat.reduceEqDiff,Nat.reduceAdd,Int.reduceLT,Int.reduceNeg,↓Int.reduceNatCast',List.length_append,List.length_cons,List.length_nil,Nat.zero_add,Nat.reduceAdd,getR,setR,yF8,yB3,yCt,yDq,ye0,yA0 hok]
 ·have hv:yip cl (d,e)=(0,yab):=if_neg he
  rw[hv]
  simp (disch:=first|omega|decide) only[push_cast,↓reduceIte,Nat.reduceEqDiff,Int.reduceNeg,he,getR,setR,yA0 hok,yB3,yCt,yDq,yAo,ye0]
theorem yQf(c:List Ins):([.slc (nz 3 (c.map insD)) (c.map insD) false]:List D).all yas=true:=by
 simp[yas,yuk]
def yef(c:List Ins)(v:Int×List Int):Dig×Int:=if c.length=0 then(padL,0)else if(ycb c).2≠0 then(yab,(ycb c).2)else(digF c v (yrp (c.length+1)),0)
def f1R(ds:List D)(st:St)(r:D×St):Prop:=∃ (kc kv:Nat) (c:List Ins) (v:Int×List Int) (lc lv:Bool),StOK st∧ds=[.ptr kc 0,.ptr kv 0]∧st[kc]?=some ⟨false,1,[cdD c],lc⟩∧st[kv]?=some ⟨false,1,evC v,lv⟩∧c.length≤9223372036854775807∧vOK v∧
 r=(.tup [digD (yef c v).1,.int .i64 (yef c v).2],st)
theorem Yux:Fun1 f1R:=by
 rintro ds st r r' ⟨kc,kv,c,v,lc,lv,_,rfl,h1,h2,_,_,rfl⟩ ⟨kc',kv',c',v',lc',lv',_,h,h1',h2',_,_,rfl⟩
 simp only[List.cons.injEq,D.ptr.injEq,and_true]at h
 obtain⟨rfl,rfl⟩:=h
 rw[h1]at h1'
 rw[h2]at h2'
 simp only[Ywh,Obj.mk.injEq,List.cons.injEq,and_true,true_and,Yax]at h1' h2'
 obtain⟨rfl,_⟩:=h1'
 obtain rfl:v=v':=yh2.1 (congrArg D.agg h2'.1)
 rfl
noncomputable def Ydx:List D→St→Option (D×St):=relI f1R
theorem ynv(n:Nat)(d:Dig)(e:Int):lowR n (.tup [digD d,.int .i64 e])=.tup [digD d,.int .i64 e]:=by
 have h:low n (digD d)=digD d:=by rw[← yLv]; exact yOk n [] d
 simp only[lowR,List.map_cons,List.map_nil,h]
 rfl
theorem yK6(a d:Dig):stO (some ⟨false,1,digC a,false⟩) 32 0 (digD d)=some ⟨false,1,digC d,false⟩:=yi2 1 _ _ 32 (yaa _) (yaa _) (yet (fun _=>rfl) d)
set_option maxHeartbeats 4000000 in
set_option maxRecDepth 20000 in
theorem ci_f1:IContract Tryz.prog GG 46 Ydx:=by
 refine yla (T:=tb [(20,yvt),(47,yEb),(48,yEd),(49,yLc)] []) ytq (yan (all_cons yQm (all_cons Yjx (all_cons Ypm (all_cons Yvh all_nil)))) all_nil) ?_
 intro ds st r hr
 obtain⟨kc,kv,c,v,lc,lv,hok,rfl,h1,h2,hc,hv,rfl⟩:=yb9 hr
 have hk1:∀ l:St,(st++l)[kc]?=some ⟨false,1,[.slc (nz 3 (c.map insD)) (c.map insD) false],lc⟩:=fun l=>by
  rw[List.getElem?_append_left (List.getElem?_eq_some_iff.1 h1).1]; exact h1
 have hk2:∀ l:St,(st++l)[kv]?=some ⟨false,1,evC v,lv⟩:=fun l=>by
  rw[List.getElem?_append_left (List.getElem?_eq_some_iff.1 h2).1]; exact h2
 have cv:=yJ6 c hc
 have cp:=yqf
 unfold yng
 by_cases q1:c.length=0
 ·rw[show yef c v=(padL,0)from if_pos q1]
  have q1':(c.length:Int)=0:=by omega
  simp (disch:=first|omega|decide) only[push_cast,↓reduceIte,Nat.reduceEqDiff,hk1,q1',cp,ycf,ycm,ynv,yA0 hok,ye0,yK6]
 by_cases q2:(ycb c).2=0
 ·rw[show yef c v=(digF c v (yrp (c.length+1)),0) by unfold yef; rw[if_neg q1,if_neg (by simp[q2])]]
  have q1':¬ (c.length:Int)=0:=by omega
  obtain⟨hc2,_⟩:=yG1 q2
  have cs:=yT6 ((c.length:Int)+1)
  rw[show yy0 ((c.length:Int)+1)=0 from if_neg (by omega)]at cs
  have cd:=Ya4 c v (yrp ((c.length:Int)+1)) ⟨by omega,hv,by
   rw[show yrp ((c.length:Int)+1)={zSta with fuel:=(c.length:Int)+1} from if_neg (by omega)]; exact Nat.zero_le _⟩
  simp (disch:=first|omega|decide) only[push_cast,↓reduceIte,Nat.reduceEqDiff,hk1,hk2,q1',q2,cv,cs,cd,yaz,yeu,ypm,yos,ypf hv,ybg,yn3,List.append_assoc,List.cons_append,List.nil_append,List.length_append,List.length_cons,List.length_nil,Nat.zero_add,getR,setR,ycf,ycm,ynv,yA0 hok,ye0,yK6]
 ·rw[show yef c v=(yab,(ycb c).2) by unfold yef; rw[if_neg q1,if_pos q2]]
  have q1':¬ (c.length:Int)=0:=by omega
  simp (disch:=first|omega|decide) only[push_cast,↓reduceIte,Nat.reduceEqDiff,hk1,q1',q2,cv,List.nil_append,ycf,ycm,ynv,yA0 hok,ye0,yK6,yAo]
noncomputable def yt5:List D→Option D:=spOf (α:=List Ins×(Int×List Int)×(Dig×Dig)) (fun a=>[.slc (nz 3 (a.1.map insD)) (a.1.map insD) false,evD a.2.1,clD a.2.2]) (fun a=>a.1.length≤9223372036854775807∧vOK a.2.1) (fun a=>.tup [verD (yip a.2.2 (yef a.1 a.2.1)),.int .i64 (yef a.1 a.2.1).2])
theorem yNh(c:List Ins)(v:Int×List Int)(cl:Dig×Dig)(h:c.length≤9223372036854775807∧vOK v):yt5 [.slc (nz 3 (c.map insD)) (c.map insD) false,evD v,clD cl]=some (.tup [verD (yip cl (yef c v)),.int .i64 (yef c v).2]):=
 yae (fun⟨a0,a1,a2⟩ ⟨b0,b1,b2⟩ h=>by simp only[List.cons.injEq,D.slc.injEq,and_true,yea,yh2,yNd]at h; simp[h]) (c,v,cl) h
set_option maxHeartbeats 4000000 in
set_option maxRecDepth 20000 in
theorem Yc0(c:List Ins)(v:Int×List Int)(cl:Dig×Dig)(h:c.length≤9223372036854775807∧vOK v):@wW GG (tb [] [(45,yqx 46 Ydx)]) yhj.code (argF [.slc (nz 3 (c.map insD)) (c.map insD) false,evD v,clD cl]) [] ⟨retQ yhj.res (.tup [verD (yip cl (yef c v)),.int .i64 (yef c v).2])⟩:=by
 obtain⟨hc,hv⟩:=h
 unfold yhj
 have hcl:(digC cl.1++digC cl.2).all yas=true:=yjy cl
 have hok:StOK [⟨false,1,[.slc (nz 3 (c.map insD)) (c.map insD) false],false⟩,⟨false,1,evC v,false⟩,boxC cl,boxV (0,yab)]:=by
  refine ypo (S:=[]) (fun o ho=>by cases ho) _ (fun o ho=>?_)
  simp only[List.mem_cons,List.not_mem_nil,or_false]at ho
  rcases ho with rfl | rfl | rfl | rfl
  ·exact yQf c
  ·exact yux v
  ·exact yjy cl
  ·exact ym4 _
 have hok2:=ypo hok [boxC cl,boxV (0,yab)] (fun o ho=>by
  simp only[List.mem_cons,List.not_mem_nil,or_false]at ho
  rcases ho with rfl | rfl
  ·exact yjy cl
  ·exact ym4 _)
 have hj:yqx 46 Ydx [clD cl,.clo 46 [.ptr 0 0,.ptr 1 0]] [⟨false,1,[.slc (nz 3 (c.map insD)) (c.map insD) false],false⟩,⟨false,1,evC v,false⟩,boxC cl,boxV (0,yab)]=some (.tup [verD (yip cl (yef c v)),.int .i64 (yef c v).2],[⟨false,1,[.slc (nz 3 (c.map insD)) (c.map insD) false],false⟩,⟨false,1,evC v,false⟩,boxC cl,boxV (0,yab)]):=
  yhw (yI7 _ _) ⟨cl,[.ptr 0 0,.ptr 1 0],(yef c v).1,(yef c v).2,hok,rfl,yhw Yux ⟨0,1,c,v,false,false,hok2,rfl,rfl,rfl,hc,hv,rfl⟩,rfl⟩
 have sv:=yB3 (0,yab)
 have lv:=yCt
 simp only[boxC,boxV,verD]at hj sv lv
 simp (disch:=first|omega|decide) only[push_cast,↓reduceIte,Nat.reduceEqDiff,Nat.reduceAdd,ydo,Yb4,Ym6,hj,verD,sv,lv]
theorem Yh7:Contract Tryz.prog GG 14 yt5:=
 yac (T:=tb [] [(45,yqx 46 Ydx)]) yxg (yan all_nil (all_cons (yQe _ (by decide) _ ci_f1) all_nil)) (fun a h=>Yc0 a.1 a.2.1 a.2.2 h)
theorem Yql(v:Int×List Int)(b:Int)(s:Sta)(x:Ins):(advF v b s x).stack.length≤s.stack.length+1:=by
 have h:∀ o:Out,(outS (decS s) o).stack.length≤s.stack.length+1:=by
  intro o
  cases o with
  |err e=>exact Nat.le_succ _
  |set p t c=>exact Nat.le_succ _
  |pop k push pc=>
   show(s.stack.take (s.stack.length - k)++push.toList).length≤_
   rw[List.length_append,List.length_take]
   have:push.toList.length≤1:=by cases push <;> simp
   omega
 unfold advF
 split
 ·exact Nat.le_succ _
 ·exact h _
theorem yVi(c:List Ins)(v:Int×List Int)(o:Opn):(ypk c v o).top.length≤o.top.length+1:=by
 unfold ypk
 split
 ·exact Yql v o.depth (opS o) _
 ·simp[zOpn]
def yei(c:List Ins)(v:Int×List Int)(b:Dig)(o:Opn):Dig×Int:=if b=padL then(b,0)else if ycx c v o≠b then(yab,390)else if o.status≠0 then(padL,0)else(ycx c v (ypk c v o),ypl c o)
def s1R(ds:List D)(st:St)(r:D×St):Prop:=∃ (kb kc kv ko:Nat) (b:Dig) (c:List Ins) (v:Int×List Int) (o:Opn) (lb lc lv lo:Bool),StOK st∧ds=[.ptr kb 0,.ptr kc 0,.ptr kv 0,.ptr ko 0]∧st[kb]?=some ⟨false,1,digC b,lb⟩∧st[kc]?=some ⟨false,1,[cdD c],lc⟩∧st[kv]?=some ⟨false,1,evC v,lv⟩∧st[ko]?=some ⟨false,1,opnC o,lo⟩∧c.length≤4294967296∧vOK v∧o.top.length≤4294967295∧
 r=(.tup [digD (yei c v b o).1,.int .i64 (yei c v b o).2],st)
theorem Ysp:Fun1 s1R:=by
 rintro ds st r r' ⟨kb,kc,kv,ko,b,c,v,o,lb,lc,lv,lo,_,rfl,h0,h1,h2,h3,_,_,_,rfl⟩ ⟨kb',kc',kv',ko',b',c',v',o',lb',lc',lv',lo',_,h,h0',h1',h2',h3',_,_,_,rfl⟩
 simp only[List.cons.injEq,D.ptr.injEq,and_true]at h
 obtain⟨rfl,rfl,rfl,rfl⟩:=h
 rw[h0]at h0'
 rw[h1]at h1'
 rw[h2]at h2'
 rw[h3]at h3'
 simp only[Ywh,Obj.mk.injEq,List.cons.injEq,and_true,true_and,Yax,yld]at h0' h1' h2' h3'
 obtain⟨rfl,_⟩:=h0'
 obtain⟨rfl,_⟩:=h1'
 obtain rfl:v=v':=yh2.1 (congrArg D.agg h2'.1)
 obtain rfl:o=o':=yq0.1 (congrArg D.agg h3'.1)
 rfl
noncomputable def Yls:List D→St→Option (D×St):=relI s1R
theorem Yf1(lent:Bool)(d:Dig):ldO (some ⟨false,1,digC d,lent⟩) 32 true 0=some (digD d):=yh0 1 lent _ 32 (yaa d)
theorem ycp(lent:Bool)(o:Opn):ldO (some ⟨false,1,opnC o,lent⟩) 38 true 0=some (opnD o):=by rw[opnD,yj5]; exact yS1 ..
theorem yl5(lent:Bool)(o:Opn):ldO (some ⟨false,1,opnC o,lent⟩) 1 false 2=some (.int .i64 o.status):=by rw[yj5]; exact yYl ..
theorem yc3(o:Opn):stO (some ⟨false,1,opC 0 0 0 0 (.slc 0 [] true) 0 yab,false⟩) 38 0 (opnD o)=some ⟨false,1,opnC o,false⟩:=by rw[opnD,yj5]; exact yHp ..
set_option maxHeartbeats 8000000 in
set_option maxRecDepth 20000 in
theorem ci_s1:IContract Tryz.prog GG 54 Yls:=by
 refine yla (T:=tb [(20,yvt),(40,yy1),(55,yEc)] []) yvm (yan (all_cons yQm (all_cons Yjw (all_cons Ypl all_nil))) all_nil) ?_
 intro ds st r hr
 obtain⟨kb,kc,kv,ko,b,c,v,o,lb,lc,lv,lo,hok,rfl,h0,h1,h2,h3,hc,hv,hto,rfl⟩:=yb9 hr
 have hk0:∀ l:St,(st++l)[kb]?=some ⟨false,1,digC b,lb⟩:=fun l=>by
  rw[List.getElem?_append_left (List.getElem?_eq_some_iff.1 h0).1]; exact h0
 have hk1:∀ l:St,(st++l)[kc]?=some ⟨false,1,[.slc (nz 3 (c.map insD)) (c.map insD) false],lc⟩:=fun l=>by
  rw[List.getElem?_append_left (List.getElem?_eq_some_iff.1 h1).1]; exact h1
 have hk2:∀ l:St,(st++l)[kv]?=some ⟨false,1,evC v,lv⟩:=fun l=>by
  rw[List.getElem?_append_left (List.getElem?_eq_some_iff.1 h2).1]; exact h2
 have hk3:∀ l:St,(st++l)[ko]?=some ⟨false,1,opnC o,lo⟩:=fun l=>by
  rw[List.getElem?_append_left (List.getElem?_eq_some_iff.1 h3).1]; exact h3
 have cp:=yqf
 have cc:=yA6 c v o ⟨hc,hv,by omega⟩
 have co:=yT5 c v o ⟨hc,hv⟩
 have hlo:=yVi c v o
 have cc2:=yA6 c v (ypk c v o) ⟨hc,hv,by omega⟩
 unfold yo2
 by_cases q1:b=padL
 ·rw[show yei c v b o=(b,0)from if_pos q1]
  simp (disch:=first|omega|decide) only[push_cast,↓reduceIte,Nat.reduceEqDiff,hk0,Yf1,q1,cp,ycf,ycm,ynv,yA0 hok,ye0,yK6]
 by_cases q2:ycx c v o=b
 ·by_cases q3:o.status=0
  ·rw[show yei c v b o=(ycx c v (ypk c v o),ypl c o) by unfold yei; rw[if_neg q1,if_neg (by simp[q2]),if_neg (by simp[q3])]]
   simp (disch:=first|omega|decide) only[push_cast,↓reduceIte,Nat.reduceEqDiff,hk0,hk1,hk2,hk3,Yf1,q1,q2,q3,cp,cc,cc2,co,ypf hv,ybg,ycn,ya7,yda,ycp,yl5,yc3,ysl,yba,List.append_assoc,List.cons_append,List.nil_append,List.length_append,List.length_cons,List.length_nil,Nat.zero_add,getR,setR,ycf,ycm,ynv,yA0 hok,ye0,yK6]
  ·rw[show yei c v b o=(padL,0) by unfold yei; rw[if_neg q1,if_neg (by simp[q2]),if_pos q3]]
   simp (disch:=first|omega|decide) only[push_cast,↓reduceIte,Nat.reduceEqDiff,hk0,hk1,hk2,hk3,Yf1,q1,q2,q3,cp,cc,ypf hv,ybg,ya7,ycp,yl5,Nat.zero_add,ycf,ycm,ynv,yA0 hok,ye0,yK6]
 ·rw[show yei c v b o=(yab,390) by unfold yei; rw[if_neg q1,if_pos q2]]
  simp (disch:=first|omega|decide) only[push_cast,↓reduceIte,Nat.reduceEqDiff,hk0,hk1,hk2,hk3,Yf1,q1,q2,cp,cc,ypf hv,ybg,ya7,ycp,ycf,ycm,ynv,yA0 hok,ye0,yK6,yAo]
noncomputable def yt4:List D→Option D:=spOf (α:=List Ins×(Int×List Int)×Dig×(Dig×Dig)×Opn) (fun a=>[.slc (nz 3 (a.1.map insD)) (a.1.map insD) false,evD a.2.1,digD a.2.2.1,clD a.2.2.2.1,opnD a.2.2.2.2]) (fun a=>a.1.length≤4294967296∧vOK a.2.1∧a.2.2.2.2.top.length≤4294967295) (fun a=>.tup [verD (yip a.2.2.2.1 (yei a.1 a.2.1 a.2.2.1 a.2.2.2.2)),.int .i64 (yei a.1 a.2.1 a.2.2.1 a.2.2.2.2).2])
theorem yDj(c:List Ins)(v:Int×List Int)(b:Dig)(cl:Dig×Dig)(o:Opn)(h:c.length≤4294967296∧vOK v∧o.top.length≤4294967295):yt4 [.slc (nz 3 (c.map insD)) (c.map insD) false,evD v,digD b,clD cl,opnD o]=some (.tup [verD (yip cl (yei c v b o)),.int .i64 (yei c v b o).2]):=
 yae (fun⟨a0,a1,a2,a3,a4⟩ ⟨b0,b1,b2,b3,b4⟩ h=>by simp only[List.cons.injEq,D.slc.injEq,yl9,and_true,yea,yq0,yh2,yNd]at h; simp[h]) (c,v,b,cl,o) h
noncomputable def stpT:Tbl:=tb [] [(45,yqx 54 Yls)]
set_option maxHeartbeats 8000000 in
set_option maxRecDepth 20000 in
theorem Yku(c:List Ins)(v:Int×List Int)(b:Dig)(cl:Dig×Dig)(o:Opn)(h:c.length≤4294967296∧vOK v∧o.top.length≤4294967295):@wW GG stpT yin.code (argF [.slc (nz 3 (c.map insD)) (c.map insD) false,evD v,digD b,clD cl,opnD o]) [] ⟨retQ yin.res (.tup [verD (yip cl (yei c v b o)),.int .i64 (yei c v b o).2])⟩:=by
 obtain⟨hc,hv,hto⟩:=h
 unfold yin
 have hos:(opnC o).all yas=true:=by
  rw[yj5]
  simp only[opC,List.all_cons,yco]
  simp[yas,ybq,yuk]
 have hok:StOK [⟨false,1,[.slc (nz 3 (c.map insD)) (c.map insD) false],false⟩,⟨false,1,evC v,false⟩,⟨false,1,digC b,false⟩,boxC cl,⟨false,1,opnC o,false⟩,boxV (0,yab)]:=by
  refine ypo (S:=[]) (fun o ho=>by cases ho) _ (fun x ho=>?_)
  simp only[List.mem_cons,List.not_mem_nil,or_false]at ho
  rcases ho with rfl | rfl | rfl | rfl | rfl | rfl
  ·exact yQf c
  ·exact yux v
  ·exact yco b
  ·exact yjy cl
  ·exact hos
  ·exact ym4 _
 have hok2:=ypo hok [boxC cl,boxV (0,yab)] (fun o ho=>by
  simp only[List.mem_cons,List.not_mem_nil,or_false]at ho
  rcases ho with rfl | rfl
  ·exact yjy cl
  ·exact ym4 _)
 have hj:yqx 54 Yls [clD cl,.clo 54 [.ptr 2 0,.ptr 0 0,.ptr 1 0,.ptr 4 0]] [⟨false,1,[.slc (nz 3 (c.map insD)) (c.map insD) false],false⟩,⟨false,1,evC v,false⟩,⟨false,1,digC b,false⟩,boxC cl,⟨false,1,opnC o,false⟩,boxV (0,yab)]=some (.tup [verD (yip cl (yei c v b o)),.int .i64 (yei c v b o).2],[⟨false,1,[.slc (nz 3 (c.map insD)) (c.map insD) false],false⟩,⟨false,1,evC v,false⟩,⟨false,1,digC b,false⟩,boxC cl,⟨false,1,opnC o,false⟩,boxV (0,yab)]):=
  yhw (yI7 _ _) ⟨cl,[.ptr 2 0,.ptr 0 0,.ptr 1 0,.ptr 4 0],(yei c v b o).1,(yei c v b o).2,hok,rfl,yhw Ysp ⟨2,0,1,4,b,c,v,o,false,false,false,false,hok2,rfl,rfl,rfl,rfl,rfl,hc,hv,hto,rfl⟩,rfl⟩
 have sv:=yB3 (0,yab)
 have lv:=yCt
 simp only[boxC,boxV,verD]at hj sv lv
 simp (disch:=first|omega|decide) only[push_cast,↓reduceIte,Nat.reduceEqDiff,Nat.reduceAdd,stpT,ydo,Yb4,yma,Ym6,hj,verD,sv,lv]
theorem Ypy:Contract Tryz.prog GG 16 yt4:=
 yac (T:=stpT) yyt (yan all_nil (all_cons (yQe _ (by decide) _ ci_s1) all_nil)) (fun a h=>Yku a.1 a.2.1 a.2.2.1 a.2.2.2.1 a.2.2.2.2 h)
noncomputable def Ydq:List D→Option D:=spOf (α:=Int×Dig×List Dig) (fun a=>[.int .i64 a.1,digD a.2.1,.slc (nz 32 (a.2.2.map digD)) (a.2.2.map digD) false]) (fun a=>0≤a.1∧a.1<4611686018427387904∧a.2.2.length≤4294967296) (fun a=>digD (yu0 a.1.toNat a.2.1 a.2.2))
theorem Yqw(i:Int)(x:Dig)(p:List Dig)(h:0≤i∧i<4611686018427387904∧p.length≤4294967296):Ydq [.int .i64 i,digD x,.slc (nz 32 (p.map digD)) (p.map digD) false]=some (digD (yu0 i.toNat x p)):=
 yae (fun⟨a0,a1,a2⟩ ⟨b0,b1,b2⟩ h=>by simp only[List.cons.injEq,D.slc.injEq,D.int.injEq,yGg,yl9,true_and,and_true]at h; simp[h]) (i,x,p) h
noncomputable def yey:List D→Option D:=spOf (α:=(Int×Dig)×Int×Dig×List Dig) (fun a=>[.agg (.int .i64 (Prod.fst a.1)::digC (Prod.snd a.1)),.int .i64 a.2.1,digD a.2.2.1,.slc (nz 32 (a.2.2.2.map digD)) (a.2.2.2.map digD) false]) (fun a=>-9223372036854775808≤a.2.1∧a.2.1<9223372036854775808) (fun a=>.bool (ya3 a.1 a.2.1 a.2.2.1 a.2.2.2))
theorem yic(c:Int×Dig)(i:Int)(x:Dig)(p:List Dig)(h:-9223372036854775808≤i∧i<9223372036854775808):yey [.agg (.int .i64 (Prod.fst c)::digC (Prod.snd c)),.int .i64 i,digD x,.slc (nz 32 (p.map digD)) (p.map digD) false]=some (.bool (ya3 c i x p)):=
 yae (fun⟨a0,a1,a2,a3⟩ ⟨b0,b1,b2,b3⟩ h=>by simp only[List.cons.injEq,D.slc.injEq,D.int.injEq,D.agg.injEq,yGg,yl9,yld,true_and,and_true]at h; simp[h,Prod.ext_iff]) (c,i,x,p) h
set_option maxHeartbeats 4000000 in
set_option maxRecDepth 20000 in
theorem yKw(c:Int×Dig)(i:Int)(x:Dig)(p:List Dig)(h:-9223372036854775808≤i∧i<9223372036854775808):@wW GG (tb [(25,ymi),(95,ymh)] []) yfn.code (argF [.agg (.int .i64 (Prod.fst c)::digC (Prod.snd c)),.int .i64 i,digD x,.slc (nz 32 (p.map digD)) (p.map digD) false]) [] ⟨retQ yfn.res (.bool (ya3 c i x p))⟩:=by
 obtain⟨n,r⟩:=c
 unfold yfn
 simp (disch:=omega) only[push_cast,↓reduceIte,Nat.reduceEqDiff,ye9]
 refine yai (fun h1=>?_) (fun h1=>?_)
 ·have e:ya3 (n,r) i x p=false:=by unfold ya3; simp; omega
  simp (disch:=omega) only[push_cast,↓reduceIte,Nat.reduceEqDiff,h1,e]
 ·have hd:0≤n∧n≤65536:=by
   by_cases hb:n<0∨65536<n
   ·rw[ym0 hb]at h1; omega
   ·omega
  obtain⟨e1,e2,e3⟩:=yAw hd.1 hd.2
  simp (disch:=omega) only[push_cast,↓reduceIte,Nat.reduceEqDiff,h1]
  refine yai (fun h2=>?_) (fun h2=>?_)
  ·have e:ya3 (n,r) i x p=false:=by unfold ya3; simp; omega
   simp (disch:=omega) only[push_cast,↓reduceIte,Nat.reduceEqDiff,h2,e]
  ·simp (disch:=omega) only[push_cast,↓reduceIte,Nat.reduceEqDiff,h2,Ylu]
   refine yai (fun h3=>?_) (fun h3=>?_)
   ·have e:ya3 (n,r) i x p=false:=by unfold ya3; simp; omega
    simp (disch:=omega) only[push_cast,↓reduceIte,Nat.reduceEqDiff,h3,e]
   ·simp (disch:=omega) only[push_cast,↓reduceIte,Nat.reduceEqDiff,h3]
    refine yai (fun h4=>?_) (fun h4=>?_)
    ·have e:ya3 (n,r) i x p=decide (yu0 i.toNat x p=r):=by
      unfold ya3
      simp only[show 0≤yao n from e2,show 0≤i by omega,show i<2 ^ (yao n).toNat by omega,h4,true_and]
     rw[e]
     simp (disch:=omega) only[push_cast,↓reduceIte,Nat.reduceEqDiff,h4]
     have hp:p.length≤16:=by omega
     have h16:(2:Int) ^ (yao n).toNat≤2 ^ 16:=yFa (by omega)
     refine ybr (fun q:Nat×Dig=>[(1,.int .i64 i),(3,.slc (nz 32 (p.map digD)) (p.map digD) false),(4,.ptr 0 0),(6,.ptr 1 0),(33,.int .i64 (p.length:Int)),(34,.int .i64 (q.1:Int))])
      (fun q=>[⟨false,1,.int .i64 n::digC r,false⟩,⟨false,1,digC q.2,false⟩])
      (fun q=>q.1≤p.length∧yu0 i.toNat x p=yu0 (i.toNat / 2 ^ q.1) q.2 (p.drop q.1)) (fun q=>p.length - q.1) (0,x) (by simp only[push_cast,↓reduceIte,Nat.reduceEqDiff,Nat.reduceLT,Nat.reduceLeDiff,Nat.reduceAdd,h4] <;> rfl) ⟨Nat.zero_le _,by simp⟩ ?_
     rintro⟨j,y⟩ ⟨h5,h6⟩
     simp only at h5 h6
     unfold yjb
     simp only[push_cast,↓reduceIte,Nat.reduceEqDiff]
     refine yai (fun h7=>?_) (fun h7=>?_)
     ·rw[yJt p j (by omega),yu0,Nat.div_div_eq_div_mul,← Nat.pow_succ]at h6
      have h8:=Yer j
      have h9:0≤i / 2 ^ j:=Int.ediv_nonneg (by omega) (by omega)
      have h10:i / 2 ^ j≤i:=Int.ediv_le_self _ (by omega)
      have h11:(i / 2 ^ j) % 2=((i.toNat / 2 ^ j % 2:Nat):Int):=by
       have:i=(i.toNat:Int):=by omega
       rw[this]; simp
      simp (disch:=omega) only[push_cast,↓reduceIte,Nat.reduceEqDiff,Ylt,Yqh]
      refine yai (fun h12=>?_) (fun h12=>?_)
      ·rw[if_pos (show i.toNat / 2 ^ j % 2=0 by omega)]at h6
       simp (disch:=omega) only[push_cast,↓reduceIte,Nat.reduceEqDiff,Nat.reduceLT,Nat.reduceLeDiff,Nat.reduceAdd,yi6,ybx,yaz]
       refine yaj (j+1,ydj y (p.getD j default)) ⟨by show j+1≤_; omega,h6⟩ (by show p.length - (j+1)<p.length - j; omega) ?_
       rfl
      ·rw[if_neg (show ¬ i.toNat / 2 ^ j % 2=0 by omega)]at h6
       simp (disch:=omega) only[push_cast,↓reduceIte,Nat.reduceEqDiff,Nat.reduceLT,Nat.reduceLeDiff,Nat.reduceAdd,yi6,ybx,yaz]
       refine yaj (j+1,ydj (p.getD j default) y) ⟨by show j+1≤_; omega,h6⟩ (by show p.length - (j+1)<p.length - j; omega) ?_
       rfl
     ·rw[List.drop_of_length_le (by omega)]at h6
      have h6:yu0 i.toNat x p=y:=h6
      simp (disch:=omega) only[push_cast,↓reduceIte,Nat.reduceEqDiff,Nat.reduceAdd,h6]
    ·have e:ya3 (n,r) i x p=false:=by
      unfold ya3
      simp
      intro _ _ _ h5
      exact absurd h5 h4
     simp (disch:=omega) only[push_cast,↓reduceIte,h4,e]
theorem yNk:Contract Tryz.prog GG 124 yey:=
 yac ytj (yan (all_cons yyc (all_cons yA9 all_nil)) all_nil) (fun a h=>yKw a.1 a.2.1 a.2.2.1 a.2.2.2 h)
set_option maxHeartbeats 8000000
set_option maxRecDepth 20000
def ykl(x:Bis):Bool:=if x.h<0 then false else if 16<x.h then false else if x.l<0 then false else if x.h<x.l then false else if 0≤x.i then(if x.i<2 ^ (x.h - x.l).toNat then decide (x.r=x.h - x.l)else false)else false
theorem ys5{x:Bis}(h:ykl x=true):0≤x.h∧x.h≤16∧0≤x.l∧x.l≤x.h∧0≤x.i∧x.i<2 ^ (x.h - x.l).toNat∧x.r=x.h - x.l:=by
 unfold ykl at h
 split at h; · cases h
 split at h; · cases h
 split at h; · cases h
 split at h; · cases h
 split at h
 ·split at h
  ·exact⟨by omega,by omega,by omega,by omega,by assumption,by assumption,of_decide_eq_true h⟩
  ·cases h
 ·cases h
theorem yJu{i:Int}{k:Nat}(h0:0≤i):i / 2 ^ k=0↔i<2 ^ k:=by
 have hp:(0:Int)<2 ^ k:=Int.pow_pos (by decide)
 constructor
 ·intro h
  have:=Int.emod_lt_of_pos i hp
  have e:=Int.ediv_mul_add_emod i (2 ^ k)
  rw[h]at e
  omega
 ·intro h
  exact Int.ediv_eq_zero_of_lt h0 h
noncomputable def yt2:List D→Option D:=spOf (α:=Bis) (fun a=>[bisD a]) (fun a=>True) (fun a=>.bool (ykl a))
theorem ys0(x:Bis):yt2 [bisD x]=some (.bool (ykl x)):=
 yae (fun a b h=>by simp only[List.cons.injEq,and_true,yyd]at h; simp[h]) (x) trivial
theorem Yct(x:Bis):@wW GG (tb [] []) yil.code (argF [bisD x]) [] ⟨retQ yil.res (.bool (ykl x))⟩:=by
 unfold yil ykl
 by_cases h1:x.h<0
 ·simp (disch:=first|omega|decide) only[push_cast,↓reduceIte,Nat.reduceEqDiff,h1]
 by_cases h2:16<x.h
 ·simp (disch:=first|omega|decide) only[push_cast,↓reduceIte,Nat.reduceEqDiff,h1,h2]
 by_cases h3:x.l<0
 ·simp (disch:=first|omega|decide) only[push_cast,↓reduceIte,Nat.reduceEqDiff,h1,h2,h3]
 by_cases h4:x.h<x.l
 ·simp (disch:=first|omega|decide) only[push_cast,↓reduceIte,Nat.reduceEqDiff,h1,h2,h3,h4]
 by_cases h5:0≤x.i
 ·have e:=yJu (k:=(x.h - x.l).toNat) h5
  by_cases h6:x.i<2 ^ (x.h - x.l).toNat
  ·simp (disch:=first|omega|decide) only[push_cast,↓reduceIte,Nat.reduceEqDiff,h1,h2,h3,h4,h5,h6,ydy,Ylt,e]
  ·simp (disch:=first|omega|decide) only[push_cast,↓reduceIte,Nat.reduceEqDiff,h1,h2,h3,h4,h5,h6,ydy,Ylt,e]
 ·simp (disch:=first|omega|decide) only[push_cast,↓reduceIte,Nat.reduceEqDiff,h1,h2,h3,h4,h5]
theorem yQn:Contract Tryz.prog GG 77 yt2:=
 yac yyr (yan all_nil all_nil) (fun a h=>Yct a)
theorem Yqt(n:Int)(h:0≤n∧n≤60):@wW GG (tb [(51,yVq),(162,yB8)] []) yd4.code (argF [.int .i64 n]) [] ⟨retQ yd4.res (digD (padN n.toNat))⟩:=by
 obtain⟨h0,h1⟩:=h
 unfold yd4
 simp (disch:=omega) only[push_cast,↓reduceIte,Nat.reduceEqDiff,Ya9]
 refine ybr (fun i:Nat=>[(0,.int .i64 n),(2,.ptr 0 0),(3,.ptr 1 0),(4,.int .i64 (i:Int))]) (fun i=>[⟨false,1,digC yab,false⟩,⟨false,1,digC (padN i),false⟩]) (fun i=>(i:Int)≤n) (fun i=>(n - i).toNat) 0 (by simp only[push_cast,↓reduceIte,Nat.reduceEqDiff,Nat.reduceLT,Nat.reduceLeDiff,Nat.reduceAdd,↓Int.reduceNatCast'] <;> rfl) (by omega) ?_
 intro i hi
 unfold yfa
 simp (disch:=omega) only[push_cast,↓reduceIte,Nat.reduceEqDiff]
 refine yai (fun h2=>?_) (fun h2=>?_)
 ·simp (disch:=first|omega|decide) only[push_cast,↓reduceIte,Nat.reduceEqDiff,Nat.reduceLT,Nat.reduceLeDiff,Nat.reduceAdd,yKb,yaz]
  refine yaj (i+1) (by omega) (by omega) ?_
  simp only[push_cast] <;> rfl
 ·have e:n.toNat=i:=by omega
  rw[e]
  simp (disch:=omega) only[push_cast,↓reduceIte,Nat.reduceEqDiff,Nat.reduceAdd,h2]
def padF(s:Int)(root:Dig):Nat→Dig
 |0=>root
 |j+1=>if yao s≤(j:Int)then ydj (padF s root j) (padN j)else padF s root j
noncomputable def yvu:List D→Option D:=spOf (α:=(Int×Dig)×Int) (fun a=>[.agg (.int .i64 (Prod.fst a.1)::digC (Prod.snd a.1)),.int .i64 a.2]) (fun a=>0≤a.2∧a.2≤60) (fun a=>digD (padF a.1.1 a.1.2 a.2.toNat))
theorem yw5(c:Int×Dig)(n:Int)(h:0≤n∧n≤60):yvu [.agg (.int .i64 (Prod.fst c)::digC (Prod.snd c)),.int .i64 n]=some (digD (padF c.1 c.2 n.toNat)):=
 yae (fun⟨a0,a1⟩ ⟨b0,b1⟩ h=>by simp only[List.cons.injEq,D.int.injEq,D.agg.injEq,yld,true_and,and_true]at h; simp[h,Prod.ext_iff]) (c,n) h
theorem yUy(c:Int×Dig)(n:Int)(h:0≤n∧n≤60):@wW GG (tb [(20,yvt),(95,ymh),(25,ymi)] []) yhi.code (argF [.agg (.int .i64 (Prod.fst c)::digC (Prod.snd c)),.int .i64 n]) [] ⟨retQ yhi.res (digD (padF c.1 c.2 n.toNat))⟩:=by
 obtain⟨s,root⟩:=c
 obtain⟨h0,h1⟩:=h
 dsimp only
 unfold yhi
 simp (disch:=omega) only[push_cast,↓yal,↓reduceIte,Nat.reduceEqDiff,Nat.reduceLT,Nat.reduceAdd,yqf,yam,yPh]
 refine ybr (fun i:Nat=>[(2,.ptr 0 0),(4,.ptr 1 0),(5,.ptr 2 0),(6,.ptr 3 0),(11,.int .i64 n),(12,.int .i64 (i:Int))]) (fun i=>[⟨false,1,.int .i64 s::digC root,false⟩,⟨false,1,digC yab,false⟩,⟨false,1,digC (padF s root i),false⟩,⟨false,1,digC (padN i),false⟩]) (fun i=>(i:Int)≤n) (fun i=>(n - i).toNat) 0 (by simp only[push_cast,↓reduceIte,Nat.reduceEqDiff,Nat.reduceLT,Nat.reduceLeDiff,Nat.reduceAdd,↓Int.reduceNatCast'] <;> rfl) (by omega) ?_
 intro i hi
 unfold ylx
 simp (disch:=omega) only[push_cast,↓reduceIte,Nat.reduceEqDiff]
 refine yai (fun h2=>?_) (fun h2=>?_)
 ·simp (disch:=first|omega|decide) only[push_cast,↓reduceIte,Nat.reduceEqDiff,ye9,yej,h2]
  refine yai (fun h3=>?_) (fun h3=>?_)
  ·simp (disch:=first|omega|decide) only[push_cast,↓reduceIte,Nat.reduceEqDiff,Nat.reduceLT,Nat.reduceLeDiff,Nat.reduceAdd,ybx,yaz,h3]
   refine yaj (i+1) (by omega) (by omega) ?_
   rw[show padF s root (i+1)=ydj (padF s root i) (padN i)from if_pos h3]
   simp only[push_cast] <;> rfl
  ·simp (disch:=first|omega|decide) only[push_cast,↓reduceIte,Nat.reduceEqDiff,Nat.reduceLT,Nat.reduceLeDiff,Nat.reduceAdd,ybx,yaz,h3]
   refine yaj (i+1) (by omega) (by omega) ?_
   rw[show padF s root (i+1)=padF s root i from if_neg h3]
   simp only[push_cast] <;> rfl
 ·have e:n.toNat=i:=by omega
  rw[e]
  simp (disch:=omega) only[push_cast,↓reduceIte,Nat.reduceEqDiff,Nat.reduceAdd,h2]
theorem Ybr:Contract Tryz.prog GG 76 yvu:=
 yac yxe (yan (all_cons yQm (all_cons yA9 (all_cons yyc all_nil))) all_nil) (fun a h=>yUy a.1 a.2 h)
theorem yag(st:St)(n sz key off:Nat)(k:IntKind)(i:Int)(h0:0≤i)(h1:i<(n:Int)):ymn st n sz (.ptr key off) (.int k i)=some (.ptr key (off+i.toNat*sz)):=by
 simp only[ymn,yj8 k i h0,pfld]
 rw[if_pos (by omega)]
def yry(a b:Int×Dig):Bis:=⟨max (yao a.1) (yao b.1),max (yao a.1) (yao b.1),0,padF a.1 a.2 (max (yao a.1) (yao b.1)).toNat,padF b.1 b.2 (max (yao a.1) (yao b.1)).toNat,false,false,yab,yab,yab,yab,0⟩
def ylg(a b:Int×Dig):Bis:=if yao a.1<0 then ybh else if yao b.1<0 then ybh else if(yry a b).n0=(yry a b).n1 then ybh else yry a b
def yd7(a b:Int×Dig):Int:=if yao a.1<0 then 1 else if yao b.1<0 then 1 else if(yry a b).n0=(yry a b).n1 then 380 else 0
theorem yle(n:Int):-1≤yao n∧yao n≤16:=by
 by_cases h:n<0∨65536<n
 ·rw[ym0 h]; omega
 ·have:=yAw (n:=n) (by omega) (by omega)
  omega
noncomputable def yis:List D→Option D:=spOf (α:=(Int×Dig)×(Int×Dig)) (fun a=>[.agg (.int .i64 (Prod.fst a.1)::digC (Prod.snd a.1)),.agg (.int .i64 (Prod.fst a.2)::digC (Prod.snd a.2))]) (fun a=>True) (fun a=>.tup [bisD (ylg a.1 a.2),.int .i64 (yd7 a.1 a.2)])
theorem ys1(a:Int×Dig)(b:Int×Dig):yis [.agg (.int .i64 (Prod.fst a)::digC (Prod.snd a)),.agg (.int .i64 (Prod.fst b)::digC (Prod.snd b))]=some (.tup [bisD (ylg a b),.int .i64 (yd7 a b)]):=
 yae (fun⟨a0,a1⟩ ⟨b0,b1⟩ h=>by simp only[List.cons.injEq,D.int.injEq,D.agg.injEq,yld,true_and,and_true]at h; simp[h,Prod.ext_iff]) (a,b) trivial
set_option maxHeartbeats 4000000 in
set_option maxRecDepth 20000 in
theorem Ycw(a:Int×Dig)(b:Int×Dig):@wW GG (tb [(25,ymi),(76,yvu)] []) yim.code (argF [.agg (.int .i64 (Prod.fst a)::digC (Prod.snd a)),.agg (.int .i64 (Prod.fst b)::digC (Prod.snd b))]) [] ⟨retQ yim.res (.tup [bisD (ylg a b),.int .i64 (yd7 a b)])⟩:=by
 obtain⟨s1,r1⟩:=a
 obtain⟨s2,r2⟩:=b
 have d1:=yle s1
 have d2:=yle s2
 unfold yim ylg yd7
 dsimp only
 by_cases h1:yao s1<0
 ·simp (disch:=first|omega|decide) only[push_cast,↓reduceIte,Nat.reduceEqDiff,Nat.reduceAdd,yam,yej,ye9,h1]
 by_cases h2:yao s2<0
 ·simp (disch:=first|omega|decide) only[push_cast,↓reduceIte,Nat.reduceEqDiff,Nat.reduceAdd,yam,yej,ye9,h1,h2]
 have c1:=yw5 (s1,r1) (max (yao s1) (yao s2)) ⟨by omega,by omega⟩
 have c2:=yw5 (s2,r2) (max (yao s1) (yao s2)) ⟨by omega,by omega⟩
 dsimp only at c1 c2
 have e1:(yry (s1,r1) (s2,r2)).n0=padF s1 r1 (max (yao s1) (yao s2)).toNat:=rfl
 have e2:(yry (s1,r1) (s2,r2)).n1=padF s2 r2 (max (yao s1) (yao s2)).toNat:=rfl
 have e3:yry (s1,r1) (s2,r2)={ybh with h:=max (yao s1) (yao s2),l:=max (yao s1) (yao s2),n0:=padF s1 r1 (max (yao s1) (yao s2)).toNat,n1:=padF s2 r2 (max (yao s1) (yao s2)).toNat}:=rfl
 rw[e1,e2,e3]
 generalize padF s1 r1 (max (yao s1) (yao s2)).toNat=p1 at*
 generalize padF s2 r2 (max (yao s1) (yao s2)).toNat=p2 at*
 by_cases h3:p1=p2
 ·simp (disch:=first|omega|decide) only[push_cast,↓reduceIte,Nat.reduceEqDiff,Nat.reduceAdd,Nat.reduceMul,yam,yej,ybw,ye9,h1,h2,c1,c2,h3,yjm,yag]
 ·simp (disch:=first|omega|decide) only[push_cast,↓reduceIte,Nat.reduceEqDiff,Nat.reduceAdd,Nat.reduceMul,yam,yej,ybw,ye9,h1,h2,c1,c2,h3,yjm,yag]
theorem yGn:Contract Tryz.prog GG 26 yis:=
 yac yys (yan (all_cons yyc (all_cons Ybr all_nil)) all_nil) (fun a h=>Ycw a.1 a.2)
def Yk6(x:Bis)(p:Int):Bool:=if p=0 then x.t0 else x.t1
def ySf(x:Bis)(p:Int):Dig:=if p=0 then x.n0 else x.n1
def setB(x:Bis)(p:Int)(l r:Dig):Bis:=if p=0 then {x with t0:=true,l0:=l,r0:=r} else {x with t1:=true,l1:=l,r1:=r}
def yVj(x:Bis):Bis:=if x.l0=x.l1 then {ybh with h:=x.h,l:=x.l - 1,i:=2*x.i+1,n0:=x.r0,n1:=x.r1,r:=x.r+1} else {ybh with h:=x.h,l:=x.l - 1,i:=2*x.i,n0:=x.l0,n1:=x.l1,r:=x.r+1}
def yem(x:Bis)(p:Int)(l r:Dig):Bis:=if ykl x=true∧(p=0∨p=1)then(if x.l=0∨Yk6 x p=true then ybh else if ydj l r=ySf x p then(if Yk6 x (1 - p)=true then yVj (setB x p l r)else setB x p l r)else ybh)else ybh
def yfy(x:Bis)(p:Int)(l r:Dig):Int:=if ykl x=true∧(p=0∨p=1)then(if x.l=0∨Yk6 x p=true then 380 else if ydj l r=ySf x p then 0 else 381)else 1
theorem yZg{x:Bis}(h:ykl x=true):x.i<65536:=by
 obtain⟨a,b,c,d,e,f,g⟩:=ys5 h
 have:=yFa (a:=(x.h - x.l).toNat) (b:=16) (by omega)
 omega
noncomputable def yEr:List D→Option D:=spOf (α:=Bis×Int×Dig×Dig) (fun a=>[bisD a.1,.int .i64 a.2.1,digD a.2.2.1,digD a.2.2.2]) (fun a=>-9223372036854775808≤a.2.1∧a.2.1<9223372036854775808) (fun a=>.tup [bisD (yem a.1 a.2.1 a.2.2.1 a.2.2.2),.int .i64 (yfy a.1 a.2.1 a.2.2.1 a.2.2.2)])
theorem yUd(x:Bis)(p:Int)(l:Dig)(r:Dig)(h:-9223372036854775808≤p∧p<9223372036854775808):yEr [bisD x,.int .i64 p,digD l,digD r]=some (.tup [bisD (yem x p l r),.int .i64 (yfy x p l r)]):=
 yae (fun⟨a0,a1,a2,a3⟩ ⟨b0,b1,b2,b3⟩ h=>by simp only[List.cons.injEq,D.int.injEq,yl9,true_and,and_true,yyd]at h; simp[h]) (x,p,l,r) h
set_option maxHeartbeats 4000000 in
set_option maxRecDepth 20000 in
theorem Ykt(x:Bis)(p:Int)(l:Dig)(r:Dig)(h:-9223372036854775808≤p∧p<9223372036854775808):@wW GG (tb [(77,yt2),(95,ymh)] []) yfq.code (argF [bisD x,.int .i64 p,digD l,digD r]) [] ⟨retQ yfq.res (.tup [bisD (yem x p l r),.int .i64 (yfy x p l r)])⟩:=by
 unfold yfq
 by_cases hv:ykl x=true
 ·have cv:=ys0 x
  rw[hv]at cv
  by_cases hp:p=0∨p=1
  ·obtain⟨v1,v2,v3,v4,v5,v6,v7⟩:=ys5 hv
   have v8:=yZg hv
   rcases hp with rfl | rfl
   ·have q1:¬ (1:Int)=0:=by decide
    by_cases h1:x.l=0
    ·have e1:yem x 0 l r=ybh:=by unfold yem; rw[if_pos ⟨hv,.inl rfl⟩,if_pos (.inl h1)]
     have e2:yfy x 0 l r=380:=by unfold yfy; rw[if_pos ⟨hv,.inl rfl⟩,if_pos (.inl h1)]
     rw[e1,e2]
     simp (disch:=first|omega|decide) only[push_cast,↓reduceIte,Nat.reduceEqDiff,Nat.reduceAdd,cv,h1]
    by_cases h2:x.t0=true
    ·have e1:yem x 0 l r=ybh:=by unfold yem; rw[if_pos ⟨hv,.inl rfl⟩,if_pos (.inr h2)]
     have e2:yfy x 0 l r=380:=by unfold yfy; rw[if_pos ⟨hv,.inl rfl⟩,if_pos (.inr h2)]
     rw[e1,e2]
     simp (disch:=first|omega|decide) only[push_cast,↓reduceIte,Nat.reduceEqDiff,Nat.reduceAdd,Nat.reduceMul,cv,h1,h2,yag]
    have h2':x.t0=false:=by simpa using h2
    by_cases h3:ydj l r=x.n0
    ·by_cases h4:x.t1=true
     ·have e1:yem x 0 l r=yVj (setB x 0 l r):=by unfold yem; rw[if_pos ⟨hv,.inl rfl⟩,if_neg (by intro h; rcases h with h | h; exact h1 h; exact h2 h),if_pos (show ydj l r=ySf x 0 from h3)]; exact if_pos h4
      have e2:yfy x 0 l r=0:=by unfold yfy; rw[if_pos ⟨hv,.inl rfl⟩,if_neg (by intro h; rcases h with h | h; exact h1 h; exact h2 h)]; exact if_pos h3
      rw[e1,e2,show setB x 0 l r={x with t0:=true,l0:=l,r0:=r} from rfl]
      unfold yVj
      by_cases h5:l=x.l1
      ·simp (disch:=first|omega|decide) only[push_cast,↓yal,↓reduceIte,Nat.reduceEqDiff,Nat.reduceAdd,Nat.reduceMul,Nat.reduceBEq,Int.reduceSub,cv,h1,h2',h3,h4,← h5,yag,ybx,ydy,yBt,yaz,yjm]
      ·simp (disch:=first|omega|decide) only[push_cast,↓yal,↓reduceIte,Nat.reduceEqDiff,Nat.reduceAdd,Nat.reduceMul,Nat.reduceBEq,Int.reduceSub,cv,h1,h2',h3,h4,h5,yag,ybx,ydy,yBt,yaz,yjm]
     ·have h4':x.t1=false:=by simpa using h4
      have e1:yem x 0 l r=setB x 0 l r:=by unfold yem; rw[if_pos ⟨hv,.inl rfl⟩,if_neg (by intro h; rcases h with h | h; exact h1 h; exact h2 h),if_pos (show ydj l r=ySf x 0 from h3)]; exact if_neg h4
      have e2:yfy x 0 l r=0:=by unfold yfy; rw[if_pos ⟨hv,.inl rfl⟩,if_neg (by intro h; rcases h with h | h; exact h1 h; exact h2 h)]; exact if_pos h3
      rw[e1,e2,show setB x 0 l r={x with t0:=true,l0:=l,r0:=r} from rfl]
      simp (disch:=first|omega|decide) only[push_cast,↓yal,↓reduceIte,Nat.reduceEqDiff,Nat.reduceAdd,Nat.reduceMul,Nat.reduceBEq,Int.reduceSub,cv,h1,h2',h3,h4',yag,ybx,ydy]
    ·have e1:yem x 0 l r=ybh:=by unfold yem; rw[if_pos ⟨hv,.inl rfl⟩,if_neg (by intro h; rcases h with h | h; exact h1 h; exact h2 h)]; exact if_neg h3
     have e2:yfy x 0 l r=381:=by unfold yfy; rw[if_pos ⟨hv,.inl rfl⟩,if_neg (by intro h; rcases h with h | h; exact h1 h; exact h2 h)]; exact if_neg h3
     rw[e1,e2]
     simp (disch:=first|omega|decide) only[push_cast,↓reduceIte,Nat.reduceEqDiff,Nat.reduceAdd,Nat.reduceMul,cv,h1,h2',h3,yag,ybx]
   ·have q1:¬ (1:Int)=0:=by decide
    by_cases h1:x.l=0
    ·have e1:yem x 1 l r=ybh:=by unfold yem; rw[if_pos ⟨hv,.inr rfl⟩,if_pos (.inl h1)]
     have e2:yfy x 1 l r=380:=by unfold yfy; rw[if_pos ⟨hv,.inr rfl⟩,if_pos (.inl h1)]
     rw[e1,e2]
     simp (disch:=first|omega|decide) only[push_cast,↓reduceIte,Nat.reduceEqDiff,Nat.reduceAdd,cv,h1,q1]
    by_cases h2:x.t1=true
    ·have e1:yem x 1 l r=ybh:=by unfold yem; rw[if_pos ⟨hv,.inr rfl⟩,if_pos (.inr h2)]
     have e2:yfy x 1 l r=380:=by unfold yfy; rw[if_pos ⟨hv,.inr rfl⟩,if_pos (.inr h2)]
     rw[e1,e2]
     simp (disch:=first|omega|decide) only[push_cast,↓reduceIte,Nat.reduceEqDiff,Nat.reduceAdd,Nat.reduceMul,cv,h1,h2,q1,yag]
    have h2':x.t1=false:=by simpa using h2
    by_cases h3:ydj l r=x.n1
    ·by_cases h4:x.t0=true
     ·have e1:yem x 1 l r=yVj (setB x 1 l r):=by unfold yem; rw[if_pos ⟨hv,.inr rfl⟩,if_neg (by intro h; rcases h with h | h; exact h1 h; exact h2 h),if_pos (show ydj l r=ySf x 1 from h3)]; exact if_pos h4
      have e2:yfy x 1 l r=0:=by unfold yfy; rw[if_pos ⟨hv,.inr rfl⟩,if_neg (by intro h; rcases h with h | h; exact h1 h; exact h2 h)]; exact if_pos h3
      rw[e1,e2,show setB x 1 l r={x with t1:=true,l1:=l,r1:=r} from rfl]
      unfold yVj
      by_cases h5:l=x.l0
      ·simp (disch:=first|omega|decide) only[push_cast,↓yal,↓reduceIte,Nat.reduceEqDiff,Nat.reduceAdd,Nat.reduceMul,Nat.reduceBEq,Int.reduceSub,cv,h1,h2',h3,h4,q1,← h5,yag,ybx,ydy,yBt,yaz,yjm]
      ·have h6:¬ x.l0=l:=fun h=>h5 h.symm
       simp (disch:=first|omega|decide) only[push_cast,↓yal,↓reduceIte,Nat.reduceEqDiff,Nat.reduceAdd,Nat.reduceMul,Nat.reduceBEq,Int.reduceSub,cv,h1,h2',h3,h4,h5,h6,q1,yag,ybx,ydy,yBt,yaz,yjm]
     ·have h4':x.t0=false:=by simpa using h4
      have e1:yem x 1 l r=setB x 1 l r:=by unfold yem; rw[if_pos ⟨hv,.inr rfl⟩,if_neg (by intro h; rcases h with h | h; exact h1 h; exact h2 h),if_pos (show ydj l r=ySf x 1 from h3)]; exact if_neg h4
      have e2:yfy x 1 l r=0:=by unfold yfy; rw[if_pos ⟨hv,.inr rfl⟩,if_neg (by intro h; rcases h with h | h; exact h1 h; exact h2 h)]; exact if_pos h3
      rw[e1,e2,show setB x 1 l r={x with t1:=true,l1:=l,r1:=r} from rfl]
      simp (disch:=first|omega|decide) only[push_cast,↓yal,↓reduceIte,Nat.reduceEqDiff,Nat.reduceAdd,Nat.reduceMul,Nat.reduceBEq,Int.reduceSub,cv,h1,h2',h3,h4',q1,yag,ybx,ydy]
    ·have e1:yem x 1 l r=ybh:=by unfold yem; rw[if_pos ⟨hv,.inr rfl⟩,if_neg (by intro h; rcases h with h | h; exact h1 h; exact h2 h)]; exact if_neg h3
     have e2:yfy x 1 l r=381:=by unfold yfy; rw[if_pos ⟨hv,.inr rfl⟩,if_neg (by intro h; rcases h with h | h; exact h1 h; exact h2 h)]; exact if_neg h3
     rw[e1,e2]
     simp (disch:=first|omega|decide) only[push_cast,↓reduceIte,Nat.reduceEqDiff,Nat.reduceAdd,Nat.reduceMul,cv,h1,h2',h3,q1,yag,ybx]
  ·have e1:yem x p l r=ybh:=by unfold yem; exact if_neg fun h=>hp h.2
   have e2:yfy x p l r=1:=by unfold yfy; exact if_neg fun h=>hp h.2
   have p0:¬ p=0:=fun h=>hp (.inl h)
   have p1:¬ p=1:=fun h=>hp (.inr h)
   rw[e1,e2]
   simp (disch:=first|omega|decide) only[push_cast,↓reduceIte,Nat.reduceEqDiff,Nat.reduceAdd,cv,p0,p1]
 ·have hv':ykl x=false:=by simpa using hv
  have cv:=ys0 x
  rw[hv']at cv
  have e1:yem x p l r=ybh:=by unfold yem; exact if_neg fun h=>hv h.1
  have e2:yfy x p l r=1:=by unfold yfy; exact if_neg fun h=>hv h.1
  rw[e1,e2]
  simp (disch:=first|omega|decide) only[push_cast,↓reduceIte,Nat.reduceEqDiff,Nat.reduceAdd,cv]
theorem Ypx:Contract Tryz.prog GG 122 yEr:=
 yac ytp (yan (all_cons yQn (all_cons yA9 all_nil)) all_nil) (fun a h=>Ykt a.1 a.2.1 a.2.2.1 a.2.2.2 h)
noncomputable def Ydp:List D→Option D:=spOf (α:=Bis×Int×Dig×Dig) (fun a=>[bisD a.1,.int .i64 a.2.1,digD a.2.2.1,digD a.2.2.2]) (fun a=>-9223372036854775808≤a.2.1∧a.2.1<9223372036854775808) (fun a=>.tup [bisD (yem a.1 a.2.1 a.2.2.1 a.2.2.2),.int .i64 (yfy a.1 a.2.1 a.2.2.1 a.2.2.2)])
theorem Yqv(x:Bis)(p:Int)(l:Dig)(r:Dig)(h:-9223372036854775808≤p∧p<9223372036854775808):Ydp [bisD x,.int .i64 p,digD l,digD r]=some (.tup [bisD (yem x p l r),.int .i64 (yfy x p l r)]):=
 yae (fun⟨a0,a1,a2,a3⟩ ⟨b0,b1,b2,b3⟩ h=>by simp only[List.cons.injEq,D.int.injEq,yl9,true_and,and_true,yyd]at h; simp[h]) (x,p,l,r) h
theorem ydu(st:St)(a b:Dig):immL st (d2C a b)=some (d2C a b):=yhv st (yJx a b)
def yow(x:Bis):Bool:=ykl x && decide (x.l≤0)
def yv9(x:Bis):Int:=if yow x=true then x.i else 0
def yku(x:Bis):Dig:=if yow x=true then x.n0 else yab
def ykt(x:Bis):Dig:=if yow x=true then x.n1 else yab
noncomputable def yt3:List D→Option D:=spOf (α:=Bis) (fun a=>[bisD a]) (fun a=>True) (fun a=>.tup [.int .i64 (yv9 a),.agg (d2C (yku a) (ykt a)),.bool (yow a)])
theorem yre(x:Bis):yt3 [bisD x]=some (.tup [.int .i64 (yv9 x),.agg (d2C (yku x) (ykt x)),.bool (yow x)]):=
 yae (fun a b h=>by simp only[List.cons.injEq,and_true,yyd]at h; simp[h]) (x) trivial
set_option maxHeartbeats 4000000 in
set_option maxRecDepth 20000 in
theorem Yks(x:Bis):@wW GG (tb [(77,yt2)] []) yjt.code (argF [bisD x]) [] ⟨retQ yjt.res (.tup [.int .i64 (yv9 x),.agg (d2C (yku x) (ykt x)),.bool (yow x)])⟩:=by
 have cv:=ys0 x
 unfold yjt yv9 yku ykt yow
 by_cases hv:ykl x=true
 ·rw[hv]at cv ⊢
  by_cases h1:0<x.l
  ·have h2:¬ x.l≤0:=by omega
   simp (disch:=first|omega|decide) only[push_cast,↓reduceIte,Nat.reduceEqDiff,ydu,cv,h1,h2]
  ·have h2:x.l≤0:=by omega
   simp (disch:=first|omega|decide) only[push_cast,↓reduceIte,Nat.reduceEqDiff,ydu,cv,h1,h2]
 ·have hv':ykl x=false:=by simpa using hv
  rw[hv']at cv ⊢
  simp (disch:=first|omega|decide) only[push_cast,↓reduceIte,Nat.reduceEqDiff,ydu,cv]
theorem yNn:Contract Tryz.prog GG 88 yt3:=
 yac yBp (yan (all_cons yQn all_nil) all_nil) (fun a h=>Yks a)
structure Ky where
 kd:Int
 wg:Int
 rr:Int
 rn:Int
 pt:Int
 deriving DecidableEq,Inhabited
def kyC(k:Ky):List D:=[.int .i64 k.kd,.int .i64 k.wg,.int .i64 k.rr,.int .i64 k.rn,.int .i64 k.pt]
def kyD(k:Ky):D:=.agg (kyC k)
abbrev kysD(l:List Ky):D:=.slc (nz 5 (l.map kyD)) (l.map kyD) false
theorem yYq{a b:Ky}:kyC a=kyC b↔a=b:=by
 refine⟨fun h=>?_,fun h=>by rw[h]⟩
 obtain⟨a1,a2,a3,a4,a5⟩:=a
 obtain⟨b1,b2,b3,b4,b5⟩:=b
 simp only[kyC,List.cons.injEq,D.int.injEq,true_and,and_true]at h
 obtain⟨rfl,rfl,rfl,rfl,rfl⟩:=h
 rfl
theorem yFx{a b:Ky}:kyD a=kyD b↔a=b:=by simp only[kyD,D.agg.injEq,yYq]
theorem yFw{a b:List Ky}:a.map kyD=b.map kyD↔a=b:=by
 refine⟨fun h=>?_,fun h=>by rw[h]⟩
 induction a generalizing b with
 |nil=>cases b with
  |nil=>rfl
  |cons y b=>simp at h
 |cons x a ih=>cases b with
  |nil=>simp at h
  |cons y b=>
   simp only[List.map_cons,List.cons.injEq,yFx]at h
   rw[h.1,ih h.2]
theorem yx1{a b:List Ky}:kysD a=kysD b↔a=b:=by
 simp only[kysD,D.slc.injEq,and_true,yFw]
 exact⟨fun h=>h.2,fun h=>⟨by rw[h],h⟩⟩
theorem Yb7{a b:List Bool}:a.map D.bool=b.map D.bool↔a=b:=by
 refine⟨fun h=>?_,fun h=>by rw[h]⟩
 induction a generalizing b with
 |nil=>cases b with
  |nil=>rfl
  |cons y b=>simp at h
 |cons x a ih=>cases b with
  |nil=>simp at h
  |cons y b=>
   simp only[List.map_cons,List.cons.injEq,D.bool.injEq]at h
   rw[h.1,ih h.2]
structure Cse where
 key:Ky
 p0:Int
 p1:Int
 ph:Int
 dl:Int
 a0:Int
 a1:Int
 c0:Int×Dig
 c1:Int×Dig
 b:Bis
 wn:Int
 am:Int
 ct:Int
 jn:List Ky
 deriving DecidableEq
def bisS(x:Bis):List Sg:=[.c (.int .i64 x.h),.c (.int .i64 x.l),.c (.int .i64 x.i),.g x.n0,.g x.n1,.c (.bool x.t0),.c (.bool x.t1),.g x.l0,.g x.l1,.g x.r0,.g x.r1,.c (.int .i64 x.r)]
theorem ywl(x:Bis):flat (bisS x)=bisC x:=by simp[flat,bisS,bisC,Sg.cs]
def kyS(k:Ky):List Sg:=[.c (.int .i64 k.kd),.c (.int .i64 k.wg),.c (.int .i64 k.rr),.c (.int .i64 k.rn),.c (.int .i64 k.pt)]
theorem Yjo(k:Ky):flat (kyS k)=kyC k:=rfl
def cseS(x:Cse)(j:D):List Sg:=kyS x.key++[.c (.int .i64 x.p0),.c (.int .i64 x.p1),.c (.int .i64 x.ph),.c (.int .i64 x.dl),.c (.int .i64 x.a0),.c (.int .i64 x.a1),.c (.int .i64 x.c0.1),.g x.c0.2,.c (.int .i64 x.c1.1),.g x.c1.2]++bisS x.b++[.c (.int .i64 x.wn),.c (.int .i64 x.am),.c (.int .i64 x.ct),.c j]
def cseC(x:Cse)(j:D):List D:=flat (cseS x j)
def cseD(x:Cse):D:=.agg (cseC x (kysD x.jn))
theorem yeg(x:Cse)(j:D):wfS (cseS x j):=trivial
theorem yc8(x:Cse)(j:D):(cseC x j).length=279:=by
 rw[cseC,yjk (yeg x j)]; simp[lenS,cseS,kyS,bisS,Sg.sz]
theorem yGi{x y:Cse}{i j:D}(h:cseC x i=cseC y j):({x with jn:=[]}:Cse)={y with jn:=[]}∧i=j:=by
 obtain⟨xk,x0,x1,x2,x3,x4,x5,xc,xe,xb,x6,x7,x8,xj⟩:=x
 obtain⟨yk,y0,y1,y2,y3,y4,y5,yc,ye,yb,y6,y7,y8,yj⟩:=y
 obtain⟨xk1,xk2,xk3,xk4,xk5⟩:=xk
 obtain⟨yk1,yk2,yk3,yk4,yk5⟩:=yk
 obtain⟨xc1,xc2⟩:=xc
 obtain⟨xe1,xe2⟩:=xe
 obtain⟨yc1,yc2⟩:=yc
 obtain⟨ye1,ye2⟩:=ye
 simp only[cseC,cseS,kyS,List.cons_append,List.nil_append,flat,Sg.cs,yfi,ywl,List.cons.injEq,D.int.injEq,true_and,List.append_nil]at h
 obtain⟨rfl,rfl,rfl,rfl,rfl,rfl,rfl,rfl,rfl,rfl,rfl,rfl,h⟩:=h
 obtain⟨h1,h2⟩:=List.append_inj h (by simp[yaa])
 clear h
 simp only[List.cons.injEq,D.int.injEq,true_and]at h2
 obtain⟨q1,h3⟩:=h2
 obtain⟨h4,h5⟩:=List.append_inj h3 (by simp[yaa])
 obtain⟨h6,h7⟩:=List.append_inj h5 (by simp[ykm])
 simp only[List.cons.injEq,D.int.injEq,true_and,and_true]at h7
 obtain⟨q2,q3,q4,q5⟩:=h7
 subst q1 q2 q3 q4 q5
 obtain rfl:=yga h1
 obtain rfl:=yga h4
 obtain rfl:=yQr h6
 exact⟨rfl,rfl⟩
theorem yjp{x y:Cse}:cseD x=cseD y↔x=y:=by
 refine⟨fun h=>?_,fun h=>by rw[h]⟩
 simp only[cseD,D.agg.injEq]at h
 obtain⟨h1,h2⟩:=yGi h
 rw[yx1]at h2
 obtain⟨xk,x0,x1,x2,x3,x4,x5,xc,xe,xb,x6,x7,x8,xj⟩:=x
 obtain⟨yk,y0,y1,y2,y3,y4,y5,yc,ye,yb,y6,y7,y8,yj⟩:=y
 simp only[Cse.mk.injEq,and_true]at h1 h2 ⊢
 exact⟨h1.1,h1.2.1,h1.2.2.1,h1.2.2.2.1,h1.2.2.2.2.1,h1.2.2.2.2.2.1,h1.2.2.2.2.2.2.1,h1.2.2.2.2.2.2.2.1,h1.2.2.2.2.2.2.2.2.1,h1.2.2.2.2.2.2.2.2.2.1,h1.2.2.2.2.2.2.2.2.2.2.1,h1.2.2.2.2.2.2.2.2.2.2.2.1,h1.2.2.2.2.2.2.2.2.2.2.2.2,h2⟩
def yUq:Ky:=⟨0,0,0,0,0⟩
def ya9:Cse:=⟨yUq,0,0,0,0,0,0,(0,yab),(0,yab),ybh,0,0,0,[]⟩
structure Mv where
 kd:Int
 pt:Int
 am:Int
 cm:Int×Dig
 lf:Dig
 rt:Dig
 op:Opn
 path:List Dig
 key:Ky
 deriving DecidableEq
abbrev dgsD(l:List Dig):D:=.slc (nz 32 (l.map digD)) (l.map digD) false
def opnS(o:Opn)(t:D):List Sg:=[.c (.int .i64 o.pc),.c (.int .i64 o.fuel),.c (.int .i64 o.status),.c (.int .i64 o.clause),.c t,.c (.int .i64 o.depth),.g o.rest]
theorem yXl(o:Opn):flat (opnS o (ybq o.top))=opnC o:=by simp[flat,opnS,opnC,Sg.cs]
def mvS(m:Mv):List Sg:=[.c (.int .i64 m.kd),.c (.int .i64 m.pt),.c (.int .i64 m.am),.c (.int .i64 m.cm.1),.g m.cm.2,.g m.lf,.g m.rt]++opnS m.op (ybq m.op.top)++[.c (dgsD m.path)]++kyS m.key
def mvC(m:Mv):List D:=flat (mvS m)
def mvD(m:Mv):D:=.agg (mvC m)
theorem Ymo(m:Mv):wfS (mvS m):=trivial
theorem yq3(m:Mv):(mvC m).length=144:=by
 rw[mvC,yjk (Ymo m)]; simp[lenS,mvS,opnS,kyS,Sg.sz]
theorem yMh{x y:Mv}:mvD x=mvD y↔x=y:=by
 refine⟨fun h=>?_,fun h=>by rw[h]⟩
 obtain⟨x1,x2,x3,⟨x4,x5⟩,x6,x7,x8,x9,x10⟩:=x
 obtain⟨y1,y2,y3,⟨y4,y5⟩,y6,y7,y8,y9,y10⟩:=y
 simp only[mvD,D.agg.injEq,mvC,mvS,yfi,yXl,List.append_assoc]at h
 simp only[flat,Sg.cs,List.cons_append,List.nil_append,List.cons.injEq,D.int.injEq,true_and,List.append_nil,List.append_assoc]at h
 obtain⟨rfl,rfl,rfl,rfl,h⟩:=h
 obtain⟨h1,g1⟩:=List.append_inj h (by simp[yaa])
 obtain⟨h2,g2⟩:=List.append_inj g1 (by simp[yaa])
 obtain⟨h3,g3⟩:=List.append_inj g2 (by simp[yaa])
 obtain⟨h4,g4⟩:=List.append_inj g3 (by simp[yj5,yq1])
 simp only[List.cons.injEq,dgsD,D.slc.injEq,and_true,yGg,Yjo,yYq]at g4
 obtain⟨⟨_,q1⟩,q2⟩:=g4
 subst q1 q2
 obtain rfl:=yga h1
 obtain rfl:=yga h2
 obtain rfl:=yga h3
 obtain rfl:=yq0.1 (congrArg D.agg h4)
 rfl
structure Ply where
 x:Cse
 j:D
 c:List Ins
 v:Int×List Int
 m:Mv
 now:Int
 hv:vOK v
def plyS(p:Ply):List Sg:=cseS p.x p.j++[.c (cdD p.c),.w 17 (evC p.v)]++mvS p.m++[.c (.int .i64 p.now)]
def plyC(p:Ply):List D:=flat (plyS p)
theorem ycv(p:Ply):wfS (plyS p):=⟨ybk p.hv,trivial⟩
theorem yL2(p:Ply):(plyC p).length=442:=by
 rw[plyC,yjk (ycv p)]; simp[lenS,plyS,cseS,mvS,opnS,bisS,kyS,Sg.sz]
def ykn(n:Int):Prop:=-9007199254740992≤n∧n≤9007199254740992
instance (n:Int):Decidable (ykn n):=inferInstanceAs (Decidable (_∧_))
def yro(x:Cse):Prop:=x.ph=4∨x.ph=5∨x.ph=6
instance (x:Cse):Decidable (yro x):=inferInstanceAs (Decidable (_∨_))
def ygv(x:Cse):Prop:=x.ph=1∨x.ph=2∨x.ph=3
instance (x:Cse):Decidable (ygv x):=inferInstanceAs (Decidable (_∨_))
def yqa(x:Cse)(w a:Int):Cse:={x with ph:=4,wn:=w,am:=a}
def yUo(x:Cse)(p:Int):Int:=if p=0 then x.a0 else x.a1
def yp9(x:Cse)(p:Int):Int×Dig:=if p=0 then x.c0 else x.c1
def yez(x:Cse)(p:Int):Cse:=if p<0 then yqa x (-1) 0 else yqa x p (yUo x p)
def idx2(x:Cse)(n:Int):Int:=if x.a0=n then 0 else if x.a1=n then 1 else -1
def yS6(x:Cse)(n:Int):Cse:=yqa x (idx2 x n) n
def yQy(x:Cse)(now:Int):Cse:={x with ph:=3,dl:=now+1440}
def yse(c:List Ins)(v:Int×List Int)(x:Cse)(now:Int):Cse×Int:=
 if yow x.b=true then
  if yv9 x.b=0 then
   if(yef c v).2=0 then(yez x (yip (yku x.b,ykt x.b) (yef c v)).1,0)else(x,(yef c v).2)
  else(yQy x now,0)
 else(x,0)
def yGt(c:List Ins)(v:Int×List Int)(x:Cse)(m:Mv)(now:Int):Cse×Int:=
 if m.pt=1∧x.ph=1 then
  if ykn m.am then
   let y:Cse:={x with a1:=m.am,c1:=m.cm}
   if yd7 x.c0 m.cm=1 then(y,381)
   else if yd7 x.c0 m.cm=0 then yse c v {y with b:=ylg x.c0 m.cm,ph:=2,dl:=now+1440} now
   else if x.a0=m.am then(yez y 1,0)
   else if c.length=0 then(yS6 y 0,0)
   else(yQy y now,0)
  else(x,1)
 else(x,380)
def yTv(c:List Ins)(v:Int×List Int)(x:Cse)(m:Mv)(now:Int):Cse×Int:=
 if x.ph=2 then
  if yfy x.b m.pt m.lf m.rt=0 then
   if(yem x.b m.pt m.lf m.rt).r=x.b.r then({x with b:=yem x.b m.pt m.lf m.rt},0)
   else yse c v {x with b:=yem x.b m.pt m.lf m.rt,dl:=now+1440} now
  else(x,yfy x.b m.pt m.lf m.rt)
 else(x,380)
def nxtC(x:Cse)(p:Int):Int:=if yd7 x.c0 x.c1=380 then(yp9 x p).1 else if yd7 x.c0 x.c1=0 then yv9 x.b else 0
def yi4(x:Cse)(p:Int):Int×Bool:=
 if x.ph=3∧(p=0∨p=1)then
  if nxtC x p=0 then(0,false)else(nxtC x p - 1,true)
 else(0,false)
def Yna(l:List Int):Int:=l.getD (l.length - 1) 0
def ySd(c:List Ins)(v:Int×List Int)(x:Cse)(m:Mv):Cse×Int:=
 if(yi4 x m.pt).2=true then
  if yd7 x.c0 x.c1=380 then
   if ya3 (yp9 x m.pt) (yi4 x m.pt).1 (ycx c v m.op) m.path=true then
    if m.op.status≠0∧(m.op.status≠1∨0<m.op.top.length)then(yS6 x (if m.op.status=1 then Yna m.op.top else 0),0)
    else(x,390)
   else(x,40)
  else
   let i:=(yi4 x m.pt).1
   let bef:=if(yp9 x m.pt).1≤i then padL else ycx c v m.op
   if 2 ^ (yao (yp9 x m.pt).1).toNat≤i∨ya3 (yp9 x m.pt) i bef m.path=true then
    if(yei c v bef m.op).2=0 then(yez x (yip (yku x.b,ykt x.b) (yei c v bef m.op)).1,0)
    else(x,(yei c v bef m.op).2)
   else(x,40)
 else(x,380)
def yQx(x:Cse)(m:Mv):Cse×Int:=if m.pt=0 then({x with ph:=5,wn:=1},0)else(x,380)
def yNc(x:Cse)(m:Mv):Cse×Int:=if m.pt=1 then(yez x 0,0)else if 0≤x.ct then(yqa x 1 x.ct,0)else(x,380)
def yNa(x:Cse)(m:Mv)(now:Int):Cse×Int:=
 if m.pt=1∧x.ph=1∧x.ct<0 then
  if 0≤m.am∧ykn m.am then({x with ct:=m.am,dl:=now+1440},0)else(x,1)
 else(x,380)
def yks(x:Cse)(m:Mv):Cse×Int:=
 if m.pt=0∧x.ph=1 then
  if x.jn.length<8 then
   if m.key≠x.key∧m.key∉x.jn then({x with jn:=x.jn++[m.key]},0)else(x,1)
  else(x,2)
 else(x,380)
def ygh(c:List Ins)(v:Int×List Int)(x:Cse)(m:Mv)(now:Int):Cse×Int:=
 if m.kd=1 then yGt c v x m now
 else if m.kd=2 then yTv c v x m now
 else if m.kd=3 then ySd c v x m
 else if m.kd=4 then yQx x m
 else if m.kd=5 then yNc x m
 else if m.kd=6 then yNa x m now
 else yks x m
def yfg(c:List Ins)(v:Int×List Int)(x:Cse)(m:Mv)(now:Int):Int:=
 if ygv x then
  if(1≤m.kd∧m.kd≤7)∧0≤now∧now≤1073741824∧(m.pt=0∨m.pt=1)then
   if now≤x.dl then(ygh c v x m now).2 else 401
  else 1
 else 400
def yhy(c:List Ins)(v:Int×List Int)(x:Cse)(m:Mv)(now:Int):Cse:=if yfg c v x m now=0 then(ygh c v x m now).1 else ya9
def ybs(p q n:Int)(c:Int×Dig)(now:Int):Int:=
 if min p q<0∨16≤max p q∨p=q∨¬ ykn n∨now<0∨1073741824<now then 1 else if c.1<0∨65536<c.1 then 381 else 0
def yit(k:Ky)(p q n:Int)(c:Int×Dig)(now:Int):Cse:=
 if ybs p q n c now=0 then⟨k,p,q,1,now+1440,n,0,c,(0,yab),ybh,-1,0,-1,[]⟩else ya9
def yjg(x:Cse):Int:=if x.ph=1 then 0 else if x.ph=2∧x.b.t0≠x.b.t1 then(if x.b.t0=true then 0 else 1)else -1
def yvo(x:Cse)(now:Int):Cse:=if ygv x∧x.dl<now then {yez x (yjg x)with ph:=6} else x
section
variable (p:Ply) (sz:Nat) (lent:Bool)
theorem yer:ldO (some ⟨false,sz,plyC p,lent⟩) 1 false 7=some (.int .i64 p.x.ph):=ybu (l:=plyS p) rfl rfl (ycv p)
theorem yPf:ldO (some ⟨false,sz,plyC p,lent⟩) 1 false 9=some (.int .i64 p.x.a0):=ybu (l:=plyS p) rfl rfl (ycv p)
theorem yPe:ldO (some ⟨false,sz,plyC p,lent⟩) 1 false 10=some (.int .i64 p.x.a1):=ybu (l:=plyS p) rfl rfl (ycv p)
theorem yYh:ldO (some ⟨false,sz,plyC p,lent⟩) 1 false 274=some (.int .i64 p.x.b.r):=ybu (l:=plyS p) rfl rfl (ycv p)
theorem yCr:ldO (some ⟨false,sz,plyC p,lent⟩) 1 false 277=some (.int .i64 p.x.ct):=ybu (l:=plyS p) rfl rfl (ycv p)
theorem yYf:ldO (some ⟨false,sz,plyC p,lent⟩) 1 false 278=some p.j:=ybu (l:=plyS p) rfl rfl (ycv p)
theorem yfh:ldO (some ⟨false,sz,plyC p,lent⟩) 1 false 279=some (cdD p.c):=ybu (l:=plyS p) rfl rfl (ycv p)
theorem yau:ldO (some ⟨false,sz,plyC p,lent⟩) 1 false 298=some (.int .i64 p.m.pt):=ybu (l:=plyS p) rfl rfl (ycv p)
theorem yrs:ldO (some ⟨false,sz,plyC p,lent⟩) 1 false 299=some (.int .i64 p.m.am):=ybu (l:=plyS p) rfl rfl (ycv p)
theorem yft:ldO (some ⟨false,sz,plyC p,lent⟩) 1 false 435=some (dgsD p.m.path):=ybu (l:=plyS p) rfl rfl (ycv p)
theorem Ym2:ldO (some ⟨false,sz,plyC p,lent⟩) 1 false 441=some (.int .i64 p.now):=ybu (l:=plyS p) rfl rfl (ycv p)
theorem yFq:ldO (some ⟨false,sz,plyC p,lent⟩) 5 true 0=some (kyD p.x.key):=yd3 (l:=plyS p) rfl rfl (ycv p) rfl
theorem yFr:ldO (some ⟨false,sz,plyC p,lent⟩) 279 true 0=some (.agg (cseC p.x p.j)):=yd3 (l:=plyS p) rfl rfl (ycv p) rfl
theorem yb8:ldO (some ⟨false,sz,plyC p,lent⟩) 33 true 11=some (.agg (.int .i64 p.x.c0.1::digC p.x.c0.2)):=yd3 (l:=plyS p) rfl rfl (ycv p) (by simp[flat,Sg.cs])
theorem yb7:ldO (some ⟨false,sz,plyC p,lent⟩) 33 true 44=some (.agg (.int .i64 p.x.c1.1::digC p.x.c1.2)):=yd3 (l:=plyS p) rfl rfl (ycv p) (by simp[flat,Sg.cs])
theorem yji:ldO (some ⟨false,sz,plyC p,lent⟩) 198 true 77=some (bisD p.x.b):=yd3 (l:=plyS p) rfl rfl (ycv p) (by rw[bisD,← ywl]; rfl)
theorem yf6:ldO (some ⟨false,sz,plyC p,lent⟩) 17 true 280=some (evD p.v):=yd3 (l:=plyS p) rfl rfl (ycv p) (by simp[flat,Sg.cs,evD])
theorem yCq:ldO (some ⟨false,sz,plyC p,lent⟩) 33 true 300=some (.agg (.int .i64 p.m.cm.1::digC p.m.cm.2)):=yd3 (l:=plyS p) rfl rfl (ycv p) (by simp[flat,Sg.cs])
theorem yPd:ldO (some ⟨false,sz,plyC p,lent⟩) 32 true 333=some (digD p.m.lf):=yd3 (l:=plyS p) rfl rfl (ycv p) (by simp[flat,Sg.cs,digD])
theorem yPc:ldO (some ⟨false,sz,plyC p,lent⟩) 32 true 365=some (digD p.m.rt):=yd3 (l:=plyS p) rfl rfl (ycv p) (by simp[flat,Sg.cs,digD])
theorem ydh:ldO (some ⟨false,sz,plyC p,lent⟩) 38 true 397=some (opnD p.m.op):=yd3 (l:=plyS p) rfl rfl (ycv p) (by rw[opnD,← yXl]; rfl)
theorem yFp:ldO (some ⟨false,sz,plyC p,lent⟩) 5 true 436=some (kyD p.m.key):=yd3 (l:=plyS p) rfl rfl (ycv p) rfl
end
section
variable (p:Ply) (sz:Nat)
theorem yHn(n:Int):stO (some ⟨false,sz,plyC p,false⟩) 1 7 (.int .i64 n)=some ⟨false,sz,plyC {p with x:={p.x with ph:=n}},false⟩:=yht (l:=plyS p) (X:=[.c (.int .i64 n)]) rfl rfl (ycv p) rfl rfl rfl rfl
theorem Yry(n:Int):stO (some ⟨false,sz,plyC p,false⟩) 1 8 (.int .i64 n)=some ⟨false,sz,plyC {p with x:={p.x with dl:=n}},false⟩:=yht (l:=plyS p) (X:=[.c (.int .i64 n)]) rfl rfl (ycv p) rfl rfl rfl rfl
theorem yB2(n:Int):stO (some ⟨false,sz,plyC p,false⟩) 1 10 (.int .i64 n)=some ⟨false,sz,plyC {p with x:={p.x with a1:=n}},false⟩:=yht (l:=plyS p) (X:=[.c (.int .i64 n)]) rfl rfl (ycv p) rfl rfl rfl rfl
theorem Yi4(n:Int):stO (some ⟨false,sz,plyC p,false⟩) 1 275 (.int .i64 n)=some ⟨false,sz,plyC {p with x:={p.x with wn:=n}},false⟩:=yht (l:=plyS p) (X:=[.c (.int .i64 n)]) rfl rfl (ycv p) rfl rfl rfl rfl
theorem Yr0(n:Int):stO (some ⟨false,sz,plyC p,false⟩) 1 276 (.int .i64 n)=some ⟨false,sz,plyC {p with x:={p.x with am:=n}},false⟩:=yht (l:=plyS p) (X:=[.c (.int .i64 n)]) rfl rfl (ycv p) rfl rfl rfl rfl
theorem Yrz(n:Int):stO (some ⟨false,sz,plyC p,false⟩) 1 277 (.int .i64 n)=some ⟨false,sz,plyC {p with x:={p.x with ct:=n}},false⟩:=yht (l:=plyS p) (X:=[.c (.int .i64 n)]) rfl rfl (ycv p) rfl rfl rfl rfl
theorem Yi5(k t f l:Nat):stO (some ⟨false,sz,plyC p,false⟩) 1 278 (.row k t f l)=some ⟨false,sz,plyC {p with j:=.row k t f l},false⟩:=yht (l:=plyS p) (X:=[.c (.row k t f l)]) rfl rfl (ycv p) rfl rfl rfl rfl
theorem yB1(c:Int×Dig):stO (some ⟨false,sz,plyC p,false⟩) 33 44 (.agg (.int .i64 c.1::digC c.2))=some ⟨false,sz,plyC {p with x:={p.x with c1:=c}},false⟩:=
 yht (l:=plyS p) (X:=[.c (.int .i64 c.1),.g c.2]) rfl rfl (ycv p) rfl (by simp[flat,Sg.cs,D.cells]) (by simp[flat,Sg.cs,yaa]) (by simp only[flat,Sg.cs,List.append_nil,List.cons_append,List.nil_append,List.all_cons,ybc]; rfl)
theorem yVh(b:Bis):stO (some ⟨false,sz,plyC p,false⟩) 198 77 (bisD b)=some ⟨false,sz,plyC {p with x:={p.x with b:=b}},false⟩:=
 yht (l:=plyS p) (X:=bisS b) rfl rfl (ycv p) rfl (by rw[ywl]; rfl) (by rw[ywl,ykm]) (by rw[ywl]; exact yBf b)
end
noncomputable def relK(R:List D→St→D×Int×St→Prop):List D→St→Option (D×Int×St):=fun ds st=>@dite _ (∃ r,R ds st r) (Classical.propDecidable _) (fun h=>some h.choose) (fun _=>none)
theorem yOp{R:List D→St→D×Int×St→Prop}{ds:List D}{st:St}{r:D×Int×St}(h:relK R ds st=some r):R ds st r:=by
 unfold relK at h
 split at h
 ·rename_i hx
  simp only[Option.some.injEq]at h
  rw[← h]; exact hx.choose_spec
 ·cases h
def FnlK(R:List D→St→D×Int×St→Prop):Prop:=∀ ds st r r',R ds st r→R ds st r'→r=r'
theorem yLw{R:List D→St→D×Int×St→Prop}(hf:FnlK R){ds:List D}{st:St}{r:D×Int×St}(h:R ds st r):relK R ds st=some r:=by
 have hx:∃ r,R ds st r:=⟨r,h⟩
 unfold relK
 rw[dif_pos hx,hf _ _ _ _ hx.choose_spec h]
noncomputable def siK(R:List D→St→D×Int×St→Prop):List D→St→Option (D×St):=fun ds st=>match relK R ds st with
 |some (d,e,st')=>if e=0 then some (d,st')else none
 |none=>none
noncomputable def sxK(R:List D→St→D×Int×St→Prop):List D→St→Option (Nat×D×St):=fun ds st=>match relK R ds st with
 |some (_,e,st')=>if e=0 then none else some (125,.int .i64 e,st')
 |none=>none
theorem yHs{R:List D→St→D×Int×St→Prop}(hf:FnlK R){ds:List D}{st st':St}{d:D}(h:R ds st (d,0,st')):siK R ds st=some (d,st'):=by
 simp only[siK,yLw hf h,if_true]
theorem yHt{R:List D→St→D×Int×St→Prop}(hf:FnlK R){ds:List D}{st st':St}{d:D}{e:Int}(h:R ds st (d,e,st'))(he:e≠0):siK R ds st=none:=by
 simp only[siK,yLw hf h,if_neg he]
theorem yyx{R:List D→St→D×Int×St→Prop}(hf:FnlK R){ds:List D}{st st':St}{d:D}{e:Int}(h:R ds st (d,e,st'))(he:e≠0):sxK R ds st=some (125,.int .i64 e,st'):=by
 simp only[sxK,yLw hf h,if_neg he]
def retK(res:List PRes)(d:D)(e:Int)(st':St)(x:Ex)(fr:Frame)(st:St):Prop:=match x with
 |.exit _=>False
 |.panic t y=>¬ e=0∧t=125∧y=.int .i64 e∧st=st'
 |_=>e=0∧@on _ (raws ⟨fr,st⟩ res) ⟨fun l=>(pack l,st)=(d,st')⟩
theorem Yd4(res:List PRes)(d:D)(e:Int)(st':St)(fr:Frame)(st:St):retK res d e st' .ret fr st=(e=0∧@on _ (raws ⟨fr,st⟩ res) ⟨fun l=>(pack l,st)=(d,st')⟩):=(rfl)
theorem yWh(res:List PRes)(d:D)(e:Int)(st':St)(fr:Frame)(st:St):retK res d e st' .next fr st=(e=0∧@on _ (raws ⟨fr,st⟩ res) ⟨fun l=>(pack l,st)=(d,st')⟩):=(rfl)
theorem yRk(res:List PRes)(d:D)(e:Int)(st':St)(t:Nat)(y:D)(fr:Frame)(st:St):retK res d e st' (.panic t y) fr st=(¬ e=0∧t=125∧y=.int .i64 e∧st=st'):=(rfl)
theorem ykb{T:Tbl}{il:List Nat}{f:Nat}{hints:List (List Nat)}{F:PF}{R:List D→St→D×Int×St→Prop}(ht:trF Tryz.prog il f hints=some F)(hT:TblOK Tryz.prog GG T)
  (h:∀ ds st d e st',R ds st (d,e,st')→@wW GG T F.code (argF ds) st ⟨retK F.res d e st'⟩) (hy:T.y=fun _ _ _=>none:=by rfl):IContract Tryz.prog GG f (siK R)∧yh6 Tryz.prog GG f (sxK R):=by
 constructor
 ·refine yak ht hT (fun ds st r hr=>?_) hy
  unfold siK at hr
  split at hr
  case h_2=>cases hr
  rename_i d e st' hg
  split at hr
  case isFalse=>cases hr
  rename_i he
  simp only[Option.some.injEq]at hr
  subst hr; subst he
  refine Yc1 (ylh _ _ _ _ _ (W_of (h _ _ _ _ _ (yOp hg))) fun x fr st hq=>?_)
  cases x with
  |exit i=>exact hq.elim
  |panic t y=>exact absurd rfl hq.1
  |next=>unfold retI; exact hq.2
  |ret=>unfold retI; exact hq.2
 ·refine yGz ht hT (fun ds st r hr=>?_) hy
  unfold sxK at hr
  split at hr
  case h_2=>cases hr
  rename_i d e st' hg
  split at hr
  case isTrue=>cases hr
  rename_i he
  simp only[Option.some.injEq]at hr
  subst hr
  refine Yc1 (ylh _ _ _ _ _ (W_of (h _ _ _ _ _ (yOp hg))) fun x fr st hq=>?_)
  cases x with
  |exit i=>exact hq.elim
  |panic t y=>obtain⟨_,rfl,rfl,rfl⟩:=hq; unfold retX; rfl
  |next=>exact absurd hq.1 he
  |ret=>exact absurd hq.1 he
attribute [irreducible] retK
attribute [push_cast] Yd4 yWh yRk
abbrev CK(f:Nat)(R:List D→St→D×Int×St→Prop):Prop:=IContract Tryz.prog GG f (siK R)∧yh6 Tryz.prog GG f (sxK R)
def yj6(ds:List D)(st:St)(r:D×Int×St):Prop:=∃ (b:Bool) (e:Int),ds=[.bool b,.int .i64 e]∧(b=false→e≠0)∧r=(.tup [],if b=true then 0 else e,st)
theorem yFh:FnlK yj6:=by
 rintro ds st r r' ⟨b,e,rfl,_,rfl⟩ ⟨b',e',h,_,rfl⟩
 simp only[List.cons.injEq,D.bool.injEq,D.int.injEq,true_and,and_true]at h
 obtain⟨rfl,rfl⟩:=h
 rfl
theorem sn_t(e:Int)(st:St):siK yj6 [.bool true,.int .i64 e] st=some (.tup [],st):=yHs yFh ⟨true,e,rfl,(fun h=>by cases h),rfl⟩
theorem sn_f{e:Int}(he:e≠0)(st:St):siK yj6 [.bool false,.int .i64 e] st=none:=yHt yFh (e:=e) ⟨false,e,rfl,fun _=>he,rfl⟩ he
theorem sx_f{e:Int}(he:e≠0)(st:St):sxK yj6 [.bool false,.int .i64 e] st=some (125,.int .i64 e,st):=yyx yFh (e:=e) (d:=.tup []) ⟨false,e,rfl,fun _=>he,rfl⟩ he
theorem yen:CK 73 yj6:=by
 refine ykb (T:=tb [] []) yDz (yan all_nil all_nil) ?_
 rintro ds st d e st' ⟨b,e',rfl,hb,h⟩
 simp only[Prod.mk.injEq]at h
 obtain⟨rfl,rfl,rfl⟩:=h
 unfold yw7
 cases b with
 |true=>simp (disch:=first|omega|decide) only[push_cast,↓reduceIte,and_true]
 |false=>
  have he:=hb rfl
  simp (disch:=first|omega|decide) only[push_cast,↓reduceIte,Nat.reduceEqDiff,he,and_true,not_false_eq_true]
def yzk(ds:List D)(st:St)(r:D×Int×St):Prop:=∃ (e:Int),ds=[.int .i64 e]∧r=(.tup [],e,st)
theorem yFf:FnlK yzk:=by
 rintro ds st r r' ⟨e,rfl,rfl⟩ ⟨e',h,rfl⟩
 simp only[List.cons.injEq,D.int.injEq,true_and,and_true]at h
 rw[h]
theorem sp_t(st:St):siK yzk [.int .i64 0] st=some (.tup [],st):=yHs yFf ⟨0,rfl,rfl⟩
theorem sp_f{e:Int}(he:e≠0)(st:St):siK yzk [.int .i64 e] st=none:=yHt yFf (e:=e) ⟨e,rfl,rfl⟩ he
theorem yBq{e:Int}(he:e≠0)(st:St):sxK yzk [.int .i64 e] st=some (125,.int .i64 e,st):=yyx yFf (e:=e) (d:=.tup []) ⟨e,rfl,rfl⟩ he
noncomputable abbrev TND:Tbl:=tbx [] [(73,siK yj6)] [(73,sxK yj6)]
theorem ywd:CK 123 yzk:=by
 refine ykb (T:=TND) yDy (ytt all_nil (all_cons yen.1 all_nil) (all_cons yen.2 all_nil)) ?_
 rintro ds st d e st' ⟨e',rfl,h⟩
 simp only[Prod.mk.injEq]at h
 obtain⟨rfl,rfl,rfl⟩:=h
 unfold yw6
 by_cases he:e=0
 ·have g:=eq_true he
  simp (disch:=first|omega|decide) only[push_cast,↓reduceIte,Nat.reduceEqDiff,g,decide_true,sn_t,and_true]
 ·simp (disch:=first|omega|decide) only[push_cast,↓reduceIte,Nat.reduceEqDiff,he,decide_false,sn_f,sx_f,and_true,not_false_eq_true]
def ixG{α:Type}[DecidableEq α](a:α):List α→Nat→Int
 |[],_=>-1
 |x::r,i=>if a=x then i else ixG a r (i+1)
theorem yFz{α:Type}[DecidableEq α][Inhabited α](a:α)(l:List α){i:Nat}(h:i<l.length):ixG a (l.drop i) i=if a=l.getD i default then(i:Int)else ixG a (l.drop (i+1)) (i+1):=by
 rw[List.drop_eq_getElem_cons h,ixG]
 simp[List.getD_eq_getElem?_getD,h]
theorem yYz{α:Type}[DecidableEq α](a:α):∀ (l:List α) (i:Nat),(0≤ixG a l i↔a∈l)∧-1≤ixG a l i
 |[],i=>by simp[ixG]
 |x::r,i=>by
  unfold ixG
  have ih:=yYz a r (i+1)
  by_cases h:a=x
  ·rw[if_pos h]; subst h; simp
  ·rw[if_neg h]
   exact⟨by rw[ih.1]; simp[h],ih.2⟩
theorem Ynq(n a b:Int):ixG n [a,b] 0=if a=n then 0 else if b=n then 1 else -1:=by
 show(if n=a then((0:Nat):Int)else if n=b then((1:Nat):Int)else -1)=_
 by_cases h:n=a
 ·subst h; simp
 ·have h':¬ a=n:=fun e=>h e.symm
  by_cases h2:n=b
  ·subst h2; simp[h,h']
  ·have h2':¬ b=n:=fun e=>h2 e.symm
   simp[h,h',h2,h2']
noncomputable def yN8:List D→Option D:=spOf (α:=List Int×Int) (fun a=>[.slc (nz 1 (a.1.map nI)) (a.1.map nI) false,.int .i64 a.2]) (fun a=>a.1.length≤4294967296) (fun a=>.int .i64 (ixG a.2 a.1 0))
theorem Yhv(l:List Int)(n:Int)(h:l.length≤4294967296):yN8 [.slc (nz 1 (l.map nI)) (l.map nI) false,.int .i64 n]=some (.int .i64 (ixG n l 0)):=
 yae (fun⟨a0,a1⟩ ⟨b0,b1⟩ h=>by simp only[List.cons.injEq,D.slc.injEq,D.int.injEq,true_and,and_true,yq5]at h; simp[h]) (l,n) h
theorem w_ixI(l:List Int)(n:Int)(h:l.length≤4294967296):@wW GG (tb [] []) ydc.code (argF [.slc (nz 1 (l.map nI)) (l.map nI) false,.int .i64 n]) [] ⟨retQ ydc.res (.int .i64 (ixG n l 0))⟩:=by
 unfold ydc
 simp (disch:=first|omega|decide) only[push_cast,↓reduceIte,Nat.reduceEqDiff,Int.reduceNeg]
 refine ybr (fun i:Nat=>[(0,.slc (nz 1 (l.map nI)) (l.map nI) false),(1,.int .i64 n),(7,.int .i64 (l.length:Int)),(8,.int .i64 (i:Int))]) (fun _=>[]) (fun i=>i≤l.length∧ixG n l 0=ixG n (l.drop i) i) (fun i=>l.length - i) 0 (by simp only[push_cast,↓reduceIte,Nat.reduceEqDiff,↓Int.reduceNatCast'] <;> rfl) ⟨Nat.zero_le _,rfl⟩ ?_
 rintro i ⟨hi,hh⟩
 unfold yf8
 simp (disch:=first|omega|decide) only[push_cast,↓reduceIte,Nat.reduceEqDiff]
 refine yai (fun h2=>?_) (fun h2=>?_)
 ·have hlt:i<l.length:=by omega
  rw[yFz _ _ hlt]at hh
  have hix:∀ st:St,yfw st 1 (.slc (nz 1 (l.map nI)) (l.map nI) false) (.int .i64 (i:Int))=some (.eptr (nI (l.getD i default)) 0):=fun st=>by
   have:=yi6 st 1 nI l false .i64 (i:Int) (by omega) (by omega)
   rwa [Int.toNat_natCast]at this
  generalize l.getD i default=x at*
  by_cases hx:n=x
  ·rw[if_pos hx]at hh
   simp (disch:=first|omega|decide) only[push_cast,↓reduceIte,Nat.reduceEqDiff,Int.reduceNeg,hix,nI,hx]
   rw[← hh,hx]
  ·rw[if_neg hx]at hh
   simp (disch:=first|omega|decide) only[push_cast,↓reduceIte,Nat.reduceEqDiff,hix,nI,hx,yaz]
   refine yaj (i+1) (by exact⟨by omega,hh⟩) (by omega) ?_
   simp only[push_cast] <;> rfl
 ·obtain rfl:i=l.length:=by omega
  rw[List.drop_length]at hh
  simp (disch:=first|omega|decide) only[push_cast,↓reduceIte,Int.reduceNeg,hh,ixG]
theorem c_ixI:Contract Tryz.prog GG 160 yN8:=
 yac ynj (yan all_nil all_nil) (fun a h=>w_ixI a.1 a.2 h)
noncomputable def yHq:List D→Option D:=spOf (α:=List Bool×Bool) (fun a=>[.slc (nz 1 (a.1.map D.bool)) (a.1.map D.bool) false,.bool a.2]) (fun a=>a.1.length≤4294967296) (fun a=>.int .i64 (ixG a.2 a.1 0))
theorem Yhw(l:List Bool)(n:Bool)(h:l.length≤4294967296):yHq [.slc (nz 1 (l.map D.bool)) (l.map D.bool) false,.bool n]=some (.int .i64 (ixG n l 0)):=
 yae (fun⟨a0,a1⟩ ⟨b0,b1⟩ h=>by simp only[List.cons.injEq,D.slc.injEq,D.bool.injEq,and_true,Yb7]at h; simp[h]) (l,n) h
theorem w_ixB(l:List Bool)(n:Bool)(h:l.length≤4294967296):@wW GG (tb [] []) yci.code (argF [.slc (nz 1 (l.map D.bool)) (l.map D.bool) false,.bool n]) [] ⟨retQ yci.res (.int .i64 (ixG n l 0))⟩:=by
 unfold yci
 simp (disch:=first|omega|decide) only[push_cast,↓reduceIte,Nat.reduceEqDiff,Int.reduceNeg]
 refine ybr (fun i:Nat=>[(0,.slc (nz 1 (l.map D.bool)) (l.map D.bool) false),(1,.bool n),(7,.int .i64 (l.length:Int)),(8,.int .i64 (i:Int))]) (fun _=>[]) (fun i=>i≤l.length∧ixG n l 0=ixG n (l.drop i) i) (fun i=>l.length - i) 0 (by simp only[push_cast,↓reduceIte,Nat.reduceEqDiff,↓Int.reduceNatCast'] <;> rfl) ⟨Nat.zero_le _,rfl⟩ ?_
 rintro i ⟨hi,hh⟩
 unfold yfb
 simp (disch:=first|omega|decide) only[push_cast,↓reduceIte,Nat.reduceEqDiff]
 refine yai (fun h2=>?_) (fun h2=>?_)
 ·have hlt:i<l.length:=by omega
  rw[yFz _ _ hlt]at hh
  have hix:∀ st:St,yfw st 1 (.slc (nz 1 (l.map D.bool)) (l.map D.bool) false) (.int .i64 (i:Int))=some (.eptr (.bool (l.getD i default)) 0):=fun st=>by
   have:=yi6 st 1 D.bool l false .i64 (i:Int) (by omega) (by omega)
   rwa [Int.toNat_natCast]at this
  have hld:∀ (st:St) (b:Bool),ydd st 1 false (.eptr (.bool b) 0)=some (.bool b):=fun _ _=>rfl
  generalize l.getD i default=x at*
  by_cases hx:n=x
  ·rw[if_pos hx]at hh
   subst hx
   have h1:(n == n)=true:=by simp
   simp (disch:=first|omega|decide) only[push_cast,↓reduceIte,Nat.reduceEqDiff,Int.reduceNeg,hix,hld,h1,hh]
  ·rw[if_neg hx]at hh
   have h1:(n == x)=false:=by simpa using hx
   simp (disch:=first|omega|decide) only[push_cast,↓reduceIte,Nat.reduceEqDiff,hix,hld,h1,yaz]
   refine yaj (i+1) (by exact⟨by omega,hh⟩) (by omega) ?_
   simp only[push_cast] <;> rfl
 ·obtain rfl:i=l.length:=by omega
  rw[List.drop_length]at hh
  simp (disch:=first|omega|decide) only[push_cast,↓reduceIte,Int.reduceNeg,hh,ixG]
theorem c_ixB:Contract Tryz.prog GG 78 yHq:=
 yac yl2 (yan all_nil all_nil) (fun a h=>w_ixB a.1 a.2 h)
theorem yho(neg:Bool)(a b:Ky):paeq [0,0,0,0,0] neg (kyD a) (kyD b)=some (.bool (decide (a=b) != neg)):=by
 obtain⟨a1,a2,a3,a4,a5⟩:=a
 obtain⟨b1,b2,b3,b4,b5⟩:=b
 have h:ya0 [0,0,0,0,0] (kyC ⟨a1,a2,a3,a4,a5⟩) (kyC ⟨b1,b2,b3,b4,b5⟩)=some (decide ((⟨a1,a2,a3,a4,a5⟩:Ky)=⟨b1,b2,b3,b4,b5⟩)):=by
  simp only[kyC,ya0,ydk,if_true,Bool.and_true,Ky.mk.injEq,Option.some.injEq]
  rw[Bool.eq_iff_iff]
  simp
 simp only[paeq,kyD,h,Option.map_some]
theorem yup(k:Ky):(kyC k).all yas=true:=rfl
theorem yev(k:Ky):boxD (kyD k)=some (kyC k):=rfl
theorem ype(sz:Nat)(lent:Bool)(k:Ky):ldO (some ⟨false,sz,kyC k,lent⟩) 5 true 0=some (kyD k):=yh0 sz lent _ 5 rfl
theorem yOs(st:St)(k:Ky):ydd st 5 true (.eptr (kyD k) 0)=some (kyD k):=rfl
theorem yhl(st:St)(k:Ky):imm st (kyD k)=some (kyD k):=ymj st (yup k)
theorem ygj(k:Ky):keys (kyD k)=[]:=yju (yup k)
theorem Yuk(k:Ky):hk (kyD k)=[]:=yt6 (yup k)
theorem yWq(n:Nat)(σ:List Nat)(k:Ky):(kyC k).map (ren n σ)=kyC k:=ygm n σ (yup k)
theorem Yjs(k:Ky):(kyC k).flatMap hk=[]:=ykc (yup k)
theorem yZe(st:St)(l:List Ky)(t:Bool)(i:Nat)(h:i<l.length):yfw st 5 (.slc (nz 5 (l.map kyD)) (l.map kyD) t) (.int .i64 (i:Int))=some (.eptr (kyD (l.getD i default)) 0):=by
 have:=yi6 st 5 kyD l t .i64 (i:Int) (by omega) (by omega)
 rwa [Int.toNat_natCast]at this
noncomputable def yVr:List D→Option D:=spOf (α:=List Ky×Ky) (fun a=>[.slc (nz 5 (a.1.map kyD)) (a.1.map kyD) false,kyD a.2]) (fun a=>a.1.length≤4294967296) (fun a=>.int .i64 (ixG a.2 a.1 0))
theorem Yhu(l:List Ky)(n:Ky)(h:l.length≤4294967296):yVr [.slc (nz 5 (l.map kyD)) (l.map kyD) false,kyD n]=some (.int .i64 (ixG n l 0)):=
 yae (fun⟨a0,a1⟩ ⟨b0,b1⟩ h=>by simp only[List.cons.injEq,D.slc.injEq,and_true,yFx,yFw]at h; simp[h]) (l,n) h
theorem w_ixK(l:List Ky)(n:Ky)(h:l.length≤4294967296):@wW GG (tb [] []) ybj.code (argF [.slc (nz 5 (l.map kyD)) (l.map kyD) false,kyD n]) [] ⟨retQ ybj.res (.int .i64 (ixG n l 0))⟩:=by
 unfold ybj
 simp (disch:=first|omega|decide) only[push_cast,↓reduceIte,Nat.reduceEqDiff,Int.reduceNeg,yev]
 refine ybr (fun i:Nat=>[(0,.slc (nz 5 (l.map kyD)) (l.map kyD) false),(3,.ptr 0 0),(7,.int .i64 (l.length:Int)),(8,.int .i64 (i:Int))]) (fun _=>[⟨false,1,kyC n,false⟩]) (fun i=>i≤l.length∧ixG n l 0=ixG n (l.drop i) i) (fun i=>l.length - i) 0 (by simp only[push_cast,↓reduceIte,Nat.reduceEqDiff,Nat.reduceLT,Nat.reduceLeDiff,↓Int.reduceNatCast',yWq,Yjs] <;> rfl) ⟨Nat.zero_le _,rfl⟩ ?_
 rintro i ⟨hi,hh⟩
 unfold yds
 simp (disch:=first|omega|decide) only[push_cast,↓reduceIte,Nat.reduceEqDiff]
 refine yai (fun h2=>?_) (fun h2=>?_)
 ·have hlt:i<l.length:=by omega
  rw[yFz _ _ hlt]at hh
  have hix:=fun st=>yZe st l false i hlt
  generalize l.getD i default=x at*
  by_cases hx:n=x
  ·rw[if_pos hx]at hh
   subst hx
   have h1:decide (n=n)=true:=by simp
   simp (disch:=first|omega|decide) only[push_cast,↓reduceIte,Nat.reduceEqDiff,Int.reduceNeg,hix,ype,yOs,yho,hh]
  ·rw[if_neg hx]at hh
   simp (disch:=first|omega|decide) only[push_cast,↓reduceIte,Nat.reduceEqDiff,Nat.reduceLT,Nat.reduceLeDiff,hix,ype,yOs,yho,hx,yaz]
   refine yaj (i+1) (by exact⟨by omega,hh⟩) (by omega) ?_
   simp only[push_cast,yWq,Yjs] <;> rfl
 ·obtain rfl:i=l.length:=by omega
  rw[List.drop_length]at hh
  simp (disch:=first|omega|decide) only[push_cast,↓reduceIte,Int.reduceNeg,hh,ixG]
theorem c_ixK:Contract Tryz.prog GG 161 yVr:=
 yac yhs (yan all_nil all_nil) (fun a h=>w_ixK a.1 a.2 h)
noncomputable def yN9:List D→Option D:=spOf (α:=List Ky×Ky) (fun a=>[.slc (nz 5 (a.1.map kyD)) (a.1.map kyD) false,kyD a.2]) (fun a=>a.1.length≤4294967296) (fun a=>.bool (decide (a.2∈a.1)))
theorem Yh0(l:List Ky)(n:Ky)(h:l.length≤4294967296):yN9 [.slc (nz 5 (l.map kyD)) (l.map kyD) false,kyD n]=some (.bool (decide (n∈l))):=
 yae (fun⟨a0,a1⟩ ⟨b0,b1⟩ h=>by simp only[List.cons.injEq,D.slc.injEq,and_true,yFx,yFw]at h; simp[h]) (l,n) h
theorem w_ctK(l:List Ky)(n:Ky)(h:l.length≤4294967296):@wW GG (tb [(161,yVr)] []) ybb.code (argF [.slc (nz 5 (l.map kyD)) (l.map kyD) false,kyD n]) [] ⟨retQ ybb.res (.bool (decide (n∈l)))⟩:=by
 unfold ybb
 have c1:=Yhu l n h
 have m:=(yYz n l 0).1
 generalize ixG n l 0=z at*
 by_cases hz:0≤z
 ·have hm:decide (n∈l)=true:=by simp[m.1 hz]
  simp (disch:=first|omega|decide) only[push_cast,↓reduceIte,Nat.reduceEqDiff,yev,ype,yhl,c1,hz,hm]
 ·have hm:decide (n∈l)=false:=by simp; exact fun q=>hz (m.2 q)
  simp (disch:=first|omega|decide) only[push_cast,↓reduceIte,Nat.reduceEqDiff,yev,ype,yhl,c1,hz,hm]
theorem c_ctK:Contract Tryz.prog GG 126 yN9:=
 yac ygr (yan (all_cons c_ixK all_nil) all_nil) (fun a h=>w_ctK a.1 a.2 h)
theorem RepV.emptyT{w:World}{g:Ghost}{st:St}{sz sz':Nat}{v:Value}(h:RepV w g st (.slc sz [] true) v):RepV w g st (.slc sz' [] true) v:=by
 cases h with
 |slcE _ _ a cap h=>exact .slcE _ _ a cap h
 |slc _ _ b off cap _ val h1=>exact absurd rfl h1
noncomputable def Yi7:List D→St→Option (D×St):=siOf (α:=List Ky×St) (fun a=>([.slc (nz 5 (a.1.map kyD)) (a.1.map kyD) false],a.2)) (fun a=>a.1.length≤4294900000)
 (fun a=>if a.1=[]then(.slc 0 [] true,a.2)else(.row a.2.length a.1.length 0 a.1.length,a.2++[⟨true,5,a.1.map kyD,false⟩]))
theorem Yh2(l:List Ky)(st:St)(h:l.length≤4294900000):Yi7 [.slc (nz 5 (l.map kyD)) (l.map kyD) false] st=some (if l=[]then(.slc 0 [] true,st)else(.row st.length l.length 0 l.length,st++[⟨true,5,l.map kyD,false⟩])):=
 yua (fun a b e=>by
  simp only[Prod.mk.injEq,List.cons.injEq,D.slc.injEq,yFw,and_true]at e
  rw[e.1.2,e.2]) ((l,st):List Ky×St) h rfl
def cl0:List PI:=[{dst:=some 2,op:=.mov (.c (.slc 0 [] true))}]
def clA:PC:=.seq (.ops [{dst:=some 2,op:=.mov (.c (.slc 0 [] true))}]) .ret
def clB:PC:=.seq (.ops [{dst:=some 5,op:=.bslc 5 []},{dst:=some 6,op:=.mov (.s 0)},{dst:=some 7,op:=.app 5 40 (.s 5) (.s 6)},{dst:=some 2,op:=.mov (.s 7)}]) .ret
theorem Yhk(T:Tbl)(l:List Ky)(st:St)(h:l.length≤4294900000)(fr:Frame)(h0:fr 0=.slc (nz 5 (l.map kyD)) (l.map kyD) false) :
  ∃ fr',clB.exec GG T 0 ⟨fr,st⟩=some (.ret,⟨fr',if l=[]then st else st++[⟨true,5,l.map kyD,false⟩]⟩)∧fr' 2=if l=[]then .slc 5 [] true else .row st.length l.length 0 l.length:=by
 have e1:papp st 5 40 (.slc 5 [] true) (.slc (nz 5 (l.map kyD)) (l.map kyD) false)=some (if l=[]then .slc 5 [] true else .row st.length l.length 0 l.length,if l=[]then st else st++[⟨true,5,l.map kyD,false⟩]):=by
  by_cases hl:l=[]
  ·subst hl
   exact yIi st 5 40 5 0 [] false (by decide)
  ·have hne:l.map kyD≠[]:=by simpa using hl
   rw[yCl kyD st 5 5 40 l false (by decide) (by omega) (by omega),ywk _ _ _ hne,ys7 _ _ hne,if_neg hl,if_neg hl,List.length_map]
 simp only[clB,PC.exec,ycg,PI.exec,PI.wanted,POp.exec,rho,List.map_nil,imms,List.all_nil,Nat.reduceLT,decide_true,Bool.and_self,List.length_nil,Nat.zero_mul,Nat.zero_le,if_true,lend,List.flatMap_nil,Frame.put,Frame.set,h0,Nat.reduceEqDiff,if_false,show ¬ (5:Nat)=6 from by decide,show ¬ (0:Nat)=5 from by decide,show ¬ (0:Nat)=6 from by decide,e1]
 exact⟨_,rfl,rfl⟩
theorem Yju:IContract Tryz.prog GG 127 Yi7:=by
 refine Yhj (T:=tb [] []) (il:=[]) (yan all_nil all_nil) rfl (l0:=cl0) (pA:=clA) (pB:=clB) (res:=[.tmp 2]) (t3:=3) (e:=58) Tryz.func127 (by kernel_rfl) rfl (by kernel_rfl) (by kernel_rfl) (by kernel_rfl) (by kernel_rfl) (by kernel_rfl) rfl rfl rfl (by decide) Tryz.underlying63 ?_
 intro ds st d st' hx
 obtain⟨⟨l,st0⟩,ha,hp,hr⟩:=yEy hx
 simp only[Prod.mk.injEq]at ha
 obtain⟨rfl,rfl⟩:=ha
 dsimp only at hp hr
 refine⟨_,_,_,(argF [.slc (nz 5 (l.map kyD)) (l.map kyD) false]).set 2 (.slc 0 [] true),rfl,rfl,rfl,fun he=>?_,?_⟩
 ·obtain rfl:l=[]:=by simpa using he
  rw[if_pos rfl]at hr
  simp only[Prod.mk.injEq]at hr
  obtain⟨rfl,rfl⟩:=hr
  exact⟨0,_,_,rfl,rfl,rfl,fun w g v h=>h.emptyT⟩
 ·obtain⟨fr',h1,h2⟩:=Yhk (tb [] []) l st0 hp ((((argF [.slc (nz 5 (l.map kyD)) (l.map kyD) false]).set 2 (.slc 0 [] true)).set 3 (.slc (nz 5 (l.map kyD)) (l.map kyD) false)).set 4 (.bool false)) rfl
  by_cases hl:l=[]
  ·subst hl
   rw[if_pos rfl]at hr h2
   simp only[Prod.mk.injEq]at hr
   obtain⟨rfl,rfl⟩:=hr
   exact⟨0,_,[.slc 5 [] true],h1,by rw[if_pos rfl],by simp only[yE4,yE5,h2]; rfl,fun w g v h=>h.emptyT⟩
  ·rw[if_neg hl]at hr h2
   simp only[Prod.mk.injEq]at hr
   obtain⟨rfl,rfl⟩:=hr
   exact⟨0,_,[.row st0.length l.length 0 l.length],h1,by rw[if_neg hl],by simp only[yE4,yE5,h2]; rfl,fun w g v h=>h⟩
theorem yYp(l:List Ky):yas (kysD l)=true:=by
 simp[yas,yuk]
theorem yA1(x:Cse){p:D→Bool}(h0:∀ k n,p (.int k n)=true)(h1:∀ b,p (.bool b)=true){j:D}(h2:p j=true):(cseC x j).all p=true:=by
 have hd:∀ d,(digC d).all p=true:=fun d=>yet (fun b=>h0 _ _) d
 refine yjl h0 fun s hs=>?_
 simp only[cseS,kyS,bisS,List.cons_append,List.nil_append,List.mem_cons,List.not_mem_nil,or_false]at hs
 rcases hs with rfl | rfl | rfl | rfl | rfl | rfl | rfl | rfl | rfl | rfl | rfl | rfl | rfl | rfl | rfl | rfl | rfl | rfl | rfl | rfl | rfl | rfl | rfl | rfl | rfl | rfl | rfl | rfl | rfl | rfl | rfl <;> simp[Sg.cs,h0,h1,h2,hd]
theorem yjo(x:Cse){j:D}(hj:j.isCell=true):(cseC x j).all D.isCell=true:=yA1 x (fun _ _=>rfl) (fun _=>rfl) hj
theorem ym1(x:Cse):(cseC x (kysD x.jn)).all yas=true:=yA1 x (fun _ _=>rfl) (fun _=>rfl) (yYp _)
theorem yat(x:Cse):boxD (cseD x)=some (cseC x (kysD x.jn)):=by
 simp only[boxD,cseD,D.cells,yjo x (j:=kysD x.jn) rfl,if_true]
theorem yah(st:St)(x:Cse):imm st (cseD x)=some (cseD x):=ymj st (ym1 x)
theorem yay(x:Cse):keys (cseD x)=[]:=yju (ym1 x)
section
variable (x:Cse) (j:D) (sz:Nat) (lent:Bool)
theorem yb0:ldO (some ⟨false,sz,cseC x j,lent⟩) 1 false 7=some (.int .i64 x.ph):=ybu (l:=cseS x j) rfl rfl (yeg x j)
theorem yg1:ldO (some ⟨false,sz,cseC x j,lent⟩) 1 false 8=some (.int .i64 x.dl):=ybu (l:=cseS x j) rfl rfl (yeg x j)
theorem Yjh:ldO (some ⟨false,sz,cseC x j,lent⟩) 1 false 11=some (.int .i64 x.c0.1):=ybu (l:=cseS x j) rfl rfl (yeg x j)
theorem Yjg:ldO (some ⟨false,sz,cseC x j,lent⟩) 1 false 44=some (.int .i64 x.c1.1):=ybu (l:=cseS x j) rfl rfl (yeg x j)
theorem yCs:ldO (some ⟨false,sz,cseC x j,lent⟩) 1 false 275=some (.int .i64 x.wn):=ybu (l:=cseS x j) rfl rfl (yeg x j)
theorem yPg:ldO (some ⟨false,sz,cseC x j,lent⟩) 1 false 276=some (.int .i64 x.am):=ybu (l:=cseS x j) rfl rfl (yeg x j)
theorem Yji:ldO (some ⟨false,sz,cseC x j,lent⟩) 1 false 277=some (.int .i64 x.ct):=ybu (l:=cseS x j) rfl rfl (yeg x j)
theorem yYi:ldO (some ⟨false,sz,cseC x j,lent⟩) 1 false 278=some j:=ybu (l:=cseS x j) rfl rfl (yeg x j)
theorem yl4:ldO (some ⟨false,sz,cseC x j,lent⟩) 5 true 0=some (kyD x.key):=yd3 (l:=cseS x j) rfl rfl (yeg x j) rfl
theorem yFt:ldO (some ⟨false,sz,cseC x j,lent⟩) 2 true 5=some (.agg [.int .i64 x.p0,.int .i64 x.p1]):=yd3 (l:=cseS x j) rfl rfl (yeg x j) rfl
theorem ySz:ldO (some ⟨false,sz,cseC x j,lent⟩) 2 true 9=some (.agg [.int .i64 x.a0,.int .i64 x.a1]):=yd3 (l:=cseS x j) rfl rfl (yeg x j) rfl
theorem yrv:ldO (some ⟨false,sz,cseC x j,lent⟩) 33 true 11=some (.agg (.int .i64 x.c0.1::digC x.c0.2)):=yd3 (l:=cseS x j) rfl rfl (yeg x j) (by simp[flat,Sg.cs])
theorem yru:ldO (some ⟨false,sz,cseC x j,lent⟩) 33 true 44=some (.agg (.int .i64 x.c1.1::digC x.c1.2)):=yd3 (l:=cseS x j) rfl rfl (yeg x j) (by simp[flat,Sg.cs])
theorem Yfz:ldO (some ⟨false,sz,cseC x j,lent⟩) 2 true 144=some (.agg [.bool x.b.t0,.bool x.b.t1]):=yd3 (l:=cseS x j) rfl rfl (yeg x j) rfl
theorem yI1:ldO (some ⟨false,sz,cseC x j,lent⟩) 198 true 77=some (bisD x.b):=yd3 (l:=cseS x j) rfl rfl (yeg x j) (by rw[bisD,← ywl]; rfl)
def cm2C(a b:Int×Dig):List D:=(.int .i64 a.1::digC a.2)++(.int .i64 b.1::digC b.2)
theorem yI0:ldO (some ⟨false,sz,cseC x j,lent⟩) 66 true 11=some (.agg (cm2C x.c0 x.c1)):=yd3 (l:=cseS x j) rfl rfl (yeg x j) (by simp[flat,Sg.cs,cm2C])
theorem yaq:ldO (some ⟨false,sz,cseC x j,lent⟩) 279 true 0=some (.agg (cseC x j)):=yh0 sz lent _ 279 (yc8 x j)
end
theorem ya6(x:Cse):D.agg (cseC x (kysD x.jn))=cseD x:=rfl
theorem ydx:yce=cseC ya9 (.slc 0 [] true):=(rfl)
noncomputable def ypn:List D→Option D:=spOf (α:=Int) (fun a=>[.int .i64 a]) (fun a=>True) (fun a=>.bool (decide (ykn a)))
theorem ys2(n:Int):ypn [.int .i64 n]=some (.bool (decide (ykn n))):=
 yae (fun a b h=>by simp only[List.cons.injEq,D.int.injEq,true_and,and_true]at h; simp[h]) (n) trivial
theorem Ycz(n:Int):@wW GG (tb [] []) yik.code (argF [.int .i64 n]) [] ⟨retQ yik.res (.bool (decide (ykn n)))⟩:=by
 unfold yik
 by_cases h1:-9007199254740992≤n
 ·by_cases h2:n≤9007199254740992
  ·have e:decide (ykn n)=true:=decide_eq_true ⟨h1,h2⟩
   simp (disch:=first|omega|decide) only[push_cast,↓reduceIte,Nat.reduceEqDiff,Int.reduceNeg,h1,h2,e]
  ·have e:decide (ykn n)=false:=decide_eq_false fun q=>h2 q.2
   simp (disch:=first|omega|decide) only[push_cast,↓reduceIte,Nat.reduceEqDiff,Int.reduceNeg,h1,h2,e]
 ·have e:decide (ykn n)=false:=decide_eq_false fun q=>h1 q.1
  simp (disch:=first|omega|decide) only[push_cast,↓reduceIte,Nat.reduceEqDiff,Int.reduceNeg,h1,e]
theorem yGo:Contract Tryz.prog GG 64 ypn:=
 yac yyp (yan all_nil all_nil) (fun a h=>Ycz a)
noncomputable def yty:List D→Option D:=spOf (α:=Cse) (fun a=>[cseD a]) (fun a=>True) (fun a=>.bool (decide (ygv a)))
theorem ym2(x:Cse):yty [cseD x]=some (.bool (decide (ygv x))):=
 yae (fun a b h=>by simp only[List.cons.injEq,and_true,yjp]at h; simp[h]) (x) trivial
theorem Ykk(x:Cse):@wW GG (tb [] []) yhg.code (argF [cseD x]) [] ⟨retQ yhg.res (.bool (decide (ygv x)))⟩:=by
 unfold yhg
 by_cases h1:x.ph=1
 ·have e:decide (ygv x)=true:=by simp[ygv,h1]
  simp (disch:=first|omega|decide) only[push_cast,↓reduceIte,Nat.reduceEqDiff,yat,yb0,h1,e]
 by_cases h2:x.ph=2
 ·have e:decide (ygv x)=true:=by simp[ygv,h2]
  have g:=eq_true h2
  simp (disch:=first|omega|decide) only[push_cast,↓reduceIte,Nat.reduceEqDiff,yat,yb0,h1,g,e]
 by_cases h3:x.ph=3
 ·have e:decide (ygv x)=true:=by simp[ygv,h3]
  have g:=eq_true h3
  simp (disch:=first|omega|decide) only[push_cast,↓reduceIte,Nat.reduceEqDiff,yat,yb0,h1,h2,g,e]
 ·have e:decide (ygv x)=false:=by simp[ygv,h1,h2,h3]
  simp (disch:=first|omega|decide) only[push_cast,↓reduceIte,Nat.reduceEqDiff,yat,yb0,h1,h2,h3,e]
theorem Ybn:Contract Tryz.prog GG 74 yty:=
 yac yxc (yan all_nil all_nil) (fun a h=>Ykk a)
noncomputable def yqt:List D→Option D:=spOf (α:=Cse) (fun a=>[cseD a]) (fun a=>True) (fun a=>.bool (decide (yro a)))
theorem ywi(x:Cse):yqt [cseD x]=some (.bool (decide (yro x))):=
 yae (fun a b h=>by simp only[List.cons.injEq,and_true,yjp]at h; simp[h]) (x) trivial
theorem Ykl(x:Cse):@wW GG (tb [] []) ylv.code (argF [cseD x]) [] ⟨retQ ylv.res (.bool (decide (yro x)))⟩:=by
 unfold ylv
 by_cases h1:x.ph=4
 ·have e:decide (yro x)=true:=by simp[yro,h1]
  simp (disch:=first|omega|decide) only[push_cast,↓reduceIte,Nat.reduceEqDiff,yat,yb0,h1,e]
 by_cases h2:x.ph=5
 ·have e:decide (yro x)=true:=by simp[yro,h2]
  have g:=eq_true h2
  simp (disch:=first|omega|decide) only[push_cast,↓reduceIte,Nat.reduceEqDiff,yat,yb0,h1,g,e]
 by_cases h3:x.ph=6
 ·have e:decide (yro x)=true:=by simp[yro,h3]
  have g:=eq_true h3
  simp (disch:=first|omega|decide) only[push_cast,↓reduceIte,Nat.reduceEqDiff,yat,yb0,h1,h2,g,e]
 ·have e:decide (yro x)=false:=by simp[yro,h1,h2,h3]
  simp (disch:=first|omega|decide) only[push_cast,↓reduceIte,Nat.reduceEqDiff,yat,yb0,h1,h2,h3,e]
theorem yNl:Contract Tryz.prog GG 31 yqt:=
 yac yD2 (yan all_nil all_nil) (fun a h=>Ykl a)
def dig1(b:UInt8):Dig:=⟨b::List.replicate 31 0,by simp⟩
theorem yZ6(b:UInt8):yar (digC yab) [(0,1,yaf b)]=some (digC (dig1 b)):=by
 have h:digC yab=(List.replicate 32 (0:UInt8)).map yaf:=rfl
 rw[h,yg3 yaf (fun _=>rfl) _ _ _ _ (by simp),yjm]
 rfl
def bis0(h l i:Int)(a b:Dig)(r:Int):Bis:=⟨h,l,i,a,b,false,false,yab,yab,yab,yab,r⟩
theorem dp1:yao 1=0:=by decide +kernel
abbrev tCommit:Ty:=.agg [.int .i64,.agg (List.replicate 32 (.int .u8))]
def nextI(a b:List Dig)(lv i:Int):Int:=if Ys1 a (lv - 1).toNat (2*i)=Ys1 b (lv - 1).toNat (2*i)then 2*i+1 else 2*i
def idxS(a b:List Dig)(h:Int):Nat→Int
 |0=>0
 |k+1=>nextI a b (h - k) (idxS a b h k)
variable {c:List Ins} {v:Int×List Int} {x:Cse} {m:Mv} {now:Int}
theorem ysk(h:yfg c v x m now≠0):yhy c v x m now=ya9:=if_neg h
theorem yue(h:yfg c v x m now=0):yhy c v x m now=(ygh c v x m now).1:=if_pos h
theorem yIe(h:¬ ygv x):yfg c v x m now=400:=if_neg h
def argP(m:Mv)(now:Int):Prop:=(1≤m.kd∧m.kd≤7)∧0≤now∧now≤1073741824∧(m.pt=0∨m.pt=1)
theorem Yet(h:ygv x)(h2:¬ argP m now):yfg c v x m now=1:=by
 unfold yfg; rw[if_pos h]; exact if_neg h2
theorem yId(h:ygv x)(h2:argP m now)(h3:¬ now≤x.dl):yfg c v x m now=401:=by
 unfold yfg argP at *; rw[if_pos h,if_pos h2]; exact if_neg h3
theorem yuf(h:ygv x)(h2:argP m now)(h3:now≤x.dl):yfg c v x m now=(ygh c v x m now).2:=by
 unfold yfg argP at *; rw[if_pos h,if_pos h2]; exact if_pos h3
def Ys0(x:Cse)(m:Mv):Prop:=((m.kd=1∨m.kd=6)∧(m.pt=0∨x.ph≠1))∨(m.kd=4∧m.pt=1)∨(m.kd=7∧(m.pt=1∨x.ph≠1))∨(m.kd=2∧x.ph≠2)∨(m.kd=3∧x.ph≠3)
theorem yOu(h:ygv x)(h2:argP m now)(h3:now≤x.dl)(hn:Ys0 x m):yfg c v x m now=380:=by
 rw[yuf h h2 h3]
 unfold ygh
 rcases hn with⟨hk | hk,hp⟩ | ⟨hk,hp⟩ | ⟨hk,hp⟩ | ⟨hk,hp⟩ | ⟨hk,hp⟩
 ·rw[if_pos hk]; unfold yGt; rw[if_neg (by omega)]
 ·rw[if_neg (by omega),if_neg (by omega),if_neg (by omega),if_neg (by omega),if_neg (by omega),if_pos hk]; unfold yNa; rw[if_neg (by omega)]
 ·rw[if_neg (by omega),if_neg (by omega),if_neg (by omega),if_pos hk]; unfold yQx; rw[if_neg (by omega)]
 ·rw[if_neg (by omega),if_neg (by omega),if_neg (by omega),if_neg (by omega),if_neg (by omega),if_neg (by omega)]; unfold yks; rw[if_neg (by omega)]
 ·rw[if_neg (by omega),if_pos hk]; unfold yTv; rw[if_neg hp]
 ·rw[if_neg (by omega),if_neg (by omega),if_pos hk]; unfold ySd yi4; rw[if_neg (by simp[hp])]
structure Keep (x y:Cse):Prop where
 key:y.key=x.key
 p0:y.p0=x.p0
 p1:y.p1=x.p1
 a0:y.a0=x.a0
 c0:y.c0=x.c0
 dl:y.ph≤3→x.dl≤y.dl
theorem Keep.refl(x:Cse):Keep x x:=⟨rfl,rfl,rfl,rfl,rfl,fun _=>Int.le_refl _⟩
structure Live (x:Cse) (now:Int):Prop where
 ph:1≤x.ph∧x.ph≤6
 dl:x.ph≤3→x.dl≤now+1440
 wn:-1≤x.wn∧x.wn≤1
 bv:ykl x.b=true
theorem Yqu(x:Cse)(n:Int):-1≤idx2 x n∧idx2 x n≤1:=by
 unfold idx2; split
 ·omega
 ·split <;> omega
theorem yI8(cl:Dig×Dig)(d:Dig):-1≤yz2 cl d∧yz2 cl d≤1:=by
 unfold yz2; split
 ·omega
 ·split <;> omega
theorem yr4(cl:Dig×Dig)(r:Dig×Int):-1≤(yip cl r).1∧(yip cl r).1≤1:=by
 unfold yip; split
 ·exact yI8 ..
 ·simp
def yf2(st:St)(k:Nat)(p:Ply):Prop:=st[k]?=some ⟨false,1,plyC p,false⟩
theorem yff{st:St}{k:Nat}{p:Ply}(h:yf2 st k p):k<st.length:=(List.getElem?_eq_some_iff.1 h).1
theorem Yho{a b:List Ins}:cdD a=cdD b↔a=b:=by
 refine⟨fun h=>?_,fun h=>by rw[h]⟩
 simp only[cdD,D.slc.injEq,and_true]at h
 exact yea.1 h.2
theorem yOq{p q:Ply}(h:plyC p=plyC q)(hp:p.j=kysD p.x.jn)(hq:q.j=kysD q.x.jn):p=q:=by
 obtain⟨px,pj,pc,pv,pm,pn,phv⟩:=p
 obtain⟨qx,qj,qc,qv,qm,qn,qhv⟩:=q
 dsimp only at hp hq
 simp only[plyC,plyS,yfi,List.append_assoc]at h
 obtain⟨h1,h2⟩:=List.append_inj h ((yc8 px pj).trans (yc8 qx qj).symm)
 simp only[flat,Sg.cs,List.cons_append,List.nil_append,List.append_nil,List.cons.injEq,Yho]at h2
 obtain⟨rfl,h3⟩:=h2
 obtain⟨h4,h5⟩:=List.append_inj h3 ((ybk phv).trans (ybk qhv).symm)
 obtain⟨h6,h7⟩:=List.append_inj h5 ((yq3 pm).trans (yq3 qm).symm)
 simp only[List.cons.injEq,D.int.injEq,true_and,and_true]at h7
 obtain rfl:=h7
 obtain rfl:=yMh.1 (congrArg D.agg h6)
 obtain rfl:=yh2.1 (congrArg D.agg h4)
 obtain⟨h8,h9⟩:=yGi h1
 subst h9
 have h10:px.jn=qx.jn:=yx1.1 (hp.symm.trans hq)
 have:px=qx:=by
  obtain⟨xk,x0,x1,x2,x3,x4,x5,xc,xe,xb,x6,x7,x8,xj⟩:=px
  obtain⟨yk,y0,y1,y2,y3,y4,y5,yc,ye,yb,y6,y7,y8,yj⟩:=qx
  simp only[Cse.mk.injEq,and_true]at h8 h10 ⊢
  exact⟨h8.1,h8.2.1,h8.2.2.1,h8.2.2.2.1,h8.2.2.2.2.1,h8.2.2.2.2.2.1,h8.2.2.2.2.2.2.1,h8.2.2.2.2.2.2.2.1,h8.2.2.2.2.2.2.2.2.1,h8.2.2.2.2.2.2.2.2.2.1,h8.2.2.2.2.2.2.2.2.2.2.1,h8.2.2.2.2.2.2.2.2.2.2.2.1,h8.2.2.2.2.2.2.2.2.2.2.2.2,h10⟩
 subst this
 rfl
section
variable {α:Type} (enc:α→List D) (pre:Ply→α→Prop) (F:Ply→α→Cse×Int×St)
def ypv(ds:List D)(st:St)(r:D×Int×St):Prop:=∃ (k:Nat) (p:Ply) (a:α),p.j=kysD p.x.jn∧yf2 st k p∧pre p a∧ds=.ptr k 0::enc a∧r=(.tup [],(F p a).2.1,mset st k (plyC {p with x:=(F p a).1})++(F p a).2.2)
variable {enc pre F}
theorem yjh(hi:∀ a b,enc a=enc b→a=b):FnlK (ypv enc pre F):=by
 rintro ds st r r' ⟨k,p,a,hj,hk,_,rfl,rfl⟩ ⟨k',p',a',hj',hk',_,h,rfl⟩
 simp only[List.cons.injEq,D.ptr.injEq,and_true]at h
 obtain⟨rfl,h⟩:=h
 obtain rfl:=hi _ _ h
 unfold yf2 at hk hk'
 rw[hk]at hk'
 simp only[Option.some.injEq,PI.Obj.mk.injEq,true_and,and_true]at hk'
 obtain rfl:=yOq hk' hj hj'
 rfl
theorem yv2(hi:∀ a b,enc a=enc b→a=b){st:St}{k:Nat}{p:Ply}{a:α}(hj:p.j=kysD p.x.jn)(hk:yf2 st k p)(hp:pre p a)(h0:(F p a).2.1=0) :
  siK (ypv enc pre F) (.ptr k 0::enc a) st=some (.tup [],mset st k (plyC {p with x:=(F p a).1})++(F p a).2.2):=
 yHs (yjh hi) ⟨k,p,a,hj,hk,hp,rfl,by rw[h0]⟩
theorem Ymt(hi:∀ a b,enc a=enc b→a=b){st:St}{k:Nat}{p:Ply}{a:α}(hj:p.j=kysD p.x.jn)(hk:yf2 st k p)(hp:pre p a)(h0:(F p a).2.1≠0) :
  siK (ypv enc pre F) (.ptr k 0::enc a) st=none:=yHt (yjh hi) ⟨k,p,a,hj,hk,hp,rfl,rfl⟩ h0
theorem Yta(hi:∀ a b,enc a=enc b→a=b){st:St}{k:Nat}{p:Ply}{a:α}(hj:p.j=kysD p.x.jn)(hk:yf2 st k p)(hp:pre p a)(h0:(F p a).2.1≠0) :
  sxK (ypv enc pre F) (.ptr k 0::enc a) st=some (125,.int .i64 (F p a).2.1,mset st k (plyC {p with x:=(F p a).1})++(F p a).2.2):=
 yyx (yjh hi) ⟨k,p,a,hj,hk,hp,rfl,rfl⟩ h0
end
theorem ybt{st:St}{k:Nat}{p:Ply}(h:yf2 st k p)(l:St):yf2 (st++l) k p:=by
 unfold yf2; rw[yc7 (yff h)]; exact h
theorem yj4{st:St}{k:Nat}(h:k<st.length)(p:Ply):yf2 (mset st k (plyC p)) k p:=ygx h _
theorem yiu{st:St}{k:Nat}{p:Ply}(h:yf2 st k p):mset st k (plyC p)=st:=by
 unfold yf2 at h
 obtain⟨h1,h2⟩:=List.getElem?_eq_some_iff.1 h
 unfold mset
 rw[← h2,List.set_getElem_self]
def yl7:Unit→List D:=fun _=>[]
def eInt:Int→List D:=fun n=>[.int .i64 n]
def eTwo:Int×Int→List D:=fun a=>[.int .i64 a.1,.int .i64 a.2]
theorem ye8:∀ a b,yl7 a=yl7 b→a=b:=fun _ _ _=>rfl
theorem yGf:∀ a b,eInt a=eInt b→a=b:=fun a b h=>by simpa[eInt]using h
theorem yP8:∀ a b,eTwo a=eTwo b→a=b:=fun a b h=>by
 simp only[eTwo,List.cons.injEq,D.int.injEq,true_and,and_true]at h
 exact Prod.ext h.1 h.2
def cloF(p:Ply)(a:Int×Int):Cse×Int×St:=(yqa p.x a.1 a.2,0,[])
abbrev RClo:=ypv eTwo (fun _ _=>True) cloF
theorem yGl:CK 125 RClo:=by
 refine ykb (T:=tb [] []) yj1 (yan all_nil all_nil) ?_
 rintro ds st d e st' ⟨k,p,⟨w,a⟩,hj,hk,_,rfl,h⟩
 simp only[Prod.mk.injEq]at h
 obtain⟨rfl,rfl,rfl⟩:=h
 have hlt:=yff hk
 unfold yf2 at hk
 unfold yhf
 simp (disch:=first|omega|decide) only[push_cast,↓reduceIte,Nat.reduceEqDiff,eTwo,cloF,yqa,yad,hk,yHn,Yi4,Yr0,yby,ygx hlt,yd0,List.append_nil,and_true]
noncomputable abbrev TClo:Tbl:=tb [] [(125,siK RClo)]
theorem ywj{st:St}{k:Nat}{p:Ply}(hj:p.j=kysD p.x.jn)(hk:yf2 st k p)(w a:Int):siK RClo [.ptr k 0,.int .i64 w,.int .i64 a] st=some (.tup [],mset st k (plyC {p with x:=yqa p.x w a})):=by
 have:=yv2 (F:=cloF) (pre:=fun _ _=>True) yP8 (a:=(w,a)) hj hk trivial rfl
 rw[show(cloF p (w,a)).2.2=[]from rfl,List.append_nil]at this
 exact this
def rulF(p:Ply)(a:Int):Cse×Int×St:=(yez p.x a,0,[])
abbrev RRul:=ypv eInt (fun _ a=>a≤1) rulF
theorem yGk:CK 79 RRul:=by
 refine ykb (T:=TClo) ykw (yan all_nil (all_cons yGl.1 all_nil)) ?_
 rintro ds st d e st' ⟨k,p,a,hj,hk,ha,rfl,h⟩
 simp only[Prod.mk.injEq]at h
 obtain⟨rfl,rfl,rfl⟩:=h
 have hlt:=yff hk
 have cc:=fun w a=>ywj hj hk w a
 unfold yf2 at hk
 unfold yh9
 by_cases h1:a<0
 ·simp (disch:=first|omega|decide) only[push_cast,↓reduceIte,Nat.reduceEqDiff,Int.reduceNeg,eInt,rulF,yez,h1,cc,List.append_nil,and_true]
 ·have h2:a=0∨a=1:=by omega
  rcases h2 with rfl | rfl
  ·have e:yez p.x 0=yqa p.x 0 p.x.a0:=by unfold yez yUo; rw[if_neg (by omega),if_pos rfl]
   simp (disch:=first|omega|decide) only[push_cast,↓reduceIte,Nat.reduceEqDiff,Nat.reduceMul,Int.reduceNeg,eInt,rulF,e,h1,yad,hk,yag,yPf,cc,List.append_nil,and_true]
  ·have e:yez p.x 1=yqa p.x 1 p.x.a1:=by unfold yez yUo; rw[if_neg (by omega),if_neg (by omega)]
   simp (disch:=first|omega|decide) only[push_cast,↓reduceIte,Nat.reduceEqDiff,Nat.reduceAdd,Nat.reduceMul,Int.reduceNeg,eInt,rulF,e,h1,yad,hk,yag,yPe,cc,List.append_nil,and_true]
theorem yqd{st:St}{k:Nat}{p:Ply}(hj:p.j=kysD p.x.jn)(hk:yf2 st k p){a:Int}(ha:a≤1):siK RRul [.ptr k 0,.int .i64 a] st=some (.tup [],mset st k (plyC {p with x:=yez p.x a})):=by
 have:=yv2 (F:=rulF) (pre:=fun _ a=>a≤1) yGf (a:=a) hj hk ha rfl
 rw[show(rulF p a).2.2=[]from rfl,List.append_nil]at this
 exact this
theorem Yub{st:St}{k:Nat}{p:Ply}(hk:st[k]?=some ⟨false,1,plyC p,false⟩):imm st (.bsl k 9 2 1 false)=some (.slc 1 [.int .i64 p.x.a0,.int .i64 p.x.a1] false):=by
 have h1:ylf st k 9 2 1 false=some [.int .i64 p.x.a0,.int .i64 p.x.a1]:=by
  unfold ylf
  rw[hk]
  dsimp only
  rw[yL2,if_pos (by decide)]
  rfl
 simp only[imm,imm1,bslI,h1]
 rfl
def judF(p:Ply)(n:Int):Cse×Int×St:=(yS6 p.x n,0,[])
abbrev RJud:=ypv eInt (fun _ _=>True) judF
theorem yQg:CK 120 RJud:=by
 refine ykb (T:=tb [(160,yN8)] [(125,siK RClo)]) ysa (yan (all_cons c_ixI all_nil) (all_cons yGl.1 all_nil)) ?_
 rintro ds st d e st' ⟨k,p,a,hj,hk,ha,rfl,h⟩
 simp only[Prod.mk.injEq]at h
 obtain⟨rfl,rfl,rfl⟩:=h
 have cc:=fun w a=>ywj hj hk w a
 have ci:yN8 [.slc 1 [.int .i64 p.x.a0,.int .i64 p.x.a1] false,.int .i64 a]=some (.int .i64 (idx2 p.x a)):=by
  have:=Yhv [p.x.a0,p.x.a1] a (by simp)
  rw[Ynq]at this
  exact this
 unfold yf2 at hk
 have hi:=Yub hk
 have hs:ypt 2 1 false (.ptr k 9) none none=some (.bsl k 9 2 1 false):=rfl
 have hk1:keys (.bsl k 9 2 1 false)=[k]:=rfl
 unfold ylt
 simp (disch:=first|omega|decide) only[push_cast,↓reduceIte,Nat.reduceEqDiff,eInt,judF,yS6,yad,hs,hi,ci,cc,List.append_nil,and_true]
theorem ywh{st:St}{k:Nat}{p:Ply}(hj:p.j=kysD p.x.jn)(hk:yf2 st k p)(a:Int):siK RJud [.ptr k 0,.int .i64 a] st=some (.tup [],mset st k (plyC {p with x:=yS6 p.x a})):=by
 have:=yv2 (F:=judF) (pre:=fun _ _=>True) yGf (a:=a) hj hk trivial rfl
 rw[show(judF p a).2.2=[]from rfl,List.append_nil]at this
 exact this
def yzp(p:Ply):Prop:=0≤p.now∧p.now≤1073741824
def extF(p:Ply)(_:Unit):Cse×Int×St:=({p.x with dl:=p.now+1440},0,[])
abbrev RExt:=ypv yl7 (fun p _=>yzp p) extF
theorem yu2:CK 118 RExt:=by
 refine ykb (T:=tb [] []) yrl (yan all_nil all_nil) ?_
 rintro ds st d e st' ⟨k,p,a,hj,hk,ha,rfl,h⟩
 simp only[Prod.mk.injEq]at h
 obtain⟨rfl,rfl,rfl⟩:=h
 obtain⟨n1,n2⟩:=ha
 have hlt:=yff hk
 unfold yf2 at hk
 unfold ykp
 simp (disch:=first|omega|decide) only[push_cast,↓reduceIte,Nat.reduceEqDiff,yl7,extF,yad,hk,Ym2,yaz,Yry,yby,List.append_nil,and_true]
theorem yn8{st:St}{k:Nat}{p:Ply}(hj:p.j=kysD p.x.jn)(hk:yf2 st k p)(hn:yzp p):siK RExt [.ptr k 0] st=some (.tup [],mset st k (plyC {p with x:={p.x with dl:=p.now+1440}})):=by
 have:=yv2 (F:=extF) (pre:=fun p _=>yzp p) ye8 (a:=()) hj hk hn rfl
 rw[show(extF p ()).2.2=[]from rfl,List.append_nil]at this
 exact this
def stpF(p:Ply)(_:Unit):Cse×Int×St:=(yQy p.x p.now,0,[])
abbrev RStp:=ypv yl7 (fun p _=>yzp p) stpF
theorem Yay:CK 121 RStp:=by
 refine ykb (T:=tb [] [(118,siK RExt)]) ytm (yan all_nil (all_cons yu2.1 all_nil)) ?_
 rintro ds st d e st' ⟨k,p,a,hj,hk,ha,rfl,h⟩
 simp only[Prod.mk.injEq]at h
 obtain⟨rfl,rfl,rfl⟩:=h
 have hlt:=yff hk
 have ce:=yn8 (st:=mset st k (plyC {p with x:={p.x with ph:=3}})) (k:=k) (p:={p with x:={p.x with ph:=3}}) hj (yj4 hlt _) ha
 unfold yf2 at hk
 unfold ynd
 simp (disch:=first|omega|decide) only[push_cast,↓reduceIte,Nat.reduceEqDiff,yl7,stpF,yQy,yad,hk,yHn,yby,ce,yd0,List.append_nil,and_true]
theorem yQh{st:St}{k:Nat}{p:Ply}(hj:p.j=kysD p.x.jn)(hk:yf2 st k p)(hn:yzp p):siK RStp [.ptr k 0] st=some (.tup [],mset st k (plyC {p with x:=yQy p.x p.now})):=by
 have:=yv2 (F:=stpF) (pre:=fun p _=>yzp p) ye8 (a:=()) hj hk hn rfl
 rw[show(stpF p ()).2.2=[]from rfl,List.append_nil]at this
 exact this
theorem ycw(st:St)(c:List Ins):imm st (cdD c)=some (cdD c):=ymj st (d:=cdD c) (by simp[cdD,ymk,yas,yuk])
theorem yek(c:List Ins):keys (cdD c)=[]:=rfl
theorem n380:((380:Int)=0)=False:=by simp
theorem n381:((381:Int)=0)=False:=by simp
theorem n1e:((1:Int)=0)=False:=by simp
theorem n2e:((2:Int)=0)=False:=by simp
theorem n40:((40:Int)=0)=False:=by simp
theorem n390:((390:Int)=0)=False:=by simp
def vrdC(p:Int×Dig):List D:=.int .i64 p.1::digC p.2
def yRf(c:List Ins)(v:Int×List Int)(x:Cse):St:=⟨false,1,d2C (yku x.b) (ykt x.b),false⟩::(if yow x.b=true∧yv9 x.b=0 then [⟨false,1,vrdC (yip (yku x.b,ykt x.b) (yef c v)),false⟩]else [])
def setF(p:Ply)(_:Unit):Cse×Int×St:=((yse p.c p.v p.x p.now).1,(yse p.c p.v p.x p.now).2,yRf p.c p.v p.x)
def setQ(p:Ply)(_:Unit):Prop:=p.c.length≤4294967296∧yzp p
abbrev RSet:=ypv yl7 setQ setF
noncomputable abbrev TSet:Tbl:=tbx [(88,yt3),(14,yt5)] [(123,siK yzk),(79,siK RRul),(121,siK RStp)] [(123,sxK yzk)]
theorem yu1:CK 119 RSet:=by
 refine ykb (T:=TSet) yrk (ytt (all_cons yNn (all_cons Yh7 all_nil)) (all_cons ywd.1 (all_cons yGk.1 (all_cons Yay.1 all_nil))) (all_cons ywd.2 all_nil)) ?_
 rintro ds st d e st' ⟨k,p,a,hj,hk,⟨hc,hn⟩,rfl,h⟩
 simp only[Prod.mk.injEq]at h
 obtain⟨rfl,rfl,rfl⟩:=h
 have hlt:=yff hk
 have hs:mset st k (plyC {p with x:=p.x})=st:=yiu hk
 have cd:=yre p.x.b
 have cf:yt5 [cdD p.c,evD p.v,.agg (d2C (yku p.x.b) (ykt p.x.b))]=some (.tup [verD (yip (yku p.x.b,ykt p.x.b) (yef p.c p.v)),.int .i64 (yef p.c p.v).2]):=yNh p.c p.v (yku p.x.b,ykt p.x.b) ⟨by omega,p.hv⟩
 have hvr:=(yr4 (yku p.x.b,ykt p.x.b) (yef p.c p.v)).2
 have cr:∀ l,_:=fun l=>yqd (st:=st++l) hj (ybt hk l) hvr
 have cs:∀ l,_:=fun l=>yQh (st:=st++l) hj (ybt hk l) hn
 have hka:∀ l:St,(st++l)[k]?=some ⟨false,1,plyC p,false⟩:=fun l=>ybt hk l
 have hk':st[k]?=some ⟨false,1,plyC p,false⟩:=hk
 unfold yko yl7 setF yse yRf
 by_cases h1:yow p.x.b=true
 ·by_cases h2:yv9 p.x.b=0
  ·by_cases h3:(yef p.c p.v).2=0
   ·have g2:=eq_true h2
    have g3:=eq_true h3
    rw[h1]at cd
    rw[h3]at cf
    simp (disch:=first|omega|decide) only[push_cast,↓reduceIte,Nat.reduceEqDiff,yad,hk',hka,ycw,yek,ybg,ycn,ydu,sp_t,verD,vrdC,List.append_assoc,List.cons_append,List.nil_append,List.append_nil,List.length_append,List.length_cons,List.length_nil,Nat.zero_add,getR,setR,ycf,ycm,ybo hlt,and_self,decide_true,yji,yfh,yf6,cd,cf,cr,h1,g2,h3]
   ·have g2:=eq_true h2
    rw[h1]at cd
    simp (disch:=first|omega|decide) only[push_cast,↓reduceIte,Nat.reduceEqDiff,yad,hk',hka,ycw,yek,ybg,ycn,ydu,sp_f,yBq,hs,verD,vrdC,List.append_assoc,List.cons_append,List.nil_append,List.append_nil,List.length_append,List.length_cons,List.length_nil,Nat.zero_add,getR,setR,ycf,ycm,and_self,not_false_eq_true,decide_true,yji,yfh,yf6,cd,cf,h1,g2,h3]
  ·rw[h1]at cd
   simp (disch:=first|omega|decide) only[push_cast,↓reduceIte,Nat.reduceEqDiff,yad,hk',Nat.zero_add,ycf,ycm,ybo hlt,and_self,and_false,decide_false,yji,cd,cs,h1,h2]
 ·have h1':yow p.x.b=false:=by simpa using h1
  rw[h1']at cd
  simp (disch:=first|omega|decide) only[push_cast,↓reduceIte,Nat.reduceEqDiff,yad,hk',hs,Nat.zero_add,ycf,ycm,and_self,false_and,yji,cd,h1',Bool.false_eq_true]
section
variable {st:St} {k:Nat} {p:Ply} (hj:p.j=kysD p.x.jn) (hk:yf2 st k p) (hc:p.c.length≤4294967296) (hn:yzp p)
include hj hk hc hn
theorem yQi(h:(yse p.c p.v p.x p.now).2=0):siK RSet [.ptr k 0] st=some (.tup [],mset st k (plyC {p with x:=(yse p.c p.v p.x p.now).1})++yRf p.c p.v p.x):=
 yv2 (F:=setF) (pre:=setQ) ye8 (a:=()) hj hk ⟨hc,hn⟩ h
theorem yJ9(h:(yse p.c p.v p.x p.now).2≠0):siK RSet [.ptr k 0] st=none:=Ymt (F:=setF) (pre:=setQ) ye8 (a:=()) hj hk ⟨hc,hn⟩ h
theorem yJ8(h:(yse p.c p.v p.x p.now).2≠0):sxK RSet [.ptr k 0] st=some (125,.int .i64 (yse p.c p.v p.x p.now).2,mset st k (plyC {p with x:=(yse p.c p.v p.x p.now).1})++yRf p.c p.v p.x):=
 Yta (F:=setF) (pre:=setQ) ye8 (a:=()) hj hk ⟨hc,hn⟩ h
end
def witF(p:Ply)(_:Unit):Cse×Int×St:=((yQx p.x p.m).1,(yQx p.x p.m).2,[])
abbrev RWit:=ypv yl7 (fun _ _=>True) witF
theorem yA3:CK 69 RWit:=by
 refine ykb (T:=TND) yo9 (ytt all_nil (all_cons yen.1 all_nil) (all_cons yen.2 all_nil)) ?_
 rintro ds st d e st' ⟨k,p,a,hj,hk,_,rfl,h⟩
 simp only[Prod.mk.injEq]at h
 obtain⟨rfl,rfl,rfl⟩:=h
 have hlt:=yff hk
 have hs:mset st k (plyC {p with x:=p.x})=st:=yiu hk
 have hka:∀ l:St,(st++l)[k]?=some ⟨false,1,plyC p,false⟩:=fun l=>ybt hk l
 have hk':st[k]?=some ⟨false,1,plyC p,false⟩:=hk
 unfold yiy yl7 witF yQx
 by_cases h1:p.m.pt=0
 ·have g1:=eq_true h1
  simp (disch:=first|omega|decide) only[push_cast,↓reduceIte,Nat.reduceEqDiff,Nat.reduceAdd,yad,hk',sn_t,yby,List.append_nil,Nat.zero_add,Nat.reduceAdd,and_self,decide_true,yau,g1,yHn,Yi4,ygx hlt,yd0]
 ·simp (disch:=first|omega|decide) only[push_cast,↓reduceIte,Nat.reduceAdd,yad,hk',sn_f,sx_f,hs,List.append_nil,Nat.zero_add,Nat.reduceAdd,and_self,not_false_eq_true,decide_false,n380,yau,h1]
def conF(p:Ply)(_:Unit):Cse×Int×St:=((yNc p.x p.m).1,(yNc p.x p.m).2,[])
abbrev RCon:=ypv yl7 (fun _ _=>True) conF
theorem yDa:CK 70 RCon:=by
 refine ykb (T:=tbx [] [(73,siK yj6),(79,siK RRul),(125,siK RClo)] [(73,sxK yj6)]) ypj (ytt all_nil (all_cons yen.1 (all_cons yGk.1 (all_cons yGl.1 all_nil))) (all_cons yen.2 all_nil)) ?_
 rintro ds st d e st' ⟨k,p,a,hj,hk,_,rfl,h⟩
 simp only[Prod.mk.injEq]at h
 obtain⟨rfl,rfl,rfl⟩:=h
 have hlt:=yff hk
 have hs:mset st k (plyC {p with x:=p.x})=st:=yiu hk
 have hka:∀ l:St,(st++l)[k]?=some ⟨false,1,plyC p,false⟩:=fun l=>ybt hk l
 have hk':st[k]?=some ⟨false,1,plyC p,false⟩:=hk
 have c1:=yqd hj hk (a:=0) (by omega)
 have c2:=ywj hj hk 1 p.x.ct
 unfold yjd yl7 conF yNc
 by_cases h1:p.m.pt=1
 ·have g1:=eq_true h1
  simp (disch:=first|omega|decide) only[push_cast,↓reduceIte,Nat.reduceEqDiff,Nat.reduceAdd,yad,hk',List.append_nil,Nat.zero_add,Nat.reduceAdd,and_self,decide_true,yau,g1,c1]
 ·by_cases h2:0≤p.x.ct
  ·simp (disch:=first|omega|decide) only[push_cast,↓reduceIte,Nat.reduceEqDiff,Nat.reduceAdd,yad,hk',sn_t,List.append_nil,Nat.zero_add,Nat.reduceAdd,and_self,decide_true,decide_false,yau,yCr,h1,h2,c2]
  ·simp (disch:=first|omega|decide) only[push_cast,↓reduceIte,Nat.reduceEqDiff,Nat.reduceAdd,yad,hk',sn_f,sx_f,hs,List.append_nil,Nat.zero_add,Nat.reduceAdd,and_self,not_false_eq_true,decide_false,n380,yau,yCr,h1,h2]
def couF(p:Ply)(_:Unit):Cse×Int×St:=((yNa p.x p.m p.now).1,(yNa p.x p.m p.now).2,[])
abbrev RCou:=ypv yl7 (fun p _=>yzp p) couF
theorem yC9:CK 71 RCou:=by
 refine ykb (T:=tbx [(64,ypn)] [(73,siK yj6),(118,siK RExt)] [(73,sxK yj6)]) ypi (ytt (all_cons yGo all_nil) (all_cons yen.1 (all_cons yu2.1 all_nil)) (all_cons yen.2 all_nil)) ?_
 rintro ds st d e st' ⟨k,p,a,hj,hk,hn,rfl,h⟩
 simp only[Prod.mk.injEq]at h
 obtain⟨rfl,rfl,rfl⟩:=h
 have hlt:=yff hk
 have hs:mset st k (plyC {p with x:=p.x})=st:=yiu hk
 have hka:∀ l:St,(st++l)[k]?=some ⟨false,1,plyC p,false⟩:=fun l=>ybt hk l
 have hk':st[k]?=some ⟨false,1,plyC p,false⟩:=hk
 have ca:=ys2 p.m.am
 have ce:=yn8 (st:=mset st k (plyC {p with x:={p.x with ct:=p.m.am}})) (k:=k) (p:={p with x:={p.x with ct:=p.m.am}}) hj (yj4 hlt _) hn
 unfold yjc yl7 couF yNa
 by_cases h1:p.m.pt=1
 ·have g1:=eq_true h1
  by_cases h2:p.x.ph=1
  ·have g2:=eq_true h2
   by_cases h3:p.x.ct<0
   ·by_cases h4:0≤p.m.am
    ·by_cases h5:ykn p.m.am
     ·simp only[h5,decide_true]at ca
      simp (disch:=first|omega|decide) only[push_cast,↓reduceIte,Nat.reduceEqDiff,Nat.reduceAdd,yad,hk',sn_t,yby,List.append_nil,Nat.zero_add,Nat.reduceAdd,and_self,decide_true,yau,yer,yCr,yrs,g1,g2,h3,h4,h5,ca,Yrz,ce,yd0]
     ·simp only[h5,decide_false]at ca
      simp (disch:=first|omega|decide) only[push_cast,↓reduceIte,Nat.reduceEqDiff,Nat.reduceAdd,yad,hk',sn_t,sn_f,sx_f,hs,List.append_nil,Nat.zero_add,Nat.reduceAdd,and_self,and_false,not_false_eq_true,decide_true,n1e,yau,yer,yCr,yrs,g1,g2,h3,h4,h5,ca]
    ·simp (disch:=first|omega|decide) only[push_cast,↓reduceIte,Nat.reduceEqDiff,Nat.reduceAdd,yad,hk',sn_t,sn_f,sx_f,hs,List.append_nil,Nat.zero_add,Nat.reduceAdd,and_self,false_and,not_false_eq_true,decide_true,decide_false,n1e,yau,yer,yCr,yrs,g1,g2,h3,h4]
   ·simp (disch:=first|omega|decide) only[push_cast,↓reduceIte,Nat.reduceEqDiff,Nat.reduceAdd,yad,hk',sn_f,sx_f,hs,List.append_nil,Nat.zero_add,Nat.reduceAdd,and_self,and_false,not_false_eq_true,decide_true,decide_false,n380,yau,yer,yCr,g1,g2,h3]
  ·simp (disch:=first|omega|decide) only[push_cast,↓reduceIte,Nat.reduceEqDiff,Nat.reduceAdd,yad,hk',sn_f,sx_f,hs,List.append_nil,Nat.zero_add,Nat.reduceAdd,and_self,and_false,false_and,not_false_eq_true,decide_true,decide_false,n380,yau,yer,g1,h2]
 ·simp (disch:=first|omega|decide) only[push_cast,↓reduceIte,Nat.reduceEqDiff,Nat.reduceAdd,yad,hk',sn_f,sx_f,hs,List.append_nil,Nat.zero_add,Nat.reduceAdd,and_self,false_and,not_false_eq_true,decide_false,n380,yau,h1]
def ansX(x:Cse)(m:Mv):Cse:={x with a1:=m.am,c1:=m.cm}
def ansY(x:Cse)(m:Mv)(now:Int):Cse:={x with a1:=m.am,c1:=m.cm,b:=ylg x.c0 m.cm,ph:=2,dl:=now+1440}
def Yv6(c:List Ins)(v:Int×List Int)(x:Cse)(m:Mv)(now:Int):St:=
 if m.pt=1∧x.ph=1 then
  if ykn m.am then⟨false,1,bisC (ylg x.c0 m.cm),false⟩::(if yd7 x.c0 m.cm=0 then yRf c v (ansY x m now)else [])
  else []
 else []
def ansF(p:Ply)(_:Unit):Cse×Int×St:=((yGt p.c p.v p.x p.m p.now).1,(yGt p.c p.v p.x p.m p.now).2,Yv6 p.c p.v p.x p.m p.now)
abbrev RAns:=ypv yl7 setQ ansF
theorem Yje(st:St)(c:List Ins):lenD st false (cdD c)=some (.int .i64 (c.length:Int)):=by
 simp[lenD,yp1,cdD,sLen]
noncomputable abbrev TAns:Tbl:=tbx [(64,ypn),(26,yis)]
 [(73,siK yj6),(118,siK RExt),(119,siK RSet),(79,siK RRul),(120,siK RJud),(121,siK RStp)]
 [(73,sxK yj6),(119,sxK RSet)]
theorem yJ2:CK 66 RAns:=by
 refine ykb (T:=TAns) yrm (ytt (all_cons yGo (all_cons yGn all_nil)) (all_cons yen.1 (all_cons yu2.1 (all_cons yu1.1 (all_cons yGk.1 (all_cons yQg.1 (all_cons Yay.1 all_nil)))))) (all_cons yen.2 (all_cons yu1.2 all_nil))) ?_
 rintro ds st d e st' ⟨k,p,a,hj,hk,⟨hc,hn⟩,rfl,h⟩
 simp only[Prod.mk.injEq]at h
 obtain⟨rfl,rfl,rfl⟩:=h
 have hlt:=yff hk
 have hs:mset st k (plyC {p with x:=p.x})=st:=yiu hk
 have hka:∀ l:St,(st++l)[k]?=some ⟨false,1,plyC p,false⟩:=fun l=>ybt hk l
 have hk':st[k]?=some ⟨false,1,plyC p,false⟩:=hk
 have ca:=ys2 p.m.am
 have cb:yis [.agg (.int .i64 p.x.c0.1::digC p.x.c0.2),.agg (.int .i64 p.m.cm.1::digC p.m.cm.2)]=some (.tup [bisD (ylg p.x.c0 p.m.cm),.int .i64 (yd7 p.x.c0 p.m.cm)]):=ys1 p.x.c0 p.m.cm
 have hz:=fun C=>ygx hlt C
 have hz2:=fun C m=>ynu hlt C m
 unfold ykq yl7 ansF yGt Yv6
 by_cases h1:p.m.pt=1
 ·have g1:=eq_true h1
  by_cases h2:p.x.ph=1
  ·have g2:=eq_true h2
   by_cases h5:ykn p.m.am
   ·simp only[h5,decide_true]at ca
    -- the case with the answer
    have hx1:∀ l,yf2 (mset st k (plyC {p with x:=ansX p.x p.m})++l) k {p with x:=ansX p.x p.m}:=fun l=>ybt (yj4 hlt _) l
    by_cases h6:yd7 p.x.c0 p.m.cm=1
    ·rw[h6]at cb
     have n0:¬ (1:Int)=0:=by decide
     simp (disch:=first|omega|decide) only[push_cast,↓yal,↓reduceIte,Nat.reduceEqDiff,Nat.reduceAdd,Nat.reduceMul,yad,hk',sn_t,sn_f,sx_f,yby,List.cons_append,List.nil_append,Nat.zero_add,Nat.reduceAdd,ycf,ycm,and_self,not_false_eq_true,decide_true,n381,yau,yer,yrs,yCq,yb8,yb7,g1,g2,h5,h6,ca,cb,yB2,yB1,hz,yd0,yag,n0]
    ·by_cases h7:yd7 p.x.c0 p.m.cm=0
     ·have g7:=eq_true h7
      have ce:∀ l:St,siK RExt [.ptr k 0] (mset st k (plyC {p with x:={ansX p.x p.m with b:=ylg p.x.c0 p.m.cm,ph:=2}})++l)=some (.tup [],mset (mset st k (plyC {p with x:={ansX p.x p.m with b:=ylg p.x.c0 p.m.cm,ph:=2}})++l) k (plyC {p with x:=ansY p.x p.m p.now})):=
       fun l=>yn8 (p:={p with x:={ansX p.x p.m with b:=ylg p.x.c0 p.m.cm,ph:=2}}) hj (ybt (yj4 hlt _) l) hn
      have hx2:∀ l,yf2 (mset st k (plyC {p with x:=ansY p.x p.m p.now})++l) k {p with x:=ansY p.x p.m p.now}:=fun l=>ybt (yj4 hlt _) l
      by_cases h8:(yse p.c p.v (ansY p.x p.m p.now) p.now).2=0
      ·have cs:=fun l=>yQi (p:={p with x:=ansY p.x p.m p.now}) hj (hx2 l) hc hn h8
       have g8:=eq_true h8
       simp only[ansX,ansY]at ce cs h8 g8
       simp (disch:=first|omega|decide) only[push_cast,↓yal,↓reduceIte,Nat.reduceEqDiff,Nat.reduceAdd,Nat.reduceMul,yad,hk',sn_t,yby,List.append_assoc,List.cons_append,List.nil_append,Nat.zero_add,Nat.reduceAdd,ycf,ycm,and_self,decide_true,decide_false,yau,yer,yrs,yCq,yb8,yb7,g1,g2,h5,h6,g7,ca,cb,yB2,yB1,yVh,yHn,hz,hz2,yd0,yf4 hlt,yag,ce,cs,h8,ansY]
      ·have cs:=fun l=>yJ9 (p:={p with x:=ansY p.x p.m p.now}) hj (hx2 l) hc hn h8
       have cx:=fun l=>yJ8 (p:={p with x:=ansY p.x p.m p.now}) hj (hx2 l) hc hn h8
       simp only[ansX,ansY]at ce cs cx h8
       simp (disch:=first|omega|decide) only[push_cast,↓yal,↓reduceIte,Nat.reduceEqDiff,Nat.reduceAdd,Nat.reduceMul,yad,hk',sn_t,yby,List.append_assoc,List.cons_append,List.nil_append,Nat.zero_add,Nat.reduceAdd,ycf,ycm,and_self,not_false_eq_true,decide_true,decide_false,yau,yer,yrs,yCq,yb8,yb7,g1,g2,h5,h6,g7,ca,cb,yB2,yB1,yVh,yHn,hz,hz2,yd0,yf4 hlt,yag,ce,cs,cx,h8,ansY]
     ·have cr:=fun l=>yqd (p:={p with x:=ansX p.x p.m}) hj (hx1 l) (a:=1) (by omega)
      have cj:=fun l=>ywh (p:={p with x:=ansX p.x p.m}) hj (hx1 l) 0
      have ct:=fun l=>yQh (p:={p with x:=ansX p.x p.m}) hj (hx1 l) hn
      simp only[ansX]at cr cj ct
      by_cases h8:p.x.a0=p.m.am
      ·have g8:=eq_true h8
       simp (disch:=first|omega|decide) only[push_cast,↓yal,↓reduceIte,Nat.reduceEqDiff,Nat.reduceAdd,Nat.reduceMul,yad,hk',sn_t,yby,List.cons_append,List.nil_append,Nat.zero_add,Nat.reduceAdd,ycf,ycm,and_self,decide_true,decide_false,yau,yer,yrs,yCq,yb8,yb7,yPf,yPe,g1,g2,h5,h6,h7,ca,cb,yB2,yB1,hz,hz2,yd0,yf4 hlt,yag,cr,g8]
      ·by_cases h9:p.c.length=0
       ·have g9:((p.c.length:Int)=0)=True:=by simp[h9]
        simp (disch:=first|omega|decide) only[push_cast,↓yal,↓reduceIte,Nat.reduceEqDiff,Nat.reduceAdd,Nat.reduceMul,yad,hk',sn_t,yby,List.cons_append,List.nil_append,Nat.zero_add,Nat.reduceAdd,ycf,ycm,and_self,decide_true,decide_false,yau,yer,yrs,yCq,yb8,yb7,yPf,yPe,yfh,Yje,g1,g2,h5,h6,h7,ca,cb,yB2,yB1,hz,hz2,yd0,yf4 hlt,yag,cj,h8,h9]
       ·have g9:((p.c.length:Int)=0)=False:=by simp; simpa using h9
        simp (disch:=first|omega|decide) only[push_cast,↓yal,↓reduceIte,Nat.reduceEqDiff,Nat.reduceAdd,Nat.reduceMul,yad,hk',sn_t,yby,List.cons_append,List.nil_append,Nat.zero_add,Nat.reduceAdd,ycf,ycm,and_self,decide_true,decide_false,yau,yer,yrs,yCq,yb8,yb7,yPf,yPe,yfh,Yje,g1,g2,h5,h6,h7,ca,cb,yB2,yB1,hz,hz2,yd0,yf4 hlt,yag,ct,h8,g9,h9]
   ·simp only[h5,decide_false]at ca
    simp (disch:=first|omega|decide) only[push_cast,↓reduceIte,Nat.reduceEqDiff,Nat.reduceAdd,yad,hk',sn_t,sn_f,sx_f,hs,List.append_nil,Nat.zero_add,Nat.reduceAdd,and_self,not_false_eq_true,decide_true,n1e,yau,yer,yrs,g1,g2,h5,ca]
  ·simp (disch:=first|omega|decide) only[push_cast,↓reduceIte,Nat.reduceEqDiff,Nat.reduceAdd,yad,hk',sn_f,sx_f,hs,List.append_nil,Nat.zero_add,Nat.reduceAdd,and_self,and_false,not_false_eq_true,decide_true,decide_false,n380,yau,yer,g1,h2]
 ·simp (disch:=first|omega|decide) only[push_cast,↓reduceIte,Nat.reduceEqDiff,Nat.reduceAdd,yad,hk',sn_f,sx_f,hs,List.append_nil,Nat.zero_add,Nat.reduceAdd,and_self,false_and,not_false_eq_true,decide_false,n380,yau,h1]
def dscX(x:Cse)(m:Mv):Cse:={x with b:=yem x.b m.pt m.lf m.rt}
def dscY(x:Cse)(m:Mv)(now:Int):Cse:={x with b:=yem x.b m.pt m.lf m.rt,dl:=now+1440}
def Yu3(c:List Ins)(v:Int×List Int)(x:Cse)(m:Mv)(now:Int):St:=
 if x.ph=2 then⟨false,1,bisC (yem x.b m.pt m.lf m.rt),false⟩::(if yfy x.b m.pt m.lf m.rt=0 then(if(yem x.b m.pt m.lf m.rt).r=x.b.r then []else yRf c v (dscY x m now))else [])else []
def dscF(p:Ply)(_:Unit):Cse×Int×St:=((yTv p.c p.v p.x p.m p.now).1,(yTv p.c p.v p.x p.m p.now).2,Yu3 p.c p.v p.x p.m p.now)
def dscQ(p:Ply)(u:Unit):Prop:=setQ p u∧(p.m.pt=0∨p.m.pt=1)
abbrev RDsc:=ypv yl7 dscQ dscF
noncomputable abbrev TDsc:Tbl:=tbx [(122,yEr)]
 [(73,siK yj6),(123,siK yzk),(118,siK RExt),(119,siK RSet)]
 [(73,sxK yj6),(123,sxK yzk),(119,sxK RSet)]
theorem yA4:CK 67 RDsc:=by
 refine ykb (T:=TDsc) ypa (ytt (all_cons Ypx all_nil) (all_cons yen.1 (all_cons ywd.1 (all_cons yu2.1 (all_cons yu1.1 all_nil)))) (all_cons yen.2 (all_cons ywd.2 (all_cons yu1.2 all_nil)))) ?_
 rintro ds st d e st' ⟨k,p,a,hj,hk,⟨⟨hc,hn⟩,hp⟩,rfl,h⟩
 simp only[Prod.mk.injEq]at h
 obtain⟨rfl,rfl,rfl⟩:=h
 have hlt:=yff hk
 have hs:mset st k (plyC {p with x:=p.x})=st:=yiu hk
 have hka:∀ l:St,(st++l)[k]?=some ⟨false,1,plyC p,false⟩:=fun l=>ybt hk l
 have hk':st[k]?=some ⟨false,1,plyC p,false⟩:=hk
 have cb:=yUd p.x.b p.m.pt p.m.lf p.m.rt (by omega)
 have hz:=fun C=>ygx hlt C
 have hz2:=fun C m=>ynu hlt C m
 unfold yiz yl7 dscF yTv Yu3
 by_cases h1:p.x.ph=2
 ·have g1:=eq_true h1
  by_cases h2:yfy p.x.b p.m.pt p.m.lf p.m.rt=0
  ·have g2:=eq_true h2
   rw[h2]at cb
   by_cases h3:(yem p.x.b p.m.pt p.m.lf p.m.rt).r=p.x.b.r
   ·have g3:=eq_true h3
    simp (disch:=first|omega|decide) only[push_cast,↓reduceIte,Nat.reduceEqDiff,Nat.reduceAdd,yad,hk',hka,sp_t,sn_t,yby,Nat.zero_add,Nat.reduceAdd,ycf,ycm,ybo hlt,and_self,decide_true,yer,yji,yau,yPd,yPc,yYh,g1,g3,h2,cb,yVh]
   ·have ce:∀ l:St,siK RExt [.ptr k 0] (mset st k (plyC {p with x:=dscX p.x p.m})++l)=some (.tup [],mset (mset st k (plyC {p with x:=dscX p.x p.m})++l) k (plyC {p with x:=dscY p.x p.m p.now})):=
     fun l=>yn8 (p:={p with x:=dscX p.x p.m}) hj (ybt (yj4 hlt _) l) hn
    have hx2:∀ l,yf2 (mset st k (plyC {p with x:=dscY p.x p.m p.now})++l) k {p with x:=dscY p.x p.m p.now}:=fun l=>ybt (yj4 hlt _) l
    by_cases h8:(yse p.c p.v (dscY p.x p.m p.now) p.now).2=0
    ·have cs:=fun l=>yQi (p:={p with x:=dscY p.x p.m p.now}) hj (hx2 l) hc hn h8
     have g8:=eq_true h8
     simp only[dscX,dscY]at ce cs h8 g8
     simp (disch:=first|omega|decide) only[push_cast,↓reduceIte,Nat.reduceEqDiff,Nat.reduceAdd,yad,hk',hka,sp_t,sn_t,yby,List.append_assoc,List.cons_append,List.nil_append,Nat.zero_add,Nat.reduceAdd,ycf,ycm,ybo hlt,and_self,decide_true,decide_false,yer,yji,yau,yPd,yPc,yYh,g1,h3,h2,cb,yVh,yf4 hlt,ce,cs,h8,dscY]
    ·have cs:=fun l=>yJ9 (p:={p with x:=dscY p.x p.m p.now}) hj (hx2 l) hc hn h8
     have cx:=fun l=>yJ8 (p:={p with x:=dscY p.x p.m p.now}) hj (hx2 l) hc hn h8
     simp only[dscX,dscY]at ce cs cx h8
     simp (disch:=first|omega|decide) only[push_cast,↓reduceIte,Nat.reduceEqDiff,Nat.reduceAdd,yad,hk',hka,sp_t,sn_t,yby,List.append_assoc,List.cons_append,List.nil_append,Nat.zero_add,Nat.reduceAdd,ycf,ycm,ybo hlt,and_self,not_false_eq_true,decide_true,decide_false,yer,yji,yau,yPd,yPc,yYh,g1,h3,h2,cb,yVh,yf4 hlt,ce,cs,cx,h8,dscY]
  ·simp (disch:=first|omega|decide) only[push_cast,↓reduceIte,Nat.reduceEqDiff,Nat.reduceAdd,yad,hk',sp_f,yBq,sn_t,hs,Nat.zero_add,Nat.reduceAdd,ycf,ycm,and_self,not_false_eq_true,decide_true,yer,yji,yau,yPd,yPc,g1,h2,cb]
 ·simp (disch:=first|omega|decide) only[push_cast,↓reduceIte,yad,hk',sn_f,sx_f,hs,List.append_nil,Nat.zero_add,and_self,not_false_eq_true,decide_false,n380,yer,h1]
noncomputable def yCn:List D→Option ((Nat→D)×(Nat→List PI.Obj)):=fun ds=>@dite _ (∃ l:List Ky,l.length≤4294900000∧ds=[kysD l]) (Classical.propDecidable _)
 (fun h=>some (if h.choose=[]then(fun _=>.slc 0 [] true,fun _=>[])else(fun n=>.row n h.choose.length 0 h.choose.length,fun _=>[⟨true,5,h.choose.map kyD,false⟩]))) (fun _=>none)
theorem yJ3(l:List Ky)(h:l.length≤4294900000):yCn [kysD l]=some (if l=[]then(fun _=>.slc 0 [] true,fun _=>[])else(fun n=>.row n l.length 0 l.length,fun _=>[⟨true,5,l.map kyD,false⟩])):=by
 have hx:∃ q:List Ky,q.length≤4294900000∧[kysD l]=[kysD q]:=⟨l,h,rfl⟩
 unfold yCn
 rw[dif_pos hx]
 have h2:=hx.choose_spec.2
 generalize hx.choose=q at*
 simp only[List.cons.injEq,and_true,yx1]at h2
 subst h2
 rfl
theorem Yu6:IContract Tryz.prog GG 127 (fun ds st=>(yCn ds).map fun r=>(r.1 st.length,st++r.2 st.length)):=
 Yju.or Yju fun ds st r h=>.inl (by
  simp only[Option.map_eq_some_iff]at h
  obtain⟨r0,h0,rfl⟩:=h
  have hx:∃ l:List Ky,l.length≤4294900000∧ds=[kysD l]:=by
   unfold yCn at h0
   split at h0
   ·assumption
   ·cases h0
  obtain⟨l,hl,rfl⟩:=hx
  rw[yJ3 l hl]at h0
  rw[Yh2 l st hl]
  simp only[Option.some.injEq]at h0
  subst h0
  split <;> simp)
noncomputable def TJoi:Tbl:={p:=look [(126,yN9)],i:=look [(73,siK yj6)],m:=look [(127,yCn)],x:=look [(73,sxK yj6)]}
theorem tbj_p(n:Nat):TJoi.p n=look [(126,yN9)] n:=(rfl)
theorem tbj_i(n:Nat):TJoi.i n=look [(73,siK yj6)] n:=(rfl)
theorem tbj_m(n:Nat):TJoi.m n=look [(127,yCn)] n:=(rfl)
theorem tbj_x(n:Nat):TJoi.x n=look [(73,sxK yj6)] n:=(rfl)
attribute [push_cast] tbj_p tbj_i tbj_m tbj_x
theorem Yru:TblOK Tryz.prog GG TJoi:=
 ⟨fun _ _ hs=>.inl (by
   have:=ydw hs
   simp only[List.mem_singleton,Prod.mk.injEq]at this
   obtain⟨rfl,rfl⟩:=this
   exact⟨by decide,c_ctK⟩),fun _ _ hs=>(by
   have:=ydw hs
   simp only[List.mem_singleton,Prod.mk.injEq]at this
   obtain⟨rfl,rfl⟩:=this
   exact yen.1),fun _ _ hs=>(by
   have:=ydw hs
   simp only[List.mem_singleton,Prod.mk.injEq]at this
   obtain⟨rfl,rfl⟩:=this
   exact Yu6),fun _ _ hs=>(by cases hs),fun _ _ hs=>(by
   have:=ydw hs
   simp only[List.mem_singleton,Prod.mk.injEq]at this
   obtain⟨rfl,rfl⟩:=this
   exact yen.2),fun _ _ hs=>(by cases hs)⟩
def joiR(ds:List D)(st:St)(r:D×Int×St):Prop:=∃ (k:Nat) (p:Ply),p.j=kysD p.x.jn∧yf2 st k p∧ds=[.ptr k 0]∧
 r=if(yks p.x p.m).2=0 then(.tup [],0,mset st k (plyC {p with j:=.row st.length (p.x.jn.length+1) 0 (p.x.jn.length+1)})++[⟨true,5,(p.x.jn++[p.m.key]).map kyD,false⟩])else(.tup [],(yks p.x p.m).2,st)
theorem yMv:FnlK joiR:=by
 rintro ds st r r' ⟨k,p,hj,hk,rfl,rfl⟩ ⟨k',p',hj',hk',h,rfl⟩
 simp only[List.cons.injEq,D.ptr.injEq,and_true]at h
 obtain rfl:=h
 unfold yf2 at hk hk'
 rw[hk]at hk'
 simp only[Option.some.injEq,PI.Obj.mk.injEq,true_and,and_true]at hk'
 obtain rfl:=yOq hk' hj hj'
 rfl
theorem Yjd(k:Ky):litD 5 [kyD k]=some (.slc 5 [kyD k] true):=rfl
theorem Yqc(st:St)(k:Ky):papp st 5 40 (.slc 0 [] true) (.slc 5 [kyD k] true)=some (.row st.length 1 0 1,st++[⟨true,5,[kyD k],false⟩]):=by
 simp[papp,ygl]
theorem Yqb(st:St)(l:List Ky)(k:Ky)(h:l.length≤100):papp (st++[⟨true,5,l.map kyD,false⟩]) 5 40 (.row st.length l.length 0 l.length) (.slc 5 [kyD k] true)=some (.row st.length (l.length+1) 0 (l.length+1),st++[⟨true,5,(l++[k]).map kyD,false⟩]):=by
 have e1:(l.length+1)*40≤140737488355328:=by omega
 have e2:l.length+1≤4294967296:=by omega
 simp[papp,ygl,e1,e2]
theorem Ya0:CK 72 joiR:=by
 refine ykb (T:=TJoi) ysc Yru ?_
 rintro ds st d e st' ⟨k,p,hj,hk,rfl,h⟩
 have hlt:=yff hk
 have hs:mset st k (plyC {p with x:=p.x})=st:=yiu hk
 have hka:∀ l:St,(st++l)[k]?=some ⟨false,1,plyC p,false⟩:=fun l=>ybt hk l
 have hk':st[k]?=some ⟨false,1,plyC p,false⟩:=hk
 have ll:∀ st:St,lenD st false (kysD p.x.jn)=some (.int .i64 (p.x.jn.length:Int)):=fun st=>by simp[lenD,yp1,sLen]
 have hz:=fun C=>ygx hlt C
 unfold ylz
 by_cases h1:p.m.pt=0
 ·have g1:=eq_true h1
  by_cases h2:p.x.ph=1
  ·have g2:=eq_true h2
   by_cases h3:p.x.jn.length<8
   ·have g3:((p.x.jn.length:Int)<8)=True:=eq_true (by omega)
    have cc:=Yh0 p.x.jn p.m.key (by omega)
    by_cases h4:p.m.key=p.x.key
    ·have g4:=eq_true h4
     have e:yks p.x p.m=(p.x,1):=by unfold yks; rw[if_pos ⟨h1,h2⟩,if_pos h3,if_neg (by simp[h4])]
     rw[e,if_neg (by simp)]at h
     simp only[Prod.mk.injEq]at h
     obtain⟨rfl,rfl,rfl⟩:=h
     simp (disch:=first|omega|decide) only[push_cast,↓reduceIte,Nat.reduceEqDiff,Nat.reduceAdd,yad,hk',sn_t,sn_f,sx_f,Nat.zero_add,Nat.reduceAdd,and_self,not_false_eq_true,decide_true,n1e,yau,yer,yYf,hj,ll,yFp,yFq,yho,g1,g2,g3,g4]
    ·by_cases h5:p.m.key∈p.x.jn
     ·have e:yks p.x p.m=(p.x,1):=by unfold yks; rw[if_pos ⟨h1,h2⟩,if_pos h3,if_neg (by simp[h5])]
      rw[e,if_neg (by simp)]at h
      simp only[Prod.mk.injEq]at h
      obtain⟨rfl,rfl,rfl⟩:=h
      simp only[h5,decide_true]at cc
      simp (disch:=first|omega|decide) only[push_cast,↓reduceIte,Nat.reduceEqDiff,Nat.reduceAdd,yad,hk',sn_t,sn_f,sx_f,Nat.zero_add,Nat.reduceAdd,and_self,not_false_eq_true,decide_true,decide_false,n1e,yau,yer,yYf,hj,ll,yFp,yFq,yho,yhl,g1,g2,g3,h4,cc]
     ·have e:yks p.x p.m=({p.x with jn:=p.x.jn++[p.m.key]},0):=by unfold yks; rw[if_pos ⟨h1,h2⟩,if_pos h3,if_pos ⟨h4,h5⟩]
      rw[e,if_pos rfl]at h
      simp only[Prod.mk.injEq]at h
      obtain⟨rfl,rfl,rfl⟩:=h
      simp only[h5,decide_false]at cc
      have cm:=yJ3 p.x.jn (by omega)
      by_cases h6:p.x.jn=[]
      ·rw[if_pos h6]at cm
       have e1:(p.x.jn++[p.m.key]).map kyD=[kyD p.m.key]:=by rw[h6]; rfl
       have e2:p.x.jn.length+1=1:=by rw[h6]; rfl
       rw[e1,e2]
       simp (disch:=first|omega|decide) only[push_cast,↓yal,↓reduceIte,Nat.reduceEqDiff,Nat.reduceAdd,yad,hk',hka,sn_t,yby,List.cons_append,List.nil_append,List.append_nil,Nat.zero_add,Nat.reduceAdd,ybo hlt,and_self,decide_true,decide_false,yau,yer,yYf,hj,ll,yFp,yFq,yho,yhl,ygj,g1,g2,g3,h4,cc,cm,Yqc,Yi5,Yuk,Yjd,eq_true hlt]
      ·rw[if_neg h6]at cm
       have a1:=Yqb st p.x.jn p.m.key (by omega)
       simp (disch:=first|omega|decide) only[push_cast,↓yal,↓reduceIte,Nat.reduceEqDiff,Nat.reduceAdd,yad,hk',hka,sn_t,yby,List.cons_append,List.nil_append,List.append_nil,Nat.zero_add,Nat.reduceAdd,ybo hlt,and_self,decide_true,decide_false,yau,yer,yYf,hj,ll,yFp,yFq,yho,yhl,ygj,g1,g2,g3,h4,cc,cm,a1,Yi5,Yuk,Yjd,eq_true hlt]
   ·have g3:((p.x.jn.length:Int)<8)=False:=eq_false (by omega)
    have e:yks p.x p.m=(p.x,2):=by unfold yks; rw[if_pos ⟨h1,h2⟩,if_neg h3]
    rw[e,if_neg (by simp)]at h
    simp only[Prod.mk.injEq]at h
    obtain⟨rfl,rfl,rfl⟩:=h
    simp (disch:=first|omega|decide) only[push_cast,↓reduceIte,Nat.reduceEqDiff,Nat.reduceAdd,yad,hk',sn_t,sn_f,sx_f,Nat.zero_add,Nat.reduceAdd,and_self,not_false_eq_true,decide_true,decide_false,n2e,yau,yer,yYf,hj,ll,g1,g2,g3]
  ·have e:yks p.x p.m=(p.x,380):=by unfold yks; rw[if_neg (fun q=>h2 q.2)]
   rw[e,if_neg (by simp)]at h
   simp only[Prod.mk.injEq]at h
   obtain⟨rfl,rfl,rfl⟩:=h
   simp (disch:=first|omega|decide) only[push_cast,↓reduceIte,Nat.reduceEqDiff,Nat.reduceAdd,yad,hk',sn_f,sx_f,Nat.zero_add,Nat.reduceAdd,and_self,not_false_eq_true,decide_true,decide_false,n380,yau,yer,g1,h2]
 ·have e:yks p.x p.m=(p.x,380):=by unfold yks; rw[if_neg (fun q=>h1 q.1)]
  rw[e,if_neg (by simp)]at h
  simp only[Prod.mk.injEq]at h
  obtain⟨rfl,rfl,rfl⟩:=h
  simp (disch:=first|omega|decide) only[push_cast,↓reduceIte,Nat.reduceEqDiff,Nat.reduceAdd,yad,hk',sn_f,sx_f,Nat.zero_add,Nat.reduceAdd,and_self,not_false_eq_true,decide_false,n380,yau,h1]
end Go.Proofs.YtijnglngaogdjaaGreatDoor.PI
