/-
  court: the methods of a move under way.
  Conditions: none; these are lemmas.
-/
import Derived.Test.YtijnglngaogdjaaGreatDoorArQ
import Derived.Test.YtijnglngaogdjaaGreatDoorArE
import Derived.Test.YtijnglngaogdjaaGreatDoorEngHe
import Derived.Test.YtijnglngaogdjaaGreatDoorSha
open Int renaming reduceAdd→C0,reduceLT→CT,reduceMul→C4,reduceNatCast'→CM,reduceNeg→CL,reducePow→CY,reduceSub→C3,reduceToNat→CU
open List renaming replicate→CQ
open Nat renaming reduceAdd→CJ,reduceBEq→CZ,reduceEqDiff→CI,reduceLT→CP,reduceLeDiff→CN,reduceMul→CO
open Prod renaming fst→C5,snd→C6
set_option linter.unusedVariables false
set_option linter.unusedSimpArgs false
namespace Go.Proofs.YtijnglngaogdjaaGreatDoor.PI
open Go
set_option linter.unusedSimpArgs false
set_option maxHeartbeats 8000000
set_option maxRecDepth 20000
set_option linter.unusedVariables false
theorem wo(d:Der):DH (FA d)=some (Dr (Et d.code) d.env d.am d.er (JB d.lv)):=by
 rw[show DH (FA d)=if(Dr (Et d.code) d.env d.am d.er (JB d.lv)).all D.isCell then some (Dr (Et d.code) d.env d.am d.er (JB d.lv))else none from rfl,if_pos (qH _ rfl rfl _ _)]
def H2(c:List Ins)(v:Int×List Int)(n:Int):Sta×Int:=if(FE c).2=0 then(if n<0 then(FU,1)else match(Ko c v)[n.toNat]? with
 |some s=>(s,0)
 |none=>(FU,1))else(FU,(FE c).2)
def LI:List D:=[.int .i64 0,.int .i64 0,.int .i64 0,.int .i64 0,.slc 0 [] true]
theorem wu:DH (.agg [.int .i64 0,.int .i64 0,.int .i64 0,.int .i64 0,.slc 0 [] true])=some LI:=(rfl)
theorem Yyp(s:Sta):DY (some ⟨false,1,LI,false⟩) 5 0 (DP s)=some ⟨false,1,DS s,false⟩:=(rfl)
theorem yd:DY (some ⟨false,1,LI,false⟩) 5 0 (.agg [.int .i64 0,.int .i64 0,.int .i64 0,.int .i64 0,.slc 0 [] true])=some ⟨false,1,LI,false⟩:=(rfl)
theorem vq(lent:Bool):Dy (some ⟨false,1,LI,lent⟩) 5 true 0=some (.agg [.int .i64 0,.int .i64 0,.int .i64 0,.int .i64 0,.slc 0 [] true]):=(rfl)
def KB(d:Der)(n:Int)(r:List D)(e:Int)(s:Sta)(k:Int)(ex:St):St:=
 ⟨false,1,Dr (Et d.code) d.env d.am d.er (JB d.lv),false⟩::⟨false,1,[.int .i64 n],false⟩::⟨false,1,r,false⟩::⟨false,1,[.int .i64 e],false⟩::⟨false,1,[Et d.code],false⟩::⟨false,1,D2 d.env,false⟩::recO k::⟨false,1,DS s,false⟩::ex
noncomputable def MO:Tbl:=Tn [(47,R0)] [(60,S8)] [(114,Rh)]
theorem uL(d:Der)(n:Int)(s:Sta)(r:List D)(e:Int)(E:St)(i:Nat)(hi:¬ (i:Int)=n)(fr:Frame)(I:fr 3=.ptr 1 0)(J:fr 4=.ptr 2 0)(M:fr 5=.ptr 3 0)(m:Nat) :
  Ld (SB.exec GG MO m) (SC.exec GG MO m) fr [25,26] 6 [.int .i64 (i:Int),DP s] (KB d n r e s 0 E)=some (.bool true,KB d n r e s 0 (E++[Hr s])):=by
 refine ck rfl rfl rfl ?_ m;unfold SB KB;simp (disch:=first|omega|decide) only[push_cast,↓reduceIte,CI,JO,He,Iv,Fa,RV];unfold SC;simp (disch:=first|omega|decide) only[push_cast,↓reduceIte,CI,I,bZ,aM,UX,MO,hi];rfl
theorem Yzb(d:Der)(s:Sta)(E:St)(i:Nat)(fr:Frame)(I:fr 3=.ptr 1 0)(J:fr 4=.ptr 2 0)(M:fr 5=.ptr 3 0)(m:Nat) :
  Ld (SB.exec GG MO m) (SC.exec GG MO m) fr [25,26] 6 [.int .i64 (i:Int),DP s] (KB d (i:Int) LI 0 s 0 E)=some (.bool false,KB d (i:Int) (DS s) 0 s 1 (E++[Hr s])):=by
 refine ck rfl rfl rfl ?_ m;unfold SB KB;simp (disch:=first|omega|decide) only[push_cast,↓reduceIte,CI,JO,He,Iv,Fa,RV];unfold SC;simp (disch:=first|omega|decide) only[push_cast,↓reduceIte,CI,I,J,M,bZ,aM,UX,MO,Fa,Hd,Yyp];rfl
def KU(d:Der)(n:Int)(l:List Sta)(i:Nat)(ex:St):St:=match l with
 |[]=>[]
 |s::l=>if(i:Int)=n then KB d n (DS s) 0 s 1 (ex++[Hr s])else match l with
  |[]=>KB d n LI 0 s 0 (ex++[Hr s])
  |s'::l=>KU d n (s'::l) (i+1) (ex++[Hr s])
theorem fY(d:Der)(hv:EA d.env)(n:Int)(fr:Frame)(E:fr 3=.ptr 1 0)(I:fr 4=.ptr 2 0)(J:fr 5=.ptr 3 0)(m:Nat):∀ (l:List Sta) (s:Sta) (i:Nat) (ex:St),
  RunY (Ld (SB.exec GG MO m) (SC.exec GG MO m) fr [25,26] 6) 7 4 5 (s::l) i (KB d n LI 0 s 0 ex) (KU d n (s::l) i ex)
 |l,s,i,ex=>by
  by_cases hi:(i:Int)=n
  ·subst hi;rw[show KU d (i:Int) (s::l) i ex=KB d (i:Int) (DS s) 0 s 1 (ex++[Hr s]) by unfold KU; rw[if_pos rfl]];exact .stop (Yzb d s ex i fr E I J m)
  ·match l with
   |[]=>
    rw[show KU d n [s] i ex=KB d n LI 0 s 0 (ex++[Hr s]) by unfold KU; rw[if_neg hi]];exact .last (uL d n s LI 0 ex i hi fr E I J m) rfl
   |s'::l=>
    rw[show KU d n (s::s'::l) i ex=KU d n (s'::l) (i+1) (ex++[Hr s]) by rw[KU,if_neg hi]];exact .next (uL d n s LI 0 ex i hi fr E I J m) rfl rfl rfl (fY d hv n fr E I J m l s' (i+1) (ex++[Hr s]))
theorem pC(d:Der)(n:Int):∀ (l:List Sta) (s:Sta) (i:Nat) (ex:St),(∃ k s',n=(i:Int)+(k:Nat)∧(s::l)[k]?=some s'∧∃ E,KU d n (s::l) i ex=KB d n (DS s') 0 s' 1 E)∨
  ((n<i∨(i:Int)+((s::l).length:Nat)≤n)∧∃ s' E,KU d n (s::l) i ex=KB d n LI 0 s' 0 E)
 |l,s,i,ex=>by
  by_cases hi:(i:Int)=n
  ·exact .inl ⟨0,s,by omega,rfl,ex++[Hr s],by unfold KU; rw[if_pos hi]⟩
  ·match l with
   |[]=>exact .inr ⟨by simp; omega,s,ex++[Hr s],by unfold KU; rw[if_neg hi]⟩
   |s'::l=>
    rw[show KU d n (s::s'::l) i ex=KU d n (s'::l) (i+1) (ex++[Hr s]) by rw[KU,if_neg hi]];rcases pC d n l s' (i+1) (ex++[Hr s])with⟨k,x,J,I,M⟩ | ⟨J,I⟩
    ·exact .inl ⟨k+1,x,by omega,by simpa using I,M⟩
    ·exact .inr ⟨by simp only[Ah]at J ⊢; omega,I⟩
noncomputable def cI:List D→Option D:=Dk (α:=Der×Int) (fun a=>[FA a.1,.int .i64 a.2]) (fun a=>a.1.code.length≤9223372036854775807∧EA a.1.env) (fun a=>.tup [DP (H2 a.1.code a.1.env a.2).1,.int .i64 (H2 a.1.code a.1.env a.2).2])
theorem yYt(d:Der)(n:Int)(h:d.code.length≤9223372036854775807∧EA d.env):cI [FA d,.int .i64 n]=some (.tup [DP (H2 d.code d.env n).1,.int .i64 (H2 d.code d.env n).2]):=
 D7 (fun⟨a0,a1⟩ ⟨b0,b1⟩ h=>by simp only[Aa,D.int.injEq,true_and,and_true,Ym5]at h; simp[h]) (d,n) h
theorem Yql(d:Der)(n:Int)(h:d.code.length≤9223372036854775807∧EA d.env):@wW GG MO Zv.code (Dc [FA d,.int .i64 n]) [] ⟨Dn Zv.res (.tup [DP (H2 d.code d.env n).1,.int .i64 (H2 d.code d.env n).2])⟩:=by
 obtain⟨hc,hv⟩:=h;have N:=X6 d.code hc;have cs:=nU d.code d.env [⟨false,1,Dr (Et d.code) d.env d.am d.er (JB d.lv),false⟩,⟨false,1,[.int .i64 n],false⟩,⟨false,1,LI,false⟩,⟨false,1,[.int .i64 0],false⟩] hv;have l0:∀ lent,Dy (some ⟨false,1,Dr (Et d.code) d.env d.am d.er (JB d.lv),lent⟩) 1 false 0=some (.slc (nz 3 (d.code.map Da)) (d.code.map Da) false):=fun lent=>Ytl d.env lent (Et d.code) (JB d.lv) d.am d.er;have l1:=fun lent=>Ytk hv lent (Et d.code) (JB d.lv) d.am d.er;rw[show S8 [Et d.code,Ez d.env]=S8 [.slc (nz 3 (d.code.map Da)) (d.code.map Da) false,Ez d.env]from rfl]at cs;unfold Zv
 by_cases E:(FE d.code).2=0
 ·obtain⟨Dm,l,hD,U,O,Y,hg⟩:=cM (v:=d.env) E;obtain⟨J,_⟩:=ON E;simp (disch:=first|omega|decide) only[push_cast,↓reduceIte,CI,CJ,MO,wo,wu,N,E,l0,l1,cs]
  have M:∀ x,H2 d.code d.env n=x↔(if n<0 then(FU,1)else match(GF ((d.code.length:Int)+1)::l)[n.toNat]? with
   |some s=>(s,(0:Int))
   |none=>(FU,1))=x:=fun x=>by unfold H2; rw[if_pos E,U]
  rcases pC d n l (GF ((d.code.length:Int)+1)) 0 []with⟨k,s',hn,hk,I,he⟩ | ⟨hn,s',I,he⟩
  ·refine fE (e:=.ret) (st':=KB d n (DS s') 0 s' 1 I) (d:=.tup []) (by simp only[push_cast,↓reduceIte] <;> rfl) (by decide) (by rfl) (fun m=>?_) rfl ?_
   ·refine gp ⟨4,5,d.code,d.env,l,false,false,rfl,rfl,rfl,J,hv,by omega,O,rfl,?_⟩;rw[← he];exact fY d hv n _ rfl rfl rfl m l _ 0 []
   ·rw[(M (s',0)).2 (by rw[if_neg (by omega),show n.toNat=k by omega,hk])];unfold KB;simp (disch:=first|omega|decide) only[push_cast,↓reduceIte,CI,CJ,Hd,Il]
  ·refine fE (e:=.next) (st':=KB d n LI 0 s' 0 I) (d:=.tup []) (by simp only[push_cast,↓reduceIte] <;> rfl) (by decide) (by rfl) (fun m=>?_) rfl ?_
   ·refine gp ⟨4,5,d.code,d.env,l,false,false,rfl,rfl,rfl,J,hv,by omega,O,rfl,?_⟩;rw[← he];exact fY d hv n _ rfl rfl rfl m l _ 0 []
   ·have V:H2 d.code d.env n=(FU,1):=(M _).2 (by
     split
     ·rfl
     ·rw[Bu (by omega)])
    rw[V];unfold KB;simp (disch:=first|omega|decide) only[push_cast,↓reduceIte,CI,CJ,U9,yd,vq];rfl
 ·rw[show H2 d.code d.env n=(FU,(FE d.code).2)from if_neg E];simp (disch:=first|omega|decide) only[push_cast,↓reduceIte,CI,CJ,MO,wo,wu,N,E,l0,U9,yd,vq];rfl
theorem Yv6:Contract Tryz.prog GG 39 cI:=
 Ed (T:=MO) yBs (wa (all_cons ax all_nil) (all_cons vP all_nil) (all_cons vR all_nil)) (fun a h=>Yql a.1 a.2 h)
theorem D5(S l:St)(k:Nat):(S++l)[S.length+k]?=l[k]?:=by
 rw[AK (by omega)]; congr 1; omega
theorem E7(S l:St):(S++l)[S.length]?=l[0]?:=D5 S l 0
theorem D8(S l:St)(k:Nat)(x:PI.Obj):(S++l).set (S.length+k) x=S++l.set k x:=by
 rw[Cf _ _ (by omega)]; congr 2; omega
theorem E9(S l:St)(x:PI.Obj):(S++l).set S.length x=S++l.set 0 x:=D8 S l 0 x
theorem M3(fr:Frame)(st:St)(t n:Nat)(ag:Bool)(l:List PRes):D3 ⟨fr,st⟩ (.cell t n ag::l)=(Ft st n ag (fr t)).bind fun d=>(D3 ⟨fr,st⟩ l).map (d::·):=by
 simp only[D3];cases Ft st n ag (fr t) <;> cases D3 ⟨fr,st⟩ l <;> rfl
def Ir(p:Dig×Dig):D:=.agg (C8 p.1++C8 p.2)
theorem fS{a b:Dig×Dig}:Ir a=Ir b↔a=b:=by
 refine⟨fun h=>?_,fun h=>by rw[h]⟩;obtain⟨a1,J⟩:=a;obtain⟨b1,M⟩:=b;simp only[Ir,D.agg.injEq]at h;obtain⟨E,I⟩:=A5 h (by rw[DX,DX]);rw[L5.1 E,L5.1 I]
theorem Yvv(p:Dig×Dig):(C8 p.1++C8 p.2).all D.isCell=true:=by
 rw[Bm,Lh (fun _=>rfl),Lh (fun _=>rfl)]; rfl
theorem Yfv(p:Dig×Dig):(C8 p.1++C8 p.2).length=64:=by simp[DX]
theorem kQ(p:Dig×Dig):DH (Ir p)=some (C8 p.1++C8 p.2):=by
 rw[show DH (Ir p)=if(C8 p.1++C8 p.2).all D.isCell then some (C8 p.1++C8 p.2)else none from rfl,if_pos (Yvv p)]
theorem kz(lent:Bool)(p:Dig×Dig):Dy (some ⟨false,1,C8 p.1++C8 p.2,lent⟩) 64 true 0=some (Ir p):=LF 1 lent _ 64 (Yfv p)
theorem j3(p:Dig×Dig):Qb 2 32 true (Ir p) (.int .i64 0)=some (C9 p.1):=
 om (A:=[]) (B:=C8 p.1) (C:=C8 p.2) rfl rfl (DX _)
theorem j2(p:Dig×Dig):Qb 2 32 true (Ir p) (.int .i64 1)=some (C9 p.2):=
 om (A:=C8 p.1) (B:=C8 p.2) (C:=[]) (by rw[Ad]) (DX _) (DX _)
theorem nZ(p:Dig×Dig):IW (Ir p)=true:=by
 simp only[Ir,IW,Bm];rw[show(C8 p.1).all EJ=true from QP _,show(C8 p.2).all EJ=true from QP _]; rfl
theorem ku(p:Dig×Dig):hk (Ir p)=[]:=TK (nZ p)
theorem lz(n:Nat)(σ:List Nat)(p:Dig×Dig):EC n σ (Ir p)=Ir p:=QI n σ (nZ p)
def Em(p:Int×Dig):D:=.agg (.int .i64 p.1::C8 p.2)
def Rd(cl:Dig×Dig)(d:Dig):Int:=if cl.1=d then 0 else if cl.2=d then 1 else -1
def HJ(cl:Dig×Dig)(r:Dig×Int):Int×Dig:=if r.2=0 then(Rd cl r.1,r.1)else(0,Du)
def Fx(cl:Dig×Dig):PI.Obj:=⟨false,1,C8 cl.1++C8 cl.2,false⟩
def Fi(p:Int×Dig):PI.Obj:=⟨false,1,.int .i64 p.1::C8 p.2,false⟩
def u9(f:Nat)(sp:List D→St→Option (D×St))(ds:List D)(st:St)(r:D×St):Prop:=∃ (cl:Dig×Dig) (caps:List D) (d:Dig) (e:Int),StOK st∧ds=[Ir cl,.clo f caps]∧
 sp caps (st++[Fx cl,Fi (0,Du)])=some (.tup [C9 d,.int .i64 e],st++[Fx cl,Fi (0,Du)])∧r=(.tup [Em (HJ cl (d,e)),.int .i64 e],st)
theorem re(f:Nat)(sp:List D→St→Option (D×St)):Ic (u9 f sp):=by
 rintro ds st r O ⟨cl,J,d,e,_,rfl,M,rfl⟩ ⟨N,I,U,V,_,h,E,rfl⟩;simp only[Aa,D.clo.injEq,and_true,true_and,fS]at h;obtain⟨rfl,rfl⟩:=h;rw[M]at E;simp only[Db,Dv,D.tup.injEq,Aa,KZ,D.int.injEq,true_and,and_true]at E;obtain⟨rfl,rfl⟩:=E;rfl
noncomputable def Sh(f:Nat)(sp:List D→St→Option (D×St)):List D→St→Option (D×St):=Fv (u9 f sp)
theorem Uf{S:St}(h:StOK S)(l:St)(hl:∀ o∈l,o.els.all EJ=true):StOK (S++l):=
 h.app _ fun o E _ x I=>QI _ _ (Zh (Ak.1 (hl o E) x I))
theorem MJ(d:Dig):(C8 d).all EJ=true:=QP d
theorem Sr(E:Dig×Dig):(Fx E).els.all EJ=true:=by
 simp only[Fx,Bm,MJ]; rfl
theorem Uk(p:Int×Dig):(Fi p).els.all EJ=true:=by
 simp only[Fi,AZ,MJ]; rfl
theorem Nc{S l:St}(h:StOK S):cut S.length (S++l)=S:=vQ h rfl
theorem Yk6(n:Nat)(a:Int)(d:Dig)(e:Int):H6 n (.tup [.agg (.int .i64 a::C8 d),.int .i64 e])=.tup [.agg (.int .i64 a::C8 d),.int .i64 e]:=by
 have h:Ht n (.agg (.int .i64 a::C8 d))=.agg (.int .i64 a::C8 d):=by
  rw[← fW]; exact QI n [] (d:=.agg (.int .i64 a::C8 d)) (by simp only[IW,AZ,MJ]; rfl)
 simp only[H6,Aw,Bk,h];rfl
theorem Ta(p:Int×Dig)(a:Int)(d:Dig):DY (some (Fi p)) 33 0 (.agg (.int .i64 a::C8 d))=some (Fi (a,d)):=
 L1 1 _ _ 33 (by simp[DX]) (by simp[DX]) (by rw[AZ,Lh (fun _=>rfl)]; rfl)
theorem Te(p:Int×Dig):Dy (some (Fi p)) 33 true 0=some (Em p):=LF 1 false _ 33 (by simp[DX])
theorem YAd(E:Dig×Dig):Dy (some (Fx E)) 64 true 0=some (Ir E):=kz false E
theorem gL(a:Int)(d:Dig):DO (.int .i64 0::C8 Du) [(0,1,.int .i64 a),(1,32,C9 d)]=some (.int .i64 a::C8 d):=by
 refine(I1 (cs:=.int .i64 0::C8 Du) (cs':=.int .i64 a::C8 Du) (A:=[]) (B:=[.int .i64 0]) (xs:=[.int .i64 a]) rfl rfl rfl rfl rfl rfl rfl).trans ?_;refine(I1 (cs:=.int .i64 a::C8 Du) (cs':=.int .i64 a::C8 d) (A:=[.int .i64 a]) (B:=C8 Du) (C:=[]) (xs:=C8 d) (by simp) (by simp) rfl (DX _) rfl (DX _) (Lh (fun _=>rfl) d)).trans ?_;rfl
theorem bJ(n:Nat)(p:Int×Dig)(e:Int):H6 n (.tup [Em p,.int .i64 e])=.tup [Em p,.int .i64 e]:=Yk6 n p.1 p.2 e
set_option maxHeartbeats 4000000 in
set_option maxRecDepth 20000 in
theorem nX(f:Nat)(hf:f<5000000)(sp:List D→St→Option (D×St))(hc:IContract Tryz.prog GG f sp):IContract Tryz.prog GG 45 (Sh f sp):=by
 refine Ze (T:=tb [] [(f,sp)]) yI (DI all_nil (all_cons hc all_nil)) ?_;intro ds st r hr;obtain⟨cl,I,d,e,E,rfl,h2,rfl⟩:=Je hr;unfold mn;have hT:(tb [] [(f,sp)]).i f=some sp:=by rw[VQ,rk,if_pos rfl]
 have Y:JW (tb [] [(f,sp)]) (.clo f I)=some (sp,[],I):=by rw[wQ _ _ _ hf,hT]; rfl
 have hz:(.int .i64 0::C8 Du:List D)=(.int .i64 0::C8 Du:List D):=rfl;simp (disch:=first|omega|decide) only[push_cast,↓reduceIte,CI,CL,kQ,Y,Aj,Ae,Ai];rw[show st++[⟨false,1,C8 cl.1++C8 cl.2,false⟩,⟨false,1,.int .i64 0::C8 Du,false⟩]=st++[Fx cl,Fi (0,Du)]from rfl,h2];simp (disch:=first|omega|decide) only[push_cast,↓reduceIte,CI,CJ,CL,Aj,Ae,Ai,Ab,Ah,Aq,An,CJ,D5,D8]
 by_cases he:e=0
 ·subst he
  have aa:StOK (st++[Fx cl,Fi (0,Du),⟨false,1,C8 d,false⟩]):=Uf E _ (fun o ho=>by
   simp only[Ax,AE,or_false]at ho;rcases ho with rfl | rfl | rfl
   ·exact Sr cl
   ·exact Uk _
   ·exact MJ d)
  have J:(st++[Fx cl,Fi (0,Du),⟨false,1,C8 d,false⟩]).length=st.length+3:=by simp
  have O:st.length+1<st.length+3:=by omega
  have U:st.length+2<st.length+3:=by omega
  have hR:∀ (fr:Frame) (l:St),(Nb fr [4,6,19,20]).all (fun k=>decide (k<st.length+3))=true→restrict [4,6,19,20] (st++[Fx cl,Fi (0,Du),⟨false,1,C8 d,false⟩]).length ⟨fr,st++Fx cl::Fi (0,Du)::⟨false,1,C8 d,false⟩::l⟩=⟨F3 (J1 fr (st.length+3) [] [4,6,19,20]),st++[Fx cl,Fi (0,Du),⟨false,1,C8 d,false⟩]⟩:=fun fr l h=>by
   have:=mi (keep:=[4,6,19,20]) (fr:=fr) (l:=l) aa J.symm (fun k hk=>of_decide_eq_true (Ak.1 h k hk));rw[Aj]at this;rw[J];exact this
  have M:=hR;simp only[J]at M;simp (disch:=first|omega|decide) only[push_cast,↓reduceIte,CI,CL,E7,YAd]
  refine F9 (fun i:Nat=>[(4,.ptr (st.length+1) 0),(6,.ptr (st.length+2) 0),(19,Ir cl),(20,.int .i64 (i:Int))]) (fun _=>st++[Fx cl,Fi (0,Du),⟨false,1,C8 d,false⟩])
   (fun i=>i≤2∧(0<i→¬ cl.1=d)∧(1<i→¬ cl.2=d)) (fun i=>2 - i) 0 ?_ ⟨by omega,fun h=>absurd h (by omega),fun h=>absurd h (by omega)⟩ ?_
  ·simp (disch:=first | omega | decide | (simp only[push_cast,↓E3,↓reduceIte,CI,CP,CN,CJ,Nat.reduceSub,CO,CZ,CT,Int.reduceLE,CU,CL,CY,C0,C4,C3,↓CM,ku,O,U,decide_true]; done)) only[push_cast,↓reduceIte,CI,↓CM,↓hR,lz,Qq]
  rintro i ⟨hi,N,V⟩;unfold mX
  match i,hi,N,V with
  |0,_,_,_=>
   have c0:=j3 cl
   by_cases q:cl.1=d
   ·rw[show HJ cl (d,0)=(0,d) by unfold HJ Rd; rw[if_pos rfl,if_pos q]];simp (disch:=first|omega|decide) only[push_cast,↓reduceIte,CI,CJ,CT,CL,↓CM,Aj,Ae,Ai,Ab,Ah,Aq,An,CJ,D5,D8,c0,q,gL,Ta,Te,bJ,M3,Nc E]
   ·simp (disch:=first | omega | decide | (simp only[push_cast,↓E3,↓reduceIte,CI,CP,CN,CJ,Nat.reduceSub,CO,CZ,CT,Int.reduceLE,CU,CL,CY,C0,C4,C3,↓CM,ku,O,U,decide_true]; done)) only[push_cast,↓reduceIte,CI,CJ,CT,C0,↓CM,↓M,lz,Qq,Aj,Ae,Ai,Ab,Ah,Aq,An,CJ,D5,D8,c0,q,DN];refine E2 1 (by exact⟨by omega,fun _=>q,fun h=>absurd h (by omega)⟩) (by omega) ?_;simp (disch:=first|omega|decide) only[push_cast,↓CM] <;> rfl
  |1,_,N,_=>
   have c1:=j2 cl;have q0:=N (by omega)
   by_cases q:cl.2=d
   ·rw[show HJ cl (d,0)=(1,d) by unfold HJ Rd; rw[if_pos rfl,if_neg q0,if_pos q]];simp (disch:=first|omega|decide) only[push_cast,↓reduceIte,CI,CJ,CT,CL,↓CM,Aj,Ae,Ai,Ab,Ah,Aq,An,CJ,D5,D8,c1,q,gL,Ta,Te,bJ,M3,Nc E]
   ·simp (disch:=first | omega | decide | (simp only[push_cast,↓E3,↓reduceIte,CI,CP,CN,CJ,Nat.reduceSub,CO,CZ,CT,Int.reduceLE,CU,CL,CY,C0,C4,C3,↓CM,ku,O,U,decide_true]; done)) only[push_cast,↓reduceIte,CI,CJ,CT,C0,↓CM,↓M,lz,Qq,Aj,Ae,Ai,Ab,Ah,Aq,An,CJ,D5,D8,c1,q,DN];refine E2 2 (by exact⟨by omega,fun _=>q0,fun _=>q⟩) (by omega) ?_;simp (disch:=first|omega|decide) only[push_cast,↓CM] <;> rfl
  |2,_,N,V=>
   rw[show HJ cl (d,0)=(-1,d) by unfold HJ Rd; rw[if_pos rfl,if_neg (N (by omega)),if_neg (V (by omega))]];simp (disch:=first|omega|decide) only[push_cast,↓reduceIte,CI,CJ,CT,CL,↓CM,Ab,Ah,Aq,An,CJ,D5,D8,gL,Ta,Te,bJ,M3,Nc E]
 ·have hv:HJ cl (d,e)=(0,Du):=if_neg he;rw[hv];simp (disch:=first|omega|decide) only[push_cast,↓reduceIte,CI,CL,he,D5,D8,Nc E,Ta,Te,bJ,U8,M3]
theorem nW(c:List Ins):([.slc (nz 3 (c.map Da)) (c.map Da) false]:List D).all EJ=true:=by
 simp[EJ,J3]
def HV(c:List Ins)(v:Int×List Int):Dig×Int:=if c.length=0 then(DU,0)else if(FE c).2≠0 then(Du,(FE c).2)else(Es c v (GF (c.length+1)),0)
def uD(ds:List D)(st:St)(r:D×St):Prop:=∃ (kc kv:Nat) (c:List Ins) (v:Int×List Int) (lc lv:Bool),StOK st∧ds=[.ptr kc 0,.ptr kv 0]∧st[kc]?=some ⟨false,1,[Et c],lc⟩∧st[kv]?=some ⟨false,1,D2 v,lv⟩∧c.length≤9223372036854775807∧EA v∧
 r=(.tup [C9 (HV c v).1,.int .i64 (HV c v).2],st)
theorem YBp:Ic uD:=by
 rintro ds st r Y ⟨kc,kv,c,v,lc,lv,_,rfl,J,M,_,_,rfl⟩ ⟨N,O,c',v',U,V,_,h,E,I,_,_,rfl⟩;simp only[Aa,D.ptr.injEq,and_true]at h;obtain⟨rfl,rfl⟩:=h;rw[J]at E;rw[M]at I;simp only[Db,Obj.mk.injEq,Aa,and_true,true_and,Vd]at E I;obtain⟨rfl,_⟩:=E;obtain rfl:v=v':=Kb.1 (congrArg D.agg I.1);rfl
noncomputable def dF:List D→St→Option (D×St):=Fv uD
theorem Qw(n:Nat)(d:Dig)(e:Int):H6 n (.tup [C9 d,.int .i64 e])=.tup [C9 d,.int .i64 e]:=by
 have h:Ht n (C9 d)=C9 d:=by rw[← fW]; exact pe n [] d
 simp only[H6,Aw,Bk,h];rfl
theorem Q9(a d:Dig):DY (some ⟨false,1,C8 a,false⟩) 32 0 (C9 d)=some ⟨false,1,C8 d,false⟩:=L1 1 _ _ 32 (DX _) (DX _) (Lh (fun _=>rfl) d)
set_option maxHeartbeats 4000000 in
set_option maxRecDepth 20000 in
theorem Xh:IContract Tryz.prog GG 46 dF:=by
 refine Ze (T:=tb [(20,PD),(47,R0),(48,cH),(49,bG)] []) yW (DI (all_cons S2 (all_cons ax (all_cons wH (all_cons vM all_nil)))) all_nil) ?_;intro ds st r Y;obtain⟨kc,kv,c,v,lc,lv,I,rfl,N,O,hc,hv,rfl⟩:=Je Y
 have DB:∀ l:St,(st++l)[kc]?=some ⟨false,1,[.slc (nz 3 (c.map Da)) (c.map Da) false],lc⟩:=fun l=>by
  rw[Au (Ac.1 N).1]; exact N
 have U:∀ l:St,(st++l)[kv]?=some ⟨false,1,D2 v,lv⟩:=fun l=>by
  rw[Au (Ac.1 O).1]; exact O
 have V:=X6 c hc;have cp:=QD;unfold mN
 by_cases M:c.length=0
 ·rw[show HV c v=(DU,0)from if_pos M];have E:(c.length:Int)=0:=by omega
  simp (disch:=first|omega|decide) only[push_cast,↓reduceIte,CI,DB,E,cp,E7,E9,Qw,Nc I,M3,Q9]
 by_cases J:(FE c).2=0
 ·rw[show HV c v=(Es c v (GF (c.length+1)),0) by unfold HV; rw[if_neg M,if_neg (by simp[J])]];have E:¬ (c.length:Int)=0:=by omega
  obtain⟨ae,_⟩:=ON J;have cs:=ss ((c.length:Int)+1);rw[show Pv ((c.length:Int)+1)=0 from if_neg (by omega)]at cs
  have cd:=iV c v (GF ((c.length:Int)+1)) ⟨by omega,hv,by
   rw[show GF ((c.length:Int)+1)={FU with fuel:=(c.length:Int)+1} from if_neg (by omega)]; exact Bh _⟩
  simp (disch:=first|omega|decide) only[push_cast,↓reduceIte,CI,DB,U,E,J,V,cs,cd,DN,He,Iv,Hd,FI hv,ED,Il,Aj,Ae,Ai,Ab,Ah,Aq,An,D5,D8,E7,E9,Qw,Nc I,M3,Q9]
 ·rw[show HV c v=(Du,(FE c).2) by unfold HV; rw[if_neg M,if_pos J]];have E:¬ (c.length:Int)=0:=by omega
  simp (disch:=first|omega|decide) only[push_cast,↓reduceIte,CI,DB,E,J,V,Ai,E7,E9,Qw,Nc I,M3,Q9,U8]
noncomputable def Yh:List D→Option D:=Dk (α:=List Ins×(Int×List Int)×(Dig×Dig)) (fun a=>[.slc (nz 3 (a.1.map Da)) (a.1.map Da) false,Ez a.2.1,Ir a.2.2]) (fun a=>a.1.length≤9223372036854775807∧EA a.2.1) (fun a=>.tup [Em (HJ a.2.2 (HV a.1 a.2.1)),.int .i64 (HV a.1 a.2.1).2])
theorem yRf(c:List Ins)(v:Int×List Int)(E:Dig×Dig)(h:c.length≤9223372036854775807∧EA v):Yh [.slc (nz 3 (c.map Da)) (c.map Da) false,Ez v,Ir E]=some (.tup [Em (HJ E (HV c v)),.int .i64 (HV c v).2]):=
 D7 (fun⟨a0,a1,I⟩ ⟨b0,b1,J⟩ h=>by simp only[Aa,D.slc.injEq,and_true,Kw,Kb,fS]at h; simp[h]) (c,v,E) h
set_option maxHeartbeats 4000000 in
set_option maxRecDepth 20000 in
theorem Yil(c:List Ins)(v:Int×List Int)(E:Dig×Dig)(h:c.length≤9223372036854775807∧EA v):@wW GG (tb [] [(45,Sh 46 dF)]) ZE.code (Dc [.slc (nz 3 (c.map Da)) (c.map Da) false,Ez v,Ir E]) [] ⟨Dn ZE.res (.tup [Em (HJ E (HV c v)),.int .i64 (HV c v).2])⟩:=by
 obtain⟨hc,hv⟩:=h;unfold ZE;have O:(C8 E.1++C8 E.2).all EJ=true:=Sr E
 have J:StOK [⟨false,1,[.slc (nz 3 (c.map Da)) (c.map Da) false],false⟩,⟨false,1,D2 v,false⟩,Fx E,Fi (0,Du)]:=by
  refine Uf (S:=[]) (fun o I=>by cases I) _ (fun o I=>?_);simp only[Ax,AE,or_false]at I;rcases I with rfl | rfl | rfl | rfl
  ·exact nW c
  ·exact Sk v
  ·exact Sr E
  ·exact Uk _
 have M:=Uf J [Fx E,Fi (0,Du)] (fun o I=>by
  simp only[Ax,AE,or_false]at I;rcases I with rfl | rfl
  ·exact Sr E
  ·exact Uk _)
 have hj:Sh 46 dF [Ir E,.clo 46 [.ptr 0 0,.ptr 1 0]] [⟨false,1,[.slc (nz 3 (c.map Da)) (c.map Da) false],false⟩,⟨false,1,D2 v,false⟩,Fx E,Fi (0,Du)]=some (.tup [Em (HJ E (HV c v)),.int .i64 (HV c v).2],[⟨false,1,[.slc (nz 3 (c.map Da)) (c.map Da) false],false⟩,⟨false,1,D2 v,false⟩,Fx E,Fi (0,Du)]):=
  L0 (re _ _) ⟨E,[.ptr 0 0,.ptr 1 0],(HV c v).1,(HV c v).2,J,rfl,L0 YBp ⟨0,1,c,v,false,false,M,rfl,rfl,rfl,hc,hv,rfl⟩,rfl⟩
 have N:=Ta (0,Du);have lv:=Te;simp only[Fx,Fi,Em]at hj N lv;simp (disch:=first|omega|decide) only[push_cast,↓reduceIte,CI,CJ,E8,kQ,kz,hj,Em,N,lv]
theorem Yn4:Contract Tryz.prog GG 14 Yh:=
 Ed (T:=tb [] [(45,Sh 46 dF)]) yH (DI all_nil (all_cons (nX _ (by decide) _ Xh) all_nil)) (fun a h=>Yil a.1 a.2.1 a.2.2 h)
theorem Yw3(v:Int×List Int)(b:Int)(s:Sta)(x:Ins):(FO v b s x).stack.length≤s.stack.length+1:=by
 have h:∀ o:Out,(FL (Ds s) o).stack.length≤s.stack.length+1:=by
  intro o
  cases o with
  |err e=>exact Nat.le_succ _
  |set p t c=>exact Nat.le_succ _
  |pop k push pc=>
   show(s.stack.take (s.stack.length - k)++push.toList).length≤_
   rw[Ab,AL];have:push.toList.length≤1:=by cases push <;> simp
   omega
 unfold FO
 split
 ·exact Nat.le_succ _
 ·exact h _
theorem yZ9(c:List Ins)(v:Int×List Int)(o:Opn):(MT c v o).top.length≤o.top.length+1:=by
 unfold MT
 split
 ·exact Yw3 v o.depth (I4 o) _
 ·simp[N4]
def F7(c:List Ins)(v:Int×List Int)(b:Dig)(o:Opn):Dig×Int:=if b=DU then(b,0)else if FV c v o≠b then(Du,390)else if o.status≠0 then(DU,0)else(FV c v (MT c v o),MS c o)
def ui(ds:List D)(st:St)(r:D×St):Prop:=∃ (kb kc kv ko:Nat) (b:Dig) (c:List Ins) (v:Int×List Int) (o:Opn) (lb lc lv lo:Bool),StOK st∧ds=[.ptr kb 0,.ptr kc 0,.ptr kv 0,.ptr ko 0]∧st[kb]?=some ⟨false,1,C8 b,lb⟩∧st[kc]?=some ⟨false,1,[Et c],lc⟩∧st[kv]?=some ⟨false,1,D2 v,lv⟩∧st[ko]?=some ⟨false,1,EW o,lo⟩∧c.length≤4294967296∧EA v∧o.top.length≤4294967295∧
 r=(.tup [C9 (F7 c v b o).1,.int .i64 (F7 c v b o).2],st)
theorem Yzd:Ic ui:=by
 rintro ds st r r' ⟨kb,kc,kv,ko,b,c,v,o,lb,lc,lv,lo,_,rfl,N,O,U,V,_,_,_,rfl⟩ ⟨Y,aa,ab,ac,b',c',v',o',ad,ae,af,ah,_,h,E,I,J,M,_,_,_,rfl⟩;simp only[Aa,D.ptr.injEq,and_true]at h;obtain⟨rfl,rfl,rfl,rfl⟩:=h;rw[N]at E;rw[O]at I;rw[U]at J;rw[V]at M;simp only[Db,Obj.mk.injEq,Aa,and_true,true_and,Vd,L5]at E I J M;obtain⟨rfl,_⟩:=E;obtain⟨rfl,_⟩:=I;obtain rfl:v=v':=Kb.1 (congrArg D.agg J.1);obtain rfl:o=o':=Se.1 (congrArg D.agg M.1);rfl
noncomputable def kN:List D→St→Option (D×St):=Fv ui
theorem dq(lent:Bool)(d:Dig):Dy (some ⟨false,1,C8 d,lent⟩) 32 true 0=some (C9 d):=LF 1 lent _ 32 (DX d)
theorem FF(lent:Bool)(o:Opn):Dy (some ⟨false,1,EW o,lent⟩) 38 true 0=some (D0 o):=by rw[D0,J8]; exact SJ ..
theorem K0(lent:Bool)(o:Opn):Dy (some ⟨false,1,EW o,lent⟩) 1 false 2=some (.int .i64 o.status):=by rw[J8]; exact lg ..
theorem G4(o:Opn):DY (some ⟨false,1,EP 0 0 0 0 (.slc 0 [] true) 0 Du,false⟩) 38 0 (D0 o)=some ⟨false,1,EW o,false⟩:=by rw[D0,J8]; exact U1 ..
set_option maxHeartbeats 8000000 in
set_option maxRecDepth 20000 in
theorem Xg:IContract Tryz.prog GG 54 kN:=by
 refine Ze (T:=tb [(20,PD),(40,Qr),(55,iR)] []) yO (DI (all_cons S2 (all_cons kU (all_cons Yv5 all_nil))) all_nil) ?_;intro ds st r hr;obtain⟨kb,kc,kv,ko,b,c,v,o,lb,lc,lv,lo,I,rfl,Y,h1,h2,h3,hc,hv,a3,rfl⟩:=Je hr
 have Gr:∀ l:St,(st++l)[kb]?=some ⟨false,1,C8 b,lb⟩:=fun l=>by
  rw[Au (Ac.1 Y).1]; exact Y
 have DB:∀ l:St,(st++l)[kc]?=some ⟨false,1,[.slc (nz 3 (c.map Da)) (c.map Da) false],lc⟩:=fun l=>by
  rw[Au (Ac.1 h1).1]; exact h1
 have M:∀ l:St,(st++l)[kv]?=some ⟨false,1,D2 v,lv⟩:=fun l=>by
  rw[Au (Ac.1 h2).1]; exact h2
 have N:∀ l:St,(st++l)[ko]?=some ⟨false,1,EW o,lo⟩:=fun l=>by
  rw[Au (Ac.1 h3).1]; exact h3
 have O:=QD;have V:=X7 c v o ⟨hc,hv,by omega⟩;have co:=yYs c v o ⟨hc,hv⟩;have a4:=yZ9 c v o;have ad:=X7 c v (MT c v o) ⟨hc,hv,by omega⟩;unfold mE
 by_cases E:b=DU
 ·rw[show F7 c v b o=(b,0)from if_pos E];simp (disch:=first|omega|decide) only[push_cast,↓reduceIte,CI,Gr,dq,E,O,E7,E9,Qw,Nc I,M3,Q9]
 by_cases J:FV c v o=b
 ·by_cases U:o.status=0
  ·rw[show F7 c v b o=(FV c v (MT c v o),MS c o) by unfold F7; rw[if_neg E,if_neg (by simp[J]),if_neg (by simp[U])]];simp (disch:=first|omega|decide) only[push_cast,↓reduceIte,CI,Gr,DB,M,N,dq,E,J,U,O,V,ad,co,FI hv,ED,Fu,Fl,Kf,FF,K0,G4,Qo,Gb,Aj,Ae,Ai,Ab,Ah,Aq,An,D5,D8,E7,E9,Qw,Nc I,M3,Q9]
  ·rw[show F7 c v b o=(DU,0) by unfold F7; rw[if_neg E,if_neg (by simp[J]),if_pos U]];simp (disch:=first|omega|decide) only[push_cast,↓reduceIte,CI,Gr,DB,M,N,dq,E,J,U,O,V,FI hv,ED,Fl,FF,K0,An,E7,E9,Qw,Nc I,M3,Q9]
 ·rw[show F7 c v b o=(Du,390) by unfold F7; rw[if_neg E,if_pos J]];simp (disch:=first|omega|decide) only[push_cast,↓reduceIte,CI,Gr,DB,M,N,dq,E,J,O,V,FI hv,ED,Fl,FF,E7,E9,Qw,Nc I,M3,Q9,U8]
noncomputable def TL:List D→Option D:=Dk (α:=List Ins×(Int×List Int)×Dig×(Dig×Dig)×Opn) (fun a=>[.slc (nz 3 (a.1.map Da)) (a.1.map Da) false,Ez a.2.1,C9 a.2.2.1,Ir a.2.2.2.1,D0 a.2.2.2.2]) (fun a=>a.1.length≤4294967296∧EA a.2.1∧a.2.2.2.2.top.length≤4294967295) (fun a=>.tup [Em (HJ a.2.2.2.1 (F7 a.1 a.2.1 a.2.2.1 a.2.2.2.2)),.int .i64 (F7 a.1 a.2.1 a.2.2.1 a.2.2.2.2).2])
theorem sU(c:List Ins)(v:Int×List Int)(b:Dig)(E:Dig×Dig)(o:Opn)(h:c.length≤4294967296∧EA v∧o.top.length≤4294967295):TL [.slc (nz 3 (c.map Da)) (c.map Da) false,Ez v,C9 b,Ir E,D0 o]=some (.tup [Em (HJ E (F7 c v b o)),.int .i64 (F7 c v b o).2]):=
 D7 (fun⟨a0,a1,I,J,M⟩ ⟨b0,b1,N,O,U⟩ h=>by simp only[Aa,D.slc.injEq,KZ,and_true,Kw,Se,Kb,fS]at h; simp[h]) (c,v,b,E,o) h
noncomputable def Rm:Tbl:=tb [] [(45,Sh 54 kN)]
set_option maxHeartbeats 8000000 in
set_option maxRecDepth 20000 in
theorem Yq8(c:List Ins)(v:Int×List Int)(b:Dig)(E:Dig×Dig)(o:Opn)(h:c.length≤4294967296∧EA v∧o.top.length≤4294967295):@wW GG Rm Zr.code (Dc [.slc (nz 3 (c.map Da)) (c.map Da) false,Ez v,C9 b,Ir E,D0 o]) [] ⟨Dn Zr.res (.tup [Em (HJ E (F7 c v b o)),.int .i64 (F7 c v b o).2])⟩:=by
 obtain⟨hc,hv,N⟩:=h;unfold Zr
 have O:(EW o).all EJ=true:=by
  rw[J8];simp only[EP,AZ,MJ];simp[EJ,EB,J3]
 have J:StOK [⟨false,1,[.slc (nz 3 (c.map Da)) (c.map Da) false],false⟩,⟨false,1,D2 v,false⟩,⟨false,1,C8 b,false⟩,Fx E,⟨false,1,EW o,false⟩,Fi (0,Du)]:=by
  refine Uf (S:=[]) (fun o I=>by cases I) _ (fun x I=>?_);simp only[Ax,AE,or_false]at I;rcases I with rfl | rfl | rfl | rfl | rfl | rfl
  ·exact nW c
  ·exact Sk v
  ·exact MJ b
  ·exact Sr E
  ·exact O
  ·exact Uk _
 have M:=Uf J [Fx E,Fi (0,Du)] (fun o I=>by
  simp only[Ax,AE,or_false]at I;rcases I with rfl | rfl
  ·exact Sr E
  ·exact Uk _)
 have hj:Sh 54 kN [Ir E,.clo 54 [.ptr 2 0,.ptr 0 0,.ptr 1 0,.ptr 4 0]] [⟨false,1,[.slc (nz 3 (c.map Da)) (c.map Da) false],false⟩,⟨false,1,D2 v,false⟩,⟨false,1,C8 b,false⟩,Fx E,⟨false,1,EW o,false⟩,Fi (0,Du)]=some (.tup [Em (HJ E (F7 c v b o)),.int .i64 (F7 c v b o).2],[⟨false,1,[.slc (nz 3 (c.map Da)) (c.map Da) false],false⟩,⟨false,1,D2 v,false⟩,⟨false,1,C8 b,false⟩,Fx E,⟨false,1,EW o,false⟩,Fi (0,Du)]):=
  L0 (re _ _) ⟨E,[.ptr 2 0,.ptr 0 0,.ptr 1 0,.ptr 4 0],(F7 c v b o).1,(F7 c v b o).2,J,rfl,L0 Yzd ⟨2,0,1,4,b,c,v,o,false,false,false,false,M,rfl,rfl,rfl,rfl,rfl,hc,hv,N,rfl⟩,rfl⟩
 have U:=Ta (0,Du);have lv:=Te;simp only[Fx,Fi,Em]at hj U lv;simp (disch:=first|omega|decide) only[push_cast,↓reduceIte,CI,CJ,Rm,E8,kQ,Hp,kz,hj,Em,U,lv]
theorem Ywi:Contract Tryz.prog GG 16 TL:=
 Ed (T:=Rm) yBx (DI all_nil (all_cons (nX _ (by decide) _ Xg) all_nil)) (fun a h=>Yq8 a.1 a.2.1 a.2.2.1 a.2.2.2.1 a.2.2.2.2 h)
noncomputable def Yjb:List D→Option D:=Dk (α:=Int×Dig×List Dig) (fun a=>[.int .i64 a.1,C9 a.2.1,.slc (nz 32 (a.2.2.map C9)) (a.2.2.map C9) false]) (fun a=>0≤a.1∧a.1<4611686018427387904∧a.2.2.length≤4294967296) (fun a=>C9 (Ju a.1.toNat a.2.1 a.2.2))
theorem Yxf(i:Int)(x:Dig)(p:List Dig)(h:0≤i∧i<4611686018427387904∧p.length≤4294967296):Yjb [.int .i64 i,C9 x,.slc (nz 32 (p.map C9)) (p.map C9) false]=some (C9 (Ju i.toNat x p)):=
 D7 (fun⟨a0,a1,E⟩ ⟨b0,b1,I⟩ h=>by simp only[Aa,D.slc.injEq,D.int.injEq,Li,KZ,true_and,and_true]at h; simp[h]) (i,x,p) h
noncomputable def QY:List D→Option D:=Dk (α:=(Int×Dig)×Int×Dig×List Dig) (fun a=>[.agg (.int .i64 (C5 a.1)::C8 (C6 a.1)),.int .i64 a.2.1,C9 a.2.2.1,.slc (nz 32 (a.2.2.2.map C9)) (a.2.2.2.map C9) false]) (fun a=>-9223372036854775808≤a.2.1∧a.2.1<9223372036854775808) (fun a=>.bool (GA a.1 a.2.1 a.2.2.1 a.2.2.2))
theorem ZD(c:Int×Dig)(i:Int)(x:Dig)(p:List Dig)(h:-9223372036854775808≤i∧i<9223372036854775808):QY [.agg (.int .i64 (C5 c)::C8 (C6 c)),.int .i64 i,C9 x,.slc (nz 32 (p.map C9)) (p.map C9) false]=some (.bool (GA c i x p)):=
 D7 (fun⟨a0,a1,E,I⟩ ⟨b0,b1,J,M⟩ h=>by simp only[Aa,D.slc.injEq,D.int.injEq,D.agg.injEq,Li,KZ,L5,true_and,and_true]at h; simp[h,Cv]) (c,i,x,p) h
set_option maxHeartbeats 4000000 in
set_option maxRecDepth 20000 in
theorem yOl(c:Int×Dig)(i:Int)(x:Dig)(p:List Dig)(h:-9223372036854775808≤i∧i<9223372036854775808):@wW GG (tb [(25,OL),(95,PX)] []) ZV.code (Dc [.agg (.int .i64 (C5 c)::C8 (C6 c)),.int .i64 i,C9 x,.slc (nz 32 (p.map C9)) (p.map C9) false]) [] ⟨Dn ZV.res (.bool (GA c i x p))⟩:=by
 obtain⟨n,r⟩:=c;unfold ZV;simp (disch:=omega) only[push_cast,↓reduceIte,CI,NT];refine EU (fun J=>?_) (fun J=>?_)
 ·have e:GA (n,r) i x p=false:=by unfold GA; simp; omega
  simp (disch:=omega) only[push_cast,↓reduceIte,CI,J,e]
 ·have U:0≤n∧n≤65536:=by
   by_cases hb:n<0∨65536<n
   ·rw[Uo hb]at J; omega
   ·omega
  obtain⟨e1,Y,e3⟩:=NP U.1 U.2;simp (disch:=omega) only[push_cast,↓reduceIte,CI,J];refine EU (fun M=>?_) (fun M=>?_)
  ·have e:GA (n,r) i x p=false:=by unfold GA; simp; omega
   simp (disch:=omega) only[push_cast,↓reduceIte,CI,M,e]
  ·simp (disch:=omega) only[push_cast,↓reduceIte,CI,M,fZ];refine EU (fun N=>?_) (fun N=>?_)
   ·have e:GA (n,r) i x p=false:=by unfold GA; simp; omega
    simp (disch:=omega) only[push_cast,↓reduceIte,CI,N,e]
   ·simp (disch:=omega) only[push_cast,↓reduceIte,CI,N];refine EU (fun I=>?_) (fun I=>?_)
    ·have e:GA (n,r) i x p=decide (Ju i.toNat x p=r):=by
      unfold GA;simp only[show 0≤D1 n from Y,show 0≤i by omega,show i<2 ^ (D1 n).toNat by omega,I,true_and]
     rw[e];simp (disch:=omega) only[push_cast,↓reduceIte,CI,I];have hp:p.length≤16:=by omega
     have ab:(2:Int) ^ (D1 n).toNat≤2 ^ 16:=bX (by omega)
     refine F9 (fun q:Nat×Dig=>[(1,.int .i64 i),(3,.slc (nz 32 (p.map C9)) (p.map C9) false),(4,.ptr 0 0),(6,.ptr 1 0),(33,.int .i64 (p.length:Int)),(34,.int .i64 (q.1:Int))])
      (fun q=>[⟨false,1,.int .i64 n::C8 r,false⟩,⟨false,1,C8 q.2,false⟩])
      (fun q=>q.1≤p.length∧Ju i.toNat x p=Ju (i.toNat / 2 ^ q.1) q.2 (p.drop q.1)) (fun q=>p.length - q.1) (0,x) (by simp only[push_cast,↓reduceIte,CI,CP,CN,CJ,I] <;> rfl) ⟨Bh _,by simp⟩ ?_
     rintro⟨j,y⟩ ⟨O,E⟩;simp only at O E;unfold nk;simp only[push_cast,↓reduceIte,CI];refine EU (fun h7=>?_) (fun h7=>?_)
     ·rw[jh p j (by omega),Ju,Nat.div_div_eq_div_mul,← CH]at E;have h8:=TG j;have h9:0≤i / 2 ^ j:=BD (by omega) (by omega);have ac:i / 2 ^ j≤i:=BZ _ (by omega)
      have ad:(i / 2 ^ j) % 2=((i.toNat / 2 ^ j % 2:Nat):Int):=by
       have:i=(i.toNat:Int):=by omega
       rw[this]; simp
      simp (disch:=omega) only[push_cast,↓reduceIte,CI,XT,Yw0];refine EU (fun V=>?_) (fun V=>?_)
      ·rw[if_pos (show i.toNat / 2 ^ j % 2=0 by omega)]at E;simp (disch:=omega) only[push_cast,↓reduceIte,CI,CP,CN,CJ,Ks,HP,DN];refine E2 (j+1,ET y (p.getD j default)) ⟨by show j+1≤_; omega,E⟩ (by show p.length - (j+1)<p.length - j; omega) ?_;rfl
      ·rw[if_neg (show ¬ i.toNat / 2 ^ j % 2=0 by omega)]at E;simp (disch:=omega) only[push_cast,↓reduceIte,CI,CP,CN,CJ,Ks,HP,DN];refine E2 (j+1,ET (p.getD j default) y) ⟨by show j+1≤_; omega,E⟩ (by show p.length - (j+1)<p.length - j; omega) ?_;rfl
     ·rw[List.drop_of_length_le (by omega)]at E;have E:Ju i.toNat x p=y:=E;simp (disch:=omega) only[push_cast,↓reduceIte,CI,CJ,E]
    ·have e:GA (n,r) i x p=false:=by
      unfold GA;simp;intro _ _ _ O;exact absurd O I
     simp (disch:=omega) only[push_cast,↓reduceIte,I,e]
theorem yRi:Contract Tryz.prog GG 124 QY:=
 Ed zf (DI (all_cons R5 (all_cons Si all_nil)) all_nil) (fun a h=>yOl a.1 a.2.1 a.2.2.1 a.2.2.2 h)
def JJ(l:List Dig)(level k:Int):Bool:=decide ((l.length:Int)≤65536∧0≤level∧level≤16∧0≤k∧k<2 ^ (16 - level).toNat)
def OV(l:List Dig)(level k:Int):Dig:=if JJ l level k then HK l level.toNat k else Du
def KT(l:List Dig):Int×Dig:=if(l.length:Int)≤65536 then(l.length,HK l (D1 l.length).toNat 0)else kY
def KP(l:List Dig):Int:=if(l.length:Int)≤65536 then 0 else 2
def I9(l:List Dig)(i:Int):List Dig:=if(l.length:Int)≤65536∧0≤i∧i<2 ^ (D1 l.length).toNat then Hi l i (D1 l.length).toNat else []
def LO(l:List Dig)(i:Int):Int:=if 65536<(l.length:Int)then 2 else if 0≤i∧i<2 ^ (D1 l.length).toNat then 0 else 1
theorem UC(l:List Dig)(i:Int):∀ n,(Hi l i n).length=n
 |0=>rfl
 |n+1=>by simp[Hi,UC l i n]
def Jk(r:Bool)(key:Nat)(row:List Dig):D:=if r then .row key row.length 0 row.length else .slc (nz 32 (row.map C9)) (row.map C9) false
def H5(r:Bool)(row:List Dig):St:=if r then [⟨true,32,row.map C9,false⟩]else []
theorem aN(key:Nat)(row:List Dig):Jk false key row=.slc (nz 32 (row.map C9)) (row.map C9) false:=rfl
theorem S6(key:Nat)(row:List Dig):Jk true key row=.row key row.length 0 row.length:=rfl
theorem S7(row:List Dig):H5 false row=[]:=rfl
theorem Ps(row:List Dig):H5 true row=[⟨true,32,row.map C9,false⟩]:=rfl
noncomputable def cn:List D→St→Option (D×St):=GI (α:=Int×Int×Dig×Dig×List Dig×Bool×Int×Dig)
 (fun⟨lv,k,d,pz,row,r,j,pad⟩=>([.int .i64 j,Jk r 4 row,C9 pad,.ptr 0 0,.ptr 1 0,.ptr 2 0],[⟨false,1,[.int .i64 lv],false⟩,⟨false,1,[.int .i64 k],false⟩,⟨false,1,C8 d,false⟩,⟨false,1,C8 pz,false⟩]++H5 r row))
 (fun⟨_,k,_,_,_,_,_,_⟩=>0≤k)
 (fun⟨lv,k,d,pz,row,r,j,pad⟩=>(.tup [],[⟨false,1,[.int .i64 lv],false⟩,⟨false,1,[.int .i64 k],false⟩,⟨false,1,C8 (if j=lv then GB row k pad else d),false⟩,⟨false,1,C8 pz,false⟩]++H5 r row))
theorem yRb(I k:Int)(d J:Dig)(row:List Dig)(j:Int)(E:Dig)(h:0≤k) :
  cn [.int .i64 j,.slc (nz 32 (row.map C9)) (row.map C9) false,C9 E,.ptr 0 0,.ptr 1 0,.ptr 2 0] [⟨false,1,[.int .i64 I],false⟩,⟨false,1,[.int .i64 k],false⟩,⟨false,1,C8 d,false⟩,⟨false,1,C8 J,false⟩]=
   some (.tup [],[⟨false,1,[.int .i64 I],false⟩,⟨false,1,[.int .i64 k],false⟩,⟨false,1,C8 (if j=I then GB row k E else d),false⟩,⟨false,1,C8 J,false⟩]):=by
 refine MG ?_ (I,k,d,J,row,false,j,E) h rfl;rintro⟨I,k,d,J,row,r,j,E⟩ ⟨U,k',Y,V,M,N,j',O⟩ h;cases r <;> cases N <;> simp[Jk,H5,Li,KZ,L5]at h
 all_goals simp[h]
theorem yRa(I k:Int)(d J:Dig)(row:List Dig)(j:Int)(E:Dig)(h:0≤k) :
  cn [.int .i64 j,.row 4 row.length 0 row.length,C9 E,.ptr 0 0,.ptr 1 0,.ptr 2 0] [⟨false,1,[.int .i64 I],false⟩,⟨false,1,[.int .i64 k],false⟩,⟨false,1,C8 d,false⟩,⟨false,1,C8 J,false⟩,⟨true,32,row.map C9,false⟩]=
   some (.tup [],[⟨false,1,[.int .i64 I],false⟩,⟨false,1,[.int .i64 k],false⟩,⟨false,1,C8 (if j=I then GB row k E else d),false⟩,⟨false,1,C8 J,false⟩,⟨true,32,row.map C9,false⟩]):=by
 refine MG ?_ (I,k,d,J,row,true,j,E) h rfl;rintro⟨I,k,d,J,row,r,j,E⟩ ⟨U,k',Y,V,M,N,j',O⟩ h;cases r <;> cases N <;> simp[Jk,H5,Li,KZ,L5]at h
 all_goals simp[h]
theorem Yni:IContract Tryz.prog GG 117 cn:=by
 refine QV (T:=tb [(93,SQ)] []) yE (DI (all_cons Pg all_nil) all_nil) ?_;rintro⟨lv,k,d,I,row,r,j,pad⟩ h;simp only at h;unfold mz;cases r
 ·simp only[push_cast,↓reduceIte,CI,CJ,aN,S7];refine EU (fun E=>?_) (fun E=>?_)
  ·simp only[push_cast,↓reduceIte,CI,CJ,E,Pw _ _ _ h,S7]
  ·simp only[push_cast,↓reduceIte,CJ,E,S7]
 ·simp only[push_cast,↓reduceIte,CI,CJ,S6,Ps];refine EU (fun E=>?_) (fun E=>?_)
  ·simp only[push_cast,↓reduceIte,CI,CJ,E,Pw _ _ _ h,Ps]
  ·simp only[push_cast,↓reduceIte,CJ,E,Ps]
def LR(l:List Dig)(lv k:Int)(d:Dig)(j:Nat):Dig:=if 0≤lv∧lv<(j:Int)then HK l lv.toNat k else d
theorem Ya0(l:List Dig)(E k:Int)(d:Dig)(j:Nat):(if(j:Int)=E then GB (EZ l j) k (EL j)else LR l E k d j)=LR l E k d (j+1):=by
 unfold LR
 by_cases h:(j:Int)=E
 ·rw[if_pos h,if_pos (by omega)];have:E.toNat=j:=by omega
  rw[this]; rfl
 ·grind
noncomputable def YI:List D→St→Option (D×St):=GI (α:=List Dig×Int×Int×Int×Dig)
 (fun⟨l,last,lv,k,d⟩=>([.slc (nz 32 (l.map C9)) (l.map C9) false,.int .i64 last,.clo 117 [.ptr 0 0,.ptr 1 0,.ptr 2 0]],[⟨false,1,[.int .i64 lv],false⟩,⟨false,1,[.int .i64 k],false⟩,⟨false,1,C8 d,false⟩]))
 (fun⟨l,last,_,k,_⟩=>0≤k∧0≤last∧last≤16∧l.length≤65536)
 (fun⟨l,last,lv,k,d⟩=>(.tup [],[⟨false,1,[.int .i64 lv],false⟩,⟨false,1,[.int .i64 k],false⟩,⟨false,1,C8 (LR l lv k d (last.toNat+1)),false⟩]))
theorem yN0(l:List Dig)(E I k:Int)(d:Dig)(h:0≤k∧0≤E∧E≤16∧l.length≤65536) :
  YI [.slc (nz 32 (l.map C9)) (l.map C9) false,.int .i64 E,.clo 117 [.ptr 0 0,.ptr 1 0,.ptr 2 0]] [⟨false,1,[.int .i64 I],false⟩,⟨false,1,[.int .i64 k],false⟩,⟨false,1,C8 d,false⟩]=
   some (.tup [],[⟨false,1,[.int .i64 I],false⟩,⟨false,1,[.int .i64 k],false⟩,⟨false,1,C8 (LR l I k d (E.toNat+1)),false⟩]):=by
 refine MG ?_ (l,E,I,k,d) h rfl;rintro⟨l,E,I,k,d⟩ ⟨N,J,M,k',O⟩ h;simp[Li,L5]at h;simp[h]
theorem yYo:IContract Tryz.prog GG 91 YI:=by
 refine QV (T:=tb [(20,PD),(93,SQ),(95,PX)] [(117,cn)]) mI
  (DI (all_cons S2 (all_cons Pg (all_cons Si all_nil))) (all_cons Yni all_nil)) ?_
 rintro⟨l,last,lv,k,d⟩ ⟨hk,ah,a0,a1⟩;unfold fl;have hs0:LR l lv k d 0=d:=by unfold LR; rw[if_neg (by omega)]
 simp (disch:=omega) only[push_cast,↓reduceIte,CI,CJ,QD,DN]
 refine F9 (fun j:Nat=>[(2,.clo 117 [.ptr 0 0,.ptr 1 0,.ptr 2 0]),(6,Jk (decide (0<j)) 4 (EZ l j)),(7,.ptr 3 0),(14,.int .i64 (last+1)),(15,.int .i64 (j:Int))])
  (fun j=>[⟨false,1,[.int .i64 lv],false⟩,⟨false,1,[.int .i64 k],false⟩,⟨false,1,C8 (LR l lv k d j),false⟩,⟨false,1,C8 (EL j),false⟩]++H5 (decide (0<j)) (EZ l j))
  (fun j=>(j:Int)≤last+1) (fun j=>(last+1).toNat - j) 0 (by rw[hs0]; simp only[push_cast,↓reduceIte,CI,CP,CN,CJ,↓CM] <;> rfl) (by omega) ?_
 intro j hj;have V:=eP l j;have I:=Sx (EL j) (EZ l j);have hn:EZ l (j+1)=Gj (EL j) (EZ l j):=rfl;have O:EL (j+1)=ET (EL j) (EL j):=rfl;have J:=Ya0 l lv k d j;unfold ft
 by_cases Y:(j:Int)<last+1
 ·by_cases hz:j=0
  ·subst hz;have M:decide (0<0)=false:=rfl;have aa:(0:Int)<last+1:=by omega
   have e0:EZ l 0=l:=rfl;have e1:EL 0=DU:=rfl;have U:(if(0:Int)=lv then GB l k DU else d)=LR l lv k d 1:=by rw[← J,hs0]; rfl
   rw[e0]at V I hn;rw[e1]at I hn O;rw[e0,e1,hs0];simp (disch:=omega) only[push_cast,↓reduceIte,CI,CJ,↓CM,aN,S7,aa,U,yRb,Vg,DN,OU]
   refine F9 (fun i:Nat=>[(2,.clo 117 [.ptr 0 0,.ptr 1 0,.ptr 2 0]),(6,.slc (nz 32 (l.map C9)) (l.map C9) false),(7,.ptr 3 0),(9,.row 4 ((Gj DU l).take i).length 0 ((Gj DU l).take i).length),(10,.int .i64 (2*(i:Int))),(14,.int .i64 (last+1)),(15,.int .i64 0)])
    (fun i=>[⟨false,1,[.int .i64 lv],false⟩,⟨false,1,[.int .i64 k],false⟩,⟨false,1,C8 (LR l lv k d 1),false⟩,⟨false,1,C8 DU,false⟩,⟨true,32,((Gj DU l).take i).map C9,false⟩]) (fun i=>2*i≤l.length+1) (fun i=>l.length+1 - i) 0 (by simp only[push_cast,↓reduceIte,CI,CP,CN,CJ,C4,↓CM] <;> rfl) (by omega) ?_
   intro i hi;unfold UF;have f0:(2*(i:Int)).toNat=2*i:=by omega
   have f1:(2*(i:Int)+2)=2*((i+1:Nat):Int):=by omega
   by_cases N:2*(i:Int)<(l.length:Int)
   ·have e:=cN DU l i (by omega);have hl:((Gj DU l).take i).length≤65536:=by rw[AL]; omega
    simp (disch:=omega) only[push_cast,↓reduceIte,CI,CP,CN,CJ,N,Ks,DN,Pw,HP,f0];refine E2 (i+1) (by omega) (by omega) ?_;grind
   ·have e:(Gj DU l).take i=Gj DU l:=AI (by omega);simp (disch:=omega) only[push_cast,↓reduceIte,CI,CP,CN,CJ,CZ,C0,N,e,HP,DN];refine E2 1 (by omega) (by omega) ?_;rfl
  ·have M:decide (0<j)=true:=by simp; omega
   have ad:decide (0<j+1)=true:=by simp
   generalize EZ l j=R at V I hn J;generalize EL j=E at I hn O J;simp (disch:=omega) only[push_cast,↓reduceIte,CI,CJ,M,S6,Ps,Y,J,yRa,Vg,DN,OU]
   refine F9 (fun i:Nat=>[(2,.clo 117 [.ptr 0 0,.ptr 1 0,.ptr 2 0]),(6,.row 4 R.length 0 R.length),(7,.ptr 3 0),(9,.row 5 ((Gj E R).take i).length 0 ((Gj E R).take i).length),(10,.int .i64 (2*(i:Int))),(14,.int .i64 (last+1)),(15,.int .i64 j)])
    (fun i=>[⟨false,1,[.int .i64 lv],false⟩,⟨false,1,[.int .i64 k],false⟩,⟨false,1,C8 (LR l lv k d (j+1)),false⟩,⟨false,1,C8 E,false⟩,⟨true,32,R.map C9,false⟩,⟨true,32,((Gj E R).take i).map C9,false⟩]) (fun i=>2*i≤R.length+1) (fun i=>R.length+1 - i) 0 (by simp only[push_cast,↓reduceIte,CI,CP,CN,CJ,C4,↓CM] <;> rfl) (by omega) ?_
   intro i hi;unfold UF;have f0:(2*(i:Int)).toNat=2*i:=by omega
   have f1:(2*(i:Int)+2)=2*((i+1:Nat):Int):=by omega
   by_cases N:2*(i:Int)<(R.length:Int)
   ·have e:=cN E R i (by omega);have hl:((Gj E R).take i).length≤65536:=by rw[AL]; omega
    simp (disch:=omega) only[push_cast,↓reduceIte,CI,CP,CN,CJ,N,DN,Pw,HP,f0];refine E2 (i+1) (by omega) (by omega) ?_;grind
   ·have e:(Gj E R).take i=Gj E R:=AI (by omega);simp (disch:=omega) only[push_cast,↓reduceIte,CI,CP,CN,CJ,CZ,N,e,HP,DN];refine E2 (j+1) (by omega) (by omega) ?_;rw[hn,O,ad];rfl
 ·have ae:last.toNat+1=j:=by omega
  have M:decide (0<j)=true:=by simp; omega
  simp (disch:=omega) only[push_cast,↓reduceIte,CI,CJ,Y,M,S6,Ps,ae]
noncomputable def cq:List D→St→Option (D×St):=GI (α:=Int×List Dig×Dig×List Dig×Bool×Nat×Dig)
 (fun⟨i0,A,pz,row,r,j,pad⟩=>([.int .i64 (j:Int),Jk r 4 row,C9 pad,.ptr 2 0,.ptr 0 0],[⟨false,1,[.int .i64 i0],false⟩,⟨true,32,(A).map C9,false⟩,⟨false,1,[.row 1 (A).length 0 (A).length],false⟩,⟨false,1,C8 pz,false⟩]++H5 r row))
 (fun⟨i0,A,_,_,_,j,_⟩=>0≤i0∧i0<4611686018427387904∧j≤60∧A.length≤65536)
 (fun⟨i0,A,pz,row,r,j,pad⟩=>(.tup [],[⟨false,1,[.int .i64 i0],false⟩,⟨true,32,(A++[GB row (FY (i0 / 2 ^ j)) pad]).map C9,false⟩,⟨false,1,[.row 1 (A++[GB row (FY (i0 / 2 ^ j)) pad]).length 0 (A++[GB row (FY (i0 / 2 ^ j)) pad]).length],false⟩,⟨false,1,C8 pz,false⟩]++H5 r row))
theorem yQ9(I:Int)(A:List Dig)(J:Dig)(row:List Dig)(j:Nat)(E:Dig)(h:0≤I∧I<4611686018427387904∧j≤60∧A.length≤65536) :
  cq [.int .i64 (j:Int),.slc (nz 32 (row.map C9)) (row.map C9) false,C9 E,.ptr 2 0,.ptr 0 0] [⟨false,1,[.int .i64 I],false⟩,⟨true,32,(A).map C9,false⟩,⟨false,1,[.row 1 (A).length 0 (A).length],false⟩,⟨false,1,C8 J,false⟩]=some (.tup [],[⟨false,1,[.int .i64 I],false⟩,⟨true,32,(A++[GB row (FY (I / 2 ^ j)) E]).map C9,false⟩,⟨false,1,[.row 1 (A++[GB row (FY (I / 2 ^ j)) E]).length 0 (A++[GB row (FY (I / 2 ^ j)) E]).length],false⟩,⟨false,1,C8 J,false⟩]):=by
 refine MG ?_ (I,A,J,row,false,j,E) h rfl;rintro⟨I,A,J,row,r,j,E⟩ ⟨U,Y,V,M,N,j',O⟩ h;cases r <;> cases N <;> simp[Jk,H5,Li,KZ,L5,Int.natCast_inj]at h
 all_goals simp[h]
theorem yQ8(I:Int)(A:List Dig)(J:Dig)(row:List Dig)(j:Nat)(E:Dig)(h:0≤I∧I<4611686018427387904∧j≤60∧A.length≤65536) :
  cq [.int .i64 (j:Int),.row 4 row.length 0 row.length,C9 E,.ptr 2 0,.ptr 0 0] [⟨false,1,[.int .i64 I],false⟩,⟨true,32,(A).map C9,false⟩,⟨false,1,[.row 1 (A).length 0 (A).length],false⟩,⟨false,1,C8 J,false⟩,⟨true,32,row.map C9,false⟩]=some (.tup [],[⟨false,1,[.int .i64 I],false⟩,⟨true,32,(A++[GB row (FY (I / 2 ^ j)) E]).map C9,false⟩,⟨false,1,[.row 1 (A++[GB row (FY (I / 2 ^ j)) E]).length 0 (A++[GB row (FY (I / 2 ^ j)) E]).length],false⟩,⟨false,1,C8 J,false⟩,⟨true,32,row.map C9,false⟩]):=by
 refine MG ?_ (I,A,J,row,true,j,E) h rfl;rintro⟨I,A,J,row,r,j,E⟩ ⟨U,Y,V,M,N,j',O⟩ h;cases r <;> cases N <;> simp[Jk,H5,Li,KZ,L5,Int.natCast_inj]at h
 all_goals simp[h]
theorem Ynh:IContract Tryz.prog GG 92 cq:=by
 refine QV (T:=tb [(93,SQ)] []) yG (DI (all_cons Pg all_nil) all_nil) ?_;rintro⟨i0,A,J,row,r,j,pad⟩ ⟨M,N,O,U⟩;have V:=TG j;have Y:0≤i0 / 2 ^ j:=BD (by omega) (by omega);have I:i0 / 2 ^ j≤i0:=BZ _ (by omega);have hs:0≤FY (i0 / 2 ^ j):=by unfold FY; split <;> omega
 have E:(if i0 / 2 ^ j % 2=0 then i0 / 2 ^ j+1 else i0 / 2 ^ j - 1)=FY (i0 / 2 ^ j):=rfl;unfold mA;cases r
 ·simp (disch:=first|omega|decide) only[push_cast,↓reduceIte,CI,CP,CJ,aN,S7,XT,nO,E,Pw]
 ·simp (disch:=first|omega|decide) only[push_cast,↓reduceIte,CI,CP,CJ,S6,Ps,XT,nO,E,Pw]
noncomputable def YA:List D→St→Option (D×St):=GI (α:=List Dig×Int×Int)
 (fun⟨l,last,i0⟩=>([.slc (nz 32 (l.map C9)) (l.map C9) false,.int .i64 last,.clo 92 [.ptr 2 0,.ptr 0 0]],[⟨false,1,[.int .i64 i0],false⟩,⟨true,32,[],false⟩,⟨false,1,[.row 1 0 0 0],false⟩]))
 (fun⟨l,last,i0⟩=>0≤i0∧i0<4611686018427387904∧0≤last∧last≤16∧l.length≤65536)
 (fun⟨l,last,i0⟩=>(.tup [],[⟨false,1,[.int .i64 i0],false⟩,⟨true,32,(Hi l i0 (last.toNat+1)).map C9,false⟩,⟨false,1,[.row 1 (Hi l i0 (last.toNat+1)).length 0 (Hi l i0 (last.toNat+1)).length],false⟩]))
theorem yNz(l:List Dig)(E I:Int)(h:0≤I∧I<4611686018427387904∧0≤E∧E≤16∧l.length≤65536) :
  YA [.slc (nz 32 (l.map C9)) (l.map C9) false,.int .i64 E,.clo 92 [.ptr 2 0,.ptr 0 0]] [⟨false,1,[.int .i64 I],false⟩,⟨true,32,[],false⟩,⟨false,1,[.row 1 0 0 0],false⟩]=
   some (.tup [],[⟨false,1,[.int .i64 I],false⟩,⟨true,32,(Hi l I (E.toNat+1)).map C9,false⟩,⟨false,1,[.row 1 (Hi l I (E.toNat+1)).length 0 (Hi l I (E.toNat+1)).length],false⟩]):=by
 refine MG ?_ (l,E,I) h rfl;rintro⟨l,E,I⟩ ⟨N,J,M⟩ h;simp[Li]at h;simp[h]
theorem yYn:IContract Tryz.prog GG 91 YA:=by
 refine QV (T:=tb [(20,PD),(93,SQ),(95,PX)] [(92,cq)]) mI
  (DI (all_cons S2 (all_cons Pg (all_cons Si all_nil))) (all_cons Ynh all_nil)) ?_
 rintro⟨l,last,i0⟩ ⟨hk,U,a4,a5,a6⟩;unfold fl;simp (disch:=omega) only[push_cast,↓reduceIte,CI,CJ,QD,DN]
 refine F9 (fun j:Nat=>[(2,.clo 92 [.ptr 2 0,.ptr 0 0]),(6,Jk (decide (0<j)) 4 (EZ l j)),(7,.ptr 3 0),(14,.int .i64 (last+1)),(15,.int .i64 (j:Int))])
  (fun j=>[⟨false,1,[.int .i64 i0],false⟩,⟨true,32,(Hi l i0 j).map C9,false⟩,⟨false,1,[.row 1 (Hi l i0 j).length 0 (Hi l i0 j).length],false⟩,⟨false,1,C8 (EL j),false⟩]++H5 (decide (0<j)) (EZ l j))
  (fun j=>(j:Int)≤last+1) (fun j=>(last+1).toNat - j) 0 (by simp only[push_cast,↓reduceIte,CI,CP,CN,CJ,↓CM] <;> rfl) (by omega) ?_
 intro j hj;have Y:=eP l j;have I:=Sx (EL j) (EZ l j);have hn:EZ l (j+1)=Gj (EL j) (EZ l j):=rfl;have V:EL (j+1)=ET (EL j) (EL j):=rfl;have N:Hi l i0 j++[GB (EZ l j) (FY (i0 / 2 ^ j)) (EL j)]=Hi l i0 (j+1):=rfl;have a7:=UC l i0 j;unfold ft
 by_cases h1:(j:Int)<last+1
 ·by_cases hz:j=0
  ·subst hz;have J:decide (0<0)=false:=rfl;have ab:(0:Int)<last+1:=by omega
   have e0:EZ l 0=l:=rfl;have e1:EL 0=DU:=rfl;have e2:Hi l i0 0=[]:=rfl;have a3:[GB l (FY (i0 / 2 ^ 0)) DU]=Hi l i0 1:=rfl;have ae:0≤i0∧i0<4611686018427387904∧0≤60∧([]:List Dig).length≤65536:=⟨hk,U,by omega,by simp⟩;have M:=yQ9 i0 [] DU l 0 DU ae;rw[e0]at Y I hn;rw[e1]at I hn V;simp only[Bk,Aq,Ai,Aw,Ah,An,↓CM]at M;rw[e0,e1,e2];simp (disch:=omega) only[push_cast,↓reduceIte,CI,CJ,CY,↓CM,aN,S7,ab,M,Vg,DN,OU]
   refine F9 (fun i:Nat=>[(2,.clo 92 [.ptr 2 0,.ptr 0 0]),(6,.slc (nz 32 (l.map C9)) (l.map C9) false),(7,.ptr 3 0),(9,.row 4 ((Gj DU l).take i).length 0 ((Gj DU l).take i).length),(10,.int .i64 (2*(i:Int))),(14,.int .i64 (last+1)),(15,.int .i64 0)])
    (fun i=>[⟨false,1,[.int .i64 i0],false⟩,⟨true,32,(Hi l i0 1).map C9,false⟩,⟨false,1,[.row 1 (Hi l i0 1).length 0 (Hi l i0 1).length],false⟩,⟨false,1,C8 DU,false⟩,⟨true,32,((Gj DU l).take i).map C9,false⟩]) (fun i=>2*i≤l.length+1) (fun i=>l.length+1 - i) 0 (by simp only[push_cast,↓reduceIte,CI,CP,CN,CJ,C4,↓CM] <;> rfl) (by omega) ?_
   intro i hi;unfold UF;have f0:(2*(i:Int)).toNat=2*i:=by omega
   have f1:(2*(i:Int)+2)=2*((i+1:Nat):Int):=by omega
   by_cases O:2*(i:Int)<(l.length:Int)
   ·have e:=cN DU l i (by omega);have hl:((Gj DU l).take i).length≤65536:=by rw[AL]; omega
    simp (disch:=omega) only[push_cast,↓reduceIte,CI,CP,CN,CJ,O,Ks,DN,Pw,HP,f0];refine E2 (i+1) (by omega) (by omega) ?_;grind
   ·have e:(Gj DU l).take i=Gj DU l:=AI (by omega);simp (disch:=omega) only[push_cast,↓reduceIte,CI,CP,CN,CJ,CZ,C0,O,e,HP,DN];refine E2 1 (by omega) (by omega) ?_;rfl
  ·have J:decide (0<j)=true:=by simp; omega
   have af:decide (0<j+1)=true:=by simp
   have ah:0≤i0∧i0<4611686018427387904∧j≤60∧(Hi l i0 j).length≤65536:=⟨hk,U,by omega,by omega⟩;generalize EZ l j=R at Y I hn N;generalize EL j=E at I hn V N;simp (disch:=omega) only[push_cast,↓reduceIte,CI,CJ,J,S6,Ps,h1,N,yQ8 _ _ _ _ _ _ ah,Vg,DN,OU]
   refine F9 (fun i:Nat=>[(2,.clo 92 [.ptr 2 0,.ptr 0 0]),(6,.row 4 R.length 0 R.length),(7,.ptr 3 0),(9,.row 5 ((Gj E R).take i).length 0 ((Gj E R).take i).length),(10,.int .i64 (2*(i:Int))),(14,.int .i64 (last+1)),(15,.int .i64 j)])
    (fun i=>[⟨false,1,[.int .i64 i0],false⟩,⟨true,32,(Hi l i0 (j+1)).map C9,false⟩,⟨false,1,[.row 1 (Hi l i0 (j+1)).length 0 (Hi l i0 (j+1)).length],false⟩,⟨false,1,C8 E,false⟩,⟨true,32,R.map C9,false⟩,⟨true,32,((Gj E R).take i).map C9,false⟩]) (fun i=>2*i≤R.length+1) (fun i=>R.length+1 - i) 0 (by simp only[push_cast,↓reduceIte,CI,CP,CN,CJ,C4,↓CM] <;> rfl) (by omega) ?_
   intro i hi;unfold UF;have f0:(2*(i:Int)).toNat=2*i:=by omega
   have f1:(2*(i:Int)+2)=2*((i+1:Nat):Int):=by omega
   by_cases O:2*(i:Int)<(R.length:Int)
   ·have e:=cN E R i (by omega);have hl:((Gj E R).take i).length≤65536:=by rw[AL]; omega
    simp (disch:=omega) only[push_cast,↓reduceIte,CI,CP,CN,CJ,O,DN,Pw,HP,f0];refine E2 (i+1) (by omega) (by omega) ?_;grind
   ·have e:(Gj E R).take i=Gj E R:=AI (by omega);simp (disch:=omega) only[push_cast,↓reduceIte,CI,CP,CN,CJ,CZ,O,e,HP,DN];refine E2 (j+1) (by omega) (by omega) ?_;rw[hn,V,af];rfl
 ·have a0:last.toNat+1=j:=by omega
  have J:decide (0<j)=true:=by simp; omega
  simp (disch:=omega) only[push_cast,↓reduceIte,CI,CP,CJ,h1,J,S6,Ps,a0]
noncomputable def iQ:List D→Option D:=Dk (α:=List Dig×Int×Int) (fun a=>[.slc (nz 32 (a.1.map C9)) (a.1.map C9) false,.int .i64 a.2.1,.int .i64 a.2.2]) (fun a=>True) (fun a=>.tup [C9 (OV a.1 a.2.1 a.2.2),.bool (JJ a.1 a.2.1 a.2.2)])
theorem yY0(l:List Dig)(E:Int)(k:Int):iQ [.slc (nz 32 (l.map C9)) (l.map C9) false,.int .i64 E,.int .i64 k]=some (.tup [C9 (OV l E k),.bool (JJ l E k)]):=
 D7 (fun⟨a0,a1,I⟩ ⟨b0,b1,J⟩ h=>by simp only[Aa,D.slc.injEq,D.int.injEq,Li,true_and,and_true]at h; simp[h]) (l,E,k) trivial
theorem Yqw(l:List Dig)(E:Int)(k:Int):@wW GG (tb [] [(91,YI)]) Zm.code (Dc [.slc (nz 32 (l.map C9)) (l.map C9) false,.int .i64 E,.int .i64 k]) [] ⟨Dn Zm.res (.tup [C9 (OV l E k),.bool (JJ l E k)])⟩:=by
 unfold Zm;simp (disch:=omega) only[push_cast,↓reduceIte,CI,CJ];have bad:JJ l E k=false→OV l E k=Du:=by intro h; unfold OV; simp[h]
 refine EU (fun I=>?_) (fun I=>?_)
 ·have e:JJ l E k=false:=by unfold JJ; simp; omega
  simp (disch:=omega) only[push_cast,↓reduceIte,CI,I,e,bad e]
 ·simp (disch:=omega) only[push_cast,↓reduceIte,CI,I];refine EU (fun J=>?_) (fun J=>?_)
  ·have e:JJ l E k=false:=by unfold JJ; simp; omega
   simp (disch:=omega) only[push_cast,↓reduceIte,CI,J,e,bad e]
  ·simp (disch:=omega) only[push_cast,↓reduceIte,CI,J];refine EU (fun M=>?_) (fun M=>?_)
   ·have e:JJ l E k=false:=by unfold JJ; simp; omega
    simp (disch:=omega) only[push_cast,↓reduceIte,CI,M,e,bad e]
   ·simp (disch:=omega) only[push_cast,↓reduceIte,CI,M];refine EU (fun N=>?_) (fun N=>?_)
    ·have e:JJ l E k=false:=by unfold JJ; simp; omega
     simp (disch:=omega) only[push_cast,↓reduceIte,CI,N,e,bad e]
    ·simp (disch:=omega) only[push_cast,↓reduceIte,CI,N,E1,fZ];refine EU (fun O=>?_) (fun O=>?_)
     ·have e:JJ l E k=false:=by unfold JJ; simp; omega
      simp (disch:=omega) only[push_cast,↓reduceIte,CI,O,e,bad e]
     ·have e:JJ l E k=true:=by unfold JJ; simp; omega
      have U:OV l E k=HK l E.toNat k:=by unfold OV; simp[e]
      have V:LR l E k Du (E.toNat+1)=HK l E.toNat k:=by unfold LR; rw[if_pos (by omega)]
      have hc:=yN0 l E E k Du ⟨by omega,by omega,by omega,by omega⟩;rw[V]at hc;simp (disch:=omega) only[push_cast,↓reduceIte,CI,O,e,U,hc]
theorem Ywd:Contract Tryz.prog GG 63 iQ:=
 Ed (T:=tb [] [(91,YI)]) yEy (DI all_nil (all_cons yYo all_nil)) (fun a h=>Yqw a.1 a.2.1 a.2.2)
noncomputable def cz:List D→Option D:=Dk (α:=List Dig) (fun a=>[.slc (nz 32 (a.map C9)) (a.map C9) false]) (fun a=>True) (fun a=>.tup [.agg (.int .i64 (KT a).1::C8 (KT a).2),.int .i64 (KP a)])
theorem yYy(l:List Dig):cz [.slc (nz 32 (l.map C9)) (l.map C9) false]=some (.tup [.agg (.int .i64 (KT l).1::C8 (KT l).2),.int .i64 (KP l)]):=
 D7 (fun a b h=>by simp only[Aa,D.slc.injEq,Li,and_true]at h; simp[h]) (l) trivial
theorem Yqu(l:List Dig):@wW GG (tb [(25,OL),(63,iQ)] []) Zo.code (Dc [.slc (nz 32 (l.map C9)) (l.map C9) false]) [] ⟨Dn Zo.res (.tup [.agg (.int .i64 (KT l).1::C8 (KT l).2),.int .i64 (KP l)])⟩:=by
 unfold Zo;simp (disch:=omega) only[push_cast,↓reduceIte,CI];refine EU (fun E=>?_) (fun E=>?_)
 ·have e:KT l=kY:=by unfold KT; rw[if_neg (by omega)]
  have I:KP l=2:=by unfold KP; rw[if_neg (by omega)]
  simp (disch:=omega) only[push_cast,↓reduceIte,CI,E,e,I,kY]
 ·have e:KT l=((l.length:Int),HK l (D1 l.length).toNat 0):=by unfold KT; rw[if_pos (by omega)]
  have I:KP l=0:=by unfold KP; rw[if_pos (by omega)]
  obtain⟨d1,d2,d3⟩:=NP (n:=l.length) (by omega) (by omega);have N:=TG (16 - D1 l.length).toNat;have J:JJ l (D1 l.length) 0=true:=by unfold JJ; simp; omega
  have M:OV l (D1 l.length) 0=HK l (D1 l.length).toNat 0:=by unfold OV; simp[J]
  simp (disch:=omega) only[push_cast,↓reduceIte,CI,E,e,I,J,M,NT,yY0]
theorem Ywb:Contract Tryz.prog GG 22 cz:=
 Ed yEw (DI (all_cons R5 (all_cons Ywd all_nil)) all_nil) (fun a h=>Yqu a)
noncomputable def cy:List D→Option D:=Dk (α:=List Dig×Int) (fun a=>[.slc (nz 32 (a.1.map C9)) (a.1.map C9) false,.int .i64 a.2]) (fun a=>True) (fun a=>.tup [.slc (nz 32 ((I9 a.1 a.2).map C9)) ((I9 a.1 a.2).map C9) false,.int .i64 (LO a.1 a.2)])
theorem yYz(l:List Dig)(i:Int):cy [.slc (nz 32 (l.map C9)) (l.map C9) false,.int .i64 i]=some (.tup [.slc (nz 32 ((I9 l i).map C9)) ((I9 l i).map C9) false,.int .i64 (LO l i)]):=
 D7 (fun⟨a0,a1⟩ ⟨b0,b1⟩ h=>by simp only[Aa,D.slc.injEq,D.int.injEq,Li,true_and,and_true]at h; simp[h]) (l,i) trivial
theorem Yqv(l:List Dig)(i:Int):@wW GG (tb [(25,OL)] [(91,YA)]) Zn.code (Dc [.slc (nz 32 (l.map C9)) (l.map C9) false,.int .i64 i]) [] ⟨Dn Zn.res (.tup [.slc (nz 32 ((I9 l i).map C9)) ((I9 l i).map C9) false,.int .i64 (LO l i)])⟩:=by
 unfold Zn;simp (disch:=omega) only[push_cast,↓reduceIte,CI];refine EU (fun I=>?_) (fun I=>?_)
 ·have e:I9 l i=[]:=by unfold I9; rw[if_neg (by omega)]
  have E:LO l i=2:=by unfold LO; rw[if_pos (by omega)]
  simp (disch:=omega) only[push_cast,↓reduceIte,CI,I,e,E]
 ·obtain⟨d1,d2,d3⟩:=NP (n:=l.length) (by omega) (by omega);simp (disch:=omega) only[push_cast,↓reduceIte,CI,I,NT];refine EU (fun J=>?_) (fun J=>?_)
  ·have e:I9 l i=[]:=by unfold I9; rw[if_neg (by omega)]
   have E:LO l i=1:=by unfold LO; rw[if_neg (by omega),if_neg (by omega)]
   simp (disch:=omega) only[push_cast,↓reduceIte,CI,J,e,E]
  ·simp (disch:=omega) only[push_cast,↓reduceIte,CI,J,fZ];refine EU (fun M=>?_) (fun M=>?_)
   ·have e:I9 l i=[]:=by unfold I9; rw[if_neg (by omega)]
    have E:LO l i=1:=by unfold LO; rw[if_neg (by omega),if_neg (by omega)]
    simp (disch:=omega) only[push_cast,↓reduceIte,CI,M,e,E]
   ·have e:I9 l i=Hi l i (D1 l.length).toNat:=by unfold I9; rw[if_pos (by omega)]
    have E:LO l i=0:=by unfold LO; rw[if_neg (by omega),if_pos (by omega)]
    have U:(2:Int) ^ (D1 l.length).toNat≤2 ^ 16:=bX (by omega);rw[e,E];simp (disch:=omega) only[push_cast,↓reduceIte,CI,CJ,M,Vg];refine EU (fun N=>?_) (fun N=>?_)
    ·have hc:=yNz l (D1 l.length - 1) i ⟨by omega,by omega,by omega,by omega,by omega⟩;have O:(D1 l.length - 1).toNat+1=(D1 l.length).toNat:=by omega
     rw[O]at hc;simp (disch:=omega) only[push_cast,↓reduceIte,CI,N,E1,hc]
    ·have O:(D1 l.length).toNat=0:=by omega
     rw[O];simp (disch:=omega) only[push_cast,↓reduceIte,CI,CY,N];rfl
theorem Ywc:Contract Tryz.prog GG 38 cy:=
 Ed (T:=tb [(25,OL)] [(91,YA)]) yEx (DI (all_cons R5 all_nil) (all_cons yYn all_nil)) (fun a h=>Yqv a.1 a.2)
theorem Ycu(l:List Dig)(n:Nat)(k:Int)(hk:0≤k):HK l (n+1) k=ET (HK l n (2*k)) (HK l n (2*k+1)):=by
 unfold HK
 show GB (Gj (EL n) (EZ l n)) k (EL (n+1))=_
 have hl:=Sx (EL n) (EZ l n);unfold GB
 by_cases h:k<((Gj (EL n) (EZ l n)).length:Int)
 ·rw[if_pos h,gu (EL n) (EZ l n) k.toNat (by omega),if_pos (show 2*k<((EZ l n).length:Int) by omega)];unfold GB;grind
 ·rw[if_neg h,if_neg (show ¬ 2*k<((EZ l n).length:Int) by omega),if_neg (show ¬ 2*k+1<((EZ l n).length:Int) by omega)];rfl
theorem n9(j:Int)(n:Nat):j / 2 ^ (n+1)=j / 2 ^ n / 2:=by
 have:=TG n;rw[Int.ediv_ediv_of_nonneg (by omega),Int.pow_succ]
theorem yNm(p q:List Dig):∀ (i:Nat) (x:Dig),Ju i x (p++q)=Ju (i / 2 ^ p.length) (Ju i x p) q:=by
 induction p with
 |nil=>intro i x; simp[Ju]
 |cons a r E=>
  intro i x
  show Ju (i / 2) _ (r++q)=_
  rw[E,Ah,CH,Cr,← Nat.div_div_eq_div_mul];rfl
theorem yZ1(i:Int)(hi:0≤i)(n:Nat):((i.toNat / 2 ^ n:Nat):Int)=i / 2 ^ n:=by
 grind
theorem sE(l:List Dig)(i:Int)(hi:0≤i):∀ n:Nat,Ju i.toNat (HK l 0 i) (Hi l i n)=HK l n (i / 2 ^ n)
 |0=>by simp[Hi,Ju]
 |n+1=>by
  have E:=TG n;have I:0≤i / 2 ^ n:=BD hi (by omega);have J:=yZ1 i hi n
  show Ju i.toNat (HK l 0 i) (Hi l i n++[HK l n (FY (i / 2 ^ n))])=_
  rw[yNm,sE l i hi n,UC]
  show(if i.toNat / 2 ^ n % 2=0 then ET (HK l n (i / 2 ^ n)) (HK l n (FY (i / 2 ^ n)))else ET (HK l n (FY (i / 2 ^ n))) (HK l n (i / 2 ^ n)))=_
  rw[Ycu l n (i / 2 ^ (n+1)) (by rw[n9]; omega),n9];generalize i / 2 ^ n=m at*;unfold FY;grind
theorem yJm(l:List Dig)(i:Int)(hl:(l.length:Int)≤65536)(hi:0≤i)(h:i<2 ^ (D1 l.length).toNat):GA (KT l) i (HK l 0 i) (I9 l i)=true:=by
 obtain⟨d1,d2,d3⟩:=NP (n:=l.length) (by omega) (by omega);have E:KT l=((l.length:Int),HK l (D1 l.length).toNat 0):=by unfold KT; rw[if_pos hl]
 have I:I9 l i=Hi l i (D1 l.length).toNat:=by unfold I9; rw[if_pos ⟨hl,hi,h⟩]
 unfold GA;rw[E,I,sE l i hi,UC,Int.ediv_eq_zero_of_lt hi h];simp;omega
theorem yWs(l:List Dig)(i:Int):(I9 l i).length≤16:=by
 unfold I9
 split
 ·rename_i h;rw[UC];have:=NP (n:=l.length) (by omega) h.1;omega
 ·simp
def La(x:Bis):Bool:=if x.h<0 then false else if 16<x.h then false else if x.l<0 then false else if x.h<x.l then false else if 0≤x.i then(if x.i<2 ^ (x.h - x.l).toNat then decide (x.r=x.h - x.l)else false)else false
theorem eR{x:Bis}(h:La x=true):0≤x.h∧x.h≤16∧0≤x.l∧x.l≤x.h∧0≤x.i∧x.i<2 ^ (x.h - x.l).toNat∧x.r=x.h - x.l:=by
 unfold La at h
 split at h; · cases h
 split at h; · cases h
 split at h; · cases h
 split at h; · cases h
 split at h
 ·split at h
  ·exact⟨by omega,by omega,by omega,by omega,by assumption,by assumption,of_decide_eq_true h⟩
  ·cases h
 ·cases h
variable {k:Nat}
theorem yNe{i:Int}(E:0≤i):i / 2 ^ k=0↔i<2 ^ k:=by
 have I:(0:Int)<2 ^ k:=Int.pow_pos (by decide);constructor
 ·intro h;have:=Int.emod_lt_of_pos i I;have e:=Ch i (2 ^ k);rw[h]at e;omega
 ·intro h;exact Int.ediv_eq_zero_of_lt E h
noncomputable def Yo:List D→Option D:=Dk (α:=Bis) (fun a=>[Ea a]) (fun a=>True) (fun a=>.bool (La a))
theorem eV(x:Bis):Yo [Ea x]=some (.bool (La x)):=
 D7 (fun a b h=>by simp only[Aa,and_true,bR]at h; simp[h]) (x) trivial
theorem Yie(x:Bis):@wW GG (tb [] []) Zt.code (Dc [Ea x]) [] ⟨Dn Zt.res (.bool (La x))⟩:=by
 unfold Zt La
 by_cases E:x.h<0
 ·simp (disch:=first|omega|decide) only[push_cast,↓reduceIte,CI,E]
 by_cases I:16<x.h
 ·simp (disch:=first|omega|decide) only[push_cast,↓reduceIte,CI,E,I]
 by_cases J:x.l<0
 ·simp (disch:=first|omega|decide) only[push_cast,↓reduceIte,CI,E,I,J]
 by_cases M:x.h<x.l
 ·simp (disch:=first|omega|decide) only[push_cast,↓reduceIte,CI,E,I,J,M]
 by_cases N:0≤x.i
 ·have e:=yNe (k:=(x.h - x.l).toNat) N
  by_cases O:x.i<2 ^ (x.h - x.l).toNat
  ·simp (disch:=first|omega|decide) only[push_cast,↓reduceIte,CI,E,I,J,M,N,O,E1,XT,e]
  ·simp (disch:=first|omega|decide) only[push_cast,↓reduceIte,CI,E,I,J,M,N,O,E1,XT,e]
 ·simp (disch:=first|omega|decide) only[push_cast,↓reduceIte,CI,E,I,J,M,N]
theorem ow:Contract Tryz.prog GG 77 Yo:=
 Ed yBv (DI all_nil all_nil) (fun a h=>Yie a)
theorem Yxc(n:Int)(h:0≤n∧n≤60):@wW GG (tb [(51,xY),(162,tq)] []) fy.code (Dc [.int .i64 n]) [] ⟨Dn fy.res (C9 (EL n.toNat))⟩:=by
 obtain⟨I,J⟩:=h;unfold fy;simp (disch:=omega) only[push_cast,↓reduceIte,CI,Ygg];refine F9 (fun i:Nat=>[(0,.int .i64 n),(2,.ptr 0 0),(3,.ptr 1 0),(4,.int .i64 (i:Int))]) (fun i=>[⟨false,1,C8 Du,false⟩,⟨false,1,C8 (EL i),false⟩]) (fun i=>(i:Int)≤n) (fun i=>(n - i).toNat) 0 (by simp only[push_cast,↓reduceIte,CI,CP,CN,CJ,↓CM] <;> rfl) (by omega) ?_;intro i hi;unfold nD;simp (disch:=omega) only[push_cast,↓reduceIte,CI];refine EU (fun E=>?_) (fun E=>?_)
 ·simp (disch:=first|omega|decide) only[push_cast,↓reduceIte,CI,CP,CN,CJ,yNw,DN];refine E2 (i+1) (by omega) (by omega) ?_;simp only[push_cast] <;> rfl
 ·have e:n.toNat=i:=by omega
  rw[e];simp (disch:=omega) only[push_cast,↓reduceIte,CI,CJ,E]
def FZ(s:Int)(root:Dig):Nat→Dig
 |0=>root
 |j+1=>if D1 s≤(j:Int)then ET (FZ s root j) (EL j)else FZ s root j
noncomputable def eu:List D→Option D:=Dk (α:=(Int×Dig)×Int) (fun a=>[.agg (.int .i64 (C5 a.1)::C8 (C6 a.1)),.int .i64 a.2]) (fun a=>0≤a.2∧a.2≤60) (fun a=>C9 (FZ a.1.1 a.1.2 a.2.toNat))
theorem lN(c:Int×Dig)(n:Int)(h:0≤n∧n≤60):eu [.agg (.int .i64 (C5 c)::C8 (C6 c)),.int .i64 n]=some (C9 (FZ c.1 c.2 n.toNat)):=
 D7 (fun⟨a0,a1⟩ ⟨b0,b1⟩ h=>by simp only[Aa,D.int.injEq,D.agg.injEq,L5,true_and,and_true]at h; simp[h,Cv]) (c,n) h
theorem yZn(c:Int×Dig)(n:Int)(h:0≤n∧n≤60):@wW GG (tb [(20,PD),(95,PX),(25,OL)] []) ZF.code (Dc [.agg (.int .i64 (C5 c)::C8 (C6 c)),.int .i64 n]) [] ⟨Dn ZF.res (C9 (FZ c.1 c.2 n.toNat))⟩:=by
 obtain⟨s,root⟩:=c;obtain⟨J,M⟩:=h;dsimp only;unfold ZF;simp (disch:=omega) only[push_cast,↓E3,↓reduceIte,CI,CP,CJ,QD,Hy,oE];refine F9 (fun i:Nat=>[(2,.ptr 0 0),(4,.ptr 1 0),(5,.ptr 2 0),(6,.ptr 3 0),(11,.int .i64 n),(12,.int .i64 (i:Int))]) (fun i=>[⟨false,1,.int .i64 s::C8 root,false⟩,⟨false,1,C8 Du,false⟩,⟨false,1,C8 (FZ s root i),false⟩,⟨false,1,C8 (EL i),false⟩]) (fun i=>(i:Int)≤n) (fun i=>(n - i).toNat) 0 (by simp only[push_cast,↓reduceIte,CI,CP,CN,CJ,↓CM] <;> rfl) (by omega) ?_;intro i hi;unfold mY;simp (disch:=omega) only[push_cast,↓reduceIte,CI];refine EU (fun I=>?_) (fun I=>?_)
 ·simp (disch:=first|omega|decide) only[push_cast,↓reduceIte,CI,NT,RR,I];refine EU (fun E=>?_) (fun E=>?_)
  ·simp (disch:=first|omega|decide) only[push_cast,↓reduceIte,CI,CP,CN,CJ,HP,DN,E];refine E2 (i+1) (by omega) (by omega) ?_;rw[show FZ s root (i+1)=ET (FZ s root i) (EL i)from if_pos E];simp only[push_cast] <;> rfl
  ·simp (disch:=first|omega|decide) only[push_cast,↓reduceIte,CI,CP,CN,CJ,HP,DN,E];refine E2 (i+1) (by omega) (by omega) ?_;rw[show FZ s root (i+1)=FZ s root i from if_neg E];simp only[push_cast] <;> rfl
 ·have e:n.toNat=i:=by omega
  rw[e];simp (disch:=omega) only[push_cast,↓reduceIte,CI,CJ,I]
theorem Yg6:Contract Tryz.prog GG 76 eu:=
 Ed yJ (DI (all_cons S2 (all_cons Si (all_cons R5 all_nil))) all_nil) (fun a h=>yZn a.1 a.2 h)
theorem Ee(st:St)(n sz key off:Nat)(k:IntKind)(i:Int)(E:0≤i)(I:i<(n:Int)):Jr st n sz (.ptr key off) (.int k i)=some (.ptr key (off+i.toNat*sz)):=by
 simp only[Jr,QE k i E,Fw];rw[if_pos (by omega)]
def Mw(a b:Int×Dig):Bis:=⟨max (D1 a.1) (D1 b.1),max (D1 a.1) (D1 b.1),0,FZ a.1 a.2 (max (D1 a.1) (D1 b.1)).toNat,FZ b.1 b.2 (max (D1 a.1) (D1 b.1)).toNat,false,false,Du,Du,Du,Du,0⟩
def Lz(a b:Int×Dig):Bis:=if D1 a.1<0 then Gz else if D1 b.1<0 then Gz else if(Mw a b).n0=(Mw a b).n1 then Gz else Mw a b
def Hb(a b:Int×Dig):Int:=if D1 a.1<0 then 1 else if D1 b.1<0 then 1 else if(Mw a b).n0=(Mw a b).n1 then 380 else 0
theorem Zj(n:Int):-1≤D1 n∧D1 n≤16:=by
 by_cases h:n<0∨65536<n
 ·rw[Uo h]; omega
 ·have:=NP (n:=n) (by omega) (by omega);omega
noncomputable def PQ:List D→Option D:=Dk (α:=(Int×Dig)×(Int×Dig)) (fun a=>[.agg (.int .i64 (C5 a.1)::C8 (C6 a.1)),.agg (.int .i64 (C5 a.2)::C8 (C6 a.2))]) (fun a=>True) (fun a=>.tup [Ea (Lz a.1 a.2),.int .i64 (Hb a.1 a.2)])
theorem eU(a:Int×Dig)(b:Int×Dig):PQ [.agg (.int .i64 (C5 a)::C8 (C6 a)),.agg (.int .i64 (C5 b)::C8 (C6 b))]=some (.tup [Ea (Lz a b),.int .i64 (Hb a b)]):=
 D7 (fun⟨a0,a1⟩ ⟨b0,b1⟩ h=>by simp only[Aa,D.int.injEq,D.agg.injEq,L5,true_and,and_true]at h; simp[h,Cv]) (a,b) trivial
set_option maxHeartbeats 4000000 in
set_option maxRecDepth 20000 in
theorem Yih(a:Int×Dig)(b:Int×Dig):@wW GG (tb [(25,OL),(76,eu)] []) Zs.code (Dc [.agg (.int .i64 (C5 a)::C8 (C6 a)),.agg (.int .i64 (C5 b)::C8 (C6 b))]) [] ⟨Dn Zs.res (.tup [Ea (Lz a b),.int .i64 (Hb a b)])⟩:=by
 obtain⟨s1,r1⟩:=a;obtain⟨s2,E⟩:=b;have d1:=Zj s1;have d2:=Zj s2;unfold Zs Lz Hb;dsimp only
 by_cases I:D1 s1<0
 ·simp (disch:=first|omega|decide) only[push_cast,↓reduceIte,CI,CJ,Hy,RR,NT,I]
 by_cases J:D1 s2<0
 ·simp (disch:=first|omega|decide) only[push_cast,↓reduceIte,CI,CJ,Hy,RR,NT,I,J]
 have c1:=lN (s1,r1) (max (D1 s1) (D1 s2)) ⟨by omega,by omega⟩;have M:=lN (s2,E) (max (D1 s1) (D1 s2)) ⟨by omega,by omega⟩;dsimp only at c1 M;have O:(Mw (s1,r1) (s2,E)).n0=FZ s1 r1 (max (D1 s1) (D1 s2)).toNat:=rfl;have U:(Mw (s1,r1) (s2,E)).n1=FZ s2 E (max (D1 s1) (D1 s2)).toNat:=rfl;have V:Mw (s1,r1) (s2,E)={Gz with h:=max (D1 s1) (D1 s2),l:=max (D1 s1) (D1 s2),n0:=FZ s1 r1 (max (D1 s1) (D1 s2)).toNat,n1:=FZ s2 E (max (D1 s1) (D1 s2)).toNat}:=rfl;rw[O,U,V];generalize FZ s1 r1 (max (D1 s1) (D1 s2)).toNat=p1 at*;generalize FZ s2 E (max (D1 s1) (D1 s2)).toNat=Y at*
 by_cases N:p1=Y
 ·simp (disch:=first|omega|decide) only[push_cast,↓reduceIte,CI,CJ,CO,Hy,RR,Ll,NT,I,J,c1,M,N,Ow,Ee]
 ·simp (disch:=first|omega|decide) only[push_cast,↓reduceIte,CI,CJ,CO,Hy,RR,Ll,NT,I,J,c1,M,N,Ow,Ee]
theorem gY:Contract Tryz.prog GG 26 PQ:=
 Ed yBw (DI (all_cons R5 (all_cons Yg6 all_nil)) all_nil) (fun a h=>Yih a.1 a.2)
def kK(x:Bis)(p:Int):Bool:=if p=0 then x.t0 else x.t1
def SN(x:Bis)(p:Int):Dig:=if p=0 then x.n0 else x.n1
def Ji(x:Bis)(p:Int)(l r:Dig):Bis:=if p=0 then {x with t0:=true,l0:=l,r0:=r} else {x with t1:=true,l1:=l,r1:=r}
def XU(x:Bis):Bis:=if x.l0=x.l1 then {Gz with h:=x.h,l:=x.l - 1,i:=2*x.i+1,n0:=x.r0,n1:=x.r1,r:=x.r+1} else {Gz with h:=x.h,l:=x.l - 1,i:=2*x.i,n0:=x.l0,n1:=x.l1,r:=x.r+1}
def F5(x:Bis)(p:Int)(l r:Dig):Bis:=if La x=true∧(p=0∨p=1)then(if x.l=0∨kK x p=true then Gz else if ET l r=SN x p then(if kK x (1 - p)=true then XU (Ji x p l r)else Ji x p l r)else Gz)else Gz
def GC(x:Bis)(p:Int)(l r:Dig):Int:=if La x=true∧(p=0∨p=1)then(if x.l=0∨kK x p=true then 380 else if ET l r=SN x p then 0 else 381)else 1
theorem xg{x:Bis}(h:La x=true):x.i<65536:=by
 obtain⟨a,b,c,d,e,f,g⟩:=eR h;have:=bX (a:=(x.h - x.l).toNat) (b:=16) (by omega);omega
noncomputable def iB:List D→Option D:=Dk (α:=Bis×Int×Dig×Dig) (fun a=>[Ea a.1,.int .i64 a.2.1,C9 a.2.2.1,C9 a.2.2.2]) (fun a=>-9223372036854775808≤a.2.1∧a.2.1<9223372036854775808) (fun a=>.tup [Ea (F5 a.1 a.2.1 a.2.2.1 a.2.2.2),.int .i64 (GC a.1 a.2.1 a.2.2.1 a.2.2.2)])
theorem yY1(x:Bis)(p:Int)(l:Dig)(r:Dig)(h:-9223372036854775808≤p∧p<9223372036854775808):iB [Ea x,.int .i64 p,C9 l,C9 r]=some (.tup [Ea (F5 x p l r),.int .i64 (GC x p l r)]):=
 D7 (fun⟨a0,a1,E,I⟩ ⟨b0,b1,J,M⟩ h=>by simp only[Aa,D.int.injEq,KZ,true_and,and_true,bR]at h; simp[h]) (x,p,l,r) h
set_option maxHeartbeats 4000000 in
set_option maxRecDepth 20000 in
theorem Yq7(x:Bis)(p:Int)(l:Dig)(r:Dig)(h:-9223372036854775808≤p∧p<9223372036854775808):@wW GG (tb [(77,Yo),(95,PX)] []) ZS.code (Dc [Ea x,.int .i64 p,C9 l,C9 r]) [] ⟨Dn ZS.res (.tup [Ea (F5 x p l r),.int .i64 (GC x p l r)])⟩:=by
 unfold ZS
 by_cases hv:La x=true
 ·have O:=eV x;rw[hv]at O
  by_cases hp:p=0∨p=1
  ·obtain⟨v1,v2,v3,v4,v5,v6,v7⟩:=eR hv;have v8:=xg hv;rcases hp with rfl | rfl
   ·have Y:¬ (1:Int)=0:=by decide
    by_cases E:x.l=0
    ·have I:F5 x 0 l r=Gz:=by unfold F5; rw[if_pos ⟨hv,.inl rfl⟩,if_pos (.inl E)]
     have J:GC x 0 l r=380:=by unfold GC; rw[if_pos ⟨hv,.inl rfl⟩,if_pos (.inl E)]
     rw[I,J];simp (disch:=first|omega|decide) only[push_cast,↓reduceIte,CI,CJ,O,E]
    by_cases M:x.t0=true
    ·have I:F5 x 0 l r=Gz:=by unfold F5; rw[if_pos ⟨hv,.inl rfl⟩,if_pos (.inr M)]
     have J:GC x 0 l r=380:=by unfold GC; rw[if_pos ⟨hv,.inl rfl⟩,if_pos (.inr M)]
     rw[I,J];simp (disch:=first|omega|decide) only[push_cast,↓reduceIte,CI,CJ,CO,O,E,M,Ee]
    have U:x.t0=false:=by simpa using M
    by_cases N:ET l r=x.n0
    ·by_cases V:x.t1=true
     ·have I:F5 x 0 l r=XU (Ji x 0 l r):=by unfold F5; rw[if_pos ⟨hv,.inl rfl⟩,if_neg (by intro h; rcases h with h | h; exact E h; exact M h),if_pos (show ET l r=SN x 0 from N)]; exact if_pos V
      have J:GC x 0 l r=0:=by unfold GC; rw[if_pos ⟨hv,.inl rfl⟩,if_neg (by intro h; rcases h with h | h; exact E h; exact M h)]; exact if_pos N
      rw[I,J,show Ji x 0 l r={x with t0:=true,l0:=l,r0:=r} from rfl];unfold XU
      by_cases h5:l=x.l1
      ·simp (disch:=first|omega|decide) only[push_cast,↓E3,↓reduceIte,CI,CJ,CO,CZ,C3,O,E,U,N,V,← h5,Ee,HP,E1,NX,DN,Ow]
      ·simp (disch:=first|omega|decide) only[push_cast,↓E3,↓reduceIte,CI,CJ,CO,CZ,C3,O,E,U,N,V,h5,Ee,HP,E1,NX,DN,Ow]
     ·have ac:x.t1=false:=by simpa using V
      have I:F5 x 0 l r=Ji x 0 l r:=by unfold F5; rw[if_pos ⟨hv,.inl rfl⟩,if_neg (by intro h; rcases h with h | h; exact E h; exact M h),if_pos (show ET l r=SN x 0 from N)]; exact if_neg V
      have J:GC x 0 l r=0:=by unfold GC; rw[if_pos ⟨hv,.inl rfl⟩,if_neg (by intro h; rcases h with h | h; exact E h; exact M h)]; exact if_pos N
      rw[I,J,show Ji x 0 l r={x with t0:=true,l0:=l,r0:=r} from rfl];simp (disch:=first|omega|decide) only[push_cast,↓E3,↓reduceIte,CI,CJ,CO,CZ,C3,O,E,U,N,ac,Ee,HP,E1]
    ·have I:F5 x 0 l r=Gz:=by unfold F5; rw[if_pos ⟨hv,.inl rfl⟩,if_neg (by intro h; rcases h with h | h; exact E h; exact M h)]; exact if_neg N
     have J:GC x 0 l r=381:=by unfold GC; rw[if_pos ⟨hv,.inl rfl⟩,if_neg (by intro h; rcases h with h | h; exact E h; exact M h)]; exact if_neg N
     rw[I,J];simp (disch:=first|omega|decide) only[push_cast,↓reduceIte,CI,CJ,CO,O,E,U,N,Ee,HP]
   ·have Y:¬ (1:Int)=0:=by decide
    by_cases E:x.l=0
    ·have I:F5 x 1 l r=Gz:=by unfold F5; rw[if_pos ⟨hv,.inr rfl⟩,if_pos (.inl E)]
     have J:GC x 1 l r=380:=by unfold GC; rw[if_pos ⟨hv,.inr rfl⟩,if_pos (.inl E)]
     rw[I,J];simp (disch:=first|omega|decide) only[push_cast,↓reduceIte,CI,CJ,O,E,Y]
    by_cases M:x.t1=true
    ·have I:F5 x 1 l r=Gz:=by unfold F5; rw[if_pos ⟨hv,.inr rfl⟩,if_pos (.inr M)]
     have J:GC x 1 l r=380:=by unfold GC; rw[if_pos ⟨hv,.inr rfl⟩,if_pos (.inr M)]
     rw[I,J];simp (disch:=first|omega|decide) only[push_cast,↓reduceIte,CI,CJ,CO,O,E,M,Y,Ee]
    have U:x.t1=false:=by simpa using M
    by_cases N:ET l r=x.n1
    ·by_cases V:x.t0=true
     ·have I:F5 x 1 l r=XU (Ji x 1 l r):=by unfold F5; rw[if_pos ⟨hv,.inr rfl⟩,if_neg (by intro h; rcases h with h | h; exact E h; exact M h),if_pos (show ET l r=SN x 1 from N)]; exact if_pos V
      have J:GC x 1 l r=0:=by unfold GC; rw[if_pos ⟨hv,.inr rfl⟩,if_neg (by intro h; rcases h with h | h; exact E h; exact M h)]; exact if_pos N
      rw[I,J,show Ji x 1 l r={x with t1:=true,l1:=l,r1:=r} from rfl];unfold XU
      by_cases h5:l=x.l0
      ·simp (disch:=first|omega|decide) only[push_cast,↓E3,↓reduceIte,CI,CJ,CO,CZ,C3,O,E,U,N,V,Y,← h5,Ee,HP,E1,NX,DN,Ow]
      ·have h6:¬ x.l0=l:=fun h=>h5 h.symm;simp (disch:=first|omega|decide) only[push_cast,↓E3,↓reduceIte,CI,CJ,CO,CZ,C3,O,E,U,N,V,h5,h6,Y,Ee,HP,E1,NX,DN,Ow]
     ·have ac:x.t0=false:=by simpa using V
      have I:F5 x 1 l r=Ji x 1 l r:=by unfold F5; rw[if_pos ⟨hv,.inr rfl⟩,if_neg (by intro h; rcases h with h | h; exact E h; exact M h),if_pos (show ET l r=SN x 1 from N)]; exact if_neg V
      have J:GC x 1 l r=0:=by unfold GC; rw[if_pos ⟨hv,.inr rfl⟩,if_neg (by intro h; rcases h with h | h; exact E h; exact M h)]; exact if_pos N
      rw[I,J,show Ji x 1 l r={x with t1:=true,l1:=l,r1:=r} from rfl];simp (disch:=first|omega|decide) only[push_cast,↓E3,↓reduceIte,CI,CJ,CO,CZ,C3,O,E,U,N,ac,Y,Ee,HP,E1]
    ·have I:F5 x 1 l r=Gz:=by unfold F5; rw[if_pos ⟨hv,.inr rfl⟩,if_neg (by intro h; rcases h with h | h; exact E h; exact M h)]; exact if_neg N
     have J:GC x 1 l r=381:=by unfold GC; rw[if_pos ⟨hv,.inr rfl⟩,if_neg (by intro h; rcases h with h | h; exact E h; exact M h)]; exact if_neg N
     rw[I,J];simp (disch:=first|omega|decide) only[push_cast,↓reduceIte,CI,CJ,CO,O,E,U,N,Y,Ee,HP]
  ·have I:F5 x p l r=Gz:=by unfold F5; exact if_neg fun h=>hp h.2
   have J:GC x p l r=1:=by unfold GC; exact if_neg fun h=>hp h.2
   have p0:¬ p=0:=fun h=>hp (.inl h);have p1:¬ p=1:=fun h=>hp (.inr h);rw[I,J];simp (disch:=first|omega|decide) only[push_cast,↓reduceIte,CI,CJ,O,p0,p1]
 ·have ad:La x=false:=by simpa using hv
  have O:=eV x;rw[ad]at O;have I:F5 x p l r=Gz:=by unfold F5; exact if_neg fun h=>hv h.1
  have J:GC x p l r=1:=by unfold GC; exact if_neg fun h=>hv h.1
  rw[I,J];simp (disch:=first|omega|decide) only[push_cast,↓reduceIte,CI,CJ,O]
theorem Ywh:Contract Tryz.prog GG 122 iB:=
 Ed yX (DI (all_cons ow (all_cons Si all_nil)) all_nil) (fun a h=>Yq7 a.1 a.2.1 a.2.2.1 a.2.2.2 h)
noncomputable def Yja:List D→Option D:=Dk (α:=Bis×Int×Dig×Dig) (fun a=>[Ea a.1,.int .i64 a.2.1,C9 a.2.2.1,C9 a.2.2.2]) (fun a=>-9223372036854775808≤a.2.1∧a.2.1<9223372036854775808) (fun a=>.tup [Ea (F5 a.1 a.2.1 a.2.2.1 a.2.2.2),.int .i64 (GC a.1 a.2.1 a.2.2.1 a.2.2.2)])
theorem Yxe(x:Bis)(p:Int)(l:Dig)(r:Dig)(h:-9223372036854775808≤p∧p<9223372036854775808):Yja [Ea x,.int .i64 p,C9 l,C9 r]=some (.tup [Ea (F5 x p l r),.int .i64 (GC x p l r)]):=
 D7 (fun⟨a0,a1,E,I⟩ ⟨b0,b1,J,M⟩ h=>by simp only[Aa,D.int.injEq,KZ,true_and,and_true,bR]at h; simp[h]) (x,p,l,r) h
theorem Jb(st:St)(a b:Dig):D9 st (E5 a b)=some (E5 a b):=Sz st (qE a b)
def My(x:Bis):Bool:=La x && decide (x.l≤0)
def LM(x:Bis):Int:=if My x=true then x.i else 0
def IT(x:Bis):Dig:=if My x=true then x.n0 else Du
def IU(x:Bis):Dig:=if My x=true then x.n1 else Du
noncomputable def TW:List D→Option D:=Dk (α:=Bis) (fun a=>[Ea a]) (fun a=>True) (fun a=>.tup [.int .i64 (LM a),.agg (E5 (IT a) (IU a)),.bool (My a)])
theorem Yw(x:Bis):TW [Ea x]=some (.tup [.int .i64 (LM x),.agg (E5 (IT x) (IU x)),.bool (My x)]):=
 D7 (fun a b h=>by simp only[Aa,and_true,bR]at h; simp[h]) (x) trivial
set_option maxHeartbeats 4000000 in
set_option maxRecDepth 20000 in
theorem Yq6(x:Bis):@wW GG (tb [(77,Yo)] []) Zl.code (Dc [Ea x]) [] ⟨Dn Zl.res (.tup [.int .i64 (LM x),.agg (E5 (IT x) (IU x)),.bool (My x)])⟩:=by
 have E:=eV x;unfold Zl LM IT IU My
 by_cases hv:La x=true
 ·rw[hv]at E ⊢
  by_cases J:0<x.l
  ·have I:¬ x.l≤0:=by omega
   simp (disch:=first|omega|decide) only[push_cast,↓reduceIte,CI,Jb,E,J,I]
  ·have I:x.l≤0:=by omega
   simp (disch:=first|omega|decide) only[push_cast,↓reduceIte,CI,Jb,E,J,I]
 ·have M:La x=false:=by simpa using hv
  rw[M]at E ⊢;simp (disch:=first|omega|decide) only[push_cast,↓reduceIte,CI,Jb,E]
theorem fG:Contract Tryz.prog GG 88 TW:=
 Ed yE0 (DI (all_cons ow all_nil) all_nil) (fun a h=>Yq6 a)
structure Ky where
 kd:Int
 wg:Int
 rr:Int
 rn:Int
 pt:Int
 deriving DecidableEq,Inhabited
def HR(k:Ky):List D:=[.int .i64 k.kd,.int .i64 k.wg,.int .i64 k.rr,.int .i64 k.rn,.int .i64 k.pt]
def D4(k:Ky):D:=.agg (HR k)
abbrev Dx(l:List Ky):D:=.slc (nz 5 (l.map D4)) (l.map D4) false
theorem xz{a b:Ky}:HR a=HR b↔a=b:=by
 refine⟨fun h=>?_,fun h=>by rw[h]⟩;obtain⟨a1,E,I,J,M⟩:=a;obtain⟨b1,N,O,U,V⟩:=b;simp only[HR,Aa,D.int.injEq,true_and,and_true]at h;obtain⟨rfl,rfl,rfl,rfl,rfl⟩:=h;rfl
theorem bo{a b:Ky}:D4 a=D4 b↔a=b:=by simp only[D4,D.agg.injEq,xz]
variable {a b:List Ky}
theorem bp:a.map D4=b.map D4↔a=b:=by
 refine⟨fun h=>?_,fun h=>by rw[h]⟩
 induction a generalizing b with
 |nil=>cases b with
  |nil=>rfl
  |cons y b=>simp at h
 |cons x a E=>cases b with
  |nil=>simp at h
  |cons y b=>
   simp only[Aw,Aa,bo]at h;rw[h.1,E h.2]
theorem cS:Dx a=Dx b↔a=b:=by
 simp only[Dx,D.slc.injEq,and_true,bp];exact⟨fun h=>h.2,fun h=>⟨by rw[h],h⟩⟩
theorem Yho{a b:List Bool}:a.map D.bool=b.map D.bool↔a=b:=by
 refine⟨fun h=>?_,fun h=>by rw[h]⟩
 induction a generalizing b with
 |nil=>cases b with
  |nil=>rfl
  |cons y b=>simp at h
 |cons x a E=>cases b with
  |nil=>simp at h
  |cons y b=>
   simp only[Aw,Aa,D.bool.injEq]at h;rw[h.1,E h.2]
structure Cse where
 key:Ky
 p0:Int
 p1:Int
 ph:Int
 dl:Int
 a0:Int
 a1:Int
 c0:Int×Dig
 c1:Int×Dig
 b:Bis
 wn:Int
 am:Int
 ct:Int
 jn:List Ky
 deriving DecidableEq
def JX(x:Bis):List Sg:=[.c (.int .i64 x.h),.c (.int .i64 x.l),.c (.int .i64 x.i),.g x.n0,.g x.n1,.c (.bool x.t0),.c (.bool x.t1),.g x.l0,.g x.l1,.g x.r0,.g x.r1,.c (.int .i64 x.r)]
theorem RX(x:Bis):Dh (JX x)=Di x:=by simp[Dh,JX,Di,Sg.cs]
def KM(k:Ky):List Sg:=[.c (.int .i64 k.kd),.c (.int .i64 k.wg),.c (.int .i64 k.rr),.c (.int .i64 k.rn),.c (.int .i64 k.pt)]
theorem vb(k:Ky):Dh (KM k)=HR k:=rfl
def EE(x:Cse)(j:D):List Sg:=KM x.key++[.c (.int .i64 x.p0),.c (.int .i64 x.p1),.c (.int .i64 x.ph),.c (.int .i64 x.dl),.c (.int .i64 x.a0),.c (.int .i64 x.a1),.c (.int .i64 x.c0.1),.g x.c0.2,.c (.int .i64 x.c1.1),.g x.c1.2]++JX x.b++[.c (.int .i64 x.wn),.c (.int .i64 x.am),.c (.int .i64 x.ct),.c j]
def Dg(x:Cse)(j:D):List D:=Dh (EE x j)
def Dt(x:Cse):D:=.agg (Dg x (Dx x.jn))
theorem HU(x:Cse)(j:D):Kz (EE x j):=trivial
theorem M4(x:Cse)(j:D):(Dg x j).length=279:=by
 rw[Dg,Oy (HU x j)]; simp[II,EE,KM,JX,Sg.sz]
variable {j:D}
theorem gF{x y:Cse}{i:D}(h:Dg x i=Dg y j):({x with jn:=[]}:Cse)={y with jn:=[]}∧i=j:=by
 obtain⟨J,x0,x1,x2,x3,x4,x5,M,N,xb,x6,x7,x8,xj⟩:=x;obtain⟨O,y0,y1,y2,y3,y4,y5,U,V,yb,y6,y7,y8,yj⟩:=y;obtain⟨a2,a3,a4,a5,a6⟩:=J;obtain⟨a7,a8,a9,ba,bb⟩:=O;obtain⟨bc,bd⟩:=M;obtain⟨be,bf⟩:=N;obtain⟨bg,bh⟩:=U;obtain⟨b1,b2⟩:=V;simp only[Dg,EE,KM,Ae,Ai,Dh,Sg.cs,L7,RX,Aa,D.int.injEq,true_and,Ad]at h;obtain⟨rfl,rfl,rfl,rfl,rfl,rfl,rfl,rfl,rfl,rfl,rfl,rfl,h⟩:=h;obtain⟨Y,E⟩:=A5 h (by simp[DX]);clear h;simp only[Aa,D.int.injEq,true_and]at E;obtain⟨q1,h3⟩:=E;obtain⟨h4,h5⟩:=A5 h3 (by simp[DX]);obtain⟨h6,I⟩:=A5 h5 (by simp[Ux]);simp only[Aa,D.int.injEq,true_and,and_true]at I;obtain⟨q2,q3,q4,q5⟩:=I;subst q1 q2 q3 q4 q5;obtain rfl:=ME Y;obtain rfl:=ME h4;obtain rfl:=ot h6;exact⟨rfl,rfl⟩
theorem OH{x y:Cse}:Dt x=Dt y↔x=y:=by
 refine⟨fun h=>?_,fun h=>by rw[h]⟩;simp only[Dt,D.agg.injEq]at h;obtain⟨E,I⟩:=gF h;rw[cS]at I;obtain⟨J,M,N,O,U,V,Y,xc,xe,xb,x6,x7,x8,xj⟩:=x;obtain⟨yk,y0,y1,y2,y3,y4,y5,yc,ye,yb,y6,y7,y8,yj⟩:=y;simp only[Cse.mk.injEq,and_true]at E I ⊢;exact⟨E.1,E.2.1,E.2.2.1,E.2.2.2.1,E.2.2.2.2.1,E.2.2.2.2.2.1,E.2.2.2.2.2.2.1,E.2.2.2.2.2.2.2.1,E.2.2.2.2.2.2.2.2.1,E.2.2.2.2.2.2.2.2.2.1,E.2.2.2.2.2.2.2.2.2.2.1,E.2.2.2.2.2.2.2.2.2.2.2.1,E.2.2.2.2.2.2.2.2.2.2.2.2,I⟩
def aS:Ky:=⟨0,0,0,0,0⟩
def GZ:Cse:=⟨aS,0,0,0,0,0,0,(0,Du),(0,Du),Gz,0,0,0,[]⟩
structure Mv where
 kd:Int
 pt:Int
 am:Int
 cm:Int×Dig
 lf:Dig
 rt:Dig
 op:Opn
 path:List Dig
 key:Ky
 deriving DecidableEq
abbrev IL(l:List Dig):D:=.slc (nz 32 (l.map C9)) (l.map C9) false
def HB(o:Opn)(t:D):List Sg:=[.c (.int .i64 o.pc),.c (.int .i64 o.fuel),.c (.int .i64 o.status),.c (.int .i64 o.clause),.c t,.c (.int .i64 o.depth),.g o.rest]
theorem Vh(o:Opn):Dh (HB o (EB o.top))=EW o:=by simp[Dh,HB,EW,Sg.cs]
def N0(m:Mv):List Sg:=[.c (.int .i64 m.kd),.c (.int .i64 m.pt),.c (.int .i64 m.am),.c (.int .i64 m.cm.1),.g m.cm.2,.g m.lf,.g m.rt]++HB m.op (EB m.op.top)++[.c (IL m.path)]++KM m.key
def I5(m:Mv):List D:=Dh (N0 m)
def G0(m:Mv):D:=.agg (I5 m)
theorem kI(m:Mv):Kz (N0 m):=trivial
theorem YG(m:Mv):(I5 m).length=144:=by
 rw[I5,Oy (kI m)]; simp[II,N0,HB,KM,Sg.sz]
theorem fQ{x y:Mv}:G0 x=G0 y↔x=y:=by
 refine⟨fun h=>?_,fun h=>by rw[h]⟩;obtain⟨x1,x2,x3,⟨x4,x5⟩,x6,x7,x8,x9,Y⟩:=x;obtain⟨y1,y2,y3,⟨y4,y5⟩,y6,y7,y8,y9,aa⟩:=y;simp only[G0,D.agg.injEq,I5,N0,L7,Vh,Aj]at h;simp only[Dh,Sg.cs,Ae,Ai,Aa,D.int.injEq,true_and,Ad,Aj]at h;obtain⟨rfl,rfl,rfl,rfl,h⟩:=h;obtain⟨I,g1⟩:=A5 h (by simp[DX]);obtain⟨J,g2⟩:=A5 g1 (by simp[DX]);obtain⟨M,N⟩:=A5 g2 (by simp[DX]);obtain⟨O,E⟩:=A5 N (by simp[J8,Uu]);simp only[Aa,IL,D.slc.injEq,and_true,Li,vb,xz]at E;obtain⟨⟨_,U⟩,V⟩:=E;subst U V;obtain rfl:=ME I;obtain rfl:=ME J;obtain rfl:=ME M;obtain rfl:=Se.1 (congrArg D.agg O);rfl
structure Ply where
 x:Cse
 j:D
 c:List Ins
 v:Int×List Int
 m:Mv
 now:Int
 hv:EA v
def Ew(p:Ply):List Sg:=EE p.x p.j++[.c (Et p.c),.w 17 (D2 p.v)]++N0 p.m++[.c (.int .i64 p.now)]
def Df(p:Ply):List D:=Dh (Ew p)
theorem GX(p:Ply):Kz (Ew p):=⟨HQ p.hv,trivial⟩
theorem yPx(p:Ply):(Df p).length=442:=by
 rw[Df,Oy (GX p)]; simp[II,Ew,EE,N0,HB,JX,KM,Sg.sz]
def EI(n:Int):Prop:=-9007199254740992≤n∧n≤9007199254740992
instance (n:Int):Decidable (EI n):=inferInstanceAs (Decidable (_∧_))
def K7(x:Cse):Prop:=x.ph=4∨x.ph=5∨x.ph=6
instance (x:Cse):Decidable (K7 x):=inferInstanceAs (Decidable (_∨_))
def Hh(x:Cse):Prop:=x.ph=1∨x.ph=2∨x.ph=3
instance (x:Cse):Decidable (Hh x):=inferInstanceAs (Decidable (_∨_))
def Km(x:Cse)(w a:Int):Cse:={x with ph:=4,wn:=w,am:=a}
def SD(x:Cse)(p:Int):Int:=if p=0 then x.a0 else x.a1
def Jp(x:Cse)(p:Int):Int×Dig:=if p=0 then x.c0 else x.c1
def Gk(x:Cse)(p:Int):Cse:=if p<0 then Km x (-1) 0 else Km x p (SD x p)
def JR(x:Cse)(n:Int):Int:=if x.a0=n then 0 else if x.a1=n then 1 else -1
def ML(x:Cse)(n:Int):Cse:=Km x (JR x n) n
def Ra(x:Cse)(now:Int):Cse:={x with ph:=3,dl:=now+1440}
def K8(c:List Ins)(v:Int×List Int)(x:Cse)(now:Int):Cse×Int:=
 if My x.b=true then
  if LM x.b=0 then
   if(HV c v).2=0 then(Gk x (HJ (IT x.b,IU x.b) (HV c v)).1,0)else(x,(HV c v).2)
  else(Ra x now,0)
 else(x,0)
def M8(c:List Ins)(v:Int×List Int)(x:Cse)(m:Mv)(now:Int):Cse×Int:=
 if m.pt=1∧x.ph=1 then
  if EI m.am then
   let y:Cse:={x with a1:=m.am,c1:=m.cm}
   if Hb x.c0 m.cm=1 then(y,381)
   else if Hb x.c0 m.cm=0 then K8 c v {y with b:=Lz x.c0 m.cm,ph:=2,dl:=now+1440} now
   else if x.a0=m.am then(Gk y 1,0)
   else if c.length=0 then(ML y 0,0)
   else(Ra y now,0)
  else(x,1)
 else(x,380)
def SE(c:List Ins)(v:Int×List Int)(x:Cse)(m:Mv)(now:Int):Cse×Int:=
 if x.ph=2 then
  if GC x.b m.pt m.lf m.rt=0 then
   if(F5 x.b m.pt m.lf m.rt).r=x.b.r then({x with b:=F5 x.b m.pt m.lf m.rt},0)
   else K8 c v {x with b:=F5 x.b m.pt m.lf m.rt,dl:=now+1440} now
  else(x,GC x.b m.pt m.lf m.rt)
 else(x,380)
def GN(x:Cse)(p:Int):Int:=if Hb x.c0 x.c1=380 then(Jp x p).1 else if Hb x.c0 x.c1=0 then LM x.b else 0
def Hw(x:Cse)(p:Int):Int×Bool:=
 if x.ph=3∧(p=0∨p=1)then
  if GN x p=0 then(0,false)else(GN x p - 1,true)
 else(0,false)
def SG(l:List Int):Int:=l.getD (l.length - 1) 0
def Ng(c:List Ins)(v:Int×List Int)(x:Cse)(m:Mv):Cse×Int:=
 if(Hw x m.pt).2=true then
  if Hb x.c0 x.c1=380 then
   if GA (Jp x m.pt) (Hw x m.pt).1 (FV c v m.op) m.path=true then
    if m.op.status≠0∧(m.op.status≠1∨0<m.op.top.length)then(ML x (if m.op.status=1 then SG m.op.top else 0),0)
    else(x,390)
   else(x,40)
  else
   let i:=(Hw x m.pt).1
   let bef:=if(Jp x m.pt).1≤i then DU else FV c v m.op
   if 2 ^ (D1 (Jp x m.pt).1).toNat≤i∨GA (Jp x m.pt) i bef m.path=true then
    if(F7 c v bef m.op).2=0 then(Gk x (HJ (IT x.b,IU x.b) (F7 c v bef m.op)).1,0)
    else(x,(F7 c v bef m.op).2)
   else(x,40)
 else(x,380)
def SW(x:Cse)(m:Mv):Cse×Int:=if m.pt=0 then({x with ph:=5,wn:=1},0)else(x,380)
def Q4(x:Cse)(m:Mv):Cse×Int:=if m.pt=1 then(Gk x 0,0)else if 0≤x.ct then(Km x 1 x.ct,0)else(x,380)
def Q5(x:Cse)(m:Mv)(now:Int):Cse×Int:=
 if m.pt=1∧x.ph=1∧x.ct<0 then
  if 0≤m.am∧EI m.am then({x with ct:=m.am,dl:=now+1440},0)else(x,1)
 else(x,380)
def IV(x:Cse)(m:Mv):Cse×Int:=
 if m.pt=0∧x.ph=1 then
  if x.jn.length<8 then
   if m.key≠x.key∧m.key∉x.jn then({x with jn:=x.jn++[m.key]},0)else(x,1)
  else(x,2)
 else(x,380)
def Gw(c:List Ins)(v:Int×List Int)(x:Cse)(m:Mv)(now:Int):Cse×Int:=
 if m.kd=1 then M8 c v x m now
 else if m.kd=2 then SE c v x m now
 else if m.kd=3 then Ng c v x m
 else if m.kd=4 then SW x m
 else if m.kd=5 then Q4 x m
 else if m.kd=6 then Q5 x m now
 else IV x m
def FQ(c:List Ins)(v:Int×List Int)(x:Cse)(m:Mv)(now:Int):Int:=
 if Hh x then
  if(1≤m.kd∧m.kd≤7)∧0≤now∧now≤1073741824∧(m.pt=0∨m.pt=1)then
   if now≤x.dl then(Gw c v x m now).2 else 401
  else 1
 else 400
def GD(c:List Ins)(v:Int×List Int)(x:Cse)(m:Mv)(now:Int):Cse:=if FQ c v x m now=0 then(Gw c v x m now).1 else GZ
def FW(p q n:Int)(c:Int×Dig)(now:Int):Int:=
 if min p q<0∨16≤max p q∨p=q∨¬ EI n∨now<0∨1073741824<now then 1 else if c.1<0∨65536<c.1 then 381 else 0
def KY(k:Ky)(p q n:Int)(c:Int×Dig)(now:Int):Cse:=
 if FW p q n c now=0 then⟨k,p,q,1,now+1440,n,0,c,(0,Du),Gz,-1,0,-1,[]⟩else GZ
def Ih(x:Cse):Int:=if x.ph=1 then 0 else if x.ph=2∧x.b.t0≠x.b.t1 then(if x.b.t0=true then 0 else 1)else -1
def LU(x:Cse)(now:Int):Cse:=if Hh x∧x.dl<now then {Gk x (Ih x)with ph:=6} else x
section
variable (p:Ply) (sz:Nat) (lent:Bool)
theorem Ij:Dy (some ⟨false,sz,Df p,lent⟩) 1 false 7=some (.int .i64 p.x.ph):=Ix (l:=Ew p) rfl rfl (GX p)
theorem aE:Dy (some ⟨false,sz,Df p,lent⟩) 1 false 9=some (.int .i64 p.x.a0):=Ix (l:=Ew p) rfl rfl (GX p)
theorem aF:Dy (some ⟨false,sz,Df p,lent⟩) 1 false 10=some (.int .i64 p.x.a1):=Ix (l:=Ew p) rfl rfl (GX p)
theorem lj:Dy (some ⟨false,sz,Df p,lent⟩) 1 false 274=some (.int .i64 p.x.b.r):=Ix (l:=Ew p) rfl rfl (GX p)
theorem Tg:Dy (some ⟨false,sz,Df p,lent⟩) 1 false 277=some (.int .i64 p.x.ct):=Ix (l:=Ew p) rfl rfl (GX p)
theorem XJ:Dy (some ⟨false,sz,Df p,lent⟩) 1 false 278=some p.j:=Ix (l:=Ew p) rfl rfl (GX p)
theorem Gv:Dy (some ⟨false,sz,Df p,lent⟩) 1 false 279=some (Et p.c):=Ix (l:=Ew p) rfl rfl (GX p)
theorem EN:Dy (some ⟨false,sz,Df p,lent⟩) 1 false 298=some (.int .i64 p.m.pt):=Ix (l:=Ew p) rfl rfl (GX p)
theorem NI:Dy (some ⟨false,sz,Df p,lent⟩) 1 false 299=some (.int .i64 p.m.am):=Ix (l:=Ew p) rfl rfl (GX p)
theorem IX:Dy (some ⟨false,sz,Df p,lent⟩) 1 false 435=some (IL p.m.path):=Ix (l:=Ew p) rfl rfl (GX p)
theorem Ytf:Dy (some ⟨false,sz,Df p,lent⟩) 1 false 441=some (.int .i64 p.now):=Ix (l:=Ew p) rfl rfl (GX p)
theorem bD:Dy (some ⟨false,sz,Df p,lent⟩) 5 true 0=some (D4 p.x.key):=Jw (l:=Ew p) rfl rfl (GX p) rfl
theorem gT:Dy (some ⟨false,sz,Df p,lent⟩) 279 true 0=some (.agg (Dg p.x p.j)):=Jw (l:=Ew p) rfl rfl (GX p) rfl
theorem Gf:Dy (some ⟨false,sz,Df p,lent⟩) 33 true 11=some (.agg (.int .i64 p.x.c0.1::C8 p.x.c0.2)):=Jw (l:=Ew p) rfl rfl (GX p) (by simp[Dh,Sg.cs])
theorem Gg:Dy (some ⟨false,sz,Df p,lent⟩) 33 true 44=some (.agg (.int .i64 p.x.c1.1::C8 p.x.c1.2)):=Jw (l:=Ew p) rfl rfl (GX p) (by simp[Dh,Sg.cs])
theorem Ie:Dy (some ⟨false,sz,Df p,lent⟩) 198 true 77=some (Ea p.x.b):=Jw (l:=Ew p) rfl rfl (GX p) (by rw[Ea,← RX]; rfl)
theorem GU:Dy (some ⟨false,sz,Df p,lent⟩) 17 true 280=some (Ez p.v):=Jw (l:=Ew p) rfl rfl (GX p) (by simp[Dh,Sg.cs,Ez])
theorem Th:Dy (some ⟨false,sz,Df p,lent⟩) 33 true 300=some (.agg (.int .i64 p.m.cm.1::C8 p.m.cm.2)):=Jw (l:=Ew p) rfl rfl (GX p) (by simp[Dh,Sg.cs])
theorem aG:Dy (some ⟨false,sz,Df p,lent⟩) 32 true 333=some (C9 p.m.lf):=Jw (l:=Ew p) rfl rfl (GX p) (by simp[Dh,Sg.cs,C9])
theorem aH:Dy (some ⟨false,sz,Df p,lent⟩) 32 true 365=some (C9 p.m.rt):=Jw (l:=Ew p) rfl rfl (GX p) (by simp[Dh,Sg.cs,C9])
theorem G8:Dy (some ⟨false,sz,Df p,lent⟩) 38 true 397=some (D0 p.m.op):=Jw (l:=Ew p) rfl rfl (GX p) (by rw[D0,← Vh]; rfl)
theorem bE:Dy (some ⟨false,sz,Df p,lent⟩) 5 true 436=some (D4 p.m.key):=Jw (l:=Ew p) rfl rfl (GX p) rfl
end
section
variable (p:Ply) (sz:Nat)
theorem U2(n:Int):DY (some ⟨false,sz,Df p,false⟩) 1 7 (.int .i64 n)=some ⟨false,sz,Df {p with x:={p.x with ph:=n}},false⟩:=L2 (l:=Ew p) (X:=[.c (.int .i64 n)]) rfl rfl (GX p) rfl rfl rfl rfl
theorem Yyj(n:Int):DY (some ⟨false,sz,Df p,false⟩) 1 8 (.int .i64 n)=some ⟨false,sz,Df {p with x:={p.x with dl:=n}},false⟩:=L2 (l:=Ew p) (X:=[.c (.int .i64 n)]) rfl rfl (GX p) rfl rfl rfl rfl
theorem Tb(n:Int):DY (some ⟨false,sz,Df p,false⟩) 1 10 (.int .i64 n)=some ⟨false,sz,Df {p with x:={p.x with a1:=n}},false⟩:=L2 (l:=Ew p) (X:=[.c (.int .i64 n)]) rfl rfl (GX p) rfl rfl rfl rfl
theorem vZ(n:Int):DY (some ⟨false,sz,Df p,false⟩) 1 275 (.int .i64 n)=some ⟨false,sz,Df {p with x:={p.x with wn:=n}},false⟩:=L2 (l:=Ew p) (X:=[.c (.int .i64 n)]) rfl rfl (GX p) rfl rfl rfl rfl
theorem Yyl(n:Int):DY (some ⟨false,sz,Df p,false⟩) 1 276 (.int .i64 n)=some ⟨false,sz,Df {p with x:={p.x with am:=n}},false⟩:=L2 (l:=Ew p) (X:=[.c (.int .i64 n)]) rfl rfl (GX p) rfl rfl rfl rfl
theorem Yyk(n:Int):DY (some ⟨false,sz,Df p,false⟩) 1 277 (.int .i64 n)=some ⟨false,sz,Df {p with x:={p.x with ct:=n}},false⟩:=L2 (l:=Ew p) (X:=[.c (.int .i64 n)]) rfl rfl (GX p) rfl rfl rfl rfl
theorem vY(k t f l:Nat):DY (some ⟨false,sz,Df p,false⟩) 1 278 (.row k t f l)=some ⟨false,sz,Df {p with j:=.row k t f l},false⟩:=L2 (l:=Ew p) (X:=[.c (.row k t f l)]) rfl rfl (GX p) rfl rfl rfl rfl
theorem Tc(c:Int×Dig):DY (some ⟨false,sz,Df p,false⟩) 33 44 (.agg (.int .i64 c.1::C8 c.2))=some ⟨false,sz,Df {p with x:={p.x with c1:=c}},false⟩:=
 L2 (l:=Ew p) (X:=[.c (.int .i64 c.1),.g c.2]) rfl rfl (GX p) rfl (by simp[Dh,Sg.cs,D.cells]) (by simp[Dh,Sg.cs,DX]) (by simp only[Dh,Sg.cs,Ad,Ae,Ai,AZ,Jf]; rfl)
theorem UG(b:Bis):DY (some ⟨false,sz,Df p,false⟩) 198 77 (Ea b)=some ⟨false,sz,Df {p with x:={p.x with b:=b}},false⟩:=
 L2 (l:=Ew p) (X:=JX b) rfl rfl (GX p) rfl (by rw[RX]; rfl) (by rw[RX,Ux]) (by rw[RX]; exact iT b)
end
noncomputable def Mh(R:List D→St→D×Int×St→Prop):List D→St→Option (D×Int×St):=fun ds st=>@dite _ (∃ r,R ds st r) (Classical.propDecidable _) (fun h=>some h.choose) (fun _=>none)
variable {r:D×Int×St}{st:St}{ds:List D}
theorem oY{R:List D→St→D×Int×St→Prop}(h:Mh R ds st=some r):R ds st r:=by
 unfold Mh at h
 split at h
 ·grind
 ·cases h
def Jo(R:List D→St→D×Int×St→Prop):Prop:=∀ ds st r r',R ds st r→R ds st r'→r=r'
theorem fV{R:List D→St→D×Int×St→Prop}(I:Jo R)(h:R ds st r):Mh R ds st=some r:=by
 have E:∃ r,R ds st r:=⟨r,h⟩;unfold Mh;rw[dif_pos E,I _ _ _ _ E.choose_spec h]
noncomputable def EO(R:List D→St→D×Int×St→Prop):List D→St→Option (D×St):=fun ds st=>match Mh R ds st with
 |some (d,e,st')=>if e=0 then some (d,st')else none
 |none=>none
noncomputable def GH(R:List D→St→D×Int×St→Prop):List D→St→Option (Nat×D×St):=fun ds st=>match Mh R ds st with
 |some (_,e,st')=>if e=0 then none else some (125,.int .i64 e,st')
 |none=>none
variable {d:D}{st':St}
theorem UZ{R:List D→St→D×Int×St→Prop}(E:Jo R)(h:R ds st (d,0,st')):EO R ds st=some (d,st'):=by
 simp only[EO,fV E h,if_true]
variable {e:Int}
theorem UY{R:List D→St→D×Int×St→Prop}(E:Jo R)(h:R ds st (d,e,st'))(I:e≠0):EO R ds st=none:=by
 simp only[EO,fV E h,if_neg I]
theorem Vp{R:List D→St→D×Int×St→Prop}(E:Jo R)(h:R ds st (d,e,st'))(I:e≠0):GH R ds st=some (125,.int .i64 e,st'):=by
 simp only[GH,fV E h,if_neg I]
def Nr(res:List PRes)(d:D)(e:Int)(st':St)(x:Ex)(fr:Frame)(st:St):Prop:=match x with
 |.exit _=>False
 |.panic t y=>¬ e=0∧t=125∧y=.int .i64 e∧st=st'
 |_=>e=0∧@on _ (D3 ⟨fr,st⟩ res) ⟨fun l=>(DQ l,st)=(d,st')⟩
theorem Yjq(res:List PRes)(d:D)(e:Int)(st':St)(fr:Frame)(st:St):Nr res d e st' .ret fr st=(e=0∧@on _ (D3 ⟨fr,st⟩ res) ⟨fun l=>(DQ l,st)=(d,st')⟩):=(rfl)
theorem Ybe(res:List PRes)(d:D)(e:Int)(st':St)(fr:Frame)(st:St):Nr res d e st' .next fr st=(e=0∧@on _ (D3 ⟨fr,st⟩ res) ⟨fun l=>(DQ l,st)=(d,st')⟩):=(rfl)
theorem yV1(res:List PRes)(d:D)(e:Int)(st':St)(t:Nat)(y:D)(fr:Frame)(st:St):Nr res d e st' (.panic t y) fr st=(¬ e=0∧t=125∧y=.int .i64 e∧st=st'):=(rfl)
theorem Lf{T:Tbl}{il:List Nat}{f:Nat}{hints:List (List Nat)}{F:PF}{R:List D→St→D×Int×St→Prop}(M:DA Tryz.prog il f hints=some F)(N:TblOK Tryz.prog GG T)
  (h:∀ ds st d e st',R ds st (d,e,st')→@wW GG T F.code (Dc ds) st ⟨Nr F.res d e st'⟩) (O:T.y=fun _ _ _=>none:=by rfl):IContract Tryz.prog GG f (EO R)∧QN Tryz.prog GG f (GH R):=by
 constructor
 ·refine Jz M N (fun ds st r E=>?_) O;unfold EO at E
  split at E
  case h_2=>cases E
  rename_i d e st' J
  split at E
  case isFalse=>cases E
  rename_i he;simp only[AO]at E;subst E; subst he;refine SV (KV _ _ _ _ _ (Ho (h _ _ _ _ _ (oY J))) fun x fr st I=>?_)
  cases x with
  |exit i=>exact I.elim
  |panic t y=>exact absurd rfl I.1
  |next=>unfold GJ; exact I.2
  |ret=>unfold GJ; exact I.2
 ·refine yKe M N (fun ds st r E=>?_) O;unfold GH at E
  split at E
  case h_2=>cases E
  rename_i d e st' J
  split at E
  case isTrue=>cases E
  rename_i he;simp only[AO]at E;subst E;refine SV (KV _ _ _ _ _ (Ho (h _ _ _ _ _ (oY J))) fun x fr st I=>?_)
  cases x with
  |exit i=>exact I.elim
  |panic t y=>obtain⟨_,rfl,rfl,rfl⟩:=I; unfold Nq; rfl
  |next=>exact absurd I.1 he
  |ret=>exact absurd I.1 he
attribute [irreducible] Nr
attribute [push_cast] Yjq Ybe yV1
abbrev CK(f:Nat)(R:List D→St→D×Int×St→Prop):Prop:=IContract Tryz.prog GG f (EO R)∧QN Tryz.prog GG f (GH R)
def It(ds:List D)(st:St)(r:D×Int×St):Prop:=∃ (b:Bool) (e:Int),ds=[.bool b,.int .i64 e]∧(b=false→e≠0)∧r=(.tup [],if b=true then 0 else e,st)
theorem iH:Jo It:=by
 rintro ds st r E ⟨b,e,rfl,_,rfl⟩ ⟨b',I,h,_,rfl⟩;grind
theorem DE(e:Int)(st:St):EO It [.bool true,.int .i64 e] st=some (.tup [],st):=UZ iH ⟨true,e,rfl,(fun h=>by cases h),rfl⟩
theorem Ev(E:e≠0)(st:St):EO It [.bool false,.int .i64 e] st=none:=UY iH (e:=e) ⟨false,e,rfl,fun _=>E,rfl⟩ E
theorem Eu(E:e≠0)(st:St):GH It [.bool false,.int .i64 e] st=some (125,.int .i64 e,st):=Vp iH (e:=e) (d:=.tup []) ⟨false,e,rfl,fun _=>E,rfl⟩ E
theorem Ka:CK 73 It:=by
 refine Lf (T:=tb [] []) yHo (DI all_nil all_nil) ?_;rintro ds st d e st' ⟨b,E,rfl,hb,h⟩;simp only[Az]at h;obtain⟨rfl,rfl,rfl⟩:=h;unfold lL
 cases b with
 |true=>simp (disch:=first|omega|decide) only[push_cast,↓reduceIte,and_true]
 |false=>
  have he:=hb rfl;simp (disch:=first|omega|decide) only[push_cast,↓reduceIte,CI,he,and_true,not_false_eq_true]
def Ni(ds:List D)(st:St)(r:D×Int×St):Prop:=∃ (e:Int),ds=[.int .i64 e]∧r=(.tup [],e,st)
theorem hU:Jo Ni:=by
 rintro ds st r E ⟨e,rfl,rfl⟩ ⟨I,h,rfl⟩;grind
theorem H3(st:St):EO Ni [.int .i64 0] st=some (.tup [],st):=UZ hU ⟨0,rfl,rfl⟩
theorem Jh(E:e≠0)(st:St):EO Ni [.int .i64 e] st=none:=UY hU (e:=e) ⟨e,rfl,rfl⟩ E
theorem NZ(E:e≠0)(st:St):GH Ni [.int .i64 e] st=some (125,.int .i64 e,st):=Vp hU (e:=e) (d:=.tup []) ⟨e,rfl,rfl⟩ E
noncomputable abbrev yB:Tbl:=MN [] [(73,EO It)] [(73,GH It)]
theorem RN:CK 123 Ni:=by
 refine Lf (T:=yB) yHn (Og all_nil (all_cons Ka.1 all_nil) (all_cons Ka.2 all_nil)) ?_;rintro ds st d e st' ⟨E,rfl,h⟩;simp only[Az]at h;obtain⟨rfl,rfl,rfl⟩:=h;unfold lM
 by_cases he:e=0
 ·have g:=eq_true he;simp (disch:=first|omega|decide) only[push_cast,↓reduceIte,CI,g,decide_true,DE,and_true]
 ·simp (disch:=first|omega|decide) only[push_cast,↓reduceIte,CI,he,decide_false,Ev,Eu,and_true,not_false_eq_true]
def Hm{α:Type}[DecidableEq α](a:α):List α→Nat→Int
 |[],_=>-1
 |x::r,i=>if a=x then i else Hm a r (i+1)
theorem gR{α:Type}[DecidableEq α][Inhabited α](a:α)(l:List α){i:Nat}(h:i<l.length):Hm a (l.drop i) i=if a=l.getD i default then(i:Int)else Hm a (l.drop (i+1)) (i+1):=by
 rw[A9 h,Hm];simp[Al,h]
theorem xD{α:Type}[DecidableEq α](a:α):∀ (l:List α) (i:Nat),(0≤Hm a l i↔a∈l)∧-1≤Hm a l i
 |[],i=>by simp[Hm]
 |x::r,i=>by
  unfold Hm;have E:=xD a r (i+1)
  by_cases h:a=x
  ·rw[if_pos h]; subst h; simp
  ·rw[if_neg h];exact⟨by rw[E.1]; simp[h],E.2⟩
theorem Yt6(n a b:Int):Hm n [a,b] 0=if a=n then 0 else if b=n then 1 else -1:=by
 show(if n=a then((0:Nat):Int)else if n=b then((1:Nat):Int)else -1)=_
 by_cases h:n=a
 ·subst h; simp
 ·have I:¬ a=n:=fun e=>h e.symm
  by_cases E:n=b
  ·subst E; simp[h,I]
  ·have J:¬ b=n:=fun e=>E e.symm;simp[h,I,E,J]
noncomputable def aR:List D→Option D:=Dk (α:=List Int×Int) (fun a=>[.slc (nz 1 (a.1.map nI)) (a.1.map nI) false,.int .i64 a.2]) (fun a=>a.1.length≤4294967296) (fun a=>.int .i64 (Hm a.2 a.1 0))
theorem Yns(l:List Int)(n:Int)(h:l.length≤4294967296):aR [.slc (nz 1 (l.map nI)) (l.map nI) false,.int .i64 n]=some (.int .i64 (Hm n l 0)):=
 D7 (fun⟨a0,a1⟩ ⟨b0,b1⟩ h=>by simp only[Aa,D.slc.injEq,D.int.injEq,true_and,and_true,Sd]at h; simp[h]) (l,n) h
theorem Vt(l:List Int)(n:Int)(h:l.length≤4294967296):@wW GG (tb [] []) Z4.code (Dc [.slc (nz 1 (l.map nI)) (l.map nI) false,.int .i64 n]) [] ⟨Dn Z4.res (.int .i64 (Hm n l 0))⟩:=by
 unfold Z4;simp (disch:=first|omega|decide) only[push_cast,↓reduceIte,CI,CL];refine F9 (fun i:Nat=>[(0,.slc (nz 1 (l.map nI)) (l.map nI) false),(1,.int .i64 n),(7,.int .i64 (l.length:Int)),(8,.int .i64 (i:Int))]) (fun _=>[]) (fun i=>i≤l.length∧Hm n l 0=Hm n (l.drop i) i) (fun i=>l.length - i) 0 (by simp only[push_cast,↓reduceIte,CI,↓CM] <;> rfl) ⟨Bh _,rfl⟩ ?_;rintro i ⟨hi,E⟩;unfold nB;simp (disch:=first|omega|decide) only[push_cast,↓reduceIte,CI];refine EU (fun N=>?_) (fun N=>?_)
 ·have M:i<l.length:=by omega
  rw[gR _ _ M]at E
  have J:∀ st:St,Gx st 1 (.slc (nz 1 (l.map nI)) (l.map nI) false) (.int .i64 (i:Int))=some (.eptr (nI (l.getD i default)) 0):=fun st=>by
   have:=Ks st 1 nI l false .i64 (i:Int) (by omega) (by omega);rwa [Be]at this
  generalize l.getD i default=x at*
  by_cases I:n=x
  ·rw[if_pos I]at E;simp (disch:=first|omega|decide) only[push_cast,↓reduceIte,CI,CL,J,nI,I];rw[← E,I]
  ·rw[if_neg I]at E;simp (disch:=first|omega|decide) only[push_cast,↓reduceIte,CI,J,nI,I,DN];refine E2 (i+1) (by exact⟨by omega,E⟩) (by omega) ?_;simp only[push_cast] <;> rfl
 ·obtain rfl:i=l.length:=by omega
  rw[Bd]at E;simp (disch:=first|omega|decide) only[push_cast,↓reduceIte,CL,E,Hm]
theorem Xm:Contract Tryz.prog GG 160 aR:=
 Ed zM (DI all_nil all_nil) (fun a h=>Vt a.1 a.2 h)
noncomputable def U0:List D→Option D:=Dk (α:=List Bool×Bool) (fun a=>[.slc (nz 1 (a.1.map D.bool)) (a.1.map D.bool) false,.bool a.2]) (fun a=>a.1.length≤4294967296) (fun a=>.int .i64 (Hm a.2 a.1 0))
theorem Ynt(l:List Bool)(n:Bool)(h:l.length≤4294967296):U0 [.slc (nz 1 (l.map D.bool)) (l.map D.bool) false,.bool n]=some (.int .i64 (Hm n l 0)):=
 D7 (fun⟨a0,a1⟩ ⟨b0,b1⟩ h=>by simp only[Aa,D.slc.injEq,D.bool.injEq,and_true,Yho]at h; simp[h]) (l,n) h
theorem Vu(l:List Bool)(n:Bool)(h:l.length≤4294967296):@wW GG (tb [] []) Z7.code (Dc [.slc (nz 1 (l.map D.bool)) (l.map D.bool) false,.bool n]) [] ⟨Dn Z7.res (.int .i64 (Hm n l 0))⟩:=by
 unfold Z7;simp (disch:=first|omega|decide) only[push_cast,↓reduceIte,CI,CL];refine F9 (fun i:Nat=>[(0,.slc (nz 1 (l.map D.bool)) (l.map D.bool) false),(1,.bool n),(7,.int .i64 (l.length:Int)),(8,.int .i64 (i:Int))]) (fun _=>[]) (fun i=>i≤l.length∧Hm n l 0=Hm n (l.drop i) i) (fun i=>l.length - i) 0 (by simp only[push_cast,↓reduceIte,CI,↓CM] <;> rfl) ⟨Bh _,rfl⟩ ?_;rintro i ⟨hi,E⟩;unfold nE;simp (disch:=first|omega|decide) only[push_cast,↓reduceIte,CI];refine EU (fun U=>?_) (fun U=>?_)
 ·have O:i<l.length:=by omega
  rw[gR _ _ O]at E
  have J:∀ st:St,Gx st 1 (.slc (nz 1 (l.map D.bool)) (l.map D.bool) false) (.int .i64 (i:Int))=some (.eptr (.bool (l.getD i default)) 0):=fun st=>by
   have:=Ks st 1 D.bool l false .i64 (i:Int) (by omega) (by omega);rwa [Be]at this
  have M:∀ (st:St) (b:Bool),Ft st 1 false (.eptr (.bool b) 0)=some (.bool b):=fun _ _=>rfl;generalize l.getD i default=x at*
  by_cases I:n=x
  ·rw[if_pos I]at E;subst I;have N:(n == n)=true:=by simp
   simp (disch:=first|omega|decide) only[push_cast,↓reduceIte,CI,CL,J,M,N,E]
  ·rw[if_neg I]at E;have N:(n == x)=false:=by simpa using I
   simp (disch:=first|omega|decide) only[push_cast,↓reduceIte,CI,J,M,N,DN];refine E2 (i+1) (by exact⟨by omega,E⟩) (by omega) ?_;simp only[push_cast] <;> rfl
 ·obtain rfl:i=l.length:=by omega
  rw[Bd]at E;simp (disch:=first|omega|decide) only[push_cast,↓reduceIte,CL,E,Hm]
theorem Xn:Contract Tryz.prog GG 78 U0:=
 Ed zP (DI all_nil all_nil) (fun a h=>Vu a.1 a.2 h)
theorem J5(E:Bool)(a b:Ky):GM [0,0,0,0,0] E (D4 a) (D4 b)=some (.bool (decide (a=b) != E)):=by
 obtain⟨a1,I,J,M,N⟩:=a;obtain⟨b1,O,U,V,Y⟩:=b
 have h:EY [0,0,0,0,0] (HR ⟨a1,I,J,M,N⟩) (HR ⟨b1,O,U,V,Y⟩)=some (decide ((⟨a1,I,J,M,N⟩:Ky)=⟨b1,O,U,V,Y⟩)):=by
  simp only[HR,EY,I0,if_true,BU,Ky.mk.injEq,AO];rw[B5];simp
 simp only[GM,D4,h,Ag]
theorem Tz(k:Ky):(HR k).all EJ=true:=rfl
theorem Mx(k:Ky):DH (D4 k)=some (HR k):=rfl
theorem SI(sz:Nat)(lent:Bool)(k:Ky):Dy (some ⟨false,sz,HR k,lent⟩) 5 true 0=some (D4 k):=LF sz lent _ 5 rfl
theorem aL(st:St)(k:Ky):Ft st 5 true (.eptr (D4 k) 0)=some (D4 k):=rfl
theorem Kq(st:St)(k:Ky):DW st (D4 k)=some (D4 k):=QH st (Tz k)
theorem LD(k:Ky):keys (D4 k)=[]:=PW (Tz k)
theorem yz(k:Ky):hk (D4 k)=[]:=TK (Tz k)
theorem xO(n:Nat)(σ:List Nat)(k:Ky):(HR k).map (EC n σ)=HR k:=PV n σ (Tz k)
theorem u5(k:Ky):(HR k).flatMap hk=[]:=QM (Tz k)
theorem kZ(st:St)(l:List Ky)(t:Bool)(i:Nat)(h:i<l.length):Gx st 5 (.slc (nz 5 (l.map D4)) (l.map D4) t) (.int .i64 (i:Int))=some (.eptr (D4 (l.getD i default)) 0):=by
 have:=Ks st 5 D4 l t .i64 (i:Int) (by omega) (by omega);rwa [Be]at this
noncomputable def lC:List D→Option D:=Dk (α:=List Ky×Ky) (fun a=>[.slc (nz 5 (a.1.map D4)) (a.1.map D4) false,D4 a.2]) (fun a=>a.1.length≤4294967296) (fun a=>.int .i64 (Hm a.2 a.1 0))
theorem Ynr(l:List Ky)(n:Ky)(h:l.length≤4294967296):lC [.slc (nz 5 (l.map D4)) (l.map D4) false,D4 n]=some (.int .i64 (Hm n l 0)):=
 D7 (fun⟨a0,a1⟩ ⟨b0,b1⟩ h=>by simp only[Aa,D.slc.injEq,and_true,bo,bp]at h; simp[h]) (l,n) h
theorem Vs(l:List Ky)(n:Ky)(h:l.length≤4294967296):@wW GG (tb [] []) ai.code (Dc [.slc (nz 5 (l.map D4)) (l.map D4) false,D4 n]) [] ⟨Dn ai.res (.int .i64 (Hm n l 0))⟩:=by
 unfold ai;simp (disch:=first|omega|decide) only[push_cast,↓reduceIte,CI,CL,Mx];refine F9 (fun i:Nat=>[(0,.slc (nz 5 (l.map D4)) (l.map D4) false),(3,.ptr 0 0),(7,.int .i64 (l.length:Int)),(8,.int .i64 (i:Int))]) (fun _=>[⟨false,1,HR n,false⟩]) (fun i=>i≤l.length∧Hm n l 0=Hm n (l.drop i) i) (fun i=>l.length - i) 0 (by simp only[push_cast,↓reduceIte,CI,CP,CN,↓CM,xO,u5] <;> rfl) ⟨Bh _,rfl⟩ ?_;rintro i ⟨hi,E⟩;unfold nF;simp (disch:=first|omega|decide) only[push_cast,↓reduceIte,CI];refine EU (fun N=>?_) (fun N=>?_)
 ·have J:i<l.length:=by omega
  rw[gR _ _ J]at E;have M:=fun st=>kZ st l false i J;generalize l.getD i default=x at*
  by_cases I:n=x
  ·rw[if_pos I]at E;subst I;have O:decide (n=n)=true:=by simp
   simp (disch:=first|omega|decide) only[push_cast,↓reduceIte,CI,CL,M,SI,aL,J5,E]
  ·rw[if_neg I]at E;simp (disch:=first|omega|decide) only[push_cast,↓reduceIte,CI,CP,CN,M,SI,aL,J5,I,DN];refine E2 (i+1) (by exact⟨by omega,E⟩) (by omega) ?_;simp only[push_cast,xO,u5] <;> rfl
 ·obtain rfl:i=l.length:=by omega
  rw[Bd]at E;simp (disch:=first|omega|decide) only[push_cast,↓reduceIte,CL,E,Hm]
theorem Xl:Contract Tryz.prog GG 161 lC:=
 Ed zU (DI all_nil all_nil) (fun a h=>Vs a.1 a.2 h)
noncomputable def aQ:List D→Option D:=Dk (α:=List Ky×Ky) (fun a=>[.slc (nz 5 (a.1.map D4)) (a.1.map D4) false,D4 a.2]) (fun a=>a.1.length≤4294967296) (fun a=>.bool (decide (a.2∈a.1)))
theorem Ynx(l:List Ky)(n:Ky)(h:l.length≤4294967296):aQ [.slc (nz 5 (l.map D4)) (l.map D4) false,D4 n]=some (.bool (decide (n∈l))):=
 D7 (fun⟨a0,a1⟩ ⟨b0,b1⟩ h=>by simp only[Aa,D.slc.injEq,and_true,bo,bp]at h; simp[h]) (l,n) h
theorem Vv(l:List Ky)(n:Ky)(h:l.length≤4294967296):@wW GG (tb [(161,lC)] []) aj.code (Dc [.slc (nz 5 (l.map D4)) (l.map D4) false,D4 n]) [] ⟨Dn aj.res (.bool (decide (n∈l)))⟩:=by
 unfold aj;have c1:=Ynr l n h;have m:=(xD n l 0).1;generalize Hm n l 0=z at*
 by_cases E:0≤z
 ·have hm:decide (n∈l)=true:=by simp[m.1 E]
  simp (disch:=first|omega|decide) only[push_cast,↓reduceIte,CI,Mx,SI,Kq,c1,E,hm]
 ·have hm:decide (n∈l)=false:=by simp; exact fun q=>E (m.2 q)
  simp (disch:=first|omega|decide) only[push_cast,↓reduceIte,CI,Mx,SI,Kq,c1,E,hm]
theorem Xo:Contract Tryz.prog GG 126 aQ:=
 Ed zV (DI (all_cons Xl all_nil) all_nil) (fun a h=>Vv a.1 a.2 h)
theorem RepV.emptyT{w:World}{g:Ghost}{sz E:Nat}{v:Value}(h:RepV w g st (.slc sz [] true) v):RepV w g st (.slc E [] true) v:=by
 cases h with
 |slcE _ _ a cap h=>exact .slcE _ _ a cap h
 |slc _ _ b off cap _ val I=>exact absurd rfl I
noncomputable def vW:List D→St→Option (D×St):=GI (α:=List Ky×St) (fun a=>([.slc (nz 5 (a.1.map D4)) (a.1.map D4) false],a.2)) (fun a=>a.1.length≤4294900000)
 (fun a=>if a.1=[]then(.slc 0 [] true,a.2)else(.row a.2.length a.1.length 0 a.1.length,a.2++[⟨true,5,a.1.map D4,false⟩]))
theorem Ynz(l:List Ky)(st:St)(h:l.length≤4294900000):vW [.slc (nz 5 (l.map D4)) (l.map D4) false] st=some (if l=[]then(.slc 0 [] true,st)else(.row st.length l.length 0 l.length,st++[⟨true,5,l.map D4,false⟩])):=
 MG (fun a b e=>by
  simp only[Az,Aa,D.slc.injEq,bp,and_true]at e;rw[e.1.2,e.2]) ((l,st):List Ky×St) h rfl
def cl0:List PI:=[{dst:=some 2,op:=.mov (.c (.slc 0 [] true))}]
def clA:PC:=.seq (.ops [{dst:=some 2,op:=.mov (.c (.slc 0 [] true))}]) .ret
def j4:PC:=.seq (.ops [{dst:=some 5,op:=.bslc 5 []},{dst:=some 6,op:=.mov (.s 0)},{dst:=some 7,op:=.app 5 40 (.s 5) (.s 6)},{dst:=some 2,op:=.mov (.s 7)}]) .ret
theorem Yne(T:Tbl)(l:List Ky)(st:St)(h:l.length≤4294900000)(fr:Frame)(J:fr 0=.slc (nz 5 (l.map D4)) (l.map D4) false) :
  ∃ E,j4.exec GG T 0 ⟨fr,st⟩=some (.ret,⟨E,if l=[]then st else st++[⟨true,5,l.map D4,false⟩]⟩)∧E 2=if l=[]then .slc 5 [] true else .row st.length l.length 0 l.length:=by
 have M:Ep st 5 40 (.slc 5 [] true) (.slc (nz 5 (l.map D4)) (l.map D4) false)=some (if l=[]then .slc 5 [] true else .row st.length l.length 0 l.length,if l=[]then st else st++[⟨true,5,l.map D4,false⟩]):=by
  by_cases hl:l=[]
  ·subst hl;exact rR st 5 40 5 0 [] false (by decide)
  ·have I:l.map D4≠[]:=by simpa using hl
   rw[s9 D4 st 5 5 40 l false (by decide) (by omega) (by omega),RY _ _ _ I,Qs _ _ I,if_neg hl,if_neg hl,Bi]
 simp only[j4,PC.exec,E6,PI.exec,PI.wanted,POp.exec,Dq,Bk,Ek,Ct,CP,decide_true,AA,Aq,Cd,Bh,if_true,lend,BL,Frame.put,Frame.set,J,CI,if_false,show ¬ (5:Nat)=6 from by decide,show ¬ (0:Nat)=5 from by decide,show ¬ (0:Nat)=6 from by decide,M];exact⟨_,rfl,rfl⟩
theorem vO:IContract Tryz.prog GG 127 vW:=by
 refine Ynd (T:=tb [] []) (il:=[]) (DI all_nil all_nil) rfl (l0:=cl0) (pA:=clA) (pB:=j4) (res:=[.tmp 2]) (t3:=3) (e:=58) Tryz.func127 (by kernel_rfl) rfl (by kernel_rfl) (by kernel_rfl) (by kernel_rfl) (by kernel_rfl) (by kernel_rfl) rfl rfl rfl (by decide) Tryz.underlying63 ?_;intro ds st d st' N;obtain⟨⟨l,st0⟩,ha,J,E⟩:=iy N;simp only[Az]at ha;obtain⟨rfl,rfl⟩:=ha;dsimp only at J E;refine⟨_,_,_,(Dc [.slc (nz 5 (l.map D4)) (l.map D4) false]).set 2 (.slc 0 [] true),rfl,rfl,rfl,fun he=>?_,?_⟩
 ·obtain rfl:l=[]:=by simpa using he
  rw[if_pos rfl]at E;simp only[Az]at E;obtain⟨rfl,rfl⟩:=E;exact⟨0,_,_,rfl,rfl,rfl,fun w g v h=>h.emptyT⟩
 ·obtain⟨O,M,I⟩:=Yne (tb [] []) l st0 J ((((Dc [.slc (nz 5 (l.map D4)) (l.map D4) false]).set 2 (.slc 0 [] true)).set 3 (.slc (nz 5 (l.map D4)) (l.map D4) false)).set 4 (.bool false)) rfl
  by_cases hl:l=[]
  ·subst hl;rw[if_pos rfl]at E I;simp only[Az]at E;obtain⟨rfl,rfl⟩:=E;exact⟨0,_,[.slc 5 [] true],M,by rw[if_pos rfl],by simp only[ir,iq,I]; rfl,fun w g v h=>h.emptyT⟩
  ·rw[if_neg hl]at E I;simp only[Az]at E;obtain⟨rfl,rfl⟩:=E;exact⟨0,_,[.row st0.length l.length 0 l.length],M,by rw[if_neg hl],by simp only[ir,iq,I]; rfl,fun w g v h=>h⟩
theorem Yds(l:List Ky):EJ (Dx l)=true:=by
 simp[EJ,J3]
theorem je(x:Cse){p:D→Bool}(E:∀ k n,p (.int k n)=true)(J:∀ b,p (.bool b)=true)(M:p j=true):(Dg x j).all p=true:=by
 have N:∀ d,(C8 d).all p=true:=fun d=>Lh (fun b=>E _ _) d;refine Ox E fun s I=>?_;simp only[EE,KM,JX,Ae,Ai,Ax,AE,or_false]at I;rcases I with rfl | rfl | rfl | rfl | rfl | rfl | rfl | rfl | rfl | rfl | rfl | rfl | rfl | rfl | rfl | rfl | rfl | rfl | rfl | rfl | rfl | rfl | rfl | rfl | rfl | rfl | rfl | rfl | rfl | rfl | rfl <;> simp[Sg.cs,E,J,M,N]
theorem OI(x:Cse)(hj:j.isCell=true):(Dg x j).all D.isCell=true:=je x (fun _ _=>rfl) (fun _=>rfl) hj
theorem Sj(x:Cse):(Dg x (Dx x.jn)).all EJ=true:=je x (fun _ _=>rfl) (fun _=>rfl) (Yds _)
theorem Fm(x:Cse):DH (Dt x)=some (Dg x (Dx x.jn)):=by
 simp only[DH,Dt,D.cells,OI x (j:=Dx x.jn) rfl,if_true]
theorem EH(st:St)(x:Cse):DW st (Dt x)=some (Dt x):=QH st (Sj x)
theorem Fy(x:Cse):keys (Dt x)=[]:=PW (Sj x)
section
variable (x:Cse) (j:D) (sz:Nat) (lent:Bool)
theorem Fz:Dy (some ⟨false,sz,Dg x j,lent⟩) 1 false 7=some (.int .i64 x.ph):=Ix (l:=EE x j) rfl rfl (HU x j)
theorem JG:Dy (some ⟨false,sz,Dg x j,lent⟩) 1 false 8=some (.int .i64 x.dl):=Ix (l:=EE x j) rfl rfl (HU x j)
theorem vt:Dy (some ⟨false,sz,Dg x j,lent⟩) 1 false 11=some (.int .i64 x.c0.1):=Ix (l:=EE x j) rfl rfl (HU x j)
theorem vu:Dy (some ⟨false,sz,Dg x j,lent⟩) 1 false 44=some (.int .i64 x.c1.1):=Ix (l:=EE x j) rfl rfl (HU x j)
theorem Tf:Dy (some ⟨false,sz,Dg x j,lent⟩) 1 false 275=some (.int .i64 x.wn):=Ix (l:=EE x j) rfl rfl (HU x j)
theorem aD:Dy (some ⟨false,sz,Dg x j,lent⟩) 1 false 276=some (.int .i64 x.am):=Ix (l:=EE x j) rfl rfl (HU x j)
theorem vr:Dy (some ⟨false,sz,Dg x j,lent⟩) 1 false 277=some (.int .i64 x.ct):=Ix (l:=EE x j) rfl rfl (HU x j)
theorem XI:Dy (some ⟨false,sz,Dg x j,lent⟩) 1 false 278=some j:=Ix (l:=EE x j) rfl rfl (HU x j)
theorem NO:Dy (some ⟨false,sz,Dg x j,lent⟩) 5 true 0=some (D4 x.key):=Jw (l:=EE x j) rfl rfl (HU x j) rfl
theorem OR:Dy (some ⟨false,sz,Dg x j,lent⟩) 2 true 5=some (.agg [.int .i64 x.p0,.int .i64 x.p1]):=Jw (l:=EE x j) rfl rfl (HU x j) rfl
theorem SL:Dy (some ⟨false,sz,Dg x j,lent⟩) 2 true 9=some (.agg [.int .i64 x.a0,.int .i64 x.a1]):=Jw (l:=EE x j) rfl rfl (HU x j) rfl
theorem NF:Dy (some ⟨false,sz,Dg x j,lent⟩) 33 true 11=some (.agg (.int .i64 x.c0.1::C8 x.c0.2)):=Jw (l:=EE x j) rfl rfl (HU x j) (by simp[Dh,Sg.cs])
theorem NG:Dy (some ⟨false,sz,Dg x j,lent⟩) 33 true 44=some (.agg (.int .i64 x.c1.1::C8 x.c1.2)):=Jw (l:=EE x j) rfl rfl (HU x j) (by simp[Dh,Sg.cs])
theorem dw:Dy (some ⟨false,sz,Dg x j,lent⟩) 2 true 144=some (.agg [.bool x.b.t0,.bool x.b.t1]):=Jw (l:=EE x j) rfl rfl (HU x j) rfl
theorem P6:Dy (some ⟨false,sz,Dg x j,lent⟩) 198 true 77=some (Ea x.b):=Jw (l:=EE x j) rfl rfl (HU x j) (by rw[Ea,← RX]; rfl)
def G6(a b:Int×Dig):List D:=(.int .i64 a.1::C8 a.2)++(.int .i64 b.1::C8 b.2)
theorem UQ:Dy (some ⟨false,sz,Dg x j,lent⟩) 66 true 11=some (.agg (G6 x.c0 x.c1)):=Jw (l:=EE x j) rfl rfl (HU x j) (by simp[Dh,Sg.cs,G6])
theorem Fs:Dy (some ⟨false,sz,Dg x j,lent⟩) 279 true 0=some (.agg (Dg x j)):=LF sz lent _ 279 (M4 x j)
end
theorem Ga(x:Cse):D.agg (Dg x (Dx x.jn))=Dt x:=rfl
theorem Ke:Fk=Dg GZ (.slc 0 [] true):=(rfl)
noncomputable def Ug:List D→Option D:=Dk (α:=Int) (fun a=>[.int .i64 a]) (fun a=>True) (fun a=>.bool (decide (EI a)))
theorem eT(n:Int):Ug [.int .i64 n]=some (.bool (decide (EI n))):=
 D7 (fun a b h=>by simp only[Aa,D.int.injEq,true_and,and_true]at h; simp[h]) (n) trivial
theorem Yik(n:Int):@wW GG (tb [] []) Zu.code (Dc [.int .i64 n]) [] ⟨Dn Zu.res (.bool (decide (EI n)))⟩:=by
 unfold Zu
 by_cases E:-9007199254740992≤n
 ·by_cases I:n≤9007199254740992
  ·have e:decide (EI n)=true:=decide_eq_true ⟨E,I⟩;simp (disch:=first|omega|decide) only[push_cast,↓reduceIte,CI,CL,E,I,e]
  ·have e:decide (EI n)=false:=decide_eq_false fun q=>I q.2;simp (disch:=first|omega|decide) only[push_cast,↓reduceIte,CI,CL,E,I,e]
 ·have e:decide (EI n)=false:=decide_eq_false fun q=>E q.1;simp (disch:=first|omega|decide) only[push_cast,↓reduceIte,CI,CL,E,e]
theorem gX:Contract Tryz.prog GG 64 Ug:=
 Ed yBt (DI all_nil all_nil) (fun a h=>Yik a)
noncomputable def TZ:List D→Option D:=Dk (α:=Cse) (fun a=>[Dt a]) (fun a=>True) (fun a=>.bool (decide (Hh a)))
theorem Un(x:Cse):TZ [Dt x]=some (.bool (decide (Hh x))):=
 D7 (fun a b h=>by simp only[Aa,and_true,OH]at h; simp[h]) (x) trivial
theorem Yqy(x:Cse):@wW GG (tb [] []) ZH.code (Dc [Dt x]) [] ⟨Dn ZH.res (.bool (decide (Hh x)))⟩:=by
 unfold ZH
 by_cases E:x.ph=1
 ·have e:decide (Hh x)=true:=by simp[Hh,E]
  simp (disch:=first|omega|decide) only[push_cast,↓reduceIte,CI,Fm,Fz,E,e]
 by_cases I:x.ph=2
 ·have e:decide (Hh x)=true:=by simp[Hh,I]
  have g:=eq_true I;simp (disch:=first|omega|decide) only[push_cast,↓reduceIte,CI,Fm,Fz,E,g,e]
 by_cases J:x.ph=3
 ·have e:decide (Hh x)=true:=by simp[Hh,J]
  have g:=eq_true J;simp (disch:=first|omega|decide) only[push_cast,↓reduceIte,CI,Fm,Fz,E,I,g,e]
 ·have e:decide (Hh x)=false:=by simp[Hh,E,I,J]
  simp (disch:=first|omega|decide) only[push_cast,↓reduceIte,CI,Fm,Fz,E,I,J,e]
theorem wA:Contract Tryz.prog GG 74 TZ:=
 Ed yL (DI all_nil all_nil) (fun a h=>Yqy a)
noncomputable def cv:List D→Option D:=Dk (α:=Cse) (fun a=>[Dt a]) (fun a=>True) (fun a=>.bool (decide (K7 a)))
theorem sZ(x:Cse):cv [Dt x]=some (.bool (decide (K7 x))):=
 D7 (fun a b h=>by simp only[Aa,and_true,OH]at h; simp[h]) (x) trivial
theorem Yqz(x:Cse):@wW GG (tb [] []) Y5.code (Dc [Dt x]) [] ⟨Dn Y5.res (.bool (decide (K7 x)))⟩:=by
 unfold Y5
 by_cases E:x.ph=4
 ·have e:decide (K7 x)=true:=by simp[K7,E]
  simp (disch:=first|omega|decide) only[push_cast,↓reduceIte,CI,Fm,Fz,E,e]
 by_cases I:x.ph=5
 ·have e:decide (K7 x)=true:=by simp[K7,I]
  have g:=eq_true I;simp (disch:=first|omega|decide) only[push_cast,↓reduceIte,CI,Fm,Fz,E,g,e]
 by_cases J:x.ph=6
 ·have e:decide (K7 x)=true:=by simp[K7,J]
  have g:=eq_true J;simp (disch:=first|omega|decide) only[push_cast,↓reduceIte,CI,Fm,Fz,E,I,g,e]
 ·have e:decide (K7 x)=false:=by simp[K7,E,I,J]
  simp (disch:=first|omega|decide) only[push_cast,↓reduceIte,CI,Fm,Fz,E,I,J,e]
theorem wz:Contract Tryz.prog GG 31 cv:=
 Ed yHr (DI all_nil all_nil) (fun a h=>Yqz a)
def ES(b:UInt8):Dig:=⟨b::CQ 31 0,by simp⟩
theorem Yfa(b:UInt8):DO (C8 Du) [(0,1,Dl b)]=some (C8 (ES b)):=by
 have h:C8 Du=(CQ 32 (0:UInt8)).map Dl:=rfl;rw[h,OK Dl (fun _=>rfl) _ _ _ _ (by simp),Ow];rfl
def RC(h l i:Int)(a b:Dig)(r:Int):Bis:=⟨h,l,i,a,b,false,false,Du,Du,Du,Du,r⟩
theorem yVz(l:List Dig)(hl:(l.length:Int)≤65536):KT l=((l.length:Int),HK l (D1 l.length).toNat 0):=if_pos hl
theorem uE:D1 1=0:=by decide +kernel
def Wi(a b:List Dig)(lv i:Int):Int:=if HK a (lv - 1).toNat (2*i)=HK b (lv - 1).toNat (2*i)then 2*i+1 else 2*i
def idxS(a b:List Dig)(h:Int):Nat→Int
 |0=>0
 |k+1=>Wi a b (h - k) (idxS a b h k)
variable {c:List Ins} {v:Int×List Int} {x:Cse} {m:Mv} {now:Int}
theorem Qp(h:FQ c v x m now≠0):GD c v x m now=GZ:=if_neg h
theorem TF(h:FQ c v x m now=0):GD c v x m now=(Gw c v x m now).1:=if_pos h
theorem rU(h:¬ Hh x):FQ c v x m now=400:=if_neg h
def FC(m:Mv)(now:Int):Prop:=(1≤m.kd∧m.kd≤7)∧0≤now∧now≤1073741824∧(m.pt=0∨m.pt=1)
theorem Ykd(h:Hh x)(E:¬ FC m now):FQ c v x m now=1:=by
 unfold FQ; rw[if_pos h]; exact if_neg E
theorem rD(h:Hh x)(E:FC m now)(I:¬ now≤x.dl):FQ c v x m now=401:=by
 unfold FQ FC at *; rw[if_pos h,if_pos E]; exact if_neg I
theorem Yf(h:Hh x)(E:FC m now)(I:now≤x.dl):FQ c v x m now=(Gw c v x m now).2:=by
 unfold FQ FC at *; rw[if_pos h,if_pos E]; exact if_pos I
def Yzr(x:Cse)(m:Mv):Prop:=((m.kd=1∨m.kd=6)∧(m.pt=0∨x.ph≠1))∨(m.kd=4∧m.pt=1)∨(m.kd=7∧(m.pt=1∨x.ph≠1))∨(m.kd=2∧x.ph≠2)∨(m.kd=3∧x.ph≠3)
theorem pO(h:Hh x)(I:FC m now)(J:now≤x.dl)(hn:Yzr x m):FQ c v x m now=380:=by
 rw[Yf h I J];unfold Gw;rcases hn with⟨hk | hk,E⟩ | ⟨hk,E⟩ | ⟨hk,E⟩ | ⟨hk,E⟩ | ⟨hk,E⟩
 ·rw[if_pos hk]; unfold M8; rw[if_neg (by omega)]
 ·rw[if_neg (by omega),if_neg (by omega),if_neg (by omega),if_neg (by omega),if_neg (by omega),if_pos hk]; unfold Q5; rw[if_neg (by omega)]
 ·rw[if_neg (by omega),if_neg (by omega),if_neg (by omega),if_pos hk]; unfold SW; rw[if_neg (by omega)]
 ·rw[if_neg (by omega),if_neg (by omega),if_neg (by omega),if_neg (by omega),if_neg (by omega),if_neg (by omega)]; unfold IV; rw[if_neg (by omega)]
 ·rw[if_neg (by omega),if_pos hk]; unfold SE; rw[if_neg E]
 ·rw[if_neg (by omega),if_neg (by omega),if_pos hk]; unfold Ng Hw; rw[if_neg (by simp[E])]
structure Keep (x y:Cse):Prop where
 key:y.key=x.key
 p0:y.p0=x.p0
 p1:y.p1=x.p1
 a0:y.a0=x.a0
 c0:y.c0=x.c0
 dl:y.ph≤3→x.dl≤y.dl
theorem Keep.refl(x:Cse):Keep x x:=⟨rfl,rfl,rfl,rfl,rfl,fun _=>CB _⟩
structure Live (x:Cse) (now:Int):Prop where
 ph:1≤x.ph∧x.ph≤6
 dl:x.ph≤3→x.dl≤now+1440
 wn:-1≤x.wn∧x.wn≤1
 bv:La x.b=true
theorem Yxd(x:Cse)(n:Int):-1≤JR x n∧JR x n≤1:=by
 unfold JR; split
 ·omega
 ·omega
theorem yMs(E:Dig×Dig)(d:Dig):-1≤Rd E d∧Rd E d≤1:=by
 unfold Rd; split
 ·omega
 ·omega
theorem eY(E:Dig×Dig)(r:Dig×Int):-1≤(HJ E r).1∧(HJ E r).1≤1:=by
 unfold HJ; split
 ·exact yMs ..
 ·simp
def GR(st:St)(k:Nat)(p:Ply):Prop:=st[k]?=some ⟨false,1,Df p,false⟩
variable {p:Ply}
theorem L9(h:GR st k p):k<st.length:=(Ac.1 h).1
theorem Ynk{a b:List Ins}:Et a=Et b↔a=b:=by
 refine⟨fun h=>?_,fun h=>by rw[h]⟩;simp only[Et,D.slc.injEq,and_true]at h;exact Kw.1 h.2
theorem oW{q:Ply}(h:Df p=Df q)(M:p.j=Dx p.x.jn)(N:q.j=Dx q.x.jn):p=q:=by
 obtain⟨I,pj,pc,pv,pm,pn,O⟩:=p;obtain⟨qx,qj,qc,qv,qm,qn,U⟩:=q;dsimp only at M N;simp only[Df,Ew,L7,Aj]at h;obtain⟨h1,V⟩:=A5 h ((M4 I pj).trans (M4 qx qj).symm);simp only[Dh,Sg.cs,Ae,Ai,Ad,Aa,Ynk]at V;obtain⟨rfl,h3⟩:=V;obtain⟨h4,h5⟩:=A5 h3 ((HQ O).trans (HQ U).symm);obtain⟨h6,Y⟩:=A5 h5 ((YG pm).trans (YG qm).symm);simp only[Aa,D.int.injEq,true_and,and_true]at Y;obtain rfl:=Y;obtain rfl:=fQ.1 (congrArg D.agg h6);obtain rfl:=Kb.1 (congrArg D.agg h4);obtain⟨E,h9⟩:=gF h1;subst h9;have J:I.jn=qx.jn:=cS.1 (M.symm.trans N)
 have:I=qx:=by
  obtain⟨xk,x0,x1,x2,x3,x4,x5,xc,xe,xb,x6,x7,x8,xj⟩:=I;obtain⟨yk,y0,y1,y2,y3,y4,y5,yc,ye,yb,y6,y7,y8,yj⟩:=qx;simp only[Cse.mk.injEq,and_true]at E J ⊢;exact⟨E.1,E.2.1,E.2.2.1,E.2.2.2.1,E.2.2.2.2.1,E.2.2.2.2.2.1,E.2.2.2.2.2.2.1,E.2.2.2.2.2.2.2.1,E.2.2.2.2.2.2.2.2.1,E.2.2.2.2.2.2.2.2.2.1,E.2.2.2.2.2.2.2.2.2.2.1,E.2.2.2.2.2.2.2.2.2.2.2.1,E.2.2.2.2.2.2.2.2.2.2.2.2,J⟩
 subst this;rfl
section
variable {α:Type} (enc:α→List D) (pre:Ply→α→Prop) (F:Ply→α→Cse×Int×St)
def Kj(ds:List D)(st:St)(r:D×Int×St):Prop:=∃ (k:Nat) (p:Ply) (a:α),p.j=Dx p.x.jn∧GR st k p∧pre p a∧ds=.ptr k 0::enc a∧r=(.tup [],(F p a).2.1,DF st k (Df {p with x:=(F p a).1})++(F p a).2.2)
variable {enc pre F}
theorem OB(hi:∀ a b,enc a=enc b→a=b):Jo (Kj enc pre F):=by
 rintro ds st r J ⟨k,p,a,hj,hk,_,rfl,rfl⟩ ⟨k',p',M,I,E,_,h,rfl⟩;simp only[Aa,D.ptr.injEq,and_true]at h;obtain⟨rfl,h⟩:=h;obtain rfl:=hi _ _ h;unfold GR at hk E;rw[hk]at E;simp only[AO,PI.Obj.mk.injEq,true_and,and_true]at E;obtain rfl:=oW E hj I;rfl
theorem RS(hi:∀ a b,enc a=enc b→a=b){a:α}(hj:p.j=Dx p.x.jn)(hk:GR st k p)(E:pre p a)(I:(F p a).2.1=0) :
  EO (Kj enc pre F) (.ptr k 0::enc a) st=some (.tup [],DF st k (Df {p with x:=(F p a).1})++(F p a).2.2):=
 UZ (OB hi) ⟨k,p,a,hj,hk,E,rfl,by rw[I]⟩
theorem Ys5(hi:∀ a b,enc a=enc b→a=b){a:α}(hj:p.j=Dx p.x.jn)(hk:GR st k p)(E:pre p a)(I:(F p a).2.1≠0) :
  EO (Kj enc pre F) (.ptr k 0::enc a) st=none:=UY (OB hi) ⟨k,p,a,hj,hk,E,rfl,rfl⟩ I
theorem Yz0(hi:∀ a b,enc a=enc b→a=b){a:α}(hj:p.j=Dx p.x.jn)(hk:GR st k p)(E:pre p a)(I:(F p a).2.1≠0) :
  GH (Kj enc pre F) (.ptr k 0::enc a) st=some (125,.int .i64 (F p a).2.1,DF st k (Df {p with x:=(F p a).1})++(F p a).2.2):=
 Vp (OB hi) ⟨k,p,a,hj,hk,E,rfl,rfl⟩ I
end
theorem JM(h:GR st k p)(l:St):GR (st++l) k p:=by
 unfold GR; rw[HX (L9 h)]; exact h
theorem QG(h:k<st.length)(p:Ply):GR (DF st k (Df p)) k p:=M0 h _
theorem PO(h:GR st k p):DF st k (Df p)=st:=by
 unfold GR at h;obtain⟨I,E⟩:=Ac.1 h;unfold DF;rw[← E,List.set_getElem_self]
def I6:Unit→List D:=fun _=>[]
def HH:Int→List D:=fun n=>[.int .i64 n]
def Ls:Int×Int→List D:=fun a=>[.int .i64 a.1,.int .i64 a.2]
theorem M1:∀ a b,I6 a=I6 b→a=b:=fun _ _ _=>rfl
theorem gH:∀ a b,HH a=HH b→a=b:=fun a b h=>by simpa[HH]using h
theorem oa:∀ a b,Ls a=Ls b→a=b:=fun a b h=>by
 simp only[Ls,Aa,D.int.injEq,true_and,and_true]at h;exact Prod.ext h.1 h.2
def Pe(p:Ply)(a:Int×Int):Cse×Int×St:=(Km p.x a.1 a.2,0,[])
abbrev ND:=Kj Ls (fun _ _=>True) Pe
theorem hJ:CK 125 ND:=by
 refine Lf (T:=tb [] []) ng (DI all_nil all_nil) ?_;rintro ds st d e st' ⟨k,p,⟨w,a⟩,hj,hk,_,rfl,h⟩;simp only[Az]at h;obtain⟨rfl,rfl,rfl⟩:=h;have E:=L9 hk;unfold GR at hk;unfold fq;simp (disch:=first|omega|decide) only[push_cast,↓reduceIte,CI,Ls,Pe,Km,DK,hk,U2,vZ,Yyl,I3,M0 E,Ma,Ad,and_true]
noncomputable abbrev lI:Tbl:=tb [] [(125,EO ND)]
theorem ee(hj:p.j=Dx p.x.jn)(hk:GR st k p)(w a:Int):EO ND [.ptr k 0,.int .i64 w,.int .i64 a] st=some (.tup [],DF st k (Df {p with x:=Km p.x w a})):=by
 have:=RS (F:=Pe) (pre:=fun _ _=>True) oa (a:=(w,a)) hj hk trivial rfl;rw[show(Pe p (w,a)).2.2=[]from rfl,Ad]at this;exact this
def Mf(p:Ply)(a:Int):Cse×Int×St:=(Gk p.x a,0,[])
abbrev Mp:=Kj HH (fun _ a=>a≤1) Mf
theorem bw:CK 79 Mp:=by
 refine Lf (T:=lI) m0 (DI all_nil (all_cons hJ.1 all_nil)) ?_;rintro ds st d e st' ⟨k,p,a,hj,hk,ha,rfl,h⟩;simp only[Az]at h;obtain⟨rfl,rfl,rfl⟩:=h;have M:=L9 hk;have E:=fun w a=>ee hj hk w a;unfold GR at hk;unfold fo
 by_cases I:a<0
 ·simp (disch:=first|omega|decide) only[push_cast,↓reduceIte,CI,CL,HH,Mf,Gk,I,E,Ad,and_true]
 ·have J:a=0∨a=1:=by omega
  rcases J with rfl | rfl
  ·have e:Gk p.x 0=Km p.x 0 p.x.a0:=by unfold Gk SD; rw[if_neg (by omega),if_pos rfl]
   simp (disch:=first|omega|decide) only[push_cast,↓reduceIte,CI,CO,CL,HH,Mf,e,I,DK,hk,Ee,aE,E,Ad,and_true]
  ·have e:Gk p.x 1=Km p.x 1 p.x.a1:=by unfold Gk SD; rw[if_neg (by omega),if_neg (by omega)]
   simp (disch:=first|omega|decide) only[push_cast,↓reduceIte,CI,CJ,CO,CL,HH,Mf,e,I,DK,hk,Ee,aF,E,Ad,and_true]
theorem Uh(hj:p.j=Dx p.x.jn)(hk:GR st k p){a:Int}(E:a≤1):EO Mp [.ptr k 0,.int .i64 a] st=some (.tup [],DF st k (Df {p with x:=Gk p.x a})):=by
 have:=RS (F:=Mf) (pre:=fun _ a=>a≤1) gH (a:=a) hj hk E rfl;rw[show(Mf p a).2.2=[]from rfl,Ad]at this;exact this
theorem YA0(hk:st[k]?=some ⟨false,1,Df p,false⟩):DW st (.bsl k 9 2 1 false)=some (.slc 1 [.int .i64 p.x.a0,.int .i64 p.x.a1] false):=by
 have E:LA st k 9 2 1 false=some [.int .i64 p.x.a0,.int .i64 p.x.a1]:=by
  unfold LA;rw[hk];dsimp only;rw[yPx,if_pos (by decide)];rfl
 simp only[DW,DD,H8,E];rfl
def Pa(p:Ply)(n:Int):Cse×Int×St:=(ML p.x n,0,[])
abbrev Pl:=Kj HH (fun _ _=>True) Pa
theorem nV:CK 120 Pl:=by
 refine Lf (T:=tb [(160,aR)] [(125,EO ND)]) zo (DI (all_cons Xm all_nil) (all_cons hJ.1 all_nil)) ?_;rintro ds st d e st' ⟨k,p,a,hj,hk,ha,rfl,h⟩;simp only[Az]at h;obtain⟨rfl,rfl,rfl⟩:=h;have E:=fun w a=>ee hj hk w a
 have ci:aR [.slc 1 [.int .i64 p.x.a0,.int .i64 p.x.a1] false,.int .i64 a]=some (.int .i64 (JR p.x a)):=by
  have:=Yns [p.x.a0,p.x.a1] a (by simp);rw[Yt6]at this;exact this
 unfold GR at hk;have hi:=YA0 hk;have I:Pz 2 1 false (.ptr k 9) none none=some (.bsl k 9 2 1 false):=rfl;have DB:keys (.bsl k 9 2 1 false)=[k]:=rfl;unfold mZ;simp (disch:=first|omega|decide) only[push_cast,↓reduceIte,CI,HH,Pa,ML,DK,I,hi,ci,E,Ad,and_true]
theorem ef(hj:p.j=Dx p.x.jn)(hk:GR st k p)(a:Int):EO Pl [.ptr k 0,.int .i64 a] st=some (.tup [],DF st k (Df {p with x:=ML p.x a})):=by
 have:=RS (F:=Pa) (pre:=fun _ _=>True) gH (a:=a) hj hk trivial rfl;rw[show(Pa p a).2.2=[]from rfl,Ad]at this;exact this
def Nf(p:Ply):Prop:=0≤p.now∧p.now≤1073741824
def Pb(p:Ply)(_:Unit):Cse×Int×St:=({p.x with dl:=p.now+1440},0,[])
abbrev KS:=Kj I6 (fun p _=>Nf p) Pb
theorem Yb:CK 118 KS:=by
 refine Lf (T:=tb [] []) zu (DI all_nil all_nil) ?_;rintro ds st d e st' ⟨k,p,a,hj,hk,ha,rfl,h⟩;simp only[Az]at h;obtain⟨rfl,rfl,rfl⟩:=h;obtain⟨n1,I⟩:=ha;have E:=L9 hk;unfold GR at hk;unfold m6;simp (disch:=first|omega|decide) only[push_cast,↓reduceIte,CI,I6,Pb,DK,hk,Ytf,DN,Yyj,I3,Ad,and_true]
theorem Y3(hj:p.j=Dx p.x.jn)(hk:GR st k p)(hn:Nf p):EO KS [.ptr k 0] st=some (.tup [],DF st k (Df {p with x:={p.x with dl:=p.now+1440}})):=by
 have:=RS (F:=Pb) (pre:=fun p _=>Nf p) M1 (a:=()) hj hk hn rfl;rw[show(Pb p ()).2.2=[]from rfl,Ad]at this;exact this
def O3(p:Ply)(_:Unit):Cse×Int×St:=(Ra p.x p.now,0,[])
abbrev Pj:=Kj I6 (fun p _=>Nf p) O3
theorem w6:CK 121 Pj:=by
 refine Lf (T:=tb [] [(118,EO KS)]) za (DI all_nil (all_cons Yb.1 all_nil)) ?_;rintro ds st d e st' ⟨k,p,a,hj,hk,ha,rfl,h⟩;simp only[Az]at h;obtain⟨rfl,rfl,rfl⟩:=h;have E:=L9 hk;have ce:=Y3 (st:=DF st k (Df {p with x:={p.x with ph:=3}})) (k:=k) (p:={p with x:={p.x with ph:=3}}) hj (QG E _) ha;unfold GR at hk;unfold mQ;simp (disch:=first|omega|decide) only[push_cast,↓reduceIte,CI,I6,O3,Ra,DK,hk,U2,I3,ce,Ma,Ad,and_true]
theorem nT(hj:p.j=Dx p.x.jn)(hk:GR st k p)(hn:Nf p):EO Pj [.ptr k 0] st=some (.tup [],DF st k (Df {p with x:=Ra p.x p.now})):=by
 have:=RS (F:=O3) (pre:=fun p _=>Nf p) M1 (a:=()) hj hk hn rfl;rw[show(O3 p ()).2.2=[]from rfl,Ad]at this;exact this
end Go.Proofs.YtijnglngaogdjaaGreatDoor.PI
