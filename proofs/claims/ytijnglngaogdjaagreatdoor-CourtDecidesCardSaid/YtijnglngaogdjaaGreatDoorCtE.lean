/-
  court: the methods of a move under way.
  Conditions: none; these are lemmas.
-/
import Derived.Test.YtijnglngaogdjaaGreatDoorArQ
import Derived.Test.YtijnglngaogdjaaGreatDoorArE
import Derived.Test.YtijnglngaogdjaaGreatDoorEngHe
import Derived.Test.YtijnglngaogdjaaGreatDoorSha
open Int renaming reduceAdd→CZ,reduceLT→CT,reduceMul→C4,reduceNatCast'→CL,reduceNeg→CO,reducePow→C0,reduceSub→C3,reduceToNat→CU
open List renaming replicate→CQ
open Nat renaming reduceAdd→CJ,reduceBEq→CV,reduceEqDiff→CI,reduceLT→CP,reduceLeDiff→CM,reduceMul→CN
open Prod renaming fst→C5,snd→C6
namespace Go.Proofs.YtijnglngaogdjaaGreatDoor.PI
open Go
set_option linter.unusedSimpArgs false
set_option maxHeartbeats 8000000
set_option maxRecDepth 20000
set_option linter.unusedVariables false
theorem Sc(d:Der):DH (Fv d)=some (Dr (Eh d.code) d.env d.am d.er (H6 d.lv)):=by
 rw[show DH (Fv d)=if(Dr (Eh d.code) d.env d.am d.er (H6 d.lv)).all D.isCell then some (Dr (Eh d.code) d.env d.am d.er (H6 d.lv))else none from rfl,if_pos (sO _ rfl rfl _ _)]
def E0(c:List Ins)(v:Int×List Int)(n:Int):Sta×Int:=if(Fk c).2=0 then(if n<0 then(FX,1)else match(HU c v)[n.toNat]? with
 |some s=>(s,0)
 |none=>(FX,1))else(FX,(Fk c).2)
def LW:List D:=[.int .i64 0,.int .i64 0,.int .i64 0,.int .i64 0,.slc 0 [] true]
theorem yM:DH (.agg [.int .i64 0,.int .i64 0,.int .i64 0,.int .i64 0,.slc 0 [] true])=some LW:=(rfl)
theorem YBi(s:Sta):DT (some ⟨false,1,LW,false⟩) 5 0 (DS s)=some ⟨false,1,DY s,false⟩:=(rfl)
theorem Yby:DT (some ⟨false,1,LW,false⟩) 5 0 (.agg [.int .i64 0,.int .i64 0,.int .i64 0,.int .i64 0,.slc 0 [] true])=some ⟨false,1,LW,false⟩:=(rfl)
theorem yx(lent:Bool):DA (some ⟨false,1,LW,lent⟩) 5 true 0=some (.agg [.int .i64 0,.int .i64 0,.int .i64 0,.int .i64 0,.slc 0 [] true]):=(rfl)
def KP(d:Der)(n:Int)(r:List D)(e:Int)(s:Sta)(k:Int)(ex:St):St:=
 ⟨false,1,Dr (Eh d.code) d.env d.am d.er (H6 d.lv),false⟩::⟨false,1,[.int .i64 n],false⟩::⟨false,1,r,false⟩::⟨false,1,[.int .i64 e],false⟩::⟨false,1,[Eh d.code],false⟩::⟨false,1,D0 d.env,false⟩::recO k::⟨false,1,DY s,false⟩::ex
noncomputable def M4:Tbl:=TF [(47,Sk)] [(60,Tu)] [(114,RF)]
theorem YB6(d:Der)(n:Int)(s:Sta)(r:List D)(e:Int)(E:St)(i:Nat)(hi:¬ (i:Int)=n)(fr:Frame)(I:fr 3=.ptr 1 0)(J:fr 4=.ptr 2 0)(M:fr 5=.ptr 3 0)(m:Nat) :
  Lp (S0.exec GG M4 m) (S1.exec GG M4 m) fr [25,26] 6 [.int .i64 (i:Int),DS s] (KP d n r e s 0 E)=some (.bool true,KP d n r e s 0 (E++[HW s])):=by
 refine dF rfl rfl rfl ?_ m;unfold S0 KP;simp (disch:=first|omega|decide) only[push_cast,↓reduceIte,CI,J4,Is,Kp,Fo,Sj];unfold S1;simp (disch:=first|omega|decide) only[push_cast,↓reduceIte,CI,I,dE,bG,Vd,M4,hi];rfl
theorem YB5(d:Der)(s:Sta)(E:St)(i:Nat)(fr:Frame)(I:fr 3=.ptr 1 0)(J:fr 4=.ptr 2 0)(M:fr 5=.ptr 3 0)(m:Nat) :
  Lp (S0.exec GG M4 m) (S1.exec GG M4 m) fr [25,26] 6 [.int .i64 (i:Int),DS s] (KP d (i:Int) LW 0 s 0 E)=some (.bool false,KP d (i:Int) (DY s) 0 s 1 (E++[HW s])):=by
 refine dF rfl rfl rfl ?_ m;unfold S0 KP;simp (disch:=first|omega|decide) only[push_cast,↓reduceIte,CI,J4,Is,Kp,Fo,Sj];unfold S1;simp (disch:=first|omega|decide) only[push_cast,↓reduceIte,CI,I,J,M,dE,bG,Vd,M4,Fo,IW,YBi];rfl
def K8(d:Der)(n:Int)(l:List Sta)(i:Nat)(ex:St):St:=match l with
 |[]=>[]
 |s::l=>if(i:Int)=n then KP d n (DY s) 0 s 1 (ex++[HW s])else match l with
  |[]=>KP d n LW 0 s 0 (ex++[HW s])
  |s'::l=>K8 d n (s'::l) (i+1) (ex++[HW s])
theorem iz(d:Der)(hv:EA d.env)(n:Int)(fr:Frame)(E:fr 3=.ptr 1 0)(I:fr 4=.ptr 2 0)(J:fr 5=.ptr 3 0)(m:Nat):∀ (l:List Sta) (s:Sta) (i:Nat) (ex:St),
  RunY (Lp (S0.exec GG M4 m) (S1.exec GG M4 m) fr [25,26] 6) 7 4 5 (s::l) i (KP d n LW 0 s 0 ex) (K8 d n (s::l) i ex)
 |l,s,i,ex=>by
  by_cases hi:(i:Int)=n
  ·subst hi;rw[show K8 d (i:Int) (s::l) i ex=KP d (i:Int) (DY s) 0 s 1 (ex++[HW s]) by unfold K8; rw[if_pos rfl]];exact .stop (YB5 d s ex i fr E I J m)
  ·match l with
   |[]=>
    rw[show K8 d n [s] i ex=KP d n LW 0 s 0 (ex++[HW s]) by unfold K8; rw[if_neg hi]];exact .last (YB6 d n s LW 0 ex i hi fr E I J m) rfl
   |s'::l=>
    rw[show K8 d n (s::s'::l) i ex=K8 d n (s'::l) (i+1) (ex++[HW s]) by rw[K8,if_neg hi]];exact .next (YB6 d n s LW 0 ex i hi fr E I J m) rfl rfl rfl (iz d hv n fr E I J m l s' (i+1) (ex++[HW s]))
theorem rL(d:Der)(n:Int):∀ (l:List Sta) (s:Sta) (i:Nat) (ex:St),(∃ k s',n=(i:Int)+(k:Nat)∧(s::l)[k]?=some s'∧∃ E,K8 d n (s::l) i ex=KP d n (DY s') 0 s' 1 E)∨
  ((n<i∨(i:Int)+((s::l).length:Nat)≤n)∧∃ s' E,K8 d n (s::l) i ex=KP d n LW 0 s' 0 E)
 |l,s,i,ex=>by
  by_cases hi:(i:Int)=n
  ·exact .inl ⟨0,s,by omega,rfl,ex++[HW s],by unfold K8; rw[if_pos hi]⟩
  ·match l with
   |[]=>exact .inr ⟨by simp; omega,s,ex++[HW s],by unfold K8; rw[if_neg hi]⟩
   |s'::l=>
    rw[show K8 d n (s::s'::l) i ex=K8 d n (s'::l) (i+1) (ex++[HW s]) by rw[K8,if_neg hi]];rcases rL d n l s' (i+1) (ex++[HW s])with⟨k,x,J,I,M⟩ | ⟨J,I⟩
    ·exact .inl ⟨k+1,x,by omega,by simpa using I,M⟩
    ·exact .inr ⟨by simp only[Ah]at J ⊢; omega,I⟩
noncomputable def jN:List D→Option D:=Dl (α:=Der×Int) (fun a=>[Fv a.1,.int .i64 a.2]) (fun a=>a.1.code.length≤9223372036854775807∧EA a.1.env) (fun a=>.tup [DS (E0 a.1.code a.1.env a.2).1,.int .i64 (E0 a.1.code a.1.env a.2).2])
theorem Yai(d:Der)(n:Int)(h:d.code.length≤9223372036854775807∧EA d.env):jN [Fv d,.int .i64 n]=some (.tup [DS (E0 d.code d.env n).1,.int .i64 (E0 d.code d.env n).2]):=
 D7 (fun⟨a0,a1⟩ ⟨b0,b1⟩ h=>by simp only[Aa,D.int.injEq,true_and,and_true,pW]at h; simp[h]) (d,n) h
theorem Ys8(d:Der)(n:Int)(h:d.code.length≤9223372036854775807∧EA d.env):@wW GG M4 Z0.code (Dc [Fv d,.int .i64 n]) [] ⟨Dq Z0.res (.tup [DS (E0 d.code d.env n).1,.int .i64 (E0 d.code d.env n).2])⟩:=by
 obtain⟨hc,hv⟩:=h;have U:=Yu d.code hc;have cs:=pO d.code d.env [⟨false,1,Dr (Eh d.code) d.env d.am d.er (H6 d.lv),false⟩,⟨false,1,[.int .i64 n],false⟩,⟨false,1,LW,false⟩,⟨false,1,[.int .i64 0],false⟩] hv;have l0:∀ lent,DA (some ⟨false,1,Dr (Eh d.code) d.env d.am d.er (H6 d.lv),lent⟩) 1 false 0=some (.slc (nz 3 (d.code.map Da)) (d.code.map Da) false):=fun lent=>Ywc d.env lent (Eh d.code) (H6 d.lv) d.am d.er;have l1:=fun lent=>Ywb hv lent (Eh d.code) (H6 d.lv) d.am d.er;rw[show Tu [Eh d.code,EJ d.env]=Tu [.slc (nz 3 (d.code.map Da)) (d.code.map Da) false,EJ d.env]from rfl]at cs;unfold Z0
 by_cases E:(Fk d.code).2=0
 ·obtain⟨Dm,l,hD,Y,V,ab,hg⟩:=P1 (v:=d.env) E;obtain⟨J,_⟩:=Nh E;simp (disch:=first|omega|decide) only[push_cast,↓reduceIte,CI,CJ,M4,Sc,yM,U,E,l0,l1,cs]
  have M:∀ x,E0 d.code d.env n=x↔(if n<0 then(FX,1)else match(Gl ((d.code.length:Int)+1)::l)[n.toNat]? with
   |some s=>(s,(0:Int))
   |none=>(FX,1))=x:=fun x=>by unfold E0; rw[if_pos E,Y]
  rcases rL d n l (Gl ((d.code.length:Int)+1)) 0 []with⟨k,s',hn,hk,I,he⟩ | ⟨hn,s',I,he⟩
  ·refine gp (e:=.ret) (st':=KP d n (DY s') 0 s' 1 I) (d:=.tup []) (by simp only[push_cast,↓reduceIte] <;> rfl) (by decide) (by rfl) (fun m=>?_) rfl ?_
   ·refine ik ⟨4,5,d.code,d.env,l,false,false,rfl,rfl,rfl,J,hv,by omega,V,rfl,?_⟩;rw[← he];exact iz d hv n _ rfl rfl rfl m l _ 0 []
   ·rw[(M (s',0)).2 (by rw[if_neg (by omega),show n.toNat=k by omega,hk])];unfold KP;simp (disch:=first|omega|decide) only[push_cast,↓reduceIte,CI,CJ,IW,KI]
  ·refine gp (e:=.next) (st':=KP d n LW 0 s' 0 I) (d:=.tup []) (by simp only[push_cast,↓reduceIte] <;> rfl) (by decide) (by rfl) (fun m=>?_) rfl ?_
   ·refine ik ⟨4,5,d.code,d.env,l,false,false,rfl,rfl,rfl,J,hv,by omega,V,rfl,?_⟩;rw[← he];exact iz d hv n _ rfl rfl rfl m l _ 0 []
   ·have e1:E0 d.code d.env n=(FX,1):=(M _).2 (by
     split
     ·rfl
     ·rw[Be (by omega)])
    rw[e1];unfold KP;simp (disch:=first|omega|decide) only[push_cast,↓reduceIte,CI,CJ,Vr,Yby,yx];rfl
 ·rw[show E0 d.code d.env n=(FX,(Fk d.code).2)from if_neg E];simp (disch:=first|omega|decide) only[push_cast,↓reduceIte,CI,CJ,M4,Sc,yM,U,E,l0,Vr,Yby,yx];rfl
theorem Yyu:Contract Tryz.prog GG 39 jN:=
 Eg (T:=M4) yB9 (yd (all_cons bk all_nil) (all_cons xB all_nil) (all_cons xD all_nil)) (fun a h=>Ys8 a.1 a.2 h)
theorem Eb(S l:St)(k:Nat):(S++l)[S.length+k]?=l[k]?:=by
 rw[AP (by omega)]; congr 1; omega
theorem Fh(S l:St):(S++l)[S.length]?=l[0]?:=Eb S l 0
theorem Ed(S l:St)(k:Nat)(x:PI.Obj):(S++l).set (S.length+k) x=S++l.set k x:=by
 rw[Ce _ _ (by omega)]; congr 2; omega
theorem Fi(S l:St)(x:PI.Obj):(S++l).set S.length x=S++l.set 0 x:=Ed S l 0 x
theorem Ng(fr:Frame)(st:St)(t n:Nat)(ag:Bool)(l:List PRes):D9 ⟨fr,st⟩ (.cell t n ag::l)=(FF st n ag (fr t)).bind fun d=>(D9 ⟨fr,st⟩ l).map (d::·):=by
 simp only[D9];cases FF st n ag (fr t) <;> cases D9 ⟨fr,st⟩ l <;> rfl
def IS(p:Dig×Dig):D:=.agg (C8 p.1++C8 p.2)
theorem gv{a b:Dig×Dig}:IS a=IS b↔a=b:=by
 refine⟨fun h=>?_,fun h=>by rw[h]⟩;obtain⟨a1,J⟩:=a;obtain⟨b1,M⟩:=b;simp only[IS,D.agg.injEq]at h;obtain⟨E,I⟩:=A5 h (by rw[D2,D2]);rw[Mj.1 E,Mj.1 I]
theorem Yyj(p:Dig×Dig):(C8 p.1++C8 p.2).all D.isCell=true:=by
 rw[Bm,Lf (fun _=>rfl),Lf (fun _=>rfl)]; rfl
theorem Yh0(p:Dig×Dig):(C8 p.1++C8 p.2).length=64:=by simp[D2]
theorem mC(p:Dig×Dig):DH (IS p)=some (C8 p.1++C8 p.2):=by
 rw[show DH (IS p)=if(C8 p.1++C8 p.2).all D.isCell then some (C8 p.1++C8 p.2)else none from rfl,if_pos (Yyj p)]
theorem lY(lent:Bool)(p:Dig×Dig):DA (some ⟨false,1,C8 p.1++C8 p.2,lent⟩) 64 true 0=some (IS p):=LQ 1 lent _ 64 (Yh0 p)
theorem lI(p:Dig×Dig):Qu 2 32 true (IS p) (.int .i64 0)=some (C9 p.1):=
 p5 (A:=[]) (B:=C8 p.1) (C:=C8 p.2) rfl rfl (D2 _)
theorem lH(p:Dig×Dig):Qu 2 32 true (IS p) (.int .i64 1)=some (C9 p.2):=
 p5 (A:=C8 p.1) (B:=C8 p.2) (C:=[]) (by rw[Ad]) (D2 _) (D2 _)
theorem pU(p:Dig×Dig):Jj (IS p)=true:=by
 simp only[IS,Jj,Bm];rw[show(C8 p.1).all Es=true from Q9 _,show(C8 p.2).all Es=true from Q9 _]; rfl
theorem lW(p:Dig×Dig):hk (IS p)=[]:=T0 (pU p)
theorem mZ(n:Nat)(σ:List Nat)(p:Dig×Dig):Ez n σ (IS p)=IS p:=Q4 n σ (pU p)
def Et(p:Int×Dig):D:=.agg (.int .i64 p.1::C8 p.2)
def MK(cl:Dig×Dig)(d:Dig):Int:=if cl.1=d then 0 else if cl.2=d then 1 else -1
def HG(cl:Dig×Dig)(r:Dig×Int):Int×Dig:=if r.2=0 then(MK cl r.1,r.1)else(0,Dt)
def FM(cl:Dig×Dig):PI.Obj:=⟨false,1,C8 cl.1++C8 cl.2,false⟩
def Fw(p:Int×Dig):PI.Obj:=⟨false,1,.int .i64 p.1::C8 p.2,false⟩
def xI(f:Nat)(sp:List D→St→Option (D×St))(ds:List D)(st:St)(r:D×St):Prop:=∃ (cl:Dig×Dig) (caps:List D) (d:Dig) (e:Int),StOK st∧ds=[IS cl,.clo f caps]∧
 sp caps (st++[FM cl,Fw (0,Dt)])=some (.tup [C9 d,.int .i64 e],st++[FM cl,Fw (0,Dt)])∧r=(.tup [Et (HG cl (d,e)),.int .i64 e],st)
theorem tO(f:Nat)(sp:List D→St→Option (D×St)):IF (xI f sp):=by
 rintro ds st r V ⟨cl,J,d,e,_,rfl,M,rfl⟩ ⟨U,I,Y,e',_,h,E,rfl⟩;simp only[Aa,D.clo.injEq,and_true,true_and,gv]at h;obtain⟨rfl,rfl⟩:=h;rw[M]at E;simp only[Db,Dx,D.tup.injEq,Aa,Ls,D.int.injEq,true_and,and_true]at E;obtain⟨rfl,rfl⟩:=E;rfl
noncomputable def SC(f:Nat)(sp:List D→St→Option (D×St)):List D→St→Option (D×St):=FI (xI f sp)
theorem Uv{S:St}(h:StOK S)(l:St)(hl:∀ o∈l,o.els.all Es=true):StOK (S++l):=
 h.app _ fun o E _ x I=>Q4 _ _ (ZN (Al.1 (hl o E) x I))
theorem Lw(d:Dig):(C8 d).all Es=true:=Q9 d
theorem SV(E:Dig×Dig):(FM E).els.all Es=true:=by
 simp only[FM,Bm,Lw]; rfl
theorem UI(p:Int×Dig):(Fw p).els.all Es=true:=by
 simp only[Fw,A0,Lw]; rfl
theorem Nm{S l:St}(h:StOK S):cut S.length (S++l)=S:=xC h rfl
theorem Ynj(n:Nat)(a:Int)(d:Dig)(e:Int):Iz n (.tup [.agg (.int .i64 a::C8 d),.int .i64 e])=.tup [.agg (.int .i64 a::C8 d),.int .i64 e]:=by
 have h:HY n (.agg (.int .i64 a::C8 d))=.agg (.int .i64 a::C8 d):=by
  rw[← iw]; exact Q4 n [] (d:=.agg (.int .i64 a::C8 d)) (by simp only[Jj,A0,Lw]; rfl)
 simp only[Iz,Ax,Bk,h];rfl
theorem Tz(p:Int×Dig)(a:Int)(d:Dig):DT (some (Fw p)) 33 0 (.agg (.int .i64 a::C8 d))=some (Fw (a,d)):=
 LS 1 _ _ 33 (by simp[D2]) (by simp[D2]) (by rw[A0,Lf (fun _=>rfl)]; rfl)
theorem Tk(p:Int×Dig):DA (some (Fw p)) 33 true 0=some (Et p):=LQ 1 false _ 33 (by simp[D2])
theorem YC9(E:Dig×Dig):DA (some (FM E)) 64 true 0=some (IS E):=lY false E
theorem iL(a:Int)(d:Dig):DN (.int .i64 0::C8 Dt) [(0,1,.int .i64 a),(1,32,C9 d)]=some (.int .i64 a::C8 d):=by
 refine(Jo (cs:=.int .i64 0::C8 Dt) (cs':=.int .i64 a::C8 Dt) (A:=[]) (B:=[.int .i64 0]) (xs:=[.int .i64 a]) rfl rfl rfl rfl rfl rfl rfl).trans ?_;refine(Jo (cs:=.int .i64 a::C8 Dt) (cs':=.int .i64 a::C8 d) (A:=[.int .i64 a]) (B:=C8 Dt) (C:=[]) (xs:=C8 d) (by simp) (by simp) rfl (D2 _) rfl (D2 _) (Lf (fun _=>rfl) d)).trans ?_;rfl
theorem cV(n:Nat)(p:Int×Dig)(e:Int):Iz n (.tup [Et p,.int .i64 e])=.tup [Et p,.int .i64 e]:=Ynj n p.1 p.2 e
set_option maxHeartbeats 4000000 in
set_option maxRecDepth 20000 in
theorem pS(f:Nat)(hf:f<5000000)(sp:List D→St→Option (D×St))(hc:IContract Tryz.prog GG f sp):IContract Tryz.prog GG 45 (SC f sp):=by
 refine ZJ (T:=tb [] [(f,sp)]) yAp (DJ all_nil (all_cons hc all_nil)) ?_;intro ds st r hr;obtain⟨cl,I,d,e,E,rfl,h2,rfl⟩:=Jy hr;unfold nW;have hT:(tb [] [(f,sp)]).i f=some sp:=by rw[V9,tw,if_pos rfl]
 have ab:Kd (tb [] [(f,sp)]) (.clo f I)=some (sp,[],I):=by rw[zl _ _ _ hf,hT]; rfl
 have hz:(.int .i64 0::C8 Dt:List D)=(.int .i64 0::C8 Dt:List D):=rfl;simp (disch:=first|omega|decide) only[push_cast,↓reduceIte,CI,CO,mC,ab,Ak,Ae,Aj];rw[show st++[⟨false,1,C8 cl.1++C8 cl.2,false⟩,⟨false,1,.int .i64 0::C8 Dt,false⟩]=st++[FM cl,Fw (0,Dt)]from rfl,h2];simp (disch:=first|omega|decide) only[push_cast,↓reduceIte,CI,CJ,CO,Ak,Ae,Aj,Ab,Ah,Aq,Ao,CJ,Eb,Ed]
 by_cases he:e=0
 ·subst he
  have ac:StOK (st++[FM cl,Fw (0,Dt),⟨false,1,C8 d,false⟩]):=Uv E _ (fun o ho=>by
   simp only[Aw,AE,or_false]at ho;rcases ho with rfl | rfl | rfl
   ·exact SV cl
   ·exact UI _
   ·exact Lw d)
  have J:(st++[FM cl,Fw (0,Dt),⟨false,1,C8 d,false⟩]).length=st.length+3:=by simp
  have V:st.length+1<st.length+3:=by omega
  have Y:st.length+2<st.length+3:=by omega
  have hR:∀ (fr:Frame) (l:St),(Ns fr [4,6,19,20]).all (fun k=>decide (k<st.length+3))=true→restrict [4,6,19,20] (st++[FM cl,Fw (0,Dt),⟨false,1,C8 d,false⟩]).length ⟨fr,st++FM cl::Fw (0,Dt)::⟨false,1,C8 d,false⟩::l⟩=⟨Gn (Kh fr (st.length+3) [] [4,6,19,20]),st++[FM cl,Fw (0,Dt),⟨false,1,C8 d,false⟩]⟩:=fun fr l h=>by
   have:=nR (keep:=[4,6,19,20]) (fr:=fr) (l:=l) ac J.symm (fun k hk=>of_decide_eq_true (Al.1 h k hk));rw[Ak]at this;rw[J];exact this
  have M:=hR;simp only[J]at M;simp (disch:=first|omega|decide) only[push_cast,↓reduceIte,CI,CO,Fh,YC9]
  refine F0 (fun i:Nat=>[(4,.ptr (st.length+1) 0),(6,.ptr (st.length+2) 0),(19,IS cl),(20,.int .i64 (i:Int))]) (fun _=>st++[FM cl,Fw (0,Dt),⟨false,1,C8 d,false⟩])
   (fun i=>i≤2∧(0<i→¬ cl.1=d)∧(1<i→¬ cl.2=d)) (fun i=>2 - i) 0 ?_ ⟨by omega,fun h=>absurd h (by omega),fun h=>absurd h (by omega)⟩ ?_
  ·simp (disch:=first | omega | decide | (simp only[push_cast,↓EZ,↓reduceIte,CI,CP,CM,CJ,Nat.reduceSub,CN,CV,CT,Int.reduceLE,CU,CO,C0,CZ,C4,C3,↓CL,lW,V,Y,decide_true]; done)) only[push_cast,↓reduceIte,CI,↓CL,↓hR,mZ,QO]
  rintro i ⟨hi,U,h1⟩;unfold oI
  match i,hi,U,h1 with
  |0,_,_,_=>
   have c0:=lI cl
   by_cases q:cl.1=d
   ·rw[show HG cl (d,0)=(0,d) by unfold HG MK; rw[if_pos rfl,if_pos q]];simp (disch:=first|omega|decide) only[push_cast,↓reduceIte,CI,CJ,CT,CO,↓CL,Ak,Ae,Aj,Ab,Ah,Aq,Ao,CJ,Eb,Ed,c0,q,iL,Tz,Tk,cV,Ng,Nm E]
   ·simp (disch:=first | omega | decide | (simp only[push_cast,↓EZ,↓reduceIte,CI,CP,CM,CJ,Nat.reduceSub,CN,CV,CT,Int.reduceLE,CU,CO,C0,CZ,C4,C3,↓CL,lW,V,Y,decide_true]; done)) only[push_cast,↓reduceIte,CI,CJ,CT,CZ,↓CL,↓M,mZ,QO,Ak,Ae,Aj,Ab,Ah,Aq,Ao,CJ,Eb,Ed,c0,q,DM];refine E5 1 (by exact⟨by omega,fun _=>q,fun h=>absurd h (by omega)⟩) (by omega) ?_;simp (disch:=first|omega|decide) only[push_cast,↓CL] <;> rfl
  |1,_,U,_=>
   have c1:=lH cl;have q0:=U (by omega)
   by_cases q:cl.2=d
   ·rw[show HG cl (d,0)=(1,d) by unfold HG MK; rw[if_pos rfl,if_neg q0,if_pos q]];simp (disch:=first|omega|decide) only[push_cast,↓reduceIte,CI,CJ,CT,CO,↓CL,Ak,Ae,Aj,Ab,Ah,Aq,Ao,CJ,Eb,Ed,c1,q,iL,Tz,Tk,cV,Ng,Nm E]
   ·simp (disch:=first | omega | decide | (simp only[push_cast,↓EZ,↓reduceIte,CI,CP,CM,CJ,Nat.reduceSub,CN,CV,CT,Int.reduceLE,CU,CO,C0,CZ,C4,C3,↓CL,lW,V,Y,decide_true]; done)) only[push_cast,↓reduceIte,CI,CJ,CT,CZ,↓CL,↓M,mZ,QO,Ak,Ae,Aj,Ab,Ah,Aq,Ao,CJ,Eb,Ed,c1,q,DM];refine E5 2 (by exact⟨by omega,fun _=>q0,fun _=>q⟩) (by omega) ?_;simp (disch:=first|omega|decide) only[push_cast,↓CL] <;> rfl
  |2,_,U,h1=>
   rw[show HG cl (d,0)=(-1,d) by unfold HG MK; rw[if_pos rfl,if_neg (U (by omega)),if_neg (h1 (by omega))]];simp (disch:=first|omega|decide) only[push_cast,↓reduceIte,CI,CJ,CT,CO,↓CL,Ab,Ah,Aq,Ao,CJ,Eb,Ed,iL,Tz,Tk,cV,Ng,Nm E]
 ·have hv:HG cl (d,e)=(0,Dt):=if_neg he;rw[hv];simp (disch:=first|omega|decide) only[push_cast,↓reduceIte,CI,CO,he,Eb,Ed,Nm E,Tz,Tk,cV,Vq,Ng]
theorem pQ(c:List Ins):([.slc (nz 3 (c.map Da)) (c.map Da) false]:List D).all Es=true:=by
 simp[Es,IJ]
def Ho(c:List Ins)(v:Int×List Int):Dig×Int:=if c.length=0 then(Dp,0)else if(Fk c).2≠0 then(Dt,(Fk c).2)else(DV c v (Gl (c.length+1)),0)
def wU(ds:List D)(st:St)(r:D×St):Prop:=∃ (kc kv:Nat) (c:List Ins) (v:Int×List Int) (lc lv:Bool),StOK st∧ds=[.ptr kc 0,.ptr kv 0]∧st[kc]?=some ⟨false,1,[Eh c],lc⟩∧st[kv]?=some ⟨false,1,D0 v,lv⟩∧c.length≤9223372036854775807∧EA v∧
 r=(.tup [C9 (Ho c v).1,.int .i64 (Ho c v).2],st)
theorem YEp:IF wU:=by
 rintro ds st r r' ⟨kc,kv,c,v,lc,lv,_,rfl,J,M,_,_,rfl⟩ ⟨U,V,c',v',Y,aa,_,h,E,I,_,_,rfl⟩;simp only[Aa,D.ptr.injEq,and_true]at h;obtain⟨rfl,rfl⟩:=h;rw[J]at E;rw[M]at I;simp only[Db,Obj.mk.injEq,Aa,and_true,true_and,Vn]at E I;obtain⟨rfl,_⟩:=E;obtain rfl:v=v':=Kn.1 (congrArg D.agg I.1);rfl
noncomputable def eK:List D→St→Option (D×St):=FI wU
theorem QW(n:Nat)(d:Dig)(e:Int):Iz n (.tup [C9 d,.int .i64 e])=.tup [C9 d,.int .i64 e]:=by
 have h:HY n (C9 d)=C9 d:=by rw[← iw]; exact rC n [] d
 simp only[Iz,Ax,Bk,h];rfl
theorem Rx(a d:Dig):DT (some ⟨false,1,C8 a,false⟩) 32 0 (C9 d)=some ⟨false,1,C8 d,false⟩:=LS 1 _ _ 32 (D2 _) (D2 _) (Lf (fun _=>rfl) d)
set_option maxHeartbeats 4000000 in
set_option maxRecDepth 20000 in
theorem XH:IContract Tryz.prog GG 46 eK:=by
 refine ZJ (T:=tb [(20,N2),(47,Sk),(48,ee),(49,cN)] []) ywe (DJ (all_cons RA (all_cons bk (all_cons yS (all_cons xx all_nil)))) all_nil) ?_;intro ds st r hr;obtain⟨kc,kv,c,v,lc,lv,I,rfl,U,V,hc,hv,rfl⟩:=Jy hr
 have DE:∀ l:St,(st++l)[kc]?=some ⟨false,1,[.slc (nz 3 (c.map Da)) (c.map Da) false],lc⟩:=fun l=>by
  rw[At (Ac.1 U).1]; exact U
 have Y:∀ l:St,(st++l)[kv]?=some ⟨false,1,D0 v,lv⟩:=fun l=>by
  rw[At (Ac.1 V).1]; exact V
 have cv:=Yu c hc;have cp:=P7;unfold oh
 by_cases M:c.length=0
 ·rw[show Ho c v=(Dp,0)from if_pos M];have E:(c.length:Int)=0:=by omega
  simp (disch:=first|omega|decide) only[push_cast,↓reduceIte,CI,DE,E,cp,Fh,Fi,QW,Nm I,Ng,Rx]
 by_cases J:(Fk c).2=0
 ·rw[show Ho c v=(DV c v (Gl (c.length+1)),0) by unfold Ho; rw[if_neg M,if_neg (by simp[J])]];have E:¬ (c.length:Int)=0:=by omega
  obtain⟨ah,_⟩:=Nh J;have cs:=uC ((c.length:Int)+1);rw[show Pz ((c.length:Int)+1)=0 from if_neg (by omega)]at cs
  have cd:=jT c v (Gl ((c.length:Int)+1)) ⟨by omega,hv,by
   rw[show Gl ((c.length:Int)+1)={FX with fuel:=(c.length:Int)+1} from if_neg (by omega)]; exact A4 _⟩
  simp (disch:=first|omega|decide) only[push_cast,↓reduceIte,CI,DE,Y,E,J,cv,cs,cd,DM,Is,Kp,IW,Gq hv,ET,KI,Ak,Ae,Aj,Ab,Ah,Aq,Ao,Eb,Ed,Fh,Fi,QW,Nm I,Ng,Rx]
 ·rw[show Ho c v=(Dt,(Fk c).2) by unfold Ho; rw[if_neg M,if_pos J]];have E:¬ (c.length:Int)=0:=by omega
  simp (disch:=first|omega|decide) only[push_cast,↓reduceIte,CI,DE,E,J,cv,Aj,Fh,Fi,QW,Nm I,Ng,Rx,Vq]
noncomputable def YG:List D→Option D:=Dl (α:=List Ins×(Int×List Int)×(Dig×Dig)) (fun a=>[.slc (nz 3 (a.1.map Da)) (a.1.map Da) false,EJ a.2.1,IS a.2.2]) (fun a=>a.1.length≤9223372036854775807∧EA a.2.1) (fun a=>.tup [Et (HG a.2.2 (Ho a.1 a.2.1)),.int .i64 (Ho a.1 a.2.1).2])
theorem yS2(c:List Ins)(v:Int×List Int)(E:Dig×Dig)(h:c.length≤9223372036854775807∧EA v):YG [.slc (nz 3 (c.map Da)) (c.map Da) false,EJ v,IS E]=some (.tup [Et (HG E (Ho c v)),.int .i64 (Ho c v).2]):=
 D7 (fun⟨a0,a1,I⟩ ⟨b0,b1,J⟩ h=>by simp only[Aa,D.slc.injEq,and_true,KL,Kn,gv]at h; simp[h]) (c,v,E) h
set_option maxHeartbeats 4000000 in
set_option maxRecDepth 20000 in
theorem Ykt(c:List Ins)(v:Int×List Int)(E:Dig×Dig)(h:c.length≤9223372036854775807∧EA v):@wW GG (tb [] [(45,SC 46 eK)]) al.code (Dc [.slc (nz 3 (c.map Da)) (c.map Da) false,EJ v,IS E]) [] ⟨Dq al.res (.tup [Et (HG E (Ho c v)),.int .i64 (Ho c v).2])⟩:=by
 obtain⟨hc,hv⟩:=h;unfold al;have V:(C8 E.1++C8 E.2).all Es=true:=SV E
 have J:StOK [⟨false,1,[.slc (nz 3 (c.map Da)) (c.map Da) false],false⟩,⟨false,1,D0 v,false⟩,FM E,Fw (0,Dt)]:=by
  refine Uv (S:=[]) (fun o I=>by cases I) _ (fun o I=>?_);simp only[Aw,AE,or_false]at I;rcases I with rfl | rfl | rfl | rfl
  ·exact pQ c
  ·exact P8 v
  ·exact SV E
  ·exact UI _
 have M:=Uv J [FM E,Fw (0,Dt)] (fun o I=>by
  simp only[Aw,AE,or_false]at I;rcases I with rfl | rfl
  ·exact SV E
  ·exact UI _)
 have hj:SC 46 eK [IS E,.clo 46 [.ptr 0 0,.ptr 1 0]] [⟨false,1,[.slc (nz 3 (c.map Da)) (c.map Da) false],false⟩,⟨false,1,D0 v,false⟩,FM E,Fw (0,Dt)]=some (.tup [Et (HG E (Ho c v)),.int .i64 (Ho c v).2],[⟨false,1,[.slc (nz 3 (c.map Da)) (c.map Da) false],false⟩,⟨false,1,D0 v,false⟩,FM E,Fw (0,Dt)]):=
  Mg (tO _ _) ⟨E,[.ptr 0 0,.ptr 1 0],(Ho c v).1,(Ho c v).2,J,rfl,Mg YEp ⟨0,1,c,v,false,false,M,rfl,rfl,rfl,hc,hv,rfl⟩,rfl⟩
 have U:=Tz (0,Dt);have lv:=Tk;simp only[FM,Fw,Et]at hj U lv;simp (disch:=first|omega|decide) only[push_cast,↓reduceIte,CI,CJ,FV,mC,lY,hj,Et,U,lv]
theorem Yqh:Contract Tryz.prog GG 14 YG:=
 Eg (T:=tb [] [(45,SC 46 eK)]) yAq (DJ all_nil (all_cons (pS _ (by decide) _ XH) all_nil)) (fun a h=>Ykt a.1 a.2.1 a.2.2 h)
theorem Yzs(v:Int×List Int)(b:Int)(s:Sta)(x:Ins):(E7 v b s x).stack.length≤s.stack.length+1:=by
 have h:∀ o:Out,(F4 (Dk s) o).stack.length≤s.stack.length+1:=by
  intro o
  cases o with
  |err e=>exact Nat.le_succ _
  |set p t c=>exact Nat.le_succ _
  |pop k push pc=>
   show(s.stack.take (s.stack.length - k)++push.toList).length≤_
   rw[Ab,AK];have:push.toList.length≤1:=by cases push <;> simp
   omega
 unfold E7
 split
 ·exact Nat.le_succ _
 ·exact h _
theorem Ybv(c:List Ins)(v:Int×List Int)(o:Opn):(LO c v o).top.length≤o.top.length+1:=by
 unfold LO
 split
 ·exact Yzs v o.depth (FE o) _
 ·simp[Oq]
def FH(c:List Ins)(v:Int×List Int)(b:Dig)(o:Opn):Dig×Int:=if b=Dp then(b,0)else if Gs c v o≠b then(Dt,390)else if o.status≠0 then(Dp,0)else(Gs c v (LO c v o),Lq c o)
def wB(ds:List D)(st:St)(r:D×St):Prop:=∃ (kb kc kv ko:Nat) (b:Dig) (c:List Ins) (v:Int×List Int) (o:Opn) (lb lc lv lo:Bool),StOK st∧ds=[.ptr kb 0,.ptr kc 0,.ptr kv 0,.ptr ko 0]∧st[kb]?=some ⟨false,1,C8 b,lb⟩∧st[kc]?=some ⟨false,1,[Eh c],lc⟩∧st[kv]?=some ⟨false,1,D0 v,lv⟩∧st[ko]?=some ⟨false,1,Ff o,lo⟩∧c.length≤4294967296∧EA v∧o.top.length≤4294967295∧
 r=(.tup [C9 (FH c v b o).1,.int .i64 (FH c v b o).2],st)
theorem YB7:IF wB:=by
 rintro ds st r r' ⟨kb,kc,kv,ko,b,c,v,o,lb,lc,lv,lo,_,rfl,U,V,Y,h3,_,_,_,rfl⟩ ⟨ab,ac,ad,ae,b',c',v',o',af,ah,a0,a1,_,h,E,I,J,M,_,_,_,rfl⟩;simp only[Aa,D.ptr.injEq,and_true]at h;obtain⟨rfl,rfl,rfl,rfl⟩:=h;rw[U]at E;rw[V]at I;rw[Y]at J;rw[h3]at M;simp only[Db,Obj.mk.injEq,Aa,and_true,true_and,Vn,Mj]at E I J M;obtain⟨rfl,_⟩:=E;obtain⟨rfl,_⟩:=I;obtain rfl:v=v':=Kn.1 (congrArg D.agg J.1);obtain rfl:o=o':=SA.1 (congrArg D.agg M.1);rfl
noncomputable def mq:List D→St→Option (D×St):=FI wB
theorem ez(lent:Bool)(d:Dig):DA (some ⟨false,1,C8 d,lent⟩) 32 true 0=some (C9 d):=LQ 1 lent _ 32 (D2 d)
theorem G1(lent:Bool)(o:Opn):DA (some ⟨false,1,Ff o,lent⟩) 38 true 0=some (Ef o):=by rw[Ef,KD]; exact S6 ..
theorem NZ(lent:Bool)(o:Opn):DA (some ⟨false,1,Ff o,lent⟩) 1 false 2=some (.int .i64 o.status):=by rw[KD]; exact mQ ..
theorem Hq(o:Opn):DT (some ⟨false,1,E1 0 0 0 0 (.slc 0 [] true) 0 Dt,false⟩) 38 0 (Ef o)=some ⟨false,1,Ff o,false⟩:=by rw[Ef,KD]; exact Vh ..
set_option maxHeartbeats 8000000 in
set_option maxRecDepth 20000 in
theorem XG:IContract Tryz.prog GG 54 mq:=by
 refine ZJ (T:=tb [(20,N2),(40,VC),(55,jD)] []) yye (DJ (all_cons RA (all_cons xw (all_cons Yyt all_nil))) all_nil) ?_;intro ds st r hr;obtain⟨kb,kc,kv,ko,b,c,v,o,lb,lc,lv,lo,I,rfl,h0,h1,h2,h3,hc,hv,a5,rfl⟩:=Jy hr
 have GO:∀ l:St,(st++l)[kb]?=some ⟨false,1,C8 b,lb⟩:=fun l=>by
  rw[At (Ac.1 h0).1]; exact h0
 have DE:∀ l:St,(st++l)[kc]?=some ⟨false,1,[.slc (nz 3 (c.map Da)) (c.map Da) false],lc⟩:=fun l=>by
  rw[At (Ac.1 h1).1]; exact h1
 have M:∀ l:St,(st++l)[kv]?=some ⟨false,1,D0 v,lv⟩:=fun l=>by
  rw[At (Ac.1 h2).1]; exact h2
 have U:∀ l:St,(st++l)[ko]?=some ⟨false,1,Ff o,lo⟩:=fun l=>by
  rw[At (Ac.1 h3).1]; exact h3
 have V:=P7;have cc:=j4 c v o ⟨hc,hv,by omega⟩;have co:=Yah c v o ⟨hc,hv⟩;have a6:=Ybv c v o;have af:=j4 c v (LO c v o) ⟨hc,hv,by omega⟩;unfold oa
 by_cases E:b=Dp
 ·rw[show FH c v b o=(b,0)from if_pos E];simp (disch:=first|omega|decide) only[push_cast,↓reduceIte,CI,GO,ez,E,V,Fh,Fi,QW,Nm I,Ng,Rx]
 by_cases J:Gs c v o=b
 ·by_cases Y:o.status=0
  ·rw[show FH c v b o=(Gs c v (LO c v o),Lq c o) by unfold FH; rw[if_neg E,if_neg (by simp[J]),if_neg (by simp[Y])]];simp (disch:=first|omega|decide) only[push_cast,↓reduceIte,CI,GO,DE,M,U,ez,E,J,Y,V,cc,af,co,Gq hv,ET,F1,Gm,Ks,G1,NZ,Hq,QM,Gu,Ak,Ae,Aj,Ab,Ah,Aq,Ao,Eb,Ed,Fh,Fi,QW,Nm I,Ng,Rx]
  ·rw[show FH c v b o=(Dp,0) by unfold FH; rw[if_neg E,if_neg (by simp[J]),if_pos Y]];simp (disch:=first|omega|decide) only[push_cast,↓reduceIte,CI,GO,DE,M,U,ez,E,J,Y,V,cc,Gq hv,ET,Gm,G1,NZ,Ao,Fh,Fi,QW,Nm I,Ng,Rx]
 ·rw[show FH c v b o=(Dt,390) by unfold FH; rw[if_neg E,if_pos J]];simp (disch:=first|omega|decide) only[push_cast,↓reduceIte,CI,GO,DE,M,U,ez,E,J,V,cc,Gq hv,ET,Gm,G1,Fh,Fi,QW,Nm I,Ng,Rx,Vq]
noncomputable def T2:List D→Option D:=Dl (α:=List Ins×(Int×List Int)×Dig×(Dig×Dig)×Opn) (fun a=>[.slc (nz 3 (a.1.map Da)) (a.1.map Da) false,EJ a.2.1,C9 a.2.2.1,IS a.2.2.2.1,Ef a.2.2.2.2]) (fun a=>a.1.length≤4294967296∧EA a.2.1∧a.2.2.2.2.top.length≤4294967295) (fun a=>.tup [Et (HG a.2.2.2.1 (FH a.1 a.2.1 a.2.2.1 a.2.2.2.2)),.int .i64 (FH a.1 a.2.1 a.2.2.1 a.2.2.2.2).2])
theorem uV(c:List Ins)(v:Int×List Int)(b:Dig)(E:Dig×Dig)(o:Opn)(h:c.length≤4294967296∧EA v∧o.top.length≤4294967295):T2 [.slc (nz 3 (c.map Da)) (c.map Da) false,EJ v,C9 b,IS E,Ef o]=some (.tup [Et (HG E (FH c v b o)),.int .i64 (FH c v b o).2]):=
 D7 (fun⟨a0,a1,I,J,M⟩ ⟨b0,b1,U,V,Y⟩ h=>by simp only[Aa,D.slc.injEq,Ls,and_true,KL,SA,Kn,gv]at h; simp[h]) (c,v,b,E,o) h
noncomputable def RL:Tbl:=tb [] [(45,SC 54 mq)]
set_option maxHeartbeats 8000000 in
set_option maxRecDepth 20000 in
theorem Ytv(c:List Ins)(v:Int×List Int)(b:Dig)(E:Dig×Dig)(o:Opn)(h:c.length≤4294967296∧EA v∧o.top.length≤4294967295):@wW GG RL ZU.code (Dc [.slc (nz 3 (c.map Da)) (c.map Da) false,EJ v,C9 b,IS E,Ef o]) [] ⟨Dq ZU.res (.tup [Et (HG E (FH c v b o)),.int .i64 (FH c v b o).2])⟩:=by
 obtain⟨hc,hv,U⟩:=h;unfold ZU
 have V:(Ff o).all Es=true:=by
  rw[KD];simp only[E1,A0,Lw];simp[Es,Ey,IJ]
 have J:StOK [⟨false,1,[.slc (nz 3 (c.map Da)) (c.map Da) false],false⟩,⟨false,1,D0 v,false⟩,⟨false,1,C8 b,false⟩,FM E,⟨false,1,Ff o,false⟩,Fw (0,Dt)]:=by
  refine Uv (S:=[]) (fun o I=>by cases I) _ (fun x I=>?_);simp only[Aw,AE,or_false]at I;rcases I with rfl | rfl | rfl | rfl | rfl | rfl
  ·exact pQ c
  ·exact P8 v
  ·exact Lw b
  ·exact SV E
  ·exact V
  ·exact UI _
 have M:=Uv J [FM E,Fw (0,Dt)] (fun o I=>by
  simp only[Aw,AE,or_false]at I;rcases I with rfl | rfl
  ·exact SV E
  ·exact UI _)
 have hj:SC 54 mq [IS E,.clo 54 [.ptr 2 0,.ptr 0 0,.ptr 1 0,.ptr 4 0]] [⟨false,1,[.slc (nz 3 (c.map Da)) (c.map Da) false],false⟩,⟨false,1,D0 v,false⟩,⟨false,1,C8 b,false⟩,FM E,⟨false,1,Ff o,false⟩,Fw (0,Dt)]=some (.tup [Et (HG E (FH c v b o)),.int .i64 (FH c v b o).2],[⟨false,1,[.slc (nz 3 (c.map Da)) (c.map Da) false],false⟩,⟨false,1,D0 v,false⟩,⟨false,1,C8 b,false⟩,FM E,⟨false,1,Ff o,false⟩,Fw (0,Dt)]):=
  Mg (tO _ _) ⟨E,[.ptr 2 0,.ptr 0 0,.ptr 1 0,.ptr 4 0],(FH c v b o).1,(FH c v b o).2,J,rfl,Mg YB7 ⟨2,0,1,4,b,c,v,o,false,false,false,false,M,rfl,rfl,rfl,rfl,rfl,hc,hv,U,rfl⟩,rfl⟩
 have Y:=Tz (0,Dt);have lv:=Tk;simp only[FM,Fw,Et]at hj Y lv;simp (disch:=first|omega|decide) only[push_cast,↓reduceIte,CI,CJ,RL,FV,mC,NY,lY,hj,Et,Y,lv]
theorem Yy6:Contract Tryz.prog GG 16 T2:=
 Eg (T:=RL) yCe (DJ all_nil (all_cons (pS _ (by decide) _ XG) all_nil)) (fun a h=>Ytv a.1 a.2.1 a.2.2.1 a.2.2.2.1 a.2.2.2.2 h)
noncomputable def Yll:List D→Option D:=Dl (α:=Int×Dig×List Dig) (fun a=>[.int .i64 a.1,C9 a.2.1,.slc (nz 32 (a.2.2.map C9)) (a.2.2.map C9) false]) (fun a=>0≤a.1∧a.1<4611686018427387904∧a.2.2.length≤4294967296) (fun a=>C9 (KB a.1.toNat a.2.1 a.2.2))
theorem Yz4(i:Int)(x:Dig)(p:List Dig)(h:0≤i∧i<4611686018427387904∧p.length≤4294967296):Yll [.int .i64 i,C9 x,.slc (nz 32 (p.map C9)) (p.map C9) false]=some (C9 (KB i.toNat x p)):=
 D7 (fun⟨a0,a1,E⟩ ⟨b0,b1,I⟩ h=>by simp only[Aa,D.slc.injEq,D.int.injEq,KM,Ls,true_and,and_true]at h; simp[h]) (i,x,p) h
noncomputable def Rj:List D→Option D:=Dl (α:=(Int×Dig)×Int×Dig×List Dig) (fun a=>[.agg (.int .i64 (C5 a.1)::C8 (C6 a.1)),.int .i64 a.2.1,C9 a.2.2.1,.slc (nz 32 (a.2.2.2.map C9)) (a.2.2.2.map C9) false]) (fun a=>-9223372036854775808≤a.2.1∧a.2.1<9223372036854775808) (fun a=>.bool (HC a.1 a.2.1 a.2.2.1 a.2.2.2))
theorem ZW(c:Int×Dig)(i:Int)(x:Dig)(p:List Dig)(h:-9223372036854775808≤i∧i<9223372036854775808):Rj [.agg (.int .i64 (C5 c)::C8 (C6 c)),.int .i64 i,C9 x,.slc (nz 32 (p.map C9)) (p.map C9) false]=some (.bool (HC c i x p)):=
 D7 (fun⟨a0,a1,E,I⟩ ⟨b0,b1,J,M⟩ h=>by simp only[Aa,D.slc.injEq,D.int.injEq,D.agg.injEq,KM,Ls,Mj,true_and,and_true]at h; simp[h,Cw]) (c,i,x,p) h
set_option maxHeartbeats 4000000 in
set_option maxRecDepth 20000 in
theorem yP1(c:Int×Dig)(i:Int)(x:Dig)(p:List Dig)(h:-9223372036854775808≤i∧i<9223372036854775808):@wW GG (tb [(25,Mp),(95,Re)] []) aH.code (Dc [.agg (.int .i64 (C5 c)::C8 (C6 c)),.int .i64 i,C9 x,.slc (nz 32 (p.map C9)) (p.map C9) false]) [] ⟨Dq aH.res (.bool (HC c i x p))⟩:=by
 obtain⟨n,r⟩:=c;unfold aH;simp (disch:=omega) only[push_cast,↓reduceIte,CI,MW];refine E3 (fun J=>?_) (fun J=>?_)
 ·have e:HC (n,r) i x p=false:=by unfold HC; simp; omega
  simp (disch:=omega) only[push_cast,↓reduceIte,CI,J,e]
 ·have Y:0≤n∧n≤65536:=by
   by_cases hb:n<0∨65536<n
   ·rw[UL hb]at J; omega
   ·omega
  obtain⟨e1,e2,e3⟩:=Mq Y.1 Y.2;simp (disch:=omega) only[push_cast,↓reduceIte,CI,J];refine E3 (fun M=>?_) (fun M=>?_)
  ·have e:HC (n,r) i x p=false:=by unfold HC; simp; omega
   simp (disch:=omega) only[push_cast,↓reduceIte,CI,M,e]
  ·simp (disch:=omega) only[push_cast,↓reduceIte,CI,M,gQ];refine E3 (fun U=>?_) (fun U=>?_)
   ·have e:HC (n,r) i x p=false:=by unfold HC; simp; omega
    simp (disch:=omega) only[push_cast,↓reduceIte,CI,U,e]
   ·simp (disch:=omega) only[push_cast,↓reduceIte,CI,U];refine E3 (fun I=>?_) (fun I=>?_)
    ·have e:HC (n,r) i x p=decide (KB i.toNat x p=r):=by
      unfold HC;simp only[show 0≤DL n from e2,show 0≤i by omega,show i<2 ^ (DL n).toNat by omega,I,true_and]
     rw[e];simp (disch:=omega) only[push_cast,↓reduceIte,CI,I];have hp:p.length≤16:=by omega
     have ad:(2:Int) ^ (DL n).toNat≤2 ^ 16:=Ue (by omega)
     refine F0 (fun q:Nat×Dig=>[(1,.int .i64 i),(3,.slc (nz 32 (p.map C9)) (p.map C9) false),(4,.ptr 0 0),(6,.ptr 1 0),(33,.int .i64 (p.length:Int)),(34,.int .i64 (q.1:Int))])
      (fun q=>[⟨false,1,.int .i64 n::C8 r,false⟩,⟨false,1,C8 q.2,false⟩])
      (fun q=>q.1≤p.length∧KB i.toNat x p=KB (i.toNat / 2 ^ q.1) q.2 (p.drop q.1)) (fun q=>p.length - q.1) (0,x) (by simp only[push_cast,↓reduceIte,CI,CP,CM,CJ,I] <;> rfl) ⟨A4 _,by simp⟩ ?_
     rintro⟨j,y⟩ ⟨V,E⟩;simp only at V E;unfold oX;simp only[push_cast,↓reduceIte,CI];refine E3 (fun h7=>?_) (fun h7=>?_)
     ·rw[sP p j (by omega),KB,Nat.div_div_eq_div_mul,← Cu]at E;have h8:=Uf j;have h9:0≤i / 2 ^ j:=BB (by omega) (by omega);have ae:i / 2 ^ j≤i:=BY _ (by omega)
      have af:(i / 2 ^ j) % 2=((i.toNat / 2 ^ j % 2:Nat):Int):=by
       have:i=(i.toNat:Int):=by omega
       rw[this]; simp
      simp (disch:=omega) only[push_cast,↓reduceIte,CI,Yi,Yzp];refine E3 (fun aa=>?_) (fun aa=>?_)
      ·rw[if_pos (show i.toNat / 2 ^ j % 2=0 by omega)]at E;simp (disch:=omega) only[push_cast,↓reduceIte,CI,CP,CM,CJ,KH,JQ,DM];refine E5 (j+1,Hl y (p.getD j default)) ⟨by show j+1≤_; omega,E⟩ (by show p.length - (j+1)<p.length - j; omega) ?_;rfl
      ·rw[if_neg (show ¬ i.toNat / 2 ^ j % 2=0 by omega)]at E;simp (disch:=omega) only[push_cast,↓reduceIte,CI,CP,CM,CJ,KH,JQ,DM];refine E5 (j+1,Hl (p.getD j default) y) ⟨by show j+1≤_; omega,E⟩ (by show p.length - (j+1)<p.length - j; omega) ?_;rfl
     ·rw[List.drop_of_length_le (by omega)]at E;have E:KB i.toNat x p=y:=E;simp (disch:=omega) only[push_cast,↓reduceIte,CI,CJ,E]
    ·have e:HC (n,r) i x p=false:=by
      unfold HC;simp;intro _ _ _ V;exact absurd V I
     simp (disch:=omega) only[push_cast,↓reduceIte,I,e]
theorem yS5:Contract Tryz.prog GG 124 Rj:=
 Eg yv6 (DJ (all_cons QQ (all_cons Ul all_nil)) all_nil) (fun a h=>yP1 a.1 a.2.1 a.2.2.1 a.2.2.2 h)
def JK(l:List Dig)(level k:Int):Bool:=decide ((l.length:Int)≤65536∧0≤level∧level≤16∧0≤k∧k<2 ^ (16 - level).toNat)
def L3(l:List Dig)(level k:Int):Dig:=if JK l level k then D3 l level.toNat k else Dt
def Er(l:List Dig):Int×Dig:=if(l.length:Int)≤65536 then(l.length,D3 l (DL l.length).toNat 0)else mG
def Kb(l:List Dig):Int:=if(l.length:Int)≤65536 then 0 else 2
def IX(l:List Dig)(i:Int):List Dig:=if(l.length:Int)≤65536∧0≤i∧i<2 ^ (DL l.length).toNat then HE l i (DL l.length).toNat else []
def Js(l:List Dig)(i:Int):Int:=if 65536<(l.length:Int)then 2 else if 0≤i∧i<2 ^ (DL l.length).toNat then 0 else 1
theorem ZK(l:List Dig)(i:Int):∀ n,(HE l i n).length=n
 |0=>rfl
 |n+1=>by simp[HE,ZK l i n]
def JC(r:Bool)(key:Nat)(row:List Dig):D:=if r then .row key row.length 0 row.length else .slc (nz 32 (row.map C9)) (row.map C9) false
def Iy(r:Bool)(row:List Dig):St:=if r then [⟨true,32,row.map C9,false⟩]else []
theorem bH(key:Nat)(row:List Dig):JC false key row=.slc (nz 32 (row.map C9)) (row.map C9) false:=rfl
theorem Ts(key:Nat)(row:List Dig):JC true key row=.row key row.length 0 row.length:=rfl
theorem Tt(row:List Dig):Iy false row=[]:=rfl
theorem Pw(row:List Dig):Iy true row=[⟨true,32,row.map C9,false⟩]:=rfl
noncomputable def dG:List D→St→Option (D×St):=G3 (α:=Int×Int×Dig×Dig×List Dig×Bool×Int×Dig)
 (fun⟨lv,k,d,pz,row,r,j,pad⟩=>([.int .i64 j,JC r 4 row,C9 pad,.ptr 0 0,.ptr 1 0,.ptr 2 0],[⟨false,1,[.int .i64 lv],false⟩,⟨false,1,[.int .i64 k],false⟩,⟨false,1,C8 d,false⟩,⟨false,1,C8 pz,false⟩]++Iy r row))
 (fun⟨_,k,_,_,_,_,_,_⟩=>0≤k)
 (fun⟨lv,k,d,pz,row,r,j,pad⟩=>(.tup [],[⟨false,1,[.int .i64 lv],false⟩,⟨false,1,[.int .i64 k],false⟩,⟨false,1,C8 (if j=lv then ES row k pad else d),false⟩,⟨false,1,C8 pz,false⟩]++Iy r row))
theorem ySy(lv k:Int)(d I:Dig)(row:List Dig)(j:Int)(E:Dig)(h:0≤k) :
  dG [.int .i64 j,.slc (nz 32 (row.map C9)) (row.map C9) false,C9 E,.ptr 0 0,.ptr 1 0,.ptr 2 0] [⟨false,1,[.int .i64 lv],false⟩,⟨false,1,[.int .i64 k],false⟩,⟨false,1,C8 d,false⟩,⟨false,1,C8 I,false⟩]=
   some (.tup [],[⟨false,1,[.int .i64 lv],false⟩,⟨false,1,[.int .i64 k],false⟩,⟨false,1,C8 (if j=lv then ES row k E else d),false⟩,⟨false,1,C8 I,false⟩]):=by
 refine MR ?_ (lv,k,d,I,row,false,j,E) h rfl;rintro⟨lv,k,d,I,row,r,j,E⟩ ⟨V,k',d',Y,J,M,j',U⟩ h;cases r <;> cases M <;> simp[JC,Iy,KM,Ls,Mj]at h
 all_goals simp[h]
theorem ySx(lv k:Int)(d I:Dig)(row:List Dig)(j:Int)(E:Dig)(h:0≤k) :
  dG [.int .i64 j,.row 4 row.length 0 row.length,C9 E,.ptr 0 0,.ptr 1 0,.ptr 2 0] [⟨false,1,[.int .i64 lv],false⟩,⟨false,1,[.int .i64 k],false⟩,⟨false,1,C8 d,false⟩,⟨false,1,C8 I,false⟩,⟨true,32,row.map C9,false⟩]=
   some (.tup [],[⟨false,1,[.int .i64 lv],false⟩,⟨false,1,[.int .i64 k],false⟩,⟨false,1,C8 (if j=lv then ES row k E else d),false⟩,⟨false,1,C8 I,false⟩,⟨true,32,row.map C9,false⟩]):=by
 refine MR ?_ (lv,k,d,I,row,true,j,E) h rfl;rintro⟨lv,k,d,I,row,r,j,E⟩ ⟨V,k',d',Y,J,M,j',U⟩ h;cases r <;> cases M <;> simp[JC,Iy,KM,Ls,Mj]at h
 all_goals simp[h]
theorem Ypv:IContract Tryz.prog GG 117 dG:=by
 refine Rk (T:=tb [(93,Td)] []) yAg (DJ (all_cons Pp all_nil) all_nil) ?_;rintro⟨lv,k,d,I,row,r,j,pad⟩ h;simp only at h;unfold n9;cases r
 ·simp only[push_cast,↓reduceIte,CI,CJ,bH,Tt];refine E3 (fun E=>?_) (fun E=>?_)
  ·simp only[push_cast,↓reduceIte,CI,CJ,E,PK _ _ _ h,Tt]
  ·simp only[push_cast,↓reduceIte,CJ,E,Tt]
 ·simp only[push_cast,↓reduceIte,CI,CJ,Ts,Pw];refine E3 (fun E=>?_) (fun E=>?_)
  ·simp only[push_cast,↓reduceIte,CI,CJ,E,PK _ _ _ h,Pw]
  ·simp only[push_cast,↓reduceIte,CJ,E,Pw]
def L7(l:List Dig)(lv k:Int)(d:Dig)(j:Nat):Dig:=if 0≤lv∧lv<(j:Int)then D3 l lv.toNat k else d
theorem Ycn(l:List Dig)(lv k:Int)(d:Dig)(j:Nat):(if(j:Int)=lv then ES (EW l j) k (EL j)else L7 l lv k d j)=L7 l lv k d (j+1):=by
 unfold L7
 by_cases h:(j:Int)=lv
 ·rw[if_pos h,if_pos (by omega)];have:lv.toNat=j:=by omega
  rw[this]; rfl
 ·grind
noncomputable def YU:List D→St→Option (D×St):=G3 (α:=List Dig×Int×Int×Int×Dig)
 (fun⟨l,last,lv,k,d⟩=>([.slc (nz 32 (l.map C9)) (l.map C9) false,.int .i64 last,.clo 117 [.ptr 0 0,.ptr 1 0,.ptr 2 0]],[⟨false,1,[.int .i64 lv],false⟩,⟨false,1,[.int .i64 k],false⟩,⟨false,1,C8 d,false⟩]))
 (fun⟨l,last,_,k,_⟩=>0≤k∧0≤last∧last≤16∧l.length≤65536)
 (fun⟨l,last,lv,k,d⟩=>(.tup [],[⟨false,1,[.int .i64 lv],false⟩,⟨false,1,[.int .i64 k],false⟩,⟨false,1,C8 (L7 l lv k d (last.toNat+1)),false⟩]))
theorem yPg(l:List Dig)(E lv k:Int)(d:Dig)(h:0≤k∧0≤E∧E≤16∧l.length≤65536) :
  YU [.slc (nz 32 (l.map C9)) (l.map C9) false,.int .i64 E,.clo 117 [.ptr 0 0,.ptr 1 0,.ptr 2 0]] [⟨false,1,[.int .i64 lv],false⟩,⟨false,1,[.int .i64 k],false⟩,⟨false,1,C8 d,false⟩]=
   some (.tup [],[⟨false,1,[.int .i64 lv],false⟩,⟨false,1,[.int .i64 k],false⟩,⟨false,1,C8 (L7 l lv k d (E.toNat+1)),false⟩]):=by
 refine MR ?_ (l,E,lv,k,d) h rfl;rintro⟨l,E,lv,k,d⟩ ⟨M,I,J,k',U⟩ h;simp[KM,Mj]at h;simp[h]
theorem Yad:IContract Tryz.prog GG 91 YU:=by
 refine Rk (T:=tb [(20,N2),(93,Td),(95,Re)] [(117,dG)]) og
  (DJ (all_cons RA (all_cons Pp (all_cons Ul all_nil))) (all_cons Ypv all_nil)) ?_
 rintro⟨l,last,lv,k,d⟩ ⟨hk,a1,a2,a3⟩;unfold fX;have hs0:L7 l lv k d 0=d:=by unfold L7; rw[if_neg (by omega)]
 simp (disch:=omega) only[push_cast,↓reduceIte,CI,CJ,P7,DM]
 refine F0 (fun j:Nat=>[(2,.clo 117 [.ptr 0 0,.ptr 1 0,.ptr 2 0]),(6,JC (decide (0<j)) 4 (EW l j)),(7,.ptr 3 0),(14,.int .i64 (last+1)),(15,.int .i64 (j:Int))])
  (fun j=>[⟨false,1,[.int .i64 lv],false⟩,⟨false,1,[.int .i64 k],false⟩,⟨false,1,C8 (L7 l lv k d j),false⟩,⟨false,1,C8 (EL j),false⟩]++Iy (decide (0<j)) (EW l j))
  (fun j=>(j:Int)≤last+1) (fun j=>(last+1).toNat - j) 0 (by rw[hs0]; simp only[push_cast,↓reduceIte,CI,CP,CM,CJ,↓CL] <;> rfl) (by omega) ?_
 intro j hj;have hr:=fM l j;have I:=Rg (EL j) (EW l j);have hn:EW l (j+1)=Gw (EL j) (EW l j):=rfl;have V:EL (j+1)=Hl (EL j) (EL j):=rfl;have J:=Ycn l lv k d j;unfold gd
 by_cases h1:(j:Int)<last+1
 ·by_cases hz:j=0
  ·subst hz;have M:decide (0<0)=false:=rfl;have ac:(0:Int)<last+1:=by omega
   have e0:EW l 0=l:=rfl;have e1:EL 0=Dp:=rfl;have Y:(if(0:Int)=lv then ES l k Dp else d)=L7 l lv k d 1:=by rw[← J,hs0]; rfl
   rw[e0]at hr I hn;rw[e1]at I hn V;rw[e0,e1,hs0];simp (disch:=omega) only[push_cast,↓reduceIte,CI,CJ,↓CL,bH,Tt,ac,Y,ySy,Vy,DM,Yc]
   refine F0 (fun i:Nat=>[(2,.clo 117 [.ptr 0 0,.ptr 1 0,.ptr 2 0]),(6,.slc (nz 32 (l.map C9)) (l.map C9) false),(7,.ptr 3 0),(9,.row 4 ((Gw Dp l).take i).length 0 ((Gw Dp l).take i).length),(10,.int .i64 (2*(i:Int))),(14,.int .i64 (last+1)),(15,.int .i64 0)])
    (fun i=>[⟨false,1,[.int .i64 lv],false⟩,⟨false,1,[.int .i64 k],false⟩,⟨false,1,C8 (L7 l lv k d 1),false⟩,⟨false,1,C8 Dp,false⟩,⟨true,32,((Gw Dp l).take i).map C9,false⟩]) (fun i=>2*i≤l.length+1) (fun i=>l.length+1 - i) 0 (by simp only[push_cast,↓reduceIte,CI,CP,CM,CJ,C4,↓CL] <;> rfl) (by omega) ?_
   intro i hi;unfold UW;have f0:(2*(i:Int)).toNat=2*i:=by omega
   have f1:(2*(i:Int)+2)=2*((i+1:Nat):Int):=by omega
   by_cases U:2*(i:Int)<(l.length:Int)
   ·have e:=dP Dp l i (by omega);have hl:((Gw Dp l).take i).length≤65536:=by rw[AK]; omega
    simp (disch:=omega) only[push_cast,↓reduceIte,CI,CP,CM,CJ,U,KH,DM,PK,JQ,f0];refine E5 (i+1) (by omega) (by omega) ?_;grind
   ·have e:(Gw Dp l).take i=Gw Dp l:=AG (by omega);simp (disch:=omega) only[push_cast,↓reduceIte,CI,CP,CM,CJ,CV,CZ,U,e,JQ,DM];refine E5 1 (by omega) (by omega) ?_;rfl
  ·have M:decide (0<j)=true:=by simp; omega
   have af:decide (0<j+1)=true:=by simp
   generalize EW l j=R at hr I hn J;generalize EL j=E at I hn V J;simp (disch:=omega) only[push_cast,↓reduceIte,CI,CJ,M,Ts,Pw,h1,J,ySx,Vy,DM,Yc]
   refine F0 (fun i:Nat=>[(2,.clo 117 [.ptr 0 0,.ptr 1 0,.ptr 2 0]),(6,.row 4 R.length 0 R.length),(7,.ptr 3 0),(9,.row 5 ((Gw E R).take i).length 0 ((Gw E R).take i).length),(10,.int .i64 (2*(i:Int))),(14,.int .i64 (last+1)),(15,.int .i64 j)])
    (fun i=>[⟨false,1,[.int .i64 lv],false⟩,⟨false,1,[.int .i64 k],false⟩,⟨false,1,C8 (L7 l lv k d (j+1)),false⟩,⟨false,1,C8 E,false⟩,⟨true,32,R.map C9,false⟩,⟨true,32,((Gw E R).take i).map C9,false⟩]) (fun i=>2*i≤R.length+1) (fun i=>R.length+1 - i) 0 (by simp only[push_cast,↓reduceIte,CI,CP,CM,CJ,C4,↓CL] <;> rfl) (by omega) ?_
   intro i hi;unfold UW;have f0:(2*(i:Int)).toNat=2*i:=by omega
   have f1:(2*(i:Int)+2)=2*((i+1:Nat):Int):=by omega
   by_cases U:2*(i:Int)<(R.length:Int)
   ·have e:=dP E R i (by omega);have hl:((Gw E R).take i).length≤65536:=by rw[AK]; omega
    simp (disch:=omega) only[push_cast,↓reduceIte,CI,CP,CM,CJ,U,DM,PK,JQ,f0];refine E5 (i+1) (by omega) (by omega) ?_;grind
   ·have e:(Gw E R).take i=Gw E R:=AG (by omega);simp (disch:=omega) only[push_cast,↓reduceIte,CI,CP,CM,CJ,CV,U,e,JQ,DM];refine E5 (j+1) (by omega) (by omega) ?_;rw[hn,V,af];rfl
 ·have ah:last.toNat+1=j:=by omega
  have M:decide (0<j)=true:=by simp; omega
  simp (disch:=omega) only[push_cast,↓reduceIte,CI,CJ,h1,M,Ts,Pw,ah]
noncomputable def dH:List D→St→Option (D×St):=G3 (α:=Int×List Dig×Dig×List Dig×Bool×Nat×Dig)
 (fun⟨i0,A,pz,row,r,j,pad⟩=>([.int .i64 (j:Int),JC r 4 row,C9 pad,.ptr 2 0,.ptr 0 0],[⟨false,1,[.int .i64 i0],false⟩,⟨true,32,(A).map C9,false⟩,⟨false,1,[.row 1 (A).length 0 (A).length],false⟩,⟨false,1,C8 pz,false⟩]++Iy r row))
 (fun⟨i0,A,_,_,_,j,_⟩=>0≤i0∧i0<4611686018427387904∧j≤60∧A.length≤65536)
 (fun⟨i0,A,pz,row,r,j,pad⟩=>(.tup [],[⟨false,1,[.int .i64 i0],false⟩,⟨true,32,(A++[ES row (Gf (i0 / 2 ^ j)) pad]).map C9,false⟩,⟨false,1,[.row 1 (A++[ES row (Gf (i0 / 2 ^ j)) pad]).length 0 (A++[ES row (Gf (i0 / 2 ^ j)) pad]).length],false⟩,⟨false,1,C8 pz,false⟩]++Iy r row))
theorem ySw(I:Int)(A:List Dig)(J:Dig)(row:List Dig)(j:Nat)(E:Dig)(h:0≤I∧I<4611686018427387904∧j≤60∧A.length≤65536) :
  dH [.int .i64 (j:Int),.slc (nz 32 (row.map C9)) (row.map C9) false,C9 E,.ptr 2 0,.ptr 0 0] [⟨false,1,[.int .i64 I],false⟩,⟨true,32,(A).map C9,false⟩,⟨false,1,[.row 1 (A).length 0 (A).length],false⟩,⟨false,1,C8 J,false⟩]=some (.tup [],[⟨false,1,[.int .i64 I],false⟩,⟨true,32,(A++[ES row (Gf (I / 2 ^ j)) E]).map C9,false⟩,⟨false,1,[.row 1 (A++[ES row (Gf (I / 2 ^ j)) E]).length 0 (A++[ES row (Gf (I / 2 ^ j)) E]).length],false⟩,⟨false,1,C8 J,false⟩]):=by
 refine MR ?_ (I,A,J,row,false,j,E) h rfl;rintro⟨I,A,J,row,r,j,E⟩ ⟨Y,A',aa,M,U,j',V⟩ h;cases r <;> cases U <;> simp[JC,Iy,KM,Ls,Mj,Int.natCast_inj]at h
 all_goals simp[h]
theorem ySv(I:Int)(A:List Dig)(J:Dig)(row:List Dig)(j:Nat)(E:Dig)(h:0≤I∧I<4611686018427387904∧j≤60∧A.length≤65536) :
  dH [.int .i64 (j:Int),.row 4 row.length 0 row.length,C9 E,.ptr 2 0,.ptr 0 0] [⟨false,1,[.int .i64 I],false⟩,⟨true,32,(A).map C9,false⟩,⟨false,1,[.row 1 (A).length 0 (A).length],false⟩,⟨false,1,C8 J,false⟩,⟨true,32,row.map C9,false⟩]=some (.tup [],[⟨false,1,[.int .i64 I],false⟩,⟨true,32,(A++[ES row (Gf (I / 2 ^ j)) E]).map C9,false⟩,⟨false,1,[.row 1 (A++[ES row (Gf (I / 2 ^ j)) E]).length 0 (A++[ES row (Gf (I / 2 ^ j)) E]).length],false⟩,⟨false,1,C8 J,false⟩,⟨true,32,row.map C9,false⟩]):=by
 refine MR ?_ (I,A,J,row,true,j,E) h rfl;rintro⟨I,A,J,row,r,j,E⟩ ⟨Y,A',aa,M,U,j',V⟩ h;cases r <;> cases U <;> simp[JC,Iy,KM,Ls,Mj,Int.natCast_inj]at h
 all_goals simp[h]
theorem Ypu:IContract Tryz.prog GG 92 dH:=by
 refine Rk (T:=tb [(93,Td)] []) yAe (DJ (all_cons Pp all_nil) all_nil) ?_;rintro⟨i0,A,J,row,r,j,pad⟩ ⟨M,U,V,Y⟩;have h8:=Uf j;have h9:0≤i0 / 2 ^ j:=BB (by omega) (by omega);have I:i0 / 2 ^ j≤i0:=BY _ (by omega);have hs:0≤Gf (i0 / 2 ^ j):=by unfold Gf; split <;> omega
 have E:(if i0 / 2 ^ j % 2=0 then i0 / 2 ^ j+1 else i0 / 2 ^ j - 1)=Gf (i0 / 2 ^ j):=rfl;unfold nS;cases r
 ·simp (disch:=first|omega|decide) only[push_cast,↓reduceIte,CI,CP,CJ,bH,Tt,Yi,Ya1,E,PK]
 ·simp (disch:=first|omega|decide) only[push_cast,↓reduceIte,CI,CP,CJ,Ts,Pw,Yi,Ya1,E,PK]
noncomputable def YV:List D→St→Option (D×St):=G3 (α:=List Dig×Int×Int)
 (fun⟨l,last,i0⟩=>([.slc (nz 32 (l.map C9)) (l.map C9) false,.int .i64 last,.clo 92 [.ptr 2 0,.ptr 0 0]],[⟨false,1,[.int .i64 i0],false⟩,⟨true,32,[],false⟩,⟨false,1,[.row 1 0 0 0],false⟩]))
 (fun⟨l,last,i0⟩=>0≤i0∧i0<4611686018427387904∧0≤last∧last≤16∧l.length≤65536)
 (fun⟨l,last,i0⟩=>(.tup [],[⟨false,1,[.int .i64 i0],false⟩,⟨true,32,(HE l i0 (last.toNat+1)).map C9,false⟩,⟨false,1,[.row 1 (HE l i0 (last.toNat+1)).length 0 (HE l i0 (last.toNat+1)).length],false⟩]))
theorem yPf(l:List Dig)(E I:Int)(h:0≤I∧I<4611686018427387904∧0≤E∧E≤16∧l.length≤65536) :
  YV [.slc (nz 32 (l.map C9)) (l.map C9) false,.int .i64 E,.clo 92 [.ptr 2 0,.ptr 0 0]] [⟨false,1,[.int .i64 I],false⟩,⟨true,32,[],false⟩,⟨false,1,[.row 1 0 0 0],false⟩]=
   some (.tup [],[⟨false,1,[.int .i64 I],false⟩,⟨true,32,(HE l I (E.toNat+1)).map C9,false⟩,⟨false,1,[.row 1 (HE l I (E.toNat+1)).length 0 (HE l I (E.toNat+1)).length],false⟩]):=by
 refine MR ?_ (l,E,I) h rfl;rintro⟨l,E,I⟩ ⟨U,J,M⟩ h;simp[KM]at h;simp[h]
theorem Yac:IContract Tryz.prog GG 91 YV:=by
 refine Rk (T:=tb [(20,N2),(93,Td),(95,Re)] [(92,dH)]) og
  (DJ (all_cons RA (all_cons Pp (all_cons Ul all_nil))) (all_cons Ypu all_nil)) ?_
 rintro⟨l,last,i0⟩ ⟨hk,Y,a6,a7,a8⟩;unfold fX;simp (disch:=omega) only[push_cast,↓reduceIte,CI,CJ,P7,DM]
 refine F0 (fun j:Nat=>[(2,.clo 92 [.ptr 2 0,.ptr 0 0]),(6,JC (decide (0<j)) 4 (EW l j)),(7,.ptr 3 0),(14,.int .i64 (last+1)),(15,.int .i64 (j:Int))])
  (fun j=>[⟨false,1,[.int .i64 i0],false⟩,⟨true,32,(HE l i0 j).map C9,false⟩,⟨false,1,[.row 1 (HE l i0 j).length 0 (HE l i0 j).length],false⟩,⟨false,1,C8 (EL j),false⟩]++Iy (decide (0<j)) (EW l j))
  (fun j=>(j:Int)≤last+1) (fun j=>(last+1).toNat - j) 0 (by simp only[push_cast,↓reduceIte,CI,CP,CM,CJ,↓CL] <;> rfl) (by omega) ?_
 intro j hj;have hr:=fM l j;have I:=Rg (EL j) (EW l j);have hn:EW l (j+1)=Gw (EL j) (EW l j):=rfl;have hp:EL (j+1)=Hl (EL j) (EL j):=rfl;have U:HE l i0 j++[ES (EW l j) (Gf (i0 / 2 ^ j)) (EL j)]=HE l i0 (j+1):=rfl;have a9:=ZK l i0 j;unfold gd
 by_cases h1:(j:Int)<last+1
 ·by_cases hz:j=0
  ·subst hz;have J:decide (0<0)=false:=rfl;have ad:(0:Int)<last+1:=by omega
   have e0:EW l 0=l:=rfl;have e1:EL 0=Dp:=rfl;have e2:HE l i0 0=[]:=rfl;have a5:[ES l (Gf (i0 / 2 ^ 0)) Dp]=HE l i0 1:=rfl;have ah:0≤i0∧i0<4611686018427387904∧0≤60∧([]:List Dig).length≤65536:=⟨hk,Y,by omega,by simp⟩;have M:=ySw i0 [] Dp l 0 Dp ah;rw[e0]at hr I hn;rw[e1]at I hn hp;simp only[Bk,Aq,Aj,Ax,Ah,Ao,↓CL]at M;rw[e0,e1,e2];simp (disch:=omega) only[push_cast,↓reduceIte,CI,CJ,C0,↓CL,bH,Tt,ad,M,Vy,DM,Yc]
   refine F0 (fun i:Nat=>[(2,.clo 92 [.ptr 2 0,.ptr 0 0]),(6,.slc (nz 32 (l.map C9)) (l.map C9) false),(7,.ptr 3 0),(9,.row 4 ((Gw Dp l).take i).length 0 ((Gw Dp l).take i).length),(10,.int .i64 (2*(i:Int))),(14,.int .i64 (last+1)),(15,.int .i64 0)])
    (fun i=>[⟨false,1,[.int .i64 i0],false⟩,⟨true,32,(HE l i0 1).map C9,false⟩,⟨false,1,[.row 1 (HE l i0 1).length 0 (HE l i0 1).length],false⟩,⟨false,1,C8 Dp,false⟩,⟨true,32,((Gw Dp l).take i).map C9,false⟩]) (fun i=>2*i≤l.length+1) (fun i=>l.length+1 - i) 0 (by simp only[push_cast,↓reduceIte,CI,CP,CM,CJ,C4,↓CL] <;> rfl) (by omega) ?_
   intro i hi;unfold UW;have f0:(2*(i:Int)).toNat=2*i:=by omega
   have f1:(2*(i:Int)+2)=2*((i+1:Nat):Int):=by omega
   by_cases V:2*(i:Int)<(l.length:Int)
   ·have e:=dP Dp l i (by omega);have hl:((Gw Dp l).take i).length≤65536:=by rw[AK]; omega
    simp (disch:=omega) only[push_cast,↓reduceIte,CI,CP,CM,CJ,V,KH,DM,PK,JQ,f0];refine E5 (i+1) (by omega) (by omega) ?_;grind
   ·have e:(Gw Dp l).take i=Gw Dp l:=AG (by omega);simp (disch:=omega) only[push_cast,↓reduceIte,CI,CP,CM,CJ,CV,CZ,V,e,JQ,DM];refine E5 1 (by omega) (by omega) ?_;rfl
  ·have J:decide (0<j)=true:=by simp; omega
   have a0:decide (0<j+1)=true:=by simp
   have a1:0≤i0∧i0<4611686018427387904∧j≤60∧(HE l i0 j).length≤65536:=⟨hk,Y,by omega,by omega⟩;generalize EW l j=R at hr I hn U;generalize EL j=E at I hn hp U;simp (disch:=omega) only[push_cast,↓reduceIte,CI,CJ,J,Ts,Pw,h1,U,ySv _ _ _ _ _ _ a1,Vy,DM,Yc]
   refine F0 (fun i:Nat=>[(2,.clo 92 [.ptr 2 0,.ptr 0 0]),(6,.row 4 R.length 0 R.length),(7,.ptr 3 0),(9,.row 5 ((Gw E R).take i).length 0 ((Gw E R).take i).length),(10,.int .i64 (2*(i:Int))),(14,.int .i64 (last+1)),(15,.int .i64 j)])
    (fun i=>[⟨false,1,[.int .i64 i0],false⟩,⟨true,32,(HE l i0 (j+1)).map C9,false⟩,⟨false,1,[.row 1 (HE l i0 (j+1)).length 0 (HE l i0 (j+1)).length],false⟩,⟨false,1,C8 E,false⟩,⟨true,32,R.map C9,false⟩,⟨true,32,((Gw E R).take i).map C9,false⟩]) (fun i=>2*i≤R.length+1) (fun i=>R.length+1 - i) 0 (by simp only[push_cast,↓reduceIte,CI,CP,CM,CJ,C4,↓CL] <;> rfl) (by omega) ?_
   intro i hi;unfold UW;have f0:(2*(i:Int)).toNat=2*i:=by omega
   have f1:(2*(i:Int)+2)=2*((i+1:Nat):Int):=by omega
   by_cases V:2*(i:Int)<(R.length:Int)
   ·have e:=dP E R i (by omega);have hl:((Gw E R).take i).length≤65536:=by rw[AK]; omega
    simp (disch:=omega) only[push_cast,↓reduceIte,CI,CP,CM,CJ,V,DM,PK,JQ,f0];refine E5 (i+1) (by omega) (by omega) ?_;grind
   ·have e:(Gw E R).take i=Gw E R:=AG (by omega);simp (disch:=omega) only[push_cast,↓reduceIte,CI,CP,CM,CJ,CV,V,e,JQ,DM];refine E5 (j+1) (by omega) (by omega) ?_;rw[hn,hp,a0];rfl
 ·have a2:last.toNat+1=j:=by omega
  have J:decide (0<j)=true:=by simp; omega
  simp (disch:=omega) only[push_cast,↓reduceIte,CI,CP,CJ,h1,J,Ts,Pw,a2]
noncomputable def dR:List D→Option D:=Dl (α:=List Dig×Int×Int) (fun a=>[.slc (nz 32 (a.1.map C9)) (a.1.map C9) false,.int .i64 a.2.1,.int .i64 a.2.2]) (fun a=>True) (fun a=>.tup [C9 (L3 a.1 a.2.1 a.2.2),.bool (JK a.1 a.2.1 a.2.2)])
theorem uw(l:List Dig)(E:Int)(k:Int):dR [.slc (nz 32 (l.map C9)) (l.map C9) false,.int .i64 E,.int .i64 k]=some (.tup [C9 (L3 l E k),.bool (JK l E k)]):=
 D7 (fun⟨a0,a1,I⟩ ⟨b0,b1,J⟩ h=>by simp only[Aa,D.slc.injEq,D.int.injEq,KM,true_and,and_true]at h; simp[h]) (l,E,k) trivial
theorem Ytj(l:List Dig)(E:Int)(k:Int):@wW GG (tb [] [(91,YU)]) ZP.code (Dc [.slc (nz 32 (l.map C9)) (l.map C9) false,.int .i64 E,.int .i64 k]) [] ⟨Dq ZP.res (.tup [C9 (L3 l E k),.bool (JK l E k)])⟩:=by
 unfold ZP;simp (disch:=omega) only[push_cast,↓reduceIte,CI,CJ];have bad:JK l E k=false→L3 l E k=Dt:=by intro h; unfold L3; simp[h]
 refine E3 (fun I=>?_) (fun I=>?_)
 ·have e:JK l E k=false:=by unfold JK; simp; omega
  simp (disch:=omega) only[push_cast,↓reduceIte,CI,I,e,bad e]
 ·simp (disch:=omega) only[push_cast,↓reduceIte,CI,I];refine E3 (fun J=>?_) (fun J=>?_)
  ·have e:JK l E k=false:=by unfold JK; simp; omega
   simp (disch:=omega) only[push_cast,↓reduceIte,CI,J,e,bad e]
  ·simp (disch:=omega) only[push_cast,↓reduceIte,CI,J];refine E3 (fun M=>?_) (fun M=>?_)
   ·have e:JK l E k=false:=by unfold JK; simp; omega
    simp (disch:=omega) only[push_cast,↓reduceIte,CI,M,e,bad e]
   ·simp (disch:=omega) only[push_cast,↓reduceIte,CI,M];refine E3 (fun U=>?_) (fun U=>?_)
    ·have e:JK l E k=false:=by unfold JK; simp; omega
     simp (disch:=omega) only[push_cast,↓reduceIte,CI,U,e,bad e]
    ·simp (disch:=omega) only[push_cast,↓reduceIte,CI,U,Fy,gQ];refine E3 (fun V=>?_) (fun V=>?_)
     ·have e:JK l E k=false:=by unfold JK; simp; omega
      simp (disch:=omega) only[push_cast,↓reduceIte,CI,V,e,bad e]
     ·have e:JK l E k=true:=by unfold JK; simp; omega
      have Y:L3 l E k=D3 l E.toNat k:=by unfold L3; simp[e]
      have e3:L7 l E k Dt (E.toNat+1)=D3 l E.toNat k:=by unfold L7; rw[if_pos (by omega)]
      have hc:=yPg l E E k Dt ⟨by omega,by omega,by omega,by omega⟩;rw[e3]at hc;simp (disch:=omega) only[push_cast,↓reduceIte,CI,V,e,Y,hc]
theorem ze:Contract Tryz.prog GG 63 dR:=
 Eg (T:=tb [] [(91,YU)]) yFl (DJ all_nil (all_cons Yad all_nil)) (fun a h=>Ytj a.1 a.2.1 a.2.2)
noncomputable def dS:List D→Option D:=Dl (α:=List Dig) (fun a=>[.slc (nz 32 (a.map C9)) (a.map C9) false]) (fun a=>True) (fun a=>.tup [.agg (.int .i64 (Er a).1::C8 (Er a).2),.int .i64 (Kb a)])
theorem ux(l:List Dig):dS [.slc (nz 32 (l.map C9)) (l.map C9) false]=some (.tup [.agg (.int .i64 (Er l).1::C8 (Er l).2),.int .i64 (Kb l)]):=
 D7 (fun a b h=>by simp only[Aa,D.slc.injEq,KM,and_true]at h; simp[h]) (l) trivial
theorem Yth(l:List Dig):@wW GG (tb [(25,Mp),(63,dR)] []) ZR.code (Dc [.slc (nz 32 (l.map C9)) (l.map C9) false]) [] ⟨Dq ZR.res (.tup [.agg (.int .i64 (Er l).1::C8 (Er l).2),.int .i64 (Kb l)])⟩:=by
 unfold ZR;simp (disch:=omega) only[push_cast,↓reduceIte,CI];refine E3 (fun E=>?_) (fun E=>?_)
 ·have e:Er l=mG:=by unfold Er; rw[if_neg (by omega)]
  have I:Kb l=2:=by unfold Kb; rw[if_neg (by omega)]
  simp (disch:=omega) only[push_cast,↓reduceIte,CI,E,e,I,mG]
 ·have e:Er l=((l.length:Int),D3 l (DL l.length).toNat 0):=by unfold Er; rw[if_pos (by omega)]
  have I:Kb l=0:=by unfold Kb; rw[if_pos (by omega)]
  obtain⟨d1,d2,d3⟩:=Mq (n:=l.length) (by omega) (by omega);have U:=Uf (16 - DL l.length).toNat;have J:JK l (DL l.length) 0=true:=by unfold JK; simp; omega
  have M:L3 l (DL l.length) 0=D3 l (DL l.length).toNat 0:=by unfold L3; simp[J]
  simp (disch:=omega) only[push_cast,↓reduceIte,CI,E,e,I,J,M,MW,uw]
theorem Yyz:Contract Tryz.prog GG 22 dS:=
 Eg yFj (DJ (all_cons QQ (all_cons ze all_nil)) all_nil) (fun a h=>Yth a)
noncomputable def jM:List D→Option D:=Dl (α:=List Dig×Int) (fun a=>[.slc (nz 32 (a.1.map C9)) (a.1.map C9) false,.int .i64 a.2]) (fun a=>True) (fun a=>.tup [.slc (nz 32 ((IX a.1 a.2).map C9)) ((IX a.1 a.2).map C9) false,.int .i64 (Js a.1 a.2)])
theorem Yan(l:List Dig)(i:Int):jM [.slc (nz 32 (l.map C9)) (l.map C9) false,.int .i64 i]=some (.tup [.slc (nz 32 ((IX l i).map C9)) ((IX l i).map C9) false,.int .i64 (Js l i)]):=
 D7 (fun⟨a0,a1⟩ ⟨b0,b1⟩ h=>by simp only[Aa,D.slc.injEq,D.int.injEq,KM,true_and,and_true]at h; simp[h]) (l,i) trivial
theorem Yti(l:List Dig)(i:Int):@wW GG (tb [(25,Mp)] [(91,YV)]) ZQ.code (Dc [.slc (nz 32 (l.map C9)) (l.map C9) false,.int .i64 i]) [] ⟨Dq ZQ.res (.tup [.slc (nz 32 ((IX l i).map C9)) ((IX l i).map C9) false,.int .i64 (Js l i)])⟩:=by
 unfold ZQ;simp (disch:=omega) only[push_cast,↓reduceIte,CI];refine E3 (fun I=>?_) (fun I=>?_)
 ·have e:IX l i=[]:=by unfold IX; rw[if_neg (by omega)]
  have E:Js l i=2:=by unfold Js; rw[if_pos (by omega)]
  simp (disch:=omega) only[push_cast,↓reduceIte,CI,I,e,E]
 ·obtain⟨d1,d2,d3⟩:=Mq (n:=l.length) (by omega) (by omega);simp (disch:=omega) only[push_cast,↓reduceIte,CI,I,MW];refine E3 (fun J=>?_) (fun J=>?_)
  ·have e:IX l i=[]:=by unfold IX; rw[if_neg (by omega)]
   have E:Js l i=1:=by unfold Js; rw[if_neg (by omega),if_neg (by omega)]
   simp (disch:=omega) only[push_cast,↓reduceIte,CI,J,e,E]
  ·simp (disch:=omega) only[push_cast,↓reduceIte,CI,J,gQ];refine E3 (fun M=>?_) (fun M=>?_)
   ·have e:IX l i=[]:=by unfold IX; rw[if_neg (by omega)]
    have E:Js l i=1:=by unfold Js; rw[if_neg (by omega),if_neg (by omega)]
    simp (disch:=omega) only[push_cast,↓reduceIte,CI,M,e,E]
   ·have e:IX l i=HE l i (DL l.length).toNat:=by unfold IX; rw[if_pos (by omega)]
    have E:Js l i=0:=by unfold Js; rw[if_neg (by omega),if_pos (by omega)]
    have Y:(2:Int) ^ (DL l.length).toNat≤2 ^ 16:=Ue (by omega);rw[e,E];simp (disch:=omega) only[push_cast,↓reduceIte,CI,CJ,M,Vy];refine E3 (fun U=>?_) (fun U=>?_)
    ·have hc:=yPf l (DL l.length - 1) i ⟨by omega,by omega,by omega,by omega,by omega⟩;have V:(DL l.length - 1).toNat+1=(DL l.length).toNat:=by omega
     rw[V]at hc;simp (disch:=omega) only[push_cast,↓reduceIte,CI,U,Fy,hc]
    ·have V:(DL l.length).toNat=0:=by omega
     rw[V];simp (disch:=omega) only[push_cast,↓reduceIte,CI,C0,U];rfl
theorem Yy0:Contract Tryz.prog GG 38 jM:=
 Eg (T:=tb [(25,Mp)] [(91,YV)]) yFk (DJ (all_cons QQ all_nil) (all_cons Yac all_nil)) (fun a h=>Yti a.1 a.2)
theorem Uz(l:List Dig)(n:Nat)(k:Int)(hk:0≤k):D3 l (n+1) k=Hl (D3 l n (2*k)) (D3 l n (2*k+1)):=by
 unfold D3
 show ES (Gw (EL n) (EW l n)) k (EL (n+1))=_
 have hl:=Rg (EL n) (EW l n);unfold ES
 by_cases h:k<((Gw (EL n) (EW l n)).length:Int)
 ·rw[if_pos h,iB (EL n) (EW l n) k.toNat (by omega),if_pos (show 2*k<((EW l n).length:Int) by omega)];unfold ES;grind
 ·rw[if_neg h,if_neg (show ¬ 2*k<((EW l n).length:Int) by omega),if_neg (show ¬ 2*k+1<((EW l n).length:Int) by omega)];rfl
theorem qK(j:Int)(n:Nat):j / 2 ^ (n+1)=j / 2 ^ n / 2:=by
 have:=Uf n;rw[Int.ediv_ediv_of_nonneg (by omega),CH]
theorem yO1(p q:List Dig):∀ (i:Nat) (x:Dig),KB i x (p++q)=KB (i / 2 ^ p.length) (KB i x p) q:=by
 induction p with
 |nil=>intro i x; simp[KB]
 |cons a r E=>
  intro i x
  show KB (i / 2) _ (r++q)=_
  rw[E,Ah,Cu,B2,← Nat.div_div_eq_div_mul];rfl
theorem Ybm(i:Int)(hi:0≤i)(n:Nat):((i.toNat / 2 ^ n:Nat):Int)=i / 2 ^ n:=by
 grind
theorem uJ(l:List Dig)(i:Int)(hi:0≤i):∀ n:Nat,KB i.toNat (D3 l 0 i) (HE l i n)=D3 l n (i / 2 ^ n)
 |0=>by simp[HE,KB]
 |n+1=>by
  have E:=Uf n;have I:0≤i / 2 ^ n:=BB hi (by omega);have J:=Ybm i hi n
  show KB i.toNat (D3 l 0 i) (HE l i n++[D3 l n (Gf (i / 2 ^ n))])=_
  rw[yO1,uJ l i hi n,ZK]
  show(if i.toNat / 2 ^ n % 2=0 then Hl (D3 l n (i / 2 ^ n)) (D3 l n (Gf (i / 2 ^ n)))else Hl (D3 l n (Gf (i / 2 ^ n))) (D3 l n (i / 2 ^ n)))=_
  rw[Uz l n (i / 2 ^ (n+1)) (by rw[qK]; omega),qK];generalize i / 2 ^ n=m at*;unfold Gf;grind
theorem YFu(l:List Dig)(k:Int)(E:Dig)(h:(l.length:Int)≤k):ES l k E=E:=by
 unfold ES; rw[if_neg (by omega)]
theorem nG(l:List Dig)(i:Int)(hl:(l.length:Int)≤65536)(hi:0≤i)(h:i<2 ^ (DL l.length).toNat):HC (Er l) i (D3 l 0 i) (IX l i)=true:=by
 obtain⟨d1,d2,d3⟩:=Mq (n:=l.length) (by omega) (by omega);have E:Er l=((l.length:Int),D3 l (DL l.length).toNat 0):=by unfold Er; rw[if_pos hl]
 have I:IX l i=HE l i (DL l.length).toNat:=by unfold IX; rw[if_pos ⟨hl,hi,h⟩]
 unfold HC;rw[E,I,uJ l i hi,ZK,Int.ediv_eq_zero_of_lt hi h];simp;omega
def HH(x:Bis):Bool:=if x.h<0 then false else if 16<x.h then false else if x.l<0 then false else if x.h<x.l then false else if 0≤x.i then(if x.i<2 ^ (x.h - x.l).toNat then decide (x.r=x.h - x.l)else false)else false
variable {x:Bis}
theorem Zk(h:HH x=true):0≤x.h∧x.h≤16∧0≤x.l∧x.l≤x.h∧0≤x.i∧x.i<2 ^ (x.h - x.l).toNat∧x.r=x.h - x.l:=by
 unfold HH at h
 split at h; · cases h
 split at h; · cases h
 split at h; · cases h
 split at h; · cases h
 split at h
 ·split at h
  ·exact⟨by omega,by omega,by omega,by omega,by assumption,by assumption,of_decide_eq_true h⟩
  ·cases h
 ·cases h
theorem Yjh(M:0≤x.h)(U:x.h≤16)(V:0≤x.l)(Y:x.l≤x.h)(E:0≤x.i)(I:x.i<2 ^ (x.h - x.l).toNat)(J:x.r=x.h - x.l):HH x=true:=by
 unfold HH;rw[if_neg (by omega),if_neg (by omega),if_neg (by omega),if_neg (by omega),if_pos E,if_pos I];exact decide_eq_true J
variable {k:Nat}{i:Int}
theorem yOr(E:0≤i):i / 2 ^ k=0↔i<2 ^ k:=by
 have I:(0:Int)<2 ^ k:=Int.pow_pos (by decide);constructor
 ·intro h;have:=Int.emod_lt_of_pos i I;have e:=Cg i (2 ^ k);rw[h]at e;omega
 ·intro h;exact Int.ediv_eq_zero_of_lt E h
noncomputable def Ux:List D→Option D:=Dl (α:=Bis) (fun a=>[D1 a]) (fun a=>True) (fun a=>.bool (HH a))
theorem Zm(x:Bis):Ux [D1 x]=some (.bool (HH x)):=
 D7 (fun a b h=>by simp only[Aa,and_true,TP]at h; simp[h]) (x) trivial
theorem Ykm(x:Bis):@wW GG (tb [] []) ZY.code (Dc [D1 x]) [] ⟨Dq ZY.res (.bool (HH x))⟩:=by
 unfold ZY HH
 by_cases E:x.h<0
 ·simp (disch:=first|omega|decide) only[push_cast,↓reduceIte,CI,E]
 by_cases I:16<x.h
 ·simp (disch:=first|omega|decide) only[push_cast,↓reduceIte,CI,E,I]
 by_cases J:x.l<0
 ·simp (disch:=first|omega|decide) only[push_cast,↓reduceIte,CI,E,I,J]
 by_cases M:x.h<x.l
 ·simp (disch:=first|omega|decide) only[push_cast,↓reduceIte,CI,E,I,J,M]
 by_cases U:0≤x.i
 ·have e:=yOr (k:=(x.h - x.l).toNat) U
  by_cases V:x.i<2 ^ (x.h - x.l).toNat
  ·simp (disch:=first|omega|decide) only[push_cast,↓reduceIte,CI,E,I,J,M,U,V,Fy,Yi,e]
  ·simp (disch:=first|omega|decide) only[push_cast,↓reduceIte,CI,E,I,J,M,U,V,Fy,Yi,e]
 ·simp (disch:=first|omega|decide) only[push_cast,↓reduceIte,CI,E,I,J,M,U]
theorem iI:Contract Tryz.prog GG 77 Ux:=
 Eg yCc (DJ all_nil all_nil) (fun a h=>Ykm a)
theorem Yz1(n:Int)(h:0≤n∧n≤60):@wW GG (tb [(51,Yb5),(162,vG)] []) gj.code (Dc [.int .i64 n]) [] ⟨Dq gj.res (C9 (EL n.toNat))⟩:=by
 obtain⟨I,J⟩:=h;unfold gj;simp (disch:=omega) only[push_cast,↓reduceIte,CI,Yim];refine F0 (fun i:Nat=>[(0,.int .i64 n),(2,.ptr 0 0),(3,.ptr 1 0),(4,.int .i64 (i:Int))]) (fun i=>[⟨false,1,C8 Dt,false⟩,⟨false,1,C8 (EL i),false⟩]) (fun i=>(i:Int)≤n) (fun i=>(n - i).toNat) 0 (by simp only[push_cast,↓reduceIte,CI,CP,CM,CJ,↓CL] <;> rfl) (by omega) ?_;intro i hi;unfold po;simp (disch:=omega) only[push_cast,↓reduceIte,CI];refine E3 (fun E=>?_) (fun E=>?_)
 ·simp (disch:=first|omega|decide) only[push_cast,↓reduceIte,CI,CP,CM,CJ,yPb,DM];refine E5 (i+1) (by omega) (by omega) ?_;simp only[push_cast] <;> rfl
 ·have e:n.toNat=i:=by omega
  rw[e];simp (disch:=omega) only[push_cast,↓reduceIte,CI,CJ,E]
def Fs(s:Int)(root:Dig):Nat→Dig
 |0=>root
 |j+1=>if DL s≤(j:Int)then Hl (Fs s root j) (EL j)else Fs s root j
theorem rT(s:Int)(E:Dig):∀ j:Nat,(j:Int)≤DL s→Fs s E j=E
 |0,_=>rfl
 |j+1,h=>by
  rw[Fs,if_neg (by omega)];exact rT s E j (by omega)
noncomputable def fe:List D→Option D:=Dl (α:=(Int×Dig)×Int) (fun a=>[.agg (.int .i64 (C5 a.1)::C8 (C6 a.1)),.int .i64 a.2]) (fun a=>0≤a.2∧a.2≤60) (fun a=>C9 (Fs a.1.1 a.1.2 a.2.toNat))
theorem wy(c:Int×Dig)(n:Int)(h:0≤n∧n≤60):fe [.agg (.int .i64 (C5 c)::C8 (C6 c)),.int .i64 n]=some (C9 (Fs c.1 c.2 n.toNat)):=
 D7 (fun⟨a0,a1⟩ ⟨b0,b1⟩ h=>by simp only[Aa,D.int.injEq,D.agg.injEq,Mj,true_and,and_true]at h; simp[h,Cw]) (c,n) h
theorem Ya9(c:Int×Dig)(n:Int)(h:0≤n∧n≤60):@wW GG (tb [(20,N2),(95,Re),(25,Mp)] []) aq.code (Dc [.agg (.int .i64 (C5 c)::C8 (C6 c)),.int .i64 n]) [] ⟨Dq aq.res (C9 (Fs c.1 c.2 n.toNat))⟩:=by
 obtain⟨s,root⟩:=c;obtain⟨J,M⟩:=h;dsimp only;unfold aq;simp (disch:=omega) only[push_cast,↓EZ,↓reduceIte,CI,CP,CJ,P7,Ku,qH];refine F0 (fun i:Nat=>[(2,.ptr 0 0),(4,.ptr 1 0),(5,.ptr 2 0),(6,.ptr 3 0),(11,.int .i64 n),(12,.int .i64 (i:Int))]) (fun i=>[⟨false,1,.int .i64 s::C8 root,false⟩,⟨false,1,C8 Dt,false⟩,⟨false,1,C8 (Fs s root i),false⟩,⟨false,1,C8 (EL i),false⟩]) (fun i=>(i:Int)≤n) (fun i=>(n - i).toNat) 0 (by simp only[push_cast,↓reduceIte,CI,CP,CM,CJ,↓CL] <;> rfl) (by omega) ?_;intro i hi;unfold oA;simp (disch:=omega) only[push_cast,↓reduceIte,CI];refine E3 (fun I=>?_) (fun I=>?_)
 ·simp (disch:=first|omega|decide) only[push_cast,↓reduceIte,CI,MW,MO,I];refine E3 (fun E=>?_) (fun E=>?_)
  ·simp (disch:=first|omega|decide) only[push_cast,↓reduceIte,CI,CP,CM,CJ,JQ,DM,E];refine E5 (i+1) (by omega) (by omega) ?_;rw[show Fs s root (i+1)=Hl (Fs s root i) (EL i)from if_pos E];simp only[push_cast] <;> rfl
  ·simp (disch:=first|omega|decide) only[push_cast,↓reduceIte,CI,CP,CM,CJ,JQ,DM,E];refine E5 (i+1) (by omega) (by omega) ?_;rw[show Fs s root (i+1)=Fs s root i from if_neg E];simp only[push_cast] <;> rfl
 ·have e:n.toNat=i:=by omega
  rw[e];simp (disch:=omega) only[push_cast,↓reduceIte,CI,CJ,I]
theorem Yjc:Contract Tryz.prog GG 76 fe:=
 Eg yAn (DJ (all_cons RA (all_cons Ul (all_cons QQ all_nil))) all_nil) (fun a h=>Ya9 a.1 a.2 h)
theorem EH(st:St)(n sz key off:Nat)(k:IntKind)(i:Int)(E:0≤i)(I:i<(n:Int)):JH st n sz (.ptr key off) (.int k i)=some (.ptr key (off+i.toNat*sz)):=by
 simp only[JH,Q0 k i E,FJ];rw[if_pos (by omega)]
def MH(a b:Int×Dig):Bis:=⟨max (DL a.1) (DL b.1),max (DL a.1) (DL b.1),0,Fs a.1 a.2 (max (DL a.1) (DL b.1)).toNat,Fs b.1 b.2 (max (DL a.1) (DL b.1)).toNat,false,false,Dt,Dt,Dt,Dt,0⟩
def KA(a b:Int×Dig):Bis:=if DL a.1<0 then Gd else if DL b.1<0 then Gd else if(MH a b).n0=(MH a b).n1 then Gd else MH a b
def GY(a b:Int×Dig):Int:=if DL a.1<0 then 1 else if DL b.1<0 then 1 else if(MH a b).n0=(MH a b).n1 then 380 else 0
theorem ZH(n:Int):-1≤DL n∧DL n≤16:=by
 by_cases h:n<0∨65536<n
 ·rw[UL h]; omega
 ·have:=Mq (n:=n) (by omega) (by omega);omega
noncomputable def N9:List D→Option D:=Dl (α:=(Int×Dig)×(Int×Dig)) (fun a=>[.agg (.int .i64 (C5 a.1)::C8 (C6 a.1)),.agg (.int .i64 (C5 a.2)::C8 (C6 a.2))]) (fun a=>True) (fun a=>.tup [D1 (KA a.1 a.2),.int .i64 (GY a.1 a.2)])
theorem Zl(a:Int×Dig)(b:Int×Dig):N9 [.agg (.int .i64 (C5 a)::C8 (C6 a)),.agg (.int .i64 (C5 b)::C8 (C6 b))]=some (.tup [D1 (KA a b),.int .i64 (GY a b)]):=
 D7 (fun⟨a0,a1⟩ ⟨b0,b1⟩ h=>by simp only[Aa,D.int.injEq,D.agg.injEq,Mj,true_and,and_true]at h; simp[h,Cw]) (a,b) trivial
set_option maxHeartbeats 4000000 in
set_option maxRecDepth 20000 in
theorem Ykp(a:Int×Dig)(b:Int×Dig):@wW GG (tb [(25,Mp),(76,fe)] []) ZX.code (Dc [.agg (.int .i64 (C5 a)::C8 (C6 a)),.agg (.int .i64 (C5 b)::C8 (C6 b))]) [] ⟨Dq ZX.res (.tup [D1 (KA a b),.int .i64 (GY a b)])⟩:=by
 obtain⟨s1,r1⟩:=a;obtain⟨s2,E⟩:=b;have d1:=ZH s1;have d2:=ZH s2;unfold ZX KA GY;dsimp only
 by_cases I:DL s1<0
 ·simp (disch:=first|omega|decide) only[push_cast,↓reduceIte,CI,CJ,Ku,MO,MW,I]
 by_cases J:DL s2<0
 ·simp (disch:=first|omega|decide) only[push_cast,↓reduceIte,CI,CJ,Ku,MO,MW,I,J]
 have c1:=wy (s1,r1) (max (DL s1) (DL s2)) ⟨by omega,by omega⟩;have M:=wy (s2,E) (max (DL s1) (DL s2)) ⟨by omega,by omega⟩;dsimp only at c1 M;have V:(MH (s1,r1) (s2,E)).n0=Fs s1 r1 (max (DL s1) (DL s2)).toNat:=rfl;have Y:(MH (s1,r1) (s2,E)).n1=Fs s2 E (max (DL s1) (DL s2)).toNat:=rfl;have e3:MH (s1,r1) (s2,E)={Gd with h:=max (DL s1) (DL s2),l:=max (DL s1) (DL s2),n0:=Fs s1 r1 (max (DL s1) (DL s2)).toNat,n1:=Fs s2 E (max (DL s1) (DL s2)).toNat}:=rfl;rw[V,Y,e3];generalize Fs s1 r1 (max (DL s1) (DL s2)).toNat=p1 at*;generalize Fs s2 E (max (DL s1) (DL s2)).toNat=p2 at*
 by_cases U:p1=p2
 ·simp (disch:=first|omega|decide) only[push_cast,↓reduceIte,CI,CJ,CN,Ku,MO,SQ,MW,I,J,c1,M,U,N4,EH]
 ·simp (disch:=first|omega|decide) only[push_cast,↓reduceIte,CI,CJ,CN,Ku,MO,SQ,MW,I,J,c1,M,U,N4,EH]
theorem cX:Contract Tryz.prog GG 26 N9:=
 Eg yCd (DJ (all_cons QQ (all_cons Yjc all_nil)) all_nil) (fun a h=>Ykp a.1 a.2)
def O5(x:Bis)(p:Int):Bool:=if p=0 then x.t0 else x.t1
def Qq(x:Bis)(p:Int):Dig:=if p=0 then x.n0 else x.n1
def EI(x:Bis)(p:Int)(l r:Dig):Bis:=if p=0 then {x with t0:=true,l0:=l,r0:=r} else {x with t1:=true,l1:=l,r1:=r}
def Ok(x:Bis):Bis:=if x.l0=x.l1 then {Gd with h:=x.h,l:=x.l - 1,i:=2*x.i+1,n0:=x.r0,n1:=x.r1,r:=x.r+1} else {Gd with h:=x.h,l:=x.l - 1,i:=2*x.i,n0:=x.l0,n1:=x.l1,r:=x.r+1}
def FP(x:Bis)(p:Int)(l r:Dig):Bis:=if HH x=true∧(p=0∨p=1)then(if x.l=0∨O5 x p=true then Gd else if Hl l r=Qq x p then(if O5 x (1 - p)=true then Ok (EI x p l r)else EI x p l r)else Gd)else Gd
def Gb(x:Bis)(p:Int)(l r:Dig):Int:=if HH x=true∧(p=0∨p=1)then(if x.l=0∨O5 x p=true then 380 else if Hl l r=Qq x p then 0 else 381)else 1
theorem gA(h:HH x=true):x.i<65536:=by
 obtain⟨a,b,c,d,e,f,g⟩:=Zk h;have:=Ue (a:=(x.h - x.l).toNat) (b:=16) (by omega);omega
noncomputable def jt:List D→Option D:=Dl (α:=Bis×Int×Dig×Dig) (fun a=>[D1 a.1,.int .i64 a.2.1,C9 a.2.2.1,C9 a.2.2.2]) (fun a=>-9223372036854775808≤a.2.1∧a.2.1<9223372036854775808) (fun a=>.tup [D1 (FP a.1 a.2.1 a.2.2.1 a.2.2.2),.int .i64 (Gb a.1 a.2.1 a.2.2.1 a.2.2.2)])
theorem Yao(x:Bis)(p:Int)(l:Dig)(r:Dig)(h:-9223372036854775808≤p∧p<9223372036854775808):jt [D1 x,.int .i64 p,C9 l,C9 r]=some (.tup [D1 (FP x p l r),.int .i64 (Gb x p l r)]):=
 D7 (fun⟨a0,a1,E,I⟩ ⟨b0,b1,J,M⟩ h=>by simp only[Aa,D.int.injEq,Ls,true_and,and_true,TP]at h; simp[h]) (x,p,l,r) h
set_option maxHeartbeats 4000000 in
set_option maxRecDepth 20000 in
theorem Ytu(x:Bis)(p:Int)(l:Dig)(r:Dig)(h:-9223372036854775808≤p∧p<9223372036854775808):@wW GG (tb [(77,Ux),(95,Re)] []) aE.code (Dc [D1 x,.int .i64 p,C9 l,C9 r]) [] ⟨Dq aE.res (.tup [D1 (FP x p l r),.int .i64 (Gb x p l r)])⟩:=by
 unfold aE
 by_cases hv:HH x=true
 ·have V:=Zm x;rw[hv]at V
  by_cases hp:p=0∨p=1
  ·obtain⟨v1,v2,v3,v4,v5,v6,v7⟩:=Zk hv;have v8:=gA hv;rcases hp with rfl | rfl
   ·have q1:¬ (1:Int)=0:=by decide
    by_cases E:x.l=0
    ·have I:FP x 0 l r=Gd:=by unfold FP; rw[if_pos ⟨hv,.inl rfl⟩,if_pos (.inl E)]
     have J:Gb x 0 l r=380:=by unfold Gb; rw[if_pos ⟨hv,.inl rfl⟩,if_pos (.inl E)]
     rw[I,J];simp (disch:=first|omega|decide) only[push_cast,↓reduceIte,CI,CJ,V,E]
    by_cases M:x.t0=true
    ·have I:FP x 0 l r=Gd:=by unfold FP; rw[if_pos ⟨hv,.inl rfl⟩,if_pos (.inr M)]
     have J:Gb x 0 l r=380:=by unfold Gb; rw[if_pos ⟨hv,.inl rfl⟩,if_pos (.inr M)]
     rw[I,J];simp (disch:=first|omega|decide) only[push_cast,↓reduceIte,CI,CJ,CN,V,E,M,EH]
    have Y:x.t0=false:=by simpa using M
    by_cases U:Hl l r=x.n0
    ·by_cases h4:x.t1=true
     ·have I:FP x 0 l r=Ok (EI x 0 l r):=by unfold FP; rw[if_pos ⟨hv,.inl rfl⟩,if_neg (by intro h; rcases h with h | h; exact E h; exact M h),if_pos (show Hl l r=Qq x 0 from U)]; exact if_pos h4
      have J:Gb x 0 l r=0:=by unfold Gb; rw[if_pos ⟨hv,.inl rfl⟩,if_neg (by intro h; rcases h with h | h; exact E h; exact M h)]; exact if_pos U
      rw[I,J,show EI x 0 l r={x with t0:=true,l0:=l,r0:=r} from rfl];unfold Ok
      by_cases h5:l=x.l1
      ·simp (disch:=first|omega|decide) only[push_cast,↓EZ,↓reduceIte,CI,CJ,CN,CV,C3,V,E,Y,U,h4,← h5,EH,JQ,Fy,Nn,DM,N4]
      ·simp (disch:=first|omega|decide) only[push_cast,↓EZ,↓reduceIte,CI,CJ,CN,CV,C3,V,E,Y,U,h4,h5,EH,JQ,Fy,Nn,DM,N4]
     ·have ae:x.t1=false:=by simpa using h4
      have I:FP x 0 l r=EI x 0 l r:=by unfold FP; rw[if_pos ⟨hv,.inl rfl⟩,if_neg (by intro h; rcases h with h | h; exact E h; exact M h),if_pos (show Hl l r=Qq x 0 from U)]; exact if_neg h4
      have J:Gb x 0 l r=0:=by unfold Gb; rw[if_pos ⟨hv,.inl rfl⟩,if_neg (by intro h; rcases h with h | h; exact E h; exact M h)]; exact if_pos U
      rw[I,J,show EI x 0 l r={x with t0:=true,l0:=l,r0:=r} from rfl];simp (disch:=first|omega|decide) only[push_cast,↓EZ,↓reduceIte,CI,CJ,CN,CV,C3,V,E,Y,U,ae,EH,JQ,Fy]
    ·have I:FP x 0 l r=Gd:=by unfold FP; rw[if_pos ⟨hv,.inl rfl⟩,if_neg (by intro h; rcases h with h | h; exact E h; exact M h)]; exact if_neg U
     have J:Gb x 0 l r=381:=by unfold Gb; rw[if_pos ⟨hv,.inl rfl⟩,if_neg (by intro h; rcases h with h | h; exact E h; exact M h)]; exact if_neg U
     rw[I,J];simp (disch:=first|omega|decide) only[push_cast,↓reduceIte,CI,CJ,CN,V,E,Y,U,EH,JQ]
   ·have q1:¬ (1:Int)=0:=by decide
    by_cases E:x.l=0
    ·have I:FP x 1 l r=Gd:=by unfold FP; rw[if_pos ⟨hv,.inr rfl⟩,if_pos (.inl E)]
     have J:Gb x 1 l r=380:=by unfold Gb; rw[if_pos ⟨hv,.inr rfl⟩,if_pos (.inl E)]
     rw[I,J];simp (disch:=first|omega|decide) only[push_cast,↓reduceIte,CI,CJ,V,E,q1]
    by_cases M:x.t1=true
    ·have I:FP x 1 l r=Gd:=by unfold FP; rw[if_pos ⟨hv,.inr rfl⟩,if_pos (.inr M)]
     have J:Gb x 1 l r=380:=by unfold Gb; rw[if_pos ⟨hv,.inr rfl⟩,if_pos (.inr M)]
     rw[I,J];simp (disch:=first|omega|decide) only[push_cast,↓reduceIte,CI,CJ,CN,V,E,M,q1,EH]
    have Y:x.t1=false:=by simpa using M
    by_cases U:Hl l r=x.n1
    ·by_cases h4:x.t0=true
     ·have I:FP x 1 l r=Ok (EI x 1 l r):=by unfold FP; rw[if_pos ⟨hv,.inr rfl⟩,if_neg (by intro h; rcases h with h | h; exact E h; exact M h),if_pos (show Hl l r=Qq x 1 from U)]; exact if_pos h4
      have J:Gb x 1 l r=0:=by unfold Gb; rw[if_pos ⟨hv,.inr rfl⟩,if_neg (by intro h; rcases h with h | h; exact E h; exact M h)]; exact if_pos U
      rw[I,J,show EI x 1 l r={x with t1:=true,l1:=l,r1:=r} from rfl];unfold Ok
      by_cases h5:l=x.l0
      ·simp (disch:=first|omega|decide) only[push_cast,↓EZ,↓reduceIte,CI,CJ,CN,CV,C3,V,E,Y,U,h4,q1,← h5,EH,JQ,Fy,Nn,DM,N4]
      ·have h6:¬ x.l0=l:=fun h=>h5 h.symm;simp (disch:=first|omega|decide) only[push_cast,↓EZ,↓reduceIte,CI,CJ,CN,CV,C3,V,E,Y,U,h4,h5,h6,q1,EH,JQ,Fy,Nn,DM,N4]
     ·have ae:x.t0=false:=by simpa using h4
      have I:FP x 1 l r=EI x 1 l r:=by unfold FP; rw[if_pos ⟨hv,.inr rfl⟩,if_neg (by intro h; rcases h with h | h; exact E h; exact M h),if_pos (show Hl l r=Qq x 1 from U)]; exact if_neg h4
      have J:Gb x 1 l r=0:=by unfold Gb; rw[if_pos ⟨hv,.inr rfl⟩,if_neg (by intro h; rcases h with h | h; exact E h; exact M h)]; exact if_pos U
      rw[I,J,show EI x 1 l r={x with t1:=true,l1:=l,r1:=r} from rfl];simp (disch:=first|omega|decide) only[push_cast,↓EZ,↓reduceIte,CI,CJ,CN,CV,C3,V,E,Y,U,ae,q1,EH,JQ,Fy]
    ·have I:FP x 1 l r=Gd:=by unfold FP; rw[if_pos ⟨hv,.inr rfl⟩,if_neg (by intro h; rcases h with h | h; exact E h; exact M h)]; exact if_neg U
     have J:Gb x 1 l r=381:=by unfold Gb; rw[if_pos ⟨hv,.inr rfl⟩,if_neg (by intro h; rcases h with h | h; exact E h; exact M h)]; exact if_neg U
     rw[I,J];simp (disch:=first|omega|decide) only[push_cast,↓reduceIte,CI,CJ,CN,V,E,Y,U,q1,EH,JQ]
  ·have I:FP x p l r=Gd:=by unfold FP; exact if_neg fun h=>hp h.2
   have J:Gb x p l r=1:=by unfold Gb; exact if_neg fun h=>hp h.2
   have p0:¬ p=0:=fun h=>hp (.inl h);have p1:¬ p=1:=fun h=>hp (.inr h);rw[I,J];simp (disch:=first|omega|decide) only[push_cast,↓reduceIte,CI,CJ,V,p0,p1]
 ·have af:HH x=false:=by simpa using hv
  have V:=Zm x;rw[af]at V;have I:FP x p l r=Gd:=by unfold FP; exact if_neg fun h=>hv h.1
  have J:Gb x p l r=1:=by unfold Gb; exact if_neg fun h=>hv h.1
  rw[I,J];simp (disch:=first|omega|decide) only[push_cast,↓reduceIte,CI,CJ,V]
theorem Yy5:Contract Tryz.prog GG 122 jt:=
 Eg ywd (DJ (all_cons iI (all_cons Ul all_nil)) all_nil) (fun a h=>Ytu a.1 a.2.1 a.2.2.1 a.2.2.2 h)
noncomputable def Ylk:List D→Option D:=Dl (α:=Bis×Int×Dig×Dig) (fun a=>[D1 a.1,.int .i64 a.2.1,C9 a.2.2.1,C9 a.2.2.2]) (fun a=>-9223372036854775808≤a.2.1∧a.2.1<9223372036854775808) (fun a=>.tup [D1 (FP a.1 a.2.1 a.2.2.1 a.2.2.2),.int .i64 (Gb a.1 a.2.1 a.2.2.1 a.2.2.2)])
theorem Yz3(x:Bis)(p:Int)(l:Dig)(r:Dig)(h:-9223372036854775808≤p∧p<9223372036854775808):Ylk [D1 x,.int .i64 p,C9 l,C9 r]=some (.tup [D1 (FP x p l r),.int .i64 (Gb x p l r)]):=
 D7 (fun⟨a0,a1,E,I⟩ ⟨b0,b1,J,M⟩ h=>by simp only[Aa,D.int.injEq,Ls,true_and,and_true,TP]at h; simp[h]) (x,p,l,r) h
theorem Jv(st:St)(a b:Dig):D5 st (E4 a b)=some (E4 a b):=SY st (sL a b)
theorem kY:¬ (2:Int)=0:=by decide
theorem WE:¬ (380:Int)=0:=by decide
theorem kZ:¬ (1:Int)=0:=by decide
def KC(x:Bis):Bool:=HH x && decide (x.l≤0)
def Kv(x:Bis):Int:=if KC x=true then x.i else 0
def HR(x:Bis):Dig:=if KC x=true then x.n0 else Dt
def HS(x:Bis):Dig:=if KC x=true then x.n1 else Dt
noncomputable def SE:List D→Option D:=Dl (α:=Bis) (fun a=>[D1 a]) (fun a=>True) (fun a=>.tup [.int .i64 (Kv a),.agg (E4 (HR a) (HS a)),.bool (KC a)])
theorem SW(x:Bis):SE [D1 x]=some (.tup [.int .i64 (Kv x),.agg (E4 (HR x) (HS x)),.bool (KC x)]):=
 D7 (fun a b h=>by simp only[Aa,and_true,TP]at h; simp[h]) (x) trivial
set_option maxHeartbeats 4000000 in
set_option maxRecDepth 20000 in
theorem Ytt(x:Bis):@wW GG (tb [(77,Ux)] []) ZO.code (Dc [D1 x]) [] ⟨Dq ZO.res (.tup [.int .i64 (Kv x),.agg (E4 (HR x) (HS x)),.bool (KC x)])⟩:=by
 have E:=Zm x;unfold ZO Kv HR HS KC
 by_cases hv:HH x=true
 ·rw[hv]at E ⊢
  by_cases J:0<x.l
  ·have I:¬ x.l≤0:=by omega
   simp (disch:=first|omega|decide) only[push_cast,↓reduceIte,CI,Jv,E,J,I]
  ·have I:x.l≤0:=by omega
   simp (disch:=first|omega|decide) only[push_cast,↓reduceIte,CI,Jv,E,J,I]
 ·have M:HH x=false:=by simpa using hv
  rw[M]at E ⊢;simp (disch:=first|omega|decide) only[push_cast,↓reduceIte,CI,Jv,E]
theorem gD:Contract Tryz.prog GG 88 SE:=
 Eg yFn (DJ (all_cons iI all_nil) all_nil) (fun a h=>Ytt a)
def F7(s:List Dig)(x:Bis):Int:=if HH x=true then(if 65536<(s.length:Int)then 2 else if x.l=0 then 380 else 0)else 1
def EY(s:List Dig)(x:Bis):Dig:=if F7 s x=0 then L3 s (x.l - 1) (2*x.i)else Dt
def EX(s:List Dig)(x:Bis):Dig:=if F7 s x=0 then L3 s (x.l - 1) (2*x.i+1)else Dt
noncomputable def cJ:List D→Option D:=Dl (α:=List Dig×Bis) (fun a=>[.slc (nz 32 (a.1.map C9)) (a.1.map C9) false,D1 a.2]) (fun a=>True) (fun a=>.tup [C9 (EY a.1 a.2),C9 (EX a.1 a.2),.int .i64 (F7 a.1 a.2)])
theorem sF(s:List Dig)(x:Bis):cJ [.slc (nz 32 (s.map C9)) (s.map C9) false,D1 x]=some (.tup [C9 (EY s x),C9 (EX s x),.int .i64 (F7 s x)]):=
 D7 (fun⟨a0,a1⟩ ⟨b0,b1⟩ h=>by simp only[Aa,D.slc.injEq,KM,and_true,TP]at h; simp[h]) (s,x) trivial
set_option maxHeartbeats 4000000 in
set_option maxRecDepth 20000 in
theorem YAy(s:List Dig)(x:Bis):@wW GG (tb [(77,Ux),(63,dR)] []) ao.code (Dc [.slc (nz 32 (s.map C9)) (s.map C9) false,D1 x]) [] ⟨Dq ao.res (.tup [C9 (EY s x),C9 (EX s x),.int .i64 (F7 s x)])⟩:=by
 have E:=Zm x;unfold ao EY EX
 by_cases hv:HH x=true
 ·obtain⟨v1,v2,U,v4,V,v6,Y⟩:=Zk hv;have v8:=gA hv
  by_cases I:65536<(s.length:Int)
  ·have e:F7 s x=2:=by unfold F7; rw[if_pos hv,if_pos I]
   rw[e]; rw[hv]at E;simp (disch:=first|omega|decide) only[push_cast,↓EZ,↓reduceIte,CI,CJ,CV,kY,E,I]
  ·by_cases J:x.l=0
   ·have e:F7 s x=380:=by unfold F7; rw[if_pos hv,if_neg I,if_pos J]
    rw[e]; rw[hv]at E;simp (disch:=first|omega|decide) only[push_cast,↓EZ,↓reduceIte,CI,CJ,CV,WE,E,I,J]
   ·have e:F7 s x=0:=by unfold F7; rw[if_pos hv,if_neg I,if_neg J]
    rw[e]; rw[hv]at E;simp (disch:=first|omega|decide) only[push_cast,↓EZ,↓reduceIte,CI,CJ,CV,E,I,J,uw,Fy,Nn,DM]
 ·have M:HH x=false:=by simpa using hv
  have e:F7 s x=1:=by unfold F7; rw[if_neg hv]
  rw[e]; rw[M]at E;simp (disch:=first|omega|decide) only[push_cast,↓EZ,↓reduceIte,CI,CJ,CV,kZ,E]
theorem YFn:Contract Tryz.prog GG 27 cJ:=
 Eg yAo (DJ (all_cons iI (all_cons ze all_nil)) all_nil) (fun a h=>YAy a.1 a.2)
structure Ky where
 kd:Int
 wg:Int
 rr:Int
 rn:Int
 pt:Int
 deriving DecidableEq,Inhabited
def Ht(k:Ky):List D:=[.int .i64 k.kd,.int .i64 k.wg,.int .i64 k.rr,.int .i64 k.rn,.int .i64 k.pt]
def Ea(k:Ky):D:=.agg (Ht k)
abbrev Dw(l:List Ky):D:=.slc (nz 5 (l.map Ea)) (l.map Ea) false
theorem zL{a b:Ky}:Ht a=Ht b↔a=b:=by
 refine⟨fun h=>?_,fun h=>by rw[h]⟩;obtain⟨a1,E,I,J,M⟩:=a;obtain⟨b1,U,V,Y,b5⟩:=b;simp only[Ht,Aa,D.int.injEq,true_and,and_true]at h;obtain⟨rfl,rfl,rfl,rfl,rfl⟩:=h;rfl
theorem cu{a b:Ky}:Ea a=Ea b↔a=b:=by simp only[Ea,D.agg.injEq,zL]
variable {a b:List Ky}
theorem cw:a.map Ea=b.map Ea↔a=b:=by
 refine⟨fun h=>?_,fun h=>by rw[h]⟩
 induction a generalizing b with
 |nil=>cases b with
  |nil=>rfl
  |cons y b=>simp at h
 |cons x a E=>cases b with
  |nil=>simp at h
  |cons y b=>
   simp only[Ax,Aa,cu]at h;rw[h.1,E h.2]
theorem dw:Dw a=Dw b↔a=b:=by
 simp only[Dw,D.slc.injEq,and_true,cw];exact⟨fun h=>h.2,fun h=>⟨by rw[h],h⟩⟩
theorem Yjv{a b:List Bool}:a.map D.bool=b.map D.bool↔a=b:=by
 refine⟨fun h=>?_,fun h=>by rw[h]⟩
 induction a generalizing b with
 |nil=>cases b with
  |nil=>rfl
  |cons y b=>simp at h
 |cons x a E=>cases b with
  |nil=>simp at h
  |cons y b=>
   simp only[Ax,Aa,D.bool.injEq]at h;rw[h.1,E h.2]
structure Cse where
 key:Ky
 p0:Int
 p1:Int
 ph:Int
 dl:Int
 a0:Int
 a1:Int
 c0:Int×Dig
 c1:Int×Dig
 b:Bis
 wn:Int
 am:Int
 ct:Int
 jn:List Ky
 deriving DecidableEq
def Ke(x:Bis):List Sg:=[.c (.int .i64 x.h),.c (.int .i64 x.l),.c (.int .i64 x.i),.g x.n0,.g x.n1,.c (.bool x.t0),.c (.bool x.t1),.g x.l0,.g x.l1,.g x.r0,.g x.r1,.c (.int .i64 x.r)]
theorem Sb(x:Bis):Dg (Ke x)=Di x:=by simp[Dg,Ke,Di,Sg.cs]
def K1(k:Ky):List Sg:=[.c (.int .i64 k.kd),.c (.int .i64 k.wg),.c (.int .i64 k.rr),.c (.int .i64 k.rn),.c (.int .i64 k.pt)]
theorem mM(k:Ky):Dg (K1 k)=Ht k:=rfl
def EM(x:Cse)(j:D):List Sg:=K1 x.key++[.c (.int .i64 x.p0),.c (.int .i64 x.p1),.c (.int .i64 x.ph),.c (.int .i64 x.dl),.c (.int .i64 x.a0),.c (.int .i64 x.a1),.c (.int .i64 x.c0.1),.g x.c0.2,.c (.int .i64 x.c1.1),.g x.c1.2]++Ke x.b++[.c (.int .i64 x.wn),.c (.int .i64 x.am),.c (.int .i64 x.ct),.c j]
def Dh(x:Cse)(j:D):List D:=Dg (EM x j)
def Dv(x:Cse):D:=.agg (Dh x (Dw x.jn))
theorem Iq(x:Cse)(j:D):KN (EM x j):=trivial
theorem Ni(x:Cse)(j:D):(Dh x j).length=279:=by
 rw[Dh,OQ (Iq x j)]; simp[Jb,EM,K1,Ke,Sg.sz]
variable {j:D}
theorem iY{x y:Cse}{i:D}(h:Dh x i=Dh y j):({x with jn:=[]}:Cse)={y with jn:=[]}∧i=j:=by
 obtain⟨J,x0,x1,x2,x3,x4,x5,M,U,xb,x6,x7,x8,xj⟩:=x;obtain⟨V,y0,y1,y2,y3,y4,y5,Y,ye,yb,y6,y7,y8,yj⟩:=y;obtain⟨a4,a5,a6,a7,a8⟩:=J;obtain⟨a9,ba,bb,bc,bd⟩:=V;obtain⟨be,bf⟩:=M;obtain⟨bg,bh⟩:=U;obtain⟨b1,b2⟩:=Y;obtain⟨b3,b4⟩:=ye;simp only[Dh,EM,K1,Ae,Aj,Dg,Sg.cs,Ml,Sb,Aa,D.int.injEq,true_and,Ad]at h;obtain⟨rfl,rfl,rfl,rfl,rfl,rfl,rfl,rfl,rfl,rfl,rfl,rfl,h⟩:=h;obtain⟨h1,E⟩:=A5 h (by simp[D2]);clear h;simp only[Aa,D.int.injEq,true_and]at E;obtain⟨q1,h3⟩:=E;obtain⟨h4,h5⟩:=A5 h3 (by simp[D2]);obtain⟨h6,I⟩:=A5 h5 (by simp[UO]);simp only[Aa,D.int.injEq,true_and,and_true]at I;obtain⟨q2,q3,q4,q5⟩:=I;subst q1 q2 q3 q4 q5;obtain rfl:=LV h1;obtain rfl:=LV h4;obtain rfl:=pH h6;exact⟨rfl,rfl⟩
theorem N3{x y:Cse}:Dv x=Dv y↔x=y:=by
 refine⟨fun h=>?_,fun h=>by rw[h]⟩;simp only[Dv,D.agg.injEq]at h;obtain⟨E,I⟩:=iY h;rw[dw]at I;obtain⟨J,M,U,V,Y,x4,x5,xc,xe,xb,x6,x7,x8,xj⟩:=x;obtain⟨yk,y0,y1,y2,y3,y4,y5,yc,ye,yb,y6,y7,y8,yj⟩:=y;simp only[Cse.mk.injEq,and_true]at E I ⊢;exact⟨E.1,E.2.1,E.2.2.1,E.2.2.2.1,E.2.2.2.2.1,E.2.2.2.2.2.1,E.2.2.2.2.2.2.1,E.2.2.2.2.2.2.2.1,E.2.2.2.2.2.2.2.2.1,E.2.2.2.2.2.2.2.2.2.1,E.2.2.2.2.2.2.2.2.2.2.1,E.2.2.2.2.2.2.2.2.2.2.2.1,E.2.2.2.2.2.2.2.2.2.2.2.2,I⟩
def bP:Ky:=⟨0,0,0,0,0⟩
def Hr:Cse:=⟨bP,0,0,0,0,0,0,(0,Dt),(0,Dt),Gd,0,0,0,[]⟩
structure Mv where
 kd:Int
 pt:Int
 am:Int
 cm:Int×Dig
 lf:Dig
 rt:Dig
 op:Opn
 path:List Dig
 key:Ky
 deriving DecidableEq
abbrev FL(l:List Dig):D:=.slc (nz 32 (l.map C9)) (l.map C9) false
def HL(o:Opn)(t:D):List Sg:=[.c (.int .i64 o.pc),.c (.int .i64 o.fuel),.c (.int .i64 o.status),.c (.int .i64 o.clause),.c t,.c (.int .i64 o.depth),.g o.rest]
theorem VF(o:Opn):Dg (HL o (Ey o.top))=Ff o:=by simp[Dg,HL,Ff,Sg.cs]
def Ol(m:Mv):List Sg:=[.c (.int .i64 m.kd),.c (.int .i64 m.pt),.c (.int .i64 m.am),.c (.int .i64 m.cm.1),.g m.cm.2,.g m.lf,.g m.rt]++HL m.op (Ey m.op.top)++[.c (FL m.path)]++K1 m.key
def JS(m:Mv):List D:=Dg (Ol m)
def Gy(m:Mv):D:=.agg (JS m)
theorem lZ(m:Mv):KN (Ol m):=trivial
theorem YS(m:Mv):(JS m).length=144:=by
 rw[JS,OQ (lZ m)]; simp[Jb,Ol,HL,K1,Sg.sz]
theorem gI{x y:Mv}:Gy x=Gy y↔x=y:=by
 refine⟨fun h=>?_,fun h=>by rw[h]⟩;obtain⟨x1,x2,x3,⟨x4,x5⟩,x6,x7,x8,x9,ab⟩:=x;obtain⟨y1,y2,y3,⟨y4,y5⟩,y6,y7,y8,y9,ac⟩:=y;simp only[Gy,D.agg.injEq,JS,Ol,Ml,VF,Ak]at h;simp only[Dg,Sg.cs,Ae,Aj,Aa,D.int.injEq,true_and,Ad,Ak]at h;obtain⟨rfl,rfl,rfl,rfl,h⟩:=h;obtain⟨I,g1⟩:=A5 h (by simp[D2]);obtain⟨J,g2⟩:=A5 g1 (by simp[D2]);obtain⟨M,U⟩:=A5 g2 (by simp[D2]);obtain⟨V,E⟩:=A5 U (by simp[KD,UF]);simp only[Aa,FL,D.slc.injEq,and_true,KM,mM,zL]at E;obtain⟨⟨_,Y⟩,q2⟩:=E;subst Y q2;obtain rfl:=LV I;obtain rfl:=LV J;obtain rfl:=LV M;obtain rfl:=SA.1 (congrArg D.agg V);rfl
structure Ply where
 x:Cse
 j:D
 c:List Ins
 v:Int×List Int
 m:Mv
 now:Int
 hv:EA v
def ED(p:Ply):List Sg:=EM p.x p.j++[.c (Eh p.c),.w 17 (D0 p.v)]++Ol p.m++[.c (.int .i64 p.now)]
def Df(p:Ply):List D:=Dg (ED p)
theorem Hi(p:Ply):KN (ED p):=⟨Ii p.hv,trivial⟩
theorem yRf(p:Ply):(Df p).length=442:=by
 rw[Df,OQ (Hi p)]; simp[Jb,ED,EM,Ol,HL,Ke,K1,Sg.sz]
def EK(n:Int):Prop:=-9007199254740992≤n∧n≤9007199254740992
instance (n:Int):Decidable (EK n):=inferInstanceAs (Decidable (_∧_))
def Lm(x:Cse):Prop:=x.ph=4∨x.ph=5∨x.ph=6
instance (x:Cse):Decidable (Lm x):=inferInstanceAs (Decidable (_∨_))
def HF(x:Cse):Prop:=x.ph=1∨x.ph=2∨x.ph=3
instance (x:Cse):Decidable (HF x):=inferInstanceAs (Decidable (_∨_))
def JJ(x:Cse)(w a:Int):Cse:={x with ph:=4,wn:=w,am:=a}
def Oc(x:Cse)(p:Int):Int:=if p=0 then x.a0 else x.a1
def Ik(x:Cse)(p:Int):Int×Dig:=if p=0 then x.c0 else x.c1
def FG(x:Cse)(p:Int):Cse:=if p<0 then JJ x (-1) 0 else JJ x p (Oc x p)
def K3(x:Cse)(n:Int):Int:=if x.a0=n then 0 else if x.a1=n then 1 else -1
def Rv(x:Cse)(n:Int):Cse:=JJ x (K3 x n) n
def Ll(x:Cse)(now:Int):Cse:={x with ph:=3,dl:=now+1440}
def Io(c:List Ins)(v:Int×List Int)(x:Cse)(now:Int):Cse×Int:=
 if KC x.b=true then
  if Kv x.b=0 then
   if(Ho c v).2=0 then(FG x (HG (HR x.b,HS x.b) (Ho c v)).1,0)else(x,(Ho c v).2)
  else(Ll x now,0)
 else(x,0)
def MX(c:List Ins)(v:Int×List Int)(x:Cse)(m:Mv)(now:Int):Cse×Int:=
 if m.pt=1∧x.ph=1 then
  if EK m.am then
   let y:Cse:={x with a1:=m.am,c1:=m.cm}
   if GY x.c0 m.cm=1 then(y,381)
   else if GY x.c0 m.cm=0 then Io c v {y with b:=KA x.c0 m.cm,ph:=2,dl:=now+1440} now
   else if x.a0=m.am then(FG y 1,0)
   else if c.length=0 then(Rv y 0,0)
   else(Ll y now,0)
  else(x,1)
 else(x,380)
def Oe(c:List Ins)(v:Int×List Int)(x:Cse)(m:Mv)(now:Int):Cse×Int:=
 if x.ph=2 then
  if Gb x.b m.pt m.lf m.rt=0 then
   if(FP x.b m.pt m.lf m.rt).r=x.b.r then({x with b:=FP x.b m.pt m.lf m.rt},0)
   else Io c v {x with b:=FP x.b m.pt m.lf m.rt,dl:=now+1440} now
  else(x,Gb x.b m.pt m.lf m.rt)
 else(x,380)
def Gx(x:Cse)(p:Int):Int:=if GY x.c0 x.c1=380 then(Ik x p).1 else if GY x.c0 x.c1=0 then Kv x.b else 0
def FY(x:Cse)(p:Int):Int×Bool:=
 if x.ph=3∧(p=0∨p=1)then
  if Gx x p=0 then(0,false)else(Gx x p - 1,true)
 else(0,false)
def X5(l:List Int):Int:=l.getD (l.length - 1) 0
def Oh(c:List Ins)(v:Int×List Int)(x:Cse)(m:Mv):Cse×Int:=
 if(FY x m.pt).2=true then
  if GY x.c0 x.c1=380 then
   if HC (Ik x m.pt) (FY x m.pt).1 (Gs c v m.op) m.path=true then
    if m.op.status≠0∧(m.op.status≠1∨0<m.op.top.length)then(Rv x (if m.op.status=1 then X5 m.op.top else 0),0)
    else(x,390)
   else(x,40)
  else
   let i:=(FY x m.pt).1
   let bef:=if(Ik x m.pt).1≤i then Dp else Gs c v m.op
   if 2 ^ (DL (Ik x m.pt).1).toNat≤i∨HC (Ik x m.pt) i bef m.path=true then
    if(FH c v bef m.op).2=0 then(FG x (HG (HR x.b,HS x.b) (FH c v bef m.op)).1,0)
    else(x,(FH c v bef m.op).2)
   else(x,40)
 else(x,380)
def Th(x:Cse)(m:Mv):Cse×Int:=if m.pt=0 then({x with ph:=5,wn:=1},0)else(x,380)
def Rq(x:Cse)(m:Mv):Cse×Int:=if m.pt=1 then(FG x 0,0)else if 0≤x.ct then(JJ x 1 x.ct,0)else(x,380)
def Rr(x:Cse)(m:Mv)(now:Int):Cse×Int:=
 if m.pt=1∧x.ph=1∧x.ct<0 then
  if 0≤m.am∧EK m.am then({x with ct:=m.am,dl:=now+1440},0)else(x,1)
 else(x,380)
def Ji(x:Cse)(m:Mv):Cse×Int:=
 if m.pt=0∧x.ph=1 then
  if x.jn.length<8 then
   if m.key≠x.key∧m.key∉x.jn then({x with jn:=x.jn++[m.key]},0)else(x,1)
  else(x,2)
 else(x,380)
def GW(c:List Ins)(v:Int×List Int)(x:Cse)(m:Mv)(now:Int):Cse×Int:=
 if m.kd=1 then MX c v x m now
 else if m.kd=2 then Oe c v x m now
 else if m.kd=3 then Oh c v x m
 else if m.kd=4 then Th x m
 else if m.kd=5 then Rq x m
 else if m.kd=6 then Rr x m now
 else Ji x m
def FZ(c:List Ins)(v:Int×List Int)(x:Cse)(m:Mv)(now:Int):Int:=
 if HF x then
  if(1≤m.kd∧m.kd≤7)∧0≤now∧now≤1073741824∧(m.pt=0∨m.pt=1)then
   if now≤x.dl then(GW c v x m now).2 else 401
  else 1
 else 400
def F9(c:List Ins)(v:Int×List Int)(x:Cse)(m:Mv)(now:Int):Cse:=if FZ c v x m now=0 then(GW c v x m now).1 else Hr
def Gc(p q n:Int)(c:Int×Dig)(now:Int):Int:=
 if min p q<0∨16≤max p q∨p=q∨¬ EK n∨now<0∨1073741824<now then 1 else if c.1<0∨65536<c.1 then 381 else 0
def Lc(k:Ky)(p q n:Int)(c:Int×Dig)(now:Int):Cse:=
 if Gc p q n c now=0 then⟨k,p,q,1,now+1440,n,0,c,(0,Dt),Gd,-1,0,-1,[]⟩else Hr
def IK(x:Cse):Int:=if x.ph=1 then 0 else if x.ph=2∧x.b.t0≠x.b.t1 then(if x.b.t0=true then 0 else 1)else -1
def L8(x:Cse)(now:Int):Cse:=if HF x∧x.dl<now then {FG x (IK x)with ph:=6} else x
section
variable (p:Ply) (sz:Nat) (lent:Bool)
theorem IL:DA (some ⟨false,sz,Df p,lent⟩) 1 false 7=some (.int .i64 p.x.ph):=IZ (l:=ED p) rfl rfl (Hi p)
theorem bw:DA (some ⟨false,sz,Df p,lent⟩) 1 false 9=some (.int .i64 p.x.a0):=IZ (l:=ED p) rfl rfl (Hi p)
theorem bA:DA (some ⟨false,sz,Df p,lent⟩) 1 false 10=some (.int .i64 p.x.a1):=IZ (l:=ED p) rfl rfl (Hi p)
theorem mT:DA (some ⟨false,sz,Df p,lent⟩) 1 false 274=some (.int .i64 p.x.b.r):=IZ (l:=ED p) rfl rfl (Hi p)
theorem Tl:DA (some ⟨false,sz,Df p,lent⟩) 1 false 277=some (.int .i64 p.x.ct):=IZ (l:=ED p) rfl rfl (Hi p)
theorem X7:DA (some ⟨false,sz,Df p,lent⟩) 1 false 278=some p.j:=IZ (l:=ED p) rfl rfl (Hi p)
theorem GV:DA (some ⟨false,sz,Df p,lent⟩) 1 false 279=some (Eh p.c):=IZ (l:=ED p) rfl rfl (Hi p)
theorem EU:DA (some ⟨false,sz,Df p,lent⟩) 1 false 298=some (.int .i64 p.m.pt):=IZ (l:=ED p) rfl rfl (Hi p)
theorem NV:DA (some ⟨false,sz,Df p,lent⟩) 1 false 299=some (.int .i64 p.m.am):=IZ (l:=ED p) rfl rfl (Hi p)
theorem Jl:DA (some ⟨false,sz,Df p,lent⟩) 1 false 435=some (FL p.m.path):=IZ (l:=ED p) rfl rfl (Hi p)
theorem Yv6:DA (some ⟨false,sz,Df p,lent⟩) 1 false 441=some (.int .i64 p.now):=IZ (l:=ED p) rfl rfl (Hi p)
theorem cC:DA (some ⟨false,sz,Df p,lent⟩) 5 true 0=some (Ea p.x.key):=JN (l:=ED p) rfl rfl (Hi p) rfl
theorem iT:DA (some ⟨false,sz,Df p,lent⟩) 279 true 0=some (.agg (Dh p.x p.j)):=JN (l:=ED p) rfl rfl (Hi p) rfl
theorem GB:DA (some ⟨false,sz,Df p,lent⟩) 33 true 11=some (.agg (.int .i64 p.x.c0.1::C8 p.x.c0.2)):=JN (l:=ED p) rfl rfl (Hi p) (by simp[Dg,Sg.cs])
theorem GC:DA (some ⟨false,sz,Df p,lent⟩) 33 true 44=some (.agg (.int .i64 p.x.c1.1::C8 p.x.c1.2)):=JN (l:=ED p) rfl rfl (Hi p) (by simp[Dg,Sg.cs])
theorem II:DA (some ⟨false,sz,Df p,lent⟩) 198 true 77=some (D1 p.x.b):=JN (l:=ED p) rfl rfl (Hi p) (by rw[D1,← Sb]; rfl)
theorem Hc:DA (some ⟨false,sz,Df p,lent⟩) 17 true 280=some (EJ p.v):=JN (l:=ED p) rfl rfl (Hi p) (by simp[Dg,Sg.cs,EJ])
theorem Tm:DA (some ⟨false,sz,Df p,lent⟩) 33 true 300=some (.agg (.int .i64 p.m.cm.1::C8 p.m.cm.2)):=JN (l:=ED p) rfl rfl (Hi p) (by simp[Dg,Sg.cs])
theorem bB:DA (some ⟨false,sz,Df p,lent⟩) 32 true 333=some (C9 p.m.lf):=JN (l:=ED p) rfl rfl (Hi p) (by simp[Dg,Sg.cs,C9])
theorem bC:DA (some ⟨false,sz,Df p,lent⟩) 32 true 365=some (C9 p.m.rt):=JN (l:=ED p) rfl rfl (Hi p) (by simp[Dg,Sg.cs,C9])
theorem Hy:DA (some ⟨false,sz,Df p,lent⟩) 38 true 397=some (Ef p.m.op):=JN (l:=ED p) rfl rfl (Hi p) (by rw[Ef,← VF]; rfl)
theorem cE:DA (some ⟨false,sz,Df p,lent⟩) 5 true 436=some (Ea p.m.key):=JN (l:=ED p) rfl rfl (Hi p) rfl
end
section
variable (p:Ply) (sz:Nat)
theorem Vi(n:Int):DT (some ⟨false,sz,Df p,false⟩) 1 7 (.int .i64 n)=some ⟨false,sz,Df {p with x:={p.x with ph:=n}},false⟩:=Lt (l:=ED p) (X:=[.c (.int .i64 n)]) rfl rfl (Hi p) rfl rfl rfl rfl
theorem YBb(n:Int):DT (some ⟨false,sz,Df p,false⟩) 1 8 (.int .i64 n)=some ⟨false,sz,Df {p with x:={p.x with dl:=n}},false⟩:=Lt (l:=ED p) (X:=[.c (.int .i64 n)]) rfl rfl (Hi p) rfl rfl rfl rfl
theorem TA(n:Int):DT (some ⟨false,sz,Df p,false⟩) 1 10 (.int .i64 n)=some ⟨false,sz,Df {p with x:={p.x with a1:=n}},false⟩:=Lt (l:=ED p) (X:=[.c (.int .i64 n)]) rfl rfl (Hi p) rfl rfl rfl rfl
theorem xZ(n:Int):DT (some ⟨false,sz,Df p,false⟩) 1 275 (.int .i64 n)=some ⟨false,sz,Df {p with x:={p.x with wn:=n}},false⟩:=Lt (l:=ED p) (X:=[.c (.int .i64 n)]) rfl rfl (Hi p) rfl rfl rfl rfl
theorem YBd(n:Int):DT (some ⟨false,sz,Df p,false⟩) 1 276 (.int .i64 n)=some ⟨false,sz,Df {p with x:={p.x with am:=n}},false⟩:=Lt (l:=ED p) (X:=[.c (.int .i64 n)]) rfl rfl (Hi p) rfl rfl rfl rfl
theorem YBc(n:Int):DT (some ⟨false,sz,Df p,false⟩) 1 277 (.int .i64 n)=some ⟨false,sz,Df {p with x:={p.x with ct:=n}},false⟩:=Lt (l:=ED p) (X:=[.c (.int .i64 n)]) rfl rfl (Hi p) rfl rfl rfl rfl
theorem xY(k t f l:Nat):DT (some ⟨false,sz,Df p,false⟩) 1 278 (.row k t f l)=some ⟨false,sz,Df {p with j:=.row k t f l},false⟩:=Lt (l:=ED p) (X:=[.c (.row k t f l)]) rfl rfl (Hi p) rfl rfl rfl rfl
theorem TB(c:Int×Dig):DT (some ⟨false,sz,Df p,false⟩) 33 44 (.agg (.int .i64 c.1::C8 c.2))=some ⟨false,sz,Df {p with x:={p.x with c1:=c}},false⟩:=
 Lt (l:=ED p) (X:=[.c (.int .i64 c.1),.g c.2]) rfl rfl (Hi p) rfl (by simp[Dg,Sg.cs,D.cells]) (by simp[Dg,Sg.cs,D2]) (by simp only[Dg,Sg.cs,Ad,Ae,Aj,A0,I0]; rfl)
theorem Yj(b:Bis):DT (some ⟨false,sz,Df p,false⟩) 198 77 (D1 b)=some ⟨false,sz,Df {p with x:={p.x with b:=b}},false⟩:=
 Lt (l:=ED p) (X:=Ke b) rfl rfl (Hi p) rfl (by rw[Sb]; rfl) (by rw[Sb,UO]) (by rw[Sb]; exact jS b)
end
noncomputable def My(R:List D→St→D×Int×St→Prop):List D→St→Option (D×Int×St):=fun ds st=>@dite _ (∃ r,R ds st r) (Classical.propDecidable _) (fun h=>some h.choose) (fun _=>none)
variable {r:D×Int×St}{st:St}{ds:List D}
theorem rq{R:List D→St→D×Int×St→Prop}(h:My R ds st=some r):R ds st r:=by
 unfold My at h
 split at h
 ·grind
 ·cases h
def JG(R:List D→St→D×Int×St→Prop):Prop:=∀ ds st r r',R ds st r→R ds st r'→r=r'
theorem iq{R:List D→St→D×Int×St→Prop}(I:JG R)(h:R ds st r):My R ds st=some r:=by
 have E:∃ r,R ds st r:=⟨r,h⟩;unfold My;rw[dif_pos E,I _ _ _ _ E.choose_spec h]
noncomputable def EV(R:List D→St→D×Int×St→Prop):List D→St→Option (D×St):=fun ds st=>match My R ds st with
 |some (d,e,st')=>if e=0 then some (d,st')else none
 |none=>none
noncomputable def G2(R:List D→St→D×Int×St→Prop):List D→St→Option (Nat×D×St):=fun ds st=>match My R ds st with
 |some (_,e,st')=>if e=0 then none else some (125,.int .i64 e,st')
 |none=>none
variable {d:D}{st':St}
theorem Vf{R:List D→St→D×Int×St→Prop}(E:JG R)(h:R ds st (d,0,st')):EV R ds st=some (d,st'):=by
 simp only[EV,iq E h,if_true]
variable {e:Int}
theorem Ve{R:List D→St→D×Int×St→Prop}(E:JG R)(h:R ds st (d,e,st'))(I:e≠0):EV R ds st=none:=by
 simp only[EV,iq E h,if_neg I]
theorem VD{R:List D→St→D×Int×St→Prop}(E:JG R)(h:R ds st (d,e,st'))(I:e≠0):G2 R ds st=some (125,.int .i64 e,st'):=by
 simp only[G2,iq E h,if_neg I]
def NB(res:List PRes)(d:D)(e:Int)(st':St)(x:Ex)(fr:Frame)(st:St):Prop:=match x with
 |.exit _=>False
 |.panic t y=>¬ e=0∧t=125∧y=.int .i64 e∧st=st'
 |_=>e=0∧@on _ (D9 ⟨fr,st⟩ res) ⟨fun l=>(DU l,st)=(d,st')⟩
theorem Yl0(res:List PRes)(d:D)(e:Int)(st':St)(fr:Frame)(st:St):NB res d e st' .ret fr st=(e=0∧@on _ (D9 ⟨fr,st⟩ res) ⟨fun l=>(DU l,st)=(d,st')⟩):=(rfl)
theorem Yc3(res:List PRes)(d:D)(e:Int)(st':St)(fr:Frame)(st:St):NB res d e st' .next fr st=(e=0∧@on _ (D9 ⟨fr,st⟩ res) ⟨fun l=>(DU l,st)=(d,st')⟩):=(rfl)
theorem yXs(res:List PRes)(d:D)(e:Int)(st':St)(t:Nat)(y:D)(fr:Frame)(st:St):NB res d e st' (.panic t y) fr st=(¬ e=0∧t=125∧y=.int .i64 e∧st=st'):=(rfl)
theorem Lo{T:Tbl}{il:List Nat}{f:Nat}{hints:List (List Nat)}{F:PF}{R:List D→St→D×Int×St→Prop}(M:DB Tryz.prog il f hints=some F)(U:TblOK Tryz.prog GG T)
  (h:∀ ds st d e st',R ds st (d,e,st')→@wW GG T F.code (Dc ds) st ⟨NB F.res d e st'⟩) (V:T.y=fun _ _ _=>none:=by rfl):IContract Tryz.prog GG f (EV R)∧Q7 Tryz.prog GG f (G2 R):=by
 constructor
 ·refine JR M U (fun ds st r E=>?_) V;unfold EV at E
  split at E
  case h_2=>cases E
  rename_i d e st' J
  split at E
  case isFalse=>cases E
  rename_i he;simp only[AN]at E;subst E; subst he;refine Tg (K9 _ _ _ _ _ (HQ (h _ _ _ _ _ (rq J))) fun x fr st I=>?_)
  cases x with
  |exit i=>exact I.elim
  |panic t y=>exact absurd rfl I.1
  |next=>unfold G4; exact I.2
  |ret=>unfold G4; exact I.2
 ·refine yLm M U (fun ds st r E=>?_) V;unfold G2 at E
  split at E
  case h_2=>cases E
  rename_i d e st' J
  split at E
  case isTrue=>cases E
  rename_i he;simp only[AN]at E;subst E;refine Tg (K9 _ _ _ _ _ (HQ (h _ _ _ _ _ (rq J))) fun x fr st I=>?_)
  cases x with
  |exit i=>exact I.elim
  |panic t y=>obtain⟨_,rfl,rfl,rfl⟩:=I; unfold NA; rfl
  |next=>exact absurd I.1 he
  |ret=>exact absurd I.1 he
attribute [irreducible] NB
attribute [push_cast] Yl0 Yc3 yXs
abbrev CK(f:Nat)(R:List D→St→D×Int×St→Prop):Prop:=IContract Tryz.prog GG f (EV R)∧Q7 Tryz.prog GG f (G2 R)
def IV(ds:List D)(st:St)(r:D×Int×St):Prop:=∃ (b:Bool) (e:Int),ds=[.bool b,.int .i64 e]∧(b=false→e≠0)∧r=(.tup [],if b=true then 0 else e,st)
theorem jy:JG IV:=by
 rintro ds st r E ⟨b,e,rfl,_,rfl⟩ ⟨b',I,h,_,rfl⟩;grind
theorem DF(e:Int)(st:St):EV IV [.bool true,.int .i64 e] st=some (.tup [],st):=Vf jy ⟨true,e,rfl,(fun h=>by cases h),rfl⟩
theorem EC(E:e≠0)(st:St):EV IV [.bool false,.int .i64 e] st=none:=Ve jy (e:=e) ⟨false,e,rfl,fun _=>E,rfl⟩ E
theorem EB(E:e≠0)(st:St):G2 IV [.bool false,.int .i64 e] st=some (125,.int .i64 e,st):=VD jy (e:=e) (d:=.tup []) ⟨false,e,rfl,fun _=>E,rfl⟩ E
theorem Km:CK 73 IV:=by
 refine Lo (T:=tb [] []) yIl (DJ all_nil all_nil) ?_;rintro ds st d e st' ⟨b,E,rfl,hb,h⟩;simp only[AD]at h;obtain⟨rfl,rfl,rfl⟩:=h;unfold wv
 cases b with
 |true=>simp (disch:=first|omega|decide) only[push_cast,↓reduceIte,and_true]
 |false=>
  have he:=hb rfl;simp (disch:=first|omega|decide) only[push_cast,↓reduceIte,CI,he,and_true,not_false_eq_true]
def Nt(ds:List D)(st:St)(r:D×Int×St):Prop:=∃ (e:Int),ds=[.int .i64 e]∧r=(.tup [],e,st)
theorem jB:JG Nt:=by
 rintro ds st r E ⟨e,rfl,rfl⟩ ⟨I,h,rfl⟩;grind
theorem Iw(st:St):EV Nt [.int .i64 0] st=some (.tup [],st):=Vf jB ⟨0,rfl,rfl⟩
theorem JA(E:e≠0)(st:St):EV Nt [.int .i64 e] st=none:=Ve jB (e:=e) ⟨e,rfl,rfl⟩ E
theorem Oj(E:e≠0)(st:St):G2 Nt [.int .i64 e] st=some (125,.int .i64 e,st):=VD jB (e:=e) (d:=.tup []) ⟨e,rfl,rfl⟩ E
noncomputable abbrev TND:Tbl:=M3 [] [(73,EV IV)] [(73,G2 IV)]
theorem Se:CK 123 Nt:=by
 refine Lo (T:=TND) yIk (OB all_nil (all_cons Km.1 all_nil) (all_cons Km.2 all_nil)) ?_;rintro ds st d e st' ⟨E,rfl,h⟩;simp only[AD]at h;obtain⟨rfl,rfl,rfl⟩:=h;unfold wx
 by_cases he:e=0
 ·have g:=eq_true he;simp (disch:=first|omega|decide) only[push_cast,↓reduceIte,CI,g,decide_true,DF,and_true]
 ·simp (disch:=first|omega|decide) only[push_cast,↓reduceIte,CI,he,decide_false,EC,EB,and_true,not_false_eq_true]
def HM{α:Type}[DecidableEq α](a:α):List α→Nat→Int
 |[],_=>-1
 |x::r,i=>if a=x then i else HM a r (i+1)
theorem iR{α:Type}[DecidableEq α][Inhabited α](a:α)(l:List α){i:Nat}(h:i<l.length):HM a (l.drop i) i=if a=l.getD i default then(i:Int)else HM a (l.drop (i+1)) (i+1):=by
 rw[A9 h,HM];simp[Ai,h]
theorem zP{α:Type}[DecidableEq α](a:α):∀ (l:List α) (i:Nat),(0≤HM a l i↔a∈l)∧-1≤HM a l i
 |[],i=>by simp[HM]
 |x::r,i=>by
  unfold HM;have E:=zP a r (i+1)
  by_cases h:a=x
  ·rw[if_pos h]; subst h; simp
  ·rw[if_neg h];exact⟨by rw[E.1]; simp[h],E.2⟩
theorem Ywx(n a b:Int):HM n [a,b] 0=if a=n then 0 else if b=n then 1 else -1:=by
 show(if n=a then((0:Nat):Int)else if n=b then((1:Nat):Int)else -1)=_
 by_cases h:n=a
 ·subst h; simp
 ·have I:¬ a=n:=fun e=>h e.symm
  by_cases E:n=b
  ·subst E; simp[h,I]
  ·have J:¬ b=n:=fun e=>E e.symm;simp[h,I,E,J]
noncomputable def bT:List D→Option D:=Dl (α:=List Int×Int) (fun a=>[.slc (nz 1 (a.1.map nI)) (a.1.map nI) false,.int .i64 a.2]) (fun a=>a.1.length≤4294967296) (fun a=>.int .i64 (HM a.2 a.1 0))
theorem Yp5(l:List Int)(n:Int)(h:l.length≤4294967296):bT [.slc (nz 1 (l.map nI)) (l.map nI) false,.int .i64 n]=some (.int .i64 (HM n l 0)):=
 D7 (fun⟨a0,a1⟩ ⟨b0,b1⟩ h=>by simp only[Aa,D.slc.injEq,D.int.injEq,true_and,and_true,Sy]at h; simp[h]) (l,n) h
theorem VM(l:List Int)(n:Int)(h:l.length≤4294967296):@wW GG (tb [] []) aO.code (Dc [.slc (nz 1 (l.map nI)) (l.map nI) false,.int .i64 n]) [] ⟨Dq aO.res (.int .i64 (HM n l 0))⟩:=by
 unfold aO;simp (disch:=first|omega|decide) only[push_cast,↓reduceIte,CI,CO];refine F0 (fun i:Nat=>[(0,.slc (nz 1 (l.map nI)) (l.map nI) false),(1,.int .i64 n),(7,.int .i64 (l.length:Int)),(8,.int .i64 (i:Int))]) (fun _=>[]) (fun i=>i≤l.length∧HM n l 0=HM n (l.drop i) i) (fun i=>l.length - i) 0 (by simp only[push_cast,↓reduceIte,CI,↓CL] <;> rfl) ⟨A4 _,rfl⟩ ?_;rintro i ⟨hi,E⟩;unfold o9;simp (disch:=first|omega|decide) only[push_cast,↓reduceIte,CI];refine E3 (fun U=>?_) (fun U=>?_)
 ·have M:i<l.length:=by omega
  rw[iR _ _ M]at E
  have J:∀ st:St,GX st 1 (.slc (nz 1 (l.map nI)) (l.map nI) false) (.int .i64 (i:Int))=some (.eptr (nI (l.getD i default)) 0):=fun st=>by
   have:=KH st 1 nI l false .i64 (i:Int) (by omega) (by omega);rwa [AR]at this
  generalize l.getD i default=x at*
  by_cases I:n=x
  ·rw[if_pos I]at E;simp (disch:=first|omega|decide) only[push_cast,↓reduceIte,CI,CO,J,nI,I];rw[← E,I]
  ·rw[if_neg I]at E;simp (disch:=first|omega|decide) only[push_cast,↓reduceIte,CI,J,nI,I,DM];refine E5 (i+1) (by exact⟨by omega,E⟩) (by omega) ?_;simp only[push_cast] <;> rfl
 ·obtain rfl:i=l.length:=by omega
  rw[Bg]at E;simp (disch:=first|omega|decide) only[push_cast,↓reduceIte,CO,E,HM]
theorem XM:Contract Tryz.prog GG 160 bT:=
 Eg ypq (DJ all_nil all_nil) (fun a h=>VM a.1 a.2 h)
noncomputable def Vg:List D→Option D:=Dl (α:=List Bool×Bool) (fun a=>[.slc (nz 1 (a.1.map D.bool)) (a.1.map D.bool) false,.bool a.2]) (fun a=>a.1.length≤4294967296) (fun a=>.int .i64 (HM a.2 a.1 0))
theorem Yp6(l:List Bool)(n:Bool)(h:l.length≤4294967296):Vg [.slc (nz 1 (l.map D.bool)) (l.map D.bool) false,.bool n]=some (.int .i64 (HM n l 0)):=
 D7 (fun⟨a0,a1⟩ ⟨b0,b1⟩ h=>by simp only[Aa,D.slc.injEq,D.bool.injEq,and_true,Yjv]at h; simp[h]) (l,n) h
theorem VN(l:List Bool)(n:Bool)(h:l.length≤4294967296):@wW GG (tb [] []) aR.code (Dc [.slc (nz 1 (l.map D.bool)) (l.map D.bool) false,.bool n]) [] ⟨Dq aR.res (.int .i64 (HM n l 0))⟩:=by
 unfold aR;simp (disch:=first|omega|decide) only[push_cast,↓reduceIte,CI,CO];refine F0 (fun i:Nat=>[(0,.slc (nz 1 (l.map D.bool)) (l.map D.bool) false),(1,.bool n),(7,.int .i64 (l.length:Int)),(8,.int .i64 (i:Int))]) (fun _=>[]) (fun i=>i≤l.length∧HM n l 0=HM n (l.drop i) i) (fun i=>l.length - i) 0 (by simp only[push_cast,↓reduceIte,CI,↓CL] <;> rfl) ⟨A4 _,rfl⟩ ?_;rintro i ⟨hi,E⟩;unfold pe;simp (disch:=first|omega|decide) only[push_cast,↓reduceIte,CI];refine E3 (fun Y=>?_) (fun Y=>?_)
 ·have V:i<l.length:=by omega
  rw[iR _ _ V]at E
  have J:∀ st:St,GX st 1 (.slc (nz 1 (l.map D.bool)) (l.map D.bool) false) (.int .i64 (i:Int))=some (.eptr (.bool (l.getD i default)) 0):=fun st=>by
   have:=KH st 1 D.bool l false .i64 (i:Int) (by omega) (by omega);rwa [AR]at this
  have M:∀ (st:St) (b:Bool),FF st 1 false (.eptr (.bool b) 0)=some (.bool b):=fun _ _=>rfl;generalize l.getD i default=x at*
  by_cases I:n=x
  ·rw[if_pos I]at E;subst I;have U:(n == n)=true:=by simp
   simp (disch:=first|omega|decide) only[push_cast,↓reduceIte,CI,CO,J,M,U,E]
  ·rw[if_neg I]at E;have U:(n == x)=false:=by simpa using I
   simp (disch:=first|omega|decide) only[push_cast,↓reduceIte,CI,J,M,U,DM];refine E5 (i+1) (by exact⟨by omega,E⟩) (by omega) ?_;simp only[push_cast] <;> rfl
 ·obtain rfl:i=l.length:=by omega
  rw[Bg]at E;simp (disch:=first|omega|decide) only[push_cast,↓reduceIte,CO,E,HM]
theorem XN:Contract Tryz.prog GG 78 Vg:=
 Eg yn6 (DJ all_nil all_nil) (fun a h=>VN a.1 a.2 h)
theorem Kj(E:Bool)(a b:Ky):G7 [0,0,0,0,0] E (Ea a) (Ea b)=some (.bool (decide (a=b) != E)):=by
 obtain⟨a1,I,J,M,U⟩:=a;obtain⟨b1,V,Y,b4,b5⟩:=b
 have h:E9 [0,0,0,0,0] (Ht ⟨a1,I,J,M,U⟩) (Ht ⟨b1,V,Y,b4,b5⟩)=some (decide ((⟨a1,I,J,M,U⟩:Ky)=⟨b1,V,Y,b4,b5⟩)):=by
  simp only[Ht,E9,Jn,if_true,BT,Ky.mk.injEq,AN];rw[B5];simp
 simp only[G7,Ea,h,Ag]
theorem TV(k:Ky):(Ht k).all Es=true:=rfl
theorem MI(k:Ky):DH (Ea k)=some (Ht k):=rfl
theorem S5(sz:Nat)(lent:Bool)(k:Ky):DA (some ⟨false,sz,Ht k,lent⟩) 5 true 0=some (Ea k):=LQ sz lent _ 5 rfl
theorem bF(st:St)(k:Ky):FF st 5 true (.eptr (Ea k) 0)=some (Ea k):=rfl
theorem PJ(st:St)(k:Ky):DX st (Ea k)=some (Ea k):=Q3 st (TV k)
theorem Vx(k:Ky):keys (Ea k)=[]:=Qc (TV k)
theorem YD8(k:Ky):hk (Ea k)=[]:=T0 (TV k)
theorem zZ(n:Nat)(σ:List Nat)(k:Ky):(Ht k).map (Ez n σ)=Ht k:=Mr n σ (TV k)
theorem xF(k:Ky):(Ht k).flatMap hk=[]:=MU (TV k)
theorem mK(st:St)(l:List Ky)(t:Bool)(i:Nat)(h:i<l.length):GX st 5 (.slc (nz 5 (l.map Ea)) (l.map Ea) t) (.int .i64 (i:Int))=some (.eptr (Ea (l.getD i default)) 0):=by
 have:=KH st 5 Ea l t .i64 (i:Int) (by omega) (by omega);rwa [AR]at this
noncomputable def na:List D→Option D:=Dl (α:=List Ky×Ky) (fun a=>[.slc (nz 5 (a.1.map Ea)) (a.1.map Ea) false,Ea a.2]) (fun a=>a.1.length≤4294967296) (fun a=>.int .i64 (HM a.2 a.1 0))
theorem Yp4(l:List Ky)(n:Ky)(h:l.length≤4294967296):na [.slc (nz 5 (l.map Ea)) (l.map Ea) false,Ea n]=some (.int .i64 (HM n l 0)):=
 D7 (fun⟨a0,a1⟩ ⟨b0,b1⟩ h=>by simp only[Aa,D.slc.injEq,and_true,cu,cw]at h; simp[h]) (l,n) h
theorem VL(l:List Ky)(n:Ky)(h:l.length≤4294967296):@wW GG (tb [] []) aW.code (Dc [.slc (nz 5 (l.map Ea)) (l.map Ea) false,Ea n]) [] ⟨Dq aW.res (.int .i64 (HM n l 0))⟩:=by
 unfold aW;simp (disch:=first|omega|decide) only[push_cast,↓reduceIte,CI,CO,MI];refine F0 (fun i:Nat=>[(0,.slc (nz 5 (l.map Ea)) (l.map Ea) false),(3,.ptr 0 0),(7,.int .i64 (l.length:Int)),(8,.int .i64 (i:Int))]) (fun _=>[⟨false,1,Ht n,false⟩]) (fun i=>i≤l.length∧HM n l 0=HM n (l.drop i) i) (fun i=>l.length - i) 0 (by simp only[push_cast,↓reduceIte,CI,CP,CM,↓CL,zZ,xF] <;> rfl) ⟨A4 _,rfl⟩ ?_;rintro i ⟨hi,E⟩;unfold pC;simp (disch:=first|omega|decide) only[push_cast,↓reduceIte,CI];refine E3 (fun U=>?_) (fun U=>?_)
 ·have J:i<l.length:=by omega
  rw[iR _ _ J]at E;have M:=fun st=>mK st l false i J;generalize l.getD i default=x at*
  by_cases I:n=x
  ·rw[if_pos I]at E;subst I;have V:decide (n=n)=true:=by simp
   simp (disch:=first|omega|decide) only[push_cast,↓reduceIte,CI,CO,M,S5,bF,Kj,E]
  ·rw[if_neg I]at E;simp (disch:=first|omega|decide) only[push_cast,↓reduceIte,CI,CP,CM,M,S5,bF,Kj,I,DM];refine E5 (i+1) (by exact⟨by omega,E⟩) (by omega) ?_;simp only[push_cast,zZ,xF] <;> rfl
 ·obtain rfl:i=l.length:=by omega
  rw[Bg]at E;simp (disch:=first|omega|decide) only[push_cast,↓reduceIte,CO,E,HM]
theorem XL:Contract Tryz.prog GG 161 na:=
 Eg yje (DJ all_nil all_nil) (fun a h=>VL a.1 a.2 h)
noncomputable def bS:List D→Option D:=Dl (α:=List Ky×Ky) (fun a=>[.slc (nz 5 (a.1.map Ea)) (a.1.map Ea) false,Ea a.2]) (fun a=>a.1.length≤4294967296) (fun a=>.bool (decide (a.2∈a.1)))
theorem Yqa(l:List Ky)(n:Ky)(h:l.length≤4294967296):bS [.slc (nz 5 (l.map Ea)) (l.map Ea) false,Ea n]=some (.bool (decide (n∈l))):=
 D7 (fun⟨a0,a1⟩ ⟨b0,b1⟩ h=>by simp only[Aa,D.slc.injEq,and_true,cu,cw]at h; simp[h]) (l,n) h
theorem VO(l:List Ky)(n:Ky)(h:l.length≤4294967296):@wW GG (tb [(161,na)] []) aX.code (Dc [.slc (nz 5 (l.map Ea)) (l.map Ea) false,Ea n]) [] ⟨Dq aX.res (.bool (decide (n∈l)))⟩:=by
 unfold aX;have c1:=Yp4 l n h;have m:=(zP n l 0).1;generalize HM n l 0=z at*
 by_cases E:0≤z
 ·have hm:decide (n∈l)=true:=by simp[m.1 E]
  simp (disch:=first|omega|decide) only[push_cast,↓reduceIte,CI,MI,S5,PJ,c1,E,hm]
 ·have hm:decide (n∈l)=false:=by simp; exact fun q=>E (m.2 q)
  simp (disch:=first|omega|decide) only[push_cast,↓reduceIte,CI,MI,S5,PJ,c1,E,hm]
theorem XO:Contract Tryz.prog GG 126 bS:=
 Eg yh6 (DJ (all_cons XL all_nil) all_nil) (fun a h=>VO a.1 a.2 h)
theorem RepV.emptyT{w:World}{g:Ghost}{sz E:Nat}{v:Value}(h:RepV w g st (.slc sz [] true) v):RepV w g st (.slc E [] true) v:=by
 cases h with
 |slcE _ _ a cap h=>exact .slcE _ _ a cap h
 |slc _ _ b off cap _ val I=>exact absurd rfl I
noncomputable def xS:List D→St→Option (D×St):=G3 (α:=List Ky×St) (fun a=>([.slc (nz 5 (a.1.map Ea)) (a.1.map Ea) false],a.2)) (fun a=>a.1.length≤4294900000)
 (fun a=>if a.1=[]then(.slc 0 [] true,a.2)else(.row a.2.length a.1.length 0 a.1.length,a.2++[⟨true,5,a.1.map Ea,false⟩]))
theorem Yqc(l:List Ky)(st:St)(h:l.length≤4294900000):xS [.slc (nz 5 (l.map Ea)) (l.map Ea) false] st=some (if l=[]then(.slc 0 [] true,st)else(.row st.length l.length 0 l.length,st++[⟨true,5,l.map Ea,false⟩])):=
 MR (fun a b e=>by
  simp only[AD,Aa,D.slc.injEq,cw,and_true]at e;rw[e.1.2,e.2]) ((l,st):List Ky×St) h rfl
def cl0:List PI:=[{dst:=some 2,op:=.mov (.c (.slc 0 [] true))}]
def clA:PC:=.seq (.ops [{dst:=some 2,op:=.mov (.c (.slc 0 [] true))}]) .ret
def lJ:PC:=.seq (.ops [{dst:=some 5,op:=.bslc 5 []},{dst:=some 6,op:=.mov (.s 0)},{dst:=some 7,op:=.app 5 40 (.s 5) (.s 6)},{dst:=some 2,op:=.mov (.s 7)}]) .ret
theorem Ypr(T:Tbl)(l:List Ky)(st:St)(h:l.length≤4294900000)(fr:Frame)(J:fr 0=.slc (nz 5 (l.map Ea)) (l.map Ea) false) :
  ∃ E,lJ.exec GG T 0 ⟨fr,st⟩=some (.ret,⟨E,if l=[]then st else st++[⟨true,5,l.map Ea,false⟩]⟩)∧E 2=if l=[]then .slc 5 [] true else .row st.length l.length 0 l.length:=by
 have M:Em st 5 40 (.slc 5 [] true) (.slc (nz 5 (l.map Ea)) (l.map Ea) false)=some (if l=[]then .slc 5 [] true else .row st.length l.length 0 l.length,if l=[]then st else st++[⟨true,5,l.map Ea,false⟩]):=by
  by_cases hl:l=[]
  ·subst hl;exact tI st 5 40 5 0 [] false (by decide)
  ·have I:l.map Ea≠[]:=by simpa using hl
   rw[u5 Ea st 5 5 40 l false (by decide) (by omega) (by omega),Sd _ _ _ I,QH _ _ I,if_neg hl,if_neg hl,Bd]
 simp only[lJ,PC.exec,Fg,PI.exec,PI.wanted,POp.exec,Du,Bk,Eo,Ct,CP,decide_true,AA,Aq,Cc,A4,if_true,lend,BK,Frame.put,Frame.set,J,CI,if_false,show ¬ (5:Nat)=6 from by decide,show ¬ (0:Nat)=5 from by decide,show ¬ (0:Nat)=6 from by decide,M];exact⟨_,rfl,rfl⟩
theorem xA:IContract Tryz.prog GG 127 xS:=by
 refine Ypq (T:=tb [] []) (il:=[]) (DJ all_nil all_nil) rfl (l0:=cl0) (pA:=clA) (pB:=lJ) (res:=[.tmp 2]) (t3:=3) (e:=58) Tryz.func127 (by kernel_rfl) rfl (by kernel_rfl) (by kernel_rfl) (by kernel_rfl) (by kernel_rfl) (by kernel_rfl) rfl rfl rfl (by decide) Tryz.underlying63 ?_;intro ds st d st' U;obtain⟨⟨l,st0⟩,ha,J,E⟩:=jo U;simp only[AD]at ha;obtain⟨rfl,rfl⟩:=ha;dsimp only at J E;refine⟨_,_,_,(Dc [.slc (nz 5 (l.map Ea)) (l.map Ea) false]).set 2 (.slc 0 [] true),rfl,rfl,rfl,fun he=>?_,?_⟩
 ·obtain rfl:l=[]:=by simpa using he
  rw[if_pos rfl]at E;simp only[AD]at E;obtain⟨rfl,rfl⟩:=E;exact⟨0,_,_,rfl,rfl,rfl,fun w g v h=>h.emptyT⟩
 ·obtain⟨V,M,I⟩:=Ypr (tb [] []) l st0 J ((((Dc [.slc (nz 5 (l.map Ea)) (l.map Ea) false]).set 2 (.slc 0 [] true)).set 3 (.slc (nz 5 (l.map Ea)) (l.map Ea) false)).set 4 (.bool false)) rfl
  by_cases hl:l=[]
  ·subst hl;rw[if_pos rfl]at E I;simp only[AD]at E;obtain⟨rfl,rfl⟩:=E;exact⟨0,_,[.slc 5 [] true],M,by rw[if_pos rfl],by simp only[jj,ji,I]; rfl,fun w g v h=>h.emptyT⟩
  ·rw[if_neg hl]at E I;simp only[AD]at E;obtain⟨rfl,rfl⟩:=E;exact⟨0,_,[.row st0.length l.length 0 l.length],M,by rw[if_neg hl],by simp only[jj,ji,I]; rfl,fun w g v h=>h⟩
theorem Yfp(l:List Ky):Es (Dw l)=true:=by
 simp[Es,IJ]
theorem jU(x:Cse){p:D→Bool}(E:∀ k n,p (.int k n)=true)(J:∀ b,p (.bool b)=true)(M:p j=true):(Dh x j).all p=true:=by
 have U:∀ d,(C8 d).all p=true:=fun d=>Lf (fun b=>E _ _) d;refine OP E fun s I=>?_;simp only[EM,K1,Ke,Ae,Aj,Aw,AE,or_false]at I;rcases I with rfl | rfl | rfl | rfl | rfl | rfl | rfl | rfl | rfl | rfl | rfl | rfl | rfl | rfl | rfl | rfl | rfl | rfl | rfl | rfl | rfl | rfl | rfl | rfl | rfl | rfl | rfl | rfl | rfl | rfl | rfl <;> simp[Sg.cs,E,J,M,U]
theorem OO(x:Cse)(hj:j.isCell=true):(Dh x j).all D.isCell=true:=jU x (fun _ _=>rfl) (fun _=>rfl) hj
theorem SM(x:Cse):(Dh x (Dw x.jn)).all Es=true:=jU x (fun _ _=>rfl) (fun _=>rfl) (Yfp _)
theorem Fj(x:Cse):DH (Dv x)=some (Dh x (Dw x.jn)):=by
 simp only[DH,Dv,D.cells,OO x (j:=Dw x.jn) rfl,if_true]
theorem EP(st:St)(x:Cse):DX st (Dv x)=some (Dv x):=Q3 st (SM x)
theorem FO(x:Cse):keys (Dv x)=[]:=Qc (SM x)
section
variable (x:Cse) (j:D) (sz:Nat) (lent:Bool)
theorem FN:DA (some ⟨false,sz,Dh x j,lent⟩) 1 false 7=some (.int .i64 x.ph):=IZ (l:=EM x j) rfl rfl (Iq x j)
theorem JX:DA (some ⟨false,sz,Dh x j,lent⟩) 1 false 8=some (.int .i64 x.dl):=IZ (l:=EM x j) rfl rfl (Iq x j)
theorem yz:DA (some ⟨false,sz,Dh x j,lent⟩) 1 false 11=some (.int .i64 x.c0.1):=IZ (l:=EM x j) rfl rfl (Iq x j)
theorem yA:DA (some ⟨false,sz,Dh x j,lent⟩) 1 false 44=some (.int .i64 x.c1.1):=IZ (l:=EM x j) rfl rfl (Iq x j)
theorem NT:DA (some ⟨false,sz,Dh x j,lent⟩) 1 false 275=some (.int .i64 x.wn):=IZ (l:=EM x j) rfl rfl (Iq x j)
theorem Pu:DA (some ⟨false,sz,Dh x j,lent⟩) 1 false 276=some (.int .i64 x.am):=IZ (l:=EM x j) rfl rfl (Iq x j)
theorem yy:DA (some ⟨false,sz,Dh x j,lent⟩) 1 false 277=some (.int .i64 x.ct):=IZ (l:=EM x j) rfl rfl (Iq x j)
theorem X6:DA (some ⟨false,sz,Dh x j,lent⟩) 1 false 278=some j:=IZ (l:=EM x j) rfl rfl (Iq x j)
theorem N1:DA (some ⟨false,sz,Dh x j,lent⟩) 5 true 0=some (Ea x.key):=JN (l:=EM x j) rfl rfl (Iq x j) rfl
theorem O0:DA (some ⟨false,sz,Dh x j,lent⟩) 2 true 5=some (.agg [.int .i64 x.p0,.int .i64 x.p1]):=JN (l:=EM x j) rfl rfl (Iq x j) rfl
theorem S8:DA (some ⟨false,sz,Dh x j,lent⟩) 2 true 9=some (.agg [.int .i64 x.a0,.int .i64 x.a1]):=JN (l:=EM x j) rfl rfl (Iq x j) rfl
theorem NR:DA (some ⟨false,sz,Dh x j,lent⟩) 33 true 11=some (.agg (.int .i64 x.c0.1::C8 x.c0.2)):=JN (l:=EM x j) rfl rfl (Iq x j) (by simp[Dg,Sg.cs])
theorem NS:DA (some ⟨false,sz,Dh x j,lent⟩) 33 true 44=some (.agg (.int .i64 x.c1.1::C8 x.c1.2)):=JN (l:=EM x j) rfl rfl (Iq x j) (by simp[Dg,Sg.cs])
theorem eE:DA (some ⟨false,sz,Dh x j,lent⟩) 2 true 144=some (.agg [.bool x.b.t0,.bool x.b.t1]):=JN (l:=EM x j) rfl rfl (Iq x j) rfl
theorem Og:DA (some ⟨false,sz,Dh x j,lent⟩) 198 true 77=some (D1 x.b):=JN (l:=EM x j) rfl rfl (Iq x j) (by rw[D1,← Sb]; rfl)
def Hu(a b:Int×Dig):List D:=(.int .i64 a.1::C8 a.2)++(.int .i64 b.1::C8 b.2)
theorem U8:DA (some ⟨false,sz,Dh x j,lent⟩) 66 true 11=some (.agg (Hu x.c0 x.c1)):=JN (l:=EM x j) rfl rfl (Iq x j) (by simp[Dg,Sg.cs,Hu])
theorem FD:DA (some ⟨false,sz,Dh x j,lent⟩) 279 true 0=some (.agg (Dh x j)):=LQ sz lent _ 279 (Ni x j)
end
theorem Gt(x:Cse):D.agg (Dh x (Dw x.jn))=Dv x:=rfl
theorem Kq:Fz=Dh Hr (.slc 0 [] true):=(rfl)
noncomputable def Uw:List D→Option D:=Dl (α:=Int) (fun a=>[.int .i64 a]) (fun a=>True) (fun a=>.bool (decide (EK a)))
theorem fv(n:Int):Uw [.int .i64 n]=some (.bool (decide (EK n))):=
 D7 (fun a b h=>by simp only[Aa,D.int.injEq,true_and,and_true]at h; simp[h]) (n) trivial
theorem Yks(n:Int):@wW GG (tb [] []) ZZ.code (Dc [.int .i64 n]) [] ⟨Dq ZZ.res (.bool (decide (EK n)))⟩:=by
 unfold ZZ
 by_cases E:-9007199254740992≤n
 ·by_cases I:n≤9007199254740992
  ·have e:decide (EK n)=true:=decide_eq_true ⟨E,I⟩;simp (disch:=first|omega|decide) only[push_cast,↓reduceIte,CI,CO,E,I,e]
  ·have e:decide (EK n)=false:=decide_eq_false fun q=>I q.2;simp (disch:=first|omega|decide) only[push_cast,↓reduceIte,CI,CO,E,I,e]
 ·have e:decide (EK n)=false:=decide_eq_false fun q=>E q.1;simp (disch:=first|omega|decide) only[push_cast,↓reduceIte,CI,CO,E,e]
theorem iH:Contract Tryz.prog GG 64 Uw:=
 Eg yCa (DJ all_nil all_nil) (fun a h=>Yks a)
noncomputable def T4:List D→Option D:=Dl (α:=Cse) (fun a=>[Dv a]) (fun a=>True) (fun a=>.bool (decide (HF a)))
theorem UK(x:Cse):T4 [Dv x]=some (.bool (decide (HF x))):=
 D7 (fun a b h=>by simp only[Aa,and_true,N3]at h; simp[h]) (x) trivial
theorem Ytl(x:Cse):@wW GG (tb [] []) au.code (Dc [Dv x]) [] ⟨Dq au.res (.bool (decide (HF x)))⟩:=by
 unfold au
 by_cases E:x.ph=1
 ·have e:decide (HF x)=true:=by simp[HF,E]
  simp (disch:=first|omega|decide) only[push_cast,↓reduceIte,CI,Fj,FN,E,e]
 by_cases I:x.ph=2
 ·have e:decide (HF x)=true:=by simp[HF,I]
  have g:=eq_true I;simp (disch:=first|omega|decide) only[push_cast,↓reduceIte,CI,Fj,FN,E,g,e]
 by_cases J:x.ph=3
 ·have e:decide (HF x)=true:=by simp[HF,J]
  have g:=eq_true J;simp (disch:=first|omega|decide) only[push_cast,↓reduceIte,CI,Fj,FN,E,I,g,e]
 ·have e:decide (HF x)=false:=by simp[HF,E,I,J]
  simp (disch:=first|omega|decide) only[push_cast,↓reduceIte,CI,Fj,FN,E,I,J,e]
theorem zc:Contract Tryz.prog GG 74 T4:=
 Eg yAl (DJ all_nil all_nil) (fun a h=>Ytl a)
noncomputable def dK:List D→Option D:=Dl (α:=Cse) (fun a=>[Dv a]) (fun a=>True) (fun a=>.bool (decide (Lm a)))
theorem uv(x:Cse):dK [Dv x]=some (.bool (decide (Lm x))):=
 D7 (fun a b h=>by simp only[Aa,and_true,N3]at h; simp[h]) (x) trivial
theorem Ytm(x:Cse):@wW GG (tb [] []) Zx.code (Dc [Dv x]) [] ⟨Dq Zx.res (.bool (decide (Lm x)))⟩:=by
 unfold Zx
 by_cases E:x.ph=4
 ·have e:decide (Lm x)=true:=by simp[Lm,E]
  simp (disch:=first|omega|decide) only[push_cast,↓reduceIte,CI,Fj,FN,E,e]
 by_cases I:x.ph=5
 ·have e:decide (Lm x)=true:=by simp[Lm,I]
  have g:=eq_true I;simp (disch:=first|omega|decide) only[push_cast,↓reduceIte,CI,Fj,FN,E,g,e]
 by_cases J:x.ph=6
 ·have e:decide (Lm x)=true:=by simp[Lm,J]
  have g:=eq_true J;simp (disch:=first|omega|decide) only[push_cast,↓reduceIte,CI,Fj,FN,E,I,g,e]
 ·have e:decide (Lm x)=false:=by simp[Lm,E,I,J]
  simp (disch:=first|omega|decide) only[push_cast,↓reduceIte,CI,Fj,FN,E,I,J,e]
theorem zb:Contract Tryz.prog GG 31 dK:=
 Eg yIo (DJ all_nil all_nil) (fun a h=>Ytm a)
def E2(b:UInt8):Dig:=⟨b::CQ 31 0,by simp⟩
theorem Yhd(b:UInt8):DN (C8 Dt) [(0,1,Dn b)]=some (C8 (E2 b)):=by
 have h:C8 Dt=(CQ 32 (0:UInt8)).map Dn:=rfl;rw[h,MT Dn (fun _=>rfl) _ _ _ _ (by simp),N4];rfl
def LG(h l i:Int)(a b:Dig)(r:Int):Bis:=⟨h,l,i,a,b,false,false,Dt,Dt,Dt,Dt,r⟩
theorem Rd(l:List Dig)(hl:(l.length:Int)≤65536):Er l=((l.length:Int),D3 l (DL l.length).toNat 0):=if_pos hl
theorem wV:DL 1=0:=by decide +kernel
theorem ve(l:List Dig):∀ (n m:Nat),l.length≤m*2 ^ n→(EW l n).length≤m
 |0,m,h=>by simpa[EW]using h
 |n+1,m,h=>by
  have E:=ve l n (2*m) (by rw[Cu]at h; rw[B2 2 m,Nat.mul_assoc,B2 2]; exact h)
  show(Gw (EL n) (EW l n)).length≤m
  rw[Rg];omega
theorem Ync(l:List Dig)(n:Nat)(h:l.length≤2 ^ n):D3 l n 1=EL n:=by
 have:=ve l n 1 (by omega);exact YFu _ _ _ (by omega)
theorem Yhq(l:List Dig)(hl:(l.length:Int)≤65536):l.length≤2 ^ (DL l.length).toNat:=by
 have:=jX (n:=(l.length:Int)) (by omega) hl;grind
theorem tH(l:List Dig)(hl:(l.length:Int)≤65536):∀ n:Nat,DL l.length≤(n:Int)→Fs (Er l).1 (Er l).2 n=D3 l n 0:=by
 have M:=Mq (n:=(l.length:Int)) (by omega) hl;rw[Rd l hl];dsimp only;intro n
 induction n with
 |zero=>
  intro h;have:(DL l.length).toNat=0:=by omega
  rw[this]; rfl
 |succ n I=>
  intro h
  by_cases E:DL l.length≤(n:Int)
  ·rw[Fs,if_pos E,I E,Uz _ _ _ (by omega)]
   have J:l.length≤2 ^ n:=by
    have a:=Yhq l hl;exact AS a (Cn (by decide) (by omega))
   rw[show(2:Int)*0=0 from rfl,show(0:Int)+1=1 from rfl,Ync l n J]
  ·rw[Fs,if_neg E,rT _ _ _ (by omega)];grind
theorem yTc{m n:Nat}(h:m≤n):GZ m≤GZ n:=SH (Nat.lt_of_le_of_lt h fq)
theorem uO{m n:Int}(E:0≤m)(h:m≤n)(hn:n≤65536):DL m≤DL n:=by
 rw[(Mq E (by omega)).1,(Mq (by omega) hn).1];have:=yTc (m:=(max m 1).toNat - 1) (n:=(max n 1).toNat - 1) (by omega);omega
theorem sN{m n:Int}(hm:0≤m)(hn:0≤n)(E:m≤65536)(I:n≤65536):DL (max m n)=max (DL m) (DL n):=by
 rcases Int.le_total m n with h | h
 ·have:=uO hm h I;grind
 ·have:=uO hn h E;grind
def J8(a b:List Dig):Int:=DL (max (a.length:Int) (b.length:Int))
def Fl(a b:List Dig)(h lv i:Int):Bis:=LG h lv i (D3 a lv.toNat i) (D3 b lv.toNat i) (h - lv)
theorem rR(l:List Dig)(lv i:Int)(hl:(l.length:Int)≤65536)(E:0≤lv)(I:lv≤16)(hi:0≤i)(J:i<2 ^ (16 - lv).toNat):L3 l lv i=D3 l lv.toNat i:=by
 unfold L3;rw[if_pos (by unfold JK; exact decide_eq_true ⟨hl,E,I,hi,J⟩)]
theorem vq{p:Int}{l r:Dig}(hv:HH x=true)(I:p=0∨p=1)(hl:x.l≠0)(E:O5 x p=false)(J:Hl l r=Qq x p)(M:O5 x (1 - p)=false):FP x p l r=EI x p l r∧Gb x p l r=0:=by
 have U:¬ (x.l=0∨O5 x p=true):=by rw[E]; intro h; rcases h with h | h; exact hl h; cases h
 refine⟨?_,?_⟩
 ·unfold FP;grind
 ·unfold Gb;grind
theorem vN{p:Int}{l r:Dig}(hv:HH x=true)(I:p=0∨p=1)(hl:x.l≠0)(E:O5 x p=false)(J:Hl l r=Qq x p)(M:O5 x (1 - p)=true):FP x p l r=Ok (EI x p l r)∧Gb x p l r=0:=by
 have U:¬ (x.l=0∨O5 x p=true):=by rw[E]; intro h; rcases h with h | h; exact hl h; cases h
 refine⟨?_,?_⟩
 ·unfold FP;grind
 ·unfold Gb;grind
variable {h lv:Int}
theorem YZ(a b:List Dig)(E:0≤lv)(I:lv≤h)(J:h≤16)(M:0≤i)(U:i<2 ^ (h - lv).toNat):HH (Fl a b h lv i)=true:=
 Yjh (x:=Fl a b h lv i) (by show 0≤h; omega) J E I M U rfl
theorem uU(x:Bis)(p:Int)(l r:Dig):HH (EI x p l r)=HH x:=by
 unfold EI
 split <;> rfl
def No(a b:List Dig)(lv i:Int):Int:=if D3 a (lv - 1).toNat (2*i)=D3 b (lv - 1).toNat (2*i)then 2*i+1 else 2*i
theorem yRt(a b:List Dig)(E:1≤lv)(I:lv≤h)(J:0≤i)(M:i<2 ^ (h - lv).toNat):0≤No a b lv i∧No a b lv i<2 ^ (h - (lv - 1)).toNat:=by
 have e:(h - (lv - 1)).toNat=(h - lv).toNat+1:=by omega
 rw[e,CH];unfold No;omega
theorem UY(a b s:List Dig)(E:(s.length:Int)≤65536)(Y:1≤lv)(J:lv≤h)(M:h≤16)(U:0≤i)(V:i<2 ^ (h - lv).toNat) :
  F7 s (Fl a b h lv i)=0∧EY s (Fl a b h lv i)=D3 s (lv - 1).toNat (2*i)∧EX s (Fl a b h lv i)=D3 s (lv - 1).toNat (2*i+1):=by
 have hv:=YZ a b (by omega) J M U V
 have e:F7 s (Fl a b h lv i)=0:=by
  unfold F7;rw[if_pos hv,if_neg (by omega),if_neg (show ¬ (Fl a b h lv i).l=0 from fun e=>by have:lv=0:=e; omega)]
 have hp:=Ue (a:=(h - lv).toNat) (b:=(16 - lv).toNat) (by omega);have I:(16 - (lv - 1)).toNat=(16 - lv).toNat+1:=by omega
 refine⟨e,?_,?_⟩
 ·unfold EY;rw[if_pos e];exact rR s (lv - 1) (2*i) E (by omega) (by omega) (by omega) (by rw[I,CH]; omega)
 ·unfold EX;rw[if_pos e];exact rR s (lv - 1) (2*i+1) E (by omega) (by omega) (by omega) (by rw[I,CH]; omega)
theorem xO(s:List Dig)(I:1≤lv)(E:0≤i):Hl (D3 s (lv - 1).toNat (2*i)) (D3 s (lv - 1).toNat (2*i+1))=D3 s lv.toNat i:=by
 have e:lv.toNat=(lv - 1).toNat+1:=by omega
 rw[e,Uz _ _ _ E]
theorem rZ(a b:List Dig){p:Int}(hp:p=0∨p=1)(V:1≤lv)(h1:lv≤h)(h2:h≤16)(U:0≤i)(i1:i<2 ^ (h - lv).toNat) :
  let E:=if p=0 then a else b
  let J:=if p=0 then b else a
  let x:=Fl a b h lv i
  let y:=EI x p (D3 E (lv - 1).toNat (2*i)) (D3 E (lv - 1).toNat (2*i+1))
  (FP x p (D3 E (lv - 1).toNat (2*i)) (D3 E (lv - 1).toNat (2*i+1))=y∧Gb x p (D3 E (lv - 1).toNat (2*i)) (D3 E (lv - 1).toNat (2*i+1))=0)∧
  (FP y (1 - p) (D3 J (lv - 1).toNat (2*i)) (D3 J (lv - 1).toNat (2*i+1))=Fl a b h (lv - 1) (No a b lv i)∧Gb y (1 - p) (D3 J (lv - 1).toNat (2*i)) (D3 J (lv - 1).toNat (2*i+1))=0):=by
 have hv:=YZ a b (by omega) h1 h2 U i1;have Y:=xO a (lv:=lv) (i:=i) V U;have pb:=xO b (lv:=lv) (i:=i) V U;have hl:lv≠0:=by omega
 have M:h - lv+1=h - (lv - 1):=by omega
 rcases hp with rfl | rfl
 ·refine⟨vq hv (.inl rfl) hl rfl Y rfl,?_⟩;have I:HH (EI (Fl a b h lv i) 0 (D3 a (lv - 1).toNat (2*i)) (D3 a (lv - 1).toNat (2*i+1)))=true:=by rw[uU]; exact hv
  obtain⟨g1,g2⟩:=vN (x:=EI (Fl a b h lv i) 0 (D3 a (lv - 1).toNat (2*i)) (D3 a (lv - 1).toNat (2*i+1))) (p:=1 - 0) I (.inr rfl) hl rfl pb rfl;refine⟨g1.trans ?_,g2⟩
  show Ok {Fl a b h lv i with t0:=true,l0:=D3 a (lv - 1).toNat (2*i),r0:=D3 a (lv - 1).toNat (2*i+1),t1:=true,l1:=D3 b (lv - 1).toNat (2*i),r1:=D3 b (lv - 1).toNat (2*i+1)}=_
  unfold Ok No Fl LG;dsimp only
  by_cases he:D3 a (lv - 1).toNat (2*i)=D3 b (lv - 1).toNat (2*i)
  ·rw[if_pos he,if_pos he,M]; rfl
  ·rw[if_neg he,if_neg he,M]; rfl
 ·refine⟨vq hv (.inr rfl) hl rfl pb rfl,?_⟩;have I:HH (EI (Fl a b h lv i) 1 (D3 b (lv - 1).toNat (2*i)) (D3 b (lv - 1).toNat (2*i+1)))=true:=by rw[uU]; exact hv
  obtain⟨g1,g2⟩:=vN (x:=EI (Fl a b h lv i) 1 (D3 b (lv - 1).toNat (2*i)) (D3 b (lv - 1).toNat (2*i+1))) (p:=1 - 1) I (.inl rfl) hl rfl Y rfl;refine⟨g1.trans ?_,g2⟩
  show Ok {Fl a b h lv i with t0:=true,l0:=D3 a (lv - 1).toNat (2*i),r0:=D3 a (lv - 1).toNat (2*i+1),t1:=true,l1:=D3 b (lv - 1).toNat (2*i),r1:=D3 b (lv - 1).toNat (2*i+1)}=_
  unfold Ok No Fl LG;dsimp only
  by_cases he:D3 a (lv - 1).toNat (2*i)=D3 b (lv - 1).toNat (2*i)
  ·rw[if_pos he,if_pos he,M]; rfl
  ·rw[if_neg he,if_neg he,M]; rfl
def idxS(a b:List Dig)(h:Int):Nat→Int
 |0=>0
 |k+1=>No a b (h - k) (idxS a b h k)
theorem Qg(a b:List Dig)(h:Int):∀ k:Nat,(k:Int)≤h→0≤idxS a b h k∧idxS a b h k<2 ^ (h - (h - k)).toNat
 |0,_=>by
  have:(h - (h - ((0:Nat):Int))).toNat=0:=by omega
  rw[this]; exact⟨CB 0,by show(0:Int)<2 ^ 0; decide⟩
 |k+1,hk=>by
  have E:=Qg a b h k (by omega);have:=yRt a b (h:=h) (lv:=h - k) (i:=idxS a b h k) (by omega) (by omega) E.1 E.2;rw[show h - (h - (k:Int) - 1)=h - (h - ((k+1:Nat):Int)) by omega]at this;exact this
def D8(a b:List Dig)(h:Int)(k:Nat):Bis:=Fl a b h (h - k) (idxS a b h k)
theorem YBm(a b:List Dig)(h:Int)(k:Nat):(D8 a b h k).l=h - k:=rfl
theorem Ylj(a b:List Dig)(h:Int)(k:Nat):Fl a b h (h - k - 1) (No a b (h - k) (idxS a b h k))=D8 a b h (k+1):=by
 unfold D8;rw[show h - (k:Int) - 1=h - ((k+1:Nat):Int) by omega];rfl
variable {c:List Ins} {v:Int×List Int} {x:Cse} {m:Mv} {now:Int}
theorem QN(h:FZ c v x m now≠0):F9 c v x m now=Hr:=if_neg h
theorem Ud(h:FZ c v x m now=0):F9 c v x m now=(GW c v x m now).1:=if_pos h
theorem uc(h:¬ HF x):FZ c v x m now=400:=if_neg h
def FQ(m:Mv)(now:Int):Prop:=(1≤m.kd∧m.kd≤7)∧0≤now∧now≤1073741824∧(m.pt=0∨m.pt=1)
theorem Ymp(h:HF x)(E:¬ FQ m now):FZ c v x m now=1:=by
 unfold FZ; rw[if_pos h]; exact if_neg E
theorem ud(h:HF x)(E:FQ m now)(I:¬ now≤x.dl):FZ c v x m now=401:=by
 unfold FZ FQ at *; rw[if_pos h,if_pos E]; exact if_neg I
theorem YK(h:HF x)(E:FQ m now)(I:now≤x.dl):FZ c v x m now=(GW c v x m now).2:=by
 unfold FZ FQ at *; rw[if_pos h,if_pos E]; exact if_pos I
def YCn(x:Cse)(m:Mv):Prop:=((m.kd=1∨m.kd=6)∧(m.pt=0∨x.ph≠1))∨(m.kd=4∧m.pt=1)∨(m.kd=7∧(m.pt=1∨x.ph≠1))∨(m.kd=2∧x.ph≠2)∨(m.kd=3∧x.ph≠3)
theorem rk(h:HF x)(I:FQ m now)(J:now≤x.dl)(hn:YCn x m):FZ c v x m now=380:=by
 rw[YK h I J];unfold GW;rcases hn with⟨hk | hk,E⟩ | ⟨hk,E⟩ | ⟨hk,E⟩ | ⟨hk,E⟩ | ⟨hk,E⟩
 ·rw[if_pos hk]; unfold MX; rw[if_neg (by omega)]
 ·rw[if_neg (by omega),if_neg (by omega),if_neg (by omega),if_neg (by omega),if_neg (by omega),if_pos hk]; unfold Rr; rw[if_neg (by omega)]
 ·rw[if_neg (by omega),if_neg (by omega),if_neg (by omega),if_pos hk]; unfold Th; rw[if_neg (by omega)]
 ·rw[if_neg (by omega),if_neg (by omega),if_neg (by omega),if_neg (by omega),if_neg (by omega),if_neg (by omega)]; unfold Ji; rw[if_neg (by omega)]
 ·rw[if_neg (by omega),if_pos hk]; unfold Oe; rw[if_neg E]
 ·rw[if_neg (by omega),if_neg (by omega),if_pos hk]; unfold Oh FY; rw[if_neg (by simp[E])]
structure Keep (x y:Cse):Prop where
 key:y.key=x.key
 p0:y.p0=x.p0
 p1:y.p1=x.p1
 a0:y.a0=x.a0
 c0:y.c0=x.c0
 dl:y.ph≤3→x.dl≤y.dl
theorem Keep.refl(x:Cse):Keep x x:=⟨rfl,rfl,rfl,rfl,rfl,fun _=>CB _⟩
structure Live (x:Cse) (now:Int):Prop where
 ph:1≤x.ph∧x.ph≤6
 dl:x.ph≤3→x.dl≤now+1440
 wn:-1≤x.wn∧x.wn≤1
 bv:HH x.b=true
theorem Yz2(x:Cse)(n:Int):-1≤K3 x n∧K3 x n≤1:=by
 unfold K3; split
 ·omega
 ·omega
theorem yN4(E:Dig×Dig)(d:Dig):-1≤MK E d∧MK E d≤1:=by
 unfold MK; split
 ·omega
 ·omega
theorem fG(E:Dig×Dig)(r:Dig×Int):-1≤(HG E r).1∧(HG E r).1≤1:=by
 unfold HG; split
 ·exact yN4 ..
 ·simp
def Hd(st:St)(k:Nat)(p:Ply):Prop:=st[k]?=some ⟨false,1,Df p,false⟩
variable {p:Ply}
theorem Mn(h:Hd st k p):k<st.length:=(Ac.1 h).1
theorem Ypx{a b:List Ins}:Eh a=Eh b↔a=b:=by
 refine⟨fun h=>?_,fun h=>by rw[h]⟩;simp only[Eh,D.slc.injEq,and_true]at h;exact KL.1 h.2
theorem rm{q:Ply}(h:Df p=Df q)(M:p.j=Dw p.x.jn)(U:q.j=Dw q.x.jn):p=q:=by
 obtain⟨I,pj,pc,pv,pm,pn,V⟩:=p;obtain⟨qx,qj,qc,qv,qm,qn,Y⟩:=q;dsimp only at M U;simp only[Df,ED,Ml,Ak]at h;obtain⟨h1,h2⟩:=A5 h ((Ni I pj).trans (Ni qx qj).symm);simp only[Dg,Sg.cs,Ae,Aj,Ad,Aa,Ypx]at h2;obtain⟨rfl,h3⟩:=h2;obtain⟨h4,h5⟩:=A5 h3 ((Ii V).trans (Ii Y).symm);obtain⟨h6,h7⟩:=A5 h5 ((YS pm).trans (YS qm).symm);simp only[Aa,D.int.injEq,true_and,and_true]at h7;obtain rfl:=h7;obtain rfl:=gI.1 (congrArg D.agg h6);obtain rfl:=Kn.1 (congrArg D.agg h4);obtain⟨E,h9⟩:=iY h1;subst h9;have J:I.jn=qx.jn:=dw.1 (M.symm.trans U)
 have:I=qx:=by
  obtain⟨xk,x0,x1,x2,x3,x4,x5,xc,xe,xb,x6,x7,x8,xj⟩:=I;obtain⟨yk,y0,y1,y2,y3,y4,y5,yc,ye,yb,y6,y7,y8,yj⟩:=qx;simp only[Cse.mk.injEq,and_true]at E J ⊢;exact⟨E.1,E.2.1,E.2.2.1,E.2.2.2.1,E.2.2.2.2.1,E.2.2.2.2.2.1,E.2.2.2.2.2.2.1,E.2.2.2.2.2.2.2.1,E.2.2.2.2.2.2.2.2.1,E.2.2.2.2.2.2.2.2.2.1,E.2.2.2.2.2.2.2.2.2.2.1,E.2.2.2.2.2.2.2.2.2.2.2.1,E.2.2.2.2.2.2.2.2.2.2.2.2,J⟩
 subst this;rfl
section
variable {α:Type} (enc:α→List D) (pre:Ply→α→Prop) (F:Ply→α→Cse×Int×St)
def Kx(ds:List D)(st:St)(r:D×Int×St):Prop:=∃ (k:Nat) (p:Ply) (a:α),p.j=Dw p.x.jn∧Hd st k p∧pre p a∧ds=.ptr k 0::enc a∧r=(.tup [],(F p a).2.1,DG st k (Df {p with x:=(F p a).1})++(F p a).2.2)
variable {enc pre F}
theorem OS(hi:∀ a b,enc a=enc b→a=b):JG (Kx enc pre F):=by
 rintro ds st r J ⟨k,p,a,hj,hk,_,rfl,rfl⟩ ⟨k',p',M,I,E,_,h,rfl⟩;simp only[Aa,D.ptr.injEq,and_true]at h;obtain⟨rfl,h⟩:=h;obtain rfl:=hi _ _ h;unfold Hd at hk E;rw[hk]at E;simp only[AN,PI.Obj.mk.injEq,true_and,and_true]at E;obtain rfl:=rm E hj I;rfl
theorem Sf(hi:∀ a b,enc a=enc b→a=b){a:α}(hj:p.j=Dw p.x.jn)(hk:Hd st k p)(E:pre p a)(I:(F p a).2.1=0) :
  EV (Kx enc pre F) (.ptr k 0::enc a) st=some (.tup [],DG st k (Df {p with x:=(F p a).1})++(F p a).2.2):=
 Vf (OS hi) ⟨k,p,a,hj,hk,E,rfl,by rw[I]⟩
theorem Yvw(hi:∀ a b,enc a=enc b→a=b){a:α}(hj:p.j=Dw p.x.jn)(hk:Hd st k p)(E:pre p a)(I:(F p a).2.1≠0) :
  EV (Kx enc pre F) (.ptr k 0::enc a) st=none:=Ve (OS hi) ⟨k,p,a,hj,hk,E,rfl,rfl⟩ I
theorem YCx(hi:∀ a b,enc a=enc b→a=b){a:α}(hj:p.j=Dw p.x.jn)(hk:Hd st k p)(E:pre p a)(I:(F p a).2.1≠0) :
  G2 (Kx enc pre F) (.ptr k 0::enc a) st=some (125,.int .i64 (F p a).2.1,DG st k (Df {p with x:=(F p a).1})++(F p a).2.2):=
 VD (OS hi) ⟨k,p,a,hj,hk,E,rfl,rfl⟩ I
end
theorem J2(h:Hd st k p)(l:St):Hd (st++l) k p:=by
 unfold Hd; rw[Ir (Mn h)]; exact h
theorem Q2(h:k<st.length)(p:Ply):Hd (DG st k (Df p)) k p:=Nc h _
theorem P9(h:Hd st k p):DG st k (Df p)=st:=by
 unfold Hd at h;obtain⟨I,E⟩:=Ac.1 h;unfold DG;rw[← E,List.set_getElem_self]
def Jr:Unit→List D:=fun _=>[]
def Ia:Int→List D:=fun n=>[.int .i64 n]
def LD:Int×Int→List D:=fun a=>[.int .i64 a.1,.int .i64 a.2]
theorem Nf:∀ a b,Jr a=Jr b→a=b:=fun _ _ _=>rfl
theorem jb:∀ a b,Ia a=Ia b→a=b:=fun a b h=>by simpa[Ia]using h
theorem qN:∀ a b,LD a=LD b→a=b:=fun a b h=>by
 simp only[LD,Aa,D.int.injEq,true_and,and_true]at h;exact Prod.ext h.1 h.2
def Pn(p:Ply)(a:Int×Int):Cse×Int×St:=(JJ p.x a.1 a.2,0,[])
abbrev NO:=Kx LD (fun _ _=>True) Pn
theorem iW:CK 125 NO:=by
 refine Lo (T:=tb [] []) oR (DJ all_nil all_nil) ?_;rintro ds st d e st' ⟨k,p,⟨w,a⟩,hj,hk,_,rfl,h⟩;simp only[AD]at h;obtain⟨rfl,rfl,rfl⟩:=h;have E:=Mn hk;unfold Hd at hk;unfold gb;simp (disch:=first|omega|decide) only[push_cast,↓reduceIte,CI,LD,Pn,JJ,DO,hk,Vi,xZ,YBd,Jq,Nc E,Mo,Ad,and_true]
noncomputable abbrev nk:Tbl:=tb [] [(125,EV NO)]
theorem eU(hj:p.j=Dw p.x.jn)(hk:Hd st k p)(w a:Int):EV NO [.ptr k 0,.int .i64 w,.int .i64 a] st=some (.tup [],DG st k (Df {p with x:=JJ p.x w a})):=by
 have:=Sf (F:=Pn) (pre:=fun _ _=>True) qN (a:=(w,a)) hj hk trivial rfl;rw[show(Pn p (w,a)).2.2=[]from rfl,Ad]at this;exact this
def Mw(p:Ply)(a:Int):Cse×Int×St:=(FG p.x a,0,[])
abbrev MG:=Kx Ia (fun _ a=>a≤1) Mw
theorem cG:CK 79 MG:=by
 refine Lo (T:=nk) oJ (DJ all_nil (all_cons iW.1 all_nil)) ?_;rintro ds st d e st' ⟨k,p,a,hj,hk,ha,rfl,h⟩;simp only[AD]at h;obtain⟨rfl,rfl,rfl⟩:=h;have M:=Mn hk;have E:=fun w a=>eU hj hk w a;unfold Hd at hk;unfold fZ
 by_cases I:a<0
 ·simp (disch:=first|omega|decide) only[push_cast,↓reduceIte,CI,CO,Ia,Mw,FG,I,E,Ad,and_true]
 ·have J:a=0∨a=1:=by omega
  rcases J with rfl | rfl
  ·have e:FG p.x 0=JJ p.x 0 p.x.a0:=by unfold FG Oc; rw[if_neg (by omega),if_pos rfl]
   simp (disch:=first|omega|decide) only[push_cast,↓reduceIte,CI,CN,CO,Ia,Mw,e,I,DO,hk,EH,bw,E,Ad,and_true]
  ·have e:FG p.x 1=JJ p.x 1 p.x.a1:=by unfold FG Oc; rw[if_neg (by omega),if_neg (by omega)]
   simp (disch:=first|omega|decide) only[push_cast,↓reduceIte,CI,CJ,CN,CO,Ia,Mw,e,I,DO,hk,EH,bA,E,Ad,and_true]
theorem Un(hj:p.j=Dw p.x.jn)(hk:Hd st k p){a:Int}(E:a≤1):EV MG [.ptr k 0,.int .i64 a] st=some (.tup [],DG st k (Df {p with x:=FG p.x a})):=by
 have:=Sf (F:=Mw) (pre:=fun _ a=>a≤1) jb (a:=a) hj hk E rfl;rw[show(Mw p a).2.2=[]from rfl,Ad]at this;exact this
theorem YDz(hk:st[k]?=some ⟨false,1,Df p,false⟩):DX st (.bsl k 9 2 1 false)=some (.slc 1 [.int .i64 p.x.a0,.int .i64 p.x.a1] false):=by
 have E:LN st k 9 2 1 false=some [.int .i64 p.x.a0,.int .i64 p.x.a1]:=by
  unfold LN;rw[hk];dsimp only;rw[yRf,if_pos (by decide)];rfl
 simp only[DX,DC,IB,E];rfl
def Pj(p:Ply)(n:Int):Cse×Int×St:=(Rv p.x n,0,[])
abbrev Pt:=Kx Ia (fun _ _=>True) Pj
theorem pP:CK 120 Pt:=by
 refine Lo (T:=tb [(160,bT)] [(125,EV NO)]) yuy (DJ (all_cons XM all_nil) (all_cons iW.1 all_nil)) ?_;rintro ds st d e st' ⟨k,p,a,hj,hk,ha,rfl,h⟩;simp only[AD]at h;obtain⟨rfl,rfl,rfl⟩:=h;have E:=fun w a=>eU hj hk w a
 have ci:bT [.slc 1 [.int .i64 p.x.a0,.int .i64 p.x.a1] false,.int .i64 a]=some (.int .i64 (K3 p.x a)):=by
  have:=Yp5 [p.x.a0,p.x.a1] a (by simp);rw[Ywx]at this;exact this
 unfold Hd at hk;have hi:=YDz hk;have I:PR 2 1 false (.ptr k 9) none none=some (.bsl k 9 2 1 false):=rfl;have DE:keys (.bsl k 9 2 1 false)=[k]:=rfl;unfold oB;simp (disch:=first|omega|decide) only[push_cast,↓reduceIte,CI,Ia,Pj,Rv,DO,I,hi,ci,E,Ad,and_true]
theorem eV(hj:p.j=Dw p.x.jn)(hk:Hd st k p)(a:Int):EV Pt [.ptr k 0,.int .i64 a] st=some (.tup [],DG st k (Df {p with x:=Rv p.x a})):=by
 have:=Sf (F:=Pj) (pre:=fun _ _=>True) jb (a:=a) hj hk trivial rfl;rw[show(Pj p a).2.2=[]from rfl,Ad]at this;exact this
def Nq(p:Ply):Prop:=0≤p.now∧p.now≤1073741824
def Pk(p:Ply)(_:Unit):Cse×Int×St:=({p.x with dl:=p.now+1440},0,[])
abbrev K7:=Kx Jr (fun p _=>Nq p) Pk
theorem Yy:CK 118 K7:=by
 refine Lo (T:=tb [] []) yt9 (DJ all_nil all_nil) ?_;rintro ds st d e st' ⟨k,p,a,hj,hk,ha,rfl,h⟩;simp only[AD]at h;obtain⟨rfl,rfl,rfl⟩:=h;obtain⟨n1,I⟩:=ha;have E:=Mn hk;unfold Hd at hk;unfold oM;simp (disch:=first|omega|decide) only[push_cast,↓reduceIte,CI,Jr,Pk,DO,hk,Yv6,DM,YBb,Jq,Ad,and_true]
theorem Zn(hj:p.j=Dw p.x.jn)(hk:Hd st k p)(hn:Nq p):EV K7 [.ptr k 0] st=some (.tup [],DG st k (Df {p with x:={p.x with dl:=p.now+1440}})):=by
 have:=Sf (F:=Pk) (pre:=fun p _=>Nq p) Nf (a:=()) hj hk hn rfl;rw[show(Pk p ()).2.2=[]from rfl,Ad]at this;exact this
def Pb(p:Ply)(_:Unit):Cse×Int×St:=(Ll p.x p.now,0,[])
abbrev Pr:=Kx Jr (fun p _=>Nq p) Pb
theorem yY:CK 121 Pr:=by
 refine Lo (T:=tb [] [(118,EV K7)]) ywa (DJ all_nil (all_cons Yy.1 all_nil)) ?_;rintro ds st d e st' ⟨k,p,a,hj,hk,ha,rfl,h⟩;simp only[AD]at h;obtain⟨rfl,rfl,rfl⟩:=h;have E:=Mn hk;have ce:=Zn (st:=DG st k (Df {p with x:={p.x with ph:=3}})) (k:=k) (p:={p with x:={p.x with ph:=3}}) hj (Q2 E _) ha;unfold Hd at hk;unfold om;simp (disch:=first|omega|decide) only[push_cast,↓reduceIte,CI,Jr,Pb,Ll,DO,hk,Vi,Jq,ce,Mo,Ad,and_true]
theorem pN(hj:p.j=Dw p.x.jn)(hk:Hd st k p)(hn:Nq p):EV Pr [.ptr k 0] st=some (.tup [],DG st k (Df {p with x:=Ll p.x p.now})):=by
 have:=Sf (F:=Pb) (pre:=fun p _=>Nq p) Nf (a:=()) hj hk hn rfl;rw[show(Pb p ()).2.2=[]from rfl,Ad]at this;exact this
end Go.Proofs.YtijnglngaogdjaaGreatDoor.PI
