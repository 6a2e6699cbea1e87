/-
  court: the methods of a move under way.
  Conditions: none; these are lemmas.
-/
import Derived.Test.YtijnglngaogdjaaGreatDoorArQ
import Derived.Test.YtijnglngaogdjaaGreatDoorArE
import Derived.Test.YtijnglngaogdjaaGreatDoorEngHe
import Derived.Test.YtijnglngaogdjaaGreatDoorSha
open Int renaming reduceAdd→CZ,reduceLT→CT,reduceMul→C4,reduceNatCast'→CL,reduceNeg→CN,reducePow→C0,reduceSub→C3,reduceToNat→CU
open List renaming replicate→CQ
open Nat renaming reduceAdd→CJ,reduceBEq→CV,reduceEqDiff→CI,reduceLT→CO,reduceLeDiff→CM,reduceMul→CP
open Prod renaming fst→C5,snd→C6
namespace Go.Proofs.YtijnglngaogdjaaGreatDoor.PI
open Go
set_option linter.unusedSimpArgs false
set_option maxHeartbeats 8000000
set_option maxRecDepth 20000
set_option linter.unusedVariables false
theorem R5(d:Der):DG (Fk d)=some (Dr (Ef d.code) d.env d.am d.er (HK d.lv)):=by
 rw[show DG (Fk d)=if(Dr (Ef d.code) d.env d.am d.er (HK d.lv)).all D.isCell then some (Dr (Ef d.code) d.env d.am d.er (HK d.lv))else none from rfl,if_pos (sO _ rfl rfl _ _)]
def ER(c:List Ins)(v:Int×List Int)(n:Int):Sta×Int:=if(E9 c).2=0 then(if n<0 then(FO,1)else match(Hz c v)[n.toNat]? with
 |some s=>(s,0)
 |none=>(FO,1))else(FO,(E9 c).2)
def LD:List D:=[.int .i64 0,.int .i64 0,.int .i64 0,.int .i64 0,.slc 0 [] true]
theorem yI:DG (.agg [.int .i64 0,.int .i64 0,.int .i64 0,.int .i64 0,.slc 0 [] true])=some LD:=(rfl)
theorem YBh(s:Sta):DR (some ⟨false,1,LD,false⟩) 5 0 (DQ s)=some ⟨false,1,DW s,false⟩:=(rfl)
theorem Ybw:DR (some ⟨false,1,LD,false⟩) 5 0 (.agg [.int .i64 0,.int .i64 0,.int .i64 0,.int .i64 0,.slc 0 [] true])=some ⟨false,1,LD,false⟩:=(rfl)
theorem yu(lent:Bool):DA (some ⟨false,1,LD,lent⟩) 5 true 0=some (.agg [.int .i64 0,.int .i64 0,.int .i64 0,.int .i64 0,.slc 0 [] true]):=(rfl)
def Kv(d:Der)(n:Int)(r:List D)(e:Int)(s:Sta)(k:Int)(ex:St):St:=
 ⟨false,1,Dr (Ef d.code) d.env d.am d.er (HK d.lv),false⟩::⟨false,1,[.int .i64 n],false⟩::⟨false,1,r,false⟩::⟨false,1,[.int .i64 e],false⟩::⟨false,1,[Ef d.code],false⟩::⟨false,1,DY d.env,false⟩::recO k::⟨false,1,DW s,false⟩::ex
noncomputable def MQ:Tbl:=TB [(47,Se)] [(60,Tp)] [(114,Ry)]
theorem YB6(d:Der)(n:Int)(s:Sta)(r:List D)(e:Int)(E:St)(i:Nat)(hi:¬ (i:Int)=n)(fr:Frame)(I:fr 3=.ptr 1 0)(J:fr 4=.ptr 2 0)(M:fr 5=.ptr 3 0)(m:Nat) :
  K6 (SW.exec GG MQ m) (SX.exec GG MQ m) fr [25,26] 6 [.int .i64 (i:Int),DQ s] (Kv d n r e s 0 E)=some (.bool true,Kv d n r e s 0 (E++[HB s])):=by
 refine dw rfl rfl rfl ?_ m;unfold SW Kv;simp (disch:=first|omega|decide) only[push_cast,↓reduceIte,CI,JH,H3,J2,Fc,Sd];unfold SX;simp (disch:=first|omega|decide) only[push_cast,↓reduceIte,CI,I,du,br,U7,MQ,hi];rfl
theorem YB5(d:Der)(s:Sta)(E:St)(i:Nat)(fr:Frame)(I:fr 3=.ptr 1 0)(J:fr 4=.ptr 2 0)(M:fr 5=.ptr 3 0)(m:Nat) :
  K6 (SW.exec GG MQ m) (SX.exec GG MQ m) fr [25,26] 6 [.int .i64 (i:Int),DQ s] (Kv d (i:Int) LD 0 s 0 E)=some (.bool false,Kv d (i:Int) (DW s) 0 s 1 (E++[HB s])):=by
 refine dw rfl rfl rfl ?_ m;unfold SW Kv;simp (disch:=first|omega|decide) only[push_cast,↓reduceIte,CI,JH,H3,J2,Fc,Sd];unfold SX;simp (disch:=first|omega|decide) only[push_cast,↓reduceIte,CI,I,J,M,du,br,U7,MQ,Fc,IB,YBh];rfl
def KP(d:Der)(n:Int)(l:List Sta)(i:Nat)(ex:St):St:=match l with
 |[]=>[]
 |s::l=>if(i:Int)=n then Kv d n (DW s) 0 s 1 (ex++[HB s])else match l with
  |[]=>Kv d n LD 0 s 0 (ex++[HB s])
  |s'::l=>KP d n (s'::l) (i+1) (ex++[HB s])
theorem gL(d:Der)(hv:Ew d.env)(n:Int)(fr:Frame)(E:fr 3=.ptr 1 0)(I:fr 4=.ptr 2 0)(J:fr 5=.ptr 3 0)(m:Nat):∀ (l:List Sta) (s:Sta) (i:Nat) (ex:St),
  RunY (K6 (SW.exec GG MQ m) (SX.exec GG MQ m) fr [25,26] 6) 7 4 5 (s::l) i (Kv d n LD 0 s 0 ex) (KP d n (s::l) i ex)
 |l,s,i,ex=>by
  by_cases hi:(i:Int)=n
  ·subst hi;rw[show KP d (i:Int) (s::l) i ex=Kv d (i:Int) (DW s) 0 s 1 (ex++[HB s]) by unfold KP; rw[if_pos rfl]];exact .stop (YB5 d s ex i fr E I J m)
  ·match l with
   |[]=>
    rw[show KP d n [s] i ex=Kv d n LD 0 s 0 (ex++[HB s]) by unfold KP; rw[if_neg hi]];exact .last (YB6 d n s LD 0 ex i hi fr E I J m) rfl
   |s'::l=>
    rw[show KP d n (s::s'::l) i ex=KP d n (s'::l) (i+1) (ex++[HB s]) by rw[KP,if_neg hi]];exact .next (YB6 d n s LD 0 ex i hi fr E I J m) rfl rfl rfl (gL d hv n fr E I J m l s' (i+1) (ex++[HB s]))
theorem sg(d:Der)(n:Int):∀ (l:List Sta) (s:Sta) (i:Nat) (ex:St),(∃ k s',n=(i:Int)+(k:Nat)∧(s::l)[k]?=some s'∧∃ E,KP d n (s::l) i ex=Kv d n (DW s') 0 s' 1 E)∨
  ((n<i∨(i:Int)+((s::l).length:Nat)≤n)∧∃ s' E,KP d n (s::l) i ex=Kv d n LD 0 s' 0 E)
 |l,s,i,ex=>by
  by_cases hi:(i:Int)=n
  ·exact .inl ⟨0,s,by omega,rfl,ex++[HB s],by unfold KP; rw[if_pos hi]⟩
  ·match l with
   |[]=>exact .inr ⟨by simp; omega,s,ex++[HB s],by unfold KP; rw[if_neg hi]⟩
   |s'::l=>
    rw[show KP d n (s::s'::l) i ex=KP d n (s'::l) (i+1) (ex++[HB s]) by rw[KP,if_neg hi]];rcases sg d n l s' (i+1) (ex++[HB s])with⟨k,x,J,I,M⟩ | ⟨J,I⟩
    ·exact .inl ⟨k+1,x,by omega,by simpa using I,M⟩
    ·exact .inr ⟨by simp only[An]at J ⊢; omega,I⟩
noncomputable def jy:List D→Option D:=Dl (α:=Der×Int) (fun a=>[Fk a.1,.int .i64 a.2]) (fun a=>a.1.code.length≤9223372036854775807∧Ew a.1.env) (fun a=>.tup [DQ (ER a.1.code a.1.env a.2).1,.int .i64 (ER a.1.code a.1.env a.2).2])
theorem Yaf(d:Der)(n:Int)(h:d.code.length≤9223372036854775807∧Ew d.env):jy [Fk d,.int .i64 n]=some (.tup [DQ (ER d.code d.env n).1,.int .i64 (ER d.code d.env n).2]):=
 D5 (fun⟨a0,a1⟩ ⟨b0,b1⟩ h=>by simp only[Aa,D.int.injEq,true_and,and_true,qJ]at h; simp[h]) (d,n) h
theorem Ys7(d:Der)(n:Int)(h:d.code.length≤9223372036854775807∧Ew d.env):@wW GG MQ ZR.code (Dc [Fk d,.int .i64 n]) [] ⟨Dp ZR.res (.tup [DQ (ER d.code d.env n).1,.int .i64 (ER d.code d.env n).2])⟩:=by
 obtain⟨hc,hv⟩:=h;have U:=Yo d.code hc;have cs:=pP d.code d.env [⟨false,1,Dr (Ef d.code) d.env d.am d.er (HK d.lv),false⟩,⟨false,1,[.int .i64 n],false⟩,⟨false,1,LD,false⟩,⟨false,1,[.int .i64 0],false⟩] hv;have l0:∀ lent,DA (some ⟨false,1,Dr (Ef d.code) d.env d.am d.er (HK d.lv),lent⟩) 1 false 0=some (.slc (nz 3 (d.code.map Da)) (d.code.map Da) false):=fun lent=>Ywb d.env lent (Ef d.code) (HK d.lv) d.am d.er;have l1:=fun lent=>Ywa hv lent (Ef d.code) (HK d.lv) d.am d.er;rw[show Tp [Ef d.code,ED d.env]=Tp [.slc (nz 3 (d.code.map Da)) (d.code.map Da) false,ED d.env]from rfl]at cs;unfold ZR
 by_cases E:(E9 d.code).2=0
 ·obtain⟨Dm,l,hD,Y,V,ab,hg⟩:=P1 (v:=d.env) E;obtain⟨J,_⟩:=M3 E;simp (disch:=first|omega|decide) only[push_cast,↓reduceIte,CI,CJ,MQ,R5,yI,U,E,l0,l1,cs]
  have M:∀ x,ER d.code d.env n=x↔(if n<0 then(FO,1)else match(Ge ((d.code.length:Int)+1)::l)[n.toNat]? with
   |some s=>(s,(0:Int))
   |none=>(FO,1))=x:=fun x=>by unfold ER; rw[if_pos E,Y]
  rcases sg d n l (Ge ((d.code.length:Int)+1)) 0 []with⟨k,s',hn,hk,I,he⟩ | ⟨hn,s',I,he⟩
  ·refine gg (e:=.ret) (st':=Kv d n (DW s') 0 s' 1 I) (d:=.tup []) (by simp only[push_cast,↓reduceIte] <;> rfl) (by decide) (by rfl) (fun m=>?_) rfl ?_
   ·refine ir ⟨4,5,d.code,d.env,l,false,false,rfl,rfl,rfl,J,hv,by omega,V,rfl,?_⟩;rw[← he];exact gL d hv n _ rfl rfl rfl m l _ 0 []
   ·rw[(M (s',0)).2 (by rw[if_neg (by omega),show n.toNat=k by omega,hk])];unfold Kv;simp (disch:=first|omega|decide) only[push_cast,↓reduceIte,CI,CJ,IB,Kk]
  ·refine gg (e:=.next) (st':=Kv d n LD 0 s' 0 I) (d:=.tup []) (by simp only[push_cast,↓reduceIte] <;> rfl) (by decide) (by rfl) (fun m=>?_) rfl ?_
   ·refine ir ⟨4,5,d.code,d.env,l,false,false,rfl,rfl,rfl,J,hv,by omega,V,rfl,?_⟩;rw[← he];exact gL d hv n _ rfl rfl rfl m l _ 0 []
   ·have e1:ER d.code d.env n=(FO,1):=(M _).2 (by
     split
     ·rfl
     ·rw[Bd (by omega)])
    rw[e1];unfold Kv;simp (disch:=first|omega|decide) only[push_cast,↓reduceIte,CI,CJ,Vq,Ybw,yu];rfl
 ·rw[show ER d.code d.env n=(FO,(E9 d.code).2)from if_neg E];simp (disch:=first|omega|decide) only[push_cast,↓reduceIte,CI,CJ,MQ,R5,yI,U,E,l0,Vq,Ybw,yu];rfl
theorem Yyt:Contract Tryz.prog GG 39 jy:=
 Ed (T:=MQ) yB6 (xX (all_cons aT all_nil) (all_cons xz all_nil) (all_cons xB all_nil)) (fun a h=>Ys7 a.1 a.2 h)
theorem Ft(S l:St)(k:Nat):(S++l)[S.length+k]?=l[k]?:=by
 rw[AM (by omega)]; congr 1; omega
theorem GZ(S l:St):(S++l)[S.length]?=l[0]?:=Ft S l 0
theorem FA(S l:St)(k:Nat)(x:PI.Obj):(S++l).set (S.length+k) x=S++l.set k x:=by
 rw[Ce _ _ (by omega)]; congr 2; omega
theorem G9(S l:St)(x:PI.Obj):(S++l).set S.length x=S++l.set 0 x:=FA S l 0 x
theorem M1(fr:Frame)(st:St)(t n:Nat)(ag:Bool)(l:List PRes):D8 ⟨fr,st⟩ (.cell t n ag::l)=(Fy st n ag (fr t)).bind fun d=>(D8 ⟨fr,st⟩ l).map (d::·):=by
 simp only[D8];cases Fy st n ag (fr t) <;> cases D8 ⟨fr,st⟩ l <;> rfl
def Ix(p:Dig×Dig):D:=.agg (C8 p.1++C8 p.2)
theorem gi{a b:Dig×Dig}:Ix a=Ix b↔a=b:=by
 refine⟨fun h=>?_,fun h=>by rw[h]⟩;obtain⟨a1,J⟩:=a;obtain⟨b1,M⟩:=b;simp only[Ix,D.agg.injEq]at h;obtain⟨E,I⟩:=A3 h (by rw[D1,D1]);rw[L3.1 E,L3.1 I]
theorem Yyi(p:Dig×Dig):(C8 p.1++C8 p.2).all D.isCell=true:=by
 rw[Bl,KW (fun _=>rfl),KW (fun _=>rfl)]; rfl
theorem Yhy(p:Dig×Dig):(C8 p.1++C8 p.2).length=64:=by simp[D1]
theorem mu(p:Dig×Dig):DG (Ix p)=some (C8 p.1++C8 p.2):=by
 rw[show DG (Ix p)=if(C8 p.1++C8 p.2).all D.isCell then some (C8 p.1++C8 p.2)else none from rfl,if_pos (Yyi p)]
theorem lS(lent:Bool)(p:Dig×Dig):DA (some ⟨false,1,C8 p.1++C8 p.2,lent⟩) 64 true 0=some (Ix p):=Lz 1 lent _ 64 (Yhy p)
theorem lC(p:Dig×Dig):Qo 2 32 true (Ix p) (.int .i64 0)=some (C9 p.1):=
 pZ (A:=[]) (B:=C8 p.1) (C:=C8 p.2) rfl rfl (D1 _)
theorem lz(p:Dig×Dig):Qo 2 32 true (Ix p) (.int .i64 1)=some (C9 p.2):=
 pZ (A:=C8 p.1) (B:=C8 p.2) (C:=[]) (by rw[Ai]) (D1 _) (D1 _)
theorem pV(p:Dig×Dig):I0 (Ix p)=true:=by
 simp only[Ix,I0,Bl];rw[show(C8 p.1).all Ep=true from Q8 _,show(C8 p.2).all Ep=true from Q8 _]; rfl
theorem lQ(p:Dig×Dig):hk (Ix p)=[]:=TY (pV p)
theorem mU(n:Nat)(σ:List Nat)(p:Dig×Dig):Eu n σ (Ix p)=Ix p:=QV n σ (pV p)
def Ff(p:Int×Dig):D:=.agg (.int .i64 p.1::C8 p.2)
def Mw(cl:Dig×Dig)(d:Dig):Int:=if cl.1=d then 0 else if cl.2=d then 1 else -1
def Hy(cl:Dig×Dig)(r:Dig×Int):Int×Dig:=if r.2=0 then(Mw cl r.1,r.1)else(0,Dt)
def FE(cl:Dig×Dig):PI.Obj:=⟨false,1,C8 cl.1++C8 cl.2,false⟩
def Fl(p:Int×Dig):PI.Obj:=⟨false,1,.int .i64 p.1::C8 p.2,false⟩
def xG(f:Nat)(sp:List D→St→Option (D×St))(ds:List D)(st:St)(r:D×St):Prop:=∃ (cl:Dig×Dig) (caps:List D) (d:Dig) (e:Int),StOK st∧ds=[Ix cl,.clo f caps]∧
 sp caps (st++[FE cl,Fl (0,Dt)])=some (.tup [C9 d,.int .i64 e],st++[FE cl,Fl (0,Dt)])∧r=(.tup [Ff (Hy cl (d,e)),.int .i64 e],st)
theorem ti(f:Nat)(sp:List D→St→Option (D×St)):Ih (xG f sp):=by
 rintro ds st r V ⟨cl,J,d,e,_,rfl,M,rfl⟩ ⟨U,I,Y,e',_,h,E,rfl⟩;simp only[Aa,D.clo.injEq,and_true,true_and,gi]at h;obtain⟨rfl,rfl⟩:=h;rw[M]at E;simp only[Db,Dx,D.tup.injEq,Aa,La,D.int.injEq,true_and,and_true]at E;obtain⟨rfl,rfl⟩:=E;rfl
noncomputable def SB(f:Nat)(sp:List D→St→Option (D×St)):List D→St→Option (D×St):=FB (xG f sp)
theorem Uq{S:St}(h:StOK S)(l:St)(hl:∀ o∈l,o.els.all Ep=true):StOK (S++l):=
 h.app _ fun o E _ x I=>QV _ _ (ZB (Ag.1 (hl o E) x I))
theorem Le(d:Dig):(C8 d).all Ep=true:=Q8 d
theorem SM(E:Dig×Dig):(FE E).els.all Ep=true:=by
 simp only[FE,Bl,Le]; rfl
theorem Uu(p:Int×Dig):(Fl p).els.all Ep=true:=by
 simp only[Fl,AY,Le]; rfl
theorem M9{S l:St}(h:StOK S):cut S.length (S++l)=S:=xA h rfl
theorem Yni(n:Nat)(a:Int)(d:Dig)(e:Int):H9 n (.tup [.agg (.int .i64 a::C8 d),.int .i64 e])=.tup [.agg (.int .i64 a::C8 d),.int .i64 e]:=by
 have h:HD n (.agg (.int .i64 a::C8 d))=.agg (.int .i64 a::C8 d):=by
  rw[← hX]; exact QV n [] (d:=.agg (.int .i64 a::C8 d)) (by simp only[I0,AY,Le]; rfl)
 simp only[H9,Aw,Bj,h];rfl
theorem Tw(p:Int×Dig)(a:Int)(d:Dig):DR (some (Fl p)) 33 0 (.agg (.int .i64 a::C8 d))=some (Fl (a,d)):=
 Lx 1 _ _ 33 (by simp[D1]) (by simp[D1]) (by rw[AY,KW (fun _=>rfl)]; rfl)
theorem Tf(p:Int×Dig):DA (some (Fl p)) 33 true 0=some (Ff p):=Lz 1 false _ 33 (by simp[D1])
theorem YC9(E:Dig×Dig):DA (some (FE E)) 64 true 0=some (Ix E):=lS false E
theorem iF(a:Int)(d:Dig):DL (.int .i64 0::C8 Dt) [(0,1,.int .i64 a),(1,32,C9 d)]=some (.int .i64 a::C8 d):=by
 refine(I4 (cs:=.int .i64 0::C8 Dt) (cs':=.int .i64 a::C8 Dt) (A:=[]) (B:=[.int .i64 0]) (xs:=[.int .i64 a]) rfl rfl rfl rfl rfl rfl rfl).trans ?_;refine(I4 (cs:=.int .i64 a::C8 Dt) (cs':=.int .i64 a::C8 d) (A:=[.int .i64 a]) (B:=C8 Dt) (C:=[]) (xs:=C8 d) (by simp) (by simp) rfl (D1 _) rfl (D1 _) (KW (fun _=>rfl) d)).trans ?_;rfl
theorem cO(n:Nat)(p:Int×Dig)(e:Int):H9 n (.tup [Ff p,.int .i64 e])=.tup [Ff p,.int .i64 e]:=Yni n p.1 p.2 e
set_option maxHeartbeats 4000000 in
set_option maxRecDepth 20000 in
theorem pT(f:Nat)(hf:f<5000000)(sp:List D→St→Option (D×St))(hc:IContract Tryz.prog GG f sp):IContract Tryz.prog GG 45 (SB f sp):=by
 refine Zx (T:=tb [] [(f,sp)]) yAi (DI all_nil (all_cons hc all_nil)) ?_;intro ds st r hr;obtain⟨cl,I,d,e,E,rfl,h2,rfl⟩:=Jd hr;unfold nR;have hT:(tb [] [(f,sp)]).i f=some sp:=by rw[V2,tr,if_pos rfl]
 have ab:JQ (tb [] [(f,sp)]) (.clo f I)=some (sp,[],I):=by rw[zc _ _ _ hf,hT]; rfl
 have hz:(.int .i64 0::C8 Dt:List D)=(.int .i64 0::C8 Dt:List D):=rfl;simp (disch:=first|omega|decide) only[push_cast,↓reduceIte,CI,CN,mu,ab,Ap,Ak,Ao];rw[show st++[⟨false,1,C8 cl.1++C8 cl.2,false⟩,⟨false,1,.int .i64 0::C8 Dt,false⟩]=st++[FE cl,Fl (0,Dt)]from rfl,h2];simp (disch:=first|omega|decide) only[push_cast,↓reduceIte,CI,CJ,CN,Ap,Ak,Ao,Ad,An,As,Aq,CJ,Ft,FA]
 by_cases he:e=0
 ·subst he
  have ac:StOK (st++[FE cl,Fl (0,Dt),⟨false,1,C8 d,false⟩]):=Uq E _ (fun o ho=>by
   simp only[Av,AB,or_false]at ho;rcases ho with rfl | rfl | rfl
   ·exact SM cl
   ·exact Uu _
   ·exact Le d)
  have J:(st++[FE cl,Fl (0,Dt),⟨false,1,C8 d,false⟩]).length=st.length+3:=by simp
  have V:st.length+1<st.length+3:=by omega
  have Y:st.length+2<st.length+3:=by omega
  have hR:∀ (fr:Frame) (l:St),(Nb fr [4,6,19,20]).all (fun k=>decide (k<st.length+3))=true→restrict [4,6,19,20] (st++[FE cl,Fl (0,Dt),⟨false,1,C8 d,false⟩]).length ⟨fr,st++FE cl::Fl (0,Dt)::⟨false,1,C8 d,false⟩::l⟩=⟨Gf (JU fr (st.length+3) [] [4,6,19,20]),st++[FE cl,Fl (0,Dt),⟨false,1,C8 d,false⟩]⟩:=fun fr l h=>by
   have:=nQ (keep:=[4,6,19,20]) (fr:=fr) (l:=l) ac J.symm (fun k hk=>of_decide_eq_true (Ag.1 h k hk));rw[Ap]at this;rw[J];exact this
  have M:=hR;simp only[J]at M;simp (disch:=first|omega|decide) only[push_cast,↓reduceIte,CI,CN,GZ,YC9]
  refine FQ (fun i:Nat=>[(4,.ptr (st.length+1) 0),(6,.ptr (st.length+2) 0),(19,Ix cl),(20,.int .i64 (i:Int))]) (fun _=>st++[FE cl,Fl (0,Dt),⟨false,1,C8 d,false⟩])
   (fun i=>i≤2∧(0<i→¬ cl.1=d)∧(1<i→¬ cl.2=d)) (fun i=>2 - i) 0 ?_ ⟨by omega,fun h=>absurd h (by omega),fun h=>absurd h (by omega)⟩ ?_
  ·simp (disch:=first | omega | decide | (simp only[push_cast,↓F4,↓reduceIte,CI,CO,CM,CJ,Nat.reduceSub,CP,CV,CT,Int.reduceLE,CU,CN,C0,CZ,C4,C3,↓CL,lQ,V,Y,decide_true]; done)) only[push_cast,↓reduceIte,CI,↓CL,↓hR,mU,QF]
  rintro i ⟨hi,U,h1⟩;unfold oA
  match i,hi,U,h1 with
  |0,_,_,_=>
   have c0:=lC cl
   by_cases q:cl.1=d
   ·rw[show Hy cl (d,0)=(0,d) by unfold Hy Mw; rw[if_pos rfl,if_pos q]];simp (disch:=first|omega|decide) only[push_cast,↓reduceIte,CI,CJ,CT,CN,↓CL,Ap,Ak,Ao,Ad,An,As,Aq,CJ,Ft,FA,c0,q,iF,Tw,Tf,cO,M1,M9 E]
   ·simp (disch:=first | omega | decide | (simp only[push_cast,↓F4,↓reduceIte,CI,CO,CM,CJ,Nat.reduceSub,CP,CV,CT,Int.reduceLE,CU,CN,C0,CZ,C4,C3,↓CL,lQ,V,Y,decide_true]; done)) only[push_cast,↓reduceIte,CI,CJ,CT,CZ,↓CL,↓M,mU,QF,Ap,Ak,Ao,Ad,An,As,Aq,CJ,Ft,FA,c0,q,DK];refine EV 1 (by exact⟨by omega,fun _=>q,fun h=>absurd h (by omega)⟩) (by omega) ?_;simp (disch:=first|omega|decide) only[push_cast,↓CL] <;> rfl
  |1,_,U,_=>
   have c1:=lz cl;have q0:=U (by omega)
   by_cases q:cl.2=d
   ·rw[show Hy cl (d,0)=(1,d) by unfold Hy Mw; rw[if_pos rfl,if_neg q0,if_pos q]];simp (disch:=first|omega|decide) only[push_cast,↓reduceIte,CI,CJ,CT,CN,↓CL,Ap,Ak,Ao,Ad,An,As,Aq,CJ,Ft,FA,c1,q,iF,Tw,Tf,cO,M1,M9 E]
   ·simp (disch:=first | omega | decide | (simp only[push_cast,↓F4,↓reduceIte,CI,CO,CM,CJ,Nat.reduceSub,CP,CV,CT,Int.reduceLE,CU,CN,C0,CZ,C4,C3,↓CL,lQ,V,Y,decide_true]; done)) only[push_cast,↓reduceIte,CI,CJ,CT,CZ,↓CL,↓M,mU,QF,Ap,Ak,Ao,Ad,An,As,Aq,CJ,Ft,FA,c1,q,DK];refine EV 2 (by exact⟨by omega,fun _=>q0,fun _=>q⟩) (by omega) ?_;simp (disch:=first|omega|decide) only[push_cast,↓CL] <;> rfl
  |2,_,U,h1=>
   rw[show Hy cl (d,0)=(-1,d) by unfold Hy Mw; rw[if_pos rfl,if_neg (U (by omega)),if_neg (h1 (by omega))]];simp (disch:=first|omega|decide) only[push_cast,↓reduceIte,CI,CJ,CT,CN,↓CL,Ad,An,As,Aq,CJ,Ft,FA,iF,Tw,Tf,cO,M1,M9 E]
 ·have hv:Hy cl (d,e)=(0,Dt):=if_neg he;rw[hv];simp (disch:=first|omega|decide) only[push_cast,↓reduceIte,CI,CN,he,Ft,FA,M9 E,Tw,Tf,cO,Vj,M1]
theorem pR(c:List Ins):([.slc (nz 3 (c.map Da)) (c.map Da) false]:List D).all Ep=true:=by
 simp[Ep,Ik]
def Ha(c:List Ins)(v:Int×List Int):Dig×Int:=if c.length=0 then(Dq,0)else if(E9 c).2≠0 then(Dt,(E9 c).2)else(DT c v (Ge (c.length+1)),0)
def wR(ds:List D)(st:St)(r:D×St):Prop:=∃ (kc kv:Nat) (c:List Ins) (v:Int×List Int) (lc lv:Bool),StOK st∧ds=[.ptr kc 0,.ptr kv 0]∧st[kc]?=some ⟨false,1,[Ef c],lc⟩∧st[kv]?=some ⟨false,1,DY v,lv⟩∧c.length≤9223372036854775807∧Ew v∧
 r=(.tup [C9 (Ha c v).1,.int .i64 (Ha c v).2],st)
theorem YEp:Ih wR:=by
 rintro ds st r r' ⟨kc,kv,c,v,lc,lv,_,rfl,J,M,_,_,rfl⟩ ⟨U,V,c',v',Y,aa,_,h,E,I,_,_,rfl⟩;simp only[Aa,D.ptr.injEq,and_true]at h;obtain⟨rfl,rfl⟩:=h;rw[J]at E;rw[M]at I;simp only[Db,Obj.mk.injEq,Aa,and_true,true_and,Vg]at E I;obtain⟨rfl,_⟩:=E;obtain rfl:v=v':=J0.1 (congrArg D.agg I.1);rfl
noncomputable def eF:List D→St→Option (D×St):=FB wR
theorem QM(n:Nat)(d:Dig)(e:Int):H9 n (.tup [C9 d,.int .i64 e])=.tup [C9 d,.int .i64 e]:=by
 have h:HD n (C9 d)=C9 d:=by rw[← hX]; exact rE n [] d
 simp only[H9,Aw,Bj,h];rfl
theorem Rr(a d:Dig):DR (some ⟨false,1,C8 a,false⟩) 32 0 (C9 d)=some ⟨false,1,C8 d,false⟩:=Lx 1 _ _ 32 (D1 _) (D1 _) (KW (fun _=>rfl) d)
set_option maxHeartbeats 4000000 in
set_option maxRecDepth 20000 in
theorem Xx:IContract Tryz.prog GG 46 eF:=by
 refine Zx (T:=tb [(20,NU),(47,Se),(48,dE),(49,cE)] []) yv5 (DI (all_cons Rt (all_cons aT (all_cons yP (all_cons xu all_nil)))) all_nil) ?_;intro ds st r hr;obtain⟨kc,kv,c,v,lc,lv,I,rfl,U,V,hc,hv,rfl⟩:=Jd hr
 have DE:∀ l:St,(st++l)[kc]?=some ⟨false,1,[.slc (nz 3 (c.map Da)) (c.map Da) false],lc⟩:=fun l=>by
  rw[At (Ab.1 U).1]; exact U
 have Y:∀ l:St,(st++l)[kv]?=some ⟨false,1,DY v,lv⟩:=fun l=>by
  rw[At (Ab.1 V).1]; exact V
 have cv:=Yo c hc;have cp:=QZ;unfold oo
 by_cases M:c.length=0
 ·rw[show Ha c v=(Dq,0)from if_pos M];have E:(c.length:Int)=0:=by omega
  simp (disch:=first|omega|decide) only[push_cast,↓reduceIte,CI,DE,E,cp,GZ,G9,QM,M9 I,M1,Rr]
 by_cases J:(E9 c).2=0
 ·rw[show Ha c v=(DT c v (Ge (c.length+1)),0) by unfold Ha; rw[if_neg M,if_neg (by simp[J])]];have E:¬ (c.length:Int)=0:=by omega
  obtain⟨ah,_⟩:=M3 J;have cs:=uF ((c.length:Int)+1);rw[show Px ((c.length:Int)+1)=0 from if_neg (by omega)]at cs
  have cd:=jN c v (Ge ((c.length:Int)+1)) ⟨by omega,hv,by
   rw[show Ge ((c.length:Int)+1)={FO with fuel:=(c.length:Int)+1} from if_neg (by omega)]; exact A2 _⟩
  simp (disch:=first|omega|decide) only[push_cast,↓reduceIte,CI,DE,Y,E,J,cv,cs,cd,DK,H3,J2,IB,Gh hv,FH,Kk,Ap,Ak,Ao,Ad,An,As,Aq,Ft,FA,GZ,G9,QM,M9 I,M1,Rr]
 ·rw[show Ha c v=(Dt,(E9 c).2) by unfold Ha; rw[if_neg M,if_pos J]];have E:¬ (c.length:Int)=0:=by omega
  simp (disch:=first|omega|decide) only[push_cast,↓reduceIte,CI,DE,E,J,cv,Ao,GZ,G9,QM,M9 I,M1,Rr,Vj]
noncomputable def Yz:List D→Option D:=Dl (α:=List Ins×(Int×List Int)×(Dig×Dig)) (fun a=>[.slc (nz 3 (a.1.map Da)) (a.1.map Da) false,ED a.2.1,Ix a.2.2]) (fun a=>a.1.length≤9223372036854775807∧Ew a.2.1) (fun a=>.tup [Ff (Hy a.2.2 (Ha a.1 a.2.1)),.int .i64 (Ha a.1 a.2.1).2])
theorem ySw(c:List Ins)(v:Int×List Int)(E:Dig×Dig)(h:c.length≤9223372036854775807∧Ew v):Yz [.slc (nz 3 (c.map Da)) (c.map Da) false,ED v,Ix E]=some (.tup [Ff (Hy E (Ha c v)),.int .i64 (Ha c v).2]):=
 D5 (fun⟨a0,a1,I⟩ ⟨b0,b1,J⟩ h=>by simp only[Aa,D.slc.injEq,and_true,Ko,J0,gi]at h; simp[h]) (c,v,E) h
set_option maxHeartbeats 4000000 in
set_option maxRecDepth 20000 in
theorem Ykr(c:List Ins)(v:Int×List Int)(E:Dig×Dig)(h:c.length≤9223372036854775807∧Ew v):@wW GG (tb [] [(45,SB 46 eF)]) ZZ.code (Dc [.slc (nz 3 (c.map Da)) (c.map Da) false,ED v,Ix E]) [] ⟨Dp ZZ.res (.tup [Ff (Hy E (Ha c v)),.int .i64 (Ha c v).2])⟩:=by
 obtain⟨hc,hv⟩:=h;unfold ZZ;have V:(C8 E.1++C8 E.2).all Ep=true:=SM E
 have J:StOK [⟨false,1,[.slc (nz 3 (c.map Da)) (c.map Da) false],false⟩,⟨false,1,DY v,false⟩,FE E,Fl (0,Dt)]:=by
  refine Uq (S:=[]) (fun o I=>by cases I) _ (fun o I=>?_);simp only[Av,AB,or_false]at I;rcases I with rfl | rfl | rfl | rfl
  ·exact pR c
  ·exact P5 v
  ·exact SM E
  ·exact Uu _
 have M:=Uq J [FE E,Fl (0,Dt)] (fun o I=>by
  simp only[Av,AB,or_false]at I;rcases I with rfl | rfl
  ·exact SM E
  ·exact Uu _)
 have hj:SB 46 eF [Ix E,.clo 46 [.ptr 0 0,.ptr 1 0]] [⟨false,1,[.slc (nz 3 (c.map Da)) (c.map Da) false],false⟩,⟨false,1,DY v,false⟩,FE E,Fl (0,Dt)]=some (.tup [Ff (Hy E (Ha c v)),.int .i64 (Ha c v).2],[⟨false,1,[.slc (nz 3 (c.map Da)) (c.map Da) false],false⟩,⟨false,1,DY v,false⟩,FE E,Fl (0,Dt)]):=
  LY (ti _ _) ⟨E,[.ptr 0 0,.ptr 1 0],(Ha c v).1,(Ha c v).2,J,rfl,LY YEp ⟨0,1,c,v,false,false,M,rfl,rfl,rfl,hc,hv,rfl⟩,rfl⟩
 have U:=Tw (0,Dt);have lv:=Tf;simp only[FE,Fl,Ff]at hj U lv;simp (disch:=first|omega|decide) only[push_cast,↓reduceIte,CI,CJ,FK,mu,lS,hj,Ff,U,lv]
theorem Yqh:Contract Tryz.prog GG 14 Yz:=
 Ed (T:=tb [] [(45,SB 46 eF)]) yAj (DI all_nil (all_cons (pT _ (by decide) _ Xx) all_nil)) (fun a h=>Ykr a.1 a.2.1 a.2.2 h)
theorem Yzr(v:Int×List Int)(b:Int)(s:Sta)(x:Ins):(EY v b s x).stack.length≤s.stack.length+1:=by
 have h:∀ o:Out,(FU (Dk s) o).stack.length≤s.stack.length+1:=by
  intro o
  cases o with
  |err e=>exact Nat.le_succ _
  |set p t c=>exact Nat.le_succ _
  |pop k push pc=>
   show(s.stack.take (s.stack.length - k)++push.toList).length≤_
   rw[Ad,AH];have:push.toList.length≤1:=by cases push <;> simp
   omega
 unfold EY
 split
 ·exact Nat.le_succ _
 ·exact h _
theorem Ybt(c:List Ins)(v:Int×List Int)(o:Opn):(Lw c v o).top.length≤o.top.length+1:=by
 unfold Lw
 split
 ·exact Yzr v o.depth (Fx o) _
 ·simp[Oi]
def Gu(c:List Ins)(v:Int×List Int)(b:Dig)(o:Opn):Dig×Int:=if b=Dq then(b,0)else if HF c v o≠b then(Dt,390)else if o.status≠0 then(Dq,0)else(HF c v (Lw c v o),K7 c o)
def wx(ds:List D)(st:St)(r:D×St):Prop:=∃ (kb kc kv ko:Nat) (b:Dig) (c:List Ins) (v:Int×List Int) (o:Opn) (lb lc lv lo:Bool),StOK st∧ds=[.ptr kb 0,.ptr kc 0,.ptr kv 0,.ptr ko 0]∧st[kb]?=some ⟨false,1,C8 b,lb⟩∧st[kc]?=some ⟨false,1,[Ef c],lc⟩∧st[kv]?=some ⟨false,1,DY v,lv⟩∧st[ko]?=some ⟨false,1,E5 o,lo⟩∧c.length≤4294967296∧Ew v∧o.top.length≤4294967295∧
 r=(.tup [C9 (Gu c v b o).1,.int .i64 (Gu c v b o).2],st)
theorem YB7:Ih wx:=by
 rintro ds st r r' ⟨kb,kc,kv,ko,b,c,v,o,lb,lc,lv,lo,_,rfl,U,V,Y,h3,_,_,_,rfl⟩ ⟨ab,ac,ad,ae,b',c',v',o',af,ah,a0,a1,_,h,E,I,J,M,_,_,_,rfl⟩;simp only[Aa,D.ptr.injEq,and_true]at h;obtain⟨rfl,rfl,rfl,rfl⟩:=h;rw[U]at E;rw[V]at I;rw[Y]at J;rw[h3]at M;simp only[Db,Obj.mk.injEq,Aa,and_true,true_and,Vg,L3]at E I J M;obtain⟨rfl,_⟩:=E;obtain⟨rfl,_⟩:=I;obtain rfl:v=v':=J0.1 (congrArg D.agg J.1);obtain rfl:o=o':=Sz.1 (congrArg D.agg M.1);rfl
noncomputable def l9:List D→St→Option (D×St):=FB wx
theorem eg(lent:Bool)(d:Dig):DA (some ⟨false,1,C8 d,lent⟩) 32 true 0=some (C9 d):=Lz 1 lent _ 32 (D1 d)
theorem LS(lent:Bool)(o:Opn):DA (some ⟨false,1,E5 o,lent⟩) 38 true 0=some (Ee o):=by rw[Ee,Ka]; exact S3 ..
theorem R9(lent:Bool)(o:Opn):DA (some ⟨false,1,E5 o,lent⟩) 1 false 2=some (.int .i64 o.status):=by rw[Ka]; exact mJ ..
theorem MT(o:Opn):DR (some ⟨false,1,ES 0 0 0 0 (.slc 0 [] true) 0 Dt,false⟩) 38 0 (Ee o)=some ⟨false,1,E5 o,false⟩:=by rw[Ee,Ka]; exact Vb ..
set_option maxHeartbeats 8000000 in
set_option maxRecDepth 20000 in
theorem Xw:IContract Tryz.prog GG 54 l9:=by
 refine Zx (T:=tb [(20,NU),(40,Vv),(55,jz)] []) yx6 (DI (all_cons Rt (all_cons xq (all_cons Yys all_nil))) all_nil) ?_;intro ds st r hr;obtain⟨kb,kc,kv,ko,b,c,v,o,lb,lc,lv,lo,I,rfl,h0,h1,h2,h3,hc,hv,a5,rfl⟩:=Jd hr
 have GB:∀ l:St,(st++l)[kb]?=some ⟨false,1,C8 b,lb⟩:=fun l=>by
  rw[At (Ab.1 h0).1]; exact h0
 have DE:∀ l:St,(st++l)[kc]?=some ⟨false,1,[.slc (nz 3 (c.map Da)) (c.map Da) false],lc⟩:=fun l=>by
  rw[At (Ab.1 h1).1]; exact h1
 have M:∀ l:St,(st++l)[kv]?=some ⟨false,1,DY v,lv⟩:=fun l=>by
  rw[At (Ab.1 h2).1]; exact h2
 have U:∀ l:St,(st++l)[ko]?=some ⟨false,1,E5 o,lo⟩:=fun l=>by
  rw[At (Ab.1 h3).1]; exact h3
 have V:=QZ;have cc:=jM c v o ⟨hc,hv,by omega⟩;have co:=Yae c v o ⟨hc,hv⟩;have a6:=Ybt c v o;have af:=jM c v (Lw c v o) ⟨hc,hv,by omega⟩;unfold n9
 by_cases E:b=Dq
 ·rw[show Gu c v b o=(b,0)from if_pos E];simp (disch:=first|omega|decide) only[push_cast,↓reduceIte,CI,GB,eg,E,V,GZ,G9,QM,M9 I,M1,Rr]
 by_cases J:HF c v o=b
 ·by_cases Y:o.status=0
  ·rw[show Gu c v b o=(HF c v (Lw c v o),K7 c o) by unfold Gu; rw[if_neg E,if_neg (by simp[J]),if_neg (by simp[Y])]];simp (disch:=first|omega|decide) only[push_cast,↓reduceIte,CI,GB,DE,M,U,eg,E,J,Y,V,cc,af,co,Gh hv,FH,Hm,J1,Sv,LS,R9,MT,QI,Ki,Ap,Ak,Ao,Ad,An,As,Aq,Ft,FA,GZ,G9,QM,M9 I,M1,Rr]
  ·rw[show Gu c v b o=(Dq,0) by unfold Gu; rw[if_neg E,if_neg (by simp[J]),if_pos Y]];simp (disch:=first|omega|decide) only[push_cast,↓reduceIte,CI,GB,DE,M,U,eg,E,J,Y,V,cc,Gh hv,FH,J1,LS,R9,Aq,GZ,G9,QM,M9 I,M1,Rr]
 ·rw[show Gu c v b o=(Dt,390) by unfold Gu; rw[if_neg E,if_pos J]];simp (disch:=first|omega|decide) only[push_cast,↓reduceIte,CI,GB,DE,M,U,eg,E,J,V,cc,Gh hv,FH,J1,LS,GZ,G9,QM,M9 I,M1,Rr,Vj]
noncomputable def dL:List D→Option D:=Dl (α:=List Ins×(Int×List Int)×Dig×(Dig×Dig)×Opn) (fun a=>[.slc (nz 3 (a.1.map Da)) (a.1.map Da) false,ED a.2.1,C9 a.2.2.1,Ix a.2.2.2.1,Ee a.2.2.2.2]) (fun a=>a.1.length≤4294967296∧Ew a.2.1∧a.2.2.2.2.top.length≤4294967295) (fun a=>.tup [Ff (Hy a.2.2.2.1 (Gu a.1 a.2.1 a.2.2.1 a.2.2.2.2)),.int .i64 (Gu a.1 a.2.1 a.2.2.1 a.2.2.2.2).2])
theorem Yao(c:List Ins)(v:Int×List Int)(b:Dig)(E:Dig×Dig)(o:Opn)(h:c.length≤4294967296∧Ew v∧o.top.length≤4294967295):dL [.slc (nz 3 (c.map Da)) (c.map Da) false,ED v,C9 b,Ix E,Ee o]=some (.tup [Ff (Hy E (Gu c v b o)),.int .i64 (Gu c v b o).2]):=
 D5 (fun⟨a0,a1,I,J,M⟩ ⟨b0,b1,U,V,Y⟩ h=>by simp only[Aa,D.slc.injEq,La,and_true,Ko,Sz,J0,gi]at h; simp[h]) (c,v,b,E,o) h
noncomputable def RE:Tbl:=tb [] [(45,SB 54 l9)]
set_option maxHeartbeats 8000000 in
set_option maxRecDepth 20000 in
theorem Ytu(c:List Ins)(v:Int×List Int)(b:Dig)(E:Dig×Dig)(o:Opn)(h:c.length≤4294967296∧Ew v∧o.top.length≤4294967295):@wW GG RE ZN.code (Dc [.slc (nz 3 (c.map Da)) (c.map Da) false,ED v,C9 b,Ix E,Ee o]) [] ⟨Dp ZN.res (.tup [Ff (Hy E (Gu c v b o)),.int .i64 (Gu c v b o).2])⟩:=by
 obtain⟨hc,hv,U⟩:=h;unfold ZN
 have V:(E5 o).all Ep=true:=by
  rw[Ka];simp only[ES,AY,Le];simp[Ep,Ev,Ik]
 have J:StOK [⟨false,1,[.slc (nz 3 (c.map Da)) (c.map Da) false],false⟩,⟨false,1,DY v,false⟩,⟨false,1,C8 b,false⟩,FE E,⟨false,1,E5 o,false⟩,Fl (0,Dt)]:=by
  refine Uq (S:=[]) (fun o I=>by cases I) _ (fun x I=>?_);simp only[Av,AB,or_false]at I;rcases I with rfl | rfl | rfl | rfl | rfl | rfl
  ·exact pR c
  ·exact P5 v
  ·exact Le b
  ·exact SM E
  ·exact V
  ·exact Uu _
 have M:=Uq J [FE E,Fl (0,Dt)] (fun o I=>by
  simp only[Av,AB,or_false]at I;rcases I with rfl | rfl
  ·exact SM E
  ·exact Uu _)
 have hj:SB 54 l9 [Ix E,.clo 54 [.ptr 2 0,.ptr 0 0,.ptr 1 0,.ptr 4 0]] [⟨false,1,[.slc (nz 3 (c.map Da)) (c.map Da) false],false⟩,⟨false,1,DY v,false⟩,⟨false,1,C8 b,false⟩,FE E,⟨false,1,E5 o,false⟩,Fl (0,Dt)]=some (.tup [Ff (Hy E (Gu c v b o)),.int .i64 (Gu c v b o).2],[⟨false,1,[.slc (nz 3 (c.map Da)) (c.map Da) false],false⟩,⟨false,1,DY v,false⟩,⟨false,1,C8 b,false⟩,FE E,⟨false,1,E5 o,false⟩,Fl (0,Dt)]):=
  LY (ti _ _) ⟨E,[.ptr 2 0,.ptr 0 0,.ptr 1 0,.ptr 4 0],(Gu c v b o).1,(Gu c v b o).2,J,rfl,LY YB7 ⟨2,0,1,4,b,c,v,o,false,false,false,false,M,rfl,rfl,rfl,rfl,rfl,hc,hv,U,rfl⟩,rfl⟩
 have Y:=Tw (0,Dt);have lv:=Tf;simp only[FE,Fl,Ff]at hj Y lv;simp (disch:=first|omega|decide) only[push_cast,↓reduceIte,CI,CJ,RE,FK,mu,NR,lS,hj,Ff,Y,lv]
theorem Yy5:Contract Tryz.prog GG 16 dL:=
 Ed (T:=RE) yCb (DI all_nil (all_cons (pT _ (by decide) _ Xw) all_nil)) (fun a h=>Ytu a.1 a.2.1 a.2.2.1 a.2.2.2.1 a.2.2.2.2 h)
noncomputable def Ylk:List D→Option D:=Dl (α:=Int×Dig×List Dig) (fun a=>[.int .i64 a.1,C9 a.2.1,.slc (nz 32 (a.2.2.map C9)) (a.2.2.map C9) false]) (fun a=>0≤a.1∧a.1<4611686018427387904∧a.2.2.length≤4294967296) (fun a=>C9 (Ke a.1.toNat a.2.1 a.2.2))
theorem Yz3(i:Int)(x:Dig)(p:List Dig)(h:0≤i∧i<4611686018427387904∧p.length≤4294967296):Ylk [.int .i64 i,C9 x,.slc (nz 32 (p.map C9)) (p.map C9) false]=some (C9 (Ke i.toNat x p)):=
 D5 (fun⟨a0,a1,E⟩ ⟨b0,b1,I⟩ h=>by simp only[Aa,D.slc.injEq,D.int.injEq,Kp,La,true_and,and_true]at h; simp[h]) (i,x,p) h
noncomputable def UN:List D→Option D:=Dl (α:=(Int×Dig)×Int×Dig×List Dig) (fun a=>[.agg (.int .i64 (C5 a.1)::C8 (C6 a.1)),.int .i64 a.2.1,C9 a.2.2.1,.slc (nz 32 (a.2.2.2.map C9)) (a.2.2.2.map C9) false]) (fun a=>-9223372036854775808≤a.2.1∧a.2.1<9223372036854775808) (fun a=>.bool (Iv a.1 a.2.1 a.2.2.1 a.2.2.2))
theorem nM(c:Int×Dig)(i:Int)(x:Dig)(p:List Dig)(h:-9223372036854775808≤i∧i<9223372036854775808):UN [.agg (.int .i64 (C5 c)::C8 (C6 c)),.int .i64 i,C9 x,.slc (nz 32 (p.map C9)) (p.map C9) false]=some (.bool (Iv c i x p)):=
 D5 (fun⟨a0,a1,E,I⟩ ⟨b0,b1,J,M⟩ h=>by simp only[Aa,D.slc.injEq,D.int.injEq,D.agg.injEq,Kp,La,L3,true_and,and_true]at h; simp[h,Cw]) (c,i,x,p) h
set_option maxHeartbeats 4000000 in
set_option maxRecDepth 20000 in
theorem yPv(c:Int×Dig)(i:Int)(x:Dig)(p:List Dig)(h:-9223372036854775808≤i∧i<9223372036854775808):@wW GG (tb [(25,Ma),(95,Q2)] []) al.code (Dc [.agg (.int .i64 (C5 c)::C8 (C6 c)),.int .i64 i,C9 x,.slc (nz 32 (p.map C9)) (p.map C9) false]) [] ⟨Dp al.res (.bool (Iv c i x p))⟩:=by
 obtain⟨n,r⟩:=c;unfold al;simp (disch:=omega) only[push_cast,↓reduceIte,CI,M4];refine EU (fun J=>?_) (fun J=>?_)
 ·have e:Iv (n,r) i x p=false:=by unfold Iv; simp; omega
  simp (disch:=omega) only[push_cast,↓reduceIte,CI,J,e]
 ·have Y:0≤n∧n≤65536:=by
   by_cases hb:n<0∨65536<n
   ·rw[Uy hb]at J; omega
   ·omega
  obtain⟨e1,e2,e3⟩:=L8 Y.1 Y.2;simp (disch:=omega) only[push_cast,↓reduceIte,CI,J];refine EU (fun M=>?_) (fun M=>?_)
  ·have e:Iv (n,r) i x p=false:=by unfold Iv; simp; omega
   simp (disch:=omega) only[push_cast,↓reduceIte,CI,M,e]
  ·simp (disch:=omega) only[push_cast,↓reduceIte,CI,M,gM];refine EU (fun U=>?_) (fun U=>?_)
   ·have e:Iv (n,r) i x p=false:=by unfold Iv; simp; omega
    simp (disch:=omega) only[push_cast,↓reduceIte,CI,U,e]
   ·simp (disch:=omega) only[push_cast,↓reduceIte,CI,U];refine EU (fun I=>?_) (fun I=>?_)
    ·have e:Iv (n,r) i x p=decide (Ke i.toNat x p=r):=by
      unfold Iv;simp only[show 0≤DN n from e2,show 0≤i by omega,show i<2 ^ (DN n).toNat by omega,I,true_and]
     rw[e];simp (disch:=omega) only[push_cast,↓reduceIte,CI,I];have hp:p.length≤16:=by omega
     have ad:(2:Int) ^ (DN n).toNat≤2 ^ 16:=TT (by omega)
     refine FQ (fun q:Nat×Dig=>[(1,.int .i64 i),(3,.slc (nz 32 (p.map C9)) (p.map C9) false),(4,.ptr 0 0),(6,.ptr 1 0),(33,.int .i64 (p.length:Int)),(34,.int .i64 (q.1:Int))])
      (fun q=>[⟨false,1,.int .i64 n::C8 r,false⟩,⟨false,1,C8 q.2,false⟩])
      (fun q=>q.1≤p.length∧Ke i.toNat x p=Ke (i.toNat / 2 ^ q.1) q.2 (p.drop q.1)) (fun q=>p.length - q.1) (0,x) (by simp only[push_cast,↓reduceIte,CI,CO,CM,CJ,I] <;> rfl) ⟨A2 _,by simp⟩ ?_
     rintro⟨j,y⟩ ⟨V,E⟩;simp only at V E;unfold oR;simp only[push_cast,↓reduceIte,CI];refine EU (fun h7=>?_) (fun h7=>?_)
     ·rw[sP p j (by omega),Ke,Nat.div_div_eq_div_mul,← Cu]at E;have h8:=TU j;have h9:0≤i / 2 ^ j:=BB (by omega) (by omega);have ae:i / 2 ^ j≤i:=BY _ (by omega)
      have af:(i / 2 ^ j) % 2=((i.toNat / 2 ^ j % 2:Nat):Int):=by
       have:i=(i.toNat:Int):=by omega
       rw[this]; simp
      simp (disch:=omega) only[push_cast,↓reduceIte,CI,Yb,Yzo];refine EU (fun aa=>?_) (fun aa=>?_)
      ·rw[if_pos (show i.toNat / 2 ^ j % 2=0 by omega)]at E;simp (disch:=omega) only[push_cast,↓reduceIte,CI,CO,CM,CJ,Kj,Ju,DK];refine EV (j+1,G6 y (p.getD j default)) ⟨by show j+1≤_; omega,E⟩ (by show p.length - (j+1)<p.length - j; omega) ?_;rfl
      ·rw[if_neg (show ¬ i.toNat / 2 ^ j % 2=0 by omega)]at E;simp (disch:=omega) only[push_cast,↓reduceIte,CI,CO,CM,CJ,Kj,Ju,DK];refine EV (j+1,G6 (p.getD j default) y) ⟨by show j+1≤_; omega,E⟩ (by show p.length - (j+1)<p.length - j; omega) ?_;rfl
     ·rw[List.drop_of_length_le (by omega)]at E;have E:Ke i.toNat x p=y:=E;simp (disch:=omega) only[push_cast,↓reduceIte,CI,CJ,E]
    ·have e:Iv (n,r) i x p=false:=by
      unfold Iv;simp;intro _ _ _ V;exact absurd V I
     simp (disch:=omega) only[push_cast,↓reduceIte,I,e]
theorem ySz:Contract Tryz.prog GG 124 UN:=
 Ed yvx (DI (all_cons QQ (all_cons Uf all_nil)) all_nil) (fun a h=>yPv a.1 a.2.1 a.2.2.1 a.2.2.2 h)
def Jp(l:List Dig)(level k:Int):Bool:=decide ((l.length:Int)≤65536∧0≤level∧level≤16∧0≤k∧k<2 ^ (16 - level).toNat)
def LL(l:List Dig)(level k:Int):Dig:=if Jp l level k then D0 l level.toNat k else Dt
def Eo(l:List Dig):Int×Dig:=if(l.length:Int)≤65536 then(l.length,D0 l (DN l.length).toNat 0)else mB
def JO(l:List Dig):Int:=if(l.length:Int)≤65536 then 0 else 2
def IC(l:List Dig)(i:Int):List Dig:=if(l.length:Int)≤65536∧0≤i∧i<2 ^ (DN l.length).toNat then Hj l i (DN l.length).toNat else []
def I8(l:List Dig)(i:Int):Int:=if 65536<(l.length:Int)then 2 else if 0≤i∧i<2 ^ (DN l.length).toNat then 0 else 1
theorem Zy(l:List Dig)(i:Int):∀ n,(Hj l i n).length=n
 |0=>rfl
 |n+1=>by simp[Hj,Zy l i n]
def Jg(r:Bool)(key:Nat)(row:List Dig):D:=if r then .row key row.length 0 row.length else .slc (nz 32 (row.map C9)) (row.map C9) false
def H8(r:Bool)(row:List Dig):St:=if r then [⟨true,32,row.map C9,false⟩]else []
theorem bt(key:Nat)(row:List Dig):Jg false key row=.slc (nz 32 (row.map C9)) (row.map C9) false:=rfl
theorem Tn(key:Nat)(row:List Dig):Jg true key row=.row key row.length 0 row.length:=rfl
theorem To(row:List Dig):H8 false row=[]:=rfl
theorem Pu(row:List Dig):H8 true row=[⟨true,32,row.map C9,false⟩]:=rfl
noncomputable def dz:List D→St→Option (D×St):=GP (α:=Int×Int×Dig×Dig×List Dig×Bool×Int×Dig)
 (fun⟨lv,k,d,pz,row,r,j,pad⟩=>([.int .i64 j,Jg r 4 row,C9 pad,.ptr 0 0,.ptr 1 0,.ptr 2 0],[⟨false,1,[.int .i64 lv],false⟩,⟨false,1,[.int .i64 k],false⟩,⟨false,1,C8 d,false⟩,⟨false,1,C8 pz,false⟩]++H8 r row))
 (fun⟨_,k,_,_,_,_,_,_⟩=>0≤k)
 (fun⟨lv,k,d,pz,row,r,j,pad⟩=>(.tup [],[⟨false,1,[.int .i64 lv],false⟩,⟨false,1,[.int .i64 k],false⟩,⟨false,1,C8 (if j=lv then EJ row k pad else d),false⟩,⟨false,1,C8 pz,false⟩]++H8 r row))
theorem ySs(lv k:Int)(d I:Dig)(row:List Dig)(j:Int)(E:Dig)(h:0≤k) :
  dz [.int .i64 j,.slc (nz 32 (row.map C9)) (row.map C9) false,C9 E,.ptr 0 0,.ptr 1 0,.ptr 2 0] [⟨false,1,[.int .i64 lv],false⟩,⟨false,1,[.int .i64 k],false⟩,⟨false,1,C8 d,false⟩,⟨false,1,C8 I,false⟩]=
   some (.tup [],[⟨false,1,[.int .i64 lv],false⟩,⟨false,1,[.int .i64 k],false⟩,⟨false,1,C8 (if j=lv then EJ row k E else d),false⟩,⟨false,1,C8 I,false⟩]):=by
 refine MD ?_ (lv,k,d,I,row,false,j,E) h rfl;rintro⟨lv,k,d,I,row,r,j,E⟩ ⟨V,k',d',Y,J,M,j',U⟩ h;cases r <;> cases M <;> simp[Jg,H8,Kp,La,L3]at h
 all_goals simp[h]
theorem ySr(lv k:Int)(d I:Dig)(row:List Dig)(j:Int)(E:Dig)(h:0≤k) :
  dz [.int .i64 j,.row 4 row.length 0 row.length,C9 E,.ptr 0 0,.ptr 1 0,.ptr 2 0] [⟨false,1,[.int .i64 lv],false⟩,⟨false,1,[.int .i64 k],false⟩,⟨false,1,C8 d,false⟩,⟨false,1,C8 I,false⟩,⟨true,32,row.map C9,false⟩]=
   some (.tup [],[⟨false,1,[.int .i64 lv],false⟩,⟨false,1,[.int .i64 k],false⟩,⟨false,1,C8 (if j=lv then EJ row k E else d),false⟩,⟨false,1,C8 I,false⟩,⟨true,32,row.map C9,false⟩]):=by
 refine MD ?_ (lv,k,d,I,row,true,j,E) h rfl;rintro⟨lv,k,d,I,row,r,j,E⟩ ⟨V,k',d',Y,J,M,j',U⟩ h;cases r <;> cases M <;> simp[Jg,H8,Kp,La,L3]at h
 all_goals simp[h]
theorem Ypv:IContract Tryz.prog GG 117 dz:=by
 refine Rd (T:=tb [(93,S9)] []) yz9 (DI (all_cons Pj all_nil) all_nil) ?_;rintro⟨lv,k,d,I,row,r,j,pad⟩ h;simp only at h;unfold nY;cases r
 ·simp only[push_cast,↓reduceIte,CI,CJ,bt,To];refine EU (fun E=>?_) (fun E=>?_)
  ·simp only[push_cast,↓reduceIte,CI,CJ,E,PB _ _ _ h,To]
  ·simp only[push_cast,↓reduceIte,CJ,E,To]
 ·simp only[push_cast,↓reduceIte,CI,CJ,Tn,Pu];refine EU (fun E=>?_) (fun E=>?_)
  ·simp only[push_cast,↓reduceIte,CI,CJ,E,PB _ _ _ h,Pu]
  ·simp only[push_cast,↓reduceIte,CJ,E,Pu]
def LP(l:List Dig)(lv k:Int)(d:Dig)(j:Nat):Dig:=if 0≤lv∧lv<(j:Int)then D0 l lv.toNat k else d
theorem Ycl(l:List Dig)(lv k:Int)(d:Dig)(j:Nat):(if(j:Int)=lv then EJ (EN l j) k (EF j)else LP l lv k d j)=LP l lv k d (j+1):=by
 unfold LP
 by_cases h:(j:Int)=lv
 ·rw[if_pos h,if_pos (by omega)];have:lv.toNat=j:=by omega
  rw[this]; rfl
 ·grind
noncomputable def YZ:List D→St→Option (D×St):=GP (α:=List Dig×Int×Int×Int×Dig)
 (fun⟨l,last,lv,k,d⟩=>([.slc (nz 32 (l.map C9)) (l.map C9) false,.int .i64 last,.clo 117 [.ptr 0 0,.ptr 1 0,.ptr 2 0]],[⟨false,1,[.int .i64 lv],false⟩,⟨false,1,[.int .i64 k],false⟩,⟨false,1,C8 d,false⟩]))
 (fun⟨l,last,_,k,_⟩=>0≤k∧0≤last∧last≤16∧l.length≤65536)
 (fun⟨l,last,lv,k,d⟩=>(.tup [],[⟨false,1,[.int .i64 lv],false⟩,⟨false,1,[.int .i64 k],false⟩,⟨false,1,C8 (LP l lv k d (last.toNat+1)),false⟩]))
theorem yPa(l:List Dig)(E lv k:Int)(d:Dig)(h:0≤k∧0≤E∧E≤16∧l.length≤65536) :
  YZ [.slc (nz 32 (l.map C9)) (l.map C9) false,.int .i64 E,.clo 117 [.ptr 0 0,.ptr 1 0,.ptr 2 0]] [⟨false,1,[.int .i64 lv],false⟩,⟨false,1,[.int .i64 k],false⟩,⟨false,1,C8 d,false⟩]=
   some (.tup [],[⟨false,1,[.int .i64 lv],false⟩,⟨false,1,[.int .i64 k],false⟩,⟨false,1,C8 (LP l lv k d (E.toNat+1)),false⟩]):=by
 refine MD ?_ (l,E,lv,k,d) h rfl;rintro⟨l,E,lv,k,d⟩ ⟨M,I,J,k',U⟩ h;simp[Kp,L3]at h;simp[h]
theorem Yaa:IContract Tryz.prog GG 91 YZ:=by
 refine Rd (T:=tb [(20,NU),(93,S9),(95,Q2)] [(117,dz)]) oe
  (DI (all_cons Rt (all_cons Pj (all_cons Uf all_nil))) (all_cons Ypv all_nil)) ?_
 rintro⟨l,last,lv,k,d⟩ ⟨hk,a1,a2,a3⟩;unfold fR;have hs0:LP l lv k d 0=d:=by unfold LP; rw[if_neg (by omega)]
 simp (disch:=omega) only[push_cast,↓reduceIte,CI,CJ,QZ,DK]
 refine FQ (fun j:Nat=>[(2,.clo 117 [.ptr 0 0,.ptr 1 0,.ptr 2 0]),(6,Jg (decide (0<j)) 4 (EN l j)),(7,.ptr 3 0),(14,.int .i64 (last+1)),(15,.int .i64 (j:Int))])
  (fun j=>[⟨false,1,[.int .i64 lv],false⟩,⟨false,1,[.int .i64 k],false⟩,⟨false,1,C8 (LP l lv k d j),false⟩,⟨false,1,C8 (EF j),false⟩]++H8 (decide (0<j)) (EN l j))
  (fun j=>(j:Int)≤last+1) (fun j=>(last+1).toNat - j) 0 (by rw[hs0]; simp only[push_cast,↓reduceIte,CI,CO,CM,CJ,↓CL] <;> rfl) (by omega) ?_
 intro j hj;have hr:=fy l j;have I:=Q4 (EF j) (EN l j);have hn:EN l (j+1)=Gl (EF j) (EN l j):=rfl;have V:EF (j+1)=G6 (EF j) (EF j):=rfl;have J:=Ycl l lv k d j;unfold fV
 by_cases h1:(j:Int)<last+1
 ·by_cases hz:j=0
  ·subst hz;have M:decide (0<0)=false:=rfl;have ac:(0:Int)<last+1:=by omega
   have e0:EN l 0=l:=rfl;have e1:EF 0=Dq:=rfl;have Y:(if(0:Int)=lv then EJ l k Dq else d)=LP l lv k d 1:=by rw[← J,hs0]; rfl
   rw[e0]at hr I hn;rw[e1]at I hn V;rw[e0,e1,hs0];simp (disch:=omega) only[push_cast,↓reduceIte,CI,CJ,↓CL,bt,To,ac,Y,ySs,Vp,DK,X5]
   refine FQ (fun i:Nat=>[(2,.clo 117 [.ptr 0 0,.ptr 1 0,.ptr 2 0]),(6,.slc (nz 32 (l.map C9)) (l.map C9) false),(7,.ptr 3 0),(9,.row 4 ((Gl Dq l).take i).length 0 ((Gl Dq l).take i).length),(10,.int .i64 (2*(i:Int))),(14,.int .i64 (last+1)),(15,.int .i64 0)])
    (fun i=>[⟨false,1,[.int .i64 lv],false⟩,⟨false,1,[.int .i64 k],false⟩,⟨false,1,C8 (LP l lv k d 1),false⟩,⟨false,1,C8 Dq,false⟩,⟨true,32,((Gl Dq l).take i).map C9,false⟩]) (fun i=>2*i≤l.length+1) (fun i=>l.length+1 - i) 0 (by simp only[push_cast,↓reduceIte,CI,CO,CM,CJ,C4,↓CL] <;> rfl) (by omega) ?_
   intro i hi;unfold UQ;have f0:(2*(i:Int)).toNat=2*i:=by omega
   have f1:(2*(i:Int)+2)=2*((i+1:Nat):Int):=by omega
   by_cases U:2*(i:Int)<(l.length:Int)
   ·have e:=dJ Dq l i (by omega);have hl:((Gl Dq l).take i).length≤65536:=by rw[AH]; omega
    simp (disch:=omega) only[push_cast,↓reduceIte,CI,CO,CM,CJ,U,Kj,DK,PB,Ju,f0];refine EV (i+1) (by omega) (by omega) ?_;grind
   ·have e:(Gl Dq l).take i=Gl Dq l:=AE (by omega);simp (disch:=omega) only[push_cast,↓reduceIte,CI,CO,CM,CJ,CV,CZ,U,e,Ju,DK];refine EV 1 (by omega) (by omega) ?_;rfl
  ·have M:decide (0<j)=true:=by simp; omega
   have af:decide (0<j+1)=true:=by simp
   generalize EN l j=R at hr I hn J;generalize EF j=E at I hn V J;simp (disch:=omega) only[push_cast,↓reduceIte,CI,CJ,M,Tn,Pu,h1,J,ySr,Vp,DK,X5]
   refine FQ (fun i:Nat=>[(2,.clo 117 [.ptr 0 0,.ptr 1 0,.ptr 2 0]),(6,.row 4 R.length 0 R.length),(7,.ptr 3 0),(9,.row 5 ((Gl E R).take i).length 0 ((Gl E R).take i).length),(10,.int .i64 (2*(i:Int))),(14,.int .i64 (last+1)),(15,.int .i64 j)])
    (fun i=>[⟨false,1,[.int .i64 lv],false⟩,⟨false,1,[.int .i64 k],false⟩,⟨false,1,C8 (LP l lv k d (j+1)),false⟩,⟨false,1,C8 E,false⟩,⟨true,32,R.map C9,false⟩,⟨true,32,((Gl E R).take i).map C9,false⟩]) (fun i=>2*i≤R.length+1) (fun i=>R.length+1 - i) 0 (by simp only[push_cast,↓reduceIte,CI,CO,CM,CJ,C4,↓CL] <;> rfl) (by omega) ?_
   intro i hi;unfold UQ;have f0:(2*(i:Int)).toNat=2*i:=by omega
   have f1:(2*(i:Int)+2)=2*((i+1:Nat):Int):=by omega
   by_cases U:2*(i:Int)<(R.length:Int)
   ·have e:=dJ E R i (by omega);have hl:((Gl E R).take i).length≤65536:=by rw[AH]; omega
    simp (disch:=omega) only[push_cast,↓reduceIte,CI,CO,CM,CJ,U,DK,PB,Ju,f0];refine EV (i+1) (by omega) (by omega) ?_;grind
   ·have e:(Gl E R).take i=Gl E R:=AE (by omega);simp (disch:=omega) only[push_cast,↓reduceIte,CI,CO,CM,CJ,CV,U,e,Ju,DK];refine EV (j+1) (by omega) (by omega) ?_;rw[hn,V,af];rfl
 ·have ah:last.toNat+1=j:=by omega
  have M:decide (0<j)=true:=by simp; omega
  simp (disch:=omega) only[push_cast,↓reduceIte,CI,CJ,h1,M,Tn,Pu,ah]
noncomputable def dK:List D→St→Option (D×St):=GP (α:=Int×List Dig×Dig×List Dig×Bool×Nat×Dig)
 (fun⟨i0,A,pz,row,r,j,pad⟩=>([.int .i64 (j:Int),Jg r 4 row,C9 pad,.ptr 2 0,.ptr 0 0],[⟨false,1,[.int .i64 i0],false⟩,⟨true,32,(A).map C9,false⟩,⟨false,1,[.row 1 (A).length 0 (A).length],false⟩,⟨false,1,C8 pz,false⟩]++H8 r row))
 (fun⟨i0,A,_,_,_,j,_⟩=>0≤i0∧i0<4611686018427387904∧j≤60∧A.length≤65536)
 (fun⟨i0,A,pz,row,r,j,pad⟩=>(.tup [],[⟨false,1,[.int .i64 i0],false⟩,⟨true,32,(A++[EJ row (F8 (i0 / 2 ^ j)) pad]).map C9,false⟩,⟨false,1,[.row 1 (A++[EJ row (F8 (i0 / 2 ^ j)) pad]).length 0 (A++[EJ row (F8 (i0 / 2 ^ j)) pad]).length],false⟩,⟨false,1,C8 pz,false⟩]++H8 r row))
theorem ySq(I:Int)(A:List Dig)(J:Dig)(row:List Dig)(j:Nat)(E:Dig)(h:0≤I∧I<4611686018427387904∧j≤60∧A.length≤65536) :
  dK [.int .i64 (j:Int),.slc (nz 32 (row.map C9)) (row.map C9) false,C9 E,.ptr 2 0,.ptr 0 0] [⟨false,1,[.int .i64 I],false⟩,⟨true,32,(A).map C9,false⟩,⟨false,1,[.row 1 (A).length 0 (A).length],false⟩,⟨false,1,C8 J,false⟩]=some (.tup [],[⟨false,1,[.int .i64 I],false⟩,⟨true,32,(A++[EJ row (F8 (I / 2 ^ j)) E]).map C9,false⟩,⟨false,1,[.row 1 (A++[EJ row (F8 (I / 2 ^ j)) E]).length 0 (A++[EJ row (F8 (I / 2 ^ j)) E]).length],false⟩,⟨false,1,C8 J,false⟩]):=by
 refine MD ?_ (I,A,J,row,false,j,E) h rfl;rintro⟨I,A,J,row,r,j,E⟩ ⟨Y,A',aa,M,U,j',V⟩ h;cases r <;> cases U <;> simp[Jg,H8,Kp,La,L3,Int.natCast_inj]at h
 all_goals simp[h]
theorem ySp(I:Int)(A:List Dig)(J:Dig)(row:List Dig)(j:Nat)(E:Dig)(h:0≤I∧I<4611686018427387904∧j≤60∧A.length≤65536) :
  dK [.int .i64 (j:Int),.row 4 row.length 0 row.length,C9 E,.ptr 2 0,.ptr 0 0] [⟨false,1,[.int .i64 I],false⟩,⟨true,32,(A).map C9,false⟩,⟨false,1,[.row 1 (A).length 0 (A).length],false⟩,⟨false,1,C8 J,false⟩,⟨true,32,row.map C9,false⟩]=some (.tup [],[⟨false,1,[.int .i64 I],false⟩,⟨true,32,(A++[EJ row (F8 (I / 2 ^ j)) E]).map C9,false⟩,⟨false,1,[.row 1 (A++[EJ row (F8 (I / 2 ^ j)) E]).length 0 (A++[EJ row (F8 (I / 2 ^ j)) E]).length],false⟩,⟨false,1,C8 J,false⟩,⟨true,32,row.map C9,false⟩]):=by
 refine MD ?_ (I,A,J,row,true,j,E) h rfl;rintro⟨I,A,J,row,r,j,E⟩ ⟨Y,A',aa,M,U,j',V⟩ h;cases r <;> cases U <;> simp[Jg,H8,Kp,La,L3,Int.natCast_inj]at h
 all_goals simp[h]
theorem Ypu:IContract Tryz.prog GG 92 dK:=by
 refine Rd (T:=tb [(93,S9)] []) yz7 (DI (all_cons Pj all_nil) all_nil) ?_;rintro⟨i0,A,J,row,r,j,pad⟩ ⟨M,U,V,Y⟩;have h8:=TU j;have h9:0≤i0 / 2 ^ j:=BB (by omega) (by omega);have I:i0 / 2 ^ j≤i0:=BY _ (by omega);have hs:0≤F8 (i0 / 2 ^ j):=by unfold F8; split <;> omega
 have E:(if i0 / 2 ^ j % 2=0 then i0 / 2 ^ j+1 else i0 / 2 ^ j - 1)=F8 (i0 / 2 ^ j):=rfl;unfold nZ;cases r
 ·simp (disch:=first|omega|decide) only[push_cast,↓reduceIte,CI,CO,CJ,bt,To,Yb,Yaz,E,PB]
 ·simp (disch:=first|omega|decide) only[push_cast,↓reduceIte,CI,CO,CJ,Tn,Pu,Yb,Yaz,E,PB]
noncomputable def Y0:List D→St→Option (D×St):=GP (α:=List Dig×Int×Int)
 (fun⟨l,last,i0⟩=>([.slc (nz 32 (l.map C9)) (l.map C9) false,.int .i64 last,.clo 92 [.ptr 2 0,.ptr 0 0]],[⟨false,1,[.int .i64 i0],false⟩,⟨true,32,[],false⟩,⟨false,1,[.row 1 0 0 0],false⟩]))
 (fun⟨l,last,i0⟩=>0≤i0∧i0<4611686018427387904∧0≤last∧last≤16∧l.length≤65536)
 (fun⟨l,last,i0⟩=>(.tup [],[⟨false,1,[.int .i64 i0],false⟩,⟨true,32,(Hj l i0 (last.toNat+1)).map C9,false⟩,⟨false,1,[.row 1 (Hj l i0 (last.toNat+1)).length 0 (Hj l i0 (last.toNat+1)).length],false⟩]))
theorem yO9(l:List Dig)(E I:Int)(h:0≤I∧I<4611686018427387904∧0≤E∧E≤16∧l.length≤65536) :
  Y0 [.slc (nz 32 (l.map C9)) (l.map C9) false,.int .i64 E,.clo 92 [.ptr 2 0,.ptr 0 0]] [⟨false,1,[.int .i64 I],false⟩,⟨true,32,[],false⟩,⟨false,1,[.row 1 0 0 0],false⟩]=
   some (.tup [],[⟨false,1,[.int .i64 I],false⟩,⟨true,32,(Hj l I (E.toNat+1)).map C9,false⟩,⟨false,1,[.row 1 (Hj l I (E.toNat+1)).length 0 (Hj l I (E.toNat+1)).length],false⟩]):=by
 refine MD ?_ (l,E,I) h rfl;rintro⟨l,E,I⟩ ⟨U,J,M⟩ h;simp[Kp]at h;simp[h]
theorem yZ9:IContract Tryz.prog GG 91 Y0:=by
 refine Rd (T:=tb [(20,NU),(93,S9),(95,Q2)] [(92,dK)]) oe
  (DI (all_cons Rt (all_cons Pj (all_cons Uf all_nil))) (all_cons Ypu all_nil)) ?_
 rintro⟨l,last,i0⟩ ⟨hk,Y,a6,a7,a8⟩;unfold fR;simp (disch:=omega) only[push_cast,↓reduceIte,CI,CJ,QZ,DK]
 refine FQ (fun j:Nat=>[(2,.clo 92 [.ptr 2 0,.ptr 0 0]),(6,Jg (decide (0<j)) 4 (EN l j)),(7,.ptr 3 0),(14,.int .i64 (last+1)),(15,.int .i64 (j:Int))])
  (fun j=>[⟨false,1,[.int .i64 i0],false⟩,⟨true,32,(Hj l i0 j).map C9,false⟩,⟨false,1,[.row 1 (Hj l i0 j).length 0 (Hj l i0 j).length],false⟩,⟨false,1,C8 (EF j),false⟩]++H8 (decide (0<j)) (EN l j))
  (fun j=>(j:Int)≤last+1) (fun j=>(last+1).toNat - j) 0 (by simp only[push_cast,↓reduceIte,CI,CO,CM,CJ,↓CL] <;> rfl) (by omega) ?_
 intro j hj;have hr:=fy l j;have I:=Q4 (EF j) (EN l j);have hn:EN l (j+1)=Gl (EF j) (EN l j):=rfl;have hp:EF (j+1)=G6 (EF j) (EF j):=rfl;have U:Hj l i0 j++[EJ (EN l j) (F8 (i0 / 2 ^ j)) (EF j)]=Hj l i0 (j+1):=rfl;have a9:=Zy l i0 j;unfold fV
 by_cases h1:(j:Int)<last+1
 ·by_cases hz:j=0
  ·subst hz;have J:decide (0<0)=false:=rfl;have ad:(0:Int)<last+1:=by omega
   have e0:EN l 0=l:=rfl;have e1:EF 0=Dq:=rfl;have e2:Hj l i0 0=[]:=rfl;have a5:[EJ l (F8 (i0 / 2 ^ 0)) Dq]=Hj l i0 1:=rfl;have ah:0≤i0∧i0<4611686018427387904∧0≤60∧([]:List Dig).length≤65536:=⟨hk,Y,by omega,by simp⟩;have M:=ySq i0 [] Dq l 0 Dq ah;rw[e0]at hr I hn;rw[e1]at I hn hp;simp only[Bj,As,Ao,Aw,An,Aq,↓CL]at M;rw[e0,e1,e2];simp (disch:=omega) only[push_cast,↓reduceIte,CI,CJ,C0,↓CL,bt,To,ad,M,Vp,DK,X5]
   refine FQ (fun i:Nat=>[(2,.clo 92 [.ptr 2 0,.ptr 0 0]),(6,.slc (nz 32 (l.map C9)) (l.map C9) false),(7,.ptr 3 0),(9,.row 4 ((Gl Dq l).take i).length 0 ((Gl Dq l).take i).length),(10,.int .i64 (2*(i:Int))),(14,.int .i64 (last+1)),(15,.int .i64 0)])
    (fun i=>[⟨false,1,[.int .i64 i0],false⟩,⟨true,32,(Hj l i0 1).map C9,false⟩,⟨false,1,[.row 1 (Hj l i0 1).length 0 (Hj l i0 1).length],false⟩,⟨false,1,C8 Dq,false⟩,⟨true,32,((Gl Dq l).take i).map C9,false⟩]) (fun i=>2*i≤l.length+1) (fun i=>l.length+1 - i) 0 (by simp only[push_cast,↓reduceIte,CI,CO,CM,CJ,C4,↓CL] <;> rfl) (by omega) ?_
   intro i hi;unfold UQ;have f0:(2*(i:Int)).toNat=2*i:=by omega
   have f1:(2*(i:Int)+2)=2*((i+1:Nat):Int):=by omega
   by_cases V:2*(i:Int)<(l.length:Int)
   ·have e:=dJ Dq l i (by omega);have hl:((Gl Dq l).take i).length≤65536:=by rw[AH]; omega
    simp (disch:=omega) only[push_cast,↓reduceIte,CI,CO,CM,CJ,V,Kj,DK,PB,Ju,f0];refine EV (i+1) (by omega) (by omega) ?_;grind
   ·have e:(Gl Dq l).take i=Gl Dq l:=AE (by omega);simp (disch:=omega) only[push_cast,↓reduceIte,CI,CO,CM,CJ,CV,CZ,V,e,Ju,DK];refine EV 1 (by omega) (by omega) ?_;rfl
  ·have J:decide (0<j)=true:=by simp; omega
   have a0:decide (0<j+1)=true:=by simp
   have a1:0≤i0∧i0<4611686018427387904∧j≤60∧(Hj l i0 j).length≤65536:=⟨hk,Y,by omega,by omega⟩;generalize EN l j=R at hr I hn U;generalize EF j=E at I hn hp U;simp (disch:=omega) only[push_cast,↓reduceIte,CI,CJ,J,Tn,Pu,h1,U,ySp _ _ _ _ _ _ a1,Vp,DK,X5]
   refine FQ (fun i:Nat=>[(2,.clo 92 [.ptr 2 0,.ptr 0 0]),(6,.row 4 R.length 0 R.length),(7,.ptr 3 0),(9,.row 5 ((Gl E R).take i).length 0 ((Gl E R).take i).length),(10,.int .i64 (2*(i:Int))),(14,.int .i64 (last+1)),(15,.int .i64 j)])
    (fun i=>[⟨false,1,[.int .i64 i0],false⟩,⟨true,32,(Hj l i0 (j+1)).map C9,false⟩,⟨false,1,[.row 1 (Hj l i0 (j+1)).length 0 (Hj l i0 (j+1)).length],false⟩,⟨false,1,C8 E,false⟩,⟨true,32,R.map C9,false⟩,⟨true,32,((Gl E R).take i).map C9,false⟩]) (fun i=>2*i≤R.length+1) (fun i=>R.length+1 - i) 0 (by simp only[push_cast,↓reduceIte,CI,CO,CM,CJ,C4,↓CL] <;> rfl) (by omega) ?_
   intro i hi;unfold UQ;have f0:(2*(i:Int)).toNat=2*i:=by omega
   have f1:(2*(i:Int)+2)=2*((i+1:Nat):Int):=by omega
   by_cases V:2*(i:Int)<(R.length:Int)
   ·have e:=dJ E R i (by omega);have hl:((Gl E R).take i).length≤65536:=by rw[AH]; omega
    simp (disch:=omega) only[push_cast,↓reduceIte,CI,CO,CM,CJ,V,DK,PB,Ju,f0];refine EV (i+1) (by omega) (by omega) ?_;grind
   ·have e:(Gl E R).take i=Gl E R:=AE (by omega);simp (disch:=omega) only[push_cast,↓reduceIte,CI,CO,CM,CJ,CV,V,e,Ju,DK];refine EV (j+1) (by omega) (by omega) ?_;rw[hn,hp,a0];rfl
 ·have a2:last.toNat+1=j:=by omega
  have J:decide (0<j)=true:=by simp; omega
  simp (disch:=omega) only[push_cast,↓reduceIte,CI,CO,CJ,h1,J,Tn,Pu,a2]
noncomputable def dQ:List D→Option D:=Dl (α:=List Dig×Int×Int) (fun a=>[.slc (nz 32 (a.1.map C9)) (a.1.map C9) false,.int .i64 a.2.1,.int .i64 a.2.2]) (fun a=>True) (fun a=>.tup [C9 (LL a.1 a.2.1 a.2.2),.bool (Jp a.1 a.2.1 a.2.2)])
theorem uz(l:List Dig)(E:Int)(k:Int):dQ [.slc (nz 32 (l.map C9)) (l.map C9) false,.int .i64 E,.int .i64 k]=some (.tup [C9 (LL l E k),.bool (Jp l E k)]):=
 D5 (fun⟨a0,a1,I⟩ ⟨b0,b1,J⟩ h=>by simp only[Aa,D.slc.injEq,D.int.injEq,Kp,true_and,and_true]at h; simp[h]) (l,E,k) trivial
theorem Yti(l:List Dig)(E:Int)(k:Int):@wW GG (tb [] [(91,YZ)]) ZI.code (Dc [.slc (nz 32 (l.map C9)) (l.map C9) false,.int .i64 E,.int .i64 k]) [] ⟨Dp ZI.res (.tup [C9 (LL l E k),.bool (Jp l E k)])⟩:=by
 unfold ZI;simp (disch:=omega) only[push_cast,↓reduceIte,CI,CJ];have bad:Jp l E k=false→LL l E k=Dt:=by intro h; unfold LL; simp[h]
 refine EU (fun I=>?_) (fun I=>?_)
 ·have e:Jp l E k=false:=by unfold Jp; simp; omega
  simp (disch:=omega) only[push_cast,↓reduceIte,CI,I,e,bad e]
 ·simp (disch:=omega) only[push_cast,↓reduceIte,CI,I];refine EU (fun J=>?_) (fun J=>?_)
  ·have e:Jp l E k=false:=by unfold Jp; simp; omega
   simp (disch:=omega) only[push_cast,↓reduceIte,CI,J,e,bad e]
  ·simp (disch:=omega) only[push_cast,↓reduceIte,CI,J];refine EU (fun M=>?_) (fun M=>?_)
   ·have e:Jp l E k=false:=by unfold Jp; simp; omega
    simp (disch:=omega) only[push_cast,↓reduceIte,CI,M,e,bad e]
   ·simp (disch:=omega) only[push_cast,↓reduceIte,CI,M];refine EU (fun U=>?_) (fun U=>?_)
    ·have e:Jp l E k=false:=by unfold Jp; simp; omega
     simp (disch:=omega) only[push_cast,↓reduceIte,CI,U,e,bad e]
    ·simp (disch:=omega) only[push_cast,↓reduceIte,CI,U,Fq,gM];refine EU (fun V=>?_) (fun V=>?_)
     ·have e:Jp l E k=false:=by unfold Jp; simp; omega
      simp (disch:=omega) only[push_cast,↓reduceIte,CI,V,e,bad e]
     ·have e:Jp l E k=true:=by unfold Jp; simp; omega
      have Y:LL l E k=D0 l E.toNat k:=by unfold LL; simp[e]
      have e3:LP l E k Dt (E.toNat+1)=D0 l E.toNat k:=by unfold LP; rw[if_pos (by omega)]
      have hc:=yPa l E E k Dt ⟨by omega,by omega,by omega,by omega⟩;rw[e3]at hc;simp (disch:=omega) only[push_cast,↓reduceIte,CI,V,e,Y,hc]
theorem za:Contract Tryz.prog GG 63 dQ:=
 Ed (T:=tb [] [(91,YZ)]) yFj (DI all_nil (all_cons Yaa all_nil)) (fun a h=>Yti a.1 a.2.1 a.2.2)
noncomputable def dR:List D→Option D:=Dl (α:=List Dig) (fun a=>[.slc (nz 32 (a.map C9)) (a.map C9) false]) (fun a=>True) (fun a=>.tup [.agg (.int .i64 (Eo a).1::C8 (Eo a).2),.int .i64 (JO a)])
theorem uA(l:List Dig):dR [.slc (nz 32 (l.map C9)) (l.map C9) false]=some (.tup [.agg (.int .i64 (Eo l).1::C8 (Eo l).2),.int .i64 (JO l)]):=
 D5 (fun a b h=>by simp only[Aa,D.slc.injEq,Kp,and_true]at h; simp[h]) (l) trivial
theorem Ytg(l:List Dig):@wW GG (tb [(25,Ma),(63,dQ)] []) ZK.code (Dc [.slc (nz 32 (l.map C9)) (l.map C9) false]) [] ⟨Dp ZK.res (.tup [.agg (.int .i64 (Eo l).1::C8 (Eo l).2),.int .i64 (JO l)])⟩:=by
 unfold ZK;simp (disch:=omega) only[push_cast,↓reduceIte,CI];refine EU (fun E=>?_) (fun E=>?_)
 ·have e:Eo l=mB:=by unfold Eo; rw[if_neg (by omega)]
  have I:JO l=2:=by unfold JO; rw[if_neg (by omega)]
  simp (disch:=omega) only[push_cast,↓reduceIte,CI,E,e,I,mB]
 ·have e:Eo l=((l.length:Int),D0 l (DN l.length).toNat 0):=by unfold Eo; rw[if_pos (by omega)]
  have I:JO l=0:=by unfold JO; rw[if_pos (by omega)]
  obtain⟨d1,d2,d3⟩:=L8 (n:=l.length) (by omega) (by omega);have U:=TU (16 - DN l.length).toNat;have J:Jp l (DN l.length) 0=true:=by unfold Jp; simp; omega
  have M:LL l (DN l.length) 0=D0 l (DN l.length).toNat 0:=by unfold LL; simp[J]
  simp (disch:=omega) only[push_cast,↓reduceIte,CI,E,e,I,J,M,M4,uz]
theorem Yyy:Contract Tryz.prog GG 22 dR:=
 Ed yFh (DI (all_cons QQ (all_cons za all_nil)) all_nil) (fun a h=>Ytg a)
noncomputable def jx:List D→Option D:=Dl (α:=List Dig×Int) (fun a=>[.slc (nz 32 (a.1.map C9)) (a.1.map C9) false,.int .i64 a.2]) (fun a=>True) (fun a=>.tup [.slc (nz 32 ((IC a.1 a.2).map C9)) ((IC a.1 a.2).map C9) false,.int .i64 (I8 a.1 a.2)])
theorem Yak(l:List Dig)(i:Int):jx [.slc (nz 32 (l.map C9)) (l.map C9) false,.int .i64 i]=some (.tup [.slc (nz 32 ((IC l i).map C9)) ((IC l i).map C9) false,.int .i64 (I8 l i)]):=
 D5 (fun⟨a0,a1⟩ ⟨b0,b1⟩ h=>by simp only[Aa,D.slc.injEq,D.int.injEq,Kp,true_and,and_true]at h; simp[h]) (l,i) trivial
theorem Yth(l:List Dig)(i:Int):@wW GG (tb [(25,Ma)] [(91,Y0)]) ZJ.code (Dc [.slc (nz 32 (l.map C9)) (l.map C9) false,.int .i64 i]) [] ⟨Dp ZJ.res (.tup [.slc (nz 32 ((IC l i).map C9)) ((IC l i).map C9) false,.int .i64 (I8 l i)])⟩:=by
 unfold ZJ;simp (disch:=omega) only[push_cast,↓reduceIte,CI];refine EU (fun I=>?_) (fun I=>?_)
 ·have e:IC l i=[]:=by unfold IC; rw[if_neg (by omega)]
  have E:I8 l i=2:=by unfold I8; rw[if_pos (by omega)]
  simp (disch:=omega) only[push_cast,↓reduceIte,CI,I,e,E]
 ·obtain⟨d1,d2,d3⟩:=L8 (n:=l.length) (by omega) (by omega);simp (disch:=omega) only[push_cast,↓reduceIte,CI,I,M4];refine EU (fun J=>?_) (fun J=>?_)
  ·have e:IC l i=[]:=by unfold IC; rw[if_neg (by omega)]
   have E:I8 l i=1:=by unfold I8; rw[if_neg (by omega),if_neg (by omega)]
   simp (disch:=omega) only[push_cast,↓reduceIte,CI,J,e,E]
  ·simp (disch:=omega) only[push_cast,↓reduceIte,CI,J,gM];refine EU (fun M=>?_) (fun M=>?_)
   ·have e:IC l i=[]:=by unfold IC; rw[if_neg (by omega)]
    have E:I8 l i=1:=by unfold I8; rw[if_neg (by omega),if_neg (by omega)]
    simp (disch:=omega) only[push_cast,↓reduceIte,CI,M,e,E]
   ·have e:IC l i=Hj l i (DN l.length).toNat:=by unfold IC; rw[if_pos (by omega)]
    have E:I8 l i=0:=by unfold I8; rw[if_neg (by omega),if_pos (by omega)]
    have Y:(2:Int) ^ (DN l.length).toNat≤2 ^ 16:=TT (by omega);rw[e,E];simp (disch:=omega) only[push_cast,↓reduceIte,CI,CJ,M,Vp];refine EU (fun U=>?_) (fun U=>?_)
    ·have hc:=yO9 l (DN l.length - 1) i ⟨by omega,by omega,by omega,by omega,by omega⟩;have V:(DN l.length - 1).toNat+1=(DN l.length).toNat:=by omega
     rw[V]at hc;simp (disch:=omega) only[push_cast,↓reduceIte,CI,U,Fq,hc]
    ·have V:(DN l.length).toNat=0:=by omega
     rw[V];simp (disch:=omega) only[push_cast,↓reduceIte,CI,C0,U];rfl
theorem Yyz:Contract Tryz.prog GG 38 jx:=
 Ed (T:=tb [(25,Ma)] [(91,Y0)]) yFi (DI (all_cons QQ all_nil) (all_cons yZ9 all_nil)) (fun a h=>Yth a.1 a.2)
theorem Um(l:List Dig)(n:Nat)(k:Int)(hk:0≤k):D0 l (n+1) k=G6 (D0 l n (2*k)) (D0 l n (2*k+1)):=by
 unfold D0
 show EJ (Gl (EF n) (EN l n)) k (EF (n+1))=_
 have hl:=Q4 (EF n) (EN l n);unfold EJ
 by_cases h:k<((Gl (EF n) (EN l n)).length:Int)
 ·rw[if_pos h,ic (EF n) (EN l n) k.toNat (by omega),if_pos (show 2*k<((EN l n).length:Int) by omega)];unfold EJ;grind
 ·rw[if_neg h,if_neg (show ¬ 2*k<((EN l n).length:Int) by omega),if_neg (show ¬ 2*k+1<((EN l n).length:Int) by omega)];rfl
theorem qN(j:Int)(n:Nat):j / 2 ^ (n+1)=j / 2 ^ n / 2:=by
 have:=TU n;rw[Int.ediv_ediv_of_nonneg (by omega),CH]
theorem yOv(p q:List Dig):∀ (i:Nat) (x:Dig),Ke i x (p++q)=Ke (i / 2 ^ p.length) (Ke i x p) q:=by
 induction p with
 |nil=>intro i x; simp[Ke]
 |cons a r E=>
  intro i x
  show Ke (i / 2) _ (r++q)=_
  rw[E,An,Cu,B2,← Nat.div_div_eq_div_mul];rfl
theorem Ybk(i:Int)(hi:0≤i)(n:Nat):((i.toNat / 2 ^ n:Nat):Int)=i / 2 ^ n:=by
 grind
theorem uM(l:List Dig)(i:Int)(hi:0≤i):∀ n:Nat,Ke i.toNat (D0 l 0 i) (Hj l i n)=D0 l n (i / 2 ^ n)
 |0=>by simp[Hj,Ke]
 |n+1=>by
  have E:=TU n;have I:0≤i / 2 ^ n:=BB hi (by omega);have J:=Ybk i hi n
  show Ke i.toNat (D0 l 0 i) (Hj l i n++[D0 l n (F8 (i / 2 ^ n))])=_
  rw[yOv,uM l i hi n,Zy]
  show(if i.toNat / 2 ^ n % 2=0 then G6 (D0 l n (i / 2 ^ n)) (D0 l n (F8 (i / 2 ^ n)))else G6 (D0 l n (F8 (i / 2 ^ n))) (D0 l n (i / 2 ^ n)))=_
  rw[Um l n (i / 2 ^ (n+1)) (by rw[qN]; omega),qN];generalize i / 2 ^ n=m at*;unfold F8;grind
theorem YFu(l:List Dig)(k:Int)(E:Dig)(h:(l.length:Int)≤k):EJ l k E=E:=by
 unfold EJ; rw[if_neg (by omega)]
theorem nJ(l:List Dig)(i:Int)(hl:(l.length:Int)≤65536)(hi:0≤i)(h:i<2 ^ (DN l.length).toNat):Iv (Eo l) i (D0 l 0 i) (IC l i)=true:=by
 obtain⟨d1,d2,d3⟩:=L8 (n:=l.length) (by omega) (by omega);have E:Eo l=((l.length:Int),D0 l (DN l.length).toNat 0):=by unfold Eo; rw[if_pos hl]
 have I:IC l i=Hj l i (DN l.length).toNat:=by unfold IC; rw[if_pos ⟨hl,hi,h⟩]
 unfold Iv;rw[E,I,uM l i hi,Zy,Int.ediv_eq_zero_of_lt hi h];simp;omega
def Hl(x:Bis):Bool:=if x.h<0 then false else if 16<x.h then false else if x.l<0 then false else if x.h<x.l then false else if 0≤x.i then(if x.i<2 ^ (x.h - x.l).toNat then decide (x.r=x.h - x.l)else false)else false
variable {x:Bis}
theorem Zo(h:Hl x=true):0≤x.h∧x.h≤16∧0≤x.l∧x.l≤x.h∧0≤x.i∧x.i<2 ^ (x.h - x.l).toNat∧x.r=x.h - x.l:=by
 unfold Hl at h
 split at h; · cases h
 split at h; · cases h
 split at h; · cases h
 split at h; · cases h
 split at h
 ·split at h
  ·exact⟨by omega,by omega,by omega,by omega,by assumption,by assumption,of_decide_eq_true h⟩
  ·cases h
 ·cases h
theorem Yjf(M:0≤x.h)(U:x.h≤16)(V:0≤x.l)(Y:x.l≤x.h)(E:0≤x.i)(I:x.i<2 ^ (x.h - x.l).toNat)(J:x.r=x.h - x.l):Hl x=true:=by
 unfold Hl;rw[if_neg (by omega),if_neg (by omega),if_neg (by omega),if_neg (by omega),if_pos E,if_pos I];exact decide_eq_true J
variable {k:Nat}{i:Int}
theorem yOl(E:0≤i):i / 2 ^ k=0↔i<2 ^ k:=by
 have I:(0:Int)<2 ^ k:=Int.pow_pos (by decide);constructor
 ·intro h;have:=Int.emod_lt_of_pos i I;have e:=Cg i (2 ^ k);rw[h]at e;omega
 ·intro h;exact Int.ediv_eq_zero_of_lt E h
noncomputable def Us:List D→Option D:=Dl (α:=Bis) (fun a=>[DZ a]) (fun a=>True) (fun a=>.bool (Hl a))
theorem Ze(x:Bis):Us [DZ x]=some (.bool (Hl x)):=
 D5 (fun a b h=>by simp only[Aa,and_true,TK]at h; simp[h]) (x) trivial
theorem Ykk(x:Bis):@wW GG (tb [] []) ZP.code (Dc [DZ x]) [] ⟨Dp ZP.res (.bool (Hl x))⟩:=by
 unfold ZP Hl
 by_cases E:x.h<0
 ·simp (disch:=first|omega|decide) only[push_cast,↓reduceIte,CI,E]
 by_cases I:16<x.h
 ·simp (disch:=first|omega|decide) only[push_cast,↓reduceIte,CI,E,I]
 by_cases J:x.l<0
 ·simp (disch:=first|omega|decide) only[push_cast,↓reduceIte,CI,E,I,J]
 by_cases M:x.h<x.l
 ·simp (disch:=first|omega|decide) only[push_cast,↓reduceIte,CI,E,I,J,M]
 by_cases U:0≤x.i
 ·have e:=yOl (k:=(x.h - x.l).toNat) U
  by_cases V:x.i<2 ^ (x.h - x.l).toNat
  ·simp (disch:=first|omega|decide) only[push_cast,↓reduceIte,CI,E,I,J,M,U,V,Fq,Yb,e]
  ·simp (disch:=first|omega|decide) only[push_cast,↓reduceIte,CI,E,I,J,M,U,V,Fq,Yb,e]
 ·simp (disch:=first|omega|decide) only[push_cast,↓reduceIte,CI,E,I,J,M,U]
theorem iR:Contract Tryz.prog GG 77 Us:=
 Ed yB9 (DI all_nil all_nil) (fun a h=>Ykk a)
theorem Yz0(n:Int)(h:0≤n∧n≤60):@wW GG (tb [(51,Yb3),(162,vG)] []) fZ.code (Dc [.int .i64 n]) [] ⟨Dp fZ.res (C9 (EF n.toNat))⟩:=by
 obtain⟨I,J⟩:=h;unfold fZ;simp (disch:=omega) only[push_cast,↓reduceIte,CI,Yik];refine FQ (fun i:Nat=>[(0,.int .i64 n),(2,.ptr 0 0),(3,.ptr 1 0),(4,.int .i64 (i:Int))]) (fun i=>[⟨false,1,C8 Dt,false⟩,⟨false,1,C8 (EF i),false⟩]) (fun i=>(i:Int)≤n) (fun i=>(n - i).toNat) 0 (by simp only[push_cast,↓reduceIte,CI,CO,CM,CJ,↓CL] <;> rfl) (by omega) ?_;intro i hi;unfold po;simp (disch:=omega) only[push_cast,↓reduceIte,CI];refine EU (fun E=>?_) (fun E=>?_)
 ·simp (disch:=first|omega|decide) only[push_cast,↓reduceIte,CI,CO,CM,CJ,yO5,DK];refine EV (i+1) (by omega) (by omega) ?_;simp only[push_cast] <;> rfl
 ·have e:n.toNat=i:=by omega
  rw[e];simp (disch:=omega) only[push_cast,↓reduceIte,CI,CJ,E]
def Fh(s:Int)(root:Dig):Nat→Dig
 |0=>root
 |j+1=>if DN s≤(j:Int)then G6 (Fh s root j) (EF j)else Fh s root j
theorem rf(s:Int)(E:Dig):∀ j:Nat,(j:Int)≤DN s→Fh s E j=E
 |0,_=>rfl
 |j+1,h=>by
  rw[Fh,if_neg (by omega)];exact rf s E j (by omega)
noncomputable def eX:List D→Option D:=Dl (α:=(Int×Dig)×Int) (fun a=>[.agg (.int .i64 (C5 a.1)::C8 (C6 a.1)),.int .i64 a.2]) (fun a=>0≤a.2∧a.2≤60) (fun a=>C9 (Fh a.1.1 a.1.2 a.2.toNat))
theorem nA(c:Int×Dig)(n:Int)(h:0≤n∧n≤60):eX [.agg (.int .i64 (C5 c)::C8 (C6 c)),.int .i64 n]=some (C9 (Fh c.1 c.2 n.toNat)):=
 D5 (fun⟨a0,a1⟩ ⟨b0,b1⟩ h=>by simp only[Aa,D.int.injEq,D.agg.injEq,L3,true_and,and_true]at h; simp[h,Cw]) (c,n) h
theorem Ya7(c:Int×Dig)(n:Int)(h:0≤n∧n≤60):@wW GG (tb [(20,NU),(95,Q2),(25,Ma)] []) Z3.code (Dc [.agg (.int .i64 (C5 c)::C8 (C6 c)),.int .i64 n]) [] ⟨Dp Z3.res (C9 (Fh c.1 c.2 n.toNat))⟩:=by
 obtain⟨s,root⟩:=c;obtain⟨J,M⟩:=h;dsimp only;unfold Z3;simp (disch:=omega) only[push_cast,↓F4,↓reduceIte,CI,CO,CJ,QZ,J5,qG];refine FQ (fun i:Nat=>[(2,.ptr 0 0),(4,.ptr 1 0),(5,.ptr 2 0),(6,.ptr 3 0),(11,.int .i64 n),(12,.int .i64 (i:Int))]) (fun i=>[⟨false,1,.int .i64 s::C8 root,false⟩,⟨false,1,C8 Dt,false⟩,⟨false,1,C8 (Fh s root i),false⟩,⟨false,1,C8 (EF i),false⟩]) (fun i=>(i:Int)≤n) (fun i=>(n - i).toNat) 0 (by simp only[push_cast,↓reduceIte,CI,CO,CM,CJ,↓CL] <;> rfl) (by omega) ?_;intro i hi;unfold oB;simp (disch:=omega) only[push_cast,↓reduceIte,CI];refine EU (fun I=>?_) (fun I=>?_)
 ·simp (disch:=first|omega|decide) only[push_cast,↓reduceIte,CI,M4,MA,I];refine EU (fun E=>?_) (fun E=>?_)
  ·simp (disch:=first|omega|decide) only[push_cast,↓reduceIte,CI,CO,CM,CJ,Ju,DK,E];refine EV (i+1) (by omega) (by omega) ?_;rw[show Fh s root (i+1)=G6 (Fh s root i) (EF i)from if_pos E];simp only[push_cast] <;> rfl
  ·simp (disch:=first|omega|decide) only[push_cast,↓reduceIte,CI,CO,CM,CJ,Ju,DK,E];refine EV (i+1) (by omega) (by omega) ?_;rw[show Fh s root (i+1)=Fh s root i from if_neg E];simp only[push_cast] <;> rfl
 ·have e:n.toNat=i:=by omega
  rw[e];simp (disch:=omega) only[push_cast,↓reduceIte,CI,CJ,I]
theorem Yja:Contract Tryz.prog GG 76 eX:=
 Ed yAg (DI (all_cons Rt (all_cons Uf (all_cons QQ all_nil))) all_nil) (fun a h=>Ya7 a.1 a.2 h)
theorem E8(st:St)(n sz key off:Nat)(k:IntKind)(i:Int)(E:0≤i)(I:i<(n:Int)):Jm st n sz (.ptr key off) (.int k i)=some (.ptr key (off+i.toNat*sz)):=by
 simp only[Jm,QR k i E,FC];rw[if_pos (by omega)]
def Mr(a b:Int×Dig):Bis:=⟨max (DN a.1) (DN b.1),max (DN a.1) (DN b.1),0,Fh a.1 a.2 (max (DN a.1) (DN b.1)).toNat,Fh b.1 b.2 (max (DN a.1) (DN b.1)).toNat,false,false,Dt,Dt,Dt,Dt,0⟩
def Kd(a b:Int×Dig):Bis:=if DN a.1<0 then F6 else if DN b.1<0 then F6 else if(Mr a b).n0=(Mr a b).n1 then F6 else Mr a b
def GN(a b:Int×Dig):Int:=if DN a.1<0 then 1 else if DN b.1<0 then 1 else if(Mr a b).n0=(Mr a b).n1 then 380 else 0
theorem fJ(n:Int):-1≤DN n∧DN n≤16:=by
 by_cases h:n<0∨65536<n
 ·rw[Uy h]; omega
 ·have:=L8 (n:=n) (by omega) (by omega);omega
noncomputable def N3:List D→Option D:=Dl (α:=(Int×Dig)×(Int×Dig)) (fun a=>[.agg (.int .i64 (C5 a.1)::C8 (C6 a.1)),.agg (.int .i64 (C5 a.2)::C8 (C6 a.2))]) (fun a=>True) (fun a=>.tup [DZ (Kd a.1 a.2),.int .i64 (GN a.1 a.2)])
theorem Zp(a:Int×Dig)(b:Int×Dig):N3 [.agg (.int .i64 (C5 a)::C8 (C6 a)),.agg (.int .i64 (C5 b)::C8 (C6 b))]=some (.tup [DZ (Kd a b),.int .i64 (GN a b)]):=
 D5 (fun⟨a0,a1⟩ ⟨b0,b1⟩ h=>by simp only[Aa,D.int.injEq,D.agg.injEq,L3,true_and,and_true]at h; simp[h,Cw]) (a,b) trivial
set_option maxHeartbeats 4000000 in
set_option maxRecDepth 20000 in
theorem Ykn(a:Int×Dig)(b:Int×Dig):@wW GG (tb [(25,Ma),(76,eX)] []) ZO.code (Dc [.agg (.int .i64 (C5 a)::C8 (C6 a)),.agg (.int .i64 (C5 b)::C8 (C6 b))]) [] ⟨Dp ZO.res (.tup [DZ (Kd a b),.int .i64 (GN a b)])⟩:=by
 obtain⟨s1,r1⟩:=a;obtain⟨s2,E⟩:=b;have d1:=fJ s1;have d2:=fJ s2;unfold ZO Kd GN;dsimp only
 by_cases I:DN s1<0
 ·simp (disch:=first|omega|decide) only[push_cast,↓reduceIte,CI,CJ,J5,MA,M4,I]
 by_cases J:DN s2<0
 ·simp (disch:=first|omega|decide) only[push_cast,↓reduceIte,CI,CJ,J5,MA,M4,I,J]
 have c1:=nA (s1,r1) (max (DN s1) (DN s2)) ⟨by omega,by omega⟩;have M:=nA (s2,E) (max (DN s1) (DN s2)) ⟨by omega,by omega⟩;dsimp only at c1 M;have V:(Mr (s1,r1) (s2,E)).n0=Fh s1 r1 (max (DN s1) (DN s2)).toNat:=rfl;have Y:(Mr (s1,r1) (s2,E)).n1=Fh s2 E (max (DN s1) (DN s2)).toNat:=rfl;have e3:Mr (s1,r1) (s2,E)={F6 with h:=max (DN s1) (DN s2),l:=max (DN s1) (DN s2),n0:=Fh s1 r1 (max (DN s1) (DN s2)).toNat,n1:=Fh s2 E (max (DN s1) (DN s2)).toNat}:=rfl;rw[V,Y,e3];generalize Fh s1 r1 (max (DN s1) (DN s2)).toNat=p1 at*;generalize Fh s2 E (max (DN s1) (DN s2)).toNat=p2 at*
 by_cases U:p1=p2
 ·simp (disch:=first|omega|decide) only[push_cast,↓reduceIte,CI,CJ,CP,J5,MA,SO,M4,I,J,c1,M,U,NW,E8]
 ·simp (disch:=first|omega|decide) only[push_cast,↓reduceIte,CI,CJ,CP,J5,MA,SO,M4,I,J,c1,M,U,NW,E8]
theorem cQ:Contract Tryz.prog GG 26 N3:=
 Ed yCa (DI (all_cons QQ (all_cons Yja all_nil)) all_nil) (fun a h=>Ykn a.1 a.2)
def OY(x:Bis)(p:Int):Bool:=if p=0 then x.t0 else x.t1
def Qk(x:Bis)(p:Int):Dig:=if p=0 then x.n0 else x.n1
def EC(x:Bis)(p:Int)(l r:Dig):Bis:=if p=0 then {x with t0:=true,l0:=l,r0:=r} else {x with t1:=true,l1:=l,r1:=r}
def Od(x:Bis):Bis:=if x.l0=x.l1 then {F6 with h:=x.h,l:=x.l - 1,i:=2*x.i+1,n0:=x.r0,n1:=x.r1,r:=x.r+1} else {F6 with h:=x.h,l:=x.l - 1,i:=2*x.i,n0:=x.l0,n1:=x.l1,r:=x.r+1}
def FG(x:Bis)(p:Int)(l r:Dig):Bis:=if Hl x=true∧(p=0∨p=1)then(if x.l=0∨OY x p=true then F6 else if G6 l r=Qk x p then(if OY x (1 - p)=true then Od (EC x p l r)else EC x p l r)else F6)else F6
def F3(x:Bis)(p:Int)(l r:Dig):Int:=if Hl x=true∧(p=0∨p=1)then(if x.l=0∨OY x p=true then 380 else if G6 l r=Qk x p then 0 else 381)else 1
theorem gr(h:Hl x=true):x.i<65536:=by
 obtain⟨a,b,c,d,e,f,g⟩:=Zo h;have:=TT (a:=(x.h - x.l).toNat) (b:=16) (by omega);omega
noncomputable def jl:List D→Option D:=Dl (α:=Bis×Int×Dig×Dig) (fun a=>[DZ a.1,.int .i64 a.2.1,C9 a.2.2.1,C9 a.2.2.2]) (fun a=>-9223372036854775808≤a.2.1∧a.2.1<9223372036854775808) (fun a=>.tup [DZ (FG a.1 a.2.1 a.2.2.1 a.2.2.2),.int .i64 (F3 a.1 a.2.1 a.2.2.1 a.2.2.2)])
theorem Yal(x:Bis)(p:Int)(l:Dig)(r:Dig)(h:-9223372036854775808≤p∧p<9223372036854775808):jl [DZ x,.int .i64 p,C9 l,C9 r]=some (.tup [DZ (FG x p l r),.int .i64 (F3 x p l r)]):=
 D5 (fun⟨a0,a1,E,I⟩ ⟨b0,b1,J,M⟩ h=>by simp only[Aa,D.int.injEq,La,true_and,and_true,TK]at h; simp[h]) (x,p,l,r) h
set_option maxHeartbeats 4000000 in
set_option maxRecDepth 20000 in
theorem Ytt(x:Bis)(p:Int)(l:Dig)(r:Dig)(h:-9223372036854775808≤p∧p<9223372036854775808):@wW GG (tb [(77,Us),(95,Q2)] []) ai.code (Dc [DZ x,.int .i64 p,C9 l,C9 r]) [] ⟨Dp ai.res (.tup [DZ (FG x p l r),.int .i64 (F3 x p l r)])⟩:=by
 unfold ai
 by_cases hv:Hl x=true
 ·have V:=Ze x;rw[hv]at V
  by_cases hp:p=0∨p=1
  ·obtain⟨v1,v2,v3,v4,v5,v6,v7⟩:=Zo hv;have v8:=gr hv;rcases hp with rfl | rfl
   ·have q1:¬ (1:Int)=0:=by decide
    by_cases E:x.l=0
    ·have I:FG x 0 l r=F6:=by unfold FG; rw[if_pos ⟨hv,.inl rfl⟩,if_pos (.inl E)]
     have J:F3 x 0 l r=380:=by unfold F3; rw[if_pos ⟨hv,.inl rfl⟩,if_pos (.inl E)]
     rw[I,J];simp (disch:=first|omega|decide) only[push_cast,↓reduceIte,CI,CJ,V,E]
    by_cases M:x.t0=true
    ·have I:FG x 0 l r=F6:=by unfold FG; rw[if_pos ⟨hv,.inl rfl⟩,if_pos (.inr M)]
     have J:F3 x 0 l r=380:=by unfold F3; rw[if_pos ⟨hv,.inl rfl⟩,if_pos (.inr M)]
     rw[I,J];simp (disch:=first|omega|decide) only[push_cast,↓reduceIte,CI,CJ,CP,V,E,M,E8]
    have Y:x.t0=false:=by simpa using M
    by_cases U:G6 l r=x.n0
    ·by_cases h4:x.t1=true
     ·have I:FG x 0 l r=Od (EC x 0 l r):=by unfold FG; rw[if_pos ⟨hv,.inl rfl⟩,if_neg (by intro h; rcases h with h | h; exact E h; exact M h),if_pos (show G6 l r=Qk x 0 from U)]; exact if_pos h4
      have J:F3 x 0 l r=0:=by unfold F3; rw[if_pos ⟨hv,.inl rfl⟩,if_neg (by intro h; rcases h with h | h; exact E h; exact M h)]; exact if_pos U
      rw[I,J,show EC x 0 l r={x with t0:=true,l0:=l,r0:=r} from rfl];unfold Od
      by_cases h5:l=x.l1
      ·simp (disch:=first|omega|decide) only[push_cast,↓F4,↓reduceIte,CI,CJ,CP,CV,C3,V,E,Y,U,h4,← h5,E8,Ju,Fq,Nc,DK,NW]
      ·simp (disch:=first|omega|decide) only[push_cast,↓F4,↓reduceIte,CI,CJ,CP,CV,C3,V,E,Y,U,h4,h5,E8,Ju,Fq,Nc,DK,NW]
     ·have ae:x.t1=false:=by simpa using h4
      have I:FG x 0 l r=EC x 0 l r:=by unfold FG; rw[if_pos ⟨hv,.inl rfl⟩,if_neg (by intro h; rcases h with h | h; exact E h; exact M h),if_pos (show G6 l r=Qk x 0 from U)]; exact if_neg h4
      have J:F3 x 0 l r=0:=by unfold F3; rw[if_pos ⟨hv,.inl rfl⟩,if_neg (by intro h; rcases h with h | h; exact E h; exact M h)]; exact if_pos U
      rw[I,J,show EC x 0 l r={x with t0:=true,l0:=l,r0:=r} from rfl];simp (disch:=first|omega|decide) only[push_cast,↓F4,↓reduceIte,CI,CJ,CP,CV,C3,V,E,Y,U,ae,E8,Ju,Fq]
    ·have I:FG x 0 l r=F6:=by unfold FG; rw[if_pos ⟨hv,.inl rfl⟩,if_neg (by intro h; rcases h with h | h; exact E h; exact M h)]; exact if_neg U
     have J:F3 x 0 l r=381:=by unfold F3; rw[if_pos ⟨hv,.inl rfl⟩,if_neg (by intro h; rcases h with h | h; exact E h; exact M h)]; exact if_neg U
     rw[I,J];simp (disch:=first|omega|decide) only[push_cast,↓reduceIte,CI,CJ,CP,V,E,Y,U,E8,Ju]
   ·have q1:¬ (1:Int)=0:=by decide
    by_cases E:x.l=0
    ·have I:FG x 1 l r=F6:=by unfold FG; rw[if_pos ⟨hv,.inr rfl⟩,if_pos (.inl E)]
     have J:F3 x 1 l r=380:=by unfold F3; rw[if_pos ⟨hv,.inr rfl⟩,if_pos (.inl E)]
     rw[I,J];simp (disch:=first|omega|decide) only[push_cast,↓reduceIte,CI,CJ,V,E,q1]
    by_cases M:x.t1=true
    ·have I:FG x 1 l r=F6:=by unfold FG; rw[if_pos ⟨hv,.inr rfl⟩,if_pos (.inr M)]
     have J:F3 x 1 l r=380:=by unfold F3; rw[if_pos ⟨hv,.inr rfl⟩,if_pos (.inr M)]
     rw[I,J];simp (disch:=first|omega|decide) only[push_cast,↓reduceIte,CI,CJ,CP,V,E,M,q1,E8]
    have Y:x.t1=false:=by simpa using M
    by_cases U:G6 l r=x.n1
    ·by_cases h4:x.t0=true
     ·have I:FG x 1 l r=Od (EC x 1 l r):=by unfold FG; rw[if_pos ⟨hv,.inr rfl⟩,if_neg (by intro h; rcases h with h | h; exact E h; exact M h),if_pos (show G6 l r=Qk x 1 from U)]; exact if_pos h4
      have J:F3 x 1 l r=0:=by unfold F3; rw[if_pos ⟨hv,.inr rfl⟩,if_neg (by intro h; rcases h with h | h; exact E h; exact M h)]; exact if_pos U
      rw[I,J,show EC x 1 l r={x with t1:=true,l1:=l,r1:=r} from rfl];unfold Od
      by_cases h5:l=x.l0
      ·simp (disch:=first|omega|decide) only[push_cast,↓F4,↓reduceIte,CI,CJ,CP,CV,C3,V,E,Y,U,h4,q1,← h5,E8,Ju,Fq,Nc,DK,NW]
      ·have h6:¬ x.l0=l:=fun h=>h5 h.symm;simp (disch:=first|omega|decide) only[push_cast,↓F4,↓reduceIte,CI,CJ,CP,CV,C3,V,E,Y,U,h4,h5,h6,q1,E8,Ju,Fq,Nc,DK,NW]
     ·have ae:x.t0=false:=by simpa using h4
      have I:FG x 1 l r=EC x 1 l r:=by unfold FG; rw[if_pos ⟨hv,.inr rfl⟩,if_neg (by intro h; rcases h with h | h; exact E h; exact M h),if_pos (show G6 l r=Qk x 1 from U)]; exact if_neg h4
      have J:F3 x 1 l r=0:=by unfold F3; rw[if_pos ⟨hv,.inr rfl⟩,if_neg (by intro h; rcases h with h | h; exact E h; exact M h)]; exact if_pos U
      rw[I,J,show EC x 1 l r={x with t1:=true,l1:=l,r1:=r} from rfl];simp (disch:=first|omega|decide) only[push_cast,↓F4,↓reduceIte,CI,CJ,CP,CV,C3,V,E,Y,U,ae,q1,E8,Ju,Fq]
    ·have I:FG x 1 l r=F6:=by unfold FG; rw[if_pos ⟨hv,.inr rfl⟩,if_neg (by intro h; rcases h with h | h; exact E h; exact M h)]; exact if_neg U
     have J:F3 x 1 l r=381:=by unfold F3; rw[if_pos ⟨hv,.inr rfl⟩,if_neg (by intro h; rcases h with h | h; exact E h; exact M h)]; exact if_neg U
     rw[I,J];simp (disch:=first|omega|decide) only[push_cast,↓reduceIte,CI,CJ,CP,V,E,Y,U,q1,E8,Ju]
  ·have I:FG x p l r=F6:=by unfold FG; exact if_neg fun h=>hp h.2
   have J:F3 x p l r=1:=by unfold F3; exact if_neg fun h=>hp h.2
   have p0:¬ p=0:=fun h=>hp (.inl h);have p1:¬ p=1:=fun h=>hp (.inr h);rw[I,J];simp (disch:=first|omega|decide) only[push_cast,↓reduceIte,CI,CJ,V,p0,p1]
 ·have af:Hl x=false:=by simpa using hv
  have V:=Ze x;rw[af]at V;have I:FG x p l r=F6:=by unfold FG; exact if_neg fun h=>hv h.1
  have J:F3 x p l r=1:=by unfold F3; exact if_neg fun h=>hv h.1
  rw[I,J];simp (disch:=first|omega|decide) only[push_cast,↓reduceIte,CI,CJ,V]
theorem Yy4:Contract Tryz.prog GG 122 jl:=
 Ed yv4 (DI (all_cons iR (all_cons Uf all_nil)) all_nil) (fun a h=>Ytt a.1 a.2.1 a.2.2.1 a.2.2.2 h)
noncomputable def Ylj:List D→Option D:=Dl (α:=Bis×Int×Dig×Dig) (fun a=>[DZ a.1,.int .i64 a.2.1,C9 a.2.2.1,C9 a.2.2.2]) (fun a=>-9223372036854775808≤a.2.1∧a.2.1<9223372036854775808) (fun a=>.tup [DZ (FG a.1 a.2.1 a.2.2.1 a.2.2.2),.int .i64 (F3 a.1 a.2.1 a.2.2.1 a.2.2.2)])
theorem Yz2(x:Bis)(p:Int)(l:Dig)(r:Dig)(h:-9223372036854775808≤p∧p<9223372036854775808):Ylj [DZ x,.int .i64 p,C9 l,C9 r]=some (.tup [DZ (FG x p l r),.int .i64 (F3 x p l r)]):=
 D5 (fun⟨a0,a1,E,I⟩ ⟨b0,b1,J,M⟩ h=>by simp only[Aa,D.int.injEq,La,true_and,and_true,TK]at h; simp[h]) (x,p,l,r) h
theorem Oy(st:St)(a b:Dig):D3 st (EX a b)=some (EX a b):=SS st (sL a b)
theorem kR:¬ (2:Int)=0:=by decide
theorem Wx:¬ (380:Int)=0:=by decide
theorem kS:¬ (1:Int)=0:=by decide
def Kf(x:Bis):Bool:=Hl x && decide (x.l≤0)
def J9(x:Bis):Int:=if Kf x=true then x.i else 0
def Ip(x:Bis):Dig:=if Kf x=true then x.n0 else Dt
def Ii(x:Bis):Dig:=if Kf x=true then x.n1 else Dt
noncomputable def SD:List D→Option D:=Dl (α:=Bis) (fun a=>[DZ a]) (fun a=>True) (fun a=>.tup [.int .i64 (J9 a),.agg (EX (Ip a) (Ii a)),.bool (Kf a)])
theorem Uv(x:Bis):SD [DZ x]=some (.tup [.int .i64 (J9 x),.agg (EX (Ip x) (Ii x)),.bool (Kf x)]):=
 D5 (fun a b h=>by simp only[Aa,and_true,TK]at h; simp[h]) (x) trivial
set_option maxHeartbeats 4000000 in
set_option maxRecDepth 20000 in
theorem Yts(x:Bis):@wW GG (tb [(77,Us)] []) ZH.code (Dc [DZ x]) [] ⟨Dp ZH.res (.tup [.int .i64 (J9 x),.agg (EX (Ip x) (Ii x)),.bool (Kf x)])⟩:=by
 have E:=Ze x;unfold ZH J9 Ip Ii Kf
 by_cases hv:Hl x=true
 ·rw[hv]at E ⊢
  by_cases J:0<x.l
  ·have I:¬ x.l≤0:=by omega
   simp (disch:=first|omega|decide) only[push_cast,↓reduceIte,CI,Oy,E,J,I]
  ·have I:x.l≤0:=by omega
   simp (disch:=first|omega|decide) only[push_cast,↓reduceIte,CI,Oy,E,J,I]
 ·have M:Hl x=false:=by simpa using hv
  rw[M]at E ⊢;simp (disch:=first|omega|decide) only[push_cast,↓reduceIte,CI,Oy,E]
theorem gw:Contract Tryz.prog GG 88 SD:=
 Ed yFl (DI (all_cons iR all_nil) all_nil) (fun a h=>Yts a)
def FY(s:List Dig)(x:Bis):Int:=if Hl x=true then(if 65536<(s.length:Int)then 2 else if x.l=0 then 380 else 0)else 1
def EP(s:List Dig)(x:Bis):Dig:=if FY s x=0 then LL s (x.l - 1) (2*x.i)else Dt
def EO(s:List Dig)(x:Bis):Dig:=if FY s x=0 then LL s (x.l - 1) (2*x.i+1)else Dt
noncomputable def cy:List D→Option D:=Dl (α:=List Dig×Bis) (fun a=>[.slc (nz 32 (a.1.map C9)) (a.1.map C9) false,DZ a.2]) (fun a=>True) (fun a=>.tup [C9 (EP a.1 a.2),C9 (EO a.1 a.2),.int .i64 (FY a.1 a.2)])
theorem sE(s:List Dig)(x:Bis):cy [.slc (nz 32 (s.map C9)) (s.map C9) false,DZ x]=some (.tup [C9 (EP s x),C9 (EO s x),.int .i64 (FY s x)]):=
 D5 (fun⟨a0,a1⟩ ⟨b0,b1⟩ h=>by simp only[Aa,D.slc.injEq,Kp,and_true,TK]at h; simp[h]) (s,x) trivial
set_option maxHeartbeats 4000000 in
set_option maxRecDepth 20000 in
theorem YAx(s:List Dig)(x:Bis):@wW GG (tb [(77,Us),(63,dQ)] []) Z0.code (Dc [.slc (nz 32 (s.map C9)) (s.map C9) false,DZ x]) [] ⟨Dp Z0.res (.tup [C9 (EP s x),C9 (EO s x),.int .i64 (FY s x)])⟩:=by
 have E:=Ze x;unfold Z0 EP EO
 by_cases hv:Hl x=true
 ·obtain⟨v1,v2,U,v4,V,v6,Y⟩:=Zo hv;have v8:=gr hv
  by_cases I:65536<(s.length:Int)
  ·have e:FY s x=2:=by unfold FY; rw[if_pos hv,if_pos I]
   rw[e]; rw[hv]at E;simp (disch:=first|omega|decide) only[push_cast,↓F4,↓reduceIte,CI,CJ,CV,kR,E,I]
  ·by_cases J:x.l=0
   ·have e:FY s x=380:=by unfold FY; rw[if_pos hv,if_neg I,if_pos J]
    rw[e]; rw[hv]at E;simp (disch:=first|omega|decide) only[push_cast,↓F4,↓reduceIte,CI,CJ,CV,Wx,E,I,J]
   ·have e:FY s x=0:=by unfold FY; rw[if_pos hv,if_neg I,if_neg J]
    rw[e]; rw[hv]at E;simp (disch:=first|omega|decide) only[push_cast,↓F4,↓reduceIte,CI,CJ,CV,E,I,J,uz,Fq,Nc,DK]
 ·have M:Hl x=false:=by simpa using hv
  have e:FY s x=1:=by unfold FY; rw[if_neg hv]
  rw[e]; rw[M]at E;simp (disch:=first|omega|decide) only[push_cast,↓F4,↓reduceIte,CI,CJ,CV,kS,E]
theorem YFn:Contract Tryz.prog GG 27 cy:=
 Ed yAh (DI (all_cons iR (all_cons za all_nil)) all_nil) (fun a h=>YAx a.1 a.2)
structure Ky where
 kd:Int
 wg:Int
 rr:Int
 rn:Int
 pt:Int
 deriving DecidableEq,Inhabited
def He(k:Ky):List D:=[.int .i64 k.kd,.int .i64 k.wg,.int .i64 k.rr,.int .i64 k.rn,.int .i64 k.pt]
def D9(k:Ky):D:=.agg (He k)
abbrev Dw(l:List Ky):D:=.slc (nz 5 (l.map D9)) (l.map D9) false
theorem zG{a b:Ky}:He a=He b↔a=b:=by
 refine⟨fun h=>?_,fun h=>by rw[h]⟩;obtain⟨a1,E,I,J,M⟩:=a;obtain⟨b1,U,V,Y,b5⟩:=b;simp only[He,Aa,D.int.injEq,true_and,and_true]at h;obtain⟨rfl,rfl,rfl,rfl,rfl⟩:=h;rfl
theorem bX{a b:Ky}:D9 a=D9 b↔a=b:=by simp only[D9,D.agg.injEq,zG]
variable {a b:List Ky}
theorem bY:a.map D9=b.map D9↔a=b:=by
 refine⟨fun h=>?_,fun h=>by rw[h]⟩
 induction a generalizing b with
 |nil=>cases b with
  |nil=>rfl
  |cons y b=>simp at h
 |cons x a E=>cases b with
  |nil=>simp at h
  |cons y b=>
   simp only[Aw,Aa,bX]at h;rw[h.1,E h.2]
theorem di:Dw a=Dw b↔a=b:=by
 simp only[Dw,D.slc.injEq,and_true,bY];exact⟨fun h=>h.2,fun h=>⟨by rw[h],h⟩⟩
theorem Yjt{a b:List Bool}:a.map D.bool=b.map D.bool↔a=b:=by
 refine⟨fun h=>?_,fun h=>by rw[h]⟩
 induction a generalizing b with
 |nil=>cases b with
  |nil=>rfl
  |cons y b=>simp at h
 |cons x a E=>cases b with
  |nil=>simp at h
  |cons y b=>
   simp only[Aw,Aa,D.bool.injEq]at h;rw[h.1,E h.2]
structure Cse where
 key:Ky
 p0:Int
 p1:Int
 ph:Int
 dl:Int
 a0:Int
 a1:Int
 c0:Int×Dig
 c1:Int×Dig
 b:Bis
 wn:Int
 am:Int
 ct:Int
 jn:List Ky
 deriving DecidableEq
def JR(x:Bis):List Sg:=[.c (.int .i64 x.h),.c (.int .i64 x.l),.c (.int .i64 x.i),.g x.n0,.g x.n1,.c (.bool x.t0),.c (.bool x.t1),.g x.l0,.g x.l1,.g x.r0,.g x.r1,.c (.int .i64 x.r)]
theorem R4(x:Bis):Dg (JR x)=Di x:=by simp[Dg,JR,Di,Sg.cs]
def KI(k:Ky):List Sg:=[.c (.int .i64 k.kd),.c (.int .i64 k.wg),.c (.int .i64 k.rr),.c (.int .i64 k.rn),.c (.int .i64 k.pt)]
theorem mG(k:Ky):Dg (KI k)=He k:=rfl
def EG(x:Cse)(j:D):List Sg:=KI x.key++[.c (.int .i64 x.p0),.c (.int .i64 x.p1),.c (.int .i64 x.ph),.c (.int .i64 x.dl),.c (.int .i64 x.a0),.c (.int .i64 x.a1),.c (.int .i64 x.c0.1),.g x.c0.2,.c (.int .i64 x.c1.1),.g x.c1.2]++JR x.b++[.c (.int .i64 x.wn),.c (.int .i64 x.am),.c (.int .i64 x.ct),.c j]
def Dh(x:Cse)(j:D):List D:=Dg (EG x j)
def Dv(x:Cse):D:=.agg (Dh x (Dw x.jn))
theorem HZ(x:Cse)(j:D):Ks (EG x j):=trivial
theorem M5(x:Cse)(j:D):(Dh x j).length=279:=by
 rw[Dh,OI (HZ x j)]; simp[IS,EG,KI,JR,Sg.sz]
variable {j:D}
theorem iV{x y:Cse}{i:D}(h:Dh x i=Dh y j):({x with jn:=[]}:Cse)={y with jn:=[]}∧i=j:=by
 obtain⟨J,x0,x1,x2,x3,x4,x5,M,U,xb,x6,x7,x8,xj⟩:=x;obtain⟨V,y0,y1,y2,y3,y4,y5,Y,ye,yb,y6,y7,y8,yj⟩:=y;obtain⟨a4,a5,a6,a7,a8⟩:=J;obtain⟨a9,ba,bb,bc,bd⟩:=V;obtain⟨be,bf⟩:=M;obtain⟨bg,bh⟩:=U;obtain⟨b1,b2⟩:=Y;obtain⟨b3,b4⟩:=ye;simp only[Dh,EG,KI,Ak,Ao,Dg,Sg.cs,L5,R4,Aa,D.int.injEq,true_and,Ai]at h;obtain⟨rfl,rfl,rfl,rfl,rfl,rfl,rfl,rfl,rfl,rfl,rfl,rfl,h⟩:=h;obtain⟨h1,E⟩:=A3 h (by simp[D1]);clear h;simp only[Aa,D.int.injEq,true_and]at E;obtain⟨q1,h3⟩:=E;obtain⟨h4,h5⟩:=A3 h3 (by simp[D1]);obtain⟨h6,I⟩:=A3 h5 (by simp[UK]);simp only[Aa,D.int.injEq,true_and,and_true]at I;obtain⟨q2,q3,q4,q5⟩:=I;subst q1 q2 q3 q4 q5;obtain rfl:=LC h1;obtain rfl:=LC h4;obtain rfl:=pI h6;exact⟨rfl,rfl⟩
theorem NV{x y:Cse}:Dv x=Dv y↔x=y:=by
 refine⟨fun h=>?_,fun h=>by rw[h]⟩;simp only[Dv,D.agg.injEq]at h;obtain⟨E,I⟩:=iV h;rw[di]at I;obtain⟨J,M,U,V,Y,x4,x5,xc,xe,xb,x6,x7,x8,xj⟩:=x;obtain⟨yk,y0,y1,y2,y3,y4,y5,yc,ye,yb,y6,y7,y8,yj⟩:=y;simp only[Cse.mk.injEq,and_true]at E I ⊢;exact⟨E.1,E.2.1,E.2.2.1,E.2.2.2.1,E.2.2.2.2.1,E.2.2.2.2.2.1,E.2.2.2.2.2.2.1,E.2.2.2.2.2.2.2.1,E.2.2.2.2.2.2.2.2.1,E.2.2.2.2.2.2.2.2.2.1,E.2.2.2.2.2.2.2.2.2.2.1,E.2.2.2.2.2.2.2.2.2.2.2.1,E.2.2.2.2.2.2.2.2.2.2.2.2,I⟩
def bO:Ky:=⟨0,0,0,0,0⟩
def Hc:Cse:=⟨bO,0,0,0,0,0,0,(0,Dt),(0,Dt),F6,0,0,0,[]⟩
structure Mv where
 kd:Int
 pt:Int
 am:Int
 cm:Int×Dig
 lf:Dig
 rt:Dig
 op:Opn
 path:List Dig
 key:Ky
 deriving DecidableEq
abbrev FX(l:List Dig):D:=.slc (nz 32 (l.map C9)) (l.map C9) false
def Hq(o:Opn)(t:D):List Sg:=[.c (.int .i64 o.pc),.c (.int .i64 o.fuel),.c (.int .i64 o.status),.c (.int .i64 o.clause),.c t,.c (.int .i64 o.depth),.g o.rest]
theorem Vy(o:Opn):Dg (Hq o (Ev o.top))=E5 o:=by simp[Dg,Hq,E5,Sg.cs]
def Oe(m:Mv):List Sg:=[.c (.int .i64 m.kd),.c (.int .i64 m.pt),.c (.int .i64 m.am),.c (.int .i64 m.cm.1),.g m.cm.2,.g m.lf,.g m.rt]++Hq m.op (Ev m.op.top)++[.c (FX m.path)]++KI m.key
def Jw(m:Mv):List D:=Dg (Oe m)
def Gn(m:Mv):D:=.agg (Jw m)
theorem lT(m:Mv):Ks (Oe m):=trivial
theorem YX(m:Mv):(Jw m).length=144:=by
 rw[Jw,OI (lT m)]; simp[IS,Oe,Hq,KI,Sg.sz]
theorem gA{x y:Mv}:Gn x=Gn y↔x=y:=by
 refine⟨fun h=>?_,fun h=>by rw[h]⟩;obtain⟨x1,x2,x3,⟨x4,x5⟩,x6,x7,x8,x9,ab⟩:=x;obtain⟨y1,y2,y3,⟨y4,y5⟩,y6,y7,y8,y9,ac⟩:=y;simp only[Gn,D.agg.injEq,Jw,Oe,L5,Vy,Ap]at h;simp only[Dg,Sg.cs,Ak,Ao,Aa,D.int.injEq,true_and,Ai,Ap]at h;obtain⟨rfl,rfl,rfl,rfl,h⟩:=h;obtain⟨I,g1⟩:=A3 h (by simp[D1]);obtain⟨J,g2⟩:=A3 g1 (by simp[D1]);obtain⟨M,U⟩:=A3 g2 (by simp[D1]);obtain⟨V,E⟩:=A3 U (by simp[Ka,UG]);simp only[Aa,FX,D.slc.injEq,and_true,Kp,mG,zG]at E;obtain⟨⟨_,Y⟩,q2⟩:=E;subst Y q2;obtain rfl:=LC I;obtain rfl:=LC J;obtain rfl:=LC M;obtain rfl:=Sz.1 (congrArg D.agg V);rfl
structure Ply where
 x:Cse
 j:D
 c:List Ins
 v:Int×List Int
 m:Mv
 now:Int
 hv:Ew v
def Ey(p:Ply):List Sg:=EG p.x p.j++[.c (Ef p.c),.w 17 (DY p.v)]++Oe p.m++[.c (.int .i64 p.now)]
def Df(p:Ply):List D:=Dg (Ey p)
theorem G3(p:Ply):Ks (Ey p):=⟨HT p.hv,trivial⟩
theorem yQ9(p:Ply):(Df p).length=442:=by
 rw[Df,OI (G3 p)]; simp[IS,Ey,EG,Oe,Hq,JR,KI,Sg.sz]
def EE(n:Int):Prop:=-9007199254740992≤n∧n≤9007199254740992
instance (n:Int):Decidable (EE n):=inferInstanceAs (Decidable (_∧_))
def K0(x:Cse):Prop:=x.ph=4∨x.ph=5∨x.ph=6
instance (x:Cse):Decidable (K0 x):=inferInstanceAs (Decidable (_∨_))
def Hk(x:Cse):Prop:=x.ph=1∨x.ph=2∨x.ph=3
instance (x:Cse):Decidable (Hk x):=inferInstanceAs (Decidable (_∨_))
def Jl(x:Cse)(w a:Int):Cse:={x with ph:=4,wn:=w,am:=a}
def N6(x:Cse)(p:Int):Int:=if p=0 then x.a0 else x.a1
def Hw(x:Cse)(p:Int):Int×Dig:=if p=0 then x.c0 else x.c1
def Fz(x:Cse)(p:Int):Cse:=if p<0 then Jl x (-1) 0 else Jl x p (N6 x p)
def KK(x:Cse)(n:Int):Int:=if x.a0=n then 0 else if x.a1=n then 1 else -1
def Rp(x:Cse)(n:Int):Cse:=Jl x (KK x n) n
def K2(x:Cse)(now:Int):Cse:={x with ph:=3,dl:=now+1440}
def HX(c:List Ins)(v:Int×List Int)(x:Cse)(now:Int):Cse×Int:=
 if Kf x.b=true then
  if J9 x.b=0 then
   if(Ha c v).2=0 then(Fz x (Hy (Ip x.b,Ii x.b) (Ha c v)).1,0)else(x,(Ha c v).2)
  else(K2 x now,0)
 else(x,0)
def MI(c:List Ins)(v:Int×List Int)(x:Cse)(m:Mv)(now:Int):Cse×Int:=
 if m.pt=1∧x.ph=1 then
  if EE m.am then
   let y:Cse:={x with a1:=m.am,c1:=m.cm}
   if GN x.c0 m.cm=1 then(y,381)
   else if GN x.c0 m.cm=0 then HX c v {y with b:=Kd x.c0 m.cm,ph:=2,dl:=now+1440} now
   else if x.a0=m.am then(Fz y 1,0)
   else if c.length=0 then(Rp y 0,0)
   else(K2 y now,0)
  else(x,1)
 else(x,380)
def N8(c:List Ins)(v:Int×List Int)(x:Cse)(m:Mv)(now:Int):Cse×Int:=
 if x.ph=2 then
  if F3 x.b m.pt m.lf m.rt=0 then
   if(FG x.b m.pt m.lf m.rt).r=x.b.r then({x with b:=FG x.b m.pt m.lf m.rt},0)
   else HX c v {x with b:=FG x.b m.pt m.lf m.rt,dl:=now+1440} now
  else(x,F3 x.b m.pt m.lf m.rt)
 else(x,380)
def Gm(x:Cse)(p:Int):Int:=if GN x.c0 x.c1=380 then(Hw x p).1 else if GN x.c0 x.c1=0 then J9 x.b else 0
def F0(x:Cse)(p:Int):Int×Bool:=
 if x.ph=3∧(p=0∨p=1)then
  if Gm x p=0 then(0,false)else(Gm x p - 1,true)
 else(0,false)
def ez(l:List Int):Int:=l.getD (l.length - 1) 0
def Ob(c:List Ins)(v:Int×List Int)(x:Cse)(m:Mv):Cse×Int:=
 if(F0 x m.pt).2=true then
  if GN x.c0 x.c1=380 then
   if Iv (Hw x m.pt) (F0 x m.pt).1 (HF c v m.op) m.path=true then
    if m.op.status≠0∧(m.op.status≠1∨0<m.op.top.length)then(Rp x (if m.op.status=1 then ez m.op.top else 0),0)
    else(x,390)
   else(x,40)
  else
   let i:=(F0 x m.pt).1
   let bef:=if(Hw x m.pt).1≤i then Dq else HF c v m.op
   if 2 ^ (DN (Hw x m.pt).1).toNat≤i∨Iv (Hw x m.pt) i bef m.path=true then
    if(Gu c v bef m.op).2=0 then(Fz x (Hy (Ip x.b,Ii x.b) (Gu c v bef m.op)).1,0)
    else(x,(Gu c v bef m.op).2)
   else(x,40)
 else(x,380)
def Tb(x:Cse)(m:Mv):Cse×Int:=if m.pt=0 then({x with ph:=5,wn:=1},0)else(x,380)
def Rj(x:Cse)(m:Mv):Cse×Int:=if m.pt=1 then(Fz x 0,0)else if 0≤x.ct then(Jl x 1 x.ct,0)else(x,380)
def Rk(x:Cse)(m:Mv)(now:Int):Cse×Int:=
 if m.pt=1∧x.ph=1∧x.ct<0 then
  if 0≤m.am∧EE m.am then({x with ct:=m.am,dl:=now+1440},0)else(x,1)
 else(x,380)
def IZ(x:Cse)(m:Mv):Cse×Int:=
 if m.pt=0∧x.ph=1 then
  if x.jn.length<8 then
   if m.key≠x.key∧m.key∉x.jn then({x with jn:=x.jn++[m.key]},0)else(x,1)
  else(x,2)
 else(x,380)
def GJ(c:List Ins)(v:Int×List Int)(x:Cse)(m:Mv)(now:Int):Cse×Int:=
 if m.kd=1 then MI c v x m now
 else if m.kd=2 then N8 c v x m now
 else if m.kd=3 then Ob c v x m
 else if m.kd=4 then Tb x m
 else if m.kd=5 then Rj x m
 else if m.kd=6 then Rk x m now
 else IZ x m
def FP(c:List Ins)(v:Int×List Int)(x:Cse)(m:Mv)(now:Int):Int:=
 if Hk x then
  if(1≤m.kd∧m.kd≤7)∧0≤now∧now≤1073741824∧(m.pt=0∨m.pt=1)then
   if now≤x.dl then(GJ c v x m now).2 else 401
  else 1
 else 400
def F1(c:List Ins)(v:Int×List Int)(x:Cse)(m:Mv)(now:Int):Cse:=if FP c v x m now=0 then(GJ c v x m now).1 else Hc
def F5(p q n:Int)(c:Int×Dig)(now:Int):Int:=
 if min p q<0∨16≤max p q∨p=q∨¬ EE n∨now<0∨1073741824<now then 1 else if c.1<0∨65536<c.1 then 381 else 0
def KT(k:Ky)(p q n:Int)(c:Int×Dig)(now:Int):Cse:=
 if F5 p q n c now=0 then⟨k,p,q,1,now+1440,n,0,c,(0,Dt),F6,-1,0,-1,[]⟩else Hc
def Il(x:Cse):Int:=if x.ph=1 then 0 else if x.ph=2∧x.b.t0≠x.b.t1 then(if x.b.t0=true then 0 else 1)else -1
def LR(x:Cse)(now:Int):Cse:=if Hk x∧x.dl<now then {Fz x (Il x)with ph:=6} else x
section
variable (p:Ply) (sz:Nat) (lent:Bool)
theorem Iq:DA (some ⟨false,sz,Df p,lent⟩) 1 false 7=some (.int .i64 p.x.ph):=IE (l:=Ey p) rfl rfl (G3 p)
theorem bu:DA (some ⟨false,sz,Df p,lent⟩) 1 false 9=some (.int .i64 p.x.a0):=IE (l:=Ey p) rfl rfl (G3 p)
theorem bw:DA (some ⟨false,sz,Df p,lent⟩) 1 false 10=some (.int .i64 p.x.a1):=IE (l:=Ey p) rfl rfl (G3 p)
theorem mM:DA (some ⟨false,sz,Df p,lent⟩) 1 false 274=some (.int .i64 p.x.b.r):=IE (l:=Ey p) rfl rfl (G3 p)
theorem Tg:DA (some ⟨false,sz,Df p,lent⟩) 1 false 277=some (.int .i64 p.x.ct):=IE (l:=Ey p) rfl rfl (G3 p)
theorem X3:DA (some ⟨false,sz,Df p,lent⟩) 1 false 278=some p.j:=IE (l:=Ey p) rfl rfl (G3 p)
theorem Lt:DA (some ⟨false,sz,Df p,lent⟩) 1 false 279=some (Ef p.c):=IE (l:=Ey p) rfl rfl (G3 p)
theorem FL:DA (some ⟨false,sz,Df p,lent⟩) 1 false 298=some (.int .i64 p.m.pt):=IE (l:=Ey p) rfl rfl (G3 p)
theorem NN:DA (some ⟨false,sz,Df p,lent⟩) 1 false 299=some (.int .i64 p.m.am):=IE (l:=Ey p) rfl rfl (G3 p)
theorem Ps:DA (some ⟨false,sz,Df p,lent⟩) 1 false 435=some (FX p.m.path):=IE (l:=Ey p) rfl rfl (G3 p)
theorem Yv5:DA (some ⟨false,sz,Df p,lent⟩) 1 false 441=some (.int .i64 p.now):=IE (l:=Ey p) rfl rfl (G3 p)
theorem ck:DA (some ⟨false,sz,Df p,lent⟩) 5 true 0=some (D9 p.x.key):=Jr (l:=Ey p) rfl rfl (G3 p) rfl
theorem iN:DA (some ⟨false,sz,Df p,lent⟩) 279 true 0=some (.agg (Dh p.x p.j)):=Jr (l:=Ey p) rfl rfl (G3 p) rfl
theorem Kg:DA (some ⟨false,sz,Df p,lent⟩) 33 true 11=some (.agg (.int .i64 p.x.c0.1::C8 p.x.c0.2)):=Jr (l:=Ey p) rfl rfl (G3 p) (by simp[Dg,Sg.cs])
theorem Kh:DA (some ⟨false,sz,Df p,lent⟩) 33 true 44=some (.agg (.int .i64 p.x.c1.1::C8 p.x.c1.2)):=Jr (l:=Ey p) rfl rfl (G3 p) (by simp[Dg,Sg.cs])
theorem ML:DA (some ⟨false,sz,Df p,lent⟩) 198 true 77=some (DZ p.x.b):=Jr (l:=Ey p) rfl rfl (G3 p) (by rw[DZ,← R4]; rfl)
theorem MM:DA (some ⟨false,sz,Df p,lent⟩) 17 true 280=some (ED p.v):=Jr (l:=Ey p) rfl rfl (G3 p) (by simp[Dg,Sg.cs,ED])
theorem Th:DA (some ⟨false,sz,Df p,lent⟩) 33 true 300=some (.agg (.int .i64 p.m.cm.1::C8 p.m.cm.2)):=Jr (l:=Ey p) rfl rfl (G3 p) (by simp[Dg,Sg.cs])
theorem bA:DA (some ⟨false,sz,Df p,lent⟩) 32 true 333=some (C9 p.m.lf):=Jr (l:=Ey p) rfl rfl (G3 p) (by simp[Dg,Sg.cs,C9])
theorem bB:DA (some ⟨false,sz,Df p,lent⟩) 32 true 365=some (C9 p.m.rt):=Jr (l:=Ey p) rfl rfl (G3 p) (by simp[Dg,Sg.cs,C9])
theorem NO:DA (some ⟨false,sz,Df p,lent⟩) 38 true 397=some (Ee p.m.op):=Jr (l:=Ey p) rfl rfl (G3 p) (by rw[Ee,← Vy]; rfl)
theorem cn:DA (some ⟨false,sz,Df p,lent⟩) 5 true 436=some (D9 p.m.key):=Jr (l:=Ey p) rfl rfl (G3 p) rfl
end
section
variable (p:Ply) (sz:Nat)
theorem Vc(n:Int):DR (some ⟨false,sz,Df p,false⟩) 1 7 (.int .i64 n)=some ⟨false,sz,Df {p with x:={p.x with ph:=n}},false⟩:=Lb (l:=Ey p) (X:=[.c (.int .i64 n)]) rfl rfl (G3 p) rfl rfl rfl rfl
theorem YBa(n:Int):DR (some ⟨false,sz,Df p,false⟩) 1 8 (.int .i64 n)=some ⟨false,sz,Df {p with x:={p.x with dl:=n}},false⟩:=Lb (l:=Ey p) (X:=[.c (.int .i64 n)]) rfl rfl (G3 p) rfl rfl rfl rfl
theorem Tx(n:Int):DR (some ⟨false,sz,Df p,false⟩) 1 10 (.int .i64 n)=some ⟨false,sz,Df {p with x:={p.x with a1:=n}},false⟩:=Lb (l:=Ey p) (X:=[.c (.int .i64 n)]) rfl rfl (G3 p) rfl rfl rfl rfl
theorem xV(n:Int):DR (some ⟨false,sz,Df p,false⟩) 1 275 (.int .i64 n)=some ⟨false,sz,Df {p with x:={p.x with wn:=n}},false⟩:=Lb (l:=Ey p) (X:=[.c (.int .i64 n)]) rfl rfl (G3 p) rfl rfl rfl rfl
theorem YBc(n:Int):DR (some ⟨false,sz,Df p,false⟩) 1 276 (.int .i64 n)=some ⟨false,sz,Df {p with x:={p.x with am:=n}},false⟩:=Lb (l:=Ey p) (X:=[.c (.int .i64 n)]) rfl rfl (G3 p) rfl rfl rfl rfl
theorem YBb(n:Int):DR (some ⟨false,sz,Df p,false⟩) 1 277 (.int .i64 n)=some ⟨false,sz,Df {p with x:={p.x with ct:=n}},false⟩:=Lb (l:=Ey p) (X:=[.c (.int .i64 n)]) rfl rfl (G3 p) rfl rfl rfl rfl
theorem xU(k t f l:Nat):DR (some ⟨false,sz,Df p,false⟩) 1 278 (.row k t f l)=some ⟨false,sz,Df {p with j:=.row k t f l},false⟩:=Lb (l:=Ey p) (X:=[.c (.row k t f l)]) rfl rfl (G3 p) rfl rfl rfl rfl
theorem Ts(c:Int×Dig):DR (some ⟨false,sz,Df p,false⟩) 33 44 (.agg (.int .i64 c.1::C8 c.2))=some ⟨false,sz,Df {p with x:={p.x with c1:=c}},false⟩:=
 Lb (l:=Ey p) (X:=[.c (.int .i64 c.1),.g c.2]) rfl rfl (G3 p) rfl (by simp[Dg,Sg.cs,D.cells]) (by simp[Dg,Sg.cs,D1]) (by simp only[Dg,Sg.cs,Ai,Ak,Ao,AY,IF]; rfl)
theorem Yc(b:Bis):DR (some ⟨false,sz,Df p,false⟩) 198 77 (DZ b)=some ⟨false,sz,Df {p with x:={p.x with b:=b}},false⟩:=
 Lb (l:=Ey p) (X:=JR b) rfl rfl (G3 p) rfl (by rw[R4]; rfl) (by rw[R4,UK]) (by rw[R4]; exact jY b)
end
noncomputable def Mi(R:List D→St→D×Int×St→Prop):List D→St→Option (D×Int×St):=fun ds st=>@dite _ (∃ r,R ds st r) (Classical.propDecidable _) (fun h=>some h.choose) (fun _=>none)
variable {r:D×Int×St}{st:St}{ds:List D}
theorem rv{R:List D→St→D×Int×St→Prop}(h:Mi R ds st=some r):R ds st r:=by
 unfold Mi at h
 split at h
 ·grind
 ·cases h
def Jk(R:List D→St→D×Int×St→Prop):Prop:=∀ ds st r r',R ds st r→R ds st r'→r=r'
theorem gZ{R:List D→St→D×Int×St→Prop}(I:Jk R)(h:R ds st r):Mi R ds st=some r:=by
 have E:∃ r,R ds st r:=⟨r,h⟩;unfold Mi;rw[dif_pos E,I _ _ _ _ E.choose_spec h]
noncomputable def EM(R:List D→St→D×Int×St→Prop):List D→St→Option (D×St):=fun ds st=>match Mi R ds st with
 |some (d,e,st')=>if e=0 then some (d,st')else none
 |none=>none
noncomputable def GO(R:List D→St→D×Int×St→Prop):List D→St→Option (Nat×D×St):=fun ds st=>match Mi R ds st with
 |some (_,e,st')=>if e=0 then none else some (125,.int .i64 e,st')
 |none=>none
variable {d:D}{st':St}
theorem U9{R:List D→St→D×Int×St→Prop}(E:Jk R)(h:R ds st (d,0,st')):EM R ds st=some (d,st'):=by
 simp only[EM,gZ E h,if_true]
variable {e:Int}
theorem U8{R:List D→St→D×Int×St→Prop}(E:Jk R)(h:R ds st (d,e,st'))(I:e≠0):EM R ds st=none:=by
 simp only[EM,gZ E h,if_neg I]
theorem Vw{R:List D→St→D×Int×St→Prop}(E:Jk R)(h:R ds st (d,e,st'))(I:e≠0):GO R ds st=some (125,.int .i64 e,st'):=by
 simp only[GO,gZ E h,if_neg I]
def Nq(res:List PRes)(d:D)(e:Int)(st':St)(x:Ex)(fr:Frame)(st:St):Prop:=match x with
 |.exit _=>False
 |.panic t y=>¬ e=0∧t=125∧y=.int .i64 e∧st=st'
 |_=>e=0∧@on _ (D8 ⟨fr,st⟩ res) ⟨fun l=>(DS l,st)=(d,st')⟩
theorem Ylz(res:List PRes)(d:D)(e:Int)(st':St)(fr:Frame)(st:St):Nq res d e st' .ret fr st=(e=0∧@on _ (D8 ⟨fr,st⟩ res) ⟨fun l=>(DS l,st)=(d,st')⟩):=(rfl)
theorem Yc1(res:List PRes)(d:D)(e:Int)(st':St)(fr:Frame)(st:St):Nq res d e st' .next fr st=(e=0∧@on _ (D8 ⟨fr,st⟩ res) ⟨fun l=>(DS l,st)=(d,st')⟩):=(rfl)
theorem yXo(res:List PRes)(d:D)(e:Int)(st':St)(t:Nat)(y:D)(fr:Frame)(st:St):Nq res d e st' (.panic t y) fr st=(¬ e=0∧t=125∧y=.int .i64 e∧st=st'):=(rfl)
theorem K5{T:Tbl}{il:List Nat}{f:Nat}{hints:List (List Nat)}{F:PF}{R:List D→St→D×Int×St→Prop}(M:DB Tryz.prog il f hints=some F)(U:TblOK Tryz.prog GG T)
  (h:∀ ds st d e st',R ds st (d,e,st')→@wW GG T F.code (Dc ds) st ⟨Nq F.res d e st'⟩) (V:T.y=fun _ _ _=>none:=by rfl):IContract Tryz.prog GG f (EM R)∧Q6 Tryz.prog GG f (GO R):=by
 constructor
 ·refine Jv M U (fun ds st r E=>?_) V;unfold EM at E
  split at E
  case h_2=>cases E
  rename_i d e st' J
  split at E
  case isFalse=>cases E
  rename_i he;simp only[AK]at E;subst E; subst he;refine Td (KQ _ _ _ _ _ (Hv (h _ _ _ _ _ (rv J))) fun x fr st I=>?_)
  cases x with
  |exit i=>exact I.elim
  |panic t y=>exact absurd rfl I.1
  |next=>unfold GQ; exact I.2
  |ret=>unfold GQ; exact I.2
 ·refine yLi M U (fun ds st r E=>?_) V;unfold GO at E
  split at E
  case h_2=>cases E
  rename_i d e st' J
  split at E
  case isTrue=>cases E
  rename_i he;simp only[AK]at E;subst E;refine Td (KQ _ _ _ _ _ (Hv (h _ _ _ _ _ (rv J))) fun x fr st I=>?_)
  cases x with
  |exit i=>exact I.elim
  |panic t y=>obtain⟨_,rfl,rfl,rfl⟩:=I; unfold Np; rfl
  |next=>exact absurd I.1 he
  |ret=>exact absurd I.1 he
attribute [irreducible] Nq
attribute [push_cast] Ylz Yc1 yXo
abbrev CK(f:Nat)(R:List D→St→D×Int×St→Prop):Prop:=IContract Tryz.prog GG f (EM R)∧Q6 Tryz.prog GG f (GO R)
def IA(ds:List D)(st:St)(r:D×Int×St):Prop:=∃ (b:Bool) (e:Int),ds=[.bool b,.int .i64 e]∧(b=false→e≠0)∧r=(.tup [],if b=true then 0 else e,st)
theorem ju:Jk IA:=by
 rintro ds st r E ⟨b,e,rfl,_,rfl⟩ ⟨b',I,h,_,rfl⟩;grind
theorem Eb(e:Int)(st:St):EM IA [.bool true,.int .i64 e] st=some (.tup [],st):=U9 ju ⟨true,e,rfl,(fun h=>by cases h),rfl⟩
theorem EL(E:e≠0)(st:St):EM IA [.bool false,.int .i64 e] st=none:=U8 ju (e:=e) ⟨false,e,rfl,fun _=>E,rfl⟩ E
theorem EK(E:e≠0)(st:St):GO IA [.bool false,.int .i64 e] st=some (125,.int .i64 e,st):=Vw ju (e:=e) (d:=.tup []) ⟨false,e,rfl,fun _=>E,rfl⟩ E
theorem JZ:CK 73 IA:=by
 refine K5 (T:=tb [] []) yIi (DI all_nil all_nil) ?_;rintro ds st d e st' ⟨b,E,rfl,hb,h⟩;simp only[AA]at h;obtain⟨rfl,rfl,rfl⟩:=h;unfold nw
 cases b with
 |true=>simp (disch:=first|omega|decide) only[push_cast,↓reduceIte,and_true]
 |false=>
  have he:=hb rfl;simp (disch:=first|omega|decide) only[push_cast,↓reduceIte,CI,he,and_true,not_false_eq_true]
def Ni(ds:List D)(st:St)(r:D×Int×St):Prop:=∃ (e:Int),ds=[.int .i64 e]∧r=(.tup [],e,st)
theorem iX:Jk Ni:=by
 rintro ds st r E ⟨e,rfl,rfl⟩ ⟨I,h,rfl⟩;grind
theorem Me(st:St):EM Ni [.int .i64 0] st=some (.tup [],st):=U9 iX ⟨0,rfl,rfl⟩
theorem O7(E:e≠0)(st:St):EM Ni [.int .i64 e] st=none:=U8 iX (e:=e) ⟨e,rfl,rfl⟩ E
theorem eG(E:e≠0)(st:St):GO Ni [.int .i64 e] st=some (125,.int .i64 e,st):=Vw iX (e:=e) (d:=.tup []) ⟨e,rfl,rfl⟩ E
noncomputable abbrev TND:Tbl:=MP [] [(73,EM IA)] [(73,GO IA)]
theorem Sj:CK 123 Ni:=by
 refine K5 (T:=TND) yIh (Ox all_nil (all_cons JZ.1 all_nil) (all_cons JZ.2 all_nil)) ?_;rintro ds st d e st' ⟨E,rfl,h⟩;simp only[AA]at h;obtain⟨rfl,rfl,rfl⟩:=h;unfold ny
 by_cases he:e=0
 ·have g:=eq_true he;simp (disch:=first|omega|decide) only[push_cast,↓reduceIte,CI,g,decide_true,Eb,and_true]
 ·simp (disch:=first|omega|decide) only[push_cast,↓reduceIte,CI,he,decide_false,EL,EK,and_true,not_false_eq_true]
def Hr{α:Type}[DecidableEq α](a:α):List α→Nat→Int
 |[],_=>-1
 |x::r,i=>if a=x then i else Hr a r (i+1)
theorem iL{α:Type}[DecidableEq α][Inhabited α](a:α)(l:List α){i:Nat}(h:i<l.length):Hr a (l.drop i) i=if a=l.getD i default then(i:Int)else Hr a (l.drop (i+1)) (i+1):=by
 rw[A7 h,Hr];simp[Af,h]
theorem zN{α:Type}[DecidableEq α](a:α):∀ (l:List α) (i:Nat),(0≤Hr a l i↔a∈l)∧-1≤Hr a l i
 |[],i=>by simp[Hr]
 |x::r,i=>by
  unfold Hr;have E:=zN a r (i+1)
  by_cases h:a=x
  ·rw[if_pos h]; subst h; simp
  ·rw[if_neg h];exact⟨by rw[E.1]; simp[h],E.2⟩
theorem Yww(n a b:Int):Hr n [a,b] 0=if a=n then 0 else if b=n then 1 else -1:=by
 show(if n=a then((0:Nat):Int)else if n=b then((1:Nat):Int)else -1)=_
 by_cases h:n=a
 ·subst h; simp
 ·have I:¬ a=n:=fun e=>h e.symm
  by_cases E:n=b
  ·subst E; simp[h,I]
  ·have J:¬ b=n:=fun e=>E e.symm;simp[h,I,E,J]
noncomputable def bG:List D→Option D:=Dl (α:=List Int×Int) (fun a=>[.slc (nz 1 (a.1.map nI)) (a.1.map nI) false,.int .i64 a.2]) (fun a=>a.1.length≤4294967296) (fun a=>.int .i64 (Hr a.2 a.1 0))
theorem Yp5(l:List Int)(n:Int)(h:l.length≤4294967296):bG [.slc (nz 1 (l.map nI)) (l.map nI) false,.int .i64 n]=some (.int .i64 (Hr n l 0)):=
 D5 (fun⟨a0,a1⟩ ⟨b0,b1⟩ h=>by simp only[Aa,D.slc.injEq,D.int.injEq,true_and,and_true,Ss]at h; simp[h]) (l,n) h
theorem VF(l:List Int)(n:Int)(h:l.length≤4294967296):@wW GG (tb [] []) aF.code (Dc [.slc (nz 1 (l.map nI)) (l.map nI) false,.int .i64 n]) [] ⟨Dp aF.res (.int .i64 (Hr n l 0))⟩:=by
 unfold aF;simp (disch:=first|omega|decide) only[push_cast,↓reduceIte,CI,CN];refine FQ (fun i:Nat=>[(0,.slc (nz 1 (l.map nI)) (l.map nI) false),(1,.int .i64 n),(7,.int .i64 (l.length:Int)),(8,.int .i64 (i:Int))]) (fun _=>[]) (fun i=>i≤l.length∧Hr n l 0=Hr n (l.drop i) i) (fun i=>l.length - i) 0 (by simp only[push_cast,↓reduceIte,CI,↓CL] <;> rfl) ⟨A2 _,rfl⟩ ?_;rintro i ⟨hi,E⟩;unfold o9;simp (disch:=first|omega|decide) only[push_cast,↓reduceIte,CI];refine EU (fun U=>?_) (fun U=>?_)
 ·have M:i<l.length:=by omega
  rw[iL _ _ M]at E
  have J:∀ st:St,GM st 1 (.slc (nz 1 (l.map nI)) (l.map nI) false) (.int .i64 (i:Int))=some (.eptr (nI (l.getD i default)) 0):=fun st=>by
   have:=Kj st 1 nI l false .i64 (i:Int) (by omega) (by omega);rwa [AO]at this
  generalize l.getD i default=x at*
  by_cases I:n=x
  ·rw[if_pos I]at E;simp (disch:=first|omega|decide) only[push_cast,↓reduceIte,CI,CN,J,nI,I];rw[← E,I]
  ·rw[if_neg I]at E;simp (disch:=first|omega|decide) only[push_cast,↓reduceIte,CI,J,nI,I,DK];refine EV (i+1) (by exact⟨by omega,E⟩) (by omega) ?_;simp only[push_cast] <;> rfl
 ·obtain rfl:i=l.length:=by omega
  rw[Bf]at E;simp (disch:=first|omega|decide) only[push_cast,↓reduceIte,CN,E,Hr]
theorem XG:Contract Tryz.prog GG 160 bG:=
 Ed yo9 (DI all_nil all_nil) (fun a h=>VF a.1 a.2 h)
noncomputable def Va:List D→Option D:=Dl (α:=List Bool×Bool) (fun a=>[.slc (nz 1 (a.1.map D.bool)) (a.1.map D.bool) false,.bool a.2]) (fun a=>a.1.length≤4294967296) (fun a=>.int .i64 (Hr a.2 a.1 0))
theorem Yp6(l:List Bool)(n:Bool)(h:l.length≤4294967296):Va [.slc (nz 1 (l.map D.bool)) (l.map D.bool) false,.bool n]=some (.int .i64 (Hr n l 0)):=
 D5 (fun⟨a0,a1⟩ ⟨b0,b1⟩ h=>by simp only[Aa,D.slc.injEq,D.bool.injEq,and_true,Yjt]at h; simp[h]) (l,n) h
theorem VG(l:List Bool)(n:Bool)(h:l.length≤4294967296):@wW GG (tb [] []) aK.code (Dc [.slc (nz 1 (l.map D.bool)) (l.map D.bool) false,.bool n]) [] ⟨Dp aK.res (.int .i64 (Hr n l 0))⟩:=by
 unfold aK;simp (disch:=first|omega|decide) only[push_cast,↓reduceIte,CI,CN];refine FQ (fun i:Nat=>[(0,.slc (nz 1 (l.map D.bool)) (l.map D.bool) false),(1,.bool n),(7,.int .i64 (l.length:Int)),(8,.int .i64 (i:Int))]) (fun _=>[]) (fun i=>i≤l.length∧Hr n l 0=Hr n (l.drop i) i) (fun i=>l.length - i) 0 (by simp only[push_cast,↓reduceIte,CI,↓CL] <;> rfl) ⟨A2 _,rfl⟩ ?_;rintro i ⟨hi,E⟩;unfold pe;simp (disch:=first|omega|decide) only[push_cast,↓reduceIte,CI];refine EU (fun Y=>?_) (fun Y=>?_)
 ·have V:i<l.length:=by omega
  rw[iL _ _ V]at E
  have J:∀ st:St,GM st 1 (.slc (nz 1 (l.map D.bool)) (l.map D.bool) false) (.int .i64 (i:Int))=some (.eptr (.bool (l.getD i default)) 0):=fun st=>by
   have:=Kj st 1 D.bool l false .i64 (i:Int) (by omega) (by omega);rwa [AO]at this
  have M:∀ (st:St) (b:Bool),Fy st 1 false (.eptr (.bool b) 0)=some (.bool b):=fun _ _=>rfl;generalize l.getD i default=x at*
  by_cases I:n=x
  ·rw[if_pos I]at E;subst I;have U:(n == n)=true:=by simp
   simp (disch:=first|omega|decide) only[push_cast,↓reduceIte,CI,CN,J,M,U,E]
  ·rw[if_neg I]at E;have U:(n == x)=false:=by simpa using I
   simp (disch:=first|omega|decide) only[push_cast,↓reduceIte,CI,J,M,U,DK];refine EV (i+1) (by exact⟨by omega,E⟩) (by omega) ?_;simp only[push_cast] <;> rfl
 ·obtain rfl:i=l.length:=by omega
  rw[Bf]at E;simp (disch:=first|omega|decide) only[push_cast,↓reduceIte,CN,E,Hr]
theorem XH:Contract Tryz.prog GG 78 Va:=
 Ed ynm (DI all_nil all_nil) (fun a h=>VG a.1 a.2 h)
theorem JW(E:Bool)(a b:Ky):GU [0,0,0,0,0] E (D9 a) (D9 b)=some (.bool (decide (a=b) != E)):=by
 obtain⟨a1,I,J,M,U⟩:=a;obtain⟨b1,V,Y,b4,b5⟩:=b
 have h:E0 [0,0,0,0,0] (He ⟨a1,I,J,M,U⟩) (He ⟨b1,V,Y,b4,b5⟩)=some (decide ((⟨a1,I,J,M,U⟩:Ky)=⟨b1,V,Y,b4,b5⟩)):=by
  simp only[He,E0,I3,if_true,BT,Ky.mk.injEq,AK];rw[B5];simp
 simp only[GU,D9,h,Ae]
theorem T6(k:Ky):(He k).all Ep=true:=rfl
theorem Ms(k:Ky):DG (D9 k)=some (He k):=rfl
theorem S2(sz:Nat)(lent:Bool)(k:Ky):DA (some ⟨false,sz,He k,lent⟩) 5 true 0=some (D9 k):=Lz sz lent _ 5 rfl
theorem bp(st:St)(k:Ky):Fy st 5 true (.eptr (D9 k) 0)=some (D9 k):=rfl
theorem Pq(st:St)(k:Ky):DV st (D9 k)=some (D9 k):=QU st (T6 k)
theorem Vo(k:Ky):keys (D9 k)=[]:=Qa (T6 k)
theorem YD8(k:Ky):hk (D9 k)=[]:=TY (T6 k)
theorem zV(n:Nat)(σ:List Nat)(k:Ky):(He k).map (Eu n σ)=He k:=Mb n σ (T6 k)
theorem xD(k:Ky):(He k).flatMap hk=[]:=MG (T6 k)
theorem mE(st:St)(l:List Ky)(t:Bool)(i:Nat)(h:i<l.length):GM st 5 (.slc (nz 5 (l.map D9)) (l.map D9) t) (.int .i64 (i:Int))=some (.eptr (D9 (l.getD i default)) 0):=by
 have:=Kj st 5 D9 l t .i64 (i:Int) (by omega) (by omega);rwa [AO]at this
noncomputable def mZ:List D→Option D:=Dl (α:=List Ky×Ky) (fun a=>[.slc (nz 5 (a.1.map D9)) (a.1.map D9) false,D9 a.2]) (fun a=>a.1.length≤4294967296) (fun a=>.int .i64 (Hr a.2 a.1 0))
theorem Yp4(l:List Ky)(n:Ky)(h:l.length≤4294967296):mZ [.slc (nz 5 (l.map D9)) (l.map D9) false,D9 n]=some (.int .i64 (Hr n l 0)):=
 D5 (fun⟨a0,a1⟩ ⟨b0,b1⟩ h=>by simp only[Aa,D.slc.injEq,and_true,bX,bY]at h; simp[h]) (l,n) h
theorem VE(l:List Ky)(n:Ky)(h:l.length≤4294967296):@wW GG (tb [] []) aO.code (Dc [.slc (nz 5 (l.map D9)) (l.map D9) false,D9 n]) [] ⟨Dp aO.res (.int .i64 (Hr n l 0))⟩:=by
 unfold aO;simp (disch:=first|omega|decide) only[push_cast,↓reduceIte,CI,CN,Ms];refine FQ (fun i:Nat=>[(0,.slc (nz 5 (l.map D9)) (l.map D9) false),(3,.ptr 0 0),(7,.int .i64 (l.length:Int)),(8,.int .i64 (i:Int))]) (fun _=>[⟨false,1,He n,false⟩]) (fun i=>i≤l.length∧Hr n l 0=Hr n (l.drop i) i) (fun i=>l.length - i) 0 (by simp only[push_cast,↓reduceIte,CI,CO,CM,↓CL,zV,xD] <;> rfl) ⟨A2 _,rfl⟩ ?_;rintro i ⟨hi,E⟩;unfold pq;simp (disch:=first|omega|decide) only[push_cast,↓reduceIte,CI];refine EU (fun U=>?_) (fun U=>?_)
 ·have J:i<l.length:=by omega
  rw[iL _ _ J]at E;have M:=fun st=>mE st l false i J;generalize l.getD i default=x at*
  by_cases I:n=x
  ·rw[if_pos I]at E;subst I;have V:decide (n=n)=true:=by simp
   simp (disch:=first|omega|decide) only[push_cast,↓reduceIte,CI,CN,M,S2,bp,JW,E]
  ·rw[if_neg I]at E;simp (disch:=first|omega|decide) only[push_cast,↓reduceIte,CI,CO,CM,M,S2,bp,JW,I,DK];refine EV (i+1) (by exact⟨by omega,E⟩) (by omega) ?_;simp only[push_cast,zV,xD] <;> rfl
 ·obtain rfl:i=l.length:=by omega
  rw[Bf]at E;simp (disch:=first|omega|decide) only[push_cast,↓reduceIte,CN,E,Hr]
theorem XF:Contract Tryz.prog GG 161 mZ:=
 Ed yiu (DI all_nil all_nil) (fun a h=>VE a.1 a.2 h)
noncomputable def bF:List D→Option D:=Dl (α:=List Ky×Ky) (fun a=>[.slc (nz 5 (a.1.map D9)) (a.1.map D9) false,D9 a.2]) (fun a=>a.1.length≤4294967296) (fun a=>.bool (decide (a.2∈a.1)))
theorem Yqa(l:List Ky)(n:Ky)(h:l.length≤4294967296):bF [.slc (nz 5 (l.map D9)) (l.map D9) false,D9 n]=some (.bool (decide (n∈l))):=
 D5 (fun⟨a0,a1⟩ ⟨b0,b1⟩ h=>by simp only[Aa,D.slc.injEq,and_true,bX,bY]at h; simp[h]) (l,n) h
theorem VH(l:List Ky)(n:Ky)(h:l.length≤4294967296):@wW GG (tb [(161,mZ)] []) aP.code (Dc [.slc (nz 5 (l.map D9)) (l.map D9) false,D9 n]) [] ⟨Dp aP.res (.bool (decide (n∈l)))⟩:=by
 unfold aP;have c1:=Yp4 l n h;have m:=(zN n l 0).1;generalize Hr n l 0=z at*
 by_cases E:0≤z
 ·have hm:decide (n∈l)=true:=by simp[m.1 E]
  simp (disch:=first|omega|decide) only[push_cast,↓reduceIte,CI,Ms,S2,Pq,c1,E,hm]
 ·have hm:decide (n∈l)=false:=by simp; exact fun q=>E (m.2 q)
  simp (disch:=first|omega|decide) only[push_cast,↓reduceIte,CI,Ms,S2,Pq,c1,E,hm]
theorem XI:Contract Tryz.prog GG 126 bF:=
 Ed yho (DI (all_cons XF all_nil) all_nil) (fun a h=>VH a.1 a.2 h)
theorem RepV.emptyT{w:World}{g:Ghost}{sz E:Nat}{v:Value}(h:RepV w g st (.slc sz [] true) v):RepV w g st (.slc E [] true) v:=by
 cases h with
 |slcE _ _ a cap h=>exact .slcE _ _ a cap h
 |slc _ _ b off cap _ val I=>exact absurd rfl I
noncomputable def xO:List D→St→Option (D×St):=GP (α:=List Ky×St) (fun a=>([.slc (nz 5 (a.1.map D9)) (a.1.map D9) false],a.2)) (fun a=>a.1.length≤4294900000)
 (fun a=>if a.1=[]then(.slc 0 [] true,a.2)else(.row a.2.length a.1.length 0 a.1.length,a.2++[⟨true,5,a.1.map D9,false⟩]))
theorem Yqc(l:List Ky)(st:St)(h:l.length≤4294900000):xO [.slc (nz 5 (l.map D9)) (l.map D9) false] st=some (if l=[]then(.slc 0 [] true,st)else(.row st.length l.length 0 l.length,st++[⟨true,5,l.map D9,false⟩])):=
 MD (fun a b e=>by
  simp only[AA,Aa,D.slc.injEq,bY,and_true]at e;rw[e.1.2,e.2]) ((l,st):List Ky×St) h rfl
def cl0:List PI:=[{dst:=some 2,op:=.mov (.c (.slc 0 [] true))}]
def clA:PC:=.seq (.ops [{dst:=some 2,op:=.mov (.c (.slc 0 [] true))}]) .ret
def lD:PC:=.seq (.ops [{dst:=some 5,op:=.bslc 5 []},{dst:=some 6,op:=.mov (.s 0)},{dst:=some 7,op:=.app 5 40 (.s 5) (.s 6)},{dst:=some 2,op:=.mov (.s 7)}]) .ret
theorem Ypr(T:Tbl)(l:List Ky)(st:St)(h:l.length≤4294900000)(fr:Frame)(J:fr 0=.slc (nz 5 (l.map D9)) (l.map D9) false) :
  ∃ E,lD.exec GG T 0 ⟨fr,st⟩=some (.ret,⟨E,if l=[]then st else st++[⟨true,5,l.map D9,false⟩]⟩)∧E 2=if l=[]then .slc 5 [] true else .row st.length l.length 0 l.length:=by
 have M:Ek st 5 40 (.slc 5 [] true) (.slc (nz 5 (l.map D9)) (l.map D9) false)=some (if l=[]then .slc 5 [] true else .row st.length l.length 0 l.length,if l=[]then st else st++[⟨true,5,l.map D9,false⟩]):=by
  by_cases hl:l=[]
  ·subst hl;exact tX st 5 40 5 0 [] false (by decide)
  ·have I:l.map D9≠[]:=by simpa using hl
   rw[u6 D9 st 5 5 40 l false (by decide) (by omega) (by omega),R6 _ _ _ I,QA _ _ I,if_neg hl,if_neg hl,Bc]
 simp only[lD,PC.exec,E6,PI.exec,PI.wanted,POp.exec,Du,Bj,Em,Ct,CO,decide_true,A9,As,Cc,A2,if_true,lend,BK,Frame.put,Frame.set,J,CI,if_false,show ¬ (5:Nat)=6 from by decide,show ¬ (0:Nat)=5 from by decide,show ¬ (0:Nat)=6 from by decide,M];exact⟨_,rfl,rfl⟩
theorem xx:IContract Tryz.prog GG 127 xO:=by
 refine Ypq (T:=tb [] []) (il:=[]) (DI all_nil all_nil) rfl (l0:=cl0) (pA:=clA) (pB:=lD) (res:=[.tmp 2]) (t3:=3) (e:=58) Tryz.func127 (by kernel_rfl) rfl (by kernel_rfl) (by kernel_rfl) (by kernel_rfl) (by kernel_rfl) (by kernel_rfl) rfl rfl rfl (by decide) Tryz.underlying63 ?_;intro ds st d st' U;obtain⟨⟨l,st0⟩,ha,J,E⟩:=ji U;simp only[AA]at ha;obtain⟨rfl,rfl⟩:=ha;dsimp only at J E;refine⟨_,_,_,(Dc [.slc (nz 5 (l.map D9)) (l.map D9) false]).set 2 (.slc 0 [] true),rfl,rfl,rfl,fun he=>?_,?_⟩
 ·obtain rfl:l=[]:=by simpa using he
  rw[if_pos rfl]at E;simp only[AA]at E;obtain⟨rfl,rfl⟩:=E;exact⟨0,_,_,rfl,rfl,rfl,fun w g v h=>h.emptyT⟩
 ·obtain⟨V,M,I⟩:=Ypr (tb [] []) l st0 J ((((Dc [.slc (nz 5 (l.map D9)) (l.map D9) false]).set 2 (.slc 0 [] true)).set 3 (.slc (nz 5 (l.map D9)) (l.map D9) false)).set 4 (.bool false)) rfl
  by_cases hl:l=[]
  ·subst hl;rw[if_pos rfl]at E I;simp only[AA]at E;obtain⟨rfl,rfl⟩:=E;exact⟨0,_,[.slc 5 [] true],M,by rw[if_pos rfl],by simp only[je,jd,I]; rfl,fun w g v h=>h.emptyT⟩
  ·rw[if_neg hl]at E I;simp only[AA]at E;obtain⟨rfl,rfl⟩:=E;exact⟨0,_,[.row st0.length l.length 0 l.length],M,by rw[if_neg hl],by simp only[je,jd,I]; rfl,fun w g v h=>h⟩
theorem Yfn(l:List Ky):Ep (Dw l)=true:=by
 simp[Ep,Ik]
theorem jO(x:Cse){p:D→Bool}(E:∀ k n,p (.int k n)=true)(J:∀ b,p (.bool b)=true)(M:p j=true):(Dh x j).all p=true:=by
 have U:∀ d,(C8 d).all p=true:=fun d=>KW (fun b=>E _ _) d;refine OH E fun s I=>?_;simp only[EG,KI,JR,Ak,Ao,Av,AB,or_false]at I;rcases I with rfl | rfl | rfl | rfl | rfl | rfl | rfl | rfl | rfl | rfl | rfl | rfl | rfl | rfl | rfl | rfl | rfl | rfl | rfl | rfl | rfl | rfl | rfl | rfl | rfl | rfl | rfl | rfl | rfl | rfl | rfl <;> simp[Sg.cs,E,J,M,U]
theorem OO(x:Cse)(hj:j.isCell=true):(Dh x j).all D.isCell=true:=jO x (fun _ _=>rfl) (fun _=>rfl) hj
theorem SF(x:Cse):(Dh x (Dw x.jn)).all Ep=true:=jO x (fun _ _=>rfl) (fun _=>rfl) (Yfn _)
theorem E7(x:Cse):DG (Dv x)=some (Dh x (Dw x.jn)):=by
 simp only[DG,Dv,D.cells,OO x (j:=Dw x.jn) rfl,if_true]
theorem Fv(st:St)(x:Cse):DV st (Dv x)=some (Dv x):=QU st (SF x)
theorem Is(x:Cse):keys (Dv x)=[]:=Qa (SF x)
section
variable (x:Cse) (j:D) (sz:Nat) (lent:Bool)
theorem FF:DA (some ⟨false,sz,Dh x j,lent⟩) 1 false 7=some (.int .i64 x.ph):=IE (l:=EG x j) rfl rfl (HZ x j)
theorem JC:DA (some ⟨false,sz,Dh x j,lent⟩) 1 false 8=some (.int .i64 x.dl):=IE (l:=EG x j) rfl rfl (HZ x j)
theorem yw:DA (some ⟨false,sz,Dh x j,lent⟩) 1 false 11=some (.int .i64 x.c0.1):=IE (l:=EG x j) rfl rfl (HZ x j)
theorem yx:DA (some ⟨false,sz,Dh x j,lent⟩) 1 false 44=some (.int .i64 x.c1.1):=IE (l:=EG x j) rfl rfl (HZ x j)
theorem NL:DA (some ⟨false,sz,Dh x j,lent⟩) 1 false 275=some (.int .i64 x.wn):=IE (l:=EG x j) rfl rfl (HZ x j)
theorem Pr:DA (some ⟨false,sz,Dh x j,lent⟩) 1 false 276=some (.int .i64 x.am):=IE (l:=EG x j) rfl rfl (HZ x j)
theorem yv:DA (some ⟨false,sz,Dh x j,lent⟩) 1 false 277=some (.int .i64 x.ct):=IE (l:=EG x j) rfl rfl (HZ x j)
theorem XX:DA (some ⟨false,sz,Dh x j,lent⟩) 1 false 278=some j:=IE (l:=EG x j) rfl rfl (HZ x j)
theorem NT:DA (some ⟨false,sz,Dh x j,lent⟩) 5 true 0=some (D9 x.key):=Jr (l:=EG x j) rfl rfl (HZ x j) rfl
theorem OU:DA (some ⟨false,sz,Dh x j,lent⟩) 2 true 5=some (.agg [.int .i64 x.p0,.int .i64 x.p1]):=Jr (l:=EG x j) rfl rfl (HZ x j) rfl
theorem S5:DA (some ⟨false,sz,Dh x j,lent⟩) 2 true 9=some (.agg [.int .i64 x.a0,.int .i64 x.a1]):=Jr (l:=EG x j) rfl rfl (HZ x j) rfl
theorem NH:DA (some ⟨false,sz,Dh x j,lent⟩) 33 true 11=some (.agg (.int .i64 x.c0.1::C8 x.c0.2)):=Jr (l:=EG x j) rfl rfl (HZ x j) (by simp[Dg,Sg.cs])
theorem NK:DA (some ⟨false,sz,Dh x j,lent⟩) 33 true 44=some (.agg (.int .i64 x.c1.1::C8 x.c1.2)):=Jr (l:=EG x j) rfl rfl (HZ x j) (by simp[Dg,Sg.cs])
theorem en:DA (some ⟨false,sz,Dh x j,lent⟩) 2 true 144=some (.agg [.bool x.b.t0,.bool x.b.t1]):=Jr (l:=EG x j) rfl rfl (HZ x j) rfl
theorem Oa:DA (some ⟨false,sz,Dh x j,lent⟩) 198 true 77=some (DZ x.b):=Jr (l:=EG x j) rfl rfl (HZ x j) (by rw[DZ,← R4]; rfl)
def Hf(a b:Int×Dig):List D:=(.int .i64 a.1::C8 a.2)++(.int .i64 b.1::C8 b.2)
theorem U3:DA (some ⟨false,sz,Dh x j,lent⟩) 66 true 11=some (.agg (Hf x.c0 x.c1)):=Jr (l:=EG x j) rfl rfl (HZ x j) (by simp[Dg,Sg.cs,Hf])
theorem Fw:DA (some ⟨false,sz,Dh x j,lent⟩) 279 true 0=some (.agg (Dh x j)):=Lz sz lent _ 279 (M5 x j)
end
theorem Gj(x:Cse):D.agg (Dh x (Dw x.jn))=Dv x:=rfl
theorem J3:Fo=Dh Hc (.slc 0 [] true):=(rfl)
noncomputable def Ur:List D→Option D:=Dl (α:=Int) (fun a=>[.int .i64 a]) (fun a=>True) (fun a=>.bool (decide (EE a)))
theorem fl(n:Int):Ur [.int .i64 n]=some (.bool (decide (EE n))):=
 D5 (fun a b h=>by simp only[Aa,D.int.injEq,true_and,and_true]at h; simp[h]) (n) trivial
theorem Ykq(n:Int):@wW GG (tb [] []) ZQ.code (Dc [.int .i64 n]) [] ⟨Dp ZQ.res (.bool (decide (EE n)))⟩:=by
 unfold ZQ
 by_cases E:-9007199254740992≤n
 ·by_cases I:n≤9007199254740992
  ·have e:decide (EE n)=true:=decide_eq_true ⟨E,I⟩;simp (disch:=first|omega|decide) only[push_cast,↓reduceIte,CI,CN,E,I,e]
  ·have e:decide (EE n)=false:=decide_eq_false fun q=>I q.2;simp (disch:=first|omega|decide) only[push_cast,↓reduceIte,CI,CN,E,I,e]
 ·have e:decide (EE n)=false:=decide_eq_false fun q=>E q.1;simp (disch:=first|omega|decide) only[push_cast,↓reduceIte,CI,CN,E,e]
theorem iQ:Contract Tryz.prog GG 64 Ur:=
 Ed yB7 (DI all_nil all_nil) (fun a h=>Ykq a)
noncomputable def T0:List D→Option D:=Dl (α:=Cse) (fun a=>[Dv a]) (fun a=>True) (fun a=>.bool (decide (Hk a)))
theorem Ux(x:Cse):T0 [Dv x]=some (.bool (decide (Hk x))):=
 D5 (fun a b h=>by simp only[Aa,and_true,NV]at h; simp[h]) (x) trivial
theorem Ytk(x:Cse):@wW GG (tb [] []) Z5.code (Dc [Dv x]) [] ⟨Dp Z5.res (.bool (decide (Hk x)))⟩:=by
 unfold Z5
 by_cases E:x.ph=1
 ·have e:decide (Hk x)=true:=by simp[Hk,E]
  simp (disch:=first|omega|decide) only[push_cast,↓reduceIte,CI,E7,FF,E,e]
 by_cases I:x.ph=2
 ·have e:decide (Hk x)=true:=by simp[Hk,I]
  have g:=eq_true I;simp (disch:=first|omega|decide) only[push_cast,↓reduceIte,CI,E7,FF,E,g,e]
 by_cases J:x.ph=3
 ·have e:decide (Hk x)=true:=by simp[Hk,J]
  have g:=eq_true J;simp (disch:=first|omega|decide) only[push_cast,↓reduceIte,CI,E7,FF,E,I,g,e]
 ·have e:decide (Hk x)=false:=by simp[Hk,E,I,J]
  simp (disch:=first|omega|decide) only[push_cast,↓reduceIte,CI,E7,FF,E,I,J,e]
theorem yZ:Contract Tryz.prog GG 74 T0:=
 Ed yAe (DI all_nil all_nil) (fun a h=>Ytk a)
noncomputable def dO:List D→Option D:=Dl (α:=Cse) (fun a=>[Dv a]) (fun a=>True) (fun a=>.bool (decide (K0 a)))
theorem ux(x:Cse):dO [Dv x]=some (.bool (decide (K0 x))):=
 D5 (fun a b h=>by simp only[Aa,and_true,NV]at h; simp[h]) (x) trivial
theorem Ytl(x:Cse):@wW GG (tb [] []) Zr.code (Dc [Dv x]) [] ⟨Dp Zr.res (.bool (decide (K0 x)))⟩:=by
 unfold Zr
 by_cases E:x.ph=4
 ·have e:decide (K0 x)=true:=by simp[K0,E]
  simp (disch:=first|omega|decide) only[push_cast,↓reduceIte,CI,E7,FF,E,e]
 by_cases I:x.ph=5
 ·have e:decide (K0 x)=true:=by simp[K0,I]
  have g:=eq_true I;simp (disch:=first|omega|decide) only[push_cast,↓reduceIte,CI,E7,FF,E,g,e]
 by_cases J:x.ph=6
 ·have e:decide (K0 x)=true:=by simp[K0,J]
  have g:=eq_true J;simp (disch:=first|omega|decide) only[push_cast,↓reduceIte,CI,E7,FF,E,I,g,e]
 ·have e:decide (K0 x)=false:=by simp[K0,E,I,J]
  simp (disch:=first|omega|decide) only[push_cast,↓reduceIte,CI,E7,FF,E,I,J,e]
theorem yY:Contract Tryz.prog GG 31 dO:=
 Ed yIl (DI all_nil all_nil) (fun a h=>Ytl a)
def ET(b:UInt8):Dig:=⟨b::CQ 31 0,by simp⟩
theorem Yhb(b:UInt8):DL (C8 Dt) [(0,1,Dn b)]=some (C8 (ET b)):=by
 have h:C8 Dt=(CQ 32 (0:UInt8)).map Dn:=rfl;rw[h,MF Dn (fun _=>rfl) _ _ _ _ (by simp),NW];rfl
def Ln(h l i:Int)(a b:Dig)(r:Int):Bis:=⟨h,l,i,a,b,false,false,Dt,Dt,Dt,Dt,r⟩
theorem Q1(l:List Dig)(hl:(l.length:Int)≤65536):Eo l=((l.length:Int),D0 l (DN l.length).toNat 0):=if_pos hl
theorem wS:DN 1=0:=by decide +kernel
theorem ve(l:List Dig):∀ (n m:Nat),l.length≤m*2 ^ n→(EN l n).length≤m
 |0,m,h=>by simpa[EN]using h
 |n+1,m,h=>by
  have E:=ve l n (2*m) (by rw[Cu]at h; rw[B2 2 m,Nat.mul_assoc,B2 2]; exact h)
  show(Gl (EF n) (EN l n)).length≤m
  rw[Q4];omega
theorem Ynb(l:List Dig)(n:Nat)(h:l.length≤2 ^ n):D0 l n 1=EF n:=by
 have:=ve l n 1 (by omega);exact YFu _ _ _ (by omega)
theorem Yho(l:List Dig)(hl:(l.length:Int)≤65536):l.length≤2 ^ (DN l.length).toNat:=by
 have:=jR (n:=(l.length:Int)) (by omega) hl;grind
theorem tW(l:List Dig)(hl:(l.length:Int)≤65536):∀ n:Nat,DN l.length≤(n:Int)→Fh (Eo l).1 (Eo l).2 n=D0 l n 0:=by
 have M:=L8 (n:=(l.length:Int)) (by omega) hl;rw[Q1 l hl];dsimp only;intro n
 induction n with
 |zero=>
  intro h;have:(DN l.length).toNat=0:=by omega
  rw[this]; rfl
 |succ n I=>
  intro h
  by_cases E:DN l.length≤(n:Int)
  ·rw[Fh,if_pos E,I E,Um _ _ _ (by omega)]
   have J:l.length≤2 ^ n:=by
    have a:=Yho l hl;exact AP a (Cn (by decide) (by omega))
   rw[show(2:Int)*0=0 from rfl,show(0:Int)+1=1 from rfl,Ynb l n J]
  ·rw[Fh,if_neg E,rf _ _ _ (by omega)];grind
theorem yS6{m n:Nat}(h:m≤n):GK m≤GK n:=SE (Nat.lt_of_le_of_lt h fh)
theorem vj{m n:Int}(E:0≤m)(h:m≤n)(hn:n≤65536):DN m≤DN n:=by
 rw[(L8 E (by omega)).1,(L8 (by omega) hn).1];have:=yS6 (m:=(max m 1).toNat - 1) (n:=(max n 1).toNat - 1) (by omega);omega
theorem sN{m n:Int}(hm:0≤m)(hn:0≤n)(E:m≤65536)(I:n≤65536):DN (max m n)=max (DN m) (DN n):=by
 rcases Int.le_total m n with h | h
 ·have:=vj hm h I;grind
 ·have:=vj hn h E;grind
def JL(a b:List Dig):Int:=DN (max (a.length:Int) (b.length:Int))
def Fa(a b:List Dig)(h lv i:Int):Bis:=Ln h lv i (D0 a lv.toNat i) (D0 b lv.toNat i) (h - lv)
theorem q9(l:List Dig)(lv i:Int)(hl:(l.length:Int)≤65536)(E:0≤lv)(I:lv≤16)(hi:0≤i)(J:i<2 ^ (16 - lv).toNat):LL l lv i=D0 l lv.toNat i:=by
 unfold LL;rw[if_pos (by unfold Jp; exact decide_eq_true ⟨hl,E,I,hi,J⟩)]
theorem vq{p:Int}{l r:Dig}(hv:Hl x=true)(I:p=0∨p=1)(hl:x.l≠0)(E:OY x p=false)(J:G6 l r=Qk x p)(M:OY x (1 - p)=false):FG x p l r=EC x p l r∧F3 x p l r=0:=by
 have U:¬ (x.l=0∨OY x p=true):=by rw[E]; intro h; rcases h with h | h; exact hl h; cases h
 refine⟨?_,?_⟩
 ·unfold FG;grind
 ·unfold F3;grind
theorem vM{p:Int}{l r:Dig}(hv:Hl x=true)(I:p=0∨p=1)(hl:x.l≠0)(E:OY x p=false)(J:G6 l r=Qk x p)(M:OY x (1 - p)=true):FG x p l r=Od (EC x p l r)∧F3 x p l r=0:=by
 have U:¬ (x.l=0∨OY x p=true):=by rw[E]; intro h; rcases h with h | h; exact hl h; cases h
 refine⟨?_,?_⟩
 ·unfold FG;grind
 ·unfold F3;grind
variable {h lv:Int}
theorem YU(a b:List Dig)(E:0≤lv)(I:lv≤h)(J:h≤16)(M:0≤i)(U:i<2 ^ (h - lv).toNat):Hl (Fa a b h lv i)=true:=
 Yjf (x:=Fa a b h lv i) (by show 0≤h; omega) J E I M U rfl
theorem uq(x:Bis)(p:Int)(l r:Dig):Hl (EC x p l r)=Hl x:=by
 unfold EC
 split <;> rfl
def Nd(a b:List Dig)(lv i:Int):Int:=if D0 a (lv - 1).toNat (2*i)=D0 b (lv - 1).toNat (2*i)then 2*i+1 else 2*i
theorem yRn(a b:List Dig)(E:1≤lv)(I:lv≤h)(J:0≤i)(M:i<2 ^ (h - lv).toNat):0≤Nd a b lv i∧Nd a b lv i<2 ^ (h - (lv - 1)).toNat:=by
 have e:(h - (lv - 1)).toNat=(h - lv).toNat+1:=by omega
 rw[e,CH];unfold Nd;omega
theorem US(a b s:List Dig)(E:(s.length:Int)≤65536)(Y:1≤lv)(J:lv≤h)(M:h≤16)(U:0≤i)(V:i<2 ^ (h - lv).toNat) :
  FY s (Fa a b h lv i)=0∧EP s (Fa a b h lv i)=D0 s (lv - 1).toNat (2*i)∧EO s (Fa a b h lv i)=D0 s (lv - 1).toNat (2*i+1):=by
 have hv:=YU a b (by omega) J M U V
 have e:FY s (Fa a b h lv i)=0:=by
  unfold FY;rw[if_pos hv,if_neg (by omega),if_neg (show ¬ (Fa a b h lv i).l=0 from fun e=>by have:lv=0:=e; omega)]
 have hp:=TT (a:=(h - lv).toNat) (b:=(16 - lv).toNat) (by omega);have I:(16 - (lv - 1)).toNat=(16 - lv).toNat+1:=by omega
 refine⟨e,?_,?_⟩
 ·unfold EP;rw[if_pos e];exact q9 s (lv - 1) (2*i) E (by omega) (by omega) (by omega) (by rw[I,CH]; omega)
 ·unfold EO;rw[if_pos e];exact q9 s (lv - 1) (2*i+1) E (by omega) (by omega) (by omega) (by rw[I,CH]; omega)
theorem xL(s:List Dig)(I:1≤lv)(E:0≤i):G6 (D0 s (lv - 1).toNat (2*i)) (D0 s (lv - 1).toNat (2*i+1))=D0 s lv.toNat i:=by
 have e:lv.toNat=(lv - 1).toNat+1:=by omega
 rw[e,Um _ _ _ E]
theorem rT(a b:List Dig){p:Int}(hp:p=0∨p=1)(V:1≤lv)(h1:lv≤h)(h2:h≤16)(U:0≤i)(i1:i<2 ^ (h - lv).toNat) :
  let E:=if p=0 then a else b
  let J:=if p=0 then b else a
  let x:=Fa a b h lv i
  let y:=EC x p (D0 E (lv - 1).toNat (2*i)) (D0 E (lv - 1).toNat (2*i+1))
  (FG x p (D0 E (lv - 1).toNat (2*i)) (D0 E (lv - 1).toNat (2*i+1))=y∧F3 x p (D0 E (lv - 1).toNat (2*i)) (D0 E (lv - 1).toNat (2*i+1))=0)∧
  (FG y (1 - p) (D0 J (lv - 1).toNat (2*i)) (D0 J (lv - 1).toNat (2*i+1))=Fa a b h (lv - 1) (Nd a b lv i)∧F3 y (1 - p) (D0 J (lv - 1).toNat (2*i)) (D0 J (lv - 1).toNat (2*i+1))=0):=by
 have hv:=YU a b (by omega) h1 h2 U i1;have Y:=xL a (lv:=lv) (i:=i) V U;have pb:=xL b (lv:=lv) (i:=i) V U;have hl:lv≠0:=by omega
 have M:h - lv+1=h - (lv - 1):=by omega
 rcases hp with rfl | rfl
 ·refine⟨vq hv (.inl rfl) hl rfl Y rfl,?_⟩;have I:Hl (EC (Fa a b h lv i) 0 (D0 a (lv - 1).toNat (2*i)) (D0 a (lv - 1).toNat (2*i+1)))=true:=by rw[uq]; exact hv
  obtain⟨g1,g2⟩:=vM (x:=EC (Fa a b h lv i) 0 (D0 a (lv - 1).toNat (2*i)) (D0 a (lv - 1).toNat (2*i+1))) (p:=1 - 0) I (.inr rfl) hl rfl pb rfl;refine⟨g1.trans ?_,g2⟩
  show Od {Fa a b h lv i with t0:=true,l0:=D0 a (lv - 1).toNat (2*i),r0:=D0 a (lv - 1).toNat (2*i+1),t1:=true,l1:=D0 b (lv - 1).toNat (2*i),r1:=D0 b (lv - 1).toNat (2*i+1)}=_
  unfold Od Nd Fa Ln;dsimp only
  by_cases he:D0 a (lv - 1).toNat (2*i)=D0 b (lv - 1).toNat (2*i)
  ·rw[if_pos he,if_pos he,M]; rfl
  ·rw[if_neg he,if_neg he,M]; rfl
 ·refine⟨vq hv (.inr rfl) hl rfl pb rfl,?_⟩;have I:Hl (EC (Fa a b h lv i) 1 (D0 b (lv - 1).toNat (2*i)) (D0 b (lv - 1).toNat (2*i+1)))=true:=by rw[uq]; exact hv
  obtain⟨g1,g2⟩:=vM (x:=EC (Fa a b h lv i) 1 (D0 b (lv - 1).toNat (2*i)) (D0 b (lv - 1).toNat (2*i+1))) (p:=1 - 1) I (.inl rfl) hl rfl Y rfl;refine⟨g1.trans ?_,g2⟩
  show Od {Fa a b h lv i with t0:=true,l0:=D0 a (lv - 1).toNat (2*i),r0:=D0 a (lv - 1).toNat (2*i+1),t1:=true,l1:=D0 b (lv - 1).toNat (2*i),r1:=D0 b (lv - 1).toNat (2*i+1)}=_
  unfold Od Nd Fa Ln;dsimp only
  by_cases he:D0 a (lv - 1).toNat (2*i)=D0 b (lv - 1).toNat (2*i)
  ·rw[if_pos he,if_pos he,M]; rfl
  ·rw[if_neg he,if_neg he,M]; rfl
def idxS(a b:List Dig)(h:Int):Nat→Int
 |0=>0
 |k+1=>Nd a b (h - k) (idxS a b h k)
theorem P9(a b:List Dig)(h:Int):∀ k:Nat,(k:Int)≤h→0≤idxS a b h k∧idxS a b h k<2 ^ (h - (h - k)).toNat
 |0,_=>by
  have:(h - (h - ((0:Nat):Int))).toNat=0:=by omega
  rw[this]; exact⟨CB 0,by show(0:Int)<2 ^ 0; decide⟩
 |k+1,hk=>by
  have E:=P9 a b h k (by omega);have:=yRn a b (h:=h) (lv:=h - k) (i:=idxS a b h k) (by omega) (by omega) E.1 E.2;rw[show h - (h - (k:Int) - 1)=h - (h - ((k+1:Nat):Int)) by omega]at this;exact this
def D7(a b:List Dig)(h:Int)(k:Nat):Bis:=Fa a b h (h - k) (idxS a b h k)
theorem YBl(a b:List Dig)(h:Int)(k:Nat):(D7 a b h k).l=h - k:=rfl
theorem Ylh(a b:List Dig)(h:Int)(k:Nat):Fa a b h (h - k - 1) (Nd a b (h - k) (idxS a b h k))=D7 a b h (k+1):=by
 unfold D7;rw[show h - (k:Int) - 1=h - ((k+1:Nat):Int) by omega];rfl
variable {c:List Ins} {v:Int×List Int} {x:Cse} {m:Mv} {now:Int}
theorem QE(h:FP c v x m now≠0):F1 c v x m now=Hc:=if_neg h
theorem TS(h:FP c v x m now=0):F1 c v x m now=(GJ c v x m now).1:=if_pos h
theorem ua(h:¬ Hk x):FP c v x m now=400:=if_neg h
def FI(m:Mv)(now:Int):Prop:=(1≤m.kd∧m.kd≤7)∧0≤now∧now≤1073741824∧(m.pt=0∨m.pt=1)
theorem Ymo(h:Hk x)(E:¬ FI m now):FP c v x m now=1:=by
 unfold FP; rw[if_pos h]; exact if_neg E
theorem ub(h:Hk x)(E:FI m now)(I:¬ now≤x.dl):FP c v x m now=401:=by
 unfold FP FI at *; rw[if_pos h,if_pos E]; exact if_neg I
theorem Yx(h:Hk x)(E:FI m now)(I:now≤x.dl):FP c v x m now=(GJ c v x m now).2:=by
 unfold FP FI at *; rw[if_pos h,if_pos E]; exact if_pos I
def YCn(x:Cse)(m:Mv):Prop:=((m.kd=1∨m.kd=6)∧(m.pt=0∨x.ph≠1))∨(m.kd=4∧m.pt=1)∨(m.kd=7∧(m.pt=1∨x.ph≠1))∨(m.kd=2∧x.ph≠2)∨(m.kd=3∧x.ph≠3)
theorem rm(h:Hk x)(I:FI m now)(J:now≤x.dl)(hn:YCn x m):FP c v x m now=380:=by
 rw[Yx h I J];unfold GJ;rcases hn with⟨hk | hk,E⟩ | ⟨hk,E⟩ | ⟨hk,E⟩ | ⟨hk,E⟩ | ⟨hk,E⟩
 ·rw[if_pos hk]; unfold MI; rw[if_neg (by omega)]
 ·rw[if_neg (by omega),if_neg (by omega),if_neg (by omega),if_neg (by omega),if_neg (by omega),if_pos hk]; unfold Rk; rw[if_neg (by omega)]
 ·rw[if_neg (by omega),if_neg (by omega),if_neg (by omega),if_pos hk]; unfold Tb; rw[if_neg (by omega)]
 ·rw[if_neg (by omega),if_neg (by omega),if_neg (by omega),if_neg (by omega),if_neg (by omega),if_neg (by omega)]; unfold IZ; rw[if_neg (by omega)]
 ·rw[if_neg (by omega),if_pos hk]; unfold N8; rw[if_neg E]
 ·rw[if_neg (by omega),if_neg (by omega),if_pos hk]; unfold Ob F0; rw[if_neg (by simp[E])]
structure Keep (x y:Cse):Prop where
 key:y.key=x.key
 p0:y.p0=x.p0
 p1:y.p1=x.p1
 a0:y.a0=x.a0
 c0:y.c0=x.c0
 dl:y.ph≤3→x.dl≤y.dl
theorem Keep.refl(x:Cse):Keep x x:=⟨rfl,rfl,rfl,rfl,rfl,fun _=>CB _⟩
structure Live (x:Cse) (now:Int):Prop where
 ph:1≤x.ph∧x.ph≤6
 dl:x.ph≤3→x.dl≤now+1440
 wn:-1≤x.wn∧x.wn≤1
 bv:Hl x.b=true
theorem Yz1(x:Cse)(n:Int):-1≤KK x n∧KK x n≤1:=by
 unfold KK; split
 ·omega
 ·omega
theorem yNz(E:Dig×Dig)(d:Dig):-1≤Mw E d∧Mw E d≤1:=by
 unfold Mw; split
 ·omega
 ·omega
theorem wu(E:Dig×Dig)(r:Dig×Int):-1≤(Hy E r).1∧(Hy E r).1≤1:=by
 unfold Hy; split
 ·exact yNz ..
 ·simp
def G8(st:St)(k:Nat)(p:Ply):Prop:=st[k]?=some ⟨false,1,Df p,false⟩
variable {p:Ply}
theorem L7(h:G8 st k p):k<st.length:=(Ab.1 h).1
theorem Ypx{a b:List Ins}:Ef a=Ef b↔a=b:=by
 refine⟨fun h=>?_,fun h=>by rw[h]⟩;simp only[Ef,D.slc.injEq,and_true]at h;exact Ko.1 h.2
theorem rq{q:Ply}(h:Df p=Df q)(M:p.j=Dw p.x.jn)(U:q.j=Dw q.x.jn):p=q:=by
 obtain⟨I,pj,pc,pv,pm,pn,V⟩:=p;obtain⟨qx,qj,qc,qv,qm,qn,Y⟩:=q;dsimp only at M U;simp only[Df,Ey,L5,Ap]at h;obtain⟨h1,h2⟩:=A3 h ((M5 I pj).trans (M5 qx qj).symm);simp only[Dg,Sg.cs,Ak,Ao,Ai,Aa,Ypx]at h2;obtain⟨rfl,h3⟩:=h2;obtain⟨h4,h5⟩:=A3 h3 ((HT V).trans (HT Y).symm);obtain⟨h6,h7⟩:=A3 h5 ((YX pm).trans (YX qm).symm);simp only[Aa,D.int.injEq,true_and,and_true]at h7;obtain rfl:=h7;obtain rfl:=gA.1 (congrArg D.agg h6);obtain rfl:=J0.1 (congrArg D.agg h4);obtain⟨E,h9⟩:=iV h1;subst h9;have J:I.jn=qx.jn:=di.1 (M.symm.trans U)
 have:I=qx:=by
  obtain⟨xk,x0,x1,x2,x3,x4,x5,xc,xe,xb,x6,x7,x8,xj⟩:=I;obtain⟨yk,y0,y1,y2,y3,y4,y5,yc,ye,yb,y6,y7,y8,yj⟩:=qx;simp only[Cse.mk.injEq,and_true]at E J ⊢;exact⟨E.1,E.2.1,E.2.2.1,E.2.2.2.1,E.2.2.2.2.1,E.2.2.2.2.2.1,E.2.2.2.2.2.2.1,E.2.2.2.2.2.2.2.1,E.2.2.2.2.2.2.2.2.1,E.2.2.2.2.2.2.2.2.2.1,E.2.2.2.2.2.2.2.2.2.2.1,E.2.2.2.2.2.2.2.2.2.2.2.1,E.2.2.2.2.2.2.2.2.2.2.2.2,J⟩
 subst this;rfl
section
variable {α:Type} (enc:α→List D) (pre:Ply→α→Prop) (F:Ply→α→Cse×Int×St)
def J7(ds:List D)(st:St)(r:D×Int×St):Prop:=∃ (k:Nat) (p:Ply) (a:α),p.j=Dw p.x.jn∧G8 st k p∧pre p a∧ds=.ptr k 0::enc a∧r=(.tup [],(F p a).2.1,DF st k (Df {p with x:=(F p a).1})++(F p a).2.2)
variable {enc pre F}
theorem OK(hi:∀ a b,enc a=enc b→a=b):Jk (J7 enc pre F):=by
 rintro ds st r J ⟨k,p,a,hj,hk,_,rfl,rfl⟩ ⟨k',p',M,I,E,_,h,rfl⟩;simp only[Aa,D.ptr.injEq,and_true]at h;obtain⟨rfl,h⟩:=h;obtain rfl:=hi _ _ h;unfold G8 at hk E;rw[hk]at E;simp only[AK,PI.Obj.mk.injEq,true_and,and_true]at E;obtain rfl:=rq E hj I;rfl
theorem Sa(hi:∀ a b,enc a=enc b→a=b){a:α}(hj:p.j=Dw p.x.jn)(hk:G8 st k p)(E:pre p a)(I:(F p a).2.1=0) :
  EM (J7 enc pre F) (.ptr k 0::enc a) st=some (.tup [],DF st k (Df {p with x:=(F p a).1})++(F p a).2.2):=
 U9 (OK hi) ⟨k,p,a,hj,hk,E,rfl,by rw[I]⟩
theorem Yvv(hi:∀ a b,enc a=enc b→a=b){a:α}(hj:p.j=Dw p.x.jn)(hk:G8 st k p)(E:pre p a)(I:(F p a).2.1≠0) :
  EM (J7 enc pre F) (.ptr k 0::enc a) st=none:=U8 (OK hi) ⟨k,p,a,hj,hk,E,rfl,rfl⟩ I
theorem YCx(hi:∀ a b,enc a=enc b→a=b){a:α}(hj:p.j=Dw p.x.jn)(hk:G8 st k p)(E:pre p a)(I:(F p a).2.1≠0) :
  GO (J7 enc pre F) (.ptr k 0::enc a) st=some (125,.int .i64 (F p a).2.1,DF st k (Df {p with x:=(F p a).1})++(F p a).2.2):=
 Vw (OK hi) ⟨k,p,a,hj,hk,E,rfl,rfl⟩ I
end
theorem Kq(h:G8 st k p)(l:St):G8 (st++l) k p:=by
 unfold G8; rw[H2 (L7 h)]; exact h
theorem QT(h:k<st.length)(p:Ply):G8 (DF st k (Df p)) k p:=NY h _
theorem P2(h:G8 st k p):DF st k (Df p)=st:=by
 unfold G8 at h;obtain⟨I,E⟩:=Ab.1 h;unfold DF;rw[← E,List.set_getElem_self]
def I7:Unit→List D:=fun _=>[]
def HO:Int→List D:=fun n=>[.int .i64 n]
def Ll:Int×Int→List D:=fun a=>[.int .i64 a.1,.int .i64 a.2]
theorem M0:∀ a b,I7 a=I7 b→a=b:=fun _ _ _=>rfl
theorem iA:∀ a b,HO a=HO b→a=b:=fun a b h=>by simpa[HO]using h
theorem qQ:∀ a b,Ll a=Ll b→a=b:=fun a b h=>by
 simp only[Ll,Aa,D.int.injEq,true_and,and_true]at h;exact Prod.ext h.1 h.2
def Pg(p:Ply)(a:Int×Int):Cse×Int×St:=(Jl p.x a.1 a.2,0,[])
abbrev NC:=J7 Ll (fun _ _=>True) Pg
theorem iT:CK 125 NC:=by
 refine K5 (T:=tb [] []) oN (DI all_nil all_nil) ?_;rintro ds st d e st' ⟨k,p,⟨w,a⟩,hj,hk,_,rfl,h⟩;simp only[AA]at h;obtain⟨rfl,rfl,rfl⟩:=h;have E:=L7 hk;unfold G8 at hk;unfold fU;simp (disch:=first|omega|decide) only[push_cast,↓reduceIte,CI,Ll,Pg,Jl,D6,hk,Vc,xV,YBc,I6,NY E,L9,Ai,and_true]
noncomputable abbrev na:Tbl:=tb [] [(125,EM NC)]
theorem eP(hj:p.j=Dw p.x.jn)(hk:G8 st k p)(w a:Int):EM NC [.ptr k 0,.int .i64 w,.int .i64 a] st=some (.tup [],DF st k (Df {p with x:=Jl p.x w a})):=by
 have:=Sa (F:=Pg) (pre:=fun _ _=>True) qQ (a:=(w,a)) hj hk trivial rfl;rw[show(Pg p (w,a)).2.2=[]from rfl,Ai]at this;exact this
def Mg(p:Ply)(a:Int):Cse×Int×St:=(Fz p.x a,0,[])
abbrev Mq:=J7 HO (fun _ a=>a≤1) Mg
theorem cq:CK 79 Mq:=by
 refine K5 (T:=na) oD (DI all_nil (all_cons iT.1 all_nil)) ?_;rintro ds st d e st' ⟨k,p,a,hj,hk,ha,rfl,h⟩;simp only[AA]at h;obtain⟨rfl,rfl,rfl⟩:=h;have M:=L7 hk;have E:=fun w a=>eP hj hk w a;unfold G8 at hk;unfold fT
 by_cases I:a<0
 ·simp (disch:=first|omega|decide) only[push_cast,↓reduceIte,CI,CN,HO,Mg,Fz,I,E,Ai,and_true]
 ·have J:a=0∨a=1:=by omega
  rcases J with rfl | rfl
  ·have e:Fz p.x 0=Jl p.x 0 p.x.a0:=by unfold Fz N6; rw[if_neg (by omega),if_pos rfl]
   simp (disch:=first|omega|decide) only[push_cast,↓reduceIte,CI,CP,CN,HO,Mg,e,I,D6,hk,E8,bu,E,Ai,and_true]
  ·have e:Fz p.x 1=Jl p.x 1 p.x.a1:=by unfold Fz N6; rw[if_neg (by omega),if_neg (by omega)]
   simp (disch:=first|omega|decide) only[push_cast,↓reduceIte,CI,CJ,CP,CN,HO,Mg,e,I,D6,hk,E8,bw,E,Ai,and_true]
theorem Yn(hj:p.j=Dw p.x.jn)(hk:G8 st k p){a:Int}(E:a≤1):EM Mq [.ptr k 0,.int .i64 a] st=some (.tup [],DF st k (Df {p with x:=Fz p.x a})):=by
 have:=Sa (F:=Mg) (pre:=fun _ a=>a≤1) iA (a:=a) hj hk E rfl;rw[show(Mg p a).2.2=[]from rfl,Ai]at this;exact this
theorem YDz(hk:st[k]?=some ⟨false,1,Df p,false⟩):DV st (.bsl k 9 2 1 false)=some (.slc 1 [.int .i64 p.x.a0,.int .i64 p.x.a1] false):=by
 have E:Lv st k 9 2 1 false=some [.int .i64 p.x.a0,.int .i64 p.x.a1]:=by
  unfold Lv;rw[hk];dsimp only;rw[yQ9,if_pos (by decide)];rfl
 simp only[DV,DC,Ib,E];rfl
def Pc(p:Ply)(n:Int):Cse×Int×St:=(Rp p.x n,0,[])
abbrev Pn:=J7 HO (fun _ _=>True) Pc
theorem pQ:CK 120 Pn:=by
 refine K5 (T:=tb [(160,bG)] [(125,EM NC)]) yup (DI (all_cons XG all_nil) (all_cons iT.1 all_nil)) ?_;rintro ds st d e st' ⟨k,p,a,hj,hk,ha,rfl,h⟩;simp only[AA]at h;obtain⟨rfl,rfl,rfl⟩:=h;have E:=fun w a=>eP hj hk w a
 have ci:bG [.slc 1 [.int .i64 p.x.a0,.int .i64 p.x.a1] false,.int .i64 a]=some (.int .i64 (KK p.x a)):=by
  have:=Yp5 [p.x.a0,p.x.a1] a (by simp);rw[Yww]at this;exact this
 unfold G8 at hk;have hi:=YDz hk;have I:PL 2 1 false (.ptr k 9) none none=some (.bsl k 9 2 1 false):=rfl;have DE:keys (.bsl k 9 2 1 false)=[k]:=rfl;unfold oC;simp (disch:=first|omega|decide) only[push_cast,↓reduceIte,CI,HO,Pc,Rp,D6,I,hi,ci,E,Ai,and_true]
theorem uy(hj:p.j=Dw p.x.jn)(hk:G8 st k p)(a:Int):EM Pn [.ptr k 0,.int .i64 a] st=some (.tup [],DF st k (Df {p with x:=Rp p.x a})):=by
 have:=Sa (F:=Pc) (pre:=fun _ _=>True) iA (a:=a) hj hk trivial rfl;rw[show(Pc p a).2.2=[]from rfl,Ai]at this;exact this
def Nh(p:Ply):Prop:=0≤p.now∧p.now≤1073741824
def Pd(p:Ply)(_:Unit):Cse×Int×St:=({p.x with dl:=p.now+1440},0,[])
abbrev KO:=J7 I7 (fun p _=>Nh p) Pd
theorem Ys:CK 118 KO:=by
 refine K5 (T:=tb [] []) ytu (DI all_nil all_nil) ?_;rintro ds st d e st' ⟨k,p,a,hj,hk,ha,rfl,h⟩;simp only[AA]at h;obtain⟨rfl,rfl,rfl⟩:=h;obtain⟨n1,I⟩:=ha;have E:=L7 hk;unfold G8 at hk;unfold oG;simp (disch:=first|omega|decide) only[push_cast,↓reduceIte,CI,I7,Pd,D6,hk,Yv5,DK,YBa,I6,Ai,and_true]
theorem Zf(hj:p.j=Dw p.x.jn)(hk:G8 st k p)(hn:Nh p):EM KO [.ptr k 0] st=some (.tup [],DF st k (Df {p with x:={p.x with dl:=p.now+1440}})):=by
 have:=Sa (F:=Pd) (pre:=fun p _=>Nh p) M0 (a:=()) hj hk hn rfl;rw[show(Pd p ()).2.2=[]from rfl,Ai]at this;exact this
def O5(p:Ply)(_:Unit):Cse×Int×St:=(K2 p.x p.now,0,[])
abbrev Pl:=J7 I7 (fun p _=>Nh p) O5
theorem zq:CK 121 Pl:=by
 refine K5 (T:=tb [] [(118,EM KO)]) yv1 (DI all_nil (all_cons Ys.1 all_nil)) ?_;rintro ds st d e st' ⟨k,p,a,hj,hk,ha,rfl,h⟩;simp only[AA]at h;obtain⟨rfl,rfl,rfl⟩:=h;have E:=L7 hk;have ce:=Zf (st:=DF st k (Df {p with x:={p.x with ph:=3}})) (k:=k) (p:={p with x:={p.x with ph:=3}}) hj (QT E _) ha;unfold G8 at hk;unfold ou;simp (disch:=first|omega|decide) only[push_cast,↓reduceIte,CI,I7,O5,K2,D6,hk,Vc,I6,ce,L9,Ai,and_true]
theorem pO(hj:p.j=Dw p.x.jn)(hk:G8 st k p)(hn:Nh p):EM Pl [.ptr k 0] st=some (.tup [],DF st k (Df {p with x:=K2 p.x p.now})):=by
 have:=Sa (F:=O5) (pre:=fun p _=>Nh p) M0 (a:=()) hj hk hn rfl;rw[show(O5 p ()).2.2=[]from rfl,Ai]at this;exact this
end Go.Proofs.YtijnglngaogdjaaGreatDoor.PI
