/-
  tvm's reference: what an instruction comes to.
  Conditions: none; these are lemmas.
-/
import Derived.Test.YtijnglngaogdjaaGreatDoorArQ
import Derived.Test.YtijnglngaogdjaaGreatDoorEngHe
open BitVec renaming ofInt→CP
open Int renaming reduceAdd→CW,reduceEq→CR,reduceLE→C3,reduceLT→CO,reduceMul→CV,reduceNatCast'→CI,reduceNeg→CN,reducePow→C0,reduceSub→CZ,reduceToNat→CT
open List renaming replicate→CM
open Nat renaming reduceAdd→CH,reduceEqDiff→CG,reduceLT→CL,reduceLeDiff→CJ,reduceMul→C4
open UInt8 renaming ofNat→CS
set_option linter.unusedVariables false
set_option linter.unusedSimpArgs false
namespace Go.Proofs.YtijnglngaogdjaaGreatDoor.PI
open Go
set_option linter.unusedSimpArgs false
set_option maxHeartbeats 8000000
set_option maxRecDepth 20000
set_option linter.unusedVariables false
theorem ei(d:Der):D0 (E4 d)=some (Dq (ET d.code) d.env d.am d.er (HI d.lv)):=by
 rw[show D0 (E4 d)=if(Dq (ET d.code) d.env d.am d.er (HI d.lv)).all D.isCell then some (Dq (ET d.code) d.env d.am d.er (HI d.lv))else none from rfl,if_pos (jb _ rfl rfl _ _)]
def Gf(c:List Ins)(v:Int×List Int)(n:Int):Sta×Int:=if(Ei c).2=0 then(if n<0 then(EY,1)else match(KN c v)[n.toNat]? with
 |some s=>(s,0)
 |none=>(EY,1))else(EY,(Ei c).2)
def I9:List D:=[.int .i64 0,.int .i64 0,.int .i64 0,.int .i64 0,.slc 0 [] true]
theorem en:D0 (.agg [.int .i64 0,.int .i64 0,.int .i64 0,.int .i64 0,.slc 0 [] true])=some I9:=(rfl)
theorem Yoa(s:Sta):Eh (some ⟨false,1,I9,false⟩) 5 0 (Dk s)=some ⟨false,1,DB s,false⟩:=(rfl)
theorem fv:Eh (some ⟨false,1,I9,false⟩) 5 0 (.agg [.int .i64 0,.int .i64 0,.int .i64 0,.int .i64 0,.slc 0 [] true])=some ⟨false,1,I9,false⟩:=(rfl)
theorem mq(lent:Bool):DY (some ⟨false,1,I9,lent⟩) 5 true 0=some (.agg [.int .i64 0,.int .i64 0,.int .i64 0,.int .i64 0,.slc 0 [] true]):=(rfl)
def Il(d:Der)(n:Int)(r:List D)(e:Int)(s:Sta)(k:Int)(ex:St):St:=
 ⟨false,1,Dq (ET d.code) d.env d.am d.er (HI d.lv),false⟩::⟨false,1,[.int .i64 n],false⟩::⟨false,1,r,false⟩::⟨false,1,[.int .i64 e],false⟩::⟨false,1,[ET d.code],false⟩::⟨false,1,DS d.env,false⟩::recO k::⟨false,1,DB s,false⟩::ex
noncomputable def JR:Tbl:=Od [(47,Nx)] [(60,Nk)] [(114,Mj)]
theorem lP(d:Der)(n:Int)(s:Sta)(r:List D)(e:Int)(u:St)(i:Nat)(hi:¬ (i:Int)=n)(fr:Frame)(E:fr 3=.ptr 1 0)(I:fr 4=.ptr 2 0)(J:fr 5=.ptr 3 0)(m:Nat) :
  IJ (NW.exec GG JR m) (NX.exec GG JR m) fr [25,26] 6 [.int .i64 (i:Int),Dk s] (Il d n r e s 0 u)=some (.bool true,Il d n r e s 0 (u++[Gn s])):=by
 refine RO rfl rfl rfl ?_ m;unfold NW Il;simp (disch:=first|omega|decide) only[push_cast,↓reduceIte,CG,HG,EH,FN,EG,Nw];unfold NX;simp (disch:=first|omega|decide) only[push_cast,↓reduceIte,CG,E,RN,UO,PN,JR,hi];rfl
theorem Yoj(d:Der)(s:Sta)(u:St)(i:Nat)(fr:Frame)(E:fr 3=.ptr 1 0)(I:fr 4=.ptr 2 0)(J:fr 5=.ptr 3 0)(m:Nat) :
  IJ (NW.exec GG JR m) (NX.exec GG JR m) fr [25,26] 6 [.int .i64 (i:Int),Dk s] (Il d (i:Int) I9 0 s 0 u)=some (.bool false,Il d (i:Int) (DB s) 0 s 1 (u++[Gn s])):=by
 refine RO rfl rfl rfl ?_ m;unfold NW Il;simp (disch:=first|omega|decide) only[push_cast,↓reduceIte,CG,HG,EH,FN,EG,Nw];unfold NX;simp (disch:=first|omega|decide) only[push_cast,↓reduceIte,CG,E,I,J,RN,UO,PN,JR,EG,E2,Yoa];rfl
def ID(d:Der)(n:Int)(l:List Sta)(i:Nat)(ex:St):St:=match l with
 |[]=>[]
 |s::l=>if(i:Int)=n then Il d n (DB s) 0 s 1 (ex++[Gn s])else match l with
  |[]=>Il d n I9 0 s 0 (ex++[Gn s])
  |s'::l=>ID d n (s'::l) (i+1) (ex++[Gn s])
theorem X3(d:Der)(hv:D5 d.env)(n:Int)(fr:Frame)(u:fr 3=.ptr 1 0)(E:fr 4=.ptr 2 0)(I:fr 5=.ptr 3 0)(m:Nat):∀ (l:List Sta) (s:Sta) (i:Nat) (ex:St),
  RunY (IJ (NW.exec GG JR m) (NX.exec GG JR m) fr [25,26] 6) 7 4 5 (s::l) i (Il d n I9 0 s 0 ex) (ID d n (s::l) i ex)
 |l,s,i,ex=>by
  by_cases hi:(i:Int)=n
  ·subst hi;rw[show ID d (i:Int) (s::l) i ex=Il d (i:Int) (DB s) 0 s 1 (ex++[Gn s]) by unfold ID; rw[if_pos rfl]];exact .stop (Yoj d s ex i fr u E I m)
  ·match l with
   |[]=>
    rw[show ID d n [s] i ex=Il d n I9 0 s 0 (ex++[Gn s]) by unfold ID; rw[if_neg hi]];exact .last (lP d n s I9 0 ex i hi fr u E I m) rfl
   |s'::l=>
    rw[show ID d n (s::s'::l) i ex=ID d n (s'::l) (i+1) (ex++[Gn s]) by rw[ID,if_neg hi]];exact .next (lP d n s I9 0 ex i hi fr u E I m) rfl rfl rfl (X3 d hv n fr u E I m l s' (i+1) (ex++[Gn s]))
theorem g8(d:Der)(n:Int):∀ (l:List Sta) (s:Sta) (i:Nat) (ex:St),(∃ k s',n=(i:Int)+(k:Nat)∧(s::l)[k]?=some s'∧∃ u,ID d n (s::l) i ex=Il d n (DB s') 0 s' 1 u)∨
  ((n<i∨(i:Int)+((s::l).length:Nat)≤n)∧∃ s' u,ID d n (s::l) i ex=Il d n I9 0 s' 0 u)
 |l,s,i,ex=>by
  by_cases hi:(i:Int)=n
  ·exact .inl ⟨0,s,by omega,rfl,ex++[Gn s],by unfold ID; rw[if_pos hi]⟩
  ·match l with
   |[]=>exact .inr ⟨by simp; omega,s,ex++[Gn s],by unfold ID; rw[if_neg hi]⟩
   |s'::l=>
    rw[show ID d n (s::s'::l) i ex=ID d n (s'::l) (i+1) (ex++[Gn s]) by rw[ID,if_neg hi]];rcases g8 d n l s' (i+1) (ex++[Gn s])with⟨k,x,I,E,J⟩ | ⟨I,E⟩
    ·exact .inl ⟨k+1,x,by omega,by simpa using E,J⟩
    ·exact .inr ⟨by simp only[Al]at I ⊢; omega,E⟩
noncomputable def Zg:List D→Option D:=Dd (α:=Der×Int) (fun a=>[E4 a.1,.int .i64 a.2]) (fun a=>a.1.code.length≤9223372036854775807∧D5 a.1.env) (fun a=>.tup [Dk (Gf a.1.code a.1.env a.2).1,.int .i64 (Gf a.1.code a.1.env a.2).2])
theorem kH(d:Der)(n:Int)(h:d.code.length≤9223372036854775807∧D5 d.env):Zg [E4 d,.int .i64 n]=some (.tup [Dk (Gf d.code d.env n).1,.int .i64 (Gf d.code d.env n).2]):=
 DG (fun⟨a0,a1⟩ ⟨b0,b1⟩ h=>by simp only[Aa,D.int.injEq,true_and,and_true,Ydt]at h; simp[h]) (d,n) h
theorem Ygq(d:Der)(n:Int)(h:d.code.length≤9223372036854775807∧D5 d.env):@wW GG JR Tg.code (Db [E4 d,.int .i64 n]) [] ⟨De Tg.res (.tup [Dk (Gf d.code d.env n).1,.int .i64 (Gf d.code d.env n).2])⟩:=by
 obtain⟨O,hv⟩:=h;have M:=R9 d.code O;have cs:=fK d.code d.env [⟨false,1,Dq (ET d.code) d.env d.am d.er (HI d.lv),false⟩,⟨false,1,[.int .i64 n],false⟩,⟨false,1,I9,false⟩,⟨false,1,[.int .i64 0],false⟩] hv;have l0:∀ lent,DY (some ⟨false,1,Dq (ET d.code) d.env d.am d.er (HI d.lv),lent⟩) 1 false 0=some (.slc (nz 3 (d.code.map C5)) (d.code.map C5) false):=fun lent=>Yi8 d.env lent (ET d.code) (HI d.lv) d.am d.er;have l1:=fun lent=>Yi7 hv lent (ET d.code) (HI d.lv) d.am d.er;rw[show Nk [ET d.code,DQ d.env]=Nk [.slc (nz 3 (d.code.map C5)) (d.code.map C5) false,DQ d.env]from rfl]at cs;unfold Tg
 by_cases u:(Ei d.code).2=0
 ·obtain⟨Dm,l,hD,U,N,Y,hg⟩:=ic (v:=d.env) u;obtain⟨I,_⟩:=K4 u;simp (disch:=first|omega|decide) only[push_cast,↓reduceIte,CG,CH,JR,ei,en,M,u,l0,l1,cs]
  have J:∀ x,Gf d.code d.env n=x↔(if n<0 then(EY,1)else match(E8 ((d.code.length:Int)+1)::l)[n.toNat]? with
   |some s=>(s,(0:Int))
   |none=>(EY,1))=x:=fun x=>by unfold Gf; rw[if_pos u,U]
  rcases g8 d n l (E8 ((d.code.length:Int)+1)) 0 []with⟨k,s',V,hk,E,he⟩ | ⟨V,s',E,he⟩
  ·refine XP (e:=.ret) (st':=Il d n (DB s') 0 s' 1 E) (d:=.tup []) (by simp only[push_cast,↓reduceIte] <;> rfl) (by decide) (by rfl) (fun m=>?_) rfl ?_
   ·refine YA ⟨4,5,d.code,d.env,l,false,false,rfl,rfl,rfl,I,hv,by omega,N,rfl,?_⟩;rw[← he];exact X3 d hv n _ rfl rfl rfl m l _ 0 []
   ·rw[(J (s',0)).2 (by rw[if_neg (by omega),show n.toNat=k by omega,hk])];unfold Il;simp (disch:=first|omega|decide) only[push_cast,↓reduceIte,CG,CH,E2,FA]
  ·refine XP (e:=.next) (st':=Il d n I9 0 s' 0 E) (d:=.tup []) (by simp only[push_cast,↓reduceIte] <;> rfl) (by decide) (by rfl) (fun m=>?_) rfl ?_
   ·refine YA ⟨4,5,d.code,d.env,l,false,false,rfl,rfl,rfl,I,hv,by omega,N,rfl,?_⟩;rw[← he];exact X3 d hv n _ rfl rfl rfl m l _ 0 []
   ·have X:Gf d.code d.env n=(EY,1):=(J _).2 (by
     split
     ·rfl
     ·rw[B7 (by omega)])
    rw[X];unfold Il;simp (disch:=first|omega|decide) only[push_cast,↓reduceIte,CG,CH,On,fv,mq];rfl
 ·rw[show Gf d.code d.env n=(EY,(Ei d.code).2)from if_neg u];simp (disch:=first|omega|decide) only[push_cast,↓reduceIte,CG,CH,JR,ei,en,M,u,l0,On,fv,mq];rfl
theorem Ylh:Contract Tryz.prog GG 39 Zg:=
 DH (T:=JR) na (mG (all_cons UF all_nil) (all_cons mR all_nil) (all_cons mT all_nil)) (fun a h=>Ygq a.1 a.2 h)
theorem Hm(S l:St)(k:Nat):(S++l)[S.length+k]?=l[k]?:=by
 rw[AD (by omega)]; congr 1; omega
theorem L0(S l:St):(S++l)[S.length]?=l[0]?:=Hm S l 0
theorem Hk(S l:St)(k:Nat)(x:PI.Obj):(S++l).set (S.length+k) x=S++l.set k x:=by
 rw[BO _ _ (by omega)]; congr 2; omega
theorem MR(S l:St)(x:PI.Obj):(S++l).set S.length x=S++l.set 0 x:=Hk S l 0 x
theorem Kb(fr:Frame)(st:St)(t n:Nat)(ag:Bool)(l:List PRes):Ea ⟨fr,st⟩ (.cell t n ag::l)=(EU st n ag (fr t)).bind fun d=>(Ea ⟨fr,st⟩ l).map (d::·):=by
 simp only[Ea];cases EU st n ag (fr t) <;> cases Ea ⟨fr,st⟩ l <;> rfl
def Fv(p:Dig×Dig):D:=.agg (C6 p.1++C6 p.2)
theorem Nq{a b:Dig×Dig}:Fv a=Fv b↔a=b:=by
 refine⟨fun h=>?_,fun h=>by rw[h]⟩;obtain⟨a1,I⟩:=a;obtain⟨b1,J⟩:=b;simp only[Fv,D.agg.injEq]at h;obtain⟨u,E⟩:=List.append_inj h (by rw[Fh,Fh]);rw[RA.1 u,RA.1 E]
theorem Yk6(p:Dig×Dig):(C6 p.1++C6 p.2).all D.isCell=true:=by
 rw[BQ,I4 (fun _=>rfl),I4 (fun _=>rfl)]; rfl
theorem rD(p:Dig×Dig):(C6 p.1++C6 p.2).length=64:=by simp[Fh]
theorem IE(p:Dig×Dig):D0 (Fv p)=some (C6 p.1++C6 p.2):=by
 rw[show D0 (Fv p)=if(C6 p.1++C6 p.2).all D.isCell then some (C6 p.1++C6 p.2)else none from rfl,if_pos (Yk6 p)]
theorem K5(lent:Bool)(p:Dig×Dig):DY (some ⟨false,1,C6 p.1++C6 p.2,lent⟩) 64 true 0=some (Fv p):=Lw 1 lent _ 64 (rD p)
theorem ZP(p:Dig×Dig):L1 2 32 true (Fv p) (.int .i64 0)=some (C7 p.1):=
 gN (A:=[]) (B:=C6 p.1) (C:=C6 p.2) rfl rfl (Fh _)
theorem ZO(p:Dig×Dig):L1 2 32 true (Fv p) (.int .i64 1)=some (C7 p.2):=
 gN (A:=C6 p.1) (B:=C6 p.2) (C:=[]) (by rw[Av]) (Fh _) (Fh _)
theorem OC(p:Dig×Dig):Ha (Fv p)=true:=by
 simp only[Fv,Ha,BQ];rw[show(C6 p.1).all E7=true from NO _,show(C6 p.2).all E7=true from NO _]; rfl
theorem ZX(p:Dig×Dig):hk (Fv p)=[]:=Zj (OC p)
theorem Xx(n:Nat)(σ:List Nat)(p:Dig×Dig):Eo n σ (Fv p)=Fv p:=NM n σ (OC p)
theorem Nc(st:St)(p:Dig×Dig):D4 st (Fv p)=some (Fv p):=Sj st (OC p)
theorem Yjd(p:Dig×Dig):keys (Fv p)=[]:=Pe (OC p)
def D6(p:Int×Dig):D:=.agg (.int .i64 p.1::C6 p.2)
def Ie(cl:Dig×Dig)(d:Dig):Int:=if cl.1=d then 0 else if cl.2=d then 1 else -1
def Fe(cl:Dig×Dig)(r:Dig×Int):Int×Dig:=if r.2=0 then(Ie cl r.1,r.1)else(0,DF)
def EW(cl:Dig×Dig):PI.Obj:=⟨false,1,C6 cl.1++C6 cl.2,false⟩
def EL(p:Int×Dig):PI.Obj:=⟨false,1,.int .i64 p.1::C6 p.2,false⟩
def ml(f:Nat)(sp:List D→St→Option (D×St))(ds:List D)(st:St)(r:D×St):Prop:=∃ (cl:Dig×Dig) (caps:List D) (d:Dig) (e:Int),StOK st∧ds=[Fv cl,.clo f caps]∧
 sp caps (st++[EW cl,EL (0,DF)])=some (.tup [C7 d,.int .i64 e],st++[EW cl,EL (0,DF)])∧r=(.tup [D6 (Fe cl (d,e)),.int .i64 e],st)
theorem jx(f:Nat)(sp:List D→St→Option (D×St)):G3 (ml f sp):=by
 rintro ds st r N ⟨cl,I,d,e,_,rfl,J,rfl⟩ ⟨M,E,O,U,_,h,u,rfl⟩;simp only[Aa,D.clo.injEq,and_true,true_and,Nq]at h;obtain⟨rfl,rfl⟩:=h;rw[J]at u;simp only[C9,Dr,D.tup.injEq,Aa,KR,D.int.injEq,true_and,and_true]at u;obtain⟨rfl,rfl⟩:=u;rfl
noncomputable def NF(f:Nat)(sp:List D→St→Option (D×St)):List D→St→Option (D×St):=Gb (ml f sp)
theorem OZ{S:St}(h:StOK S)(l:St)(hl:∀ o∈l,o.els.all E7=true):StOK (S++l):=
 h.app _ fun o u _ x E=>NM _ _ (W1 (Ag.1 (hl o u) x E))
theorem MH(d:Dig):(C6 d).all E7=true:=NO d
theorem MC(u:Dig×Dig):(EW u).els.all E7=true:=by
 simp only[EW,BQ,MH]; rfl
theorem O6(p:Int×Dig):(EL p).els.all E7=true:=by
 simp only[EL,AU,MH]; rfl
theorem JU{S l:St}(h:StOK S):cut S.length (S++l)=S:=mS h rfl
theorem Yb3(n:Nat)(a:Int)(d:Dig)(e:Int):GJ n (.tup [.agg (.int .i64 a::C6 d),.int .i64 e])=.tup [.agg (.int .i64 a::C6 d),.int .i64 e]:=by
 have h:Gs n (.agg (.int .i64 a::C6 d))=.agg (.int .i64 a::C6 d):=by
  rw[← X1]; exact NM n [] (d:=.agg (.int .i64 a::C6 d)) (by simp only[Ha,AU,MH]; rfl)
 simp only[GJ,Aq,A6,h];rfl
theorem Mi(p:Int×Dig)(a:Int)(d:Dig):Eh (some (EL p)) 33 0 (.agg (.int .i64 a::C6 d))=some (EL (a,d)):=
 Ly 1 _ _ 33 (by simp[Fh]) (by simp[Fh]) (by rw[AU,I4 (fun _=>rfl)]; rfl)
theorem Ng(p:Int×Dig):DY (some (EL p)) 33 true 0=some (D6 p):=Lw 1 false _ 33 (by simp[Fh])
theorem Ypd(u:Dig×Dig):DY (some (EW u)) 64 true 0=some (Fv u):=K5 false u
theorem Mp(a:Int)(d:Dig):Fi (.int .i64 0::C6 DF) [(0,1,.int .i64 a),(1,32,C7 d)]=some (.int .i64 a::C6 d):=by
 refine(II (cs:=.int .i64 0::C6 DF) (cs':=.int .i64 a::C6 DF) (A:=[]) (B:=[.int .i64 0]) (xs:=[.int .i64 a]) rfl rfl rfl rfl rfl rfl rfl).trans ?_;refine(II (cs:=.int .i64 a::C6 DF) (cs':=.int .i64 a::C6 d) (A:=[.int .i64 a]) (B:=C6 DF) (C:=[]) (xs:=C6 d) (by simp) (by simp) rfl (Fh _) rfl (Fh _) (I4 (fun _=>rfl) d)).trans ?_;rfl
theorem Vt(n:Nat)(p:Int×Dig)(e:Int):GJ n (.tup [D6 p,.int .i64 e])=.tup [D6 p,.int .i64 e]:=Yb3 n p.1 p.2 e
set_option maxHeartbeats 4000000 in
set_option maxRecDepth 20000 in
theorem fN(f:Nat)(hf:f<5000000)(sp:List D→St→Option (D×St))(hc:IContract Tryz.prog GG f sp):IContract Tryz.prog GG 45 (NF f sp):=by
 refine S6 (T:=tb [] [(f,sp)]) nk (Dy all_nil (all_cons hc all_nil)) ?_;intro ds st r hr;obtain⟨cl,E,d,e,u,rfl,h2,rfl⟩:=HF hr;unfold cv;have hT:(tb [] [(f,sp)]).i f=some sp:=by rw[Qb,jC,if_pos rfl]
 have V:HP (tb [] [(f,sp)]) (.clo f E)=some (sp,[],E):=by rw[eN _ _ _ hf,hT]; rfl
 have hz:(.int .i64 0::C6 DF:List D)=(.int .i64 0::C6 DF:List D):=rfl;simp (disch:=first|omega|decide) only[push_cast,↓reduceIte,CG,CN,IE,V,Ar,At,AH];rw[show st++[⟨false,1,C6 cl.1++C6 cl.2,false⟩,⟨false,1,.int .i64 0::C6 DF,false⟩]=st++[EW cl,EL (0,DF)]from rfl,h2];simp (disch:=first|omega|decide) only[push_cast,↓reduceIte,CG,CH,CN,Ar,At,AH,Ad,Al,Ap,Bb,CH,Hm,Hk]
 by_cases he:e=0
 ·subst he
  have X:StOK (st++[EW cl,EL (0,DF),⟨false,1,C6 d,false⟩]):=OZ u _ (fun o Y=>by
   simp only[AA,AQ,or_false]at Y;rcases Y with rfl | rfl | rfl
   ·exact MC cl
   ·exact O6 _
   ·exact MH d)
  have I:(st++[EW cl,EL (0,DF),⟨false,1,C6 d,false⟩]).length=st.length+3:=by simp
  have N:st.length+1<st.length+3:=by omega
  have O:st.length+2<st.length+3:=by omega
  have hR:∀ (fr:Frame) (l:St),(JV fr [4,6,19,20]).all (fun k=>decide (k<st.length+3))=true→restrict [4,6,19,20] (st++[EW cl,EL (0,DF),⟨false,1,C6 d,false⟩]).length ⟨fr,st++EW cl::EL (0,DF)::⟨false,1,C6 d,false⟩::l⟩=⟨Fu (HV fr (st.length+3) [] [4,6,19,20]),st++[EW cl,EL (0,DF),⟨false,1,C6 d,false⟩]⟩:=fun fr l h=>by
   have:=cB (keep:=[4,6,19,20]) (fr:=fr) (l:=l) X I.symm (fun k hk=>of_decide_eq_true (Ag.1 h k hk));rw[Ar]at this;rw[I];exact this
  have J:=hR;simp only[I]at J;simp (disch:=first|omega|decide) only[push_cast,↓reduceIte,CG,CN,L0,Ypd]
  refine EP (fun i:Nat=>[(4,.ptr (st.length+1) 0),(6,.ptr (st.length+2) 0),(19,Fv cl),(20,.int .i64 (i:Int))]) (fun _=>st++[EW cl,EL (0,DF),⟨false,1,C6 d,false⟩])
   (fun i=>i≤2∧(0<i→¬ cl.1=d)∧(1<i→¬ cl.2=d)) (fun i=>2 - i) 0 ?_ ⟨by omega,fun h=>absurd h (by omega),fun h=>absurd h (by omega)⟩ ?_
  ·simp (disch:=first | omega | decide | (simp only[push_cast,↓LC,↓reduceIte,CG,CL,CJ,CH,Nat.reduceSub,C4,Nat.reduceBEq,CO,C3,CT,CN,C0,CW,CV,CZ,↓CI,ZX,N,O,decide_true]; done)) only[push_cast,↓reduceIte,CG,↓CI,↓hR,Xx,Mn]
  rintro i ⟨hi,M,U⟩;unfold di
  match i,hi,M,U with
  |0,_,_,_=>
   have c0:=ZP cl
   by_cases q:cl.1=d
   ·rw[show Fe cl (d,0)=(0,d) by unfold Fe Ie; rw[if_pos rfl,if_pos q]];simp (disch:=first|omega|decide) only[push_cast,↓reduceIte,CG,CH,CO,CN,↓CI,Ar,At,AH,Ad,Al,Ap,Bb,CH,Hm,Hk,c0,q,Mp,Mi,Ng,Vt,Kb,JU u]
   ·simp (disch:=first | omega | decide | (simp only[push_cast,↓LC,↓reduceIte,CG,CL,CJ,CH,Nat.reduceSub,C4,Nat.reduceBEq,CO,C3,CT,CN,C0,CW,CV,CZ,↓CI,ZX,N,O,decide_true]; done)) only[push_cast,↓reduceIte,CG,CH,CO,CW,↓CI,↓J,Xx,Mn,Ar,At,AH,Ad,Al,Ap,Bb,CH,Hm,Hk,c0,q,DL];refine El 1 (by exact⟨by omega,fun _=>q,fun h=>absurd h (by omega)⟩) (by omega) ?_;simp (disch:=first|omega|decide) only[push_cast,↓CI] <;> rfl
  |1,_,M,_=>
   have c1:=ZO cl;have q0:=M (by omega)
   by_cases q:cl.2=d
   ·rw[show Fe cl (d,0)=(1,d) by unfold Fe Ie; rw[if_pos rfl,if_neg q0,if_pos q]];simp (disch:=first|omega|decide) only[push_cast,↓reduceIte,CG,CH,CO,CN,↓CI,Ar,At,AH,Ad,Al,Ap,Bb,CH,Hm,Hk,c1,q,Mp,Mi,Ng,Vt,Kb,JU u]
   ·simp (disch:=first | omega | decide | (simp only[push_cast,↓LC,↓reduceIte,CG,CL,CJ,CH,Nat.reduceSub,C4,Nat.reduceBEq,CO,C3,CT,CN,C0,CW,CV,CZ,↓CI,ZX,N,O,decide_true]; done)) only[push_cast,↓reduceIte,CG,CH,CO,CW,↓CI,↓J,Xx,Mn,Ar,At,AH,Ad,Al,Ap,Bb,CH,Hm,Hk,c1,q,DL];refine El 2 (by exact⟨by omega,fun _=>q0,fun _=>q⟩) (by omega) ?_;simp (disch:=first|omega|decide) only[push_cast,↓CI] <;> rfl
  |2,_,M,U=>
   rw[show Fe cl (d,0)=(-1,d) by unfold Fe Ie; rw[if_pos rfl,if_neg (M (by omega)),if_neg (U (by omega))]];simp (disch:=first|omega|decide) only[push_cast,↓reduceIte,CG,CH,CO,CN,↓CI,Ad,Al,Ap,Bb,CH,Hm,Hk,Mp,Mi,Ng,Vt,Kb,JU u]
 ·have hv:Fe cl (d,e)=(0,DF):=if_neg he;rw[hv];simp (disch:=first|omega|decide) only[push_cast,↓reduceIte,CG,CN,he,Hm,Hk,JU u,Mi,Ng,Vt,KS,Kb]
theorem fL(c:List Ins):([.slc (nz 3 (c.map C5)) (c.map C5) false]:List D).all E7=true:=by
 simp[E7,JX]
def FZ(c:List Ins)(v:Int×List Int):Dig×Int:=if c.length=0 then(DV,0)else if(Ei c).2≠0 then(DF,(Ei c).2)else(DU c v (E8 (c.length+1)),0)
def lp(ds:List D)(st:St)(r:D×St):Prop:=∃ (kc kv:Nat) (c:List Ins) (v:Int×List Int) (lc lv:Bool),StOK st∧ds=[.ptr kc 0,.ptr kv 0]∧st[kc]?=some ⟨false,1,[ET c],lc⟩∧st[kv]?=some ⟨false,1,DS v,lv⟩∧c.length≤9223372036854775807∧D5 v∧
 r=(.tup [C7 (FZ c v).1,.int .i64 (FZ c v).2],st)
theorem Yqi:G3 lp:=by
 rintro ds st r V ⟨X,Y,c,v,lc,lv,_,rfl,I,J,_,_,rfl⟩ ⟨M,N,c',v',O,U,_,h,u,E,_,_,rfl⟩;simp only[Aa,D.ptr.injEq,and_true]at h;obtain⟨rfl,rfl⟩:=h;rw[I]at u;rw[J]at E;simp only[C9,Obj.mk.injEq,Aa,and_true,true_and,Om]at u E;obtain⟨rfl,_⟩:=u;obtain rfl:v=v':=Gz.1 (congrArg D.agg E.1);rfl
noncomputable def VJ:List D→St→Option (D×St):=Gb lp
theorem Mr(n:Nat)(d:Dig)(e:Int):GJ n (.tup [C7 d,.int .i64 e])=.tup [C7 d,.int .i64 e]:=by
 have h:Gs n (C7 d)=C7 d:=by rw[← X1]; exact gX n [] d
 simp only[GJ,Aq,A6,h];rfl
theorem MV(a d:Dig):Eh (some ⟨false,1,C6 a,false⟩) 32 0 (C7 d)=some ⟨false,1,C6 d,false⟩:=Ly 1 _ _ 32 (Fh _) (Fh _) (I4 (fun _=>rfl) d)
set_option maxHeartbeats 4000000 in
set_option maxRecDepth 20000 in
theorem Ra:IContract Tryz.prog GG 46 VJ:=by
 refine S6 (T:=tb [(20,Ox),(47,Nx),(48,R0),(49,Vh)] []) nE (Dy (all_cons Xf (all_cons UF (all_cons eK (all_cons mP all_nil)))) all_nil) ?_;intro ds st r V;obtain⟨X,Y,c,v,lc,lv,E,rfl,M,N,hc,hv,rfl⟩:=HF V
 have Dt:∀ l:St,(st++l)[X]?=some ⟨false,1,[.slc (nz 3 (c.map C5)) (c.map C5) false],lc⟩:=fun l=>by
  rw[Ao (Ab.1 M).1]; exact M
 have O:∀ l:St,(st++l)[Y]?=some ⟨false,1,DS v,lv⟩:=fun l=>by
  rw[Ao (Ab.1 N).1]; exact N
 have U:=R9 c hc;have cp:=VN;unfold cK
 by_cases J:c.length=0
 ·rw[show FZ c v=(DV,0)from if_pos J];have u:(c.length:Int)=0:=by omega
  simp (disch:=first|omega|decide) only[push_cast,↓reduceIte,CG,Dt,u,cp,L0,MR,Mr,JU E,Kb,MV]
 by_cases I:(Ei c).2=0
 ·rw[show FZ c v=(DU c v (E8 (c.length+1)),0) by unfold FZ; rw[if_neg J,if_neg (by simp[I])]];have u:¬ (c.length:Int)=0:=by omega
  obtain⟨ad,_⟩:=K4 I;have cs:=kE ((c.length:Int)+1);rw[show Lt ((c.length:Int)+1)=0 from if_neg (by omega)]at cs
  have cd:=VU c v (E8 ((c.length:Int)+1)) ⟨by omega,hv,by
   rw[show E8 ((c.length:Int)+1)={EY with fuel:=(c.length:Int)+1} from if_neg (by omega)]; exact Ba _⟩
  simp (disch:=first|omega|decide) only[push_cast,↓reduceIte,CG,Dt,O,u,I,U,cs,cd,DL,EH,FN,E2,Fw hv,F7,FA,Ar,At,AH,Ad,Al,Ap,Bb,Hm,Hk,L0,MR,Mr,JU E,Kb,MV]
 ·rw[show FZ c v=(DF,(Ei c).2) by unfold FZ; rw[if_neg J,if_pos I]];have u:¬ (c.length:Int)=0:=by omega
  simp (disch:=first|omega|decide) only[push_cast,↓reduceIte,CG,Dt,u,I,U,AH,L0,MR,Mr,JU E,Kb,MV,KS]
noncomputable def Mx:List D→Option D:=Dd (α:=List Ins×(Int×List Int)×(Dig×Dig)) (fun a=>[.slc (nz 3 (a.1.map C5)) (a.1.map C5) false,DQ a.2.1,Fv a.2.2]) (fun a=>a.1.length≤9223372036854775807∧D5 a.2.1) (fun a=>.tup [D6 (Fe a.2.2 (FZ a.1 a.2.1)),.int .i64 (FZ a.1 a.2.1).2])
theorem WL(c:List Ins)(v:Int×List Int)(u:Dig×Dig)(h:c.length≤9223372036854775807∧D5 v):Mx [.slc (nz 3 (c.map C5)) (c.map C5) false,DQ v,Fv u]=some (.tup [D6 (Fe u (FZ c v)),.int .i64 (FZ c v).2]):=
 DG (fun⟨a0,a1,E⟩ ⟨b0,b1,I⟩ h=>by simp only[Aa,D.slc.injEq,and_true,GA,Gz,Nq]at h; simp[h]) (c,v,u) h
set_option maxHeartbeats 4000000 in
set_option maxRecDepth 20000 in
theorem pA(c:List Ins)(v:Int×List Int)(u:Dig×Dig)(h:c.length≤9223372036854775807∧D5 v):@wW GG (tb [] [(45,NF 46 VJ)]) Tr.code (Db [.slc (nz 3 (c.map C5)) (c.map C5) false,DQ v,Fv u]) [] ⟨De Tr.res (.tup [D6 (Fe u (FZ c v)),.int .i64 (FZ c v).2])⟩:=by
 obtain⟨O,hv⟩:=h;unfold Tr;have U:(C6 u.1++C6 u.2).all E7=true:=MC u
 have I:StOK [⟨false,1,[.slc (nz 3 (c.map C5)) (c.map C5) false],false⟩,⟨false,1,DS v,false⟩,EW u,EL (0,DF)]:=by
  refine OZ (S:=[]) (fun o E=>by cases E) _ (fun o E=>?_);simp only[AA,AQ,or_false]at E;rcases E with rfl | rfl | rfl | rfl
  ·exact fL c
  ·exact Sd v
  ·exact MC u
  ·exact O6 _
 have J:=OZ I [EW u,EL (0,DF)] (fun o E=>by
  simp only[AA,AQ,or_false]at E;rcases E with rfl | rfl
  ·exact MC u
  ·exact O6 _)
 have M:NF 46 VJ [Fv u,.clo 46 [.ptr 0 0,.ptr 1 0]] [⟨false,1,[.slc (nz 3 (c.map C5)) (c.map C5) false],false⟩,⟨false,1,DS v,false⟩,EW u,EL (0,DF)]=some (.tup [D6 (Fe u (FZ c v)),.int .i64 (FZ c v).2],[⟨false,1,[.slc (nz 3 (c.map C5)) (c.map C5) false],false⟩,⟨false,1,DS v,false⟩,EW u,EL (0,DF)]):=
  J7 (jx _ _) ⟨u,[.ptr 0 0,.ptr 1 0],(FZ c v).1,(FZ c v).2,I,rfl,J7 Yqi ⟨0,1,c,v,false,false,J,rfl,rfl,rfl,O,hv,rfl⟩,rfl⟩
 have N:=Mi (0,DF);have lv:=Ng;simp only[EW,EL,D6]at M N lv;simp (disch:=first|omega|decide) only[push_cast,↓reduceIte,CG,CH,D9,IE,K5,M,D6,N,lv]
theorem gm:Contract Tryz.prog GG 14 Mx:=
 DH (T:=tb [] [(45,NF 46 VJ)]) nj (Dy all_nil (all_cons (fN _ (by decide) _ Ra) all_nil)) (fun a h=>pA a.1 a.2.1 a.2.2 h)
theorem Yl3(v:Int×List Int)(b:Int)(s:Sta)(x:Ins):(Ef v b s x).stack.length≤s.stack.length+1:=by
 have h:∀ o:Out,(EE (Dg s) o).stack.length≤s.stack.length+1:=by
  intro o
  cases o with
  |err e=>exact Nat.le_succ _
  |set p t c=>exact Nat.le_succ _
  |pop k push pc=>
   show(s.stack.take (s.stack.length - k)++push.toList).length≤_
   rw[Ad,As];have:push.toList.length≤1:=by cases push <;> simp
   omega
 unfold Ef
 split
 ·exact Nat.le_succ _
 ·exact h _
theorem km(c:List Ins)(v:Int×List Int)(o:Opn):(GF c v o).top.length≤o.top.length+1:=by
 unfold GF
 split
 ·exact Yl3 v o.depth (Ec o) _
 ·simp[H5]
def E6(c:List Ins)(v:Int×List Int)(b:Dig)(o:Opn):Dig×Int:=if b=DV then(b,0)else if G6 c v o≠b then(DF,390)else if o.status≠0 then(DV,0)else(G6 c v (GF c v o),F1 c o)
def ld(ds:List D)(st:St)(r:D×St):Prop:=∃ (kb kc kv ko:Nat) (b:Dig) (c:List Ins) (v:Int×List Int) (o:Opn) (lb lc lv lo:Bool),StOK st∧ds=[.ptr kb 0,.ptr kc 0,.ptr kv 0,.ptr ko 0]∧st[kb]?=some ⟨false,1,C6 b,lb⟩∧st[kc]?=some ⟨false,1,[ET c],lc⟩∧st[kv]?=some ⟨false,1,DS v,lv⟩∧st[ko]?=some ⟨false,1,Fm o,lo⟩∧c.length≤4294967296∧D5 v∧o.top.length≤4294967295∧
 r=(.tup [C7 (E6 c v b o).1,.int .i64 (E6 c v b o).2],st)
theorem Yol:G3 ld:=by
 rintro ds st r r' ⟨kb,kc,kv,ko,b,c,v,o,lb,lc,lv,lo,_,rfl,M,N,O,U,_,_,_,rfl⟩ ⟨V,X,Y,aa,b',c',v',o',ab,ac,ad,ae,_,h,u,E,I,J,_,_,_,rfl⟩;simp only[Aa,D.ptr.injEq,and_true]at h;obtain⟨rfl,rfl,rfl,rfl⟩:=h;rw[M]at u;rw[N]at E;rw[O]at I;rw[U]at J;simp only[C9,Obj.mk.injEq,Aa,and_true,true_and,Om,RA]at u E I J;obtain⟨rfl,_⟩:=u;obtain⟨rfl,_⟩:=E;obtain rfl:v=v':=Gz.1 (congrArg D.agg I.1);obtain rfl:o=o':=KB.1 (congrArg D.agg J.1);rfl
noncomputable def Z9:List D→St→Option (D×St):=Gb ld
theorem Je(lent:Bool)(d:Dig):DY (some ⟨false,1,C6 d,lent⟩) 32 true 0=some (C7 d):=Lw 1 lent _ 32 (Fh d)
theorem Lp(lent:Bool)(o:Opn):DY (some ⟨false,1,Fm o,lent⟩) 38 true 0=some (Dv o):=by rw[Dv,Hb]; exact Jf ..
theorem Oq(lent:Bool)(o:Opn):DY (some ⟨false,1,Fm o,lent⟩) 1 false 2=some (.int .i64 o.status):=by rw[Hb]; exact PJ ..
theorem Xw(o:Opn):Eh (some ⟨false,1,Er 0 0 0 0 (.slc 0 [] true) 0 DF,false⟩) 38 0 (Dv o)=some ⟨false,1,Fm o,false⟩:=by rw[Dv,Hb]; exact Ku ..
set_option maxHeartbeats 8000000 in
set_option maxRecDepth 20000 in
theorem Q9:IContract Tryz.prog GG 54 Z9:=by
 refine S6 (T:=tb [(20,Ox),(40,YI),(55,Zh)] []) nt (Dy (all_cons Xf (all_cons zF (all_cons Ylg all_nil))) all_nil) ?_;intro ds st r hr;obtain⟨kb,kc,kv,ko,b,c,v,o,lb,lc,lv,lo,E,rfl,X,Y,h2,h3,U,hv,a2,rfl⟩:=HF hr
 have FU:∀ l:St,(st++l)[kb]?=some ⟨false,1,C6 b,lb⟩:=fun l=>by
  rw[Ao (Ab.1 X).1]; exact X
 have Dt:∀ l:St,(st++l)[kc]?=some ⟨false,1,[.slc (nz 3 (c.map C5)) (c.map C5) false],lc⟩:=fun l=>by
  rw[Ao (Ab.1 Y).1]; exact Y
 have J:∀ l:St,(st++l)[kv]?=some ⟨false,1,DS v,lv⟩:=fun l=>by
  rw[Ao (Ab.1 h2).1]; exact h2
 have M:∀ l:St,(st++l)[ko]?=some ⟨false,1,Fm o,lo⟩:=fun l=>by
  rw[Ao (Ab.1 h3).1]; exact h3
 have N:=VN;have V:=iU c v o ⟨U,hv,by omega⟩;have co:=u4 c v o ⟨U,hv⟩;have a3:=km c v o;have ac:=iU c v (GF c v o) ⟨U,hv,by omega⟩;unfold cG
 by_cases u:b=DV
 ·rw[show E6 c v b o=(b,0)from if_pos u];simp (disch:=first|omega|decide) only[push_cast,↓reduceIte,CG,FU,Je,u,N,L0,MR,Mr,JU E,Kb,MV]
 by_cases I:G6 c v o=b
 ·by_cases O:o.status=0
  ·rw[show E6 c v b o=(G6 c v (GF c v o),F1 c o) by unfold E6; rw[if_neg u,if_neg (by simp[I]),if_neg (by simp[O])]];simp (disch:=first|omega|decide) only[push_cast,↓reduceIte,CG,FU,Dt,J,M,Je,u,I,O,N,V,ac,co,Fw hv,F7,H3,Hv,LH,Lp,Oq,Xw,Ih,Ig,Ar,At,AH,Ad,Al,Ap,Bb,Hm,Hk,L0,MR,Mr,JU E,Kb,MV]
  ·rw[show E6 c v b o=(DV,0) by unfold E6; rw[if_neg u,if_neg (by simp[I]),if_pos O]];simp (disch:=first|omega|decide) only[push_cast,↓reduceIte,CG,FU,Dt,J,M,Je,u,I,O,N,V,Fw hv,F7,Hv,Lp,Oq,Bb,L0,MR,Mr,JU E,Kb,MV]
 ·rw[show E6 c v b o=(DF,390) by unfold E6; rw[if_neg u,if_pos I]];simp (disch:=first|omega|decide) only[push_cast,↓reduceIte,CG,FU,Dt,J,M,Je,u,I,N,V,Fw hv,F7,Hv,Lp,L0,MR,Mr,JU E,Kb,MV,KS]
noncomputable def K1:List D→Option D:=Dd (α:=List Ins×(Int×List Int)×Dig×(Dig×Dig)×Opn) (fun a=>[.slc (nz 3 (a.1.map C5)) (a.1.map C5) false,DQ a.2.1,C7 a.2.2.1,Fv a.2.2.2.1,Dv a.2.2.2.2]) (fun a=>a.1.length≤4294967296∧D5 a.2.1∧a.2.2.2.2.top.length≤4294967295) (fun a=>.tup [D6 (Fe a.2.2.2.1 (E6 a.1 a.2.1 a.2.2.1 a.2.2.2.2)),.int .i64 (E6 a.1 a.2.1 a.2.2.1 a.2.2.2.2).2])
theorem O7(c:List Ins)(v:Int×List Int)(b:Dig)(u:Dig×Dig)(o:Opn)(h:c.length≤4294967296∧D5 v∧o.top.length≤4294967295):K1 [.slc (nz 3 (c.map C5)) (c.map C5) false,DQ v,C7 b,Fv u,Dv o]=some (.tup [D6 (Fe u (E6 c v b o)),.int .i64 (E6 c v b o).2]):=
 DG (fun⟨a0,a1,E,I,J⟩ ⟨b0,b1,M,N,O⟩ h=>by simp only[Aa,D.slc.injEq,KR,and_true,GA,KB,Gz,Nq]at h; simp[h]) (c,v,b,u,o) h
noncomputable def MY:Tbl:=tb [] [(45,NF 54 Z9)]
set_option maxHeartbeats 8000000 in
set_option maxRecDepth 20000 in
theorem Yg4(c:List Ins)(v:Int×List Int)(b:Dig)(u:Dig×Dig)(o:Opn)(h:c.length≤4294967296∧D5 v∧o.top.length≤4294967295):@wW GG MY Tf.code (Db [.slc (nz 3 (c.map C5)) (c.map C5) false,DQ v,C7 b,Fv u,Dv o]) [] ⟨De Tf.res (.tup [D6 (Fe u (E6 c v b o)),.int .i64 (E6 c v b o).2])⟩:=by
 obtain⟨V,hv,M⟩:=h;unfold Tf
 have N:(Fm o).all E7=true:=by
  rw[Hb];simp only[Er,AU,MH];simp[E7,Ed,JX]
 have I:StOK [⟨false,1,[.slc (nz 3 (c.map C5)) (c.map C5) false],false⟩,⟨false,1,DS v,false⟩,⟨false,1,C6 b,false⟩,EW u,⟨false,1,Fm o,false⟩,EL (0,DF)]:=by
  refine OZ (S:=[]) (fun o E=>by cases E) _ (fun x E=>?_);simp only[AA,AQ,or_false]at E;rcases E with rfl | rfl | rfl | rfl | rfl | rfl
  ·exact fL c
  ·exact Sd v
  ·exact MH b
  ·exact MC u
  ·exact N
  ·exact O6 _
 have J:=OZ I [EW u,EL (0,DF)] (fun o E=>by
  simp only[AA,AQ,or_false]at E;rcases E with rfl | rfl
  ·exact MC u
  ·exact O6 _)
 have O:NF 54 Z9 [Fv u,.clo 54 [.ptr 2 0,.ptr 0 0,.ptr 1 0,.ptr 4 0]] [⟨false,1,[.slc (nz 3 (c.map C5)) (c.map C5) false],false⟩,⟨false,1,DS v,false⟩,⟨false,1,C6 b,false⟩,EW u,⟨false,1,Fm o,false⟩,EL (0,DF)]=some (.tup [D6 (Fe u (E6 c v b o)),.int .i64 (E6 c v b o).2],[⟨false,1,[.slc (nz 3 (c.map C5)) (c.map C5) false],false⟩,⟨false,1,DS v,false⟩,⟨false,1,C6 b,false⟩,EW u,⟨false,1,Fm o,false⟩,EL (0,DF)]):=
  J7 (jx _ _) ⟨u,[.ptr 2 0,.ptr 0 0,.ptr 1 0,.ptr 4 0],(E6 c v b o).1,(E6 c v b o).2,I,rfl,J7 Yol ⟨2,0,1,4,b,c,v,o,false,false,false,false,J,rfl,rfl,rfl,rfl,rfl,V,hv,M,rfl⟩,rfl⟩
 have U:=Mi (0,DF);have lv:=Ng;simp only[EW,EL,D6]at O U lv;simp (disch:=first|omega|decide) only[push_cast,↓reduceIte,CG,CH,MY,D9,IE,Gd,K5,O,D6,U,lv]
theorem eu:Contract Tryz.prog GG 16 K1:=
 DH (T:=MY) m8 (Dy all_nil (all_cons (fN _ (by decide) _ Q9) all_nil)) (fun a h=>Yg4 a.1 a.2.1 a.2.2.1 a.2.2.2.1 a.2.2.2.2 h)
theorem pK(c:List Ins)(v:Int×List Int)(o o':Opn)(u:o.pc=o'.pc)(E:o.fuel=o'.fuel)(I:o.status=o'.status)(J:o.clause=o'.clause)(M:o.depth+o.top.length=o'.depth+o'.top.length)(N:Fx o.rest o.top=Fx o'.rest o'.top):Ib c v o=Ib c v o':=by
 unfold Ib;grind
structure OpenOf (s:Sta) (o:Opn):Prop where
 pc:o.pc=s.pc
 fuel:o.fuel=s.fuel
 status:o.status=s.status
 clause:o.clause=s.clause
 d0:0≤o.depth
 d1:o.depth.toNat≤s.stack.length
 top:o.top=s.stack.drop o.depth.toNat
 rest:o.rest=Fx DF (s.stack.take o.depth.toNat)
theorem PQ(s:Sta)(n:Int):OpenOf s (Fc s n):=⟨rfl,rfl,rfl,rfl,by simp[Fc],by simpa[Fc]using Y1 s n,by simp[Fc],by simp[Fc]⟩
variable {o:Opn}{s:Sta}{v:Int×List Int}{c:List Ins}
theorem iG{o':Opn}(h:OpenOf s o)(u:OpenOf s o'):Ib c v o=Ib c v o':=by
 refine pK c v o o' (h.pc.trans u.pc.symm) (h.fuel.trans u.fuel.symm) (h.status.trans u.status.symm) (h.clause.trans u.clause.symm) ?_ ?_
 ·have E:=h.d1; have I:=u.d1; have J:=h.d0; have M:=u.d0;rw[h.top,u.top,AE,AE];omega
 ·rw[h.rest,u.rest,h.top,u.top,← j5,← j5,A8,A8]
theorem Ydy(h:OpenOf s o)(hl:s.stack.length≤64):G6 c v o=DU c v s:=by
 have u:=h.d0; have E:=h.d1;rw[show G6 c v o=Ib c v o from if_neg (by omega)];exact iG h (PQ s s.stack.length)
theorem gV(h:OpenOf s o)(hl:s.stack.length≤64):Fz c (Ec o) o.depth=Fz c s 0:=by
 have u:=h.d0; have E:=h.d1;have hlen:o.top.length=s.stack.length - o.depth.toNat:=by rw[h.top,AE]
 have hb:Eb c (Ec o) o.depth↔Eb c s 0:=by
  unfold Eb Ec;simp only[h.pc,h.fuel,h.clause,hlen];omega
 unfold Fz;rw[show(Ec o).status=s.status from h.status];grind
theorem mj(c:List Ins)(h:OpenOf s o):FK c (Ec o)=FK c s:=by
 unfold FK;rw[show(Ec o).pc=s.pc from h.pc]
variable {i k:Nat}
theorem mI{l:List Int}(h:k+i<l.length):EC (l.drop k) i=EC l i:=by
 unfold EC DP;grind
theorem Qv(h:OpenOf s o)(u:o.depth=0):Ec o=s:=by
 obtain⟨a1,E,I,J,M⟩:=s;have e:o.top=M:=by rw[h.top,u]; rfl
 unfold Ec;rw[show o.pc=a1 from h.pc,show o.fuel=E from h.fuel,show o.status=I from h.status,show o.clause=J from h.clause,e]
variable {x:Ins}
theorem Yor(h:OpenOf s o)(Y:1≤x.op∧x.op≤16)(O:o.depth=0∨EZ x.op≤o.top.length):EO v o.depth (Dg (Ec o)) x=EO v 0 (Dg s) x:=by
 by_cases I:o.depth=0
 ·rw[Qv h I,I]
 replace O:EZ x.op≤o.top.length:=by omega
 have h1:=h.d0; have h2:=h.d1;have hlen:o.top.length=s.stack.length - o.depth.toNat:=by rw[h.top,AE]
 have U:EO v o.depth (Dg (Ec o)) x=Dl v o.depth (Dg (Ec o)) x:=if_neg (show ¬ (o.top.length:Int)<EZ x.op by omega);have V:EO v 0 (Dg s) x=Dl v 0 (Dg s) x:=if_neg (show ¬ (s.stack.length:Int)<EZ x.op by omega);rw[U,V]
 have hle:((64:Int)≤o.depth+((Dg (Ec o)).stack.length:Nat))=((64:Int)≤0+((Dg s).stack.length:Nat)):=by
  show((64:Int)≤o.depth+(o.top.length:Nat))=((64:Int)≤0+(s.stack.length:Nat))
  grind
 have t0:1≤EZ x.op→Dc (Dg (Ec o)) 0=Dc (Dg s) 0:=fun q=>by
  show EC o.top 0=EC s.stack 0
  rw[h.top]; exact mI (by omega)
 have t1:2≤EZ x.op→Dc (Dg (Ec o)) 1=Dc (Dg s) 1:=fun q=>by
  show EC o.top 1=EC s.stack 1
  rw[h.top]; exact mI (by omega)
 have hp:(Dg (Ec o)).pc=(Dg s).pc:=h.pc;have hs:(Dg (Ec o)).status=(Dg s).status:=h.status;have hc:(Dg (Ec o)).clause=(Dg s).clause:=h.clause;unfold Dl
 by_cases o1:x.op=1
 ·grind
 rw[if_neg o1,if_neg o1]
 by_cases o2:x.op=2
 ·grind
 rw[if_neg o2,if_neg o2]
 by_cases u:x.op=12
 ·rw[if_pos u,if_pos u,t0 (by rw[u]; decide)]
 rw[if_neg u,if_neg u]
 by_cases E:x.op=13
 ·rw[if_pos E,if_pos E,t0 (by rw[E]; decide)]
 rw[if_neg E,if_neg E]
 by_cases J:x.op=14
 ·grind
 rw[if_neg J,if_neg J]
 by_cases M:x.op=15
 ·grind
 rw[if_neg M,if_neg M]
 by_cases N:x.op=16
 ·grind
 rw[if_neg N,if_neg N];have X:EZ x.op=2:=by unfold EZ; rw[if_neg (by omega),if_pos (by omega)]
 grind
variable {b:Int}
theorem Ybh{u pc:Option Int}(J:1≤x.op∧x.op≤16)(h:EO v b s x=.pop k u pc):(k:Int)≤EZ x.op∧EZ x.op≤s.stack.length:=by
 have I:=eY h;refine⟨?_,by omega⟩;unfold EO at h;rw[if_neg I]at h;unfold Dl at h;have M:x.op=1∨x.op=2∨x.op=12∨x.op=13∨x.op=14∨x.op=15∨x.op=16∨(3≤x.op∧x.op≤11):=by omega
 have E:EZ x.op=if x.op=12∨x.op=13∨x.op=15 then 1 else if 3≤x.op∧x.op≤11 then 2 else 0:=rfl
 split at h
 ·grind
 grind
theorem zg(h:OpenOf s o)(E:1≤x.op∧x.op≤16)(O:o.fuel=0∨o.depth=0∨EZ x.op≤o.top.length):OpenOf (Ef v 0 s x) (HH (Ef v o.depth (Ec o) x) o):=by
 unfold Ef;rw[show(Ec o).fuel=s.fuel from h.fuel]
 by_cases hu:s.fuel=0
 ·rw[if_pos hu,if_pos hu];exact⟨h.pc,rfl,rfl,h.clause,h.d0,h.d1,h.top,h.rest⟩
 rw[if_neg hu,if_neg hu];have I:o.depth=0∨EZ x.op≤o.top.length:=by have:=h.fuel; omega
 have M:=Yor (v:=v) h E I;rw[M];have U:=h.d0; have V:=h.d1;have hlen:o.top.length=s.stack.length - o.depth.toNat:=by rw[h.top,AE]
 have u:o.fuel - 1=s.fuel - 1:=by rw[h.fuel]
 cases N:EO v 0 (Dg s) x with
 |err e=>exact⟨h.pc,u,rfl,h.clause,h.d0,h.d1,h.top,h.rest⟩
 |set p t c=>exact⟨rfl,u,rfl,rfl,h.d0,h.d1,h.top,h.rest⟩
 |pop k push pc=>
  obtain⟨X,J⟩:=Ybh E N;have J:EZ x.op≤(s.stack.length:Int):=J;have hk:o.depth.toNat≤s.stack.length - k:=by omega
  refine⟨?_,u,h.status,h.clause,h.d0,?_,?_,?_⟩
  ·show pc.getD (o.pc+1)=pc.getD (s.pc+1)
   rw[h.pc]
  ·show o.depth.toNat≤(s.stack.take (s.stack.length - k)++push.toList).length
   grind
  ·show o.top.take (o.top.length - k)++push.toList=(s.stack.take (s.stack.length - k)++push.toList).drop o.depth.toNat
   rw[List.drop_append_of_le_length (by rw[As]; omega),List.drop_take,hlen,h.top]
   congr 2
   omega
  ·show o.rest=Fx DF ((s.stack.take (s.stack.length - k)++push.toList).take o.depth.toNat)
   rw[Cd (by rw[As]; omega),List.take_take,By hk,h.rest]
theorem Yhm(h:OpenOf s o)(hl:s.stack.length≤64)(E:Fz c s 0=0)(u:¬ Kp c o):F1 c o=0∧G6 c v (GF c v o)=DU c v (H8 c v s):=by
 have M:=gV (c:=c) h hl;have N:F1 c o=0:=by unfold F1; rw[if_pos (by rw[M,E]),if_neg u]
 refine⟨N,?_⟩;rw[show GF c v o=HH (Ef v o.depth (Ec o) (FK c (Ec o))) o from if_pos N,show H8 c v s=Ef v 0 s (FK c s)from if_pos E,mj c h]
 have O:(Ei c).2=0:=by
  unfold Fz at E;omega
 have I:¬ Eb c s 0:=by
  intro q;unfold Fz at E;grind
 have U:=(K4 O).2.2.1;unfold Eb at I;have J:=aR (iM U (j:=s.pc.toNat) (by omega));have J:1≤(FK c s).op∧(FK c s).op≤16:=J;have Y:=h.fuel;have aa:=h.d0
 have V:=zg (v:=v) (x:=FK c s) h J (by
  unfold Kp at u;rw[mj c h]at u;omega)
 have ab:=h.d1;have X:(HH (Ef v o.depth (Ec o) (FK c s)) o).depth=o.depth:=rfl;have:G6 c v (HH (Ef v o.depth (Ec o) (FK c s)) o)=Ib c v (HH (Ef v o.depth (Ec o) (FK c s)) o):=if_neg (by rw[X]; omega);rw[this];exact iG V (PQ _ _)
def EV:List Ins:=[⟨2,6,0⟩,⟨1,7,0⟩,⟨5,0,0⟩,⟨15,0,0⟩]
def F6:Int×List Int:=(64,[0,0,0,0,0,0,30,0,0,0,0,0,0,0,0,0])
def FI(i:Nat):Sta:=[(⟨0,5,0,0,[]⟩:Sta),⟨1,4,0,0,[30]⟩,⟨2,3,0,0,[30,7]⟩,⟨3,2,0,0,[210]⟩,⟨3,1,1,0,[210]⟩].getD i default
theorem PD:Ei EV=(2,0):=by decide +kernel
theorem YS:KN EV F6=[FI 0,FI 1,FI 2,FI 3,FI 4]:=by decide +kernel
def DE(i:Nat):Dig:=DU EV F6 (FI i)
def mh(d:Dig):List UInt8:=d.bs.take 4
theorem NZ{a b:Dig}(h:mh a≠mh b):¬ a=b:=fun e=>h (by rw[e])
theorem Q3:¬ DE 0=DV:=NZ (by decide +kernel)
theorem lD:¬ DE 1=DV:=NZ (by decide +kernel)
theorem lE:¬ DE 2=DV:=NZ (by decide +kernel)
theorem lF:¬ DE 4=DV:=NZ (by decide +kernel)
theorem Yqr:¬ DE 2=DE 1:=NZ (by decide +kernel)
theorem Yqp:¬ DE 4=DE 3:=NZ (by decide +kernel)
theorem Yqm:IQ EV F6=⟨EV,F6,210,0,[DE 0,DE 1,DE 2,DE 3,DE 4]⟩:=by
 unfold IQ;rw[if_pos (by rw[PD]),YS];rfl
theorem Yky:Gf EV F6 2=(FI 2,0):=by
 unfold Gf;rw[if_pos (by rw[PD]),YS];rfl
theorem Ykx:Gf EV F6 4=(FI 4,0):=by
 unfold Gf;rw[if_pos (by rw[PD]),YS];rfl
theorem Ydm:E8 ((EV.length:Int)+1)=FI 0:=by decide
theorem Ydn:FZ EV F6=(DE 0,0):=by
 unfold FZ;rw[if_neg (by decide),if_neg (by rw[PD]; decide),Ydm]; rfl
theorem fX:Fz EV (FI 2) 0=0:=by decide +kernel
theorem Ykw:H8 EV F6 (FI 2)=FI 3:=by decide +kernel
theorem RC(i:Nat)(hi:i<5)(n:Int):G6 EV F6 (Fc (FI i) n)=DE i:=Ydy (PQ _ _) (by
 match i,hi with
 |0,_ | 1,_ | 2,_ | 3,_ | 4,_=>decide)
theorem Yqn:¬ Kp EV (Fc (FI 2) 2):=by
 have h:(Fc (FI 2) 2).depth=0:=by decide
 unfold Kp; rw[h]; omega
theorem Q2:Kp EV (Fc (FI 2) 1):=⟨by decide,by decide,by decide⟩
theorem ZN:E6 EV F6 (DE 2) (Fc (FI 2) 2)=(DE 3,0):=by
 obtain⟨u,E⟩:=Yhm (v:=F6) (PQ (FI 2) 2) (by decide) fX Yqn;unfold E6;rw[if_neg lE,if_neg (by rw[RC 2 (by decide)]; simp),if_neg (show ¬ (Fc (FI 2) 2).status≠0 by decide),u,E,Ykw]; rfl
theorem ZM:(E6 EV F6 (DE 2) (Fc (FI 2) 1)).2=390:=by
 have u:F1 EV (Fc (FI 2) 1)=390:=by
  unfold F1;rw[if_pos (by rw[gV (PQ _ _) (by decide),fX]),if_pos Q2]
 unfold E6;rw[if_neg lE,if_neg (by rw[RC 2 (by decide)]; simp),if_neg (show ¬ (Fc (FI 2) 1).status≠0 by decide),u]
theorem ZJ:E6 EV F6 (DE 4) (Fc (FI 4) 0)=(DV,0):=by
 unfold E6;rw[if_neg lF,if_neg (by rw[RC 4 (by decide)]; simp),if_pos (show(Fc (FI 4) 0).status≠0 by decide)]
theorem ZL:(E6 EV F6 (DE 1) (Fc (FI 2) 2)).2=390:=by
 unfold E6;rw[if_neg lD,if_pos (by rw[RC 2 (by decide)]; exact Yqr)]
theorem ZK:FZ [] F6=(DV,0):=rfl
theorem Ydk(a b:Int):Fi [.int .i64 0,.int .i64 0,.int .i64 0] [(0,1,.int .i64 a),(1,1,.int .i64 b)]=some [.int .i64 a,.int .i64 b,.int .i64 0]:=(rfl)
theorem sw(a:Int):Fi [.int .i64 0,.int .i64 0,.int .i64 0] [(0,1,.int .i64 a)]=some [.int .i64 a,.int .i64 0,.int .i64 0]:=(rfl)
theorem Yqo:ES 3 [.agg [.int .i64 2,.int .i64 6,.int .i64 0],.agg [.int .i64 1,.int .i64 7,.int .i64 0],.agg [.int .i64 5,.int .i64 0,.int .i64 0],.agg [.int .i64 15,.int .i64 0,.int .i64 0]]=some (.slc 3 (EV.map C5) true):=(rfl)
noncomputable def WG:List D→Option D:=Dd (α:=Unit) (fun _=>[]) (fun _=>True) (fun _=>.slc (nz 3 (EV.map C5)) (EV.map C5) false)
theorem xL:WG []=some (.slc (nz 3 (EV.map C5)) (EV.map C5) false):=
 DG (fun _ _ _=>rfl) () trivial
theorem tU:@wW GG (tb [] []) Un.code (Db []) [] ⟨De Un.res (.slc (nz 3 (EV.map C5)) (EV.map C5) false)⟩:=by
 unfold Un;simp (disch:=first|omega|decide) only[push_cast,↓reduceIte,CG,Ydk,sw,Yqo]
theorem qt:Contract Tryz.prog GG 44 WG:=
 DH oS (Dy all_nil all_nil) (fun a h=>tU )
noncomputable def RQ:List D→Option D:=Dd (α:=List Ins×List Int) (fun a=>[.slc (nz 3 (a.1.map C5)) (a.1.map C5) false,.slc (nz 1 (a.2.map nI)) (a.2.map nI) false]) (fun a=>True) (fun a=>.bool (decide (a.1.length≤30∧a.2.length≤66)))
theorem uV(c:List Ins)(l:List Int):RQ [.slc (nz 3 (c.map C5)) (c.map C5) false,.slc (nz 1 (l.map nI)) (l.map nI) false]=some (.bool (decide (c.length≤30∧l.length≤66))):=
 DG (fun⟨a0,a1⟩ ⟨b0,b1⟩ h=>by simp only[Aa,D.slc.injEq,and_true,LG,GA]at h; simp[h]) (c,l) trivial
theorem Yg2(c:List Ins)(l:List Int):@wW GG (tb [] []) TO.code (Db [.slc (nz 3 (c.map C5)) (c.map C5) false,.slc (nz 1 (l.map nI)) (l.map nI) false]) [] ⟨De TO.res (.bool (decide (c.length≤30∧l.length≤66)))⟩:=by
 unfold TO
 by_cases u:c.length≤30
 ·by_cases E:l.length≤66
  ·simp (disch:=first|omega|decide) only[push_cast,↓reduceIte,CG,show((c.length:Int)≤30) by omega,show((l.length:Int)≤66) by omega,u,E,and_self]
  ·simp (disch:=first|omega|decide) only[push_cast,↓reduceIte,CG,show((c.length:Int)≤30) by omega,show ¬ ((l.length:Int)≤66) by omega,u,E,and_false]
 ·simp (disch:=first|omega|decide) only[push_cast,↓reduceIte,CG,show ¬ ((c.length:Int)≤30) by omega,u,false_and]
theorem Yln:Contract Tryz.prog GG 13 RQ:=
 DH nU (Dy all_nil all_nil) (fun a h=>Yg2 a.1 a.2)
theorem Ykr(a b:Dig):Fi [.int .u8 0,.int .u8 0,.int .u8 0,.int .u8 0,.int .u8 0,.int .u8 0,.int .u8 0,.int .u8 0,.int .u8 0,.int .u8 0,.int .u8 0,.int .u8 0,.int .u8 0,.int .u8 0,.int .u8 0,.int .u8 0,.int .u8 0,.int .u8 0,.int .u8 0,.int .u8 0,.int .u8 0,.int .u8 0,.int .u8 0,.int .u8 0,.int .u8 0,.int .u8 0,.int .u8 0,.int .u8 0,.int .u8 0,.int .u8 0,.int .u8 0,.int .u8 0,.int .u8 0,.int .u8 0,.int .u8 0,.int .u8 0,.int .u8 0,.int .u8 0,.int .u8 0,.int .u8 0,.int .u8 0,.int .u8 0,.int .u8 0,.int .u8 0,.int .u8 0,.int .u8 0,.int .u8 0,.int .u8 0,.int .u8 0,.int .u8 0,.int .u8 0,.int .u8 0,.int .u8 0,.int .u8 0,.int .u8 0,.int .u8 0,.int .u8 0,.int .u8 0,.int .u8 0,.int .u8 0,.int .u8 0,.int .u8 0,.int .u8 0,.int .u8 0] [(0,32,C7 a),(32,32,C7 b)]=some (C6 a++C6 b):=by
 refine(II (cs:=[.int .u8 0,.int .u8 0,.int .u8 0,.int .u8 0,.int .u8 0,.int .u8 0,.int .u8 0,.int .u8 0,.int .u8 0,.int .u8 0,.int .u8 0,.int .u8 0,.int .u8 0,.int .u8 0,.int .u8 0,.int .u8 0,.int .u8 0,.int .u8 0,.int .u8 0,.int .u8 0,.int .u8 0,.int .u8 0,.int .u8 0,.int .u8 0,.int .u8 0,.int .u8 0,.int .u8 0,.int .u8 0,.int .u8 0,.int .u8 0,.int .u8 0,.int .u8 0,.int .u8 0,.int .u8 0,.int .u8 0,.int .u8 0,.int .u8 0,.int .u8 0,.int .u8 0,.int .u8 0,.int .u8 0,.int .u8 0,.int .u8 0,.int .u8 0,.int .u8 0,.int .u8 0,.int .u8 0,.int .u8 0,.int .u8 0,.int .u8 0,.int .u8 0,.int .u8 0,.int .u8 0,.int .u8 0,.int .u8 0,.int .u8 0,.int .u8 0,.int .u8 0,.int .u8 0,.int .u8 0,.int .u8 0,.int .u8 0,.int .u8 0,.int .u8 0]) (cs':=C6 a++C6 DF) (A:=[]) (B:=C6 DF) (C:=C6 DF) (xs:=C6 a) (v:=C7 a) rfl (by simp) rfl (Fh _) rfl (Fh _) (I4 (fun _=>rfl) a)).trans ?_;refine(II (cs:=C6 a++C6 DF) (cs':=C6 a++C6 b) (A:=C6 a) (B:=C6 DF) (C:=[]) (xs:=C6 b) (v:=C7 b) (by simp) (by simp) (Fh _) (Fh _) rfl (Fh _) (I4 (fun _=>rfl) b)).trans ?_;rfl
theorem Ykt:Fi [.int .i64 0,.int .i64 0,.int .i64 0,.int .i64 0,.int .i64 0,.int .i64 0,.int .i64 0,.int .i64 0,.int .i64 0,.int .i64 0,.int .i64 0,.int .i64 0,.int .i64 0,.int .i64 0,.int .i64 0,.int .i64 0,.int .i64 0] [(0,1,.int .i64 64)]=some [.int .i64 64,.int .i64 0,.int .i64 0,.int .i64 0,.int .i64 0,.int .i64 0,.int .i64 0,.int .i64 0,.int .i64 0,.int .i64 0,.int .i64 0,.int .i64 0,.int .i64 0,.int .i64 0,.int .i64 0,.int .i64 0,.int .i64 0]:=(rfl)
theorem yQ:D0 (.agg [.int .i64 0,.int .i64 0,.int .i64 0,.int .i64 0,.int .i64 0,.int .i64 0,.int .i64 0,.int .i64 0,.int .i64 0,.int .i64 0,.int .i64 0,.int .i64 0,.int .i64 0,.int .i64 0,.int .i64 0,.int .i64 0,.int .i64 0])=some [.int .i64 0,.int .i64 0,.int .i64 0,.int .i64 0,.int .i64 0,.int .i64 0,.int .i64 0,.int .i64 0,.int .i64 0,.int .i64 0,.int .i64 0,.int .i64 0,.int .i64 0,.int .i64 0,.int .i64 0,.int .i64 0,.int .i64 0]:=(rfl)
theorem Yp0:GS [⟨false,1,[.int .i64 64,.int .i64 0,.int .i64 0,.int .i64 0,.int .i64 0,.int .i64 0,.int .i64 0,.int .i64 0,.int .i64 0,.int .i64 0,.int .i64 0,.int .i64 0,.int .i64 0,.int .i64 0,.int .i64 0,.int .i64 0,.int .i64 0],false⟩] 16 1 (.ptr 0 1) (.int .i64 6)=some (.ptr 0 7):=(rfl)
theorem Qj:Eh (some ⟨false,1,[.int .i64 0,.int .i64 0,.int .i64 0,.int .i64 0,.int .i64 0,.int .i64 0,.int .i64 0,.int .i64 0,.int .i64 0,.int .i64 0,.int .i64 0,.int .i64 0,.int .i64 0,.int .i64 0,.int .i64 0,.int .i64 0,.int .i64 0],false⟩) 17 0 (.agg [.int .i64 64,.int .i64 0,.int .i64 0,.int .i64 0,.int .i64 0,.int .i64 0,.int .i64 0,.int .i64 0,.int .i64 0,.int .i64 0,.int .i64 0,.int .i64 0,.int .i64 0,.int .i64 0,.int .i64 0,.int .i64 0,.int .i64 0])=some ⟨false,1,[.int .i64 64,.int .i64 0,.int .i64 0,.int .i64 0,.int .i64 0,.int .i64 0,.int .i64 0,.int .i64 0,.int .i64 0,.int .i64 0,.int .i64 0,.int .i64 0,.int .i64 0,.int .i64 0,.int .i64 0,.int .i64 0,.int .i64 0],false⟩:=(rfl)
theorem ZD:Eh (some ⟨false,1,[.int .i64 64,.int .i64 0,.int .i64 0,.int .i64 0,.int .i64 0,.int .i64 0,.int .i64 0,.int .i64 0,.int .i64 0,.int .i64 0,.int .i64 0,.int .i64 0,.int .i64 0,.int .i64 0,.int .i64 0,.int .i64 0,.int .i64 0],false⟩) 1 7 (.int .i64 30)=some ⟨false,1,DS F6,false⟩:=(rfl)
theorem rH(d:Der):Ha (E4 d)=true:=by
 simp only[E4,Dq,Ha,AU,BQ,Sd];simp[E7,ET,HI,JX]
theorem Yck(d:Der):keys (E4 d)=[]:=Pe (rH d)
theorem Yho{d:Der}(hv:D5 d.env):Eh (some ⟨false,1,Dq DO Hx 0 0 DO,false⟩) 21 0 (E4 d)=some ⟨false,1,Dq (ET d.code) d.env d.am d.er (HI d.lv),false⟩:=Xv Xz hv DO _ rfl 0 0 _ _ DO _ rfl
theorem Yi5{d:Der}(hv:D5 d.env)(lent:Bool):DY (some ⟨false,1,Dq (ET d.code) d.env d.am d.er (HI d.lv),lent⟩) 21 true 0=some (E4 d):=mn hv lent _ _ _ _
theorem Yi6{d:Der}(hv:D5 d.env)(lent:Bool):DY (some ⟨false,1,Dq (ET d.code) d.env d.am d.er (HI d.lv),lent⟩) 1 false 20=some (HI d.lv):=YU hv lent _ _ _ _
def JT:Der:=⟨EV,F6,210,0,[DE 0,DE 1,DE 2,DE 3,DE 4]⟩
theorem Ypb(lent:Bool):DY (some ⟨false,1,Dq (ET JT.code) JT.env JT.am JT.er (HI JT.lv),lent⟩) 1 false 20=some (.slc 32 [C7 (DE 0),C7 (DE 1),C7 (DE 2),C7 (DE 3),C7 (DE 4)] false):=Yi6 (d:=JT) rfl lent
theorem z6(st:St):Fy st 32 (.slc 32 [C7 (DE 0),C7 (DE 1),C7 (DE 2),C7 (DE 3),C7 (DE 4)] false) (.int .i64 0)=some (.eptr (C7 (DE 0)) 0):=(rfl)
theorem z7(st:St):Fy st 32 (.slc 32 [C7 (DE 0),C7 (DE 1),C7 (DE 2),C7 (DE 3),C7 (DE 4)] false) (.int .i64 1)=some (.eptr (C7 (DE 1)) 0):=(rfl)
theorem z9(st:St):Fy st 32 (.slc 32 [C7 (DE 0),C7 (DE 1),C7 (DE 2),C7 (DE 3),C7 (DE 4)] false) (.int .i64 2)=some (.eptr (C7 (DE 2)) 0):=(rfl)
theorem Yqv(st:St):Fy st 32 (.slc 32 [C7 (DE 0),C7 (DE 1),C7 (DE 2),C7 (DE 3),C7 (DE 4)] false) (.int .i64 3)=some (.eptr (C7 (DE 3)) 0):=(rfl)
theorem Yqu(st:St):Fy st 32 (.slc 32 [C7 (DE 0),C7 (DE 1),C7 (DE 2),C7 (DE 3),C7 (DE 4)] false) (.int .i64 4)=some (.eptr (C7 (DE 4)) 0):=(rfl)
theorem Ydl(a b:Dig):Fi (.int .u8 0::.int .u8 0::.int .u8 0::.int .u8 0::.int .u8 0::.int .u8 0::.int .u8 0::.int .u8 0::.int .u8 0::.int .u8 0::.int .u8 0::.int .u8 0::.int .u8 0::.int .u8 0::.int .u8 0::.int .u8 0::.int .u8 0::.int .u8 0::.int .u8 0::.int .u8 0::.int .u8 0::.int .u8 0::.int .u8 0::.int .u8 0::.int .u8 0::.int .u8 0::.int .u8 0::.int .u8 0::.int .u8 0::.int .u8 0::.int .u8 0::.int .u8 0::C6 DF) [(0,32,C7 a),(32,32,C7 b)]=some (C6 a++C6 b):=Ykr a b
theorem Yjv(st:St)(a b:Dig):D3 st (C6 a++C6 b)=some (C6 a++C6 b):=NT st (MC (a,b))
theorem Ypg(a b:Dig):keys (.agg (C6 a++C6 b))=[]:=Pe (OC (a,b))
noncomputable def Sk:List D→Option D:=Dd (α:=Unit) (fun _=>[]) (fun _=>True) (fun _=>.bool true)
theorem wQ:Sk []=some (.bool true):=
 DG (fun _ _ _=>rfl) () trivial
theorem pI:@wW GG (tb [(44,WG),(19,Xu),(39,Zg),(14,Mx),(16,K1),(42,R3),(20,Ox)] []) TF.code (Db []) [] ⟨De TF.res (.bool true)⟩:=by
 have c0:=xL;have c1:=Yd2 EV F6 ⟨by decide,rfl⟩;rw[Yqm,PD]at c1;have u:=kH JT 2 ⟨by decide,rfl⟩;have E:=kH JT 4 ⟨by decide,rfl⟩;rw[show JT.code=EV from rfl,show JT.env=F6 from rfl]at u E;rw[Yky]at u;rw[Ykx]at E;rw[show(Der.mk EV F6 210 0 [DE 0,DE 1,DE 2,DE 3,DE 4])=JT from rfl]at c1;have M:=VN;have hv:D5 F6:=rfl;have I:D5 JT.env:=rfl;dsimp only at c1 u E;have o2:=Sx (FI 2) 2 (by decide);have o1:=Sx (FI 2) 1 (by decide);have N:=Sx (FI 4) 0 (by decide)
 have f1:Mx [.slc (nz 3 (EV.map C5)) (EV.map C5) false,DQ F6,.agg (C6 (DE 0)++C6 (DE 1))]=some (.tup [.agg (.int .i64 0::C6 (DE 0)),.int .i64 0]):=by
  have:=WL EV F6 (DE 0,DE 1) ⟨by decide,rfl⟩;rw[Ydn,show Fe (DE 0,DE 1) (DE 0,0)=(0,DE 0) by unfold Fe Ie; rw[if_pos rfl,if_pos rfl]]at this;exact this
 have g1:K1 [.slc (nz 3 (EV.map C5)) (EV.map C5) false,DQ F6,C7 (DE 2),.agg (C6 (DE 4)++C6 (DE 3)),Dv (Fc (FI 2) 2)]=some (.tup [.agg (.int .i64 1::C6 (DE 3)),.int .i64 0]):=by
  have:=O7 EV F6 (DE 2) (DE 4,DE 3) (Fc (FI 2) 2) ⟨by decide,rfl,by decide⟩;rw[ZN,show Fe (DE 4,DE 3) (DE 3,0)=(1,DE 3) by unfold Fe Ie; rw[if_pos rfl,if_neg Yqp,if_pos rfl]]at this;exact this
 have g2:∃ p d,K1 [.slc (nz 3 (EV.map C5)) (EV.map C5) false,DQ F6,C7 (DE 2),.agg (C6 (DE 4)++C6 (DE 3)),Dv (Fc (FI 2) 1)]=some (.tup [.agg (.int .i64 p::C6 d),.int .i64 390]):=by
  have:=O7 EV F6 (DE 2) (DE 4,DE 3) (Fc (FI 2) 1) ⟨by decide,rfl,by decide⟩;rw[ZM]at this;exact⟨_,_,this⟩
 have O:K1 [.slc (nz 3 (EV.map C5)) (EV.map C5) false,DQ F6,C7 (DE 4),.agg (C6 (DE 4)++C6 DV),Dv (Fc (FI 4) 0)]=some (.tup [.agg (.int .i64 1::C6 DV),.int .i64 0]):=by
  have:=O7 EV F6 (DE 4) (DE 4,DV) (Fc (FI 4) 0) ⟨by decide,rfl,by decide⟩;rw[ZJ,show Fe (DE 4,DV) (DV,0)=(1,DV) by unfold Fe Ie; rw[if_pos rfl,if_neg lF,if_pos rfl]]at this;exact this
 have J:∃ p d,K1 [.slc (nz 3 (EV.map C5)) (EV.map C5) false,DQ F6,C7 (DE 1),.agg (C6 (DE 4)++C6 (DE 3)),Dv (Fc (FI 2) 2)]=some (.tup [.agg (.int .i64 p::C6 d),.int .i64 390]):=by
  have:=O7 EV F6 (DE 1) (DE 4,DE 3) (Fc (FI 2) 2) ⟨by decide,rfl,by decide⟩;rw[ZL]at this;exact⟨_,_,this⟩
 have f2:Mx [.slc 0 [] false,DQ F6,.agg (C6 (DE 0)++C6 (DE 1))]=some (.tup [.agg (.int .i64 (-1)::C6 DV),.int .i64 0]):=by
  have:=WL [] F6 (DE 0,DE 1) ⟨by decide,rfl⟩;rw[ZK,show Fe (DE 0,DE 1) (DV,0)=(-1,DV) by unfold Fe Ie; rw[if_pos rfl,if_neg Q3,if_neg lD]]at this;exact this
 obtain⟨U,d2,g2⟩:=g2;obtain⟨V,d4,J⟩:=J;unfold TF;simp (disch:=first|omega|decide) only[push_cast,↓reduceIte,CG,CH,CN,CW,↓CI,c0,Ykt,yQ,Yp0,Qj,ZD,Fw hv,F7,H3,c1,Xe,Yho I,Yi5 I,Ypb,Yjt,Yck,u,E,EH,FN,E2,FA,H4,z6,z7,z9,Yqv,Yqu,Ydl,Yjv,Ypg,f1,f2,g1,g2,O,J,o1,o2,N,Hv,LH,M,Mp]
theorem Yea:Contract Tryz.prog GG 12 Sk:=
 DH nZ (Dy (all_cons qt (all_cons Rc (all_cons Ylh (all_cons gm (all_cons eu (all_cons eE (all_cons Xf all_nil))))))) all_nil) (fun a h=>pI )
def tDig:Ty:=.agg (CM 32 (.int .u8))
def tyIns:Ty:=.agg [.int .i64,.int .i64,.int .i64]
def tyEv:Ty:=.agg [.int .i64,.agg (CM 16 (.int .i64))]
def tyCl:Ty:=.agg [.agg (CM 32 (.int .u8)),.agg (CM 32 (.int .u8))]
variable {d:D}
theorem mi(h:Has (.int .i64) d):∃ n:Int,d=nI n:=by
 obtain⟨n,rfl,_⟩:=Kx h;exact⟨n,rfl⟩
theorem Ykd(h:Has tyIns d):∃ x:Ins,d=C5 x:=by
 obtain⟨x,y,z,rfl,u,E,I⟩:=Yc6 h;obtain⟨a,rfl,_⟩:=Kx u;obtain⟨b,rfl,_⟩:=Kx E;obtain⟨c,rfl,_⟩:=Kx I;exact⟨⟨a,b,c⟩,rfl⟩
theorem Yc5(h:Has (.slc tyIns) d):∃ l:List Ins,d=.slc (nz 3 (l.map C5)) (l.map C5) false∧l.length≤maxLen:=
 eT (f:=C5) (fun _=>Ykd) h
theorem uK(h:Has (.agg (CM 16 (.int .i64))) d):∃ l:List Int,d=.agg (l.map nI)∧l.length=16:=by
 cases h with
 |agg _ xs u I=>
  obtain⟨l,rfl⟩:=RI (f:=nI) (els:=xs) fun x J=>by
   obtain⟨i,hi⟩:=Cf J
   have E:i<16:=by
    have:=(Ab.1 hi).1;rw[← u,BB]at this;exact this
   exact mi (I i (.int .i64) x (by rw[List.getElem?_replicate,if_pos E]) hi)
  rw[BB,A2]at u;refine⟨l,?_,u.symm⟩
  have:∀ l:List Int,(l.map nI).flatMap D.cells=l.map nI:=by
   intro l
   induction l with
   |nil=>rfl
   |cons a r M=>simp only[Aq,An,M]; rfl
  rw[this]
theorem Yqd(h:Has tyEv d):∃ v:Int×List Int,d=DQ v∧v.2.length=16:=by
 obtain⟨x,y,rfl,u,E⟩:=gS h;obtain⟨n,rfl,_⟩:=Kx u;obtain⟨l,rfl,hl⟩:=uK E;exact⟨(n,l),rfl,hl⟩
theorem Yqe(h:Has tyCl d):∃ p:Dig×Dig,d=Fv p:=by
 obtain⟨x,y,rfl,u,E⟩:=gS h;obtain⟨a,rfl⟩:=U1 u;obtain⟨b,rfl⟩:=U1 E;exact⟨(a,b),rfl⟩
def Ek(n:Nat):List UInt8:=Gx n (Gw 8 n)
theorem wJ(m k:Nat):Gx m (k+1)=Gx (m / 256) k++[CS m]:=by
 unfold Gx;rw[List.range_succ,A4,List.map_singleton]
 congr 1
 ·refine Bx fun i hi=>?_;have hi:=AN.1 hi;rw[Nat.div_div_eq_div_mul,show 8*(k+1 - 1 - i)=8+8*(k - 1 - i) by omega,Nat.pow_add]
 ·simp
variable {m:Nat}
theorem jc(h:m≠0)(u:m<18446744073709551616):Ek m=Ek (m / 256)++[CS m]:=by
 unfold Ek;rw[aJ h (by exact u),wJ]
theorem Yk1(h:m≠0)(u:m<18446744073709551616):Ek m≠[]:=by
 rw[jc h u]; simp
theorem YO(n:Nat):(Ek n).length≤8:=by
 unfold Ek; rw[NU]; exact LK 8 n
theorem ui(st:St)(n:Int)(k:Nat)(u:k≤7):E0 st (.int .u8) (.int .i64 (n / 2 ^ (8*k)))=some (Da (CS (Du n / 256 ^ k))):=by
 have h:(n / 2 ^ (8*k)) % 256=((Du n / 256 ^ k % 256:Nat):Int):=by
  unfold Du;rcases(by omega:k=0∨k=1∨k=2∨k=3∨k=4∨k=5∨k=6∨k=7)with rfl | rfl | rfl | rfl | rfl | rfl | rfl | rfl <;> simp only[Nat.reducePow,C4,C0] <;> omega
 unfold Da;rw[BM]
 show some (D.int .u8 ((n / 2 ^ (8*k)) % 256))=_
 rw[h]
def Ho(n j:Nat):List UInt8:=Ek (n / 256 ^ (8 - j))
variable {n:Nat}
theorem Yq3(h:n<18446744073709551616):Ho n 0=[]:=by
 unfold Ho;rw[Nat.div_eq_of_lt (by simpa using h)]; rfl
theorem Yq1(n j:Nat):Ho n (j+1)=Ek (n / 256 ^ (7 - j)):=by
 unfold Ho; rw[show 8 - (j+1)=7 - j by omega]
theorem Yq2{j:Nat}(h:j≤7):Ho n j=Ek (n / 256 ^ (7 - j) / 256):=by
 unfold Ho;rw[Nat.div_div_eq_div_mul,show 8 - j=7 - j+1 by omega,Nat.pow_succ]
theorem Xo(c:UInt8):Dj .neq (Da c) (.int .u8 0)=some (.bool (!decide (c=0))):=by
 have h:=Xh c;unfold Da at h ⊢;rw[XF]at h;rw[eg];simp only[BF,D.bool.injEq]at h ⊢;rw[← h]
noncomputable def Ye:List D→Option D:=Dd (α:=Int) (fun a=>[.int .i64 a]) (fun a=>True) (fun a=>.slc (nz 1 ((Ek (Du a)).map Da)) ((Ek (Du a)).map Da) false)
theorem jq(n:Int):Ye [.int .i64 n]=some (.slc (nz 1 ((Ek (Du n)).map Da)) ((Ek (Du n)).map Da) false):=
 DG (fun a b h=>by simp only[Aa,D.int.injEq,true_and,and_true]at h; simp[h]) (n) trivial
set_option maxHeartbeats 4000000 in
set_option maxRecDepth 20000 in
theorem Ynj(n:Int):@wW GG (tb [] []) TU.code (Db [.int .i64 n]) [] ⟨De TU.res (.slc (nz 1 ((Ek (Du n)).map Da)) ((Ek (Du n)).map Da) false)⟩:=by
 obtain⟨u,hu⟩:∃ u,Du n=u:=⟨_,rfl⟩;have M:u<18446744073709551616:=by rw[← hu]; exact Vs n
 rw[hu];unfold TU;simp (disch:=first|omega|decide) only[push_cast,↓reduceIte,j2 1 0]
 refine EP (fun j:Nat=>[(0,.int .i64 n),(3,DC 1 0 ((Ho u j).map Da)),(4,.int .i64 (56 - 8*(j:Int)))])
  (fun j=>Di 1 ((Ho u j).map Da)) (fun j=>j≤8) (fun j=>8 - j) 0 (by rw[Yq3 M]; simp only[push_cast,↓reduceIte,CG,CV,CZ,↓CI] <;> rfl) (by omega) ?_
 intro j hj;unfold dI;simp (disch:=first|omega|decide) only[push_cast,↓reduceIte,CG];refine Fg (fun Y=>?_) (fun Y=>?_)
 ·obtain⟨m,hm⟩:∃ m,u / 256 ^ (7 - j)=m:=⟨_,rfl⟩;have ab:m<18446744073709551616:=by rw[← hm]; exact Nat.lt_of_le_of_lt (Nat.div_le_self _ _) M
  have O:=Yq2 (n:=u) (j:=j) (by omega);have J:=Yq1 u j;rw[hm]at O J
  have U:Dj .shr (.int .i64 n) (.int .i64 (56 - 8*(j:Int)))=some (.int .i64 (n / 2 ^ (8*(7 - j)))):=by
   rw[lS (by omega) (by omega),show(56 - 8*(j:Int)).toNat=8*(7 - j) by omega]
  have hv:∀ st,E0 st (.int .u8) (.int .i64 (n / 2 ^ (8*(7 - j))))=some (Da (CS m)):=fun st=>by
   rw[ui st n (7 - j) (by omega),hu,hm]
  have E:(56:Int) - 8*(j:Int) - 8=56 - 8*((j:Int)+1):=by omega
  have ac:=YO (m / 256)
  by_cases I:m=0
  ·have ed:Ek (m / 256)=[]:=by subst I; rfl
   have hb:CS m=0:=by subst I; rfl
   rw[O,ed];simp (disch:=first|omega|decide) only[push_cast,↓reduceIte,CG,CO,U,hv,Xo,eq_true hb,decide_true,Bg,Ap,A6,Ez,E,← j2 1 0];refine El (j+1) (by show j+1≤8; omega) (by show 8 - (j+1)<8 - j; omega) ?_;rw[J,show Ek m=[] by subst I; rfl];simp only[push_cast] <;> rfl
  ·have N:=jc I (by omega);rw[O]
   by_cases hb:CS m=0
   ·have X:Ek (m / 256)≠[]:=by
     refine Yk1 (fun q=>I ?_) (by omega);have:=congrArg UInt8.toNat hb;rw[BM]at this;have h0:(0:UInt8).toNat=0:=rfl;omega
    have V:(0:Int)<((Ek (m / 256)).length:Int):=by
     have:=Ck.2 X; omega
    simp (disch:=first|omega|decide) only[push_cast,↓reduceIte,CG,U,hv,Xo,eq_true hb,decide_true,Bg,V,Ez,E];refine El (j+1) (by show j+1≤8; omega) (by show 8 - (j+1)<8 - j; omega) ?_;rw[J,N];simp only[push_cast,A4] <;> rfl
   ·simp (disch:=first|omega|decide) only[push_cast,↓reduceIte,CG,U,hv,Xo,eq_false hb,decide_false,A0,Ez,E];refine El (j+1) (by show j+1≤8; omega) (by show 8 - (j+1)<8 - j; omega) ?_;rw[J,N];simp only[push_cast,A4] <;> rfl
 ·obtain rfl:j=8:=by omega
  have e:Ho u 8=Ek u:=by unfold Ho; rw[BA,Nat.pow_zero,Nat.div_one]
  rw[e];simp (disch:=first|omega|decide) only[push_cast,↓reduceIte,CG,C3,CN,CV,CZ,↓CI]
theorem zP:Contract Tryz.prog GG 213 Ye:=
 DH oE (Dy all_nil all_nil) (fun a h=>Ynj a)
def H9(c:UInt8):UInt8:=255 - c
theorem rE(s q m:Nat)(E:m<2 ^ s*q):(2 ^ s*q - 1 - m) / 2 ^ s=q - 1 - m / 2 ^ s:=by
 have u:0<2 ^ s:=Cn s;have I:=Nat.div_add_mod m (2 ^ s);have J:=Nat.mod_lt m u;have M:m / 2 ^ s<q:=by rw[Nat.div_lt_iff_lt_mul u,Cq]; exact E
 generalize m / 2 ^ s=a at*;generalize m % 2 ^ s=r at*;generalize 2 ^ s=A at*;obtain⟨b,rfl⟩:∃ b,q=a+1+b:=⟨q - a - 1,by omega⟩;rw[show a+1+b - 1 - a=b by omega];have:A*(a+1+b)=A*a+A+A*b:=by rw[Nat.mul_add,Nat.mul_add,BH]
 rw[this,show A*a+A+A*b - 1 - m=(A - 1 - r)+A*b by omega,Nat.add_mul_div_left _ _ u,Nat.div_eq_of_lt (by omega),Bb]
theorem sA{s:Nat}(E:m<18446744073709551616)(I:s≤56):CS ((18446744073709551615 - m) / 2 ^ s)=H9 (CS (m / 2 ^ s)):=by
 have e:(18446744073709551616:Nat)=2 ^ s*2 ^ (64 - s):=by rw[← Nat.pow_add,show s+(64 - s)=64 by omega]
 have h:=rE s (2 ^ (64 - s)) m (by omega);rw[← e,show(18446744073709551616 - 1 - m:Nat)=18446744073709551615 - m by omega]at h;rw[h];obtain⟨k,hk⟩:∃ k,2 ^ (64 - s)=256*k:=⟨2 ^ (56 - s),by rw[show(256:Nat)=2 ^ 8 from rfl,← Nat.pow_add,show 8+(56 - s)=64 - s by omega]⟩
 have u:m / 2 ^ s<2 ^ (64 - s):=by
  rw[Nat.div_lt_iff_lt_mul (Cn s),Cq,← e]; exact E
 generalize m / 2 ^ s=a at*;rw[hk]at u ⊢;apply Cm.1;unfold H9;rw[UInt8.toNat_sub,BM,BM];have:(255:UInt8).toNat=255:=rfl;omega
theorem Ycq(n:Int)(h:0≤n):E3 n=CS (32+(Ek (Du n)).length)::Ek (Du n):=by
 unfold E3 Ek;rw[if_pos h,NU]
theorem Ycr(n:Int)(h:¬ 0≤n):E3 n=CS (31 - (Ek (Hs (Du n))).length)::(Ek (Hs (Du n))).map H9:=by
 have hu:=Vs n;generalize I:Du n=u at*;obtain⟨m,hm⟩:∃ m,Hs u=m:=⟨_,rfl⟩;have e:u=18446744073709551615 - m:=by rw[← hm]; unfold Hs; omega
 have E:m<18446744073709551616:=by rw[← hm]; exact gw u
 unfold E3 Ek;rw[if_neg h,I,hm,NU,Aa];refine⟨rfl,?_⟩;unfold Gx;rw[Cs];refine Bx fun i hi=>?_;have hi:=AN.1 hi;have J:=LK 8 m;rw[e];exact sA E (by omega)
theorem j8(x:Int):Du (IntKind.wrap .i64 x)=Du x:=by
 have h:IntKind.wrap .i64 x=if(true && decide (x % (2 ^ 64:Int) ≥ (2 ^ (64 - 1):Int)))=true then x % (2 ^ 64:Int) - (2 ^ 64:Int)else x % (2 ^ 64:Int):=(rfl)
 rw[h];unfold Du
 split <;> omega
theorem zf(a b:Int):Dj .add (.int .i64 a) (.int .i64 b)=some (.int .i64 (IntKind.wrap .i64 (a+b))):=by
 simp[Dj,Ic]
theorem Yoy(a:Int):IS .neg (.int .i64 a)=some (.int .i64 (IntKind.wrap .i64 (0 - a))):=by
 simp[IS]
theorem uv(n:Int):Du (IntKind.wrap .i64 (0 - IntKind.wrap .i64 (n+1)))=Hs (Du n):=by
 rw[j8];have h:=j8 (n+1);generalize IntKind.wrap .i64 (n+1)=y at*;unfold Du Hs at*;omega
theorem ia(c:UInt8):Dj .sub (.int .u8 255) (Da c)=some (Da (H9 c)):=by
 have h:=c.toNat_lt;unfold H9
 show(some (D.int .u8 (IntKind.wrap .u8 (255 - (c.toNat:Int)))):Option D)=some (.int .u8 ((255 - c:UInt8).toNat:Int))
 rw[UInt8.toNat_sub];have e:(255:UInt8).toNat=255:=rfl;rw[e]
 congr 2
 show(255 - (c.toNat:Int)) % 256=_
 omega
def Mb(a:UInt8)(B:List UInt8)(j:Nat):D:=if j=0 then .slc 1 [Da a] true else DC 1 0 ((a::(B.take j).map H9).map Da)
def Ma(a:UInt8)(B:List UInt8)(j:Nat):St:=if j=0 then []else Di 1 ((a::(B.take j).map H9).map Da)
noncomputable def Yl:List D→Option D:=Dd (α:=Int) (fun a=>[.int .i64 a]) (fun a=>True) (fun a=>.slc (nz 1 ((E3 a).map Da)) ((E3 a).map Da) false)
theorem rb(n:Int):Yl [.int .i64 n]=some (.slc (nz 1 ((E3 n).map Da)) ((E3 n).map Da) false):=
 DG (fun a b h=>by simp only[Aa,D.int.injEq,true_and,and_true]at h; simp[h]) (n) trivial
set_option maxHeartbeats 4000000 in
set_option maxRecDepth 20000 in
theorem Yna(n:Int):@wW GG (tb [(213,Ye)] []) Uo.code (Db [.int .i64 n]) [] ⟨De Uo.res (.slc (nz 1 ((E3 n).map Da)) ((E3 n).map Da) false)⟩:=by
 unfold Uo
 by_cases M:0≤n
 ·have N:=jq n;have hl:=YO (Du n);rw[Ycq n M];generalize Du n=m at*;simp (disch:=first|omega|decide) only[push_cast,↓reduceIte,CG,M,N,DL,VW,J4];generalize CS (32+(Ek m).length)=x;generalize Ek m=T at*
  by_cases E:T=[]
  ·subst E;simp (disch:=first|omega|decide) only[push_cast,↓reduceIte,CW,Sf]
  ·have U:DR [] 1 1 (.slc 1 [Da x] true) (.slc (nz 1 (T.map Da)) (T.map Da) false)=some (.row 0 (x::T).length 0 (x::T).length,[⟨true,1,(x::T).map Da,false⟩]):=
    Sh Da [] 1 1 [x] T false (nz 1 (T.map Da)) E (L5 _ _) (by decide) (by simp; omega) (by simp; omega)
   generalize hX:x::T=X at U;simp (disch:=first|omega|decide) only[push_cast,↓reduceIte,U]
 ·have N:=jq (IntKind.wrap .i64 (0 - IntKind.wrap .i64 (n+1)));have hl:=YO (Hs (Du n));rw[uv]at N;rw[Ycr n M];generalize Hs (Du n)=m at*;simp (disch:=first|omega|decide) only[push_cast,↓reduceIte,CG,M,zf,Yoy,N,Ez,ja,J4];generalize CS (31 - (Ek m).length)=x;generalize Ek m=T at*;refine EP (fun j:Nat=>[(5,.slc (nz 1 (T.map Da)) (T.map Da) false),(6,Mb x T j),(7,.int .i64 (j:Int))]) (fun j=>Ma x T j) (fun j=>j≤T.length) (fun j=>T.length - j) 0 (by simp only[push_cast,↓reduceIte,CG,↓CI,Mb,Ma] <;> rfl) (Ba _) ?_;intro j V;have V:j≤T.length:=V;unfold dP
  have Y:∀ y:UInt8,DR [] 1 1 (.slc 1 [Da x] true) (.slc 1 [Da y] true)=some (.row 0 2 0 2,[⟨true,1,[Da x,Da y],false⟩]):=fun y=>
   Sh Da [] 1 1 [x] [y] true 1 (by simp) (.inl rfl) (by decide) (by simp) (by simp)
  by_cases h2:j<T.length
  ·have O:=I7 T h2;have I:=fun st=>KA st 1 Da T false .i64 (j:Int) (by omega) (by omega);rw[AM]at I;obtain⟨y,hy⟩:∃ y,T.getD j default=y:=⟨_,rfl⟩;rw[hy]at O I;have J:(j:Int)<(T.length:Int):=by omega
   have u:Mb x T (j+1)=DC 1 0 ((x::(T.take j).map H9++[H9 y]).map Da)∧Ma x T (j+1)=Di 1 ((x::(T.take j).map H9++[H9 y]).map Da):=by
    unfold Mb Ma;rw[if_neg (by omega),if_neg (by omega),O,A4];exact⟨rfl,rfl⟩
   rcases BN j with rfl | ac
   ·rw[show(((0:Nat)):Int)=0 from rfl]at I J;simp (disch:=first|omega|decide) only[push_cast,↓reduceIte,CG,CL,CW,↓CI,Mb,Ma,J,I,MI,K6,KM,ia,J4,Y,DL];refine El 1 (by show 1≤T.length; omega) (by show T.length - 1<T.length - 0; omega) ?_;rw[u.1,u.2];simp only[push_cast,↓CI] <;> rfl
   ·rw[show Mb x T j=DC 1 0 ((x::(T.take j).map H9).map Da)from if_neg (by omega),show Ma x T j=Di 1 ((x::(T.take j).map H9).map Da)from if_neg (by omega)];have hA:(x::(T.take j).map H9).length≤16:=by simp; omega
    generalize x::(T.take j).map H9=A at*;simp (disch:=first|omega|decide) only[push_cast,↓reduceIte,CG,J,I,MI,K6,KM,ia,J4,DL];refine El (j+1) (by show j+1≤T.length; omega) (by show T.length - (j+1)<T.length - j; omega) ?_;rw[u.1,u.2];simp only[push_cast] <;> rfl
  ·obtain rfl:j=T.length:=by omega
   by_cases E:T=[]
   ·subst E;simp (disch:=first|omega|decide) only[push_cast,↓reduceIte,CG,CO,Mb,Ma]
   ·have:=Ck.2 E;rw[show Mb x T T.length=DC 1 0 ((x::(T.take T.length).map H9).map Da)from if_neg (by omega),show Ma x T T.length=Di 1 ((x::(T.take T.length).map H9).map Da)from if_neg (by omega),AJ];simp (disch:=first|omega|decide) only[push_cast,↓reduceIte,CG,eq_false (Int.lt_irrefl (T.length:Int)),decide_false]
theorem zZ:Contract Tryz.prog GG 212 Yl:=
 DH oU (Dy (all_cons zP all_nil) all_nil) (fun a h=>Yna a)
noncomputable def N4:List D→Option D:=Dd (α:=Int) (fun a=>[.int .i64 a]) (fun a=>True) (fun a=>C8 (.int a))
theorem Ol(n:Int):N4 [.int .i64 n]=some (C8 (.int n)):=
 DG (fun a b h=>by simp only[Aa,D.int.injEq,true_and,and_true]at h; simp[h]) (n) trivial
theorem Zu(n:Int):@wW GG (tb [] []) TP.code (Db [.int .i64 n]) [] ⟨De TP.res (C8 (.int n))⟩:=by
 unfold TP;rw[Jr];simp (disch:=first|omega|decide) only[push_cast,↓reduceIte,CG,Li,gb,No,JB];rfl
theorem Lh:Contract Tryz.prog GG 174 N4:=
 DH od (Dy all_nil all_nil) (fun a h=>Zu a)
noncomputable def VK:List D→Option D:=Dd (α:=List Val) (fun a=>[.slc (nz 4 (a.map C8)) (a.map C8) false]) (fun a=>True) (fun a=>C8 (.list a))
theorem eF(l:List Val):VK [.slc (nz 4 (l.map C8)) (l.map C8) false]=some (C8 (.list l)):=
 DG (fun a b h=>by simp only[Aa,D.slc.injEq,and_true,Zn]at h; simp[h]) (l) trivial
theorem Zt(l:List Val):@wW GG (tb [] []) TG.code (Db [.slc (nz 4 (l.map C8)) (l.map C8) false]) [] ⟨De TG.res (C8 (.list l))⟩:=by
 unfold TG;rw[Kc];simp (disch:=first|omega|decide) only[push_cast,↓reduceIte,CG,Li,fZ,No,JB];rfl
theorem Rd:Contract Tryz.prog GG 176 VK:=
 DH n4 (Dy all_nil all_nil) (fun a h=>Zt a)
noncomputable def Pw:List D→Option D:=Dd (α:=Dig) (fun a=>[C7 a]) (fun a=>True) (fun a=>C8 (.bytes a.bs))
theorem XH(d:Dig):Pw [C7 d]=some (C8 (.bytes d.bs)):=
 DG (fun a b h=>by simp only[Aa,KR,and_true]at h; simp[h]) (d) trivial
theorem Zv(d:Dig):@wW GG (tb [] []) Ub.code (Db [C7 d]) [] ⟨De Ub.res (C8 (.bytes d.bs))⟩:=by
 unfold Ub;rw[Jt];simp (disch:=first|omega|decide) only[push_cast,↓reduceIte,CG,Li,aK,fY,No,JB,fM,aT];rfl
theorem M8:Contract Tryz.prog GG 173 Pw:=
 DH oD (Dy all_nil all_nil) (fun a h=>Zv a)
theorem ll:((1:Int)=2)=False:=by simp
theorem lk:((1:Int)=3)=False:=by simp
theorem lj:((2:Int)=3)=False:=by simp
noncomputable def Vc(N:Nat):List D→Option D:=Dd (α:=Val) (fun v=>[C8 v]) (fun v=>Dx v<N∧(Df v).length≤4294967000) (fun _=>.bool true)
theorem iP(N:Nat)(v:Val)(h:Dx v<N∧(Df v).length≤4294967000):Vc N [C8 v]=some (.bool true):=
 DG (fun a b h=>by simp only[Aa,and_true,KC]at h; rw[h]) v h
noncomputable def Va(N:Nat):List D→Option D:=Dd (α:=Val) (fun v=>[C8 v]) (fun v=>Dx v<N∧(Df v).length≤4294967000) (fun v=>.int .i64 (Dx v:Int))
theorem jt(N:Nat)(v:Val)(h:Dx v<N∧(Df v).length≤4294967000):Va N [C8 v]=some (.int .i64 (Dx v:Int)):=
 DG (fun a b h=>by simp only[Aa,and_true,KC]at h; rw[h]) v h
noncomputable def Oy(N:Nat):List D→Option D:=Dd (α:=Val) (fun v=>[C8 v]) (fun v=>Dx v<N∧(Df v).length≤4294967000) (fun v=>IV (Df v))
theorem VO(N:Nat)(v:Val)(h:Dx v<N∧(Df v).length≤4294967000):Oy N [C8 v]=some (IV (Df v)):=
 DG (fun a b h=>by simp only[Aa,and_true,KC]at h; rw[h]) v h
variable {l:List Val}
theorem YW{N:Nat}(E:Dx (.list l)<N+1)(hl:(Df (.list l)).length≤4294967000)(hi:i<l.length):Dx (l.getD i default)<N∧(Df (l.getD i default)).length≤4294967000:=by
 have u:l.getD i default∈l:=by rw[Aj,Af hi]; exact Bj hi
 have I:=Rz u;have J:=YQ u;rw[NH]at E;rw[I6]at hl;simp only[Al,Ad,Ap]at hl;exact⟨by omega,by omega⟩
theorem gG(hl:(Df (.list l)).length≤4294967000):l.length≤4294967000:=by
 have u:=O4 l;rw[I6]at hl;simp only[Al,Ad,Ap]at hl;omega
theorem mL:∀ N:Nat,Contract Tryz.prog GG 210 (Vc N)
 |0=>by
  intro w g ds vs d M;obtain⟨a,_,O,_⟩:=OL M;exact absurd O.1 (by omega)
 |N+1=>by
  refine DH (T:=tb [(210,Vc N)] []) ox (Dy (all_cons (mL N) all_nil) all_nil) ?_;rintro v ⟨U,hl⟩;unfold dF
  cases v with
  |int n=>
   rw[Jr];simp (disch:=first|omega|decide) only[push_cast,↓reduceIte,CG,CO,G9,HS,LX,IC,ll,lk];refine EP (fun i:Nat=>[(1,.ptr 0 0),(3,.int .i64 0)]) (fun _=>[⟨false,1,vC 1 n [] [],false⟩]) (fun _=>True) (fun _=>0) 0 (by simp only[push_cast,↓reduceIte,CG,CL,CJ,IZ,I2] <;> rfl) trivial ?_;intro i hi;unfold Uh;simp (disch:=first|omega|decide) only[push_cast,↓reduceIte,CG,CO,HS,IC]
  |bytes b=>
   rw[Jt];simp (disch:=first|omega|decide) only[push_cast,↓reduceIte,CG,CO,G9,HS,N3,IC,Oi,lj];refine EP (fun i:Nat=>[(1,.ptr 0 0),(3,.int .i64 0)]) (fun _=>[⟨false,1,vC 2 0 (b.map Da) [],false⟩]) (fun _=>True) (fun _=>0) 0 (by simp only[push_cast,↓reduceIte,CG,CL,CJ,IZ,I2] <;> rfl) trivial ?_;intro i hi;unfold Uh;simp (disch:=first|omega|decide) only[push_cast,↓reduceIte,CG,CO,HS,IC,Oi]
  |list l=>
   rw[Kc];have Y:=gG hl;simp (disch:=first|omega|decide) only[push_cast,↓reduceIte,CG,CO,G9,HS,N3,LX,QV,QU];refine EP (fun i:Nat=>[(1,.ptr 0 0),(3,.int .i64 (i:Int))]) (fun _=>[⟨false,1,vC 3 0 [] (l.map C8),false⟩]) (fun i=>i≤l.length) (fun i=>l.length - i) 0 (by simp only[push_cast,↓reduceIte,CG,CL,CJ,↓CI,IZ,I2] <;> rfl) (by omega) ?_;intro i hi;unfold Uh;simp (disch:=first|omega|decide) only[push_cast,↓reduceIte,CG,IC];refine Fg (fun V=>?_) (fun V=>?_)
   ·have u:i<l.length:=by omega
    have E:=Pp [⟨false,1,vC 3 0 [] (l.map C8),false⟩] l false i u;have I:=iP N _ (YW U hl u);obtain⟨x,J⟩:∃ x,l.getD i default=x:=⟨_,rfl⟩;rw[J]at E I;obtain⟨k,n,B,L,hC,X⟩:=I8 x;rw[X]at E I;simp (disch:=first|omega|decide) only[push_cast,↓reduceIte,CG,CL,CJ,E,IC,Ps,JW,I,DL];refine El (i+1) (by omega) (by omega) ?_;simp only[push_cast,IZ,I2] <;> rfl
   ·obtain rfl:i=l.length:=by omega
    simp (disch:=first|omega|decide) only[push_cast,↓reduceIte,CG,HS,QV,QU]
theorem me:∀ N:Nat,Contract Tryz.prog GG 211 (Va N)
 |0=>by
  intro w g ds vs d V;obtain⟨a,_,X,_⟩:=OL V;exact absurd X.1 (by omega)
 |N+1=>by
  refine DH (T:=tb [(211,Va N)] []) oT (Dy (all_cons (me N) all_nil) all_nil) ?_;rintro v ⟨Y,hl⟩;unfold dB
  cases v with
  |int n=>
   rw[Jr,fS];simp (disch:=first|omega|decide) only[push_cast,G9];refine EP (fun i:Nat=>[(1,.ptr 0 0),(3,.int .i64 0),(4,.int .i64 0)]) (fun _=>[⟨false,1,vC 1 n [] [],false⟩]) (fun _=>True) (fun _=>0) 0 (by simp only[push_cast,↓reduceIte,CG,CL,CJ,IZ,I2] <;> rfl) trivial ?_;intro i hi;unfold Ul;simp (disch:=first|omega|decide) only[push_cast,↓reduceIte,CG,CO,↓CI,HS,IC,lk]
  |bytes b=>
   rw[Jt,kP];simp (disch:=first|omega|decide) only[push_cast,G9];refine EP (fun i:Nat=>[(1,.ptr 0 0),(3,.int .i64 0),(4,.int .i64 0)]) (fun _=>[⟨false,1,vC 2 0 (b.map Da) [],false⟩]) (fun _=>True) (fun _=>0) 0 (by simp only[push_cast,↓reduceIte,CG,CL,CJ,IZ,I2] <;> rfl) trivial ?_;intro i hi;unfold Ul;simp (disch:=first|omega|decide) only[push_cast,↓reduceIte,CG,CO,↓CI,HS,IC,lj]
  |list l=>
   rw[Kc,NH];have ac:=gG hl;have O:=fT (.list l);rw[NH]at O;simp (disch:=first|omega|decide) only[push_cast,G9];refine EP (fun i:Nat=>[(1,.ptr 0 0),(3,.int .i64 (Gl (l.take i):Int)),(4,.int .i64 (i:Int))]) (fun _=>[⟨false,1,vC 3 0 [] (l.map C8),false⟩]) (fun i=>i≤l.length) (fun i=>l.length - i) 0 (by simp only[push_cast,↓reduceIte,CG,CL,CJ,↓CI,IZ,I2] <;> rfl) (by omega) ?_;intro i hi;unfold Ul;simp (disch:=first|omega|decide) only[push_cast,↓reduceIte,CG,IC];refine Fg (fun h2=>?_) (fun h2=>?_)
   ·have u:i<l.length:=by omega
    have J:=Pp [⟨false,1,vC 3 0 [] (l.map C8),false⟩] l false i u;have M:=jt N _ (YW Y hl u);have E:=I7 l u;obtain⟨x,U⟩:∃ x,l.getD i default=x:=⟨_,rfl⟩;rw[U]at J M E;have I:=kQ (l.take i) x;rw[← E]at I;obtain⟨k,n,B,L,hC,hD⟩:=I8 x;rw[hD]at J M;simp (disch:=first|omega|decide) only[push_cast,↓reduceIte,CG,CL,CJ,J,IC,Ps,JW,M,DL];refine El (i+1) (by omega) (by omega) ?_;rw[show((Gl (l.take (i+1)):Nat):Int)=max (Gl (l.take i):Int) (Dx x:Int) by rw[I]; omega];simp only[push_cast,IZ,I2] <;> rfl
   ·obtain rfl:i=l.length:=by omega
    rw[show l.take l.length=l from AJ];simp (disch:=first|omega|decide) only[push_cast,↓reduceIte,CG,HS,DL]
theorem Nt(o:PI.Obj)(A B:List UInt8)(sz:Nat)(t:Bool)(J:sz=1∨B.map Da=[])(u:A≠[])(hl:A.length+B.length≤4294967296):DR [o,⟨true,1,A.map Da,false⟩] 1 1 (.row 1 A.length 0 A.length) (.slc sz (B.map Da) t)=some (.row 1 (A++B).length 0 (A++B).length,[o,⟨true,1,(A++B).map Da,false⟩]):=by
 have h:=NK Da 1 1 1 A B t (by decide) (by omega) hl [o] sz J;have E:A.map Da≠[]:=by simpa using u
 have I:(A++B).map Da≠[]:=by simp[u]
 rw[J8 _ _ _ E,JK _ _ E,J8 _ _ _ I,JK _ _ I,A2,A2]at h;exact h
theorem iw(o:PI.Obj)(x:UInt8):DR [o] 1 1 (.slc 1 [] true) (.slc 1 [Da x] true)=some (.row 1 1 0 1,[o,⟨true,1,[Da x],false⟩]):=
 bI Da [o] 1 1 1 x true (by decide) (by decide)
theorem ss(b:List UInt8)(h:i<b.length):((b.take i).flatMap DJ).length+(DJ (b.getD i default)).length≤(b.flatMap DJ).length:=VX DJ b h
theorem Xj:∀ N:Nat,Contract Tryz.prog GG 204 (Oy N)
 |0=>by
  intro w g ds vs d hd;obtain⟨a,_,hp,_⟩:=OL hd;exact absurd hp.1 (by omega)
 |N+1=>by
  refine DH (T:=tb [(204,Oy N),(212,Yl)] []) ov (Dy (all_cons (Xj N) (all_cons zZ all_nil)) all_nil) ?_;rintro v ⟨hN,hl⟩;unfold dD IV
  cases v with
  |int n=>
   have O:=rb n;rw[Jr,RB];simp (disch:=first|omega|decide) only[push_cast,↓reduceIte,CG,G9,HS,N3,O]
  |bytes b=>
   rw[Jt,NP];rw[NP]at hl;simp only[Al,Ad,Ap]at hl;have a1:=YP b;obtain⟨o,U⟩:∃ o:PI.Obj,o=⟨false,1,vC 2 0 (b.map Da) [],false⟩:=⟨_,rfl⟩;obtain⟨A,u⟩:∃ A:Nat→List UInt8,∀ j,A j=48::(b.take j).flatMap DJ:=⟨_,fun _=>rfl⟩;have ac:=iw o 48;rw[Rg,U]at ac;simp (disch:=first|omega|decide) only[push_cast,↓reduceIte,CG,G9,HS,Oi,LZ,ac];refine EP (fun j:Nat=>[(1,.ptr 0 0),(3,.row 1 (A j).length 0 (A j).length),(4,.int .i64 (j:Int))]) (fun j=>[⟨false,1,vC 2 0 (b.map Da) [],false⟩,⟨true,1,(A j).map Da,false⟩]) (fun j=>j≤b.length) (fun j=>b.length - j) 0 (by rw[u]; simp only[push_cast,↓reduceIte,CG,CL,CJ,CH,↓CI,IZ,I2] <;> rfl) (Ba _) ?_;intro j hj;unfold dR;simp (disch:=first|omega|decide) only[push_cast,↓reduceIte,CG,LX];refine Fg (fun h2=>?_) (fun h2=>?_)
   ·have M:j<b.length:=by omega
    have V:=fun st=>KA st 1 Da b false .i64 (j:Int) (by omega) (by omega);rw[AM]at V;have Y:=I7 b M;have hle:=ss b M;obtain⟨c,O⟩:∃ c,b.getD j default=c:=⟨_,rfl⟩;rw[O]at V Y hle;have hn:A (j+1)=A j++DJ c:=by rw[u,u,Y]; simp
    have hA:(A j).length≤4294967000:=by rw[u]; simp only[Al]; omega
    have J:A j≠[]:=by rw[u]; simp
    generalize A j=A at*
    by_cases h0:c=0
    ·subst h0;have E:=Nt o A [0] 1 true (.inl rfl) J (by simp; omega);have e1:=Nt o (A++[0]) [255] 1 true (.inl rfl) (by simp) (by simp; omega);have b0:Dj .eql (Da 0) (.int .u8 0)=some (.bool true):=(rfl);rw[U]at E e1;simp only[Aq,A6]at E e1;rw[lz]at e1;simp (disch:=first|omega|decide) only[push_cast,↓reduceIte,CG,CL,CJ,CH,V,LX,MI,K6,KM,J4,LZ,b0,E,e1,DL];refine El (j+1) (by omega) (by omega) ?_;rw[hn,show A++DJ 0=A++[0]++[255] by simp[DJ]];simp only[push_cast,IZ,I2] <;> rfl
    ·have E:=Nt o A [c] 1 true (.inl rfl) J (by simp; omega);rw[U]at E;simp only[Aq,A6]at E;simp (disch:=first|omega|decide) only[push_cast,↓reduceIte,CG,CL,CJ,CH,V,LX,MI,K6,KM,J4,Xh,eq_false h0,decide_false,E,DL];refine El (j+1) (by omega) (by omega) ?_;rw[hn,show A++DJ c=A++[c] by simp[DJ,h0]];simp only[push_cast,IZ,I2] <;> rfl
   ·obtain rfl:j=b.length:=by omega
    have I:=u b.length;rw[AJ]at I;have hA:(A b.length).length≤4294967000:=by rw[I]; simp only[Al]; omega
    rw[show(48::(b.flatMap DJ++[0,0]):List UInt8)=(48::b.flatMap DJ)++[0,0]from rfl,← I];have J:A b.length≠[]:=by rw[I]; simp
    generalize A b.length=A at*;have E:=Nt o A [0,0] 1 true (.inl rfl) J (by simp; omega);rw[U]at E;simp only[Aq,A6,Vy]at E;simp (disch:=first|omega|decide) only[push_cast,↓reduceIte,CG,CH,mv,E]
  |list l=>
   have a0:=fun(i:Nat) (hi:i<l.length)=>YW hN hl hi;rw[Kc,I6];rw[I6]at hl;simp only[Al,Ad,Ap]at hl;have a1:=O4 l;obtain⟨o,U⟩:∃ o:PI.Obj,o=⟨false,1,vC 3 0 [] (l.map C8),false⟩:=⟨_,rfl⟩;obtain⟨A,u⟩:∃ A:Nat→List UInt8,∀ j,A j=64::(l.take j).flatMap Df:=⟨_,fun _=>rfl⟩;have ad:=iw o 64;rw[Rf,U]at ad;simp (disch:=first|omega|decide) only[push_cast,↓reduceIte,CG,G9,HS,QV,QU,LZ,ad];refine EP (fun j:Nat=>[(1,.ptr 0 0),(3,.row 1 (A j).length 0 (A j).length),(5,.int .i64 (j:Int))]) (fun j=>[⟨false,1,vC 3 0 [] (l.map C8),false⟩,⟨true,1,(A j).map Da,false⟩]) (fun j=>j≤l.length) (fun j=>l.length - j) 0 (by rw[u]; simp only[push_cast,↓reduceIte,CG,CL,CJ,CH,↓CI,IZ,I2] <;> rfl) (Ba _) ?_;intro j hj;unfold dS;simp (disch:=first|omega|decide) only[push_cast,↓reduceIte,CG,IC];refine Fg (fun h2=>?_) (fun h2=>?_)
   ·have M:j<l.length:=by omega
    have V:=fun st=>Pp st l false j M;have Y:=I7 l M;have hle:=VX Df l M;have O:=VO N _ (a0 j M);obtain⟨x,a2⟩:∃ x,l.getD j default=x:=⟨_,rfl⟩;rw[a2]at V Y hle O;have hn:A (j+1)=A j++Df x:=by rw[u,u,Y]; simp
    have hA:(A j).length+(Df x).length≤4294967000:=by rw[u]; simp only[Al]; omega
    have J:A j≠[]:=by rw[u]; simp
    generalize A j=A at*;generalize Df x=X at*;have ea:=Nt o A X (nz 1 (X.map Da)) false (L5 _ _) J (by omega);rw[U]at ea;obtain⟨k,n,B,L,hC,hD⟩:=I8 x;rw[hD]at V O;unfold IV at O;simp (disch:=first|omega|decide) only[push_cast,↓reduceIte,CG,CL,CJ,CH,V,IC,Ps,JW,Lo,O,ea,DL];refine El (j+1) (by omega) (by omega) ?_;rw[hn];simp only[push_cast,IZ,I2] <;> rfl
   ·obtain rfl:j=l.length:=by omega
    have I:=u l.length;rw[AJ]at I;have hA:(A l.length).length≤4294967000:=by rw[I]; simp only[Al]; omega
    rw[show(64::(l.flatMap Df++[0]):List UInt8)=(64::l.flatMap Df)++[0]from rfl,← I];have J:A l.length≠[]:=by rw[I]; simp
    generalize A l.length=A at*;have E:=Nt o A [0] 1 true (.inl rfl) J (by simp; omega);rw[U]at E;simp only[Aq,A6,Vy]at E;simp (disch:=first|omega|decide) only[push_cast,↓reduceIte,CG,CH,LZ,E]
noncomputable def Yb:List D→Option D:=Dd (α:=Val) (fun a=>[C8 a]) (fun a=>Dx a≤16∧(Df a).length≤4294967000) (fun a=>.int .i64 (HN a))
theorem qY(v:Val)(h:Dx v≤16∧(Df v).length≤4294967000):Yb [C8 v]=some (.int .i64 (HN v)):=
 DG (fun a b h=>by simp only[Aa,and_true,KC]at h; simp[h]) (v) h
theorem y7:Contract Tryz.prog GG 203 Yb:=by
 refine DH (T:=tb [(210,Vc 17),(211,Va 17),(204,Oy 17)] []) ow (Dy (all_cons (mL 17) (all_cons (me 17) (all_cons (Xj 17) all_nil))) all_nil) ?_;rintro v ⟨V,hl⟩;unfold dE HN;obtain⟨k,n,B,M,X,O⟩:=I8 v;have I:=iP 17 v ⟨by omega,hl⟩;have J:=jt 17 v ⟨by omega,hl⟩;have u:=VO 17 v ⟨by omega,hl⟩;unfold IV at u;rw[O]at I J u;rw[O];have E:¬ ((16:Int)<(Dx v:Int)):=by omega
 by_cases U:(Df v).length≤65536
 ·rw[if_pos U];have N:¬ ((65536:Int)<((Df v).length:Int)):=by omega
  simp (disch:=first|omega|decide) only[push_cast,↓reduceIte,CG,G9,HJ,JW,Lo,I,J,u,E,N,decide_false]
 ·rw[if_neg U];have N:((65536:Int)<((Df v).length:Int)):=by omega
  simp (disch:=first|omega|decide) only[push_cast,↓reduceIte,CG,G9,HJ,JW,Lo,I,J,u,E,N,decide_false,decide_true]
noncomputable def Yg:List D→Option D:=Dd (α:=Val) (fun a=>[C8 a]) (fun a=>Dx a≤16∧(Df a).length≤4294967000) (fun a=>.tup [IV (Gv a),.int .i64 (HN a)])
theorem q5(v:Val)(h:Dx v≤16∧(Df v).length≤4294967000):Yg [C8 v]=some (.tup [IV (Gv v),.int .i64 (HN v)]):=
 DG (fun a b h=>by simp only[Aa,and_true,KC]at h; simp[h]) (v) h
theorem zR:Contract Tryz.prog GG 194 Yg:=by
 refine DH (T:=tb [(203,Yb),(204,Oy 17)] []) oW (Dy (all_cons y7 (all_cons (Xj 17) all_nil)) all_nil) ?_;rintro v ⟨N,hl⟩;unfold dw;obtain⟨k,n,B,M,O,J⟩:=I8 v;have E:=qY v ⟨N,hl⟩;have I:=VO 17 v ⟨by omega,hl⟩;unfold IV at I;unfold HN Gv IV at*;rw[J]at E I;dsimp only;rw[J]
 by_cases u:(Df v).length≤65536
 ·rw[if_pos u]at E;rw[if_pos u,if_pos u];simp (disch:=first|omega|decide) only[push_cast,↓reduceIte,CG,G9,HJ,JW,Lo,E,I]
 ·rw[if_neg u]at E;rw[if_neg u,if_neg u];simp (disch:=first|omega|decide) only[push_cast,↓reduceIte,CG,G9,HJ,JW,E,CR,decide_false]
noncomputable def KV:List D→Option D:=Dd (α:=List UInt8×List Val) (fun a=>[.str a.1,.slc (nz 4 (a.2.map C8)) (a.2.map C8) false]) (fun a=>a.1.length≤1000∧Dx (.list a.2)≤16∧(Df (.list a.2)).length≤4294967000) (fun a=>C7 (IA a.1 (.list a.2)))
theorem VR(t:List UInt8)(l:List Val)(h:t.length≤1000∧Dx (.list l)≤16∧(Df (.list l)).length≤4294967000):KV [.str t,.slc (nz 4 (l.map C8)) (l.map C8) false]=some (C7 (IA t (.list l))):=
 DG (fun⟨a0,a1⟩ ⟨b0,b1⟩ h=>by simp only[Aa,D.slc.injEq,D.str.injEq,and_true,Zn]at h; simp[h]) (t,l) h
theorem Ync(t:List UInt8)(l:List Val)(h:t.length≤1000∧Dx (.list l)≤16∧(Df (.list l)).length≤4294967000):@wW GG (tb [(176,VK),(194,Yg),(102,Pf)] []) T6.code (Db [.str t,.slc (nz 4 (l.map C8)) (l.map C8) false]) [] ⟨De T6.res (C7 (IA t (.list l)))⟩:=by
 unfold T6 IA;have u:=eF l;have E:=q5 (.list l) h.2
 have hl:(Gv (.list l)).length≤65536:=by
  unfold Gv
  split
  ·assumption
  ·simp
 have I:=bK t (Gv (.list l)) (by omega);have hi:=fun st=>J6 st (.list l);have hk:=Ka (.list l);generalize (.list l:Val)=v at*;simp (disch:=first|omega|decide) only[push_cast,↓reduceIte,CG,u,hi,hk,E,IV,I]
theorem UE:Contract Tryz.prog GG 172 KV:=
 DH oQ (Dy (all_cons Rd (all_cons zR (all_cons iN all_nil))) all_nil) (fun a h=>Ync a.1 a.2 h)
theorem QX(t:List UInt8)(a b c d:Val)(h:t.length≤1000∧Dx (.list [a,b,c,d])≤16∧(Df (.list [a,b,c,d])).length≤4294967000):KV [.str t,.slc 4 [C8 a,C8 b,C8 c,C8 d] false]=some (C7 (IA t (.list [a,b,c,d]))):=VR t [a,b,c,d] h
theorem lJ(t:List UInt8)(a b:Val)(h:t.length≤1000∧Dx (.list [a,b])≤16∧(Df (.list [a,b])).length≤4294967000):KV [.str t,.slc 4 [C8 a,C8 b] false]=some (C7 (IA t (.list [a,b]))):=VR t [a,b] h
theorem QW(t:List UInt8)(a b c d e f g i:Val)(h:t.length≤1000∧Dx (.list [a,b,c,d,e,f,g,i])≤16∧(Df (.list [a,b,c,d,e,f,g,i])).length≤4294967000):KV [.str t,.slc 4 [C8 a,C8 b,C8 c,C8 d,C8 e,C8 f,C8 g,C8 i] false]=some (C7 (IA t (.list [a,b,c,d,e,f,g,i]))):=VR t [a,b,c,d,e,f,g,i] h
theorem XL(x:Ins)(st:St):EK st 1 (.eptr (C5 x) 0)=some (.eptr (C5 x) 1):=(rfl)
theorem Ykm(x:Ins)(st:St):EK st 2 (.eptr (C5 x) 0)=some (.eptr (C5 x) 2):=(rfl)
theorem XZ(st:St)(x:Ins):EU st 1 false (.eptr (C5 x) 1)=some (.int .i64 x.n):=(rfl)
theorem Yid(st:St)(x:Ins):EU st 1 false (.eptr (C5 x) 2)=some (.int .i64 x.m):=(rfl)
noncomputable def Yp:List D→Option D:=Dd (α:=List Ins) (fun a=>[.slc (nz 3 (a.map C5)) (a.map C5) false]) (fun a=>a.length≤4294967296) (fun a=>C7 (Ht a))
theorem rK(c:List Ins)(h:c.length≤4294967296):Yp [.slc (nz 3 (c.map C5)) (c.map C5) false]=some (C7 (Ht c)):=
 DG (fun a b h=>by simp only[Aa,D.slc.injEq,and_true,GA]at h; simp[h]) (c) h
theorem Ym3(c:List Ins)(h:c.length≤4294967296):@wW GG (tb [(174,N4),(173,Pw),(172,KV)] []) Uq.code (Db [.slc (nz 3 (c.map C5)) (c.map C5) false]) [] ⟨De Uq.res (C7 (Ht c))⟩:=by
 unfold Uq;simp (disch:=first|omega|decide) only[push_cast,↓reduceIte,CG]
 refine EP (fun i:Nat=>[(0,.slc (nz 3 (c.map C5)) (c.map C5) false),(2,.ptr 0 0),(3,.ptr 1 0),(4,.int .i64 (i:Int))])
  (fun i=>[⟨false,1,C6 DF,false⟩,⟨false,1,C6 (Ht (c.take i)),false⟩]) (fun i=>i≤c.length) (fun i=>c.length - i) 0 (by simp only[push_cast,↓reduceIte,CG,CL,CJ,CH,↓CI] <;> rfl) (by omega) ?_
 intro i hi;unfold dQ;simp (disch:=first|omega|decide) only[push_cast,↓reduceIte,CG];refine Fg (fun N=>?_) (fun N=>?_)
 ·have u:i<c.length:=by omega
  have I:=fun st=>J5 st c false i u;have E:=I7 c u;obtain⟨x,J⟩:∃ x,c.getD i default=x:=⟨_,rfl⟩;rw[J]at I E;have M:=QX N7 (.int x.op) (.int x.n) (.int x.m) (.bytes (Ht (c.take i)).bs) (iB _ _);simp only[N7]at M;simp (disch:=first|omega|decide) only[push_cast,↓reduceIte,CG,CL,CJ,CH,I,Jo,XL,Ykm,Jq,XZ,Yid,Ol,XH,J6,Ka,lW,M,DL];refine El (i+1) (by omega) (by omega) ?_;rw[E,aC];simp only[push_cast] <;> rfl
 ·obtain rfl:i=c.length:=by omega
  rw[show(c.take c.length)=c from AJ];simp (disch:=first|omega|decide) only[push_cast,↓reduceIte,CG,CH]
theorem zq:Contract Tryz.prog GG 154 Yp:=
 DH oZ (Dy (all_cons Lh (all_cons M8 (all_cons UE all_nil))) all_nil) (fun a h=>Ym3 a h)
noncomputable def RW:List D→Option D:=Dd (α:=Dig×List Int) (fun a=>[C7 a.1,.slc (nz 1 (a.2.map nI)) (a.2.map nI) false]) (fun a=>a.2.length≤4294967296) (fun a=>C7 (Fx a.1 a.2))
theorem kA(d:Dig)(l:List Int)(h:l.length≤4294967296):RW [C7 d,.slc (nz 1 (l.map nI)) (l.map nI) false]=some (C7 (Fx d l)):=
 DG (fun⟨a0,a1⟩ ⟨b0,b1⟩ h=>by simp only[Aa,D.slc.injEq,KR,and_true,LG]at h; simp[h]) (d,l) h
theorem Ygv(d:Dig)(l:List Int)(h:l.length≤4294967296):@wW GG (tb [(174,N4),(173,Pw),(172,KV)] []) TJ.code (Db [C7 d,.slc (nz 1 (l.map nI)) (l.map nI) false]) [] ⟨De TJ.res (C7 (Fx d l))⟩:=by
 unfold TJ;simp (disch:=first|omega|decide) only[push_cast]
 refine EP (fun i:Nat=>[(1,.slc (nz 1 (l.map nI)) (l.map nI) false),(2,.ptr 0 0),(4,.ptr 1 0),(5,.int .i64 (i:Int))])
  (fun i=>[⟨false,1,C6 (Fx d (l.take i)),false⟩,⟨false,1,C6 DF,false⟩]) (fun i=>i≤l.length) (fun i=>l.length - i) 0 (by simp only[push_cast,↓reduceIte,CG,CL,CJ,CH,↓CI] <;> rfl) (by omega) ?_
 intro i hi;unfold dC;simp (disch:=first|omega|decide) only[push_cast,↓reduceIte,CG];refine Fg (fun N=>?_) (fun N=>?_)
 ·have u:i<l.length:=by omega
  have I:=fun st=>Nm st l false i u;have E:=I7 l u;obtain⟨x,J⟩:∃ x,l.getD i default=x:=⟨_,rfl⟩;rw[J]at I E;have M:=lJ Jv (.int x) (.bytes (Fx d (l.take i)).bs) (gK _ _);simp only[Jv]at M;simp (disch:=first|omega|decide) only[push_cast,↓reduceIte,CG,CL,CJ,CH,I,IG,Ol,XH,J6,Ka,VF,M,DL];refine El (i+1) (by omega) (by omega) ?_;rw[E,ay];simp only[push_cast] <;> rfl
 ·obtain rfl:i=l.length:=by omega
  rw[show(l.take l.length)=l from AJ];simp (disch:=first|omega|decide) only[push_cast,↓reduceIte,CG,CH]
theorem eG:Contract Tryz.prog GG 175 RW:=
 DH n8 (Dy (all_cons Lh (all_cons M8 (all_cons UE all_nil))) all_nil) (fun a h=>Ygv a.1 a.2 h)
noncomputable def Ys:List D→Option D:=Dd (α:=List Int) (fun a=>[.slc (nz 1 (a.map nI)) (a.map nI) false]) (fun a=>a.length≤4294967296) (fun a=>C7 (Fx DF a))
theorem rN(l:List Int)(h:l.length≤4294967296):Ys [.slc (nz 1 (l.map nI)) (l.map nI) false]=some (C7 (Fx DF l)):=
 DG (fun a b h=>by simp only[Aa,D.slc.injEq,and_true,LG]at h; simp[h]) (l) h
theorem Ym0(l:List Int)(h:l.length≤4294967296):@wW GG (tb [(175,RW)] []) Ua.code (Db [.slc (nz 1 (l.map nI)) (l.map nI) false]) [] ⟨De Ua.res (C7 (Fx DF l))⟩:=by
 unfold Ua;have u:=kA DF l h;simp (disch:=first|omega|decide) only[push_cast,↓reduceIte,CG,u]
theorem zu:Contract Tryz.prog GG 156 Ys:=
 DH oC (Dy (all_cons eG all_nil) all_nil) (fun a h=>Ym0 a h)
theorem mo(v:Int×List Int)(h:i<v.2.length):DY (some ⟨false,1,DS v,false⟩) 1 false (1+i)=some (.int .i64 (v.2.getD i default)):=by
 have e:DS v=(.int .i64 v.1::(v.2.take i).map nI)++(nI (v.2.getD i default)::(v.2.drop (i+1)).map nI):=by
  have u:v.2=v.2.take i++v.2.drop i:=(A8 _ _).symm;rw[Bs h]at u;have E:=congrArg (fun l=>D.int .i64 v.1::l.map nI) u;rw[Aj,Af h];refine Eq.trans (show DS v=D.int .i64 v.1::(v.2.take i++v.2[i]::v.2.drop (i+1)).map nI from E) ?_;rw[A4,Aq];rfl
 rw[e];exact IM (A:=.int .i64 v.1::(v.2.take i).map nI) (C:=(v.2.drop (i+1)).map nI) rfl (by simp; omega)
noncomputable def Yk:List D→Option D:=Dd (α:=(Int×List Int)) (fun a=>[DQ a]) (fun a=>a.2.length=16) (fun a=>C7 (GK a))
theorem ra(v:Int×List Int)(h:v.2.length=16):Yk [DQ v]=some (C7 (GK v)):=
 DG (fun a b h=>by simp only[Aa,and_true,Gz]at h; simp[h]) (v) h
theorem Ynb(v:Int×List Int)(h:v.2.length=16):@wW GG (tb [(174,N4),(176,VK),(172,KV)] []) T3.code (Db [DQ v]) [] ⟨De T3.res (C7 (GK v))⟩:=by
 unfold T3;have N:=lJ Jw (.int v.1) (.list (v.2.map .int)) (ff v h);simp only[Jw]at N;simp (disch:=first|omega|decide) only[push_cast,D9]
 refine EP (fun i:Nat=>[(1,.ptr 0 0),(2,.ptr 1 0),(3,DC 0 2 ((v.2.take i).map (C8 ∘ Val.int))),(4,.int .i64 (i:Int))])
  (fun i=>⟨false,1,DS v,false⟩::⟨false,1,C6 DF,false⟩::Di 4 ((v.2.take i).map (C8 ∘ Val.int))) (fun i=>i≤16) (fun i=>16 - i) 0 (by simp only[push_cast,↓reduceIte,CG,CL,CJ,CH,↓CI,UM,U3] <;> rfl) (by omega) ?_
 intro i hi;unfold dO;simp (disch:=first|omega|decide) only[push_cast,↓reduceIte,CG];refine Fg (fun V=>?_) (fun V=>?_)
 ·have I:i<v.2.length:=by omega
  have J:=I7 v.2 I;have O:=mo v I;have M:=fun st=>IL st 16 0 1 .i64 (i:Int) (by omega) (by omega);rw[AM]at M;obtain⟨x,U⟩:∃ x,v.2.getD i default=x:=⟨_,rfl⟩;rw[U]at O J;have E:=XW (f:=C8 ∘ Val.int) (sz:=4) (sz0:=0) (bytes:=64) (A:=v.2.take i) (x:=x) (t:=true) (a:=⟨false,1,DS v,false⟩) (b:=⟨false,1,C6 DF,false⟩) (hs0:=by decide) (hb:=by rw[As]; omega) (hl:=by rw[As]; omega);simp only[Function.comp_apply]at E;simp (disch:=first|omega|decide) only[push_cast,↓reduceIte,CG,CL,CJ,CH,M,O,Ol,J6,Ka,mu,E,DL];refine El (i+1) (by omega) (by omega) ?_;rw[J];simp only[push_cast,UM,U3] <;> rfl
 ·obtain rfl:i=16:=by omega
  rw[show(v.2.take 16)=v.2 from AI (by omega)];have hb:D4 (⟨false,1,DS v,false⟩::⟨false,1,C6 DF,false⟩::Di 4 (v.2.map (C8 ∘ Val.int))) (DC 0 2 (v.2.map (C8 ∘ Val.int)))=some (.slc (nz 4 (v.2.map (C8 ∘ Val.int))) (v.2.map (C8 ∘ Val.int)) false):=Xl _ _ 4 0 _;have hl:=eF (v.2.map Val.int);rw[Cs]at hl
  have u:v.2.map (C8 ∘ Val.int)≠[]:=by
   intro e;have:=congrArg List.length e;simp[h]at this
  rw[J8 _ _ _ u,JK _ _ u]at hb;simp (disch:=first|omega|decide) only[push_cast,↓reduceIte,CG,CH,CO,↓CI,J8 _ _ _ u,JK _ _ u,j4,Nd,Ol,J6,Ka,hl,VF,N];rfl
theorem zY:Contract Tryz.prog GG 155 Yk:=
 DH oN (Dy (all_cons Lh (all_cons Rd (all_cons UE all_nil))) all_nil) (fun a h=>Ynb a h)
def U5(p i:Dig)(o:Opn):Dig:=IA Ij (.list [.bytes p.bs,.bytes i.bs,.int o.pc,.int o.fuel,.int o.status,.int o.clause,.int (o.depth+o.top.length),.bytes (Fx o.rest o.top).bs])
theorem uT(p i:Dig)(o:Opn):Ij.length≤1000∧Dx (.list [.bytes p.bs,.bytes i.bs,.int o.pc,.int o.fuel,.int o.status,.int o.clause,.int (o.depth+o.top.length),.bytes (Fx o.rest o.top).bs])≤16∧(Df (.list [.bytes p.bs,.bytes i.bs,.int o.pc,.int o.fuel,.int o.status,.int o.clause,.int (o.depth+o.top.length),.bytes (Fx o.rest o.top).bs])).length≤4294967000:=by
 have u:=LD p;have E:=LD i;have I:=IH o.pc;have J:=IH o.fuel;have M:=IH o.status;have N:=IH o.clause;have O:=IH (o.depth+o.top.length);have U:=LD (Fx o.rest o.top);refine⟨by decide,by simp[Dx,Gl],?_⟩;rw[I6];simp only[Al,Ad,Ap,An,BK];omega
noncomputable def U8:List D→Option D:=Dd (α:=Dig×Dig×Opn) (fun a=>[C7 a.1,C7 a.2.1,Dv a.2.2]) (fun a=>a.2.2.top.length≤4294967296∧0≤a.2.2.depth∧a.2.2.depth≤4294967296) (fun a=>C7 (U5 a.1 a.2.1 a.2.2))
theorem re(p:Dig)(i:Dig)(o:Opn)(h:o.top.length≤4294967296∧0≤o.depth∧o.depth≤4294967296):U8 [C7 p,C7 i,Dv o]=some (C7 (U5 p i o)):=
 DG (fun⟨a0,a1,u⟩ ⟨b0,b1,E⟩ h=>by simp only[Aa,KR,and_true,KB]at h; simp[h]) (p,i,o) h
theorem Ym9(p:Dig)(i:Dig)(o:Opn)(h:o.top.length≤4294967296∧0≤o.depth∧o.depth≤4294967296):@wW GG (tb [(174,N4),(173,Pw),(175,RW),(172,KV)] []) T4.code (Db [C7 p,C7 i,Dv o]) [] ⟨De T4.res (C7 (U5 p i o))⟩:=by
 obtain⟨E,J,M⟩:=h;unfold T4 U5;have u:=QW Ij _ _ _ _ _ _ _ _ (uT p i o);simp only[Ij]at u;have I:=kA o.rest o.top E;simp (disch:=first|omega|decide) only[push_cast,↓reduceIte,CG,CH,Gd,Hb,Ge,UG,UH,PJ,UI,PK,Ks,UJ,I,Ol,XH,J6,Ka,DL,lX,u];rfl
theorem zm:Contract Tryz.prog GG 153 U8:=
 DH oO (Dy (all_cons Lh (all_cons M8 (all_cons eG (all_cons UE all_nil)))) all_nil) (fun a h=>Ym9 a.1 a.2.1 a.2.2 h)
noncomputable def Vg:List D→Option D:=Dd (α:=List Ins×(Int×List Int)×Opn) (fun a=>[.slc (nz 3 (a.1.map C5)) (a.1.map C5) false,DQ a.2.1,Dv a.2.2]) (fun a=>a.1.length≤4294967296∧a.2.1.2.length=16∧a.2.2.top.length≤4294967296∧0≤a.2.2.depth∧a.2.2.depth≤4294967296) (fun a=>C7 (Ib a.1 a.2.1 a.2.2))
theorem iR(c:List Ins)(v:Int×List Int)(o:Opn)(h:c.length≤4294967296∧v.2.length=16∧o.top.length≤4294967296∧0≤o.depth∧o.depth≤4294967296):Vg [.slc (nz 3 (c.map C5)) (c.map C5) false,DQ v,Dv o]=some (C7 (Ib c v o)):=
 DG (fun⟨a0,a1,u⟩ ⟨b0,b1,E⟩ h=>by simp only[Aa,D.slc.injEq,and_true,GA,KB,Gz]at h; simp[h]) (c,v,o) h
theorem Ymt(c:List Ins)(v:Int×List Int)(o:Opn)(h:c.length≤4294967296∧v.2.length=16∧o.top.length≤4294967296∧0≤o.depth∧o.depth≤4294967296):@wW GG (tb [(154,Yp),(155,Yk),(153,U8)] []) Ud.code (Db [.slc (nz 3 (c.map C5)) (c.map C5) false,DQ v,Dv o]) [] ⟨De Ud.res (C7 (Ib c v o))⟩:=by
 obtain⟨J,hv,M,u,E⟩:=h;unfold Ud;have N:=rK c J;have O:=ra v hv;have I:U8 [C7 (Ht c),C7 (GK v),Dv o]=some (C7 (Ib c v o)):=re (Ht c) (GK v) o ⟨M,u,E⟩;have hi:=fun st=>Hv st o;have hk:=LH o;rw[Dv,Hb]at I hi hk;simp (disch:=first|omega|decide) only[push_cast,↓reduceIte,CG,CH,D9,Gd,Hb,Fw hv,F7,Jf,hi,N,O,I]
theorem mO:Contract Tryz.prog GG 106 Vg:=
 DH ot (Dy (all_cons zq (all_cons zY (all_cons zm all_nil))) all_nil) (fun a h=>Ymt a.1 a.2.1 a.2.2 h)
noncomputable def Zf:List D→Option D:=Dd (α:=Sta×Int) (fun a=>[Dk a.1,.int .i64 a.2]) (fun a=>a.1.stack.length≤4294967296) (fun a=>Dv (Fc a.1 a.2))
theorem uZ(s:Sta)(n:Int)(h:s.stack.length≤4294967296):Zf [Dk s,.int .i64 n]=some (Dv (Fc s n)):=
 DG (fun⟨a0,a1⟩ ⟨b0,b1⟩ h=>by simp only[Aa,D.int.injEq,true_and,and_true,JP]at h; simp[h]) (s,n) h
theorem Ygu(s:Sta)(n:Int)(h:s.stack.length≤4294967296):@wW GG (tb [(156,Ys)] []) TK.code (Db [Dk s,.int .i64 n]) [] ⟨De TK.res (Dv (Fc s n))⟩:=by
 unfold TK;have hk:=Y1 s n;have u:=rN (s.stack.take (JG s n)) (by rw[As]; omega);have hm:max (min n (s.stack.length:Int)) 0=min (max n 0) (s.stack.length:Int):=by omega
 have E:min (max n 0) (s.stack.length:Int)≤s.stack.length:=Int.min_le_right _ _;have I:0≤min (max n 0) (s.stack.length:Int):=by omega
 simp (disch:=first|omega|decide) only[push_cast,↓reduceIte,CG,En,Ih,Ig,F2,F9,GI,HC,FM,Ge,hm,Ez,gM,mD,Xt,u,YT,Ku,Jf,KL,XT,XU];rfl
theorem Yli:Contract Tryz.prog GG 107 Zf:=
 DH n9 (Dy (all_cons zu all_nil) all_nil) (fun a h=>Ygu a.1 a.2 h)
noncomputable def Yd:List D→Option D:=Dd (α:=List Ins×(Int×List Int)×Sta) (fun a=>[.slc (nz 3 (a.1.map C5)) (a.1.map C5) false,DQ a.2.1,Dk a.2.2]) (fun a=>a.1.length≤4294967296∧a.2.1.2.length=16∧a.2.2.stack.length≤4294967296) (fun a=>C7 (DU a.1 a.2.1 a.2.2))
theorem qZ(c:List Ins)(v:Int×List Int)(s:Sta)(h:c.length≤4294967296∧v.2.length=16∧s.stack.length≤4294967296):Yd [.slc (nz 3 (c.map C5)) (c.map C5) false,DQ v,Dk s]=some (C7 (DU c v s)):=
 DG (fun⟨a0,a1,u⟩ ⟨b0,b1,E⟩ h=>by simp only[Aa,D.slc.injEq,and_true,GA,JP,Gz]at h; simp[h]) (c,v,s) h
theorem Ynk(c:List Ins)(v:Int×List Int)(s:Sta)(h:c.length≤4294967296∧v.2.length=16∧s.stack.length≤4294967296):@wW GG (tb [(107,Zf),(106,Vg)] []) T2.code (Db [.slc (nz 3 (c.map C5)) (c.map C5) false,DQ v,Dk s]) [] ⟨De T2.res (C7 (DU c v s))⟩:=by
 obtain⟨u,hv,E⟩:=h;unfold T2;have I:=uZ s s.stack.length E;have hk:JG s s.stack.length=0:=by unfold JG; omega
 have hw:=iR c v (Fc s s.stack.length) ⟨u,hv,by simp only[Fc,AE]; omega,by simp only[Fc,hk]; omega,by simp only[Fc,hk]; omega⟩;simp (disch:=first|omega|decide) only[push_cast,↓reduceIte,CG,CH,D9,Fw hv,F7,En,E2,FM,Ge,FA,H4,I,Hv,hw];rfl
theorem y9:Contract Tryz.prog GG 53 Yd:=
 DH oM (Dy (all_cons Yli (all_cons mO all_nil)) all_nil) (fun a h=>Ynk a.1 a.2.1 a.2.2 h)
noncomputable def Yc:List D→Option D:=Dd (α:=List Ins×(Int×List Int)×Opn) (fun a=>[.slc (nz 3 (a.1.map C5)) (a.1.map C5) false,DQ a.2.1,Dv a.2.2]) (fun a=>a.1.length≤4294967296∧a.2.1.2.length=16∧a.2.2.top.length≤4294967296) (fun a=>C7 (G6 a.1 a.2.1 a.2.2))
theorem jo(c:List Ins)(v:Int×List Int)(o:Opn)(h:c.length≤4294967296∧v.2.length=16∧o.top.length≤4294967296):Yc [.slc (nz 3 (c.map C5)) (c.map C5) false,DQ v,Dv o]=some (C7 (G6 c v o)):=
 DG (fun⟨a0,a1,u⟩ ⟨b0,b1,E⟩ h=>by simp only[Aa,D.slc.injEq,and_true,GA,KB,Gz]at h; simp[h]) (c,v,o) h
theorem Ynl(c:List Ins)(v:Int×List Int)(o:Opn)(h:c.length≤4294967296∧v.2.length=16∧o.top.length≤4294967296):@wW GG (tb [(106,Vg)] []) T8.code (Db [.slc (nz 3 (c.map C5)) (c.map C5) false,DQ v,Dv o]) [] ⟨De T8.res (C7 (G6 c v o))⟩:=by
 obtain⟨I,hv,J⟩:=h;unfold T8
 by_cases u:o.depth<0
 ·rw[iZ u];simp (disch:=first|omega|decide) only[push_cast,↓reduceIte,CG,CH,D9,Gd,Hb,Ks,u]
 ·by_cases E:64<o.depth
  ·rw[iX E];simp (disch:=first|omega|decide) only[push_cast,↓reduceIte,CG,CH,D9,Gd,Hb,Ks,u,E]
  ·rw[iY (by omega) (by omega)];have hw:=iR c v o ⟨I,hv,J,by omega,by omega⟩;have hi:=fun st=>Hv st o;have hk:=LH o;rw[Dv,Hb]at hw hi hk;simp (disch:=first|omega|decide) only[push_cast,↓reduceIte,CG,CH,D9,Gd,Hb,Ks,u,E,Fw hv,F7,Jf,hi,hw]
theorem y8:Contract Tryz.prog GG 56 Yc:=
 DH oA (Dy (all_cons mO all_nil) all_nil) (fun a h=>Ynl a.1 a.2.1 a.2.2 h)
noncomputable def Mh:List D→Option D:=Dd (α:=Int) (fun a=>[.int .i64 a]) (fun a=>True) (fun a=>.bool (Ew a))
theorem KZ(a:Int):Mh [.int .i64 a]=some (.bool (Ew a)):=
 DG (fun a b h=>by simp only[Aa,D.int.injEq,true_and,and_true]at h; simp[h]) (a) trivial
theorem PU(a:Int):@wW GG (tb [] []) TA.code (Db [.int .i64 a]) [] ⟨De TA.res (.bool (Ew a))⟩:=by
 unfold TA
 cases I:Ew a with
 |true=>
  obtain⟨u,E⟩:=H2.1 I;simp (disch:=first|omega|decide) only[push_cast,↓reduceIte,CG,CN,u,E]
 |false=>
  have h:=XN.1 I
  by_cases u:-9007199254740992≤a
  ·have E:¬ a≤9007199254740992:=by omega
   simp (disch:=first|omega|decide) only[push_cast,↓reduceIte,CG,CN,u,E]
  ·simp (disch:=first|omega|decide) only[push_cast,↓reduceIte,CG,CN,u]
theorem Po:Contract Tryz.prog GG 205 Mh:=
 DH nT (Dy all_nil all_nil) (fun a h=>PU a)
noncomputable def UR:List D→Option D:=Dd (α:=Int) (fun a=>[.int .i64 a]) (fun a=>True) (fun a=>.tup [.int .i64 (GY a).1,.int .i64 (GY a).2])
theorem fJ(c:Int):UR [.int .i64 c]=some (.tup [.int .i64 (GY c).1,.int .i64 (GY c).2]):=
 DG (fun a b h=>by simp only[Aa,D.int.injEq,true_and,and_true]at h; simp[h]) (c) trivial
theorem PV(c:Int):@wW GG (tb [(205,Mh)] []) Up.code (Db [.int .i64 c]) [] ⟨De Up.res (.tup [.int .i64 (GY c).1,.int .i64 (GY c).2])⟩:=by
 unfold Up GY;have:=KZ c;cases u:Ew c <;> rw[u]at this <;> simp (disch:=first|omega|decide) only[push_cast,↓reduceIte,CG,this]
theorem lB:Contract Tryz.prog GG 206 UR:=
 DH oY (Dy (all_cons Po all_nil) all_nil) (fun a h=>PV a)
variable {a:Int}
theorem my(u:-9223372036854775808<a)(E:a<9223372036854775808):IS .neg (.int .i64 a)=some (.int .i64 (-a)):=by
 simp only[IS];rw[LL (by omega) (by omega),Int.zero_sub]
noncomputable def X7:List D→Option D:=Dd (α:=Int) (fun a=>[.int .i64 a]) (fun a=>-9223372036854775808<a∧a<9223372036854775808) (fun a=>.int .i64 (EN a))
theorem jm(a:Int)(h:-9223372036854775808<a∧a<9223372036854775808):X7 [.int .i64 a]=some (.int .i64 (EN a)):=
 DG (fun a b h=>by simp only[Aa,D.int.injEq,true_and,and_true]at h; simp[h]) (a) h
theorem Ynp(a:Int)(h:-9223372036854775808<a∧a<9223372036854775808):@wW GG (tb [] []) TS.code (Db [.int .i64 a]) [] ⟨De TS.res (.int .i64 (EN a))⟩:=by
 unfold TS EN
 by_cases u:a<0
 ·simp (disch:=first|omega|decide) only[push_cast,↓reduceIte,CG,u,my]
 ·simp (disch:=first|omega|decide) only[push_cast,↓reduceIte,CG,u]
theorem yY:Contract Tryz.prog GG 207 X7:=
 DH oh (Dy all_nil all_nil) (fun a h=>Ynp a h)
noncomputable def X8:List D→Option D:=Dd (α:=Int×Int) (fun a=>[.int .i64 a.1,.int .i64 a.2]) (fun a=>True) (fun a=>.tup [.int .i64 (Fs a.1 a.2).1,.int .i64 (Fs a.1 a.2).2])
theorem qR(a:Int)(b:Int):X8 [.int .i64 a,.int .i64 b]=some (.tup [.int .i64 (Fs a b).1,.int .i64 (Fs a b).2]):=
 DG (fun⟨a0,a1⟩ ⟨b0,b1⟩ h=>by simp only[Aa,D.int.injEq,true_and,and_true]at h; simp[h]) (a,b) trivial
theorem Yno(a:Int)(b:Int):@wW GG (tb [(205,Mh),(206,UR)] []) TT.code (Db [.int .i64 a,.int .i64 b]) [] ⟨De TT.res (.tup [.int .i64 (Fs a b).1,.int .i64 (Fs a b).2])⟩:=by
 unfold TT Fs;have u:=KZ a;have E:=KZ b;have I:=fJ (a+b);cases ha:Ew a <;> cases hb:Ew b <;> rw[ha]at u <;> rw[hb]at E
 ·simp (disch:=first|omega|decide) only[push_cast,↓reduceIte,CG,u,Bd]
 ·simp (disch:=first|omega|decide) only[push_cast,↓reduceIte,CG,u,Bq]
 ·simp (disch:=first|omega|decide) only[push_cast,↓reduceIte,CG,u,E,B4]
 ·have:=H2.1 ha;have:=H2.1 hb;simp (disch:=first|omega|decide) only[push_cast,↓reduceIte,CG,u,E,I,Bd,DL]
theorem yZ:Contract Tryz.prog GG 198 X8:=
 DH oi (Dy (all_cons Po (all_cons lB all_nil)) all_nil) (fun a h=>Yno a.1 a.2)
noncomputable def Yt:List D→Option D:=Dd (α:=Int×Int) (fun a=>[.int .i64 a.1,.int .i64 a.2]) (fun a=>True) (fun a=>.tup [.int .i64 (Fk a.1 a.2).1,.int .i64 (Fk a.1 a.2).2])
theorem rP(a:Int)(b:Int):Yt [.int .i64 a,.int .i64 b]=some (.tup [.int .i64 (Fk a b).1,.int .i64 (Fk a b).2]):=
 DG (fun⟨a0,a1⟩ ⟨b0,b1⟩ h=>by simp only[Aa,D.int.injEq,true_and,and_true]at h; simp[h]) (a,b) trivial
theorem Ymy(a:Int)(b:Int):@wW GG (tb [(205,Mh),(206,UR)] []) TD.code (Db [.int .i64 a,.int .i64 b]) [] ⟨De TD.res (.tup [.int .i64 (Fk a b).1,.int .i64 (Fk a b).2])⟩:=by
 unfold TD Fk;have u:=KZ a;have E:=KZ b;have I:=fJ (a - b);cases ha:Ew a <;> cases hb:Ew b <;> rw[ha]at u <;> rw[hb]at E
 ·simp (disch:=first|omega|decide) only[push_cast,↓reduceIte,CG,u,Bd]
 ·simp (disch:=first|omega|decide) only[push_cast,↓reduceIte,CG,u,Bq]
 ·simp (disch:=first|omega|decide) only[push_cast,↓reduceIte,CG,u,E,B4]
 ·have:=H2.1 ha;have:=H2.1 hb;simp (disch:=first|omega|decide) only[push_cast,↓reduceIte,CG,u,E,I,Bd,Ez]
theorem zw:Contract Tryz.prog GG 199 Yt:=
 DH oo (Dy (all_cons Po (all_cons lB all_nil)) all_nil) (fun a h=>Ymy a.1 a.2)
theorem Yl4(h:a≠0):(9007199254740992 / EN a<EN b)↔9007199254740992<EN (a*b):=by
 have u:0<EN a:=by unfold EN; split <;> omega
 rw[Int.ediv_lt_iff_lt_mul u,Cb (EN b),l5]
theorem Yjo(c:Int):Ew c=true↔EN c≤9007199254740992:=by
 rw[H2]; unfold EN; split <;> omega
noncomputable def Ym:List D→Option D:=Dd (α:=Int×Int) (fun a=>[.int .i64 a.1,.int .i64 a.2]) (fun a=>True) (fun a=>.tup [.int .i64 (Fo a.1 a.2).1,.int .i64 (Fo a.1 a.2).2])
theorem rf(a:Int)(b:Int):Ym [.int .i64 a,.int .i64 b]=some (.tup [.int .i64 (Fo a b).1,.int .i64 (Fo a b).2]):=
 DG (fun⟨a0,a1⟩ ⟨b0,b1⟩ h=>by simp only[Aa,D.int.injEq,true_and,and_true]at h; simp[h]) (a,b) trivial
theorem Ym8(a:Int)(b:Int):@wW GG (tb [(205,Mh),(207,X7)] []) TC.code (Db [.int .i64 a,.int .i64 b]) [] ⟨De TC.res (.tup [.int .i64 (Fo a b).1,.int .i64 (Fo a b).2])⟩:=by
 unfold TC Fo;have u:=KZ a;have E:=KZ b;cases ha:Ew a <;> cases hb:Ew b <;> rw[ha]at u <;> rw[hb]at E
 ·simp (disch:=first|omega|decide) only[push_cast,↓reduceIte,CG,u,Bd]
 ·simp (disch:=first|omega|decide) only[push_cast,↓reduceIte,CG,u,Bq]
 ·simp (disch:=first|omega|decide) only[push_cast,↓reduceIte,CG,u,E,B4]
 ·have la:=H2.1 ha;have lb:=H2.1 hb;have V:=jm a (by omega);have X:=jm b (by omega)
  by_cases U:a=0
  ·subst U
   have hm:Dj .mul (.int .i64 0) (.int .i64 b)=some (.int .i64 0):=by
    have:=Jh (a:=0) (b:=b) (by omega) (by omega);rwa [Int.zero_mul]at this
   rw[show GY (0*b)=(0,0) by rw[Int.zero_mul]; rfl];simp (disch:=first|omega|decide) only[push_cast,↓reduceIte,CG,u,E,Bd,hm]
  ·have I:=Yl4 (b:=b) U;have N:=Yjo (a*b);have p0:0<EN a:=by unfold EN; split <;> omega
   have p1:EN a≤9007199254740992:=by unfold EN; split <;> omega
   have Y:Dj .quo (.int .i64 9007199254740992) (.int .i64 (EN a))=some (.int .i64 (9007199254740992 / EN a)):=by
    rw[L3 p0 (by omega) (by omega),Bz (by omega)]
   unfold GY;have O:(a=0)=False:=eq_false U
   by_cases J:9007199254740992 / EN a<EN b
   ·have M:¬ Ew (a*b)=true:=by rw[N]; have:=I.1 J; omega
    rw[if_neg M];simp (disch:=first|omega|decide) only[push_cast,↓reduceIte,CG,u,E,V,X,Y,J,O,decide_false,A0,Bd]
   ·have M:Ew (a*b)=true:=by rw[N]; have:=fun q=>J (I.2 q); omega
    have h7:=H2.1 M;have hm:Dj .mul (.int .i64 a) (.int .i64 b)=some (.int .i64 (a*b)):=Jh (by omega) (by omega);rw[if_pos M];simp (disch:=first|omega|decide) only[push_cast,↓reduceIte,CG,u,E,V,X,Y,J,O,decide_false,A0,Bd,hm]
theorem zn:Contract Tryz.prog GG 200 Ym:=
 DH om (Dy (all_cons Po (all_cons yY all_nil)) all_nil) (fun a h=>Ym8 a.1 a.2)
theorem Lu(a:Int)(hb:0<b):a.tdiv b=if 0≤a∨a % b=0 then a / b else a / b+1:=by
 rw[Int.tdiv_eq_ediv,Int.sign_eq_one_of_pos hb]
 by_cases h:0≤a∨a % b=0
 ·rw[if_pos h,if_pos (h.imp id Int.dvd_of_emod_eq_zero)]; omega
 ·rw[if_neg h,if_neg (fun q=>h (q.imp id Int.emod_eq_zero_of_dvd))]
theorem mH(a:Int)(hb:0<b):a.tmod b=if 0≤a∨a % b=0 then a % b else a % b - b:=by
 rw[Int.tmod_eq_emod]
 by_cases h:0≤a∨a % b=0
 ·rw[if_pos h,if_pos (h.imp id Int.dvd_of_emod_eq_zero)]; omega
 ·rw[if_neg h,if_neg (fun q=>h (q.imp id Int.emod_eq_zero_of_dvd))]; omega
theorem UB(a:Int)(hb:0<b)(c:Int):(a+c*b) / b=a / b+c∧(a+c*b) % b=a % b:=
 ⟨Int.add_mul_ediv_right a c (by omega),Int.add_mul_emod_self_right a c b⟩
theorem Yqh(a:Int)(hb:0<b):(if a<a.tdiv b*b then a.tdiv b - 1 else a.tdiv b)=a / b:=by
 have u:=Int.mul_ediv_add_emod a b;have E:=Int.emod_nonneg a (show b≠0 by omega);have I:=B2 a hb;have J:(a / b+1)*b=b*(a / b)+b:=by rw[Int.add_mul,Int.one_mul,Cb]
 have M:a / b*b=b*(a / b):=Cb _ _;rw[Lu a hb]
 split
 ·rw[if_neg (by omega)]
 ·rw[if_pos (by omega)]; omega
theorem mf(a:Int)(hb:0<b):Q8 a b=a / b:=by
 have E:=Int.emod_nonneg a (show b≠0 by omega);have I:=B2 a hb;have u:=UB a hb (-1);rw[show a+-1*b=a - b by omega]at u;unfold Q8;rw[mH a hb]
 by_cases h:0≤a∨a % b=0
 ·rw[if_pos h,if_neg (by omega),Lu a hb,if_pos h]
 ·rw[if_neg h,if_pos (by omega),Lu _ hb,u.1,u.2,if_neg (by omega)]; omega
theorem Yn4(a:Int)(hb:0<b):Vv a b=-(-a / b):=by
 have O:=Int.mul_ediv_add_emod a b;have U:=Int.emod_nonneg a (show b≠0 by omega);have V:=B2 a hb;have u:=UB a hb 1;rw[show a+1*b=a+b by omega]at u
 have J:-a / b=if a % b=0 then -(a / b)else -(a / b) - 1:=by
  have E:=UB (-(a % b)) hb (-(a / b))
  have M:-(a % b)+-(a / b)*b=-a:=by
   rw[Int.neg_mul,Cb (a / b)]; omega
  rw[M]at E;rw[E.1]
  by_cases h:a % b=0
  ·rw[if_pos h,h]; simp
  ·rw[if_neg h]
   have:-(a % b) / b=-1:=by
    have I:=(UB (b - a % b) hb (-1)).1;rw[show b - a % b+-1*b=-(a % b) by omega]at I;rw[I,Int.ediv_eq_zero_of_lt (a:=b - a % b) (b:=b) (by omega) (by omega)];rfl
   omega
 unfold Vv;rw[mH a hb,J]
 by_cases h:a % b=0
 ·rw[if_pos (Or.inr h),if_neg (by omega),Lu a hb,if_pos (Or.inr h),if_pos h]; omega
 ·by_cases N:0≤a
  ·rw[if_pos (Or.inl N),if_pos (by omega),Lu _ hb,u.1,if_pos (Or.inl (by omega)),if_neg h]; omega
  ·rw[if_neg (by omega),if_neg (by omega),Lu a hb,if_neg (by omega)]; omega
noncomputable def Yi:List D→Option D:=Dd (α:=Int×Int) (fun a=>[.int .i64 a.1,.int .i64 a.2]) (fun a=>0<a.2∧a.2≤36028797018963968∧-4611686018427387904≤a.1∧a.1≤4611686018427387904) (fun a=>.int .i64 (a.1 / a.2))
theorem VQ(a:Int)(b:Int)(h:0<b∧b≤36028797018963968∧-4611686018427387904≤a∧a≤4611686018427387904):Yi [.int .i64 a,.int .i64 b]=some (.int .i64 (a / b)):=
 DG (fun⟨a0,a1⟩ ⟨b0,b1⟩ h=>by simp only[Aa,D.int.injEq,true_and,and_true]at h; simp[h]) (a,b) h
theorem Yng(a:Int)(b:Int)(h:0<b∧b≤36028797018963968∧-4611686018427387904≤a∧a≤4611686018427387904):@wW GG (tb [] []) T7.code (Db [.int .i64 a,.int .i64 b]) [] ⟨De T7.res (.int .i64 (a / b))⟩:=by
 obtain⟨u,M,N,O⟩:=h;have hf:=Yqh a u;have E:=L3 (a:=a) u (by omega) (by omega);have U:=YB a u
 have hm:Dj .mul (.int .i64 (a.tdiv b)) (.int .i64 b)=some (.int .i64 (a.tdiv b*b)):=by
  have V:=Int.mul_ediv_add_emod a b;have X:=Int.emod_nonneg a (show b≠0 by omega);have Y:=B2 a u;have e4:(a / b+1)*b=b*(a / b)+b:=by rw[Int.add_mul,Int.one_mul,Cb]
  have e5:a / b*b=b*(a / b):=Cb _ _;have I:=Lu a u;refine Jh ?_ ?_
  ·rw[I]; split <;> omega
  ·rw[I]; split <;> omega
 have hA:EN a≤4611686018427387904:=by unfold EN; split <;> omega
 unfold T7;rw[← hf];generalize a.tdiv b=q at*
 by_cases J:a<q*b
 ·simp (disch:=first|omega|decide) only[push_cast,↓reduceIte,CG,E,hm,J,Ez]
 ·simp (disch:=first|omega|decide) only[push_cast,↓reduceIte,CG,E,hm,J]
theorem zT:Contract Tryz.prog GG 208 Yi:=
 DH oz (Dy all_nil all_nil) (fun a h=>Yng a.1 a.2 h)
noncomputable def Yf:List D→Option D:=Dd (α:=Int×Int×Int) (fun a=>[.int .i64 a.1,.int .i64 a.2.1,.int .i64 a.2.2]) (fun a=>a.2.2=8∨a.2.2=9∨a.2.2=10) (fun a=>.tup [.int .i64 (DT a.1 a.2.1 a.2.2).1,.int .i64 (DT a.1 a.2.1 a.2.2).2])
theorem VP(a:Int)(b:Int)(m:Int)(h:m=8∨m=9∨m=10):Yf [.int .i64 a,.int .i64 b,.int .i64 m]=some (.tup [.int .i64 (DT a b m).1,.int .i64 (DT a b m).2]):=
 DG (fun⟨a0,a1,u⟩ ⟨b0,b1,E⟩ h=>by simp only[Aa,D.int.injEq,true_and,and_true]at h; simp[h]) (a,b,m) h
theorem Yni(a:Int)(b:Int)(m:Int)(h:m=8∨m=9∨m=10):@wW GG (tb [(205,Mh),(208,Yi)] []) TB.code (Db [.int .i64 a,.int .i64 b,.int .i64 m]) [] ⟨De TB.res (.tup [.int .i64 (DT a b m).1,.int .i64 (DT a b m).2])⟩:=by
 unfold TB DT;have E:=KZ a;have I:=KZ b;cases ha:Ew a <;> cases hb:Ew b <;> rw[ha]at E <;> rw[hb]at I
 ·rcases h with rfl | rfl | rfl <;> simp (disch:=first|omega|decide) only[push_cast,↓reduceIte,CG,CO,E,Bd]
 ·rcases h with rfl | rfl | rfl <;> simp (disch:=first|omega|decide) only[push_cast,↓reduceIte,CG,CO,E,Bq]
 ·rcases h with rfl | rfl | rfl <;> simp (disch:=first|omega|decide) only[push_cast,↓reduceIte,CG,CO,E,I,B4]
 ·have M:=H2.1 ha;have N:=H2.1 hb
  by_cases J:b≤0
  ·rcases h with rfl | rfl | rfl <;> simp (disch:=first|omega|decide) only[push_cast,↓reduceIte,CG,CO,E,I,J,Bd]
  ·have u:0<b:=by omega
   rw[mf _ (show 0<2*b by omega),mf a u,Yn4 a u];have f1:=VQ a b ⟨u,by omega,by omega,by omega⟩;have f2:=VQ (-a) b ⟨u,by omega,by omega,by omega⟩;have f3:=VQ (2*a+b) (2*b) ⟨by omega,by omega,by omega,by omega⟩
   have O:-9007199254740992 - 1≤-a / b∧-a / b≤9007199254740992:=by
    have t:=YB (-a) u;have c:=Lu (-a) u;have e:EN (-a)≤9007199254740992:=by unfold EN; split <;> omega
    rw[c]at t
    revert t
    split <;> intro t <;> omega
   generalize -a / b=q at*;rcases h with rfl | rfl | rfl <;> simp (disch:=first|omega|decide) only[push_cast,↓reduceIte,CG,CO,E,I,J,f1,f2,f3,my,Jh,DL,Q7,Kk,Kj,M6,M5,Bd]
theorem zQ:Contract Tryz.prog GG 201 Yf:=
 DH oj (Dy (all_cons Po (all_cons zT all_nil)) all_nil) (fun a h=>Yni a.1 a.2.1 a.2.2 h)
noncomputable def Ya:List D→Option D:=Dd (α:=Int×Int×Int) (fun a=>[.int .i64 a.1,.int .i64 a.2.1,.int .i64 a.2.2]) (fun a=>3≤a.1∧a.1≤11) (fun a=>.tup [.int .i64 (DK a.1 a.2.1 a.2.2).1,.int .i64 (DK a.1 a.2.1 a.2.2).2])
theorem qW(op:Int)(a:Int)(b:Int)(h:3≤op∧op≤11):Ya [.int .i64 op,.int .i64 a,.int .i64 b]=some (.tup [.int .i64 (DK op a b).1,.int .i64 (DK op a b).2]):=
 DG (fun⟨a0,a1,u⟩ ⟨b0,b1,E⟩ h=>by simp only[Aa,D.int.injEq,true_and,and_true]at h; simp[h]) (op,a,b) h
theorem Ynm(op:Int)(a:Int)(b:Int)(h:3≤op∧op≤11):@wW GG (tb [(198,X8),(199,Yt),(200,Ym),(201,Yf)] []) T5.code (Db [.int .i64 op,.int .i64 a,.int .i64 b]) [] ⟨De T5.res (.tup [.int .i64 (DK op a b).1,.int .i64 (DK op a b).2])⟩:=by
 have f1:=qR a b;have f2:=rP a b;have f3:=rf a b;have f4:=VP a b 8 (by decide);have f5:=VP a b 9 (by decide);have f6:=VP a b 10 (by decide);unfold T5 DK;obtain⟨E,I⟩:=h;have:op=3∨op=4∨op=5∨op=6∨op=7∨op=8∨op=9∨op=10∨op=11:=by omega
 rcases this with rfl | rfl | rfl | rfl | rfl | rfl | rfl | rfl | rfl
 case inr.inr.inr.inr.inr.inr.inr.inr=>
  by_cases u:a<b
  ·simp (disch:=first|omega|decide) only[push_cast,↓reduceIte,CG,u,CR,decide_false,decide_true]
  ·simp (disch:=first|omega|decide) only[push_cast,↓reduceIte,CG,u,CR,decide_false]
 all_goals simp (disch:=first|omega|decide) only[push_cast,↓reduceIte,CG,f1,f2,f3,f4,f5,f6,CR,decide_false,decide_true]
theorem y6:Contract Tryz.prog GG 186 Ya:=
 DH oP (Dy (all_cons yZ (all_cons zw (all_cons zn (all_cons zQ all_nil)))) all_nil) (fun a h=>Ynm a.1 a.2.1 a.2.2 h)
noncomputable def U9:List D→Option D:=Dd (α:=Int) (fun a=>[.int .i64 a]) (fun a=>True) (fun a=>.int .i64 (EZ a))
theorem jr(op:Int):U9 [.int .i64 op]=some (.int .i64 (EZ op)):=
 DG (fun a b h=>by simp only[Aa,D.int.injEq,true_and,and_true]at h; simp[h]) (op) trivial
theorem Ym7(op:Int):@wW GG (tb [] []) T9.code (Db [.int .i64 op]) [] ⟨De T9.res (.int .i64 (EZ op))⟩:=by
 unfold T9 EZ
 by_cases u:3≤op∧op≤11
 ·rw[if_neg (by omega),if_pos u];simp (disch:=first|omega|decide) only[push_cast,↓reduceIte,CG,u.1,u.2]
 ·rw[if_neg u]
  by_cases E:op=12∨op=13∨op=15
  ·rw[if_pos E];rcases E with rfl | rfl | rfl <;> simp (disch:=first|omega|decide) only[push_cast,↓reduceIte,CG,C3,CR,decide_false,decide_true]
  ·rw[if_neg E];have I:(op=12)=False:=eq_false (by omega);have J:(op=13)=False:=eq_false (by omega);have M:(op=15)=False:=eq_false (by omega)
   by_cases N:3≤op
   ·have O:¬ op≤11:=by omega
    simp (disch:=first|omega|decide) only[push_cast,↓reduceIte,CG,N,O,I,J,M,decide_false]
   ·simp (disch:=first|omega|decide) only[push_cast,↓reduceIte,CG,N,I,J,M,decide_false]
theorem mc:Contract Tryz.prog GG 112 U9:=
 DH oB (Dy all_nil all_nil) (fun a h=>Ym7 a)
noncomputable def Yn:List D→Option D:=Dd (α:=Int×Int) (fun a=>[.int .i64 a.1,.int .i64 a.2]) (fun a=>True) (fun a=>.bool (decide (0≤a.1∧a.1≤a.2)))
theorem VS(n:Int)(m:Int):Yn [.int .i64 n,.int .i64 m]=some (.bool (decide (0≤n∧n≤m))):=
 DG (fun⟨a0,a1⟩ ⟨b0,b1⟩ h=>by simp only[Aa,D.int.injEq,true_and,and_true]at h; simp[h]) (n,m) trivial
theorem Ym6(n:Int)(m:Int):@wW GG (tb [] []) T1.code (Db [.int .i64 n,.int .i64 m]) [] ⟨De T1.res (.bool (decide (0≤n∧n≤m)))⟩:=by
 unfold T1
 by_cases h:0≤n
 ·by_cases u:n≤m
  ·rw[decide_eq_true (show 0≤n∧n≤m from⟨h,u⟩)];simp (disch:=first|omega|decide) only[push_cast,↓reduceIte,CG,h,u]
  ·rw[decide_eq_false (show ¬ (0≤n∧n≤m)from fun q=>u q.2)];simp (disch:=first|omega|decide) only[push_cast,↓reduceIte,CG,h,u]
 ·rw[decide_eq_false (show ¬ (0≤n∧n≤m)from fun q=>h q.1)];simp (disch:=first|omega|decide) only[push_cast,↓reduceIte,CG,h]
theorem zo:Contract Tryz.prog GG 152 Yn:=
 DH oL (Dy all_nil all_nil) (fun a h=>Ym6 a.1 a.2)
theorem Ydg(h:x.op=1∨x.op=13∨x.op=14∨x.op=15):EB x=(decide (0≤x.n∧x.n≤9007199254740992) && decide (x.m=0)):=by
 have ha:GU x.op=(1,9007199254740992):=if_pos (by omega);unfold EB;rw[ha,← Bool.decide_and,decide_eq_decide];simp only;omega
theorem Ydf(h:x.op=2):EB x=(decide (0≤x.n∧x.n≤15) && decide (x.m=0)):=by
 have ha:GU x.op=(1,15):=by rw[h]; rfl
 unfold EB;rw[ha,← Bool.decide_and,decide_eq_decide];simp only;omega
theorem r7(h:x.op=12):EB x=(decide (0≤x.n∧x.n≤9007199254740992) && decide (0≤x.m∧x.m≤9007199254740992)):=by
 have ha:GU x.op=(2,9007199254740992):=by rw[h]; rfl
 unfold EB;rw[ha,← Bool.decide_and,decide_eq_decide];simp only;omega
theorem Yde(h:¬ (x.op=1∨x.op=13∨x.op=14∨x.op=15))(E:¬ x.op=2)(u:¬ x.op=12):EB x=decide (3≤x.op∧x.op≤16∧x.n=0∧x.m=0):=by
 have ha:GU x.op=(0,0):=by unfold GU; rw[if_neg (by omega),if_neg E,if_neg u]
 unfold EB;rw[ha,decide_eq_decide];simp only;omega
noncomputable def Yj:List D→Option D:=Dd (α:=Ins) (fun a=>[C5 a]) (fun a=>True) (fun a=>.bool (EB a))
theorem q8(x:Ins):Yj [C5 x]=some (.bool (EB x)):=
 DG (fun a b h=>by simp only[Aa,and_true,K0]at h; simp[h]) (x) trivial
theorem Yne(x:Ins):@wW GG (tb [(152,Yn)] []) TY.code (Db [C5 x]) [] ⟨De TY.res (.bool (EB x))⟩:=by
 unfold TY;have c1:=VS x.n 9007199254740992;have c2:=VS x.n 15;have c3:=VS x.m 9007199254740992
 by_cases O:x.op=1∨x.op=13∨x.op=14∨x.op=15
 ·rw[Ydg O];cases U:decide (0≤x.n∧x.n≤9007199254740992) <;> rw[U]at c1
  ·rcases O with h | h | h | h <;> simp (disch:=first|omega|decide) only[push_cast,↓reduceIte,CG,DX,Eg,FH,h,CR,decide_false,decide_true,c1,Bq]
  ·by_cases hm:x.m=0
   ·rcases O with h | h | h | h <;> simp (disch:=first|omega|decide) only[push_cast,↓reduceIte,CG,DX,Eg,FH,JL,h,CR,decide_false,decide_true,c1,A1,hm]
   ·have V:=eq_false hm;rcases O with h | h | h | h <;> simp (disch:=first|omega|decide) only[push_cast,↓reduceIte,CG,DX,Eg,FH,JL,h,CR,decide_false,decide_true,c1,A1,V]
 ·have X:(x.op=1)=False:=eq_false (by omega);have u:(x.op=13)=False:=eq_false (by omega);have E:(x.op=14)=False:=eq_false (by omega);have I:(x.op=15)=False:=eq_false (by omega)
  by_cases N:x.op=2
  ·rw[Ydf N];cases U:decide (0≤x.n∧x.n≤15) <;> rw[U]at c2
   ·simp (disch:=first|omega|decide) only[push_cast,↓reduceIte,CG,DX,Eg,FH,N,CR,decide_false,decide_true,c2,Bq]
   ·by_cases hm:x.m=0
    ·simp (disch:=first|omega|decide) only[push_cast,↓reduceIte,CG,DX,Eg,FH,JL,N,CR,decide_false,decide_true,c2,A1,hm]
    ·have V:=eq_false hm;simp (disch:=first|omega|decide) only[push_cast,↓reduceIte,CG,DX,Eg,FH,JL,N,CR,decide_false,decide_true,c2,A1,V]
  ·by_cases J:x.op=12
   ·rw[r7 J];cases U:decide (0≤x.n∧x.n≤9007199254740992) <;> rw[U]at c1
    ·simp (disch:=first|omega|decide) only[push_cast,↓reduceIte,CG,DX,Eg,FH,J,CR,decide_false,decide_true,c1,Bq]
    ·cases hm:decide (0≤x.m∧x.m≤9007199254740992) <;> rw[hm]at c3 <;> simp (disch:=first|omega|decide) only[push_cast,↓reduceIte,CG,DX,Eg,FH,JL,J,CR,decide_false,decide_true,c1,c3,A1]
   ·rw[Yde O N J];have Y:=eq_false N;have M:=eq_false J
    by_cases g1:3≤x.op
    ·by_cases g2:x.op≤16
     ·by_cases g3:x.n=0
      ·by_cases g4:x.m=0
       ·rw[decide_eq_true (show 3≤x.op∧x.op≤16∧x.n=0∧x.m=0 from⟨g1,g2,g3,g4⟩)];simp (disch:=first|omega|decide) only[push_cast,↓reduceIte,CG,DX,Eg,FH,JL,X,Y,M,u,E,I,decide_false,decide_true,g1,g2,g3,g4]
       ·rw[decide_eq_false (show ¬ (3≤x.op∧x.op≤16∧x.n=0∧x.m=0)from fun q=>g4 q.2.2.2)];have ae:=eq_false g4;simp (disch:=first|omega|decide) only[push_cast,↓reduceIte,CG,DX,Eg,FH,JL,X,Y,M,u,E,I,decide_false,decide_true,g1,g2,g3,ae]
      ·rw[decide_eq_false (show ¬ (3≤x.op∧x.op≤16∧x.n=0∧x.m=0)from fun q=>g3 q.2.2.1)];have af:=eq_false g3;simp (disch:=first|omega|decide) only[push_cast,↓reduceIte,CG,DX,Eg,FH,X,Y,M,u,E,I,decide_false,decide_true,g1,g2,af]
     ·rw[decide_eq_false (show ¬ (3≤x.op∧x.op≤16∧x.n=0∧x.m=0)from fun q=>g2 q.2.1)];simp (disch:=first|omega|decide) only[push_cast,↓reduceIte,CG,DX,Eg,X,Y,M,u,E,I,decide_false,decide_true,g1,g2]
    ·rw[decide_eq_false (show ¬ (3≤x.op∧x.op≤16∧x.n=0∧x.m=0)from fun q=>g1 q.1)];simp (disch:=first|omega|decide) only[push_cast,↓reduceIte,CG,DX,Eg,X,Y,M,u,E,I,decide_false,g1]
theorem zV:Contract Tryz.prog GG 103 Yj:=
 DH oI (Dy (all_cons zo all_nil) all_nil) (fun a h=>Yne a)
noncomputable def Yo:List D→Option D:=Dd (α:=Int) (fun a=>[.int .i64 a]) (fun a=>True) (fun a=>.tup [.int .i64 (DM a).1,.int .i64 (DM a).2])
theorem rh(op:Int):Yo [.int .i64 op]=some (.tup [.int .i64 (DM op).1,.int .i64 (DM op).2]):=
 DG (fun a b h=>by simp only[Aa,D.int.injEq,true_and,and_true]at h; simp[h]) (op) trivial
theorem Ym4(op:Int):@wW GG (tb [] []) TI.code (Db [.int .i64 op]) [] ⟨De TI.res (.tup [.int .i64 (DM op).1,.int .i64 (DM op).2])⟩:=by
 unfold TI DM
 by_cases E:op=1∨op=2
 ·rw[if_pos E];rcases E with rfl | rfl <;> simp (disch:=first|omega|decide) only[push_cast,↓reduceIte,CG,CR,decide_false,decide_true]
 ·rw[if_neg E];have X:(op=1)=False:=eq_false (by omega);have Y:(op=2)=False:=eq_false (by omega)
  by_cases u:op=12
  ·rw[if_pos u]; subst u;simp (disch:=first|omega|decide) only[push_cast,↓reduceIte,CG,CR,decide_false,decide_true]
  ·rw[if_neg u];have M:=eq_false u
   by_cases I:op=13∨op=15
   ·rw[if_pos I];rcases I with rfl | rfl <;> simp (disch:=first|omega|decide) only[push_cast,↓reduceIte,CG,CR,decide_false,decide_true]
   ·rw[if_neg I];have N:(op=13)=False:=eq_false (by omega);have O:(op=15)=False:=eq_false (by omega)
    by_cases J:op=14∨op=16
    ·rw[if_pos J];rcases J with rfl | rfl <;> simp (disch:=first|omega|decide) only[push_cast,↓reduceIte,CG,CR,decide_false,decide_true]
    ·rw[if_neg J];have U:(op=14)=False:=eq_false (by omega);have V:(op=16)=False:=eq_false (by omega);simp (disch:=first|omega|decide) only[push_cast,↓reduceIte,CG,X,Y,M,N,U,O,V,decide_false]
theorem zp:Contract Tryz.prog GG 104 Yo:=
 DH n7 (Dy all_nil all_nil) (fun a h=>Ym4 a)
def Hn(x:Ins)(i:Int):List Int:=if x.op=15∨x.op=16 then []else if x.op=14 then [x.n]else if x.op=13 then [i+1,x.n]else [i+1]
theorem j1(len i after x y:Int)(dep:List Int):G5 len i after [x,y] dep=if HD len i after x dep then none else if HD len i after y (dep.set x.toNat after)then none else some ((dep.set x.toNat after).set y.toNat after):=(rfl)
variable {dep:List Int}{after len:Int}
theorem bG{i x y:Int}(h:x.toNat≠y.toNat):HD len i after y (dep.set x.toNat after)↔HD len i after y dep:=by
 have e:DP (dep.set x.toNat after) y.toNat=DP dep y.toNat:=by
  unfold DP;rw[Aj,Ay h,← Aj]
 unfold HD;rw[e]
theorem vv{i:Int}(hi:0≤i):G5 len i after [a,b] dep=G5 len i after [b,a] dep:=by
 by_cases e:a=b
 ·rw[e]
 rw[j1,j1]
 by_cases E:a≤i
 ·rw[if_pos (show HD len i after a dep from .inl E),if_pos (show HD len i after a (dep.set b.toNat after)from .inl E)]
  split <;> rfl
 ·by_cases I:b≤i
  ·rw[if_pos (show HD len i after b dep from .inl I),if_pos (show HD len i after b (dep.set a.toNat after)from .inl I)]
   split <;> rfl
  ·have u:a.toNat≠b.toNat:=by omega
   have J:=bG (len:=len) (i:=i) (after:=after) (dep:=dep) u;have M:=bG (len:=len) (i:=i) (after:=after) (dep:=dep) u.symm;rw[List.set_comm _ _ u]
   by_cases p:HD len i after a dep
   ·rw[if_pos p,if_pos (M.2 p)]; split <;> rfl
   ·rw[if_neg p,if_neg (fun q=>p (M.1 q))]
    by_cases q:HD len i after b dep
    ·rw[if_pos (J.2 q),if_pos q]
    ·rw[if_neg (fun r=>q (J.1 r)),if_neg q]
theorem rU(x:Ins){i:Int}(hi:0≤i):G5 len i after (Hn x i) dep=G5 len i after (HT x i) dep:=by
 unfold Hn HT
 by_cases I:x.op=15∨x.op=16
 ·rw[if_pos I,if_neg (by omega),if_neg (by omega)]; rfl
 ·rw[if_neg I]
  by_cases u:x.op=14
  ·rw[if_pos u,if_pos (.inr u),if_neg (by omega)]; rfl
  ·rw[if_neg u]
   by_cases E:x.op=13
   ·rw[if_pos E,if_pos (.inl E),if_pos (by omega)];exact vv hi
   ·rw[if_neg E,if_neg (by omega),if_pos (by omega)]; rfl
theorem Ykl(x:Ins)(i:Int):(Hn x i).length≤2:=by
 unfold Hn
 split
 ·simp
 ·split
  ·simp
  ·split <;> simp
noncomputable def U6:List D→Option D:=Dd (α:=List Ins×Nat) (fun a=>[.slc (nz 3 (a.1.map C5)) (a.1.map C5) false,.int .i64 (a.2:Int)]) (fun a=>a.2<a.1.length∧a.1.length≤4096) (fun a=>Ed (Hn (a.1.getD a.2 default) a.2))
theorem q7(c:List Ins)(i:Nat)(h:i<c.length∧c.length≤4096):U6 [.slc (nz 3 (c.map C5)) (c.map C5) false,.int .i64 (i:Int)]=some (Ed (Hn (c.getD i default) i)):=
 DG (fun⟨a0,a1⟩ ⟨b0,b1⟩ h=>by simp only[Aa,D.slc.injEq,D.int.injEq,true_and,and_true,Cy,GA]at h; simp[h]) (c,i) h
theorem Ynf(c:List Ins)(i:Nat)(h:i<c.length∧c.length≤4096):@wW GG (tb [] []) T0.code (Db [.slc (nz 3 (c.map C5)) (c.map C5) false,.int .i64 (i:Int)]) [] ⟨De T0.res (Ed (Hn (c.getD i default) i))⟩:=by
 obtain⟨hi,X⟩:=h;have u:=fun st=>J5 st c false i hi;unfold T0 Hn Ed;obtain⟨x,M⟩:∃ x,c.getD i default=x:=⟨_,rfl⟩;rw[M]at u ⊢
 by_cases J:x.op=15∨x.op=16
 ·rw[if_pos J];rcases J with h | h <;> simp (disch:=first|omega|decide) only[push_cast,↓reduceIte,CG,u,Jo,Jq,h,CR,decide_false,decide_true]
 ·rw[if_neg J];have N:(x.op=15)=False:=eq_false (by omega);have O:(x.op=16)=False:=eq_false (by omega)
  by_cases E:x.op=14
  ·rw[if_pos E];simp (disch:=first|omega|decide) only[push_cast,↓reduceIte,CG,u,Jo,Jq,XL,XZ,E,CR,decide_false,decide_true,Ev];rfl
  ·rw[if_neg E];have U:=eq_false E
   by_cases I:x.op=13
   ·rw[if_pos I];simp (disch:=first|omega|decide) only[push_cast,↓reduceIte,CG,u,Jo,Jq,XL,XZ,I,CR,decide_false,decide_true,FQ,DL];rfl
   ·rw[if_neg I];have V:=eq_false I;simp (disch:=first|omega|decide) only[push_cast,↓reduceIte,CG,u,Jo,Jq,V,U,N,O,decide_false,Ev,DL];rfl
theorem zU:Contract Tryz.prog GG 105 U6:=
 DH oK (Dy all_nil all_nil) (fun a h=>Ynf a.1 a.2 h)
theorem Yo5(k k':IntKind)(n:Int)(u:0≤n)(N:n≤4294967296):Ni 1 8 (.int .i64 0) (.int k n) (.int k' n)=some (n.toNat,⟨true,1,(CM n.toNat (0:Int)).map nI,false⟩):=by
 have E:n.toNat≤4294967296:=by omega
 have I:n.toNat*8≤140737488355328:=by omega
 have J:(D.int .i64 0).cells.length=1:=rfl;have M:(D.int .i64 0).cells.all D.pure1=true:=rfl;simp[Ni,K2 k n u,K2 k' n u,E,I,J,M,nI]
def GL(n i:Nat):List Int:=CM i (-1)++CM (n - i) 0
theorem fQ(h:i≤n):(GL n i).length=n:=by simp[GL]; omega
theorem Yq4(h:i<n):(GL n i).set i (-1)=GL n (i+1):=by
 unfold GL;rw[BO _ _ (by simp),BB,BA,show n - i=(n - (i+1))+1 by omega,BI,Bh,Cg,Ar];rfl
theorem Yq6(n:Nat):GL n 0=CM n 0:=by simp[GL]
theorem Yq5(n:Nat):GL n n=CM n (-1):=by simp[GL]
noncomputable def Vf:List D→Option D:=Dd (α:=List Ins) (fun a=>[.slc (nz 3 (a.map C5)) (a.map C5) false]) (fun a=>a.length≤9223372036854775807) (fun a=>.tup [.int .i64 (Ei a).1,.int .i64 (Ei a).2])
theorem iQ(c:List Ins)(h:c.length≤9223372036854775807):Vf [.slc (nz 3 (c.map C5)) (c.map C5) false]=some (.tup [.int .i64 (Ei c).1,.int .i64 (Ei c).2]):=
 DG (fun a b h=>by simp only[Aa,D.slc.injEq,and_true,GA]at h; simp[h]) (c) h
theorem Ymu(c:List Ins)(h:c.length≤9223372036854775807):@wW GG (tb [(103,Yj),(104,Yo),(105,U6)] []) TZ.code (Db [.slc (nz 3 (c.map C5)) (c.map C5) false]) [] ⟨De TZ.res (.tup [.int .i64 (Ei c).1,.int .i64 (Ei c).2])⟩:=by
 unfold TZ
 by_cases h1:4096<c.length
 ·rw[show Ei c=(0,2)from if_pos h1];simp (disch:=first|omega|decide) only[push_cast,↓reduceIte,CG,show((4096:Int)<(c.length:Int)) by omega]
 by_cases h2:c.length=0
 ·rw[show Ei c=(0,200) by unfold Ei; rw[if_neg h1,if_pos (.inl h2)]];simp (disch:=first|omega|decide) only[push_cast,↓reduceIte,CG,CO,show ¬ ((4096:Int)<(c.length:Int)) by omega,show((c.length:Int)=0) by omega]
 have h3:¬ ((4096:Int)<(c.length:Int)):=by omega
 have h4:¬ ((c.length:Int)=0):=by omega
 have a4:=Yo5 .i64 .i64 (c.length:Int) (by omega) (by omega);rw[AM]at a4;simp (disch:=first|omega|decide) only[push_cast,↓reduceIte,CG,h3,eq_false h4,decide_false,a4];refine EP (fun i:Nat=>[(0,.slc (nz 3 (c.map C5)) (c.map C5) false),(4,.row 0 c.length 0 c.length),(5,.int .i64 (i:Int))]) (fun i=>[⟨true,1,(GL c.length i).map nI,false⟩]) (fun i=>i≤c.length∧c.all EB=(c.drop i).all EB) (fun i=>c.length - i) 0 (by rw[Yq6]; simp only[push_cast,↓reduceIte,CG,CL,CJ,↓CI] <;> rfl) ⟨Ba _,by rw[Bp]⟩ ?_;rintro i ⟨hi,O⟩;unfold dL;simp (disch:=first|omega|decide) only[push_cast,↓reduceIte,CG,CN];refine Fg (fun g1=>?_) (fun g1=>?_)
 ·have u:i<c.length:=by omega
  have V:=fun st=>J5 st c false i u;have Y:=MB c u;obtain⟨x,a5⟩:∃ x,c.getD i default=x:=⟨_,rfl⟩;rw[a5]at V Y;rw[Y,AU]at O;have hf:=q8 x;have aa:=Ln (GL c.length i) false 0 c.length (i:Int) (fQ hi) (by omega) (by omega);have hs0:=OO (GL c.length i) c.length i (-1) (fQ hi) u;rw[AM]at aa;rw[Yq4 u]at hs0
  cases hb:EB x with
  |false=>
   rw[hb]at hf O;rw[Bq]at O;rw[show Ei c=(0,200) by unfold Ei; rw[if_neg h1,if_pos (.inr O)]];simp (disch:=first|omega|decide) only[push_cast,↓reduceIte,CG,CN,V,He,Lv,hf]
  |true=>
   rw[hb]at hf O;rw[A1]at O;simp (disch:=first|omega|decide) only[push_cast,↓reduceIte,CG,CL,CJ,CN,V,He,Lv,hf,aa,Mt,hs0,DL];refine El (i+1) ⟨by show i+1≤c.length; omega,O⟩ (by show c.length - (i+1)<c.length - i; omega) ?_;simp only[push_cast] <;> rfl
 obtain rfl:i=c.length:=by omega
 rw[Bm,CF]at O;rw[show Ei c=Ia (ER c.length c 0 (E5 c.length) 0) by unfold Ei; rw[if_neg h1,if_neg (by rw[O]; simp[h2])],Yq5];have aa:KF (some ⟨true,1,(CM c.length (-1)).map nI,false⟩) 1 0 c.length 0 c.length 0=some (.rptr 0 c.length 0 0):=Ln _ false 0 c.length 0 (by simp) (by omega) (by omega);have hs0:Jx (some ⟨true,1,(CM c.length (-1)).map nI,false⟩) c.length 0 0=some ⟨true,1,(E5 c.length).map nI,false⟩:=OO _ c.length 0 0 (by simp) (by omega);simp (disch:=first|omega|decide) only[push_cast,↓reduceIte,CG,CN,aa,Mt,hs0];clear O aa hs0 g1 a4
 refine EP (fun p:Nat×List Int×Int=>[(0,.slc (nz 3 (c.map C5)) (c.map C5) false),(4,.row 0 c.length 0 c.length),(6,.int .i64 p.2.2),(7,.int .i64 (p.1:Int))])
  (fun p=>[⟨true,1,p.2.1.map nI,false⟩]) (fun p=>p.1≤c.length∧Kn c.length p.1 p.2.1∧Ia (ER c.length (c.drop p.1) p.1 p.2.1 p.2.2)=Ia (ER c.length c 0 (E5 c.length) 0)) (fun p=>c.length - p.1) (0,E5 c.length,0)
  (by simp only[push_cast,↓reduceIte,CG,CL,CJ] <;> rfl) ⟨Ba _,?_,rfl⟩ ?_
 ·refine⟨by simp[E5],fun y hy=>?_⟩;rcases BD hy with hy | rfl
  ·have:=(List.mem_replicate.1 hy).2;subst this; dsimp only; omega
  ·dsimp only; omega
 rintro⟨i,dep,s⟩ ⟨hi,J,hv⟩;dsimp only at hi J hv;unfold dN;simp (disch:=first|omega|decide) only[push_cast,↓reduceIte,CG];refine Fg (fun h5=>?_) (fun h5=>?_)
 ·have u:i<c.length:=by omega
  have b8:c.length≤4096:=by omega
  have a0:Kn c.length ((i:Int)+1) dep:=⟨J.1,fun y hy=>⟨(J.2 y hy).1,by have:=(J.2 y hy).2; omega⟩⟩;have V:=fun st=>J5 st c false i u;have Y:=MB c u;have af:U6 [.slc (nz 3 (c.map C5)) (c.map C5) false,.int .i64 (i:Int)]=_:=q7 c i ⟨u,b8⟩;obtain⟨x,a5⟩:∃ x,c.getD i default=x:=⟨_,rfl⟩;rw[a5]at V Y af;rw[Y,ER]at hv;have ab:KF (some ⟨true,1,dep.map nI,false⟩) 1 0 c.length 0 c.length (i:Int)=some (.rptr 0 c.length i 0):=Ln dep false 0 c.length i a0.1 (by omega) (by omega);have ac:=PG dep false c.length i a0.1 u;have c2:=J.2 _ (Xg (x:=dep) (i:=i) (by rw[J.1]; omega));have he:=rh x.op;have c3:=kS x.op;have b9:DP dep i - (DM x.op).1+(DM x.op).2=EA x (DP dep i):=rfl
  by_cases h0:DP dep i<0
  ·rw[if_pos h0]at hv;simp (disch:=first|omega|decide) only[push_cast,↓reduceIte,CG,CL,CJ,ab,ac,h0,DL];refine El (i+1,dep,s) ⟨by dsimp only; omega,a0,hv⟩ (by dsimp only; omega) ?_;simp only[push_cast] <;> rfl
  rw[if_neg h0]at hv;generalize DP dep i=d at*
  by_cases X:d<(DM x.op).1
  ·rw[if_pos (.inl X)]at hv;simp (disch:=first|omega|decide) only[push_cast,↓reduceIte,CG,V,Jo,Jq,ab,ac,h0,he,X];rw[← hv];rfl
  have M:=eq_false X
  by_cases a1:x.op=15∧d≠1
  ·rw[if_pos (.inr (.inl a1))]at hv;simp (disch:=first|omega|decide) only[push_cast,↓reduceIte,CG,V,Jo,Jq,ab,ac,h0,he,M,eq_true a1.1,eq_false a1.2,decide_false,decide_true];rw[← hv];rfl
  by_cases a2:x.op=16∧d≠0
  ·rw[if_pos (.inr (.inr a2))]at hv;have ad:(x.op=15)=False:=eq_false (by omega);simp (disch:=first|omega|decide) only[push_cast,↓reduceIte,CG,V,Jo,Jq,ab,ac,h0,he,M,ad,eq_true a2.1,eq_false a2.2,decide_false,decide_true];rw[← hv];rfl
  rw[if_neg (by unfold HZ; omega)]at hv;have ca:G5 c.length i (EA x d) (Hn x i) dep=G5 c.length i (EA x d) (HT x i) dep:=rU x (by omega);rw[← ca]at hv;have c4:=Ykl x i;have bf:-1≤EA x d:=by omega
  have bg:EA x d≤(i:Int)+1:=by omega
  generalize Hn x i=E at*
  have hg:((x.op=15)=True∧(x.op=16)=False∧(d=1)=True)∨((x.op=15)=False∧(x.op=16)=True∧(d=0)=True)∨((x.op=15)=False∧(x.op=16)=False∧(x.op=15)=False):=by
   by_cases p:x.op=15
   ·exact .inl ⟨eq_true p,eq_false (by omega),eq_true (Decidable.not_not.1 fun q=>a1 ⟨p,q⟩)⟩
   ·by_cases q:x.op=16
    ·exact .inr (.inl ⟨eq_false p,eq_true q,eq_true (Decidable.not_not.1 fun r=>a2 ⟨q,r⟩)⟩)
    ·exact .inr (.inr ⟨eq_false p,eq_false q,eq_false p⟩)
  unfold Ed at af;have a6:∀ st,FC st false (.slc (nz 1 (E.map nI)) (E.map nI) false)=some (.int .i64 (E.length:Int)):=fun st=>by simp[FC,I0,Fa]
  rcases hg with⟨ad,a7,ed⟩ | ⟨ad,a7,ed⟩ | ⟨ad,a7,ed⟩
  all_goals
   simp (disch:=first|omega|decide) only[push_cast,↓reduceIte,CG,V,Jo,Jq,ab,ac,h0,he,M,ad,a7,ed,decide_false,decide_true,Ez,DL,b9,af]
   refine EP (fun p:Nat×List Int=>[(0,.slc (nz 3 (c.map C5)) (c.map C5) false),(4,.row 0 c.length 0 c.length),(6,.int .i64 (max (max s d) (EA x d))),(7,.int .i64 (i:Int)),(11,.int .i64 (EA x d)),(12,.slc (nz 1 (E.map nI)) (E.map nI) false),(13,.int .i64 (p.1:Int))])
    (fun p=>[⟨true,1,p.2.map nI,false⟩]) (fun p=>p.1≤E.length∧Kn c.length ((i:Int)+1) p.2∧G5 c.length i (EA x d) (E.drop p.1) p.2=G5 c.length i (EA x d) E dep) (fun p=>E.length - p.1) (0,dep) (by simp only[push_cast,↓reduceIte,CG,CL,CJ] <;> rfl) ⟨Ba _,a0,rfl⟩ ?_
   rintro⟨j,dp⟩ ⟨hj,N,I⟩;dsimp only at hj N I;unfold dM;simp (disch:=first|omega|decide) only[push_cast,↓reduceIte,CG,a6];refine Fg (fun h7=>?_) (fun h7=>?_)
   ·have bh:j<E.length:=by omega
    have a8:=MB E bh;have U:=fun st=>Nm st E false j bh;obtain⟨n,cb⟩:∃ n,E.getD j default=n:=⟨_,rfl⟩;rw[cb]at a8 U;rw[a8,G5]at I
    by_cases b1:n≤(i:Int)
    ·rw[if_pos (.inl b1)]at I;rw[← I]at hv;simp (disch:=first|omega|decide) only[push_cast,↓reduceIte,CG,U,IG,b1];rw[← hv]; rfl
    ·by_cases b2:(c.length:Int)≤n
     ·rw[if_pos (.inr (.inl b2))]at I;rw[← I]at hv;simp (disch:=first|omega|decide) only[push_cast,↓reduceIte,CG,U,IG,b1,b2];rw[← hv]; rfl
     ·have ba:=Ln dp false 0 c.length n N.1 (by omega) (by omega);have bb:=PG dp false c.length n.toNat N.1 (by omega);have hs:=OO dp c.length n.toNat (EA x d) N.1 (by omega)
      by_cases b3:0≤DP dp n.toNat
      ·by_cases b4:DP dp n.toNat=EA x d
       ·have cd:=eq_true b4;rw[if_neg (by unfold HD; omega)]at I;simp (disch:=first|omega|decide) only[push_cast,↓reduceIte,CG,CL,CJ,U,IG,b1,b2,ba,bb,b3,cd,decide_true,Mt,hs,DL];refine El (j+1,dp.set n.toNat (EA x d)) ⟨by dsimp only; omega,Sc N _ bf bg,I⟩ (by dsimp only; omega) ?_;simp only[push_cast] <;> rfl
       ·rw[if_pos (.inr (.inr ⟨b3,b4⟩))]at I;rw[← I]at hv;simp (disch:=first|omega|decide) only[push_cast,↓reduceIte,CG,U,IG,b1,b2,ba,bb,b3,eq_false b4,decide_false];rw[← hv]; rfl
      ·rw[if_neg (by unfold HD; omega)]at I;simp (disch:=first|omega|decide) only[push_cast,↓reduceIte,CG,CL,CJ,U,IG,b1,b2,ba,bb,b3,Mt,hs,DL];refine El (j+1,dp.set n.toNat (EA x d)) ⟨by dsimp only; omega,Sc N _ bf bg,I⟩ (by dsimp only; omega) ?_;simp only[push_cast] <;> rfl
   ·obtain rfl:j=E.length:=by omega
    rw[Bm,G5]at I;rw[← I]at hv;simp (disch:=first|omega|decide) only[push_cast,↓reduceIte,CG,CL,CJ,DL];refine El (i+1,dp,max (max s d) (EA x d)) ⟨by dsimp only; omega,N,hv⟩ (by dsimp only; omega) ?_;simp only[push_cast] <;> rfl
 ·obtain rfl:i=c.length:=by omega
  rw[Bm,ER]at hv;rw[show Ia (some s)=if 64<s then(0,2)else(s,0)from rfl]at hv
  by_cases h6:64<s
  ·rw[if_pos h6]at hv;simp (disch:=first|omega|decide) only[push_cast,↓reduceIte,CG,h6];rw[← hv]
  ·rw[if_neg h6]at hv;simp (disch:=first|omega|decide) only[push_cast,↓reduceIte,CG,h6];rw[← hv]
theorem mN:Contract Tryz.prog GG 52 Vf:=
 DH oJ (Dy (all_cons zV (all_cons zp (all_cons zU all_nil))) all_nil) (fun a h=>Ymu a h)
theorem fE(a:Int):(CP 64 a).toNat=Du a:=by
 unfold Du;rw[BitVec.toNat_ofInt];rfl
theorem Ymc(h:k<18446744073709551616):IntKind.wrap .i64 (k:Int)=0↔k=0:=by
 have e:IntKind.wrap .i64 (k:Int)=if(true && decide ((k:Int) % (2 ^ 64:Int) ≥ (2 ^ (64 - 1):Int)))=true then(k:Int) % (2 ^ 64:Int) - (2 ^ 64:Int)else(k:Int) % (2 ^ 64:Int):=(rfl)
 rw[e]
 split
 ·rename_i u;simp at u;omega
 ·omega
theorem l7(a b:Int):Hr a b=0↔CP 64 a &&& CP 64 b=0#64:=by
 unfold Hr;rw[Ymc (BitVec.isLt _)];constructor
 ·intro h;exact BitVec.eq_of_toNat_eq (by rw[h]; rfl)
 ·intro h;rw[h]; rfl
theorem ee(x:BitVec 64)(n:Nat)(h:n<64):x &&& BitVec.twoPow 64 n=0#64↔x.toNat / 2 ^ n % 2=0:=by
 have hb:x.getLsbD n=decide (x.toNat / 2 ^ n % 2=1):=by
  rw[BitVec.getLsbD,Nat.testBit_eq_decide_div_mod_eq]
 rw[BitVec.and_twoPow,hb]
 by_cases u:x.toNat / 2 ^ n % 2=1
 ·rw[decide_eq_true u,if_pos rfl];constructor
  ·intro E;have:=congrArg BitVec.toNat E;rw[BitVec.toNat_twoPow]at this;have I:2 ^ n<2 ^ 64:=Nat.pow_lt_pow_right (by decide) h;rw[AW I]at this;have:=Cn n;simp at*
  ·intro E; omega
 ·rw[decide_eq_false u];constructor
  ·intro _; omega
  ·intro _; rfl
theorem mJ(n:Nat)(h:n≤15):CP 64 ((2:Int) ^ n)=BitVec.twoPow 64 n:=by
 rcases(by omega:n=0∨n=1∨n=2∨n=3∨n=4∨n=5∨n=6∨n=7∨n=8∨n=9∨n=10∨n=11∨n=12∨n=13∨n=14∨n=15)with rfl | rfl | rfl | rfl | rfl | rfl | rfl | rfl | rfl | rfl | rfl | rfl | rfl | rfl | rfl | rfl <;> decide
theorem Yke(a:Int){n:Int}(u:0≤n)(E:n<16):Hr (a / 2 ^ n.toNat) 1=0↔Hr a (HQ n)=0:=by
 obtain⟨k,rfl⟩:=Bf u;have hk:k≤15:=by omega
 have hb:HQ (k:Int)=2 ^ k:=by
  unfold HQ;rw[AM,Int.one_mul,By (by omega)]
  have I:(2:Int) ^ k≤2 ^ 15:=by
   have:=Nat.pow_le_pow_right (show 0<2 by decide) hk
   exact_mod_cast this
  have J:(0:Int)≤2 ^ k:=by
   have:=Cn k
   exact_mod_cast (B8 this)
  exact LL (by omega) (by omega)
 rw[hb,l7,l7,mJ k hk,ee _ k (by omega),show(1:Int)=2 ^ 0 from rfl,mJ 0 (by decide),ee _ 0 (by decide),fE,fE,AM];unfold Du;rcases(by omega:k=0∨k=1∨k=2∨k=3∨k=4∨k=5∨k=6∨k=7∨k=8∨k=9∨k=10∨k=11∨k=12∨k=13∨k=14∨k=15)with rfl | rfl | rfl | rfl | rfl | rfl | rfl | rfl | rfl | rfl | rfl | rfl | rfl | rfl | rfl | rfl <;> simp only[Nat.reducePow,C0] <;> omega
def FB(p f t c:Int)(S:D):List D:=[.int .i64 p,.int .i64 f,.int .i64 t,.int .i64 c,S]
theorem N5(s:Sta)(k m o n:Nat):Eh (some ⟨false,1,DB s,false⟩) 1 4 (.row k m o n)=some ⟨false,1,FB s.pc s.fuel s.status s.clause (.row k m o n),false⟩:=(rfl)
theorem MQ(p f t c:Int)(S:D)(lent:Bool):DY (some ⟨false,1,FB p f t c S,lent⟩) 1 false 0=some (.int .i64 p):=(rfl)
theorem LY(p f t c:Int)(S:D)(lent:Bool):DY (some ⟨false,1,FB p f t c S,lent⟩) 5 true 0=some (.agg (FB p f t c S)):=(rfl)
theorem L8(p f t c n:Int)(S:D):Eh (some ⟨false,1,FB p f t c S,false⟩) 1 0 (.int .i64 n)=some ⟨false,1,FB n f t c S,false⟩:=(rfl)
theorem N6(p f t c:Int)(k m o n:Nat):Eh (some ⟨false,1,[.int .i64 0,.int .i64 0,.int .i64 0,.int .i64 0,.slc 0 [] true],false⟩) 5 0 (.agg (FB p f t c (.row k m o n)))=some ⟨false,1,FB p f t c (.row k m o n),false⟩:=(rfl)
theorem mE(p f t c:Int)(sz:Nat)(l:List D)(q:Bool):Eh (some ⟨false,1,[.int .i64 0,.int .i64 0,.int .i64 0,.int .i64 0,.slc 0 [] true],false⟩) 5 0 (.agg (FB p f t c (.slc sz l q)))=some ⟨false,1,FB p f t c (.slc sz l q),false⟩:=(rfl)
theorem Qi(s:Sta)(n:Int):Eh (some ⟨false,1,DB s,false⟩) 1 0 (.int .i64 n)=some ⟨false,1,DB {s with pc:=n},false⟩:=(rfl)
theorem Qh(s:Sta)(n:Int):Eh (some ⟨false,1,DB s,false⟩) 1 3 (.int .i64 n)=some ⟨false,1,DB {s with clause:=n},false⟩:=(rfl)
theorem XR(st:St)(L:List Int)(r:Int)(t:Bool)(hl:L.length≤1000) :
  DR st 1 8 (.slc 1 [] true) (.slc (nz 1 (L.map nI)) (L.map nI) t)=some (DC 1 st.length (L.map nI),st++Di 1 (L.map nI))∧
  DR (st++Di 1 (L.map nI)) 1 8 (DC 1 st.length (L.map nI)) (.slc 1 [.int .i64 r] true)=some (.row st.length (L.length+1) 0 (L.length+1),st++[⟨true,1,(L++[r]).map nI,false⟩]):=by
 refine⟨WC nI st 1 1 8 L t (by decide) (by omega) (by omega),?_⟩;have h:=RK nI 1 1 8 L r true (by decide) (by omega) (by omega) st;rw[p5,p6,Ad]at h;exact h
def Em(s:Sta):Out→Sta×Int
 |.err e=>(s,e)
 |.pop k push pc=>(EE s (.pop k push pc),0)
 |.set p t c=>(EE s (.set p t c),0)
theorem lG(u o1 o2 E:PI.Obj)(p f t c:Int)(A:List Int)(m:Nat)(h:A.length=m):D4 [u,o1,o2,E,⟨true,1,A.map nI,false⟩] (.agg (FB p f t c (.row 4 m 0 m)))=some (Dk ⟨p,f,t,c,A⟩):=by
 have I:Gy [u,o1,o2,E,⟨true,1,A.map nI,false⟩] 4 m 0 m=some (1,A.map nI):=by
  simp only[Gy,Bt,AB];rw[if_pos (by simp[h]),Bp,AI (by simp[h])]
 simp only[FB,D4,D3,DD,I,Ae];rfl
noncomputable def Yq:List D→Option D:=Dd (α:=Ins×(Int×List Int)×Sta×Int) (fun a=>[C5 a.1,DQ a.2.1,Dk a.2.2.1,.int .i64 a.2.2.2]) (fun a=>D5 a.2.1∧(a.1.op=1∨a.1.op=2)∧(0≤a.2.2.2∧a.2.2.2≤64)∧a.2.2.1.stack.length≤64∧(0≤a.2.2.1.pc∧a.2.2.1.pc≤100000)∧(a.1.op=2→0≤a.1.n∧a.1.n<16)) (fun a=>.tup [Dk (Em a.2.2.1 (Dl a.2.1 a.2.2.2 a.2.2.1 a.1)).1,.int .i64 (Em a.2.2.1 (Dl a.2.1 a.2.2.2 a.2.2.1 a.1)).2])
theorem rL(x:Ins)(v:Int×List Int)(s:Sta)(b:Int)(h:D5 v∧(x.op=1∨x.op=2)∧(0≤b∧b≤64)∧s.stack.length≤64∧(0≤s.pc∧s.pc≤100000)∧(x.op=2→0≤x.n∧x.n<16)):Yq [C5 x,DQ v,Dk s,.int .i64 b]=some (.tup [Dk (Em s (Dl v b s x)).1,.int .i64 (Em s (Dl v b s x)).2]):=
 DG (fun⟨a0,a1,u,E⟩ ⟨b0,b1,I,J⟩ h=>by simp only[Aa,D.int.injEq,true_and,and_true,K0,JP,Gz]at h; simp[h]) (x,v,s,b) h
set_option maxHeartbeats 4000000 in
set_option maxRecDepth 20000 in
theorem Ym2(x:Ins)(v:Int×List Int)(s:Sta)(b:Int)(h:D5 v∧(x.op=1∨x.op=2)∧(0≤b∧b≤64)∧s.stack.length≤64∧(0≤s.pc∧s.pc≤100000)∧(x.op=2→0≤x.n∧x.n<16)):@wW GG (tb [] []) TL.code (Db [C5 x,DQ v,Dk s,.int .i64 b]) [] ⟨De TL.res (.tup [Dk (Em s (Dl v b s x)).1,.int .i64 (Em s (Dl v b s x)).2])⟩:=by
 obtain⟨hv,Y,⟨ae,af⟩,hl,⟨ah,a0⟩,aa⟩:=h;unfold TL;have app:=fun r=>XR [⟨false,1,Dz x,false⟩,⟨false,1,DS v,false⟩,⟨false,1,DB s,false⟩,⟨false,1,[.int .i64 0,.int .i64 0,.int .i64 0,.int .i64 0,.slc 0 [] true],false⟩] s.stack r false (by omega);have e1:((1:Int)=2)=False:=ll
 by_cases u:64≤b+s.stack.length
 ·have E:Dl v b s x=.err 200:=by
   unfold Dl;rcases Y with h | h
   ·rw[if_pos h,if_pos u]
   ·rw[if_neg (by omega),if_pos h,if_pos u]
  rw[E];simp (disch:=first|omega|decide) only[push_cast,↓reduceIte,CG,CH,CN,DX,D9,En,EH,FM,Ge,DL,u,E2,FN,FA,Em]
 ·have O:∀ r,Dl v b s x=.pop 0 (some r) none→Em s (Dl v b s x)=(⟨s.pc+1,s.fuel,s.status,s.clause,s.stack++[r]⟩,0):=fun r h=>by
   rw[h]
   show((⟨s.pc+1,s.fuel,s.status,s.clause,s.stack.take (s.stack.length - 0)++[r]⟩:Sta),(0:Int))=_
   rw[CE,AJ]
  have hk:=fun r=>lG ⟨false,1,Dz x,false⟩ ⟨false,1,DS v,false⟩ ⟨false,1,FB (s.pc+1) s.fuel s.status s.clause (.row 4 (s.stack.length+1) 0 (s.stack.length+1)),false⟩ ⟨false,1,FB (s.pc+1) s.fuel s.status s.clause (.row 4 (s.stack.length+1) 0 (s.stack.length+1)),false⟩ (s.pc+1) s.fuel s.status s.clause (s.stack++[r]) (s.stack.length+1) (by simp);rcases Y with h | h
  ·have E:Dl v b s x=.pop 0 (some x.n) none:=by
    unfold Dl; rw[if_pos h,if_neg u]
   rw[O _ E];have a1:=(app x.n).1;have U:=(app x.n).2;simp only[Al,Ap,At,AH]at a1 U;simp (disch:=first|omega|decide) only[push_cast,↓reduceIte,CG,CH,CN,DX,D9,En,EH,FM,Ge,DL,u,Eg,FH,h,e1,decide_false,Ev,a1,U,N5,MQ,L8,LY,N6,hk]
  ·obtain⟨n0,n1⟩:=aa h;have a3:v.2.length=16:=hv;have V:=Yke v.1 n0 n1;have M:Dj .shr (.int .i64 v.1) (.int .i64 x.n)=some (.int .i64 (v.1 / 2 ^ x.n.toNat)):=lS n0 (by omega);have h1:¬ x.op=1:=by omega
   by_cases hb:Hr v.1 (HQ x.n)=0
   ·have I:=V.2 hb
    have E:Dl v b s x=.err 181:=by
     unfold Dl; rw[if_neg h1,if_pos h,if_neg u,if_pos hb]
    rw[E];simp (disch:=first|omega|decide) only[push_cast,↓reduceIte,CG,CH,CN,DX,D9,En,EH,FM,Ge,DL,u,Eg,FH,h,Nd,M,LB,I,E2,FN,FA,Em]
   ·have I:¬ Hr (v.1 / 2 ^ x.n.toNat) 1=0:=fun q=>hb (V.1 q);obtain⟨k,J⟩:∃ k:Nat,x.n=k:=⟨x.n.toNat,by omega⟩;have X:=mo v (i:=k) (by omega);have N:=fun st=>IL st 16 1 1 .i64 (k:Int) (by omega) (by omega);rw[AM]at N;rw[J]at M I hb;rw[AM]at M I;have ac:DP v.2 x.n.toNat=v.2.getD k default:=by rw[J,AM]
    have E:Dl v b s x=if v.2.getD k default < -9007199254740992∨9007199254740992<v.2.getD k default then .err 3 else .pop 0 (some (v.2.getD k default)) none:=by
     unfold Dl; rw[if_neg h1,if_pos h,if_neg u,J,if_neg hb,← J,ac]
    generalize v.2.getD k default=r at*
    by_cases g1:r < -9007199254740992
    ·rw[if_pos (.inl g1)]at E;rw[E];simp (disch:=first|omega|decide) only[push_cast,↓reduceIte,CG,CH,CN,DX,D9,En,EH,FM,Ge,DL,u,Eg,FH,J,h,Nd,M,LB,eq_false I,decide_false,N,X,g1,E2,FN,FA,Em]
    ·by_cases g2:9007199254740992<r
     ·rw[if_pos (.inr g2)]at E;rw[E];simp (disch:=first|omega|decide) only[push_cast,↓reduceIte,CG,CH,CN,DX,D9,En,EH,FM,Ge,DL,u,Eg,FH,J,h,Nd,M,LB,eq_false I,decide_false,N,X,g1,g2,E2,FN,FA,Em]
     ·rw[if_neg (by omega)]at E;rw[O _ E];have a1:=(app r).1;have U:=(app r).2;simp only[Al,Ap,At,AH]at a1 U;simp (disch:=first|omega|decide) only[push_cast,↓reduceIte,CG,CH,CN,DX,D9,En,EH,FM,Ge,DL,u,Eg,FH,J,h,Nd,M,LB,eq_false I,decide_false,N,X,g1,g2,Ev,a1,U,N5,MQ,L8,LY,N6,hk]
theorem zr:Contract Tryz.prog GG 185 Yq:=
 DH oa (Dy all_nil all_nil) (fun a h=>Ym2 a.1 a.2.1 a.2.2.1 a.2.2.2 h)
end Go.Proofs.YtijnglngaogdjaaGreatDoor.PI
