/-
  TopCourt: the law as a contract.
  Conditions: none; these are lemmas.
-/
import Derived.Test.YtlnmoflpeohkbaaGreatDoorTeG
import Derived.Test.YtlnmoflpeohkbaaGreatDoorMkD
import Derived.Test.YtlnmoflpeohkbaaGreatDoorEngLaw
open Bool renaming false->f_,true->t_
open Option renaming some->s_
open Int renaming reduceNeg->Da
open List renaming replicate->C7
open Nat renaming reduceAdd->C6,reduceEqDiff->C3,reduceLT->Dd,reduceLeDiff->Db
set_option maxHeartbeats 8000000
set_option maxRecDepth 20000
set_option linter.unusedSimpArgs false
set_option linter.unusedVariables false
set_option linter.defProp false
noncomputable section
namespace Go.Proofs.YtlnmoflpeohkbaaGreatDoor.PI
open Go
open D renaming int->I,slc->O,agg->U,bool->V,ptr->Y
open Go.IntKind renaming i64->J
open D renaming cells->yaZ,isCell->yaa
open Sg renaming cs->ybI
def Ik(m:Mv)(t q:D):List Sg:=[.c (I J m.kd),.c (I J m.pt),.c (I J m.am),.c (I J m.cm.1),.g m.cm.2,.g m.lf,.g m.rt]++IH m.op t++[.c q]++Mf m.key
def Fi(m:Mv)(t q:D):List D:=DC (Ik m t q)
def FG:Mv:=⟨0,0,0,(0,DX),DX,DX,⟨0,0,0,0,[],0,DX⟩,[],Ys3⟩
def QV(m:Mv)(t q:D):Lt (Ik m t q):=trivial
def tG(m:Mv)(t q:D):(Fi m t q).length=144:=by rw[Fi,Ra (QV m t q)];simp[JX,Ik,IH,Mf,Sg.sz]
theorem Ys4:E1=Fi FG (O 0 [] t_) (O 0 [] t_):=(rfl)
section
variable(x:Mv) (j q:D) (r:List (Nat×Nat×D))
def iI(a:Int):Ec (Fi x j q) ((0,1,I J a)::r)=Ec (Fi {x with kd:=a} j q) r:=KX (l:=Ik x j q) (X:=[.c (I J a)]) rfl rfl (QV x j q) rfl rfl rfl rfl
def fm_am(a:Int):Ec (Fi x j q) ((2,1,I J a)::r)=Ec (Fi {x with am:=a} j q) r:=KX (l:=Ik x j q) (X:=[.c (I J a)]) rfl rfl (QV x j q) rfl rfl rfl rfl
theorem YJ7:Ec (Fi x j q) []=s_ (Fi x j q):=rfl
end
def yVo(m:Mv){t q:D}(N:t.isCell=t_)(hq:q.isCell=t_):(Fi m t q).all yaa=t_:=by refine Q9 (λ_ _=>rfl) λs E=>?_;simp only[Ik,IH,Mf,Aj,Aq,AB,AM,zav]at E;rcases E with rfl|rfl|rfl|rfl|rfl|rfl|rfl|rfl|rfl|rfl|rfl|rfl|rfl|rfl|rfl|rfl|rfl|rfl|rfl|rfl<;>first|(simp[ybI,IW,N,hq];done)|simp[ybI,yaa]
def YCw(m:Mv):DM (U (Fi m (O 0 [] t_) (O 0 [] t_)))=s_ (Fi m (O 0 [] t_) (O 0 [] t_)):=by simp only[DM,yaZ,yVo m (t:=O 0 [] t_) (q:=O 0 [] t_) rfl rfl,zaj]
def XP(sz:Nat)(lent:Bool)(m:Mv)(t q:D):DB (s_ ⟨f_,sz,Fi m t q,lent⟩) 144 t_ 0=s_ (U (Fi m t q)):=Is sz lent _ 144 (tG m t q)
def endP(x:Cse)(e p w a:Int):Prop:=e=0/\HV x/\x.ph=p/\x.wn=w/\x.am=a
instance (x:Cse) (e p w a:Int):Decidable (endP x e p w a):=inferInstanceAs (Decidable (_/\_/\_/\_/\_))
def tyEv:Ty:=.agg [.int .i64,.agg (C7 16 (.int .i64))]
def Yua{d:D}(h:Has (.int .i64) d):∃n:Int,d=nI n:=by obtain⟨n,rfl,_⟩:=KK h;exact⟨n,rfl⟩
theorem Yay{d:D}(h:Has (.agg (C7 16 (.int .i64))) d):∃l:List Int,d=.agg (l.map nI)/\l.length=16:=by
 cases h with
 |agg _ xs E h2=>
  obtain⟨l,rfl⟩:=qL (f:=nI) (els:=xs) λx hx=>by
   obtain⟨i,hi⟩:=Cv hx
   have N:i<16:=by
    grind
   exact Yua (h2 i (.int .i64) x (by rw[List.getElem?_replicate,zae N]) hi)
  rw[BT,Az]at E;refine⟨l,?_,E.symm⟩
  have:∀l:List Int,(l.map nI).flatMap yaZ=l.map nI:=by
   intro l
   induction l with
   |nil=>rfl
   |cons a r ih=>simp only[Av,AA,ih];rfl
  rw[this]
def YJv{d:D}(h:Has tyEv d):∃v:zIL,d=EO v/\v.2.length=16:=by obtain⟨x,y,rfl,E,N⟩:=YI h;obtain⟨n,rfl,_⟩:=KK E;obtain⟨l,rfl,hl⟩:=Yay N;exact⟨(n,l),rfl,hl⟩
variable{s:Sta}{v:zIL}
def yzu{c:List Ins}{b:Dig}(n:Int)(hl:s.stack.length<=64)(hb:b=Em c v s)(E:¬b=DQ):
  Hc c v b (Fl s n)=if s.status≠0 then(DQ,0)else(IA c v (Nb c v (Fl s n)),MI c (Fl s n)):=by unfold Hc;rw[zaf E,zaf (by rw[wV (U1 s n) hl,hb];simp)];rfl
def Ywu{c:List Ins}{b:Dig}(n:Int)(hl:s.stack.length<=64)(hb:b=Em c v s)(E:¬b=DQ)(N:s.status=0)(hr:HN c s 0=0)(hk:¬Th c (Fl s n)):
  Hc c v b (Fl s n)=(Em c v (KF c v s),0):=by obtain⟨h1,h2⟩:=Ywv (v:=v) (U1 s n) hl hr hk;rw[yzu n hl hb E,zaf (by simp[N]),h1,h2]
variable{n:Int}
def YIl{c:List Ins}(h:Th c (Fl s n)):max n 0<GQ (HU c s).op:=by
 obtain⟨_,N,E⟩:=h;rw[Yg8 c (U1 s n)]at E
 have ht:((Fl s n).top.length:Int)=s.stack.length-M8 s n:=by
  have:=xH s n;simp only[Fl,AL];omega
 have hd:(Fl s n).depth=(M8 s n:Int):=rfl;rw[ht]at E;rw[hd]at N;unfold M8 at N E;omega
theorem RunOK.get{c:List Ins}:∀{l:List Sta}{i:Nat}{s:Sta},RunOK c v l->l[i]?=s_ s->(i+1<l.length->s.status=0/\HN c s 0=0/\l[i+1]?=s_ (KF c v s))/\(i+1=l.length->s.status≠0)
 |[],i,s,h,_=>h.elim
 |[x],i,s,h,hi=>by
  cases i with
  |zero=>
   obtain rfl:=At hi;exact⟨λq=>by simp at q,λ_=>h⟩
  |succ i=>simp at hi
 |x::y::l,i,s,h,hi=>by
  obtain⟨N,h2,h3,E⟩:=h
  cases i with
  |zero=>
   grind
  |succ i=>
   have:=RunOK.get E (i:=i) (s:=s) (by simpa using hi);grind
def YHb(op:Int):GQ op<=2:=by unfold GQ;omega
def yU{c:List Ins}(hv:(FQ c).2=0):∀x∈Ka c v,x.stack.length<=64:=by
 obtain⟨D,l,E,N,_,_,hg⟩:=T5 (v:=v) hv;rw[N];intro x hx;rcases hg x hx with h|h
 .exact h.len E
 .exact h.l
def Yfi(o:Opn):(FF o).all yaa=t_:=by rw[LM,Fo];simp[yaa,IW,EK]
section
variable(x:Mv) (sz:Nat) (j q:D) (r:List (Nat×Nat×D))
def iH(o:Opn):Ec (Fi x j q) ((100,38,Ew o)::r)=Ec (Fi {x with op:=o} (EK o.top) q) r:=KX (l:=Ik x j q) (X:=IH o (EK o.top)) rfl rfl (QV x j q) rfl (by rw[bo];rfl) (by rw[bo,LM];exact Zq ..) (by rw[bo];exact Yfi o)
def Ymh(p:List Dig):DV (s_ ⟨f_,sz,Fi x j q,f_⟩) 1 138 (Hj p)=s_ ⟨f_,sz,Fi {x with path:=p} j (Hj p),f_⟩:=LS (l:=Ik x j q) (X:=[.c (Hj p)]) rfl rfl (QV x j q) rfl rfl rfl rfl
def Yc5(n:Int):DV (s_ ⟨f_,sz,Fi x j q,f_⟩) 1 1 (I J n)=s_ ⟨f_,sz,Fi {x with pt:=n} j q,f_⟩:=LS (l:=Ik x j q) (X:=[.c (I J n)]) rfl rfl (QV x j q) rfl rfl rfl rfl
def YFq(c:Int×Dig):DV (s_ ⟨f_,sz,Fi x j q,f_⟩) 33 3 (U (I J c.1::Dr c.2))=s_ ⟨f_,sz,Fi {x with cm:=c} j q,f_⟩:=
 LS (l:=Ik x j q) (X:=[.c (I J c.1),.g c.2]) rfl rfl (QV x j q) rfl (by simp[DC,ybI,yaZ]) (by simp[DC,ybI,En]) (by simp[DC,ybI,yaa];exact Ad.1 (IW c.2))
def YFp(d:Dig):DV (s_ ⟨f_,sz,Fi x j q,f_⟩) 32 36 (Ds d)=s_ ⟨f_,sz,Fi {x with lf:=d} j q,f_⟩:=
 LS (l:=Ik x j q) (X:=[.g d]) rfl rfl (QV x j q) rfl (by simp[DC,ybI,Ds,yaZ]) (by simp[DC,ybI,En]) (by simp only[DC,ybI,Ai];exact IW d)
def YFo(d:Dig):DV (s_ ⟨f_,sz,Fi x j q,f_⟩) 32 68 (Ds d)=s_ ⟨f_,sz,Fi {x with rt:=d} j q,f_⟩:=
 LS (l:=Ik x j q) (X:=[.g d]) rfl rfl (QV x j q) rfl (by simp[DC,ybI,Ds,yaZ]) (by simp[DC,ybI,En]) (by simp only[DC,ybI,Ai];exact IW d)
end
def YF1(x y:Mv)(sz:Nat)(t q t' q':D)(E:t'.isCell=t_)(N:q'.isCell=t_):DV (s_ ⟨f_,sz,Fi x t q,f_⟩) 144 0 (U (Fi y t' q'))=s_ ⟨f_,sz,Fi y t' q',f_⟩:=Hs sz _ _ 144 (tG _ _ _) (tG _ _ _) (yVo y E N)
def uX(st:St)(m:Mv){t q t' q':D}(N:DO st t=s_ t')(h2:DO st q=s_ q'):D2 st (U (Fi m t q))=s_ (U (Fi m t' q')):=by
 have E:∀t q,Fi m t q=DC [.c (I J m.kd),.c (I J m.pt),.c (I J m.am),.c (I J m.cm.1),.g m.cm.2,.g m.lf,.g m.rt,.c (I J m.op.pc),.c (I J m.op.fuel),.c (I J m.op.status),.c (I J m.op.clause)]++(t::(DC [.c (I J m.op.depth),.g m.op.rest]++(q::Mg m.key))):=λt q=>by
  simp[Fi,Ik,IH,DC,ybI,Yt4]
 have s1:(DC [.c (I J m.kd),.c (I J m.pt),.c (I J m.am),.c (I J m.cm.1),.g m.cm.2,.g m.lf,.g m.rt,.c (I J m.op.pc),.c (I J m.op.fuel),.c (I J m.op.status),.c (I J m.op.clause)]).all E2=t_:=by simp[DC,ybI,E2,MM]
 have s2:(DC [.c (I J m.op.depth),.g m.op.rest]).all E2=t_:=by simp[DC,ybI,E2,MM]
 have s3:(Mg m.key).all E2=t_:=by simp[Mg,E2]
 have i3:Ef st (Mg m.key)=s_ (Mg m.key):=by
  rfl
 rw[E,E];simp only[D2,Zp st _ s1,Ef,Zp st _ s2,i3,N,h2];rfl
theorem Ypy{l:List D}(h:l.all (λd=>(Fw d).isEmpty)=t_):keys (U l)=[]:=by simp only[keys,Bz];grind
def Ypz(x:Dig):(Dr x).all (λd=>(Fw d).isEmpty)=t_:=by rw[Ad];intro d hd;have:=Ad.1 (MM x) d hd;simp[tI this]
def wR(m:Mv)(t q:D)(N:Fw t=[])(hq:Fw q=[]):keys (U (Fi m t q))=[]:=by refine Ypy (Q9 (λ_ _=>rfl) λs E=>?_);simp only[Ik,IH,Mf,Aj,Aq,AB,AM,zav]at E;rcases E with rfl|rfl|rfl|rfl|rfl|rfl|rfl|rfl|rfl|rfl|rfl|rfl|rfl|rfl|rfl|rfl|rfl|rfl|rfl|rfl<;>first|exact Ypz _|(simp[ybI,N,hq];done)|rfl
def Ymk{c:List Ins}(E:(FQ c).2=0)(n:Int):(Gu c v n).1.stack.length<=64:=by
 unfold Gu;rw[zae E]
 split
 .exact AS _
 .split
  .rename_i s N;exact yU (v:=v) E s (Ak N)
  .exact AS _
def F7(d:Der)(x:Cse)(me:Int):Mv:=if x.ph=1 then {FG with kd:=1,pt:=me,am:=d.am,cm:=Fg d.lv} else if x.ph=2 then {FG with kd:=2,pt:=me,lf:=Hm d.lv x.b,rt:=Hl d.lv x.b} else {FG with kd:=3,pt:=me,op:=Fl (Gu d.code d.env (Hp x me).1).1 3,path:=I4 d.lv (Hp x me).1}
def FH(d:Der)(x:Cse)(me now:Int):Cse:=if(x.ph=1/\me≠0)\/x.ph=2\/x.ph=3 then(if Hr d.code d.env x (F7 d x me) now=0 then LB d.code d.env x (F7 d x me) now else x)else x
def vQ:=DL (α:=Der×Cse×Int×Int) (λa=>[EX a.1,DY a.2.1,I J a.2.2.1,I J a.2.2.2]) (λa=>Et a.1.env/\a.1.code.length<=4096/\(FQ a.1.code).2=0) (λa=>DY (FH a.1 a.2.1 a.2.2.1 a.2.2.2))
def WU(d:Der)(x:Cse)(me:Int)(now:Int)(h:Et d.env/\d.code.length<=4096/\(FQ d.code).2=0):vQ [EX d,DY x,I J me,I J now]=s_ (DY (FH d x me now)):=
 EL (λ⟨a0,a1,E,N⟩⟨b0,b1,b2,b3⟩h=>by simp only[Ab,D.int.injEq,zal,zag,YB,Wt]at h;simp[h]) (d,x,me,now) h
def YEc(d:Der)(x:Cse)(me:Int)(now:Int)(h:Et d.env/\d.code.length<=4096/\(FQ d.code).2=0):@wW GG (tb [(11,Qf),(7,YY),(21,qe),(22,ra),(23,xU),(24,rm),(25,re)] []) n8.1.code (Du [EX d,DY x,I J me,I J now]) [] ⟨DN n8.1.res (DY (FH d x me now))⟩:=by
 obtain⟨hv,hc,he⟩:=h;have bz:DM (U E1)=s_ (Fi FG (O 0 [] t_) (O 0 [] t_)):=by rw[Ys4];exact YCw _
 have aa:∀x:Cse,DV (s_ (zzB GR)) 279 0 (DY x)=s_ (zzB (DF x (DZ x.jn))):=λx=>WC x (DZ x.jn) rfl 1;have l0:∀lent,DB (s_ ⟨f_,1,DH (D9 d.code) d.env d.am d.er (Fy d.lv),lent⟩) 1 f_ 0=s_ (D9 d.code):=λlent=>vw d.env lent (D9 d.code) (Fy d.lv) d.am d.er;have l1:∀lent,DB (s_ ⟨f_,1,DH (D9 d.code) d.env d.am d.er (Fy d.lv),lent⟩) 17 t_ 1=s_ (EO d.env):=λlent=>vz hv lent (D9 d.code) (Fy d.lv) d.am d.er;have a5:∀lent,DB (s_ ⟨f_,1,DH (D9 d.code) d.env d.am d.er (Fy d.lv),lent⟩) 1 f_ 18=s_ (I J d.am):=λlent=>yV5 hv lent _ _ _ _;have ab:∀st,D2 st (D9 d.code)=s_ (D9 d.code):=λst=>by simp only[D9,D2,DO,Jq]
 have ac:keys (D9 d.code)=[]:=rfl;have sm:∀(X:Mv)(t q:D),t.isCell=t_->q.isCell=t_->DV (s_ (zzB (Fi FG (O 0 [] t_) (O 0 [] t_)))) 144 0 (U (Fi X t q))=s_ (zzB (Fi X t q)):=λX t q h1 h2=>YF1 _ _ _ _ _ _ _ h1 h2;unfold n8
 by_cases p1:x.ph=1
 .by_cases m0:me=0
  .have e:FH d x me now=x:=zaf zaa;rw[e]
   push_cast(disch:=lia)[Of,Gd,H8,bz,GZ,p1,m0,Gj,Hf,aa,Gi]
  .have hM:F7 d x me={FG with kd:=1,pt:=me,am:=d.am,cm:=Fg d.lv}:=zae p1;have e:FH d x me now=if Hr d.code d.env x (F7 d x me) now=0 then LB d.code d.env x (F7 d x me) now else x:=zae (.inl ⟨p1,m0⟩)
   rw[e,hM];have E:=Zt d.code d.env x {FG with kd:=1,pt:=me,am:=d.am,cm:=Fg d.lv} now ⟨zaa,hv,AS _,λh=>absurd h.2.2 (zab:¬(1:Int)=7)⟩;have E:Qf [D9 d.code,EO d.env,DY x,U (Fi {FG with kd:=1,pt:=me,am:=d.am,cm:=Fg d.lv} (O 0 [] f_) (O 0 [] f_)),I J now]=_:=E;generalize Hr d.code d.env x {FG with kd:=1,pt:=me,am:=d.am,cm:=Fg d.lv} now=pe at*;generalize LB d.code d.env x {FG with kd:=1,pt:=me,am:=d.am,cm:=Fg d.lv} now=pc at*;have cm:=yH1 d hv
   have e1:Ec E1 [(0,1,I J 1),(2,1,I J d.am)]=s_ (Fi {FG with kd:=1,am:=d.am} (O 0 [] t_) (O 0 [] t_)):=by
    rfl
   have s1:=sm {FG with kd:=1,am:=d.am} (O 0 [] t_) (O 0 [] t_) rfl rfl;have s2:DV (s_ (zzB (Fi {FG with kd:=1,am:=d.am} (O 0 [] t_) (O 0 [] t_)))) 33 3 (U (I J (Fg d.lv).1::Dr (Fg d.lv).2))=s_ (zzB (Fi {FG with kd:=1,am:=d.am,cm:=Fg d.lv} (O 0 [] t_) (O 0 [] t_))):=YFq ..;have s3:DV (s_ (zzB (Fi {FG with kd:=1,am:=d.am,cm:=Fg d.lv} (O 0 [] t_) (O 0 [] t_)))) 1 1 (I J me)=s_ (zzB (Fi {FG with kd:=1,pt:=me,am:=d.am,cm:=Fg d.lv} (O 0 [] t_) (O 0 [] t_))):=Yc5 ..;have m1:=λst=>uX st {FG with kd:=1,pt:=me,am:=d.am,cm:=Fg d.lv} (t:=O 0 [] t_) (q:=O 0 [] t_) (t':=O 0 [] f_) (q':=O 0 [] f_) rfl rfl;have k1:keys (U (Fi {FG with kd:=1,pt:=me,am:=d.am,cm:=Fg d.lv} (O 0 [] t_) (O 0 [] t_)))=[]:=wR _ _ _ rfl rfl
   by_cases N:pe=0
   .rw[zae N]
    push_cast(disch:=lia)[Of,Gd,H8,bz,GZ,p1,Gj,Hf,aa,Gi,I7,l0,l1,a5,ab,ac,P6 hv,P5,SF,Gc,G2,XP,m0,cm,e1,s1,s2,s3,m1,k1,E,N]
   .rw[zaf N]
    push_cast(disch:=lia)[Of,Gd,H8,bz,GZ,p1,Gj,Hf,aa,Gi,I7,l0,l1,a5,ab,ac,P6 hv,P5,SF,Gc,G2,XP,m0,cm,e1,s1,s2,s3,m1,k1,E,N]
 by_cases p2:x.ph=2
 .obtain⟨L,hL⟩:∃L,Hm d.lv x.b=L:=⟨_,rfl⟩;obtain⟨R,hR⟩:∃R,Hl d.lv x.b=R:=⟨_,rfl⟩;have ca:qe [Fy d.lv,EJ x.b]=_:=Yjz d.lv x.b;rw[hL,hR]at ca;have hM:F7 d x me={FG with kd:=2,pt:=me,lf:=L,rt:=R}:=by unfold F7;rw[zaf p1,zae p2,hL,hR]
  have e:FH d x me now=if Hr d.code d.env x (F7 d x me) now=0 then LB d.code d.env x (F7 d x me) now else x:=zae (.inr (.inl p2))
  rw[e,hM];have E:=Zt d.code d.env x {FG with kd:=2,pt:=me,lf:=L,rt:=R} now ⟨zaa,hv,AS _,λh=>absurd h.2.2 (zab:¬(2:Int)=7)⟩;have E:Qf [D9 d.code,EO d.env,DY x,U (Fi {FG with kd:=2,pt:=me,lf:=L,rt:=R} (O 0 [] f_) (O 0 [] f_)),I J now]=_:=E;generalize Hr d.code d.env x {FG with kd:=2,pt:=me,lf:=L,rt:=R} now=pe at*;generalize LB d.code d.env x {FG with kd:=2,pt:=me,lf:=L,rt:=R} now=pc at*
  have e1:Ec E1 [(0,1,I J 2)]=s_ (Fi {FG with kd:=2} (O 0 [] t_) (O 0 [] t_)):=by
   rfl
  have s1:=sm {FG with kd:=2} (O 0 [] t_) (O 0 [] t_) rfl rfl;have s2:DV (s_ (zzB (Fi {FG with kd:=2} (O 0 [] t_) (O 0 [] t_)))) 32 36 (Ds L)=s_ (zzB (Fi {FG with kd:=2,lf:=L} (O 0 [] t_) (O 0 [] t_))):=YFp ..;have s3:DV (s_ (zzB (Fi {FG with kd:=2,lf:=L} (O 0 [] t_) (O 0 [] t_)))) 32 68 (Ds R)=s_ (zzB (Fi {FG with kd:=2,lf:=L,rt:=R} (O 0 [] t_) (O 0 [] t_))):=YFo ..;have s4:DV (s_ (zzB (Fi {FG with kd:=2,lf:=L,rt:=R} (O 0 [] t_) (O 0 [] t_)))) 1 1 (I J me)=s_ (zzB (Fi {FG with kd:=2,pt:=me,lf:=L,rt:=R} (O 0 [] t_) (O 0 [] t_))):=Yc5 ..;have m1:=λst=>uX st {FG with kd:=2,pt:=me,lf:=L,rt:=R} (t:=(O 0 [] t_)) (q:=(O 0 [] t_)) (t':=(O 0 [] f_)) (q':=(O 0 [] f_)) rfl rfl;have k1:keys (U (Fi {FG with kd:=2,pt:=me,lf:=L,rt:=R} (O 0 [] t_) (O 0 [] t_)))=[]:=wR _ _ _ rfl rfl
  by_cases N:pe=0
  .rw[zae N]
   push_cast(disch:=lia)[Of,Gd,H8,bz,GZ,Gj,Hf,aa,Gi,I7,l0,l1,ab,ac,TM hv,aK,Gc,G2,XP,p2,Xw,uW,ca,e1,s1,s2,s3,s4,m1,k1,E,N]
  .rw[zaf N]
   push_cast(disch:=lia)[Of,Gd,H8,bz,GZ,Gj,Hf,aa,Gi,I7,l0,l1,ab,ac,TM hv,aK,Gc,G2,XP,p2,Xw,uW,ca,e1,s1,s2,s3,s4,m1,k1,E,N]
 by_cases p3:x.ph=3
 .have cp:=yIa x me;obtain⟨i,hi⟩:∃i,(Hp x me).1=i:=⟨_,rfl⟩;rw[hi]at cp;have cs:=Ybv d i ⟨zaa,hv⟩;obtain⟨s,hs⟩:∃s,(Gu d.code d.env i).1=s:=⟨_,rfl⟩;have h2:s.stack.length<=64:=by rw[<-hs];exact Ymk he i
  rw[hs]at cs;have vo:=yHy s 3 zaa;have pa:re [Fy d.lv,I J i]=_:=Yb1 d.lv i;obtain⟨P,hP⟩:∃P,I4 d.lv i=P:=⟨_,rfl⟩;rw[hP]at pa;have hM:F7 d x me={FG with kd:=3,pt:=me,op:=Fl s 3,path:=P}:=by unfold F7;rw[zaf p1,zaf p2,hi,hs,hP]
  have e:FH d x me now=if Hr d.code d.env x (F7 d x me) now=0 then LB d.code d.env x (F7 d x me) now else x:=zae (.inr (.inr p3))
  rw[e,hM];have E:=Zt d.code d.env x {FG with kd:=3,pt:=me,op:=Fl s 3,path:=P} now ⟨zaa,hv,by show(Fl s 3).top.length<=_;simp only[Fl,AL];omega,λh=>absurd h.2.2 (zab:¬(3:Int)=7)⟩;have E:Qf [D9 d.code,EO d.env,DY x,U (Fi {FG with kd:=3,pt:=me,op:=Fl s 3,path:=P} (EK (Fl s 3).top) (Hj P)),I J now]=_:=E;generalize Hr d.code d.env x {FG with kd:=3,pt:=me,op:=Fl s 3,path:=P} now=pe at*;generalize LB d.code d.env x {FG with kd:=3,pt:=me,op:=Fl s 3,path:=P} now=pc at*
  have e1:Ec E1 [(0,1,I J 3),(100,38,Ew (Fl s 3))]=s_ (Fi {FG with kd:=3,op:=Fl s 3} (EK (Fl s 3).top) (O 0 [] t_)):=by
   rw[Ys4,iI,iH,YJ7]
  have s1:=sm {FG with kd:=3,op:=Fl s 3} (EK (Fl s 3).top) (O 0 [] t_) rfl rfl;have s2:DV (s_ (zzB (Fi {FG with kd:=3,op:=Fl s 3} (EK (Fl s 3).top) (O 0 [] t_)))) 1 138 (O (nz 32 (P.map Ds)) (P.map Ds) f_)=s_ (zzB (Fi {FG with kd:=3,op:=Fl s 3,path:=P} (EK (Fl s 3).top) (Hj P))):=Ymh ..;have s3:DV (s_ (zzB (Fi {FG with kd:=3,op:=Fl s 3,path:=P} (EK (Fl s 3).top) (Hj P)))) 1 1 (I J me)=s_ (zzB (Fi {FG with kd:=3,pt:=me,op:=Fl s 3,path:=P} (EK (Fl s 3).top) (Hj P))):=Yc5 ..;have m1:=λst=>uX st {FG with kd:=3,pt:=me,op:=Fl s 3,path:=P} (t:=(EK (Fl s 3).top)) (q:=(Hj P)) (t':=(EK (Fl s 3).top)) (q':=(Hj P)) (by simp[DO,EK,Jq]) (by simp[DO,Jq]);have k1:keys (U (Fi {FG with kd:=3,pt:=me,op:=Fl s 3,path:=P} (EK (Fl s 3).top) (Hj P)))=[]:=wR _ _ _ rfl rfl
  by_cases N:pe=0
  .rw[zae N]
   push_cast(disch:=lia)[Of,Gd,H8,bz,GZ,Gj,Hf,aa,Gi,I7,l0,l1,ab,ac,P6 hv,TM hv,P5,SF,aK,u9,Gc,G2,XP,p3,cp,cs,vo,pa,JI,Mw,JG,LO,Qc,e1,s1,s2,s3,m1,k1,E,N]
  .rw[zaf N]
   push_cast(disch:=lia)[Of,Gd,H8,bz,GZ,Gj,Hf,aa,Gi,I7,l0,l1,ab,ac,P6 hv,TM hv,P5,SF,aK,u9,Gc,G2,XP,p3,cp,cs,vo,pa,JI,Mw,JG,LO,Qc,e1,s1,s2,s3,m1,k1,E,N]
 have e:FH d x me now=x:=zaf zaa;rw[e]
 push_cast(disch:=lia)[Of,Gd,H8,bz,GZ,p1,Gj,Hf,aa,Gi,p2,p3]
def YLj:zCC 9 vQ:=
 EM n8.2 (DP (all_cons uO (all_cons Yj5 (all_cons YLw (all_cons Ykd (all_cons YCj (all_cons Yj1 (all_cons YCp all_nil))))))) all_nil) (λa h=>YEc a.1 a.2.1 a.2.2.1 a.2.2.2 h)
def Wj{y c M:Int}(hc:0<c)(E:y<M*c)(N:-y<M*c):-M<y.tdiv c/\y.tdiv c<M:=by
 rcases Co y 0 with h|h
 .have e:y.tdiv c=-((-y)/c):=by
   rw[<-Bq zaa,Int.neg_tdiv,Int.neg_neg]
  have h3:=Int.ediv_lt_of_lt_mul hc N;have h4:=BD (zaa:0<=-y) (zaa:0<=c);omega
 .have e:y.tdiv c=y/c:=Bq h;have h3:=Int.ediv_lt_of_lt_mul hc E;have h4:=BD h (zaa:0<=c);omega
variable{b:Int}
def ji{a:Int}(E:Ft a)(hb:1<=b):Ft (PJ a b):=by
 unfold Ft at E
 have key:-9007199254740993<PJ a b/\PJ a b<9007199254740993:=by
  unfold PJ
  split
  .rename_i h
   have N:a<0:=by
    rcases Co a 0 with q|q
    .exact q
    .have:=Int.tmod_nonneg b q;omega
   have h2:b≠1:=by rintro rfl;simp at h
   exact Wj zaa zaa zaa
  .exact Wj zaa zaa zaa
 unfold Ft;omega
def YA3{a:Int}(E:Ft a)(hb:1<=b):Ft (PJ (2*a+b) (2*b)):=by
 unfold Ft at E
 have key:-9007199254740993<PJ (2*a+b) (2*b)/\PJ (2*a+b) (2*b)<9007199254740993:=by
  unfold PJ
  split
  .exact Wj zaa zaa zaa
  .exact Wj zaa zaa zaa
 unfold Ft;omega
def cU{a:Int}(E:Ft a)(hb:1<=b):Ft (Yb a b):=by
 unfold Ft at E
 have key:-9007199254740993<Yb a b/\Yb a b<9007199254740993:=by
  unfold Yb
  split
  .rename_i h
   have N:0<a:=by
    rcases Co 0 a with q|q
    .exact q
    .have:=Int.tmod_nonneg b (zaa:0<=-a);rw[Int.neg_tmod]at this;omega
   have h2:b≠1:=by rintro rfl;simp at h
   exact Wj zaa zaa zaa
  .exact Wj zaa zaa zaa
 unfold Ft;omega
def Yd7(c:Int):Ft (L2 c).1/\0<=(L2 c).2:=by
 unfold L2
 split
 .rename_i h;exact⟨Su.1 h,CA _⟩
 .exact⟨by unfold Ft;simp,zac⟩
def Rf:Ft 0:=by unfold Ft;omega
def Yfj:Ft 1:=by unfold Ft;omega
def Yin{a m:Int}(E:Ft a)(hb:Ft b):Ft (EU a b m).1/\0<=(EU a b m).2:=by
 unfold EU
 split
 .split
  .exact⟨Rf,zac⟩
  .rename_i h;refine⟨?_,zac⟩;dsimp only
   split
   .exact YA3 E zaa
   split
   .exact ji E zaa
   .exact cU E zaa
 .exact⟨Rf,zac⟩
def Yux{op a:Int}(E:Ft a)(hb:Ft b):Ft (Es op a b).1/\0<=(Es op a b).2:=by
 unfold Es
 split
 .unfold IS
  split
  .exact Yd7 _
  .exact⟨Rf,zac⟩
 split
 .unfold ID
  split
  .exact Yd7 _
  .exact⟨Rf,zac⟩
 split
 .unfold IJ
  split
  .exact Yd7 _
  .exact⟨Rf,zac⟩
 split;· exact⟨by unfold Ft at *;dsimp only;omega,zac⟩
 split;· exact⟨by unfold Ft at *;dsimp only;omega,zac⟩
 split;· exact Yin E hb
 split;· exact Yin E hb
 split;· exact Yin E hb
 split
 .refine⟨?_,zac⟩;dsimp only
  split
  .exact Yfj
  .exact Rf
 .exact⟨Rf,zac⟩
structure AmtS (s:Sta):Prop where
 a:∀n∈s.stack,Ft n
 p:s.status=1->0<s.stack.length
def YMf{l:List Int}{i:Nat}(h:∀n∈l,Ft n):Ft (Ez l i):=by
 unfold Ez;rw[Am]
 cases e:l[i]? with
 |none=>exact Rf
 |some n=>exact h n (Ak e)
theorem Yyj{x:Ins}(N:HR x=t_)(E:∀n∈s.stack,Ft n)(h0:s.status=0)(hn:GQ x.op<=s.stack.length):AmtS (Gv s (Ee v b s x)):=by
 have t:∀i,Ft (Dw s i):=λi=>YMf E;have er:∀e:Int,0<=e->AmtS (Gv s (.err e)):=λe he=>⟨E,λq=>by have q:10+e=1:=q;omega⟩
 have pp:∀(k:Nat)(p:Option Int)(pc:Option Int),(∀n,p=s_ n->Ft n)->AmtS (Gv s (.pop k p pc)):=λk p pc hp=>by
  refine⟨λn hn=>?_,λq=>by have q:s.status=1:=q;omega⟩;have hn:n∈s.stack.take (s.stack.length-k)++p.toList:=hn;grind
 unfold Ee
 split
 .split
  .grind
  .refine pp _ _ _ λn e=>?_;cases e;have:=yWu N;unfold Ft;omega
 split
 .split
  .grind
  split
  .grind
  split
  .grind
  .rename_i h;refine pp _ _ _ λn e=>?_;cases e;unfold Ft;omega
 split
 .refine pp _ _ _ λn e=>?_;cases e
  split
  .exact Yfj
  .exact Rf
 split
 .grind
 split
 .exact⟨E,λq=>by have q:s.status=1:=q;omega⟩
 split
 .rename_i h;refine⟨E,λ_=>?_⟩;have:GQ x.op=1:=by rw[h];rfl
  show 0<s.stack.length
  omega
 split
 .grind
 split
 .refine pp _ _ _ λn e=>?_;cases e;exact(Yux (t 1) (t 0)).1
 .exact er _ (Yux (t 1) (t 0)).2
def YDg{x:Ins}(N:HR x=t_)(E:∀n∈s.stack,Ft n)(h0:s.status=0):AmtS (Fx v b s x):=by
 unfold Fx
 split
 .exact⟨E,λq=>by have q:(220:Int)=1:=q;omega⟩
 .unfold GP
  split
  .exact⟨E,λq=>by have q:(10:Int)+200=1:=q;omega⟩
  .rename_i h;exact Yyj (s:=DG s) N E h0 zaa
theorem yUt{c:List Ins}{v:zIL}:∀(f:Nat)(s:Sta),AmtS s->∀x∈Kx c v f s,AmtS x
 |0,s,h,x,E=>by
  simp only[Kx,AU]at E;grind
 |f+1,s,h,x,E=>by
  simp only[Kx,AB]at E;rcases E with rfl|E
  .exact h
  .split at E
   .rename_i h0;refine yUt f (KF c v s) ?_ x E;unfold KF
    split
    .rename_i N
     have hv:(FQ c).2=0:=by
      unfold HN at N;omega
     have hb:¬Io c s 0:=by
      intro hb;unfold HN at N;grind
     unfold Io at hb;exact YDg (xV (OV hv).2.2.1 zaa) h.a h0
    .exact⟨(λn hn=>by cases hn),λq=>by have q:(0:Int)=1:=q;omega⟩
   .cases E
def Ycy{c:List Ins}:∀x∈Ka c v,AmtS x:=by
 refine yUt _ _ ?_;unfold Hd
 split
 .exact⟨(λn hn=>by cases hn),λq=>by have q:(0:Int)=1:=q;omega⟩
 .exact⟨(λn hn=>by cases hn),λq=>by have q:(0:Int)=1:=q;omega⟩
def Ygp{l:List Sta}(h:l≠[]):l[l.length-1]?=s_ (J7 l):=by unfold J7;rw[List.getLast?_eq_some_getLast h,List.getLast_eq_getElem,Ah];rfl
theorem Yps(hn:1<=n)(E:AmtS s):(s.status=1->0<(Fl s n).top.length)/\(s.status=1->r9 (Fl s n).top=(Er s).1)/\(s.status≠1->(Er s).1=0):=by
 have hk:s.status=1->M8 s n<s.stack.length:=by
  intro h;have:=E.p h;unfold M8;omega
 refine⟨λh=>?_,λh=>?_,λh=>?_⟩
 .have:=hk h;simp only[Fl,AL];omega
 .have h1:=hk h;have N:=E.p h;unfold Er;rw[zae ⟨h,N⟩];unfold Dw Ja Ez r9;simp only[Fl,AL,Am,BP]
  congr 2
  omega
 .unfold Er;grind
def VL(m n:Int×Dig):List D:=(I J m.1::Dr m.2)++(I J n.1::Dr n.2)
def yId(m n:Int×Dig):(VL m n).length=66:=by simp[VL,En]
def Yr6(m n:Int×Dig):(VL m n).all yaa=t_:=by simp[VL,IW,yaa]
def zC(sz:Nat)(m n p q:Int×Dig):DV (s_ ⟨f_,sz,VL m n,f_⟩) 66 0 (U (VL p q))=s_ ⟨f_,sz,VL p q,f_⟩:=Hs sz _ _ 66 (yId _ _) (yId _ _) (Yr6 _ _)
def yZq{c:List Ins}{t:List Sta}(hr:RunOK c v t)(hl:∀x∈t,x.stack.length<=64){i:Nat}(hi:t[i]?=s_ s)(N:¬Em c v s=DQ)(hn:2<=n):
  Hc c v (Em c v s) (Fl s n)=(((t.map (Em c v))[i+1]?).getD DQ,0):=by
 have hs:=hl s (Ak hi);obtain⟨g1,g2⟩:=hr.get hi;have af:i<t.length:=(Aa.1 hi).1;rw[AI]
 by_cases q:i+1<t.length
 .obtain⟨E,h2,h3⟩:=g1 q;rw[Ywu n hs rfl N E h2 (λlk=>by have:=YIl lk;have:=YHb (HU c s).op;omega),h3];rfl
 .have E:=g2 zaa;rw[yzu n hs rfl N,zae E,Bh zaa];rfl
def MD(d:Der)(me:Int)(c:Cse):Prop:=if c.ph=5\/c.wn=me then(c.ph=4->c.am=d.am)else(FM (Fg d.lv) (G9 c (1-me))=380/\c.am=d.am)
structure BisOK (d:Der) (me:Int) (b:Bis):Prop where
 val:Js b=t_
 ne:b.n0≠b.n1
 mine:(if me=0 then b.n0 else b.n1)=FX d.lv b.l.toNat b.i
structure Com (d:Der) (me:Int) (c:Cse) (now:Int):Prop where
 amt:OZ c me=d.am
 cmt:G9 c me=Fg d.lv
 dl:c.dl<=now+1440
 ct:me=1->c.ct<0
inductive GInv (d:Der) (me:Int) (c:Cse) (now:Int):Prop where
 |over:HV c->MD d me c->GInv d me c now
 |wait:c.ph=1->me=0->Com d me c now->GInv d me c now
 |bis:c.ph=2->Com d me c now->BisOK d me c.b->0<c.b.l->Lf c.b me=t_->Lf c.b (1-me)=f_->FM c.c0 c.c1=0->(if me=0 then c.b.l0 else c.b.l1)=FX d.lv (c.b.l-1).toNat (2*c.b.i)->(if me=0 then c.b.r0 else c.b.r1)=FX d.lv (c.b.l-1).toNat (2*c.b.i+1)->GInv d me c now
variable{c:Cse}
def WJ(h:HV c):¬Hq c:=by unfold HV at h;unfold Hq;omega
def yM9(h:HV c)(now:Int):Jr c now=c:=zaf λq=>WJ h q.1
variable{me now:Int}{d:Der}
def bq(h:HV c):FH d c me now=c:=by unfold HV at h;exact zaf zaa
variable{m:Mv}
def yG7{E:List Ins}(h:HV c):Hr E v c m now≠0:=by rw[yV (WJ h)];decide
variable{now':Int}
theorem yL2(ad:me=0\/me=1)(h:GInv d me c now)(hl:c.dl<now')(N:Hq c):HV (Jr c now')/\MD d me (Jr c now'):=by
 have e:Jr c now'={Gh c (IT c)with ph:=6}:=zae ⟨N,hl⟩
 have hw:IT c=me:=by
  cases h with
  |over E _=>exact absurd N (WJ E)
  |wait E h2 _=>unfold IT;rw[zae E,h2]
  |bis E _ _ _ h4 h5 _ _ _=>
   unfold Lf at h4 h5;unfold IT;grind
 rw[e,hw];refine⟨.inr (.inr rfl),?_⟩;have:Gh c me=LD c me (OZ c me):=zaf zaa;rw[this];unfold MD;rw[zae (.inr rfl)];grind
def Ysw{L:List Dig}{b:Bis}(E:(L.length:Int)<=65536)(hv:Js b=t_)(hl:0<b.l):HH L b=0/\Hm L b=FX L (b.l-1).toNat (2*b.i)/\Hl L b=FX L (b.l-1).toNat (2*b.i+1):=by
 obtain⟨v1,v2,v3,v4,v5,v6,v7⟩:=Rn hv;have e:HH L b=0:=by unfold HH;rw[zae hv,YYN,YYN]
 have N:(2:Int)^((b.h-b.l).toNat+1)<=2^(16-(b.l-1)).toNat:=YO zaa;rw[Int.pow_succ]at N;refine⟨e,?_,?_⟩
 .unfold Hm;rw[zae e];exact yVm L _ _ E zaa zaa zaa zaa
 .unfold Hl;rw[zae e];exact yVm L _ _ E zaa zaa zaa zaa
theorem YGt(ab:me=0\/me=1)(ae:(d.lv.length:Int)<=65536)(ac:0<=now/\now<=1073741824)(E:c.ph=2)(hc:Com d me c now)(a0:now<=c.dl)(hb:BisOK d me c.b)(hl:0<c.b.l)(t1:Lf c.b me=f_)(t2:Lf c.b (1-me)=f_)(a4:FM c.c0 c.c1=0):GInv d me (FH d c me now) now/\(FH d c me now).ph=2:=by
 obtain⟨a1,a2,a3⟩:=Ysw ae hb.val hl;have hM:F7 d c me={FG with kd:=2,pt:=me,lf:=Hm d.lv c.b,rt:=Hl d.lv c.b}:=by unfold F7;rw[YYN,zae E]
 obtain⟨v1,v2,v3,v4,v5,v6,v7⟩:=Rn hb.val;have aa:Rx c.b me=FX d.lv c.b.l.toNat c.b.i:=hb.mine;have N:=Ytp d.lv (lv:=c.b.l) (i:=c.b.i) zaa v5;rw[<-a2,<-a3]at N
 have hE:GW c.b me (Hm d.lv c.b) (Hl d.lv c.b)=0:=by
  unfold GW;rw[zae ⟨hb.val,ab⟩,zaf (by rw[t1];simp;omega),zae (by rw[N,aa])]
 have hD:GI c.b me (Hm d.lv c.b) (Hl d.lv c.b)=Ej c.b me (Hm d.lv c.b) (Hl d.lv c.b):=by
  unfold GI;rw[zae ⟨hb.val,ab⟩,zaf (by rw[t1];simp;omega),zae (by rw[N,aa]),zaf (by rw[t2];decide)]
 have hr:(Ej c.b me (Hm d.lv c.b) (Hl d.lv c.b)).r=c.b.r:=by unfold Ej;split<;>rfl
 have ad:Ho d.code d.env c (F7 d c me) now=({c with b:=Ej c.b me (Hm d.lv c.b) (Hl d.lv c.b)},0):=by
  rw[hM];unfold Ho;rw[zaf (zab:¬(2:Int)=1),zae rfl];unfold Rw;grind
 have hp:Hq c:=.inr (.inl E);have ha:Gz (F7 d c me) now:=by rw[hM];exact⟨⟨show(1:Int)<=2 by decide,show(2:Int)<=7 by decide⟩,ac.1,ac.2,ab⟩
 have he:Hr d.code d.env c (F7 d c me) now=0:=by rw[WQ hp ha a0,ad]
 have a6:FH d c me now={c with b:=Ej c.b me (Hm d.lv c.b) (Hl d.lv c.b)}:=by
  unfold FH;rw[zae (.inr (.inl E)),zae he,SJ he,ad]
 rw[a6];refine⟨.bis E ⟨?_,?_,hc.dl,hc.ct⟩ ⟨?_,?_,?_⟩ ?_ ?_ ?_ a4 ?_ ?_,E⟩
 .exact hc.amt
 .exact hc.cmt
 .show Js (Ej c.b me _ _)=t_
  unfold Ej;split<;>exact hb.val
 .show(Ej c.b me _ _).n0≠(Ej c.b me _ _).n1
  unfold Ej;split<;>exact hb.ne
 .show(if me=0 then(Ej c.b me _ _).n0 else(Ej c.b me _ _).n1)=FX d.lv (Ej c.b me _ _).l.toNat (Ej c.b me _ _).i
  have:=hb.mine;unfold Ej;split<;>(split at this<;>simp_all)
 .show 0<(Ej c.b me _ _).l
  unfold Ej;split<;>exact hl
 .show Lf (Ej c.b me _ _) me=t_
  unfold Ej Lf;split<;>rfl
 .show Lf (Ej c.b me _ _) (1-me)=f_
  unfold Ej Lf at*;grind
 .show(if me=0 then(Ej c.b me _ _).l0 else(Ej c.b me _ _).l1)=FX d.lv ((Ej c.b me _ _).l-1).toNat (2*(Ej c.b me _ _).i)
  rw[a2,a3];unfold Ej;split<;>simp_all
 .show(if me=0 then(Ej c.b me _ _).r0 else(Ej c.b me _ _).r1)=FX d.lv ((Ej c.b me _ _).l-1).toNat (2*(Ej c.b me _ _).i+1)
  rw[a2,a3];unfold Ej;split<;>simp_all
theorem vY(ac:me=0\/me=1)(N:c.ph=2)(t1:Lf c.b me=t_):FH d c me now=c:=by
 have hM:F7 d c me={FG with kd:=2,pt:=me,lf:=Hm d.lv c.b,rt:=Hl d.lv c.b}:=by unfold F7;rw[YYN,zae N]
 have he:Hr d.code d.env c (F7 d c me) now≠0:=by
  intro h0;obtain⟨h1,h2,h3,E⟩:=Yex h0;rw[hM]at E;unfold Ho at E;rw[zaf (zab:¬(2:Int)=1),zae rfl]at E;unfold Rw at E;rw[zae N]at E
  have hE:GW c.b me (Hm d.lv c.b) (Hl d.lv c.b)≠0:=by
   unfold GW;grind
  grind
 unfold FH;grind
theorem yXp{b:Bis}(E:me=0\/me=1)(hb:BisOK d me b)(N:b.l=0):LH b=t_/\Mm b=b.i/\OJ (JA b,JB b) (F4 d.lv b.i DQ)=me:=by
 have e:LH b=t_:=by
  unfold LH;rw[hb.val,N];rfl
 refine⟨e,zae e,?_⟩;have ea:JA b=b.n0:=zae e;have eb:JB b=b.n1:=zae e;have hm:=hb.mine;rw[N]at hm;have hm:(if me=0 then b.n0 else b.n1)=F4 d.lv b.i DQ:=hm;rw[ea,eb,<-hm];unfold OJ;rcases E with rfl|rfl
 .grind
 .rw[show(if(1:Int)=0 then b.n0 else b.n1)=b.n1 from zaf zab]
  show(if b.n0=b.n1 then(0:Int)else if b.n1=b.n1 then 1 else -1)=1
  rw[zaf hb.ne,zae rfl]
theorem Yky{b:Bis}(h:0<b.l):LH b=f_:=by unfold LH;grind
structure DerOK (d:Der):Prop where
 ver:(FQ d.code).2=0
 lv:d.lv=(Ka d.code d.env).map (Em d.code d.env)
 len:d.code.length<=60
 env:Et d.env
 am:d.am=(Er (J7 (Ka d.code d.env))).1
theorem DerOK.of(hv:Et v)(h:Sd v d):DerOK d:=by obtain⟨c,rfl,E,N,h3⟩:=h;have e:Hw c v=⟨c,v,(Er (J7 (Ka c v))).1,(Er (J7 (Ka c v))).2.2,(Ka c v).map (Em c v)⟩:=zae E;rw[e];exact⟨E,rfl,N,hv,rfl⟩
theorem DerOK.lv_len(h:DerOK d):1<=d.lv.length/\d.lv.length<=61:=by obtain⟨D,l,_,E,_,hl,_⟩:=T5 (v:=d.env) h.ver;have:=h.len;rw[h.lv,E];simp;omega
theorem DerOK.first(h:DerOK d):IB d.code d.env=(F4 d.lv 0 DQ,0):=by
 obtain⟨D,l,_,E,_,_,_⟩:=T5 (v:=d.env) h.ver;obtain⟨_,hc,_⟩:=OV h.ver;unfold IB
 have e:F4 d.lv 0 DQ=Em d.code d.env (Hd (d.code.length+1)):=by
  have h1:0<d.lv.length:=by have:=h.lv_len;omega
  have N:d.lv.getD 0 default=Em d.code d.env (Hd (d.code.length+1)):=by
   rw[h.lv,E,Av,List.getD_cons_zero]
  rw[<-N];unfold F4;grind
 rw[YYN,zaf (by rw[h.ver];decide),e]
variable{x:Cse}
theorem Yw8(hd:DerOK d)(E:me=0\/me=1)(hb:BisOK d me x.b):JD d.code d.env x now=if 0<x.b.l then(x,0)else if x.b.i=0 then(Gh x me,0)else(M9 x now,0):=by
 have hv:=Rn hb.val;unfold JD
 by_cases h:0<x.b.l
 .rw[zae h,Yky h,zaf zab]
 .rw[zaf h];obtain⟨N,e2,e3⟩:=yXp E hb zaa;rw[zae N,e2]
  by_cases hi:x.b.i=0
  .rw[hi]at e3;rw[zae hi,zae hi,hd.first,zae rfl];unfold Iz;grind
  .grind
def Yk8(L:List Dig)(i:Nat)(h:i<L.length):F4 L (i:Int) DQ=L.getD i default:=by unfold F4;rw[zae zaa,AH]
def uL(L:List Dig)(i:Int)(h:(L.length:Int)<=i):F4 L i DQ=DQ:=by unfold F4;rw[YYN]
variable{p:Int}
theorem Yod{X:Cse}{j:Int}(E:X.ph=3)(hb:FM X.c0 X.c1=0)(hd:Mm X.b=j)(hj:1<=j)(N:p=0\/p=1):Hp X p=(j-1,t_):=by
 have h1:G5 X p=j:=by
  unfold G5;omega
 unfold Hp;grind
theorem Yyx(hd:DerOK d)(a7:∀x∈d.lv,x≠DQ){X:Cse}(hp:p=0\/p=1)(af:X.ph=3)(hb:FM X.c0 X.c1=0){j:Int}(hj:1<=j)(ah:Mm X.b=j)(E:G9 X p=Fg d.lv):
  Pb d.code d.env X (F7 d X p)=(Gh X (OJ (JA X.b,JB X.b) (F4 d.lv j DQ)),0):=by
 have he:=hd.ver;have hlen:=hd.lv_len;have hL:=hd.lv;have hq:=Yod af hb ah hj hp;obtain⟨Dm,tl,hD,ht,hr,bd,hg⟩:=T5 (v:=d.env) he;have N:=yU (v:=d.env) he;have be:(Ka d.code d.env).length=d.lv.length:=by rw[hL];simp
 obtain⟨i,hi⟩:∃i:Nat,j-1=(i:Int):=⟨(j-1).toNat,zaa⟩;have r1:(Fg d.lv).1=(d.lv.length:Int):=by rw[W8 d.lv zaa]
 have a1:F7 d X p={FG with kd:=3,pt:=p,op:=Fl (Gu d.code d.env (i:Int)).1 3,path:=I4 d.lv (i:Int)}:=by
  unfold F7;rw[YYN,YYN,hq,hi]
 have hM:∀b:Dig,∀o:Opn,Hc d.code d.env b o=(F4 d.lv j DQ,0)->((if(Hc d.code d.env b o).2=0 then(Gh X (Iz (JA X.b,JB X.b) (Hc d.code d.env b o)).1,(0:Int))else(X,(Hc d.code d.env b o).2))=(Gh X (OJ (JA X.b,JB X.b) (F4 d.lv j DQ)),0)):=by
  intro b o h;rw[h,zae rfl];rfl
 have ae:∀x:Dig,FX d.lv 0 (i:Int)=x->(2:Int)^(Ep (G9 X p).1).toNat<=(i:Int)\/Jw (G9 X p) (i:Int) x (I4 d.lv (i:Int))=t_:=by
  intro x hx;rw[E,r1]
  by_cases h:(i:Int)<2^(Ep d.lv.length).toNat
  .refine .inr ?_;rw[<-hx];exact yxe d.lv (i:Int) zaa zaa h
  .omega
 rw[a1];unfold Pb;rw[show({FG with kd:=3,pt:=p,op:=Fl (Gu d.code d.env (i:Int)).1 3,path:=I4 d.lv (i:Int)}:Mv).pt=p from rfl,hq,zae rfl,hb,zaf zab];dsimp only;rw[hi]
 by_cases a2:i<d.lv.length
 .obtain⟨s,hs⟩:∃s,(Ka d.code d.env)[i]?=s_ s:=⟨_,Ah zaa⟩
  have bf:Gu d.code d.env (i:Int)=(s,0):=by
   unfold Gu;rw[zae he,YYN,AH,hs]
  have a3:=N s (Ak hs);have bg:=wV (c:=d.code) (v:=d.env) (U1 s 3) a3;have a4:d.lv.getD i default=Em d.code d.env s:=by rw[hL,Am,AI,hs];rfl
  have a5:¬Em d.code d.env s=DQ:=by
   grind
  have a6:=yZq (c:=d.code) (v:=d.env) (t:=Ka d.code d.env) (i:=i) (s:=s) (ht▸hr) N hs a5 (n:=3) zab
  have aa:(((Ka d.code d.env).map (Em d.code d.env))[i+1]?).getD DQ=F4 d.lv j DQ:=by
   rw[<-hL,show j=((i+1:Nat):Int) by omega]
   by_cases h:i+1<d.lv.length
   .rw[Yk8 d.lv (i+1) h,Am,Ah h];rfl
   .rw[uL d.lv _ zaa,Bh zaa];rfl
  rw[aa]at a6;have ac:FX d.lv 0 (i:Int)=Em d.code d.env s:=by rw[<-a4];exact Yk8 d.lv i a2
  grind
 .have ac:FX d.lv 0 (i:Int)=DQ:=uL d.lv _ zaa;have aa:F4 d.lv j DQ=DQ:=uL d.lv _ zaa;rw[zae (show(G9 X p).1<=(i:Int) by rw[E,r1];omega),zae (ae _ ac)];exact hM _ _ (by rw[aa];exact zae rfl)
def qV{now:Int}(N:me=0\/me=1)(E:OZ x me=d.am):HV (Gh x me)/\MD d me (Gh x me):=by have e:Gh x me=LD x me (OZ x me):=zaf zaa;rw[e];refine⟨.inl rfl,?_⟩;unfold MD;rw[zae (.inr rfl)];exact λ_=>E
theorem Yxb(hd:DerOK d)(ac:∀x∈d.lv,x≠DQ)(E:me=0\/me=1)(N:0<=now/\now<=1073741824)(aa:x.ph=3)(ae:now<=x.dl)(af:FM x.c0 x.c1=0)(hb:BisOK d me x.b)(h0:x.b.l=0)(hi:1<=x.b.i)(ad:G9 x me=Fg d.lv):FH d x me now=Gh x me:=by
 obtain⟨e1,e2,e3⟩:=yXp E hb h0;have ho:=Yyx hd ac E aa af hi e2 ad;rw[e3]at ho
 have hk:(F7 d x me).kd=3/\(F7 d x me).pt=me:=by
  unfold F7;rw[YYN,YYN];exact⟨rfl,rfl⟩
 have ab:Ho d.code d.env x (F7 d x me) now=(Gh x me,0):=by
  unfold Ho;grind
 have ha:Gz (F7 d x me) now:=by
  unfold Gz;rw[hk.1,hk.2];exact⟨⟨zab,zab⟩,N.1,N.2,E⟩
 have he:Hr d.code d.env x (F7 d x me) now=0:=by rw[WQ (.inr (.inr aa)) ha ae,ab]
 unfold FH;rw[zae (.inr (.inr aa)),zae he,SJ he,ab]
def Ywf(h:GInv d me c now)(aa:c.ph=2):Lf c.b me=t_:=by
 cases h with
 |over E _=>unfold HV at E;omega
 |wait E _ _=>omega
 |bis _ _ _ _ N _ _ _ _=>exact N
def YL(h:HV c)(E:MD d me c):GInv d me (FH d (FH d c me now) me now) now:=by rw[bq h,bq h];exact .over h E
def xx(hd:DerOK d)(ab:∀x∈d.lv,x≠DQ){y:Cse}(E:me=0\/me=1)(N:0<=now/\now<=1073741824)(ac:y.ph=2)(hc:Com d me y now)(af:y.dl=now+1440)(hb:BisOK d me y.b)(t0:y.b.t0=f_)(t1:y.b.t1=f_)(aa:FM y.c0 y.c1=0):
  (JD d.code d.env y now).2=0/\GInv d me (FH d (JD d.code d.env y now).1 me now) now:=by
 have hlen:=hd.lv_len;have hv:=Rn hb.val;rw[Yw8 hd E hb]
 by_cases h:0<y.b.l
 .rw[zae h];refine⟨rfl,?_⟩;have ht:∀p,Lf y.b p=f_:=λp=>by unfold Lf;split<;>assumption
  obtain⟨g1,g2⟩:=YGt E zaa N ac hc zaa hb h (ht _) (ht _) aa;exact g1
 .rw[zaf h]
  by_cases hi:y.b.i=0
  .rw[zae hi];obtain⟨f1,f2⟩:=qV (now:=now) E hc.amt;exact⟨rfl,by dsimp only;rw[bq f1];exact .over f1 f2⟩
  .rw[zaf hi];refine⟨rfl,?_⟩;have hs:FH d (M9 y now) me now=Gh (M9 y now) me:=Yxb hd ab E N rfl (zaa:now<=now+1440) aa hb (by show y.b.l=0;omega) (by show 1<=y.b.i;omega) hc.cmt;obtain⟨f1,f2⟩:=qV (x:=M9 y now) (now:=now) E hc.amt;dsimp only;rw[hs];exact .over f1 f2
def yMj(E:me=0\/me=1)(h:GInv d me c now):FH d c me now=c:=by
 have N:=h
 cases h with
 |over a _=>exact bq a
 |wait a b _=>subst b;exact zaf zaa
 |bis a _ _ _ e _ _ _ _=>exact vY E a e
def Yw7(hd:DerOK d)(N:∀x∈d.lv,x≠DQ){y:Cse}(E:me=0\/me=1)(aa:0<=now/\now<=1073741824)(ab:y.ph=2)(hc:Com d me y now)(ac:y.dl=now+1440)(hb:BisOK d me y.b)(t0:y.b.t0=f_)(t1:y.b.t1=f_)(ad:FM y.c0 y.c1=0):
  (JD d.code d.env y now).2=0/\GInv d me (FH d (FH d (JD d.code d.env y now).1 me now) me now) now:=by obtain⟨a,b⟩:=xx hd N E aa ab hc ac hb t0 t1 ad;exact⟨a,by rw[yMj E b];exact b⟩
theorem YFk{b:Bis}{l r:Dig}(aa:me=0\/me=1)(hb:BisOK d me b)(hl:0<b.l)(hL:(if me=0 then b.l0 else b.l1)=FX d.lv (b.l-1).toNat (2*b.i))(hR:(if me=0 then b.r0 else b.r1)=FX d.lv (b.l-1).toNat (2*b.i+1))(N:HS l r=Rx b (1-me)):
  BisOK d me (M6 (Ej b (1-me) l r))/\(M6 (Ej b (1-me) l r)).t0=f_/\(M6 (Ej b (1-me) l r)).t1=f_:=by
 obtain⟨v1,v2,v3,v4,v5,v6,v7⟩:=Rn hb.val;have ae:=Ytp d.lv (lv:=b.l) (i:=b.i) zaa v5;have hm:=hb.mine;have af:=hb.ne
 have ah:(2:Int)^(b.h-(b.l-1)).toNat=2^(b.h-b.l).toNat*2:=by
  rw[show(b.h-(b.l-1)).toNat=(b.h-b.l).toNat+1 by omega,Int.pow_succ]
 have val:∀(i:Int)(n0 n1:Dig),i=2*b.i\/i=2*b.i+1->Js {GJ with h:=b.h,l:=b.l-1,i:=i,n0:=n0,n1:=n1,r:=b.r+1}=t_:=λi n0 n1 hi=>by
  unfold Js;grind
 rcases aa with rfl|rfl
 .rw[zae rfl]at hL hR hm;have N:HS l r=b.n1:=N;have E:Ej b (1-0) l r={b with t1:=t_,l1:=l,r1:=r}:=zaf zab;rw[E];unfold M6;dsimp only
  by_cases h:b.l0=l
  .rw[zae h];refine⟨⟨val _ _ _ (.inr rfl),?_,?_⟩,rfl,rfl⟩
   .grind
   .grind
  .rw[zaf h];refine⟨⟨val _ _ _ (.inl rfl),h,?_⟩,rfl,rfl⟩;grind
 .rw[zaf zab]at hL hR hm;have N:HS l r=b.n0:=N;have E:Ej b (1-1) l r={b with t0:=t_,l0:=l,r0:=r}:=zae zab;rw[E];unfold M6;dsimp only
  by_cases h:l=b.l1
  .rw[zae h];refine⟨⟨val _ _ _ (.inr rfl),?_,?_⟩,rfl,rfl⟩
   .grind
   .grind
  .rw[zaf h];refine⟨⟨val _ _ _ (.inl rfl),h,?_⟩,rfl,rfl⟩;grind
theorem Com.mono(h:Com d me c now)(hn:now<=now'):Com d me c now':=⟨h.amt,h.cmt,by have:=h.dl;omega,h.ct⟩
theorem GInv.mono(h:GInv d me c now)(hn:now<=now'):GInv d me c now':=by
 cases h with
 |over a b=>exact .over a b
 |wait a b c=>exact .wait a b (c.mono hn)
 |bis a b c e f g h i j=>exact .bis a (b.mono hn) c e f g h i j
def yUo(N:me=0\/me=1)(h:GInv d me c now)(hn:now<=now')(E:c.ph=2):GInv d me (FH d (FH d c me now') me now') now':=by have t:=Ywf h E;rw[vY N E t,vY N E t];exact h.mono hn
theorem Yo2(hd:DerOK d)(ac:∀x∈d.lv,x≠DQ)(N:me=0\/me=1)(ad:0<=now'/\now'<=1073741824)(hn:now<=now')(h:GInv d me c now)(ab:c.ph=2)(hm:m.pt=1-me)(hk:1<=m.kd/\m.kd<=7)(E:(Ho d.code d.env c m now').2=0):
  GInv d me (FH d (FH d (Ho d.code d.env c m now').1 me now') me now') now':=by
 have hs:=yUo N h hn ab
 have ⟨hc,hb,hl,t1,t2,ae,hL,hR⟩:Com d me c now/\BisOK d me c.b/\0<c.b.l/\Lf c.b me=t_/\Lf c.b (1-me)=f_/\FM c.c0 c.c1=0/\(if me=0 then c.b.l0 else c.b.l1)=FX d.lv (c.b.l-1).toNat (2*c.b.i)/\(if me=0 then c.b.r0 else c.b.r1)=FX d.lv (c.b.l-1).toNat (2*c.b.i+1):=by
  cases h with
  |over h1 _=>unfold HV at h1;omega
  |wait h1 _ _=>omega
  |bis _ a b c e f g h i=>exact⟨a,b,c,e,f,g,h,i⟩
 unfold Ho at E⊢
 by_cases k1:m.kd=1
 .rw[zae k1]at E;unfold Ml at E;grind
 rw[zaf k1]at E⊢
 by_cases k2:m.kd=2
 .rw[zae k2]at E⊢;unfold Rw at E⊢;rw[zae ab,hm]at E⊢
  by_cases hE:GW c.b (1-me) m.lf m.rt=0
  .rw[zae hE]at E⊢
   have hp:HS m.lf m.rt=Rx c.b (1-me):=by
    unfold GW at hE;grind
   have hD:GI c.b (1-me) m.lf m.rt=M6 (Ej c.b (1-me) m.lf m.rt):=by
    unfold GI;rw[zae ⟨hb.val,zaa⟩,zaf (by rw[t2];simp;omega),zae hp,zae (by rw[show 1-(1-me)=me by omega];exact t1)]
   obtain⟨s1,s2,s3⟩:=YFk N hb hl hL hR hp
   have hr:(M6 (Ej c.b (1-me) m.lf m.rt)).r=c.b.r+1:=by
    unfold M6 Ej;split<;>split<;>rfl
   rw[hD,zaf (by rw[hr];omega)]at E⊢;exact(Yw7 (y:={c with b:=M6 (Ej c.b (1-me) m.lf m.rt),dl:=now'+1440}) hd ac N ad ab ⟨hc.amt,hc.cmt,CA _,hc.ct⟩ rfl s1 s2 s3 ae).2
  .grind
 rw[zaf k2]at E⊢
 by_cases k3:m.kd=3
 .rw[zae k3]at E;unfold Pb at E;have:Hp c m.pt=(0,f_):=by unfold Hp;rw[YYN]
  grind
 rw[zaf k3]at E⊢
 by_cases k4:m.kd=4
 .rw[zae k4]at E⊢;unfold UQ at E⊢
  by_cases hp:m.pt=0
  .rw[zae hp]at E⊢;refine YL (.inr (.inl rfl)) ?_;unfold MD;grind
  .grind
 rw[zaf k4]at E⊢
 by_cases k5:m.kd=5
 .rw[zae k5]at E⊢;unfold UJ at E⊢
  by_cases hp:m.pt=1
  .rw[zae hp]at E⊢;obtain rfl:me=0:=zaa
   obtain⟨f1,f2⟩:=qV (now:=now') N hc.amt;exact YL f1 f2
  .have:=hc.ct zaa;grind
 rw[zaf k5]at E⊢
 by_cases k6:m.kd=6
 .rw[zae k6]at E;unfold UE at E;grind
 rw[zaf k6]at E;unfold sG at E;grind
theorem Yxc(hd:DerOK d)(a4:me=0\/me=1)(N:0<=now/\now<=1073741824)(aa:x.ph=3)(a5:now<=x.dl)(a6:FM x.c0 x.c1=380)(ah:G9 x me=Fg d.lv):FH d x me now=Oq x d.am:=by
 have he:=hd.ver;have hlen:=hd.lv_len;have hL:=hd.lv;obtain⟨Dm,tl,hD,ht,hr,b2,hg⟩:=T5 (v:=d.env) he;have a0:=yU (v:=d.env) he;have a9:(Ka d.code d.env).length=d.lv.length:=by rw[hL];simp
 have a1:Ka d.code d.env≠[]:=by rw[ht];simp
 have r1:(Fg d.lv).1=(d.lv.length:Int):=by rw[W8 d.lv zaa]
 obtain⟨i,hi⟩:∃i:Nat,d.lv.length=i+1:=⟨d.lv.length-1,zaa⟩;have E:=Ygp a1;rw[a9,hi,B8]at E;obtain⟨s,hs⟩:∃s,J7 (Ka d.code d.env)=s:=⟨_,rfl⟩;rw[hs]at E;have ab:=hr;rw[<-ht]at ab;have hs0:s.status≠0:=(RunOK.get ab E).2 zaa;have ac:=Ak E;have bb:=a0 s ac;have b3:d.am=(Er s).1:=by rw[hd.am,hs]
 have hq:Hp x me=((i:Int),t_):=by
  have h1:G5 x me=(i:Int)+1:=by
   unfold G5;grind
  unfold Hp;grind
 have bd:Gu d.code d.env (i:Int)=(s,0):=by
  unfold Gu;rw[zae he,YYN,AH,E]
 have ad:F7 d x me={FG with kd:=3,pt:=me,op:=Fl s 3,path:=I4 d.lv (i:Int)}:=by
  unfold F7;rw[YYN,YYN,hq,bd]
 have be:d.lv.getD i default=Em d.code d.env s:=by rw[hL,Am,AI,E];rfl
 have bf:FX d.lv 0 (i:Int)=Em d.code d.env s:=by rw[<-be];exact Yk8 d.lv i zaa
 have a2:(i:Int)<2^(Ep d.lv.length).toNat:=by
  have:=yOt (n:=(d.lv.length:Int)) zaa zaa;omega
 have a3:Jw (G9 x me) (i:Int) (Em d.code d.env s) (I4 d.lv (i:Int))=t_:=by
  rw[ah,<-bf];exact yxe d.lv (i:Int) zaa zaa a2
 have bg:=wV (c:=d.code) (v:=d.env) (U1 s 3) bb;obtain⟨t1,t2,t3⟩:=Yps (n:=3) zab (Ycy s ac)
 have ho:Pb d.code d.env x (F7 d x me)=(Oq x d.am,0):=by
  rw[ad];unfold Pb;rw[show({FG with kd:=3,pt:=me,op:=Fl s 3,path:=I4 d.lv (i:Int)}:Mv).pt=me from rfl,hq,zae rfl,a6,zae rfl];dsimp only;rw[bg,zae a3];have b1:(Fl s 3).status=s.status:=rfl;grind
 have hk:(F7 d x me).kd=3/\(F7 d x me).pt=me:=by rw[ad];exact⟨rfl,rfl⟩
 have ae:Ho d.code d.env x (F7 d x me) now=(Oq x d.am,0):=by
  unfold Ho;grind
 have ha:Gz (F7 d x me) now:=by
  unfold Gz;rw[hk.1,hk.2];exact⟨⟨zab,zab⟩,N.1,N.2,a4⟩
 have af:Hr d.code d.env x (F7 d x me) now=0:=by rw[WQ (.inr (.inr aa)) ha a5,ae]
 unfold FH;rw[zae (.inr (.inr aa)),zae af,SJ af,ae]
variable{a:Int×Dig}
theorem Yk2{b:Int×Dig}(h:FM a b=0):Kl a b=NC a b:=by unfold FM at h;unfold Kl;grind
theorem Ysj{b:Int×Dig}(h:FM a b=0):(NC a b).n0≠(NC a b).n1:=by unfold FM at h;grind
theorem yXs(hd:DerOK d){b:Int×Dig}(N:me=0\/me=1)(E:(if me=0 then a else b)=Fg d.lv)(h:FM a b=0):BisOK d me (Kl a b)/\(Kl a b).t0=f_/\(Kl a b).t1=f_:=by
 have hlen:=hd.lv_len;have e:=Yk2 h;have hn:=Ysj h;have da:=ZB a.1;have db:=ZB b.1
 have h1:0<=Ep a.1/\0<=Ep b.1:=by
  unfold FM at h;omega
 rw[e];refine⟨⟨?_,hn,?_⟩,rfl,rfl⟩
 .unfold Js NC;grind
 .have hr:(Fg d.lv).1=(d.lv.length:Int):=by rw[W8 d.lv zaa]
  unfold NC;dsimp only;rcases N with rfl|rfl
  .rw[zae rfl]at E⊢;subst E;exact yM8 d.lv zaa _ (by rw[<-hr];omega)
  .rw[zaf zab]at E⊢;subst E;exact yM8 d.lv zaa _ (by rw[<-hr];omega)
theorem yXw(hd:DerOK d)(ad:∀x∈d.lv,x≠DQ)(N:me=0\/me=1)(aa:0<=now/\now<=1073741824)(af:me=1->x.ct<0)(ha:(if me=0 then x.a0 else m.am)=d.am)(hc:(if me=0 then x.c0 else m.cm)=Fg d.lv)(E:(Ml d.code d.env x m now).2=0):
  GInv d me (FH d (Ml d.code d.env x m now).1 me now) now:=by
 obtain⟨_,bf,_⟩:=OV hd.ver;unfold Ml at E⊢
 by_cases h1:m.pt=1/\x.ph=1
 case neg=>rw[zaf h1]at E;exact absurd (show(380:Int)=0 from E) zab
 rw[zae h1]at E⊢
 by_cases h2:Ft m.am
 case neg=>rw[zaf h2]at E;exact absurd (show(1:Int)=0 from E) zab
 rw[zae h2]at E⊢;dsimp only at E⊢
 by_cases h3:FM x.c0 m.cm=1
 .grind
 rw[zaf h3]at E⊢
 by_cases h4:FM x.c0 m.cm=0
 .rw[zae h4]at E⊢;obtain⟨b1,b2,b3⟩:=yXs hd N hc h4;have hy:∀y:Cse,y.ph=2->y.dl=now+1440->y.b=Kl x.c0 m.cm->OZ y me=d.am->G9 y me=Fg d.lv->(me=1->y.ct<0)->FM y.c0 y.c1=0->GInv d me (FH d (JD d.code d.env y now).1 me now) now:=λy e1 e2 e3 e4 e5 e6 e7=>(xx hd ad N aa e1 ⟨e4,e5,zaa,e6⟩ e2 (by rw[e3];exact b1) (by rw[e3];exact b2) (by rw[e3];exact b3) e7).2;exact hy _ rfl rfl rfl ha hc af h4
 rw[zaf h4]at E⊢;have ab:FM x.c0 m.cm=380:=by rcases Ysk x.c0 m.cm with h|h|h<;>omega
 by_cases h5:x.a0=m.am
 .rw[zae h5]at E⊢
  have hm:m.am=d.am:=by
   omega
  rw[bq (show HV (Gh {x with a1:=m.am,c1:=m.cm} 1)from .inl rfl)];refine .over (.inl rfl) ?_
  show MD d me (LD {x with a1:=m.am,c1:=m.cm} 1 m.am)
  unfold MD
  split
  .exact λ_=>hm
  .rename_i hw;have hw:¬((4:Int)=5\/(1:Int)=me):=hw;obtain rfl:me=0:=zaa
   rw[zae rfl]at hc;exact⟨by rw[<-hc];exact ab,hm⟩
 rw[zaf h5,YYN]at E⊢;have hl:FH d (M9 {x with a1:=m.am,c1:=m.cm} now) me now=Oq (M9 {x with a1:=m.am,c1:=m.cm} now) d.am:=Yxc hd N aa rfl (zaa:now<=now+1440) ab hc;dsimp only;rw[hl]
 have hf:HV (Oq (M9 {x with a1:=m.am,c1:=m.cm} now) d.am)/\MD d me (Oq (M9 {x with a1:=m.am,c1:=m.cm} now) d.am):=by
  refine⟨.inl rfl,?_⟩
  have hw:(Oq (M9 {x with a1:=m.am,c1:=m.cm} now) d.am).wn=me:=by
   show(if x.a0=d.am then(0:Int)else if m.am=d.am then 1 else -1)=me
   omega
  unfold MD;rw[zae (.inr hw)];exact λ_=>rfl
 exact .over hf.1 hf.2
def YDb(hd:DerOK d)(N:∀x∈d.lv,x≠DQ)(E:me=0\/me=1)(aa:0<=now/\now<=1073741824)(ab:me=1->x.ct<0)(ha:(if me=0 then x.a0 else m.am)=d.am)(hc:(if me=0 then x.c0 else m.cm)=Fg d.lv)(he:(Ml d.code d.env x m now).2=0):
  GInv d me (FH d (FH d (Ml d.code d.env x m now).1 me now) me now) now:=by have b:=yXw hd N E aa ab ha hc he;rw[yMj E b];exact b
def Wl(E:c.ph=1):FH d c 0 now=c:=zaf zaa
theorem Yfy(hd:DerOK d)(N:∀x∈d.lv,x≠DQ)(aa:0<=now'/\now'<=1073741824)(hn:now<=now')(hc:Com d 0 c now)(ac:c.ph=1)(hm:m.pt=1)(hk:1<=m.kd/\m.kd<=7)(E:(Ho d.code d.env c m now').2=0):
  GInv d 0 (FH d (FH d (Ho d.code d.env c m now').1 0 now') 0 now') now':=by
 unfold Ho at E⊢
 by_cases k1:m.kd=1
 .rw[zae k1]at E⊢;exact YDb hd N (.inl rfl) aa (λh=>absurd h zab) hc.amt hc.cmt E
 rw[zaf k1]at E⊢
 by_cases k2:m.kd=2
 .rw[zae k2]at E;unfold Rw at E;grind
 rw[zaf k2]at E⊢
 by_cases k3:m.kd=3
 .rw[zae k3]at E;unfold Pb at E;have:Hp c m.pt=(0,f_):=by unfold Hp;rw[YYN]
  grind
 rw[zaf k3]at E⊢
 by_cases k4:m.kd=4
 .rw[zae k4]at E;unfold UQ at E;grind
 rw[zaf k4]at E⊢
 by_cases k5:m.kd=5
 .rw[zae k5]at E⊢;unfold UJ at E⊢;rw[zae hm]at E⊢;obtain⟨f1,f2⟩:=qV (now:=now') (.inl rfl) hc.amt;exact YL f1 f2
 rw[zaf k5]at E⊢
 by_cases k6:m.kd=6
 .rw[zae k6]at E⊢;unfold UE at E⊢
  by_cases q1:m.pt=1/\c.ph=1/\c.ct<0
  .rw[zae q1]at E⊢
   by_cases q2:0<=m.am/\Ft m.am
   .rw[zae q2]at E⊢;dsimp only;have hp:({c with ct:=m.am,dl:=now'+1440}:Cse).ph=1:=ac;rw[Wl hp,Wl hp];exact .wait hp rfl ⟨hc.amt,hc.cmt,CA _,λh=>absurd h zab⟩
   .grind
  .grind
 rw[zaf k6]at E;unfold sG at E;grind
def Yv9(hd:DerOK d)(E:∀x∈d.lv,x≠DQ)(N:me=0\/me=1)(aa:0<=now'/\now'<=1073741824)(hn:now<=now')(h:GInv d me c now)(hm:m.pt=1-me):
  GInv d me (FH d (FH d (if Hr d.code d.env (Jr c now') m now'=0 then LB d.code d.env (Jr c now') m now' else Jr c now') me now') me now') now':=by
 by_cases hp:Hq c
 case neg=>
  have ho:HV c/\MD d me c:=by
   cases h with
   |over a b=>exact⟨a,b⟩
   |wait a _ _=>exact absurd (.inl a) hp
   |bis a _ _ _ _ _ _ _ _=>exact absurd (.inr (.inl a)) hp
  rw[yM9 ho.1,zaf (yG7 ho.1)];exact YL ho.1 ho.2
 by_cases hl:c.dl<now'
 .obtain⟨f1,f2⟩:=yL2 N h hl hp;rw[zaf (yG7 f1)];exact YL f1 f2
 have ht:Jr c now'=c:=zaf λq=>hl q.2;rw[ht]
 by_cases he:Hr d.code d.env c m now'=0
 .rw[zae he,SJ he];obtain⟨_,q2,_,q4⟩:=Yex he
  cases h with
  |over a b=>exact absurd hp (WJ a)
  |wait a b e=>
   subst b;exact Yfy hd E aa hn e a zaa q2.1 q4
  |bis a b e f g i j k l=>exact Yo2 hd E N aa hn (.bis a b e f g i j k l) a hm q2.1 q4
 .rw[zaf he]
  cases h with
  |over a b=>exact absurd hp (WJ a)
  |wait a b e=>
   subst b;rw[Wl a,Wl a];exact .wait a rfl (e.mono hn)
  |bis a b e f g i j k l=>exact yUo N (.bis a b e f g i j k l) hn a
def YKk(N:me=0\/me=1)(h:GInv d me c now):HV (Jr c (now+1441))/\MD d me (Jr c (now+1441)):=by
 by_cases E:Hq c
 .have hl:c.dl<now+1441:=by
   cases h with
   |over a b=>exact absurd E (WJ a)
   |wait _ _ e=>have:=e.dl;omega
   |bis _ b _ _ _ _ _ _ _=>have:=b.dl;omega
  exact yL2 N h hl E
 .have ho:HV c/\MD d me c:=by
   cases h with
   |over a b=>exact⟨a,b⟩
   |wait a _ _=>exact absurd (.inl a) E
   |bis a _ _ _ _ _ _ _ _=>exact absurd (.inr (.inl a)) E
  rw[yM9 ho.1];exact ho
theorem Yld(hd:DerOK d)(N:∀x∈d.lv,x≠DQ)(E:me=0\/me=1)(aa:0<=now/\now<=1073741824)(ad:me=1->x.ct<0)(ha:(if me=0 then x.a0 else m.am)=d.am)(hc:(if me=0 then x.c0 else m.cm)=Fg d.lv)(h1:m.pt=1/\x.ph=1)(h2:Ft m.am)(h3:FM x.c0 m.cm≠1):(Ml d.code d.env x m now).2=0:=by
 unfold Ml;rw[zae h1,zae h2];dsimp only;rw[zaf h3]
 by_cases h4:FM x.c0 m.cm=0
 .rw[zae h4];obtain⟨b1,b2,b3⟩:=yXs hd E hc h4;have hy:∀y:Cse,y.ph=2->y.dl=now+1440->y.b=Kl x.c0 m.cm->OZ y me=d.am->G9 y me=Fg d.lv->(me=1->y.ct<0)->FM y.c0 y.c1=0->(JD d.code d.env y now).2=0:=λy e1 e2 e3 e4 e5 e6 e7=>(xx hd N E aa e1 ⟨e4,e5,zaa,e6⟩ e2 (by rw[e3];exact b1) (by rw[e3];exact b2) (by rw[e3];exact b3) e7).1;exact hy _ rfl rfl rfl ha hc ad h4
 grind
theorem Ymi(hd:DerOK d)(ab:∀x∈d.lv,x≠DQ){cm:Int×Dig}(af:me=0\/me=1)(ah:Ft d.am)(h0:me=0->n=d.am/\cm=Fg d.lv)(he:Ie 0 1 n cm 1000=0):GInv d me (FH d (FH d (OK LX 0 1 n cm 1000) me 1000) me 1000) 1000:=by
 have ec:OK LX 0 1 n cm 1000=⟨LX,0,1,1,1000+1440,n,0,cm,(0,DX),GJ,-1,0,-1,[]⟩:=zae he
 have ac:0<=cm.1/\cm.1<=65536:=by
  unfold Ie at he;omega
 have hlen:=hd.lv_len;have hr:(Fg d.lv).1=(d.lv.length:Int):=by rw[W8 d.lv zaa]
 rw[ec];generalize N:(⟨LX,0,1,1,1000+1440,n,0,cm,(0,DX),GJ,-1,0,-1,[]⟩:Cse)=c;have q1:c.ph=1:=by rw[<-N]
 have q2:c.dl=2440:=by rw[<-N];rfl
 have q3:c.a0=n:=by rw[<-N]
 have q4:c.c0=cm:=by rw[<-N]
 have q5:c.ct=-1:=by rw[<-N]
 rcases af with rfl|rfl
 .rw[Wl q1,Wl q1];obtain⟨e1,e2⟩:=h0 rfl;exact .wait q1 rfl ⟨by show c.a0=d.am;omega,by show c.c0=_;rw[q4,e2],zaa,λh=>absurd h zab⟩
 .have E:F7 d c 1={FG with kd:=1,pt:=1,am:=d.am,cm:=Fg d.lv}:=zae q1
  have hb:FM c.c0 (Fg d.lv)≠1:=by
   have d1:=Qg (n:=cm.1) ac.1 ac.2;have d2:=Qg (n:=(Fg d.lv).1) zaa zaa;unfold FM;grind
  have hz:(Ml d.code d.env c (F7 d c 1) 1000).2=0:=Yld hd ab (me:=1) (.inr rfl) ⟨zab,zab⟩ (λ_=>zaa) (by rw[E];rfl) (by rw[E];rfl) (by rw[E];exact⟨rfl,q1⟩) (by rw[E];exact ah) (by rw[E];exact hb)
  have ad:Ho d.code d.env c (F7 d c 1) 1000=Ml d.code d.env c (F7 d c 1) 1000:=by
   unfold Ho;rw[zae (by rw[E])]
  have hp:Hq c:=.inl q1;have ha:Gz (F7 d c 1) 1000:=by rw[E];exact⟨⟨show(1:Int)<=1 by decide,show(1:Int)<=7 by decide⟩,zab,zab,.inr rfl⟩
  have ae:Hr d.code d.env c (F7 d c 1) 1000=0:=by rw[WQ hp ha zaa,ad,hz]
  have a3:FH d c 1 1000=(Ml d.code d.env c (F7 d c 1) 1000).1:=by
   have e:FH d c 1 1000=if Hr d.code d.env c (F7 d c 1) 1000=0 then LB d.code d.env c (F7 d c 1) 1000 else c:=zae (.inl ⟨q1,zab⟩)
   rw[e,zae ae,SJ ae,ad]
  rw[a3];exact yXw hd ab (.inr rfl) ⟨zab,zab⟩ (λ_=>zaa) (by rw[E];rfl) (by rw[E];rfl) hz
instance:Inhabited Mv:=⟨FG⟩
def cZ(t:Int×Mv):List Sg:=.c (I J t.1)::OA t.2
def Pl(t:Int×Mv):List D:=I J t.1::Ki t.2
def LV(t:Int×Mv):D:=U (Pl t)
def yGg(t:Int×Mv):(Pl t).length=145:=by simp[Pl,W5]
def Yma(t:Int×Mv):(Pl t).all yaa=t_:=by simp only[Pl,AQ,bn,B9];rfl
def pG(t:Int×Mv):Lt (cZ t):=trivial
def YJb(st:St)(l:List (Int×Mv))(t:Bool)(i:Nat)(h:i<l.length):ER st 145 (O (nz 145 (l.map LV)) (l.map LV) t) (I J (i:Int))=s_ (.eptr (LV (l.getD i default)) 0):=by have:=Mr st 145 LV l t J (i:Int) zaa zaa;simpa using this
def X9(st:St)(x:Int×Mv):Fa st 145 t_ (.eptr (LV x) 0)=s_ (LV x):=by simp[Fa,LV,yaZ,D.mk,AE,yGg]
def TK:List D:=I J 0::E1
theorem V6:DM (U (I J 0::E1))=s_ TK:=(rfl)
def XF(y:Int×Mv):DV (s_ (zzB TK)) 145 0 (LV y)=s_ (zzB (Pl y)):=Hs 1 _ _ 145 (by simp[TK,TS]) (yGg y) (Yma y)
section
variable(t:Int×Mv) (lent:Bool)
def Xx:DB (s_ ⟨f_,1,Pl t,lent⟩) 1 f_ 0=s_ (I J t.1):=JK (l:=cZ t) rfl rfl (pG t)
def vB:DB (s_ ⟨f_,1,Pl t,lent⟩) 1 f_ 105=s_ (EK t.2.op.top):=JK (l:=cZ t) rfl rfl (pG t)
def qK:DB (s_ ⟨f_,1,Pl t,lent⟩) 1 f_ 139=s_ (Hj t.2.path):=JK (l:=cZ t) rfl rfl (pG t)
def YHy:DB (s_ ⟨f_,1,Pl t,lent⟩) 144 t_ 1=s_ (Kh t.2):=LP (l:=cZ t) rfl rfl (pG t) rfl
end
def Yte(m:Mv):DV (s_ (zzB E1)) 144 0 (Kh m)=s_ (zzB (Ki m)):=Hs 1 _ _ 144 TS (W5 m) (bn m)
def Yti(m:Mv)(n:Int):DV (s_ (zzB (Ki m))) 1 1 (I J n)=s_ (zzB (Ki {m with pt:=n})):=LS (l:=OA m) (X:=[.c (I J n)]) rfl rfl (sK m) rfl rfl rfl rfl
theorem Yks:DM (U E1)=s_ E1:=(rfl)
def Yym(hd:DerOK d)(E:Ft d.am):Ie 0 1 d.am (Fg d.lv) 1000=0:=by
 have hlen:=hd.lv_len;have N:(Fg d.lv).1=(d.lv.length:Int):=by rw[W8 d.lv zaa]
 unfold Ft at E;unfold Ie;rw[zaf (by unfold Ft;omega),YYN]
def vV(n:Nat)(σ:List Nat)(v:zIL):(Eo v).map (ED n σ)=Eo v:=OW n σ (SK v)
def Yhl(v:zIL):(Eo v).flatMap hk=[]:=Qh (SK v)
def yW(n:Nat)(σ:List Nat)(d:Der):(DH (D9 d.code) d.env d.am d.er (Fy d.lv)).map (ED n σ)=DH (D9 d.code) d.env d.am d.er (Fy d.lv):=OW n σ (kI d)
def wL(d:Der):(DH (D9 d.code) d.env d.am d.er (Fy d.lv)).flatMap hk=[]:=Qh (kI d)
def yOz(c:Int×Dig):(Hb c).all E2=t_:=by simp[Hb,E2,MM]
def xn(n:Nat)(σ:List Nat)(c:Int×Dig):(Hb c).map (ED n σ)=Hb c:=OW n σ (yOz c)
def uT(c:Int×Dig):(Hb c).flatMap hk=[]:=Qh (yOz c)
def YH1(x:Cse)(j:D)(lent:Bool)(E:p=0\/p=1):DB (s_ ⟨f_,1,DF x j,lent⟩) 33 t_ (11+p.toNat*33)=s_ (U (Hb (G9 x p))):=by
 rcases E with rfl|rfl
 .exact LP (l:=Fp x j) rfl rfl (Kn x j) (by simp[DC,ybI,G9,Hb])
 .exact LP (l:=Fp x j) rfl rfl (Kn x j) (by simp[DC,ybI,G9,Hb])
def U2(x y:Cse)(j:D):DV (s_ (zzB (DF x j))) 279 0 (DY y)=s_ (zzB (DF y (DZ y.jn))):=Hs 1 _ _ 279 (NS _ _) (NS _ _) (Qa y rfl)
def Ymb(N:me=0\/me=1)(h:GInv d me c now)(E:(Jr c now').ph=1):me=0:=by
 unfold Jr at E
 split at E
 .exact absurd (show(6:Int)=1 from E) zab
 .cases h with
  |over a _=>unfold HV at a;omega
  |wait _ a _=>exact a
  |bis a _ _ _ _ _ _ _ _=>omega
abbrev kz:Tbl:=tb [(4,xK),(5,zJ),(6,xJ),(7,YY),(8,WA),(9,vQ),(10,xT),(11,Qf),(12,WB),(13,Qk)] []
def yRx(b7:zLB)(v:zIL)(ae:Et v)(me:Int)(da:-9223372036854775808<=me)(db:me<9223372036854775808)(ad:Int)(dc:-9223372036854775808<=ad)(dd:ad<9223372036854775808)(bc:Int×Dig)(E:List (Int×Mv))(de:E.length<=maxLen):@wW GG kz oi.1.code (Du [.str b7,EO v,I J me,I J ad,U (I J bc.1::Dr bc.2),O (nz 145 (E.map LV)) (E.map LV) f_]) [] ⟨DN oi.1.res (V t_)⟩:=by
 obtain⟨os,og⟩:=bc;have lt:∀st,E0 st f_ (O (nz 145 (E.map LV)) (E.map LV) f_)=s_ (I J (E.length:Int)):=λst=>by simp[E0,Kk,FB]
 have fk:Ec [I J 0,I J 0,I J 0,I J 0,I J 0] [(0,1,I J 1)]=s_ (Mg LX):=rfl;have ak:D.agg (Mg LX)=KB LX:=rfl;have a9:∀x:Cse,DV (s_ (zzB GR)) 279 0 (DY x)=s_ (zzB (DF x (DZ x.jn))):=λx=>WC x (DZ x.jn) rfl 1;obtain⟨d,ok,gh,N,c0⟩:=iB b7 ae;have ac:∀lent,DB (s_ ⟨f_,1,DH (D9 d.code) d.env d.am d.er (Fy d.lv),lent⟩) 1 f_ 18=s_ (I J d.am):=λlent=>yV5 N lent _ _ _ _;have l0:∀lent,DB (s_ ⟨f_,1,DH (D9 d.code) d.env d.am d.er (Fy d.lv),lent⟩) 1 f_ 0=s_ (D9 d.code):=λlent=>vw d.env lent (D9 d.code) (Fy d.lv) d.am d.er;have l1:∀lent,DB (s_ ⟨f_,1,DH (D9 d.code) d.env d.am d.er (Fy d.lv),lent⟩) 17 t_ 1=s_ (EO d.env):=λlent=>vz N lent (D9 d.code) (Fy d.lv) d.am d.er;have b8:∀st,D2 st (D9 d.code)=s_ (D9 d.code):=λst=>by simp only[D9,D2,DO,Jq]
 have b9:keys (D9 d.code)=[]:=rfl;unfold oi;cases ok
 case false=>simp(disch:=first|omega|decide) only[push_cast,↓reduceIte,C3,C6,Da,SP,FY,OM,QX,Mq,Sz N,HK ae,Gc,G2,gh,OM]
 have hd:=DerOK.of ae (c0 rfl);have hlen:=hd.lv_len
 by_cases ah:me=0\/me=1
 case neg=>
  have n0:¬me=0:=λh=>ah (.inl h);have n1:¬me=1:=λh=>ah (.inr h);simp(disch:=first|omega|decide) only[push_cast,↓reduceIte,C3,C6,Da,SP,FY,OM,QX,Mq,Sz N,HK ae,Gc,G2,gh,zai,zaw n0,zaw n1]
 have hf:((me=0)=True/\(me=1)=False)\/((me=0)=False/\(me=1)=True):=by
  rcases ah with h|h<;>simp[h]
 by_cases t14:(14:Int)<E.length
 .rcases hf with⟨f0,f1⟩|⟨f0,f1⟩<;>simp(disch:=first|omega|decide) only[push_cast,↓reduceIte,C3,C6,Da,SP,FY,OM,QX,Mq,Sz N,HK ae,Gc,G2,lt,gh,zah,zai,f0,f1,t14]
 by_cases a1:d.am < -9007199254740992
 .rcases hf with⟨f0,f1⟩|⟨f0,f1⟩<;>simp(disch:=first|omega|decide) only[push_cast,↓reduceIte,C3,C6,Da,SP,FY,OM,QX,Mq,Sz N,ac,HK ae,Gc,G2,lt,gh,zah,zai,f0,f1,t14,a1]
 by_cases a2:9007199254740992<d.am
 .rcases hf with⟨f0,f1⟩|⟨f0,f1⟩<;>simp(disch:=first|omega|decide) only[push_cast,↓reduceIte,C3,C6,Da,SP,FY,OM,QX,Mq,Sz N,ac,HK ae,Gc,G2,lt,gh,zah,zai,f0,f1,t14,a1,a2]
 have ca:Ft d.am:=⟨zaa,zaa⟩;have a6:=Ybt d ⟨N,zaa⟩;cases hp:Pc d.lv
 case true=>
  rw[hp]at a6;rcases hf with⟨f0,f1⟩|⟨f0,f1⟩<;>simp(disch:=first|omega|decide) only[push_cast,↓reduceIte,C3,C6,Da,SP,FY,OM,QX,Mq,Sz N,P6 N,ac,P5,HK ae,Gc,G2,lt,gh,zah,zai,f0,f1,t14,a1,a2,a6]
 rw[hp]at a6
 have bd:∀x∈d.lv,x≠DQ:=λx hx e=>by
  have:=List.any_eq_false.1 hp x hx;simp[e]at this
 have be:YY [EX d]=s_ (.tup [U (Hb (Fg d.lv)),I J (Jj d.lv)]):=yH1 d N;have c1:Jj d.lv=0:=zae zaa;rw[c1]at be;obtain⟨n,hn⟩:∃n,(if me=0 then d.am else ad)=n:=⟨_,rfl⟩;obtain⟨cm,af⟩:∃c,(if me=0 then Fg d.lv else(os,og))=c:=⟨_,rfl⟩;have q1:WA [KB LX,I J 0,I J 1,I J n,U (Hb cm),I J 1000]=_:=yIb LX 0 1 n cm 1000
 by_cases he:Ie 0 1 n cm 1000=0
 case neg=>
  have m1:¬me=0:=λh=>by
   rw[zae h]at hn af;subst hn af;exact he (Yym hd ca)
  rw[zaf m1]at hn af;subst hn af;have f1:(me=1)=True:=zap zaa;generalize Ie 0 1 ad (os,og) 1000=e at q1 he;simp(disch:=first|omega|decide) only[push_cast,↓reduceIte,C3,C6,Da,SP,FY,OM,QX,Yda,oN,br,wQ,Mq,Sz N,P6 N,ac,P5,SF,H8,a9,HK ae,Gc,G2,fk,ak,Yhc,uZ,lt,gh,zah,zai,zaw m1,f1,t14,a1,a2,a6,be,q1,zaw he]
 rw[he]at q1;have gS:=Ymi hd bd ah ca (n:=n) (cm:=cm) (λh=>by rw[zae h]at hn af;exact⟨hn.symm,af.symm⟩) he;generalize OK LX 0 1 n cm 1000=X at q1 gS;have vd:Et d.env/\d.code.length<=4096/\(FQ d.code).2=0:=⟨N,by have:=hd.len;omega,hd.ver⟩;have r1:=WU d X me 1000 vd;have r2:=WU d (FH d X me 1000) me 1000 vd;generalize FH d X me 1000=X1 at r1 r2 gS;generalize FH d X1 me 1000=X2 at r2 gS;rcases hf with⟨f0,f1⟩|⟨f0,f1⟩
 all_goals
  simp only[f0,zaj,zam]at hn af;subst hn af;simp(disch:=first|omega|decide) only[push_cast,↓reduceIte,C3,C6,Da,SP,FY,OM,QX,Yda,oN,br,wQ,Mq,Sz N,P6 N,ac,P5,SF,H8,a9,U2,Gj,Hf,Gi,I7,HK ae,Gc,G2,fk,ak,Yhc,uZ,lt,gh,zah,zai,f0,f1,t14,a1,a2,a6,be,q1,r1,r2];refine Gn (λk:Nat×Cse×Int=>[(2,I J me),(13,Y 2 0),(15,Y 3 0),(17,I J k.2.2),(18,Y 4 0),(94,O (nz 145 (E.map LV)) (E.map LV) f_),(95,I J (E.length:Int)),(96,I J (k.1:Int))]) (λk=>[zzB (Eo v),zzB (Hb (if me=0 then Fg d.lv else(os,og))),zzB (DH (D9 d.code) d.env d.am d.er (Fy d.lv)),zzB (Hb (Fg d.lv)),zzB (DF k.2.1 (DZ k.2.1.jn))]) (λk=>k.1<=E.length/\0<=k.2.2/\k.2.2<=1000+1440*(k.1:Int)/\GInv d me k.2.1 k.2.2) (λk=>E.length-k.1) (0,X2,1000) (by simp only[push_cast,↓reduceIte,C3,Dd,Db,C6,f0,vV,Yhl,xq,uU,yW,wL,xn,uT]<;>rfl) ⟨AS _,by show(0:Int)<=1000;decide,by show(1000:Int)<=1000+1440*0;decide,gS⟩ ?_;rintro⟨i,x,now⟩ ⟨hi,c3,c5,hg⟩;dsimp only at hi c3 c5 hg⊢
  by_cases bg:i<E.length
  .have ab:(i:Int)<E.length:=zaa
   have ix:=λst=>YJb st E f_ i bg;obtain⟨⟨mn,m⟩,hm⟩:∃q,E.getD i default=q:=⟨_,rfl⟩;rw[hm]at ix;have lp:∀st,E0 st f_ (Hj m.path)=s_ (I J (m.path.length:Int)):=λst=>by simp[E0,Kk,FB]
   have lo:∀st,E0 st f_ (EK m.op.top)=s_ (I J (m.op.top.length:Int)):=λst=>by simp[EK,E0,Kk,FB]
   by_cases k1:mn<0
   .simp(disch:=first|omega|decide) only[push_cast,↓reduceIte,C3,C6,ab,ix,X9,V6,XF,Xx,zah,k1]
   by_cases k2:1440<mn
   .simp(disch:=first|omega|decide) only[push_cast,↓reduceIte,C3,C6,ab,ix,X9,V6,XF,Xx,zah,zai,k1,k2]
   by_cases k3:(40:Int)<m.path.length
   .simp(disch:=first|omega|decide) only[push_cast,↓reduceIte,C3,C6,ab,ix,X9,V6,XF,Xx,qK,lp,zah,zai,k1,k2,k3]
   by_cases k4:(40:Int)<m.op.top.length
   .simp(disch:=first|omega|decide) only[push_cast,↓reduceIte,C3,C6,ab,ix,X9,V6,XF,Xx,vB,qK,lp,lo,zah,zai,k1,k2,k3,k4]
   have ct:=yH9 x (now+mn);have gT:=Yv9 hd bd ah (now':=now+mn) ⟨zaa,zaa⟩ zaa hg (m:={m with pt:=1-me}) rfl;have hj:¬((1-me)=0/\(Jr x (now+mn)).ph=1/\m.kd=7):=λq=>by have:=Ymb ah hg q.2.1;have:=q.1;omega
   have cp:=Zt d.code d.env (Jr x (now+mn)) {m with pt:=1-me} (now+mn) ⟨by have:=hd.len;omega,N,by show m.op.top.length<=_;omega,hj⟩;generalize Jr x (now+mn)=y at ct gT cp;have cp:Qf [D9 d.code,EO d.env,DY y,Kh {m with pt:=1-me},I J (now+mn)]=_:=cp
   by_cases he:Hr d.code d.env y {m with pt:=1-me} (now+mn)=0
   .rw[zae he]at gT;rw[he]at cp;generalize LB d.code d.env y {m with pt:=1-me} (now+mn)=z at cp gT;have r1:=WU d z me (now+mn) vd;have r2:=WU d (FH d z me (now+mn)) me (now+mn) vd;generalize FH d z me (now+mn)=z1 at r1 r2 gT;generalize FH d z1 me (now+mn)=z2 at r2 gT;simp(disch:=first|omega|decide) only[push_cast,↓reduceIte,C3,Dd,Db,C6,ab,D5,FL,ix,X9,V6,XF,Xx,vB,qK,YHy,lp,lo,Yte,Yti,Yks,Yt6,Ygu,Wp,H8,a9,Gj,Hf,Gi,I7,P6 N,P5,SF,l0,l1,b8,b9,Gc,G2,U2,zah,zai,k1,k2,k3,k4,ct,cp,r1,r2];refine EV (i+1,z2,now+mn) ⟨bg,by show 0<=now+mn;omega,by show now+mn<=_;push_cast;omega,gT⟩ (by show E.length-(i+1)<E.length-i;omega) ?_;simp only[push_cast,↓reduceIte,f0,vV,Yhl,xq,uU,yW,wL,xn,uT]<;>rfl
   .rw[zaf he]at gT;generalize Hr d.code d.env y {m with pt:=1-me} (now+mn)=e at cp he;have r1:=WU d y me (now+mn) vd;have r2:=WU d (FH d y me (now+mn)) me (now+mn) vd;generalize FH d y me (now+mn)=z1 at r1 r2 gT;generalize FH d z1 me (now+mn)=z2 at r2 gT;simp(disch:=first|omega|decide) only[push_cast,↓reduceIte,C3,Dd,Db,C6,ab,D5,FL,ix,X9,V6,XF,Xx,vB,qK,YHy,lp,lo,Yte,Yti,Yks,Yt6,Ygu,Wp,H8,a9,Gj,Hf,Gi,I7,P6 N,P5,SF,l0,l1,b8,b9,Gc,G2,U2,zah,zai,k1,k2,k3,k4,ct,cp,r1,r2,zaw he];refine EV (i+1,z2,now+mn) ⟨bg,by show 0<=now+mn;omega,by show now+mn<=_;push_cast;omega,gT⟩ (by show E.length-(i+1)<E.length-i;omega) ?_;simp only[push_cast,↓reduceIte,f0,vV,Yhl,xq,uU,yW,wL,xn,uT]<;>rfl
  .have ab:¬(i:Int)<E.length:=zaa
   have ct:=yH9 x (now+1441);obtain⟨z1,z2⟩:=YKk ah hg;generalize Jr x (now+1441)=z at ct z1 z2;have co:=tt z;rw[zba z1]at co;unfold MD at z2
   by_cases w5:z.ph=5
   .simp(disch:=first|omega|decide) only[push_cast,↓reduceIte,C3,C6,U2,Gj,Hf,Gi,I7,zah,zai,ab,D5,ct,co,GZ,w5,Int.reduceEq]
   by_cases wm:z.wn=me
   .rw[zae (.inr wm)]at z2
    by_cases w4:z.ph=4
    .simp(disch:=first|omega|decide) only[push_cast,↓reduceIte,C3,C6,ac,U2,Gj,Hf,Gi,I7,zah,zai,ab,D5,ct,co,GZ,oR,Ytv,w4,zap wm,zap (z2 w4),Int.reduceEq]
    .simp(disch:=first|omega|decide) only[push_cast,↓reduceIte,C3,C6,U2,Gj,Hf,Gi,I7,zah,zai,ab,D5,ct,co,GZ,oR,zaw w4,zaw w5,zap wm]
   .rw[zaf (λq=>q.elim w5 wm)]at z2;have cb:Qk [U (Hb (Fg d.lv)),U (Hb (G9 z (1-me)))]=_:=lZ (Fg d.lv) (G9 z (1-me));rw[z2.1]at cb;have lc:=λlent=>YH1 z (DZ z.jn) lent (p:=1-me) zaa;simp(disch:=first|omega|decide) only[push_cast,↓reduceIte,C3,C6,oN,br,ac,U2,Gj,Hf,Gi,I7,zah,zai,ab,D5,FL,ct,co,GZ,oR,Ytv,zaw w5,zaw wm,Ge,lc,cb,zap z2.2,Ydd]
abbrev rI:Ty:=.agg (C7 32 (.int .u8))
abbrev tCm:Ty:=.agg [.int .i64,.agg (C7 32 (.int .u8))]
abbrev cX:Ty:=.agg [.int .i64,.int .i64,.agg [.int .i64,.int .i64],.int .i64]
abbrev YFc:Ty:=.agg [.int .i64,.int .i64,.int .i64,.int .i64,.slc (.int .i64),.int .i64,rI]
abbrev cV:Ty:=.agg [.int .i64,.int .i64,.int .i64,tCm,rI,rI,YFc,.slc rI,cX]
def YJu{d:D}(h:Has cX d):∃k:Ky,d=KB k:=by
 cases h with
 |agg _ xs N E=>
  match xs,N with
  |[a,b,c,e],_=>
   obtain⟨x1,rfl,_⟩:=KK (E 0 _ a rfl rfl);obtain⟨x2,rfl,_⟩:=KK (E 1 _ b rfl rfl);obtain⟨y0,y1,rfl,g0,g1⟩:=YI (E 2 _ c rfl rfl);obtain⟨x3,rfl,_⟩:=KK g0;obtain⟨x4,rfl,_⟩:=KK g1;obtain⟨x5,rfl,_⟩:=KK (E 3 _ e rfl rfl);exact⟨⟨x1,x2,x3,x4,x5⟩,rfl⟩
def YJw{d:D}(h:Has tCm d):∃c:Int×Dig,d=.agg (.int .i64 c.1::Dr c.2):=by obtain⟨x,y,rfl,E,N⟩:=YI h;obtain⟨n,rfl,_⟩:=KK E;obtain⟨g,rfl⟩:=Wm N;exact⟨(n,g),rfl⟩
def YA2{d:D}(h:Has YFc d):∃o:Opn,d=Ew o/\o.top.length<=maxLen:=by
 cases h with
 |agg _ xs N E=>
  match xs,N with
  |[a,b,c,e,f,g,k],_=>
   obtain⟨x1,rfl,_⟩:=KK (E 0 _ a rfl rfl);obtain⟨x2,rfl,_⟩:=KK (E 1 _ b rfl rfl);obtain⟨x3,rfl,_⟩:=KK (E 2 _ c rfl rfl);obtain⟨x4,rfl,_⟩:=KK (E 3 _ e rfl rfl);obtain⟨l,rfl,hl⟩:=uS (f:=nI) (λ_=>Yua) (E 4 _ f rfl rfl);obtain⟨x5,rfl,_⟩:=KK (E 5 _ g rfl rfl);obtain⟨r,rfl⟩:=Wm (E 6 _ k rfl rfl);refine⟨⟨x1,x2,x3,x4,l,x5,r⟩,?_,hl⟩;simp[Ew,FF,yaZ,Ds,EK];rfl
def YJt{d:D}(h:Has cV d):∃m:Mv,d=Kh m/\m.op.top.length<=maxLen/\m.path.length<=maxLen:=by
 cases h with
 |agg _ xs N E=>
  match xs,N with
  |[a,b,c,e,f,g,k,l,j],_=>
   obtain⟨x1,rfl,_⟩:=KK (E 0 _ a rfl rfl);obtain⟨x2,rfl,_⟩:=KK (E 1 _ b rfl rfl);obtain⟨x3,rfl,_⟩:=KK (E 2 _ c rfl rfl);obtain⟨cm,rfl⟩:=YJw (E 3 _ e rfl rfl);obtain⟨lf,rfl⟩:=Wm (E 4 _ f rfl rfl);obtain⟨rt,rfl⟩:=Wm (E 5 _ g rfl rfl);obtain⟨o,rfl,ho⟩:=YA2 (E 6 _ k rfl rfl);obtain⟨pa,rfl,hp⟩:=uS (f:=Ds) (λ_=>Wm) (E 7 _ l rfl rfl);obtain⟨ky,rfl⟩:=YJu (E 8 _ j rfl rfl);refine⟨⟨x1,x2,x3,cm,lf,rt,o,pa,ky⟩,?_,ho,hp⟩;rfl
abbrev tyTn:Ty:=.agg [.int .i64,cV]
def YJs{d:D}(h:Has tyTn d):∃t:Int×Mv,d=LV t:=by obtain⟨x,y,rfl,E,N⟩:=YI h;obtain⟨n,rfl,_⟩:=KK E;obtain⟨m,rfl,_⟩:=YJt N;exact⟨(n,m),by simp[LV,Pl,yaZ,Kh]⟩
def law_TopCourt:zCC 3 (Yu [.str,tyEv,.int .i64,.int .i64,tCommit,.slc tyTn]):=by refine lawC oi.2 (T:=kz) (DP (all_cons YCg (all_cons jm (all_cons YCh (all_cons Yj5 (all_cons Yke (all_cons YLj (all_cons YCq (all_cons uO (all_cons Ykc (all_cons rh all_nil)))))))))) all_nil) ?_;intro xs h;obtain⟨x0,xs,rfl,h0,h⟩:=Xa h;obtain⟨x1,xs,rfl,h1,h⟩:=Xa h;obtain⟨x2,xs,rfl,h2,h⟩:=Xa h;obtain⟨x3,xs,rfl,h3,h⟩:=Xa h;obtain⟨x4,xs,rfl,h4,h⟩:=Xa h;obtain⟨x5,xs,rfl,h5,h⟩:=Xa h;obtain rfl:=Ya0 h;obtain⟨y0,rfl,_⟩:=YA1 h0;obtain⟨y1,rfl,E⟩:=YJv h1;obtain⟨y2,rfl,N,aa⟩:=KK h2;obtain⟨y3,rfl,ab,ac⟩:=KK h3;obtain⟨y4,rfl⟩:=Yaz h4;obtain⟨y5,rfl,ad⟩:=uS (f:=LV) (λ_=>YJs) h5;exact yRx y0 y1 E y2 N aa y3 ab ac y4 y5 ad
