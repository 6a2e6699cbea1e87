/-
  The compiler's expressions.
  Conditions: none; these are definitions and lemmas.
-/
import Derived.Test.YtlnmoflpeohkbaaGreatDoorArF
import Derived.Test.YtlnmoflpeohkbaaGreatDoorEngLaw
import Derived.Test.YtlnmoflpeohkbaaGreatDoorFnsT
import Derived.Test.YtlnmoflpeohkbaaGreatDoorFnsV
open Bool renaming false->f_,true->t_
open Option renaming some->s_,none->n_
open BitVec renaming ofInt->C8
open Int renaming reduceLT->Dj,reduceNatCast'->C5,reduceNeg->Da
open List renaming replicate->C7
open Nat renaming reduceAdd->C6,reduceEqDiff->C3
set_option maxHeartbeats 8000000
set_option maxRecDepth 20000
set_option linter.unusedSimpArgs false
set_option linter.unusedVariables false
set_option linter.defProp false
noncomputable section
namespace Go.Proofs.YtlnmoflpeohkbaaGreatDoor.PI
open Go
open D renaming int->I,slc->O,agg->U,bool->V,ptr->Y
open Go.IntKind renaming i64->J
open D renaming cells->yaZ
open Go.IntKind renaming wrap->yab
def vI:zsF:=H2 (α:=Ins) (λx=>([Dt x],[])) (λ_=>True) (λx=>(V (!HR x),[]))
def yO3(x:Ins):vI [Dt x] []=s_ (V (!HR x),[]):=
 OS (λa b e=>by simp only[D4,Ab,zag,TU]at e;rw[e]) x trivial rfl
def YB7:zIC 99 vI:=by
 refine Ut (T:=tb [(100,vP)] []) yru.2 (DP (all_cons YLk all_nil) all_nil) ?_;intro x _;unfold yru
 push_cast(disch:=lia)[F9,QU,YAf,Yjm]
 rfl
def J4:List Ins->Nat->Int
 |[],_=>-1
 |x::l,i=>if HR x then J4 l (i+1)else i
theorem Yk4:∀(l:List Ins)(i:Nat),0<=J4 l i↔l.all HR=f_
 |[],i=>by simp[J4]
 |x::l,i=>by
  have:=Yk4 l (i+1);unfold J4;grind
def Ydo:zsF:=H2 (α:=List Ins) (λc=>([O (nz 3 (c.map Dt)) (c.map Dt) f_,.clo 99 []],[])) (λc=>c.length<=9223372036854775807) (λc=>(I J (J4 c 0),[]))
def Yry(c:List Ins)(h:c.length<=9223372036854775807):Ydo [O (nz 3 (c.map Dt)) (c.map Dt) f_,.clo 99 []] []=s_ (I J (J4 c 0),[]):=
 OS (λa b e=>by simp only[D4,Ab,D.slc.injEq,zag,Lq]at e;rw[e.2]) c h rfl
variable{i:Nat}{α:Type}
theorem yx[Inhabited α](l:List α)(h:i<l.length):l.drop i=l.getD i default::l.drop (i+1):=by simp_all
def YK2:zIC 139 Ydo:=by
 refine Ut (T:=tb [] [(99,vI)]) yed.2 (DP all_nil (all_cons YB7 all_nil)) ?_;intro c hc;unfold yed
 push_cast(disch:=lia)
 refine Gn (λi:Nat=>[(0,O (nz 3 (c.map Dt)) (c.map Dt) f_),(1,.clo 99 []),(7,I J (c.length:Int)),(8,I J (i:Int))])
  (λi=>[]) (λi=>i<=c.length/\J4 (c.drop i) i=J4 c 0) (λi=>c.length-i) 0 (by push_cast [↓C5]<;>rfl) ⟨zaa,rfl⟩ ?_
 rintro i ⟨hi,hb⟩
 push_cast(disch:=lia)
 refine Fm (λh2=>?_) (λh2=>?_)
 .have E:i<c.length:=zaa
  have hx:=aZ [] c f_ i E;have N:=yx c E;obtain⟨x,ab⟩:∃x,c.getD i default=x:=⟨_,rfl⟩;rw[ab]at hx N;rw[N,J4]at hb
  cases hf:HR x with
  |false=>
   rw[hf]at hb;have hv:=yO3 x;rw[hf]at hv
   push_cast(disch:=lia)[hx,Mu,hv]
   simp only[Ao,zam]at hb;rw[<-hb];rfl
  |true=>
   rw[hf]at hb;have hv:=yO3 x;rw[hf]at hv
   push_cast(disch:=lia)[hx,Mu,hv,D5]
   refine EV (i+1) ⟨zaa,hb⟩ zaa ?_;rfl
 .obtain rfl:i=c.length:=zaa
  rw[BN,J4]at hb
  push_cast(disch:=lia)
  rw[<-hb];rfl
def QS:zsF:=H2 (α:=List Ins) (λc=>([O (nz 3 (c.map Dt)) (c.map Dt) f_,.clo 99 []],[])) (λc=>c.length<=9223372036854775807) (λc=>(V (!c.all HR),[]))
def Yr0(c:List Ins)(h:c.length<=9223372036854775807):QS [O (nz 3 (c.map Dt)) (c.map Dt) f_,.clo 99 []] []=s_ (V (!c.all HR),[]):=
 OS (λa b e=>by simp only[D4,Ab,D.slc.injEq,zag,Lq]at e;rw[e.2]) c h rfl
theorem YK4:zIC 98 QS:=by
 refine Ut (T:=tb [] [(139,Ydo)]) ydw.2 (DP all_nil (all_cons YK2 all_nil)) ?_;intro c hc;unfold ydw;have E:=Yry c hc
 have hb:decide (0<=J4 c 0)=!c.all HR:=by
  have:=Yk4 c 0;grind
 push_cast(disch:=lia)[E,hb]
 rfl
variable{T:Tbl}{G:Dy}
theorem yss{P:Program}{il:List Nat}{f:Nat}{hints:List (List Nat)}{F:PF}(E:IY P il f hints=s_ F)(N:TblOK P G T){enc:α->List D×St}{pre:α->Prop}{r:α->D×St}
  (h:∀a,pre a->@wW G T F.code (Du (enc a).1) (enc a).2 ⟨@Hx F.res ⟨λd st'=>(d,st')=r a⟩⟩) (hy:T.y=λ_ _ _=>n_:=by rfl):IContract P G f (H2 enc pre r):=
 Kg E N (λds st x hx=>by
  obtain⟨a,ha,hp,rfl⟩:=yUl hx;grind) hy
def yP:=DL (α:=Int×Int) (λa=>[I .u64 a.1,I .u64 a.2]) (λa=>0<=a.1/\a.1<18446744073709551616/\0<=a.2/\a.2<18446744073709551616) (λa=>.tup [I .u64 (a.1*a.2/18446744073709551616),I .u64 (a.1*a.2%18446744073709551616)])
def yS6(x:Int)(y:Int)(h:0<=x/\x<18446744073709551616/\0<=y/\y<18446744073709551616):yP [I .u64 x,I .u64 y]=s_ (.tup [I .u64 (x*y/18446744073709551616),I .u64 (x*y%18446744073709551616)]):=
 EL (λ⟨a0,a1⟩⟨b0,b1⟩h=>by simp only[Ab,D.int.injEq,zal,zag]at h;simp[h]) (x,y) h
def Ylt(x:Int)(y:Int)(h:0<=x/\x<18446744073709551616/\0<=y/\y<18446744073709551616):@wW GG (tb [(168,qf)] []) nM.1.code (Du [I .u64 x,I .u64 y]) [] ⟨DN nM.1.res (.tup [I .u64 (x*y/18446744073709551616),I .u64 (x*y%18446744073709551616)])⟩:=by
 unfold nM
 push_cast(disch:=lia)[yPf x y h]
def Yr2:zCC 141 yP:=
 EM nM.2 (DP (all_cons Yur all_nil) all_nil) (λa h=>Ylt a.1 a.2 h)
def QT:zsF:=H2 (α:=Nat×Int) (λa=>([O 1 [I J a.2] t_,I J (a.1:Int)],[])) (λa=>0<a.1/\a.1<=100000) (λa=>(.row 0 a.1 0 a.1,[⟨t_,1,(C7 a.1 a.2).map nI,f_⟩]))
theorem Yrs(n:Nat)(a:Int)(h:0<n/\n<=100000):QT [O 1 [I J a] t_,I J (n:Int)] []=s_ (.row 0 n 0 n,[⟨t_,1,(C7 n a).map nI,f_⟩]):=
 OS (λ⟨a,b⟩⟨a',b'⟩e=>by
  grind) ((n,a):Nat×Int) h rfl
def Hh(n j:Nat)(a:Int):List D:=(C7 j a++C7 (n-j) 0).map nI
variable{a:Int}{j n:Nat}
def ui(h:j<=n):(Hh n j a).length=n:=by simp[Hh];omega
variable{m:Nat}
def yC0(h:j+m<=n):FZ (Hh n j a) j ((C7 m a).map nI)=Hh n (j+m) a:=by
 have e:C7 (n-j) (0:Int)=C7 m 0++C7 (n-(j+m)) 0:=by
  rw[Ce];congr 1;omega
 unfold Hh;rw[e,A1,A1,tM zac zac,<-A1,<-A1,<-Al,Ce]
def YBu(N:0<j)(E:j<n):L7 [⟨t_,1,Hh n j a,f_⟩] 1 (.row 0 n j (n-j)) (.row 0 n 0 j)=s_ (I J (min (n-j) j:Nat),[⟨t_,1,Hh n (j+min (n-j) j) a,f_⟩]):=by
 have hl:=ui (a:=a) (CF E)
 have he:I6 [⟨t_,1,Hh n j a,f_⟩] 0 n 0 j=s_ (1,(C7 j a).map nI):=by
  simp only[I6,Ay,hl];rw[zae (by simp;omega),Cf]
  congr 2
  simp[Hh]
 simp only[L7,jX,Ay,H6,he,hl,Kk];rw[zae (by simp;omega)];simp only[Az,BT,Bw]
 congr 3
 rw[<-BW,List.take_replicate,show min (min (n-j) j) j=min (n-j) j by omega,yC0 zaa]
def Yrh(N:0<n):L7 [⟨t_,1,C7 n (I J 0),f_⟩] 1 (.row 0 n 0 n) (O 1 [I J a] t_)=s_ (I J 1,[⟨t_,1,Hh n 1 a,f_⟩]):=by
 have E:(C7 n (D.int J 0))=Hh n 0 a:=by simp[Hh,nI]
 rw[E];have hl:=ui (a:=a) (AS n);simp only[L7,jX,Ay,H6,hl,Kk];rw[zae (by simp;omega)];have hm:min n [D.int IntKind.i64 a].length=1:=by simp;omega
 simp only[hm,Bw];have:=yC0 (n:=n) (j:=0) (m:=1) (a:=a) zaa;rw[Ar]at this;rw[<-this];rfl
def mk_n(h:n<=100000):Sm 1 8 (I J 0) (I J (n:Int)) (I J (n:Int))=s_ (n,⟨t_,1,C7 n (I J 0),f_⟩):=by
 have E:FA (I J (n:Int))=s_ n:=by simp[FA]
 simp only[Sm,E];rw[zae ⟨Au _,zaa,zaa,zab,rfl,rfl⟩]
def YK0:zIC 101 QT:=by
 refine yss (T:=tb [(141,yP)] []) yi8.2 (DP (all_cons Yr2 all_nil) all_nil) ?_;rintro⟨n,a⟩ ⟨N,aa⟩;dsimp only at N aa;unfold yi8;have hm:=yS6 1 (n:Int) ⟨zaa,zaa,zaa,zaa⟩;rw[show(1*(n:Int)/18446744073709551616)=0 by omega,show(1*(n:Int)%18446744073709551616)=n by omega]at hm;have hc:=Yrh (n:=n) (a:=a) N;have h0:¬((n:Int)<0):=zaa
 have h1:¬((9223372036854775807:Int)<(n:Int)):=zaa
 push_cast(disch:=lia)[↓C5,h0,pZ,Yiu,hm,h1,mk_n aa,hc]
 refine Gn (λj:Nat=>[(7,.row 0 n 0 n),(8,I J (j:Int))]) (λj=>[⟨t_,1,Hh n j a,f_⟩]) (λj=>0<j/\j<=n) (λj=>n-j) 1 (by push_cast [↓C5]<;>rfl) ⟨zaa,zaa⟩ ?_;rintro j ⟨ab,E⟩;have hl:=ui (a:=a) E;have ac:Vs (s_ ⟨t_,1,Hh n j a,f_⟩) n=t_:=by simp[Vs,hl]
 push_cast(disch:=lia)[ac]
 refine Fm (λh2=>?_) (λh2=>?_)
 .have ad:=YBu (a:=a) ab (zaa:j<n)
  have s1:TA (s_ ⟨t_,1,Hh n j a,f_⟩) 1 (.row 0 n 0 n) 0 n 0 n j n=s_ (.row 0 n j (n-j)):=by
   simp[TA,hl,show j<=n from E,show ¬j=0 by omega,show ¬j=n by omega]
  have s2:TA (s_ ⟨t_,1,Hh n j a,f_⟩) 1 (.row 0 n 0 n) 0 n 0 n 0 j=s_ (.row 0 n 0 j):=by
   simp[TA,hl,show j<=n from E,show ¬j=0 by omega,show ¬j=n by omega,show ¬0=j by omega]
  push_cast(disch:=lia)[s1,s2,ad,D5]
  refine EV (j+min (n-j) j) ⟨zaa,zaa⟩ zaa ?_;rfl
 .obtain rfl:j=n:=zaa
  push_cast(disch:=lia)
  simp[Hh]
abbrev Ez(x:List Int)(i:Nat):Int:=x.getD i default
theorem Yuz{x:List Int}(h:i<x.length):Ez x i∈x:=by grind
def Ygn(A:List Int)(lent:Bool)(tot i:Nat)(E:A.length=tot)(h:i<tot):N2 (s_ ⟨t_,1,A.map nI,lent⟩) 1 f_ tot i 0=s_ (I J (Ez A i)):=by subst E;exact Ypr nI (λ_=>rfl) 1 A lent i h
theorem oE(A:List Int)(lent:Bool)(key tot:Nat)(j:Int)(E:A.length=tot)(N:0<=j)(h1:j<(tot:Int)):TC (s_ ⟨t_,1,A.map nI,lent⟩) 1 key tot 0 tot j=s_ (.rptr key tot j.toNat 0):=by subst E;have:=Yg4 nI 1 A lent key 0 A.length j N h1;grind
def Pm(o:Option PI.Obj)(tot i:Nat)(v:Int):Option PI.Obj:=o.bind λo=>if o.row&&!o.lent&&o.els.length==tot then(o.els[i]?).bind λel=>(UL el 0 [I J v]).map λel'=>{o with els:=o.els.set i el'} else n_
theorem xf(st:St)(key tot i:Nat)(v:Int):Le st 1 (.rptr key tot i 0) (I J v)=(Pm st[key]? tot i v).map λo=>st.set key o:=by
 simp only[Le,Pm,pT,qH,CT,B9]
 cases st[key]? with
 |none=>rfl
 |some o=>
  simp only[Bj]
  split
  .cases o.els[i]? with
   |none=>rfl
   |some el=>
    have hc:(D.int J v).cells=[I J v]:=rfl;grind
  .rfl
def yUb(A:List Int)(tot i:Nat)(v:Int)(E:A.length=tot)(h:i<tot):Pm (s_ ⟨t_,1,A.map nI,f_⟩) tot i v=s_ ⟨t_,1,(A.set i v).map nI,f_⟩:=by subst E;have N:UL (nI A[i]) 0 [I J v]=s_ (nI v):=rfl;simp[Pm,h,N,Ch]
def We(len i after n:Int)(dep:List Int):Prop:=n<=i\/len<=n\/(0<=Ez dep n.toNat/\Ez dep n.toNat≠after)
instance (len i after n:Int) (dep:List Int):Decidable (We len i after n dep):=by unfold We;infer_instance
def O9(len i after:Int):List Int->List Int->Option (List Int)
 |[],dep=>s_ dep
 |n::l,dep=>if We len i after n dep then n_ else O9 len i after l (dep.set n.toNat after)
def MC(x:Ins)(i:Int):List Int:=(if x.op=13\/x.op=14 then [x.n]else [])++(if x.op≠14/\x.op≠15/\x.op≠16 then [i+1]else [])
def LJ(x:Ins)(d:Int):Prop:=d<(EP x.op).1\/(x.op=15/\d≠1)\/(x.op=16/\d≠0)
instance (x:Ins) (d:Int):Decidable (LJ x d):=by unfold LJ;infer_instance
def GY(x:Ins)(d:Int):Int:=d-(EP x.op).1+(EP x.op).2
def G3(len:Int):List Ins->Nat->List Int->Int->Option Int
 |[],_,_,s=>s_ s
 |x::r,i,dep,s=>if Ez dep i<0 then G3 len r (i+1) dep s else if LJ x (Ez dep i)then n_ else
  match O9 len i (GY x (Ez dep i)) (MC x i) dep with
  |none=>n_
  |some dep'=>G3 len r (i+1) dep' (max (max s (Ez dep i)) (GY x (Ez dep i)))
def NB:Option Int->Int×Int
 |none=>(0,200)
 |some s=>if 64<s then(0,2)else(s,0)
def HD(n:Nat):List Int:=(C7 n (-1)).set 0 0
def FQ(c:List Ins):Int×Int:=if 4096<c.length then(0,2)else if c.length=0\/c.all HR=f_ then(0,200)else NB (G3 c.length c 0 (HD c.length) 0)
theorem li1(sz:Nat)(a:D)(l:Bool):Vs (s_ ⟨t_,sz,[a],l⟩) 1=t_:=(rfl)
theorem li2(sz:Nat)(a b:D)(l:Bool):Vs (s_ ⟨t_,sz,[a,b],l⟩) 2=t_:=(rfl)
variable{st:St}
def Yv0{c:PC}{fr:Frame}{st':St}{Q:QC}(e:st=st')(h:@wW G T c fr st' Q):@wW G T c fr st Q:=by rw[e];exact h
def UF(N:Nat)(i:Int)(dp:List Int):Prop:=dp.length=N/\∀y∈dp,-1<=y/\y<=i
def yOu{N:Nat}{i:Int}{dp:List Int}(h:UF N i dp)(k:Nat){v:Int}(h0:-1<=v)(h1:v<=i):UF N i (dp.set k v):=by
 refine⟨by rw[BE];exact h.1,λy E=>?_⟩;rcases BY E with E|rfl
 .exact h.2 y E
 .omega
theorem bI(T:Tbl)(c:List Ins)(x:Ins)(i:Nat)(hi:i<c.length)(hc:c.length<=4096)(s after:Int)(a6:-1<=after)(a7:after<=(i:Int)+1)(E:List Int)(c3:E.length<=2)(dep:List Int)(a9:UF c.length ((i:Int)+1) dep)(fr:Frame)(Q:Ex->Frame->St->Prop)
  (f0:fr 0=O (nz 3 (c.map Dt)) (c.map Dt) f_) (f2:fr 2=I J s) (f4:fr 4=.row 0 c.length 0 c.length) (f5:fr 5=I J (i:Int)) (bh:fr 10=I J after)
  (b5:fr 30=O (nz 3 (c.map Dt)) (c.map Dt) f_) (b6:fr 31=I J (c.length:Int)) (b7:fr 32=I J (i:Int)) (ba:fr 110=EC 0 2 (E.map nI)) (bb:fr 111=I J (E.length:Int)) (bc:fr 112=I J 0)
  (ae:O9 c.length i after E dep=n_->∀aa st',aa 2=I J 0->aa 3=I J 200->Q .ret aa st')
  (bd:∀N,O9 c.length i after E dep=s_ N->UF c.length ((i:Int)+1) N->∀aa,aa 0=O (nz 3 (c.map Dt)) (c.map Dt) f_->aa 2=I J s->aa 4=.row 0 c.length 0 c.length->aa 30=O (nz 3 (c.map Dt)) (c.map Dt) f_->aa 31=I J (c.length:Int)->aa 32=I J (i:Int)->
   Q (.exit 2) aa (⟨t_,1,N.map nI,f_⟩::(zzB (D8 x))::D3 1 (E.map nI))):
  @wW GG T (.loop [0,2,4,5,10,30,31,32,110,111,112] yrs.1) fr (⟨t_,1,dep.map nI,f_⟩::(zzB (D8 x))::D3 1 (E.map nI)) ⟨Q⟩:=by
 have hB:ED ((D3 1 (E.map nI)).length+1+1) [] (EC 0 2 (E.map nI))=EC 0 2 (E.map nI):=by
  cases E<;>rfl
 have b8:∀N:List Int,StOK (⟨t_,1,N.map nI,f_⟩::(zzB (D8 x))::D3 1 (E.map nI)):=by
  intro N o ho hr y hy;simp only[AB]at ho;rcases ho with rfl|rfl|ho
  .cases hr
  .simp only[D8,AB,AM,zav]at hy;rcases hy with rfl|rfl|rfl<;>rfl
  .cases E with
   |nil=>cases ho
   |cons a l=>
    rw[show D3 1 ((a::l).map nI)=[⟨t_,1,(a::l).map nI,f_⟩]from rfl,AU]at ho;grind
 have hR:∀(fr:Frame)(N:List Int),restrict [0,2,4,5,10,30,31,32,110,111,112] ((D3 1 (E.map nI)).length+1+1) ⟨fr,⟨t_,1,N.map nI,f_⟩::(zzB (D8 x))::D3 1 (E.map nI)⟩=
   ⟨GU (Lh fr ((D3 1 (E.map nI)).length+1+1) [] [0,2,4,5,10,30,31,32,110,111,112]),⟨t_,1,N.map nI,f_⟩::(zzB (D8 x))::D3 1 (E.map nI)⟩:=λfr N=>mT (b8 N) rfl
 have ah:Fv ((D3 1 (E.map nI)).length+1+1) [] 0=s_ 0:=TQ zaa
 refine Gn (λp:Nat×List Int=>[(0,O (nz 3 (c.map Dt)) (c.map Dt) f_),(2,I J s),(4,.row 0 c.length 0 c.length),(5,I J (i:Int)),(10,I J after),(30,O (nz 3 (c.map Dt)) (c.map Dt) f_),(31,I J (c.length:Int)),(32,I J (i:Int)),
   (110,EC 0 2 (E.map nI)),(111,I J (E.length:Int)),(112,I J (p.1:Int))])
  (λp=>⟨t_,1,p.2.map nI,f_⟩::(zzB (D8 x))::D3 1 (E.map nI)) (λp=>p.1<=E.length/\UF c.length ((i:Int)+1) p.2/\O9 c.length i after (E.drop p.1) p.2=O9 c.length i after E dep) (λp=>E.length-p.1) (0,dep)
  ((hR fr dep).trans (by push_cast [f0,f2,f4,f5,bh,b5,b6,b7,ba,bb,bc,hB,↓ah]<;>rfl)) ⟨AS _,a9,rfl⟩ ?_
 rintro⟨j,N⟩ ⟨hj,ab,hn⟩;dsimp only at hj ab hn
 try unfold yrs
 push_cast(disch:=lia)
 refine Fm (λh2=>?_) (λh2=>?_)
 .have a8:j<E.length:=zaa
  have ca:=yx E a8
  have a0:E.map nI≠[]:=by
   intro e;have:=congrArg List.length e;grind
  obtain⟨n,a1⟩:∃n,E.getD j default=n:=⟨_,rfl⟩;have cb:TC (s_ ⟨t_,1,E.map nI,f_⟩) 1 2 E.length 0 E.length (j:Int)=s_ (.rptr 2 E.length j 0):=oE E f_ 2 E.length j rfl zaa zaa;have cc:N2 (s_ ⟨t_,1,E.map nI,f_⟩) 1 f_ E.length j 0=s_ (I J n):=by rw[<-a1];exact Ygn E f_ E.length j rfl a8
  have ad:∀N:List Int,ER (⟨t_,1,N.map nI,f_⟩::(zzB (D8 x))::D3 1 (E.map nI)) 1 (EC 0 2 (E.map nI)) (I J (j:Int))=s_ (.rptr 2 E.length j 0):=by
   intro N;rw[aS _ _ _ a0,V7 _ _ a0,Az,yWq];exact cb
  have ac:∀N:List Int,Fa (⟨t_,1,N.map nI,f_⟩::(zzB (D8 x))::D3 1 (E.map nI)) 1 f_ (.rptr 2 E.length j 0)=s_ (I J n):=by
   intro N;rw[V7 _ _ a0,yC4];exact cc
  rw[ca,a1,O9]at hn
  by_cases b1:n<=(i:Int)
  .rw[zae (.inl b1)]at hn
   push_cast(disch:=lia)[ad,ac,b1]
   exact ae hn.symm _ _ rfl rfl
  .by_cases b2:(c.length:Int)<=n
   .rw[zae (.inr (.inl b2))]at hn
    push_cast(disch:=lia)[ad,ac,b1,b2]
    exact ae hn.symm _ _ rfl rfl
   .have a3:=oE N f_ 0 c.length n ab.1 zaa zaa;have a4:=Ygn N f_ c.length n.toNat ab.1 zaa;have c5:=ab.2 _ (Yuz (x:=N) (i:=n.toNat) (by rw[ab.1];omega));have hs:=yUb N c.length n.toNat after ab.1 zaa
    by_cases b3:0<=Ez N n.toNat
    .by_cases b4:Ez N n.toNat=after
     .have ce:(Ez N n.toNat=after)=True:=zap b4;rw[zaf (by unfold We;omega)]at hn
      push_cast(disch:=lia)[ad,ac,b1,b2,a3,a4,b3,ce,xf,hs,D5,↓hR,↓ah,hB]
      refine EV (j+1,N.set n.toNat after) ⟨by dsimp only;omega,yOu ab _ a6 a7,hn⟩ (by dsimp only;omega) ?_;rfl
     .rw[zae (.inr (.inr ⟨b3,b4⟩))]at hn
      push_cast(disch:=lia)[ad,ac,b1,b2,a3,a4,b3,b4]
      exact ae hn.symm _ _ rfl rfl
    .rw[zaf (by unfold We;omega)]at hn
     push_cast(disch:=lia)[ad,ac,b1,b2,a3,a4,b3,xf,hs,D5,↓hR,↓ah,hB]
     refine EV (j+1,N.set n.toNat after) ⟨by dsimp only;omega,yOu ab _ a6 a7,hn⟩ (by dsimp only;omega) ?_;rfl
 .obtain rfl:j=E.length:=zaa
  rw[BN,O9]at hn
  push_cast(disch:=lia)
  exact bd N hn.symm ab _ rfl rfl rfl rfl rfl rfl
def Sy:=DL (α:=List Ins) (λa=>[O (nz 3 (a.map Dt)) (a.map Dt) f_]) (λa=>a.length<=9223372036854775807) (λa=>.tup [I J (FQ a).1,I J (FQ a).2])
def Zm(c:List Ins)(h:c.length<=9223372036854775807):Sy [O (nz 3 (c.map Dt)) (c.map Dt) f_]=s_ (.tup [I J (FQ c).1,I J (FQ c).2]):=
 EL (λa b h=>by simp only[Ab,D.slc.injEq,zag,Lq]at h;simp[h]) (c) h
theorem YEb(c:List Ins)(h:c.length<=9223372036854775807):@wW GG (tb [(102,Q5)] [(98,QS),(101,QT)]) ZO.1.code (Du [O (nz 3 (c.map Dt)) (c.map Dt) f_]) [] ⟨DN ZO.1.res (.tup [I J (FQ c).1,I J (FQ c).2])⟩:=by
 unfold ZO
 by_cases h1:4096<c.length
 .rw[show FQ c=(0,2)from zae h1]
  push_cast(disch:=lia)[show((4096:Int)<(c.length:Int)) by omega]
 by_cases h2:c.length=0
 .rw[show FQ c=(0,200) by unfold FQ;rw[zaf h1,zae (.inl h2)]]
  push_cast(disch:=lia)[show ¬((4096:Int)<(c.length:Int)) by omega,show((c.length:Int)=0) by omega]
 have b4:=Yr0 c h;have h3:¬((4096:Int)<(c.length:Int)):=zaa
 have h4:¬((c.length:Int)=0):=zaa
 cases bd:c.all HR with
 |false=>
  rw[bd]at b4;rw[show FQ c=(0,200) by unfold FQ;rw[zaf h1,zae (.inr bd)]]
  push_cast(disch:=lia)[h3,h4,b4]
 |true=>
  rw[bd]at b4;rw[show FQ c=NB (G3 c.length c 0 (HD c.length) 0) by unfold FQ;rw[zaf h1,zaf (by rw[bd];simp[h2])]];have ce:=Yrs c.length (-1) ⟨zaa,zaa⟩;have cf:TC (s_ ⟨t_,1,(C7 c.length (-1)).map nI,f_⟩) 1 0 c.length 0 c.length 0=s_ (.rptr 0 c.length 0 0):=oE _ f_ 0 c.length 0 zac zaa zaa;have hs0:Pm (s_ ⟨t_,1,(C7 c.length (-1)).map nI,f_⟩) c.length 0 0=s_ ⟨t_,1,(HD c.length).map nI,f_⟩:=yUb _ c.length 0 0 zac zaa
  push_cast(disch:=lia)[h3,h4,b4,GN,ce,cf,xf,hs0]
  refine Gn (λp:Nat×List Int×Int=>[(0,O (nz 3 (c.map Dt)) (c.map Dt) f_),(2,I J p.2.2),(4,.row 0 c.length 0 c.length),(30,O (nz 3 (c.map Dt)) (c.map Dt) f_),(31,I J (c.length:Int)),(32,I J (p.1:Int))])
   (λp=>[⟨t_,1,p.2.1.map nI,f_⟩]) (λp=>p.1<=c.length/\UF c.length p.1 p.2.1/\NB (G3 c.length (c.drop p.1) p.1 p.2.1 p.2.2)=NB (G3 c.length c 0 (HD c.length) 0)) (λp=>c.length-p.1) (0,HD c.length,0)
   (by push_cast<;>rfl) ⟨AS _,?_,rfl⟩ ?_
  .refine⟨by simp[HD],λy hy=>?_⟩;rcases BY hy with hy|rfl
   .grind
   .omega
  rintro⟨i,dep,s⟩ ⟨hi,a4,hv⟩;dsimp only at hi a4 hv
  push_cast(disch:=lia)
  refine Fm (λh5=>?_) (λh5=>?_)
  .have a5:i<c.length:=zaa
   have bh:c.length<=4096:=zaa
   have a6:UF c.length ((i:Int)+1) dep:=⟨a4.1,λy hy=>⟨(a4.2 y hy).1,by have:=(a4.2 y hy).2;omega⟩⟩;have hx:=λst=>aZ st c f_ i a5;have ca:=yx c a5;obtain⟨x,cg⟩:∃x,c.getD i default=x:=⟨_,rfl⟩;rw[cg]at hx ca;rw[ca,G3]at hv;have aa:TC (s_ ⟨t_,1,dep.map nI,f_⟩) 1 0 c.length 0 c.length (i:Int)=s_ (.rptr 0 c.length i 0):=oE dep f_ 0 c.length i a6.1 zaa zaa;have ab:=Ygn dep f_ c.length i a6.1 a5;have c5:=a4.2 _ (Yuz (x:=dep) (i:=i) (by rw[a4.1];omega));have he:=Yjn x.op;have c6:=Ybf x.op
   by_cases h0:Ez dep i<0
   .rw[zae h0]at hv
    push_cast(disch:=lia)[hx,Mu,Nf,PT,aa,ab,h0,D5]
    refine EV (i+1,dep,s) ⟨by dsimp only;omega,a6,hv⟩ (by dsimp only;omega) ?_;rfl
   rw[zaf h0]at hv;have b1:GY x (Ez dep i)=Ez dep i-(EP x.op).1+(EP x.op).2:=rfl
   by_cases E:Ez dep i<(EP x.op).1
   .rw[zae (.inl E)]at hv
    push_cast(disch:=lia)[hx,Mu,Nf,PT,aa,ab,h0,He,he,FL,D5,E]
    rw[<-hv];rfl
   have ch:(Ez dep i<(EP x.op).1)=False:=zaw E
   by_cases ba:x.op=15
   .have ac:(x.op=15)=True:=zap ba;have a7:(x.op=14)=False:=YYF;have ad:(x.op=13)=False:=YYF;have c1:EP x.op=(1,0):=by rw[ba];rfl
    by_cases hd:Ez dep i=1
    .have ed:(Ez dep i=1)=True:=zap hd;have a8:(x.op=16)=False:=YYF;have c7:¬Ez dep i<(EP x.op).1:=E;have ae:MC x (i:Int)=[]:=by simp[MC,ba]
     have N:¬LJ x (Ez dep i):=by unfold LJ;omega
     rw[zaf N,ae]at hv
     push_cast(disch:=lia)[hx,Mu,Nf,PT,aa,ab,h0,He,he,FL,D5,E,ac,a7,ad,a8,ed,b1.symm]
     have hl:=bI (tb [(102,Q5)] [(98,QS),(101,QT)]) c x i a5 bh (max (max s (Ez dep i)) (GY x (Ez dep i))) (GY x (Ez dep i)) zaa zaa [] zac dep a6;refine hl _ _ rfl rfl rfl rfl rfl rfl rfl rfl rfl rfl rfl (λhn af st' g2 g3=>?_) (λdp hn ah af g0 g2 g4 a0 a1 a2=>?_)
     .rw[hn]at hv;have a3:((0,200):Int×Int)=NB (G3 c.length c 0 (HD c.length) 0):=hv
      push_cast(disch:=lia)[g2,g3]
      rw[<-a3]
     .rw[hn]at hv
      push_cast(disch:=lia)[a2,D5]
      refine EV (i+1,dp,max (max s (Ez dep i)) (GY x (Ez dep i))) ⟨by dsimp only;omega,ah,hv⟩ (by dsimp only;omega) ?_
      push_cast [g0,g2,g4,a0,a1]<;>rfl
    .have ed:(Ez dep i=1)=False:=zaw hd;rw[zae (.inr (.inl ⟨ba,hd⟩))]at hv
     push_cast(disch:=lia)[hx,Mu,Nf,PT,aa,ab,h0,He,he,FL,D5,E,ac,ed]
     rw[<-hv];rfl
   by_cases bc:x.op=16
   .have a8:(x.op=16)=True:=zap bc;have ac:(x.op=15)=False:=zaw ba;have a7:(x.op=14)=False:=YYF;have ad:(x.op=13)=False:=YYF;have c2:EP x.op=(0,0):=by rw[bc];rfl
    by_cases hd:Ez dep i=0
    .have ed:(Ez dep i=0)=True:=zap hd;have ae:MC x (i:Int)=[]:=by simp[MC,bc]
     have N:¬LJ x (Ez dep i):=by unfold LJ;omega
     rw[zaf N,ae]at hv
     push_cast(disch:=lia)[hx,Mu,Nf,PT,aa,ab,h0,He,he,FL,D5,E,ac,a7,ad,a8,ed,b1.symm]
     have hl:=bI (tb [(102,Q5)] [(98,QS),(101,QT)]) c x i a5 bh (max (max s (Ez dep i)) (GY x (Ez dep i))) (GY x (Ez dep i)) zaa zaa [] zac dep a6;refine hl _ _ rfl rfl rfl rfl rfl rfl rfl rfl rfl rfl rfl (λhn af st' g2 g3=>?_) (λdp hn ah af g0 g2 g4 a0 a1 a2=>?_)
     .rw[hn]at hv;have a3:((0,200):Int×Int)=NB (G3 c.length c 0 (HD c.length) 0):=hv
      push_cast(disch:=lia)[g2,g3]
      rw[<-a3]
     .rw[hn]at hv
      push_cast(disch:=lia)[a2,D5]
      refine EV (i+1,dp,max (max s (Ez dep i)) (GY x (Ez dep i))) ⟨by dsimp only;omega,ah,hv⟩ (by dsimp only;omega) ?_
      push_cast [g0,g2,g4,a0,a1]<;>rfl
    .have ed:(Ez dep i=0)=False:=zaw hd;rw[zae (.inr (.inr ⟨bc,hd⟩))]at hv
     push_cast(disch:=lia)[hx,Mu,Nf,PT,aa,ab,h0,He,he,FL,D5,E,ac,a8,ed]
     rw[<-hv];rfl
   have ac:(x.op=15)=False:=zaw ba;have a8:(x.op=16)=False:=zaw bc
   by_cases b5:x.op=14
   .have a7:(x.op=14)=True:=zap b5;have ad:(x.op=13)=False:=YYF;have ae:MC x (i:Int)=[x.n]:=by simp[MC,b5]
    have N:¬LJ x (Ez dep i):=by unfold LJ;omega
    rw[zaf N,ae]at hv;have b2:EW [⟨t_,1,dep.map nI,f_⟩,zzB (D8 x)] 1 8 (O 0 [] t_) (O 1 [I J x.n] t_)=s_ (.row 2 1 0 1,[⟨t_,1,dep.map nI,f_⟩,zzB (D8 x),⟨t_,1,[I J x.n],f_⟩]):=(rfl)
    push_cast(disch:=lia)[↓C5,hx,Mu,Nf,PT,aa,ab,h0,He,Nd,he,FL,D5,E,GN,ac,a7,ad,a8,b1.symm,b2,li1]
    have hl:=bI (tb [(102,Q5)] [(98,QS),(101,QT)]) c x i a5 bh (max (max s (Ez dep i)) (GY x (Ez dep i))) (GY x (Ez dep i)) zaa zaa [x.n] zac dep a6;refine Yv0 (st':=(⟨t_,1,dep.map nI,f_⟩::(zzB (D8 x))::D3 1 (([x.n]:List Int).map nI))) rfl ?_;refine hl _ _ rfl rfl rfl rfl rfl rfl rfl rfl rfl rfl rfl (λhn af st' g2 g3=>?_) (λdp hn ah af g0 g2 g4 a0 a1 a2=>?_)
    .rw[hn]at hv;have a3:((0,200):Int×Int)=NB (G3 c.length c 0 (HD c.length) 0):=hv
     push_cast(disch:=lia)[g2,g3]
     rw[<-a3]
    .rw[hn]at hv
     push_cast(disch:=lia)[a2,D5]
     refine EV (i+1,dp,max (max s (Ez dep i)) (GY x (Ez dep i))) ⟨by dsimp only;omega,ah,hv⟩ (by dsimp only;omega) ?_
     push_cast [g0,g2,g4,a0,a1]<;>rfl
   have a7:(x.op=14)=False:=zaw b5
   by_cases b6:x.op=13
   .have ad:(x.op=13)=True:=zap b6;have ae:MC x (i:Int)=[x.n,(i:Int)+1]:=by simp[MC,b6]
    have N:¬LJ x (Ez dep i):=by unfold LJ;omega
    rw[zaf N,ae]at hv;have b2:EW [⟨t_,1,dep.map nI,f_⟩,zzB (D8 x)] 1 8 (O 0 [] t_) (O 1 [I J x.n] t_)=s_ (.row 2 1 0 1,[⟨t_,1,dep.map nI,f_⟩,zzB (D8 x),⟨t_,1,[I J x.n],f_⟩]):=(rfl);have c0:EW [⟨t_,1,dep.map nI,f_⟩,zzB (D8 x),⟨t_,1,[I J x.n],f_⟩] 1 8 (.row 2 1 0 1) (O 1 [I J ((i:Int)+1)] t_)=s_ (.row 2 2 0 2,[⟨t_,1,dep.map nI,f_⟩,zzB (D8 x),⟨t_,1,[I J x.n,I J ((i:Int)+1)],f_⟩]):=(rfl)
    push_cast(disch:=lia)[↓C5,hx,Mu,Nf,PT,aa,ab,h0,He,Nd,he,FL,D5,E,GN,ac,a7,ad,a8,b1.symm,b2,c0,li2]
    have hl:=bI (tb [(102,Q5)] [(98,QS),(101,QT)]) c x i a5 bh (max (max s (Ez dep i)) (GY x (Ez dep i))) (GY x (Ez dep i)) zaa zaa [x.n,(i:Int)+1] zac dep a6;refine Yv0 (st':=(⟨t_,1,dep.map nI,f_⟩::(zzB (D8 x))::D3 1 (([x.n,(i:Int)+1]:List Int).map nI))) rfl ?_;refine hl _ _ rfl rfl rfl rfl rfl rfl rfl rfl rfl rfl rfl (λhn af st' g2 g3=>?_) (λdp hn ah af g0 g2 g4 a0 a1 a2=>?_)
    .rw[hn]at hv;have a3:((0,200):Int×Int)=NB (G3 c.length c 0 (HD c.length) 0):=hv
     push_cast(disch:=lia)[g2,g3]
     rw[<-a3]
    .rw[hn]at hv
     push_cast(disch:=lia)[a2,D5]
     refine EV (i+1,dp,max (max s (Ez dep i)) (GY x (Ez dep i))) ⟨by dsimp only;omega,ah,hv⟩ (by dsimp only;omega) ?_
     push_cast [g0,g2,g4,a0,a1]<;>rfl
   .have ad:(x.op=13)=False:=zaw b6;have ae:MC x (i:Int)=[(i:Int)+1]:=by simp[MC,b6,b5,ba,bc]
    have N:¬LJ x (Ez dep i):=by unfold LJ;omega
    rw[zaf N,ae]at hv;have b2:EW [⟨t_,1,dep.map nI,f_⟩,zzB (D8 x)] 1 8 (O 0 [] t_) (O 1 [I J ((i:Int)+1)] t_)=s_ (.row 2 1 0 1,[⟨t_,1,dep.map nI,f_⟩,zzB (D8 x),⟨t_,1,[I J ((i:Int)+1)],f_⟩]):=(rfl)
    push_cast(disch:=lia)[↓C5,hx,Mu,Nf,PT,aa,ab,h0,He,he,FL,D5,E,GN,ac,a7,ad,a8,b1.symm,b2,li1]
    have hl:=bI (tb [(102,Q5)] [(98,QS),(101,QT)]) c x i a5 bh (max (max s (Ez dep i)) (GY x (Ez dep i))) (GY x (Ez dep i)) zaa zaa [(i:Int)+1] zac dep a6;refine Yv0 (st':=(⟨t_,1,dep.map nI,f_⟩::(zzB (D8 x))::D3 1 (([(i:Int)+1]:List Int).map nI))) rfl ?_;refine hl _ _ rfl rfl rfl rfl rfl rfl rfl rfl rfl rfl rfl (λhn af st' g2 g3=>?_) (λdp hn ah af g0 g2 g4 a0 a1 a2=>?_)
    .rw[hn]at hv;have a3:((0,200):Int×Int)=NB (G3 c.length c 0 (HD c.length) 0):=hv
     push_cast(disch:=lia)[g2,g3]
     rw[<-a3]
    .rw[hn]at hv
     push_cast(disch:=lia)[a2,D5]
     refine EV (i+1,dp,max (max s (Ez dep i)) (GY x (Ez dep i))) ⟨by dsimp only;omega,ah,hv⟩ (by dsimp only;omega) ?_
     push_cast [g0,g2,g4,a0,a1]<;>rfl
  .obtain rfl:i=c.length:=zaa
   rw[BN,G3]at hv;rw[<-hv]
   by_cases h6:64<s
   .rw[show NB (s_ s)=(0,2)from zae h6]
    push_cast(disch:=lia)[h6]
   .rw[show NB (s_ s)=(s,0)from zaf h6]
    push_cast(disch:=lia)[h6]
def aB:zCC 54 Sy:=
 EM (T:=tb [(102,Q5)] [(98,QS),(101,QT)]) ZO.2 (DP (all_cons YLl all_nil) (all_cons YK4 (all_cons YK0 all_nil))) (λa h=>YEb a h)
def Fz(v:zIL)(p f t c:Int)(S:D)(b:Int):List D:=Eo v++[I J p,I J f,I J t,I J c,S,I J b]
def Et(v:zIL):Prop:=v.2.length=16
variable{v:zIL}
def IX(hv:Et v):(Eo v).length=17:=by simp[Eo,show v.2.length=16 from hv]
section
variable{v:zIL} (hv:Et v) (lent:Bool) (p f t c:Int) (S:D) (b:Int)
include hv
def Ytu:DB (s_ ⟨f_,1,Fz v p f t c S b,lent⟩) 1 f_ 17=s_ (I J p):=Ke (A:=Eo v) rfl (IX hv)
def KW:DB (s_ ⟨f_,1,Fz v p f t c S b,lent⟩) 1 f_ 21=s_ S:=Ke (A:=Eo v++[I J p,I J f,I J t,I J c]) (by simp[Fz];rfl) (by simp[IX hv])
def UY:DB (s_ ⟨f_,1,Fz v p f t c S b,lent⟩) 1 f_ 22=s_ (I J b):=Ke (A:=Eo v++[I J p,I J f,I J t,I J c,S]) (C:=[]) (by simp[Fz]) (by simp[IX hv])
omit hv in
def sy:DB (s_ ⟨f_,1,Fz v p f t c S b,lent⟩) 1 f_ 0=s_ (I J v.1):=Ke (A:=[]) (C:=v.2.map nI++[I J p,I J f,I J t,I J c,S,I J b]) (by simp[Fz,Eo]) rfl
theorem fL(i:Nat)(h:i<16):DB (s_ ⟨f_,1,Fz v p f t c S b,lent⟩) 1 f_ (1+i)=s_ (I J (Ez v.2 i)):=by
 have hi:i<v.2.length:=by rw[show v.2.length=16 from hv];exact h
 have e:v.2=v.2.take i++(Ez v.2 i::v.2.drop (i+1)):=by
  simp_all
 refine Ke (A:=I J v.1::(v.2.take i).map nI) (C:=(v.2.drop (i+1)).map nI++[I J p,I J f,I J t,I J c,S,I J b]) ?_ (by simp;omega);have E:=congrArg (List.map nI) e;rw[A1,Av]at E;simp only[Fz,Eo];rw[E];simp[nI]
def Yzd:DB (s_ ⟨f_,1,Fz v p f t c S b,lent⟩) 5 t_ 17=s_ (U [I J p,I J f,I J t,I J c,S]):=Og (A:=Eo v) (B:=[I J p,I J f,I J t,I J c,S]) (C:=[I J b]) (by simp[Fz]) (IX hv) rfl
def pE(p':Int):DV (s_ (zzB (Fz v p f t c S b))) 1 17 (I J p')=s_ (zzB (Fz v p' f t c S b)):=LR (A:=Eo v) (B:=[I J p]) (C:=[I J f,I J t,I J c,S,I J b]) (xs:=[I J p']) rfl rfl (IX hv) rfl rfl rfl rfl
def YFs(t':Int):DV (s_ (zzB (Fz v p f t c S b))) 1 19 (I J t')=s_ (zzB (Fz v p f t' c S b)):=LR (A:=Eo v++[I J p,I J f]) (B:=[I J t]) (C:=[I J c,S,I J b]) (xs:=[I J t']) (by simp[Fz]) (by simp[Fz]) (by simp[IX hv]) rfl rfl rfl rfl
def YFr(c':Int):DV (s_ (zzB (Fz v p f t c S b))) 1 20 (I J c')=s_ (zzB (Fz v p f t c' S b)):=LR (A:=Eo v++[I J p,I J f,I J t]) (B:=[I J c]) (C:=[S,I J b]) (xs:=[I J c']) (by simp[Fz]) (by simp[Fz]) (by simp[IX hv]) rfl rfl rfl rfl
def Yws(sz:Nat)(els:List D)(E:Bool):DV (s_ (zzB (Fz v p f t c S b))) 1 21 (O sz els E)=s_ (zzB (Fz v p f t c (O sz els E) b)):=LR (A:=Eo v++[I J p,I J f,I J t,I J c]) (B:=[S]) (C:=[I J b]) (xs:=[O sz els E]) (by simp[Fz]) (by simp[Fz]) (by simp[IX hv]) rfl rfl rfl rfl
def Ywt(k to of E:Nat):DV (s_ (zzB (Fz v p f t c S b))) 1 21 (.row k to of E)=s_ (zzB (Fz v p f t c (.row k to of E) b)):=LR (A:=Eo v++[I J p,I J f,I J t,I J c]) (B:=[S]) (C:=[I J b]) (xs:=[.row k to of E]) (by simp[Fz]) (by simp[Fz]) (by simp[IX hv]) rfl rfl rfl rfl
end
variable{S:D}{b b' c' f f' p p' t t':Int}{v':zIL}
def yNk(hv:Et v)(E:Et v'){c:Int}{N:D}(h:Fz v p f t c S b=Fz v' p' f' t' c' N b'):v=v'/\p=p'/\f=f'/\t=t'/\c=c'/\S=N/\b=b':=by
 unfold Fz at h;obtain⟨h1,h2⟩:=Bb h ((IX hv).trans (IX E).symm);simp only[Ab,D.int.injEq,zal,zag]at h2;refine⟨?_,h2⟩;have:EO v=EO v':=by rw[EO,EO,h1]
 exact KJ.1 this
def D6(st:St)(key:Nat)(C:List D):St:=st.set key (zzB C)
theorem uf(st:St)(key:Nat)(C:List D):(D6 st key C).length=st.length:=BE
variable{key:Nat}
def Rd(h:key<st.length)(C:List D):(D6 st key C)[key]?=s_ (zzB C):=by simp[D6,h]
theorem HX(st:St)(key:Nat)(C:List D):List.set st key ((zzB C):PI.Obj)=D6 st key C:=(rfl)
def NR(st:St)(key:Nat)(C E:List D):D6 (D6 st key C) key E=D6 st key E:=by simp[D6]
def Kt(h:key<st.length)(m:St)(C:List D):D6 (st++m) key C=D6 st key C++m:=by unfold D6;exact BI _ _ h
def Ju(h:key<st.length)(m:St):(st++m)[key]?=st[key]?:=Aw h
def WI(h:key<st.length)(C:List D)(m:St):(D6 st key C++m)[key]?=s_ (zzB C):=by rw[Ju (by rw[uf];exact h),Rd h]
def Qj(h:key<st.length)(m:St)(C E:List D):D6 (D6 st key C++m) key E=D6 st key E++m:=by rw[Kt (by rw[uf];exact h),NR]
def P2(st:St)(o:PI.Obj):(st++[o]).length=st.length+1:=zac
def IC(st:St)(key:Nat)(v:zIL)(p f t c:Int)(S:D)(b:Int):Prop:=st[key]?=s_ (zzB (Fz v p f t c S b))
def On{c:Int}(h:IC st key v p f t c S b):key<st.length:=(Aa.1 h).1
def Uo{c:Int}(h:IC st key v p f t c S b)(m:St):IC (st++m) key v p f t c S b:=by unfold IC;rw[Ju (On h)];exact h
def tE{c:Int}{N:D}(hv:Et v)(aa:Et v')(h:IC st key v p f t c S b)(E:IC st key v' p' f' t' c' N b'):v=v'/\p=p'/\f=f'/\t=t'/\c=c'/\S=N/\b=b':=by unfold IC at h E;rw[h]at E;simp only[Dv,PI.Obj.mk.injEq,zal,zag]at E;exact yNk hv aa E
theorem EA(st:St)(key off:Nat):sH st (Y key off)=s_ (Y key off):=(rfl)
def Ja(l:List Int)(i:Nat):Int:=Ez l (l.length-1-i)
def NU(ds:List D)(os:List (Option (Bool×Nat×List D)))(d:D):Prop:=∃(key:Nat)(v:zIL)(p f t c:Int)(l:List Int)(b:Int)(i:Nat),Et v/\i<l.length/\l.length<=4294967296/\ds=[Y key 0,I J (i:Int)]/\os=[s_ (f_,1,Fz v p f t c (EK l) b)]/\d=I J (Ja l i)
def NA:List D->List (Option (Bool×Nat×List D))->Option D:=λds os=>@dite _ (∃d,NU ds os d) (Classical.propDecidable _) (λh=>s_ h.choose) (λ_=>n_)
variable{d:D}{os:List (Option (Bool×Nat×List D))}{ds:List D}
def Yl9{d':D}(h:NU ds os d)(h':NU ds os d'):d=d':=by obtain⟨key,v,p,f,t,c,l,b,i,hv,_,_,rfl,rfl,rfl⟩:=h;obtain⟨ac,v',p',f',t',c',l',b',i',E,_,_,N,h2,rfl⟩:=h';simp only[Ab,D.int.injEq,zal,zag,Int.ofNat_inj,Dv,D4]at N h2;obtain⟨_,rfl⟩:=N;obtain⟨_,_,_,_,_,h3,_⟩:=yNk hv E h2;rw[WL.1 h3]
def Yde(h:NU ds os d):NA ds os=s_ d:=by have E:∃d,NU ds os d:=⟨d,h⟩;unfold NA;rw[zbf E,Yl9 E.choose_spec h]
theorem yYh(h:NA ds os=s_ d):NU ds os d:=by
 unfold NA at h
 split at h
 .grind
 .cases h
variable{l:List Int}
def rj{c:Int}(hv:Et v)(h:IC st key v p f t c (EK l) b)(i:Nat)(hi:i<l.length)(hl:l.length<=4294967296):I5 NA [Y key 0,I J (i:Int)] st=s_ (I J (Ja l i)):=by unfold I5;have e:([D.ptr key 0,I J (i:Int)]).flatMap hk=[key]:=rfl;unfold IC at h;rw[e];simp only[AQ,Cj,B9,h,BF,zaj,Ij,Ae,PI.Obj.see];exact Yde ⟨key,v,p,f,t,c,l,b,i,hv,hi,hl,rfl,rfl,rfl⟩
theorem Ym3{r:Bool×Nat×List D}(h:Ij st [key]=[s_ r]):∃lent,st[key]?=s_ ⟨r.1,r.2.1,r.2.2,lent⟩:=by
 simp only[Ij,Ab,zag]at h
 cases hk:st[key]? with
 |none=>simp[hk]at h
 |some o=>
  rw[hk]at h;simp only[Ae,Dv,PI.Obj.see]at h;subst h;grind
def Yi3:zIC 194 (λds st=>(I5 NA ds st).map (·,st)):=by
 refine Kg (T:=tb [] []) yps.2 (DP all_nil all_nil) ?_;intro ds st r E;simp only[D1]at E;obtain⟨d,hd,rfl⟩:=E;unfold I5 at hd
 split at hd
 case isFalse=>cases hd
 obtain⟨key,v,p,f,t,c,l,b,i,hv,hi,hl,rfl,N,rfl⟩:=yYh hd;obtain⟨lent,hk⟩:=Ym3 N;dsimp only at hk
 have hx:ER st 1 (EK l) (I J ((l.length:Int)-1-(i:Int)))=s_ (.eptr (nI (Ja l i)) 0):=by
  have:=oB st l f_ (l.length-1-i) zaa;rw[show((l.length-1-i:Nat):Int)=(l.length:Int)-1-(i:Int) by omega]at this;exact this
 have hle:E0 st f_ (EK l)=s_ (I J (l.length:Int)):=by simp[E0,Kk,EK,FB]
 unfold yps
 push_cast(disch:=lia)[EA,hk,KW hv,hle,FL,hx,pq]
def Nu:Option Int->D
 |none=>O 0 [] t_
 |some a=>O 1 [I J a] t_
def LW(n:Nat)(l:List Int)(k:Nat):Option Int->D
 |none=>O (nz 1 (l.map nI)) ((l.take (l.length-k)).map nI) t_
 |some _=>.row n (l.length-k+1) 0 (l.length-k+1)
def JM(l:List Int)(k:Nat):Option Int->St
 |none=>[]
 |some a=>[⟨t_,1,(l.take (l.length-k)++[a]).map nI,f_⟩]
def eL(ds:List D)(st:St)(r:D×St):Prop:=∃(key:Nat)(v:zIL)(p f t c:Int)(l:List Int)(b:Int)(k:Nat)(push:Option Int),Et v/\IC st key v p f t c (EK l) b/\k<=l.length/\l.length<=100000/\-1000000<=p/\p<=1000000/\
 ds=[Y key 0,I J (k:Int),Nu push]/\r=(I J 0,D6 st key (Fz v (p+1) f t c (LW st.length l k push) b)++JM l k push)
def Sh:zsF:=Gf eL
theorem Yeq{a b:Option Int}(h:Nu a=Nu b):a=b:=by cases a<;>cases b<;>simp_all [Nu]
def Yx4:Jo eL:=by rintro ds st r r' ⟨key,v,p,f,t,c,l,b,k,push,hv,hm,_,_,_,_,rfl,rfl⟩ ⟨ab,v',p',f',t',c',l',b',k',aa,E,N,_,_,_,_,h,rfl⟩;simp only[Ab,D.ptr.injEq,D.int.injEq,zal,zag,Int.ofNat_inj]at h;obtain⟨rfl,rfl,h3⟩:=h;obtain rfl:=Yeq h3;obtain⟨rfl,rfl,rfl,rfl,rfl,h4,rfl⟩:=tE hv E hm N;rw[WL.1 h4]
def Yrt{c:Int}(hv:Et v)(hm:IC st key v p f t c (EK l) b)(k:Nat)(push:Option Int)(hk:k<=l.length)(hl:l.length<=100000)(E:-1000000<=p)(N:p<=1000000):
  Sh [Y key 0,I J (k:Int),Nu push] st=s_ (I J 0,D6 st key (Fz v (p+1) f t c (LW st.length l k push) b)++JM l k push):=
 NM Yx4 ⟨key,v,p,f,t,c,l,b,k,push,hv,hm,hk,hl,E,N,rfl,rfl⟩
def aD:zIC 192 Sh:=by
 refine Kg (T:=tb [] []) ypt.2 (DP all_nil all_nil) ?_;intro ds st r hr;obtain⟨key,v,p,f,t,c,l,b,k,push,hv,hm,hk,hl,ad,ae,rfl,rfl⟩:=Ku hr;have E:=On hm;unfold IC at hm;have hle:E0 st f_ (EK l)=s_ (I J (l.length:Int)):=by simp[E0,Kk,EK,FB]
 have aa:GS st 1 (EK l) n_ (s_ (I J ((l.length:Int)-(k:Int)))) (s_ (I J ((l.length:Int)-(k:Int))))=s_ (O (nz 1 (l.map nI)) ((l.take (l.length-k)).map nI) t_):=by
  have:=YGe st l f_ (k:=l.length-k) zaa;rwa [show((l.length-k:Nat):Int)=(l.length:Int)-(k:Int) by omega]at this
 have ab:(l.take (l.length-k)).length=l.length-k:=by rw[AJ];omega
 unfold ypt
 cases push with
 |none=>
  have N:EW st 1 8 (O (nz 1 (l.map nI)) ((l.take (l.length-k)).map nI) t_) (O 0 [] t_)=s_ (O (nz 1 (l.map nI)) ((l.take (l.length-k)).map nI) t_,st):=Yfa st 1 8 _ 0 _ t_ zab
  push_cast(disch:=lia)[Nu,EA,hm,KW hv,Ytu hv,hle,FL,aa,N,Yws hv,pE hv,HX,Rd E,NR,D5,LW,JM]
 |some a=>
  have N:EW st 1 8 (O (nz 1 (l.map nI)) ((l.take (l.length-k)).map nI) t_) (O 1 [I J a] t_)=s_ (.row st.length (l.length-k+1) 0 (l.length-k+1),st++[⟨t_,1,(l.take (l.length-k)++[a]).map nI,f_⟩]):=by
   have:=yVg st 1 8 (nz 1 (l.map nI)) ((l.take (l.length-k)).map nI) (O 1 [I J a] t_) [I J a] 1 rfl (.inl rfl) (by
    cases l with
    |nil=>right;simp
    |cons x r=>left;rfl) zab zac (by simp[ab];omega) (by simp[ab];omega)
   rw[this];simp[nI]
  push_cast(disch:=lia)[Nu,EA,hm,KW hv,Ytu hv,hle,FL,aa,N,Ju E,Ywt hv,pE hv,HX,Kt E,WI E,Qj E,D5,LW,JM]
def Es(op a b:Int):Int×Int:=
 if op=3 then IS a b else if op=4 then ID a b else if op=5 then IJ a b else if op=6 then(min a b,0)else if op=7 then(max a b,0)else
 if op=8 then EU a b 8 else if op=9 then EU a b 9 else if op=10 then EU a b 10 else if op=11 then(if a<b then 1 else 0,0)else(0,0)
def rF:=DL (α:=Bool) (λa=>[V a]) (λa=>True) (λa=>I J (if a=t_ then 1 else 0))
def yH0(x:Bool):rF [V x]=s_ (I J (if x=t_ then 1 else 0)):=
 EL (λa b h=>by simp only[Ab,D.bool.injEq,zag]at h;simp[h]) (x) trivial
theorem Yu9(x:Bool):@wW GG (tb [] []) mA.1.code (Du [V x]) [] ⟨DN mA.1.res (I J (if x=t_ then 1 else 0))⟩:=by unfold mA;cases x<;>push_cast(disch:=lia)
def Yj4:zCC 193 rF:=
 EM mA.2 (DP all_nil all_nil) (λa h=>Yu9 a)
def qp:=DL (α:=Int×Int) (λa=>[I J a.1,I J a.2]) (λa=>True) (λa=>.tup [I J (min a.1 a.2),I J 0])
def Yjx(a:Int)(b:Int):qp [I J a,I J b]=s_ (.tup [I J (min a b),I J 0]):=
 EL (λ⟨a0,a1⟩⟨b0,b1⟩h=>by simp only[Ab,D.int.injEq,zal,zag]at h;simp[h]) (a,b) trivial
theorem YE0(a:Int)(b:Int):@wW GG (tb [] []) nR.1.code (Du [I J a,I J b]) [] ⟨DN nR.1.res (.tup [I J (min a b),I J 0])⟩:=by
 unfold nR
 push_cast(disch:=lia)
def YLu:zCC 222 qp:=
 EM nR.2 (DP all_nil all_nil) (λa h=>YE0 a.1 a.2)
def qq:=DL (α:=Int×Int) (λa=>[I J a.1,I J a.2]) (λa=>True) (λa=>.tup [I J (max a.1 a.2),I J 0])
def Yjw(a:Int)(b:Int):qq [I J a,I J b]=s_ (.tup [I J (max a b),I J 0]):=
 EL (λ⟨a0,a1⟩⟨b0,b1⟩h=>by simp only[Ab,D.int.injEq,zal,zag]at h;simp[h]) (a,b) trivial
theorem YEz(a:Int)(b:Int):@wW GG (tb [] []) nS.1.code (Du [I J a,I J b]) [] ⟨DN nS.1.res (.tup [I J (max a b),I J 0])⟩:=by
 unfold nS
 push_cast(disch:=lia)
def YLt:zCC 223 qq:=
 EM nS.2 (DP all_nil all_nil) (λa h=>YEz a.1 a.2)
def qt:=DL (α:=Int×Int) (λa=>[I J a.1,I J a.2]) (λa=>True) (λa=>.tup [I J (EU a.1 a.2 8).1,I J (EU a.1 a.2 8).2])
def Yjv(a:Int)(b:Int):qt [I J a,I J b]=s_ (.tup [I J (EU a b 8).1,I J (EU a b 8).2]):=
 EL (λ⟨a0,a1⟩⟨b0,b1⟩h=>by simp only[Ab,D.int.injEq,zal,zag]at h;simp[h]) (a,b) trivial
def YEy(a:Int)(b:Int):@wW GG (tb [(225,YX)] []) nT.1.code (Du [I J a,I J b]) [] ⟨DN nT.1.res (.tup [I J (EU a b 8).1,I J (EU a b 8).2])⟩:=by
 unfold nT
 push_cast(disch:=lia)[tu a b 8 (.inl rfl)]
def YLs:zCC 224 qt:=
 EM nT.2 (DP (all_cons uP all_nil) all_nil) (λa h=>YEy a.1 a.2)
def qu:=DL (α:=Int×Int) (λa=>[I J a.1,I J a.2]) (λa=>True) (λa=>.tup [I J (EU a.1 a.2 9).1,I J (EU a.1 a.2 9).2])
def Yju(a:Int)(b:Int):qu [I J a,I J b]=s_ (.tup [I J (EU a b 9).1,I J (EU a b 9).2]):=
 EL (λ⟨a0,a1⟩⟨b0,b1⟩h=>by simp only[Ab,D.int.injEq,zal,zag]at h;simp[h]) (a,b) trivial
def YEx(a:Int)(b:Int):@wW GG (tb [(225,YX)] []) nU.1.code (Du [I J a,I J b]) [] ⟨DN nU.1.res (.tup [I J (EU a b 9).1,I J (EU a b 9).2])⟩:=by
 unfold nU
 push_cast(disch:=lia)[tu a b 9 (.inr (.inl rfl))]
def YLr:zCC 226 qu:=
 EM nU.2 (DP (all_cons uP all_nil) all_nil) (λa h=>YEx a.1 a.2)
def qw:=DL (α:=Int×Int) (λa=>[I J a.1,I J a.2]) (λa=>True) (λa=>.tup [I J (EU a.1 a.2 10).1,I J (EU a.1 a.2 10).2])
def Yjt(a:Int)(b:Int):qw [I J a,I J b]=s_ (.tup [I J (EU a b 10).1,I J (EU a b 10).2]):=
 EL (λ⟨a0,a1⟩⟨b0,b1⟩h=>by simp only[Ab,D.int.injEq,zal,zag]at h;simp[h]) (a,b) trivial
def YEw(a:Int)(b:Int):@wW GG (tb [(225,YX)] []) nP.1.code (Du [I J a,I J b]) [] ⟨DN nP.1.res (.tup [I J (EU a b 10).1,I J (EU a b 10).2])⟩:=by
 unfold nP
 push_cast(disch:=lia)[tu a b 10 (.inr (.inr rfl))]
def YLq:zCC 227 qw:=
 EM nP.2 (DP (all_cons uP all_nil) all_nil) (λa h=>YEw a.1 a.2)
def qz:=DL (α:=Int×Int) (λa=>[I J a.1,I J a.2]) (λa=>True) (λa=>.tup [I J (if a.1<a.2 then 1 else 0),I J 0])
def Yjs(a:Int)(b:Int):qz [I J a,I J b]=s_ (.tup [I J (if a<b then 1 else 0),I J 0]):=
 EL (λ⟨a0,a1⟩⟨b0,b1⟩h=>by simp only[Ab,D.int.injEq,zal,zag]at h;simp[h]) (a,b) trivial
def YEv(a:Int)(b:Int):@wW GG (tb [(193,rF)] []) nQ.1.code (Du [I J a,I J b]) [] ⟨DN nQ.1.res (.tup [I J (if a<b then 1 else 0),I J 0])⟩:=by
 unfold nQ;have hc:=yH0 (decide (a<b))
 by_cases h:a<b
 .rw[zba h]at hc
  push_cast(disch:=lia)[h,hc]
 .rw[zaz h]at hc
  push_cast(disch:=lia)[h,hc]
def YLp:zCC 228 qz:=
 EM nQ.2 (DP (all_cons Yj4 all_nil) all_nil) (λa h=>YEv a.1 a.2)
def Ri{sp:zsP}{x y:Int}(h:sp [I J a,I J b]=s_ (.tup [I J x,I J y]))(st:St):HW sp [I J a,I J b] st=s_ (.tup [I J x,I J y],st):=by have E:Ey st [I J a,I J b]=s_ [I J a,I J b]:=(rfl);simp only[HW,E,h];rfl
def GQ(op:Int):Int:=if op=12\/op=13\/op=15 then 1 else if 3<=op/\op<=11 then 2 else 0
def YJx(op:Int)(h:3<=op/\op<=11):∃f,H7 op binA=s_ f:=by
 obtain⟨E,N⟩:=h;have:op=3\/op=4\/op=5\/op=6\/op=7\/op=8\/op=9\/op=10\/op=11:=zaa
 rcases this with rfl|rfl|rfl|rfl|rfl|rfl|rfl|rfl|rfl<;>exact⟨_,rfl⟩
theorem Yhr(op:Int)(h:¬(3<=op/\op<=11)):H7 op binA=n_:=by simp only[binA,H7];grind
def xF(st:St)(op:Int)(ok:Bool)(E:D):JH st 2000002 [0] ok E (.gmap (.f binA)) (I J op)=s_ (match H7 op binA with
  |some f=>if ok then .tup [U [.clo f []],V t_]else U [.clo f []]
  |none=>if ok then .tup [E,V f_]else E):=by
 by_cases h:3<=op/\op<=11
 .have:op=3\/op=4\/op=5\/op=6\/op=7\/op=8\/op=9\/op=10\/op=11:=zaa
  rcases this with rfl|rfl|rfl|rfl|rfl|rfl|rfl|rfl|rfl<;>rfl
 .rw[Yhr op h];have N:∀x:Int,3<=x->x<=11->(op==x)=f_:=λx _ _=>by simp;omega
  simp[JH,GT.sz,GT.els,O7,Ff,Gb,Kb,DE,D.mk,mS,Hv,binA,N]
theorem Yuv:DM (U [.nilf])=s_ [.nilf]:=(rfl)
theorem dK(f:Nat):DV (s_ (zzB [.nilf])) 1 0 (U [.clo f []])=s_ (zzB [.clo f []]):=(rfl)
theorem dJ:DV (s_ (zzB [.nilf])) 1 0 (U [.nilf])=s_ (zzB [.nilf]):=(rfl)
theorem LC(st:St):Fa st 1 f_ (.eptr (.gmap (.f binA)) 0)=s_ (.gmap (.f binA)):=(rfl)
def rB:=DL (α:=Int) (λa=>[I J a]) (λa=>True) (λa=>I J (GQ a))
def yH5(op:Int):rB [I J op]=s_ (I J (GQ op)):=
 EL (λa b h=>by simp only[Ab,D.int.injEq,zal,zag]at h;simp[h]) (op) trivial
def Yvi(op:Int):@wW GG (tb [] []) my.1.code (Du [I J op]) [] ⟨DN my.1.res (I J (GQ op))⟩:=by
 unfold my GQ
 by_cases E:op=12
 .subst E;push_cast(disch:=lia)[zbb]
 .by_cases h2:op=13
  .subst h2;push_cast(disch:=lia)[E,zbb,zbc]
  .by_cases h3:op=15
   .subst h3;push_cast(disch:=lia)[E,h2,zbc]
   .have hn:¬(op=12\/op=13\/op=15):=zaa
    rw[zaf hn]
    by_cases h4:3<=op/\op<=11
    .obtain⟨f,hf⟩:=YJx op h4;have N:=xF [] op t_ (U [.nilf]);rw[hf]at N
     push_cast(disch:=lia)[E,h2,h3,h4,J9 _ _ _ _ Hn,LC,N,Yuv,dK]
    .have hf:=Yhr op h4;have N:=xF [] op t_ (U [.nilf]);rw[hf]at N
     push_cast(disch:=lia)[E,h2,h3,h4,J9 _ _ _ _ Hn,LC,N,Yuv,dJ]
def Yj9:zCC 152 rB:=
 EM my.2 (DP all_nil all_nil) (λa h=>Yvi a)
inductive Out where
 |err (e:Int)
 |pop (k:Nat) (push:Option Int) (pc:Option Int)
 |set (p t c:Int)
def R8(a b:Int):Int:=yab J ((C8 64 a &&& C8 64 b).toNat:Int)
def N4(n:Int):Int:=yab J (1*2^(min n.toNat 64))
def Dw(s:Sta)(i:Nat):Int:=Ja s.stack i
def Ee(v:zIL)(b:Int)(s:Sta)(x:Ins):Out:=
 if x.op=1 then(if 64<=b+s.stack.length then .err 200 else .pop 0 (s_ x.n) n_)
 else if x.op=2 then(if 64<=b+s.stack.length then .err 200 else if R8 v.1 (N4 x.n)=0 then .err 181 else if Ez v.2 x.n.toNat < -9007199254740992\/9007199254740992<Ez v.2 x.n.toNat then .err 3 else .pop 0 (s_ (Ez v.2 x.n.toNat)) n_)
 else if x.op=12 then .pop 1 (s_ (if x.n<=Dw s 0/\Dw s 0<=x.m then 1 else 0)) n_
 else if x.op=13 then .pop 1 n_ (if Dw s 0=0 then s_ x.n else n_)
 else if x.op=14 then .set x.n s.status s.clause
 else if x.op=15 then .set s.pc 1 x.n
 else if x.op=16 then .err 180
 else if(Es x.op (Dw s 1) (Dw s 0)).2=0 then .pop 2 (s_ (Es x.op (Dw s 1) (Dw s 0)).1) n_ else .err (Es x.op (Dw s 1) (Dw s 0)).2
def EF(st:St)(key:Nat)(v:zIL)(b:Int)(s:Sta)(x:Ins):Out->D×St
 |.err e=>(I J e,st++[zzB (D8 x)])
 |.pop k push pc=>(I J 0,D6 st key (Fz v (pc.getD (s.pc+1)) s.fuel s.status s.clause (LW (st.length+1) s.stack k push) b)++[zzB (D8 x)]++JM s.stack k push)
 |.set p t c=>(I J 0,D6 st key (Fz v p s.fuel t c (EK s.stack) b)++[zzB (D8 x)])
structure mOK (v:zIL) (b:Int) (s:Sta) (x:Ins):Prop where
 v:Et v
 b0:0<=b
 b1:b<=64
 l:s.stack.length<=64
 p0:0<=s.pc
 p1:s.pc<=100000
 f:HR x=t_
 n:GQ x.op<=s.stack.length
def fl(P:Int->Prop)(ds:List D)(st:St)(r:D×St):Prop:=∃(key:Nat)(v:zIL)(b:Int)(s:Sta)(x:Ins),mOK v b s x/\P x.op/\IC st key v s.pc s.fuel s.status s.clause (EK s.stack) b/\ds=[Y key 0,Dt x]/\r=EF st key v b s x (Ee v b s x)
def Ln(P:Int->Prop):zsF:=Gf (fl P)
theorem Yyt(P:Int->Prop):Jo (fl P):=by rintro ds st r r' ⟨key,v,b,s,x,hm,_,hk,rfl,rfl⟩ ⟨aa,v',b',s',x',E,_,N,h,rfl⟩;simp only[Ab,D.ptr.injEq,zag,TU]at h;obtain⟨rfl,rfl⟩:=h;obtain⟨rfl,h1,h2,h3,h4,h5,rfl⟩:=tE hm.v E.v hk N;have h6:=WL.1 h5;obtain⟨a1,a2,a3,a4,a5⟩:=s;simp_all
variable{x:Ins}
def Yru{P:Int->Prop}{s:Sta}(E:mOK v b s x)(N:P x.op)(hk:IC st key v s.pc s.fuel s.status s.clause (EK s.stack) b):Ln P [Y key 0,Dt x] st=s_ (EF st key v b s x (Ee v b s x)):=
 NM (Yyt P) ⟨key,v,b,s,x,E,N,hk,rfl,rfl⟩
theorem yWu(h:HR x=t_):0<=x.n/\x.n<=9007199254740992/\(x.op=2->x.n<16):=by
 have:=zat h;obtain⟨N,h2,h3,h4,h5,h6⟩:=this;have hm:(Lg x.op).2<=9007199254740992:=by rcases yFv x.op with e|e|e|e<;>rw[e]<;>decide
 refine⟨zaa,zaa,λE=>?_⟩;have:Lg x.op=(1,15):=by rw[E];rfl
 grind
def Yhw(h:HR x=t_):1<=x.op/\x.op<=16:=⟨(zat h).1,(zat h).2.1⟩
theorem pK(a b:Int):DI .and (I J a) (I J b)=s_ (I J (R8 a b)):=(rfl)
def j0{n:Int}(h:0<=n):DI .shl (I J 1) (I J n)=s_ (I J (N4 n)):=by simp only[DI,Oc,show ¬n<0 by omega,zam,Ae,N4];rfl
def HT(st:St)(l:List Int):E0 st f_ (EK l)=s_ (I J (l.length:Int)):=by simp[E0,Kk,EK,FB]
def Zl{c:Int}(hv:Et v)(E:IC st key v p f t c (EK l) b)(x:Ins)(k:Nat)(N:Int)(aa:N=(k:Int))(push:Option Int)(hk:k<=l.length)(hl:l.length<=64)(ab:0<=p)(ac:p<=100000):
  Sh [Y key 0,I J N,Nu push] (st++[zzB (D8 x)])=s_ (I J 0,D6 st key (Fz v (p+1) f t c (LW (st.length+1) l k push) b)++[zzB (D8 x)]++JM l k push):=by subst aa;have:=Yrt hv (Uo E [zzB (D8 x)]) k push hk zaa zaa zaa;rwa [Kt (On E),P2]at this
def YCa:zIC 177 (Ln (·=1)):=by
 refine Kg (T:=tb [] [(192,Sh)]) yoh.2 (DP all_nil (all_cons aD all_nil)) ?_;intro ds st r hr;obtain⟨key,v,b,s,x,hm,aa,hk,rfl,rfl⟩:=Ku hr;obtain⟨hv,ah,a0,hl,ad,ae,hf,hn⟩:=hm;have ab:=On hk;have ac:=Zl hv hk x 0 0 rfl (s_ x.n) (AS _) hl ad ae;simp only[Nu]at ac;have E:=hk;unfold IC at E;unfold yoh
 by_cases N:64<=b+(s.stack.length:Int)
 .rw[show Ee v b s x=.err 200 by unfold Ee;rw[zae aa,zae N]]
  push_cast(disch:=lia)[F9,EA,Ju ab,E,UY hv,KW hv,HT,D5,N,EF]
 .rw[show Ee v b s x=.pop 0 (s_ x.n) n_ by unfold Ee;rw[zae aa,zaf N]]
  push_cast(disch:=lia)[F9,EA,Ju ab,E,UY hv,KW hv,HT,D5,N,F3,Nd,GN,ac,EF,A4]
def YCc:zIC 178 (Ln (·=2)):=by
 refine Kg (T:=tb [] [(192,Sh)]) yoj.2 (DP all_nil (all_cons aD all_nil)) ?_;intro ds st r hr;obtain⟨key,v,b,s,x,hm,N,hk,rfl,rfl⟩:=Ku hr;obtain⟨hv,a6,a7,hl,a3,a4,hf,hn⟩:=hm;have ab:=On hk;have aa:=hk;unfold IC at aa;obtain⟨ad,_,ae⟩:=yWu hf;have ae:=ae N;have a8:v.2.length=16:=hv;have af:=λlent=>fL hv lent s.pc s.fuel s.status s.clause (EK s.stack) b x.n.toNat zaa;have a1:=Zl hv hk x 0 0 rfl (s_ (Ez v.2 x.n.toNat)) (AS _) hl a3 a4;simp only[Nu]at a1;have e1:¬x.op=1:=zaa
 unfold yoj
 by_cases E:64<=b+(s.stack.length:Int)
 .rw[show Ee v b s x=.err 200 by unfold Ee;rw[zaf e1,zae N,zae E]]
  push_cast(disch:=lia)[F9,EA,Ju ab,aa,UY hv,KW hv,HT,D5,EF,E]
 .by_cases h2:R8 v.1 (N4 x.n)=0
  .rw[show Ee v b s x=.err 181 by unfold Ee;rw[zaf e1,zae N,zaf E,zae h2]]
   push_cast(disch:=lia)[F9,EA,Ju ab,aa,UY hv,KW hv,sy,HT,D5,F3,Nd,EF,E,j0 ad,pK,h2]
  .by_cases h3:Ez v.2 x.n.toNat < -9007199254740992
   .rw[show Ee v b s x=.err 3 by unfold Ee;rw[zaf e1,zae N,zaf E,zaf h2,zae (.inl h3)]]
    push_cast(disch:=lia)[F9,EA,Ju ab,aa,UY hv,KW hv,sy,HT,D5,F3,Nd,EF,E,j0 ad,pK,h2,Mz,af,h3]
   .by_cases h4:9007199254740992<Ez v.2 x.n.toNat
    .rw[show Ee v b s x=.err 3 by unfold Ee;rw[zaf e1,zae N,zaf E,zaf h2,zae (.inr h4)]]
     push_cast(disch:=lia)[F9,EA,Ju ab,aa,UY hv,KW hv,sy,HT,D5,F3,Nd,EF,E,j0 ad,pK,h2,Mz,af,h3,h4]
    .rw[show Ee v b s x=.pop 0 (s_ (Ez v.2 x.n.toNat)) n_ by unfold Ee;rw[zaf e1,zae N,zaf E,zaf h2,YYN]]
     push_cast(disch:=lia)[F9,EA,Ju ab,aa,UY hv,KW hv,sy,HT,D5,F3,Nd,GN,EF,A4,E,j0 ad,pK,h2,Mz,af,h3,h4,a1]
def Ybq:zIC 179 (Ln (·=12)):=by
 refine Kg (T:=Tz [(193,rF)] [(192,Sh)] [(194,NA)]) ylf.2 (pF (all_cons Yj4 all_nil) (all_cons aD all_nil) (all_cons Yi3 all_nil)) ?_;intro ds st r hr;obtain⟨key,v,b,s,x,hm,ab,hk,rfl,rfl⟩:=Ku hr;obtain⟨hv,a0,a1,hl,ad,ae,hf,hn⟩:=hm;have a2:=On hk;have af:=hk;unfold IC at af;have a3:GQ x.op=1:=by rw[ab];rfl
 have ht:I5 NA [Y key 0,I J 0] (st++[zzB (D8 x)])=s_ (I J (Dw s 0)):=rj hv (Uo hk _) 0 zaa zaa;have E:=Zl hv hk x 1 1 rfl (s_ (if x.n<=Dw s 0/\Dw s 0<=x.m then 1 else 0)) zaa hl ad ae;simp only[Nu]at E;rw[show Ee v b s x=.pop 1 (s_ (if x.n<=Dw s 0/\Dw s 0<=x.m then 1 else 0)) n_ by unfold Ee;rw[YYN,YYN,zae ab]];have hc:=yH0 (decide (x.n<=Dw s 0/\Dw s 0<=x.m));simp only[zan]at hc;unfold ylf
 by_cases N:x.n<=Dw s 0
 .by_cases h2:Dw s 0<=x.m
  .have hw:(if x.n<=Dw s 0/\Dw s 0<=x.m then(1:Int)else 0)=1:=zae ⟨N,h2⟩;rw[hw]at E⊢;rw[zba ⟨N,h2⟩]at hc
   push_cast(disch:=lia)[F9,F3,Nd,vA,GN,EF,A4,N,h2,ht,hc,E]
  .have hw:(if x.n<=Dw s 0/\Dw s 0<=x.m then(1:Int)else 0)=0:=zaf zaa;rw[hw]at E⊢;rw[zaz zaa]at hc
   push_cast(disch:=lia)[F9,F3,Nd,vA,GN,EF,A4,N,h2,ht,hc,E]
 .have hw:(if x.n<=Dw s 0/\Dw s 0<=x.m then(1:Int)else 0)=0:=zaf zaa;rw[hw]at E⊢;rw[zaz zaa]at hc
  push_cast(disch:=lia)[F9,F3,Nd,GN,EF,A4,N,ht,hc,E]
def YCd:zIC 181 (Ln (·=14)):=by
 refine Kg (T:=tb [] []) yok.2 (DP all_nil all_nil) ?_;intro ds st r hr;obtain⟨key,v,b,s,x,hm,aa,hk,rfl,rfl⟩:=Ku hr;obtain⟨hv,ac,ad,hl,ae,af,hf,hn⟩:=hm;have E:=On hk;have N:=hk;unfold IC at N;rw[show Ee v b s x=.set x.n s.status s.clause by unfold Ee;rw[YYN,YYN,YYN,YYN,zae aa]];unfold yok
 push_cast(disch:=lia)[F9,EA,Ju E,N,F3,Nd,EF,pE hv,HX,Kt E]
def YCb:zIC 183 (Ln (·=16)):=by
 refine Kg (T:=tb [] []) yoi.2 (DP all_nil all_nil) ?_;intro ds st r hr;obtain⟨key,v,b,s,x,hm,E,hk,rfl,rfl⟩:=Ku hr;obtain⟨hv,ab,ac,hl,ad,ae,hf,hn⟩:=hm;have af:=On hk;have N:=hk;unfold IC at N;rw[show Ee v b s x=.err 180 by unfold Ee;rw[YYN,YYN,YYN,YYN,YYN,YYN,zae E]];unfold yoi
 push_cast(disch:=lia)[F9,EF]
def Yqr(st:St)(key:Nat)(C:List D)(o:PI.Obj):(D6 st key C++[o])[st.length]?=s_ o:=by have:=F3 (D6 st key C) o;rwa [uf]at this
def YB6:zIC 180 (Ln (·=13)):=by
 refine Kg (T:=Tz [] [(192,Sh)] [(194,NA)]) yog.2 (pF all_nil (all_cons aD all_nil) (all_cons Yi3 all_nil)) ?_;intro ds st r hr;obtain⟨key,v,b,s,x,hm,E,hk,rfl,rfl⟩:=Ku hr;obtain⟨hv,a0,a1,hl,ac,ad,hf,hn⟩:=hm;have ab:=On hk;have ae:=hk;unfold IC at ae;have a2:GQ x.op=1:=by rw[E];rfl
 have ht:I5 NA [Y key 0,I J 0] (st++[zzB (D8 x)])=s_ (I J (Dw s 0)):=rj hv (Uo hk _) 0 zaa zaa;have N:=Zl hv hk x 1 1 rfl n_ zaa hl ac ad;simp only[Nu,JM,Ai]at N;unfold yog
 by_cases h1:Dw s 0=0
 .rw[show Ee v b s x=.pop 1 n_ (s_ x.n) by unfold Ee;rw[YYN,YYN,YYN,zae E,zae h1]]
  push_cast(disch:=lia)[F9,EA,Nd,EF,Cq,ht,h1,N,Yqr,WI ab,pE hv,HX,Qj ab,JM]
 .rw[show Ee v b s x=.pop 1 n_ n_ by unfold Ee;rw[YYN,YYN,YYN,zae E,zaf h1]]
  push_cast(disch:=lia)[F9,EF,A4,ht,h1,N,JM]
def YK1:zIC 182 (Ln (·=15)):=by
 refine Kg (T:=tb [] []) ypu.2 (DP all_nil all_nil) ?_;intro ds st r hr;obtain⟨key,v,b,s,x,hm,aa,hk,rfl,rfl⟩:=Ku hr;obtain⟨hv,ad,ae,hl,af,ah,hf,hn⟩:=hm;have E:=On hk;have N:=hk;unfold IC at N;rw[show Ee v b s x=.set s.pc 1 x.n by unfold Ee;rw[YYN,YYN,YYN,YYN,YYN,zae aa]];have ab:(key==st.length)=f_:=by rw[beq_eq_false_iff_ne];omega
 unfold ypu
 push_cast(disch:=lia)[↓Fc,F9,EA,Ju E,N,F3,Nd,EF,YFs hv,YFr hv,HX,Kt E,WI E,Qj E,ab]
def Yme:zIC 219 (HW rv):=YCm.toI Tryz.func219 (by kernel_rfl) (by kernel_rfl)
def Ymc:zIC 220 (HW rA):=YCk.toI Tryz.func220 (by kernel_rfl) (by kernel_rfl)
def Ymd:zIC 221 (HW rz):=YCl.toI Tryz.func221 (by kernel_rfl) (by kernel_rfl)
def Ywo:zIC 222 (HW qp):=YLu.toI Tryz.func222 (by kernel_rfl) (by kernel_rfl)
def Ywn:zIC 223 (HW qq):=YLt.toI Tryz.func223 (by kernel_rfl) (by kernel_rfl)
def Ywm:zIC 224 (HW qt):=YLs.toI Tryz.func224 (by kernel_rfl) (by kernel_rfl)
def Ywl:zIC 226 (HW qu):=YLr.toI Tryz.func226 (by kernel_rfl) (by kernel_rfl)
def Ywk:zIC 227 (HW qw):=YLq.toI Tryz.func227 (by kernel_rfl) (by kernel_rfl)
def Ywj:zIC 228 (HW qz):=YLp.toI Tryz.func228 (by kernel_rfl) (by kernel_rfl)
theorem Ybr:zIC 184 (Ln (λo=>3<=o/\o<=11)):=by
 refine Kg (T:=Tz [] [(192,Sh),(219,HW rv),(220,HW rA),(221,HW rz),(222,HW qp),(223,HW qq),(224,HW qt),(226,HW qu),(227,HW qw),(228,HW qz)] [(194,NA)]) ylh.2 (pF all_nil (all_cons aD (all_cons Yme (all_cons Ymc (all_cons Ymd (all_cons Ywo (all_cons Ywn (all_cons Ywm (all_cons Ywl (all_cons Ywk (all_cons Ywj all_nil)))))))))) (all_cons Yi3 all_nil)) ?_;intro ds st r hr;obtain⟨key,v,b,s,x,hm,ah,hk,rfl,rfl⟩:=Ku hr;obtain⟨hv,a4,a5,hl,a0,a1,hf,hn⟩:=hm;have a6:=On hk;have a2:=hk;unfold IC at a2;have a7:GQ x.op=2:=by unfold GQ;rw[YYN,zae ah]
 have ab:I5 NA [Y key 0,I J 0] (st++[zzB (D8 x)])=s_ (I J (Dw s 0)):=rj hv (Uo hk _) 0 zaa zaa;have ac:I5 NA [Y key 0,I J 1] (st++[zzB (D8 x)])=s_ (I J (Dw s 1)):=rj hv (Uo hk _) 1 zaa zaa;have N:=Zl hv hk x 2 2 rfl (s_ (Es x.op (Dw s 1) (Dw s 0)).1) zaa hl a0 a1;simp only[Nu]at N;have ad:∀f:Nat,Ov 0 1 f_ (U [.clo f []])=s_ (.clo f []):=λf=>(rfl)
 have ae:Ee v b s x=if(Es x.op (Dw s 1) (Dw s 0)).2=0 then .pop 2 (s_ (Es x.op (Dw s 1) (Dw s 0)).1) n_ else .err (Es x.op (Dw s 1) (Dw s 0)).2:=by
  unfold Ee;rw[YYN,YYN,YYN,YYN,YYN,YYN,YYN]
 have hg:=xF (st++[zzB (D8 x)]) x.op f_ (U [.nilf]);have af:x.op=3\/x.op=4\/x.op=5\/x.op=6\/x.op=7\/x.op=8\/x.op=9\/x.op=10\/x.op=11:=zaa
 unfold ylh;rcases af with e|e|e|e|e|e|e|e|e
 .have hb:=Ri (Ybz (Dw s 1) (Dw s 0)) (st++[zzB (D8 x)]);have E:Es x.op (Dw s 1) (Dw s 0)=IS (Dw s 1) (Dw s 0):=by unfold Es;rw[zae e]
  rw[show H7 x.op binA=s_ 219 by rw[e];rfl]at hg
  by_cases he:(Es x.op (Dw s 1) (Dw s 0)).2=0
  .rw[ae,zae he];rw[E]at he N;rw[E]
   push_cast(disch:=lia)[F9,F3,GN,EF,A4,J9 _ _ _ _ Hn,LC,He,hg,ad,ab,ac,hb,he,N]
  .rw[ae,zaf he];rw[E]at he;rw[E]
   push_cast(disch:=lia)[F9,F3,EF,J9 _ _ _ _ Hn,LC,He,hg,ad,ab,ac,hb,he]
 .have hb:=Ri (Ybx (Dw s 1) (Dw s 0)) (st++[zzB (D8 x)]);have E:Es x.op (Dw s 1) (Dw s 0)=ID (Dw s 1) (Dw s 0):=by unfold Es;rw[YYN,zae e]
  rw[show H7 x.op binA=s_ 220 by rw[e];rfl]at hg
  by_cases he:(Es x.op (Dw s 1) (Dw s 0)).2=0
  .rw[ae,zae he];rw[E]at he N;rw[E]
   push_cast(disch:=lia)[F9,F3,GN,EF,A4,J9 _ _ _ _ Hn,LC,He,hg,ad,ab,ac,hb,he,N]
  .rw[ae,zaf he];rw[E]at he;rw[E]
   push_cast(disch:=lia)[F9,F3,EF,J9 _ _ _ _ Hn,LC,He,hg,ad,ab,ac,hb,he]
 .have hb:=Ri (Yby (Dw s 1) (Dw s 0)) (st++[zzB (D8 x)]);have E:Es x.op (Dw s 1) (Dw s 0)=IJ (Dw s 1) (Dw s 0):=by unfold Es;rw[YYN,YYN,zae e]
  rw[show H7 x.op binA=s_ 221 by rw[e];rfl]at hg
  by_cases he:(Es x.op (Dw s 1) (Dw s 0)).2=0
  .rw[ae,zae he];rw[E]at he N;rw[E]
   push_cast(disch:=lia)[F9,F3,GN,EF,A4,J9 _ _ _ _ Hn,LC,He,hg,ad,ab,ac,hb,he,N]
  .rw[ae,zaf he];rw[E]at he;rw[E]
   push_cast(disch:=lia)[F9,F3,EF,J9 _ _ _ _ Hn,LC,He,hg,ad,ab,ac,hb,he]
 .have hb:=Ri (Yjx (Dw s 1) (Dw s 0)) (st++[zzB (D8 x)]);have E:Es x.op (Dw s 1) (Dw s 0)=(min (Dw s 1) (Dw s 0),0):=by unfold Es;rw[YYN,YYN,YYN,zae e]
  rw[show H7 x.op binA=s_ 222 by rw[e];rfl]at hg
  by_cases he:(Es x.op (Dw s 1) (Dw s 0)).2=0
  .rw[ae,zae he];rw[E]at he N;rw[E]
   push_cast(disch:=lia)[F9,F3,GN,EF,A4,J9 _ _ _ _ Hn,LC,He,hg,ad,ab,ac,hb,N]
  .grind
 .have hb:=Ri (Yjw (Dw s 1) (Dw s 0)) (st++[zzB (D8 x)]);have E:Es x.op (Dw s 1) (Dw s 0)=(max (Dw s 1) (Dw s 0),0):=by unfold Es;rw[YYN,YYN,YYN,YYN,zae e]
  rw[show H7 x.op binA=s_ 223 by rw[e];rfl]at hg
  by_cases he:(Es x.op (Dw s 1) (Dw s 0)).2=0
  .rw[ae,zae he];rw[E]at he N;rw[E]
   push_cast(disch:=lia)[F9,F3,GN,EF,A4,J9 _ _ _ _ Hn,LC,He,hg,ad,ab,ac,hb,N]
  .grind
 .have hb:=Ri (Yjv (Dw s 1) (Dw s 0)) (st++[zzB (D8 x)]);have E:Es x.op (Dw s 1) (Dw s 0)=EU (Dw s 1) (Dw s 0) 8:=by unfold Es;rw[YYN,YYN,YYN,YYN,YYN,zae e]
  rw[show H7 x.op binA=s_ 224 by rw[e];rfl]at hg
  by_cases he:(Es x.op (Dw s 1) (Dw s 0)).2=0
  .rw[ae,zae he];rw[E]at he N;rw[E]
   push_cast(disch:=lia)[F9,F3,GN,EF,A4,J9 _ _ _ _ Hn,LC,He,hg,ad,ab,ac,hb,he,N]
  .rw[ae,zaf he];rw[E]at he;rw[E]
   push_cast(disch:=lia)[F9,F3,EF,J9 _ _ _ _ Hn,LC,He,hg,ad,ab,ac,hb,he]
 .have hb:=Ri (Yju (Dw s 1) (Dw s 0)) (st++[zzB (D8 x)]);have E:Es x.op (Dw s 1) (Dw s 0)=EU (Dw s 1) (Dw s 0) 9:=by unfold Es;rw[YYN,YYN,YYN,YYN,YYN,YYN,zae e]
  rw[show H7 x.op binA=s_ 226 by rw[e];rfl]at hg
  by_cases he:(Es x.op (Dw s 1) (Dw s 0)).2=0
  .rw[ae,zae he];rw[E]at he N;rw[E]
   push_cast(disch:=lia)[F9,F3,GN,EF,A4,J9 _ _ _ _ Hn,LC,He,hg,ad,ab,ac,hb,he,N]
  .rw[ae,zaf he];rw[E]at he;rw[E]
   push_cast(disch:=lia)[F9,F3,EF,J9 _ _ _ _ Hn,LC,He,hg,ad,ab,ac,hb,he]
 .have hb:=Ri (Yjt (Dw s 1) (Dw s 0)) (st++[zzB (D8 x)]);have E:Es x.op (Dw s 1) (Dw s 0)=EU (Dw s 1) (Dw s 0) 10:=by unfold Es;rw[YYN,YYN,YYN,YYN,YYN,YYN,YYN,zae e]
  rw[show H7 x.op binA=s_ 227 by rw[e];rfl]at hg
  by_cases he:(Es x.op (Dw s 1) (Dw s 0)).2=0
  .rw[ae,zae he];rw[E]at he N;rw[E]
   push_cast(disch:=lia)[F9,F3,GN,EF,A4,J9 _ _ _ _ Hn,LC,He,hg,ad,ab,ac,hb,he,N]
  .rw[ae,zaf he];rw[E]at he;rw[E]
   push_cast(disch:=lia)[F9,F3,EF,J9 _ _ _ _ Hn,LC,He,hg,ad,ab,ac,hb,he]
 .have hb:=Ri (Yjs (Dw s 1) (Dw s 0)) (st++[zzB (D8 x)]);have E:Es x.op (Dw s 1) (Dw s 0)=(if Dw s 1<Dw s 0 then 1 else 0,0):=by unfold Es;rw[YYN,YYN,YYN,YYN,YYN,YYN,YYN,YYN,zae e]
  rw[show H7 x.op binA=s_ 228 by rw[e];rfl]at hg
  by_cases he:(Es x.op (Dw s 1) (Dw s 0)).2=0
  .rw[ae,zae he];rw[E]at he N;rw[E]
   push_cast(disch:=lia)[F9,F3,GN,EF,A4,J9 _ _ _ _ Hn,LC,He,hg,ad,ab,ac,hb,N]
  .grind
def KN(o:Option PI.Obj)(sz:Nat)(ks:List Nat)(ok:Bool)(zero k:D):Option D:=match o with
 |some o=>if o.isMap&&o.sz==sz then O7 sz ks ok zero k o.els else n_
 |none=>n_
theorem IV(st:St)(sz:Nat)(ks:List Nat)(ok:Bool)(E k:D)(key:Nat):JH st sz ks ok E (.mapv key) k=KN st[key]? sz ks ok E k:=(rfl)
def Il(o:Option PI.Obj)(sz:Nat)(ks:List Nat)(k v:D):Option PI.Obj:=match o,II sz v with
 |some o,s_ v=>if o.isMap&&o.sz==sz&&!o.lent&&v.isCell&&K2 v&&k.cells.length+1==mS sz&&k.cells.all D.isCell&&Gb (mS sz) ks k k==s_ t_&&N1 k&&Ff (mS sz) ks k o.els then(MO (mS sz) ks k v o.els).map λels=>{o with els} else n_
 |_,_=>n_
def JL(st:St)(sz:Nat)(ks:List Nat)(k v:D)(key:Nat):Mp st sz ks (.mapv key) k v=(Il st[key]? sz ks k v).map λo=>st.set key o:=by
 simp only[Mp,Il]
 cases st[key]? with
 |none=>cases II sz v<;>rfl
 |some o=>
  cases II sz v with
  |none=>rfl
  |some v'=>
   simp only
   split
   .cases MO (mS sz) ks k v' o.els<;>rfl
   .rfl
def Qz:List (Int×Nat):=[(1,5000177),(2,5000178),(12,5000179),(13,5000180),(14,5000181),(15,5000182),(16,5000183)]
def iX(k:Nat)(p:Int×Nat):D:=U [I J p.1,.clo p.2 [Y k 0]]
def K6(k i:Nat):List D:=(Qz.take i).map (iX k)
theorem Me(k:Nat):Il (s_ ⟨f_,2,[],f_⟩) 2 [0] (I J 1) (.clo 5000177 [Y k 0])=s_ ⟨f_,2,K6 k 1,f_⟩:=(rfl)
theorem Md(k:Nat):Il (s_ ⟨f_,2,K6 k 1,f_⟩) 2 [0] (I J 2) (.clo 5000178 [Y k 0])=s_ ⟨f_,2,K6 k 2,f_⟩:=(rfl)
theorem Mc(k:Nat):Il (s_ ⟨f_,2,K6 k 2,f_⟩) 2 [0] (I J 12) (.clo 5000179 [Y k 0])=s_ ⟨f_,2,K6 k 3,f_⟩:=(rfl)
theorem Mb(k:Nat):Il (s_ ⟨f_,2,K6 k 3,f_⟩) 2 [0] (I J 13) (.clo 5000180 [Y k 0])=s_ ⟨f_,2,K6 k 4,f_⟩:=(rfl)
theorem Ma(k:Nat):Il (s_ ⟨f_,2,K6 k 4,f_⟩) 2 [0] (I J 14) (.clo 5000181 [Y k 0])=s_ ⟨f_,2,K6 k 5,f_⟩:=(rfl)
theorem L9(k:Nat):Il (s_ ⟨f_,2,K6 k 5,f_⟩) 2 [0] (I J 15) (.clo 5000182 [Y k 0])=s_ ⟨f_,2,K6 k 6,f_⟩:=(rfl)
theorem L8(k:Nat):Il (s_ ⟨f_,2,K6 k 6,f_⟩) 2 [0] (I J 16) (.clo 5000183 [Y k 0])=s_ ⟨f_,2,K6 k 7,f_⟩:=(rfl)
def U0(k:Nat)(op:Int)(f:Nat)(h:H7 op Qz=s_ f):KN (s_ ⟨f_,2,K6 k 7,f_⟩) 2 [0] t_ .nilf (I J op)=s_ (.tup [.clo f [Y k 0],V t_]):=by
 simp only[Qz,H7]at h
 split at h
 .simp only[Dv]at h;subst h;rename_i e;subst e;rfl
 split at h
 .simp only[Dv]at h;subst h;rename_i e;subst e;rfl
 split at h
 .simp only[Dv]at h;subst h;rename_i e;subst e;rfl
 split at h
 .simp only[Dv]at h;subst h;rename_i e;subst e;rfl
 split at h
 .simp only[Dv]at h;subst h;rename_i e;subst e;rfl
 split at h
 .simp only[Dv]at h;subst h;rename_i e;subst e;rfl
 split at h
 .simp only[Dv]at h;subst h;rename_i e;subst e;rfl
 cases h
def Yyy(k:Nat)(op:Int)(h:3<=op/\op<=11):KN (s_ ⟨f_,2,K6 k 7,f_⟩) 2 [0] t_ .nilf (I J op)=s_ (.tup [.nilf,V f_]):=by
 have:op=3\/op=4\/op=5\/op=6\/op=7\/op=8\/op=9\/op=10\/op=11:=zaa
 rcases this with rfl|rfl|rfl|rfl|rfl|rfl|rfl|rfl|rfl<;>rfl
theorem Sk(st:St)(a b:PI.Obj):(st++[a]++[b])[st.length+1]?=s_ b:=by grind
theorem Tx(st:St)(a b:PI.Obj):(st++[a]++[b])[st.length]?=s_ a:=by grind
theorem Sf(st:St)(a b b':PI.Obj):(st++[a]++[b]).set (st.length+1) b'=st++[a]++[b']:=by grind
structure eOK (v:zIL) (b:Int) (s:Sta) (x:Ins):Prop where
 v:Et v
 b0:0<=b
 b1:b<=64
 l:s.stack.length<=64
 p0:0<=s.pc
 p1:s.pc<=100000
 f:HR x=t_
def GP(v:zIL)(b:Int)(s:Sta)(x:Ins):Out:=if(s.stack.length:Int)<GQ x.op then .err 200 else Ee v b s x
def Mi(st:St)(key:Nat)(s:Sta)(x:Ins):St:=if(s.stack.length:Int)<GQ x.op then st else st++[zzB (D8 x)]++[⟨f_,2,K6 key 7,f_⟩]
def iW(ds:List D)(st:St)(r:D×St):Prop:=∃(key:Nat)(v:zIL)(b:Int)(s:Sta)(x:Ins),eOK v b s x/\IC st key v s.pc s.fuel s.status s.clause (EK s.stack) b/\ds=[Y key 0,Dt x]/\r=EF (Mi st key s x) key v b s x (GP v b s x)
def oU:zsF:=Gf iW
theorem YBn:Jo iW:=by rintro ds st r r' ⟨key,v,b,s,x,hm,hk,rfl,rfl⟩ ⟨aa,v',b',s',x',E,N,h,rfl⟩;simp only[Ab,D.ptr.injEq,zag,TU]at h;obtain⟨rfl,rfl⟩:=h;obtain⟨rfl,h1,h2,h3,h4,h5,rfl⟩:=tE hm.v E.v hk N;have h6:=WL.1 h5;obtain⟨a1,a2,a3,a4,a5⟩:=s;simp_all
def Yrz{s:Sta}(E:eOK v b s x)(hk:IC st key v s.pc s.fuel s.status s.clause (EK s.stack) b):oU [Y key 0,Dt x] st=s_ (EF (Mi st key s x) key v b s x (GP v b s x)):=
 NM YBn ⟨key,v,b,s,x,E,hk,rfl,rfl⟩
theorem KU:aJ 2=s_ ⟨f_,2,[],f_⟩:=(rfl)
def YK3:zIC 169 oU:=by
 refine Kg (T:=tb [(152,rB)] [(177,Ln (·=1)),(178,Ln (·=2)),(179,Ln (·=12)),(180,Ln (·=13)),(181,Ln (·=14)),(182,Ln (·=15)),(183,Ln (·=16)),(184,Ln (λo=>3<=o/\o<=11))])
  ylg.2 (DP (all_cons Yj9 all_nil) (all_cons YCa (all_cons YCc (all_cons Ybq (all_cons YB6 (all_cons YCd (all_cons YK1 (all_cons YCb (all_cons Ybr all_nil))))))))) ?_
 intro ds st r hr;obtain⟨key,v,b,s,x,⟨hv,ah,a0,hl,a1,a2,hf⟩,hk,rfl,rfl⟩:=Ku hr;have ac:=On hk;have E:=hk;unfold IC at E;have ad:=yH5 x.op;have a5:=Yhw hf;unfold ylg
 by_cases h1:(s.stack.length:Int)<GQ x.op
 .rw[show GP v b s x=.err 200 from zae h1,show Mi st key s x=st from zae h1]
  push_cast(disch:=lia)[F9,EA,Ju ac,E,KW hv,HT,F3,He,ad,h1,EF]
 .rw[show GP v b s x=Ee v b s x from zaf h1,show Mi st key s x=_ from zaf h1];have hm:mOK v b s x:=⟨hv,ah,a0,hl,a1,a2,hf,zaa⟩;have a3:IC (st++[zzB (D8 x)]++[⟨f_,2,K6 key 7,f_⟩]) key v s.pc s.fuel s.status s.clause (EK s.stack) b:=Uo (Uo hk _) _
  have fin:∀(P:Int->Prop),P x.op->∃d st',Ln P [Y key 0,Dt x] (st++[zzB (D8 x)]++[⟨f_,2,K6 key 7,f_⟩])=s_ (d,st')/\EF (st++[zzB (D8 x)]++[⟨f_,2,K6 key 7,f_⟩]) key v b s x (Ee v b s x)=(d,st'):=
   λP hP=>⟨_,_,Yru hm hP a3,rfl⟩
  have af:x.op=1\/x.op=2\/x.op=12\/x.op=13\/x.op=14\/x.op=15\/x.op=16\/(3<=x.op/\x.op<=11):=zaa
  rcases af with e|e|e|e|e|e|e|e
  .obtain⟨d,st',N,h3⟩:=fin (·=1) e;have hg:=U0 key x.op _ (show H7 x.op Qz=s_ 5000177 by rw[e];rfl);rw[h3]
   push_cast(disch:=lia)[F9,EA,Ju ac,E,KW hv,HT,F3,He,ad,h1,P2,JL,IV,Sk,Sf,Tx,KU,Me,Md,Mc,Mb,Ma,L9,L8,hg,QU,SQ _ 5000177 177 _ rfl zab,N]
  .obtain⟨d,st',N,h3⟩:=fin (·=2) e;have hg:=U0 key x.op _ (show H7 x.op Qz=s_ 5000178 by rw[e];rfl);rw[h3]
   push_cast(disch:=lia)[F9,EA,Ju ac,E,KW hv,HT,F3,He,ad,h1,P2,JL,IV,Sk,Sf,Tx,KU,Me,Md,Mc,Mb,Ma,L9,L8,hg,QU,SQ _ 5000178 178 _ rfl zab,N]
  .obtain⟨d,st',N,h3⟩:=fin (·=12) e;have hg:=U0 key x.op _ (show H7 x.op Qz=s_ 5000179 by rw[e];rfl);rw[h3]
   push_cast(disch:=lia)[F9,EA,Ju ac,E,KW hv,HT,F3,He,ad,h1,P2,JL,IV,Sk,Sf,Tx,KU,Me,Md,Mc,Mb,Ma,L9,L8,hg,QU,SQ _ 5000179 179 _ rfl zab,N]
  .obtain⟨d,st',N,h3⟩:=fin (·=13) e;have hg:=U0 key x.op _ (show H7 x.op Qz=s_ 5000180 by rw[e];rfl);rw[h3]
   push_cast(disch:=lia)[F9,EA,Ju ac,E,KW hv,HT,F3,He,ad,h1,P2,JL,IV,Sk,Sf,Tx,KU,Me,Md,Mc,Mb,Ma,L9,L8,hg,QU,SQ _ 5000180 180 _ rfl zab,N]
  .obtain⟨d,st',N,h3⟩:=fin (·=14) e;have hg:=U0 key x.op _ (show H7 x.op Qz=s_ 5000181 by rw[e];rfl);rw[h3]
   push_cast(disch:=lia)[F9,EA,Ju ac,E,KW hv,HT,F3,He,ad,h1,P2,JL,IV,Sk,Sf,Tx,KU,Me,Md,Mc,Mb,Ma,L9,L8,hg,QU,SQ _ 5000181 181 _ rfl zab,N]
  .obtain⟨d,st',N,h3⟩:=fin (·=15) e;have hg:=U0 key x.op _ (show H7 x.op Qz=s_ 5000182 by rw[e];rfl);rw[h3]
   push_cast(disch:=lia)[F9,EA,Ju ac,E,KW hv,HT,F3,He,ad,h1,P2,JL,IV,Sk,Sf,Tx,KU,Me,Md,Mc,Mb,Ma,L9,L8,hg,QU,SQ _ 5000182 182 _ rfl zab,N]
  .obtain⟨d,st',N,h3⟩:=fin (·=16) e;have hg:=U0 key x.op _ (show H7 x.op Qz=s_ 5000183 by rw[e];rfl);rw[h3]
   push_cast(disch:=lia)[F9,EA,Ju ac,E,KW hv,HT,F3,He,ad,h1,P2,JL,IV,Sk,Sf,Tx,KU,Me,Md,Mc,Mb,Ma,L9,L8,hg,QU,SQ _ 5000183 183 _ rfl zab,N]
  .obtain⟨d,st',N,h3⟩:=fin (λo=>3<=o/\o<=11) e;have hg:=Yyy key x.op e;rw[h3]
   push_cast(disch:=lia)[F9,EA,Ju ac,E,KW hv,HT,F3,He,ad,h1,P2,JL,IV,Sk,Sf,Tx,KU,Me,Md,Mc,Mb,Ma,L9,L8,hg,QU,N]
def JW(ps:List (Int×Int)):List D:=ps.map λp=>U [I J p.1,I J p.2]
def KA(l:List (zLB)):List D:=l.map λs=>U [.str s,V t_]
theorem gv(a b c:Int):Gb 2 [0] (I J a) (DE 2 (U [I J b,I J c]))=s_ (a==b):=rfl
theorem gu(a b:zLB)(c:Bool):Gb 2 [2] (.str a) (DE 2 (U [.str b,V c]))=s_ (a==b):=rfl
theorem Vq(a:Int):∀(ps:List (Int×Int))(i:Nat),Hv 2 [0] (I J a) (JW ps) i=s_ n_\/∃j p,Hv 2 [0] (I J a) (JW ps) i=s_ (s_ (i+j))/\(JW ps)[j]?=s_ (U [I J (p:Int×Int).1,I J p.2])
 |[],i=>.inl rfl
 |x::r,i=>by
  have E:=Vq a r (i+1);simp only[JW,Av,Hv,gv]at E⊢
  cases h:(a==x.1)with
  |true=>exact .inr ⟨0,x,rfl,rfl⟩
  |false=>
   rcases E with N|⟨j,p,N,h2⟩
   .grind
   .exact .inr ⟨j+1,p,by rw[N,Cw,B6 1],h2⟩
theorem Vp(a:zLB):∀(l:List (zLB))(i:Nat),Hv 2 [2] (.str a) (KA l) i=s_ n_\/∃j p,Hv 2 [2] (.str a) (KA l) i=s_ (s_ (i+j))/\(KA l)[j]?=s_ (U [.str p,V t_])
 |[],i=>.inl rfl
 |x::r,i=>by
  have E:=Vp a r (i+1);simp only[KA,Av,Hv,gu]at E⊢
  cases h:(a==x)with
  |true=>exact .inr ⟨0,x,rfl,rfl⟩
  |false=>
   rcases E with N|⟨j,p,N,h2⟩
   .grind
   .exact .inr ⟨j+1,p,by rw[N,Cw,B6 1],h2⟩
def eV(a:Int)(ps:List (Int×Int)):Ff 2 [0] (I J a) (JW ps)=t_:=by simp only[Ff,JW,CW,Ad];exact λ_ _=>rfl
def eT(a:zLB)(l:List (zLB)):Ff 2 [2] (.str a) (KA l)=t_:=by simp only[Ff,KA,CW,Ad];exact λ_ _=>rfl
def gn(a:Int):Gb 2 [0] (I J a) (I J a)=s_ t_:=by show s_ (a==a)=_;rw[zas]
def gm(a:zLB):Gb 2 [2] (.str a) (.str a)=s_ t_:=by show s_ (a==a)=_;rw[zas]
theorem RT(a:Int)(ps:List (Int×Int)):∃v,KN (s_ ⟨f_,2,JW ps,f_⟩) 2 [0] f_ (I J 0) (I J a)=s_ (I J v):=by
 simp only[KN,Obj.isMap,O7,show mS 2=2 from rfl,gn,eV];rcases Vq a ps 0 with h|⟨j,p,h,E⟩
 .grind
 .rw[h,Ar];simp only[E];exact⟨_,rfl⟩
theorem mg_t(a:zLB)(l:List (zLB)):∃v,KN (s_ ⟨f_,2,KA l,f_⟩) 2 [2] f_ (V f_) (.str a)=s_ (V v):=by
 simp only[KN,Obj.isMap,O7,show mS 2=2 from rfl,gm,eT];rcases Vp a l 0 with h|⟨j,p,h,E⟩
 .simp_all
 .rw[h,Ar];simp only[E];exact⟨_,rfl⟩
theorem YI4(a v:Int):∀(ps:List (Int×Int)),∃E,Fk 2 a (U [I J a,I J v]) (JW ps)=JW E/\E.length=ps.length+1
 |[]=>⟨[(a,v)],rfl,rfl⟩
 |p::r=>by
  obtain⟨r',N,h2⟩:=YI4 a v r;simp only[JW,Av,Fk]at N⊢
  split
  .exact⟨(a,v)::p::r,rfl,rfl⟩
  .exact⟨p::r',by rw[N];rfl,by simp[h2]⟩
theorem eF(a v:Int)(ps:List (Int×Int)):∃E,L5 2 [0] (I J a) (U [I J a,I J v]) (JW ps)=JW E/\E.length=ps.length:=by refine⟨ps.map λp=>if a==p.1 then(a,v)else p,?_,zac⟩;simp only[L5,JW,Bf];refine AY λp _=>?_;simp only[Function.comp,gv];grind
theorem eE(a:zLB)(l:List (zLB)):∃l',L5 2 [2] (.str a) (U [.str a,V t_]) (KA l)=KA l'/\l'.length=l.length:=by refine⟨l.map λp=>if a==p then a else p,?_,zac⟩;simp only[L5,KA,Bf];refine AY λp _=>?_;simp only[Function.comp,gu];grind
def zV(a v:Int)(ps:List (Int×Int))(h:ps.length<39):∃E,Il (s_ ⟨f_,2,JW ps,f_⟩) 2 [0] (I J a) (I J v)=s_ ⟨f_,2,JW E,f_⟩/\E.length<=ps.length+1:=by
 have hl:(JW ps).length<39:=by simpa[JW]using h
 have hv:II 2 (I J v)=s_ (I J v):=rfl;simp only[Il,hv,Obj.isMap,show mS 2=2 from rfl,gn,eV,MO];rcases Vq a ps 0 with h|⟨j,p,h,h2⟩
 .obtain⟨E,N,h4⟩:=YI4 a v ps;rw[h];simp only[hl,zaj];exact⟨E,by rw[<-N];rfl,zaa⟩
 .obtain⟨E,N,h4⟩:=eF a v ps;rw[h];exact⟨E,by rw[<-N];rfl,zaa⟩
def zU(a:zLB)(l:List (zLB))(h:l.length<39):∃l',Il (s_ ⟨f_,2,KA l,f_⟩) 2 [2] (.str a) (V t_)=s_ ⟨f_,2,KA l',f_⟩/\l'.length<=l.length+1:=by
 have hl:(KA l).length<39:=by simpa[KA]using h
 have hv:II 2 (V t_)=s_ (V t_):=rfl;simp only[Il,hv,Obj.isMap,show mS 2=2 from rfl,gm,eT,MO];rcases Vp a l 0 with h|⟨j,p,h,N⟩
 .rw[h];simp only[hl,zaj];exact⟨l++[a],by simp only[KA,A1,Av,Bc];rfl,zac⟩
 .obtain⟨l',E,h4⟩:=eE a l;rw[h];exact⟨l',by rw[<-E];rfl,zaa⟩
def YJo(ps:List (Int×Int)):List.flatMap hk (JW ps)=[]:=by rw[Bz];intro x E;obtain⟨_,_,rfl⟩:=AR.1 E;rfl
def YJn(l:List (zLB)):List.flatMap hk (KA l)=[]:=by rw[Bz];intro x E;obtain⟨_,_,rfl⟩:=AR.1 E;rfl
def Yxs(n:Nat)(σ:List Nat)(ps:List (Int×Int)):List.map (ED n σ) (JW ps)=JW ps:=by simp only[JW,Bf];exact AY λ_ _=>rfl
def Yxr(n:Nat)(σ:List Nat)(l:List (zLB)):List.map (ED n σ) (KA l)=KA l:=by simp only[KA,Bf];exact AY λ_ _=>rfl
attribute [push_cast] YJo YJn Yxs Yxr
theorem YHh:aJ 2=s_ ⟨f_,2,[],f_⟩:=rfl
theorem mp_z:(⟨f_,2,[],f_⟩:PI.Obj)=⟨f_,2,JW [],f_⟩:=rfl
theorem YL3(a b c d:Int):DM (J1 a b c d)=s_ (QA a b c d):=rfl
theorem Yt9(a b c d:Int):List.flatMap hk (QA a b c d)=[]:=rfl
theorem Yxu(n:Nat)(σ:List Nat)(a b c d:Int):List.map (ED n σ) (QA a b c d)=QA a b c d:=rfl
theorem gZ(a b c d:Int):hk (J1 a b c d)=[]:=rfl
theorem YGx(n:Nat)(σ:List Nat)(a b c d:Int):ED n σ (J1 a b c d)=J1 a b c d:=rfl
theorem Yxp(n:Nat)(σ:List Nat)(a b c d:Int):FD n σ (J0 a b c d)=J0 a b c d:=rfl
def YC0(a b c d:Int)(l:St):HG (J0 a b c d::l)=HG l:=by simp[HG,J0,Yt9]
attribute [push_cast] Yt9 Yxu gZ YGx Yxp YC0
def YI3(a b c d:Int)(h:i<4):∃x,Qt 4 1 f_ (J1 a b c d) (I J (i:Int))=s_ (I J x):=by
 match i,h with
 |0,_=>exact⟨a,rfl⟩
 |1,_=>exact⟨b,rfl⟩
 |2,_=>exact⟨c,rfl⟩
 |3,_=>exact⟨d,rfl⟩
def bJ(a b c d:Int):@wW GG (tb [] []) Z3.1.code (Du [J1 a b c d]) [] ⟨FP Z3.1.res (QD [J1 a b c d])⟩:=by
 unfold Z3
 push_cast(disch:=lia)[YL3,YHh,mp_z]
 refine Gn (λi:Nat×List (Int×Int)=>[(3,.mapv 1),(7,J1 a b c d),(8,I J (i.1:Int))]) (λi=>[zzB (QA a b c d),⟨f_,2,JW i.2,f_⟩]) (λi=>i.1<=4/\i.2.length<=i.1) (λi=>4-i.1) (0,[]) (by push_cast<;>rfl) ⟨AS _,Au _⟩ ?_;rintro⟨i,ps⟩ ⟨hi,hl⟩;dsimp only at hi hl
 by_cases h2:i<4
 .have E:(i:Int)<4:=zaa
  obtain⟨x,hx⟩:=YI3 a b c d h2;obtain⟨v,hv⟩:=RT x ps;obtain⟨af,hp,a2⟩:=zV x (IntKind.i64.wrap (v+1)) ps zaa;have hw:=Ni (n:=(i:Int)+1) zaa zaa
  push_cast(disch:=lia)[E,hx,IV,hv,Nh,JL,hp,hw]
  refine EV (i+1,af) ⟨h2,by dsimp only;omega⟩ (by dsimp only;omega) ?_;rfl
 .have E:¬(i:Int)<4:=zaa
  obtain⟨v0,N⟩:=RT 0 ps;obtain⟨v1,e1⟩:=RT 1 ps;obtain⟨v2,e2⟩:=RT (-1) ps;generalize hs:IntKind.i64.wrap (IntKind.i64.wrap (v0+v1)+v2)=s
  by_cases h4:s=4
  .by_cases h5:v1<=1
   .push_cast(disch:=lia)[E,IV,N,e1,e2,Nh,hs,h4,h5]
    exact⟨_,rfl⟩
   .push_cast(disch:=lia)[E,IV,N,e1,e2,Nh,hs,h4,h5]
    exact⟨_,rfl⟩
  .push_cast(disch:=lia)[E,IV,N,e1,e2,Nh,hs,h4]
   exact⟨_,rfl⟩
abbrev Vi:zsP:=Ii (tb [] []) Z3.1 QD
theorem ik(a b c d:Int):∃v,Vi [J1 a b c d]=s_ (V v):=by obtain⟨_,h,v,rfl⟩:=I2 (bJ a b c d);grind
abbrev TF1(pf:zsP):Tbl:=tb [(91,pf)] []
def zl{E:zsP}{x:Gx}{v:Bool}(h:E [gD x]=s_ (V v)):@wW GG (TF1 E) Z0.1.code (Du [gD x]) [] ⟨FP Z0.1.res (QD [gD x])⟩:=by
 unfold Z0
 push_cast(disch:=lia)[Qp,RU,UH,h]
 exact⟨_,rfl⟩
abbrev rK(pf:zsP):zsP:=Ii (TF1 pf) Z0.1 QD
abbrev TIf(p1:zsP):Tbl:=tb [] [(137,HW p1)]
variable{p1:zsP}
theorem cy(ks:List Gx)(hl:ks.length<=4)(h:∀y∈ks,∃v,p1 [gD y]=s_ (V v)):@wW GG (TIf p1) aw.1.code (Du [O (nz 7 (ks.map gD)) (ks.map gD) f_,.clo 137 []]) [] ⟨FP aw.1.res (Yx [O (nz 7 (ks.map gD)) (ks.map gD) f_,.clo 137 []])⟩:=by
 unfold aw
 push_cast(disch:=lia)
 refine Gn (λi:Nat=>[(0,O (nz 7 (ks.map gD)) (ks.map gD) f_),(1,.clo 137 []),(7,I J (ks.length:Int)),(8,I J (i:Int))]) (λ_=>[]) (λi=>i<=ks.length) (λi=>ks.length-i) 0 (by push_cast [↓C5]<;>rfl) (AS _) ?_;intro i hi
 by_cases N:i<ks.length
 .have E:(i:Int)<ks.length:=zaa
  have aa:∀st:St,ER st 7 (O (nz 7 (ks.map gD)) (ks.map gD) f_) (I J (i:Int))=s_ (.eptr (gD ks[i]) 0):=λst=>by
   have ac:nz 7 (ks.map gD)=7:=by unfold nz;rw[zaf];cases ks<;>simp at N⊢
   have ad:0<=(i:Int):=zaa
   simp[ER,ac,FA,ad,N]
  obtain⟨v,hv⟩:=h ks[i] (A6 N)
  have ab:HW p1 [gD ks[i]] []=s_ (V v,[]):=by
   unfold HW;rw[yN8,yWj,UH];simp only[Bj,Ae,hv];rfl
  cases v with
  |true=>
   push_cast(disch:=lia)[E,aa,U4,ab]
   grind
  |false=>
   push_cast(disch:=lia)[E,aa,U4,ab,D5]
   refine EV (i+1) N zaa ?_;rfl
 .have E:¬(i:Int)<ks.length:=zaa
  push_cast(disch:=lia)[E]
  grind
abbrev eO(p1:zsP):zsP:=Ii (TIf p1) aw.1 Yx
abbrev TCf(p:zsP):Tbl:=tb [(166,p)] []
abbrev rM(p:zsP):zsP:=Ii (TCf p) uI.1 QD
theorem g_cf(ks:List Gx)(hl:ks.length<=4)(h:∀y∈ks,∃v,p1 [gD y]=s_ (V v)):∃v,rM (eO p1) [O (nz 7 (ks.map gD)) (ks.map gD) f_,.clo 137 []]=s_ (V v):=by
 obtain⟨_,N,i,rfl⟩:=I2 (cy ks hl h)
 have:∃r,rM (eO p1) [O (nz 7 (ks.map gD)) (ks.map gD) f_,.clo 137 []]=s_ r/\QD [O (nz 7 (ks.map gD)) (ks.map gD) f_,.clo 137 []] r:=by
  refine I2 ?_;unfold uI;have E:nz (nz 7 (ks.map gD)) (ks.map gD)=nz 7 (ks.map gD):=by unfold nz;split<;>simp_all
  push_cast(disch:=lia)[E,N]
  exact⟨_,rfl⟩
 obtain⟨_,h2,v,rfl⟩:=this;simp_all
def gop:Gx->Int
 |.num _ _ _ _ _=>1
 |.att _=>2
 |.bin o _ _=>((3+o:Nat):Int)
 |.ite _ _ _ _=>11
def gnn:Gx->Int
 |.num n _ _ _ _=>n
 |.att n=>n
 |_=>0
def gdm:Gx->D
 |.num _ a b c d=>J1 a b c d
 |_=>J1 0 0 0 0
def YJy(x:Gx):∃a b c d,gdm x=J1 a b c d:=by cases x<;>exact⟨_,_,_,_,rfl⟩
section
variable(x:Gx) (b:Bool)
def fT:DB (s_ ⟨f_,1,gC x,b⟩) 1 f_ 0=s_ (I J (gop x)):=by cases x<;>rfl
def fS:DB (s_ ⟨f_,1,gC x,b⟩) 1 f_ 1=s_ (I J (gnn x)):=by cases x<;>rfl
def fR:DB (s_ ⟨f_,1,gC x,b⟩) 4 t_ 2=s_ (gdm x):=by cases x<;>rfl
end
def YMr(a b c d a' b' c' d':Int)(n:Bool):∃v,Jg [0,0,0,0] n (J1 a b c d) (J1 a' b' c' d')=s_ (V v):=⟨_,rfl⟩
theorem YBi:Ec [I J 0,I J 0,I J 0,I J 0] []=s_ (QA 0 0 0 0):=rfl
theorem YMq(a b c d:Int):D.agg (QA a b c d)=J1 a b c d:=rfl
def YI6(st:St)(a b c d:Int):D2 st (J1 a b c d)=s_ (J1 a b c d):=by simp[J1,D2,Ef,DO,D.pure1]
abbrev TFo(p:zsP):Tbl:=tb [(135,Vi),(136,p)] []
theorem YEs{p:zsP}{x:Gx}(h:∃v,p [O (nz 7 ((D7 x).map gD)) ((D7 x).map gD) f_,.clo 137 []]=s_ (V v)):@wW GG (TFo p) ZT.1.code (Du [gD x]) [] ⟨FP ZT.1.res (QD [gD x])⟩:=by
 obtain⟨v,hv⟩:=h;obtain⟨a,b,c,d,hd⟩:=YJy x;obtain⟨w,hw⟩:=ik a b c d;obtain⟨u,hu⟩:=YMr a b c d 0 0 0 0 t_;have ac:nz (nz 7 ((D7 x).map gD)) ((D7 x).map gD)=nz 7 ((D7 x).map gD):=by unfold nz;split<;>simp_all
 have E:=fT x f_;have N:=fS x f_;have aa:=fR x f_;have ab:=jR x f_ 1;rw[hd]at aa;unfold ZT;generalize gop x=o at E;generalize gnn x=n at N;have box:=Qp x;generalize gC x=C at E N aa ab box;have ad:¬(2:Int)=1:=zab
 have k1:¬(11:Int)=1:=zab
 have k2:¬(11:Int)=2:=zab
 by_cases o1:o=1
 case' pos=>simp(disch:=first|omega|decide) only[push_cast,↓reduceIte,C3,box,E,N,o1]
 case' neg=>
  by_cases o2:o=2
  case' pos=>simp(disch:=first|omega|decide) only[push_cast,↓reduceIte,C3,box,E,N,o2,ad]
  case' neg=>
   by_cases o3:o=11
   case' pos=>simp(disch:=first|omega|decide) only[push_cast,↓reduceIte,C3,Dj,box,E,N,o3,k1,k2]
   case' neg=>simp(disch:=first|omega|decide) only[push_cast,↓reduceIte,C3,box,E,o1,o2,o3]
 all_goals
  repeat' first
   |exact⟨_,rfl⟩
   |(refine Fm (λhc=>?_) (λhc=>?_)<;>simp(disch:=first|omega|decide) only[push_cast,↓reduceIte,C3,E,N,aa,ab,hc,hw,hu,hv,ac,YBi,YMq,YI6,zah,zai])
   |(refine yp (λhc=>?_) (λhc=>?_)<;>simp(disch:=first|omega|decide) only[push_cast,↓reduceIte,C3,E,ab,hc,hv,ac])
def TB:Nat->zsP
 |0=>λ_=>n_
 |n+1=>Ii (TFo (rM (eO (rK (TB n))))) ZT.1 QD
def YIn(x:Gx):(D7 x).length<=4:=by cases x<;>simp[D7]
theorem Yto:∀(n:Nat)(x:Gx),x.sz<=n->∃v:Bool,TB n [gD x]=s_ (V v)
 |0,x,h=>by cases x<;>simp[Gx.sz]at h
 |n+1,x,h=>by
  obtain⟨_,E,v,rfl⟩:=I2 (YEs (x:=x) (g_cf (D7 x) (YIn x) λy N=>by
   obtain⟨v,hv⟩:=Yto n y (Cd (AX (bl N) h));obtain⟨_,E,v,rfl⟩:=I2 (zl hv);exact⟨v,E⟩))
  exact⟨v,E⟩
def YKq:CP 135 Vi:=I0 _ Z3.2 (DP all_nil all_nil)
theorem Yui:∀n,CP 91 (TB n)
 |0=>λ_ _ _ _ _ h=>by cases h
 |n+1=>I0 (T:=TFo (rM (eO (rK (TB n))))) _ ZT.2 (DP (all_cons YKq (all_cons (I0 (T:=TCf (eO (rK (TB n)))) _ uI.2 (DP (all_cons (I0 (T:=TIf (rK (TB n))) _ aw.2
   (DP all_nil (all_cons ((I0 (T:=TF1 (TB n)) _ Z0.2 (DP (all_cons (Yui n) all_nil) all_nil)).toI Tryz.func137 rfl rfl) all_nil))) all_nil) all_nil)) all_nil)) all_nil)
section
variable(c:Cl) (nm:zLB) (f:Int) (L:D) (b:Bool)
def UR:DV (s_ (zzB (bC [] (D0 0 []) Gl))) 9 0 (Ea c)=s_ (zzB (IM c)):=Hs 1 _ _ 9 rfl (jP c) (YKy c)
def Ti:DB (s_ ⟨f_,1,IM c,b⟩) 7 t_ 2=s_ (gD c.pay):=by have h:(gC c.pay).length=7:=PD _;rw[Mh];simp[DB,IM,D.mk,h,AE]
def sn:DB (s_ ⟨f_,1,IM c,b⟩) 1 f_ 1=s_ (O (nz 3 (c.ws.map FN)) (c.ws.map FN) f_):=by simp[DB,IM,D.mk]
def U5(st:St):Fa st 9 t_ (.eptr (Ea c) 0)=s_ (Ea c):=by simp[Fa,Ea,yaZ,jP,D.mk,AE]
def YJp:List.flatMap hk (IM c)=[]:=by simp[IM,YJq,hk,DT,Gk]
def Yxt(n:Nat)(σ:List Nat):List.map (ED n σ) (IM c)=IM c:=by simp only[IM,Av,Ytm];rfl
theorem Ytn(st:St)(t:Int×Int×Int):Fa st 3 t_ (.eptr (FN t) 0)=s_ (FN t):=rfl
theorem Ytf(t:Int×Int×Int):DV (s_ (zzB (GD (0,0,0)))) 3 0 (FN t)=s_ (zzB (GD t)):=rfl
theorem Yzg(t:Int×Int×Int):DB (s_ ⟨f_,1,GD t,b⟩) 1 f_ 0=s_ (I J t.1):=rfl
theorem YH4(t:Int×Int×Int):DB (s_ ⟨f_,1,GD t,b⟩) 1 f_ 1=s_ (I J t.2.1):=rfl
theorem YH3(t:Int×Int×Int):DB (s_ ⟨f_,1,GD t,b⟩) 1 f_ 2=s_ (I J t.2.2):=rfl
theorem oO:DB (s_ (GL nm f L)) 1 f_ 0=s_ (.str nm):=rfl
theorem Ygi:DB (s_ (GL nm f L)) 1 f_ 1=s_ (I J f):=rfl
theorem Tr(t:Tf):DM (Kv t)=s_ [.str t.name,I J t.kind,O (nz 9 (t.cls.map Ea)) (t.cls.map Ea) f_]:=rfl
theorem Yxo(n z:Nat)(σ:List Nat)(l:List D):FD n σ (GL nm f (O z l b))=GL nm f (O z l b):=rfl
def YCz(z:Nat)(l:List D)(r:St):HG (GL nm f (O z l b)::r)=HG r:=by simp[HG,GL,hk,DT,Gk]
end
attribute [push_cast] YJp Yxt Yxo YCz
theorem p8{c:Cl}:∀{l:List Cl},c∈l->c.ws.length+c.pay.sz<=J2 l
 |a::r,h=>by
  have e:J2 (a::r)=(a.ws.length+a.pay.sz)+J2 r:=by simp[J2]
  rcases AB.1 h with rfl|h
  .omega
  .have:=p8 h;omega
abbrev TCk:Tbl:=tb [(90,Yye),(91,TB 400),(83,RN),(89,pn 400)] []
def cN{t:Tf}(ht:t.ok):@wW GG TCk ZQ.1.code (Du [Kv t]) [] ⟨FP ZQ.1.res (Yx [Kv t])⟩:=by
 obtain⟨nm,kd,cls⟩:=t;obtain⟨h1,h2,h3⟩:=ht;dsimp only at h1 h2 h3;have a3:∀c∈cls,c.ws.length+c.pay.sz<=400:=λc hc=>AT (p8 hc) h3;obtain⟨w0,e0⟩:=Yub nm;obtain⟨r0,e1⟩:=YA7 nm;have a4:¬(64:Int)<cls.length:=zaa
 have a5:∀(st:St)(i:Nat)(h:i<cls.length),ER st 9 (O (nz 9 (cls.map Ea)) (cls.map Ea) f_) (I J (i:Int))=s_ (.eptr (Ea cls[i]) 0):=λst i h=>by
  have N:nz 9 (cls.map Ea)=9:=by unfold nz;rw[zaf];cases cls<;>simp at h⊢
  have aa:0<=(i:Int):=zaa
  simp[ER,N,FA,aa,h]
 unfold ZQ
 cases w0 with
 |false=>
  push_cast(disch:=lia)[Tr,JN,oO,e0]
  exact⟨_,rfl⟩
 |true=>
 by_cases k1:kd<1
 .push_cast(disch:=lia)[Tr,JN,oO,Ygi,e0,k1]
  exact⟨_,rfl⟩
 by_cases k2:6<kd
 .push_cast(disch:=lia)[Tr,JN,oO,Ygi,e0,k1,k2]
  exact⟨_,rfl⟩
 push_cast(disch:=lia)[Tr,JN,oO,Ygi,e0,k1,k2,e1,XQ,a4,Az,YHh]
 refine Gn (λi:Nat×Bool×Bool×List (zLB)=>[(3,V i.2.1),(4,V i.2.2.1),(5,.mapv 1),(33,O (nz 9 (cls.map Ea)) (cls.map Ea) f_),(34,I J (cls.length:Int)),(35,I J (i.1:Int))]) (λi=>[GL nm kd (O (nz 9 (cls.map Ea)) (cls.map Ea) f_),⟨f_,2,KA i.2.2.2,f_⟩])
  (λi=>i.1<=cls.length/\i.2.2.2.length<=i.1) (λi=>cls.length-i.1) (0,r0,f_,[]) (by push_cast<;>rfl) ⟨AS _,Au _⟩ ?_
 rintro⟨i,n,m,l⟩ ⟨hi,hl⟩;dsimp only at hi hl
 by_cases h5:i<cls.length
 case neg=>
  have E:¬(i:Int)<cls.length:=zaa
  cases n with
  |true=>
   push_cast(disch:=lia)[E]
   exact⟨_,rfl⟩
  |false=>
   cases m with
   |true=>
    push_cast(disch:=lia)[E]
    exact⟨_,rfl⟩
   |false=>
    push_cast(disch:=lia)[E]
    exact⟨_,rfl⟩
 have E:(i:Int)<cls.length:=zaa
 have hx:=λst=>a5 st i h5;have a7:=h1 cls[i] (A6 h5);have a8:=a3 cls[i] (A6 h5);generalize cls[i]=c at hx a7 a8;obtain⟨w1,e2⟩:=Yub c.name;obtain⟨f1,e3⟩:=Yto 400 c.pay zaa
 cases w1 with
 |false=>
  push_cast(disch:=lia)[E,hx,U5,PN,UR,XO,e2]
  exact⟨_,rfl⟩
 |true=>
 cases f1 with
 |false=>
  push_cast(disch:=lia)[E,hx,U5,PN,UR,XO,e2,Ti,UH,e3]
  exact⟨_,rfl⟩
 |true=>
 push_cast(disch:=lia)[E,hx,U5,PN,UR,XO,e2,Ti,UH,e3,sn,Az]
 refine Gn (λj:Nat=>[(3,V n),(4,V m),(5,.mapv 1),(7,Y 2 0),(33,O (nz 9 (cls.map Ea)) (cls.map Ea) f_),(34,I J (cls.length:Int)),(35,I J (i:Int)),(50,O (nz 3 (c.ws.map FN)) (c.ws.map FN) f_),(51,I J (c.ws.length:Int)),(52,I J (j:Int))])
  (λ_=>[GL nm kd (O (nz 9 (cls.map Ea)) (cls.map Ea) f_),⟨f_,2,KA l,f_⟩,zzB (IM c)]) (λj=>j<=c.ws.length) (λj=>c.ws.length-j) 0 (by push_cast [↓C5]<;>rfl) (AS _) ?_
 intro j hj
 by_cases h6:j<c.ws.length
 .have ab:(j:Int)<c.ws.length:=zaa
  have hy:∀st:St,ER st 3 (O (nz 3 (c.ws.map FN)) (c.ws.map FN) f_) (I J (j:Int))=s_ (.eptr (FN c.ws[j]) 0):=λst=>by
   have N:nz 3 (c.ws.map FN)=3:=by unfold nz;rw[zaf];cases hw:c.ws<;>simp[hw]at h6⊢
   have aa:0<=(j:Int):=zaa
   simp[ER,N,FA,aa,h6]
  generalize c.ws[j]=q at hy;have hw:=Ni (n:=(j:Int)+1) zaa zaa
  push_cast(disch:=lia)[ab,hy,Ytn,OH,Ytf,Yzg]
  repeat' first
   |exact⟨_,rfl⟩
   |(refine Fm (λhc=>?_) (λhc=>?_)<;>push_cast(disch:=lia)[Yzg,YH4,YH3,hc,Nh,hw])
  refine EV (j+1) h6 zaa ?_;rfl
 have ab:¬(j:Int)<c.ws.length:=zaa
 obtain⟨r,e4⟩:=YA7 c.name;obtain⟨v,e5⟩:=mg_t c.name l;obtain⟨q,e6⟩:=Yx5 400 c.pay zaa;obtain⟨l',e7,e8⟩:=zU c.name l zaa;have hw:=Ni (n:=(i:Int)+1) zaa zaa
 push_cast(disch:=lia)[ab]
 repeat' first
  |exact EV (i+1,_,_,l') ⟨h5,by dsimp only;omega⟩ (by dsimp only;omega) (by push_cast<;>rfl)
  |(refine yp (λhc=>?_) (λhc=>?_)<;>push_cast(disch:=lia)[XO,Ti,sn,Az,UH,hc,e4,IV,e5,e6,JL,e7,Nh,hw])
  |(refine Fm (λhc=>?_) (λhc=>?_)<;>push_cast(disch:=lia)[↓Fc,↓C5,XO,Ti,sn,Az,UH,YIp,hc,e4,IV,e5,e6,JL,e7,Nh,hw])
abbrev RP:zsP:=Ii TCk ZQ.1 Yx
theorem YJ5{t:Tf}(E:t.ok):∃e:Int,RP [Kv t]=s_ (I J e):=by obtain⟨_,h,e,rfl⟩:=I2 (cN E);simp_all
def Yuk:CP 49 RP:=I0 (T:=TCk) _ ZQ.2 (DP (all_cons YBv (all_cons (Yui 400) (all_cons Yuh (all_cons (YBz 400) all_nil)))) all_nil)
theorem YL1:DM (U [.nilf])=s_ [.nilf]:=(rfl)
theorem YBh(f:Nat)(l:List D):Ec [.nilf] [(0,1,.clo f l)]=s_ [.clo f l]:=(rfl)
theorem dL(f:Nat)(l:List D):DV (s_ (zzB [.nilf])) 1 0 (U [.clo f l])=s_ (zzB [.clo f l]):=(rfl)
theorem YIa(d:D)(lent:Bool):DB (s_ ⟨f_,1,[d],lent⟩) 1 t_ 0=s_ (U [d]):=(rfl)
attribute [push_cast] YL1 YBh dL YIa
def Ytl:zsF:=λds st=>match ds,st with
 |[I J n],[]=>s_ (U [.clo 138 [Y 0 0]],[zzB [I J n],zzB [.clo 138 [Y 0 0]]])
 |_,_=>n_
theorem Yus:zIC 94 Ytl:=by
 refine Kg (T:=tb [] []) yxp.2 (DP all_nil all_nil) ?_;intro ds st r h;unfold Ytl at h
 split at h
 case h_2=>cases h
 rename_i n;cases h;unfold yxp
 push_cast(disch:=lia)
def pd:List D->List (Option (Bool×Nat×List D))->Option D:=λds _=>match ds with
 |[I J n]=>s_ (U [.clo 138 [.eptr (I J n) 0]])
 |_=>n_
theorem yO9(n:Int)(st:St):I5 pd [I J n] st=s_ (U [.clo 138 [.eptr (I J n) 0]]):=(rfl)
theorem YB9:zIC 94 (λds st=>(I5 pd ds st).map (·,st)):=by
 refine⟨Yus.1,?_⟩;intro base w g st st' ds vs d ac hS hG hl ad
 obtain⟨n,rfl,rfl,rfl⟩:∃n:Int,ds=[.int .i64 n]/\d=.agg [.clo 138 [.eptr (.int .i64 n) 0]]/\st'=st:=by
  simp only[A8,BV]at ac;obtain⟨r,E,rfl,rfl⟩:=ac;unfold I5 at E
  split at E
  case isFalse=>cases E
  unfold pd at E;grind
 have a1:SR w.heap.size w g []:=⟨λk o h=>by simp at h,λk o h=>by simp at h,λk k' o o' h=>by simp at h,hS.im,λk o x h=>by simp at h,Au _⟩
 have ab:∀(i:Nat)d v,[D.int .i64 n][i]?=s_ d->vs[i]?=s_ v->RepV w g [] d v:=by
  intro i d v hd hv;have h0:=ad i d v hd hv
  cases i with
  |zero=>
   simp only[Ay,AG]at hd;subst hd;cases h0;exact .int .i64 n
  |succ i=>simp at hd
 refine(Yus.2 w.heap.size w g [] _ _ vs _ rfl a1 hG hl ab).mono ?_;rintro e w' ⟨v,g',rfl,N,hv⟩;have h6:=N.below;have ae:Beside w w':=⟨h6.os,h6.tape,h6.output,h6.size⟩;obtain⟨C,e,q1,q2,_,_,q3,q4⟩:=N.sr.blk 0 (zzB [.int .i64 n]) rfl rfl;obtain⟨_,v1,q5,q6⟩:=q4 0 0 (.int .i64 n) rfl
 have a2:w'.cell? ⟨g'.β 0,0,n_⟩=s_ v1:=by
  have q5:C[0]?=s_ v1:=q5;simp only[World.cell?,q1];exact q5
 cases q6
 have hf:∃f:Value,v=.agg #[f]/\RepV w' g' [zzB [.int .i64 n],zzB [.clo 138 [.ptr 0 0]]] (.clo 138 [.ptr 0 0]) f:=by
  cases hv with
  |agg _ us E h2=>
   match us,E with
   |[f],_=>exact⟨f,rfl,h2 0 _ f rfl rfl⟩
 obtain⟨f,rfl,hf⟩:=hf
 have hu:f=.func (IN 138) (Sr 138 [.pointer (s_ ⟨g'.β 0,0,n_⟩)]) (Ts 138 [.pointer (s_ ⟨g'.β 0,0,n_⟩)]):=by
  cases hf with
  |clo _ _ us E h2=>
   match us,E with
   |[u],_=>
    have h3:=h2 0 _ u rfl rfl;cases h3;rfl
 subst hu;refine⟨_,{g with Im:=λb o=>g'.Im b o\/(b=g'.β 0/\o=0)},rfl,?_,?_⟩
 .refine hS.more ae h6.block (λb o h=>.inl (N.im.im b o h).1) (λb o h=>?_) (λb o h=>?_)
  .rcases h with h|⟨rfl,_⟩
   .exact N.new b o h
   .omega
  .rcases h with h|⟨rfl,rfl⟩
   .exact N.sr.im b o h
   .grind
 .refine .agg _ [_] rfl λi d v hd hv=>?_
  cases i with
  |succ i=>simp at hd
  |zero=>
   simp only[Ay,AG]at hd hv;subst hd;subst hv;refine .clo _ _ [_] rfl λi d v hd hv=>?_
   cases i with
   |succ i=>simp at hd
   |zero=>
    simp only[Ay,AG]at hd hv;subst hd;subst hv;refine .eptr (.int .i64 n) 0 (g'.β 0) 0 (λ_=>.int .i64 n) (λj d hd=>?_) (λj d hd=>?_) (λj d hd=>?_)
    .cases j with
     |zero=>simp only[yaZ,Ay,AG]at hd;subst hd;rfl
     |succ j=>simp[yaZ]at hd
    .grind
    .cases j with
     |zero=>simp only[yaZ,Ay,AG]at hd;subst hd;exact .int .i64 n
     |succ j=>simp[yaZ]at hd
def TF:D:=.clo 92 []
def rV:D:=.clo 93 []
def eI(n:Int):D:=.clo 138 [.eptr (I J n) 0]
def zF:List (Int×D):=[(3,TF),(4,TF),(6,TF),(7,TF),(5,eI 1),(8,eI (-1)),(9,eI (-1)),(10,eI (-1)),(11,rV)]
def Lu(i:Nat):List D:=(zF.take i).foldl (λl p=>Fk 2 p.1 (U [I J p.1,p.2]) l) []
def Jd:Obj:=⟨f_,2000002,Lu 9,f_⟩
def mr_0:Il (s_ ⟨f_,2000002,[],f_⟩) 2000002 [0] (I J 3) (U [.clo 92 []])=s_ ⟨f_,2000002,Lu 1,f_⟩:=by kernel_rfl
def mr_1:Il (s_ ⟨f_,2000002,Lu 1,f_⟩) 2000002 [0] (I J 4) (U [.clo 92 []])=s_ ⟨f_,2000002,Lu 2,f_⟩:=by kernel_rfl
def mr_2:Il (s_ ⟨f_,2000002,Lu 2,f_⟩) 2000002 [0] (I J 6) (U [.clo 92 []])=s_ ⟨f_,2000002,Lu 3,f_⟩:=by kernel_rfl
def z9:Il (s_ ⟨f_,2000002,Lu 3,f_⟩) 2000002 [0] (I J 7) (U [.clo 92 []])=s_ ⟨f_,2000002,Lu 4,f_⟩:=by kernel_rfl
def z8:Il (s_ ⟨f_,2000002,Lu 4,f_⟩) 2000002 [0] (I J 5) (U [.clo 138 [.eptr (I J 1) 0]])=s_ ⟨f_,2000002,Lu 5,f_⟩:=by kernel_rfl
def z6:Il (s_ ⟨f_,2000002,Lu 5,f_⟩) 2000002 [0] (I J 8) (U [.clo 138 [.eptr (I J (-1)) 0]])=s_ ⟨f_,2000002,Lu 6,f_⟩:=by kernel_rfl
def zZ:Il (s_ ⟨f_,2000002,Lu 6,f_⟩) 2000002 [0] (I J 9) (U [.clo 138 [.eptr (I J (-1)) 0]])=s_ ⟨f_,2000002,Lu 7,f_⟩:=by kernel_rfl
def zY:Il (s_ ⟨f_,2000002,Lu 7,f_⟩) 2000002 [0] (I J 10) (U [.clo 138 [.eptr (I J (-1)) 0]])=s_ ⟨f_,2000002,Lu 8,f_⟩:=by kernel_rfl
def zX:Il (s_ ⟨f_,2000002,Lu 8,f_⟩) 2000002 [0] (I J 11) (U [.clo 93 []])=s_ ⟨f_,2000002,Lu 9,f_⟩:=by kernel_rfl
theorem Yyv:aJ 2000002=s_ ⟨f_,2000002,[],f_⟩:=(rfl)
theorem Ya2(ρ:PA->D)(st:St)(f:Nat)(l:List PA):POp.foot ρ st (.rcall f l)=s_ ⟨(l.map ρ).flatMap hk,[],n_⟩:=(rfl)
attribute [push_cast] Ya2 mr_0 mr_1 mr_2 z9 z8 z6 zZ zY zX
def qN:List D->Option ((Nat->D)×(Nat->List Obj)):=λds=>match ds with
 |[]=>s_ (λn=>.mapv (n+2),λ_=>[zzB [TF],zzB [rV],Jd])
 |_=>n_
theorem yPa:qN []=s_ (λn=>.mapv (n+2),λ_=>[zzB [TF],zzB [rV],Jd]):=(rfl)
theorem ap2(st l:St)(o p q:PI.Obj):(st++o::p::q::l)[st.length+2]?=s_ q:=by grind
theorem sp2(st l:St)(o p q x:PI.Obj):(st++o::p::q::l).set (st.length+2) x=st++o::p::x::l:=by simp_all
theorem Yri:zIC 50 (λds st=>(qN ds).map λr=>(r.1 st.length,st++r.2 st.length)):=by
 refine Kg (T:=Tz [] [] [(94,pd)]) yxo.2 (pF all_nil all_nil (all_cons YB9 all_nil)) ?_;intro ds st r N;simp only[A8]at N;obtain⟨r0,E,rfl⟩:=N
 obtain rfl:ds=[]:=by
  unfold qN at E;grind
 rw[yPa]at E;cases E;have q1:=λst=>yO9 1 st;have q2:=λst=>yO9 (-1) st;have l1:(st.length<st.length+2)=True:=zac
 have l2:(st.length+1<st.length+2)=True:=zac
 have e1:(st.length==st.length+2)=f_:=zac
 have e2:(st.length+1==st.length+2)=f_:=zac
 have e3:(st.length+2==st.length)=f_:=zac
 have e4:(st.length+2==st.length+1)=f_:=zac
 unfold yxo Jd TF rV
 push_cast(disch:=lia)[↓Fc,Yyv,JL,q1,q2,l1,l2,e3,e4,Al,Aj,Aq,Ag,An,As,GA,OD,ap2,MQ,RJ,sp2]
abbrev Uv:=Int×Int×Int×Int
def uC(u:Uv):List D:=[I J u.1,I J u.2.1,I J u.2.2.1,I J u.2.2.2]
def uD(u:Uv):D:=U (uC u)
def TJ(_:List D)(d:D):Prop:=∃u b,d=.tup [uD u,V b]
theorem rW(E:Bool)(a b:Uv):∃v,Jg [0,0,0,0] E (uD a) (uD b)=s_ (V v):=by simp only[uD,uC,Jg,Gs,Kb,zaj,Ae];grind
theorem OI:DM (U [I J 0,I J 0,I J 0,I J 0])=s_ (uC (0,0,0,0)):=(rfl)
theorem zq:D.agg [I J 0,I J 0,I J 0,I J 0]=uD (0,0,0,0):=(rfl)
theorem pR:Ec [I J 0,I J 0,I J 0,I J 0] []=s_ (uC (0,0,0,0)):=(rfl)
theorem Jc(a b:Uv):DV (s_ (zzB (uC a))) 4 0 (uD b)=s_ (zzB (uC b)):=(rfl)
theorem sP(a b:Uv):DV (s_ (zzB (uC a))) 4 0 (U (uC b))=s_ (zzB (uC b)):=(rfl)
theorem IL(a:Uv)(b:Bool):DB (s_ ⟨f_,1,uC a,b⟩) 4 t_ 0=s_ (uD a):=(rfl)
def fM(a:Uv)(h:i<4):∃x:Int,DB (s_ (zzB (uC a))) 1 f_ i=s_ (I J x):=by rcases(zaa:i=0\/i=1\/i=2\/i=3)with rfl|rfl|rfl|rfl<;>exact⟨_,rfl⟩
def dF(a:Uv)(v:Int)(h:i<4):∃a',DV (s_ (zzB (uC a))) 1 i (I J v)=s_ (zzB (uC a')):=by
 obtain⟨p,q,r,s⟩:=a;rcases(zaa:i=0\/i=1\/i=2\/i=3)with rfl|rfl|rfl|rfl
 .exact⟨(v,q,r,s),rfl⟩
 .exact⟨(p,v,r,s),rfl⟩
 .exact⟨(p,q,v,s),rfl⟩
 .exact⟨(p,q,r,v),rfl⟩
section
variable{k:Nat}{A:List Uv}{S:St}
def YFb(j:Nat)(u:Uv)(h:A[j]?=s_ u)(hi:i<4):∃x:Int,N2 (s_ (FC 4 (A.map uD))) 1 f_ A.length j i=s_ (I J x):=by rcases(zaa:i=0\/i=1\/i=2\/i=3)with rfl|rfl|rfl|rfl<;>exact⟨_,by simp[N2,FC,h,uD,uC,yaZ,D.mk];rfl⟩
def X4(j:Nat)(u:Uv)(h:A[j]?=s_ u):N2 (s_ (FC 4 (A.map uD))) 4 t_ A.length j 0=s_ (uD u):=by simp[N2,FC,h,uD,uC,yaZ,D.mk]
theorem Sj(hk:S[k]?=s_ (FC 4 (A.map uD)))(hi:i<A.length):ER S 4 (D0 k (A.map uD)) (I J (i:Int))=s_ (.rptr k A.length i 0):=by have:=oq (S:=S) (kr:=k) (els:=A.map uD) (i:=i) (sz:=4) (λ_=>hk) zab (by simpa using hi);grind
def Yv8(hk:S[k]?=s_ (FC 4 (A.map uD)))(j:Nat)(n:Int)(N:0<=n)(h4:n<4):J8 S 4 1 (.rptr k A.length j 0) (I J n)=s_ (.rptr k A.length j n.toNat):=by
 have E:EY S k A.length=t_:=by unfold EY;rw[hk];simp[FC]
 simp only[J8,FA,N,zaj];rw[zae zaa];simp only[FE,E,zaj,BS,Ar]
end
variable{A:List Uv}{k:Nat}
def zk(n:Int)(hk:st[k]?=s_ (FC 4 (A.map uD)))(hA:A.length=2):@wW GG (tb [] []) ZU.1.code (Du [D0 k (A.map uD),.eptr (I J n) 0]) st ⟨Eu ZU.1.res (QG TJ [D0 k (A.map uD),.eptr (I J n) 0] st)⟩:=by
 have N:∀(l:St),(st++l)[k]?=s_ (FC 4 (A.map uD)):=λl=>Fs hk;have i0:∀l,ER (st++l) 4 (D0 k (A.map uD)) (I J 0)=s_ (.rptr k A.length 0 0):=λl=>Sj (N l) (i:=0) zaa;have i1:∀l,ER (st++l) 4 (D0 k (A.map uD)) (I J 1)=s_ (.rptr k A.length 1 0):=λl=>Sj (N l) (i:=1) zaa;obtain⟨a,ha⟩:∃a,A[0]?=s_ a:=⟨_,Ah zaa⟩;obtain⟨b,hb⟩:∃b,A[1]?=s_ b:=⟨_,Ah zaa⟩;unfold ZU;simp(disch:=first|omega|decide) only[push_cast,OI];refine NP (λi:Nat×Uv=>[(0,D0 k (A.map uD)),(1,.eptr (I J n) 0),(3,Y st.length 0),(6,I J (i.1:Int))]) (λi=>st++[zzB (uC i.2)]) (λi=>i.1<=4) (λi=>4-i.1) (0,(0,0,0,0)) (by simp only[push_cast,↓reduceIte,C3]<;>rfl) (by dsimp only;omega) ?_;rintro⟨i,u⟩ hi;dsimp only at hi
 by_cases h2:(i:Int)<4
 .have E:i<4:=zaa
  obtain⟨x,hx⟩:=YFb 0 a ha E;obtain⟨y,hy⟩:=YFb 1 b hb E;have ja:=λ(l:St)j=>Yv8 (N l) j (i:Int) zaa h2;have pe:∀st:St,Fa st 1 f_ (.eptr (I J n) 0)=s_ (I J n):=λ_=>rfl;have mul:∀a b,DI .mul (I J a) (I J b)=s_ (I J (IntKind.i64.wrap (a*b))):=λ_ _=>rfl;generalize hv:IntKind.i64.wrap (x+IntKind.i64.wrap (n*y))=v;obtain⟨u',hu⟩:=dF u v E;obtain⟨z,hz⟩:=fM u' E;simp(disch:=first|omega|decide) only[push_cast,↓reduceIte,C3,Da,h2,i0,i1,ja,N,hx,hy,pe,mul,Nh,hv,Mz,GA,MQ,Ar,AH,hu,hz];have hw:=Ni (n:=(i:Int)+1) zaa zaa
  repeat' first
   |exact⟨_,_,rfl,_,_,rfl⟩
   |exact EV (i+1,u') (by dsimp only;omega) (by dsimp only;omega) (by simp only[push_cast]<;>rfl)
   |(refine yp (λhc=>?_) (λhc=>?_)<;>simp(disch:=first|omega|decide) only[push_cast,↓reduceIte,C3,Da,hc,GA,MQ,Mz,Ar,AH,hz,pR,sP,IL,Nh,hw])
   |(refine Fm (λhc=>?_) (λhc=>?_)<;>simp(disch:=first|omega|decide) only[push_cast,↓Fc,↓reduceIte,C3,Nat.reduceLT,Nat.reduceLeDiff,C6,Nat.reduceSub,Nat.reduceMul,Nat.reduceBEq,Dj,Int.reduceLE,Int.reduceToNat,Da,Int.reducePow,Int.reduceAdd,Int.reduceMul,Int.reduceSub,↓C5,hc,GA,MQ,Mz,Ar,AH,hz,zq,pR,sP,IL,Nh,hw])
 .simp(disch:=first|omega|decide) only[push_cast,↓reduceIte,C3,Da,h2,GA,MQ,IL,Jc];exact⟨_,_,rfl,_,_,rfl⟩
abbrev iPw:SI:=GF (tb [] []) ZU.1 (QG TJ)
def jv:CI 138 iPw:=(HJ _ ZU.2 (DP all_nil all_nil)).1
def Yuy(h:0<A.length):D0 k (A.map uD)=.row k A.length 0 A.length:=by unfold D0;rw[zaf (by cases A<;>simp at h⊢)];simp
def bS(hk:st[k]?=s_ (FC 4 (A.map uD)))(hA:A.length=2):@wW GG (tb [] []) ZV.1.code (Du [D0 k (A.map uD)]) st ⟨Eu ZV.1.res (QG TJ [D0 k (A.map uD)] st)⟩:=by
 have E:∀(l:St),(st++l)[k]?=s_ (FC 4 (A.map uD)):=λl=>Fs hk;have af:k<st.length:=(Aa.1 hk).1;obtain⟨a0,N⟩:∃a,A[0]?=s_ a:=⟨_,Ah zaa⟩;have i0:∀l,ER (st++l) 4 (D0 k (A.map uD)) (I J 0)=s_ (.rptr k A.length 0 0):=λl=>Sj (E l) (i:=0) zaa;have aa:=X4 0 a0 N;obtain⟨a1,ab⟩:∃a,A[1]?=s_ a:=⟨_,Ah zaa⟩;have i1:∀l,ER (st++l) 4 (D0 k (A.map uD)) (I J 1)=s_ (.rptr k A.length 1 0):=λl=>Sj (E l) (i:=1) zaa;have ac:=X4 1 a1 ab;have hr:=Yuy (k:=k) (A:=A) zaa;rw[hr]at i0 i1⊢;obtain⟨v,hv⟩:=rW f_ a0 a1;have e1:(k==st.length)=f_:=by simp;omega
 have e2:(st.length==k)=f_:=by simp;omega
 unfold ZV;simp(disch:=first|omega|decide) only[push_cast,↓Fc,↓reduceIte,C3,OI,i0,i1,E,aa,ac,hv,e2,GA,MQ,Jc,IL];exact⟨_,_,rfl,_,_,rfl⟩
def bT(hk:st[k]?=s_ (FC 4 (A.map uD)))(hA:A.length=4):@wW GG (tb [] []) ZW.1.code (Du [D0 k (A.map uD)]) st ⟨Eu ZW.1.res (QG TJ [D0 k (A.map uD)] st)⟩:=by
 have E:∀(l:St),(st++l)[k]?=s_ (FC 4 (A.map uD)):=λl=>Fs hk;have a8:k<st.length:=(Aa.1 hk).1;obtain⟨a0,N⟩:∃a,A[0]?=s_ a:=⟨_,Ah zaa⟩;have i0:∀l,ER (st++l) 4 (D0 k (A.map uD)) (I J 0)=s_ (.rptr k A.length 0 0):=λl=>Sj (E l) (i:=0) zaa;have aa:=X4 0 a0 N;obtain⟨a1,ab⟩:∃a,A[1]?=s_ a:=⟨_,Ah zaa⟩;have i1:∀l,ER (st++l) 4 (D0 k (A.map uD)) (I J 1)=s_ (.rptr k A.length 1 0):=λl=>Sj (E l) (i:=1) zaa;have ac:=X4 1 a1 ab;obtain⟨a2,ae⟩:∃a,A[2]?=s_ a:=⟨_,Ah zaa⟩;have i2:∀l,ER (st++l) 4 (D0 k (A.map uD)) (I J 2)=s_ (.rptr k A.length 2 0):=λl=>Sj (E l) (i:=2) zaa;have af:=X4 2 a2 ae;obtain⟨a3,a4⟩:∃a,A[3]?=s_ a:=⟨_,Ah zaa⟩;have i3:∀l,ER (st++l) 4 (D0 k (A.map uD)) (I J 3)=s_ (.rptr k A.length 3 0):=λl=>Sj (E l) (i:=3) zaa;have a5:=X4 3 a3 a4;have hr:=Yuy (k:=k) (A:=A) zaa;rw[hr]at i0 i1 i2 i3⊢;obtain⟨v,hv⟩:=rW f_ a0 a1;obtain⟨w,hw⟩:=rW f_ a2 a3;have e1:(k==st.length)=f_:=by simp;omega
 have e2:(st.length==k)=f_:=by simp;omega
 unfold ZW
 cases v<;>(
  simp(disch:=first|omega|decide) only[push_cast,↓Fc,↓reduceIte,C3,OI,i0,i1,i2,i3,E,aa,ac,af,a5,hv,hw,e2,GA,MQ,Jc,IL];exact⟨_,_,rfl,_,_,rfl⟩)
abbrev VC:SI:=GF (tb [] []) ZV.1 (QG TJ)
abbrev VD:SI:=GF (tb [] []) ZW.1 (QG TJ)
def YK8:CI 92 VC:=(HJ _ ZV.2 (DP all_nil all_nil)).1
def YK9:CI 93 VD:=(HJ _ ZW.2 (DP all_nil all_nil)).1
def qd:zsP:=yop.1.run GG (tb [] []) 50
def YB0:CP 95 qd:=pS (T:=tb [] []) (DP all_nil all_nil) rfl yop.2 50
def atuL:List Uv:=[(0,0,0,0),(0,0,0,0),(0,0,0,0),(0,0,0,0),(0,0,0,0),(0,0,0,1),(0,0,1,0),(0,1,0,0),(0,1,0,0),(0,0,0,0),(1,0,0,0),(1,0,0,0),(0,0,0,0),(0,0,0,0),(0,0,0,0),(0,0,0,0)]
def YMb:D:=U (atuL.flatMap uC)
def YKl:qd []=s_ YMb:=by kernel_rfl
def YMc(h:n<16):∃u,Qt 16 4 t_ YMb (I J (n:Int))=s_ (uD u):=by rcases(zaa:n=0\/n=1\/n=2\/n=3\/n=4\/n=5\/n=6\/n=7\/n=8\/n=9\/n=10\/n=11\/n=12\/n=13\/n=14\/n=15)with rfl|rfl|rfl|rfl|rfl|rfl|rfl|rfl|rfl|rfl|rfl|rfl|rfl|rfl|rfl|rfl<;>exact⟨_,rfl⟩
abbrev ti(si:SI):Tbl:=tb [(95,qd)] [(51,si),(92,VC),(93,VD),(138,iPw)]
def kB(op:Int)(n:Nat):Prop:=∃f l sr,KN (s_ Jd) 2000002 [0] f_ (U [.nilf]) (I J op)=s_ (U [.clo f l])/\f<5000000/\(∀si,(ti si).i f=s_ sr)/\
 ∀(S:St)k(A:List Uv),S[k]?=s_ (FC 4 (A.map uD))->A.length=n->∃u b ob,sr (D0 k (A.map uD)::l) S=s_ (.tup [uD u,V b],S++ob)
theorem sR{op:Int}(h:KN (s_ Jd) 2000002 [0] f_ (U [.nilf]) (I J op)=s_ (U [TF])):kB op 2:=
 ⟨_,_,VC,h,zab,λ_=>rfl,λS k A hk E=>by
  obtain⟨_,N,h1,u,b,rfl⟩:=UO (bS hk E);grind⟩
theorem sS{op:Int}(n:Int)(h:KN (s_ Jd) 2000002 [0] f_ (U [.nilf]) (I J op)=s_ (U [eI n])):kB op 2:=
 ⟨_,_,iPw,h,zab,λ_=>rfl,λS k A hk E=>by
  obtain⟨_,N,h1,u,b,rfl⟩:=UO (zk n hk E);grind⟩
theorem ez:kB 11 4:=
 ⟨93,[],VD,by kernel_rfl,zab,λ_=>rfl,λS k A hk E=>by
  obtain⟨_,N,h1,u,b,rfl⟩:=UO (bT hk E);grind⟩
def YGs{o:Nat}(h:o<8):kB ((3+o:Nat):Int) 2:=by
 rcases(zaa:o=0\/o=1\/o=2\/o=3\/o=4\/o=5\/o=6\/o=7)with rfl|rfl|rfl|rfl|rfl|rfl|rfl|rfl
 .exact sR (by kernel_rfl)
 .exact sR (by kernel_rfl)
 .exact sS 1 (by kernel_rfl)
 .exact sR (by kernel_rfl)
 .exact sR (by kernel_rfl)
 .exact sS (-1) (by kernel_rfl)
 .exact sS (-1) (by kernel_rfl)
 .exact sS (-1) (by kernel_rfl)
theorem YG3{S:St}(N:st.length<=S.length)(h2:∀j,j<st.length->S[j]?=st[j]?):∃E,S=st++E:=by
 refine⟨S.drop st.length,?_⟩
 have:S.take st.length=st:=by
  apply A2;grind
 conv=>lhs;rw[<-Bl st.length S,this]
def Gx.op:Gx->Int
 |.num _ _ _ _ _=>1
 |.att _=>2
 |.bin o _ _=>((3+o:Nat):Int)
 |.ite _ _ _ _=>11
section
variable(x:Gx) (z:Nat) (b:Bool)
def Rv:DB (s_ ⟨f_,z,gC x,b⟩) 1 f_ 0=s_ (I J x.op):=by cases x<;>rfl
def fQ:∃u,DB (s_ ⟨f_,z,gC x,b⟩) 4 t_ 2=s_ (uD u):=by
 cases x with
 |num n a b c d=>exact⟨(a,b,c,d),rfl⟩
 |_=>exact⟨(0,0,0,0),rfl⟩
theorem YH9(n:Nat):DB (s_ ⟨f_,z,gC (.att n),b⟩) 1 f_ 1=s_ (I J (n:Int)):=(rfl)
def ew{x:Gx}(h:x.ok)(E:x.op≠1)(N:x.op≠2):kB x.op (D7 x).length:=by
 cases x with
 |num=>exact absurd rfl E
 |att=>exact absurd rfl N
 |bin o=>exact YGs h.1
 |ite=>exact ez
end
theorem iG(f:Nat)(l:List D):Ov 0 1 f_ (U [.clo f l])=s_ (.clo f l):=(rfl)
theorem gV(u:Uv)(st:St):D2 st (uD u)=s_ (uD u):=(rfl)
theorem YIo(u:Uv):keys (uD u)=[]:=(rfl)
theorem fH(u:Uv):EZ 4 [uD u]=s_ (O 4 [uD u] t_):=(rfl)
variable{si:SI}
theorem zg{x:Gx}(hm:st[m]?=s_ Jd)(hx:x.ok)
  (hu:∀y∈D7 x,∀S:St,S[m]?=s_ Jd->∃u b E,si [.mapv m,gD y] S=s_ (.tup [uD u,V b],S++E)):
  @wW GG (ti si) Xf.1.code (Du [.mapv m,gD x]) st ⟨Eu Xf.1.res (QG TJ [.mapv m,gD x] st)⟩:=by
 have cg:m<st.length:=(Aa.1 hm).1;unfold Xf
 by_cases o1:x.op=1
 .obtain⟨u,e⟩:=fQ x 1 f_;simp(disch:=first|omega|decide) only[push_cast,↓reduceIte,C3,Qp,OI,Rv,o1,GA,OD,RJ,Al,Aj,Aq,Ag,An,As,Ar,e,Jc,IL];exact⟨_,_,rfl,_,_,rfl⟩
 by_cases o2:x.op=2
 .obtain⟨n,rfl⟩:∃n,x=.att n:=by
   cases x with
   |att n=>exact⟨n,rfl⟩
   |num=>cases o2
   |bin o=>simp[Gx.op]at o2;omega
   |ite=>cases o2
  obtain⟨u,e⟩:=YMc (n:=n) hx;simp(disch:=first|omega|decide) only[push_cast,↓reduceIte,C3,Qp,OI,Rv,o2,GA,OD,RJ,Al,Aj,Aq,Ag,An,As,Ar,Int.reduceEq,e,YKl,YH9,Jc,IL];exact⟨_,_,rfl,_,_,rfl⟩
 have a7:=ew hx o1 o2;have bh:(D7 x).length<=4:=by cases x<;>simp[D7]
 simp(disch:=first|omega|decide) only[push_cast,↓reduceIte,C3,Qp,OI,Rv,o1,o2,GA,Al,Aj,Aq,Ag,An,As,Ar,jR,Az];have b1:∀y∈D7 x,y.sz<x.sz:=λy=>bl;generalize b2:D7 x=ks at hu a7 bh b1
 refine NP (ι:=Nat×Nat×List Uv×St) (λi=>[(0,.mapv m),(3,Y st.length 0),(4,Y (st.length+1) 0),(6,D0 i.2.1 (i.2.2.1.map uD)),(24,O (nz 7 (ks.map gD)) (ks.map gD) f_),(25,I J (ks.length:Int)),(26,I J (i.1:Int))]) (λi=>i.2.2.2)
  (λi=>i.1<=ks.length/\i.2.2.1.length=i.1/\(∃E,i.2.2.2=st++((zzB (gC x))::(zzB (uC (0,0,0,0)))::E))/\(i.2.2.1.map uD≠[]->st.length+1<i.2.1/\i.2.2.2[i.2.1]?=s_ (FC 4 (i.2.2.1.map uD))))
  (λi=>ks.length-i.1) (0,0,[],_) (by simp only[push_cast,↓reduceIte,C3]<;>rfl) ⟨AS _,rfl,⟨[],rfl⟩,λh=>absurd rfl h⟩ ?_
 rintro⟨i,kr,A,S⟩ ⟨hi,hA,⟨l,hS⟩,hr⟩;dsimp only at hi hA hS hr⊢;have ae:S[m]?=s_ Jd:=by rw[hS];exact Fs hm
 have af:S[st.length]?=s_ (zzB (gC x)):=by rw[hS];exact GA _ _ _
 have ah:S[st.length+1]?=s_ (zzB (uC (0,0,0,0))):=by rw[hS];exact OD _ _ _ _
 have ch:st.length+2<=S.length:=by rw[hS];simp
 have a0:∀(q:St)(o:PI.Obj),(S++q).set (st.length+1) o=st++((zzB (gC x))::o::(l++q)):=λq o=>by rw[hS,Al,Aj,Aj];exact RJ ..
 by_cases h2:i<ks.length
 .have aa:(i:Int)<ks.length:=zaa
  have a1:∀st:St,ER st 7 (O (nz 7 (ks.map gD)) (ks.map gD) f_) (I J (i:Int))=s_ (.eptr (gD ks[i]) 0):=λst=>by
   have a3:nz 7 (ks.map gD)=7:=by unfold nz;rw[zaf];cases ks<;>simp at h2⊢
   have b4:0<=(i:Int):=zaa
   simp[ER,a3,FA,b4,h2]
  obtain⟨u,v,E,hv⟩:=hu ks[i] (A6 h2) (S++[zzB (gC ks[i])]) (Fs ae);generalize ks[i]=y at a1 hv;obtain⟨S2,a8⟩:∃S2,S2=S++[zzB (gC y)]++E:=⟨_,rfl⟩;have N:S2=S++((zzB (gC y))::E):=by rw[a8];simp
  rw[<-a8]at hv;have a2:∀q:St,(S2++q)[st.length+1]?=s_ (zzB (uC (0,0,0,0))):=λq=>by rw[N,Al];exact Fs ah
  have t2:∀(q:St)(o:PI.Obj),∃ad,(S2++q).set (st.length+1) o=st++((zzB (gC x))::o::ad):=λq o=>⟨_,by rw[N,Al];exact a0 _ o⟩
  cases v with
  |false=>
   obtain⟨ad,t3⟩:=t2 [zzB (uC u)] (zzB (uC (0,0,0,0)));simp(disch:=first|omega|decide) only[push_cast,↓reduceIte,C3,aa,a1,U4,JF,Vd,RU,hv,OI,Jc,sP,pR,GA,MQ,a2,t3,OD,IL];exact⟨_,_,rfl,_,_,rfl⟩
  |true=>
   have c0:S.length<=S2.length:=by rw[N];simp
   have b5:A.map uD≠[]->(S2++[zzB (uC u)])[kr]?=s_ (FC 4 (A.map uD)):=λh=>by rw[N,Al];exact Fs (hr h).2
   obtain⟨a9,S4,p1,p2,p3,p4,p5,p6⟩:=XL (by':=32) (uD u) ⟨zab,zab⟩ b5 (by simp;omega);simp only[Ag,An,As]at p3 p4 p5;simp(disch:=first|omega|decide) only[push_cast,↓reduceIte,C3,aa,a1,U4,JF,Vd,RU,hv,OI,Jc,GA,MQ,IL,gV,YIo,fH,p1,D5]
   have e0:∀j,j<st.length+2->S4[j]?=S[j]?:=λj hj=>by
    grind
   obtain⟨ad,e1⟩:=YG3 (st:=st) (S:=S4) zaa (λj hj=>by rw[e0 j zaa,hS];exact Aw hj)
   have e2:∃E,S4=st++((zzB (gC x))::(zzB (uC (0,0,0,0)))::E):=by
    have f0:=e0 st.length zaa;have f1:=e0 (st.length+1) zaa;rw[af,e1,AF zaa,BQ]at f0;rw[ah,e1,AF zaa,B7]at f1
    match ad,f0,f1 with
    |p::q::r,f0,f1=>
     grind
   have e3:st.length+1<a9:=by
    cases A with
    |nil=>rw[p5 rfl];omega
    |cons=>rw[p6 zac];exact(hr zac).1
   refine EV (i+1,a9,A++[u],S4) (by exact⟨zaa,by simp[hA],e2,λ_=>⟨e3,by rw[A1];exact p2⟩⟩) (zaa:ks.length-(i+1)<ks.length-i) ?_;grind
 .have aa:¬(i:Int)<ks.length:=zaa
  obtain⟨f,c,sr,m1,m2,m3,m4⟩:=a7
  have a3:A.map uD≠[]:=by
   intro e;have:A.length=0:=by have:=congrArg List.length e;simpa using this
   have h0:ks.length=0:=zaa
   rw[<-b2]at h0
   cases x with
   |num=>exact o1 rfl
   |att=>exact o2 rfl
   |bin=>simp[D7]at h0
   |ite=>simp[D7]at h0
  obtain⟨u,v,E,hv⟩:=m4 S kr A (hr a3).2 zaa;have a2:∀q:St,(S++q)[st.length+1]?=s_ (zzB (uC (0,0,0,0))):=λq=>Fs ah;have ba:=m3 si
  cases v with
  |false=>
   simp(disch:=first|omega|decide) only[push_cast,↓reduceIte,C3,aa,af,Rv,ae,IV,m1,iG,ba,hv,a2,a0,Jc,sP,OD,RJ,pR,IL];exact⟨_,_,rfl,_,_,rfl⟩
  |true=>
   simp(disch:=first|omega|decide) only[push_cast,↓reduceIte,C3,aa,af,Rv,ae,IV,m1,iG,ba,hv,a2,a0,Jc,OD,RJ,IL];exact⟨_,_,rfl,_,_,rfl⟩
def un:Nat->SI
 |0=>λ_ _=>n_
 |n+1=>GF (ti (un n)) Xf.1 (QG TJ)
theorem YE9:∀(n:Nat)(x:Gx),x.sz<=n->x.ok->∀(S:St)(m:Nat),S[m]?=s_ Jd->∃u b N,un n [.mapv m,gD x] S=s_ (.tup [uD u,V b],S++N)
 |0,x,h=>by cases x<;>simp[Gx.sz]at h
 |n+1,x,h=>λhx S m hm=>by
  have hk:∀y∈D7 x,y.sz<=n:=λy E=>Cd (AX (bl E) h);obtain⟨_,N,h1,u,b,rfl⟩:=UO (zg hm hx λy E S hS=>YE9 n y (hk y E) (Ygt hx E) S m hS);exact⟨u,b,N,h1⟩
attribute [local irreducible] qd in
def cT(h:CI 51 si):TblOK Tryz.prog GG (ti si):=
 DP (all_cons YB0 all_nil) (all_cons h (all_cons YK8 (all_cons YK9 (all_cons jv all_nil))))
theorem YK6:∀n,CI 51 (un n)
 |0=>⟨(Rb (G:=GG) (T:=tb [] []) (DP all_nil all_nil) rfl Xf.2 0).1,λ_ _ _ _ _ _ _ _ h=>by cases h⟩
 |n+1=>(HJ _ Xf.2 (cT (YK6 n))).1
def QC2(_:List D)(r:D):Prop:=∃a b:Int,r=.tup [I J a,I J b]
abbrev TTc:Tbl:=tb [(49,RP)] [(51,un 400)] [(50,qN)]
def Sl(t:Tf)(st:St):D2 st (Kv t)=s_ (Kv t):=by
 have:∀(z:Nat)(l:List D),nz (nz z l) l=nz z l:=λz l=>by unfold nz;split<;>rfl
 simp[Kv,D2,Ef,DO,D.pure1,this]
theorem pW(t:Tf):keys (Kv t)=[]:=(rfl)
def bO{t:Tf}(ht:t.ok):@wW GG TTc ZM.1.code (Du [Kv t]) [] ⟨FP ZM.1.res (QC2 [Kv t])⟩:=by
 obtain⟨e,he⟩:=YJ5 ht;have aa:∀c∈t.cls,c.pay.sz<=400/\c.pay.ok:=λc hc=>⟨by have:=p8 hc;have:=ht.sz;omega,ht.pay c hc⟩;have hlen:=ht.len;have ad:∀st:St,DB (s_ (zzB [.str t.name,I J t.kind,O (nz 9 (t.cls.map Ea)) (t.cls.map Ea) f_])) 3 t_ 0=s_ (Kv t):=λ_=>rfl;have a2:DB (s_ (zzB [.str t.name,I J t.kind,O (nz 9 (t.cls.map Ea)) (t.cls.map Ea) f_])) 1 f_ 2=s_ (O (nz 9 (t.cls.map Ea)) (t.cls.map Ea) f_):=rfl;have cr:=yPa;unfold ZM
 by_cases h0:e=0
 case neg=>
  simp(disch:=first|omega|decide) only[push_cast,↓reduceIte,C3,Tr,ad [],Sl,he,h0];exact⟨_,_,rfl⟩
 simp(disch:=first|omega|decide) only[push_cast,↓reduceIte,C3,C6,Tr,ad [],Sl,he,h0,cr,a2,Az];obtain⟨nm,kd,cls⟩:=t;dsimp only at aa hlen;generalize ba:(⟨f_,1,[.str nm,I J kd,O (nz 9 (cls.map Ea)) (cls.map Ea) f_],f_⟩:PI.Obj)=bb;refine NP (λi:Nat×St=>[(4,.mapv 3),(16,O (nz 9 (cls.map Ea)) (cls.map Ea) f_),(17,I J (cls.length:Int)),(18,I J (i.1:Int))]) (λi=>i.2) (λi=>i.1<=cls.length/\i.2[3]?=s_ Jd) (λi=>cls.length-i.1) (0,_) (by simp only[push_cast,↓reduceIte,C3]<;>rfl) ⟨AS _,rfl⟩ ?_;rintro⟨i,S⟩ ⟨hi,hS⟩;dsimp only at hi hS
 by_cases h2:i<cls.length
 .have E:(i:Int)<cls.length:=zaa
  have N:∀st:St,ER st 9 (O (nz 9 (cls.map Ea)) (cls.map Ea) f_) (I J (i:Int))=s_ (.eptr (Ea cls[i]) 0):=λst=>by
   have a4:nz 9 (cls.map Ea)=9:=by unfold nz;rw[zaf];cases cls<;>simp at h2⊢
   have a5:0<=(i:Int):=zaa
   simp[ER,a4,FA,a5,h2]
  obtain⟨ae,af⟩:=aa cls[i] (A6 h2);generalize cls[i]=c at N ae af;obtain⟨u,v,ob,hv⟩:=YE9 400 c.pay ae af (S++[zzB (IM c)]) 3 (Fs hS);obtain⟨S2,ah⟩:∃S2,S2=S++[zzB (IM c)]++ob:=⟨_,rfl⟩;have a6:∀q:St,(S2++q)[3]?=s_ Jd:=λq=>Fs (by rw[ah];exact Fs (Fs hS));rw[<-ah]at hv;have fb:Ec [I J 0,I J 0,I J 0,I J 0] [(0,1,I J 1)]=s_ (uC (1,0,0,0)):=rfl;obtain⟨w,hw⟩:=rW t_ u (1,0,0,0);have hw:Jg [0,0,0,0] t_ (uD u) (U (uC (1,0,0,0)))=s_ (V w):=hw
  cases v with
  |false=>
   simp(disch:=first|omega|decide) only[push_cast,↓reduceIte,C3,E,N,U5,PN,UR,Ti,GA,MQ,hv,OI,Jc];exact⟨_,_,rfl⟩
  |true=>
   cases w with
   |true=>
    simp(disch:=first|omega|decide) only[push_cast,↓reduceIte,C3,E,N,U5,PN,UR,Ti,GA,MQ,hv,OI,Jc,IL,fb,hw];exact⟨_,_,rfl⟩
   |false=>
    simp(disch:=first|omega|decide) only[push_cast,↓reduceIte,C3,E,N,U5,PN,UR,Ti,GA,MQ,hv,OI,Jc,IL,fb,hw,D5];refine EV (i+1,S2++[zzB (uC u)]) (by exact⟨zaa,a6 _⟩) (zaa:cls.length-(i+1)<cls.length-i) ?_;rfl
 .have E:¬(i:Int)<cls.length:=zaa
  simp(disch:=first|omega|decide) only[push_cast,↓reduceIte,C3,E];exact⟨_,_,rfl⟩
abbrev Vk:zsP:=Ii TTc ZM.1 QC2
theorem iu{t:Tf}(E:t.ok):∃a b:Int,Vk [Kv t]=s_ (.tup [I J a,I J b]):=by obtain⟨_,h,a,b,rfl⟩:=I2 (bO E);simp_all
def YKt:CP 15 Vk:=I0 (T:=TTc) _ ZM.2 (YFd (all_cons Yuk all_nil) (all_cons (YK6 400) all_nil) (all_cons Yri all_nil))
def M1(kr:Nat)(c:List Ins):PI.Obj:=(zzB [D0 kr (c.map Dt)])
def Cp(k:Nat)(c:List Ins)(st:St):Prop:=∃kr,st[k]?=s_ (M1 kr c)/\(c≠[]->k<kr/\st[kr]?=s_ (FC 3 (c.map Dt)))
def EvB(k:Nat)(st S:St):Prop:=st.length<=S.length/\∀j o,j≠k->st[j]?=s_ o->o.row=f_->S[j]?=s_ o
theorem EvB.refl(k:Nat)(st:St):EvB k st st:=⟨Au _,λ_ _ _ h _=>h⟩
theorem EvB.trans{a b c:St}(h:EvB k a b)(E:EvB k b c):EvB k a c:=⟨AT h.1 E.1,λj o hj ho N=>E.2 j o hj (h.2 j o hj ho N) N⟩
theorem EvB.app(k:Nat)(st q:St):EvB k st (st++q):=⟨zac,λ_ _ _ h _=>Fs h⟩
variable{c:List Ins}
theorem Cp.app(h:Cp k c st)(q:St):Cp k c (st++q):=by obtain⟨kr,N,E⟩:=h;exact⟨kr,Fs N,λhc=>⟨(E hc).1,Fs (E hc).2⟩⟩
def kE(k m:Nat)(c:List Ins)(V:List D->St->D->St->List Ins->Prop)(ds:List D)(st:St)(o:Rs):Prop:=
 ∃d st' c',o=.inl (d,st')/\EvB k st st'/\Cp k c' st'/\(c.length<=c'.length/\c'.length<=c.length+m)/\V ds st d st' c'
def Yl(b p:Nat):D:=.clo 97 [Y b 0,Y p 0]
def HeO(k b p a:Nat)(st:St):Prop:=b≠k/\p≠k/\st[b]?=s_ (zzB [Y k 0])/\st[p]?=s_ (zzB [I J (a:Int)])
theorem HeO.ev{k b p a:Nat}{st S:St}(h:HeO k b p a st)(e:EvB k st S):HeO k b p a S:=⟨h.1,h.2.1,e.2 b _ h.1 h.2.2.1 rfl,e.2 p _ h.2.1 h.2.2.2 rfl⟩
def VEm(k:Nat)(c:List Ins)(_:List D)(_:St)(d:D)(st':St)(c':List Ins):Prop:=c.length<c'.length/\∃b p,d=Yl b p/\HeO k b p c.length st'
theorem p7{c':List Ins}(h:Cp k c st)(h':Cp k c' st):c=c':=by
 obtain⟨kr,h1,h2⟩:=h;obtain⟨ae,E,aa⟩:=h';rw[h1]at E;simp only[AG,M1,Obj.mk.injEq,zal,zag,Ab]at E;unfold D0 at E
 by_cases e:c=[]<;>by_cases N:c'=[]
 .rw[e,N]
 .simp_all
 .simp_all
 .rw[zaf (by simpa using e),zaf (by simpa using N)]at E;simp only[D.row.injEq]at E;obtain⟨rfl,_⟩:=E;have:=(h2 e).2.symm.trans (aa N).2;simp only[AG,FC,Obj.mk.injEq,zal,zag]at this;exact Lq.1 this
def QEm(ds:List D)(st:St)(o:Rs):Prop:=∃k c a,ds=Y k 0::a/\Cp k c st/\kE k 1 c (VEm k c) ds st o
theorem YEu(o n m:Int)(hc:Cp k c st)(hl:c.length<=4000):@wW GG (tb [] []) Z6.1.code (Du [Y k 0,I J o,I J n,I J m]) st ⟨Eu Z6.1.res (QEm [Y k 0,I J o,I J n,I J m] st)⟩:=by
 obtain⟨kr,h1,h2⟩:=hc;have bd:=(Aa.1 h1).1;have N:∀q:St,(st++q)[k]?=s_ (M1 kr c):=λq=>Fs h1;have e1:(k==st.length)=f_:=by simp;omega
 have e2:(st.length==k)=f_:=by simp;omega
 have ac:DB (s_ (M1 kr c)) 1 f_ 0=s_ (D0 kr (c.map Dt)):=rfl
 have hlen:∀q:St,E0 (st++q) f_ (D0 kr (c.map Dt))=s_ (I J (c.length:Int)):=λq=>by
  have:=QO (S:=st++q) (kr:=kr) (sz:=3) (els:=c.map Dt) (λh=>Fs (h2 (by simpa using h)).2);grind
 have bp:DM (Y k 0)=s_ [Y k 0]:=rfl;have bi:DM (I J 0)=s_ [I J 0]:=rfl;have lp:DB (s_ (zzB [Y k 0])) 1 f_ 0=s_ (Y k 0):=rfl;have hf:Ec [I J 0,I J 0,I J 0] [(0,1,I J o),(1,1,I J n),(2,1,I J m)]=s_ (D8 (Ins.mk o n m)):=rfl;have hi:∀q,D2 q (U (D8 (Ins.mk o n m)))=s_ (Dt (Ins.mk o n m)):=λ_=>rfl;have hk:keys (U (D8 (Ins.mk o n m)))=[]:=rfl;have ad:EZ 3 [Dt (Ins.mk o n m)]=s_ (O 3 [Dt (Ins.mk o n m)] t_):=rfl;have a0:∀a b:Int,DV (s_ (zzB [I J a])) 1 0 (I J b)=s_ (zzB [I J b]):=λ_ _=>rfl
 have zC:∀E,DV (s_ (M1 kr c)) 1 0 (D0 E ((c++[Ins.mk o n m]).map Dt))=s_ (M1 E (c++[Ins.mk o n m])):=λE=>by
  show _=s_ ((zzB [D0 E ((c++[Ins.mk o n m]).map Dt)]):PI.Obj)
  unfold D0;split<;>rfl
 obtain⟨E,S4,p1,p2,p3,p4,p5,p6⟩:=XL (S:=st++[zzB [Y k 0],zzB [I J (c.length:Int)]]) (kr:=kr) (els:=c.map Dt) (by':=24) (Dt (Ins.mk o n m)) ⟨zab,zab⟩ (λh=>Fs (h2 (by simpa using h)).2) (by simp;omega);simp only[Ag,An,As]at p3 p4 p5;rw[show c.map Dt++[Dt (Ins.mk o n m)]=(c++[Ins.mk o n m]).map Dt by simp]at p1 p2
 have a1:S4[k]?=s_ (M1 kr c):=by
  grind
 have post:kE k 1 c (VEm k c) [Y k 0,I J o,I J n,I J m] st (.inl (Yl st.length (st.length+1),S4.set k (M1 E (c++[Ins.mk o n m])))):=by
  have a6:k<S4.length:=zaa
  have old:∀j o',j≠k->(st++[zzB [Y k 0],zzB [I J (c.length:Int)]]:St)[j]?=s_ o'->o'.row=f_->(S4.set k (M1 E (c++[Ins.mk o n m])))[j]?=s_ o':=λj o' hj ho hr=>by
   have a7:=(Aa.1 ho).1;simp only[Ag,An,As]at a7;rw[Ac (Ne.symm hj),p4 j zaa λa8 e=>?_,ho];subst e;rw[Fs (h2 (by simpa using a8)).2]at ho;cases ho;cases hr
  have a9:k<E:=by
   by_cases h:c.map Dt=[]
   .grind
   .grind
  refine⟨_,_,c++[Ins.mk o n m],rfl,⟨by simp;omega,λj o' hj ho hr=>old j o' hj (Fs ho) hr⟩,⟨E,Ap a6,λ_=>⟨a9,by rw[Ac zaa];exact p2⟩⟩,zac,zac,_,_,rfl,zaa,zaa,old _ _ zaa (GA _ _ _) rfl,old _ _ zaa (OD _ _ _ _) rfl⟩
 unfold Z6;have e3:c≠[]->(kr==st.length)=f_/\(st.length==kr)=f_:=λh=>by have:=(Aa.1 (h2 h).2).1;simp;omega
 have hL:(D0 kr (c.map Dt)=O 0 [] t_)\/(D0 kr (c.map Dt)=.row kr c.length 0 c.length/\c≠[]):=by
  by_cases h:c=[]
  .subst h;exact .inl rfl
  .refine .inr ⟨?_,h⟩;unfold D0;rw[zaf (by simpa using h),Az]
 rcases hL with hL|⟨hL,hc⟩<;>rw[hL]at p1 ac hlen
 all_goals have l1:(st.length<st.length+2)=True:=zac
 all_goals have e4:(st.length==st.length+2)=f_:=zac
 all_goals have e5:(st.length+2==st.length)=f_:=zac
 .push_cast(disch:=lia)[↓Fc,bp,bi,GA,OD,RJ,Al,Aj,Aq,Ag,An,As,Ar,lp,N,ac,hlen,a0,hf,hi,hk,ad,p1,a1,zC,l1]
  exact⟨k,c,_,rfl,⟨kr,h1,h2⟩,post⟩
 .obtain⟨f1,f2⟩:=e3 hc
  push_cast(disch:=lia)[↓Fc,bp,bi,GA,OD,RJ,Al,Aj,Aq,Ag,An,As,Ar,lp,N,ac,hlen,a0,hf,hi,hk,ad,p1,a1,zC,f1]
  exact⟨k,c,_,rfl,⟨kr,h1,h2⟩,post⟩
abbrev VQ:Tbl:=tb [] []
abbrev gX:SI:=GF VQ Z6.1 QEm
theorem Yxa{F:PF}{Q:List D->St->Rs->Prop}(h:@wW GG T F.code (Du ds) st ⟨Eu F.res (Q ds st)⟩)(N:∀o,Q ds st o->∃d S,o=.inl (d,S)):∃d S,GF T F Q ds st=s_ (d,S)/\Q ds st (.inl (d,S)):=by
 rcases sU h with⟨d,st',h1,E⟩|⟨_,t,d,st',_,E⟩
 .grind
 .grind
def vt{V:List D->St->D->St->List Ins->Prop}{o:Rs}(h:kE k m c V ds st o):∃d S,o=.inl (d,S):=by obtain⟨d,S,_,e,_⟩:=h;exact⟨d,S,e⟩
def VUn(_:List D)(_:St)(d:D)(_:St)(_:List Ins):Prop:=d=.tup []
def QHe(ds:List D)(st:St)(o:Rs):Prop:=∃k b p c,ds=[Y b 0,Y p 0]/\st[b]?=s_ (zzB [Y k 0])/\Cp k c st/\kE k 0 c VUn ds st o
theorem cH{b p a:Nat}(hc:Cp k c st)(hh:HeO k b p a st)(ha:a<c.length)(hl:c.length<=4000):@wW GG VQ aj.1.code (Du [Y b 0,Y p 0]) st ⟨Eu aj.1.res (QHe [Y b 0,Y p 0] st)⟩:=by
 obtain⟨kr,h1,N⟩:=hc;obtain⟨g1,g2,g3,g4⟩:=hh;have aa:c≠[]:=λh=>by subst h;cases ha
 obtain⟨N,E⟩:=N aa;have af:DB (s_ (M1 kr c)) 1 f_ 0=s_ (D0 kr (c.map Dt)):=rfl
 have hlen:E0 st f_ (D0 kr (c.map Dt))=s_ (I J (c.length:Int)):=by
  have:=QO (S:=st) (kr:=kr) (sz:=3) (els:=c.map Dt) (λh=>E);grind
 have ah:ER st 3 (D0 kr (c.map Dt)) (I J (a:Int))=s_ (.rptr kr c.length a 0):=by
  have:=oq (S:=st) (kr:=kr) (els:=c.map Dt) (i:=a) (sz:=3) (λ_=>E) zab (by simpa using ha);grind
 have lp:DB (s_ (zzB [Y k 0])) 1 f_ 0=s_ (Y k 0):=rfl;have li:DB (s_ (zzB [I J (a:Int)])) 1 f_ 0=s_ (I J (a:Int)):=rfl;have a0:EY st kr c.length=t_:=by unfold EY;rw[E];simp[FC]
 have a1:FE st 1 (.rptr kr c.length a 0)=s_ (.rptr kr c.length a 1):=by simp only[FE,a0,zaj,Ar]
 have a2:Le st 1 (.rptr kr c.length a 1) (I J (c.length:Int))=s_ (st.set kr (FC 3 ((c.set a ⟨c[a].op,c.length,c[a].m⟩).map Dt))):=by
  simp[Le,pT,qH,E,FC,ha,Dt,D8,UL,FZ,yaZ,Ch]
 unfold aj
 push_cast(disch:=lia)[g3,g4,lp,li,h1,af,hlen,ah,a1,a2]
 refine⟨k,b,p,c,rfl,g3,⟨kr,h1,λ_=>⟨N,E⟩⟩,_,_,c.set a ⟨c[a].op,c.length,c[a].m⟩,rfl,⟨zac,λj o hj ho hr=>?_⟩,⟨kr,by rw[Ac zaa,h1];simp[M1,D0,aa],λ_=>⟨N,Ap (Aa.1 E).1⟩⟩,zac,rfl⟩;rw[Ac (λe=>?_)]
 .exact ho
 .subst e;rw[E]at ho;cases ho;cases hr
abbrev iHe:SI:=GF VQ aj.1 QHe
def YCf:CI 53 gX:=(HJ _ Z6.2 (DP all_nil all_nil)).1
def jw:CI 97 iHe:=(HJ _ aj.2 (DP all_nil all_nil)).1
theorem JZ(o n m:Int)(hc:Cp k c st)(hl:c.length<=4000):∃S c' b p,gX [Y k 0,I J o,I J n,I J m] st=s_ (Yl b p,S)/\EvB k st S/\Cp k c' S/\c'.length=c.length+1/\HeO k b p c.length S:=by obtain⟨d,S,N,k',c0,a,e,E,_,_,c',e1,h2,h3,⟨h4,h5⟩,h7,b,p,rfl,h6⟩:=Yxa (YEu o n m hc hl) (λo h=>by obtain⟨_,_,_,_,_,h⟩:=h;exact vt h);simp only[Ab,D.ptr.injEq,zag]at e;obtain⟨rfl,_⟩:=e;obtain rfl:=p7 hc E;grind
theorem iC{b p a:Nat}(hc:Cp k c st)(E:HeO k b p a st)(ha:a<c.length)(hl:c.length<=4000):∃S c',iHe [Y b 0,Y p 0] st=s_ (.tup [],S)/\EvB k st S/\Cp k c' S/\c'.length=c.length:=by obtain⟨d,S,h1,k',b',p',c0,e,hb,N,_,_,c',e1,h2,h3,⟨h4,h5⟩,rfl⟩:=Yxa (cH hc E ha hl) (λo h=>by obtain⟨_,_,_,_,_,_,_,h⟩:=h;exact vt h);cases e;rw[E.2.2.1]at hb;simp only[AG,Obj.mk.injEq,zal,zag,Ab,D.ptr.injEq]at hb;subst hb;obtain rfl:=p7 hc N;grind
theorem Tw:∀(x y:Gx),gD x=gD y->x=y
 |.num n a b c d,y,h=>by
  cases y with
  |num=>simp[gD,Jy]at h;obtain⟨rfl,rfl,rfl,rfl,rfl⟩:=h;rfl
  |att=>simp[gD,Jy]at h
  |bin o=>simp[gD,Jy]at h
  |ite=>simp[gD,Jy]at h
 |.att n,y,h=>by
  cases y with
  |num=>simp[gD,Jy]at h
  |att=>simp[gD,Jy]at h;obtain rfl:n=_:=Int.ofNat.inj h;rfl
  |bin o=>simp[gD,Jy]at h
  |ite=>simp[gD,Jy]at h
 |.bin o E N,y,h=>by
  cases y with
  |num=>simp[gD,Jy]at h
  |att=>simp[gD,Jy]at h
  |bin o' y1 y2=>
   simp only[gD,Jy,D.agg.injEq,Ab,D.int.injEq,D.slc.injEq,zal,zag]at h;obtain⟨h0,_,h1,h2⟩:=h;obtain rfl:o=o':=zaa
   rw[Tw E y1 h1,Tw N y2 h2]
  |ite=>simp[gD,Jy]at h
 |.ite E N x3 x4,y,h=>by
  cases y with
  |num=>simp[gD,Jy]at h
  |att=>simp[gD,Jy]at h
  |bin o=>simp[gD,Jy]at h
  |ite y1 y2 y3 y4=>
   simp only[gD,Jy,D.agg.injEq,Ab,D.slc.injEq,zal,zag]at h;obtain⟨_,h1,h2,h3,h4⟩:=h;rw[Tw E y1 h1,Tw N y2 h2,Tw x3 y3 h3,Tw x4 y4 h4]
def QXp(ds:List D)(st:St)(o:Rs):Prop:=∃k c x,ds=[Y k 0,gD x]/\Cp k c st/\kE k (3*x.sz) c VUn ds st o
abbrev TXp(si:SI):Tbl:=tb [] [(53,gX),(97,iHe),(96,si)]
theorem YH8(n a b c d:Int)(z:Nat)(w:Bool):DB (s_ ⟨f_,z,gC (.num n a b c d),w⟩) 1 f_ 1=s_ (I J n):=(rfl)
def Yr{ks:List Gx}(h:i<ks.length)(st:St):ER st 7 (O (nz 7 (ks.map gD)) (ks.map gD) f_) (I J (i:Int))=s_ (.eptr (gD ks[i]) 0):=by
 have E:nz 7 (ks.map gD)=7:=by unfold nz;rw[zaf];cases ks<;>simp at h⊢
 have N:0<=(i:Int):=zaa
 simp[ER,E,FA,N,h]
def zf{x:Gx}(hc:Cp k c st)(hx:x.ok)(hl:c.length+3*x.sz<=4000)
  (hr:∀y∈D7 x,∀(S:St)(c':List Ins),Cp k c' S->c'.length+3*y.sz<=4000->∃S' ah,si [Y k 0,gD y] S=s_ (.tup [],S')/\EvB k S S'/\Cp k ah S'/\c'.length<=ah.length/\ah.length<=c'.length+3*y.sz):
  @wW GG (TXp si) Xr.1.code (Du [Y k 0,gD x]) st ⟨Eu Xr.1.res (QXp [Y k 0,gD x] st)⟩:=by
 have ka:k<st.length:=by obtain⟨kr,h,_⟩:=hc;exact(Aa.1 h).1
 unfold Xr;have ab:=hc.app [zzB (gC x)];have N:(st++[zzB (gC x)]:St)[st.length]?=s_ (zzB (gC x)):=GA _ _ _;have ac:EvB k st (st++[zzB (gC x)]):=.app _ _ _;generalize ae:(st++[⟨f_,1,gC x,f_⟩]:St)=S0 at ab N ac;have E:st.length≠k:=zaa
 have fin:∀{S:St}{c':List Ins},EvB k st S->Cp k c' S->c.length<=c'.length->c'.length<=c.length+3*x.sz->QXp [Y k 0,gD x] st (.inl (.tup [],S)):=λh1 h2 h3 h4=>⟨k,c,x,rfl,hc,_,_,_,rfl,h1,h2,⟨h3,h4⟩,rfl⟩
 cases x with
 |num n a b e d=>
  obtain⟨S1,c1,b1,p1,a1,a2,a3,a4,a6⟩:=JZ 1 n 0 ab (by simp[Gx.sz]at hl;omega);have:=fin (ac.trans a2) a3 zaa (by simp only[Gx.sz];omega)
  push_cast(disch:=lia)[Qp,ae,N,Rv,Gx.op,YH8,a1]
  exact this
 |att n=>
  obtain⟨S1,c1,b1,p1,a1,a2,a3,a4,a6⟩:=JZ 2 n 0 ab (by simp[Gx.sz]at hl;omega);have:=fin (ac.trans a2) a3 zaa (by simp only[Gx.sz];omega)
  push_cast(disch:=lia)[Qp,ae,N,Rv,Gx.op,YH9,a1]
  exact this
 |bin o x y=>
  simp only[Gx.sz]at hl;have i0:∀S,ER S 7 (O (nz 7 ((D7 (.bin o x y)).map gD)) ((D7 (.bin o x y)).map gD) f_) (I J 0)=s_ (.eptr (gD x) 0):=Yr (ks:=D7 (.bin o x y)) (i:=0) (BK (by simp[D7]));have i1:∀S,ER S 7 (O (nz 7 ((D7 (.bin o x y)).map gD)) ((D7 (.bin o x y)).map gD) f_) (I J 1)=s_ (.eptr (gD y) 0):=Yr (ks:=D7 (.bin o x y)) (i:=1) (BK (by simp[D7]));have o1:¬(3+(o:Int))=1:=zaa
  have o2:¬(3+(o:Int))=2:=zaa
  have o3:¬(3+(o:Int))=11:=by have:=hx.1;omega
  obtain⟨S1,c1,a1,a2,a3,a4,a5⟩:=hr x (by simp[D7]) S0 c ab zaa;have ba:=a2.2 _ _ E N rfl;obtain⟨S2,c2,b1,b2,b3,b4,b5⟩:=hr y (by simp[D7]) S1 c1 a3 zaa;have bg:=b2.2 _ _ E ba rfl;have sub:∀a b:Int,DI .sub (I J a) (I J b)=s_ (I J (IntKind.i64.wrap (a-b))):=λ_ _=>rfl;generalize bh:IntKind.i64.wrap (IntKind.i64.wrap (3+(3+(o:Int)))-3)=op;obtain⟨S3,c3,b,p,d1,d2,d3,d4,d6⟩:=JZ op 0 0 b3 zaa;have:=fin (ac.trans (a2.trans (b2.trans d2))) d3 zaa (by simp only[Gx.sz];omega)
  push_cast(disch:=lia)[↓C5,Qp,ae,N,Rv,Gx.op,jR,o1,o2,o3,i0,U4,a1,ba,i1,b1,bg,Nh,sub,bh,d1]
  exact this
 |ite x y z w=>
  simp only[Gx.sz]at hl;have i0:∀S,ER S 7 (O (nz 7 ((D7 (.ite x y z w)).map gD)) ((D7 (.ite x y z w)).map gD) f_) (I J 0)=s_ (.eptr (gD x) 0):=Yr (ks:=D7 (.ite x y z w)) (i:=0) (BK (by simp[D7]));have i1:∀S,ER S 7 (O (nz 7 ((D7 (.ite x y z w)).map gD)) ((D7 (.ite x y z w)).map gD) f_) (I J 1)=s_ (.eptr (gD y) 0):=Yr (ks:=D7 (.ite x y z w)) (i:=1) (BK (by simp[D7]));have i2:∀S,ER S 7 (O (nz 7 ((D7 (.ite x y z w)).map gD)) ((D7 (.ite x y z w)).map gD) f_) (I J 2)=s_ (.eptr (gD z) 0):=Yr (ks:=D7 (.ite x y z w)) (i:=2) (BK (by simp[D7]));have i3:∀S,ER S 7 (O (nz 7 ((D7 (.ite x y z w)).map gD)) ((D7 (.ite x y z w)).map gD) f_) (I J 3)=s_ (.eptr (gD w) 0):=Yr (ks:=D7 (.ite x y z w)) (i:=3) (BK (by simp[D7]));obtain⟨S1,c1,a1,a2,a3,a4,a5⟩:=hr x (by simp[D7]) S0 c ab zaa;have x1:=a2.2 _ _ E N rfl;obtain⟨S2,c2,b1,b2,b3,b4,b5⟩:=hr y (by simp[D7]) S1 c1 a3 zaa;have x2:=b2.2 _ _ E x1 rfl;obtain⟨S3,c3,_,_,d1,d2,d3,d4,_⟩:=JZ 11 0 0 b3 zaa;have x3:=d2.2 _ _ E x2 rfl;obtain⟨S4,c4,q4,p4,e1,e2,e3,e4,e6⟩:=JZ 13 0 0 d3 zaa;have x4:=e2.2 _ _ E x3 rfl;obtain⟨S5,c5,f1,f2,f3,f4,f5⟩:=hr z (by simp[D7]) S4 c4 e3 zaa;have x5:=f2.2 _ _ E x4 rfl;obtain⟨S6,c6,q6,p6,g1,g2,g3,g4,g6⟩:=JZ 14 0 0 f3 zaa;have x6:=g2.2 _ _ E x5 rfl;obtain⟨S7,c7,k1,k2,k3,k4⟩:=iC g3 ((e6.ev f2).ev g2) zaa zaa;have x7:=k2.2 _ _ E x6 rfl;obtain⟨S8,c8,m1,m2,m3,m4,m5⟩:=hr w (by simp[D7]) S7 c7 k3 zaa;obtain⟨S9,c9,n1,n2,n3,n4⟩:=iC m3 ((g6.ev k2).ev m2) zaa zaa;have:=fin (ac.trans (a2.trans (b2.trans (d2.trans (e2.trans (f2.trans (g2.trans (k2.trans (m2.trans n2))))))))) n3 zaa (by simp only[Gx.sz];omega);have q4:Yl q4 p4=.clo 97 [Y q4 0,Y p4 0]:=rfl;have q6:Yl q6 p6=.clo 97 [Y q6 0,Y p6 0]:=rfl
  push_cast(disch:=lia)[Qp,ae,N,Rv,Gx.op,jR,i0,i1,i2,i3,U4,a1,x1,b1,d1,e1,x4,f1,g1,q4,k1,x7,m1,q6,n1]
  exact this
def Ya:Nat->SI
 |0=>λ_ _=>n_
 |n+1=>GF (TXp (Ya n)) Xr.1 QXp
theorem YDs:∀(n:Nat)(x:Gx),x.sz<=n->x.ok->∀(k:Nat)(S:St)(c:List Ins),Cp k c S->c.length+3*x.sz<=4000->∃N c',Ya n [Y k 0,gD x] S=s_ (.tup [],N)/\EvB k S N/\Cp k c' N/\c.length<=c'.length/\c'.length<=c.length+3*x.sz
 |0,x,h=>by cases x<;>simp[Gx.sz]at h
 |n+1,x,h=>λhx k S c hc hl=>by
  have hk:∀y∈D7 x,y.sz<=n:=λy hy=>Cd (AX (bl hy) h);obtain⟨d,N,h1,k',c0,x',e,E,_,_,c',e1,h2,h3,⟨h4,h5⟩,rfl⟩:=Yxa (zf (si:=Ya n) hc hx hl λy hy S c' E ac=>YDs n y (hk y hy) (Ygt hx hy) k S c' E ac) (λo h=>by obtain⟨_,_,_,_,_,h⟩:=h;exact vt h);simp only[Ab,D.ptr.injEq,zag]at e;obtain⟨rfl,e⟩:=e;obtain rfl:=Tw _ _ e;obtain rfl:=p7 hc E;cases e1;exact⟨_,c',h1,h2,h3,h4,h5⟩
theorem YK5:∀n,CI 96 (Ya n)
 |0=>⟨(Rb (G:=GG) (T:=tb [] []) (DP all_nil all_nil) rfl Xr.2 0).1,λ_ _ _ _ _ _ _ _ h=>by cases h⟩
 |n+1=>(HJ (T:=TXp (Ya n)) _ Xr.2 (DP all_nil (all_cons YCf (all_cons jw (all_cons (YK5 n) all_nil))))).1
