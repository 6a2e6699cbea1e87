/-
  The law CourtMatchesReference of wagonpoollaw40.
  Conditions: the law's own alone.
-/
import Derived.Test.YtijnglngaogdjaaGreatDoorCtT
import Derived.Test.YtijnglngaogdjaaGreatDoorArY
import Derived.Test.YtijnglngaogdjaaGreatDoorBsC
open Bool renaming false→f_,true→t_
open Option renaming some→s_
open Int renaming reduceEq→Di,reduceNatCast'→CX
open List renaming replicate→CZ
open Nat renaming reduceAdd→CY,reduceEqDiff→CW,reduceLT→C8,reduceLeDiff→C5,reduceMul→Dd
set_option maxHeartbeats 8000000
set_option maxRecDepth 20000
set_option linter.unusedSimpArgs false
set_option linter.unusedVariables false
noncomputable section
namespace Go.Proofs.YtijnglngaogdjaaGreatDoor.PI
open Go
open D renaming int→I,slc→O,agg→U,bool→V,ptr→Y
open Go.IntKind renaming i64→J
def IZ(m:Mv)(t q:D):List Sg:=[.c (I J m.kd),.c (I J m.pt),.c (I J m.am),.c (I J m.cm.1),.g m.cm.2,.g m.lf,.g m.rt]++Io m.op t++[.c q]++K8 m.key
def Gf(m:Mv)(t q:D):List D:=Dy (IZ m t q)
def QU:Mv:=⟨0,0,0,(0,DH),DH,DH,⟨0,0,0,0,[],0,DH⟩,[],qS⟩
theorem Tc(m:Mv)(t q:D):KV (IZ m t q):=trivial
theorem nT(m:Mv)(t q:D):(Gf m t q).length=144:=by rw[Gf,O1 (Tc m t q)]; simp[I7,IZ,Io,K8,Sg.sz]
theorem U3:Fs=Gf QU (O 0 [] t_) (O 0 [] t_):=(rfl)
section
variable (x:Mv) (j q:D) (r:List (Nat×Nat×D))
theorem fZ(a:Int):Ed (Gf x j q) ((0,1,I J a)::r)=Ed (Gf {x with kd:=a} j q) r:=Jw (l:=IZ x j q) (X:=[.c (I J a)]) rfl rfl (Tc x j q) rfl rfl rfl rfl
theorem rh(a:Int):Ed (Gf x j q) ((1,1,I J a)::r)=Ed (Gf {x with pt:=a} j q) r:=Jw (l:=IZ x j q) (X:=[.c (I J a)]) rfl rfl (Tc x j q) rfl rfl rfl rfl
theorem YL5(a:Int):Ed (Gf x j q) ((2,1,I J a)::r)=Ed (Gf {x with am:=a} j q) r:=Jw (l:=IZ x j q) (X:=[.c (I J a)]) rfl rfl (Tc x j q) rfl rfl rfl rfl
theorem Xs(a:Int×Dig):Ed (Gf x j q) ((3,33,U (I J a.1::Dj a.2))::r)=Ed (Gf {x with cm:=a} j q) r:=Jw (l:=IZ x j q) (X:=[.c (I J a.1),.g a.2]) rfl rfl (Tc x j q) rfl (by simp[Dy,Sg.cs,D.cells]) (by simp[Dy,Sg.cs,Ef]) (by simp[Dy,Sg.cs,IT,D.isCell])
theorem gK:Ed (Gf x j q) []=s_ (Gf x j q):=rfl
end
theorem Ybu(m:Mv){t q:D}(M:t.isCell=t_)(N:q.isCell=t_):(Gf m t q).all D.isCell=t_:=by refine O0 (fun _ _=>rfl) fun s E=>?_;simp only[IZ,Io,K8,Ag,Al,Ay,AD,or_false]at E;rcases E with rfl|rfl|rfl|rfl|rfl|rfl|rfl|rfl|rfl|rfl|rfl|rfl|rfl|rfl|rfl|rfl|rfl|rfl|rfl|rfl <;> first|(simp[Sg.cs,IT,M,N]; done)|simp[Sg.cs,D.isCell]
theorem YFx(m:Mv):D4 (U (Gf m (O 0 [] t_) (O 0 [] t_)))=s_ (Gf m (O 0 [] t_) (O 0 [] t_)):=by simp only[D4,D.cells,Ybu m (t:=O 0 [] t_) (q:=O 0 [] t_) rfl rfl,if_true]
theorem YKq(sz:Nat)(lent:Bool)(m:Mv)(t q:D):DJ (s_ ⟨f_,sz,Gf m t q,lent⟩) 144 t_ 0=s_ (U (Gf m t q)):=LP sz lent _ 144 (nT m t q)
theorem YJd(x y:Mv)(sz:Nat):Eb (s_ ⟨f_,sz,Gf x (O 0 [] t_) (O 0 [] t_),f_⟩) 144 0 (U (Gf y (O 0 [] t_) (O 0 [] t_)))=s_ ⟨f_,sz,Gf y (O 0 [] t_) (O 0 [] t_),f_⟩:=LQ sz _ _ 144 (nT _ _ _) (nT _ _ _) (Ybu y rfl rfl)
theorem YI7(x:Mv)(sz:Nat)(j q:D)(n:Int):Eb (s_ ⟨f_,sz,Gf x j q,f_⟩) 1 2 (I J n)=s_ ⟨f_,sz,Gf {x with am:=n} j q,f_⟩:=Jv (l:=IZ x j q) (X:=[.c (I J n)]) rfl rfl (Tc x j q) rfl rfl rfl rfl
theorem Vb(st:St)(m:Mv)(h:m.op.top=[]∧m.path=[]):Ej st (U (Gf m (O 0 [] t_) (O 0 [] t_)))=s_ (Fy m):=by
 have E:∀ t q,Gf m t q=Dy [.c (I J m.kd),.c (I J m.pt),.c (I J m.am),.c (I J m.cm.1),.g m.cm.2,.g m.lf,.g m.rt,.c (I J m.op.pc),.c (I J m.op.fuel),.c (I J m.op.status),.c (I J m.op.clause)]++(t::(Dy [.c (I J m.op.depth),.g m.op.rest]++(q::Hv m.key))):=fun t q=>by
  simp[Gf,IZ,Io,Dy,Sg.cs,gO]
 have s1:(Dy [.c (I J m.kd),.c (I J m.pt),.c (I J m.am),.c (I J m.cm.1),.g m.cm.2,.g m.lf,.g m.rt,.c (I J m.op.pc),.c (I J m.op.fuel),.c (I J m.op.status),.c (I J m.op.clause)]).all EY=t_:=by simp[Dy,Sg.cs,EY,Mr]
 have s2:(Dy [.c (I J m.op.depth),.g m.op.rest]).all EY=t_:=by simp[Dy,Sg.cs,EY,Mr]
 have M:(Hv m.key).all EY=t_:=by simp[Hv,EY]
 have N:GW m=Gf m (EA m.op.top) (JF m.path):=rfl
 have i3:Es st (Hv m.key)=s_ (Hv m.key):=by
  have:=Ut st [] M;simpa[Es]using this
 rw[Fy,N,E,E,h.1,h.2];simp only[Ej,Ut st _ s1,Es,Ut st _ s2,i3];rfl
def zE:Int×List Int:=(0,CZ 16 0)
theorem jb:Ed [(I J 0),(I J 0),(I J 0),(I J 0),(I J 0),(I J 0),(I J 0),(I J 0),(I J 0),(I J 0),(I J 0),(I J 0),(I J 0),(I J 0),(I J 0),(I J 0),(I J 0)] []=s_ (Ev zE):=rfl
theorem pK:D.agg (Ev zE)=D6 zE:=rfl
def dQ:List D→Option D:=Dq (α:=List Ins×Cse×Mv) (fun a=>[O (nz 3 (a.1.map Dk)) (a.1.map Dk) f_,Dt a.2.1,Fy a.2.2]) (fun a=>True) (fun a=>V (decide (a.1.length≤60∧a.2.1.jn.length≤12∧a.2.2.path.length≤40∧a.2.2.op.top.length≤80)))
theorem Ypv(c:List Ins)(x:Cse)(m:Mv):dQ [O (nz 3 (c.map Dk)) (c.map Dk) f_,Dt x,Fy m]=s_ (V (decide (c.length≤60∧x.jn.length≤12∧m.path.length≤40∧m.op.top.length≤80))):=
 DK (fun⟨a0,a1,E⟩ ⟨b0,b1,M⟩ h=>by simp only[Aa,D.slc.injEq,and_true,Ha,IS,OQ]at h; simp[h]) (c,x,m) trivial
theorem YIj(c:List Ins)(x:Cse)(m:Mv):@wW GG (tb [] []) aD.code (Dm [O (nz 3 (c.map Dk)) (c.map Dk) f_,Dt x,Fy m]) [] ⟨Ds aD.res (V (decide (c.length≤60∧x.jn.length≤12∧m.path.length≤40∧m.op.top.length≤80)))⟩:=by
 have l1:∀ st,EF st f_ (O (nz 3 (c.map Dk)) (c.map Dk) f_)=s_ (I J (c.length:Int)):=fun st=>by simp[EF,Iz,E7]
 have E:∀ st,EF st f_ (DG x.jn)=s_ (I J (x.jn.length:Int)):=fun st=>by simp[EF,Iz,E7]
 have N:∀ st,EF st f_ (JF m.path)=s_ (I J (m.path.length:Int)):=fun st=>by simp[EF,Iz,E7]
 have l4:∀ st,EF st f_ (EA m.op.top)=s_ (I J (m.op.top.length:Int)):=fun st=>by simp[EF,Iz,E7,EA]
 have a1:∀ sz lent,DJ (s_ ⟨f_,sz,GW m,lent⟩) 1 f_ 138=s_ (JF m.path):=fun sz lent=>G6 (l:=Jn m) rfl rfl (L2 m);have a2:∀ sz lent,DJ (s_ ⟨f_,sz,GW m,lent⟩) 1 f_ 104=s_ (EA m.op.top):=fun sz lent=>G6 (l:=Jn m) rfl rfl (L2 m);unfold aD
 by_cases h1:c.length≤60
 ·have g1:((c.length:Int)≤60):=by omega
  by_cases h2:x.jn.length≤12
  ·have g2:((x.jn.length:Int)≤12):=by omega
   by_cases h3:m.path.length≤40
   ·have M:((m.path.length:Int)≤40):=by omega
    by_cases h4:m.op.top.length≤80
    ·have g4:((m.op.top.length:Int)≤80):=by omega
     rw[decide_eq_true ⟨h1,h2,h3,h4⟩]
     push_cast(disch:=lia)[DT,EV,Lz,a1,a2,l1,E,N,l4,eq_true g1,eq_true g2,eq_true M,eq_true g4,decide_true]
    ·have g4:¬ ((m.op.top.length:Int)≤80):=by omega
     rw[decide_eq_false (fun h=>h4 h.2.2.2)]
     push_cast(disch:=lia)[DT,EV,Lz,a1,a2,l1,E,N,l4,eq_true g1,eq_true g2,eq_true M,eq_false g4,decide_true,decide_false]
   ·have M:¬ ((m.path.length:Int)≤40):=by omega
    rw[decide_eq_false (fun h=>h3 h.2.2.1)]
    push_cast(disch:=lia)[DT,EV,Lz,a1,l1,E,N,eq_true g1,eq_true g2,eq_false M,decide_true,decide_false]
  ·have g2:¬ ((x.jn.length:Int)≤12):=by omega
   rw[decide_eq_false (fun h=>h2 h.2.1)]
   push_cast(disch:=lia)[DT,EV,Lz,l1,E,eq_true g1,eq_false g2,decide_true,decide_false]
 ·have g1:¬ ((c.length:Int)≤60):=by omega
  rw[decide_eq_false (fun h=>h1 h.1)]
  push_cast(disch:=lia)[DT,EV,l1,eq_false g1,decide_false]
theorem YN9:Contract Tryz.prog GG 32 dQ:=
 DM ywz (DD all_nil all_nil) (fun a h=>YIj a.1 a.2.1 a.2.2)
theorem YEt(b:UInt8):Ed (Dj DH) [(0,1,Dr b)]=s_ (Dj (Ff b)):=Ynt b
def YQ:List D→Option D:=Dq (α:=UInt8) (fun a=>[Dr a]) (fun a=>True) (fun a=>U (I J 1::Dj (Ff a)))
theorem yVq(n:UInt8):YQ [Dr n]=s_ (U (I J 1::Dj (Ff n))):=
 DK (fun a b h=>by simp only[Aa,Yxa,and_true]at h; simp[h]) (n) trivial
theorem Yh4(n:UInt8):@wW GG (tb [] []) bt.code (Dm [Dr n]) [] ⟨Ds bt.res (U (I J 1::Dj (Ff n)))⟩:=by
 unfold bt
 push_cast(disch:=lia)[YEt,Jy,xf,SP]
theorem Yql:Contract Tryz.prog GG 58 YQ:=
 DM ysd (DD all_nil all_nil) (fun a h=>Yh4 a)
def Lb(x:Cse)(e p w a:Int):Prop:=e=0∧IB x∧x.ph=p∧x.wn=w∧x.am=a
instance (x:Cse) (e p w a:Int):Decidable (Lb x e p w a):=inferInstanceAs (Decidable (_∧_∧_∧_∧_))
def mw:List D→Option D:=Dq (α:=Cse×Int×Int×Int×Int) (fun a=>[Dt a.1,I J a.2.1,I J a.2.2.1,I J a.2.2.2.1,I J a.2.2.2.2]) (fun a=>True) (fun a=>V (decide (Lb a.1 a.2.1 a.2.2.1 a.2.2.2.1 a.2.2.2.2)))
theorem YY(x:Cse)(e:Int)(p:Int)(w:Int)(a:Int):mw [Dt x,I J e,I J p,I J w,I J a]=s_ (V (decide (Lb x e p w a))):=
 DK (fun⟨a0,a1,E,M,N⟩ ⟨b0,b1,b2,b3,b4⟩ h=>by simp only[Aa,D.int.injEq,true_and,and_true,IS]at h; simp[h]) (x,e,p,w,a) trivial
theorem YAe(x:Cse)(e:Int)(p:Int)(w:Int)(a:Int):@wW GG (tb [(31,Sy)] []) aw.code (Dm [Dt x,I J e,I J p,I J w,I J a]) [] ⟨Ds aw.res (V (decide (Lb x e p w a)))⟩:=by
 have co:=nY x;unfold aw
 by_cases E:e=0
 ·by_cases h2:IB x
  ·simp only[h2,decide_true]at co
   by_cases M:x.ph=p
   ·by_cases N:x.wn=w
    ·by_cases h5:x.am=a
     ·rw[decide_eq_true ⟨E,h2,M,N,h5⟩]
      push_cast(disch:=lia)[DT,Eh,E3,S8,gX,EK,Et,co,eq_true E,eq_true M,eq_true N,eq_true h5,decide_true]
     ·rw[decide_eq_false (fun h=>h5 h.2.2.2.2)]
      push_cast(disch:=lia)[DT,Eh,E3,S8,gX,EK,Et,co,eq_true E,eq_true M,eq_true N,eq_false h5,decide_true,decide_false]
    ·rw[decide_eq_false (fun h=>N h.2.2.2.1)]
     push_cast(disch:=lia)[DT,Eh,E3,S8,EK,Et,co,eq_true E,eq_true M,eq_false N,decide_true,decide_false]
   ·rw[decide_eq_false (fun h=>M h.2.2.1)]
    push_cast(disch:=lia)[DT,Eh,E3,EK,Et,co,eq_true E,eq_false M,decide_true,decide_false]
  ·simp only[h2,decide_false]at co;rw[decide_eq_false (fun h=>h2 h.2.1)]
   push_cast(disch:=lia)[DT,Eh,EK,Et,co,eq_true E,decide_true]
 ·rw[decide_eq_false (fun h=>E h.1)]
  push_cast(disch:=lia)[DT,eq_false E,decide_false]
theorem YFp:Contract Tryz.prog GG 43 mw:=
 DM ywe (DD (all_cons jj all_nil) all_nil) (fun a h=>YAe a.1 a.2.1 a.2.2.1 a.2.2.2.1 a.2.2.2.2)
variable {now:Int}{m:Mv}{x:Cse}{v:Int×List Int}{c:List Ins}
theorem Ss{y:Cse}{e:Int}(N:GJ x)(ha:F5 m now)(hl:now≤x.dl)(M:Gu c v x m now=(y,e)):F0 c v x m now=e∧GL c v x m now=if e=0 then y else Fb:=by
 have E:F0 c v x m now=e:=by rw[fv N ha hl,M]
 refine⟨E,?_⟩
 by_cases h:e=0
 ·rw[if_pos h,VH (by rw[E,h]),M]
 ·rw[if_neg h,RR (by rw[E]; exact h)]
theorem oE(x:Dig):FV (1,x) (1,x)=380:=by
 have e:L7 (1,x) (1,x)=Sb 0 0 0 x x 0:=by
  unfold L7 Sb;simp only[zc];simp[ER]
 unfold FV;simp only[zc,e];simp[Sb]
def I8:Ky:=⟨1,3,0,0,0⟩
def X0:Cse:=⟨I8,0,1,1,1540,5,0,(1,Ff 1),(0,DH),Fm,-1,0,-1,[]⟩
def F9(k p:Int):Mv:={QU with kd:=k,pt:=p}
def HB(n:Int):Mv:={QU with kd:=1,pt:=1,am:=n,cm:=(1,Ff 1)}
def NZ:Mv:={QU with kd:=6,pt:=1,am:=9}
def Pe:List Ins:=[⟨16,0,0⟩]
def XA:Cse:=II {X0 with a1:=5,c1:=(1,Ff 1)} 1 5
def XB:Cse:=OF {X0 with a1:=6,c1:=(1,Ff 1)} 200
def T5:Cse:=II {X0 with a1:=6,c1:=(1,Ff 1)} (-1) 0
def XD:Cse:={X0 with ct:=9,dl:=1640}
def XY:Cse:=II XD 1 9
theorem WL:Nl I8 0 1 5 (1,Ff 1) 100=X0∧Hq 0 1 5 (1,Ff 1) 100=0:=by
 have h:Hq 0 1 5 (1,Ff 1) 100=0:=by(unfold Hq HW; decide)
 exact⟨if_pos h,h⟩
theorem o_e:Hq 1 1 5 (1,Ff 1) 100=1:=by simp[Hq]
theorem o_f:Hq 0 1 5 (1,Ff 1) (-1)=1:=by simp[Hq]
theorem o_g:Hq 0 1 5 (-1,DH) 100=381:=by unfold Hq HW; decide
theorem Pf:GJ X0:=.inl rfl
theorem m_a:Gu Pe zE X0 (HB 5) 200=(XA,0):=by have h:=oE (Ff 1);simp[Gu,HB,Jd,X0,HW,h,EX,TQ,XA]
theorem m_b:Gu Pe zE X0 (HB 6) 200=(XB,0):=by have h:=oE (Ff 1);simp[Gu,HB,Jd,X0,HW,h,Pe,XB]
theorem m_c:Gu [] zE X0 (HB 6) 200=(T5,0):=by have h:=oE (Ff 1);simp[Gu,HB,Jd,X0,HW,h,HY,ML,T5]
theorem m_d:Gu [] zE X0 NZ 200=(XD,0):=by simp[Gu,NZ,Ms,X0,HW,XD]
theorem m_y:Gu [] zE XD (F9 5 0) 200=(XY,0):=by simp[Gu,F9,QU,M6,XD,X0,XY]
theorem yP:F0 Pe zE X0 (HB 5) 200=0∧GL Pe zE X0 (HB 5) 200=XA:=Ss Pf (by simp[F5,HB]) (by show(200:Int)≤1540; omega) m_a
theorem yO:F0 Pe zE X0 (HB 6) 200=0∧GL Pe zE X0 (HB 6) 200=XB:=Ss Pf (by simp[F5,HB]) (by show(200:Int)≤1540; omega) m_b
theorem yN:F0 [] zE X0 (HB 6) 200=0∧GL [] zE X0 (HB 6) 200=T5:=Ss Pf (by simp[F5,HB]) (by show(200:Int)≤1540; omega) m_c
theorem yM:F0 [] zE X0 NZ 200=0∧GL [] zE X0 NZ 200=XD:=Ss Pf (by simp[F5,NZ]) (by show(200:Int)≤1540; omega) m_d
theorem yL:F0 [] zE XD (F9 5 0) 200=0∧GL [] zE XD (F9 5 0) 200=XY:=Ss (.inl rfl) (by simp[F5,F9]) (by show(200:Int)≤1640; omega) m_y
theorem fW{k p:Int}(M:1≤k∧k≤7)(N:p=0∨p=1)(E:0≤now∧now≤1073741824):F5 (F9 k p) now:=⟨M,E.1,E.2,N⟩
theorem Ve{e:Int}(h:F0 c v x m now=e)(E:e≠0):F0 c v x m now=e∧GL c v x m now=Fb:=⟨h,RR (by rw[h]; exact E)⟩
theorem za:F0 [] zE X0 (F9 1 0) 200=380∧GL [] zE X0 (F9 1 0) 200=Fb:=Ve (Ybh Pf (fW (by omega) (by omega) (by omega)) (by show(200:Int)≤1540; omega) (.inl ⟨.inl rfl,.inl rfl⟩)) (by decide)
theorem yZ:F0 [] zE X0 (F9 4 1) 200=380∧GL [] zE X0 (F9 4 1) 200=Fb:=Ve (Ybh Pf (fW (by omega) (by omega) (by omega)) (by show(200:Int)≤1540; omega) (.inr (.inl ⟨rfl,rfl⟩))) (by decide)
theorem yY:F0 [] zE X0 (F9 5 0) 200=380∧GL [] zE X0 (F9 5 0) 200=Fb:=Ve (Ss (y:=X0) Pf (fW (by omega) (by omega) (by omega)) (by show(200:Int)≤1540; omega) (by simp[Gu,F9,M6,X0])).1 (by decide)
theorem yX:F0 [] zE X0 (F9 7 0) 1541=401∧GL [] zE X0 (F9 7 0) 1541=Fb:=Ve (vF Pf (fW (by omega) (by omega) (by omega)) (by show ¬ (1541:Int)≤1540; omega)) (by decide)
theorem yW:F0 [] zE XA (F9 4 0) 200=400∧GL [] zE XA (F9 4 0) 200=Fb:=Ve (vE (by intro h; rcases h with h|h|h <;> cases h)) (by decide)
theorem e_a:Lb XA 0 4 1 5:=⟨rfl,.inl rfl,rfl,rfl,rfl⟩
theorem e_c:Lb T5 0 4 (-1) 0:=⟨rfl,.inl rfl,rfl,rfl,rfl⟩
theorem e_y:Lb XY 0 4 1 9:=⟨rfl,.inl rfl,rfl,rfl,rfl⟩
theorem t_0:Jh X0 1540=X0:=if_neg (by intro h; exact absurd h.2 (by show ¬ (1540:Int)<1540; omega))
theorem t_1:Lb (Jh X0 1541) 0 6 0 5:=by have h:Jh X0 1541={EX X0 (G3 X0)with ph:=6}:=if_pos ⟨Pf,by show(1540:Int)<1541; omega⟩;rw[h];have E:G3 X0=0:=if_pos rfl;rw[E];exact⟨rfl,.inr (.inr rfl),rfl,rfl,rfl⟩
theorem Gm(x y:Cse)(i:D)(sz:Nat):Eb (s_ ⟨f_,sz,Du x i,f_⟩) 279 0 (Dt y)=s_ ⟨f_,sz,Du y (DG y.jn),f_⟩:=MX x y i _ rfl sz
theorem YOj:D4 (U [(I J 0),(I J 0),(I J 0),(I J 0),(I J 0)])=s_ (Hv qS):=rfl
theorem YEq:Ed [(I J 0),(I J 0),(I J 0),(I J 0),(I J 0)] [(0,1,I J 1),(1,1,I J 3)]=s_ (Hv I8):=rfl
theorem Wn(a b:Ky)(sz:Nat):Eb (s_ ⟨f_,sz,Hv a,f_⟩) 5 0 (D8 b)=s_ ⟨f_,sz,Hv b,f_⟩:=rfl
theorem YC3:keys (U [I J 16,I J 0,I J 0])=[]:=rfl
theorem YEn(d:Dig):Ed (I J 0::Dj d) []=s_ (I J 0::Dj d):=rfl
theorem YOy(k:Ky):D.agg (Hv k)=D8 k:=rfl
theorem YKi:FP 3 [U [I J 16,I J 0,I J 0]]=s_ (O 3 [U [I J 16,I J 0,I J 0]] t_):=rfl
theorem YEr(a:Int):Ed [I J 0,I J 0,I J 0] [(0,1,I J a)]=s_ [I J a,I J 0,I J 0]:=rfl
theorem YEm(a:Int):Ed (I J 0::Dj DH) [(0,1,I J a)]=s_ (I J a::Dj DH):=by refine(Jw (l:=[.c (I J 0),.g DH]) (A:=[]) (B:=[.c (I J 0)]) (C:=[.g DH]) (X:=[.c (I J a)]) (by simp[Dy,Sg.cs]) rfl trivial rfl rfl rfl rfl).trans ?_;simp[Dy,Sg.cs,Ed]
theorem Yu3{l:List D}(h:l.all (fun d=>(FQ d).isEmpty)=t_):keys (U l)=[]:=by simp only[keys,Ca];intro d E;simpa using Ah.1 h d E
theorem Yu4(x:Dig):(Dj x).all (fun d=>(FQ d).isEmpty)=t_:=by rw[Ah];intro d E;have:=Ah.1 (Mr x) d E;simp[n9 this]
theorem Yu2(m:Mv)(t q:D)(M:FQ t=[])(N:FQ q=[]):keys (U (Gf m t q))=[]:=by refine Yu3 (O0 (fun _ _=>rfl) fun s E=>?_);simp only[IZ,Io,K8,Ag,Al,Ay,AD,or_false]at E;rcases E with rfl|rfl|rfl|rfl|rfl|rfl|rfl|rfl|rfl|rfl|rfl|rfl|rfl|rfl|rfl|rfl|rfl|rfl|rfl|rfl <;> first|exact Yu4 _|(simp[Sg.cs,M,N]; done)|rfl
theorem lp(m:Mv):keys (U (Gf m (O 0 [] t_) (O 0 [] t_)))=[]:=Yu2 m _ _ rfl rfl
def nm:List D→Option D:=Dq (α:=Cse×Int×Int×Int×Int) (fun a=>[Dt a.1,I J a.2.1,I J a.2.2.1,I J a.2.2.2.1,I J a.2.2.2.2]) (fun a=>(GL [] zE a.1 (F9 a.2.1 a.2.2.1) a.2.2.2.1).jn.length≤4294967296) (fun a=>V (decide (F0 [] zE a.1 (F9 a.2.1 a.2.2.1) a.2.2.2.1=a.2.2.2.2∧GL [] zE a.1 (F9 a.2.1 a.2.2.1) a.2.2.2.1=Fb)))
theorem Uv(x:Cse)(k:Int)(p:Int)(now:Int)(w:Int)(h:(GL [] zE x (F9 k p) now).jn.length≤4294967296):nm [Dt x,I J k,I J p,I J now,I J w]=s_ (V (decide (F0 [] zE x (F9 k p) now=w∧GL [] zE x (F9 k p) now=Fb))):=
 DK (fun⟨a0,a1,E,M,N⟩ ⟨b0,b1,b2,b3,b4⟩ h=>by simp only[Aa,D.int.injEq,true_and,and_true,IS]at h; simp[h]) (x,k,p,now,w) h
theorem Yrz(x:Cse)(k:Int)(p:Int)(now:Int)(w:Int)(h:(GL [] zE x (F9 k p) now).jn.length≤4294967296):@wW GG (tb [(24,M1),(30,Sx)] []) aH.code (Dm [Dt x,I J k,I J p,I J now,I J w]) [] ⟨Ds aH.res (V (decide (F0 [] zE x (F9 k p) now=w∧GL [] zE x (F9 k p) now=Fb)))⟩:=by
 have cp:M1 [O 0 [] f_,D6 zE,Dt x,Fy (F9 k p),I J now]=_:=Rm [] zE x (F9 k p) now ⟨by simp,rfl,by simp[F9,QU]⟩;have cs:=YH (GL [] zE x (F9 k p) now) Fb ⟨h,by simp[Fb]⟩;have hm:({{QU with kd:=k} with pt:=p}:Mv)=F9 k p:=rfl;have hi:∀ st,Ej st (U (Gf (F9 k p) (O 0 [] t_) (O 0 [] t_)))=s_ (Fy (F9 k p)):=fun st=>Vb st _ ⟨rfl,rfl⟩;have hz:∀ st,Ej st (U (Du Fb (O 0 [] t_)))=s_ (Dt Fb):=fun st=>Nx st _ rfl;unfold aH;generalize F0 [] zE x (F9 k p) now=e at*;generalize GL [] zE x (F9 k p) now=y at*;generalize F9 k p=mm at*
 have M:Ed Fs [(0,1,I J k),(1,1,I J p)]=s_ (Gf mm (O 0 [] t_) (O 0 [] t_)):=by
  rw[U3,fZ,rh,gK,← hm]
 by_cases E:e=w
 ·have N:decide (e=w∧y=Fb)=decide (y=Fb):=by simp[E]
  rw[N];simp(disch:=first|omega|decide) only[push_cast,↓reduceIte,CW,jb,pK,Fa,GO,DT,Mn,J6,M,hi,hz,Eh,EK,Et,Gn,lp,cp,Gm,cs,Ng,eq_true E,decide_true]
 ·have N:decide (e=w∧y=Fb)=f_:=decide_eq_false (fun h=>E h.1);rw[N];simp(disch:=first|omega|decide) only[push_cast,↓reduceIte,CW,jb,pK,Fa,GO,DT,Mn,J6,M,hi,Eh,EK,Et,Gn,lp,cp,Gm,eq_false E,decide_false]
theorem Yw4:Contract Tryz.prog GG 59 nm:=
 DM yua (DD (all_cons jh (all_cons ji all_nil)) all_nil) (fun a h=>Yrz a.1 a.2.1 a.2.2.1 a.2.2.2.1 a.2.2.2.2 h)
def eH:List D→Option D:=Dq (α:=Unit) (fun _=>[]) (fun _=>True) (fun _=>V t_)
theorem Yhb:eH []=s_ (V t_):=
 DK (fun _ _ _=>rfl) () trivial
theorem Yz7:@wW GG (tb [(58,YQ),(23,my),(30,Sx),(31,Sy),(24,M1),(43,mw),(59,nm),(29,Vz)] []) ax.code (Dm []) [] ⟨Ds ax.res (V t_)⟩:=by
 have c1:=yVq 1;have E:=YG I8 1 1 5 (1,Ff 1) 100;have M:=YG I8 0 1 5 (1,Ff 1) (-1);have N:=YG I8 0 1 5 (-1,DH) 100;have q4:=YG I8 0 1 5 (1,Ff 1) 100;dsimp only at E M N q4;rw[o_e]at E;rw[o_f]at M;rw[o_g]at N;rw[WL.1,WL.2]at q4;have s0:=YH X0 X0 ⟨by decide,by decide⟩;rw[decide_eq_true rfl]at s0;have v0:=nY X0;rw[decide_eq_false (show ¬ IB X0 by intro h; rcases h with h|h|h <;> cases h)]at v0;have y1:M1 [O 3 [U [I J 16,I J 0,I J 0]] f_,D6 zE,Dt X0,Fy (HB 5),I J 200]=_:=Rm Pe zE X0 (HB 5) 200 ⟨by decide,rfl,by decide⟩;have y2:M1 [O 3 [U [I J 16,I J 0,I J 0]] f_,D6 zE,Dt X0,Fy (HB 6),I J 200]=_:=Rm Pe zE X0 (HB 6) 200 ⟨by decide,rfl,by decide⟩;have y3:M1 [O 0 [] f_,D6 zE,Dt X0,Fy (HB 6),I J 200]=_:=Rm [] zE X0 (HB 6) 200 ⟨by decide,rfl,by decide⟩;have y4:M1 [O 0 [] f_,D6 zE,Dt X0,Fy NZ,I J 200]=_:=Rm [] zE X0 NZ 200 ⟨by decide,rfl,by decide⟩;have y5:M1 [O 0 [] f_,D6 zE,Dt XD,Fy (F9 5 0),I J 200]=_:=Rm [] zE XD (F9 5 0) 200 ⟨by decide,rfl,by decide⟩;rw[yP.1,yP.2]at y1;rw[yO.1,yO.2]at y2;rw[yN.1,yN.2]at y3;rw[yM.1,yM.2]at y4;rw[yL.1,yL.2]at y5;have n1:=YY XA 0 4 1 5;have n2:=YY T5 0 4 (-1) 0;have n3:=YY XY 0 4 1 9;have n4:=YY (Jh X0 1541) 0 6 0 5;rw[decide_eq_true e_a]at n1;rw[decide_eq_true e_c]at n2;rw[decide_eq_true e_y]at n3;rw[decide_eq_true t_1]at n4;have g1:=Uv X0 1 0 200 380 (by rw[za.2]; decide);have g2:=Uv X0 4 1 200 380 (by rw[yZ.2]; decide);have g3:=Uv X0 5 0 200 380 (by rw[yY.2]; decide);have g4:=Uv X0 7 0 1541 401 (by rw[yX.2]; decide);have g5:=Uv XA 4 0 200 400 (by rw[yW.2]; decide);rw[decide_eq_true za]at g1;rw[decide_eq_true yZ]at g2;rw[decide_eq_true yY]at g3;rw[decide_eq_true yX]at g4;rw[decide_eq_true yW]at g5;have k1:=nW X0 1540;have k2:=nW X0 1541;rw[t_0]at k1;have b1:(XB.ph=3)=True:=eq_true rfl;have b2:(XB.dl=1640)=True:=eq_true rfl;have d1:(XD.ct=9)=True:=eq_true rfl;have d2:(XD.dl=1640)=True:=eq_true rfl;have hx:∀ st,Ej st (U (Du X0 (O 0 [] t_)))=s_ (Dt X0):=fun st=>Nx st _ rfl;have f2:=Yc3 (1,Ff 1) (0,DH) [] (0,DH) (0,DH);dsimp only at f2
 have fx:Ed EJ [(0,5,D8 I8),(5,2,U [I J 0,I J 1]),(7,1,I J 1),(8,1,I J 1540),(9,2,U [I J 5,I J 0]),(11,66,U (Hw (1,Ff 1) (0,DH))),(275,1,I J (-1)),(277,1,I J (-1))]=s_ (Du X0 (O 0 [] t_)):=by
  rw[J6,zw,XG,YL8,YL9,XI,XH,YL7,YMa,Ng]; rfl
 have fa:Ed Fs [(0,1,I J 1),(1,1,I J 1),(2,1,I J 5),(3,33,U (I J 1::Dj (Ff 1)))]=s_ (Gf (HB 5) (O 0 [] t_) (O 0 [] t_)):=by
  rw[U3,fZ,rh,YL5,Xs _ _ _ _ (1,Ff 1),gK]; rfl
 have fr:Ed Fs [(0,1,I J 6),(1,1,I J 1),(2,1,I J 9)]=s_ (Gf NZ (O 0 [] t_) (O 0 [] t_)):=by
  rw[U3,fZ,rh,YL5,gK]; rfl
 have fk:Ed Fs [(0,1,I J 5)]=s_ (Gf (F9 5 0) (O 0 [] t_) (O 0 [] t_)):=by
  rw[U3,fZ,gK]; rfl
 have ea:∀ sz,Eb (s_ ⟨f_,sz,Gf (HB 5) (O 0 [] t_) (O 0 [] t_),f_⟩) 1 2 (I J 6)=s_ ⟨f_,sz,Gf (HB 6) (O 0 [] t_) (O 0 [] t_),f_⟩:=fun sz=>YI7 _ _ _ _ _;have i1:∀ st,Ej st (U (Gf (HB 5) (O 0 [] t_) (O 0 [] t_)))=s_ (Fy (HB 5)):=fun st=>Vb st _ ⟨rfl,rfl⟩;have i2:∀ st,Ej st (U (Gf (HB 6) (O 0 [] t_) (O 0 [] t_)))=s_ (Fy (HB 6)):=fun st=>Vb st _ ⟨rfl,rfl⟩;have i3:∀ st,Ej st (U (Gf NZ (O 0 [] t_) (O 0 [] t_)))=s_ (Fy NZ):=fun st=>Vb st _ ⟨rfl,rfl⟩;have i4:∀ st,Ej st (U (Gf (F9 5 0) (O 0 [] t_) (O 0 [] t_)))=s_ (Fy (F9 5 0)):=fun st=>Vb st _ ⟨rfl,rfl⟩;have bz:D4 (U EJ)=s_ (Du Fb (O 0 [] t_)):=by rw[J6]; exact Mn _
 have bm:D4 (U Fs)=s_ (Gf QU (O 0 [] t_) (O 0 [] t_)):=by rw[U3]; exact YFx _
 have a6:YQ [I .u8 1]=s_ (U (I J 1::Dj (Ff 1))):=c1;clear c1;unfold ax;generalize X0=x0 at*;generalize XA=xa at*;generalize XB=xb at*;generalize T5=xc at*;generalize XD=xd at*;generalize XY=xy at*;generalize Nl I8 1 1 5 (1,Ff 1) 100=o1 at*;generalize Nl I8 0 1 5 (1,Ff 1) (-1)=o2 at*;generalize Nl I8 0 1 5 (-1,DH) 100=o3 at*;generalize Jh x0 1541=tk at*;generalize HB 5=ma at*;generalize HB 6=mb at*;generalize NZ=mr at*;generalize F9 5 0=mk at*;generalize Ff 1=dd at*;simp(disch:=first|omega|decide) only[push_cast,↓reduceIte,CW,CY,Int.reduceNeg,YOj,YEq,Wn,YOy,NN,Pm,Tw,YC3,a6,E,M,N,q4,YEm,YEn,bz,Gm,fx,Yns,Yhv,f2,Ynu,YEr,YKi,fa,fr,fk,bm,YJd,YKq,ea,i1,i2,i3,i4,jb,pK,Fa,GO,y1,y2,y3,y4,y5,n1,n2,n3,n4,g1,g2,g3,g4,g5,k1,k2,s0,v0,hx,MX,Eh,E3,GM,UK,EK,Et,Gn,lp,b1,b2,d1,d2,decide_true]
theorem YFn:Contract Tryz.prog GG 18 eH:=
 DM ywd (DD (all_cons Yql (all_cons YFo (all_cons ji (all_cons jj (all_cons jh (all_cons YFp (all_cons Yw4 (all_cons Yqj all_nil)))))))) all_nil) (fun a h=>Yz7 )
abbrev fP:Ty:=.agg (CZ 32 (.int .u8))
abbrev fQ:Ty:=.agg [.int .i64,.agg (CZ 32 (.int .u8))]
abbrev oT:Ty:=.agg [.int .i64,.int .i64]
abbrev Px:Ty:=.agg [.int .i64,.int .i64,.agg [.int .i64,.int .i64],.int .i64]
abbrev tyCse:Ty:=.agg [Px,oT,.int .i64,.int .i64,oT,.agg [fQ,fQ],Wg,.int .i64,.int .i64,.int .i64,.slc Px]
abbrev YIz:Ty:=.agg [.int .i64,.int .i64,.int .i64,.int .i64,.slc (.int .i64),.int .i64,fP]
abbrev tyMv:Ty:=.agg [.int .i64,.int .i64,.int .i64,fQ,fP,fP,YIz,.slc fP,Px]
variable {d:D}
theorem pY(h:Has Px d):∃ k:Ky,d=D8 k:=by
 cases h with
 |agg _ xs M E=>
  match xs,M with
  |[a,b,c,e],_=>
   obtain⟨N,rfl,_⟩:=Hr (E 0 _ a rfl rfl);obtain⟨x2,rfl,_⟩:=Hr (E 1 _ b rfl rfl);obtain⟨y0,y1,rfl,g0,g1⟩:=Rb (E 2 _ c rfl rfl);obtain⟨x3,rfl,_⟩:=Hr g0;obtain⟨x4,rfl,_⟩:=Hr g1;obtain⟨x5,rfl,_⟩:=Hr (E 3 _ e rfl rfl);exact⟨⟨N,x2,x3,x4,x5⟩,rfl⟩
theorem pW(h:Has fQ d):∃ c:Int×Dig,d=.agg (.int .i64 c.1::Dj c.2):=by obtain⟨x,y,rfl,E,M⟩:=Rb h;obtain⟨n,rfl,_⟩:=Hr E;obtain⟨g,rfl⟩:=RP M;exact⟨(n,g),rfl⟩
theorem zy(h:Has oT d):∃ a b:Int,d=.agg [.int .i64 a,.int .i64 b]:=by obtain⟨x,y,rfl,E,M⟩:=Rb h;obtain⟨n,rfl,_⟩:=Hr E;obtain⟨g,rfl,_⟩:=Hr M;exact⟨n,g,rfl⟩
theorem YEb(h:Has tyCse d):∃ x:Cse,d=Dt x∧x.jn.length≤maxLen:=by
 cases h with
 |agg _ xs N E=>
  match xs,N with
  |[x0,x1,x2,x3,x4,x5,x6,x7,x8,x9,M],_=>
   obtain⟨k,rfl⟩:=pY (E 0 _ x0 rfl rfl);obtain⟨p0,p1,rfl⟩:=zy (E 1 _ x1 rfl rfl);obtain⟨ph,rfl,_⟩:=Hr (E 2 _ x2 rfl rfl);obtain⟨dl,rfl,_⟩:=Hr (E 3 _ x3 rfl rfl);obtain⟨a0,a1,rfl⟩:=zy (E 4 _ x4 rfl rfl);obtain⟨y0,y1,rfl,g0,g1⟩:=Rb (E 5 _ x5 rfl rfl);obtain⟨c0,rfl⟩:=pW g0;obtain⟨c1,rfl⟩:=pW g1;obtain⟨b,rfl⟩:=YEd (E 6 _ x6 rfl rfl);obtain⟨wn,rfl,_⟩:=Hr (E 7 _ x7 rfl rfl);obtain⟨am,rfl,_⟩:=Hr (E 8 _ x8 rfl rfl);obtain⟨ct,rfl,_⟩:=Hr (E 9 _ x9 rfl rfl);obtain⟨jn,rfl,hl⟩:=cO (f:=D8) (fun _=>pY) (E 10 _ M rfl rfl);refine⟨⟨k,p0,p1,ph,dl,a0,a1,c0,c1,b,wn,am,ct,jn⟩,?_,hl⟩;simp only[Dt,Du,Ei,Lv,Ok,gO,Dy,Sg.cs,Af,Al,Ag,Am];simp[D.cells,D8,D3,DG];rfl
theorem YD9(h:Has YIz d):∃ o:Opn,d=DU o∧o.top.length≤maxLen:=by
 cases h with
 |agg _ xs M E=>
  match xs,M with
  |[a,b,c,e,f,g,k],_=>
   obtain⟨N,rfl,_⟩:=Hr (E 0 _ a rfl rfl);obtain⟨x2,rfl,_⟩:=Hr (E 1 _ b rfl rfl);obtain⟨x3,rfl,_⟩:=Hr (E 2 _ c rfl rfl);obtain⟨x4,rfl,_⟩:=Hr (E 3 _ e rfl rfl);obtain⟨l,rfl,hl⟩:=cO (f:=nI) (fun _=>zz) (E 4 _ f rfl rfl);obtain⟨x5,rfl,_⟩:=Hr (E 5 _ g rfl rfl);obtain⟨r,rfl⟩:=RP (E 6 _ k rfl rfl);refine⟨⟨N,x2,x3,x4,l,x5,r⟩,?_,hl⟩;simp[DU,Fv,D.cells,Dl,EA];rfl
theorem YL1(h:Has tyMv d):∃ m:Mv,d=Fy m∧m.op.top.length≤maxLen∧m.path.length≤maxLen:=by
 cases h with
 |agg _ xs M E=>
  match xs,M with
  |[a,b,c,e,f,g,k,l,j],_=>
   obtain⟨N,rfl,_⟩:=Hr (E 0 _ a rfl rfl);obtain⟨x2,rfl,_⟩:=Hr (E 1 _ b rfl rfl);obtain⟨x3,rfl,_⟩:=Hr (E 2 _ c rfl rfl);obtain⟨cm,rfl⟩:=pW (E 3 _ e rfl rfl);obtain⟨lf,rfl⟩:=RP (E 4 _ f rfl rfl);obtain⟨rt,rfl⟩:=RP (E 5 _ g rfl rfl);obtain⟨o,rfl,ho⟩:=YD9 (E 6 _ k rfl rfl);obtain⟨pa,rfl,hp⟩:=cO (f:=Dl) (fun _=>RP) (E 7 _ l rfl rfl);obtain⟨ky,rfl⟩:=pY (E 8 _ j rfl rfl);refine⟨⟨N,x2,x3,cm,lf,rt,o,pa,ky⟩,?_,ho,hp⟩;simp only[Fy,GW,Jn,Lv,dq,gO,Dy,Sg.cs,Al,Ag,Am];simp[D.cells,D8,DU,JF,Dl];rfl
theorem Fj:D4 (U EJ)=s_ (Du Fb (O 0 [] t_)):=by rw[J6]; exact Mn _
theorem pZ(sz:Nat)(lent:Bool)(x:Cse)(j:D):DJ (s_ ⟨f_,sz,Du x j,lent⟩) 1 f_ 144=s_ (V x.b.t0):=G6 (l:=Ei x j) rfl rfl (Gv x j)
theorem p5(sz:Nat)(lent:Bool)(x:Cse)(j:D):DJ (s_ ⟨f_,sz,Du x j,lent⟩) 1 f_ 145=s_ (V x.b.t1):=G6 (l:=Ei x j) rfl rfl (Gv x j)
section
variable (x:Cse) (j:D) (sz:Nat)
theorem Li(n:Int):Eb (s_ ⟨f_,sz,Du x j,f_⟩) 1 7 (I J n)=s_ ⟨f_,sz,Du {x with ph:=n} j,f_⟩:=Jv (l:=Ei x j) (X:=[.c (I J n)]) rfl rfl (Gv x j) rfl rfl rfl rfl
theorem UZ(n:Int):Eb (s_ ⟨f_,sz,Du x j,f_⟩) 1 8 (I J n)=s_ ⟨f_,sz,Du {x with dl:=n} j,f_⟩:=Jv (l:=Ei x j) (X:=[.c (I J n)]) rfl rfl (Gv x j) rfl rfl rfl rfl
theorem UX(n:Int):Eb (s_ ⟨f_,sz,Du x j,f_⟩) 1 10 (I J n)=s_ ⟨f_,sz,Du {x with a1:=n} j,f_⟩:=Jv (l:=Ei x j) (X:=[.c (I J n)]) rfl rfl (Gv x j) rfl rfl rfl rfl
theorem QS(n:Int):Eb (s_ ⟨f_,sz,Du x j,f_⟩) 1 275 (I J n)=s_ ⟨f_,sz,Du {x with wn:=n} j,f_⟩:=Jv (l:=Ei x j) (X:=[.c (I J n)]) rfl rfl (Gv x j) rfl rfl rfl rfl
theorem RM(n:Int):Eb (s_ ⟨f_,sz,Du x j,f_⟩) 1 276 (I J n)=s_ ⟨f_,sz,Du {x with am:=n} j,f_⟩:=Jv (l:=Ei x j) (X:=[.c (I J n)]) rfl rfl (Gv x j) rfl rfl rfl rfl
theorem YJb(n:Int):Eb (s_ ⟨f_,sz,Du x j,f_⟩) 1 277 (I J n)=s_ ⟨f_,sz,Du {x with ct:=n} j,f_⟩:=Jv (l:=Ei x j) (X:=[.c (I J n)]) rfl rfl (Gv x j) rfl rfl rfl rfl
theorem UY(c:Int×Dig):Eb (s_ ⟨f_,sz,Du x j,f_⟩) 33 44 (U (I J c.1::Dj c.2))=s_ ⟨f_,sz,Du {x with c1:=c} j,f_⟩:=
 Jv (l:=Ei x j) (X:=[.c (I J c.1),.g c.2]) rfl rfl (Gv x j) rfl (by simp[Dy,Sg.cs,D.cells]) (by simp[Dy,Sg.cs,Ef]) (by simp only[Dy,Sg.cs,Af,Ag,Al,AX,IT]; rfl)
theorem rE(b:Bis):Eb (s_ ⟨f_,sz,Du x j,f_⟩) 198 77 (D3 b)=s_ ⟨f_,sz,Du {x with b:=b} j,f_⟩:=
 Jv (l:=Ei x j) (X:=JJ b) rfl rfl (Gv x j) rfl (by rw[Ok]; rfl) (by rw[Ok,SX]) (by rw[Ok]; exact ff b)
end
def TG:List D→Option D:=Dq (α:=Int×Int×Int) (fun a=>[I J a.1,I J a.2.1,I J a.2.2]) (fun a=>True) (fun a=>V (decide (a.2.1≤a.1∧a.1≤a.2.2)))
theorem Rd(n:Int)(lo:Int)(hi:Int):TG [I J n,I J lo,I J hi]=s_ (V (decide (lo≤n∧n≤hi))):=
 DK (fun⟨a0,a1,E⟩ ⟨b0,b1,M⟩ h=>by simp only[Aa,D.int.injEq,true_and,and_true]at h; simp[h]) (n,lo,hi) trivial
theorem YH9(n:Int)(lo:Int)(hi:Int):@wW GG (tb [] []) bZ.code (Dm [I J n,I J lo,I J hi]) [] ⟨Ds bZ.res (V (decide (lo≤n∧n≤hi)))⟩:=by
 unfold bZ
 by_cases h:lo≤n
 ·by_cases E:n≤hi
  ·rw[decide_eq_true (show lo≤n∧n≤hi from⟨h,E⟩)]
   push_cast(disch:=lia)[h,E]
  ·rw[decide_eq_false (show ¬ (lo≤n∧n≤hi)from fun q=>E q.2)]
   push_cast(disch:=lia)[h,E]
 ·rw[decide_eq_false (show ¬ (lo≤n∧n≤hi)from fun q=>h q.1)]
  push_cast(disch:=lia)[h]
theorem gC:Contract Tryz.prog GG 81 TG:=
 DM yq6 (DD all_nil all_nil) (fun a h=>YH9 a.1 a.2.1 a.2.2)
def jP:List D→Option D:=Dq (α:=Int) (fun a=>[I J a]) (fun a=>True) (fun a=>V (decide (HW a)))
theorem Yps(n:Int):jP [I J n]=s_ (V (decide (HW n))):=
 DK (fun a b h=>by simp only[Aa,D.int.injEq,true_and,and_true]at h; simp[h]) (n) trivial
theorem YIc(n:Int):@wW GG (tb [(81,TG)] []) bN.code (Dm [I J n]) [] ⟨Ds bN.res (V (decide (HW n)))⟩:=by
 have hb:=Rd n (-9007199254740992) 9007199254740992;unfold bN;rw[show decide (HW n)=decide (-9007199254740992≤n∧n≤9007199254740992)from rfl];generalize decide (-9007199254740992≤n∧n≤9007199254740992)=q at*
 push_cast(disch:=lia)[hb]
theorem YN5:Contract Tryz.prog GG 130 jP:=
 DM yru (DD (all_cons gC all_nil) all_nil) (fun a h=>YIc a)
def dC:List D→Option D:=Dq (α:=Cse) (fun a=>[Dt a]) (fun a=>True) (fun a=>V (decide (IB a)))
theorem Yo9(x:Cse):dC [Dt x]=s_ (V (decide (IB x))):=
 DK (fun a b h=>by simp only[Aa,and_true,IS]at h; simp[h]) (x) trivial
theorem YHm(x:Cse):@wW GG (tb [] []) bl.code (Dm [Dt x]) [] ⟨Ds bl.res (V (decide (IB x)))⟩:=by
 unfold bl
 by_cases E:x.ph=4
 ·rw[decide_eq_true (show IB x from .inl E)]
  push_cast(disch:=lia)[DT,E3,eq_true E,decide_true]
 ·by_cases M:x.ph=5
  ·rw[decide_eq_true (show IB x from .inr (.inl M))]
   push_cast(disch:=lia)[DT,E3,eq_false E,eq_true M,decide_true,decide_false]
  ·by_cases N:x.ph=6
   ·rw[decide_eq_true (show IB x from .inr (.inr N))]
    push_cast(disch:=lia)[DT,E3,eq_false E,eq_false M,eq_true N,decide_true,decide_false]
   ·rw[decide_eq_false (show ¬ IB x by unfold IB; omega)]
    push_cast(disch:=lia)[DT,E3,eq_false E,eq_false M,eq_false N,decide_false]
theorem YNi:Contract Tryz.prog GG 37 dC:=
 DM yv3 (DD all_nil all_nil) (fun a h=>YHm a)
def dE:List D→Option D:=Dq (α:=Cse) (fun a=>[Dt a]) (fun a=>True) (fun a=>V (decide (GJ a)))
theorem uu(x:Cse):dE [Dt x]=s_ (V (decide (GJ x))):=
 DK (fun a b h=>by simp only[Aa,and_true,IS]at h; simp[h]) (x) trivial
theorem YHi(x:Cse):@wW GG (tb [(81,TG)] []) ck.code (Dm [Dt x]) [] ⟨Ds ck.res (V (decide (GJ x)))⟩:=by
 have hb:=Rd x.ph 1 3;unfold ck;rw[show decide (GJ x)=decide (1≤x.ph∧x.ph≤3) by rw[decide_eq_decide]; unfold GJ; omega];generalize decide (1≤x.ph∧x.ph≤3)=q at*
 push_cast(disch:=lia)[DT,E3,hb]
theorem zY:Contract Tryz.prog GG 80 dE:=
 DM yq5 (DD (all_cons gC all_nil) all_nil) (fun a h=>YHi a)
def Q0:List D→Option D:=Dq (α:=Cse×Int) (fun a=>[Dt a.1,I J a.2]) (fun a=>a.2=-1∨a.2=0∨a.2=1) (fun a=>Dt (EX a.1 a.2))
theorem O5(x:Cse)(p:Int)(h:p=-1∨p=0∨p=1):Q0 [Dt x,I J p]=s_ (Dt (EX x p)):=
 DK (fun⟨a0,a1⟩ ⟨b0,b1⟩ h=>by simp only[Aa,D.int.injEq,true_and,and_true,IS]at h; simp[h]) (x,p) h
theorem YHd(x:Cse)(p:Int)(h:p=-1∨p=0∨p=1):@wW GG (tb [] []) bP.code (Dm [Dt x,I J p]) [] ⟨Ds bP.res (Dt (EX x p))⟩:=by
 unfold bP;rcases h with rfl|rfl|rfl
 ·rw[show EX x (-1)={x with ph:=4,wn:=-1,am:=0} from rfl]
  push_cast(disch:=lia)[DT,Fj,Gm,Eh,Li,QS,RM,EK,Et]
 ·rw[show EX x 0={x with ph:=4,wn:=0,am:=x.a0} from rfl]
  push_cast(disch:=lia)[DT,Fj,Gm,Eh,RG,Li,QS,RM,EK,Et,Em]
 ·rw[show EX x 1={x with ph:=4,wn:=1,am:=x.a1} from rfl]
  push_cast(disch:=lia)[DT,Fj,Gm,Eh,S7,Li,QS,RM,EK,Et,Em]
theorem UF:Contract Tryz.prog GG 87 Q0:=
 DM ytn (DD all_nil all_nil) (fun a h=>YHd a.1 a.2 h)
def dw:List D→Option D:=Dq (α:=Cse×Int) (fun a=>[Dt a.1,I J a.2]) (fun a=>True) (fun a=>Dt (HY a.1 a.2))
theorem mK(x:Cse)(n:Int):dw [Dt x,I J n]=s_ (Dt (HY x n)):=
 DK (fun⟨a0,a1⟩ ⟨b0,b1⟩ h=>by simp only[Aa,D.int.injEq,true_and,and_true,IS]at h; simp[h]) (x,n) trivial
theorem YHu(x:Cse)(n:Int):@wW GG (tb [] []) cC.code (Dm [Dt x,I J n]) [] ⟨Ds cC.res (Dt (HY x n))⟩:=by
 unfold cC
 by_cases E:x.a0=n
 ·rw[show HY x n={x with ph:=4,wn:=0,am:=n} by unfold HY ML II; rw[if_pos E]]
  push_cast(disch:=lia)[DT,Fj,Gm,Eh,RG,Li,QS,RM,EK,Et,Em,eq_true E,decide_true]
 ·by_cases M:x.a1=n
  ·rw[show HY x n={x with ph:=4,wn:=1,am:=n} by unfold HY ML II; rw[if_neg E,if_pos M]]
   push_cast(disch:=lia)[DT,Fj,Gm,Eh,RG,S7,Li,QS,RM,EK,Et,Em,eq_false E,eq_true M,decide_true,decide_false]
  ·rw[show HY x n={x with ph:=4,wn:=-1,am:=n} by unfold HY ML II; rw[if_neg E,if_neg M]]
   push_cast(disch:=lia)[DT,Fj,Gm,Eh,RG,S7,Li,QS,RM,EK,Et,Em,eq_false E,eq_false M,decide_false]
theorem zq:Contract Tryz.prog GG 132 dw:=
 DM yrs (DD all_nil all_nil) (fun a h=>YHu a.1 a.2)
def TI:List D→Option D:=Dq (α:=Cse×Int) (fun a=>[Dt a.1,I J a.2]) (fun a=>True) (fun a=>.tup [I J (Fw a.1 a.2).1,V (Fw a.1 a.2).2])
theorem mM(x:Cse)(p:Int):TI [Dt x,I J p]=s_ (.tup [I J (Fw x p).1,V (Fw x p).2]):=
 DK (fun⟨a0,a1⟩ ⟨b0,b1⟩ h=>by simp only[Aa,D.int.injEq,true_and,and_true,IS]at h; simp[h]) (x,p) trivial
theorem YHk(x:Cse)(p:Int):@wW GG (tb [(81,TG),(89,Qh),(90,VD)] []) bY.code (Dm [Dt x,I J p]) [] ⟨Ds bY.res (.tup [I J (Fw x p).1,V (Fw x p).2])⟩:=by
 have E:Qh [U (I J x.c0.1::Dj x.c0.2),U (I J x.c1.1::Dj x.c1.2)]=s_ (.tup [D3 (IL x.c0 x.c1),I J (FV x.c0 x.c1)]):=oo x.c0 x.c1;have N:=nK x.b;have hb:=Rd p 0 1;unfold bY
 by_cases h1:x.ph=3
 ·have g1:=eq_true h1
  by_cases h2:p=0∨p=1
  ·have hr:=m9 (x:=x) h2;rw[decide_eq_true (show 0≤p∧p≤1 by omega)]at hb;have e:Fw x p=if F3 x p=0 then(0,f_)else(F3 x p - 1,t_):=if_pos ⟨h1,h2⟩
   by_cases h3:FV x.c0 x.c1=380
   ·have en:F3 x p=(E2 x p).1:=if_pos h3;rw[en]at e hr;obtain⟨⟨q0,q1,_⟩,q2,q3,_⟩:=YX (a:=x.c0) (b:=x.c1) (by omega);rw[h3]at E;have n0:0≤(E2 x p).1:=by unfold E2; split <;> omega
    have n1:(E2 x p).1≤65536:=by unfold E2; split <;> omega
    have key:Fw x p=(max ((E2 x p).1 - 1) 0,decide (0<(E2 x p).1)):=by
     rw[e]
     by_cases M:(E2 x p).1=0
     ·rw[if_pos M,M]; rfl
     ·grind
    rw[key];rcases h2 with rfl|rfl
    ·have ec:(E2 x 0).1=x.c0.1:=rfl;rw[ec]
     push_cast(disch:=lia)[DT,E3,HM,HN,qh,Em,g1,decide_true,hb,E,decide_false,EI]
    ·have ec:(E2 x 1).1=x.c1.1:=rfl;rw[ec]
     push_cast(disch:=lia)[DT,E3,HM,HN,qt,Em,g1,decide_true,hb,E,decide_false,EI]
   ·by_cases h5:FV x.c0 x.c1=0
    ·have en:F3 x p=Iy x.b:=by unfold F3; rw[if_neg h3,if_pos h5]
     rw[en]at e hr;rw[h5]at E
     cases ab:Kn x.b with
     |false=>
      have h0:Iy x.b=0:=by unfold Iy; rw[ab]; rfl
      rw[if_pos h0]at e;rw[e];rw[ab,h0]at N
      push_cast(disch:=lia)[DT,E3,HM,HN,Jf,Em,g1,decide_true,hb,E,decide_false,N,Ax]
     |true=>
      rw[ab]at N
      by_cases M:Iy x.b=0
      ·rw[if_pos M]at e;rw[e];rw[M]at N
       push_cast(disch:=lia)[DT,E3,HM,HN,Jf,Em,g1,decide_true,hb,E,decide_false,N,At]
      ·rw[if_neg M]at e;rw[e];have g4:=eq_false M;generalize Iy x.b=k at*
       push_cast(disch:=lia)[DT,E3,HM,HN,Jf,Em,g1,decide_true,hb,E,decide_false,N,At,g4,EI]
    ·have h6:FV x.c0 x.c1=1:=by have:=kO x.c0 x.c1; omega
     have en:F3 x p=0:=by unfold F3; rw[if_neg h3,if_neg h5]
     rw[en,if_pos rfl]at e;rw[e];rw[h6]at E
     push_cast(disch:=lia)[DT,E3,HM,HN,Em,g1,decide_true,hb,E]
  ·rw[decide_eq_false (show ¬ (0≤p∧p≤1) by omega)]at hb;rw[show Fw x p=(0,f_)from if_neg (fun q=>h2 q.2)]
   push_cast(disch:=lia)[DT,E3,g1,decide_true,hb]
 ·have g1:=eq_false h1;rw[show Fw x p=(0,f_)from if_neg (fun q=>h1 q.1)]
  push_cast(disch:=lia)[DT,E3,g1,decide_false]
theorem pO:Contract Tryz.prog GG 35 TI:=
 DM yq7 (DD (all_cons gC (all_cons kU (all_cons jl all_nil))) all_nil) (fun a h=>YHk a.1 a.2)
def Ge(r:Cse×Int):Cse:=if r.2=0 then r.1 else Fb
theorem YKp(a:Int)(d:Dig)(lent:Bool):DJ (s_ ⟨f_,1,I J a::Dj d,lent⟩) 1 f_ 0=s_ (I J a):=(rfl)
theorem Yva(E:Dig×Dig)(d:Dig):Jr E d=-1∨Jr E d=0∨Jr E d=1:=by unfold Jr;omega
theorem Qz(a b c d:Dig):Eb (s_ ⟨f_,1,E9 a b,f_⟩) 64 0 (U (E9 c d))=s_ ⟨f_,1,E9 c d,f_⟩:=
 LQ 1 _ _ 64 (mP (a,b)) (mP (c,d)) (Yob (c,d))
theorem TT(a b:Dig)(lent:Bool):DJ (s_ ⟨f_,1,E9 a b,lent⟩) 64 t_ 0=s_ (GH (a,b)):=Pc lent (a,b)
theorem YEl:Ed EJ []=s_ EJ:=(rfl)
theorem JT:Ed EJ []=s_ (Du Fb (O 0 [] t_)):=YEl.trans (congrArg s_ J6)
theorem JQ:Eb (s_ ⟨f_,1,Du Fb (O 0 [] t_),f_⟩) 279 0 (U (Du Fb (O 0 [] t_)))=s_ ⟨f_,1,Du Fb (O 0 [] t_),f_⟩:=
 LQ 1 _ _ 279 (LW _ _) (LW _ _) (Oo _ rfl)
theorem JR(st:St):Ej st (U (Du Fb (O 0 [] t_)))=s_ (Dt Fb):=Nx st Fb rfl
def dS:List D→Option D:=Dq (α:=List Ins×(Int×List Int)×Cse×Int) (fun a=>[O (nz 3 (a.1.map Dk)) (a.1.map Dk) f_,D6 a.2.1,Dt a.2.2.1,I J a.2.2.2]) (fun a=>a.1.length≤4294967296∧ED a.2.1∧0≤a.2.2.2∧a.2.2.2≤1073741824) (fun a=>.tup [Dt (Ge (G8 a.1 a.2.1 a.2.2.1 a.2.2.2)),I J (G8 a.1 a.2.1 a.2.2.1 a.2.2.2).2])
theorem uo(c:List Ins)(v:Int×List Int)(x:Cse)(now:Int)(h:c.length≤4294967296∧ED v∧0≤now∧now≤1073741824):dS [O (nz 3 (c.map Dk)) (c.map Dk) f_,D6 v,Dt x,I J now]=s_ (.tup [Dt (Ge (G8 c v x now)),I J (G8 c v x now).2]):=
 DK (fun⟨a0,a1,E,M⟩ ⟨b0,b1,N,b3⟩ h=>by simp only[Aa,D.slc.injEq,D.int.injEq,true_and,and_true,Ha,Hz,IS]at h; simp[h]) (c,v,x,now) h
theorem YH3(c:List Ins)(v:Int×List Int)(x:Cse)(now:Int)(h:c.length≤4294967296∧ED v∧0≤now∧now≤1073741824):@wW GG (tb [(90,VD),(15,kD),(87,Q0)] []) aX.code (Dm [O (nz 3 (c.map Dk)) (c.map Dk) f_,D6 v,Dt x,I J now]) [] ⟨Ds aX.res (.tup [Dt (Ge (G8 c v x now)),I J (G8 c v x now).2])⟩:=by
 obtain⟨hc,hv,ah,a0⟩:=h;have M:=nK x.b;unfold aX
 cases E:Kn x.b with
 |false=>
  rw[E]at M;rw[show G8 c v x now=(x,0) by unfold G8; rw[E]; rfl,show Ge (x,0)=x from rfl];simp(disch:=first|omega|decide) only[push_cast,↓reduceIte,CW,CY,DT,Fj,Gm,Eh,Jf,EK,Et,D5,M,Qz,Ax]
 |true=>
  rw[E]at M
  by_cases h0:Iy x.b=0
  ·have cf:=Ypi c v (G4 x.b,G2 x.b) ⟨hc,hv⟩
   have es:G8 c v x now=if(FM c v).2=0 then(EX x (FK (G4 x.b,G2 x.b) (FM c v)).1,0)else(x,(FM c v).2):=by
    unfold G8; rw[if_pos E,if_pos h0]
   rw[es];rw[h0]at M;unfold El at cf
   by_cases N:(FM c v).2=0
   ·rw[if_pos N];have hj:(FK (G4 x.b,G2 x.b) (FM c v)).1=Jr (G4 x.b,G2 x.b) (FM c v).1:=by unfold FK; rw[if_pos N]
    have hp:=Yva (G4 x.b,G2 x.b) (FM c v).1;rw[← hj]at hp;have cr:=O5 x _ hp;rw[N]at cf;generalize FK (G4 x.b,G2 x.b) (FM c v)=w at*;rw[show Ge (EX x w.1,0)=EX x w.1 from rfl];generalize EX x w.1=y at*;simp(disch:=first|omega|decide) only[push_cast,↓reduceIte,CW,CY,DT,Fj,Gm,Eh,Jf,EK,Et,Gn,D5,M,Qz,TT,At,decide_true,Fu hv,Fa,GO,Nh,Tv,cf,pQ,Kl,YKp,cr]
   ·rw[if_neg N,show Ge (x,(FM c v).2)=Fb from if_neg N];have ad:=eq_false N;generalize FK (G4 x.b,G2 x.b) (FM c v)=w at*;generalize (FM c v).2=e at*;simp(disch:=first|omega|decide) only[push_cast,↓reduceIte,CW,CY,DT,Fj,Eh,Jf,D5,M,Qz,TT,At,decide_true,decide_false,Fu hv,Fa,GO,Nh,Tv,cf,pQ,Kl,ad,JT,JQ,JR]
  ·rw[show G8 c v x now=(OF x now,0) by unfold G8; rw[if_pos E,if_neg h0],show Ge (OF x now,0)={x with ph:=3,dl:=now+1440} from rfl];have ae:=eq_false h0;generalize Iy x.b=k at*;simp(disch:=first|omega|decide) only[push_cast,↓reduceIte,CW,CY,DT,Fj,Gm,Eh,Jf,Li,UZ,EK,Et,D5,M,Qz,At,ae,decide_false,DQ]
theorem zp:Contract Tryz.prog GG 131 dS:=
 DM ytp (DD (all_cons jl (all_cons YNr (all_cons UF all_nil))) all_nil) (fun a h=>YH3 a.1 a.2.1 a.2.2.1 a.2.2.2 h)
def j4:List D→Option D:=Dq (α:=Int) (fun a=>[I J a]) (fun a=>0≤a∧a≤60) (fun a=>I J (2 ^ a.toNat))
theorem Yo4(n:Int)(h:0≤n∧n≤60):j4 [I J n]=s_ (I J (2 ^ n.toNat)):=
 DK (fun a b h=>by simp only[Aa,D.int.injEq,true_and,and_true]at h; simp[h]) (n) h
theorem YHe(n:Int)(h:0≤n∧n≤60):@wW GG (tb [] []) bO.code (Dm [I J n]) [] ⟨Ds bO.res (I J (2 ^ n.toNat))⟩:=by
 obtain⟨M,N⟩:=h;unfold bO;simp(disch:=omega) only[push_cast];refine E0 (fun i:Nat=>[(0,I J n),(3,I J (2 ^ i)),(4,I J (i:Int))]) (fun _=>[]) (fun i=>(i:Int)≤n) (fun i=>(n - i).toNat) 0 (by push_cast [↓CX] <;> rfl) (by omega) ?_;intro i hi;unfold tD;simp(disch:=omega) only[push_cast,↓reduceIte,CW];refine Ew (fun E=>?_) (fun E=>?_)
 ·have p1:=Q6 (a:=i) (b:=59) (by omega);have p2:=eD i;have e:(2:Int)*2 ^ i=2 ^ (i+1):=by rw[Int.pow_succ]; omega
  push_cast(disch:=lia)[IA,DQ]
  refine EB (i+1) (by omega) (by omega) ?_;grind
 ·obtain rfl:(i:Int)=n:=by omega
  simp(disch:=omega) only[push_cast,↓reduceIte,CW,E]
theorem YNd:Contract Tryz.prog GG 135 j4:=
 DM yto (DD all_nil all_nil) (fun a h=>YHe a h)
section
variable (m:Mv) (sz:Nat) (lent:Bool)
theorem QO:DJ (s_ ⟨f_,sz,GW m,lent⟩) 1 f_ 2=s_ (I J m.am):=G6 (l:=Jn m) rfl rfl (L2 m)
theorem UL:DJ (s_ ⟨f_,sz,GW m,lent⟩) 33 t_ 3=s_ (U (I J m.cm.1::Dj m.cm.2)):=Ii (l:=Jn m) rfl rfl (L2 m) (by simp[Dy,Sg.cs])
theorem p6:DJ (s_ ⟨f_,sz,GW m,lent⟩) 32 t_ 36=s_ (Dl m.lf):=Ii (l:=Jn m) rfl rfl (L2 m) (by simp[Dy,Sg.cs,Dl])
theorem p7:DJ (s_ ⟨f_,sz,GW m,lent⟩) 32 t_ 68=s_ (Dl m.rt):=Ii (l:=Jn m) rfl rfl (L2 m) (by simp[Dy,Sg.cs,Dl])
theorem Ob:DJ (s_ ⟨f_,sz,GW m,lent⟩) 38 t_ 100=s_ (DU m.op):=Ii (l:=Jn m) rfl rfl (L2 m) (by rw[DU,← dq]; rfl)
theorem cS:DJ (s_ ⟨f_,sz,GW m,lent⟩) 1 f_ 102=s_ (I J m.op.status):=G6 (l:=Jn m) rfl rfl (L2 m)
theorem YCw:DJ (s_ ⟨f_,sz,GW m,lent⟩) 1 f_ 104=s_ (EA m.op.top):=G6 (l:=Jn m) rfl rfl (L2 m)
theorem Yb7:DJ (s_ ⟨f_,sz,GW m,lent⟩) 1 f_ 138=s_ (JF m.path):=G6 (l:=Jn m) rfl rfl (L2 m)
theorem YCx:DJ (s_ ⟨f_,sz,GW m,lent⟩) 5 t_ 139=s_ (D8 m.key):=Ii (l:=Jn m) rfl rfl (L2 m) rfl
end
def jQ:List D→Option D:=Dq (α:=List Ins×(Int×List Int)×Cse×Mv×Int) (fun a=>[O (nz 3 (a.1.map Dk)) (a.1.map Dk) f_,D6 a.2.1,Dt a.2.2.1,Fy a.2.2.2.1,I J a.2.2.2.2]) (fun a=>(a.1.length≤4294967296∧ED a.2.1∧0≤a.2.2.2.2∧a.2.2.2.2≤1073741824)∧a.2.2.2.1.pt=1∧a.2.2.1.ph=1) (fun a=>.tup [Dt (Ge (Jd a.1 a.2.1 a.2.2.1 a.2.2.2.1 a.2.2.2.2)),I J (Jd a.1 a.2.1 a.2.2.1 a.2.2.2.1 a.2.2.2.2).2])
theorem Ypr(c:List Ins)(v:Int×List Int)(x:Cse)(m:Mv)(now:Int)(h:(c.length≤4294967296∧ED v∧0≤now∧now≤1073741824)∧m.pt=1∧x.ph=1):jQ [O (nz 3 (c.map Dk)) (c.map Dk) f_,D6 v,Dt x,Fy m,I J now]=s_ (.tup [Dt (Ge (Jd c v x m now)),I J (Jd c v x m now).2]):=
 DK (fun⟨a0,a1,E,M,N⟩ ⟨b0,b1,b2,b3,b4⟩ h=>by simp only[Aa,D.slc.injEq,D.int.injEq,true_and,and_true,Ha,Hz,IS,OQ]at h; simp[h]) (c,v,x,m,now) h
theorem YIb(c:List Ins)(v:Int×List Int)(x:Cse)(m:Mv)(now:Int)(h:(c.length≤4294967296∧ED v∧0≤now∧now≤1073741824)∧m.pt=1∧x.ph=1):@wW GG (tb [(130,jP),(89,Qh),(131,dS),(87,Q0),(132,dw)] []) cB.code (Dm [O (nz 3 (c.map Dk)) (c.map Dk) f_,D6 v,Dt x,Fy m,I J now]) [] ⟨Ds cB.res (.tup [Dt (Ge (Jd c v x m now)),I J (Jd c v x m now).2])⟩:=by
 obtain⟨⟨hc,hv,a2,a3⟩,ac,ad⟩:=h;have E:=Yps m.am;unfold cB
 by_cases ha:HW m.am
 ·rw[decide_eq_true ha]at E;obtain⟨y,N⟩:∃ y:Cse,{x with a1:=m.am,c1:=m.cm}=y:=⟨_,rfl⟩
  have e:Jd c v x m now=if FV x.c0 m.cm=1 then(y,381)else if FV x.c0 m.cm=0 then G8 c v {y with b:=IL x.c0 m.cm,ph:=2,dl:=now+1440} now else if x.a0=m.am then(EX y 1,0)else if c.length=0 then(HY y 0,0)else(OF y now,0):=by
   unfold Jd; rw[if_pos ⟨ac,ad⟩,if_pos ha,← N]
  have M:Qh [U (I J x.c0.1::Dj x.c0.2),U (I J m.cm.1::Dj m.cm.2)]=s_ (.tup [D3 (IL x.c0 m.cm),I J (FV x.c0 m.cm)]):=oo x.c0 m.cm;rw[e];generalize IL x.c0 m.cm=bb at*
  by_cases h1:FV x.c0 m.cm=1
  ·rw[if_pos h1,show Ge (y,381)=Fb from rfl];rw[h1]at M;simp(disch:=first|omega|decide) only[push_cast,↓reduceIte,CW,CY,Dd,DT,Fj,Eh,HM,HN,UX,UY,Em,D5,EV,QO,UL,E,At,M,decide_true,JT,JQ,JR]
  ·rw[if_neg h1]
   by_cases h0:FV x.c0 m.cm=0
   ·rw[if_pos h0];rw[h0]at M;have ce:=uo c v {y with b:=bb,ph:=2,dl:=now+1440} now ⟨hc,hv,a2,a3⟩;rw[← N]at ce ⊢;generalize G8 c v _ now=r at*;simp(disch:=first|omega|decide) only[push_cast,↓reduceIte,CW,CY,Dd,DT,Fj,Gm,Eh,HM,HN,Li,UZ,UX,UY,rE,EK,Et,Gn,Em,D5,EV,QO,UL,E,At,M,Di,decide_true,decide_false,DQ,Fu hv,Fa,GO,ce]
   ·rw[if_neg h0];rw[show FV x.c0 m.cm=380 by have:=kO x.c0 m.cm; omega]at M
    by_cases h2:x.a0=m.am
    ·rw[if_pos h2,show Ge (EX y 1,0)=EX y 1 from rfl];have cr:=O5 y 1 (.inr (.inr rfl));generalize EX y 1=z at*;rw[← N]at cr;simp(disch:=first|omega|decide) only[push_cast,↓reduceIte,CW,CY,Dd,DT,Fj,Gm,Eh,RG,S7,HM,HN,UX,UY,EK,Et,Gn,Em,D5,EV,QO,UL,E,At,M,Di,decide_true,decide_false,eq_true h2,cr]
    ·rw[if_neg h2];have ae:=eq_false h2
     by_cases h3:c.length=0
     ·rw[if_pos h3,show Ge (HY y 0,0)=HY y 0 from rfl];have cj:=mK y 0;generalize HY y 0=z at*;rw[← N]at cj;have aa:((c.length:Int)=0)=True:=eq_true (by omega);simp(disch:=first|omega|decide) only[push_cast,↓reduceIte,CW,CY,Dd,DT,Fj,Gm,Eh,RG,S7,HM,HN,UX,UY,EK,Et,Gn,Em,D5,EV,QO,UL,E,At,M,Di,decide_true,decide_false,ae,aa,cj]
     ·rw[if_neg h3,show Ge (OF y now,0)={y with ph:=3,dl:=now+1440} from rfl,← N];have aa:((c.length:Int)=0)=False:=YYF;simp(disch:=first|omega|decide) only[push_cast,↓reduceIte,CW,CY,Dd,DT,Fj,Gm,Eh,RG,S7,HM,HN,Li,UZ,UX,UY,EK,Et,Em,D5,EV,QO,UL,E,At,M,Di,decide_false,ae,aa,DQ]
 ·rw[decide_eq_false ha]at E;rw[show Jd c v x m now=(x,1) by unfold Jd; rw[if_pos ⟨ac,ad⟩,if_neg ha],show Ge (x,1)=Fb from rfl];simp(disch:=first|omega|decide) only[push_cast,↓reduceIte,CW,CY,DT,Fj,Eh,D5,EV,QO,E,Ax,JT,JQ,JR]
theorem YN4:Contract Tryz.prog GG 83 jQ:=
 DM yrt (DD (all_cons YN5 (all_cons kU (all_cons zp (all_cons UF (all_cons zq all_nil))))) all_nil) (fun a h=>YIb a.1 a.2.1 a.2.2.1 a.2.2.2.1 a.2.2.2.2 h)
def jW:List D→Option D:=Dq (α:=List Ins×(Int×List Int)×Cse×Mv×Int) (fun a=>[O (nz 3 (a.1.map Dk)) (a.1.map Dk) f_,D6 a.2.1,Dt a.2.2.1,Fy a.2.2.2.1,I J a.2.2.2.2]) (fun a=>(a.1.length≤4294967296∧ED a.2.1∧0≤a.2.2.2.2∧a.2.2.2.2≤1073741824)∧(a.2.2.2.1.pt=0∨a.2.2.2.1.pt=1)∧a.2.2.1.ph=2) (fun a=>.tup [Dt (Ge (KA a.1 a.2.1 a.2.2.1 a.2.2.2.1 a.2.2.2.2)),I J (KA a.1 a.2.1 a.2.2.1 a.2.2.2.1 a.2.2.2.2).2])
theorem Ypn(c:List Ins)(v:Int×List Int)(x:Cse)(m:Mv)(now:Int)(h:(c.length≤4294967296∧ED v∧0≤now∧now≤1073741824)∧(m.pt=0∨m.pt=1)∧x.ph=2):jW [O (nz 3 (c.map Dk)) (c.map Dk) f_,D6 v,Dt x,Fy m,I J now]=s_ (.tup [Dt (Ge (KA c v x m now)),I J (KA c v x m now).2]):=
 DK (fun⟨a0,a1,E,M,N⟩ ⟨b0,b1,b2,b3,b4⟩ h=>by simp only[Aa,D.slc.injEq,D.int.injEq,true_and,and_true,Ha,Hz,IS,OQ]at h; simp[h]) (c,v,x,m,now) h
theorem YH4(c:List Ins)(v:Int×List Int)(x:Cse)(m:Mv)(now:Int)(h:(c.length≤4294967296∧ED v∧0≤now∧now≤1073741824)∧(m.pt=0∨m.pt=1)∧x.ph=2):@wW GG (tb [(133,mz),(131,dS)] []) cA.code (Dm [O (nz 3 (c.map Dk)) (c.map Dk) f_,D6 v,Dt x,Fy m,I J now]) [] ⟨Ds cA.res (.tup [Dt (Ge (KA c v x m now)),I J (KA c v x m now).2])⟩:=by
 obtain⟨⟨hc,hv,ab,ac⟩,af,ad⟩:=h;have M:=Yg7 x.b m.pt m.lf m.rt (by omega);unfold cA
 have e:KA c v x m now=if EZ x.b m.pt m.lf m.rt=0 then(if(ET x.b m.pt m.lf m.rt).r=x.b.r then({x with b:=ET x.b m.pt m.lf m.rt},0)else G8 c v {x with b:=ET x.b m.pt m.lf m.rt,dl:=now+1440} now)else(x,EZ x.b m.pt m.lf m.rt):=by
  unfold KA; rw[if_pos ad]
 rw[e];generalize ET x.b m.pt m.lf m.rt=N at*
 by_cases E:EZ x.b m.pt m.lf m.rt=0
 ·rw[if_pos E];rw[E]at M
  by_cases h1:N.r=x.b.r
  ·rw[if_pos h1,show Ge ({x with b:=N},0)={x with b:=N} from rfl];simp(disch:=first|omega|decide) only[push_cast,↓reduceIte,CW,CY,DT,Fj,Gm,Eh,Jf,zH,rE,EK,Et,D5,EV,FN,p6,p7,M,eq_true h1,decide_true]
  ·rw[if_neg h1];have ce:=uo c v {x with b:=N,dl:=now+1440} now ⟨hc,hv,ab,ac⟩;generalize G8 c v _ now=r at*;simp(disch:=first|omega|decide) only[push_cast,↓reduceIte,CW,CY,DT,Fj,Gm,Eh,Jf,zH,UZ,rE,EK,Et,Gn,D5,EV,FN,p6,p7,M,eq_false h1,decide_false,DQ,Fu hv,Fa,GO,ce]
 ·rw[if_neg E,show Ge (x,EZ x.b m.pt m.lf m.rt)=Fb from if_neg E];have ae:=eq_false E;generalize EZ x.b m.pt m.lf m.rt=e1 at*;simp(disch:=first|omega|decide) only[push_cast,↓reduceIte,CW,CY,DT,Fj,Eh,Jf,D5,EV,FN,p6,p7,M,ae,decide_false,JT,JQ,JR]
theorem YNx:Contract Tryz.prog GG 84 jW:=
 DM ypx (DD (all_cons YFi (all_cons zp all_nil)) all_nil) (fun a h=>YH4 a.1 a.2.1 a.2.2.1 a.2.2.2.1 a.2.2.2.2 h)
theorem zJ(x:Cse)(m:Mv)(sz:Nat)(lent:Bool)(h:m.pt=0∨m.pt=1):DJ (s_ ⟨f_,sz,Du x (DG x.jn),lent⟩) 33 t_ (11+m.pt.toNat*33)=s_ (U (I J (E2 x m.pt).1::Dj (E2 x m.pt).2)):=by
 rcases h with h|h
 ·rw[h,show E2 x 0=x.c0 from rfl]; exact HM ..
 ·rw[h,show E2 x 1=x.c1 from rfl]; exact HN ..
def Pb(c:List Ins)(v:Int×List Int)(x:Cse)(m:Mv)(i:Int):Cse×Int:=
 if Ga (E2 x m.pt) i (Gy c v m.op) m.path=t_ then
  if m.op.status≠0∧(m.op.status≠1∨0<m.op.top.length)then(HY x (if m.op.status=1 then Qx m.op.top else 0),0)
  else(x,390)
 else(x,40)
theorem YDk(st:St)(l:List Int)(h:0<l.length):GK st 1 (O (nz 1 (l.map nI)) (l.map nI) f_) (I J ((l.length:Int) - 1))=s_ (.eptr (nI (Qx l)) 0):=by have:=RF st l f_ (l.length - 1) (by omega);rw[show((l.length - 1:Nat):Int)=(l.length:Int) - 1 by omega]at this;exact this
def kI:List D→Option D:=Dq (α:=List Ins×(Int×List Int)×Cse×Mv×Int) (fun a=>[O (nz 3 (a.1.map Dk)) (a.1.map Dk) f_,D6 a.2.1,Dt a.2.2.1,Fy a.2.2.2.1,I J a.2.2.2.2]) (fun a=>(a.1.length≤4294967296∧ED a.2.1∧a.2.2.2.1.op.top.length≤4294967295)∧(a.2.2.2.1.pt=0∨a.2.2.2.1.pt=1)∧(-9223372036854775808≤a.2.2.2.2∧a.2.2.2.2<9223372036854775808)) (fun a=>.tup [Dt (Ge (Pb a.1 a.2.1 a.2.2.1 a.2.2.2.1 a.2.2.2.2)),I J (Pb a.1 a.2.1 a.2.2.1 a.2.2.2.1 a.2.2.2.2).2])
theorem Ypd(c:List Ins)(v:Int×List Int)(x:Cse)(m:Mv)(i:Int)(h:(c.length≤4294967296∧ED v∧m.op.top.length≤4294967295)∧(m.pt=0∨m.pt=1)∧(-9223372036854775808≤i∧i<9223372036854775808)):kI [O (nz 3 (c.map Dk)) (c.map Dk) f_,D6 v,Dt x,Fy m,I J i]=s_ (.tup [Dt (Ge (Pb c v x m i)),I J (Pb c v x m i).2]):=
 DK (fun⟨a0,a1,E,M,N⟩ ⟨b0,b1,b2,b3,b4⟩ h=>by simp only[Aa,D.slc.injEq,D.int.injEq,true_and,and_true,Ha,Hz,IS,OQ]at h; simp[h]) (c,v,x,m,i) h
theorem YHs(c:List Ins)(v:Int×List Int)(x:Cse)(m:Mv)(i:Int)(h:(c.length≤4294967296∧ED v∧m.op.top.length≤4294967295)∧(m.pt=0∨m.pt=1)∧(-9223372036854775808≤i∧i<9223372036854775808)):@wW GG (tb [(56,Vi),(137,S0),(132,dw)] []) br.code (Dm [O (nz 3 (c.map Dk)) (c.map Dk) f_,D6 v,Dt x,Fy m,I J i]) [] ⟨Ds br.res (.tup [Dt (Ge (Pb c v x m i)),I J (Pb c v x m i).2])⟩:=by
 obtain⟨⟨hc,hv,ht⟩,ad,hi⟩:=h;have N:=fl c v m.op ⟨hc,hv,by omega⟩;have ci:S0 [U (I J (E2 x m.pt).1::Dj (E2 x m.pt).2),I J i,Dl (Gy c v m.op),O (nz 32 (m.path.map Dl)) (m.path.map Dl) f_]=s_ (V (Ga (E2 x m.pt) i (Gy c v m.op) m.path)):=rO (E2 x m.pt) i (Gy c v m.op) m.path hi;have hs:=fun sz lent=>zJ x m sz lent ad;have ae:=mK x 0;have af:=mK x (Qx m.op.top);unfold br Pb;have lo:∀ lent,DJ (s_ ⟨f_,1,GW m,lent⟩) 1 f_ 138=s_ (O (nz 32 (m.path.map Dl)) (m.path.map Dl) f_):=fun lent=>Yb7 m 1 lent;have lt:∀ lent,DJ (s_ ⟨f_,1,GW m,lent⟩) 1 f_ 104=s_ (O (nz 1 (m.op.top.map nI)) (m.op.top.map nI) f_):=fun lent=>YCw m 1 lent;generalize Gy c v m.op=g at*;have a3:=N;have ah:Ge (x,40)=Fb:=rfl;have ab:Ge (x,390)=Fb:=rfl;have zj:∀ n,Ge (HY x n,0)=HY x n:=fun _=>rfl;have hlen:∀ st,EF st f_ (O (nz 1 (m.op.top.map nI)) (m.op.top.map nI) f_)=s_ (I J (m.op.top.length:Int)):=fun st=>by simp[EF,Iz,E7]
 have key:∀ q:Bool,Ga (E2 x m.pt) i g m.path=q→
   (if Ga (E2 x m.pt) i g m.path=t_ then(if m.op.status≠0∧(m.op.status≠1∨0<m.op.top.length)then(HY x (if m.op.status=1 then Qx m.op.top else 0),(0:Int))else(x,390))else(x,40))=
   if q=f_ then(x,40)else if m.op.status=0 then(x,390)else if m.op.status=1 then(if m.op.top.length=0 then(x,390)else(HY x (Qx m.op.top),0))else(HY x 0,0):=by
  intro q hq;rw[hq];cases q
  ·rfl
  ·simp only[reduceIte,Bool.true_eq_false]
   by_cases M:m.op.status=0
   ·rw[if_neg (fun q=>q.1 M),if_pos M]
   ·rw[if_neg M]
    by_cases E:m.op.status=1
    ·by_cases h2:m.op.top.length=0
     ·rw[YYN,if_pos E,if_pos h2]
     ·rw[if_pos (by omega),if_pos E,if_pos E,if_neg h2]
    ·rw[if_pos ⟨M,.inl E⟩,if_neg E,if_neg E]
 rw[key _ rfl];clear key;generalize Ga (E2 x m.pt) i g m.path=q at*;generalize E2 x m.pt=s at*;cases q
 ·rw[if_pos rfl,ah];simp(disch:=first|omega|decide) only[push_cast,↓reduceIte,CW,CY,DT,Fj,Eh,Em,D5,EV,FN,hs,Ob,lo,Fu hv,Fa,Gw,N,ci,Ax,JT,JQ,JR]
 ·rw[if_neg (fun q=>by cases q)]
  by_cases M:m.op.status=0
  ·rw[if_pos M,ab];have g0:=eq_true M;simp(disch:=first|omega|decide) only[push_cast,↓reduceIte,CW,CY,DT,Fj,Eh,Em,D5,EV,FN,hs,Ob,cS,lo,lt,Fu hv,Fa,Gw,N,ci,decide_true,At,JT,JQ,JR,hlen,g0]
  ·rw[if_neg M];have g0:=eq_false M
   by_cases E:m.op.status=1
   ·rw[if_pos E];have g1:=eq_true E
    by_cases h2:m.op.top.length=0
    ·rw[if_pos h2,ab];have g2:((m.op.top.length:Int)=0)=True:=eq_true (by omega);simp(disch:=first|omega|decide) only[push_cast,↓reduceIte,CW,CY,DT,Fj,Eh,Em,D5,EV,FN,hs,Ob,cS,lo,lt,Fu hv,Fa,Gw,N,ci,decide_true,decide_false,At,JT,JQ,JR,hlen,g0,g1,g2]
    ·rw[if_neg h2,zj];have g2:((m.op.top.length:Int)=0)=False:=YYF;have ix:=fun st=>YDk st m.op.top (by omega);generalize HY x (Qx m.op.top)=y at*;simp(disch:=first|omega|decide) only[push_cast,↓reduceIte,CW,CY,DT,Fj,Gm,Eh,EK,Et,Gn,Em,D5,EV,FN,hs,Ob,cS,lo,lt,Fu hv,Fa,Gw,N,ci,decide_true,decide_false,At,hlen,g0,g1,g2,EI,ix,KK,af]
   ·rw[if_neg E,zj];have g1:=eq_false E;generalize HY x 0=y at*;simp(disch:=first|omega|decide) only[push_cast,↓reduceIte,CW,CY,DT,Fj,Gm,Eh,EK,Et,Gn,Em,D5,EV,FN,hs,Ob,cS,lo,lt,Fu hv,Fa,Gw,N,ci,decide_false,At,hlen,g0,g1,ae]
theorem YNn:Contract Tryz.prog GG 134 kI:=
 DM yvy (DD (all_cons pN (all_cons xA (all_cons zq all_nil))) all_nil) (fun a h=>YHs a.1 a.2.1 a.2.2.1 a.2.2.2.1 a.2.2.2.2 h)
theorem UI(a:Int)(d:Dig)(lent:Bool):DJ (s_ ⟨f_,1,I J a::Dj d,lent⟩) 1 f_ 0=s_ (I J a):=(rfl)
def kM:List D→Option D:=Dq (α:=List Ins×(Int×List Int)×Cse×Mv) (fun a=>[O (nz 3 (a.1.map Dk)) (a.1.map Dk) f_,D6 a.2.1,Dt a.2.2.1,Fy a.2.2.2]) (fun a=>(a.1.length≤4294967296∧ED a.2.1∧a.2.2.2.op.top.length≤4294967295)∧(a.2.2.2.pt=0∨a.2.2.2.pt=1)∧(Fw a.2.2.1 a.2.2.2.pt).2=t_) (fun a=>.tup [Dt (Ge (JO a.1 a.2.1 a.2.2.1 a.2.2.2)),I J (JO a.1 a.2.1 a.2.2.1 a.2.2.2).2])
theorem Ypa(c:List Ins)(v:Int×List Int)(x:Cse)(m:Mv)(h:(c.length≤4294967296∧ED v∧m.op.top.length≤4294967295)∧(m.pt=0∨m.pt=1)∧(Fw x m.pt).2=t_):kM [O (nz 3 (c.map Dk)) (c.map Dk) f_,D6 v,Dt x,Fy m]=s_ (.tup [Dt (Ge (JO c v x m)),I J (JO c v x m).2]):=
 DK (fun⟨a0,a1,E,M⟩ ⟨b0,b1,N,b3⟩ h=>by simp only[Aa,D.slc.injEq,and_true,Ha,Hz,IS,OQ]at h; simp[h]) (c,v,x,m) h
theorem YHn(c:List Ins)(v:Int×List Int)(x:Cse)(m:Mv)(h:(c.length≤4294967296∧ED v∧m.op.top.length≤4294967295)∧(m.pt=0∨m.pt=1)∧(Fw x m.pt).2=t_):@wW GG (tb [(35,TI),(89,Qh),(134,kI),(56,Vi),(51,TH),(136,SI),(135,j4),(137,S0),(90,VD),(17,j7),(87,Q0)] []) cE.code (Dm [O (nz 3 (c.map Dk)) (c.map Dk) f_,D6 v,Dt x,Fy m]) [] ⟨Ds cE.res (.tup [Dt (Ge (JO c v x m)),I J (JO c v x m).2])⟩:=by
 obtain⟨⟨hc,hv,ht⟩,ba,ah⟩:=h;have cp:=mM x m.pt;rw[ah]at cp;obtain⟨i0,i1,nb⟩:=wP ah;obtain⟨⟨a0,a1,a2⟩,b0,b1,b2⟩:=YX nb;have cb:Qh [U (I J x.c0.1::Dj x.c0.2),U (I J x.c1.1::Dj x.c1.2)]=s_ (.tup [D3 (IL x.c0 x.c1),I J (FV x.c0 x.c1)]):=oo x.c0 x.c1;have hs:=fun sz lent=>zJ x m sz lent ba;have b5:0≤(E2 x m.pt).1∧(E2 x m.pt).1≤65536:=by unfold E2; split <;> omega
 have bd:0≤DW (E2 x m.pt).1:=by unfold E2; split <;> omega
 unfold cE
 by_cases h1:FV x.c0 x.c1=380
 ·rw[h1]at cb;have cl:=Ypd c v x m (Fw x m.pt).1 ⟨⟨hc,hv,ht⟩,ba,by omega⟩;have e:Pb c v x m (Fw x m.pt).1=JO c v x m:=by unfold JO Pb; rw[if_pos ah,if_pos h1]
  rw[e]at cl;generalize JO c v x m=w at*;generalize (Fw x m.pt).1=i at*;simp(disch:=first|omega|decide) only[push_cast,↓reduceIte,CW,CY,Dd,DT,Fj,Gm,Eh,HM,HN,EK,Et,Gn,Em,D5,EV,FN,KP,cp,cb,decide_true,Fu hv,Fa,GO,Q1,Ma,Vc,cl]
 ·have hb:=kO x.c0 x.c1;rw[show FV x.c0 x.c1=0 by omega]at cb;have cd:=nK x.b;have cl:=fl c v m.op ⟨hc,hv,by omega⟩;have ac:=fm;have cD:=Qm (E2 x m.pt).1;have dr:=SZ (E2 x m.pt).1;have cw:=Yo4 (DW (E2 x m.pt).1) ⟨bd,by omega⟩;have E:D4 (U (I J 0::Dj DH))=s_ (I J 0::Dj DH):=pQ 0 DH;have N:∀ lent,DJ (s_ ⟨f_,1,GW m,lent⟩) 1 f_ 138=s_ (O (nz 32 (m.path.map Dl)) (m.path.map Dl) f_):=fun lent=>Yb7 m 1 lent;obtain⟨B,hB⟩:∃ B,(if(E2 x m.pt).1≤(Fw x m.pt).1 then EP else Gy c v m.op)=B:=⟨_,rfl⟩
  have e:JO c v x m=if 2 ^ (DW (E2 x m.pt).1).toNat≤(Fw x m.pt).1∨Ga (E2 x m.pt) (Fw x m.pt).1 B m.path=t_ then(if(FJ c v B m.op).2=0 then(EX x (FK (G4 x.b,G2 x.b) (FJ c v B m.op)).1,0)else(x,(FJ c v B m.op).2))else(x,40):=by
   unfold JO; rw[if_pos ah,if_neg h1,← hB]
  rw[e];have ci:S0 [U (I J (E2 x m.pt).1::Dj (E2 x m.pt).2),I J (Fw x m.pt).1,Dl B,O (nz 32 (m.path.map Dl)) (m.path.map Dl) f_]=s_ (V (Ga (E2 x m.pt) (Fw x m.pt).1 B m.path)):=rO (E2 x m.pt) (Fw x m.pt).1 B m.path (by omega);have cs:=Yo1 c v B (G4 x.b,G2 x.b) m.op ⟨hc,hv,ht⟩;unfold El at cs;have hp:=iB (G4 x.b,G2 x.b) (FJ c v B m.op);have cr:=O5 x (FK (G4 x.b,G2 x.b) (FJ c v B m.op)).1 (by omega);generalize Gy c v m.op=G at*;generalize Ga (E2 x m.pt) (Fw x m.pt).1 B m.path=q at*;generalize (Fw x m.pt).1=i at*;generalize E2 x m.pt=s at*;generalize FK (G4 x.b,G2 x.b) (FJ c v B m.op)=w at*;generalize (FJ c v B m.op).2=r at*;generalize hQ:(2:Int) ^ (DW s.1).toNat=Q at*;clear hQ;generalize DW s.1=dd at*;generalize EP=P at*;have zr:Ge (EX x w.1,0)=EX x w.1:=rfl;have ze:¬ r=0→Ge (x,r)=Fb:=fun h=>if_neg h
  have g3:(s.1≤i)=True∧B=P∨(s.1≤i)=False∧B=G:=by
   by_cases h3:s.1≤i
   ·exact .inl ⟨eq_true h3,by rw[← hB,if_pos h3]⟩
   ·exact .inr ⟨eq_false h3,by rw[← hB,if_neg h3]⟩
  clear hB e;have M:∀ u:Dig,u=u:=fun _=>rfl;rcases g3 with⟨g3,rfl⟩|⟨g3,rfl⟩
  all_goals
   by_cases h4:Q≤i
   ·rw[if_pos (.inl h4)];have g4:(i<Q)=False:=YYF
    by_cases h6:r=0
    ·rw[if_pos h6,zr];have g6:=eq_true h6;simp(disch:=first|omega|decide) only[push_cast,↓reduceIte,CW,CY,Dd,DT,Fj,Gm,Eh,HM,HN,Jf,EK,Et,Gn,Em,D5,EV,FN,cp,cb,Di,decide_true,decide_false,Fu hv,Fa,GO,Q1,hs,E,Kl,UI,Ob,Gw,LS,cl,Nc,KC,g3,ac,cD,cw,g4,cd,Qz,TT,Nh,Tv,cs,g6,cr]
    ·rw[if_neg h6,ze h6];have g6:=eq_false h6;simp(disch:=first|omega|decide) only[push_cast,↓reduceIte,CW,CY,Dd,DT,Fj,Eh,HM,HN,Jf,EK,Et,Gn,Em,D5,EV,FN,cp,cb,Di,decide_true,decide_false,Fu hv,Fa,GO,Q1,hs,E,Kl,UI,Ob,Gw,LS,cl,Nc,KC,g3,ac,cD,cw,g4,cd,Qz,TT,Nh,Tv,cs,g6,JT,JQ,JR]
   ·have g4:(i<Q)=True:=eq_true (by omega);cases q
    ·rw[if_neg (fun h=>h.elim h4 (fun h=>by cases h)),show Ge (x,40)=Fb from rfl];simp(disch:=first|omega|decide) only[push_cast,↓reduceIte,CW,CY,Dd,DT,Fj,Eh,HM,HN,EK,Et,Gn,Em,D5,EV,FN,cp,cb,Di,decide_true,decide_false,Fu hv,Fa,Q1,hs,E,Kl,LZ,UI,Ob,Gw,cl,Nc,KC,g3,ac,cD,cw,g4,N,ci,Ax,JT,JQ,JR]
    ·rw[if_pos (.inr rfl)]
     by_cases h6:r=0
     ·rw[if_pos h6,zr];have g6:=eq_true h6;simp(disch:=first|omega|decide) only[push_cast,↓reduceIte,CW,CY,Dd,DT,Fj,Gm,Eh,HM,HN,Jf,EK,Et,Gn,Em,D5,EV,FN,cp,cb,Di,decide_true,decide_false,Fu hv,Fa,GO,Q1,hs,E,Kl,LZ,UI,Ob,Gw,LS,cl,Nc,KC,g3,ac,cD,cw,g4,N,ci,At,cd,Qz,TT,Nh,Tv,cs,g6,cr]
     ·rw[if_neg h6,ze h6];have g6:=eq_false h6;simp(disch:=first|omega|decide) only[push_cast,↓reduceIte,CW,CY,Dd,DT,Fj,Eh,HM,HN,Jf,EK,Et,Gn,Em,D5,EV,FN,cp,cb,Di,decide_true,decide_false,Fu hv,Fa,GO,Q1,hs,E,Kl,LZ,UI,Ob,Gw,LS,cl,Nc,KC,g3,ac,cD,cw,g4,N,ci,At,cd,Qz,TT,Nh,Tv,cs,g6,JT,JQ,JR]
theorem YNj:Contract Tryz.prog GG 85 kM:=
 DM yrr (DD (all_cons pO (all_cons kU (all_cons YNn (all_cons pN (all_cons gE (all_cons dY (all_cons YNd (all_cons xA (all_cons jl (all_cons YNa (all_cons UF all_nil))))))))))) all_nil) (fun a h=>YHn a.1 a.2.1 a.2.2.1 a.2.2.2 h)
def NM(x:Cse)(k:Ky):Cse×Int:=
 if x.jn.length<8 then
  if k≠x.key∧k∉x.jn then({x with jn:=x.jn++[k]},0)else(Fb,1)
 else(Fb,2)
theorem Ym0(x:Cse):(Du x (DG x.jn)).flatMap hk=[]:=Ov (Qe x)
theorem Ya8(m:Nat)(σ:List Nat)(x:Cse):(Du x (DG x.jn)).map (EO m σ)=Du x (DG x.jn):=NB m σ (Qe x)
theorem zB(k:Ky):(Hv k).flatMap hk=[]:=Ov (Q4 k)
theorem Yj0(m:Nat)(σ:List Nat)(k:Ky):(Hv k).map (EO m σ)=Hv k:=NB m σ (Q4 k)
theorem zC:(Du Fb (O 0 [] t_)).flatMap hk=[]:=by obtain⟨A,E,h⟩:=YI Fb;rw[h,List.flatMap_append,Ov E]; rfl
theorem Yjz(m:Nat)(σ:List Nat):(Du Fb (O 0 [] t_)).map (EO m σ)=Du Fb (O 0 [] t_):=by obtain⟨A,E,h⟩:=YI Fb;rw[h,Bm,NB m σ E]; rfl
theorem YKj:FP 5 []=s_ (O 5 [] t_):=rfl
theorem Wi(x:Cse)(i j:D)(hj:j.isCell=t_)(hc:j.cells=[j])(sz:Nat):Eb (s_ ⟨f_,sz,Du x i,f_⟩) 1 278 j=s_ ⟨f_,sz,Du x j,f_⟩:=by obtain⟨A,E,h⟩:=YI x;rw[h i,h j];have hl:=LW x i;rw[h i]at hl;exact KR (A:=A) (B:=[i]) (C:=[]) (xs:=[j]) (by simp) (by simp) (by simp at hl; omega) rfl hc rfl (by simp[hj])
def qJ:List D→Option D:=Dq (α:=Cse×Ky) (fun a=>[Dt a.1,D8 a.2]) (fun a=>True) (fun a=>.tup [Dt (NM a.1 a.2).1,I J (NM a.1 a.2).2])
theorem Ywo(x:Cse)(k:Ky):qJ [Dt x,D8 k]=s_ (.tup [Dt (NM x k).1,I J (NM x k).2]):=
 DK (fun⟨a0,a1⟩ ⟨b0,b1⟩ h=>by simp only[Aa,and_true,Vd,IS]at h; simp[h]) (x,k) trivial
theorem VP(x:Cse)(k:Ky):@wW GG (tb [] []) bq.code (Dm [Dt x,D8 k]) [] ⟨Ds bq.res (.tup [Dt (NM x k).1,I J (NM x k).2])⟩:=by
 unfold bq NM;have E:∀ st:St,EF st f_ (DG x.jn)=s_ (I J (x.jn.length:Int)):=fun st=>by simp[EF,Iz,E7]
 by_cases h1:x.jn.length<8
 ·rw[if_pos h1];have g1:(8≤(x.jn.length:Int))=False:=YYF
  by_cases N:k=x.key
  ·rw[if_neg (fun q=>q.1 N)];have g2:=eq_true N;simp(disch:=first|omega|decide) only[push_cast,↓reduceIte,CW,CY,DT,Fj,Eh,Lq,Lz,E,g1,decide_false,decide_true,NN,MV,Ji,g2,Ch,JT,JQ,JR]
  ·have g2:=eq_false N;simp(disch:=first|omega|decide) only[push_cast,↓reduceIte,CW,CY,DT,Fj,Lq,Lz,E,g1,decide_false,NN,MV,Ji,g2,Ch,YKj]
   refine E0 (fun i:Nat=>[(2,Y 0 0),(3,Y 1 0),(4,Y 2 0),(6,DY 5 3 ((x.jn.take i).map D8)),(7,I J (i:Int))])
    (fun i=>⟨f_,1,Du x (DG x.jn),f_⟩::⟨f_,1,Hv k,f_⟩::⟨f_,1,Du Fb (O 0 [] t_),f_⟩::DC 5 ((x.jn.take i).map D8)) (fun i=>i≤x.jn.length∧∀ j,j<i→x.jn.getD j default≠k) (fun i=>x.jn.length - i) 0 (by simp only[push_cast,↓reduceIte,CW,C8,C5,CY,↓CX,Ym0,Ya8,zB,Yj0,zC,Yjz] <;> rfl) ⟨by omega,fun j hj=>absurd hj (by omega)⟩ ?_
   rintro i ⟨hi,a1⟩;unfold tw;simp(disch:=first|omega|decide) only[push_cast,↓reduceIte,CW,Lz,E];refine Ew (fun h3=>?_) (fun h3=>?_)
   ·have aa:i<x.jn.length:=by omega
    have ix:=fun st=>gN st x.jn f_ i aa;have af:=Lw x.jn aa;generalize a4:x.jn.getD i default=y at*
    by_cases h4:y=k
    ·have hm:k∈x.jn:=by
      grind
     rw[if_neg (fun q=>q.2 hm)];have g4:=eq_true h4;simp(disch:=first|omega|decide) only[push_cast,↓reduceIte,CW,CY,Eh,Lz,ix,To,NN,Ji,g4,decide_true,Ch,JT,JQ,JR]
    ·have g4:=eq_false h4;have M:=jx (f:=D8) (sz:=5) (sz0:=5) (bytes:=40) (A:=x.jn.take i) (x:=y) (t:=t_) (a:=⟨f_,1,Du x (DG x.jn),f_⟩) (b:=⟨f_,1,Hv k,f_⟩) (c:=⟨f_,1,Du Fb (O 0 [] t_),f_⟩) (hs0:=by decide) (hb:=by rw[AA]; omega) (hl:=by rw[AA]; omega);simp(disch:=first|omega|decide) only[push_cast,↓reduceIte,CW,C8,C5,CY,Lz,ix,To,NN,Ji,g4,decide_false,Ch,Pm,Tw,gU,M,DQ];refine EB (i+1) ⟨by omega,fun j hj=>?_⟩ (by omega) ?_
     ·grind
     ·rw[af];simp only[push_cast,Ym0,Ya8,zB,Yj0,zC,Yjz] <;> rfl
   ·obtain rfl:i=x.jn.length:=by omega
    have hm:k∉x.jn:=by
     intro hm;obtain⟨j,hj,e⟩:=List.getElem_of_mem hm;grind
    rw[if_pos ⟨N,hm⟩,AR];have M:=jx (f:=D8) (sz:=5) (sz0:=5) (bytes:=40) (A:=x.jn) (x:=k) (t:=t_) (a:=⟨f_,1,Du x (DG x.jn),f_⟩) (b:=⟨f_,1,Hv k,f_⟩) (c:=⟨f_,1,Du Fb (O 0 [] t_),f_⟩) (hs0:=by decide) (hb:=by omega) (hl:=by omega);have hb:DY 5 3 ((x.jn++[k]).map D8)=.row 3 (x.jn.length+1) 0 (x.jn.length+1):=by simp[DY]
    have a0:DC 5 ((x.jn++[k]).map D8)=[⟨t_,5,(x.jn++[k]).map D8,f_⟩]:=by simp[DC]
    rw[hb,a0]at M;have sj:=Wi x (DG x.jn) (.row 3 (x.jn.length+1) 0 (x.jn.length+1)) rfl rfl 1;have sz:=MX Fb x (O 0 [] t_) (.row 3 (x.jn.length+1) 0 (x.jn.length+1)) rfl 1
    have im:∀ o0 o1 o2:PI.Obj,Ej [o0,o1,o2,⟨t_,5,(x.jn++[k]).map D8,f_⟩] (U (Du x (.row 3 (x.jn.length+1) 0 (x.jn.length+1))))=s_ (Dt {x with jn:=x.jn++[k]}):=fun o0 o1 o2=>by
     rw[SM]
     have:D2 [o0,o1,o2,⟨t_,5,(x.jn++[k]).map D8,f_⟩] (.row 3 (x.jn.length+1) 0 (x.jn.length+1))=s_ (DG (x.jn++[k])):=by
      simp[D2,HO,DG,nz];grind
     rw[this]; rfl
    simp(disch:=first|omega|decide) only[push_cast,↓reduceIte,CW,CY,Eh,NN,Pm,Tw,gU,M,sj,sz,im]
 ·rw[if_neg h1];have g1:(8≤(x.jn.length:Int))=True:=eq_true (by omega);simp(disch:=first|omega|decide) only[push_cast,↓reduceIte,CW,CY,DT,Fj,Eh,Lq,Lz,E,g1,decide_true,JT,JQ,JR]
theorem XV:Contract Tryz.prog GG 86 qJ:=
 DM yvz (DD all_nil all_nil) (fun a h=>VP a.1 a.2)
def GC(x:Cse)(m:Mv):Prop:=
 if m.kd=1 then m.pt=1∧x.ph=1 else if m.kd=2 then x.ph=2 else if m.kd=3 then(Fw x m.pt).2=t_
 else if m.kd=4 then m.pt=0 else if m.kd=5 then m.pt=1∨0≤x.ct else if m.kd=6 then m.pt=1∧x.ph=1∧x.ct<0 else m.pt=0∧x.ph=1
instance (x:Cse) (m:Mv):Decidable (GC x m):=by unfold GC; infer_instance
def kJ:List D→Option D:=Dq (α:=Cse×Mv) (fun a=>[Dt a.1,Fy a.2]) (fun a=>True) (fun a=>V (decide (GC a.1 a.2)))
theorem Ypc(x:Cse)(m:Mv):kJ [Dt x,Fy m]=s_ (V (decide (GC x m))):=
 DK (fun⟨a0,a1⟩ ⟨b0,b1⟩ h=>by simp only[Aa,and_true,IS,OQ]at h; simp[h]) (x,m) trivial
theorem YHr(x:Cse)(m:Mv):@wW GG (tb [(35,TI)] []) ar.code (Dm [Dt x,Fy m]) [] ⟨Ds ar.res (V (decide (GC x m)))⟩:=by
 have cp:=mM x m.pt;unfold ar;have key:∀ (P:Prop) [Decidable P],(GC x m↔P)→decide (GC x m)=decide P:=fun P _ h=>by rw[decide_eq_decide]; exact h
 by_cases M:m.kd=1
 ·rw[key (m.pt=1∧x.ph=1) (by unfold GC; rw[if_pos M])]
  by_cases E:m.pt=1
  ·by_cases N:x.ph=1
   ·rw[decide_eq_true ⟨E,N⟩]
    push_cast(disch:=lia)[DT,E3,EV,GS,FN,eq_true M,eq_true E,eq_true N,decide_true]
   ·rw[decide_eq_false (fun q=>N q.2)]
    push_cast(disch:=lia)[DT,E3,EV,GS,FN,eq_true M,eq_true E,eq_false N,decide_true,decide_false]
  ·rw[decide_eq_false (fun q=>E q.1)]
   push_cast(disch:=lia)[DT,EV,GS,FN,eq_true M,eq_false E,decide_true,decide_false]
 ·have l1:=eq_false M
  by_cases k2:m.kd=2
  ·rw[key (x.ph=2) (by unfold GC; rw[if_neg M,if_pos k2])]
   push_cast(disch:=lia)[DT,E3,EV,GS,l1,eq_true k2,decide_true,decide_false]
  ·have l2:=eq_false k2
   by_cases k3:m.kd=3
   ·rw[key ((Fw x m.pt).2=t_) (by unfold GC; rw[if_neg M,if_neg k2,if_pos k3]),Bool.decide_eq_true]
    push_cast(disch:=lia)[DT,Eh,EK,Et,Gn,EV,GS,FN,l1,l2,eq_true k3,decide_true,decide_false,cp]
   ·have l3:=eq_false k3
    by_cases k4:m.kd=4
    ·rw[key (m.pt=0) (by unfold GC; rw[if_neg M,if_neg k2,if_neg k3,if_pos k4])]
     push_cast(disch:=lia)[DT,EV,GS,FN,l1,l2,l3,eq_true k4,decide_true,decide_false]
    ·have l4:=eq_false k4
     by_cases k5:m.kd=5
     ·rw[key (m.pt=1∨0≤x.ct) (by unfold GC; rw[if_neg M,if_neg k2,if_neg k3,if_neg k4,if_pos k5])]
      by_cases E:m.pt=1
      ·rw[decide_eq_true (.inl E)]
       push_cast(disch:=lia)[DT,EV,GS,FN,l1,l2,l3,l4,eq_true k5,eq_true E,decide_true,decide_false]
      ·have a2:=eq_false E;rw[show decide (m.pt=1∨0≤x.ct)=decide (0≤x.ct) by simp[E]]
       push_cast(disch:=lia)[DT,UK,EV,GS,FN,l1,l2,l3,l4,eq_true k5,a2,decide_true,decide_false]
     ·have l5:=eq_false k5
      by_cases k6:m.kd=6
      ·rw[key (m.pt=1∧x.ph=1∧x.ct<0) (by unfold GC; rw[if_neg M,if_neg k2,if_neg k3,if_neg k4,if_neg k5,if_pos k6])]
       by_cases E:m.pt=1
       ·by_cases N:x.ph=1
        ·rw[show decide (m.pt=1∧x.ph=1∧x.ct<0)=decide (x.ct<0) by simp[E,N]]
         push_cast(disch:=lia)[DT,E3,UK,EV,GS,FN,l1,l2,l3,l4,l5,eq_true k6,eq_true E,eq_true N,decide_true,decide_false]
        ·rw[decide_eq_false (fun q=>N q.2.1)]
         push_cast(disch:=lia)[DT,E3,EV,GS,FN,l1,l2,l3,l4,l5,eq_true k6,eq_true E,eq_false N,decide_true,decide_false]
       ·rw[decide_eq_false (fun q=>E q.1)]
        push_cast(disch:=lia)[DT,EV,GS,FN,l1,l2,l3,l4,l5,eq_true k6,eq_false E,decide_true,decide_false]
      ·have l6:=eq_false k6;rw[key (m.pt=0∧x.ph=1) (by unfold GC; rw[if_neg M,if_neg k2,if_neg k3,if_neg k4,if_neg k5,if_neg k6])]
       by_cases E:m.pt=0
       ·rw[show decide (m.pt=0∧x.ph=1)=decide (x.ph=1) by simp[E]]
        push_cast(disch:=lia)[DT,E3,EV,GS,FN,l1,l2,l3,l4,l5,l6,eq_true E,decide_true,decide_false]
       ·rw[decide_eq_false (fun q=>E q.1)]
        push_cast(disch:=lia)[DT,EV,GS,FN,l1,l2,l3,l4,l5,l6,eq_false E,decide_false]
theorem YNm:Contract Tryz.prog GG 82 kJ:=
 DM ywq (DD (all_cons pO all_nil) all_nil) (fun a h=>YHr a.1 a.2)
def dG:List D→Option D:=Dq (α:=Cse×Int) (fun a=>[Dt a.1,I J a.2]) (fun a=>True) (fun a=>Dt (Jh a.1 a.2))
theorem Yoy(x:Cse)(now:Int):dG [Dt x,I J now]=s_ (Dt (Jh x now)):=
 DK (fun⟨a0,a1⟩ ⟨b0,b1⟩ h=>by simp only[Aa,D.int.injEq,true_and,and_true,IS]at h; simp[h]) (x,now) trivial
theorem YG7(x:Cse)(now:Int):@wW GG (tb [(80,dE),(87,Q0)] []) bp.code (Dm [Dt x,I J now]) [] ⟨Ds bp.res (Dt (Jh x now))⟩:=by
 have E:=uu x;have ah:(t_ == f_)=f_:=rfl;have a0:(f_ == t_)=f_:=rfl;unfold bp
 by_cases h1:GJ x
 ·rw[decide_eq_true h1]at E
  by_cases h2:now≤x.dl
  ·rw[show Jh x now=x from YYN]
   push_cast(disch:=lia)[DT,Fj,Gm,Eh,GM,EK,Et,E,At,eq_true h2,decide_true]
  ·have g2:=eq_false h2;have e:Jh x now={EX x (G3 x)with ph:=6}:=if_pos ⟨h1,by omega⟩;rw[e]
   by_cases h3:x.ph=1
   ·have M:G3 x=0:=if_pos h3;rw[M];have N:=O5 x 0 (by omega);generalize EX x 0=y at*;have g4:(x.ph=2)=False:=YYF
    push_cast(disch:=lia)[DT,Fj,Gm,Eh,E3,GM,Li,EK,Et,Gn,E,At,g2,eq_true h3,g4,decide_true,decide_false,N]
   ·have g3:=eq_false h3
    by_cases h4:x.ph=2
    ·have g4:=eq_true h4
     by_cases h5:x.b.t0=x.b.t1
     ·have M:G3 x=-1:=by unfold G3; rw[if_neg h3,if_neg (fun q=>q.2 h5)]
      rw[M];have N:=O5 x (-1) (by omega);generalize EX x (-1)=y at*
      push_cast(disch:=lia)[DT,Fj,Gm,Eh,E3,GM,Li,EK,Et,Gn,Em,E,At,g2,g3,g4,h5,pZ,p5,decide_true,decide_false,N,bne_self_eq_false]
     ·cases t0:x.b.t0 with
      |true=>
       have t1:x.b.t1=f_:=by cases q:x.b.t1 with|false=>rfl|true=>exact absurd (t0.trans q.symm) h5
       have M:G3 x=0:=by unfold G3; rw[if_neg h3,if_pos ⟨h4,h5⟩,if_pos t0]
       rw[M];have N:=O5 x 0 (by omega);generalize EX x 0=y at*
       push_cast(disch:=lia)[DT,Fj,Gm,Eh,E3,GM,Li,EK,Et,Gn,Em,E,At,g2,g3,g4,pZ,p5,t0,t1,decide_true,decide_false,N,ah]
      |false=>
       have t1:x.b.t1=t_:=by cases q:x.b.t1 with|true=>rfl|false=>exact absurd (t0.trans q.symm) h5
       have M:G3 x=1:=by unfold G3; rw[if_neg h3,if_pos ⟨h4,h5⟩,if_neg (by rw[t0]; exact fun q=>by cases q)]
       rw[M];have N:=O5 x 1 (by omega);generalize EX x 1=y at*
       push_cast(disch:=lia)[DT,Fj,Gm,Eh,E3,GM,Li,EK,Et,Gn,Em,E,At,g2,g3,g4,pZ,p5,t0,t1,decide_true,decide_false,N,a0]
    ·have g4:=eq_false h4;have M:G3 x=-1:=by unfold G3; rw[if_neg h3,if_neg (fun q=>h4 q.1)]
     rw[M];have N:=O5 x (-1) (by omega);generalize EX x (-1)=y at*
     push_cast(disch:=lia)[DT,Fj,Gm,Eh,E3,GM,Li,EK,Et,Gn,E,At,g2,g3,g4,decide_false,N]
 ·rw[decide_eq_false h1]at E;rw[show Jh x now=x from if_neg (fun q=>h1 q.1)]
  push_cast(disch:=lia)[DT,Fj,Gm,Eh,EK,Et,E,Ax]
theorem YM7:Contract Tryz.prog GG 36 dG:=
 DM yv0 (DD (all_cons zY (all_cons UF all_nil)) all_nil) (fun a h=>YG7 a.1 a.2)
theorem YKf(h:¬ GC x m):(Gu c v x m now).2=380:=by
 unfold GC at h;unfold Gu
 by_cases E:m.kd=1
 ·rw[if_pos E]at h ⊢; unfold Jd; rw[if_neg h]
 rw[if_neg E]at h ⊢
 by_cases M:m.kd=2
 ·rw[if_pos M]at h ⊢; unfold KA; rw[if_neg h]
 rw[if_neg M]at h ⊢
 by_cases N:m.kd=3
 ·rw[if_pos N]at h ⊢; unfold JO; rw[if_neg h]
 rw[if_neg N]at h ⊢
 by_cases k4:m.kd=4
 ·rw[if_pos k4]at h ⊢; unfold Pj; rw[if_neg h]
 rw[if_neg k4]at h ⊢
 by_cases k5:m.kd=5
 ·rw[if_pos k5]at h ⊢; unfold M6; rw[if_neg (fun q=>h (.inl q)),if_neg (fun q=>h (.inr q))]
 rw[if_neg k5]at h ⊢
 by_cases k6:m.kd=6
 ·rw[if_pos k6]at h ⊢; unfold Ms; rw[if_neg h]
 rw[if_neg k6]at h ⊢;unfold HX; rw[if_neg h]
theorem YLf(h:m.pt=0∧x.ph=1):Ge (HX x m)=(NM x m.key).1∧(HX x m).2=(NM x m.key).2:=by unfold HX NM Ge;grind
def dD:List D→Option D:=Dq (α:=List Ins×(Int×List Int)×Cse×Mv×Int) (fun a=>[O (nz 3 (a.1.map Dk)) (a.1.map Dk) f_,D6 a.2.1,Dt a.2.2.1,Fy a.2.2.2.1,I J a.2.2.2.2]) (fun a=>a.1.length≤4294967296∧ED a.2.1∧a.2.2.2.1.op.top.length≤4294967295) (fun a=>.tup [Dt (GL a.1 a.2.1 a.2.2.1 a.2.2.2.1 a.2.2.2.2),I J (F0 a.1 a.2.1 a.2.2.1 a.2.2.2.1 a.2.2.2.2)])
theorem Yo8(c:List Ins)(v:Int×List Int)(x:Cse)(m:Mv)(now:Int)(h:c.length≤4294967296∧ED v∧m.op.top.length≤4294967295):dD [O (nz 3 (c.map Dk)) (c.map Dk) f_,D6 v,Dt x,Fy m,I J now]=s_ (.tup [Dt (GL c v x m now),I J (F0 c v x m now)]):=
 DK (fun⟨a0,a1,E,M,N⟩ ⟨b0,b1,b2,b3,b4⟩ h=>by simp only[Aa,D.slc.injEq,D.int.injEq,true_and,and_true,Ha,Hz,IS,OQ]at h; simp[h]) (c,v,x,m,now) h
theorem YHj(c:List Ins)(v:Int×List Int)(x:Cse)(m:Mv)(now:Int)(h:c.length≤4294967296∧ED v∧m.op.top.length≤4294967295):@wW GG (tb [(80,dE),(81,TG),(82,kJ),(83,jQ),(84,jW),(85,kM),(86,qJ),(87,Q0)] []) bn.code (Dm [O (nz 3 (c.map Dk)) (c.map Dk) f_,D6 v,Dt x,Fy m,I J now]) [] ⟨Ds bn.res (.tup [Dt (GL c v x m now),I J (F0 c v x m now)])⟩:=by
 obtain⟨hc,hv,ht⟩:=h;have M:=uu x;have b1:=Rd now 0 1073741824;have N:=Rd m.pt 0 1;have b3:=Rd m.kd 1 7;have cm:=Ypc x m;unfold bn;have no:∀ e:Int,F0 c v x m now=e→e≠0→GL c v x m now=Fb:=fun e h h2=>if_neg (by rw[h]; exact h2)
 by_cases h1:GJ x
 ·rw[decide_eq_true h1]at M
  by_cases ha:(1≤m.kd∧m.kd≤7)∧0≤now∧now≤1073741824∧(m.pt=0∨m.pt=1)
  ·have hE:F0 c v x m now=if now≤x.dl then(Gu c v x m now).2 else 401:=by unfold F0; rw[if_pos h1,if_pos ha]
   rw[decide_eq_true (by omega)]at b1 N b3
   by_cases hl:now≤x.dl
   ·rw[if_pos hl]at hE;have E:(x.dl<now)=False:=YYF
    by_cases hm:GC x m
    ·rw[decide_eq_true hm]at cm;rw[show GL c v x m now=Ge (Gu c v x m now) by unfold GL Ge; rw[hE],hE];unfold GC at hm;unfold Gu
     by_cases k1:m.kd=1
     ·rw[if_pos k1]at hm ⊢;have ca:=Ypr c v x m now ⟨⟨hc,hv,by omega,by omega⟩,hm.1,hm.2⟩;generalize Jd c v x m now=w at*;simp(disch:=first|omega|decide) only[push_cast,↓reduceIte,CW,CY,DT,Fj,Gm,Eh,GM,EK,Et,Gn,D5,EV,M,At,b1,N,b3,FN,GS,E,decide_false,decide_true,KP,Ma,Vc,cm,Fu hv,Fa,GO,eq_true k1,ca]
     rw[if_neg k1]at hm ⊢;have l1:=eq_false k1
     by_cases k2:m.kd=2
     ·rw[if_pos k2]at hm ⊢;have ca:=Ypn c v x m now ⟨⟨hc,hv,by omega,by omega⟩,ha.2.2.2,hm⟩;generalize KA c v x m now=w at*;simp(disch:=first|omega|decide) only[push_cast,↓reduceIte,CW,CY,DT,Fj,Gm,Eh,GM,EK,Et,Gn,D5,EV,M,At,b1,N,b3,FN,GS,E,decide_false,decide_true,KP,Ma,Vc,cm,Fu hv,Fa,GO,l1,eq_true k2,ca]
     rw[if_neg k2]at hm ⊢;have l2:=eq_false k2
     by_cases k3:m.kd=3
     ·rw[if_pos k3]at hm ⊢;have ca:=Ypa c v x m ⟨⟨hc,hv,ht⟩,ha.2.2.2,hm⟩;generalize JO c v x m=w at*;simp(disch:=first|omega|decide) only[push_cast,↓reduceIte,CW,CY,DT,Fj,Gm,Eh,GM,EK,Et,Gn,D5,EV,M,At,b1,N,b3,FN,GS,E,decide_false,decide_true,KP,Ma,Vc,cm,Fu hv,Fa,GO,l1,l2,eq_true k3,ca]
     rw[if_neg k3]at hm ⊢;have l3:=eq_false k3
     by_cases k4:m.kd=4
     ·rw[if_pos k4]at hm ⊢;have l7:(m.kd=7)=False:=YYF;rw[show Pj x m=({x with ph:=5,wn:=1},0)from if_pos hm,show Ge ({x with ph:=5,wn:=1},0)={x with ph:=5,wn:=1} from rfl];simp(disch:=first|omega|decide) only[push_cast,↓reduceIte,CW,CY,DT,Fj,Gm,Eh,GM,Li,QS,EK,Et,D5,EV,M,At,b1,N,b3,FN,GS,E,decide_false,decide_true,KP,Ma,cm,l1,l2,l3,l7,eq_true k4]
     rw[if_neg k4]at hm ⊢;have l4:=eq_false k4
     by_cases k5:m.kd=5
     ·rw[if_pos k5]at hm ⊢;have l6:(m.kd=6)=False:=YYF;have l7:(m.kd=7)=False:=YYF
      by_cases hp:m.pt=1
      ·rw[show M6 x m=(EX x 0,0)from if_pos hp,show Ge (EX x 0,0)=EX x 0 from rfl];have cr:=O5 x 0 (by omega);generalize EX x 0=y at*;simp(disch:=first|omega|decide) only[push_cast,↓reduceIte,CW,CY,DT,Fj,Gm,Eh,GM,EK,Et,Gn,D5,EV,M,At,b1,N,b3,FN,GS,E,decide_false,decide_true,KP,Ma,cm,l1,l2,l3,l4,l6,l7,eq_true hp,cr]
      ·have bd:0≤x.ct:=hm.resolve_left hp;rw[show M6 x m=(II x 1 x.ct,0) by unfold M6; rw[if_neg hp,if_pos bd],show Ge (II x 1 x.ct,0)={x with ph:=4,wn:=1,am:=x.ct} from rfl];have be:=eq_false hp;simp(disch:=first|omega|decide) only[push_cast,↓reduceIte,CW,CY,DT,Fj,Gm,Eh,GM,UK,Li,QS,RM,EK,Et,D5,EV,M,At,b1,N,b3,FN,GS,E,decide_false,KP,Ma,cm,l1,l2,l3,l4,l6,l7,be]
     rw[if_neg k5]at hm ⊢
     by_cases k6:m.kd=6
     ·rw[if_pos k6]at hm ⊢;have l7:(m.kd=7)=False:=YYF;have ba:=Rd m.am 0 9007199254740992
      by_cases hp:0≤m.am∧m.am≤9007199254740992
      ·rw[decide_eq_true hp]at ba;rw[show Ms x m now=({x with ct:=m.am,dl:=now+1440},0) by unfold Ms; rw[if_pos hm,if_pos ⟨hp.1,by unfold HW; omega⟩],show Ge ({x with ct:=m.am,dl:=now+1440},0)={x with ct:=m.am,dl:=now+1440} from rfl];simp(disch:=first|omega|decide) only[push_cast,↓reduceIte,CW,CY,DT,Fj,Gm,Eh,GM,UZ,YJb,EK,Et,D5,EV,M,At,b1,N,b3,FN,GS,E,decide_false,decide_true,KP,Ma,cm,l1,l2,l3,l4,l7,eq_true k6,QO,ba,DQ]
      ·rw[decide_eq_false hp]at ba;rw[show Ms x m now=(x,1) by unfold Ms; rw[if_pos hm,if_neg (by unfold HW; omega)],show Ge (x,1)=Fb from rfl];simp(disch:=first|omega|decide) only[push_cast,↓reduceIte,CW,CY,DT,Fj,Eh,GM,EK,Et,D5,EV,M,At,b1,N,b3,FN,GS,E,decide_false,decide_true,KP,Ma,cm,l1,l2,l3,l4,l7,eq_true k6,QO,ba,Ax,JT,JQ,JR]
     rw[if_neg k6]at hm ⊢;have l7:(m.kd=7)=True:=eq_true (by omega);obtain⟨e1,e2⟩:=YLf hm;rw[e1,e2];have ca:=Ywo x m.key;generalize NM x m.key=w at*;simp(disch:=first|omega|decide) only[push_cast,↓reduceIte,CW,CY,DT,Fj,Gm,Eh,GM,EK,Et,Gn,D5,EV,M,At,b1,N,b3,FN,GS,E,decide_false,decide_true,KP,Ma,cm,l1,l2,l3,l7,YCx,Pm,Tw,ca]
    ·rw[decide_eq_false hm]at cm;have e:=YKf (c:=c) (v:=v) (now:=now) hm;rw[e]at hE;rw[no _ hE (by decide),hE];simp(disch:=first|omega|decide) only[push_cast,↓reduceIte,CW,CY,DT,Fj,Eh,GM,EK,Et,D5,EV,M,At,b1,N,b3,FN,GS,E,decide_false,KP,Ma,cm,Ax,JT,JQ,JR]
   ·rw[if_neg hl]at hE;have E:(x.dl<now)=True:=eq_true (by omega);rw[no _ hE (by decide),hE];simp(disch:=first|omega|decide) only[push_cast,↓reduceIte,CW,CY,DT,Fj,Eh,GM,EK,Et,D5,EV,M,At,b1,N,b3,FN,GS,E,decide_true,JT,JQ,JR]
  ·have hE:F0 c v x m now=1:=by unfold F0; rw[if_pos h1,if_neg ha]
   rw[no _ hE (by decide),hE]
   by_cases a1:0≤now∧now≤1073741824
   ·rw[decide_eq_true a1]at b1
    by_cases a2:0≤m.pt∧m.pt≤1
    ·rw[decide_eq_true a2]at N;rw[decide_eq_false (by omega)]at b3;simp(disch:=first|omega|decide) only[push_cast,↓reduceIte,CW,CY,DT,Fj,Eh,EK,Et,D5,EV,M,At,b1,N,b3,FN,GS,Ax,JT,JQ,JR]
    ·rw[decide_eq_false a2]at N;simp(disch:=first|omega|decide) only[push_cast,↓reduceIte,CW,CY,DT,Fj,Eh,EK,Et,D5,EV,M,At,b1,N,FN,Ax,JT,JQ,JR]
   ·rw[decide_eq_false a1]at b1;simp(disch:=first|omega|decide) only[push_cast,↓reduceIte,CW,CY,DT,Fj,Eh,EK,Et,D5,EV,M,At,b1,Ax,JT,JQ,JR]
 ·rw[decide_eq_false h1]at M;have hE:F0 c v x m now=400:=if_neg h1;rw[no _ hE (by decide),hE];simp(disch:=first|omega|decide) only[push_cast,↓reduceIte,CW,CY,DT,Fj,Eh,EK,Et,D5,EV,M,Ax,JT,JQ,JR]
theorem YNh:Contract Tryz.prog GG 33 dD:=
 DM yv2 (DD (all_cons zY (all_cons gC (all_cons YNm (all_cons YN4 (all_cons YNx (all_cons YNj (all_cons XV (all_cons UF all_nil)))))))) all_nil) (fun a h=>YHj a.1 a.2.1 a.2.2.1 a.2.2.2.1 a.2.2.2.2 h)
theorem jC(x:Cse)(p:Int):(EX x p).jn=x.jn:=by unfold EX II; split <;> rfl
theorem Ymf(c:List Ins)(v:Int×List Int)(x:Cse)(n:Int):(G8 c v x n).1.jn=x.jn:=by
 unfold G8
 split
 ·split
  ·split
   ·exact jC ..
   ·rfl
  ·rfl
 ·rfl
theorem YDj(c:List Ins)(v:Int×List Int)(x:Cse)(m:Mv)(now:Int):(Gu c v x m now).1.jn.length≤x.jn.length+1:=by
 have le:∀ y:Cse,y.jn=x.jn→y.jn.length≤x.jn.length+1:=fun y h=>by rw[h]; omega
 unfold Gu
 split
 ·refine le _ ?_;unfold Jd
  split
  ·split
   ·dsimp only
    split
    ·rfl
    ·split
     ·exact Ymf ..
     ·split
      ·rfl
      ·split <;> rfl
   ·rfl
  ·rfl
 split
 ·refine le _ ?_;unfold KA
  split
  ·split
   ·split
    ·rfl
    ·exact Ymf ..
   ·rfl
  ·rfl
 split
 ·refine le _ ?_;unfold JO
  split
  ·split
   ·split
    ·split <;> rfl
    ·rfl
   ·dsimp only;generalize (if(E2 x m.pt).1≤(Fw x m.pt).1 then EP else Gy c v m.op)=E
    split
    ·split
     ·exact jC ..
     ·rfl
    ·rfl
  ·rfl
 split
 ·refine le _ ?_;unfold Pj;grind
 split
 ·refine le _ ?_;unfold M6
  split
  ·rfl
  ·split <;> rfl
 split
 ·refine le _ ?_;unfold Ms;grind
 ·unfold HX;grind
theorem YDi(c:List Ins)(v:Int×List Int)(x:Cse)(m:Mv)(now:Int):(GL c v x m now).jn.length≤x.jn.length+1:=by
 unfold GL
 split
 ·exact YDj ..
 ·exact AY _
theorem YDh(x:Cse)(now:Int):(Jh x now).jn=x.jn:=by
 unfold Jh
 split
 ·exact jC ..
 ·rfl
theorem yss(c:List Ins)(hc:c.length≤maxLen)(v:Int×List Int)(hv:v.2.length=16)(x:Cse)(hx:x.jn.length≤maxLen)(m:Mv)(ae:m.op.top.length≤maxLen)(af:m.path.length≤maxLen)(now:Int)(N:-9223372036854775808≤now)(aa:now<9223372036854775808):@wW GG (tb [(18,eH),(32,dQ),(24,M1),(33,dD),(34,Vy),(35,TI),(30,Sx),(29,Vz),(36,dG),(31,Sy),(37,dC)] []) cJ.code (Dm [O (nz 3 (c.map Dk)) (c.map Dk) f_,D6 v,Dt x,Fy m,I J now]) [] ⟨Ds cJ.res (V t_)⟩:=by
 have M:ED v:=hv;clear hv;have hv:=M;have cs:=Yhb;have E:=Ypv c x m;unfold cJ
 by_cases hf:c.length≤60∧x.jn.length≤12∧m.path.length≤40∧m.op.top.length≤80
 ·rw[decide_eq_true hf]at E;have p1:=Rm c v x m now ⟨by omega,hv,by omega⟩;have p2:=Yo8 c v x m now ⟨by omega,hv,by omega⟩;have q1:=wh x m.pt;have q2:=mM x m.pt;have t1:=nW x now;have t2:=Yoy x now;have o1:=nY x;have o2:=Yo9 x;have jp:=YDi c v x m now;have jt:=congrArg List.length (YDh x now);generalize GL c v x m now=y at*;generalize F0 c v x m now=e at*;generalize Jh x now=z at*;generalize Fw x m.pt=w at*;generalize decide (IB x)=o at*;have s1:=YH y y ⟨by omega,by omega⟩;have s2:=YH z z ⟨by omega,by omega⟩;rw[decide_eq_true rfl]at s1 s2
  push_cast(disch:=lia)[cs,At,E,D5,DT,EV,Fj,Gm,Eh,EK,Et,Gn,Fu hv,Fa,GO,KP,Ma,Vc,FN,p1,p2,q1,q2,t1,t2,o1,o2,s1,s2,decide_true,BEq.rfl]
 ·rw[decide_eq_false hf]at E
  push_cast(disch:=lia)[cs,At,Ax,E,D5,DT,EV,Eh,EK,Et,KP,Ma]
theorem law_CourtMatchesReference:Contract Tryz.prog GG 7 (TS [.slc tyIns,tyEv,tyCse,tyMv,.int .i64]):=by refine po yh4 (T:=tb [(18,eH),(32,dQ),(24,M1),(33,dD),(34,Vy),(35,TI),(30,Sx),(29,Vz),(36,dG),(31,Sy),(37,dC)] []) (DD (all_cons YFn (all_cons YN9 (all_cons jh (all_cons YNh (all_cons Yqk (all_cons pO (all_cons ji (all_cons Yqj (all_cons YM7 (all_cons jj (all_cons YNi all_nil))))))))))) all_nil) ?_;intro xs h;obtain⟨x0,xs,rfl,h0,h⟩:=Ux h;obtain⟨x1,xs,rfl,h1,h⟩:=Ux h;obtain⟨x2,xs,rfl,h2,h⟩:=Ux h;obtain⟨x3,xs,rfl,h3,h⟩:=Ux h;obtain⟨x4,xs,rfl,h4,h⟩:=Ux h;obtain rfl:=Ygk h;obtain⟨y0,rfl,E⟩:=Yvq h0;obtain⟨y1,rfl,M⟩:=YL2 h1;obtain⟨y2,rfl,N⟩:=YEb h2;obtain⟨y3,rfl,aa,ab⟩:=YL1 h3;obtain⟨y4,rfl,ac,ad⟩:=Hr h4;exact yss y0 E y1 M y2 N y3 aa ab y4 ac ad
