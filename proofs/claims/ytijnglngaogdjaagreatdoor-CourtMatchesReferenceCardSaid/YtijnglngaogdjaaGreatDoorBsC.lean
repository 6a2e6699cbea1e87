/-
  bisect: Disclose of the reference; Done and Answer; rounds.
  Conditions: none; these are lemmas.
-/
import Derived.Test.YtijnglngaogdjaaGreatDoorArY
import Derived.Test.YtijnglngaogdjaaGreatDoorArD
import Derived.Test.YtijnglngaogdjaaGreatDoorEngHe
import Derived.Test.YtijnglngaogdjaaGreatDoorSha
open Bool renaming false→f_,true→t_
open Option renaming some→s_
open BitVec renaming ofInt→C0
open Int renaming reduceNatCast'→CX,reducePow→Df
open List renaming replicate→CZ
open Nat renaming reduceAdd→CY,reduceEqDiff→CW,reduceLT→C8,reduceLeDiff→C5
open Prod renaming fst→Db,snd→Dc
open UInt8 renaming ofNat→C4
set_option maxHeartbeats 8000000
set_option maxRecDepth 20000
set_option linter.unusedSimpArgs false
set_option linter.unusedVariables false
noncomputable section
namespace Go.Proofs.YtijnglngaogdjaaGreatDoor.PI
open Go
open D renaming int→I,slc→O,agg→U,bool→V,ptr→Y
open Go.IntKind renaming i64→J
def E8(n:Nat):List UInt8:=Ie n (Ic 8 n)
theorem Yaa(m k:Nat):Ie m (k+1)=Ie (m / 256) k++[C4 m]:=by
 unfold Ie;rw[List.range_succ,Bm,List.map_singleton]
 congr 1
 ·refine BA fun i hi=>?_;have hi:=AV.1 hi;rw[Ce,show 8*(k+1 - 1 - i)=8+8*(k - 1 - i) by omega,CO]
 ·simp
variable {m:Nat}
theorem uG(h:m≠0)(E:m<18446744073709551616):E8 m=E8 (m / 256)++[C4 m]:=by unfold E8;rw[xz h (by exact E),Yaa]
theorem YEz(h:m≠0)(E:m<18446744073709551616):E8 m≠[]:=by rw[uG h E]; simp
theorem lD(n:Nat):(E8 n).length≤8:=by unfold E8; rw[S2]; exact Qc 8 n
theorem Yhi(st:St)(n:Int)(k:Nat)(hk:k≤7):FZ st (.int .u8) (I J (n / 2 ^ (8*k)))=s_ (Dr (C4 (DV n / 256 ^ k))):=by
 have h:(n / 2 ^ (8*k)) % 256=((DV n / 256 ^ k % 256:Nat):Int):=by
  unfold DV;rcases(by omega:k=0∨k=1∨k=2∨k=3∨k=4∨k=5∨k=6∨k=7)with rfl|rfl|rfl|rfl|rfl|rfl|rfl|rfl <;> simp only[Nat.reducePow,Nat.reduceMul,Df] <;> omega
 unfold Dr;rw[BT]
 show s_ (D.int .u8 ((n / 2 ^ (8*k)) % 256))=_
 rw[h]
def JE(n j:Nat):List UInt8:=E8 (n / 256 ^ (8 - j))
variable {n:Nat}
theorem YMk(h:n<18446744073709551616):JE n 0=[]:=by unfold JE;rw[Nat.div_eq_of_lt (by simpa using h)]; rfl
theorem YMi(n j:Nat):JE n (j+1)=E8 (n / 256 ^ (7 - j)):=by unfold JE; rw[show 8 - (j+1)=7 - j by omega]
theorem YMj{j:Nat}(h:j≤7):JE n j=E8 (n / 256 ^ (7 - j) / 256):=by unfold JE;rw[Ce,show 8 - j=7 - j+1 by omega,CV]
theorem qu(c:UInt8):DF .neq (Dr c) (I .u8 0)=s_ (V (!decide (c=0))):=by have h:=pP c;unfold Dr at h ⊢;rw[qZ]at h;rw[Yq6];grind
def jU:List D→Option D:=Dq (α:=Int) (fun a=>[I J a]) (fun a=>True) (fun a=>O (nz 1 ((E8 (DV a)).map Dr)) ((E8 (DV a)).map Dr) f_)
theorem um(n:Int):jU [I J n]=s_ (O (nz 1 ((E8 (DV n)).map Dr)) ((E8 (DV n)).map Dr) f_):=
 DK (fun a b h=>by simp only[Aa,D.int.injEq,true_and,and_true]at h; simp[h]) (n) trivial
theorem YH6(n:Int):@wW GG (tb [] []) bu.code (Dm [I J n]) [] ⟨Ds bu.res (O (nz 1 ((E8 (DV n)).map Dr)) ((E8 (DV n)).map Dr) f_)⟩:=by
 obtain⟨u,hu⟩:∃ u,DV n=u:=⟨_,rfl⟩;have N:u<18446744073709551616:=by rw[← hu]; exact dU n
 rw[hu];unfold bu
 push_cast(disch:=lia)[m8 1 0]
 refine E0 (fun j:Nat=>[(0,I J n),(3,DY 1 0 ((JE u j).map Dr)),(4,I J (56 - 8*(j:Int)))])
  (fun j=>DC 1 ((JE u j).map Dr)) (fun j=>j≤8) (fun j=>8 - j) 0 (by rw[YMk N]; push_cast [↓CX] <;> rfl) (by omega) ?_
 intro j hj;unfold tF
 push_cast(disch:=lia)
 refine Ew (fun h2=>?_) (fun h2=>?_)
 ·obtain⟨m,hm⟩:∃ m,u / 256 ^ (7 - j)=m:=⟨_,rfl⟩;have a0:m<18446744073709551616:=by rw[← hm]; exact Nat.lt_of_le_of_lt (Nat.div_le_self _ _) N
  have e0:=YMj (n:=u) (j:=j) (by omega);have e1:=YMi u j;rw[hm]at e0 e1
  have hs:DF .shr (I J n) (I J (56 - 8*(j:Int)))=s_ (I J (n / 2 ^ (8*(7 - j)))):=by
   rw[Yz (by omega) (by omega),show(56 - 8*(j:Int)).toNat=8*(7 - j) by omega]
  have hv:∀ st,FZ st (.int .u8) (I J (n / 2 ^ (8*(7 - j))))=s_ (Dr (C4 m)):=fun st=>by
   rw[Yhi st n (7 - j) (by omega),hu,hm]
  have E:(56:Int) - 8*(j:Int) - 8=56 - 8*((j:Int)+1):=by omega
  have a1:=lD (m / 256)
  by_cases M:m=0
  ·have ed:E8 (m / 256)=[]:=by subst M; rfl
   have hb:C4 m=0:=by subst M; rfl
   rw[e0,ed]
   push_cast(disch:=lia)[hs,hv,qu,eq_true hb,decide_true,At,Ar,Ba,EI,E,← m8 1 0]
   refine EB (j+1) (by show j+1≤8; omega) (by show 8 - (j+1)<8 - j; omega) ?_;rw[e1,show E8 m=[] by subst M; rfl];rfl
  ·have a2:=uG M (by omega);rw[e0]
   by_cases hb:C4 m=0
   ·have ae:E8 (m / 256)≠[]:=by
     refine YEz (fun q=>M ?_) (by omega);have:=congrArg UInt8.toNat hb;rw[BT]at this;grind
    have ac:(0:Int)<((E8 (m / 256)).length:Int):=by
     have:=Cz.2 ae; omega
    push_cast(disch:=lia)[hs,hv,qu,eq_true hb,decide_true,At,ac,EI,E]
    refine EB (j+1) (by show j+1≤8; omega) (by show 8 - (j+1)<8 - j; omega) ?_;grind
   ·push_cast(disch:=lia)[hs,hv,qu,eq_false hb,decide_false,Ax,EI,E]
    refine EB (j+1) (by show j+1≤8; omega) (by show 8 - (j+1)<8 - j; omega) ?_;grind
 ·obtain rfl:j=8:=by omega
  have e:JE u 8=E8 u:=by unfold JE; rw[BF,Nat.pow_zero,Nat.div_one]
  rw[e]
  push_cast(disch:=lia)[↓CX]
theorem YNz:Contract Tryz.prog GG 213 jU:=
 DM ysb (DD all_nil all_nil) (fun a h=>YH6 a)
def KB(c:UInt8):UInt8:=255 - c
theorem Yn9(s q m:Nat)(M:m<2 ^ s*q):(2 ^ s*q - 1 - m) / 2 ^ s=q - 1 - m / 2 ^ s:=by
 have E:0<2 ^ s:=Cd s;have N:=Nat.div_add_mod m (2 ^ s);have h2:=Nat.mod_lt m E;have h3:m / 2 ^ s<q:=by rw[Cp E,Cj]; exact M
 generalize m / 2 ^ s=a at*;generalize m % 2 ^ s=r at*;generalize 2 ^ s=A at*;obtain⟨b,rfl⟩:∃ b,q=a+1+b:=⟨q - a - 1,by omega⟩;rw[show a+1+b - 1 - a=b by omega];have:A*(a+1+b)=A*a+A+A*b:=by rw[Nat.mul_add,Nat.mul_add,BO]
 rw[this,show A*a+A+A*b - 1 - m=(A - 1 - r)+A*b by omega,Nat.add_mul_div_left _ _ E,Nat.div_eq_of_lt (by omega),Aq]
theorem Ynm{s:Nat}(M:m<18446744073709551616)(N:s≤56):C4 ((18446744073709551615 - m) / 2 ^ s)=KB (C4 (m / 2 ^ s)):=by
 have e:(18446744073709551616:Nat)=2 ^ s*2 ^ (64 - s):=by rw[← CO,show s+(64 - s)=64 by omega]
 have h:=Yn9 s (2 ^ (64 - s)) m (by omega);rw[← e,show(18446744073709551616 - 1 - m:Nat)=18446744073709551615 - m by omega]at h;rw[h];obtain⟨k,hk⟩:∃ k,2 ^ (64 - s)=256*k:=⟨2 ^ (56 - s),by rw[show(256:Nat)=2 ^ 8 from rfl,← CO,show 8+(56 - s)=64 - s by omega]⟩
 have E:m / 2 ^ s<2 ^ (64 - s):=by
  rw[Cp (Cd s),Cj,← e]; exact M
 generalize m / 2 ^ s=a at*;rw[hk]at E ⊢;apply CB.1;unfold KB;rw[UInt8.toNat_sub,BT,BT];grind
theorem Yvc(n:Int)(h:0≤n):F4 n=C4 (32+(E8 (DV n)).length)::E8 (DV n):=by unfold F4 E8;rw[if_pos h,S2]
theorem Yvd(n:Int)(h:¬ 0≤n):F4 n=C4 (31 - (E8 (JN (DV n))).length)::(E8 (JN (DV n))).map KB:=by
 have hu:=dU n;generalize M:DV n=u at*;obtain⟨m,hm⟩:∃ m,JN u=m:=⟨_,rfl⟩;have e:u=18446744073709551615 - m:=by rw[← hm]; unfold JN; omega
 have E:m<18446744073709551616:=by rw[← hm]; exact Ych u
 unfold F4 E8;rw[if_neg h,M,hm,S2,Aa];refine⟨rfl,?_⟩;unfold Ie;rw[CG];refine BA fun i hi=>?_;have hi:=AV.1 hi;have N:=Qc 8 m;rw[e];exact Ynm E (by omega)
theorem vT(x:Int):DV (IntKind.wrap J x)=DV x:=by
 have h:IntKind.wrap J x=if(t_ && decide (x % (2 ^ 64:Int) ≥ (2 ^ (64 - 1):Int)))=t_ then x % (2 ^ 64:Int) - (2 ^ 64:Int)else x % (2 ^ 64:Int):=(rfl)
 rw[h];unfold DV;omega
theorem YOz(a b:Int):DF .add (I J a) (I J b)=s_ (I J (IntKind.wrap J (a+b))):=by rfl
theorem YJ6(a:Int):LC .neg (I J a)=s_ (I J (IntKind.wrap J (0 - a))):=by simp[LC]
theorem Yih(n:Int):DV (IntKind.wrap J (0 - IntKind.wrap J (n+1)))=JN (DV n):=by rw[vT];have h:=vT (n+1);generalize IntKind.wrap J (n+1)=y at*;unfold DV JN at*;omega
theorem Yar(c:UInt8):DF .sub (I .u8 255) (Dr c)=s_ (Dr (KB c)):=by
 have h:=c.toNat_lt;unfold KB
 show(s_ (D.int .u8 (IntKind.wrap .u8 (255 - (c.toNat:Int)))):Option D)=s_ (I .u8 ((255 - c:UInt8).toNat:Int))
 rw[UInt8.toNat_sub];have e:(255:UInt8).toNat=255:=rfl;rw[e]
 congr 2
 show(255 - (c.toNat:Int)) % 256=_
 omega
def QX(a:UInt8)(B:List UInt8)(j:Nat):D:=if j=0 then O 1 [Dr a] t_ else DY 1 0 ((a::(B.take j).map KB).map Dr)
def QW(a:UInt8)(B:List UInt8)(j:Nat):St:=if j=0 then []else DC 1 ((a::(B.take j).map KB).map Dr)
def kH:List D→Option D:=Dq (α:=Int) (fun a=>[I J a]) (fun a=>True) (fun a=>O (nz 1 ((F4 a).map Dr)) ((F4 a).map Dr) f_)
theorem Ypg(n:Int):kH [I J n]=s_ (O (nz 1 ((F4 n).map Dr)) ((F4 n).map Dr) f_):=
 DK (fun a b h=>by simp only[Aa,D.int.injEq,true_and,and_true]at h; simp[h]) (n) trivial
theorem YHv(n:Int):@wW GG (tb [(213,jU)] []) bR.code (Dm [I J n]) [] ⟨Ds bR.res (O (nz 1 ((F4 n).map Dr)) ((F4 n).map Dr) f_)⟩:=by
 unfold bR
 by_cases hn:0≤n
 ·have hc:=um n;have hl:=lD (DV n);rw[Yvc n hn];generalize DV n=m at*
  push_cast(disch:=lia)[hn,hc,DQ,mQ,Nk]
  generalize C4 (32+(E8 m).length)=x;generalize E8 m=T at*
  by_cases E:T=[]
  ·subst E
   push_cast(disch:=lia)[Ua]
  ·have e3:Eg [] 1 1 (O 1 [Dr x] t_) (O (nz 1 (T.map Dr)) (T.map Dr) f_)=s_ (.row 0 (x::T).length 0 (x::T).length,[⟨t_,1,(x::T).map Dr,f_⟩]):=
    fu Dr [] 1 1 [x] T f_ (nz 1 (T.map Dr)) E (OD _ _) (by decide) (by simp; omega) (by simp; omega)
   generalize hX:x::T=X at e3
   push_cast(disch:=lia)[e3]
 ·have hc:=um (IntKind.wrap J (0 - IntKind.wrap J (n+1)));have hl:=lD (JN (DV n));rw[Yih]at hc;rw[Yvd n hn];generalize JN (DV n)=m at*
  push_cast(disch:=lia)[hn,YOz,YJ6,hc,EI,uE,Nk]
  generalize C4 (31 - (E8 m).length)=x;generalize E8 m=T at*;refine E0 (fun j:Nat=>[(5,O (nz 1 (T.map Dr)) (T.map Dr) f_),(6,QX x T j),(7,I J (j:Int))]) (fun j=>QW x T j) (fun j=>j≤T.length) (fun j=>T.length - j) 0 (by push_cast [↓CX,QX,QW] <;> rfl) (AY _) ?_;intro j hj;have hj:j≤T.length:=hj;unfold tV
  have e6:∀ y:UInt8,Eg [] 1 1 (O 1 [Dr x] t_) (O 1 [Dr y] t_)=s_ (.row 0 2 0 2,[⟨t_,1,[Dr x,Dr y],f_⟩]):=fun y=>
   fu Dr [] 1 1 [x] [y] t_ 1 (by simp) (.inl rfl) (by decide) (by simp) (by simp)
  by_cases h2:j<T.length
  ·have ac:=Lw T h2;have M:=fun st=>KO st 1 Dr T f_ J (j:Int) (by omega) (by omega);rw[AI]at M;obtain⟨y,hy⟩:∃ y,T.getD j default=y:=⟨_,rfl⟩;rw[hy]at ac M;have N:(j:Int)<(T.length:Int):=by omega
   have aa:QX x T (j+1)=DY 1 0 ((x::(T.take j).map KB++[KB y]).map Dr)∧QW x T (j+1)=DC 1 ((x::(T.take j).map KB++[KB y]).map Dr):=by
    unfold QX QW;grind
   rcases BV j with rfl|ah
   ·rw[show(((0:Nat)):Int)=0 from rfl]at M N
    push_cast(disch:=lia)[↓CX,QX,QW,N,M,Ru,Pa,Po,Yar,Nk,e6,DQ]
    refine EB 1 (by show 1≤T.length; omega) (by show T.length - 1<T.length - 0; omega) ?_;rw[aa.1,aa.2];rfl
   ·rw[show QX x T j=DY 1 0 ((x::(T.take j).map KB).map Dr)from YYN,show QW x T j=DC 1 ((x::(T.take j).map KB).map Dr)from YYN];have hA:(x::(T.take j).map KB).length≤16:=by simp; omega
    generalize x::(T.take j).map KB=A at*
    push_cast(disch:=lia)[N,M,Ru,Pa,Po,Yar,Nk,DQ]
    refine EB (j+1) (by show j+1≤T.length; omega) (by show T.length - (j+1)<T.length - j; omega) ?_;grind
  ·obtain rfl:j=T.length:=by omega
   by_cases E:T=[]
   ·subst E
    push_cast(disch:=lia)[QX,QW]
   ·have:=Cz.2 E;rw[show QX x T T.length=DY 1 0 ((x::(T.take T.length).map KB).map Dr)from YYN,show QW x T T.length=DC 1 ((x::(T.take T.length).map KB).map Dr)from YYN,AR]
    push_cast(disch:=lia)[eq_false (Int.lt_irrefl (T.length:Int)),decide_false]
theorem YNp:Contract Tryz.prog GG 212 kH:=
 DM yre (DD (all_cons YNz all_nil) all_nil) (fun a h=>YHv a)
def TX:List D→Option D:=Dq (α:=Int) (fun a=>[I J a]) (fun a=>True) (fun a=>Dn (.int a))
theorem U5(n:Int):TX [I J n]=s_ (Dn (.int n)):=
 DK (fun a b h=>by simp only[Aa,D.int.injEq,true_and,and_true]at h; simp[h]) (n) trivial
theorem oK(n:Int):@wW GG (tb [] []) aE.code (Dm [I J n]) [] ⟨Ds aE.res (Dn (.int n))⟩:=by
 unfold aE;rw[Ml]
 push_cast(disch:=lia)[QH,Yc1,Ti,MK]
 rfl
theorem PU:Contract Tryz.prog GG 174 TX:=
 DM ywy (DD all_nil all_nil) (fun a h=>oK a)
def gm:List D→Option D:=Dq (α:=List Val) (fun a=>[O (nz 4 (a.map Dn)) (a.map Dn) f_]) (fun a=>True) (fun a=>Dn (.list a))
theorem Ype(l:List Val):gm [O (nz 4 (l.map Dn)) (l.map Dn) f_]=s_ (Dn (.list l)):=
 DK (fun a b h=>by simp only[Aa,D.slc.injEq,and_true,mB]at h; simp[h]) (l) trivial
theorem oJ(l:List Val):@wW GG (tb [] []) ay.code (Dm [O (nz 4 (l.map Dn)) (l.map Dn) f_]) [] ⟨Ds ay.res (Dn (.list l))⟩:=by
 unfold ay;rw[NA]
 push_cast(disch:=lia)[QH,Yc2,Ti,MK]
 rfl
theorem XU:Contract Tryz.prog GG 176 gm:=
 DM ywc (DD all_nil all_nil) (fun a h=>oJ a)
def Yv:List D→Option D:=Dq (α:=Dig) (fun a=>[Dl a]) (fun a=>True) (fun a=>Dn (.bytes a.bs))
theorem iX(d:Dig):Yv [Dl d]=s_ (Dn (.bytes d.bs)):=
 DK (fun a b h=>by simp only[Aa,Kt,and_true]at h; simp[h]) (d) trivial
theorem oL(d:Dig):@wW GG (tb [] []) aQ.code (Dm [Dl d]) [] ⟨Ds aQ.res (Dn (.bytes d.bs))⟩:=by
 unfold aQ;rw[Mq]
 push_cast(disch:=lia)[QH,n7,Yc4,Ti,MK,Ydh,wH]
 rfl
theorem Sa:Contract Tryz.prog GG 173 Yv:=
 DM ytw (DD all_nil all_nil) (fun a h=>oL a)
theorem yV:((1:Int)=2)=False:=by simp
theorem yU:((1:Int)=3)=False:=by simp
theorem yT:((2:Int)=3)=False:=by simp
def dF(N:Nat):List D→Option D:=Dq (α:=Val) (fun v=>[Dn v]) (fun v=>DX v<N∧(Dz v).length≤4294967000) (fun _=>V t_)
theorem uv(N:Nat)(v:Val)(h:DX v<N∧(Dz v).length≤4294967000):dF N [Dn v]=s_ (V t_):=
 DK (fun a b h=>by simp only[Aa,and_true,Ou]at h; rw[h]) v h
def dB(N:Nat):List D→Option D:=Dq (α:=Val) (fun v=>[Dn v]) (fun v=>DX v<N∧(Dz v).length≤4294967000) (fun v=>I J (DX v:Int))
theorem ur(N:Nat)(v:Val)(h:DX v<N∧(Dz v).length≤4294967000):dB N [Dn v]=s_ (I J (DX v:Int)):=
 DK (fun a b h=>by simp only[Aa,and_true,Ou]at h; rw[h]) v h
def Vh(N:Nat):List D→Option D:=Dq (α:=Val) (fun v=>[Dn v]) (fun v=>DX v<N∧(Dz v).length≤4294967000) (fun v=>LI (Dz v))
theorem mG(N:Nat)(v:Val)(h:DX v<N∧(Dz v).length≤4294967000):Vh N [Dn v]=s_ (LI (Dz v)):=
 DK (fun a b h=>by simp only[Aa,and_true,Ou]at h; rw[h]) v h
variable {i:Nat}{l:List Val}
theorem lV{N:Nat}(M:DX (.list l)<N+1)(hl:(Dz (.list l)).length≤4294967000)(hi:i<l.length):DX (l.getD i default)<N∧(Dz (l.getD i default)).length≤4294967000:=by
 have E:l.getD i default∈l:=by rw[Ai,Aj hi]; exact Bv hi
 have aa:=eZ E;have ab:=lG E;rw[SL]at M;rw[LU]at hl;grind
theorem Yby(hl:(Dz (.list l)).length≤4294967000):l.length≤4294967000:=by have E:=T7 l;rw[LU]at hl;grind
theorem zZ:∀ N:Nat,Contract Tryz.prog GG 210 (dF N)
 |0=>by
  intro w g ds vs d hd;obtain⟨a,_,hp,_⟩:=Sw hd;omega
 |N+1=>by
  refine DM (T:=tb [(210,dF N)] []) yt7 (DD (all_cons (zZ N) all_nil) all_nil) ?_;rintro v ⟨hN,hl⟩;unfold tn
  cases v with
  |int n=>
   rw[Ml]
   push_cast(disch:=lia)[Jo,Ki,Qt,Lf,yV,yU]
   refine E0 (fun i:Nat=>[(1,Y 0 0),(3,I J 0)]) (fun _=>[⟨f_,1,vC 1 n [] [],f_⟩]) (fun _=>True) (fun _=>0) 0 (by push_cast [O9,Pt] <;> rfl) trivial ?_;intro i hi;unfold cn
   push_cast(disch:=lia)[Ki,Lf]
  |bytes b=>
   rw[Mq]
   push_cast(disch:=lia)[Jo,Ki,TU,Lf,TO,yT]
   refine E0 (fun i:Nat=>[(1,Y 0 0),(3,I J 0)]) (fun _=>[⟨f_,1,vC 2 0 (b.map Dr) [],f_⟩]) (fun _=>True) (fun _=>0) 0 (by push_cast [O9,Pt] <;> rfl) trivial ?_;intro i hi;unfold cn
   push_cast(disch:=lia)[Ki,Lf,TO]
  |list l=>
   rw[NA];have af:=Yby hl
   push_cast(disch:=lia)[Jo,Ki,TU,Qt,Xn,Xm]
   refine E0 (fun i:Nat=>[(1,Y 0 0),(3,I J (i:Int))]) (fun _=>[⟨f_,1,vC 3 0 [] (l.map Dn),f_⟩]) (fun i=>i≤l.length) (fun i=>l.length - i) 0 (by push_cast [↓CX,O9,Pt] <;> rfl) (by omega) ?_;intro i hi;unfold cn
   push_cast(disch:=lia)[Lf]
   refine Ew (fun h2=>?_) (fun h2=>?_)
   ·have E:i<l.length:=by omega
    have M:=Yh [⟨f_,1,vC 3 0 [] (l.map Dn),f_⟩] l f_ i E;have hc:=uv N _ (lV hN hl E);obtain⟨x,aa⟩:∃ x,l.getD i default=x:=⟨_,rfl⟩;rw[aa]at M hc;obtain⟨k,n,B,L,hC,hD⟩:=LV x;rw[hD]at M hc
    push_cast(disch:=lia)[M,Lf,Yp,NL,hc,DQ]
    refine EB (i+1) (by omega) (by omega) ?_;rfl
   ·obtain rfl:i=l.length:=by omega
    push_cast(disch:=lia)[Ki,Xn,Xm]
theorem zu:∀ N:Nat,Contract Tryz.prog GG 211 (dB N)
 |0=>by
  intro w g ds vs d hd;obtain⟨a,_,hp,_⟩:=Sw hd;omega
 |N+1=>by
  refine DM (T:=tb [(211,dB N)] []) yrf (DD (all_cons (zu N) all_nil) all_nil) ?_;rintro v ⟨hN,hl⟩;unfold tp
  cases v with
  |int n=>
   rw[Ml,Ydb]
   push_cast(disch:=lia)[Jo]
   refine E0 (fun i:Nat=>[(1,Y 0 0),(3,I J 0),(4,I J 0)]) (fun _=>[⟨f_,1,vC 1 n [] [],f_⟩]) (fun _=>True) (fun _=>0) 0 (by push_cast [O9,Pt] <;> rfl) trivial ?_;intro i hi;unfold cH
   push_cast(disch:=lia)[↓CX,Ki,Lf,yU]
  |bytes b=>
   rw[Mq,wV]
   push_cast(disch:=lia)[Jo]
   refine E0 (fun i:Nat=>[(1,Y 0 0),(3,I J 0),(4,I J 0)]) (fun _=>[⟨f_,1,vC 2 0 (b.map Dr) [],f_⟩]) (fun _=>True) (fun _=>0) 0 (by push_cast [O9,Pt] <;> rfl) trivial ?_;intro i hi;unfold cH
   push_cast(disch:=lia)[↓CX,Ki,Lf,yT]
  |list l=>
   rw[NA,SL];have a1:=Yby hl;have ac:=Yda (.list l);rw[SL]at ac
   push_cast(disch:=lia)[Jo]
   refine E0 (fun i:Nat=>[(1,Y 0 0),(3,I J (HL (l.take i):Int)),(4,I J (i:Int))]) (fun _=>[⟨f_,1,vC 3 0 [] (l.map Dn),f_⟩]) (fun i=>i≤l.length) (fun i=>l.length - i) 0 (by push_cast [↓CX,O9,Pt] <;> rfl) (by omega) ?_;intro i hi;unfold cH
   push_cast(disch:=lia)[Lf]
   refine Ew (fun h2=>?_) (fun h2=>?_)
   ·have E:i<l.length:=by omega
    have hx:=Yh [⟨f_,1,vC 3 0 [] (l.map Dn),f_⟩] l f_ i E;have hc:=ur N _ (lV hN hl E);have M:=Lw l E;obtain⟨x,ad⟩:∃ x,l.getD i default=x:=⟨_,rfl⟩;rw[ad]at hx hc M;have aa:=wX (l.take i) x;rw[← M]at aa;obtain⟨k,n,B,L,hC,hD⟩:=LV x;rw[hD]at hx hc
    push_cast(disch:=lia)[hx,Lf,Yp,NL,hc,DQ]
    refine EB (i+1) (by omega) (by omega) ?_;rw[show((HL (l.take (i+1)):Nat):Int)=max (HL (l.take i):Int) (DX x:Int) by rw[aa]; omega];rfl
   ·obtain rfl:i=l.length:=by omega
    rw[show l.take l.length=l from AR]
    push_cast(disch:=lia)[Ki,DQ]
theorem TA(o:PI.Obj)(A B:List UInt8)(sz:Nat)(t:Bool)(hs:sz=1∨B.map Dr=[])(E:A≠[])(hl:A.length+B.length≤4294967296):Eg [o,⟨t_,1,A.map Dr,f_⟩] 1 1 (.row 1 A.length 0 A.length) (O sz (B.map Dr) t)=s_ (.row 1 (A++B).length 0 (A++B).length,[o,⟨t_,1,(A++B).map Dr,f_⟩]):=by
 have h:=SE Dr 1 1 1 A B t (by decide) (by omega) hl [o] sz hs;have M:A.map Dr≠[]:=by simpa using E
 have N:(A++B).map Dr≠[]:=by simp[E]
 rw[Mc _ _ _ M,LO _ _ M,Mc _ _ _ N,LO _ _ N,A7,A7]at h;exact h
theorem Ybl(o:PI.Obj)(x:UInt8):Eg [o] 1 1 (O 1 [] t_) (O 1 [Dr x] t_)=s_ (.row 1 1 0 1,[o,⟨t_,1,[Dr x],f_⟩]):=
 yYm Dr [o] 1 1 1 x t_ (by decide) (by decide)
theorem Ynx(b:List UInt8)(h:i<b.length):((b.take i).flatMap D9).length+(D9 (b.getD i default)).length≤(b.flatMap D9).length:=mT D9 b h
theorem pM:∀ N:Nat,Contract Tryz.prog GG 204 (Vh N)
 |0=>by
  intro w g ds vs d hd;obtain⟨a,_,hp,_⟩:=Sw hd;omega
 |N+1=>by
  refine DM (T:=tb [(204,Vh N),(212,kH)] []) yt9 (DD (all_cons (pM N) (all_cons YNp all_nil)) all_nil) ?_;rintro v ⟨hN,hl⟩;unfold td LI
  cases v with
  |int n=>
   have hc:=Ypg n;rw[Ml,e9]
   push_cast(disch:=lia)[Jo,Ki,TU,hc]
  |bytes b=>
   rw[Mq,SO];rw[SO]at hl;simp only[Ak,Ac,Ar]at hl;have a6:=lF b;obtain⟨o,ho⟩:∃ o:PI.Obj,o=⟨f_,1,vC 2 0 (b.map Dr) [],f_⟩:=⟨_,rfl⟩;obtain⟨A,E⟩:∃ A:Nat→List UInt8,∀ j,A j=48::(b.take j).flatMap D9:=⟨_,fun _=>rfl⟩;have a0:=Ybl o 48;rw[X5,ho]at a0
   push_cast(disch:=lia)[Jo,Ki,TO,Qv,a0]
   refine E0 (fun j:Nat=>[(1,Y 0 0),(3,.row 1 (A j).length 0 (A j).length),(4,I J (j:Int))]) (fun j=>[⟨f_,1,vC 2 0 (b.map Dr) [],f_⟩,⟨t_,1,(A j).map Dr,f_⟩]) (fun j=>j≤b.length) (fun j=>b.length - j) 0 (by rw[E]; push_cast [↓CX,O9,Pt] <;> rfl) (AY _) ?_;intro j hj;unfold tO
   push_cast(disch:=lia)[Qt]
   refine Ew (fun h2=>?_) (fun h2=>?_)
   ·have ac:j<b.length:=by omega
    have hx:=fun st=>KO st 1 Dr b f_ J (j:Int) (by omega) (by omega);rw[AI]at hx;have af:=Lw b ac;have hle:=Ynx b ac;obtain⟨c,hc⟩:∃ c,b.getD j default=c:=⟨_,rfl⟩;rw[hc]at hx af hle;have hn:A (j+1)=A j++D9 c:=by rw[E,E,af]; simp
    have hA:(A j).length≤4294967000:=by rw[E]; simp only[Ak]; omega
    have ab:A j≠[]:=by rw[E]; simp
    generalize A j=A at*
    by_cases h0:c=0
    ·subst h0;have M:=TA o A [0] 1 t_ (.inl rfl) ab (by simp; omega);have e1:=TA o (A++[0]) [255] 1 t_ (.inl rfl) (by simp) (by simp; omega);have b0:DF .eql (Dr 0) (I .u8 0)=s_ (V t_):=(rfl);rw[ho]at M e1;simp only[Aw,Ba]at M e1;rw[YOi]at e1
     push_cast(disch:=lia)[hx,Qt,Ru,Pa,Po,Nk,Qv,b0,M,e1,DQ]
     refine EB (j+1) (by omega) (by omega) ?_;rw[hn,show A++D9 0=A++[0]++[255] by simp[D9]];rfl
    ·have M:=TA o A [c] 1 t_ (.inl rfl) ab (by simp; omega);rw[ho]at M;simp only[Aw,Ba]at M
     push_cast(disch:=lia)[hx,Qt,Ru,Pa,Po,Nk,pP,eq_false h0,decide_false,M,DQ]
     refine EB (j+1) (by omega) (by omega) ?_;rw[hn,show A++D9 c=A++[c] by simp[D9,h0]];rfl
   ·obtain rfl:j=b.length:=by omega
    have aa:=E b.length;rw[AR]at aa;have hA:(A b.length).length≤4294967000:=by rw[aa]; simp only[Ak]; omega
    rw[show(48::(b.flatMap D9++[0,0]):List UInt8)=(48::b.flatMap D9)++[0,0]from rfl,← aa];have ab:A b.length≠[]:=by rw[aa]; simp
    generalize A b.length=A at*;have M:=TA o A [0,0] 1 t_ (.inl rfl) ab (by simp; omega);rw[ho]at M;simp only[Aw,Ba,fU]at M
    push_cast(disch:=lia)[zN,M]
  |list l=>
   have a5:=fun(i:Nat) (hi:i<l.length)=>lV hN hl hi;rw[NA,LU];rw[LU]at hl;simp only[Ak,Ac,Ar]at hl;have a6:=T7 l;obtain⟨o,ho⟩:∃ o:PI.Obj,o=⟨f_,1,vC 3 0 [] (l.map Dn),f_⟩:=⟨_,rfl⟩;obtain⟨A,E⟩:∃ A:Nat→List UInt8,∀ j,A j=64::(l.take j).flatMap Dz:=⟨_,fun _=>rfl⟩;have a1:=Ybl o 64;rw[X4,ho]at a1
   push_cast(disch:=lia)[Jo,Ki,Xn,Xm,Qv,a1]
   refine E0 (fun j:Nat=>[(1,Y 0 0),(3,.row 1 (A j).length 0 (A j).length),(5,I J (j:Int))]) (fun j=>[⟨f_,1,vC 3 0 [] (l.map Dn),f_⟩,⟨t_,1,(A j).map Dr,f_⟩]) (fun j=>j≤l.length) (fun j=>l.length - j) 0 (by rw[E]; push_cast [↓CX,O9,Pt] <;> rfl) (AY _) ?_;intro j hj;unfold tP
   push_cast(disch:=lia)[Lf]
   refine Ew (fun h2=>?_) (fun h2=>?_)
   ·have ac:j<l.length:=by omega
    have hx:=fun st=>Yh st l f_ j ac;have af:=Lw l ac;have hle:=mT Dz l ac;have hc:=mG N _ (a5 j ac);obtain⟨x,a7⟩:∃ x,l.getD j default=x:=⟨_,rfl⟩;rw[a7]at hx af hle hc;have hn:A (j+1)=A j++Dz x:=by rw[E,E,af]; simp
    have hA:(A j).length+(Dz x).length≤4294967000:=by rw[E]; simp only[Ak]; omega
    have ab:A j≠[]:=by rw[E]; simp
    generalize A j=A at*;generalize Dz x=X at*;have ea:=TA o A X (nz 1 (X.map Dr)) f_ (OD _ _) ab (by omega);rw[ho]at ea;obtain⟨k,n,B,L,hC,hD⟩:=LV x;rw[hD]at hx hc;unfold LI at hc
    push_cast(disch:=lia)[hx,Lf,Yp,NL,QN,hc,ea,DQ]
    refine EB (j+1) (by omega) (by omega) ?_;rw[hn];rfl
   ·obtain rfl:j=l.length:=by omega
    have aa:=E l.length;rw[AR]at aa;have hA:(A l.length).length≤4294967000:=by rw[aa]; simp only[Ak]; omega
    rw[show(64::(l.flatMap Dz++[0]):List UInt8)=(64::l.flatMap Dz)++[0]from rfl,← aa];have ab:A l.length≠[]:=by rw[aa]; simp
    generalize A l.length=A at*;have M:=TA o A [0] 1 t_ (.inl rfl) ab (by simp; omega);rw[ho]at M;simp only[Aw,Ba,fU]at M
    push_cast(disch:=lia)[Qv,M]
def jS:List D→Option D:=Dq (α:=Val) (fun a=>[Dn a]) (fun a=>DX a≤16∧(Dz a).length≤4294967000) (fun a=>I J (Ke a))
theorem Ypp(v:Val)(h:DX v≤16∧(Dz v).length≤4294967000):jS [Dn v]=s_ (I J (Ke v)):=
 DK (fun a b h=>by simp only[Aa,and_true,Ou]at h; simp[h]) (v) h
theorem YN2:Contract Tryz.prog GG 203 jS:=by
 refine DM (T:=tb [(210,dF 17),(211,dB 17),(204,Vh 17)] []) yt8 (DD (all_cons (zZ 17) (all_cons (zu 17) (all_cons (pM 17) all_nil))) all_nil) ?_;rintro v ⟨hd,hl⟩;unfold tl Ke;obtain⟨k,n,B,M,hC,hD⟩:=LV v;have h1:=uv 17 v ⟨by omega,hl⟩;have h2:=ur 17 v ⟨by omega,hl⟩;have E:=mG 17 v ⟨by omega,hl⟩;unfold LI at E;rw[hD]at h1 h2 E;rw[hD];have N:¬ ((16:Int)<(DX v:Int)):=by omega
 by_cases h4:(Dz v).length≤65536
 ·rw[if_pos h4];have h5:¬ ((65536:Int)<((Dz v).length:Int)):=by omega
  push_cast(disch:=lia)[Jo,Ka,NL,QN,h1,h2,E,N,h5,decide_false]
 ·rw[if_neg h4];have h5:((65536:Int)<((Dz v).length:Int)):=by omega
  push_cast(disch:=lia)[Jo,Ka,NL,QN,h1,h2,E,N,h5,decide_false,decide_true]
def jX:List D→Option D:=Dq (α:=Val) (fun a=>[Dn a]) (fun a=>DX a≤16∧(Dz a).length≤4294967000) (fun a=>.tup [LI (H9 a),I J (Ke a)])
theorem Ypm(v:Val)(h:DX v≤16∧(Dz v).length≤4294967000):jX [Dn v]=s_ (.tup [LI (H9 v),I J (Ke v)]):=
 DK (fun a b h=>by simp only[Aa,and_true,Ou]at h; simp[h]) (v) h
theorem YNw:Contract Tryz.prog GG 194 jX:=by
 refine DM (T:=tb [(203,jS),(204,Vh 17)] []) ysc (DD (all_cons YN2 (all_cons (pM 17) all_nil)) all_nil) ?_;rintro v ⟨hd,hl⟩;unfold th;obtain⟨k,n,B,M,hC,hD⟩:=LV v;have N:=Ypp v ⟨hd,hl⟩;have h3:=mG 17 v ⟨by omega,hl⟩;unfold LI at h3;unfold Ke H9 LI at*;rw[hD]at N h3;dsimp only;rw[hD]
 by_cases E:(Dz v).length≤65536
 ·rw[if_pos E]at N;rw[if_pos E,if_pos E]
  push_cast(disch:=lia)[Jo,Ka,NL,QN,N,h3]
 ·rw[if_neg E]at N;rw[if_neg E,if_neg E]
  push_cast(disch:=lia)[Jo,Ka,NL,N,decide_false]
def OT:List D→Option D:=Dq (α:=List UInt8×List Val) (fun a=>[.str a.1,O (nz 4 (a.2.map Dn)) (a.2.map Dn) f_]) (fun a=>a.1.length≤1000∧DX (.list a.2)≤16∧(Dz (.list a.2)).length≤4294967000) (fun a=>Dl (Le a.1 (.list a.2)))
theorem mJ(t:List UInt8)(l:List Val)(h:t.length≤1000∧DX (.list l)≤16∧(Dz (.list l)).length≤4294967000):OT [.str t,O (nz 4 (l.map Dn)) (l.map Dn) f_]=s_ (Dl (Le t (.list l))):=
 DK (fun⟨a0,a1⟩ ⟨b0,b1⟩ h=>by simp only[Aa,D.slc.injEq,D.str.injEq,and_true,mB]at h; simp[h]) (t,l) h
theorem YHx(t:List UInt8)(l:List Val)(h:t.length≤1000∧DX (.list l)≤16∧(Dz (.list l)).length≤4294967000):@wW GG (tb [(176,gm),(194,jX),(102,SV)] []) bL.code (Dm [.str t,O (nz 4 (l.map Dn)) (l.map Dn) f_]) [] ⟨Ds bL.res (Dl (Le t (.list l)))⟩:=by
 unfold bL Le;have E:=Ype l;have M:=Ypm (.list l) h.2
 have hl:(H9 (.list l)).length≤65536:=by
  unfold H9;grind
 have N:=iF t (H9 (.list l)) (by omega);have hi:=fun st=>No st (.list l);have hk:=Ns (.list l);generalize (.list l:Val)=v at*
 push_cast(disch:=lia)[E,hi,hk,M,LI,N]
theorem gD:Contract Tryz.prog GG 172 OT:=
 DM yrw (DD (all_cons XU (all_cons YNw (all_cons mF all_nil))) all_nil) (fun a h=>YHx a.1 a.2 h)
theorem Xp(t:List UInt8)(a b c d:Val)(h:t.length≤1000∧DX (.list [a,b,c,d])≤16∧(Dz (.list [a,b,c,d])).length≤4294967000):OT [.str t,O 4 [Dn a,Dn b,Dn c,Dn d] f_]=s_ (Dl (Le t (.list [a,b,c,d]))):=mJ t [a,b,c,d] h
theorem YLn(t:List UInt8)(a b:Val)(h:t.length≤1000∧DX (.list [a,b])≤16∧(Dz (.list [a,b])).length≤4294967000):OT [.str t,O 4 [Dn a,Dn b] f_]=s_ (Dl (Le t (.list [a,b]))):=mJ t [a,b] h
theorem Xo(t:List UInt8)(a b c d e f g i:Val)(h:t.length≤1000∧DX (.list [a,b,c,d,e,f,g,i])≤16∧(Dz (.list [a,b,c,d,e,f,g,i])).length≤4294967000):OT [.str t,O 4 [Dn a,Dn b,Dn c,Dn d,Dn e,Dn f,Dn g,Dn i] f_]=s_ (Dl (Le t (.list [a,b,c,d,e,f,g,i]))):=mJ t [a,b,c,d,e,f,g,i] h
theorem jc(x:Ins)(st:St):FE st 1 (.eptr (Dk x) 0)=s_ (.eptr (Dk x) 1):=(rfl)
theorem YEk(x:Ins)(st:St):FE st 2 (.eptr (Dk x) 0)=s_ (.eptr (Dk x) 2):=(rfl)
theorem jA(st:St)(x:Ins):FL st 1 f_ (.eptr (Dk x) 1)=s_ (I J x.n):=(rfl)
theorem YB2(st:St)(x:Ins):FL st 1 f_ (.eptr (Dk x) 2)=s_ (I J x.m):=(rfl)
def j2:List D→Option D:=Dq (α:=List Ins) (fun a=>[O (nz 3 (a.map Dk)) (a.map Dk) f_]) (fun a=>a.length≤4294967296) (fun a=>Dl (JP a))
theorem Yo6(c:List Ins)(h:c.length≤4294967296):j2 [O (nz 3 (c.map Dk)) (c.map Dk) f_]=s_ (Dl (JP c)):=
 DK (fun a b h=>by simp only[Aa,D.slc.injEq,and_true,Ha]at h; simp[h]) (c) h
theorem YHg(c:List Ins)(h:c.length≤4294967296):@wW GG (tb [(174,TX),(173,Yv),(172,OT)] []) bT.code (Dm [O (nz 3 (c.map Dk)) (c.map Dk) f_]) [] ⟨Ds bT.res (Dl (JP c))⟩:=by
 unfold bT
 push_cast(disch:=lia)
 refine E0 (fun i:Nat=>[(0,O (nz 3 (c.map Dk)) (c.map Dk) f_),(2,Y 0 0),(3,Y 1 0),(4,I J (i:Int))])
  (fun i=>[⟨f_,1,Dj DH,f_⟩,⟨f_,1,Dj (JP (c.take i)),f_⟩]) (fun i=>i≤c.length) (fun i=>c.length - i) 0 (by push_cast [↓CX] <;> rfl) (by omega) ?_
 intro i hi;unfold tW
 push_cast(disch:=lia)
 refine Ew (fun h2=>?_) (fun h2=>?_)
 ·have E:i<c.length:=by omega
  have N:=fun st=>Nn st c f_ i E;have M:=Lw c E;obtain⟨x,aa⟩:∃ x,c.getD i default=x:=⟨_,rfl⟩;rw[aa]at N M;have hh:=Xp T0 (.int x.op) (.int x.n) (.int x.m) (.bytes (JP (c.take i)).bs) (Ybf _ _);simp only[T0]at hh
  push_cast(disch:=lia)[N,Me,jc,YEk,Mj,jA,YB2,U5,iX,No,Ns,YKl,hh,DQ]
  refine EB (i+1) (by omega) (by omega) ?_;rw[M,xn];rfl
 ·obtain rfl:i=c.length:=by omega
  rw[show(c.take c.length)=c from AR]
  push_cast(disch:=lia)
theorem YNf:Contract Tryz.prog GG 154 j2:=
 DM yrc (DD (all_cons PU (all_cons Sa (all_cons gD all_nil))) all_nil) (fun a h=>YHg a h)
def eM:List D→Option D:=Dq (α:=Dig×List Int) (fun a=>[Dl a.1,O (nz 1 (a.2.map nI)) (a.2.map nI) f_]) (fun a=>a.2.length≤4294967296) (fun a=>Dl (Hy a.1 a.2))
theorem wm(d:Dig)(l:List Int)(h:l.length≤4294967296):eM [Dl d,O (nz 1 (l.map nI)) (l.map nI) f_]=s_ (Dl (Hy d l)):=
 DK (fun⟨a0,a1⟩ ⟨b0,b1⟩ h=>by simp only[Aa,D.slc.injEq,Kt,and_true,P8]at h; simp[h]) (d,l) h
theorem Yzy(d:Dig)(l:List Int)(h:l.length≤4294967296):@wW GG (tb [(174,TX),(173,Yv),(172,OT)] []) aC.code (Dm [Dl d,O (nz 1 (l.map nI)) (l.map nI) f_]) [] ⟨Ds aC.res (Dl (Hy d l))⟩:=by
 unfold aC
 push_cast(disch:=lia)
 refine E0 (fun i:Nat=>[(1,O (nz 1 (l.map nI)) (l.map nI) f_),(2,Y 0 0),(4,Y 1 0),(5,I J (i:Int))])
  (fun i=>[⟨f_,1,Dj (Hy d (l.take i)),f_⟩,⟨f_,1,Dj DH,f_⟩]) (fun i=>i≤l.length) (fun i=>l.length - i) 0 (by push_cast [↓CX] <;> rfl) (by omega) ?_
 intro i hi;unfold tu
 push_cast(disch:=lia)
 refine Ew (fun h2=>?_) (fun h2=>?_)
 ·have E:i<l.length:=by omega
  have N:=fun st=>RF st l f_ i E;have M:=Lw l E;obtain⟨x,aa⟩:∃ x,l.getD i default=x:=⟨_,rfl⟩;rw[aa]at N M;have hh:=YLn My (.int x) (.bytes (Hy d (l.take i)).bs) (Ybs _ _);simp only[My]at hh
  push_cast(disch:=lia)[N,KK,U5,iX,No,Ns,gd,hh,DQ]
  refine EB (i+1) (by omega) (by omega) ?_;rw[M,wN];rfl
 ·obtain rfl:i=l.length:=by omega
  rw[show(l.take l.length)=l from AR]
  push_cast(disch:=lia)
theorem Yqc:Contract Tryz.prog GG 175 eM:=
 DM yv8 (DD (all_cons PU (all_cons Sa (all_cons gD all_nil))) all_nil) (fun a h=>Yzy a.1 a.2 h)
def j6:List D→Option D:=Dq (α:=List Int) (fun a=>[O (nz 1 (a.map nI)) (a.map nI) f_]) (fun a=>a.length≤4294967296) (fun a=>Dl (Hy DH a))
theorem Yo2(l:List Int)(h:l.length≤4294967296):j6 [O (nz 1 (l.map nI)) (l.map nI) f_]=s_ (Dl (Hy DH l)):=
 DK (fun a b h=>by simp only[Aa,D.slc.injEq,and_true,P8]at h; simp[h]) (l) h
theorem YHb(l:List Int)(h:l.length≤4294967296):@wW GG (tb [(175,eM)] []) aP.code (Dm [O (nz 1 (l.map nI)) (l.map nI) f_]) [] ⟨Ds aP.res (Dl (Hy DH l))⟩:=by
 unfold aP;have hc:=wm DH l h
 push_cast(disch:=lia)[hc]
theorem YNb:Contract Tryz.prog GG 156 j6:=
 DM ytx (DD (all_cons Yqc all_nil) all_nil) (fun a h=>YHb a h)
theorem zG(v:Int×List Int)(h:i<v.2.length):DJ (s_ ⟨f_,1,Ev v,f_⟩) 1 f_ (1+i)=s_ (I J (v.2.getD i default)):=by
 have e:Ev v=(I J v.1::(v.2.take i).map nI)++(nI (v.2.getD i default)::(v.2.drop (i+1)).map nI):=by
  have E:v.2=v.2.take i++v.2.drop i:=(Bu _ _).symm;rw[Bf h]at E;have M:=congrArg (fun l=>D.int J v.1::l.map nI) E;rw[Ai,Aj h];refine Eq.trans (show Ev v=D.int J v.1::(v.2.take i++v.2[i]::v.2.drop (i+1)).map nI from M) ?_;grind
 rw[e];exact JW (A:=I J v.1::(v.2.take i).map nI) (C:=(v.2.drop (i+1)).map nI) rfl (by simp; omega)
def kE:List D→Option D:=Dq (α:=(Int×List Int)) (fun a=>[D6 a]) (fun a=>a.2.length=16) (fun a=>Dl (Iq a))
theorem Yph(v:Int×List Int)(h:v.2.length=16):kE [D6 v]=s_ (Dl (Iq v)):=
 DK (fun a b h=>by simp only[Aa,and_true,Hz]at h; simp[h]) (v) h
theorem YHw(v:Int×List Int)(h:v.2.length=16):@wW GG (tb [(174,TX),(176,gm),(172,OT)] []) bI.code (Dm [D6 v]) [] ⟨Ds bI.res (Dl (Iq v))⟩:=by
 unfold bI;have hh:=YLn Mz (.int v.1) (.list (v.2.map .int)) (Yml v h);simp only[Mz]at hh
 push_cast(disch:=lia)[D5]
 refine E0 (fun i:Nat=>[(1,Y 0 0),(2,Y 1 0),(3,DY 0 2 ((v.2.take i).map (Dn ∘ Val.int))),(4,I J (i:Int))])
  (fun i=>⟨f_,1,Ev v,f_⟩::⟨f_,1,Dj DH,f_⟩::DC 4 ((v.2.take i).map (Dn ∘ Val.int))) (fun i=>i≤16) (fun i=>16 - i) 0 (by push_cast [↓CX,gM,cY] <;> rfl) (by omega) ?_
 intro i hi;unfold tL
 push_cast(disch:=lia)
 refine Ew (fun h2=>?_) (fun h2=>?_)
 ·have N:i<v.2.length:=by omega
  have aa:=Lw v.2 N;have hx:=zG v N;have ab:=fun st=>KT st 16 0 1 J (i:Int) (by omega) (by omega);rw[AI]at ab;obtain⟨x,ae⟩:∃ x,v.2.getD i default=x:=⟨_,rfl⟩;rw[ae]at hx aa;have M:=jw (f:=Dn ∘ Val.int) (sz:=4) (sz0:=0) (bytes:=64) (A:=v.2.take i) (x:=x) (t:=t_) (a:=⟨f_,1,Ev v,f_⟩) (b:=⟨f_,1,Dj DH,f_⟩) (hs0:=by decide) (hb:=by rw[AA]; omega) (hl:=by rw[AA]; omega);simp only[Function.comp_apply]at M
  push_cast(disch:=lia)[ab,hx,U5,No,Ns,zM,M,DQ]
  refine EB (i+1) (by omega) (by omega) ?_;rw[aa]
  push_cast [gM,cY] <;> rfl
 ·obtain rfl:i=16:=by omega
  rw[show(v.2.take 16)=v.2 from AL (by omega)];have hb:Ej (⟨f_,1,Ev v,f_⟩::⟨f_,1,Dj DH,f_⟩::DC 4 (v.2.map (Dn ∘ Val.int))) (DY 0 2 (v.2.map (Dn ∘ Val.int)))=s_ (O (nz 4 (v.2.map (Dn ∘ Val.int))) (v.2.map (Dn ∘ Val.int)) f_):=pU _ _ 4 0 _;have hl:=Ype (v.2.map Val.int);rw[CG]at hl
  have E:v.2.map (Dn ∘ Val.int)≠[]:=by
   intro e;simp_all
  rw[Mc _ _ _ E,LO _ _ E]at hb
  push_cast(disch:=lia)[↓CX,Mc _ _ _ E,LO _ _ E,vz,S4,U5,No,Ns,hl,gd,hh]
  rfl
theorem YNq:Contract Tryz.prog GG 155 kE:=
 DM yrz (DD (all_cons PU (all_cons XU (all_cons gD all_nil))) all_nil) (fun a h=>YHw a h)
def cQ(p i:Dig)(o:Opn):Dig:=Le KX (.list [.bytes p.bs,.bytes i.bs,.int o.pc,.int o.fuel,.int o.status,.int o.clause,.int (o.depth+o.top.length),.bytes (Hy o.rest o.top).bs])
theorem Yf9(p i:Dig)(o:Opn):KX.length≤1000∧DX (.list [.bytes p.bs,.bytes i.bs,.int o.pc,.int o.fuel,.int o.status,.int o.clause,.int (o.depth+o.top.length),.bytes (Hy o.rest o.top).bs])≤16∧(Dz (.list [.bytes p.bs,.bytes i.bs,.int o.pc,.int o.fuel,.int o.status,.int o.clause,.int (o.depth+o.top.length),.bytes (Hy o.rest o.top).bs])).length≤4294967000:=by have E:=P5 p;have M:=P5 i;have N:=Lk o.pc;have h4:=Lk o.fuel;have h5:=Lk o.status;have h6:=Lk o.clause;have h7:=Lk (o.depth+o.top.length);have h8:=P5 (Hy o.rest o.top);refine⟨by decide,by simp[DX,HL],?_⟩;rw[LU];simp only[Ak,Ac,Ar,Au,BE];omega
def dz:List D→Option D:=Dq (α:=Dig×Dig×Opn) (fun a=>[Dl a.1,Dl a.2.1,DU a.2.2]) (fun a=>a.2.2.top.length≤4294967296∧0≤a.2.2.depth∧a.2.2.depth≤4294967296) (fun a=>Dl (cQ a.1 a.2.1 a.2.2))
theorem Ypf(p:Dig)(i:Dig)(o:Opn)(h:o.top.length≤4294967296∧0≤o.depth∧o.depth≤4294967296):dz [Dl p,Dl i,DU o]=s_ (Dl (cQ p i o)):=
 DK (fun⟨a0,a1,E⟩ ⟨b0,b1,M⟩ h=>by simp only[Aa,Kt,and_true,Nv]at h; simp[h]) (p,i,o) h
theorem YHt(p:Dig)(i:Dig)(o:Opn)(h:o.top.length≤4294967296∧0≤o.depth∧o.depth≤4294967296):@wW GG (tb [(174,TX),(173,Yv),(175,eM),(172,OT)] []) bJ.code (Dm [Dl p,Dl i,DU o]) [] ⟨Ds bJ.res (Dl (cQ p i o))⟩:=by
 obtain⟨M,aa,ab⟩:=h;unfold bJ cQ;have E:=Xo KX _ _ _ _ _ _ _ _ (Yf9 p i o);simp only[KX]at E;have N:=wm o.rest o.top M
 push_cast(disch:=lia)[H4,IN,HQ,gP,gQ,UQ,gR,UR,Oa,gW,N,U5,iX,No,Ns,DQ,YKk,E]
 rfl
theorem YNo:Contract Tryz.prog GG 153 dz:=
 DM yry (DD (all_cons PU (all_cons Sa (all_cons Yqc (all_cons gD all_nil)))) all_nil) (fun a h=>YHt a.1 a.2.1 a.2.2 h)
def dJ:List D→Option D:=Dq (α:=List Ins×(Int×List Int)×Opn) (fun a=>[O (nz 3 (a.1.map Dk)) (a.1.map Dk) f_,D6 a.2.1,DU a.2.2]) (fun a=>a.1.length≤4294967296∧a.2.1.2.length=16∧a.2.2.top.length≤4294967296∧0≤a.2.2.depth∧a.2.2.depth≤4294967296) (fun a=>Dl (Oh a.1 a.2.1 a.2.2))
theorem ux(c:List Ins)(v:Int×List Int)(o:Opn)(h:c.length≤4294967296∧v.2.length=16∧o.top.length≤4294967296∧0≤o.depth∧o.depth≤4294967296):dJ [O (nz 3 (c.map Dk)) (c.map Dk) f_,D6 v,DU o]=s_ (Dl (Oh c v o)):=
 DK (fun⟨a0,a1,E⟩ ⟨b0,b1,M⟩ h=>by simp only[Aa,D.slc.injEq,and_true,Ha,Nv,Hz]at h; simp[h]) (c,v,o) h
theorem YG3(c:List Ins)(v:Int×List Int)(o:Opn)(h:c.length≤4294967296∧v.2.length=16∧o.top.length≤4294967296∧0≤o.depth∧o.depth≤4294967296):@wW GG (tb [(154,j2),(155,kE),(153,dz)] []) aS.code (Dm [O (nz 3 (c.map Dk)) (c.map Dk) f_,D6 v,DU o]) [] ⟨Ds aS.res (Dl (Oh c v o))⟩:=by
 obtain⟨hc,hv,ht,E,M⟩:=h;unfold aS;have h1:=Yo6 c hc;have h2:=Yph v hv;have N:dz [Dl (JP c),Dl (Iq v),DU o]=s_ (Dl (Oh c v o)):=Ypf (JP c) (Iq v) o ⟨ht,E,M⟩;have hi:=fun st=>Gw st o;have hk:=LS o;rw[DU,IN]at N hi hk
 push_cast(disch:=lia)[D5,H4,IN,Fu hv,Fa,Mu,hi,h1,h2,N]
theorem z7:Contract Tryz.prog GG 106 dJ:=
 DM ytu (DD (all_cons YNf (all_cons YNq (all_cons YNo all_nil))) all_nil) (fun a h=>YG3 a.1 a.2.1 a.2.2 h)
def mh:List D→Option D:=Dq (α:=Sta×Int) (fun a=>[DS a.1,I J a.2]) (fun a=>a.1.stack.length≤4294967296) (fun a=>DU (LA a.1 a.2))
theorem Yg6(s:Sta)(n:Int)(h:s.stack.length≤4294967296):mh [DS s,I J n]=s_ (DU (LA s n)):=
 DK (fun⟨a0,a1⟩ ⟨b0,b1⟩ h=>by simp only[Aa,D.int.injEq,true_and,and_true,Nu]at h; simp[h]) (s,n) h
theorem Yzx(s:Sta)(n:Int)(h:s.stack.length≤4294967296):@wW GG (tb [(156,j6)] []) aY.code (Dm [DS s,I J n]) [] ⟨Ds aY.res (DU (LA s n))⟩:=by
 unfold aY;have hk:=Ybp s n;have E:=Yo2 (s.stack.take (Na s n)) (by rw[AA]; omega);have hm:max (min n (s.stack.length:Int)) 0=min (max n 0) (s.stack.length:Int):=by omega
 have M:min (max n 0) (s.stack.length:Int)≤s.stack.length:=Int.min_le_right _ _;have N:0≤min (max n 0) (s.stack.length:Int):=by omega
 simp(disch:=first|omega|decide) only[push_cast,↓reduceIte,CW,Fx,KQ,H3,Hb,Hs,J4,Kv,Hc,HQ,hm,EI,Ybq,zV,qE,E,kX,Of,Mu,Pn,jr,ju];rfl
theorem YFh:Contract Tryz.prog GG 107 mh:=
 DM yv7 (DD (all_cons YNb all_nil) all_nil) (fun a h=>Yzx a.1 a.2 h)
def jT:List D→Option D:=Dq (α:=List Ins×(Int×List Int)×Sta) (fun a=>[O (nz 3 (a.1.map Dk)) (a.1.map Dk) f_,D6 a.2.1,DS a.2.2]) (fun a=>a.1.length≤4294967296∧a.2.1.2.length=16∧a.2.2.stack.length≤4294967296) (fun a=>Dl (HJ a.1 a.2.1 a.2.2))
theorem Ypo(c:List Ins)(v:Int×List Int)(s:Sta)(h:c.length≤4294967296∧v.2.length=16∧s.stack.length≤4294967296):jT [O (nz 3 (c.map Dk)) (c.map Dk) f_,D6 v,DS s]=s_ (Dl (HJ c v s)):=
 DK (fun⟨a0,a1,E⟩ ⟨b0,b1,M⟩ h=>by simp only[Aa,D.slc.injEq,and_true,Ha,Nu,Hz]at h; simp[h]) (c,v,s) h
theorem YH7(c:List Ins)(v:Int×List Int)(s:Sta)(h:c.length≤4294967296∧v.2.length=16∧s.stack.length≤4294967296):@wW GG (tb [(107,mh),(106,dJ)] []) bH.code (Dm [O (nz 3 (c.map Dk)) (c.map Dk) f_,D6 v,DS s]) [] ⟨Ds bH.res (Dl (HJ c v s))⟩:=by
 obtain⟨hc,hv,E⟩:=h;unfold bH;have M:=Yg6 s s.stack.length E;have hk:Na s s.stack.length=0:=by unfold Na; omega
 have hw:=ux c v (LA s s.stack.length) ⟨hc,hv,by simp only[LA,AW]; omega,by simp only[LA,hk]; omega,by simp only[LA,hk]; omega⟩
 push_cast(disch:=lia)[D5,Fu hv,Fa,Fx,G9,Hc,HQ,HA,Mi,M,Gw,hw]
 rfl
theorem YN0:Contract Tryz.prog GG 53 jT:=
 DM yr2 (DD (all_cons YFh (all_cons z7 all_nil)) all_nil) (fun a h=>YH7 a.1 a.2.1 a.2.2 h)
def Vi:List D→Option D:=Dq (α:=List Ins×(Int×List Int)×Opn) (fun a=>[O (nz 3 (a.1.map Dk)) (a.1.map Dk) f_,D6 a.2.1,DU a.2.2]) (fun a=>a.1.length≤4294967296∧a.2.1.2.length=16∧a.2.2.top.length≤4294967296) (fun a=>Dl (Gy a.1 a.2.1 a.2.2))
theorem fl(c:List Ins)(v:Int×List Int)(o:Opn)(h:c.length≤4294967296∧v.2.length=16∧o.top.length≤4294967296):Vi [O (nz 3 (c.map Dk)) (c.map Dk) f_,D6 v,DU o]=s_ (Dl (Gy c v o)):=
 DK (fun⟨a0,a1,E⟩ ⟨b0,b1,M⟩ h=>by simp only[Aa,D.slc.injEq,and_true,Ha,Nv,Hz]at h; simp[h]) (c,v,o) h
theorem YH8(c:List Ins)(v:Int×List Int)(o:Opn)(h:c.length≤4294967296∧v.2.length=16∧o.top.length≤4294967296):@wW GG (tb [(106,dJ)] []) aN.code (Dm [O (nz 3 (c.map Dk)) (c.map Dk) f_,D6 v,DU o]) [] ⟨Ds aN.res (Dl (Gy c v o))⟩:=by
 obtain⟨hc,hv,N⟩:=h;unfold aN
 by_cases E:o.depth<0
 ·rw[vf E]
  push_cast(disch:=lia)[D5,H4,IN,Oa,E]
 ·by_cases M:64<o.depth
  ·rw[u9 M]
   push_cast(disch:=lia)[D5,H4,IN,Oa,E,M]
  ·rw[vb (by omega) (by omega)];have hw:=ux c v o ⟨hc,hv,N,by omega,by omega⟩;have hi:=fun st=>Gw st o;have hk:=LS o;rw[DU,IN]at hw hi hk
   push_cast(disch:=lia)[D5,H4,IN,Oa,E,M,Fu hv,Fa,Mu,hi,hw]
theorem pN:Contract Tryz.prog GG 56 Vi:=
 DM ytz (DD (all_cons z7 all_nil) all_nil) (fun a h=>YH8 a.1 a.2.1 a.2.2 h)
def RI:List D→Option D:=Dq (α:=Int) (fun a=>[I J a]) (fun a=>True) (fun a=>V (Fq a))
theorem OY(a:Int):RI [I J a]=s_ (V (Fq a)):=
 DK (fun a b h=>by simp only[Aa,D.int.injEq,true_and,and_true]at h; simp[h]) (a) trivial
theorem VQ(a:Int):@wW GG (tb [] []) Z9.code (Dm [I J a]) [] ⟨Ds Z9.res (V (Fq a))⟩:=by
 unfold Z9
 cases hc:Fq a with
 |true=>
  obtain⟨E,M⟩:=Ku.1 hc
  push_cast(disch:=lia)[E,M]
 |false=>
  have h:=jf.1 hc
  by_cases E:-9007199254740992≤a
  ·have M:¬ a≤9007199254740992:=by omega
   push_cast(disch:=lia)[E,M]
  ·push_cast(disch:=lia)[E]
theorem Yf:Contract Tryz.prog GG 205 RI:=
 DM yy8 (DD all_nil all_nil) (fun a h=>VQ a)
def iq:List D→Option D:=Dq (α:=Int) (fun a=>[I J a]) (fun a=>True) (fun a=>.tup [I J (IX a).1,I J (IX a).2])
theorem Ydm(c:Int):iq [I J c]=s_ (.tup [I J (IX c).1,I J (IX c).2]):=
 DK (fun a b h=>by simp only[Aa,D.int.injEq,true_and,and_true]at h; simp[h]) (c) trivial
theorem VR(c:Int):@wW GG (tb [(205,RI)] []) bS.code (Dm [I J c]) [] ⟨Ds bS.res (.tup [I J (IX c).1,I J (IX c).2])⟩:=by unfold bS IX;have:=OY c;cases hc:Fq c <;> rw[hc]at this <;> push_cast(disch:=lia)[this]
theorem YN1:Contract Tryz.prog GG 206 iq:=
 DM yrd (DD (all_cons Yf all_nil) all_nil) (fun a h=>VR a)
variable {a:Int}
theorem zP(E:-9223372036854775808<a)(M:a<9223372036854775808):LC .neg (I J a)=s_ (I J (-a)):=by simp only[LC];rw[On (by omega) (by omega),Int.zero_sub]
def jM:List D→Option D:=Dq (α:=Int) (fun a=>[I J a]) (fun a=>-9223372036854775808<a∧a<9223372036854775808) (fun a=>I J (FI a))
theorem uk(a:Int)(h:-9223372036854775808<a∧a<9223372036854775808):jM [I J a]=s_ (I J (FI a)):=
 DK (fun a b h=>by simp only[Aa,D.int.injEq,true_and,and_true]at h; simp[h]) (a) h
theorem YIf(a:Int)(h:-9223372036854775808<a∧a<9223372036854775808):@wW GG (tb [] []) aj.code (Dm [I J a]) [] ⟨Ds aj.res (I J (FI a))⟩:=by
 unfold aj FI
 by_cases E:a<0
 ·push_cast(disch:=lia)[E,zP]
 ·push_cast(disch:=lia)[E]
theorem YN8:Contract Tryz.prog GG 207 jM:=
 DM ywv (DD all_nil all_nil) (fun a h=>YIf a h)
def jN:List D→Option D:=Dq (α:=Int×Int) (fun a=>[I J a.1,I J a.2]) (fun a=>True) (fun a=>.tup [I J (Gt a.1 a.2).1,I J (Gt a.1 a.2).2])
theorem Ypu(a:Int)(b:Int):jN [I J a,I J b]=s_ (.tup [I J (Gt a b).1,I J (Gt a b).2]):=
 DK (fun⟨a0,a1⟩ ⟨b0,b1⟩ h=>by simp only[Aa,D.int.injEq,true_and,and_true]at h; simp[h]) (a,b) trivial
theorem YIe(a:Int)(b:Int):@wW GG (tb [(205,RI),(206,iq)] []) ak.code (Dm [I J a,I J b]) [] ⟨Ds ak.res (.tup [I J (Gt a b).1,I J (Gt a b).2])⟩:=by
 unfold ak Gt;have E:=OY a;have M:=OY b;have N:=Ydm (a+b);cases ha:Fq a <;> cases hb:Fq b <;> rw[ha]at E <;> rw[hb]at M
 ·push_cast(disch:=lia)[E,AN]
 ·push_cast(disch:=lia)[E,Bt]
 ·push_cast(disch:=lia)[E,M,Cg]
 ·have:=Ku.1 ha;have:=Ku.1 hb
  push_cast(disch:=lia)[E,M,N,AN,DQ]
theorem YN7:Contract Tryz.prog GG 198 jN:=
 DM ywu (DD (all_cons Yf (all_cons YN1 all_nil)) all_nil) (fun a h=>YIe a.1 a.2)
def j8:List D→Option D:=Dq (α:=Int×Int) (fun a=>[I J a.1,I J a.2]) (fun a=>True) (fun a=>.tup [I J (Gp a.1 a.2).1,I J (Gp a.1 a.2).2])
theorem Yo0(a:Int)(b:Int):j8 [I J a,I J b]=s_ (.tup [I J (Gp a b).1,I J (Gp a b).2]):=
 DK (fun⟨a0,a1⟩ ⟨b0,b1⟩ h=>by simp only[Aa,D.int.injEq,true_and,and_true]at h; simp[h]) (a,b) trivial
theorem YG9(a:Int)(b:Int):@wW GG (tb [(205,RI),(206,iq)] []) aq.code (Dm [I J a,I J b]) [] ⟨Ds aq.res (.tup [I J (Gp a b).1,I J (Gp a b).2])⟩:=by
 unfold aq Gp;have E:=OY a;have M:=OY b;have N:=Ydm (a - b);cases ha:Fq a <;> cases hb:Fq b <;> rw[ha]at E <;> rw[hb]at M
 ·push_cast(disch:=lia)[E,AN]
 ·push_cast(disch:=lia)[E,Bt]
 ·push_cast(disch:=lia)[E,M,Cg]
 ·have:=Ku.1 ha;have:=Ku.1 hb
  push_cast(disch:=lia)[E,M,N,AN,EI]
theorem YM9:Contract Tryz.prog GG 199 j8:=
 DM ywr (DD (all_cons Yf (all_cons YN1 all_nil)) all_nil) (fun a h=>YG9 a.1 a.2)
variable {b:Int}
theorem YGf(h:a≠0):(9007199254740992 / FI a<FI b)↔9007199254740992<FI (a*b):=by
 have E:0<FI a:=by unfold FI; split <;> omega
 rw[Int.ediv_lt_iff_lt_mul E,CI (FI b),zg]
theorem YDm(c:Int):Fq c=t_↔FI c≤9007199254740992:=by rw[Ku]; unfold FI; split <;> omega
def kK:List D→Option D:=Dq (α:=Int×Int) (fun a=>[I J a.1,I J a.2]) (fun a=>True) (fun a=>.tup [I J (Gr a.1 a.2).1,I J (Gr a.1 a.2).2])
theorem Ypb(a:Int)(b:Int):kK [I J a,I J b]=s_ (.tup [I J (Gr a b).1,I J (Gr a b).2]):=
 DK (fun⟨a0,a1⟩ ⟨b0,b1⟩ h=>by simp only[Aa,D.int.injEq,true_and,and_true]at h; simp[h]) (a,b) trivial
theorem YHq(a:Int)(b:Int):@wW GG (tb [(205,RI),(207,jM)] []) ao.code (Dm [I J a,I J b]) [] ⟨Ds ao.res (.tup [I J (Gr a b).1,I J (Gr a b).2])⟩:=by
 unfold ao Gr;have E:=OY a;have M:=OY b;cases ha:Fq a <;> cases hb:Fq b <;> rw[ha]at E <;> rw[hb]at M
 ·push_cast(disch:=lia)[E,AN]
 ·push_cast(disch:=lia)[E,Bt]
 ·push_cast(disch:=lia)[E,M,Cg]
 ·have la:=Ku.1 ha;have lb:=Ku.1 hb;have h3:=uk a (by omega);have h4:=uk b (by omega)
  by_cases h0:a=0
  ·subst h0
   have hm:DF .mul (I J 0) (I J b)=s_ (I J 0):=by
    have:=IA (a:=0) (b:=b) (by omega) (by omega);grind
   rw[show IX (0*b)=(0,0) by rw[Int.zero_mul]; rfl]
   push_cast(disch:=lia)[E,M,AN,hm]
  ·have N:=YGf (b:=b) h0;have ac:=YDm (a*b);have p0:0<FI a:=by unfold FI; split <;> omega
   have p1:FI a≤9007199254740992:=by unfold FI; split <;> omega
   have hq:DF .quo (I J 9007199254740992) (I J (FI a))=s_ (I J (9007199254740992 / FI a)):=by
    rw[QE p0 (by omega) (by omega),BD (by omega)]
   unfold IX;have ad:(a=0)=False:=eq_false h0
   by_cases h5:9007199254740992 / FI a<FI b
   ·have h6:¬ Fq (a*b)=t_:=by rw[ac]; have:=N.1 h5; omega
    rw[if_neg h6]
    push_cast(disch:=lia)[E,M,h3,h4,hq,h5,ad,decide_false,Ax,AN]
   ·have h6:Fq (a*b)=t_:=by rw[ac]; have:=fun q=>h5 (N.2 q); omega
    have h7:=Ku.1 h6;have hm:DF .mul (I J a) (I J b)=s_ (I J (a*b)):=IA (by omega) (by omega);rw[if_pos h6]
    push_cast(disch:=lia)[E,M,h3,h4,hq,h5,ad,decide_false,Ax,AN,hm]
theorem YNl:Contract Tryz.prog GG 200 kK:=
 DM yws (DD (all_cons Yf (all_cons YN8 all_nil)) all_nil) (fun a h=>YHq a.1 a.2)
theorem Tl(a:Int)(hb:0<b):a.tdiv b=if 0≤a∨a % b=0 then a / b else a / b+1:=by rw[Int.tdiv_eq_ediv,Int.sign_eq_one_of_pos hb];omega
theorem Yx4(a:Int)(hb:0<b):a.tmod b=if 0≤a∨a % b=0 then a % b else a % b - b:=by
 rw[Int.tmod_eq_emod]
 by_cases h:0≤a∨a % b=0
 ·rw[if_pos h,if_pos (h.imp id Int.dvd_of_emod_eq_zero)]; omega
 ·rw[if_neg h,if_neg (fun q=>h (q.imp id Int.emod_eq_zero_of_dvd))]; omega
theorem gS(a:Int)(hb:0<b)(c:Int):(a+c*b) / b=a / b+c∧(a+c*b) % b=a % b:=
 ⟨Int.add_mul_ediv_right a c (by omega),Int.add_mul_emod_self_right a c b⟩
theorem YL6(a:Int)(hb:0<b):(if a<a.tdiv b*b then a.tdiv b - 1 else a.tdiv b)=a / b:=by
 have E:=Cq a b;have M:=CD a (show b≠0 by omega);have N:=BW a hb;have h4:(a / b+1)*b=b*(a / b)+b:=by rw[Int.add_mul,Int.one_mul,CI]
 grind
theorem zv(a:Int)(hb:0<b):XP a b=a / b:=by
 have M:=CD a (show b≠0 by omega);have N:=BW a hb;have E:=gS a hb (-1);rw[show a+-1*b=a - b by omega]at E;unfold XP;rw[Yx4 a hb]
 by_cases h:0≤a∨a % b=0
 ·rw[if_pos h,YYN,Tl a hb,if_pos h]
 ·rw[if_neg h,if_pos (by omega),Tl _ hb,E.1,E.2,YYN]; omega
theorem YIx(a:Int)(hb:0<b):fO a b=-(-a / b):=by
 have h1:=Cq a b;have h2:=CD a (show b≠0 by omega);have h3:=BW a hb;have N:=gS a hb 1;rw[show a+1*b=a+b by omega]at N
 have hn:-a / b=if a % b=0 then -(a / b)else -(a / b) - 1:=by
  have E:=gS (-(a % b)) hb (-(a / b))
  have h6:-(a % b)+-(a / b)*b=-a:=by
   grind
  rw[h6]at E;rw[E.1]
  by_cases h:a % b=0
  ·simp_all
  ·rw[if_neg h]
   have:-(a % b) / b=-1:=by
    have M:=(gS (b - a % b) hb (-1)).1;rw[show b - a % b+-1*b=-(a % b) by omega]at M;rw[M,Int.ediv_eq_zero_of_lt (a:=b - a % b) (b:=b) (by omega) (by omega)];rfl
   omega
 unfold fO;rw[Yx4 a hb,hn]
 by_cases h:a % b=0
 ·rw[if_pos (Or.inr h),YYN,Tl a hb,if_pos (Or.inr h),if_pos h]; omega
 ·by_cases h0:0≤a
  ·grind
  ·rw[YYN,YYN,Tl a hb,YYN]; omega
def kB:List D→Option D:=Dq (α:=Int×Int) (fun a=>[I J a.1,I J a.2]) (fun a=>0<a.2∧a.2≤36028797018963968∧-4611686018427387904≤a.1∧a.1≤4611686018427387904) (fun a=>I J (a.1 / a.2))
theorem mI(a:Int)(b:Int)(h:0<b∧b≤36028797018963968∧-4611686018427387904≤a∧a≤4611686018427387904):kB [I J a,I J b]=s_ (I J (a / b)):=
 DK (fun⟨a0,a1⟩ ⟨b0,b1⟩ h=>by simp only[Aa,D.int.injEq,true_and,and_true]at h; simp[h]) (a,b) h
theorem YH1(a:Int)(b:Int)(h:0<b∧b≤36028797018963968∧-4611686018427387904≤a∧a≤4611686018427387904):@wW GG (tb [] []) aM.code (Dm [I J a,I J b]) [] ⟨Ds aM.res (I J (a / b))⟩:=by
 obtain⟨E,N,h2,h3⟩:=h;have hf:=YL6 a E;have M:=QE (a:=a) E (by omega) (by omega);have ht:=kA a E
 have hm:DF .mul (I J (a.tdiv b)) (I J b)=s_ (I J (a.tdiv b*b)):=by
  have e1:=Cq a b;have e2:=CD a (show b≠0 by omega);have e3:=BW a E;have e4:(a / b+1)*b=b*(a / b)+b:=by rw[Int.add_mul,Int.one_mul,CI]
  have e5:a / b*b=b*(a / b):=CI _ _;have e6:=Tl a E;refine IA ?_ ?_
  ·grind
  ·grind
 have hA:FI a≤4611686018427387904:=by unfold FI; split <;> omega
 unfold aM;rw[← hf];generalize a.tdiv b=q at*
 by_cases hc:a<q*b
 ·push_cast(disch:=lia)[M,hm,hc,EI]
 ·push_cast(disch:=lia)[M,hm,hc]
theorem YNu:Contract Tryz.prog GG 208 kB:=
 DM yt2 (DD all_nil all_nil) (fun a h=>YH1 a.1 a.2 h)
def jV:List D→Option D:=Dq (α:=Int×Int×Int) (fun a=>[I J a.1,I J a.2.1,I J a.2.2]) (fun a=>a.2.2=8∨a.2.2=9∨a.2.2=10) (fun a=>.tup [I J (Eu a.1 a.2.1 a.2.2).1,I J (Eu a.1 a.2.1 a.2.2).2])
theorem mH(a:Int)(b:Int)(m:Int)(h:m=8∨m=9∨m=10):jV [I J a,I J b,I J m]=s_ (.tup [I J (Eu a b m).1,I J (Eu a b m).2]):=
 DK (fun⟨a0,a1,E⟩ ⟨b0,b1,M⟩ h=>by simp only[Aa,D.int.injEq,true_and,and_true]at h; simp[h]) (a,b,m) h
theorem YH5(a:Int)(b:Int)(m:Int)(h:m=8∨m=9∨m=10):@wW GG (tb [(205,RI),(208,kB)] []) al.code (Dm [I J a,I J b,I J m]) [] ⟨Ds al.res (.tup [I J (Eu a b m).1,I J (Eu a b m).2])⟩:=by
 unfold al Eu;have M:=OY a;have N:=OY b;cases ha:Fq a <;> cases hb:Fq b <;> rw[ha]at M <;> rw[hb]at N
 ·rcases h with rfl|rfl|rfl <;> push_cast(disch:=lia)[M,AN]
 ·rcases h with rfl|rfl|rfl <;> push_cast(disch:=lia)[M,Bt]
 ·rcases h with rfl|rfl|rfl <;> push_cast(disch:=lia)[M,N,Cg]
 ·have la:=Ku.1 ha;have lb:=Ku.1 hb
  by_cases h0:b≤0
  ·rcases h with rfl|rfl|rfl <;> push_cast(disch:=lia)[M,N,h0,AN]
  ·have E:0<b:=by omega
   rw[zv _ (show 0<2*b by omega),zv a E,YIx a E];have f1:=mI a b ⟨E,by omega,by omega,by omega⟩;have f2:=mI (-a) b ⟨E,by omega,by omega,by omega⟩;have f3:=mI (2*a+b) (2*b) ⟨by omega,by omega,by omega,by omega⟩
   have hd:-9007199254740992 - 1≤-a / b∧-a / b≤9007199254740992:=by
    have t:=kA (-a) E;have c:=Tl (-a) E;have e:FI (-a)≤9007199254740992:=by unfold FI; split <;> omega
    omega
   generalize -a / b=q at*;rcases h with rfl|rfl|rfl <;> push_cast(disch:=lia)[M,N,h0,f1,f2,f3,zP,IA,DQ,XN,N3,N2,R5,R4,AN]
theorem YNy:Contract Tryz.prog GG 201 jV:=
 DM ywt (DD (all_cons Yf (all_cons YNu all_nil)) all_nil) (fun a h=>YH5 a.1 a.2.1 a.2.2 h)
def jR:List D→Option D:=Dq (α:=Int×Int×Int) (fun a=>[I J a.1,I J a.2.1,I J a.2.2]) (fun a=>3≤a.1∧a.1≤11) (fun a=>.tup [I J (Ea a.1 a.2.1 a.2.2).1,I J (Ea a.1 a.2.1 a.2.2).2])
theorem Ypq(op:Int)(a:Int)(b:Int)(h:3≤op∧op≤11):jR [I J op,I J a,I J b]=s_ (.tup [I J (Ea op a b).1,I J (Ea op a b).2]):=
 DK (fun⟨a0,a1,E⟩ ⟨b0,b1,M⟩ h=>by simp only[Aa,D.int.injEq,true_and,and_true]at h; simp[h]) (op,a,b) h
theorem YIa(op:Int)(a:Int)(b:Int)(h:3≤op∧op≤11):@wW GG (tb [(198,jN),(199,j8),(200,kK),(201,jV)] []) bK.code (Dm [I J op,I J a,I J b]) [] ⟨Ds bK.res (.tup [I J (Ea op a b).1,I J (Ea op a b).2])⟩:=by
 have f1:=Ypu a b;have f2:=Yo0 a b;have f3:=Ypb a b;have f4:=mH a b 8 (by decide);have f5:=mH a b 9 (by decide);have f6:=mH a b 10 (by decide);unfold bK Ea;obtain⟨E,M⟩:=h;have:op=3∨op=4∨op=5∨op=6∨op=7∨op=8∨op=9∨op=10∨op=11:=by omega
 rcases this with rfl|rfl|rfl|rfl|rfl|rfl|rfl|rfl|rfl
 case inr.inr.inr.inr.inr.inr.inr.inr=>
  by_cases hc:a<b
  ·push_cast(disch:=lia)[hc,decide_false,decide_true]
  ·push_cast(disch:=lia)[hc,decide_false]
 all_goals push_cast(disch:=lia)[f1,f2,f3,f4,f5,f6,decide_false,decide_true]
theorem YN3:Contract Tryz.prog GG 186 jR:=
 DM yrx (DD (all_cons YN7 (all_cons YM9 (all_cons YNl (all_cons YNy all_nil)))) all_nil) (fun a h=>YIa a.1 a.2.1 a.2.2 h)
def dA:List D→Option D:=Dq (α:=Int) (fun a=>[I J a]) (fun a=>True) (fun a=>I J (HE a))
theorem uq(op:Int):dA [I J op]=s_ (I J (HE op)):=
 DK (fun a b h=>by simp only[Aa,D.int.injEq,true_and,and_true]at h; simp[h]) (op) trivial
theorem YHp(op:Int):@wW GG (tb [] []) aO.code (Dm [I J op]) [] ⟨Ds aO.res (I J (HE op))⟩:=by
 unfold aO HE
 by_cases E:3≤op∧op≤11
 ·rw[YYN,if_pos E]
  push_cast(disch:=lia)[E.1,E.2]
 ·rw[if_neg E]
  by_cases M:op=12∨op=13∨op=15
  ·rw[if_pos M];rcases M with rfl|rfl|rfl <;> push_cast(disch:=lia)[decide_false,decide_true]
  ·rw[if_neg M];have N:(op=12)=False:=YYF;have e2:(op=13)=False:=YYF;have e3:(op=15)=False:=YYF
   by_cases h3:3≤op
   ·have h4:¬ op≤11:=by omega
    push_cast(disch:=lia)[h3,h4,N,e2,e3,decide_false]
   ·push_cast(disch:=lia)[h3,N,e2,e3,decide_false]
theorem zt:Contract Tryz.prog GG 112 dA:=
 DM yty (DD all_nil all_nil) (fun a h=>YHp a)
def kL:List D→Option D:=Dq (α:=Int×Int) (fun a=>[I J a.1,I J a.2]) (fun a=>True) (fun a=>V (decide (0≤a.1∧a.1≤a.2)))
theorem mL(n:Int)(m:Int):kL [I J n,I J m]=s_ (V (decide (0≤n∧n≤m))):=
 DK (fun⟨a0,a1⟩ ⟨b0,b1⟩ h=>by simp only[Aa,D.int.injEq,true_and,and_true]at h; simp[h]) (n,m) trivial
theorem YHo(n:Int)(m:Int):@wW GG (tb [] []) bG.code (Dm [I J n,I J m]) [] ⟨Ds bG.res (V (decide (0≤n∧n≤m)))⟩:=by
 unfold bG
 by_cases h:0≤n
 ·by_cases E:n≤m
  ·rw[decide_eq_true (show 0≤n∧n≤m from⟨h,E⟩)]
   push_cast(disch:=lia)[h,E]
  ·rw[decide_eq_false (show ¬ (0≤n∧n≤m)from fun q=>E q.2)]
   push_cast(disch:=lia)[h,E]
 ·rw[decide_eq_false (show ¬ (0≤n∧n≤m)from fun q=>h q.1)]
  push_cast(disch:=lia)[h]
theorem YNk:Contract Tryz.prog GG 152 kL:=
 DM yr3 (DD all_nil all_nil) (fun a h=>YHo a.1 a.2)
variable {x:Ins}
theorem Yv2(h:x.op=1∨x.op=13∨x.op=14∨x.op=15):Fz x=(decide (0≤x.n∧x.n≤9007199254740992) && decide (x.m=0)):=by have ha:IH x.op=(1,9007199254740992):=if_pos (by omega);unfold Fz;grind
theorem Yv1(h:x.op=2):Fz x=(decide (0≤x.n∧x.n≤15) && decide (x.m=0)):=by
 have ha:IH x.op=(1,15):=by rw[h]; rfl
 unfold Fz;grind
theorem Ynd(h:x.op=12):Fz x=(decide (0≤x.n∧x.n≤9007199254740992) && decide (0≤x.m∧x.m≤9007199254740992)):=by
 have ha:IH x.op=(2,9007199254740992):=by rw[h]; rfl
 unfold Fz;grind
theorem Yv0(h:¬ (x.op=1∨x.op=13∨x.op=14∨x.op=15))(M:¬ x.op=2)(E:¬ x.op=12):Fz x=decide (3≤x.op∧x.op≤16∧x.n=0∧x.m=0):=by
 have ha:IH x.op=(0,0):=by unfold IH; rw[YYN,if_neg M,if_neg E]
 unfold Fz;grind
def kC:List D→Option D:=Dq (α:=Ins) (fun a=>[Dk a]) (fun a=>True) (fun a=>V (Fz a))
theorem Ypj(x:Ins):kC [Dk x]=s_ (V (Fz x)):=
 DK (fun a b h=>by simp only[Aa,and_true,O3]at h; simp[h]) (x) trivial
theorem YHz(x:Ins):@wW GG (tb [(152,kL)] []) bD.code (Dm [Dk x]) [] ⟨Ds bD.res (V (Fz x))⟩:=by
 unfold bD;have c1:=mL x.n 9007199254740992;have c2:=mL x.n 15;have c3:=mL x.m 9007199254740992
 by_cases h1:x.op=1∨x.op=13∨x.op=14∨x.op=15
 ·rw[Yv2 h1];cases hd:decide (0≤x.n∧x.n≤9007199254740992) <;> rw[hd]at c1
  ·rcases h1 with h|h|h|h <;> push_cast(disch:=lia)[Ez,EU,GP,h,decide_false,decide_true,c1,Bt]
  ·by_cases hm:x.m=0
   ·rcases h1 with h|h|h|h <;> push_cast(disch:=lia)[Ez,EU,GP,MU,h,decide_false,decide_true,c1,Bb,hm]
   ·have af:=eq_false hm;rcases h1 with h|h|h|h <;> push_cast(disch:=lia)[Ez,EU,GP,MU,h,decide_false,decide_true,c1,Bb,af]
 ·have e1:(x.op=1)=False:=YYF;have E:(x.op=13)=False:=YYF;have M:(x.op=14)=False:=YYF;have N:(x.op=15)=False:=YYF
  by_cases h2:x.op=2
  ·rw[Yv1 h2];cases hd:decide (0≤x.n∧x.n≤15) <;> rw[hd]at c2
   ·push_cast(disch:=lia)[Ez,EU,GP,h2,decide_false,decide_true,c2,Bt]
   ·by_cases hm:x.m=0
    ·push_cast(disch:=lia)[Ez,EU,GP,MU,h2,decide_false,decide_true,c2,Bb,hm]
    ·have af:=eq_false hm
     push_cast(disch:=lia)[Ez,EU,GP,MU,h2,decide_false,decide_true,c2,Bb,af]
  ·by_cases aa:x.op=12
   ·rw[Ynd aa];cases hd:decide (0≤x.n∧x.n≤9007199254740992) <;> rw[hd]at c1
    ·push_cast(disch:=lia)[Ez,EU,GP,aa,decide_false,decide_true,c1,Bt]
    ·cases hm:decide (0≤x.m∧x.m≤9007199254740992) <;> rw[hm]at c3 <;> push_cast(disch:=lia)[Ez,EU,GP,MU,aa,decide_false,decide_true,c1,c3,Bb]
   ·rw[Yv0 h1 h2 aa];have e2:=eq_false h2;have ab:=eq_false aa
    by_cases g1:3≤x.op
    ·by_cases g2:x.op≤16
     ·by_cases g3:x.n=0
      ·by_cases g4:x.m=0
       ·rw[decide_eq_true (show 3≤x.op∧x.op≤16∧x.n=0∧x.m=0 from⟨g1,g2,g3,g4⟩)]
        push_cast(disch:=lia)[Ez,EU,GP,MU,e1,e2,ab,E,M,N,decide_false,decide_true,g1,g2,g3,g4]
       ·rw[decide_eq_false (show ¬ (3≤x.op∧x.op≤16∧x.n=0∧x.m=0)from fun q=>g4 q.2.2.2)];have a5:=eq_false g4
        push_cast(disch:=lia)[Ez,EU,GP,MU,e1,e2,ab,E,M,N,decide_false,decide_true,g1,g2,g3,a5]
      ·rw[decide_eq_false (show ¬ (3≤x.op∧x.op≤16∧x.n=0∧x.m=0)from fun q=>g3 q.2.2.1)];have a6:=eq_false g3
       push_cast(disch:=lia)[Ez,EU,GP,e1,e2,ab,E,M,N,decide_false,decide_true,g1,g2,a6]
     ·rw[decide_eq_false (show ¬ (3≤x.op∧x.op≤16∧x.n=0∧x.m=0)from fun q=>g2 q.2.1)]
      push_cast(disch:=lia)[Ez,EU,e1,e2,ab,E,M,N,decide_false,decide_true,g1,g2]
    ·rw[decide_eq_false (show ¬ (3≤x.op∧x.op≤16∧x.n=0∧x.m=0)from fun q=>g1 q.1)]
     push_cast(disch:=lia)[Ez,EU,e1,e2,ab,E,M,N,decide_false,g1]
theorem YNs:Contract Tryz.prog GG 103 kC:=
 DM yr6 (DD (all_cons YNk all_nil) all_nil) (fun a h=>YHz a)
def j1:List D→Option D:=Dq (α:=Int) (fun a=>[I J a]) (fun a=>True) (fun a=>.tup [I J (Ek a).1,I J (Ek a).2])
theorem Yo7(op:Int):j1 [I J op]=s_ (.tup [I J (Ek op).1,I J (Ek op).2]):=
 DK (fun a b h=>by simp only[Aa,D.int.injEq,true_and,and_true]at h; simp[h]) (op) trivial
theorem YHh(op:Int):@wW GG (tb [] []) aB.code (Dm [I J op]) [] ⟨Ds aB.res (.tup [I J (Ek op).1,I J (Ek op).2])⟩:=by
 unfold aB Ek
 by_cases M:op=1∨op=2
 ·rw[if_pos M];rcases M with rfl|rfl <;> push_cast(disch:=lia)[decide_false,decide_true]
 ·rw[if_neg M];have e1:(op=1)=False:=YYF;have e2:(op=2)=False:=YYF
  by_cases E:op=12
  ·rw[if_pos E]; subst E
   push_cast(disch:=lia)[decide_false,decide_true]
  ·rw[if_neg E];have ab:=eq_false E
   by_cases N:op=13∨op=15
   ·rw[if_pos N];rcases N with rfl|rfl <;> push_cast(disch:=lia)[decide_false,decide_true]
   ·rw[if_neg N];have ac:(op=13)=False:=YYF;have ad:(op=15)=False:=YYF
    by_cases h4:op=14∨op=16
    ·rw[if_pos h4];rcases h4 with rfl|rfl <;> push_cast(disch:=lia)[decide_false,decide_true]
    ·rw[if_neg h4];have ae:(op=14)=False:=YYF;have af:(op=16)=False:=YYF
     push_cast(disch:=lia)[e1,e2,ab,ac,ae,ad,af,decide_false]
theorem YNg:Contract Tryz.prog GG 104 j1:=
 DM yv9 (DD all_nil all_nil) (fun a h=>YHh a)
def JD(x:Ins)(i:Int):List Int:=if x.op=15∨x.op=16 then []else if x.op=14 then [x.n]else if x.op=13 then [i+1,x.n]else [i+1]
theorem vu(len i after x y:Int)(dep:List Int):J0 len i after [x,y] dep=if Lj len i after x dep then none else if Lj len i after y (dep.set x.toNat after)then none else s_ ((dep.set x.toNat after).set y.toNat after):=(rfl)
variable {dep:List Int}{after len:Int}
theorem xZ{i x y:Int}(h:x.toNat≠y.toNat):Lj len i after y (dep.set x.toNat after)↔Lj len i after y dep:=by
 have e:EH (dep.set x.toNat after) y.toNat=EH dep y.toNat:=by
  grind
 unfold Lj;rw[e]
theorem Yfm{i:Int}(hi:0≤i):J0 len i after [a,b] dep=J0 len i after [b,a] dep:=by
 by_cases e:a=b
 ·rw[e]
 rw[vu,vu]
 by_cases M:a≤i
 ·rw[if_pos (show Lj len i after a dep from .inl M),if_pos (show Lj len i after a (dep.set b.toNat after)from .inl M)];grind
 ·by_cases N:b≤i
  ·rw[if_pos (show Lj len i after b dep from .inl N),if_pos (show Lj len i after b (dep.set a.toNat after)from .inl N)];grind
  ·have E:a.toNat≠b.toNat:=by omega
   have h3:=xZ (len:=len) (i:=i) (after:=after) (dep:=dep) E;have h4:=xZ (len:=len) (i:=i) (after:=after) (dep:=dep) E.symm;rw[List.set_comm _ _ E];grind
theorem Ynl(x:Ins){i:Int}(hi:0≤i):J0 len i after (JD x i) dep=J0 len i after (Kj x i) dep:=by
 unfold JD Kj
 by_cases M:x.op=15∨x.op=16
 ·grind
 ·rw[if_neg M]
  by_cases N:x.op=14
  ·grind
  ·rw[if_neg N]
   by_cases E:x.op=13
   ·rw[if_pos E,if_pos (.inl E),if_pos (by omega)];exact Yfm hi
   ·grind
theorem YEi(x:Ins)(i:Int):(JD x i).length≤2:=by unfold JD;grind
def du:List D→Option D:=Dq (α:=List Ins×Nat) (fun a=>[O (nz 3 (a.1.map Dk)) (a.1.map Dk) f_,I J (a.2:Int)]) (fun a=>a.2<a.1.length∧a.1.length≤4096) (fun a=>EA (JD (a.1.getD a.2 default) a.2))
theorem Ypk(c:List Ins)(i:Nat)(h:i<c.length∧c.length≤4096):du [O (nz 3 (c.map Dk)) (c.map Dk) f_,I J (i:Int)]=s_ (EA (JD (c.getD i default) i)):=
 DK (fun⟨a0,a1⟩ ⟨b0,b1⟩ h=>by simp only[Aa,D.slc.injEq,D.int.injEq,true_and,and_true,CP,Ha]at h; simp[h]) (c,i) h
theorem YH0(c:List Ins)(i:Nat)(h:i<c.length∧c.length≤4096):@wW GG (tb [] []) bF.code (Dm [O (nz 3 (c.map Dk)) (c.map Dk) f_,I J (i:Int)]) [] ⟨Ds bF.res (EA (JD (c.getD i default) i))⟩:=by
 obtain⟨hi,hc⟩:=h;have E:=fun st=>Nn st c f_ i hi;unfold bF JD EA;obtain⟨x,ab⟩:∃ x,c.getD i default=x:=⟨_,rfl⟩;rw[ab]at E ⊢
 by_cases h1:x.op=15∨x.op=16
 ·rw[if_pos h1];rcases h1 with h|h <;> push_cast(disch:=lia)[E,Me,Mj,h,decide_false,decide_true]
 ·rw[if_neg h1];have ac:(x.op=15)=False:=YYF;have ad:(x.op=16)=False:=YYF
  by_cases M:x.op=14
  ·rw[if_pos M]
   push_cast(disch:=lia)[E,Me,Mj,jc,jA,M,decide_false,decide_true,Fp]
   rfl
  ·rw[if_neg M];have ae:=eq_false M
   by_cases N:x.op=13
   ·rw[if_pos N]
    push_cast(disch:=lia)[E,Me,Mj,jc,jA,N,decide_false,decide_true,GX,DQ]
    rfl
   ·rw[if_neg N];have af:=eq_false N
    push_cast(disch:=lia)[E,Me,Mj,af,ae,ac,ad,decide_false,Fp,DQ]
    rfl
theorem YNt:Contract Tryz.prog GG 105 du:=
 DM yr4 (DD all_nil all_nil) (fun a h=>YH0 a.1 a.2 h)
theorem YKd(k k':IntKind)(n:Int)(E:0≤n)(h1:n≤4294967296):Pp 1 8 (I J 0) (I k n) (.int k' n)=s_ (n.toNat,⟨t_,1,(CZ n.toNat (0:Int)).map nI,f_⟩):=by
 have M:n.toNat≤4294967296:=by omega
 have N:n.toNat*8≤140737488355328:=by omega
 have h4:(D.int J 0).cells.length=1:=rfl;have h5:(D.int J 0).cells.all D.pure1=t_:=rfl;simp[Pp,Ny k n E,Ny k' n E,M,N,h4,h5,nI]
def Is(n i:Nat):List Int:=CZ i (-1)++CZ (n - i) 0
theorem Ydd(h:i≤n):(Is n i).length=n:=by simp[Is]; omega
theorem YMl(h:i<n):(Is n i).set i (-1)=Is n (i+1):=by unfold Is;rw[BX _ _ (by simp),BG,BF,show n - i=(n - (i+1))+1 by omega,BP,Bn,Cw,Am];rfl
theorem YMn(n:Nat):Is n 0=CZ n 0:=by simp[Is]
theorem YMm(n:Nat):Is n n=CZ n (-1):=by simp[Is]
def dI:List D→Option D:=Dq (α:=List Ins) (fun a=>[O (nz 3 (a.map Dk)) (a.map Dk) f_]) (fun a=>a.length≤9223372036854775807) (fun a=>.tup [I J (FO a).1,I J (FO a).2])
theorem uw(c:List Ins)(h:c.length≤9223372036854775807):dI [O (nz 3 (c.map Dk)) (c.map Dk) f_]=s_ (.tup [I J (FO c).1,I J (FO c).2]):=
 DK (fun a b h=>by simp only[Aa,D.slc.injEq,and_true,Ha]at h; simp[h]) (c) h
theorem YG4(c:List Ins)(h:c.length≤9223372036854775807):@wW GG (tb [(103,kC),(104,j1),(105,du)] []) bE.code (Dm [O (nz 3 (c.map Dk)) (c.map Dk) f_]) [] ⟨Ds bE.res (.tup [I J (FO c).1,I J (FO c).2])⟩:=by
 unfold bE
 by_cases h1:4096<c.length
 ·rw[show FO c=(0,2)from if_pos h1]
  push_cast(disch:=lia)[show((4096:Int)<(c.length:Int)) by omega]
 by_cases h2:c.length=0
 ·rw[show FO c=(0,200) by unfold FO; rw[if_neg h1,if_pos (.inl h2)]]
  push_cast(disch:=lia)[show ¬ ((4096:Int)<(c.length:Int)) by omega,show((c.length:Int)=0) by omega]
 have h3:¬ ((4096:Int)<(c.length:Int)):=by omega
 have h4:¬ ((c.length:Int)=0):=by omega
 have a8:=YKd J J (c.length:Int) (by omega) (by omega);rw[AI]at a8
 push_cast(disch:=lia)[h3,eq_false h4,decide_false,a8]
 refine E0 (fun i:Nat=>[(0,O (nz 3 (c.map Dk)) (c.map Dk) f_),(4,.row 0 c.length 0 c.length),(5,I J (i:Int))]) (fun i=>[⟨t_,1,(Is c.length i).map nI,f_⟩]) (fun i=>i≤c.length∧c.all Fz=(c.drop i).all Fz) (fun i=>c.length - i) 0 (by rw[YMn]; push_cast [↓CX] <;> rfl) ⟨AY _,by rw[Bs]⟩ ?_;rintro i ⟨hi,hh⟩;unfold tI
 push_cast(disch:=lia)
 refine Ew (fun g1=>?_) (fun g1=>?_)
 ·have E:i<c.length:=by omega
  have hx:=fun st=>Nn st c f_ i E;have ah:=Rg c E;obtain⟨x,a9⟩:∃ x,c.getD i default=x:=⟨_,rfl⟩;rw[a9]at hx ah;rw[ah,AX]at hh;have hf:=Ypj x;have a0:=QM (Is c.length i) f_ 0 c.length (i:Int) (Ydd hi) (by omega) (by omega);have hs0:=VE (Is c.length i) c.length i (-1) (Ydd hi) E;rw[AI]at a0;rw[YMl E]at hs0
  cases hb:Fz x with
  |false=>
   rw[hb]at hf hh;rw[Bt]at hh;rw[show FO c=(0,200) by unfold FO; rw[if_neg h1,if_pos (.inr hh)]]
   push_cast(disch:=lia)[hx,Ju,P0,hf]
  |true=>
   rw[hb]at hf hh;rw[Bb]at hh
   push_cast(disch:=lia)[hx,Ju,P0,hf,a0,Q7,hs0,DQ]
   refine EB (i+1) ⟨by show i+1≤c.length; omega,hh⟩ (by show c.length - (i+1)<c.length - i; omega) ?_;rfl
 obtain rfl:i=c.length:=by omega
 rw[A2,CH]at hh;rw[show FO c=KN (Gb c.length c 0 (GF c.length) 0) by unfold FO; rw[if_neg h1,if_neg (by rw[hh]; simp[h2])],YMm];have a0:OH (s_ ⟨t_,1,(CZ c.length (-1)).map nI,f_⟩) 1 0 c.length 0 c.length 0=s_ (.rptr 0 c.length 0 0):=QM _ f_ 0 c.length 0 (by simp) (by omega) (by omega);have hs0:MB (s_ ⟨t_,1,(CZ c.length (-1)).map nI,f_⟩) c.length 0 0=s_ ⟨t_,1,(GF c.length).map nI,f_⟩:=VE _ c.length 0 0 (by simp) (by omega)
 push_cast(disch:=lia)[a0,Q7,hs0]
 clear hh a0 hs0 g1 a8
 refine E0 (fun p:Nat×List Int×Int=>[(0,O (nz 3 (c.map Dk)) (c.map Dk) f_),(4,.row 0 c.length 0 c.length),(6,I J p.2.2),(7,I J (p.1:Int))])
  (fun p=>[⟨t_,1,p.2.1.map nI,f_⟩]) (fun p=>p.1≤c.length∧OA c.length p.1 p.2.1∧KN (Gb c.length (c.drop p.1) p.1 p.2.1 p.2.2)=KN (Gb c.length c 0 (GF c.length) 0)) (fun p=>c.length - p.1) (0,GF c.length,0)
  (by push_cast <;> rfl) ⟨AY _,?_,rfl⟩ ?_
 ·refine⟨by simp[GF],fun y hy=>?_⟩;rcases BJ hy with hy|rfl
  ·grind
  ·omega
 rintro⟨i,dep,s⟩ ⟨hi,N,hv⟩;dsimp only at hi N hv;unfold tK
 push_cast(disch:=lia)
 refine Ew (fun h5=>?_) (fun h5=>?_)
 ·have E:i<c.length:=by omega
  have cf:c.length≤4096:=by omega
  have a7:OA c.length ((i:Int)+1) dep:=⟨N.1,fun y hy=>⟨(N.2 y hy).1,by have:=(N.2 y hy).2; omega⟩⟩;have hx:=fun st=>Nn st c f_ i E;have ah:=Rg c E;have a5:du [O (nz 3 (c.map Dk)) (c.map Dk) f_,I J (i:Int)]=_:=Ypk c i ⟨E,cf⟩;obtain⟨x,a9⟩:∃ x,c.getD i default=x:=⟨_,rfl⟩;rw[a9]at hx ah a5;rw[ah,Gb]at hv;have a1:OH (s_ ⟨t_,1,dep.map nI,f_⟩) 1 0 c.length 0 c.length (i:Int)=s_ (.rptr 0 c.length i 0):=QM dep f_ 0 c.length i a7.1 (by omega) (by omega);have a2:=UP dep f_ c.length i a7.1 E;have c8:=N.2 _ (pL (x:=dep) (i:=i) (by rw[N.1]; omega));have he:=Yo7 x.op;have c9:=wZ x.op;have cg:EH dep i - (Ek x.op).1+(Ek x.op).2=FC x (EH dep i):=rfl
  by_cases h0:EH dep i<0
  ·rw[if_pos h0]at hv
   push_cast(disch:=lia)[a1,a2,h0,DQ]
   refine EB (i+1,dep,s) ⟨by dsimp only; omega,a7,hv⟩ (by dsimp only; omega) ?_;rfl
  rw[if_neg h0]at hv;generalize EH dep i=d at*
  by_cases af:d<(Ek x.op).1
  ·rw[if_pos (.inl af)]at hv
   push_cast(disch:=lia)[hx,Me,Mj,a1,a2,h0,he,af]
   rw[← hv];rfl
  have aa:=eq_false af
  by_cases bb:x.op=15∧d≠1
  ·rw[if_pos (.inr (.inl bb))]at hv
   push_cast(disch:=lia)[hx,Me,Mj,a1,a2,h0,he,aa,eq_true bb.1,eq_false bb.2,decide_false,decide_true]
   rw[← hv];rfl
  by_cases bc:x.op=16∧d≠0
  ·rw[if_pos (.inr (.inr bc))]at hv;have a3:(x.op=15)=False:=YYF
   push_cast(disch:=lia)[hx,Me,Mj,a1,a2,h0,he,aa,a3,eq_true bc.1,eq_false bc.2,decide_false,decide_true]
   rw[← hv];rfl
  rw[if_neg (by unfold KM; omega)]at hv;have ch:J0 c.length i (FC x d) (JD x i) dep=J0 c.length i (FC x d) (Kj x i) dep:=Ynl x (by omega);rw[← ch]at hv;have da:=YEi x i;have b9:-1≤FC x d:=by omega
  have ca:FC x d≤(i:Int)+1:=by omega
  generalize JD x i=M at*
  have hg:((x.op=15)=True∧(x.op=16)=False∧(d=1)=True)∨((x.op=15)=False∧(x.op=16)=True∧(d=0)=True)∨((x.op=15)=False∧(x.op=16)=False∧(x.op=15)=False):=by
   grind
  unfold EA at a5;have bd:∀ st,EF st f_ (O (nz 1 (M.map nI)) (M.map nI) f_)=s_ (I J (M.length:Int)):=fun st=>by simp[EF,Iz,E7]
  rcases hg with⟨a3,be,ed⟩|⟨a3,be,ed⟩|⟨a3,be,ed⟩
  all_goals
   push_cast(disch:=lia)[hx,Me,Mj,a1,a2,h0,he,aa,a3,be,ed,decide_false,decide_true,EI,DQ,cg,a5]
   refine E0 (fun p:Nat×List Int=>[(0,O (nz 3 (c.map Dk)) (c.map Dk) f_),(4,.row 0 c.length 0 c.length),(6,I J (max (max s d) (FC x d))),(7,I J (i:Int)),(11,I J (FC x d)),(12,O (nz 1 (M.map nI)) (M.map nI) f_),(13,I J (p.1:Int))])
    (fun p=>[⟨t_,1,p.2.map nI,f_⟩]) (fun p=>p.1≤M.length∧OA c.length ((i:Int)+1) p.2∧J0 c.length i (FC x d) (M.drop p.1) p.2=J0 c.length i (FC x d) M dep) (fun p=>M.length - p.1) (0,dep) (by push_cast <;> rfl) ⟨AY _,a7,rfl⟩ ?_
   rintro⟨j,dp⟩ ⟨hj,ab,hn⟩;dsimp only at hj ab hn;unfold tJ
   push_cast(disch:=lia)[bd]
   refine Ew (fun h7=>?_) (fun h7=>?_)
   ·have cb:j<M.length:=by omega
    have bf:=Rg M cb;have ad:=fun st=>RF st M f_ j cb;obtain⟨n,c0⟩:∃ n,M.getD j default=n:=⟨_,rfl⟩;rw[c0]at bf ad;rw[bf,J0]at hn
    by_cases b1:n≤(i:Int)
    ·rw[if_pos (.inl b1)]at hn;rw[← hn]at hv
     push_cast(disch:=lia)[ad,KK,b1]
     rw[← hv]; rfl
    ·by_cases b2:(c.length:Int)≤n
     ·rw[if_pos (.inr (.inl b2))]at hn;rw[← hn]at hv
      push_cast(disch:=lia)[ad,KK,b1,b2]
      rw[← hv]; rfl
     ·have bh:=QM dp f_ 0 c.length n ab.1 (by omega) (by omega);have b5:=UP dp f_ c.length n.toNat ab.1 (by omega);have hs:=VE dp c.length n.toNat (FC x d) ab.1 (by omega)
      by_cases b3:0≤EH dp n.toNat
      ·by_cases b4:EH dp n.toNat=FC x d
       ·have c2:=eq_true b4;rw[if_neg (by unfold Lj; omega)]at hn
        push_cast(disch:=lia)[ad,KK,b1,b2,bh,b5,b3,c2,decide_true,Q7,hs,DQ]
        refine EB (j+1,dp.set n.toNat (FC x d)) ⟨by dsimp only; omega,fF ab _ b9 ca,hn⟩ (by dsimp only; omega) ?_;rfl
       ·rw[if_pos (.inr (.inr ⟨b3,b4⟩))]at hn;rw[← hn]at hv
        push_cast(disch:=lia)[ad,KK,b1,b2,bh,b5,b3,eq_false b4,decide_false]
        rw[← hv]; rfl
      ·rw[if_neg (by unfold Lj; omega)]at hn
       push_cast(disch:=lia)[ad,KK,b1,b2,bh,b5,b3,Q7,hs,DQ]
       refine EB (j+1,dp.set n.toNat (FC x d)) ⟨by dsimp only; omega,fF ab _ b9 ca,hn⟩ (by dsimp only; omega) ?_;rfl
   ·obtain rfl:j=M.length:=by omega
    rw[A2,J0]at hn;rw[← hn]at hv
    push_cast(disch:=lia)[DQ]
    refine EB (i+1,dp,max (max s d) (FC x d)) ⟨by dsimp only; omega,ab,hv⟩ (by dsimp only; omega) ?_;rfl
 ·obtain rfl:i=c.length:=by omega
  rw[A2,Gb]at hv;rw[show KN (s_ s)=if 64<s then(0,2)else(s,0)from rfl]at hv
  by_cases h6:64<s
  ·rw[if_pos h6]at hv
   push_cast(disch:=lia)[h6]
   rw[← hv]
  ·rw[if_neg h6]at hv
   push_cast(disch:=lia)[h6]
   rw[← hv]
theorem z6:Contract Tryz.prog GG 52 dI:=
 DM yr5 (DD (all_cons YNs (all_cons YNg (all_cons YNt all_nil))) all_nil) (fun a h=>YG4 a h)
theorem Yig(a:Int):(C0 64 a).toNat=DV a:=by rfl
theorem YGn{k:Nat}(h:k<18446744073709551616):IntKind.wrap J (k:Int)=0↔k=0:=by
 have e:IntKind.wrap J (k:Int)=if(t_ && decide ((k:Int) % (2 ^ 64:Int) ≥ (2 ^ (64 - 1):Int)))=t_ then(k:Int) % (2 ^ 64:Int) - (2 ^ 64:Int)else(k:Int) % (2 ^ 64:Int):=(rfl)
 grind
theorem zh(a b:Int):JK a b=0↔C0 64 a &&& C0 64 b=0#64:=by
 unfold JK;rw[YGn (BitVec.isLt _)];constructor
 ·intro h;exact BitVec.eq_of_toNat_eq (by rw[h]; rfl)
 ·grind
theorem Yri(x:BitVec 64)(n:Nat)(h:n<64):x &&& BitVec.twoPow 64 n=0#64↔x.toNat / 2 ^ n % 2=0:=by
 have hb:x.getLsbD n=decide (x.toNat / 2 ^ n % 2=1):=by
  rw[BitVec.getLsbD,Nat.testBit_eq_decide_div_mod_eq]
 rw[BitVec.and_twoPow,hb]
 by_cases E:x.toNat / 2 ^ n % 2=1
 ·rw[decide_eq_true E,if_pos rfl];constructor
  ·intro M;have:=congrArg BitVec.toNat M;rw[BitVec.toNat_twoPow]at this;have N:2 ^ n<2 ^ 64:=Nat.pow_lt_pow_right (by decide) h;grind
  ·omega
 ·grind
theorem Yx3(n:Nat)(h:n≤15):C0 64 ((2:Int) ^ n)=BitVec.twoPow 64 n:=by rcases(by omega:n=0∨n=1∨n=2∨n=3∨n=4∨n=5∨n=6∨n=7∨n=8∨n=9∨n=10∨n=11∨n=12∨n=13∨n=14∨n=15)with rfl|rfl|rfl|rfl|rfl|rfl|rfl|rfl|rfl|rfl|rfl|rfl|rfl|rfl|rfl|rfl <;> decide
theorem YEc(a:Int){n:Int}(E:0≤n)(M:n<16):JK (a / 2 ^ n.toNat) 1=0↔JK a (JI n)=0:=by
 obtain⟨k,rfl⟩:=Bc E;have hk:k≤15:=by omega
 have hb:JI (k:Int)=2 ^ k:=by
  unfold JI;rw[AI,Int.one_mul,BM (by omega)]
  have N:(2:Int) ^ k≤2 ^ 15:=by
   have:=Cu (show 0<2 by decide) hk
   exact_mod_cast this
  have h3:(0:Int)≤2 ^ k:=by
   have:=Cd k
   exact_mod_cast (Cm this)
  exact On (by omega) (by omega)
 rw[hb,zh,zh,Yx3 k hk,Yri _ k (by omega),show(1:Int)=2 ^ 0 from rfl,Yx3 0 (by decide),Yri _ 0 (by decide),Yig,Yig,AI];unfold DV;rcases(by omega:k=0∨k=1∨k=2∨k=3∨k=4∨k=5∨k=6∨k=7∨k=8∨k=9∨k=10∨k=11∨k=12∨k=13∨k=14∨k=15)with rfl|rfl|rfl|rfl|rfl|rfl|rfl|rfl|rfl|rfl|rfl|rfl|rfl|rfl|rfl|rfl <;> simp only[Nat.reducePow,Df] <;> omega
def GA(p f t c:Int)(S:D):List D:=[I J p,I J f,I J t,I J c,S]
theorem TY(s:Sta)(k m o n:Nat):Eb (s_ ⟨f_,1,Ep s,f_⟩) 1 4 (.row k m o n)=s_ ⟨f_,1,GA s.pc s.fuel s.status s.clause (.row k m o n),f_⟩:=(rfl)
theorem RB(p f t c:Int)(S:D)(lent:Bool):DJ (s_ ⟨f_,1,GA p f t c S,lent⟩) 1 f_ 0=s_ (I J p):=(rfl)
theorem Qu(p f t c:Int)(S:D)(lent:Bool):DJ (s_ ⟨f_,1,GA p f t c S,lent⟩) 5 t_ 0=s_ (U (GA p f t c S)):=(rfl)
theorem QA(p f t c n:Int)(S:D):Eb (s_ ⟨f_,1,GA p f t c S,f_⟩) 1 0 (I J n)=s_ ⟨f_,1,GA n f t c S,f_⟩:=(rfl)
theorem TZ(p f t c:Int)(k m o n:Nat):Eb (s_ ⟨f_,1,[I J 0,I J 0,I J 0,I J 0,O 0 [] t_],f_⟩) 5 0 (U (GA p f t c (.row k m o n)))=s_ ⟨f_,1,GA p f t c (.row k m o n),f_⟩:=(rfl)
theorem Yx9(p f t c:Int)(sz:Nat)(l:List D)(q:Bool):Eb (s_ ⟨f_,1,[I J 0,I J 0,I J 0,I J 0,O 0 [] t_],f_⟩) 5 0 (U (GA p f t c (O sz l q)))=s_ ⟨f_,1,GA p f t c (O sz l q),f_⟩:=(rfl)
theorem Wp(s:Sta)(n:Int):Eb (s_ ⟨f_,1,Ep s,f_⟩) 1 0 (I J n)=s_ ⟨f_,1,Ep {s with pc:=n},f_⟩:=(rfl)
theorem Wo(s:Sta)(n:Int):Eb (s_ ⟨f_,1,Ep s,f_⟩) 1 3 (I J n)=s_ ⟨f_,1,Ep {s with clause:=n},f_⟩:=(rfl)
theorem qY(st:St)(L:List Int)(r:Int)(t:Bool)(hl:L.length≤1000) :
  Eg st 1 8 (O 1 [] t_) (O (nz 1 (L.map nI)) (L.map nI) t)=s_ (DY 1 st.length (L.map nI),st++DC 1 (L.map nI))∧
  Eg (st++DC 1 (L.map nI)) 1 8 (DY 1 st.length (L.map nI)) (O 1 [I J r] t_)=s_ (.row st.length (L.length+1) 0 (L.length+1),st++[⟨t_,1,(L++[r]).map nI,f_⟩]):=by refine⟨YP nI st 1 1 8 L t (by decide) (by omega) (by omega),?_⟩;have h:=Vt nI 1 1 8 L r t_ (by decide) (by omega) (by omega) st;rw[Yqu,Yqt,Ac]at h;exact h
def Fe(s:Sta):Out→Sta×Int
 |.err e=>(s,e)
 |.pop k push pc=>(FA s (.pop k push pc),0)
 |.set p t c=>(FA s (.set p t c),0)
theorem YLh(E o1 o2 M:PI.Obj)(p f t c:Int)(A:List Int)(m:Nat)(h:A.length=m):Ej [E,o1,o2,M,⟨t_,1,A.map nI,f_⟩] (U (GA p f t c (.row 4 m 0 m)))=s_ (DS ⟨p,f,t,c,A⟩):=by
 have N:HO [E,o1,o2,M,⟨t_,1,A.map nI,f_⟩] 4 m 0 m=s_ (1,A.map nI):=by
  simp only[HO,Bl,AG];grind
 simp only[GA,Ej,Es,D2,N,Ae];rfl
def j3:List D→Option D:=Dq (α:=Ins×(Int×List Int)×Sta×Int) (fun a=>[Dk a.1,D6 a.2.1,DS a.2.2.1,I J a.2.2.2]) (fun a=>ED a.2.1∧(a.1.op=1∨a.1.op=2)∧(0≤a.2.2.2∧a.2.2.2≤64)∧a.2.2.1.stack.length≤64∧(0≤a.2.2.1.pc∧a.2.2.1.pc≤100000)∧(a.1.op=2→0≤a.1.n∧a.1.n<16)) (fun a=>.tup [DS (Fe a.2.2.1 (DN a.2.1 a.2.2.2 a.2.2.1 a.1)).1,I J (Fe a.2.2.1 (DN a.2.1 a.2.2.2 a.2.2.1 a.1)).2])
theorem Yo5(x:Ins)(v:Int×List Int)(s:Sta)(b:Int)(h:ED v∧(x.op=1∨x.op=2)∧(0≤b∧b≤64)∧s.stack.length≤64∧(0≤s.pc∧s.pc≤100000)∧(x.op=2→0≤x.n∧x.n<16)):j3 [Dk x,D6 v,DS s,I J b]=s_ (.tup [DS (Fe s (DN v b s x)).1,I J (Fe s (DN v b s x)).2]):=
 DK (fun⟨a0,a1,E,M⟩ ⟨b0,b1,N,b3⟩ h=>by simp only[Aa,D.int.injEq,true_and,and_true,O3,Nu,Hz]at h; simp[h]) (x,v,s,b) h
theorem YHf(x:Ins)(v:Int×List Int)(s:Sta)(b:Int)(h:ED v∧(x.op=1∨x.op=2)∧(0≤b∧b≤64)∧s.stack.length≤64∧(0≤s.pc∧s.pc≤100000)∧(x.op=2→0≤x.n∧x.n<16)):@wW GG (tb [] []) aZ.code (Dm [Dk x,D6 v,DS s,I J b]) [] ⟨Ds aZ.res (.tup [DS (Fe s (DN v b s x)).1,I J (Fe s (DN v b s x)).2])⟩:=by
 obtain⟨hv,a0,⟨a7,a8⟩,hl,⟨a9,ba⟩,a3⟩:=h;unfold aZ;have app:=fun r=>qY [⟨f_,1,D1 x,f_⟩,⟨f_,1,Ev v,f_⟩,⟨f_,1,Ep s,f_⟩,⟨f_,1,[I J 0,I J 0,I J 0,I J 0,O 0 [] t_],f_⟩] s.stack r f_ (by omega);have e1:((1:Int)=2)=False:=yV
 by_cases E:64≤b+s.stack.length
 ·have M:DN v b s x=.err 200:=by
   unfold DN;grind
  rw[M]
  push_cast(disch:=lia)[Ez,D5,Fx,F8,Hc,HQ,DQ,E,G9,HR,HA,Fe]
 ·have ad:∀ r,DN v b s x=.pop 0 (s_ r) none→Fe s (DN v b s x)=(⟨s.pc+1,s.fuel,s.status,s.clause,s.stack++[r]⟩,0):=fun r h=>by
   rw[h]
   show((⟨s.pc+1,s.fuel,s.status,s.clause,s.stack.take (s.stack.length - 0)++[r]⟩:Sta),(0:Int))=_
   grind
  have hk:=fun r=>YLh ⟨f_,1,D1 x,f_⟩ ⟨f_,1,Ev v,f_⟩ ⟨f_,1,GA (s.pc+1) s.fuel s.status s.clause (.row 4 (s.stack.length+1) 0 (s.stack.length+1)),f_⟩ ⟨f_,1,GA (s.pc+1) s.fuel s.status s.clause (.row 4 (s.stack.length+1) 0 (s.stack.length+1)),f_⟩ (s.pc+1) s.fuel s.status s.clause (s.stack++[r]) (s.stack.length+1) (by simp);rcases a0 with h|h
  ·have M:DN v b s x=.pop 0 (s_ x.n) none:=by
    unfold DN; rw[if_pos h,if_neg E]
   rw[ad _ M];have a1:=(app x.n).1;have a2:=(app x.n).2;simp only[Ak,Ar,Ag,Al]at a1 a2
   push_cast(disch:=lia)[Ez,D5,Fx,F8,Hc,HQ,DQ,E,EU,GP,h,e1,decide_false,Fp,a1,a2,TY,RB,QA,Qu,TZ,hk]
  ·obtain⟨n0,n1⟩:=a3 h;have bb:v.2.length=16:=hv;have af:=YEc v.1 n0 n1;have ab:DF .shr (I J v.1) (I J x.n)=s_ (I J (v.1 / 2 ^ x.n.toNat)):=Yz n0 (by omega);have h1:¬ x.op=1:=by omega
   by_cases hb:JK v.1 (JI x.n)=0
   ·have N:=af.2 hb
    have M:DN v b s x=.err 181:=by
     unfold DN; rw[if_neg h1,if_pos h,if_neg E,if_pos hb]
    rw[M]
    push_cast(disch:=lia)[Ez,D5,Fx,F8,Hc,HQ,DQ,E,EU,GP,h,S4,ab,P2,N,G9,HR,HA,Fe]
   ·have N:¬ JK (v.1 / 2 ^ x.n.toNat) 1=0:=fun q=>hb (af.1 q);obtain⟨k,aa⟩:∃ k:Nat,x.n=k:=⟨x.n.toNat,by omega⟩;have ah:=zG v (i:=k) (by omega);have ac:=fun st=>KT st 16 1 1 J (k:Int) (by omega) (by omega);rw[AI]at ac;rw[aa]at ab N hb;rw[AI]at ab N;have a5:EH v.2 x.n.toNat=v.2.getD k default:=by rw[aa,AI]
    have M:DN v b s x=if v.2.getD k default < -9007199254740992∨9007199254740992<v.2.getD k default then .err 3 else .pop 0 (s_ (v.2.getD k default)) none:=by
     unfold DN; rw[if_neg h1,if_pos h,if_neg E,aa,if_neg hb,← aa,a5]
    generalize v.2.getD k default=r at*
    by_cases g1:r < -9007199254740992
    ·rw[if_pos (.inl g1)]at M;rw[M]
     push_cast(disch:=lia)[Ez,D5,Fx,F8,Hc,HQ,DQ,E,EU,GP,aa,h,S4,ab,P2,eq_false N,decide_false,ac,ah,g1,G9,HR,HA,Fe]
    ·by_cases g2:9007199254740992<r
     ·rw[if_pos (.inr g2)]at M;rw[M]
      push_cast(disch:=lia)[Ez,D5,Fx,F8,Hc,HQ,DQ,E,EU,GP,aa,h,S4,ab,P2,eq_false N,decide_false,ac,ah,g1,g2,G9,HR,HA,Fe]
     ·rw[YYN]at M;rw[ad _ M];have a1:=(app r).1;have a2:=(app r).2;simp only[Ak,Ar,Ag,Al]at a1 a2
      push_cast(disch:=lia)[Ez,D5,Fx,F8,Hc,HQ,DQ,E,EU,GP,aa,h,S4,ab,P2,eq_false N,decide_false,ac,ah,g1,g2,Fp,a1,a2,TY,RB,QA,Qu,TZ,hk]
theorem YNe:Contract Tryz.prog GG 185 j3:=
 DM yv6 (DD all_nil all_nil) (fun a h=>YHf a.1 a.2.1 a.2.2.1 a.2.2.2 h)
theorem Yd3(st:St)(L:List Int)(r:Int)(sz:Nat)(t:Bool)(E:sz=1∨L.map nI=[])(hl:L.length≤1000) :
  Eg st 1 8 (O 1 [] t_) (O sz (L.map nI) t)=s_ (DY 1 st.length (L.map nI),st++DC 1 (L.map nI)):=by have:=SE nI 1 1 8 [] L t (by decide) (by simp; omega) (by simp; omega) st sz E;simpa[DC,DY]using this
theorem rz(st:St)(l:List Int)(k:Nat)(h:k≤l.length):G5 st 1 (O (nz 1 (l.map nI)) (l.map nI) f_) none (s_ (I J ((l.length:Int) - k))) none=s_ (O (nz 1 (l.map nI)) ((l.take (l.length - k)).map nI) f_):=by rw[show(l.length:Int) - k=((l.length - k:Nat):Int) by omega];exact qE st l (by omega)
theorem fY(st:St)(l:List Int)(k:Nat)(h:k<l.length):GK st 1 (O (nz 1 (l.map nI)) (l.map nI) f_) (I J ((l.length:Int) - ((k:Int)+1)))=s_ (.eptr (nI (Gz l k)) 0):=by have:=RF st l f_ (l.length - 1 - k) (by omega);rw[show((l.length - 1 - k:Nat):Int)=(l.length:Int) - ((k:Int)+1) by omega]at this;exact this
theorem qw(l:List Int)(h:0<l.length):nz 1 (l.map nI)=1:=by
 cases l with
 |nil=>cases h
 |cons a r=>rfl
theorem YJc(s:Sta)(sz:Nat)(l:List D)(q:Bool):Eb (s_ ⟨f_,1,Ep s,f_⟩) 1 4 (O sz l q)=s_ ⟨f_,1,GA s.pc s.fuel s.status s.clause (O sz l q),f_⟩:=(rfl)
theorem YLg(st:St)(p f t c:Int)(L:List Int)(q:Bool):Ej st (U (GA p f t c (O 1 (L.map nI) q)))=s_ (DS ⟨p,f,t,c,L⟩):=(rfl)
def jY:List D→Option D:=Dq (α:=Ins×(Int×List Int)×Sta×Int) (fun a=>[Dk a.1,D6 a.2.1,DS a.2.2.1,I J a.2.2.2]) (fun a=>ED a.2.1∧Fz a.1=t_∧(0≤a.2.2.2∧a.2.2.2≤64)∧a.2.2.1.stack.length≤64∧(0≤a.2.2.1.pc∧a.2.2.1.pc≤100000)) (fun a=>.tup [DS (Fe a.2.2.1 (Gj a.2.1 a.2.2.2 a.2.2.1 a.1)).1,I J (Fe a.2.2.1 (Gj a.2.1 a.2.2.2 a.2.2.1 a.1)).2])
theorem Ypl(x:Ins)(v:Int×List Int)(s:Sta)(b:Int)(h:ED v∧Fz x=t_∧(0≤b∧b≤64)∧s.stack.length≤64∧(0≤s.pc∧s.pc≤100000)):jY [Dk x,D6 v,DS s,I J b]=s_ (.tup [DS (Fe s (Gj v b s x)).1,I J (Fe s (Gj v b s x)).2]):=
 DK (fun⟨a0,a1,E,M⟩ ⟨b0,b1,N,b3⟩ h=>by simp only[Aa,D.int.injEq,true_and,and_true,O3,Nu,Hz]at h; simp[h]) (x,v,s,b) h
theorem YH2(x:Ins)(v:Int×List Int)(s:Sta)(b:Int)(h:ED v∧Fz x=t_∧(0≤b∧b≤64)∧s.stack.length≤64∧(0≤s.pc∧s.pc≤100000)):@wW GG (tb [(112,dA),(185,j3),(186,jR)] []) bV.code (Dm [Dk x,D6 v,DS s,I J b]) [] ⟨Ds bV.res (.tup [DS (Fe s (Gj v b s x)).1,I J (Fe s (Gj v b s x)).2])⟩:=by
 obtain⟨hv,hf,⟨bc,bd⟩,hl,⟨be,bf⟩⟩:=h;unfold bV;have hn:=uq x.op;have b2:1≤x.op∧x.op≤16:=by have:=of_decide_eq_true hf; exact⟨this.1,this.2.1⟩
 obtain⟨_,_,bb⟩:=Ycv hf
 by_cases E:(s.stack.length:Int)<HE x.op
 ·rw[show Gj v b s x=.err 200 from if_pos E]
  push_cast(disch:=lia)[Ez,D5,Fx,F8,Hc,HQ,EU,hn,E,G9,HR,HA,Fe]
 rw[show Gj v b s x=DN v b s x from if_neg E]
 by_cases a4:x.op=1∨x.op=2
 ·have hc:=Yo5 x v s b ⟨hv,a4,⟨bc,bd⟩,hl,⟨be,bf⟩,fun q=>⟨by omega,bb q⟩⟩;generalize Fe s (DN v b s x)=r at*;obtain⟨r1,r2⟩:=r;rcases a4 with h|h
  ·rw[h]at hn E
   push_cast(disch:=lia)[Ez,D5,Fx,F8,Hc,HQ,EU,h,hn,E,decide_true,Nj,Fu hv,G9,P0,Vq,Fa,GO,HA,Mi,hc,HR]
  ·rw[h]at hn E
   push_cast(disch:=lia)[Ez,D5,Fx,F8,Hc,HQ,EU,h,hn,E,TO,decide_false,decide_true,Nj,Fu hv,G9,P0,Vq,Fa,GO,HA,Mi,hc,HR]
 have ad:∀ (L:List Int) (r:Int) (k:Nat),s.stack.take (s.stack.length - k)=L→Fe s (.pop k (s_ r) none)=(⟨s.pc+1,s.fuel,s.status,s.clause,L++[r]⟩,0):=fun L r k h=>by
  show((⟨s.pc+1,s.fuel,s.status,s.clause,s.stack.take (s.stack.length - k)++[r]⟩:Sta),(0:Int))=_
  rw[h]
 have hk:=fun(A:List Int) (m:Nat) (hm:A.length=m)=>YLh ⟨f_,1,D1 x,f_⟩ ⟨f_,1,Ev v,f_⟩ ⟨f_,1,GA (s.pc+1) s.fuel s.status s.clause (.row 4 m 0 m),f_⟩ ⟨f_,1,GA (s.pc+1) s.fuel s.status s.clause (.row 4 m 0 m),f_⟩ (s.pc+1) s.fuel s.status s.clause A m hm;rcases(by omega:x.op=12∨x.op=13∨x.op=14∨x.op=15∨x.op=16∨(3≤x.op∧x.op≤11))with h|h|h|h|h|h
 ·rw[h]at hn E;have hlen:1≤s.stack.length:=by have:HE 12=1:=rfl; omega
  have M:=fun st=>fY st s.stack 0 (by omega);have N:=fun st=>rz st s.stack 1 hlen;rw[show(((0:Nat):Int)+1)=1 from rfl]at M;rw[show((1:Nat):Int)=1 from rfl]at N;obtain⟨L,hL⟩:∃ L,s.stack.take (s.stack.length - 1)=L:=⟨_,rfl⟩;have bg:L.length≤64:=by rw[← hL,AA]; omega
  rw[hL]at N;obtain⟨t,ht⟩:∃ t,Gz s.stack 0=t:=⟨_,rfl⟩;rw[ht]at M;obtain⟨r,hr⟩:∃ r:Int,(if x.n≤t∧t≤x.m then 1 else 0)=r:=⟨_,rfl⟩
  have ho:DN v b s x=.pop 1 (s_ r) none:=by
   rw[← hr,← ht]; unfold DN; rw[YYN,YYN,if_pos h]; rfl
  rw[ho,ad L r 1 hL];have a1:=Yd3 [⟨f_,1,D1 x,f_⟩,⟨f_,1,Ev v,f_⟩,⟨f_,1,Ep s,f_⟩,⟨f_,1,[I J 0,I J 0,I J 0,I J 0,O 0 [] t_],f_⟩] L r (nz 1 (s.stack.map nI)) f_ (.inl (qw _ (by omega))) (by omega);have a2:=(qY [⟨f_,1,D1 x,f_⟩,⟨f_,1,Ev v,f_⟩,⟨f_,1,Ep s,f_⟩,⟨f_,1,[I J 0,I J 0,I J 0,I J 0,O 0 [] t_],f_⟩] L r f_ (by omega)).2;have hk:=hk (L++[r]) (L.length+1) (by simp);simp only[Ak,Ar,Ag,Al]at a1 a2
  by_cases g1:x.n≤t
  ·by_cases g2:t≤x.m
   ·rw[if_pos ⟨g1,g2⟩]at hr;subst hr
    push_cast(disch:=lia)[Ez,D5,Fx,F8,Hc,HQ,EU,h,hn,E,decide_false,decide_true,GP,MU,EI,M,KK,g1,g2,N,a1,Fp,a2,TY,RB,DQ,QA,Qu,TZ,hk]
   ·rw[if_neg (fun q=>g2 q.2)]at hr;subst hr
    push_cast(disch:=lia)[Ez,D5,Fx,F8,Hc,HQ,EU,h,hn,E,decide_false,decide_true,GP,MU,EI,M,KK,g1,g2,N,a1,Fp,a2,TY,RB,DQ,QA,Qu,TZ,hk]
  ·rw[if_neg (fun q=>g1 q.1)]at hr;subst hr
   push_cast(disch:=lia)[Ez,D5,Fx,F8,Hc,HQ,EU,h,hn,E,decide_false,decide_true,GP,EI,M,KK,g1,N,a1,Fp,a2,TY,RB,DQ,QA,Qu,TZ,hk]
 ·rw[h]at hn E;have hlen:1≤s.stack.length:=by have:HE 13=1:=rfl; omega
  have M:=fun st=>fY st s.stack 0 (by omega);have N:=fun st=>rz st s.stack 1 hlen;rw[show(((0:Nat):Int)+1)=1 from rfl]at M;rw[show((1:Nat):Int)=1 from rfl]at N
  have ho:DN v b s x=.pop 1 none (if Gz s.stack 0=0 then s_ x.n else none):=by
   unfold DN; rw[YYN,YYN,YYN,if_pos h]; rfl
  rw[ho];obtain⟨L,hL⟩:∃ L,s.stack.take (s.stack.length - 1)=L:=⟨_,rfl⟩;rw[hL]at N;obtain⟨t,ht⟩:∃ t,Gz s.stack 0=t:=⟨_,rfl⟩;rw[ht]at M ⊢;have af:=qw s.stack (by omega);rw[af]at N M;have a5:=fun st p=>YLg st p s.fuel s.status s.clause L f_
  by_cases g:t=0
  ·rw[if_pos g,show Fe s (.pop 1 none (s_ x.n))=(⟨x.n,s.fuel,s.status,s.clause,L⟩,0) by
    show((⟨x.n,s.fuel,s.status,s.clause,s.stack.take (s.stack.length - 1)++[]⟩:Sta),(0:Int))=_
    grind]
   subst g
   push_cast(disch:=lia)[Ez,D5,Fx,F8,Hc,HQ,EU,h,hn,E,decide_false,decide_true,af,GP,EI,M,KK,N,YJc,QA,Qu,Yx9,a5]
  ·rw[if_neg g,show Fe s (.pop 1 none none)=(⟨s.pc+1,s.fuel,s.status,s.clause,L⟩,0) by
    show((⟨s.pc+1,s.fuel,s.status,s.clause,s.stack.take (s.stack.length - 1)++[]⟩:Sta),(0:Int))=_
    grind]
   have g':=eq_false g
   push_cast(disch:=lia)[Ez,D5,Fx,F8,Hc,HQ,EU,h,hn,E,decide_false,decide_true,af,EI,M,KK,g',N,YJc,RB,DQ,QA,Qu,Yx9,a5]
 ·rw[show DN v b s x=.set x.n s.status s.clause by unfold DN; rw[YYN,YYN,YYN,YYN,if_pos h]];rw[h]at hn E
  push_cast(disch:=lia)[Ez,D5,Fx,F8,Hc,HQ,EU,h,hn,E,decide_false,decide_true,GP,Wp,G9,HR,HA,Fe,FA]
 ·rw[show DN v b s x=.set s.pc 1 x.n by unfold DN; rw[YYN,YYN,YYN,YYN,YYN,if_pos h]];rw[h]at hn E
  push_cast(disch:=lia)[Ez,D5,Fx,F8,Hc,HQ,EU,h,hn,E,decide_false,decide_true,GP,Yw,Wo,G9,HR,HA,Fe,FA]
 ·rw[show DN v b s x=.err 180 by unfold DN; rw[YYN,YYN,YYN,YYN,YYN,YYN,if_pos h]];rw[h]at hn E
  push_cast(disch:=lia)[Ez,D5,Fx,F8,Hc,HQ,EU,h,hn,E,decide_false,decide_true,G9,HR,HA,Fe]
 ·have e1:(x.op=1)=False:=YYF;have e2:(x.op=2)=False:=YYF;have a6:(x.op=12)=False:=YYF;have a7:(x.op=13)=False:=YYF;have a8:(x.op=14)=False:=YYF;have a9:(x.op=15)=False:=YYF;have ba:(x.op=16)=False:=YYF
  have hlen:2≤s.stack.length:=by
   have:HE x.op=2:=by unfold HE; rw[YYN,if_pos h]
   omega
  have M:=fun st=>fY st s.stack 0 (by omega);have ah:=fun st=>fY st s.stack 1 (by omega);have a0:=fun st=>rz st s.stack 2 hlen;rw[show(((0:Nat):Int)+1)=1 from rfl]at M;rw[show(((1:Nat):Int)+1)=2 from rfl]at ah;rw[show((2:Nat):Int)=2 from rfl]at a0;have hb:=Ypq x.op (Gz s.stack 1) (Gz s.stack 0) h
  have ho:DN v b s x=if(Ea x.op (Gz s.stack 1) (Gz s.stack 0)).2=0 then .pop 2 (s_ (Ea x.op (Gz s.stack 1) (Gz s.stack 0)).1) none else .err (Ea x.op (Gz s.stack 1) (Gz s.stack 0)).2:=by
   unfold DN; rw[YYN,YYN,YYN,YYN,YYN,YYN,YYN]; rfl
  rw[ho];generalize Gz s.stack 1=t1 at*;generalize Gz s.stack 0=t0 at*;generalize Ea x.op t1 t0=r at*;obtain⟨r,e⟩:=r;dsimp only at hb ⊢;obtain⟨L,hL⟩:∃ L,s.stack.take (s.stack.length - 2)=L:=⟨_,rfl⟩;have bg:L.length≤64:=by rw[← hL,AA]; omega
  rw[hL]at a0
  by_cases g:e=0
  ·subst g;rw[if_pos rfl,ad L r 2 hL];have a1:=Yd3 [⟨f_,1,D1 x,f_⟩,⟨f_,1,Ev v,f_⟩,⟨f_,1,Ep s,f_⟩,⟨f_,1,[I J 0,I J 0,I J 0,I J 0,O 0 [] t_],f_⟩] L r (nz 1 (s.stack.map nI)) f_ (.inl (qw _ (by omega))) (by omega);have a2:=(qY [⟨f_,1,D1 x,f_⟩,⟨f_,1,Ev v,f_⟩,⟨f_,1,Ep s,f_⟩,⟨f_,1,[I J 0,I J 0,I J 0,I J 0,O 0 [] t_],f_⟩] L r f_ (by omega)).2;have hk:=hk (L++[r]) (L.length+1) (by simp);simp only[Ak,Ar,Ag,Al]at a1 a2
   push_cast(disch:=lia)[Ez,D5,Fx,F8,Hc,HQ,EU,hn,E,e1,e2,a6,a7,a8,a9,ba,decide_false,decide_true,EI,M,ah,KK,hb,a0,a1,Fp,a2,TY,RB,DQ,QA,Qu,TZ,hk]
  ·rw[if_neg g];have g':=eq_false g
   push_cast(disch:=lia)[Ez,D5,Fx,F8,Hc,HQ,EU,hn,E,e1,e2,a6,a7,a8,a9,ba,decide_false,EI,M,ah,KK,hb,g',G9,HR,HA,Fe]
theorem YNv:Contract Tryz.prog GG 158 jY:=
 DM yra (DD (all_cons zt (all_cons YNe (all_cons YN3 all_nil))) all_nil) (fun a h=>YH2 a.1 a.2.1 a.2.2.1 a.2.2.2 h)
def jO:List D→Option D:=Dq (α:=List Ins×(Int×List Int)×Sta×Int) (fun a=>[O (nz 3 (a.1.map Dk)) (a.1.map Dk) f_,D6 a.2.1,DS a.2.2.1,I J a.2.2.2]) (fun a=>aOK a.1 a.2.1 a.2.2.1 a.2.2.2) (fun a=>DS (FU a.2.1 a.2.2.2 a.2.2.1 (a.1.getD a.2.2.1.pc.toNat default)))
theorem Ypt(c:List Ins)(v:Int×List Int)(s:Sta)(b:Int)(h:aOK c v s b):jO [O (nz 3 (c.map Dk)) (c.map Dk) f_,D6 v,DS s,I J b]=s_ (DS (FU v b s (c.getD s.pc.toNat default))):=
 DK (fun⟨a0,a1,E,M⟩ ⟨b0,b1,N,b3⟩ h=>by simp only[Aa,D.slc.injEq,D.int.injEq,true_and,and_true,Ha,Nu,Hz]at h; simp[h]) (c,v,s,b) h
theorem YId(c:List Ins)(v:Int×List Int)(s:Sta)(b:Int)(h:aOK c v s b):@wW GG (tb [(158,jY)] []) bU.code (Dm [O (nz 3 (c.map Dk)) (c.map Dk) f_,D6 v,DS s,I J b]) [] ⟨Ds bU.res (DS (FU v b s (c.getD s.pc.toNat default)))⟩:=by
 obtain⟨hv,ae,af,hl,ah,a3,hc,hf,a4,a5⟩:=h;have a0:s.pc.toNat<c.length:=by omega
 unfold bU
 by_cases h1:s.fuel=0
 ·rw[show FU v b s (c.getD s.pc.toNat default)={s with status:=220} from if_pos h1]
  push_cast(disch:=lia)[D5,Fx,F8,Hs,h1,Yw,G9,HR,HA]
 ·rw[show FU v b s (c.getD s.pc.toNat default)=FA (DI s) (Gj v b (DI s) (c.getD s.pc.toNat default))from if_neg h1];have M:=fun st=>Nn st c f_ s.pc.toNat a0;rw[show((s.pc.toNat:Nat):Int)=s.pc by omega]at M
  have ad:Fz (c.getD s.pc.toNat default)=t_:=by
   grind
  obtain⟨x,a1⟩:∃ x,c.getD s.pc.toNat default=x:=⟨_,rfl⟩;rw[a1]at M ad ⊢;have M:∀ st:St,GK st 3 (O (nz 3 (c.map Dk)) (c.map Dk) f_) (I J (DI s).pc)=s_ (.eptr (Dk x) 0):=M;have E:=Ypl x v (DI s) b ⟨hv,ad,⟨ae,af⟩,hl,⟨ah,by show s.pc≤100000; omega⟩⟩;have N:(⟨s.pc,s.fuel - 1,s.status,s.clause,s.stack⟩:Sta)=DI s:=rfl;have aa:=eq_false h1
  cases ho:Gj v b (DI s) x with
  |err e=>
   have a6:=iZ ho;rw[ho]at E;simp only[Fe]at E;have a2:(e=0)=False:=YYF
   push_cast(disch:=lia)[D5,Fx,F8,Hs,aa,decide_false,EI,RD,N,Fu hv,Fa,GO,G9,Hb,M,Ju,P0,Vq,HA,Mi,E,HR,a2,DQ,Yw,FA]
  |pop k push pc=>
   rw[ho]at E;simp only[Fe]at E;generalize FA (DI s) (.pop k push pc)=y at*
   push_cast(disch:=lia)[D5,Fx,F8,Hs,aa,decide_false,EI,RD,N,Fu hv,Fa,GO,G9,Hb,M,Ju,P0,Vq,HA,Mi,E,HR]
  |set p t cl=>
   rw[ho]at E;simp only[Fe]at E;generalize FA (DI s) (.set p t cl)=y at*
   push_cast(disch:=lia)[D5,Fx,F8,Hs,aa,decide_false,EI,RD,N,Fu hv,Fa,GO,G9,Hb,M,Ju,P0,Vq,HA,Mi,E,HR]
theorem YN6:Contract Tryz.prog GG 113 jO:=
 DM yrb (DD (all_cons YNv all_nil) all_nil) (fun a h=>YId a.1 a.2.1 a.2.2.1 a.2.2.2 h)
def kf:List D→Option D:=Dq (α:=List Ins×Sta×Int) (fun a=>[O (nz 3 (a.1.map Dk)) (a.1.map Dk) f_,DS a.2.1,I J a.2.2]) (fun a=>a.1.length≤9223372036854775807∧a.2.1.stack.length≤4294967296) (fun a=>V (!decide (Fg a.1 a.2.1 a.2.2)))
theorem Yox(c:List Ins)(s:Sta)(b:Int)(h:c.length≤9223372036854775807∧s.stack.length≤4294967296):kf [O (nz 3 (c.map Dk)) (c.map Dk) f_,DS s,I J b]=s_ (V (!decide (Fg c s b))):=
 DK (fun⟨a0,a1,E⟩ ⟨b0,b1,M⟩ h=>by simp only[Aa,D.slc.injEq,D.int.injEq,true_and,and_true,Ha,Nu]at h; simp[h]) (c,s,b) h
theorem YG6(c:List Ins)(s:Sta)(b:Int)(h:c.length≤9223372036854775807∧s.stack.length≤4294967296):@wW GG (tb [] []) aR.code (Dm [O (nz 3 (c.map Dk)) (c.map Dk) f_,DS s,I J b]) [] ⟨Ds aR.res (V (!decide (Fg c s b)))⟩:=by
 obtain⟨hc,hs⟩:=h;unfold aR
 by_cases g1:0≤s.pc
 ·by_cases g2:s.pc<c.length
  ·by_cases E:0≤s.fuel
   ·by_cases M:s.fuel≤32768
    ·by_cases N:s.clause=0
     ·by_cases g6:0≤b
      ·by_cases g7:b≤64
       ·by_cases g8:(s.stack.length:Int)≤64 - b
        ·rw[decide_eq_false (show ¬ Fg c s b by unfold Fg; omega)]
         push_cast(disch:=lia)[Fx,Hb,Hs,Kv,Hc,HQ,g1,g2,E,M,N,g6,g7,EI,g8,Ax]
        ·rw[decide_eq_true (show Fg c s b by unfold Fg; omega)]
         push_cast(disch:=lia)[Fx,Hb,Hs,Kv,Hc,HQ,g1,g2,E,M,N,g6,g7,EI,g8,At]
       ·rw[decide_eq_true (show Fg c s b by unfold Fg; omega)]
        push_cast(disch:=lia)[Fx,Hb,Hs,Kv,g1,g2,E,M,N,g6,g7,At]
      ·rw[decide_eq_true (show Fg c s b by unfold Fg; omega)]
       push_cast(disch:=lia)[Fx,Hb,Hs,Kv,g1,g2,E,M,N,g6,At]
     ·rw[decide_eq_true (show Fg c s b by unfold Fg; omega)]
      push_cast(disch:=lia)[Fx,Hb,Hs,Kv,g1,g2,E,M,eq_false N,decide_false,At]
    ·rw[decide_eq_true (show Fg c s b by unfold Fg; omega)]
     push_cast(disch:=lia)[Fx,Hb,Hs,g1,g2,E,M,At]
   ·rw[decide_eq_true (show Fg c s b by unfold Fg; omega)]
    push_cast(disch:=lia)[Fx,Hb,Hs,g1,g2,E,At]
  ·rw[decide_eq_true (show Fg c s b by unfold Fg; omega)]
   push_cast(disch:=lia)[Fx,Hb,g1,g2,At]
 ·rw[decide_eq_true (show Fg c s b by unfold Fg; omega)]
  push_cast(disch:=lia)[Fx,Hb,g1,At]
theorem YM6:Contract Tryz.prog GG 111 kf:=
 DM ytv (DD all_nil all_nil) (fun a h=>YG6 a.1 a.2.1 a.2.2 h)
def j5:List D→Option D:=Dq (α:=List Ins×(Int×List Int)×Opn) (fun a=>[O (nz 3 (a.1.map Dk)) (a.1.map Dk) f_,D6 a.2.1,DU a.2.2]) (fun a=>a.1.length≤4294967296∧ED a.2.1∧a.2.2.top.length≤4294967296) (fun a=>.tup [DU (IP a.1 a.2.1 a.2.2),I J (HP a.1 a.2.2)])
theorem Yo3(c:List Ins)(v:Int×List Int)(o:Opn)(h:c.length≤4294967296∧ED v∧o.top.length≤4294967296):j5 [O (nz 3 (c.map Dk)) (c.map Dk) f_,D6 v,DU o]=s_ (.tup [DU (IP c v o),I J (HP c o)]):=
 DK (fun⟨a0,a1,E⟩ ⟨b0,b1,M⟩ h=>by simp only[Aa,D.slc.injEq,and_true,Ha,Nv,Hz]at h; simp[h]) (c,v,o) h
theorem YHc(c:List Ins)(v:Int×List Int)(o:Opn)(h:c.length≤4294967296∧ED v∧o.top.length≤4294967296):@wW GG (tb [(52,dI),(111,kf),(112,dA),(113,jO)] []) cy.code (Dm [O (nz 3 (c.map Dk)) (c.map Dk) f_,D6 v,DU o]) [] ⟨Ds cy.res (.tup [DU (IP c v o),I J (HP c o)])⟩:=by
 obtain⟨hc,hv,a4⟩:=h;have E:=uw c (by omega);have M:=Yox c (F1 o) o.depth ⟨by omega,a4⟩;unfold cy;have l0:=gP f_ o.pc o.fuel o.status o.clause (EA o.top) o.depth o.rest;have l1:=gQ f_ o.pc o.fuel o.status o.clause (EA o.top) o.depth o.rest;have l2:=UQ f_ o.pc o.fuel o.status o.clause (EA o.top) o.depth o.rest;have l3:=gR f_ o.pc o.fuel o.status o.clause (EA o.top) o.depth o.rest;have l4:=UR f_ o.pc o.fuel o.status o.clause (EA o.top) o.depth o.rest;have l5:=Oa f_ o.pc o.fuel o.status o.clause (EA o.top) o.depth o.rest;have l6:=gW f_ o.pc o.fuel o.status o.clause (EA o.top) o.depth o.rest;rw[← IN]at l0 l1 l2 l3 l4 l5 l6
 by_cases s0:o.status=0
 ·by_cases v0:(FO c).2=0
  ·rw[v0]at E
   by_cases b0:Fg c (F1 o) o.depth
   ·have N:H2 c (F1 o) o.depth=1:=by unfold H2; rw[if_neg (show ¬ (F1 o).status≠0 from fun q=>q s0),if_neg (fun q=>q v0),if_pos b0]
    have e:HP c o=1:=by unfold HP; rw[if_neg (by rw[N]; decide),N]
    rw[show IP c v o=Kz from if_neg (by rw[e]; decide),e];rw[decide_eq_true b0]at M
    push_cast(disch:=lia)[D5,H4,KQ,H3,F8,l0,l1,l2,l3,l4,l5,eq_true s0,decide_true,E,Ol,Oj,HR,G9,HA,M,At,OX,Of,Mu,Pn]
    rfl
   ·have N:H2 c (F1 o) o.depth=0:=by unfold H2; rw[if_neg (show ¬ (F1 o).status≠0 from fun q=>q s0),if_neg (fun q=>q v0),if_neg b0]
    rw[decide_eq_false b0]at M;obtain⟨ha,hs,a8,a9⟩:=Ybe hv N;have a5:o.pc.toNat<c.length:=by have:=ha.p0; have:=ha.p1; simp only[F1]at *; omega
    have hx:=fun st=>Nn st c f_ o.pc.toNat a5;rw[show((o.pc.toNat:Nat):Int)=o.pc by have:=ha.p0; simp only[F1]at *; omega]at hx;have hx:∀ st:St,GK st 3 (O (nz 3 (c.map Dk)) (c.map Dk) f_) (I J o.pc)=s_ (.eptr (Dk (Je c (F1 o))) 0):=hx;have hn:=uq (Je c (F1 o)).op
    by_cases h2:Ym c o
    ·have e:HP c o=390:=by unfold HP; rw[if_pos N,if_pos h2]
     rw[show IP c v o=Kz from if_neg (by rw[e]; decide),e];obtain⟨q1,q2,q3⟩:=h2
     push_cast(disch:=lia)[D5,H4,KQ,H3,F8,l0,l1,l2,l3,l4,l5,eq_true s0,decide_true,E,Ol,Oj,HR,G9,HA,M,Ax,q1,q2,ID,hx,Me,Mj,hn,q3,OX,Of,Mu,Pn]
     rfl
    ·have e:HP c o=0:=by unfold HP; rw[if_pos N,if_neg h2]
     rw[show IP c v o=PG (FU v o.depth (F1 o) (Je c (F1 o))) o from if_pos e,e];have aa:=Ypt c v (F1 o) o.depth ha;rw[show c.getD (F1 o).pc.toNat default=Je c (F1 o)from rfl]at aa;generalize FU v o.depth (F1 o) (Je c (F1 o))=s at*
     by_cases q1:0<o.fuel
     ·by_cases q2:0<o.depth
      ·have q3:¬ (o.top.length:Int)<HE (Je c (F1 o)).op:=fun q=>h2 ⟨q1,q2,q⟩
       push_cast(disch:=lia)[D5,H4,KQ,H3,F8,l0,l1,l2,l3,l4,l5,l6,eq_true s0,decide_true,E,Ol,Oj,HR,G9,HA,Mi,M,Ax,q1,q2,ID,hx,Me,Mj,hn,q3,Fu hv,Fa,GO,aa,Hb,Hs,J4,Kv,Hc,So,Th,S5,Gw]
      ·push_cast(disch:=lia)[D5,H4,KQ,H3,F8,l0,l1,l2,l3,l4,l5,l6,eq_true s0,decide_true,E,Ol,Oj,HR,G9,HA,Mi,M,Ax,q1,q2,Fu hv,Fa,GO,aa,Hb,Hs,J4,Kv,Hc,So,Th,S5,Gw]
     ·push_cast(disch:=lia)[D5,H4,KQ,H3,F8,l0,l1,l2,l3,l4,l5,l6,eq_true s0,decide_true,E,Ol,Oj,HR,G9,HA,Mi,M,Ax,q1,Fu hv,Fa,GO,aa,Hb,Hs,J4,Kv,Hc,So,Th,S5,Gw]
  ·have N:H2 c (F1 o) o.depth=(FO c).2:=by unfold H2; rw[if_neg (show ¬ (F1 o).status≠0 from fun q=>q s0),if_pos v0]
   have e:HP c o=(FO c).2:=by unfold HP; rw[if_neg (by rw[N]; exact v0),N]
   rw[show IP c v o=Kz from if_neg (by rw[e]; exact v0),e];have a6:=eq_false v0;generalize (FO c).2=ve at*
   push_cast(disch:=lia)[D5,H4,KQ,H3,l2,eq_true s0,decide_true,E,a6,decide_false,OX,Of,Mu,Pn]
   rfl
 ·have N:H2 c (F1 o) o.depth=211:=by unfold H2; rw[if_pos (show(F1 o).status≠0 from s0)]
  have e:HP c o=211:=by unfold HP; rw[if_neg (by rw[N]; decide),N]
  rw[show IP c v o=Kz from if_neg (by rw[e]; decide),e];have a7:=eq_false s0
  push_cast(disch:=lia)[D5,H4,KQ,H3,l2,a7,decide_false,OX,Of,Mu,Pn]
  rfl
theorem YNc:Contract Tryz.prog GG 57 j5:=
 DM ypz (DD (all_cons z6 (all_cons YM6 (all_cons zt (all_cons YN6 all_nil)))) all_nil) (fun a h=>YHc a.1 a.2.1 a.2.2 h)
def lT:List D→Option D:=Dq (α:=Int×Dig×List Dig) (fun a=>[I J a.1,Dl a.2.1,O (nz 32 (a.2.2.map Dl)) (a.2.2.map Dl) f_]) (fun a=>0≤a.1∧a.1<4611686018427387904∧a.2.2.length≤4294967296) (fun a=>Dl (Lr a.1.toNat a.2.1 a.2.2))
theorem Yhg(i:Int)(x:Dig)(p:List Dig)(h:0≤i∧i<4611686018427387904∧p.length≤4294967296):lT [I J i,Dl x,O (nz 32 (p.map Dl)) (p.map Dl) f_]=s_ (Dl (Lr i.toNat x p)):=
 DK (fun⟨a0,a1,E⟩ ⟨b0,b1,M⟩ h=>by simp only[Aa,D.slc.injEq,D.int.injEq,Vw,Kt,true_and,and_true]at h; simp[h]) (i,x,p) h
theorem YAj(i:Int)(x:Dig)(p:List Dig)(h:0≤i∧i<4611686018427387904∧p.length≤4294967296):@wW GG (tb [(162,SU)] []) aJ.code (Dm [I J i,Dl x,O (nz 32 (p.map Dl)) (p.map Dl) f_]) [] ⟨Ds aJ.res (Dl (Lr i.toNat x p))⟩:=by
 unfold aJ;simp(disch:=omega) only[push_cast,↓reduceIte,CW,CY]
 refine E0 (fun q:Nat×Int×Dig=>[(0,I J q.2.1),(2,O (nz 32 (p.map Dl)) (p.map Dl) f_),(6,Y 1 0),(7,Y 2 0),(8,I J (q.1:Int))])
  (fun q=>[⟨f_,1,Dj x,f_⟩,⟨f_,1,Dj DH,f_⟩,⟨f_,1,Dj q.2.2,f_⟩])
  (fun q=>q.1≤p.length∧0≤q.2.1∧q.2.1≤i∧Lr i.toNat x p=Lr q.2.1.toNat q.2.2 (p.drop q.1)) (fun q=>p.length - q.1) (0,i,x) (by push_cast <;> rfl) ⟨AY _,h.1,Int.le_refl _,rfl⟩ ?_
 rintro⟨j,k,y⟩ ⟨N,h2,h3,E⟩;simp only at N h2 h3 E;unfold tT
 push_cast
 refine Ew (fun h5=>?_) (fun h5=>?_)
 ·rw[m4 p j (by omega),Lr]at E;have M:(k / 2).toNat=k.toNat / 2:=by omega
  simp(disch:=omega) only[push_cast,↓reduceIte,CW,Yu];refine Ew (fun h6=>?_) (fun h6=>?_)
  ·rw[if_pos (show k.toNat % 2=0 by omega)]at E;simp(disch:=omega) only[push_cast,↓reduceIte,CW,C8,C5,CY,KO,M5,gj,DQ];refine EB (j+1,k / 2,Hn y (p.getD j default)) ⟨by show j+1≤_; omega,by show 0≤k / 2; omega,by show k / 2≤i; omega,by rw[E]; simp only[M]⟩ (by show p.length - (j+1)<p.length - j; omega) ?_;rfl
  ·rw[if_neg (show ¬ k.toNat % 2=0 by omega)]at E;simp(disch:=omega) only[push_cast,↓reduceIte,CW,C8,C5,CY,KO,M5,gj,DQ];refine EB (j+1,k / 2,Hn (p.getD j default) y) ⟨by show j+1≤_; omega,by show 0≤k / 2; omega,by show k / 2≤i; omega,by rw[E]; simp only[M]⟩ (by show p.length - (j+1)<p.length - j; omega) ?_;rfl
 ·rw[List.drop_of_length_le (by omega)]at E;have E:Lr i.toNat x p=y:=E;simp(disch:=omega) only[push_cast,↓reduceIte,CW,CY,E]
theorem YFt:Contract Tryz.prog GG 164 lT:=
 DM yt5 (DD (all_cons fi all_nil) all_nil) (fun a h=>YAj a.1 a.2.1 a.2.2 h)
def UA:List D→Option D:=Dq (α:=(Int×Dig)×Int×Dig×List Dig) (fun a=>[U (I J (Db a.1)::Dj (Dc a.1)),I J a.2.1,Dl a.2.2.1,O (nz 32 (a.2.2.2.map Dl)) (a.2.2.2.map Dl) f_]) (fun a=>-9223372036854775808≤a.2.1∧a.2.1<9223372036854775808) (fun a=>V (Ga a.1 a.2.1 a.2.2.1 a.2.2.2))
theorem rN(c:Int×Dig)(i:Int)(x:Dig)(p:List Dig)(h:-9223372036854775808≤i∧i<9223372036854775808):UA [U (I J (Db c)::Dj (Dc c)),I J i,Dl x,O (nz 32 (p.map Dl)) (p.map Dl) f_]=s_ (V (Ga c i x p)):=
 DK (fun⟨a0,a1,E,M⟩ ⟨b0,b1,N,b3⟩ h=>by simp only[Aa,D.slc.injEq,D.int.injEq,D.agg.injEq,Vw,Kt,Nq,true_and,and_true]at h; simp[h,BY]) (c,i,x,p) h
theorem yV6(c:Int×Dig)(i:Int)(x:Dig)(p:List Dig)(h:-9223372036854775808≤i∧i<9223372036854775808):@wW GG (tb [(25,SH),(95,Un)] []) Z6.code (Dm [U (I J (Db c)::Dj (Dc c)),I J i,Dl x,O (nz 32 (p.map Dl)) (p.map Dl) f_]) [] ⟨Ds Z6.res (V (Ga c i x p))⟩:=by
 obtain⟨n,r⟩:=c;unfold Z6;simp(disch:=omega) only[push_cast,↓reduceIte,CW,Rt];refine Ew (fun N=>?_) (fun N=>?_)
 ·have e:Ga (n,r) i x p=f_:=by unfold Ga; simp; omega
  simp(disch:=omega) only[push_cast,↓reduceIte,CW,N,e]
 ·have hd:0≤n∧n≤65536:=by
   by_cases hb:n<0∨65536<n
   ·rw[Qk hb]at N; omega
   ·omega
  obtain⟨e1,e2,e3⟩:=Rf hd.1 hd.2;simp(disch:=omega) only[push_cast,↓reduceIte,CW,N];refine Ew (fun h2=>?_) (fun h2=>?_)
  ·have e:Ga (n,r) i x p=f_:=by unfold Ga; simp; omega
   simp(disch:=omega) only[push_cast,↓reduceIte,CW,h2,e]
  ·simp(disch:=omega) only[push_cast,↓reduceIte,CW,h2,YBk];refine Ew (fun h3=>?_) (fun h3=>?_)
   ·have e:Ga (n,r) i x p=f_:=by unfold Ga; simp; omega
    simp(disch:=omega) only[push_cast,↓reduceIte,CW,h3,e]
   ·simp(disch:=omega) only[push_cast,↓reduceIte,CW,h3];refine Ew (fun M=>?_) (fun M=>?_)
    ·have e:Ga (n,r) i x p=decide (Lr i.toNat x p=r):=by
      unfold Ga;simp only[show 0≤DW n from e2,show 0≤i by omega,show i<2 ^ (DW n).toNat by omega,M,true_and]
     rw[e];simp(disch:=omega) only[push_cast,↓reduceIte,CW,M];have hp:p.length≤16:=by omega
     have a0:(2:Int) ^ (DW n).toNat≤2 ^ 16:=Q6 (by omega)
     refine E0 (fun q:Nat×Dig=>[(1,I J i),(3,O (nz 32 (p.map Dl)) (p.map Dl) f_),(4,Y 0 0),(6,Y 1 0),(33,I J (p.length:Int)),(34,I J (q.1:Int))])
      (fun q=>[⟨f_,1,I J n::Dj r,f_⟩,⟨f_,1,Dj q.2,f_⟩])
      (fun q=>q.1≤p.length∧Lr i.toNat x p=Lr (i.toNat / 2 ^ q.1) q.2 (p.drop q.1)) (fun q=>p.length - q.1) (0,x) (by push_cast [M] <;> rfl) ⟨AY _,by simp⟩ ?_
     rintro⟨j,y⟩ ⟨h5,E⟩;simp only at h5 E;unfold sW
     push_cast
     refine Ew (fun h7=>?_) (fun h7=>?_)
     ·rw[m4 p j (by omega),Lr,Ce,← CV]at E;have h8:=eD j;have h9:0≤i / 2 ^ j:=CC (by omega) (by omega);have a1:i / 2 ^ j≤i:=Cs _ (by omega)
      have a2:(i / 2 ^ j) % 2=((i.toNat / 2 ^ j % 2:Nat):Int):=by
       have:i=(i.toNat:Int):=by omega
       rw[this]; simp
      simp(disch:=omega) only[push_cast,↓reduceIte,CW,Yz,YGb];refine Ew (fun ae=>?_) (fun ae=>?_)
      ·rw[if_pos (show i.toNat / 2 ^ j % 2=0 by omega)]at E;simp(disch:=omega) only[push_cast,↓reduceIte,CW,C8,C5,CY,KO,M4,DQ];refine EB (j+1,Hn y (p.getD j default)) ⟨by show j+1≤_; omega,E⟩ (by show p.length - (j+1)<p.length - j; omega) ?_;rfl
      ·rw[if_neg (show ¬ i.toNat / 2 ^ j % 2=0 by omega)]at E;simp(disch:=omega) only[push_cast,↓reduceIte,CW,C8,C5,CY,KO,M4,DQ];refine EB (j+1,Hn (p.getD j default) y) ⟨by show j+1≤_; omega,E⟩ (by show p.length - (j+1)<p.length - j; omega) ?_;rfl
     ·rw[List.drop_of_length_le (by omega)]at E;have E:Lr i.toNat x p=y:=E;simp(disch:=omega) only[push_cast,↓reduceIte,CW,CY,E]
    ·have e:Ga (n,r) i x p=f_:=by
      unfold Ga;simp;intro _ _ _ h5;exact absurd h5 M
     simp(disch:=omega) only[push_cast,↓reduceIte,M,e]
theorem yZ4:Contract Tryz.prog GG 124 UA:=
 DM yBb (DD (all_cons dX (all_cons mE all_nil)) all_nil) (fun a h=>yV6 a.1 a.2.1 a.2.2.1 a.2.2.2 h)
def S0:List D→Option D:=Dq (α:=(Int×Dig)×Int×Dig×List Dig) (fun a=>[U (I J (Db a.1)::Dj (Dc a.1)),I J a.2.1,Dl a.2.2.1,O (nz 32 (a.2.2.2.map Dl)) (a.2.2.2.map Dl) f_]) (fun a=>-9223372036854775808≤a.2.1∧a.2.1<9223372036854775808) (fun a=>V (Ga a.1 a.2.1 a.2.2.1 a.2.2.2))
theorem rO(c:Int×Dig)(i:Int)(x:Dig)(p:List Dig)(h:-9223372036854775808≤i∧i<9223372036854775808):S0 [U (I J (Db c)::Dj (Dc c)),I J i,Dl x,O (nz 32 (p.map Dl)) (p.map Dl) f_]=s_ (V (Ga c i x p)):=
 DK (fun⟨a0,a1,E,M⟩ ⟨b0,b1,N,b3⟩ h=>by simp only[Aa,D.slc.injEq,D.int.injEq,D.agg.injEq,Vw,Kt,Nq,true_and,and_true]at h; simp[h,BY]) (c,i,x,p) h
theorem yV5(c:Int×Dig)(i:Int)(x:Dig)(p:List Dig)(h:-9223372036854775808≤i∧i<9223372036854775808):@wW GG (tb [(136,SI),(163,fJ),(164,lT)] []) cu.code (Dm [U (I J (Db c)::Dj (Dc c)),I J i,Dl x,O (nz 32 (p.map Dl)) (p.map Dl) f_]) [] ⟨Ds cu.res (V (Ga c i x p))⟩:=by
 obtain⟨n,r⟩:=c;unfold cu
 have bad:(n<0∨65536<n)→Ga (n,r) i x p=f_:=by
  intro hb; unfold Ga; simp[Qk hb]
 simp(disch:=omega) only[push_cast,↓reduceIte,CW];refine Ew (fun M=>?_) (fun M=>?_)
 ·simp(disch:=omega) only[push_cast,↓reduceIte,CW,M,bad (.inl M)]
 ·simp(disch:=omega) only[push_cast,↓reduceIte,CW,M];refine Ew (fun N=>?_) (fun N=>?_)
  ·simp(disch:=omega) only[push_cast,↓reduceIte,CW,N,bad (.inr N)]
  ·obtain⟨e1,e2,e3⟩:=Rf (n:=n) (by omega) (by omega);simp(disch:=omega) only[push_cast,↓reduceIte,CW,N];refine Ew (fun h3=>?_) (fun h3=>?_)
   ·have e:Ga (n,r) i x p=f_:=by unfold Ga; simp; omega
    simp(disch:=omega) only[push_cast,↓reduceIte,CW,h3,e]
   ·simp(disch:=omega) only[push_cast,↓reduceIte,CW,h3,Qm,xB];refine Ew (fun h4=>?_) (fun h4=>?_)
    ·have e:Ga (n,r) i x p=f_:=by unfold Ga; simp; omega
     simp(disch:=omega) only[push_cast,↓reduceIte,CW,h4,e]
    ·simp(disch:=omega) only[push_cast,↓reduceIte,CW,h4,Qm];refine Ew (fun E=>?_) (fun E=>?_)
     ·have e:Ga (n,r) i x p=decide (Lr i.toNat x p=r):=by
       unfold Ga;simp only[show 0≤DW n from e2,show 0≤i by omega,show i<2 ^ (DW n).toNat by omega,E,true_and]
      have ae:(2:Int) ^ (DW n).toNat≤2 ^ 16:=Q6 (by omega);rw[e];simp(disch:=omega) only[push_cast,↓reduceIte,CW,E,Yhg]
     ·have e:Ga (n,r) i x p=f_:=by
       unfold Ga;simp;intro _ _ _ h6;exact absurd h6 E
      simp(disch:=omega) only[push_cast,↓reduceIte,E,e]
theorem xA:Contract Tryz.prog GG 137 S0:=
 DM yp0 (DD (all_cons dY (all_cons Ydr (all_cons YFt all_nil))) all_nil) (fun a h=>yV5 a.1 a.2.1 a.2.2.1 a.2.2.2 h)
def IM(x:Bis):Bool:=if x.h<0 then f_ else if 16<x.h then f_ else if x.l<0 then f_ else if x.h<x.l then f_ else if 0≤x.i then(if x.i<2 ^ (x.h - x.l).toNat then decide (x.r=x.h - x.l)else f_)else f_
theorem Zi{x:Bis}(h:IM x=t_):0≤x.h∧x.h≤16∧0≤x.l∧x.l≤x.h∧0≤x.i∧x.i<2 ^ (x.h - x.l).toNat∧x.r=x.h - x.l:=by
 unfold IM at h
 split at h; · cases h
 split at h; · cases h
 split at h; · cases h
 split at h; · cases h
 split at h
 ·split at h
  ·exact⟨by omega,by omega,by omega,by omega,by assumption,by assumption,of_decide_eq_true h⟩
  ·cases h
 ·cases h
theorem yUs{i:Int}{k:Nat}(E:0≤i):i / 2 ^ k=0↔i<2 ^ k:=by
 have M:(0:Int)<2 ^ k:=Int.pow_pos (by decide);constructor
 ·intro h;have:=BW i M;have e:=Co i (2 ^ k);rw[h]at e;omega
 ·intro h;exact Int.ediv_eq_zero_of_lt E h
def fI:List D→Option D:=Dq (α:=Bis) (fun a=>[D3 a]) (fun a=>True) (fun a=>V (IM a))
theorem om(x:Bis):fI [D3 x]=s_ (V (IM x)):=
 DK (fun a b h=>by simp only[Aa,and_true,SA]at h; simp[h]) (x) trivial
theorem Yr0(x:Bis):@wW GG (tb [] []) ZE.code (Dm [D3 x]) [] ⟨Ds ZE.res (V (IM x))⟩:=by
 unfold ZE IM
 by_cases E:x.h<0
 ·push_cast(disch:=lia)[E]
 by_cases M:16<x.h
 ·push_cast(disch:=lia)[E,M]
 by_cases N:x.l<0
 ·push_cast(disch:=lia)[E,M,N]
 by_cases h4:x.h<x.l
 ·push_cast(disch:=lia)[E,M,N,h4]
 by_cases h5:0≤x.i
 ·have e:=yUs (k:=(x.h - x.l).toNat) h5
  by_cases h6:x.i<2 ^ (x.h - x.l).toNat
  ·push_cast(disch:=lia)[E,M,N,h4,h5,h6,EI,Yz,e]
  ·push_cast(disch:=lia)[E,M,N,h4,h5,h6,EI,Yz,e]
 ·push_cast(disch:=lia)[E,M,N,h4,h5]
theorem Ydw:Contract Tryz.prog GG 77 fI:=
 DM yHr (DD all_nil all_nil) (fun a h=>Yr0 a)
def nk:List D→Option D:=Dq (α:=Int) (fun a=>[I J a]) (fun a=>0≤a∧a≤60) (fun a=>I J (2 ^ a.toNat))
theorem yZw(n:Int)(h:0≤n∧n≤60):nk [I J n]=s_ (I J (2 ^ n.toNat)):=
 DK (fun a b h=>by simp only[Aa,D.int.injEq,true_and,and_true]at h; simp[h]) (n) h
theorem Yr1(n:Int)(h:0≤n∧n≤60):@wW GG (tb [] []) aV.code (Dm [I J n]) [] ⟨Ds aV.res (I J (2 ^ n.toNat))⟩:=by
 obtain⟨M,N⟩:=h;unfold aV;simp(disch:=omega) only[push_cast];refine E0 (fun i:Nat=>[(0,I J n),(3,I J (2 ^ i)),(4,I J (i:Int))]) (fun _=>[]) (fun i=>(i:Int)≤n) (fun i=>(n - i).toNat) 0 (by push_cast [↓CX] <;> rfl) (by omega) ?_;intro i hi;unfold tC;simp(disch:=omega) only[push_cast,↓reduceIte,CW];refine Ew (fun E=>?_) (fun E=>?_)
 ·have p1:=Q6 (a:=i) (b:=59) (by omega);have p2:=eD i;have e:(2:Int)*2 ^ i=2 ^ (i+1):=by rw[Int.pow_succ]; omega
  push_cast(disch:=lia)[IA,DQ]
  refine EB (i+1) (by omega) (by omega) ?_;rw[e]
  push_cast <;> rfl
 ·obtain rfl:(i:Int)=n:=by omega
  simp(disch:=omega) only[push_cast,↓reduceIte,CW,E]
theorem Yw5:Contract Tryz.prog GG 166 nk:=
 DM ytr (DD all_nil all_nil) (fun a h=>Yr1 a h)
def fK:List D→Option D:=Dq (α:=Bis) (fun a=>[D3 a]) (fun a=>True) (fun a=>V (IM a))
theorem oq(x:Bis):fK [D3 x]=s_ (V (IM x)):=
 DK (fun a b h=>by simp only[Aa,and_true,SA]at h; simp[h]) (x) trivial
theorem Yrr(x:Bis):@wW GG (tb [(166,nk)] []) aU.code (Dm [D3 x]) [] ⟨Ds aU.res (V (IM x))⟩:=by
 unfold aU IM
 by_cases E:x.h<0
 ·push_cast(disch:=lia)[E]
 by_cases M:16<x.h
 ·push_cast(disch:=lia)[E,M]
 by_cases N:x.l<0
 ·push_cast(disch:=lia)[E,M,N]
 by_cases h4:x.h<x.l
 ·push_cast(disch:=lia)[E,M,N,h4]
 have c:=yZw (x.h - x.l) (by omega)
 by_cases h5:0≤x.i
 ·by_cases h6:x.i<2 ^ (x.h - x.l).toNat
  ·push_cast(disch:=lia)[E,M,N,h4,h5,h6,EI,c]
  ·push_cast(disch:=lia)[E,M,N,h4,h5,h6,EI,c]
 ·push_cast(disch:=lia)[E,M,N,h4,h5]
theorem Ydq:Contract Tryz.prog GG 139 fK:=
 DM yts (DD (all_cons Yw5 all_nil) all_nil) (fun a h=>Yrr a)
def iE:List D→Option D:=Dq (α:=Int) (fun a=>[I J a]) (fun a=>0≤a∧a≤60) (fun a=>Dl (Il a.toNat))
theorem yRa(n:Int)(h:0≤n∧n≤60):iE [I J n]=s_ (Dl (Il n.toNat)):=
 DK (fun a b h=>by simp only[Aa,D.int.injEq,true_and,and_true]at h; simp[h]) (n) h
theorem Yd7(n:Int)(h:0≤n∧n≤60):@wW GG (tb [(51,TH),(162,SU)] []) bW.code (Dm [I J n]) [] ⟨Ds bW.res (Dl (Il n.toNat))⟩:=by
 obtain⟨M,N⟩:=h;unfold bW;simp(disch:=omega) only[push_cast,↓reduceIte,CW,fm];refine E0 (fun i:Nat=>[(0,I J n),(2,Y 0 0),(3,Y 1 0),(4,I J (i:Int))]) (fun i=>[⟨f_,1,Dj DH,f_⟩,⟨f_,1,Dj (Il i),f_⟩]) (fun i=>(i:Int)≤n) (fun i=>(n - i).toNat) 0 (by push_cast [↓CX] <;> rfl) (by omega) ?_;intro i hi;unfold tX;simp(disch:=omega) only[push_cast,↓reduceIte,CW];refine Ew (fun E=>?_) (fun E=>?_)
 ·push_cast(disch:=lia)[M5,DQ]
  refine EB (i+1) (by omega) (by omega) ?_
  push_cast <;> rfl
 ·have e:n.toNat=i:=by omega
  rw[e];simp(disch:=omega) only[push_cast,↓reduceIte,CW,CY,E]
theorem Yhh:Contract Tryz.prog GG 165 iE:=
 DM yq9 (DD (all_cons gE (all_cons fi all_nil)) all_nil) (fun a h=>Yd7 a h)
def ER(s:Int)(root:Dig):Nat→Dig
 |0=>root
 |j+1=>if DW s≤(j:Int)then Hn (ER s root j) (Il j)else ER s root j
theorem Ybn(s:Int)(E:Dig):∀ j:Nat,(j:Int)≤DW s→ER s E j=E
 |0,_=>rfl
 |j+1,h=>by
  rw[ER,YYN];exact Ybn s E j (by omega)
def oa:List D→Option D:=Dq (α:=(Int×Dig)×Int) (fun a=>[U (I J (Db a.1)::Dj (Dc a.1)),I J a.2]) (fun a=>0≤a.2∧a.2≤60) (fun a=>Dl (ER a.1.1 a.1.2 a.2.toNat))
theorem yn(c:Int×Dig)(n:Int)(h:0≤n∧n≤60):oa [U (I J (Db c)::Dj (Dc c)),I J n]=s_ (Dl (ER c.1 c.2 n.toNat)):=
 DK (fun⟨a0,a1⟩ ⟨b0,b1⟩ h=>by simp only[Aa,D.int.injEq,D.agg.injEq,Nq,true_and,and_true]at h; simp[h,BY]) (c,n) h
theorem Yh5(c:Int×Dig)(n:Int)(h:0≤n∧n≤60):@wW GG (tb [(20,TF),(95,Un),(25,SH)] []) ZO.code (Dm [U (I J (Db c)::Dj (Dc c)),I J n]) [] ⟨Ds ZO.res (Dl (ER c.1 c.2 n.toNat))⟩:=by
 obtain⟨s,root⟩:=c;obtain⟨N,h1⟩:=h;dsimp only;unfold ZO;simp(disch:=omega) only[push_cast,↓Hd,↓reduceIte,CW,C8,CY,fj,Jy,lu];refine E0 (fun i:Nat=>[(2,Y 0 0),(4,Y 1 0),(5,Y 2 0),(6,Y 3 0),(11,I J n),(12,I J (i:Int))]) (fun i=>[⟨f_,1,I J s::Dj root,f_⟩,⟨f_,1,Dj DH,f_⟩,⟨f_,1,Dj (ER s root i),f_⟩,⟨f_,1,Dj (Il i),f_⟩]) (fun i=>(i:Int)≤n) (fun i=>(n - i).toNat) 0 (by push_cast [↓CX] <;> rfl) (by omega) ?_;intro i hi;unfold sN;simp(disch:=omega) only[push_cast,↓reduceIte,CW];refine Ew (fun M=>?_) (fun M=>?_)
 ·push_cast(disch:=lia)[Rt,Np,M]
  refine Ew (fun E=>?_) (fun E=>?_)
  ·push_cast(disch:=lia)[M4,DQ,E]
   refine EB (i+1) (by omega) (by omega) ?_;rw[show ER s root (i+1)=Hn (ER s root i) (Il i)from if_pos E]
   push_cast <;> rfl
  ·push_cast(disch:=lia)[M4,DQ,E]
   refine EB (i+1) (by omega) (by omega) ?_;rw[show ER s root (i+1)=ER s root i from if_neg E]
   push_cast <;> rfl
 ·have e:n.toNat=i:=by omega
  rw[e];simp(disch:=omega) only[push_cast,↓reduceIte,CW,CY,M]
theorem Yqm:Contract Tryz.prog GG 76 oa:=
 DM yF1 (DD (all_cons gA (all_cons mE (all_cons dX all_nil))) all_nil) (fun a h=>Yh5 a.1 a.2 h)
def iL:List D→Option D:=Dq (α:=(Int×Dig)×Int) (fun a=>[U (I J (Db a.1)::Dj (Dc a.1)),I J a.2]) (fun a=>0≤DW a.1.1∧DW a.1.1≤a.2∧a.2≤60) (fun a=>Dl (ER a.1.1 a.1.2 a.2.toNat))
theorem rP(c:Int×Dig)(n:Int)(h:0≤DW c.1∧DW c.1≤n∧n≤60):iL [U (I J (Db c)::Dj (Dc c)),I J n]=s_ (Dl (ER c.1 c.2 n.toNat)):=
 DK (fun⟨a0,a1⟩ ⟨b0,b1⟩ h=>by simp only[Aa,D.int.injEq,D.agg.injEq,Nq,true_and,and_true]at h; simp[h,BY]) (c,n) h
theorem yV4(c:Int×Dig)(n:Int)(h:0≤DW c.1∧DW c.1≤n∧n≤60):@wW GG (tb [(162,SU),(165,iE),(136,SI)] []) bM.code (Dm [U (I J (Db c)::Dj (Dc c)),I J n]) [] ⟨Ds bM.res (Dl (ER c.1 c.2 n.toNat))⟩:=by
 obtain⟨s,root⟩:=c;dsimp only at h ⊢;obtain⟨h0,N,h1⟩:=h;unfold bM;simp(disch:=omega) only[push_cast,↓reduceIte,CW,CY,Jy,Np,lu,Qm];refine E0 (fun i:Nat=>[(1,I J n),(4,Y 1 0),(5,Y 2 0),(6,I J (DW s+(i:Int)))]) (fun i=>[⟨f_,1,I J s::Dj root,f_⟩,⟨f_,1,Dj DH,f_⟩,⟨f_,1,Dj (ER s root ((DW s).toNat+i)),f_⟩]) (fun i=>DW s+(i:Int)≤n) (fun i=>(n - DW s - i).toNat) 0 ?_ (by omega) ?_
 ·rw[Ybn s root _ (by omega)]
  push_cast [↓CX,Int.add_zero] <;> rfl
 intro i hi;unfold tM;simp(disch:=omega) only[push_cast,↓reduceIte,CW];refine Ew (fun E=>?_) (fun E=>?_)
 ·have c1:=yRa (DW s+(i:Int)) (by omega);have M:(DW s+(i:Int)).toNat=(DW s).toNat+i:=by omega
  rw[M]at c1
  push_cast(disch:=lia)[c1,M5,DQ,E]
  refine EB (i+1) (by omega) (by omega) ?_;rw[show(DW s).toNat+(i+1)=((DW s).toNat+i)+1 by omega,show ER s root ((DW s).toNat+i+1)=Hn (ER s root ((DW s).toNat+i)) (Il ((DW s).toNat+i))from if_pos (by omega),show DW s+((i+1:Nat):Int)=DW s+(i:Int)+1 by omega]
 ·have e:(DW s).toNat+i=n.toNat:=by omega
  rw[e];simp(disch:=omega) only[push_cast,↓reduceIte,CW,CY,E]
theorem yZ1:Contract Tryz.prog GG 138 iL:=
 DM yrv (DD (all_cons fi (all_cons Yhh (all_cons dY all_nil))) all_nil) (fun a h=>yV4 a.1 a.2 h)
theorem Em(st:St)(n sz key off:Nat)(k:IntKind)(i:Int)(E:0≤i)(M:i<(n:Int)):Jg st n sz (Y key off) (I k i)=s_ (Y key (off+i.toNat*sz)):=by simp only[Jg,Ny k i E,FE];rw[if_pos (by omega)]
def L7(a b:Int×Dig):Bis:=⟨max (DW a.1) (DW b.1),max (DW a.1) (DW b.1),0,ER a.1 a.2 (max (DW a.1) (DW b.1)).toNat,ER b.1 b.2 (max (DW a.1) (DW b.1)).toNat,f_,f_,DH,DH,DH,DH,0⟩
def IL(a b:Int×Dig):Bis:=if DW a.1<0 then Fm else if DW b.1<0 then Fm else if(L7 a b).n0=(L7 a b).n1 then Fm else L7 a b
def FV(a b:Int×Dig):Int:=if DW a.1<0 then 1 else if DW b.1<0 then 1 else if(L7 a b).n0=(L7 a b).n1 then 380 else 0
theorem SZ(n:Int):-1≤DW n∧DW n≤16:=by
 by_cases h:n<0∨65536<n
 ·rw[Qk h]; omega
 ·have:=Rf (n:=n) (by omega) (by omega);omega
def Qg:List D→Option D:=Dq (α:=(Int×Dig)×(Int×Dig)) (fun a=>[U (I J (Db a.1)::Dj (Dc a.1)),U (I J (Db a.2)::Dj (Dc a.2))]) (fun a=>True) (fun a=>.tup [D3 (IL a.1 a.2),I J (FV a.1 a.2)])
theorem oj(a:Int×Dig)(b:Int×Dig):Qg [U (I J (Db a)::Dj (Dc a)),U (I J (Db b)::Dj (Dc b))]=s_ (.tup [D3 (IL a b),I J (FV a b)]):=
 DK (fun⟨a0,a1⟩ ⟨b0,b1⟩ h=>by simp only[Aa,D.int.injEq,D.agg.injEq,Nq,true_and,and_true]at h; simp[h,BY]) (a,b) trivial
theorem Yr4(a:Int×Dig)(b:Int×Dig):@wW GG (tb [(25,SH),(76,oa)] []) ZD.code (Dm [U (I J (Db a)::Dj (Dc a)),U (I J (Db b)::Dj (Dc b))]) [] ⟨Ds ZD.res (.tup [D3 (IL a b),I J (FV a b)])⟩:=by
 obtain⟨s1,r1⟩:=a;obtain⟨s2,E⟩:=b;have d1:=SZ s1;have d2:=SZ s2;unfold ZD IL FV;dsimp only
 by_cases M:DW s1<0
 ·push_cast(disch:=lia)[Jy,Np,Rt,M]
 by_cases N:DW s2<0
 ·push_cast(disch:=lia)[Jy,Np,Rt,M,N]
 have c1:=yn (s1,r1) (max (DW s1) (DW s2)) ⟨by omega,by omega⟩;have c2:=yn (s2,E) (max (DW s1) (DW s2)) ⟨by omega,by omega⟩;dsimp only at c1 c2;have e1:(L7 (s1,r1) (s2,E)).n0=ER s1 r1 (max (DW s1) (DW s2)).toNat:=rfl;have e2:(L7 (s1,r1) (s2,E)).n1=ER s2 E (max (DW s1) (DW s2)).toNat:=rfl;have e3:L7 (s1,r1) (s2,E)={Fm with h:=max (DW s1) (DW s2),l:=max (DW s1) (DW s2),n0:=ER s1 r1 (max (DW s1) (DW s2)).toNat,n1:=ER s2 E (max (DW s1) (DW s2)).toNat}:=rfl;rw[e1,e2,e3];generalize ER s1 r1 (max (DW s1) (DW s2)).toNat=p1 at*;generalize ER s2 E (max (DW s1) (DW s2)).toNat=p2 at*
 by_cases h3:p1=p2
 ·push_cast(disch:=lia)[Jy,Np,SP,Rt,M,N,c1,c2,h3,HS,Em]
 ·push_cast(disch:=lia)[Jy,Np,SP,Rt,M,N,c1,c2,h3,HS,Em]
theorem kT:Contract Tryz.prog GG 26 Qg:=
 DM yHs (DD (all_cons dX (all_cons Yqm all_nil)) all_nil) (fun a h=>Yr4 a.1 a.2)
def Qh:List D→Option D:=Dq (α:=(Int×Dig)×(Int×Dig)) (fun a=>[U (I J (Db a.1)::Dj (Dc a.1)),U (I J (Db a.2)::Dj (Dc a.2))]) (fun a=>True) (fun a=>.tup [D3 (IL a.1 a.2),I J (FV a.1 a.2)])
theorem oo(a:Int×Dig)(b:Int×Dig):Qh [U (I J (Db a)::Dj (Dc a)),U (I J (Db b)::Dj (Dc b))]=s_ (.tup [D3 (IL a b),I J (FV a b)]):=
 DK (fun⟨a0,a1⟩ ⟨b0,b1⟩ h=>by simp only[Aa,D.int.injEq,D.agg.injEq,Nq,true_and,and_true]at h; simp[h,BY]) (a,b) trivial
theorem Yrx(a:Int×Dig)(b:Int×Dig):@wW GG (tb [(136,SI),(138,iL)] []) aT.code (Dm [U (I J (Db a)::Dj (Dc a)),U (I J (Db b)::Dj (Dc b))]) [] ⟨Ds aT.res (.tup [D3 (IL a b),I J (FV a b)])⟩:=by
 obtain⟨s1,r1⟩:=a;obtain⟨s2,E⟩:=b;have d1:=SZ s1;have d2:=SZ s2;unfold aT IL FV;dsimp only
 by_cases M:DW s1<0
 ·push_cast(disch:=lia)[Jy,Np,Qm,M,HS]
 by_cases N:DW s2<0
 ·push_cast(disch:=lia)[Jy,Np,Qm,M,N,HS]
 have c1:=rP (s1,r1) (max (DW s1) (DW s2)) ⟨by dsimp only; omega,by dsimp only; omega,by omega⟩;have c2:=rP (s2,E) (max (DW s1) (DW s2)) ⟨by dsimp only; omega,by dsimp only; omega,by omega⟩;dsimp only at c1 c2;have e1:(L7 (s1,r1) (s2,E)).n0=ER s1 r1 (max (DW s1) (DW s2)).toNat:=rfl;have e2:(L7 (s1,r1) (s2,E)).n1=ER s2 E (max (DW s1) (DW s2)).toNat:=rfl;have e3:L7 (s1,r1) (s2,E)={Fm with h:=max (DW s1) (DW s2),l:=max (DW s1) (DW s2),n0:=ER s1 r1 (max (DW s1) (DW s2)).toNat,n1:=ER s2 E (max (DW s1) (DW s2)).toNat}:=rfl;rw[e1,e2,e3];generalize ER s1 r1 (max (DW s1) (DW s2)).toNat=p1 at*;generalize ER s2 E (max (DW s1) (DW s2)).toNat=p2 at*
 by_cases h3:p1=p2
 ·push_cast(disch:=lia)[Jy,Np,SP,Qm,M,N,c1,c2,h3,HS,Em]
 ·push_cast(disch:=lia)[Jy,Np,SP,Qm,M,N,c1,c2,h3,HS,Em]
theorem kU:Contract Tryz.prog GG 89 Qh:=
 DM ytt (DD (all_cons dY (all_cons yZ1 all_nil)) all_nil) (fun a h=>Yrx a.1 a.2)
def rA(x:Bis)(p:Int):Bool:=if p=0 then x.t0 else x.t1
def OC(x:Bis)(p:Int):Dig:=if p=0 then x.n0 else x.n1
def GB(x:Bis)(p:Int)(l r:Dig):Bis:=if p=0 then {x with t0:=t_,l0:=l,r0:=r} else {x with t1:=t_,l1:=l,r1:=r}
def Pg(x:Bis):Bis:=if x.l0=x.l1 then {Fm with h:=x.h,l:=x.l - 1,i:=2*x.i+1,n0:=x.r0,n1:=x.r1,r:=x.r+1} else {Fm with h:=x.h,l:=x.l - 1,i:=2*x.i,n0:=x.l0,n1:=x.l1,r:=x.r+1}
def ET(x:Bis)(p:Int)(l r:Dig):Bis:=if IM x=t_∧(p=0∨p=1)then(if x.l=0∨rA x p=t_ then Fm else if Hn l r=OC x p then(if rA x (1 - p)=t_ then Pg (GB x p l r)else GB x p l r)else Fm)else Fm
def EZ(x:Bis)(p:Int)(l r:Dig):Int:=if IM x=t_∧(p=0∨p=1)then(if x.l=0∨rA x p=t_ then 380 else if Hn l r=OC x p then 0 else 381)else 1
theorem je{x:Bis}(h:IM x=t_):x.i<65536:=by obtain⟨a,b,c,d,e,f,g⟩:=Zi h;have:=Q6 (a:=(x.h - x.l).toNat) (b:=16) (by omega);omega
def lU:List D→Option D:=Dq (α:=Bis×Int×Dig×Dig) (fun a=>[D3 a.1,I J a.2.1,Dl a.2.2.1,Dl a.2.2.2]) (fun a=>-9223372036854775808≤a.2.1∧a.2.1<9223372036854775808) (fun a=>.tup [D3 (ET a.1 a.2.1 a.2.2.1 a.2.2.2),I J (EZ a.1 a.2.1 a.2.2.1 a.2.2.2)])
theorem Yhc(x:Bis)(p:Int)(l:Dig)(r:Dig)(h:-9223372036854775808≤p∧p<9223372036854775808):lU [D3 x,I J p,Dl l,Dl r]=s_ (.tup [D3 (ET x p l r),I J (EZ x p l r)]):=
 DK (fun⟨a0,a1,E,M⟩ ⟨b0,b1,N,b3⟩ h=>by simp only[Aa,D.int.injEq,Kt,true_and,and_true,SA]at h; simp[h]) (x,p,l,r) h
theorem YAh(x:Bis)(p:Int)(l:Dig)(r:Dig)(h:-9223372036854775808≤p∧p<9223372036854775808):@wW GG (tb [(77,fI),(95,Un)] []) Z3.code (Dm [D3 x,I J p,Dl l,Dl r]) [] ⟨Ds Z3.res (.tup [D3 (ET x p l r),I J (EZ x p l r)])⟩:=by
 unfold Z3
 by_cases hv:IM x=t_
 ·have cv:=om x;rw[hv]at cv
  by_cases hp:p=0∨p=1
  ·obtain⟨v1,v2,v3,v4,v5,v6,v7⟩:=Zi hv;have v8:=je hv;rcases hp with rfl|rfl
   ·have q1:¬ (1:Int)=0:=by decide
    by_cases E:x.l=0
    ·have M:ET x 0 l r=Fm:=by unfold ET; rw[if_pos ⟨hv,.inl rfl⟩,if_pos (.inl E)]
     have N:EZ x 0 l r=380:=by unfold EZ; rw[if_pos ⟨hv,.inl rfl⟩,if_pos (.inl E)]
     rw[M,N]
     push_cast(disch:=lia)[cv,E]
    by_cases h2:x.t0=t_
    ·have M:ET x 0 l r=Fm:=by unfold ET; rw[if_pos ⟨hv,.inl rfl⟩,if_pos (.inr h2)]
     have N:EZ x 0 l r=380:=by unfold EZ; rw[if_pos ⟨hv,.inl rfl⟩,if_pos (.inr h2)]
     rw[M,N]
     push_cast(disch:=lia)[cv,E,h2,Em]
    have ad:x.t0=f_:=by simpa using h2
    by_cases h3:Hn l r=x.n0
    ·by_cases h4:x.t1=t_
     ·have M:ET x 0 l r=Pg (GB x 0 l r):=by unfold ET; rw[if_pos ⟨hv,.inl rfl⟩,if_neg (by intro h; rcases h with h|h; exact E h; exact h2 h),if_pos (show Hn l r=OC x 0 from h3)]; exact if_pos h4
      have N:EZ x 0 l r=0:=by unfold EZ; rw[if_pos ⟨hv,.inl rfl⟩,if_neg (by intro h; rcases h with h|h; exact E h; exact h2 h)]; exact if_pos h3
      rw[M,N,show GB x 0 l r={x with t0:=t_,l0:=l,r0:=r} from rfl];unfold Pg
      by_cases h5:l=x.l1
      ·push_cast(disch:=lia)[↓Hd,cv,E,ad,h3,h4,← h5,Em,M4,EI,IA,DQ,HS]
      ·push_cast(disch:=lia)[↓Hd,cv,E,ad,h3,h4,h5,Em,M4,EI,IA,DQ,HS]
     ·have a1:x.t1=f_:=by simpa using h4
      have M:ET x 0 l r=GB x 0 l r:=by unfold ET; rw[if_pos ⟨hv,.inl rfl⟩,if_neg (by intro h; rcases h with h|h; exact E h; exact h2 h),if_pos (show Hn l r=OC x 0 from h3)]; exact if_neg h4
      have N:EZ x 0 l r=0:=by unfold EZ; rw[if_pos ⟨hv,.inl rfl⟩,if_neg (by intro h; rcases h with h|h; exact E h; exact h2 h)]; exact if_pos h3
      rw[M,N,show GB x 0 l r={x with t0:=t_,l0:=l,r0:=r} from rfl]
      push_cast(disch:=lia)[↓Hd,cv,E,ad,h3,a1,Em,M4,EI]
    ·have M:ET x 0 l r=Fm:=by unfold ET; rw[if_pos ⟨hv,.inl rfl⟩,if_neg (by intro h; rcases h with h|h; exact E h; exact h2 h)]; exact if_neg h3
     have N:EZ x 0 l r=381:=by unfold EZ; rw[if_pos ⟨hv,.inl rfl⟩,if_neg (by intro h; rcases h with h|h; exact E h; exact h2 h)]; exact if_neg h3
     rw[M,N]
     push_cast(disch:=lia)[cv,E,ad,h3,Em,M4]
   ·have q1:¬ (1:Int)=0:=by decide
    by_cases E:x.l=0
    ·have M:ET x 1 l r=Fm:=by unfold ET; rw[if_pos ⟨hv,.inr rfl⟩,if_pos (.inl E)]
     have N:EZ x 1 l r=380:=by unfold EZ; rw[if_pos ⟨hv,.inr rfl⟩,if_pos (.inl E)]
     rw[M,N]
     push_cast(disch:=lia)[cv,E,q1]
    by_cases h2:x.t1=t_
    ·have M:ET x 1 l r=Fm:=by unfold ET; rw[if_pos ⟨hv,.inr rfl⟩,if_pos (.inr h2)]
     have N:EZ x 1 l r=380:=by unfold EZ; rw[if_pos ⟨hv,.inr rfl⟩,if_pos (.inr h2)]
     rw[M,N]
     push_cast(disch:=lia)[cv,E,h2,q1,Em]
    have ad:x.t1=f_:=by simpa using h2
    by_cases h3:Hn l r=x.n1
    ·by_cases h4:x.t0=t_
     ·have M:ET x 1 l r=Pg (GB x 1 l r):=by unfold ET; rw[if_pos ⟨hv,.inr rfl⟩,if_neg (by intro h; rcases h with h|h; exact E h; exact h2 h),if_pos (show Hn l r=OC x 1 from h3)]; exact if_pos h4
      have N:EZ x 1 l r=0:=by unfold EZ; rw[if_pos ⟨hv,.inr rfl⟩,if_neg (by intro h; rcases h with h|h; exact E h; exact h2 h)]; exact if_pos h3
      rw[M,N,show GB x 1 l r={x with t1:=t_,l1:=l,r1:=r} from rfl];unfold Pg
      by_cases h5:l=x.l0
      ·push_cast(disch:=lia)[↓Hd,cv,E,ad,h3,h4,q1,← h5,Em,M4,EI,IA,DQ,HS]
      ·have h6:¬ x.l0=l:=fun h=>h5 h.symm
       push_cast(disch:=lia)[↓Hd,cv,E,ad,h3,h4,h5,h6,q1,Em,M4,EI,IA,DQ,HS]
     ·have a1:x.t0=f_:=by simpa using h4
      have M:ET x 1 l r=GB x 1 l r:=by unfold ET; rw[if_pos ⟨hv,.inr rfl⟩,if_neg (by intro h; rcases h with h|h; exact E h; exact h2 h),if_pos (show Hn l r=OC x 1 from h3)]; exact if_neg h4
      have N:EZ x 1 l r=0:=by unfold EZ; rw[if_pos ⟨hv,.inr rfl⟩,if_neg (by intro h; rcases h with h|h; exact E h; exact h2 h)]; exact if_pos h3
      rw[M,N,show GB x 1 l r={x with t1:=t_,l1:=l,r1:=r} from rfl]
      push_cast(disch:=lia)[↓Hd,cv,E,ad,h3,a1,q1,Em,M4,EI]
    ·have M:ET x 1 l r=Fm:=by unfold ET; rw[if_pos ⟨hv,.inr rfl⟩,if_neg (by intro h; rcases h with h|h; exact E h; exact h2 h)]; exact if_neg h3
     have N:EZ x 1 l r=381:=by unfold EZ; rw[if_pos ⟨hv,.inr rfl⟩,if_neg (by intro h; rcases h with h|h; exact E h; exact h2 h)]; exact if_neg h3
     rw[M,N]
     push_cast(disch:=lia)[cv,E,ad,h3,q1,Em,M4]
  ·have M:ET x p l r=Fm:=by unfold ET; exact if_neg fun h=>hp h.2
   have N:EZ x p l r=1:=by unfold EZ; exact if_neg fun h=>hp h.2
   have p0:¬ p=0:=fun h=>hp (.inl h);have p1:¬ p=1:=fun h=>hp (.inr h);rw[M,N]
   push_cast(disch:=lia)[cv,p0,p1]
 ·have a2:IM x=f_:=by simpa using hv
  have cv:=om x;rw[a2]at cv;have M:ET x p l r=Fm:=by unfold ET; exact if_neg fun h=>hv h.1
  have N:EZ x p l r=1:=by unfold EZ; exact if_neg fun h=>hv h.1
  rw[M,N]
  push_cast(disch:=lia)[cv]
theorem YFr:Contract Tryz.prog GG 122 lU:=
 DM yBh (DD (all_cons Ydw (all_cons mE all_nil)) all_nil) (fun a h=>YAh a.1 a.2.1 a.2.2.1 a.2.2.2 h)
theorem rj(lent:Bool)(p:Dig×Dig):DJ (s_ ⟨f_,1,Dj p.1++Dj p.2,lent⟩) 32 t_ 0=s_ (Dl p.1):=Mf (A:=[]) (B:=Dj p.1) (C:=Dj p.2) rfl rfl (Ef _)
theorem YKt(lent:Bool)(p:Dig×Dig):DJ (s_ ⟨f_,1,Dj p.1++Dj p.2,lent⟩) 32 t_ 32=s_ (Dl p.2):=Mf (A:=Dj p.1) (B:=Dj p.2) (C:=[]) (by rw[Af]) (Ef _) (Ef _)
theorem Kl(a b:Int)(d e:Dig):Eb (s_ ⟨f_,1,I J b::Dj e,f_⟩) 33 0 (U (I J a::Dj d))=s_ ⟨f_,1,I J a::Dj d,f_⟩:=RK (b,e) a d
theorem LZ(a:Int)(d:Dig)(lent:Bool):DJ (s_ ⟨f_,1,I J a::Dj d,lent⟩) 33 t_ 0=s_ (U (I J a::Dj d)):=LP 1 lent _ 33 (by simp[Ef])
theorem Ni(st:St)(a:Int)(d:Dig):Ej st (U (I J a::Dj d))=s_ (U (I J a::Dj d)):=O8 st (d:=U (I J a::Dj d)) (by simp only[Jq,AX,Mr]; rfl)
theorem pQ(a:Int)(d:Dig):D4 (U (I J a::Dj d))=s_ (I J a::Dj d):=by rw[show D4 (U (I J a::Dj d))=if((I J a::Dj d:List D)).all D.isCell then s_ (I J a::Dj d)else none from rfl,if_pos];rw[AX,Lu (fun _=>rfl)]; rfl
theorem ld(st:St)(k:Nat):Jg st 2 32 (Y k 0) (I J 0)=s_ (Y k 0):=Em st 2 32 k 0 J 0 (by decide) (by decide)
theorem Ycp(st:St)(k:Nat):Jg st 2 32 (Y k 0) (I J 1)=s_ (Y k 32):=Em st 2 32 k 0 J 1 (by decide) (by decide)
def dH:List D→Option D:=Dq (α:=Dig×(Dig×Dig)) (fun a=>[Dl a.1,GH a.2]) (fun a=>True) (fun a=>El (Jr a.2 a.1,a.1))
theorem fw(d:Dig)(E:Dig×Dig):dH [Dl d,GH E]=s_ (El (Jr E d,d)):=
 DK (fun⟨a0,a1⟩ ⟨b0,b1⟩ h=>by simp only[Aa,Kt,and_true,Tr]at h; simp[h]) (d,E) trivial
theorem YG5(d:Dig)(E:Dig×Dig):@wW GG (tb [] []) bX.code (Dm [Dl d,GH E]) [] ⟨Ds bX.res (El (Jr E d,d))⟩:=by
 unfold bX El Jr
 by_cases M:E.1=d
 ·rw[if_pos M]
  push_cast(disch:=lia)[LM,ld,rj,KC,OL,eq_true M,decide_true,Sp,Kl,LZ,Ni]
 ·rw[if_neg M];have aa:=eq_false M
  by_cases N:E.2=d
  ·rw[if_pos N]
   push_cast(disch:=lia)[LM,ld,Ycp,rj,YKt,KC,OL,aa,eq_true N,decide_true,decide_false,Sp,Kl,LZ,Ni]
  ·rw[if_neg N];have ab:=eq_false N
   push_cast(disch:=lia)[LM,ld,Ycp,rj,YKt,KC,OL,aa,ab,decide_false,Sp,Kl,LZ,Ni]
theorem z4:Contract Tryz.prog GG 50 dH:=
 DM yq8 (DD all_nil all_nil) (fun a h=>YG5 a.1 a.2)
theorem YEs(n:Int):Ed [I J 0,I J 0,I J 0,I J 0,O 0 [] t_] [(1,1,I J n)]=s_ [I J 0,I J n,I J 0,I J 0,O 0 [] t_]:=(rfl)
theorem YLi(st:St)(n:Int):Ej st (U [I J 0,I J n,I J 0,I J 0,O 0 [] t_])=s_ (DS {JY with fuel:=n}):=(rfl)
theorem ja:Ed (I J 0::Dj DH) []=s_ (I J 0::Dj DH):=(rfl)
def kD:List D→Option D:=Dq (α:=List Ins×(Int×List Int)×(Dig×Dig)) (fun a=>[O (nz 3 (a.1.map Dk)) (a.1.map Dk) f_,D6 a.2.1,GH a.2.2]) (fun a=>a.1.length≤4294967296∧ED a.2.1) (fun a=>.tup [El (FK a.2.2 (FM a.1 a.2.1)),I J (FM a.1 a.2.1).2])
theorem Ypi(c:List Ins)(v:Int×List Int)(E:Dig×Dig)(h:c.length≤4294967296∧ED v):kD [O (nz 3 (c.map Dk)) (c.map Dk) f_,D6 v,GH E]=s_ (.tup [El (FK E (FM c v)),I J (FM c v).2]):=
 DK (fun⟨a0,a1,M⟩ ⟨b0,b1,N⟩ h=>by simp only[Aa,D.slc.injEq,and_true,Ha,Hz,Tr]at h; simp[h]) (c,v,E) h
theorem YHy(c:List Ins)(v:Int×List Int)(E:Dig×Dig)(h:c.length≤4294967296∧ED v):@wW GG (tb [(51,TH),(50,dH),(52,dI),(53,jT)] []) aW.code (Dm [O (nz 3 (c.map Dk)) (c.map Dk) f_,D6 v,GH E]) [] ⟨Ds aW.res (.tup [El (FK E (FM c v)),I J (FM c v).2])⟩:=by
 obtain⟨hc,hv⟩:=h;unfold aW;have N:=uw c (by omega);have hp:=fm
 by_cases h0:c.length=0
 ·have M:=fw EP E;rw[show FM c v=(EP,0)from if_pos h0,show FK E (EP,0)=(Jr E EP,EP)from if_pos rfl];unfold El at M ⊢;have aa:(c.length:Int)=0:=by omega
  simp(disch:=first|omega|decide) only[push_cast,↓reduceIte,CW,CY,D5,LM,Pc,Nh,aa,hp,M,Kl,LZ,Ni]
 ·have aa:((c.length:Int)=0)=False:=YYF
  by_cases h1:(FO c).2=0
  ·obtain⟨a0,_⟩:=nD h1;have hs:Kq ((c.length:Int)+1)={JY with fuel:=(c.length:Int)+1}:=if_neg (by omega);have hd:=Ypo c v (Kq ((c.length:Int)+1)) ⟨hc,hv,by rw[hs]; exact AY _⟩;have M:=fw (HJ c v (Kq ((c.length:Int)+1))) E;rw[show FM c v=(HJ c v (Kq (c.length+1)),0) by unfold FM; rw[if_neg h0,if_neg (by simp[h1])],show FK E (HJ c v (Kq (c.length+1)),0)=(Jr E (HJ c v (Kq (c.length+1))),HJ c v (Kq (c.length+1)))from if_pos rfl];generalize HJ c v (Kq ((c.length:Int)+1))=g at*;rw[hs]at hd;rw[h1]at N;unfold El at M ⊢;simp(disch:=first|omega|decide) only[push_cast,↓reduceIte,CW,CY,D5,LM,Pc,Nh,aa,decide_false,N,DQ,YEs,YLi,Fu hv,Fa,hd,M,Kl,LZ,Ni]
  ·rw[show FM c v=(DH,(FO c).2) by unfold FM; rw[if_neg h0,if_pos h1],show FK E (DH,(FO c).2)=(0,DH)from if_neg h1];have af:=eq_false h1;generalize (FO c).2=e at*;unfold El;simp(disch:=first|omega|decide) only[push_cast,↓reduceIte,CW,CY,D5,LM,aa,decide_false,N,af,ja,Kl,LZ,Ni]
theorem YNr:Contract Tryz.prog GG 15 kD:=
 DM ytq (DD (all_cons gE (all_cons z4 (all_cons z6 (all_cons YN0 all_nil)))) all_nil) (fun a h=>YHy a.1 a.2.1 a.2.2 h)
def j7:List D→Option D:=Dq (α:=List Ins×(Int×List Int)×Dig×(Dig×Dig)×Opn) (fun a=>[O (nz 3 (a.1.map Dk)) (a.1.map Dk) f_,D6 a.2.1,Dl a.2.2.1,GH a.2.2.2.1,DU a.2.2.2.2]) (fun a=>a.1.length≤4294967296∧ED a.2.1∧a.2.2.2.2.top.length≤4294967295) (fun a=>.tup [El (FK a.2.2.2.1 (FJ a.1 a.2.1 a.2.2.1 a.2.2.2.2)),I J (FJ a.1 a.2.1 a.2.2.1 a.2.2.2.2).2])
theorem Yo1(c:List Ins)(v:Int×List Int)(b:Dig)(E:Dig×Dig)(o:Opn)(h:c.length≤4294967296∧ED v∧o.top.length≤4294967295):j7 [O (nz 3 (c.map Dk)) (c.map Dk) f_,D6 v,Dl b,GH E,DU o]=s_ (.tup [El (FK E (FJ c v b o)),I J (FJ c v b o).2]):=
 DK (fun⟨a0,a1,M,N,a4⟩ ⟨b0,b1,b2,b3,b4⟩ h=>by simp only[Aa,D.slc.injEq,Kt,and_true,Ha,Nv,Hz,Tr]at h; simp[h]) (c,v,b,E,o) h
theorem YHa(c:List Ins)(v:Int×List Int)(b:Dig)(E:Dig×Dig)(o:Opn)(h:c.length≤4294967296∧ED v∧o.top.length≤4294967295):@wW GG (tb [(51,TH),(50,dH),(56,Vi),(57,j5)] []) bk.code (Dm [O (nz 3 (c.map Dk)) (c.map Dk) f_,D6 v,Dl b,GH E,DU o]) [] ⟨Ds bk.res (.tup [El (FK E (FJ c v b o)),I J (FJ c v b o).2])⟩:=by
 obtain⟨hc,hv,ht⟩:=h;unfold bk;have hp:=fm;have cc:=fl c v o ⟨hc,hv,by omega⟩;have co:=Yo3 c v o ⟨hc,hv,by omega⟩;have a2:=vN c v o;have a0:=fl c v (IP c v o) ⟨hc,hv,by omega⟩;have vp:=fw EP E;have vx:=fw (Gy c v (IP c v o)) E
 by_cases q1:b=EP
 ·rw[show FJ c v b o=(b,0)from if_pos q1,show FK E (b,0)=(Jr E b,b)from if_pos rfl,q1];unfold El at vp ⊢
  push_cast(disch:=lia)[D5,LM,H4,Pc,Nh,hp,KC,OL,decide_true,vp,Kl,LZ,Ni]
 have N:=eq_false q1
 by_cases M:Gy c v o=b
 ·have af:=eq_true M
  by_cases q3:o.status=0
  ·have e:FJ c v b o=(Gy c v (IP c v o),HP c o):=by unfold FJ; rw[if_neg q1,if_neg (by simp[M]),if_neg (by simp[q3])]
   rw[e];generalize IP c v o=x at*;generalize Gy c v x=g at*
   by_cases q4:HP c o=0
   ·rw[q4]at co ⊢;rw[show FK E (g,0)=(Jr E g,g)from if_pos rfl];unfold El at vx ⊢
    push_cast(disch:=lia)[D5,LM,H4,Pc,Nh,hp,KC,OL,N,M,decide_true,decide_false,Fu hv,Fa,GO,KH,ON,Gw,LS,cc,a0,co,eq_true q3,KQ,H3,L9,vx,Kl,LZ,Ni]
   ·rw[show FK E (g,HP c o)=(0,DH)from if_neg q4];have a1:=eq_false q4;generalize HP c o=e2 at*;unfold El
    push_cast(disch:=lia)[D5,LM,H4,hp,KC,OL,N,M,decide_true,decide_false,Fu hv,Fa,GO,KH,ON,Gw,LS,cc,co,eq_true q3,KQ,H3,L9,a1,ja,Kl,LZ,Ni]
  ·rw[show FJ c v b o=(EP,0) by unfold FJ; rw[if_neg q1,if_neg (by simp[M]),if_pos q3],show FK E (EP,0)=(Jr E EP,EP)from if_pos rfl];unfold El at vp ⊢
   push_cast(disch:=lia)[D5,LM,H4,Pc,Nh,hp,KC,OL,N,M,decide_true,decide_false,Fu hv,Fa,KH,ON,Gw,cc,eq_false q3,vp,Kl,LZ,Ni]
 ·have af:=eq_false M;rw[show FJ c v b o=(DH,390) by unfold FJ; rw[if_neg q1,if_pos M],show FK E (DH,390)=(0,DH)from if_neg (by decide)];unfold El
  push_cast(disch:=lia)[D5,LM,H4,hp,KC,OL,N,af,decide_false,Fu hv,Fa,KH,Gw,cc,ja,Kl,LZ,Ni]
theorem YNa:Contract Tryz.prog GG 17 j7:=
 DM yv4 (DD (all_cons gE (all_cons z4 (all_cons pN (all_cons YNc all_nil)))) all_nil) (fun a h=>YHa a.1 a.2.1 a.2.2.1 a.2.2.2.1 a.2.2.2.2 h)
def mz:List D→Option D:=Dq (α:=Bis×Int×Dig×Dig) (fun a=>[D3 a.1,I J a.2.1,Dl a.2.2.1,Dl a.2.2.2]) (fun a=>-9223372036854775808≤a.2.1∧a.2.1<9223372036854775808) (fun a=>.tup [D3 (ET a.1 a.2.1 a.2.2.1 a.2.2.2),I J (EZ a.1 a.2.1 a.2.2.1 a.2.2.2)])
theorem Yg7(x:Bis)(p:Int)(l:Dig)(r:Dig)(h:-9223372036854775808≤p∧p<9223372036854775808):mz [D3 x,I J p,Dl l,Dl r]=s_ (.tup [D3 (ET x p l r),I J (EZ x p l r)]):=
 DK (fun⟨a0,a1,E,M⟩ ⟨b0,b1,N,b3⟩ h=>by simp only[Aa,D.int.injEq,Kt,true_and,and_true,SA]at h; simp[h]) (x,p,l,r) h
theorem Yz0(x:Bis)(p:Int)(l:Dig)(r:Dig)(h:-9223372036854775808≤p∧p<9223372036854775808):@wW GG (tb [(139,fK),(162,SU)] []) cz.code (Dm [D3 x,I J p,Dl l,Dl r]) [] ⟨Ds cz.res (.tup [D3 (ET x p l r),I J (EZ x p l r)])⟩:=by
 unfold cz
 by_cases hv:IM x=t_
 ·have cv:=oq x;rw[hv]at cv
  by_cases hp:p=0∨p=1
  ·obtain⟨v1,v2,v3,v4,v5,v6,v7⟩:=Zi hv;have v8:=je hv;rcases hp with rfl|rfl
   ·have q1:¬ (1:Int)=0:=by decide
    by_cases E:x.l=0
    ·have M:ET x 0 l r=Fm:=by unfold ET; rw[if_pos ⟨hv,.inl rfl⟩,if_pos (.inl E)]
     have N:EZ x 0 l r=380:=by unfold EZ; rw[if_pos ⟨hv,.inl rfl⟩,if_pos (.inl E)]
     rw[M,N]
     push_cast(disch:=lia)[cv,E,HS]
    by_cases h2:x.t0=t_
    ·have M:ET x 0 l r=Fm:=by unfold ET; rw[if_pos ⟨hv,.inl rfl⟩,if_pos (.inr h2)]
     have N:EZ x 0 l r=380:=by unfold EZ; rw[if_pos ⟨hv,.inl rfl⟩,if_pos (.inr h2)]
     rw[M,N]
     push_cast(disch:=lia)[cv,E,h2,Em,HS]
    have ad:x.t0=f_:=by simpa using h2
    by_cases h3:Hn l r=x.n0
    ·by_cases h4:x.t1=t_
     ·have M:ET x 0 l r=Pg (GB x 0 l r):=by unfold ET; rw[if_pos ⟨hv,.inl rfl⟩,if_neg (by intro h; rcases h with h|h; exact E h; exact h2 h),if_pos (show Hn l r=OC x 0 from h3)]; exact if_pos h4
      have N:EZ x 0 l r=0:=by unfold EZ; rw[if_pos ⟨hv,.inl rfl⟩,if_neg (by intro h; rcases h with h|h; exact E h; exact h2 h)]; exact if_pos h3
      rw[M,N,show GB x 0 l r={x with t0:=t_,l0:=l,r0:=r} from rfl];unfold Pg
      by_cases h5:l=x.l1
      ·push_cast(disch:=lia)[cv,E,ad,h3,h4,← h5,Em,M5,EI,IA,DQ,HS]
      ·push_cast(disch:=lia)[cv,E,ad,h3,h4,h5,Em,M5,EI,IA,DQ,HS]
     ·have a0:x.t1=f_:=by simpa using h4
      have M:ET x 0 l r=GB x 0 l r:=by unfold ET; rw[if_pos ⟨hv,.inl rfl⟩,if_neg (by intro h; rcases h with h|h; exact E h; exact h2 h),if_pos (show Hn l r=OC x 0 from h3)]; exact if_neg h4
      have N:EZ x 0 l r=0:=by unfold EZ; rw[if_pos ⟨hv,.inl rfl⟩,if_neg (by intro h; rcases h with h|h; exact E h; exact h2 h)]; exact if_pos h3
      rw[M,N,show GB x 0 l r={x with t0:=t_,l0:=l,r0:=r} from rfl]
      push_cast(disch:=lia)[cv,E,ad,h3,a0,Em,M5,EI]
    ·have M:ET x 0 l r=Fm:=by unfold ET; rw[if_pos ⟨hv,.inl rfl⟩,if_neg (by intro h; rcases h with h|h; exact E h; exact h2 h)]; exact if_neg h3
     have N:EZ x 0 l r=381:=by unfold EZ; rw[if_pos ⟨hv,.inl rfl⟩,if_neg (by intro h; rcases h with h|h; exact E h; exact h2 h)]; exact if_neg h3
     rw[M,N]
     push_cast(disch:=lia)[cv,E,ad,h3,Em,M5,HS]
   ·have q1:¬ (1:Int)=0:=by decide
    by_cases E:x.l=0
    ·have M:ET x 1 l r=Fm:=by unfold ET; rw[if_pos ⟨hv,.inr rfl⟩,if_pos (.inl E)]
     have N:EZ x 1 l r=380:=by unfold EZ; rw[if_pos ⟨hv,.inr rfl⟩,if_pos (.inl E)]
     rw[M,N]
     push_cast(disch:=lia)[cv,E,HS]
    by_cases h2:x.t1=t_
    ·have M:ET x 1 l r=Fm:=by unfold ET; rw[if_pos ⟨hv,.inr rfl⟩,if_pos (.inr h2)]
     have N:EZ x 1 l r=380:=by unfold EZ; rw[if_pos ⟨hv,.inr rfl⟩,if_pos (.inr h2)]
     rw[M,N]
     push_cast(disch:=lia)[cv,E,h2,Em,HS]
    have ad:x.t1=f_:=by simpa using h2
    by_cases h3:Hn l r=x.n1
    ·by_cases h4:x.t0=t_
     ·have M:ET x 1 l r=Pg (GB x 1 l r):=by unfold ET; rw[if_pos ⟨hv,.inr rfl⟩,if_neg (by intro h; rcases h with h|h; exact E h; exact h2 h),if_pos (show Hn l r=OC x 1 from h3)]; exact if_pos h4
      have N:EZ x 1 l r=0:=by unfold EZ; rw[if_pos ⟨hv,.inr rfl⟩,if_neg (by intro h; rcases h with h|h; exact E h; exact h2 h)]; exact if_pos h3
      rw[M,N,show GB x 1 l r={x with t1:=t_,l1:=l,r1:=r} from rfl];unfold Pg
      by_cases h5:l=x.l0
      ·push_cast(disch:=lia)[cv,E,ad,h3,h4,← h5,Em,M5,EI,IA,DQ,HS]
      ·have h6:¬ x.l0=l:=fun h=>h5 h.symm
       push_cast(disch:=lia)[cv,E,ad,h3,h4,h6,Em,M5,EI,IA,DQ,HS]
     ·have a0:x.t0=f_:=by simpa using h4
      have M:ET x 1 l r=GB x 1 l r:=by unfold ET; rw[if_pos ⟨hv,.inr rfl⟩,if_neg (by intro h; rcases h with h|h; exact E h; exact h2 h),if_pos (show Hn l r=OC x 1 from h3)]; exact if_neg h4
      have N:EZ x 1 l r=0:=by unfold EZ; rw[if_pos ⟨hv,.inr rfl⟩,if_neg (by intro h; rcases h with h|h; exact E h; exact h2 h)]; exact if_pos h3
      rw[M,N,show GB x 1 l r={x with t1:=t_,l1:=l,r1:=r} from rfl]
      push_cast(disch:=lia)[cv,E,ad,h3,a0,Em,M5,EI]
    ·have M:ET x 1 l r=Fm:=by unfold ET; rw[if_pos ⟨hv,.inr rfl⟩,if_neg (by intro h; rcases h with h|h; exact E h; exact h2 h)]; exact if_neg h3
     have N:EZ x 1 l r=381:=by unfold EZ; rw[if_pos ⟨hv,.inr rfl⟩,if_neg (by intro h; rcases h with h|h; exact E h; exact h2 h)]; exact if_neg h3
     rw[M,N]
     push_cast(disch:=lia)[cv,E,ad,h3,Em,M5,HS]
  ·have M:ET x p l r=Fm:=by unfold ET; exact if_neg fun h=>hp h.2
   have N:EZ x p l r=1:=by unfold EZ; exact if_neg fun h=>hp h.2
   have p0:¬ p=0:=fun h=>hp (.inl h);have p1:¬ p=1:=fun h=>hp (.inr h);rw[M,N]
   by_cases p2:p<0
   ·push_cast(disch:=lia)[cv,p2,HS]
   ·have p3:1<p:=by omega
    push_cast(disch:=lia)[cv,p2,p3,HS]
 ·have a2:IM x=f_:=by simpa using hv
  have cv:=oq x;rw[a2]at cv;have M:ET x p l r=Fm:=by unfold ET; exact if_neg fun h=>hv h.1
  have N:EZ x p l r=1:=by unfold EZ; exact if_neg fun h=>hv h.1
  rw[M,N]
  push_cast(disch:=lia)[cv,HS]
theorem YFi:Contract Tryz.prog GG 133 mz:=
 DM ypy (DD (all_cons Ydq (all_cons fi all_nil)) all_nil) (fun a h=>Yz0 a.1 a.2.1 a.2.2.1 a.2.2.2 h)
theorem MT(st:St)(a b:Dig):Es st (E9 a b)=s_ (E9 a b):=SY st (uF a b)
def Kn(x:Bis):Bool:=IM x && decide (x.l≤0)
def Iy(x:Bis):Int:=if Kn x=t_ then x.i else 0
def G4(x:Bis):Dig:=if Kn x=t_ then x.n0 else DH
def G2(x:Bis):Dig:=if Kn x=t_ then x.n1 else DH
def Vx:List D→Option D:=Dq (α:=Bis) (fun a=>[D3 a]) (fun a=>True) (fun a=>.tup [I J (Iy a),U (E9 (G4 a) (G2 a)),V (Kn a)])
theorem nV(x:Bis):Vx [D3 x]=s_ (.tup [I J (Iy x),U (E9 (G4 x) (G2 x)),V (Kn x)]):=
 DK (fun a b h=>by simp only[Aa,and_true,SA]at h; simp[h]) (x) trivial
theorem YAg(x:Bis):@wW GG (tb [(77,fI)] []) Zz.code (Dm [D3 x]) [] ⟨Ds Zz.res (.tup [I J (Iy x),U (E9 (G4 x) (G2 x)),V (Kn x)])⟩:=by
 have E:=om x;unfold Zz Iy G4 G2 Kn
 by_cases hv:IM x=t_
 ·rw[hv]at E ⊢
  by_cases N:0<x.l
  ·have M:¬ x.l≤0:=by omega
   push_cast(disch:=lia)[MT,E,N,M]
  ·have M:x.l≤0:=by omega
   push_cast(disch:=lia)[MT,E,N,M]
 ·have aa:IM x=f_:=by simpa using hv
  rw[aa]at E ⊢
  push_cast(disch:=lia)[MT,E]
theorem jg:Contract Tryz.prog GG 88 Vx:=
 DM yLe (DD (all_cons Ydw all_nil) all_nil) (fun a h=>YAg a)
def VD:List D→Option D:=Dq (α:=Bis) (fun a=>[D3 a]) (fun a=>True) (fun a=>.tup [I J (Iy a),U (E9 (G4 a) (G2 a)),V (Kn a)])
theorem nK(x:Bis):VD [D3 x]=s_ (.tup [I J (Iy x),U (E9 (G4 x) (G2 x)),V (Kn x)]):=
 DK (fun a b h=>by simp only[Aa,and_true,SA]at h; simp[h]) (x) trivial
theorem Yzz(x:Bis):@wW GG (tb [(139,fK)] []) bj.code (Dm [D3 x]) [] ⟨Ds bj.res (.tup [I J (Iy x),U (E9 (G4 x) (G2 x)),V (Kn x)])⟩:=by
 have E:=oq x;unfold bj Iy G4 G2 Kn
 by_cases hv:IM x=t_
 ·rw[hv]at E ⊢
  by_cases N:0<x.l
  ·have M:¬ x.l≤0:=by omega
   push_cast(disch:=lia)[MT,E,N,M,HS]
  ·have M:x.l≤0:=by omega
   push_cast(disch:=lia)[MT,E,N,M]
 ·have aa:IM x=f_:=by simpa using hv
  rw[aa]at E ⊢
  push_cast(disch:=lia)[MT,E,HS]
theorem jl:Contract Tryz.prog GG 90 VD:=
 DM yv5 (DD (all_cons Ydq all_nil) all_nil) (fun a h=>Yzz a)
