/-
  court: the law of a case between the derivation and other leaves.
  Conditions: none; these are lemmas.
-/
import Derived.Test.YtijnglngaogdjaaGreatDoorCtE
import Derived.Test.YtijnglngaogdjaaGreatDoorCtK
open Int renaming reduceAdd→CZ,reduceLT→CT,reduceNatCast'→CL
open List renaming replicate→CQ
open Nat renaming reduceAdd→CJ,reduceEqDiff→CI,reduceLT→CO,reduceLeDiff→CM,reduceMul→CP
namespace Go.Proofs.YtijnglngaogdjaaGreatDoor.PI
open Go
set_option linter.unusedSimpArgs false
set_option linter.unusedVariables false
variable {n:Int}{v:Int×List Int}{c:List Ins}
theorem yYm{t:List Sta}(M:RunOK c v t)(hl:∀ x∈t,x.stack.length≤64){i:Nat}{s:Sta}(hi:t[i]?=some s)(I:¬ DT c v s=Dq)(hn:2≤n) :
  Gu c v (DT c v s) (Fp s n)=(((t.map (DT c v))[i+1]?).getD Dq,0):=by
 have J:=hl s (Aj hi);obtain⟨g1,g2⟩:=M.get hi;have aa:i<t.length:=(Ab.1 hi).1;rw[AD]
 by_cases q:i+1<t.length
 ·obtain⟨E,U,V⟩:=g1 q;rw[Yuh n J rfl I E U (fun Y=>by have:=YDh Y; have:=YCp (G7 c s).op; omega),V];rfl
 ·have E:=g2 (by omega);rw[nr n J rfl I,if_pos E,Bd (by omega)];rfl
def GH(x:Cse)(A B:List Dig)(h:Int)(k:Nat):Cse:={x with b:=D7 A B h k}
variable {N k:Nat}
theorem iz(A B:List Dig)(hk:k≤N)(I:N≤16):Kf (D7 A B N k)=decide (k=N):=by
 have hv:Hl (D7 A B N k)=true:=by
  have E:=P9 A B N k (by omega);exact YU A B (by omega) (by omega) (by omega) E.1 (by rw[show((N:Int) - ((N:Int) - (k:Int))).toNat=((N:Int) - ((N:Int) - k)).toNat from rfl]; exact E.2)
 unfold Kf;rw[hv,Bt,YBl];grind
theorem zg(A B:List Dig)(E:N≤16):J9 (D7 A B N N)=idxS A B N N∧Ip (D7 A B N N)=EJ A (idxS A B N N) Dq∧Ii (D7 A B N N)=EJ B (idxS A B N N) Dq:=by
 have J:=iz A B (Ax N) E;simp only[decide_true]at J;have I:=Uv (D7 A B N N);rw[Yhl A B E]at I;simp only[AK,D.tup.injEq,Aa,D.int.injEq,D.agg.injEq,YEx,true_and,and_true]at I;grind
theorem zv{A B:List Dig}{N:Nat}(E:D0 A N 0≠D0 B N 0):∀ k:Nat,k≤N→D0 A (N - k) (idxS A B N k)≠D0 B (N - k) (idxS A B N k)
 |0,_=>by simpa[idxS]using E
 |k+1,hk=>by
  have J:=zv E k (by omega);have I:=P9 A B N k (by omega);have e:N - k=(N - (k+1))+1:=by omega
  rw[e,Um _ _ _ I.1,Um _ _ _ I.1]at J;have M:((N:Int) - (k:Int) - 1).toNat=N - (k+1):=by omega
  show D0 A (N - (k+1)) (Nd A B ((N:Int) - k) (idxS A B N k))≠D0 B (N - (k+1)) (Nd A B ((N:Int) - k) (idxS A B N k))
  unfold Nd;grind
variable {now:Int}{A B:List Dig}
theorem Ypj{x:Cse}(hk:k<N)(V:N≤16)(I:(A.length:Int)≤65536)(J:x.ph=2)(m:Mv)(hm:m.pt=0∧m.lf=EP A (D7 A B N k)∧m.rt=EO A (D7 A B N k)) :
  N8 c v (GH x A B N k) m now=({x with b:=EC (D7 A B N k) 0 (EP A (D7 A B N k)) (EO A (D7 A B N k))},0):=by
 obtain⟨Y,h2,h3⟩:=hm;have E:=P9 A B N k (by omega);obtain⟨a1,M,U⟩:=US A B A (h:=N) (lv:=(N:Int) - k) (i:=idxS A B N k) I (by omega) (by omega) (by omega) E.1 E.2;obtain⟨⟨t1,t2⟩,_⟩:=rT A B (h:=N) (lv:=(N:Int) - k) (i:=idxS A B N k) (p:=0) (.inl rfl) (by omega) (by omega) (by omega) E.1 E.2;simp only[if_true]at t1 t2;have e:D7 A B N k=Fa A B N ((N:Int) - k) (idxS A B N k):=rfl;rw[← e]at a1 M U t1 t2;unfold N8 GH;rw[if_pos (show({x with b:=D7 A B N k}:Cse).ph=2 from J)];dsimp only;have q:∀ l r:Dig,(EC (D7 A B N k) 0 l r).r=(D7 A B N k).r:=fun _ _=>rfl;grind
theorem Ypi{x:Cse}{now:Int}(hk:k<N)(af:N≤16)(Y:(A.length:Int)≤65536)(hB:(B.length:Int)≤65536)(hx:x.ph=2)(m:Mv)(hm:m.pt=1∧m.lf=EP B (D7 A B N k)∧m.rt=EO B (D7 A B N k)) :
  N8 c v {x with b:=EC (D7 A B N k) 0 (EP A (D7 A B N k)) (EO A (D7 A B N k))} m now=HX c v {GH x A B N (k+1)with dl:=now+1440} now:=by
 obtain⟨h1,h2,h3⟩:=hm;have E:=P9 A B N k (by omega);obtain⟨a1,I,J⟩:=US A B A (h:=N) (lv:=(N:Int) - k) (i:=idxS A B N k) Y (by omega) (by omega) (by omega) E.1 E.2;obtain⟨b1,M,U⟩:=US A B B (h:=N) (lv:=(N:Int) - k) (i:=idxS A B N k) hB (by omega) (by omega) (by omega) E.1 E.2;obtain⟨_,t3,t4⟩:=rT A B (h:=N) (lv:=(N:Int) - k) (i:=idxS A B N k) (p:=0) (.inl rfl) (by omega) (by omega) (by omega) E.1 E.2;simp only[if_true,Int.sub_zero]at t3 t4;rw[Ylh]at t3;have e:D7 A B N k=Fa A B N ((N:Int) - k) (idxS A B N k):=rfl;rw[← e]at a1 I J b1 M U t3 t4
 have V:¬ (D7 A B N (k+1)).r=(EC (D7 A B N k) 0 (D0 A ((N:Int) - k - 1).toNat (2*idxS A B N k)) (D0 A ((N:Int) - k - 1).toNat (2*idxS A B N k+1))).r:=by
  have q1:(D7 A B N (k+1)).r=N - ((N:Int) - ((k+1:Nat):Int)):=rfl;have q2:(EC (D7 A B N k) 0 (D0 A ((N:Int) - k - 1).toNat (2*idxS A B N k)) (D0 A ((N:Int) - k - 1).toNat (2*idxS A B N k+1))).r=N - ((N:Int) - (k:Int)):=rfl;omega
 unfold N8;rw[if_pos (show({x with b:=EC (D7 A B N k) 0 (EP A (D7 A B N k)) (EO A (D7 A B N k))}:Cse).ph=2 from hx)];dsimp only;rw[h1,h2,h3,I,J,M,U,t3,t4,if_pos rfl,if_neg V];rfl
theorem wX(E:Bool)(a b:Dig):GU FD E (C9 a) (C9 b)=some (.bool (decide (a=b) != E)):=yK E a b
theorem Yea(o:Opn):(E5 o).all D.isCell=true:=by
 rw[Ka,ES];simp[D.isCell,IF,Ev]
section
variable (x:Mv) (j q:D) (r:List (Nat×Nat×D))
end
def Lr(n:Int)(own:Int×Dig):Cse:=⟨⟨1,0,0,0,0⟩,0,1,1,1450,n,0,own,(0,Dt),F6,-1,0,-1,[]⟩
theorem YCi{own:Int×Dig}(h:0≤own.1∧own.1≤65536):(EE n→F5 0 1 n own 10=0∧KT ⟨1,0,0,0,0⟩ 0 1 n own 10=Lr n own)∧(¬ EE n→F5 0 1 n own 10=1):=by
 refine⟨fun ha=>Ym5 ⟨by omega,by omega,by omega,by omega,by omega,ha.1,ha.2,by omega,by omega⟩ h,fun ha=>(Yeb (k:=bO) ?_).1⟩;unfold EE at ha; omega
def RT(seed:UInt8)(i:Nat):Dig:=⟨seed::UInt8.ofNat i::7::CQ 29 0,by simp⟩
def NB(L:List Dig)(k:Int)(seed:UInt8)(i:Nat):Dig:=if i<L.length∧(i:Int)<k then L.getD i default else RT seed i
def Hs(L:List Dig)(k:Int)(seed:UInt8)(n:Nat):List Dig:=(List.range n).map (NB L k seed)
theorem Yh2(L:List Dig)(k:Int)(E:UInt8)(n:Nat):Hs L k E (n+1)=Hs L k E n++[NB L k E n]:=by
 simp[Hs,List.range_succ]
theorem pS(L:List Dig)(k:Int)(E:UInt8)(n:Nat):(Hs L k E n).length=n:=by simp[Hs]
theorem pW(E b:UInt8):DL (C8 Dt) [(0,1,Dn E),(1,1,Dn b),(2,1,.int .u8 7)]=some (C8 ⟨E::b::7::CQ 29 0,by simp⟩):=by
 have I:C8 Dt=(CQ 32 (0:UInt8)).map Dn:=rfl;have J:D.int .u8 7=Dn 7:=rfl;rw[I,J,MF Dn (fun _=>rfl) _ _ _ _ (by simp),MF Dn (fun _=>rfl) _ _ _ _ (by simp),MF Dn (fun _=>rfl) _ _ _ _ (by simp),NW];rfl
noncomputable def YS:List D→Option D:=Dl (α:=List Dig×Int×UInt8×Int) (fun a=>[.slc (nz 32 (a.1.map C9)) (a.1.map C9) false,.int .i64 a.2.1,Dn a.2.2.1,.int .i64 a.2.2.2]) (fun a=>0≤a.2.2.2∧a.2.2.2≤4294967000∧a.1.length≤4294967296) (fun a=>.slc (nz 32 ((Hs a.1 a.2.1 a.2.2.1 a.2.2.2.toNat).map C9)) ((Hs a.1 a.2.1 a.2.2.1 a.2.2.2.toNat).map C9) false)
theorem yPb(l:List Dig)(k:Int)(s:UInt8)(n:Int)(h:0≤n∧n≤4294967000∧l.length≤4294967296):YS [.slc (nz 32 (l.map C9)) (l.map C9) false,.int .i64 k,Dn s,.int .i64 n]=some (.slc (nz 32 ((Hs l k s n.toNat).map C9)) ((Hs l k s n.toNat).map C9) false):=
 D5 (fun⟨a0,a1,E,I⟩ ⟨b0,b1,J,M⟩ h=>by simp only[Aa,D.slc.injEq,D.int.injEq,Kp,pL,true_and,and_true]at h; simp[h]) (l,k,s,n) h
set_option maxHeartbeats 4000000 in
set_option maxRecDepth 20000 in
theorem Ya5(l:List Dig)(k:Int)(s:UInt8)(n:Int)(h:0≤n∧n≤4294967000∧l.length≤4294967296):@wW GG (tb [] []) aL.code (Dc [.slc (nz 32 (l.map C9)) (l.map C9) false,.int .i64 k,Dn s,.int .i64 n]) [] ⟨Dp aL.res (.slc (nz 32 ((Hs l k s n.toNat).map C9)) ((Hs l k s n.toNat).map C9) false)⟩:=by
 obtain⟨I,J,M⟩:=h;obtain⟨m,rfl⟩:=A4 I;unfold aL;simp (disch:=first|omega|decide) only[push_cast,↓reduceIte,Yep 32 0]
 refine FQ (fun i:Nat=>[(0,.slc (nz 32 (l.map C9)) (l.map C9) false),(1,.int .i64 k),(2,Dn s),(3,.int .i64 (m:Int)),(9,D4 32 0 ((Hs l k s i).map C9)),(10,.int .i64 (i:Int))])
  (fun i=>Dz 32 ((Hs l k s i).map C9)) (fun i=>i≤m) (fun i=>m - i) 0 (by simp only[push_cast,↓reduceIte,CI,↓CL] <;> rfl) (by omega) ?_
 intro i hi;unfold pg;simp (disch:=first|omega|decide) only[push_cast,↓reduceIte,CI];refine EU (fun g1=>?_) (fun g1=>?_)
 ·have hl:=pS l k s i;have e:=Yh2 l k s i
  by_cases g2:(i:Int)<(l.length:Int)
  ·by_cases E:(i:Int)<k
   ·rw[show NB l k s i=l.getD i default from if_pos ⟨by omega,E⟩]at e;simp (disch:=first|omega|decide) only[push_cast,↓reduceIte,CI,g2,E,DK,Kj];refine EV (i+1) (by show i+1≤m; omega) (by show m - (i+1)<m - i; omega) ?_;rw[e];simp only[push_cast,Bh] <;> rfl
   ·rw[show NB l k s i=RT s i from if_neg (fun q=>E q.2)]at e;simp (disch:=first|omega|decide) only[push_cast,↓reduceIte,CI,g2,E,DK,My,pW];refine EV (i+1) (by show i+1≤m; omega) (by show m - (i+1)<m - i; omega) ?_;rw[e];simp only[push_cast,Bh] <;> rfl
  ·rw[show NB l k s i=RT s i from if_neg (fun q=>by omega)]at e;simp (disch:=first|omega|decide) only[push_cast,↓reduceIte,CI,g2,DK,My,pW];refine EV (i+1) (by show i+1≤m; omega) (by show m - (i+1)<m - i; omega) ?_;rw[e];simp only[push_cast,Bh] <;> rfl
 ·obtain rfl:i=m:=by omega
  simp (disch:=first|omega|decide) only[push_cast,↓reduceIte,CI]
theorem Yi5:Contract Tryz.prog GG 21 YS:=
 Ed ynl (DI all_nil all_nil) (fun a h=>Ya5 a.1 a.2.1 a.2.2.1 a.2.2.2 h)
theorem YBd(x:Mv)(sz:Nat)(j q:D)(o:Opn):DR (some ⟨false,sz,EA x j q,false⟩) 38 100 (Ee o)=some ⟨false,sz,EA {x with op:=o} (Ev o.top) q,false⟩:=Lb (l:=GV x j q) (X:=Hq o (Ev o.top)) rfl rfl (NP x j q) rfl (by rw[Vy]; rfl) (by rw[Vy,Ka]; exact UG ..) (by rw[Vy]; exact Yea o)
theorem rR(x:Mv)(sz:Nat)(j q:D)(p:List Dig):DR (some ⟨false,sz,EA x j q,false⟩) 1 138 (FX p)=some ⟨false,sz,EA {x with path:=p} j (FX p),false⟩:=Lb (l:=GV x j q) (X:=[.c (FX p)]) rfl rfl (NP x j q) rfl rfl rfl rfl
theorem YBj(x y:Mv)(sz:Nat)(t q t' E:D)(I:t'.isCell=true)(J:E.isCell=true):DR (some ⟨false,sz,EA x t q,false⟩) 144 0 (.agg (EA y t' E))=some ⟨false,sz,EA y t' E,false⟩:=Lx sz _ _ 144 (UE _ _ _) (UE _ _ _) (jt y I J)
theorem Yw1(st:St)(m:Mv){t q t' E:D}(J:DC st t=some t')(M:DC st q=some E):DV st (.agg (EA m t q))=some (.agg (EA m t' E)):=by
 have I:∀ t q,EA m t q=Dg [.c (.int .i64 m.kd),.c (.int .i64 m.pt),.c (.int .i64 m.am),.c (.int .i64 m.cm.1),.g m.cm.2,.g m.lf,.g m.rt,.c (.int .i64 m.op.pc),.c (.int .i64 m.op.fuel),.c (.int .i64 m.op.status),.c (.int .i64 m.op.clause)]++(t::(Dg [.c (.int .i64 m.op.depth),.g m.op.rest]++(q::He m.key))):=fun t q=>by
  simp[EA,GV,Hq,Dg,Sg.cs,mG]
 have s1:(Dg [.c (.int .i64 m.kd),.c (.int .i64 m.pt),.c (.int .i64 m.am),.c (.int .i64 m.cm.1),.g m.cm.2,.g m.lf,.g m.rt,.c (.int .i64 m.op.pc),.c (.int .i64 m.op.fuel),.c (.int .i64 m.op.status),.c (.int .i64 m.op.clause)]).all Ep=true:=by simp[Dg,Sg.cs,Ep,Le]
 have s2:(Dg [.c (.int .i64 m.op.depth),.g m.op.rest]).all Ep=true:=by simp[Dg,Sg.cs,Ep,Le]
 have U:(He m.key).all Ep=true:=by simp[He,Ep]
 have i3:D3 st (He m.key)=some (He m.key):=by
  have:=OT st [] U;simpa[D3]using this
 rw[I,I];simp only[DV,OT st _ s1,D3,OT st _ s2,i3,J,M];rfl
def Hx(d:Der)(l:List Dig)(x:Cse)(p:Int):Mv:=
 let i:=(F0 x p).1
 {Gt with kd:=3,pt:=p,op:=if(ER d.code d.env i).2=0 then Fp (ER d.code d.env i).1 3 else Gt.op,path:=if I8 l i=0 then IC l i else []}
theorem PK(d:Der)(l:List Dig)(x:Cse)(p:Int):Hx d l x p={Gt with kd:=3,pt:=p,op:=if(ER d.code d.env (F0 x p).1).2=0 then Fp (ER d.code d.env (F0 x p).1).1 3 else Gt.op,path:=if I8 l (F0 x p).1=0 then IC l (F0 x p).1 else []}:=rfl
noncomputable def YT:List D→Option D:=Dl (α:=Der×List Dig×Cse×Int) (fun a=>[Fk a.1,.slc (nz 32 (a.2.1.map C9)) (a.2.1.map C9) false,Dv a.2.2.1,.int .i64 a.2.2.2]) (fun a=>a.1.code.length≤9223372036854775807∧Ew a.1.env∧(ER a.1.code a.1.env (F0 a.2.2.1 a.2.2.2).1).1.stack.length≤4294967296) (fun a=>Gn (Hx a.1 a.2.1 a.2.2.1 a.2.2.2))
theorem yO6(d:Der)(l:List Dig)(x:Cse)(p:Int)(h:d.code.length≤9223372036854775807∧Ew d.env∧(ER d.code d.env (F0 x p).1).1.stack.length≤4294967296):YT [Fk d,.slc (nz 32 (l.map C9)) (l.map C9) false,Dv x,.int .i64 p]=some (Gn (Hx d l x p)):=
 D5 (fun⟨a0,a1,E,I⟩ ⟨b0,b1,J,M⟩ h=>by simp only[Aa,D.slc.injEq,D.int.injEq,Kp,true_and,and_true,qJ,NV]at h; simp[h]) (d,l,x,p) h
set_option maxHeartbeats 4000000 in
set_option maxRecDepth 20000 in
theorem Ya3(d:Der)(l:List Dig)(x:Cse)(p:Int)(h:d.code.length≤9223372036854775807∧Ew d.env∧(ER d.code d.env (F0 x p).1).1.stack.length≤4294967296):@wW GG (tb [(34,dM),(39,jy),(42,dH),(38,jx)] []) aM.code (Dc [Fk d,.slc (nz 32 (l.map C9)) (l.map C9) false,Dv x,.int .i64 p]) [] ⟨Dp aM.res (Gn (Hx d l x p))⟩:=by
 obtain⟨hc,hv,J⟩:=h;have V:=uu x p;rw[PK];obtain⟨i,hi⟩:∃ i,(F0 x p).1=i:=⟨_,rfl⟩;rw[hi]at V J;rw[hi];have cs:=Yaf d i ⟨hc,hv⟩;obtain⟨s,hs⟩:∃ s,(ER d.code d.env i).1=s:=⟨_,rfl⟩;obtain⟨e,he⟩:∃ e,(ER d.code d.env i).2=e:=⟨_,rfl⟩;rw[hs,he]at cs;rw[hs]at J;rw[hs,he];have vo:=uI s 3 J;have Y:=Yak l i
 have e1:DL EB [(0,1,.int .i64 3),(1,1,.int .i64 p)]=some (EA {Gt with kd:=3,pt:=p} (.slc 0 [] true) (.slc 0 [] true)):=by
  rw[Ow,Rn,SY,Rx]
 have bz:DG (.agg EB)=some (EA Gt (.slc 0 [] true) (.slc 0 [] true)):=by rw[Ow]; exact yG _
 generalize IC l i=P at*;generalize I8 l i=f at*;have so:DR (some ⟨false,1,EA {Gt with kd:=3,pt:=p} (.slc 0 [] true) (.slc 0 [] true),false⟩) 38 100 (Ee (Fp s 3))=some ⟨false,1,EA {Gt with kd:=3,pt:=p,op:=Fp s 3} (Ev (Fp s 3).top) (.slc 0 [] true),false⟩:=YBd ..;have a0:∀ o:Opn,∀ t,DR (some ⟨false,1,EA {Gt with kd:=3,pt:=p,op:=o} t (.slc 0 [] true),false⟩) 1 138 (.slc (nz 32 (P.map C9)) (P.map C9) false)=some ⟨false,1,EA {Gt with kd:=3,pt:=p,op:=o,path:=P} t (FX P),false⟩:=fun o t=>rR ..;have a1:DR (some ⟨false,1,EA {Gt with kd:=3,pt:=p} (.slc 0 [] true) (.slc 0 [] true),false⟩) 1 138 (.slc (nz 32 (P.map C9)) (P.map C9) false)=some ⟨false,1,EA {Gt with kd:=3,pt:=p,path:=P} (.slc 0 [] true) (FX P),false⟩:=rR ..;have sm:∀ (X:Mv) (t q:D),t.isCell=true→q.isCell=true→DR (some ⟨false,1,EA Gt (.slc 0 [] true) (.slc 0 [] true),false⟩) 144 0 (.agg (EA X t q))=some ⟨false,1,EA X t q,false⟩:=fun X t q E J=>YBj _ _ _ _ _ _ _ E J;have im:∀ (st:St) (X:Mv) (t q t' q':D),DC st t=some t'→DC st q=some q'→DV st (.agg (EA X t q))=some (.agg (EA X t' q')):=fun st X t q t' q' E J=>Yw1 st X E J;unfold aM
 by_cases E:e=0
 ·by_cases I:f=0
  ·rw[if_pos E,if_pos I];have M:=fun st=>im st {Gt with kd:=3,pt:=p,op:=Fp s 3,path:=P} (Ev (Fp s 3).top) (FX P) (Ev (Fp s 3).top) (FX P) (by simp[DC,Ev,Ik]) (by simp[DC,Ik]);have U:=sm {Gt with kd:=3,pt:=p,op:=Fp s 3,path:=P} (Ev (Fp s 3).top) (FX P) rfl rfl;simp (disch:=first|omega|decide) only[push_cast,↓reduceIte,CI,CJ,R5,R8 hv,Sm,Su,E7,Fw,Gj,Fv,Is,V,cs,vo,Y,e1,bz,bJ,so,a0,M,U,H3,J2,IB,Kk,NX,U0,eq_true E,eq_true I,decide_true];rfl
  ·rw[if_pos E,if_neg I];have M:=fun st=>im st {Gt with kd:=3,pt:=p,op:=Fp s 3} (Ev (Fp s 3).top) (.slc 0 [] true) (Ev (Fp s 3).top) (.slc 0 [] false) (by simp[DC,Ev,Ik]) rfl;have U:=sm {Gt with kd:=3,pt:=p,op:=Fp s 3} (Ev (Fp s 3).top) (.slc 0 [] true) rfl rfl;simp (disch:=first|omega|decide) only[push_cast,↓reduceIte,CI,CJ,R5,R8 hv,Sm,Su,E7,Fw,Gj,Fv,Is,V,cs,vo,Y,e1,bz,bJ,so,M,U,H3,J2,IB,Kk,NX,U0,eq_true E,eq_false I,decide_true,decide_false];rfl
 ·by_cases I:f=0
  ·rw[if_neg E,if_pos I];have M:=fun st=>im st {Gt with kd:=3,pt:=p,path:=P} (.slc 0 [] true) (FX P) (.slc 0 [] false) (FX P) rfl (by simp[DC,Ik]);have U:=sm {Gt with kd:=3,pt:=p,path:=P} (.slc 0 [] true) (FX P) rfl rfl;simp (disch:=first|omega|decide) only[push_cast,↓reduceIte,CI,CJ,R5,R8 hv,Sm,Su,E7,Fw,Gj,Fv,Is,V,cs,Y,e1,bz,bJ,a1,M,U,H3,J2,U0,eq_false E,eq_true I,decide_true,decide_false];rfl
  ·rw[if_neg E,if_neg I];have M:=fun st=>im st {Gt with kd:=3,pt:=p} (.slc 0 [] true) (.slc 0 [] true) (.slc 0 [] false) (.slc 0 [] false) rfl rfl;have U:=sm {Gt with kd:=3,pt:=p} (.slc 0 [] true) (.slc 0 [] true) rfl rfl;simp (disch:=first|omega|decide) only[push_cast,↓reduceIte,CI,CJ,R5,R8 hv,Sm,Su,E7,Fw,Gj,Fv,Is,V,cs,Y,e1,bz,M,U,H3,J2,U0,eq_false E,eq_false I,decide_false];rfl
theorem Yi0:Contract Tryz.prog GG 28 YT:=
 Ed ynk (DI (all_cons yW (all_cons Yyt (all_cons yS (all_cons Yyz all_nil)))) all_nil) (fun a h=>Ya3 a.1 a.2.1 a.2.2.1 a.2.2.2 h)
theorem aR(L:List Dig)(i:Nat)(h:i<L.length):EJ L (i:Int) Dq=L.getD i default:=by
 unfold EJ; rw[if_pos (by omega),AO]
theorem gv(L:List Dig)(i:Int)(h:(L.length:Int)≤i):EJ L i Dq=Dq:=by
 unfold EJ; rw[if_neg (by omega)]
variable {p:Int}{X:Cse}
theorem Ymr{j:Int}(E:X.ph=3)(hb:GN X.c0 X.c1=0)(I:J9 X.b=j)(hj:1≤j)(J:p=0∨p=1):F0 X p=(j - 1,true):=by
 have M:Gm X p=j:=by
  unfold Gm;omega
 unfold F0;grind
variable {L:List Dig}
set_option maxRecDepth 20000 in
theorem Yev(V:(E9 c).2=0)(Y:L=(Hz c v).map (DT c v))(a6:∀ x∈L,x≠Dq)(hn:L.length≤64)(hp:p=0∨p=1)(ac:X.ph=3)(hb:GN X.c0 X.c1=0){j:Int}(hj:1≤j)(hd:J9 X.b=j)(E:Hw X p=Eo L)(d:Der)(ad:d.code=c)(ae:d.env=v) :
  Ob c v X (Hx d L X p)=(Fz X (Mw (Ip X.b,Ii X.b) (EJ L j Dq)),0):=by
 have hq:=Ymr ac hb hd hj hp;obtain⟨Dm,tl,hD,ht,hr,bc,hg⟩:=P1 (v:=v) V;have I:=kC (v:=v) V;have ah:(Hz c v).length=L.length:=by rw[Y]; simp
 obtain⟨i,hi⟩:∃ i:Nat,j - 1=(i:Int):=⟨(j - 1).toNat,by omega⟩;have bd:1≤L.length:=by rw[← ah,ht]; simp
 have r1:(Eo L).1=(L.length:Int):=by rw[Q1 L (by omega)]
 have hM:∀ b:Dig,∀ o:Opn,Gu c v b o=(EJ L j Dq,0)→((if(Gu c v b o).2=0 then(Fz X (Hy (Ip X.b,Ii X.b) (Gu c v b o)).1,(0:Int))else(X,(Gu c v b o).2))=(Fz X (Mw (Ip X.b,Ii X.b) (EJ L j Dq)),0)):=by
  intro b o h;rw[h,if_pos rfl];rfl
 have a0:I8 L (i:Int)=0∨(I8 L (i:Int)≠0∧(2:Int) ^ (DN L.length).toNat≤(i:Int)):=by
  unfold I8;omega
 have ab:∀ x:Dig,D0 L 0 (i:Int)=x→(2:Int) ^ (DN (Hw X p).1).toNat≤(i:Int)∨Iv (Hw X p) (i:Int) x (Hx d L X p).path=true:=by
  intro x hx;rw[E,r1];rcases a0 with h | ⟨_,h⟩
  ·refine .inr ?_;rw[PK,hq,hi]
   show Iv (Eo L) (i:Int) x (if I8 L (i:Int)=0 then IC L (i:Int)else [])=true
   rw[if_pos h,← hx];refine nJ L (i:Int) (by omega) (by omega) ?_;unfold I8 at h;omega
  ·exact .inl h
 unfold Ob;rw[show(Hx d L X p).pt=p from rfl,hq,if_pos rfl,hb,if_neg (by decide)];dsimp only;rw[hi]
 by_cases a1:i<L.length
 ·obtain⟨s,M⟩:∃ s,(Hz c v)[i]?=some s:=⟨_,Ah (by omega)⟩
  have be:ER d.code d.env (i:Int)=(s,0):=by
   rw[ad,ae]; unfold ER; rw[if_pos V,if_neg (by omega),AO,M]
  have bf:(Hx d L X p).op=Fp s 3:=by
   rw[PK,hq,hi];grind
  have a2:=I s (Aj M);have bg:=iU (c:=c) (v:=v) (Rz s 3) a2;have a3:L.getD i default=DT c v s:=by rw[Y,Af,AD,M]; rfl
  have a4:¬ DT c v s=Dq:=by
   grind
  have a5:=yYm (c:=c) (v:=v) (t:=Hz c v) (i:=i) (s:=s) (ht ▸ hr) I M a4 (n:=3) (by decide)
  have J:(((Hz c v).map (DT c v))[i+1]?).getD Dq=EJ L j Dq:=by
   rw[← Y,show j=((i+1:Nat):Int) by omega]
   by_cases h:i+1<L.length
   ·rw[aR L (i+1) h,Af,Ah h]; rfl
   ·rw[gv L _ (by omega),Bd (by omega)]; rfl
  rw[J]at a5;have U:D0 L 0 (i:Int)=DT c v s:=by rw[← a3]; exact aR L i a1
  grind
 ·have U:D0 L 0 (i:Int)=Dq:=gv L _ (by omega);have J:EJ L j Dq=Dq:=gv L _ (by omega);rw[if_pos (show(Hw X p).1≤(i:Int) by rw[E,r1]; omega),if_pos (ab _ U)];exact hM _ _ (by rw[J]; exact if_pos rfl)
def Hg(n m:Int)(A B:List Dig):Cse:=⟨⟨1,0,0,0,0⟩,0,1,2,1450,n,m,Eo A,Eo B,F6,-1,0,-1,[]⟩
def GI(c:List Ins)(v:Int×List Int)(n m:Int)(A B:List Dig)(N k:Nat):Cse:=if k<N then GH (Hg n m A B) A B N k else(HX c v (GH (Hg n m A B) A B N N) 10).1
theorem Ycg(c:List Ins)(v:Int×List Int)(hk:k<N)(E:N≤16):HX c v (GH X A B N k) now=(GH X A B N k,0):=by
 have h:=iz A B (N:=N) (k:=k) (by omega) E;rw[decide_eq_false (by omega)]at h;unfold HX;rw[if_neg (by rw[show(GH X A B N k).b=D7 A B N k from rfl,h]; decide)]
theorem sk(v:Int×List Int)(E:N≤16)(I:(E9 c).2=0)(hc:c.length≠0):(HX c v (GH X A B N N) now).2=0∧(HX c v (GH X A B N N) now).1=if idxS A B N N=0 then Fz (GH X A B N N) (Mw (EJ A 0 Dq,EJ B 0 Dq) (Ha c v).1)else K2 (GH X A B N N) now:=by
 have h:=iz A B (N:=N) (k:=N) (Ax N) E;rw[decide_eq_true rfl]at h;obtain⟨d1,d2,d3⟩:=zg A B E;have hf:(Ha c v).2=0:=by unfold Ha; rw[if_neg hc,if_neg (by rw[I]; decide)]
 unfold HX;rw[if_pos (show Kf (GH X A B N N).b=true from h),show(GH X A B N N).b=D7 A B N N from rfl,d1,d2,d3]
 by_cases hj:idxS A B N N=0
 ·rw[if_pos hj,if_pos hj,if_pos hf,hj];refine⟨rfl,?_⟩
  show Fz (GH X A B N N) (Hy (EJ A 0 Dq,EJ B 0 Dq) (Ha c v)).1=_
  unfold Hy;grind
 ·grind
def Hd(p:Int)(l r:Dig):Mv:={Gt with kd:=2,pt:=p,lf:=l,rt:=r}
theorem W8(E:(A.length:Int)≤65536)(I:(B.length:Int)≤65536):∃ N:Nat,JL A B=(N:Int)∧N≤16:=by
 have h:=uW A B E I;exact⟨(JL A B).toNat,by omega,by omega⟩
variable {m:Int}
theorem Yzn(v:Int×List Int)(M:(A.length:Int)≤65536)(U:(B.length:Int)≤65536)(V:JL A B=(N:Int))(h1:1≤N)(E:N≤16)(Y:D0 A N 0≠D0 B N 0)(hm:EE m) :
  FP c v (Lr n (Eo A)) (Gz m (Eo B)) 10=0∧F1 c v (Lr n (Eo A)) (Gz m (Eo B)) 10=GI c v n m A B N 0:=by
 obtain⟨b1,I⟩:=fG A B M U;rw[V,AO,if_neg Y]at b1 I;have hs:Fa A B N N 0=D7 A B N 0:=by unfold D7 idxS; rw[show((N:Int) - ((0:Nat):Int))=(N:Int) by omega]
 rw[hs]at b1;have hr:GI c v n m A B N 0=GH (Hg n m A B) A B N 0:=if_pos (by omega);rw[hr];refine L6 (y:=GH (Hg n m A B) A B N 0) (e:=0) (.inl rfl) ⟨by simp[Gz],by decide,by decide,.inr rfl⟩ (by show(10:Int)≤1450; omega) ?_;have J:=Ycg c v (X:=Hg n m A B) (A:=A) (B:=B) (N:=N) (k:=0) (now:=10) (by omega) E;rw[← J];simp[GJ,Gz,MI,Lr,hm,b1,I,GH,Hg]
theorem Ycv(hk:k<N)(E:N≤16)(I:(A.length:Int)≤65536) :
  FP c v (GI c v n m A B N k) (Hd 0 (EP A (D7 A B N k)) (EO A (D7 A B N k))) 10=0∧F1 c v (GI c v n m A B N k) (Hd 0 (EP A (D7 A B N k)) (EO A (D7 A B N k))) 10={Hg n m A B with b:=EC (D7 A B N k) 0 (EP A (D7 A B N k)) (EO A (D7 A B N k))}:=by
 rw[show GI c v n m A B N k=GH (Hg n m A B) A B N k from if_pos hk];refine L6 (y:={Hg n m A B with b:=EC (D7 A B N k) 0 (EP A (D7 A B N k)) (EO A (D7 A B N k))}) (e:=0) (.inr (.inl rfl)) ⟨by simp[Hd],by decide,by decide,.inl rfl⟩ (by show(10:Int)≤1450; omega) ?_;rw[← Ypj (c:=c) (v:=v) (now:=10) (x:=Hg n m A B) hk E I rfl (Hd 0 (EP A (D7 A B N k)) (EO A (D7 A B N k))) ⟨rfl,rfl,rfl⟩];rfl
theorem Ycu(hk:k<N)(E:N≤16)(J:(A.length:Int)≤65536)(M:(B.length:Int)≤65536)(U:(E9 c).2=0)(hc:c.length≠0) :
  FP c v {Hg n m A B with b:=EC (D7 A B N k) 0 (EP A (D7 A B N k)) (EO A (D7 A B N k))} (Hd 1 (EP B (D7 A B N k)) (EO B (D7 A B N k))) 10=0∧F1 c v {Hg n m A B with b:=EC (D7 A B N k) 0 (EP A (D7 A B N k)) (EO A (D7 A B N k))} (Hd 1 (EP B (D7 A B N k)) (EO B (D7 A B N k))) 10=GI c v n m A B N (k+1):=by
 have I:=Ypi (c:=c) (v:=v) (now:=10) (x:=Hg n m A B) hk E J M rfl (Hd 1 (EP B (D7 A B N k)) (EO B (D7 A B N k))) ⟨rfl,rfl,rfl⟩;have V:({GH (Hg n m A B) A B N (k+1)with dl:=10+1440}:Cse)=GH (Hg n m A B) A B N (k+1):=rfl;rw[V]at I
 have Y:HX c v (GH (Hg n m A B) A B N (k+1)) 10=(GI c v n m A B N (k+1),0):=by
  by_cases h:k+1<N
  ·rw[Ycg c v h E,show GI c v n m A B N (k+1)=GH (Hg n m A B) A B N (k+1)from if_pos h]
  ·obtain rfl:N=k+1:=by omega
   rw[show GI c v n m A B (k+1) (k+1)=(HX c v (GH (Hg n m A B) A B (k+1) (k+1)) 10).1 from if_neg h];exact Prod.ext rfl (sk v E U hc).1
 rw[Y]at I;refine L6 (y:=GI c v n m A B N (k+1)) (e:=0) (.inr (.inl rfl)) ⟨by simp[Hd],by decide,by decide,.inr rfl⟩ (by show(10:Int)≤1450; omega) ?_;rw[← I];rfl
def G0(p:Int)(L O:List Dig):List Dig:=if p=0 then L else O
def G1(p:Int)(L O:List Dig):List Dig:=if p=0 then O else L
theorem Yfy{p:Int}(E:p=0∨p=1){L O:List Dig}{j:Int}(h:EJ (G0 p L O) j Dq≠EJ (G1 p L O) j Dq):Mw (EJ (G0 p L O) j Dq,EJ (G1 p L O) j Dq) (EJ L j Dq)=p:=by
 unfold Mw;rcases E with rfl | rfl
 ·exact if_pos rfl
 ·rw[if_neg (show ¬ EJ (G0 1 L O) j Dq=EJ L j Dq from h),if_pos (show EJ (G1 1 L O) j Dq=EJ L j Dq from rfl)]
theorem rH(X:Cse)(E:p=0∨p=1):(Fz X p).ph=4∧(Fz X p).wn=p∧(Fz X p).am=N6 X p:=by
 unfold Fz;rw[if_neg (by omega)];exact⟨rfl,rfl,rfl⟩
variable {O:List Dig}
theorem Yx8(M:(E9 c).2=0)(hc:c.length≠0)(hL:L=(Hz c v).map (DT c v))(ad:∀ x∈L,x≠Dq)(hn:L.length≤64)(hO:O.length≤64)(I:p=0∨p=1)(hN:JL (G0 p L O) (G1 p L O)=(N:Int))(V:N≤16)(hd:D0 (G0 p L O) N 0≠D0 (G1 p L O) N 0)(d:Der)(a6:d.code=c)(a7:d.env=v) :
  ((GI c v n m (G0 p L O) (G1 p L O) N N).ph=4∧(GI c v n m (G0 p L O) (G1 p L O) N N).wn=p∧(GI c v n m (G0 p L O) (G1 p L O) N N).am=(if p=0 then n else m))∨
  ((GI c v n m (G0 p L O) (G1 p L O) N N).ph=3∧FP c v (GI c v n m (G0 p L O) (G1 p L O) N N) (Hx d L (GI c v n m (G0 p L O) (G1 p L O) N N) p) 10=0∧
   (F1 c v (GI c v n m (G0 p L O) (G1 p L O) N N) (Hx d L (GI c v n m (G0 p L O) (G1 p L O) N N) p) 10).ph=4∧
   (F1 c v (GI c v n m (G0 p L O) (G1 p L O) N N) (Hx d L (GI c v n m (G0 p L O) (G1 p L O) N N) p) 10).wn=p∧
   (F1 c v (GI c v n m (G0 p L O) (G1 p L O) N N) (Hx d L (GI c v n m (G0 p L O) (G1 p L O) N N) p) 10).am=(if p=0 then n else m)):=by
 obtain⟨A,hA⟩:∃ A,G0 p L O=A:=⟨_,rfl⟩;obtain⟨B,hB⟩:∃ B,G1 p L O=B:=⟨_,rfl⟩;have lA:(A.length:Int)≤65536:=by rw[← hA]; unfold G0; split <;> omega
 have lB:(B.length:Int)≤65536:=by rw[← hB]; unfold G1; split <;> omega
 have hj:=@Yfy p I L O (idxS A B N N);rw[hA,hB]at hN hd hj ⊢;have Y:=zv hd N (Ax N);rw[BG]at Y;have hj:=hj Y;obtain⟨Dm,tl,hD,ht,hr,bh,hg⟩:=P1 (v:=v) M;have a9:=P9 A B N N (by omega);have e1:=sk v (X:=Hg n m A B) (A:=A) (B:=B) (N:=N) (now:=10) V M hc;have hR:GI c v n m A B N N=(HX c v (GH (Hg n m A B) A B N N) 10).1:=if_neg (Nat.lt_irrefl N);rw[hR,e1.2];obtain⟨j,E⟩:∃ j,idxS A B N N=j:=⟨_,rfl⟩;rw[E]at hj a9 ⊢
 have aa:∀ X:Cse,X.a0=n→X.a1=m→N6 X p=if p=0 then n else m:=by
  intro X J h1; unfold N6; rw[J,h1]
 by_cases J:j=0
 ·left
  rw[if_pos J]
  have hf:(Ha c v).1=EJ L 0 Dq:=by
   have ba:0<L.length:=by rw[hL,ht]; simp
   unfold Ha;rw[if_neg hc,if_neg (by rw[M]; decide)]
   show DT c v (Ge (c.length+1))=_
   have:=aR L 0 ba;rw[show((0:Nat):Int)=0 from rfl]at this;rw[this,hL,ht]; rfl
  rw[J]at hj;rw[hf,hj];obtain⟨r1,r2,r3⟩:=rH (GH (Hg n m A B) A B N N) I;exact⟨r1,r2,by rw[r3]; exact aa _ rfl rfl⟩
 ·right
  rw[if_neg J];obtain⟨b1,b2⟩:=fG A B lA lB;rw[hN,AO,if_neg hd]at b2;obtain⟨d1,d2,d3⟩:=zg A B V
  have a4:Hw (K2 (GH (Hg n m A B) A B N N) 10) p=Eo L:=by
   unfold Hw;rcases I with rfl | rfl
   ·rw[if_pos rfl]; show Eo A=_; rw[← hA]; rfl
   ·rw[if_neg (by decide)]; show Eo B=_; rw[← hB]; rfl
  have ab:=Yev M hL ad hn (X:=K2 (GH (Hg n m A B) A B N N) 10) I rfl b2 (j:=j) (by omega) (by rw[← E]; exact d1) a4 d a6 a7;rw[show Ip (K2 (GH (Hg n m A B) A B N N) 10).b=EJ A j Dq by rw[← E]; exact d2,show Ii (K2 (GH (Hg n m A B) A B N N) 10).b=EJ B j Dq by rw[← E]; exact d3,hj]at ab
  obtain⟨p1,U⟩:=L6 (c:=c) (v:=v) (x:=K2 (GH (Hg n m A B) A B N N) 10) (m:=Hx d L (K2 (GH (Hg n m A B) A B N N) 10) p) (now:=10) (.inr (.inr rfl)) ⟨⟨by show(1:Int)≤3; omega,by show(3:Int)≤7; omega⟩,by decide,by decide,I⟩ (by show(10:Int)≤1450; omega) (by
   rw[← ab,PK]; rfl)
  rw[if_pos rfl]at U;obtain⟨r1,r2,r3⟩:=rH (K2 (GH (Hg n m A B) A B N N) 10) I;exact⟨rfl,p1,by rw[U]; exact r1,by rw[U]; exact r2,by rw[U,r3]; exact aa _ rfl rfl⟩
theorem Yjw(E:(A.length:Int)≤65536)(I:(B.length:Int)≤65536)(J:JL A B=(N:Int)):GN (Eo A) (Eo B)=if D0 A N 0=D0 B N 0 then 380 else 0:=by
 have h:=(fG A B E I).2;rwa [J,AO]at h
def LQ(n m:Int)(A B:List Dig):Cse:=⟨⟨1,0,0,0,0⟩,0,1,3,1450,n,m,Eo A,Eo B,F6,-1,0,-1,[]⟩
theorem YF5(v:Int×List Int)(hb:GN (Eo A) (Eo B)=380)(hm:EE m)(hc:c.length≠0) :
  FP c v (Lr n (Eo A)) (Gz m (Eo B)) 10=0∧F1 c v (Lr n (Eo A)) (Gz m (Eo B)) 10=if n=m then Jl {Lr n (Eo A)with a1:=m,c1:=Eo B} 1 m else LQ n m A B:=by
 have E:¬ c=[]:=fun q=>hc (by rw[q]; rfl)
 by_cases h:n=m
 ·rw[if_pos h];refine L6 (y:=Jl {Lr n (Eo A)with a1:=m,c1:=Eo B} 1 m) (e:=0) (.inl rfl) ⟨by simp[Gz],by decide,by decide,.inr rfl⟩ (by show(10:Int)≤1450; omega) ?_;simp[GJ,Gz,MI,Lr,hm,hb,h,Fz,N6]
 ·rw[if_neg h];refine L6 (y:=LQ n m A B) (e:=0) (.inl rfl) ⟨by simp[Gz],by decide,by decide,.inr rfl⟩ (by show(10:Int)≤1450; omega) ?_;simp[GJ,Gz,MI,Lr,hm,hb,h,E,K2,LQ]
theorem YEv(he:(E9 c).2=0)(hL:L=(Hz c v).map (DT c v))(hn:L.length≤64)(Y:p=0∨p=1)(hb:GN (Eo (G0 p L O)) (Eo (G1 p L O))=380)(a3:n≠m)(J:(if p=0 then n else m)=(D2 (Ij (Hz c v))).1)(d:Der)(a4:d.code=c)(a5:d.env=v) :
  FP c v (LQ n m (G0 p L O) (G1 p L O)) (Hx d L (LQ n m (G0 p L O) (G1 p L O)) p) 10=0∧
   (F1 c v (LQ n m (G0 p L O) (G1 p L O)) (Hx d L (LQ n m (G0 p L O) (G1 p L O)) p) 10).ph=4∧
   (F1 c v (LQ n m (G0 p L O) (G1 p L O)) (Hx d L (LQ n m (G0 p L O) (G1 p L O)) p) 10).wn=p∧
   (F1 c v (LQ n m (G0 p L O) (G1 p L O)) (Hx d L (LQ n m (G0 p L O) (G1 p L O)) p) 10).am=(D2 (Ij (Hz c v))).1:=by
 obtain⟨X,M⟩:∃ X,LQ n m (G0 p L O) (G1 p L O)=X:=⟨_,rfl⟩;have x1:X.ph=3:=by rw[← M]; rfl
 have x2:GN X.c0 X.c1=380:=by rw[← M]; exact hb
 have x3:Hw X p=Eo L:=by
  rw[← M]; unfold Hw;rcases Y with rfl | rfl
  ·rw[if_pos rfl]; rfl
  ·rw[if_neg (by decide)]; rfl
 have x4:X.a0=n∧X.a1=m∧X.dl=1450:=by rw[← M]; exact⟨rfl,rfl,rfl⟩
 rw[M];obtain⟨Dm,tl,hD,ht,hr,b5,hg⟩:=P1 (v:=v) he;have af:=kC (v:=v) he;have ah:Hz c v≠[]:=by rw[ht]; simp
 obtain⟨s,hs⟩:∃ s,Ij (Hz c v)=s:=⟨_,rfl⟩;rw[hs]at J ⊢;have I:(Hz c v)[(Hz c v).length - 1]?=some s:=by rw[← hs]; exact Yfm ah
 have ba:(Hz c v).length=L.length:=by rw[hL]; simp
 have b6:1≤L.length:=by rw[← ba,ht]; simp
 have r1:(Eo L).1=(L.length:Int):=by rw[Q1 L (by omega)]
 obtain⟨i,hi⟩:∃ i:Nat,(L.length:Int) - 1=(i:Int):=⟨L.length - 1,by omega⟩;have bb:(Hz c v).length - 1=i:=by omega
 rw[bb]at I
 have E:F0 X p=((i:Int),true):=by
  have h1:Gm X p=(L.length:Int):=by unfold Gm; rw[x2,if_pos rfl,x3,r1]
  unfold F0;rw[if_pos ⟨x1,Y⟩,h1,if_neg (by omega),hi]
 have bc:=af s (Aj I);have bd:AmtS s:=ud s (Aj I);have hs0:s.status≠0:=(RunOK.get (ht ▸ hr) I).2 (by omega);have be:L.getD i default=DT c v s:=by rw[hL,Af,AD,I]; rfl
 have bf:D0 L 0 (i:Int)=DT c v s:=by rw[← be]; exact aR L i (by omega)
 have ab:(i:Int)<2 ^ (DN L.length).toNat:=Int.lt_of_lt_of_le (by omega:(i:Int)<(L.length:Int)) (jR (by omega) (by omega));have U:=nJ L (i:Int) (by omega) (by omega) ab;rw[bf]at U
 have V:ER d.code d.env (i:Int)=(s,0):=by
  rw[a4,a5]; unfold ER; rw[if_pos he,if_neg (by omega),AO,I]
 have bg:(Hx d L X p).op=Fp s 3:=by
  rw[PK,E]
  show(if(ER d.code d.env (i:Int)).2=0 then Fp (ER d.code d.env (i:Int)).1 3 else Gt.op)=_
  rw[V,if_pos rfl]
 have bh:(Hx d L X p).path=IC L (i:Int):=by
  rw[PK,E]
  show(if I8 L (i:Int)=0 then IC L (i:Int)else [])=_
  rw[if_pos (by unfold I8; rw[if_neg (by omega),if_pos ⟨by omega,ab⟩])]
 have b1:=iU (c:=c) (v:=v) (Rz s 3) bc;obtain⟨t1,t2,t3⟩:=Yn1 (s:=s) (n:=3) (by decide) bd
 have ho:Ob c v X (Hx d L X p)=(Rp X (D2 s).1,0):=by
  unfold Ob;rw[show(Hx d L X p).pt=p from rfl,E,if_pos rfl,if_pos x2,x3,bg,bh,b1,if_pos U];have V:(Fp s 3).status=s.status:=rfl;rw[V]
  by_cases E:s.status=1
  ·rw[if_pos ⟨hs0,.inr (t1 E)⟩,if_pos E,t2 E]
  ·rw[if_pos ⟨hs0,.inl E⟩,if_neg E,t3 E]
 obtain⟨p1,p2⟩:=L6 (c:=c) (v:=v) (x:=X) (m:=Hx d L X p) (now:=10) (.inr (.inr x1)) ⟨⟨by show(1:Int)≤3; omega,by show(3:Int)≤7; omega⟩,by decide,by decide,Y⟩ (by rw[x4.2.2]; decide) (by
  rw[← ho,PK]; rfl)
 rw[if_pos rfl]at p2;refine⟨p1,by rw[p2]; rfl,?_,by rw[p2]; rfl⟩;rw[p2]
 show KK X (D2 s).1=p
 unfold KK;rw[x4.1,x4.2.1,← J];rcases Y with rfl | rfl
 ·rw[if_pos rfl,if_pos rfl]
 ·rw[if_neg (show ¬ (1:Int)=0 by decide),if_neg a3,if_pos rfl]
section
variable (x:Mv) (j q:D) (r:List (Nat×Nat×D))
theorem Xc(d:Dig):DL (EA x j q) ((36,32,C9 d)::r)=DL (EA {x with lf:=d} j q) r:=ID (l:=GV x j q) (X:=[.g d]) rfl rfl (NP x j q) rfl (by simp[Dg,Sg.cs,D.cells,C9]) (by simp[Dg,Sg.cs,D1]) (by simp[Dg,Sg.cs,IF])
theorem Xb(d:Dig):DL (EA x j q) ((68,32,C9 d)::r)=DL (EA {x with rt:=d} j q) r:=ID (l:=GV x j q) (X:=[.g d]) rfl rfl (NP x j q) rfl (by simp[Dg,Sg.cs,D.cells,C9]) (by simp[Dg,Sg.cs,D1]) (by simp[Dg,Sg.cs,IF])
end
theorem Yg8(p:Int)(l r:Dig):DL EB [(0,1,.int .i64 2),(1,1,.int .i64 p),(36,32,C9 l),(68,32,C9 r)]=some (EA (Hd p l r) (.slc 0 [] true) (.slc 0 [] true)):=by
 rw[Ow,Rn,SY,Xc,Xb,Rx]; rfl
abbrev LG(a b:List Dig):List D:=[FX a,FX b]
theorem xf:DG (.agg [.slc 0 [] true,.slc 0 [] true])=some [.slc 0 [] true,.slc 0 [] true]:=rfl
theorem xT(a b:List Dig):DR (some ⟨false,1,[.slc 0 [] true,.slc 0 [] true],false⟩) 2 0 (.agg (LG a b))=some ⟨false,1,LG a b,false⟩:=rfl
theorem U2(a b:List Dig)(lent:Bool):DA (some ⟨false,1,LG a b,lent⟩) 1 false 1=some (FX b):=rfl
theorem hJ(n:Nat)(σ:List Nat)(a b:List Dig):(LG a b).map (Eu n σ)=LG a b:=Mb n σ (by simp[LG,Ep,Ik])
theorem mC(a b:List Dig):(LG a b).flatMap hk=[]:=MG (by simp[LG,Ep,Ik])
theorem xQ(a b n:Int):DR (some ⟨false,1,[.int .i64 a,.int .i64 b],false⟩) 1 0 (.int .i64 n)=some ⟨false,1,[.int .i64 n,.int .i64 b],false⟩:=rfl
theorem xR(a b n:Int):DR (some ⟨false,1,[.int .i64 a,.int .i64 b],false⟩) 1 1 (.int .i64 n)=some ⟨false,1,[.int .i64 a,.int .i64 n],false⟩:=rfl
theorem xS(a b c d:Int):DR (some ⟨false,1,[.int .i64 a,.int .i64 b],false⟩) 2 0 (.agg [.int .i64 c,.int .i64 d])=some ⟨false,1,[.int .i64 c,.int .i64 d],false⟩:=rfl
theorem yY1(E:(E9 c).2=0)(I:L=(Hz c v).map (DT c v)):2≤L.length:=by
 obtain⟨Dm,J,hD,M,U,aa,hg⟩:=P1 (v:=v) E;obtain⟨ab,ac,ad,_⟩:=M3 E
 have V:(Ge ((c.length:Int)+1)).status=0:=by
  rw[show Ge ((c.length:Int)+1)={FO with fuel:=(c.length:Int)+1} from if_neg (by omega)]; rfl
 have Y:=(RunOK.get (i:=0) (s:=Ge ((c.length:Int)+1)) (by exact U) (by simp)).2;have:¬ (Ge ((c.length:Int)+1)::J).length=1:=fun q=>Y (by omega) V;rw[I,M];simp only[Bc,An]at this ⊢;omega
theorem PZ(n:Nat)(σ:List Nat)(v:Int×List Int):(DY v).map (Eu n σ)=DY v:=Mb n σ (P5 v)
theorem PE(v:Int×List Int):(DY v).flatMap hk=[]:=MG (P5 v)
theorem P3(n:Nat)(σ:List Nat)(d:Der):(Dr (Ef d.code) d.env d.am d.er (HK d.lv)).map (Eu n σ)=Dr (Ef d.code) d.env d.am d.er (HK d.lv):=Mb n σ (jS d)
theorem PT(d:Der):(Dr (Ef d.code) d.env d.am d.er (HK d.lv)).flatMap hk=[]:=MG (jS d)
theorem sJ(s:Int)(g:Dig):(.int .i64 s::C8 g).all Ep=true:=by simp[Ep,Le]
theorem jg(n:Nat)(σ:List Nat)(s:Int)(g:Dig):(.int .i64 s::C8 g).map (Eu n σ)=.int .i64 s::C8 g:=Mb n σ (sJ s g)
theorem gp(s:Int)(g:Dig):(.int .i64 s::C8 g).flatMap hk=[]:=MG (sJ s g)
theorem hU(n:Nat)(σ:List Nat)(a b:Int):([.int .i64 a,.int .i64 b]:List D).map (Eu n σ)=[.int .i64 a,.int .i64 b]:=rfl
theorem mD(a b:Int):([.int .i64 a,.int .i64 b]:List D).flatMap hk=[]:=rfl
theorem Ydb(n:Nat)(σ:List Nat)(x:Bis):(Di x).map (Eu n σ)=Di x:=Mb n σ (eO x)
theorem Yos(x:Bis):(Di x).flatMap hk=[]:=MG (eO x)
theorem YA7:(1:Int) - 0=1:=(rfl)
theorem YA6:(1:Int) - 1=0:=(rfl)
def Ye(a b c:Cse)(j:Nat):Cse:=if j=0 then a else if j=1 then b else c
theorem xY(a b c:Cse):Ye a b c 0=a:=rfl
theorem xZ(a b c:Cse):Ye a b c 1=b:=rfl
theorem ya(a b c:Cse):Ye a b c 2=c:=rfl
theorem Yq6(s:List Dig)(x:Bis)(l r:Dig):EP s (EC x 0 l r)=EP s x:=rfl
theorem Yq5(s:List Dig)(x:Bis)(l r:Dig):EO s (EC x 0 l r)=EO s x:=rfl
theorem Yq7(s:List Dig)(x:Bis)(l r:Dig):FY s (EC x 0 l r)=FY s x:=rfl
theorem yXd{α:Type}[Inhabited α](l:List α)(i:Nat)(h:i<l.length):l.take (i+1)=l.take i++[l.getD i default]:=by
 rw[List.take_add_one,Ah h,Af,Ah h]; rfl
theorem rQ(E:(E9 c).2=0)(n:Int):(ER c v n).1.stack.length≤64:=by
 unfold ER;rw[if_pos E]
 split
 ·exact A2 _
 ·split
  ·rename_i s I;exact kC (v:=v) E s (Aj I)
  ·exact A2 _
theorem Yec{d:Der}(E:(E9 d.code).2=0)(L:List Dig)(x:Cse)(p:Int):(Hx d L x p).op.top.length≤64:=by
 rw[PK]
 show(if(ER d.code d.env (F0 x p).1).2=0 then Fp (ER d.code d.env (F0 x p).1).1 3 else Gt.op).top.length≤64
 split
 ·show(List.drop _ _).length≤64
  rw[AI];have:=rQ (v:=d.env) E (F0 x p).1;omega
 ·exact A2 _
set_option maxHeartbeats 4000000 in
set_option maxRecDepth 20000 in
theorem yDe(c:List Ins)(hc:c.length≤maxLen)(v:Int×List Int)(hv:v.2.length=16)(right:Int)(kd:-9223372036854775808≤right)(ke:right<9223372036854775808)(fr:Int)(m7:-9223372036854775808≤fr)(m8:fr<9223372036854775808)(ac:UInt8)(size:Int)(kf:-9223372036854775808≤size)(kg:size<9223372036854775808):@wW GG (tb [(18,dP),(19,bH),(20,NU),(21,YS),(22,dR),(23,TZ),(24,ME),(25,Ma),(26,N3),(27,cy),(28,YT)] []) aN.code (Dc [.slc (nz 3 (c.map Da)) (c.map Da) false,ED v,.int .i64 right,.int .i64 fr,Dn ac,.int .i64 size]) [] ⟨Dp aN.res (.bool true)⟩:=by
 have dh:c.length≤9223372036854775807:=AP hc lj;have E:Ew v:=hv;have cr:=Yp0 c v ⟨dh,E⟩;have lc:∀ st,E3 st false (.slc (nz 3 (c.map Da)) (c.map Da) false)=some (.int .i64 (c.length:Int)):=fun st=>by simp[E3,Jz,Fb]
 unfold aN
 by_cases b2:¬ (E9 c).2=0
 ·have I:Ew (H7 c v).env:=by rw[show H7 c v=Oj from if_neg b2]; rfl
  have M:True:=trivial;have U:True:=trivial;have ll:True:=trivial
  by_cases g1:(40:Int)<c.length
  ·simp (disch:=first|omega|decide) only[push_cast,↓reduceIte,CI,P6,FK,Gh E,FH,Hm,NF,PN I,lc,decide_true,cr,g1]
  ·generalize (E9 c).2=e at*;simp (disch:=first|omega|decide) only[push_cast,↓reduceIte,CI,P6,FK,Gh E,FH,Hm,NF,PN I,lc,decide_false,cr,g1,eq_false b2]
 have he:=Decidable.not_not.1 b2;obtain⟨nh,n0,n1,_⟩:=M3 he;obtain⟨Dm,tl,hD,ht,hr,k0,hg⟩:=P1 (v:=v) he;obtain⟨R,hR⟩:∃ R,H7 c v=R:=⟨_,rfl⟩;have ah:R.code=c:=by rw[← hR]; unfold H7; rw[if_pos he]
 have b4:R.env=v:=by rw[← hR]; unfold H7; rw[if_pos he]
 obtain⟨L,hL⟩:∃ L,R.lv=L:=⟨_,rfl⟩;have ab:L=(Hz c v).map (DT c v):=by rw[← hL,← hR]; unfold H7; rw[if_pos he]
 have n2:L.length=tl.length+1:=by rw[ab,ht]; simp
 have Y:=yY1 he ab;have I:Ew R.env:=by rw[b4]; exact E
 obtain⟨am,a8⟩:∃ am,(D2 (Ij (Hz c v))).1=am:=⟨_,rfl⟩;have k2:R.am=am:=by rw[← hR,← a8]; unfold H7; rw[if_pos he]
 rw[hR,he]at cr;have U:∀ lent,DA (some ⟨false,1,Dr (Ef R.code) R.env R.am R.er (HK R.lv),lent⟩) 1 false 20=some (.slc (nz 32 (L.map C9)) (L.map C9) false):=fun lent=>by rw[Yv9 I,hL]; rfl
 have M:∀ lent,DA (some ⟨false,1,Dr (Ef R.code) R.env R.am R.er (HK R.lv),lent⟩) 1 false 18=some (.int .i64 am):=fun lent=>by rw[Ynz I,k2]
 have ll:∀ st,E3 st false (.slc (nz 32 (L.map C9)) (L.map C9) false)=some (.int .i64 (L.length:Int)):=fun st=>by simp[E3,Jz,Fb]
 by_cases g1:(40:Int)<c.length
 ·simp (disch:=first|omega|decide) only[push_cast,↓reduceIte,CI,P6,FK,Gh E,FH,Hm,NF,PN I,lc,decide_true,cr,g1]
 by_cases g2:right<0
 ·simp (disch:=first|omega|decide) only[push_cast,↓reduceIte,CI,P6,FK,Gh E,FH,Hm,NF,PN I,lc,decide_true,decide_false,cr,g1,g2]
 by_cases g3:1<right
 ·simp (disch:=first|omega|decide) only[push_cast,↓reduceIte,CI,P6,FK,Gh E,FH,Hm,NF,PN I,lc,decide_true,decide_false,cr,g1,g2,g3]
 by_cases g4:size<0
 ·simp (disch:=first|omega|decide) only[push_cast,↓reduceIte,CI,P6,FK,Gh E,FH,Hm,NF,PN I,lc,decide_true,decide_false,cr,g1,g2,g3,g4]
 by_cases g5:64<size
 ·simp (disch:=first|omega|decide) only[push_cast,↓reduceIte,CI,P6,FK,Gh E,FH,Hm,NF,PN I,lc,decide_true,decide_false,cr,g1,g2,g3,g4,g5]
 have g6:¬ (64:Int)<(L.length:Int):=by omega
 have g7:¬ (L.length:Int)=0:=by omega
 simp (disch:=first|omega|decide) only[push_cast,↓reduceIte,CI,P6,FK,Gh E,FH,Hm,NF,PN I,U,lc,ll,decide_true,decide_false,cr,g1,g2,g3,g4,g5,g6,eq_false g7];have d0:=QZ;refine FQ (fun i:Nat=>[(0,.slc (nz 3 (c.map Da)) (c.map Da) false),(2,.int .i64 right),(3,.int .i64 fr),(4,Dn ac),(5,.int .i64 size),(7,.ptr 0 0),(13,.ptr 1 0),(15,.int .i64 (i:Int))]) (fun _=>[⟨false,1,DY v,false⟩,⟨false,1,Dr (Ef R.code) R.env R.am R.er (HK R.lv),false⟩]) (fun i=>i≤L.length∧∀ x∈L.take i,x≠Dq) (fun i=>L.length - i) 0 (by simp only[push_cast,↓reduceIte,CI,CO,CM,CJ,↓CL,PZ,PE,P3,PT] <;> rfl) ⟨A2 _,by intro x hx; simp at hx⟩ ?_;rintro i ⟨hi,a9⟩;unfold pw;simp (disch:=first|omega|decide) only[push_cast,↓reduceIte,CI,U,ll];refine EU (fun d2=>?_) (fun d2=>?_)
 ·have h4:i<L.length:=by omega
  have ix:=fun st=>Kj st 32 C9 L false .i64 (i:Int) (by omega) (by omega);rw[show((i:Int)).toNat=i from by omega]at ix;have d3:=yXd L i h4;obtain⟨x,hx⟩:∃ x,L.getD i default=x:=⟨_,rfl⟩;rw[hx]at ix d3
  by_cases b5:x=Dq
  ·simp (disch:=first|omega|decide) only[push_cast,↓reduceIte,CI,CJ,U,ix,d0,wX,eq_true b5,decide_true]
  ·simp (disch:=first|omega|decide) only[push_cast,↓reduceIte,CI,CO,CM,CJ,U,ix,d0,wX,eq_false b5,decide_false,DK];refine EV (i+1) ⟨by show i+1≤L.length; omega,?_⟩ (by show L.length - (i+1)<L.length - i; omega) ?_
   ·rw[d3];intro y hy;rcases AL.1 hy with h | h
    ·exact a9 y h
    ·rw[AJ.1 h]; exact b5
   ·simp only[push_cast,PZ,PE,P3,PT] <;> rfl
 ·have h5:∀ x∈L,x≠Dq:=by
   rw[AE (by omega)]at a9; exact a9
  have b6:¬ (i:Int)<(L.length:Int):=d2;clear a9 ht hr k0 hg hD;have s0:0≤size:=by omega
  have s1:size≤64:=by omega
  have b7:=yPb L fr ac size ⟨s0,by omega,by omega⟩;obtain⟨O,hO⟩:∃ O,Hs L fr ac size.toNat=O:=⟨_,rfl⟩;have k5:O.length≤64:=by rw[← hO,pS]; omega
  rw[hO]at b7
  have ne:EE am:=by
   rw[← a8];refine Yuw (ud _ (Yfl ?_));intro q;rw[q]at ab;rw[ab]at Y;simp at Y
  have n3:EE 77:=by unfold EE; omega
  have hp:right=0∨right=1:=by omega
  obtain⟨A,hA⟩:∃ A,A=G0 right L O:=⟨_,rfl⟩;obtain⟨B,hB⟩:∃ B,B=G1 right L O:=⟨_,rfl⟩;obtain⟨n,hn⟩:∃ n:Int,n=if right=0 then am else 77:=⟨_,rfl⟩
  obtain⟨m,hm⟩:∃ m:Int,m=if right=0 then 77 else am:=⟨_,rfl⟩
  obtain⟨pv,J⟩:∃ pv:D,pv=.int .i64 right:=⟨_,rfl⟩
  obtain⟨lA,lB,l2⟩:A.length≤64∧B.length≤64∧(2≤A.length∨2≤B.length):=by
   rw[hA,hB]; unfold G0 G1; split <;> omega
  obtain⟨nO,mO⟩:EE n∧EE m:=by
   rw[hn,hm]; split <;> exact⟨by assumption,by assumption⟩
  have a5:(if right=0 then n else m)=am:=by
   rw[hn,hm]; split <;> rfl
  have a6:n=m↔am=77:=by
   rw[hn,hm]; split <;> omega
  have Y:(if right=0 then A else B)=L:=by
   rw[hA,hB]; unfold G0 G1; split <;> rfl
  have sp:∀ k:Nat,(k:Int)=1 - right→DR (some ⟨false,1,LG L L,false⟩) 1 k (.slc (nz 32 (O.map C9)) (O.map C9) false)=some ⟨false,1,LG A B,false⟩:=by
   intro k hk;rw[hA,hB];rcases id hp with rfl | rfl
   ·obtain rfl:k=1:=by omega
    rfl
   ·obtain rfl:k=0:=by omega
    rfl
  obtain⟨N,hN,ba⟩:=W8 (A:=A) (B:=B) (by omega) (by omega)
  have d4:max (DN (A.length:Int)) (DN (B.length:Int))=(N:Int):=by
   rw[← sN (by omega) (by omega) (by omega) (by omega)]; exact hN
  have d5:1≤N:=by
   have h:=jR (n:=max (A.length:Int) (B.length:Int)) (by omega) (by omega);rw[show DN (max (A.length:Int) (B.length:Int))=(N:Int)from hN,AO]at h;apply Decidable.byContradiction;intro q;obtain rfl:N=0:=by omega
   rw[Int.pow_zero]at h;omega
  have aa:(A.length:Int)≤65536:=by omega
  have ae:(B.length:Int)≤65536:=by omega
  have bE:=Yjw (A:=A) (B:=B) aa ae hN;have cc:=Zp (Eo A) (Eo B);have rA:(Eo A).1=(A.length:Int):=by rw[Q1 A (by omega)]
  have rB:(Eo B).1=(B.length:Int):=by rw[Q1 B (by omega)]
  have cd:=uA A;have ce:=uA B;rw[show JO A=0 from if_pos (by omega)]at cd;rw[show JO B=0 from if_pos (by omega)]at ce;have d6:Ma [.int .i64 (A.length:Int)]=some (.int .i64 (DN (A.length:Int))):=M4 _;have d7:Ma [.int .i64 (B.length:Int)]=some (.int .i64 (DN (B.length:Int))):=M4 _;have q1:=Uw ⟨1,0,0,0,0⟩ 0 1 n (Eo A) 10;have O1:=(YCi (n:=n) (own:=Eo A) (by omega)).1 nO;rw[O1.1,O1.2]at q1;have y1:=N4 c v (Lr n (Eo A)) (Gz m (Eo B)) 10 ⟨by omega,E,by simp[Gz,Gt]⟩
  have fa:DL EB [(0,1,.int .i64 1),(1,1,.int .i64 1),(2,1,.int .i64 m),(3,33,.agg (.int .i64 (Eo B).1::C8 (Eo B).2))]=some (EA (Gz m (Eo B)) (.slc 0 [] true) (.slc 0 [] true)):=by
   rw[Ow,Rn,SY,lP,YEj,Rx]; rfl
  have i1:∀ st,DV st (.agg (EA (Gz m (Eo B)) (.slc 0 [] true) (.slc 0 [] true)))=some (Gn (Gz m (Eo B))):=fun st=>QG st _ ⟨rfl,rfl⟩;have fp:DL [.slc 0 [] true,.slc 0 [] true] [(0,1,.slc (nz 32 (L.map C9)) (L.map C9) false),(1,1,.slc (nz 32 (L.map C9)) (L.map C9) false)]=some (LG L L):=rfl;have a7:=fun y=>yO6 R L y right ⟨by rw[ah]; exact dh,I,AP (rQ (by rw[ah]; exact he) _) (by omega)⟩;have cg:=fun y=>N4 c v y (Hx R L y right) 10 ⟨by omega,E,AP (Yec (by rw[ah]; exact he) _ _ _) (by omega)⟩;have d8:∀ st m,DV st (Gn m)=some (Gn m):=YDw;have n4:∀ st,DV st (.agg (Di F6))=some (DZ F6):=fun st=>zx st _
  by_cases hd:D0 A N 0=D0 B N 0
  ·rw[if_pos hd]at bE;have an:=YF5 v (c:=c) (n:=n) (m:=m) (A:=A) (B:=B) bE mO (by omega);rw[an.1,an.2]at y1;rw[bE]at cc;obtain⟨bb,ma⟩:∃ bb,Kd (Eo A) (Eo B)=bb:=⟨_,rfl⟩;rw[ma]at cc
   obtain⟨V,mb,hx⟩:∃ V,(if n=m then Jl {Lr n (Eo A)with a1:=m,c1:=Eo B} 1 m else LQ n m A B)=V∧((am=77∧V.ph=4∧V.wn=1∧V.am=am)∨(¬ am=77∧V.ph=3∧FP c v V (Hx R L V right) 10=0∧(F1 c v V (Hx R L V right) 10).ph=4∧(F1 c v V (Hx R L V right) 10).wn=right∧(F1 c v V (Hx R L V right) 10).am=am)):=by
    refine⟨_,rfl,?_⟩
    by_cases hq:n=m
    ·rw[if_pos hq];refine .inl ⟨a6.1 hq,rfl,rfl,?_⟩
     show m=am
     rw[← a5]
     split <;> omega
    ·rw[if_neg hq];have ed:=YEv (O:=O) (n:=n) (m:=m) he ab (by omega) hp (by rw[← hA,← hB]; exact bE) hq (by rw[a5,a8]) R ah b4;rw[← hA,← hB,a8]at ed;exact .inr ⟨fun q=>hq (a6.2 q),rfl,ed⟩
   rw[mb]at y1;have bc:=a7 V;have py:=cg V;generalize mc:Eo A=ra at*;generalize md:Eo B=rb at*;generalize Lr n ra=xo at*;generalize Gz m rb=mo at*;obtain⟨me,bd⟩:=ra;obtain⟨mf,be⟩:=rb;dsimp only at rA rB;subst rA rB;have mg:(V.ph=2)=False:=eq_false (by rcases hx with h | h <;> omega);rcases id hp with rfl | rfl
   all_goals
    simp only[reduceIte,Int.reduceEq]at hn hm Y;simp (disch:=first|omega|decide) only[push_cast,↓reduceIte,CI,CJ,CP,Gh E,FH,Hm,M,U,J5,YV,SO,MA,zp,mv,Pq,Vo,Te,OX,Fw,FF,Gj,Fv,Is,E8,w7,bU,xS,xQ,xR,mI,xf,xT,U2,decide_true,decide_false,eq_false b6,Fq,YA7,YA6,b7,fp,sp,cd,ce,← hn,← hm,q1,fa,i1,QL,y1,d6,d7,d4,mg,cc];refine FQ (fun _:Nat=>[(0,.slc (nz 3 (c.map Da)) (c.map Da) false),(2,pv),(7,.ptr 0 0),(13,.ptr 1 0),(16,.ptr 2 0),(21,.ptr 5 0),(22,.ptr 6 0),(24,.int .i64 (N:Int)),(25,.int .i64 (N:Int))]) (fun _=>[⟨false,1,DY v,false⟩,⟨false,1,Dr (Ef R.code) R.env R.am R.er (HK R.lv),false⟩,⟨false,1,LG A B,false⟩,⟨false,1,.int .i64 (A.length:Int)::C8 bd,false⟩,⟨false,1,.int .i64 (B.length:Int)::C8 be,false⟩,⟨false,1,[.int .i64 n,.int .i64 m],false⟩,⟨false,1,Dh V (Dw V.jn),false⟩,⟨false,1,Di bb,false⟩]) (fun _=>True) (fun _=>0) 0 (by simp only[push_cast,↓reduceIte,CI,CO,CM,CJ,PZ,PE,P3,PT,hJ,mC,PY,PD,jg,gp,hU,mD,J,Ydb,Yos] <;> rfl) trivial ?_;intro k hk;unfold gb;rcases hx with⟨h7,a3,m0,h9⟩ | ⟨h7,a3,p0,p2,p3,p4⟩
    ·simp (disch:=first|omega|decide) only[push_cast,↓reduceIte,CI,CJ,CP,MA,FF,NL,Pr,E8,mI,decide_true,decide_false,Int.reduceEq,J,a3,h9,m0,M,eq_true (a6.2 h7)]
    ·rw[p0]at py;simp (disch:=first|omega|decide) only[push_cast,↓reduceIte,CI,CJ,CP,Gh E,FH,Hm,R8 I,Sm,Su,MA,Te,OX,Fw,FF,NL,Pr,Gj,Fv,Is,E8,U2,decide_true,decide_false,Int.reduceEq,J,a3,bc,d8,zF,py,p2,p3,p4,M,Y]
  ·rw[if_neg hd]at bE;have an:=Yzn v (n:=n) (m:=m) (c:=c) aa ae hN d5 ba hd mO;rw[an.1,an.2]at y1
   have d9:∀ k<N,(GI c v n m A B N k).ph=2∧(GI c v n m A B N k).b=D7 A B N k:=fun k h=>by
    rw[show GI c v n m A B N k=GH (Hg n m A B) A B N k from if_pos h]; exact⟨rfl,rfl⟩
   have a3:=(d9 0 d5).1;have ed:=Yx8 (v:=v) (p:=right) (n:=n) (m:=m) he (by omega) ab h5 (by omega) k5 hp (N:=N) (by rw[← hA,← hB]; exact hN) ba (by rw[← hA,← hB]; exact hd) R ah b4;rw[← hA,← hB,a5]at ed;have bc:=a7 (GI c v n m A B N N);have py:=cg (GI c v n m A B N N);obtain⟨y,hy⟩:∃ y,GI c v n m A B N N=y:=⟨_,rfl⟩;rw[hy]at ed bc py;clear a7 cg;generalize mc:Eo A=ra at*;generalize md:Eo B=rb at*;generalize Lr n ra=xo at*;generalize Gz m rb=mo at*;obtain⟨me,bd⟩:=ra;obtain⟨mf,be⟩:=rb;dsimp only at rA rB;subst rA rB;rcases id hp with rfl | rfl
   all_goals
    simp only[reduceIte,Int.reduceEq]at hn hm Y;simp (disch:=first|omega|decide) only[push_cast,↓reduceIte,CI,CJ,CP,Gh E,FH,Hm,M,U,J5,YV,SO,MA,zp,mv,Pq,Vo,Te,OX,Fw,FF,Gj,Fv,Is,E8,w7,bU,xS,xQ,xR,mI,xf,xT,U2,decide_true,decide_false,eq_false b6,Fq,YA7,YA6,b7,fp,sp,cd,ce,← hn,← hm,q1,fa,i1,QL,y1,d6,d7,d4,eq_true a3];refine FQ (fun k:Nat=>[(0,.slc (nz 3 (c.map Da)) (c.map Da) false),(2,pv),(7,.ptr 0 0),(13,.ptr 1 0),(16,.ptr 2 0),(21,.ptr 5 0),(22,.ptr 6 0),(24,.int .i64 (N:Int)),(25,.int .i64 (k:Int))]) (fun k=>[⟨false,1,DY v,false⟩,⟨false,1,Dr (Ef R.code) R.env R.am R.er (HK R.lv),false⟩,⟨false,1,LG A B,false⟩,⟨false,1,.int .i64 (A.length:Int)::C8 bd,false⟩,⟨false,1,.int .i64 (B.length:Int)::C8 be,false⟩,⟨false,1,[.int .i64 n,.int .i64 m],false⟩,⟨false,1,Dh (GI c v n m A B N k) (Dw (GI c v n m A B N k).jn),false⟩]) (fun k=>k≤N) (fun k=>N - k) 0 (by simp only[push_cast,↓reduceIte,CI,CO,CM,CJ,↓CL,PZ,PE,P3,PT,hJ,mC,PY,PD,jg,gp,hU,mD,J] <;> rfl) (A2 _) ?_;intro k hk;unfold gb
    by_cases c5:k<N
    ·have kb:(k:Int)≤16:=by omega
     obtain⟨m3,c6⟩:=d9 k c5;have m1:=Ycv (c:=c) (v:=v) (n:=n) (m:=m) (B:=B) c5 ba aa;have m2:=Ycu (c:=c) (v:=v) (n:=n) (m:=m) c5 ba aa ae he (by omega);simp (disch:=first|omega|decide) only[push_cast,↓reduceIte,CI,FF,decide_true,eq_true m3,kb];obtain⟨xm,ha⟩:∃ xm:Cse,({Hg n m A B with b:=EC (D7 A B N k) 0 (EP A (D7 A B N k)) (EO A (D7 A B N k))}:Cse)=xm:=⟨_,rfl⟩;rw[ha]at m1 m2;have hf:xm.b=EC (D7 A B N k) 0 (EP A (D7 A B N k)) (EO A (D7 A B N k)):=by rw[← ha]
     have hr:=P9 A B N k (by omega);have aA:=US A B A (h:=N) (lv:=(N:Int) - k) (i:=idxS A B N k) aa (by omega) (by omega) (by omega) hr.1 hr.2;have aB:=US A B B (h:=N) (lv:=(N:Int) - k) (i:=idxS A B N k) ae (by omega) (by omega) (by omega) hr.1 hr.2;have cA:=sE A (D7 A B N k);have cB:=sE B (EC (D7 A B N k) 0 (EP A (D7 A B N k)) (EO A (D7 A B N k)));rw[show FY A (D7 A B N k)=0 from aA.1]at cA;rw[Yq6,Yq5,Yq7,show FY B (D7 A B N k)=0 from aB.1,← hf]at cB;have p1:=N4 c v (GI c v n m A B N k) (Hd 0 (EP A (D7 A B N k)) (EO A (D7 A B N k))) 10 ⟨by omega,E,by simp[Hd,Gt]⟩;have p2:=N4 c v xm (Hd 1 (EP B (D7 A B N k)) (EO B (D7 A B N k))) 10 ⟨by omega,E,by simp[Hd,Gt]⟩;rw[m1.1,m1.2]at p1;rw[m2.1,m2.2]at p2;clear aA aB hr m1 m2;have fd:=Yg8;have hh:∀ st p l r,DV st (.agg (EA (Hd p l r) (.slc 0 [] true) (.slc 0 [] true)))=some (Gn (Hd p l r)):=fun st p l r=>QG st _ ⟨rfl,rfl⟩;obtain⟨xk,h0⟩:∃ xk,GI c v n m A B N k=xk:=⟨_,rfl⟩;obtain⟨xn,h1⟩:∃ xn,GI c v n m A B N (k+1)=xn:=⟨_,rfl⟩;rw[h0]at p1 c6;rw[h1]at p2;rw[h0];generalize EP A (D7 A B N k)=l0 at*;generalize EO A (D7 A B N k)=r0 at*;generalize EP B (D7 A B N k)=l1 at*;generalize EO B (D7 A B N k)=r1 at*;rw[← c6]at cA;clear c6 hf;refine FQ (fun j:Nat=>[(0,.slc (nz 3 (c.map Da)) (c.map Da) false),(2,pv),(7,.ptr 0 0),(13,.ptr 1 0),(16,.ptr 2 0),(21,.ptr 5 0),(22,.ptr 6 0),(24,.int .i64 (N:Int)),(25,.int .i64 (k:Int)),(28,.int .i64 (j:Int))]) (fun j=>[⟨false,1,DY v,false⟩,⟨false,1,Dr (Ef R.code) R.env R.am R.er (HK R.lv),false⟩,⟨false,1,LG A B,false⟩,⟨false,1,.int .i64 (A.length:Int)::C8 bd,false⟩,⟨false,1,.int .i64 (B.length:Int)::C8 be,false⟩,⟨false,1,[.int .i64 n,.int .i64 m],false⟩,⟨false,1,Dh (Ye xk xm xn j) (Dw (Ye xk xm xn j).jn),false⟩]) (fun j=>j≤2) (fun j=>2 - j) 0 (by rw[xY]; simp only[push_cast,↓reduceIte,CI,CO,CM,CJ,↓CL,PZ,PE,P3,PT,hJ,mC,PY,PD,jg,gp,hU,mD,J] <;> rfl) (by omega) ?_;intro j hj;unfold pC;rcases(by omega:j=0∨j=1∨j=2)with rfl | rfl | rfl
     ·rw[xY];simp (disch:=first|omega|decide) only[push_cast,↓F4,↓reduceIte,CI,CO,CM,CJ,CP,CT,CZ,↓CL,Gh E,FH,Hm,MA,Te,OX,Fw,Oa,Gj,Fv,Is,E8,and_self,decide_true,J,cA,fd,hh,QL,p1,DK,PZ,P3,PY];refine EV 1 (by show 1≤2; omega) (by show 2 - 1<2 - 0; omega) ?_;rw[xZ];simp only[push_cast,↓CL,PE,PT,PD,J] <;> rfl
     ·rw[xZ];simp (disch:=first|omega|decide) only[push_cast,↓F4,↓reduceIte,CI,CO,CM,CJ,CP,CT,CZ,↓CL,Gh E,FH,Hm,Te,OX,Fw,Oa,Gj,Fv,Is,E8,U2,and_self,decide_true,J,cB,fd,hh,QL,p2,DK,PZ,P3,PY];refine EV 2 (by show 2≤2; omega) (by show 2 - 2<2 - 1; omega) ?_;rw[ya];simp only[push_cast,↓CL,PE,PT,PD,J] <;> rfl
     ·rw[ya];simp (disch:=first|omega|decide) only[push_cast,↓reduceIte,CI,CO,CM,CJ,CT,↓CL,and_self,decide_false,J,DK];refine EV (k+1) (by show k+1≤N; omega) (by show N - (k+1)<N - k; omega) ?_;rw[h1];simp only[push_cast,PZ,PE,P3,PT,PY,PD,J] <;> rfl
    ·obtain rfl:k=N:=by omega
     rw[hy];rcases ed with⟨p1,p2,p3⟩ | ⟨p1,p0,p2,p3,p4⟩
     ·simp (disch:=first|omega|decide) only[push_cast,↓reduceIte,CI,CJ,FF,NL,Pr,decide_true,decide_false,Int.reduceEq,J,p1,p2,p3,M]
     ·rw[p0]at py;simp (disch:=first|omega|decide) only[push_cast,↓reduceIte,CI,CJ,CP,Gh E,FH,Hm,R8 I,Sm,Su,MA,Te,OX,Fw,FF,NL,Pr,Gj,Fv,Is,E8,U2,decide_true,decide_false,Int.reduceEq,J,p1,bc,d8,zF,py,p2,p3,p4,M,Y]
theorem law_CourtDecides:Contract Tryz.prog GG 4 (S1 [.slc tyIns,tyEv,.int .i64,.int .i64,.int .u8,.int .i64]):=by
 refine lk yjt (T:=tb [(18,dP),(19,bH),(20,NU),(21,YS),(22,dR),(23,TZ),(24,ME),(25,Ma),(26,N3),(27,cy),(28,YT)] []) (DI (all_cons Yy0 (all_cons Xz (all_cons Rt (all_cons Yi5 (all_cons Yyy (all_cons yV (all_cons gx (all_cons QQ (all_cons cQ (all_cons YFn (all_cons Yi0 all_nil))))))))))) all_nil) ?_;intro xs h;obtain⟨x0,xs,rfl,h0,h⟩:=SU h;obtain⟨x1,xs,rfl,h1,h⟩:=SU h;obtain⟨x2,xs,rfl,h2,h⟩:=SU h;obtain⟨x3,xs,rfl,h3,h⟩:=SU h;obtain⟨x4,xs,rfl,h4,h⟩:=SU h;obtain⟨x5,xs,rfl,h5,h⟩:=SU h;obtain rfl:=yZo h;obtain⟨y0,rfl,E⟩:=You h0;obtain⟨y1,rfl,I⟩:=YEg h1;obtain⟨y2,rfl,J,M⟩:=PQ h2;obtain⟨y3,rfl,U,V⟩:=PQ h3;obtain⟨y4,rfl⟩:=YEe h4;obtain⟨y5,rfl,Y,aa⟩:=PQ h5;exact yDe y0 E y1 I y2 J M y3 U V y4 y5 Y aa
end Go.Proofs.YtijnglngaogdjaaGreatDoor.PI
