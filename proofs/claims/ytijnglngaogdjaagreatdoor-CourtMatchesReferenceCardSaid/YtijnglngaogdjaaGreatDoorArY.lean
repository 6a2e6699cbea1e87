/-
  The law: a derivation without a tariff.
  Conditions: none; these are lemmas.
-/
import Derived.Test.YtijnglngaogdjaaGreatDoorArD
import Derived.Test.YtijnglngaogdjaaGreatDoorEngHe
open Bool renaming false→f_,true→t_
open Option renaming some→s_
open BitVec renaming ofInt→C0
open Int renaming reduceAdd→Dg,reduceLT→De,reduceNatCast'→CX,reduceNeg→C7,reducePow→Df,reduceToNat→C6
open List renaming replicate→CZ
open Nat renaming reduceAdd→CY,reduceEqDiff→CW,reduceLT→C8,reduceLeDiff→C5,reduceMul→Dd
set_option maxHeartbeats 8000000
set_option maxRecDepth 20000
set_option linter.unusedSimpArgs false
set_option linter.unusedVariables false
noncomputable section
namespace Go.Proofs.YtijnglngaogdjaaGreatDoor.PI
open Go
open D renaming int→I,slc→O,agg→U,bool→V,ptr→Y
open Go.IntKind renaming i64→J
variable {k sz:Nat}
theorem Ww(st:St)(E:sz≠0)(els:List D)(t:Bool)(h:k≤els.length):G5 st sz (O (nz sz els) els t) (s_ (I J (k:Int))) none none=s_ (O (nz sz els) (els.drop k) t):=by
 have M:((nz sz els == sz || els.isEmpty) && sz != 0)=t_:=by
  cases els <;> simp[nz,E]
 have N:Gk (I J (k:Int))=s_ k:=by simp[Gk]
 simp only[G5,M,if_true,GR,N];rw[if_pos ⟨h,AF _⟩,AR,beq_self_eq_true,B5]
theorem Wx(st:St)(E:sz≠0)(els:List D)(t:Bool)(h:k≤els.length):G5 st sz (O (nz sz els) els t) none (s_ (I J (k:Int))) none=s_ (O (nz sz els) (els.take k) (t && k == els.length)):=by
 have M:((nz sz els == sz || els.isEmpty) && sz != 0)=t_:=by
  cases els <;> simp[nz,E]
 have N:GR (s_ (I J (k:Int))) els.length=s_ k:=by simp[GR,Gk]
 simp only[G5,M,if_true,N];simp only[GR];rw[if_pos ⟨AY _,h⟩,Bs]
theorem Wy(st:St)(E:sz≠0)(els:List D)(t:Bool)(h:k≤els.length):G5 st sz (O (nz sz els) els t) none (s_ (I J (k:Int))) (s_ (I J (k:Int)))=s_ (O (nz sz els) (els.take k) t_):=by
 have M:((nz sz els == sz || els.isEmpty) && sz != 0)=t_:=by
  cases els <;> simp[nz,E]
 have N:GR (s_ (I J (k:Int))) els.length=s_ k:=by simp[GR,Gk]
 have h3:Gk (I J (k:Int))=s_ k:=by simp[Gk]
 simp only[G5,M,if_true,N,h3];simp only[GR];rw[if_pos (by simp[h]),Bs]
theorem Yso(s:Sta):(Ep s).all D.isCell=t_:=(rfl)
theorem Fx(s:Sta):D4 (DS s)=s_ (Ep s):=(rfl)
theorem F8:D4 (U [I J 0,I J 0,I J 0,I J 0,O 0 [] t_])=s_ [I J 0,I J 0,I J 0,I J 0,O 0 [] t_]:=(rfl)
theorem HA(st:St)(s:Sta):Ej st (DS s)=s_ (DS s):=by simp only[DS,Ep,EA,Ej,Es,D2,L3];rfl
theorem Mi(s:Sta):keys (DS s)=[]:=(rfl)
theorem Hb(lent:Bool)(s:Sta):DJ (s_ ⟨f_,1,Ep s,lent⟩) 1 f_ 0=s_ (I J s.pc):=(rfl)
theorem Hs(lent:Bool)(s:Sta):DJ (s_ ⟨f_,1,Ep s,lent⟩) 1 f_ 1=s_ (I J s.fuel):=(rfl)
theorem J4(lent:Bool)(s:Sta):DJ (s_ ⟨f_,1,Ep s,lent⟩) 1 f_ 2=s_ (I J s.status):=(rfl)
theorem Kv(lent:Bool)(s:Sta):DJ (s_ ⟨f_,1,Ep s,lent⟩) 1 f_ 3=s_ (I J s.clause):=(rfl)
theorem Hc(lent:Bool)(s:Sta):DJ (s_ ⟨f_,1,Ep s,lent⟩) 1 f_ 4=s_ (EA s.stack):=(rfl)
theorem G9(lent:Bool)(s:Sta):DJ (s_ ⟨f_,1,Ep s,lent⟩) 5 t_ 0=s_ (DS s):=(rfl)
theorem HR(s:Sta):Eb (s_ ⟨f_,1,[I J 0,I J 0,I J 0,I J 0,O 0 [] t_],f_⟩) 5 0 (DS s)=s_ ⟨f_,1,Ep s,f_⟩:=(rfl)
theorem qK(s s':Sta):Eb (s_ ⟨f_,1,Ep s,f_⟩) 5 0 (DS s')=s_ ⟨f_,1,Ep s',f_⟩:=(rfl)
theorem HQ(l:List Int):EA l=O (nz 1 (l.map nI)) (l.map nI) f_:=(rfl)
def Fh(a b c d:Int)(t:D)(k:Int)(r:Dig):List D:=I J a::I J b::I J c::I J d::t::I J k::Dj r
theorem IN(o:Opn):Fv o=Fh o.pc o.fuel o.status o.clause (EA o.top) o.depth o.rest:=(rfl)
theorem YO(a b c d:Int)(t:D)(k:Int)(r:Dig):(Fh a b c d t k r).length=38:=by simp[Fh,Ef]
theorem Ybr(a b c d:Int){t:D}(E:t.isCell=t_)(k:Int)(r:Dig):(Fh a b c d t k r).all D.isCell=t_:=by simp only[Fh,AX,E,wK,Bb];exact Lu (fun _=>rfl) r
theorem KQ:(D.int J 0::I J 0::I J 0::I J 0::O 0 [] t_::I J 0::Dj DH)=Fh 0 0 0 0 (O 0 [] t_) 0 DH:=(rfl)
theorem zm(a b c d:Int){t:D}(E:t.isCell=t_)(k:Int)(r:Dig):D4 (U (Fh a b c d t k r))=s_ (Fh a b c d t k r):=by rw[show D4 (U (Fh a b c d t k r))=if(Fh a b c d t k r).all D.isCell then s_ (Fh a b c d t k r)else none from rfl,if_pos (Ybr a b c d E k r)]
theorem H4(o:Opn):D4 (DU o)=s_ (Fv o):=by rw[DU,IN,zm _ _ _ _ rfl]
theorem Wk(a b c d E b' c' M:Int)(t:D){t':D}(ht:t'.isCell=t_)(k k':Int)(r N:Dig):Eb (s_ ⟨f_,1,Fh a b c d t k r,f_⟩) 38 0 (U (Fh E b' c' M t' k' N))=s_ ⟨f_,1,Fh E b' c' M t' k' N,f_⟩:=
 LQ 1 _ _ 38 (YO ..) (YO ..) (Ybr _ _ _ _ ht _ _)
theorem Mu(lent:Bool)(a b c d:Int)(t:D)(k:Int)(r:Dig):DJ (s_ ⟨f_,1,Fh a b c d t k r,lent⟩) 38 t_ 0=s_ (U (Fh a b c d t k r)):=LP 1 lent _ 38 (YO ..)
theorem gP(lent:Bool)(a b c d:Int)(t:D)(k:Int)(r:Dig):DJ (s_ ⟨f_,1,Fh a b c d t k r,lent⟩) 1 f_ 0=s_ (I J a):=JW (A:=[]) rfl rfl
theorem gQ(lent:Bool)(a b c d:Int)(t:D)(k:Int)(r:Dig):DJ (s_ ⟨f_,1,Fh a b c d t k r,lent⟩) 1 f_ 1=s_ (I J b):=JW (A:=[I J a]) rfl rfl
theorem UQ(lent:Bool)(a b c d:Int)(t:D)(k:Int)(r:Dig):DJ (s_ ⟨f_,1,Fh a b c d t k r,lent⟩) 1 f_ 2=s_ (I J c):=JW (A:=[I J a,I J b]) rfl rfl
theorem gR(lent:Bool)(a b c d:Int)(t:D)(k:Int)(r:Dig):DJ (s_ ⟨f_,1,Fh a b c d t k r,lent⟩) 1 f_ 3=s_ (I J d):=JW (A:=[I J a,I J b,I J c]) rfl rfl
theorem UR(lent:Bool)(a b c d:Int)(t:D)(k:Int)(r:Dig):DJ (s_ ⟨f_,1,Fh a b c d t k r,lent⟩) 1 f_ 4=s_ t:=JW (A:=[I J a,I J b,I J c,I J d]) rfl rfl
theorem Oa(lent:Bool)(a b c d:Int)(t:D)(k:Int)(r:Dig):DJ (s_ ⟨f_,1,Fh a b c d t k r,lent⟩) 1 f_ 5=s_ (I J k):=JW (A:=[I J a,I J b,I J c,I J d,t]) rfl rfl
theorem gW(lent:Bool)(a b c d:Int)(t:D)(k:Int)(r:Dig):DJ (s_ ⟨f_,1,Fh a b c d t k r,lent⟩) 32 t_ 6=s_ (Dl r):=Mf (A:=[I J a,I J b,I J c,I J d,t,I J k]) (B:=Dj r) (C:=[]) (by simp[Fh]) rfl (Ef r)
theorem YEp(a b c d:Int){t:D}(E:t.cells=[t])(hc:t.isCell=t_)(k:Int)(r:Dig):Ed (Fh 0 0 0 0 (O 0 [] t_) 0 DH) [(0,1,I J a),(1,1,I J b),(2,1,I J c),(3,1,I J d),(4,1,t),(5,1,I J k),(6,32,Dl r)]=s_ (Fh a b c d t k r):=by refine(JV (cs:=Fh 0 0 0 0 (O 0 [] t_) 0 DH) (cs':=Fh a 0 0 0 (O 0 [] t_) 0 DH) (A:=[]) (B:=[I J 0]) (xs:=[I J a]) rfl rfl rfl rfl rfl rfl rfl).trans ?_;refine(JV (cs:=Fh a 0 0 0 (O 0 [] t_) 0 DH) (cs':=Fh a b 0 0 (O 0 [] t_) 0 DH) (A:=[I J a]) (B:=[I J 0]) (xs:=[I J b]) rfl rfl rfl rfl rfl rfl rfl).trans ?_;refine(JV (cs:=Fh a b 0 0 (O 0 [] t_) 0 DH) (cs':=Fh a b c 0 (O 0 [] t_) 0 DH) (A:=[I J a,I J b]) (B:=[I J 0]) (xs:=[I J c]) rfl rfl rfl rfl rfl rfl rfl).trans ?_;refine(JV (cs:=Fh a b c 0 (O 0 [] t_) 0 DH) (cs':=Fh a b c d (O 0 [] t_) 0 DH) (A:=[I J a,I J b,I J c]) (B:=[I J 0]) (xs:=[I J d]) rfl rfl rfl rfl rfl rfl rfl).trans ?_;refine(JV (cs:=Fh a b c d (O 0 [] t_) 0 DH) (cs':=Fh a b c d t 0 DH) (A:=[I J a,I J b,I J c,I J d]) (B:=[O 0 [] t_]) (xs:=[t]) rfl rfl rfl rfl E rfl (by simp[hc])).trans ?_;refine(JV (cs:=Fh a b c d t 0 DH) (cs':=Fh a b c d t k DH) (A:=[I J a,I J b,I J c,I J d,t]) (B:=[I J 0]) (xs:=[I J k]) rfl rfl rfl rfl rfl rfl rfl).trans ?_;refine(JV (cs:=Fh a b c d t k DH) (cs':=Fh a b c d t k r) (A:=[I J a,I J b,I J c,I J d,t,I J k]) (B:=Dj DH) (C:=[]) (xs:=Dj r) (by simp[Fh]) (by simp[Fh]) rfl (Ef _) rfl (Ef _) (Lu (fun _=>rfl) r)).trans ?_;rfl
theorem kX(a b c d:Int)(sz:Nat)(els:List D)(E:Bool)(k:Int)(r:Dig):Ed (Fh 0 0 0 0 (O 0 [] t_) 0 DH) [(0,1,I J a),(1,1,I J b),(2,1,I J c),(3,1,I J d),(4,1,O sz els E),(5,1,I J k),(6,32,Dl r)]=s_ (Fh a b c d (O sz els E) k r):=YEp a b c d rfl rfl k r
theorem H3(a b c d:Int)(sz:Nat)(els:List D)(E:Bool)(k:Int)(r:Dig):D4 (U (Fh a b c d (O sz els E) k r))=s_ (Fh a b c d (O sz els E) k r):=zm a b c d rfl k r
theorem Of(a b c d E b' c' M:Int)(t:D)(sz:Nat)(els:List D)(tt:Bool)(k k':Int)(r N:Dig):Eb (s_ ⟨f_,1,Fh a b c d t k r,f_⟩) 38 0 (U (Fh E b' c' M (O sz els tt) k' N))=s_ ⟨f_,1,Fh E b' c' M (O sz els tt) k' N,f_⟩:=Wk a b c d E b' c' M t rfl k k' r N
theorem Pn(st:St)(a b c d:Int)(sz:Nat)(els:List D)(E:Bool)(k:Int)(r:Dig):Ej st (U (Fh a b c d (O sz els E) k r))=s_ (U (Fh a b c d (O (nz sz els) els f_) k r)):=by simp only[Fh,Ej,uT,Ycm,lg,Yck,Bk,Ae]
theorem Gw(st:St)(o:Opn):Ej st (DU o)=s_ (DU o):=by rw[DU,IN,HQ,Pn,L3]
theorem LS(o:Opn):keys (DU o)=[]:=by
 simp only[DU,Fv,keys,Au]
 show []++([]++([]++([]++([]++([]++_)))))=[]
 have:(Dj o.rest).flatMap FQ=[]:=Ycf o.rest;rw[this];rfl
theorem Yhy(c:List Ins)(v:Int×List Int)(o:Opn):KX.length≤1000∧DX (.list [.bytes (JP c).bs,.bytes (Iq v).bs,.int o.pc,.int o.fuel,.int o.status,.int o.clause,.int (o.depth+o.top.length),.bytes (Hy o.rest o.top).bs])≤16∧
  (Dz (.list [.bytes (JP c).bs,.bytes (Iq v).bs,.int o.pc,.int o.fuel,.int o.status,.int o.clause,.int (o.depth+o.top.length),.bytes (Hy o.rest o.top).bs])).length≤4294967000:=by have E:=P5 (JP c);have M:=P5 (Iq v);have N:=P5 (Hy o.rest o.top);have h4:=Lk o.pc;have h5:=Lk o.fuel;have h6:=Lk o.status;have h7:=Lk o.clause;have h8:=Lk (o.depth+o.top.length);refine⟨by decide,by simp[DX,HL],?_⟩;rw[LU];simp only[Ak,Ac,Ar,Au,BE];omega
def dL:List D→Option D:=Dq (α:=List Ins×(Int×List Int)×Opn) (fun a=>[O (nz 3 (a.1.map Dk)) (a.1.map Dk) f_,D6 a.2.1,DU a.2.2]) (fun a=>a.1.length≤4294967296∧a.2.1.2.length=16∧a.2.2.top.length≤4294967296∧0≤a.2.2.depth∧a.2.2.depth≤4294967296) (fun a=>Dl (Oh a.1 a.2.1 a.2.2))
theorem u4(c:List Ins)(v:Int×List Int)(o:Opn)(h:c.length≤4294967296∧v.2.length=16∧o.top.length≤4294967296∧0≤o.depth∧o.depth≤4294967296):dL [O (nz 3 (c.map Dk)) (c.map Dk) f_,D6 v,DU o]=s_ (Dl (Oh c v o)):=
 DK (fun⟨a0,a1,E⟩ ⟨b0,b1,M⟩ h=>by simp only[Aa,D.slc.injEq,and_true,Ha,Nv,Hz]at h; simp[h]) (c,v,o) h
theorem YGo(c:List Ins)(v:Int×List Int)(o:Opn)(h:c.length≤4294967296∧v.2.length=16∧o.top.length≤4294967296∧0≤o.depth∧o.depth≤4294967296):@wW GG (tb [(143,kr),(144,kn),(146,eQ),(145,TD),(142,Vn),(141,OV),(140,TC)] []) Zb.code (Dm [O (nz 3 (c.map Dk)) (c.map Dk) f_,D6 v,DU o]) [] ⟨Ds Zb.res (Dl (Oh c v o))⟩:=by
 obtain⟨hc,hv,M,ac,ad⟩:=h;unfold Zb;have E:=fA KX _ (Yhy c v o);simp only[KX]at E;have N:=Yoq c hc;have h2:=Yor v hv;have h3:=wv o.rest o.top M
 push_cast(disch:=lia)[D5,H4,IN,HQ,Fu hv,Fa,gP,gQ,UQ,gR,UR,Oa,gW,N,h2,h3,T6,mN,No,Ns,DQ,YKk,WW,E]
 rfl
theorem Yy2:Contract Tryz.prog GG 94 dL:=
 DM yRx (DD (all_cons YMz (all_cons YM0 (all_cons Yp5 (all_cons gH (all_cons pR (all_cons gG (all_cons gF all_nil))))))) all_nil) (fun a h=>YGo a.1 a.2.1 a.2.2 h)
theorem zV(st:St)(l:List Int)(t:Bool)(h:k≤l.length):G5 st 1 (O (nz 1 (l.map nI)) (l.map nI) t) (s_ (I J (k:Int))) none none=s_ (O (nz 1 (l.map nI)) ((l.drop k).map nI) t):=by rw[Ww st (by decide) (l.map nI) t (by simpa using h),Cx]
theorem qE(st:St)(l:List Int)(h:k≤l.length):G5 st 1 (O (nz 1 (l.map nI)) (l.map nI) f_) none (s_ (I J (k:Int))) none=s_ (O (nz 1 (l.map nI)) ((l.take k).map nI) f_):=by rw[Wx st (by decide) (l.map nI) f_ (by simpa using h),B9]; rfl
theorem YJn(st:St)(l:List Int)(t:Bool)(h:k≤l.length):G5 st 1 (O (nz 1 (l.map nI)) (l.map nI) t) none (s_ (I J (k:Int))) (s_ (I J (k:Int)))=s_ (O (nz 1 (l.map nI)) ((l.take k).map nI) t_):=by rw[Wy st (by decide) (l.map nI) t (by simpa using h),B9]
theorem Ybp(s:Sta)(n:Int):Na s n≤s.stack.length:=Nat.sub_le _ _
theorem Ybq(s:Sta)(n:Int):(s.stack.length:Int) - min (max n 0) (s.stack.length:Int)=(Na s n:Int):=by unfold Na; omega
def mn:List D→Option D:=Dq (α:=Sta×Int) (fun a=>[DS a.1,I J a.2]) (fun a=>a.1.stack.length≤4294967296) (fun a=>DU (LA a.1 a.2))
theorem Yg1(s:Sta)(n:Int)(h:s.stack.length≤4294967296):mn [DS s,I J n]=s_ (DU (LA s n)):=
 DK (fun⟨a0,a1⟩ ⟨b0,b1⟩ h=>by simp only[Aa,D.int.injEq,true_and,and_true,Nu]at h; simp[h]) (s,n) h
theorem Yzq(s:Sta)(n:Int)(h:s.stack.length≤4294967296):@wW GG (tb [(96,ku)] []) YT.code (Dm [DS s,I J n]) [] ⟨Ds YT.res (DU (LA s n))⟩:=by
 unfold YT;have hk:=Ybp s n;have E:=Yop (s.stack.take (Na s n)) (by rw[AA]; omega);have M:min (max n 0) (s.stack.length:Int)≤s.stack.length:=Int.min_le_right _ _;have N:0≤min (max n 0) (s.stack.length:Int):=by omega
 simp(disch:=first|omega|decide) only[push_cast,↓reduceIte,CW,Fx,KQ,H3,Hb,Hs,J4,Kv,Hc,HQ,EI,Ybq,zV,qE,E,kX,Of,Mu,Pn,jr,ju];rfl
theorem YFd:Contract Tryz.prog GG 42 mn:=
 DM yWc (DD (all_cons YMy all_nil) all_nil) (fun a h=>Yzq a.1 a.2 h)
def km:List D→Option D:=Dq (α:=List Ins×(Int×List Int)×Sta) (fun a=>[O (nz 3 (a.1.map Dk)) (a.1.map Dk) f_,D6 a.2.1,DS a.2.2]) (fun a=>a.1.length≤4294967296∧a.2.1.2.length=16∧a.2.2.stack.length≤4294967296) (fun a=>Dl (HJ a.1 a.2.1 a.2.2))
theorem Yos(c:List Ins)(v:Int×List Int)(s:Sta)(h:c.length≤4294967296∧v.2.length=16∧s.stack.length≤4294967296):km [O (nz 3 (c.map Dk)) (c.map Dk) f_,D6 v,DS s]=s_ (Dl (HJ c v s)):=
 DK (fun⟨a0,a1,E⟩ ⟨b0,b1,M⟩ h=>by simp only[Aa,D.slc.injEq,and_true,Ha,Nu,Hz]at h; simp[h]) (c,v,s) h
theorem YGv(c:List Ins)(v:Int×List Int)(s:Sta)(h:c.length≤4294967296∧v.2.length=16∧s.stack.length≤4294967296):@wW GG (tb [(42,mn),(94,dL)] []) Zo.code (Dm [O (nz 3 (c.map Dk)) (c.map Dk) f_,D6 v,DS s]) [] ⟨Ds Zo.res (Dl (HJ c v s))⟩:=by
 obtain⟨hc,hv,E⟩:=h;unfold Zo;have M:=Yg1 s s.stack.length E;have hk:Na s s.stack.length=0:=by unfold Na; omega
 have hw:=u4 c v (LA s s.stack.length) ⟨hc,hv,by simp only[LA,AW]; omega,by simp only[LA,hk]; omega,by simp only[LA,hk]; omega⟩
 push_cast(disch:=lia)[D5,Fu hv,Fa,Fx,G9,Hc,HQ,HA,Mi,M,Gw,hw]
 rfl
theorem YM1:Contract Tryz.prog GG 49 km:=
 DM yN1 (DD (all_cons YFd (all_cons Yy2 all_nil)) all_nil) (fun a h=>YGv a.1 a.2.1 a.2.2 h)
variable {o:Opn}{v:Int×List Int}{c:List Ins}
theorem vb(E:0≤o.depth)(M:o.depth≤64):Gy c v o=Oh c v o:=if_neg (by omega)
theorem vf(E:o.depth<0):Gy c v o=DH:=if_pos (.inl E)
theorem u9(E:64<o.depth):Gy c v o=DH:=if_pos (.inr E)
def Vo:List D→Option D:=Dq (α:=List Ins×(Int×List Int)×Opn) (fun a=>[O (nz 3 (a.1.map Dk)) (a.1.map Dk) f_,D6 a.2.1,DU a.2.2]) (fun a=>a.1.length≤4294967296∧a.2.1.2.length=16∧a.2.2.top.length≤4294967296) (fun a=>Dl (Gy a.1 a.2.1 a.2.2))
theorem mO(c:List Ins)(v:Int×List Int)(o:Opn)(h:c.length≤4294967296∧v.2.length=16∧o.top.length≤4294967296):Vo [O (nz 3 (c.map Dk)) (c.map Dk) f_,D6 v,DU o]=s_ (Dl (Gy c v o)):=
 DK (fun⟨a0,a1,E⟩ ⟨b0,b1,M⟩ h=>by simp only[Aa,D.slc.injEq,and_true,Ha,Nv,Hz]at h; simp[h]) (c,v,o) h
theorem YGw(c:List Ins)(v:Int×List Int)(o:Opn)(h:c.length≤4294967296∧v.2.length=16∧o.top.length≤4294967296):@wW GG (tb [(94,dL)] []) Y4.code (Dm [O (nz 3 (c.map Dk)) (c.map Dk) f_,D6 v,DU o]) [] ⟨Ds Y4.res (Dl (Gy c v o))⟩:=by
 obtain⟨hc,hv,N⟩:=h;unfold Y4
 by_cases E:o.depth<0
 ·rw[vf E]
  push_cast(disch:=lia)[D5,H4,IN,Oa,E]
 ·by_cases M:64<o.depth
  ·rw[u9 M]
   push_cast(disch:=lia)[D5,H4,IN,Oa,E,M]
  ·rw[vb (by omega) (by omega)];have hw:=u4 c v o ⟨hc,hv,N,by omega,by omega⟩;have hi:=fun st=>Gw st o;have hk:=LS o;rw[DU,IN]at hw hi hk
   push_cast(disch:=lia)[D5,H4,IN,Oa,E,M,Fu hv,Fa,Mu,hi,hw]
theorem Yy3:Contract Tryz.prog GG 40 Vo:=
 DM yR4 (DD (all_cons Yy2 all_nil) all_nil) (fun a h=>YGw a.1 a.2.1 a.2.2 h)
def IH(op:Int):Int×Int:=if op=1∨op=13∨op=14∨op=15 then(1,9007199254740992)else if op=2 then(1,15)else if op=12 then(2,9007199254740992)else(0,0)
def Ek(op:Int):Int×Int:=if op=1∨op=2 then(0,1)else if op=12 then(1,1)else if op=13∨op=15 then(1,0)else if op=14∨op=16 then(0,0)else(2,1)
def Fz(x:Ins):Bool:=decide (1≤x.op∧x.op≤16∧((IH x.op).1≤0→x.n=0)∧((IH x.op).1≤1→x.m=0)∧0≤min x.n x.m∧max x.n x.m≤(IH x.op).2)
theorem xF(op:Int):IH op=(1,9007199254740992)∨IH op=(1,15)∨IH op=(2,9007199254740992)∨IH op=(0,0):=by
 unfold IH
 split
 ·exact .inl rfl
 ·split
  ·exact .inr (.inl rfl)
  ·split
   ·exact .inr (.inr (.inl rfl))
   ·exact .inr (.inr (.inr rfl))
theorem wZ(op:Int):0≤(Ek op).1∧(Ek op).1≤2∧0≤(Ek op).2∧(Ek op).2≤1:=by
 unfold Ek
 split
 ·decide
 ·split
  ·decide
  ·split
   ·decide
   ·split <;> decide
def ki:List D→Option D:=Dq (α:=Int) (fun a=>[I J a]) (fun a=>True) (fun a=>.tup [I J (IH a).1,I J (IH a).2])
theorem Yov(op:Int):ki [I J op]=s_ (.tup [I J (IH op).1,I J (IH op).2]):=
 DK (fun a b h=>by simp only[Aa,D.int.injEq,true_and,and_true]at h; simp[h]) (op) trivial
theorem YG1(op:Int):@wW GG (tb [] []) Z7.code (Dm [I J op]) [] ⟨Ds Z7.res (.tup [I J (IH op).1,I J (IH op).2])⟩:=by
 unfold Z7 IH
 by_cases E:op=1
 ·subst E; push_cast(disch:=lia)[true_or]
 ·by_cases M:op=13
  ·subst M; push_cast(disch:=lia)[E,true_or,or_true]
  ·by_cases N:op=14
   ·subst N; push_cast(disch:=lia)[E,M,true_or,or_true]
   ·by_cases h4:op=15
    ·subst h4; push_cast(disch:=lia)[E,M,N,or_true]
    ·by_cases h5:op=2
     ·subst h5; push_cast(disch:=lia)[E,M,N,h4,or_self]
     ·by_cases h6:op=12
      ·subst h6; push_cast(disch:=lia)[E,M,N,h4,h5,or_self]
      ·push_cast(disch:=lia)[E,M,N,h4,h5,h6,or_self]
theorem YM4:Contract Tryz.prog GG 148 ki:=
 DM yBa (DD all_nil all_nil) (fun a h=>YG1 a)
def OU:List D→Option D:=Dq (α:=Int) (fun a=>[I J a]) (fun a=>True) (fun a=>.tup [I J (Ek a).1,I J (Ek a).2])
theorem You(op:Int):OU [I J op]=s_ (.tup [I J (Ek op).1,I J (Ek op).2]):=
 DK (fun a b h=>by simp only[Aa,D.int.injEq,true_and,and_true]at h; simp[h]) (op) trivial
theorem YG0(op:Int):@wW GG (tb [] []) ZK.code (Dm [I J op]) [] ⟨Ds ZK.res (.tup [I J (Ek op).1,I J (Ek op).2])⟩:=by
 unfold ZK Ek
 by_cases E:op=1
 ·subst E; push_cast(disch:=lia)[true_or]
 ·by_cases M:op=2
  ·subst M; push_cast(disch:=lia)[E,or_true]
  ·by_cases N:op=12
   ·subst N; push_cast(disch:=lia)[E,M,or_self]
   ·by_cases h4:op=13
    ·subst h4; push_cast(disch:=lia)[E,M,N,or_self,true_or]
    ·by_cases h5:op=15
     ·subst h5; push_cast(disch:=lia)[E,M,N,h4,or_self,or_true]
     ·by_cases h6:op=14
      ·subst h6; push_cast(disch:=lia)[E,M,N,h4,h5,or_self,true_or]
      ·by_cases h7:op=16
       ·subst h7; push_cast(disch:=lia)[E,M,N,h4,h5,h6,or_self,or_true]
       ·push_cast(disch:=lia)[E,M,N,h4,h5,h6,h7,or_self]
theorem YM3:Contract Tryz.prog GG 101 OU:=
 DM yHk (DD all_nil all_nil) (fun a h=>YG0 a)
theorem kx(a b c d:Int):Eb (s_ ⟨f_,1,[I J a,I J b,I J c],f_⟩) 1 1 (I J d)=s_ ⟨f_,1,[I J a,I J d,I J c],f_⟩:=(rfl)
theorem YA8(a b c d:Int):Eb (s_ ⟨f_,1,[I J a,I J b,I J c],f_⟩) 1 2 (I J d)=s_ ⟨f_,1,[I J a,I J b,I J d],f_⟩:=(rfl)
theorem PN(lent:Bool)(a b c:D):DJ (s_ ⟨f_,1,[a,b,c],lent⟩) 3 t_ 0=s_ (U [a,b,c]):=(rfl)
theorem PB(a b c:Int):Eb (s_ ⟨f_,1,[I J 0,I J 0,I J 0],f_⟩) 3 0 (U [I J a,I J b,I J c])=s_ ⟨f_,1,[I J a,I J b,I J c],f_⟩:=(rfl)
theorem cX(a:Int):Ed [I J 0,I J 0,I J 0] [(0,1,I J a)]=s_ [I J a,I J 0,I J 0]:=(rfl)
theorem cP(x:Ins):D1 x=[I J x.op,I J x.n,I J x.m]:=(rfl)
theorem cL(a b c E b' c':Int):Hu [0,0,0] f_ (U [I J a,I J b,I J c]) (U [I J E,I J b',I J c'])=s_ (V (decide (a=E∧b=b'∧c=c'))):=by
 simp only[Hu,Fl,Jl,if_true,Ae,Ch]
 congr 2
 by_cases M:a=E <;> by_cases N:b=b' <;> by_cases h3:c=c' <;> simp[M,N,h3]
def kj:List D→Option D:=Dq (α:=Ins) (fun a=>[Dk a]) (fun a=>True) (fun a=>V (Fz a))
theorem Yot(x:Ins):kj [Dk x]=s_ (V (Fz x)):=
 DK (fun a b h=>by simp only[Aa,and_true,O3]at h; simp[h]) (x) trivial
theorem YGz(x:Ins):@wW GG (tb [(148,ki)] []) ZL.code (Dm [Dk x]) [] ⟨Ds ZL.res (V (Fz x))⟩:=by
 unfold ZL;obtain⟨op,n,m⟩:=x
 by_cases N:op<1
 ·rw[show Fz ⟨op,n,m⟩=f_ from decide_eq_false (by dsimp only; omega)]
  push_cast(disch:=lia)[Ez,EU,N]
 ·by_cases h2:17≤op
  ·rw[show Fz ⟨op,n,m⟩=f_ from decide_eq_false (by dsimp only; omega)]
   push_cast(disch:=lia)[Ez,EU,N,h2]
  ·have hc:=Yov op
   have fin:∀ (a b:Int) (n' m':Int),IH op=(a,b)→(a≤0→n'=n)→(0<a→n'=0)→(a≤1→m'=m)→(1<a→m'=0)→Fz ⟨op,n,m⟩=(decide (op=op∧n'=0∧m'=0) && (decide (0≤min n m) && decide (max n m≤b))):=by
    intro a b n' m' e e1 e2 e3 e4;unfold Fz;dsimp only;rw[e];rw[B8];simp only[Ad,decide_eq_true_eq];refine⟨fun⟨_,_,p1,p2,p3,p4⟩=>⟨⟨trivial,?_,?_⟩,p3,p4⟩,fun⟨⟨_,p1,p2⟩,p3,p4⟩=>⟨by omega,by omega,?_,?_,p3,p4⟩⟩
    ·by_cases ha:a≤0
     ·rw[e1 ha]; exact p1 ha
     ·exact e2 (by omega)
    ·by_cases ha:a≤1
     ·rw[e3 ha]; exact p2 ha
     ·exact e4 (by omega)
    ·intro ha; rw[← e1 ha]; exact p1
    ·intro ha; rw[← e3 ha]; exact p2
   rcases xF op with e|e|e|e
   ·rw[fin 1 _ 0 m e (by omega) (by omega) (by omega) (by omega)];rw[e]at hc
    rcases Classical.propComplete (m=0)with M|M <;> rcases Classical.propComplete (0≤min n m)with r1|r1 <;> rcases Classical.propComplete (max n m≤9007199254740992)with E|E <;>
     push_cast(disch:=lia)[Ez,LR,N,h2,hc,PB,cP,kx,PN,cX,cL,M,r1,E,and_self,and_false]
   ·rw[fin 1 _ 0 m e (by omega) (by omega) (by omega) (by omega)];rw[e]at hc
    rcases Classical.propComplete (m=0)with M|M <;> rcases Classical.propComplete (0≤min n m)with r1|r1 <;> rcases Classical.propComplete (max n m≤15)with E|E <;>
     push_cast(disch:=lia)[Ez,LR,N,h2,hc,PB,cP,kx,PN,cX,cL,M,r1,E,and_self,and_false]
   ·rw[fin 2 _ 0 0 e (by omega) (by omega) (by omega) (by omega)];rw[e]at hc
    rcases Classical.propComplete (0≤min n m)with r1|r1 <;> rcases Classical.propComplete (max n m≤9007199254740992)with E|E <;>
     push_cast(disch:=lia)[Ez,LR,N,h2,hc,PB,cP,kx,YA8,PN,cX,cL,r1,E,and_self]
   ·rw[fin 0 _ n m e (by omega) (by omega) (by omega) (by omega)];rw[e]at hc
    rcases Classical.propComplete (n=0)with M|M <;> rcases Classical.propComplete (m=0)with q1|q1 <;> rcases Classical.propComplete (0≤min n m)with r1|r1 <;> rcases Classical.propComplete (max n m≤0)with E|E <;>
     push_cast(disch:=lia)[Ez,LR,N,h2,hc,PB,cP,PN,cX,cL,M,q1,r1,E,and_true,and_self,and_false]
theorem YM2:Contract Tryz.prog GG 99 kj:=
 DM yHj (DD (all_cons YM4 all_nil) all_nil) (fun a h=>YGz a)
def jH:List D→St→Option (D×St):=IW (α:=Ins) (fun x=>([Dk x],[])) (fun _=>True) (fun x=>(V (!Fz x),[]))
theorem u5(x:Ins):jH [Dk x] []=s_ (V (!Fz x),[]):=
 VJ (fun a b e=>by simp only[DO,Aa,and_true,O3]at e; rw[e]) x trivial rfl
theorem YE6:IContract Tryz.prog GG 98 jH:=by
 refine iJ (T:=tb [(99,kj)] []) yDu (DD (all_cons YM2 all_nil) all_nil) ?_;intro x _;unfold sd
 push_cast(disch:=lia)[Ez,Nj,P0,Yot]
 rfl
def Ja:List Ins→Nat→Int
 |[],_=>-1
 |x::l,i=>if Fz x then Ja l (i+1)else i
theorem Yq9:∀ (l:List Ins) (i:Nat),0≤Ja l i↔l.all Fz=f_
 |[],i=>by simp[Ja]
 |x::l,i=>by
  have:=Yq9 l (i+1);unfold Ja;cases h:Fz x <;> simp[h];simpa using this
def qQ:List D→St→Option (D×St):=IW (α:=List Ins) (fun c=>([O (nz 3 (c.map Dk)) (c.map Dk) f_,.clo 98 []],[])) (fun c=>c.length≤9223372036854775807) (fun c=>(I J (Ja c 0),[]))
theorem Ywv(c:List Ins)(h:c.length≤9223372036854775807):qQ [O (nz 3 (c.map Dk)) (c.map Dk) f_,.clo 98 []] []=s_ (I J (Ja c 0),[]):=
 VJ (fun a b e=>by simp only[DO,Aa,D.slc.injEq,and_true,Ha]at e; rw[e.2]) c h rfl
variable {α:Type}
theorem Rg[Inhabited α](l:List α){i:Nat}(h:i<l.length):l.drop i=l.getD i default::l.drop (i+1):=by rw[Bf h,Ai,Aj h]; rfl
theorem YMu:IContract Tryz.prog GG 147 qQ:=by
 refine iJ (T:=tb [] [(98,jH)]) yjp (DD all_nil (all_cons YE6 all_nil)) ?_;intro c hc;unfold ub
 push_cast(disch:=lia)
 refine E0 (fun i:Nat=>[(0,O (nz 3 (c.map Dk)) (c.map Dk) f_),(1,.clo 98 []),(7,I J (c.length:Int)),(8,I J (i:Int))])
  (fun i=>[]) (fun i=>i≤c.length∧Ja (c.drop i) i=Ja c 0) (fun i=>c.length - i) 0 (by push_cast [↓CX] <;> rfl) ⟨by omega,rfl⟩ ?_
 rintro i ⟨hi,hb⟩;unfold ud
 push_cast(disch:=lia)
 refine Ew (fun h2=>?_) (fun h2=>?_)
 ·have E:i<c.length:=by omega
  have N:=Nn [] c f_ i E;have M:=Rg c E;obtain⟨x,aa⟩:∃ x,c.getD i default=x:=⟨_,rfl⟩;rw[aa]at N M;rw[M,Ja]at hb
  cases hf:Fz x with
  |false=>
   rw[hf]at hb;have hv:=u5 x;rw[hf]at hv
   push_cast(disch:=lia)[N,Ju,hv]
   simp only[Ao,if_false]at hb;rw[← hb];rfl
  |true=>
   rw[hf]at hb;have hv:=u5 x;rw[hf]at hv
   push_cast(disch:=lia)[N,Ju,hv,DQ]
   refine EB (i+1) ⟨by omega,hb⟩ (by omega) ?_
   push_cast <;> rfl
 ·obtain rfl:i=c.length:=by omega
  rw[A2,Ja]at hb
  push_cast(disch:=lia)
  rw[← hb];rfl
def Pu:List D→St→Option (D×St):=IW (α:=List Ins) (fun c=>([O (nz 3 (c.map Dk)) (c.map Dk) f_,.clo 98 []],[])) (fun c=>c.length≤9223372036854775807) (fun c=>(V (!c.all Fz),[]))
theorem Ywy(c:List Ins)(h:c.length≤9223372036854775807):Pu [O (nz 3 (c.map Dk)) (c.map Dk) f_,.clo 98 []] []=s_ (V (!c.all Fz),[]):=
 VJ (fun a b e=>by simp only[DO,Aa,D.slc.injEq,and_true,Ha]at e; rw[e.2]) c h rfl
theorem YMw:IContract Tryz.prog GG 97 Pu:=by
 refine iJ (T:=tb [] [(147,qQ)]) yh5 (DD all_nil (all_cons YMu all_nil)) ?_;intro c hc;unfold uc;have E:=Ywv c hc
 have hb:decide (0≤Ja c 0)=!c.all Fz:=by
  have:=Yq9 c 0
  cases h:c.all Fz with
  |true=>rw[h]at this; simp at this ⊢; omega
  |false=>rw[h]at this; simp at this ⊢; exact this
 push_cast(disch:=lia)[E,hb]
 rfl
variable {G:DB}
theorem yJp{P:Program}{T:Tbl}{il:List Nat}{f:Nat}{hints:List (List Nat)}{F:PF}(E:DA P il f hints=s_ F)(M:TblOK P G T){enc:α→List D×St}{pre:α→Prop}{r:α→D×St}
  (h:∀ a,pre a→@wW G T F.code (Dm (enc a).1) (enc a).2 ⟨@Ht F.res ⟨fun d st'=>(d,st')=r a⟩⟩) (N:T.y=fun _ _ _=>none:=by rfl):IContract P G f (IW enc pre r):=
 JX E M (fun ds st x hx=>by
  obtain⟨a,ha,hp,rfl⟩:=lR hx;have:=h a hp;rw[ha]at this;exact this) N
def nj:List D→Option D:=Dq (α:=Int×Int) (fun a=>[I .u64 a.1,I .u64 a.2]) (fun a=>0≤a.1∧a.1<18446744073709551616∧0≤a.2∧a.2<18446744073709551616) (fun a=>.tup [I .u64 (a.1*a.2 / 18446744073709551616),I .u64 (a.1*a.2 % 18446744073709551616)])
theorem yZx(x:Int)(y:Int)(h:0≤x∧x<18446744073709551616∧0≤y∧y<18446744073709551616):nj [I .u64 x,I .u64 y]=s_ (.tup [I .u64 (x*y / 18446744073709551616),I .u64 (x*y % 18446744073709551616)]):=
 DK (fun⟨a0,a1⟩ ⟨b0,b1⟩ h=>by simp only[Aa,D.int.injEq,true_and,and_true]at h; simp[h]) (x,y) h
theorem Yr2(x:Int)(y:Int)(h:0≤x∧x<18446744073709551616∧0≤y∧y<18446744073709551616):@wW GG (tb [(169,di)] []) ZT.code (Dm [I .u64 x,I .u64 y]) [] ⟨Ds ZT.res (.tup [I .u64 (x*y / 18446744073709551616),I .u64 (x*y % 18446744073709551616)])⟩:=by
 unfold ZT
 push_cast(disch:=lia)[uh x y h]
theorem Yw6:Contract Tryz.prog GG 149 nj:=
 DM yFw (DD (all_cons zn all_nil) all_nil) (fun a h=>Yr2 a.1 a.2 h)
def Pv:List D→St→Option (D×St):=IW (α:=Nat×Int) (fun a=>([O 1 [I J a.2] t_,I J (a.1:Int)],[])) (fun a=>0<a.1∧a.1≤100000) (fun a=>(.row 0 a.1 0 a.1,[⟨t_,1,(CZ a.1 a.2).map nI,f_⟩]))
theorem Ywn(n:Nat)(a:Int)(h:0<n∧n≤100000):Pv [O 1 [I J a] t_,I J (n:Int)] []=s_ (.row 0 n 0 n,[⟨t_,1,(CZ n a).map nI,f_⟩]):=
 VJ (fun⟨a,b⟩ ⟨E,b'⟩ e=>by
  simp only[DO,Aa,D.slc.injEq,D.int.injEq,and_true,true_and,CP]at e;obtain⟨rfl,rfl⟩:=e;rfl) ((n,a):Nat×Int) h rfl
def GV(n j:Nat)(a:Int):List D:=(CZ j a++CZ (n - j) 0).map nI
variable {a:Int}{j n:Nat}
theorem oB(h:j≤n):(GV n j a).length=n:=by simp[GV]; omega
theorem xV{m:Nat}(h:j+m≤n):F7 (GV n j a) j ((CZ m a).map nI)=GV n (j+m) a:=by
 have e:CZ (n - j) (0:Int)=CZ m 0++CZ (n - (j+m)) 0:=by
  rw[Cf]; congr 1; omega
 unfold GV;rw[e,Bm,Bm,nZ (by simp) (by simp),← Bm,← Bm,← Am,Cf]
theorem YE3(M:0<j)(E:j<n):K0 [⟨t_,1,GV n j a,f_⟩] 1 (.row 0 n j (n - j)) (.row 0 n 0 j)=s_ (I J (min (n - j) j:Nat),[⟨t_,1,GV n (j+min (n - j) j) a,f_⟩]):=by
 have hl:=oB (a:=a) (Cm E)
 have he:HO [⟨t_,1,GV n j a,f_⟩] 0 n 0 j=s_ (1,(CZ j a).map nI):=by
  simp only[HO,AG,hl];rw[if_pos (by simp; omega),Bs]
  congr 2
  simp[GV]
 simp only[K0,Yn,AG,Hx,he,hl,Iz];rw[if_pos (by simp; omega)];simp only[A7,BG,Bn]
 congr 3
 rw[← B9,List.take_replicate,show min (min (n - j) j) j=min (n - j) j by omega,xV (by omega)]
theorem Ywf(M:0<n):K0 [⟨t_,1,CZ n (I J 0),f_⟩] 1 (.row 0 n 0 n) (O 1 [I J a] t_)=s_ (I J 1,[⟨t_,1,GV n 1 a,f_⟩]):=by
 have E:(CZ n (D.int J 0))=GV n 0 a:=by simp[GV,nI]
 rw[E];have hl:=oB (a:=a) (AY n);simp only[K0,Yn,AG,Hx,hl,Iz];rw[if_pos (by simp; omega)];have hm:min n [D.int IntKind.i64 a].length=1:=by simp; omega
 simp only[hm,Bn];have:=xV (n:=n) (j:=0) (m:=1) (a:=a) (by omega);rw[Aq]at this;rw[← this];rfl
theorem pg(h:n≤100000):Pp 1 8 (I J 0) (I J (n:Int)) (I J (n:Int))=s_ (n,⟨t_,1,CZ n (I J 0),f_⟩):=by
 have E:Gk (I J (n:Int))=s_ n:=by simp[Gk]
 simp only[Pp,E];rw[if_pos ⟨AF _,by omega,by omega,by decide,rfl,rfl⟩]
theorem YMs:IContract Tryz.prog GG 100 Pv:=by
 refine yJp (T:=tb [(149,nj)] []) yse (DD (all_cons Yw6 all_nil) all_nil) ?_;rintro⟨n,a⟩ ⟨M,N⟩;dsimp only at M N;unfold te;have hm:=yZx 1 (n:Int) ⟨by omega,by omega,by omega,by omega⟩;rw[show(1*(n:Int) / 18446744073709551616)=0 by omega,show(1*(n:Int) % 18446744073709551616)=n by omega]at hm;have hc:=Ywf (n:=n) (a:=a) M;have h0:¬ ((n:Int)<0):=by omega
 have h1:¬ ((9223372036854775807:Int)<(n:Int)):=by omega
 push_cast(disch:=lia)[↓CX,h0,U6,Yn6,hm,h1,pg N,hc]
 refine E0 (fun j:Nat=>[(7,.row 0 n 0 n),(8,I J (j:Int))]) (fun j=>[⟨t_,1,GV n j a,f_⟩]) (fun j=>0<j∧j≤n) (fun j=>n - j) 1 (by push_cast [↓CX] <;> rfl) ⟨by omega,by omega⟩ ?_;rintro j ⟨aa,E⟩;have hl:=oB (a:=a) E;have ab:R2 (s_ ⟨t_,1,GV n j a,f_⟩) n=t_:=by simp[R2,hl]
 unfold tE
 push_cast(disch:=lia)[ab]
 refine Ew (fun h2=>?_) (fun h2=>?_)
 ·have ac:=YE3 (a:=a) aa (show j<n by omega)
  have s1:QT (s_ ⟨t_,1,GV n j a,f_⟩) 1 (.row 0 n 0 n) 0 n 0 n j n=s_ (.row 0 n j (n - j)):=by
   simp[QT,hl,show j≤n from E,show ¬ j=0 by omega,show ¬ j=n by omega]
  have s2:QT (s_ ⟨t_,1,GV n j a,f_⟩) 1 (.row 0 n 0 n) 0 n 0 n 0 j=s_ (.row 0 n 0 j):=by
   simp[QT,hl,show j≤n from E,show ¬ j=0 by omega,show ¬ j=n by omega,show ¬ 0=j by omega]
  push_cast(disch:=lia)[s1,s2,ac,DQ]
  refine EB (j+min (n - j) j) ⟨by omega,by omega⟩ (by omega) ?_
  push_cast <;> rfl
 ·obtain rfl:j=n:=by omega
  push_cast(disch:=lia)
  simp[GV]
abbrev EH(x:List Int)(i:Nat):Int:=x.getD i default
theorem pL{x:List Int}{i:Nat}(h:i<x.length):EH x i∈x:=by grind
theorem UP(A:List Int)(lent:Bool)(tot i:Nat)(E:A.length=tot)(h:i<tot):WZ (s_ ⟨t_,1,A.map nI,lent⟩) 1 f_ tot i 0=s_ (I J (EH A i)):=by subst E; exact Yuy nI (fun _=>rfl) 1 A lent i h
theorem QM(A:List Int)(lent:Bool)(key tot:Nat)(j:Int)(E:A.length=tot)(M:0≤j)(N:j<(tot:Int)):OH (s_ ⟨t_,1,A.map nI,lent⟩) 1 key tot 0 tot j=s_ (.rptr key tot j.toNat 0):=by subst E;have:=Ymg nI 1 A lent key 0 A.length j M N;grind
def MB(o:Option PI.Obj)(tot i:Nat)(v:Int):Option PI.Obj:=o.bind fun o=>if o.row && !o.lent && o.els.length == tot then(o.els[i]?).bind fun el=>(Ys el 0 [I J v]).map fun el'=>{o with els:=o.els.set i el'} else none
theorem Q7(st:St)(key tot i:Nat)(v:Int):Nb st 1 (.rptr key tot i 0) (I J v)=(MB st[key]? tot i v).map fun o=>st.set key o:=by
 simp only[Nb,MB,Ymp,Yce,List.isEmpty_nil,B5]
 cases st[key]? with
 |none=>rfl
 |some o=>
  simp only[Bk]
  split
  ·cases o.els[i]? with
   |none=>rfl
   |some el=>
    have hc:(D.int J v).cells=[I J v]:=rfl;grind
  ·rfl
theorem VE(A:List Int)(tot i:Nat)(v:Int)(E:A.length=tot)(h:i<tot):MB (s_ ⟨t_,1,A.map nI,f_⟩) tot i v=s_ ⟨t_,1,(A.set i v).map nI,f_⟩:=by subst E;have M:Ys (nI A[i]) 0 [I J v]=s_ (nI v):=rfl;simp[MB,h,M,List.map_set]
def Lj(len i after n:Int)(dep:List Int):Prop:=n≤i∨len≤n∨(0≤EH dep n.toNat∧EH dep n.toNat≠after)
instance (len i after n:Int) (dep:List Int):Decidable (Lj len i after n dep):=by unfold Lj; infer_instance
def J0(len i after:Int):List Int→List Int→Option (List Int)
 |[],dep=>s_ dep
 |n::l,dep=>if Lj len i after n dep then none else J0 len i after l (dep.set n.toNat after)
def Kj(x:Ins)(i:Int):List Int:=(if x.op=13∨x.op=14 then [x.n]else [])++(if x.op≠14∧x.op≠15∧x.op≠16 then [i+1]else [])
def KM(x:Ins)(d:Int):Prop:=d<(Ek x.op).1∨(x.op=15∧d≠1)∨(x.op=16∧d≠0)
instance (x:Ins) (d:Int):Decidable (KM x d):=by unfold KM; infer_instance
def FC(x:Ins)(d:Int):Int:=d - (Ek x.op).1+(Ek x.op).2
def Gb(len:Int):List Ins→Nat→List Int→Int→Option Int
 |[],_,_,s=>s_ s
 |x::r,i,dep,s=>if EH dep i<0 then Gb len r (i+1) dep s else if KM x (EH dep i)then none else
  match J0 len i (FC x (EH dep i)) (Kj x i) dep with
  |none=>none
  |some dep'=>Gb len r (i+1) dep' (max (max s (EH dep i)) (FC x (EH dep i)))
def KN:Option Int→Int×Int
 |none=>(0,200)
 |some s=>if 64<s then(0,2)else(s,0)
def GF(n:Nat):List Int:=(CZ n (-1)).set 0 0
def FO(c:List Ins):Int×Int:=if 4096<c.length then(0,2)else if c.length=0∨c.all Fz=f_ then(0,200)else KN (Gb c.length c 0 (GF c.length) 0)
theorem yS(sz:Nat)(a:D)(l:Bool):R2 (s_ ⟨t_,sz,[a],l⟩) 1=t_:=(rfl)
theorem li2(sz:Nat)(a b:D)(l:Bool):R2 (s_ ⟨t_,sz,[a,b],l⟩) 2=t_:=(rfl)
variable {st:St}
theorem rD{T:Tbl}{c:PC}{fr:Frame}{st':St}{Q:QC}(e:st=st')(h:@wW G T c fr st' Q):@wW G T c fr st Q:=by rw[e]; exact h
/- what follows an instruction -/
def OA(N:Nat)(i:Int)(dp:List Int):Prop:=dp.length=N∧∀ y∈dp,-1≤y∧y≤i
theorem fF{N:Nat}{i:Int}{M:List Int}(h:OA N i M)(k:Nat){v:Int}(h0:-1≤v)(h1:v≤i):OA N i (M.set k v):=by
 refine⟨by rw[Cc]; exact h.1,fun y E=>?_⟩;rcases BJ E with E|rfl
 ·exact h.2 y E
 ·omega
theorem Vl(T:Tbl)(c:List Ins)(x:Ins)(i:Nat)(hi:i<c.length)(hc:c.length≤4096)(s after:Int)(a5:-1≤after)(a6:after≤(i:Int)+1)(E:List Int)(c1:E.length≤2)(dep:List Int)(a8:OA c.length ((i:Int)+1) dep)(fr:Frame)(Q:Ex→Frame→St→Prop)
  (f0:fr 0=O (nz 3 (c.map Dk)) (c.map Dk) f_) (f2:fr 2=I J s) (f4:fr 4=.row 0 c.length 0 c.length) (f5:fr 5=I J (i:Int)) (bg:fr 10=I J after)
  (bh:fr 30=O (nz 3 (c.map Dk)) (c.map Dk) f_) (b5:fr 31=I J (c.length:Int)) (b6:fr 32=I J (i:Int)) (a9:fr 110=DY 0 2 (E.map nI)) (ba:fr 111=I J (E.length:Int)) (bb:fr 112=I J 0)
  (ad:J0 c.length i after E dep=none→∀ N st',N 2=I J 0→N 3=I J 200→Q .ret N st')
  (bc:∀ M,J0 c.length i after E dep=s_ M→OA c.length ((i:Int)+1) M→∀ N,N 0=O (nz 3 (c.map Dk)) (c.map Dk) f_→N 2=I J s→N 4=.row 0 c.length 0 c.length→N 30=O (nz 3 (c.map Dk)) (c.map Dk) f_→N 31=I J (c.length:Int)→N 32=I J (i:Int)→
   Q (.exit 2) N (⟨t_,1,M.map nI,f_⟩::⟨f_,1,D1 x,f_⟩::DC 1 (E.map nI))) :
  @wW GG T (.loop [0,2,4,5,10,30,31,32,110,111,112] iS) fr (⟨t_,1,dep.map nI,f_⟩::⟨f_,1,D1 x,f_⟩::DC 1 (E.map nI)) ⟨Q⟩:=by
 have hB:EO ((DC 1 (E.map nI)).length+1+1) [] (DY 0 2 (E.map nI))=DY 0 2 (E.map nI):=by
  cases E <;> rfl
 have b7:∀ M:List Int,StOK (⟨t_,1,M.map nI,f_⟩::⟨f_,1,D1 x,f_⟩::DC 1 (E.map nI)):=by
  intro M o ho hr y hy;simp only[Ay]at ho;rcases ho with rfl|rfl|ho
  ·cases hr
  ·simp only[D1,Ay,AD,or_false]at hy;rcases hy with rfl|rfl|rfl <;> rfl
  ·cases E with
   |nil=>cases ho
   |cons a l=>
    rw[show DC 1 ((a::l).map nI)=[⟨t_,1,(a::l).map nI,f_⟩]from rfl,AP]at ho;grind
 have hR:∀ (fr:Frame) (M:List Int),restrict [0,2,4,5,10,30,31,32,110,111,112] ((DC 1 (E.map nI)).length+1+1) ⟨fr,⟨t_,1,M.map nI,f_⟩::⟨f_,1,D1 x,f_⟩::DC 1 (E.map nI)⟩=
   ⟨HC (Kh fr ((DC 1 (E.map nI)).length+1+1) [] [0,2,4,5,10,30,31,32,110,111,112]),⟨t_,1,M.map nI,f_⟩::⟨f_,1,D1 x,f_⟩::DC 1 (E.map nI)⟩:=fun fr M=>Zu (b7 M) rfl
 have af:Fi ((DC 1 (E.map nI)).length+1+1) [] 0=s_ 0:=RS (by omega)
 refine E0 (fun p:Nat×List Int=>[(0,O (nz 3 (c.map Dk)) (c.map Dk) f_),(2,I J s),(4,.row 0 c.length 0 c.length),(5,I J (i:Int)),(10,I J after),(30,O (nz 3 (c.map Dk)) (c.map Dk) f_),(31,I J (c.length:Int)),(32,I J (i:Int)),
   (110,DY 0 2 (E.map nI)),(111,I J (E.length:Int)),(112,I J (p.1:Int))])
  (fun p=>⟨t_,1,p.2.map nI,f_⟩::⟨f_,1,D1 x,f_⟩::DC 1 (E.map nI)) (fun p=>p.1≤E.length∧OA c.length ((i:Int)+1) p.2∧J0 c.length i after (E.drop p.1) p.2=J0 c.length i after E dep) (fun p=>E.length - p.1) (0,dep)
  ((hR fr dep).trans (by push_cast [f0,f2,f4,f5,bg,bh,b5,b6,a9,ba,bb,hB,↓af] <;> rfl)) ⟨AY _,a8,rfl⟩ ?_
 rintro⟨j,M⟩ ⟨hj,aa,hn⟩;dsimp only at hj aa hn;unfold iS
 push_cast(disch:=lia)
 refine Ew (fun h2=>?_) (fun h2=>?_)
 ·have a7:j<E.length:=by omega
  have b9:=Rg E a7
  have ah:E.map nI≠[]:=by
   intro e;have:=congrArg List.length e;grind
  obtain⟨n,a0⟩:∃ n,E.getD j default=n:=⟨_,rfl⟩;have ca:OH (s_ ⟨t_,1,E.map nI,f_⟩) 1 2 E.length 0 E.length (j:Int)=s_ (.rptr 2 E.length j 0):=QM E f_ 2 E.length j rfl (by omega) (by omega);have cb:WZ (s_ ⟨t_,1,E.map nI,f_⟩) 1 f_ E.length j 0=s_ (I J n):=by rw[← a0]; exact UP E f_ E.length j rfl a7
  have ac:∀ M:List Int,GK (⟨t_,1,M.map nI,f_⟩::⟨f_,1,D1 x,f_⟩::DC 1 (E.map nI)) 1 (DY 0 2 (E.map nI)) (I J (j:Int))=s_ (.rptr 2 E.length j 0):=by
   intro M;rw[Mc _ _ _ ah,LO _ _ ah,A7,Yco];exact ca
  have ab:∀ M:List Int,FL (⟨t_,1,M.map nI,f_⟩::⟨f_,1,D1 x,f_⟩::DC 1 (E.map nI)) 1 f_ (.rptr 2 E.length j 0)=s_ (I J n):=by
   intro M;rw[LO _ _ ah,xU];exact cb
  rw[b9,a0,J0]at hn
  by_cases b1:n≤(i:Int)
  ·rw[if_pos (.inl b1)]at hn
   push_cast(disch:=lia)[ac,ab,b1]
   exact ad hn.symm _ _ rfl rfl
  ·by_cases b2:(c.length:Int)≤n
   ·rw[if_pos (.inr (.inl b2))]at hn
    push_cast(disch:=lia)[ac,ab,b1,b2]
    exact ad hn.symm _ _ rfl rfl
   ·have a2:=QM M f_ 0 c.length n aa.1 (by omega) (by omega);have a3:=UP M f_ c.length n.toNat aa.1 (by omega);have c2:=aa.2 _ (pL (x:=M) (i:=n.toNat) (by rw[aa.1]; omega));have hs:=VE M c.length n.toNat after aa.1 (by omega)
    by_cases b3:0≤EH M n.toNat
    ·by_cases b4:EH M n.toNat=after
     ·have cd:(EH M n.toNat=after)=True:=eq_true b4;rw[if_neg (by unfold Lj; omega)]at hn
      push_cast(disch:=lia)[ac,ab,b1,b2,a2,a3,b3,cd,Q7,hs,DQ,↓hR,↓af,hB]
      refine EB (j+1,M.set n.toNat after) ⟨by dsimp only; omega,fF aa _ a5 a6,hn⟩ (by dsimp only; omega) ?_;rfl
     ·rw[if_pos (.inr (.inr ⟨b3,b4⟩))]at hn
      push_cast(disch:=lia)[ac,ab,b1,b2,a2,a3,b3,b4]
      exact ad hn.symm _ _ rfl rfl
    ·rw[if_neg (by unfold Lj; omega)]at hn
     push_cast(disch:=lia)[ac,ab,b1,b2,a2,a3,b3,Q7,hs,DQ,↓hR,↓af,hB]
     refine EB (j+1,M.set n.toNat after) ⟨by dsimp only; omega,fF aa _ a5 a6,hn⟩ (by dsimp only; omega) ?_;rfl
 ·obtain rfl:j=E.length:=by omega
  rw[A2,J0]at hn
  push_cast(disch:=lia)
  exact bc M hn.symm aa _ rfl rfl rfl rfl rfl rfl
def dK:List D→Option D:=Dq (α:=List Ins) (fun a=>[O (nz 3 (a.map Dk)) (a.map Dk) f_]) (fun a=>a.length≤9223372036854775807) (fun a=>.tup [I J (FO a).1,I J (FO a).2])
theorem uZ(c:List Ins)(h:c.length≤9223372036854775807):dK [O (nz 3 (c.map Dk)) (c.map Dk) f_]=s_ (.tup [I J (FO c).1,I J (FO c).2]):=
 DK (fun a b h=>by simp only[Aa,D.slc.injEq,and_true,Ha]at h; simp[h]) (c) h
theorem YGy(c:List Ins)(h:c.length≤9223372036854775807):@wW GG (tb [(101,OU)] [(97,Pu),(100,Pv)]) ZJ.code (Dm [O (nz 3 (c.map Dk)) (c.map Dk) f_]) [] ⟨Ds ZJ.res (.tup [I J (FO c).1,I J (FO c).2])⟩:=by
 unfold ZJ
 by_cases h1:4096<c.length
 ·rw[show FO c=(0,2)from if_pos h1]
  push_cast(disch:=lia)[show((4096:Int)<(c.length:Int)) by omega]
 by_cases h2:c.length=0
 ·rw[show FO c=(0,200) by unfold FO; rw[if_neg h1,if_pos (.inl h2)]]
  push_cast(disch:=lia)[show ¬ ((4096:Int)<(c.length:Int)) by omega,show((c.length:Int)=0) by omega]
 have b4:=Ywy c h;have h3:¬ ((4096:Int)<(c.length:Int)):=by omega
 have h4:¬ ((c.length:Int)=0):=by omega
 cases bc:c.all Fz with
 |false=>
  rw[bc]at b4;rw[show FO c=(0,200) by unfold FO; rw[if_neg h1,if_pos (.inr bc)]]
  push_cast(disch:=lia)[h3,h4,b4]
 |true=>
  rw[bc]at b4;rw[show FO c=KN (Gb c.length c 0 (GF c.length) 0) by unfold FO; rw[if_neg h1,if_neg (by rw[bc]; simp[h2])]];have ce:=Ywn c.length (-1) ⟨by omega,by omega⟩;have cf:OH (s_ ⟨t_,1,(CZ c.length (-1)).map nI,f_⟩) 1 0 c.length 0 c.length 0=s_ (.rptr 0 c.length 0 0):=QM _ f_ 0 c.length 0 (by simp) (by omega) (by omega);have hs0:MB (s_ ⟨t_,1,(CZ c.length (-1)).map nI,f_⟩) c.length 0 0=s_ ⟨t_,1,(GF c.length).map nI,f_⟩:=VE _ c.length 0 0 (by simp) (by omega)
  push_cast(disch:=lia)[h3,h4,b4,Fp,ce,cf,Q7,hs0]
  refine E0 (fun p:Nat×List Int×Int=>[(0,O (nz 3 (c.map Dk)) (c.map Dk) f_),(2,I J p.2.2),(4,.row 0 c.length 0 c.length),(30,O (nz 3 (c.map Dk)) (c.map Dk) f_),(31,I J (c.length:Int)),(32,I J (p.1:Int))])
   (fun p=>[⟨t_,1,p.2.1.map nI,f_⟩]) (fun p=>p.1≤c.length∧OA c.length p.1 p.2.1∧KN (Gb c.length (c.drop p.1) p.1 p.2.1 p.2.2)=KN (Gb c.length c 0 (GF c.length) 0)) (fun p=>c.length - p.1) (0,GF c.length,0)
   (by push_cast <;> rfl) ⟨AY _,?_,rfl⟩ ?_
  ·refine⟨by simp[GF],fun y hy=>?_⟩;rcases BJ hy with hy|rfl
   ·grind
   ·omega
  rintro⟨i,dep,s⟩ ⟨hi,a3,hv⟩;dsimp only at hi a3 hv;unfold sy
  push_cast(disch:=lia)
  refine Ew (fun h5=>?_) (fun h5=>?_)
  ·have a4:i<c.length:=by omega
   have bg:c.length≤4096:=by omega
   have a5:OA c.length ((i:Int)+1) dep:=⟨a3.1,fun y hy=>⟨(a3.2 y hy).1,by have:=(a3.2 y hy).2; omega⟩⟩;have hx:=fun st=>Nn st c f_ i a4;have ca:=Rg c a4;obtain⟨x,cg⟩:∃ x,c.getD i default=x:=⟨_,rfl⟩;rw[cg]at hx ca;rw[ca,Gb]at hv;have N:OH (s_ ⟨t_,1,dep.map nI,f_⟩) 1 0 c.length 0 c.length (i:Int)=s_ (.rptr 0 c.length i 0):=QM dep f_ 0 c.length i a5.1 (by omega) (by omega);have aa:=UP dep f_ c.length i a5.1 a4;have c4:=a3.2 _ (pL (x:=dep) (i:=i) (by rw[a3.1]; omega));have he:=You x.op;have c5:=wZ x.op
   by_cases h0:EH dep i<0
   ·rw[if_pos h0]at hv
    push_cast(disch:=lia)[hx,Ju,LR,Oe,N,aa,h0,DQ]
    refine EB (i+1,dep,s) ⟨by dsimp only; omega,a5,hv⟩ (by dsimp only; omega) ?_;rfl
   rw[if_neg h0]at hv;have bh:FC x (EH dep i)=EH dep i - (Ek x.op).1+(Ek x.op).2:=rfl
   by_cases E:EH dep i<(Ek x.op).1
   ·rw[if_pos (.inl E)]at hv
    push_cast(disch:=lia)[hx,Ju,LR,Oe,N,aa,h0,EU,he,EI,DQ,E]
    rw[← hv];rfl
   have ch:(EH dep i<(Ek x.op).1)=False:=eq_false E
   by_cases a9:x.op=15
   ·have ab:(x.op=15)=True:=eq_true a9;have a6:(x.op=14)=False:=YYF;have ac:(x.op=13)=False:=YYF;have c1:Ek x.op=(1,0):=by rw[a9]; rfl
    by_cases hd:EH dep i=1
    ·have ed:(EH dep i=1)=True:=eq_true hd;have a7:(x.op=16)=False:=YYF;have c6:¬ EH dep i<(Ek x.op).1:=E;have ad:Kj x (i:Int)=[]:=by simp[Kj,a9]
     have M:¬ KM x (EH dep i):=by unfold KM; omega
     rw[if_neg M,ad]at hv
     push_cast(disch:=lia)[hx,Ju,LR,Oe,N,aa,h0,EU,he,EI,DQ,E,ab,a6,ac,a7,ed,bh.symm]
     have hl:=Vl (tb [(101,OU)] [(97,Pu),(100,Pv)]) c x i a4 bg (max (max s (EH dep i)) (FC x (EH dep i))) (FC x (EH dep i)) (by omega) (by omega) [] (by simp) dep a5;refine hl _ _ rfl rfl rfl rfl rfl rfl rfl rfl rfl rfl rfl (fun hn ae st' g2 g3=>?_) (fun dp hn af ae g0 g2 g4 ah a0 a1=>?_)
     ·rw[hn]at hv;have a2:((0,200):Int×Int)=KN (Gb c.length c 0 (GF c.length) 0):=hv
      push_cast(disch:=lia)[g2,g3]
      rw[← a2]
     ·rw[hn]at hv
      push_cast(disch:=lia)[a1,DQ]
      refine EB (i+1,dp,max (max s (EH dep i)) (FC x (EH dep i))) ⟨by dsimp only; omega,af,hv⟩ (by dsimp only; omega) ?_
      push_cast [g0,g2,g4,ah,a0] <;> rfl
    ·have ed:(EH dep i=1)=False:=eq_false hd;rw[if_pos (.inr (.inl ⟨a9,hd⟩))]at hv
     push_cast(disch:=lia)[hx,Ju,LR,Oe,N,aa,h0,EU,he,EI,DQ,E,ab,ed]
     rw[← hv];rfl
   by_cases bb:x.op=16
   ·have a7:(x.op=16)=True:=eq_true bb;have ab:(x.op=15)=False:=eq_false a9;have a6:(x.op=14)=False:=YYF;have ac:(x.op=13)=False:=YYF;have c2:Ek x.op=(0,0):=by rw[bb]; rfl
    by_cases hd:EH dep i=0
    ·have ed:(EH dep i=0)=True:=eq_true hd;have ad:Kj x (i:Int)=[]:=by simp[Kj,bb]
     have M:¬ KM x (EH dep i):=by unfold KM; omega
     rw[if_neg M,ad]at hv
     push_cast(disch:=lia)[hx,Ju,LR,Oe,N,aa,h0,EU,he,EI,DQ,E,ab,a6,ac,a7,ed,bh.symm]
     have hl:=Vl (tb [(101,OU)] [(97,Pu),(100,Pv)]) c x i a4 bg (max (max s (EH dep i)) (FC x (EH dep i))) (FC x (EH dep i)) (by omega) (by omega) [] (by simp) dep a5;refine hl _ _ rfl rfl rfl rfl rfl rfl rfl rfl rfl rfl rfl (fun hn ae st' g2 g3=>?_) (fun dp hn af ae g0 g2 g4 ah a0 a1=>?_)
     ·rw[hn]at hv;have a2:((0,200):Int×Int)=KN (Gb c.length c 0 (GF c.length) 0):=hv
      push_cast(disch:=lia)[g2,g3]
      rw[← a2]
     ·rw[hn]at hv
      push_cast(disch:=lia)[a1,DQ]
      refine EB (i+1,dp,max (max s (EH dep i)) (FC x (EH dep i))) ⟨by dsimp only; omega,af,hv⟩ (by dsimp only; omega) ?_
      push_cast [g0,g2,g4,ah,a0] <;> rfl
    ·have ed:(EH dep i=0)=False:=eq_false hd;rw[if_pos (.inr (.inr ⟨bb,hd⟩))]at hv
     push_cast(disch:=lia)[hx,Ju,LR,Oe,N,aa,h0,EU,he,EI,DQ,E,ab,a7,ed]
     rw[← hv];rfl
   have ab:(x.op=15)=False:=eq_false a9;have a7:(x.op=16)=False:=eq_false bb
   by_cases b5:x.op=14
   ·have a6:(x.op=14)=True:=eq_true b5;have ac:(x.op=13)=False:=YYF;have ad:Kj x (i:Int)=[x.n]:=by simp[Kj,b5]
    have M:¬ KM x (EH dep i):=by unfold KM; omega
    rw[if_neg M,ad]at hv;have b1:Eg [⟨t_,1,dep.map nI,f_⟩,⟨f_,1,D1 x,f_⟩] 1 8 (O 0 [] t_) (O 1 [I J x.n] t_)=s_ (.row 2 1 0 1,[⟨t_,1,dep.map nI,f_⟩,⟨f_,1,D1 x,f_⟩,⟨t_,1,[I J x.n],f_⟩]):=(rfl)
    push_cast(disch:=lia)[↓CX,hx,Ju,LR,Oe,N,aa,h0,EU,GP,he,EI,DQ,E,Fp,ab,a6,ac,a7,bh.symm,b1,yS]
    have hl:=Vl (tb [(101,OU)] [(97,Pu),(100,Pv)]) c x i a4 bg (max (max s (EH dep i)) (FC x (EH dep i))) (FC x (EH dep i)) (by omega) (by omega) [x.n] (by simp) dep a5;refine rD (st':=(⟨t_,1,dep.map nI,f_⟩::⟨f_,1,D1 x,f_⟩::DC 1 (([x.n]:List Int).map nI))) rfl ?_;refine hl _ _ rfl rfl rfl rfl rfl rfl rfl rfl rfl rfl rfl (fun hn ae st' g2 g3=>?_) (fun dp hn af ae g0 g2 g4 ah a0 a1=>?_)
    ·rw[hn]at hv;have a2:((0,200):Int×Int)=KN (Gb c.length c 0 (GF c.length) 0):=hv
     push_cast(disch:=lia)[g2,g3]
     rw[← a2]
    ·rw[hn]at hv
     push_cast(disch:=lia)[a1,DQ]
     refine EB (i+1,dp,max (max s (EH dep i)) (FC x (EH dep i))) ⟨by dsimp only; omega,af,hv⟩ (by dsimp only; omega) ?_
     push_cast [g0,g2,g4,ah,a0] <;> rfl
   have a6:(x.op=14)=False:=eq_false b5
   by_cases b6:x.op=13
   ·have ac:(x.op=13)=True:=eq_true b6;have ad:Kj x (i:Int)=[x.n,(i:Int)+1]:=by simp[Kj,b6]
    have M:¬ KM x (EH dep i):=by unfold KM; omega
    rw[if_neg M,ad]at hv;have b1:Eg [⟨t_,1,dep.map nI,f_⟩,⟨f_,1,D1 x,f_⟩] 1 8 (O 0 [] t_) (O 1 [I J x.n] t_)=s_ (.row 2 1 0 1,[⟨t_,1,dep.map nI,f_⟩,⟨f_,1,D1 x,f_⟩,⟨t_,1,[I J x.n],f_⟩]):=(rfl);have c0:Eg [⟨t_,1,dep.map nI,f_⟩,⟨f_,1,D1 x,f_⟩,⟨t_,1,[I J x.n],f_⟩] 1 8 (.row 2 1 0 1) (O 1 [I J ((i:Int)+1)] t_)=s_ (.row 2 2 0 2,[⟨t_,1,dep.map nI,f_⟩,⟨f_,1,D1 x,f_⟩,⟨t_,1,[I J x.n,I J ((i:Int)+1)],f_⟩]):=(rfl)
    push_cast(disch:=lia)[↓CX,hx,Ju,LR,Oe,N,aa,h0,EU,GP,he,EI,DQ,E,Fp,ab,a6,ac,a7,bh.symm,b1,c0,li2]
    have hl:=Vl (tb [(101,OU)] [(97,Pu),(100,Pv)]) c x i a4 bg (max (max s (EH dep i)) (FC x (EH dep i))) (FC x (EH dep i)) (by omega) (by omega) [x.n,(i:Int)+1] (by simp) dep a5;refine rD (st':=(⟨t_,1,dep.map nI,f_⟩::⟨f_,1,D1 x,f_⟩::DC 1 (([x.n,(i:Int)+1]:List Int).map nI))) rfl ?_;refine hl _ _ rfl rfl rfl rfl rfl rfl rfl rfl rfl rfl rfl (fun hn ae st' g2 g3=>?_) (fun dp hn af ae g0 g2 g4 ah a0 a1=>?_)
    ·rw[hn]at hv;have a2:((0,200):Int×Int)=KN (Gb c.length c 0 (GF c.length) 0):=hv
     push_cast(disch:=lia)[g2,g3]
     rw[← a2]
    ·rw[hn]at hv
     push_cast(disch:=lia)[a1,DQ]
     refine EB (i+1,dp,max (max s (EH dep i)) (FC x (EH dep i))) ⟨by dsimp only; omega,af,hv⟩ (by dsimp only; omega) ?_
     push_cast [g0,g2,g4,ah,a0] <;> rfl
   ·have ac:(x.op=13)=False:=eq_false b6;have ad:Kj x (i:Int)=[(i:Int)+1]:=by simp[Kj,b6,b5,a9,bb]
    have M:¬ KM x (EH dep i):=by unfold KM; omega
    rw[if_neg M,ad]at hv;have b1:Eg [⟨t_,1,dep.map nI,f_⟩,⟨f_,1,D1 x,f_⟩] 1 8 (O 0 [] t_) (O 1 [I J ((i:Int)+1)] t_)=s_ (.row 2 1 0 1,[⟨t_,1,dep.map nI,f_⟩,⟨f_,1,D1 x,f_⟩,⟨t_,1,[I J ((i:Int)+1)],f_⟩]):=(rfl)
    push_cast(disch:=lia)[↓CX,hx,Ju,LR,Oe,N,aa,h0,EU,he,EI,DQ,E,Fp,ab,a6,ac,a7,bh.symm,b1,yS]
    have hl:=Vl (tb [(101,OU)] [(97,Pu),(100,Pv)]) c x i a4 bg (max (max s (EH dep i)) (FC x (EH dep i))) (FC x (EH dep i)) (by omega) (by omega) [(i:Int)+1] (by simp) dep a5;refine rD (st':=(⟨t_,1,dep.map nI,f_⟩::⟨f_,1,D1 x,f_⟩::DC 1 (([(i:Int)+1]:List Int).map nI))) rfl ?_;refine hl _ _ rfl rfl rfl rfl rfl rfl rfl rfl rfl rfl rfl (fun hn ae st' g2 g3=>?_) (fun dp hn af ae g0 g2 g4 ah a0 a1=>?_)
    ·rw[hn]at hv;have a2:((0,200):Int×Int)=KN (Gb c.length c 0 (GF c.length) 0):=hv
     push_cast(disch:=lia)[g2,g3]
     rw[← a2]
    ·rw[hn]at hv
     push_cast(disch:=lia)[a1,DQ]
     refine EB (i+1,dp,max (max s (EH dep i)) (FC x (EH dep i))) ⟨by dsimp only; omega,af,hv⟩ (by dsimp only; omega) ?_
     push_cast [g0,g2,g4,ah,a0] <;> rfl
  ·obtain rfl:i=c.length:=by omega
   rw[A2,Gb]at hv;rw[← hv]
   by_cases h6:64<s
   ·rw[show KN (s_ s)=(0,2)from if_pos h6]
    push_cast(disch:=lia)[h6]
   ·rw[show KN (s_ s)=(s,0)from if_neg h6]
    push_cast(disch:=lia)[h6]
theorem z9:Contract Tryz.prog GG 47 dK:=
 DM (T:=tb [(101,OU)] [(97,Pu),(100,Pv)]) yHl (DD (all_cons YM3 all_nil) (all_cons YMw (all_cons YMs all_nil))) (fun a h=>YGy a h)
def Fk(v:Int×List Int)(p f t c:Int)(S:D)(b:Int):List D:=Ev v++[I J p,I J f,I J t,I J c,S,I J b]
def ED(v:Int×List Int):Prop:=v.2.length=16
theorem Kx(hv:ED v):(Ev v).length=17:=by simp[Ev,show v.2.length=16 from hv]
section
variable {v:Int×List Int} (hv:ED v) (lent:Bool) (p f t c:Int) (S:D) (b:Int)
include hv
theorem zK:DJ (s_ ⟨f_,1,Fk v p f t c S b,lent⟩) 1 f_ 17=s_ (I J p):=JW (A:=Ev v) rfl (Kx hv)
theorem J2:DJ (s_ ⟨f_,1,Fk v p f t c S b,lent⟩) 1 f_ 21=s_ S:=JW (A:=Ev v++[I J p,I J f,I J t,I J c]) (by simp[Fk]; rfl) (by simp[Kx hv])
theorem RH:DJ (s_ ⟨f_,1,Fk v p f t c S b,lent⟩) 1 f_ 22=s_ (I J b):=JW (A:=Ev v++[I J p,I J f,I J t,I J c,S]) (C:=[]) (by simp[Fk]) (by simp[Kx hv])
omit hv in
theorem gb:DJ (s_ ⟨f_,1,Fk v p f t c S b,lent⟩) 1 f_ 0=s_ (I J v.1):=JW (A:=[]) (C:=v.2.map nI++[I J p,I J f,I J t,I J c,S,I J b]) (by simp[Fk,Ev]) rfl
theorem WY(i:Nat)(h:i<16):DJ (s_ ⟨f_,1,Fk v p f t c S b,lent⟩) 1 f_ (1+i)=s_ (I J (EH v.2 i)):=by
 have hi:i<v.2.length:=by rw[show v.2.length=16 from hv]; exact h
 have e:v.2=v.2.take i++(EH v.2 i::v.2.drop (i+1)):=by
  rw[EH,← Rg v.2 hi,Bu]
 refine JW (A:=I J v.1::(v.2.take i).map nI) (C:=(v.2.drop (i+1)).map nI++[I J p,I J f,I J t,I J c,S,I J b]) ?_ (by simp; omega);have E:=congrArg (List.map nI) e;rw[Bm,Aw]at E;simp only[Fk,Ev];rw[E];simp[nI]
theorem rk:DJ (s_ ⟨f_,1,Fk v p f t c S b,lent⟩) 5 t_ 17=s_ (U [I J p,I J f,I J t,I J c,S]):=Mf (A:=Ev v) (B:=[I J p,I J f,I J t,I J c,S]) (C:=[I J b]) (by simp[Fk]) (Kx hv) rfl
theorem iv(p':Int):Eb (s_ ⟨f_,1,Fk v p f t c S b,f_⟩) 1 17 (I J p')=s_ ⟨f_,1,Fk v p' f t c S b,f_⟩:=KR (A:=Ev v) (B:=[I J p]) (C:=[I J f,I J t,I J c,S,I J b]) (xs:=[I J p']) rfl rfl (Kx hv) rfl rfl rfl rfl
theorem YI9(t':Int):Eb (s_ ⟨f_,1,Fk v p f t c S b,f_⟩) 1 19 (I J t')=s_ ⟨f_,1,Fk v p f t' c S b,f_⟩:=KR (A:=Ev v++[I J p,I J f]) (B:=[I J t]) (C:=[I J c,S,I J b]) (xs:=[I J t']) (by simp[Fk]) (by simp[Fk]) (by simp[Kx hv]) rfl rfl rfl rfl
theorem YI8(c':Int):Eb (s_ ⟨f_,1,Fk v p f t c S b,f_⟩) 1 20 (I J c')=s_ ⟨f_,1,Fk v p f t c' S b,f_⟩:=KR (A:=Ev v++[I J p,I J f,I J t]) (B:=[I J c]) (C:=[S,I J b]) (xs:=[I J c']) (by simp[Fk]) (by simp[Fk]) (by simp[Kx hv]) rfl rfl rfl rfl
theorem YA5(sz:Nat)(els:List D)(E:Bool):Eb (s_ ⟨f_,1,Fk v p f t c S b,f_⟩) 1 21 (O sz els E)=s_ ⟨f_,1,Fk v p f t c (O sz els E) b,f_⟩:=KR (A:=Ev v++[I J p,I J f,I J t,I J c]) (B:=[S]) (C:=[I J b]) (xs:=[O sz els E]) (by simp[Fk]) (by simp[Fk]) (by simp[Kx hv]) rfl rfl rfl rfl
theorem YA6(k to of E:Nat):Eb (s_ ⟨f_,1,Fk v p f t c S b,f_⟩) 1 21 (.row k to of E)=s_ ⟨f_,1,Fk v p f t c (.row k to of E) b,f_⟩:=KR (A:=Ev v++[I J p,I J f,I J t,I J c]) (B:=[S]) (C:=[I J b]) (xs:=[.row k to of E]) (by simp[Fk]) (by simp[Fk]) (by simp[Kx hv]) rfl rfl rfl rfl
end
variable {S:D}{b b' c' f f' p p' t t':Int}{v':Int×List Int}
theorem vo(hv:ED v)(E:ED v'){c:Int}{M:D}(h:Fk v p f t c S b=Fk v' p' f' t' c' M b'):v=v'∧p=p'∧f=f'∧t=t'∧c=c'∧S=M∧b=b':=by
 unfold Fk at h;obtain⟨h1,N⟩:=A9 h ((Kx hv).trans (Kx E).symm);simp only[Aa,D.int.injEq,true_and,and_true]at N;refine⟨?_,N⟩;have:D6 v=D6 v':=by rw[D6,D6,h1]
 exact Hz.1 this
def DZ(st:St)(key:Nat)(C:List D):St:=st.set key ⟨f_,1,C,f_⟩
theorem oz(st:St)(key:Nat)(C:List D):(DZ st key C).length=st.length:=Cc
variable {key:Nat}
theorem Oq(h:key<st.length)(C:List D):(DZ st key C)[key]?=s_ ⟨f_,1,C,f_⟩:=by simp[DZ,h]
theorem Jm(st:St)(key:Nat)(C:List D):List.set st key (⟨f_,1,C,f_⟩:PI.Obj)=DZ st key C:=(rfl)
theorem Mo(st:St)(key:Nat)(C E:List D):DZ (DZ st key C) key E=DZ st key E:=by simp[DZ]
theorem Lm(h:key<st.length)(m:St)(C:List D):DZ (st++m) key C=DZ st key C++m:=by unfold DZ; exact BZ _ _ h
theorem IQ(h:key<st.length)(m:St):(st++m)[key]?=st[key]?:=Av h
theorem Sr(h:key<st.length)(C:List D)(m:St):(DZ st key C++m)[key]?=s_ ⟨f_,1,C,f_⟩:=by rw[IQ (by rw[oz]; exact h),Oq h]
theorem Ox(h:key<st.length)(m:St)(C E:List D):DZ (DZ st key C++m) key E=DZ st key E++m:=by rw[Lm (by rw[oz]; exact h),Mo]
theorem MW(st:St)(o:PI.Obj):(st++[o]).length=st.length+1:=by simp
def HZ(st:St)(key:Nat)(v:Int×List Int)(p f t c:Int)(S:D)(b:Int):Prop:=st[key]?=s_ ⟨f_,1,Fk v p f t c S b,f_⟩
theorem M3{c:Int}(h:HZ st key v p f t c S b):key<st.length:=(Ab.1 h).1
theorem Rp{c:Int}(h:HZ st key v p f t c S b)(m:St):HZ (st++m) key v p f t c S b:=by unfold HZ; rw[IQ (M3 h)]; exact h
theorem nS{c:Int}{M:D}(hv:ED v)(N:ED v')(h:HZ st key v p f t c S b)(E:HZ st key v' p' f' t' c' M b'):v=v'∧p=p'∧f=f'∧t=t'∧c=c'∧S=M∧b=b':=by unfold HZ at h E;rw[h]at E;simp only[Dp,PI.Obj.mk.injEq,true_and,and_true]at E;exact vo hv N E
theorem En(st:St)(key off:Nat):rl st (Y key off)=s_ (Y key off):=(rfl)
def Gz(l:List Int)(i:Nat):Int:=EH l (l.length - 1 - i)
def Mx(ds:List D)(os:List (Option (Bool×Nat×List D)))(d:D):Prop:=∃ (key:Nat) (v:Int×List Int) (p f t c:Int) (l:List Int) (b:Int) (i:Nat),ED v∧i<l.length∧l.length≤4294967296∧ds=[Y key 0,I J (i:Int)]∧os=[s_ (f_,1,Fk v p f t c (EA l) b)]∧d=I J (Gz l i)
def L8:List D→List (Option (Bool×Nat×List D))→Option D:=fun ds os=>@dite _ (∃ d,Mx ds os d) (Classical.propDecidable _) (fun h=>s_ h.choose) (fun _=>none)
variable {d:D}{os:List (Option (Bool×Nat×List D))}{ds:List D}
theorem Ysh{E:D}(h:Mx ds os d)(h':Mx ds os E):d=E:=by obtain⟨key,v,p,f,t,c,l,b,i,hv,_,_,rfl,rfl,rfl⟩:=h;obtain⟨ac,v',p',f',t',c',l',b',i',M,_,_,N,h2,rfl⟩:=h';simp only[Aa,D.int.injEq,true_and,and_true,CP,Dp,DO]at N h2;obtain⟨_,rfl⟩:=N;obtain⟨_,_,_,_,_,h3,_⟩:=vo hv M h2;rw[SB.1 h3]
theorem Yiu(h:Mx ds os d):L8 ds os=s_ d:=by have E:∃ d,Mx ds os d:=⟨d,h⟩;unfold L8;rw[dif_pos E,Ysh E.choose_spec h]
theorem Yem(h:L8 ds os=s_ d):Mx ds os d:=by
 unfold L8 at h
 split at h
 ·rename_i E;simp only[Dp]at h;rw[← h]; exact E.choose_spec
 ·cases h
variable {l:List Int}
theorem eU{c:Int}(hv:ED v)(h:HZ st key v p f t c (EA l) b)(i:Nat)(hi:i<l.length)(hl:l.length≤4294967296):Jk L8 [Y key 0,I J (i:Int)] st=s_ (I J (Gz l i)):=by unfold Jk;have e:([D.ptr key 0,I J (i:Int)]).flatMap hk=[key]:=rfl;unfold HZ at h;rw[e];simp only[AX,CH,B5,h,B7,if_true,HF,Ae,PI.Obj.see];exact Yiu ⟨key,v,p,f,t,c,l,b,i,hv,hi,hl,rfl,rfl,rfl⟩
theorem Ys5{r:Bool×Nat×List D}(h:HF st [key]=[s_ r]):∃ lent,st[key]?=s_ ⟨r.1,r.2.1,r.2.2,lent⟩:=by
 simp only[HF,Aa,and_true]at h
 cases hk:st[key]? with
 |none=>simp[hk]at h
 |some o=>
  rw[hk]at h;simp only[Ae,Dp,PI.Obj.see]at h;subst h;exact⟨o.lent,rfl⟩
theorem pS:IContract Tryz.prog GG 197 (fun ds st=>(Jk L8 ds st).map (·,st)):=by
 refine JX (T:=tb [] []) yA7 (DD all_nil all_nil) ?_;intro ds st r M;simp only[D0]at M;obtain⟨d,E,rfl⟩:=M;unfold Jk at E
 split at E
 case isFalse=>cases E
 obtain⟨key,v,p,f,t,c,l,b,i,hv,hi,hl,rfl,N,rfl⟩:=Yem E;obtain⟨lent,hk⟩:=Ys5 N;dsimp only at hk
 have hx:GK st 1 (EA l) (I J ((l.length:Int) - 1 - (i:Int)))=s_ (.eptr (nI (Gz l i)) 0):=by
  have:=RF st l f_ (l.length - 1 - i) (by omega);rw[show((l.length - 1 - i:Nat):Int)=(l.length:Int) - 1 - (i:Int) by omega]at this;exact this
 have hle:EF st f_ (EA l)=s_ (I J (l.length:Int)):=by simp[EF,Iz,EA,E7]
 unfold sE
 push_cast(disch:=lia)[En,hk,J2 hv,hle,EI,hx,KK]
def Mw:Option Int→D
 |none=>O 0 [] t_
 |some a=>O 1 [I J a] t_
def KY(n:Nat)(l:List Int)(k:Nat):Option Int→D
 |none=>O (nz 1 (l.map nI)) ((l.take (l.length - k)).map nI) t_
 |some _=>.row n (l.length - k+1) 0 (l.length - k+1)
def IV(l:List Int)(k:Nat):Option Int→St
 |none=>[]
 |some a=>[⟨t_,1,(l.take (l.length - k)++[a]).map nI,f_⟩]
def WH(ds:List D)(st:St)(r:D×St):Prop:=∃ (key:Nat) (v:Int×List Int) (p f t c:Int) (l:List Int) (b:Int) (k:Nat) (push:Option Int),ED v∧HZ st key v p f t c (EA l) b∧k≤l.length∧l.length≤100000∧-1000000≤p∧p≤1000000∧
 ds=[Y key 0,I J (k:Int),Mw push]∧r=(I J 0,DZ st key (Fk v (p+1) f t c (KY st.length l k push) b)++IV l k push)
def QR:List D→St→Option (D×St):=FX WH
theorem Yj7{a b:Option Int}(h:Mw a=Mw b):a=b:=by cases a <;> cases b <;> simp_all [Mw]
theorem YB1:Ix WH:=by rintro ds st r r' ⟨key,v,p,f,t,c,l,b,k,push,hv,hm,_,_,_,_,rfl,rfl⟩ ⟨aa,v',p',f',t',c',l',b',k',N,E,M,_,_,_,_,h,rfl⟩;simp only[Aa,D.ptr.injEq,D.int.injEq,true_and,and_true,CP]at h;obtain⟨rfl,rfl,h3⟩:=h;obtain rfl:=Yj7 h3;obtain⟨rfl,rfl,rfl,rfl,rfl,h4,rfl⟩:=nS hv E hm M;rw[SB.1 h4]
theorem Ywp{c:Int}(hv:ED v)(hm:HZ st key v p f t c (EA l) b)(k:Nat)(E:Option Int)(hk:k≤l.length)(hl:l.length≤100000)(M:-1000000≤p)(N:p≤1000000) :
  QR [Y key 0,I J (k:Int),Mw E] st=s_ (I J 0,DZ st key (Fk v (p+1) f t c (KY st.length l k E) b)++IV l k E):=
 Mg YB1 ⟨key,v,p,f,t,c,l,b,k,E,hv,hm,hk,hl,M,N,rfl,rfl⟩
theorem UH:IContract Tryz.prog GG 195 QR:=by
 refine JX (T:=tb [] []) yA8 (DD all_nil all_nil) ?_;intro ds st r hr;obtain⟨key,v,p,f,t,c,l,b,k,push,hv,hm,hk,hl,ac,ad,rfl,rfl⟩:=Jx hr;have E:=M3 hm;unfold HZ at hm;have hle:EF st f_ (EA l)=s_ (I J (l.length:Int)):=by simp[EF,Iz,EA,E7]
 have N:G5 st 1 (EA l) none (s_ (I J ((l.length:Int) - (k:Int)))) (s_ (I J ((l.length:Int) - (k:Int))))=s_ (O (nz 1 (l.map nI)) ((l.take (l.length - k)).map nI) t_):=by
  have:=YJn st l f_ (k:=l.length - k) (by omega);rwa [show((l.length - k:Nat):Int)=(l.length:Int) - (k:Int) by omega]at this
 have aa:(l.take (l.length - k)).length=l.length - k:=by rw[AA]; omega
 unfold sD
 cases push with
 |none=>
  have M:Eg st 1 8 (O (nz 1 (l.map nI)) ((l.take (l.length - k)).map nI) t_) (O 0 [] t_)=s_ (O (nz 1 (l.map nI)) ((l.take (l.length - k)).map nI) t_,st):=Ua st 1 8 _ 0 _ t_ (by decide)
  push_cast(disch:=lia)[Mw,En,hm,J2 hv,zK hv,hle,EI,N,M,YA5 hv,iv hv,Jm,Oq E,Mo,DQ,KY,IV]
 |some a=>
  have M:Eg st 1 8 (O (nz 1 (l.map nI)) ((l.take (l.length - k)).map nI) t_) (O 1 [I J a] t_)=s_ (.row st.length (l.length - k+1) 0 (l.length - k+1),st++[⟨t_,1,(l.take (l.length - k)++[a]).map nI,f_⟩]):=by
   have:=l9 st 1 8 (nz 1 (l.map nI)) ((l.take (l.length - k)).map nI) (O 1 [I J a] t_) [I J a] 1 rfl (.inl rfl) (by
    cases l with
    |nil=>right; simp
    |cons x r=>left; rfl) (by decide) (by simp) (by simp[aa]; omega) (by simp[aa]; omega)
   rw[this];simp[nI]
  push_cast(disch:=lia)[Mw,En,hm,J2 hv,zK hv,hle,EI,N,M,IQ E,YA6 hv,iv hv,Jm,Lm E,Sr E,Ox E,DQ,KY,IV]
def Ea(op a b:Int):Int×Int:=
 if op=3 then Gt a b else if op=4 then Gp a b else if op=5 then Gr a b else if op=6 then(min a b,0)else if op=7 then(max a b,0)else
 if op=8 then Eu a b 8 else if op=9 then Eu a b 9 else if op=10 then Eu a b 10 else if op=11 then(if a<b then 1 else 0,0)else(0,0)
def eP:List D→Option D:=Dq (α:=Bool) (fun a=>[V a]) (fun a=>True) (fun a=>I J (if a=t_ then 1 else 0))
theorem wu(x:Bool):eP [V x]=s_ (I J (if x=t_ then 1 else 0)):=
 DK (fun a b h=>by simp only[Aa,D.bool.injEq,and_true]at h; simp[h]) (x) trivial
theorem Yzs(x:Bool):@wW GG (tb [] []) Za.code (Dm [V x]) [] ⟨Ds Za.res (I J (if x=t_ then 1 else 0))⟩:=by unfold Za;cases x <;> push_cast(disch:=lia)
theorem Yp7:Contract Tryz.prog GG 196 eP:=
 DM yRy (DD all_nil all_nil) (fun a h=>Yzs a)
def dj:List D→Option D:=Dq (α:=Int×Int) (fun a=>[I J a.1,I J a.2]) (fun a=>True) (fun a=>.tup [I J (min a.1 a.2),I J 0])
theorem Yp1(a:Int)(b:Int):dj [I J a,I J b]=s_ (.tup [I J (min a b),I J 0]):=
 DK (fun⟨a0,a1⟩ ⟨b0,b1⟩ h=>by simp only[Aa,D.int.injEq,true_and,and_true]at h; simp[h]) (a,b) trivial
theorem YIp(a:Int)(b:Int):@wW GG (tb [] []) ZV.code (Dm [I J a,I J b]) [] ⟨Ds ZV.res (.tup [I J (min a b),I J 0])⟩:=by
 unfold ZV
 push_cast(disch:=lia)
theorem YOf:Contract Tryz.prog GG 234 dj:=
 DM yDt (DD all_nil all_nil) (fun a h=>YIp a.1 a.2)
def dk:List D→Option D:=Dq (α:=Int×Int) (fun a=>[I J a.1,I J a.2]) (fun a=>True) (fun a=>.tup [I J (max a.1 a.2),I J 0])
theorem Yp0(a:Int)(b:Int):dk [I J a,I J b]=s_ (.tup [I J (max a b),I J 0]):=
 DK (fun⟨a0,a1⟩ ⟨b0,b1⟩ h=>by simp only[Aa,D.int.injEq,true_and,and_true]at h; simp[h]) (a,b) trivial
theorem YIo(a:Int)(b:Int):@wW GG (tb [] []) ZW.code (Dm [I J a,I J b]) [] ⟨Ds ZW.res (.tup [I J (max a b),I J 0])⟩:=by
 unfold ZW
 push_cast(disch:=lia)
theorem YOe:Contract Tryz.prog GG 235 dk:=
 DM yDs (DD all_nil all_nil) (fun a h=>YIo a.1 a.2)
def dn:List D→Option D:=Dq (α:=Int×Int) (fun a=>[I J a.1,I J a.2]) (fun a=>True) (fun a=>.tup [I J (Eu a.1 a.2 8).1,I J (Eu a.1 a.2 8).2])
theorem Ypz(a:Int)(b:Int):dn [I J a,I J b]=s_ (.tup [I J (Eu a b 8).1,I J (Eu a b 8).2]):=
 DK (fun⟨a0,a1⟩ ⟨b0,b1⟩ h=>by simp only[Aa,D.int.injEq,true_and,and_true]at h; simp[h]) (a,b) trivial
theorem YIn(a:Int)(b:Int):@wW GG (tb [(237,VC)] []) ZX.code (Dm [I J a,I J b]) [] ⟨Ds ZX.res (.tup [I J (Eu a b 8).1,I J (Eu a b 8).2])⟩:=by
 unfold ZX
 push_cast(disch:=lia)[nJ a b 8 (.inl rfl)]
theorem YOd:Contract Tryz.prog GG 236 dn:=
 DM yDr (DD (all_cons jk all_nil) all_nil) (fun a h=>YIn a.1 a.2)
def dN:List D→Option D:=Dq (α:=Int×Int) (fun a=>[I J a.1,I J a.2]) (fun a=>True) (fun a=>.tup [I J (Eu a.1 a.2 9).1,I J (Eu a.1 a.2 9).2])
theorem Ypy(a:Int)(b:Int):dN [I J a,I J b]=s_ (.tup [I J (Eu a b 9).1,I J (Eu a b 9).2]):=
 DK (fun⟨a0,a1⟩ ⟨b0,b1⟩ h=>by simp only[Aa,D.int.injEq,true_and,and_true]at h; simp[h]) (a,b) trivial
theorem YIm(a:Int)(b:Int):@wW GG (tb [(237,VC)] []) ZY.code (Dm [I J a,I J b]) [] ⟨Ds ZY.res (.tup [I J (Eu a b 9).1,I J (Eu a b 9).2])⟩:=by
 unfold ZY
 push_cast(disch:=lia)[nJ a b 9 (.inr (.inl rfl))]
theorem YOc:Contract Tryz.prog GG 238 dN:=
 DM yDq (DD (all_cons jk all_nil) all_nil) (fun a h=>YIm a.1 a.2)
def dO:List D→Option D:=Dq (α:=Int×Int) (fun a=>[I J a.1,I J a.2]) (fun a=>True) (fun a=>.tup [I J (Eu a.1 a.2 10).1,I J (Eu a.1 a.2 10).2])
theorem Ypx(a:Int)(b:Int):dO [I J a,I J b]=s_ (.tup [I J (Eu a b 10).1,I J (Eu a b 10).2]):=
 DK (fun⟨a0,a1⟩ ⟨b0,b1⟩ h=>by simp only[Aa,D.int.injEq,true_and,and_true]at h; simp[h]) (a,b) trivial
theorem YIl(a:Int)(b:Int):@wW GG (tb [(237,VC)] []) ZZ.code (Dm [I J a,I J b]) [] ⟨Ds ZZ.res (.tup [I J (Eu a b 10).1,I J (Eu a b 10).2])⟩:=by
 unfold ZZ
 push_cast(disch:=lia)[nJ a b 10 (.inr (.inr rfl))]
theorem YOb:Contract Tryz.prog GG 239 dO:=
 DM yDp (DD (all_cons jk all_nil) all_nil) (fun a h=>YIl a.1 a.2)
def dP:List D→Option D:=Dq (α:=Int×Int) (fun a=>[I J a.1,I J a.2]) (fun a=>True) (fun a=>.tup [I J (if a.1<a.2 then 1 else 0),I J 0])
theorem Ypw(a:Int)(b:Int):dP [I J a,I J b]=s_ (.tup [I J (if a<b then 1 else 0),I J 0]):=
 DK (fun⟨a0,a1⟩ ⟨b0,b1⟩ h=>by simp only[Aa,D.int.injEq,true_and,and_true]at h; simp[h]) (a,b) trivial
theorem YIk(a:Int)(b:Int):@wW GG (tb [(196,eP)] []) Z0.code (Dm [I J a,I J b]) [] ⟨Ds Z0.res (.tup [I J (if a<b then 1 else 0),I J 0])⟩:=by
 unfold Z0;have hc:=wu (decide (a<b))
 by_cases h:a<b
 ·rw[decide_eq_true h]at hc
  push_cast(disch:=lia)[h,hc]
 ·rw[decide_eq_false h]at hc
  push_cast(disch:=lia)[h,hc]
theorem YOa:Contract Tryz.prog GG 240 dP:=
 DM yDo (DD (all_cons Yp7 all_nil) all_nil) (fun a h=>YIk a.1 a.2)
theorem O7{sp:List D→Option D}{x y:Int}(h:sp [I J a,I J b]=s_ (.tup [I J x,I J y]))(st:St):Jj sp [I J a,I J b] st=s_ (.tup [I J x,I J y],st):=by have E:EG st [I J a,I J b]=s_ [I J a,I J b]:=(rfl);simp only[Jj,E,h];rfl
def HE(op:Int):Int:=if op=12∨op=13∨op=15 then 1 else if 3≤op∧op≤11 then 2 else 0
theorem YL3(op:Int)(h:3≤op∧op≤11):∃ f,Gx op FH=s_ f:=by
 obtain⟨E,M⟩:=h;have:op=3∨op=4∨op=5∨op=6∨op=7∨op=8∨op=9∨op=10∨op=11:=by omega
 rcases this with rfl|rfl|rfl|rfl|rfl|rfl|rfl|rfl|rfl <;> exact⟨_,rfl⟩
theorem YEf(op:Int)(h:¬ (3≤op∧op≤11)):Gx op FH=none:=by simp only[FH,Gx];rw[YYN,YYN,YYN,YYN,YYN,YYN,YYN,YYN,YYN]
theorem lY(st:St)(op:Int)(ok:Bool)(E:D):JU st 0 [] ok E (.gmap FH) (I J op)=s_ (match Gx op FH with
  |some f=>if ok then .tup [U [.clo f []],V t_]else U [.clo f []]
  |none=>if ok then .tup [E,V f_]else E):=(rfl)
theorem zl:D4 (U [.nilf])=s_ [.nilf]:=(rfl)
theorem Wm(f:Nat):Eb (s_ ⟨f_,1,[.nilf],f_⟩) 1 0 (U [.clo f []])=s_ ⟨f_,1,[.clo f []],f_⟩:=(rfl)
theorem Wl:Eb (s_ ⟨f_,1,[.nilf],f_⟩) 1 0 (U [.nilf])=s_ ⟨f_,1,[.nilf],f_⟩:=(rfl)
theorem KF(st:St):FL st 1 f_ (.eptr (.gmap FH) 0)=s_ (.gmap FH):=(rfl)
def eL:List D→Option D:=Dq (α:=Int) (fun a=>[I J a]) (fun a=>True) (fun a=>I J (HE a))
theorem wk(op:Int):eL [I J op]=s_ (I J (HE op)):=
 DK (fun a b h=>by simp only[Aa,D.int.injEq,true_and,and_true]at h; simp[h]) (op) trivial
theorem Yz1(op:Int):@wW GG (tb [] []) Y8.code (Dm [I J op]) [] ⟨Ds Y8.res (I J (HE op))⟩:=by
 unfold Y8 HE
 by_cases E:op=12
 ·subst E; push_cast(disch:=lia)[true_or]
 ·by_cases N:op=13
  ·subst N; push_cast(disch:=lia)[E,true_or,or_true]
  ·by_cases h3:op=15
   ·subst h3; push_cast(disch:=lia)[E,N,or_true]
   ·have hn:¬ (op=12∨op=13∨op=15):=by omega
    rw[if_neg hn]
    by_cases h4:3≤op∧op≤11
    ·obtain⟨f,hf⟩:=YL3 op h4;have M:=lY [] op t_ (U [.nilf]);rw[hf]at M
     push_cast(disch:=lia)[E,N,h3,h4,Kk _ _ _ _ G1,KF,M,zl,Wm]
    ·have hf:=YEf op h4;have M:=lY [] op t_ (U [.nilf]);rw[hf]at M
     push_cast(disch:=lia)[E,N,h3,h4,Kk _ _ _ _ G1,KF,M,zl,Wl]
theorem Yqh:Contract Tryz.prog GG 109 eL:=
 DM yR0 (DD all_nil all_nil) (fun a h=>Yz1 a)
inductive Out where
 |err (e:Int)
 |pop (k:Nat) (push:Option Int) (pc:Option Int)
 |set (p t c:Int)
def JK(a b:Int):Int:=IntKind.wrap J ((C0 64 a &&& C0 64 b).toNat:Int)
def JI(n:Int):Int:=IntKind.wrap J (1*2 ^ (min n.toNat 64))
def Dx(s:Sta)(i:Nat):Int:=Gz s.stack i
def DN(v:Int×List Int)(b:Int)(s:Sta)(x:Ins):Out:=
 if x.op=1 then(if 64≤b+s.stack.length then .err 200 else .pop 0 (s_ x.n) none)
 else if x.op=2 then(if 64≤b+s.stack.length then .err 200 else if JK v.1 (JI x.n)=0 then .err 181 else if EH v.2 x.n.toNat < -9007199254740992∨9007199254740992<EH v.2 x.n.toNat then .err 3 else .pop 0 (s_ (EH v.2 x.n.toNat)) none)
 else if x.op=12 then .pop 1 (s_ (if x.n≤Dx s 0∧Dx s 0≤x.m then 1 else 0)) none
 else if x.op=13 then .pop 1 none (if Dx s 0=0 then s_ x.n else none)
 else if x.op=14 then .set x.n s.status s.clause
 else if x.op=15 then .set s.pc 1 x.n
 else if x.op=16 then .err 180
 else if(Ea x.op (Dx s 1) (Dx s 0)).2=0 then .pop 2 (s_ (Ea x.op (Dx s 1) (Dx s 0)).1) none else .err (Ea x.op (Dx s 1) (Dx s 0)).2
def Ey(st:St)(key:Nat)(v:Int×List Int)(b:Int)(s:Sta)(x:Ins):Out→D×St
 |.err e=>(I J e,st++[⟨f_,1,D1 x,f_⟩])
 |.pop k push pc=>(I J 0,DZ st key (Fk v (pc.getD (s.pc+1)) s.fuel s.status s.clause (KY (st.length+1) s.stack k push) b)++[⟨f_,1,D1 x,f_⟩]++IV s.stack k push)
 |.set p t c=>(I J 0,DZ st key (Fk v p s.fuel t c (EA s.stack) b)++[⟨f_,1,D1 x,f_⟩])
structure mOK (v:Int×List Int) (b:Int) (s:Sta) (x:Ins):Prop where
 v:ED v
 b0:0≤b
 b1:b≤64
 l:s.stack.length≤64
 p0:0≤s.pc
 p1:s.pc≤100000
 f:Fz x=t_
 n:HE x.op≤s.stack.length
def WU(P:Int→Prop)(ds:List D)(st:St)(r:D×St):Prop:=∃ (key:Nat) (v:Int×List Int) (b:Int) (s:Sta) (x:Ins),mOK v b s x∧P x.op∧HZ st key v s.pc s.fuel s.status s.clause (EA s.stack) b∧ds=[Y key 0,Dk x]∧r=Ey st key v b s x (DN v b s x)
def Kp(P:Int→Prop):List D→St→Option (D×St):=FX (WU P)
theorem YCg(P:Int→Prop):Ix (WU P):=by rintro ds st r r' ⟨key,v,b,s,x,hm,_,hk,rfl,rfl⟩ ⟨ae,v',b',s',x',E,_,M,h,rfl⟩;simp only[Aa,D.ptr.injEq,and_true,O3]at h;obtain⟨rfl,rfl⟩:=h;obtain⟨rfl,N,h2,h3,h4,h5,rfl⟩:=nS hm.v E.v hk M;have h6:=SB.1 h5;obtain⟨a1,a2,a3,a4,a5⟩:=s;obtain⟨b1,b2,b3,b4,b5⟩:=s';dsimp only at N h2 h3 h4 h6;subst N; subst h2; subst h3; subst h4; subst h6;rfl
variable {x:Ins}{s:Sta}
theorem Ywq{P:Int→Prop}(E:mOK v b s x)(M:P x.op)(hk:HZ st key v s.pc s.fuel s.status s.clause (EA s.stack) b):Kp P [Y key 0,Dk x] st=s_ (Ey st key v b s x (DN v b s x)):=
 Mg (YCg P) ⟨key,v,b,s,x,E,M,hk,rfl,rfl⟩
theorem Ycv(h:Fz x=t_):0≤x.n∧x.n≤9007199254740992∧(x.op=2→x.n<16):=by
 have:=of_decide_eq_true h;obtain⟨N,h2,h3,h4,h5,E⟩:=this;have hm:(IH x.op).2≤9007199254740992:=by rcases xF x.op with e|e|e|e <;> rw[e] <;> decide
 refine⟨by omega,by omega,fun M=>?_⟩;have:IH x.op=(1,15):=by rw[M]; rfl
 rw[this]at E;dsimp only at E;omega
theorem Ync(h:Fz x=t_):1≤x.op∧x.op≤16:=⟨(of_decide_eq_true h).1,(of_decide_eq_true h).2.1⟩
theorem P2(a b:Int):DF .and (I J a) (I J b)=s_ (I J (JK a b)):=(rfl)
theorem Yt{n:Int}(h:0≤n):DF .shl (I J 1) (I J n)=s_ (I J (JI n)):=by simp only[DF,MR,show ¬ n<0 by omega,if_false,Ae,JI];rfl
theorem ID(st:St)(l:List Int):EF st f_ (EA l)=s_ (I J (l.length:Int)):=by simp[EF,Iz,EA,E7]
theorem Ud{c:Int}(hv:ED v)(M:HZ st key v p f t c (EA l) b)(x:Ins)(k:Nat)(N:Int)(aa:N=(k:Int))(E:Option Int)(hk:k≤l.length)(hl:l.length≤64)(ab:0≤p)(ac:p≤100000) :
  QR [Y key 0,I J N,Mw E] (st++[⟨f_,1,D1 x,f_⟩])=s_ (I J 0,DZ st key (Fk v (p+1) f t c (KY (st.length+1) l k E) b)++[⟨f_,1,D1 x,f_⟩]++IV l k E):=by subst aa;have:=Ywp hv (Rp M [⟨f_,1,D1 x,f_⟩]) k E hk (by omega) (by omega) (by omega);rwa [Lm (M3 M),MW]at this
theorem YE8:IContract Tryz.prog GG 177 (Kp (·=1)):=by
 refine JX (T:=tb [] [(195,QR)]) yz0 (DD all_nil (all_cons UH all_nil)) ?_;intro ds st r hr;obtain⟨key,v,b,s,x,hm,N,hk,rfl,rfl⟩:=Jx hr;obtain⟨hv,af,ah,hl,ac,ad,hf,hn⟩:=hm;have aa:=M3 hk;have ab:=Ud hv hk x 0 0 rfl (s_ x.n) (AY _) hl ac ad;simp only[Mw]at ab;have E:=hk;unfold HZ at E;unfold sJ
 by_cases M:64≤b+(s.stack.length:Int)
 ·rw[show DN v b s x=.err 200 by unfold DN; rw[if_pos N,if_pos M]]
  push_cast(disch:=lia)[Ez,En,IQ aa,E,RH hv,J2 hv,ID,DQ,M,Ey]
 ·rw[show DN v b s x=.pop 0 (s_ x.n) none by unfold DN; rw[if_pos N,if_neg M]]
  push_cast(disch:=lia)[Ez,En,IQ aa,E,RH hv,J2 hv,ID,DQ,M,F2,GP,Fp,ab,Ey,A0]
theorem YFa:IContract Tryz.prog GG 178 (Kp (·=2)):=by
 refine JX (T:=tb [] [(195,QR)]) yz2 (DD all_nil (all_cons UH all_nil)) ?_;intro ds st r hr;obtain⟨key,v,b,s,x,hm,M,hk,rfl,rfl⟩:=Jx hr;obtain⟨hv,a5,a6,hl,a2,a3,hf,hn⟩:=hm;have aa:=M3 hk;have N:=hk;unfold HZ at N;obtain⟨ac,_,ad⟩:=Ycv hf;have ad:=ad M;have a7:v.2.length=16:=hv;have ae:=fun lent=>WY hv lent s.pc s.fuel s.status s.clause (EA s.stack) b x.n.toNat (by omega);have a0:=Ud hv hk x 0 0 rfl (s_ (EH v.2 x.n.toNat)) (AY _) hl a2 a3;simp only[Mw]at a0;have e1:¬ x.op=1:=by omega
 unfold sH
 by_cases E:64≤b+(s.stack.length:Int)
 ·rw[show DN v b s x=.err 200 by unfold DN; rw[if_neg e1,if_pos M,if_pos E]]
  push_cast(disch:=lia)[Ez,En,IQ aa,N,RH hv,J2 hv,ID,DQ,Ey,E]
 ·by_cases h2:JK v.1 (JI x.n)=0
  ·rw[show DN v b s x=.err 181 by unfold DN; rw[if_neg e1,if_pos M,if_neg E,if_pos h2]]
   push_cast(disch:=lia)[Ez,En,IQ aa,N,RH hv,J2 hv,gb,ID,DQ,F2,GP,Ey,E,Yt ac,P2,h2]
  ·by_cases h3:EH v.2 x.n.toNat < -9007199254740992
   ·rw[show DN v b s x=.err 3 by unfold DN; rw[if_neg e1,if_pos M,if_neg E,if_neg h2,if_pos (.inl h3)]]
    push_cast(disch:=lia)[Ez,En,IQ aa,N,RH hv,J2 hv,gb,ID,DQ,F2,GP,Ey,E,Yt ac,P2,h2,KT,ae,h3]
   ·by_cases h4:9007199254740992<EH v.2 x.n.toNat
    ·rw[show DN v b s x=.err 3 by unfold DN; rw[if_neg e1,if_pos M,if_neg E,if_neg h2,if_pos (.inr h4)]]
     push_cast(disch:=lia)[Ez,En,IQ aa,N,RH hv,J2 hv,gb,ID,DQ,F2,GP,Ey,E,Yt ac,P2,h2,KT,ae,h3,h4]
    ·rw[show DN v b s x=.pop 0 (s_ (EH v.2 x.n.toNat)) none by unfold DN; rw[if_neg e1,if_pos M,if_neg E,if_neg h2,YYN]]
     push_cast(disch:=lia)[Ez,En,IQ aa,N,RH hv,J2 hv,gb,ID,DQ,F2,GP,Fp,Ey,A0,E,Yt ac,P2,h2,KT,ae,h3,h4,a0]
theorem Ygy:IContract Tryz.prog GG 179 (Kp (·=12)):=by
 refine JX (T:=RV [(196,eP)] [(195,QR)] [(197,L8)]) ywf (qN (all_cons Yp7 all_nil) (all_cons UH all_nil) (all_cons pS all_nil)) ?_;intro ds st r hr;obtain⟨key,v,b,s,x,hm,aa,hk,rfl,rfl⟩:=Jx hr;obtain⟨hv,ah,a0,hl,ac,ad,hf,hn⟩:=hm;have a1:=M3 hk;have ae:=hk;unfold HZ at ae;have a2:HE x.op=1:=by rw[aa]; rfl
 have ht:Jk L8 [Y key 0,I J 0] (st++[⟨f_,1,D1 x,f_⟩])=s_ (I J (Dx s 0)):=eU hv (Rp hk _) 0 (by omega) (by omega);have E:=Ud hv hk x 1 1 rfl (s_ (if x.n≤Dx s 0∧Dx s 0≤x.m then 1 else 0)) (by omega) hl ac ad;simp only[Mw]at E;rw[show DN v b s x=.pop 1 (s_ (if x.n≤Dx s 0∧Dx s 0≤x.m then 1 else 0)) none by unfold DN; rw[YYN,YYN,if_pos aa]];have hc:=wu (decide (x.n≤Dx s 0∧Dx s 0≤x.m));simp only[decide_eq_true_eq]at hc;unfold ta
 by_cases M:x.n≤Dx s 0
 ·by_cases N:Dx s 0≤x.m
  ·have hw:(if x.n≤Dx s 0∧Dx s 0≤x.m then(1:Int)else 0)=1:=if_pos ⟨M,N⟩;rw[hw]at E ⊢;rw[decide_eq_true ⟨M,N⟩]at hc
   push_cast(disch:=lia)[Ez,F2,GP,MU,Fp,Ey,A0,M,N,ht,hc,E]
  ·have hw:(if x.n≤Dx s 0∧Dx s 0≤x.m then(1:Int)else 0)=0:=if_neg (by omega);rw[hw]at E ⊢;rw[decide_eq_false (by omega)]at hc
   push_cast(disch:=lia)[Ez,F2,GP,MU,Fp,Ey,A0,M,N,ht,hc,E]
 ·have hw:(if x.n≤Dx s 0∧Dx s 0≤x.m then(1:Int)else 0)=0:=if_neg (by omega);rw[hw]at E ⊢;rw[decide_eq_false (by omega)]at hc
  push_cast(disch:=lia)[Ez,F2,GP,Fp,Ey,A0,M,ht,hc,E]
theorem YFb:IContract Tryz.prog GG 181 (Kp (·=14)):=by
 refine JX (T:=tb [] []) yz3 (DD all_nil all_nil) ?_;intro ds st r hr;obtain⟨key,v,b,s,x,hm,N,hk,rfl,rfl⟩:=Jx hr;obtain⟨hv,ab,ac,hl,ad,ae,hf,hn⟩:=hm;have E:=M3 hk;have M:=hk;unfold HZ at M;rw[show DN v b s x=.set x.n s.status s.clause by unfold DN; rw[YYN,YYN,YYN,YYN,if_pos N]];unfold sG
 push_cast(disch:=lia)[Ez,En,IQ E,M,F2,GP,Ey,iv hv,Jm,Lm E]
theorem YE9:IContract Tryz.prog GG 183 (Kp (·=16)):=by
 refine JX (T:=tb [] []) yz1 (DD all_nil all_nil) ?_;intro ds st r N;obtain⟨key,v,b,s,x,hm,E,hk,rfl,rfl⟩:=Jx N;obtain⟨hv,aa,ab,hl,ac,ad,hf,hn⟩:=hm;have ae:=M3 hk;have M:=hk;unfold HZ at M;rw[show DN v b s x=.err 180 by unfold DN; rw[YYN,YYN,YYN,YYN,YYN,YYN,if_pos E]];unfold sI
 push_cast(disch:=lia)[Ez,Ey]
theorem Yvx(st:St)(key:Nat)(C:List D)(o:PI.Obj):(DZ st key C++[o])[st.length]?=s_ o:=by have:=F2 (DZ st key C) o;rwa [oz]at this
theorem YE5:IContract Tryz.prog GG 180 (Kp (·=13)):=by
 refine JX (T:=RV [] [(195,QR)] [(197,L8)]) yzz (qN all_nil (all_cons UH all_nil) (all_cons pS all_nil)) ?_;intro ds st r hr;obtain⟨key,v,b,s,x,hm,E,hk,rfl,rfl⟩:=Jx hr;obtain⟨hv,ah,a0,hl,ab,ac,hf,hn⟩:=hm;have aa:=M3 hk;have ad:=hk;unfold HZ at ad;have a1:HE x.op=1:=by rw[E]; rfl
 have ht:Jk L8 [Y key 0,I J 0] (st++[⟨f_,1,D1 x,f_⟩])=s_ (I J (Dx s 0)):=eU hv (Rp hk _) 0 (by omega) (by omega);have M:=Ud hv hk x 1 1 rfl none (by omega) hl ab ac;simp only[Mw,IV,Af]at M;unfold sK
 by_cases N:Dx s 0=0
 ·rw[show DN v b s x=.pop 1 none (s_ x.n) by unfold DN; rw[YYN,YYN,YYN,if_pos E,if_pos N]]
  push_cast(disch:=lia)[Ez,En,GP,Ey,Cr,ht,N,M,Yvx,Sr aa,iv hv,Jm,Ox aa,IV]
 ·rw[show DN v b s x=.pop 1 none none by unfold DN; rw[YYN,YYN,YYN,if_pos E,if_neg N]]
  push_cast(disch:=lia)[Ez,Ey,A0,ht,N,M,IV]
theorem YMt:IContract Tryz.prog GG 182 (Kp (·=15)):=by
 refine JX (T:=tb [] []) yA9 (DD all_nil all_nil) ?_;intro ds st r hr;obtain⟨key,v,b,s,x,hm,N,hk,rfl,rfl⟩:=Jx hr;obtain⟨hv,ac,ad,hl,ae,af,hf,hn⟩:=hm;have E:=M3 hk;have M:=hk;unfold HZ at M;rw[show DN v b s x=.set s.pc 1 x.n by unfold DN; rw[YYN,YYN,YYN,YYN,YYN,if_pos N]];have aa:(key == st.length)=f_:=by rw[beq_eq_false_iff_ne]; omega
 unfold sC
 push_cast(disch:=lia)[↓Hd,Ez,En,IQ E,M,F2,GP,Ey,YI9 hv,YI8 hv,Jm,Lm E,Sr E,Ox E,aa]
theorem Ysk:IContract Tryz.prog GG 231 (Jj eI):=YFl.toI Tryz.func231 (by kernel_rfl) (by kernel_rfl)
theorem Ysi:IContract Tryz.prog GG 232 (Jj eK):=YFj.toI Tryz.func232 (by kernel_rfl) (by kernel_rfl)
theorem Ysj:IContract Tryz.prog GG 233 (Jj eJ):=YFk.toI Tryz.func233 (by kernel_rfl) (by kernel_rfl)
theorem YA3:IContract Tryz.prog GG 234 (Jj dj):=YOf.toI Tryz.func234 (by kernel_rfl) (by kernel_rfl)
theorem YA2:IContract Tryz.prog GG 235 (Jj dk):=YOe.toI Tryz.func235 (by kernel_rfl) (by kernel_rfl)
theorem YA1:IContract Tryz.prog GG 236 (Jj dn):=YOd.toI Tryz.func236 (by kernel_rfl) (by kernel_rfl)
theorem YA0:IContract Tryz.prog GG 238 (Jj dN):=YOc.toI Tryz.func238 (by kernel_rfl) (by kernel_rfl)
theorem YAz:IContract Tryz.prog GG 239 (Jj dO):=YOb.toI Tryz.func239 (by kernel_rfl) (by kernel_rfl)
theorem YAy:IContract Tryz.prog GG 240 (Jj dP):=YOa.toI Tryz.func240 (by kernel_rfl) (by kernel_rfl)
theorem Ygz:IContract Tryz.prog GG 184 (Kp (fun o=>3≤o∧o≤11)):=by
 refine JX (T:=RV [] [(195,QR),(231,Jj eI),(232,Jj eK),(233,Jj eJ),(234,Jj dj),(235,Jj dk),(236,Jj dn),(238,Jj dN),(239,Jj dO),(240,Jj dP)] [(197,L8)]) ywh (qN all_nil (all_cons UH (all_cons Ysk (all_cons Ysi (all_cons Ysj (all_cons YA3 (all_cons YA2 (all_cons YA1 (all_cons YA0 (all_cons YAz (all_cons YAy all_nil)))))))))) (all_cons pS all_nil)) ?_;intro ds st r hr;obtain⟨key,v,b,s,x,hm,af,hk,rfl,rfl⟩:=Jx hr;obtain⟨hv,a3,a4,hl,ah,a0,hf,hn⟩:=hm;have a5:=M3 hk;have a1:=hk;unfold HZ at a1;have a6:HE x.op=2:=by unfold HE; rw[YYN,if_pos af]
 have aa:Jk L8 [Y key 0,I J 0] (st++[⟨f_,1,D1 x,f_⟩])=s_ (I J (Dx s 0)):=eU hv (Rp hk _) 0 (by omega) (by omega);have ab:Jk L8 [Y key 0,I J 1] (st++[⟨f_,1,D1 x,f_⟩])=s_ (I J (Dx s 1)):=eU hv (Rp hk _) 1 (by omega) (by omega);have M:=Ud hv hk x 2 2 rfl (s_ (Ea x.op (Dx s 1) (Dx s 0)).1) (by omega) hl ah a0;simp only[Mw]at M;have ac:∀ f:Nat,NQ 0 1 f_ (U [.clo f []])=s_ (.clo f []):=fun f=>(rfl)
 have ad:DN v b s x=if(Ea x.op (Dx s 1) (Dx s 0)).2=0 then .pop 2 (s_ (Ea x.op (Dx s 1) (Dx s 0)).1) none else .err (Ea x.op (Dx s 1) (Dx s 0)).2:=by
  unfold DN; rw[YYN,YYN,YYN,YYN,YYN,YYN,YYN]
 have N:=lY (st++[⟨f_,1,D1 x,f_⟩]) x.op f_ (U [.nilf]);have ae:x.op=3∨x.op=4∨x.op=5∨x.op=6∨x.op=7∨x.op=8∨x.op=9∨x.op=10∨x.op=11:=by omega
 unfold s8;rcases ae with e|e|e|e|e|e|e|e|e
 ·have hb:=O7 (Yha (Dx s 1) (Dx s 0)) (st++[⟨f_,1,D1 x,f_⟩]);have E:Ea x.op (Dx s 1) (Dx s 0)=Gt (Dx s 1) (Dx s 0):=by unfold Ea; rw[if_pos e]
  rw[show Gx x.op FH=s_ 231 by rw[e]; rfl]at N
  by_cases he:(Ea x.op (Dx s 1) (Dx s 0)).2=0
  ·rw[ad,if_pos he];rw[E]at he M;rw[E]
   push_cast(disch:=lia)[Ez,F2,Fp,Ey,A0,Kk _ _ _ _ G1,KF,EU,N,ac,aa,ab,hb,he,M]
  ·rw[ad,if_neg he];rw[E]at he;rw[E]
   push_cast(disch:=lia)[Ez,F2,Ey,Kk _ _ _ _ G1,KF,EU,N,ac,aa,ab,hb,he]
 ·have hb:=O7 (Yg8 (Dx s 1) (Dx s 0)) (st++[⟨f_,1,D1 x,f_⟩]);have E:Ea x.op (Dx s 1) (Dx s 0)=Gp (Dx s 1) (Dx s 0):=by unfold Ea; rw[YYN,if_pos e]
  rw[show Gx x.op FH=s_ 232 by rw[e]; rfl]at N
  by_cases he:(Ea x.op (Dx s 1) (Dx s 0)).2=0
  ·rw[ad,if_pos he];rw[E]at he M;rw[E]
   push_cast(disch:=lia)[Ez,F2,Fp,Ey,A0,Kk _ _ _ _ G1,KF,EU,N,ac,aa,ab,hb,he,M]
  ·rw[ad,if_neg he];rw[E]at he;rw[E]
   push_cast(disch:=lia)[Ez,F2,Ey,Kk _ _ _ _ G1,KF,EU,N,ac,aa,ab,hb,he]
 ·have hb:=O7 (Yg9 (Dx s 1) (Dx s 0)) (st++[⟨f_,1,D1 x,f_⟩]);have E:Ea x.op (Dx s 1) (Dx s 0)=Gr (Dx s 1) (Dx s 0):=by unfold Ea; rw[YYN,YYN,if_pos e]
  rw[show Gx x.op FH=s_ 233 by rw[e]; rfl]at N
  by_cases he:(Ea x.op (Dx s 1) (Dx s 0)).2=0
  ·rw[ad,if_pos he];rw[E]at he M;rw[E]
   push_cast(disch:=lia)[Ez,F2,Fp,Ey,A0,Kk _ _ _ _ G1,KF,EU,N,ac,aa,ab,hb,he,M]
  ·rw[ad,if_neg he];rw[E]at he;rw[E]
   push_cast(disch:=lia)[Ez,F2,Ey,Kk _ _ _ _ G1,KF,EU,N,ac,aa,ab,hb,he]
 ·have hb:=O7 (Yp1 (Dx s 1) (Dx s 0)) (st++[⟨f_,1,D1 x,f_⟩]);have E:Ea x.op (Dx s 1) (Dx s 0)=(min (Dx s 1) (Dx s 0),0):=by unfold Ea; rw[YYN,YYN,YYN,if_pos e]
  rw[show Gx x.op FH=s_ 234 by rw[e]; rfl]at N
  by_cases he:(Ea x.op (Dx s 1) (Dx s 0)).2=0
  ·rw[ad,if_pos he];rw[E]at he M;rw[E]
   push_cast(disch:=lia)[Ez,F2,Fp,Ey,A0,Kk _ _ _ _ G1,KF,EU,N,ac,aa,ab,hb,M]
  ·rw[E]at he;exact absurd rfl he
 ·have hb:=O7 (Yp0 (Dx s 1) (Dx s 0)) (st++[⟨f_,1,D1 x,f_⟩]);have E:Ea x.op (Dx s 1) (Dx s 0)=(max (Dx s 1) (Dx s 0),0):=by unfold Ea; rw[YYN,YYN,YYN,YYN,if_pos e]
  rw[show Gx x.op FH=s_ 235 by rw[e]; rfl]at N
  by_cases he:(Ea x.op (Dx s 1) (Dx s 0)).2=0
  ·rw[ad,if_pos he];rw[E]at he M;rw[E]
   push_cast(disch:=lia)[Ez,F2,Fp,Ey,A0,Kk _ _ _ _ G1,KF,EU,N,ac,aa,ab,hb,M]
  ·rw[E]at he;exact absurd rfl he
 ·have hb:=O7 (Ypz (Dx s 1) (Dx s 0)) (st++[⟨f_,1,D1 x,f_⟩]);have E:Ea x.op (Dx s 1) (Dx s 0)=Eu (Dx s 1) (Dx s 0) 8:=by unfold Ea; rw[YYN,YYN,YYN,YYN,YYN,if_pos e]
  rw[show Gx x.op FH=s_ 236 by rw[e]; rfl]at N
  by_cases he:(Ea x.op (Dx s 1) (Dx s 0)).2=0
  ·rw[ad,if_pos he];rw[E]at he M;rw[E]
   push_cast(disch:=lia)[Ez,F2,Fp,Ey,A0,Kk _ _ _ _ G1,KF,EU,N,ac,aa,ab,hb,he,M]
  ·rw[ad,if_neg he];rw[E]at he;rw[E]
   push_cast(disch:=lia)[Ez,F2,Ey,Kk _ _ _ _ G1,KF,EU,N,ac,aa,ab,hb,he]
 ·have hb:=O7 (Ypy (Dx s 1) (Dx s 0)) (st++[⟨f_,1,D1 x,f_⟩]);have E:Ea x.op (Dx s 1) (Dx s 0)=Eu (Dx s 1) (Dx s 0) 9:=by unfold Ea; rw[YYN,YYN,YYN,YYN,YYN,YYN,if_pos e]
  rw[show Gx x.op FH=s_ 238 by rw[e]; rfl]at N
  by_cases he:(Ea x.op (Dx s 1) (Dx s 0)).2=0
  ·rw[ad,if_pos he];rw[E]at he M;rw[E]
   push_cast(disch:=lia)[Ez,F2,Fp,Ey,A0,Kk _ _ _ _ G1,KF,EU,N,ac,aa,ab,hb,he,M]
  ·rw[ad,if_neg he];rw[E]at he;rw[E]
   push_cast(disch:=lia)[Ez,F2,Ey,Kk _ _ _ _ G1,KF,EU,N,ac,aa,ab,hb,he]
 ·have hb:=O7 (Ypx (Dx s 1) (Dx s 0)) (st++[⟨f_,1,D1 x,f_⟩]);have E:Ea x.op (Dx s 1) (Dx s 0)=Eu (Dx s 1) (Dx s 0) 10:=by unfold Ea; rw[YYN,YYN,YYN,YYN,YYN,YYN,YYN,if_pos e]
  rw[show Gx x.op FH=s_ 239 by rw[e]; rfl]at N
  by_cases he:(Ea x.op (Dx s 1) (Dx s 0)).2=0
  ·rw[ad,if_pos he];rw[E]at he M;rw[E]
   push_cast(disch:=lia)[Ez,F2,Fp,Ey,A0,Kk _ _ _ _ G1,KF,EU,N,ac,aa,ab,hb,he,M]
  ·rw[ad,if_neg he];rw[E]at he;rw[E]
   push_cast(disch:=lia)[Ez,F2,Ey,Kk _ _ _ _ G1,KF,EU,N,ac,aa,ab,hb,he]
 ·have hb:=O7 (Ypw (Dx s 1) (Dx s 0)) (st++[⟨f_,1,D1 x,f_⟩]);have E:Ea x.op (Dx s 1) (Dx s 0)=(if Dx s 1<Dx s 0 then 1 else 0,0):=by unfold Ea; rw[YYN,YYN,YYN,YYN,YYN,YYN,YYN,YYN,if_pos e]
  rw[show Gx x.op FH=s_ 240 by rw[e]; rfl]at N
  by_cases he:(Ea x.op (Dx s 1) (Dx s 0)).2=0
  ·rw[ad,if_pos he];rw[E]at he M;rw[E]
   push_cast(disch:=lia)[Ez,F2,Fp,Ey,A0,Kk _ _ _ _ G1,KF,EU,N,ac,aa,ab,hb,M]
  ·rw[E]at he;exact absurd rfl he
def MI(o:Option PI.Obj)(sz:Nat)(ks:List Nat)(ok:Bool)(zero k:D):Option D:=match o with
 |some o=>if o.isMap && o.sz == sz && (IJ sz ks k k).isSome then match L1 sz ks k o.els 0 with
   |some (s_ i)=>match o.els[i]? with
    |some el=>s_ (if ok then .tup [H8 sz el,V t_]else H8 sz el)
    |none=>none
   |some none=>s_ (if ok then .tup [zero,V f_]else zero)
   |none=>none
  else none
 |none=>none
theorem Kw(st:St)(sz:Nat)(ks:List Nat)(ok:Bool)(E k:D)(key:Nat):JU st sz ks ok E (.mapv key) k=MI st[key]? sz ks ok E k:=(rfl)
def Lo(o:Option PI.Obj)(sz:Nat)(ks:List Nat)(k v:D):Option PI.Obj:=match o with
 |some o=>if o.isMap && o.sz == sz && !o.lent && v.isCell && k.cells.length+1 == sz && k.cells.all D.isCell && IJ sz ks k k == s_ t_ then match L1 sz ks k o.els 0 with
   |some (s_ i)=>s_ {o with els:=o.els.set i (U (k.cells++[v]))}
   |some none=>s_ {o with els:=o.els++[U (k.cells++[v])]}
   |none=>none
  else none
 |none=>none
theorem J7(st:St)(sz:Nat)(ks:List Nat)(k v:D)(key:Nat):Tp st sz ks (.mapv key) k v=(Lo st[key]? sz ks k v).map fun o=>st.set key o:=by
 simp only[Tp,Lo]
 cases st[key]? with
 |none=>rfl
 |some o=>
  simp only
  split
  ·cases L1 sz ks k o.els 0 with
   |none=>rfl
   |some r=>cases r <;> rfl
  ·rfl
def OI:List (Int×Nat):=[(1,5000177),(2,5000178),(12,5000179),(13,5000180),(14,5000181),(15,5000182),(16,5000183)]
def XK(k:Nat)(p:Int×Nat):D:=U [I J p.1,.clo p.2 [Y k 0]]
def Kd(k i:Nat):List D:=(OI.take i).map (XK k)
theorem K7(k:Nat):Lo (s_ ⟨f_,2,[],f_⟩) 2 [0] (I J 1) (.clo 5000177 [Y k 0])=s_ ⟨f_,2,Kd k 1,f_⟩:=(rfl)
theorem K6(k:Nat):Lo (s_ ⟨f_,2,Kd k 1,f_⟩) 2 [0] (I J 2) (.clo 5000178 [Y k 0])=s_ ⟨f_,2,Kd k 2,f_⟩:=(rfl)
theorem K5(k:Nat):Lo (s_ ⟨f_,2,Kd k 2,f_⟩) 2 [0] (I J 12) (.clo 5000179 [Y k 0])=s_ ⟨f_,2,Kd k 3,f_⟩:=(rfl)
theorem K4(k:Nat):Lo (s_ ⟨f_,2,Kd k 3,f_⟩) 2 [0] (I J 13) (.clo 5000180 [Y k 0])=s_ ⟨f_,2,Kd k 4,f_⟩:=(rfl)
theorem K3(k:Nat):Lo (s_ ⟨f_,2,Kd k 4,f_⟩) 2 [0] (I J 14) (.clo 5000181 [Y k 0])=s_ ⟨f_,2,Kd k 5,f_⟩:=(rfl)
theorem K2(k:Nat):Lo (s_ ⟨f_,2,Kd k 5,f_⟩) 2 [0] (I J 15) (.clo 5000182 [Y k 0])=s_ ⟨f_,2,Kd k 6,f_⟩:=(rfl)
theorem K1(k:Nat):Lo (s_ ⟨f_,2,Kd k 6,f_⟩) 2 [0] (I J 16) (.clo 5000183 [Y k 0])=s_ ⟨f_,2,Kd k 7,f_⟩:=(rfl)
theorem RJ(k:Nat)(op:Int)(f:Nat)(h:Gx op OI=s_ f):MI (s_ ⟨f_,2,Kd k 7,f_⟩) 2 [0] t_ .nilf (I J op)=s_ (.tup [.clo f [Y k 0],V t_]):=by
 simp only[OI,Gx]at h
 split at h
 ·simp only[Dp]at h; subst h; rename_i e; subst e; rfl
 split at h
 ·simp only[Dp]at h; subst h; rename_i e; subst e; rfl
 split at h
 ·simp only[Dp]at h; subst h; rename_i e; subst e; rfl
 split at h
 ·simp only[Dp]at h; subst h; rename_i e; subst e; rfl
 split at h
 ·simp only[Dp]at h; subst h; rename_i e; subst e; rfl
 split at h
 ·simp only[Dp]at h; subst h; rename_i e; subst e; rfl
 split at h
 ·simp only[Dp]at h; subst h; rename_i e; subst e; rfl
 cases h
theorem YCj(k:Nat)(op:Int)(h:3≤op∧op≤11):MI (s_ ⟨f_,2,Kd k 7,f_⟩) 2 [0] t_ .nilf (I J op)=s_ (.tup [.nilf,V f_]):=by
 have:op=3∨op=4∨op=5∨op=6∨op=7∨op=8∨op=9∨op=10∨op=11:=by omega
 rcases this with rfl|rfl|rfl|rfl|rfl|rfl|rfl|rfl|rfl <;> rfl
theorem QL(st:St)(a b:PI.Obj):(st++[a]++[b])[st.length+1]?=s_ b:=by have:=F2 (st++[a]) b;rwa [MW]at this
theorem QK(st:St)(a b:PI.Obj):(st++[a]++[b])[st.length]?=s_ a:=by rw[IQ (by rw[MW]; omega),F2]
theorem QQ(st:St)(a b b':PI.Obj):(st++[a]++[b]).set (st.length+1) b'=st++[a]++[b']:=by have:=Yjd (st++[a]) b b';rwa [MW]at this
structure eOK (v:Int×List Int) (b:Int) (s:Sta) (x:Ins):Prop where
 v:ED v
 b0:0≤b
 b1:b≤64
 l:s.stack.length≤64
 p0:0≤s.pc
 p1:s.pc≤100000
 f:Fz x=t_
def Gj(v:Int×List Int)(b:Int)(s:Sta)(x:Ins):Out:=if(s.stack.length:Int)<HE x.op then .err 200 else DN v b s x
def La(st:St)(key:Nat)(s:Sta)(x:Ins):St:=if(s.stack.length:Int)<HE x.op then st else st++[⟨f_,1,D1 x,f_⟩]++[⟨f_,2,Kd key 7,f_⟩]
def XJ(ds:List D)(st:St)(r:D×St):Prop:=∃ (key:Nat) (v:Int×List Int) (b:Int) (s:Sta) (x:Ins),eOK v b s x∧HZ st key v s.pc s.fuel s.status s.clause (EA s.stack) b∧ds=[Y key 0,Dk x]∧r=Ey (La st key s x) key v b s x (Gj v b s x)
def ic:List D→St→Option (D×St):=FX XJ
theorem YEv:Ix XJ:=by rintro ds st r r' ⟨key,v,b,s,x,hm,hk,rfl,rfl⟩ ⟨ae,v',b',s',x',E,M,h,rfl⟩;simp only[Aa,D.ptr.injEq,and_true,O3]at h;obtain⟨rfl,rfl⟩:=h;obtain⟨rfl,N,h2,h3,h4,h5,rfl⟩:=nS hm.v E.v hk M;have h6:=SB.1 h5;obtain⟨a1,a2,a3,a4,a5⟩:=s;obtain⟨b1,b2,b3,b4,b5⟩:=s';dsimp only at N h2 h3 h4 h6;subst N; subst h2; subst h3; subst h4; subst h6;rfl
theorem Yww(E:eOK v b s x)(hk:HZ st key v s.pc s.fuel s.status s.clause (EA s.stack) b):ic [Y key 0,Dk x] st=s_ (Ey (La st key s x) key v b s x (Gj v b s x)):=
 Mg YEv ⟨key,v,b,s,x,E,hk,rfl,rfl⟩
theorem J3:qd 2=s_ ⟨f_,2,[],f_⟩:=(rfl)
theorem YMv:IContract Tryz.prog GG 157 ic:=by
 refine JX (T:=tb [(109,eL)] [(177,Kp (·=1)),(178,Kp (·=2)),(179,Kp (·=12)),(180,Kp (·=13)),(181,Kp (·=14)),(182,Kp (·=15)),(183,Kp (·=16)),(184,Kp (fun o=>3≤o∧o≤11))])
  ywg (DD (all_cons Yqh all_nil) (all_cons YE8 (all_cons YFa (all_cons Ygy (all_cons YE5 (all_cons YFb (all_cons YMt (all_cons YE9 (all_cons Ygz all_nil))))))))) ?_
 intro ds st r hr;obtain⟨key,v,b,s,x,⟨hv,af,ah,hl,a0,a1,hf⟩,hk,rfl,rfl⟩:=Jx hr;have ab:=M3 hk;have E:=hk;unfold HZ at E;have ac:=wk x.op;have a4:=Ync hf;unfold s9
 by_cases h1:(s.stack.length:Int)<HE x.op
 ·rw[show Gj v b s x=.err 200 from if_pos h1,show La st key s x=st from if_pos h1]
  push_cast(disch:=lia)[Ez,En,IQ ab,E,J2 hv,ID,F2,EU,ac,h1,Ey]
 ·rw[show Gj v b s x=DN v b s x from if_neg h1,show La st key s x=_ from if_neg h1];have hm:mOK v b s x:=⟨hv,af,ah,hl,a0,a1,hf,by omega⟩;have a2:HZ (st++[⟨f_,1,D1 x,f_⟩]++[⟨f_,2,Kd key 7,f_⟩]) key v s.pc s.fuel s.status s.clause (EA s.stack) b:=Rp (Rp hk _) _
  have fin:∀ (P:Int→Prop),P x.op→∃ d st',Kp P [Y key 0,Dk x] (st++[⟨f_,1,D1 x,f_⟩]++[⟨f_,2,Kd key 7,f_⟩])=s_ (d,st')∧Ey (st++[⟨f_,1,D1 x,f_⟩]++[⟨f_,2,Kd key 7,f_⟩]) key v b s x (DN v b s x)=(d,st'):=
   fun P hP=>⟨_,_,Ywq hm hP a2,rfl⟩
  have ae:x.op=1∨x.op=2∨x.op=12∨x.op=13∨x.op=14∨x.op=15∨x.op=16∨(3≤x.op∧x.op≤11):=by omega
  rcases ae with e|e|e|e|e|e|e|e
  ·obtain⟨d,st',M,N⟩:=fin (·=1) e;have hg:=RJ key x.op _ (show Gx x.op OI=s_ 5000177 by rw[e]; rfl);rw[N]
   push_cast(disch:=lia)[Ez,En,IQ ab,E,J2 hv,ID,F2,EU,ac,h1,MW,J7,Kw,QL,QQ,QK,J3,K7,K6,K5,K4,K3,K2,K1,hg,Nj,Qj _ 5000177 177 _ rfl (by decide),M]
  ·obtain⟨d,st',M,N⟩:=fin (·=2) e;have hg:=RJ key x.op _ (show Gx x.op OI=s_ 5000178 by rw[e]; rfl);rw[N]
   push_cast(disch:=lia)[Ez,En,IQ ab,E,J2 hv,ID,F2,EU,ac,h1,MW,J7,Kw,QL,QQ,QK,J3,K7,K6,K5,K4,K3,K2,K1,hg,Nj,Qj _ 5000178 178 _ rfl (by decide),M]
  ·obtain⟨d,st',M,N⟩:=fin (·=12) e;have hg:=RJ key x.op _ (show Gx x.op OI=s_ 5000179 by rw[e]; rfl);rw[N]
   push_cast(disch:=lia)[Ez,En,IQ ab,E,J2 hv,ID,F2,EU,ac,h1,MW,J7,Kw,QL,QQ,QK,J3,K7,K6,K5,K4,K3,K2,K1,hg,Nj,Qj _ 5000179 179 _ rfl (by decide),M]
  ·obtain⟨d,st',M,N⟩:=fin (·=13) e;have hg:=RJ key x.op _ (show Gx x.op OI=s_ 5000180 by rw[e]; rfl);rw[N]
   push_cast(disch:=lia)[Ez,En,IQ ab,E,J2 hv,ID,F2,EU,ac,h1,MW,J7,Kw,QL,QQ,QK,J3,K7,K6,K5,K4,K3,K2,K1,hg,Nj,Qj _ 5000180 180 _ rfl (by decide),M]
  ·obtain⟨d,st',M,N⟩:=fin (·=14) e;have hg:=RJ key x.op _ (show Gx x.op OI=s_ 5000181 by rw[e]; rfl);rw[N]
   push_cast(disch:=lia)[Ez,En,IQ ab,E,J2 hv,ID,F2,EU,ac,h1,MW,J7,Kw,QL,QQ,QK,J3,K7,K6,K5,K4,K3,K2,K1,hg,Nj,Qj _ 5000181 181 _ rfl (by decide),M]
  ·obtain⟨d,st',M,N⟩:=fin (·=15) e;have hg:=RJ key x.op _ (show Gx x.op OI=s_ 5000182 by rw[e]; rfl);rw[N]
   push_cast(disch:=lia)[Ez,En,IQ ab,E,J2 hv,ID,F2,EU,ac,h1,MW,J7,Kw,QL,QQ,QK,J3,K7,K6,K5,K4,K3,K2,K1,hg,Nj,Qj _ 5000182 182 _ rfl (by decide),M]
  ·obtain⟨d,st',M,N⟩:=fin (·=16) e;have hg:=RJ key x.op _ (show Gx x.op OI=s_ 5000183 by rw[e]; rfl);rw[N]
   push_cast(disch:=lia)[Ez,En,IQ ab,E,J2 hv,ID,F2,EU,ac,h1,MW,J7,Kw,QL,QQ,QK,J3,K7,K6,K5,K4,K3,K2,K1,hg,Nj,Qj _ 5000183 183 _ rfl (by decide),M]
  ·obtain⟨d,st',M,N⟩:=fin (fun o=>3≤o∧o≤11) e;have hg:=YCj key x.op e;rw[N]
   push_cast(disch:=lia)[Ez,En,IQ ab,E,J2 hv,ID,F2,EU,ac,h1,MW,J7,Kw,QL,QQ,QK,J3,K7,K6,K5,K4,K3,K2,K1,hg,Nj,M]
def FA(s:Sta):Out→Sta
 |.err e=>{s with status:=10+e}
 |.pop k push pc=>{s with pc:=pc.getD (s.pc+1),stack:=s.stack.take (s.stack.length - k)++push.toList}
 |.set p t c=>{s with pc:=p,status:=t,clause:=c}
def DI(s:Sta):Sta:={s with fuel:=s.fuel - 1}
def FU(v:Int×List Int)(b:Int)(s:Sta)(x:Ins):Sta:=if s.fuel=0 then {s with status:=220} else FA (DI s) (Gj v b (DI s) x)
structure aOK (c:List Ins) (v:Int×List Int) (s:Sta) (b:Int):Prop where
 v:ED v
 b0:0≤b
 b1:b≤64
 l:s.stack.length≤64
 p0:0≤s.pc
 p1:s.pc<c.length
 cl:c.length≤4096
 f:c.all Fz=t_
 u0:0≤s.fuel
 u1:s.fuel≤32768
theorem Yxj(op a b:Int):0≤(Ea op a b).2∧(Ea op a b).2≤100:=by
 have M:∀ c,0≤(IX c).2∧(IX c).2≤100:=fun c=>by unfold IX; split <;> exact⟨by simp,by simp⟩
 have N:∀ a b m,0≤(Eu a b m).2∧(Eu a b m).2≤100:=fun a b m=>by
  unfold Eu
  split
  ·split <;> exact⟨by simp,by simp⟩
  ·exact⟨by simp,by simp⟩
 have ha:0≤(Gt a b).2∧(Gt a b).2≤100:=by unfold Gt; split <;> first|exact M _|exact⟨by simp,by simp⟩
 have hs:0≤(Gp a b).2∧(Gp a b).2≤100:=by unfold Gp; split <;> first|exact M _|exact⟨by simp,by simp⟩
 have hm:0≤(Gr a b).2∧(Gr a b).2≤100:=by unfold Gr; split <;> first|exact M _|exact⟨by simp,by simp⟩
 have E:∀ n:Int,0≤((n,0):Int×Int).2∧((n,0):Int×Int).2≤100:=fun n=>⟨by simp,by simp⟩;unfold Ea
 split; · exact ha
 split; · exact hs
 split; · exact hm
 split; · exact E _
 split; · exact E _
 split; · exact N _ _ _
 split; · exact N _ _ _
 split; · exact N _ _ _
 split; · exact E _
 exact E _
theorem iZ{e:Int}(h:Gj v b s x=.err e):1≤e∧e≤1000:=by
 have E:=Yxj x.op (Dx s 1) (Dx s 0);unfold Gj DN at h
 repeat' split at h
 all_goals first|(cases h; done)|(simp only[Out.err.injEq]at h; omega)
theorem YEx{E pc:Option Int}(h:Gj v b s x=.pop k E pc):¬ (s.stack.length:Int)<HE x.op:=by intro M;unfold Gj at h;rw[if_pos M]at h;cases h
theorem YEw{c:Int}(h:Gj v b s x=.set p t c):¬ (s.stack.length:Int)<HE x.op:=by intro E;unfold Gj at h;rw[if_pos E]at h;cases h
theorem Ynr(v:Int×List Int)(hv:ED v)(s:Sta)(b:Int):Ed [I J 0,I J 0,I J 0,I J 0,I J 0,I J 0,I J 0,I J 0,I J 0,I J 0,I J 0,I J 0,I J 0,I J 0,I J 0,I J 0,I J 0,I J 0,I J 0,I J 0,I J 0,O 0 [] t_,I J 0]
  [(0,17,D6 v),(17,5,DS s),(22,1,I J b)]=s_ (Fk v s.pc s.fuel s.status s.clause (EA s.stack) b):=by refine(JV (cs':=Ev v++([I J 0,I J 0,I J 0,I J 0,O 0 [] t_]++[I J 0])) (A:=[]) (B:=CZ 17 (I J 0)) (C:=[I J 0,I J 0,I J 0,I J 0,O 0 [] t_,I J 0]) (xs:=Ev v) rfl rfl rfl rfl rfl (Kx hv) (mY (v.1::v.2))).trans ?_;refine(JV (cs':=Ev v++(Ep s++[I J 0])) (A:=Ev v) (B:=[I J 0,I J 0,I J 0,I J 0,O 0 [] t_]) (C:=[I J 0]) (xs:=Ep s) rfl rfl (Kx hv) rfl rfl rfl (Yso s)).trans ?_;refine(JV (cs':=Fk v s.pc s.fuel s.status s.clause (EA s.stack) b) (A:=Ev v++Ep s) (B:=[I J 0]) (C:=[]) (xs:=[I J b]) (by simp) (by simp[Fk,Ep]) (by simp[Kx hv,Ep]) rfl rfl rfl rfl).trans ?_;rfl
theorem Yxc(v:Int×List Int)(p f t c:Int)(sz:Nat)(els:List D)(E:Bool)(b:Int):D4 (U (Fk v p f t c (O sz els E) b))=s_ (Fk v p f t c (O sz els E) b):=by
 have h:(Fk v p f t c (O sz els E) b).all D.isCell=t_:=by
  rw[Fk,BB,lI,mY];rfl
 rw[show D4 (U (Fk v p f t c (O sz els E) b))=if(Fk v p f t c (O sz els E) b).all D.isCell then s_ (Fk v p f t c (O sz els E) b)else none from rfl,if_pos h]
theorem fg(v:Int×List Int)(p f t c:Int)(l:List Int)(b:Int):D4 (U (Fk v p f t c (EA l) b))=s_ (Fk v p f t c (EA l) b):=Yxc v p f t c _ _ _ b
theorem yZd(l:List Int):(EA l).isCell=t_:=(rfl)
theorem Ymu(st:St)(l:List Int):D2 st (EA l)=s_ (EA l):=by simp only[EA,lg,L3]
theorem YLm(E o1 o2 M N o5 o6:PI.Obj)(A:List Int)(m:Nat)(h:A.length=m):D2 [E,o1,o2,M,N,o5,o6,⟨t_,1,A.map nI,f_⟩] (.row 7 m 0 m)=s_ (EA A):=by
 have h1:HO [E,o1,o2,M,N,o5,o6,⟨t_,1,A.map nI,f_⟩] 7 m 0 m=s_ (1,A.map nI):=by
  simp only[HO,Bl,AG];rw[if_pos (by simp[h]),Bs,AL (by simp[h])]
 simp only[D2,h1,Ae];rfl
theorem RD(s:Sta)(n:Int):Eb (s_ ⟨f_,1,Ep s,f_⟩) 1 1 (I J n)=s_ ⟨f_,1,Ep {s with fuel:=n},f_⟩:=(rfl)
theorem Yw(s:Sta)(n:Int):Eb (s_ ⟨f_,1,Ep s,f_⟩) 1 2 (I J n)=s_ ⟨f_,1,Ep {s with status:=n},f_⟩:=(rfl)
theorem MA(a b c d S:D):Eb (s_ ⟨f_,1,[I J 0,I J 0,I J 0,I J 0,O 0 [] t_],f_⟩) 5 0 (U [a,b,c,d,S])=if [a,b,c,d,S].all D.isCell then s_ ⟨f_,1,[a,b,c,d,S],f_⟩else none:=by simp only[Eb]; rfl
theorem MJ(lent:Bool)(a b c d S:D):DJ (s_ ⟨f_,1,[a,b,c,d,S],lent⟩) 5 t_ 0=s_ (U [a,b,c,d,S]):=(rfl)
def qG:List D→Option D:=Dq (α:=List Ins×(Int×List Int)×Sta×Int) (fun a=>[O (nz 3 (a.1.map Dk)) (a.1.map Dk) f_,D6 a.2.1,DS a.2.2.1,I J a.2.2.2]) (fun a=>aOK a.1 a.2.1 a.2.2.1 a.2.2.2) (fun a=>DS (FU a.2.1 a.2.2.2 a.2.2.1 (a.1.getD a.2.2.1.pc.toNat default)))
theorem Yw0(c:List Ins)(v:Int×List Int)(s:Sta)(b:Int)(h:aOK c v s b):qG [O (nz 3 (c.map Dk)) (c.map Dk) f_,D6 v,DS s,I J b]=s_ (DS (FU v b s (c.getD s.pc.toNat default))):=
 DK (fun⟨a0,a1,E,M⟩ ⟨b0,b1,N,b3⟩ h=>by simp only[Aa,D.slc.injEq,D.int.injEq,true_and,and_true,Ha,Nu,Hz]at h; simp[h]) (c,v,s,b) h
theorem VW(c:List Ins)(v:Int×List Int)(s:Sta)(b:Int)(h:aOK c v s b):@wW GG (tb [] [(157,ic)]) ZB.code (Dm [O (nz 3 (c.map Dk)) (c.map Dk) f_,D6 v,DS s,I J b]) [] ⟨Ds ZB.res (DS (FU v b s (c.getD s.pc.toNat default)))⟩:=by
 obtain⟨hv,ah,a0,hl,a1,a9,hc,hf,ba,bb⟩:=h;have ae:s.pc.toNat<c.length:=by omega
 unfold ZB
 by_cases h1:s.fuel=0
 ·rw[show FU v b s (c.getD s.pc.toNat default)={s with status:=220} from if_pos h1]
  push_cast(disch:=lia)[D5,Fx,F8,Hs,h1,Yw,G9,HR,HA]
 ·rw[show FU v b s (c.getD s.pc.toNat default)=FA (DI s) (Gj v b (DI s) (c.getD s.pc.toNat default))from if_neg h1];have N:=fun st=>Nn st c f_ s.pc.toNat ae;rw[show((s.pc.toNat:Nat):Int)=s.pc by omega]at N
  have af:Fz (c.getD s.pc.toNat default)=t_:=by
   rw[Ai,Aj ae];exact Ah.1 hf _ (Bv ae)
  obtain⟨x,a2⟩:∃ x,c.getD s.pc.toNat default=x:=⟨_,rfl⟩;rw[a2]at N af ⊢;have N:∀ st:St,GK st 3 (O (nz 3 (c.map Dk)) (c.map Dk) f_) (I J (DI s).pc)=s_ (.eptr (Dk x) 0):=N;have he:eOK v b (DI s) x:=⟨hv,ah,a0,hl,a1,by show s.pc≤100000; omega,af⟩;have E:=Yww (st:=[⟨f_,1,Ev v,f_⟩,⟨f_,1,Ep (DI s),f_⟩,⟨f_,1,[I J 0,I J 0,I J 0,I J 0,O 0 [] t_],f_⟩,⟨f_,1,Fk v (DI s).pc (DI s).fuel (DI s).status (DI s).clause (EA (DI s).stack) b,f_⟩]) (key:=3) he rfl;have ab:=Ynr v hv (DI s) b;have ac:(⟨s.pc,s.fuel - 1,s.status,s.clause,s.stack⟩:Sta)=DI s:=rfl
  cases ho:Gj v b (DI s) x with
  |err e=>
   have bc:=iZ ho;rw[ho]at E
   have M:∃ l,La [⟨f_,1,Ev v,f_⟩,⟨f_,1,Ep (DI s),f_⟩,⟨f_,1,[I J 0,I J 0,I J 0,I J 0,O 0 [] t_],f_⟩,⟨f_,1,Fk v (DI s).pc (DI s).fuel (DI s).status (DI s).clause (EA (DI s).stack) b,f_⟩] 3 (DI s) x=⟨f_,1,Ev v,f_⟩::⟨f_,1,Ep (DI s),f_⟩::⟨f_,1,[I J 0,I J 0,I J 0,I J 0,O 0 [] t_],f_⟩::l:=by
    unfold La; split <;> exact⟨_,rfl⟩
   obtain⟨l,M⟩:=M;rw[M]at E;simp only[Ey,Ag]at E;have a3:¬ e=0:=by omega
   push_cast(disch:=lia)[D5,Fx,F8,Hs,h1,EI,RD,ac,Fu hv,G9,ab,fg,Hb,N,Ju,E,a3,DQ,Yw,HR,HA,FA]
  |pop k push pc=>
   rw[ho]at E;have M:=YEx ho;rw[show La [⟨f_,1,Ev v,f_⟩,⟨f_,1,Ep (DI s),f_⟩,⟨f_,1,[I J 0,I J 0,I J 0,I J 0,O 0 [] t_],f_⟩,⟨f_,1,Fk v (DI s).pc (DI s).fuel (DI s).status (DI s).clause (EA (DI s).stack) b,f_⟩] 3 (DI s) x=_ from if_neg M]at E;simp only[Ey]at E
   cases push with
   |none=>
    simp only[KY,IV,DZ,Ag,Al,Af,CJ,Bn]at E
    push_cast(disch:=lia)[D5,Fx,F8,Hs,h1,EI,RD,ac,Fu hv,G9,ab,fg,Hb,N,Ju,E,En,rk hv,MA,MJ,FA]
    simp only[Option.toList_none,Af];rfl
   |some a=>
    have hi:=fun o0 o1 o2 o3 o4 o5 o6=>YLm o0 o1 o2 o3 o4 o5 o6 ((DI s).stack.take ((DI s).stack.length - k)++[a]) ((DI s).stack.length - k+1) (by rw[Ac,AA]; simp);simp only[KY,IV,DZ,Ag,Al,CJ,Bn,Ak,Ar]at E
    push_cast(disch:=lia)[D5,Fx,F8,Hs,h1,EI,RD,ac,Fu hv,G9,ab,fg,Hb,N,Ju,E,En,rk hv,MA,MJ,FA,hi]
    rfl
  |set p t cl=>
   rw[ho]at E;have M:=YEw ho;rw[show La [⟨f_,1,Ev v,f_⟩,⟨f_,1,Ep (DI s),f_⟩,⟨f_,1,[I J 0,I J 0,I J 0,I J 0,O 0 [] t_],f_⟩,⟨f_,1,Fk v (DI s).pc (DI s).fuel (DI s).status (DI s).clause (EA (DI s).stack) b,f_⟩] 3 (DI s) x=_ from if_neg M]at E;simp only[Ey,DZ,Ag,Al,CJ,Bn]at E
   push_cast(disch:=lia)[D5,Fx,F8,Hs,h1,EI,RD,ac,Fu hv,G9,ab,fg,Hb,N,Ju,E,En,rk hv,MA,MJ,yZd,Ymu,FA]
   rfl
theorem X2:Contract Tryz.prog GG 110 qG:=
 DM (T:=tb [] [(157,ic)]) yLb (DD all_nil (all_cons YMv all_nil)) (fun a h=>VW a.1 a.2.1 a.2.2.1 a.2.2.2 h)
def Fg(c:List Ins)(s:Sta)(b:Int):Prop:=s.pc<0∨(c.length:Int)≤s.pc∨s.fuel<0∨32768<s.fuel∨s.clause≠0∨b<0∨64<b∨64 - b<(s.stack.length:Int)
instance (c:List Ins) (s:Sta) (b:Int):Decidable (Fg c s b):=by unfold Fg; infer_instance
def H2(c:List Ins)(s:Sta)(b:Int):Int:=if s.status≠0 then 211 else if(FO c).2≠0 then(FO c).2 else if Fg c s b then 1 else 0
def mi:List D→Option D:=Dq (α:=List Ins×Sta×Int) (fun a=>[O (nz 3 (a.1.map Dk)) (a.1.map Dk) f_,DS a.2.1,I J a.2.2]) (fun a=>a.1.length≤4294967296) (fun a=>I J (H2 a.1 a.2.1 a.2.2))
theorem Yg5(c:List Ins)(s:Sta)(b:Int)(h:c.length≤4294967296):mi [O (nz 3 (c.map Dk)) (c.map Dk) f_,DS s,I J b]=s_ (I J (H2 c s b)):=
 DK (fun⟨a0,a1,E⟩ ⟨b0,b1,M⟩ h=>by simp only[Aa,D.slc.injEq,D.int.injEq,true_and,and_true,Ha,Nu]at h; simp[h]) (c,s,b) h
theorem Yzw(c:List Ins)(s:Sta)(b:Int)(h:c.length≤4294967296):@wW GG (tb [(47,dK)] []) Y9.code (Dm [O (nz 3 (c.map Dk)) (c.map Dk) f_,DS s,I J b]) [] ⟨Ds Y9.res (I J (H2 c s b))⟩:=by
 have hv:=uZ c (by omega);unfold Y9
 by_cases E:s.status=0
 ·by_cases M:(FO c).2=0
  ·have e:H2 c s b=if Fg c s b then 1 else 0:=by unfold H2; rw[if_neg (by simp[E]),if_neg (by simp[M])]
   rw[e]
   by_cases N:s.pc<0
   ·rw[if_pos (.inl N)]
    push_cast(disch:=lia)[Fx,Hb,J4,E,hv,M,N]
   by_cases q2:(c.length:Int)≤s.pc
   ·rw[if_pos (.inr (.inl q2))]
    push_cast(disch:=lia)[Fx,Hb,J4,E,hv,M,N,q2]
   by_cases q3:s.fuel<0
   ·rw[if_pos (.inr (.inr (.inl q3)))]
    push_cast(disch:=lia)[Fx,Hb,Hs,J4,E,hv,M,N,q2,q3]
   by_cases q4:32768<s.fuel
   ·rw[if_pos (.inr (.inr (.inr (.inl q4))))]
    push_cast(disch:=lia)[Fx,Hb,Hs,J4,E,hv,M,N,q2,q3,q4]
   by_cases q5:s.clause=0
   ·by_cases q6:b<0
    ·rw[if_pos (.inr (.inr (.inr (.inr (.inr (.inl q6))))))]
     push_cast(disch:=lia)[Fx,Hb,Hs,J4,Kv,E,hv,M,N,q2,q3,q4,q5,q6]
    by_cases q7:64<b
    ·rw[if_pos (.inr (.inr (.inr (.inr (.inr (.inr (.inl q7)))))))]
     push_cast(disch:=lia)[Fx,Hb,Hs,J4,Kv,E,hv,M,N,q2,q3,q4,q5,q6,q7]
    by_cases q8:64 - b<(s.stack.length:Int)
    ·rw[if_pos (.inr (.inr (.inr (.inr (.inr (.inr (.inr q8)))))))]
     push_cast(disch:=lia)[Fx,Hb,Hs,J4,Kv,Hc,ID,EI,E,hv,M,N,q2,q3,q4,q5,q6,q7,q8]
    ·rw[if_neg (by unfold Fg; omega)]
     push_cast(disch:=lia)[Fx,Hb,Hs,J4,Kv,Hc,ID,EI,E,hv,M,N,q2,q3,q4,q5,q6,q7,q8]
   ·rw[if_pos (.inr (.inr (.inr (.inr (.inl q5)))))]
    push_cast(disch:=lia)[Fx,Hb,Hs,J4,Kv,E,hv,M,N,q2,q3,q4,q5]
  ·rw[show H2 c s b=(FO c).2 by unfold H2; rw[if_neg (by simp[E]),if_pos M]]
   push_cast(disch:=lia)[Fx,J4,E,hv,M]
 ·rw[show H2 c s b=211 from if_pos E]
  push_cast(disch:=lia)[Fx,J4,E]
theorem YFg:Contract Tryz.prog GG 108 mi:=
 DM yRz (DD (all_cons z9 all_nil) all_nil) (fun a h=>Yzw a.1 a.2.1 a.2.2 h)
theorem nD(h:(FO c).2=0):c.length≤4096∧0<c.length∧c.all Fz=t_∧∃ s,Gb c.length c 0 (GF c.length) 0=s_ s∧s≤64:=by
 unfold FO at h
 split at h
 ·simp at h
 split at h
 ·simp at h
 rename_i N E;have h3:¬ c.length=0:=fun e=>E (.inl e)
 have M:c.all Fz=t_:=by
  cases hb:c.all Fz with
  |true=>rfl
  |false=>exact absurd (.inr hb) E
 cases hv:Gb c.length c 0 (GF c.length) 0 with
 |none=>rw[hv]at h; simp[KN]at h
 |some s=>
  rw[hv]at h;simp only[KN]at h
  split at h
  ·simp at h
  ·exact⟨by omega,by omega,M,s,rfl,by omega⟩
theorem Ybe(hv:ED v)(h:H2 c s b=0):aOK c v s b∧s.status=0∧s.clause=0∧(FO c).2=0:=by
 unfold H2 at h
 split at h
 ·simp at h
 split at h
 ·rename_i M; exact absurd h M
 split at h
 ·simp at h
 rename_i h1 M h3;have N:s.status=0:=by omega
 have E:(FO c).2=0:=by omega
 obtain⟨a1,a2,a3,_⟩:=nD E;unfold Fg at h3;exact⟨⟨hv,by omega,by omega,by omega,by omega,by omega,by omega,a3,by omega,by omega⟩,N,by omega,E⟩
def JY:Sta:=⟨0,0,0,0,[]⟩
def Kq(f:Int):Sta:=if f<0∨32768<f then JY else {JY with fuel:=f}
def RL(f:Int):Int:=if f<0∨32768<f then 1 else 0
theorem Ynq:Ed [I J 0,I J 0,I J 0,I J 0,O 0 [] t_] []=s_ [I J 0,I J 0,I J 0,I J 0,O 0 [] t_]:=(rfl)
theorem YEo(f:Int):Ed [I J 0,I J 0,I J 0,I J 0,O 0 [] t_] [(1,1,I J f)]=s_ [I J 0,I J f,I J 0,I J 0,O 0 [] t_]:=(rfl)
def mj:List D→Option D:=Dq (α:=Int) (fun a=>[I J a]) (fun a=>True) (fun a=>.tup [DS (Kq a),I J (RL a)])
theorem Yg3(f:Int):mj [I J f]=s_ (.tup [DS (Kq f),I J (RL f)]):=
 DK (fun a b h=>by simp only[Aa,D.int.injEq,true_and,and_true]at h; simp[h]) (f) trivial
theorem Yzu(f:Int):@wW GG (tb [] []) Y6.code (Dm [I J f]) [] ⟨Ds Y6.res (.tup [DS (Kq f),I J (RL f)])⟩:=by
 unfold Y6
 by_cases E:f<0
 ·rw[show Kq f=JY from if_pos (.inl E),show RL f=1 from if_pos (.inl E)]
  push_cast(disch:=lia)[F8,E,Ynq,MA,MJ]
  rfl
 ·by_cases M:32768<f
  ·rw[show Kq f=JY from if_pos (.inr M),show RL f=1 from if_pos (.inr M)]
   push_cast(disch:=lia)[F8,E,M,Ynq,MA,MJ]
   rfl
  ·rw[show Kq f={JY with fuel:=f} from YYN,show RL f=0 from YYN]
   push_cast(disch:=lia)[F8,E,M,YEo,MA,MJ]
   rfl
theorem YFf:Contract Tryz.prog GG 48 mj:=
 DM yR2 (DD all_nil all_nil) (fun a h=>Yzu a)
def Je(c:List Ins)(s:Sta):Ins:=c.getD s.pc.toNat default
def YJa(c:List Ins)(v:Int×List Int)(s:Sta):Sta:=if H2 c s 0=0 then FU v 0 s (Je c s)else JY
def YBd:List D→Option D:=Dq (α:=List Ins×(Int×List Int)×Sta) (fun a=>[O (nz 3 (a.1.map Dk)) (a.1.map Dk) f_,D6 a.2.1,DS a.2.2]) (fun a=>a.1.length≤4294967296∧ED a.2.1) (fun a=>.tup [DS (YJa a.1 a.2.1 a.2.2),I J (H2 a.1 a.2.2 0)])
theorem YMx(c:List Ins)(v:Int×List Int)(s:Sta)(h:c.length≤4294967296∧ED v):YBd [O (nz 3 (c.map Dk)) (c.map Dk) f_,D6 v,DS s]=s_ (.tup [DS (YJa c v s),I J (H2 c s 0)]):=
 DK (fun⟨a0,a1,E⟩ ⟨b0,b1,M⟩ h=>by simp only[Aa,D.slc.injEq,and_true,Ha,Nu,Hz]at h; simp[h]) (c,v,s) h
def F1(o:Opn):Sta:=⟨o.pc,o.fuel,o.status,o.clause,o.top⟩
def Kz:Opn:=⟨0,0,0,0,[],0,DH⟩
def Ym(c:List Ins)(o:Opn):Prop:=0<o.fuel∧0<o.depth∧(o.top.length:Int)<HE (Je c (F1 o)).op
instance (c:List Ins) (o:Opn):Decidable (Ym c o):=by unfold Ym; infer_instance
def PG(s:Sta)(o:Opn):Opn:=⟨s.pc,s.fuel,s.status,s.clause,s.stack,o.depth,o.rest⟩
def HP(c:List Ins)(o:Opn):Int:=if H2 c (F1 o) o.depth=0 then(if Ym c o then 390 else 0)else H2 c (F1 o) o.depth
def IP(c:List Ins)(v:Int×List Int)(o:Opn):Opn:=if HP c o=0 then PG (FU v o.depth (F1 o) (Je c (F1 o))) o else Kz
theorem OX(cs:List D):Ed cs []=s_ cs:=(rfl)
theorem Ol(o:Opn):Ed [I J 0,I J 0,I J 0,I J 0,O 0 [] t_] [(0,1,I J o.pc),(1,1,I J o.fuel),(2,1,I J o.status),(3,1,I J o.clause),(4,1,EA o.top)]=s_ (Ep (F1 o)):=(rfl)
theorem Oj(s:Sta):D.agg (Ep s)=DS s:=(rfl)
theorem Me(x:Ins)(st:St):FE st 0 (.eptr (Dk x) 0)=s_ (.eptr (Dk x) 0):=(rfl)
theorem Mj(st:St)(x:Ins):FL st 1 f_ (.eptr (Dk x) 0)=s_ (I J x.op):=(rfl)
theorem So(s:Sta)(o:Opn):Ed (Fh 0 0 0 0 (O 0 [] t_) 0 DH) [(0,1,I J s.pc),(1,1,I J s.fuel),(2,1,I J s.status),(3,1,I J s.clause),(4,1,EA s.stack),(5,1,I J o.depth),(6,32,Dl o.rest)]=s_ (Fv (PG s o)):=kX ..
theorem Th(a b c d:Int)(t:D)(k:Int)(r:Dig)(o:Opn):Eb (s_ ⟨f_,1,Fh a b c d t k r,f_⟩) 38 0 (U (Fv o))=s_ ⟨f_,1,Fv o,f_⟩:=Of ..
theorem S5(lent:Bool)(o:Opn):DJ (s_ ⟨f_,1,Fv o,lent⟩) 38 t_ 0=s_ (DU o):=Mu ..
def ml:List D→Option D:=Dq (α:=List Ins×(Int×List Int)×Opn) (fun a=>[O (nz 3 (a.1.map Dk)) (a.1.map Dk) f_,D6 a.2.1,DU a.2.2]) (fun a=>a.1.length≤4294967296∧ED a.2.1) (fun a=>.tup [DU (IP a.1 a.2.1 a.2.2),I J (HP a.1 a.2.2)])
theorem Yg2(c:List Ins)(v:Int×List Int)(o:Opn)(h:c.length≤4294967296∧ED v):ml [O (nz 3 (c.map Dk)) (c.map Dk) f_,D6 v,DU o]=s_ (.tup [DU (IP c v o),I J (HP c o)]):=
 DK (fun⟨a0,a1,E⟩ ⟨b0,b1,M⟩ h=>by simp only[Aa,D.slc.injEq,and_true,Ha,Nv,Hz]at h; simp[h]) (c,v,o) h
theorem Yzt(c:List Ins)(v:Int×List Int)(o:Opn)(h:c.length≤4294967296∧ED v):@wW GG (tb [(108,mi),(109,eL),(110,qG)] []) ZM.code (Dm [O (nz 3 (c.map Dk)) (c.map Dk) f_,D6 v,DU o]) [] ⟨Ds ZM.res (.tup [DU (IP c v o),I J (HP c o)])⟩:=by
 obtain⟨hc,hv⟩:=h;have N:=Yg5 c (F1 o) o.depth hc;unfold ZM;have l0:=gP f_ o.pc o.fuel o.status o.clause (EA o.top) o.depth o.rest;have l1:=gQ f_ o.pc o.fuel o.status o.clause (EA o.top) o.depth o.rest;have l2:=UQ f_ o.pc o.fuel o.status o.clause (EA o.top) o.depth o.rest;have l3:=gR f_ o.pc o.fuel o.status o.clause (EA o.top) o.depth o.rest;have l4:=UR f_ o.pc o.fuel o.status o.clause (EA o.top) o.depth o.rest;have l5:=Oa f_ o.pc o.fuel o.status o.clause (EA o.top) o.depth o.rest;have l6:=gW f_ o.pc o.fuel o.status o.clause (EA o.top) o.depth o.rest;rw[← IN]at l0 l1 l2 l3 l4 l5 l6
 by_cases M:H2 c (F1 o) o.depth=0
 ·obtain⟨ha,hs,a4,a5⟩:=Ybe hv M;have a3:o.pc.toNat<c.length:=by have:=ha.p0; have:=ha.p1; simp only[F1]at *; omega
  have hx:=fun st=>Nn st c f_ o.pc.toNat a3;rw[show((o.pc.toNat:Nat):Int)=o.pc by have:=ha.p0; simp only[F1]at *; omega]at hx;have hx:∀ st:St,GK st 3 (O (nz 3 (c.map Dk)) (c.map Dk) f_) (I J o.pc)=s_ (.eptr (Dk (Je c (F1 o))) 0):=hx;have hn:=wk (Je c (F1 o)).op;rw[M]at N
  by_cases h2:Ym c o
  ·have e:HP c o=390:=by unfold HP; rw[if_pos M,if_pos h2]
   rw[show IP c v o=Kz from if_neg (by rw[e]; decide),e];obtain⟨q1,q2,q3⟩:=h2
   push_cast(disch:=lia)[D5,H4,KQ,H3,F8,l0,l1,l2,l3,l4,l5,Ol,Oj,HR,G9,HA,N,q1,q2,ID,hx,Me,Mj,hn,q3,OX,Of,Mu,Pn]
   rfl
  ·have e:HP c o=0:=by unfold HP; rw[if_pos M,if_neg h2]
   rw[show IP c v o=PG (FU v o.depth (F1 o) (Je c (F1 o))) o from if_pos e,e];have E:=Yw0 c v (F1 o) o.depth ha;rw[show c.getD (F1 o).pc.toNat default=Je c (F1 o)from rfl]at E;generalize FU v o.depth (F1 o) (Je c (F1 o))=s at*
   by_cases q1:0<o.fuel
   ·by_cases q2:0<o.depth
    ·have q3:¬ (o.top.length:Int)<HE (Je c (F1 o)).op:=fun q=>h2 ⟨q1,q2,q⟩
     push_cast(disch:=lia)[D5,H4,KQ,H3,F8,l0,l1,l2,l3,l4,l5,l6,Ol,Oj,HR,G9,HA,Mi,N,q1,q2,ID,hx,Me,Mj,hn,q3,Fu hv,Fa,GO,E,qK,Hb,Hs,J4,Kv,Hc,So,Th,S5,Gw]
    ·push_cast(disch:=lia)[D5,H4,KQ,H3,F8,l0,l1,l2,l3,l4,l5,l6,Ol,Oj,HR,G9,HA,Mi,N,q1,q2,Fu hv,Fa,GO,E,qK,Hb,Hs,J4,Kv,Hc,So,Th,S5,Gw]
   ·push_cast(disch:=lia)[D5,H4,KQ,H3,F8,l0,l1,l2,l3,l4,l5,l6,Ol,Oj,HR,G9,HA,Mi,N,q1,Fu hv,Fa,GO,E,qK,Hb,Hs,J4,Kv,Hc,So,Th,S5,Gw]
 ·have e:HP c o=H2 c (F1 o) o.depth:=if_neg M;rw[show IP c v o=Kz from if_neg (by rw[e]; exact M),e]
  push_cast(disch:=lia)[D5,H4,KQ,H3,F8,l0,l1,l2,l3,l4,l5,Ol,Oj,HR,G9,HA,N,M,OX,Of,Mu,Pn]
  rfl
theorem YFe:Contract Tryz.prog GG 55 ml:=
 DM yHi (DD (all_cons YFg (all_cons Yqh (all_cons X2 all_nil))) all_nil) (fun a h=>Yzt a.1 a.2.1 a.2.2 h)
def HD(c:List Ins):D:=O (nz 3 (c.map Dk)) (c.map Dk) f_
theorem Yol{a b:List Ins}:HD a=HD b↔a=b:=by refine⟨fun h=>?_,fun h=>by rw[h]⟩;simp only[HD,D.slc.injEq,and_true]at h;exact(List.map_inj_right (fun x y h=>O3.1 h)).1 h.2
def oV(s:Sta):PI.Obj:=⟨f_,1,Ep s,f_⟩
inductive RunY (y:List D→St→Option (D×St)) (k kc kv:Nat):List Sta→Nat→St→St→Prop
 |stop {s:Sta} {l:List Sta} {i:Nat} {st st1:St} (h:y [.int .i64 (i:Int),DS s] st=s_ (.bool f_,st1)):RunY y k kc kv (s::l) i st st1
 |last {s:Sta} {i:Nat} {st st1:St} (h:y [.int .i64 (i:Int),DS s] st=s_ (.bool t_,st1)) (hk:st1[k]?=s_ (oV s)):RunY y k kc kv [s] i st st1
 |next {s s':Sta} {l:List Sta} {i:Nat} {st st1 st2:St} (h:y [.int .i64 (i:Int),DS s] st=s_ (.bool t_,st1)) (hk:st1[k]?=s_ (oV s)) (hc:st1[kc]?=st[kc]?) (hv:st1[kv]?=st[kv]?)
   (hl:RunY y k kc kv (s'::l) (i+1) (st1.set k (oV s')) st2):RunY y k kc kv (s::s'::l) i st st2
def q9(c:List Ins)(out:Int)(i:Nat)(D:Nat→Int):Prop:=
 ∀ j,i≤j→j<c.length→0≤D j→¬ KM (c.getD j default) (D j)∧D j≤out∧FC (c.getD j default) (D j)≤out∧
  ∀ n∈Kj (c.getD j default) j,(j:Int)<n∧n<c.length∧D n.toNat=FC (c.getD j default) (D j)
structure Good (c:List Ins) (D:Nat→Int) (s:Sta):Prop where
 st:s.status=0
 cl:s.clause=0
 p0:0≤s.pc
 p1:s.pc<c.length
 d:D s.pc.toNat=s.stack.length
 u0:0≤s.fuel
 u1:s.fuel≤32768
structure Last (s:Sta):Prop where
 st:s.status≠0
 s0:0≤s.status
 s1:s.status≤100000
 l:s.stack.length≤64
theorem Good.len{D:Nat→Int}(E:q9 c 64 0 D)(h:Good c D s):s.stack.length≤64:=by have M:=h.d;have N:=h.p0;have h3:=h.p1;have:=(E s.pc.toNat (by omega) (by omega) (by omega)).2.1;omega
theorem Good.ready{D:Nat→Int}(hv:(FO c).2=0)(E:q9 c 64 0 D)(h:Good c D s):H2 c s 0=0:=by unfold H2;have hl:=h.len E;have M:=h.st;have N:=h.p0;have h3:=h.p1;have h4:=h.u0;have h5:=h.u1;have h6:=h.cl;rw[YYN,YYN,if_neg (by unfold Fg; omega)]
theorem Yre(h:c.all Fz=t_)(hj:j<c.length):Fz (c.getD j default)=t_:=by grind
theorem Ygm(h:Fz x=t_):1≤x.op∧x.op≤16:=⟨(of_decide_eq_true h).1,(of_decide_eq_true h).2.1⟩
theorem Yug{op:Int}(h:1≤op∧op≤16):HE op=(Ek op).1:=by
 have:op=1∨op=2∨op=3∨op=4∨op=5∨op=6∨op=7∨op=8∨op=9∨op=10∨op=11∨op=12∨op=13∨op=14∨op=15∨op=16:=by omega
 rcases this with rfl|rfl|rfl|rfl|rfl|rfl|rfl|rfl|rfl|rfl|rfl|rfl|rfl|rfl|rfl|rfl <;> rfl
theorem Good.step{D:Nat→Int}(hf:c.all Fz=t_)(hD:q9 c 64 0 D)(h:Good c D s) :
  Last (FU v 0 s (Je c s))∨(Good c D (FU v 0 s (Je c s))∧s.pc<(FU v 0 s (Je c s)).pc∧(FU v 0 s (Je c s)).fuel=s.fuel - 1):=by
 have hl:=h.len hD;obtain⟨h1,h2,h3,h4,h5,h6,h7⟩:=h;have hj:s.pc.toNat<c.length:=by omega
 have a0:Fz (Je c s)=t_:=Yre hf hj;have a1:=Ygm a0;obtain⟨q1,q2,q3,q4⟩:=hD s.pc.toNat (by omega) hj (by omega);rw[show c.getD s.pc.toNat default=Je c s from rfl]at q1 q3 q4;generalize Je c s=x at*;rw[h5]at q1 q3 q4;have a9:=Yug a1;unfold FU
 by_cases hu:s.fuel=0
 ·rw[if_pos hu];exact .inl ⟨by simp,by simp,by simp,hl⟩
 rw[if_neg hu]
 have a4:¬ ((DI s).stack.length:Int)<HE x.op:=by
  unfold KM at q1
  show ¬ ((s.stack.length:Int)<HE x.op)
  omega
 have hex:Gj v 0 (DI s) x=DN v 0 (DI s) x:=if_neg a4
 have nx:∀ (n:Int),n∈Kj x s.pc.toNat→s.pc<n∧n<c.length∧D n.toNat=FC x s.stack.length:=fun n hn=>by
  grind
 have M:x.op≠14→x.op≠15→x.op≠16→s.pc<s.pc+1∧s.pc+1<c.length∧D (s.pc+1).toNat=FC x s.stack.length:=fun a b d=>by
  refine nx (s.pc+1) ?_;unfold Kj;grind
 have a6:x.op=13∨x.op=14→s.pc<x.n∧x.n<c.length∧D x.n.toNat=FC x s.stack.length:=fun a=>by
  refine nx x.n ?_;unfold Kj;grind
 -- bc each outcome comes to
 have bd:∀ e,Gj v 0 (DI s) x=.err e→Last (FA (DI s) (Gj v 0 (DI s) x)):=fun e he=>by
  have:=iZ he;rw[he];exact⟨by simp only[FA]; omega,by simp only[FA]; omega,by simp only[FA]; omega,hl⟩
 have E:∀ k push pc,Gj v 0 (DI s) x=.pop k push pc→k≤s.stack.length→((s.stack.length - k+push.toList.length:Nat):Int)=FC x s.stack.length→(s.pc<pc.getD (s.pc+1)∧pc.getD (s.pc+1)<c.length∧D (pc.getD (s.pc+1)).toNat=FC x s.stack.length)→
   Good c D (FA (DI s) (Gj v 0 (DI s) x))∧s.pc<(FA (DI s) (Gj v 0 (DI s) x)).pc∧(FA (DI s) (Gj v 0 (DI s) x)).fuel=s.fuel - 1:=fun k push pc he hk b4 ad=>by
  rw[he];refine⟨⟨h1,h2,?_,ad.2.1,?_,?_,?_⟩,ad.1,rfl⟩
  ·show 0≤pc.getD (s.pc+1); omega
  ·show D (pc.getD (s.pc+1)).toNat=((s.stack.take (s.stack.length - k)++push.toList).length:Int)
   grind
  ·show 0≤s.fuel - 1; omega
  ·show s.fuel - 1≤32768; omega
 have hd:(Ek x.op).1≤s.stack.length:=by unfold KM at q1; omega
 by_cases o1:x.op=1
 ·have he:Gj v 0 (DI s) x=.pop 0 (s_ x.n) none:=by
   rw[hex]; unfold DN;rw[if_pos o1,if_neg];have:FC x s.stack.length=s.stack.length+1:=by unfold FC; rw[o1]; simp[Ek]
   show ¬ (64:Int)≤0+s.stack.length
   omega
  refine .inr (E _ _ _ he (by omega) ?_ (M (by omega) (by omega) (by omega)));unfold FC; rw[o1]; simp[Ek]
 by_cases o2:x.op=2
 ·have bf:¬ (64:Int)≤0+(DI s).stack.length:=by
   have:FC x s.stack.length=s.stack.length+1:=by unfold FC; rw[o2]; simp[Ek]
   show ¬ (64:Int)≤0+s.stack.length
   omega
  by_cases b1:JK v.1 (JI x.n)=0
  ·have he:Gj v 0 (DI s) x=.err 181:=by
    rw[hex]; unfold DN;grind
   grind
  by_cases b2:EH v.2 x.n.toNat < -9007199254740992∨9007199254740992<EH v.2 x.n.toNat
  ·have he:Gj v 0 (DI s) x=.err 3:=by
    rw[hex]; unfold DN;grind
   grind
  have he:Gj v 0 (DI s) x=.pop 0 (s_ (EH v.2 x.n.toNat)) none:=by
   rw[hex]; unfold DN;grind
  refine .inr (E _ _ _ he (by omega) ?_ (M (by omega) (by omega) (by omega)));unfold FC; rw[o2]; simp[Ek]
 by_cases N:x.op=12
 ·have he:Gj v 0 (DI s) x=.pop 1 (s_ (if x.n≤Dx (DI s) 0∧Dx (DI s) 0≤x.m then 1 else 0)) none:=by
   rw[hex]; unfold DN;grind
  have:(Ek x.op).1=1:=by rw[N]; rfl
  refine .inr (E _ _ _ he (by omega) ?_ (M (by omega) (by omega) (by omega)));unfold FC; rw[N]; simp[Ek]; omega
 by_cases aa:x.op=13
 ·have he:Gj v 0 (DI s) x=.pop 1 none (if Dx (DI s) 0=0 then s_ x.n else none):=by
   rw[hex]; unfold DN;grind
  have:(Ek x.op).1=1:=by rw[aa]; rfl
  refine .inr (E _ _ _ he (by omega) ?_ ?_)
  ·unfold FC; rw[aa]; simp[Ek]; omega
  ·grind
 by_cases ab:x.op=14
 ·have he:Gj v 0 (DI s) x=.set x.n s.status s.clause:=by
   rw[hex]; unfold DN;rw[if_neg o1,if_neg o2,if_neg N,if_neg aa,if_pos ab]; rfl
  obtain⟨m1,m2,m3⟩:=a6 (.inr ab)
  right
  rw[he];refine⟨⟨h1,h2,?_,m2,?_,?_,?_⟩,m1,rfl⟩
  ·show 0≤x.n; omega
  ·show D x.n.toNat=(s.stack.length:Int)
   rw[m3]; unfold FC; rw[ab]; simp[Ek]
  ·show 0≤s.fuel - 1; omega
  ·show s.fuel - 1≤32768; omega
 by_cases a7:x.op=15
 ·have he:Gj v 0 (DI s) x=.set s.pc 1 x.n:=by
   rw[hex]; unfold DN;rw[if_neg o1,if_neg o2,if_neg N,if_neg aa,if_neg ab,if_pos a7]; rfl
  left
  rw[he];exact⟨by simp[FA],by simp[FA],by simp[FA],hl⟩
 by_cases b5:x.op=16
 ·have he:Gj v 0 (DI s) x=.err 180:=by
   rw[hex]; unfold DN;grind
  grind
 by_cases b1:(Ea x.op (Dx (DI s) 1) (Dx (DI s) 0)).2=0
 ·have he:Gj v 0 (DI s) x=.pop 2 (s_ (Ea x.op (Dx (DI s) 1) (Dx (DI s) 0)).1) none:=by
   rw[hex]; unfold DN;grind
  have e2:Ek x.op=(2,1):=by
   unfold Ek;grind
  rw[e2]at hd;refine .inr (E _ _ _ he (by omega) ?_ (M (by omega) (by omega) (by omega)));unfold FC; rw[e2]; simp; omega
 ·have he:Gj v 0 (DI s) x=.err (Ea x.op (Dx (DI s) 1) (Dx (DI s) 0)).2:=by
   rw[hex]; unfold DN;grind
  grind
structure Der where
 code:List Ins
 env:Int×List Int
 am:Int
 er:Int
 lv:List Dig
 deriving Inhabited
section
variable {v:Int×List Int} (hv:ED v) (lent:Bool) (cs L:D) (a e:Int)
include hv
end
structure okS (s:Sta):Prop where
 l:s.stack.length≤4294967296
 t:s.status≤1000000
theorem Ut(st:St):∀ {A:List D} (B:List D),A.all EY=t_→Es st (A++B)=(Es st B).map (A++·)
 |[],B,_=>by simp
 |d::A,B,h=>by
  simp only[AX,Ad]at h;rw[Ag,Es,n8 st h.1,Ut st B h.2];cases Es st B <;> rfl
theorem fG(v:Int×List Int):(Ev v).all EY=t_:=by rw[lI]; exact Ro (v.1::v.2)
theorem FT(S l:St)(k:Nat):(S++l)[S.length+k]?=l[k]?:=by rw[AJ (by omega)]; congr 1; omega
theorem Hi(S l:St):(S++l)[S.length]?=l[0]?:=FT S l 0
theorem FW(S l:St)(k:Nat)(x:PI.Obj):(S++l).set (S.length+k) x=S++l.set k x:=by rw[BX _ _ (by omega)]; congr 2; omega
theorem Hp(S l:St)(x:PI.Obj):(S++l).set S.length x=S++l.set 0 x:=FW S l 0 x
theorem Nz(fr:Frame)(st:St)(t n:Nat)(ag:Bool)(l:List PRes):Eo ⟨fr,st⟩ (.cell t n ag::l)=(FL st n ag (fr t)).bind fun d=>(Eo ⟨fr,st⟩ l).map (d::·):=by simp only[Eo];cases FL st n ag (fr t) <;> cases Eo ⟨fr,st⟩ l <;> rfl
def GH(p:Dig×Dig):D:=U (Dj p.1++Dj p.2)
theorem Tr{a b:Dig×Dig}:GH a=GH b↔a=b:=by refine⟨fun h=>?_,fun h=>by rw[h]⟩;obtain⟨a1,N⟩:=a;obtain⟨b1,b2⟩:=b;simp only[GH,D.agg.injEq]at h;obtain⟨E,M⟩:=A9 h (by rw[Ef,Ef]);rw[Nq.1 E,Nq.1 M]
theorem Yob(p:Dig×Dig):(Dj p.1++Dj p.2).all D.isCell=t_:=by rw[BB,Lu (fun _=>rfl),Lu (fun _=>rfl)]; rfl
theorem mP(p:Dig×Dig):(Dj p.1++Dj p.2).length=64:=by simp[Ef]
theorem LM(p:Dig×Dig):D4 (GH p)=s_ (Dj p.1++Dj p.2):=by rw[show D4 (GH p)=if(Dj p.1++Dj p.2).all D.isCell then s_ (Dj p.1++Dj p.2)else none from rfl,if_pos (Yob p)]
theorem Pc(lent:Bool)(p:Dig×Dig):DJ (s_ ⟨f_,1,Dj p.1++Dj p.2,lent⟩) 64 t_ 0=s_ (GH p):=LP 1 lent _ 64 (mP p)
theorem pC(p:Dig×Dig):Qw 2 32 t_ (GH p) (I J 0)=s_ (Dl p.1):=
 Ycz (A:=[]) (B:=Dj p.1) (C:=Dj p.2) rfl rfl (Ef _)
theorem pw(p:Dig×Dig):Qw 2 32 t_ (GH p) (I J 1)=s_ (Dl p.2):=
 Ycz (A:=Dj p.1) (B:=Dj p.2) (C:=[]) (by rw[Af]) (Ef _) (Ef _)
theorem eW(p:Dig×Dig):Jq (GH p)=t_:=by simp only[GH,Jq,BB];rw[show(Dj p.1).all EY=t_ from Rn _,show(Dj p.2).all EY=t_ from Rn _]; rfl
theorem ri(p:Dig×Dig):hk (GH p)=[]:=VL (eW p)
theorem qy(n:Nat)(σ:List Nat)(p:Dig×Dig):EO n σ (GH p)=GH p:=Rj n σ (eW p)
theorem Nh(st:St)(p:Dig×Dig):Ej st (GH p)=s_ (GH p):=O8 st (eW p)
theorem Tv(p:Dig×Dig):keys (GH p)=[]:=Ql (eW p)
def El(p:Int×Dig):D:=U (I J p.1::Dj p.2)
def Jr(cl:Dig×Dig)(d:Dig):Int:=if cl.1=d then 0 else if cl.2=d then 1 else -1
def FK(cl:Dig×Dig)(r:Dig×Int):Int×Dig:=if r.2=0 then(Jr cl r.1,r.1)else(0,DH)
def FY(cl:Dig×Dig):PI.Obj:=⟨f_,1,Dj cl.1++Dj cl.2,f_⟩
def FG(p:Int×Dig):PI.Obj:=⟨f_,1,I J p.1::Dj p.2,f_⟩
def zD(f:Nat)(sp:List D→St→Option (D×St))(ds:List D)(st:St)(r:D×St):Prop:=∃ (cl:Dig×Dig) (caps:List D) (d:Dig) (e:Int),StOK st∧ds=[GH cl,.clo f caps]∧
 sp caps (st++[FY cl,FG (0,DH)])=s_ (.tup [Dl d,I J e],st++[FY cl,FG (0,DH)])∧r=(.tup [El (FK cl (d,e)),I J e],st)
theorem vH(f:Nat)(sp:List D→St→Option (D×St)):Ix (zD f sp):=by rintro ds st r r' ⟨cl,N,d,e,_,rfl,h2,rfl⟩ ⟨ab,M,d',e',_,h,E,rfl⟩;simp only[Aa,D.clo.injEq,and_true,true_and,Tr]at h;obtain⟨rfl,rfl⟩:=h;rw[h2]at E;simp only[Dp,DO,D.tup.injEq,Aa,Kt,D.int.injEq,true_and,and_true]at E;obtain⟨rfl,rfl⟩:=E;rfl
def Sv(f:Nat)(sp:List D→St→Option (D×St)):List D→St→Option (D×St):=FX (zD f sp)
theorem Uh{S:St}(h:StOK S)(l:St)(hl:∀ o∈l,o.els.all EY=t_):StOK (S++l):=
 h.app _ fun o E _ x M=>Rj _ _ (Zy (Ah.1 (hl o E) x M))
theorem Mr(d:Dig):(Dj d).all EY=t_:=Rn d
theorem SW(E:Dig×Dig):(FY E).els.all EY=t_:=by simp only[FY,BB,Mr]; rfl
theorem Uo(p:Int×Dig):(FG p).els.all EY=t_:=by simp only[FG,AX,Mr]; rfl
theorem NF{S l:St}(h:StOK S):cut S.length (S++l)=S:=Yy0 h rfl
theorem Yul(n:Nat)(a:Int)(d:Dig)(e:Int):Ip n (.tup [U (I J a::Dj d),I J e])=.tup [U (I J a::Dj d),I J e]:=by
 have h:H6 n (U (I J a::Dj d))=U (I J a::Dj d):=by
  rw[← j0]; exact Rj n [] (d:=U (I J a::Dj d)) (by simp only[Jq,AX,Mr]; rfl)
 simp only[Ip,Aw,Ba,h];rfl
theorem RK(p:Int×Dig)(a:Int)(d:Dig):Eb (s_ (FG p)) 33 0 (U (I J a::Dj d))=s_ (FG (a,d)):=
 LQ 1 _ _ 33 (by simp[Ef]) (by simp[Ef]) (by rw[AX,Lu (fun _=>rfl)]; rfl)
theorem S6(p:Int×Dig):DJ (s_ (FG p)) 33 t_ 0=s_ (El p):=LP 1 f_ _ 33 (by simp[Ef])
theorem YKs(E:Dig×Dig):DJ (s_ (FY E)) 64 t_ 0=s_ (GH E):=Pc f_ E
theorem Sp(a:Int)(d:Dig):Ed (I J 0::Dj DH) [(0,1,I J a),(1,32,Dl d)]=s_ (I J a::Dj d):=by refine(JV (cs:=I J 0::Dj DH) (cs':=I J a::Dj DH) (A:=[]) (B:=[I J 0]) (xs:=[I J a]) rfl rfl rfl rfl rfl rfl rfl).trans ?_;refine(JV (cs:=I J a::Dj DH) (cs':=I J a::Dj d) (A:=[I J a]) (B:=Dj DH) (C:=[]) (xs:=Dj d) (by simp) (by simp) rfl (Ef _) rfl (Ef _) (Lu (fun _=>rfl) d)).trans ?_;rfl
theorem dV(n:Nat)(p:Int×Dig)(e:Int):Ip n (.tup [El p,I J e])=.tup [El p,I J e]:=Yul n p.1 p.2 e
theorem Ydg(f:Nat)(hf:f<5000000)(sp:List D→St→Option (D×St))(hc:IContract Tryz.prog GG f sp):IContract Tryz.prog GG 45 (Sv f sp):=by
 refine Zt (T:=tb [] [(f,sp)]) yF2 (DD all_nil (all_cons hc all_nil)) ?_;intro ds st r hr;obtain⟨cl,M,d,e,E,rfl,h2,rfl⟩:=Jx hr;unfold rT;have hT:(tb [] [(f,sp)]).i f=s_ sp:=by rw[Wf,vn,if_pos rfl]
 have af:LH (tb [] [(f,sp)]) (.clo f M)=s_ (sp,[],M):=by rw[Yoa _ _ _ hf,hT]; rfl
 have hz:(I J 0::Dj DH:List D)=(I J 0::Dj DH:List D):=rfl;simp(disch:=first|omega|decide) only[push_cast,↓reduceIte,CW,C7,LM,af,Am,Ag,Al];rw[show st++[⟨f_,1,Dj cl.1++Dj cl.2,f_⟩,⟨f_,1,I J 0::Dj DH,f_⟩]=st++[FY cl,FG (0,DH)]from rfl,h2];simp(disch:=first|omega|decide) only[push_cast,↓reduceIte,CW,CY,C7,Am,Ag,Al,Ac,Ak,Ar,Aq,CY,FT,FW]
 by_cases he:e=0
 ·subst he
  have ah:StOK (st++[FY cl,FG (0,DH),⟨f_,1,Dj d,f_⟩]):=Uh E _ (fun o ho=>by
   simp only[Ay,AD,or_false]at ho;rcases ho with rfl|rfl|rfl
   ·exact SW cl
   ·exact Uo _
   ·exact Mr d)
  have N:(st++[FY cl,FG (0,DH),⟨f_,1,Dj d,f_⟩]).length=st.length+3:=by simp
  have k1:st.length+1<st.length+3:=by omega
  have k2:st.length+2<st.length+3:=by omega
  have hR:∀ (fr:Frame) (l:St),(NK fr [4,6,19,20]).all (fun k=>decide (k<st.length+3))=t_→restrict [4,6,19,20] (st++[FY cl,FG (0,DH),⟨f_,1,Dj d,f_⟩]).length ⟨fr,st++FY cl::FG (0,DH)::⟨f_,1,Dj d,f_⟩::l⟩=⟨HC (Kh fr (st.length+3) [] [4,6,19,20]),st++[FY cl,FG (0,DH),⟨f_,1,Dj d,f_⟩]⟩:=fun fr l h=>by
   have:=rS (keep:=[4,6,19,20]) (fr:=fr) (l:=l) ah N.symm (fun k hk=>of_decide_eq_true (Ah.1 h k hk));rw[Am]at this;rw[N];exact this
  have aa:=hR;simp only[N]at aa;simp(disch:=first|omega|decide) only[push_cast,↓reduceIte,CW,C7,Hi,YKs]
  refine E0 (fun i:Nat=>[(4,Y (st.length+1) 0),(6,Y (st.length+2) 0),(19,GH cl),(20,I J (i:Int))]) (fun _=>st++[FY cl,FG (0,DH),⟨f_,1,Dj d,f_⟩])
   (fun i=>i≤2∧(0<i→¬ cl.1=d)∧(1<i→¬ cl.2=d)) (fun i=>2 - i) 0 ?_ ⟨by omega,fun h=>absurd h (by omega),fun h=>absurd h (by omega)⟩ ?_
  ·simp(disch:=first|omega|decide|(simp only[push_cast,↓Hd,↓reduceIte,CW,C8,C5,CY,Nat.reduceSub,Dd,Nat.reduceBEq,De,Int.reduceLE,C6,C7,Df,Dg,Int.reduceMul,Int.reduceSub,↓CX,ri,k1,k2,decide_true]; done)) only[push_cast,↓reduceIte,CW,↓CX,↓hR,qy,RS]
  rintro i ⟨hi,h0,h1⟩;unfold sM
  match i,hi,h0,h1 with
  |0,_,_,_=>
   have c0:=pC cl
   by_cases q:cl.1=d
   ·rw[show FK cl (d,0)=(0,d) by unfold FK Jr; rw[if_pos rfl,if_pos q]];simp(disch:=first|omega|decide) only[push_cast,↓reduceIte,CW,CY,De,C7,↓CX,Am,Ag,Al,Ac,Ak,Ar,Aq,CY,FT,FW,c0,q,Sp,RK,S6,dV,Nz,NF E]
   ·simp(disch:=first|omega|decide|(simp only[push_cast,↓Hd,↓reduceIte,CW,C8,C5,CY,Nat.reduceSub,Dd,Nat.reduceBEq,De,Int.reduceLE,C6,C7,Df,Dg,Int.reduceMul,Int.reduceSub,↓CX,ri,k1,k2,decide_true]; done)) only[push_cast,↓reduceIte,CW,CY,De,Dg,↓CX,↓aa,qy,RS,Am,Ag,Al,Ac,Ak,Ar,Aq,CY,FT,FW,c0,q,DQ];refine EB 1 (by exact⟨by omega,fun _=>q,fun h=>absurd h (by omega)⟩) (by omega) ?_;simp(disch:=first|omega|decide) only[push_cast,↓CX] <;> rfl
  |1,_,h0,_=>
   have c1:=pw cl;have q0:=h0 (by omega)
   by_cases q:cl.2=d
   ·rw[show FK cl (d,0)=(1,d) by unfold FK Jr; rw[if_pos rfl,if_neg q0,if_pos q]];simp(disch:=first|omega|decide) only[push_cast,↓reduceIte,CW,CY,De,C7,↓CX,Am,Ag,Al,Ac,Ak,Ar,Aq,CY,FT,FW,c1,q,Sp,RK,S6,dV,Nz,NF E]
   ·simp(disch:=first|omega|decide|(simp only[push_cast,↓Hd,↓reduceIte,CW,C8,C5,CY,Nat.reduceSub,Dd,Nat.reduceBEq,De,Int.reduceLE,C6,C7,Df,Dg,Int.reduceMul,Int.reduceSub,↓CX,ri,k1,k2,decide_true]; done)) only[push_cast,↓reduceIte,CW,CY,De,Dg,↓CX,↓aa,qy,RS,Am,Ag,Al,Ac,Ak,Ar,Aq,CY,FT,FW,c1,q,DQ];refine EB 2 (by exact⟨by omega,fun _=>q0,fun _=>q⟩) (by omega) ?_;simp(disch:=first|omega|decide) only[push_cast,↓CX] <;> rfl
  |2,_,h0,h1=>
   rw[show FK cl (d,0)=(-1,d) by unfold FK Jr; rw[if_pos rfl,if_neg (h0 (by omega)),if_neg (h1 (by omega))]];simp(disch:=first|omega|decide) only[push_cast,↓reduceIte,CW,CY,De,C7,↓CX,Ac,Ak,Ar,Aq,CY,FT,FW,Sp,RK,S6,dV,Nz,NF E]
 ·have hv:FK cl (d,e)=(0,DH):=if_neg he;rw[hv];simp(disch:=first|omega|decide) only[push_cast,↓reduceIte,CW,C7,he,FT,FW,NF E,RK,S6,dV,OX,Nz]
theorem Ydi(c:List Ins):([O (nz 3 (c.map Dk)) (c.map Dk) f_]:List D).all EY=t_:=by simp[EY,L3]
def FM(c:List Ins)(v:Int×List Int):Dig×Int:=if c.length=0 then(EP,0)else if(FO c).2≠0 then(DH,(FO c).2)else(HJ c v (Kq (c.length+1)),0)
def zb(ds:List D)(st:St)(r:D×St):Prop:=∃ (kc kv:Nat) (c:List Ins) (v:Int×List Int) (lc lv:Bool),StOK st∧ds=[Y kc 0,Y kv 0]∧st[kc]?=s_ ⟨f_,1,[HD c],lc⟩∧st[kv]?=s_ ⟨f_,1,Ev v,lv⟩∧c.length≤9223372036854775807∧ED v∧
 r=(.tup [Dl (FM c v).1,I J (FM c v).2],st)
theorem YMb:Ix zb:=by rintro ds st r r' ⟨kc,kv,c,v,lc,lv,_,rfl,N,h2,_,_,rfl⟩ ⟨ab,ac,c',v',ad,ae,_,h,E,M,_,_,rfl⟩;simp only[Aa,D.ptr.injEq,and_true]at h;obtain⟨rfl,rfl⟩:=h;rw[N]at E;rw[h2]at M;simp only[Dp,Obj.mk.injEq,Aa,and_true,true_and,Yol]at E M;obtain⟨rfl,_⟩:=E;obtain rfl:v=v':=Hz.1 (congrArg D.agg M.1);rfl
def gw:List D→St→Option (D×St):=FX zb
theorem Q5(n:Nat)(d:Dig)(e:Int):Ip n (.tup [Dl d,I J e])=.tup [Dl d,I J e]:=by
 have h:H6 n (Dl d)=Dl d:=by rw[← j0]; exact Ya7 n [] d
 simp only[Ip,Aw,Ba,h];rfl
theorem Nc(a d:Dig):Eb (s_ ⟨f_,1,Dj a,f_⟩) 32 0 (Dl d)=s_ ⟨f_,1,Dj d,f_⟩:=LQ 1 _ _ 32 (Ef _) (Ef _) (Lu (fun _=>rfl) d)
theorem XR:IContract Tryz.prog GG 46 gw:=by
 refine Zt (T:=tb [(20,TF),(47,dK),(48,mj),(49,km)] []) yBi (DD (all_cons gA (all_cons z9 (all_cons YFf (all_cons YM1 all_nil)))) all_nil) ?_;intro ds st r hr;obtain⟨kc,kv,c,v,lc,lv,M,rfl,h1,h2,hc,hv,rfl⟩:=Jx hr
 have DR:∀ l:St,(st++l)[kc]?=s_ ⟨f_,1,[O (nz 3 (c.map Dk)) (c.map Dk) f_],lc⟩:=fun l=>by
  rw[Av (Ab.1 h1).1]; exact h1
 have ad:∀ l:St,(st++l)[kv]?=s_ ⟨f_,1,Ev v,lv⟩:=fun l=>by
  rw[Av (Ab.1 h2).1]; exact h2
 have cv:=uZ c hc;have cp:=fj;unfold sg
 by_cases q1:c.length=0
 ·rw[show FM c v=(EP,0)from if_pos q1];have E:(c.length:Int)=0:=by omega
  simp(disch:=first|omega|decide) only[push_cast,↓reduceIte,CW,DR,E,cp,Hi,Hp,Q5,NF M,Nz,Nc]
 by_cases N:(FO c).2=0
 ·rw[show FM c v=(HJ c v (Kq (c.length+1)),0) by unfold FM; rw[if_neg q1,if_neg (by simp[N])]];have E:¬ (c.length:Int)=0:=by omega
  obtain⟨a3,_⟩:=nD N;have cs:=Yg3 ((c.length:Int)+1);rw[show RL ((c.length:Int)+1)=0 from YYN]at cs
  have cd:=Yos c v (Kq ((c.length:Int)+1)) ⟨by omega,hv,by
   rw[show Kq ((c.length:Int)+1)={JY with fuel:=(c.length:Int)+1} from YYN]; exact AY _⟩
  simp(disch:=first|omega|decide) only[push_cast,↓reduceIte,CW,DR,ad,E,N,cv,cs,cd,DQ,F8,HR,G9,Fu hv,Fa,HA,Am,Ag,Al,Ac,Ak,Ar,Aq,FT,FW,Hi,Hp,Q5,NF M,Nz,Nc]
 ·rw[show FM c v=(DH,(FO c).2) by unfold FM; rw[if_neg q1,if_pos N]];have E:¬ (c.length:Int)=0:=by omega
  simp(disch:=first|omega|decide) only[push_cast,↓reduceIte,CW,DR,E,N,cv,Al,Hi,Hp,Q5,NF M,Nz,Nc,OX]
def fH:List D→Option D:=Dq (α:=List Ins×(Int×List Int)×(Dig×Dig)) (fun a=>[O (nz 3 (a.1.map Dk)) (a.1.map Dk) f_,D6 a.2.1,GH a.2.2]) (fun a=>a.1.length≤9223372036854775807∧ED a.2.1) (fun a=>.tup [El (FK a.2.2 (FM a.1 a.2.1)),I J (FM a.1 a.2.1).2])
theorem yZz(c:List Ins)(v:Int×List Int)(E:Dig×Dig)(h:c.length≤9223372036854775807∧ED v):fH [O (nz 3 (c.map Dk)) (c.map Dk) f_,D6 v,GH E]=s_ (.tup [El (FK E (FM c v)),I J (FM c v).2]):=
 DK (fun⟨a0,a1,M⟩ ⟨b0,b1,N⟩ h=>by simp only[Aa,D.slc.injEq,and_true,Ha,Hz,Tr]at h; simp[h]) (c,v,E) h
theorem Yr8(c:List Ins)(v:Int×List Int)(E:Dig×Dig)(h:c.length≤9223372036854775807∧ED v):@wW GG (tb [] [(45,Sv 46 gw)]) ZN.code (Dm [O (nz 3 (c.map Dk)) (c.map Dk) f_,D6 v,GH E]) [] ⟨Ds ZN.res (.tup [El (FK E (FM c v)),I J (FM c v).2])⟩:=by
 obtain⟨hc,hv⟩:=h;unfold ZN;have ac:(Dj E.1++Dj E.2).all EY=t_:=SW E
 have N:StOK [⟨f_,1,[O (nz 3 (c.map Dk)) (c.map Dk) f_],f_⟩,⟨f_,1,Ev v,f_⟩,FY E,FG (0,DH)]:=by
  refine Uh (S:=[]) (fun o M=>by cases M) _ (fun o M=>?_);simp only[Ay,AD,or_false]at M;rcases M with rfl|rfl|rfl|rfl
  ·exact Ydi c
  ·exact fG v
  ·exact SW E
  ·exact Uo _
 have aa:=Uh N [FY E,FG (0,DH)] (fun o M=>by
  simp only[Ay,AD,or_false]at M;rcases M with rfl|rfl
  ·exact SW E
  ·exact Uo _)
 have hj:Sv 46 gw [GH E,.clo 46 [Y 0 0,Y 1 0]] [⟨f_,1,[O (nz 3 (c.map Dk)) (c.map Dk) f_],f_⟩,⟨f_,1,Ev v,f_⟩,FY E,FG (0,DH)]=s_ (.tup [El (FK E (FM c v)),I J (FM c v).2],[⟨f_,1,[O (nz 3 (c.map Dk)) (c.map Dk) f_],f_⟩,⟨f_,1,Ev v,f_⟩,FY E,FG (0,DH)]):=
  Mg (vH _ _) ⟨E,[Y 0 0,Y 1 0],(FM c v).1,(FM c v).2,N,rfl,Mg YMb ⟨0,1,c,v,f_,f_,aa,rfl,rfl,rfl,hc,hv,rfl⟩,rfl⟩
 have sv:=RK (0,DH);have lv:=S6;simp only[FY,FG,El]at hj sv lv
 push_cast(disch:=lia)[D5,LM,Pc,hj,El,sv,lv]
theorem Yw8:Contract Tryz.prog GG 14 fH:=
 DM (T:=tb [] [(45,Sv 46 gw)]) yF3 (DD all_nil (all_cons (Ydg _ (by decide) _ XR) all_nil)) (fun a h=>Yr8 a.1 a.2.1 a.2.2 h)
theorem YGe(v:Int×List Int)(b:Int)(s:Sta)(x:Ins):(FU v b s x).stack.length≤s.stack.length+1:=by
 have h:∀ o:Out,(FA (DI s) o).stack.length≤s.stack.length+1:=by
  intro o
  cases o with
  |err e=>exact Nat.le_succ _
  |set p t c=>exact Nat.le_succ _
  |pop k push pc=>
   show(s.stack.take (s.stack.length - k)++push.toList).length≤_
   rw[Ac,AA];have:push.toList.length≤1:=by cases push <;> simp
   omega
 unfold FU
 split
 ·exact Nat.le_succ _
 ·exact h _
theorem vN(c:List Ins)(v:Int×List Int)(o:Opn):(IP c v o).top.length≤o.top.length+1:=by
 unfold IP
 split
 ·exact YGe v o.depth (F1 o) _
 ·simp[Kz]
def FJ(c:List Ins)(v:Int×List Int)(b:Dig)(o:Opn):Dig×Int:=if b=EP then(b,0)else if Gy c v o≠b then(DH,390)else if o.status≠0 then(EP,0)else(Gy c v (IP c v o),HP c o)
def yK(ds:List D)(st:St)(r:D×St):Prop:=∃ (kb kc kv ko:Nat) (b:Dig) (c:List Ins) (v:Int×List Int) (o:Opn) (lb lc lv lo:Bool),StOK st∧ds=[Y kb 0,Y kc 0,Y kv 0,Y ko 0]∧st[kb]?=s_ ⟨f_,1,Dj b,lb⟩∧st[kc]?=s_ ⟨f_,1,[HD c],lc⟩∧st[kv]?=s_ ⟨f_,1,Ev v,lv⟩∧st[ko]?=s_ ⟨f_,1,Fv o,lo⟩∧c.length≤4294967296∧ED v∧o.top.length≤4294967295∧
 r=(.tup [Dl (FJ c v b o).1,I J (FJ c v b o).2],st)
theorem YJu:Ix yK:=by rintro ds st r r' ⟨kb,kc,kv,ko,b,c,v,o,lb,lc,lv,lo,_,rfl,h0,h1,h2,h3,_,_,_,rfl⟩ ⟨af,ah,a0,a1,b',c',v',o',a2,a3,a4,a5,_,h,E,M,N,aa,_,_,_,rfl⟩;simp only[Aa,D.ptr.injEq,and_true]at h;obtain⟨rfl,rfl,rfl,rfl⟩:=h;rw[h0]at E;rw[h1]at M;rw[h2]at N;rw[h3]at aa;simp only[Dp,Obj.mk.injEq,Aa,and_true,true_and,Yol,Nq]at E M N aa;obtain⟨rfl,_⟩:=E;obtain⟨rfl,_⟩:=M;obtain rfl:v=v':=Hz.1 (congrArg D.agg N.1);obtain rfl:o=o':=Nv.1 (congrArg D.agg aa.1);rfl
def rv:List D→St→Option (D×St):=FX yK
theorem KC(lent:Bool)(d:Dig):DJ (s_ ⟨f_,1,Dj d,lent⟩) 32 t_ 0=s_ (Dl d):=LP 1 lent _ 32 (Ef d)
theorem KH(lent:Bool)(o:Opn):DJ (s_ ⟨f_,1,Fv o,lent⟩) 38 t_ 0=s_ (DU o):=by rw[DU,IN]; exact Mu ..
theorem ON(lent:Bool)(o:Opn):DJ (s_ ⟨f_,1,Fv o,lent⟩) 1 f_ 2=s_ (I J o.status):=by rw[IN]; exact UQ ..
theorem L9(o:Opn):Eb (s_ ⟨f_,1,Fh 0 0 0 0 (O 0 [] t_) 0 DH,f_⟩) 38 0 (DU o)=s_ ⟨f_,1,Fv o,f_⟩:=by rw[DU,IN]; exact Of ..
theorem XQ:IContract Tryz.prog GG 54 rv:=by
 refine Zt (T:=tb [(20,TF),(40,Vo),(55,ml)] []) yDv (DD (all_cons gA (all_cons Yy3 (all_cons YFe all_nil))) all_nil) ?_;intro ds st r hr;obtain⟨kb,kc,kv,ko,b,c,v,o,lb,lc,lv,lo,M,rfl,h0,h1,h2,h3,hc,hv,a9,rfl⟩:=Jx hr
 have GZ:∀ l:St,(st++l)[kb]?=s_ ⟨f_,1,Dj b,lb⟩:=fun l=>by
  rw[Av (Ab.1 h0).1]; exact h0
 have DR:∀ l:St,(st++l)[kc]?=s_ ⟨f_,1,[O (nz 3 (c.map Dk)) (c.map Dk) f_],lc⟩:=fun l=>by
  rw[Av (Ab.1 h1).1]; exact h1
 have aa:∀ l:St,(st++l)[kv]?=s_ ⟨f_,1,Ev v,lv⟩:=fun l=>by
  rw[Av (Ab.1 h2).1]; exact h2
 have ab:∀ l:St,(st++l)[ko]?=s_ ⟨f_,1,Fv o,lo⟩:=fun l=>by
  rw[Av (Ab.1 h3).1]; exact h3
 have cp:=fj;have cc:=mO c v o ⟨hc,hv,by omega⟩;have co:=Yg2 c v o ⟨hc,hv⟩;have ba:=vN c v o;have a2:=mO c v (IP c v o) ⟨hc,hv,by omega⟩;unfold r8
 by_cases E:b=EP
 ·rw[show FJ c v b o=(b,0)from if_pos E];simp(disch:=first|omega|decide) only[push_cast,↓reduceIte,CW,GZ,KC,E,cp,Hi,Hp,Q5,NF M,Nz,Nc]
 by_cases N:Gy c v o=b
 ·by_cases q3:o.status=0
  ·rw[show FJ c v b o=(Gy c v (IP c v o),HP c o) by unfold FJ; rw[if_neg E,if_neg (by simp[N]),if_neg (by simp[q3])]];simp(disch:=first|omega|decide) only[push_cast,↓reduceIte,CW,GZ,DR,aa,ab,KC,E,N,q3,cp,cc,a2,co,Fu hv,Fa,GO,Gw,LS,KH,ON,L9,KQ,H3,Am,Ag,Al,Ac,Ak,Ar,Aq,FT,FW,Hi,Hp,Q5,NF M,Nz,Nc]
  ·rw[show FJ c v b o=(EP,0) by unfold FJ; rw[if_neg E,if_neg (by simp[N]),if_pos q3]];simp(disch:=first|omega|decide) only[push_cast,↓reduceIte,CW,GZ,DR,aa,ab,KC,E,N,q3,cp,cc,Fu hv,Fa,Gw,KH,ON,Aq,Hi,Hp,Q5,NF M,Nz,Nc]
 ·rw[show FJ c v b o=(DH,390) by unfold FJ; rw[if_neg E,if_pos N]];simp(disch:=first|omega|decide) only[push_cast,↓reduceIte,CW,GZ,DR,aa,ab,KC,E,N,cp,cc,Fu hv,Fa,Gw,KH,Hi,Hp,Q5,NF M,Nz,Nc,OX]
def eG:List D→Option D:=Dq (α:=List Ins×(Int×List Int)×Dig×(Dig×Dig)×Opn) (fun a=>[O (nz 3 (a.1.map Dk)) (a.1.map Dk) f_,D6 a.2.1,Dl a.2.2.1,GH a.2.2.2.1,DU a.2.2.2.2]) (fun a=>a.1.length≤4294967296∧ED a.2.1∧a.2.2.2.2.top.length≤4294967295) (fun a=>.tup [El (FK a.2.2.2.1 (FJ a.1 a.2.1 a.2.2.1 a.2.2.2.2)),I J (FJ a.1 a.2.1 a.2.2.1 a.2.2.2.2).2])
theorem Yhf(c:List Ins)(v:Int×List Int)(b:Dig)(E:Dig×Dig)(o:Opn)(h:c.length≤4294967296∧ED v∧o.top.length≤4294967295):eG [O (nz 3 (c.map Dk)) (c.map Dk) f_,D6 v,Dl b,GH E,DU o]=s_ (.tup [El (FK E (FJ c v b o)),I J (FJ c v b o).2]):=
 DK (fun⟨a0,a1,M,N,a4⟩ ⟨b0,b1,b2,b3,b4⟩ h=>by simp only[Aa,D.slc.injEq,Kt,and_true,Ha,Nv,Hz,Tr]at h; simp[h]) (c,v,b,E,o) h
def RX:Tbl:=tb [] [(45,Sv 54 rv)]
theorem YAi(c:List Ins)(v:Int×List Int)(b:Dig)(E:Dig×Dig)(o:Opn)(h:c.length≤4294967296∧ED v∧o.top.length≤4294967295):@wW GG RX ZC.code (Dm [O (nz 3 (c.map Dk)) (c.map Dk) f_,D6 v,Dl b,GH E,DU o]) [] ⟨Ds ZC.res (.tup [El (FK E (FJ c v b o)),I J (FJ c v b o).2])⟩:=by
 obtain⟨hc,hv,ab⟩:=h;unfold ZC
 have ac:(Fv o).all EY=t_:=by
  rw[IN];simp only[Fh,AX,Mr];simp[EY,EA,L3]
 have N:StOK [⟨f_,1,[O (nz 3 (c.map Dk)) (c.map Dk) f_],f_⟩,⟨f_,1,Ev v,f_⟩,⟨f_,1,Dj b,f_⟩,FY E,⟨f_,1,Fv o,f_⟩,FG (0,DH)]:=by
  refine Uh (S:=[]) (fun o M=>by cases M) _ (fun x M=>?_);simp only[Ay,AD,or_false]at M;rcases M with rfl|rfl|rfl|rfl|rfl|rfl
  ·exact Ydi c
  ·exact fG v
  ·exact Mr b
  ·exact SW E
  ·exact ac
  ·exact Uo _
 have aa:=Uh N [FY E,FG (0,DH)] (fun o M=>by
  simp only[Ay,AD,or_false]at M;rcases M with rfl|rfl
  ·exact SW E
  ·exact Uo _)
 have hj:Sv 54 rv [GH E,.clo 54 [Y 2 0,Y 0 0,Y 1 0,Y 4 0]] [⟨f_,1,[O (nz 3 (c.map Dk)) (c.map Dk) f_],f_⟩,⟨f_,1,Ev v,f_⟩,⟨f_,1,Dj b,f_⟩,FY E,⟨f_,1,Fv o,f_⟩,FG (0,DH)]=s_ (.tup [El (FK E (FJ c v b o)),I J (FJ c v b o).2],[⟨f_,1,[O (nz 3 (c.map Dk)) (c.map Dk) f_],f_⟩,⟨f_,1,Ev v,f_⟩,⟨f_,1,Dj b,f_⟩,FY E,⟨f_,1,Fv o,f_⟩,FG (0,DH)]):=
  Mg (vH _ _) ⟨E,[Y 2 0,Y 0 0,Y 1 0,Y 4 0],(FJ c v b o).1,(FJ c v b o).2,N,rfl,Mg YJu ⟨2,0,1,4,b,c,v,o,f_,f_,f_,f_,aa,rfl,rfl,rfl,rfl,rfl,hc,hv,ab,rfl⟩,rfl⟩
 have sv:=RK (0,DH);have lv:=S6;simp only[FY,FG,El]at hj sv lv
 push_cast(disch:=lia)[RX,D5,LM,H4,Pc,hj,El,sv,lv]
theorem YFs:Contract Tryz.prog GG 16 eG:=
 DM (T:=RX) yHt (DD all_nil (all_cons (Ydg _ (by decide) _ XQ) all_nil)) (fun a h=>YAi a.1 a.2.1 a.2.2.1 a.2.2.2.1 a.2.2.2.2 h)
structure OpenOf (s:Sta) (o:Opn):Prop where
 pc:o.pc=s.pc
 fuel:o.fuel=s.fuel
 status:o.status=s.status
 clause:o.clause=s.clause
 d0:0≤o.depth
 d1:o.depth.toNat≤s.stack.length
 top:o.top=s.stack.drop o.depth.toNat
 rest:o.rest=Hy DH (s.stack.take o.depth.toNat)
def tyIns:Ty:=.agg [.int .i64,.int .i64,.int .i64]
def tyEv:Ty:=.agg [.int .i64,.agg (CZ 16 (.int .i64))]
theorem zz(h:Has (.int .i64) d):∃ n:Int,d=nI n:=by obtain⟨n,rfl,_⟩:=Hr h;exact⟨n,rfl⟩
theorem YEa(h:Has tyIns d):∃ x:Ins,d=Dk x:=by obtain⟨x,y,z,rfl,E,M,N⟩:=Yvr h;obtain⟨a,rfl,_⟩:=Hr E;obtain⟨b,rfl,_⟩:=Hr M;obtain⟨c,rfl,_⟩:=Hr N;exact⟨⟨a,b,c⟩,rfl⟩
theorem Yvq(h:Has (.slc tyIns) d):∃ l:List Ins,d=.slc (nz 3 (l.map Dk)) (l.map Dk) f_∧l.length≤maxLen:=
 cO (f:=Dk) (fun _=>YEa) h
theorem Ygj(h:Has (.agg (CZ 16 (.int .i64))) d):∃ l:List Int,d=.agg (l.map nI)∧l.length=16:=by
 cases h with
 |agg _ xs E N=>
  obtain⟨l,rfl⟩:=eh (f:=nI) (els:=xs) fun x hx=>by
   obtain⟨i,hi⟩:=Cv hx
   have M:i<16:=by
    have:=(Ab.1 hi).1;rw[← E,BG]at this;exact this
   exact zz (N i (.int .i64) x (by rw[List.getElem?_replicate,if_pos M]) hi)
  rw[BG,A7]at E;refine⟨l,?_,E.symm⟩
  have:∀ l:List Int,(l.map nI).flatMap D.cells=l.map nI:=by
   intro l
   induction l with
   |nil=>rfl
   |cons a r ih=>simp only[Aw,Au,ih]; rfl
  rw[this]
theorem YL2(h:Has tyEv d):∃ v:Int×List Int,d=D6 v∧v.2.length=16:=by obtain⟨x,y,rfl,E,M⟩:=Rb h;obtain⟨n,rfl,_⟩:=Hr E;obtain⟨l,rfl,hl⟩:=Ygj M;exact⟨(n,l),rfl,hl⟩
