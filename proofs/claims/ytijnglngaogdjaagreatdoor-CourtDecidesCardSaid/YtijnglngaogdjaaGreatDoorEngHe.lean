/-
  A function that, behind a test, puts off a call which recovers: its contract out of what its code comes to.
  Conditions: none; these are definitions and lemmas.
-/
import Derived.Test.YtijnglngaogdjaaGreatDoorEngI2
import Derived.Test.YtijnglngaogdjaaGreatDoorEngR
import Derived.Laws.Cover3
import Derived.RecoverIn
open Array renaming replicate→CX
namespace Go.Proofs.YtijnglngaogdjaaGreatDoor.PI
set_option linter.unusedSimpArgs false
open Go
def E4(n:Nat)(els:List D):List Nat:=if els.isEmpty then []else [n]
theorem R6(sz key:Nat)(els:List D)(h:els≠[]):D4 sz key els=.row key els.length 0 els.length:=by
 cases els with
 |nil=>exact absurd rfl h
 |cons a l=>rfl
theorem QA(sz:Nat)(els:List D)(h:els≠[]):Dz sz els=[{row:=true,sz,els,lent:=false}]:=by
 cases els with
 |nil=>exact absurd rfl h
 |cons a l=>rfl
theorem YEc(sz n:Nat)(els:List D):hk (D4 sz n els)=E4 n els:=by cases els <;> rfl
theorem Yu3(sz n:Nat)(els:List D):Eu n (E4 n els) (D4 sz n els)=D4 sz n els:=by
 cases els with
 |nil=>rfl
 |cons a l=>simp[E4,D4,Eu,EI,GR,EW,Qm,Jq]
theorem jG(n hi sz:Nat)(els:List D)(r:List Nat)(h:hi=(Dz sz els).length+n):E1 n hi (E4 n els++r) []=E1 n hi r (E4 n els):=by
 cases els with
 |nil=>rfl
 |cons a l=>
  have:n<hi:=by rw[h]; simp[Dz]
  simp[E4,E1,this]
theorem Ybh(sz:Nat)(els:List D)(r:List Nat):E1 0 ((Dz sz els).length) (E4 0 els++r) []=E1 0 ((Dz sz els).length) r (E4 0 els):=jG 0 _ sz els r (by simp)
theorem Yt2(sz:Nat)(els:List D):E1 0 ((Dz sz els).length) (E4 0 els) []=E4 0 els:=by
 have:=Ybh sz els [];rwa [Ai]at this
theorem Ybg(sz:Nat)(els:List D)(r:List Nat):E1 1 ((Dz sz els).length+1) (E4 1 els++r) []=E1 1 ((Dz sz els).length+1) r (E4 1 els):=jG 1 _ sz els r (by simp)
theorem Yt1(sz:Nat)(els:List D):E1 1 ((Dz sz els).length+1) (E4 1 els) []=E4 1 els:=by
 have:=Ybg sz els [];rwa [Ai]at this
theorem Ybf(sz:Nat)(els:List D)(r:List Nat):E1 2 ((Dz sz els).length+1+1) (E4 2 els++r) []=E1 2 ((Dz sz els).length+1+1) r (E4 2 els):=jG 2 _ sz els r (by simp)
theorem Yt0(sz:Nat)(els:List D):E1 2 ((Dz sz els).length+1+1) (E4 2 els) []=E4 2 els:=by
 have:=Ybf sz els [];rwa [Ai]at this
theorem iZ(l:St)(sz:Nat)(els:List D):LM l.length (E4 l.length els) (l++Dz sz els) (E4 l.length els)=Dz sz els:=by
 cases els with
 |nil=>rfl
 |cons a r=>simp[E4,Dz,LM,Fg]
theorem Ydv(sz:Nat)(els:List D):LM 0 (E4 0 els) (Dz sz els) (E4 0 els)=Dz sz els:=iZ [] sz els
theorem Ydu(a:Obj)(sz:Nat)(els:List D):LM 1 (E4 1 els) (a::Dz sz els) (E4 1 els)=Dz sz els:=iZ [a] sz els
theorem Ydt(a b:Obj)(sz:Nat)(els:List D):LM 2 (E4 2 els) (a::b::Dz sz els) (E4 2 els)=Dz sz els:=iZ [a,b] sz els
theorem Yd3(l:St)(sz sz0 E bytes:Nat)(els xs:List D)(t:Bool)(I:E=sz∨xs=[])(hs0:sz≠0)(hb:(els.length+xs.length)*bytes≤140737488355328)(hl:els.length+xs.length≤4294967296) :
  Ek (l++Dz sz els) sz bytes (D4 sz0 l.length els) (.slc E xs t)=some (D4 sz0 l.length (els++xs),l++Dz sz (els++xs)):=
 Ymw l sz sz0 bytes els xs _ E rfl I hs0 hb hl
section
variable {α:Type} (f:α→D) (a b c d:Obj) (sz sz0 bytes:Nat) (A B:List α) (t:Bool) (hs0:sz≠0) (hb:(A.length+B.length)*bytes≤140737488355328) (hl:A.length+B.length≤4294967296)
include hs0 hb hl
theorem Yw(l:St)(E:Nat)(I:E=sz∨B.map f=[]):Ek (l++Dz sz (A.map f)) sz bytes (D4 sz0 l.length (A.map f)) (.slc E (B.map f) t)=some (D4 sz0 l.length ((A++B).map f),l++Dz sz ((A++B).map f)):=by
 rw[Yd3 l sz sz0 E bytes (A.map f) (B.map f) t I hs0 (by simpa using hb) (by simpa using hl),Bh]
theorem Yvf:Ek (a::Dz sz (A.map f)) sz bytes (D4 sz0 1 (A.map f)) (.slc (nz sz (B.map f)) (B.map f) t)=some (D4 sz0 1 ((A++B).map f),a::Dz sz ((A++B).map f)):=Yw f sz sz0 bytes A B t hs0 hb hl [a] _ (lV _ _)
end
section
variable {α:Type} (f:α→D) (a b c d:Obj) (sz sz0 bytes:Nat) (A:List α) (x:α) (t:Bool) (hs0:sz≠0) (hb:(A.length+1)*bytes≤140737488355328) (hl:A.length+1≤4294967296)
include hs0 hb hl
theorem jw(l:St):Ek (l++Dz sz (A.map f)) sz bytes (D4 sz0 l.length (A.map f)) (.slc sz [f x] t)=some (D4 sz0 l.length ((A++[x]).map f),l++Dz sz ((A++[x]).map f)):=
 Yw f sz sz0 bytes A [x] t hs0 hb hl l sz (.inl rfl)
theorem Yve:Ek (Dz sz (A.map f)) sz bytes (D4 sz0 0 (A.map f)) (.slc sz [f x] t)=some (D4 sz0 0 ((A++[x]).map f),Dz sz ((A++[x]).map f)):=jw f sz sz0 bytes A x t hs0 hb hl []
theorem Yvd:Ek (a::Dz sz (A.map f)) sz bytes (D4 sz0 1 (A.map f)) (.slc sz [f x] t)=some (D4 sz0 1 ((A++[x]).map f),a::Dz sz ((A++[x]).map f)):=jw f sz sz0 bytes A x t hs0 hb hl [a]
theorem zX:Ek (a::b::Dz sz (A.map f)) sz bytes (D4 sz0 2 (A.map f)) (.slc sz [f x] t)=some (D4 sz0 2 ((A++[x]).map f),a::b::Dz sz ((A++[x]).map f)):=jw f sz sz0 bytes A x t hs0 hb hl [a,b]
end
variable {α:Type}
theorem u6(f:α→D)(st:St)(sz sz0 bytes:Nat)(B:List α)(t:Bool)(hs0:sz≠0)(hb:B.length*bytes≤140737488355328)(hl:B.length≤4294967296) :
  Ek st sz bytes (.slc sz0 [] true) (.slc (nz sz (B.map f)) (B.map f) t)=some (D4 sz0 st.length (B.map f),st++Dz sz (B.map f)):=by
 have:=Yw f sz sz0 bytes [] B t hs0 (by simpa using hb) (by simpa using hl) st _ (lV _ _);simpa[Dz,D4]using this
theorem yRi(f:α→D)(st:St)(sz sz0 bytes:Nat)(x:α)(t:Bool)(hs0:sz≠0)(hb:bytes≤140737488355328) :
  Ek st sz bytes (.slc sz0 [] true) (.slc sz [f x] t)=some (.row st.length 1 0 1,st++[⟨true,sz,[f x],false⟩]):=by
 have:=Yw f sz sz0 bytes [] [x] t hs0 (by simpa using hb) (by simp) st sz (.inl rfl);simpa[Dz,D4]using this
theorem zQ(f:α→D)(sz:Nat)(A:List α)(h:Nat):nz (nz sz (A.map f)) ((A.take h).map f)=nz sz ((A.take h).map f):=by
 cases A with
 |nil=>simp[nz]
 |cons a r=>rfl
theorem zP(f:α→D)(sz:Nat)(A:List α)(l:Nat):nz (nz sz (A.map f)) ((A.drop l).map f)=nz sz ((A.drop l).map f):=by
 cases A with
 |nil=>simp[nz]
 |cons a r=>rfl
theorem tX(st:St)(sz bytes E I:Nat)(els:List D)(t:Bool)(hs0:sz≠0):Ek st sz bytes (.slc E els true) (.slc I [] t)=some (.slc E els true,st):=rj st sz bytes E els _ I rfl hs0
attribute [push_cast] zQ zP
theorem zy(l:St)(sz sz0:Nat)(els:List D):DV (l++Dz sz els) (D4 sz0 l.length els)=some (.slc (nz sz els) els false):=by
 cases els with
 |nil=>rfl
 |cons a r=>simp[D4,Dz,DV,DC,HR]
theorem YDy(sz sz0:Nat)(els:List D):DV (Dz sz els) (D4 sz0 0 els)=some (.slc (nz sz els) els false):=zy [] sz sz0 els
theorem xF(a b:Obj)(sz sz0:Nat)(els:List D):DV (a::b::Dz sz els) (D4 sz0 2 els)=some (.slc (nz sz els) els false):=zy [a,b] sz sz0 els
theorem Ynu(l:St)(sz sz0:Nat)(els:List D):E3 (l++Dz sz els) false (D4 sz0 l.length els)=some (.int .i64 (els.length:Int)):=by
 cases els with
 |nil=>rfl
 |cons a r=>simp[D4,Dz,E3,Jz,Fb,E2]
theorem Yv3(a:Obj)(sz sz0:Nat)(els:List D):E3 (a::Dz sz els) false (D4 sz0 1 els)=some (.int .i64 (els.length:Int)):=Ynu [a] sz sz0 els
theorem YC4(n m:Nat):n≤m+n:=Nat.le_add_left n m
theorem Ync(key:Nat):D.slc 0 [] true=D4 0 key []:=(rfl)
theorem Yep(sz key:Nat):D.slc sz [] true=D4 sz key []:=(rfl)
def Qx(o:Option Obj)(sz bytes tot:Nat)(xs:Option (Nat×List D)):Option Obj:=match o,xs with
 |some o,some (szx,xs)=>if !(szx == sz || xs.isEmpty) || sz == 0 then none
  else if o.row && o.sz == sz && o.els.length == tot && decide ((tot+xs.length)*bytes≤140737488355328) && decide (tot+xs.length≤4294967296)then some {o with els:=o.els++xs} else none
 |_,_=>none
theorem kB(st:St)(sz bytes key tot:Nat)(x:D):Ek st sz bytes (.row key tot 0 tot) x=(Qx st[key]? sz bytes tot (Hh st x)).map fun o=>(.row key o.els.length 0 o.els.length,st.set key o):=by
 simp only[Ek,Qx];grind
theorem gu(f:α→D)(sz bytes:Nat)(A B:List α)(lent:Bool)(hs0:sz≠0)(hb:(A.length+B.length)*bytes≤140737488355328)(hl:A.length+B.length≤4294967296)(E:Nat)(I:E=sz∨B.map f=[]) :
  Qx (some ⟨true,sz,A.map f,lent⟩) sz bytes A.length (some (E,B.map f))=some ⟨true,sz,(A++B).map f,lent⟩:=by
 have e:(!(E == sz || (B.map f).isEmpty) || sz == 0)=false:=by
  grind
 simp only[Qx,e,Al,if_false];grind
theorem yM(f:α→D)(sz bytes:Nat)(A:List α)(x:α)(lent t:Bool)(st:St)(hs0:sz≠0)(hb:(A.length+1)*bytes≤140737488355328)(hl:A.length+1≤4294967296) :
  Qx (some ⟨true,sz,A.map f,lent⟩) sz bytes A.length (Hh st (.slc sz [f x] t))=some ⟨true,sz,(A++[x]).map f,lent⟩:=gu f sz bytes A [x] lent hs0 hb hl _ (.inl rfl)
def TC(o:Option Obj)(tot off len:Nat):Option (Nat×List D):=o.bind fun o=>if o.row && o.els.length == tot && decide (off+len≤tot)then some (o.sz,(o.els.drop off).take len)else none
theorem tO(st:St)(key tot off len:Nat):HR st key tot off len=TC st[key]? tot off len:=by
 unfold HR TC; cases st[key]? <;> rfl
theorem zU(f:α→D)(sz:Nat)(A:List α)(lent:Bool):TC (some ⟨true,sz,A.map f,lent⟩) A.length 0 A.length=some (sz,A.map f):=by
 simp[TC];rw[AE (by simp)]
theorem Ymi(f:α→D)(sz:Nat)(A:List α)(lent:Bool)(off len:Nat)(h:off+len≤A.length):TC (some ⟨true,sz,A.map f,lent⟩) A.length off len=some (sz,((A.drop off).take len).map f):=by
 simp[TC,h,Co,B6]
def RK(o:Option Obj)(tot:Nat):Bool:=match o with
 |some o=>o.row && o.els.length == tot
 |none=>false
theorem Yv1(st:St)(key tot:Nat):E2 st key tot=RK st[key]? tot:=(rfl)
theorem Yv2(f:α→D)(sz:Nat)(A:List α)(lent:Bool):RK (some ⟨true,sz,A.map f,lent⟩) A.length=true:=by simp[RK]
def Qu(o:Option Obj)(sz key tot off len:Nat)(j:Int):Option D:=if 0≤j then o.bind fun o=>if o.row && o.sz == sz && o.els.length == tot && decide (j.toNat<len)then some (.rptr key tot (off+j.toNat) 0)else none else none
theorem qd(st:St)(sz key tot off len:Nat)(k:IntKind)(j:Int):GM st sz (.row key tot off len) (.int k j)=Qu st[key]? sz key tot off len j:=by
 simp only[GM,Qu,FZ];grind
theorem zB(f:α→D)(sz:Nat)(A:List α)(lent:Bool)(key off len:Nat)(j:Int)(E:0≤j)(I:j<(len:Int)):Qu (some ⟨true,sz,A.map f,lent⟩) sz key A.length off len j=some (.rptr key A.length (off+j.toNat) 0):=by
 have:j.toNat<len:=by omega
 simp[Qu,E,this]
def RM(o:Option Obj)(n:Nat)(ag:Bool)(tot i off:Nat):Option D:=if !ag && n != 1 then none else o.bind fun o=>if o.row && o.els.length == tot then(o.els[i]?).bind fun el=>if off+n≤el.cells.length then some (.mk ag ((el.cells.drop off).take n))else none else none
theorem wb(st:St)(n:Nat)(ag:Bool)(key tot i off:Nat):Fy st n ag (.rptr key tot i off)=RM st[key]? n ag tot i off:=yXz st n ag key tot i off
theorem Ywd(sz:Nat)(A:List Dig)(lent:Bool)(i:Nat)(h:i<A.length):RM (some ⟨true,sz,A.map C9,lent⟩) 32 true A.length i 0=some (C9 (A.getD i default)):=by
 simp[RM,h,P8,D1,Ub,bC,Af]
theorem Yn0[Inhabited α](f:α→D)(E:∀ a,(f a).isCell=true)(sz:Nat)(A:List α)(lent:Bool)(i:Nat)(h:i<A.length):RM (some ⟨true,sz,A.map f,lent⟩) 1 false A.length i 0=some (f (A.getD i default)):=by
 have:(f A[i]).cells=[f A[i]]:=Re (E _);simp[RM,h,this,D.mk,Af]
def Qt(o:Option Obj)(sz:Nat)(x:D)(key tot off len l h:Nat):Option D:=o.bind fun o=>if o.row && o.sz == sz && o.els.length == tot && sz != 0 then(if l≤h∧h≤len then(if l=0∧h=len then some x else if l=h then some (.slc sz [] false)else some (.row key tot (off+l) (h - l)))else none)else none
theorem yXx(st:St)(sz key tot off len:Nat)(lo hi:Option D):Hb st sz (.row key tot off len) lo hi none=(GC lo 0).bind fun l=>(GC hi len).bind fun h=>Qt st[key]? sz (.row key tot off len) key tot off len l h:=by
 simp only[Hb,Qt]
 cases st[key]? with
 |none=>cases GC lo 0 <;> cases GC hi len <;> rfl
 |some o=>
  simp only[Bo]
  split
  ·cases GC lo 0 <;> cases GC hi len <;> rfl
  ·simp_all
theorem Yb5(f:α→D)(sz:Nat)(A:List α)(lent:Bool)(x:D)(key off len l h:Nat)(E:sz≠0)(I:l≤h)(J:h≤len):Qt (some ⟨true,sz,A.map f,lent⟩) sz x key A.length off len l h=(if l=0∧h=len then some x else if l=h then some (.slc sz [] false)else some (.row key A.length (off+l) (h - l))):=by
 simp[Qt,E,I,J]
theorem Yqq(d:Nat):GC none d=some d:=(rfl)
theorem Yzb(k:IntKind)(n:Int)(d:Nat)(h:0≤n):GC (some (.int k n)) d=some n.toNat:=by simp[GC,FZ,h]
theorem u5(sz bytes:Nat)(E:D)(k k':IntKind)(c:Int)(I:0≤c)(Y:c≤4294967296)(J:c.toNat*bytes≤140737488355328)(M:0<sz)(U:E.cells.length=sz)(V:E.cells.all D.pure1=true) :
  Pt sz bytes E (.int k 0) (.int k' c)=some (0,⟨true,sz,[],false⟩):=by
 have:c.toNat≤4294967296:=by omega
 simp[Pt,QR k' c I,yYn,this,J,M,U,V]
theorem Vp(k k':IntKind)(c:Int)(z:Dig)(E:0≤c)(I:c≤4294967296):Pt 32 32 (C9 z) (.int k 0) (.int k' c)=some (0,⟨true,32,([]:List Dig).map C9,false⟩):=
 u5 32 32 _ k k' c E I (by omega) (by decide) (by rw[P8,D1]) (KW (fun _=>rfl) z)
theorem Ynf(k k' E:IntKind)(n c:Int)(I:0≤c)(J:c≤4294967296):Pt 1 1 (.int E n) (.int k 0) (.int k' c)=some (0,⟨true,1,([]:List UInt8).map Dn,false⟩):=
 u5 1 1 _ k k' c I J (by omega) (by decide) rfl rfl
theorem XN(f:α→D)(sz bytes E:Nat)(B:List α)(lent:Bool)(I:E=sz∨B.map f=[])(hs0:sz≠0)(hb:B.length*bytes≤140737488355328)(hl:B.length≤4294967296) :
  Qx (some ⟨true,sz,[],lent⟩) sz bytes 0 (some (E,B.map f))=some ⟨true,sz,B.map f,lent⟩:=gu f sz bytes [] B lent hs0 (by simpa using hb) (by simpa using hl) E I
theorem YF3(B:List UInt8)(lent:Bool)(hl:B.length≤4294967296):Qx (some ⟨true,1,[],lent⟩) 1 1 0 (some (1,B.map Dn))=some ⟨true,1,B.map Dn,lent⟩:=XN Dn 1 1 1 B lent (.inl rfl) (by decide) (by omega) hl
theorem lO(A B:List UInt8)(lent:Bool)(hl:A.length+B.length≤4294967296):Qx (some ⟨true,1,A.map Dn,lent⟩) 1 1 A.length (some (1,B.map Dn))=some ⟨true,1,(A++B).map Dn,lent⟩:=gu Dn 1 1 A B lent (by decide) (by omega) hl 1 (.inl rfl)
def Xr(o:Option Obj):Option (Nat×List D):=o.bind fun o=>if !o.row && decide (32≤o.els.length) && (Jy 1 false o.els 32).all purA then some (1,Jy 1 false o.els 32)else none
theorem vN(st:St)(key:Nat):Hh st (.bsl key 0 32 1 false)=Xr st[key]?:=by
 simp only[Hh,Lv,Xr];grind
theorem Yx9(sz:Nat)(d:Dig)(lent:Bool):Xr (some ⟨false,sz,C8 d,lent⟩)=some (1,d.bs.map Dn):=by
 have E:Jy 1 false (C8 d) 32=C8 d:=by
  have:=vL (C8 d);rwa [D1]at this
 have I:(C8 d).all purA=true:=KW (fun _=>rfl) d;simp only[Xr,Bo,D1,E,I];rfl
attribute [push_cast] vN Yx9 YF3 lO
attribute [push_cast] List.drop_zero List.take_length
attribute [push_cast] kB yM tO zU Ymi Ynt Yv1 Yv2 qd zB wb Ywd yXx Yqq Yzb
attribute [push_cast] YEc Yu3 Ybh Yt2 Ybg Yt1 Ybf Yt0 Ydv Ydu Ydt Yvf Yve Yvd zX YDy xF Yv3 YC4
noncomputable def S1(tys:List Ty):List D→Option D:=fun xs=>@ite _ (HasAll tys xs) (Classical.propDecidable _) (some (.bool true)) none
variable {xs:List D}{tys:List Ty}
theorem lawSp_true(h:HasAll tys xs):S1 tys xs=some (.bool true):=by
 unfold S1; rw[if_pos h]
variable {d:D}
theorem Yfk(h:S1 tys xs=some d):HasAll tys xs∧d=.bool true:=by
 unfold S1 at h;grind
variable {F:PF}{hints:List (List Nat)}{f:Nat}{il:List Nat}{T:Tbl}{G:Dj}{P:Program}
theorem lk(E:DB P il f hints=some F)(I:TblOK P G T)
  (h:∀ xs,HasAll tys xs→@wW G T F.code (Dc xs) [] ⟨Dp F.res (.bool true)⟩) (J:T.y=fun _ _ _=>none:=by rfl):Contract P G f (S1 tys):=by
 refine p9 I J E fun ds d M=>?_;obtain⟨U,rfl⟩:=Yfk M;exact r9 (Hv (h ds U))
variable {t:Ty}
theorem SU{E:List Ty}(h:HasAll (t::E) xs):∃ x r,xs=x::r∧Has t x∧HasAll E r:=by
 cases h with
 |cons I J=>exact⟨_,_,rfl,I,J⟩
theorem yZo(h:HasAll [] xs):xs=[]:=by
 cases h; rfl
theorem PQ(h:Has (.int .i64) d):∃ n:Int,d=.int .i64 n∧-9223372036854775808≤n∧n<9223372036854775808:=by
 cases h with
 |int k n hw=>
  refine⟨n,rfl,?_⟩;simp[Lit.wf,IntKind.min,IntKind.max,IntKind.signed,IntKind.bits]at hw;omega
theorem YEe(h:Has (.int .u8) d):∃ b:UInt8,d=Dn b:=by
 cases h with
 |int k n hw=>
  simp[Lit.wf,IntKind.min,IntKind.max,IntKind.signed,IntKind.bits]at hw;refine⟨UInt8.ofNat n.toNat,?_⟩;simp[Dn];omega
theorem jm{α:Type}{f:α→D}:∀ {els:List D},(∀ x∈els,∃ a,x=f a)→∃ l:List α,els=l.map f
 |[],_=>⟨[],rfl⟩
 |e::r,h=>by
  obtain⟨a,ha⟩:=h e (by simp);obtain⟨l,hl⟩:=jm (f:=f) (els:=r) fun x E=>h x (by simp[E]);exact⟨a::l,by rw[ha,hl]; rfl⟩
theorem Yxm{f:α→D}{e:Ty}(I:∀ x,Has e x→∃ a,x=f a)(h:Has (.slc e) d):∃ l:List α,d=.slc (nz e.size (l.map f)) (l.map f) false∧l.length≤maxLen:=by
 cases h with
 |slc _ els J M=>
  obtain⟨l,rfl⟩:=jm (f:=f) (els:=els) fun x E=>by
   obtain⟨i,hi⟩:=List.getElem?_of_mem E;grind
  grind
theorem Yow{u:Ty}(h:Has (.agg [t,u]) d):∃ x y,d=.agg (x.cells++y.cells)∧Has t x∧Has u y:=by
 cases h with
 |agg _ xs I E=>
  match xs,I with
  |[x,y],_=>exact⟨x,y,by simp,E 0 t x rfl rfl,E 1 u y rfl rfl⟩
theorem Yov{u v:Ty}(h:Has (.agg [t,u,v]) d):∃ x y z,d=.agg (x.cells++(y.cells++z.cells))∧Has t x∧Has u y∧Has v z:=by
 cases h with
 |agg _ xs I E=>
  match xs,I with
  |[x,y,z],_=>exact⟨x,y,z,by simp,E 0 t x rfl rfl,E 1 u y rfl rfl,E 2 v z rfl rfl⟩
noncomputable def GP{α:Type}(enc:α→List D×St)(pre:α→Prop)(f:α→D×St):List D→St→Option (D×St):=
 fun ds st=>@dite _ (∃ a,enc a=(ds,st)∧pre a) (Classical.propDecidable _) (fun h=>some (f h.choose)) (fun _=>none)
variable {st:St}{ds:List D}
theorem ji{enc:α→List D×St}{pre:α→Prop}{f:α→D×St}{r:D×St}(h:GP enc pre f ds st=some r):∃ a,enc a=(ds,st)∧pre a∧f a=r:=by
 unfold GP at h
 split at h
 ·rename_i E;simp only[Db]at h;exact⟨E.choose,E.choose_spec.1,E.choose_spec.2,h⟩
 ·cases h
theorem MD{enc:α→List D×St}{pre:α→Prop}{f:α→D×St}(E:∀ a b,enc a=enc b→f a=f b)(a:α)(M:pre a)(I:enc a=(ds,st)):GP enc pre f ds st=some (f a):=by
 have J:∃ b,enc b=(ds,st)∧pre b:=⟨a,I,M⟩;unfold GP;rw[dif_pos J];rw[E _ _ (J.choose_spec.1.trans I.symm)]
variable {sp:List D→St→Option (D×St)}
theorem sW(I:TblOK P G T)(J:DB P il f hints=some F)
  (h:∀ ds st r,sp ds st=some r→∃ fuel,dropped (F.runI G T fuel) ds st=some r) (M:T.y=fun _ _ _=>none:=by rfl):IContract P G f sp:=by
 refine⟨(cY I M J 0).1,?_⟩;intro base w g st st' ds vs d U V Y hl E;obtain⟨fuel,hf⟩:=h ds st _ U;exact(cY I M J fuel).dropped.2 base w g st st' ds vs d hf V Y hl E
theorem Rd(J:DB P il f hints=some F)(M:TblOK P G T){enc:α→List D×St}{pre:α→Prop}{r:α→D×St}
  (h:∀ a,pre a→@wW G T F.code (Dc (enc a).1) (enc a).2 ⟨@GQ F.res ⟨fun d st'=>(H9 (enc a).2.length d,cut (enc a).2.length st')=r a⟩⟩) (U:T.y=fun _ _ _=>none:=by rfl):IContract P G f (GP enc pre r):=by
 refine sW M J (fun ds st x V=>?_) U;obtain⟨a,ha,Y,rfl⟩:=ji V;obtain⟨fuel,d,st',E,I⟩:=Yy (Hv (h a Y));rw[ha]at E I;refine⟨fuel,?_⟩;unfold dropped;rw[E fuel (Ax _)];exact congrArg some I
def NA(k:Nat)(o:Obj):Obj:={o with els:=if o.row then o.els else o.els.map (HD k)}
def Ji(k:Nat):Nat→St→St
 |0,_=>[]
 |_+1,[]=>[]
 |n+1,o::st=>NA k o::Ji k n st
theorem zf(k:Nat):∀ (n:Nat) (st:St),Ji k n st=(st.take n).map (NA k)
 |0,_=>by simp[Ji]
 |n+1,[]=>by simp[Ji]
 |n+1,o::st=>by simp[Ji,zf k n st]
theorem YEz(k:Nat)(st:St):cut k st=Ji k k st:=by
 rw[zf]; rfl
theorem Yhp(k:Nat)(st:St):Ji k 0 st=[]:=by simp[Ji]
theorem Yhq(k n:Nat)(o:Obj)(st:St):Ji k (n+1) (o::st)=NA k o::Ji k n st:=(rfl)
theorem Ypn(k sz:Nat)(els:List D)(lent:Bool):NA k ⟨true,sz,els,lent⟩=⟨true,sz,els,lent⟩:=(rfl)
theorem Ypo(k sz:Nat)(els:List D)(lent:Bool):NA k ⟨false,sz,els,lent⟩=⟨false,sz,els.map (HD k),lent⟩:=(rfl)
theorem Ynn(n:Nat)(k:IntKind)(m:Int):GW n (.int k m)=.int k m:=(rfl)
theorem Ye0(n:Nat)(b:Bool):GW n (.bool b)=.bool b:=(rfl)
theorem Ynl(n sz:Nat)(els:List D)(t:Bool):GW n (.slc sz els t)=.slc sz els t:=(rfl)
theorem Ynm(n key tot off len:Nat):GW n (.row key tot off len)=if key<n then .row key tot off len else .junk:=(rfl)
theorem Yv0(n:Nat)(k:IntKind)(m:Int):HD n (.int k m)=.int k m:=(rfl)
theorem Ynh(n:Nat)(b:Bool):HD n (.bool b)=.bool b:=(rfl)
theorem Yvx(n sz:Nat)(els:List D)(t:Bool):HD n (.slc sz els t)=.slc sz els t:=(rfl)
theorem Yvy(n key tot off len:Nat):HD n (.row key tot off len)=if key<n then .row key tot off len else .junk:=(rfl)
theorem Yvz(n key off:Nat):HD n (.ptr key off)=if key<n then .ptr key off else .junk:=(rfl)
theorem Yng(n key:Nat):HD n (.mapv key)=if key<n then .mapv key else .junk:=(rfl)
theorem Ynk(n:Nat)(d:Dig):(C8 d).map (HD n)=C8 d:=by
 simp only[C8,CG];apply BI;intro b _;rfl
theorem Yez(n:Nat):H9 n (.tup [])=.tup []:=(rfl)
theorem YEb(f:Nat)(l:List D):hk (.clo f l)=l.flatMap GB:=(rfl)
theorem Yxk(key off:Nat):GB (.ptr key off)=[key]:=(rfl)
theorem Yu2(n:Nat)(σ:List Nat)(f:Nat)(l:List D):Eu n σ (.clo f l)=.clo f (l.map (GR n σ)):=(rfl)
theorem Ymg(n:Nat)(σ:List Nat)(key off:Nat):GR n σ (.ptr key off)=Jq (fun k=>.ptr k off) (EW n σ key):=(rfl)
attribute [push_cast] Yv0 Ynh Yvx Yvy Yvz Yng Ynk
attribute [push_cast] YEz Yhp Yhq Ypn Ypo Ynn Ye0 Ynl Ynm Yez YEb Yxk Yu2 Ymg
set_option linter.unusedVariables false
variable {e:TypeId}
section
variable {P:Program} {G:Dj} {T:Tbl} {il:List Nat}
theorem Yuq{w:World}{g:Ghost}{sz:Nat}{els:List D}{t:Bool}{v:Value}(h:RepV w g st (.slc sz els t) v):∃ a n cap,v=.slice a n cap∧(els≠[]→a.isNone=false):=by
 cases h with
 |slcE _ _ a cap h=>exact⟨a,0,cap,rfl,fun h=>absurd rfl h⟩
 |slc _ _ b off cap _ val E=>exact⟨_,_,_,rfl,fun _=>rfl⟩
theorem yZy{t:TypeId}(E:P.underlying t=some (.slice e))(w:World)(a:Option Addr)(n cap:Nat):(binOp .eql t (.slice a n cap) (.slice none 0 0)).run P w=.ok (.bool a.isNone) w:=by
 have he:(Op.equal t (.slice a n cap) (.slice none 0 0)).run P w=.ok a.isNone w:=run_equalIn_slice_nil w 9999 t e a n cap E;simp[binOp,he]
theorem Ypq(hT:TblOK P G T)(hy:T.y=fun _ _ _=>none){id1:Nat}{fn:Func}{c0 A B:Code}{o1 o2:Oper}{t3 t4:Nat}{tS:TypeId}{l0:List PI}{pA pB:PC}{res:List PRes}
  (hfn:P.funcs[f]?=some fn) (hname:(fn.name == "runtime.NumGoroutine")=false) (hc:fn.body=some (.seq c0 (.seq (.seq (.region id1 #[o1,o2] false) (.cond (.tmp t4) A .skip)) B)))
  (h0:H5 P il fn.ntmps [] c0=some (.ops l0,[])) (hA:H5 P il fn.ntmps [] A=some (pA,[])) (hB:H5 P il fn.ntmps [] B=some (pB,[])) (hr:OZ P fn.results.toList=some res)
  (ho1:MO P il fn.ntmps #[o1,o2] o1=some {dst:=some t3,op:=.mov (.s 0)}) (ho2:o2.op=.binOp .eql tS (.tmp t3) (.const (.slice none 0 0)) tS) (hd2:o2.dst=some t4) (hg2:o2.guard=none) (ht4:t4<fn.ntmps)
  (hS:P.underlying tS=some (.slice e)) 
  (hsp:∀ ds st d st',sp ds st=some (d,st')→∃ sz els t fr0,ds=[.slc sz els t]∧E6 G T l0 ⟨Dc ds,st⟩=some ⟨fr0,st⟩∧fr0 0=.slc sz els t∧
   (els=[]→∃ fuel sA xs,pA.exec G T fuel ⟨(fr0.set t3 (.slc sz els t)).set t4 (.bool true),st⟩=some (.ret,sA)∧sA.st=st'∧D8 sA res=some xs∧∀ w g v,RepV w g st' (DS xs) v→RepV w g st' d v)∧
   (∃ fuel sB xs,pB.exec G T fuel ⟨(fr0.set t3 (.slc sz els t)).set t4 (.bool false),st⟩=some (.ret,sB)∧sB.st=st'∧D8 sB res=some xs∧∀ w g v,RepV w g st' (DS xs) v→RepV w g st' d v)):IContract P G f sp:=by
 refine⟨⟨fn,hfn,by rw[hc]; rfl,hname⟩,?_⟩;intro base w g st st' ds vs d hx hSR hG hlen hrep
 have hR0:R G base fn.ntmps w g st [] {fr:=Dc ds,st} {tmps:=vs.toArray++CX (fn.ntmps - vs.toArray.size) undef,defers:=[]} w:=by
  refine⟨g,Go1.refl hSR,?_,hG,⟨[],rfl,trivial⟩,?_⟩
  ·intro s;simp only[Dc];rcases A8 s ds.length with h1 | h1
   ·have h2:s<vs.length:=by omega
    have h3:(vs.toArray++CX (fn.ntmps - vs.toArray.size) undef).getD s undef=vs[s]:=by
     simp[Array.getD,h2];intro h4;omega
    rw[h3];have:=hrep s ds[s] vs[s] (by simp[h1]) (by simp[h2]);simpa[Af,h1]using this
   ·simp[Af,Bd h1];exact .junk _
  ·simp; omega
 obtain⟨sz,els,t,fr0,rfl,e0,e1,eA,eB⟩:=hsp _ _ _ _ hx;have hY:YOK P G T.y base w g st:=by rw[hy]; exact YOK.none
 refine callsIn_wide.1 (callsIn_of_wp_marks (F:=Fence.wide) (n:=0) hfn hc trivial ?_)
 have fin:∀ (s':PS) (xs:List D),s'.st=st'→D8 s' res=some xs→(∀ w g v,RepV w g st' (DS xs) v→RepV w g st' d v)→∀ a' w',R G base fn.ntmps w g st [] s' a' w'→
   LeavesInM Fence.wide 0 P fn a'.tmps (fun e w'=>∃ v g',e=.returned v∧Go1 base w g st w' g' st'∧RepV w' g' st' d v) a'.defers .returning w':=by
  rintro s' xs rfl hx1 hw a' w' ⟨g1,h⟩;obtain⟨dd,hd1,hd2⟩:=h.df;rw[hd1,Ai];refine Ul hSR.size dd w' h.go1 h.fr hd2 fun w2 hgo hF=>?_;obtain⟨us,e1,e2,e3⟩:=SA hgo.sr hF hr hx1;exact⟨_,Zj e3,_,g1,rfl,hgo,hw _ _ _ (TP e1 e2)⟩
 refine wpIn_seq (ON hT c0 none (.inl rfl) w g st [] hY hSR.size [] _ h0 0 _ ⟨fr0,st⟩ .next (by simp only[PC.exec,e0]) _ w _ hR0 fun a1 w1 hR1=>?_);refine wpIn_seq (wpIn_seq (wpIn_region_list ?_));refine T4 (r:=none) hT hY hR1 ho1 (s':=⟨fr0.set t3 (.slc sz els t),st⟩) (by simp[PI.exec,PI.step,PI.wanted,POp.exec,Du,e1,Frame.set,Frame.put]) fun a2 w2 hR2=>?_;obtain⟨g2,h2⟩:=id hR2;have hv:RepV w2 g2 st ((fr0.set t3 (.slc sz els t)) t3) (a2.tmps.getD t3 undef):=h2.fr t3;have hset:(Frame.set fr0 t3 (.slc sz els t)) t3=.slc sz els t:=by simp[Frame.set]
 rw[hset]at hv;obtain⟨a,n,cap,hva,hne⟩:=Yuq hv;obtain⟨dst2,op2,ty2,pos2,after2,guard2⟩:=o2;dsimp only at ho2 hd2 hg2;subst ho2 hd2 hg2;have hw2:∀ y,Region.wanted (⟨some t4,.binOp .eql tS (.tmp t3) (.const (.slice none 0 0)) tS,ty2,pos2,after2,none⟩:Oper) y=true:=fun y=>rfl;have hev:a2.eval (.tmp t3)=.slice a n cap:=hva;have hsz2:t4<a2.tmps.size:=AX ht4 h2.sz
 show(if Region.wanted _ _=true then _ else _)
 rw[hw2,if_pos rfl];refine Q5 (by intro c h; cases h) ?_;refine Gs (d:=.bool a.isNone) (s:=do eqGuard .eql tS (.tmp t3) (.const (.slice none 0 0)) (a2.eval (.tmp t3)) (a2.eval (.const (.slice none 0 0))); binOp .eql tS (a2.eval (.tmp t3)) (a2.eval (.const (.slice none 0 0)))) h2.sr rfl ?_ (.bool _) ?_
 ·simp only[Sem.run_bind,hev,fK .eql tS (.tmp t3) (.const (.slice none 0 0)) (.slice a n cap) (a2.eval (.const (.slice none 0 0))) (fun u e=>by cases e) (fun e=>by cases e),Result.andThen_ok];exact yZy hS w2 a n cap
 intro v w3 g3 hgo hrep3
 have hR3:R G base fn.ntmps w g st [] ⟨(fr0.set t3 (.slc sz els t)).set t4 (.bool a.isNone),st⟩ (a2.put (some t4) v) w3:=
  ⟨g3,h2.go hgo ((h2.fr.mono hgo.im hgo.evo).put (dst:=some t4) (fun t e=>by cases e; exact hsz2) hrep3) (Qc ..) (by rw[QO]; exact h2.sz)⟩
 obtain rfl:=L1 hrep3
 have hbv:(a2.put (some t4) (.bool a.isNone)).eval (.tmp t4)=.bool a.isNone:=by
  simp[Act.eval,Act.put,hsz2]
 cases hnil:a.isNone with
 |true=>
  rw[hnil]at hbv hR3;have hels:els=[]:=Classical.byContradiction fun h=>by rw[hne h]at hnil; cases hnil
  obtain⟨fuel,sA,xs,x1,x2,x3,x4⟩:=eA hels;refine wpIn_cond_true hbv ?_;refine ON hT A none (.inl rfl) w g st [] hY hSR.size [] _ hA fuel _ sA .ret x1 _ _ _ hR3 fun a4 w4 hR4=>?_;exact fin sA xs x2 x3 x4 a4 w4 hR4
 |false=>
  rw[hnil]at hbv hR3;obtain⟨fuel,sB,xs,x1,x2,x3,x4⟩:=eB;refine wpIn_cond_false hbv (wpIn_skip ?_);refine ON hT B none (.inl rfl) w g st [] hY hSR.size [] _ hB fuel _ sB .ret x1 _ _ _ hR3 fun a4 w4 hR4=>?_;exact fin sB xs x2 x3 x4 a4 w4 hR4
end
end Go.Proofs.YtijnglngaogdjaaGreatDoor.PI
namespace Go.Proofs.YtijnglngaogdjaaGreatDoor.PI
open Go Go.RowKit
variable {v:Value}{ds:List D}{sp:List D→St→Option (D×St)}{f:Nat}{hints:List (List Nat)}{il:List Nat}{F:PF}{dst:Option Tmp}{a:Act}{x:Operand}{u:TypeDesc}{T1:TypeId}
section
variable {P:Program} {G:Dj} {T:Tbl} {base n:Nat} {w:World} {g:Ghost} {st:St}
theorem Ym1(h:RepV w g st (DS ds) v):∃ us:List Value,v=eD us∧ds.length=us.length∧∀ (i:Nat) d u,ds[i]?=some d→us[i]?=some u→RepV w g st d u:=by
 match ds with
 |[d]=>
  refine⟨[v],rfl,rfl,fun i J u E I=>?_⟩
  cases i with
  |zero=>
   simp only[AF,Db]at E I;subst E; subst I;exact h
  |succ i=>simp at E
 |[]=>
  cases h with
  |tup _ vs E I=>
   obtain rfl:vs=[]:=AQ E.symm;exact⟨[],rfl,rfl,I⟩
 |a::b::l=>
  cases h with
  |tup _ vs E I=>
   match vs,E with
   |x::y::r,E=>exact⟨x::y::r,rfl,E,I⟩
theorem ySm(h:IContract P G f sp){xs ys:List D}{st':St}(Y:sp ds []=some (DS xs,st'))(h2:Em st' xs=some ys) :
  ∀ (w:World) (g:Ghost) (vs:List Value),GlobOK G w g→(∀ b o,g.Im b o→(w.cell? ⟨b,o,none⟩).isSome=true)→ds.length=vs.length→
  (∀ (i:Nat) d v,ds[i]?=some d→vs[i]?=some v→RepV w g [] d v)→
  Calls P f vs.toArray w fun e w'=>∃ v g',e=.returned v∧RepV w' g' [] (DS ys) v∧purR (DS ys)=true∧ImLe w g w' g'∧(∀ b o,g'.Im b o→g.Im b o∨w.heap.size≤b)∧
   (∀ b o,g'.Im b o→(w'.cell? ⟨b,o,none⟩).isSome=true)∧Below w.heap.size w w':=by
 intro w g vs hG M hlen J;have hS:SR w.heap.size w g []:=⟨fun k o h=>by simp at h,fun k o h=>by simp at h,fun k k' o o' h=>by simp at h,M,fun k o x h=>by simp at h,Ax _⟩;refine(h.2 w.heap.size w g [] st' ds vs _ Y hS hG hlen J).mono ?_;rintro e w' ⟨v,g1,rfl,I,hr⟩;obtain⟨us,rfl,e1,e2⟩:=Ym1 hr;obtain⟨g2,U,_,e5,V,e7⟩:=SI I.sr h2;have E:=I.trans U;refine⟨_,g2,rfl,?_,dn V,E.im,E.new,E.sr.im,E.below⟩;have h8:=TP (g:=g2) (w:=w') (ds:=ys) (vs:=us) (by omega) fun i y v hy hv=>e7 i y v hy fun x hx=>e2 i x v hx hv;exact h8.purR (ImLe.refl _ _) (dn V)
theorem yOp{F:PFD}{H:IY}(ht:O0 P il f hints=some F)(hT:TblOK P G T)(hH:∀ f h,H f=some h→Ud P G f h){α:Type}{enc:α→List D}{pre:α→Prop}{r:α→D}
  (h:∀ a,pre a→RB G T F H (enc a) [] fun h M=>Rq h M F.res (r a)) (hy:T.y=fun _ _ _=>none:=by rfl):Contract P G f (Dl enc pre r):=by
 intro w g ds vs d hd hG ad hlen V _;obtain⟨a,rfl,hp,rfl⟩:=jk hd;obtain⟨k,s1,f',M,h',e,U,st',Y,h2,h3,h4,I⟩:=Yct (h a hp);have hI:=Yo5 hT hy ht hH k
 have fin:∀ (E:St),(FV ⟨U,E⟩ F.res).map DS=some (r a)→(∀ xs,D8 ⟨U,E⟩ F.res=some xs→F.runI G T H k (enc a) []=some (DS xs,E))→Calls P f vs.toArray w fun e w'=>∃ v g',e=.returned v∧RepV w' g' [] (r a) v∧purR (r a)=true∧ImLe w g w' g'∧(∀ b o,g'.Im b o→g.Im b o∨w.heap.size≤b)∧
   (∀ b o,g'.Im b o→(w'.cell? ⟨b,o,none⟩).isSome=true)∧Below w.heap.size w w':=by
  intro E hg J;simp only[DH]at hg;obtain⟨ys,af,ah⟩:=hg;obtain⟨xs,q1,q2⟩:=jZ af;rw[← ah];exact ySm hI (J xs q1) q2 w g vs hG ad hlen V
 unfold Rq at I
 cases e with
 |next=>exact fin st' I fun xs J=>by simp only[PFD.runI,Y,h2,h3,h4 k (Ax _),J,Ae]
 |ret=>exact fin st' I fun xs J=>by simp only[PFD.runI,Y,h2,h3,h4 k (Ax _),J,Ae]
 |exit id=>exact I.elim
 |panic t dd=>
  simp only at I;unfold on at I
  split at I
  case h_2=>exact I.elim
  rename_i E h6;exact fin E I fun xs J=>by simp only[PFD.runI,Y,h2,h3,h4 k (Ax _),h6,J,Ae]
theorem yLi(I:DB P il f hints=some F)(J:TblOK P G T){sx:List D→St→Option (Nat×D×St)}
  (h:∀ ds st r,sx ds st=some r→@wW G T F.code (Dc ds) st ⟨@Np ⟨fun t d st'=>(t,d,st')=r⟩⟩) (M:T.y=fun _ _ _=>none:=by rfl):Q6 P G f sx:=by
 refine⟨(p8 J M I 0).1,?_⟩;intro base w g st st' ds vs t d U Y hG hl E;obtain⟨k,t1,d1,st1,h1,V⟩:=Ycr (Hv (h ds st _ U));simp only[Dx]at V;obtain⟨rfl,rfl,rfl⟩:=V;exact(p8 J M I k).2 base w g st _ ds vs _ _ (h1 k (Ax _)) Y hG hl E
theorem Zx(E:DB P il f hints=some F)(I:TblOK P G T)
  (h:∀ ds st r,sp ds st=some r→@wW G T F.code (Dc ds) st ⟨@GQ F.res ⟨fun d st'=>(H9 st.length d,cut st.length st')=r⟩⟩) (J:T.y=fun _ _ _=>none:=by rfl):IContract P G f sp:=by
 refine sW I E (fun ds st x M=>?_) J;obtain⟨fuel,d,st',U,V⟩:=Yy (Hv (h ds st x M));refine⟨fuel,?_⟩;unfold dropped;grind
theorem Jv(I:DB P il f hints=some F)(J:TblOK P G T)
  (h:∀ ds st r,sp ds st=some r→@wW G T F.code (Dc ds) st ⟨@GQ F.res ⟨fun d st'=>(d,st')=r⟩⟩) (M:T.y=fun _ _ _=>none:=by rfl):IContract P G f sp:=by
 refine⟨(cY J M I 0).1,?_⟩;intro base w g st st' ds vs d U Y hG hl E;obtain⟨k,d1,st1,h1,V⟩:=Yy (Hv (h ds st _ U));simp only[Dx]at V;obtain⟨rfl,rfl⟩:=V;exact(cY J M I k).2 base w g st _ ds vs _ (h1 k (Ax _)) Y hG hl E
theorem Contract.or{sp E I:List D→Option D}(J:Contract P G f E)(M:Contract P G f I)(h:∀ ds d,sp ds=some d→E ds=some d∨I ds=some d):Contract P G f sp:=by
 intro w g ds vs d U;rcases h ds d U with h | h
 ·exact J w g ds vs d h
 ·exact M w g ds vs d h
theorem IContract.or{E I:List D→St→Option (D×St)}(M:IContract P G f E)(V:IContract P G f I)(h:∀ ds st r,sp ds st=some r→E ds st=some r∨I ds st=some r):IContract P G f sp:=by
 refine⟨M.1,?_⟩;intro base w g st st' ds vs d U;rcases h ds st _ U with J | J
 ·exact M.2 base w g st st' ds vs d J
 ·exact V.2 base w g st st' ds vs d J
def I1(sp:List D→Option D)(ds:List D)(st:St):Option (D×St):=match Em st ds with
 |some vs=>match sp vs with
  |some r=>some (r,if r.noRef then st else PI.lend (ds.flatMap keys) st)
  |none=>none
 |none=>none
theorem Contract.toI{sp:List D→Option D}(h:Contract P G f sp){fn:Func}(hfn:P.funcs[f]?=some fn)(hb:fn.body.isSome=true)(hname:(fn.name == "runtime.NumGoroutine")=false):IContract P G f (I1 sp):=by
 refine⟨⟨fn,hfn,hb,hname⟩,?_⟩;intro base w g st st' ds vs d hsp hS hG hl hrep;unfold I1 at hsp
 split at hsp
 case h_2=>cases hsp
 rename_i ys hi
 split at hsp
 case h_2=>cases hsp
 rename_i r hr;simp only[Db,Dx]at hsp;obtain⟨rfl,rfl⟩:=hsp;obtain⟨g1,hgo,_,hyl,hpure,hyr⟩:=SI hS hi;have hc:=h w g1 ys vs r hr (hG.mono hgo.im) hgo.sr.im (hyl.trans hl) (fun i y v hy hv=>(hyr i y v hy (fun d hd=>hrep i d v hd hv)).purA (ImLe.refl _ _) (hpure y (Aj hy))) hpure;refine hc.mono ?_;rintro e w' ⟨v,g',rfl,h1,h2,h3,h4,h5,h6⟩;have hbes:Beside w w':=⟨h6.os,h6.tape,h6.output,h6.size⟩
 by_cases hnr:r.noRef=true
 ·refine⟨v,{g with Im:=g.Im},rfl,?_,by rw[if_pos hnr]; exact tz h1 hnr⟩;rw[if_pos hnr];refine hS.more hbes h6.block (fun _ _ h=>h) (fun _ _ h=>.inl h) (fun b o hb=>?_);have:w'.cell? ⟨b,o,none⟩=w.cell? ⟨b,o,none⟩:=by simp only[World.cell?,h6.block b (hS.im_lt hb)]
  rw[this]; exact hS.im b o hb
 ·refine⟨v,{g1 with Im:=g'.Im},rfl,?_,?_⟩
  ·rw[if_neg hnr];exact hgo.trans (hgo.sr.more hbes h6.block (fun b o h=>(h3.im b o h).1) (fun b o h=>h4 b o h) h5)
  ·exact RepV.purR (g:=g') (g':={g1 with Im:=g'.Im}) ⟨fun b o h=>⟨h,rfl⟩,fun _ _ h _=>h⟩ h1 h2
def Wv:Tbl:={p:=fun _=>none,i:=fun _=>none,m:=fun _=>none}
theorem YCo:TblOK P G Wv:=⟨fun _ _ h=>(by cases h),fun _ _ h=>(by cases h),fun _ _ h=>(by cases h),fun _ _ h=>(by cases h),fun _ _ h=>(by cases h),fun _ _ h=>(by cases h)⟩
structure PH where
 t:Nat
 js:List Nat
 vs:Nat
 l:List PI
 deriving Inhabited
def XW(fr:Frame):List Nat→Frame
 |[]=>fr
 |s::l=>XW (fr.set s .junk) l
def PH.run(G:Dj)(F:PH):Nat→D→List D→St→Option St:=fun t d das st=>
 if t=F.t∧LK d=true then(E6 G Wv F.l ⟨(XW (Dc das) F.js).set F.vs d,st⟩).map (·.st)else none
def Kb(P:Program)(n:Nat):Code→Option (List PI)
 |.region _ ops false=>F7 P [] n ops ops.toList
 |.seq a b=>match Kb P n a,Kb P n b with
  |some x,some y=>some (x++y)
  |_,_=>none
 |.skip=>some []
 |_=>none
theorem iy{w0:World}{g0:Ghost}{st0:St}{dl:List Deferred}:∀ (c:Code) (l:List PI) (s s':PS) (a:Act) (w:World) (Q:Exit→Act→World→Prop),Kb P n c=some l→E6 G Wv l s=some s'→R G base n w0 g0 st0 dl s a w→
  (∀ J w',R G base n w0 g0 st0 dl s' J w'→J.defers=a.defers→Q .normal J w')→c.wpIn Fence.wide 0 P Q a w
 |.region id ops draw,l,s,s',a,w,Q,E,I,M,U=>by
  cases draw with
  |true=>simp[Kb]at E
  |false=>exact wpIn_region_list (tp (r:=none) YCo YOK.none _ _ s s' a w E I M U)
 |.seq x y,l,s,s',a,w,Q,E,I,M,U=>by
  simp only[Kb]at E
  split at E
  case h_2=>cases E
  rename_i lx ly h1 h2;simp only[Db]at E;subst E;rw[fL,Ay]at I;obtain⟨s1,V,Y⟩:=I;refine wpIn_seq (iy x lx s s1 a w _ h1 V M fun J w' aa ab=>?_);exact iy y ly s1 s' J w' _ h2 Y aa fun a2 w2 ac ad=>U a2 w2 ac (ad.trans ab)
 |.skip,l,s,s',a,w,Q,E,I,M,U=>by
  simp only[Kb,Db]at E;subst E;simp only[E6,Db]at I;subst I;exact wpIn_skip (U a w M rfl)
 |.cond _ _ _,_,_,_,_,_,_,E,_,_,_=>by simp[Kb]at E
 |.block _ _,_,_,_,_,_,_,E,_,_,_=>by simp[Kb]at E
 |.loop _,_,_,_,_,_,_,E,_,_,_=>by simp[Kb]at E
 |.exit _,_,_,_,_,_,_,E,_,_,_=>by simp[Kb]at E
 |.ret,_,_,_,_,_,_,E,_,_,_=>by simp[Kb]at E
 |.rangeFunc _ _ _ _,_,_,_,_,_,_,E,_,_,_=>by simp[Kb]at E
 |.scope _,_,_,_,_,_,_,E,_,_,_=>by simp[Kb]at E
 |.label _,_,_,_,_,_,_,E,_,_,_=>by simp[Kb]at E
 |.goto _,_,_,_,_,_,_,E,_,_,_=>by simp[Kb]at E
 |.refuse _,_,_,_,_,_,_,E,_,_,_=>by simp[Kb]at E
theorem Ycq(E:P.underlying T1=some u)(hn:∀ m,u≠.interface m)(I:a.eval x=.iface T1 v){ty xt:TypeId}{pos:String}{after:Array Edge}{guard:Option (Nat×Bool)}(w:World) :
  (execOp a.eval {dst:=dst,op:=.typeAssert x xt T1 true,type:=ty,pos:=pos,after:=after,guard:=guard}).run P w=.ok (.value (.tuple #[v,.bool true])) w:=by
 simp only[execOp,I,Instr.typeAssert,Sem.run_bind,run_underlying E,Result.andThen_ok];rfl
theorem Ycp(E:P.underlying T1=some u)(hn:∀ m,u≠.interface m){i:TypeInfo}{z:Value}(hi:P.info? T1=some i)(I:i.zero=some z)(J:a.eval x=.nilIface){ty xt:TypeId}{pos:String}{after:Array Edge}{guard:Option (Nat×Bool)}(w:World) :
  (execOp a.eval {dst:=dst,op:=.typeAssert x xt T1 true,type:=ty,pos:=pos,after:=after,guard:=guard}).run P w=.ok (.value (.tuple #[z,.bool false])) w:=by
 have M:(zeroValue T1).run P w=.ok z w:=by simp[zeroValue,typeInfo,hi,I]
 simp only[execOp,J,Instr.typeAssert,Sem.run_bind,run_underlying E,Result.andThen_ok];simp_all
theorem Ybd{d:D}(h:Qv d=true):RepV w g st d (Nl d):=by
 cases d with
 |int k m=>exact .int k m
 |_=>simp[Qv]at h
theorem yW7{d:D}(h:LK d=true):RepV w g st d (G2 d):=by
 cases d with
 |int k m=>exact .int k m
 |agg l=>
  refine .agg l _ (by simp) fun i d v E hv=>?_;rw[AD,E]at hv;simp only[Ae,Db]at hv;subst hv;exact Ybd (Ag.1 h _ (Aj E))
 |_=>simp[LK,Qv]at h
theorem L4{r:Nat}(h:r<a.tmps.size):(a.put (some r) v).eval (.tmp r)=v:=by
 simp[Act.put,Act.eval,h]
theorem UM{r s:Nat}(h:r≠s):(a.put (some s) v).eval (.tmp r)=a.eval (.tmp r):=by
 have E:¬ s=r:=fun e=>h e.symm;simp[Act.put,Act.eval,Array.getD_eq_getD_getElem?,E]
theorem Lc(a:Act)(r:Nat)(v:Value):(a.put (some r) v).tmps.size=a.tmps.size:=by simp[Act.put]
theorem wh{o:Oper}{w:World}(h:o.op=.call {callee:=.builtin .recover,args:=#[],argTypes:=#[]}):(execOp a.eval o).run P w=.ok .recover w:=by
 simp only[execOp,h];rfl
theorem Yk8{vs:List Value}{m:Nat}(M:ds.length=vs.length)(E:∀ (i:Nat) d v,ds[i]?=some d→vs[i]?=some v→RepV w g st d v) :
  FR w g st (Dc ds) {tmps:=vs.toArray++CX (m - vs.toArray.size) undef,defers:=[]}∧m≤(vs.toArray++CX (m - vs.toArray.size) undef).size:=by
 refine⟨?_,by simp; omega⟩;intro s;simp only[Dc];rcases A8 s ds.length with I | I
 ·have J:s<vs.length:=by omega
  have U:(vs.toArray++CX (m - vs.toArray.size) undef).getD s undef=vs[s]:=by
   simp[Array.getD,J];omega
  rw[U];have:=E s ds[s] vs[s] (by simp[I]) (by simp[J]);grind
 ·simp[Af,Bd I];exact .junk _
def mP(P:Program)(t:TypeId):Bool:=match P.underlying t with
 |some (.interface _) | none=>false
 |some _=>true
theorem yR7{t:TypeId}(h:mP P t=true):∃ u,P.underlying t=some u∧∀ m,u≠.interface m:=by
 unfold mP at h;grind
end
end Go.Proofs.YtijnglngaogdjaaGreatDoor.PI
namespace Go.Proofs.YtijnglngaogdjaaGreatDoor.PI
open Go Go.RowKit
structure PFE where
 init:PC
 tail:PFD
 deriving Inhabited
noncomputable def PFD.from(G:Dj) (T:Tbl) (H:IY) (F:PFD) (fuel:Nat) (s:PS):Option (D×St):=
 match E6 G T F.pre s with
 |some s1=>match Oo (Du G s1.fr F.hf) (F.ha.map (Du G s1.fr))with
  |some (f,das)=>match H f with
   |some h=>match F.code.exec G T fuel s1 with
    |some (.next,s) | some (.ret,s)=>(D8 s F.res).map fun l=>(DS l,s.st)
    |some (.panic t d,s)=>match h t d das s.st with
     |some st3=>(D8 ⟨s.fr,st3⟩ F.res).map fun l=>(DS l,st3)
     |none=>none
    |_=>none
   |none=>none
  |none=>none
 |none=>none
noncomputable def PFE.runI(G:Dj)(T:Tbl)(H:IY)(F:PFE)(fuel:Nat)(ds:List D)(st:St):Option (D×St):=
 match F.init.exec G T fuel {fr:=Dc ds,st} with
 |some (.next,s)=>F.tail.from G T H fuel s
 |some (.ret,s)=>(D8 s F.tail.res).map fun l=>(DS l,s.st)
 |_=>none
section
variable {P:Program} {G:Dj} {T:Tbl} {il:List Nat}
def mh(G:Dj)(T:Tbl)(F:PFD)(H:IY)(Kr:Frame→St→Prop)(K:(Nat→D→List D→St→Option St)→List D→Ex→Frame→St→Prop)(e:Ex)(fr:Frame)(st:St):Prop:=match e with
 |.next=>@H4 G T F.pre fr st ⟨fun fr1 st1=>@on _ (Oo (Du G fr1 F.hf) (F.ha.map (Du G fr1))) ⟨fun p=>@on _ (H p.1) ⟨fun h=>@wW G T F.code fr1 st1 ⟨K h p.2⟩⟩⟩⟩
 |.ret=>Kr fr st
 |_=>False
theorem yXc(G:Dj)(T:Tbl)(F:PFD)(H:IY)(E:Frame→St→Prop)(K:(Nat→D→List D→St→Option St)→List D→Ex→Frame→St→Prop)(fr:Frame)(st:St) :
  mh G T F H E K .next fr st=@H4 G T F.pre fr st ⟨fun fr1 st1=>@on _ (Oo (Du G fr1 F.hf) (F.ha.map (Du G fr1))) ⟨fun p=>@on _ (H p.1) ⟨fun h=>@wW G T F.code fr1 st1 ⟨K h p.2⟩⟩⟩⟩:=(rfl)
theorem Ybo(G:Dj)(T:Tbl)(F:PFD)(H:IY)(E:Frame→St→Prop)(K:(Nat→D→List D→St→Option St)→List D→Ex→Frame→St→Prop)(fr:Frame)(st:St):mh G T F H E K .ret fr st=E fr st:=(rfl)
end
attribute [irreducible] mh
attribute [push_cast] yXc Ybo
end Go.Proofs.YtijnglngaogdjaaGreatDoor.PI
