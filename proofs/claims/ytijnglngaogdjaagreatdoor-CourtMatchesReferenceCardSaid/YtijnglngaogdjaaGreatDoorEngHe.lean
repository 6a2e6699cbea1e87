/-
  A function that, behind a test, puts off a call which recovers: its contract out of what its code comes to.
  Conditions: none; these are definitions and lemmas.
-/
import Derived.Test.YtijnglngaogdjaaGreatDoorEngI2
import Derived.Test.YtijnglngaogdjaaGreatDoorEngR
import Derived.Laws.Cover3
import Derived.RecoverIn
open Bool renaming false→f_,true→t_
open Option renaming some→s_
open Array renaming replicate→C9
set_option maxHeartbeats 8000000
set_option maxRecDepth 20000
set_option linter.unusedSimpArgs false
set_option linter.unusedVariables false
noncomputable section
namespace Go.Proofs.YtijnglngaogdjaaGreatDoor.PI
open Go
attribute[push_cast] eq_self iff_self
def E1(n:Nat)(els:List D):List Nat:=if els.isEmpty then []else [n]
theorem Mc(sz key:Nat)(els:List D)(h:els≠[]):DY sz key els=.row key els.length 0 els.length:=by
 cases els with
 |nil=>exact absurd rfl h
 |cons a l=>rfl
theorem LO(sz:Nat)(els:List D)(h:els≠[]):DC sz els=[{row:=t_,sz,els,lent:=f_}]:=by
 cases els with
 |nil=>exact absurd rfl h
 |cons a l=>rfl
theorem YLy(sz n:Nat)(els:List D):hk (DY sz n els)=E1 n els:=by cases els <;> rfl
theorem YBs(sz n:Nat)(els:List D):EO n (E1 n els) (DY sz n els)=DY sz n els:=by
 cases els with
 |nil=>rfl
 |cons a l=>simp[E1,DY,EO,EW,Hf,Fi,QD,JS]
theorem eT(n hi sz:Nat)(els:List D)(r:List Nat)(h:hi=(DC sz els).length+n):Fc n hi (E1 n els++r) []=Fc n hi r (E1 n els):=by
 cases els with
 |nil=>rfl
 |cons a l=>
  have:n<hi:=by rw[h]; simp[DC]
  simp[E1,Fc,this]
theorem Yif(sz:Nat)(els:List D)(r:List Nat):Fc 0 ((DC sz els).length) (E1 0 els++r) []=Fc 0 ((DC sz els).length) r (E1 0 els):=eT 0 _ sz els r (by simp)
theorem YAr(sz:Nat)(els:List D):Fc 0 ((DC sz els).length) (E1 0 els) []=E1 0 els:=by have:=Yif sz els [];rwa [Af]at this
theorem Yie(sz:Nat)(els:List D)(r:List Nat):Fc 1 ((DC sz els).length+1) (E1 1 els++r) []=Fc 1 ((DC sz els).length+1) r (E1 1 els):=eT 1 _ sz els r (by simp)
theorem YAq(sz:Nat)(els:List D):Fc 1 ((DC sz els).length+1) (E1 1 els) []=E1 1 els:=by have:=Yie sz els [];rwa [Af]at this
theorem Yid(sz:Nat)(els:List D)(r:List Nat):Fc 2 ((DC sz els).length+1+1) (E1 2 els++r) []=Fc 2 ((DC sz els).length+1+1) r (E1 2 els):=eT 2 _ sz els r (by simp)
theorem YAp(sz:Nat)(els:List D):Fc 2 ((DC sz els).length+1+1) (E1 2 els) []=E1 2 els:=by have:=Yid sz els [];rwa [Af]at this
theorem YAs(sz:Nat)(els:List D)(r:List Nat):Fc 3 ((DC sz els).length+1+1+1) (E1 3 els++r) []=Fc 3 ((DC sz els).length+1+1+1) r (E1 3 els):=eT 3 _ sz els r (by simp)
theorem ez(l:St)(sz:Nat)(els:List D):L4 l.length (E1 l.length els) (l++DC sz els) (E1 l.length els)=DC sz els:=by
 cases els with
 |nil=>rfl
 |cons a r=>simp[E1,DC,L4,FD]
theorem Ykm(sz:Nat)(els:List D):L4 0 (E1 0 els) (DC sz els) (E1 0 els)=DC sz els:=ez [] sz els
theorem Ykl(a:Obj)(sz:Nat)(els:List D):L4 1 (E1 1 els) (a::DC sz els) (E1 1 els)=DC sz els:=ez [a] sz els
theorem Ykk(a b:Obj)(sz:Nat)(els:List D):L4 2 (E1 2 els) (a::b::DC sz els) (E1 2 els)=DC sz els:=ez [a,b] sz els
theorem Ykj(a b c:Obj)(sz:Nat)(els:List D):L4 3 (E1 3 els) (a::b::c::DC sz els) (E1 3 els)=DC sz els:=ez [a,b,c] sz els
theorem Ykt(l:St)(sz sz0 E bytes:Nat)(els xs:List D)(t:Bool)(M:E=sz∨xs=[])(hs0:sz≠0)(hb:(els.length+xs.length)*bytes≤140737488355328)(hl:els.length+xs.length≤4294967296) :
  Eg (l++DC sz els) sz bytes (DY sz0 l.length els) (.slc E xs t)=s_ (DY sz0 l.length (els++xs),l++DC sz (els++xs)):=
 Yt4 l sz sz0 bytes els xs _ E rfl M hs0 hb hl
section
variable {α:Type} (f:α→D) (a b c d:Obj) (sz sz0 bytes:Nat) (A B:List α) (t:Bool) (hs0:sz≠0) (hb:(A.length+B.length)*bytes≤140737488355328) (hl:A.length+B.length≤4294967296)
include hs0 hb hl
theorem SE(l:St)(E:Nat)(M:E=sz∨B.map f=[]):Eg (l++DC sz (A.map f)) sz bytes (DY sz0 l.length (A.map f)) (.slc E (B.map f) t)=s_ (DY sz0 l.length ((A++B).map f),l++DC sz ((A++B).map f)):=by rw[Ykt l sz sz0 E bytes (A.map f) (B.map f) t M hs0 (by simpa using hb) (by simpa using hl),Bm]
theorem YB7:Eg (a::DC sz (A.map f)) sz bytes (DY sz0 1 (A.map f)) (.slc (nz sz (B.map f)) (B.map f) t)=s_ (DY sz0 1 ((A++B).map f),a::DC sz ((A++B).map f)):=SE f sz sz0 bytes A B t hs0 hb hl [a] _ (OD _ _)
end
section
variable {α:Type} (f:α→D) (a b c d:Obj) (sz sz0 bytes:Nat) (A:List α) (x:α) (t:Bool) (hs0:sz≠0) (hb:(A.length+1)*bytes≤140737488355328) (hl:A.length+1≤4294967296)
include hs0 hb hl
theorem Vt(l:St):Eg (l++DC sz (A.map f)) sz bytes (DY sz0 l.length (A.map f)) (.slc sz [f x] t)=s_ (DY sz0 l.length ((A++[x]).map f),l++DC sz ((A++[x]).map f)):=
 SE f sz sz0 bytes A [x] t hs0 hb hl l sz (.inl rfl)
theorem YB6:Eg (DC sz (A.map f)) sz bytes (DY sz0 0 (A.map f)) (.slc sz [f x] t)=s_ (DY sz0 0 ((A++[x]).map f),DC sz ((A++[x]).map f)):=Vt f sz sz0 bytes A x t hs0 hb hl []
theorem YB5:Eg (a::DC sz (A.map f)) sz bytes (DY sz0 1 (A.map f)) (.slc sz [f x] t)=s_ (DY sz0 1 ((A++[x]).map f),a::DC sz ((A++[x]).map f)):=Vt f sz sz0 bytes A x t hs0 hb hl [a]
theorem jw:Eg (a::b::DC sz (A.map f)) sz bytes (DY sz0 2 (A.map f)) (.slc sz [f x] t)=s_ (DY sz0 2 ((A++[x]).map f),a::b::DC sz ((A++[x]).map f)):=Vt f sz sz0 bytes A x t hs0 hb hl [a,b]
theorem jx:Eg (a::b::c::DC sz (A.map f)) sz bytes (DY sz0 3 (A.map f)) (.slc sz [f x] t)=s_ (DY sz0 3 ((A++[x]).map f),a::b::c::DC sz ((A++[x]).map f)):=Vt f sz sz0 bytes A x t hs0 hb hl [a,b,c]
end
variable {α:Type}
theorem YP(f:α→D)(st:St)(sz sz0 bytes:Nat)(B:List α)(t:Bool)(hs0:sz≠0)(hb:B.length*bytes≤140737488355328)(hl:B.length≤4294967296) :
  Eg st sz bytes (.slc sz0 [] t_) (.slc (nz sz (B.map f)) (B.map f) t)=s_ (DY sz0 st.length (B.map f),st++DC sz (B.map f)):=by have:=SE f sz sz0 bytes [] B t hs0 (by simpa using hb) (by simpa using hl) st _ (OD _ _);simpa[DC,DY]using this
theorem yYm(f:α→D)(st:St)(sz sz0 bytes:Nat)(x:α)(t:Bool)(hs0:sz≠0)(hb:bytes≤140737488355328) :
  Eg st sz bytes (.slc sz0 [] t_) (.slc sz [f x] t)=s_ (.row st.length 1 0 1,st++[⟨t_,sz,[f x],f_⟩]):=by have:=SE f sz sz0 bytes [] [x] t hs0 (by simpa using hb) (by simp) st sz (.inl rfl);simpa[DC,DY]using this
theorem Yqu(f:α→D)(sz key:Nat)(A:List α)(x:α):DY sz key ((A++[x]).map f)=.row key (A++[x]).length 0 (A++[x]).length:=by rw[Mc _ _ _ (by simp),A7]
theorem Yqt(f:α→D)(sz:Nat)(A:List α)(x:α):DC sz ((A++[x]).map f)=[⟨t_,sz,(A++[x]).map f,f_⟩]:=LO _ _ (by simp)
theorem ju(f:α→D)(sz:Nat)(A:List α)(h:Nat):nz (nz sz (A.map f)) ((A.take h).map f)=nz sz ((A.take h).map f):=by
 cases A with
 |nil=>simp[nz]
 |cons a r=>rfl
theorem jr(f:α→D)(sz:Nat)(A:List α)(l:Nat):nz (nz sz (A.map f)) ((A.drop l).map f)=nz sz ((A.drop l).map f):=by
 cases A with
 |nil=>simp[nz]
 |cons a r=>rfl
theorem WM(f:α→D)(sz:Nat)(A:List α)(h l:Nat):nz (nz sz (A.map f)) (((A.drop l).take h).map f)=nz sz (((A.drop l).take h).map f):=by
 cases A with
 |nil=>simp[nz]
 |cons a r=>rfl
theorem fu(f:α→D)(st:St)(sz bytes:Nat)(A B:List α)(t:Bool)(E:Nat)(M:B≠[])(N:E=sz∨B.map f=[])(hs0:sz≠0)(hb:(A.length+B.length)*bytes≤140737488355328)(hl:A.length+B.length≤4294967296) :
  Eg st sz bytes (.slc sz (A.map f) t_) (.slc E (B.map f) t)=s_ (.row st.length (A++B).length 0 (A++B).length,st++[⟨t_,sz,(A++B).map f,f_⟩]):=by have:=l9 st sz bytes sz (A.map f) (.slc E (B.map f) t) (B.map f) E rfl N (.inl rfl) hs0 (by simpa using M) (by simpa using hb) (by simpa using hl);grind
theorem Ua(st:St)(sz bytes E M:Nat)(els:List D)(t:Bool)(hs0:sz≠0):Eg st sz bytes (.slc E els t_) (.slc M [] t)=s_ (.slc E els t_,st):=Ybk st sz bytes E els _ M rfl hs0
attribute [push_cast] ju jr WM
theorem Ymr(l:St)(sz sz0:Nat)(els:List D):Ej (l++DC sz els) (DY sz0 l.length els)=s_ (.slc (nz sz els) els f_):=by
 cases els with
 |nil=>rfl
 |cons a r=>simp[DY,DC,Ej,D2,HO]
theorem YLk(sz sz0:Nat)(els:List D):Ej (DC sz els) (DY sz0 0 els)=s_ (.slc (nz sz els) els f_):=Ymr [] sz sz0 els
theorem pU(a b:Obj)(sz sz0:Nat)(els:List D):Ej (a::b::DC sz els) (DY sz0 2 els)=s_ (.slc (nz sz els) els f_):=Ymr [a,b] sz sz0 els
theorem Yb2(l:St)(sz sz0:Nat)(els:List D):EF (l++DC sz els) f_ (DY sz0 l.length els)=s_ (.int .i64 (els.length:Int)):=by
 cases els with
 |nil=>rfl
 |cons a r=>simp[DY,DC,EF,Iz,E7,Fo]
theorem YCs(sz sz0:Nat)(els:List D):EF (DC sz els) f_ (DY sz0 0 els)=s_ (.int .i64 (els.length:Int)):=Yb2 [] sz sz0 els
theorem YCr(a:Obj)(sz sz0:Nat)(els:List D):EF (a::DC sz els) f_ (DY sz0 1 els)=s_ (.int .i64 (els.length:Int)):=Yb2 [a] sz sz0 els
theorem YKm(n m:Nat):n≤m+n:=Nat.le_add_left n m
theorem Yuf(key:Nat):D.slc 0 [] t_=DY 0 key []:=(rfl)
theorem m8(sz key:Nat):D.slc sz [] t_=DY sz key []:=(rfl)
def PV(o:Option Obj)(sz bytes tot:Nat)(xs:Option (Nat×List D)):Option Obj:=match o,xs with
 |some o,s_ (szx,xs)=>if !(szx == sz || xs.isEmpty) || sz == 0 then none
  else if o.row && o.sz == sz && o.els.length == tot && decide ((tot+xs.length)*bytes≤140737488355328) && decide (tot+xs.length≤4294967296)then s_ {o with els:=o.els++xs} else none
 |_,_=>none
theorem na(st:St)(sz bytes key tot:Nat)(x:D):Eg st sz bytes (.row key tot 0 tot) x=(PV st[key]? sz bytes tot (Hx st x)).map fun o=>(.row key o.els.length 0 o.els.length,st.set key o):=by simp only[Eg,PV];grind
theorem cM(f:α→D)(sz bytes:Nat)(A B:List α)(lent:Bool)(hs0:sz≠0)(hb:(A.length+B.length)*bytes≤140737488355328)(hl:A.length+B.length≤4294967296)(E:Nat)(M:E=sz∨B.map f=[]) :
  PV (s_ ⟨t_,sz,A.map f,lent⟩) sz bytes A.length (s_ (E,B.map f))=s_ ⟨t_,sz,(A++B).map f,lent⟩:=by
 have e:(!(E == sz || (B.map f).isEmpty) || sz == 0)=f_:=by
  grind
 simp only[PV,e,Ao,if_false];grind
theorem YOu(f:α→D)(sz bytes:Nat)(A B:List α)(lent t:Bool)(st:St)(hs0:sz≠0)(hb:(A.length+B.length)*bytes≤140737488355328)(hl:A.length+B.length≤4294967296) :
  PV (s_ ⟨t_,sz,A.map f,lent⟩) sz bytes A.length (Hx st (.slc (nz sz (B.map f)) (B.map f) t))=s_ ⟨t_,sz,(A++B).map f,lent⟩:=cM f sz bytes A B lent hs0 hb hl _ (OD _ _)
theorem YF8(f:α→D)(sz bytes:Nat)(A:List α)(x:α)(lent t:Bool)(st:St)(hs0:sz≠0)(hb:(A.length+1)*bytes≤140737488355328)(hl:A.length+1≤4294967296) :
  PV (s_ ⟨t_,sz,A.map f,lent⟩) sz bytes A.length (Hx st (.slc sz [f x] t))=s_ ⟨t_,sz,(A++[x]).map f,lent⟩:=cM f sz bytes A [x] lent hs0 hb hl _ (.inl rfl)
def fR(o:Option Obj)(tot off len:Nat):Option (Nat×List D):=o.bind fun o=>if o.row && o.els.length == tot && decide (off+len≤tot)then s_ (o.sz,(o.els.drop off).take len)else none
theorem Yjo(st:St)(key tot off len:Nat):HO st key tot off len=fR st[key]? tot off len:=by unfold HO fR; cases st[key]? <;> rfl
theorem Yts(f:α→D)(sz:Nat)(A:List α)(lent:Bool)(off len:Nat)(h:off+len≤A.length):fR (s_ ⟨t_,sz,A.map f,lent⟩) A.length off len=s_ (sz,((A.drop off).take len).map f):=by simp[fR,h,Cx,B9]
def R2(o:Option Obj)(tot:Nat):Bool:=match o with
 |some o=>o.row && o.els.length == tot
 |none=>f_
theorem YCp(st:St)(key tot:Nat):Fo st key tot=R2 st[key]? tot:=(rfl)
theorem YCq(f:α→D)(sz:Nat)(A:List α)(lent:Bool):R2 (s_ ⟨t_,sz,A.map f,lent⟩) A.length=t_:=by simp[R2]
def OH(o:Option Obj)(sz key tot off len:Nat)(j:Int):Option D:=if 0≤j then o.bind fun o=>if o.row && o.sz == sz && o.els.length == tot && decide (j.toNat<len)then s_ (.rptr key tot (off+j.toNat) 0)else none else none
theorem Yco(st:St)(sz key tot off len:Nat)(k:IntKind)(j:Int):GK st sz (.row key tot off len) (.int k j)=OH st[key]? sz key tot off len j:=by simp only[GK,OH,Gk];grind
theorem Ymg(f:α→D)(sz:Nat)(A:List α)(lent:Bool)(key off len:Nat)(j:Int)(E:0≤j)(M:j<(len:Int)):OH (s_ ⟨t_,sz,A.map f,lent⟩) sz key A.length off len j=s_ (.rptr key A.length (off+j.toNat) 0):=by
 have:j.toNat<len:=by omega
 simp[OH,E,this]
def WZ(o:Option Obj)(n:Nat)(ag:Bool)(tot i off:Nat):Option D:=if !ag && n != 1 then none else o.bind fun o=>if o.row && o.els.length == tot then(o.els[i]?).bind fun el=>if off+n≤el.cells.length then s_ (.mk ag ((el.cells.drop off).take n))else none else none
theorem xU(st:St)(n:Nat)(ag:Bool)(key tot i off:Nat):FL st n ag (.rptr key tot i off)=WZ st[key]? n ag tot i off:=Ye3 st n ag key tot i off
theorem Yuy[Inhabited α](f:α→D)(E:∀ a,(f a).isCell=t_)(sz:Nat)(A:List α)(lent:Bool)(i:Nat)(h:i<A.length):WZ (s_ ⟨t_,sz,A.map f,lent⟩) 1 f_ A.length i 0=s_ (f (A.getD i default)):=by have:(f A[i]).cells=[f A[i]]:=Rw (E _);simp[WZ,h,this,D.mk,Ai]
theorem Ysx(f:α→D)(st:St)(sz E:Nat)(A:List α)(t:Bool)(k k':IntKind)(l h:Int)(N:(E=sz∨A.map f=[])∧sz≠0)(M:0≤l)(h1:l≤h)(h2:h≤(A.length:Int)) :
  G5 st sz (.slc E (A.map f) t) (s_ (.int k l)) (s_ (.int k' h)) none=s_ (.slc E (((A.take h.toNat).drop l.toNat).map f) (t && h.toNat == A.length)):=by
 have e:((E == sz || (A.map f).isEmpty) && sz != 0)=t_:=by
  grind
 have e1:l.toNat≤h.toNat∧h.toNat≤A.length:=by omega
 simp only[G5,e,if_true,GR,Ny k l M,Ny k' h (by omega)];simp_all
def QT(o:Option Obj)(sz:Nat)(x:D)(key tot off len l h:Nat):Option D:=o.bind fun o=>if o.row && o.sz == sz && o.els.length == tot && sz != 0 then(if l≤h∧h≤len then(if l=0∧h=len then s_ x else if l=h then s_ (.slc sz [] f_)else s_ (.row key tot (off+l) (h - l)))else none)else none
theorem Ye2(st:St)(sz key tot off len:Nat)(lo hi:Option D):G5 st sz (.row key tot off len) lo hi none=(GR lo 0).bind fun l=>(GR hi len).bind fun h=>QT st[key]? sz (.row key tot off len) key tot off len l h:=by
 simp only[G5,QT]
 cases st[key]? with
 |none=>cases GR lo 0 <;> cases GR hi len <;> rfl
 |some o=>
  simp only[Bk]
  split
  ·cases GR lo 0 <;> cases GR hi len <;> rfl
  ·simp_all
theorem Yi0(f:α→D)(sz:Nat)(A:List α)(lent:Bool)(x:D)(key off len l h:Nat)(E:sz≠0)(M:l≤h)(N:h≤len):QT (s_ ⟨t_,sz,A.map f,lent⟩) sz x key A.length off len l h=(if l=0∧h=len then s_ x else if l=h then s_ (.slc sz [] f_)else s_ (.row key A.length (off+l) (h - l))):=by simp[QT,E,M,N]
theorem Yxi(d:Nat):GR none d=s_ d:=(rfl)
theorem YF0(k:IntKind)(n:Int)(d:Nat)(h:0≤n):GR (s_ (.int k n)) d=s_ n.toNat:=by simp[GR,Gk,h]
theorem Yfo(sz bytes:Nat)(E:D)(k k':IntKind)(c:Int)(M:0≤c)(h1:c≤4294967296)(N:c.toNat*bytes≤140737488355328)(h3:0<sz)(h4:E.cells.length=sz)(h5:E.cells.all D.pure1=t_) :
  Pp sz bytes E (.int k 0) (.int k' c)=s_ (0,⟨t_,sz,[],f_⟩):=by
 have:c.toNat≤4294967296:=by omega
 simp[Pp,Ny k' c M,Yfn,this,N,h3,h4,h5]
theorem Yui(k k' E:IntKind)(n c:Int)(M:0≤c)(N:c≤4294967296):Pp 1 1 (.int E n) (.int k 0) (.int k' c)=s_ (0,⟨t_,1,([]:List UInt8).map Dr,f_⟩):=
 Yfo 1 1 _ k k' c M N (by omega) (by decide) rfl rfl
theorem X8(f:α→D)(sz bytes E:Nat)(B:List α)(lent:Bool)(M:E=sz∨B.map f=[])(hs0:sz≠0)(hb:B.length*bytes≤140737488355328)(hl:B.length≤4294967296) :
  PV (s_ ⟨t_,sz,[],lent⟩) sz bytes 0 (s_ (E,B.map f))=s_ ⟨t_,sz,B.map f,lent⟩:=cM f sz bytes [] B lent hs0 (by simpa using hb) (by simpa using hl) E M
theorem YOv(B:List UInt8)(lent:Bool)(hl:B.length≤4294967296):PV (s_ ⟨t_,1,[],lent⟩) 1 1 0 (s_ (1,B.map Dr))=s_ ⟨t_,1,B.map Dr,lent⟩:=X8 Dr 1 1 1 B lent (.inl rfl) (by decide) (by omega) hl
theorem rf(A B:List UInt8)(lent:Bool)(hl:A.length+B.length≤4294967296):PV (s_ ⟨t_,1,A.map Dr,lent⟩) 1 1 A.length (s_ (1,B.map Dr))=s_ ⟨t_,1,(A++B).map Dr,lent⟩:=cM Dr 1 1 A B lent (by decide) (by omega) hl 1 (.inl rfl)
def XM(o:Option Obj):Option (Nat×List D):=o.bind fun o=>if !o.row && decide (32≤o.els.length) && (J1 1 f_ o.els 32).all purA then s_ (1,J1 1 f_ o.els 32)else none
theorem xO(st:St)(key:Nat):Hx st (.bsl key 0 32 1 f_)=XM st[key]?:=by simp only[Hx,KG,XM];grind
theorem YEy(sz:Nat)(d:Dig)(lent:Bool):XM (s_ ⟨f_,sz,Dj d,lent⟩)=s_ (1,d.bs.map Dr):=by
 have E:J1 1 f_ (Dj d) 32=Dj d:=by
  have:=xE (Dj d);rwa [Ef]at this
 have M:(Dj d).all purA=t_:=Lu (fun _=>rfl) d;simp only[XM,Bk,Ef,E,M];rfl
attribute [push_cast] xO YEy YOv rf
attribute [push_cast] List.drop_zero List.take_length
attribute [push_cast] na YOu YF8 Yjo Yts Yuv YCp YCq Yco Ymg xU Ye2 Yxi YF0
attribute [push_cast] YLy YBs Yif YAr Yie YAq Yid YAp YAs Ykm Ykl Ykk Ykj YB7 YB6 YB5 jw jx YLk pU YCs YCr YKm
def TS(tys:List Ty):List D→Option D:=fun xs=>@ite _ (HasAll tys xs) (Classical.propDecidable _) (s_ (.bool t_)) none
variable {xs:List D}{tys:List Ty}
theorem lawSp_true(h:HasAll tys xs):TS tys xs=s_ (.bool t_):=by unfold TS; rw[if_pos h]
variable {d:D}
theorem Yl4(h:TS tys xs=s_ d):HasAll tys xs∧d=.bool t_:=by unfold TS at h;grind
variable {F:PF}{hints:List (List Nat)}{f:Nat}{il:List Nat}{T:Tbl}{G:DB}{P:Program}
theorem po(E:DA P il f hints=s_ F)(M:TblOK P G T)
  (h:∀ xs,HasAll tys xs→@wW G T F.code (Dm xs) [] ⟨Ds F.res (.bool t_)⟩) (N:T.y=fun _ _ _=>none:=by rfl):Contract P G f (TS tys):=by refine Yct M N E fun ds d hd=>?_;obtain⟨hx,rfl⟩:=Yl4 hd;exact Ya1 (JL (h ds hx))
variable {t:Ty}
theorem Ux{E:List Ty}(h:HasAll (t::E) xs):∃ x r,xs=x::r∧Has t x∧HasAll E r:=by
 cases h with
 |cons M N=>exact⟨_,_,rfl,M,N⟩
theorem Ygk(h:HasAll [] xs):xs=[]:=by cases h; rfl
theorem Ycr(h:Has .bool d):∃ b,d=.bool b:=by
 cases h with
 |bool b=>exact⟨b,rfl⟩
theorem Hr(h:Has (.int .i64) d):∃ n:Int,d=.int .i64 n∧-9223372036854775808≤n∧n<9223372036854775808:=by
 cases h with
 |int k n hw=>
  refine⟨n,rfl,?_⟩;simp[Lit.wf,IntKind.min,IntKind.max,IntKind.signed,IntKind.bits]at hw;omega
theorem YL0(h:Has (.int .u8) d):∃ b:UInt8,d=Dr b:=by
 cases h with
 |int k n hw=>
  simp[Lit.wf,IntKind.min,IntKind.max,IntKind.signed,IntKind.bits]at hw;refine⟨UInt8.ofNat n.toNat,?_⟩;simp[Dr];omega
theorem eh{α:Type}{f:α→D}:∀ {els:List D},(∀ x∈els,∃ a,x=f a)→∃ l:List α,els=l.map f
 |[],_=>⟨[],rfl⟩
 |e::r,h=>by
  obtain⟨a,ha⟩:=h e (by simp);obtain⟨l,hl⟩:=eh (f:=f) (els:=r) fun x E=>h x (by simp[E]);exact⟨a::l,by rw[ha,hl]; rfl⟩
theorem cO{f:α→D}{e:Ty}(M:∀ x,Has e x→∃ a,x=f a)(h:Has (.slc e) d):∃ l:List α,d=.slc (nz e.size (l.map f)) (l.map f) f_∧l.length≤maxLen:=by
 cases h with
 |slc _ els N h2=>
  obtain⟨l,rfl⟩:=eh (f:=f) (els:=els) fun x E=>by
   obtain⟨i,hi⟩:=Cv E;grind
  grind
theorem RP(h:Has (.agg (List.replicate 32 (.int .u8))) d):∃ x,d=Dl x:=by
 cases h with
 |agg _ xs h1 M=>
  obtain⟨l,rfl⟩:=eh (f:=Dr) (els:=xs) fun x N=>by
   obtain⟨i,hi⟩:=Cv N
   have E:i<32:=by
    grind
   exact YL0 (M i (.int .u8) x (by rw[List.getElem?_replicate,if_pos E]) hi)
  have hl:l.length=32:=by
   grind
  refine⟨⟨l,hl⟩,?_⟩
  have:∀ l:List UInt8,(l.map Dr).flatMap D.cells=l.map Dr:=by
   intro l
   induction l with
   |nil=>rfl
   |cons a r ih=>simp only[Aw,Au,ih]; rfl
  rw[this];rfl
theorem Rb{u:Ty}(h:Has (.agg [t,u]) d):∃ x y,d=.agg (x.cells++y.cells)∧Has t x∧Has u y:=by
 cases h with
 |agg _ xs M E=>
  match xs,M with
  |[x,y],_=>exact⟨x,y,by simp,E 0 t x rfl rfl,E 1 u y rfl rfl⟩
theorem Yvr{u v:Ty}(h:Has (.agg [t,u,v]) d):∃ x y z,d=.agg (x.cells++(y.cells++z.cells))∧Has t x∧Has u y∧Has v z:=by
 cases h with
 |agg _ xs M E=>
  match xs,M with
  |[x,y,z],_=>exact⟨x,y,z,by simp,E 0 t x rfl rfl,E 1 u y rfl rfl,E 2 v z rfl rfl⟩
def IW{α:Type}(enc:α→List D×St)(pre:α→Prop)(f:α→D×St):List D→St→Option (D×St):=
 fun ds st=>@dite _ (∃ a,enc a=(ds,st)∧pre a) (Classical.propDecidable _) (fun h=>s_ (f h.choose)) (fun _=>none)
variable {st:St}{ds:List D}
theorem lR{enc:α→List D×St}{pre:α→Prop}{f:α→D×St}{r:D×St}(h:IW enc pre f ds st=s_ r):∃ a,enc a=(ds,st)∧pre a∧f a=r:=by
 unfold IW at h
 split at h
 ·rename_i E;simp only[Dp]at h;exact⟨E.choose,E.choose_spec.1,E.choose_spec.2,h⟩
 ·cases h
theorem VJ{enc:α→List D×St}{pre:α→Prop}{f:α→D×St}(E:∀ a b,enc a=enc b→f a=f b)(a:α)(hp:pre a)(M:enc a=(ds,st)):IW enc pre f ds st=s_ (f a):=by have N:∃ b,enc b=(ds,st)∧pre b:=⟨a,M,hp⟩;unfold IW;rw[dif_pos N];rw[E _ _ (N.choose_spec.1.trans M.symm)]
variable {sp:List D→St→Option (D×St)}
theorem uM(M:TblOK P G T)(N:DA P il f hints=s_ F)
  (h:∀ ds st r,sp ds st=s_ r→∃ fuel,dropped (F.runI G T fuel) ds st=s_ r) (hy:T.y=fun _ _ _=>none:=by rfl):IContract P G f sp:=by refine⟨(fe M hy N 0).1,?_⟩;intro base w g st st' ds vs d ab hS hG hl E;obtain⟨fuel,hf⟩:=h ds st _ ab;exact(fe M hy N fuel).dropped.2 base w g st st' ds vs d hf hS hG hl E
theorem iJ(N:DA P il f hints=s_ F)(hT:TblOK P G T){enc:α→List D×St}{pre:α→Prop}{r:α→D×St}
  (h:∀ a,pre a→@wW G T F.code (Dm (enc a).1) (enc a).2 ⟨@Ht F.res ⟨fun d st'=>(Ip (enc a).2.length d,cut (enc a).2.length st')=r a⟩⟩) (hy:T.y=fun _ _ _=>none:=by rfl):IContract P G f (IW enc pre r):=by refine uM hT N (fun ds st x hx=>?_) hy;obtain⟨a,ha,hp,rfl⟩:=lR hx;obtain⟨fuel,d,st',E,M⟩:=ng (JL (h a hp));rw[ha]at E M;refine⟨fuel,?_⟩;unfold dropped;rw[E fuel (AF _)];exact congrArg s_ M
def N5(k:Nat)(o:Obj):Obj:={o with els:=if o.row then o.els else o.els.map (H6 k)}
def JG(k:Nat):Nat→St→St
 |0,_=>[]
 |_+1,[]=>[]
 |n+1,o::st=>N5 k o::JG k n st
theorem Yn4(k:Nat):∀ (n:Nat) (st:St),JG k n st=(st.take n).map (N5 k)
 |0,_=>by simp[JG]
 |n+1,[]=>by simp[JG]
 |n+1,o::st=>by simp[JG,Yn4 k n st]
theorem YMp(k:Nat)(st:St):cut k st=JG k k st:=by rw[Yn4]; rfl
theorem Yn2(k:Nat)(st:St):JG k 0 st=[]:=by simp[JG]
theorem Yn3(k n:Nat)(o:Obj)(st:St):JG k (n+1) (o::st)=N5 k o::JG k n st:=(rfl)
theorem Ywd(k sz:Nat)(els:List D)(lent:Bool):N5 k ⟨t_,sz,els,lent⟩=⟨t_,sz,els,lent⟩:=(rfl)
theorem Ywe(k sz:Nat)(els:List D)(lent:Bool):N5 k ⟨f_,sz,els,lent⟩=⟨f_,sz,els.map (H6 k),lent⟩:=(rfl)
theorem Yup(n:Nat)(k:IntKind)(m:Int):Hh n (.int k m)=.int k m:=(rfl)
theorem Ylk(n:Nat)(b:Bool):Hh n (.bool b)=.bool b:=(rfl)
theorem Yun(n sz:Nat)(els:List D)(t:Bool):Hh n (.slc sz els t)=.slc sz els t:=(rfl)
theorem Yuo(n key tot off len:Nat):Hh n (.row key tot off len)=if key<n then .row key tot off len else .junk:=(rfl)
theorem YCo(n:Nat)(k:IntKind)(m:Int):H6 n (.int k m)=.int k m:=(rfl)
theorem Yuk(n:Nat)(b:Bool):H6 n (.bool b)=.bool b:=(rfl)
theorem YCl(n sz:Nat)(els:List D)(t:Bool):H6 n (.slc sz els t)=.slc sz els t:=(rfl)
theorem YCm(n key tot off len:Nat):H6 n (.row key tot off len)=if key<n then .row key tot off len else .junk:=(rfl)
theorem YCn(n key off:Nat):H6 n (.ptr key off)=if key<n then .ptr key off else .junk:=(rfl)
theorem Yuj(n key:Nat):H6 n (.mapv key)=if key<n then .mapv key else .junk:=(rfl)
theorem Ylj(n:Nat):Ip n (.tup [])=.tup []:=(rfl)
theorem YLx(f:Nat)(l:List D):hk (.clo f l)=l.flatMap GZ:=(rfl)
theorem YD8(key off:Nat):GZ (.ptr key off)=[key]:=(rfl)
theorem YBr(n:Nat)(σ:List Nat)(f:Nat)(l:List D):EO n σ (.clo f l)=.clo f (l.map (Hf n σ)):=(rfl)
theorem Ytr(n:Nat)(σ:List Nat)(key off:Nat):Hf n σ (.ptr key off)=JS (fun k=>.ptr k off) (Fi n σ key):=(rfl)
attribute [push_cast] YCo Yuk YCl YCm YCn Yuj
attribute [push_cast] YMp Yn2 Yn3 Ywd Ywe Yup Ylk Yun Yuo Ylj YLx YD8 YBr Ytr
variable {e:TypeId}
section
variable {P:Program} {G:DB} {T:Tbl} {il:List Nat}
theorem YBe{w:World}{g:Ghost}{sz:Nat}{els:List D}{t:Bool}{v:Value}(h:RepV w g st (.slc sz els t) v):∃ a n cap,v=.slice a n cap∧(els≠[]→a.isNone=f_):=by
 cases h with
 |slcE _ _ a cap h=>exact⟨a,0,cap,rfl,fun h=>absurd rfl h⟩
 |slc _ _ b off cap _ val E=>exact⟨_,_,_,rfl,fun _=>rfl⟩
theorem Ygt{t:TypeId}(E:P.underlying t=s_ (.slice e))(w:World)(a:Option Addr)(n cap:Nat):(binOp .eql t (.slice a n cap) (.slice none 0 0)).run P w=.ok (.bool a.isNone) w:=by have he:(Op.equal t (.slice a n cap) (.slice none 0 0)).run P w=.ok a.isNone w:=run_equalIn_slice_nil w 9999 t e a n cap E;simp[binOp,he]
theorem Ywg(hT:TblOK P G T)(hy:T.y=fun _ _ _=>none){id1:Nat}{fn:Func}{c0 A B:Code}{o1 o2:Oper}{t3 t4:Nat}{tS:TypeId}{l0:List PI}{pA pB:PC}{res:List PRes}
  (hfn:P.funcs[f]?=s_ fn) (hname:(fn.name == "runtime.NumGoroutine")=f_) (hc:fn.body=s_ (.seq c0 (.seq (.seq (.region id1 #[o1,o2] f_) (.cond (.tmp t4) A .skip)) B)))
  (h0:Ik P il fn.ntmps [] c0=s_ (.ops l0,[])) (hA:Ik P il fn.ntmps [] A=s_ (pA,[])) (hB:Ik P il fn.ntmps [] B=s_ (pB,[])) (hr:Ph P fn.results.toList=s_ res)
  (ho1:Nd P il fn.ntmps #[o1,o2] o1=s_ {dst:=s_ t3,op:=.mov (.s 0)}) (ho2:o2.op=.binOp .eql tS (.tmp t3) (.const (.slice none 0 0)) tS) (hd2:o2.dst=s_ t4) (hg2:o2.guard=none) (ht4:t4<fn.ntmps)
  (hS:P.underlying tS=s_ (.slice e)) 
  (hsp:∀ ds st d st',sp ds st=s_ (d,st')→∃ sz els t fr0,ds=[.slc sz els t]∧Ft G T l0 ⟨Dm ds,st⟩=s_ ⟨fr0,st⟩∧fr0 0=.slc sz els t∧
   (els=[]→∃ fuel sA xs,pA.exec G T fuel ⟨(fr0.set t3 (.slc sz els t)).set t4 (.bool t_),st⟩=s_ (.ret,sA)∧sA.st=st'∧Eo sA res=s_ xs∧∀ w g v,RepV w g st' (Ec xs) v→RepV w g st' d v)∧
   (∃ fuel sB xs,pB.exec G T fuel ⟨(fr0.set t3 (.slc sz els t)).set t4 (.bool f_),st⟩=s_ (.ret,sB)∧sB.st=st'∧Eo sB res=s_ xs∧∀ w g v,RepV w g st' (Ec xs) v→RepV w g st' d v)):IContract P G f sp:=by
 refine⟨⟨fn,hfn,by rw[hc]; rfl,hname⟩,?_⟩;intro base w g st st' ds vs d hx hSR hG hlen hrep
 have hR0:R G base fn.ntmps w g st [] {fr:=Dm ds,st} {tmps:=vs.toArray++C9 (fn.ntmps - vs.toArray.size) undef,defers:=[]} w:=by
  refine⟨g,Go1.refl hSR,?_,hG,⟨[],rfl,trivial⟩,?_⟩
  ·intro s;simp only[Dm];rcases A5 s ds.length with h1|h1
   ·have h2:s<vs.length:=by omega
    have h3:(vs.toArray++C9 (fn.ntmps - vs.toArray.size) undef).getD s undef=vs[s]:=by
     simp[Array.getD,h2];intro h4;omega
    rw[h3];have:=hrep s ds[s] vs[s] (by simp[h1]) (by simp[h2]);simpa[Ai,h1]using this
   ·simp[Ai,BH h1];exact .junk _
  ·simp; omega
 obtain⟨sz,els,t,fr0,rfl,e0,e1,eA,eB⟩:=hsp _ _ _ _ hx;have hY:YOK P G T.y base w g st:=by rw[hy]; exact YOK.none
 refine callsIn_wide.1 (callsIn_of_wp_marks (F:=Fence.wide) (n:=0) hfn hc trivial ?_)
 have fin:∀ (s':PS) (xs:List D),s'.st=st'→Eo s' res=s_ xs→(∀ w g v,RepV w g st' (Ec xs) v→RepV w g st' d v)→∀ a' w',R G base fn.ntmps w g st [] s' a' w'→
   LeavesInM Fence.wide 0 P fn a'.tmps (fun e w'=>∃ v g',e=.returned v∧Go1 base w g st w' g' st'∧RepV w' g' st' d v) a'.defers .returning w':=by
  rintro s' xs rfl hx1 hw a' w' ⟨g1,h⟩;obtain⟨dd,hd1,hd2⟩:=h.df;rw[hd1,Af];refine T9 hSR.size dd w' h.go1 h.fr hd2 fun w2 hgo hF=>?_;obtain⟨us,e1,e2,e3⟩:=Su hgo.sr hF hr hx1;exact⟨_,Ze e3,_,g1,rfl,hgo,hw _ _ _ (Vs e1 e2)⟩
 refine wpIn_seq (OZ hT c0 none (.inl rfl) w g st [] hY hSR.size [] _ h0 0 _ ⟨fr0,st⟩ .next (by simp only[PC.exec,e0]) _ w _ hR0 fun a1 w1 hR1=>?_);refine wpIn_seq (wpIn_seq (wpIn_region_list ?_));refine VF (r:=none) hT hY hR1 ho1 (s':=⟨fr0.set t3 (.slc sz els t),st⟩) (by simp[PI.exec,PI.step,PI.wanted,POp.exec,DL,e1,Frame.set,Frame.put]) fun a2 w2 hR2=>?_;obtain⟨g2,h2⟩:=id hR2;have hv:RepV w2 g2 st ((fr0.set t3 (.slc sz els t)) t3) (a2.tmps.getD t3 undef):=h2.fr t3;have hset:(Frame.set fr0 t3 (.slc sz els t)) t3=.slc sz els t:=by simp[Frame.set]
 rw[hset]at hv;obtain⟨a,n,cap,hva,hne⟩:=YBe hv;obtain⟨dst2,op2,ty2,pos2,after2,guard2⟩:=o2;dsimp only at ho2 hd2 hg2;subst ho2 hd2 hg2;have hw2:∀ y,Region.wanted (⟨s_ t4,.binOp .eql tS (.tmp t3) (.const (.slice none 0 0)) tS,ty2,pos2,after2,none⟩:Oper) y=t_:=fun y=>rfl;have hev:a2.eval (.tmp t3)=.slice a n cap:=hva;have hsz2:t4<a2.tmps.size:=A3 ht4 h2.sz
 show(if Region.wanted _ _=t_ then _ else _)
 rw[hw2,if_pos rfl];refine Rs (by intro c h; cases h) ?_;refine GQ (d:=.bool a.isNone) (s:=do eqGuard .eql tS (.tmp t3) (.const (.slice none 0 0)) (a2.eval (.tmp t3)) (a2.eval (.const (.slice none 0 0))); binOp .eql tS (a2.eval (.tmp t3)) (a2.eval (.const (.slice none 0 0)))) h2.sr rfl ?_ (.bool _) ?_
 ·simp only[Sem.run_bind,hev,iH .eql tS (.tmp t3) (.const (.slice none 0 0)) (.slice a n cap) (a2.eval (.const (.slice none 0 0))) (fun u e=>by cases e) (fun e=>by cases e),Result.andThen_ok];exact Ygt hS w2 a n cap
 intro v w3 g3 hgo hrep3
 have hR3:R G base fn.ntmps w g st [] ⟨(fr0.set t3 (.slc sz els t)).set t4 (.bool a.isNone),st⟩ (a2.put (s_ t4) v) w3:=
  ⟨g3,h2.go hgo ((h2.fr.mono hgo.im hgo.evo).put (dst:=s_ t4) (fun t e=>by cases e; exact hsz2) hrep3) (Qp ..) (by rw[Q9]; exact h2.sz)⟩
 obtain rfl:=Mm hrep3
 have hbv:(a2.put (s_ t4) (.bool a.isNone)).eval (.tmp t4)=.bool a.isNone:=by
  simp[Act.eval,Act.put,hsz2]
 cases hnil:a.isNone with
 |true=>
  rw[hnil]at hbv hR3;have hels:els=[]:=Classical.byContradiction fun h=>by rw[hne h]at hnil; cases hnil
  obtain⟨fuel,sA,xs,x1,x2,x3,x4⟩:=eA hels;refine wpIn_cond_true hbv ?_;refine OZ hT A none (.inl rfl) w g st [] hY hSR.size [] _ hA fuel _ sA .ret x1 _ _ _ hR3 fun a4 w4 hR4=>?_;exact fin sA xs x2 x3 x4 a4 w4 hR4
 |false=>
  rw[hnil]at hbv hR3;obtain⟨fuel,sB,xs,x1,x2,x3,x4⟩:=eB;refine wpIn_cond_false hbv (wpIn_skip ?_);refine OZ hT B none (.inl rfl) w g st [] hY hSR.size [] _ hB fuel _ sB .ret x1 _ _ _ hR3 fun a4 w4 hR4=>?_;exact fin sB xs x2 x3 x4 a4 w4 hR4
end
end Go.Proofs.YtijnglngaogdjaaGreatDoor.PI
namespace Go.Proofs.YtijnglngaogdjaaGreatDoor.PI
open Go Go.RowKit
variable {v:Value}{ds:List D}{sp:List D→St→Option (D×St)}{f:Nat}{hints:List (List Nat)}{il:List Nat}{F:PF}{dst:Option Tmp}{a:Act}{x:Operand}{u:TypeDesc}{T1:TypeId}
section
variable {P:Program} {G:DB} {T:Tbl} {base n:Nat} {w:World} {g:Ghost} {st:St}
theorem Yt9(h:RepV w g st (Ec ds) v):∃ us:List Value,v=gh us∧ds.length=us.length∧∀ (i:Nat) d u,ds[i]?=s_ d→us[i]?=s_ u→RepV w g st d u:=by
 match ds with
 |[d]=>
  refine⟨[v],rfl,rfl,fun i N u E M=>?_⟩
  cases i with
  |zero=>
   simp only[AG,Dp]at E M;subst E; subst M;exact h
  |succ i=>simp at E
 |[]=>
  cases h with
  |tup _ vs E M=>
   obtain rfl:vs=[]:=AQ E.symm;exact⟨[],rfl,rfl,M⟩
 |a::b::l=>
  cases h with
  |tup _ vs E M=>
   match vs,E with
   |x::y::r,E=>exact⟨x::y::r,rfl,E,M⟩
theorem yZq(h:IContract P G f sp){xs ys:List D}{st':St}(h1:sp ds []=s_ (Ec xs,st'))(h2:EG st' xs=s_ ys) :
  ∀ (w:World) (g:Ghost) (vs:List Value),GlobOK G w g→(∀ b o,g.Im b o→(w.cell? ⟨b,o,none⟩).isSome=t_)→ds.length=vs.length→
  (∀ (i:Nat) d v,ds[i]?=s_ d→vs[i]?=s_ v→RepV w g [] d v)→
  Calls P f vs.toArray w fun e w'=>∃ v g',e=.returned v∧RepV w' g' [] (Ec ys) v∧purR (Ec ys)=t_∧ImLe w g w' g'∧(∀ b o,g'.Im b o→g.Im b o∨w.heap.size≤b)∧
   (∀ b o,g'.Im b o→(w'.cell? ⟨b,o,none⟩).isSome=t_)∧Below w.heap.size w w':=by intro w g vs hG aa hlen N;have hS:SR w.heap.size w g []:=⟨fun k o h=>by simp at h,fun k o h=>by simp at h,fun k k' o o' h=>by simp at h,aa,fun k o x h=>by simp at h,AF _⟩;refine(h.2 w.heap.size w g [] st' ds vs _ h1 hS hG hlen N).mono ?_;rintro e w' ⟨v,g1,rfl,M,hr⟩;obtain⟨us,rfl,e1,e2⟩:=Yt9 hr;obtain⟨g2,ab,_,e5,e6,e7⟩:=SD M.sr h2;have E:=M.trans ab;refine⟨_,g2,rfl,?_,ew e6,E.im,E.new,E.sr.im,E.below⟩;have h8:=Vs (g:=g2) (w:=w') (ds:=ys) (vs:=us) (by omega) fun i y v hy hv=>e7 i y v hy fun x hx=>e2 i x v hx hv;exact h8.purR (ImLe.refl _ _) (ew e6)
theorem yUv{F:PFD}{H:Jc}(ht:Py P il f hints=s_ F)(hT:TblOK P G T)(hH:∀ f h,H f=s_ h→Ub P G f h){α:Type}{enc:α→List D}{pre:α→Prop}{r:α→D}
  (h:∀ a,pre a→RU G T F H (enc a) [] fun h aa=>RC h aa F.res (r a)) (hy:T.y=fun _ _ _=>none:=by rfl):Contract P G f (Dq enc pre r):=by
 intro w g ds vs d hd hG a0 hlen ac _;obtain⟨a,rfl,hp,rfl⟩:=Sw hd;obtain⟨k,s1,f',aa,h',e,ab,st',h1,h2,h3,h4,M⟩:=Yjn (h a hp);have hI:=Yvz hT hy ht hH k
 have fin:∀ (E:St),(Gh ⟨ab,E⟩ F.res).map Ec=s_ (r a)→(∀ xs,Eo ⟨ab,E⟩ F.res=s_ xs→F.runI G T H k (enc a) []=s_ (Ec xs,E))→Calls P f vs.toArray w fun e w'=>∃ v g',e=.returned v∧RepV w' g' [] (r a) v∧purR (r a)=t_∧ImLe w g w' g'∧(∀ b o,g'.Im b o→g.Im b o∨w.heap.size≤b)∧
   (∀ b o,g'.Im b o→(w'.cell? ⟨b,o,none⟩).isSome=t_)∧Below w.heap.size w w':=by
  intro E hg N;simp only[D0]at hg;obtain⟨ys,a2,a3⟩:=hg;obtain⟨xs,q1,q2⟩:=mU a2;rw[← a3];exact yZq hI (N xs q1) q2 w g vs hG a0 hlen ac
 unfold RC at M
 cases e with
 |next=>exact fin st' M fun xs N=>by simp only[PFD.runI,h1,h2,h3,h4 k (AF _),N,Ae]
 |ret=>exact fin st' M fun xs N=>by simp only[PFD.runI,h1,h2,h3,h4 k (AF _),N,Ae]
 |exit id=>exact M.elim
 |panic t dd=>
  simp only at M;unfold on at M
  split at M
  case h_2=>exact M.elim
  rename_i E h6;exact fin E M fun xs N=>by simp only[PFD.runI,h1,h2,h3,h4 k (AF _),h6,N,Ae]
theorem yRp(M:DA P il f hints=s_ F)(N:TblOK P G T){sx:List D→St→Option (Nat×D×St)}
  (h:∀ ds st r,sx ds st=s_ r→@wW G T F.code (Dm ds) st ⟨@NV ⟨fun t d st'=>(t,d,st')=r⟩⟩) (hy:T.y=fun _ _ _=>none:=by rfl):Rk P G f sx:=by refine⟨(Ycu N hy M 0).1,?_⟩;intro base w g st st' ds vs t d ab hS hG hl E;obtain⟨k,t1,d1,st1,h1,h2⟩:=Yjm (JL (h ds st _ ab));simp only[DO]at h2;obtain⟨rfl,rfl,rfl⟩:=h2;exact(Ycu N hy M k).2 base w g st _ ds vs _ _ (h1 k (AF _)) hS hG hl E
theorem Zt(E:DA P il f hints=s_ F)(M:TblOK P G T)
  (h:∀ ds st r,sp ds st=s_ r→@wW G T F.code (Dm ds) st ⟨@Ht F.res ⟨fun d st'=>(Ip st.length d,cut st.length st')=r⟩⟩) (N:T.y=fun _ _ _=>none:=by rfl):IContract P G f sp:=by refine uM M E (fun ds st x hx=>?_) N;obtain⟨fuel,d,st',h1,h2⟩:=ng (JL (h ds st x hx));refine⟨fuel,?_⟩;unfold dropped;grind
theorem JX(M:DA P il f hints=s_ F)(N:TblOK P G T)
  (h:∀ ds st r,sp ds st=s_ r→@wW G T F.code (Dm ds) st ⟨@Ht F.res ⟨fun d st'=>(d,st')=r⟩⟩) (hy:T.y=fun _ _ _=>none:=by rfl):IContract P G f sp:=by refine⟨(fe N hy M 0).1,?_⟩;intro base w g st st' ds vs d ab hS hG hl E;obtain⟨k,d1,st1,h1,h2⟩:=ng (JL (h ds st _ ab));simp only[DO]at h2;obtain⟨rfl,rfl⟩:=h2;exact(fe N hy M k).2 base w g st _ ds vs _ (h1 k (AF _)) hS hG hl E
theorem Contract.or{sp E M:List D→Option D}(N:Contract P G f E)(h2:Contract P G f M)(h:∀ ds d,sp ds=s_ d→E ds=s_ d∨M ds=s_ d):Contract P G f sp:=by
 intro w g ds vs d hd;rcases h ds d hd with h|h
 ·exact N w g ds vs d h
 ·exact h2 w g ds vs d h
theorem IContract.or{E M:List D→St→Option (D×St)}(h1:IContract P G f E)(h2:IContract P G f M)(h:∀ ds st r,sp ds st=s_ r→E ds st=s_ r∨M ds st=s_ r):IContract P G f sp:=by
 refine⟨h1.1,?_⟩;intro base w g st st' ds vs d ab;rcases h ds st _ ab with N|N
 ·exact h1.2 base w g st st' ds vs d N
 ·exact h2.2 base w g st st' ds vs d N
def Jj(sp:List D→Option D)(ds:List D)(st:St):Option (D×St):=match EG st ds with
 |some vs=>match sp vs with
  |some r=>s_ (r,if r.noRef then st else PI.lend (ds.flatMap keys) st)
  |none=>none
 |none=>none
theorem Contract.toI{sp:List D→Option D}(h:Contract P G f sp){fn:Func}(hfn:P.funcs[f]?=s_ fn)(hb:fn.body.isSome=t_)(hname:(fn.name == "runtime.NumGoroutine")=f_):IContract P G f (Jj sp):=by
 refine⟨⟨fn,hfn,hb,hname⟩,?_⟩;intro base w g st st' ds vs d hsp hS hG hl hrep;unfold Jj at hsp
 split at hsp
 case h_2=>cases hsp
 rename_i ys hi
 split at hsp
 case h_2=>cases hsp
 rename_i r hr;simp only[Dp,DO]at hsp;obtain⟨rfl,rfl⟩:=hsp;obtain⟨g1,hgo,_,hyl,hpure,hyr⟩:=SD hS hi;have hc:=h w g1 ys vs r hr (hG.mono hgo.im) hgo.sr.im (hyl.trans hl) (fun i y v hy hv=>(hyr i y v hy (fun d hd=>hrep i d v hd hv)).purA (ImLe.refl _ _) (hpure y (An hy))) hpure;refine hc.mono ?_;rintro e w' ⟨v,g',rfl,h1,h2,h3,h4,h5,h6⟩;have hbes:Beside w w':=⟨h6.os,h6.tape,h6.output,h6.size⟩
 by_cases hnr:r.noRef=t_
 ·refine⟨v,{g with Im:=g.Im},rfl,?_,by rw[if_pos hnr]; exact vw h1 hnr⟩;rw[if_pos hnr];refine hS.more hbes h6.block (fun _ _ h=>h) (fun _ _ h=>.inl h) (fun b o hb=>?_);have:w'.cell? ⟨b,o,none⟩=w.cell? ⟨b,o,none⟩:=by simp only[World.cell?,h6.block b (hS.im_lt hb)]
  rw[this]; exact hS.im b o hb
 ·refine⟨v,{g1 with Im:=g'.Im},rfl,?_,?_⟩
  ·rw[if_neg hnr];exact hgo.trans (hgo.sr.more hbes h6.block (fun b o h=>(h3.im b o h).1) (fun b o h=>h4 b o h) h5)
  ·exact RepV.purR (g:=g') (g':={g1 with Im:=g'.Im}) ⟨fun b o h=>⟨h,rfl⟩,fun _ _ h _=>h⟩ h1 h2
def WN:Tbl:={p:=fun _=>none,i:=fun _=>none,m:=fun _=>none}
theorem YJ5:TblOK P G WN:=⟨fun _ _ h=>(by cases h),fun _ _ h=>(by cases h),fun _ _ h=>(by cases h),fun _ _ h=>(by cases h),fun _ _ h=>(by cases h),fun _ _ h=>(by cases h)⟩
structure PH where
 t:Nat
 js:List Nat
 vs:Nat
 l:List PI
 deriving Inhabited
def Yi(fr:Frame):List Nat→Frame
 |[]=>fr
 |s::l=>Yi (fr.set s .junk) l
def PH.run(G:DB)(F:PH):Nat→D→List D→St→Option St:=fun t d das st=>
 if t=F.t∧Mt d=t_ then(Ft G WN F.l ⟨(Yi (Dm das) F.js).set F.vs d,st⟩).map (·.st)else none
def KL(P:Program)(n:Nat):Code→Option (List PI)
 |.region _ ops f_=>Gd P [] n ops ops.toList
 |.seq a b=>match KL P n a,KL P n b with
  |some x,s_ y=>s_ (x++y)
  |_,_=>none
 |.skip=>s_ []
 |_=>none
theorem kQ{w0:World}{g0:Ghost}{st0:St}{dl:List Deferred}:∀ (c:Code) (l:List PI) (s s':PS) (a:Act) (w:World) (Q:Exit→Act→World→Prop),KL P n c=s_ l→Ft G WN l s=s_ s'→R G base n w0 g0 st0 dl s a w→
  (∀ N w',R G base n w0 g0 st0 dl s' N w'→N.defers=a.defers→Q .normal N w')→c.wpIn Fence.wide 0 P Q a w
 |.region id ops draw,l,s,s',a,w,Q,E,M,hR,hQ=>by
  cases draw with
  |true=>simp[KL]at E
  |false=>exact wpIn_region_list (vj (r:=none) YJ5 YOK.none _ _ s s' a w E M hR hQ)
 |.seq x y,l,s,s',a,w,Q,E,M,hR,hQ=>by
  simp only[KL]at E
  split at E
  case h_2=>cases E
  rename_i lx ly h1 h2;simp only[Dp]at E;subst E;rw[iI,Az]at M;obtain⟨s1,ac,ad⟩:=M;refine wpIn_seq (kQ x lx s s1 a w _ h1 ac hR fun N w' ae af=>?_);exact kQ y ly s1 s' N w' _ h2 ad ae fun a2 w2 ah a0=>hQ a2 w2 ah (a0.trans af)
 |.skip,l,s,s',a,w,Q,E,M,hR,hQ=>by
  simp only[KL,Dp]at E;subst E;simp only[Ft,Dp]at M;subst M;exact wpIn_skip (hQ a w hR rfl)
 |.cond _ _ _,_,_,_,_,_,_,E,_,_,_=>by simp[KL]at E
 |.block _ _,_,_,_,_,_,_,E,_,_,_=>by simp[KL]at E
 |.loop _,_,_,_,_,_,_,E,_,_,_=>by simp[KL]at E
 |.exit _,_,_,_,_,_,_,E,_,_,_=>by simp[KL]at E
 |.ret,_,_,_,_,_,_,E,_,_,_=>by simp[KL]at E
 |.rangeFunc _ _ _ _,_,_,_,_,_,_,E,_,_,_=>by simp[KL]at E
 |.scope _,_,_,_,_,_,_,E,_,_,_=>by simp[KL]at E
 |.label _,_,_,_,_,_,_,E,_,_,_=>by simp[KL]at E
 |.goto _,_,_,_,_,_,_,E,_,_,_=>by simp[KL]at E
 |.refuse _,_,_,_,_,_,_,E,_,_,_=>by simp[KL]at E
theorem Yjl(E:P.underlying T1=s_ u)(hn:∀ m,u≠.interface m)(M:a.eval x=.iface T1 v){ty xt:TypeId}{pos:String}{after:Array Edge}{guard:Option (Nat×Bool)}(w:World) :
  (execOp a.eval {dst:=dst,op:=.typeAssert x xt T1 t_,type:=ty,pos:=pos,after:=after,guard:=guard}).run P w=.ok (.value (.tuple #[v,.bool t_])) w:=by simp only[execOp,M,Instr.typeAssert,Sem.run_bind,run_underlying E,Result.andThen_ok];rfl
theorem Yjk(E:P.underlying T1=s_ u)(hn:∀ m,u≠.interface m){i:TypeInfo}{z:Value}(hi:P.info? T1=s_ i)(M:i.zero=s_ z)(N:a.eval x=.nilIface){ty xt:TypeId}{pos:String}{after:Array Edge}{guard:Option (Nat×Bool)}(w:World) :
  (execOp a.eval {dst:=dst,op:=.typeAssert x xt T1 t_,type:=ty,pos:=pos,after:=after,guard:=guard}).run P w=.ok (.value (.tuple #[z,.bool f_])) w:=by
 have aa:(zeroValue T1).run P w=.ok z w:=by simp[zeroValue,typeInfo,hi,M]
 simp only[execOp,N,Instr.typeAssert,Sem.run_bind,run_underlying E,Result.andThen_ok];simp_all
theorem Yib{d:D}(h:QV d=t_):RepV w g st d (NS d):=by
 cases d with
 |int k m=>exact .int k m
 |_=>simp[QV]at h
theorem Yed{d:D}(h:Mt d=t_):RepV w g st d (Hj d):=by
 cases d with
 |int k m=>exact .int k m
 |agg l=>
  refine .agg l _ (by simp) fun i d v E hv=>?_;rw[AK,E]at hv;simp only[Ae,Dp]at hv;subst hv;exact Yib (Ah.1 h _ (An E))
 |_=>simp[Mt,QV]at h
theorem Mh{r:Nat}(h:r<a.tmps.size):(a.put (s_ r) v).eval (.tmp r)=v:=by simp[Act.put,Act.eval,h]
theorem Uw{r s:Nat}(h:r≠s):(a.put (s_ s) v).eval (.tmp r)=a.eval (.tmp r):=by have E:¬ s=r:=fun e=>h e.symm;simp[Act.put,Act.eval,Array.getD_eq_getD_getElem?,E]
theorem Lx(a:Act)(r:Nat)(v:Value):(a.put (s_ r) v).tmps.size=a.tmps.size:=by simp[Act.put]
theorem xX{o:Oper}{w:World}(h:o.op=.call {callee:=.builtin .recover,args:=#[],argTypes:=#[]}):(execOp a.eval o).run P w=.ok .recover w:=by simp only[execOp,h];rfl
theorem Ysn{vs:List Value}{m:Nat}(aa:ds.length=vs.length)(E:∀ (i:Nat) d v,ds[i]?=s_ d→vs[i]?=s_ v→RepV w g st d v) :
  FR w g st (Dm ds) {tmps:=vs.toArray++C9 (m - vs.toArray.size) undef,defers:=[]}∧m≤(vs.toArray++C9 (m - vs.toArray.size) undef).size:=by
 refine⟨?_,by simp; omega⟩;intro s;simp only[Dm];rcases A5 s ds.length with M|M
 ·have N:s<vs.length:=by omega
  have h3:(vs.toArray++C9 (m - vs.toArray.size) undef).getD s undef=vs[s]:=by
   simp[Array.getD,N];omega
  rw[h3];have:=E s ds[s] vs[s] (by simp[M]) (by simp[N]);grind
 ·simp[Ai,BH M];exact .junk _
def pV(P:Program)(t:TypeId):Bool:=match P.underlying t with
 |some (.interface _)|none=>f_
 |some _=>t_
theorem yZb{t:TypeId}(h:pV P t=t_):∃ u,P.underlying t=s_ u∧∀ m,u≠.interface m:=by unfold pV at h;grind
end
end Go.Proofs.YtijnglngaogdjaaGreatDoor.PI
namespace Go.Proofs.YtijnglngaogdjaaGreatDoor.PI
open Go Go.RowKit
structure PFE where
 init:PC
 tail:PFD
 deriving Inhabited
def PFD.from(G:DB) (T:Tbl) (H:Jc) (F:PFD) (fuel:Nat) (s:PS):Option (D×St):=
 match Ft G T F.pre s with
 |some s1=>match Ps (DL G s1.fr F.hf) (F.ha.map (DL G s1.fr))with
  |some (f,das)=>match H f with
   |some h=>match F.code.exec G T fuel s1 with
    |some (.next,s)|some (.ret,s)=>(Eo s F.res).map fun l=>(Ec l,s.st)
    |some (.panic t d,s)=>match h t d das s.st with
     |some st3=>(Eo ⟨s.fr,st3⟩ F.res).map fun l=>(Ec l,st3)
     |none=>none
    |_=>none
   |none=>none
  |none=>none
 |none=>none
def PFE.runI(G:DB)(T:Tbl)(H:Jc)(F:PFE)(fuel:Nat)(ds:List D)(st:St):Option (D×St):=
 match F.init.exec G T fuel {fr:=Dm ds,st} with
 |some (.next,s)=>F.tail.from G T H fuel s
 |some (.ret,s)=>(Eo s F.tail.res).map fun l=>(Ec l,s.st)
 |_=>none
section
variable {P:Program} {G:DB} {T:Tbl} {il:List Nat}
def rF(G:DB)(T:Tbl)(F:PFD)(H:Jc)(Kr:Frame→St→Prop)(K:(Nat→D→List D→St→Option St)→List D→Ex→Frame→St→Prop)(e:Ex)(fr:Frame)(st:St):Prop:=match e with
 |.next=>@Ij G T F.pre fr st ⟨fun fr1 st1=>@on _ (Ps (DL G fr1 F.hf) (F.ha.map (DL G fr1))) ⟨fun p=>@on _ (H p.1) ⟨fun h=>@wW G T F.code fr1 st1 ⟨K h p.2⟩⟩⟩⟩
 |.ret=>Kr fr st
 |_=>False
theorem Yei(G:DB)(T:Tbl)(F:PFD)(H:Jc)(E:Frame→St→Prop)(K:(Nat→D→List D→St→Option St)→List D→Ex→Frame→St→Prop)(fr:Frame)(st:St) :
  rF G T F H E K .next fr st=@Ij G T F.pre fr st ⟨fun fr1 st1=>@on _ (Ps (DL G fr1 F.hf) (F.ha.map (DL G fr1))) ⟨fun p=>@on _ (H p.1) ⟨fun h=>@wW G T F.code fr1 st1 ⟨K h p.2⟩⟩⟩⟩:=(rfl)
theorem Yil(G:DB)(T:Tbl)(F:PFD)(H:Jc)(E:Frame→St→Prop)(K:(Nat→D→List D→St→Option St)→List D→Ex→Frame→St→Prop)(fr:Frame)(st:St):rF G T F H E K .ret fr st=E fr st:=(rfl)
end
attribute [irreducible] rF
attribute [push_cast] Yei Yil
