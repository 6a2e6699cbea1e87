/-
  A function that, behind a test, puts off a call which recovers: its contract out of what its code comes to.
  Conditions: none; these are definitions and lemmas.
-/
import Derived.Test.YtijnglngaogdjaaGreatDoorEngI2
import Derived.Test.YtijnglngaogdjaaGreatDoorEngR
import Derived.Laws.Cover3
import Derived.RecoverIn
open Array renaming replicate→CW
set_option linter.unusedVariables false
set_option linter.unusedSimpArgs false
namespace Go.Proofs.YtijnglngaogdjaaGreatDoor.PI
set_option linter.unusedSimpArgs false
open Go
def FB(n:Nat)(els:List D):List Nat:=if els.isEmpty then []else [n]
theorem RY(sz key:Nat)(els:List D)(h:els≠[]):Ec sz key els=.row key els.length 0 els.length:=by
 cases els with
 |nil=>exact absurd rfl h
 |cons a l=>rfl
theorem Qs(sz:Nat)(els:List D)(h:els≠[]):DC sz els=[{row:=true,sz,els,lent:=false}]:=by
 cases els with
 |nil=>exact absurd rfl h
 |cons a l=>rfl
theorem YBd(sz n:Nat)(els:List D):hk (Ec sz n els)=FB n els:=by cases els <;> rfl
theorem Yse(sz n:Nat)(els:List D):EC n (FB n els) (Ec sz n els)=Ec sz n els:=by
 cases els with
 |nil=>rfl
 |cons a l=>simp[FB,Ec,EC,EK,GK,EV,P8,Jv]
theorem pQ(n hi sz:Nat)(els:List D)(r:List Nat)(h:hi=(DC sz els).length+n):Fc n hi (FB n els++r) []=Fc n hi r (FB n els):=by
 cases els with
 |nil=>rfl
 |cons a l=>
  have:n<hi:=by rw[h]; simp[DC]
  simp[FB,Fc,this]
theorem nL(sz:Nat)(els:List D)(r:List Nat):Fc 1 ((DC sz els).length+1) (FB 1 els++r) []=Fc 1 ((DC sz els).length+1) r (FB 1 els):=pQ 1 _ sz els r (by simp)
theorem Yrf(sz:Nat)(els:List D):Fc 1 ((DC sz els).length+1) (FB 1 els) []=FB 1 els:=by
 have:=nL sz els [];rwa [Ad]at this
theorem nM(sz:Nat)(els:List D)(r:List Nat):Fc 2 ((DC sz els).length+1+1) (FB 2 els++r) []=Fc 2 ((DC sz els).length+1+1) r (FB 2 els):=pQ 2 _ sz els r (by simp)
theorem Yre(sz:Nat)(els:List D):Fc 2 ((DC sz els).length+1+1) (FB 2 els) []=FB 2 els:=by
 have:=nM sz els [];rwa [Ad]at this
theorem pN(l:St)(sz:Nat)(els:List D):Mr l.length (FB l.length els) (l++DC sz els) (FB l.length els)=DC sz els:=by
 cases els with
 |nil=>rfl
 |cons a r=>simp[FB,DC,Mr,Fe]
theorem Yb5(a:Obj)(sz:Nat)(els:List D):Mr 1 (FB 1 els) (a::DC sz els) (FB 1 els)=DC sz els:=pN [a] sz els
theorem Yb4(a b:Obj)(sz:Nat)(els:List D):Mr 2 (FB 2 els) (a::b::DC sz els) (FB 2 els)=DC sz els:=pN [a,b] sz els
theorem Ycd(l:St)(sz sz0 E bytes:Nat)(els xs:List D)(t:Bool)(I:E=sz∨xs=[])(hs0:sz≠0)(hb:(els.length+xs.length)*bytes≤140737488355328)(hl:els.length+xs.length≤4294967296) :
  Ep (l++DC sz els) sz bytes (Ec sz0 l.length els) (.slc E xs t)=some (Ec sz0 l.length (els++xs),l++DC sz (els++xs)):=
 Ykk l sz sz0 bytes els xs _ E rfl I hs0 hb hl
section
variable {α:Type} (f:α→D) (a b c d:Obj) (sz sz0 bytes:Nat) (A B:List α) (t:Bool) (hs0:sz≠0) (hb:(A.length+B.length)*bytes≤140737488355328) (hl:A.length+B.length≤4294967296)
include hs0 hb hl
theorem Ye(l:St)(E:Nat)(I:E=sz∨B.map f=[]):Ep (l++DC sz (A.map f)) sz bytes (Ec sz0 l.length (A.map f)) (.slc E (B.map f) t)=some (Ec sz0 l.length ((A++B).map f),l++DC sz ((A++B).map f)):=by
 rw[Ycd l sz sz0 E bytes (A.map f) (B.map f) t I hs0 (by simpa using hb) (by simpa using hl),BC]
theorem Ysp:Ep (a::DC sz (A.map f)) sz bytes (Ec sz0 1 (A.map f)) (.slc (nz sz (B.map f)) (B.map f) t)=some (Ec sz0 1 ((A++B).map f),a::DC sz ((A++B).map f)):=Ye f sz sz0 bytes A B t hs0 hb hl [a] _ (kE _ _)
end
section
variable {α:Type} (f:α→D) (a b c d:Obj) (sz sz0 bytes:Nat) (A:List α) (x:α) (t:Bool) (hs0:sz≠0) (hb:(A.length+1)*bytes≤140737488355328) (hl:A.length+1≤4294967296)
include hs0 hb hl
theorem pK(l:St):Ep (l++DC sz (A.map f)) sz bytes (Ec sz0 l.length (A.map f)) (.slc sz [f x] t)=some (Ec sz0 l.length ((A++[x]).map f),l++DC sz ((A++[x]).map f)):=
 Ye f sz sz0 bytes A [x] t hs0 hb hl l sz (.inl rfl)
theorem Yso:Ep (a::DC sz (A.map f)) sz bytes (Ec sz0 1 (A.map f)) (.slc sz [f x] t)=some (Ec sz0 1 ((A++[x]).map f),a::DC sz ((A++[x]).map f)):=pK f sz sz0 bytes A x t hs0 hb hl [a]
theorem xK:Ep (a::b::DC sz (A.map f)) sz bytes (Ec sz0 2 (A.map f)) (.slc sz [f x] t)=some (Ec sz0 2 ((A++[x]).map f),a::b::DC sz ((A++[x]).map f)):=pK f sz sz0 bytes A x t hs0 hb hl [a,b]
end
variable {α:Type}
theorem s9(f:α→D)(st:St)(sz sz0 bytes:Nat)(B:List α)(t:Bool)(hs0:sz≠0)(hb:B.length*bytes≤140737488355328)(hl:B.length≤4294967296) :
  Ep st sz bytes (.slc sz0 [] true) (.slc (nz sz (B.map f)) (B.map f) t)=some (Ec sz0 st.length (B.map f),st++DC sz (B.map f)):=by
 have:=Ye f sz sz0 bytes [] B t hs0 (by simpa using hb) (by simpa using hl) st _ (kE _ _);simpa[DC,Ec]using this
theorem yP6(f:α→D)(st:St)(sz sz0 bytes:Nat)(x:α)(t:Bool)(hs0:sz≠0)(hb:bytes≤140737488355328) :
  Ep st sz bytes (.slc sz0 [] true) (.slc sz [f x] t)=some (.row st.length 1 0 1,st++[⟨true,sz,[f x],false⟩]):=by
 have:=Ye f sz sz0 bytes [] [x] t hs0 (by simpa using hb) (by simp) st sz (.inl rfl);simpa[DC,Ec]using this
theorem xG(f:α→D)(sz:Nat)(A:List α)(h:Nat):nz (nz sz (A.map f)) ((A.take h).map f)=nz sz ((A.take h).map f):=by
 cases A with
 |nil=>simp[nz]
 |cons a r=>rfl
theorem xF(f:α→D)(sz:Nat)(A:List α)(l:Nat):nz (nz sz (A.map f)) ((A.drop l).map f)=nz sz ((A.drop l).map f):=by
 cases A with
 |nil=>simp[nz]
 |cons a r=>rfl
theorem rR(st:St)(sz bytes E I:Nat)(els:List D)(t:Bool)(hs0:sz≠0):Ep st sz bytes (.slc E els true) (.slc I [] t)=some (.slc E els true,st):=pJ st sz bytes E els _ I rfl hs0
attribute [push_cast] xG xF
theorem Yud(l:St)(sz sz0:Nat)(els:List D):DW (l++DC sz els) (Ec sz0 l.length els)=some (.slc (nz sz els) els false):=by
 cases els with
 |nil=>rfl
 |cons a r=>simp[Ec,DC,DW,DD,HL]
theorem u7(a b:Obj)(sz sz0:Nat)(els:List D):DW (a::b::DC sz els) (Ec sz0 2 els)=some (.slc (nz sz els) els false):=Yud [a,b] sz sz0 els
theorem Yli(l:St)(sz sz0:Nat)(els:List D):ER (l++DC sz els) false (Ec sz0 l.length els)=some (.int .i64 (els.length:Int)):=by
 cases els with
 |nil=>rfl
 |cons a r=>simp[Ec,DC,ER,Jq,E4,E0]
theorem Ytd(a:Obj)(sz sz0:Nat)(els:List D):ER (a::DC sz els) false (Ec sz0 1 els)=some (.int .i64 (els.length:Int)):=Yli [a] sz sz0 els
theorem Yz7(n m:Nat):n≤m+n:=Nat.le_add_left n m
theorem Yk0(key:Nat):D.slc 0 [] true=Ec 0 key []:=(rfl)
def Qk(o:Option Obj)(sz bytes tot:Nat)(xs:Option (Nat×List D)):Option Obj:=match o,xs with
 |some o,some (szx,xs)=>if !(szx == sz || xs.isEmpty) || sz == 0 then none
  else if o.row && o.sz == sz && o.els.length == tot && decide ((tot+xs.length)*bytes≤140737488355328) && decide (tot+xs.length≤4294967296)then some {o with els:=o.els++xs} else none
 |_,_=>none
theorem jk(st:St)(sz bytes key tot:Nat)(x:D):Ep st sz bytes (.row key tot 0 tot) x=(Qk st[key]? sz bytes tot (G7 st x)).map fun o=>(.row key o.els.length 0 o.els.length,st.set key o):=by
 simp only[Ep,Qk];grind
theorem fF(f:α→D)(sz bytes:Nat)(A B:List α)(lent:Bool)(hs0:sz≠0)(hb:(A.length+B.length)*bytes≤140737488355328)(hl:A.length+B.length≤4294967296)(E:Nat)(I:E=sz∨B.map f=[]) :
  Qk (some ⟨true,sz,A.map f,lent⟩) sz bytes A.length (some (E,B.map f))=some ⟨true,sz,(A++B).map f,lent⟩:=by
 have e:(!(E == sz || (B.map f).isEmpty) || sz == 0)=false:=by
  grind
 simp only[Qk,e,Ao,if_false];grind
theorem wh(f:α→D)(sz bytes:Nat)(A:List α)(x:α)(lent t:Bool)(st:St)(hs0:sz≠0)(hb:(A.length+1)*bytes≤140737488355328)(hl:A.length+1≤4294967296) :
  Qk (some ⟨true,sz,A.map f,lent⟩) sz bytes A.length (G7 st (.slc sz [f x] t))=some ⟨true,sz,(A++[x]).map f,lent⟩:=fF f sz bytes A [x] lent hs0 hb hl _ (.inl rfl)
def To(o:Option Obj)(tot off len:Nat):Option (Nat×List D):=o.bind fun o=>if o.row && o.els.length == tot && decide (off+len≤tot)then some (o.sz,(o.els.drop off).take len)else none
theorem rJ(st:St)(key tot off len:Nat):HL st key tot off len=To st[key]? tot off len:=by
 unfold HL To; cases st[key]? <;> rfl
theorem xN(f:α→D)(sz:Nat)(A:List α)(lent:Bool):To (some ⟨true,sz,A.map f,lent⟩) A.length 0 A.length=some (sz,A.map f):=by
 simp[To];rw[AI (by simp)]
theorem Yj8(f:α→D)(sz:Nat)(A:List α)(lent:Bool)(off len:Nat)(h:off+len≤A.length):To (some ⟨true,sz,A.map f,lent⟩) A.length off len=some (sz,((A.drop off).take len).map f):=by
 simp[To,h,Cn,B6]
def Rt(o:Option Obj)(tot:Nat):Bool:=match o with
 |some o=>o.row && o.els.length == tot
 |none=>false
theorem Ytb(st:St)(key tot:Nat):E0 st key tot=Rt st[key]? tot:=(rfl)
theorem Ytc(f:α→D)(sz:Nat)(A:List α)(lent:Bool):Rt (some ⟨true,sz,A.map f,lent⟩) A.length=true:=by simp[Rt]
def Qh(o:Option Obj)(sz key tot off len:Nat)(j:Int):Option D:=if 0≤j then o.bind fun o=>if o.row && o.sz == sz && o.els.length == tot && decide (j.toNat<len)then some (.rptr key tot (off+j.toNat) 0)else none else none
theorem oS(st:St)(sz key tot off len:Nat)(k:IntKind)(j:Int):Gx st sz (.row key tot off len) (.int k j)=Qh st[key]? sz key tot off len j:=by
 simp only[Gx,Qh,FP];grind
theorem xE(f:α→D)(sz:Nat)(A:List α)(lent:Bool)(key off len:Nat)(j:Int)(E:0≤j)(I:j<(len:Int)):Qh (some ⟨true,sz,A.map f,lent⟩) sz key A.length off len j=some (.rptr key A.length (off+j.toNat) 0):=by
 have:j.toNat<len:=by omega
 simp[Qh,E,this]
def Rv(o:Option Obj)(n:Nat)(ag:Bool)(tot i off:Nat):Option D:=if !ag && n != 1 then none else o.bind fun o=>if o.row && o.els.length == tot then(o.els[i]?).bind fun el=>if off+n≤el.cells.length then some (.mk ag ((el.cells.drop off).take n))else none else none
theorem tY(st:St)(n:Nat)(ag:Bool)(key tot i off:Nat):Ft st n ag (.rptr key tot i off)=Rv st[key]? n ag tot i off:=yWc st n ag key tot i off
theorem Ytn(sz:Nat)(A:List Dig)(lent:Bool)(i:Nat)(h:i<A.length):Rv (some ⟨true,sz,A.map C9,lent⟩) 32 true A.length i 0=some (C9 (A.getD i default)):=by
 simp[Rv,h,PU,DX,TR,aI,Al]
theorem Ylo[Inhabited α](f:α→D)(E:∀ a,(f a).isCell=true)(sz:Nat)(A:List α)(lent:Bool)(i:Nat)(h:i<A.length):Rv (some ⟨true,sz,A.map f,lent⟩) 1 false A.length i 0=some (f (A.getD i default)):=by
 have:(f A[i]).cells=[f A[i]]:=QW (E _);simp[Rv,h,this,D.mk,Al]
def Qg(o:Option Obj)(sz:Nat)(x:D)(key tot off len l h:Nat):Option D:=o.bind fun o=>if o.row && o.sz == sz && o.els.length == tot && sz != 0 then(if l≤h∧h≤len then(if l=0∧h=len then some x else if l=h then some (.slc sz [] false)else some (.row key tot (off+l) (h - l)))else none)else none
theorem yWa(st:St)(sz key tot off len:Nat)(lo hi:Option D):G3 st sz (.row key tot off len) lo hi none=(Gs lo 0).bind fun l=>(Gs hi len).bind fun h=>Qg st[key]? sz (.row key tot off len) key tot off len l h:=by
 simp only[G3,Qg]
 cases st[key]? with
 |none=>cases Gs lo 0 <;> cases Gs hi len <;> rfl
 |some o=>
  simp only[Bp]
  split
  ·cases Gs lo 0 <;> cases Gs hi len <;> rfl
  ·simp_all
theorem xX(f:α→D)(sz:Nat)(A:List α)(lent:Bool)(x:D)(key off len l h:Nat)(E:sz≠0)(I:l≤h)(J:h≤len):Qg (some ⟨true,sz,A.map f,lent⟩) sz x key A.length off len l h=(if l=0∧h=len then some x else if l=h then some (.slc sz [] false)else some (.row key A.length (off+l) (h - l))):=by
 simp[Qg,E,I,J]
theorem Yoe(d:Nat):Gs none d=some d:=(rfl)
theorem Ywo(k:IntKind)(n:Int)(d:Nat)(h:0≤n):Gs (some (.int k n)) d=some n.toNat:=by simp[Gs,FP,h]
theorem s8(sz bytes:Nat)(E:D)(k k':IntKind)(c:Int)(I:0≤c)(U:c≤4294967296)(J:c.toNat*bytes≤140737488355328)(M:0<sz)(N:E.cells.length=sz)(O:E.cells.all D.pure1=true) :
  Pq sz bytes E (.int k 0) (.int k' c)=some (0,⟨true,sz,[],false⟩):=by
 have:c.toNat≤4294967296:=by omega
 simp[Pq,QE k' c I,yWz,this,J,M,N,O]
theorem Vg(k k':IntKind)(c:Int)(z:Dig)(E:0≤c)(I:c≤4294967296):Pq 32 32 (C9 z) (.int k 0) (.int k' c)=some (0,⟨true,32,([]:List Dig).map C9,false⟩):=
 s8 32 32 _ k k' c E I (by omega) (by decide) (by rw[PU,DX]) (Lh (fun _=>rfl) z)
theorem Yk3(k k' E:IntKind)(n c:Int)(I:0≤c)(J:c≤4294967296):Pq 1 1 (.int E n) (.int k 0) (.int k' c)=some (0,⟨true,1,([]:List UInt8).map Dl,false⟩):=
 s8 1 1 _ k k' c I J (by omega) (by decide) rfl rfl
theorem Xt(f:α→D)(sz bytes E:Nat)(B:List α)(lent:Bool)(I:E=sz∨B.map f=[])(hs0:sz≠0)(hb:B.length*bytes≤140737488355328)(hl:B.length≤4294967296) :
  Qk (some ⟨true,sz,[],lent⟩) sz bytes 0 (some (E,B.map f))=some ⟨true,sz,B.map f,lent⟩:=fF f sz bytes [] B lent hs0 (by simpa using hb) (by simpa using hl) E I
theorem YC0(B:List UInt8)(lent:Bool)(hl:B.length≤4294967296):Qk (some ⟨true,1,[],lent⟩) 1 1 0 (some (1,B.map Dl))=some ⟨true,1,B.map Dl,lent⟩:=Xt Dl 1 1 1 B lent (.inl rfl) (by decide) (by omega) hl
theorem km(A B:List UInt8)(lent:Bool)(hl:A.length+B.length≤4294967296):Qk (some ⟨true,1,A.map Dl,lent⟩) 1 1 A.length (some (1,B.map Dl))=some ⟨true,1,(A++B).map Dl,lent⟩:=fF Dl 1 1 A B lent (by decide) (by omega) hl 1 (.inl rfl)
def Xb(o:Option Obj):Option (Nat×List D):=o.bind fun o=>if !o.row && decide (32≤o.els.length) && (JF 1 false o.els 32).all purA then some (1,JF 1 false o.els 32)else none
theorem tK(st:St)(key:Nat):G7 st (.bsl key 0 32 1 false)=Xb st[key]?:=by
 simp only[G7,LA,Xb];grind
theorem Yvn(sz:Nat)(d:Dig)(lent:Bool):Xb (some ⟨false,sz,C8 d,lent⟩)=some (1,d.bs.map Dl):=by
 have E:JF 1 false (C8 d) 32=C8 d:=by
  have:=tV (C8 d);rwa [DX]at this
 have I:(C8 d).all purA=true:=Lh (fun _=>rfl) d;simp only[Xb,Bp,DX,E,I];rfl
attribute [push_cast] tK Yvn YC0 km
attribute [push_cast] List.drop_zero List.take_length
attribute [push_cast] jk wh rJ xN Yj8 Ylh Ytb Ytc oS xE tY Ytn yWa Yoe Ywo
attribute [push_cast] YBd Yse nL Yrf nM Yre Yb5 Yb4 Ysp Yso xK u7 Ytd Yz7
noncomputable def SH(tys:List Ty):List D→Option D:=fun xs=>@ite _ (HasAll tys xs) (Classical.propDecidable _) (some (.bool true)) none
variable {xs:List D}{tys:List Ty}
theorem lawSp_true(h:HasAll tys xs):SH tys xs=some (.bool true):=by
 unfold SH; rw[if_pos h]
variable {d:D}
theorem Ydq(h:SH tys xs=some d):HasAll tys xs∧d=.bool true:=by
 unfold SH at h;grind
variable {F:PF}{hints:List (List Nat)}{f:Nat}{il:List Nat}{T:Tbl}{G:Dj}{P:Program}
theorem jZ(E:DA P il f hints=some F)(I:TblOK P G T)
  (h:∀ xs,HasAll tys xs→@wW G T F.code (Dc xs) [] ⟨Dn F.res (.bool true)⟩) (J:T.y=fun _ _ _=>none:=by rfl):Contract P G f (SH tys):=by
 refine oQ I J E fun ds d M=>?_;obtain⟨N,rfl⟩:=Ydq M;exact pr (Ho (h ds N))
variable {t:Ty}
theorem Sy{E:List Ty}(h:HasAll (t::E) xs):∃ x r,xs=x::r∧Has t x∧HasAll E r:=by
 cases h with
 |cons I J=>exact⟨_,_,rfl,I,J⟩
theorem yX0(h:HasAll [] xs):xs=[]:=by
 cases h; rfl
theorem LC(h:Has (.int .i64) d):∃ n:Int,d=.int .i64 n∧-9223372036854775808≤n∧n<9223372036854775808:=by
 cases h with
 |int k n hw=>
  refine⟨n,rfl,?_⟩;simp[Lit.wf,IntKind.min,IntKind.max,IntKind.signed,IntKind.bits]at hw;omega
theorem YBf(h:Has (.int .u8) d):∃ b:UInt8,d=Dl b:=by
 cases h with
 |int k n hw=>
  simp[Lit.wf,IntKind.min,IntKind.max,IntKind.signed,IntKind.bits]at hw;refine⟨UInt8.ofNat n.toNat,?_⟩;simp[Dl];omega
theorem cU{α:Type}{f:α→D}:∀ {els:List D},(∀ x∈els,∃ a,x=f a)→∃ l:List α,els=l.map f
 |[],_=>⟨[],rfl⟩
 |e::r,h=>by
  obtain⟨a,ha⟩:=h e (by simp);obtain⟨l,hl⟩:=cU (f:=f) (els:=r) fun x E=>h x (by simp[E]);exact⟨a::l,by rw[ha,hl]; rfl⟩
theorem w8{f:α→D}{e:Ty}(I:∀ x,Has e x→∃ a,x=f a)(h:Has (.slc e) d):∃ l:List α,d=.slc (nz e.size (l.map f)) (l.map f) false∧l.length≤maxLen:=by
 cases h with
 |slc _ els J M=>
  obtain⟨l,rfl⟩:=cU (f:=f) (els:=els) fun x E=>by
   obtain⟨i,hi⟩:=Cm E;grind
  grind
theorem Yu0(h:Has (.agg (List.replicate 32 (.int .u8))) d):∃ x,d=C9 x:=by
 cases h with
 |agg _ xs N I=>
  obtain⟨l,rfl⟩:=cU (f:=Dl) (els:=xs) fun x J=>by
   obtain⟨i,hi⟩:=Cm J
   have E:i<32:=by
    grind
   exact YBf (I i (.int .u8) x (by rw[List.getElem?_replicate,if_pos E]) hi)
  have hl:l.length=32:=by
   grind
  refine⟨⟨l,hl⟩,?_⟩
  have:∀ l:List UInt8,(l.map Dl).flatMap D.cells=l.map Dl:=by
   intro l
   induction l with
   |nil=>rfl
   |cons a r M=>simp only[Aw,At,M]; rfl
  rw[this];rfl
theorem oR{u:Ty}(h:Has (.agg [t,u]) d):∃ x y,d=.agg (x.cells++y.cells)∧Has t x∧Has u y:=by
 cases h with
 |agg _ xs I E=>
  match xs,I with
  |[x,y],_=>exact⟨x,y,by simp,E 0 t x rfl rfl,E 1 u y rfl rfl⟩
theorem Ymj{u v:Ty}(h:Has (.agg [t,u,v]) d):∃ x y z,d=.agg (x.cells++(y.cells++z.cells))∧Has t x∧Has u y∧Has v z:=by
 cases h with
 |agg _ xs I E=>
  match xs,I with
  |[x,y,z],_=>exact⟨x,y,z,by simp,E 0 t x rfl rfl,E 1 u y rfl rfl,E 2 v z rfl rfl⟩
noncomputable def GI{α:Type}(enc:α→List D×St)(pre:α→Prop)(f:α→D×St):List D→St→Option (D×St):=
 fun ds st=>@dite _ (∃ a,enc a=(ds,st)∧pre a) (Classical.propDecidable _) (fun h=>some (f h.choose)) (fun _=>none)
variable {st:St}{ds:List D}
theorem iy{enc:α→List D×St}{pre:α→Prop}{f:α→D×St}{r:D×St}(h:GI enc pre f ds st=some r):∃ a,enc a=(ds,st)∧pre a∧f a=r:=by
 unfold GI at h
 split at h
 ·rename_i E;simp only[Db]at h;exact⟨E.choose,E.choose_spec.1,E.choose_spec.2,h⟩
 ·cases h
theorem MG{enc:α→List D×St}{pre:α→Prop}{f:α→D×St}(E:∀ a b,enc a=enc b→f a=f b)(a:α)(M:pre a)(I:enc a=(ds,st)):GI enc pre f ds st=some (f a):=by
 have J:∃ b,enc b=(ds,st)∧pre b:=⟨a,I,M⟩;unfold GI;rw[dif_pos J];rw[E _ _ (J.choose_spec.1.trans I.symm)]
variable {sp:List D→St→Option (D×St)}
theorem rq(I:TblOK P G T)(J:DA P il f hints=some F)
  (h:∀ ds st r,sp ds st=some r→∃ fuel,dropped (F.runI G T fuel) ds st=some r) (M:T.y=fun _ _ _=>none:=by rfl):IContract P G f sp:=by
 refine⟨(cQ I M J 0).1,?_⟩;intro base w g st st' ds vs d N O U hl E;obtain⟨fuel,hf⟩:=h ds st _ N;exact(cQ I M J fuel).dropped.2 base w g st st' ds vs d hf O U hl E
theorem QV(J:DA P il f hints=some F)(M:TblOK P G T){enc:α→List D×St}{pre:α→Prop}{r:α→D×St}
  (h:∀ a,pre a→@wW G T F.code (Dc (enc a).1) (enc a).2 ⟨@GJ F.res ⟨fun d st'=>(H6 (enc a).2.length d,cut (enc a).2.length st')=r a⟩⟩) (N:T.y=fun _ _ _=>none:=by rfl):IContract P G f (GI enc pre r):=by
 refine rq M J (fun ds st x O=>?_) N;obtain⟨a,ha,U,rfl⟩:=iy O;obtain⟨fuel,d,st',E,I⟩:=Yg (Ho (h a U));rw[ha]at E I;refine⟨fuel,?_⟩;unfold dropped;rw[E fuel (AD _)];exact congrArg some I
def NC(k:Nat)(o:Obj):Obj:={o with els:=if o.row then o.els else o.els.map (Ht k)}
def Jm(k:Nat):Nat→St→St
 |0,_=>[]
 |_+1,[]=>[]
 |n+1,o::st=>NC k o::Jm k n st
theorem wS(k:Nat):∀ (n:Nat) (st:St),Jm k n st=(st.take n).map (NC k)
 |0,_=>by simp[Jm]
 |n+1,[]=>by simp[Jm]
 |n+1,o::st=>by simp[Jm,wS k n st]
theorem YBx(k:Nat)(st:St):cut k st=Jm k k st:=by
 rw[wS]; rfl
theorem Yfm(k:Nat)(st:St):Jm k 0 st=[]:=by simp[Jm]
theorem Yfn(k n:Nat)(o:Obj)(st:St):Jm k (n+1) (o::st)=NC k o::Jm k n st:=(rfl)
theorem Ym9(k sz:Nat)(els:List D)(lent:Bool):NC k ⟨true,sz,els,lent⟩=⟨true,sz,els,lent⟩:=(rfl)
theorem Yna(k sz:Nat)(els:List D)(lent:Bool):NC k ⟨false,sz,els,lent⟩=⟨false,sz,els.map (Ht k),lent⟩:=(rfl)
theorem Ylb(n:Nat)(k:IntKind)(m:Int):GO n (.int k m)=.int k m:=(rfl)
theorem Yc9(n:Nat)(b:Bool):GO n (.bool b)=.bool b:=(rfl)
theorem Yk9(n sz:Nat)(els:List D)(t:Bool):GO n (.slc sz els t)=.slc sz els t:=(rfl)
theorem Yla(n key tot off len:Nat):GO n (.row key tot off len)=if key<n then .row key tot off len else .junk:=(rfl)
theorem Yta(n:Nat)(k:IntKind)(m:Int):Ht n (.int k m)=.int k m:=(rfl)
theorem Yk5(n:Nat)(b:Bool):Ht n (.bool b)=.bool b:=(rfl)
theorem Ys7(n sz:Nat)(els:List D)(t:Bool):Ht n (.slc sz els t)=.slc sz els t:=(rfl)
theorem Ys8(n key tot off len:Nat):Ht n (.row key tot off len)=if key<n then .row key tot off len else .junk:=(rfl)
theorem Ys9(n key off:Nat):Ht n (.ptr key off)=if key<n then .ptr key off else .junk:=(rfl)
theorem Yk4(n key:Nat):Ht n (.mapv key)=if key<n then .mapv key else .junk:=(rfl)
theorem Yk8(n:Nat)(d:Dig):(C8 d).map (Ht n)=C8 d:=by
 simp only[C8,CG];apply BJ;intro b _;rfl
theorem Yc8(n:Nat):H6 n (.tup [])=.tup []:=(rfl)
theorem YBc(f:Nat)(l:List D):hk (.clo f l)=l.flatMap Gr:=(rfl)
theorem Yuv(key off:Nat):Gr (.ptr key off)=[key]:=(rfl)
theorem Ysd(n:Nat)(σ:List Nat)(f:Nat)(l:List D):EC n σ (.clo f l)=.clo f (l.map (GK n σ)):=(rfl)
theorem Yj7(n:Nat)(σ:List Nat)(key off:Nat):GK n σ (.ptr key off)=Jv (fun k=>.ptr k off) (EV n σ key):=(rfl)
attribute [push_cast] Yta Yk5 Ys7 Ys8 Ys9 Yk4 Yk8
attribute [push_cast] YBx Yfm Yfn Ym9 Yna Ylb Yc9 Yk9 Yla Yc8 YBc Yuv Ysd Yj7
set_option linter.unusedVariables false
variable {e:TypeId}
section
variable {P:Program} {G:Dj} {T:Tbl} {il:List Nat}
theorem Yr2{w:World}{g:Ghost}{sz:Nat}{els:List D}{t:Bool}{v:Value}(h:RepV w g st (.slc sz els t) v):∃ a n cap,v=.slice a n cap∧(els≠[]→a.isNone=false):=by
 cases h with
 |slcE _ _ a cap h=>exact⟨a,0,cap,rfl,fun h=>absurd rfl h⟩
 |slc _ _ b off cap _ val E=>exact⟨_,_,_,rfl,fun _=>rfl⟩
theorem yYb{t:TypeId}(E:P.underlying t=some (.slice e))(w:World)(a:Option Addr)(n cap:Nat):(binOp .eql t (.slice a n cap) (.slice none 0 0)).run P w=.ok (.bool a.isNone) w:=by
 have he:(Op.equal t (.slice a n cap) (.slice none 0 0)).run P w=.ok a.isNone w:=run_equalIn_slice_nil w 9999 t e a n cap E;simp[binOp,he]
theorem Ynd(hT:TblOK P G T)(hy:T.y=fun _ _ _=>none){id1:Nat}{fn:Func}{c0 A B:Code}{o1 o2:Oper}{t3 t4:Nat}{tS:TypeId}{l0:List PI}{pA pB:PC}{res:List PRes}
  (hfn:P.funcs[f]?=some fn) (hname:(fn.name == "runtime.NumGoroutine")=false) (hc:fn.body=some (.seq c0 (.seq (.seq (.region id1 #[o1,o2] false) (.cond (.tmp t4) A .skip)) B)))
  (h0:HZ P il fn.ntmps [] c0=some (.ops l0,[])) (hA:HZ P il fn.ntmps [] A=some (pA,[])) (hB:HZ P il fn.ntmps [] B=some (pB,[])) (hr:OW P fn.results.toList=some res)
  (ho1:MM P il fn.ntmps #[o1,o2] o1=some {dst:=some t3,op:=.mov (.s 0)}) (ho2:o2.op=.binOp .eql tS (.tmp t3) (.const (.slice none 0 0)) tS) (hd2:o2.dst=some t4) (hg2:o2.guard=none) (ht4:t4<fn.ntmps)
  (hS:P.underlying tS=some (.slice e)) 
  (hsp:∀ ds st d st',sp ds st=some (d,st')→∃ sz els t fr0,ds=[.slc sz els t]∧E6 G T l0 ⟨Dc ds,st⟩=some ⟨fr0,st⟩∧fr0 0=.slc sz els t∧
   (els=[]→∃ fuel sA xs,pA.exec G T fuel ⟨(fr0.set t3 (.slc sz els t)).set t4 (.bool true),st⟩=some (.ret,sA)∧sA.st=st'∧D3 sA res=some xs∧∀ w g v,RepV w g st' (DQ xs) v→RepV w g st' d v)∧
   (∃ fuel sB xs,pB.exec G T fuel ⟨(fr0.set t3 (.slc sz els t)).set t4 (.bool false),st⟩=some (.ret,sB)∧sB.st=st'∧D3 sB res=some xs∧∀ w g v,RepV w g st' (DQ xs) v→RepV w g st' d v)):IContract P G f sp:=by
 refine⟨⟨fn,hfn,by rw[hc]; rfl,hname⟩,?_⟩;intro base w g st st' ds vs d hx hSR hG hlen hrep
 have hR0:R G base fn.ntmps w g st [] {fr:=Dc ds,st} {tmps:=vs.toArray++CW (fn.ntmps - vs.toArray.size) undef,defers:=[]} w:=by
  refine⟨g,Go1.refl hSR,?_,hG,⟨[],rfl,trivial⟩,?_⟩
  ·intro s;simp only[Dc];rcases Ba s ds.length with h1 | h1
   ·have h2:s<vs.length:=by omega
    have h3:(vs.toArray++CW (fn.ntmps - vs.toArray.size) undef).getD s undef=vs[s]:=by
     simp[Array.getD,h2];intro h4;omega
    rw[h3];have:=hrep s ds[s] vs[s] (by simp[h1]) (by simp[h2]);simpa[Al,h1]using this
   ·simp[Al,Bu h1];exact .junk _
  ·simp; omega
 obtain⟨sz,els,t,fr0,rfl,e0,e1,eA,eB⟩:=hsp _ _ _ _ hx;have hY:YOK P G T.y base w g st:=by rw[hy]; exact YOK.none
 refine callsIn_wide.1 (callsIn_of_wp_marks (F:=Fence.wide) (n:=0) hfn hc trivial ?_)
 have fin:∀ (s':PS) (xs:List D),s'.st=st'→D3 s' res=some xs→(∀ w g v,RepV w g st' (DQ xs) v→RepV w g st' d v)→∀ a' w',R G base fn.ntmps w g st [] s' a' w'→
   LeavesInM Fence.wide 0 P fn a'.tmps (fun e w'=>∃ v g',e=.returned v∧Go1 base w g st w' g' st'∧RepV w' g' st' d v) a'.defers .returning w':=by
  rintro s' xs rfl hx1 hw a' w' ⟨g1,h⟩;obtain⟨dd,hd1,hd2⟩:=h.df;rw[hd1,Ad];refine Ub hSR.size dd w' h.go1 h.fr hd2 fun w2 hgo hF=>?_;obtain⟨us,e1,e2,e3⟩:=Sf hgo.sr hF hr hx1;exact⟨_,YX e3,_,g1,rfl,hgo,hw _ _ _ (TC e1 e2)⟩
 refine wpIn_seq (OG hT c0 none (.inl rfl) w g st [] hY hSR.size [] _ h0 0 _ ⟨fr0,st⟩ .next (by simp only[PC.exec,e0]) _ w _ hR0 fun a1 w1 hR1=>?_);refine wpIn_seq (wpIn_seq (wpIn_region_list ?_));refine TQ (r:=none) hT hY hR1 ho1 (s':=⟨fr0.set t3 (.slc sz els t),st⟩) (by simp[PI.exec,PI.step,PI.wanted,POp.exec,Dq,e1,Frame.set,Frame.put]) fun a2 w2 hR2=>?_;obtain⟨g2,h2⟩:=id hR2;have hv:RepV w2 g2 st ((fr0.set t3 (.slc sz els t)) t3) (a2.tmps.getD t3 undef):=h2.fr t3;have hset:(Frame.set fr0 t3 (.slc sz els t)) t3=.slc sz els t:=by simp[Frame.set]
 rw[hset]at hv;obtain⟨a,n,cap,hva,hne⟩:=Yr2 hv;obtain⟨dst2,op2,ty2,pos2,after2,guard2⟩:=o2;dsimp only at ho2 hd2 hg2;subst ho2 hd2 hg2;have hw2:∀ y,Region.wanted (⟨some t4,.binOp .eql tS (.tmp t3) (.const (.slice none 0 0)) tS,ty2,pos2,after2,none⟩:Oper) y=true:=fun y=>rfl;have hev:a2.eval (.tmp t3)=.slice a n cap:=hva;have hsz2:t4<a2.tmps.size:=AY ht4 h2.sz
 show(if Region.wanted _ _=true then _ else _)
 rw[hw2,if_pos rfl];refine QR (by intro c h; cases h) ?_;refine Gi (d:=.bool a.isNone) (s:=do eqGuard .eql tS (.tmp t3) (.const (.slice none 0 0)) (a2.eval (.tmp t3)) (a2.eval (.const (.slice none 0 0))); binOp .eql tS (a2.eval (.tmp t3)) (a2.eval (.const (.slice none 0 0)))) h2.sr rfl ?_ (.bool _) ?_
 ·simp only[Sem.run_bind,hev,fc .eql tS (.tmp t3) (.const (.slice none 0 0)) (.slice a n cap) (a2.eval (.const (.slice none 0 0))) (fun u e=>by cases e) (fun e=>by cases e),Result.andThen_ok];exact yYb hS w2 a n cap
 intro v w3 g3 hgo hrep3
 have hR3:R G base fn.ntmps w g st [] ⟨(fr0.set t3 (.slc sz els t)).set t4 (.bool a.isNone),st⟩ (a2.put (some t4) v) w3:=
  ⟨g3,h2.go hgo ((h2.fr.mono hgo.im hgo.evo).put (dst:=some t4) (fun t e=>by cases e; exact hsz2) hrep3) (PZ ..) (by rw[Qz]; exact h2.sz)⟩
 obtain rfl:=L3 hrep3
 have hbv:(a2.put (some t4) (.bool a.isNone)).eval (.tmp t4)=.bool a.isNone:=by
  simp[Act.eval,Act.put,hsz2]
 cases hnil:a.isNone with
 |true=>
  rw[hnil]at hbv hR3;have hels:els=[]:=Classical.byContradiction fun h=>by rw[hne h]at hnil; cases hnil
  obtain⟨fuel,sA,xs,x1,x2,x3,x4⟩:=eA hels;refine wpIn_cond_true hbv ?_;refine OG hT A none (.inl rfl) w g st [] hY hSR.size [] _ hA fuel _ sA .ret x1 _ _ _ hR3 fun a4 w4 hR4=>?_;exact fin sA xs x2 x3 x4 a4 w4 hR4
 |false=>
  rw[hnil]at hbv hR3;obtain⟨fuel,sB,xs,x1,x2,x3,x4⟩:=eB;refine wpIn_cond_false hbv (wpIn_skip ?_);refine OG hT B none (.inl rfl) w g st [] hY hSR.size [] _ hB fuel _ sB .ret x1 _ _ _ hR3 fun a4 w4 hR4=>?_;exact fin sB xs x2 x3 x4 a4 w4 hR4
end
end Go.Proofs.YtijnglngaogdjaaGreatDoor.PI
namespace Go.Proofs.YtijnglngaogdjaaGreatDoor.PI
open Go Go.RowKit
variable {v:Value}{ds:List D}{sp:List D→St→Option (D×St)}{f:Nat}{hints:List (List Nat)}{il:List Nat}{F:PF}{dst:Option Tmp}{a:Act}{x:Operand}{u:TypeDesc}{T1:TypeId}
section
variable {P:Program} {G:Dj} {T:Tbl} {base n:Nat} {w:World} {g:Ghost} {st:St}
theorem Ykp(h:RepV w g st (DQ ds) v):∃ us:List Value,v=dC us∧ds.length=us.length∧∀ (i:Nat) d u,ds[i]?=some d→us[i]?=some u→RepV w g st d u:=by
 match ds with
 |[d]=>
  refine⟨[v],rfl,rfl,fun i J u E I=>?_⟩
  cases i with
  |zero=>
   simp only[AF,Db]at E I;subst E; subst I;exact h
  |succ i=>simp at E
 |[]=>
  cases h with
  |tup _ vs E I=>
   obtain rfl:vs=[]:=AR E.symm;exact⟨[],rfl,rfl,I⟩
 |a::b::l=>
  cases h with
  |tup _ vs E I=>
   match vs,E with
   |x::y::r,E=>exact⟨x::y::r,rfl,E,I⟩
theorem yQ5(h:IContract P G f sp){xs ys:List D}{st':St}(U:sp ds []=some (DQ xs,st'))(V:Ek st' xs=some ys) :
  ∀ (w:World) (g:Ghost) (vs:List Value),GlobOK G w g→(∀ b o,g.Im b o→(w.cell? ⟨b,o,none⟩).isSome=true)→ds.length=vs.length→
  (∀ (i:Nat) d v,ds[i]?=some d→vs[i]?=some v→RepV w g [] d v)→
  Calls P f vs.toArray w fun e w'=>∃ v g',e=.returned v∧RepV w' g' [] (DQ ys) v∧purR (DQ ys)=true∧ImLe w g w' g'∧(∀ b o,g'.Im b o→g.Im b o∨w.heap.size≤b)∧
   (∀ b o,g'.Im b o→(w'.cell? ⟨b,o,none⟩).isSome=true)∧Below w.heap.size w w':=by
 intro w g vs Y M hlen J;have hS:SR w.heap.size w g []:=⟨fun k o h=>by simp at h,fun k o h=>by simp at h,fun k k' o o' h=>by simp at h,M,fun k o x h=>by simp at h,AD _⟩;refine(h.2 w.heap.size w g [] st' ds vs _ U hS Y hlen J).mono ?_;rintro e w' ⟨v,g1,rfl,I,hr⟩;obtain⟨us,rfl,e1,e2⟩:=Ykp hr;obtain⟨g2,N,_,e5,O,e7⟩:=Sn I.sr V;have E:=I.trans N;refine⟨_,g2,rfl,?_,cX O,E.im,E.new,E.sr.im,E.below⟩;have h8:=TC (g:=g2) (w:=w') (ds:=ys) (vs:=us) (by omega) fun i y v hy hv=>e7 i y v hy fun x hx=>e2 i x v hx hv;exact h8.purR (ImLe.refl _ _) (cX O)
theorem yNh{F:PFD}{H:IQ}(ht:OX P il f hints=some F)(hT:TblOK P G T)(hH:∀ f h,H f=some h→T4 P G f h){α:Type}{enc:α→List D}{pre:α→Prop}{r:α→D}
  (h:∀ a,pre a→Rj G T F H (enc a) [] fun h M=>Q8 h M F.res (r a)) (hy:T.y=fun _ _ _=>none:=by rfl):Contract P G f (Dk enc pre r):=by
 intro w g ds vs d hd hG ab hlen O _;obtain⟨a,rfl,hp,rfl⟩:=iA hd;obtain⟨k,s1,f',M,h',e,N,st',U,V,Y,h4,I⟩:=Ya8 (h a hp);have hI:=Yms hT hy ht hH k
 have fin:∀ (E:St),(FM ⟨N,E⟩ F.res).map DQ=some (r a)→(∀ xs,D3 ⟨N,E⟩ F.res=some xs→F.runI G T H k (enc a) []=some (DQ xs,E))→Calls P f vs.toArray w fun e w'=>∃ v g',e=.returned v∧RepV w' g' [] (r a) v∧purR (r a)=true∧ImLe w g w' g'∧(∀ b o,g'.Im b o→g.Im b o∨w.heap.size≤b)∧
   (∀ b o,g'.Im b o→(w'.cell? ⟨b,o,none⟩).isSome=true)∧Below w.heap.size w w':=by
  intro E hg J;simp only[DG]at hg;obtain⟨ys,ad,ae⟩:=hg;obtain⟨xs,q1,q2⟩:=ja ad;rw[← ae];exact yQ5 hI (J xs q1) q2 w g vs hG ab hlen O
 unfold Q8 at I
 cases e with
 |next=>exact fin st' I fun xs J=>by simp only[PFD.runI,U,V,Y,h4 k (AD _),J,Ag]
 |ret=>exact fin st' I fun xs J=>by simp only[PFD.runI,U,V,Y,h4 k (AD _),J,Ag]
 |exit id=>exact I.elim
 |panic t dd=>
  simp only at I;unfold on at I
  split at I
  case h_2=>exact I.elim
  rename_i E h6;exact fin E I fun xs J=>by simp only[PFD.runI,U,V,Y,h4 k (AD _),h6,J,Ag]
theorem yKe(I:DA P il f hints=some F)(J:TblOK P G T){sx:List D→St→Option (Nat×D×St)}
  (h:∀ ds st r,sx ds st=some r→@wW G T F.code (Dc ds) st ⟨@Nq ⟨fun t d st'=>(t,d,st')=r⟩⟩) (M:T.y=fun _ _ _=>none:=by rfl):QN P G f sx:=by
 refine⟨(oP J M I 0).1,?_⟩;intro base w g st st' ds vs t d N U V hl E;obtain⟨k,t1,d1,st1,Y,O⟩:=Ya6 (Ho (h ds st _ N));simp only[Dv]at O;obtain⟨rfl,rfl,rfl⟩:=O;exact(oP J M I k).2 base w g st _ ds vs _ _ (Y k (AD _)) U V hl E
theorem Ze(E:DA P il f hints=some F)(I:TblOK P G T)
  (h:∀ ds st r,sp ds st=some r→@wW G T F.code (Dc ds) st ⟨@GJ F.res ⟨fun d st'=>(H6 st.length d,cut st.length st')=r⟩⟩) (J:T.y=fun _ _ _=>none:=by rfl):IContract P G f sp:=by
 refine rq I E (fun ds st x M=>?_) J;obtain⟨fuel,d,st',N,O⟩:=Yg (Ho (h ds st x M));refine⟨fuel,?_⟩;unfold dropped;grind
theorem Jz(I:DA P il f hints=some F)(J:TblOK P G T)
  (h:∀ ds st r,sp ds st=some r→@wW G T F.code (Dc ds) st ⟨@GJ F.res ⟨fun d st'=>(d,st')=r⟩⟩) (M:T.y=fun _ _ _=>none:=by rfl):IContract P G f sp:=by
 refine⟨(cQ J M I 0).1,?_⟩;intro base w g st st' ds vs d N U V hl E;obtain⟨k,d1,st1,Y,O⟩:=Yg (Ho (h ds st _ N));simp only[Dv]at O;obtain⟨rfl,rfl⟩:=O;exact(cQ J M I k).2 base w g st _ ds vs _ (Y k (AD _)) U V hl E
theorem Contract.or{sp E I:List D→Option D}(J:Contract P G f E)(M:Contract P G f I)(h:∀ ds d,sp ds=some d→E ds=some d∨I ds=some d):Contract P G f sp:=by
 intro w g ds vs d N;rcases h ds d N with h | h
 ·exact J w g ds vs d h
 ·exact M w g ds vs d h
theorem IContract.or{E I:List D→St→Option (D×St)}(M:IContract P G f E)(O:IContract P G f I)(h:∀ ds st r,sp ds st=some r→E ds st=some r∨I ds st=some r):IContract P G f sp:=by
 refine⟨M.1,?_⟩;intro base w g st st' ds vs d N;rcases h ds st _ N with J | J
 ·exact M.2 base w g st st' ds vs d J
 ·exact O.2 base w g st st' ds vs d J
def IY(sp:List D→Option D)(ds:List D)(st:St):Option (D×St):=match Ek st ds with
 |some vs=>match sp vs with
  |some r=>some (r,if r.noRef then st else PI.lend (ds.flatMap keys) st)
  |none=>none
 |none=>none
theorem Contract.toI{sp:List D→Option D}(h:Contract P G f sp){fn:Func}(hfn:P.funcs[f]?=some fn)(hb:fn.body.isSome=true)(hname:(fn.name == "runtime.NumGoroutine")=false):IContract P G f (IY sp):=by
 refine⟨⟨fn,hfn,hb,hname⟩,?_⟩;intro base w g st st' ds vs d hsp hS hG hl hrep;unfold IY at hsp
 split at hsp
 case h_2=>cases hsp
 rename_i ys hi
 split at hsp
 case h_2=>cases hsp
 rename_i r hr;simp only[Db,Dv]at hsp;obtain⟨rfl,rfl⟩:=hsp;obtain⟨g1,hgo,_,hyl,hpure,hyr⟩:=Sn hS hi;have hc:=h w g1 ys vs r hr (hG.mono hgo.im) hgo.sr.im (hyl.trans hl) (fun i y v hy hv=>(hyr i y v hy (fun d hd=>hrep i d v hd hv)).purA (ImLe.refl _ _) (hpure y (Ap hy))) hpure;refine hc.mono ?_;rintro e w' ⟨v,g',rfl,h1,h2,h3,h4,h5,h6⟩;have hbes:Beside w w':=⟨h6.os,h6.tape,h6.output,h6.size⟩
 by_cases hnr:r.noRef=true
 ·refine⟨v,{g with Im:=g.Im},rfl,?_,by rw[if_pos hnr]; exact rO h1 hnr⟩;rw[if_pos hnr];refine hS.more hbes h6.block (fun _ _ h=>h) (fun _ _ h=>.inl h) (fun b o hb=>?_);have:w'.cell? ⟨b,o,none⟩=w.cell? ⟨b,o,none⟩:=by simp only[World.cell?,h6.block b (hS.im_lt hb)]
  rw[this]; exact hS.im b o hb
 ·refine⟨v,{g1 with Im:=g'.Im},rfl,?_,?_⟩
  ·rw[if_neg hnr];exact hgo.trans (hgo.sr.more hbes h6.block (fun b o h=>(h3.im b o h).1) (fun b o h=>h4 b o h) h5)
  ·exact RepV.purR (g:=g') (g':={g1 with Im:=g'.Im}) ⟨fun b o h=>⟨h,rfl⟩,fun _ _ h _=>h⟩ h1 h2
def Wh:Tbl:={p:=fun _=>none,i:=fun _=>none,m:=fun _=>none}
theorem Yzs:TblOK P G Wh:=⟨fun _ _ h=>(by cases h),fun _ _ h=>(by cases h),fun _ _ h=>(by cases h),fun _ _ h=>(by cases h),fun _ _ h=>(by cases h),fun _ _ h=>(by cases h)⟩
structure PH where
 t:Nat
 js:List Nat
 vs:Nat
 l:List PI
 deriving Inhabited
def XK(fr:Frame):List Nat→Frame
 |[]=>fr
 |s::l=>XK (fr.set s .junk) l
def PH.run(G:Dj)(F:PH):Nat→D→List D→St→Option St:=fun t d das st=>
 if t=F.t∧LN d=true then(E6 G Wh F.l ⟨(XK (Dc das) F.js).set F.vs d,st⟩).map (·.st)else none
def Kn(P:Program)(n:Nat):Code→Option (List PI)
 |.region _ ops false=>FX P [] n ops ops.toList
 |.seq a b=>match Kn P n a,Kn P n b with
  |some x,some y=>some (x++y)
  |_,_=>none
 |.skip=>some []
 |_=>none
theorem gV{w0:World}{g0:Ghost}{st0:St}{dl:List Deferred}:∀ (c:Code) (l:List PI) (s s':PS) (a:Act) (w:World) (Q:Exit→Act→World→Prop),Kn P n c=some l→E6 G Wh l s=some s'→R G base n w0 g0 st0 dl s a w→
  (∀ J w',R G base n w0 g0 st0 dl s' J w'→J.defers=a.defers→Q .normal J w')→c.wpIn Fence.wide 0 P Q a w
 |.region id ops draw,l,s,s',a,w,Q,E,I,M,N=>by
  cases draw with
  |true=>simp[Kn]at E
  |false=>exact wpIn_region_list (ri (r:=none) Yzs YOK.none _ _ s s' a w E I M N)
 |.seq x y,l,s,s',a,w,Q,E,I,M,N=>by
  simp only[Kn]at E
  split at E
  case h_2=>cases E
  rename_i lx ly h1 h2;simp only[Db]at E;subst E;rw[fe,Ay]at I;obtain⟨s1,O,U⟩:=I;refine wpIn_seq (gV x lx s s1 a w _ h1 O M fun J w' V Y=>?_);exact gV y ly s1 s' J w' _ h2 U V fun a2 w2 aa ab=>N a2 w2 aa (ab.trans Y)
 |.skip,l,s,s',a,w,Q,E,I,M,N=>by
  simp only[Kn,Db]at E;subst E;simp only[E6,Db]at I;subst I;exact wpIn_skip (N a w M rfl)
 |.cond _ _ _,_,_,_,_,_,_,E,_,_,_=>by simp[Kn]at E
 |.block _ _,_,_,_,_,_,_,E,_,_,_=>by simp[Kn]at E
 |.loop _,_,_,_,_,_,_,E,_,_,_=>by simp[Kn]at E
 |.exit _,_,_,_,_,_,_,E,_,_,_=>by simp[Kn]at E
 |.ret,_,_,_,_,_,_,E,_,_,_=>by simp[Kn]at E
 |.rangeFunc _ _ _ _,_,_,_,_,_,_,E,_,_,_=>by simp[Kn]at E
 |.scope _,_,_,_,_,_,_,E,_,_,_=>by simp[Kn]at E
 |.label _,_,_,_,_,_,_,E,_,_,_=>by simp[Kn]at E
 |.goto _,_,_,_,_,_,_,E,_,_,_=>by simp[Kn]at E
 |.refuse _,_,_,_,_,_,_,E,_,_,_=>by simp[Kn]at E
theorem Ya5(E:P.underlying T1=some u)(hn:∀ m,u≠.interface m)(I:a.eval x=.iface T1 v){ty xt:TypeId}{pos:String}{after:Array Edge}{guard:Option (Nat×Bool)}(w:World) :
  (execOp a.eval {dst:=dst,op:=.typeAssert x xt T1 true,type:=ty,pos:=pos,after:=after,guard:=guard}).run P w=.ok (.value (.tuple #[v,.bool true])) w:=by
 simp only[execOp,I,Instr.typeAssert,Sem.run_bind,run_underlying E,Result.andThen_ok];rfl
theorem Ya4(E:P.underlying T1=some u)(hn:∀ m,u≠.interface m){i:TypeInfo}{z:Value}(hi:P.info? T1=some i)(I:i.zero=some z)(J:a.eval x=.nilIface){ty xt:TypeId}{pos:String}{after:Array Edge}{guard:Option (Nat×Bool)}(w:World) :
  (execOp a.eval {dst:=dst,op:=.typeAssert x xt T1 true,type:=ty,pos:=pos,after:=after,guard:=guard}).run P w=.ok (.value (.tuple #[z,.bool false])) w:=by
 have M:(zeroValue T1).run P w=.ok z w:=by simp[zeroValue,typeInfo,hi,I]
 simp only[execOp,J,Instr.typeAssert,Sem.run_bind,run_underlying E,Result.andThen_ok];simp_all
theorem z9{d:D}(h:Qi d=true):RepV w g st d (Nl d):=by
 cases d with
 |int k m=>exact .int k m
 |_=>simp[Qi]at h
theorem yVk{d:D}(h:LN d=true):RepV w g st d (GS d):=by
 cases d with
 |int k m=>exact .int k m
 |agg l=>
  refine .agg l _ (by simp) fun i d v E hv=>?_;rw[AJ,E]at hv;simp only[Ag,Db]at hv;subst hv;exact z9 (Ak.1 h _ (Ap E))
 |_=>simp[LN,Qi]at h
theorem L6{r:Nat}(h:r<a.tmps.size):(a.put (some r) v).eval (.tmp r)=v:=by
 simp[Act.put,Act.eval,h]
theorem UB{r s:Nat}(h:r≠s):(a.put (some s) v).eval (.tmp r)=a.eval (.tmp r):=by
 have E:¬ s=r:=fun e=>h e.symm;simp[Act.put,Act.eval,Array.getD_eq_getD_getElem?,E]
theorem Lj(a:Act)(r:Nat)(v:Value):(a.put (some r) v).tmps.size=a.tmps.size:=by simp[Act.put]
theorem ub{o:Oper}{w:World}(h:o.op=.call {callee:=.builtin .recover,args:=#[],argTypes:=#[]}):(execOp a.eval o).run P w=.ok .recover w:=by
 simp only[execOp,h];rfl
theorem Yi1{vs:List Value}{m:Nat}(M:ds.length=vs.length)(E:∀ (i:Nat) d v,ds[i]?=some d→vs[i]?=some v→RepV w g st d v) :
  FR w g st (Dc ds) {tmps:=vs.toArray++CW (m - vs.toArray.size) undef,defers:=[]}∧m≤(vs.toArray++CW (m - vs.toArray.size) undef).size:=by
 refine⟨?_,by simp; omega⟩;intro s;simp only[Dc];rcases Ba s ds.length with I | I
 ·have J:s<vs.length:=by omega
  have N:(vs.toArray++CW (m - vs.toArray.size) undef).getD s undef=vs[s]:=by
   simp[Array.getD,J];omega
  rw[N];have:=E s ds[s] vs[s] (by simp[I]) (by simp[J]);grind
 ·simp[Al,Bu I];exact .junk _
def lk(P:Program)(t:TypeId):Bool:=match P.underlying t with
 |some (.interface _) | none=>false
 |some _=>true
theorem yQt{t:TypeId}(h:lk P t=true):∃ u,P.underlying t=some u∧∀ m,u≠.interface m:=by
 unfold lk at h;grind
end
end Go.Proofs.YtijnglngaogdjaaGreatDoor.PI
namespace Go.Proofs.YtijnglngaogdjaaGreatDoor.PI
open Go Go.RowKit
structure PFE where
 init:PC
 tail:PFD
 deriving Inhabited
noncomputable def PFD.from(G:Dj) (T:Tbl) (H:IQ) (F:PFD) (fuel:Nat) (s:PS):Option (D×St):=
 match E6 G T F.pre s with
 |some s1=>match Oc (Dq G s1.fr F.hf) (F.ha.map (Dq G s1.fr))with
  |some (f,das)=>match H f with
   |some h=>match F.code.exec G T fuel s1 with
    |some (.next,s) | some (.ret,s)=>(D3 s F.res).map fun l=>(DQ l,s.st)
    |some (.panic t d,s)=>match h t d das s.st with
     |some st3=>(D3 ⟨s.fr,st3⟩ F.res).map fun l=>(DQ l,st3)
     |none=>none
    |_=>none
   |none=>none
  |none=>none
 |none=>none
noncomputable def PFE.runI(G:Dj)(T:Tbl)(H:IQ)(F:PFE)(fuel:Nat)(ds:List D)(st:St):Option (D×St):=
 match F.init.exec G T fuel {fr:=Dc ds,st} with
 |some (.next,s)=>F.tail.from G T H fuel s
 |some (.ret,s)=>(D3 s F.tail.res).map fun l=>(DQ l,s.st)
 |_=>none
section
variable {P:Program} {G:Dj} {T:Tbl} {il:List Nat}
def kJ(G:Dj)(T:Tbl)(F:PFD)(H:IQ)(Kr:Frame→St→Prop)(K:(Nat→D→List D→St→Option St)→List D→Ex→Frame→St→Prop)(e:Ex)(fr:Frame)(st:St):Prop:=match e with
 |.next=>@HY G T F.pre fr st ⟨fun fr1 st1=>@on _ (Oc (Dq G fr1 F.hf) (F.ha.map (Dq G fr1))) ⟨fun p=>@on _ (H p.1) ⟨fun h=>@wW G T F.code fr1 st1 ⟨K h p.2⟩⟩⟩⟩
 |.ret=>Kr fr st
 |_=>False
theorem yVp(G:Dj)(T:Tbl)(F:PFD)(H:IQ)(E:Frame→St→Prop)(K:(Nat→D→List D→St→Option St)→List D→Ex→Frame→St→Prop)(fr:Frame)(st:St) :
  kJ G T F H E K .next fr st=@HY G T F.pre fr st ⟨fun fr1 st1=>@on _ (Oc (Dq G fr1 F.hf) (F.ha.map (Dq G fr1))) ⟨fun p=>@on _ (H p.1) ⟨fun h=>@wW G T F.code fr1 st1 ⟨K h p.2⟩⟩⟩⟩:=(rfl)
theorem yZ4(G:Dj)(T:Tbl)(F:PFD)(H:IQ)(E:Frame→St→Prop)(K:(Nat→D→List D→St→Option St)→List D→Ex→Frame→St→Prop)(fr:Frame)(st:St):kJ G T F H E K .ret fr st=E fr st:=(rfl)
end
attribute [irreducible] kJ
attribute [push_cast] yVp yZ4
end Go.Proofs.YtijnglngaogdjaaGreatDoor.PI
