/-
  Words: what the pure operations do on machine words.
  Conditions: none; these are definitions and lemmas.
-/
import Derived.Test.YtlnmoflpeohkbaaGreatDoorEngQ
import Derived.ChangeArms
import Derived.Lib.LaidTab
import Derived.ChangeSame
open Inhabited renaming default->d_
open Bool renaming false->f_,true->t_
open Option renaming some->s_,none->n_
open Array renaming replicate->Dc
open BitVec renaming ofInt->C8
open List renaming range->C9,replicate->C7
open UInt64 renaming ofNat->Dq
set_option maxHeartbeats 8000000
set_option maxRecDepth 20000
set_option linter.unusedSimpArgs false
set_option linter.unusedVariables false
set_option linter.defProp false
namespace Go.Proofs.YtlnmoflpeohkbaaGreatDoor.PI
open Go Go.RowKit
open Go.Code renaming region->ybx
open D renaming cells->yaZ
open Go.DataW renaming TrodAll->ybA,trod->yar,trod_slice->ybz
open Go.Fence renaming wide->yau
open Go.Instr renaming loadAt->yaA,sureAddr->yaB
open Go.IntKind renaming bits->yac,wrap->yab
open PC renaming exec->yaX
open Go.Region renaming wanted->yaw
open Go.Result renaming andThen_ok->yaz
open Go.Sem renaming run_bind->yay
open Go.Value renaming cells->yaL,okWide->ybB
open Go.World renaming cell?->yax,putObj_heap_other->ybv,size_alloc->yby
variable{o o':Obj}{st st':St}{f j k key sz:Nat}{v:Value}{d:D}{g g':Ghost}{w w':World}{ds l:List D}{f1:D->D}{σ:List Nat}{a:Act}{ops:Array Oper}{Q:Exit->Act->World->Prop}{c:Code}{cs:List Go.Frame}{b:Go.Frame}{vs:List Value}{fn:Func}{F:PF}{hints:List (List Nat)}
section
variable{P:Program}{il:List Nat}{G:Dy}{T:Tbl}{base n:Nat}{w0:World}{g0:Ghost}{st0:St}{dl:List Deferred}{ro:Option Nat}
def V9{i:Nat}(h:st[i]?=s_ o)(hi:i<k):(cut k st)[i]?=s_ {o with els:=if o.row then o.els else o.els.map (Ia k)}:=by simp[cut,hi,h]
theorem bk{i:Nat}(h:(cut k st)[i]?=s_ o'):i<k/\∃o,st[i]?=s_ o/\o'={o with els:=if o.row then o.els else o.els.map (Ia k)}:=by simp only[cut,AI,D1,BO]at h;grind
theorem p9(k:Nat)(o:Obj):(if o.row then o.els else o.els.map (Ia k)).length=o.els.length:=by grind
theorem yVs(h:RepV w g st d v):RepV w g (cut k st) (IK k d) v:=by
 cases h with
 |int k n=>exact .int k n
 |bool b=>exact .bool b
 |str s=>exact .str s
 |nilp=>exact .nilp
 |nilm=>exact .nilm
 |gmap es b ad clock E N h3=>exact .gmap es b ad clock E N h3
 |nilf=>exact .nilf
 |slcE sz t a cap h=>exact .slcE sz t a cap h
 |slc els t b off cap sz val E N h3 ae h4 h5 h6 h7=>exact RepV.pure (ImLe.refl _ _) (.slc els t b off cap sz val E N h3 ae h4 h5 h6 h7) rfl
 |clo f ds vs E N=>exact .junk _
 |row key tot off len o v h0 E N h3 h4=>
  simp only[IK]
  split
  .rename_i hk;refine .row key tot off len _ v h0 (V9 E hk) N (by simpa[p9]using h3) λe=>?_;grind
  .exact .junk _
 |bsl key off n sz ag o cap E N h3 h4=>
  simp only[IK]
  split
  .rename_i hk;exact .bsl key off n sz ag _ cap (V9 E hk) N h3 h4
  .exact .junk _
 |mapv key o E N=>
  simp only[IK]
  split
  .rename_i hk;exact .mapv key _ (V9 E hk) N
  .exact .junk _
 |ptr key off o E N h3=>
  simp only[IK]
  split
  .rename_i hk;exact .ptr key off _ (V9 E hk) N h3
  .exact .junk _
 |rptr key tot i off o v h0 E N h3 h4=>
  simp only[IK]
  split
  .rename_i hk;refine .rptr key tot i off _ v h0 (V9 E hk) N (by simpa[p9]using h3) λe=>?_;grind
  .exact .junk _
 |eptr el off b o val h0 E N=>exact RepV.eptr_any (ImLe.refl _ _) (.eptr el off b o val h0 E N)
 |agg ds vs E N=>exact .junk _
 |tup ds vs E N=>exact .junk _
 |junk v=>exact .junk v
def xE(h:RepV w g st d v):RepV w g (cut k st) (Hi k d) v:=by
 cases d with
 |clo f l=>
  cases h with
  |clo _ _ vs E N=>
   refine .clo f _ vs (by simpa using E) λi d v hd hv=>?_;simp only[AI,D1]at hd;obtain⟨d0,h3,rfl⟩:=hd;exact yVs (N i d0 v h3 hv)
 |_=>exact yVs h
def ve(h:RepV w g st d v):RepV w g (cut k st) (Ia k d) v:=by
 cases d with
 |agg l=>
  cases h with
  |agg _ vs E N=>
   refine .agg _ vs (by simpa using E) λi d v hd hv=>?_;simp only[AI,D1]at hd;obtain⟨d0,h3,rfl⟩:=hd;exact xE (N i d0 v h3 hv)
 |tup l=>exact .junk _
 |_=>exact xE h
def yZx(k:Nat)(d:D):(Hi k d).cells=[Hi k d]:=by cases d<;>simp only[Hi,IK]<;>first|rfl|(split<;>rfl)
theorem yDh{x:D}(h:x.cells=[x])(l:List D):x≠.agg l:=by rintro rfl;have h:l=[.agg l]:=h;have:=congrArg (λl:List D=>SizeOf.sizeOf l) h;grind
def YHp(k:Nat)(h:d.cells=[d]):Ia k d=Hi k d:=by
 cases d with
 |agg l=>exact absurd rfl (yDh h l)
 |_=>rfl
def yE(k:Nat)(h:d.cells=[d]):(Ia k d).cells=[Ia k d]:=by rw[YHp k h];exact yZx k d
theorem Yij(h1:∀d v,RepV w g st d v->RepV w' g' st' (f1 d) v)(hl:l.length=mS sz)(hs:1<mS sz){kv vv:Value}
  (hk:RepV w g st (DE sz (.agg l)) kv) (hv:RepV w g st (G7 sz (.agg l)) vv):RepV w' g' st' (DE sz (.agg (l.map f1))) kv/\RepV w' g' st' (G7 sz (.agg (l.map f1))) vv:=by
 constructor
 .by_cases E:mS sz=2
  .rw[E]at hl
   match l,hl with
   |[a,b],_=>
    have e:∀x y:D,DE sz (.agg [x,y])=x:=λx y=>by simp[DE,D.mk,E]
    grind
  .have e:∀l,DE sz (.agg l)=.agg (l.take (mS sz-1)):=λl=>by simp[DE,D.mk,E]
   rw[e]at hk⊢
   cases hk with
   |agg _ vs N q2=>
    rw[<-BW];refine .agg _ vs (by simpa using N) λi d v hd hv=>?_;grind
 .have hd:∃x,l.drop (mS sz-1)=[x]:=by
   have:(l.drop (mS sz-1)).length=1:=by rw[AL];omega
   match l.drop (mS sz-1),this with
   |[x],_=>exact⟨x,rfl⟩
  obtain⟨x,hx⟩:=hd;simp only[G7,<-Cx,hx]at hv⊢
  split at hv
  .rename_i hm;rw[zae hm]
   cases hv with
   |agg _ vs N q2=>
    refine .agg _ vs (by simpa using N) λi d v hd hv=>?_
    match i,hd with
    |0,hd=>
     grind
  .grind
def lH(E:∀d:D,d.noRef1=t_->f1 d=d)(hn:(l.take (mS sz-1)).all D.noRef1=t_):DE sz (.agg (l.map f1))=DE sz (.agg l)/\((l.map f1).take (mS sz-1)).all D.noRef1=t_:=by
 have e:(l.map f1).take (mS sz-1)=l.take (mS sz-1):=by
  rw[<-BW];exact(AY λd hd=>E d (Ad.1 hn d hd)).trans (List.map_id _)
 exact⟨by simp only[DE,e],by rw[e];exact hn⟩
def yHa(k:Nat)(d:D)(h:d.noRef1=t_):Hi k d=d:=by cases d<;>first|rfl|(cases h;done)
def yGz(n:Nat)(σ:List Nat)(d:D)(h:d.noRef1=t_):E5 n σ d=d:=by cases d<;>first|rfl|(cases h;done)
theorem MapAt.mkRec{base:Nat}{b:Nat}(E:o.sz=1000003)(h:rY base w b o):MapAt base w g st b o:=by unfold MapAt;rwa [zae E]
theorem MapAt.mkOld{base:Nat}{b:Nat}(E:o.sz≠1000003)(h:MapAt0 base w g st b o):MapAt base w g st b o:=by unfold MapAt;rwa [zaf E]
theorem YKo{base:Nat}(h:SR base w g st)(k:Nat):SR base w g (cut k st):=by
 refine⟨?_,?_,?_,h.im,?_,h.size⟩
 .intro i o' hi hm;obtain⟨bf,o,ho,rfl⟩:=bk hi;have hm:o.isMap=t_:=hm;have E:o.row=f_:=yK hm;have a8:=h.mp i o ho hm
  by_cases hs:o.sz=1000003
  .obtain⟨r,n,a1,a2,a3,a4⟩:=a8.rec' hs;refine MapAt.mkRec hs ⟨r,n,a1,a2,by simp[E,a3,Ia,Hi,IK],a4⟩
  obtain⟨es,clock,h1,h2,⟨p,hp,h3,h5⟩,⟨h0,h4⟩,h7,h8⟩:=a8.old hs;refine MapAt.mkOld hs ?_;have bh:∀{i:Nat}{el:D},p[i]?=s_ el->el∈o.els:=λh=>hp.mem_iff.1 (Ak h);refine⟨es,clock,h1,h2,⟨p.map (Ia k),?_,by rw[Az];exact h3,?_⟩,⟨h0,?_⟩,?_,h8⟩
  .grind
  .intro j e el he a9;simp only[AI,D1]at a9;obtain⟨b1,af,rfl⟩:=a9;obtain⟨l,rfl,hl,_⟩:=h4 b1 (bh af);have h6:=h5 j e _ he af;exact Yij (λd v h=>xE h) hl h0 h6.1 h6.2
  .intro x hx;simp only[E,Ao,zam,AR]at hx;obtain⟨y,hy,rfl⟩:=hx;obtain⟨l,rfl,hl,hn⟩:=h4 y hy;exact⟨_,rfl,by rw[Az];exact hl,(lH (yHa k) hn).2⟩
  .have e:(o.els.map (Ia k)).map (DE o.sz)=o.els.map (DE o.sz):=by
    rw[Bf];refine AY λy hy=>?_;obtain⟨l,rfl,hl,hn⟩:=h4 y hy;exact(lH (yHa k) hn).1
   grind
 .intro i o' hi hm;obtain⟨bf,o,ho,rfl⟩:=bk hi;have hm:o.isMap=f_:=hm;obtain⟨C,e,hb,a6,bd,hx,N,ah⟩:=h.blk i o ho hm;refine⟨C,e,hb,a6,bd,?_,?_,?_⟩
  .intro x ab
   by_cases E:o.row=t_
   .grind
   .simp only[E,Ao,zam,AR]at ab;simp only[E,Ao,zam]at N;obtain⟨y,hy,rfl⟩:=ab;rw[yE k (N.2.2 y hy),N.2.1];rfl
  .by_cases E:o.row=t_
   .grind
   .simp only[E,Ao,zam]at N⊢;refine⟨by simpa using N.1,N.2.1,λx ab=>?_⟩;simp only[AR]at ab;obtain⟨y,hy,rfl⟩:=ab;exact yE k (N.2.2 y hy)
  .intro i' j d hd
   by_cases E:o.row=t_
   .simp only[E,zaj]at hd;obtain⟨h1,v,h2,h3⟩:=ah i' j d hd;exact⟨h1,v,h2,h3.pure (ImLe.refl _ _) (h1 E)⟩
   .simp only[E,Ao,zam]at hd N;obtain⟨e',he,hj⟩:=Jx hd;simp only[AI,D1]at he;obtain⟨e0,a0,rfl⟩:=he;rw[yE k (N.2.2 e0 (Ak a0))]at hj
    have b4:j=0/\d=Ia k e0:=by
     grind
    obtain⟨rfl,rfl⟩:=b4;obtain⟨_,v,h2,h3⟩:=ah i' 0 e0 (IU a0 (by rw[N.2.2 e0 (Ak a0)];rfl));exact⟨λe=>absurd e E,v,h2,ve h3⟩
 .intro k1 k2 o1 o2 h1 h2 he;obtain⟨_,p1,q1,_⟩:=bk h1;obtain⟨_,p2,q2,_⟩:=bk h2;exact h.inj _ _ _ _ q1 q2 he
 .intro k1 o1 x h1 hi;obtain⟨_,p1,q1,rfl⟩:=bk h1;have:=h.dis _ _ _ q1 hi;grind
def Hz(n:Nat)(σ:List Nat)(j:Nat):Nat:=if j<n then j else σ.getD (j-n) 0
def Gy(n:Nat)(σ:List Nat)(g:Ghost):Ghost:={β:=λj=>g.β (Hz n σ j),γ:=λj=>g.γ (Hz n σ j),Im:=g.Im}
theorem yG1:∀(σ:List Nat)(b key j:Nat),Tm σ b key=s_ j->b<=j/\σ[j-b]?=s_ key
 |[],_,_,_,h=>by cases h
 |k::r,b,key,j,h=>by
  simp only[Tm]at h
  split at h
  .grind
  .obtain⟨E,N⟩:=yG1 r (b+1) key j h;grind
def WR{n:Nat}(h:Fv n σ key=s_ j):Hz n σ j=key/\(j<n\/(n<=j/\σ[j-n]?=s_ key)):=by
 unfold Fv at h
 split at h
 .rename_i hk;cases h;exact⟨by simp[Hz,hk],.inl hk⟩
 .obtain⟨E,N⟩:=yG1 σ n key j h;exact⟨by simp[Hz,CY.2 E,Am,N],.inr ⟨E,N⟩⟩
def T2(n:Nat)(σ:List Nat)(o:Obj):(FD n σ o).els.length=o.els.length:=by simp only[FD];split<;>simp
theorem W6{n:Nat}(hn:n<=st.length)(h:Fv n σ key=s_ j)(ho:st[key]?=s_ o):(picked n σ st)[j]?=s_ (FD n σ o):=by
 obtain⟨N,E⟩:=WR h;have hl:((st.take n).map (FD n σ)).length=n:=by simp;omega
 rcases E with E|⟨E,h3⟩
 .have:j=key:=by rw[<-N];simp[Hz,E]
  subst this;rw[picked,Aw zaa];grind
 .rw[picked,AF zaa,hl];grind
theorem yZc{n:Nat}(hn:n<=st.length)(hσ:∀k∈σ,k<st.length)(h:(picked n σ st)[j]?=s_ o'):
  ∃o,st[Hz n σ j]?=s_ o/\o'=FD n σ o/\(j<n\/(n<=j/\σ[j-n]?=s_ (Hz n σ j))):=by
 have hl:((st.take n).map (FD n σ)).length=n:=by simp;omega
 rcases Bg j n with hj|hj
 .rw[picked,Aw zaa]at h;simp only[AI,BO,hj,zaj,D1]at h;obtain⟨o,E,N⟩:=h;exact⟨o,by simpa[Hz,hj]using E,N.symm,.inl hj⟩
 .rw[picked,AF zaa,hl]at h;simp only[AI,D1]at h;obtain⟨k,E,N⟩:=h;have hk:=hσ k (Ak E);have hp:Hz n σ j=k:=by simp[Hz,CY.2 hj,Am,E]
  grind
def Zr{f:Nat->D}{o:Option Nat}(h:∀j,o=s_ j->RepV w g st (f j) v):RepV w g st (KI f o) v:=by
 cases o with
 |none=>exact .junk _
 |some j=>exact h j rfl
def yU1{n:Nat}(hn:n<=st.length)(h:RepV w g st d v):RepV w (Gy n σ g) (picked n σ st) (Hy n σ d) v:=by
 have hI:ImLe w g w (Gy n σ g):=⟨λb o h=>⟨h,rfl⟩,λ_ _ h _=>h⟩
 cases h with
 |int k n=>exact .int k n
 |bool b=>exact .bool b
 |str s=>exact .str s
 |nilp=>exact .nilp
 |nilm=>exact .nilm
 |gmap es b ad clock E N h3=>exact .gmap es b ad clock E N h3
 |nilf=>exact .nilf
 |slcE sz t a cap h=>exact .slcE sz t a cap h
 |slc els t b off cap sz val E N h3 af h4 h5 h6 h7=>exact RepV.pure hI (.slc els t b off cap sz val E N h3 af h4 h5 h6 h7) rfl
 |clo f ds vs E N=>exact .junk _
 |row key tot off len o v h0 E N h3 h4=>
  refine Zr λj hj=>?_;refine .row j tot off len _ v h0 (W6 hn hj E) N (by rw[T2];exact h3) λe=>?_;have:=h4 (by rw[T2]at e;exact e);simp only[Gy,(WR hj).1];exact this
 |bsl key off m sz ag o cap E N h3 h4=>
  refine Zr λj hj=>?_;have:=RepV.bsl (w:=w) (g:=Gy n σ g) j off m sz ag _ cap (W6 (σ:=σ) hn hj E) N h3 h4;simp only[Gy,(WR hj).1]at this;exact this
 |mapv key o E N=>
  refine Zr λj hj=>?_;have:=RepV.mapv (w:=w) (g:=Gy n σ g) j _ (W6 (σ:=σ) hn hj E) N;simp only[Gy,(WR hj).1]at this;exact this
 |ptr key off o E N h3=>
  refine Zr λj hj=>?_;have:=RepV.ptr (w:=w) (g:=Gy n σ g) j off _ (W6 (σ:=σ) hn hj E) N h3;simp only[Gy,(WR hj).1]at this;exact this
 |rptr key tot i off o v h0 E N h3 h4=>
  refine Zr λj hj=>?_;refine .rptr j tot i off _ v h0 (W6 hn hj E) N (by rw[T2];exact h3) λe=>?_;have:=h4 (by rw[T2]at e;exact e);simp only[Gy,(WR hj).1];exact this
 |eptr el off b o val h0 E N=>exact RepV.eptr_any hI (.eptr el off b o val h0 E N)
 |agg ds vs E N=>exact .junk _
 |tup ds vs E N=>exact .junk _
 |junk v=>exact .junk v
def xm{n:Nat}(hn:n<=st.length)(h:RepV w g st d v):RepV w (Gy n σ g) (picked n σ st) (E5 n σ d) v:=by
 cases d with
 |clo f l=>
  cases h with
  |clo _ _ vs E N=>
   refine .clo f _ vs (by simpa using E) λi d v hd hv=>?_;simp only[AI,D1]at hd;obtain⟨d0,h3,rfl⟩:=hd;exact yU1 hn (N i d0 v h3 hv)
 |_=>exact yU1 hn h
def Yee{n:Nat}(hn:n<=st.length)(h:RepV w g st d v):RepV w (Gy n σ g) (picked n σ st) (ED n σ d) v:=by
 cases d with
 |agg l=>
  cases h with
  |agg _ vs E N=>
   refine .agg _ vs (by simpa using E) λi d v hd hv=>?_;simp only[AI,D1]at hd;obtain⟨d0,h3,rfl⟩:=hd;exact xm hn (N i d0 v h3 hv)
 |tup l=>exact .junk _
 |_=>exact xm hn h
def yYx(n:Nat)(σ:List Nat)(d:D):(E5 n σ d).cells=[E5 n σ d]:=by cases d<;>simp only[E5,Hy,KI]<;>first|rfl|(split<;>rfl)
def YGw(n:Nat)(σ:List Nat)(h:d.cells=[d]):ED n σ d=E5 n σ d:=by
 cases d with
 |agg l=>exact absurd rfl (yDh h l)
 |_=>rfl
def yX(n:Nat)(σ:List Nat)(h:d.cells=[d]):(ED n σ d).cells=[ED n σ d]:=by rw[YGw n σ h];exact yYx n σ d
theorem yLz(lo hi:Nat):∀(l acc:List Nat),(acc.Nodup/\∀k∈acc,lo<=k/\k<hi)->(FT lo hi l acc).Nodup/\∀k∈FT lo hi l acc,lo<=k/\k<hi
 |[],_,h=>h
 |k::r,acc,h=>by
  simp only[FT];refine yLz lo hi r _ ?_;grind
theorem Yez{base:Nat}(h:SR base w g st){n:Nat}(hn:n<=st.length)(hd:σ.Nodup)(hσ:∀k∈σ,n<=k/\k<st.length):SR base w (Gy n σ g) (picked n σ st):=by
 have inv:=λ{j:Nat}{o':Obj}(h:(picked n σ st)[j]?=s_ o')=>yZc hn (λk hk=>(hσ k hk).2) h;refine⟨?_,?_,?_,h.im,?_,h.size⟩
 .intro i o' hi hm;obtain⟨o,ho,rfl,be⟩:=inv hi;have hm:o.isMap=t_:=hm;have E:o.row=f_:=yK hm;have ba:=h.mp _ o ho hm
  by_cases hs:o.sz=1000003
  .obtain⟨r,n,a1,a2,a3,a4⟩:=ba.rec' hs;refine MapAt.mkRec hs ⟨r,n,a1,a2,by simp[FD,E,a3,ED,E5,Hy],a4⟩
  obtain⟨es,clock,h1,h2,⟨p,hp,h3,h5⟩,⟨h0,h4⟩,h7,h8⟩:=ba.old hs;refine MapAt.mkOld hs ?_;have b4:∀{i:Nat}{el:D},p[i]?=s_ el->el∈o.els:=λh=>hp.mem_iff.1 (Ak h);refine⟨es,clock,h1,h2,⟨p.map (ED n σ),?_,by rw[Az];exact h3,?_⟩,⟨h0,?_⟩,?_,h8⟩
  .simp only[FD,E,Ao,zam];exact hp.map _
  .intro j e el he bb;simp only[AI,D1]at bb;obtain⟨b5,ah,rfl⟩:=bb;obtain⟨l,rfl,hl,_⟩:=h4 b5 (b4 ah);have h6:=h5 j e _ he ah;exact Yij (λd v h=>xm hn h) hl h0 h6.1 h6.2
  .intro x hx;simp only[FD,E,Ao,zam,AR]at hx;obtain⟨y,hy,rfl⟩:=hx;obtain⟨l,rfl,hl,hn⟩:=h4 y hy;exact⟨_,rfl,by rw[Az];exact hl,(lH (yGz n σ) hn).2⟩
  .have e:(o.els.map (ED n σ)).map (DE o.sz)=o.els.map (DE o.sz):=by
    rw[Bf];refine AY λy hy=>?_;obtain⟨l,rfl,hl,hn⟩:=h4 y hy;exact(lH (yGz n σ) hn).1
   simp only[FD,E,Ao,zam];grind
 .intro i o' hi hm;obtain⟨o,ho,rfl,be⟩:=inv hi;have hm:o.isMap=f_:=hm;obtain⟨C,e,hb,a8,bh,hx,N,a0⟩:=h.blk _ o ho hm;refine⟨C,e,hb,a8,bh,?_,?_,?_⟩
  .intro x aa;simp only[FD]at aa⊢
   by_cases E:o.row=t_
   .grind
   .simp only[E,Ao,zam,AR]at aa;simp only[E,Ao,zam]at N;obtain⟨y,hy,rfl⟩:=aa;rw[yX n σ (N.2.2 y hy),N.2.1];rfl
  .simp only[FD]
   by_cases E:o.row=t_
   .simp only[E,zaj]at N⊢;exact N
   .simp only[E,Ao,zam]at N⊢;refine⟨by simpa using N.1,N.2.1,λx aa=>?_⟩;simp only[AR]at aa;obtain⟨y,hy,rfl⟩:=aa;exact yX n σ (N.2.2 y hy)
  .intro i' j d ac;simp only[FD]at ac⊢
   by_cases E:o.row=t_
   .simp only[E,zaj]at ac;obtain⟨h1,v,h2,h3⟩:=a0 i' j d ac;exact⟨h1,v,h2,RepV.pure (g:=g) (g':=Gy n σ g) ⟨λb o h=>⟨h,rfl⟩,λ_ _ h _=>h⟩ h3 (h1 E)⟩
   .simp only[E,Ao,zam]at ac N;obtain⟨e',he,hj⟩:=Jx ac;simp only[AI,D1]at he;obtain⟨e0,a5,rfl⟩:=he;rw[yX n σ (N.2.2 e0 (Ak a5))]at hj
    have b8:j=0/\d=ED n σ e0:=by
     grind
    obtain⟨rfl,rfl⟩:=b8;obtain⟨_,v,h2,h3⟩:=a0 i' 0 e0 (IU a5 (by rw[N.2.2 e0 (Ak a5)];rfl));exact⟨λe=>absurd e E,v,h2,Yee hn h3⟩
 .intro k1 k2 o1 o2 h1 h2 he;obtain⟨p1,q1,_,r1⟩:=inv h1;obtain⟨p2,q2,_,r2⟩:=inv h2;have e:=h.inj _ _ _ _ q1 q2 he;rcases r1 with r1|⟨r1,s1⟩<;>rcases r2 with r2|⟨r2,s2⟩
  .simpa[Hz,r1,r2]using e
  .have:=(hσ _ (Ak s2)).1;rw[<-e]at this;simp only[Hz,r1,zaj]at this;omega
  .have:=(hσ _ (Ak s1)).1;rw[e]at this;simp only[Hz,r2,zaj]at this;omega
  .rw[e]at s1;have h3:=(List.getElem?_inj (Aa.1 s1).1 hd).1 (s1.trans s2.symm);omega
 .intro k1 o1 x h1 hi;obtain⟨o,q1,rfl,_⟩:=inv h1;have:=h.dis _ _ _ q1 hi;exact⟨this.1,by rw[T2];exact this.2⟩
theorem vf{w:World}{g:Ghost}{st:St}{n:Nat}{σ:List Nat}(hn:n<=st.length){fr:Frame}{a:Act}(h:FR w g st fr a):∀(keep:List Nat),FR w (Gy n σ g) (picked n σ st) (GU (keep.map λq=>(q,ED n σ (fr q)))) a
 |[],_=>.junk _
 |q::r,s=>by
  simp only[Av,GU]
  split
  .rename_i e;subst e;exact Yee hn (h s)
  .exact vf hn h r s
theorem Evo.len(h:Evo g st g' st'):st.length<=st'.length:=by
 rcases Bg st'.length st.length with E|E
 .obtain⟨o',N,_⟩:=h st'.length st[st'.length] (Ah E);grind
 .exact E
theorem Evo.cut(h:Evo g st g' st')(hk:st.length<=k):Evo g st g' (PI.cut k st'):=by intro i o hi;obtain⟨o',E,N,h3,h4,h5,h6⟩:=h i o hi;have:i<st.length:=(Aa.1 hi).1;exact⟨_,V9 E zaa,N,h3,by simpa[p9]using h4,λe=>h5 (by simpa[p9]using e),h6⟩
theorem Go1.cut(h:Go1 base w g st w' g' st')(hk:st.length<=k):Go1 base w g st w' g' (PI.cut k st'):=
 ⟨YKo h.sr k,h.evo.cut hk,h.im,h.new,h.below,h.kp⟩
theorem Go1.picked(h:Go1 base w g st w' g' st'){n:Nat}(hk:st.length<=n)(hn:n<=st'.length)(hd:σ.Nodup)(N:∀k∈σ,n<=k/\k<st'.length):Go1 base w g st w' (Gy n σ g') (PI.picked n σ st'):=by
 refine⟨Yez h.sr hn hd N,?_,⟨h.im.im,h.im.kp⟩,h.new,h.below,h.kp⟩;intro i o hi;obtain⟨o',h1,h2,h3,h4,h5,h6⟩:=h.evo i o hi;have ah:i<st.length:=(Aa.1 hi).1;have E:Hz n σ i=i:=by simp[Hz,show i<n by omega]
 refine⟨_,W6 (key:=i) (j:=i) hn (by simp[Fv,show i<n by omega]) h1,h2,h3,by rw[T2];exact h4,λe=>?_,λe=>?_⟩
 .simp only[Gy,E];exact h5 (by rw[T2]at e;exact e)
 .simp only[Gy,E];exact h6 e
theorem R.restrict{s:PS}{a:Act}{w:World}(h:R G base n w0 g0 st0 dl s a w)(keep:List Nat)(k:Nat)(hk:st0.length<=k):R G base n w0 g0 st0 dl (restrict keep k s) a w:=by
 obtain⟨g,h⟩:=h;unfold PI.restrict;generalize hm:(if k<=s.st.length then k else s.st.length)=m;have E:m<=s.st.length:=by rw[<-hm];split<;>omega
 have aa:st0.length<=m:=by
  have:=h.go1.evo.len;grind
 generalize hl:FT m s.st.length (aE keep m s) []=σ;have N:=yLz m s.st.length (aE keep m s) [] ⟨List.nodup_nil,λ_ h=>by cases h⟩;rw[hl]at N;exact⟨Gy m σ g,h.go1.picked aa E N.1 N.2,vf E h.fr keep,h.gl.mono ⟨λb o h=>⟨h,rfl⟩,λ_ _ h _=>h⟩,h.df,h.sz⟩
theorem yN1{w:World}{g:Ghost}{st:St}{fr:Frame}{a:Act}(h:FR w g st fr a):∀(keep:List Nat),FR w g st (GU (keep.map λq=>(q,fr q))) a
 |[],_=>.junk _
 |q::r,s=>by
  simp only[Av,GU]
  split
  .rename_i e;subst e;exact h s
  .exact yN1 h r s
theorem R.keepAll{s:PS}(h:R G base n w0 g0 st0 dl s a w)(keep:List Nat):R G base n w0 g0 st0 dl (PI.keepAll keep s) a w:=by obtain⟨g,h⟩:=h;exact⟨g,h.go1,yN1 h.fr keep,h.gl,h.df,h.sz⟩
theorem R.restrictAt{s:PS}{a:Act}{w:World}(h:R G base n w0 g0 st0 dl s a w)(keep:List Nat)(m:Nat)(σ:List Nat)(E:m<=s.st.length)(N:st0.length<=m)(hd:σ.Nodup)(hσ:∀k∈σ,m<=k/\k<s.st.length):R G base n w0 g0 st0 dl (restrictAt keep m σ s) a w:=by obtain⟨g,h⟩:=h;exact⟨Gy m σ g,h.go1.picked N E hd hσ,vf E h.fr keep,h.gl.mono ⟨λb o h=>⟨h,rfl⟩,λ_ _ h _=>h⟩,h.df,h.sz⟩
theorem Yce{l:List PI}{bad:Option (Nat×Nat)}{E:List Nat}(aa:Qr ops.size E=t_){F:List (Option Foot)}(hF:F.length=E.length)
  (hp:∀(p q i j:Nat),q<p->E[p]?=s_ i->E[q]?=s_ j->((Fb ops.toList []).getD i 0).testBit j=f_->bad≠s_ (j,i)->Lb (l.getD j d_,F.getD q n_) (l.getD i d_,F.getD p n_)):
  TI (Fb ops.toList []) l ops.size bad (E.zip F)/\(∀z∈E.zip F,z.1<ops.size)/\(∀(listed:Array Bool),(∀i,i<ops.size->listed.getD i t_=f_)->Ix l (G1 listed (E.zip F))=(E.map λk=>l.getD k d_).zip F):=by
 simp only[Qr,Af,zao,Ad,AP]at aa;obtain⟨h1,h2⟩:=aa;have ac:∀x∈C9 ops.size,x∈E:=λx hx=>by simpa using h2 x (AP.1 hx)
 have N:E.Perm (C9 ops.size):=(Ye6 _ _ CS ac (by rw[CN];omega)).symm;have ad:E.Nodup:=N.nodup_iff.2 CS;have ae:∀k∈E,k<ops.size:=λk hk=>AP.1 (N.mem_iff.1 hk)
 have ab:(E.zip F).map (·.1)=E:=by
  rw[List.map_fst_zip zaa]
 refine⟨⟨by rw[ab];exact ad,?_,?_⟩,?_,?_⟩
 .grind
 .rw[List.pairwise_iff_getElem];grind
 .intro z hz;exact ae z.1 (by rw[<-ab];exact List.mem_map_of_mem hz)
 .intro listed hu
  have:G1 listed (E.zip F)=E.zip F:=by
   simp only[G1,B2];grind
  rw[this,Ix];apply A2;grind
def K5:Ex->Exit
 |.next=>.normal
 |.exit id=>.exit id
 |.ret=>.ret
 |.panic t d=>.panic (MJ t d)
theorem Ygc(hT:TblOK P G T)(hY:YOK P G T.y base w0 g0 st0){id:Nat}{b4:Bool}{h:List (List Nat)}{r:PC×List (List Nat)}(N:GK P il n h (.region id ops b4)=s_ r){fuel:Nat}{s s':PS}{e:Ex}(E:r.1.exec G T fuel s=s_ (e,s'))
    (hR:R G base n w0 g0 st0 dl s a w)  (hQ:∀a' w',R G base n w0 g0 st0 dl s' a' w'->Q (K5 e) a' w'):(ybx id ops b4).wpIn (Wr ro) 0 P Q a w:=by
 have cf:∀l',r.1=.ops l'->e=.next/\Fq G T l' s=s_ s':=by
  intro l' h1;rw[h1]at E;simp only[yaX]at E;grind
 unfold GK at N
 cases b4 with
 |false=>
  simp only[Ao,zam]at N
  split at N
  .rename_i pre d1 t xo hp;obtain⟨o1,o2,hl,h1,h3,h2,d5,d6,d7,u,hu,d8⟩:=yYa hp
   split at N
   case h_2=>
    cases N;simp[yaX]at E
   rename_i l x cg a0;cases N;simp only[yaX]at E
   split at E
   case h_2=>cases E
   rename_i s1 aa
   split at E
   case isFalse=>cases E
   rename_i hi;cases E;refine wpIn_region_list ?_;rw[hl];exact Un hT hY _ _ _ _ _ _ cg aa hR λa' w' bg=>Yyd bg h1 h3 h2 d5 d6 d7 hu d8 a0 hi (λd9 d0=>hQ d9 w' d0)
  .simp only[D1]at N;obtain⟨l,hl,rfl⟩:=N
   by_cases a6:l.any (Yj il)=t_
   .simp only[a6,zaj,yaX]at E
    split at E
    .rename_i s1 aa;cases E;exact wpIn_region_list (yA hT hY _ _ _ _ _ _ hl aa hR hQ)
    .simp only[D1,D4]at E;obtain⟨⟨t,d,s2⟩,E,rfl,rfl⟩:=E;exact wpIn_region_list (yB hT hY _ _ _ _ _ _ hl E hR hQ)
   .obtain⟨rfl,hs⟩:=cf l (by simp only[a6,zam,Ao]);exact wpIn_region_list (yA hT hY _ _ _ _ _ _ hl hs hR hQ)
 |true=>
  simp only[zaj]at N
  split at N
  case h_2=>cases N
  rename_i l hl;have hlen:=(WD hl).1;have cg:l.length=ops.size:=by simpa using hlen
  have hu:∀i,i<ops.size->(Dc ops.size f_).getD i t_=f_:=by
   simp_all
  have h0:(H9 ops.size (Dc ops.size f_)).length<=ops.size:=by
   unfold H9;grind
  have dg:OF ops.toList (Dc ops.size f_):=by
   intro i o _ hi;grind
  have bh:Qr ops.size (C9 ops.size)=t_:=by simp[Qr]
  have m0:(C9 ops.size).map (λk=>l.getD k d_)=l:=by
   apply A2;grind
  have bc:∀(F:List (Option Foot)),F.length=l.length->Ip G T (l.zip F) s s'->e=.next->P.follows .mixedOrders=t_->NL ops.toList=t_->
    (∀(i j:Nat)(x y:PI),l[j]?=s_ x->l[i]?=s_ y->j<i->((Fb ops.toList []).getD i 0).testBit j=f_->Lb (x,F.getD j n_) (y,F.getD i n_))->(ybx id ops t_).wpIn (Wr ro) 0 P Q a w:=by
   intro F hF hs he d2 d3 hp;subst he
   obtain⟨k1,k2,k3⟩:=Yce (l:=l) (bad:=n_) bh (F:=F) (by simp[hF,cg]) (λp q i j m1 hi hj hm _=>by
    have m2:=(Aa.1 hi).1;grind)
   refine wpIn_region_any d2 (Ysv hT hY hl d3 k1 k2 hQ ops.size _ s a _ zac h0 dg ?_ hR.drew);grind
  split at N
  case isFalse=>
   cases N;simp[yaX]at E
  rename_i hc;simp only[Af]at hc
  have hh:∀(x y:Nat)(keep:List Nat)(q1 q2:List (PI×Bool×List Nat)),QK (Fb ops.toList []) l (s_ (x,y)) (C9 ops.size)=s_ q1->QK (Fb ops.toList []) l (s_ (y,x)) (N0 (Fb ops.toList []) ops.size x y)=s_ q2->
    Qr ops.size (N0 (Fb ops.toList []) ops.size x y)=t_->x≠y->(∀k,k=x\/k=y->k<ops.size)->yaX G T fuel (.any2 keep q1 q2) s=s_ (e,s')->(ybx id ops t_).wpIn (Wr ro) 0 P Q a w:=by
   intro x y keep q1 q2 ch c0 ae c1 ca hz;simp only[yaX]at hz
   split at hz
   case h_2=>cases hz
   rename_i s1 s2 aa cb;simp only[D1,D4]at hz;obtain⟨s3,hz,rfl,rfl⟩:=hz;unfold sV at hz
   split at hz
   case isFalse=>cases hz
   rename_i da;obtain⟨m3,m4,heq⟩:=da;cases hz
   have hk:st0.length<=s.st.length:=by
    obtain⟨g,hg⟩:=hR;exact hg.go1.evo.len
   have alt:∀(bad:Nat×Nat)(ord:List Nat)(q:List (PI×Bool×List Nat))(sq:PS),Qr ops.size ord=t_->QK (Fb ops.toList []) l (s_ bad) ord=s_ q->GB G T q [] s=s_ sq->
     ∃Z,TI (Fb ops.toList []) l ops.size (s_ bad) Z/\(∀z∈Z,z.1<ops.size)/\Ip G T (Ix l (G1 (Dc ops.size f_) Z)) s sq:=by
    intro bad ord q sq ho hq h4;obtain⟨p1,p2,p3⟩:=yTm hq;obtain⟨F,hF,hr,a8⟩:=ZA q [] s sq h4
    obtain⟨k1,k2,k3⟩:=Yce (l:=l) (bad:=s_ bad) ho (F:=F) (by rw[hF,p1]) (λp r i j m5 hi hj hm hb=>by
     obtain⟨b,e1,e2⟩:=p3 p i hi;have c3:ord.getD r 0=j:=by simp[Am,hj]
     by_cases ab:(l.getD j d_).apart (l.getD i d_)=t_
     .exact⟨SY ab,.inl ab⟩
     .have b7:r∈Te (Fb ops.toList []) l (s_ bad) ord p i:=by
       simp only[Te,AV,AP,c3,hm,A0,Bm,Af,AN,beq_eq_false_iff_ne];grind
      obtain⟨f,g,a1,a2,h5,a3⟩:=a8 p _ e1 r b7
      have a4:F[r]?=s_ (s_ f)/\((l.getD (ord.getD r 0) d_).op.isCall=t_->Na f=t_):=by
       grind
      have bh:=e2 r b7;rw[c3]at bh;refine⟨bh,.inr ⟨f,g,?_,?_,oL a2 (by rw[<-c3];exact a4.2) h5⟩⟩
      .grind
      .grind)
    grind
   obtain⟨Z1,z1,h6,r1⟩:=alt (x,y) _ q1 s1 bh ch aa;obtain⟨Z2,z2,h7,r2⟩:=alt (y,x) _ q2 s2 ae c0 cb;refine wpIn_region_any hc.1 (Ysu hT hY hl hc.2 c1 (ca x (.inl rfl)) z1 z2 h6 h7 (sf1:=s1) (sf2:=s2) ?_ ?_ ops.size _ s a _ zac h0 dg (hu x (ca x (.inl rfl))) (hu y (ca y (.inr rfl))) r1 r2 hR.drew)
   .intro a' w' bg;exact hQ a' w' (bg.restrictAt keep s.st.length [s.st.length,s.st.length+1] zaa hk zac (by simp;omega))
   .intro a' w' bg;rw[<-heq]at hQ;exact hQ a' w' (bg.restrictAt keep s.st.length [s.st.length+1,s.st.length] zaa hk zac (by simp;omega))
  split at N
  .rename_i ab;cases N
   by_cases a6:(l.any (Yj il)&&Ps (Fb ops.toList []) l)=t_
   .simp only[a6,zaj,yaX]at E;simp only[Af]at a6
    split at E
    .rename_i s1 aa;simp only[Dv,D4]at E;obtain⟨rfl,rfl⟩:=E;obtain⟨F,hF,hr⟩:=mU l s s1 aa;refine bc F hF hr rfl hc.1 hc.2 λi j x y E hy ba hm=>?_;have h1:=uv ab E hy ba hm;exact⟨SY h1,.inl h1⟩
    .simp only[D1,D4]at E;obtain⟨⟨t,d,s2⟩,E,rfl,rfl⟩:=E;exact wpIn_region_any hc.1 (Yst hT hY hl hc.2 ab a6.2 E hQ _ a _ zac hu hR.drew)
   obtain⟨rfl,hs⟩:=cf l (by simp only[a6,zam,Ao]);obtain⟨F,hF,hr⟩:=mU l s s' hs;refine bc F hF hr rfl hc.1 hc.2 λi j x y E hy ba hm=>?_;have h1:=uv ab E hy ba hm;exact⟨SY h1,.inl h1⟩
  .split at N
   .rename_i x y bd
    split at N
    case h_2=>
     cases N;simp[yaX]at E
    rename_i keep h' q1 q2 ch c0
    split at N
    case isFalse=>
     cases N;simp[yaX]at E
    rename_i ae;simp only[Af,zbh,zbg]at ae;obtain⟨ae,c1⟩:=ae;cases N
    have ca:∀k,k=x\/k=y->k<ops.size:=by
     intro k hk;simp only[Yk3]at bd
     split at bd
     .rename_i p hp;cases bd;have b7:(x,y)∈l.zipIdx.flatMap λyi=>((l.take yi.2).zipIdx.filter λxj=>xj.1.op.push&&yi.1.op.push&&!(((Fb ops.toList []).getD yi.2 0).testBit xj.2)).map λxj=>(xj.2,yi.2):=by rw[hp];simp
      grind
     .cases bd
    grind
   split at N
   case h_2=>
    cases N;simp[yaX]at E
   rename_i q hq
   have df:yaX G T fuel (.any q) s=s_ (e,s')->(ybx id ops t_).wpIn (Wr ro) 0 P Q a w:=by
    intro hz;simp only[yaX]at hz
    split at hz
    case h_2=>cases hz
    rename_i s1 aa;simp only[Dv,D4]at hz;obtain⟨rfl,rfl⟩:=hz;obtain⟨q1,q2,q3⟩:=lB hq;obtain⟨F,hF,hr,a8⟩:=ZA q [] s s1 aa;rw[q2]at hr;refine bc F (by rw[hF,q1]) hr rfl hc.1 hc.2 λi j x y E hy ba hm=>?_;obtain⟨b,h1,h2⟩:=q3 i y hy;have b1:l.getD j d_=x:=by simp[Am,E]
    by_cases ab:x.apart y=t_
    .exact⟨SY ab,.inl ab⟩
    .have hj:j∈H4 (Fb ops.toList []) l i y:=by
      simp only[H4,AV,AP,hm,b1,A0,Bm];grind
     obtain⟨f,g,e1,e2,c5,e3⟩:=a8 i _ h1 j hj
     have e4:F[j]?=s_ (s_ f)/\(x.op.isCall=t_->Na f=t_):=by
      rcases e3 with e3|⟨_,e3,e5⟩
      .simp at e3
      .obtain⟨b',e6,_⟩:=q3 j x E;simp_all
     refine⟨by rw[<-b1];exact h2 j hj,.inr ⟨f,g,?_,?_,oL e2 e4.2 c5⟩⟩
     .grind
     .grind
   have c6:yaX G T fuel (.anyK q) s=s_ (e,s')->(ybx id ops t_).wpIn (Wr ro) 0 P Q a w:=by
    intro hz;simp only[yaX]at hz
    split at hz
    case h_2=>cases hz
    rename_i s1 aa;simp only[Dv,D4]at hz;obtain⟨rfl,rfl⟩:=hz;obtain⟨q1,q2,q3⟩:=lB hq;obtain⟨F,hF,hr,a8⟩:=yzy q [] s s1 aa;rw[q2]at hr;refine bc F (by rw[hF,q1]) hr rfl hc.1 hc.2 λi j x y E hy ba hm=>?_;obtain⟨b,h1,h2⟩:=q3 i y hy;have b1:l.getD j d_=x:=by simp[Am,E]
    by_cases ab:x.apart y=t_
    .exact⟨SY ab,.inl ab⟩
    .have hj:j∈H4 (Fb ops.toList []) l i y:=by
      simp only[H4,AV,AP,hm,b1,A0,Bm];grind
     obtain⟨x',f,g,e1,e2,e3⟩:=a8 i _ h1 j hj;obtain⟨b',e6,_⟩:=q3 j x E
     have e4:F[j]?=s_ (s_ f)/\x'=x:=by
      simp_all
     obtain⟨e4,rfl⟩:=e4;refine⟨by rw[<-b1];exact h2 j hj,.inr ⟨f,g,?_,?_,e2⟩⟩
     .grind
     .grind
   split at N
   .rename_i m6
    split at N
    case h_2=>
     cases N;simp[yaX]at E
    rename_i keep h';cases N
    have kg:∀(ps:List (Nat×Nat)),yaX G T fuel (M4 keep (Fb ops.toList []) l ops.size ps) s=s_ (e,s')->(ybx id ops t_).wpIn (Wr ro) 0 P Q a w:=by
     intro ps
     induction ps with
     |nil=>intro E;simp[M4,yaX]at E
     |cons p ps ih=>
      obtain⟨x,y⟩:=p;intro E;unfold M4 at E
      split at E
      .rename_i q1 q2 ch c0
       split at E
       .rename_i ae;simp only[Af,zbh,zbg,zan]at ae;obtain⟨⟨⟨ae,c1⟩,m7⟩,m8⟩:=ae;rw[yaX]at E;grind
       .exact ih E
      .exact ih E
    rw[yaX]at E;grind
   split at N
   .rename_i dh;simp only[Af]at dh;cases N;obtain⟨h9,o1,o2⟩:=yZl dh.2;generalize aC il l=i0 at*;unfold jJ at E;rw[yaX]at E
    split at E
    .rename_i r1 b2;rw[E]at b2
     cases hK:YAz il q with
     |true=>simp only[hK,zaj]at b2;exact c6 b2
     |false=>simp only[hK,zam,Ao]at b2;exact df b2
    .simp only[yaX]at E
     cases aa:GB G T (q.take i0) [] s with
     |none=>simp[aa]at E
     |some s1=>
      simp only[aa]at E;obtain⟨sj,cc,hj⟩:=yN2 (G:=G) (T:=T) (Tj (Fb ops.toList []) l i0) s1
      have a0:(match yaX G T fuel (.opsX [l.getD i0 d_]) sj with
        |some (.next,_)=>n_
        |some (e,s')=>s_ (e,s')
        |none=>n_)=s_ (e,s'):=by
       generalize Tj (Fb ops.toList []) l i0=ts at E cc
       cases ts with
       |nil=>
        simp only[Bc,Fq,Dv]at cc;subst cc;exact E
       |cons t ts=>
        simp only[eJ,yaX,cc]at E;exact E
      simp only[yaX,Fq,Lm]at a0
      cases cb:(l.getD i0 d_).exec G T sj with
      |some s2=>simp only[cb,reduceCtorEq]at a0
      |none=>
       simp only[cb]at a0
       cases c7:(l.getD i0 d_).execX G T sj with
       |none=>simp only[c7,Option.map_none,reduceCtorEq]at a0
       |some r3=>
        obtain⟨t,d,s3⟩:=r3;simp only[c7,Ae,Dv,D4]at a0;obtain⟨rfl,rfl⟩:=a0;obtain⟨q1,q2,q3⟩:=lB hq;obtain⟨F,hF,hr,a8⟩:=ZA _ [] s s1 aa;have kc:F.length=i0:=by rw[hF,AJ];omega
        have kd:(q.take i0).map (·.1)=l.take i0:=by rw[BW,q2]
        rw[kd]at hr;refine wpIn_region_any hc.1 (yPs hT hY hl hc.2 h9 o1 o2 kc (λi j ba hi hm=>?_) hr hj c7 hQ _ a _ zac hu hR.drew);have ke:l[i]?=s_ (l.getD i d_):=by simp[Am,show i<l.length by omega]
        obtain⟨b,h1,h2⟩:=q3 i _ ke
        by_cases ab:(l.getD j d_).apart (l.getD i d_)=t_
        .exact⟨SY ab,.inl ab⟩
        .have hj:j∈H4 (Fb ops.toList []) l i (l.getD i d_):=by
          simp only[H4,AV,AP,hm,A0,Bm];grind
         have kf:(q.take i0)[i]?=s_ (l.getD i d_,b,H4 (Fb ops.toList []) l i (l.getD i d_)):=by
          grind
         obtain⟨f,g,e1,e2,c5,e3⟩:=a8 i _ kf j hj
         have e4:F[j]?=s_ (s_ f)/\((l.getD j d_).op.isCall=t_->Na f=t_):=by
          grind
         refine⟨h2 j hj,.inr ⟨f,g,?_,?_,oL e2 e4.2 c5⟩⟩
         .grind
         .grind
   .grind
theorem yMw{n:Int}(h:recAt st k=s_ n):∃o,st[k]?=s_ o/\o.row=f_/\o.sz=1000003/\o.els=[.int .i64 n]:=by unfold recAt at h;grind
theorem SR.recAt{base:Nat}(h:SR base w g st)(N:st[k]?=s_ o)(h1:o.row=f_)(E:o.sz=1000003):rY base w (g.β k) o:=
 (h.mp k o N (by simp[Obj.isMap,h1,E])).rec' E
theorem Go1.recO{base:Nat}(h:Go1 base w g st w' g' st')(E:st[k]?=s_ o)(N:o.row=f_)(h2:o.sz=1000003):
  g'.β k=g.β k/\∃o',st'[k]?=s_ o'/\o'.row=f_/\o'.sz=1000003:=by obtain⟨o',e1,e2,e3,_,_,e6⟩:=h.evo k o E;grind
def Ycb{l:Nat}{x:Go.Obj}:Beside w (w.putObj l x):=⟨rfl,rfl,rfl,by rw[World.putObj_size];exact Au _⟩
theorem Go1.putRec{base:Nat}(h:SR base w g st){l:Nat}{r:Loop}{n:Int}{s:_}{p:Option Code}(hk:st[k]?=s_ o)(E:o.row=f_)(N:o.sz=1000003)
  (hl:g.β k=l) (hr:w.heap[l]?=s_ (.loop r)) (h0:n=0->s=.ready/\p=n_) (h1:n=1->s=.done/\p=s_ .ret):
  Go1 base w g st (w.putObj l (.loop {r with state:=s,pending:=p})) g (st.set k (PI.recO n)):=by subst hl;exact h.updRec (s:=s) (p:=p) hk E N Ycb (λb hb=>ybv hb) hr (World.putObj_heap_same (AO.1 hr).1) h0 h1
def Xb{P:Program}{k:List Item}:step P (lone (b.atR a (.code (.scope c)::k)) cs w)=.next (lone (b.atR a (.code c::.inScope c::k)) cs w):=
 step_lone_go (by simp[stepG,stepG.exec,Frame.atR])
def yIt{P:Program}{k:List Item}:step P (lone (b.atR a (.inScope c::k)) cs w)=.next (lone (b.atR a k) cs w):=
 step_lone_go (by simp[stepG,stepG.exec,Frame.atR])
def zN(Q:Exit->Act->World->Prop):Exit->Act->World->Prop
 |.goto _,_,_=>False
 |e,a,w=>Q e a w
def yX1{F:Fence}{n:Nat}{P:Program}(h:c.wpIn F n P (zN Q) a w):(Code.scope c).wpIn F n P Q a w:=by
 intro b k cs ae hb hr;have N:(lone (b.atR a (.code (.scope c)::k)) cs w).fenced P F:=fenced_calm hb hr rfl;obtain⟨e,a₁,w₁,hq,E⟩:=h b (.inScope c::k) cs ae hb hr
 cases e with
 |normal=>exact⟨.normal,a₁,w₁,hq,.head N Xb (StepsIn.trans E (.one (fenced_calm hb hr rfl) yIt))⟩
 |exit id=>
  have hx:exitTo id (.inScope c::k)=exitTo id k:=by simp[exitTo]
  exact⟨.exit id,a₁,w₁,hq,λk' hk=>.head N Xb (E.1 k' (by rw[hx];exact hk)),
   λah hk=>let⟨k₁,h1,h2⟩:=E.2 ah (by rw[hx];exact hk);⟨k₁,h1,.head N Xb h2⟩⟩
 |goto l=>exact hq.elim
 |ret=>exact⟨_,a₁,w₁,hq,.of_steps (.one N Xb) E⟩
 |panic ch=>exact⟨_,a₁,w₁,hq,.of_steps (.one N Xb) E⟩
 |outgrown=>exact⟨_,a₁,w₁,hq,.of_steps (.one N Xb) E⟩
theorem Mx(hT:TblOK P G T):∀(c:Code)(ro:Option Nat)(_:ro=n_\/Ks c=t_)(w0:World)(g0:Ghost)(st0:St)(dl:List Deferred)(_:YOK P G T.y base w0 g0 st0)(_:base<=w0.heap.size)(h:List (List Nat))(r:PC×List (List Nat)),GK P il n h c=s_ r->∀(fuel:Nat)(s s':PS)(e:Ex),r.1.exec G T fuel s=s_ (e,s')->
  ∀(a:Act)(w:World)(Q:Exit->Act->World->Prop),R G base n w0 g0 st0 dl s a w->(∀a' w',R G base n w0 g0 st0 dl s' a' w'->Q (K5 e) a' w')->c.wpIn (Wr ro) 0 P Q a w:=by
 intro c
 induction c with
 |skip=>
  intro ro hro w0 g0 st0 dl hY hb0 h r ht fuel s s' e hx a w Q hR hQ;simp only[GK,Dv]at ht;subst ht;simp only[yaX,Dv,D4]at hx;obtain⟨rfl,rfl⟩:=hx;exact wpIn_skip (hQ a w hR)
 |exit id=>
  intro ro hro w0 g0 st0 dl hY hb0 h r ht fuel s s' e hx a w Q hR hQ;simp only[GK,Dv]at ht;subst ht;simp only[yaX,Dv,D4]at hx;obtain⟨rfl,rfl⟩:=hx;exact wpIn_exit (hQ a w hR)
 |ret=>
  intro ro hro w0 g0 st0 dl hY hb0 h r ht fuel s s' e hx a w Q hR hQ;simp only[GK,Dv]at ht;subst ht;simp only[yaX,Dv,D4]at hx;obtain⟨rfl,rfl⟩:=hx;exact wpIn_ret (hQ a w hR)
 |region id ops draw=>
  intro ro hro w0 g0 st0 dl hY hb0 h r ht fuel s s' e hx a w Q hR hQ;exact Ygc hT hY ht hx hR hQ
 |seq x y ihx ihy=>
  intro ro hro w0 g0 st0 dl hY hb0 h r ht fuel s s' e hx a w Q hR hQ;unfold GK at ht
  split at ht
  case h_2=>cases ht
  rename_i px h1 hx1
  split at ht
  case h_2=>cases ht
  rename_i py h2 hy1;simp only[Dv]at ht;subst ht;simp only[yaX]at hx;refine wpIn_seq ?_
  split at hx
  .rename_i s1 hs1;exact ihx ro (hro.imp (λh=>h) λh=>by simp only[Ks,Af]at h;exact h.1) w0 g0 st0 dl hY hb0 _ _ hx1 fuel s s1 .next hs1 a w _ hR λa' w' hR'=>ihy ro (hro.imp (λh=>h) λh=>by simp only[Ks,Af]at h;exact h.2) w0 g0 st0 dl hY hb0 _ _ hy1 fuel s1 s' e hx a' w' Q hR' hQ
  .rename_i e1 s1 hne hs1;simp only[Dv,D4]at hx;obtain⟨rfl,rfl⟩:=hx;refine ihx ro (hro.imp (λh=>h) λh=>by simp only[Ks,Af]at h;exact h.1) w0 g0 st0 dl hY hb0 _ _ hx1 fuel s _ _ hs1 a w _ hR λa' w' hR'=>?_
   cases e1 with
   |next=>exact(hne rfl).elim
   |exit id=>exact hQ a' w' hR'
   |ret=>exact hQ a' w' hR'
   |panic t d=>exact hQ a' w' hR'
  .cases hx
 |cond c x y ihx ihy=>
  intro ro hro w0 g0 st0 dl hY hb0 h r ht fuel s s' e hx a w Q hR hQ;unfold GK at ht
  split at ht
  case h_2=>cases ht
  rename_i pa hpa
  split at ht
  case h_2=>cases ht
  rename_i px h1 hx1
  split at ht
  case h_2=>cases ht
  rename_i py h2 hy1;simp only[Dv]at ht;subst ht;simp only[yaX]at hx;obtain⟨g,hg⟩:=id hR;have hc:=Ha (G:=G) hg.gl hg.fr hpa
  split at hx
  .rename_i hb;rw[hb]at hc;exact wpIn_cond_true (Ok hc) (ihx ro (hro.imp (λh=>h) λh=>by simp only[Ks,Af]at h;exact h.1) w0 g0 st0 dl hY hb0 _ _ hx1 fuel s s' e hx a w Q hR hQ)
  .rename_i hb;rw[hb]at hc;exact wpIn_cond_false (Ok hc) (ihy ro (hro.imp (λh=>h) λh=>by simp only[Ks,Af]at h;exact h.2) w0 g0 st0 dl hY hb0 _ _ hy1 fuel s s' e hx a w Q hR hQ)
  .cases hx
 |block id c ih=>
  intro ro hro w0 g0 st0 dl hY hb0 h r ht fuel s s' e hx a w Q hR hQ;unfold GK at ht
  split at ht
  case h_2=>cases ht
  rename_i px h1 hx1;simp only[Dv]at ht;subst ht;simp only[yaX]at hx;refine wpIn_block ?_
  split at hx
  .rename_i id' s1 hs1;refine ih ro (hro.imp (λh=>h) λh=>by simpa only[Ks]using h) w0 g0 st0 dl hY hb0 _ _ hx1 fuel s s1 _ hs1 a w _ hR λa' w' hR'=>?_
   split at hx
   .rename_i he;simp only[Dv,D4]at hx;obtain⟨rfl,rfl⟩:=hx;simpa[K5,Exit.inBlock,he]using hQ a' w' hR'
   .rename_i he;simp only[Dv,D4]at hx;obtain⟨rfl,rfl⟩:=hx;simpa[K5,Exit.inBlock,he]using hQ a' w' hR'
  .rename_i e1 s1 hne hs1;simp only[Dv,D4]at hx;obtain⟨rfl,rfl⟩:=hx;refine ih ro (hro.imp (λh=>h) λh=>by simpa only[Ks]using h) w0 g0 st0 dl hY hb0 _ _ hx1 fuel s _ _ hs1 a w _ hR λa' w' hR'=>?_
   cases e1 with
   |next=>exact hQ a' w' hR'
   |exit id=>exact(hne _ rfl).elim
   |ret=>exact hQ a' w' hR'
   |panic t d=>exact hQ a' w' hR'
  .cases hx
 |loop c ih=>
  intro ro hro w0 g0 st0 dl hY hb0 h r ht fuel s s' e hx a w Q hR hQ;unfold GK at ht
  split at ht
  case h_2=>cases ht
  rename_i keep h'
  split at ht
  case h_2=>cases ht
  rename_i px h1 hx1;simp only[Dv]at ht;subst ht
  have hk:st0.length<=s.st.length:=by
   obtain⟨g,hg⟩:=hR;exact hg.go1.evo.len
  obtain⟨cut,hcut,hx⟩:∃cut:PS->PS,(∀s a w,R G base n w0 g0 st0 dl s a w->R G base n w0 g0 st0 dl (cut s) a w)/\LA (px.exec G T fuel) cut fuel s=s_ (e,s'):=by
   split at hx
   .exact⟨keepAll keep.tail,λ_ _ _ h=>h.keepAll _,by simpa only[yaX]using hx⟩
   .exact⟨PI.restrict keep s.st.length,λ_ _ _ h=>h.restrict _ _ hk,by simpa only[yaX]using hx⟩
  refine wpIn_loop_ghost (λm a w=>∃s1,LA (px.exec G T fuel) (cut) m s1=s_ (e,s')/\R G base n w0 g0 st0 dl s1 a w) fuel ⟨s,hx,hR⟩ ?_;rintro m a w ⟨s1,hl,hR1⟩
  cases m with
  |zero=>simp[LA]at hl
  |succ m=>
   simp only[LA]at hl
   split at hl
   .rename_i s2 hs2;exact ih ro (hro.imp (λh=>h) λh=>by simpa only[Ks]using h) w0 g0 st0 dl hY hb0 _ _ hx1 fuel _ s2 .next hs2 a w _ (hcut _ _ _ hR1) λa' w' hR'=>⟨m,B0 m,s2,hl,hR'⟩
   .rename_i e1 s2 hne hs2;simp only[Dv,D4]at hl;obtain⟨rfl,rfl⟩:=hl;refine ih ro (hro.imp (λh=>h) λh=>by simpa only[Ks]using h) w0 g0 st0 dl hY hb0 _ _ hx1 fuel _ _ _ hs2 a w _ (hcut _ _ _ hR1) λa' w' hR'=>?_
    cases e1 with
    |next=>exact(hne rfl).elim
    |exit id=>exact hQ a' w' hR'
    |ret=>exact hQ a' w' hR'
    |panic t d=>exact hQ a' w' hR'
   .cases hl
 |scope c ih=>
  intro ro hro w0 g0 st0 dl hY hb0 h r ht fuel s s' e hx a w Q hR hQ;simp only[GK]at ht;refine yX1 (ih ro (hro.imp (λh=>h) λh=>by simpa only[Ks]using h) w0 g0 st0 dl hY hb0 h r ht fuel s s' e hx a w _ hR λa' w' hR'=>?_)
  cases e with
  |next=>exact hQ a' w' hR'
  |exit id=>exact hQ a' w' hR'
  |ret=>exact hQ a' w' hR'
  |panic t d=>exact hQ a' w' hR'
 |label l=>
  intro ro hro w0 g0 st0 dl hY hb0 h r ht fuel s s' e hx a w Q hR hQ;simp only[GK,Dv]at ht;subst ht;simp only[yaX,Dv,D4]at hx;obtain⟨rfl,rfl⟩:=hx;exact wpIn_label (hQ a w hR)
 |rangeFunc gf ps asg body iha ihb=>
  intro ro hro w0 g0 st0 dl hY hb0 h r ht fuel s s' e hx a w Q hR hQ;unfold GK at ht
  split at ht
  case h_2=>cases ht
  rename_i pa hpa
  split at ht
  case h_2=>cases ht
  rename_i pca h1 hx1
  split at ht
  case h_2=>cases ht
  rename_i pcb h2 hy1
  split at ht
  case isFalse=>
   simp only[Dv]at ht;subst ht;simp[yaX]at hx
  rename_i hc;simp only[Af]at hc;obtain⟨⟨hna,hnb⟩,hps⟩:=hc;simp only[Dv]at ht;subst ht;obtain rfl:ro=n_:=hro.resolve_right (by simp[Ks]);simp only[yaX,AD,D1,D4]at hx;obtain⟨st'',hrr,e0,hex,rfl,rfl⟩:=hx;unfold YQ at hrr
  split at hrr
  case h_2=>cases hrr
  rename_i f caps hclo
  split at hrr
  case isFalse=>cases hrr
  rename_i hlt
  split at hrr
  case h_2=>cases hrr
  rename_i sp hsp;simp only[D1,Prod.exists]at hrr;obtain⟨dr,st3,hrun,rfl⟩:=hrr;obtain⟨g,hg⟩:=hR;have hrep:=Ha (G:=G) hg.gl hg.fr hpa;rw[hclo]at hrep;generalize hxv:a.eval gf=xv at hrep
  cases hrep with
  |clo _ _ us hlen hus=>
   rw[Ss hlt,WZ hlt,WV hlt]at hxv;obtain⟨⟨fn,hfn,hbody,hname⟩,hcon⟩:=hT.r f sp hsp;refine wpIn_rangeFunc λfnid _=>?_
   have hlw:w.heap.size+1=(w.alloc (.deferred (s_ []))).heap.size:=by rw[yby]
   generalize hrec:({state:=.ready,pending:=n_,fn:=fnid,tmps:=a.tmps,params:=ps,assign:=asg,body:=body,defers:=w.heap.size}:Loop)=rec;generalize hw1:((w.alloc (.deferred (s_ []))).alloc (.loop rec))=w1;have hs1:w1.heap.size=w.heap.size+2:=by rw[<-hw1,yby,yby]
   have hold:∀b,b<w.heap.size->w1.heap[b]?=w.heap[b]?:=by
    intro b hb;rw[<-hw1]
    show((w.heap.push (.deferred (s_ []))).push (.loop rec))[b]?=_
    grind
   have hD:w1.heap[w.heap.size]?=s_ (.deferred (s_ [])):=by
    rw[<-hw1]
    show((w.heap.push (.deferred (s_ []))).push (.loop rec))[w.heap.size]?=_
    grind
   have hL:w1.heap[w.heap.size+1]?=s_ (.loop rec):=by
    rw[<-hw1]
    show((w.heap.push (.deferred (s_ []))).push (.loop rec))[w.heap.size+1]?=_
    grind
   have hready:rec.state=.ready/\rec.pending=n_:=by rw[<-hrec];exact⟨rfl,rfl⟩
   have hgo1:Go1 base w g s.st w1 {g with β:=Gt g.β s.st.length (w.heap.size+1)} (s.st++[recO 0]):=by
    have hbes:Beside w w1:=by rw[<-hw1];exact⟨rfl,rfl,rfl,by rw[yby,yby];omega⟩
    exact hg.sr.pushRec zaa hbes hold hL hready
   generalize hg1:({g with β:=Gt g.β s.st.length (w.heap.size+1)}:Ghost)=g1 at hgo1;have hβ1:g1.β s.st.length=w.heap.size+1:=by rw[<-hg1];exact Jv _ _ _
   have DT:(s.st++[recO 0])[s.st.length]?=s_ (recO 0):=zac
   have henter:(Instr.enterLoop fnid a.tmps ps asg body (Wr n_).round).run P w=.ok (w.heap.size+1,[{target:=.collected w.heap.size,args:=#[]}]) w1:=by
    rw[<-hw1,<-hrec];exact run_enterLoop_outer fnid a.tmps ps asg body
   refine⟨w.heap.size+1,[{target:=.collected w.heap.size,args:=#[]}],w1,{target:=.fn (.func f) us.toArray,args:=#[.func (.yield (w.heap.size+1)) #[] #[]]},w1,f,(Value.func (.yield (w.heap.size+1)) #[] #[]::us).toArray,w1,henter,?_,λ_ _=>trivial,?_,(λe=>by cases e),?_⟩
   .have hk:∀v,a.eval (.const v)=v:=λ_=>rfl;simp[resolve,hxv,Deferred.ofValue,hk]
   .have hbn:¬fn.body=n_:=by
     grind
    have hn':¬fn.name= "runtime.NumGoroutine":=by simpa using hname
    simp[invoke,callFunc,hfn,hn',hbn]
   .refine CallsIn.mono (callsIn_wide.2 (hcon base w1 g1 (s.st++[recO 0]) st3 caps us dr (w.heap.size+1) _ ?_ hrun hgo1.sr (hg.gl.mono hgo1.im) hlen (λi d v hd hv=>hgo1.rep (hus i d v hd hv)))) ?_
    ·
     intro l' w2 g2 st2 st2' ds vs d2 hgo2 hG2 hy hl2 hr2
     replace hy:(if l'=w.heap.size+1 then MH (yaX G T fuel pca) (yaX G T fuel pcb) s.fr ps.toList s.st.length ds st2 else n_)=s_ (d2,st2'):=hy
     split at hy
     case isFalse=>cases hy
     rename_i hll;subst hll;unfold MH at hy
     split at hy
     case isFalse=>cases hy
     rename_i hdl
     split at hy
     case h_2=>cases hy
     rename_i sa hsa
     split at hy
     case isFalse=>cases hy
     rename_i hrec0;obtain⟨s2,p2,hL2⟩:=(hgo2.kp _ _ hL rfl).loop;have hpsz:ps.size=vs.length:=by rw[<-hl2,hdl];simp
     refine⟨fnid,_,asg,body,by rw[run_yield hL2 (by rw[<-hrec];simp[hpsz]),<-hrec],?_⟩;have hYw2:YOK P G T.y base w2 g2 st2:=hY.mono (hg.go1.trans (hgo1.trans hgo2));have hbl:base<=w.heap.size:=hg.sr.size
     have hfold:(ps.zip vs.toArray).foldl (λtmps x=>tmps.setIfInBounds x.1 x.2) a.tmps=(ps.toList.zip vs).foldl (λtmps p=>tmps.setIfInBounds p.1 p.2) a.tmps:=by
      rw[<-CB];simp
     refine roundIn_of_wpIn trivial ?_
     show asg.wpIn (Wr (s_ (w.heap.size+1))) 0 P _ _ w2
     refine iha (s_ (w.heap.size+1)) (.inr hna) w2 g2 st2 [] hYw2 (AT hbl (AT zaa (hgo1.trans hgo2).below.size)) _ _ hx1 fuel _ sa .next hsa _ w2 _ ⟨g2,Go1.refl hgo2.sr,?_,hG2,⟨[],rfl,trivial⟩,?_⟩ ?_
     .have hF2:FR w2 g2 st2 s.fr a:=hg.fr.mono (hgo1.trans hgo2).im (hgo1.trans hgo2).evo
      have:=Ydu (x:=[]) ps.toList ds vs s.fr a.tmps (by simpa using hdl) hl2 (λp hp=>by
       have:=Ad.1 hps p hp;have:=zat this;exact AX this hg.sz) hF2 hr2
      grind
     .have:=yu5 (ps.toList.zip vs) a.tmps;rw[<-hfold]at this;exact AT hg.sz (Nat.le_of_eq this.symm)
     .rintro a3 w3 ⟨g3,h3⟩;have hgo13:=hgo2.trans h3.go1;obtain⟨o3,ho3,hro3,hso3,hels3⟩:=yMw hrec0;have hβ3:g3.β s.st.length=w.heap.size+1:=(hgo13.recO DT rfl rfl).1.trans hβ1;obtain⟨r3,n3,hb3,_,hn3,hz3,_⟩:=h3.go1.sr.recAt ho3 hro3 hso3;rw[hβ3]at hb3;rw[hels3]at hn3;have hn0:n3=0:=by simpa using hn3.symm
      have hready3:r3.state=.ready:=(hz3 hn0).1;refine⟨_,run_beginRound hb3 hready3,?_⟩;have hgo4:=Go1.putRec (n:=2) (s:=.busy) (p:=r3.pending) h3.go1.sr ho3 hro3 hso3 hβ3 hb3 (λe=>by cases e) (λe=>by cases e);have hlt3:w.heap.size+1<w3.heap.size:=(AO.1 hb3).1
      show body.wpIn (Wr (s_ (w.heap.size+1))) 0 P _ _ (w3.putObj (w.heap.size+1) (.loop {r3 with state:=.busy,pending:=r3.pending}))
      generalize hw4:w3.putObj (w.heap.size+1) (.loop {r3 with state:=.busy,pending:=r3.pending})=w4 at hgo4;have hgo04:=hg.go1.trans (hgo1.trans (hgo13.trans hgo4))
      have hk4:(sa.st.set s.st.length (recO 2))[s.st.length]?=s_ (recO 2):=by
       grind
      have fin:∀(sb:PS)(a5:Act)(w5:World)(nn:Int)(jump:Option Code)(b:Bool),R G base n w4 g3 (sa.st.set s.st.length (recO 2)) a3.defers sb a5 w5->b=jump.isNone->(nn=0->jump=n_)->(nn=1->jump=s_ .ret)->
        ∃v w',(Instr.endRound (w.heap.size+1) jump).run P w5=.ok v w'/\∃v' g',(Ending.returned v:Ending)=.returned v'/\Go1 base w2 g2 st2 w' g' (sb.st.set s.st.length (recO nn))/\RepV w' g' (sb.st.set s.st.length (recO nn)) (.bool b) v':=by
       rintro sb a5 w5 nn jump b ⟨g5,h5⟩ hb hj0 hj1;obtain⟨hβ5,o5,ho5,hro5,hso5⟩:=h5.go1.recO hk4 rfl rfl;obtain⟨r5,n5,hb5,_⟩:=h5.go1.sr.recAt ho5 hro5 hso5;rw[hβ5,hβ3]at hb5
       have hgo6:=Go1.putRec (n:=nn) (s:=if jump.isNone then .ready else .done) (p:=jump) h5.go1.sr ho5 hro5 hso5 (hβ5.trans hβ3) hb5
        (λe=>by rw[hj0 e];exact⟨rfl,rfl⟩) (λe=>by rw[hj1 e];exact⟨rfl,rfl⟩)
       refine⟨_,_,run_endRound jump hb5,.bool jump.isNone,g5,rfl,h3.go1.trans (hgo4.trans (h5.go1.trans hgo6)),?_⟩;rw[hb];exact .bool _
      split at hy
      .rename_i sb hsb;simp only[Dv,D4]at hy;obtain⟨rfl,rfl⟩:=hy;refine ihb (s_ (w.heap.size+1)) (.inr hnb) w4 g3 _ a3.defers (hY.mono hgo04) (AT hb0 hgo04.below.size) _ _ hy1 fuel _ sb .next hsb _ w4 _ ⟨g3,Go1.refl hgo4.sr,h3.fr.mono hgo4.im hgo4.evo,h3.gl.mono hgo4.im,⟨[],rfl,trivial⟩,h3.sz⟩ ?_
       exact λa5 w5 h5=>fin sb a5 w5 0 n_ t_ h5 rfl (λ_=>rfl) (λe=>by cases e)
      .rename_i sb hsb;simp only[Dv,D4]at hy;obtain⟨rfl,rfl⟩:=hy;refine ihb (s_ (w.heap.size+1)) (.inr hnb) w4 g3 _ a3.defers (hY.mono hgo04) (AT hb0 hgo04.below.size) _ _ hy1 fuel _ sb .ret hsb _ w4 _ ⟨g3,Go1.refl hgo4.sr,h3.fr.mono hgo4.im hgo4.evo,h3.gl.mono hgo4.im,⟨[],rfl,trivial⟩,h3.sz⟩ ?_;exact λa5 w5 h5=>fin sb a5 w5 1 (s_ .ret) f_ h5 rfl (λe=>by cases e) (λ_=>rfl)
      .cases hy
    .rintro e w3 ⟨v,g3,rfl,hgo3,_⟩;obtain⟨hβ3,_⟩:=hgo3.recO DT rfl rfl;rw[hβ1]at hβ3;have hD3:w3.heap[w.heap.size]?=s_ (.deferred (s_ [])):=(hgo3.kp _ _ hD rfl).def';have hbl:base<=w.heap.size:=hg.sr.size;unfold jW at hex
     split at hex
     case h_2=>cases hex
     rename_i n3 hrec3;obtain⟨o3,ho3,hro3,hso3,hels3⟩:=yMw hrec3;obtain⟨r3,n3',hb3,_,hn3,hz3,ho1⟩:=hgo3.sr.recAt ho3 hro3 hso3;rw[hβ3]at hb3;rw[hels3]at hn3;have hn0:n3'=n3:=by simpa using hn3.symm
     subst hn0
     have hnb3:r3.state≠.busy:=by
      grind
     have hgo4':=Go1.putRec (n:=2) (s:=.exhausted) (p:=r3.pending) hgo3.sr ho3 hro3 hso3 hβ3 hb3 (λe=>by cases e) (λe=>by cases e);have hgo4:=hgo1.trans (hgo3.trans hgo4')
     have hRn:R G base n w0 g0 st0 dl ⟨s.fr,st3.set s.st.length (recO 2)⟩ {a with defers:=[{target:=.collected w.heap.size,args:=#[]}]++a.defers} (w3.putObj (w.heap.size+1) (.loop {r3 with state:=.exhausted,pending:=r3.pending})):=by
      refine⟨g3,hg.go1.trans hgo4,hg.fr.mono hgo4.im hgo4.evo,hg.gl.mono hgo4.im,?_,hg.sz⟩;obtain⟨dd,hd1,hd2⟩:=hg.df;refine⟨{target:=.collected w.heap.size,args:=#[]}::dd,by simp[hd1],⟨w.heap.size,rfl,?_,?_,?_⟩,hd2.mono hgo4.kp⟩
      .rw[ybv zaa];exact hD3
      .have:=hg.go1.below.size;grind
      .intro d' hd' e;obtain⟨D',h1,h2⟩:=hd2.mem hd';grind
     refine⟨r3.pending,_,run_endLoop hb3 hnb3,?_⟩
     split at hex
     .rename_i e;obtain rfl:=At hex;have hp:=(hz3 e).2;rw[hp];have:=hQ _ _ hRn;rw[hp]at this;simpa[K5]using this
     .split at hex
      .rename_i e;obtain rfl:=At hex;have hp:=(ho1 e).2;rw[hp];have:=hQ _ _ hRn;rw[hp]at this;exact wpIn_ret (by simpa[K5]using this)
      .cases hex
 |_=>
  intro ro hro w0 g0 st0 dl hY hb0 h r ht fuel s s' e hx;simp only[GK,Dv]at ht;subst ht;simp[yaX]at hx
def yZ2{t:TypeId}{u:Value}(h:(yaA t v).run P w=.ok u w):(do loadVar t (<-asAddr v):Sem Value).run P w=.ok u w:=by
 cases v with
 |pointer a=>
  cases a with
  |none=>simp[yaA,yaB]at h
  |some a=>simpa[yaA,yaB,asAddr]using h
 |_=>simp[yaA,yaB]at h
def aL(tmps:Array Value):ResultVar->Sem Value
 |.tmp t=>pure (tmps.getD t undef)
 |.cell a t=>do loadVar t (<-asAddr (tmps.getD a undef))
theorem kL{s:PS}:∀{l:List PRes}{ys:List D},E8 s l=s_ ys->∃ds,Ed s l=s_ ds/\Ey s.st ds=s_ ys
 |[],ys,h=>by simp[E8]at h;subst h;exact⟨[],rfl,rfl⟩
 |r::l,ys,h=>by
  unfold E8 at h
  split at h
  case h_2=>cases h
  rename_i x y E hy;simp only[Dv]at h;subst h;obtain⟨ds,N,h2⟩:=kL hy
  cases r with
  |tmp t=>
   exact⟨s.fr t::ds,by simp[Ed,N],by simp only[PRes.get]at E;simp[Ey,E,h2]⟩
  |cell t n ag=>
   simp only[PRes.get]at E
   split at E
   .rename_i d hd;exact⟨d::ds,by simp[Ed,hd,N],by simp[Ey,E,h2]⟩
   .cases E
theorem T0{s:PS}{a:Act}{w:World}{g:Ghost}(hS:SR base w g s.st)(hF:FR w g s.st s.fr a):∀{rs:List ResultVar}{l:List PRes}{ds:List D},Ry P rs=s_ l->Ed s l=s_ ds->
  ∃vs:List Value,ds.length=vs.length/\(∀(i:Nat)d v,ds[i]?=s_ d->vs[i]?=s_ v->RepV w g s.st d v)/\
   (rs.mapM (aL a.tmps)).run P w=.ok vs w
 |[],l,ds,E,N=>by
  simp[Ry]at E;subst E;simp[Ed]at N;subst N;simp_all
 |.tmp t::rs,l,ds,E,N=>by
  simp only[Ry,D1]at E;obtain⟨l',h1,rfl⟩:=E;simp only[Ed,D1]at N;obtain⟨a2,h2,rfl⟩:=N;obtain⟨vs,e1,e2,e3⟩:=T0 hS hF h1 h2;refine⟨a.tmps.getD t undef::vs,by simp[e1],?_,?_⟩
  .intro i d v hd hv
   cases i with
   |zero=>simp only[Ay,Dv]at hd hv;subst hd;subst hv;exact hF t
   |succ i=>simp only[By]at hd hv;exact e2 i d v hd hv
  .simp only[BB,aL,yay,Sem.run_pure,yaz,e3]
 |.cell b t::rs,l,ds,E,N=>by
  unfold Ry at E
  split at E
  case h_2=>cases E
  rename_i n ag l' hn ha h1;simp only[Dv]at E;subst E;unfold Ed at N
  split at N
  case h_2=>cases N
  rename_i x y hx hy;simp only[Dv]at N;subst N;obtain⟨vs,e1,e2,e3⟩:=T0 hS hF h1 hy;obtain⟨u,u1,u2⟩:=yM3 hS ha hn hx (hF b);refine⟨u::vs,by simp[e1],?_,?_⟩
  .grind
  .have u3:=yZ2 u1;simp only[BB];rw[yay,show(aL a.tmps (.cell b t)).run P w=.ok u w from u3];simp_all
def sI:List Value->Value
 |[v]=>v
 |vs=>.tuple vs.toArray
def Zz{tmps:Array Value}
  (h:(fn.results.toList.mapM (aL tmps)).run P w=.ok vs w):
  (results fn tmps).run P w=.ok (sI vs) w:=by
 have E:results fn tmps=(do let vs <-fn.results.mapM (aL tmps);pure (if h:vs.size=1 then vs[0]else .tuple vs)):=rfl;rw[E,yay,Array.mapM_eq_mapM_toList];rw[Sem.run_map,h];simp only[yaz,Sem.run_pure]
 match vs with
 |[]=>rfl
 |[v]=>rfl
 |_::_::_=>simp[sI]
def WK(hl:ds.length=vs.length)(h:∀(i:Nat)d v,ds[i]?=s_ d->vs[i]?=s_ v->RepV w g st d v):
  RepV w g st (DS ds) (sI vs):=by
 match ds,vs,hl with
 |[],[],_=>exact .tup [] [] rfl h
 |[d],[v],_=>exact h 0 d v rfl rfl
 |_::_::_,_::_::_,hl=>exact .tup _ _ hl h
def qP(h:∀d∈ds,purA d=t_):purR (DS ds)=t_:=by
 match ds with
 |[]=>rfl
 |[d]=>
  have:=h d zac;simp only[DS]
  cases d with
  |tup l=>simp[purA,D.pure1]at this
  |_=>exact this
 |x::y::l=>
  simp only[DS,purR,Ad];exact h
theorem WN{fn:Func}{R:Ending->World->Prop}(N:base<=w0.heap.size){s:PS}{a:Act}{g:Ghost}:∀(ds:List Deferred)(w:World),Go1 base w0 g0 st0 w g s.st->FR w g s.st s.fr a->DfOK w0 w ds->
  (∀w',Go1 base w0 g0 st0 w' g s.st->FR w' g s.st s.fr a->∃v,(results fn a.tmps).run P w'=.ok v w'/\R (.returned v) w')->LeavesInM yau 0 P fn a.tmps R ds .returning w
 |[],w,E,hF,_,h=>h w E hF
 |d::ds,w,E,hF,⟨⟨D,h1,h2,h3,h4⟩,h5⟩,h=>by
  subst h1;refine⟨zac,.inl ⟨D,_,rfl,run_takeDeferred h2,?_⟩⟩
  have ad:w0.heap.size<=D:=by
   grind
  have hX:=GoX.put (o':=.deferred n_) E.sr h2 rfl ⟨_,rfl⟩ (AT N ad);refine WN N ds _ (((E.x D).trans hX).fin (λo ho=>by rw[h3]at ho;cases ho)) (hF.mono hX.im hX.evo) ?_ h
  have:∀(l:List Deferred),(∀d'∈l,d'≠{target:=.collected D,args:=#[]})->DfOK w0 w l->DfOK w0 (w.putObj D (.deferred n_)) l:=by
   intro l
   induction l with
   |nil=>exact λ_ _=>trivial
   |cons d l ih=>
    rintro af ⟨⟨D',e1,e2,e3,e4⟩,e5⟩;refine⟨⟨D',e1,?_,e3,e4⟩,ih (λd' ah=>af d' (by simp[ah])) e5⟩;rw[ybv]
    .exact e2
    .grind
  grind
theorem YG(hT:TblOK P G T)(ht:IY P il f hints=s_ F)(fuel:Nat):(∃fn,P.funcs[f]?=s_ fn/\fn.body.isSome=t_/\(fn.name == "runtime.NumGoroutine")=f_)/\
  ∀(base:Nat)(w:World)(g:Ghost)(st st':St)(ds:List D)(vs:List Value)(d:D),YOK P G T.y base w g st->F.runI G T fuel ds st=s_ (d,st')->SR base w g st->GlobOK G w g->ds.length=vs.length->
   (∀(i:Nat)d v,ds[i]?=s_ d->vs[i]?=s_ v->RepV w g st d v)->Calls P f vs.toArray w λe w'=>∃v g',e=.returned v/\Go1 base w g st w' g' st'/\RepV w' g' st' d v:=by
 unfold IY at ht
 split at ht
 case h_2=>cases ht
 rename_i fn hfn
 split at ht
 case h_2=>cases ht
 rename_i c hc
 split at ht
 case h_2=>cases ht
 rename_i pc hrest res htc htr
 split at ht
 .cases ht
 rename_i hname;simp only[Dv]at ht;subst ht;refine⟨⟨fn,hfn,by rw[hc];rfl,by simpa using hname⟩,?_⟩;intro base w g st st' ds vs d hY hsp hS hG hlen hrep
 have key:∀(e:Ex)(s':PS),pc.exec G T fuel {fr:=Du ds,st}=s_ (e,s')->((Ed s' res).map λl=>(DS l,s'.st))=s_ (d,st')->(e=.next\/e=.ret)->
   Calls P f vs.toArray w λe w'=>∃v g',e=.returned v/\Go1 base w g st w' g' st'/\RepV w' g' st' d v:=by
  intro e s' hex hget he;refine callsIn_wide.1 (callsIn_of_wp_marks (F:=yau) (n:=0) hfn hc trivial ?_)
  have hR0:R G base fn.ntmps w g st [] {fr:=Du ds,st} {tmps:=vs.toArray++Dc (fn.ntmps-vs.toArray.size) undef,defers:=[]} w:=by
   refine⟨g,Go1.refl hS,?_,hG,⟨[],rfl,trivial⟩,?_⟩
   .intro s;simp only[Du];rcases Bg s ds.length with h1|h1
    .have h2:s<vs.length:=zaa
     have h3:(vs.toArray++Dc (fn.ntmps-vs.toArray.size) undef).getD s undef=vs[s]:=by
      simp[Array.getD,h2];omega
     rw[h3];have:=hrep s ds[s] vs[s] (by simp[h1]) (by simp[h2]);grind
    .simp[Am,Bh h1];exact .junk _
   .simp;omega
  have fin:∀a' w',R G base fn.ntmps w g st [] s' a' w'->LeavesInM yau 0 P fn a'.tmps (λe w'=>∃v g',e=.returned v/\Go1 base w g st w' g' st'/\RepV w' g' st' d v) a'.defers .returning w':=by
   rintro a' w' ⟨g1,h⟩;obtain⟨dd,hd1,hd2⟩:=h.df;rw[hd1,Ai];refine WN hS.size dd w' h.go1 h.fr hd2 λw2 hgo hF=>?_;simp only[D1,D4]at hget;obtain⟨xs,hx1,rfl,rfl⟩:=hget;obtain⟨us,e1,e2,e3⟩:=T0 hgo.sr hF htr hx1;exact⟨_,Zz e3,_,g1,rfl,hgo,WK e1 e2⟩
  refine Mx hT c n_ (.inl rfl) w g st [] hY hS.size hints (pc,hrest) htc fuel _ s' e hex _ w _ hR0 ?_;intro a' w' hR';rcases he with rfl|rfl
  .exact fin a' w' hR'
  .exact fin a' w' hR'
 simp only[PF.runI]at hsp;grind
theorem mQ{fn:Func}{R:Ending->World->Prop}{ch:List PanicEntry}(N:base<=w0.heap.size){s:PS}{a:Act}{g:Ghost}(rest:List Deferred):∀(ds:List Deferred)(w:World),Go1 base w0 g0 st0 w g s.st->FR w g s.st s.fr a->DfOK w0 w ds->
  (∀w',Go1 base w0 g0 st0 w' g s.st->FR w' g s.st s.fr a->LeavesInM yau 0 P fn a.tmps R rest (.panicking ch) w')->LeavesInM yau 0 P fn a.tmps R (ds++rest) (.panicking ch) w
 |[],w,E,hF,_,h=>h w E hF
 |d::ds,w,E,hF,⟨⟨D,h1,h2,h3,h4⟩,h5⟩,h=>by
  subst h1;refine⟨zac,.inl ⟨D,_,rfl,run_takeDeferred h2,?_⟩⟩
  have ae:w0.heap.size<=D:=by
   grind
  have hX:=GoX.put (o':=.deferred n_) E.sr h2 rfl ⟨_,rfl⟩ (AT N ae);refine mQ N rest ds _ (((E.x D).trans hX).fin (λo ho=>by rw[h3]at ho;cases ho)) (hF.mono hX.im hX.evo) ?_ h
  have:∀(l:List Deferred),(∀d'∈l,d'≠{target:=.collected D,args:=#[]})->DfOK w0 w l->DfOK w0 (w.putObj D (.deferred n_)) l:=by
   intro l
   induction l with
   |nil=>exact λ_ _=>trivial
   |cons d l ih=>
    rintro ah ⟨⟨D',e1,e2,e3,e4⟩,e5⟩;refine⟨⟨D',e1,?_,e3,e4⟩,ih (λd' a0=>ah d' (by simp[a0])) e5⟩;rw[ybv]
    .exact e2
    .grind
  grind
theorem tC{fn:Func}{R:Ending->World->Prop}(N:base<=w0.heap.size){s:PS}{a:Act}{g:Ghost}(rest:List Deferred):∀(ds:List Deferred)(w:World),Go1 base w0 g0 st0 w g s.st->FR w g s.st s.fr a->DfOK w0 w ds->
  (∀w',Go1 base w0 g0 st0 w' g s.st->FR w' g s.st s.fr a->LeavesInM yau 0 P fn a.tmps R rest .returning w')->LeavesInM yau 0 P fn a.tmps R (ds++rest) .returning w
 |[],w,E,hF,_,h=>h w E hF
 |d::ds,w,E,hF,⟨⟨D,h1,h2,h3,h4⟩,h5⟩,h=>by
  subst h1;refine⟨zac,.inl ⟨D,_,rfl,run_takeDeferred h2,?_⟩⟩
  have ad:w0.heap.size<=D:=by
   grind
  have hX:=GoX.put (o':=.deferred n_) E.sr h2 rfl ⟨_,rfl⟩ (AT N ad);refine tC N rest ds _ (((E.x D).trans hX).fin (λo ho=>by rw[h3]at ho;cases ho)) (hF.mono hX.im hX.evo) ?_ h
  have:∀(l:List Deferred),(∀d'∈l,d'≠{target:=.collected D,args:=#[]})->DfOK w0 w l->DfOK w0 (w.putObj D (.deferred n_)) l:=by
   intro l
   induction l with
   |nil=>exact λ_ _=>trivial
   |cons d l ih=>
    rintro af ⟨⟨D',e1,e2,e3,e4⟩,e5⟩;refine⟨⟨D',e1,?_,e3,e4⟩,ih (λd' ah=>af d' (by simp[ah])) e5⟩;rw[ybv]
    .exact e2
    .grind
  grind
theorem bF(hS:SR base w g st)(hG:GlobOK G w g)(ad:ds.length=vs.length)(E:∀(i:Nat)d v,ds[i]?=s_ d->vs[i]?=s_ v->RepV w g st d v):
  R G base fn.ntmps w g st [] {fr:=Du ds,st} {tmps:=vs.toArray++Dc (fn.ntmps-vs.toArray.size) undef,defers:=[]} w:=by
 refine⟨g,Go1.refl hS,?_,hG,⟨[],rfl,trivial⟩,?_⟩
 .intro s;simp only[Du];rcases Bg s ds.length with N|N
  .have h2:s<vs.length:=zaa
   have h3:(vs.toArray++Dc (fn.ntmps-vs.toArray.size) undef).getD s undef=vs[s]:=by
    simp[Array.getD,h2];omega
   rw[h3];have:=E s ds[s] vs[s] (by simp[N]) (by simp[h2]);grind
  .simp[Am,Bh N];exact .junk _
 .simp;omega
def YH(hT:TblOK P G T)(hy:T.y=λ_ _ _=>n_)(E:IY P il f hints=s_ F)(fuel:Nat):SO P G f (F.runX G T fuel):=by
 refine⟨(YG hT E fuel).1,?_⟩;unfold IY at E
 split at E
 case h_2=>cases E
 rename_i fn ae
 split at E
 case h_2=>cases E
 rename_i c hc
 split at E
 case h_2=>cases E
 rename_i pc aa res af a6
 split at E
 .cases E
 rename_i a2;simp only[Dv]at E;subst E;intro base w g st st' ds vs t d N hS hG hlen ac;simp only[PF.runX]at N
 split at N
 case h_2=>cases N
 rename_i t1 d1 s' hex;simp only[Dv,D4]at N;obtain⟨rfl,rfl,rfl⟩:=N;refine callsIn_wide.1 (callsIn_of_wp_marks (F:=yau) (n:=0) ae hc trivial ?_);refine Mx hT c n_ (.inl rfl) w g st [] (by rw[hy];exact YOK.none) hS.size hints (pc,aa) af fuel _ s' _ hex _ w _ (bF hS hG hlen ac) ?_;rintro a' w' ⟨g1,h⟩;obtain⟨dd,ah,a0⟩:=h.df
 show LeavesInM yau 0 P fn a'.tmps _ a'.defers (.panicking (MJ t1 d1)) w'
 rw[ah];refine mQ hS.size [] dd w' h.go1 h.fr a0 λw2 a1 hF=>?_;exact⟨g1,rfl,a1⟩
def RB(P:Program)(il:List Nat)(f:Nat)(hints:List (List Nat)):Option PFD:=
 match P.funcs[f]? with
 |some fn=>match fn.body with
  |some (.seq (.region _ ops0 f_) (.seq (.region _ ops1 f_) rest))=>match ops1.toList.reverse with
   |o::rpre=>match LF P il fn.ntmps ops0 ops0.toList,LF P il fn.ntmps ops1 rpre.reverse,GK P il fn.ntmps hints rest,Ry P fn.results.toList with
    |some pre,s_ pre1,s_ (pc,_),s_ res=>match o.op,o.guard,o.dst with
     |.defer c,n_,n_=>match c.callee with
      |.value x=>match Ek x,I9 c.args.toList with
       |some hf,s_ ha=>if fn.name == "runtime.NumGoroutine" then n_ else s_ {pre:=pre++pre1,hf,ha,code:=pc,res}
       |_,_=>n_
      |_=>n_
     |_,_,_=>n_
    |_,_,_,_=>n_
   |[]=>n_
  |_=>n_
 |none=>n_
theorem uu{G:Dy}{T:Tbl}:∀(l l':List PI)(s:PS),Fq G T (l++l') s=(Fq G T l s).bind λs'=>Fq G T l' s'
 |[],_,_=>rfl
 |i::l,l',s=>by
  simp only[Aj,Fq]
  cases i.exec G T s with
  |none=>rfl
  |some s'=>exact uu l l' s'
theorem Yqw(hT:TblOK P G T)(hy:T.y=λ_ _ _=>n_){F:PFD}(ht:RB P il f hints=s_ F){H:HI}(hH:∀f h,H f=s_ h->Rg P G f h)(fuel:Nat):IContract P G f (F.runI G T H fuel):=by
 unfold RB at ht
 split at ht
 case h_2=>cases ht
 rename_i fn hfn
 split at ht
 case h_2=>cases ht
 rename_i id0 ops0 id1 ops1 rest hc
 split at ht
 case h_2=>cases ht
 rename_i o rpre hops1
 split at ht
 case h_2=>cases ht
 rename_i pre pre1 pc hrest res hpre hpre1 htc htr
 split at ht
 case h_2=>cases ht
 rename_i c hop hgd hds
 split at ht
 case h_2=>cases ht
 rename_i x hcal
 split at ht
 case h_2=>cases ht
 rename_i hf ha hhf hha
 split at ht
 .cases ht
 rename_i hname;simp only[Dv]at ht;subst ht;refine⟨⟨fn,hfn,by rw[hc];rfl,by simpa using hname⟩,?_⟩;intro base w g st st' ds vs d hsp hS hG hlen hrep;simp only[PFD.runI]at hsp
 split at hsp
 case h_2=>cases hsp
 rename_i s1 hs1
 split at hsp
 case h_2=>cases hsp
 rename_i hfn' das hput
 split at hsp
 case h_2=>cases hsp
 rename_i h hHf;rw[uu,AD]at hs1;obtain⟨s0,hs0,hs1⟩:=hs1;refine callsIn_wide.1 (callsIn_of_wp_marks (F:=yau) (n:=0) hfn hc trivial ?_);refine wpIn_seq (wpIn_region_list (yA (r:=n_) hT (by rw[hy];exact YOK.none) _ _ _ s0 _ w hpre hs0 (bF hS hG hlen hrep) ?_));intro a0 w0 hR0
 show Code.wpIn _ _ _ _ _ _ _
 refine wpIn_seq (wpIn_region_list ?_)
 have hl:ops1.toList=rpre.reverse++[o]:=by
  simp_all
 rw[hl];refine Un (r:=n_) hT (by rw[hy];exact YOK.none) _ _ _ _ _ _ hpre1 hs1 hR0 ?_;rintro a1 w1 ⟨g1,h1⟩;obtain⟨dst,op,ty,pos,after,guard⟩:=o;simp only at hop hgd hds;subst hop;subst hgd;subst hds;obtain⟨dd,hd1,hd2⟩:=h1.df;rw[Ai]at hd1;have hev:∀x pa,Ek x=s_ pa->RepV w1 g1 s1.st (DJ G s1.fr pa) (a1.eval x):=λx pa h=>Ha (G:=G) h1.gl h1.fr h;have hxv:=hev _ _ hhf;obtain⟨q1,q2⟩:=Rk hev hha;have q1:(ha.map (DJ G s1.fr)).length=(c.args.toList.map a1.eval).length:=by simpa using q1
 unfold OL at hput
 split at hput
 case h_2=>cases hput
 rename_i hf' caps hclo
 split at hput
 case isFalse=>cases hput
 rename_i hlt;simp only[Dv,D4]at hput;obtain⟨rfl,rfl⟩:=hput;rw[hclo]at hxv;generalize hxe:a1.eval x=xv at hxv
 obtain⟨us,hul,hur,rfl⟩:∃us:List Value,caps.length=us.length/\(∀(i:Nat)d v,caps[i]?=s_ d->us[i]?=s_ v->RepV w1 g1 s1.st d v)/\xv=.func (.func hf') #[] us.toArray:=by
  cases hxv with
  |clo _ _ us e1 e2=>exact⟨us,e1,e2,by rw[Ss hlt,WZ hlt,WV hlt]⟩
 have hargs:c.args.map a1.eval=(c.args.toList.map a1.eval).toArray:=by
  grind
 generalize hav:c.args.toList.map a1.eval=av at q1 q2 hargs
 have hdef:(Oper.semAt (Wr n_).round a1.eval {dst:=n_,op:=.defer c,type:=ty,pos:=pos,after:=after,guard:=n_}).run P w1=.ok (.defer {target:=.fn (.func hf') us.toArray,args:=av.toArray}) w1:=by
  show(execOp a1.eval {dst:=n_,op:=.defer c,type:=ty,pos:=pos,after:=after,guard:=n_}).run P w1=_
  simp only[execOp,resolve,hcal,hargs,hxe,Deferred.ofValue,Bv];rfl
 have hw1:yaw ({dst:=n_,op:=.defer c,type:=ty,pos:=pos,after:=after,guard:=n_}:Oper) (yielded ops1 a1.tmps)=t_:=by simp[yaw]
 simp only[wpListIn,hw1,zaj];refine⟨λ_ _=>trivial,?_⟩;rw[hdef,Oper.uponIn_defer]
 show Code.wpIn _ _ _ _ _ _ _
 have hR1:R G base fn.ntmps w1 g1 s1.st ({target:=.fn (.func hf') us.toArray,args:=av.toArray}::dd) s1 ({a1 with defers:={target:=.fn (.func hf') us.toArray,args:=av.toArray}::a1.defers}.put n_ undef) w1:=by
  refine⟨g1,Go1.refl h1.sr,h1.fr,h1.gl,⟨[],?_,trivial⟩,h1.sz⟩;simp[Act.put,hd1]
 obtain⟨⟨hfn',hhf,hhb,hhn⟩,hcon⟩:=hH _ _ hHf
 have hinv:∀w2,(invoke (.fn (.func hf') us.toArray) av.toArray).run P w2=.ok (.enter hf' (av++us).toArray) w2:=by
  intro w2
  have hbn:¬hfn'.body=n_:=by
   grind
  have hn':¬hfn'.name= "runtime.NumGoroutine":=by simpa using hhn
  simp[invoke,callFunc,hhf,hn',hbn]
 have hdl:(ha.map (DJ G s1.fr)++caps).length=(av++us).length:=by simp only[Ag,q1,hul]
 have hdr:=lP q1 q2 hur;have hrt:=h1.go1.sr.size
 have fin:∀(s3:PS)(a':Act)(w3:World)(g3:Ghost),(Ed s3 res).map (λl=>(DS l,s3.st))=s_ (d,st')->FR w3 g3 s3.st s3.fr a'->Go1 base w g st w3 g3 s3.st->DfOK w w3 dd->
   LeavesInM yau 0 P fn a'.tmps (λe w'=>∃v g',e=.returned v/\Go1 base w g st w' g' st'/\RepV w' g' st' d v) dd .returning w3:=by
  intro s3 a' w3 g3 hget hF hgo hdf
  have:=WN (P:=P) (fn:=fn) (R:=λe w'=>∃v g',e=.returned v/\Go1 base w g st w' g' st'/\RepV w' g' st' d v) hS.size dd w3 hgo hF hdf (λw4 hgo4 hF4=>by
   simp only[D1,D4]at hget;obtain⟨xs,hx1,rfl,rfl⟩:=hget;obtain⟨us,e1,e2,e3⟩:=T0 hgo4.sr hF4 htr hx1;exact⟨_,Zz e3,_,g3,rfl,hgo4,WK e1 e2⟩)
  exact this
 have done:∀(e:Ex)(s':PS),pc.exec G T fuel s1=s_ (e,s')->(e=.next\/e=.ret)->(Ed s' res).map (λl=>(DS l,s'.st))=s_ (d,st')->
   ∀a' w',R G base fn.ntmps w1 g1 s1.st ({target:=.fn (.func hf') us.toArray,args:=av.toArray}::dd) s' a' w'->LeavesInM yau 0 P fn a'.tmps (λe w'=>∃v g',e=.returned v/\Go1 base w g st w' g' st'/\RepV w' g' st' d v) a'.defers .returning w':=by
  rintro e s' hex he hget a' w' ⟨g2,h⟩;obtain⟨d2,hd3,hd4⟩:=h.df;rw[hd3];refine tC hrt _ d2 w' h.go1 h.fr hd4 λw2 hgo hF=>?_;refine⟨zac,.inr ⟨(by intro e;cases e),.func hf',us.toArray,hf',(av++us).toArray,rfl,hinv w2,λ_ _=>trivial,?_⟩⟩;have hG2:GlobOK G w2 g2:=h1.gl.mono hgo.im;refine((hcon base w2 g2 s'.st _ _ hgo.sr hG2 hdl (λi d v h1 h2=>hgo.rep (hdr i d v h1 h2))).1).mono ?_;rintro e u w3 ⟨rfl,rfl,g3,hgo3⟩;exact fin s' a' w3 g3 hget (hF.mono hgo3.im hgo3.evo) (h1.go1.trans (hgo.trans hgo3)) ((hd2.mono hgo.kp).mono hgo3.kp)
 split at hsp
 .rename_i s' hex;refine Mx hT rest n_ (.inl rfl) w1 g1 s1.st _ (by rw[hy];exact YOK.none) hrt hints (pc,_) htc fuel _ s' _ hex _ w1 _ hR1 λa' w' hR'=>?_;exact done _ s' hex (.inl rfl) hsp a' w' hR'
 .rename_i s' hex;refine Mx hT rest n_ (.inl rfl) w1 g1 s1.st _ (by rw[hy];exact YOK.none) hrt hints (pc,_) htc fuel _ s' _ hex _ w1 _ hR1 λa' w' hR'=>?_;exact done _ s' hex (.inr rfl) hsp a' w' hR'
 .rename_i t d2 s' hex
  split at hsp
  case h_2=>cases hsp
  rename_i st3 hst3;refine Mx hT rest n_ (.inl rfl) w1 g1 s1.st _ (by rw[hy];exact YOK.none) hrt hints (pc,_) htc fuel _ s' _ hex _ w1 _ hR1 ?_;rintro a' w' ⟨g2,h⟩;obtain⟨d3,hd3,hd4⟩:=h.df
  show LeavesInM yau 0 P fn a'.tmps _ a'.defers (.panicking (MJ t d2)) w'
  rw[hd3];refine mQ hrt _ d3 w' h.go1 h.fr hd4 λw2 hgo hF=>?_;refine⟨zac,.inr ⟨(by intro e;cases e),.func hf',us.toArray,hf',(av++us).toArray,rfl,hinv w2,λ_ _=>trivial,?_⟩⟩;have hG2:GlobOK G w2 g2:=h1.gl.mono hgo.im;refine((hcon base w2 g2 s'.st _ _ hgo.sr hG2 hdl (λi d v h1 h2=>hgo.rep (hdr i d v h1 h2))).2 t d2 st3 hst3).mono ?_;rintro e u w3 ⟨rfl,rfl,g3,hgo3⟩;exact fin ⟨s'.fr,st3⟩ a' w3 g3 hsp (hF.mono hgo3.im hgo3.evo) (h1.go1.trans (hgo.trans hgo3)) ((hd2.mono hgo.kp).mono hgo3.kp)
 .cases hsp
def Rb(E:TblOK P G T)(hy:T.y=λ_ _ _=>n_)(N:IY P il f hints=s_ F)(fuel:Nat):IContract P G f (F.runI G T fuel):=
 ⟨(YG E N fuel).1,λbase w g st st' ds vs d aa hS hG hl hr=>(YG E N fuel).2 base w g st st' ds vs d (by rw[hy];exact YOK.none) aa hS hG hl hr⟩
def Yqu(E:TblOK P G T)(N:IY P il f hints=s_ F){sp:(zsF)->zsF}
  (h:∀(l:Nat)y ds st r,sp y ds st=s_ r->∃fuel,F.runI G (Tp T l y) fuel (.clo (10000000+l) []::ds) st=s_ r):Zs P G f sp:=by
 refine⟨(YG E N 0).1,λbase w g st st' ds vs d l y hY aa hS hG hl hr=>?_⟩;obtain⟨fuel,hf⟩:=h l y ds st _ aa;have ab:TblOK P G (Tp T l y):=⟨E.p,E.i,E.m,E.r,E.x,E.q⟩;refine(YG ab N fuel).2 base w g st st' _ (_::vs) d hY hf hS hG (by simp[hl]) ?_;intro i d v hd hv
 cases i with
 |zero=>
  simp only[Ay,Dv]at hd hv;subst hd;subst hv;have:=RepV.clo (w:=w) (g:=g) (st:=st) (10000000+l) [] [] rfl (λi d v h=>by simp at h);rw[Ya8,mD,lE]at this;exact this
 |succ i=>exact hr i d v (by simpa using hd) (by simpa using hv)
def Yo8(h:RepV w g st d v):RepV w g (PI.cut k st) (Ji k d) v:=by
 cases d with
 |tup l=>
  cases h with
  |tup _ vs E N=>
   refine .tup _ vs (by simpa using E) λi d v hd hv=>?_;simp only[AI,D1]at hd;obtain⟨d0,h3,rfl⟩:=hd;exact ve (N i d0 v h3 hv)
 |_=>exact ve h
theorem IContract.dropped{sp:zsF}(h:IContract P G f sp):IContract P G f (PI.dropped sp):=by refine⟨h.1,λbase w g st st' ds vs d hd E N hl hr=>?_⟩;simp only[PI.dropped,D1,D4,Prod.exists]at hd;obtain⟨d0,st1,h1,rfl,rfl⟩:=hd;refine(h.2 base w g st st1 ds vs d0 h1 E N hl hr).mono ?_;rintro e w' ⟨v,g',rfl,h2,h3⟩;exact⟨v,g',rfl,h2.cut (Au _),Yo8 h3⟩
theorem pS(hT:TblOK P G T)(hy:T.y=λ_ _ _=>n_)(E:IY P il f hints=s_ F)(fuel:Nat):Contract P G f (F.run G T fuel):=by
 intro w g ds vs d a0 hG a1 hlen af _;unfold IY at E
 split at E
 case h_2=>cases E
 rename_i fn a2
 split at E
 case h_2=>cases E
 rename_i c hc
 split at E
 case h_2=>cases E
 rename_i pc ac res a3 a4
 split at E
 .cases E
 simp only[Dv]at E;subst E;have hS:SR w.heap.size w g []:=⟨λk o h=>by simp at h,λk o h=>by simp at h,λk k' o o' h=>by simp at h,a1,λk o x h=>by simp at h,Au _⟩
 have key:∀(e:Ex)(s':PS),pc.exec G T fuel {fr:=Du ds,st:=[]}=s_ (e,s')->(E8 s' res).map DS=s_ d->(e=.next\/e=.ret)->
   Calls P f vs.toArray w λe w'=>∃v g',e=.returned v/\RepV w' g' [] d v/\purR d=t_/\ImLe w g w' g'/\(∀b o,g'.Im b o->g.Im b o\/w.heap.size<=b)/\
   (∀b o,g'.Im b o->(w'.cell? ⟨b,o,n_⟩).isSome=t_)/\Below w.heap.size w w':=by
  intro e s' hex ab he;refine callsIn_wide.1 (callsIn_of_wp_marks (F:=yau) (n:=0) a2 hc trivial ?_)
  have a5:R G w.heap.size fn.ntmps w g [] [] {fr:=Du ds,st:=[]} {tmps:=vs.toArray++Dc (fn.ntmps-vs.toArray.size) undef,defers:=[]} w:=by
   refine⟨g,Go1.refl hS,?_,hG,⟨[],rfl,trivial⟩,?_⟩
   .intro s;simp only[Du];rcases Bg s ds.length with h1|h1
    .have h2:s<vs.length:=zaa
     have h3:(vs.toArray++Dc (fn.ntmps-vs.toArray.size) undef).getD s undef=vs[s]:=by
      simp[Array.getD,h2];omega
     rw[h3];have:=af s ds[s] vs[s] (by simp[h1]) (by simp[h2]);grind
    .simp[Am,Bh h1];exact .junk _
   .simp;omega
  have fin:∀a' w',R G w.heap.size fn.ntmps w g [] [] s' a' w'->LeavesInM yau 0 P fn a'.tmps (λe w'=>∃v g',e=.returned v/\RepV w' g' [] d v/\purR d=t_/\ImLe w g w' g'/\(∀b o,g'.Im b o->g.Im b o\/w.heap.size<=b)/\
   (∀b o,g'.Im b o->(w'.cell? ⟨b,o,n_⟩).isSome=t_)/\Below w.heap.size w w') a'.defers .returning w':=by
   rintro a' w' ⟨g1,h⟩;obtain⟨dd,a7,a8⟩:=h.df;rw[a7,Ai];refine WN (Au _) dd w' h.go1 h.fr a8 λw2 aa hF=>?_;simp only[D1]at ab;obtain⟨ys,a9,rfl⟩:=ab;obtain⟨xs,ba,bb⟩:=kL a9;obtain⟨us,e1,e2,e3⟩:=T0 aa.sr hF a4 ba;obtain⟨g2,bc,_,e5,e6,e7⟩:=WO aa.sr bb;have N:=aa.trans bc;refine⟨_,Zz e3,_,g2,rfl,?_,qP e6,N.im,N.new,N.sr.im,N.below⟩;have h8:=WK (g:=g2) (w:=w2) (ds:=ys) (vs:=us) zaa λi y v hy hv=>e7 i y v hy λx hx=>e2 i x v hx hv;exact h8.purR (ImLe.refl _ _) (qP e6)
  refine Mx hT c n_ (.inl rfl) w g [] [] (by rw[hy];exact YOK.none) (Au _) hints (pc,ac) a3 fuel _ s' e hex _ w _ a5 ?_;intro a' w' ad;rcases he with rfl|rfl
  .exact fin a' w' ad
  .exact fin a' w' ad
 simp only[PF.run]at a0;grind
def wH(E:TblOK P G T)(N:T.y=λ_ _ _=>n_)(ht:IY P il f hints=s_ F){sp:zsP}(h:∀ds d,sp ds=s_ d->∃fuel,F.run G T fuel ds=s_ d):Contract P G f sp:=by intro w g ds vs d hd;obtain⟨fuel,hf⟩:=h ds d hd;exact pS E N ht fuel w g ds vs d hf
end
open Go Go.RowKit
inductive Ty where
 |bool
 |int (k:IntKind)
 |str
 |slc (e:Ty)
 |agg (fs:List Ty)
 |opq (Q:D->Prop)
 deriving Inhabited
mutual
def Ty.size:Ty->Nat
 |.agg fs=>Ty.sizes fs
 |_=>1
def Ty.sizes:List Ty->Nat
 |[]=>0
 |f::r=>f.size+Ty.sizes r
end
inductive Has:Ty->D->Prop
 |bool (b:Bool):Has .bool (.bool b)
 |int (k:IntKind) (n:Int):(Lit.int k n).wf=t_->Has (.int k) (.int k n)
 |str (s:zLB):s.length<=maxLen->Has .str (.str s)
 |slc (e:Ty) (els:List D):(∀(i:Nat)x,els[i]?=s_ x->Has e x)->els.length<=maxLen->Has (.slc e) (.slc (nz e.size els) els f_)
 |opq (Q:D->Prop) (sz:Nat) (els:List D):Q (.slc (nz sz els) els f_)->Has (.opq Q) (.slc (nz sz els) els f_)
 |agg (fs:List Ty) (xs:List D):fs.length=xs.length->(∀(i:Nat)f x,fs[i]?=s_ f->xs[i]?=s_ x->Has f x)->Has (.agg fs) (.agg (xs.flatMap yaZ))
def oK(P:Program):Nat->List Field->List Ty->Bool
 |_,[],[]=>t_
 |o,f::fs,t::ts=>f.offset==o&&P.cellsOf f.type==t.size&&oK P (o+t.size) fs ts
 |_,_,_=>f_
def XJ(tf:TypeId->Option Ty):List Field->Option (List Ty)
 |[]=>s_ []
 |f::fs=>match tf f.type,XJ tf fs with
  |some t,s_ ts=>s_ (t::ts)
  |_,_=>n_
inductive TyD (P:Program):TypeId->D->Prop
 |bool (t:TypeId) (b:Bool):P.underlying t=s_ .bool->TyD P t (.bool b)
 |int (t:TypeId) (k:IntKind) (n:Int):P.underlying t=s_ (.int k)->(Lit.int k n).wf=t_->TyD P t (.int k n)
 |str (t:TypeId) (s:zLB):P.underlying t=s_ .string->s.length<=maxLen->TyD P t (.str s)
 |slc (t e:TypeId) (els:List D):P.underlying t=s_ (.slice e)->(∀x∈els,TyD P e x)->els.length<=maxLen->TyD P t (.slc (nz (P.cellsOf e) els) els f_)
 |agg (t:TypeId) (fs:Array Field) (xs:List D):P.underlying t=s_ (.struct fs)->fs.toList.length=xs.length->(∀(i:Nat)f x,fs.toList[i]?=s_ f->xs[i]?=s_ x->TyD P f.type x)->TyD P t (.agg (xs.flatMap yaZ))
 |arr (t:TypeId) (m:Nat) (e:TypeId) (xs:List D):P.underlying t=s_ (.array m e)->xs.length=m->(∀x∈xs,TyD P e x)->TyD P t (.agg (xs.flatMap yaZ))
def jS(P:Program):Nat->Nat->List Field->Bool
 |o,n,[]=>o==n
 |o,n,f::fs=>f.offset==o&&jS P (o+P.cellsOf f.type) n fs
def Ws(P:Program)(S:List TypeId)(t:TypeId):Bool:=match P.underlying t with
 |some .bool|some (.int _)|some .string=>P.cellsOf t==1
 |some (.slice e)=>S.contains e&&decide (0<P.cellsOf e)&&P.cellsOf t==1
 |some (.struct fs)=>fs.toList.all (λf=>S.contains f.type)&&jS P 0 (P.cellsOf t) fs.toList
 |some (.array m e)=>S.contains e&&P.cellsOf t==m*P.cellsOf e
 |_=>f_
def M3(P:Program)(S:List TypeId):Bool:=S.all (Ws P S)
def YMa(P:Program)(t:TypeId):List TypeId:=match P.underlying t with
 |some (.slice e)|some (.array _ e)=>[e]
 |some (.struct fs)=>fs.toList.map (·.type)
 |_=>[]
def VK(P:Program):Nat->List TypeId->List TypeId
 |0,S=>S
 |n+1,S=>VK P n ((S++S.flatMap (YMa P)).eraseDups)
def Hg(P:Program):Nat->TypeId->Option Ty
 |0,_=>n_
 |n+1,t=>match P.underlying t with
  |some .bool=>s_ .bool
  |some (.int k)=>s_ (.int k)
  |some .string=>s_ .str
  |some (.slice e)=>match Hg P n e with
   |some x=>if P.cellsOf e==x.size&&decide (0<x.size)then s_ (.slc x)else n_
   |none=>if M3 P (VK P 6 [t])&&(VK P 6 [t]).contains t then s_ (.opq (TyD P t))else n_
  |some (.struct fs)=>match XJ (Hg P n) fs.toList with
   |some ts=>if oK P 0 fs.toList ts&&P.cellsOf t==Ty.sizes ts then s_ (.agg ts)else n_
   |none=>n_
  |some (.array m e)=>match Hg P n e with
   |some x=>if P.cellsOf e==x.size&&P.cellsOf t==m*x.size then s_ (.agg (C7 m x))else n_
   |none=>n_
  |_=>n_
def jM(w:World):Nat->Nat->Prop:=λb o=>(w.cell? ⟨b,o,n_⟩).isSome=t_
def ghost0(w:World):Ghost:={β:=id,γ:=id,Im:=jM w}
variable{cs:List Value}{a:Addr}
section
variable{H:Type}{enc:TypeId×Value->H}{P:Program}{w:World}
def RepL(w:World)(xs:List D)(cs:List Value):Prop:=xs.length=cs.length/\(∀(j:Nat)y v,xs[j]?=s_ y->cs[j]?=s_ v->RepV w (ghost0 w) [] y v)/\∀y∈xs,y.pure1=t_
theorem RepL.nil:RepL w [] []:=⟨rfl,λj y v h=>by simp at h,λy h=>by cases h⟩
theorem RepL.append{xs ys:List D}{ds:List Value}(h:RepL w xs cs)(N:RepL w ys ds):RepL w (xs++ys) (cs++ds):=by
 refine⟨by simp[h.1,N.1],λj y v E hv=>?_,λy E=>?_⟩
 .rcases Bg j xs.length with hj|hj
  .rw[Aw hj]at E;rw[Aw (by rw[<-h.1];exact hj)]at hv;exact h.2.1 j y v E hv
  .rw[AF hj]at E;rw[AF (by rw[<-h.1];exact hj),<-h.1]at hv;exact N.2.1 _ y v E hv
 .rcases AK.1 E with E|E
  .exact h.2.2 y E
  .exact N.2.2 y E
theorem RepL.one{x:D}{v:Value}(h:RepV w (ghost0 w) [] x v)(E:x.pure1=t_):RepL w x.cells [v]:=by
 rw[mo E];refine⟨rfl,λj y u N hu=>?_,λy N=>?_⟩
 .grind
 .grind
def Ytc{s:ByteArray}:RepV w (ghost0 w) [] (.str s.data.toList) (.string s):=v9 s _ rfl
mutual
def wt:D->Nat
 |.slc _ els _=>Iu els+1
 |.agg l=>Iu l
 |.str s=>s.length+1
 |.int _ _=>1
 |.bool _=>1
 |_=>0
def Iu:List D->Nat
 |[]=>0
 |d::l=>wt d+Iu l
end
mutual
def blk{H:Type}:DataW H->Nat
 |.lit (.string s)=>s.length+1
 |.lit _=>1
 |.nil=>1
 |.slice e _=>Hk e+1
 |.agg p=>Hk p
 |_=>0
def Hk{H:Type}:List (DataW H)->Nat
 |[]=>0
 |d::l=>blk d+Hk l
end
theorem Zv:∀(a b:List D),Iu (a++b)=Iu a+Iu b
 |[],b=>by simp[Iu]
 |x::a,b=>by rw[Aj,Iu,Iu,Zv a b];omega
def lu(d:D):Iu d.cells=wt d:=by cases d<;>simp[yaZ,Iu,wt]
theorem Ych:∀(a:List D)(b:List (DataW H)),a.length=b.length->(∀(i:Nat)x y,a[i]?=s_ x->b[i]?=s_ y->wt x<=blk y)->Iu a<=Hk b
 |[],b,_,_=>by simp[Iu]
 |x::a,[],h,_=>by simp at h
 |x::a,y::b,h,hle=>by
  have h1:=hle 0 x y rfl rfl;have h2:=Ych a b (by simpa using h) (λi x y E N=>hle (i+1) x y (by simpa using E) (by simpa using N));simp only[Iu,Hk];omega
def YDn(enc:TypeId×Value->H)(P:Program)(w:World)(sp:Nat->Bool)(t:TypeId)(ty:Ty):Prop:=
 ∀(fuel:Nat)(cs:List Value)(x:DataW H×List MemPlace),yar enc P w 0 sp t_ fuel t cs=s_ x->∃d,Has ty d/\RepL w d.cells cs/\cs.length=ty.size/\((∃fs,ty=.agg fs)\/d.pure1=t_)/\wt d<=blk x.1
theorem yAf{sp:Nat->Bool}{tf:TypeId->Option Ty}(aa:∀t ty,tf t=s_ ty->YDn enc P w sp t ty)(fuel:Nat)(cs:List Value):∀(fs:List Field)(E:List Ty)(o:Nat)(ys:List (DataW H×List MemPlace)),
  XJ tf fs=s_ E->oK P o fs E=t_->fs.mapM (λf=>yar enc P w 0 sp t_ fuel f.type ((cs.drop f.offset).take (P.cellsOf f.type)))=s_ ys->
  ∃xs:List D,E.length=xs.length/\(∀(i:Nat)f x,E[i]?=s_ f->xs[i]?=s_ x->Has f x)/\RepL w (xs.flatMap yaZ) ((cs.drop o).take (Ty.sizes E))/\(o<=cs.length->o+Ty.sizes E<=cs.length)/\Iu (xs.flatMap yaZ)<=Hk (ys.map (·.1))
 |[],E,o,ys,N,h2,h3=>by
  simp[XJ]at N;subst N;exact⟨[],rfl,λi f x h=>by simp at h,by simpa[Ty.sizes]using RepL.nil,λh=>by simpa[Ty.sizes]using h,by simp[Iu]⟩
 |f::fs,E,o,ys,N,h2,h3=>by
  unfold XJ at N
  split at N
  case h_2=>cases N
  rename_i t ae ht af;simp only[Dv]at N;subst N;simp only[oK,Af,zao]at h2;obtain⟨⟨e1,e2⟩,e3⟩:=h2;simp only[BB,Bs,AD,BJ,Dv]at h3;obtain⟨y,hy,a0,a1,rfl⟩:=h3;rw[e1,e2]at hy;obtain⟨d,d1,d2,d3,_,d5⟩:=aa _ _ ht fuel _ _ hy;obtain⟨xs,x1,x2,x3,x4,x5⟩:=yAf aa fuel cs fs ae (o+t.size) a0 af e3 a1
  have hlen:o+t.size<=cs.length\/t.size=0:=by
   grind
  refine⟨d::xs,by simp[x1],?_,?_,?_,?_⟩
  .grind
  .have:=d2.append x3;simp only[AA,Ty.sizes];rw[CR,BA];exact this
  .intro ho;simp only[Ty.sizes];omega
  .simp only[AA,Zv,lu,Av,Hk];omega
theorem yD1{sp:Nat->Bool}{e:TypeId}{x:Ty}(E:YDn enc P w sp e x)(hc:P.cellsOf e=x.size)(fuel:Nat)(cs:List Value):∀(n k:Nat)(ys:List (DataW H×List MemPlace)),
  (List.range' k n).mapM (λi=>yar enc P w 0 sp t_ fuel e ((cs.drop (i*P.cellsOf e)).take (P.cellsOf e)))=s_ ys->
  ∃xs:List D,xs.length=n/\(∀(i:Nat)y,xs[i]?=s_ y->Has x y)/\RepL w (xs.flatMap yaZ) ((cs.drop (k*x.size)).take (n*x.size))/\Iu (xs.flatMap yaZ)<=Hk (ys.map (·.1))
 |0,k,ys,h=>⟨[],rfl,λi y h=>by simp at h,by simpa using RepL.nil,by simp[Iu]⟩
 |n+1,k,ys,h=>by
  simp only[BZ,BB,Bs,AD,BJ,Dv]at h;obtain⟨y,N,aa,ab,rfl⟩:=h;rw[hc]at N;obtain⟨d,d1,d2,d3,_,d5⟩:=E fuel _ _ N;obtain⟨xs,x1,x2,x3,x5⟩:=yD1 E hc fuel cs n (k+1) aa ab;refine⟨d::xs,by simp[x1],?_,?_,?_⟩
  .grind
  .have:=d2.append x3;simp only[AA];rw[A9,BC,B6 (n*x.size),CR,BA];grind
  .simp only[AA,Zv,lu,Av,Hk];omega
theorem Ty.sizes_replicate(x:Ty):∀m,Ty.sizes (C7 m x)=m*x.size
 |0=>by simp[Ty.sizes]
 |m+1=>by rw[B3,Ty.sizes,Ty.sizes_replicate x m,A9,BC,B6]
theorem cells?_get{base:Nat}{n:Nat}(h:w.cells? base a n=s_ cs):cs.length=n/\∀(j:Nat)v,cs[j]?=s_ v->w.cell? (a.add j)=s_ v:=by
 unfold World.cells? at h
 split at h
 .have hl:cs.length=n:=by simpa using Lib.mapM_length h
  refine⟨hl,λj v hv=>?_⟩;have hj:j<n:=by rw[<-hl];exact(Aa.1 hv).1
  obtain⟨b,hb,hf⟩:=Lib.mapM_at h j j (by simp[hj]);grind
 .cases h
def Yli(enc:TypeId×Value->H)(P:Program)(w:World)(sp:Nat->Bool)(fuel:Nat)(t:TypeId):Prop:=
 ∀(cs:List Value)(x:DataW H×List MemPlace),yar enc P w 0 sp t_ fuel t cs=s_ x->∃d,TyD P t d/\RepL w d.cells cs/\cs.length=P.cellsOf t/\((∃l,d=.agg l)\/d.pure1=t_)/\wt d<=blk x.1
theorem yxm{sp:Nat->Bool}{fuel:Nat}(cs:List Value)(n:Nat):∀(fs:List Field)(o:Nat)(ys:List (DataW H×List MemPlace)),(∀f∈fs,Yli enc P w sp fuel f.type)->jS P o n fs=t_->
  fs.mapM (λf=>yar enc P w 0 sp t_ fuel f.type ((cs.drop f.offset).take (P.cellsOf f.type)))=s_ ys->
  ∃xs:List D,fs.length=xs.length/\(∀(i:Nat)f x,fs[i]?=s_ f->xs[i]?=s_ x->TyD P f.type x)/\RepL w (xs.flatMap yaZ) ((cs.drop o).take (n-o))/\o<=n/\Iu (xs.flatMap yaZ)<=Hk (ys.map (·.1))
 |[],o,ys,_,E,h3=>by
  simp only[jS,zao]at E;subst E;exact⟨[],rfl,λi f x h=>by simp at h,by simpa using RepL.nil,Au _,by simp[Iu]⟩
 |f::fs,o,ys,N,E,h3=>by
  simp only[jS,Af,zao]at E;obtain⟨e1,e3⟩:=E;simp only[BB,Bs,AD,BJ,Dv]at h3;obtain⟨y,hy,ac,ad,rfl⟩:=h3;rw[e1]at hy;obtain⟨d,d1,d2,d3,_,d5⟩:=N f zac _ _ hy;obtain⟨xs,x1,x2,x3,x4,x5⟩:=yxm cs n fs (o+P.cellsOf f.type) ac (λg hg=>N g (by simp[hg])) e3 ad;refine⟨d::xs,by simp[x1],?_,?_,zaa,?_⟩
  .grind
  .have:=d2.append x3;simp only[AA];rw[show n-o=P.cellsOf f.type+(n-(o+P.cellsOf f.type)) by omega,CR,BA];exact this
  .simp only[AA,Zv,lu,Av,Hk];omega
theorem yz7{sp:Nat->Bool}{fuel:Nat}{e:TypeId}(E:Yli enc P w sp fuel e)(cs:List Value):∀(n k:Nat)(ys:List (DataW H×List MemPlace)),
  (List.range' k n).mapM (λi=>yar enc P w 0 sp t_ fuel e ((cs.drop (i*P.cellsOf e)).take (P.cellsOf e)))=s_ ys->
  ∃xs:List D,xs.length=n/\(∀y∈xs,TyD P e y)/\RepL w (xs.flatMap yaZ) ((cs.drop (k*P.cellsOf e)).take (n*P.cellsOf e))/\Iu (xs.flatMap yaZ)<=Hk (ys.map (·.1))
 |0,k,ys,h=>⟨[],rfl,(λy h=>by cases h),by simpa using RepL.nil,by simp[Iu]⟩
 |n+1,k,ys,h=>by
  simp only[BZ,BB,Bs,AD,BJ,Dv]at h;obtain⟨y,hy,N,aa,rfl⟩:=h;obtain⟨d,d1,d2,d3,_,d5⟩:=E _ _ hy;obtain⟨xs,x1,x2,x3,x5⟩:=yz7 E cs n (k+1) N aa;refine⟨d::xs,by simp[x1],?_,?_,?_⟩
  .grind
  .have:=d2.append x3;simp only[AA];rw[A9,BC,B6 (n*P.cellsOf e),CR,BA];grind
  .simp only[AA,Zv,lu,Av,Hk];omega
theorem yQn{Q:D->Prop}{sz:Nat}{len cap:Nat}{bs:Nat->Nat}(aa:0<sz)(a0:len<=cap)
  (E:∀i,i<len->∃d,Q d/\d.cells.length=sz/\(∀(j:Nat)y,d.cells[j]?=s_ y->y.pure1=t_/\∃v,w.cell? ((a.add (i*sz)).add j)=s_ v/\RepV w (ghost0 w) [] y v)/\wt d<=bs i):
  ∃els:List D,els.length=len/\(∀x∈els,Q x)/\RepL w (D.slc (nz sz els) els f_).cells [.slice (s_ a) len cap]/\∀(i:Nat)x,els[i]?=s_ x->wt x<=bs i:=by
 let f:Nat->D:=λi=>if hi:i<len then(E i hi).choose else .junk
 have hf:∀i(hi:i<len),f i=(E i hi).choose:=λi hi=>by simp[f,hi]
 have ad:∀(i:Nat)x,((C9 len).map f)[i]?=s_ x->∃hi:i<len,x=(E i hi).choose:=by
  intro i x hx;simp only[AI,D1]at hx;obtain⟨i',N,rfl⟩:=hx;rw[Aa]at N;obtain⟨h2,h3⟩:=N;simp at h2 h3;grind
 refine⟨(C9 len).map f,zac,λx hx=>?_,?_,λi x hx=>?_⟩
 .grind
 .refine RepL.one (RepV.nz (t:=f_) ?_) rfl;rcases Cb len with h0|h0
  .subst h0;exact .slcE _ f_ (s_ a) cap (λh=>by cases h)
  .have ac:a.spot=n_:=by
    obtain⟨d1,d2,d3,_⟩:=(E 0 h0).choose_spec;obtain⟨_,v,N,_⟩:=d3 0 _ (Ah (by rw[d2];exact aa));rw[CD]at N;have h2:(a.add 0).add 0=a:=by simp[Addr.add]
    rw[h2]at N;unfold yax at N
    split at N
    .split at N
     .cases N
     .rename_i hs;simpa using hs
    .cases N
   obtain⟨b,off,spot⟩:=a;simp only at ac;subst ac;have hl:len=((C9 len).map f).length:=zac
   conv=>rhs;rw[hl]
   refine RepV.slc_mk aa ?_ (by simpa using a0) (λh=>by cases h) ?_
   .grind
   .intro i j d hd;obtain⟨e',he,hj⟩:=Jx hd;obtain⟨a1,rfl⟩:=ad i e' he;obtain⟨hp,v,hv,hr⟩:=(E i a1).choose_spec.2.2.1 j d hj;rw[Nc,Nc]at hv;refine⟨hp,?_,v,hv,hr⟩
    show(w.cell? ⟨b,off+i*sz+j,n_⟩).isSome=t_
    rw[hv];rfl
 .grind
theorem yHs{sp:Nat->Bool}{S:List TypeId}(hS:M3 P S=t_):∀(fuel:Nat)(t:TypeId),t∈S->Yli enc P w sp fuel t
 |0,t,_=>by intro cs x E;simp[yar]at E
 |fuel+1,t,ht=>by
  have ih:=λt ht=>yHs (sp:=sp) hS fuel t ht;have hc:Ws P S t=t_:=Ad.1 hS t ht;unfold Ws at hc;intro cs x E
  split at hc
  .rename_i hu;simp only[zao]at hc;unfold yar at E;rw[hu]at E
   split at E<;>simp_all
   exact⟨_,.bool t _ hu,RepL.one (.bool _) rfl,.inr rfl,by rw[<-E];simp[wt,blk]⟩
  .rename_i k hu;simp only[zao]at hc;unfold yar at E;rw[hu]at E
   split at E<;>simp_all
   rename_i k' m;obtain⟨⟨rfl,hw⟩,N⟩:=E;exact⟨_,.int t _ _ hu hw,RepL.one (.int _ _) rfl,.inr rfl,by rw[<-N];simp[wt,blk]⟩
  .rename_i hu;simp only[zao]at hc;unfold yar at E;rw[hu]at E
   split at E<;>simp_all
   rename_i s;exact⟨_,.str t s.data.toList hu (by simpa using E.1),RepL.one Ytc rfl,.inr rfl,by rw[<-E.2];simp[wt,blk]⟩
  .rename_i e hu;simp only[Af,Bi,zan,zao]at hc;obtain⟨⟨aa,ah⟩,ac⟩:=hc;rcases ybz hu E with⟨rfl,N⟩|⟨a,len,cap,elems,rest,m,hm,rfl,N,_,a8,bg,hlen,a9,_,_⟩
   .refine⟨.slc (nz (P.cellsOf e) []) [] f_,.slc t e [] hu (λx h=>by cases h) (AS _),RepL.one (.slcE _ f_ n_ 0 (λh=>by cases h)) rfl,ac.symm,.inr rfl,by rw[N];simp[wt,Iu,blk]⟩
   .obtain rfl:m=fuel:=zaa
    have a0:∀i,i<len->∃d,TyD P e d/\d.cells.length=P.cellsOf e/\(∀(j:Nat)y,d.cells[j]?=s_ y->y.pure1=t_/\∃v,w.cell? ((a.add (i*P.cellsOf e)).add j)=s_ v/\RepV w (ghost0 w) [] y v)/\wt d<=((elems[i]?).map λy=>blk y.1).getD 0:=by
     intro i hi;have h1:=a9 i hi;rw[Ah zaa]at h1⊢;simp only[AD]at h1;obtain⟨cs',h2,h3⟩:=h1;obtain⟨d,d1,d2,d3,_,d5⟩:=ih e aa cs' _ h3;obtain⟨h4,h5⟩:=cells?_get h2;refine⟨d,d1,by rw[d2.1,h4],λj y hy=>⟨d2.2.2 y (Ak hy),?_⟩,by simpa using d5⟩;have hj:j<cs'.length:=by rw[<-d2.1];exact(Aa.1 hy).1
     exact⟨cs'[j],h5 j _ (Ah hj),d2.2.1 j y _ hy (Ah hj)⟩
    obtain⟨els,e1,e2,e3,e4⟩:=yQn ah a8 a0;refine⟨_,.slc t e els hu e2 zaa,e3,ac.symm,.inr rfl,?_⟩;rw[N];simp only[wt,blk];refine Nat.succ_le_succ (Ych _ _ (by simp;omega) ?_);grind
  .rename_i fs hu;simp only[Af,Ad,Bi]at hc;obtain⟨aa,a3⟩:=hc;unfold yar at E;rw[hu]at E;simp only at E
   split at E
   case isFalse=>cases E
   rename_i hl;simp only[D1]at E;obtain⟨ys,ab,rfl⟩:=E;obtain⟨xs,x1,x2,x3,x4,x5⟩:=yxm cs (P.cellsOf t) fs.toList 0 ys (λf hf=>ih f.type (aa f hf)) a3 ab;refine⟨.agg (xs.flatMap yaZ),.agg t fs xs hu x1 x2,?_,hl,.inl ⟨_,rfl⟩,by simpa only[wt,blk]using x5⟩;rw[Cf,Nat.sub_zero,AE zaa]at x3;exact x3
  .rename_i m e hu;simp only[Af,Bi,zao]at hc;obtain⟨aa,bh⟩:=hc;unfold yar at E;rw[hu]at E;simp only at E
   split at E
   case isFalse=>cases E
   rename_i hl;simp only[D1]at E;obtain⟨ys,ab,rfl⟩:=E;rw[Bp]at ab;obtain⟨xs,x1,x2,x3,x5⟩:=yz7 (ih e aa) cs m 0 ys ab;refine⟨.agg (xs.flatMap yaZ),.arr t m e xs hu x1 x2,?_,hl,.inl ⟨_,rfl⟩,by simpa only[wt,blk]using x5⟩;rw[CD,Cf,AE zaa]at x3;exact x3
  .cases hc
theorem yTx{sp:Nat->Bool}:∀(n:Nat)(t:TypeId)(ty:Ty),Hg P n t=s_ ty->YDn enc P w sp t ty
 |0,_,_,h=>by simp[Hg]at h
 |n+1,t,ty,h=>by
  have ih:=yTx (sp:=sp) n;intro fuel cs x E;unfold Hg at h
  cases fuel with
  |zero=>simp[yar]at E
  |succ fuel=>
  split at h
  .rename_i hu;simp only[Dv]at h;subst h;unfold yar at E;rw[hu]at E
   split at E<;>simp_all
   exact⟨_,.bool _,RepL.one (.bool _) rfl,rfl,rfl,by rw[<-E];simp[wt,blk]⟩
  .rename_i k hu;simp only[Dv]at h;subst h;unfold yar at E;rw[hu]at E
   split at E<;>simp_all
   rename_i k' m;obtain⟨⟨rfl,hw⟩,ab⟩:=E;exact⟨_,.int _ _ hw,RepL.one (.int _ _) rfl,rfl,rfl,by rw[<-ab];simp[wt,blk]⟩
  .rename_i hu;simp only[Dv]at h;subst h;unfold yar at E;rw[hu]at E
   split at E<;>simp_all
   rename_i s;exact⟨_,.str s.data.toList (by simpa using E.1),RepL.one Ytc rfl,rfl,rfl,by rw[<-E.2];simp[wt,blk]⟩
  .rename_i e hu
   split at h
   case h_2=>
    split at h
    case isFalse=>cases h
    rename_i ac;simp only[Af,Bi]at ac;simp only[Dv]at h;subst h;obtain⟨d,d1,d2,d3,d4,d5⟩:=yHs ac.1 (fuel+1) t ac.2 cs x E
    have a1:P.cellsOf t=1:=by
     have:=Ad.1 ac.1 t ac.2;unfold Ws at this;grind
    rw[a1]at d3
    have:∃sz els,d=.slc (nz sz els) els f_:=by
     cases d1 with
     |slc _ e' els N h2 h3=>exact⟨_,_,rfl⟩
     |agg _ fs xs N=>rw[hu]at N;cases N
     |arr _ m e' xs N=>rw[hu]at N;cases N
     |bool _ b N=>rw[hu]at N;cases N
     |int _ k n N=>rw[hu]at N;cases N
     |str _ s N=>rw[hu]at N;cases N
    obtain⟨sz,els,rfl⟩:=this;exact⟨_,.opq _ sz els d1,d2,d3,.inr rfl,d5⟩
   rename_i ex hex
   split at h
   case isFalse=>cases h
   rename_i hc;simp only[Af,zao,zan]at hc;simp only[Dv]at h;subst h;rcases ybz hu E with⟨rfl,ab⟩|⟨a,len,cap,elems,rest,m,_,rfl,ab,_,ba,b3,hlen,bb,_,_⟩
   .exact⟨_,.slc ex [] (λi x h=>by simp at h) (AS _),RepL.one (.slcE _ f_ n_ 0 (λh=>by cases h)) rfl,rfl,.inr rfl,by rw[ab];simp[wt,Iu,blk]⟩
   .have aa:∀i(hi:i<len),∃d,Has ex d/\d.cells.length=ex.size/\(∀(j:Nat)y,d.cells[j]?=s_ y->y.pure1=t_/\∃v,w.cell? ((a.add (i*ex.size)).add j)=s_ v/\RepV w (ghost0 w) [] y v)/\wt d<=blk (elems[i]' zaa).1:=by
     intro i hi;have N:=bb i hi;rw[hc.1,Ah zaa]at N;simp only[AD]at N;obtain⟨cs',h2,h3⟩:=N;obtain⟨d,d1,d2,d3,_,d5⟩:=ih e ex hex m cs' _ h3;obtain⟨h4,h5⟩:=cells?_get h2;refine⟨d,d1,by rw[d2.1,h4],λj y hy=>⟨d2.2.2 y (Ak hy),?_⟩,d5⟩;have hj:j<cs'.length:=by rw[<-d2.1];exact(Aa.1 hy).1
     exact⟨cs'[j],h5 j _ (Ah hj),d2.2.1 j y _ hy (Ah hj)⟩
    let f:Nat->D:=λi=>if hi:i<len then(aa i hi).choose else .junk
    have hf:∀i(hi:i<len),f i=(aa i hi).choose:=λi hi=>by simp[f,hi]
    have a4:∀(i:Nat)x,((C9 len).map f)[i]?=s_ x->∃hi:i<len,x=(aa i hi).choose:=by
     grind
    refine⟨.slc (nz ex.size ((C9 len).map f)) ((C9 len).map f) f_,.slc ex _ (λi x E=>?_) (by simp;omega),?_,rfl,.inr rfl,?_⟩
    .grind
    .refine RepL.one (RepV.nz (t:=f_) ?_) rfl;rcases Cb len with h0|h0
     .subst h0;exact .slcE _ f_ (s_ a) cap (λh=>by cases h)
     .have ah:a.spot=n_:=by
       obtain⟨d1,d2,d3,_⟩:=(aa 0 h0).choose_spec;obtain⟨_,v,N,_⟩:=d3 0 _ (Ah (by rw[d2];exact hc.2));rw[CD]at N;have h2:(a.add 0).add 0=a:=by simp[Addr.add]
       rw[h2]at N;unfold yax at N
       split at N
       .split at N
        .cases N
        .rename_i hs;simpa using hs
       .cases N
      obtain⟨b,off,spot⟩:=a;simp only at ah;subst ah;have hl:len=((C9 len).map f).length:=zac
      conv=>rhs;rw[hl]
      refine RepV.slc_mk hc.2 ?_ (by simpa using ba) (λh=>by cases h) ?_
      .grind
      .intro i j d hd;obtain⟨e',he,hj⟩:=Jx hd;obtain⟨bc,rfl⟩:=a4 i e' he;obtain⟨hp,v,hv,hr⟩:=(aa i bc).choose_spec.2.2.1 j d hj;rw[Nc,Nc]at hv;refine⟨hp,?_,v,hv,hr⟩
       show(w.cell? ⟨b,off+i*ex.size+j,n_⟩).isSome=t_
       rw[hv];rfl
    .rw[ab];simp only[wt,blk];refine Nat.succ_le_succ (Ych _ _ (by simp;omega) ?_);grind
  .rename_i fs hu
   split at h
   case h_2=>cases h
   rename_i ts bd
   split at h
   case isFalse=>cases h
   rename_i hc;simp only[Af,zao]at hc;simp only[Dv]at h;subst h;unfold yar at E;rw[hu]at E;simp only at E
   split at E
   case isFalse=>cases E
   rename_i hl;simp only[D1]at E;obtain⟨ys,ad,rfl⟩:=E;obtain⟨xs,x1,x2,x3,x4,x5⟩:=yAf ih fuel cs fs.toList ts 0 ys bd hc.1 ad;refine⟨.agg (xs.flatMap yaZ),.agg ts xs x1 x2,?_,by rw[hl,hc.2];rfl,.inl ⟨ts,rfl⟩,by simpa only[wt,blk]using x5⟩;rw[Cf,AE zaa]at x3;exact x3
  .rename_i m e hu
   split at h
   case h_2=>cases h
   rename_i ex hex
   split at h
   case isFalse=>cases h
   rename_i hc;simp only[Af,zao]at hc;simp only[Dv]at h;subst h;unfold yar at E;rw[hu]at E;simp only at E
   split at E
   case isFalse=>cases E
   rename_i hl;simp only[D1]at E;obtain⟨ys,ad,rfl⟩:=E;rw[Bp]at ad;obtain⟨xs,x1,x2,x3,x5⟩:=yD1 (ih e ex hex) hc.1 fuel cs m 0 ys ad;refine⟨.agg (xs.flatMap yaZ),.agg _ xs (by simp[x1]) ?_,?_,by rw[hl,hc.2];exact(Ty.sizes_replicate ex m).symm,.inl ⟨_,rfl⟩,by simpa only[wt,blk]using x5⟩
   .grind
   .rw[CD,Cf,AE zaa]at x3;exact x3
  .cases h
end
open Go Go.RowKit Go.ChangeShapes
variable{v:Value}{a:Addr}{n:Nat}{before:List MemPlace}{args:Array Value}{s:ChangeSpec}{tys:List Ty}{sp:zsP}{fn:Func}{G:Dy}
section
variable{H:Type}{enc:TypeId×Value->H}{P:Program}{W W':World}
theorem Qi{α β:Type}{f g:α->Option β}:∀{l:List α}{r:List β},l.mapM f=s_ r->(∀x y,x∈l->y∈r->f x=s_ y->g x=s_ y)->l.mapM g=s_ r
 |[],r,h,_=>by simpa using h
 |a::l,r,h,E=>by
  simp only[BB,Bs,AD,BJ,Dv]at h⊢;obtain⟨b,hb,r',N,rfl⟩:=h;exact⟨b,E a b zac zac hb,r',Qi N (λx y hx hy=>E x y (by simp[hx]) (by simp[hy])),rfl⟩
def cell?_below(hb:Below W.heap.size W W')(h:W.cell? a=s_ v):W'.cell? a=s_ v:=by have E:=World.block_lt_of_cell? W a h;rw[<-h];simp only[yax,hb.block a.block E]
def cells?_below(hb:Below W.heap.size W W'){b:Nat}{cs:List Value}(h:W.cells? b a n=s_ cs):W'.cells? b a n=s_ cs:=by
 unfold World.cells? at h⊢
 split at h
 .rename_i E;rw[zae E];exact Qi h λx y _ _ N=>cell?_below hb N
 .cases h
theorem yHt(hb:Below W.heap.size W W'){S:List TypeId}(hS:M3 P S=t_):∀(fuel:Nat)(t:TypeId),t∈S->∀(cs:List Value)(x:DataW H×List MemPlace),yar enc P W 0 (λ_=>t_) t_ fuel t cs=s_ x->
  ∀N:Nat->Bool,(∀p∈x.2,N p.block=t_)->yar enc P W' 0 N t_ fuel t cs=s_ x
 |0,t,_=>by intro cs x E;simp[yar]at E
 |fuel+1,t,ht=>by
  have ih:=yHt hb hS fuel;intro cs x E N a0;have hc:Ws P S t=t_:=Ad.1 hS t ht;unfold Ws at hc
  split at hc
  .rename_i hu;unfold yar at E⊢;grind
  .rename_i k hu;unfold yar at E⊢;grind
  .rename_i hu;unfold yar at E⊢;grind
  .rename_i e hu;simp only[Af,Bi,zan,zao]at hc;obtain⟨⟨ab,a5⟩,_⟩:=hc
   have ac:∀(b:Addr)(y:DataW H×List MemPlace),(∀p∈y.2,N p.block=t_)->(W.cells? 0 b (P.cellsOf e)).bind (yar enc P W 0 (λ_=>t_) t_ fuel e)=s_ y->(W'.cells? 0 b (P.cellsOf e)).bind (yar enc P W' 0 N t_ fuel e)=s_ y:=by
    intro b y hy h1;simp only[AD]at h1⊢;obtain⟨cs',h2,h3⟩:=h1;exact⟨cs',cells?_below hb h2,ih e ab cs' y h3 N hy⟩
   unfold yar at E⊢;rw[hu]at E⊢
   split at E
   all_goals try (first|(rename_i heq _;cases heq;done)|(rename_i heq;cases heq;done))
   all_goals try (simp_all;done)
   rename_i e' a len cap heq;cases heq;simp only[zaj]at E⊢
   split at E
   case isFalse=>cases E
   rename_i ah;rw[zae ah];simp only[AD,D1]at E⊢;obtain⟨elems,h1,rest,h2,rfl⟩:=E;have hle:elems.length=len:=by simpa using Lib.mapM_length h1
   have a8:rest.length=cap-len:=by simpa using Lib.mapM_length h2
   have ab:∀y∈elems++rest,∀p∈y.2,N p.block=t_:=λy hy p hp=>a0 p (by
    grind)
   refine⟨elems,Qi h1 (λi y _ hy hi=>ac _ y (ab y (by simp[hy])) hi),rest,?_,rfl⟩;rcases Cb cap with h0|h0
   .grind
   .have a1:N a.block=t_:=a0 (.cell a.block (a.off+0)) (by
     simp only[AK]
     left
     simp only[MemPlace.row,AR,AP];simp_all)
    rw[zae a1];exact Qi h2 (λi y _ hy hi=>ac _ y (ab y (by simp[hy])) hi)
  .rename_i fs hu;simp only[Af,Ad,Bi]at hc;unfold yar at E⊢;rw[hu]at E⊢;simp only at E⊢
   split at E
   case isFalse=>cases E
   rename_i hl;rw[zae hl];simp only[D1]at E⊢;obtain⟨ys,ae,rfl⟩:=E;refine⟨ys,Qi ae (λf y hf hy hi=>?_),rfl⟩;grind
  .rename_i m e hu;simp only[Af,Bi,zao]at hc;unfold yar at E⊢;rw[hu]at E⊢;simp only at E⊢
   split at E
   case isFalse=>cases E
   rename_i hl;rw[zae hl];simp only[D1]at E⊢;obtain⟨ys,ae,rfl⟩:=E;refine⟨ys,Qi ae (λi y _ hy hi=>?_),rfl⟩;grind
  .cases hc
theorem yGf(hb:Below W.heap.size W W'):∀(n:Nat)(t:TypeId)(ty:Ty),Hg P n t=s_ ty->∀(fuel:Nat)(cs:List Value)(x:DataW H×List MemPlace),yar enc P W 0 (λ_=>t_) t_ fuel t cs=s_ x->
  ∀N:Nat->Bool,(∀p∈x.2,N p.block=t_)->yar enc P W' 0 N t_ fuel t cs=s_ x
 |0,_,_,h=>by simp[Hg]at h
 |n+1,t,ty,h=>by
  have ih:=yGf hb n;intro fuel cs x E N ac;unfold Hg at h
  cases fuel with
  |zero=>simp[yar]at E
  |succ fuel=>
  split at h
  .rename_i hu;unfold yar at E⊢;grind
  .rename_i k hu;unfold yar at E⊢;grind
  .rename_i hu;unfold yar at E⊢;grind
  .rename_i e hu
   split at h
   case h_2=>
    split at h
    case isFalse=>cases h
    rename_i ad;simp only[Af,Bi]at ad;exact yHt hb ad.1 (fuel+1) t ad.2 cs x E N ac
   rename_i ex hex
   split at h
   case isFalse=>cases h
   rename_i hc;simp only[Af,zao,zan]at hc;have a5:0<P.cellsOf e:=by rw[hc.1];exact hc.2
   have ae:∀(b:Addr)(y:DataW H×List MemPlace),(∀p∈y.2,N p.block=t_)->(W.cells? 0 b (P.cellsOf e)).bind (yar enc P W 0 (λ_=>t_) t_ fuel e)=s_ y->(W'.cells? 0 b (P.cellsOf e)).bind (yar enc P W' 0 N t_ fuel e)=s_ y:=by
    intro b y hy h1;simp only[AD]at h1⊢;obtain⟨cs',h2,h3⟩:=h1;exact⟨cs',cells?_below hb h2,ih e ex hex fuel cs' y h3 N hy⟩
   unfold yar at E⊢;rw[hu]at E⊢
   split at E
   all_goals try (first|(rename_i heq _;cases heq;done)|(rename_i heq;cases heq;done))
   all_goals try (simp_all;done)
   rename_i e' a len cap heq;cases heq;simp only[zaj]at E⊢
   split at E
   case isFalse=>cases E
   rename_i a0;rw[zae a0];simp only[AD,D1]at E⊢;obtain⟨elems,h1,rest,h2,rfl⟩:=E;have hle:elems.length=len:=by simpa using Lib.mapM_length h1
   have ba:rest.length=cap-len:=by simpa using Lib.mapM_length h2
   have a1:∀y∈elems++rest,∀p∈y.2,N p.block=t_:=λy hy p hp=>ac p (by
    grind)
   refine⟨elems,Qi h1 (λi y _ hy hi=>ae _ y (a1 y (by simp[hy])) hi),rest,?_,rfl⟩;rcases Cb cap with h0|h0
   .grind
   .have a3:N a.block=t_:=ac (.cell a.block (a.off+0)) (by
     simp only[AK]
     left
     simp only[MemPlace.row,AR,AP];simp_all)
    rw[zae a3];exact Qi h2 (λi y _ hy hi=>ae _ y (a1 y (by simp[hy])) hi)
  .rename_i fs hu
   split at h
   case h_2=>cases h
   rename_i ts a2;unfold yar at E⊢;rw[hu]at E⊢;simp only at E⊢
   split at E
   case isFalse=>cases E
   rename_i hl;rw[zae hl];simp only[D1]at E⊢;obtain⟨ys,ab,rfl⟩:=E
   have a9:∀f∈fs.toList,∃ty,Hg P n f.type=s_ ty:=by
    clear ab hl hu h;generalize fs.toList=l at a2
    induction l generalizing ts with
    |nil=>intro f hf;cases hf
    |cons f0 l bb=>
     unfold XJ at a2;grind
   refine⟨ys,Qi ab (λf y hf hy hi=>?_),rfl⟩;grind
  .rename_i m e hu
   split at h
   case h_2=>cases h
   rename_i ex hex;unfold yar at E⊢;rw[hu]at E⊢;simp only at E⊢
   split at E
   case isFalse=>cases E
   rename_i hl;rw[zae hl];simp only[D1]at E⊢;obtain⟨ys,ab,rfl⟩:=E;refine⟨ys,Qi ab (λi y _ hy hi=>?_),rfl⟩;grind
  .cases h
theorem yv7(hb:Below W.heap.size W W'){n:Nat}:∀(N:List TypeId)(tys:List Ty)(vs:List Value)(ds:List (DataW H))(ps:List MemPlace),N.mapM (Hg P n)=s_ tys->ybA enc P W 0 (λ_=>t_) t_ N vs ds ps->
  ∀E:Nat->Bool,(∀p∈ps,E p.block=t_)->ybA enc P W' 0 E t_ N vs ds ps
 |[],_,[],[],ps,_,h=>λ_ _=>h
 |t::N,tys,v::vs,d::ds,ps,ht,h=>by
  intro E aa;simp only[BB,Bs,AD,BJ,Dv]at ht;obtain⟨ty,h1,ab,h2,rfl⟩:=ht;obtain⟨p,q,⟨fuel,h3⟩,h4,rfl⟩:=h;exact⟨p,q,⟨fuel,yGf hb n t ty h1 fuel _ _ h3 E (λx hx=>aa x (by simp[hx]))⟩,yv7 hb N ab vs ds q h2 h4 E (λx hx=>aa x (by simp[hx])),rfl⟩
 |[],_,_::_,_,_,_,h=>by cases h
 |[],_,[],_::_,_,_,h=>by cases h
 |_::_,_,[],_,_,_,h=>by cases h
 |_::_,_,_::_,[],_,_,h=>by cases h
def Ycq{sp:Nat->Bool}{t:TypeId}{ty:Ty}{d:DataW H}{ps:List MemPlace}(E:Hg P n t=s_ ty)(hv:ybB P W .any 0 t v)(h:DataW.Trod enc P W 0 sp t_ t v d ps):
  ∃x,Has ty x/\(RepV W (ghost0 W) [] x v/\purA x=t_)/\wt x<=blk d:=by
 obtain⟨fuel,h⟩:=h;obtain⟨x,h1,h2,h3,h4,h5⟩:=yTx n t ty E fuel _ _ h;refine⟨x,h1,?_,h5⟩
 have N:(∀cs,v≠.agg cs)->x.pure1=t_->RepV W (ghost0 W) [] x v/\purA x=t_:=by
  intro ae hp;have af:v.cells=#[v]:=by cases v<;>first|rfl|exact absurd rfl (ae _)
  rw[mo hp,af]at h2;refine⟨h2.2.1 0 x v rfl rfl,?_⟩;cases x<;>first|exact hp|(simp[D.pure1]at hp;done)
 have ac:∀cs l,v=.agg cs->x=.agg l->RepV W (ghost0 W) [] x v/\purA x=t_:=by
  intro cs l e1 e2;subst e1;subst e2;refine⟨?_,?_⟩
  .have:=RepV.agg (w:=W) (g:=ghost0 W) (st:=[]) l cs.toList (by simpa[yaZ,yaL]using h2.1) (λi d u hd hu=>h2.2.1 i d u hd (by simpa[yaL]using hu));omega
  .simp only[purA,Ad];exact h2.2.2
 unfold ybB at hv
 cases n with
 |zero=>simp[Hg]at E
 |succ n=>
 unfold Hg at E
 split at E
 .rename_i hu;simp only[Dv]at E;subst E;cases h1;exact N (λcs e=>by subst e;simp[hu,Cell.okWide,Cell.ok]at hv) rfl
 .rename_i k hu;simp only[Dv]at E;subst E;cases h1;exact N (λcs e=>by subst e;simp[hu,Cell.okWide,Cell.ok]at hv) rfl
 .rename_i hu;simp only[Dv]at E;subst E;cases h1;exact N (λcs e=>by subst e;simp[hu,Cell.okWide,Cell.ok]at hv) rfl
 .rename_i e hu
  split at E
  case h_2=>
   split at E
   case isFalse=>cases E
   simp only[Dv]at E;subst E;cases h1;exact N (λcs e=>by subst e;simp[hu,Cell.okWide,Cell.ok]at hv) rfl
  split at E
  case isFalse=>cases E
  simp only[Dv]at E;subst E;cases h1;exact N (λcs e=>by subst e;simp[hu,Cell.okWide,Cell.ok]at hv) rfl
 .rename_i fs hu
  split at E
  case h_2=>cases E
  split at E
  case isFalse=>cases E
  simp only[Dv]at E;subst E;simp only[hu]at hv;obtain⟨cs,rfl,_,_⟩:=hv
  cases h1 with
  |agg _ xs _ _=>exact ac cs _ rfl rfl
 .rename_i m e hu
  split at E
  case h_2=>cases E
  split at E
  case isFalse=>cases E
  simp only[Dv]at E;subst E;simp only[hu]at hv;obtain⟨cs,rfl,_,_⟩:=hv
  cases h1 with
  |agg _ xs _ _=>exact ac cs _ rfl rfl
 .cases E
inductive HasAll:List Ty->List D->Prop
 |nil:HasAll [] []
 |cons {t:Ty}{ts:List Ty}{x:D}{xs:List D}:Has t x->HasAll ts xs->HasAll (t::ts) (x::xs)
theorem yLx{sp:Nat->Bool}{n:Nat}:∀(N:List TypeId)(tys:List Ty)(vs:List Value)(ds:List (DataW H))(ps:List MemPlace),N.mapM (Hg P n)=s_ tys->(∀(j:Nat)t v,N[j]?=s_ t->vs[j]?=s_ v->ybB P W .any 0 t v)->ybA enc P W 0 sp t_ N vs ds ps->
  ∃xs,HasAll tys xs/\xs.length=vs.length/\(∀(i:Nat)d v,xs[i]?=s_ d->vs[i]?=s_ v->RepV W (ghost0 W) [] d v)/\(∀d∈xs,purA d=t_)/\Iu xs<=Hk ds
 |[],tys,[],[],ps,E,_,_=>by
  simp at E;subst E;exact⟨[],.nil,rfl,λi d v h=>by simp at h,(λd h=>by cases h),by simp[Iu]⟩
 |t::N,tys,v::vs,d::ds,ps,E,hv,h=>by
  simp only[BB,Bs,AD,BJ,Dv]at E;obtain⟨ty,h1,aa,h2,rfl⟩:=E;obtain⟨p,q,h3,h4,rfl⟩:=h;obtain⟨x,x1,⟨x2,x3⟩,x5⟩:=Ycq h1 (hv 0 t v rfl rfl) h3;obtain⟨xs,y1,y2,y3,y4,y5⟩:=yLx N aa vs ds q h2 (λj t v E ab=>hv (j+1) t v (by simpa using E) (by simpa using ab)) h4;refine⟨x::xs,.cons x1 y1,by simp[y2],?_,?_,?_⟩
  .grind
  .grind
  .simp only[Iu,Hk];omega
 |[],_,_::_,_,_,_,_,h=>by cases h
 |[],_,[],_::_,_,_,_,h=>by cases h
 |_::_,_,[],_,_,_,_,h=>by cases h
 |_::_,_,_::_,[],_,_,_,h=>by cases h
theorem yKc{K N:Nat}(hC:Contract P G K sp)(ac:fn.params.toList.mapM (Hg P n)=s_ tys)(E:s.vars=[])
  (aa:∃tb,fn.resultTypes=#[tb]/\P.underlying tb=s_ .bool)
  (a0:∀(H:Type)(ds:List (DataW H)),ds.length=fn.params.size->(s.fn H ds).results=[.lit (.bool t_)]/\(s.fn H ds).args=ds/\(s.fn H ds).vars=[])
  (a1:∀xs,HasAll tys xs->Iu xs<=N->sp xs=s_ (.bool t_))
   {ds gs:List (DataW H)}  (hG:GlobOK G W (ghost0 W)) (hN:Hk ds<=N)
  (ae:∀(j:Nat)t v,fn.params[j]?=s_ t->args[j]?=s_ v->ybB P W .any 0 t v)
  (hW:DataW.Whole enc P fn.params.toList s.vars f_ W args.toList ds gs before):
  Calls P K args W λe W'=>∃v,e=.returned v/\s.post enc P fn f_ t_ f_ f_ W args v W':=by
 obtain⟨tb,aa,a3⟩:=aa;have ad:=hW;obtain⟨p,q,hA,hV,rfl,bh,b1⟩:=hW;rw[E]at hV
 have a4:gs=[]/\q=[]:=by
  cases gs with
  |nil=>exact⟨rfl,hV⟩
  |cons a l=>cases hV
 obtain⟨rfl,rfl⟩:=a4;obtain⟨xs,x1,x2,x3,x4,x5⟩:=yLx fn.params.toList tys args.toList ds p ac (λj t v ht hv=>ae j t v (by simpa using ht) (by simpa using hv)) hA
 have hlen:∀(ts:List TypeId)(vs:List Value)(ds:List (DataW H))(ps:List MemPlace),ybA enc P W 0 (λ_=>t_) t_ ts vs ds ps->ds.length=ts.length:=by
  intro ts
  induction ts with
  |nil=>intro vs ds ps h;cases vs<;>cases ds<;>first|rfl|cases h
  |cons t ts ih=>
   intro vs ds ps h
   cases vs with
   |nil=>cases h
   |cons v vs=>
    cases ds with
    |nil=>cases h
    |cons d ds=>
     obtain⟨_,_,_,h4,_⟩:=h;grind
 have a5:ds.length=fn.params.size:=by simpa using hlen _ _ _ _ hA
 have hc:=hC W (ghost0 W) xs args.toList (.bool t_) (a1 xs x1 (AT x5 hN)) hG (λb o h=>h) x2 x3 x4;rw[BH]at hc;refine hc.mono ?_;rintro e W' ⟨v,g',rfl,h1,_,_,_,_,hb⟩;have hv:=Ok h1;subst hv;obtain⟨f1,f2,f3⟩:=a0 H ds a5;refine⟨_,rfl,ds,[],p++[],[],p,[],ad,?_,?_,?_,?_,λh=>by cases h⟩
 .rw[Ai,f1,aa];exact⟨[],[],⟨1,by unfold yar;simp[a3,yaL]⟩,rfl,rfl⟩
 .rw[Ai,f2];refine yv7 hb _ tys _ _ _ ac hA _ λx hx=>?_;simpa using ad.lt x (by simpa using hx)
 .rw[Ai,f3,E];rfl
 .refine⟨hb.os,hb.output,λi hi=>?_⟩;rw[hb.block i hi];grind
def law_contract{K:Nat}(hC:Contract P G K sp)(ab:fn.params.toList.mapM (Hg P n)=s_ tys)(E:s.vars=[])
  (ac:∃tb,fn.resultTypes=#[tb]/\P.underlying tb=s_ .bool)
  (ad:∀(H:Type)(ds:List (DataW H)),ds.length=fn.params.size->(s.fn H ds).results=[.lit (.bool t_)]/\(s.fn H ds).args=ds/\(s.fn H ds).vars=[])
  (ae:∀xs,HasAll tys xs->sp xs=s_ (.bool t_))
   {ds gs:List (DataW H)}  (hG:GlobOK G W (ghost0 W))
  (aa:∀(j:Nat)t v,fn.params[j]?=s_ t->args[j]?=s_ v->ybB P W .any 0 t v)
  (hW:DataW.Whole enc P fn.params.toList s.vars f_ W args.toList ds gs before):
  Calls P K args W λe W'=>∃v,e=.returned v/\s.post enc P fn f_ t_ f_ f_ W args v W':=
 yKc (N:=Hk ds) hC ab E ac ad (λxs h _=>ae xs h) hG (Au _) aa hW
def Vb(g:Nat)(k:IntKind)(zs:List Int):Dy:=λn=>if n=g then s_ (.agg (zs.map λz=>.int k z))else n_
def Yhq{E:String}{k:IntKind}{zs:List Int}{g:Nat}(h:Lib.TabIs P W E k zs)(hg:P.globalNamed E=s_ g):GlobOK (Vb g k zs) W (ghost0 W):=by
 intro n d hd;simp only[Vb,Ax,Dv]at hd;obtain⟨rfl,rfl⟩:=hd
 have hj:∀(j:Nat)(d:D),(D.agg (zs.map λz=>D.int k z)).cells[j]?=s_ d->d=.int k (zs.getD j 0)/\W.cell? ⟨n,j,n_⟩=s_ (.int k (zs.getD j 0)):=by
  intro j d hd;simp only[yaZ,AI,D1]at hd;obtain⟨z,N,rfl⟩:=hd;have aa:j<zs.length:=(Aa.1 N).1;exact⟨by simp[Am,N],h.cell hg j aa⟩
 refine .eptr _ 0 n 0 (λj=>.int k (zs.getD j 0)) (λj d hd=>?_) (λj d hd=>?_) (λj d hd=>?_)
 .rw[(hj j d hd).1];rfl
 .have:=(hj j d hd).2;rw[Ar];exact⟨by show(W.cell? ⟨n,j,n_⟩).isSome=t_;rw[this];rfl,this⟩
 .rw[(hj j d hd).1];exact .int _ _
end
open Go
def wD(x:UInt32):D:=.int .u32 (x.toNat:Int)
def qD(x:UInt64):D:=.int .u64 (x.toNat:Int)
def YG9{n:Nat}(m:Nat):C8 n (m:Int)=BitVec.ofNat n m:=BitVec.ofInt_natCast ..
theorem WG(n:Nat):yab .u32 (n:Int)=((n%2^32:Nat):Int):=zad
theorem Y5(n:Nat):yab .u64 (n:Int)=((n%2^64:Nat):Int):=zad
theorem rH(n:Nat):yab .u8 (n:Int)=((n%2^8:Nat):Int):=zad
theorem YDh(x y:UInt32):DI .add (wD x) (wD y)=s_ (wD (x+y)):=zad
theorem jF(x:UInt32):C8 32 (x.toNat:Int)=x.toBitVec:=by simp_all
def sJ(x:UInt32):x.toNat%2^32=x.toNat:=A3 x.toNat_lt
theorem jK(x y:UInt32):DI .and (wD x) (wD y)=s_ (wD (x &&& y)):=by
 have h:(C8 (yac .u32) (x.toNat:Int) &&& C8 (yac .u32) (y.toNat:Int)).toNat=(x &&& y).toNat:=by
  show(C8 32 (x.toNat:Int) &&& C8 32 (y.toNat:Int)).toNat=_
  simp_all
 simp only[DI,wD,zaj,MB,Ae,h,WG,sJ]
theorem eP(x y:UInt32):DI .or (wD x) (wD y)=s_ (wD (x ||| y)):=by
 have h:(C8 (yac .u32) (x.toNat:Int) ||| C8 (yac .u32) (y.toNat:Int)).toNat=(x ||| y).toNat:=by
  show(C8 32 (x.toNat:Int) ||| C8 32 (y.toNat:Int)).toNat=_
  simp_all
 simp only[DI,wD,zaj,MB,Ae,h,WG,sJ]
theorem YDt(x y:UInt32):DI .xor (wD x) (wD y)=s_ (wD (x ^^^ y)):=by
 have h:(C8 (yac .u32) (x.toNat:Int) ^^^ C8 (yac .u32) (y.toNat:Int)).toNat=(x ^^^ y).toNat:=by
  show(C8 32 (x.toNat:Int) ^^^ C8 32 (y.toNat:Int)).toNat=_
  simp_all
 simp only[DI,wD,zaj,MB,Ae,h,WG,sJ]
def eZ(x:UInt32):Pq .xor (wD x)=s_ (wD (~~~x)):=by
 have E:(IntKind.max .u32)=((4294967295:UInt32).toNat:Int):=zab
 have h:(C8 (yac .u32) ((4294967295:UInt32).toNat:Int) ^^^ C8 (yac .u32) (x.toNat:Int)).toNat=(~~~x).toNat:=by
  show(C8 32 ((4294967295:UInt32).toNat:Int) ^^^ C8 32 (x.toNat:Int)).toNat=_
  rw[jF,jF,show(4294967295:UInt32).toBitVec=BitVec.allOnes 32 from rfl,BitVec.allOnes_xor];rfl
 simp only[Pq,wD,MB,Ae,show IntKind.signed .u32=f_ from rfl,Ao,zam,E,h,WG,sJ]
theorem YB3(st:St)(b:UInt8):Gm st (.int .u32) (DK b)=s_ (wD b.toUInt32):=by simp only[Gm,DK,wD,WG,UInt8.toNat_toUInt32];simp_all
theorem YB1(st:St)(x:UInt32):Gm st (.int .u8) (wD x)=s_ (DK x.toUInt8):=zad
theorem YB2(st:St)(x:UInt64):Gm st (.int .u8) (qD x)=s_ (DK x.toUInt8):=zad
def YGk(x:UInt32)(k:IntKind)(n:Nat)(h:n<32):DI .shl (wD x) (.int k (n:Int))=s_ (wD (x <<< (UInt32.ofNat n))):=by
 have e:(x <<< (UInt32.ofNat n)).toNat=x.toNat*2^n%2^32:=by
  rw[UInt32.toNat_shiftLeft,Nat.shiftLeft_eq,UInt32.toNat_ofNat',A3 (zaa:n<2^32),A3 h]
 have E:((x.toNat:Int)*2^n)=((x.toNat*2^n:Nat):Int):=by push_cast;rfl
 simp only[DI,wD,Oc,show ¬((n:Int)<0) by omega,zam,Ae,AH,show yac .u32=32 from rfl,BU (CF h),E,WG,e]
theorem YGg(x:UInt32)(k:IntKind)(n:Nat)(h:n<32):DI .shr (wD x) (.int k (n:Int))=s_ (wD (x >>> (UInt32.ofNat n))):=by
 have e:(x >>> (UInt32.ofNat n)).toNat=x.toNat/2^n:=by
  rw[UInt32.toNat_shiftRight,Nat.shiftRight_eq_div_pow,UInt32.toNat_ofNat',A3 (zaa:n<2^32),A3 h]
 have E:(x.toNat:Int).fdiv (2^n)=((x.toNat/2^n:Nat):Int):=by
  grind
 simp only[DI,wD,Oc,show ¬((n:Int)<0) by omega,zam,Ae,AH,show yac .u32=32 from rfl,BU (CF h),E,e]
def shl_q(x:UInt64)(k:IntKind)(n:Nat)(h:n<64):DI .shl (qD x) (.int k (n:Int))=s_ (qD (x <<< (Dq n))):=by
 have e:(x <<< (Dq n)).toNat=x.toNat*2^n%2^64:=by
  rw[UInt64.toNat_shiftLeft,Nat.shiftLeft_eq,UInt64.toNat_ofNat',A3 (zaa:n<2^64),A3 h]
 have E:((x.toNat:Int)*2^n)=((x.toNat*2^n:Nat):Int):=by push_cast;rfl
 simp only[DI,qD,Oc,show ¬((n:Int)<0) by omega,zam,Ae,AH,show yac .u64=64 from rfl,BU (CF h),E,Y5,e]
theorem ef(x:UInt64)(k:IntKind)(n:Nat)(h:n<64):DI .shr (qD x) (.int k (n:Int))=s_ (qD (x >>> (Dq n))):=by
 have e:(x >>> (Dq n)).toNat=x.toNat/2^n:=by
  rw[UInt64.toNat_shiftRight,Nat.shiftRight_eq_div_pow,UInt64.toNat_ofNat',A3 (zaa:n<2^64),A3 h]
 have E:(x.toNat:Int).fdiv (2^n)=((x.toNat/2^n:Nat):Int):=by
  grind
 simp only[DI,qD,Oc,show ¬((n:Int)<0) by omega,zam,Ae,AH,show yac .u64=64 from rfl,BU (CF h),E,e]
theorem Ni{n:Int}(E:-9223372036854775808<=n)(N:n<9223372036854775808):yab .i64 n=n:=by
 show(if(t_&&decide (n%(2^64:Int) ≥ (2^(64-1):Int)))=t_ then n%(2^64:Int)-(2^64:Int)else n%(2^64:Int))=n
 grind
variable{a b:Int}
def D5(E:-9223372036854775808<=a+b)(N:a+b<9223372036854775808):DI .add (.int .i64 a) (.int .i64 b)=s_ (.int .i64 (a+b)):=by simp only[DI,zaj,Mo,Ae,Ni E N]
def FL(E:-9223372036854775808<=a-b)(N:a-b<9223372036854775808):DI .sub (.int .i64 a) (.int .i64 b)=s_ (.int .i64 (a-b)):=by simp only[DI,zaj,Mo,Ae,Ni E N]
def O8(E:-9223372036854775808<=a*b)(N:a*b<9223372036854775808):DI .mul (.int .i64 a) (.int .i64 b)=s_ (.int .i64 (a*b)):=by simp only[DI,zaj,Mo,Ae,Ni E N]
