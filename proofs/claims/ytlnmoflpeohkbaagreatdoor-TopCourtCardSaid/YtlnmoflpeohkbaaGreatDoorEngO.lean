/-
  Every operation that is translated does what the pure one does.
  Conditions: none; these are lemmas.
-/
import Derived.Test.YtlnmoflpeohkbaaGreatDoorEngK
import Derived.ChangeKeysEq
import Derived.MapKept
import Derived.Laws.CopyRow
import Derived.Laws.IdiomCopy
import Derived.DefersIn
open Bool renaming false->f_,true->t_
open Option renaming some->s_,none->n_
open ByteArray renaming size->Dg
open List renaming range->C9,replicate->C7
set_option maxHeartbeats 8000000
set_option maxRecDepth 20000
set_option linter.unusedSimpArgs false
set_option linter.unusedVariables false
set_option linter.defProp false
namespace Go.Proofs.YtlnmoflpeohkbaaGreatDoor.PI
open Go Go.RowKit
open Go.Builtin renaming append_->yaS,copy_->ybg,firstCells->yaR,lenOf->yaQ,len_->yaK,max2->ybq,max_->ybp,min2->ybo,min_->ybn,zeroCells->ya4
open D renaming cells->yaZ,noRef1->yat
open Go.Fence renaming wide->yau
open Go.Instr renaming buildSlice->yaO,checkKey->ya7,extract->ybk,findAsking->ybb,findKey->ybc,findNow->yba,indexAt->yaD,keyThatStays->ya6,lookup->ybe,makeFunc->ybr,makeMap->ybd,mapUpdate->ybf,sameBits->ya5,sameNow->ya9,sliceAt->yaH
open Go.Oper renaming upon_enter->ybi,upon_value->ybj,wp->ybh
open POp renaming callee->ybm,callv->ybl,exec->yaU
open Go.Result renaming andThen->ya8,andThen_ok->yaz
open Go.Sem renaming run_bind->yay,run_pure->yaE
open Go.World renaming cell?->yax
variable{els:List D}{sz:Nat}{v:Value}{x:D}{e:TypeId}
section
variable{P:Program}{base:Nat}{w:World}{g:Ghost}{st:St}
theorem Els.cast{E:Nat}(h:Els w g st v sz els)(e:sz=E\/els=[]):Els w g st v E els:=by
 rcases e with rfl|rfl
 .exact h
 .obtain⟨⟨a,cap,N,_⟩,_,_⟩:=h;exact⟨⟨a,cap,N,λh=>absurd rfl h⟩,λi j d hd=>by simp[GC]at hd,λe he=>by cases he⟩
theorem yd(N:SR base w g st)(h:H6 st x=s_ (sz,els))(E:RepV w g st x v):Els w g st v sz els\/∃s,x=.str s/\sz=1/\els=s.map DK:=by
 unfold H6 at h
 split at h
 .cases h;exact .inl (bB E)
 .exact .inl (vX N h E).1
 .rename_i key off n ac ag
  split at h
  .rename_i ab he
   split at h
   .rename_i aa;cases h;exact .inl (Ykq N he E (Ad.1 aa)).1
   .cases h
  .cases h
 .grind
 .cases h
def Yyr(hS:SR base w g st){E:Nat}(h:H6 st x=s_ (E,els))(hr:RepV w g st x v)(N:E=sz\/els=[]):
  ∃ns,News w g st P v sz els ns:=by
 rcases yd hS h hr with h1|⟨s,rfl,rfl,rfl⟩
 .exact ug (h1.cast N)
 .obtain rfl:=NH hr;rcases N with rfl|hs
  .exact yRt s
  .simp at hs;subst hs;have e:Dg ⟨([]:zLB).toArray⟩=0:=rfl;exact⟨[],zac,zac,λi j d hd=>by simp[GC]at hd,⟨by simp[yaQ,e],by simp[yaQ,e]⟩,⟨by simp[yaR],by simp[yaR]⟩⟩
def Ybc(hS:SR base w g st)(h:H6 st x=s_ (sz,els))(hr:RepV w g st x v):(∀e∈els,e.cells.length=sz)/\∀i j d,GC els i j=s_ d->d.pure1=t_:=by
 rcases yd hS h hr with N|⟨s,rfl,rfl,rfl⟩
 .exact⟨N.len,N.pure⟩
 .refine⟨λe he=>?_,λi j d hd=>?_⟩
  .simp only[AR]at he;obtain⟨b,_,rfl⟩:=he;rfl
  .obtain⟨e,he,E⟩:=Jx hd;simp only[AI,D1]at he;obtain⟨b,_,rfl⟩:=he
   cases j with
   |zero=>simp[DK,yaZ]at E;subst E;rfl
   |succ j=>simp[DK,yaZ]at E
def uz(w:World)(o:Go.Obj):(w.drew.alloc o).heap[w.heap.size]?=s_ o:=by
 show(w.heap.push o)[w.heap.size]?=_
 simp
theorem yOh{E:List D}{os ns zs:List Value}(ae:os.length=E.length*sz)
  (ho:∀(i j:Nat)d,GC E i j=s_ d->∃u,os[i*sz+j]?=s_ u/\RepV w g st d u) (hn:∀(i j:Nat)d,GC els i j=s_ d->∃u,ns[i*sz+j]?=s_ u/\RepV w g st d u) (af:ns.length=els.length*sz):
  ∀(i j:Nat)d,GC (E++els) i j=s_ d->∃u,(os++ns++zs)[i*sz+j]?=s_ u/\RepV w g st d u:=by
 intro i j d hd;obtain⟨e,he,N⟩:=Jx hd
 by_cases h1:i<E.length
 .rw[Aw h1]at he;obtain⟨u,h2,h3⟩:=ho i j d (IU he N);grind
 .rw[AF zaa]at he;obtain⟨u,h2,h3⟩:=hn (i-E.length) j d (IU he N);have h5:i*sz=E.length*sz+(i-E.length)*sz:=by rw[<-A9];congr 1;omega
  grind
theorem Yog(hS:SR base w g st){t tx ty:TypeId}{i:TypeInfo}{z:Value}{bytes:Nat}{s d:D}{vs vx:Value}{st':St}(ht:P.underlying t=s_ (.slice e))(bb:(∃e',P.underlying tx=s_ (.slice e'))\/P.underlying tx=s_ .string)
  (hi:P.info? e=s_ i) (hz:i.zero=s_ z) (dc:i.size=sz) (dd:i.bytes=bytes) (cf:z.cells.size=sz) (h:EW st sz bytes s x=s_ (d,st')) (a0:RepV w g st s vs) (cg:RepV w g st x vx):
  RunsTo P base w g st (yaS #[t,tx] ty #[vs,vx]) d st':=by
 subst dc;subst dd;unfold EW at h
 split at h
 .cases h
 rename_i de xs hx
 split at h
 .cases h
 rename_i hc;simp only[A5,AN,Bool.or_eq_false_iff,beq_eq_false_iff_ne,List.isEmpty_eq_false_iff,zao,not_or,not_and,zbg]at hc;have h0:0<i.size:=zaa
 have dh:de=i.size\/xs=[]:=by
  grind
 obtain⟨ns,hN⟩:=Yyr (P:=P) hS hx cg dh;obtain⟨k0,ch⟩:=Ybc hS hx cg
 have kc:∀e∈xs,e.cells.length=i.size:=by
  grind
 split at h
 ·
  rename_i key tot off len
  split at h
  case h_2=>cases h
  rename_i o ho
  split at h
  case isFalse=>cases h
  rename_i ac;simp only[Af,zao,zan]at ac;obtain⟨⟨⟨⟨⟨⟨aa,a1⟩,bg⟩,rfl⟩,hlen⟩,af⟩,c1⟩:=ac;cases h;obtain⟨E,h1,h2,h3,rfl,h5⟩:=Y2 (by simp[EY,ho,aa,bg]) a0;obtain rfl:E=o:=At (h1.symm.trans ho);subst hlen;subst bg;obtain⟨C,e',hb,ka,kd,d3,hC,bh⟩:=hS.blk key E ho (OY aa);rw[aa]at hC;simp only[zaj]at hC;rw[CD,Nat.sub_zero];have d4:key<st.length:=(Aa.1 ho).1
  have ca:∀(C':Array Value),(∀(N j:Nat)d,GC (E.els++xs) N j=s_ d->∃u,C'[N*E.sz+j]?=s_ u/\RepV w g st d u)->
    ∀(N j:Nat)d,GC (E.els++xs) N j=s_ d->(E.row=t_->d.pure1=t_)/\∃u,C'[N*E.sz+j]?=s_ u/\RepV w g st d u:=by
   intro C' d5 N j d hd;refine⟨λ_=>?_,d5 N j d hd⟩
   by_cases h6:N<E.els.length
   .rw[uA h6]at hd;grind
   .obtain⟨e1,ad,a8⟩:=Jx hd;rw[AF zaa]at ad;exact ch _ _ _ (IU ad a8)
  have c3:∀y∈E.els++xs,y.cells.length=E.sz:=by
   grind
  have b1:∀(B c:Nat)(w':World)(C':Array Value)(c0:TypeId),((B=g.β key/\c=g.γ key)\/(w.heap.size<=B/\E.els.length<(E.els++xs).length/\E.row=t_))->Beside w w'->(∀b,b<w.heap.size->b≠B->w'.heap[b]?=w.heap[b]?)->
    w'.heap[B]?=s_ (.cells C' c0 (0,0))->(B=g.β key->∀y,g.Im (g.β key) y->C'[y]?=C[y]?)->C'.size=c*E.sz->(E.els++xs).length<=c->c<=maxLen->
    (∀(N j:Nat)d,GC (E.els++xs) N j=s_ d->∃u,C'[N*E.sz+j]?=s_ u/\RepV w g st d u)->
    (yaS #[t,tx] ty #[.slice (s_ ⟨g.β key,0,n_⟩) E.els.length (g.γ key),vx]).run P w=.ok (.slice (s_ ⟨B,0,n_⟩) (E.els.length+xs.length) c) w'->
    RunsTo P base w g st (yaS #[t,tx] ty #[.slice (s_ ⟨g.β key,0,n_⟩) E.els.length (g.γ key),vx]) (.row key (E.els.length+xs.length) 0 (E.els.length+xs.length)) (st.set key {E with els:=E.els++xs}):=by
   intro B c w' C' c0 hB c5 cb c6 d6 cc ae d7 cd c7;have b2:=SR.update (o':={E with els:=E.els++xs}) hS ho (OY aa) hb hB rfl rfl zac rfl c3 c5 cb c6 d6 (by rw[aa];simp only[zaj];exact⟨cc,ae,d7⟩) (ca C' cd);refine⟨_,_,_,c7,b2,?_⟩;refine .row _ _ _ _ {E with els:=E.els++xs} _ rfl (by simp[d4]) aa zac λ_=>⟨?_,zaa⟩;simp[Jv]
  by_cases a3:E.els.length+xs.length<=g.γ key
  .have b3:E.els.length*i.size+ns.length<=C.size:=by
    rw[hN.len,hC.1,a1,<-A9];exact AZ _ a3
   have d9:(yaS #[t,tx] ty #[.slice (s_ ⟨g.β key,0,n_⟩) E.els.length (g.γ key),vx]).run P w=.ok (.slice (s_ ⟨g.β key,0,n_⟩) (E.els.length+xs.length) (g.γ key)) (w.setRow (g.β key) (C.toList.take (E.els.length*i.size)++ns++C.toList.drop (E.els.length*i.size+ns.length)).toArray):=
    Ysm ht bb hi hb hN a3 b3
   refine b1 (g.β key) (g.γ key) _ _ e' (.inl ⟨rfl,rfl⟩) (ZG w _ _) (λb _ b4=>setRow_other w _ _ _ zaa) (setRow_heap w _ C _ e' _ hb) ?_ ?_ (by simpa using a3) hC.2.2 ?_ d9
   .intro _ y hy;have:=(hS.dis key E y ho hy).2;grind
   .grind
   .intro N j d hd;rw[Zy b3,hN.len,a1];obtain⟨e1,ad,a8⟩:=Jx hd
    have hj:j<i.size:=by
     grind
    by_cases h6:N<E.els.length
    .rw[uA h6]at hd;have:(N+1)*i.size<=E.els.length*i.size:=AZ _ h6;grind
    .rw[AF zaa]at ad;have h7:N-E.els.length<xs.length:=(Aa.1 ad).1;have h8:N*i.size=E.els.length*i.size+(N-E.els.length)*i.size:=by rw[<-A9];congr 1;omega
     have h9:(N-E.els.length+1)*i.size<=xs.length*i.size:=AZ _ h7;rw[A9,BC]at h9;rw[zae zaa,show N*i.size+j-E.els.length*i.size=(N-E.els.length)*i.size+j by omega];exact hN.rep _ _ _ (IU ad a8)
  .have hE:Els w g st (.slice (s_ ⟨g.β key,0,n_⟩) E.els.length (g.γ key)) i.size E.els:=by
    refine⟨⟨_,_,rfl,λ_=>⟨_,_,rfl,h0,?_⟩⟩,λN j d hd=>(bh N j d hd).1 aa,λy hy=>by rw[<-a1];exact d3 y hy⟩;intro N j d hd;obtain⟨hp,u,h6,h7⟩:=bh N j d hd;refine⟨u,?_,h7,h7.oneCell (Up (hp aa))⟩;simp only[yax,hb];grind
   obtain⟨os,hO⟩:=ug (P:=P) hE;have a5:=yXv (ty:=ty) ht bb hi hz hN hO rfl zaa zaa (yOi zaa af);have b6:=grownCap_ge w (E.els.length+xs.length) (g.γ key) e;refine b1 w.heap.size _ (w.drew.alloc (.cells (os.toArray++ns.toArray++ya4 z.cells (grownCap w (E.els.length+xs.length) (g.γ key) e-(E.els.length+xs.length))) e)) _ e (.inr ⟨Au _,by simp;omega,aa⟩) ⟨rfl,rfl,rfl,zac⟩ ?_ (uz w _) (λe1=>by have:=hS.lt ho;omega) ?_ (by simpa using b6) (grownCap_le_maxLen w _ _ e (by unfold maxLen;omega)) ?_ a5
   .intro b b7 _;exact TZ w _ b b7
   .simp only[Array.size_append,CM,hO.len,hN.len,size_zeroCells,cf,a1];rw[<-A9,<-A9]
    congr 1
    omega
   .intro N j d hd;have:=yOh (zs:=(ya4 z.cells (grownCap w (E.els.length+xs.length) (g.γ key) e-(E.els.length+xs.length))).toList) hO.len hO.rep hN.rep hN.len N j d hd;grind
 ·
  rename_i k1 els
  split at h
  .rename_i he;simp only[BM]at he;subst he;cases h;refine .still hS ?_ a0;obtain⟨⟨a,cap,rfl,_⟩,_,_⟩:=bB a0
   have ae:els.length<=cap:=by
    cases a0 with
    |slcE=>simp
    |slc _ _ b off cap _ val h1 h2 h3 ha h4=>exact h4
   have hg:ns=[]:=AW (by simpa using hN.len);have h1:=hN.lenOf.1;have h2:=hN.first.1
   subst hg;simp only[As]at h1 h2;rcases bb with⟨e',hd⟩|hd
   .cases a<;>simp[yaS,run_underlying ht,sizeOf,typeInfo,hi,run_underlying hd,h1,ae,h2,storeCells]
   .cases a<;>simp[yaS,run_underlying ht,sizeOf,typeInfo,hi,run_underlying hd,h1,ae,h2,storeCells]
  .rename_i b4;simp only[BM]at b4;have kb:0<xs.length:=Cz.2 b4
   split at h
   case isFalse=>cases h
   rename_i ac;simp only[Af,zan,A5,zao,BM]at ac;obtain⟨⟨hh,af⟩,c1⟩:=ac;cases h;have hE:=(bB a0).cast hh;obtain⟨os,hO⟩:=ug (P:=P) hE;obtain⟨⟨a,cap,rfl,_⟩,k2,k3⟩:=hE
   have ae:cap=els.length:=by
    cases a0 with
    |slcE _ _ _ _ h1=>exact h1 rfl
    |slc _ _ b off cap _ val h1 h2 h3 ha h4 h5=>exact h5 rfl
   subst ae;have a5:=yXv (ty:=ty) ht bb hi hz hN hO rfl zaa zaa (yOi zaa af);have b6:=grownCap_ge w (els.length+xs.length) els.length e
   have b2:=SR.push (o:={row:=t_,sz:=i.size,els:=els++xs,lent:=f_}) (c:=grownCap w (els.length+xs.length) els.length e) (w':=w.drew.alloc (.cells (os.toArray++ns.toArray++ya4 z.cells (grownCap w (els.length+xs.length) els.length e-(els.length+xs.length))) e)) hS
    ⟨rfl,rfl,rfl,zac⟩ (λb b7=>TZ w _ b b7) (uz w _) rfl h0 (by
     intro y hy;rcases AK.1 hy with hy|hy
     .grind
     .grind) (by
     simp only[zaj,Ag];refine⟨?_,b6,grownCap_le_maxLen w _ _ e (by unfold maxLen;omega)⟩;simp only[Array.size_append,CM,hO.len,hN.len,size_zeroCells,cf];rw[<-A9,<-A9]
     congr 1
     omega) (by
     intro N j d hd;refine⟨λ_=>?_,?_⟩
     .by_cases h6:N<els.length
      .rw[uA h6]at hd;grind
      .obtain⟨e1,ad,a8⟩:=Jx hd;rw[AF zaa]at ad;exact ch _ _ _ (IU ad a8)
     .obtain⟨u,h6,h7⟩:=yOh (zs:=(ya4 z.cells (grownCap w (els.length+xs.length) els.length e-(els.length+xs.length))).toList) hO.len hO.rep hN.rep hN.len N j d hd;grind)
   refine⟨_,_,_,a5,b2,?_⟩;refine .row _ _ _ _ {row:=t_,sz:=i.size,els:=els++xs,lent:=f_} _ rfl zac rfl zac λ_=>⟨?_,zaa⟩;simp[Jv]
 .cases h
theorem Ykh(hS:SR base w g st){E dst:TypeId}{s:zLB}(hs:P.underlying E=s_ .string)(hd:P.underlying dst=s_ (.slice e))(he:P.underlying e=s_ (.int .u8)):
  RunsTo P base w g st (convert E dst (.string ⟨s.toArray⟩)) (.slc 1 (s.map DK) f_) st:=by
 have N:=run_bytes_of_string (P:=P) w E dst e ⟨s.toArray⟩ hs hd he;have ad:Dg ⟨s.toArray⟩=s.length:=by simp[Dg]
 have aa:=grownCap_ge w (Dg ⟨s.toArray⟩) 0 e;generalize hC:bytesRow ⟨s.toArray⟩ (grownCap w (Dg ⟨s.toArray⟩) 0 e)=C at N;have ae:=hS.fresh (w':=w.drew.alloc (.cells C e (C.size,C.size+1))) (C:=C) (e:=e) (fz:=(C.size,C.size+1)) rfl ⟨rfl,rfl,rfl,zac⟩;refine⟨_,_,_,N,ae,?_⟩;rw[ad]at aa⊢;have hl:s.length=(s.map DK).length:=zac
 conv=>rhs;rw[hl]
 refine RepV.slc_mk Nat.one_pos (λx hx=>by simp only[AR]at hx;obtain⟨b,_,rfl⟩:=hx;rfl) (by simpa using aa) (λh=>by cases h) ?_;intro i j d af;obtain⟨x,hx,ac⟩:=Jx af;simp only[AI,D1]at hx;obtain⟨b,hb,rfl⟩:=hx
 cases j with
 |succ j=>simp[DK,yaZ]at ac
 |zero=>
  simp only[DK,yaZ,Ay,Dv]at ac;subst ac;have hi:i<s.length:=(Aa.1 hb).1
  have ah:C[i]?=s_ (.int .u8 b.toNat):=by
   rw[<-hC];unfold bytesRow;grind
  have a5:i<C.size:=(AO.1 ah).1;refine⟨rfl,.inr ⟨rfl,zaa⟩,.int .u8 b.toNat,?_,.int _ _⟩;have h2:(w.drew.alloc (.cells C e (C.size,C.size+1))).heap[w.heap.size]?=s_ (.cells C e (C.size,C.size+1)):=uz w _;simp only[yax,h2];grind
end
open Go Go.RowKit
def aH(lf:TypeId->Option (List Nat))(P:Program):List Field->Nat->Option (List Nat)
 |[],_=>s_ []
 |f::fs,off=>
  match lf f.type,E9 P f.type with
  |some l,s_ _=>
   if f.name≠ "_"/\f.offset=off/\ET P f.type=s_ l.length/\0<l.length then(aH lf P fs (off+l.length)).map (l++·)else n_
  |_,_=>n_
def KR(P:Program):Nat->TypeId->Option (List Nat)
 |0,_=>n_
 |d+1,t=>
  match P.underlying t with
  |some (.int _)=>s_ [0]
  |some .bool=>s_ [1]
  |some .string=>s_ [2]
  |some (.array n e)=>
   match KR P d e with
   |some l=>if ET P e=s_ l.length/\0<l.length then s_ (C7 n l).flatten else n_
   |none=>n_
  |some (.struct fs)=>if P.stoodInHeld t then n_ else aH (KR P d) P fs.toList 0
  |_=>n_
variable{off:Nat}{t:TypeId}{ks:List Nat}
section
variable{P:Program}{w:World}{g:Ghost}{st:St}
def Qy(ag:Bool)(vs:List Value):Value:=if ag then .agg vs.toArray else vs.headD undef
theorem Ux:∀{ks:List Nat}{xs ys:List D}{b:Bool},Gs ks xs ys=s_ b->xs.length=ks.length/\ys.length=ks.length
 |[],[],[],_,_=>⟨rfl,rfl⟩
 |q::N,x::xs,y::ys,b,h=>by
  simp only[Gs]at h
  split at h
  .rename_i a b' h1 E;have:=Ux E;simp[this]
  .cases h
 |[],[],_::_,_,h=>by simp[Gs]at h
 |[],_::_,_,_,h=>by simp[Gs]at h
 |_::_,[],_,_,h=>by simp[Gs]at h
 |_::_,_::_,[],_,h=>by simp[Gs]at h
theorem uy:∀{E N:List Nat}{xs ys:List D}{b:Bool},Gs (E++N) xs ys=s_ b->
  ∃b1 b2,Gs E (xs.take E.length) (ys.take E.length)=s_ b1/\Gs N (xs.drop E.length) (ys.drop E.length)=s_ b2/\b=(b1&&b2)
 |[],N,xs,ys,b,h=>⟨t_,b,by simp[Gs],by simpa using h,zac⟩
 |q::E,N,x::xs,y::ys,b,h=>by
  simp only[Aj,Gs]at h
  split at h
  .rename_i a b' h1 h2;simp only[Dv]at h;obtain⟨b1,b2,h3,h4,h5⟩:=uy h2;refine⟨a&&b1,b2,by simp[Gs,h1,h3],by simpa using h4,by rw[<-h,h5,Bool.and_assoc]⟩
  .cases h
 |_::_,_,[],_,_,h=>by simp[Gs]at h
 |_::_,_,_::_,[],_,h=>by simp[Gs]at h
def tn(P:Program)(dd:Nat)(t:TypeId)(ks:List Nat):Prop:=
 ∀(w:World)(g:Ghost)(st:St)(ag:Bool)(xs ys:List D)(vs us:List Value)(b:Bool),E9 P t=s_ ag->Gs ks xs ys=s_ b->xs.length=vs.length->ys.length=us.length->
  (∀(i:Nat)d v,xs[i]?=s_ d->vs[i]?=s_ v->RepV w g st d v)->(∀(i:Nat)d v,ys[i]?=s_ d->us[i]?=s_ v->RepV w g st d v)->
  (Op.equalIn dd t (Qy ag vs) (Qy ag us)).run P w=.ok b w
def YN{n:Nat}{ag:Bool}{vs:List Value}(E:E9 P t=s_ ag)(hn:ET P t=s_ n)(N:ag=f_->n=1)(ab:off+n<=vs.length):
  (part t vs.toArray off).run P w=.ok (Qy ag ((vs.drop off).take n)) w:=by
 cases ag with
 |true=>
  simp[part,WM E,NT hn,Qy]
 |false=>
  obtain rfl:=N rfl;have h2:off<vs.length:=zaa
  simp[part,WM E,h2,Qy,List.take_one,List.head?_drop]
theorem yNs{d:Nat}(h:KR P d t=s_ ks)(E:E9 P t=s_ f_):ks.length=1:=by
 cases d with
 |zero=>cases h
 |succ d=>
  unfold KR at h;unfold E9 at E;grind
theorem SC{α:Type}{l:List α}{n i:Nat}{x:α}(h:((l.drop off).take n)[i]?=s_ x):l[off+i]?=s_ x:=by grind
theorem yAj(d dd:Nat)(N:∀t ks,KR P d t=s_ ks->tn P dd t ks):∀(fs:List Field)(off:Nat)(ks:List Nat)(w:World)(g:Ghost)(st:St)(xs ys:List D)(vs us:List Value)(b:Bool),
  aH (KR P d) P fs off=s_ ks->Gs ks (xs.drop off) (ys.drop off)=s_ b->xs.length=vs.length->ys.length=us.length->
  (∀(i:Nat)d v,xs[i]?=s_ d->vs[i]?=s_ v->RepV w g st d v)->(∀(i:Nat)d v,ys[i]?=s_ d->us[i]?=s_ v->RepV w g st d v)->
  (Op.eqFields dd vs.toArray us.toArray fs).run P w=.ok b w
 |[],off,ks,w,g,st,xs,ys,vs,us,b,h,he,hx,hy,rx,ry=>by
  simp[aH]at h;subst h;have:=Ux he
  match ac:xs.drop off,ad:ys.drop off with
  |[],[]=>rw[ac,ad]at he;simp[Gs]at he;subst he;simp[Op.eqFields]
  |_::_,_=>rw[ac]at this;simp at this
  |[],_::_=>rw[ad]at this;simp at this
 |f::fs,off,ks,w,g,st,xs,ys,vs,us,b,h,he,hx,hy,rx,ry=>by
  unfold aH at h
  split at h
  .rename_i l ag hl E
   split at h
   .rename_i hc;obtain⟨ab,a2,ae,a6⟩:=hc;simp only[D1]at h;obtain⟨a3,a4,rfl⟩:=h;obtain⟨b1,b2,h1,h2,rfl⟩:=uy he;have hlen:=Ux he;simp only[AL,Ag]at hlen;rw[BA,BA]at h2;have aa:ag=f_->l.length=1:=λe=>yNs hl (by rw[E,e]);have p1:=YN (P:=P) (w:=w) (off:=off) E ae aa (vs:=vs) zaa;have p2:=YN (P:=P) (w:=w) (off:=off) E ae aa (vs:=us) zaa
    have e1:=N f.type l hl w g st ag _ _ ((vs.drop off).take l.length) ((us.drop off).take l.length) b1 E h1 (by simp[hx]) (by simp[hy])
     (λi d v hd hv=>rx _ d v (SC hd) (SC hv)) (λi d v hd hv=>ry _ d v (SC hd) (SC hv))
    have ih:=yAj d dd N fs (off+l.length) a3 w g st xs ys vs us b2 a4 h2 hx hy rx ry;simp only[Op.eqFields,ab,zbg,zak,zaj,yay,a2,p1,p2,e1,yaz];cases b1
    .simp
    .grind
   .cases h
  .cases h
theorem yry(n:Nat)(l:List Nat):(C7 (n+1) l).flatten=l++(C7 n l).flatten:=zad
theorem yEw(dd:Nat){e:TypeId}{l:List Nat}{ag:Bool}(aa:tn P dd e l)(N:E9 P e=s_ ag)(ab:ET P e=s_ l.length)(af:0<l.length)(E:ag=f_->l.length=1):∀(n k:Nat)(w:World)(g:Ghost)(st:St)(xs ys:List D)(vs us:List Value)(b:Bool),
  Gs (C7 n l).flatten (xs.drop (k*l.length)) (ys.drop (k*l.length))=s_ b->xs.length=vs.length->ys.length=us.length->
  (∀(i:Nat)d v,xs[i]?=s_ d->vs[i]?=s_ v->RepV w g st d v)->(∀(i:Nat)d v,ys[i]?=s_ d->us[i]?=s_ v->RepV w g st d v)->
  (Op.eqItems dd e l.length vs.toArray us.toArray (List.range' k n)).run P w=.ok b w
 |0,k,w,g,st,xs,ys,vs,us,b,he,hx,hy,rx,ry=>by
  simp only[List.replicate_zero,List.flatten_nil]at he;have:=Ux he
  match ac:xs.drop (k*l.length),ad:ys.drop (k*l.length)with
  |[],[]=>rw[ac,ad]at he;simp[Gs]at he;subst he;simp[Op.eqItems]
  |_::_,_=>rw[ac]at this;simp at this
  |[],_::_=>rw[ad]at this;simp at this
 |n+1,k,w,g,st,xs,ys,vs,us,b,he,hx,hy,rx,ry=>by
  rw[yry]at he;obtain⟨b1,b2,h1,h2,rfl⟩:=uy he;have hlen:=Ux he;simp only[AL,Ag]at hlen;rw[BA,BA]at h2;have p1:=YN (P:=P) (w:=w) (off:=k*l.length) N ab E (vs:=vs) zaa;have p2:=YN (P:=P) (w:=w) (off:=k*l.length) N ab E (vs:=us) zaa
  have e1:=aa w g st ag _ _ ((vs.drop (k*l.length)).take l.length) ((us.drop (k*l.length)).take l.length) b1 N h1 (by simp[hx]) (by simp[hy])
   (λi d v hd hv=>rx _ d v (SC hd) (SC hv)) (λi d v hd hv=>ry _ d v (SC hd) (SC hv))
  have ek:(k+1)*l.length=k*l.length+l.length:=by rw[A9,BC]
  have ih:=yEw dd aa N ab af E n (k+1) w g st xs ys vs us b2 (by rw[ek];exact h2) hx hy rx ry;simp only[BZ,Op.eqItems,yay,p1,p2,e1,yaz];cases b1
  .simp
  .grind
theorem xC:∀(d:Nat)(t:TypeId)(ks:List Nat),KR P d t=s_ ks->∀E,d<=E->tn P E t ks
 |0,_,_,h,_,_=>by cases h
 |d+1,t,ks,h,E,a7=>by
  intro w g st ag xs ys vs us b ha he hx hy rx ry;obtain⟨E,rfl⟩:∃e,E=e+1:=⟨E-1,zaa⟩;unfold KR at h;unfold E9 at ha;have ac:∀t ks,KR P d t=s_ ks->tn P E t ks:=λt ks h=>xC d t ks h E zaa
  have single:∀q,ks=[q]->∃x y v u,xs=[x]/\ys=[y]/\vs=[v]/\us=[u]/\Kb q x y=s_ b/\RepV w g st x v/\RepV w g st y u:=by
   intro q hq;subst hq;have hl:=Ux he
   match xs,ys,vs,us,hx,hy,hl with
   |[x],[y],[v],[u],_,_,_=>
    simp only[Gs]at he
    split at he
    .rename_i a b' N h2;simp only[Dv]at h2 he;subst h2;subst he;exact⟨x,y,v,u,rfl,rfl,rfl,rfl,by simpa using N,rx 0 x v rfl rfl,ry 0 y u rfl rfl⟩
    .cases he
  cases hu:P.underlying t with
  |none=>simp[hu]at ha
  |some k=>
   cases k with
   |int k=>
    simp only[hu,Dv]at h ha;subst ha;obtain⟨x,y,v,u,rfl,rfl,rfl,rfl,N,r1,r2⟩:=single 0 h.symm;unfold Kb at N
    split at N<;>simp_all
    obtain rfl:=Kc r1;obtain rfl:=Kc r2;simp only[Qy,Ao,zam,List.headD_cons];rw[run_equalIn_int w E t _ k _ _ hu];simp_all
   |bool=>
    simp only[hu,Dv]at h ha;subst ha;obtain⟨x,y,v,u,rfl,rfl,rfl,rfl,N,r1,r2⟩:=single 1 h.symm;unfold Kb at N
    split at N<;>simp_all
    obtain rfl:=Ok r1;obtain rfl:=Ok r2;simp only[Qy,Ao,zam,List.headD_cons];rw[run_equalIn_bool w E t _ _ hu];simp_all
   |string=>
    simp only[hu,Dv]at h ha;subst ha;obtain⟨x,y,v,u,rfl,rfl,rfl,rfl,N,r1,r2⟩:=single 2 h.symm;unfold Kb at N
    split at N<;>simp_all
    obtain rfl:=NH r1;obtain rfl:=NH r2;simp only[Qy,Ao,zam,List.headD_cons];rw[run_equalIn_string w E t _ _ hu,yT,yT];simp_all
   |array n e=>
    simp only[hu,Dv]at h ha;subst ha
    split at h
    .rename_i l hl
     split at h
     .rename_i hc;simp only[Dv]at h;subst h;obtain⟨aa,a1⟩:=hc
      have hi:∃i,P.info? e=s_ i:=by
       unfold ET at aa
       cases hi:P.info? e with
       |none=>simp[hi]at aa
       |some i=>exact⟨i,rfl⟩
      obtain⟨i,hi⟩:=hi
      have ae:P.cellsOf e=l.length:=by
       unfold ET at aa;unfold Program.cellsOf;grind
      have ab:∃ag,E9 P e=s_ ag:=by
       cases d with
       |zero=>cases hl
       |succ d=>
        unfold KR at hl;unfold E9;grind
      obtain⟨ag,ab⟩:=ab;have a2:ag=f_->l.length=1:=λe'=>yNs hl (by rw[ab,e']);have:=yEw E (ac e l hl) ab aa a1 a2 n 0 w g st xs ys vs us b (by simpa using he) hx hy rx ry;simp only[Qy,zaj];rw[run_equalIn_array w E _ _ hu hi,ae,Bp];exact this
     .cases h
    .cases h
   |struct fs=>
    simp only[hu,Dv]at h ha;subst ha
    split at h
    .cases h
    .rename_i a4;have hf:P.fieldsOf t=fs:=by simp[Program.fieldsOf,hu]
     have:=yAj d E ac fs.toList 0 ks w g st xs ys vs us b h (by simpa using he) hx hy rx ry;simp only[Qy,zaj];rw[run_equalIn_struct w E t _ _ (by rw[hf];exact hu) (by simpa using a4),hf];exact this
   |_=>simp[hu]at h
def Yoj{d:Nat}{E:Bool}{x y r:D}{vx vy:Value}(hl:KR P d t=s_ ks)(hd:d<=10000)(N:E9 P t=s_ t_)(h:Jg ks E x y=s_ r)(hx:RepV w g st x vx)(hy:RepV w g st y vy):
  (∃v,(binOp (if E then .neq else .eql) t vx vy).run P w=.ok v w/\RepV w g st r v)/\∃xs ys,vx=.agg xs/\vy=.agg ys:=by
 unfold Jg at h
 split at h
 .rename_i xs ys;simp only[D1]at h;obtain⟨b,hb,rfl⟩:=h
  cases hx with
  |agg _ vs h1 h2=>
   cases hy with
   |agg _ us h3 h4=>
    refine⟨?_,_,_,rfl,rfl⟩;have e:(Op.equal t (.agg vs.toArray) (.agg us.toArray)).run P w=.ok b w:=xC d t ks hl 10000 hd w g st t_ xs ys vs us b N hb h1 h3 h2 h4;refine⟨.bool (b !=E),?_,.bool _⟩;cases E<;>simp[binOp,e]
 .cases h
end
open Go Go.RowKit
def UI(P:Program)(kt:TypeId):Option (Nat×List Nat):=
 match P.underlying kt with
 |some (.int _)=>s_ (2,[0])
 |some .bool=>s_ (2,[1])
 |some .string=>s_ (2,[2])
 |some (.array n e)=>match P.underlying e,ET P e with
  |some (.int _),s_ 1=>if 2<=n then s_ (n+1,C7 n 0)else n_
  |_,_=>n_
 |_=>n_
def UK(P:Program)(t:TypeId):Option (TypeId×TypeId×Nat×List Nat):=
 match P.underlying t with
 |some (.map kt et)=>match UI P kt,ET P et,E9 P et with
  |some (sz,ks),s_ 1,s_ ag=>if 1000003<=sz then n_ else s_ (kt,et,if ag then sz+2000000 else sz,ks)
  |_,_,_=>n_
 |_=>n_
variable{sz:Nat}
def fv(h:sz<2000000):mS sz=sz:=A3 h
def YHl(h:sz<2000000):mS (sz+2000000)=sz:=by unfold mS;rw[Nat.add_mod_right,A3 h]
def fu(sz:Nat):mS (mS sz)=mS sz:=Nat.mod_mod _ _
def fw(sz:Nat):mS sz<=sz:=Nat.mod_le _ _
def Wa(sz:Nat)(E:D):DE (mS sz) E=DE sz E:=by cases E<;>simp only[DE,fu]
variable{ks:List Nat}{et kt t:TypeId}
def yNi{P:Program}(h:UK P t=s_ (kt,et,sz,ks)):P.underlying t=s_ (.map kt et)/\UI P kt=s_ (mS sz,ks)/\sz≠1000003/\ET P et=s_ 1/\E9 P et=s_ (mW sz):=by
 unfold UK at h
 split at h
 case h_2=>cases h
 rename_i ab ac hu
 split at h
 case h_2=>cases h
 rename_i ad ae ag E N h3
 split at h
 case isTrue=>cases h
 rename_i af;cases h
 cases ag with
 |true=>exact⟨hu,by rw[zae rfl,YHl zaa];exact E,by rw[zae rfl];omega,N,by rw[zae rfl,h3];simp[mW]⟩
 |false=>exact⟨hu,by rw[zaf zab,fv zaa];exact E,by rw[zaf zab];omega,N,by rw[zaf zab,h3];simp[mW];omega⟩
variable{d k v' x y:D}{key q:Nat}{b ok:Bool}{u v vd vk vm vs vv vx vy:Value}{kk:IntKind}{dT e elem sT ty:TypeId}{els p:List D}{r:Option Nat}{es:Array MapEntry}{st':St}
section
variable{P:Program}{base:Nat}{w:World}{g:Ghost}{st:St}
theorem ur(h:Kb q x y=s_ t_):x=y:=by unfold Kb at h;grind
def Qv:D->Bool
 |.int _ _ | .bool _ | .str _=>t_
 |_=>f_
def ZE(h:Kb q x y=s_ b):Qv x=t_/\Qv y=t_:=by
 unfold Kb at h
 split at h
 .exact⟨rfl,rfl⟩
 .exact⟨rfl,rfl⟩
 .exact⟨rfl,rfl⟩
 .cases h
theorem ub:∀{ks:List Nat}{xs ys:List D},Gs ks xs ys=s_ t_->xs=ys
 |[],[],[],_=>rfl
 |q::qs,x::xs,y::ys,h=>by
  simp only[Gs]at h
  split at h
  .rename_i a b E N;simp only[Dv,Af]at h;obtain⟨rfl,rfl⟩:=h;rw[ur E,ub N]
  .cases h
 |[],[],_::_,h=>by simp[Gs]at h
 |[],_::_,_,h=>by simp[Gs]at h
 |_::_,[],_,h=>by simp[Gs]at h
 |_::_,_::_,[],h=>by simp[Gs]at h
theorem ml:∀{ks:List Nat}{xs ys:List D}{b:Bool},Gs ks xs ys=s_ b->∀x∈xs,Qv x=t_
 |[],[],[],_,_=>λx N=>by cases N
 |q::qs,x::xs,y::ys,b,h=>by
  simp only[Gs]at h
  split at h
  .rename_i a b h1 h2;intro z E;rcases AB.1 E with rfl|E
   .exact(ZE h1).1
   .exact ml h2 z E
  .cases h
 |[],[],_::_,_,h=>by simp[Gs]at h
 |[],_::_,_,_,h=>by simp[Gs]at h
 |_::_,[],_,_,h=>by simp[Gs]at h
 |_::_,_::_,[],_,h=>by simp[Gs]at h
def yGr(hd:Qv d=t_)(h:RepV w g st d v)(E:RepV w g st d u):v=u:=by cases h<;>cases E<;>first|rfl|(simp[Qv]at hd;done)
def Yad(h:Gb sz ks x y=s_ t_)(E:RepV w g st x vx)(N:RepV w g st y vy):vx=vy:=by
 unfold Gb at h
 split at h
 .split at h
  .obtain rfl:=ur h;exact yGr (ZE h).1 E N
  .cases h
 .split at h
  .rename_i xs ys;have hs:=ml h;obtain rfl:=ub h
   cases E with
   |agg _ vs h1 h2=>
    cases N with
    |agg _ us h3 h4=>
     have:vs=us:=by
      apply A2;intro i
      cases hv:vs[i]? with
      |none=>rw[BX]at hv;exact(BX.2 zaa).symm
      |some v=>
       have ad:=(Aa.1 hv).1;have hd:xs[i]?=s_ xs[i]:=Ah zaa;have hu:us[i]?=s_ us[i]:=Ah zaa;rw[hu,yGr (hs _ (Ak hd)) (h2 i _ v hd hv) (h4 i _ _ hd hu)]
     rw[this]
  .cases h
def ywn(hd:Qv d=t_)(h:RepV w g st d v)(n:Nat):ya5 n v v=t_:=by
 cases h<;>first
  |(simp[ya5];done)
  |(simp[Qv]at hd;done)
  |(unfold ya5;exact(MapKept.bytes_beq _ _).2 rfl)
theorem ySe(h:Gb sz ks x y=s_ b)(E:RepV w g st x vx):ya5 10000 vx vx=t_:=by
 unfold Gb at h
 split at h
 .split at h
  .exact ywn (ZE h).1 E _
  .cases h
 .split at h
  .rename_i xs ys;have hs:=ml h
   cases E with
   |agg _ vs h1 h2=>
    show(vs.toArray.size==vs.toArray.size&&(vs.toArray.toList.zip vs.toArray.toList).all λ(x,y)=>ya5 9999 x y)=t_
    rw[Af];refine⟨zac,?_⟩;rw[Ad];rintro⟨u,u'⟩ hu
    have N:u=u':=by
     have:=A7.1 hu;grind
    subst N;have hm:u∈vs:=(List.of_mem_zip hu).1;obtain⟨i,hi⟩:=A7.1 hm;have ad:=(Aa.1 hi).1;have hd:xs[i]?=s_ xs[i]:=Ah zaa;exact ywn (hs _ (Ak hd)) (h2 i _ u hd hi) _
  .cases h
def yNz(h:Gb sz ks x y=s_ b)(E:RepV w g st x vx)(w1:World):(ya6 vx vx).run P w1=.ok vx w1:=by simp[ya6,ySe h E]
def yAl(E:P.underlying e=s_ (.int kk))(N:Bool)(n:Nat)(v:Value):(ya7 N (n+1) e v).run P w=.ok () w:=by unfold ya7;simp only[yay,run_underlying E,ya8];rfl
theorem yAk(hk:UI P kt=s_ (sz,ks))(h:Gb sz ks x y=s_ b)(hr:RepV w g st x v)(em:Bool):(ya7 em 10000 kt v).run P w=.ok () w:=by
 unfold UI at hk
 split at hk
 .rename_i hu;exact yAl hu em 9999 v
 .rename_i hu;unfold ya7;simp only[yay,run_underlying hu,ya8];rfl
 .rename_i hu;unfold ya7;simp only[yay,run_underlying hu,ya8];rfl
 .rename_i n e hu
  split at hk
  .rename_i kk N aa
   split at hk
   .rename_i h2;cases hk;unfold Gb at h;rw[YYN]at h
    split at h
    .rename_i xs ys;have hl:=(Ux h).1;rw[BT]at hl
     cases hr with
     |agg _ vs h3 h4=>
      have ac:E9 P e=s_ f_:=by unfold E9;rw[N]
      unfold ya7;simp only[yay,run_underlying hu,yaz];simp only[Std.Legacy.Range.forIn_eq_forIn_range',Std.Legacy.Range.size,Nat.sub_zero,Nat.add_one_sub_one,Nat.div_one];have each:∀i∈List.range' 0 n,i<vs.length:=λi hi=>by rw[List.mem_range'_1]at hi;omega
      generalize List.range' 0 n=is at each
      refine(?_:((forIn is PUnit.unit λi ae=>do
       let E <-sizeOf e
       let E <-part e vs.toArray (i*E)
       ya7 em 9999 e E
       pure (ForInStep.yield PUnit.unit):Sem PUnit).run P w).andThen _=_)
      induction is with
      |nil=>simp
      |cons j is ih=>
       have hj:=each j zac;have p1:=YN (P:=P) (w:=w) (vs:=vs) (off:=j*1) ac aa (λ_=>rfl) zaa;simp only[List.forIn_cons,yay,NT aa,yaz,p1,yAl N,yaE];simp_all
    .cases h
   .cases hk
  .cases hk
 .cases hk
theorem yCx{E:TypeDesc}(hd:(∃kk,E=.int kk/\q=0)\/(E=.bool/\q=1)\/(E=.string/\q=2))(h:Kb q x y=s_ b)(N:RepV w g st x vx)(hy:RepV w g st y vy):ya9 E vx vy=s_ b:=by
 rcases hd with⟨kk,rfl,rfl⟩|⟨rfl,rfl⟩|⟨rfl,rfl⟩
 .unfold Kb at h
  split at h<;>simp_all
  obtain rfl:=Kc N;obtain rfl:=Kc hy;simp_all [ya9]
 .unfold Kb at h
  split at h<;>simp_all
  obtain rfl:=Ok N;obtain rfl:=Ok hy;simp_all [ya9]
 .unfold Kb at h
  split at h<;>simp_all
  obtain rfl:=NH N;obtain rfl:=NH hy;simp only[ya9,Dv];rw[<-h,Bool.eq_iff_iff,MapKept.bytes_beq];simp
def Ents(w:World)(g:Ghost)(st:St)(sz:Nat)(els:List D)(es:List MapEntry):Prop:=
 es.length=els.length/\∀(i:Nat)(e:MapEntry)(el:D),es[i]?=s_ e->els[i]?=s_ el->RepV w g st (DE sz el) e.key
theorem Ents.tail{N:D}{e:MapEntry}{es:List MapEntry}(h:Ents w g st sz (N::els) (e::es)):Ents w g st sz els es:=
 ⟨by have:=h.1;simp only[An]at this;omega,λi e' E h1 h2=>h.2 (i+1) e' E (by simpa using h1) (by simpa using h2)⟩
theorem yEp{E:TypeDesc}{q:Nat}{k:D}{kv:Value}(hd:(∃kk,E=.int kk/\q=0)\/(E=.bool/\q=1)\/(E=.string/\q=2))(hk:RepV w g st k kv):∀(els:List D)(es:List MapEntry)(i:Nat)(r:Option Nat),Ents w g st 2 els es->Hv 2 [q] k els i=s_ r->
  (r=n_/\yba E kv es i=s_ n_)\/∃j e,r=s_ (i+j)/\es[j]?=s_ e/\yba E kv es i=s_ (s_ (i+j,e.val))/\∃el,els[j]?=s_ el/\Gb 2 [q] k (DE 2 el)=s_ t_
 |[],es,i,r,h,hm=>by
  obtain rfl:es=[]:=AW h.1;simp only[Hv,Dv]at hm;exact .inl ⟨hm.symm,rfl⟩
 |el::els,[],i,r,h,hm=>by have:=h.1;simp at this
 |el::els,e::es,i,r,h,hm=>by
  have h0:=h.2 0 e el rfl rfl;simp only[Hv]at hm
  split at hm
  .rename_i N;cases hm;have hs:=yCx hd (show Kb q k (DE 2 el)=s_ t_ from N) hk h0;exact .inr ⟨0,e,rfl,rfl,by simp only[yba,hs,BR],el,rfl,N⟩
  .rename_i N;have hs:=yCx hd (show Kb q k (DE 2 el)=s_ f_ from N) hk h0;rcases yEp hd hk els es (i+1) r h.tail hm with⟨h1,h2⟩|⟨j,e',h1,h2,h3,af,h4,h5⟩
   .exact .inl ⟨h1,by simp only[yba,hs,h2]⟩
   .refine .inr ⟨j+1,e',by rw[h1];congr 1;omega,by simpa using h2,?_,af,by simpa using h4,h5⟩;simp only[yba,hs,h3]
    congr 3;omega
  .cases hm
theorem yu6{kt:TypeId}{sz:Nat}{ks:List Nat}{k:D}{kv:Value}(ac:sz≠2)(hl:KR P 100 kt=s_ ks)(ha:E9 P kt=s_ t_)(hk:RepV w g st k kv):∀(els:List D)(es:List MapEntry)(i:Nat)(r:Option Nat),Ents w g st sz els es->Hv sz ks k els i=s_ r->
  (r=n_/\(ybb kt kv es i).run P w=.ok n_ w)\/∃j e,r=s_ (i+j)/\es[j]?=s_ e/\(ybb kt kv es i).run P w=.ok (s_ (i+j,e.val)) w/\∃el,els[j]?=s_ el/\Gb sz ks k (DE sz el)=s_ t_
 |[],es,i,r,h,hm=>by
  obtain rfl:es=[]:=AW h.1;simp only[Hv,Dv]at hm;exact .inl ⟨hm.symm,rfl⟩
 |el::els,[],i,r,h,hm=>by have:=h.1;simp at this
 |el::els,e::es,i,r,h,hm=>by
  have h0:=h.2 0 e el rfl rfl
  have he:∀b,Gb sz ks k (DE sz el)=s_ b->(Op.equal kt kv e.key).run P w=.ok b w:=λb hb=>by
   unfold Gb at hb;rw[zaf ac]at hb
   split at hb
   .rename_i xs ys a0;rw[a0]at h0
    cases hk with
    |agg _ vs E N=>
     generalize e.key=ek at h0
     cases h0 with
     |agg _ us h3 h4=>exact xC 100 kt ks hl 10000 zaa w g st t_ xs ys vs us b ha hb E h3 N h4
   .cases hb
  simp only[Hv]at hm
  split at hm
  .rename_i hq;cases hm;exact .inr ⟨0,e,rfl,rfl,by simp[ybb,he t_ hq],el,rfl,hq⟩
  .rename_i hq;rcases yu6 ac hl ha hk els es (i+1) r h.tail hm with⟨E,N⟩|⟨j,e',E,N,h3,a1,h4,h5⟩
   .exact .inl ⟨E,by simp[ybb,he f_ hq,N]⟩
   .refine .inr ⟨j+1,e',by rw[E];congr 1;omega,by simpa using N,?_,a1,by simpa using h4,h5⟩;simp[ybb,he f_ hq,h3];omega
  .cases hm
theorem yR4{n:Nat}(hu:P.underlying kt=s_ (.array n e))(E:P.underlying e=s_ (.int kk))(N:ET P e=s_ 1):KR P 100 kt=s_ (C7 n 0):=by
 have h1:KR P 99 e=s_ [0]:=by unfold KR;rw[E]
 unfold KR;simp_all
theorem mC{N:Value}{es:List MapEntry}(E:UI P kt=s_ (sz,ks))(hk:RepV w g st k N)(hE:Ents w g st sz els es)(hm:Hv sz ks k els 0=s_ r):
  (r=n_/\(ybc kt N es).run P w=.ok n_ w)\/∃j e,r=s_ j/\es[j]?=s_ e/\(ybc kt N es).run P w=.ok (s_ (j,e.val)) w/\∃el,els[j]?=s_ el/\Gb sz ks k (DE sz el)=s_ t_:=by
 have one:∀(desc:TypeDesc)(q:Nat),P.underlying kt=s_ desc->(sz,ks)=(2,[q])->((∃kk,desc=.int kk/\q=0)\/(desc=.bool/\q=1)\/(desc=.string/\q=2))->
   (r=n_/\(ybc kt N es).run P w=.ok n_ w)\/∃j e,r=s_ j/\es[j]?=s_ e/\(ybc kt N es).run P w=.ok (s_ (j,e.val)) w/\∃el,els[j]?=s_ el/\Gb sz ks k (DE sz el)=s_ t_:=by
  intro desc q hu he hd;cases he;rcases yEp hd hk els es 0 r hE hm with⟨h1,h2⟩|⟨j,e,h1,h2,h3,h4⟩
  .exact .inl ⟨h1,MapKept.run_findKey hu h2⟩
  .rw[Ar]at h1 h3;exact .inr ⟨j,e,h1,h2,MapKept.run_findKey hu h3,h4⟩
 unfold UI at E
 split at E
 .rename_i kk hu;exact one _ 0 hu (At E).symm (.inl ⟨kk,rfl,rfl⟩)
 .grind
 .grind
 .rename_i n e hu
  split at E
  .rename_i kk ah a0
   split at E
   .rename_i h2;cases E;have ha:E9 P kt=s_ t_:=by unfold E9;rw[hu]
    have h3:=yu6 zaa (yR4 hu ah a0) ha hk els es 0 r hE hm
    have h4:(ybc kt N es).run P w=(ybb kt N es 0).run P w:=by
     cases es with
     |nil=>simp[ybc,run_underlying hu,yba,ybb]
     |cons e0 es=>
      have:yba (.array n e) N (e0::es) 0=n_:=by
       rfl
      simp[ybc,run_underlying hu,this]
    grind
   .cases E
  .cases E
 .cases E
def WH(h:Gb sz ks k x=s_ t_):k=x:=by
 unfold Gb at h
 split at h
 .split at h
  .exact ur h
  .cases h
 .split at h
  .rw[ub h]
  .cases h
theorem W3{sz:Nat}{ks:List Nat}{k:D}:∀(els:List D)(i:Nat),Ff sz ks k els=t_->
  (Hv sz ks k els i=s_ n_/\∀el∈els,Gb sz ks k (DE sz el)=s_ f_)\/∃j el,Hv sz ks k els i=s_ (s_ (i+j))/\els[j]?=s_ el/\Gb sz ks k (DE sz el)=s_ t_
 |[],i,_=>.inl ⟨rfl,λ_ h=>by cases h⟩
 |el::els,i,h=>by
  simp only[Ff,AQ,Af]at h;obtain⟨b,hb⟩:=B5.1 h.1
  cases b with
  |true=>exact .inr ⟨0,el,by simp only[Hv,hb,BR],rfl,hb⟩
  |false=>
   rcases W3 els (i+1) h.2 with⟨E,N⟩|⟨j,aa,E,N,h3⟩
   .exact .inl ⟨by simp only[Hv,hb,E],λx hx=>by
     grind⟩
   .exact .inr ⟨j+1,aa,by simp only[Hv,hb,E];congr 2;omega,by simpa using N,h3⟩
theorem Yfq{f:D->D}(N:(els.map f).Nodup)(E:x∈els)(hy:y∈els)(h:f x=f y):x=y:=by
 induction els with
 |nil=>cases E
 |cons a l ih=>
  grind
theorem lW(hp:p.Perm els)(ab:(els.map (DE sz)).Nodup)(E:Ff sz ks k els=t_)(h:Hv sz ks k els 0=s_ r):
  (r=n_/\Hv sz ks k p 0=s_ n_)\/∃i j el,r=s_ i/\Hv sz ks k p 0=s_ (s_ j)/\els[i]?=s_ el/\p[j]?=s_ el/\Gb sz ks k (DE sz el)=s_ t_:=by
 have N:Ff sz ks k p=t_:=Ad.2 λx hx=>Ad.1 E x (hp.mem_iff.1 hx);rcases W3 els 0 E with⟨h1,h2⟩|⟨i,el,h1,h2,h3⟩<;>rcases W3 p 0 N with⟨h4,h5⟩|⟨j,ah,h4,h5,h6⟩
 .grind
 .grind
 .grind
 .rw[Ar]at h1 h4;have e:ah=el:=Yfq ab (hp.mem_iff.1 (Ak h5)) (Ak h2) ((WH h6).symm.trans (WH h3));grind
theorem vn{x y:D}:∀{l:List D}{k:Nat},l[k]?=s_ x->l.Perm (x::l.eraseIdx k)/\(l.set k y).Perm (y::l.eraseIdx k)
 |[],_,h=>by simp at h
 |a::l,0,h=>by
  simp_all
 |a::l,k+1,h=>by
  obtain⟨E,N⟩:=vn (l:=l) (k:=k) (by simpa using h);exact⟨(CL a E).trans (List.Perm.swap x a _),(CL a N).trans (List.Perm.swap y a _)⟩
def Ym2{i j:Nat}(E:p.Perm els)(hi:els[i]?=s_ x)(hj:p[j]?=s_ x):(p.set j y).Perm (els.set i y):=by obtain⟨a1,N⟩:=vn (y:=y) hj;obtain⟨b1,b2⟩:=vn (y:=y) hi;have h3:(p.eraseIdx j).Perm (els.eraseIdx i):=List.Perm.cons_inv ((a1.symm.trans E).trans b1);exact(N.trans (CL y h3)).trans b2.symm
theorem yUm{α:Type}(f:α->α):∀(l:List α)(i:Nat)(x y:α),l[i]?=s_ x->f x=y->(∀(j:Nat)(z:α),l[j]?=s_ z->j≠i->f z=z)->l.map f=l.set i y
 |[],i,x,y,h,_,_=>by simp at h
 |a::l,0,x,y,h,N,E=>by
  obtain rfl:=At h
  have:l.map f=l:=by
   apply A2;intro j;rw[AI]
   cases hj:l[j]? with
   |none=>rfl
   |some z=>rw[Ae,E (j+1) z (by simpa using hj) zaa]
  grind
 |a::l,i+1,x,y,h,N,E=>by
  rw[Av,E 0 a rfl zaa,yUm f l i x y (by simpa using h) N (λj z hj aa=>E (j+1) z (by simpa using hj) zaa)];rfl
theorem Ynh{i:Nat}(hi:Hv sz ks k els 0=s_ (s_ i))(aa:(els.map (DE sz)).Nodup)(ab:Ff sz ks k els=t_):L5 sz ks k x els=els.set i x:=by
 rcases W3 els 0 ab with⟨N,_⟩|⟨j,el,N,h2,h3⟩
 .grind
 .rw[hi,Ar]at N;cases N;refine yUm _ els i el x h2 (by rw[h3]) λq z hq ae=>?_
  split
  .rename_i h4;exfalso;have e:=(WH h4).symm.trans (WH h3);have E:(els.map (DE sz))[q]?=s_ (DE sz el):=by rw[AI,hq,Ae,e]
   have af:(els.map (DE sz))[i]?=s_ (DE sz el):=by rw[AI,h2,Ae]
   exact ae ((List.getElem?_inj (Aa.1 E).1 aa).1 (E.trans af.symm))
  .rfl
theorem kO(sz:Nat)(a:Int)(x:D):∀(els:List D),(Fk sz a x els).Perm (els++[x])
 |[]=>List.Perm.refl _
 |el::r=>by
  unfold Fk
  split
  .exact(List.perm_append_comm (l₁:=[x]) (l₂:=el::r))
  .exact CL el (kO sz a x r)
def Ylg(sz:Nat)(k x:D)(els:List D):(N5 sz k x els).Perm (els++[x]):=by
 unfold N5
 split
 .exact kO sz _ x els
 .rfl
def Yf0(hS:SR base w g st)(h:1<mS sz)(E:sz≠1000003):RunsTo P base w g st (ybd t n_) (.mapv st.length) (st++[{row:=f_,sz,els:=[],lent:=f_}]):=by
 have hm:({row:=f_,sz,els:=[],lent:=f_}:Obj).isMap=t_:=by have:=fw sz;simp[Obj.isMap];omega
 have N:=SR.pushMap (w':=w.alloc (.map #[] 0)) (o:={row:=f_,sz,els:=[],lent:=f_}) (clock:=0) hS ⟨rfl,rfl,rfl,zac⟩ (λb hb=>TZ w _ b hb) (MapKept.heap_alloc w _).1 hm h E rfl;refine⟨.map (s_ w.heap.size),_,_,rfl,N,?_⟩;have:=RepV.mapv (w:=w.alloc (.map #[] 0)) (g:={g with β:=Gt g.β st.length w.heap.size}) (st:=st++[{row:=f_,sz,els:=[],lent:=f_}]) st.length {row:=f_,sz,els:=[],lent:=f_} zac hm;simpa[Jv]using this
theorem Yf3{o:Obj}(E:st[key]?=s_ o)(h:RepV w g st (.mapv key) v):o.isMap=t_/\v=.map (s_ (g.β key)):=by
 cases h with
 |mapv _ N h1 h2=>
  grind
def Yii(N:es.size=p.length)(h2:∀(i:Nat)(e:MapEntry)(el:D),es[i]?=s_ e->p[i]?=s_ el->RepV w g st (DE sz el) e.key/\RepV w g st (G7 sz el) e.val):Ents w g st (mS sz) p es.toList:=
 ⟨by simpa using N,λi e el he E=>by rw[Wa];exact(h2 i e el (by simpa using he) E).1⟩
def Yv5(h:d.noRef1=t_):RepV w g st d (Qx d):=by cases d<;>first|(cases h;done)|exact .int _ _|exact .bool _|exact .str _
def YE8(f:Nat):RepV w g st (.agg [.clo f []]) (Qx (.agg [.clo f []])):=
 .agg _ [_] rfl λi d v hd hv=>by
  cases i with
  |succ i=>simp at hd
  |zero=>
   simp only[Ay,Dv]at hd hv;subst hd;subst hv;have:=RepV.clo (w:=w) (g:=g) (st:=st) f [] [] rfl (λi d v h=>by simp at h);rwa [mD,lE]at this
theorem yVr{b:Nat}{clock:Nat}{r zd:D}(E:P.underlying t=s_ (.map kt et))(ad:UI P kt=s_ (mS sz,ks))(hz:KP P et=s_ zd)
  (h1:w.heap[b]?=s_ (.map es clock)) (hp:p.Perm els) (h3:es.size=p.length) (h5:∀(i:Nat)(e:MapEntry)(el:D),es[i]?=s_ e->p[i]?=s_ el->RepV w g st (DE sz el) e.key/\RepV w g st (G7 sz el) e.val) (b4:(els.map (DE sz)).Nodup)
  (hk:RepV w g st k vk) (h:O7 sz ks ok zd k els=s_ r):∃v,(ybe t (.map (s_ b)) vk ok).run P w=.ok v w/\RepV w g st r v:=by
 unfold O7 at h
 split at h
 case isFalse=>cases h
 rename_i hc;simp only[Af]at hc;obtain⟨a8,a1⟩:=hc;obtain⟨bb,hb⟩:=B5.1 a8;have hE:=Yii h3 h5;have N:=yAk (w:=w) ad hb hk es.isEmpty
 have ae:(els.map (DE (mS sz))).Nodup:=by
  have e:DE (mS sz)=DE sz:=funext λx=>Wa sz x;grind
 have ba:∃z,(zeroValue et).run P w=.ok z w/\RepV w g st zd z:=by
  unfold KP at hz
  split at hz
  case h_2=>cases hz
  rename_i i hi
  split at hz
  case h_2=>cases hz
  rename_i z bc;exact⟨z,by simp[zeroValue,typeInfo,hi,bc],Ui hz⟩
 obtain⟨z,a2,a3⟩:=ba
 have af:∀(x:D)(v:Value)(b:Bool),RepV w g st x v->RepV w g st (.tup [x,.bool b]) (.tuple #[v,.bool b]):=λx v b hx=>by
  refine .tup [x,.bool b] [v,.bool b] rfl λi d u hd E=>?_
  match i,hd,E with
  |0,hd,E=>simp at hd E;subst hd;subst E;exact hx
  |1,hd,E=>simp at hd E;subst hd;subst E;exact .bool _
 split at h
 .rename_i i hi;rcases lW hp ae a1 hi with⟨h6,_⟩|⟨i',j,a4,h6,h7,h8,h9,b5⟩
  .cases h6
  .obtain rfl:=At h6;rw[h8]at h;cases h;rcases mC ad hk hE h7 with⟨aa,_⟩|⟨j',e,aa,bd,ab,_⟩
   .cases aa
   .obtain rfl:=At aa;have hr:=(h5 j e a4 (by simpa using bd) h9).2
    cases ok with
    |true=>exact⟨.tuple #[e.val,.bool t_],by simp[ybe,run_underlying E,MapKept.run_getObj_map h1,N,ab],af _ _ _ hr⟩
    |false=>exact⟨e.val,by simp[ybe,run_underlying E,MapKept.run_getObj_map h1,N,ab],hr⟩
 .rename_i hi;cases h;rcases lW hp ae a1 hi with⟨_,h7⟩|⟨i',j,a4,h6,_⟩
  .rcases mC ad hk hE h7 with⟨_,ab⟩|⟨j',e,aa,_⟩
   .cases ok with
    |true=>exact⟨.tuple #[z,.bool f_],by simp[ybe,run_underlying E,MapKept.run_getObj_map h1,N,ab,a2],af _ _ _ a3⟩
    |false=>exact⟨z,by simp[ybe,run_underlying E,MapKept.run_getObj_map h1,N,ab,a2],a3⟩
   .cases aa
  .cases h6
 .cases h
def Yqo{t:GT}{E:D}(h:E∈t.els):(DE 2 E).noRef1=t_/\RepV w g st (G7 t.sz E) (Qx (G7 t.sz E)):=by
 cases t with
 |s es=>
  simp only[GT.els,AR]at h;obtain⟨x,_,rfl⟩:=h;exact⟨rfl,.str _⟩
 |b es=>
  simp only[GT.els,AR]at h;obtain⟨x,_,rfl⟩:=h;exact⟨rfl,.bool _⟩
 |f es=>
  simp only[GT.els,AR]at h;obtain⟨x,_,rfl⟩:=h;have e:G7 (GT.f es).sz (.agg [.int .i64 x.1,.clo x.2 []])=.agg [.clo x.2 []]:=by simp[G7,GT.sz,mW,mS]
  rw[e];exact⟨rfl,YE8 _⟩
def Yik(t:GT):DE t.sz=DE 2:=by
 funext el
 cases t with
 |f es=>cases el<;>simp[DE,GT.sz,mS]
 |_=>rfl
def yZw(hS:SR base w g st){m r zd:D}(ht:UK P t=s_ (kt,et,sz,ks))(hz:KP P et=s_ zd)(hm:RepV w g st m vm)(hk:RepV w g st k vk)
  (h:JH st sz ks ok zd m k=s_ r):∃v,(ybe t vm vk ok).run P w=.ok v w/\RepV w g st r v:=by
 obtain⟨hu,ad,ae,_,_⟩:=yNi ht;unfold JH at h
 split at h
 case h_3=>cases h
 .rename_i key
  split at h
  case h_2=>cases h
  rename_i o ho
  split at h
  case isFalse=>cases h
  rename_i hc;simp only[Af,zao]at hc;obtain⟨_,rfl⟩:=hc;obtain⟨ah,rfl⟩:=Yf3 ho hm;obtain⟨es,clock,N,h2,⟨p,hp,h3,h5⟩,h4,ab,_,_⟩:=(hS.mp key o ho ah).old (by first|exact ae|(simpa using ae));exact yVr hu ad hz N hp h3 h5 ab hk h
 .rename_i gt
  split at h
  case isFalse=>cases h
  rename_i h2
  obtain⟨b,E,clock,rfl,N,l,hl,h3,h5,ab⟩:∃b E clock,vm=.map (s_ b)/\w.heap[b]?=s_ (.map E clock)/\So E gt:=by
   cases hm with
   |gmap _ b E clock N h2 h3=>exact⟨b,E,clock,rfl,N,h3⟩
  refine yVr hu ad hz N hl h3 (λi e el he af=>?_) (by rw[h2,Yik];exact ab) hk h;obtain⟨e1,e2⟩:=h5 i e el he af;obtain⟨n1,n2⟩:=Yqo (hl.mem_iff.1 (Ak af));rw[h2,Yik,e1,e2];exact⟨Yv5 n1,n2⟩
theorem YKg{v:D}(h:Gb (mS sz) ks k k=s_ b)(hl:k.cells.length+1=mS sz)(hv:II sz v=s_ v'):DE sz (.agg (k.cells++[v']))=k/\G7 sz (.agg (k.cells++[v']))=v/\k.cells.all yat=t_:=by
 have N:(k.cells++[v']).take (mS sz-1)=k.cells:=by rw[show mS sz-1=k.cells.length by omega];simp
 have e2:(k.cells++[v']).drop (mS sz-1)=[v']:=by rw[show mS sz-1=k.cells.length by omega];simp
 refine⟨?_,?_,?_⟩
 .simp only[DE,N];unfold Gb at h
  split at h
  .rename_i e;rw[e]
   split at h
   .have E:=(ZE h).1;cases k<;>first|rfl|(simp[Qv]at E;done)
   .cases h
  .rename_i e
   split at h
   .simp[e,D.mk,yaZ]
   .cases h
 .simp only[G7,e2];unfold II at hv;grind
 .unfold Gb at h
  split at h
  .split at h
   .have E:=(ZE h).1;cases k<;>first|rfl|(simp[Qv]at E;done)
   .cases h
  .cases k with
   |agg xs=>
    have E:=ml h;refine Ad.2 λx hx=>?_;have:=E x hx;cases x<;>first|rfl|(simp[Qv]at this;done)
   |_=>cases h
def Ymu{n:Nat}(h:RI v n=f_)(hn:n+1<40):RI v (n+1)=f_:=by
 cases v with
 |int k m=>cases k<;>first|rfl|cases h
 |string s=>simp only[RI,decide_eq_false_iff_not];omega
 |_=>rfl
theorem Yw2{f:Nat}{E:List D}(h:K2 (.clo f E)=t_)(N:RepV w g st (.clo f E) u):∃fn a b,u=.func fn a b/\∀n,fn=.func n->Vf n=f_:=by
 simp only[K2,Af,AN]at h
 cases N with
 |clo _ _ us h1 h2=>
  refine⟨_,_,_,rfl,λn hn=>?_⟩;unfold IN at hn;grind
def Ydf(h:K2 v'=t_)(E:RepV w g st v' u):Ve u=f_/\Ve (.agg #[u])=f_:=by
 cases v' with
 |int k n=>cases E;exact⟨rfl,rfl⟩
 |bool b=>cases E;exact⟨rfl,rfl⟩
 |str s=>cases E;exact⟨rfl,rfl⟩
 |clo f N=>
  obtain⟨fn,a,b,rfl,hn⟩:=Yw2 h E;refine⟨rfl,?_⟩
  cases fn with
  |func n=>exact hn n rfl
  |_=>rfl
 |_=>cases h
def Ytj{v:D}(E:II sz v=s_ v')(h:K2 v'=t_)(N:RepV w g st v vv):Ve vv=f_:=by
 unfold II at E
 split at E
 .split at E
  .rename_i c;obtain rfl:=At E
   cases N with
   |agg _ us h1 h2=>
    match us,h1 with
    |[u],_=>exact(Ydf h (h2 0 _ u rfl rfl)).2
  .cases E
 .obtain rfl:=At E;exact(Ydf h N).1
theorem yNg(hS:SR base w g st){m v:D}(ht:UK P t=s_ (kt,et,sz,ks))(hm:RepV w g st m vm)(hk:RepV w g st k vk)(hv:RepV w g st v vv)
  (h:Mp st sz ks m k v=s_ st'):∃w' g',(ybf t vm vk vv).run P w=.ok () w'/\Go1 base w g st w' g' st':=by
 obtain⟨hu,a1,af,_,_⟩:=yNi ht;unfold Mp at h
 split at h
 case h_2=>cases h
 rename_i key
 split at h
 case h_2=>cases h
 rename_i o v' ho ab
 split at h
 case isFalse=>cases h
 rename_i hc;simp only[Af,AN,zao]at hc;obtain⟨⟨⟨⟨⟨⟨⟨⟨⟨_,rfl⟩,cf⟩,c6⟩,bb⟩,hl⟩,c0⟩,ah⟩,bh⟩,a0⟩:=hc;obtain⟨ac,rfl⟩:=Yf3 ho hm;obtain⟨es,clock,N,h2,⟨p,hp,h3,h5⟩,⟨h0,h4⟩,b3,b4,E⟩:=(hS.mp key o ho ac).old (by first|exact af|(simpa using af));have hE:=Yii h3 h5;have a3:=yAk (w:=w) a1 ah hk f_;obtain⟨k1,k2,k3⟩:=YKg ah hl ab
 have ad:(o.els.map (DE (mS o.sz))).Nodup:=by
  have e:DE (mS o.sz)=DE o.sz:=funext λx=>Wa o.sz x;grind
 have c7:∃l,(D.agg (k.cells++[v']))=.agg l/\l.length=mS o.sz/\(l.take (mS o.sz-1)).all yat=t_:=
  ⟨_,rfl,by rw[Ag];exact hl,by rw[show mS o.sz-1=k.cells.length by omega,List.take_left'];exact k3;rfl⟩
 have c8:g.β key<w.heap.size:=(AO.1 N).1;have hlen:p.length=o.els.length:=hp.length_eq
 have c9:∀x,vk≠.int .u8 x:=λx e=>by
  subst e
  cases k with
  |int kk n=>cases hk;simp[N1]at bh
  |bool _=>cases hk
  |str _=>cases hk
  |agg _=>cases hk
  |tup _=>cases hk
  |_=>simp[yaZ,yat]at k3
 have da:∀n,n<40->RI vk n=f_:=λn hn=>by
  unfold RI;grind
 unfold MO at h
 split at h
 .rename_i i hi;simp only[Ae,Dv]at h;rw[Ynh hi ad a0]at h;subst h;rcases lW hp ad a0 hi with⟨h6,_⟩|⟨i',j,a4,h6,h7,h8,h9,bc⟩
  .cases h6
  obtain rfl:=At h6;rcases mC a1 hk hE h7 with⟨a7,_⟩|⟨j',e,a7,b8,b9,db,dc,c2⟩
  .cases a7
  .obtain rfl:=At a7;have a8:es[j]?=s_ e:=by simpa using b8
   have ca:e.key=vk:=(Yad bc hk (by rw[Wa];exact(h5 j e a4 a8 h9).1)).symm;have bg:DE o.sz a4=k:=by rw[<-Wa];exact(WH bc).symm
   have cb:(ya6 e.key vk).run P w=.ok vk w:=by rw[ca];exact yNz ah hk w
   refine⟨_,g,?_,SR.updMap (o':={o with els:=o.els.set i (.agg (k.cells++[v']))}) (es':=es.modify j λe=>{e with key:=vk,val:=vv}) (clock':=clock) (w':={w with heap:=w.heap.setIfInBounds (g.β key) (.map (es.modify j λe=>{e with key:=vk,val:=vv}) clock)}) hS ho ac af rfl rfl zac rfl
    ⟨rfl,rfl,rfl,zac⟩ (λb hb=>(MapKept.heap_set N).2 b hb) (MapKept.heap_set N).1 ⟨p.set j (.agg (k.cells++[v'])),Ym2 hp h8 h9,by simpa using h3,?_⟩ ⟨h0,?_⟩ ?_ (by simpa using b4) ?_⟩
   .simp[ybf,run_underlying hu,MapKept.run_getObj_map N,a3,b9,a8,cb,MapKept.run_setObj_map _ N]
   .grind
   .grind
   .have dd:i<o.els.length:=(Aa.1 h8).1
    have e0:(o.els.set i (D.agg (k.cells++[v']))).map (DE o.sz)=o.els.map (DE o.sz):=by
     rw[Ch,k1];have hx:(o.els.map (DE o.sz))[i]?=s_ k:=by rw[AI,h8,Ae,bg]
     obtain⟨hy,hx⟩:=Aa.1 hx;rw[<-hx];exact List.set_getElem_self hy
    grind
   .rw[vK]at E⊢;rw[Cg]
    by_cases cc:j=0
    .subst cc;rw[zae rfl,a8];simp only[Ae,Ytj ab bb hv,Bn];grind
    .grind
 .rename_i hi
  split at h
  case isFalse=>simp at h
  rename_i de;simp only[Ae,Dv]at h;subst h;have aa:=Ylg (mS o.sz) k (.agg (k.cells++[v'])) o.els;rcases lW hp ad a0 hi with⟨_,h7⟩|⟨i',j,a4,h6,_⟩
  case inr=>cases h6
  rcases mC a1 hk hE h7 with⟨_,h8⟩|⟨j,e,h6,_⟩
  .refine⟨_,g,?_,SR.updMap (o':={o with els:=N5 (mS o.sz) k (.agg (k.cells++[v'])) o.els}) (es':=es.push {key:=vk,val:=vv,born:=clock}) (clock':=clock+1) (w':={w with heap:=w.heap.setIfInBounds (g.β key) (.map (es.push {key:=vk,val:=vv,born:=clock}) (clock+1))}) hS ho ac af rfl rfl (by have e:=aa.length_eq;simp only[Ag,An,As]at e;show o.els.length<=(N5 _ _ _ _).length;omega) rfl
    ⟨rfl,rfl,rfl,zac⟩ (λb hb=>(MapKept.heap_set N).2 b hb) (MapKept.heap_set N).1 ⟨p++[.agg (k.cells++[v'])],(hp.append_right _).trans aa.symm,by simpa using h3,?_⟩ ⟨h0,?_⟩ ?_ (by rw[Array.size_push];omega) ?_⟩
   .simp[ybf,run_underlying hu,MapKept.run_getObj_map N,a3,h8,MapKept.run_setObj_map _ N]
   .grind
   .grind
   .show((N5 (mS o.sz) k (D.agg (k.cells++[v'])) o.els).map (DE o.sz)).Nodup
    rw[(aa.map _).nodup_iff,A1,List.nodup_append];refine⟨b3,zac,λa ha b hb=>?_⟩;simp only[Av,Bc,AU]at hb;subst hb;rw[k1];rintro rfl;obtain⟨x,hx,cd⟩:=AR.1 ha;rcases W3 o.els 0 a0 with⟨_,ce⟩|⟨j,el,c5,_⟩
    .have h9:=ce x hx;rw[Wa,cd,ah]at h9;cases h9
    .grind
   .rw[vK]at E⊢;rw[Array.size_push]
    by_cases hj:0<es.size
    .rw[Array.getElem?_push_lt hj];rw[Bt hj]at E;simp only[Bool.or_eq_false_iff]at E⊢;exact⟨Ymu E.1 zaa,E.2⟩
    .have he:es=#[]:=Array.eq_empty_of_size_eq_zero zaa;subst he
     show(RI vk _||Ve vv)=f_
     rw[Ytj ab bb hv,Bn];grind
  .cases h6
 .cases h
theorem YBt(hS:SR base w g st){tot off len:Nat}{s r:D}(hu:P.underlying dT=s_ (.slice elem))(bc:(P.info? elem).map (·.size)=s_ 1)(hd:RepV w g st (.row key tot off len) vd)(hs:RepV w g st s vs)
  (h:jX st 1 key tot off len s=s_ (r,st')):RunsTo P base w g st (ybg #[dT,sT] ty #[vd,vs]) r st':=by
 unfold jX at h
 split at h
 case h_2=>cases h
 rename_i o c0 xs ho bd
 split at h
 case isFalse=>cases h
 rename_i hc;simp only[Af,AN,zao,zan,A5,BM]at hc;obtain⟨⟨⟨⟨⟨⟨⟨⟨E,b4⟩,a4⟩,aa⟩,_⟩,ca⟩,cb⟩,a5⟩,cc⟩:=hc;cases h;obtain⟨N,h1,h2,h3,rfl,h5⟩:=Y2 (by simp[EY,ho,E,a4]) hd;obtain rfl:N=o:=At (h1.symm.trans ho);obtain⟨C,e,hb,b5,ce,hx,hC,cf⟩:=hS.blk key N ho (OY E);rw[E]at hC;simp only[zaj]at hC
 have hE:Els w g st vs 1 xs:=by
  rcases yd hS bd hs with h6|⟨s',rfl,_,_⟩
  .grind
  .simp[Kk]at a5
 obtain⟨⟨a,cap,rfl,be⟩,b6,bf⟩:=hE;have c1:min len xs.length<=xs.length:=Nat.min_le_right _ _;have c2:min len xs.length<=len:=Nat.min_le_left _ _;have a7:Nat.min xs.length len=min len xs.length:=Nat.min_comm ..;generalize min len xs.length=m at*
 have a8:xs≠[]:=by
  grind
 obtain⟨b,o2,rfl,_,b7⟩:=be a8
 have c3:∀j,j<m->∃d u,GC xs j 0=s_ d/\w.cell? ⟨b,o2+j,n_⟩=s_ u/\RepV w g st d u/\u.oneCell'=t_:=by
  intro j hj;have a1:j<xs.length:=zaa
  have c5:=bf xs[j] (A6 a1);have c6:GC xs j 0=s_ (xs[j].cells[0]' zaa):=IU (Ah a1) (Ah zaa);grind
 have a2:∀j:Nat,((C9 m).map λj=>(w.cell? ⟨b,o2+j,n_⟩).getD undef)[j]?=if j<m then w.cell? ⟨b,o2+j,n_⟩else n_:=λj=>by
  grind
 have hlen:((C9 m).map λj=>(w.cell? ⟨b,o2+j,n_⟩).getD undef).length=m:=by rw[Az,CN]
 generalize ((C9 m).map λj=>(w.cell? ⟨b,o2+j,n_⟩).getD undef)=cs at a2 hlen
 have a9:∀v∈cs,v.oneCell'=t_:=λv hv=>by
  obtain⟨j,hj⟩:=A7.1 hv;grind
 rw[aa,BS]at hC;rw[show off*N.sz=off by rw[aa,BS]];have ad:off+cs.length<=C.size:=zaa
 have ba:=run_copy_row P w dT sT ty elem (g.β key) off len (g.γ key-off) ⟨b,o2,n_⟩ xs.length cap C e cs hu bc hb (by rw[hlen];exact a7.symm) (λj v hv=>by
   rw[a2]at hv
   split at hv
   .rw[cell?_add];simpa using hv
   .cases hv) ad a9
 have bg:(xs.take m).length=m:=by rw[AJ];omega
 have ae:off+(xs.take m).length<=N.els.length:=zaa
 have bh:=ZH ae
 have bb:∀j y,(FZ N.els off (xs.take m))[j]?=s_ y->(off<=j/\j<off+m/\xs[j-off]?=s_ y)\/(¬(off<=j/\j<off+m)/\N.els[j]?=s_ y):=by
  intro j y hy;rw[Uk ae,bg]at hy;grind
 refine⟨_,_,{g with β:=Gt g.β key (g.β key),γ:=Gt g.γ key (g.γ key)},ba,?_,by simp only[goInt,hlen];exact .int _ _⟩
 refine SR.update (o':={N with els:=FZ N.els off (xs.take m)}) (c:=g.γ key) hS ho (OY E) hb (.inl ⟨rfl,rfl⟩) rfl rfl (by simp[bh]) rfl ?_ (ZG w _ _)
  (λb' _ c7=>setRow_other w _ _ _ zaa) (setRow_heap w _ C _ e _ hb) ?_ ?_ ?_
 .intro y hy;obtain⟨j,hj⟩:=A7.1 hy;grind
 .intro _ y hy;have:=(hS.dis key N y ho hy).1;grind
 .grind
 .intro i j d b1;obtain⟨y,hy,a3⟩:=Jx b1
  have b2:j=0:=by
   have h7:y.cells.length=1:=by
    grind
   grind
  subst b2;rw[aa,BS,BR,Zy ad,hlen];rcases bb i y hy with⟨h6,h7,h8⟩|⟨h6,h7⟩
  .rw[zae ⟨h6,h7⟩];have b3:=IU h8 a3;grind
  .rw[zaf h6];have b3:=IU h7 a3;grind
theorem YBs(hS:SR base w g st){s r:D}(hu:P.underlying dT=s_ (.slice elem))(ce:ET P elem=s_ 1)(hd:RepV w g st d vd)(hs:RepV w g st s vs)
  (h:L7 st 1 d s=s_ (r,st')):RunsTo P base w g st (ybg #[dT,sT] ty #[vd,vs]) r st':=by
 have ah:(P.info? elem).map (·.size)=s_ 1:=ce;have bf:∀(a a':Option Addr)(c n' c':Nat),(ybg #[dT,sT] ty #[.slice a 0 c,.slice a' n' c']).run P w=.ok (goInt 0) w:=λa a' c n' c'=>run_copy_none (P:=P) w dT sT ty elem a a' 0 c n' c' hu ah (Nat.min_zero _);have cf:∀(a a':Option Addr)(n c c':Nat),(ybg #[dT,sT] ty #[.slice a n c,.slice a' 0 c']).run P w=.ok (goInt 0) w:=λa a' n c c'=>run_copy_none (P:=P) w dT sT ty elem a a' n c 0 c' hu ah (Nat.zero_min _);unfold L7 at h
 split at h
 .rename_i key off n dg _ a4 E n2 dh _
  split at h
  .cases h
  rename_i c6
  split at h
  case h_2=>cases h
  rename_i o o2 ho bg
  split at h
  case isFalse=>cases h
  rename_i hc;simp only[Af,AN,zan,BS]at hc;obtain⟨⟨⟨⟨⟨ae,c7⟩,bd⟩,hle⟩,da⟩,b3⟩:=hc;simp only[Dv,D4,BS]at h;obtain⟨rfl,rfl⟩:=h
  cases hd with
  |bsl _ _ _ _ _ N cap q1 q2 q3 _=>
   obtain rfl:N=o:=At (q1.symm.trans ho)
   cases hs with
   |bsl _ _ _ _ _ ad ab u1 u2 u3 _=>
    obtain rfl:ad=o2:=At (u1.symm.trans bg);obtain⟨C,e,hb,c8,db,hx,hC,b6⟩:=hS.blk key N ho (SW q3);obtain⟨C2,e2,ch,c0,c9,d0,a6,be⟩:=hS.blk a4 ad bg (SW u3);rw[ae]at hC;rw[bd]at a6;simp only[Ao,zam]at hC a6;obtain⟨bh,dc,c1⟩:=hC;obtain⟨d2,_,c2⟩:=a6;have b7:Nat.min n2 n=min n n2:=Nat.min_comm ..;generalize hm:min n n2=mm at*;have b1:((ad.els.drop E).take mm).length=mm:=by rw[AJ,AL];omega
    have b8:∀j d,((ad.els.drop E).take mm)[j]?=s_ d->∃u,C2[E+j]?=s_ u/\RepV w g st d u/\d.cells=[d]/\u.oneCell'=t_:=λj d hd=>by
     obtain⟨h6,_⟩:=ux hd;have h7:=c2 d (Ak h6);obtain⟨_,u,h8,h9⟩:=be (E+j) 0 d (IU h6 (by rw[h7];rfl));rw[u3]at h8;exact⟨u,by simpa using h8,h9,h7,h9.oneCell (Ad.1 b3 d (Ak hd))⟩
    have hlen:((C2.toList.drop E).take mm).length=mm:=by
     grind
    have a8:∀j:Nat,((C2.toList.drop E).take mm)[j]?=if j<mm then C2[E+j]? else n_:=λj=>by
     grind
    generalize dd:(C2.toList.drop E).take mm=cs at hlen a8;generalize de:(ad.els.drop E).take mm=xs at*
    have cc:∀v∈cs,v.oneCell'=t_:=λv hv=>by
     obtain⟨j,hj⟩:=A7.1 hv;have c3:j<mm:=by have:=(Aa.1 hj).1;omega
     rw[a8,zae c3]at hj;obtain⟨u,h8,_,_,h9⟩:=b8 j xs[j] (Ah zaa);grind
    have a9:=run_copy_row P w dT sT ty elem (g.β key) off n cap ⟨g.β a4,E,n_⟩ n2 ab C e cs hu ah hb (by rw[hlen];exact b7.symm) (λj v hv=>by
      rw[a8]at hv
      split at hv
      .rw[cell?_add];simp only[yax,ch];simpa using hv
      .cases hv) (by rw[hlen,bh];exact hle) cc
    rw[hlen]at a9;have cd:off+cs.length<=C.size:=by rw[hlen,bh];exact hle
    have af:off+xs.length<=N.els.length:=by rw[b1];exact hle
    have c5:=ZH af
    have mem:∀y∈FZ N.els off xs,y.cells=[y]:=by
     intro y hy;obtain⟨j,hj⟩:=A7.1 hy;rw[Uk af]at hj;grind
    have eo:({row:=f_,sz:=N.sz,els:=FZ N.els off xs,lent:=N.lent}:Obj)={N with els:=FZ N.els off xs}:=by rw[<-ae]
    refine⟨_,_,{g with β:=Gt g.β key (g.β key),γ:=Gt g.γ key (g.γ key)},a9,?_,by simp only[goInt];exact .int _ _⟩
    refine SR.update (o':={N with els:=FZ N.els off xs}) (c:=g.γ key) hS ho (SW q3) hb (.inl ⟨rfl,rfl⟩) rfl rfl (by simp[c5]) rfl (λy hy=>by rw[mem y hy,q3];rfl) (ZG w _ _)
     (λb' _ d3=>setRow_other w _ _ _ zaa) (by rw[<-hlen];exact setRow_heap w _ C _ e _ hb) ?_ ?_ ?_
    .intro _ y hy;have:=(hS.dis key N y ho hy).1;grind
    .grind
    .intro i j d hd;refine⟨λh=>by simp[ae]at h,?_⟩;obtain⟨y,hy,a0⟩:=Jx hd;have h5:=mem y (Ak hy);rw[h5]at a0
     cases j with
     |succ j=>simp at a0
     |zero=>
      simp only[Ay,Dv]at a0;subst a0;rw[q3,BS,BR,Zy cd];rw[Uk af]at hy;rw[hlen];rw[b1]at hy
      split at hy
      .grind
      .rename_i hc;rw[zaf hc];have h8:=c1 y (Ak hy);obtain⟨_,u,h6,h7⟩:=b6 i 0 y (IU hy (by rw[h8];rfl));grind
 .cases h
  cases hd with
  |slcE _ _ a cap _=>
   cases hs with
   |bsl _ _ _ _ _ N ab q1 q2 q3 _=>
    exact⟨goInt 0,w,g,bf _ _ _ _ _,Go1.refl hS,.int _ _⟩
  |slc _ _ _ _ _ _ _ h=>exact absurd rfl h
 .cases h
  cases hs with
  |slcE _ _ a cap _=>
   cases hd with
   |bsl _ _ _ _ _ N ab q1 q2 q3 _=>
    exact⟨goInt 0,w,g,cf _ _ _ _ _,Go1.refl hS,.int _ _⟩
  |slc _ _ _ _ _ _ _ h=>exact absurd rfl h
 .cases h
  cases hs with
  |slcE _ _ a cap _=>
   cases hd with
   |slcE _ _ a2 ab _=>
    exact⟨goInt 0,w,g,bf _ _ _ _ _,Go1.refl hS,.int _ _⟩
   |slc _ _ _ _ _ _ _ h=>exact absurd rfl h
  |slc _ _ _ _ _ _ _ h=>exact absurd rfl h
 .exact YBt hS hu ah hd hs h
 .cases h
end
open Go Go.RowKit
def vq(P:Program)(t:TypeId):Option (Nat->Option (Nat×Nat)):=
 match P.underlying t with
 |some (.array _ e)=>match P.info? e with
  |some ie=>s_ λi=>s_ (i*ie.size,ie.size)
  |none=>n_
 |some (.struct fields)=>match fields.toList.mapM (λf=>(P.info? f.type).map λi=>(f.offset,i.size))with
  |some places=>s_ λi=>places.toArray[i]?
  |none=>n_
 |_=>n_
def Wk(pl:Nat->Option (Nat×Nat)):List (Nat×Operand)->Option (List (Nat×Nat×PA))
 |[]=>s_ []
 |(i,x)::r=>match pl i,Ek x,Wk pl r with
  |some (off,size),s_ a,s_ l=>s_ ((off,size,a)::l)
  |_,_,_=>n_
def bG:Nat->List (Nat×Operand)->Option (List PA)
 |_,[]=>s_ []
 |k,(i,x)::r=>match Ek x,bG (k+1) r with
  |some a,s_ l=>if i=k then s_ (a::l)else n_
  |_,_=>n_
def sY(P:Program)(op:BinOp)(t:TypeId)(a b:PA):Option POp:=
 match op with
 |.eql | .neq=>
  let neg:=match op with | .neq=>t_|_=>f_
  match P.underlying t with
  |some (.int _)|some .string=>s_ (.bin op a b)
  |some .bool=>s_ (.beq neg a b)
  |some (.struct _)|some (.array _ _)=>match KR P 100 t with
   |some ks=>if P.eqGuardType P.depth t then n_ else s_ (.aeq ks neg a b)
   |none=>n_
  |_=>n_
 |_=>s_ (.bin op a b)
def pH(P:Program)(src dst:TypeId)(a:PA):Option POp:=
 match P.underlying src,P.underlying dst with
 |some _,s_ (.int k)=>s_ (.conv (.int k) a)
 |some .string,s_ .string=>s_ (.conv .same a)
 |some .string,s_ (.slice e)=>match P.underlying e with
  |some (.int .u8)=>s_ (.conv .bytes a)
  |_=>n_
 |some (.slice e),s_ .string=>match P.underlying e with
  |some (.int .u8)=>s_ (.conv .str a)
  |_=>n_
 |_,_=>n_
def ql(P:Program)(t:TypeId)(a:PA)(lo hi mx:Option PA):Option POp:=
 match P.underlying t with
 |some .string=>s_ (.slice 0 a lo hi mx)
 |some (.slice e)=>match ET P e with
  |some sz=>if sz=0 then n_ else s_ (.slice sz a lo hi mx)
  |none=>n_
 |some (.array n e)=>match ET P e,E9 P e,mx with
  |some sz,s_ ag,n_=>s_ (.sliceA n sz ag a lo hi)
  |_,_,_=>n_
 |_=>n_
def ll(P:Program)(b:Builtin)(args:List Operand)(ts:List TypeId):Option POp:=
 match b,args,ts with
 |.len,[x],[t]=>match Ek x,P.underlying t with
  |some a,s_ .string=>s_ (.len t_ a)
  |some a,s_ (.slice _)=>s_ (.len f_ a)
  |some _,s_ (.array n _)=>s_ (.lenA n)
  |_,_=>n_
 |.append,[s,x],[t,tx]=>match Ek s,Ek x,P.underlying t,P.underlying tx with
  |some a,s_ b,s_ (.slice e),s_ (.slice _)|some a,s_ b,s_ (.slice e),s_ .string=>match P.info? e with
   |some i=>match i.zero with
    |some z=>if z.cells.size=i.size then s_ (.app i.size i.bytes a b)else n_
    |none=>n_
   |none=>n_
  |_,_,_,_=>n_
 |.copy,[d,s],[t,_]=>match Ek d,Ek s,P.underlying t with
  |some a,s_ b,s_ (.slice e)=>match ET P e with
   |some 1=>s_ (.cpy 1 a b)
   |_=>n_
  |_,_,_=>n_
 |.min,[x,y],_=>match Ek x,Ek y with
  |some a,s_ b=>s_ (.mm f_ a b)
  |_,_=>n_
 |.max,[x,y],_=>match Ek x,Ek y with
  |some a,s_ b=>s_ (.mm t_ a b)
  |_,_=>n_
 |.min,[x,y,z],_=>match Ek x,Ek y,Ek z with
  |some a,s_ b,s_ c=>s_ (.mm3 f_ a b c)
  |_,_,_=>n_
 |.max,[x,y,z],_=>match Ek x,Ek y,Ek z with
  |some a,s_ b,s_ c=>s_ (.mm3 t_ a b c)
  |_,_,_=>n_
 |_,_,_=>n_
def DU(P:Program)(il:List Nat):Op->Option POp
 |.move x | .assign x=>(Ek x).map .mov
 |.pick c a b=>match Ek c,Ek a,Ek b with
  |some c,s_ a,s_ b=>s_ (.pick c a b)
  |_,_,_=>n_
 |.alloc t=>(KP P t).map λd=>.box (.c d)
 |.box _ x=>(Ek x).map .box
 |.build t parts=>match KP P t,vq P t with
  |some (.agg zs),s_ pl=>(Wk pl parts.toList).map (.bld zs)
  |_,_=>n_
 |.buildSlice t len parts=>match P.underlying t with
  |some (.slice e)=>match P.info? e with
   |some i=>match i.zero,bG 0 parts.toList with
    |some _,s_ l=>if l.length=len then s_ (.bslc i.size l)else n_
    |_,_=>n_
   |none=>n_
  |_=>n_
 |.load t a=>match Ek a,ET P t,E9 P t with
  |some a,s_ n,s_ ag=>s_ (.load n ag a)
  |_,_,_=>n_
 |.store t a x=>match Ek a,Ek x,ET P t with
  |some a,s_ x,s_ n=>s_ (.stor n a x)
  |_,_,_=>n_
 |.nilCheck x=>(Ek x).map .nilc
 |.binOp op t x y _=>match Ek x,Ek y with
  |some a,s_ b=>sY P op t a b
  |_,_=>n_
 |.unOp op _ x=>(Ek x).map (.un op)
 |.convert src dst x=>match Ek x with
  |some a=>pH P src dst a
  |none=>n_
 |.makeSlice t l c=>match Ek l,Ek c,P.underlying t with
  |some l,s_ c,s_ (.slice e)=>match P.info? e with
   |some i=>match i.zero with
    |some z=>(QL z).map λzd=>.mkslc i.size i.bytes zd l c
    |none=>n_
   |none=>n_
  |_,_,_=>n_
 |.slice t x lo hi mx=>match Ek x,Yc lo,Yc hi,Yc mx with
  |some a,s_ lo,s_ hi,s_ mx=>ql P t a lo hi mx
  |_,_,_,_=>n_
 |.fieldAddr s x f=>match Ek x,P.underlying s with
  |some a,s_ (.struct fields)=>match fields[f]? with
   |some fd=>match ET P fd.type with
    |some n=>if n=0 then n_ else s_ (.fld fd.offset a)
    |none=>n_
   |none=>n_
  |_,_=>n_
 |.field s x f=>match Ek x,P.underlying s with
  |some a,s_ (.struct fields)=>match fields[f]? with
   |some fd=>match ET P fd.type,E9 P fd.type with
    |some n,s_ ag=>s_ (.fldv fd.offset n ag a)
    |_,_=>n_
   |none=>n_
  |_,_=>n_
 |.indexAddr t x i=>match Ek x,Ek i,P.underlying t with
  |some a,s_ i,s_ (.array len e)=>(ET P e).map λn=>.idxA len n a i
  |some a,s_ i,s_ (.slice e)=>(ET P e).map λn=>.idxS n a i
  |_,_,_=>n_
 |.index t x i=>match Ek x,Ek i,P.underlying t with
  |some a,s_ i,s_ (.array len e)=>match ET P e,E9 P e with
   |some n,s_ ag=>s_ (.idxV len n ag a i)
   |_,_=>n_
  |some a,s_ i,s_ .string=>s_ (.idx a i)
  |_,_,_=>n_
 |.extract x i=>(Ek x).map λa=>.ext a i
 |.makeMap t n_=>match UK P t with
  |some (_,_,sz,_)=>s_ (.mkmap sz)
  |none=>n_
 |.mapUpdate t m k v | .insert t m k v=>match UK P t,Ek m,Ek k,Ek v with
  |some (_,_,sz,ks),s_ m,s_ k,s_ v=>s_ (.mapup sz ks m k v)
  |_,_,_,_=>n_
 |.lookup t m k ok=>match UK P t,Ek m,Ek k with
  |some (_,et,sz,ks),s_ m,s_ k=>(KP P et).map λzd=>.mapget sz ks ok zd m k
  |_,_,_=>n_
 |.call c=>match c.callee with
  |.builtin b=>ll P b c.args.toList c.argTypes.toList
  |.value (.func f)=>match P.funcs[f]?,I9 c.args.toList with
   |some fn,s_ l=>if fn.body.isSome&&!(fn.name == "runtime.NumGoroutine")&&decide (f<50000000)then s_ (if il.contains (f+1000000)then .mcall f l else if il.contains (f+90000000)then .rcall f l else if il.contains f then .icall f l else .call f l)else if fn.body.isSome then n_ else s_ (.call (f+50000000) l)
   |_,_=>n_
  |.value x=>match Ek x,I9 c.args.toList with
   |some a,s_ l=>s_ (.callv a l)
   |_,_=>n_
  |_=>n_
 |.makeFunc (.func f) first caps=>if decide (f<5000000)then(if first.isEmpty then(I9 caps.toList).map (.mkclo f)else if caps.isEmpty then(I9 first.toList).map (.mkclo (f+5000000))else n_)else n_
 |_=>n_
def Contract(P:Program)(G:Dy)(f:Nat)(sp:zsP):Prop:=
 ∀(w:World)(g:Ghost)(ds:List D)(vs:List Value)(d:D),sp ds=s_ d->GlobOK G w g->(∀b o,g.Im b o->(w.cell? ⟨b,o,n_⟩).isSome=t_)->ds.length=vs.length->
  (∀(i:Nat)d v,ds[i]?=s_ d->vs[i]?=s_ v->RepV w g [] d v)->(∀d∈ds,purA d=t_)->
  Calls P f vs.toArray w λe w'=>∃v g',e=.returned v/\RepV w' g' [] d v/\purR d=t_/\ImLe w g w' g'/\(∀b o,g'.Im b o->g.Im b o\/w.heap.size<=b)/\
   (∀b o,g'.Im b o->(w'.cell? ⟨b,o,n_⟩).isSome=t_)/\Below w.heap.size w w'
def IContract(P:Program)(G:Dy)(f:Nat)(sp:zsF):Prop:=
 (∃fn,P.funcs[f]?=s_ fn/\fn.body.isSome=t_/\(fn.name == "runtime.NumGoroutine")=f_)/\
 ∀(base:Nat)(w:World)(g:Ghost)(st st':St)(ds:List D)(vs:List Value)(d:D),sp ds st=s_ (d,st')->SR base w g st->GlobOK G w g->ds.length=vs.length->
  (∀(i:Nat)d v,ds[i]?=s_ d->vs[i]?=s_ v->RepV w g st d v)->
  Calls P f vs.toArray w λe w'=>∃v g',e=.returned v/\Go1 base w g st w' g' st'/\RepV w' g' st' d v
def yPu(P:Program)(base:Nat)(w:World)(g:Ghost)(st st':St)(l:Nat)(vs:List Value)(d:D):Prop:=
 ∃f tmps assign body,(Instr.yield l vs.toArray).run P w=.ok (.round l f tmps assign body) w/\
  RoundIn yau 0 P l f tmps assign body w λe w'=>∃v g',e=.returned v/\Go1 base w g st w' g' st'/\RepV w' g' st' d v
def YOK(P:Program)(G:Dy)(y:Nat->zsF)(base:Nat)(w0:World)(g0:Ghost)(st0:St):Prop:=
 ∀(l:Nat)(w:World)(g:Ghost)(st st':St)(ds:List D)(vs:List Value)(d:D),Go1 base w0 g0 st0 w g st->GlobOK G w g->y l ds st=s_ (d,st')->ds.length=vs.length->
  (∀(i:Nat)d v,ds[i]?=s_ d->vs[i]?=s_ v->RepV w g st d v)->yPu P base w g st st' l vs d
def Zs(P:Program)(G:Dy)(f:Nat)(sp:(zsF)->zsF):Prop:=
 (∃fn,P.funcs[f]?=s_ fn/\fn.body.isSome=t_/\(fn.name == "runtime.NumGoroutine")=f_)/\
 ∀(base:Nat)(w:World)(g:Ghost)(st st':St)(ds:List D)(vs:List Value)(d:D)(l:Nat)(y:zsF),YOK P G (λl' ds st=>if l'=l then y ds st else n_) base w g st->
  sp y ds st=s_ (d,st')->SR base w g st->GlobOK G w g->ds.length=vs.length->(∀(i:Nat)d v,ds[i]?=s_ d->vs[i]?=s_ v->RepV w g st d v)->
  Calls P f (Value.func (.yield l) #[] #[]::vs).toArray w λe w'=>∃v g',e=.returned v/\Go1 base w g st w' g' st'/\RepV w' g' st' d v
def rX(P:Program)(f:Nat)(sp:zsP):Prop:=
 ∀(ys:List D)(r:D),sp ys=s_ r->∀(w:World)(g:Ghost)(st:St)(vs:List Value),ys.length=vs.length->(∀(i:Nat)y v,ys[i]?=s_ y->vs[i]?=s_ v->RepV w g st y v)->
  ∃v,(callFunc f vs.toArray).run P w=.ok (.value v) w/\∀(g:Ghost)(st:St),RepV w g st r v
def Pj:D->Value
 |.int k n=>.int k n
 |_=>undef
def GX:D->Value
 |.agg l=>.agg (l.map Pj).toArray
 |d=>Pj d
def MJ(t:Nat)(d:D):List PanicEntry:=[{v:=.iface t (GX d),recovered:=f_}]
def TT(t:Nat)(d:D):List PanicEntry:=[{v:=.iface t (GX d),recovered:=t_}]
variable{v:Value}{d:D}{g:Ghost}{w:World}
def Yl3{st:St}(h:RepV w g st d v)(hi:RY d=t_):v=Pj d:=by cases h<;>first|rfl|(simp[RY]at hi;done)
theorem Ycr{st:St}(h:RepV w g st d v)(hi:Lz d=t_):v=GX d:=by
 cases h with
 |int k n=>rfl
 |agg ds vs hl hv=>
  have:vs=ds.map Pj:=by
   apply List.ext_getElem (by simp[hl]);intro i N h2;have E:i<ds.length:=zaa
   have hd:ds[i]?=s_ ds[i]:=Ah E;have:=Yl3 (hv i ds[i] vs[i] hd (Ah N)) (Ad.1 hi _ (A6 E));grind
  rw[this];rfl
 |_=>simp[Lz,RY]at hi
def SO(P:Program)(G:Dy)(f:Nat)(sp:zsX):Prop:=
 (∃fn,P.funcs[f]?=s_ fn/\fn.body.isSome=t_/\(fn.name == "runtime.NumGoroutine")=f_)/\
 ∀(base:Nat)(w:World)(g:Ghost)(st st':St)(ds:List D)(vs:List Value)(t:Nat)(d:D),sp ds st=s_ (t,d,st')->SR base w g st->GlobOK G w g->ds.length=vs.length->
  (∀(i:Nat)d v,ds[i]?=s_ d->vs[i]?=s_ v->RepV w g st d v)->
  Calls P f vs.toArray w λe w'=>∃g',e=.panicked (MJ t d)/\Go1 base w g st w' g' st'
def Rg(P:Program)(G:Dy)(f:Nat)(H:Nat->D->List D->St->Option St):Prop:=
 (∃fn,P.funcs[f]?=s_ fn/\fn.body.isSome=t_/\(fn.name == "runtime.NumGoroutine")=f_)/\
 ∀(base:Nat)(w:World)(g:Ghost)(st:St)(das:List D)(vs:List Value),SR base w g st->GlobOK G w g->das.length=vs.length->(∀(i:Nat)d v,das[i]?=s_ d->vs[i]?=s_ v->RepV w g st d v)->
  (CallsDIn yau 0 P f vs.toArray .returning w λe u w'=>e=.returned (.tuple #[])/\u=.returning/\∃g',Go1 base w g st w' g' st)/\
  ∀t d st',H t d das st=s_ st'->CallsDIn yau 0 P f vs.toArray (.panicking (MJ t d)) w λe u w'=>e=.returned (.tuple #[])/\u=.panicking (TT t d)/\∃g',Go1 base w g st w' g' st'
structure TblOK (P:Program) (G:Dy) (T:Tbl):Prop where
 p:∀f sp,T.p f=s_ sp->(f<50000000/\Contract P G f sp)\/∃f',f=f'+50000000/\rX P f' sp
 i:∀f sp,T.i f=s_ sp->IContract P G f sp
 m:∀f sp,T.m f=s_ sp->IContract P G f (λds st=>(sp ds).map λr=>(r.1 st.length,st++r.2 st.length))
 r:∀f sp,T.r f=s_ sp->Zs P G f sp
 x:∀f sp,T.x f=s_ sp->SO P G f sp
 q:∀f sp,T.q f=s_ sp->IContract P G f (λds st=>(I5 sp ds st).map (·,st))
variable{st':St}{g':Ghost}{w':World}
section
variable{P:Program}{base:Nat}{w:World}{g:Ghost}{st:St}
theorem W4(st:St)(k:Nat)(key:Nat):(st.modify k λo=>{o with lent:=t_})[key]?=(st[key]?).map λo=>if k=key then {o with lent:=t_} else o:=by grind
theorem yz1(st:St)(k key tot off len:Nat):I6 (st.modify k λo=>{o with lent:=t_}) key tot off len=I6 st key tot off len:=by unfold I6;grind
theorem Yb9(st:St)(k key off n sz:Nat)(ag:Bool):Jl (st.modify k λo=>{o with lent:=t_}) key off n sz ag=Jl st key off n sz ag:=by unfold Jl ND;grind
def yHj(st:St)(k:Nat)(d:D):DO (st.modify k λo=>{o with lent:=t_}) d=DO st d:=by cases d<;>simp only[DO,yz1,Yb9]
theorem yHi(st:St)(k:Nat):∀(l:List D),Ef (st.modify k λo=>{o with lent:=t_}) l=Ef st l
 |[]=>rfl
 |d::l=>by simp only[Ef,yHj,yHi st k l]
def Yhb(st:St)(k:Nat)(d:D):D2 (st.modify k λo=>{o with lent:=t_}) d=D2 st d:=by cases d<;>simp only[D2,yHj,yHi]
theorem lT(st:St)(k:Nat):∀(l:List D),Ey (st.modify k λo=>{o with lent:=t_}) l=Ey st l
 |[]=>rfl
 |d::l=>by simp only[Ey,Yhb,lT st k l]
theorem yN7(l:List D):∀(ks:List Nat)(st:St),Ey (lend ks st) l=Ey st l
 |[],_=>rfl
 |k::r,st=>by rw[lend,yN7 l r,lT]
def Ygd(ks:List Nat){g:Ghost}{st:St}(hs:∀(k:Nat)o',st'[k]?=s_ o'->∃o,st[k]?=s_ o/\o'.els=o.els/\o'.sz=o.sz/\o'.row=o.row)(hb:g'.β=g.β)
  (h:∀k∈ks,∀o,st[k]?=s_ o->o.isMap=f_->∀x,x<o.els.length*o.sz->g'.Im (g.β k) x):M5 g' st' ks:=by intro k hk o' E hm x N;obtain⟨o,ho,e1,e2,e3⟩:=hs k o' E;rw[e1,e2]at N;rw[hb];exact h k hk o ho ((TW e3 e2).symm.trans hm) x N
theorem yVv:∀(ks:List Nat)(st:St)(k:Nat)(o':Obj),(lend ks st)[k]?=s_ o'->∃o,st[k]?=s_ o/\o'.els=o.els/\o'.sz=o.sz/\o'.row=o.row
 |[],_,_,o',h=>⟨o',h,rfl,rfl,rfl⟩
 |q::r,st,k,o',h=>by
  obtain⟨o1,E,N,e2,e3⟩:=yVv r _ k o' h;grind
def WO(N:SR base w g st){ds ys:List D}(h:Ey st ds=s_ ys):∃g',Go1 base w g st w g' (lend (ds.flatMap keys) st)/\g'.β=g.β/\ys.length=ds.length/\(∀y∈ys,purA y=t_)/\
  ∀(i:Nat)y v,ys[i]?=s_ y->(∀d,ds[i]?=s_ d->RepV w g st d v)->RepV w g' (lend (ds.flatMap keys) st) y v:=by obtain⟨g',E,hb,_,hl⟩:=N.lend (ds.flatMap keys);have hL:=Ygd (ds.flatMap keys) (yVv (ds.flatMap keys) st) hb hl;obtain⟨h1,h2,h3⟩:=yWi E.sr ((yN7 ds _ st).trans h) hL;exact⟨g',E,hb,h1,h3,λi y v hy hv=>h2 i y v hy λd hd=>E.rep (hv d hd)⟩
def lX(h:RepV w g st d v)(hn:d.noRef1=t_):RepV w' g' st' d v:=by cases h<;>first|exact .int _ _|exact .bool _|exact .str _|(simp[yat]at hn;done)
def yNe(h:RepV w g st d v)(hn:d.noRef=t_):RepV w' g' st' d v:=by
 cases d with
 |agg l=>
  cases h with
  |agg _ vs E N=>
   simp only[D.noRef,Ad]at hn;exact .agg l vs E λi d v hd hv=>lX (N i d v hd hv) (hn d (Ak hd))
 |tup l=>
  cases h with
  |tup _ vs E N=>
   simp only[D.noRef,Ad]at hn;refine .tup l vs E λi d v hd hv=>?_;have h3:=hn d (Ak hd);have h4:=N i d v hd hv
   cases d with
   |agg l'=>
    cases h4 with
    |agg _ ac h5 h6=>
     simp only[Ad]at h3;exact .agg l' ac h5 λi d v hd hv=>lX (h6 i d v hd hv) (h3 d (Ak hd))
   |_=>exact lX h4 h3
 |_=>exact lX h hn
end
open Go Go.RowKit
variable{s:Sem Value}{v:Value}{t:TypeId}{f len off:Nat}{vs:List Value}{ds ys:List D}{T:Tbl}{G:Dy}{sp:zsF}{p:POp}{fr:Frame}{dst:Option Tmp}{parts:Array (Nat×Operand)}{x:Operand}{c:Call}{r:Option Nat}
section
variable{P:Program}{il:List Nat}{base:Nat}{w:World}{g:Ghost}{st st':St}{a:Act}{o:Oper}{next:Act->World->Prop}{Q:Exit->Act->World->Prop}{d:D}
def QW(E:execOp a.eval o=(do pure (.value (<-s))))(N:RunsTo P base w g st s d st')
  (hn:∀v w' g',Go1 base w g st w' g' st'->RepV w' g' st' d v->next (a.put o.dst v) w'):o.wp P a w next Q:=by obtain⟨v,w',g',h1,h2,h3⟩:=N;unfold ybh;rw[E];simp only[yay,h1,yaz,yaE];exact hn v w' g' h2 h3
theorem RunsTo.congr{s':Sem Value}(h:s.run P w=s'.run P w)(E:RunsTo P base w g st s' d st'):RunsTo P base w g st s d st':=by obtain⟨v,w',g',N,h2,h3⟩:=E;exact⟨v,w',g',h.trans N,h2,h3⟩
def Ht(E:SR base w g st)(N:execOp a.eval o=(do pure (.value (<-s))))(h1:s.run P w=.ok v w)(h3:RepV w g st d v)
  (hn:∀v w' g',Go1 base w g st w' g' st->RepV w' g' st d v->next (a.put o.dst v) w'):o.wp P a w next Q:=
 QW N (.still E h1 h3) hn
theorem yzs{pl:Nat->Option (Nat×Nat)}{ρ:PA->D}{N:Operand->Value}(ac:∀x pa,Ek x=s_ pa->RepV w g st (ρ pa) (N x)):∀{l:List (Nat×Operand)}{ps:List (Nat×Nat×PA)},Wk pl l=s_ ps->
  ∃E:List (Nat×Nat×Nat×D×Value),E.map (λp=>(p.2.1,p.2.2.1,p.2.2.2.1))=ps.map (λp=>(p.1,p.2.1,ρ p.2.2))/\E.map (λp=>(p.1,p.2.2.2.2))=l.map (λp=>(p.1,N p.2))/\
   (∀p∈E,pl p.1=s_ (p.2.1,p.2.2.1))/\∀p∈E,RepV w g st p.2.2.2.1 p.2.2.2.2
 |[],ps,h=>by simp[Wk]at h;subst h;exact⟨[],rfl,rfl,λp hp=>(by cases hp),λp hp=>(by cases hp)⟩
 |(i,x)::r,ps,h=>by
  unfold Wk at h
  split at h
  .rename_i off size pa l h1 h2 h3;simp only[Dv]at h;subst h;obtain⟨E,e1,e2,e3,e4⟩:=yzs ac h3;refine⟨(i,off,size,ρ pa,N x)::E,by simp[e1],by simp[e2],?_,?_⟩
   .grind
   .grind
  .cases h
theorem yzt{ρ:PA->D}{E:Operand->Value}(N:∀x pa,Ek x=s_ pa->RepV w g st (ρ pa) (E x)):∀{k:Nat}{l:List (Nat×Operand)}{ps:List PA},bG k l=s_ ps->
  ∃vs:List Value,l.map (λp=>(p.1,E p.2))=(vs.zipIdx k).map (λx=>(x.2,x.1))/\vs.length=ps.length/\∀(i:Nat)d v,(ps.map ρ)[i]?=s_ d->vs[i]?=s_ v->RepV w g st d v
 |k,[],ps,h=>by simp[bG]at h;subst h;exact⟨[],rfl,rfl,λi d v h=>by simp at h⟩
 |k,(i,x)::r,ps,h=>by
  unfold bG at h
  split at h
  .rename_i pa l h1 h2;simp only[Ax,Dv]at h;obtain⟨rfl,rfl⟩:=h;obtain⟨vs,e1,e2,e3⟩:=yzt N h2;refine⟨E x::vs,by simp[e1],by simp[e2],?_⟩;grind
  .cases h
theorem Rk{ρ:PA->D}{E:Operand->Value}(N:∀x pa,Ek x=s_ pa->RepV w g st (ρ pa) (E x)):∀{l:List Operand}{ps:List PA},I9 l=s_ ps->
  ps.length=l.length/\∀(i:Nat)d v,(ps.map ρ)[i]?=s_ d->(l.map E)[i]?=s_ v->RepV w g st d v
 |[],ps,h=>by simp[I9]at h;subst h;exact⟨rfl,λi d v h=>by simp at h⟩
 |x::r,ps,h=>by
  unfold I9 at h
  split at h
  .rename_i pa l h1 h2;simp only[Dv]at h;subst h;obtain⟨e2,e3⟩:=Rk N h2;grind
  .cases h
theorem Ykl(a9:SR base w g st){zs:List D}{pl:Nat->Option (Nat×Nat)}{l:List (Nat×Operand)}{ps:List (Nat×Nat×PA)}{ρ:PA->D}{ev:Operand->Value}{parts:Array (Nat×Value)}{cs:List D}
  (af:∀x pa,Ek x=s_ pa->RepV w g st (ρ pa) (ev x)) (hz:KP P t=s_ (.agg zs)) (E:vq P t=s_ pl) (hp:Wk pl l=s_ ps) (ah:parts.toList=l.map λp=>(p.1,ev p.2))
  (h:Ec zs (ps.map λp=>(p.1,p.2.1,ρ p.2.2))=s_ cs):∃v,(Instr.build t parts).run P w=.ok v w/\RepV w g st (.agg cs) v:=by
 obtain⟨qs,e1,e2,e3,e4⟩:=yzs af hp;unfold KP at hz
 split at hz
 case h_2=>cases hz
 rename_i i hi
 split at hz
 case h_2=>cases hz
 rename_i z ab;obtain⟨vs,rfl,hl,hr⟩:=yXz (w:=w) (g:=g) (st:=st) hz rfl;obtain⟨N,h1,h2,h3⟩:=yOo (place:=pl) qs zs vs.toArray cs (by rw[e1];exact h) e3 e4 (by simpa using hl) (λj d v hd hv=>hr j d v hd (by simpa using hv));refine⟨.agg N,?_,?_⟩
 .refine run_build w t parts N ?_;unfold Program.built;unfold vq at E;rw[hi]
  split at E
  .rename_i n e hu
   split at E
   .rename_i ie a0;cases E;simp only[hu,ab,a0,Value.cells];grind
   .cases E
  .rename_i fields hu
   split at E
   .rename_i places ad;cases E;simp only[hu,ab,ad,Value.cells];grind
   .cases E
  .cases E
 .have:=RepV.agg (w:=w) (g:=g) (st:=st) cs N.toList (by simpa using h2) (λi d v hd hv=>h3 i d v hd (by simpa using hv));omega
def Yx3{key:Nat}(h:RepV w g st (.ptr key off) v):∃q,v=.pointer (s_ q):=by cases h;exact⟨_,rfl⟩
def Yq9{E:D}(h:RepV w g st (.eptr E off) v):∃q,v=.pointer (s_ q):=by cases h;exact⟨_,rfl⟩
def YBl(hS:SR base w g st){sp:zsP}{r:D}(hE:rX P f sp)(hi:Ey st ds=s_ ys)(hr:sp ys=s_ r)(hl:ds.length=vs.length)
  (N:∀(i:Nat)d v,ds[i]?=s_ d->vs[i]?=s_ v->RepV w g st d v) (he:execOp a.eval o=callFunc f vs.toArray)
  (hn:∀v w' g',Go1 base w g st w' g' (if r.noRef then st else lend (ds.flatMap keys) st)->RepV w' g' (if r.noRef then st else lend (ds.flatMap keys) st) r v->next (a.put o.dst v) w'):o.wp P a w next Q:=by
 obtain⟨g1,ab,_,ac,af,ad⟩:=WO hS hi;obtain⟨v,h1,h2⟩:=hE ys r hr w g1 _ vs (ac.trans hl) (λi y v hy hv=>ad i y v hy (λd hd=>N i d v hd hv));unfold ybh;rw[he,h1]
 by_cases E:r.noRef=t_
 .exact hn v w g (by rw[zae E];exact Go1.refl hS) (h2 _ _)
 .exact hn v w g1 (by rw[zaf E];exact ab) (h2 _ _)
theorem Yrq(hT:TblOK P G T)(hS:SR base w g st)(hG:GlobOK G w g){fn:Func}{sp:zsP}{r:D}(hfn:P.funcs[f]?=s_ fn)(hb:fn.body.isSome=t_)(hname:(fn.name == "runtime.NumGoroutine")=f_)(hf5:f<50000000)
  (hsp:T.p f=s_ sp) (hi:Ey st ds=s_ ys) (hr:sp ys=s_ r) (hl:ds.length=vs.length) (hrep:∀(i:Nat)d v,ds[i]?=s_ d->vs[i]?=s_ v->RepV w g st d v)
  (he:execOp a.eval o=callFunc f vs.toArray)
  (hn:∀v w' g',Go1 base w g st w' g' (if r.noRef then st else lend (ds.flatMap keys) st)->RepV w' g' (if r.noRef then st else lend (ds.flatMap keys) st) r v->next (a.put o.dst v) w'):o.wp P a w next Q:=by
 obtain⟨g1,hgo,_,hyl,hpure,hyr⟩:=WO hS hi;have hC:Contract P G f sp:=((hT.p f sp hsp).resolve_right (λ⟨f',e,_⟩=>zaa)).2;have hc:=hC w g1 ys vs r hr (hG.mono hgo.im) hgo.sr.im (hyl.trans hl) (λi y v hy hv=>(hyr i y v hy (λd hd=>hrep i d v hd hv)).purA (ImLe.refl _ _) (hpure y (Ak hy))) hpure;unfold ybh;rw[he]
 have hrun:(callFunc f vs.toArray).run P w=.ok (.enter f vs.toArray) w:=by
  have hbn:¬fn.body=n_:=by
   grind
  have hn':¬fn.name= "runtime.NumGoroutine":=by simpa using hname
  simp[callFunc,hfn,hn',hbn]
 rw[hrun,ybi];refine hc.mono ?_;rintro e w' ⟨v,g',rfl,h1,h2,h3,h4,h5,h6⟩;have hbes:Beside w w':=⟨h6.os,h6.tape,h6.output,h6.size⟩
 by_cases hnr:r.noRef=t_
 .refine hn v w' {g with Im:=g.Im} ?_ (by rw[zae hnr];exact yNe h1 hnr);rw[zae hnr];refine hS.more hbes h6.block (λ_ _ h=>h) (λ_ _ h=>.inl h) (λb o hb=>?_);have:w'.cell? ⟨b,o,n_⟩=w.cell? ⟨b,o,n_⟩:=by simp only[yax,h6.block b (hS.im_lt hb)]
  rw[this];exact hS.im b o hb
 .refine hn v w' {g1 with Im:=g'.Im} ?_ ?_
  .rw[zaf hnr];exact hgo.trans (hgo.sr.more hbes h6.block (λb o h=>(h3.im b o h).1) (λb o h=>h4 b o h) h5)
  .exact RepV.purR (g:=g') (g':={g1 with Im:=g'.Im}) ⟨λb o h=>⟨h,rfl⟩,λ_ _ h _=>h⟩ h1 h2
theorem tP(hC:IContract P G f sp)(hS:SR base w g st)(hG:GlobOK G w g){r:D}
  (hr:sp ds st=s_ (r,st')) (hl:ds.length=vs.length) (hrep:∀(i:Nat)d v,ds[i]?=s_ d->vs[i]?=s_ v->RepV w g st d v)
  (he:execOp a.eval o=callFunc f vs.toArray)
  (hn:∀v w' g',Go1 base w g st w' g' st'->RepV w' g' st' r v->next (a.put o.dst v) w'):o.wp P a w next Q:=by
 obtain⟨⟨fn,hfn,hb,hname⟩,hc⟩:=hC;unfold ybh;rw[he]
 have hrun:(callFunc f vs.toArray).run P w=.ok (.enter f vs.toArray) w:=by
  have hbn:¬fn.body=n_:=by
   grind
  have hn':¬fn.name= "runtime.NumGoroutine":=by simpa using hname
  simp[callFunc,hfn,hn',hbn]
 rw[hrun,ybi];refine(hc base w g st st' ds vs r hr hS hG hl hrep).mono ?_;grind
def yo(hT:TblOK P G T)(hS:SR base w g st)(hG:GlobOK G w g){r:D}
  (N:T.i f=s_ sp) (hr:sp ds st=s_ (r,st')) (hl:ds.length=vs.length) (E:∀(i:Nat)d v,ds[i]?=s_ d->vs[i]?=s_ v->RepV w g st d v)
  (he:execOp a.eval o=callFunc f vs.toArray)
  (hn:∀v w' g',Go1 base w g st w' g' st'->RepV w' g' st' r v->next (a.put o.dst v) w'):o.wp P a w next Q:=tP (hT.i f sp N) hS hG hr hl E he hn
theorem Yas{sp:zsX}(hC:SO P G f sp)(hS:SR base w g st)(hG:GlobOK G w g){t:Nat}{d:D}
  (hr:sp ds st=s_ (t,d,st')) (hl:ds.length=vs.length) (hrep:∀(i:Nat)d v,ds[i]?=s_ d->vs[i]?=s_ v->RepV w g st d v)
  (he:execOp a.eval o=callFunc f vs.toArray)
  (hn:∀w' g',Go1 base w g st w' g' st'->Q (.panic (MJ t d)) a w'):o.wp P a w next Q:=by
 obtain⟨⟨fn,hfn,hb,hname⟩,hc⟩:=hC;unfold ybh;rw[he]
 have hrun:(callFunc f vs.toArray).run P w=.ok (.enter f vs.toArray) w:=by
  have hbn:¬fn.body=n_:=by
   grind
  have hn':¬fn.name= "runtime.NumGoroutine":=by simpa using hname
  simp[callFunc,hfn,hn',hbn]
 rw[hrun,ybi];refine(hc base w g st st' ds vs t d hr hS hG hl hrep).mono ?_;grind
def Ymy(x:Operand){ty:TypeId}{pos:String}{after:Array Edge}{guard:Option (Nat×Bool)}(af:TblOK P G T)(hS:SR base w g st)(hG:GlobOK G w g)(E:FR w g st fr a)(N:DU P il (.move x)=s_ p)
  (hx:p.exec T (DJ G fr) st=s_ (d,st')) (hn:∀v w' g',Go1 base w g st w' g' st'->RepV w' g' st' d v->next (a.put dst v) w'):ybh P {dst:=dst,op:=.move x,type:=ty,pos:=pos,after:=after,guard:=guard} a w next Q:=by have ab:∀x pa,Ek x=s_ pa->RepV w g st (DJ G fr pa) (a.eval x):=λx pa h=>Ha hG E h;clear E;simp only[DU,D1]at N;obtain⟨pa,ac,rfl⟩:=N;simp only[yaU,Dv,D4]at hx;obtain⟨rfl,rfl⟩:=hx;exact Ht (s:=pure (a.eval x)) hS (by simp[execOp]) rfl (ab x pa ac) hn
def yYm(x:Operand){ty:TypeId}{pos:String}{after:Array Edge}{guard:Option (Nat×Bool)}(af:TblOK P G T)(hS:SR base w g st)(hG:GlobOK G w g)(E:FR w g st fr a)(N:DU P il (.assign x)=s_ p)
  (hx:p.exec T (DJ G fr) st=s_ (d,st')) (hn:∀v w' g',Go1 base w g st w' g' st'->RepV w' g' st' d v->next (a.put dst v) w'):ybh P {dst:=dst,op:=.assign x,type:=ty,pos:=pos,after:=after,guard:=guard} a w next Q:=by have ab:∀x pa,Ek x=s_ pa->RepV w g st (DJ G fr pa) (a.eval x):=λx pa h=>Ha hG E h;clear E;simp only[DU,D1]at N;obtain⟨pa,ac,rfl⟩:=N;simp only[yaU,Dv,D4]at hx;obtain⟨rfl,rfl⟩:=hx;exact Ht (s:=pure (a.eval x)) hS (by simp[execOp]) rfl (ab x pa ac) hn
theorem Ymx(c x y:Operand){ty:TypeId}{pos:String}{after:Array Edge}{guard:Option (Nat×Bool)}(af:TblOK P G T)(hS:SR base w g st)(hG:GlobOK G w g)(hF:FR w g st fr a)(E:DU P il (.pick c x y)=s_ p)
  (N:p.exec T (DJ G fr) st=s_ (d,st')) (hn:∀v w' g',Go1 base w g st w' g' st'->RepV w' g' st' d v->next (a.put dst v) w'):ybh P {dst:=dst,op:=.pick c x y,type:=ty,pos:=pos,after:=after,guard:=guard} a w next Q:=by
 have ab:∀x pa,Ek x=s_ pa->RepV w g st (DJ G fr pa) (a.eval x):=λx pa h=>Ha hG hF h;clear hF;simp only[DU]at E
 split at E
 .rename_i pc px py h1 h2 h3;simp only[Dv]at E;subst E;simp only[yaU]at N
  split at N
  .rename_i b hb;cases N;have hc:=ab c pc h1;rw[hb]at hc;have hc:=Ok hc;refine Ht (s:=pure (if b then a.eval x else a.eval y)) hS (by simp[execOp,hc,asBool]) rfl ?_ hn;grind
  .cases N
 .cases E
def Ydn(t:TypeId){ty:TypeId}{pos:String}{after:Array Edge}{guard:Option (Nat×Bool)}(af:TblOK P G T)(hS:SR base w g st)(hG:GlobOK G w g)(hF:FR w g st fr a)(ht:DU P il (.alloc t)=s_ p)
  (N:p.exec T (DJ G fr) st=s_ (d,st')) (hn:∀v w' g',Go1 base w g st w' g' st'->RepV w' g' st' d v->next (a.put dst v) w'):ybh P {dst:=dst,op:=.alloc t,type:=ty,pos:=pos,after:=after,guard:=guard} a w next Q:=by
 have ah:∀x pa,Ek x=s_ pa->RepV w g st (DJ G fr pa) (a.eval x):=λx pa h=>Ha hG hF h;clear hF;simp only[DU,D1]at ht;obtain⟨zd,E,rfl⟩:=ht;simp only[yaU]at N
 split at N
 case isFalse=>cases N
 rename_i hc
 replace hc:zd.cells.all D.isCell=t_:=hc
 cases N;unfold KP at E
 split at E
 case h_2=>cases E
 rename_i i hi
 split at E
 case h_2=>cases E
 rename_i z ac;refine QW (s:=Instr.alloc t t_ (.tuple #[])) rfl (RunsTo.congr ?_ (uM (t:=t) hS hc (Ui E))) hn;simp[Instr.alloc,zeroValue,typeInfo,hi,ac]
def Yw5(t:TypeId)(x:Operand){ty:TypeId}{pos:String}{after:Array Edge}{guard:Option (Nat×Bool)}(af:TblOK P G T)(hS:SR base w g st)(hG:GlobOK G w g)(N:FR w g st fr a)(ht:DU P il (.box t x)=s_ p)
  (E:p.exec T (DJ G fr) st=s_ (d,st')) (hn:∀v w' g',Go1 base w g st w' g' st'->RepV w' g' st' d v->next (a.put dst v) w'):ybh P {dst:=dst,op:=.box t x,type:=ty,pos:=pos,after:=after,guard:=guard} a w next Q:=by
 have ab:∀x pa,Ek x=s_ pa->RepV w g st (DJ G fr pa) (a.eval x):=λx pa h=>Ha hG N h;clear N;simp only[DU,D1]at ht;obtain⟨pa,ac,rfl⟩:=ht;simp only[yaU]at E
 split at E
 case isFalse=>cases E
 rename_i hc;cases E;exact QW (s:=Instr.box t (a.eval x)) rfl (RunsTo.congr rfl (uM (t:=t) hS hc (ab x pa ac))) hn
def Ydl(t:TypeId)(parts:Array (Nat×Operand)){ty:TypeId}{pos:String}{after:Array Edge}{guard:Option (Nat×Bool)}(a3:TblOK P G T)(N:SR base w g st)(hG:GlobOK G w g)(hF:FR w g st fr a)(E:DU P il (.build t parts)=s_ p)
  (hx:p.exec T (DJ G fr) st=s_ (d,st')) (hn:∀v w' g',Go1 base w g st w' g' st'->RepV w' g' st' d v->next (a.put dst v) w'):ybh P {dst:=dst,op:=.build t parts,type:=ty,pos:=pos,after:=after,guard:=guard} a w next Q:=by
 have ac:∀x pa,Ek x=s_ pa->RepV w g st (DJ G fr pa) (a.eval x):=λx pa h=>Ha hG hF h;clear hF;simp only[DU]at E
 split at E
 case h_2=>cases E
 rename_i zs pl h1 h2;simp only[D1]at E;obtain⟨ps,h3,rfl⟩:=E;simp only[yaU,D1,D4]at hx;obtain⟨cs,h4,rfl,rfl⟩:=hx;obtain⟨v,h5,h6⟩:=Ykl (P:=P) (parts:=parts.map λ(i,x)=>(i,a.eval x)) N ac h1 h2 h3 zac h4;exact Ht N rfl h5 h6 hn
def ytc(hS:SR base w g st)(hG:GlobOK G w g)(hF:FR w g st fr a)(E:DU P il (.buildSlice t len parts)=s_ p)
  (N:p.exec T (DJ G fr) st=s_ (d,st')):∃ps,(∀(dst:Option Tmp)(ty:TypeId)(pos:String)(after:Array Edge)(guard:Option (Nat×Bool)),execOp a.eval {dst:=dst,op:=.buildSlice t len parts,type:=ty,pos:=pos,after:=after,guard:=guard}=(do pure (.value (<-yaO t len ps))))/\∃v w' g',(yaO t len ps).run P w=.ok v w'/\Go1 base w g st w' g' st'/\RepV w' g' st' d v/\Yu0 base w' g' st' v:=by
 have af:∀x pa,Ek x=s_ pa->RepV w g st (DJ G fr pa) (a.eval x):=λx pa h=>Ha hG hF h;clear hF;simp only[DU]at E
 split at E
 case h_2=>cases E
 rename_i e hu
 split at E
 case h_2=>cases E
 rename_i i hi
 split at E
 case h_2=>cases E
 rename_i z l hz hl;simp only[Ax,Dv]at E;obtain⟨hlen,rfl⟩:=E;simp only[yaU]at N
 split at N
 case h_2=>cases N
 rename_i els ac
 split at N
 case isFalse=>cases N
 rename_i hc;cases N;simp only[Af,zan,Ad,zao]at hc;obtain⟨vs,e1,e2,e3⟩:=yzt af hl;obtain⟨g1,aa,_,h1,h2,h3⟩:=WO hS ac;have ad:∀(i:Nat)d v,els[i]?=s_ d->vs[i]?=s_ v->RepV w g1 (lend ((l.map (DJ G fr)).flatMap keys) st) d v:=λi d v hd hv=>h3 i d v hd λd' a0=>e3 i d' v a0 hv;have a1:els.length=vs.length:=by rw[h1,Az,e2]
 have ab:(parts.map λ(i,x)=>(i,a.eval x)).toList=(vs.zipIdx 0).map λx=>(x.2,x.1):=by rw[<-e1];simp
 generalize a2:(parts.map λ(i,x)=>(i,a.eval x))=ps at ab;obtain⟨v,w',g',r1,r2,r3,r4⟩:=Yko (len:=len) (parts:=ps) aa.sr hu hi hz rfl hc.1.2 h2 hc.1.1 a1 ad hc.2 (by rw[e2,<-hlen]) ab;exact⟨ps,λ_ _ _ _ _=>by simp only[execOp,a2],v,w',g',r1,aa.trans r2,r3,r4⟩
def yF2(t:TypeId)(len:Nat)(parts:Array (Nat×Operand)){ty:TypeId}{pos:String}{after:Array Edge}{guard:Option (Nat×Bool)}(af:TblOK P G T)(E:SR base w g st)(N:GlobOK G w g)(hF:FR w g st fr a)(ht:DU P il (.buildSlice t len parts)=s_ p)
  (hx:p.exec T (DJ G fr) st=s_ (d,st')) (hn:∀v w' g',Go1 base w g st w' g' st'->RepV w' g' st' d v->next (a.put dst v) w'):ybh P {dst:=dst,op:=.buildSlice t len parts,type:=ty,pos:=pos,after:=after,guard:=guard} a w next Q:=by obtain⟨ps,he,v,w',g',r1,r2,r3,_⟩:=ytc E N hF ht hx;exact QW (s:=yaO t len ps) (he ..) ⟨v,w',g',r1,r2,r3⟩ hn
def yQq{e:TypeId}{d1:Nat}{d2:Option Nat}{ty ty2:TypeId}{pos pos2:String}{after after2:Array Edge}{guard guard2:Option (Nat×Bool)}{next2:Act->World->Prop}(hS:SR base w g st)(hG:GlobOK G w g)(hF:FR w g st fr a)(ht:DU P il (.buildSlice t len parts)=s_ p)
  (hu:P.underlying t=s_ (.slice e)) (N:P.underlying e=s_ (.int .u8)) (aa:d1<a.tmps.size)
  (hx:p.exec T (DJ G fr) st=s_ (d,st')) (hn:∀v w' g',Go1 base w g st w' g' st'->RepV w' g' st' d v->next2 ((a.put (s_ d1) v).put d2 v) w'):
  ybh P {dst:=s_ d1,op:=.buildSlice t len parts,type:=ty,pos:=pos,after:=after,guard:=guard} a w (λa' w'=>ybh P {dst:=d2,op:=.convert t t (.tmp d1),type:=ty2,pos:=pos2,after:=after2,guard:=guard2} a' w' next2 Q) Q:=by
 obtain⟨ps,he,v,w',g',r1,r2,r3,b,n,C,eC,rfl,hb,E,ac⟩:=ytc hS hG hF ht hx;unfold ybh;rw[he];simp only[yay,r1,yaz,yaE,ybj]
 have ad:(a.put (s_ d1) (.slice (s_ ⟨b,0,n_⟩) n n)).eval (.tmp d1)=.slice (s_ ⟨b,0,n_⟩) n n:=by
  simp[Act.eval,Act.put,aa]
 have ae:execOp (a.put (s_ d1) (.slice (s_ ⟨b,0,n_⟩) n n)).eval {dst:=d2,op:=.convert t t (.tmp d1),type:=ty2,pos:=pos2,after:=after2,guard:=guard2}=(do pure (.value (<-convert t t (.slice (s_ ⟨b,0,n_⟩) n n)))):=by
  simp only[execOp,ad]
 rw[ae]
 have af:(convert t t (.slice (s_ ⟨b,0,n_⟩) n n)).run P w'=.ok (.slice (s_ ⟨b,0,n_⟩) n n) (w'.freeze ⟨b,C.size,n_⟩ 1):=by
  have ah:w'.shape? b=s_ (eC,C.size):=by simp[World.shape?,hb]
  simp[convert,run_underlying hu,run_underlying N,markStringish,shape,freeze,yay,Sem.run,ah,ya8]
 simp only[yay,af,yaz,yaE,ybj];have hf:=Yhv (m:=C.size) r2.sr hb E ac;exact hn _ _ g' (r2.trans hf) (hf.rep r3)
def Ymz(t:TypeId)(x:Operand){ty:TypeId}{pos:String}{after:Array Edge}{guard:Option (Nat×Bool)}(a3:TblOK P G T)(N:SR base w g st)(hG:GlobOK G w g)(hF:FR w g st fr a)(E:DU P il (.load t x)=s_ p)
  (hx:p.exec T (DJ G fr) st=s_ (d,st')) (hn:∀v w' g',Go1 base w g st w' g' st'->RepV w' g' st' d v->next (a.put dst v) w'):ybh P {dst:=dst,op:=.load t x,type:=ty,pos:=pos,after:=after,guard:=guard} a w next Q:=by
 have ac:∀x pa,Ek x=s_ pa->RepV w g st (DJ G fr pa) (a.eval x):=λx pa h=>Ha hG hF h;clear hF;simp only[DU]at E
 split at E
 case h_2=>cases E
 rename_i pa n ag h1 h2 h3;simp only[Dv]at E;subst E;simp only[yaU,D1,D4]at hx;obtain⟨r,h4,rfl,rfl⟩:=hx;obtain⟨v,h5,h6⟩:=yM3 (P:=P) N h3 h2 h4 (ac x pa h1);exact Ht (s:=Instr.loadAt t (a.eval x)) N rfl h5 h6 hn
def Ydh(t:TypeId)(x y:Operand){ty:TypeId}{pos:String}{after:Array Edge}{guard:Option (Nat×Bool)}(a4:TblOK P G T)(hS:SR base w g st)(hG:GlobOK G w g)(hF:FR w g st fr a)(E:DU P il (.store t x y)=s_ p)
  (hx:p.exec T (DJ G fr) st=s_ (d,st')) (hn:∀v w' g',Go1 base w g st w' g' st'->RepV w' g' st' d v->next (a.put dst v) w'):ybh P {dst:=dst,op:=.store t x y,type:=ty,pos:=pos,after:=after,guard:=guard} a w next Q:=by
 have N:∀x pa,Ek x=s_ pa->RepV w g st (DJ G fr pa) (a.eval x):=λx pa h=>Ha hG hF h;clear hF;simp only[DU]at E
 split at E
 case h_2=>cases E
 rename_i pa pb n h1 h2 h3;simp only[Dv]at E;subst E;simp only[yaU,D1,D4]at hx;obtain⟨r,h4,rfl,rfl⟩:=hx;obtain⟨w',g',h5,h6⟩:=yMy (P:=P) hS h3 h4 (N x pa h1) (N y pb h2);unfold ybh execOp;simp only[yay,h5,yaz,yaE];exact hn undef w' g' h6 (.tup [] [] rfl (λi d v h=>by simp at h))
theorem yMd(x:Operand){ty:TypeId}{pos:String}{after:Array Edge}{guard:Option (Nat×Bool)}(a3:TblOK P G T)(hS:SR base w g st)(hG:GlobOK G w g)(hF:FR w g st fr a)(ht:DU P il (.nilCheck x)=s_ p)
  (E:p.exec T (DJ G fr) st=s_ (d,st')) (hn:∀v w' g',Go1 base w g st w' g' st'->RepV w' g' st' d v->next (a.put dst v) w'):ybh P {dst:=dst,op:=.nilCheck x,type:=ty,pos:=pos,after:=after,guard:=guard} a w next Q:=by
 have ae:∀x pa,Ek x=s_ pa->RepV w g st (DJ G fr pa) (a.eval x):=λx pa h=>Ha hG hF h;clear hF;simp only[DU,D1]at ht;obtain⟨pa,af,rfl⟩:=ht;have N:=ae x pa af;simp only[yaU]at E
 have key:∀q,a.eval x=.pointer (s_ q)->RepV w g st d (a.eval x)->st'=st->ybh P {dst:=dst,op:=.nilCheck x,type:=ty,pos:=pos,after:=after,guard:=guard} a w next Q:=by
  intro q hq ah a0;subst a0;exact Ht (s:=pure (a.eval x)) hS (by simp[execOp,hq]) rfl ah hn
 split at E
 .rename_i key off hp;cases E;rw[hp]at N;obtain⟨q,hq⟩:=Yx3 N;grind
 .rename_i el off hp;cases E;rw[hp]at N;obtain⟨q,hq⟩:=Yq9 N;grind
 .rename_i kk tot i off hp
  split at E
  .rename_i hl;cases E;rw[hp]at N;obtain⟨ob,_,_,_,hq⟩:=xD hl N;grind
  .cases E
 .cases E
theorem Ydm(op:BinOp)(t:TypeId)(x y:Operand)(yt:TypeId){ty:TypeId}{pos:String}{after:Array Edge}{guard:Option (Nat×Bool)}(bc:TblOK P G T)(hS:SR base w g st)(hG:GlobOK G w g)(hF:FR w g st fr a)(ht:DU P il (.binOp op t x y yt)=s_ p)
  (hx:p.exec T (DJ G fr) st=s_ (d,st')) (hn:∀v w' g',Go1 base w g st w' g' st'->RepV w' g' st' d v->next (a.put dst v) w'):ybh P {dst:=dst,op:=.binOp op t x y yt,type:=ty,pos:=pos,after:=after,guard:=guard} a w next Q:=by
 have N:∀x pa,Ek x=s_ pa->RepV w g st (DJ G fr pa) (a.eval x):=λx pa h=>Ha hG hF h;clear hF;simp only[DU]at ht
 split at ht
 case h_2=>cases ht
 rename_i pa pb h1 h2
 have ba:∀op,p=.bin op pa pb->ybh P {dst:=dst,op:=.binOp op t x y yt,type:=ty,pos:=pos,after:=after,guard:=guard} a w next Q:=by
  rintro op rfl;simp only[yaU,D1,D4]at hx;obtain⟨r,h4,rfl,rfl⟩:=hx;obtain⟨⟨v,h5,h6⟩,h7,h8⟩:=Yoe (P:=P) op t _ _ r _ _ h4 (N x pa h1) (N y pb h2);refine Ht (s:=do eqGuard op t x y (a.eval x) (a.eval y);binOp op t (a.eval x) (a.eval y)) hS rfl ?_ h6 hn;simp only[yay,yAi op t x y _ _ h7 h8,yaz,h5]
 have heq:∀neg:Bool,(match P.underlying t with
  |some (.int _)|some .string=>s_ (POp.bin (if neg then .neq else .eql) pa pb)
  |some .bool=>s_ (.beq neg pa pb)
  |some (.struct _)|some (.array _ _)=>match KR P 100 t with
   |some ks=>if P.eqGuardType P.depth t then n_ else s_ (.aeq ks neg pa pb)
   |none=>n_
  |_=>n_)=s_ p->ybh P {dst:=dst,op:=.binOp (if neg then .neq else .eql) t x y yt,type:=ty,pos:=pos,after:=after,guard:=guard} a w next Q:=by
  intro neg E
  have a1:E9 P t=s_ t_->(match KR P 100 t with
   |some ks=>if P.eqGuardType P.depth t then n_ else s_ (POp.aeq ks neg pa pb)
   |none=>n_)=s_ p->ybh P {dst:=dst,op:=.binOp (if neg then .neq else .eql) t x y yt,type:=ty,pos:=pos,after:=after,guard:=guard} a w next Q:=by
   intro a7 E
   split at E
   case h_2=>cases E
   rename_i ks a8
   split at E
   case isTrue=>cases E
   rename_i hg;simp only[Dv]at E;subst E;simp only[yaU,D1,D4]at hx;obtain⟨r,h4,rfl,rfl⟩:=hx;obtain⟨⟨v,h5,h6⟩,xs,ys,h7,h8⟩:=Yoj (P:=P) a8 zab a7 h4 (N x pa h1) (N y pb h2);refine Ht (s:=do eqGuard (if neg then .neq else .eql) t x y (a.eval x) (a.eval y);binOp (if neg then .neq else .eql) t (a.eval x) (a.eval y)) hS rfl ?_ h6 hn
   have bd:(eqGuard (if neg then .neq else .eql) t x y (a.eval x) (a.eval y)).run P w=.ok () w:=by
    rw[h7,h8];exact run_eqGuard_agg w _ t x y xs ys (by simpa using hg)
   simp_all
  split at E
  .grind
  .grind
  .rename_i hu;simp only[Dv]at E;subst E;simp only[yaU,D1,D4]at hx;obtain⟨r,h4,rfl,rfl⟩:=hx;obtain⟨⟨v,h5,h6⟩,h7,h8⟩:=Yof (P:=P) neg t hu _ _ r _ _ h4 (N x pa h1) (N y pb h2);refine Ht (s:=do eqGuard (if neg then .neq else .eql) t x y (a.eval x) (a.eval y);binOp (if neg then .neq else .eql) t (a.eval x) (a.eval y)) hS rfl ?_ h6 hn;simp only[yay,yAi _ t x y _ _ h7 h8,yaz,h5]
  .rename_i hu;exact a1 (by simp[E9,hu]) E
  .rename_i hu;exact a1 (by simp[E9,hu]) E
  .cases E
 unfold sY at ht
 split at ht
 .exact heq f_ ht
 .exact heq t_ ht
 .grind
def Ymw(op:UnOp)(t:TypeId)(x:Operand){ty:TypeId}{pos:String}{after:Array Edge}{guard:Option (Nat×Bool)}(a1:TblOK P G T)(hS:SR base w g st)(hG:GlobOK G w g)(E:FR w g st fr a)(N:DU P il (.unOp op t x)=s_ p)
  (hx:p.exec T (DJ G fr) st=s_ (d,st')) (hn:∀v w' g',Go1 base w g st w' g' st'->RepV w' g' st' d v->next (a.put dst v) w'):ybh P {dst:=dst,op:=.unOp op t x,type:=ty,pos:=pos,after:=after,guard:=guard} a w next Q:=by have ab:∀x pa,Ek x=s_ pa->RepV w g st (DJ G fr pa) (a.eval x):=λx pa h=>Ha hG E h;clear E;simp only[DU,D1]at N;obtain⟨pa,ac,rfl⟩:=N;simp only[yaU,D1,D4]at hx;obtain⟨r,h4,rfl,rfl⟩:=hx;obtain⟨v,h5,h6⟩:=Yx2 (P:=P) (w:=w) op _ r _ h4 (ab x pa ac);exact Ht (s:=Op.unary op (a.eval x)) hS rfl h5 h6 hn
def yQs(aa dt:TypeId)(x:Operand){ty:TypeId}{pos:String}{after:Array Edge}{guard:Option (Nat×Bool)}(a9:TblOK P G T)(hS:SR base w g st)(hG:GlobOK G w g)(hF:FR w g st fr a)(N:DU P il (.convert aa dt x)=s_ p)
  (hx:p.exec T (DJ G fr) st=s_ (d,st')) (hn:∀v w' g',Go1 base w g st w' g' st'->RepV w' g' st' d v->next (a.put dst v) w'):ybh P {dst:=dst,op:=.convert aa dt x,type:=ty,pos:=pos,after:=after,guard:=guard} a w next Q:=by
 have a5:∀x pa,Ek x=s_ pa->RepV w g st (DJ G fr pa) (a.eval x):=λx pa h=>Ha hG hF h;clear hF;simp only[DU]at N
 split at N
 case h_2=>cases N
 rename_i pa a6;have hr:=a5 x pa a6;unfold pH at N
 split at N
 .rename_i u k hs hd;simp only[Dv]at N;subst N;simp only[yaU,D1,D4]at hx;obtain⟨r,E,rfl,rfl⟩:=hx;unfold Gm at E
  split at E<;>rename_i ab hp<;>(try cases ab)<;>(try (simp only[reduceCtorEq]at E))
  simp only[Dv]at E;subst E;rw[hp]at hr;have he:=Kc hr;refine Ht (s:=convert aa dt (a.eval x)) hS rfl ?_ (.int _ _) hn;rw[he];simp[convert,run_underlying hs,run_underlying hd,Conv.intToInt]
 .rename_i hs hd;simp only[Dv]at N;subst N;simp only[yaU,D1,D4]at hx;obtain⟨r,E,rfl,rfl⟩:=hx;unfold Gm at E
  split at E<;>rename_i ab hp<;>(try cases ab)<;>(try (simp only[reduceCtorEq]at E))
  simp only[Dv]at E;subst E;rw[hp]at hr;have he:=NH hr;refine Ht (s:=convert aa dt (a.eval x)) hS rfl (v:=a.eval x) ?_ (by rw[he];exact .str _) hn;rw[he];simp[convert,run_underlying hs,run_underlying hd]
 .rename_i e hs hd
  split at N
  case h_2=>cases N
  rename_i a1;simp only[Dv]at N;subst N;simp only[yaU,D1,D4]at hx;obtain⟨r,E,rfl,rfl⟩:=hx;unfold Gm at E
  split at E<;>rename_i ab hp<;>(try cases ab)<;>(try (simp only[reduceCtorEq]at E))
  simp only[Dv]at E;subst E;rw[hp]at hr;have he:=NH hr;refine QW (s:=convert aa dt (a.eval x)) rfl ?_ hn;rw[he];exact Ykh hS hs hd a1
 .rename_i e hs hd
  split at N
  case h_2=>cases N
  rename_i a1;simp only[Dv]at N;subst N;simp only[yaU,D1,D4]at hx;obtain⟨r,E,rfl,rfl⟩:=hx;unfold Gm at E
  split at E<;>rename_i ab hp<;>(try cases ab)<;>(try (simp only[reduceCtorEq]at E))
  .split at E
   case isFalse=>cases E
   rename_i ah;simp only[D1]at E;obtain⟨bs,a3,rfl⟩:=E;rw[hp]at hr;simp only[A5,zao,BM]at ah;exact Ht (s:=convert aa dt (a.eval x)) hS rfl (yEy hs a1 hd (bB hr) ah a3) (.str _) hn
  .split at E
   case h_2=>cases E
   rename_i sz els a7
   split at E
   case isFalse=>cases E
   rename_i ah;simp only[D1]at E;obtain⟨bs,a3,rfl⟩:=E;rw[hp]at hr;simp only[zao]at ah;exact Ht (s:=convert aa dt (a.eval x)) hS rfl (yEy hs a1 hd (vX hS a7 hr).1 (.inl ah) a3) (.str _) hn
 .cases N
def yJf(t:TypeId)(l c:Operand){ty:TypeId}{pos:String}{after:Array Edge}{guard:Option (Nat×Bool)}(a6:TblOK P G T)(hS:SR base w g st)(hG:GlobOK G w g)(hF:FR w g st fr a)(E:DU P il (.makeSlice t l c)=s_ p)
  (N:p.exec T (DJ G fr) st=s_ (d,st')) (hn:∀v w' g',Go1 base w g st w' g' st'->RepV w' g' st' d v->next (a.put dst v) w'):ybh P {dst:=dst,op:=.makeSlice t l c,type:=ty,pos:=pos,after:=after,guard:=guard} a w next Q:=by
 have aa:∀x pa,Ek x=s_ pa->RepV w g st (DJ G fr pa) (a.eval x):=λx pa h=>Ha hG hF h;clear hF;simp only[DU]at E
 split at E
 case h_2=>cases E
 rename_i pl pc e h1 h2 hu
 split at E
 case h_2=>cases E
 rename_i i hi
 split at E
 case h_2=>cases E
 rename_i z hz;simp only[D1]at E;obtain⟨zd,ac,rfl⟩:=E;simp only[yaU]at N
 split at N
 case h_2=>cases N
 rename_i nl nc h3 h4
 split at N
 case isFalse=>cases N
 rename_i hc;cases N;obtain⟨c1,c2,c3,c4,c5,c6⟩:=hc;exact QW (s:=Instr.makeSlice t (a.eval l) (a.eval c)) rfl (Yfz hS hu hi hz ac rfl rfl c4 c5 c6 h3 h4 (aa l pl h1) (aa c pc h2) c1 c2 c3) hn
theorem Ydi(t:TypeId)(x:Operand)(lo hi mx:Option Operand){ty:TypeId}{pos:String}{after:Array Edge}{guard:Option (Nat×Bool)}(ba:TblOK P G T)(hS:SR base w g st)(hG:GlobOK G w g)(hF:FR w g st fr a)(E:DU P il (.slice t x lo hi mx)=s_ p)
  (hx:p.exec T (DJ G fr) st=s_ (d,st')) (hn:∀v w' g',Go1 base w g st w' g' st'->RepV w' g' st' d v->next (a.put dst v) w'):ybh P {dst:=dst,op:=.slice t x lo hi mx,type:=ty,pos:=pos,after:=after,guard:=guard} a w next Q:=by
 have N:∀x pa,Ek x=s_ pa->RepV w g st (DJ G fr pa) (a.eval x):=λx pa h=>Ha hG hF h;clear hF;simp only[DU]at E
 split at E
 case h_2=>cases E
 rename_i pa bb bc bd h1 h2 h3 h4;have r2:=vj h2 rfl N;have r3:=vj h3 rfl N;have r4:=vj h4 rfl N;unfold ql at E
 split at E
 .rename_i hu;simp only[Dv]at E;subst E;simp only[yaU,D1,D4]at hx;obtain⟨r,h5,rfl,rfl⟩:=hx;obtain⟨v,h6,h7⟩:=yG0 (P:=P) hS (.inl ⟨rfl,hu⟩) h5 (N x pa h1) r2 r3 r4;exact Ht (s:=yaH t (a.eval x) (lo.map a.eval) (hi.map a.eval) (mx.map a.eval)) hS rfl h6 h7 hn
 .rename_i e hu
  split at E
  case h_2=>cases E
  rename_i sz ah
  split at E
  case isTrue=>cases E
  rename_i h0;simp only[Dv]at E;subst E;simp only[yaU,D1,D4]at hx;obtain⟨r,h5,rfl,rfl⟩:=hx;obtain⟨v,h6,h7⟩:=yG0 (P:=P) hS (.inr ⟨h0,e,hu,ah⟩) h5 (N x pa h1) r2 r3 r4;exact Ht (s:=yaH t (a.eval x) (lo.map a.eval) (hi.map a.eval) (mx.map a.eval)) hS rfl h6 h7 hn
 .rename_i n e hu
  split at E
  case h_2=>cases E
  rename_i sz ag ah be;simp only[Dv]at E;subst E
  have hm:mx=n_:=by
   simp_all
  subst hm;simp only[yaU,D1,D4]at hx;obtain⟨r,h5,rfl,rfl⟩:=hx;obtain⟨v,h6,h7⟩:=yRe (P:=P) hu ah h5 (N x pa h1) r2 r3;exact Ht (s:=yaH t (a.eval x) (lo.map a.eval) (hi.map a.eval) n_) hS rfl h6 h7 hn
 .cases E
def yJh(s:TypeId)(x:Operand)(f:Nat){ty:TypeId}{pos:String}{after:Array Edge}{guard:Option (Nat×Bool)}(a4:TblOK P G T)(hS:SR base w g st)(hG:GlobOK G w g)(N:FR w g st fr a)(E:DU P il (.fieldAddr s x f)=s_ p)
  (hx:p.exec T (DJ G fr) st=s_ (d,st')) (hn:∀v w' g',Go1 base w g st w' g' st'->RepV w' g' st' d v->next (a.put dst v) w'):ybh P {dst:=dst,op:=.fieldAddr s x f,type:=ty,pos:=pos,after:=after,guard:=guard} a w next Q:=by
 have ab:∀x pa,Ek x=s_ pa->RepV w g st (DJ G fr pa) (a.eval x):=λx pa h=>Ha hG N h;clear N;simp only[DU]at E
 split at E
 case h_2=>cases E
 rename_i pa fields h1 hu
 split at E
 case h_2=>cases E
 rename_i fd ac
 split at E
 case h_2=>cases E
 rename_i n ad
 split at E
 case isTrue=>cases E
 rename_i h0;simp only[Dv]at E;subst E;simp only[yaU,D1,D4]at hx;obtain⟨r,h5,rfl,rfl⟩:=hx;obtain⟨v,h6,h7⟩:=ySs (P:=P) hu ac ad h0 h5 (ab x pa h1);exact Ht (s:=Instr.fieldAt s (a.eval x) f) hS rfl h6 h7 hn
def Ydk(s:TypeId)(x:Operand)(f:Nat){ty:TypeId}{pos:String}{after:Array Edge}{guard:Option (Nat×Bool)}(a4:TblOK P G T)(hS:SR base w g st)(hG:GlobOK G w g)(N:FR w g st fr a)(E:DU P il (.field s x f)=s_ p)
  (hx:p.exec T (DJ G fr) st=s_ (d,st')) (hn:∀v w' g',Go1 base w g st w' g' st'->RepV w' g' st' d v->next (a.put dst v) w'):ybh P {dst:=dst,op:=.field s x f,type:=ty,pos:=pos,after:=after,guard:=guard} a w next Q:=by
 have ab:∀x pa,Ek x=s_ pa->RepV w g st (DJ G fr pa) (a.eval x):=λx pa h=>Ha hG N h;clear N;simp only[DU]at E
 split at E
 case h_2=>cases E
 rename_i pa fields h1 hu
 split at E
 case h_2=>cases E
 rename_i fd ac
 split at E
 case h_2=>cases E
 rename_i n ag ad ae;simp only[Dv]at E;subst E;simp only[yaU,D1,D4]at hx;obtain⟨r,h5,rfl,rfl⟩:=hx;obtain⟨v,h6,h7⟩:=Ye4 (P:=P) hu ac ae ad h5 (ab x pa h1);exact Ht (s:=Instr.field s (a.eval x) f) hS rfl h6 h7 hn
def yJg(t:TypeId)(x i:Operand){ty:TypeId}{pos:String}{after:Array Edge}{guard:Option (Nat×Bool)}(a3:TblOK P G T)(hS:SR base w g st)(hG:GlobOK G w g)(hF:FR w g st fr a)(E:DU P il (.indexAddr t x i)=s_ p)
  (hx:p.exec T (DJ G fr) st=s_ (d,st')) (hn:∀v w' g',Go1 base w g st w' g' st'->RepV w' g' st' d v->next (a.put dst v) w'):ybh P {dst:=dst,op:=.indexAddr t x i,type:=ty,pos:=pos,after:=after,guard:=guard} a w next Q:=by
 have N:∀x pa,Ek x=s_ pa->RepV w g st (DJ G fr pa) (a.eval x):=λx pa h=>Ha hG hF h;clear hF;simp only[DU]at E
 split at E
 .rename_i pa pi len e h1 h2 hu;simp only[D1]at E;obtain⟨n,aa,rfl⟩:=E;simp only[yaU,D1,D4]at hx;obtain⟨r,h5,rfl,rfl⟩:=hx;obtain⟨v,h6,h7⟩:=yD5 (P:=P) hu aa h5 (N x pa h1) (N i pi h2);exact Ht (s:=yaD t (a.eval x) (a.eval i)) hS rfl h6 h7 hn
 .rename_i pa pi e h1 h2 hu;simp only[D1]at E;obtain⟨n,aa,rfl⟩:=E;simp only[yaU,D1,D4]at hx;obtain⟨r,h5,rfl,rfl⟩:=hx;obtain⟨v,h6,h7⟩:=yF7 (P:=P) hu aa h5 (N x pa h1) (N i pi h2);exact Ht (s:=yaD t (a.eval x) (a.eval i)) hS rfl h6 h7 hn
 .cases E
def Ydj(t:TypeId)(x i:Operand){ty:TypeId}{pos:String}{after:Array Edge}{guard:Option (Nat×Bool)}(a4:TblOK P G T)(hS:SR base w g st)(hG:GlobOK G w g)(hF:FR w g st fr a)(E:DU P il (.index t x i)=s_ p)
  (hx:p.exec T (DJ G fr) st=s_ (d,st')) (hn:∀v w' g',Go1 base w g st w' g' st'->RepV w' g' st' d v->next (a.put dst v) w'):ybh P {dst:=dst,op:=.index t x i,type:=ty,pos:=pos,after:=after,guard:=guard} a w next Q:=by
 have N:∀x pa,Ek x=s_ pa->RepV w g st (DJ G fr pa) (a.eval x):=λx pa h=>Ha hG hF h;clear hF;simp only[DU]at E
 split at E
 .rename_i pa pi len e h1 h2 hu
  split at E
  case h_2=>cases E
  rename_i n ag a1 a2;simp only[Dv]at E;subst E;simp only[yaU,D1,D4]at hx;obtain⟨r,h5,rfl,rfl⟩:=hx;obtain⟨v,h6,h7⟩:=Yey (P:=P) hu a2 a1 h5 (N x pa h1) (N i pi h2);exact Ht (s:=Instr.index t (a.eval x) (a.eval i)) hS rfl h6 h7 hn
 .rename_i pa pi h1 h2 hu;simp only[Dv]at E;subst E;simp only[yaU,D1,D4]at hx;obtain⟨r,h5,rfl,rfl⟩:=hx;obtain⟨v,h6,h7⟩:=Yob (P:=P) hu h5 (N x pa h1) (N i pi h2);exact Ht (s:=Instr.index t (a.eval x) (a.eval i)) hS rfl h6 h7 hn
 .cases E
def yQr(x:Operand)(i:Nat){ty:TypeId}{pos:String}{after:Array Edge}{guard:Option (Nat×Bool)}(a3:TblOK P G T)(hS:SR base w g st)(hG:GlobOK G w g)(hF:FR w g st fr a)(ht:DU P il (.extract x i)=s_ p)
  (E:p.exec T (DJ G fr) st=s_ (d,st')) (hn:∀v w' g',Go1 base w g st w' g' st'->RepV w' g' st' d v->next (a.put dst v) w'):ybh P {dst:=dst,op:=.extract x i,type:=ty,pos:=pos,after:=after,guard:=guard} a w next Q:=by
 have ac:∀x pa,Ek x=s_ pa->RepV w g st (DJ G fr pa) (a.eval x):=λx pa h=>Ha hG hF h;clear hF;simp only[DU,D1]at ht;obtain⟨pa,h1,rfl⟩:=ht;simp only[yaU]at E;have N:=ac x pa h1
 split at E
 .rename_i vs hp;simp only[D1,D4]at E;obtain⟨r,h5,rfl,rfl⟩:=E;rw[hp]at N;generalize hv:a.eval x=v at N
  cases N with
  |tup _ us h2 h3=>
   have hl:i<us.length:=by rw[<-h2];exact(Aa.1 h5).1
   refine Ht (s:=ybk (a.eval x) i) hS rfl (v:=us[i]) ?_ (h3 i r _ h5 (Ah hl)) hn;simp[hv,ybk,hl]
 .cases E
def yJe(t:TypeId)(m k v:Operand){ty:TypeId}{pos:String}{after:Array Edge}{guard:Option (Nat×Bool)}(a5:TblOK P G T)(hS:SR base w g st)(hG:GlobOK G w g)(hF:FR w g st fr a)(E:DU P il (.mapUpdate t m k v)=s_ p)
  (hx:p.exec T (DJ G fr) st=s_ (d,st')) (hn:∀v w' g',Go1 base w g st w' g' st'->RepV w' g' st' d v->next (a.put dst v) w'):ybh P {dst:=dst,op:=.mapUpdate t m k v,type:=ty,pos:=pos,after:=after,guard:=guard} a w next Q:=by
 have N:∀x pa,Ek x=s_ pa->RepV w g st (DJ G fr pa) (a.eval x):=λx pa h=>Ha hG hF h;clear hF;simp only[DU]at E
 split at E
 case h_2=>cases E
 rename_i kt et sz ks pm pk pv h1 h2 h3 h4;simp only[Dv]at E;subst E;simp only[yaU,D1,D4]at hx;obtain⟨r,h5,rfl,rfl⟩:=hx;obtain⟨w',g',h6,h7⟩:=yNg (P:=P) hS h1 (N m pm h2) (N k pk h3) (N v pv h4) h5;unfold ybh execOp;simp only[yay,h6,yaz,yaE];exact hn undef w' g' h7 (.tup [] [] rfl (λi d v h=>by simp at h))
def yYl(t:TypeId)(m k v:Operand){ty:TypeId}{pos:String}{after:Array Edge}{guard:Option (Nat×Bool)}(a5:TblOK P G T)(hS:SR base w g st)(hG:GlobOK G w g)(hF:FR w g st fr a)(E:DU P il (.insert t m k v)=s_ p)
  (hx:p.exec T (DJ G fr) st=s_ (d,st')) (hn:∀v w' g',Go1 base w g st w' g' st'->RepV w' g' st' d v->next (a.put dst v) w'):ybh P {dst:=dst,op:=.insert t m k v,type:=ty,pos:=pos,after:=after,guard:=guard} a w next Q:=by
 have N:∀x pa,Ek x=s_ pa->RepV w g st (DJ G fr pa) (a.eval x):=λx pa h=>Ha hG hF h;clear hF;simp only[DU]at E
 split at E
 case h_2=>cases E
 rename_i kt et sz ks pm pk pv h1 h2 h3 h4;simp only[Dv]at E;subst E;simp only[yaU,D1,D4]at hx;obtain⟨r,h5,rfl,rfl⟩:=hx;obtain⟨w',g',h6,h7⟩:=yNg (P:=P) hS h1 (N m pm h2) (N k pk h3) (N v pv h4) h5;unfold ybh execOp;simp only[yay,h6,yaz,yaE];exact hn undef w' g' h7 (.tup [] [] rfl (λi d v h=>by simp at h))
def yYk(t:TypeId)(m k:Operand)(ok:Bool){ty:TypeId}{pos:String}{after:Array Edge}{guard:Option (Nat×Bool)}(a4:TblOK P G T)(hS:SR base w g st)(hG:GlobOK G w g)(hF:FR w g st fr a)(E:DU P il (.lookup t m k ok)=s_ p)
  (hx:p.exec T (DJ G fr) st=s_ (d,st')) (hn:∀v w' g',Go1 base w g st w' g' st'->RepV w' g' st' d v->next (a.put dst v) w'):ybh P {dst:=dst,op:=.lookup t m k ok,type:=ty,pos:=pos,after:=after,guard:=guard} a w next Q:=by
 have N:∀x pa,Ek x=s_ pa->RepV w g st (DJ G fr pa) (a.eval x):=λx pa h=>Ha hG hF h;clear hF;simp only[DU]at E
 split at E
 case h_2=>cases E
 rename_i kt et sz ks pm pk h1 h2 h3;simp only[D1]at E;obtain⟨zd,h4,rfl⟩:=E;simp only[yaU,D1,D4]at hx;obtain⟨r,h5,rfl,rfl⟩:=hx;obtain⟨v,h6,h7⟩:=yZw (P:=P) hS h1 h4 (N m pm h2) (N k pk h3) h5;exact Ht (s:=ybe t (a.eval m) (a.eval k) ok) hS rfl h6 h7 hn
def yQp(t:TypeId)(rs:Option Operand){ty:TypeId}{pos:String}{after:Array Edge}{guard:Option (Nat×Bool)}(ae:TblOK P G T)(hS:SR base w g st)(hG:GlobOK G w g)(hF:FR w g st fr a)(E:DU P il (.makeMap t rs)=s_ p)
  (N:p.exec T (DJ G fr) st=s_ (d,st')) (hn:∀v w' g',Go1 base w g st w' g' st'->RepV w' g' st' d v->next (a.put dst v) w'):ybh P {dst:=dst,op:=.makeMap t rs,type:=ty,pos:=pos,after:=after,guard:=guard} a w next Q:=by
 have af:∀x pa,Ek x=s_ pa->RepV w g st (DJ G fr pa) (a.eval x):=λx pa h=>Ha hG hF h;clear hF
 cases rs with
 |some x=>simp[DU]at E
 |none=>
  simp only[DU]at E
  split at E
  case h_2=>cases E
  rename_i kt et sz ks h1;simp only[Dv]at E;subst E;simp only[yaU]at N
  split at N
  case isFalse=>cases N
  rename_i hc;cases N;exact QW (s:=ybd t n_) rfl (Yf0 (P:=P) (t:=t) hS hc.1 hc.2) hn
theorem lP{es:List D}{E:List Value}(N:ds.length=vs.length)(h2:∀(i:Nat)d v,ds[i]?=s_ d->vs[i]?=s_ v->RepV w g st d v)(h4:∀(i:Nat)d v,es[i]?=s_ d->E[i]?=s_ v->RepV w g st d v):
  ∀(i:Nat)d v,(ds++es)[i]?=s_ d->(vs++E)[i]?=s_ v->RepV w g st d v:=by grind
theorem tv{ty:TypeId}{pos:String}{after:Array Edge}{guard:Option (Nat×Bool)}{pa:PA}{l:List PA}(ab:∀x pa,Ek x=s_ pa->RepV w g st (DJ G fr pa) (a.eval x))(aa:c.callee=.value x)
  (af:Ek x=s_ pa) (hl:I9 c.args.toList=s_ l) (hc:(ybl pa l).callee (DJ G fr)=s_ (f,ds)):
  ∃vs:List Value,ds.length=vs.length/\(∀(i:Nat)d v,ds[i]?=s_ d->vs[i]?=s_ v->RepV w g st d v)/\execOp a.eval {dst:=dst,op:=.call c,type:=ty,pos:=pos,after:=after,guard:=guard}=callFunc f vs.toArray:=by
 obtain⟨g1,g2⟩:=Rk ab hl;have g1:(l.map (DJ G fr)).length=(c.args.toList.map a.eval).length:=by simpa using g1
 have hr:=ab x pa af;simp only[ybm]at hc
 split at hc
 case h_2=>cases hc
 rename_i f' ah ae;rw[ae]at hr;generalize N:a.eval x=xv at hr
 cases hr with
 |clo _ _ us hlen ac=>
  by_cases E:f'<5000000
  .rw[zae E]at hc;cases hc;rw[Ss E,WZ E,WV E]at N;refine⟨c.args.toList.map a.eval++us,by rw[Ag,Ag,g1,hlen],lP g1 g2 ac,?_⟩;simp only[execOp,resolve,aa,N,Deferred.ofValue]
   have:(c.args.toList.map a.eval++us).toArray=c.args.map a.eval++us.toArray:=by
    grind
   rw[this];simp only[Bv];rfl
  .rw[zaf E]at hc
   split at hc
   case isFalse=>cases hc
   rename_i a0;simp only[Dv,D4]at hc;obtain⟨rfl,rfl⟩:=hc;obtain⟨f,rfl⟩:∃f,f'=f+5000000:=⟨f'-5000000,zaa⟩;have hf:f<5000000:=zaa
   rw[yWw hf,yEo hf,yHx hf]at N;rw[B8];refine⟨us++c.args.toList.map a.eval,by rw[Ag,Ag,g1,hlen],lP hlen ac g2,?_⟩;simp only[execOp,resolve,aa,N,Deferred.ofValue]
   have:(us++c.args.toList.map a.eval).toArray=us.toArray++c.args.map a.eval:=by
    grind
   rw[this];rfl
theorem Ym0(c:Call){ty:TypeId}{pos:String}{after:Array Edge}{guard:Option (Nat×Bool)}(hT:TblOK P G T)(hS:SR base w g st)(hG:GlobOK G w g)(hF:FR w g st fr a)(N:DU P il (.call c)=s_ p)(cd:∀x args f a7,p=.callv x args->DJ G fr x=.clo f a7->f<10000000)
  (E:p.exec T (DJ G fr) st=s_ (d,st')) (hn:∀v w' g',Go1 base w g st w' g' st'->RepV w' g' st' d v->next (a.put dst v) w'):ybh P {dst:=dst,op:=.call c,type:=ty,pos:=pos,after:=after,guard:=guard} a w next Q:=by
 have ab:∀x pa,Ek x=s_ pa->RepV w g st (DJ G fr pa) (a.eval x):=λx pa h=>Ha hG hF h;clear hF;simp only[DU]at N
 split at N
 .rename_i b hb
  have ad:∀l,c.args.toList=l->c.args=l.toArray:=λl h=>by rw[<-h,BH]
  have bf:∀l,c.argTypes.toList=l->c.argTypes=l.toArray:=λl h=>by rw[<-h,BH]
  unfold ll at N
  split at N
  .rename_i x t e1 e2;have e1:=ad _ e1;have e2:=bf _ e2
   have a0:execOp a.eval {dst:=dst,op:=.call c,type:=ty,pos:=pos,after:=after,guard:=guard}=(do pure (.value (<-yaK #[t] ty #[a.eval x]))):=by
    simp[execOp,resolve,hb,e1,e2,invoke,builtin]
   split at N
   .rename_i pa h1 hu;simp only[Dv]at N;subst N;simp only[yaU]at E
    split at E
    case isFalse=>cases E
    rename_i bg;simp only[D1,D4]at E;obtain⟨n,h5,rfl,rfl⟩:=E;refine Ht hS a0 (yUq (.inl hu) ⟨λ_=>?_,λ_=>hu⟩ h5 (ab x pa h1) ty) (.int _ _) hn;cases hp:DJ G fr pa<;>simp[hp,Kk]at bg;grind
   .rename_i pa e h1 hu;simp only[Dv]at N;subst N;simp only[yaU]at E
    split at E
    case isFalse=>cases E
    rename_i bg;simp only[D1,D4]at E;obtain⟨n,h5,rfl,rfl⟩:=E;refine Ht hS a0 (yUq (.inr ⟨e,hu⟩) ⟨(by intro h;rw[hu]at h;cases h),λ⟨s,hs⟩=>?_⟩ h5 (ab x pa h1) ty) (.int _ _) hn;simp[hs,Kk]at bg
   .rename_i pa n e h1 hu;simp only[Dv]at N;subst N;simp only[yaU,Dv,D4]at E;obtain⟨rfl,rfl⟩:=E;refine Ht hS a0 ?_ (.int _ _) hn;simp[yaK,run_underlying hu,goInt]
   .cases N
  .rename_i s x t tx e1 e2;have e1:=ad _ e1;have e2:=bf _ e2
   have a0:execOp a.eval {dst:=dst,op:=.call c,type:=ty,pos:=pos,after:=after,guard:=guard}=(do pure (.value (<-yaS #[t,tx] ty #[a.eval s,a.eval x]))):=by
    simp[execOp,resolve,hb,e1,e2,invoke,builtin]
   have fin:∀ps px e,Ek s=s_ ps->Ek x=s_ px->P.underlying t=s_ (.slice e)->((∃e',P.underlying tx=s_ (.slice e'))\/P.underlying tx=s_ .string)->(match P.info? e with
    |some i=>match i.zero with
     |some z=>if z.cells.size=i.size then s_ (POp.app i.size i.bytes ps px)else n_
     |none=>n_
    |none=>n_)=s_ p->ybh P {dst:=dst,op:=.call c,type:=ty,pos:=pos,after:=after,guard:=guard} a w next Q:=by
    intro ps px e h1 h2 hu ce hp
    split at hp
    case h_2=>cases hp
    rename_i i hi
    split at hp
    case h_2=>cases hp
    rename_i z hz
    split at hp
    case isFalse=>cases hp
    rename_i cf;simp only[Dv]at hp;subst hp;simp only[yaU]at E;exact QW a0 (Yog hS hu ce hi hz rfl rfl cf E (ab s ps h1) (ab x px h2)) hn
   split at N
   .grind
   .grind
   .cases N
  .rename_i x y t t2 e1 e2;have e1:=ad _ e1;have e2:=bf _ e2
   split at N
   case h_2=>cases N
   rename_i px py e h1 h2 hu
   split at N
   case h_2=>cases N
   rename_i cg;simp only[Dv]at N;subst N;simp only[yaU]at E;exact QW (s:=ybg #[t,t2] ty #[a.eval x,a.eval y]) (by simp[execOp,resolve,hb,e1,e2,invoke,builtin]) (YBs hS hu cg (ab x px h1) (ab y py h2) E) hn
  .rename_i x y e1;have e1:=ad _ e1
   split at N
   case h_2=>cases N
   rename_i px py h1 h2;simp only[Dv]at N;subst N;simp only[yaU]at E
   split at E
   case h_2=>cases E
   rename_i k n k' m a3 a4;cases E;have r1:=ab x px h1;have r2:=ab y py h2;rw[a3]at r1;rw[a4]at r2;have q1:=Kc r1;have q2:=Kc r2;refine Ht (s:=ybn c.argTypes ty #[a.eval x,a.eval y]) hS ?_ ?_ (.int k (if m<n then m else n)) hn
   .simp[execOp,resolve,hb,e1,invoke,builtin]
   .simp[ybn,q1,q2,ybo]
  .rename_i x y e1;have e1:=ad _ e1
   split at N
   case h_2=>cases N
   rename_i px py h1 h2;simp only[Dv]at N;subst N;simp only[yaU]at E
   split at E
   case h_2=>cases E
   rename_i k n k' m a3 a4;cases E;have r1:=ab x px h1;have r2:=ab y py h2;rw[a3]at r1;rw[a4]at r2;have q1:=Kc r1;have q2:=Kc r2;refine Ht (s:=ybp c.argTypes ty #[a.eval x,a.eval y]) hS ?_ ?_ (.int k (if m>n then m else n)) hn
   .simp[execOp,resolve,hb,e1,invoke,builtin]
   .simp[ybp,q1,q2,ybq]
  .rename_i x y z e1;have e1:=ad _ e1
   split at N
   case h_2=>cases N
   rename_i px py pz h1 h2 h3;simp only[Dv]at N;subst N;simp only[yaU]at E
   split at E
   case h_2=>cases E
   rename_i k n k' m k2 l a3 a4 bh;cases E;have r1:=ab x px h1;have r2:=ab y py h2;have r3:=ab z pz h3;rw[a3]at r1;rw[a4]at r2;rw[bh]at r3;have q1:=Kc r1;have q2:=Kc r2;have q3:=Kc r3;refine Ht (s:=ybn c.argTypes ty #[a.eval x,a.eval y,a.eval z]) hS ?_ ?_ (.int k (Pv f_ (Pv f_ n m) l)) hn
   .simp[execOp,resolve,hb,e1,invoke,builtin]
   .simp[ybn,q1,q2,q3,ybo,Pv]
  .rename_i x y z e1;have e1:=ad _ e1
   split at N
   case h_2=>cases N
   rename_i px py pz h1 h2 h3;simp only[Dv]at N;subst N;simp only[yaU]at E
   split at E
   case h_2=>cases E
   rename_i k n k' m k2 l a3 a4 bh;cases E;have r1:=ab x px h1;have r2:=ab y py h2;have r3:=ab z pz h3;rw[a3]at r1;rw[a4]at r2;rw[bh]at r3;have q1:=Kc r1;have q2:=Kc r2;have q3:=Kc r3;refine Ht (s:=ybp c.argTypes ty #[a.eval x,a.eval y,a.eval z]) hS ?_ ?_ (.int k (Pv t_ (Pv t_ n m) l)) hn
   .simp[execOp,resolve,hb,e1,invoke,builtin]
   .simp[ybp,q1,q2,q3,ybq,Pv]
  .cases N
 .rename_i f hf
  split at N
  case h_2=>cases N
  rename_i fn l ch hl
  have hex:execOp a.eval {dst:=dst,op:=.call c,type:=ty,pos:=pos,after:=after,guard:=guard}=callFunc f (c.args.toList.map a.eval).toArray:=by
   simp only[execOp,resolve,hf,Act.eval,Deferred.ofValue]
   have:(c.args.toList.map a.eval).toArray=c.args.map a.eval:=by
    grind
   rw[this];simp only[Bv];rfl
  obtain⟨g1,g2⟩:=Rk ab hl
  split at N
  case isFalse=>
   split at N
   case isTrue=>cases N
   cases N;simp only[yaU]at E
   split at E
   case h_2=>cases E
   rename_i sp ys ac b2
   split at E
   case h_2=>cases E
   rename_i r hr;cases E;rcases hT.p _ _ ac with⟨hC,_⟩|⟨f',e,hE⟩
   .omega
   .obtain rfl:f=f':=Nat.add_right_cancel e;exact YBl hS hE b2 hr (by simpa using g1) g2 hex hn
  rename_i hc;simp only[Af,AN,zan]at hc;simp only[Dv]at N
  split at N
  .subst N;simp only[yaU]at E
   split at E
   case h_2=>cases E
   rename_i sp ac
   split at E
   case h_2=>cases E
   rename_i r hr;refine tP (hT.m f sp ac) hS hG (ds:=l.map (DJ G fr)) (vs:=c.args.toList.map a.eval) (r:=d) (st':=st') ?_ (by simpa using g1) g2 hex hn;grind
  split at N
  .subst N;simp only[yaU]at E
   split at E
   case h_2=>cases E
   rename_i sp ac;exact tP (hT.q f sp ac) hS hG (ds:=l.map (DJ G fr)) (vs:=c.args.toList.map a.eval) (r:=d) (st':=st') E (by simpa using g1) g2 hex hn
  split at N
  .subst N;simp only[yaU]at E
   split at E
   case h_2=>cases E
   rename_i sp ac;exact yo hT hS hG (ds:=l.map (DJ G fr)) (vs:=c.args.toList.map a.eval) ac E (by simpa using g1) g2 hex hn
  .subst N;simp only[yaU]at E
   split at E
   case h_2=>cases E
   rename_i sp ys ac b2
   split at E
   case h_2=>cases E
   rename_i r hr;cases E;exact Yrq hT hS hG (ds:=l.map (DJ G fr)) (vs:=c.args.toList.map a.eval) ch hc.1.1 hc.1.2 hc.2 ac b2 hr (by simpa using g1) g2 hex hn
 .rename_i x c6 b3
  split at N
  case h_2=>cases N
  rename_i pa l b6 hl;simp only[Dv]at N;subst N;simp only[yaU]at E
  split at E
  case h_2=>cases E
  rename_i f a7 bd;have b4:=cd _ _ _ _ rfl bd
  by_cases be:f<5000000
  .rw[zae be]at E
   split at E
   case h_2=>cases E
   rename_i sp ac;obtain⟨vs,e1,e2,e3⟩:=tv (dst:=dst) (ty:=ty) (pos:=pos) (after:=after) (guard:=guard) ab b3 b6 hl (show(ybl pa l).callee (DJ G fr)=s_ (f,l.map (DJ G fr)++a7) by simp[ybm,bd,be]);exact yo hT hS hG ac E e1 e2 e3 hn
  .rw[zaf be,zae b4]at E
   split at E
   case h_2=>cases E
   rename_i sp ac;obtain⟨vs,e1,e2,e3⟩:=tv (dst:=dst) (ty:=ty) (pos:=pos) (after:=after) (guard:=guard) ab b3 b6 hl (show(ybl pa l).callee (DJ G fr)=s_ (f-5000000,a7++l.map (DJ G fr)) by simp[ybm,bd,be,b4]);exact yo hT hS hG ac E e1 e2 e3 hn
 .cases N
theorem yMe(fn:Fn)(first E:Array Operand){ty:TypeId}{pos:String}{after:Array Edge}{guard:Option (Nat×Bool)}(a1:TblOK P G T)(hS:SR base w g st)(hG:GlobOK G w g)(hF:FR w g st fr a)(N:DU P il (.makeFunc fn first E)=s_ p)
  (hx:p.exec T (DJ G fr) st=s_ (d,st')) (hn:∀v w' g',Go1 base w g st w' g' st'->RepV w' g' st' d v->next (a.put dst v) w'):ybh P {dst:=dst,op:=.makeFunc fn first E,type:=ty,pos:=pos,after:=after,guard:=guard} a w next Q:=by
 have ac:∀x pa,Ek x=s_ pa->RepV w g st (DJ G fr pa) (a.eval x):=λx pa h=>Ha hG hF h;clear hF
 cases fn with
 |func f=>
  simp only[DU]at N
  split at N
  case isFalse=>cases N
  rename_i aa;simp only[zan]at aa
  split at N
  .rename_i hf;simp only[D1]at N;obtain⟨l,hl,rfl⟩:=N;simp only[yaU,Dv,D4]at hx;obtain⟨rfl,rfl⟩:=hx;obtain⟨g1,g2⟩:=Rk ac hl;refine Ht (s:=ybr (.func f) (first.map a.eval) (E.map a.eval)) hS rfl (v:=.func (IN f) (Sr f (E.toList.map a.eval)) (Ts f (E.toList.map a.eval))) ?_ (.clo f _ _ (by simpa using g1) g2) hn;rw[Ss aa,WZ aa,WV aa]
   have h1:first.map a.eval=#[]:=by
    grind
   have h2:E.map a.eval=(E.toList.map a.eval).toArray:=by
    grind
   rw[h1,h2];rfl
  .split at N
   case isFalse=>cases N
   rename_i hf;simp only[D1]at N;obtain⟨l,hl,rfl⟩:=N;simp only[yaU,Dv,D4]at hx;obtain⟨rfl,rfl⟩:=hx;obtain⟨g1,g2⟩:=Rk ac hl;refine Ht (s:=ybr (.func f) (first.map a.eval) (E.map a.eval)) hS rfl (v:=.func (IN (f+5000000)) (Sr (f+5000000) (first.toList.map a.eval)) (Ts (f+5000000) (first.toList.map a.eval))) ?_ (.clo (f+5000000) _ _ (by simpa using g1) g2) hn;rw[yWw aa,yEo aa,yHx aa]
   have h1:E.map a.eval=#[]:=by
    grind
   have h2:first.map a.eval=(first.toList.map a.eval).toArray:=by
    grind
   rw[h1,h2];rfl
 |_=>simp[DU]at N
def Wr(r:Option Nat):Fence:={yau with round:=r}
def W9(hd:∀c,o.op≠.defer c)(h:o.wp P a w next Q):o.wpIn (Wr r) 0 P a w next Q:=by
 refine⟨λ_ _=>trivial,?_⟩;rw[Oper.semAt_eq _ _ _ hd];unfold ybh at h;generalize (execOp a.eval o).run P w=x at h⊢
 cases x with
 |ok n w'=>
  cases n<;>simp only[Oper.upon]at h<;>simp only[Oper.uponIn]<;>first
   |exact h
   |exact h.elim
   |exact⟨(λe=>by cases e),callsIn_wide.2 h⟩
   |exact⟨(λe=>by cases e),λc cs _=>let⟨v,w',r,s⟩:=h c cs;⟨v,w',r,stepsIn_wide.2 s⟩⟩
 |halt x w'=>cases x<;>simp only[Oper.upon]at h<;>simp only[Oper.uponIn]<;>first|exact h|exact h.elim
theorem YOK.none{G:Dy}{w0:World}{g0:Ghost}{st0:St}:YOK P G (λ_ _ _=>n_) base w0 g0 st0:=λ_ _ _ _ _ _ _ _ _ _ h=>by cases h
theorem Ycf{l:Nat}(E:o.op=.call c)(hc:c.callee=.value x)(N:a.eval x=.func (.yield l) #[] #[])(ad:c.args.toList.map a.eval=vs)
  (h:yPu P base w g st st' l vs d) (hn:∀v w' g',Go1 base w g st w' g' st'->RepV w' g' st' d v->next (a.put o.dst v) w'):o.wpIn (Wr r) 0 P a w next Q:=by
 obtain⟨f,tmps,assign,body,h1,h2⟩:=h;refine⟨λ_ _=>trivial,?_⟩;rw[Oper.semAt_eq _ _ _ (λc' e=>by rw[E]at e;cases e)]
 have hex:execOp a.eval o=Instr.yield l vs.toArray:=by
  obtain⟨dst,op,ty,pos,after,guard⟩:=o;simp only at E;subst E
  have h3:vs.toArray=c.args.map a.eval:=by
   grind
  simp only[execOp,resolve,hc,N,Deferred.ofValue,h3,Bv];rfl
 rw[hex,h1,Oper.uponIn_round];refine⟨(λe=>by cases e),?_⟩;refine RoundIn.mono (F:=Wr r) (n:=0) h2 ?_;grind
def YG7(N:TblOK P G T)(hS:SR base w g st)(hG:GlobOK G w g)(hF:FR w g st fr a)(E:DU P il o.op=s_ p)(af:∀x args f ae,p=.callv x args->DJ G fr x=.clo f ae->f<10000000)(hx:p.exec T (DJ G fr) st=s_ (d,st'))
  (hn:∀v w' g',Go1 base w g st w' g' st'->RepV w' g' st' d v->next (a.put o.dst v) w'):o.wp P a w next Q:=by
 obtain⟨dst,op,ty,pos,after,guard⟩:=o
 cases op with
 |move x=>exact Ymy x N hS hG hF E hx hn
 |assign x=>exact yYm x N hS hG hF E hx hn
 |pick c x y=>exact Ymx c x y N hS hG hF E hx hn
 |alloc t=>exact Ydn t N hS hG hF E hx hn
 |box t x=>exact Yw5 t x N hS hG hF E hx hn
 |build t parts=>exact Ydl t parts N hS hG hF E hx hn
 |buildSlice t len parts=>exact yF2 t len parts N hS hG hF E hx hn
 |load t x=>exact Ymz t x N hS hG hF E hx hn
 |store t x y=>exact Ydh t x y N hS hG hF E hx hn
 |nilCheck x=>exact yMd x N hS hG hF E hx hn
 |binOp op t x y yt=>exact Ydm op t x y yt N hS hG hF E hx hn
 |unOp op t x=>exact Ymw op t x N hS hG hF E hx hn
 |convert src dt x=>exact yQs src dt x N hS hG hF E hx hn
 |makeSlice t l c=>exact yJf t l c N hS hG hF E hx hn
 |slice t x lo hi mx=>exact Ydi t x lo hi mx N hS hG hF E hx hn
 |fieldAddr s x f=>exact yJh s x f N hS hG hF E hx hn
 |field s x f=>exact Ydk s x f N hS hG hF E hx hn
 |indexAddr t x i=>exact yJg t x i N hS hG hF E hx hn
 |index t x i=>exact Ydj t x i N hS hG hF E hx hn
 |extract x i=>exact yQr x i N hS hG hF E hx hn
 |mapUpdate t m k v=>exact yJe t m k v N hS hG hF E hx hn
 |insert t m k v=>exact yYl t m k v N hS hG hF E hx hn
 |lookup t m k ok=>exact yYk t m k ok N hS hG hF E hx hn
 |makeMap t rs=>exact yQp t rs N hS hG hF E hx hn
 |call c=>exact Ym0 c N hS hG hF E af hx hn
 |makeFunc fn first ae=>exact yMe fn first ae N hS hG hF E hx hn
 |_=>simp[DU]at E
theorem Yos{w0:World}{g0:Ghost}{st0:St}(hT:TblOK P G T)(hY:YOK P G T.y base w0 g0 st0)(af:Go1 base w0 g0 st0 w g st)(hG:GlobOK G w g)(hF:FR w g st fr a)(E:DU P il o.op=s_ p)(hx:p.exec T (DJ G fr) st=s_ (d,st'))
  (hn:∀v w' g',Go1 base w g st w' g' st'->RepV w' g' st' d v->next (a.put o.dst v) w'):o.wpIn (Wr r) 0 P a w next Q:=by
 have ah:∀c,o.op≠.defer c:=λc e=>by rw[e]at E;simp[DU]at E
 by_cases hc:∃x args f N,p=.callv x args/\DJ G fr x=.clo f N/\¬f<10000000
 .obtain⟨x,args,f,N,rfl,ac,a0⟩:=hc;have ad:¬f<5000000:=zaa
  simp only[yaU,ac,zaf a0,zaf ad]at hx
  split at hx
  case isFalse=>cases hx
  rename_i a5;obtain rfl:N=[]:=by simpa using a5
  have hinv:∃c xo,o.op=.call c/\c.callee=.value xo/\Ek xo=s_ x/\I9 c.args.toList=s_ args:=by
   clear hn hx ah;generalize o.op=op at E
   cases op with
   |call c=>
    simp only[DU]at E
    split at E
    .rename_i b hb;unfold ll at E
     repeat' split at E
     all_goals first|cases E|(simp at E;done)|skip
    .grind
    .grind
    .cases E
   |_=>exfalso;revert E;simp only[DU,sY,pH,ql];(repeat' split)<;>first|(simp;done)|(intro h;cases h;done)|(intro h;simp only[D1]at h;obtain⟨_,_,h⟩:=h;cases h;done)|(intro _;contradiction)
  obtain⟨c,xo,h1,h2,h4,h5⟩:=hinv;have hr:=Ha hG hF h4;rw[ac]at hr;obtain⟨e1,e2⟩:=Rk (λx pa h=>Ha (G:=G) hG hF h) h5;generalize aa:a.eval xo=xv at hr
  cases hr with
  |clo _ _ us hlen bd=>
   obtain rfl:us=[]:=AW hlen.symm;rw[mD,lE]at aa;unfold IN at aa;rw[zaf ad,zaf a0]at aa;refine Ycf (vs:=c.args.toList.map a.eval) h1 h2 aa rfl (hY _ w g st st' _ _ d af hG hx (by simpa using e1) e2) hn
 .refine W9 ah ?_;exact YG7 hT af.sr hG hF E (λx args f N e1 e2=>Classical.byContradiction λe3=>hc ⟨x,args,f,N,e1,e2,e3⟩) hx hn
