/-
  A function that, behind a test, puts off a call which recovers: its contract out of what its code comes to.
  Conditions: none; these are definitions and lemmas.
-/
import Derived.Test.YtijnglngaogdjaaGreatDoorEngB2
import Derived.Test.YtijnglngaogdjaaGreatDoorEngR
import Derived.Laws.Cover3
import Derived.RecoverIn
set_option linter.unusedVariables false
set_option linter.unusedSimpArgs false
namespace Go.Proofs.YtijnglngaogdjaaGreatDoor.PI
open Go
noncomputable def N2(tys:List Ty):List D→Option D:=fun xs=>@ite _ (HasAll tys xs) (Classical.propDecidable _) (some (.bool true)) none
variable {xs:List D}{tys:List Ty}
theorem lawSp_true(h:HasAll tys xs):N2 tys xs=some (.bool true):=by
 unfold N2; rw[if_pos h]
variable {d:D}
theorem sF(h:N2 tys xs=some d):HasAll tys xs∧d=.bool true:=by
 unfold N2 at h;grind
variable {F:PF}{hints:List (List Nat)}{f:Nat}{il:List Nat}{T:Tbl}{G:Dh}{P:Program}
theorem ZG(u:Ds P il f hints=some F)(E:TblOK P G T)
  (h:∀ xs,HasAll tys xs→@wW G T F.code (Db xs) [] ⟨De F.res (.bool true)⟩) (I:T.y=fun _ _ _=>none:=by rfl):Contract P G f (N2 tys):=by
 refine gR E I u fun ds d J=>?_;obtain⟨M,rfl⟩:=sF J;exact g6 (G2 (h ds M))
variable {t:Ty}
theorem Pj{u:List Ty}(h:HasAll (t::u) xs):∃ x r,xs=x::r∧Has t x∧HasAll u r:=by
 cases h with
 |cons E I=>exact⟨_,_,rfl,E,I⟩
theorem uJ(h:HasAll [] xs):xs=[]:=by
 cases h; rfl
theorem Kx(h:Has (.int .i64) d):∃ n:Int,d=.int .i64 n∧-9223372036854775808≤n∧n<9223372036854775808:=by
 cases h with
 |int k n hw=>
  refine⟨n,rfl,?_⟩;simp[Lit.wf,IntKind.min,IntKind.max,IntKind.signed,IntKind.bits]at hw;omega
theorem Yqc(h:Has (.int .u8) d):∃ b:UInt8,d=Da b:=by
 cases h with
 |int k n hw=>
  simp[Lit.wf,IntKind.min,IntKind.max,IntKind.signed,IntKind.bits]at hw;refine⟨UInt8.ofNat n.toNat,?_⟩;simp[Da];omega
theorem RI{α:Type}{f:α→D}:∀ {els:List D},(∀ x∈els,∃ a,x=f a)→∃ l:List α,els=l.map f
 |[],_=>⟨[],rfl⟩
 |e::r,h=>by
  obtain⟨a,ha⟩:=h e (by simp);obtain⟨l,hl⟩:=RI (f:=f) (els:=r) fun x u=>h x (by simp[u]);exact⟨a::l,by rw[ha,hl]; rfl⟩
variable {α:Type}
theorem eT{f:α→D}{e:Ty}(E:∀ x,Has e x→∃ a,x=f a)(h:Has (.slc e) d):∃ l:List α,d=.slc (nz e.size (l.map f)) (l.map f) false∧l.length≤maxLen:=by
 cases h with
 |slc _ els I J=>
  obtain⟨l,rfl⟩:=RI (f:=f) (els:=els) fun x u=>by
   obtain⟨i,hi⟩:=Cf u;grind
  grind
theorem U1(h:Has (.agg (List.replicate 32 (.int .u8))) d):∃ x,d=C7 x:=by
 cases h with
 |agg _ xs M E=>
  obtain⟨l,rfl⟩:=RI (f:=Da) (els:=xs) fun x I=>by
   obtain⟨i,hi⟩:=Cf I
   have u:i<32:=by
    grind
   exact Yqc (E i (.int .u8) x (by rw[List.getElem?_replicate,if_pos u]) hi)
  have hl:l.length=32:=by
   grind
  refine⟨⟨l,hl⟩,?_⟩
  have:∀ l:List UInt8,(l.map Da).flatMap D.cells=l.map Da:=by
   intro l
   induction l with
   |nil=>rfl
   |cons a r J=>simp only[Aq,An,J]; rfl
  rw[this];rfl
theorem gS{u:Ty}(h:Has (.agg [t,u]) d):∃ x y,d=.agg (x.cells++y.cells)∧Has t x∧Has u y:=by
 cases h with
 |agg _ xs I E=>
  match xs,I with
  |[x,y],_=>exact⟨x,y,by simp,E 0 t x rfl rfl,E 1 u y rfl rfl⟩
theorem Yc6{u v:Ty}(h:Has (.agg [t,u,v]) d):∃ x y z,d=.agg (x.cells++(y.cells++z.cells))∧Has t x∧Has u y∧Has v z:=by
 cases h with
 |agg _ xs I E=>
  match xs,I with
  |[x,y,z],_=>exact⟨x,y,z,by simp,E 0 t x rfl rfl,E 1 u y rfl rfl,E 2 v z rfl rfl⟩
noncomputable def GX{α:Type}(enc:α→List D×St)(pre:α→Prop)(f:α→D×St):List D→St→Option (D×St):=
 fun ds st=>@dite _ (∃ a,enc a=(ds,st)∧pre a) (Classical.propDecidable _) (fun h=>some (f h.choose)) (fun _=>none)
variable {ds:List D}
theorem hJ{enc:α→List D×St}{u:α→Prop}{f:α→D×St}{st:St}{r:D×St}(h:GX enc u f ds st=some r):∃ a,enc a=(ds,st)∧u a∧f a=r:=by
 unfold GX at h
 split at h
 ·rename_i E;simp only[C9]at h;exact⟨E.choose,E.choose_spec.1,E.choose_spec.2,h⟩
 ·cases h
theorem OJ{enc:α→List D×St}{u:α→Prop}{f:α→D×St}(E:∀ a b,enc a=enc b→f a=f b)(a:α)(M:u a){st:St}(I:enc a=(ds,st)):GX enc u f ds st=some (f a):=by
 have J:∃ b,enc b=(ds,st)∧u b:=⟨a,I,M⟩;unfold GX;rw[dif_pos J];rw[E _ _ (J.choose_spec.1.trans I.symm)]
theorem ji(E:TblOK P G T)(I:Ds P il f hints=some F){sp:List D→St→Option (D×St)}
  (h:∀ ds st r,sp ds st=some r→∃ fuel,dropped (F.runI G T fuel) ds st=some r) (J:T.y=fun _ _ _=>none:=by rfl):IContract P G f sp:=by
 refine⟨(RF E J I 0).1,?_⟩;intro base w g st st' ds vs d M N O hl u;obtain⟨fuel,hf⟩:=h ds st _ M;exact(RF E J I fuel).dropped.2 base w g st st' ds vs d hf N O hl u
theorem W0(J:Ds P il f hints=some F)(M:TblOK P G T){enc:α→List D×St}{u:α→Prop}{r:α→D×St}
  (h:∀ a,u a→@wW G T F.code (Db (enc a).1) (enc a).2 ⟨@Gh F.res ⟨fun d st'=>(GJ (enc a).2.length d,cut (enc a).2.length st')=r a⟩⟩) (N:T.y=fun _ _ _=>none:=by rfl):IContract P G f (GX enc u r):=by
 refine ji M J (fun ds st x O=>?_) N;obtain⟨a,ha,U,rfl⟩:=hJ O;obtain⟨fuel,d,st',E,I⟩:=Si (G2 (h a U));rw[ha]at E I;refine⟨fuel,?_⟩;unfold dropped;rw[E fuel (Az _)];exact congrArg some I
def Kl(k:Nat)(o:Obj):Obj:={o with els:=if o.row then o.els else o.els.map (Gs k)}
def Hp(k:Nat):Nat→St→St
 |0,_=>[]
 |_+1,[]=>[]
 |n+1,o::st=>Kl k o::Hp k n st
theorem eR(k:Nat):∀ (n:Nat) (st:St),Hp k n st=(st.take n).map (Kl k)
 |0,_=>by simp[Hp]
 |n+1,[]=>by simp[Hp]
 |n+1,o::st=>by simp[Hp,eR k n st]
theorem Yq8(k:Nat)(st:St):cut k st=Hp k k st:=by
 rw[eR]; rfl
theorem rG(k:Nat)(st:St):Hp k 0 st=[]:=by simp[Hp]
theorem rF(k n:Nat)(o:Obj)(st:St):Hp k (n+1) (o::st)=Kl k o::Hp k n st:=(rfl)
theorem Ydv(k sz:Nat)(els:List D)(lent:Bool):Kl k ⟨true,sz,els,lent⟩=⟨true,sz,els,lent⟩:=(rfl)
theorem Ydw(k sz:Nat)(els:List D)(lent:Bool):Kl k ⟨false,sz,els,lent⟩=⟨false,sz,els.map (Gs k),lent⟩:=(rfl)
theorem Yb7(n:Nat)(k:IntKind)(m:Int):F5 n (.int k m)=.int k m:=(rfl)
theorem sO(n:Nat)(b:Bool):F5 n (.bool b)=.bool b:=(rfl)
theorem Yb5(n sz:Nat)(els:List D)(t:Bool):F5 n (.slc sz els t)=.slc sz els t:=(rfl)
theorem Yb6(n key tot off len:Nat):F5 n (.row key tot off len)=if key<n then .row key tot off len else .junk:=(rfl)
theorem Yiz(n:Nat)(k:IntKind)(m:Int):Gs n (.int k m)=.int k m:=(rfl)
theorem Yb2(n:Nat)(b:Bool):Gs n (.bool b)=.bool b:=(rfl)
theorem Yiw(n sz:Nat)(els:List D)(t:Bool):Gs n (.slc sz els t)=.slc sz els t:=(rfl)
theorem Yix(n key tot off len:Nat):Gs n (.row key tot off len)=if key<n then .row key tot off len else .junk:=(rfl)
theorem Yiy(n key off:Nat):Gs n (.ptr key off)=if key<n then .ptr key off else .junk:=(rfl)
theorem Yb1(n key:Nat):Gs n (.mapv key)=if key<n then .mapv key else .junk:=(rfl)
theorem sP(n:Nat):GJ n (.tup [])=.tup []:=(rfl)
theorem Yp9(f:Nat)(l:List D):hk (.clo f l)=l.flatMap FU:=(rfl)
theorem Ykb(key off:Nat):FU (.ptr key off)=[key]:=(rfl)
theorem Yh5(n:Nat)(σ:List Nat)(f:Nat)(l:List D):Eo n σ (.clo f l)=.clo f (l.map (Gi n σ)):=(rfl)
theorem Ya9(n:Nat)(σ:List Nat)(key off:Nat):Gi n σ (.ptr key off)=HX (fun k=>.ptr k off) (ED n σ key):=(rfl)
attribute [push_cast] Yiz Yb2 Yiw Yix Yiy Yb1
attribute [push_cast] Yq8 rG rF Ydv Ydw Yb7 sO Yb5 Yb6 sP Yp9 Ykb Yh5 Ya9
set_option linter.unusedSimpArgs false
set_option linter.unusedVariables false
section
variable {P:Program} {G:Dh} {T:Tbl} {il:List Nat}
end
end Go.Proofs.YtijnglngaogdjaaGreatDoor.PI
namespace Go.Proofs.YtijnglngaogdjaaGreatDoor.PI
open Go Go.RowKit
variable {sp:List D→St→Option (D×St)}{hints:List (List Nat)}{f:Nat}{il:List Nat}
section
variable {P:Program} {G:Dh} {T:Tbl} {base n:Nat} {w:World} {g:Ghost} {st:St}
theorem S6{F:PF}(u:Ds P il f hints=some F)(E:TblOK P G T)
  (h:∀ ds st r,sp ds st=some r→@wW G T F.code (Db ds) st ⟨@Gh F.res ⟨fun d st'=>(GJ st.length d,cut st.length st')=r⟩⟩) (I:T.y=fun _ _ _=>none:=by rfl):IContract P G f sp:=by
 refine ji E u (fun ds st x J=>?_) I;obtain⟨fuel,d,st',M,N⟩:=Si (G2 (h ds st x J));refine⟨fuel,?_⟩;unfold dropped;grind
theorem Ii{F:PF}(E:Ds P il f hints=some F)(I:TblOK P G T)
  (h:∀ ds st r,sp ds st=some r→@wW G T F.code (Db ds) st ⟨@Gh F.res ⟨fun d st'=>(d,st')=r⟩⟩) (J:T.y=fun _ _ _=>none:=by rfl):IContract P G f sp:=by
 refine⟨(RF I J E 0).1,?_⟩;intro base w g st st' ds vs d M O U hl u;obtain⟨k,d1,st1,V,N⟩:=Si (G2 (h ds st _ M));simp only[Dr]at N;obtain⟨rfl,rfl⟩:=N;exact(RF I J E k).2 base w g st _ ds vs _ (V k (Az _)) O U hl u
theorem Contract.or{sp u E:List D→Option D}(I:Contract P G f u)(J:Contract P G f E)(h:∀ ds d,sp ds=some d→u ds=some d∨E ds=some d):Contract P G f sp:=by
 intro w g ds vs d M;rcases h ds d M with h | h
 ·exact I w g ds vs d h
 ·exact J w g ds vs d h
theorem IContract.or{u E:List D→St→Option (D×St)}(J:IContract P G f u)(N:IContract P G f E)(h:∀ ds st r,sp ds st=some r→u ds st=some r∨E ds st=some r):IContract P G f sp:=by
 refine⟨J.1,?_⟩;intro base w g st st' ds vs d M;rcases h ds st _ M with I | I
 ·exact J.2 base w g st st' ds vs d I
 ·exact N.2 base w g st st' ds vs d I
def G7(sp:List D→Option D)(ds:List D)(st:St):Option (D×St):=match D2 st ds with
 |some vs=>match sp vs with
  |some r=>some (r,if r.noRef then st else PI.lend (ds.flatMap keys) st)
  |none=>none
 |none=>none
theorem Contract.toI{sp:List D→Option D}(h:Contract P G f sp){fn:Func}(hfn:P.funcs[f]?=some fn)(hb:fn.body.isSome=true)(hname:(fn.name == "runtime.NumGoroutine")=false):IContract P G f (G7 sp):=by
 refine⟨⟨fn,hfn,hb,hname⟩,?_⟩;intro base w g st st' ds vs d hsp hS hG hl hrep;unfold G7 at hsp
 split at hsp
 case h_2=>cases hsp
 rename_i ys hi
 split at hsp
 case h_2=>cases hsp
 rename_i r hr;simp only[C9,Dr]at hsp;obtain⟨rfl,rfl⟩:=hsp;obtain⟨g1,hgo,_,hyl,hpure,hyr⟩:=OW hS hi;have hc:=h w g1 ys vs r hr (hG.mono hgo.im) hgo.sr.im (hyl.trans hl) (fun i y v hy hv=>(hyr i y v hy (fun d hd=>hrep i d v hd hv)).purA (ImLe.refl _ _) (hpure y (Ah hy))) hpure;refine hc.mono ?_;rintro e w' ⟨v,g',rfl,h1,h2,h3,h4,h5,h6⟩;have hbes:Beside w w':=⟨h6.os,h6.tape,h6.output,h6.size⟩
 by_cases hnr:r.noRef=true
 ·refine⟨v,{g with Im:=g.Im},rfl,?_,by rw[if_pos hnr]; exact j3 h1 hnr⟩;rw[if_pos hnr];refine hS.more hbes h6.block (fun _ _ h=>h) (fun _ _ h=>.inl h) (fun b o hb=>?_);have:w'.cell? ⟨b,o,none⟩=w.cell? ⟨b,o,none⟩:=by simp only[World.cell?,h6.block b (hS.im_lt hb)]
  rw[this]; exact hS.im b o hb
 ·refine⟨v,{g1 with Im:=g'.Im},rfl,?_,?_⟩
  ·rw[if_neg hnr];exact hgo.trans (hgo.sr.more hbes h6.block (fun b o h=>(h3.im b o h).1) (fun b o h=>h4 b o h) h5)
  ·exact RepV.purR (g:=g') (g':={g1 with Im:=g'.Im}) ⟨fun b o h=>⟨h,rfl⟩,fun _ _ h _=>h⟩ h1 h2
def yD:Tbl:={p:=fun _=>none,i:=fun _=>none,m:=fun _=>none}
structure PH where
 t:Nat
 js:List Nat
 vs:Nat
 l:List PI
 deriving Inhabited
def lH(fr:Frame):List Nat→Frame
 |[]=>fr
 |s::l=>lH (fr.set s .junk) l
def PH.run(G:Dh)(F:PH):Nat→D→List D→St→Option St:=fun t d das st=>
 if t=F.t∧K7 d=true then(Ft G yD F.l ⟨(lH (Db das) F.js).set F.vs d,st⟩).map (·.st)else none
end
end Go.Proofs.YtijnglngaogdjaaGreatDoor.PI
namespace Go.Proofs.YtijnglngaogdjaaGreatDoor.PI
open Go Go.RowKit
structure PFE where
 init:PC
 tail:PFD
 deriving Inhabited
noncomputable def PFD.from(G:Dh) (T:Tbl) (H:JD) (F:PFD) (fuel:Nat) (s:PS):Option (D×St):=
 match Ft G T F.pre s with
 |some s1=>match UN (Dn G s1.fr F.hf) (F.ha.map (Dn G s1.fr))with
  |some (f,das)=>match H f with
   |some h=>match F.code.exec G T fuel s1 with
    |some (.next,s) | some (.ret,s)=>(Ea s F.res).map fun l=>(D1 l,s.st)
    |some (.panic t d,s)=>match h t d das s.st with
     |some st3=>(Ea ⟨s.fr,st3⟩ F.res).map fun l=>(D1 l,st3)
     |none=>none
    |_=>none
   |none=>none
  |none=>none
 |none=>none
noncomputable def PFE.runI(G:Dh)(T:Tbl)(H:JD)(F:PFE)(fuel:Nat)(ds:List D)(st:St):Option (D×St):=
 match F.init.exec G T fuel {fr:=Db ds,st} with
 |some (.next,s)=>F.tail.from G T H fuel s
 |some (.ret,s)=>(Ea s F.tail.res).map fun l=>(D1 l,s.st)
 |_=>none
section
variable {P:Program} {G:Dh} {T:Tbl} {il:List Nat}
def aj(G:Dh)(T:Tbl)(F:PFD)(H:JD)(Kr:Frame→St→Prop)(K:(Nat→D→List D→St→Option St)→List D→Ex→Frame→St→Prop)(e:Ex)(fr:Frame)(st:St):Prop:=match e with
 |.next=>@GV G T F.pre fr st ⟨fun fr1 st1=>@on _ (UN (Dn G fr1 F.hf) (F.ha.map (Dn G fr1))) ⟨fun p=>@on _ (H p.1) ⟨fun h=>@wW G T F.code fr1 st1 ⟨K h p.2⟩⟩⟩⟩
 |.ret=>Kr fr st
 |_=>False
theorem v9(G:Dh)(T:Tbl)(F:PFD)(H:JD)(u:Frame→St→Prop)(K:(Nat→D→List D→St→Option St)→List D→Ex→Frame→St→Prop)(fr:Frame)(st:St) :
  aj G T F H u K .next fr st=@GV G T F.pre fr st ⟨fun fr1 st1=>@on _ (UN (Dn G fr1 F.hf) (F.ha.map (Dn G fr1))) ⟨fun p=>@on _ (H p.1) ⟨fun h=>@wW G T F.code fr1 st1 ⟨K h p.2⟩⟩⟩⟩:=(rfl)
theorem uq(G:Dh)(T:Tbl)(F:PFD)(H:JD)(u:Frame→St→Prop)(K:(Nat→D→List D→St→Option St)→List D→Ex→Frame→St→Prop)(fr:Frame)(st:St):aj G T F H u K .ret fr st=u fr st:=(rfl)
end
attribute [irreducible] aj
attribute [push_cast] v9 uq
end Go.Proofs.YtijnglngaogdjaaGreatDoor.PI
