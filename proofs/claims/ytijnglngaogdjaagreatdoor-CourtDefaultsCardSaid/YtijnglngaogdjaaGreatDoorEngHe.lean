/-
  A function that, behind a test, puts off a call which recovers: its contract out of what its code comes to.
  Conditions: none; these are definitions and lemmas.
-/
import Derived.Test.YtijnglngaogdjaaGreatDoorEngB2
import Derived.Test.YtijnglngaogdjaaGreatDoorEngR
import Derived.Laws.Cover3
import Derived.RecoverIn
open Array renaming replicate→CL
set_option linter.unusedVariables false
set_option linter.unusedSimpArgs false
namespace Go.Proofs.YtijnglngaogdjaaGreatDoor.PI
open Go
noncomputable def QO(tys:List Ty):List D→Option D:=fun xs=>@ite _ (HasAll tys xs) (Classical.propDecidable _) (some (.bool true)) none
variable {xs:List D}{tys:List Ty}
theorem lawSp_true(h:HasAll tys xs):QO tys xs=some (.bool true):=by
 unfold QO; rw[if_pos h]
variable {d:D}
theorem wh(h:QO tys xs=some d):HasAll tys xs∧d=.bool true:=by
 unfold QO at h;grind
variable {F:PF}{hints:List (List Nat)}{f:Nat}{il:List Nat}{T:Tbl}{G:C9}{P:Program}
theorem fU(E:Dq P il f hints=some F)(I:TblOK P G T)
  (h:∀ xs,HasAll tys xs→@wW G T F.code (C3 xs) [] ⟨Df F.res (.bool true)⟩) (J:T.y=fun _ _ _=>none:=by rfl):Contract P G f (QO tys):=by
 refine mf I J E fun ds d M=>?_;obtain⟨N,rfl⟩:=wh M;exact nq (Ir (h ds N))
theorem iy{t:Ty}{E:List Ty}(h:HasAll (t::E) xs):∃ x r,xs=x::r∧Has t x∧HasAll E r:=by
 cases h with
 |cons I J=>exact⟨_,_,rfl,I,J⟩
theorem zR(h:HasAll [] xs):xs=[]:=by
 cases h; rfl
theorem mg(h:Has .bool d):∃ b,d=.bool b:=by
 cases h with
 |bool b=>exact⟨b,rfl⟩
theorem I9(h:Has (.int .i64) d):∃ n:Int,d=.int .i64 n∧-9223372036854775808≤n∧n<9223372036854775808:=by
 cases h with
 |int k n hw=>
  refine⟨n,rfl,?_⟩;simp[Lit.wf,IntKind.min,IntKind.max,IntKind.signed,IntKind.bits]at hw;omega
theorem Yup(h:Has (.int .u8) d):∃ b:UInt8,d=Da b:=by
 cases h with
 |int k n hw=>
  simp[Lit.wf,IntKind.min,IntKind.max,IntKind.signed,IntKind.bits]at hw;refine⟨UInt8.ofNat n.toNat,?_⟩;simp[Da];omega
theorem dS{α:Type}{f:α→D}:∀ {els:List D},(∀ x∈els,∃ a,x=f a)→∃ l:List α,els=l.map f
 |[],_=>⟨[],rfl⟩
 |e::r,h=>by
  obtain⟨a,ha⟩:=h e (by simp);obtain⟨l,hl⟩:=dS (f:=f) (els:=r) fun x E=>h x (by simp[E]);exact⟨a::l,by rw[ha,hl]; rfl⟩
variable {α:Type}
theorem Yog{f:α→D}{e:Ty}(I:∀ x,Has e x→∃ a,x=f a)(h:Has (.slc e) d):∃ l:List α,d=.slc (nz e.size (l.map f)) (l.map f) false∧l.length≤maxLen:=by
 cases h with
 |slc _ els J M=>
  obtain⟨l,rfl⟩:=dS (f:=f) (els:=els) fun x E=>by
   obtain⟨i,hi⟩:=List.getElem?_of_mem E;grind
  grind
theorem cA(h:Has (.agg (List.replicate 32 (.int .u8))) d):∃ x,d=CY x:=by
 cases h with
 |agg _ xs N I=>
  obtain⟨l,rfl⟩:=dS (f:=Da) (els:=xs) fun x J=>by
   obtain⟨i,hi⟩:=List.getElem?_of_mem J
   have E:i<32:=by
    grind
   exact Yup (I i (.int .u8) x (by rw[List.getElem?_replicate,if_pos E]) hi)
  have hl:l.length=32:=by
   grind
  refine⟨⟨l,hl⟩,?_⟩
  have:∀ l:List UInt8,(l.map Da).flatMap D.cells=l.map Da:=by
   intro l
   induction l with
   |nil=>rfl
   |cons a r M=>simp only[Ax,Au,M]; rfl
  rw[this];rfl
theorem Qk{t u:Ty}(h:Has (.agg [t,u]) d):∃ x y,d=.agg (x.cells++y.cells)∧Has t x∧Has u y:=by
 cases h with
 |agg _ xs I E=>
  match xs,I with
  |[x,y],_=>exact⟨x,y,by simp,E 0 t x rfl rfl,E 1 u y rfl rfl⟩
noncomputable def HH{α:Type}(enc:α→List D×St)(pre:α→Prop)(f:α→D×St):List D→St→Option (D×St):=
 fun ds st=>@dite _ (∃ a,enc a=(ds,st)∧pre a) (Classical.propDecidable _) (fun h=>some (f h.choose)) (fun _=>none)
variable {st:St}{ds:List D}
theorem eE{enc:α→List D×St}{pre:α→Prop}{f:α→D×St}{r:D×St}(h:HH enc pre f ds st=some r):∃ a,enc a=(ds,st)∧pre a∧f a=r:=by
 unfold HH at h
 split at h
 ·rename_i E;simp only[CX]at h;exact⟨E.choose,E.choose_spec.1,E.choose_spec.2,h⟩
 ·cases h
theorem RQ{enc:α→List D×St}{pre:α→Prop}{f:α→D×St}(E:∀ a b,enc a=enc b→f a=f b)(a:α)(M:pre a)(I:enc a=(ds,st)):HH enc pre f ds st=some (f a):=by
 have J:∃ b,enc b=(ds,st)∧pre b:=⟨a,I,M⟩;unfold HH;rw[dif_pos J];rw[E _ _ (J.choose_spec.1.trans I.symm)]
variable {sp:List D→St→Option (D×St)}
theorem nW(I:TblOK P G T)(J:Dq P il f hints=some F)
  (h:∀ ds st r,sp ds st=some r→∃ fuel,dropped (F.runI G T fuel) ds st=some r) (M:T.y=fun _ _ _=>none:=by rfl):IContract P G f sp:=by
 refine⟨(VN I M J 0).1,?_⟩;intro base w g st st' ds vs d N O U hl E;obtain⟨fuel,hf⟩:=h ds st _ N;exact(VN I M J fuel).dropped.2 base w g st st' ds vs d hf O U hl E
theorem bj(J:Dq P il f hints=some F)(M:TblOK P G T){enc:α→List D×St}{pre:α→Prop}{r:α→D×St}
  (h:∀ a,pre a→@wW G T F.code (C3 (enc a).1) (enc a).2 ⟨@Gm F.res ⟨fun d st'=>(Hj (enc a).2.length d,cut (enc a).2.length st')=r a⟩⟩) (N:T.y=fun _ _ _=>none:=by rfl):IContract P G f (HH enc pre r):=by
 refine nW M J (fun ds st x O=>?_) N;obtain⟨a,ha,U,rfl⟩:=eE O;obtain⟨fuel,d,st',E,I⟩:=Z0 (Ir (h a U));rw[ha]at E I;refine⟨fuel,?_⟩;unfold dropped;rw[E fuel (AE _)];exact congrArg some I
def L8(k:Nat)(o:Obj):Obj:={o with els:=if o.row then o.els else o.els.map (GW k)}
def Ip(k:Nat):Nat→St→St
 |0,_=>[]
 |_+1,[]=>[]
 |n+1,o::st=>L8 k o::Ip k n st
theorem kA(k:Nat):∀ (n:Nat) (st:St),Ip k n st=(st.take n).map (L8 k)
 |0,_=>by simp[Ip]
 |n+1,[]=>by simp[Ip]
 |n+1,o::st=>by simp[Ip,kA k n st]
theorem Yu6(k:Nat)(st:St):cut k st=Ip k k st:=by
 rw[kA]; rfl
theorem vS(k:Nat)(st:St):Ip k 0 st=[]:=by simp[Ip]
theorem vR(k n:Nat)(o:Obj)(st:St):Ip k (n+1) (o::st)=L8 k o::Ip k n st:=(rfl)
theorem Yha(k sz:Nat)(els:List D)(lent:Bool):L8 k ⟨true,sz,els,lent⟩=⟨true,sz,els,lent⟩:=(rfl)
theorem Yhb(k sz:Nat)(els:List D)(lent:Bool):L8 k ⟨false,sz,els,lent⟩=⟨false,sz,els.map (GW k),lent⟩:=(rfl)
theorem Yfj(n:Nat)(k:IntKind)(m:Int):F4 n (.int k m)=.int k m:=(rfl)
theorem wu(n:Nat)(b:Bool):F4 n (.bool b)=.bool b:=(rfl)
theorem Yfh(n sz:Nat)(els:List D)(t:Bool):F4 n (.slc sz els t)=.slc sz els t:=(rfl)
theorem Yfi(n key tot off len:Nat):F4 n (.row key tot off len)=if key<n then .row key tot off len else .junk:=(rfl)
theorem Ymw(n:Nat)(k:IntKind)(m:Int):GW n (.int k m)=.int k m:=(rfl)
theorem Yfe(n:Nat)(b:Bool):GW n (.bool b)=.bool b:=(rfl)
theorem Ymt(n sz:Nat)(els:List D)(t:Bool):GW n (.slc sz els t)=.slc sz els t:=(rfl)
theorem Ymu(n key tot off len:Nat):GW n (.row key tot off len)=if key<n then .row key tot off len else .junk:=(rfl)
theorem Ymv(n key off:Nat):GW n (.ptr key off)=if key<n then .ptr key off else .junk:=(rfl)
theorem Yfd(n key:Nat):GW n (.mapv key)=if key<n then .mapv key else .junk:=(rfl)
theorem wv(n:Nat):Hj n (.tup [])=.tup []:=(rfl)
theorem Yum(f:Nat)(l:List D):hk (.clo f l)=l.flatMap FN:=(rfl)
theorem Yoe(key off:Nat):FN (.ptr key off)=[key]:=(rfl)
theorem Yl0(n:Nat)(σ:List Nat)(f:Nat)(l:List D):Ed n σ (.clo f l)=.clo f (l.map (F2 n σ)):=(rfl)
theorem Yef(n:Nat)(σ:List Nat)(key off:Nat):F2 n σ (.ptr key off)=Ix (fun k=>.ptr k off) (Eu n σ key):=(rfl)
attribute [push_cast] Ymw Yfe Ymt Ymu Ymv Yfd
attribute [push_cast] Yu6 vS vR Yha Yhb Yfj wu Yfh Yfi wv Yum Yoe Yl0 Yef
set_option linter.unusedSimpArgs false
set_option linter.unusedVariables false
variable {e:TypeId}
section
variable {P:Program} {G:C9} {T:Tbl} {il:List Nat}
theorem Yln{w:World}{g:Ghost}{sz:Nat}{els:List D}{t:Bool}{v:Value}(h:RepV w g st (.slc sz els t) v):∃ a n cap,v=.slice a n cap∧(els≠[]→a.isNone=false):=by
 cases h with
 |slcE _ _ a cap h=>exact⟨a,0,cap,rfl,fun h=>absurd rfl h⟩
 |slc _ _ b off cap _ val E=>exact⟨_,_,_,rfl,fun _=>rfl⟩
theorem yY{t:TypeId}(E:P.underlying t=some (.slice e))(w:World)(a:Option Addr)(n cap:Nat):(binOp .eql t (.slice a n cap) (.slice none 0 0)).run P w=.ok (.bool a.isNone) w:=by
 have he:(Op.equal t (.slice a n cap) (.slice none 0 0)).run P w=.ok a.isNone w:=run_equalIn_slice_nil w 9999 t e a n cap E;simp[binOp,he]
theorem Yhd(hT:TblOK P G T)(hy:T.y=fun _ _ _=>none){id1:Nat}{fn:Func}{c0 A B:Code}{o1 o2:Oper}{t3 t4:Nat}{tS:TypeId}{l0:List PI}{pA pB:PC}{res:List PRes}
  (hfn:P.funcs[f]?=some fn) (hname:(fn.name == "runtime.NumGoroutine")=false) (hc:fn.body=some (.seq c0 (.seq (.seq (.region id1 #[o1,o2] false) (.cond (.tmp t4) A .skip)) B)))
  (h0:He P il fn.ntmps [] c0=some (.ops l0,[])) (hA:He P il fn.ntmps [] A=some (pA,[])) (hB:He P il fn.ntmps [] B=some (pB,[])) (hr:Nk P fn.results.toList=some res)
  (ho1:Lq P il fn.ntmps #[o1,o2] o1=some {dst:=some t3,op:=.mov (.s 0)}) (ho2:o2.op=.binOp .eql tS (.tmp t3) (.const (.slice none 0 0)) tS) (hd2:o2.dst=some t4) (hg2:o2.guard=none) (ht4:t4<fn.ntmps)
  (hS:P.underlying tS=some (.slice e)) 
  (hsp:∀ ds st d st',sp ds st=some (d,st')→∃ sz els t fr0,ds=[.slc sz els t]∧ED G T l0 ⟨C3 ds,st⟩=some ⟨fr0,st⟩∧fr0 0=.slc sz els t∧
   (els=[]→∃ fuel sA xs,pA.exec G T fuel ⟨(fr0.set t3 (.slc sz els t)).set t4 (.bool true),st⟩=some (.ret,sA)∧sA.st=st'∧DI sA res=some xs∧∀ w g v,RepV w g st' (Dz xs) v→RepV w g st' d v)∧
   (∃ fuel sB xs,pB.exec G T fuel ⟨(fr0.set t3 (.slc sz els t)).set t4 (.bool false),st⟩=some (.ret,sB)∧sB.st=st'∧DI sB res=some xs∧∀ w g v,RepV w g st' (Dz xs) v→RepV w g st' d v)):IContract P G f sp:=by
 refine⟨⟨fn,hfn,by rw[hc]; rfl,hname⟩,?_⟩;intro base w g st st' ds vs d hx hSR hG hlen hrep
 have hR0:R G base fn.ntmps w g st [] {fr:=C3 ds,st} {tmps:=vs.toArray++CL (fn.ntmps - vs.toArray.size) undef,defers:=[]} w:=by
  refine⟨g,Go1.refl hSR,?_,hG,⟨[],rfl,trivial⟩,?_⟩
  ·intro s;simp only[C3];rcases A6 s ds.length with h1 | h1
   ·have h2:s<vs.length:=by omega
    have h3:(vs.toArray++CL (fn.ntmps - vs.toArray.size) undef).getD s undef=vs[s]:=by
     simp[Array.getD,h2];intro h4;omega
    rw[h3];have:=hrep s ds[s] vs[s] (by simp[h1]) (by simp[h2]);simpa[Ao,h1]using this
   ·simp[Ao,Bz h1];exact .junk _
  ·simp; omega
 obtain⟨sz,els,t,fr0,rfl,e0,e1,eA,eB⟩:=hsp _ _ _ _ hx;have hY:YOK P G T.y base w g st:=by rw[hy]; exact YOK.none
 refine callsIn_wide.1 (callsIn_of_wp_marks (F:=Fence.wide) (n:=0) hfn hc trivial ?_)
 have fin:∀ (s':PS) (xs:List D),s'.st=st'→DI s' res=some xs→(∀ w g v,RepV w g st' (Dz xs) v→RepV w g st' d v)→∀ a' w',R G base fn.ntmps w g st [] s' a' w'→
   LeavesInM Fence.wide 0 P fn a'.tmps (fun e w'=>∃ v g',e=.returned v∧Go1 base w g st w' g' st'∧RepV w' g' st' d v) a'.defers .returning w':=by
  rintro s' xs rfl hx1 hw a' w' ⟨g1,h⟩;obtain⟨dd,hd1,hd2⟩:=h.df;rw[hd1,Ad];refine Sd hSR.size dd w' h.go1 h.fr hd2 fun w2 hgo hF=>?_;obtain⟨us,e1,e2,e3⟩:=Qp hgo.sr hF hr hx1;exact⟨_,W6 e3,_,g1,rfl,hgo,hw _ _ _ (R1 e1 e2)⟩
 refine wpIn_seq (MZ hT c0 none (.inl rfl) w g st [] hY hSR.size [] _ h0 0 _ ⟨fr0,st⟩ .next (by simp only[PC.exec,e0]) _ w _ hR0 fun a1 w1 hR1=>?_);refine wpIn_seq (wpIn_seq (wpIn_region_list ?_));refine RY (r:=none) hT hY hR1 ho1 (s':=⟨fr0.set t3 (.slc sz els t),st⟩) (by simp[PI.exec,PI.step,PI.wanted,POp.exec,De,e1,Frame.set,Frame.put]) fun a2 w2 hR2=>?_;obtain⟨g2,h2⟩:=id hR2;have hv:RepV w2 g2 st ((fr0.set t3 (.slc sz els t)) t3) (a2.tmps.getD t3 undef):=h2.fr t3;have hset:(Frame.set fr0 t3 (.slc sz els t)) t3=.slc sz els t:=by simp[Frame.set]
 rw[hset]at hv;obtain⟨a,n,cap,hva,hne⟩:=Yln hv;obtain⟨dst2,op2,ty2,pos2,after2,guard2⟩:=o2;dsimp only at ho2 hd2 hg2;subst ho2 hd2 hg2;have hw2:∀ y,Region.wanted (⟨some t4,.binOp .eql tS (.tmp t3) (.const (.slice none 0 0)) tS,ty2,pos2,after2,none⟩:Oper) y=true:=fun y=>rfl;have hev:a2.eval (.tmp t3)=.slice a n cap:=hva;have hsz2:t4<a2.tmps.size:=AY ht4 h2.sz
 show(if Region.wanted _ _=true then _ else _)
 rw[hw2,if_pos rfl];refine Pf (by intro c h; cases h) ?_;refine FE (d:=.bool a.isNone) (s:=do eqGuard .eql tS (.tmp t3) (.const (.slice none 0 0)) (a2.eval (.tmp t3)) (a2.eval (.const (.slice none 0 0))); binOp .eql tS (a2.eval (.tmp t3)) (a2.eval (.const (.slice none 0 0)))) h2.sr rfl ?_ (.bool _) ?_
 ·simp only[Sem.run_bind,hev,aY .eql tS (.tmp t3) (.const (.slice none 0 0)) (.slice a n cap) (a2.eval (.const (.slice none 0 0))) (fun u e=>by cases e) (fun e=>by cases e),Result.andThen_ok];exact yY hS w2 a n cap
 intro v w3 g3 hgo hrep3
 have hR3:R G base fn.ntmps w g st [] ⟨(fr0.set t3 (.slc sz els t)).set t4 (.bool a.isNone),st⟩ (a2.put (some t4) v) w3:=
  ⟨g3,h2.go hgo ((h2.fr.mono hgo.im hgo.evo).put (dst:=some t4) (fun t e=>by cases e; exact hsz2) hrep3) (N8 ..) (by rw[OW]; exact h2.sz)⟩
 obtain rfl:=KL hrep3
 have hbv:(a2.put (some t4) (.bool a.isNone)).eval (.tmp t4)=.bool a.isNone:=by
  simp[Act.eval,Act.put,hsz2]
 cases hnil:a.isNone with
 |true=>
  rw[hnil]at hbv hR3;have hels:els=[]:=Classical.byContradiction fun h=>by rw[hne h]at hnil; cases hnil
  obtain⟨fuel,sA,xs,x1,x2,x3,x4⟩:=eA hels;refine wpIn_cond_true hbv ?_;refine MZ hT A none (.inl rfl) w g st [] hY hSR.size [] _ hA fuel _ sA .ret x1 _ _ _ hR3 fun a4 w4 hR4=>?_;exact fin sA xs x2 x3 x4 a4 w4 hR4
 |false=>
  rw[hnil]at hbv hR3;obtain⟨fuel,sB,xs,x1,x2,x3,x4⟩:=eB;refine wpIn_cond_false hbv (wpIn_skip ?_);refine MZ hT B none (.inl rfl) w g st [] hY hSR.size [] _ hB fuel _ sB .ret x1 _ _ _ hR3 fun a4 w4 hR4=>?_;exact fin sB xs x2 x3 x4 a4 w4 hR4
end
end Go.Proofs.YtijnglngaogdjaaGreatDoor.PI
namespace Go.Proofs.YtijnglngaogdjaaGreatDoor.PI
open Go Go.RowKit
variable {v:Value}{ds:List D}{sp:List D→St→Option (D×St)}{f:Nat}{hints:List (List Nat)}{il:List Nat}{F:PF}{dst:Option Tmp}{a:Act}{x:Operand}{u:TypeDesc}{T1:TypeId}
section
variable {P:Program} {G:C9} {T:Tbl} {base n:Nat} {w:World} {g:Ghost} {st:St}
theorem Yez(h:RepV w g st (Dz ds) v):∃ us:List Value,v=Zt us∧ds.length=us.length∧∀ (i:Nat) d u,ds[i]?=some d→us[i]?=some u→RepV w g st d u:=by
 match ds with
 |[d]=>
  refine⟨[v],rfl,rfl,fun i J u E I=>?_⟩
  cases i with
  |zero=>
   simp only[AH,CX]at E I;subst E; subst I;exact h
  |succ i=>simp at E
 |[]=>
  cases h with
  |tup _ vs E I=>
   obtain rfl:vs=[]:=AO E.symm;exact⟨[],rfl,rfl,I⟩
 |a::b::l=>
  cases h with
  |tup _ vs E I=>
   match vs,E with
   |x::y::r,E=>exact⟨x::y::r,rfl,E,I⟩
theorem yMz(h:IContract P G f sp){xs ys:List D}{st':St}(U:sp ds []=some (Dz xs,st'))(V:DZ st' xs=some ys) :
  ∀ (w:World) (g:Ghost) (vs:List Value),GlobOK G w g→(∀ b o,g.Im b o→(w.cell? ⟨b,o,none⟩).isSome=true)→ds.length=vs.length→
  (∀ (i:Nat) d v,ds[i]?=some d→vs[i]?=some v→RepV w g [] d v)→
  Calls P f vs.toArray w fun e w'=>∃ v g',e=.returned v∧RepV w' g' [] (Dz ys) v∧purR (Dz ys)=true∧ImLe w g w' g'∧(∀ b o,g'.Im b o→g.Im b o∨w.heap.size≤b)∧
   (∀ b o,g'.Im b o→(w'.cell? ⟨b,o,none⟩).isSome=true)∧Below w.heap.size w w':=by
 intro w g vs Y M hlen J;have hS:SR w.heap.size w g []:=⟨fun k o h=>by simp at h,fun k o h=>by simp at h,fun k k' o o' h=>by simp at h,M,fun k o x h=>by simp at h,AE _⟩;refine(h.2 w.heap.size w g [] st' ds vs _ U hS Y hlen J).mono ?_;rintro e w' ⟨v,g1,rfl,I,hr⟩;obtain⟨us,rfl,e1,e2⟩:=Yez hr;obtain⟨g2,N,_,e5,O,e7⟩:=Qx I.sr V;have E:=I.trans N;refine⟨_,g2,rfl,?_,VT O,E.im,E.new,E.sr.im,E.below⟩;have h8:=R1 (g:=g2) (w:=w') (ds:=ys) (vs:=us) (by omega) fun i y v hy hv=>e7 i y v hy fun x hx=>e2 i x v hx hv;exact h8.purR (ImLe.refl _ _) (VT O)
theorem yJj{F:PFD}{H:HX}(ht:Nl P il f hints=some F)(hT:TblOK P G T)(hH:∀ f h,H f=some h→Sh P G f h){α:Type}{enc:α→List D}{pre:α→Prop}{r:α→D}
  (h:∀ a,pre a→Pv G T F H (enc a) [] fun h M=>Pq h M F.res (r a)) (hy:T.y=fun _ _ _=>none:=by rfl):Contract P G f (Dc enc pre r):=by
 intro w g ds vs d hd hG ab hlen O _;obtain⟨a,rfl,hp,rfl⟩:=eG hd;obtain⟨k,s1,f',M,h',e,N,st',U,V,Y,h4,I⟩:=xU (h a hp);have hI:=Ygt hT hy ht hH k
 have fin:∀ (E:St),(Fi ⟨N,E⟩ F.res).map Dz=some (r a)→(∀ xs,DI ⟨N,E⟩ F.res=some xs→F.runI G T H k (enc a) []=some (Dz xs,E))→Calls P f vs.toArray w fun e w'=>∃ v g',e=.returned v∧RepV w' g' [] (r a) v∧purR (r a)=true∧ImLe w g w' g'∧(∀ b o,g'.Im b o→g.Im b o∨w.heap.size≤b)∧
   (∀ b o,g'.Im b o→(w'.cell? ⟨b,o,none⟩).isSome=true)∧Below w.heap.size w w':=by
  intro E hg J;simp only[Dt]at hg;obtain⟨ys,ad,ae⟩:=hg;obtain⟨xs,q1,q2⟩:=ZP ad;rw[← ae];exact yMz hI (J xs q1) q2 w g vs hG ab hlen O
 unfold Pq at I
 cases e with
 |next=>exact fin st' I fun xs J=>by simp only[PFD.runI,U,V,Y,h4 k (AE _),J,Ag]
 |ret=>exact fin st' I fun xs J=>by simp only[PFD.runI,U,V,Y,h4 k (AE _),J,Ag]
 |exit id=>exact I.elim
 |panic t dd=>
  simp only at I;unfold on at I
  split at I
  case h_2=>exact I.elim
  rename_i E h6;exact fin E I fun xs J=>by simp only[PFD.runI,U,V,Y,h4 k (AE _),h6,J,Ag]
theorem yGn(I:Dq P il f hints=some F)(J:TblOK P G T){sx:List D→St→Option (Nat×D×St)}
  (h:∀ ds st r,sx ds st=some r→@wW G T F.code (C3 ds) st ⟨@LX ⟨fun t d st'=>(t,d,st')=r⟩⟩) (M:T.y=fun _ _ _=>none:=by rfl):O8 P G f sx:=by
 refine⟨(me J M I 0).1,?_⟩;intro base w g st st' ds vs t d N U V hl E;obtain⟨k,t1,d1,st1,Y,O⟩:=xV (Ir (h ds st _ N));simp only[Di]at O;obtain⟨rfl,rfl,rfl⟩:=O;exact(me J M I k).2 base w g st _ ds vs _ _ (Y k (AE _)) U V hl E
theorem Xh(E:Dq P il f hints=some F)(I:TblOK P G T)
  (h:∀ ds st r,sp ds st=some r→@wW G T F.code (C3 ds) st ⟨@Gm F.res ⟨fun d st'=>(Hj st.length d,cut st.length st')=r⟩⟩) (J:T.y=fun _ _ _=>none:=by rfl):IContract P G f sp:=by
 refine nW I E (fun ds st x M=>?_) J;obtain⟨fuel,d,st',N,O⟩:=Z0 (Ir (h ds st x M));refine⟨fuel,?_⟩;unfold dropped;grind
theorem IB(I:Dq P il f hints=some F)(J:TblOK P G T)
  (h:∀ ds st r,sp ds st=some r→@wW G T F.code (C3 ds) st ⟨@Gm F.res ⟨fun d st'=>(d,st')=r⟩⟩) (M:T.y=fun _ _ _=>none:=by rfl):IContract P G f sp:=by
 refine⟨(VN J M I 0).1,?_⟩;intro base w g st st' ds vs d N U V hl E;obtain⟨k,d1,st1,Y,O⟩:=Z0 (Ir (h ds st _ N));simp only[Di]at O;obtain⟨rfl,rfl⟩:=O;exact(VN J M I k).2 base w g st _ ds vs _ (Y k (AE _)) U V hl E
theorem Contract.or{sp E I:List D→Option D}(J:Contract P G f E)(M:Contract P G f I)(h:∀ ds d,sp ds=some d→E ds=some d∨I ds=some d):Contract P G f sp:=by
 intro w g ds vs d N;rcases h ds d N with h | h
 ·exact J w g ds vs d h
 ·exact M w g ds vs d h
theorem IContract.or{E I:List D→St→Option (D×St)}(M:IContract P G f E)(O:IContract P G f I)(h:∀ ds st r,sp ds st=some r→E ds st=some r∨I ds st=some r):IContract P G f sp:=by
 refine⟨M.1,?_⟩;intro base w g st st' ds vs d N;rcases h ds st _ N with J | J
 ·exact M.2 base w g st st' ds vs d J
 ·exact O.2 base w g st st' ds vs d J
def H4(sp:List D→Option D)(ds:List D)(st:St):Option (D×St):=match DZ st ds with
 |some vs=>match sp vs with
  |some r=>some (r,if r.noRef then st else PI.lend (ds.flatMap keys) st)
  |none=>none
 |none=>none
theorem Contract.toI{sp:List D→Option D}(h:Contract P G f sp){fn:Func}(hfn:P.funcs[f]?=some fn)(hb:fn.body.isSome=true)(hname:(fn.name == "runtime.NumGoroutine")=false):IContract P G f (H4 sp):=by
 refine⟨⟨fn,hfn,hb,hname⟩,?_⟩;intro base w g st st' ds vs d hsp hS hG hl hrep;unfold H4 at hsp
 split at hsp
 case h_2=>cases hsp
 rename_i ys hi
 split at hsp
 case h_2=>cases hsp
 rename_i r hr;simp only[CX,Di]at hsp;obtain⟨rfl,rfl⟩:=hsp;obtain⟨g1,hgo,_,hyl,hpure,hyr⟩:=Qx hS hi;have hc:=h w g1 ys vs r hr (hG.mono hgo.im) hgo.sr.im (hyl.trans hl) (fun i y v hy hv=>(hyr i y v hy (fun d hd=>hrep i d v hd hv)).purA (ImLe.refl _ _) (hpure y (Aq hy))) hpure;refine hc.mono ?_;rintro e w' ⟨v,g',rfl,h1,h2,h3,h4,h5,h6⟩;have hbes:Beside w w':=⟨h6.os,h6.tape,h6.output,h6.size⟩
 by_cases hnr:r.noRef=true
 ·refine⟨v,{g with Im:=g.Im},rfl,?_,by rw[if_pos hnr]; exact oI h1 hnr⟩;rw[if_pos hnr];refine hS.more hbes h6.block (fun _ _ h=>h) (fun _ _ h=>.inl h) (fun b o hb=>?_);have:w'.cell? ⟨b,o,none⟩=w.cell? ⟨b,o,none⟩:=by simp only[World.cell?,h6.block b (hS.im_lt hb)]
  rw[this]; exact hS.im b o hb
 ·refine⟨v,{g1 with Im:=g'.Im},rfl,?_,?_⟩
  ·rw[if_neg hnr];exact hgo.trans (hgo.sr.more hbes h6.block (fun b o h=>(h3.im b o h).1) (fun b o h=>h4 b o h) h5)
  ·exact RepV.purR (g:=g') (g':={g1 with Im:=g'.Im}) ⟨fun b o h=>⟨h,rfl⟩,fun _ _ h _=>h⟩ h1 h2
def Uk:Tbl:={p:=fun _=>none,i:=fun _=>none,m:=fun _=>none}
theorem Ys1:TblOK P G Uk:=⟨fun _ _ h=>(by cases h),fun _ _ h=>(by cases h),fun _ _ h=>(by cases h),fun _ _ h=>(by cases h),fun _ _ h=>(by cases h),fun _ _ h=>(by cases h)⟩
structure PH where
 t:Nat
 js:List Nat
 vs:Nat
 l:List PI
 deriving Inhabited
def SI(fr:Frame):List Nat→Frame
 |[]=>fr
 |s::l=>SI (fr.set s .junk) l
def PH.run(G:C9)(F:PH):Nat→D→List D→St→Option St:=fun t d das st=>
 if t=F.t∧KB d=true then(ED G Uk F.l ⟨(SI (C3 das) F.js).set F.vs d,st⟩).map (·.st)else none
def Jk(P:Program)(n:Nat):Code→Option (List PI)
 |.region _ ops false=>Fm P [] n ops ops.toList
 |.seq a b=>match Jk P n a,Jk P n b with
  |some x,some y=>some (x++y)
  |_,_=>none
 |.skip=>some []
 |_=>none
theorem dC{w0:World}{g0:Ghost}{st0:St}{dl:List Deferred}:∀ (c:Code) (l:List PI) (s s':PS) (a:Act) (w:World) (Q:Exit→Act→World→Prop),Jk P n c=some l→ED G Uk l s=some s'→R G base n w0 g0 st0 dl s a w→
  (∀ J w',R G base n w0 g0 st0 dl s' J w'→J.defers=a.defers→Q .normal J w')→c.wpIn Fence.wide 0 P Q a w
 |.region id ops draw,l,s,s',a,w,Q,E,I,M,N=>by
  cases draw with
  |true=>simp[Jk]at E
  |false=>exact wpIn_region_list (od (r:=none) Ys1 YOK.none _ _ s s' a w E I M N)
 |.seq x y,l,s,s',a,w,Q,E,I,M,N=>by
  simp only[Jk]at E
  split at E
  case h_2=>cases E
  rename_i lx ly h1 h2;simp only[CX]at E;subst E;rw[aZ,Ay]at I;obtain⟨s1,O,U⟩:=I;refine wpIn_seq (dC x lx s s1 a w _ h1 O M fun J w' V Y=>?_);exact dC y ly s1 s' J w' _ h2 U V fun a2 w2 aa ab=>N a2 w2 aa (ab.trans Y)
 |.skip,l,s,s',a,w,Q,E,I,M,N=>by
  simp only[Jk,CX]at E;subst E;simp only[ED,CX]at I;subst I;exact wpIn_skip (N a w M rfl)
 |.cond _ _ _,_,_,_,_,_,_,E,_,_,_=>by simp[Jk]at E
 |.block _ _,_,_,_,_,_,_,E,_,_,_=>by simp[Jk]at E
 |.loop _,_,_,_,_,_,_,E,_,_,_=>by simp[Jk]at E
 |.exit _,_,_,_,_,_,_,E,_,_,_=>by simp[Jk]at E
 |.ret,_,_,_,_,_,_,E,_,_,_=>by simp[Jk]at E
 |.rangeFunc _ _ _ _,_,_,_,_,_,_,E,_,_,_=>by simp[Jk]at E
 |.scope _,_,_,_,_,_,_,E,_,_,_=>by simp[Jk]at E
 |.label _,_,_,_,_,_,_,E,_,_,_=>by simp[Jk]at E
 |.goto _,_,_,_,_,_,_,E,_,_,_=>by simp[Jk]at E
 |.refuse _,_,_,_,_,_,_,E,_,_,_=>by simp[Jk]at E
theorem xW(E:P.underlying T1=some u)(hn:∀ m,u≠.interface m)(I:a.eval x=.iface T1 v){ty xt:TypeId}{pos:String}{after:Array Edge}{guard:Option (Nat×Bool)}(w:World) :
  (execOp a.eval {dst:=dst,op:=.typeAssert x xt T1 true,type:=ty,pos:=pos,after:=after,guard:=guard}).run P w=.ok (.value (.tuple #[v,.bool true])) w:=by
 simp only[execOp,I,Instr.typeAssert,Sem.run_bind,run_underlying E,Result.andThen_ok];rfl
theorem xX(E:P.underlying T1=some u)(hn:∀ m,u≠.interface m){i:TypeInfo}{z:Value}(hi:P.info? T1=some i)(I:i.zero=some z)(J:a.eval x=.nilIface){ty xt:TypeId}{pos:String}{after:Array Edge}{guard:Option (Nat×Bool)}(w:World) :
  (execOp a.eval {dst:=dst,op:=.typeAssert x xt T1 true,type:=ty,pos:=pos,after:=after,guard:=guard}).run P w=.ok (.value (.tuple #[z,.bool false])) w:=by
 have M:(zeroValue T1).run P w=.ok z w:=by simp[zeroValue,typeInfo,hi,I]
 simp only[execOp,J,Instr.typeAssert,Sem.run_bind,run_underlying E,Result.andThen_ok];simp_all
theorem yd{d:D}(h:Ow d=true):RepV w g st d (LS d):=by
 cases d with
 |int k m=>exact .int k m
 |_=>simp[Ow]at h
theorem yQv{d:D}(h:KB d=true):RepV w g st d (F7 d):=by
 cases d with
 |int k m=>exact .int k m
 |agg l=>
  refine .agg l _ (by simp) fun i d v E hv=>?_;rw[AJ,E]at hv;simp only[Ag,CX]at hv;subst hv;exact yd (Aj.1 h _ (Aq E))
 |_=>simp[KB,Ow]at h
theorem KN{r:Nat}(h:r<a.tmps.size):(a.put (some r) v).eval (.tmp r)=v:=by
 simp[Act.put,Act.eval,h]
theorem SF{r s:Nat}(h:r≠s):(a.put (some s) v).eval (.tmp r)=a.eval (.tmp r):=by
 have E:¬ s=r:=fun e=>h e.symm;simp[Act.put,Act.eval,Array.getD_eq_getD_getElem?,E]
theorem J3(a:Act)(r:Nat)(v:Value):(a.put (some r) v).tmps.size=a.tmps.size:=by simp[Act.put]
theorem iz{o:Oper}{w:World}(h:o.op=.call {callee:=.builtin .recover,args:=#[],argTypes:=#[]}):(execOp a.eval o).run P w=.ok .recover w:=by
 simp only[execOp,h];rfl
theorem Ydb{vs:List Value}{m:Nat}(M:ds.length=vs.length)(E:∀ (i:Nat) d v,ds[i]?=some d→vs[i]?=some v→RepV w g st d v) :
  FR w g st (C3 ds) {tmps:=vs.toArray++CL (m - vs.toArray.size) undef,defers:=[]}∧m≤(vs.toArray++CL (m - vs.toArray.size) undef).size:=by
 refine⟨?_,by simp; omega⟩;intro s;simp only[C3];rcases A6 s ds.length with I | I
 ·have J:s<vs.length:=by omega
  have N:(vs.toArray++CL (m - vs.toArray.size) undef).getD s undef=vs[s]:=by
   simp[Array.getD,J];omega
  rw[N];have:=E s ds[s] vs[s] (by simp[I]) (by simp[J]);grind
 ·simp[Ao,Bz I];exact .junk _
def bG(P:Program)(t:TypeId):Bool:=match P.underlying t with
 |some (.interface _) | none=>false
 |some _=>true
theorem yMm{t:TypeId}(h:bG P t=true):∃ u,P.underlying t=some u∧∀ m,u≠.interface m:=by
 unfold bG at h;grind
end
end Go.Proofs.YtijnglngaogdjaaGreatDoor.PI
namespace Go.Proofs.YtijnglngaogdjaaGreatDoor.PI
open Go Go.RowKit
structure PFE where
 init:PC
 tail:PFD
 deriving Inhabited
noncomputable def PFD.from(G:C9) (T:Tbl) (H:HX) (F:PFD) (fuel:Nat) (s:PS):Option (D×St):=
 match ED G T F.pre s with
 |some s1=>match MK (De G s1.fr F.hf) (F.ha.map (De G s1.fr))with
  |some (f,das)=>match H f with
   |some h=>match F.code.exec G T fuel s1 with
    |some (.next,s) | some (.ret,s)=>(DI s F.res).map fun l=>(Dz l,s.st)
    |some (.panic t d,s)=>match h t d das s.st with
     |some st3=>(DI ⟨s.fr,st3⟩ F.res).map fun l=>(Dz l,st3)
     |none=>none
    |_=>none
   |none=>none
  |none=>none
 |none=>none
noncomputable def PFE.runI(G:C9)(T:Tbl)(H:HX)(F:PFE)(fuel:Nat)(ds:List D)(st:St):Option (D×St):=
 match F.init.exec G T fuel {fr:=C3 ds,st} with
 |some (.next,s)=>F.tail.from G T H fuel s
 |some (.ret,s)=>(DI s F.tail.res).map fun l=>(Dz l,s.st)
 |_=>none
section
variable {P:Program} {G:C9} {T:Tbl} {il:List Nat}
def gL(G:C9)(T:Tbl)(F:PFD)(H:HX)(Kr:Frame→St→Prop)(K:(Nat→D→List D→St→Option St)→List D→Ex→Frame→St→Prop)(e:Ex)(fr:Frame)(st:St):Prop:=match e with
 |.next=>@Hd G T F.pre fr st ⟨fun fr1 st1=>@on _ (MK (De G fr1 F.hf) (F.ha.map (De G fr1))) ⟨fun p=>@on _ (H p.1) ⟨fun h=>@wW G T F.code fr1 st1 ⟨K h p.2⟩⟩⟩⟩
 |.ret=>Kr fr st
 |_=>False
theorem yQ0(G:C9)(T:Tbl)(F:PFD)(H:HX)(E:Frame→St→Prop)(K:(Nat→D→List D→St→Option St)→List D→Ex→Frame→St→Prop)(fr:Frame)(st:St) :
  gL G T F H E K .next fr st=@Hd G T F.pre fr st ⟨fun fr1 st1=>@on _ (MK (De G fr1 F.hf) (F.ha.map (De G fr1))) ⟨fun p=>@on _ (H p.1) ⟨fun h=>@wW G T F.code fr1 st1 ⟨K h p.2⟩⟩⟩⟩:=(rfl)
theorem yF(G:C9)(T:Tbl)(F:PFD)(H:HX)(E:Frame→St→Prop)(K:(Nat→D→List D→St→Option St)→List D→Ex→Frame→St→Prop)(fr:Frame)(st:St):gL G T F H E K .ret fr st=E fr st:=(rfl)
end
attribute [irreducible] gL
attribute [push_cast] yQ0 yF
end Go.Proofs.YtijnglngaogdjaaGreatDoor.PI
