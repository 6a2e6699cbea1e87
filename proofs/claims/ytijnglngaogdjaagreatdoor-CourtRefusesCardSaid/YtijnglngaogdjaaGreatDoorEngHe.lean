/-
  A function that, behind a test, puts off a call which recovers: its contract out of what its code comes to.
  Conditions: none; these are definitions and lemmas.
-/
import Derived.Test.YtijnglngaogdjaaGreatDoorEngB2
import Derived.Test.YtijnglngaogdjaaGreatDoorEngR
import Derived.Laws.Cover3
import Derived.RecoverIn
open Array renaming replicate→CN
set_option linter.unusedVariables false
set_option linter.unusedSimpArgs false
namespace Go.Proofs.YtijnglngaogdjaaGreatDoor.PI
open Go
noncomputable def QZ(tys:List Ty):List D→Option D:=fun xs=>@ite _ (HasAll tys xs) (Classical.propDecidable _) (some (.bool true)) none
variable {xs:List D}{tys:List Ty}
theorem lawSp_true(h:HasAll tys xs):QZ tys xs=some (.bool true):=by
 unfold QZ; rw[if_pos h]
variable {d:D}
theorem wq(h:QZ tys xs=some d):HasAll tys xs∧d=.bool true:=by
 unfold QZ at h;grind
variable {F:PF}{hints:List (List Nat)}{f:Nat}{il:List Nat}{T:Tbl}{G:Db}{P:Program}
theorem gn(E:Ds P il f hints=some F)(I:TblOK P G T)
  (h:∀ xs,HasAll tys xs→@wW G T F.code (C4 xs) [] ⟨Dg F.res (.bool true)⟩) (J:T.y=fun _ _ _=>none:=by rfl):Contract P G f (QZ tys):=by
 refine mO I J E fun ds d M=>?_;obtain⟨N,rfl⟩:=wq M;exact m5 (IC (h ds N))
variable {t:Ty}
theorem SH{E:List Ty}(h:HasAll (t::E) xs):∃ x r,xs=x::r∧Has t x∧HasAll E r:=by
 cases h with
 |cons I J=>exact⟨_,_,rfl,I,J⟩
theorem zq(h:HasAll [] xs):xs=[]:=by
 cases h; rfl
theorem mP(h:Has .bool d):∃ b,d=.bool b:=by
 cases h with
 |bool b=>exact⟨b,rfl⟩
theorem Gp(h:Has (.int .i64) d):∃ n:Int,d=.int .i64 n∧-9223372036854775808≤n∧n<9223372036854775808:=by
 cases h with
 |int k n hw=>
  refine⟨n,rfl,?_⟩;simp[Lit.wf,IntKind.min,IntKind.max,IntKind.signed,IntKind.bits]at hw;omega
theorem Yvc(h:Has (.int .u8) d):∃ b:UInt8,d=Dc b:=by
 cases h with
 |int k n hw=>
  simp[Lit.wf,IntKind.min,IntKind.max,IntKind.signed,IntKind.bits]at hw;refine⟨UInt8.ofNat n.toNat,?_⟩;simp[Dc];omega
theorem Wj{α:Type}{f:α→D}:∀ {els:List D},(∀ x∈els,∃ a,x=f a)→∃ l:List α,els=l.map f
 |[],_=>⟨[],rfl⟩
 |e::r,h=>by
  obtain⟨a,ha⟩:=h e (by simp);obtain⟨l,hl⟩:=Wj (f:=f) (els:=r) fun x E=>h x (by simp[E]);exact⟨a::l,by rw[ha,hl]; rfl⟩
variable {α:Type}
theorem YY{f:α→D}{e:Ty}(I:∀ x,Has e x→∃ a,x=f a)(h:Has (.slc e) d):∃ l:List α,d=.slc (nz e.size (l.map f)) (l.map f) false∧l.length≤maxLen:=by
 cases h with
 |slc _ els J M=>
  obtain⟨l,rfl⟩:=Wj (f:=f) (els:=els) fun x E=>by
   obtain⟨i,hi⟩:=Ch E;grind
  grind
theorem OU(h:Has (.agg (List.replicate 32 (.int .u8))) d):∃ x,d=C0 x:=by
 cases h with
 |agg _ xs N I=>
  obtain⟨l,rfl⟩:=Wj (f:=Dc) (els:=xs) fun x J=>by
   obtain⟨i,hi⟩:=Ch J
   have E:i<32:=by
    grind
   exact Yvc (I i (.int .u8) x (by rw[List.getElem?_replicate,if_pos E]) hi)
  have hl:l.length=32:=by
   grind
  refine⟨⟨l,hl⟩,?_⟩
  have:∀ l:List UInt8,(l.map Dc).flatMap D.cells=l.map Dc:=by
   intro l
   induction l with
   |nil=>rfl
   |cons a r M=>simp only[Ax,At,M]; rfl
  rw[this];rfl
theorem O9{u:Ty}(h:Has (.agg [t,u]) d):∃ x y,d=.agg (x.cells++y.cells)∧Has t x∧Has u y:=by
 cases h with
 |agg _ xs I E=>
  match xs,I with
  |[x,y],_=>exact⟨x,y,by simp,E 0 t x rfl rfl,E 1 u y rfl rfl⟩
theorem Yg1{u v:Ty}(h:Has (.agg [t,u,v]) d):∃ x y z,d=.agg (x.cells++(y.cells++z.cells))∧Has t x∧Has u y∧Has v z:=by
 cases h with
 |agg _ xs I E=>
  match xs,I with
  |[x,y,z],_=>exact⟨x,y,z,by simp,E 0 t x rfl rfl,E 1 u y rfl rfl,E 2 v z rfl rfl⟩
noncomputable def HO{α:Type}(enc:α→List D×St)(pre:α→Prop)(f:α→D×St):List D→St→Option (D×St):=
 fun ds st=>@dite _ (∃ a,enc a=(ds,st)∧pre a) (Classical.propDecidable _) (fun h=>some (f h.choose)) (fun _=>none)
variable {st:St}{ds:List D}
theorem fi{enc:α→List D×St}{pre:α→Prop}{f:α→D×St}{r:D×St}(h:HO enc pre f ds st=some r):∃ a,enc a=(ds,st)∧pre a∧f a=r:=by
 unfold HO at h
 split at h
 ·rename_i E;simp only[C3]at h;exact⟨E.choose,E.choose_spec.1,E.choose_spec.2,h⟩
 ·cases h
theorem R3{enc:α→List D×St}{pre:α→Prop}{f:α→D×St}(E:∀ a b,enc a=enc b→f a=f b)(a:α)(M:pre a)(I:enc a=(ds,st)):HO enc pre f ds st=some (f a):=by
 have J:∃ b,enc b=(ds,st)∧pre b:=⟨a,I,M⟩;unfold HO;rw[dif_pos J];rw[E _ _ (J.choose_spec.1.trans I.symm)]
variable {sp:List D→St→Option (D×St)}
theorem n6(I:TblOK P G T)(J:Ds P il f hints=some F)
  (h:∀ ds st r,sp ds st=some r→∃ fuel,dropped (F.runI G T fuel) ds st=some r) (M:T.y=fun _ _ _=>none:=by rfl):IContract P G f sp:=by
 refine⟨(We I M J 0).1,?_⟩;intro base w g st st' ds vs d N O U hl E;obtain⟨fuel,hf⟩:=h ds st _ N;exact(We I M J fuel).dropped.2 base w g st st' ds vs d hf O U hl E
theorem bw(J:Ds P il f hints=some F)(M:TblOK P G T){enc:α→List D×St}{pre:α→Prop}{r:α→D×St}
  (h:∀ a,pre a→@wW G T F.code (C4 (enc a).1) (enc a).2 ⟨@Gs F.res ⟨fun d st'=>(Hn (enc a).2.length d,cut (enc a).2.length st')=r a⟩⟩) (N:T.y=fun _ _ _=>none:=by rfl):IContract P G f (HO enc pre r):=by
 refine n6 M J (fun ds st x O=>?_) N;obtain⟨a,ha,U,rfl⟩:=fi O;obtain⟨fuel,d,st',E,I⟩:=ZZ (IC (h a U));rw[ha]at E I;refine⟨fuel,?_⟩;unfold dropped;rw[E fuel (AE _)];exact congrArg some I
def Mo(k:Nat)(o:Obj):Obj:={o with els:=if o.row then o.els else o.els.map (G3 k)}
def IA(k:Nat):Nat→St→St
 |0,_=>[]
 |_+1,[]=>[]
 |n+1,o::st=>Mo k o::IA k n st
theorem tK(k:Nat):∀ (n:Nat) (st:St),IA k n st=(st.take n).map (Mo k)
 |0,_=>by simp[IA]
 |n+1,[]=>by simp[IA]
 |n+1,o::st=>by simp[IA,tK k n st]
theorem Yvw(k:Nat)(st:St):cut k st=IA k k st:=by
 rw[tK]; rfl
theorem Yal(k:Nat)(st:St):IA k 0 st=[]:=by simp[IA]
theorem Yam(k n:Nat)(o:Obj)(st:St):IA k (n+1) (o::st)=Mo k o::IA k n st:=(rfl)
theorem Yhq(k sz:Nat)(els:List D)(lent:Bool):Mo k ⟨true,sz,els,lent⟩=⟨true,sz,els,lent⟩:=(rfl)
theorem Yhr(k sz:Nat)(els:List D)(lent:Bool):Mo k ⟨false,sz,els,lent⟩=⟨false,sz,els.map (G3 k),lent⟩:=(rfl)
theorem Yfx(n:Nat)(k:IntKind)(m:Int):Gb n (.int k m)=.int k m:=(rfl)
theorem wH(n:Nat)(b:Bool):Gb n (.bool b)=.bool b:=(rfl)
theorem Yfv(n sz:Nat)(els:List D)(t:Bool):Gb n (.slc sz els t)=.slc sz els t:=(rfl)
theorem Yfw(n key tot off len:Nat):Gb n (.row key tot off len)=if key<n then .row key tot off len else .junk:=(rfl)
theorem Ync(n:Nat)(k:IntKind)(m:Int):G3 n (.int k m)=.int k m:=(rfl)
theorem Yfs(n:Nat)(b:Bool):G3 n (.bool b)=.bool b:=(rfl)
theorem Ym9(n sz:Nat)(els:List D)(t:Bool):G3 n (.slc sz els t)=.slc sz els t:=(rfl)
theorem Yna(n key tot off len:Nat):G3 n (.row key tot off len)=if key<n then .row key tot off len else .junk:=(rfl)
theorem Ynb(n key off:Nat):G3 n (.ptr key off)=if key<n then .ptr key off else .junk:=(rfl)
theorem Yfr(n key:Nat):G3 n (.mapv key)=if key<n then .mapv key else .junk:=(rfl)
theorem wI(n:Nat):Hn n (.tup [])=.tup []:=(rfl)
theorem Yu9(f:Nat)(l:List D):hk (.clo f l)=l.flatMap FV:=(rfl)
theorem Yov(key off:Nat):FV (.ptr key off)=[key]:=(rfl)
theorem Ymf(n:Nat)(σ:List Nat)(f:Nat)(l:List D):Ef n σ (.clo f l)=.clo f (l.map (F9 n σ)):=(rfl)
theorem Yeu(n:Nat)(σ:List Nat)(key off:Nat):F9 n σ (.ptr key off)=IH (fun k=>.ptr k off) (EA n σ key):=(rfl)
attribute [push_cast] Ync Yfs Ym9 Yna Ynb Yfr
attribute [push_cast] Yvw Yal Yam Yhq Yhr Yfx wH Yfv Yfw wI Yu9 Yov Ymf Yeu
set_option linter.unusedSimpArgs false
set_option linter.unusedVariables false
variable {e:TypeId}
section
variable {P:Program} {G:Db} {T:Tbl} {il:List Nat}
theorem Yl2{w:World}{g:Ghost}{sz:Nat}{els:List D}{t:Bool}{v:Value}(h:RepV w g st (.slc sz els t) v):∃ a n cap,v=.slice a n cap∧(els≠[]→a.isNone=false):=by
 cases h with
 |slcE _ _ a cap h=>exact⟨a,0,cap,rfl,fun h=>absurd rfl h⟩
 |slc _ _ b off cap _ val E=>exact⟨_,_,_,rfl,fun _=>rfl⟩
theorem ze{t:TypeId}(E:P.underlying t=some (.slice e))(w:World)(a:Option Addr)(n cap:Nat):(binOp .eql t (.slice a n cap) (.slice none 0 0)).run P w=.ok (.bool a.isNone) w:=by
 have he:(Op.equal t (.slice a n cap) (.slice none 0 0)).run P w=.ok a.isNone w:=run_equalIn_slice_nil w 9999 t e a n cap E;simp[binOp,he]
theorem Yht(hT:TblOK P G T)(hy:T.y=fun _ _ _=>none){id1:Nat}{fn:Func}{c0 A B:Code}{o1 o2:Oper}{t3 t4:Nat}{tS:TypeId}{l0:List PI}{pA pB:PC}{res:List PRes}
  (hfn:P.funcs[f]?=some fn) (hname:(fn.name == "runtime.NumGoroutine")=false) (hc:fn.body=some (.seq c0 (.seq (.seq (.region id1 #[o1,o2] false) (.cond (.tmp t4) A .skip)) B)))
  (h0:Hi P il fn.ntmps [] c0=some (.ops l0,[])) (hA:Hi P il fn.ntmps [] A=some (pA,[])) (hB:Hi P il fn.ntmps [] B=some (pB,[])) (hr:Nu P fn.results.toList=some res)
  (ho1:LG P il fn.ntmps #[o1,o2] o1=some {dst:=some t3,op:=.mov (.s 0)}) (ho2:o2.op=.binOp .eql tS (.tmp t3) (.const (.slice none 0 0)) tS) (hd2:o2.dst=some t4) (hg2:o2.guard=none) (ht4:t4<fn.ntmps)
  (hS:P.underlying tS=some (.slice e)) 
  (hsp:∀ ds st d st',sp ds st=some (d,st')→∃ sz els t fr0,ds=[.slc sz els t]∧EK G T l0 ⟨C4 ds,st⟩=some ⟨fr0,st⟩∧fr0 0=.slc sz els t∧
   (els=[]→∃ fuel sA xs,pA.exec G T fuel ⟨(fr0.set t3 (.slc sz els t)).set t4 (.bool true),st⟩=some (.ret,sA)∧sA.st=st'∧DK sA res=some xs∧∀ w g v,RepV w g st' (DC xs) v→RepV w g st' d v)∧
   (∃ fuel sB xs,pB.exec G T fuel ⟨(fr0.set t3 (.slc sz els t)).set t4 (.bool false),st⟩=some (.ret,sB)∧sB.st=st'∧DK sB res=some xs∧∀ w g v,RepV w g st' (DC xs) v→RepV w g st' d v)):IContract P G f sp:=by
 refine⟨⟨fn,hfn,by rw[hc]; rfl,hname⟩,?_⟩;intro base w g st st' ds vs d hx hSR hG hlen hrep
 have hR0:R G base fn.ntmps w g st [] {fr:=C4 ds,st} {tmps:=vs.toArray++CN (fn.ntmps - vs.toArray.size) undef,defers:=[]} w:=by
  refine⟨g,Go1.refl hSR,?_,hG,⟨[],rfl,trivial⟩,?_⟩
  ·intro s;simp only[C4];rcases A6 s ds.length with h1 | h1
   ·have h2:s<vs.length:=by omega
    have h3:(vs.toArray++CN (fn.ntmps - vs.toArray.size) undef).getD s undef=vs[s]:=by
     simp[Array.getD,h2];intro h4;omega
    rw[h3];have:=hrep s ds[s] vs[s] (by simp[h1]) (by simp[h2]);simpa[Ao,h1]using this
   ·simp[Ao,Bz h1];exact .junk _
  ·simp; omega
 obtain⟨sz,els,t,fr0,rfl,e0,e1,eA,eB⟩:=hsp _ _ _ _ hx;have hY:YOK P G T.y base w g st:=by rw[hy]; exact YOK.none
 refine callsIn_wide.1 (callsIn_of_wp_marks (F:=Fence.wide) (n:=0) hfn hc trivial ?_)
 have fin:∀ (s':PS) (xs:List D),s'.st=st'→DK s' res=some xs→(∀ w g v,RepV w g st' (DC xs) v→RepV w g st' d v)→∀ a' w',R G base fn.ntmps w g st [] s' a' w'→
   LeavesInM Fence.wide 0 P fn a'.tmps (fun e w'=>∃ v g',e=.returned v∧Go1 base w g st w' g' st'∧RepV w' g' st' d v) a'.defers .returning w':=by
  rintro s' xs rfl hx1 hw a' w' ⟨g1,h⟩;obtain⟨dd,hd1,hd2⟩:=h.df;rw[hd1,Ad];refine Sp hSR.size dd w' h.go1 h.fr hd2 fun w2 hgo hF=>?_;obtain⟨us,e1,e2,e3⟩:=Qx hgo.sr hF hr hx1;exact⟨_,Xf e3,_,g1,rfl,hgo,hw _ _ _ (RR e1 e2)⟩
 refine wpIn_seq (Na hT c0 none (.inl rfl) w g st [] hY hSR.size [] _ h0 0 _ ⟨fr0,st⟩ .next (by simp only[PC.exec,e0]) _ w _ hR0 fun a1 w1 hR1=>?_);refine wpIn_seq (wpIn_seq (wpIn_region_list ?_));refine RZ (r:=none) hT hY hR1 ho1 (s':=⟨fr0.set t3 (.slc sz els t),st⟩) (by simp[PI.exec,PI.step,PI.wanted,POp.exec,Dh,e1,Frame.set,Frame.put]) fun a2 w2 hR2=>?_;obtain⟨g2,h2⟩:=id hR2;have hv:RepV w2 g2 st ((fr0.set t3 (.slc sz els t)) t3) (a2.tmps.getD t3 undef):=h2.fr t3;have hset:(Frame.set fr0 t3 (.slc sz els t)) t3=.slc sz els t:=by simp[Frame.set]
 rw[hset]at hv;obtain⟨a,n,cap,hva,hne⟩:=Yl2 hv;obtain⟨dst2,op2,ty2,pos2,after2,guard2⟩:=o2;dsimp only at ho2 hd2 hg2;subst ho2 hd2 hg2;have hw2:∀ y,Region.wanted (⟨some t4,.binOp .eql tS (.tmp t3) (.const (.slice none 0 0)) tS,ty2,pos2,after2,none⟩:Oper) y=true:=fun y=>rfl;have hev:a2.eval (.tmp t3)=.slice a n cap:=hva;have hsz2:t4<a2.tmps.size:=AY ht4 h2.sz
 show(if Region.wanted _ _=true then _ else _)
 rw[hw2,if_pos rfl];refine Pp (by intro c h; cases h) ?_;refine FL (d:=.bool a.isNone) (s:=do eqGuard .eql tS (.tmp t3) (.const (.slice none 0 0)) (a2.eval (.tmp t3)) (a2.eval (.const (.slice none 0 0))); binOp .eql tS (a2.eval (.tmp t3)) (a2.eval (.const (.slice none 0 0)))) h2.sr rfl ?_ (.bool _) ?_
 ·simp only[Sem.run_bind,hev,bt .eql tS (.tmp t3) (.const (.slice none 0 0)) (.slice a n cap) (a2.eval (.const (.slice none 0 0))) (fun u e=>by cases e) (fun e=>by cases e),Result.andThen_ok];exact ze hS w2 a n cap
 intro v w3 g3 hgo hrep3
 have hR3:R G base fn.ntmps w g st [] ⟨(fr0.set t3 (.slc sz els t)).set t4 (.bool a.isNone),st⟩ (a2.put (some t4) v) w3:=
  ⟨g3,h2.go hgo ((h2.fr.mono hgo.im hgo.evo).put (dst:=some t4) (fun t e=>by cases e; exact hsz2) hrep3) (Ok ..) (by rw[O7]; exact h2.sz)⟩
 obtain rfl:=KU hrep3
 have hbv:(a2.put (some t4) (.bool a.isNone)).eval (.tmp t4)=.bool a.isNone:=by
  simp[Act.eval,Act.put,hsz2]
 cases hnil:a.isNone with
 |true=>
  rw[hnil]at hbv hR3;have hels:els=[]:=Classical.byContradiction fun h=>by rw[hne h]at hnil; cases hnil
  obtain⟨fuel,sA,xs,x1,x2,x3,x4⟩:=eA hels;refine wpIn_cond_true hbv ?_;refine Na hT A none (.inl rfl) w g st [] hY hSR.size [] _ hA fuel _ sA .ret x1 _ _ _ hR3 fun a4 w4 hR4=>?_;exact fin sA xs x2 x3 x4 a4 w4 hR4
 |false=>
  rw[hnil]at hbv hR3;obtain⟨fuel,sB,xs,x1,x2,x3,x4⟩:=eB;refine wpIn_cond_false hbv (wpIn_skip ?_);refine Na hT B none (.inl rfl) w g st [] hY hSR.size [] _ hB fuel _ sB .ret x1 _ _ _ hR3 fun a4 w4 hR4=>?_;exact fin sB xs x2 x3 x4 a4 w4 hR4
end
end Go.Proofs.YtijnglngaogdjaaGreatDoor.PI
namespace Go.Proofs.YtijnglngaogdjaaGreatDoor.PI
open Go Go.RowKit
variable {v:Value}{ds:List D}{sp:List D→St→Option (D×St)}{f:Nat}{hints:List (List Nat)}{il:List Nat}{F:PF}{dst:Option Tmp}{a:Act}{x:Operand}{u:TypeDesc}{T1:TypeId}
section
variable {P:Program} {G:Db} {T:Tbl} {base n:Nat} {w:World} {g:Ghost} {st:St}
theorem Yfd(h:RepV w g st (DC ds) v):∃ us:List Value,v=ZC us∧ds.length=us.length∧∀ (i:Nat) d u,ds[i]?=some d→us[i]?=some u→RepV w g st d u:=by
 match ds with
 |[d]=>
  refine⟨[v],rfl,rfl,fun i J u E I=>?_⟩
  cases i with
  |zero=>
   simp only[AH,C3]at E I;subst E; subst I;exact h
  |succ i=>simp at E
 |[]=>
  cases h with
  |tup _ vs E I=>
   obtain rfl:vs=[]:=AO E.symm;exact⟨[],rfl,rfl,I⟩
 |a::b::l=>
  cases h with
  |tup _ vs E I=>
   match vs,E with
   |x::y::r,E=>exact⟨x::y::r,rfl,E,I⟩
theorem yNh(h:IContract P G f sp){xs ys:List D}{st':St}(U:sp ds []=some (DC xs,st'))(V:D0 st' xs=some ys) :
  ∀ (w:World) (g:Ghost) (vs:List Value),GlobOK G w g→(∀ b o,g.Im b o→(w.cell? ⟨b,o,none⟩).isSome=true)→ds.length=vs.length→
  (∀ (i:Nat) d v,ds[i]?=some d→vs[i]?=some v→RepV w g [] d v)→
  Calls P f vs.toArray w fun e w'=>∃ v g',e=.returned v∧RepV w' g' [] (DC ys) v∧purR (DC ys)=true∧ImLe w g w' g'∧(∀ b o,g'.Im b o→g.Im b o∨w.heap.size≤b)∧
   (∀ b o,g'.Im b o→(w'.cell? ⟨b,o,none⟩).isSome=true)∧Below w.heap.size w w':=by
 intro w g vs Y M hlen J;have hS:SR w.heap.size w g []:=⟨fun k o h=>by simp at h,fun k o h=>by simp at h,fun k k' o o' h=>by simp at h,M,fun k o x h=>by simp at h,AE _⟩;refine(h.2 w.heap.size w g [] st' ds vs _ U hS Y hlen J).mono ?_;rintro e w' ⟨v,g1,rfl,I,hr⟩;obtain⟨us,rfl,e1,e2⟩:=Yfd hr;obtain⟨g2,N,_,e5,O,e7⟩:=QJ I.sr V;have E:=I.trans N;refine⟨_,g2,rfl,?_,VW O,E.im,E.new,E.sr.im,E.below⟩;have h8:=RR (g:=g2) (w:=w') (ds:=ys) (vs:=us) (by omega) fun i y v hy hv=>e7 i y v hy fun x hx=>e2 i x v hx hv;exact h8.purR (ImLe.refl _ _) (VW O)
theorem yJ2{F:PFD}{H:H9}(ht:Nw P il f hints=some F)(hT:TblOK P G T)(hH:∀ f h,H f=some h→R9 P G f h){α:Type}{enc:α→List D}{pre:α→Prop}{r:α→D}
  (h:∀ a,pre a→PO G T F H (enc a) [] fun h M=>PK h M F.res (r a)) (hy:T.y=fun _ _ _=>none:=by rfl):Contract P G f (Dd enc pre r):=by
 intro w g ds vs d hd hG ab hlen O _;obtain⟨a,rfl,hp,rfl⟩:=fl hd;obtain⟨k,s1,f',M,h',e,N,st',U,V,Y,h4,I⟩:=xG (h a hp);have hI:=Yg9 hT hy ht hH k
 have fin:∀ (E:St),(Fo ⟨N,E⟩ F.res).map DC=some (r a)→(∀ xs,DK ⟨N,E⟩ F.res=some xs→F.runI G T H k (enc a) []=some (DC xs,E))→Calls P f vs.toArray w fun e w'=>∃ v g',e=.returned v∧RepV w' g' [] (r a) v∧purR (r a)=true∧ImLe w g w' g'∧(∀ b o,g'.Im b o→g.Im b o∨w.heap.size≤b)∧
   (∀ b o,g'.Im b o→(w'.cell? ⟨b,o,none⟩).isSome=true)∧Below w.heap.size w w':=by
  intro E hg J;simp only[Dv]at hg;obtain⟨ys,ad,ae⟩:=hg;obtain⟨xs,q1,q2⟩:=fF ad;rw[← ae];exact yNh hI (J xs q1) q2 w g vs hG ab hlen O
 unfold PK at I
 cases e with
 |next=>exact fin st' I fun xs J=>by simp only[PFD.runI,U,V,Y,h4 k (AE _),J,Ah]
 |ret=>exact fin st' I fun xs J=>by simp only[PFD.runI,U,V,Y,h4 k (AE _),J,Ah]
 |exit id=>exact I.elim
 |panic t dd=>
  simp only at I;unfold on at I
  split at I
  case h_2=>exact I.elim
  rename_i E h6;exact fin E I fun xs J=>by simp only[PFD.runI,U,V,Y,h4 k (AE _),h6,J,Ah]
theorem yG6(I:Ds P il f hints=some F)(J:TblOK P G T){sx:List D→St→Option (Nat×D×St)}
  (h:∀ ds st r,sx ds st=some r→@wW G T F.code (C4 ds) st ⟨@Md ⟨fun t d st'=>(t,d,st')=r⟩⟩) (M:T.y=fun _ _ _=>none:=by rfl):Pq P G f sx:=by
 refine⟨(mN J M I 0).1,?_⟩;intro base w g st st' ds vs t d N U V hl E;obtain⟨k,t1,d1,st1,Y,O⟩:=xH (IC (h ds st _ N));simp only[Dk]at O;obtain⟨rfl,rfl,rfl⟩:=O;exact(mN J M I k).2 base w g st _ ds vs _ _ (Y k (AE _)) U V hl E
theorem Xt(E:Ds P il f hints=some F)(I:TblOK P G T)
  (h:∀ ds st r,sp ds st=some r→@wW G T F.code (C4 ds) st ⟨@Gs F.res ⟨fun d st'=>(Hn st.length d,cut st.length st')=r⟩⟩) (J:T.y=fun _ _ _=>none:=by rfl):IContract P G f sp:=by
 refine n6 I E (fun ds st x M=>?_) J;obtain⟨fuel,d,st',N,O⟩:=ZZ (IC (h ds st x M));refine⟨fuel,?_⟩;unfold dropped;grind
theorem IM(I:Ds P il f hints=some F)(J:TblOK P G T)
  (h:∀ ds st r,sp ds st=some r→@wW G T F.code (C4 ds) st ⟨@Gs F.res ⟨fun d st'=>(d,st')=r⟩⟩) (M:T.y=fun _ _ _=>none:=by rfl):IContract P G f sp:=by
 refine⟨(We J M I 0).1,?_⟩;intro base w g st st' ds vs d N U V hl E;obtain⟨k,d1,st1,Y,O⟩:=ZZ (IC (h ds st _ N));simp only[Dk]at O;obtain⟨rfl,rfl⟩:=O;exact(We J M I k).2 base w g st _ ds vs _ (Y k (AE _)) U V hl E
theorem Contract.or{sp E I:List D→Option D}(J:Contract P G f E)(M:Contract P G f I)(h:∀ ds d,sp ds=some d→E ds=some d∨I ds=some d):Contract P G f sp:=by
 intro w g ds vs d N;rcases h ds d N with h | h
 ·exact J w g ds vs d h
 ·exact M w g ds vs d h
theorem IContract.or{E I:List D→St→Option (D×St)}(M:IContract P G f E)(O:IContract P G f I)(h:∀ ds st r,sp ds st=some r→E ds st=some r∨I ds st=some r):IContract P G f sp:=by
 refine⟨M.1,?_⟩;intro base w g st st' ds vs d N;rcases h ds st _ N with J | J
 ·exact M.2 base w g st st' ds vs d J
 ·exact O.2 base w g st st' ds vs d J
def Ie(sp:List D→Option D)(ds:List D)(st:St):Option (D×St):=match D0 st ds with
 |some vs=>match sp vs with
  |some r=>some (r,if r.noRef then st else PI.lend (ds.flatMap keys) st)
  |none=>none
 |none=>none
theorem Contract.toI{sp:List D→Option D}(h:Contract P G f sp){fn:Func}(hfn:P.funcs[f]?=some fn)(hb:fn.body.isSome=true)(hname:(fn.name == "runtime.NumGoroutine")=false):IContract P G f (Ie sp):=by
 refine⟨⟨fn,hfn,hb,hname⟩,?_⟩;intro base w g st st' ds vs d hsp hS hG hl hrep;unfold Ie at hsp
 split at hsp
 case h_2=>cases hsp
 rename_i ys hi
 split at hsp
 case h_2=>cases hsp
 rename_i r hr;simp only[C3,Dk]at hsp;obtain⟨rfl,rfl⟩:=hsp;obtain⟨g1,hgo,_,hyl,hpure,hyr⟩:=QJ hS hi;have hc:=h w g1 ys vs r hr (hG.mono hgo.im) hgo.sr.im (hyl.trans hl) (fun i y v hy hv=>(hyr i y v hy (fun d hd=>hrep i d v hd hv)).purA (ImLe.refl _ _) (hpure y (Aq hy))) hpure;refine hc.mono ?_;rintro e w' ⟨v,g',rfl,h1,h2,h3,h4,h5,h6⟩;have hbes:Beside w w':=⟨h6.os,h6.tape,h6.output,h6.size⟩
 by_cases hnr:r.noRef=true
 ·refine⟨v,{g with Im:=g.Im},rfl,?_,by rw[if_pos hnr]; exact oA h1 hnr⟩;rw[if_pos hnr];refine hS.more hbes h6.block (fun _ _ h=>h) (fun _ _ h=>.inl h) (fun b o hb=>?_);have:w'.cell? ⟨b,o,none⟩=w.cell? ⟨b,o,none⟩:=by simp only[World.cell?,h6.block b (hS.im_lt hb)]
  rw[this]; exact hS.im b o hb
 ·refine⟨v,{g1 with Im:=g'.Im},rfl,?_,?_⟩
  ·rw[if_neg hnr];exact hgo.trans (hgo.sr.more hbes h6.block (fun b o h=>(h3.im b o h).1) (fun b o h=>h4 b o h) h5)
  ·exact RepV.purR (g:=g') (g':={g1 with Im:=g'.Im}) ⟨fun b o h=>⟨h,rfl⟩,fun _ _ h _=>h⟩ h1 h2
def Us:Tbl:={p:=fun _=>none,i:=fun _=>none,m:=fun _=>none}
theorem Yto:TblOK P G Us:=⟨fun _ _ h=>(by cases h),fun _ _ h=>(by cases h),fun _ _ h=>(by cases h),fun _ _ h=>(by cases h),fun _ _ h=>(by cases h),fun _ _ h=>(by cases h)⟩
structure PH where
 t:Nat
 js:List Nat
 vs:Nat
 l:List PI
 deriving Inhabited
def SO(fr:Frame):List Nat→Frame
 |[]=>fr
 |s::l=>SO (fr.set s .junk) l
def PH.run(G:Db)(F:PH):Nat→D→List D→St→Option St:=fun t d das st=>
 if t=F.t∧KL d=true then(EK G Us F.l ⟨(SO (C4 das) F.js).set F.vs d,st⟩).map (·.st)else none
def Js(P:Program)(n:Nat):Code→Option (List PI)
 |.region _ ops false=>Fu P [] n ops ops.toList
 |.seq a b=>match Js P n a,Js P n b with
  |some x,some y=>some (x++y)
  |_,_=>none
 |.skip=>some []
 |_=>none
theorem dL{w0:World}{g0:Ghost}{st0:St}{dl:List Deferred}:∀ (c:Code) (l:List PI) (s s':PS) (a:Act) (w:World) (Q:Exit→Act→World→Prop),Js P n c=some l→EK G Us l s=some s'→R G base n w0 g0 st0 dl s a w→
  (∀ J w',R G base n w0 g0 st0 dl s' J w'→J.defers=a.defers→Q .normal J w')→c.wpIn Fence.wide 0 P Q a w
 |.region id ops draw,l,s,s',a,w,Q,E,I,M,N=>by
  cases draw with
  |true=>simp[Js]at E
  |false=>exact wpIn_region_list (oK (r:=none) Yto YOK.none _ _ s s' a w E I M N)
 |.seq x y,l,s,s',a,w,Q,E,I,M,N=>by
  simp only[Js]at E
  split at E
  case h_2=>cases E
  rename_i lx ly h1 h2;simp only[C3]at E;subst E;rw[bu,Ay]at I;obtain⟨s1,O,U⟩:=I;refine wpIn_seq (dL x lx s s1 a w _ h1 O M fun J w' V Y=>?_);exact dL y ly s1 s' J w' _ h2 U V fun a2 w2 aa ab=>N a2 w2 aa (ab.trans Y)
 |.skip,l,s,s',a,w,Q,E,I,M,N=>by
  simp only[Js,C3]at E;subst E;simp only[EK,C3]at I;subst I;exact wpIn_skip (N a w M rfl)
 |.cond _ _ _,_,_,_,_,_,_,E,_,_,_=>by simp[Js]at E
 |.block _ _,_,_,_,_,_,_,E,_,_,_=>by simp[Js]at E
 |.loop _,_,_,_,_,_,_,E,_,_,_=>by simp[Js]at E
 |.exit _,_,_,_,_,_,_,E,_,_,_=>by simp[Js]at E
 |.ret,_,_,_,_,_,_,E,_,_,_=>by simp[Js]at E
 |.rangeFunc _ _ _ _,_,_,_,_,_,_,E,_,_,_=>by simp[Js]at E
 |.scope _,_,_,_,_,_,_,E,_,_,_=>by simp[Js]at E
 |.label _,_,_,_,_,_,_,E,_,_,_=>by simp[Js]at E
 |.goto _,_,_,_,_,_,_,E,_,_,_=>by simp[Js]at E
 |.refuse _,_,_,_,_,_,_,E,_,_,_=>by simp[Js]at E
theorem xI(E:P.underlying T1=some u)(hn:∀ m,u≠.interface m)(I:a.eval x=.iface T1 v){ty xt:TypeId}{pos:String}{after:Array Edge}{guard:Option (Nat×Bool)}(w:World) :
  (execOp a.eval {dst:=dst,op:=.typeAssert x xt T1 true,type:=ty,pos:=pos,after:=after,guard:=guard}).run P w=.ok (.value (.tuple #[v,.bool true])) w:=by
 simp only[execOp,I,Instr.typeAssert,Sem.run_bind,run_underlying E,Result.andThen_ok];rfl
theorem xJ(E:P.underlying T1=some u)(hn:∀ m,u≠.interface m){i:TypeInfo}{z:Value}(hi:P.info? T1=some i)(I:i.zero=some z)(J:a.eval x=.nilIface){ty xt:TypeId}{pos:String}{after:Array Edge}{guard:Option (Nat×Bool)}(w:World) :
  (execOp a.eval {dst:=dst,op:=.typeAssert x xt T1 true,type:=ty,pos:=pos,after:=after,guard:=guard}).run P w=.ok (.value (.tuple #[z,.bool false])) w:=by
 have M:(zeroValue T1).run P w=.ok z w:=by simp[zeroValue,typeInfo,hi,I]
 simp only[execOp,J,Instr.typeAssert,Sem.run_bind,run_underlying E,Result.andThen_ok];simp_all
theorem yS{d:D}(h:OK d=true):RepV w g st d (L9 d):=by
 cases d with
 |int k m=>exact .int k m
 |_=>simp[OK]at h
theorem yRa{d:D}(h:KL d=true):RepV w g st d (Gf d):=by
 cases d with
 |int k m=>exact .int k m
 |agg l=>
  refine .agg l _ (by simp) fun i d v E hv=>?_;rw[AJ,E]at hv;simp only[Ah,C3]at hv;subst hv;exact yS (Aj.1 h _ (Aq E))
 |_=>simp[KL,OK]at h
theorem KW{r:Nat}(h:r<a.tmps.size):(a.put (some r) v).eval (.tmp r)=v:=by
 simp[Act.put,Act.eval,h]
theorem SG{r s:Nat}(h:r≠s):(a.put (some s) v).eval (.tmp r)=a.eval (.tmp r):=by
 have E:¬ s=r:=fun e=>h e.symm;simp[Act.put,Act.eval,Array.getD_eq_getD_getElem?,E]
theorem Kb(a:Act)(r:Nat)(v:Value):(a.put (some r) v).tmps.size=a.tmps.size:=by simp[Act.put]
theorem iN{o:Oper}{w:World}(h:o.op=.call {callee:=.builtin .recover,args:=#[],argTypes:=#[]}):(execOp a.eval o).run P w=.ok .recover w:=by
 simp only[execOp,h];rfl
theorem Ydq{vs:List Value}{m:Nat}(M:ds.length=vs.length)(E:∀ (i:Nat) d v,ds[i]?=some d→vs[i]?=some v→RepV w g st d v) :
  FR w g st (C4 ds) {tmps:=vs.toArray++CN (m - vs.toArray.size) undef,defers:=[]}∧m≤(vs.toArray++CN (m - vs.toArray.size) undef).size:=by
 refine⟨?_,by simp; omega⟩;intro s;simp only[C4];rcases A6 s ds.length with I | I
 ·have J:s<vs.length:=by omega
  have N:(vs.toArray++CN (m - vs.toArray.size) undef).getD s undef=vs[s]:=by
   simp[Array.getD,J];omega
  rw[N];have:=E s ds[s] vs[s] (by simp[I]) (by simp[J]);grind
 ·simp[Ao,Bz I];exact .junk _
def bY(P:Program)(t:TypeId):Bool:=match P.underlying t with
 |some (.interface _) | none=>false
 |some _=>true
theorem yM6{t:TypeId}(h:bY P t=true):∃ u,P.underlying t=some u∧∀ m,u≠.interface m:=by
 unfold bY at h;grind
end
end Go.Proofs.YtijnglngaogdjaaGreatDoor.PI
namespace Go.Proofs.YtijnglngaogdjaaGreatDoor.PI
open Go Go.RowKit
structure PFE where
 init:PC
 tail:PFD
 deriving Inhabited
noncomputable def PFD.from(G:Db) (T:Tbl) (H:H9) (F:PFD) (fuel:Nat) (s:PS):Option (D×St):=
 match EK G T F.pre s with
 |some s1=>match MT (Dh G s1.fr F.hf) (F.ha.map (Dh G s1.fr))with
  |some (f,das)=>match H f with
   |some h=>match F.code.exec G T fuel s1 with
    |some (.next,s) | some (.ret,s)=>(DK s F.res).map fun l=>(DC l,s.st)
    |some (.panic t d,s)=>match h t d das s.st with
     |some st3=>(DK ⟨s.fr,st3⟩ F.res).map fun l=>(DC l,st3)
     |none=>none
    |_=>none
   |none=>none
  |none=>none
 |none=>none
noncomputable def PFE.runI(G:Db)(T:Tbl)(H:H9)(F:PFE)(fuel:Nat)(ds:List D)(st:St):Option (D×St):=
 match F.init.exec G T fuel {fr:=C4 ds,st} with
 |some (.next,s)=>F.tail.from G T H fuel s
 |some (.ret,s)=>(DK s F.tail.res).map fun l=>(DC l,s.st)
 |_=>none
section
variable {P:Program} {G:Db} {T:Tbl} {il:List Nat}
def gZ(G:Db)(T:Tbl)(F:PFD)(H:H9)(Kr:Frame→St→Prop)(K:(Nat→D→List D→St→Option St)→List D→Ex→Frame→St→Prop)(e:Ex)(fr:Frame)(st:St):Prop:=match e with
 |.next=>@Hh G T F.pre fr st ⟨fun fr1 st1=>@on _ (MT (Dh G fr1 F.hf) (F.ha.map (Dh G fr1))) ⟨fun p=>@on _ (H p.1) ⟨fun h=>@wW G T F.code fr1 st1 ⟨K h p.2⟩⟩⟩⟩
 |.ret=>Kr fr st
 |_=>False
theorem yRf(G:Db)(T:Tbl)(F:PFD)(H:H9)(E:Frame→St→Prop)(K:(Nat→D→List D→St→Option St)→List D→Ex→Frame→St→Prop)(fr:Frame)(st:St) :
  gZ G T F H E K .next fr st=@Hh G T F.pre fr st ⟨fun fr1 st1=>@on _ (MT (Dh G fr1 F.hf) (F.ha.map (Dh G fr1))) ⟨fun p=>@on _ (H p.1) ⟨fun h=>@wW G T F.code fr1 st1 ⟨K h p.2⟩⟩⟩⟩:=(rfl)
theorem ym(G:Db)(T:Tbl)(F:PFD)(H:H9)(E:Frame→St→Prop)(K:(Nat→D→List D→St→Option St)→List D→Ex→Frame→St→Prop)(fr:Frame)(st:St):gZ G T F H E K .ret fr st=E fr st:=(rfl)
end
attribute [irreducible] gZ
attribute [push_cast] yRf ym
end Go.Proofs.YtijnglngaogdjaaGreatDoor.PI
