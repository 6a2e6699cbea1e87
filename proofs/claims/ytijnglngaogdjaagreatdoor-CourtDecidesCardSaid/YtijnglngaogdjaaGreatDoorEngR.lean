/-
  Code and functions: a function whose translation comes to a value meets its contract.
  Conditions: none; these are lemmas.
-/
import Derived.Test.YtijnglngaogdjaaGreatDoorEngP
import Derived.OrdersIn
import Derived.TacticsIn
import Derived.Sort.LoopGhostIn
import Derived.RangeFuncLeaves
import Derived.RangeFuncRecord
open Array renaming replicate→CX
open List renaming range→CS
namespace Go.Proofs.YtijnglngaogdjaaGreatDoor.PI
open Go Go.RowKit
def Like(st st2:St)(k:Nat):Prop:=(st[k]?=none∧st2[k]?=none)∨∃ o o2,st[k]?=some o∧st2[k]?=some o2∧o2.row=o.row∧o2.sz=o.sz∧o2.els=o.els
variable {k:Nat}{st st2:St}
theorem Like.symm(h:Like st st2 k):Like st2 st k:=by
 rcases h with⟨a,b⟩ | ⟨o,o2,a,b,c,d,e⟩
 ·exact .inl ⟨b,a⟩
 ·exact .inr ⟨o2,o,b,a,c.symm,d.symm,e.symm⟩
theorem Like.of_eq(h:st2[k]?=st[k]?):Like st st2 k:=by
 cases hk:st[k]? with
 |none=>exact .inl ⟨hk,by rw[h,hk]⟩
 |some o=>exact .inr ⟨o,o,hk,by rw[h,hk],rfl,rfl,rfl⟩
variable {key:Nat}
theorem fw(h:Like st st2 key)(tot off len:Nat):HR st2 key tot off len=HR st key tot off len:=by
 unfold HR;rcases h with⟨a,b⟩ | ⟨o,o2,a,b,c,d,e⟩
 ·rw[a,b]
 ·grind
theorem vS(h:Like st st2 key)(off n sz:Nat)(ag:Bool):Lv st2 key off n sz ag=Lv st key off n sz ag:=by
 unfold Lv;rcases h with⟨a,b⟩ | ⟨o,o2,a,b,c,d,e⟩
 ·rw[a,b]
 ·grind
theorem j8(h:Like st st2 key)(tot:Nat):E2 st2 key tot=E2 st key tot:=by
 unfold E2;rcases h with⟨a,b⟩ | ⟨o,o2,a,b,c,d,e⟩
 ·rw[a,b]
 ·grind
variable {d:D}
theorem tD(h:∀ k∈DE d,Like st st2 k):DC st2 d=DC st d:=by
 cases d with
 |row key tot off len=>simp only[DC,fw (h key (by simp[DE,GB]))]
 |bsl key off n sz ag=>simp only[DC,Ib,vS (h key (by simp[DE,GB]))]
 |_=>simp only[DC]
theorem tH{st st2:St}:∀ {l:List D},(∀ k∈l.flatMap DE,Like st st2 k)→D3 st2 l=D3 st l
 |[],_=>rfl
 |d::l,h=>by
  simp only[D3];rw[tD (fun k hk=>h k (by simp[hk])),tH (fun k hk=>h k (by rw[Au,AL]; exact .inr hk))]
theorem qu(h:∀ k∈hk d,Like st st2 k):DV st2 d=DV st d:=by
 cases d with
 |agg l=>simp only[DV]; rw[tH h]
 |tup l=>rfl
 |_=>simp only[DV]; exact tD h
theorem YB{st st2:St}:∀ {l:List D},(∀ k∈l.flatMap hk,Like st st2 k)→Em st2 l=Em st l
 |[],_=>rfl
 |d::l,h=>by
  simp only[Em];rw[qu (fun k hk=>h k (by rw[Au,AL]; exact .inl hk)),YB (fun k hk=>h k (by rw[Au,AL]; exact .inr hk))]
theorem yZ0(h:∀ k∈hk d,Like st st2 k):Hh st2 d=Hh st d:=by
 cases d with
 |row key tot off len=>simp only[Hh,fw (h key (by simp[hk,DE,GB]))]
 |bsl key off n sz ag=>simp only[Hh,vS (h key (by simp[hk,DE,GB]))]
 |_=>rfl
theorem Yco(h:∀ k∈hk d,Like st st2 k):Fb st2 d=Fb st d:=by
 cases d with
 |row key tot off len=>simp only[Fb,j8 (h key (by simp[hk,DE,GB]))]
 |_=>rfl
theorem yYf{c:PConv}(h:∀ k∈hk d,Like st st2 k):FJ st2 c d=FJ st c d:=by
 cases d with
 |row key tot off len=>cases c <;> simp only[FJ,fw (h key (by simp[hk,DE,GB]))]
 |_=>cases c <;> simp only[FJ]
variable {sz:Nat}
theorem yQ7{x:D}{lo hi E:Option D}(h:∀ k∈hk x,Like st st2 k):Hb st2 sz x lo hi E=Hb st sz x lo hi E:=by
 cases x with
 |row key tot off len=>
  simp only[Hb];rcases h key (by simp[hk,DE,GB])with⟨a,b⟩ | ⟨o,o2,a,b,c,d,e⟩
  ·rw[a,b]
  ·grind
 |_=>simp only[Hb]
theorem yX6{x i:D}(h:∀ k∈hk x,Like st st2 k):GM st2 sz x i=GM st sz x i:=by
 unfold GM
 cases FZ i with
 |none=>rfl
 |some j=>
  cases x with
  |row key tot off len=>
   simp only;rcases h key (by simp[hk,DE,GB])with⟨a,b⟩ | ⟨o,o2,a,b,c,d,e⟩
   ·rw[a,b]
   ·grind
  |_=>rfl
theorem tY{off:Nat}{x:D}(h:∀ k∈Mh x,Like st st2 k):FC st2 off x=FC st off x:=by
 cases x with
 |rptr key tot i o=>simp only[FC,j8 (h key (by simp[Mh]))]
 |_=>rfl
variable {n:Nat}
theorem yX8{x i:D}(h:∀ k∈Mh x,Like st st2 k):Jm st2 n sz x i=Jm st n sz x i:=by
 simp only[Jm,tY h]
theorem yX1{ag:Bool}{p:D}(h:∀ k∈hk p,Like st st2 k):Fy st2 n ag p=Fy st n ag p:=by
 cases p with
 |ptr key off=>
  simp only[Fy];rcases h key (by simp[hk,DE,GB])with⟨a,b⟩ | ⟨o,o2,a,b,c,d,e⟩
  ·rw[a,b]
  ·grind
 |rptr key tot i off=>
  simp only[Fy];rcases h key (by simp[hk,DE,GB])with⟨a,b⟩ | ⟨o,o2,a,b,c,d,e⟩
  ·rw[a,b]
  ·grind
 |_=>simp only[Fy]
theorem yM0{ks:List Nat}{ok:Bool}{E m k:D}(h:∀ k∈hk m,Like st st2 k):Js st2 sz ks ok E m k=Js st sz ks ok E m k:=by
 cases m with
 |mapv key=>
  simp only[Js];rcases h key (by simp[hk,DE,GB])with⟨a,b⟩ | ⟨o,o2,a,b,c,d,e⟩
  ·rw[a,b]
  ·simp only[a,b,Obj.isMap,c,d,e];rfl
 |_=>simp only[Js]
theorem Yeo{p:D}(h:∀ k∈Mh p,Like st st2 k):∀ key tot i off,p=.rptr key tot i off→E2 st2 key tot=E2 st key tot:=by
 rintro key tot i off rfl;exact j8 (h key (by simp[Mh])) tot
theorem Yn9(h:k∈Fs d):k∈DE d:=by
 cases d <;> simp_all [Fs,DE,GB]
theorem Ywj(h:k∈keys d):k∈hk d:=by
 cases d with
 |agg l=>
  simp only[keys,hk,Bn]at h ⊢;obtain⟨x,E,I⟩:=h;exact⟨x,E,Yn9 I⟩
 |row a b c e=>exact h
 |bsl key off n sz ag=>simp only[keys,Fs,AJ]at h; subst h; simp[hk,DE,GB]
 |_=>simp[keys,Fs]at h
theorem qz{l:List D}(h:k∈l.flatMap keys):k∈l.flatMap hk:=by
 simp only[Bn]at h ⊢;obtain⟨x,E,I⟩:=h;exact⟨x,E,Ywj I⟩
inductive Eff where
 |lend (ks:List Nat)
 |set (k:Nat) (o:Obj)
 |push (os:List Obj)
theorem Yzk{E:Nat}{xs:List D}(h:Hh st d=some (E,xs))(I:xs≠[])(n:Nat):Gq d n=some n:=by
 unfold Gq
 split
 ·simp only[Hh,Db,Dx]at h;grind
 ·rfl
theorem Yj2{m:Nat}(h:Gq d m=some n):n=m:=by
 unfold Gq at h;grind
theorem sw(h:Gq d n=none)(m:Nat):Gq d m=none:=by
 unfold Gq at h ⊢;grind
def Eff.app:Eff→St→St
 |.lend ks,st=>PI.lend ks st
 |.set k o,st=>st.set k o
 |.push os,st=>st++os
def Eff.inn(f:Foot):Eff→Prop
 |.lend ks=>∀ k∈ks,k∈f.rd
 |.set k _=>k∈f.wr
 |.push _=>f.nu.isSome=true
theorem tP{st st2:St}:∀ {l:List Nat},(∀ k∈l,Like st st2 k)→Hn st2 l=Hn st l
 |[],_=>rfl
 |a::l,h=>by
  have e:(st2[a]?).map Obj.see=(st[a]?).map Obj.see:=by
   rcases h a (by simp)with⟨x,y⟩ | ⟨o,o2,x,y,c,d,e⟩
   ·rw[x,y]
   ·simp only[x,y,Ae,Obj.see,c,d,e]
  have E:=tP (st:=st) (st2:=st2) (l:=l) fun k hk=>h k (by simp[hk]);simp only[Hn,e,E]
theorem yQ5{sp:List D→List (Option (Bool×Nat×List D))→Option D}{ds:List D}(h:∀ k∈ds.flatMap hk,Like st st2 k):I2 sp ds st2=I2 sp ds st:=by
 have e:(ds.flatMap hk).all (fun k=>(st2[k]?).isSome)=(ds.flatMap hk).all (fun k=>(st[k]?).isSome):=by
  rw[B5,Ag,Ag];refine forall_congr' fun k=>imp_congr_right fun hk=>?_;rcases h k hk with⟨x,y⟩ | ⟨o,o2,x,y,_⟩
  ·rw[x,y]
  ·grind
 unfold I2;rw[e,tP h]
variable {f:Foot}{ρ:PA→D}{T:Tbl}
theorem sR(p:POp){st':St}(E:p.foot ρ st=some f)(h:p.exec T ρ st=some (d,st')) :
  ∃ e:Eff,e.inn f∧st'=e.app st∧∀ st2:St,(∀ k∈f.rd,Like st st2 k)→(∀ k∈f.wr,st2[k]?=st[k]?)→(f.nu.isSome=true→st2.length=st.length)→p.exec T ρ st2=some (d,e.app st2):=by
 by_cases hc:p.cls=0
 ·obtain⟨h1,h2⟩:=jW p hc h;exact⟨.lend [],(fun k hk=>by cases hk),h1,fun st2 _ _ _=>h2 st2⟩
 have rd:∀ {α:Type} (F:St→Option α) (g:α→D),((F st).map fun x=>(g x,st))=some (d,st')→(∀ st2,(∀ k∈f.rd,Like st st2 k)→F st2=F st)→(∀ st2,p.exec T ρ st2=(F st2).map fun x=>(g x,st2))→
   ∃ e:Eff,e.inn f∧st'=e.app st∧∀ st2:St,(∀ k∈f.rd,Like st st2 k)→(∀ k∈f.wr,st2[k]?=st[k]?)→(f.nu.isSome=true→st2.length=st.length)→p.exec T ρ st2=some (d,e.app st2):=by
  intro α F g h1 h2 h3;simp only[DH,Dx]at h1;obtain⟨x,M,h4,h5⟩:=h1;refine⟨.lend [],(fun k hk=>by cases hk),h5.symm,fun st2 hl _ _=>?_⟩;rw[h3,h2 st2 hl,M,← h4]; rfl
 cases p with
 |load n ag x=>
  simp only[POp.foot,POp.args,Db]at E; subst E;exact rd (fun st=>Fy st n ag (ρ x)) id h (fun st2 hl=>yX1 fun k hk=>hl k (by simpa using hk)) (fun _=>rfl)
 |fld off x=>
  simp only[POp.foot,Db]at E; subst E;exact rd (fun st=>FC st off (ρ x)) id h (fun st2 hl=>tY hl) (fun _=>rfl)
 |conv c x=>
  simp only[POp.foot,POp.args,Db]at E; subst E;exact rd (fun st=>FJ st c (ρ x)) id h (fun st2 hl=>yYf fun k hk=>hl k (by simpa using hk)) (fun _=>rfl)
 |slice sz x lo hi mx=>
  simp only[POp.foot,POp.args,Db]at E; subst E;exact rd (fun st=>Hb st sz (ρ x) (lo.map ρ) (hi.map ρ) (mx.map ρ)) id h (fun st2 hl=>yQ7 fun k hk=>hl k (by rw[Aw,Au,AL]; exact .inl hk)) (fun _=>rfl)
 |idxS sz x i=>
  simp only[POp.foot,POp.args,Db]at E; subst E;exact rd (fun st=>GM st sz (ρ x) (ρ i)) id h (fun st2 hl=>yX6 fun k hk=>hl k (by rw[Aw,Au,AL]; exact .inl hk)) (fun _=>rfl)
 |idxA n sz x i=>
  simp only[POp.foot,Db]at E; subst E;exact rd (fun st=>Jm st n sz (ρ x) (ρ i)) id h (fun st2 hl=>yX8 hl) (fun _=>rfl)
 |len str x=>
  simp only[POp.foot,POp.args,Db]at E; subst E;simp only[POp.exec]at h
  split at h
  ·rename_i U;exact rd (fun st=>Fb st (ρ x)) (fun n:Nat=>D.int .i64 (n:Int)) h (fun st2 hl=>Yco fun k hk=>hl k (by simpa using hk)) (fun st2=>by simp only[POp.exec]; rw[if_pos U])
  ·cases h
 |nilc x=>
  simp only[POp.foot,Db]at E; subst E;have hn:=fun st2 (hl:∀ k∈Mh (ρ x),Like st st2 k)=>Yeo (p:=ρ x) hl;simp only[POp.exec]at h ⊢
  cases M:ρ x with
  |ptr key off=>
   simp only[M,Db,Dx]at h;refine⟨.lend [],(fun k hk=>by cases hk),h.2.symm,fun st2 hl _ _=>by rw[← h.1]; rfl⟩
  |eptr el off=>
   simp only[M,Db,Dx]at h;refine⟨.lend [],(fun k hk=>by cases hk),h.2.symm,fun st2 hl _ _=>by rw[← h.1]; rfl⟩
  |rptr key tot i off=>
   simp only[M]at h ⊢
   split at h
   ·rename_i a0;simp only[Db,Dx]at h;refine⟨.lend [],(fun k hk=>by cases hk),h.2.symm,fun st2 hl _ _=>?_⟩;rw[hn st2 (by rw[M]; exact hl) key tot i off M,if_pos a0,← h.1]; rfl
   ·cases h
  |_=>simp[M]at h
 |bslc sz parts=>
  simp only[POp.foot,POp.args,Db]at E; subst E;simp only[POp.exec]at h ⊢
  split at h
  ·rename_i els he
   split at h
   ·rename_i I;simp only[Db,Dx]at h;refine⟨.lend ((parts.map ρ).flatMap keys),fun k hk=>qz hk,h.2.symm,fun st2 hl _ _=>?_⟩;rw[YB hl,he];simp only[I,if_true,← h.1];rfl
   ·cases h
  ·cases h
 |call fn args=>
  simp only[POp.foot,POp.args,Db]at E; subst E;simp only[POp.exec]at h ⊢
  split at h
  ·rename_i sp vs Y ac
   split at h
   ·rename_i r hr;simp only[Db,Dx]at h
    by_cases hn:r.noRef=true
    ·refine⟨.lend [],(fun k hk=>by cases hk),?_,fun st2 hl _ _=>?_⟩
     ·rw[← h.2,if_pos hn]; rfl
     ·simp only[Y,YB hl,ac,hr,hn,if_true,← h.1]; rfl
    ·refine⟨.lend ((args.map ρ).flatMap keys),fun k hk=>qz hk,?_,fun st2 hl _ _=>?_⟩
     ·rw[← h.2,if_neg hn]; rfl
     ·simp only[Y,YB hl,ac,hr,hn,← h.1]; rfl
   ·cases h
  ·cases h
 |box x=>
  simp only[POp.foot,Db]at E; subst E;simp only[POp.exec]at h ⊢
  split at h
  ·rename_i I;simp only[Db,Dx]at h;refine⟨.push _,rfl,h.2.symm,fun st2 _ _ hm=>?_⟩;rw[if_pos I,hm rfl,← h.1]; rfl
  ·cases h
 |mkslc sz bytes zero l c=>
  simp only[POp.foot,Db]at E; subst E;simp only[POp.exec]at h ⊢
  split at h
  ·split at h
   ·rename_i I;simp only[Db,Dx]at h;refine⟨.push _,rfl,h.2.symm,fun st2 _ _ hm=>?_⟩;rw[if_pos I,hm rfl,← h.1]; rfl
   ·cases h
  ·cases h
 |mcall fn args=>
  simp only[POp.foot,Db]at E; subst E;simp only[POp.exec]at h ⊢
  split at h
  ·split at h
   ·simp only[Db,Dx]at h;refine⟨.push _,rfl,h.2.symm,fun st2 _ _ hm=>?_⟩;rw[hm rfl,← h.1]; rfl
   ·cases h
  ·cases h
 |stor n p x=>
  simp only[POp.foot,Db]at E; subst E;simp only[POp.exec]at h ⊢
  cases hp:ρ p with
  |ptr key off=>
   rw[hp]at h;simp only[MN]at h ⊢
   cases hk:st[key]? with
   |none=>simp[hk]at h
   |some o=>
    simp only[hk]at h
    split at h
    ·rename_i I;simp only[Ae,Db,Dx]at h;refine⟨.set key _,by simp[Eff.inn,PI.hk,DE,GB],h.2.symm,fun st2 _ hw _=>?_⟩;have e:=hw key (by simp[PI.hk,DE,GB]);rw[e,hk];simp only[I,if_true,Ae,← h.1];rfl
    ·simp at h
  |rptr key tot i off=>
   rw[hp]at h;simp only[MN]at h ⊢
   cases hk:st[key]? with
   |none=>simp[hk]at h
   |some o=>
    cases hy:DV st (ρ x)with
    |none=>simp[hk,hy]at h
    |some y=>
     simp only[hk,hy]at h
     split at h
     case isFalse=>simp at h
     rename_i I
     split at h
     case h_2=>simp at h
     rename_i el a2
     split at h
     case h_2=>simp at h
     rename_i a8 ah
     split at h
     case isFalse=>simp at h
     rename_i hlen;simp only[Ae,Db,Dx]at h;refine⟨.set key _,by simp[Eff.inn,PI.hk,DE,GB],h.2.symm,fun st2 hl hw _=>?_⟩;have e:=hw key (by simp[PI.hk,DE,GB]);rw[e,hk,qu hl,hy];simp only[I,if_true,a2,ah,hlen,Ae,← h.1];rfl
  |_=>simp[hp,MN]at h
 |app sz bytes s x=>
  simp only[POp.foot]at E;simp only[POp.exec]at h ⊢;unfold Ek at h ⊢;have V:∀ st2,(∀ k∈hk (ρ x),Like st st2 k)→Hh st2 (ρ x)=Hh st (ρ x):=fun st2 hl=>yZ0 hl
  cases he:Hh st (ρ x)with
  |none=>simp[he]at h
  |some r=>
   obtain⟨a9,xs⟩:=r;simp only[he]at h
   split at h
   ·cases h
   rename_i aa
   cases U:ρ s with
   |row key tot off len=>
    simp only[U,Db]at E; subst E;simp only[U]at h ⊢
    cases hk:st[key]? with
    |none=>simp[hk]at h
    |some o=>
     simp only[hk]at h
     split at h
     case isFalse=>cases h
     rename_i I;simp only[Db,Dx]at h;refine⟨.set key _,by simp[Eff.inn],h.2.symm,fun st2 hl hw _=>?_⟩;have e:=hw key (by simp);rw[V st2 hl,he,e,hk];simp only[aa,if_false,Al,I,if_true,← h.1];rfl
   |slc ba els t=>
    simp only[U,Db]at E; subst E
    cases t with
    |false=>simp[U]at h
    |true=>
     simp only[U]at h ⊢
     split at h
     ·rename_i J;simp only[Db,Dx]at h;refine⟨.lend [],(fun k hk=>by cases hk),h.2.symm,fun st2 hl _ _=>?_⟩;rw[V st2 hl,he];dsimp only;rw[if_neg aa,if_pos J,← h.1];rfl
     ·rename_i J
      split at h
      case isFalse=>cases h
      rename_i I;simp only[Db,Dx]at h;have hN:Gq (ρ x) st.length=some st.length:=Yzk he (by simpa using J) _;refine⟨.push _,(by show(Gq (ρ x) st.length).isSome=true; rw[hN]; rfl),h.2.symm,fun st2 hl _ hm=>?_⟩;rw[V st2 hl,he,hm (by show(Gq (ρ x) st.length).isSome=true; rw[hN]; rfl)];dsimp only;rw[if_neg aa,if_neg J,if_pos I,← h.1];rfl
   |_=>simp[U]at h
 |rcall fn args=>
  simp only[POp.foot,POp.args,Db]at E; subst E;simp only[POp.exec]at h
  split at h
  ·rename_i sp Y;exact rd (fun st=>I2 sp (args.map ρ) st) id h (fun st2 hl=>yQ5 hl) (fun st2=>by simp only[POp.exec,Y]; rfl)
  ·cases h
 |icall fn args=>simp[POp.foot]at E
 |callv x args=>simp[POp.foot]at E
 |fail=>simp[POp.foot]at E
 |mkmap sz=>simp[POp.foot]at E
 |mapup sz ks m k v=>simp[POp.foot]at E
 |cpy sz d s=>simp[POp.foot]at E
 |mapget sz ks ok zero m k=>
  simp only[POp.foot,POp.args,Db]at E; subst E;exact rd (fun st=>Js st sz ks ok zero (ρ m) (ρ k)) id h (fun st2 hl=>yM0 fun k hk=>hl k (by rw[Aw,Au,AL]; exact .inl hk)) (fun _=>rfl)
 |_=>simp[POp.cls]at hc
theorem zt{p:POp}(h:p.foot ρ st=some f):∀ n,f.nu=some n→n=st.length:=by
 intro n hn
 cases p with
 |app sz bytes s x=>
  simp only[POp.foot]at h;cases E:ρ s <;> simp only[E,Db]at h <;> subst h <;> first | exact Yj2 hn | (simp at hn; done) | exact(by simpa using hn.symm)
 |_=>
  simp only[POp.foot,Db,reduceCtorEq]at h
  try subst h
  try simp at hn
  try exact hn.symm
theorem Sq(p:POp)(h:st2.length=st.length):p.foot ρ st2=p.foot ρ st:=by
 cases p <;> simp only[POp.foot,h]
theorem cX(p:POp)(hc:p.cls≤2)(st st2:St):p.foot ρ st2=p.foot ρ st:=by
 cases p <;> first | rfl | (simp[POp.cls]at hc; done)
theorem uT{p:POp}(h:p.foot ρ st=some f)(hm:f.nu=none):p.foot ρ st2=some f:=by
 cases p with
 |app sz bytes s x=>
  simp only[POp.foot]at h ⊢;cases E:ρ s <;> simp only[E,Db]at h ⊢ <;> subst h <;> first | rfl | (simp only[sw hm _]; done) | (simp at hm; done) | (rw[sw hm st2.length,hm])
 |box x=>simp only[POp.foot,Db]at h; subst h; cases hm
 |mkslc a b c d e=>simp only[POp.foot,Db]at h; subst h; cases hm
 |mcall fn args=>simp only[POp.foot,Db]at h; subst h; cases hm
 |_=>exact h
theorem yZt{E:PA→D}(p:POp)(h:∀ x∈p.args,ρ x=E x):p.foot ρ st=p.foot E st:=by
 cases p with
 |stor n p x=>simp only[POp.args,Av,AB,or_false,forall_eq_or_imp,forall_eq]at h; simp only[POp.foot,h]
 |app a b s x=>simp only[POp.args,Av,AB,or_false,forall_eq_or_imp,forall_eq]at h; simp only[POp.foot,h]
 |box x=>rfl
 |mkslc a b c d e=>rfl
 |mcall f args=>rfl
 |icall f args=>rfl
 |callv x args=>rfl
 |fail=>rfl
 |mkmap sz=>rfl
 |mapup sz ks m k v=>rfl
 |cpy sz d s=>rfl
 |fld n x=>simp only[POp.args,Av,AB,or_false,forall_eq]at h; simp only[POp.foot,h]
 |nilc x=>simp only[POp.args,Av,AB,or_false,forall_eq]at h; simp only[POp.foot,h]
 |idxA a b x i=>simp only[POp.args,Av,AB,or_false,forall_eq_or_imp,forall_eq]at h; simp only[POp.foot,h]
 |_=>
  simp only[POp.foot];rw[BI h]
variable {b:List Nat}
theorem jX{a:List Nat}(h:Ic a b=true):∀ k∈a,k∉b:=by
 simp only[Ic,Ag,AS]at h;grind
theorem YL{m:Option Nat}(h:Lq m b=true):∀ n,m=some n→∀ k∈b,k<n:=by
 rintro n rfl k hk;simp only[Lq,Ag,decide_eq_true_eq]at h;exact h k hk
variable {g:Foot}
theorem zR(h:f.ok g=true):(∀ k∈g.wr,k∉f.rd)∧(∀ k∈g.wr,k∉f.wr)∧(∀ k∈f.wr,k∉g.rd)∧(∀ n,f.nu=some n→∀ k∈g.rd,k<n)∧(∀ n,f.nu=some n→∀ k∈g.wr,k<n)∧(∀ n,g.nu=some n→∀ k∈f.rd,k<n)∧(∀ n,g.nu=some n→∀ k∈f.wr,k<n)∧(f.nu=none∨g.nu=none):=by
 simp only[Foot.ok,Ac,Bb,Option.isNone_iff_eq_none]at h;obtain⟨⟨⟨⟨⟨⟨⟨E,I⟩,J⟩,M⟩,U⟩,V⟩,Y⟩,h8⟩:=h;exact⟨jX E,jX I,jX J,YL M,YL U,YL V,YL Y,h8⟩
theorem QH:∀ (ks:List Nat) (st:St) (i:Nat),(lend ks st)[i]?=(st[i]?).map fun o=>if i∈ks then {o with lent:=true} else o
 |[],st,i=>by simp[lend]
 |k::r,st,i=>by
  rw[lend,QH r,SP];grind
theorem rK(ks:List Nat)(st:St)(k:Nat)(o:Obj)(h:k∉ks):lend ks (st.set k o)=(lend ks st).set k o:=by
 apply Bg;intro i;rw[QH,List.getElem?_set,List.getElem?_set,QH,Qb];grind
theorem rI(ks:List Nat)(st:St)(os:List Obj)(h:∀ k∈ks,k<st.length):lend ks (st++os)=lend ks st++os:=by
 apply Bg;intro i;rw[QH];rcases A8 i st.length with hi | hi
 ·rw[At hi,At (by rw[Qb]; exact hi),QH]
 ·rw[AM hi,AM (by rw[Qb]; exact hi),Qb];grind
theorem Yci(st:St)(k:Nat)(o:Obj)(os:List Obj)(h:k<st.length):(st++os).set k o=st.set k o++os:=BU _ _ h
variable {e:Eff}
theorem Eff.len(h:e.inn f)(hm:f.nu=none):(e.app st).length=st.length:=by
 cases e with
 |lend ks=>exact Qb ks st
 |set k o=>simp[Eff.app]
 |push os=>simp[Eff.inn,hm]at h
theorem Eff.comm{J:Eff}(h:e.inn f)(I:J.inn g)(V:f.ok g=true)(M:∀ n,f.nu=some n→n=st.length)(U:∀ n,g.nu=some n→n=st.length):e.app (J.app st)=J.app (e.app st):=by
 obtain⟨o1,o2,Y,o4,o5,o6,o7,o8⟩:=zR V
 have E:∀ {m:Option Nat},m.isSome=true→(∀ n,m=some n→n=st.length)→m=some st.length:=by
  intro m h1 h2
  cases m with
  |none=>cases h1
  |some n=>rw[h2 n rfl]
 cases e with
 |lend ks=>
  cases J with
  |lend qs=>exact j4 ks qs st
  |set k o=>exact rK ks st k o fun hk=>o1 k I (h k hk)
  |push os=>exact rI ks st os fun k hk=>o6 _ (E I U) k (h _ hk)
 |set k o=>
  cases J with
  |lend qs=>exact(rK qs st k o fun hk=>Y k h (I k hk)).symm
  |set k' q=>exact List.set_comm _ _ (fun e=>o2 k' I (e ▸ h))
  |push q=>exact Yci st k o q (o7 _ (E I U) _ h)
 |push o=>
  cases J with
  |lend qs=>exact(rI qs st o fun k hk=>o4 _ (E h M) k (I _ hk)).symm
  |set k q=>exact(Yci st k q o (o5 _ (E h M) _ I)).symm
  |push q=>
   have a:=E h M;have b:=E I U;grind
theorem Eff.eq_at(h:e.inn f)(hm:∀ n,f.nu=some n→n=st.length)(E:k∉f.rd)(I:k∉f.wr)(J:∀ n,f.nu=some n→k<n):(e.app st)[k]?=st[k]?:=by
 cases e with
 |lend ks=>
  show(PI.lend ks st)[k]?=_
  rw[QH];have:k∉ks:=fun hk=>E (h k hk);simp[this]
 |set q o=>
  have:q≠k:=fun e=>I (e ▸ h);simp[Eff.app,this]
 |push o=>
  have M:f.nu=some st.length:=by
   cases hk:f.nu with
   |none=>simp[Eff.inn,hk]at h
   |some n=>rw[hm n hk]
  have:=J _ M
  show(st++o)[k]?=_
  grind
theorem Eff.like_at(h:e.inn f)(hm:∀ n,f.nu=some n→n=st.length)(E:k∉f.wr)(I:∀ n,f.nu=some n→k<n):Like st (e.app st) k:=by
 cases e with
 |lend ks=>
  show Like st (PI.lend ks st) k
  unfold Like;rw[QH];grind
 |set q o=>
  have:q≠k:=fun e=>E (e ▸ h);exact Like.of_eq (by simp[Eff.app,this])
 |push o=>
  have J:f.nu=some st.length:=by
   cases hk:f.nu with
   |none=>simp[Eff.inn,hk]at h
   |some n=>rw[hm n hk]
  have:=I _ J;refine Like.of_eq ?_
  show(st++o)[k]?=_
  grind
theorem YA5{ρx V:PA→D}{x y:POp}{st1:St}{dx dy:D}(hx:x.exec T ρx st=some (dx,st1))(I:x.foot ρx st=some f)(hy:y.exec T V st1=some (dy,st2))(J:y.foot V st1=some g)(ae:f.ok g=true) :
  ∃ E,y.exec T V st=some (dy,E)∧y.foot V st=some g∧x.exec T ρx E=some (dx,st2)∧x.foot ρx E=some f:=by
 obtain⟨o1,o2,o3,o4,o5,o6,o7,Y⟩:=zR ae;obtain⟨e,M,U,e3⟩:=sR x I hx;have aa:=zt I;have af:=zt J
 have ab:∀ n,g.nu=some n→n=st.length:=by
  intro n hn;rw[af n hn,U];rcases Y with c | c
  ·exact Eff.len M c
  ·grind
 have ah:y.foot V st=some g:=by
  rcases Y with c | c
  ·rw[Sq (st:=st1) y (by rw[U]; exact(Eff.len M c).symm)]; exact J
  ·exact uT J c
 obtain⟨q,q1,q2,q3⟩:=sR y J hy
 have a4:=q3 st (fun k hk=>by
   rw[U];exact(Eff.like_at M aa (fun hw=>o3 k hw hk) (fun n hn=>o4 n hn k hk)).symm)
  (fun k hk=>by
   rw[U];exact(Eff.eq_at M aa (fun hr=>o1 k hk hr) (fun hw=>o2 k hk hw) (fun n hn=>o5 n hn k hk)).symm)
  (fun hm=>by
   rw[U];rcases Y with c | c
   ·exact(Eff.len M c).symm
   ·grind)
 refine⟨q.app st,a4,ah,?_,?_⟩
 ·have:=e3 (q.app st) (fun k hk=>Eff.like_at q1 ab (fun hw=>o1 k hw hk) (fun n hn=>o6 n hn k hk))
   (fun k hk=>Eff.eq_at q1 ab (fun hr=>o3 k hk hr) (fun hw=>o2 k hw hk) (fun n hn=>o7 n hn k hk))
   (fun hm=>by
    rcases Y with c | c
    ·grind
    ·exact Eff.len q1 c)
  rw[this,q2,U,Eff.comm M q1 ae aa ab]
 ·rcases Y with c | c
  ·exact uT I c
  ·rw[Sq (st:=st) x (Eff.len q1 c)]; exact I
def PI.regs(x y:PI):Bool:=
 (match x.dst with
  |some d=>!(y.reads.contains d) && y.dst != some d
  |none=>true) &&
 (match y.dst with
  |some d=>!(x.reads.contains d)
  |none=>true)
variable {y:PI}
theorem Ydd{x:PI}(h:x.regs y=true):(∀ t,x.dst=some t→t∉y.reads)∧(∀ t,x.dst=some t→y.dst≠some t)∧(∀ t,y.dst=some t→t∉x.reads):=by
 simp only[PI.regs,Ac]at h;grind
theorem SV{x:PI}(h:x.apart y=true):x.regs y=true:=by
 simp only[PI.apart,Ac]at h;simp only[PI.regs,Ac];exact h.1
variable {dst:Option Nat}{G:Dj}
theorem p6{fr:Frame}{i:PI}(h:∀ t,dst=some t→t∉i.reads):i.op.foot (Du G (fr.put dst d)) st=i.op.foot (Du G fr) st:=by
 refine yZt i.op fun x I=>zZ fun t E hm=>h t E ?_;simp only[PI.reads,AL,Bn];grind
def JS(x y:PI×Option Foot):Prop:=x.1.regs y.1=true∧(x.1.apart y.1=true∨∃ f g:Foot,x.2=some f∧y.2=some g∧f.ok g=true)
variable {s s1:PS}
theorem cz{x:PI}(h:x.exec G T s=some s1)(hc:x.op.cls≤2):s1.st.length=s.st.length:=by
 rw[PI.exec_eq]at h;simp only[DH]at h;obtain⟨⟨d,st⟩,E,rfl⟩:=h;unfold PI.step at E
 split at E
 ·cases E
 ·grind
 ·obtain⟨ks,rfl⟩:=Yv x.op hc E;exact Qb ks s.st
theorem gn{x:PI}(h:x.exec G T s=some s1):∃ d,s1.fr=s.fr.put x.dst d:=by
 rw[PI.exec_eq]at h;simp only[DH]at h;grind
theorem Tr{i:PI}{s':PS}(E:s'.fr=s.fr.put dst d)(h:∀ t,dst=some t→t∉i.reads)(I:i.op.foot (Du G s.fr) s'.st=i.op.foot (Du G s.fr) s.st):i.foot G s'=i.foot G s:=by
 unfold PI.foot;rw[E,UJ h,p6 h,I]
theorem V3{x:PI}{s2:PS}(h:JS (x,x.foot G s) (y,y.foot G s1))(I:x.exec G T s=some s1)(E:y.exec G T s1=some s2) :
  ∃ M,y.exec G T s=some M∧x.exec G T M=some s2∧y.foot G s=y.foot G s1∧x.foot G M=x.foot G s:=by
 obtain⟨ae,h⟩:=h;dsimp only at ae h;obtain⟨a1,a2,a3⟩:=Ydd ae;rcases h with h | ⟨f,g,hf,hg,bc⟩
 ·obtain⟨M,h1,h2⟩:=kP h I E;obtain⟨_,_,_,a4⟩:=uR h;obtain⟨dx,ex⟩:=gn I;obtain⟨Y,ey⟩:=gn h1;refine⟨M,h1,h2,(Tr ex a1 ?_).symm,Tr ey a3 ?_⟩
  ·rcases a4 with c | c | ⟨c,_⟩ | ⟨c,_⟩
   ·exact Sq _ (cz I (by omega))
   ·exact cX _ (by omega) _ _
   ·exact Sq _ (cz I c)
   ·exact Sq _ (cz I c)
  ·rcases a4 with c | c | ⟨c,_⟩ | ⟨c,_⟩
   ·exact cX _ (by omega) _ _
   ·exact Sq _ (cz h1 (by omega))
   ·exact cX _ c _ _
   ·exact cX _ c _ _
 ·have a0:y.wanted s1.fr=y.wanted s.fr:=by
   obtain⟨dx,ex⟩:=gn I;rw[ex]; exact UJ a1
  rw[PI.exec_eq]at I E;simp only[DH]at I E;obtain⟨⟨dx,stx⟩,I,rfl⟩:=I;obtain⟨⟨Y,a5⟩,E,rfl⟩:=E;simp only at E a0 hg ⊢;have ac:∀ d,x.wanted (s.fr.put y.dst d)=x.wanted s.fr:=fun d=>UJ a3
  have key:∀ U,y.step G T s=some (Y,U)→(∀ d,x.step G T {fr:=s.fr.put y.dst d,st:=U}=some (dx,a5))→x.op.foot (Du G s.fr) U=x.op.foot (Du G s.fr) s.st→y.op.foot (Du G s.fr) stx=y.op.foot (Du G s.fr) s.st→
    ∃ M,y.exec G T s=some M∧x.exec G T M=some {fr:=(s.fr.put x.dst dx).put y.dst Y,st:=a5}∧y.foot G s=y.foot G {fr:=s.fr.put x.dst dx,st:=stx}∧x.foot G M=x.foot G s:=by
   intro U h1 h2 h3 h4;refine⟨{fr:=s.fr.put y.dst Y,st:=U},by rw[PI.exec_eq,h1]; rfl,?_,(Tr (s':={fr:=s.fr.put x.dst dx,st:=stx}) rfl a1 h4).symm,Tr (s':={fr:=s.fr.put y.dst Y,st:=U}) rfl a3 h3⟩;rw[PI.exec_eq,h2 Y];simp only[Ae];rw[dq s.fr dx Y a2]
  unfold PI.step at I E;simp only[a0]at E
  cases V:x.wanted s.fr with
  |none=>simp[V]at I
  |some bx=>
   cases J:y.wanted s.fr with
   |none=>simp[J]at E
   |some a6=>
    cases bx with
    |false=>
     simp only[V,Db,Dx]at I;obtain⟨rfl,rfl⟩:=I
     cases a6 with
     |false=>
      simp only[J,Db,Dx]at E;obtain⟨rfl,rfl⟩:=E;exact key s.st (by simp[PI.step,J]) (fun d=>by simp[PI.step,ac,V]) rfl rfl
     |true=>
      simp only[J]at E;rw[MZ a1]at E;refine⟨{fr:=s.fr.put y.dst Y,st:=a5},by rw[PI.exec_eq]; simp[PI.step,J,E],?_,?_,?_⟩
      ·rw[PI.exec_eq];simp only[PI.step,ac,V,Ae];rw[dq s.fr _ Y a2]
      ·exact(Tr (s':={fr:=s.fr.put x.dst (.tup []),st:=s.st}) rfl a1 rfl).symm
      ·unfold PI.foot;grind
    |true=>
     simp only[V]at I;simp only[PI.foot,V]at hf
     cases a6 with
     |false=>
      simp only[J,Db,Dx]at E;obtain⟨rfl,rfl⟩:=E;refine⟨{fr:=s.fr.put y.dst (.tup []),st:=s.st},by rw[PI.exec_eq]; simp[PI.step,J],?_,?_,?_⟩
      ·rw[PI.exec_eq];simp only[PI.step,ac,V];rw[MZ a3,I];simp only[Ae];rw[dq s.fr dx _ a2]
      ·unfold PI.foot;grind
      ·exact Tr (s':={fr:=s.fr.put y.dst (.tup []),st:=s.st}) rfl a3 rfl
     |true=>
      simp only[J]at E;rw[MZ a1]at E;simp only[PI.foot,a0,J]at hg;rw[p6 a1]at hg;obtain⟨ba,h1,h2,h3,h4⟩:=YA5 I hf E hg bc;exact key ba (by simp only[PI.step,J]; exact h1) (fun d=>by simp only[PI.step,ac,V]; rw[MZ a3]; exact h3) (by rw[h4,hf]) (by rw[hg,h2])
def HV(G:Dj)(T:Tbl):List (PI×Option Foot)→PS→PS→Prop
 |[],s,s'=>s'=s
 |a::l,s,s'=>a.1.foot G s=a.2∧∃ s1,a.1.exec G T s=some s1∧HV G T l s1 s'
theorem YCd{G:Dj}{T:Tbl}{i:PI×Option Foot}:∀ (l r:List (PI×Option Foot)) (s sf:PS),(∀ x∈l,JS x i)→HV G T (l++i::r) s sf→∃ s',i.1.exec G T s=some s'∧i.1.foot G s=i.2∧HV G T (l++r) s' sf
 |[],r,s,sf,_,h=>by
  obtain⟨E,s1,I,J⟩:=h;grind
 |x::l,r,s,sf,ha,h=>by
  obtain⟨E,s1,I,J⟩:=h;obtain⟨s2,Y,M,h6⟩:=YCd l r s1 sf (fun y hy=>ha y (by simp[hy])) J;have hp:=ha x (by simp);have U:JS (x.1,x.1.foot G s) (i.1,i.1.foot G s1):=by rw[E,M]; exact hp
  obtain⟨V,k1,k2,k3,k4⟩:=V3 U I Y;exact⟨V,k1,by rw[k3,M],by rw[k4,E],s2,k2,h6⟩
theorem ZA{G:Dj}{T:Tbl}:∀ (l:List PI) (s sf:PS),E6 G T l s=some sf→∃ F:List (Option Foot),F.length=l.length∧HV G T (l.zip F) s sf
 |[],s,sf,h=>by
  simp only[E6,Db]at h;exact⟨[],rfl,h.symm⟩
 |i::l,s,sf,h=>by
  simp only[E6]at h
  split at h
  ·rename_i s1 E;obtain⟨F,I,J⟩:=ZA l s1 sf h;exact⟨i.foot G s::F,by simp[I],rfl,s1,E,J⟩
  ·cases h
theorem pU{fs:List (Option Foot)}{g:Option Foot}:∀ {cs:List Nat},Oh fs g cs=true→∀ j∈cs,∃ f g':Foot,fs[j]?=some (some f)∧g=some g'∧f.ok g'=true
 |[],_,j,hj=>by cases hj
 |c::cs,h,j,hj=>by
  simp only[Oh,Ac]at h;rcases Av.1 hj with rfl | hj
  ·have E:=h.1
   cases hf:fs[j]? with
   |none=>rw[hf]at E; cases E
   |some o=>
    rw[hf]at E
    cases o with
    |none=>cases E
    |some f=>
     cases g with
     |none=>cases E
     |some g'=>exact⟨f,g',rfl,rfl,E⟩
  ·exact pU h.2 j hj
theorem Zk{G:Dj}{T:Tbl}:∀ (l:List (PI×Bool×List Nat)) (fs:List (Option Foot)) (s sf:PS),Hu G T l fs s=some sf→∃ F:List (Option Foot),F.length=l.length∧HV G T ((l.map (·.1)).zip F) s sf∧
   ∀ (i:Nat) (q:PI×Bool×List Nat),l[i]?=some q→∀ j∈q.2.2,∃ f g:Foot,F[i]?=some (some g)∧f.ok g=true∧(fs[j]?=some (some f)∨(fs.length≤j∧F[j - fs.length]?=some (some f)))
 |[],fs,s,sf,h=>by
  simp only[Hu,Db]at h;exact⟨[],rfl,h.symm,fun i q E=>by simp at E⟩
 |(i0,b,cs)::l,fs,s,sf,h=>by
  simp only[Hu]at h
  split at h
  case isFalse=>cases h
  rename_i I
  split at h
  ·rename_i s1 J;obtain⟨F,M,U,V⟩:=Zk l _ s1 sf h;refine⟨i0.foot G s::F,by simp[M],⟨rfl,s1,J,U⟩,?_⟩;intro i q E j hj
   cases i with
   |zero=>
    simp only[AF,Db]at E;subst E;obtain⟨f,g',Y,e2,e3⟩:=pU I j hj;grind
   |succ i=>
    grind
  ·cases h
def IV(ms:List Nat)(l:List PI)(i:Nat)(y:PI):List Nat:=(CS i).filter fun j=>!((ms.getD i 0).testBit j) && !((l.getD j default).apart y)
def lN(ms:List Nat)(l:List PI):Option (List (PI×Bool×List Nat)):=
 if l.zipIdx.all fun yi=>(IV ms l yi.2 yi.1).all fun j=>(l.getD j default).regs yi.1 then
  some (l.zipIdx.map fun yi=>(yi.1,(l.zipIdx.map fun zj=>IV ms l zj.2 zj.1).any (fun c=>c.contains yi.2),IV ms l yi.2 yi.1))
 else none
variable {q:List (PI×Bool×List Nat)}{l:List PI}{ms:List Nat}
theorem uQ(h:lN ms l=some q):q.length=l.length∧q.map (·.1)=l∧(∀ (i:Nat) y,l[i]?=some y→∃ b,q[i]?=some (y,b,IV ms l i y)∧∀ j∈IV ms l i y,(l.getD j default).regs y=true):=by
 unfold lN at h
 split at h
 case isFalse=>cases h
 rename_i E;simp only[Db]at h;subst h;refine⟨by simp,?_,?_⟩
 ·rw[CG];apply Bg;grind
 ·intro i y J;refine⟨(l.zipIdx.map fun I=>IV ms l I.2 I.1).any (fun c=>c.contains i),?_,?_⟩
  ·grind
  ·rw[Ag]at E;have:=E (y,i) (by rw[A1]; exact J);grind
def Qh(ms:List Nat)(l:List PI)(bad:Option (Nat×Nat))(ord:List Nat)(p i:Nat):List Nat:=
 (CS p).filter fun j=>!((ms.getD i 0).testBit (ord.getD j 0)) && !((l.getD (ord.getD j 0) default).apart (l.getD i default)) && !(bad == some (ord.getD j 0,i))
def Om(ms:List Nat)(l:List PI)(bad:Option (Nat×Nat))(ord:List Nat):Option (List (PI×Bool×List Nat)):=
 if ord.zipIdx.all fun ip=>(Qh ms l bad ord ip.2 ip.1).all fun j=>(l.getD (ord.getD j 0) default).regs (l.getD ip.1 default)then
  some (ord.zipIdx.map fun ip=>(l.getD ip.1 default,(ord.zipIdx.map fun kq=>Qh ms l bad ord kq.2 kq.1).any (fun c=>c.contains ip.2),Qh ms l bad ord ip.2 ip.1))
 else none
theorem yTa{bad:Option (Nat×Nat)}{E:List Nat}(h:Om ms l bad E=some q) :
  q.length=E.length∧q.map (·.1)=E.map (fun k=>l.getD k default)∧(∀ (p i:Nat),E[p]?=some i→∃ b,q[p]?=some (l.getD i default,b,Qh ms l bad E p i)∧∀ j∈Qh ms l bad E p i,(l.getD (E.getD j 0) default).regs (l.getD i default)=true):=by
 unfold Om at h
 split at h
 case isFalse=>cases h
 rename_i I;simp only[Db]at h;subst h;refine⟨by simp,?_,?_⟩
 ·rw[CG];apply Bg;grind
 ·intro p i hi;refine⟨(E.zipIdx.map fun J=>Qh ms l bad E J.2 J.1).any (fun c=>c.contains p),?_,?_⟩
  ·grind
  ·rw[Ag]at I;have:=I (i,p) (by rw[A1]; exact hi);grind
def yD(ms:List Nat)(l:List PI):Option (Nat×Nat):=
 match(l.zipIdx.flatMap fun yi=>((l.take yi.2).zipIdx.filter fun xj=>xj.1.op.push && yi.1.op.push && !((ms.getD yi.2 0).testBit xj.2)).map fun xj=>(xj.2,yi.2))with
 |[p]=>some p
 |_=>none
def POp.push2:POp→Bool
 |.box _ | .mkslc _ _ _ _ _ | .app _ _ _ _ | .mcall _ _=>true
 |_=>false
def pH(ms:List Nat)(l:List PI):List (Nat×Nat):=
 l.zipIdx.flatMap fun yi=>((l.take yi.2).zipIdx.filter fun xj=>xj.1.op.push2 && yi.1.op.push2 && !((ms.getD yi.2 0).testBit xj.2)).map fun xj=>(xj.2,yi.2)
def Mk(ms:List Nat)(m x y:Nat):List Nat:=
 (CS m).filter (fun k=>k<x || (k<y && (ms.getD y 0).testBit k) || k == y)++(CS m).filter (fun k=>!(k<x || (k<y && (ms.getD y 0).testBit k) || k == y))
def Ql(m:Nat)(ord:List Nat):Bool:=ord.length == m && (CS m).all (fun k=>ord.contains k)
def Lo(keep:List Nat)(ms:List Nat)(l:List PI)(m:Nat):List (Nat×Nat)→PC
 |[]=>.fail
 |(x,y)::r=>match Om ms l (some (x,y)) (CS m),Om ms l (some (y,x)) (Mk ms m x y)with
  |some q1,some q2=>if Ql m (Mk ms m x y) && x != y && decide (x<m) && decide (y<m)then .alt (.any2 keep q1 q2) (Lo keep ms l m r)else Lo keep ms l m r
  |_,_=>Lo keep ms l m r
end Go.Proofs.YtijnglngaogdjaaGreatDoor.PI
namespace Go.Proofs.YtijnglngaogdjaaGreatDoor.PI
open Go Go.RowKit
def ee(n:Nat):Option Nat→Bool
 |some d=>decide (d<n)
 |none=>true
def MO(P:Program)(il:List Nat)(n:Nat)(ops:Array Oper)(o:Oper):Option PI:=
 if ee n o.dst then
  match o.guard with
  |none=>some {dst:=o.dst,op:=(Dy P il o.op).getD .fail}
  |some (j,want)=>match(ops[j]?).bind (·.dst)with
   |some s=>some {dst:=o.dst,op:=(Dy P il o.op).getD .fail,guard:=some (s,want)}
   |none=>none
 else none
def F7(P:Program)(il:List Nat)(n:Nat)(ops:Array Oper):List Oper→Option (List PI)
 |[]=>some []
 |o::r=>match MO P il n ops o,F7 P il n ops r with
  |some a,some b=>some (a::b)
  |_,_=>none
def bN(P:Program)(il:List Nat)(n:Nat)(o1 o2:Oper):Option (PI×PI):=match o1.op,o2.op,o1.dst with
 |.buildSlice t len parts,.convert s t' (.tmp d),some d1=>match P.underlying t with
  |some (.slice e)=>match P.underlying e with
   |some (.int .u8)=>if s=t∧t'=t∧d=d1∧d1<n∧ee n o2.dst=true∧o1.guard=none∧o2.guard=none then
     match Dy P il (.buildSlice t len parts)with
     |some p=>some ({dst:=some d1,op:=p},{dst:=o2.dst,op:=.mov (.s d1)})
     |none=>none
    else none
   |_=>none
  |_=>none
 |_,_,_=>none
def K1(P:Program)(il:List Nat)(n:Nat)(ops:Array Oper):List Oper→Option (List PI)
 |[]=>some []
 |[o]=>(MO P il n ops o).map fun a=>[a]
 |o1::o2::r=>match bN P il n o1 o2 with
  |some (a,b)=>(K1 P il n ops r).map fun l=>a::b::l
  |none=>match MO P il n ops o1,K1 P il n ops (o2::r)with
   |some a,some l=>some (a::l)
   |_,_=>none
def TG(il:List Nat)(i:PI):Bool:=match i.op with
 |.icall f _=>il.contains (f+60000000)
 |.callv _ _=>il.contains 60000000
 |_=>false
def ml(P:Program)(n:Nat)(l:List Oper):Option (List Oper×Nat×Nat×Operand):=match l.reverse with
 |o2::o1::rpre=>match o1.op,o2.op,o1.dst with
  |.makeInterface t xo,.panic (.tmp d),some d1=>if d=d1∧d1<n∧o1.guard=none∧o2.guard=none then
    match P.underlying t with
    |some (.interface _)=>none
    |some _=>some (rpre.reverse,d1,t,xo)
    |none=>none
   else none
  |_,_,_=>none
 |_=>none
variable {xo:Operand}{d1 t:Nat}
theorem yW9{P:Program}{n:Nat}{l pre:List Oper}(h:ml P n l=some (pre,d1,t,xo)):∃ o1 o2,l=pre++[o1,o2]∧o1.op=.makeInterface t xo∧o1.dst=some d1∧o2.op=.panic (.tmp d1)∧d1<n∧o1.guard=none∧o2.guard=none∧
  ∃ u,P.underlying t=some u∧∀ m,u≠.interface m:=by
 unfold ml at h
 split at h
 case h_2=>cases h
 rename_i o2 o1 I hl
 split at h
 case h_2=>cases h
 rename_i t' aa d ab J M U
 split at h
 case isFalse=>cases h
 rename_i hc;obtain⟨rfl,c1,V,Y⟩:=hc
 split at h
 case h_1=>cases h
 case h_3=>cases h
 rename_i u E hu;simp only[Db,Dx]at h;obtain⟨rfl,rfl,rfl,rfl⟩:=h;refine⟨o1,o2,?_,J,U,M,c1,V,Y,u,hu,fun m e=>E m e⟩;simp_all
def K8(o:Oper):List Nat:=(o.after.toList.filter (Region.binds .any)).map (·.on)
def Fe:List Oper→List Nat→List Nat
 |[],acc=>acc
 |o::r,acc=>Fe r (acc++[(K8 o).foldl (fun m e=>m ||| (1 <<< e) ||| acc.getD e 0) 0])
def cP(ms:List Nat)(l:List PI):Bool:=
 l.zipIdx.all fun(y,i)=>(l.take i).zipIdx.all fun(x,j)=>(ms.getD i 0).testBit j || x.apart y
def RJ:POp→Bool
 |.icall _ _=>true
 |.callv _ _=>true
 |_=>false
def Nt(ms:List Nat)(l:List PI):Bool:=
 l.zipIdx.all fun(y,i)=>!RJ y.op || ((CS l.length).all fun j=>(j == i) || (if j<i then(ms.getD i 0).testBit j else(ms.getD j 0).testBit i))
def aX(il:List Nat)(l:List PI):Nat:=(l.takeWhile fun i=>!TG il i).length
def lW(ms:List Nat)(l:List PI)(i:Nat):Bool:=decide (i<l.length) && (CS l.length).all fun j=>(j == i) || (if j<i then(ms.getD i 0).testBit j else(ms.getD j 0).testBit i)
def XO(q:List (PI×Bool×List Nat))(x:PI)(i:Nat):PC:=.alt (.any q) (.seq (.seq (.any (q.take i)) (.opsX [x])) .fail)
def OB(l:List Oper):Bool:=l.zipIdx.all fun(o,i)=>(K8 o).all fun e=>decide (e<i)
def JE:Code→Bool
 |.seq a b=>JE a && JE b
 |.cond _ a b=>JE a && JE b
 |.block _ c=>JE c
 |.loop c=>JE c
 |.rangeFunc _ _ _ _=>false
 |_=>true
def H5(P:Program)(il:List Nat)(n:Nat):List (List Nat)→Code→Option (PC×List (List Nat))
 |h,.skip=>some (.skip,h)
 |h,.region _ ops draw=>if draw then match F7 P il n ops ops.toList with
  |some l=>
    if P.follows .mixedOrders && OB ops.toList then
     if cP (Fe ops.toList []) l then some (if l.any (TG il) && Nt (Fe ops.toList []) l then .opsX l else .ops l,h)else
      match yD (Fe ops.toList []) l with
      |some (x,y)=>match h,Om (Fe ops.toList []) l (some (x,y)) (CS ops.size),Om (Fe ops.toList []) l (some (y,x)) (Mk (Fe ops.toList []) ops.size x y)with
       |keep::h',some q1,some q2=>if Ql ops.size (Mk (Fe ops.toList []) ops.size x y) && x != y then some (.any2 keep q1 q2,h')else some (.fail,h)
       |_,_,_=>some (.fail,h)
      |none=>match lN (Fe ops.toList []) l with
       |some q=>if il.contains 70000000 && decide (2≤(pH (Fe ops.toList []) l).length)then
         match h with
         |keep::h'=>some (.alt (.any q) (Lo keep (Fe ops.toList []) l ops.size (pH (Fe ops.toList []) l)),h')
         |[]=>some (.fail,h)
        else if l.any (TG il) && lW (Fe ops.toList []) l (aX il l)then some (XO q (l.getD (aX il l) default) (aX il l),h)
        else some (.any q,h)
       |none=>some (.fail,h)
    else some (.fail,h)
  |none=>none
  else match ml P n ops.toList with
   |some (pre,d1,t,xo)=>match K1 P il n ops pre,DU xo with
    |some l,some x=>some (.pan l d1 t x,h)
    |_,_=>some (.fail,h)
   |none=>(K1 P il n ops ops.toList).map fun l=>(if l.any (TG il)then .opsX l else .ops l,h)
 |h,.seq a b=>match H5 P il n h a with
  |some (x,h')=>match H5 P il n h' b with
   |some (y,h'')=>some (.seq x y,h'')
   |none=>none
  |none=>none
 |h,.cond c a b=>match DU c with
  |some pa=>match H5 P il n h a with
   |some (x,h')=>match H5 P il n h' b with
    |some (y,h'')=>some (.cond pa x y,h'')
    |none=>none
   |none=>none
  |none=>none
 |h,.block id c=>match H5 P il n h c with
  |some (x,h')=>some (.block id x,h')
  |none=>none
 |h,.loop c=>match h with
  |keep::h'=>match H5 P il n h' c with
   |some (x,h'')=>some (if keep.head?=some 1000000 then .loopA keep.tail x else .loop keep x,h'')
   |none=>none
  |[]=>none
 |h,.rangeFunc g ps a b=>match DU g with
  |some pa=>match H5 P il n h a with
   |some (x,h')=>match H5 P il n h' b with
    |some (y,h'')=>if JE a && JE b && ps.toList.all (fun p=>decide (p<n))then some (.range pa ps.toList x y,h'')else some (.fail,h)
    |none=>none
   |none=>none
  |none=>none
 |h,.exit id=>some (.exit id,h)
 |h,.ret=>some (.ret,h)
 |h,_=>some (.fail,h)
def OZ(P:Program):List ResultVar→Option (List PRes)
 |[]=>some []
 |.tmp t::r=>(OZ P r).map (.tmp t::·)
 |.cell a t::r=>match Es P t,EH P t,OZ P r with
  |some n,some ag,some l=>some (.cell a n ag::l)
  |_,_,_=>none
def DB(P:Program)(il:List Nat)(f:Nat)(hints:List (List Nat)):Option PF:=
 match P.funcs[f]? with
 |some fn=>match fn.body with
  |some c=>match H5 P il fn.ntmps hints c,OZ P fn.results.toList with
   |some (pc,_),some res=>if fn.name == "runtime.NumGoroutine" then none else some {code:=pc,res}
   |_,_=>none
  |none=>none
 |none=>none
variable {w w' w1:World}{g g' g1:Ghost}{a:Act}{s s' sf:PS}{i:PI}{o o1 o2:Oper}{ops:Array Oper}{Q:Exit→Act→World→Prop}{d:D}{listed:Array Bool}{is l:List PI}{ms:List Nat}{Z:List (Nat×Option Foot)}{bad:Option (Nat×Nat)}{st st' st1:St}
section
variable {P:Program} {il:List Nat} {G:Dj} {T:Tbl} {base n:Nat} {w0:World} {g0:Ghost} {st0:St} {dl:List Deferred} {r:Option Nat}
def DfOK(w0 w:World):List Deferred→Prop
 |[]=>True
 |d::ds=>(∃ D,d={target:=.collected D,args:=#[]}∧w.heap[D]?=some (.deferred (some []))∧w0.heap[D]?=none∧∀ d'∈ds,d'≠d)∧DfOK w0 w ds
theorem DfOK.mem{w0:World}:∀ {ds:List Deferred} {d:Deferred},DfOK w0 w ds→d∈ds→∃ D,d={target:=.collected D,args:=#[]}∧w.heap[D]?=some (.deferred (some []))
 |_::_,d,⟨⟨D,J,M,_⟩,I⟩,E=>by
  rcases Av.1 E with rfl | E
  ·grind
  ·exact DfOK.mem I E
theorem DfOK.mono{w0:World}(h:∀ (b:Nat) (o:Go.Obj),w.heap[b]?=some o→special o=true→Kept w' b o):∀ {ds:List Deferred},DfOK w0 w ds→DfOK w0 w' ds
 |[],_=>trivial
 |_::_,⟨⟨D,E,I,J,M⟩,U⟩=>⟨⟨D,E,(h D _ I rfl).def',J,M⟩,DfOK.mono h U⟩
structure Rel (G:Dj) (base n:Nat) (w0:World) (g0:Ghost) (st0:St) (dl:List Deferred) (s:PS) (a:Act) (w:World) (g:Ghost):Prop where
 go1:Go1 base w0 g0 st0 w g s.st
 fr:FR w g s.st s.fr a
 gl:GlobOK G w g
 df:∃ ds,a.defers=ds++dl∧DfOK w0 w ds
 sz:n≤a.tmps.size
theorem Rel.sr(h:Rel G base n w0 g0 st0 dl s a w g):SR base w g s.st:=h.go1.sr
theorem Rel.go{E:Act}(h:Rel G base n w0 g0 st0 dl s a w g)(I:Go1 base w g s.st w' g' s'.st)(J:FR w' g' s'.st s'.fr E)(M:E.defers=a.defers)(U:n≤E.tmps.size):Rel G base n w0 g0 st0 dl s' E w' g':=
 ⟨h.go1.trans I,J,h.gl.mono I.im,(let⟨ds,V,Y⟩:=h.df; ⟨ds,M.trans V,Y.mono I.kp⟩),U⟩
def R(G:Dj)(base n:Nat)(w0:World)(g0:Ghost)(st0:St)(dl:List Deferred)(s:PS)(a:Act)(w:World):Prop:=∃ g,Rel G base n w0 g0 st0 dl s a w g
theorem QO(a:Act)(dst:Option Tmp)(v:Value):(a.put dst v).tmps.size=a.tmps.size:=by
 cases dst <;> simp[Act.put]
theorem Qc(a:Act)(dst:Option Tmp)(v:Value):(a.put dst v).defers=a.defers:=by
 cases dst <;> rfl
theorem ff(U:FR w g s.st s.fr a)(E:MO P il n ops o=some i){b:Bool}(I:i.wanted s.fr=some b):Region.wanted o (yielded ops a.tmps)=b:=by
 unfold MO at E
 split at E
 case isFalse=>cases E
 split at E
 ·rename_i M;simp only[Db]at E; subst E;simp only[PI.wanted,Db]at I; subst I;simp[Region.wanted,M]
 ·rename_i j want M
  split at E
  case h_2=>cases E
  rename_i sl ab;simp only[Db]at E; subst E;simp only[PI.wanted]at I;have J:=U sl
  have V:yielded ops a.tmps j=(match a.tmps[sl]? with | some (.bool b)=>some b | _=>none):=by
   unfold yielded;grind
  simp only[Region.wanted,M,V]
  split at I
  ·rename_i bb hb;simp only[Db]at I; subst I;rw[hb]at J;have hv:=L1 J
   have ac:sl<a.tmps.size:=by
    rcases A8 sl a.tmps.size with h | h
    ·exact h
    ·simp[Array.getElem?_eq_none h,undef]at hv
   simp_all
  ·rename_i hb;simp only[Db]at I; subst I;rw[hb]at J;generalize hv:a.tmps.getD sl undef=v at J
   cases J with
   |tup _ vs Y h2=>
    have h3:vs=[]:=AQ Y.symm;subst h3
    have h4:(match a.tmps[sl]? with | some (.bool b)=>some b | _=>none)=(none:Option Bool):=by
     rcases A8 sl a.tmps.size with h | h
     ·simp_all
     ·grind
    grind
  ·cases I
theorem rS(I:MO P il n ops o=some i):(Dy P il o.op=some i.op∨i.op=.fail)∧i.dst=o.dst∧∀ t,o.dst=some t→t<n:=by
 have M:∀ p,(Dy P il o.op).getD .fail=p→Dy P il o.op=some p∨p=.fail:=by
  intro p E
  cases h:Dy P il o.op with
  |none=>rw[h]at E; exact .inr E.symm
  |some q=>rw[h]at E; exact .inl (by rw[← E]; rfl)
 unfold MO at I
 split at I
 case isFalse=>cases I
 rename_i J
 have U:∀ t,o.dst=some t→t<n:=by
  intro t h; rw[h]at J; simpa[ee]using J
 grind
theorem tU(hT:TblOK P G T)(hY:YOK P G T.y base w0 g0 st0){K:Act→World→Prop}(hR:R G base n w0 g0 st0 dl s a w)(M:MO P il n ops o=some i)(E:i.exec G T s=some s')
  (hK:∀ U w',R G base n w0 g0 st0 dl s' U w'→U.defers=a.defers→K U w'):if Region.wanted o (yielded ops a.tmps)then o.wpIn (Wr r) 0 P a w K Q else(∀ f,o.about P w a.eval=some f→(Wr r).fn f)∧K (a.put o.dst undef) w:=by
 obtain⟨g,h⟩:=hR;obtain⟨V,Y,h3⟩:=rS M;have I:∀ t,i.dst=some t→t<a.tmps.size:=fun t e=>AX (h3 t (Y ▸ e)) h.sz;rw[PI.exec_eq]at E;simp only[DH]at E;obtain⟨⟨d,st'⟩,E,rfl⟩:=E;unfold PI.step at E
 split at E
 ·cases E
 ·rename_i hw;rw[ff h.fr M hw];simp only[Db,Dx]at E;obtain⟨rfl,rfl⟩:=E;simp only[Al,if_false];refine⟨fun _ _=>trivial,hK _ _ ⟨g,h.go (Go1.refl h.sr) ?_ (Qc ..) (by rw[QO]; exact h.sz)⟩ (Qc ..)⟩;rw[← Y];exact h.fr.put I (.tup [] [] rfl (fun i d v hh=>by simp at hh))
 ·rename_i hw;rw[ff h.fr M hw];simp only[if_true];have V:=V.resolve_right (fun e=>by rw[e]at E; simp[POp.exec]at E);refine Ym7 hT hY h.go1 h.gl h.fr V E ?_;intro v w' g' J aa;refine hK _ _ ⟨g',h.go J ?_ (Qc ..) (by rw[QO]; exact h.sz)⟩ (Qc ..);rw[← Y];exact(h.fr.mono J.im J.evo).put I aa
theorem T4(I:TblOK P G T)(J:YOK P G T.y base w0 g0 st0){K:Act→World→Prop}(M:R G base n w0 g0 st0 dl s a w)(U:MO P il n ops o=some i)(V:i.exec G T s=some s')
  (Y:∀ E w',R G base n w0 g0 st0 dl s' E w'→K E w'):if Region.wanted o (yielded ops a.tmps)then o.wpIn (Wr r) 0 P a w K Q else(∀ f,o.about P w a.eval=some f→(Wr r).fn f)∧K (a.put o.dst undef) w:=
 tU I J M U V fun E w' h _=>Y E w' h
theorem tp(V:TblOK P G T)(Y:YOK P G T.y base w0 g0 st0){ops:Array Oper}{Q:Exit→Act→World→Prop}:∀ (l:List Oper) (is:List PI) (s s':PS) (a:Act) (w:World),F7 P il n ops l=some is→E6 G T is s=some s'→R G base n w0 g0 st0 dl s a w→
  (∀ J w',R G base n w0 g0 st0 dl s' J w'→J.defers=a.defers→Q .normal J w')→wpListIn (Wr r) 0 P ops Q l a w
 |[],is,s,s',a,w,E,I,M,U=>by
  simp[F7]at E; subst E;simp[E6]at I; subst I;exact U a w M rfl
 |o::l,is,s,s',a,w,E,I,M,U=>by
  simp only[F7]at E
  split at E
  ·rename_i i aa h1 h2;simp only[Db]at E; subst E;simp only[E6]at I
   split at I
   ·rename_i s1 ab;exact tU V Y M h1 ab fun J w' ac ad=>tp V Y l aa s1 s' J w' h2 I ac fun a2 w2 ae af=>U a2 w2 ae (af.trans ad)
   ·cases I
  ·cases E
theorem tq(M:TblOK P G T)(U:YOK P G T.y base w0 g0 st0){ops:Array Oper}{rest:List Oper}{Q:Exit→Act→World→Prop}:∀ (l:List Oper) (is:List PI) (s s':PS) (a:Act) (w:World),F7 P il n ops l=some is→E6 G T is s=some s'→R G base n w0 g0 st0 dl s a w→
  (∀ J w',R G base n w0 g0 st0 dl s' J w'→wpListIn (Wr r) 0 P ops Q rest J w')→wpListIn (Wr r) 0 P ops Q (l++rest) a w
 |[],is,s,s',a,w,E,I,V,Y=>by
  simp[F7]at E; subst E;simp[E6]at I; subst I;grind
 |o::l,is,s,s',a,w,E,I,V,Y=>by
  unfold F7 at E
  split at E
  ·rename_i i aa h1 h2;simp only[Db]at E; subst E;simp only[E6]at I
   split at I
   ·rename_i s1 ab;exact T4 M U V h1 ab fun J w' ac=>tq M U l aa s1 s' J w' h2 I ac Y
   ·cases I
  ·cases E
theorem wm{E I:PI}(h:bN P il n o1 o2=some (E,I)):∃ t e len parts d1 p,o1.op=.buildSlice t len parts∧o2.op=.convert t t (.tmp d1)∧o1.dst=some d1∧P.underlying t=some (.slice e)∧P.underlying e=some (.int .u8)∧d1<n∧(∀ x,o2.dst=some x→x<n)∧o1.guard=none∧o2.guard=none∧
  Dy P il (.buildSlice t len parts)=some p∧E={dst:=some d1,op:=p}∧I={dst:=o2.dst,op:=.mov (.s d1)}:=by
 unfold bN at h
 split at h
 case h_2=>cases h
 rename_i t len parts s t' d d1 U V Y
 split at h
 case h_2=>cases h
 rename_i e hu
 split at h
 case h_2=>cases h
 rename_i J
 split at h
 case isFalse=>cases h
 rename_i hc;obtain⟨rfl,rfl,rfl,c1,M,c3,c4⟩:=hc
 split at h
 case h_2=>cases h
 rename_i p hp;simp only[Db,Dx]at h;obtain⟨rfl,rfl⟩:=h;exact⟨_,e,len,parts,_,p,U,V,Y,hu,J,c1,fun x hx=>by rw[hx]at M; simpa[ee]using M,c3,c4,hp,rfl,rfl⟩
theorem rh{i1 i2:PI}{s1 s2:PS}{K:Act→World→Prop}(hR:R G base n w0 g0 st0 dl s a w)(ht:bN P il n o1 o2=some (i1,i2))(I:i1.exec G T s=some s1)(E:i2.exec G T s1=some s2)
  (hK:∀ J w',R G base n w0 g0 st0 dl s2 J w'→K J w'):Region.wanted o1 (yielded ops a.tmps)=true∧(∀ tm,Region.wanted o2 (yielded ops tm)=true)∧o1.wpIn (Wr r) 0 P a w (fun J w'=>o2.wpIn (Wr r) 0 P J w' K Q) Q:=by
 obtain⟨g,h⟩:=hR;obtain⟨t,e,len,parts,d1,p,h1,h2,h3,hu,a4,a5,aa,a6,a7,hp,rfl,rfl⟩:=wm ht;refine⟨by simp[Region.wanted,a6],fun tm=>by simp[Region.wanted,a7],?_⟩;rw[PI.exec_eq]at I E;simp only[PI.step,PI.wanted,DH]at I E;obtain⟨⟨d,st'⟩,I,rfl⟩:=I;obtain⟨⟨d',st2⟩,E,rfl⟩:=E;simp only[POp.exec,Db,Dx]at E;obtain⟨rfl,rfl⟩:=E;obtain⟨bf,bh,a8,ac,M,U⟩:=o1;obtain⟨ad,b1,ty2,pos2,after2,guard2⟩:=o2;simp only at h1 h2 h3 aa;subst h1; subst h2; subst h3;have ab:d1<a.tmps.size:=AX a5 h.sz
 have hw:=yQo (Q:=Q) (next2:=K) (d1:=d1) (d2:=ad) (ty:=a8) (ty2:=ty2) (pos:=ac) (pos2:=pos2) (after:=M) (after2:=after2) (guard:=U) (guard2:=guard2) h.sr h.gl h.fr hp hu a4 ab I (fun v w' g' V Y=>by
  refine hK _ _ ⟨g',h.go V ?_ (by rw[Qc,Qc]) (by rw[QO,QO]; exact h.sz)⟩;have a9:=(h.fr.mono V.im V.evo).put (dst:=some d1) (a:=a) (fun t e=>by cases e; exact ab) Y
  have ba:Du G (s.fr.put (some d1) d) (.s d1)=d:=by
   show(if d1=d1 then d else s.fr d1)=d
   grind
  rw[ba];exact a9.put (fun t e=>by rw[QO]; exact AX (aa t e) h.sz) Y)
 refine Q5 (fun c e=>by cases e) ?_;refine Oper.wp_mono (fun J w' h'=>?_) hw;exact Q5 (fun c e=>by cases e) h'
theorem UD(hT:TblOK P G T)(hY:YOK P G T.y base w0 g0 st0){ops:Array Oper}{rest:List Oper}{Q:Exit→Act→World→Prop}:∀ (l:List Oper) (is:List PI) (s s':PS) (a:Act) (w:World),K1 P il n ops l=some is→E6 G T is s=some s'→R G base n w0 g0 st0 dl s a w→
  (∀ J w',R G base n w0 g0 st0 dl s' J w'→wpListIn (Wr r) 0 P ops Q rest J w')→wpListIn (Wr r) 0 P ops Q (l++rest) a w
 |[],is,s,s',a,w,I,E,M,U=>by
  simp[K1]at I; subst I;simp[E6]at E; subst E;grind
 |[o],is,s,s',a,w,I,E,M,U=>by
  simp only[K1,DH]at I;obtain⟨i,h1,rfl⟩:=I;exact tq (il:=il) hT hY [o] [i] s s' a w (by simp[F7,h1]) E M U
 |o1::o2::l,is,s,s',a,w,I,E,M,U=>by
  unfold K1 at I
  split at I
  ·rename_i i1 i2 hp;simp only[DH]at I;obtain⟨V,h2,rfl⟩:=I;simp only[E6]at E
   split at E
   case h_2=>cases E
   rename_i s1 Y
   split at E
   case h_2=>cases E
   rename_i s2 af;obtain⟨e1,e2,e3⟩:=rh (r:=r) (ops:=ops) (Q:=Q) (K:=wpListIn (Wr r) 0 P ops Q (l++rest)) M hp Y af (fun J w' aa=>UD hT hY l V s2 s' J w' h2 E aa U);simp only[Ak,wpListIn,e1,e2,if_true];exact e3
  ·split at I
   ·rename_i i V h1 h2;simp only[Db]at I; subst I;simp only[E6]at E
    split at E
    ·rename_i s1 Y;exact T4 hT hY M h1 Y fun J w' aa=>UD hT hY (o2::l) V s1 s' J w' h2 E aa U
    ·cases E
   ·cases I
theorem j6(I:TblOK P G T)(J:YOK P G T.y base w0 g0 st0)(l:List Oper)(is:List PI)(s s':PS)(a:Act)(w:World)(M:K1 P il n ops l=some is)(U:E6 G T is s=some s')(V:R G base n w0 g0 st0 dl s a w)
  (Y:∀ E w',R G base n w0 g0 st0 dl s' E w'→Q .normal E w'):wpListIn (Wr r) 0 P ops Q l a w:=by
 have:=UD (r:=r) (rest:=[]) I J l is s s' a w M U V Y;grind
theorem kz(hT:TblOK P G T){K:Act→World→Prop}(hR:R G base n w0 g0 st0 dl s a w)(V:MO P il n ops o=some i)(J:i.execX G T s=some (t,d,s'))
  (hQ:∀ w',R G base n w0 g0 st0 dl s' a w'→Q (.panic (LZ t d)) a w'):Region.wanted o (yielded ops a.tmps)=true∧o.wpIn (Wr r) 0 P a w K Q:=by
 obtain⟨g,h⟩:=hR;obtain⟨E,h2,h3⟩:=rS V;unfold PI.execX at J
 split at J
 case h_2=>cases J
 rename_i hw;refine⟨ff h.fr V hw,?_⟩;simp only[DH,Dx]at J;obtain⟨⟨t',d',st'⟩,J,rfl,rfl,rfl⟩:=J;unfold POp.execX at J
 split at J
 case h_2=>cases J
 rename_i f ds I
 split at J
 case h_2=>cases J
 rename_i sp ab
 have hinv:∃ c,o.op=.call c∧∃ vs:List Value,ds.length=vs.length∧(∀ (i:Nat) d v,ds[i]?=some d→vs[i]?=some v→RepV w g s.st d v)∧execOp a.eval o=callFunc f vs.toArray:=by
  obtain⟨dst,op,ty,pos,after,guard⟩:=o;rcases E with E | E
  case inr=>rw[E]at I; cases I
  simp only at E;generalize i.op=p at E I;clear V h3 h2 hw hQ
  cases op with
  |call c=>
   refine⟨c,rfl,?_⟩;simp only[Dy]at E
   split at E
   ·rename_i b hb;unfold YF at E
    repeat' split at E
    all_goals first | (cases E; done) | (cases E; cases I; done) | (simp only[Db]at E; subst E; simp[POp.callee]at I; done) | (simp only[DH]at E; obtain⟨_,_,E⟩:=E; subst E; simp[POp.callee]at I; done) | skip
   ·rename_i f' M
    split at E
    case h_2=>cases E
    rename_i fn l a3 hl
    split at E
    case isFalse=>
     split at E
     ·cases E
     ·simp only[Db]at E; subst E; simp[POp.callee]at I
    simp only[Db]at E
    split at E
    ·subst E; simp[POp.callee]at I
    split at E
    ·subst E; simp[POp.callee]at I
    ·split at E
     ·subst E;simp only[POp.callee,Db,Dx]at I;obtain⟨rfl,rfl⟩:=I;obtain⟨g1,g2⟩:=P4 (fun x pa Y=>GL (G:=G) h.gl h.fr Y) hl;refine⟨c.args.toList.map a.eval,by simpa using g1,g2,?_⟩;simp only[execOp,resolve,M]
      have:(c.args.toList.map a.eval).toArray=c.args.map a.eval:=by
       grind
      rw[this]
      show(do let d ← (pure {target:=Target.fn (Fn.func f') #[],args:=#[]++c.args.map a.eval}:Sem Deferred); invoke d.target d.args)=_
      simp only[BO];rfl
     ·subst E; simp[POp.callee]at I
   ·rename_i x a4 M
    split at E
    case h_2=>cases E
    rename_i pa l ad hl;simp only[Db]at E; subst E;exact e9 (fun x pa Y=>GL (G:=G) h.gl h.fr Y) M ad hl I
   ·cases E
  |_=>
   exfalso; revert E; simp only[Dy,eL,bM,cG]
   repeat' split
   all_goals first
    |(intro E; cases E; done)
    |(intro E; cases E; cases I; done)
    |(intro E; simp only[Db]at E; subst E; simp[POp.callee]at I; done)
    |(intro E; simp only[DH]at E; obtain⟨_,_,E⟩:=E; subst E; simp[POp.callee]at I; done)
    |(intro _; contradiction)
 obtain⟨c,e1,vs,g1,g2,g3⟩:=hinv;refine Q5 (fun c' e=>by rw[e1]at e; cases e) ?_;refine yZk (hT.x f sp ab) h.sr h.gl (ds:=ds) (vs:=vs) J g1 g2 g3 ?_;intro w' g' U;exact hQ w' ⟨g',h.go U (h.fr.mono U.im U.evo) rfl h.sz⟩
theorem j7(hT:TblOK P G T)(hY:YOK P G T.y base w0 g0 st0){ops:Array Oper}{Q:Exit→Act→World→Prop}{t:Nat}{d:D}:∀ (l:List Oper) (is:List PI) (s s':PS) (a:Act) (w:World),K1 P il n ops l=some is→JX G T is s=some (t,d,s')→R G base n w0 g0 st0 dl s a w→
  (∀ U w',R G base n w0 g0 st0 dl s' U w'→Q (.panic (LZ t d)) U w')→wpListIn (Wr r) 0 P ops Q l a w
 |[],is,s,s',a,w,I,E,V,Y=>by
  simp[K1]at I; subst I;simp[JX]at E
 |[o],is,s,s',a,w,I,E,V,Y=>by
  simp only[K1,DH]at I;obtain⟨i,h1,rfl⟩:=I;simp only[JX]at E
  split at E
  ·cases E
  ·obtain⟨k1,k2⟩:=kz (r:=r) (ops:=ops) (K:=wpListIn (Wr r) 0 P ops Q []) hT V h1 E (fun w' J=>Y a w' J);simp only[wpListIn,k1,if_true];exact k2
 |o1::o2::l,is,s,s',a,w,I,E,V,Y=>by
  unfold K1 at I
  split at I
  ·rename_i i1 i2 hp;simp only[DH]at I;obtain⟨ab,h2,rfl⟩:=I;simp only[JX]at E;obtain⟨t',e,len,parts,d1,p,q1,q2,q3,hu,a7,a8,a9,ba,bb,M,rfl,rfl⟩:=wm hp
   split at E
   case h_2=>
    exfalso;simp only[PI.execX,PI.wanted,DH]at E;obtain⟨r,E,_⟩:=E;unfold POp.execX at E
    split at E
    case h_2=>cases E
    rename_i f ds ae;simp only[Dy]at M
    repeat' split at M
    all_goals first | (cases M; done) | (cases M; cases ae; done) | (simp only[Db]at M; subst M; simp[POp.callee]at ae; done)
   rename_i s1 ac
   split at E
   case h_2=>
    exfalso;simp[PI.execX,PI.wanted,POp.execX,POp.callee]at E
   rename_i s2 a3;obtain⟨e1,e2,e3⟩:=rh (r:=r) (ops:=ops) (Q:=Q) (K:=wpListIn (Wr r) 0 P ops Q l) V hp ac a3 (fun U w' J=>j7 hT hY l ab s2 s' U w' h2 E J Y);simp only[wpListIn,e1,e2,if_true];exact e3
  ·split at I
   ·rename_i i ab h1 h2;simp only[Db]at I; subst I;simp only[JX]at E
    split at E
    ·rename_i s1 ac;exact T4 hT hY V h1 ac fun U w' J=>j7 hT hY (o2::l) ab s1 s' U w' h2 E J Y
    ·obtain⟨k1,k2⟩:=kz (r:=r) (ops:=ops) (K:=wpListIn (Wr r) 0 P ops Q (o2::l)) hT V h1 E (fun w' J=>Y a w' J);simp only[wpListIn,k1,if_true];exact k2
   ·cases I
theorem Yvg{x:PA}(hR:R G base n w0 g0 st0 dl s a w)(h1:o1.op=.makeInterface t xo)(h3:o1.dst=some d1)(h2:o2.op=.panic (.tmp d1))(ah:d1<n)
  (Y:o1.guard=none) (aa:o2.guard=none) {u:TypeDesc} (hu:P.underlying t=some u) (a8:∀ m,u≠.interface m) (hx:DU xo=some x) (hi:LK (Du G s.fr x)=true)
  (hQ:∀ a',R G base n w0 g0 st0 dl ⟨s.fr.set d1 .junk,s.st⟩ a' w→Q (.panic (LZ t (Du G s.fr x))) a' w):wpListIn (Wr r) 0 P ops Q [o1,o2] a w:=by
 obtain⟨g,h⟩:=hR;have hv:=Ybc (GL (G:=G) h.gl h.fr hx) hi;have ab:d1<a.tmps.size:=AX ah h.sz;obtain⟨a7,a9,ac,I,E,a1⟩:=o1;obtain⟨J,ba,ty2,pos2,after2,guard2⟩:=o2;simp only at h1 h2 h3 Y aa;subst h1; subst h2; subst h3; subst Y; subst aa;have w1:∀ M,Region.wanted ({dst:=some d1,op:=.makeInterface t xo,type:=ac,pos:=I,after:=E,guard:=none}:Oper) (yielded ops M)=true:=fun M=>by simp[Region.wanted]
 have w2:∀ M,Region.wanted ({dst:=J,op:=.panic (.tmp d1),type:=ty2,pos:=pos2,after:=after2,guard:=none}:Oper) (yielded ops M)=true:=fun M=>by simp[Region.wanted]
 simp only[wpListIn,w1,w2,if_true];refine Q5 (fun c e=>by cases e) ?_;unfold Oper.wp
 have U:(execOp a.eval {dst:=some d1,op:=.makeInterface t xo,type:=ac,pos:=I,after:=E,guard:=none}).run P w=.ok (.value (.iface t (G2 (Du G s.fr x)))) w:=by
  simp only[execOp,hv,Sem.run_bind,Instr.makeInterface,run_underlying hu,Result.andThen_ok];rfl
 rw[U,Oper.upon_value];refine Q5 (fun c e=>by cases e) ?_;unfold Oper.wp
 have a2:(a.put (some d1) (.iface t (G2 (Du G s.fr x)))).eval (.tmp d1)=.iface t (G2 (Du G s.fr x)):=by
  simp[Act.eval,Act.put,ab]
 have V:(execOp (a.put (some d1) (.iface t (G2 (Du G s.fr x)))).eval {dst:=J,op:=.panic (.tmp d1),type:=ty2,pos:=pos2,after:=after2,guard:=none}).run P w=.halt (.panic (.iface t (G2 (Du G s.fr x)))) w:=by
  simp only[execOp,a2,Sem.run_bind,Instr.panic];rfl
 rw[V,Oper.upon_panic];refine hQ _ ⟨g,h.go (Go1.refl h.sr) ?_ (Qc ..) (by rw[QO]; exact h.sz)⟩;exact h.fr.put (dst:=some d1) (fun t e=>by cases e; exact ab) (.junk _)
theorem Uc{ops:Array Oper}:∀ {l:List Oper} {is:List PI},F7 P il n ops l=some is→is.length=l.length∧∀ (k:Nat) o,l[k]?=some o→∃ i,is[k]?=some i∧MO P il n ops o=some i
 |[],is,h=>by simp[F7]at h; subst h; exact⟨rfl,fun k o h=>by simp at h⟩
 |o::l,is,h=>by
  unfold F7 at h
  split at h
  ·rename_i i I J E;simp only[Db]at h; subst h;obtain⟨M,U⟩:=Uc E;grind
  ·cases h
theorem np:∀ (l:List Oper) (acc:List Nat),∃ r,Fe l acc=acc++r
 |[],acc=>⟨[],by simp[Fe]⟩
 |o::l,acc=>by
  obtain⟨r,h⟩:=np l (acc++[(K8 o).foldl (fun m e=>m ||| (1 <<< e) ||| acc.getD e 0) 0]);exact⟨_,by rw[Fe,h,Ap]⟩
theorem vv(I:List Nat)(j:Nat):∀ (l:List Nat) (m:Nat),(l.foldl (fun m e=>m ||| (1 <<< e) ||| I.getD e 0) m).testBit j=true→m.testBit j=true∨∃ e∈l,j=e∨(I.getD e 0).testBit j=true
 |[],m,h=>.inl h
 |e::l,m,h=>by
  rcases vv I j l _ h with E | ⟨J,E,M⟩
  ·simp only[Nat.testBit_or,Bb]at E;rcases E with(E | E) | E
   ·grind
   ·refine .inr ⟨e,by simp,.inl ?_⟩;rw[Nat.one_shiftLeft,Nat.testBit_two_pow]at E;grind
   ·grind
  ·grind
theorem u4:∀ (l:List Oper) (acc:List Nat) (i j:Nat) (o:Oper),l[i]?=some o→((Fe l acc).getD (acc.length+i) 0).testBit j=true→
  ∃ e∈K8 o,j=e∨(e<acc.length+i∧((Fe l acc).getD e 0).testBit j=true)
 |[],acc,i,j,o,h,_=>by simp at h
 |o'::l,acc,i,j,o,h,hb=>by
  cases i with
  |zero=>
   simp only[AF,Db]at h;subst h;obtain⟨r,I⟩:=np l (acc++[(K8 o').foldl (fun m e=>m ||| (1 <<< e) ||| acc.getD e 0) 0]);rw[Fe,I]at hb ⊢;rw[B1,Ap]at hb;simp only[Af,List.singleton_append,AM (Ax _),BG,AF,Ci]at hb;rcases vv acc j _ 0 (by simpa[Af]using hb)with E | ⟨e,E,J⟩
   ·simp at E
   ·grind
  |succ i=>
   simp only[Bv]at h;have:=u4 l (acc++[(K8 o').foldl (fun m e=>m ||| (1 <<< e) ||| acc.getD e 0) 0]) i j o h;simp only[Ad,List.length_singleton]at this;rw[show acc.length+1+i=acc.length+(i+1) by omega]at this;exact this hb
def ND(ops:List Oper)(listed:Array Bool):Prop:=∀ (i:Nat) o,ops[i]?=some o→listed.getD i false=true→∀ e∈K8 o,listed.getD e false=true
theorem fD{ops:List Oper}(hc:ND ops listed):∀ (i:Nat) o,ops[i]?=some o→(∀ e∈K8 o,listed.getD e false=true)→∀ j,((Fe ops []).getD i 0).testBit j=true→listed.getD j false=true:=by
 intro i
 induction i using Nat.strongRecOn with
 |_ i U=>
  intro o V Y j hj;obtain⟨e,he,I⟩:=u4 ops [] i j o V (by simpa using hj);rcases I with rfl | ⟨I,h2⟩
  ·grind
  ·simp only[As,Aq]at I;have J:=Y e he
   cases E:ops[e]? with
   |none=>
    have:ops.length≤e:=BV.1 E;grind
   |some M=>exact U e I M E (hc e M E J) j h2
def HS(m:Nat)(listed:Array Bool):List Nat:=(CS m).filter fun i=>!listed.getD i true
theorem fO(h:cP ms l=true){i j:Nat}{x y:PI}(I:l[j]?=some x)(J:l[i]?=some y)(E:j<i)(hm:(ms.getD i 0).testBit j=false):x.apart y=true:=by
 simp only[cP,Ag]at h;have M:=h (y,i) (by rw[A1]; exact J);have U:=M (x,j) (by rw[A1,BM,if_pos E]; exact I);grind
theorem ni{p:Nat→Bool}:∀ (m i:Nat),i<m→p i=true→∃ l r,(CS m).filter p=l++i::r∧(∀ j∈l,j<i∧p j=true)∧(CS m).filter (fun j=>p j && j != i)=l++r:=by
 intro m i hi E;refine⟨(CS i).filter p,((List.range' (i+1) (m - (i+1))).filter p),?_,?_,?_⟩
 ·have:CS m=CS i++(i::List.range' (i+1) (m - (i+1))):=by
   rw[Bm,Bm,← BX,show m - (i+1)+1=m - i by omega];have:=List.range'_append_1 (s:=0) (m:=i) (n:=m - i);grind
  grind
 ·grind
 ·have:CS m=CS i++(i::List.range' (i+1) (m - (i+1))):=by
   rw[Bm,Bm,← BX,show m - (i+1)+1=m - i by omega];have:=List.range'_append_1 (s:=0) (m:=i) (n:=m - i);grind
  rw[this,List.filter_append,List.filter_cons];simp only[bne_self_eq_false,Bool.and_false,Al,if_false]
  congr 1
  ·apply Cy;intro j hj;simp only[AW]at hj;have:j≠i:=by omega
   simp[this]
  ·apply Cy;intro j hj;simp only[List.mem_range'_1]at hj;have:j≠i:=by omega
   simp[this]
theorem pF(hT:TblOK P G T)(hY:YOK P G T.y base w0 g0 st0)(ht:F7 P il n ops ops.toList=some is)(ac:OB ops.toList=true)(aa:Array Bool→PS→Prop)
  (a2:∀ (listed:Array Bool) (s:PS) (i:Nat) (o:Oper),listed.size=ops.size→ND ops.toList listed→aa listed s→ops.toList[i]?=some o→i<ops.size→listed.getD i true=false→(∀ e∈K8 o,listed.getD e false=true)→
   (∃ s1,(is.getD i default).exec G T s=some s1∧aa (listed.setIfInBounds i true) s1)∨∃ t d s1,(is.getD i default).execX G T s=some (t,d,s1)∧∀ Y w',R G base n w0 g0 st0 dl s1 Y w'→Q (.panic (LZ t d)) Y w')
  (a7:∀ (listed:Array Bool) (s:PS),HS ops.size listed=[]→aa listed s→∀ Y w',R G base n w0 g0 st0 dl s Y w'→Q .normal Y w') :
  ∀ (fuel:Nat) (listed:Array Bool) (s:PS) (a:Act) (w:World),listed.size=ops.size→(HS ops.size listed).length≤fuel→ND ops.toList listed→aa listed s→R G base n w0 g0 st0 dl s a w→
  wpAnyIn (Wr r) 0 P .any ops Q fuel listed a w:=by
 obtain⟨hlen,a8⟩:=Uc ht;have b2:is.length=ops.size:=by simpa using hlen
 have M:∀ (listed:Array Bool) (i:Nat),i∈Region.ready .any ops listed↔i∈HS ops.size listed∧∀ o,ops.toList[i]?=some o→∀ e∈K8 o,listed.getD e false=true:=by
  intro listed i;simp only[Region.ready,HS,A6,AW,Ac];constructor
  ·rintro⟨E,h2,U⟩;refine⟨⟨E,h2⟩,fun o I e he=>?_⟩;rw[Cd]at I;simp only[I,Ae,Ci]at U;simp only[K8,AU,A6,Array.mem_toList_iff]at he;obtain⟨ed,⟨h4,h5⟩,rfl⟩:=he;have:=Array.all_eq_true'.1 U ed h4;grind
  ·rintro⟨⟨E,h2⟩,U⟩;refine⟨E,h2,?_⟩;have I:ops.toList[i]?=some ops[i]:=by rw[Cd,BD E]
   rw[BD E];simp only[Ae,Ci];refine Array.all_eq_true'.2 fun ed bd=>?_
   by_cases hb:Region.binds .any ed=true
   ·have:=U _ I ed.on (by simp only[K8,AU,A6,Array.mem_toList_iff]; exact⟨ed,⟨bd,hb⟩,rfl⟩);simp[this]
   ·simp[hb]
 have b3:∀ (listed:Array Bool),HS ops.size listed≠[]→Region.ready .any ops listed≠[]:=by
  intro listed be hr;obtain⟨i,r,a4⟩:=List.exists_cons_of_ne_nil be;have hi:i∈HS ops.size listed:=by rw[a4]; simp
  have J:i<ops.size∧listed.getD i true=false:=by
   simp only[HS,A6,AW,AS]at hi; exact hi
  have b9:∀ e,e<i→listed.getD e true=true:=by
   intro e he
   by_cases h:listed.getD e true=true
   ·exact h
   ·exfalso;obtain⟨l,r',E,h2,_⟩:=ni (p:=fun i=>!listed.getD i true) ops.size e (by omega) (by simpa using h);have U:l++e::r'=i::r:=by rw[← E]; exact a4
    cases l with
    |nil=>simp at U; omega
    |cons x l=>
     grind
  have:i∈Region.ready .any ops listed:=by
   rw[M];refine⟨hi,fun o I e he=>?_⟩
   have cd:e<i:=by
    simp only[OB,Ag]at ac;have E:=ac (o,i) (by rw[A1]; exact I);grind
   grind
  grind
 intro fuel
 induction fuel with
 |zero=>
  intro listed s a w af hl hc hx hR;have h0:HS ops.size listed=[]:=AQ (by omega);refine⟨?_,a7 listed s h0 hx a w hR⟩;apply List.eq_nil_iff_forall_not_mem.2;grind
 |succ fuel ih=>
  intro listed s a w af hl hc hx hR;refine⟨fun hr=>?_,fun i hi=>?_⟩
  ·grind
  ·obtain⟨a5,bf⟩:=(M listed i).1 hi
   have J:i<ops.size∧listed.getD i true=false:=by
    simp only[HS,A6,AW,AS]at a5; exact a5
   have I:ops.toList[i]?=some ops[i]:=by rw[Cd,BD J.1]
   obtain⟨pi,bg,a6⟩:=a8 i _ I;have ah:is.getD i default=pi:=by simp[Af,bg]
   rcases a2 listed s i _ af hc hx I J.1 J.2 (bf _ I)with⟨s1,V,a0⟩ | ⟨t,d,s1,V,a0⟩
   rotate_left
   ·rw[ah]at V;obtain⟨k1,k2⟩:=kz (r:=r) (Q:=Q) (ops:=ops) (K:=wpAnyIn (Wr r) 0 P .any ops Q fuel (listed.setIfInBounds i true)) hT hR a6 V (fun w' a1=>a0 a w' a1);unfold wpOpIn;grind
   rw[ah]at V
   have bb:∀ q,(listed.setIfInBounds i true).getD q false=true↔q=i∨listed.getD q false=true:=by
    intro q
    by_cases bh:q=i
    ·simp_all
    ·rcases A8 q listed.size with h5 | h5
     ·simp[Array.getD,h5,bh,show ¬ i=q by omega]
     ·grind
   have b1:=T4 (r:=r) (Q:=Q) (ops:=ops) (K:=wpAnyIn (Wr r) 0 P .any ops Q fuel (listed.setIfInBounds i true)) hT hY hR a6 V (fun Y w' a1=>by
    refine ih (listed.setIfInBounds i true) s1 Y w' (by simp[af]) ?_ ?_ a0 a1
    ·obtain⟨l,r,E,h2,U⟩:=ni (p:=fun i=>!listed.getD i true) ops.size i J.1 (by simpa using J.2)
     have b4:HS ops.size (listed.setIfInBounds i true)=l++r:=by
      rw[← U];simp only[HS];grind
     have ce:HS ops.size listed=l++i::r:=E;grind
    ·intro k o' hk ab e he;rw[bb]at ab ⊢;refine .inr ?_;rcases ab with rfl | ab
     ·grind
     ·exact hc k o' hk ab e he)
   unfold wpOpIn;grind
theorem yL(V:TblOK P G T)(Y:YOK P G T.y base w0 g0 st0)(ht:F7 P il n ops ops.toList=some is)(J:OB ops.toList=true)(E:Array Bool→PS→Prop)
  (I:∀ (listed:Array Bool) (s:PS) (i:Nat) (o:Oper),listed.size=ops.size→ND ops.toList listed→E listed s→ops.toList[i]?=some o→i<ops.size→listed.getD i true=false→(∀ e∈K8 o,listed.getD e false=true)→
   ∃ s1,(is.getD i default).exec G T s=some s1∧E (listed.setIfInBounds i true) s1)
  (M:∀ (listed:Array Bool) (s:PS),HS ops.size listed=[]→E listed s→∀ U w',R G base n w0 g0 st0 dl s U w'→Q .normal U w') :
  ∀ (fuel:Nat) (listed:Array Bool) (s:PS) (a:Act) (w:World),listed.size=ops.size→(HS ops.size listed).length≤fuel→ND ops.toList listed→E listed s→R G base n w0 g0 st0 dl s a w→
  wpAnyIn (Wr r) 0 P .any ops Q fuel listed a w:=
 pF V Y ht J E (fun listed s i o h1 h2 h3 h4 h5 h6 h7=>.inl (I listed s i o h1 h2 h3 h4 h5 h6 h7)) M
theorem zY:∀ (l m:List Nat),l.Nodup→(∀ x∈l,x∈m)→m.length≤l.length→l.Perm m
 |[],m,_,_,h=>by
  grind
 |a::l,m,hn,E,h=>by
  have ha:a∈m:=E a (by simp);have M:=List.perm_cons_erase ha;have I:=List.nodup_cons.1 hn
  have V:=zY l (m.erase a) I.2 (fun x U=>by
   have J:x∈a::m.erase a:=M.mem_iff.1 (E x (by simp[U]));rcases Av.1 J with e | e
   ·grind
   ·exact e) (by
   grind)
  grind
def HE(is:List PI)(Z:List (Nat×Option Foot)):List (PI×Option Foot):=Z.map fun z=>(is.getD z.1 default,z.2)
def Gr(listed:Array Bool)(Z:List (Nat×Option Foot)):List (Nat×Option Foot):=Z.filter fun z=>!listed.getD z.1 true
def Qy(ms:List Nat)(is:List PI)(m:Nat)(bad:Option (Nat×Nat))(Z:List (Nat×Option Foot)):Prop:=
 (Z.map (·.1)).Nodup∧(∀ k,k<m→∃ f,(k,f)∈Z)∧
  Z.Pairwise fun x y=>(ms.getD y.1 0).testBit x.1=false→bad≠some (x.1,y.1)→JS (is.getD x.1 default,x.2) (is.getD y.1 default,y.2)
theorem su{m:Nat}(hZ:Qy (Fe ops.toList []) is m bad Z){i:Nat}
  (bb:listed.size=ops.size) (hc:ND ops.toList listed) (hr:HV G T (HE is (Gr listed Z)) s sf) (ho:ops.toList[i]?=some o) (hi:i<ops.size) (ah:i<m) (bc:listed.getD i true=false) (hd:∀ e∈K8 o,listed.getD e false=true)
  (hb:∀ j,listed.getD j true=false→bad≠some (j,i)):∃ s1,(is.getD i default).exec G T s=some s1∧HV G T (HE is (Gr (listed.setIfInBounds i true) Z)) s1 sf:=by
 obtain⟨z1,z2,z3⟩:=hZ;obtain⟨f,hf⟩:=z2 i ah
 have ac:(i,f)∈Gr listed Z:=by
  simp only[Gr,A6];grind
 obtain⟨l,r,E⟩:=List.append_of_mem ac;have Y:(Gr listed Z).Pairwise fun x y=>((Fe ops.toList []).getD y.1 0).testBit x.1=false→bad≠some (x.1,y.1)→JS (is.getD x.1 default,x.2) (is.getD y.1 default,y.2):=z3.filter _;rw[E]at Y
 have J:∀ x∈l,listed.getD x.1 true=false:=by
  intro x M;have:x∈Gr listed Z:=by rw[E]; simp[M]
  simp only[Gr,A6,AS]at this;exact this.2
 have U:∀ x∈HE is l,JS x (is.getD i default,f):=by
  intro x M;simp only[HE,AU]at M;obtain⟨z,I,rfl⟩:=M;have h1:=(List.pairwise_append.1 Y).2.2 z I (i,f) (by simp);have h2:=J z I;refine h1 ?_ (hb _ h2)
  cases a0:((Fe ops.toList []).getD i 0).testBit z.1 with
  |false=>rfl
  |true=>
   have h4:=fD hc i _ ho hd z.1 a0;grind
 have a1:HE is (Gr listed Z)=HE is l++(is.getD i default,f)::HE is r:=by rw[E]; simp[HE]
 rw[a1]at hr;obtain⟨s1,h1,_,h2⟩:=YCd _ _ s sf U hr;refine⟨s1,h1,?_⟩;have a2:((Gr listed Z).map (·.1)).Nodup:=List.Nodup.sublist (List.Sublist.map _ (List.filter_sublist ..)) z1;rw[E,Bh,Aw]at a2
 have aa:∀ z∈l++r,z.1≠i:=by
  grind
 have V:Gr (listed.setIfInBounds i true) Z=l++r:=by
  have e1:Gr (listed.setIfInBounds i true) Z=(Gr listed Z).filter fun z=>z.1 != i:=by
   simp only[Gr,List.filter_filter];apply Cy;intro z _
   by_cases ab:z.1=i
   ·simp_all
   ·rcases A8 z.1 listed.size with h5 | h5
    ·simp[Array.getD,h5,ab,show ¬ i=z.1 from fun e=>ab e.symm]
    ·grind
  rw[e1,E,List.filter_append,List.filter_cons];simp only[bne_self_eq_false,Al,if_false];rw[BZ.2 (fun z I=>by simpa using aa z (List.mem_append_left _ I)),BZ.2 (fun z I=>by simpa using aa z (List.mem_append_right _ I))]
 rw[V];simpa[HE]using h2
theorem QP(J:Qy (Fe ops.toList []) is ops.size bad Z){i:Nat}
  (E:listed.size=ops.size) (hc:ND ops.toList listed) (M:HV G T (HE is (Gr listed Z)) s sf) (U:ops.toList[i]?=some o) (hi:i<ops.size) (I:listed.getD i true=false) (V:∀ e∈K8 o,listed.getD e false=true)
  (hb:∀ j,listed.getD j true=false→bad≠some (j,i)):∃ s1,(is.getD i default).exec G T s=some s1∧HV G T (HE is (Gr (listed.setIfInBounds i true) Z)) s1 sf:=
 su J E hc M U hi hi I V hb
theorem jh(E:∀ z∈Z,z.1<ops.size)(I:HS ops.size listed=[]):HE is (Gr listed Z)=[]:=by
 have:Gr listed Z=[]:=by
  simp only[Gr,List.filter_eq_nil_iff,AS];intro z J hl
  have M:z.1∈HS ops.size listed:=by
   simp only[HS,A6,AW];grind
  grind
 rw[this]; rfl
theorem Yq4(V:TblOK P G T)(Y:YOK P G T.y base w0 g0 st0)(ht:F7 P il n ops ops.toList=some is)(I:OB ops.toList=true)(hZ:Qy (Fe ops.toList []) is ops.size none Z)(J:∀ z∈Z,z.1<ops.size)
   (hQ:∀ M w',R G base n w0 g0 st0 dl sf M w'→Q .normal M w') (fuel:Nat) (listed:Array Bool) (s:PS) (a:Act) (w:World) (U:listed.size=ops.size) (hl:(HS ops.size listed).length≤fuel) (hc:ND ops.toList listed) (hr:HV G T (HE is (Gr listed Z)) s sf) (hR:R G base n w0 g0 st0 dl s a w) :
  wpAnyIn (Wr r) 0 P .any ops Q fuel listed a w:=by
 refine yL V Y ht I (fun listed s=>HV G T (HE is (Gr listed Z)) s sf) ?_ ?_ fuel listed s a w U hl hc hr hR
 ·intro listed s i o E h2 h3 h4 h5 h6 h7;exact QP hZ E h2 h3 h4 h5 h6 h7 (fun j _ h=>by cases h)
 ·intro listed s h0 E;rw[jh J h0]at E;simp only[HV]at E;grind
theorem vr:∀ (l:List PI) (s:PS) {t:Nat} {d:D} {s':PS},JX G T l s=some (t,d,s')→∃ i s1,i<l.length∧E6 G T (l.take i) s=some s1∧(l.getD i default).execX G T s1=some (t,d,s')
 |[],s,t,d,s',h=>by simp[JX]at h
 |i::l,s,t,d,s',h=>by
  simp only[JX]at h
  split at h
  ·rename_i s1 E;obtain⟨k,s2,M,I,J⟩:=vr l s1 h;refine⟨k+1,s2,by simp; omega,?_,by simpa using J⟩;simp only[List.take_succ_cons,E6,E];exact I
  ·exact⟨0,s,by simp,rfl,by simpa using h⟩
theorem Yhe{r:Nat×D×PS}(h:i.execX G T s=some r):RJ i.op=true:=by
 unfold PI.execX at h
 split at h
 case h_2=>cases h
 simp only[DH]at h;obtain⟨x,h,_⟩:=h;unfold POp.execX at h
 split at h
 case h_2=>cases h
 rename_i f ds hc;unfold POp.callee at hc
 split at hc
 ·rename_i e; rw[e]; rfl
 ·rename_i e; rw[e]; rfl
 ·cases hc
theorem Yd5(h:Nt ms l=true){i:Nat}(hi:i<l.length)(hm:RJ (l.getD i default).op=true):(∀ j,j<i→(ms.getD i 0).testBit j=true)∧∀ j,i<j→j<l.length→(ms.getD j 0).testBit i=true:=by
 simp only[Nt,Ag]at h;have E:l[i]?=some (l.getD i default):=by simp[Af,hi]
 have I:=h (l.getD i default,i) (by rw[A1]; exact E);grind
theorem sv(hT:TblOK P G T)(hY:YOK P G T.y base w0 g0 st0)(ht:F7 P il n ops ops.toList=some is)(Y:OB ops.toList=true){E:Nat}(be:E<is.length)(o1:∀ j,j<E→((Fe ops.toList []).getD E 0).testBit j=true)(o2:∀ j,E<j→j<is.length→((Fe ops.toList []).getD j 0).testBit E=true)
  {F:List (Option Foot)} (bf:F.length=E) (bg:∀ (i j:Nat),j<i→i<E→((Fe ops.toList []).getD i 0).testBit j=false→JS (is.getD j default,F.getD j none) (is.getD i default,F.getD i none))
    {s1:PS} (hr:HV G T ((is.take E).zip F) s s1) (hp:(is.getD E default).execX G T s1=some (t,d,s')) (hQ:∀ a' w',R G base n w0 g0 st0 dl s' a' w'→Q (.panic (LZ t d)) a' w') (listed:Array Bool) (a:Act) (w:World) (af:listed.size=ops.size) (hu:∀ i,i<ops.size→listed.getD i true=false) (hR:R G base n w0 g0 st0 dl s a w) :
  wpAnyIn (Wr r) 0 P .any ops Q ops.size listed a w:=by
 have hlen:=(Uc ht).1;have a2:is.length=ops.size:=by simpa using hlen
 let Z:List (Nat×Option Foot):=(CS E).zip F
 have I:Z.map (·.1)=CS E:=by
  show((CS E).zip F).map (·.1)=_
  rw[List.map_fst_zip (by simp; omega)]
 have a7:∀ z∈Z,z.1<E:=fun z hz=>by
  have:z.1∈Z.map (·.1):=List.mem_map_of_mem hz;grind
 have hZ:Qy (Fe ops.toList []) is E none Z:=by
  refine⟨by rw[I]; exact CC,fun k hk=>?_,?_⟩
  ·have:k∈Z.map (·.1):=by rw[I]; exact AW.2 hk
   grind
  ·show List.Pairwise _ ((CS E).zip F)
   rw[List.pairwise_iff_getElem];grind
 have V:HE is (Gr listed Z)=(is.take E).zip F:=by
  have e:Gr listed Z=Z:=by
   simp only[Gr,BZ];grind
  rw[e]
  show HE is ((CS E).zip F)=_
  unfold HE;apply Bg;grind
 refine pF hT hY ht Y (fun listed s=>(∀ j,E≤j→j<ops.size→listed.getD j true=false)∧HV G T (HE is (Gr listed Z)) s s1) ?_ ?_ ops.size listed s a w af ?_ ?_ ⟨fun j _ hj=>hu j hj,by rw[V]; exact hr⟩ hR
 ·rintro listed s i o J M ⟨h3,U⟩ h4 h5 h6 h7;rcases Nat.lt_trichotomy i E with hi | hi | hi
  ·left
   obtain⟨s2,g1,g2⟩:=su hZ J M U h4 h5 hi h6 h7 (fun j _ h=>by cases h);refine⟨s2,g1,fun j hj a1=>?_,g2⟩;have:=h3 j hj a1;have bh:¬ i=j:=by omega
   simp_all
  ·right
   subst hi;have bc:∀ j,j<i→listed.getD j false=true:=fun j hj=>fD M i o h4 h7 j (o1 j hj)
   have ac:Gr listed Z=[]:=by
    simp only[Gr,List.filter_eq_nil_iff,AS];grind
   rw[ac]at U;simp only[HE,Bj,HV]at U;grind
  ·exfalso;have h8:=fD M i o h4 h7 E (o2 i hi (by omega));have h9:=h3 E (Ax _) (by omega);grind
 ·rintro listed s h0 ⟨J,_⟩;exfalso;have M:=J E (Ax _) (by omega)
  have:E∈HS ops.size listed:=by
   simp only[HS,A6,AW];grind
  grind
 ·unfold HS;grind
 ·intro i o ho hi;have J:=(Ab.1 ho).1;have M:=hu i (by simpa using J);grind
theorem Yq2(hT:TblOK P G T)(hY:YOK P G T.y base w0 g0 st0)(J:F7 P il n ops ops.toList=some is)(I:OB ops.toList=true)(M:cP (Fe ops.toList []) is=true)(U:Nt (Fe ops.toList []) is=true)
     (hx:JX G T is s=some (t,d,s')) (hQ:∀ V w',R G base n w0 g0 st0 dl s' V w'→Q (.panic (LZ t d)) V w') (listed:Array Bool) (a:Act) (w:World) (Y:listed.size=ops.size) (hu:∀ i,i<ops.size→listed.getD i true=false) (hR:R G base n w0 g0 st0 dl s a w) :
  wpAnyIn (Wr r) 0 P .any ops Q ops.size listed a w:=by
 obtain⟨i0,s1,E,he,hp⟩:=vr _ _ hx;have ae:is.length=ops.size:=by simpa using (Uc J).1
 obtain⟨o1,o2⟩:=Yd5 U E (Yhe hp);obtain⟨F,hF,hr⟩:=ZA _ _ _ he;have ab:F.length=i0:=by rw[hF,AH]; omega
 refine sv hT hY J I E o1 o2 ab (fun i j ac hi hm=>?_) hr hp hQ listed a w Y hu hR;have h1:is[j]?=some (is.getD j default):=by simp[Af,show j<is.length by omega]
 have h2:is[i]?=some (is.getD i default):=by simp[Af,show i<is.length by omega]
 have h3:=fO M h1 h2 ac hm;exact⟨SV h3,.inl h3⟩
theorem yYh{i:Nat}(h:lW ms l i=true):i<l.length∧(∀ j,j<i→(ms.getD i 0).testBit j=true)∧∀ j,i<j→j<l.length→(ms.getD j 0).testBit i=true:=by
 simp only[lW,Ac,decide_eq_true_eq,Ag,AW,Bb,beq_iff_eq]at h;grind
theorem Yq3(hT:TblOK P G T)(hY:YOK P G T.y base w0 g0 st0)(ht:F7 P il n ops ops.toList=some is)(a0:OB ops.toList=true){x y:Nat}(b7:x≠y)(hx:x<ops.size){Z1 Z2:List (Nat×Option Foot)}(ac:Qy (Fe ops.toList []) is ops.size (some (x,y)) Z1)(ad:Qy (Fe ops.toList []) is ops.size (some (y,x)) Z2)
  (a5:∀ z∈Z1,z.1<ops.size) (a6:∀ z∈Z2,z.1<ops.size)
  {sf1 sf2:PS} (b8:∀ a' w',R G base n w0 g0 st0 dl sf1 a' w'→Q .normal a' w') (b9:∀ a' w',R G base n w0 g0 st0 dl sf2 a' w'→Q .normal a' w') (fuel:Nat) (listed:Array Bool) (s:PS) (a:Act) (w:World) (a7:listed.size=ops.size) (hl:(HS ops.size listed).length≤fuel) (hc:ND ops.toList listed)
  (a8:listed.getD x true=false) (a9:listed.getD y true=false) (ba:HV G T (HE is (Gr listed Z1)) s sf1) (bb:HV G T (HE is (Gr listed Z2)) s sf2) (hR:R G base n w0 g0 st0 dl s a w) :
  wpAnyIn (Wr r) 0 P .any ops Q fuel listed a w:=by
 refine yL hT hY ht a0 (fun listed s=>(listed.getD x true=false∧listed.getD y true=false∧HV G T (HE is (Gr listed Z1)) s sf1∧HV G T (HE is (Gr listed Z2)) s sf2)∨
  ((listed.getD x true=true∨listed.getD y true=true)∧HV G T (HE is (Gr listed Z1)) s sf1)∨((listed.getD x true=true∨listed.getD y true=true)∧HV G T (HE is (Gr listed Z2)) s sf2)) ?_ ?_ fuel listed s a w a7 hl hc (.inl ⟨a8,a9,ba,bb⟩) hR
 ·intro listed s i o I J h3 M U V Y
  have b5:∀ q,q≠i→(listed.setIfInBounds i true).getD q true=listed.getD q true:=by
   intro q hq;rcases A8 q listed.size with h | h
   ·simp[Array.getD,h,show ¬ i=q from fun e=>hq e.symm]
   ·grind
  have bf:(listed.setIfInBounds i true).getD i true=true:=by
   simp_all
  have bg:∀ q,listed.getD q true=true→(listed.setIfInBounds i true).getD q true=true:=by
   grind
  rcases h3 with⟨a1,E,a3,a4⟩ | ⟨a1,E⟩ | ⟨a1,E⟩
  ·by_cases ey:i=y
   ·obtain⟨s1,k1,k2⟩:=QP ad I J a4 M U V Y (fun j _ h=>by
     grind)
    grind
   ·by_cases ex:i=x
    ·obtain⟨s1,k1,k2⟩:=QP ac I J a3 M U V Y (fun j _ h=>by
      grind)
     grind
    ·obtain⟨s1,k1,k2⟩:=QP ac I J a3 M U V Y (fun j _ h=>by
      grind)
     obtain⟨ca,k3,k4⟩:=QP ad I J a4 M U V Y (fun j _ h=>by
      grind)
     grind
  ·obtain⟨s1,k1,k2⟩:=QP ac I J E M U V Y (fun j hj h=>by
    grind)
   grind
  ·obtain⟨s1,k1,k2⟩:=QP ad I J E M U V Y (fun j hj h=>by
    grind)
   grind
 ·intro listed s h0 I
  have cb:listed.getD x true=true:=by
   cases h:listed.getD x true with
   |true=>rfl
   |false=>
    have I:x∈HS ops.size listed:=by
     simp only[HS,A6,AW];grind
    grind
  rcases I with⟨a1,_⟩ | ⟨_,E⟩ | ⟨_,E⟩
  ·grind
  ·rw[jh a5 h0]at E;simp only[HV]at E;grind
  ·rw[jh a6 h0]at E;simp only[HV]at E;grind
structure GoX (l:Nat) (base:Nat) (w:World) (g:Ghost) (st:St) (w':World) (g':Ghost) (st':St):Prop where
 sr:SR base w' g' st'
 evo:Evo g st g' st'
 im:ImLe w g w' g'
 new:∀ b o,g'.Im b o→g.Im b o∨base≤b
 below:Below base w w'
 kp:∀ (b:Nat) (o:Go.Obj),b≠l→w.heap[b]?=some o→special o=true→Kept w' b o
theorem Go1.x(h:Go1 base w g st w' g' st')(l:Nat):GoX l base w g st w' g' st':=⟨h.sr,h.evo,h.im,h.new,h.below,fun b o _=>h.kp b o⟩
theorem GoX.trans{l:Nat}{w2:World}{g2:Ghost}{st2:St}(h:GoX l base w g st w1 g1 st1)(E:GoX l base w1 g1 st1 w2 g2 st2):GoX l base w g st w2 g2 st2:=
 ⟨E.sr,h.evo.trans E.evo,h.im.trans E.im,fun b o hb=>by
  rcases E.new b o hb with x | x
  ·exact h.new b o x
  ·exact .inr x,h.below.trans E.below,fun b o hl hb I=>(let⟨_,M,J⟩:=h.kp b o hl hb I; let⟨o2,U,V⟩:=E.kp b _ hl M (J.special I); ⟨o2,U,J.trans V⟩)⟩
theorem GoX.fin{l:Nat}(h:GoX l base w g st w' g' st')(hl:∀ (o:Go.Obj),w.heap[l]?=some o→special o=true→Kept w' l o):Go1 base w g st w' g' st':=
 ⟨h.sr,h.evo,h.im,h.new,h.below,fun b o hb E=>by
  by_cases e:b=l
  ·grind
  ·exact h.kp b o e hb E⟩
theorem GoX.put{l:Nat}{o o':Go.Obj}(I:SR base w g st)(ho:w.heap[l]?=some o)(hs:special o=true)(a2:∃ ds,o=.deferred ds)(hl:base≤l):GoX l base w g st (w.putObj l o') g st:=by
 have J:∀ b x,g.Im b x→(w.putObj l o').cell? ⟨b,x,none⟩=w.cell? ⟨b,x,none⟩:=by
  intro b x hb
  have E:b≠l:=by
   rintro rfl;have:=I.im b x hb;unfold World.cell? at this;grind
  simp only[World.cell?,World.putObj_heap_other E]
 have U:ImLe w g (w.putObj l o') g:=⟨fun b x hb=>⟨hb,J b x hb⟩,fun b x hb V=>by
  have E:b≠l:=by
   rintro rfl;rw[ho]at hb;obtain rfl:=Az hb;cases o <;> first | (simp[Nn]at V; done) | (simp[special]at hs; done)
  rw[World.putObj_heap_other E]; exact hb⟩
 refine⟨⟨?_,?_,I.inj,?_,I.dis,by rw[World.putObj_size]; exact I.size⟩,Evo.refl _ _,U,fun _ _ h=>.inl h,⟨rfl,rfl,rfl,by rw[World.putObj_size]; exact Ax _,fun k hk=>World.putObj_heap_other (by omega)⟩,fun b o1 hb Y _=>.same (by rw[World.putObj_heap_other hb]; exact Y)⟩
 ·intro k ob hk hm;have hm:=I.mp k ob hk hm;refine hm.mono U (Evo.refl _ _) rfl (World.putObj_heap_other ?_);rintro rfl;obtain⟨x,hb,_,_,_,h5,_⟩:=hm.at;grind
 ·intro k ob hk hm;obtain⟨C,e,hb,M,ab,V,hC,ac⟩:=I.blk k ob hk hm
  have E:g.β k≠l:=by
   grind
  refine⟨C,e,by rw[World.putObj_heap_other E]; exact hb,M,ab,V,hC,fun i j d hd=>?_⟩;obtain⟨Y,v,h2,h3⟩:=ac i j d hd;exact⟨Y,v,h2,h3.mono U (Evo.refl _ _)⟩
 ·intro b x hb;rw[J b x hb]; exact I.im b x hb
theorem YOK.mono{y:Nat→List D→St→Option (D×St)}(h:YOK P G y base w0 g0 st0)(I:Go1 base w0 g0 st0 w1 g1 st1):YOK P G y base w1 g1 st1:=
 fun l w g st st' ds vs d E=>h l w g st st' ds vs d (I.trans E)
theorem z9{x:List Deferred}{w:World}{g:Ghost}{st:St}:∀ (ps:List Nat) (ds:List D) (vs:List Value) (fr:Frame) (tmps:Array Value),ds.length=ps.length→ds.length=vs.length→(∀ p∈ps,p<tmps.size)→FR w g st fr {tmps:=tmps,defers:=x}→
  (∀ (i:Nat) d v,ds[i]?=some d→vs[i]?=some v→RepV w g st d v)→
  FR w g st (JH fr ps ds) {tmps:=(ps.zip vs).foldl (fun tmps p=>tmps.setIfInBounds p.1 p.2) tmps,defers:=x}
 |[],ds,vs,fr,tmps,E,I,_,J,_=>by
  simp only[List.zip_nil_left,List.foldl_nil]
  cases ds with
  |nil=>exact J
  |cons d ds=>simp at E
 |p::ps,ds,vs,fr,tmps,E,I,U,J,M=>by
  cases ds with
  |nil=>simp at E
  |cons d ds=>
   cases vs with
   |nil=>simp at I
   |cons v vs=>
    simp only[List.zip_cons_cons,List.foldl_cons,JH];refine z9 ps ds vs _ _ (by simpa using E) (by simpa using I) (fun q hq=>?_) ?_ (fun i d v V hv=>M (i+1) d v (by simpa using V) (by simpa using hv))
    ·grind
    ·exact FR.put (dst:=some p) (a:={tmps:=tmps,defers:=x}) J (fun t Y=>by cases Y; exact U p (by simp)) (M 0 d v rfl rfl)
theorem nP:∀ (l:List (Nat×Value)) (tmps:Array Value),(l.foldl (fun tmps p=>tmps.setIfInBounds p.1 p.2) tmps).size=tmps.size
 |[],_=>rfl
 |p::l,tmps=>by rw[List.foldl_cons,nP l]; simp
theorem R.drew(h:R G base n w0 g0 st0 dl s a w):R G base n w0 g0 st0 dl s a {w with drawn:=w.drawn+1}:=by
 obtain⟨g,h⟩:=h;have E:=h.sr.drew (w.drawn+1);exact⟨g,h.go E (h.fr.mono E.im E.evo) rfl h.sz⟩
end
end Go.Proofs.YtijnglngaogdjaaGreatDoor.PI
namespace Go.Proofs.YtijnglngaogdjaaGreatDoor.PI
open Go Go.RowKit
variable {o o':Obj}{st st':St}{f j k key:Nat}{v:Value}{d:D}{g g':Ghost}{w w':World}{σ:List Nat}{ops:Array Oper}{vs:List Value}{fn:Func}{ds:List D}{F:PF}{hints:List (List Nat)}
section
variable {P:Program} {il:List Nat} {G:Dj} {T:Tbl} {base n:Nat} {w0:World} {g0:Ghost} {st0:St} {dl:List Deferred} {ro:Option Nat}
theorem Sk{i:Nat}(h:st[i]?=some o)(hi:i<k):(cut k st)[i]?=some {o with els:=if o.row then o.els else o.els.map (HD k)}:=by
 simp[cut,hi,h]
theorem Vh{i:Nat}(h:(cut k st)[i]?=some o'):i<k∧∃ o,st[i]?=some o∧o'={o with els:=if o.row then o.els else o.els.map (HD k)}:=by
 simp only[cut,AD,DH,BM]at h;grind
theorem Vi(k:Nat)(o:Obj):(if o.row then o.els else o.els.map (HD k)).length=o.els.length:=by
 grind
theorem rL(h:RepV w g st d v):RepV w g (cut k st) (HL k d) v:=by
 cases h with
 |int k n=>exact .int k n
 |bool b=>exact .bool b
 |str s=>exact .str s
 |nilp=>exact .nilp
 |nilm=>exact .nilm
 |gmap es b V clock E I J=>exact .gmap es b V clock E I J
 |nilf=>exact .nilf
 |slcE sz t a cap h=>exact .slcE sz t a cap h
 |slc els t b off cap sz val E I J Y M h5 h6 h7=>exact RepV.pure (ImLe.refl _ _) (.slc els t b off cap sz val E I J Y M h5 h6 h7) rfl
 |clo f ds vs E I=>exact .junk _
 |row key tot off len o v U E I J M=>
  simp only[HL]
  split
  ·rename_i hk;refine .row key tot off len _ v U (Sk E hk) I (by simpa[Vi]using J) fun e=>?_;grind
  ·exact .junk _
 |bsl key off n sz ag o cap E I J M=>
  simp only[HL]
  split
  ·rename_i hk; exact .bsl key off n sz ag _ cap (Sk E hk) I J M
  ·exact .junk _
 |mapv key o E I=>
  simp only[HL]
  split
  ·rename_i hk; exact .mapv key _ (Sk E hk) I
  ·exact .junk _
 |ptr key off o E I J=>
  simp only[HL]
  split
  ·rename_i hk; exact .ptr key off _ (Sk E hk) I J
  ·exact .junk _
 |rptr key tot i off o v U E I J M=>
  simp only[HL]
  split
  ·rename_i hk;refine .rptr key tot i off _ v U (Sk E hk) I (by simpa[Vi]using J) fun e=>?_;grind
  ·exact .junk _
 |eptr el off b o val U E I=>exact RepV.eptr_any (ImLe.refl _ _) (.eptr el off b o val U E I)
 |agg ds vs E I=>exact .junk _
 |tup ds vs E I=>exact .junk _
 |junk v=>exact .junk v
theorem jq(h:RepV w g st d v):RepV w g (cut k st) (GW k d) v:=by
 cases d with
 |clo f l=>
  cases h with
  |clo _ _ vs I J=>
   refine .clo f _ vs (by simpa using I) fun i d v E hv=>?_;simp only[AD,DH]at E;obtain⟨d0,M,rfl⟩:=E;exact rL (J i d0 v M hv)
 |_=>exact rL h
theorem gy(h:RepV w g st d v):RepV w g (cut k st) (HD k d) v:=by
 cases d with
 |agg l=>
  cases h with
  |agg _ vs I J=>
   refine .agg _ vs (by simpa using I) fun i d v E hv=>?_;simp only[AD,DH]at E;obtain⟨d0,M,rfl⟩:=E;exact jq (J i d0 v M hv)
 |tup l=>exact .junk _
 |_=>exact jq h
theorem yYt(k:Nat)(d:D):(GW k d).cells=[GW k d]:=by
 cases d <;> simp only[GW,HL] <;> first | rfl | (split <;> rfl)
theorem wo{x:D}(h:x.cells=[x])(l:List D):x≠.agg l:=by
 rintro rfl;have h:l=[.agg l]:=h;have:=congrArg (fun l:List D=>SizeOf.sizeOf l) h;grind
theorem YCz(k:Nat)(h:d.cells=[d]):HD k d=GW k d:=by
 cases d with
 |agg l=>exact absurd rfl (wo h l)
 |_=>rfl
theorem ki(k:Nat)(h:d.cells=[d]):(HD k d).cells=[HD k d]:=by rw[YCz k h]; exact yYt k d
theorem zh{E:D→D}(V:∀ d v,RepV w g st d v→RepV w' g' st' (E d) v){l:List D}{sz:Nat}(hl:l.length=sz)(hs:1<sz){I J:Value}
  (hk:RepV w g st (Gc sz (.agg l)) I) (hv:RepV w g st (HN sz (.agg l)) J):RepV w' g' st' (Gc sz (.agg (l.map E))) I∧RepV w' g' st' (HN sz (.agg (l.map E))) J:=by
 constructor
 ·by_cases M:sz=2
  ·subst M
   match l,hl with
   |[a,b],_=>exact V _ _ hk
  ·have e:∀ l,Gc sz (.agg l)=.agg (l.take (sz - 1)):=fun l=>by simp[Gc,D.mk,M]
   rw[e]at hk ⊢
   cases hk with
   |agg _ vs Y q2=>
    rw[← B6];refine .agg _ vs (by simpa using Y) fun i d v U hv=>?_;grind
 ·have U:∃ x,l.drop (sz - 1)=[x]:=by
   have:(l.drop (sz - 1)).length=1:=by rw[AI]; omega
   match l.drop (sz - 1),this with
   |[x],_=>exact⟨x,rfl⟩
  obtain⟨x,hx⟩:=U;simp only[HN,← Co,hx]at hv ⊢;grind
theorem MapAt.mkRec{base:Nat}{b:Nat}(E:o.sz=1000003)(h:dY base w b o):MapAt base w g st b o:=by
 unfold MapAt; rwa [if_pos E]
theorem MapAt.mkOld{base:Nat}{b:Nat}(E:o.sz≠1000003)(h:MapAt0 base w g st b o):MapAt base w g st b o:=by
 unfold MapAt; rwa [if_neg E]
theorem YEy{base:Nat}(h:SR base w g st)(k:Nat):SR base w g (cut k st):=by
 refine⟨?_,?_,?_,h.im,?_,h.size⟩
 ·intro i o' hi hm;obtain⟨ba,o,ho,rfl⟩:=Vh hi;have hm:o.isMap=true:=hm;have E:o.row=false:=j3 hm;have a0:=h.mp i o ho hm
  by_cases hs:o.sz=1000003
  ·obtain⟨r,n,a1,a2,a3,a4⟩:=a0.rec' hs;refine MapAt.mkRec hs ⟨r,n,a1,a2,by simp[E,a3,HD,GW,HL],a4⟩
  obtain⟨es,clock,J,U,V,h4,h5,bc⟩:=a0.old hs;refine MapAt.mkOld hs ?_;refine⟨es,clock,J,U,by rw[V,Vi],?_,?_,bc⟩
  ·intro x hx;simp only[E,Al,if_false,AU]at hx;obtain⟨y,Y,rfl⟩:=hx;obtain⟨l,rfl,hl⟩:=h4 y Y;exact⟨_,rfl,by simpa using hl⟩
  ·intro j e el he a5;simp only[E,Al,if_false,AD,DH]at a5;obtain⟨bd,aa,rfl⟩:=a5;obtain⟨l,rfl,hl⟩:=h4 bd (Aj aa);have h6:=h5 j e _ he aa;exact zh (fun d v h=>jq h) hl (iK hm) h6.1 h6.2
 ·intro i o' hi hm;obtain⟨ba,o,ho,rfl⟩:=Vh hi;have hm:o.isMap=false:=hm;obtain⟨C,e,hb,ae,a8,hx,I,ab⟩:=h.blk i o ho hm;refine⟨C,e,hb,ae,a8,?_,?_,?_⟩
  ·intro x M
   by_cases E:o.row=true
   ·grind
   ·simp only[E,Al,if_false,AU]at M;simp only[E,Al,if_false]at I;obtain⟨y,Y,rfl⟩:=M;rw[ki k (I.2.2 y Y),I.2.1]; rfl
  ·by_cases E:o.row=true
   ·grind
   ·simp only[E,Al,if_false]at I ⊢;refine⟨by simpa using I.1,I.2.1,fun x M=>?_⟩;simp only[AU]at M;obtain⟨y,Y,rfl⟩:=M;exact ki k (I.2.2 y Y)
  ·intro i' j d hd
   by_cases E:o.row=true
   ·simp only[E,if_true]at hd;obtain⟨J,v,U,V⟩:=ab i' j d hd;exact⟨J,v,U,V.pure (ImLe.refl _ _) (J E)⟩
   ·simp only[E,Al,if_false]at hd I;obtain⟨e',he,hj⟩:=Iw hd;simp only[AD,DH]at he;obtain⟨e0,ac,rfl⟩:=he;rw[ki k (I.2.2 e0 (Aj ac))]at hj
    have bg:j=0∧d=HD k e0:=by
     grind
    obtain⟨rfl,rfl⟩:=bg;obtain⟨_,v,U,V⟩:=ab i' 0 e0 (HU ac (by rw[I.2.2 e0 (Aj ac)]; rfl));exact⟨fun e=>absurd e E,v,U,gy V⟩
 ·intro k1 k2 o1 o2 J U he;obtain⟨_,p1,q1,_⟩:=Vh J;obtain⟨_,p2,q2,_⟩:=Vh U;exact h.inj _ _ _ _ q1 q2 he
 ·intro k1 o1 x J hi;obtain⟨_,p1,q1,rfl⟩:=Vh J;have:=h.dis _ _ _ q1 hi;grind
def GS(n:Nat)(σ:List Nat)(j:Nat):Nat:=if j<n then j else σ.getD (j - n) 0
def FW(n:Nat)(σ:List Nat)(g:Ghost):Ghost:={β:=fun j=>g.β (GS n σ j),γ:=fun j=>g.γ (GS n σ j),Im:=g.Im}
theorem u9:∀ (σ:List Nat) (b key j:Nat),Qm σ b key=some j→b≤j∧σ[j - b]?=some key
 |[],_,_,_,h=>by cases h
 |k::r,b,key,j,h=>by
  simp only[Qm]at h
  split at h
  ·grind
  ·obtain⟨E,I⟩:=u9 r (b+1) key j h;grind
theorem SK{n:Nat}(h:EW n σ key=some j):GS n σ j=key∧(j<n∨(n≤j∧σ[j - n]?=some key)):=by
 unfold EW at h
 split at h
 ·rename_i hk;simp only[Db]at h;subst h;exact⟨by simp[GS,hk],.inl hk⟩
 ·obtain⟨E,I⟩:=u9 σ n key j h;exact⟨by simp[GS,Nat.not_lt.2 E,Af,I],.inr ⟨E,I⟩⟩
theorem P0(n:Nat)(σ:List Nat)(o:Obj):(Fg n σ o).els.length=o.els.length:=by
 simp only[Fg]; split <;> simp
theorem SQ{n:Nat}(hn:n≤st.length)(h:EW n σ key=some j)(J:st[key]?=some o):(picked n σ st)[j]?=some (Fg n σ o):=by
 obtain⟨I,E⟩:=SK h;have hl:((st.take n).map (Fg n σ)).length=n:=by simp; omega
 rcases E with E | ⟨E,M⟩
 ·have:j=key:=by rw[← I]; simp[GS,E]
  subst this;rw[picked,At (by omega)];grind
 ·rw[picked,AM (by omega),hl];grind
theorem yX9{n:Nat}(hn:n≤st.length)(J:∀ k∈σ,k<st.length)(h:(picked n σ st)[j]?=some o') :
  ∃ o,st[GS n σ j]?=some o∧o'=Fg n σ o∧(j<n∨(n≤j∧σ[j - n]?=some (GS n σ j))):=by
 have hl:((st.take n).map (Fg n σ)).length=n:=by simp; omega
 rcases A8 j n with hj | hj
 ·rw[picked,At (by omega)]at h;simp only[AD,BM,hj,if_true,DH]at h;obtain⟨o,E,I⟩:=h;exact⟨o,by simpa[GS,hj]using E,I.symm,.inl hj⟩
 ·rw[picked,AM (by omega),hl]at h;simp only[AD,DH]at h;obtain⟨k,E,I⟩:=h;have hk:=J k (Aj E);have M:GS n σ j=k:=by simp[GS,Nat.not_lt.2 hj,Af,E]
  grind
theorem UH{f:Nat→D}{o:Option Nat}(h:∀ j,o=some j→RepV w g st (f j) v):RepV w g st (Jq f o) v:=by
 cases o with
 |none=>exact .junk _
 |some j=>exact h j rfl
theorem rC{n:Nat}(hn:n≤st.length)(h:RepV w g st d v):RepV w (FW n σ g) (picked n σ st) (GR n σ d) v:=by
 have Y:ImLe w g w (FW n σ g):=⟨fun b o h=>⟨h,rfl⟩,fun _ _ h _=>h⟩
 cases h with
 |int k n=>exact .int k n
 |bool b=>exact .bool b
 |str s=>exact .str s
 |nilp=>exact .nilp
 |nilm=>exact .nilm
 |gmap es b V clock E I J=>exact .gmap es b V clock E I J
 |nilf=>exact .nilf
 |slcE sz t a cap h=>exact .slcE sz t a cap h
 |slc els t b off cap sz val E I J aa M h5 h6 h7=>exact RepV.pure Y (.slc els t b off cap sz val E I J aa M h5 h6 h7) rfl
 |clo f ds vs E I=>exact .junk _
 |row key tot off len o v U E I J M=>
  refine UH fun j hj=>?_;refine .row j tot off len _ v U (SQ hn hj E) I (by rw[P0]; exact J) fun e=>?_;have:=M (by rw[P0]at e; exact e);simp only[FW,(SK hj).1];exact this
 |bsl key off m sz ag o cap E I J M=>
  refine UH fun j hj=>?_;have:=RepV.bsl (w:=w) (g:=FW n σ g) j off m sz ag _ cap (SQ (σ:=σ) hn hj E) I J M;simp only[FW,(SK hj).1]at this;exact this
 |mapv key o E I=>
  refine UH fun j hj=>?_;have:=RepV.mapv (w:=w) (g:=FW n σ g) j _ (SQ (σ:=σ) hn hj E) I;simp only[FW,(SK hj).1]at this;exact this
 |ptr key off o E I J=>
  refine UH fun j hj=>?_;have:=RepV.ptr (w:=w) (g:=FW n σ g) j off _ (SQ (σ:=σ) hn hj E) I J;simp only[FW,(SK hj).1]at this;exact this
 |rptr key tot i off o v U E I J M=>
  refine UH fun j hj=>?_;refine .rptr j tot i off _ v U (SQ hn hj E) I (by rw[P0]; exact J) fun e=>?_;have:=M (by rw[P0]at e; exact e);simp only[FW,(SK hj).1];exact this
 |eptr el off b o val U E I=>exact RepV.eptr_any Y (.eptr el off b o val U E I)
 |agg ds vs E I=>exact .junk _
 |tup ds vs E I=>exact .junk _
 |junk v=>exact .junk v
theorem jf{n:Nat}(hn:n≤st.length)(h:RepV w g st d v):RepV w (FW n σ g) (picked n σ st) (EI n σ d) v:=by
 cases d with
 |clo f l=>
  cases h with
  |clo _ _ vs I J=>
   refine .clo f _ vs (by simpa using I) fun i d v E hv=>?_;simp only[AD,DH]at E;obtain⟨d0,M,rfl⟩:=E;exact rC hn (J i d0 v M hv)
 |_=>exact rC hn h
theorem Yc5{n:Nat}(hn:n≤st.length)(h:RepV w g st d v):RepV w (FW n σ g) (picked n σ st) (Eu n σ d) v:=by
 cases d with
 |agg l=>
  cases h with
  |agg _ vs I J=>
   refine .agg _ vs (by simpa using I) fun i d v E hv=>?_;simp only[AD,DH]at E;obtain⟨d0,M,rfl⟩:=E;exact jf hn (J i d0 v M hv)
 |tup l=>exact .junk _
 |_=>exact jf hn h
theorem yXt(n:Nat)(σ:List Nat)(d:D):(EI n σ d).cells=[EI n σ d]:=by
 cases d <;> simp only[EI,GR,Jq] <;> first | rfl | (split <;> rfl)
theorem YB9(n:Nat)(σ:List Nat)(h:d.cells=[d]):Eu n σ d=EI n σ d:=by
 cases d with
 |agg l=>exact absurd rfl (wo h l)
 |_=>rfl
theorem kj(n:Nat)(σ:List Nat)(h:d.cells=[d]):(Eu n σ d).cells=[Eu n σ d]:=by rw[YB9 n σ h]; exact yXt n σ d
theorem uf(lo hi:Nat):∀ (l acc:List Nat),(acc.Nodup∧∀ k∈acc,lo≤k∧k<hi)→(E1 lo hi l acc).Nodup∧∀ k∈E1 lo hi l acc,lo≤k∧k<hi
 |[],_,h=>h
 |k::r,acc,h=>by
  simp only[E1];refine uf lo hi r _ ?_;grind
theorem Yds{base:Nat}(h:SR base w g st){n:Nat}(hn:n≤st.length)(hd:σ.Nodup)(hσ:∀ k∈σ,n≤k∧k<st.length):SR base w (FW n σ g) (picked n σ st):=by
 have inv:=fun {j:Nat} {o':Obj} (h:(picked n σ st)[j]?=some o')=>yX9 hn (fun k hk=>(hσ k hk).2) h;refine⟨?_,?_,?_,h.im,?_,h.size⟩
 ·intro i o' hi hm;obtain⟨o,ho,rfl,a9⟩:=inv hi;have hm:o.isMap=true:=hm;have E:o.row=false:=j3 hm;have a5:=h.mp _ o ho hm
  by_cases hs:o.sz=1000003
  ·obtain⟨r,n,a1,a2,a3,a4⟩:=a5.rec' hs;refine MapAt.mkRec hs ⟨r,n,a1,a2,by simp[Fg,E,a3,Eu,EI,GR],a4⟩
  obtain⟨es,clock,M,V,Y,h4,h5,be⟩:=a5.old hs;refine MapAt.mkOld hs ?_;refine⟨es,clock,M,V,by rw[Y,P0],?_,?_,be⟩
  ·intro x hx;simp only[Fg,E,Al,if_false,AU]at hx;obtain⟨y,hy,rfl⟩:=hx;obtain⟨l,rfl,hl⟩:=h4 y hy;exact⟨_,rfl,by rw[Bc]; exact hl⟩
  ·intro j e el he a6;simp only[Fg,E,Al,if_false,AD,DH]at a6;obtain⟨bf,ab,rfl⟩:=a6;obtain⟨l,rfl,hl⟩:=h4 bf (Aj ab);have h6:=h5 j e _ he ab;exact zh (fun d v h=>jf hn h) hl (iK hm) h6.1 h6.2
 ·intro i o' hi hm;obtain⟨o,ho,rfl,a9⟩:=inv hi;have hm:o.isMap=false:=hm;obtain⟨C,e,hb,ah,bb,hx,I,ac⟩:=h.blk _ o ho hm;refine⟨C,e,hb,ah,bb,?_,?_,?_⟩
  ·intro x J;simp only[Fg]at J ⊢
   by_cases E:o.row=true
   ·grind
   ·simp only[E,Al,if_false,AU]at J;simp only[E,Al,if_false]at I;obtain⟨y,hy,rfl⟩:=J;rw[kj n σ (I.2.2 y hy),I.2.1]; rfl
  ·simp only[Fg]
   by_cases E:o.row=true
   ·simp only[E,if_true]at I ⊢; exact I
   ·simp only[E,Al,if_false]at I ⊢;refine⟨by simpa using I.1,I.2.1,fun x J=>?_⟩;simp only[AU]at J;obtain⟨y,hy,rfl⟩:=J;exact kj n σ (I.2.2 y hy)
  ·intro i' j d U;simp only[Fg]at U ⊢
   by_cases E:o.row=true
   ·simp only[E,if_true]at U;obtain⟨M,v,V,Y⟩:=ac i' j d U;exact⟨M,v,V,RepV.pure (g:=g) (g':=FW n σ g) ⟨fun b o h=>⟨h,rfl⟩,fun _ _ h _=>h⟩ Y (M E)⟩
   ·simp only[E,Al,if_false]at U I;obtain⟨e',he,hj⟩:=Iw U;simp only[AD,DH]at he;obtain⟨e0,ad,rfl⟩:=he;rw[kj n σ (I.2.2 e0 (Aj ad))]at hj
    have b1:j=0∧d=Eu n σ e0:=by
     grind
    obtain⟨rfl,rfl⟩:=b1;obtain⟨_,v,V,Y⟩:=ac i' 0 e0 (HU ad (by rw[I.2.2 e0 (Aj ad)]; rfl));exact⟨fun e=>absurd e E,v,V,Yc5 hn Y⟩
 ·intro k1 k2 o1 o2 M V he;obtain⟨p1,q1,_,r1⟩:=inv M;obtain⟨p2,q2,_,r2⟩:=inv V;have e:=h.inj _ _ _ _ q1 q2 he;rcases r1 with r1 | ⟨r1,s1⟩ <;> rcases r2 with r2 | ⟨r2,s2⟩
  ·simpa[GS,r1,r2]using e
  ·have:=(hσ _ (Aj s2)).1;rw[← e]at this;simp only[GS,r1,if_true]at this;omega
  ·have:=(hσ _ (Aj s1)).1;rw[e]at this;simp only[GS,r2,if_true]at this;omega
  ·rw[e]at s1;have Y:=(List.getElem?_inj (Ab.1 s1).1 hd).1 (s1.trans s2.symm);omega
 ·intro k1 o1 x M hi;obtain⟨o,q1,rfl,_⟩:=inv M;have:=h.dis _ _ _ q1 hi;exact⟨this.1,by rw[P0]; exact this.2⟩
theorem gz{w:World}{g:Ghost}{st:St}{n:Nat}{σ:List Nat}(hn:n≤st.length){fr:Frame}{a:Act}(h:FR w g st fr a):∀ (keep:List Nat),FR w (FW n σ g) (picked n σ st) (Gf (keep.map fun q=>(q,Eu n σ (fr q)))) a
 |[],_=>.junk _
 |q::r,s=>by
  simp only[Aw,Gf]
  split
  ·rename_i e; subst e; exact Yc5 hn (h s)
  ·exact gz hn h r s
theorem Evo.len(h:Evo g st g' st'):st.length≤st'.length:=by
 rcases A8 st'.length st.length with E | E
 ·obtain⟨o',I,_⟩:=h st'.length st[st'.length] (Ah E);grind
 ·exact E
theorem Evo.cut(h:Evo g st g' st')(hk:st.length≤k):Evo g st g' (PI.cut k st'):=by
 intro i o hi;obtain⟨o',E,I,J,M,U,V⟩:=h i o hi;have:i<st.length:=(Ab.1 hi).1;exact⟨_,Sk E (by omega),I,J,by simpa[Vi]using M,fun e=>U (by simpa[Vi]using e),V⟩
theorem Go1.cut(h:Go1 base w g st w' g' st')(hk:st.length≤k):Go1 base w g st w' g' (PI.cut k st'):=
 ⟨YEy h.sr k,h.evo.cut hk,h.im,h.new,h.below,h.kp⟩
theorem Go1.picked(h:Go1 base w g st w' g' st'){n:Nat}(hk:st.length≤n)(hn:n≤st'.length)(I:σ.Nodup)(J:∀ k∈σ,n≤k∧k<st'.length):Go1 base w g st w' (FW n σ g') (PI.picked n σ st'):=by
 refine⟨Yds h.sr hn I J,?_,⟨h.im.im,h.im.kp⟩,h.new,h.below,h.kp⟩;intro i o hi;obtain⟨o',M,U,V,Y,h5,h6⟩:=h.evo i o hi;have ac:i<st.length:=(Ab.1 hi).1;have E:GS n σ i=i:=by simp[GS,show i<n by omega]
 refine⟨_,SQ (key:=i) (j:=i) hn (by simp[EW,show i<n by omega]) M,U,V,by rw[P0]; exact Y,fun e=>?_,fun e=>?_⟩
 ·simp only[FW,E]; exact h5 (by rw[P0]at e; exact e)
 ·simp only[FW,E]; exact h6 e
theorem R.restrict{s:PS}{a:Act}{w:World}(h:R G base n w0 g0 st0 dl s a w)(keep:List Nat)(k:Nat)(hk:st0.length≤k):R G base n w0 g0 st0 dl (restrict keep k s) a w:=by
 obtain⟨g,h⟩:=h;unfold PI.restrict;generalize hm:(if k≤s.st.length then k else s.st.length)=m;have E:m≤s.st.length:=by rw[← hm]; split <;> omega
 have J:st0.length≤m:=by
  have:=h.go1.evo.len;grind
 generalize hl:E1 m s.st.length (UY keep m s) []=σ;have I:=uf m s.st.length (UY keep m s) [] ⟨List.nodup_nil,fun _ h=>by cases h⟩;rw[hl]at I;exact⟨FW m σ g,h.go1.picked J E I.1 I.2,gz E h.fr keep,h.gl.mono ⟨fun b o h=>⟨h,rfl⟩,fun _ _ h _=>h⟩,h.df,h.sz⟩
theorem tj{w:World}{g:Ghost}{st:St}{fr:Frame}{a:Act}(h:FR w g st fr a):∀ (keep:List Nat),FR w g st (Gf (keep.map fun q=>(q,fr q))) a
 |[],_=>.junk _
 |q::r,s=>by
  simp only[Aw,Gf]
  split
  ·rename_i e; subst e; exact h s
  ·exact tj h r s
theorem R.keepAll{s:PS}{a:Act}(h:R G base n w0 g0 st0 dl s a w)(keep:List Nat):R G base n w0 g0 st0 dl (PI.keepAll keep s) a w:=by
 obtain⟨g,h⟩:=h;exact⟨g,h.go1,tj h.fr keep,h.gl,h.df,h.sz⟩
theorem R.restrictAt{s:PS}{a:Act}{w:World}(h:R G base n w0 g0 st0 dl s a w)(keep:List Nat)(m:Nat)(σ:List Nat)(E:m≤s.st.length)(I:st0.length≤m)(J:σ.Nodup)(M:∀ k∈σ,m≤k∧k<s.st.length):R G base n w0 g0 st0 dl (restrictAt keep m σ s) a w:=by
 obtain⟨g,h⟩:=h;exact⟨FW m σ g,h.go1.picked I E J M,gz E h.fr keep,h.gl.mono ⟨fun b o h=>⟨h,rfl⟩,fun _ _ h _=>h⟩,h.df,h.sz⟩
theorem yn{l:List PI}{bad:Option (Nat×Nat)}{E:List Nat}(J:Ql ops.size E=true){F:List (Option Foot)}(hF:F.length=E.length)
  (hp:∀ (p q i j:Nat),q<p→E[p]?=some i→E[q]?=some j→((Fe ops.toList []).getD i 0).testBit j=false→bad≠some (j,i)→JS (l.getD j default,F.getD q none) (l.getD i default,F.getD p none)) :
  Qy (Fe ops.toList []) l ops.size bad (E.zip F)∧(∀ z∈E.zip F,z.1<ops.size)∧(∀ (listed:Array Bool),(∀ i,i<ops.size→listed.getD i true=false)→HE l (Gr listed (E.zip F))=(E.map fun k=>l.getD k default).zip F):=by
 simp only[Ql,Ac,beq_iff_eq,Ag,AW]at J;obtain⟨h1,h2⟩:=J;have U:∀ x∈CS ops.size,x∈E:=fun x hx=>by simpa using h2 x (AW.1 hx)
 have I:E.Perm (CS ops.size):=(zY _ _ CC U (by rw[List.length_range]; omega)).symm;have V:E.Nodup:=I.nodup_iff.2 CC;have Y:∀ k∈E,k<ops.size:=fun k hk=>AW.1 (I.mem_iff.1 hk)
 have M:(E.zip F).map (·.1)=E:=by
  rw[List.map_fst_zip (by omega)]
 refine⟨⟨by rw[M]; exact V,?_,?_⟩,?_,?_⟩
 ·grind
 ·rw[List.pairwise_iff_getElem];grind
 ·intro z hz;exact Y z.1 (by rw[← M]; exact List.mem_map_of_mem hz)
 ·intro listed hu
  have:Gr listed (E.zip F)=E.zip F:=by
   simp only[Gr,BZ];grind
  rw[this,HE];apply Bg;grind
def Mm:Ex→Exit
 |.next=>.normal
 |.exit id=>.exit id
 |.ret=>.ret
 |.panic t d=>.panic (LZ t d)
theorem Ye6(hT:TblOK P G T)(hY:YOK P G T.y base w0 g0 st0){id:Nat}{bb:Bool}{h:List (List Nat)}{r:PC×List (List Nat)}(I:H5 P il n h (.region id ops bb)=some r){fuel:Nat}{s s':PS}{e:Ex}(E:r.1.exec G T fuel s=some (e,s'))
  {a:Act}  (hR:R G base n w0 g0 st0 dl s a w) {Q:Exit→Act→World→Prop} (hQ:∀ a' w',R G base n w0 g0 st0 dl s' a' w'→Q (Mm e) a' w'):(Code.region id ops bb).wpIn (Wr ro) 0 P Q a w:=by
 have b1:∀ l',r.1=.ops l'→e=.next∧E6 G T l' s=some s':=by
  intro l' Y;rw[Y]at E;simp only[PC.exec]at E;grind
 unfold H5 at I
 cases bb with
 |false=>
  simp only[Al,if_false]at I
  split at I
  ·rename_i pre d1 t xo hp;obtain⟨o1,o2,hl,Y,h3,h2,c9,da,db,u,hu,dc⟩:=yW9 hp
   split at I
   case h_2=>
    simp only[Db]at I;subst I;simp[PC.exec]at E
   rename_i l x b3 dd;simp only[Db]at I;subst I;simp only[PC.exec]at E
   split at E
   case h_2=>cases E
   rename_i s1 J
   split at E
   case isFalse=>cases E
   rename_i hi;simp only[Db,Dx]at E;obtain⟨rfl,rfl⟩:=E;refine wpIn_region_list ?_;rw[hl];exact UD hT hY _ _ _ _ _ _ b3 J hR fun a' w' a7=>Yvg a7 Y h3 h2 c9 da db hu dc dd hi (fun de c4=>hQ de w' c4)
  ·simp only[DH]at I;obtain⟨l,hl,rfl⟩:=I
   by_cases aa:l.any (TG il)=true
   ·simp only[aa,if_true,PC.exec]at E
    split at E
    ·rename_i s1 J;simp only[Db,Dx]at E;obtain⟨rfl,rfl⟩:=E;exact wpIn_region_list (j6 hT hY _ _ _ _ _ _ hl J hR hQ)
    ·simp only[DH,Dx]at E;obtain⟨⟨t,d,s2⟩,E,rfl,rfl⟩:=E;exact wpIn_region_list (j7 hT hY _ _ _ _ _ _ hl E hR hQ)
   ·obtain⟨rfl,hs⟩:=b1 l (by simp only[aa,if_false,Al]);exact wpIn_region_list (j6 hT hY _ _ _ _ _ _ hl hs hR hQ)
 |true=>
  simp only[if_true]at I
  split at I
  case h_2=>cases I
  rename_i l hl;have hlen:=(Uc hl).1;have b3:l.length=ops.size:=by simpa using hlen
  have hu:∀ i,i<ops.size→(CX ops.size false).getD i true=false:=by
   simp_all
  have h0:(HS ops.size (CX ops.size false)).length≤ops.size:=by
   unfold HS;grind
  have ch:ND ops.toList (CX ops.size false):=by
   intro i o _ hi;grind
  have a8:Ql ops.size (CS ops.size)=true:=by simp[Ql]
  have kh:(CS ops.size).map (fun k=>l.getD k default)=l:=by
   apply Bg;grind
  have bd:∀ (F:List (Option Foot)),F.length=l.length→HV G T (l.zip F) s s'→e=.next→P.follows .mixedOrders=true→OB ops.toList=true→
    (∀ (i j:Nat) (x y:PI),l[j]?=some x→l[i]?=some y→j<i→((Fe ops.toList []).getD i 0).testBit j=false→JS (x,F.getD j none) (y,F.getD i none))→(Code.region id ops true).wpIn (Wr ro) 0 P Q a w:=by
   intro F hF hs he c5 c6 hp;subst he
   obtain⟨k1,k2,k3⟩:=yn (l:=l) (bad:=none) a8 (F:=F) (by simp[hF,b3]) (fun p q i j k0 hi hj hm _=>by
    have k4:=(Ab.1 hi).1;grind)
   refine wpIn_region_any c5 (Yq4 hT hY hl c6 k1 k2 hQ ops.size _ s a _ (by simp) h0 ch ?_ hR.drew);grind
  split at I
  case isFalse=>
   simp only[Db]at I;subst I;simp[PC.exec]at E
  rename_i hc;simp only[Ac]at hc
  have d0:∀ (x y:Nat) (keep:List Nat) (q1 q2:List (PI×Bool×List Nat)),Om (Fe ops.toList []) l (some (x,y)) (CS ops.size)=some q1→Om (Fe ops.toList []) l (some (y,x)) (Mk (Fe ops.toList []) ops.size x y)=some q2→
    Ql ops.size (Mk (Fe ops.toList []) ops.size x y)=true→x≠y→(∀ k,k=x∨k=y→k<ops.size)→PC.exec G T fuel (.any2 keep q1 q2) s=some (e,s')→(Code.region id ops true).wpIn (Wr ro) 0 P Q a w:=by
   intro x y keep q1 q2 b4 b5 V b6 bf U;simp only[PC.exec]at U
   split at U
   case h_2=>cases U
   rename_i s1 s2 J bg;simp only[DH,Dx]at U;obtain⟨s3,U,rfl,rfl⟩:=U;unfold eE at U
   split at U
   case isFalse=>cases U
   rename_i cc;obtain⟨k5,k6,heq⟩:=cc;simp only[Db]at U;subst U
   have hk:st0.length≤s.st.length:=by
    obtain⟨g,hg⟩:=hR;exact hg.go1.evo.len
   have alt:∀ (bad:Nat×Nat) (ord:List Nat) (q:List (PI×Bool×List Nat)) (sq:PS),Ql ops.size ord=true→Om (Fe ops.toList []) l (some bad) ord=some q→Hu G T q [] s=some sq→
     ∃ Z,Qy (Fe ops.toList []) l ops.size (some bad) Z∧(∀ z∈Z,z.1<ops.size)∧HV G T (HE l (Gr (CX ops.size false) Z)) s sq:=by
    intro bad ord q sq ho hq d2;obtain⟨p1,p2,p3⟩:=yTa hq;obtain⟨F,hF,hr,a9⟩:=Zk q [] s sq d2
    obtain⟨k1,k2,k3⟩:=yn (l:=l) (bad:=some bad) ho (F:=F) (by rw[hF,p1]) (fun p r i j k7 hi hj hm hb=>by
     obtain⟨b,e1,e2⟩:=p3 p i hi;have c0:ord.getD r 0=j:=by simp[Af,hj]
     by_cases M:(l.getD j default).apart (l.getD i default)=true
     ·exact⟨SV M,.inl M⟩
     ·have be:r∈Qh (Fe ops.toList []) l (some bad) ord p i:=by
       simp only[Qh,A6,AW,c0,hm,AV,Bt,Ac,AS,beq_eq_false_iff_ne];grind
      obtain⟨f,g,a1,a2,a3⟩:=a9 p _ e1 r be
      have a4:F[r]?=some (some f):=by
       grind
      have a8:=e2 r be;rw[c0]at a8;refine⟨a8,.inr ⟨f,g,?_,?_,a2⟩⟩
      ·grind
      ·grind)
    grind
   obtain⟨Z1,z1,d3,r1⟩:=alt (x,y) _ q1 s1 a8 b4 J;obtain⟨Z2,z2,d4,r2⟩:=alt (y,x) _ q2 s2 V b5 bg;refine wpIn_region_any hc.1 (Yq3 hT hY hl hc.2 b6 (bf x (.inl rfl)) z1 z2 d3 d4 (sf1:=s1) (sf2:=s2) ?_ ?_ ops.size _ s a _ (by simp) h0 ch (hu x (bf x (.inl rfl))) (hu y (bf y (.inr rfl))) r1 r2 hR.drew)
   ·intro a' w' a7;exact hQ a' w' (a7.restrictAt keep s.st.length [s.st.length,s.st.length+1] (by omega) hk (by simp) (by simp; omega))
   ·intro a' w' a7;rw[← heq]at hQ;exact hQ a' w' (a7.restrictAt keep s.st.length [s.st.length+1,s.st.length] (by omega) hk (by simp) (by simp; omega))
  split at I
  ·rename_i M;simp only[Db]at I;subst I
   by_cases aa:(l.any (TG il) && Nt (Fe ops.toList []) l)=true
   ·simp only[aa,if_true,PC.exec]at E;simp only[Ac]at aa
    split at E
    ·rename_i s1 J;simp only[Db,Dx]at E;obtain⟨rfl,rfl⟩:=E;obtain⟨F,hF,hr⟩:=ZA l s s1 J;refine bd F hF hr rfl hc.1 hc.2 fun i j x y E hy ba hm=>?_;have Y:=fO M E hy ba hm;exact⟨SV Y,.inl Y⟩
    ·simp only[DH,Dx]at E;obtain⟨⟨t,d,s2⟩,E,rfl,rfl⟩:=E;exact wpIn_region_any hc.1 (Yq2 hT hY hl hc.2 M aa.2 E hQ _ a _ (by simp) hu hR.drew)
   obtain⟨rfl,hs⟩:=b1 l (by simp only[aa,if_false,Al]);obtain⟨F,hF,hr⟩:=ZA l s s' hs;refine bd F hF hr rfl hc.1 hc.2 fun i j x y E hy ba hm=>?_;have Y:=fO M E hy ba hm;exact⟨SV Y,.inl Y⟩
  ·split at I
   ·rename_i x y ac
    split at I
    case h_2=>
     simp only[Db]at I;subst I;simp[PC.exec]at E
    rename_i keep h' q1 q2 b4 b5
    split at I
    case isFalse=>
     simp only[Db]at I;subst I;simp[PC.exec]at E
    rename_i V;simp only[Ac,bne_iff_ne,ne_eq]at V;obtain⟨V,b6⟩:=V;simp only[Db]at I;subst I
    have bf:∀ k,k=x∨k=y→k<ops.size:=by
     intro k hk;simp only[yD]at ac
     split at ac
     ·rename_i p hp;simp only[Db]at ac;subst ac;have be:(x,y)∈l.zipIdx.flatMap fun yi=>((l.take yi.2).zipIdx.filter fun xj=>xj.1.op.push && yi.1.op.push && !(((Fe ops.toList []).getD yi.2 0).testBit xj.2)).map fun xj=>(xj.2,yi.2):=by rw[hp]; simp
      grind
     ·cases ac
    grind
   split at I
   case h_2=>
    simp only[Db]at I;subst I;simp[PC.exec]at E
   rename_i q hq
   have hd:PC.exec G T fuel (.any q) s=some (e,s')→(Code.region id ops true).wpIn (Wr ro) 0 P Q a w:=by
    intro U;simp only[PC.exec]at U
    split at U
    case h_2=>cases U
    rename_i s1 J;simp only[Db,Dx]at U;obtain⟨rfl,rfl⟩:=U;obtain⟨q1,q2,q3⟩:=uQ hq;obtain⟨F,hF,hr,a9⟩:=Zk q [] s s1 J;rw[q2]at hr;refine bd F (by rw[hF,q1]) hr rfl hc.1 hc.2 fun i j x y E hy ba hm=>?_;obtain⟨b,Y,h2⟩:=q3 i y hy;have c1:l.getD j default=x:=by simp[Af,E]
    by_cases M:x.apart y=true
    ·exact⟨SV M,.inl M⟩
    ·have hj:j∈IV (Fe ops.toList []) l i y:=by
      simp only[IV,A6,AW,hm,c1,AV,Bt];grind
     obtain⟨f,g,e1,e2,e3⟩:=a9 i _ Y j hj
     have e4:F[j]?=some (some f):=by
      simp_all
     refine⟨by rw[← c1]; exact h2 j hj,.inr ⟨f,g,?_,?_,e2⟩⟩
     ·grind
     ·grind
   split at I
   ·rename_i k8
    split at I
    case h_2=>
     simp only[Db]at I;subst I;simp[PC.exec]at E
    rename_i keep h';simp only[Db]at I;subst I
    have hf:∀ (ps:List (Nat×Nat)),PC.exec G T fuel (Lo keep (Fe ops.toList []) l ops.size ps) s=some (e,s')→(Code.region id ops true).wpIn (Wr ro) 0 P Q a w:=by
     intro ps
     induction ps with
     |nil=>intro E; simp[Lo,PC.exec]at E
     |cons p ps ih=>
      obtain⟨x,y⟩:=p;intro E;unfold Lo at E
      split at E
      ·rename_i q1 q2 b4 b5
       split at E
       ·rename_i V;simp only[Ac,bne_iff_ne,ne_eq,decide_eq_true_eq]at V;obtain⟨⟨⟨V,b6⟩,k9⟩,ma⟩:=V;rw[PC.exec]at E;grind
       ·exact ih E
      ·exact ih E
    rw[PC.exec]at E;grind
   split at I
   ·rename_i c2;simp only[Ac]at c2;simp only[Db]at I;subst I;obtain⟨d6,o1,o2⟩:=yYh c2.2;generalize aX il l=i0 at*;unfold XO at E;rw[PC.exec]at E
    split at E
    ·grind
    ·simp only[PC.exec]at E
     cases J:Hu G T (q.take i0) [] s with
     |none=>simp[J]at E
     |some s1=>
      simp only[J,E6,JX]at E
      cases bg:(l.getD i0 default).exec G T s1 with
      |some s2=>simp only[bg,reduceCtorEq]at E
      |none=>
       simp only[bg]at E
       cases b9:(l.getD i0 default).execX G T s1 with
       |none=>simp only[b9,Option.map_none,reduceCtorEq]at E
       |some r3=>
        obtain⟨t,d,s3⟩:=r3;simp only[b9,Ae,Db,Dx]at E;obtain⟨rfl,rfl⟩:=E;obtain⟨q1,q2,q3⟩:=uQ hq;obtain⟨F,hF,hr,a9⟩:=Zk _ [] s s1 J;have d7:F.length=i0:=by rw[hF,AH]; omega
        have d8:(q.take i0).map (·.1)=l.take i0:=by rw[B6,q2]
        rw[d8]at hr;refine wpIn_region_any hc.1 (sv hT hY hl hc.2 d6 o1 o2 d7 (fun i j ba hi hm=>?_) hr b9 hQ _ a _ (by simp) hu hR.drew);have d9:l[i]?=some (l.getD i default):=by simp[Af,show i<l.length by omega]
        obtain⟨b,Y,h2⟩:=q3 i _ d9
        by_cases M:(l.getD j default).apart (l.getD i default)=true
        ·exact⟨SV M,.inl M⟩
        ·have hj:j∈IV (Fe ops.toList []) l i (l.getD i default):=by
          simp only[IV,A6,AW,hm,AV,Bt];grind
         have ha:(q.take i0)[i]?=some (l.getD i default,b,IV (Fe ops.toList []) l i (l.getD i default)):=by
          grind
         obtain⟨f,g,e1,e2,e3⟩:=a9 i _ ha j hj
         have e4:F[j]?=some (some f):=by
          grind
         refine⟨h2 j hj,.inr ⟨f,g,?_,?_,e2⟩⟩
         ·grind
         ·grind
   ·grind
theorem tK{n:Int}(h:recAt st k=some n):∃ o,st[k]?=some o∧o.row=false∧o.sz=1000003∧o.els=[.int .i64 n]:=by
 unfold recAt at h;grind
theorem SR.recAt{base:Nat}(h:SR base w g st)(I:st[k]?=some o)(J:o.row=false)(E:o.sz=1000003):dY base w (g.β k) o:=
 (h.mp k o I (by simp[Obj.isMap,J,E])).rec' E
theorem Go1.recO{base:Nat}(h:Go1 base w g st w' g' st')(E:st[k]?=some o)(I:o.row=false)(J:o.sz=1000003) :
  g'.β k=g.β k∧∃ o',st'[k]?=some o'∧o'.row=false∧o'.sz=1000003:=by
 obtain⟨o',M,U,V,_,_,Y⟩:=h.evo k o E;grind
theorem Yat{l:Nat}{x:Go.Obj}:Beside w (w.putObj l x):=⟨rfl,rfl,rfl,by rw[World.putObj_size]; exact Ax _⟩
theorem Go1.putRec{base:Nat}(h:SR base w g st){l:Nat}{r:Loop}{n:Int}{s:_}{p:Option Code}(hk:st[k]?=some o)(E:o.row=false)(I:o.sz=1000003)
  (hl:g.β k=l) (J:w.heap[l]?=some (.loop r)) (M:n=0→s=.ready∧p=none) (U:n=1→s=.done∧p=some .ret) :
  Go1 base w g st (w.putObj l (.loop {r with state:=s,pending:=p})) g (st.set k (PI.recO n)):=by
 subst hl;exact h.updRec (s:=s) (p:=p) hk E I Yat (fun b hb=>World.putObj_heap_other hb) J (World.putObj_heap_same (AG.1 J).1) M U
theorem ON(hT:TblOK P G T):∀ (c:Code) (ro:Option Nat) (_:ro=none∨JE c=true) (w0:World) (g0:Ghost) (st0:St) (dl:List Deferred) (_:YOK P G T.y base w0 g0 st0) (_:base≤w0.heap.size) (h:List (List Nat)) (r:PC×List (List Nat)),H5 P il n h c=some r→∀ (fuel:Nat) (s s':PS) (e:Ex),r.1.exec G T fuel s=some (e,s')→
  ∀ (a:Act) (w:World) (Q:Exit→Act→World→Prop),R G base n w0 g0 st0 dl s a w→(∀ a' w',R G base n w0 g0 st0 dl s' a' w'→Q (Mm e) a' w')→c.wpIn (Wr ro) 0 P Q a w:=by
 intro c
 induction c with
 |skip=>
  intro ro hro w0 g0 st0 dl hY hb0 h r ht fuel s s' e hx a w Q hR hQ;simp only[H5,Db]at ht; subst ht;simp only[PC.exec,Db,Dx]at hx;obtain⟨rfl,rfl⟩:=hx;exact wpIn_skip (hQ a w hR)
 |exit id=>
  intro ro hro w0 g0 st0 dl hY hb0 h r ht fuel s s' e hx a w Q hR hQ;simp only[H5,Db]at ht; subst ht;simp only[PC.exec,Db,Dx]at hx;obtain⟨rfl,rfl⟩:=hx;exact wpIn_exit (hQ a w hR)
 |ret=>
  intro ro hro w0 g0 st0 dl hY hb0 h r ht fuel s s' e hx a w Q hR hQ;simp only[H5,Db]at ht; subst ht;simp only[PC.exec,Db,Dx]at hx;obtain⟨rfl,rfl⟩:=hx;exact wpIn_ret (hQ a w hR)
 |region id ops draw=>
  intro ro hro w0 g0 st0 dl hY hb0 h r ht fuel s s' e hx a w Q hR hQ;exact Ye6 hT hY ht hx hR hQ
 |seq x y ihx ihy=>
  intro ro hro w0 g0 st0 dl hY hb0 h r ht fuel s s' e hx a w Q hR hQ;unfold H5 at ht
  split at ht
  case h_2=>cases ht
  rename_i px h1 hx1
  split at ht
  case h_2=>cases ht
  rename_i py h2 hy1;simp only[Db]at ht; subst ht;simp only[PC.exec]at hx;refine wpIn_seq ?_
  split at hx
  ·rename_i s1 hs1;exact ihx ro (hro.imp (fun h=>h) fun h=>by simp only[JE,Ac]at h; exact h.1) w0 g0 st0 dl hY hb0 _ _ hx1 fuel s s1 .next hs1 a w _ hR fun a' w' hR'=>ihy ro (hro.imp (fun h=>h) fun h=>by simp only[JE,Ac]at h; exact h.2) w0 g0 st0 dl hY hb0 _ _ hy1 fuel s1 s' e hx a' w' Q hR' hQ
  ·rename_i e1 s1 hne hs1;simp only[Db,Dx]at hx;obtain⟨rfl,rfl⟩:=hx;refine ihx ro (hro.imp (fun h=>h) fun h=>by simp only[JE,Ac]at h; exact h.1) w0 g0 st0 dl hY hb0 _ _ hx1 fuel s _ _ hs1 a w _ hR fun a' w' hR'=>?_
   cases e1 with
   |next=>exact(hne rfl).elim
   |exit id=>exact hQ a' w' hR'
   |ret=>exact hQ a' w' hR'
   |panic t d=>exact hQ a' w' hR'
  ·cases hx
 |cond c x y ihx ihy=>
  intro ro hro w0 g0 st0 dl hY hb0 h r ht fuel s s' e hx a w Q hR hQ;unfold H5 at ht
  split at ht
  case h_2=>cases ht
  rename_i pa hpa
  split at ht
  case h_2=>cases ht
  rename_i px h1 hx1
  split at ht
  case h_2=>cases ht
  rename_i py h2 hy1;simp only[Db]at ht; subst ht;simp only[PC.exec]at hx;obtain⟨g,hg⟩:=id hR;have hc:=GL (G:=G) hg.gl hg.fr hpa
  split at hx
  ·rename_i hb;rw[hb]at hc;exact wpIn_cond_true (L1 hc) (ihx ro (hro.imp (fun h=>h) fun h=>by simp only[JE,Ac]at h; exact h.1) w0 g0 st0 dl hY hb0 _ _ hx1 fuel s s' e hx a w Q hR hQ)
  ·rename_i hb;rw[hb]at hc;exact wpIn_cond_false (L1 hc) (ihy ro (hro.imp (fun h=>h) fun h=>by simp only[JE,Ac]at h; exact h.2) w0 g0 st0 dl hY hb0 _ _ hy1 fuel s s' e hx a w Q hR hQ)
  ·cases hx
 |block id c ih=>
  intro ro hro w0 g0 st0 dl hY hb0 h r ht fuel s s' e hx a w Q hR hQ;unfold H5 at ht
  split at ht
  case h_2=>cases ht
  rename_i px h1 hx1;simp only[Db]at ht; subst ht;simp only[PC.exec]at hx;refine wpIn_block ?_
  split at hx
  ·rename_i id' s1 hs1;refine ih ro (hro.imp (fun h=>h) fun h=>by simpa only[JE]using h) w0 g0 st0 dl hY hb0 _ _ hx1 fuel s s1 _ hs1 a w _ hR fun a' w' hR'=>?_
   split at hx
   ·rename_i he;simp only[Db,Dx]at hx;obtain⟨rfl,rfl⟩:=hx;simpa[Mm,Exit.inBlock,he]using hQ a' w' hR'
   ·rename_i he;simp only[Db,Dx]at hx;obtain⟨rfl,rfl⟩:=hx;simpa[Mm,Exit.inBlock,he]using hQ a' w' hR'
  ·rename_i e1 s1 hne hs1;simp only[Db,Dx]at hx;obtain⟨rfl,rfl⟩:=hx;refine ih ro (hro.imp (fun h=>h) fun h=>by simpa only[JE]using h) w0 g0 st0 dl hY hb0 _ _ hx1 fuel s _ _ hs1 a w _ hR fun a' w' hR'=>?_
   cases e1 with
   |next=>exact hQ a' w' hR'
   |exit id=>exact(hne _ rfl).elim
   |ret=>exact hQ a' w' hR'
   |panic t d=>exact hQ a' w' hR'
  ·cases hx
 |loop c ih=>
  intro ro hro w0 g0 st0 dl hY hb0 h r ht fuel s s' e hx a w Q hR hQ;unfold H5 at ht
  split at ht
  case h_2=>cases ht
  rename_i keep h'
  split at ht
  case h_2=>cases ht
  rename_i px h1 hx1;simp only[Db]at ht; subst ht
  have hk:st0.length≤s.st.length:=by
   obtain⟨g,hg⟩:=hR;exact hg.go1.evo.len
  obtain⟨cut,hcut,hx⟩:∃ cut:PS→PS,(∀ s a w,R G base n w0 g0 st0 dl s a w→R G base n w0 g0 st0 dl (cut s) a w)∧J6 (px.exec G T fuel) cut fuel s=some (e,s'):=by
   split at hx
   ·exact⟨keepAll keep.tail,fun _ _ _ h=>h.keepAll _,by simpa only[PC.exec]using hx⟩
   ·exact⟨PI.restrict keep s.st.length,fun _ _ _ h=>h.restrict _ _ hk,by simpa only[PC.exec]using hx⟩
  refine wpIn_loop_ghost (fun m a w=>∃ s1,J6 (px.exec G T fuel) (cut) m s1=some (e,s')∧R G base n w0 g0 st0 dl s1 a w) fuel ⟨s,hx,hR⟩ ?_;rintro m a w ⟨s1,hl,hR1⟩
  cases m with
  |zero=>simp[J6]at hl
  |succ m=>
   simp only[J6]at hl
   split at hl
   ·rename_i s2 hs2;exact ih ro (hro.imp (fun h=>h) fun h=>by simpa only[JE]using h) w0 g0 st0 dl hY hb0 _ _ hx1 fuel _ s2 .next hs2 a w _ (hcut _ _ _ hR1) fun a' w' hR'=>⟨m,Cj m,s2,hl,hR'⟩
   ·rename_i e1 s2 hne hs2;simp only[Db,Dx]at hl;obtain⟨rfl,rfl⟩:=hl;refine ih ro (hro.imp (fun h=>h) fun h=>by simpa only[JE]using h) w0 g0 st0 dl hY hb0 _ _ hx1 fuel _ _ _ hs2 a w _ (hcut _ _ _ hR1) fun a' w' hR'=>?_
    cases e1 with
    |next=>exact(hne rfl).elim
    |exit id=>exact hQ a' w' hR'
    |ret=>exact hQ a' w' hR'
    |panic t d=>exact hQ a' w' hR'
   ·cases hl
 |rangeFunc gf ps asg body iha ihb=>
  intro ro hro w0 g0 st0 dl hY hb0 h r ht fuel s s' e hx a w Q hR hQ;unfold H5 at ht
  split at ht
  case h_2=>cases ht
  rename_i pa hpa
  split at ht
  case h_2=>cases ht
  rename_i pca h1 hx1
  split at ht
  case h_2=>cases ht
  rename_i pcb h2 hy1
  split at ht
  case isFalse=>
   simp only[Db]at ht; subst ht;simp[PC.exec]at hx
  rename_i hc;simp only[Ac]at hc;obtain⟨⟨hna,hnb⟩,hps⟩:=hc;simp only[Db]at ht; subst ht;obtain rfl:ro=none:=hro.resolve_right (by simp[JE]);simp only[PC.exec,Ay,DH,Dx]at hx;obtain⟨st'',hrr,e0,hex,rfl,rfl⟩:=hx;unfold TV at hrr
  split at hrr
  case h_2=>cases hrr
  rename_i f caps hclo
  split at hrr
  case isFalse=>cases hrr
  rename_i hlt
  split at hrr
  case h_2=>cases hrr
  rename_i sp hsp;simp only[DH,Prod.exists]at hrr;obtain⟨dr,st3,hrun,rfl⟩:=hrr;obtain⟨g,hg⟩:=hR;have hrep:=GL (G:=G) hg.gl hg.fr hpa;rw[hclo]at hrep;generalize hxv:a.eval gf=xv at hrep
  cases hrep with
  |clo _ _ us hlen hus=>
   rw[Sl hlt,YP hlt,Yr hlt]at hxv;obtain⟨⟨fn,hfn,hbody,hname⟩,hcon⟩:=hT.r f sp hsp;refine wpIn_rangeFunc fun fnid _=>?_
   -- the two new blocks
   have hlw:w.heap.size+1=(w.alloc (.deferred (some []))).heap.size:=by rw[World.size_alloc]
   generalize hrec:({state:=.ready,pending:=none,fn:=fnid,tmps:=a.tmps,params:=ps,assign:=asg,body:=body,defers:=w.heap.size}:Loop)=rec;generalize hw1:((w.alloc (.deferred (some []))).alloc (.loop rec))=w1;have hs1:w1.heap.size=w.heap.size+2:=by rw[← hw1,World.size_alloc,World.size_alloc]
   have hold:∀ b,b<w.heap.size→w1.heap[b]?=w.heap[b]?:=by
    intro b hb;rw[← hw1]
    show((w.heap.push (.deferred (some []))).push (.loop rec))[b]?=_
    grind
   have hD:w1.heap[w.heap.size]?=some (.deferred (some [])):=by
    rw[← hw1]
    show((w.heap.push (.deferred (some []))).push (.loop rec))[w.heap.size]?=_
    grind
   have hL:w1.heap[w.heap.size+1]?=some (.loop rec):=by
    rw[← hw1]
    show((w.heap.push (.deferred (some []))).push (.loop rec))[w.heap.size+1]?=_
    grind
   have hready:rec.state=.ready∧rec.pending=none:=by rw[← hrec]; exact⟨rfl,rfl⟩
   have hgo1:Go1 base w g s.st w1 {g with β:=FT g.β s.st.length (w.heap.size+1)} (s.st++[recO 0]):=by
    have hbes:Beside w w1:=by rw[← hw1]; exact⟨rfl,rfl,rfl,by rw[World.size_alloc,World.size_alloc]; omega⟩
    exact hg.sr.pushRec (by omega) hbes hold hL hready
   generalize hg1:({g with β:=FT g.β s.st.length (w.heap.size+1)}:Ghost)=g1 at hgo1;have hβ1:g1.β s.st.length=w.heap.size+1:=by rw[← hg1]; exact Iu _ _ _
   have DE:(s.st++[recO 0])[s.st.length]?=some (recO 0):=by simp
   have henter:(Instr.enterLoop fnid a.tmps ps asg body (Wr none).round).run P w=.ok (w.heap.size+1,[{target:=.collected w.heap.size,args:=#[]}]) w1:=by
    rw[← hw1,← hrec];exact run_enterLoop_outer fnid a.tmps ps asg body
   refine⟨w.heap.size+1,[{target:=.collected w.heap.size,args:=#[]}],w1,{target:=.fn (.func f) us.toArray,args:=#[.func (.yield (w.heap.size+1)) #[] #[]]},w1,f,(Value.func (.yield (w.heap.size+1)) #[] #[]::us).toArray,w1,henter,?_,fun _ _=>trivial,?_,(fun e=>by cases e),?_⟩
   ·have hk:∀ v,a.eval (.const v)=v:=fun _=>rfl;simp[resolve,hxv,Deferred.ofValue,hk]
   ·have hbn:¬ fn.body=none:=by
     grind
    have hn':¬ fn.name= "runtime.NumGoroutine":=by simpa using hname
    simp[invoke,callFunc,hfn,hn',hbn]
   ·refine CallsIn.mono (callsIn_wide.2 (hcon base w1 g1 (s.st++[recO 0]) st3 caps us dr (w.heap.size+1) _ ?_ hrun hgo1.sr (hg.gl.mono hgo1.im) hlen (fun i d v hd hv=>hgo1.rep (hus i d v hd hv)))) ?_
    ·
     intro l' w2 g2 st2 st2' ds vs d2 hgo2 hG2 hy hl2 hr2
     replace hy:(if l'=w.heap.size+1 then K6 (PC.exec G T fuel pca) (PC.exec G T fuel pcb) s.fr ps.toList s.st.length ds st2 else none)=some (d2,st2'):=hy
     split at hy
     case isFalse=>cases hy
     rename_i hll;subst hll;unfold K6 at hy
     split at hy
     case isFalse=>cases hy
     rename_i hdl
     split at hy
     case h_2=>cases hy
     rename_i sa hsa
     split at hy
     case isFalse=>cases hy
     rename_i hrec0;obtain⟨s2,p2,hL2⟩:=(hgo2.kp _ _ hL rfl).loop;have hpsz:ps.size=vs.length:=by rw[← hl2,hdl]; simp
     refine⟨fnid,_,asg,body,by rw[run_yield hL2 (by rw[← hrec]; simp[hpsz]),← hrec],?_⟩;have hYw2:YOK P G T.y base w2 g2 st2:=hY.mono (hg.go1.trans (hgo1.trans hgo2));have hbl:base≤w.heap.size:=hg.sr.size
     have hfold:(ps.zip vs.toArray).foldl (fun tmps x=>tmps.setIfInBounds x.1 x.2) a.tmps=(ps.toList.zip vs).foldl (fun tmps p=>tmps.setIfInBounds p.1 p.2) a.tmps:=by
      rw[← Cr]; simp
     refine roundIn_of_wpIn trivial ?_
     show asg.wpIn (Wr (some (w.heap.size+1))) 0 P _ _ w2
     refine iha (some (w.heap.size+1)) (.inr hna) w2 g2 st2 [] hYw2 (AP hbl (AP (by omega) (hgo1.trans hgo2).below.size)) _ _ hx1 fuel _ sa .next hsa _ w2 _ ⟨g2,Go1.refl hgo2.sr,?_,hG2,⟨[],rfl,trivial⟩,?_⟩ ?_
     ·have hF2:FR w2 g2 st2 s.fr a:=hg.fr.mono (hgo1.trans hgo2).im (hgo1.trans hgo2).evo
      have:=z9 (x:=[]) ps.toList ds vs s.fr a.tmps (by simpa using hdl) hl2 (fun p hp=>by
       have:=Ag.1 hps p hp;have:=of_decide_eq_true this;exact AX this hg.sz) hF2 hr2
      grind
     ·have:=nP (ps.toList.zip vs) a.tmps;rw[← hfold]at this;exact AP hg.sz (Nat.le_of_eq this.symm)
     ·rintro a3 w3 ⟨g3,h3⟩;have hgo13:=hgo2.trans h3.go1;obtain⟨o3,ho3,hro3,hso3,hels3⟩:=tK hrec0;have hβ3:g3.β s.st.length=w.heap.size+1:=(hgo13.recO DE rfl rfl).1.trans hβ1;obtain⟨r3,n3,hb3,_,hn3,hz3,_⟩:=h3.go1.sr.recAt ho3 hro3 hso3;rw[hβ3]at hb3;rw[hels3]at hn3;have hn0:n3=0:=by simpa using hn3.symm
      have hready3:r3.state=.ready:=(hz3 hn0).1;refine⟨_,run_beginRound hb3 hready3,?_⟩;have hgo4:=Go1.putRec (n:=2) (s:=.busy) (p:=r3.pending) h3.go1.sr ho3 hro3 hso3 hβ3 hb3 (fun e=>by cases e) (fun e=>by cases e);have hlt3:w.heap.size+1<w3.heap.size:=(AG.1 hb3).1
      show body.wpIn (Wr (some (w.heap.size+1))) 0 P _ _ (w3.putObj (w.heap.size+1) (.loop {r3 with state:=.busy,pending:=r3.pending}))
      generalize hw4:w3.putObj (w.heap.size+1) (.loop {r3 with state:=.busy,pending:=r3.pending})=w4 at hgo4;have hgo04:=hg.go1.trans (hgo1.trans (hgo13.trans hgo4))
      have hk4:(sa.st.set s.st.length (recO 2))[s.st.length]?=some (recO 2):=by
       grind
      -- the body's end,and what is said of the record
      have fin:∀ (sb:PS) (a5:Act) (w5:World) (nn:Int) (jump:Option Code) (b:Bool),R G base n w4 g3 (sa.st.set s.st.length (recO 2)) a3.defers sb a5 w5→b=jump.isNone→(nn=0→jump=none)→(nn=1→jump=some .ret)→
        ∃ v w',(Instr.endRound (w.heap.size+1) jump).run P w5=.ok v w'∧∃ v' g',(Ending.returned v:Ending)=.returned v'∧Go1 base w2 g2 st2 w' g' (sb.st.set s.st.length (recO nn))∧RepV w' g' (sb.st.set s.st.length (recO nn)) (.bool b) v':=by
       rintro sb a5 w5 nn jump b ⟨g5,h5⟩ hb hj0 hj1;obtain⟨hβ5,o5,ho5,hro5,hso5⟩:=h5.go1.recO hk4 rfl rfl;obtain⟨r5,n5,hb5,_⟩:=h5.go1.sr.recAt ho5 hro5 hso5;rw[hβ5,hβ3]at hb5
       have hgo6:=Go1.putRec (n:=nn) (s:=if jump.isNone then .ready else .done) (p:=jump) h5.go1.sr ho5 hro5 hso5 (hβ5.trans hβ3) hb5
        (fun e=>by rw[hj0 e]; exact⟨rfl,rfl⟩) (fun e=>by rw[hj1 e]; exact⟨rfl,rfl⟩)
       refine⟨_,_,run_endRound jump hb5,.bool jump.isNone,g5,rfl,h3.go1.trans (hgo4.trans (h5.go1.trans hgo6)),?_⟩;rw[hb]; exact .bool _
      split at hy
      ·rename_i sb hsb;simp only[Db,Dx]at hy;obtain⟨rfl,rfl⟩:=hy;refine ihb (some (w.heap.size+1)) (.inr hnb) w4 g3 _ a3.defers (hY.mono hgo04) (AP hb0 hgo04.below.size) _ _ hy1 fuel _ sb .next hsb _ w4 _ ⟨g3,Go1.refl hgo4.sr,h3.fr.mono hgo4.im hgo4.evo,h3.gl.mono hgo4.im,⟨[],rfl,trivial⟩,h3.sz⟩ ?_
       exact fun a5 w5 h5=>fin sb a5 w5 0 none true h5 rfl (fun _=>rfl) (fun e=>by cases e)
      ·rename_i sb hsb;simp only[Db,Dx]at hy;obtain⟨rfl,rfl⟩:=hy;refine ihb (some (w.heap.size+1)) (.inr hnb) w4 g3 _ a3.defers (hY.mono hgo04) (AP hb0 hgo04.below.size) _ _ hy1 fuel _ sb .ret hsb _ w4 _ ⟨g3,Go1.refl hgo4.sr,h3.fr.mono hgo4.im hgo4.evo,h3.gl.mono hgo4.im,⟨[],rfl,trivial⟩,h3.sz⟩ ?_;exact fun a5 w5 h5=>fin sb a5 w5 1 (some .ret) false h5 rfl (fun e=>by cases e) (fun _=>rfl)
      ·cases hy
    ·rintro e w3 ⟨v,g3,rfl,hgo3,_⟩;obtain⟨hβ3,_⟩:=hgo3.recO DE rfl rfl;rw[hβ1]at hβ3;have hD3:w3.heap[w.heap.size]?=some (.deferred (some [])):=(hgo3.kp _ _ hD rfl).def';have hbl:base≤w.heap.size:=hg.sr.size;unfold X6 at hex
     split at hex
     case h_2=>cases hex
     rename_i n3 hrec3;obtain⟨o3,ho3,hro3,hso3,hels3⟩:=tK hrec3;obtain⟨r3,n3',hb3,_,hn3,hz3,ho1⟩:=hgo3.sr.recAt ho3 hro3 hso3;rw[hβ3]at hb3;rw[hels3]at hn3;have hn0:n3'=n3:=by simpa using hn3.symm
     subst hn0
     have hnb3:r3.state≠.busy:=by
      grind
     have hgo4':=Go1.putRec (n:=2) (s:=.exhausted) (p:=r3.pending) hgo3.sr ho3 hro3 hso3 hβ3 hb3 (fun e=>by cases e) (fun e=>by cases e);have hgo4:=hgo1.trans (hgo3.trans hgo4')
     have hRn:R G base n w0 g0 st0 dl ⟨s.fr,st3.set s.st.length (recO 2)⟩ {a with defers:=[{target:=.collected w.heap.size,args:=#[]}]++a.defers} (w3.putObj (w.heap.size+1) (.loop {r3 with state:=.exhausted,pending:=r3.pending})):=by
      refine⟨g3,hg.go1.trans hgo4,hg.fr.mono hgo4.im hgo4.evo,hg.gl.mono hgo4.im,?_,hg.sz⟩;obtain⟨dd,hd1,hd2⟩:=hg.df;refine⟨{target:=.collected w.heap.size,args:=#[]}::dd,by simp[hd1],⟨w.heap.size,rfl,?_,?_,?_⟩,hd2.mono hgo4.kp⟩
      ·rw[World.putObj_heap_other (by omega)]; exact hD3
      ·have:=hg.go1.below.size;grind
      ·intro d' hd' e;obtain⟨D',h1,h2⟩:=hd2.mem hd';grind
     refine⟨r3.pending,_,run_endLoop hb3 hnb3,?_⟩
     split at hex
     ·rename_i e;obtain rfl:=Az hex;have hp:=(hz3 e).2;rw[hp];have:=hQ _ _ hRn;rw[hp]at this;simpa[Mm]using this
     ·split at hex
      ·rename_i e;obtain rfl:=Az hex;have hp:=(ho1 e).2;rw[hp];have:=hQ _ _ hRn;rw[hp]at this;exact wpIn_ret (by simpa[Mm]using this)
      ·cases hex
 |_=>
  intro ro hro w0 g0 st0 dl hY hb0 h r ht fuel s s' e hx;simp only[H5,Db]at ht; subst ht;simp[PC.exec]at hx
theorem yYy{t:TypeId}{u:Value}(h:(Instr.loadAt t v).run P w=.ok u w):(do loadVar t (← asAddr v):Sem Value).run P w=.ok u w:=by
 cases v with
 |pointer a=>
  cases a with
  |none=>simp[Instr.loadAt,Instr.sureAddr]at h
  |some a=>simpa[Instr.loadAt,Instr.sureAddr,asAddr]using h
 |_=>simp[Instr.loadAt,Instr.sureAddr]at h
def U6(tmps:Array Value):ResultVar→Sem Value
 |.tmp t=>pure (tmps.getD t undef)
 |.cell a t=>do loadVar t (← asAddr (tmps.getD a undef))
theorem jZ{s:PS}:∀ {l:List PRes} {ys:List D},FV s l=some ys→∃ ds,D8 s l=some ds∧Em s.st ds=some ys
 |[],ys,h=>by simp[FV]at h; subst h; exact⟨[],rfl,rfl⟩
 |r::l,ys,h=>by
  unfold FV at h
  split at h
  case h_2=>cases h
  rename_i x y E M;simp only[Db]at h; subst h;obtain⟨ds,I,J⟩:=jZ M
  cases r with
  |tmp t=>
   exact⟨s.fr t::ds,by simp[D8,I],by simp only[PRes.get]at E; simp[Em,E,J]⟩
  |cell t n ag=>
   simp only[PRes.get]at E
   split at E
   ·rename_i d U;exact⟨d::ds,by simp[D8,U,I],by simp[Em,E,J]⟩
   ·cases E
theorem SA{s:PS}{a:Act}{w:World}{g:Ghost}(U:SR base w g s.st)(J:FR w g s.st s.fr a):∀ {rs:List ResultVar} {l:List PRes} {ds:List D},OZ P rs=some l→D8 s l=some ds→
  ∃ vs:List Value,ds.length=vs.length∧(∀ (i:Nat) d v,ds[i]?=some d→vs[i]?=some v→RepV w g s.st d v)∧
   (rs.mapM (U6 a.tmps)).run P w=.ok vs w
 |[],l,ds,E,I=>by
  simp[OZ]at E; subst E;simp[D8]at I; subst I;simp_all
 |.tmp t::rs,l,ds,E,I=>by
  simp only[OZ,DH]at E;obtain⟨l',V,rfl⟩:=E;simp only[D8,DH]at I;obtain⟨ah,h2,rfl⟩:=I;obtain⟨vs,Y,e2,e3⟩:=SA U J V h2;refine⟨a.tmps.getD t undef::vs,by simp[Y],?_,?_⟩
  ·intro i d v M hv
   cases i with
   |zero=>simp only[AF,Db]at M hv; subst M; subst hv; exact J t
   |succ i=>simp only[Bv]at M hv; exact e2 i d v M hv
  ·simp only[By,U6,Sem.run_bind,Sem.run_pure,Result.andThen_ok,e3]
 |.cell b t::rs,l,ds,E,I=>by
  unfold OZ at E
  split at E
  case h_2=>cases E
  rename_i n ag l' hn ha V;simp only[Db]at E; subst E;unfold D8 at I
  split at I
  case h_2=>cases I
  rename_i x y hx hy;simp only[Db]at I; subst I;obtain⟨vs,Y,e2,e3⟩:=SA U J V hy;obtain⟨u,u1,u2⟩:=uc U ha hn hx (J b);refine⟨u::vs,by simp[Y],?_,?_⟩
  ·grind
  ·have u3:=yYy u1;simp only[By];rw[Sem.run_bind,show(U6 a.tmps (.cell b t)).run P w=.ok u w from u3];simp_all
def eD:List Value→Value
 |[v]=>v
 |vs=>.tuple vs.toArray
theorem Zj{tmps:Array Value}
  (h:(fn.results.toList.mapM (U6 tmps)).run P w=.ok vs w) :
  (results fn tmps).run P w=.ok (eD vs) w:=by
 have E:results fn tmps=(do let vs ← fn.results.mapM (U6 tmps); pure (if h:vs.size=1 then vs[0]else .tuple vs)):=rfl;rw[E,Sem.run_bind,Array.mapM_eq_mapM_toList];rw[Sem.run_map,h];simp only[Result.andThen_ok,Sem.run_pure]
 match vs with
 |[]=>rfl
 |[v]=>rfl
 |_::_::_=>simp[eD]
theorem TP(hl:ds.length=vs.length)(h:∀ (i:Nat) d v,ds[i]?=some d→vs[i]?=some v→RepV w g st d v) :
  RepV w g st (DS ds) (eD vs):=by
 match ds,vs,hl with
 |[],[],_=>exact .tup [] [] rfl h
 |[d],[v],_=>exact h 0 d v rfl rfl
 |_::_::_,_::_::_,hl=>exact .tup _ _ hl h
theorem dn(h:∀ d∈ds,purA d=true):purR (DS ds)=true:=by
 match ds with
 |[]=>rfl
 |[d]=>
  have:=h d (by simp);simp only[DS]
  cases d with
  |tup l=>simp[purA,D.pure1]at this
  |_=>exact this
 |x::y::l=>
  simp only[DS,purR,Ag];exact h
theorem Ul{fn:Func}{R:Ending→World→Prop}(I:base≤w0.heap.size){s:PS}{a:Act}{g:Ghost}:∀ (ds:List Deferred) (w:World),Go1 base w0 g0 st0 w g s.st→FR w g s.st s.fr a→DfOK w0 w ds→
  (∀ w',Go1 base w0 g0 st0 w' g s.st→FR w' g s.st s.fr a→∃ v,(results fn a.tmps).run P w'=.ok v w'∧R (.returned v) w')→LeavesInM Fence.wide 0 P fn a.tmps R ds .returning w
 |[],w,E,J,_,h=>h w E J
 |d::ds,w,E,J,⟨⟨D,h1,V,h3,h4⟩,h5⟩,h=>by
  subst h1;refine⟨by simp,.inl ⟨D,_,rfl,run_takeDeferred V,?_⟩⟩
  have Y:w0.heap.size≤D:=by
   grind
  have M:=GoX.put (o':=.deferred none) E.sr V rfl ⟨_,rfl⟩ (AP I Y);refine Ul I ds _ (((E.x D).trans M).fin (fun o ho=>by rw[h3]at ho; cases ho)) (J.mono M.im M.evo) ?_ h
  have:∀ (l:List Deferred),(∀ U∈l,U≠{target:=.collected D,args:=#[]})→DfOK w0 w l→DfOK w0 (w.putObj D (.deferred none)) l:=by
   intro l
   induction l with
   |nil=>exact fun _ _=>trivial
   |cons d l ih=>
    rintro ab ⟨⟨D',e1,e2,e3,e4⟩,e5⟩;refine⟨⟨D',e1,?_,e3,e4⟩,ih (fun U ac=>ab U (by simp[ac])) e5⟩;rw[World.putObj_heap_other]
    ·exact e2
    ·grind
  grind
theorem TN(hT:TblOK P G T)(ht:DB P il f hints=some F)(fuel:Nat):(∃ fn,P.funcs[f]?=some fn∧fn.body.isSome=true∧(fn.name == "runtime.NumGoroutine")=false)∧
  ∀ (base:Nat) (w:World) (g:Ghost) (st st':St) (ds:List D) (vs:List Value) (d:D),YOK P G T.y base w g st→F.runI G T fuel ds st=some (d,st')→SR base w g st→GlobOK G w g→ds.length=vs.length→
   (∀ (i:Nat) d v,ds[i]?=some d→vs[i]?=some v→RepV w g st d v)→Calls P f vs.toArray w fun e w'=>∃ v g',e=.returned v∧Go1 base w g st w' g' st'∧RepV w' g' st' d v:=by
 unfold DB at ht
 split at ht
 case h_2=>cases ht
 rename_i fn hfn
 split at ht
 case h_2=>cases ht
 rename_i c hc
 split at ht
 case h_2=>cases ht
 rename_i pc hrest res htc htr
 split at ht
 ·cases ht
 rename_i hname;simp only[Db]at ht; subst ht;refine⟨⟨fn,hfn,by rw[hc]; rfl,by simpa using hname⟩,?_⟩;intro base w g st st' ds vs d hY hsp hS hG hlen hrep
 have key:∀ (e:Ex) (s':PS),pc.exec G T fuel {fr:=Dc ds,st}=some (e,s')→((D8 s' res).map fun l=>(DS l,s'.st))=some (d,st')→(e=.next∨e=.ret)→
   Calls P f vs.toArray w fun e w'=>∃ v g',e=.returned v∧Go1 base w g st w' g' st'∧RepV w' g' st' d v:=by
  intro e s' hex hget he;refine callsIn_wide.1 (callsIn_of_wp_marks (F:=Fence.wide) (n:=0) hfn hc trivial ?_)
  have hR0:R G base fn.ntmps w g st [] {fr:=Dc ds,st} {tmps:=vs.toArray++CX (fn.ntmps - vs.toArray.size) undef,defers:=[]} w:=by
   refine⟨g,Go1.refl hS,?_,hG,⟨[],rfl,trivial⟩,?_⟩
   ·intro s;simp only[Dc];rcases A8 s ds.length with h1 | h1
    ·have h2:s<vs.length:=by omega
     have h3:(vs.toArray++CX (fn.ntmps - vs.toArray.size) undef).getD s undef=vs[s]:=by
      simp[Array.getD,h2];omega
     rw[h3];have:=hrep s ds[s] vs[s] (by simp[h1]) (by simp[h2]);grind
    ·simp[Af,Bd h1];exact .junk _
   ·simp; omega
  have fin:∀ a' w',R G base fn.ntmps w g st [] s' a' w'→LeavesInM Fence.wide 0 P fn a'.tmps (fun e w'=>∃ v g',e=.returned v∧Go1 base w g st w' g' st'∧RepV w' g' st' d v) a'.defers .returning w':=by
   rintro a' w' ⟨g1,h⟩;obtain⟨dd,hd1,hd2⟩:=h.df;rw[hd1,Ai];refine Ul hS.size dd w' h.go1 h.fr hd2 fun w2 hgo hF=>?_;simp only[DH,Dx]at hget;obtain⟨xs,hx1,rfl,rfl⟩:=hget;obtain⟨us,e1,e2,e3⟩:=SA hgo.sr hF htr hx1;exact⟨_,Zj e3,_,g1,rfl,hgo,TP e1 e2⟩
  refine ON hT c none (.inl rfl) w g st [] hY hS.size hints (pc,hrest) htc fuel _ s' e hex _ w _ hR0 ?_;intro a' w' hR';rcases he with rfl | rfl
  ·exact fin a' w' hR'
  ·exact fin a' w' hR'
 simp only[PF.runI]at hsp;grind
theorem fH{fn:Func}{R:Ending→World→Prop}{V:List PanicEntry}(I:base≤w0.heap.size){s:PS}{a:Act}{g:Ghost}(rest:List Deferred):∀ (ds:List Deferred) (w:World),Go1 base w0 g0 st0 w g s.st→FR w g s.st s.fr a→DfOK w0 w ds→
  (∀ w',Go1 base w0 g0 st0 w' g s.st→FR w' g s.st s.fr a→LeavesInM Fence.wide 0 P fn a.tmps R rest (.panicking V) w')→LeavesInM Fence.wide 0 P fn a.tmps R (ds++rest) (.panicking V) w
 |[],w,E,J,_,h=>h w E J
 |d::ds,w,E,J,⟨⟨D,h1,Y,h3,h4⟩,h5⟩,h=>by
  subst h1;refine⟨by simp,.inl ⟨D,_,rfl,run_takeDeferred Y,?_⟩⟩
  have aa:w0.heap.size≤D:=by
   grind
  have M:=GoX.put (o':=.deferred none) E.sr Y rfl ⟨_,rfl⟩ (AP I aa);refine fH I rest ds _ (((E.x D).trans M).fin (fun o ho=>by rw[h3]at ho; cases ho)) (J.mono M.im M.evo) ?_ h
  have:∀ (l:List Deferred),(∀ U∈l,U≠{target:=.collected D,args:=#[]})→DfOK w0 w l→DfOK w0 (w.putObj D (.deferred none)) l:=by
   intro l
   induction l with
   |nil=>exact fun _ _=>trivial
   |cons d l ih=>
    rintro ac ⟨⟨D',e1,e2,e3,e4⟩,e5⟩;refine⟨⟨D',e1,?_,e3,e4⟩,ih (fun U ad=>ac U (by simp[ad])) e5⟩;rw[World.putObj_heap_other]
    ·exact e2
    ·grind
  grind
theorem uZ{fn:Func}{R:Ending→World→Prop}(I:base≤w0.heap.size){s:PS}{a:Act}{g:Ghost}(rest:List Deferred):∀ (ds:List Deferred) (w:World),Go1 base w0 g0 st0 w g s.st→FR w g s.st s.fr a→DfOK w0 w ds→
  (∀ w',Go1 base w0 g0 st0 w' g s.st→FR w' g s.st s.fr a→LeavesInM Fence.wide 0 P fn a.tmps R rest .returning w')→LeavesInM Fence.wide 0 P fn a.tmps R (ds++rest) .returning w
 |[],w,E,J,_,h=>h w E J
 |d::ds,w,E,J,⟨⟨D,h1,V,h3,h4⟩,h5⟩,h=>by
  subst h1;refine⟨by simp,.inl ⟨D,_,rfl,run_takeDeferred V,?_⟩⟩
  have Y:w0.heap.size≤D:=by
   grind
  have M:=GoX.put (o':=.deferred none) E.sr V rfl ⟨_,rfl⟩ (AP I Y);refine uZ I rest ds _ (((E.x D).trans M).fin (fun o ho=>by rw[h3]at ho; cases ho)) (J.mono M.im M.evo) ?_ h
  have:∀ (l:List Deferred),(∀ U∈l,U≠{target:=.collected D,args:=#[]})→DfOK w0 w l→DfOK w0 (w.putObj D (.deferred none)) l:=by
   intro l
   induction l with
   |nil=>exact fun _ _=>trivial
   |cons d l ih=>
    rintro ab ⟨⟨D',e1,e2,e3,e4⟩,e5⟩;refine⟨⟨D',e1,?_,e3,e4⟩,ih (fun U ac=>ab U (by simp[ac])) e5⟩;rw[World.putObj_heap_other]
    ·exact e2
    ·grind
  grind
theorem Ybu(M:SR base w g st)(U:GlobOK G w g)(V:ds.length=vs.length)(E:∀ (i:Nat) d v,ds[i]?=some d→vs[i]?=some v→RepV w g st d v) :
  R G base fn.ntmps w g st [] {fr:=Dc ds,st} {tmps:=vs.toArray++CX (fn.ntmps - vs.toArray.size) undef,defers:=[]} w:=by
 refine⟨g,Go1.refl M,?_,U,⟨[],rfl,trivial⟩,?_⟩
 ·intro s;simp only[Dc];rcases A8 s ds.length with I | I
  ·have J:s<vs.length:=by omega
   have Y:(vs.toArray++CX (fn.ntmps - vs.toArray.size) undef).getD s undef=vs[s]:=by
    simp[Array.getD,J];omega
   rw[Y];have:=E s ds[s] vs[s] (by simp[I]) (by simp[J]);grind
  ·simp[Af,Bd I];exact .junk _
 ·simp; omega
theorem p8(V:TblOK P G T)(hy:T.y=fun _ _ _=>none)(E:DB P il f hints=some F)(fuel:Nat):Q6 P G f (F.runX G T fuel):=by
 refine⟨(TN V E fuel).1,?_⟩;unfold DB at E
 split at E
 case h_2=>cases E
 rename_i fn Y
 split at E
 case h_2=>cases E
 rename_i c hc
 split at E
 case h_2=>cases E
 rename_i pc J res aa a2
 split at E
 ·cases E
 rename_i af;simp only[Db]at E; subst E;intro base w g st st' ds vs t d I M hG hlen U;simp only[PF.runX]at I
 split at I
 case h_2=>cases I
 rename_i t1 d1 s' hex;simp only[Db,Dx]at I;obtain⟨rfl,rfl,rfl⟩:=I;refine callsIn_wide.1 (callsIn_of_wp_marks (F:=Fence.wide) (n:=0) Y hc trivial ?_);refine ON V c none (.inl rfl) w g st [] (by rw[hy]; exact YOK.none) M.size hints (pc,J) aa fuel _ s' _ hex _ w _ (Ybu M hG hlen U) ?_;rintro a' w' ⟨g1,h⟩;obtain⟨dd,ac,ad⟩:=h.df
 show LeavesInM Fence.wide 0 P fn a'.tmps _ a'.defers (.panicking (LZ t1 d1)) w'
 rw[ac];refine fH M.size [] dd w' h.go1 h.fr ad fun w2 ae hF=>?_;exact⟨g1,rfl,ae⟩
def O0(P:Program)(il:List Nat)(f:Nat)(hints:List (List Nat)):Option PFD:=
 match P.funcs[f]? with
 |some fn=>match fn.body with
  |some (.seq (.region _ ops0 false) (.seq (.region _ ops1 false) rest))=>match ops1.toList.reverse with
   |o::rpre=>match K1 P il fn.ntmps ops0 ops0.toList,K1 P il fn.ntmps ops1 rpre.reverse,H5 P il fn.ntmps hints rest,OZ P fn.results.toList with
    |some pre,some pre1,some (pc,_),some res=>match o.op,o.guard,o.dst with
     |.defer c,none,none=>match c.callee with
      |.value x=>match DU x,IG c.args.toList with
       |some hf,some ha=>if fn.name == "runtime.NumGoroutine" then none else some {pre:=pre++pre1,hf,ha,code:=pc,res}
       |_,_=>none
      |_=>none
     |_,_,_=>none
    |_,_,_,_=>none
   |[]=>none
  |_=>none
 |none=>none
theorem fL{G:Dj}{T:Tbl}:∀ (l E:List PI) (s:PS),E6 G T (l++E) s=(E6 G T l s).bind fun s'=>E6 G T E s'
 |[],_,_=>rfl
 |i::l,E,s=>by
  simp only[Ak,E6]
  cases i.exec G T s with
  |none=>rfl
  |some s'=>exact fL l E s'
theorem Yo5(hT:TblOK P G T)(hy:T.y=fun _ _ _=>none){F:PFD}(ht:O0 P il f hints=some F){H:IY}(hH:∀ f h,H f=some h→Ud P G f h)(fuel:Nat):IContract P G f (F.runI G T H fuel):=by
 unfold O0 at ht
 split at ht
 case h_2=>cases ht
 rename_i fn hfn
 split at ht
 case h_2=>cases ht
 rename_i id0 ops0 id1 ops1 rest hc
 split at ht
 case h_2=>cases ht
 rename_i o rpre hops1
 split at ht
 case h_2=>cases ht
 rename_i pre pre1 pc hrest res hpre hpre1 htc htr
 split at ht
 case h_2=>cases ht
 rename_i c hop hgd hds
 split at ht
 case h_2=>cases ht
 rename_i x hcal
 split at ht
 case h_2=>cases ht
 rename_i hf ha hhf hha
 split at ht
 ·cases ht
 rename_i hname;simp only[Db]at ht; subst ht;refine⟨⟨fn,hfn,by rw[hc]; rfl,by simpa using hname⟩,?_⟩;intro base w g st st' ds vs d hsp hS hG hlen hrep;simp only[PFD.runI]at hsp
 split at hsp
 case h_2=>cases hsp
 rename_i s1 hs1
 split at hsp
 case h_2=>cases hsp
 rename_i hfn' das hput
 split at hsp
 case h_2=>cases hsp
 rename_i h hHf;rw[fL,Ay]at hs1;obtain⟨s0,hs0,hs1⟩:=hs1;refine callsIn_wide.1 (callsIn_of_wp_marks (F:=Fence.wide) (n:=0) hfn hc trivial ?_);refine wpIn_seq (wpIn_region_list (j6 (r:=none) hT (by rw[hy]; exact YOK.none) _ _ _ s0 _ w hpre hs0 (Ybu hS hG hlen hrep) ?_));intro a0 w0 hR0
 show Code.wpIn _ _ _ _ _ _ _
 refine wpIn_seq (wpIn_region_list ?_)
 have hl:ops1.toList=rpre.reverse++[o]:=by
  simp_all
 rw[hl];refine UD (r:=none) hT (by rw[hy]; exact YOK.none) _ _ _ _ _ _ hpre1 hs1 hR0 ?_;rintro a1 w1 ⟨g1,h1⟩;obtain⟨dst,op,ty,pos,after,guard⟩:=o;simp only at hop hgd hds;subst hop; subst hgd; subst hds;obtain⟨dd,hd1,hd2⟩:=h1.df;rw[Ai]at hd1;have hev:∀ x pa,DU x=some pa→RepV w1 g1 s1.st (Du G s1.fr pa) (a1.eval x):=fun x pa h=>GL (G:=G) h1.gl h1.fr h;have hxv:=hev _ _ hhf;obtain⟨q1,q2⟩:=P4 hev hha;have q1:(ha.map (Du G s1.fr)).length=(c.args.toList.map a1.eval).length:=by simpa using q1
 unfold Oo at hput
 split at hput
 case h_2=>cases hput
 rename_i hf' caps hclo
 split at hput
 case isFalse=>cases hput
 rename_i hlt;simp only[Db,Dx]at hput;obtain⟨rfl,rfl⟩:=hput;rw[hclo]at hxv;generalize hxe:a1.eval x=xv at hxv
 obtain⟨us,hul,hur,rfl⟩:∃ us:List Value,caps.length=us.length∧(∀ (i:Nat) d v,caps[i]?=some d→us[i]?=some v→RepV w1 g1 s1.st d v)∧xv=.func (.func hf') #[] us.toArray:=by
  cases hxv with
  |clo _ _ us e1 e2=>exact⟨us,e1,e2,by rw[Sl hlt,YP hlt,Yr hlt]⟩
 have hargs:c.args.map a1.eval=(c.args.toList.map a1.eval).toArray:=by
  grind
 generalize hav:c.args.toList.map a1.eval=av at q1 q2 hargs
 have hdef:(Oper.semAt (Wr none).round a1.eval {dst:=none,op:=.defer c,type:=ty,pos:=pos,after:=after,guard:=none}).run P w1=.ok (.defer {target:=.fn (.func hf') us.toArray,args:=av.toArray}) w1:=by
  show(execOp a1.eval {dst:=none,op:=.defer c,type:=ty,pos:=pos,after:=after,guard:=none}).run P w1=_
  simp only[execOp,resolve,hcal,hargs,hxe,Deferred.ofValue,BO];rfl
 have hw1:Region.wanted ({dst:=none,op:=.defer c,type:=ty,pos:=pos,after:=after,guard:=none}:Oper) (yielded ops1 a1.tmps)=true:=by simp[Region.wanted]
 simp only[wpListIn,hw1,if_true];refine⟨fun _ _=>trivial,?_⟩;rw[hdef,Oper.uponIn_defer]
 show Code.wpIn _ _ _ _ _ _ _
 have hR1:R G base fn.ntmps w1 g1 s1.st ({target:=.fn (.func hf') us.toArray,args:=av.toArray}::dd) s1 ({a1 with defers:={target:=.fn (.func hf') us.toArray,args:=av.toArray}::a1.defers}.put none undef) w1:=by
  refine⟨g1,Go1.refl h1.sr,h1.fr,h1.gl,⟨[],?_,trivial⟩,h1.sz⟩;simp[Act.put,hd1]
 obtain⟨⟨hfn',hhf,hhb,hhn⟩,hcon⟩:=hH _ _ hHf
 have hinv:∀ w2,(invoke (.fn (.func hf') us.toArray) av.toArray).run P w2=.ok (.enter hf' (av++us).toArray) w2:=by
  intro w2
  have hbn:¬ hfn'.body=none:=by
   grind
  have hn':¬ hfn'.name= "runtime.NumGoroutine":=by simpa using hhn
  simp[invoke,callFunc,hhf,hn',hbn]
 have hdl:(ha.map (Du G s1.fr)++caps).length=(av++us).length:=by simp only[Ad,q1,hul]
 have hdr:=eU q1 q2 hur;have hrt:=h1.go1.sr.size
 have fin:∀ (s3:PS) (a':Act) (w3:World) (g3:Ghost),(D8 s3 res).map (fun l=>(DS l,s3.st))=some (d,st')→FR w3 g3 s3.st s3.fr a'→Go1 base w g st w3 g3 s3.st→DfOK w w3 dd→
   LeavesInM Fence.wide 0 P fn a'.tmps (fun e w'=>∃ v g',e=.returned v∧Go1 base w g st w' g' st'∧RepV w' g' st' d v) dd .returning w3:=by
  intro s3 a' w3 g3 hget hF hgo hdf
  have:=Ul (P:=P) (fn:=fn) (R:=fun e w'=>∃ v g',e=.returned v∧Go1 base w g st w' g' st'∧RepV w' g' st' d v) hS.size dd w3 hgo hF hdf (fun w4 hgo4 hF4=>by
   simp only[DH,Dx]at hget;obtain⟨xs,hx1,rfl,rfl⟩:=hget;obtain⟨us,e1,e2,e3⟩:=SA hgo4.sr hF4 htr hx1;exact⟨_,Zj e3,_,g3,rfl,hgo4,TP e1 e2⟩)
  exact this
 have done:∀ (e:Ex) (s':PS),pc.exec G T fuel s1=some (e,s')→(e=.next∨e=.ret)→(D8 s' res).map (fun l=>(DS l,s'.st))=some (d,st')→
   ∀ a' w',R G base fn.ntmps w1 g1 s1.st ({target:=.fn (.func hf') us.toArray,args:=av.toArray}::dd) s' a' w'→LeavesInM Fence.wide 0 P fn a'.tmps (fun e w'=>∃ v g',e=.returned v∧Go1 base w g st w' g' st'∧RepV w' g' st' d v) a'.defers .returning w':=by
  rintro e s' hex he hget a' w' ⟨g2,h⟩;obtain⟨d2,hd3,hd4⟩:=h.df;rw[hd3];refine uZ hrt _ d2 w' h.go1 h.fr hd4 fun w2 hgo hF=>?_;refine⟨by simp,.inr ⟨(by intro e; cases e),.func hf',us.toArray,hf',(av++us).toArray,rfl,hinv w2,fun _ _=>trivial,?_⟩⟩;have hG2:GlobOK G w2 g2:=h1.gl.mono hgo.im;refine((hcon base w2 g2 s'.st _ _ hgo.sr hG2 hdl (fun i d v h1 h2=>hgo.rep (hdr i d v h1 h2))).1).mono ?_;rintro e u w3 ⟨rfl,rfl,g3,hgo3⟩;exact fin s' a' w3 g3 hget (hF.mono hgo3.im hgo3.evo) (h1.go1.trans (hgo.trans hgo3)) ((hd2.mono hgo.kp).mono hgo3.kp)
 split at hsp
 ·rename_i s' hex;refine ON hT rest none (.inl rfl) w1 g1 s1.st _ (by rw[hy]; exact YOK.none) hrt hints (pc,_) htc fuel _ s' _ hex _ w1 _ hR1 fun a' w' hR'=>?_;exact done _ s' hex (.inl rfl) hsp a' w' hR'
 ·rename_i s' hex;refine ON hT rest none (.inl rfl) w1 g1 s1.st _ (by rw[hy]; exact YOK.none) hrt hints (pc,_) htc fuel _ s' _ hex _ w1 _ hR1 fun a' w' hR'=>?_;exact done _ s' hex (.inr rfl) hsp a' w' hR'
 ·rename_i t d2 s' hex
  split at hsp
  case h_2=>cases hsp
  rename_i st3 hst3;refine ON hT rest none (.inl rfl) w1 g1 s1.st _ (by rw[hy]; exact YOK.none) hrt hints (pc,_) htc fuel _ s' _ hex _ w1 _ hR1 ?_;rintro a' w' ⟨g2,h⟩;obtain⟨d3,hd3,hd4⟩:=h.df
  show LeavesInM Fence.wide 0 P fn a'.tmps _ a'.defers (.panicking (LZ t d2)) w'
  rw[hd3];refine fH hrt _ d3 w' h.go1 h.fr hd4 fun w2 hgo hF=>?_;refine⟨by simp,.inr ⟨(by intro e; cases e),.func hf',us.toArray,hf',(av++us).toArray,rfl,hinv w2,fun _ _=>trivial,?_⟩⟩;have hG2:GlobOK G w2 g2:=h1.gl.mono hgo.im;refine((hcon base w2 g2 s'.st _ _ hgo.sr hG2 hdl (fun i d v h1 h2=>hgo.rep (hdr i d v h1 h2))).2 t d2 st3 hst3).mono ?_;rintro e u w3 ⟨rfl,rfl,g3,hgo3⟩;exact fin ⟨s'.fr,st3⟩ a' w3 g3 hsp (hF.mono hgo3.im hgo3.evo) (h1.go1.trans (hgo.trans hgo3)) ((hd2.mono hgo.kp).mono hgo3.kp)
 ·cases hsp
theorem cY(E:TblOK P G T)(M:T.y=fun _ _ _=>none)(I:DB P il f hints=some F)(fuel:Nat):IContract P G f (F.runI G T fuel):=
 ⟨(TN E I fuel).1,fun base w g st st' ds vs d J U V hl Y=>(TN E I fuel).2 base w g st st' ds vs d (by rw[M]; exact YOK.none) J U V hl Y⟩
theorem Yo4(E:TblOK P G T)(J:DB P il f hints=some F){sp:(List D→St→Option (D×St))→List D→St→Option (D×St)}
  (h:∀ (l:Nat) y ds st r,sp y ds st=some r→∃ fuel,F.runI G (Qq T l y) fuel (.clo (10000000+l) []::ds) st=some r):Ut P G f sp:=by
 refine⟨(TN E J 0).1,fun base w g st st' ds vs d l y V M Y hG hl hr=>?_⟩;obtain⟨fuel,hf⟩:=h l y ds st _ M;have U:TblOK P G (Qq T l y):=⟨E.p,E.i,E.m,E.r,E.x,E.q⟩;refine(TN U J fuel).2 base w g st st' _ (_::vs) d V hf Y hG (by simp[hl]) ?_;intro i d v I hv
 cases i with
 |zero=>
  simp only[AF,Db]at I hv;subst I; subst hv;have:=RepV.clo (w:=w) (g:=g) (st:=st) (10000000+l) [] [] rfl (fun i d v h=>by simp at h);rw[yZu,Zh,YN]at this;exact this
 |succ i=>exact hr i d v (by simpa using I) (by simpa using hv)
theorem Ynj(h:RepV w g st d v):RepV w g (PI.cut k st) (H9 k d) v:=by
 cases d with
 |tup l=>
  cases h with
  |tup _ vs I J=>
   refine .tup _ vs (by simpa using I) fun i d v E hv=>?_;simp only[AD,DH]at E;obtain⟨d0,M,rfl⟩:=E;exact gy (J i d0 v M hv)
 |_=>exact gy h
theorem IContract.dropped{sp:List D→St→Option (D×St)}(h:IContract P G f sp):IContract P G f (PI.dropped sp):=by
 refine⟨h.1,fun base w g st st' ds vs d E I J hl M=>?_⟩;simp only[PI.dropped,DH,Dx,Prod.exists]at E;obtain⟨d0,st1,U,rfl,rfl⟩:=E;refine(h.2 base w g st st1 ds vs d0 U I J hl M).mono ?_;rintro e w' ⟨v,g',rfl,V,Y⟩;exact⟨v,g',rfl,V.cut (Ax _),Ynj Y⟩
theorem Yxu(hT:TblOK P G T)(hy:T.y=fun _ _ _=>none)(E:DB P il f hints=some F)(fuel:Nat):Contract P G f (F.run G T fuel):=by
 intro w g ds vs d ad hG ae hlen ab _;unfold DB at E
 split at E
 case h_2=>cases E
 rename_i fn af
 split at E
 case h_2=>cases E
 rename_i c hc
 split at E
 case h_2=>cases E
 rename_i pc V res ah a0
 split at E
 ·cases E
 simp only[Db]at E; subst E;have hS:SR w.heap.size w g []:=⟨fun k o h=>by simp at h,fun k o h=>by simp at h,fun k k' o o' h=>by simp at h,ae,fun k o x h=>by simp at h,Ax _⟩
 have key:∀ (e:Ex) (s':PS),pc.exec G T fuel {fr:=Dc ds,st:=[]}=some (e,s')→(FV s' res).map DS=some d→(e=.next∨e=.ret)→
   Calls P f vs.toArray w fun e w'=>∃ v g',e=.returned v∧RepV w' g' [] d v∧purR d=true∧ImLe w g w' g'∧(∀ b o,g'.Im b o→g.Im b o∨w.heap.size≤b)∧
   (∀ b o,g'.Im b o→(w'.cell? ⟨b,o,none⟩).isSome=true)∧Below w.heap.size w w':=by
  intro e s' hex U he;refine callsIn_wide.1 (callsIn_of_wp_marks (F:=Fence.wide) (n:=0) af hc trivial ?_)
  have a1:R G w.heap.size fn.ntmps w g [] [] {fr:=Dc ds,st:=[]} {tmps:=vs.toArray++CX (fn.ntmps - vs.toArray.size) undef,defers:=[]} w:=by
   refine⟨g,Go1.refl hS,?_,hG,⟨[],rfl,trivial⟩,?_⟩
   ·intro s;simp only[Dc];rcases A8 s ds.length with h1 | h1
    ·have h2:s<vs.length:=by omega
     have h3:(vs.toArray++CX (fn.ntmps - vs.toArray.size) undef).getD s undef=vs[s]:=by
      simp[Array.getD,h2];omega
     rw[h3];have:=ab s ds[s] vs[s] (by simp[h1]) (by simp[h2]);grind
    ·simp[Af,Bd h1];exact .junk _
   ·simp; omega
  have fin:∀ J w',R G w.heap.size fn.ntmps w g [] [] s' J w'→LeavesInM Fence.wide 0 P fn J.tmps (fun e w'=>∃ v g',e=.returned v∧RepV w' g' [] d v∧purR d=true∧ImLe w g w' g'∧(∀ b o,g'.Im b o→g.Im b o∨w.heap.size≤b)∧
   (∀ b o,g'.Im b o→(w'.cell? ⟨b,o,none⟩).isSome=true)∧Below w.heap.size w w') J.defers .returning w':=by
   rintro J w' ⟨g1,h⟩;obtain⟨dd,a3,a4⟩:=h.df;rw[a3,Ai];refine Ul (Ax _) dd w' h.go1 h.fr a4 fun w2 M hF=>?_;simp only[DH]at U;obtain⟨ys,a5,rfl⟩:=U;obtain⟨xs,a6,a7⟩:=jZ a5;obtain⟨us,e1,e2,e3⟩:=SA M.sr hF a0 a6;obtain⟨g2,a8,_,e5,e6,e7⟩:=SI M.sr a7;have I:=M.trans a8;refine⟨_,Zj e3,_,g2,rfl,?_,dn e6,I.im,I.new,I.sr.im,I.below⟩;have h8:=TP (g:=g2) (w:=w2) (ds:=ys) (vs:=us) (by omega) fun i y v hy hv=>e7 i y v hy fun x hx=>e2 i x v hx hv;exact h8.purR (ImLe.refl _ _) (dn e6)
  refine ON hT c none (.inl rfl) w g [] [] (by rw[hy]; exact YOK.none) (Ax _) hints (pc,V) ah fuel _ s' e hex _ w _ a1 ?_;intro J w' Y;rcases he with rfl | rfl
  ·exact fin J w' Y
  ·exact fin J w' Y
 simp only[PF.run]at ad;grind
theorem p9(E:TblOK P G T)(I:T.y=fun _ _ _=>none)(J:DB P il f hints=some F){sp:List D→Option D}(h:∀ ds d,sp ds=some d→∃ fuel,F.run G T fuel ds=some d):Contract P G f sp:=by
 intro w g ds vs d M;obtain⟨fuel,hf⟩:=h ds d M;exact Yxu E I J fuel w g ds vs d hf
end
end Go.Proofs.YtijnglngaogdjaaGreatDoor.PI
