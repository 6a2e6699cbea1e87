/-
  Code and functions: a function whose translation comes to a value meets its contract.
  Conditions: none; these are lemmas.
-/
import Derived.Test.YtijnglngaogdjaaGreatDoorEngP
import Derived.OrdersIn
import Derived.TacticsIn
import Derived.Sort.LoopGhostIn
import Derived.RangeFuncLeaves
import Derived.RangeFuncRecord
open Array renaming replicate→CN
open List renaming range→CI
set_option linter.unusedVariables false
set_option linter.unusedSimpArgs false
namespace Go.Proofs.YtijnglngaogdjaaGreatDoor.PI
open Go Go.RowKit
def Like(st st2:St)(k:Nat):Prop:=(st[k]?=none∧st2[k]?=none)∨∃ o o2,st[k]?=some o∧st2[k]?=some o2∧o2.row=o.row∧o2.sz=o.sz∧o2.els=o.els
variable {k:Nat}{st st2:St}
theorem Like.symm(h:Like st st2 k):Like st2 st k:=by
 rcases h with⟨a,b⟩ | ⟨o,o2,a,b,c,d,e⟩
 ·exact .inl ⟨b,a⟩
 ·exact .inr ⟨o2,o,b,a,c.symm,d.symm,e.symm⟩
theorem Like.of_eq(h:st2[k]?=st[k]?):Like st st2 k:=by
 cases hk:st[k]? with
 |none=>exact .inl ⟨hk,by rw[h,hk]⟩
 |some o=>exact .inr ⟨o,o,hk,by rw[h,hk],rfl,rfl,rfl⟩
variable {key:Nat}
theorem aY(h:Like st st2 key)(tot off len:Nat):Hf st2 key tot off len=Hf st key tot off len:=by
 unfold Hf;rcases h with⟨a,b⟩ | ⟨o,o2,a,b,c,d,e⟩
 ·rw[a,b]
 ·grind
theorem qt(h:Like st st2 key)(off n sz:Nat)(ag:Bool):Kv st2 key off n sz ag=Kv st key off n sz ag:=by
 unfold Kv;rcases h with⟨a,b⟩ | ⟨o,o2,a,b,c,d,e⟩
 ·rw[a,b]
 ·grind
theorem ZR(h:Like st st2 key)(tot:Nat):EE st2 key tot=EE st key tot:=by
 unfold EE;rcases h with⟨a,b⟩ | ⟨o,o2,a,b,c,d,e⟩
 ·rw[a,b]
 ·grind
variable {d:D}
theorem oc(h:∀ k∈Dp d,Like st st2 k):Dw st2 d=Dw st d:=by
 cases d with
 |row key tot off len=>simp only[Dw,aY (h key (by simp[Dp,FV]))]
 |bsl key off n sz ag=>simp only[Dw,Hq,qt (h key (by simp[Dp,FV]))]
 |_=>simp only[Dw]
theorem oh{st st2:St}:∀ {l:List D},(∀ k∈l.flatMap Dp,Like st st2 k)→DQ st2 l=DQ st l
 |[],_=>rfl
 |d::l,h=>by
  simp only[DQ];rw[oc (fun k hk=>h k (by simp[hk])),oh (fun k hk=>h k (by rw[At,AK]; exact .inr hk))]
theorem mw(h:∀ k∈hk d,Like st st2 k):DO st2 d=DO st d:=by
 cases d with
 |agg l=>simp only[DO]; rw[oh h]
 |tup l=>rfl
 |_=>simp only[DO]; exact oc h
theorem Wn{st st2:St}:∀ {l:List D},(∀ k∈l.flatMap hk,Like st st2 k)→D0 st2 l=D0 st l
 |[],_=>rfl
 |d::l,h=>by
  simp only[D0];rw[mw (fun k hk=>h k (by rw[At,AK]; exact .inl hk)),Wn (fun k hk=>h k (by rw[At,AK]; exact .inr hk))]
theorem zb(h:∀ k∈hk d,Like st st2 k):Gy st2 d=Gy st d:=by
 cases d with
 |row key tot off len=>simp only[Gy,aY (h key (by simp[hk,Dp,FV]))]
 |bsl key off n sz ag=>simp only[Gy,qt (h key (by simp[hk,Dp,FV]))]
 |_=>rfl
theorem xK(h:∀ k∈hk d,Like st st2 k):ED st2 d=ED st d:=by
 cases d with
 |row key tot off len=>simp only[ED,ZR (h key (by simp[hk,Dp,FV]))]
 |_=>rfl
theorem ySf{c:PConv}(h:∀ k∈hk d,Like st st2 k):Fa st2 c d=Fa st c d:=by
 cases d with
 |row key tot off len=>cases c <;> simp only[Fa,aY (h key (by simp[hk,Dp,FV]))]
 |_=>cases c <;> simp only[Fa]
variable {sz:Nat}
theorem yL7{x:D}{lo hi E:Option D}(h:∀ k∈hk x,Like st st2 k):Gm st2 sz x lo hi E=Gm st sz x lo hi E:=by
 cases x with
 |row key tot off len=>
  simp only[Gm];rcases h key (by simp[hk,Dp,FV])with⟨a,b⟩ | ⟨o,o2,a,b,c,d,e⟩
  ·rw[a,b]
  ·grind
 |_=>simp only[Gm]
theorem yR7{x i:D}(h:∀ k∈hk x,Like st st2 k):F5 st2 sz x i=F5 st sz x i:=by
 unfold F5
 cases Fq i with
 |none=>rfl
 |some j=>
  cases x with
  |row key tot off len=>
   simp only;rcases h key (by simp[hk,Dp,FV])with⟨a,b⟩ | ⟨o,o2,a,b,c,d,e⟩
   ·rw[a,b]
   ·grind
  |_=>rfl
theorem oD{off:Nat}{x:D}(h:∀ k∈K5 x,Like st st2 k):E3 st2 off x=E3 st off x:=by
 cases x with
 |rptr key tot i o=>simp only[E3,ZR (h key (by simp[K5]))]
 |_=>rfl
variable {n:Nat}
theorem yR9{x i:D}(h:∀ k∈K5 x,Like st st2 k):IE st2 n sz x i=IE st n sz x i:=by
 simp only[IE,oD h]
theorem yR2{ag:Bool}{p:D}(h:∀ k∈hk p,Like st st2 k):E1 st2 n ag p=E1 st n ag p:=by
 cases p with
 |ptr key off=>
  simp only[E1];rcases h key (by simp[hk,Dp,FV])with⟨a,b⟩ | ⟨o,o2,a,b,c,d,e⟩
  ·rw[a,b]
  ·grind
 |rptr key tot i off=>
  simp only[E1];rcases h key (by simp[hk,Dp,FV])with⟨a,b⟩ | ⟨o,o2,a,b,c,d,e⟩
  ·rw[a,b]
  ·grind
 |_=>simp only[E1]
theorem yIi{ks:List Nat}{ok:Bool}{E m k:D}(h:∀ k∈hk m,Like st st2 k):IJ st2 sz ks ok E m k=IJ st sz ks ok E m k:=by
 cases m with
 |mapv key=>
  simp only[IJ];rcases h key (by simp[hk,Dp,FV])with⟨a,b⟩ | ⟨o,o2,a,b,c,d,e⟩
  ·rw[a,b]
  ·simp only[a,b,Obj.isMap,c,d,e];rfl
 |_=>simp only[IJ]
theorem wM{p:D}(h:∀ k∈K5 p,Like st st2 k):∀ key tot i off,p=.rptr key tot i off→EE st2 key tot=EE st key tot:=by
 rintro key tot i off rfl;exact ZR (h key (by simp[K5])) tot
theorem Ygh(h:k∈EX d):k∈Dp d:=by
 cases d <;> simp_all [EX,Dp,FV]
theorem Yns(h:k∈keys d):k∈hk d:=by
 cases d with
 |agg l=>
  simp only[keys,hk,Bj]at h ⊢;obtain⟨x,E,I⟩:=h;exact⟨x,E,Ygh I⟩
 |row a b c e=>exact h
 |bsl key off n sz ag=>simp only[keys,EX,AM]at h; subst h; simp[hk,Dp,FV]
 |_=>simp[keys,EX]at h
theorem mz{l:List D}(h:k∈l.flatMap keys):k∈l.flatMap hk:=by
 simp only[Bj]at h ⊢;obtain⟨x,E,I⟩:=h;exact⟨x,E,Yns I⟩
inductive Eff where
 |lend (ks:List Nat)
 |set (k:Nat) (o:Obj)
 |push (os:List Obj)
theorem Yqv{E:Nat}{xs:List D}(h:Gy st d=some (E,xs))(I:xs≠[])(n:Nat):FH d n=some n:=by
 unfold FH
 split
 ·simp only[Gy,C3,Dk]at h;grind
 ·rfl
theorem Ycn{m:Nat}(h:FH d m=some n):n=m:=by
 unfold FH at h;grind
theorem nC(h:FH d n=none)(m:Nat):FH d m=none:=by
 unfold FH at h ⊢;grind
def Eff.app:Eff→St→St
 |.lend ks,st=>PI.lend ks st
 |.set k o,st=>st.set k o
 |.push os,st=>st++os
def Eff.inn(f:Foot):Eff→Prop
 |.lend ks=>∀ k∈ks,k∈f.rd
 |.set k _=>k∈f.wr
 |.push _=>f.nu.isSome=true
theorem oT{st st2:St}:∀ {l:List Nat},(∀ k∈l,Like st st2 k)→GP st2 l=GP st l
 |[],_=>rfl
 |a::l,h=>by
  have e:(st2[a]?).map Obj.see=(st[a]?).map Obj.see:=by
   rcases h a (by simp)with⟨x,y⟩ | ⟨o,o2,x,y,c,d,e⟩
   ·rw[x,y]
   ·simp only[x,y,Ah,Obj.see,c,d,e]
  have E:=oT (st:=st) (st2:=st2) (l:=l) fun k hk=>h k (by simp[hk]);simp only[GP,e,E]
theorem yL5{sp:List D→List (Option (Bool×Nat×List D))→Option D}{ds:List D}(h:∀ k∈ds.flatMap hk,Like st st2 k):Ig sp ds st2=Ig sp ds st:=by
 have e:(ds.flatMap hk).all (fun k=>(st2[k]?).isSome)=(ds.flatMap hk).all (fun k=>(st[k]?).isSome):=by
  rw[B0,Aj,Aj];refine forall_congr' fun k=>imp_congr_right fun hk=>?_;rcases h k hk with⟨x,y⟩ | ⟨o,o2,x,y,_⟩
  ·rw[x,y]
  ·grind
 unfold Ig;rw[e,oT h]
variable {f:Foot}{ρ:PA→D}{T:Tbl}
theorem nW(p:POp){st':St}(E:p.foot ρ st=some f)(h:p.exec T ρ st=some (d,st')) :
  ∃ e:Eff,e.inn f∧st'=e.app st∧∀ st2:St,(∀ k∈f.rd,Like st st2 k)→(∀ k∈f.wr,st2[k]?=st[k]?)→(f.nu.isSome=true→st2.length=st.length)→p.exec T ρ st2=some (d,e.app st2):=by
 by_cases hc:p.cls=0
 ·obtain⟨Y,h2⟩:=fE p hc h;exact⟨.lend [],(fun k hk=>by cases hk),Y,fun st2 _ _ _=>h2 st2⟩
 have rd:∀ {α:Type} (F:St→Option α) (g:α→D),((F st).map fun x=>(g x,st))=some (d,st')→(∀ st2,(∀ k∈f.rd,Like st st2 k)→F st2=F st)→(∀ st2,p.exec T ρ st2=(F st2).map fun x=>(g x,st2))→
   ∃ e:Eff,e.inn f∧st'=e.app st∧∀ st2:St,(∀ k∈f.rd,Like st st2 k)→(∀ k∈f.wr,st2[k]?=st[k]?)→(f.nu.isSome=true→st2.length=st.length)→p.exec T ρ st2=some (d,e.app st2):=by
  intro α F g Y h2 h3;simp only[Dv,Dk]at Y;obtain⟨x,M,h4,h5⟩:=Y;refine⟨.lend [],(fun k hk=>by cases hk),h5.symm,fun st2 hl _ _=>?_⟩;rw[h3,h2 st2 hl,M,← h4]; rfl
 cases p with
 |load n ag x=>
  simp only[POp.foot,POp.args,C3]at E; subst E;exact rd (fun st=>E1 st n ag (ρ x)) id h (fun st2 hl=>yR2 fun k hk=>hl k (by simpa using hk)) (fun _=>rfl)
 |fld off x=>
  simp only[POp.foot,C3]at E; subst E;exact rd (fun st=>E3 st off (ρ x)) id h (fun st2 hl=>oD hl) (fun _=>rfl)
 |conv c x=>
  simp only[POp.foot,POp.args,C3]at E; subst E;exact rd (fun st=>Fa st c (ρ x)) id h (fun st2 hl=>ySf fun k hk=>hl k (by simpa using hk)) (fun _=>rfl)
 |slice sz x lo hi mx=>
  simp only[POp.foot,POp.args,C3]at E; subst E;exact rd (fun st=>Gm st sz (ρ x) (lo.map ρ) (hi.map ρ) (mx.map ρ)) id h (fun st2 hl=>yL7 fun k hk=>hl k (by rw[Ax,At,AK]; exact .inl hk)) (fun _=>rfl)
 |idxS sz x i=>
  simp only[POp.foot,POp.args,C3]at E; subst E;exact rd (fun st=>F5 st sz (ρ x) (ρ i)) id h (fun st2 hl=>yR7 fun k hk=>hl k (by rw[Ax,At,AK]; exact .inl hk)) (fun _=>rfl)
 |idxA n sz x i=>
  simp only[POp.foot,C3]at E; subst E;exact rd (fun st=>IE st n sz (ρ x) (ρ i)) id h (fun st2 hl=>yR9 hl) (fun _=>rfl)
 |len str x=>
  simp only[POp.foot,POp.args,C3]at E; subst E;simp only[POp.exec]at h
  split at h
  ·rename_i N;exact rd (fun st=>ED st (ρ x)) (fun n:Nat=>D.int .i64 (n:Int)) h (fun st2 hl=>xK fun k hk=>hl k (by simpa using hk)) (fun st2=>by simp only[POp.exec]; rw[if_pos N])
  ·cases h
 |nilc x=>
  simp only[POp.foot,C3]at E; subst E;have hn:=fun st2 (hl:∀ k∈K5 (ρ x),Like st st2 k)=>wM (p:=ρ x) hl;simp only[POp.exec]at h ⊢
  cases M:ρ x with
  |ptr key off=>
   simp only[M,C3,Dk]at h;refine⟨.lend [],(fun k hk=>by cases hk),h.2.symm,fun st2 hl _ _=>by rw[← h.1]; rfl⟩
  |eptr el off=>
   simp only[M,C3,Dk]at h;refine⟨.lend [],(fun k hk=>by cases hk),h.2.symm,fun st2 hl _ _=>by rw[← h.1]; rfl⟩
  |rptr key tot i off=>
   simp only[M]at h ⊢
   split at h
   ·rename_i af;simp only[C3,Dk]at h;refine⟨.lend [],(fun k hk=>by cases hk),h.2.symm,fun st2 hl _ _=>?_⟩;rw[hn st2 (by rw[M]; exact hl) key tot i off M,if_pos af,← h.1]; rfl
   ·cases h
  |_=>simp[M]at h
 |bslc sz parts=>
  simp only[POp.foot,POp.args,C3]at E; subst E;simp only[POp.exec]at h ⊢
  split at h
  ·rename_i els he
   split at h
   ·rename_i I;simp only[C3,Dk]at h;refine⟨.lend ((parts.map ρ).flatMap keys),fun k hk=>mz hk,h.2.symm,fun st2 hl _ _=>?_⟩;rw[Wn hl,he];simp only[I,if_true,← h.1];rfl
   ·cases h
  ·cases h
 |call fn args=>
  simp only[POp.foot,POp.args,C3]at E; subst E;simp only[POp.exec]at h ⊢
  split at h
  ·rename_i sp vs U aa
   split at h
   ·rename_i r hr;simp only[C3,Dk]at h
    by_cases hn:r.noRef=true
    ·refine⟨.lend [],(fun k hk=>by cases hk),?_,fun st2 hl _ _=>?_⟩
     ·rw[← h.2,if_pos hn]; rfl
     ·simp only[U,Wn hl,aa,hr,hn,if_true,← h.1]; rfl
    ·refine⟨.lend ((args.map ρ).flatMap keys),fun k hk=>mz hk,?_,fun st2 hl _ _=>?_⟩
     ·rw[← h.2,if_neg hn]; rfl
     ·simp only[U,Wn hl,aa,hr,hn,← h.1]; rfl
   ·cases h
  ·cases h
 |box x=>
  simp only[POp.foot,C3]at E; subst E;simp only[POp.exec]at h ⊢
  split at h
  ·rename_i I;simp only[C3,Dk]at h;refine⟨.push _,rfl,h.2.symm,fun st2 _ _ hm=>?_⟩;rw[if_pos I,hm rfl,← h.1]; rfl
  ·cases h
 |mkslc sz bytes zero l c=>
  simp only[POp.foot,C3]at E; subst E;simp only[POp.exec]at h ⊢
  split at h
  ·split at h
   ·rename_i I;simp only[C3,Dk]at h;refine⟨.push _,rfl,h.2.symm,fun st2 _ _ hm=>?_⟩;rw[if_pos I,hm rfl,← h.1]; rfl
   ·cases h
  ·cases h
 |mcall fn args=>
  simp only[POp.foot,C3]at E; subst E;simp only[POp.exec]at h ⊢
  split at h
  ·split at h
   ·simp only[C3,Dk]at h;refine⟨.push _,rfl,h.2.symm,fun st2 _ _ hm=>?_⟩;rw[hm rfl,← h.1]; rfl
   ·cases h
  ·cases h
 |stor n p x=>
  simp only[POp.foot,C3]at E; subst E;simp only[POp.exec]at h ⊢
  cases hp:ρ p with
  |ptr key off=>
   rw[hp]at h;simp only[Ll]at h ⊢
   cases hk:st[key]? with
   |none=>simp[hk]at h
   |some o=>
    simp only[hk]at h
    split at h
    ·rename_i I;simp only[Ah,C3,Dk]at h;refine⟨.set key _,by simp[Eff.inn,PI.hk,Dp,FV],h.2.symm,fun st2 _ hw _=>?_⟩;have e:=hw key (by simp[PI.hk,Dp,FV]);rw[e,hk];simp only[I,if_true,Ah,← h.1];rfl
    ·simp at h
  |rptr key tot i off=>
   rw[hp]at h;simp only[Ll]at h ⊢
   cases hk:st[key]? with
   |none=>simp[hk]at h
   |some o=>
    cases hy:DO st (ρ x)with
    |none=>simp[hk,hy]at h
    |some y=>
     simp only[hk,hy]at h
     split at h
     case isFalse=>simp at h
     rename_i I
     split at h
     case h_2=>simp at h
     rename_i el a0
     split at h
     case h_2=>simp at h
     rename_i a6 ae
     split at h
     case isFalse=>simp at h
     rename_i hlen;simp only[Ah,C3,Dk]at h;refine⟨.set key _,by simp[Eff.inn,PI.hk,Dp,FV],h.2.symm,fun st2 hl hw _=>?_⟩;have e:=hw key (by simp[PI.hk,Dp,FV]);rw[e,hk,mw hl,hy];simp only[I,if_true,a0,ae,hlen,Ah,← h.1];rfl
  |_=>simp[hp,Ll]at h
 |app sz bytes s x=>
  simp only[POp.foot]at E;simp only[POp.exec]at h ⊢;unfold D8 at h ⊢;have O:∀ st2,(∀ k∈hk (ρ x),Like st st2 k)→Gy st2 (ρ x)=Gy st (ρ x):=fun st2 hl=>zb hl
  cases he:Gy st (ρ x)with
  |none=>simp[he]at h
  |some r=>
   obtain⟨a7,xs⟩:=r;simp only[he]at h
   split at h
   ·cases h
   rename_i V
   cases N:ρ s with
   |row key tot off len=>
    simp only[N,C3]at E; subst E;simp only[N]at h ⊢
    cases hk:st[key]? with
    |none=>simp[hk]at h
    |some o=>
     simp only[hk]at h
     split at h
     case isFalse=>cases h
     rename_i I;simp only[C3,Dk]at h;refine⟨.set key _,by simp[Eff.inn],h.2.symm,fun st2 hl hw _=>?_⟩;have e:=hw key (by simp);rw[O st2 hl,he,e,hk];simp only[V,if_false,Al,I,if_true,← h.1];rfl
   |slc a8 els t=>
    simp only[N,C3]at E; subst E
    cases t with
    |false=>simp[N]at h
    |true=>
     simp only[N]at h ⊢
     split at h
     ·rename_i J;simp only[C3,Dk]at h;refine⟨.lend [],(fun k hk=>by cases hk),h.2.symm,fun st2 hl _ _=>?_⟩;rw[O st2 hl,he];dsimp only;rw[if_neg V,if_pos J,← h.1];rfl
     ·rename_i J
      split at h
      case isFalse=>cases h
      rename_i I;simp only[C3,Dk]at h;have hN:FH (ρ x) st.length=some st.length:=Yqv he (by simpa using J) _;refine⟨.push _,(by show(FH (ρ x) st.length).isSome=true; rw[hN]; rfl),h.2.symm,fun st2 hl _ hm=>?_⟩;rw[O st2 hl,he,hm (by show(FH (ρ x) st.length).isSome=true; rw[hN]; rfl)];dsimp only;rw[if_neg V,if_neg J,if_pos I,← h.1];rfl
   |_=>simp[N]at h
 |rcall fn args=>
  simp only[POp.foot,POp.args,C3]at E; subst E;simp only[POp.exec]at h
  split at h
  ·rename_i sp U;exact rd (fun st=>Ig sp (args.map ρ) st) id h (fun st2 hl=>yL5 hl) (fun st2=>by simp only[POp.exec,U]; rfl)
  ·cases h
 |icall fn args=>simp[POp.foot]at E
 |callv x args=>simp[POp.foot]at E
 |fail=>simp[POp.foot]at E
 |mkmap sz=>simp[POp.foot]at E
 |mapup sz ks m k v=>simp[POp.foot]at E
 |cpy sz d s=>simp[POp.foot]at E
 |mapget sz ks ok zero m k=>
  simp only[POp.foot,POp.args,C3]at E; subst E;exact rd (fun st=>IJ st sz ks ok zero (ρ m) (ρ k)) id h (fun st2 hl=>yIi fun k hk=>hl k (by rw[Ax,At,AK]; exact .inl hk)) (fun _=>rfl)
 |_=>simp[POp.cls]at hc
theorem kO{p:POp}(h:p.foot ρ st=some f):∀ n,f.nu=some n→n=st.length:=by
 intro n hn
 cases p with
 |app sz bytes s x=>
  simp only[POp.foot]at h;cases E:ρ s <;> simp only[E,C3]at h <;> subst h <;> first | exact Ycn hn | (simp at hn; done) | exact(by simpa using hn.symm)
 |_=>
  simp only[POp.foot,C3,reduceCtorEq]at h
  try subst h
  try simp at hn
  try exact hn.symm
theorem QD(p:POp)(h:st2.length=st.length):p.foot ρ st2=p.foot ρ st:=by
 cases p <;> simp only[POp.foot,h]
theorem Wd(p:POp)(hc:p.cls≤2)(st st2:St):p.foot ρ st2=p.foot ρ st:=by
 cases p <;> first | rfl | (simp[POp.cls]at hc; done)
theorem p8{p:POp}(h:p.foot ρ st=some f)(hm:f.nu=none):p.foot ρ st2=some f:=by
 cases p with
 |app sz bytes s x=>
  simp only[POp.foot]at h ⊢;cases E:ρ s <;> simp only[E,C3]at h ⊢ <;> subst h <;> first | rfl | (simp only[nC hm _]; done) | (simp at hm; done) | (rw[nC hm st2.length,hm])
 |box x=>simp only[POp.foot,C3]at h; subst h; cases hm
 |mkslc a b c d e=>simp only[POp.foot,C3]at h; subst h; cases hm
 |mcall fn args=>simp only[POp.foot,C3]at h; subst h; cases hm
 |_=>exact h
theorem zh{E:PA→D}(p:POp)(h:∀ x∈p.args,ρ x=E x):p.foot ρ st=p.foot E st:=by
 cases p with
 |stor n p x=>simp only[POp.args,Aw,AB,or_false,forall_eq_or_imp,forall_eq]at h; simp only[POp.foot,h]
 |app a b s x=>simp only[POp.args,Aw,AB,or_false,forall_eq_or_imp,forall_eq]at h; simp only[POp.foot,h]
 |box x=>rfl
 |mkslc a b c d e=>rfl
 |mcall f args=>rfl
 |icall f args=>rfl
 |callv x args=>rfl
 |fail=>rfl
 |mkmap sz=>rfl
 |mapup sz ks m k v=>rfl
 |cpy sz d s=>rfl
 |fld n x=>simp only[POp.args,Aw,AB,or_false,forall_eq]at h; simp only[POp.foot,h]
 |nilc x=>simp only[POp.args,Aw,AB,or_false,forall_eq]at h; simp only[POp.foot,h]
 |idxA a b x i=>simp only[POp.args,Aw,AB,or_false,forall_eq_or_imp,forall_eq]at h; simp only[POp.foot,h]
 |_=>
  simp only[POp.foot];rw[BS h]
variable {b:List Nat}
theorem ft{a:List Nat}(h:Hr a b=true):∀ k∈a,k∉b:=by
 simp only[Hr,Aj,AR]at h;grind
theorem WJ{m:Option Nat}(h:Ks m b=true):∀ n,m=some n→∀ k∈b,k<n:=by
 rintro n rfl k hk;simp only[Ks,Aj,decide_eq_true_eq]at h;exact h k hk
variable {g:Foot}
theorem ld(h:f.ok g=true):(∀ k∈g.wr,k∉f.rd)∧(∀ k∈g.wr,k∉f.wr)∧(∀ k∈f.wr,k∉g.rd)∧(∀ n,f.nu=some n→∀ k∈g.rd,k<n)∧(∀ n,f.nu=some n→∀ k∈g.wr,k<n)∧(∀ n,g.nu=some n→∀ k∈f.rd,k<n)∧(∀ n,g.nu=some n→∀ k∈f.wr,k<n)∧(f.nu=none∨g.nu=none):=by
 simp only[Foot.ok,Af,A8,Option.isNone_iff_eq_none]at h;obtain⟨⟨⟨⟨⟨⟨⟨E,I⟩,J⟩,M⟩,N⟩,O⟩,U⟩,V⟩:=h;exact⟨ft E,ft I,ft J,WJ M,WJ N,WJ O,WJ U,V⟩
theorem OX:∀ (ks:List Nat) (st:St) (i:Nat),(lend ks st)[i]?=(st[i]?).map fun o=>if i∈ks then {o with lent:=true} else o
 |[],st,i=>by simp[lend]
 |k::r,st,i=>by
  rw[lend,OX r,QR];grind
theorem mF(ks:List Nat)(st:St)(k:Nat)(o:Obj)(h:k∉ks):lend ks (st.set k o)=(lend ks st).set k o:=by
 apply Bb;intro i;rw[OX,List.getElem?_set,List.getElem?_set,OX,Oj];grind
theorem mD(ks:List Nat)(st:St)(os:List Obj)(h:∀ k∈ks,k<st.length):lend ks (st++os)=lend ks st++os:=by
 apply Bb;intro i;rw[OX];rcases A6 i st.length with hi | hi
 ·rw[Au hi,Au (by rw[Oj]; exact hi),OX]
 ·rw[AI hi,AI (by rw[Oj]; exact hi),Oj];grind
theorem lH(st:St)(k:Nat)(o:Obj)(os:List Obj)(h:k<st.length):(st++os).set k o=st.set k o++os:=BO _ _ h
variable {e:Eff}
theorem Eff.len(h:e.inn f)(hm:f.nu=none):(e.app st).length=st.length:=by
 cases e with
 |lend ks=>exact Oj ks st
 |set k o=>simp[Eff.app]
 |push os=>simp[Eff.inn,hm]at h
theorem Eff.comm{J:Eff}(h:e.inn f)(I:J.inn g)(O:f.ok g=true)(M:∀ n,f.nu=some n→n=st.length)(N:∀ n,g.nu=some n→n=st.length):e.app (J.app st)=J.app (e.app st):=by
 obtain⟨o1,o2,U,V,Y,o6,o7,o8⟩:=ld O
 have E:∀ {m:Option Nat},m.isSome=true→(∀ n,m=some n→n=st.length)→m=some st.length:=by
  intro m h1 h2
  cases m with
  |none=>cases h1
  |some n=>rw[h2 n rfl]
 cases e with
 |lend ks=>
  cases J with
  |lend qs=>exact Z5 ks qs st
  |set k o=>exact mF ks st k o fun hk=>o1 k I (h k hk)
  |push os=>exact mD ks st os fun k hk=>o6 _ (E I N) k (h _ hk)
 |set k o=>
  cases J with
  |lend qs=>exact(mF qs st k o fun hk=>U k h (I k hk)).symm
  |set k' q=>exact List.set_comm _ _ (fun e=>o2 k' I (e ▸ h))
  |push q=>exact lH st k o q (o7 _ (E I N) _ h)
 |push o=>
  cases J with
  |lend qs=>exact(mD qs st o fun k hk=>V _ (E h M) k (I _ hk)).symm
  |set k q=>exact(lH st k q o (Y _ (E h M) _ I)).symm
  |push q=>
   have a:=E h M;have b:=E I N;grind
theorem Eff.eq_at(h:e.inn f)(hm:∀ n,f.nu=some n→n=st.length)(E:k∉f.rd)(I:k∉f.wr)(J:∀ n,f.nu=some n→k<n):(e.app st)[k]?=st[k]?:=by
 cases e with
 |lend ks=>
  show(PI.lend ks st)[k]?=_
  rw[OX];have:k∉ks:=fun hk=>E (h k hk);simp[this]
 |set q o=>
  have:q≠k:=fun e=>I (e ▸ h);simp[Eff.app,this]
 |push o=>
  have M:f.nu=some st.length:=by
   cases hk:f.nu with
   |none=>simp[Eff.inn,hk]at h
   |some n=>rw[hm n hk]
  have:=J _ M
  show(st++o)[k]?=_
  grind
theorem Eff.like_at(h:e.inn f)(hm:∀ n,f.nu=some n→n=st.length)(E:k∉f.wr)(I:∀ n,f.nu=some n→k<n):Like st (e.app st) k:=by
 cases e with
 |lend ks=>
  show Like st (PI.lend ks st) k
  unfold Like;rw[OX];grind
 |set q o=>
  have:q≠k:=fun e=>E (e ▸ h);exact Like.of_eq (by simp[Eff.app,this])
 |push o=>
  have J:f.nu=some st.length:=by
   cases hk:f.nu with
   |none=>simp[Eff.inn,hk]at h
   |some n=>rw[hm n hk]
  have:=I _ J;refine Like.of_eq ?_
  show(st++o)[k]?=_
  grind
theorem Ysf{ρx O:PA→D}{x y:POp}{st1:St}{dx dy:D}(hx:x.exec T ρx st=some (dx,st1))(I:x.foot ρx st=some f)(hy:y.exec T O st1=some (dy,st2))(J:y.foot O st1=some g)(ac:f.ok g=true) :
  ∃ E,y.exec T O st=some (dy,E)∧y.foot O st=some g∧x.exec T ρx E=some (dx,st2)∧x.foot ρx E=some f:=by
 obtain⟨o1,o2,o3,o4,o5,o6,o7,U⟩:=ld ac;obtain⟨e,M,N,e3⟩:=nW x I hx;have V:=kO I;have ad:=kO J
 have Y:∀ n,g.nu=some n→n=st.length:=by
  intro n hn;rw[ad n hn,N];rcases U with c | c
  ·exact Eff.len M c
  ·grind
 have ae:y.foot O st=some g:=by
  rcases U with c | c
  ·rw[QD (st:=st1) y (by rw[N]; exact(Eff.len M c).symm)]; exact J
  ·exact p8 J c
 obtain⟨q,q1,q2,q3⟩:=nW y J hy
 have a2:=q3 st (fun k hk=>by
   rw[N];exact(Eff.like_at M V (fun hw=>o3 k hw hk) (fun n hn=>o4 n hn k hk)).symm)
  (fun k hk=>by
   rw[N];exact(Eff.eq_at M V (fun hr=>o1 k hk hr) (fun hw=>o2 k hk hw) (fun n hn=>o5 n hn k hk)).symm)
  (fun hm=>by
   rw[N];rcases U with c | c
   ·exact(Eff.len M c).symm
   ·grind)
 refine⟨q.app st,a2,ae,?_,?_⟩
 ·have:=e3 (q.app st) (fun k hk=>Eff.like_at q1 Y (fun hw=>o1 k hw hk) (fun n hn=>o6 n hn k hk))
   (fun k hk=>Eff.eq_at q1 Y (fun hr=>o3 k hk hr) (fun hw=>o2 k hw hk) (fun n hn=>o7 n hn k hk))
   (fun hm=>by
    rcases U with c | c
    ·grind
    ·exact Eff.len q1 c)
  rw[this,q2,N,Eff.comm M q1 ac V Y]
 ·rcases U with c | c
  ·exact p8 I c
  ·rw[QD (st:=st) x (Eff.len q1 c)]; exact I
def PI.regs(x y:PI):Bool:=
 (match x.dst with
  |some d=>!(y.reads.contains d) && y.dst != some d
  |none=>true) &&
 (match y.dst with
  |some d=>!(x.reads.contains d)
  |none=>true)
variable {y:PI}
theorem xw{x:PI}(h:x.regs y=true):(∀ t,x.dst=some t→t∉y.reads)∧(∀ t,x.dst=some t→y.dst≠some t)∧(∀ t,y.dst=some t→t∉x.reads):=by
 simp only[PI.regs,Af]at h;grind
theorem QU{x:PI}(h:x.apart y=true):x.regs y=true:=by
 simp only[PI.apart,Af]at h;simp only[PI.regs,Af];exact h.1
variable {dst:Option Nat}{G:Db}
theorem mM{fr:Frame}{i:PI}(h:∀ t,dst=some t→t∉i.reads):i.op.foot (Dh G (fr.put dst d)) st=i.op.foot (Dh G fr) st:=by
 refine zh i.op fun x I=>lA fun t E hm=>h t E ?_;simp only[PI.reads,AK,Bj];grind
def I8(x y:PI×Option Foot):Prop:=x.1.regs y.1=true∧(x.1.apart y.1=true∨∃ f g:Foot,x.2=some f∧y.2=some g∧f.ok g=true)
variable {s s1:PS}
theorem Y5{x:PI}(h:x.exec G T s=some s1)(hc:x.op.cls≤2):s1.st.length=s.st.length:=by
 rw[PI.exec_eq]at h;simp only[Dv]at h;obtain⟨⟨d,st⟩,E,rfl⟩:=h;unfold PI.step at E
 split at E
 ·cases E
 ·grind
 ·obtain⟨ks,rfl⟩:=Wm x.op hc E;exact Oj ks s.st
theorem cY{x:PI}(h:x.exec G T s=some s1):∃ d,s1.fr=s.fr.put x.dst d:=by
 rw[PI.exec_eq]at h;simp only[Dv]at h;grind
theorem Rl{i:PI}{s':PS}(E:s'.fr=s.fr.put dst d)(h:∀ t,dst=some t→t∉i.reads)(I:i.op.foot (Dh G s.fr) s'.st=i.op.foot (Dh G s.fr) s.st):i.foot G s'=i.foot G s:=by
 unfold PI.foot;rw[E,SJ h,mM h,I]
theorem TZ{x:PI}{s2:PS}(h:I8 (x,x.foot G s) (y,y.foot G s1))(I:x.exec G T s=some s1)(E:y.exec G T s1=some s2) :
  ∃ M,y.exec G T s=some M∧x.exec G T M=some s2∧y.foot G s=y.foot G s1∧x.foot G M=x.foot G s:=by
 obtain⟨ac,h⟩:=h;dsimp only at ac h;obtain⟨a1,a2,a3⟩:=xw ac;rcases h with h | ⟨f,g,hf,hg,ba⟩
 ·obtain⟨M,Y,h2⟩:=fW h I E;obtain⟨_,_,_,a4⟩:=oZ h;obtain⟨V,ex⟩:=cY I;obtain⟨U,ey⟩:=cY Y;refine⟨M,Y,h2,(Rl ex a1 ?_).symm,Rl ey a3 ?_⟩
  ·rcases a4 with c | c | ⟨c,_⟩ | ⟨c,_⟩
   ·exact QD _ (Y5 I (by omega))
   ·exact Wd _ (by omega) _ _
   ·exact QD _ (Y5 I c)
   ·exact QD _ (Y5 I c)
  ·rcases a4 with c | c | ⟨c,_⟩ | ⟨c,_⟩
   ·exact Wd _ (by omega) _ _
   ·exact QD _ (Y5 Y (by omega))
   ·exact Wd _ c _ _
   ·exact Wd _ c _ _
 ·have af:y.wanted s1.fr=y.wanted s.fr:=by
   obtain⟨V,ex⟩:=cY I;rw[ex]; exact SJ a1
  rw[PI.exec_eq]at I E;simp only[Dv]at I E;obtain⟨⟨V,stx⟩,I,rfl⟩:=I;obtain⟨⟨U,ah⟩,E,rfl⟩:=E;simp only at E af hg ⊢;have aa:∀ d,x.wanted (s.fr.put y.dst d)=x.wanted s.fr:=fun d=>SJ a3
  have key:∀ N,y.step G T s=some (U,N)→(∀ d,x.step G T {fr:=s.fr.put y.dst d,st:=N}=some (V,ah))→x.op.foot (Dh G s.fr) N=x.op.foot (Dh G s.fr) s.st→y.op.foot (Dh G s.fr) stx=y.op.foot (Dh G s.fr) s.st→
    ∃ M,y.exec G T s=some M∧x.exec G T M=some {fr:=(s.fr.put x.dst V).put y.dst U,st:=ah}∧y.foot G s=y.foot G {fr:=s.fr.put x.dst V,st:=stx}∧x.foot G M=x.foot G s:=by
   intro N Y h2 h3 h4;refine⟨{fr:=s.fr.put y.dst U,st:=N},by rw[PI.exec_eq,Y]; rfl,?_,(Rl (s':={fr:=s.fr.put x.dst V,st:=stx}) rfl a1 h4).symm,Rl (s':={fr:=s.fr.put y.dst U,st:=N}) rfl a3 h3⟩;rw[PI.exec_eq,h2 U];simp only[Ah];rw[VX s.fr V U a2]
  unfold PI.step at I E;simp only[af]at E
  cases O:x.wanted s.fr with
  |none=>simp[O]at I
  |some bx=>
   cases J:y.wanted s.fr with
   |none=>simp[J]at E
   |some a0=>
    cases bx with
    |false=>
     simp only[O,C3,Dk]at I;obtain⟨rfl,rfl⟩:=I
     cases a0 with
     |false=>
      simp only[J,C3,Dk]at E;obtain⟨rfl,rfl⟩:=E;exact key s.st (by simp[PI.step,J]) (fun d=>by simp[PI.step,aa,O]) rfl rfl
     |true=>
      simp only[J]at E;rw[LU a1]at E;refine⟨{fr:=s.fr.put y.dst U,st:=ah},by rw[PI.exec_eq]; simp[PI.step,J,E],?_,?_,?_⟩
      ·rw[PI.exec_eq];simp only[PI.step,aa,O,Ah];rw[VX s.fr _ U a2]
      ·exact(Rl (s':={fr:=s.fr.put x.dst (.tup []),st:=s.st}) rfl a1 rfl).symm
      ·unfold PI.foot;grind
    |true=>
     simp only[O]at I;simp only[PI.foot,O]at hf
     cases a0 with
     |false=>
      simp only[J,C3,Dk]at E;obtain⟨rfl,rfl⟩:=E;refine⟨{fr:=s.fr.put y.dst (.tup []),st:=s.st},by rw[PI.exec_eq]; simp[PI.step,J],?_,?_,?_⟩
      ·rw[PI.exec_eq];simp only[PI.step,aa,O];rw[LU a3,I];simp only[Ah];rw[VX s.fr V _ a2]
      ·unfold PI.foot;grind
      ·exact Rl (s':={fr:=s.fr.put y.dst (.tup []),st:=s.st}) rfl a3 rfl
     |true=>
      simp only[J]at E;rw[LU a1]at E;simp only[PI.foot,af,J]at hg;rw[mM a1]at hg;obtain⟨a8,Y,h2,h3,h4⟩:=Ysf I hf E hg ba;exact key a8 (by simp only[PI.step,J]; exact Y) (fun d=>by simp only[PI.step,aa,O]; rw[LU a3]; exact h3) (by rw[h4,hf]) (by rw[hg,h2])
def Hv(G:Db)(T:Tbl):List (PI×Option Foot)→PS→PS→Prop
 |[],s,s'=>s'=s
 |a::l,s,s'=>a.1.foot G s=a.2∧∃ s1,a.1.exec G T s=some s1∧Hv G T l s1 s'
theorem rU{G:Db}{T:Tbl}{i:PI×Option Foot}:∀ (l r:List (PI×Option Foot)) (s sf:PS),(∀ x∈l,I8 x i)→Hv G T (l++i::r) s sf→∃ s',i.1.exec G T s=some s'∧i.1.foot G s=i.2∧Hv G T (l++r) s' sf
 |[],r,s,sf,_,h=>by
  obtain⟨E,s1,I,J⟩:=h;grind
 |x::l,r,s,sf,ha,h=>by
  obtain⟨E,s1,I,J⟩:=h;obtain⟨s2,U,M,V⟩:=rU l r s1 sf (fun y Y=>ha y (by simp[Y])) J;have hp:=ha x (by simp);have N:I8 (x.1,x.1.foot G s) (i.1,i.1.foot G s1):=by rw[E,M]; exact hp
  obtain⟨O,k1,k2,k3,k4⟩:=TZ N I U;exact⟨O,k1,by rw[k3,M],by rw[k4,E],s2,k2,V⟩
theorem Xw{G:Db}{T:Tbl}:∀ (l:List PI) (s sf:PS),EK G T l s=some sf→∃ F:List (Option Foot),F.length=l.length∧Hv G T (l.zip F) s sf
 |[],s,sf,h=>by
  simp only[EK,C3]at h;exact⟨[],rfl,h.symm⟩
 |i::l,s,sf,h=>by
  simp only[EK]at h
  split at h
  ·rename_i s1 E;obtain⟨F,I,J⟩:=Xw l s1 sf h;exact⟨i.foot G s::F,by simp[I],rfl,s1,E,J⟩
  ·cases h
theorem lY{fs:List (Option Foot)}{g:Option Foot}:∀ {cs:List Nat},MN fs g cs=true→∀ j∈cs,∃ f g':Foot,fs[j]?=some (some f)∧g=some g'∧f.ok g'=true
 |[],_,j,hj=>by cases hj
 |c::cs,h,j,hj=>by
  simp only[MN,Af]at h;rcases Aw.1 hj with rfl | hj
  ·have E:=h.1
   cases hf:fs[j]? with
   |none=>rw[hf]at E; cases E
   |some o=>
    rw[hf]at E
    cases o with
    |none=>cases E
    |some f=>
     cases g with
     |none=>cases E
     |some g'=>exact⟨f,g',rfl,rfl,E⟩
  ·exact lY h.2 j hj
theorem Xg{G:Db}{T:Tbl}:∀ (l:List (PI×Bool×List Nat)) (fs:List (Option Foot)) (s sf:PS),GV G T l fs s=some sf→∃ F:List (Option Foot),F.length=l.length∧Hv G T ((l.map (·.1)).zip F) s sf∧
   ∀ (i:Nat) (q:PI×Bool×List Nat),l[i]?=some q→∀ j∈q.2.2,∃ f g:Foot,F[i]?=some (some g)∧f.ok g=true∧(fs[j]?=some (some f)∨(fs.length≤j∧F[j - fs.length]?=some (some f)))
 |[],fs,s,sf,h=>by
  simp only[GV,C3]at h;exact⟨[],rfl,h.symm,fun i q E=>by simp at E⟩
 |(i0,b,cs)::l,fs,s,sf,h=>by
  simp only[GV]at h
  split at h
  case isFalse=>cases h
  rename_i I
  split at h
  ·rename_i s1 J;obtain⟨F,M,N,O⟩:=Xg l _ s1 sf h;refine⟨i0.foot G s::F,by simp[M],⟨rfl,s1,J,N⟩,?_⟩;intro i q E j hj
   cases i with
   |zero=>
    simp only[AH,C3]at E;subst E;obtain⟨f,g',U,V,Y⟩:=lY I j hj;grind
   |succ i=>
    grind
  ·cases h
def H6(ms:List Nat)(l:List PI)(i:Nat)(y:PI):List Nat:=(CI i).filter fun j=>!((ms.getD i 0).testBit j) && !((l.getD j default).apart y)
def gG(ms:List Nat)(l:List PI):Option (List (PI×Bool×List Nat)):=
 if l.zipIdx.all fun yi=>(H6 ms l yi.2 yi.1).all fun j=>(l.getD j default).regs yi.1 then
  some (l.zipIdx.map fun yi=>(yi.1,(l.zipIdx.map fun zj=>H6 ms l zj.2 zj.1).any (fun c=>c.contains yi.2),H6 ms l yi.2 yi.1))
 else none
variable {q:List (PI×Bool×List Nat)}{l:List PI}{ms:List Nat}
theorem oY(h:gG ms l=some q):q.length=l.length∧q.map (·.1)=l∧(∀ (i:Nat) y,l[i]?=some y→∃ b,q[i]?=some (y,b,H6 ms l i y)∧∀ j∈H6 ms l i y,(l.getD j default).regs y=true):=by
 unfold gG at h
 split at h
 case isFalse=>cases h
 rename_i E;simp only[C3]at h;subst h;refine⟨by simp,?_,?_⟩
 ·rw[List.map_map];apply Bb;grind
 ·intro i y J;refine⟨(l.zipIdx.map fun I=>H6 ms l I.2 I.1).any (fun c=>c.contains i),?_,?_⟩
  ·grind
  ·rw[Aj]at E;have:=E (y,i) (by rw[A1]; exact J);grind
def Ov(ms:List Nat)(l:List PI)(bad:Option (Nat×Nat))(ord:List Nat)(p i:Nat):List Nat:=
 (CI p).filter fun j=>!((ms.getD i 0).testBit (ord.getD j 0)) && !((l.getD (ord.getD j 0) default).apart (l.getD i default)) && !(bad == some (ord.getD j 0,i))
def MV(ms:List Nat)(l:List PI)(bad:Option (Nat×Nat))(ord:List Nat):Option (List (PI×Bool×List Nat)):=
 if ord.zipIdx.all fun ip=>(Ov ms l bad ord ip.2 ip.1).all fun j=>(l.getD (ord.getD j 0) default).regs (l.getD ip.1 default)then
  some (ord.zipIdx.map fun ip=>(l.getD ip.1 default,(ord.zipIdx.map fun kq=>Ov ms l bad ord kq.2 kq.1).any (fun c=>c.contains ip.2),Ov ms l bad ord ip.2 ip.1))
 else none
theorem yN0{bad:Option (Nat×Nat)}{E:List Nat}(h:MV ms l bad E=some q) :
  q.length=E.length∧q.map (·.1)=E.map (fun k=>l.getD k default)∧(∀ (p i:Nat),E[p]?=some i→∃ b,q[p]?=some (l.getD i default,b,Ov ms l bad E p i)∧∀ j∈Ov ms l bad E p i,(l.getD (E.getD j 0) default).regs (l.getD i default)=true):=by
 unfold MV at h
 split at h
 case isFalse=>cases h
 rename_i I;simp only[C3]at h;subst h;refine⟨by simp,?_,?_⟩
 ·rw[List.map_map];apply Bb;grind
 ·intro p i hi;refine⟨(E.zipIdx.map fun J=>Ov ms l bad E J.2 J.1).any (fun c=>c.contains p),?_,?_⟩
  ·grind
  ·rw[Aj]at I;have:=I (i,p) (by rw[A1]; exact hi);grind
def tt(ms:List Nat)(l:List PI):Option (Nat×Nat):=
 match(l.zipIdx.flatMap fun yi=>((l.take yi.2).zipIdx.filter fun xj=>xj.1.op.push && yi.1.op.push && !((ms.getD yi.2 0).testBit xj.2)).map fun xj=>(xj.2,yi.2))with
 |[p]=>some p
 |_=>none
def POp.push2:POp→Bool
 |.box _ | .mkslc _ _ _ _ _ | .app _ _ _ _ | .mcall _ _=>true
 |_=>false
def lO(ms:List Nat)(l:List PI):List (Nat×Nat):=
 l.zipIdx.flatMap fun yi=>((l.take yi.2).zipIdx.filter fun xj=>xj.1.op.push2 && yi.1.op.push2 && !((ms.getD yi.2 0).testBit xj.2)).map fun xj=>(xj.2,yi.2)
def K8(ms:List Nat)(m x y:Nat):List Nat:=
 (CI m).filter (fun k=>k<x || (k<y && (ms.getD y 0).testBit k) || k == y)++(CI m).filter (fun k=>!(k<x || (k<y && (ms.getD y 0).testBit k) || k == y))
def Oq(m:Nat)(ord:List Nat):Bool:=ord.length == m && (CI m).all (fun k=>ord.contains k)
def Km(keep:List Nat)(ms:List Nat)(l:List PI)(m:Nat):List (Nat×Nat)→PC
 |[]=>.fail
 |(x,y)::r=>match MV ms l (some (x,y)) (CI m),MV ms l (some (y,x)) (K8 ms m x y)with
  |some q1,some q2=>if Oq m (K8 ms m x y) && x != y && decide (x<m) && decide (y<m)then .alt (.any2 keep q1 q2) (Km keep ms l m r)else Km keep ms l m r
  |_,_=>Km keep ms l m r
end Go.Proofs.YtijnglngaogdjaaGreatDoor.PI
namespace Go.Proofs.YtijnglngaogdjaaGreatDoor.PI
open Go Go.RowKit
def Zv(n:Nat):Option Nat→Bool
 |some d=>decide (d<n)
 |none=>true
def LG(P:Program)(il:List Nat)(n:Nat)(ops:Array Oper)(o:Oper):Option PI:=
 if Zv n o.dst then
  match o.guard with
  |none=>some {dst:=o.dst,op:=(Dl P il o.op).getD .fail}
  |some (j,want)=>match(ops[j]?).bind (·.dst)with
   |some s=>some {dst:=o.dst,op:=(Dl P il o.op).getD .fail,guard:=some (s,want)}
   |none=>none
 else none
def Fu(P:Program)(il:List Nat)(n:Nat)(ops:Array Oper):List Oper→Option (List PI)
 |[]=>some []
 |o::r=>match LG P il n ops o,Fu P il n ops r with
  |some a,some b=>some (a::b)
  |_,_=>none
def YT(P:Program)(il:List Nat)(n:Nat)(o1 o2:Oper):Option (PI×PI):=match o1.op,o2.op,o1.dst with
 |.buildSlice t len parts,.convert s t' (.tmp d),some d1=>match P.underlying t with
  |some (.slice e)=>match P.underlying e with
   |some (.int .u8)=>if s=t∧t'=t∧d=d1∧d1<n∧Zv n o2.dst=true∧o1.guard=none∧o2.guard=none then
     match Dl P il (.buildSlice t len parts)with
     |some p=>some ({dst:=some d1,op:=p},{dst:=o2.dst,op:=.mov (.s d1)})
     |none=>none
    else none
   |_=>none
  |_=>none
 |_,_,_=>none
def J2(P:Program)(il:List Nat)(n:Nat)(ops:Array Oper):List Oper→Option (List PI)
 |[]=>some []
 |[o]=>(LG P il n ops o).map fun a=>[a]
 |o1::o2::r=>match YT P il n o1 o2 with
  |some (a,b)=>(J2 P il n ops r).map fun l=>a::b::l
  |none=>match LG P il n ops o1,J2 P il n ops (o2::r)with
   |some a,some l=>some (a::l)
   |_,_=>none
def Rz(il:List Nat)(i:PI):Bool:=match i.op with
 |.icall f _=>il.contains (f+60000000)
 |.callv _ _=>il.contains 60000000
 |_=>false
def hU(P:Program)(n:Nat)(l:List Oper):Option (List Oper×Nat×Nat×Operand):=match l.reverse with
 |o2::o1::rpre=>match o1.op,o2.op,o1.dst with
  |.makeInterface t xo,.panic (.tmp d),some d1=>if d=d1∧d1<n∧o1.guard=none∧o2.guard=none then
    match P.underlying t with
    |some (.interface _)=>none
    |some _=>some (rpre.reverse,d1,t,xo)
    |none=>none
   else none
  |_,_,_=>none
 |_=>none
variable {xo:Operand}{d1 t:Nat}
theorem yRc{P:Program}{n:Nat}{l pre:List Oper}(h:hU P n l=some (pre,d1,t,xo)):∃ o1 o2,l=pre++[o1,o2]∧o1.op=.makeInterface t xo∧o1.dst=some d1∧o2.op=.panic (.tmp d1)∧d1<n∧o1.guard=none∧o2.guard=none∧
  ∃ u,P.underlying t=some u∧∀ m,u≠.interface m:=by
 unfold hU at h
 split at h
 case h_2=>cases h
 rename_i o2 o1 I hl
 split at h
 case h_2=>cases h
 rename_i t' V d Y J M N
 split at h
 case isFalse=>cases h
 rename_i hc;obtain⟨rfl,c1,O,U⟩:=hc
 split at h
 case h_1=>cases h
 case h_3=>cases h
 rename_i u E hu;simp only[C3,Dk]at h;obtain⟨rfl,rfl,rfl,rfl⟩:=h;refine⟨o1,o2,?_,J,N,M,c1,O,U,u,hu,fun m e=>E m e⟩;simp_all
def J4(o:Oper):List Nat:=(o.after.toList.filter (Region.binds .any)).map (·.on)
def EN:List Oper→List Nat→List Nat
 |[],acc=>acc
 |o::r,acc=>EN r (acc++[(J4 o).foldl (fun m e=>m ||| (1 <<< e) ||| acc.getD e 0) 0])
def VO(ms:List Nat)(l:List PI):Bool:=
 l.zipIdx.all fun(y,i)=>(l.take i).zipIdx.all fun(x,j)=>(ms.getD i 0).testBit j || x.apart y
def PY:POp→Bool
 |.icall _ _=>true
 |.callv _ _=>true
 |_=>false
def Mh(ms:List Nat)(l:List PI):Bool:=
 l.zipIdx.all fun(y,i)=>!PY y.op || ((CI l.length).all fun j=>(j == i) || (if j<i then(ms.getD i 0).testBit j else(ms.getD j 0).testBit i))
def YG(il:List Nat)(l:List PI):Nat:=(l.takeWhile fun i=>!Rz il i).length
def gU(ms:List Nat)(l:List PI)(i:Nat):Bool:=decide (i<l.length) && (CI l.length).all fun j=>(j == i) || (if j<i then(ms.getD i 0).testBit j else(ms.getD j 0).testBit i)
def VB(q:List (PI×Bool×List Nat))(x:PI)(i:Nat):PC:=.alt (.any q) (.seq (.seq (.any (q.take i)) (.opsX [x])) .fail)
def M4(l:List Oper):Bool:=l.zipIdx.all fun(o,i)=>(J4 o).all fun e=>decide (e<i)
def IV:Code→Bool
 |.seq a b=>IV a && IV b
 |.cond _ a b=>IV a && IV b
 |.block _ c=>IV c
 |.loop c=>IV c
 |.rangeFunc _ _ _ _=>false
 |_=>true
def Hi(P:Program)(il:List Nat)(n:Nat):List (List Nat)→Code→Option (PC×List (List Nat))
 |h,.skip=>some (.skip,h)
 |h,.region _ ops draw=>if draw then match Fu P il n ops ops.toList with
  |some l=>
    if P.follows .mixedOrders && M4 ops.toList then
     if VO (EN ops.toList []) l then some (if l.any (Rz il) && Mh (EN ops.toList []) l then .opsX l else .ops l,h)else
      match tt (EN ops.toList []) l with
      |some (x,y)=>match h,MV (EN ops.toList []) l (some (x,y)) (CI ops.size),MV (EN ops.toList []) l (some (y,x)) (K8 (EN ops.toList []) ops.size x y)with
       |keep::h',some q1,some q2=>if Oq ops.size (K8 (EN ops.toList []) ops.size x y) && x != y then some (.any2 keep q1 q2,h')else some (.fail,h)
       |_,_,_=>some (.fail,h)
      |none=>match gG (EN ops.toList []) l with
       |some q=>if il.contains 70000000 && decide (2≤(lO (EN ops.toList []) l).length)then
         match h with
         |keep::h'=>some (.alt (.any q) (Km keep (EN ops.toList []) l ops.size (lO (EN ops.toList []) l)),h')
         |[]=>some (.fail,h)
        else if l.any (Rz il) && gU (EN ops.toList []) l (YG il l)then some (VB q (l.getD (YG il l) default) (YG il l),h)
        else some (.any q,h)
       |none=>some (.fail,h)
    else some (.fail,h)
  |none=>none
  else match hU P n ops.toList with
   |some (pre,d1,t,xo)=>match J2 P il n ops pre,DE xo with
    |some l,some x=>some (.pan l d1 t x,h)
    |_,_=>some (.fail,h)
   |none=>(J2 P il n ops ops.toList).map fun l=>(if l.any (Rz il)then .opsX l else .ops l,h)
 |h,.seq a b=>match Hi P il n h a with
  |some (x,h')=>match Hi P il n h' b with
   |some (y,h'')=>some (.seq x y,h'')
   |none=>none
  |none=>none
 |h,.cond c a b=>match DE c with
  |some pa=>match Hi P il n h a with
   |some (x,h')=>match Hi P il n h' b with
    |some (y,h'')=>some (.cond pa x y,h'')
    |none=>none
   |none=>none
  |none=>none
 |h,.block id c=>match Hi P il n h c with
  |some (x,h')=>some (.block id x,h')
  |none=>none
 |h,.loop c=>match h with
  |keep::h'=>match Hi P il n h' c with
   |some (x,h'')=>some (if keep.head?=some 1000000 then .loopA keep.tail x else .loop keep x,h'')
   |none=>none
  |[]=>none
 |h,.rangeFunc g ps a b=>match DE g with
  |some pa=>match Hi P il n h a with
   |some (x,h')=>match Hi P il n h' b with
    |some (y,h'')=>if IV a && IV b && ps.toList.all (fun p=>decide (p<n))then some (.range pa ps.toList x y,h'')else some (.fail,h)
    |none=>none
   |none=>none
  |none=>none
 |h,.exit id=>some (.exit id,h)
 |h,.ret=>some (.ret,h)
 |h,_=>some (.fail,h)
def Nu(P:Program):List ResultVar→Option (List PRes)
 |[]=>some []
 |.tmp t::r=>(Nu P r).map (.tmp t::·)
 |.cell a t::r=>match D3 P t,Ej P t,Nu P r with
  |some n,some ag,some l=>some (.cell a n ag::l)
  |_,_,_=>none
def Ds(P:Program)(il:List Nat)(f:Nat)(hints:List (List Nat)):Option PF:=
 match P.funcs[f]? with
 |some fn=>match fn.body with
  |some c=>match Hi P il fn.ntmps hints c,Nu P fn.results.toList with
   |some (pc,_),some res=>if fn.name == "runtime.NumGoroutine" then none else some {code:=pc,res}
   |_,_=>none
  |none=>none
 |none=>none
variable {w w' w1:World}{g g' g1:Ghost}{a:Act}{s s' sf:PS}{i:PI}{o o1 o2:Oper}{ops:Array Oper}{Q:Exit→Act→World→Prop}{d:D}{listed:Array Bool}{is l:List PI}{ms:List Nat}{Z:List (Nat×Option Foot)}{bad:Option (Nat×Nat)}{st st' st1:St}
section
variable {P:Program} {il:List Nat} {G:Db} {T:Tbl} {base n:Nat} {w0:World} {g0:Ghost} {st0:St} {dl:List Deferred} {r:Option Nat}
def DfOK(w0 w:World):List Deferred→Prop
 |[]=>True
 |d::ds=>(∃ D,d={target:=.collected D,args:=#[]}∧w.heap[D]?=some (.deferred (some []))∧w0.heap[D]?=none∧∀ d'∈ds,d'≠d)∧DfOK w0 w ds
theorem DfOK.mem{w0:World}:∀ {ds:List Deferred} {d:Deferred},DfOK w0 w ds→d∈ds→∃ D,d={target:=.collected D,args:=#[]}∧w.heap[D]?=some (.deferred (some []))
 |_::_,d,⟨⟨D,J,M,_⟩,I⟩,E=>by
  rcases Aw.1 E with rfl | E
  ·grind
  ·exact DfOK.mem I E
theorem DfOK.mono{w0:World}(h:∀ (b:Nat) (o:Go.Obj),w.heap[b]?=some o→special o=true→Kept w' b o):∀ {ds:List Deferred},DfOK w0 w ds→DfOK w0 w' ds
 |[],_=>trivial
 |_::_,⟨⟨D,E,I,J,M⟩,N⟩=>⟨⟨D,E,(h D _ I rfl).def',J,M⟩,DfOK.mono h N⟩
structure Rel (G:Db) (base n:Nat) (w0:World) (g0:Ghost) (st0:St) (dl:List Deferred) (s:PS) (a:Act) (w:World) (g:Ghost):Prop where
 go1:Go1 base w0 g0 st0 w g s.st
 fr:FR w g s.st s.fr a
 gl:GlobOK G w g
 df:∃ ds,a.defers=ds++dl∧DfOK w0 w ds
 sz:n≤a.tmps.size
theorem Rel.sr(h:Rel G base n w0 g0 st0 dl s a w g):SR base w g s.st:=h.go1.sr
theorem Rel.go{E:Act}(h:Rel G base n w0 g0 st0 dl s a w g)(I:Go1 base w g s.st w' g' s'.st)(J:FR w' g' s'.st s'.fr E)(M:E.defers=a.defers)(N:n≤E.tmps.size):Rel G base n w0 g0 st0 dl s' E w' g':=
 ⟨h.go1.trans I,J,h.gl.mono I.im,(let⟨ds,O,U⟩:=h.df; ⟨ds,M.trans O,U.mono I.kp⟩),N⟩
def R(G:Db)(base n:Nat)(w0:World)(g0:Ghost)(st0:St)(dl:List Deferred)(s:PS)(a:Act)(w:World):Prop:=∃ g,Rel G base n w0 g0 st0 dl s a w g
theorem O7(a:Act)(dst:Option Tmp)(v:Value):(a.put dst v).tmps.size=a.tmps.size:=by
 cases dst <;> simp[Act.put]
theorem Ok(a:Act)(dst:Option Tmp)(v:Value):(a.put dst v).defers=a.defers:=by
 cases dst <;> rfl
theorem aH(N:FR w g s.st s.fr a)(E:LG P il n ops o=some i){b:Bool}(I:i.wanted s.fr=some b):Region.wanted o (yielded ops a.tmps)=b:=by
 unfold LG at E
 split at E
 case isFalse=>cases E
 split at E
 ·rename_i M;simp only[C3]at E; subst E;simp only[PI.wanted,C3]at I; subst I;simp[Region.wanted,M]
 ·rename_i j want M
  split at E
  case h_2=>cases E
  rename_i sl Y;simp only[C3]at E; subst E;simp only[PI.wanted]at I;have J:=N sl
  have O:yielded ops a.tmps j=(match a.tmps[sl]? with | some (.bool b)=>some b | _=>none):=by
   unfold yielded;grind
  simp only[Region.wanted,M,O]
  split at I
  ·rename_i bb hb;simp only[C3]at I; subst I;rw[hb]at J;have hv:=KU J
   have aa:sl<a.tmps.size:=by
    rcases A6 sl a.tmps.size with h | h
    ·exact h
    ·simp[Array.getElem?_eq_none h,undef]at hv
   simp_all
  ·rename_i hb;simp only[C3]at I; subst I;rw[hb]at J;generalize hv:a.tmps.getD sl undef=v at J
   cases J with
   |tup _ vs U h2=>
    have V:vs=[]:=AO U.symm;subst V
    have h4:(match a.tmps[sl]? with | some (.bool b)=>some b | _=>none)=(none:Option Bool):=by
     rcases A6 sl a.tmps.size with h | h
     ·simp_all
     ·grind
    grind
  ·cases I
theorem np(I:LG P il n ops o=some i):(Dl P il o.op=some i.op∨i.op=.fail)∧i.dst=o.dst∧∀ t,o.dst=some t→t<n:=by
 have M:∀ p,(Dl P il o.op).getD .fail=p→Dl P il o.op=some p∨p=.fail:=by
  intro p E
  cases h:Dl P il o.op with
  |none=>rw[h]at E; exact .inr E.symm
  |some q=>rw[h]at E; exact .inl (by rw[← E]; rfl)
 unfold LG at I
 split at I
 case isFalse=>cases I
 rename_i J
 have N:∀ t,o.dst=some t→t<n:=by
  intro t h; rw[h]at J; simpa[Zv]using J
 grind
theorem oN(hT:TblOK P G T)(hY:YOK P G T.y base w0 g0 st0){K:Act→World→Prop}(hR:R G base n w0 g0 st0 dl s a w)(M:LG P il n ops o=some i)(E:i.exec G T s=some s')
  (Y:∀ N w',R G base n w0 g0 st0 dl s' N w'→N.defers=a.defers→K N w'):if Region.wanted o (yielded ops a.tmps)then o.wpIn (Wr r) 0 P a w K Q else(∀ f,o.about P w a.eval=some f→(Wr r).fn f)∧K (a.put o.dst undef) w:=by
 obtain⟨g,h⟩:=hR;obtain⟨O,U,h3⟩:=np M;have I:∀ t,i.dst=some t→t<a.tmps.size:=fun t e=>AY (h3 t (U ▸ e)) h.sz;rw[PI.exec_eq]at E;simp only[Dv]at E;obtain⟨⟨d,st'⟩,E,rfl⟩:=E;unfold PI.step at E
 split at E
 ·cases E
 ·rename_i hw;rw[aH h.fr M hw];simp only[C3,Dk]at E;obtain⟨rfl,rfl⟩:=E;simp only[Al,if_false];refine⟨fun _ _=>trivial,Y _ _ ⟨g,h.go (Go1.refl h.sr) ?_ (Ok ..) (by rw[O7]; exact h.sz)⟩ (Ok ..)⟩;rw[← U];exact h.fr.put I (.tup [] [] rfl (fun i d v hh=>by simp at hh))
 ·rename_i hw;rw[aH h.fr M hw];simp only[if_true];have O:=O.resolve_right (fun e=>by rw[e]at E; simp[POp.exec]at E);refine Yfj hT hY h.go1 h.gl h.fr O E ?_;intro v w' g' J V;refine Y _ _ ⟨g',h.go J ?_ (Ok ..) (by rw[O7]; exact h.sz)⟩ (Ok ..);rw[← U];exact(h.fr.mono J.im J.evo).put I V
theorem RZ(I:TblOK P G T)(J:YOK P G T.y base w0 g0 st0){K:Act→World→Prop}(M:R G base n w0 g0 st0 dl s a w)(N:LG P il n ops o=some i)(O:i.exec G T s=some s')
  (U:∀ E w',R G base n w0 g0 st0 dl s' E w'→K E w'):if Region.wanted o (yielded ops a.tmps)then o.wpIn (Wr r) 0 P a w K Q else(∀ f,o.about P w a.eval=some f→(Wr r).fn f)∧K (a.put o.dst undef) w:=
 oN I J M N O fun E w' h _=>U E w' h
theorem oK(O:TblOK P G T)(U:YOK P G T.y base w0 g0 st0){ops:Array Oper}{Q:Exit→Act→World→Prop}:∀ (l:List Oper) (is:List PI) (s s':PS) (a:Act) (w:World),Fu P il n ops l=some is→EK G T is s=some s'→R G base n w0 g0 st0 dl s a w→
  (∀ J w',R G base n w0 g0 st0 dl s' J w'→J.defers=a.defers→Q .normal J w')→wpListIn (Wr r) 0 P ops Q l a w
 |[],is,s,s',a,w,E,I,M,N=>by
  simp[Fu]at E; subst E;simp[EK]at I; subst I;exact N a w M rfl
 |o::l,is,s,s',a,w,E,I,M,N=>by
  simp only[Fu]at E
  split at E
  ·rename_i i V h1 h2;simp only[C3]at E; subst E;simp only[EK]at I
   split at I
   ·rename_i s1 Y;exact oN O U M h1 Y fun J w' aa ab=>oK O U l V s1 s' J w' h2 I aa fun a2 w2 ac ad=>N a2 w2 ac (ad.trans ab)
   ·cases I
  ·cases E
theorem oL(M:TblOK P G T)(N:YOK P G T.y base w0 g0 st0){ops:Array Oper}{rest:List Oper}{Q:Exit→Act→World→Prop}:∀ (l:List Oper) (is:List PI) (s s':PS) (a:Act) (w:World),Fu P il n ops l=some is→EK G T is s=some s'→R G base n w0 g0 st0 dl s a w→
  (∀ J w',R G base n w0 g0 st0 dl s' J w'→wpListIn (Wr r) 0 P ops Q rest J w')→wpListIn (Wr r) 0 P ops Q (l++rest) a w
 |[],is,s,s',a,w,E,I,O,U=>by
  simp[Fu]at E; subst E;simp[EK]at I; subst I;grind
 |o::l,is,s,s',a,w,E,I,O,U=>by
  unfold Fu at E
  split at E
  ·rename_i i V h1 h2;simp only[C3]at E; subst E;simp only[EK]at I
   split at I
   ·rename_i s1 Y;exact RZ M N O h1 Y fun J w' aa=>oL M N l V s1 s' J w' h2 I aa U
   ·cases I
  ·cases E
theorem iS{E I:PI}(h:YT P il n o1 o2=some (E,I)):∃ t e len parts d1 p,o1.op=.buildSlice t len parts∧o2.op=.convert t t (.tmp d1)∧o1.dst=some d1∧P.underlying t=some (.slice e)∧P.underlying e=some (.int .u8)∧d1<n∧(∀ x,o2.dst=some x→x<n)∧o1.guard=none∧o2.guard=none∧
  Dl P il (.buildSlice t len parts)=some p∧E={dst:=some d1,op:=p}∧I={dst:=o2.dst,op:=.mov (.s d1)}:=by
 unfold YT at h
 split at h
 case h_2=>cases h
 rename_i t len parts s t' d d1 N O U
 split at h
 case h_2=>cases h
 rename_i e hu
 split at h
 case h_2=>cases h
 rename_i J
 split at h
 case isFalse=>cases h
 rename_i hc;obtain⟨rfl,rfl,rfl,c1,M,V,Y⟩:=hc
 split at h
 case h_2=>cases h
 rename_i p hp;simp only[C3,Dk]at h;obtain⟨rfl,rfl⟩:=h;exact⟨_,e,len,parts,_,p,N,O,U,hu,J,c1,fun x hx=>by rw[hx]at M; simpa[Zv]using M,V,Y,hp,rfl,rfl⟩
theorem nd{i1 i2:PI}{s1 s2:PS}{K:Act→World→Prop}(hR:R G base n w0 g0 st0 dl s a w)(ht:YT P il n o1 o2=some (i1,i2))(I:i1.exec G T s=some s1)(E:i2.exec G T s1=some s2)
  (hK:∀ J w',R G base n w0 g0 st0 dl s2 J w'→K J w'):Region.wanted o1 (yielded ops a.tmps)=true∧(∀ tm,Region.wanted o2 (yielded ops tm)=true)∧o1.wpIn (Wr r) 0 P a w (fun J w'=>o2.wpIn (Wr r) 0 P J w' K Q) Q:=by
 obtain⟨g,h⟩:=hR;obtain⟨t,e,len,parts,d1,p,h1,h2,h3,hu,a2,a3,V,a4,a5,hp,rfl,rfl⟩:=iS ht;refine⟨by simp[Region.wanted,a4],fun tm=>by simp[Region.wanted,a5],?_⟩;rw[PI.exec_eq]at I E;simp only[PI.step,PI.wanted,Dv]at I E;obtain⟨⟨d,st'⟩,I,rfl⟩:=I;obtain⟨⟨d',st2⟩,E,rfl⟩:=E;simp only[POp.exec,C3,Dk]at E;obtain⟨rfl,rfl⟩:=E;obtain⟨bd,bf,a6,aa,M,N⟩:=o1;obtain⟨ab,bg,ty2,pos2,after2,guard2⟩:=o2;simp only at h1 h2 h3 V;subst h1; subst h2; subst h3;have Y:d1<a.tmps.size:=AY a3 h.sz
 have hw:=yLs (Q:=Q) (next2:=K) (d1:=d1) (d2:=ab) (ty:=a6) (ty2:=ty2) (pos:=aa) (pos2:=pos2) (after:=M) (after2:=after2) (guard:=N) (guard2:=guard2) h.sr h.gl h.fr hp hu a2 Y I (fun v w' g' O U=>by
  refine hK _ _ ⟨g',h.go O ?_ (by rw[Ok,Ok]) (by rw[O7,O7]; exact h.sz)⟩;have a7:=(h.fr.mono O.im O.evo).put (dst:=some d1) (a:=a) (fun t e=>by cases e; exact Y) U
  have a8:Dh G (s.fr.put (some d1) d) (.s d1)=d:=by
   show(if d1=d1 then d else s.fr d1)=d
   grind
  rw[a8];exact a7.put (fun t e=>by rw[O7]; exact AY (V t e) h.sz) U)
 refine Pp (fun c e=>by cases e) ?_;refine Oper.wp_mono (fun J w' h'=>?_) hw;exact Pp (fun c e=>by cases e) h'
theorem Sv(Y:TblOK P G T)(hY:YOK P G T.y base w0 g0 st0){ops:Array Oper}{rest:List Oper}{Q:Exit→Act→World→Prop}:∀ (l:List Oper) (is:List PI) (s s':PS) (a:Act) (w:World),J2 P il n ops l=some is→EK G T is s=some s'→R G base n w0 g0 st0 dl s a w→
  (∀ J w',R G base n w0 g0 st0 dl s' J w'→wpListIn (Wr r) 0 P ops Q rest J w')→wpListIn (Wr r) 0 P ops Q (l++rest) a w
 |[],is,s,s',a,w,I,E,M,N=>by
  simp[J2]at I; subst I;simp[EK]at E; subst E;grind
 |[o],is,s,s',a,w,I,E,M,N=>by
  simp only[J2,Dv]at I;obtain⟨i,h1,rfl⟩:=I;exact oL (il:=il) Y hY [o] [i] s s' a w (by simp[Fu,h1]) E M N
 |o1::o2::l,is,s,s',a,w,I,E,M,N=>by
  unfold J2 at I
  split at I
  ·rename_i i1 i2 hp;simp only[Dv]at I;obtain⟨O,h2,rfl⟩:=I;simp only[EK]at E
   split at E
   case h_2=>cases E
   rename_i s1 U
   split at E
   case h_2=>cases E
   rename_i s2 ad;obtain⟨e1,e2,e3⟩:=nd (r:=r) (ops:=ops) (Q:=Q) (K:=wpListIn (Wr r) 0 P ops Q (l++rest)) M hp U ad (fun J w' V=>Sv Y hY l O s2 s' J w' h2 E V N);simp only[Ae,wpListIn,e1,e2,if_true];exact e3
  ·split at I
   ·rename_i i O h1 h2;simp only[C3]at I; subst I;simp only[EK]at E
    split at E
    ·rename_i s1 U;exact RZ Y hY M h1 U fun J w' V=>Sv Y hY (o2::l) O s1 s' J w' h2 E V N
    ·cases E
   ·cases I
theorem Z7(I:TblOK P G T)(J:YOK P G T.y base w0 g0 st0)(l:List Oper)(is:List PI)(s s':PS)(a:Act)(w:World)(M:J2 P il n ops l=some is)(N:EK G T is s=some s')(O:R G base n w0 g0 st0 dl s a w)
  (U:∀ E w',R G base n w0 g0 st0 dl s' E w'→Q .normal E w'):wpListIn (Wr r) 0 P ops Q l a w:=by
 have:=Sv (r:=r) (rest:=[]) I J l is s s' a w M N O U;grind
theorem al(hT:TblOK P G T){K:Act→World→Prop}(hR:R G base n w0 g0 st0 dl s a w)(O:LG P il n ops o=some i)(J:i.execX G T s=some (t,d,s'))
  (V:∀ w',R G base n w0 g0 st0 dl s' a w'→Q (.panic (KR t d)) a w'):Region.wanted o (yielded ops a.tmps)=true∧o.wpIn (Wr r) 0 P a w K Q:=by
 obtain⟨g,h⟩:=hR;obtain⟨E,h2,h3⟩:=np O;unfold PI.execX at J
 split at J
 case h_2=>cases J
 rename_i hw;refine⟨aH h.fr O hw,?_⟩;simp only[Dv,Dk]at J;obtain⟨⟨t',d',st'⟩,J,rfl,rfl,rfl⟩:=J;unfold POp.execX at J
 split at J
 case h_2=>cases J
 rename_i f ds I
 split at J
 case h_2=>cases J
 rename_i sp Y
 have hinv:∃ c,o.op=.call c∧∃ vs:List Value,ds.length=vs.length∧(∀ (i:Nat) d v,ds[i]?=some d→vs[i]?=some v→RepV w g s.st d v)∧execOp a.eval o=callFunc f vs.toArray:=by
  obtain⟨dst,op,ty,pos,after,guard⟩:=o;rcases E with E | E
  case inr=>rw[E]at I; cases I
  simp only at E;generalize i.op=p at E I;clear O h3 h2 hw V
  cases op with
  |call c=>
   refine⟨c,rfl,?_⟩;simp only[Dl]at E
   split at E
   ·rename_i b hb;unfold WB at E
    repeat' split at E
    all_goals first | (cases E; done) | (cases E; cases I; done) | (simp only[C3]at E; subst E; simp[POp.callee]at I; done) | (simp only[Dv]at E; obtain⟨_,_,E⟩:=E; subst E; simp[POp.callee]at I; done) | skip
   ·rename_i f' M
    split at E
    case h_2=>cases E
    rename_i fn l a1 hl
    split at E
    case isFalse=>
     split at E
     ·cases E
     ·simp only[C3]at E; subst E; simp[POp.callee]at I
    simp only[C3]at E
    split at E
    ·subst E; simp[POp.callee]at I
    split at E
    ·subst E; simp[POp.callee]at I
    ·split at E
     ·subst E;simp only[POp.callee,C3,Dk]at I;obtain⟨rfl,rfl⟩:=I;obtain⟨g1,g2⟩:=Of (fun x pa U=>F2 (G:=G) h.gl h.fr U) hl;refine⟨c.args.toList.map a.eval,by simpa using g1,g2,?_⟩;simp only[execOp,resolve,M]
      have:(c.args.toList.map a.eval).toArray=c.args.map a.eval:=by
       grind
      rw[this]
      show(do let d ← (pure {target:=Target.fn (Fn.func f') #[],args:=#[]++c.args.map a.eval}:Sem Deferred); invoke d.target d.args)=_
      simp only[BJ];rfl
     ·subst E; simp[POp.callee]at I
   ·rename_i x a2 M
    split at E
    case h_2=>cases E
    rename_i pa l ab hl;simp only[C3]at E; subst E;exact ax (fun x pa U=>F2 (G:=G) h.gl h.fr U) M ab hl I
   ·cases E
  |_=>
   exfalso; revert E; simp only[Dl,ZL,YR,Zl]
   repeat' split
   all_goals first
    |(intro E; cases E; done)
    |(intro E; cases E; cases I; done)
    |(intro E; simp only[C3]at E; subst E; simp[POp.callee]at I; done)
    |(intro E; simp only[Dv]at E; obtain⟨_,_,E⟩:=E; subst E; simp[POp.callee]at I; done)
    |(intro _; contradiction)
 obtain⟨c,e1,vs,g1,g2,g3⟩:=hinv;refine Pp (fun c' e=>by rw[e1]at e; cases e) ?_;refine zv (hT.x f sp Y) h.sr h.gl (ds:=ds) (vs:=vs) J g1 g2 g3 ?_;intro w' g' N;exact V w' ⟨g',h.go N (h.fr.mono N.im N.evo) rfl h.sz⟩
theorem ZQ(V:TblOK P G T)(hY:YOK P G T.y base w0 g0 st0){ops:Array Oper}{Q:Exit→Act→World→Prop}{t:Nat}{d:D}:∀ (l:List Oper) (is:List PI) (s s':PS) (a:Act) (w:World),J2 P il n ops l=some is→Je G T is s=some (t,d,s')→R G base n w0 g0 st0 dl s a w→
  (∀ N w',R G base n w0 g0 st0 dl s' N w'→Q (.panic (KR t d)) N w')→wpListIn (Wr r) 0 P ops Q l a w
 |[],is,s,s',a,w,I,E,O,U=>by
  simp[J2]at I; subst I;simp[Je]at E
 |[o],is,s,s',a,w,I,E,O,U=>by
  simp only[J2,Dv]at I;obtain⟨i,h1,rfl⟩:=I;simp only[Je]at E
  split at E
  ·cases E
  ·obtain⟨k1,k2⟩:=al (r:=r) (ops:=ops) (K:=wpListIn (Wr r) 0 P ops Q []) V O h1 E (fun w' J=>U a w' J);simp only[wpListIn,k1,if_true];exact k2
 |o1::o2::l,is,s,s',a,w,I,E,O,U=>by
  unfold J2 at I
  split at I
  ·rename_i i1 i2 hp;simp only[Dv]at I;obtain⟨Y,h2,rfl⟩:=I;simp only[Je]at E;obtain⟨t',e,len,parts,d1,p,q1,q2,q3,hu,a5,a6,a7,a8,a9,M,rfl,rfl⟩:=iS hp
   split at E
   case h_2=>
    exfalso;simp only[PI.execX,PI.wanted,Dv]at E;obtain⟨r,E,_⟩:=E;unfold POp.execX at E
    split at E
    case h_2=>cases E
    rename_i f ds ac;simp only[Dl]at M
    repeat' split at M
    all_goals first | (cases M; done) | (cases M; cases ac; done) | (simp only[C3]at M; subst M; simp[POp.callee]at ac; done)
   rename_i s1 aa
   split at E
   case h_2=>
    exfalso;simp[PI.execX,PI.wanted,POp.execX,POp.callee]at E
   rename_i s2 a1;obtain⟨e1,e2,e3⟩:=nd (r:=r) (ops:=ops) (Q:=Q) (K:=wpListIn (Wr r) 0 P ops Q l) O hp aa a1 (fun N w' J=>ZQ V hY l Y s2 s' N w' h2 E J U);simp only[wpListIn,e1,e2,if_true];exact e3
  ·split at I
   ·rename_i i Y h1 h2;simp only[C3]at I; subst I;simp only[Je]at E
    split at E
    ·rename_i s1 aa;exact RZ V hY O h1 aa fun N w' J=>ZQ V hY (o2::l) Y s1 s' N w' h2 E J U
    ·obtain⟨k1,k2⟩:=al (r:=r) (ops:=ops) (K:=wpListIn (Wr r) 0 P ops Q (o2::l)) V O h1 E (fun w' J=>U a w' J);simp only[wpListIn,k1,if_true];exact k2
   ·cases I
theorem Ymv{x:PA}(hR:R G base n w0 g0 st0 dl s a w)(h1:o1.op=.makeInterface t xo)(h3:o1.dst=some d1)(h2:o2.op=.panic (.tmp d1))(ae:d1<n)
  (U:o1.guard=none) (V:o2.guard=none) {u:TypeDesc} (hu:P.underlying t=some u) (a6:∀ m,u≠.interface m) (hx:DE xo=some x) (hi:KL (Dh G s.fr x)=true)
  (hQ:∀ a',R G base n w0 g0 st0 dl ⟨s.fr.set d1 .junk,s.st⟩ a' w→Q (.panic (KR t (Dh G s.fr x))) a' w):wpListIn (Wr r) 0 P ops Q [o1,o2] a w:=by
 obtain⟨g,h⟩:=hR;have hv:=yT (F2 (G:=G) h.gl h.fr hx) hi;have Y:d1<a.tmps.size:=AY ae h.sz;obtain⟨a5,a7,aa,I,E,ah⟩:=o1;obtain⟨J,a8,ty2,pos2,after2,guard2⟩:=o2;simp only at h1 h2 h3 U V;subst h1; subst h2; subst h3; subst U; subst V;have w1:∀ M,Region.wanted ({dst:=some d1,op:=.makeInterface t xo,type:=aa,pos:=I,after:=E,guard:=none}:Oper) (yielded ops M)=true:=fun M=>by simp[Region.wanted]
 have w2:∀ M,Region.wanted ({dst:=J,op:=.panic (.tmp d1),type:=ty2,pos:=pos2,after:=after2,guard:=none}:Oper) (yielded ops M)=true:=fun M=>by simp[Region.wanted]
 simp only[wpListIn,w1,w2,if_true];refine Pp (fun c e=>by cases e) ?_;unfold Oper.wp
 have N:(execOp a.eval {dst:=some d1,op:=.makeInterface t xo,type:=aa,pos:=I,after:=E,guard:=none}).run P w=.ok (.value (.iface t (Gf (Dh G s.fr x)))) w:=by
  simp only[execOp,hv,Sem.run_bind,Instr.makeInterface,run_underlying hu,Result.andThen_ok];rfl
 rw[N,Oper.upon_value];refine Pp (fun c e=>by cases e) ?_;unfold Oper.wp
 have a0:(a.put (some d1) (.iface t (Gf (Dh G s.fr x)))).eval (.tmp d1)=.iface t (Gf (Dh G s.fr x)):=by
  simp[Act.eval,Act.put,Y]
 have O:(execOp (a.put (some d1) (.iface t (Gf (Dh G s.fr x)))).eval {dst:=J,op:=.panic (.tmp d1),type:=ty2,pos:=pos2,after:=after2,guard:=none}).run P w=.halt (.panic (.iface t (Gf (Dh G s.fr x)))) w:=by
  simp only[execOp,a0,Sem.run_bind,Instr.panic];rfl
 rw[O,Oper.upon_panic];refine hQ _ ⟨g,h.go (Go1.refl h.sr) ?_ (Ok ..) (by rw[O7]; exact h.sz)⟩;exact h.fr.put (dst:=some d1) (fun t e=>by cases e; exact Y) (.junk _)
theorem R0{ops:Array Oper}:∀ {l:List Oper} {is:List PI},Fu P il n ops l=some is→is.length=l.length∧∀ (k:Nat) o,l[k]?=some o→∃ i,is[k]?=some i∧LG P il n ops o=some i
 |[],is,h=>by simp[Fu]at h; subst h; exact⟨rfl,fun k o h=>by simp at h⟩
 |o::l,is,h=>by
  unfold Fu at h
  split at h
  ·rename_i i I J E;simp only[C3]at h; subst h;obtain⟨M,N⟩:=R0 E;grind
  ·cases h
theorem iY:∀ (l:List Oper) (acc:List Nat),∃ r,EN l acc=acc++r
 |[],acc=>⟨[],by simp[EN]⟩
 |o::l,acc=>by
  obtain⟨r,h⟩:=iY l (acc++[(J4 o).foldl (fun m e=>m ||| (1 <<< e) ||| acc.getD e 0) 0]);exact⟨_,by rw[EN,h,Ag]⟩
theorem p7(I:List Nat)(j:Nat):∀ (l:List Nat) (m:Nat),(l.foldl (fun m e=>m ||| (1 <<< e) ||| I.getD e 0) m).testBit j=true→m.testBit j=true∨∃ e∈l,j=e∨(I.getD e 0).testBit j=true
 |[],m,h=>.inl h
 |e::l,m,h=>by
  rcases p7 I j l _ h with E | ⟨J,E,M⟩
  ·simp only[Nat.testBit_or,A8]at E;rcases E with(E | E) | E
   ·grind
   ·refine .inr ⟨e,by simp,.inl ?_⟩;rw[Nat.one_shiftLeft,Nat.testBit_two_pow]at E;grind
   ·grind
  ·grind
theorem pL:∀ (l:List Oper) (acc:List Nat) (i j:Nat) (o:Oper),l[i]?=some o→((EN l acc).getD (acc.length+i) 0).testBit j=true→
  ∃ e∈J4 o,j=e∨(e<acc.length+i∧((EN l acc).getD e 0).testBit j=true)
 |[],acc,i,j,o,h,_=>by simp at h
 |o'::l,acc,i,j,o,h,hb=>by
  cases i with
  |zero=>
   simp only[AH,C3]at h;subst h;obtain⟨r,I⟩:=iY l (acc++[(J4 o').foldl (fun m e=>m ||| (1 <<< e) ||| acc.getD e 0) 0]);rw[EN,I]at hb ⊢;rw[BV,Ag]at hb;simp only[Ao,List.singleton_append,AI (AE _),BK,AH,Ce]at hb;rcases p7 acc j _ 0 (by simpa[Ao]using hb)with E | ⟨e,E,J⟩
   ·simp at E
   ·grind
  |succ i=>
   simp only[Bo]at h;have:=pL l (acc++[(J4 o').foldl (fun m e=>m ||| (1 <<< e) ||| acc.getD e 0) 0]) i j o h;simp only[Ab,List.length_singleton]at this;rw[show acc.length+1+i=acc.length+(i+1) by omega]at this;exact this hb
def Mq(ops:List Oper)(listed:Array Bool):Prop:=∀ (i:Nat) o,ops[i]?=some o→listed.getD i false=true→∀ e∈J4 o,listed.getD e false=true
theorem aS{ops:List Oper}(hc:Mq ops listed):∀ (i:Nat) o,ops[i]?=some o→(∀ e∈J4 o,listed.getD e false=true)→∀ j,((EN ops []).getD i 0).testBit j=true→listed.getD j false=true:=by
 intro i
 induction i using Nat.strongRecOn with
 |_ i N=>
  intro o O U j hj;obtain⟨e,he,I⟩:=pL ops [] i j o O (by simpa using hj);rcases I with rfl | ⟨I,V⟩
  ·grind
  ·simp only[Ap,Am]at I;have J:=U e he
   cases E:ops[e]? with
   |none=>
    have:ops.length≤e:=BP.1 E;grind
   |some M=>exact N e I M E (hc e M E J) j V
def Ha(m:Nat)(listed:Array Bool):List Nat:=(CI m).filter fun i=>!listed.getD i true
theorem bB(h:VO ms l=true){i j:Nat}{x y:PI}(I:l[j]?=some x)(J:l[i]?=some y)(E:j<i)(hm:(ms.getD i 0).testBit j=false):x.apart y=true:=by
 simp only[VO,Aj]at h;have M:=h (y,i) (by rw[A1]; exact J);have N:=M (x,j) (by rw[A1,BI,if_pos E]; exact I);grind
theorem iU{p:Nat→Bool}:∀ (m i:Nat),i<m→p i=true→∃ l r,(CI m).filter p=l++i::r∧(∀ j∈l,j<i∧p j=true)∧(CI m).filter (fun j=>p j && j != i)=l++r:=by
 intro m i hi E;refine⟨(CI i).filter p,((List.range' (i+1) (m - (i+1))).filter p),?_,?_,?_⟩
 ·have:CI m=CI i++(i::List.range' (i+1) (m - (i+1))):=by
   rw[Bi,Bi,← BR,show m - (i+1)+1=m - i by omega];have:=List.range'_append_1 (s:=0) (m:=i) (n:=m - i);grind
  grind
 ·grind
 ·have:CI m=CI i++(i::List.range' (i+1) (m - (i+1))):=by
   rw[Bi,Bi,← BR,show m - (i+1)+1=m - i by omega];have:=List.range'_append_1 (s:=0) (m:=i) (n:=m - i);grind
  rw[this,List.filter_append,List.filter_cons];simp only[bne_self_eq_false,Bool.and_false,Al,if_false]
  congr 1
  ·apply Cr;intro j hj;simp only[AW]at hj;have:j≠i:=by omega
   simp[this]
  ·apply Cr;intro j hj;simp only[List.mem_range'_1]at hj;have:j≠i:=by omega
   simp[this]
theorem ml(hT:TblOK P G T)(hY:YOK P G T.y base w0 g0 st0)(ht:Fu P il n ops ops.toList=some is)(aa:M4 ops.toList=true)(V:Array Bool→PS→Prop)
  (a0:∀ (listed:Array Bool) (s:PS) (i:Nat) (o:Oper),listed.size=ops.size→Mq ops.toList listed→V listed s→ops.toList[i]?=some o→i<ops.size→listed.getD i true=false→(∀ e∈J4 o,listed.getD e false=true)→
   (∃ s1,(is.getD i default).exec G T s=some s1∧V (listed.setIfInBounds i true) s1)∨∃ t d s1,(is.getD i default).execX G T s=some (t,d,s1)∧∀ U w',R G base n w0 g0 st0 dl s1 U w'→Q (.panic (KR t d)) U w')
  (a5:∀ (listed:Array Bool) (s:PS),Ha ops.size listed=[]→V listed s→∀ U w',R G base n w0 g0 st0 dl s U w'→Q .normal U w') :
  ∀ (fuel:Nat) (listed:Array Bool) (s:PS) (a:Act) (w:World),listed.size=ops.size→(Ha ops.size listed).length≤fuel→Mq ops.toList listed→V listed s→R G base n w0 g0 st0 dl s a w→
  wpAnyIn (Wr r) 0 P .any ops Q fuel listed a w:=by
 obtain⟨hlen,a6⟩:=R0 ht;have bh:is.length=ops.size:=by simpa using hlen
 have M:∀ (listed:Array Bool) (i:Nat),i∈Region.ready .any ops listed↔i∈Ha ops.size listed∧∀ o,ops.toList[i]?=some o→∀ e∈J4 o,listed.getD e false=true:=by
  intro listed i;simp only[Region.ready,Ha,A5,AW,Af];constructor
  ·rintro⟨E,h2,N⟩;refine⟨⟨E,h2⟩,fun o I e he=>?_⟩;rw[Ca]at I;simp only[I,Ah,Ce]at N;simp only[J4,AV,A5,Array.mem_toList_iff]at he;obtain⟨ed,⟨h4,h5⟩,rfl⟩:=he;have:=Array.all_eq_true'.1 N ed h4;grind
  ·rintro⟨⟨E,h2⟩,N⟩;refine⟨E,h2,?_⟩;have I:ops.toList[i]?=some ops[i]:=by rw[Ca,BB E]
   rw[BB E];simp only[Ah,Ce];refine Array.all_eq_true'.2 fun ed bb=>?_
   by_cases hb:Region.binds .any ed=true
   ·have:=N _ I ed.on (by simp only[J4,AV,A5,Array.mem_toList_iff]; exact⟨ed,⟨bb,hb⟩,rfl⟩);simp[this]
   ·simp[hb]
 have b1:∀ (listed:Array Bool),Ha ops.size listed≠[]→Region.ready .any ops listed≠[]:=by
  intro listed bc hr;obtain⟨i,r,a2⟩:=List.exists_cons_of_ne_nil bc;have hi:i∈Ha ops.size listed:=by rw[a2]; simp
  have J:i<ops.size∧listed.getD i true=false:=by
   simp only[Ha,A5,AW,AR]at hi; exact hi
  have b7:∀ e,e<i→listed.getD e true=true:=by
   intro e he
   by_cases h:listed.getD e true=true
   ·exact h
   ·exfalso;obtain⟨l,r',E,h2,_⟩:=iU (p:=fun i=>!listed.getD i true) ops.size e (by omega) (by simpa using h);have N:l++e::r'=i::r:=by rw[← E]; exact a2
    cases l with
    |nil=>simp at N; omega
    |cons x l=>
     grind
  have:i∈Region.ready .any ops listed:=by
   rw[M];refine⟨hi,fun o I e he=>?_⟩
   have cb:e<i:=by
    simp only[M4,Aj]at aa;have E:=aa (o,i) (by rw[A1]; exact I);grind
   grind
  grind
 intro fuel
 induction fuel with
 |zero=>
  intro listed s a w ad hl hc hx hR;have h0:Ha ops.size listed=[]:=AO (by omega);refine⟨?_,a5 listed s h0 hx a w hR⟩;apply List.eq_nil_iff_forall_not_mem.2;grind
 |succ fuel ih=>
  intro listed s a w ad hl hc hx hR;refine⟨fun hr=>?_,fun i hi=>?_⟩
  ·grind
  ·obtain⟨a3,bd⟩:=(M listed i).1 hi
   have J:i<ops.size∧listed.getD i true=false:=by
    simp only[Ha,A5,AW,AR]at a3; exact a3
   have I:ops.toList[i]?=some ops[i]:=by rw[Ca,BB J.1]
   obtain⟨pi,be,a4⟩:=a6 i _ I;have ae:is.getD i default=pi:=by simp[Ao,be]
   rcases a0 listed s i _ ad hc hx I J.1 J.2 (bd _ I)with⟨s1,O,af⟩ | ⟨t,d,s1,O,af⟩
   rotate_left
   ·rw[ae]at O;obtain⟨k1,k2⟩:=al (r:=r) (Q:=Q) (ops:=ops) (K:=wpAnyIn (Wr r) 0 P .any ops Q fuel (listed.setIfInBounds i true)) hT hR a4 O (fun w' ah=>af a w' ah);unfold wpOpIn;grind
   rw[ae]at O
   have a9:∀ q,(listed.setIfInBounds i true).getD q false=true↔q=i∨listed.getD q false=true:=by
    intro q
    by_cases bf:q=i
    ·simp_all
    ·rcases A6 q listed.size with h5 | h5
     ·simp[Array.getD,h5,bf,show ¬ i=q by omega]
     ·grind
   have bg:=RZ (r:=r) (Q:=Q) (ops:=ops) (K:=wpAnyIn (Wr r) 0 P .any ops Q fuel (listed.setIfInBounds i true)) hT hY hR a4 O (fun U w' ah=>by
    refine ih (listed.setIfInBounds i true) s1 U w' (by simp[ad]) ?_ ?_ af ah
    ·obtain⟨l,r,E,h2,N⟩:=iU (p:=fun i=>!listed.getD i true) ops.size i J.1 (by simpa using J.2)
     have b2:Ha ops.size (listed.setIfInBounds i true)=l++r:=by
      rw[← N];simp only[Ha];grind
     have cc:Ha ops.size listed=l++i::r:=E;grind
    ·intro k o' hk Y e he;rw[a9]at Y ⊢;refine .inr ?_;rcases Y with rfl | Y
     ·grind
     ·exact hc k o' hk Y e he)
   unfold wpOpIn;grind
theorem tq(O:TblOK P G T)(U:YOK P G T.y base w0 g0 st0)(V:Fu P il n ops ops.toList=some is)(J:M4 ops.toList=true)(E:Array Bool→PS→Prop)
  (I:∀ (listed:Array Bool) (s:PS) (i:Nat) (o:Oper),listed.size=ops.size→Mq ops.toList listed→E listed s→ops.toList[i]?=some o→i<ops.size→listed.getD i true=false→(∀ e∈J4 o,listed.getD e false=true)→
   ∃ s1,(is.getD i default).exec G T s=some s1∧E (listed.setIfInBounds i true) s1)
  (M:∀ (listed:Array Bool) (s:PS),Ha ops.size listed=[]→E listed s→∀ N w',R G base n w0 g0 st0 dl s N w'→Q .normal N w') :
  ∀ (fuel:Nat) (listed:Array Bool) (s:PS) (a:Act) (w:World),listed.size=ops.size→(Ha ops.size listed).length≤fuel→Mq ops.toList listed→E listed s→R G base n w0 g0 st0 dl s a w→
  wpAnyIn (Wr r) 0 P .any ops Q fuel listed a w:=
 ml O U V J E (fun listed s i o Y h2 h3 h4 h5 h6 h7=>.inl (I listed s i o Y h2 h3 h4 h5 h6 h7)) M
theorem lj:∀ (l m:List Nat),l.Nodup→(∀ x∈l,x∈m)→m.length≤l.length→l.Perm m
 |[],m,_,_,h=>by
  grind
 |a::l,m,hn,E,h=>by
  have ha:a∈m:=E a (by simp);have M:=List.perm_cons_erase ha;have I:=List.nodup_cons.1 hn
  have O:=lj l (m.erase a) I.2 (fun x N=>by
   have J:x∈a::m.erase a:=M.mem_iff.1 (E x (by simp[N]));rcases Aw.1 J with e | e
   ·grind
   ·exact e) (by
   grind)
  grind
def GY(is:List PI)(Z:List (Nat×Option Foot)):List (PI×Option Foot):=Z.map fun z=>(is.getD z.1 default,z.2)
def FK(listed:Array Bool)(Z:List (Nat×Option Foot)):List (Nat×Option Foot):=Z.filter fun z=>!listed.getD z.1 true
def ON(ms:List Nat)(is:List PI)(m:Nat)(bad:Option (Nat×Nat))(Z:List (Nat×Option Foot)):Prop:=
 (Z.map (·.1)).Nodup∧(∀ k,k<m→∃ f,(k,f)∈Z)∧
  Z.Pairwise fun x y=>(ms.getD y.1 0).testBit x.1=false→bad≠some (x.1,y.1)→I8 (is.getD x.1 default,x.2) (is.getD y.1 default,y.2)
theorem nA{m:Nat}(hZ:ON (EN ops.toList []) is m bad Z){i:Nat}
  (a9:listed.size=ops.size) (hc:Mq ops.toList listed) (hr:Hv G T (GY is (FK listed Z)) s sf) (ho:ops.toList[i]?=some o) (hi:i<ops.size) (ae:i<m) (ba:listed.getD i true=false) (hd:∀ e∈J4 o,listed.getD e false=true)
  (hb:∀ j,listed.getD j true=false→bad≠some (j,i)):∃ s1,(is.getD i default).exec G T s=some s1∧Hv G T (GY is (FK (listed.setIfInBounds i true) Z)) s1 sf:=by
 obtain⟨z1,z2,z3⟩:=hZ;obtain⟨f,hf⟩:=z2 i ae
 have aa:(i,f)∈FK listed Z:=by
  simp only[FK,A5];grind
 obtain⟨l,r,E⟩:=List.append_of_mem aa;have U:(FK listed Z).Pairwise fun x y=>((EN ops.toList []).getD y.1 0).testBit x.1=false→bad≠some (x.1,y.1)→I8 (is.getD x.1 default,x.2) (is.getD y.1 default,y.2):=z3.filter _;rw[E]at U
 have J:∀ x∈l,listed.getD x.1 true=false:=by
  intro x M;have:x∈FK listed Z:=by rw[E]; simp[M]
  simp only[FK,A5,AR]at this;exact this.2
 have N:∀ x∈GY is l,I8 x (is.getD i default,f):=by
  intro x M;simp only[GY,AV]at M;obtain⟨z,I,rfl⟩:=M;have h1:=(List.pairwise_append.1 U).2.2 z I (i,f) (by simp);have h2:=J z I;refine h1 ?_ (hb _ h2)
  cases af:((EN ops.toList []).getD i 0).testBit z.1 with
  |false=>rfl
  |true=>
   have h4:=aS hc i _ ho hd z.1 af;grind
 have ah:GY is (FK listed Z)=GY is l++(is.getD i default,f)::GY is r:=by rw[E]; simp[GY]
 rw[ah]at hr;obtain⟨s1,h1,_,h2⟩:=rU _ _ s sf N hr;refine⟨s1,h1,?_⟩;have a0:((FK listed Z).map (·.1)).Nodup:=List.Nodup.sublist (List.Sublist.map _ (List.filter_sublist ..)) z1;rw[E,Bv,Ax]at a0
 have V:∀ z∈l++r,z.1≠i:=by
  grind
 have O:FK (listed.setIfInBounds i true) Z=l++r:=by
  have e1:FK (listed.setIfInBounds i true) Z=(FK listed Z).filter fun z=>z.1 != i:=by
   simp only[FK,List.filter_filter];apply Cr;intro z _
   by_cases Y:z.1=i
   ·simp_all
   ·rcases A6 z.1 listed.size with h5 | h5
    ·simp[Array.getD,h5,Y,show ¬ i=z.1 from fun e=>Y e.symm]
    ·grind
  rw[e1,E,List.filter_append,List.filter_cons];simp only[bne_self_eq_false,Al,if_false];rw[BT.2 (fun z I=>by simpa using V z (List.mem_append_left _ I)),BT.2 (fun z I=>by simpa using V z (List.mem_append_right _ I))]
 rw[O];simpa[GY]using h2
theorem O3(J:ON (EN ops.toList []) is ops.size bad Z){i:Nat}
  (E:listed.size=ops.size) (hc:Mq ops.toList listed) (M:Hv G T (GY is (FK listed Z)) s sf) (N:ops.toList[i]?=some o) (hi:i<ops.size) (I:listed.getD i true=false) (O:∀ e∈J4 o,listed.getD e false=true)
  (hb:∀ j,listed.getD j true=false→bad≠some (j,i)):∃ s1,(is.getD i default).exec G T s=some s1∧Hv G T (GY is (FK (listed.setIfInBounds i true) Z)) s1 sf:=
 nA J E hc M N hi hi I O hb
theorem eQ(E:∀ z∈Z,z.1<ops.size)(I:Ha ops.size listed=[]):GY is (FK listed Z)=[]:=by
 have:FK listed Z=[]:=by
  simp only[FK,List.filter_eq_nil_iff,AR];intro z J hl
  have M:z.1∈Ha ops.size listed:=by
   simp only[Ha,A5,AW];grind
  grind
 rw[this]; rfl
theorem Yi5(O:TblOK P G T)(U:YOK P G T.y base w0 g0 st0)(V:Fu P il n ops ops.toList=some is)(I:M4 ops.toList=true)(Y:ON (EN ops.toList []) is ops.size none Z)(J:∀ z∈Z,z.1<ops.size)
   (hQ:∀ M w',R G base n w0 g0 st0 dl sf M w'→Q .normal M w') (fuel:Nat) (listed:Array Bool) (s:PS) (a:Act) (w:World) (N:listed.size=ops.size) (hl:(Ha ops.size listed).length≤fuel) (hc:Mq ops.toList listed) (hr:Hv G T (GY is (FK listed Z)) s sf) (hR:R G base n w0 g0 st0 dl s a w) :
  wpAnyIn (Wr r) 0 P .any ops Q fuel listed a w:=by
 refine tq O U V I (fun listed s=>Hv G T (GY is (FK listed Z)) s sf) ?_ ?_ fuel listed s a w N hl hc hr hR
 ·intro listed s i o E h2 h3 h4 h5 h6 h7;exact O3 Y E h2 h3 h4 h5 h6 h7 (fun j _ h=>by cases h)
 ·intro listed s h0 E;rw[eQ J h0]at E;simp only[Hv]at E;grind
theorem p4:∀ (l:List PI) (s:PS) {t:Nat} {d:D} {s':PS},Je G T l s=some (t,d,s')→∃ i s1,i<l.length∧EK G T (l.take i) s=some s1∧(l.getD i default).execX G T s1=some (t,d,s')
 |[],s,t,d,s',h=>by simp[Je]at h
 |i::l,s,t,d,s',h=>by
  simp only[Je]at h
  split at h
  ·rename_i s1 E;obtain⟨k,s2,M,I,J⟩:=p4 l s1 h;refine⟨k+1,s2,by simp; omega,?_,by simpa using J⟩;simp only[List.take_succ_cons,EK,E];exact I
  ·exact⟨0,s,by simp,rfl,by simpa using h⟩
theorem Yag{r:Nat×D×PS}(h:i.execX G T s=some r):PY i.op=true:=by
 unfold PI.execX at h
 split at h
 case h_2=>cases h
 simp only[Dv]at h;obtain⟨x,h,_⟩:=h;unfold POp.execX at h
 split at h
 case h_2=>cases h
 rename_i f ds hc;unfold POp.callee at hc
 split at hc
 ·rename_i e; rw[e]; rfl
 ·rename_i e; rw[e]; rfl
 ·cases hc
theorem wX(h:Mh ms l=true){i:Nat}(hi:i<l.length)(hm:PY (l.getD i default).op=true):(∀ j,j<i→(ms.getD i 0).testBit j=true)∧∀ j,i<j→j<l.length→(ms.getD j 0).testBit i=true:=by
 simp only[Mh,Aj]at h;have E:l[i]?=some (l.getD i default):=by simp[Ao,hi]
 have I:=h (l.getD i default,i) (by rw[A1]; exact E);grind
theorem nB(hT:TblOK P G T)(hY:YOK P G T.y base w0 g0 st0)(ht:Fu P il n ops ops.toList=some is)(U:M4 ops.toList=true){E:Nat}(bc:E<is.length)(o1:∀ j,j<E→((EN ops.toList []).getD E 0).testBit j=true)(o2:∀ j,E<j→j<is.length→((EN ops.toList []).getD j 0).testBit E=true)
  {F:List (Option Foot)} (bd:F.length=E) (be:∀ (i j:Nat),j<i→i<E→((EN ops.toList []).getD i 0).testBit j=false→I8 (is.getD j default,F.getD j none) (is.getD i default,F.getD i none))
    {s1:PS} (hr:Hv G T ((is.take E).zip F) s s1) (hp:(is.getD E default).execX G T s1=some (t,d,s')) (hQ:∀ a' w',R G base n w0 g0 st0 dl s' a' w'→Q (.panic (KR t d)) a' w') (listed:Array Bool) (a:Act) (w:World) (ad:listed.size=ops.size) (hu:∀ i,i<ops.size→listed.getD i true=false) (hR:R G base n w0 g0 st0 dl s a w) :
  wpAnyIn (Wr r) 0 P .any ops Q ops.size listed a w:=by
 have hlen:=(R0 ht).1;have a0:is.length=ops.size:=by simpa using hlen
 let Z:List (Nat×Option Foot):=(CI E).zip F
 have I:Z.map (·.1)=CI E:=by
  show((CI E).zip F).map (·.1)=_
  rw[List.map_fst_zip (by simp; omega)]
 have a5:∀ z∈Z,z.1<E:=fun z hz=>by
  have:z.1∈Z.map (·.1):=List.mem_map_of_mem hz;grind
 have hZ:ON (EN ops.toList []) is E none Z:=by
  refine⟨by rw[I]; exact Ct,fun k hk=>?_,?_⟩
  ·have:k∈Z.map (·.1):=by rw[I]; exact AW.2 hk
   grind
  ·show List.Pairwise _ ((CI E).zip F)
   rw[List.pairwise_iff_getElem];grind
 have O:GY is (FK listed Z)=(is.take E).zip F:=by
  have e:FK listed Z=Z:=by
   simp only[FK,BT];grind
  rw[e]
  show GY is ((CI E).zip F)=_
  unfold GY;apply Bb;grind
 refine ml hT hY ht U (fun listed s=>(∀ j,E≤j→j<ops.size→listed.getD j true=false)∧Hv G T (GY is (FK listed Z)) s s1) ?_ ?_ ops.size listed s a w ad ?_ ?_ ⟨fun j _ hj=>hu j hj,by rw[O]; exact hr⟩ hR
 ·rintro listed s i o J M ⟨h3,N⟩ V h5 h6 Y;rcases Nat.lt_trichotomy i E with hi | hi | hi
  ·left
   obtain⟨s2,g1,g2⟩:=nA hZ J M N V h5 hi h6 Y (fun j _ h=>by cases h);refine⟨s2,g1,fun j hj ah=>?_,g2⟩;have:=h3 j hj ah;have bf:¬ i=j:=by omega
   simp_all
  ·right
   subst hi;have ba:∀ j,j<i→listed.getD j false=true:=fun j hj=>aS M i o V Y j (o1 j hj)
   have aa:FK listed Z=[]:=by
    simp only[FK,List.filter_eq_nil_iff,AR];grind
   rw[aa]at N;simp only[GY,Bk,Hv]at N;grind
  ·exfalso;have h8:=aS M i o V Y E (o2 i hi (by omega));have h9:=h3 E (AE _) (by omega);grind
 ·rintro listed s h0 ⟨J,_⟩;exfalso;have M:=J E (AE _) (by omega)
  have:E∈Ha ops.size listed:=by
   simp only[Ha,A5,AW];grind
  grind
 ·unfold Ha;grind
 ·intro i o ho hi;have J:=(Ac.1 ho).1;have M:=hu i (by simpa using J);grind
theorem Yi3(hT:TblOK P G T)(hY:YOK P G T.y base w0 g0 st0)(J:Fu P il n ops ops.toList=some is)(I:M4 ops.toList=true)(M:VO (EN ops.toList []) is=true)(N:Mh (EN ops.toList []) is=true)
     (hx:Je G T is s=some (t,d,s')) (hQ:∀ O w',R G base n w0 g0 st0 dl s' O w'→Q (.panic (KR t d)) O w') (listed:Array Bool) (a:Act) (w:World) (U:listed.size=ops.size) (hu:∀ i,i<ops.size→listed.getD i true=false) (hR:R G base n w0 g0 st0 dl s a w) :
  wpAnyIn (Wr r) 0 P .any ops Q ops.size listed a w:=by
 obtain⟨i0,s1,E,he,V⟩:=p4 _ _ hx;have ac:is.length=ops.size:=by simpa using (R0 J).1
 obtain⟨o1,o2⟩:=wX N E (Yag V);obtain⟨F,hF,hr⟩:=Xw _ _ _ he;have Y:F.length=i0:=by rw[hF,AQ]; omega
 refine nB hT hY J I E o1 o2 Y (fun i j aa hi hm=>?_) hr V hQ listed a w U hu hR;have h1:is[j]?=some (is.getD j default):=by simp[Ao,show j<is.length by omega]
 have h2:is[i]?=some (is.getD i default):=by simp[Ao,show i<is.length by omega]
 have h3:=bB M h1 h2 aa hm;exact⟨QU h3,.inl h3⟩
theorem ySh{i:Nat}(h:gU ms l i=true):i<l.length∧(∀ j,j<i→(ms.getD i 0).testBit j=true)∧∀ j,i<j→j<l.length→(ms.getD j 0).testBit i=true:=by
 simp only[gU,Af,decide_eq_true_eq,Aj,AW,A8,beq_iff_eq]at h;grind
theorem Yi4(hT:TblOK P G T)(hY:YOK P G T.y base w0 g0 st0)(ht:Fu P il n ops ops.toList=some is)(af:M4 ops.toList=true){x y:Nat}(b5:x≠y)(hx:x<ops.size){V Y:List (Nat×Option Foot)}(aa:ON (EN ops.toList []) is ops.size (some (x,y)) V)(ab:ON (EN ops.toList []) is ops.size (some (y,x)) Y)
  (ah:∀ z∈V,z.1<ops.size) (a0:∀ z∈Y,z.1<ops.size)
  {sf1 sf2:PS} (b6:∀ a' w',R G base n w0 g0 st0 dl sf1 a' w'→Q .normal a' w') (b7:∀ a' w',R G base n w0 g0 st0 dl sf2 a' w'→Q .normal a' w') (fuel:Nat) (listed:Array Bool) (s:PS) (a:Act) (w:World) (a5:listed.size=ops.size) (hl:(Ha ops.size listed).length≤fuel) (hc:Mq ops.toList listed)
  (a6:listed.getD x true=false) (a7:listed.getD y true=false) (a8:Hv G T (GY is (FK listed V)) s sf1) (a9:Hv G T (GY is (FK listed Y)) s sf2) (hR:R G base n w0 g0 st0 dl s a w) :
  wpAnyIn (Wr r) 0 P .any ops Q fuel listed a w:=by
 refine tq hT hY ht af (fun listed s=>(listed.getD x true=false∧listed.getD y true=false∧Hv G T (GY is (FK listed V)) s sf1∧Hv G T (GY is (FK listed Y)) s sf2)∨
  ((listed.getD x true=true∨listed.getD y true=true)∧Hv G T (GY is (FK listed V)) s sf1)∨((listed.getD x true=true∨listed.getD y true=true)∧Hv G T (GY is (FK listed Y)) s sf2)) ?_ ?_ fuel listed s a w a5 hl hc (.inl ⟨a6,a7,a8,a9⟩) hR
 ·intro listed s i o I J h3 M N O U
  have b3:∀ q,q≠i→(listed.setIfInBounds i true).getD q true=listed.getD q true:=by
   intro q hq;rcases A6 q listed.size with h | h
   ·simp[Array.getD,h,show ¬ i=q from fun e=>hq e.symm]
   ·grind
  have bd:(listed.setIfInBounds i true).getD i true=true:=by
   simp_all
  have be:∀ q,listed.getD q true=true→(listed.setIfInBounds i true).getD q true=true:=by
   grind
  rcases h3 with⟨a1,E,a3,a4⟩ | ⟨a1,E⟩ | ⟨a1,E⟩
  ·by_cases ey:i=y
   ·obtain⟨s1,k1,k2⟩:=O3 ab I J a4 M N O U (fun j _ h=>by
     grind)
    grind
   ·by_cases ex:i=x
    ·obtain⟨s1,k1,k2⟩:=O3 aa I J a3 M N O U (fun j _ h=>by
      grind)
     grind
    ·obtain⟨s1,k1,k2⟩:=O3 aa I J a3 M N O U (fun j _ h=>by
      grind)
     obtain⟨b8,k3,k4⟩:=O3 ab I J a4 M N O U (fun j _ h=>by
      grind)
     grind
  ·obtain⟨s1,k1,k2⟩:=O3 aa I J E M N O U (fun j hj h=>by
    grind)
   grind
  ·obtain⟨s1,k1,k2⟩:=O3 ab I J E M N O U (fun j hj h=>by
    grind)
   grind
 ·intro listed s h0 I
  have b9:listed.getD x true=true:=by
   cases h:listed.getD x true with
   |true=>rfl
   |false=>
    have I:x∈Ha ops.size listed:=by
     simp only[Ha,A5,AW];grind
    grind
  rcases I with⟨a1,_⟩ | ⟨_,E⟩ | ⟨_,E⟩
  ·grind
  ·rw[eQ ah h0]at E;simp only[Hv]at E;grind
  ·rw[eQ a0 h0]at E;simp only[Hv]at E;grind
structure GoX (l:Nat) (base:Nat) (w:World) (g:Ghost) (st:St) (w':World) (g':Ghost) (st':St):Prop where
 sr:SR base w' g' st'
 evo:Evo g st g' st'
 im:ImLe w g w' g'
 new:∀ b o,g'.Im b o→g.Im b o∨base≤b
 below:Below base w w'
 kp:∀ (b:Nat) (o:Go.Obj),b≠l→w.heap[b]?=some o→special o=true→Kept w' b o
theorem Go1.x(h:Go1 base w g st w' g' st')(l:Nat):GoX l base w g st w' g' st':=⟨h.sr,h.evo,h.im,h.new,h.below,fun b o _=>h.kp b o⟩
theorem GoX.trans{l:Nat}{w2:World}{g2:Ghost}{st2:St}(h:GoX l base w g st w1 g1 st1)(E:GoX l base w1 g1 st1 w2 g2 st2):GoX l base w g st w2 g2 st2:=
 ⟨E.sr,h.evo.trans E.evo,h.im.trans E.im,fun b o hb=>by
  rcases E.new b o hb with x | x
  ·exact h.new b o x
  ·exact .inr x,h.below.trans E.below,fun b o hl hb I=>(let⟨_,M,J⟩:=h.kp b o hl hb I; let⟨o2,N,O⟩:=E.kp b _ hl M (J.special I); ⟨o2,N,J.trans O⟩)⟩
theorem GoX.fin{l:Nat}(h:GoX l base w g st w' g' st')(hl:∀ (o:Go.Obj),w.heap[l]?=some o→special o=true→Kept w' l o):Go1 base w g st w' g' st':=
 ⟨h.sr,h.evo,h.im,h.new,h.below,fun b o hb E=>by
  by_cases e:b=l
  ·grind
  ·exact h.kp b o e hb E⟩
theorem GoX.put{l:Nat}{o o':Go.Obj}(I:SR base w g st)(ho:w.heap[l]?=some o)(hs:special o=true)(a0:∃ ds,o=.deferred ds)(hl:base≤l):GoX l base w g st (w.putObj l o') g st:=by
 have J:∀ b x,g.Im b x→(w.putObj l o').cell? ⟨b,x,none⟩=w.cell? ⟨b,x,none⟩:=by
  intro b x hb
  have E:b≠l:=by
   rintro rfl;have:=I.im b x hb;unfold World.cell? at this;grind
  simp only[World.cell?,World.putObj_heap_other E]
 have N:ImLe w g (w.putObj l o') g:=⟨fun b x hb=>⟨hb,J b x hb⟩,fun b x hb O=>by
  have E:b≠l:=by
   rintro rfl;rw[ho]at hb;obtain rfl:=AD hb;cases o <;> first | (simp[Mb]at O; done) | (simp[special]at hs; done)
  rw[World.putObj_heap_other E]; exact hb⟩
 refine⟨⟨?_,?_,I.inj,?_,I.dis,by rw[World.putObj_size]; exact I.size⟩,Evo.refl _ _,N,fun _ _ h=>.inl h,⟨rfl,rfl,rfl,by rw[World.putObj_size]; exact AE _,fun k hk=>World.putObj_heap_other (by omega)⟩,fun b o1 hb U _=>.same (by rw[World.putObj_heap_other hb]; exact U)⟩
 ·intro k V hk hm;have hm:=I.mp k V hk hm;refine hm.mono N (Evo.refl _ _) rfl (World.putObj_heap_other ?_);rintro rfl;obtain⟨x,hb,_,_,_,h5,_⟩:=hm.at;grind
 ·intro k V hk hm;obtain⟨C,e,hb,M,Y,O,hC,aa⟩:=I.blk k V hk hm
  have E:g.β k≠l:=by
   grind
  refine⟨C,e,by rw[World.putObj_heap_other E]; exact hb,M,Y,O,hC,fun i j d hd=>?_⟩;obtain⟨U,v,h2,h3⟩:=aa i j d hd;exact⟨U,v,h2,h3.mono N (Evo.refl _ _)⟩
 ·intro b x hb;rw[J b x hb]; exact I.im b x hb
theorem YOK.mono{y:Nat→List D→St→Option (D×St)}(h:YOK P G y base w0 g0 st0)(I:Go1 base w0 g0 st0 w1 g1 st1):YOK P G y base w1 g1 st1:=
 fun l w g st st' ds vs d E=>h l w g st st' ds vs d (I.trans E)
theorem lG{x:List Deferred}{w:World}{g:Ghost}{st:St}:∀ (E:List Nat) (ds:List D) (vs:List Value) (fr:Frame) (tmps:Array Value),ds.length=E.length→ds.length=vs.length→(∀ p∈E,p<tmps.size)→FR w g st fr {tmps:=tmps,defers:=x}→
  (∀ (i:Nat) d v,ds[i]?=some d→vs[i]?=some v→RepV w g st d v)→
  FR w g st (ND fr E ds) {tmps:=(E.zip vs).foldl (fun tmps p=>tmps.setIfInBounds p.1 p.2) tmps,defers:=x}
 |[],ds,vs,fr,tmps,I,J,_,M,_=>by
  simp only[List.zip_nil_left,List.foldl_nil]
  cases ds with
  |nil=>exact M
  |cons d ds=>simp at I
 |p::E,ds,vs,fr,tmps,I,J,O,M,N=>by
  cases ds with
  |nil=>simp at I
  |cons d ds=>
   cases vs with
   |nil=>simp at J
   |cons v vs=>
    simp only[List.zip_cons_cons,List.foldl_cons,ND];refine lG E ds vs _ _ (by simpa using I) (by simpa using J) (fun q Y=>?_) ?_ (fun i d v U hv=>N (i+1) d v (by simpa using U) (by simpa using hv))
    ·grind
    ·exact FR.put (dst:=some p) (a:={tmps:=tmps,defers:=x}) M (fun t V=>by cases V; exact O p (by simp)) (N 0 d v rfl rfl)
theorem jr:∀ (l:List (Nat×Value)) (tmps:Array Value),(l.foldl (fun tmps p=>tmps.setIfInBounds p.1 p.2) tmps).size=tmps.size
 |[],_=>rfl
 |p::l,tmps=>by rw[List.foldl_cons,jr l]; simp
theorem R.drew(h:R G base n w0 g0 st0 dl s a w):R G base n w0 g0 st0 dl s a {w with drawn:=w.drawn+1}:=by
 obtain⟨g,h⟩:=h;have E:=h.sr.drew (w.drawn+1);exact⟨g,h.go E (h.fr.mono E.im E.evo) rfl h.sz⟩
end
end Go.Proofs.YtijnglngaogdjaaGreatDoor.PI
namespace Go.Proofs.YtijnglngaogdjaaGreatDoor.PI
open Go Go.RowKit
variable {o o':Obj}{st st':St}{f j k key:Nat}{v:Value}{d:D}{g g':Ghost}{w w':World}{σ:List Nat}{ops:Array Oper}{vs:List Value}{fn:Func}{ds:List D}{F:PF}{hints:List (List Nat)}
section
variable {P:Program} {il:List Nat} {G:Db} {T:Tbl} {base n:Nat} {w0:World} {g0:Ghost} {st0:St} {dl:List Deferred} {ro:Option Nat}
theorem Ql{i:Nat}(h:st[i]?=some o)(hi:i<k):(cut k st)[i]?=some {o with els:=if o.row then o.els else o.els.map (G3 k)}:=by
 simp[cut,hi,h]
theorem Tw{i:Nat}(h:(cut k st)[i]?=some o'):i<k∧∃ o,st[i]?=some o∧o'={o with els:=if o.row then o.els else o.els.map (G3 k)}:=by
 simp only[cut,AJ,Dv,BI]at h;grind
theorem Tx(k:Nat)(o:Obj):(if o.row then o.els else o.els.map (G3 k)).length=o.els.length:=by
 grind
theorem mG(h:RepV w g st d v):RepV w g (cut k st) (G2 k d) v:=by
 cases h with
 |int k n=>exact .int k n
 |bool b=>exact .bool b
 |str s=>exact .str s
 |nilp=>exact .nilp
 |nilm=>exact .nilm
 |gmap es b O clock E I J=>exact .gmap es b O clock E I J
 |nilf=>exact .nilf
 |slcE sz t a cap h=>exact .slcE sz t a cap h
 |slc els t b off cap sz val E I J U M V Y h7=>exact RepV.pure (ImLe.refl _ _) (.slc els t b off cap sz val E I J U M V Y h7) rfl
 |clo f ds vs E I=>exact .junk _
 |row key tot off len o v N E I J M=>
  simp only[G2]
  split
  ·rename_i hk;refine .row key tot off len _ v N (Ql E hk) I (by simpa[Tx]using J) fun e=>?_;grind
  ·exact .junk _
 |bsl key off n sz ag o cap E I J M=>
  simp only[G2]
  split
  ·rename_i hk; exact .bsl key off n sz ag _ cap (Ql E hk) I J M
  ·exact .junk _
 |mapv key o E I=>
  simp only[G2]
  split
  ·rename_i hk; exact .mapv key _ (Ql E hk) I
  ·exact .junk _
 |ptr key off o E I J=>
  simp only[G2]
  split
  ·rename_i hk; exact .ptr key off _ (Ql E hk) I J
  ·exact .junk _
 |rptr key tot i off o v N E I J M=>
  simp only[G2]
  split
  ·rename_i hk;refine .rptr key tot i off _ v N (Ql E hk) I (by simpa[Tx]using J) fun e=>?_;grind
  ·exact .junk _
 |eptr el off b o val N E I=>exact RepV.eptr_any (ImLe.refl _ _) (.eptr el off b o val N E I)
 |agg ds vs E I=>exact .junk _
 |tup ds vs E I=>exact .junk _
 |junk v=>exact .junk v
theorem ez(h:RepV w g st d v):RepV w g (cut k st) (Gb k d) v:=by
 cases d with
 |clo f l=>
  cases h with
  |clo _ _ vs I J=>
   refine .clo f _ vs (by simpa using I) fun i d v E hv=>?_;simp only[AJ,Dv]at E;obtain⟨d0,M,rfl⟩:=E;exact mG (J i d0 v M hv)
 |_=>exact mG h
theorem cP(h:RepV w g st d v):RepV w g (cut k st) (G3 k d) v:=by
 cases d with
 |agg l=>
  cases h with
  |agg _ vs I J=>
   refine .agg _ vs (by simpa using I) fun i d v E hv=>?_;simp only[AJ,Dv]at E;obtain⟨d0,M,rfl⟩:=E;exact ez (J i d0 v M hv)
 |tup l=>exact .junk _
 |_=>exact ez h
theorem zU(k:Nat)(d:D):(Gb k d).cells=[Gb k d]:=by
 cases d <;> simp only[Gb,G2] <;> first | rfl | (split <;> rfl)
theorem iI{x:D}(h:x.cells=[x])(l:List D):x≠.agg l:=by
 rintro rfl;have h:l=[.agg l]:=h;have:=congrArg (fun l:List D=>SizeOf.sizeOf l) h;grind
theorem Ytz(k:Nat)(h:d.cells=[d]):G3 k d=Gb k d:=by
 cases d with
 |agg l=>exact absurd rfl (iI h l)
 |_=>rfl
theorem ZT(k:Nat)(h:d.cells=[d]):(G3 k d).cells=[G3 k d]:=by rw[Ytz k h]; exact zU k d
theorem tL{E:D→D}(O:∀ d v,RepV w g st d v→RepV w' g' st' (E d) v){l:List D}{sz:Nat}(hl:l.length=sz)(Y:1<sz){I J:Value}
  (hk:RepV w g st (Fy sz (.agg l)) I) (hv:RepV w g st (G5 sz (.agg l)) J):RepV w' g' st' (Fy sz (.agg (l.map E))) I∧RepV w' g' st' (G5 sz (.agg (l.map E))) J:=by
 constructor
 ·by_cases M:sz=2
  ·subst M
   match l,hl with
   |[a,b],_=>exact O _ _ hk
  ·have e:∀ l,Fy sz (.agg l)=.agg (l.take (sz - 1)):=fun l=>by simp[Fy,D.mk,M]
   rw[e]at hk ⊢
   cases hk with
   |agg _ vs U q2=>
    rw[← B1];refine .agg _ vs (by simpa using U) fun i d v N hv=>?_;grind
 ·have N:∃ x,l.drop (sz - 1)=[x]:=by
   have:(l.drop (sz - 1)).length=1:=by rw[AX]; omega
   match l.drop (sz - 1),this with
   |[x],_=>exact⟨x,rfl⟩
  obtain⟨x,V⟩:=N;simp only[G5,← Ci,V]at hv ⊢;grind
theorem MapAt.mkRec{base:Nat}{b:Nat}(E:o.sz=1000003)(h:Zu base w b o):MapAt base w g st b o:=by
 unfold MapAt; rwa [if_pos E]
theorem MapAt.mkOld{base:Nat}{b:Nat}(E:o.sz≠1000003)(h:MapAt0 base w g st b o):MapAt base w g st b o:=by
 unfold MapAt; rwa [if_neg E]
theorem Yvv{base:Nat}(h:SR base w g st)(k:Nat):SR base w g (cut k st):=by
 refine⟨?_,?_,?_,h.im,?_,h.size⟩
 ·intro i o' hi hm;obtain⟨a8,o,ho,rfl⟩:=Tw hi;have hm:o.isMap=true:=hm;have E:o.row=false:=Z4 hm;have af:=h.mp i o ho hm
  by_cases hs:o.sz=1000003
  ·obtain⟨r,n,a1,a2,a3,a4⟩:=af.rec' hs;refine MapAt.mkRec hs ⟨r,n,a1,a2,by simp[E,a3,G3,Gb,G2],a4⟩
  obtain⟨es,clock,J,N,O,h4,h5,ba⟩:=af.old hs;refine MapAt.mkOld hs ?_;refine⟨es,clock,J,N,by rw[O,Tx],?_,?_,ba⟩
  ·intro x hx;simp only[E,Al,if_false,AV]at hx;obtain⟨y,U,rfl⟩:=hx;obtain⟨l,rfl,hl⟩:=h4 y U;exact⟨_,rfl,by simpa using hl⟩
  ·intro j e el he ah;simp only[E,Al,if_false,AJ,Dv]at ah;obtain⟨bb,V,rfl⟩:=ah;obtain⟨l,rfl,hl⟩:=h4 bb (Aq V);have h6:=h5 j e _ he V;exact tL (fun d v h=>ez h) hl (eR hm) h6.1 h6.2
 ·intro i o' hi hm;obtain⟨a8,o,ho,rfl⟩:=Tw hi;have hm:o.isMap=false:=hm;obtain⟨C,e,hb,ac,a6,hx,I,Y⟩:=h.blk i o ho hm;refine⟨C,e,hb,ac,a6,?_,?_,?_⟩
  ·intro x M
   by_cases E:o.row=true
   ·grind
   ·simp only[E,Al,if_false,AV]at M;simp only[E,Al,if_false]at I;obtain⟨y,U,rfl⟩:=M;rw[ZT k (I.2.2 y U),I.2.1]; rfl
  ·by_cases E:o.row=true
   ·grind
   ·simp only[E,Al,if_false]at I ⊢;refine⟨by simpa using I.1,I.2.1,fun x M=>?_⟩;simp only[AV]at M;obtain⟨y,U,rfl⟩:=M;exact ZT k (I.2.2 y U)
  ·intro i' j d hd
   by_cases E:o.row=true
   ·simp only[E,if_true]at hd;obtain⟨J,v,N,O⟩:=Y i' j d hd;exact⟨J,v,N,O.pure (ImLe.refl _ _) (J E)⟩
   ·simp only[E,Al,if_false]at hd I;obtain⟨e',he,hj⟩:=HE hd;simp only[AJ,Dv]at he;obtain⟨e0,aa,rfl⟩:=he;rw[ZT k (I.2.2 e0 (Aq aa))]at hj
    have be:j=0∧d=G3 k e0:=by
     grind
    obtain⟨rfl,rfl⟩:=be;obtain⟨_,v,N,O⟩:=Y i' 0 e0 (Hb aa (by rw[I.2.2 e0 (Aq aa)]; rfl));exact⟨fun e=>absurd e E,v,N,cP O⟩
 ·intro k1 k2 o1 o2 J N he;obtain⟨_,p1,q1,_⟩:=Tw J;obtain⟨_,p2,q2,_⟩:=Tw N;exact h.inj _ _ _ _ q1 q2 he
 ·intro k1 o1 x J hi;obtain⟨_,p1,q1,rfl⟩:=Tw J;have:=h.dis _ _ _ q1 hi;grind
def Ga(n:Nat)(σ:List Nat)(j:Nat):Nat:=if j<n then j else σ.getD (j - n) 0
def Fp(n:Nat)(σ:List Nat)(g:Ghost):Ghost:={β:=fun j=>g.β (Ga n σ j),γ:=fun j=>g.γ (Ga n σ j),Im:=g.Im}
theorem pP:∀ (σ:List Nat) (b key j:Nat),OB σ b key=some j→b≤j∧σ[j - b]?=some key
 |[],_,_,_,h=>by cases h
 |k::r,b,key,j,h=>by
  simp only[OB]at h
  split at h
  ·grind
  ·obtain⟨E,I⟩:=pP r (b+1) key j h;grind
theorem QL{n:Nat}(h:EA n σ key=some j):Ga n σ j=key∧(j<n∨(n≤j∧σ[j - n]?=some key)):=by
 unfold EA at h
 split at h
 ·rename_i hk;simp only[C3]at h;subst h;exact⟨by simp[Ga,hk],.inl hk⟩
 ·obtain⟨E,I⟩:=pP σ n key j h;exact⟨by simp[Ga,Nat.not_lt.2 E,Ao,I],.inr ⟨E,I⟩⟩
theorem Oc(n:Nat)(σ:List Nat)(o:Obj):(ES n σ o).els.length=o.els.length:=by
 simp only[ES]; split <;> simp
theorem QS{n:Nat}(hn:n≤st.length)(h:EA n σ key=some j)(J:st[key]?=some o):(picked n σ st)[j]?=some (ES n σ o):=by
 obtain⟨I,E⟩:=QL h;have hl:((st.take n).map (ES n σ)).length=n:=by simp; omega
 rcases E with E | ⟨E,M⟩
 ·have:j=key:=by rw[← I]; simp[Ga,E]
  subst this;rw[picked,Au (by omega)];grind
 ·rw[picked,AI (by omega),hl];grind
theorem ySa{n:Nat}(hn:n≤st.length)(J:∀ k∈σ,k<st.length)(h:(picked n σ st)[j]?=some o') :
  ∃ o,st[Ga n σ j]?=some o∧o'=ES n σ o∧(j<n∨(n≤j∧σ[j - n]?=some (Ga n σ j))):=by
 have hl:((st.take n).map (ES n σ)).length=n:=by simp; omega
 rcases A6 j n with hj | hj
 ·rw[picked,Au (by omega)]at h;simp only[AJ,BI,hj,if_true,Dv]at h;obtain⟨o,E,I⟩:=h;exact⟨o,by simpa[Ga,hj]using E,I.symm,.inl hj⟩
 ·rw[picked,AI (by omega),hl]at h;simp only[AJ,Dv]at h;obtain⟨k,E,I⟩:=h;have hk:=J k (Aq E);have M:Ga n σ j=k:=by simp[Ga,Nat.not_lt.2 hj,Ao,E]
  grind
theorem Sw{f:Nat→D}{o:Option Nat}(h:∀ j,o=some j→RepV w g st (f j) v):RepV w g st (IH f o) v:=by
 cases o with
 |none=>exact .junk _
 |some j=>exact h j rfl
theorem mU{n:Nat}(hn:n≤st.length)(h:RepV w g st d v):RepV w (Fp n σ g) (picked n σ st) (F9 n σ d) v:=by
 have U:ImLe w g w (Fp n σ g):=⟨fun b o h=>⟨h,rfl⟩,fun _ _ h _=>h⟩
 cases h with
 |int k n=>exact .int k n
 |bool b=>exact .bool b
 |str s=>exact .str s
 |nilp=>exact .nilp
 |nilm=>exact .nilm
 |gmap es b O clock E I J=>exact .gmap es b O clock E I J
 |nilf=>exact .nilf
 |slcE sz t a cap h=>exact .slcE sz t a cap h
 |slc els t b off cap sz val E I J V M Y h6 h7=>exact RepV.pure U (.slc els t b off cap sz val E I J V M Y h6 h7) rfl
 |clo f ds vs E I=>exact .junk _
 |row key tot off len o v N E I J M=>
  refine Sw fun j hj=>?_;refine .row j tot off len _ v N (QS hn hj E) I (by rw[Oc]; exact J) fun e=>?_;have:=M (by rw[Oc]at e; exact e);simp only[Fp,(QL hj).1];exact this
 |bsl key off m sz ag o cap E I J M=>
  refine Sw fun j hj=>?_;have:=RepV.bsl (w:=w) (g:=Fp n σ g) j off m sz ag _ cap (QS (σ:=σ) hn hj E) I J M;simp only[Fp,(QL hj).1]at this;exact this
 |mapv key o E I=>
  refine Sw fun j hj=>?_;have:=RepV.mapv (w:=w) (g:=Fp n σ g) j _ (QS (σ:=σ) hn hj E) I;simp only[Fp,(QL hj).1]at this;exact this
 |ptr key off o E I J=>
  refine Sw fun j hj=>?_;have:=RepV.ptr (w:=w) (g:=Fp n σ g) j off _ (QS (σ:=σ) hn hj E) I J;simp only[Fp,(QL hj).1]at this;exact this
 |rptr key tot i off o v N E I J M=>
  refine Sw fun j hj=>?_;refine .rptr j tot i off _ v N (QS hn hj E) I (by rw[Oc]; exact J) fun e=>?_;have:=M (by rw[Oc]at e; exact e);simp only[Fp,(QL hj).1];exact this
 |eptr el off b o val N E I=>exact RepV.eptr_any U (.eptr el off b o val N E I)
 |agg ds vs E I=>exact .junk _
 |tup ds vs E I=>exact .junk _
 |junk v=>exact .junk v
theorem eP{n:Nat}(hn:n≤st.length)(h:RepV w g st d v):RepV w (Fp n σ g) (picked n σ st) (En n σ d) v:=by
 cases d with
 |clo f l=>
  cases h with
  |clo _ _ vs I J=>
   refine .clo f _ vs (by simpa using I) fun i d v E hv=>?_;simp only[AJ,Dv]at E;obtain⟨d0,M,rfl⟩:=E;exact mU hn (J i d0 v M hv)
 |_=>exact mU hn h
theorem lz{n:Nat}(hn:n≤st.length)(h:RepV w g st d v):RepV w (Fp n σ g) (picked n σ st) (Ef n σ d) v:=by
 cases d with
 |agg l=>
  cases h with
  |agg _ vs I J=>
   refine .agg _ vs (by simpa using I) fun i d v E hv=>?_;simp only[AJ,Dv]at E;obtain⟨d0,M,rfl⟩:=E;exact eP hn (J i d0 v M hv)
 |tup l=>exact .junk _
 |_=>exact eP hn h
theorem yRu(n:Nat)(σ:List Nat)(d:D):(En n σ d).cells=[En n σ d]:=by
 cases d <;> simp only[En,F9,IH] <;> first | rfl | (split <;> rfl)
theorem Yta(n:Nat)(σ:List Nat)(h:d.cells=[d]):Ef n σ d=En n σ d:=by
 cases d with
 |agg l=>exact absurd rfl (iI h l)
 |_=>rfl
theorem ZX(n:Nat)(σ:List Nat)(h:d.cells=[d]):(Ef n σ d).cells=[Ef n σ d]:=by rw[Yta n σ h]; exact yRu n σ d
theorem oQ(lo hi:Nat):∀ (l acc:List Nat),(acc.Nodup∧∀ k∈acc,lo≤k∧k<hi)→(ER lo hi l acc).Nodup∧∀ k∈ER lo hi l acc,lo≤k∧k<hi
 |[],_,h=>h
 |k::r,acc,h=>by
  simp only[ER];refine oQ lo hi r _ ?_;grind
theorem xN{base:Nat}(h:SR base w g st){n:Nat}(hn:n≤st.length)(hd:σ.Nodup)(hσ:∀ k∈σ,n≤k∧k<st.length):SR base w (Fp n σ g) (picked n σ st):=by
 have inv:=fun {j:Nat} {o':Obj} (h:(picked n σ st)[j]?=some o')=>ySa hn (fun k hk=>(hσ k hk).2) h;refine⟨?_,?_,?_,h.im,?_,h.size⟩
 ·intro i o' hi hm;obtain⟨o,ho,rfl,a7⟩:=inv hi;have hm:o.isMap=true:=hm;have E:o.row=false:=Z4 hm;have ah:=h.mp _ o ho hm
  by_cases hs:o.sz=1000003
  ·obtain⟨r,n,a1,a2,a3,a4⟩:=ah.rec' hs;refine MapAt.mkRec hs ⟨r,n,a1,a2,by simp[ES,E,a3,Ef,En,F9],a4⟩
  obtain⟨es,clock,M,O,U,h4,h5,bc⟩:=ah.old hs;refine MapAt.mkOld hs ?_;refine⟨es,clock,M,O,by rw[U,Oc],?_,?_,bc⟩
  ·intro x hx;simp only[ES,E,Al,if_false,AV]at hx;obtain⟨y,V,rfl⟩:=hx;obtain⟨l,rfl,hl⟩:=h4 y V;exact⟨_,rfl,by rw[Bd]; exact hl⟩
  ·intro j e el he a0;simp only[ES,E,Al,if_false,AJ,Dv]at a0;obtain⟨bd,Y,rfl⟩:=a0;obtain⟨l,rfl,hl⟩:=h4 bd (Aq Y);have h6:=h5 j e _ he Y;exact tL (fun d v h=>eP hn h) hl (eR hm) h6.1 h6.2
 ·intro i o' hi hm;obtain⟨o,ho,rfl,a7⟩:=inv hi;have hm:o.isMap=false:=hm;obtain⟨C,e,hb,ae,a9,hx,I,aa⟩:=h.blk _ o ho hm;refine⟨C,e,hb,ae,a9,?_,?_,?_⟩
  ·intro x J;simp only[ES]at J ⊢
   by_cases E:o.row=true
   ·grind
   ·simp only[E,Al,if_false,AV]at J;simp only[E,Al,if_false]at I;obtain⟨y,V,rfl⟩:=J;rw[ZX n σ (I.2.2 y V),I.2.1]; rfl
  ·simp only[ES]
   by_cases E:o.row=true
   ·simp only[E,if_true]at I ⊢; exact I
   ·simp only[E,Al,if_false]at I ⊢;refine⟨by simpa using I.1,I.2.1,fun x J=>?_⟩;simp only[AV]at J;obtain⟨y,V,rfl⟩:=J;exact ZX n σ (I.2.2 y V)
  ·intro i' j d N;simp only[ES]at N ⊢
   by_cases E:o.row=true
   ·simp only[E,if_true]at N;obtain⟨M,v,O,U⟩:=aa i' j d N;exact⟨M,v,O,RepV.pure (g:=g) (g':=Fp n σ g) ⟨fun b o h=>⟨h,rfl⟩,fun _ _ h _=>h⟩ U (M E)⟩
   ·simp only[E,Al,if_false]at N I;obtain⟨e',he,hj⟩:=HE N;simp only[AJ,Dv]at he;obtain⟨e0,ab,rfl⟩:=he;rw[ZX n σ (I.2.2 e0 (Aq ab))]at hj
    have bg:j=0∧d=Ef n σ e0:=by
     grind
    obtain⟨rfl,rfl⟩:=bg;obtain⟨_,v,O,U⟩:=aa i' 0 e0 (Hb ab (by rw[I.2.2 e0 (Aq ab)]; rfl));exact⟨fun e=>absurd e E,v,O,lz hn U⟩
 ·intro k1 k2 o1 o2 M O he;obtain⟨p1,q1,_,r1⟩:=inv M;obtain⟨p2,q2,_,r2⟩:=inv O;have e:=h.inj _ _ _ _ q1 q2 he;rcases r1 with r1 | ⟨r1,s1⟩ <;> rcases r2 with r2 | ⟨r2,s2⟩
  ·simpa[Ga,r1,r2]using e
  ·have:=(hσ _ (Aq s2)).1;rw[← e]at this;simp only[Ga,r1,if_true]at this;omega
  ·have:=(hσ _ (Aq s1)).1;rw[e]at this;simp only[Ga,r2,if_true]at this;omega
  ·rw[e]at s1;have U:=(List.getElem?_inj (Ac.1 s1).1 hd).1 (s1.trans s2.symm);omega
 ·intro k1 o1 x M hi;obtain⟨o,q1,rfl,_⟩:=inv M;have:=h.dis _ _ _ q1 hi;exact⟨this.1,by rw[Oc]; exact this.2⟩
theorem cQ{w:World}{g:Ghost}{st:St}{n:Nat}{σ:List Nat}(hn:n≤st.length){fr:Frame}{a:Act}(h:FR w g st fr a):∀ (keep:List Nat),FR w (Fp n σ g) (picked n σ st) (GK (keep.map fun q=>(q,Ef n σ (fr q)))) a
 |[],_=>.junk _
 |q::r,s=>by
  simp only[Ax,GK]
  split
  ·rename_i e; subst e; exact lz hn (h s)
  ·exact cQ hn h r s
theorem Evo.len(h:Evo g st g' st'):st.length≤st'.length:=by
 rcases A6 st'.length st.length with E | E
 ·obtain⟨o',I,_⟩:=h st'.length st[st'.length] (An E);grind
 ·exact E
theorem Evo.cut(h:Evo g st g' st')(hk:st.length≤k):Evo g st g' (PI.cut k st'):=by
 intro i o hi;obtain⟨o',E,I,J,M,N,O⟩:=h i o hi;have:i<st.length:=(Ac.1 hi).1;exact⟨_,Ql E (by omega),I,J,by simpa[Tx]using M,fun e=>N (by simpa[Tx]using e),O⟩
theorem Go1.cut(h:Go1 base w g st w' g' st')(hk:st.length≤k):Go1 base w g st w' g' (PI.cut k st'):=
 ⟨Yvv h.sr k,h.evo.cut hk,h.im,h.new,h.below,h.kp⟩
theorem Go1.picked(h:Go1 base w g st w' g' st'){n:Nat}(hk:st.length≤n)(hn:n≤st'.length)(I:σ.Nodup)(J:∀ k∈σ,n≤k∧k<st'.length):Go1 base w g st w' (Fp n σ g') (PI.picked n σ st'):=by
 refine⟨xN h.sr hn I J,?_,⟨h.im.im,h.im.kp⟩,h.new,h.below,h.kp⟩;intro i o hi;obtain⟨o',M,N,O,U,V,Y⟩:=h.evo i o hi;have aa:i<st.length:=(Ac.1 hi).1;have E:Ga n σ i=i:=by simp[Ga,show i<n by omega]
 refine⟨_,QS (key:=i) (j:=i) hn (by simp[EA,show i<n by omega]) M,N,O,by rw[Oc]; exact U,fun e=>?_,fun e=>?_⟩
 ·simp only[Fp,E]; exact V (by rw[Oc]at e; exact e)
 ·simp only[Fp,E]; exact Y e
theorem R.restrict{s:PS}{a:Act}{w:World}(h:R G base n w0 g0 st0 dl s a w)(keep:List Nat)(k:Nat)(hk:st0.length≤k):R G base n w0 g0 st0 dl (restrict keep k s) a w:=by
 obtain⟨g,h⟩:=h;unfold PI.restrict;generalize hm:(if k≤s.st.length then k else s.st.length)=m;have E:m≤s.st.length:=by rw[← hm]; split <;> omega
 have J:st0.length≤m:=by
  have:=h.go1.evo.len;grind
 generalize hl:ER m s.st.length (Ta keep m s) []=σ;have I:=oQ m s.st.length (Ta keep m s) [] ⟨List.nodup_nil,fun _ h=>by cases h⟩;rw[hl]at I;exact⟨Fp m σ g,h.go1.picked J E I.1 I.2,cQ E h.fr keep,h.gl.mono ⟨fun b o h=>⟨h,rfl⟩,fun _ _ h _=>h⟩,h.df,h.sz⟩
theorem oo{w:World}{g:Ghost}{st:St}{fr:Frame}{a:Act}(h:FR w g st fr a):∀ (keep:List Nat),FR w g st (GK (keep.map fun q=>(q,fr q))) a
 |[],_=>.junk _
 |q::r,s=>by
  simp only[Ax,GK]
  split
  ·rename_i e; subst e; exact h s
  ·exact oo h r s
theorem R.keepAll{s:PS}{a:Act}(h:R G base n w0 g0 st0 dl s a w)(keep:List Nat):R G base n w0 g0 st0 dl (PI.keepAll keep s) a w:=by
 obtain⟨g,h⟩:=h;exact⟨g,h.go1,oo h.fr keep,h.gl,h.df,h.sz⟩
theorem R.restrictAt{s:PS}{a:Act}{w:World}(h:R G base n w0 g0 st0 dl s a w)(keep:List Nat)(m:Nat)(σ:List Nat)(E:m≤s.st.length)(I:st0.length≤m)(J:σ.Nodup)(M:∀ k∈σ,m≤k∧k<s.st.length):R G base n w0 g0 st0 dl (restrictAt keep m σ s) a w:=by
 obtain⟨g,h⟩:=h;exact⟨Fp m σ g,h.go1.picked I E J M,cQ E h.fr keep,h.gl.mono ⟨fun b o h=>⟨h,rfl⟩,fun _ _ h _=>h⟩,h.df,h.sz⟩
theorem tn{l:List PI}{bad:Option (Nat×Nat)}{E:List Nat}(J:Oq ops.size E=true){F:List (Option Foot)}(hF:F.length=E.length)
  (hp:∀ (p q i j:Nat),q<p→E[p]?=some i→E[q]?=some j→((EN ops.toList []).getD i 0).testBit j=false→bad≠some (j,i)→I8 (l.getD j default,F.getD q none) (l.getD i default,F.getD p none)) :
  ON (EN ops.toList []) l ops.size bad (E.zip F)∧(∀ z∈E.zip F,z.1<ops.size)∧(∀ (listed:Array Bool),(∀ i,i<ops.size→listed.getD i true=false)→GY l (FK listed (E.zip F))=(E.map fun k=>l.getD k default).zip F):=by
 simp only[Oq,Af,beq_iff_eq,Aj,AW]at J;obtain⟨h1,V⟩:=J;have N:∀ x∈CI ops.size,x∈E:=fun x Y=>by simpa using V x (AW.1 Y)
 have I:E.Perm (CI ops.size):=(lj _ _ Ct N (by rw[List.length_range]; omega)).symm;have O:E.Nodup:=I.nodup_iff.2 Ct;have U:∀ k∈E,k<ops.size:=fun k hk=>AW.1 (I.mem_iff.1 hk)
 have M:(E.zip F).map (·.1)=E:=by
  rw[List.map_fst_zip (by omega)]
 refine⟨⟨by rw[M]; exact O,?_,?_⟩,?_,?_⟩
 ·grind
 ·rw[List.pairwise_iff_getElem];grind
 ·intro z hz;exact U z.1 (by rw[← M]; exact List.mem_map_of_mem hz)
 ·intro listed hu
  have:FK listed (E.zip F)=E.zip F:=by
   simp only[FK,BT];grind
  rw[this,GY];apply Bb;grind
def Ld:Ex→Exit
 |.next=>.normal
 |.exit id=>.exit id
 |.ret=>.ret
 |.panic t d=>.panic (KR t d)
theorem wy(hT:TblOK P G T)(hY:YOK P G T.y base w0 g0 st0){id:Nat}{a9:Bool}{h:List (List Nat)}{r:PC×List (List Nat)}(I:Hi P il n h (.region id ops a9)=some r){fuel:Nat}{s s':PS}{e:Ex}(E:r.1.exec G T fuel s=some (e,s'))
  {a:Act}  (hR:R G base n w0 g0 st0 dl s a w) {Q:Exit→Act→World→Prop} (hQ:∀ a' w',R G base n w0 g0 st0 dl s' a' w'→Q (Ld e) a' w'):(Code.region id ops a9).wpIn (Wr ro) 0 P Q a w:=by
 have bg:∀ l',r.1=.ops l'→e=.next∧EK G T l' s=some s':=by
  intro l' U;rw[U]at E;simp only[PC.exec]at E;grind
 unfold Hi at I
 cases a9 with
 |false=>
  simp only[Al,if_false]at I
  split at I
  ·rename_i pre d1 t xo hp;obtain⟨o1,o2,hl,U,h3,h2,c8,c9,da,u,hu,db⟩:=yRc hp
   split at I
   case h_2=>
    simp only[C3]at I;subst I;simp[PC.exec]at E
   rename_i l x b1 dc;simp only[C3]at I;subst I;simp only[PC.exec]at E
   split at E
   case h_2=>cases E
   rename_i s1 J
   split at E
   case isFalse=>cases E
   rename_i hi;simp only[C3,Dk]at E;obtain⟨rfl,rfl⟩:=E;refine wpIn_region_list ?_;rw[hl];exact Sv hT hY _ _ _ _ _ _ b1 J hR fun a' w' a5=>Ymv a5 U h3 h2 c8 c9 da hu db dc hi (fun dd c3=>hQ dd w' c3)
  ·simp only[Dv]at I;obtain⟨l,hl,rfl⟩:=I
   by_cases V:l.any (Rz il)=true
   ·simp only[V,if_true,PC.exec]at E
    split at E
    ·rename_i s1 J;simp only[C3,Dk]at E;obtain⟨rfl,rfl⟩:=E;exact wpIn_region_list (Z7 hT hY _ _ _ _ _ _ hl J hR hQ)
    ·simp only[Dv,Dk]at E;obtain⟨⟨t,d,s2⟩,E,rfl,rfl⟩:=E;exact wpIn_region_list (ZQ hT hY _ _ _ _ _ _ hl E hR hQ)
   ·obtain⟨rfl,hs⟩:=bg l (by simp only[V,if_false,Al]);exact wpIn_region_list (Z7 hT hY _ _ _ _ _ _ hl hs hR hQ)
 |true=>
  simp only[if_true]at I
  split at I
  case h_2=>cases I
  rename_i l hl;have hlen:=(R0 hl).1;have b1:l.length=ops.size:=by simpa using hlen
  have hu:∀ i,i<ops.size→(CN ops.size false).getD i true=false:=by
   simp_all
  have h0:(Ha ops.size (CN ops.size false)).length≤ops.size:=by
   unfold Ha;grind
  have cg:Mq ops.toList (CN ops.size false):=by
   intro i o _ hi;grind
  have a6:Oq ops.size (CI ops.size)=true:=by simp[Oq]
  have kg:(CI ops.size).map (fun k=>l.getD k default)=l:=by
   apply Bb;grind
  have bb:∀ (F:List (Option Foot)),F.length=l.length→Hv G T (l.zip F) s s'→e=.next→P.follows .mixedOrders=true→M4 ops.toList=true→
    (∀ (i j:Nat) (x y:PI),l[j]?=some x→l[i]?=some y→j<i→((EN ops.toList []).getD i 0).testBit j=false→I8 (x,F.getD j none) (y,F.getD i none))→(Code.region id ops true).wpIn (Wr ro) 0 P Q a w:=by
   intro F Y hs he c4 c5 hp;subst he
   obtain⟨k1,k2,k3⟩:=tn (l:=l) (bad:=none) a6 (F:=F) (by simp[Y,b1]) (fun p q i j kh hi hj hm _=>by
    have k0:=(Ac.1 hi).1;grind)
   refine wpIn_region_any c4 (Yi5 hT hY hl c5 k1 k2 hQ ops.size _ s a _ (by simp) h0 cg ?_ hR.drew);grind
  split at I
  case isFalse=>
   simp only[C3]at I;subst I;simp[PC.exec]at E
  rename_i hc;simp only[Af]at hc
  have dh:∀ (x y:Nat) (keep:List Nat) (q1 q2:List (PI×Bool×List Nat)),MV (EN ops.toList []) l (some (x,y)) (CI ops.size)=some q1→MV (EN ops.toList []) l (some (y,x)) (K8 (EN ops.toList []) ops.size x y)=some q2→
    Oq ops.size (K8 (EN ops.toList []) ops.size x y)=true→x≠y→(∀ k,k=x∨k=y→k<ops.size)→PC.exec G T fuel (.any2 keep q1 q2) s=some (e,s')→(Code.region id ops true).wpIn (Wr ro) 0 P Q a w:=by
   intro x y keep q1 q2 b2 b3 O b4 bd N;simp only[PC.exec]at N
   split at N
   case h_2=>cases N
   rename_i s1 s2 J be;simp only[Dv,Dk]at N;obtain⟨s3,N,rfl,rfl⟩:=N;unfold ZM at N
   split at N
   case isFalse=>cases N
   rename_i ca;obtain⟨k4,k5,heq⟩:=ca;simp only[C3]at N;subst N
   have hk:st0.length≤s.st.length:=by
    obtain⟨g,hg⟩:=hR;exact hg.go1.evo.len
   have alt:∀ (bad:Nat×Nat) (ord:List Nat) (q:List (PI×Bool×List Nat)) (sq:PS),Oq ops.size ord=true→MV (EN ops.toList []) l (some bad) ord=some q→GV G T q [] s=some sq→
     ∃ Z,ON (EN ops.toList []) l ops.size (some bad) Z∧(∀ z∈Z,z.1<ops.size)∧Hv G T (GY l (FK (CN ops.size false) Z)) s sq:=by
    intro bad ord q sq ho hq d0;obtain⟨p1,p2,p3⟩:=yN0 hq;obtain⟨F,Y,hr,a7⟩:=Xg q [] s sq d0
    obtain⟨k1,k2,k3⟩:=tn (l:=l) (bad:=some bad) ho (F:=F) (by rw[Y,p1]) (fun p r i j k6 hi hj hm hb=>by
     obtain⟨b,e1,e2⟩:=p3 p i hi;have ch:ord.getD r 0=j:=by simp[Ao,hj]
     by_cases M:(l.getD j default).apart (l.getD i default)=true
     ·exact⟨QU M,.inl M⟩
     ·have bc:r∈Ov (EN ops.toList []) l (some bad) ord p i:=by
       simp only[Ov,A5,AW,ch,hm,Av,Bp,Af,AR,beq_eq_false_iff_ne];grind
      obtain⟨f,g,a1,a2,a3⟩:=a7 p _ e1 r bc
      have a4:F[r]?=some (some f):=by
       grind
      have a6:=e2 r bc;rw[ch]at a6;refine⟨a6,.inr ⟨f,g,?_,?_,a2⟩⟩
      ·grind
      ·grind)
    grind
   obtain⟨Z1,z1,d2,r1⟩:=alt (x,y) _ q1 s1 a6 b2 J;obtain⟨Z2,z2,d3,r2⟩:=alt (y,x) _ q2 s2 O b3 be;refine wpIn_region_any hc.1 (Yi4 hT hY hl hc.2 b4 (bd x (.inl rfl)) z1 z2 d2 d3 (sf1:=s1) (sf2:=s2) ?_ ?_ ops.size _ s a _ (by simp) h0 cg (hu x (bd x (.inl rfl))) (hu y (bd y (.inr rfl))) r1 r2 hR.drew)
   ·intro a' w' a5;exact hQ a' w' (a5.restrictAt keep s.st.length [s.st.length,s.st.length+1] (by omega) hk (by simp) (by simp; omega))
   ·intro a' w' a5;rw[← heq]at hQ;exact hQ a' w' (a5.restrictAt keep s.st.length [s.st.length+1,s.st.length] (by omega) hk (by simp) (by simp; omega))
  split at I
  ·rename_i M;simp only[C3]at I;subst I
   by_cases V:(l.any (Rz il) && Mh (EN ops.toList []) l)=true
   ·simp only[V,if_true,PC.exec]at E;simp only[Af]at V
    split at E
    ·rename_i s1 J;simp only[C3,Dk]at E;obtain⟨rfl,rfl⟩:=E;obtain⟨F,Y,hr⟩:=Xw l s s1 J;refine bb F Y hr rfl hc.1 hc.2 fun i j x y E hy a8 hm=>?_;have U:=bB M E hy a8 hm;exact⟨QU U,.inl U⟩
    ·simp only[Dv,Dk]at E;obtain⟨⟨t,d,s2⟩,E,rfl,rfl⟩:=E;exact wpIn_region_any hc.1 (Yi3 hT hY hl hc.2 M V.2 E hQ _ a _ (by simp) hu hR.drew)
   obtain⟨rfl,hs⟩:=bg l (by simp only[V,if_false,Al]);obtain⟨F,Y,hr⟩:=Xw l s s' hs;refine bb F Y hr rfl hc.1 hc.2 fun i j x y E hy a8 hm=>?_;have U:=bB M E hy a8 hm;exact⟨QU U,.inl U⟩
  ·split at I
   ·rename_i x y aa
    split at I
    case h_2=>
     simp only[C3]at I;subst I;simp[PC.exec]at E
    rename_i keep h' q1 q2 b2 b3
    split at I
    case isFalse=>
     simp only[C3]at I;subst I;simp[PC.exec]at E
    rename_i O;simp only[Af,bne_iff_ne,ne_eq]at O;obtain⟨O,b4⟩:=O;simp only[C3]at I;subst I
    have bd:∀ k,k=x∨k=y→k<ops.size:=by
     intro k hk;simp only[tt]at aa
     split at aa
     ·rename_i p hp;simp only[C3]at aa;subst aa;have bc:(x,y)∈l.zipIdx.flatMap fun yi=>((l.take yi.2).zipIdx.filter fun xj=>xj.1.op.push && yi.1.op.push && !(((EN ops.toList []).getD yi.2 0).testBit xj.2)).map fun xj=>(xj.2,yi.2):=by rw[hp]; simp
      grind
     ·cases aa
    grind
   split at I
   case h_2=>
    simp only[C3]at I;subst I;simp[PC.exec]at E
   rename_i q hq
   have ha:PC.exec G T fuel (.any q) s=some (e,s')→(Code.region id ops true).wpIn (Wr ro) 0 P Q a w:=by
    intro N;simp only[PC.exec]at N
    split at N
    case h_2=>cases N
    rename_i s1 J;simp only[C3,Dk]at N;obtain⟨rfl,rfl⟩:=N;obtain⟨q1,q2,q3⟩:=oY hq;obtain⟨F,Y,hr,a7⟩:=Xg q [] s s1 J;rw[q2]at hr;refine bb F (by rw[Y,q1]) hr rfl hc.1 hc.2 fun i j x y E hy a8 hm=>?_;obtain⟨b,U,h2⟩:=q3 i y hy;have c0:l.getD j default=x:=by simp[Ao,E]
    by_cases M:x.apart y=true
    ·exact⟨QU M,.inl M⟩
    ·have hj:j∈H6 (EN ops.toList []) l i y:=by
      simp only[H6,A5,AW,hm,c0,Av,Bp];grind
     obtain⟨f,g,e1,e2,e3⟩:=a7 i _ U j hj
     have e4:F[j]?=some (some f):=by
      simp_all
     refine⟨by rw[← c0]; exact h2 j hj,.inr ⟨f,g,?_,?_,e2⟩⟩
     ·grind
     ·grind
   split at I
   ·rename_i k7
    split at I
    case h_2=>
     simp only[C3]at I;subst I;simp[PC.exec]at E
    rename_i keep h';simp only[C3]at I;subst I
    have hd:∀ (ps:List (Nat×Nat)),PC.exec G T fuel (Km keep (EN ops.toList []) l ops.size ps) s=some (e,s')→(Code.region id ops true).wpIn (Wr ro) 0 P Q a w:=by
     intro ps
     induction ps with
     |nil=>intro E; simp[Km,PC.exec]at E
     |cons p ps ih=>
      obtain⟨x,y⟩:=p;intro E;unfold Km at E
      split at E
      ·rename_i q1 q2 b2 b3
       split at E
       ·rename_i O;simp only[Af,bne_iff_ne,ne_eq,decide_eq_true_eq]at O;obtain⟨⟨⟨O,b4⟩,k8⟩,k9⟩:=O;rw[PC.exec]at E;grind
       ·exact ih E
      ·exact ih E
    rw[PC.exec]at E;grind
   split at I
   ·rename_i c1;simp only[Af]at c1;simp only[C3]at I;subst I;obtain⟨d5,o1,o2⟩:=ySh c1.2;generalize YG il l=i0 at*;unfold VB at E;rw[PC.exec]at E
    split at E
    ·grind
    ·simp only[PC.exec]at E
     cases J:GV G T (q.take i0) [] s with
     |none=>simp[J]at E
     |some s1=>
      simp only[J,EK,Je]at E
      cases be:(l.getD i0 default).exec G T s1 with
      |some s2=>simp only[be,reduceCtorEq]at E
      |none=>
       simp only[be]at E
       cases b7:(l.getD i0 default).execX G T s1 with
       |none=>simp only[b7,Option.map_none,reduceCtorEq]at E
       |some r3=>
        obtain⟨t,d,s3⟩:=r3;simp only[b7,Ah,C3,Dk]at E;obtain⟨rfl,rfl⟩:=E;obtain⟨q1,q2,q3⟩:=oY hq;obtain⟨F,Y,hr,a7⟩:=Xg _ [] s s1 J;have d6:F.length=i0:=by rw[Y,AQ]; omega
        have d7:(q.take i0).map (·.1)=l.take i0:=by rw[B1,q2]
        rw[d7]at hr;refine wpIn_region_any hc.1 (nB hT hY hl hc.2 d5 o1 o2 d6 (fun i j a8 hi hm=>?_) hr b7 hQ _ a _ (by simp) hu hR.drew);have d8:l[i]?=some (l.getD i default):=by simp[Ao,show i<l.length by omega]
        obtain⟨b,U,h2⟩:=q3 i _ d8
        by_cases M:(l.getD j default).apart (l.getD i default)=true
        ·exact⟨QU M,.inl M⟩
        ·have hj:j∈H6 (EN ops.toList []) l i (l.getD i default):=by
          simp only[H6,A5,AW,hm,Av,Bp];grind
         have d9:(q.take i0)[i]?=some (l.getD i default,b,H6 (EN ops.toList []) l i (l.getD i default)):=by
          grind
         obtain⟨f,g,e1,e2,e3⟩:=a7 i _ d9 j hj
         have e4:F[j]?=some (some f):=by
          grind
         refine⟨h2 j hj,.inr ⟨f,g,?_,?_,e2⟩⟩
         ·grind
         ·grind
   ·grind
theorem oG{n:Int}(h:recAt st k=some n):∃ o,st[k]?=some o∧o.row=false∧o.sz=1000003∧o.els=[.int .i64 n]:=by
 unfold recAt at h;grind
theorem SR.recAt{base:Nat}(h:SR base w g st)(I:st[k]?=some o)(J:o.row=false)(E:o.sz=1000003):Zu base w (g.β k) o:=
 (h.mp k o I (by simp[Obj.isMap,J,E])).rec' E
theorem Go1.recO{base:Nat}(h:Go1 base w g st w' g' st')(E:st[k]?=some o)(I:o.row=false)(J:o.sz=1000003) :
  g'.β k=g.β k∧∃ o',st'[k]?=some o'∧o'.row=false∧o'.sz=1000003:=by
 obtain⟨o',M,N,O,_,_,U⟩:=h.evo k o E;grind
theorem yD{l:Nat}{x:Go.Obj}:Beside w (w.putObj l x):=⟨rfl,rfl,rfl,by rw[World.putObj_size]; exact AE _⟩
theorem Go1.putRec{base:Nat}(h:SR base w g st){l:Nat}{r:Loop}{n:Int}{s:_}{p:Option Code}(hk:st[k]?=some o)(E:o.row=false)(I:o.sz=1000003)
  (hl:g.β k=l) (J:w.heap[l]?=some (.loop r)) (M:n=0→s=.ready∧p=none) (N:n=1→s=.done∧p=some .ret) :
  Go1 base w g st (w.putObj l (.loop {r with state:=s,pending:=p})) g (st.set k (PI.recO n)):=by
 subst hl;exact h.updRec (s:=s) (p:=p) hk E I yD (fun b hb=>World.putObj_heap_other hb) J (World.putObj_heap_same (AG.1 J).1) M N
theorem Na(hT:TblOK P G T):∀ (c:Code) (ro:Option Nat) (_:ro=none∨IV c=true) (w0:World) (g0:Ghost) (st0:St) (dl:List Deferred) (_:YOK P G T.y base w0 g0 st0) (_:base≤w0.heap.size) (h:List (List Nat)) (r:PC×List (List Nat)),Hi P il n h c=some r→∀ (fuel:Nat) (s s':PS) (e:Ex),r.1.exec G T fuel s=some (e,s')→
  ∀ (a:Act) (w:World) (Q:Exit→Act→World→Prop),R G base n w0 g0 st0 dl s a w→(∀ a' w',R G base n w0 g0 st0 dl s' a' w'→Q (Ld e) a' w')→c.wpIn (Wr ro) 0 P Q a w:=by
 intro c
 induction c with
 |skip=>
  intro ro hro w0 g0 st0 dl hY hb0 h r ht fuel s s' e hx a w Q hR hQ;simp only[Hi,C3]at ht; subst ht;simp only[PC.exec,C3,Dk]at hx;obtain⟨rfl,rfl⟩:=hx;exact wpIn_skip (hQ a w hR)
 |exit id=>
  intro ro hro w0 g0 st0 dl hY hb0 h r ht fuel s s' e hx a w Q hR hQ;simp only[Hi,C3]at ht; subst ht;simp only[PC.exec,C3,Dk]at hx;obtain⟨rfl,rfl⟩:=hx;exact wpIn_exit (hQ a w hR)
 |ret=>
  intro ro hro w0 g0 st0 dl hY hb0 h r ht fuel s s' e hx a w Q hR hQ;simp only[Hi,C3]at ht; subst ht;simp only[PC.exec,C3,Dk]at hx;obtain⟨rfl,rfl⟩:=hx;exact wpIn_ret (hQ a w hR)
 |region id ops draw=>
  intro ro hro w0 g0 st0 dl hY hb0 h r ht fuel s s' e hx a w Q hR hQ;exact wy hT hY ht hx hR hQ
 |seq x y ihx ihy=>
  intro ro hro w0 g0 st0 dl hY hb0 h r ht fuel s s' e hx a w Q hR hQ;unfold Hi at ht
  split at ht
  case h_2=>cases ht
  rename_i px h1 hx1
  split at ht
  case h_2=>cases ht
  rename_i py h2 hy1;simp only[C3]at ht; subst ht;simp only[PC.exec]at hx;refine wpIn_seq ?_
  split at hx
  ·rename_i s1 hs1;exact ihx ro (hro.imp (fun h=>h) fun h=>by simp only[IV,Af]at h; exact h.1) w0 g0 st0 dl hY hb0 _ _ hx1 fuel s s1 .next hs1 a w _ hR fun a' w' hR'=>ihy ro (hro.imp (fun h=>h) fun h=>by simp only[IV,Af]at h; exact h.2) w0 g0 st0 dl hY hb0 _ _ hy1 fuel s1 s' e hx a' w' Q hR' hQ
  ·rename_i e1 s1 hne hs1;simp only[C3,Dk]at hx;obtain⟨rfl,rfl⟩:=hx;refine ihx ro (hro.imp (fun h=>h) fun h=>by simp only[IV,Af]at h; exact h.1) w0 g0 st0 dl hY hb0 _ _ hx1 fuel s _ _ hs1 a w _ hR fun a' w' hR'=>?_
   cases e1 with
   |next=>exact(hne rfl).elim
   |exit id=>exact hQ a' w' hR'
   |ret=>exact hQ a' w' hR'
   |panic t d=>exact hQ a' w' hR'
  ·cases hx
 |cond c x y ihx ihy=>
  intro ro hro w0 g0 st0 dl hY hb0 h r ht fuel s s' e hx a w Q hR hQ;unfold Hi at ht
  split at ht
  case h_2=>cases ht
  rename_i pa hpa
  split at ht
  case h_2=>cases ht
  rename_i px h1 hx1
  split at ht
  case h_2=>cases ht
  rename_i py h2 hy1;simp only[C3]at ht; subst ht;simp only[PC.exec]at hx;obtain⟨g,hg⟩:=id hR;have hc:=F2 (G:=G) hg.gl hg.fr hpa
  split at hx
  ·rename_i hb;rw[hb]at hc;exact wpIn_cond_true (KU hc) (ihx ro (hro.imp (fun h=>h) fun h=>by simp only[IV,Af]at h; exact h.1) w0 g0 st0 dl hY hb0 _ _ hx1 fuel s s' e hx a w Q hR hQ)
  ·rename_i hb;rw[hb]at hc;exact wpIn_cond_false (KU hc) (ihy ro (hro.imp (fun h=>h) fun h=>by simp only[IV,Af]at h; exact h.2) w0 g0 st0 dl hY hb0 _ _ hy1 fuel s s' e hx a w Q hR hQ)
  ·cases hx
 |block id c ih=>
  intro ro hro w0 g0 st0 dl hY hb0 h r ht fuel s s' e hx a w Q hR hQ;unfold Hi at ht
  split at ht
  case h_2=>cases ht
  rename_i px h1 hx1;simp only[C3]at ht; subst ht;simp only[PC.exec]at hx;refine wpIn_block ?_
  split at hx
  ·rename_i id' s1 hs1;refine ih ro (hro.imp (fun h=>h) fun h=>by simpa only[IV]using h) w0 g0 st0 dl hY hb0 _ _ hx1 fuel s s1 _ hs1 a w _ hR fun a' w' hR'=>?_
   split at hx
   ·rename_i he;simp only[C3,Dk]at hx;obtain⟨rfl,rfl⟩:=hx;simpa[Ld,Exit.inBlock,he]using hQ a' w' hR'
   ·rename_i he;simp only[C3,Dk]at hx;obtain⟨rfl,rfl⟩:=hx;simpa[Ld,Exit.inBlock,he]using hQ a' w' hR'
  ·rename_i e1 s1 hne hs1;simp only[C3,Dk]at hx;obtain⟨rfl,rfl⟩:=hx;refine ih ro (hro.imp (fun h=>h) fun h=>by simpa only[IV]using h) w0 g0 st0 dl hY hb0 _ _ hx1 fuel s _ _ hs1 a w _ hR fun a' w' hR'=>?_
   cases e1 with
   |next=>exact hQ a' w' hR'
   |exit id=>exact(hne _ rfl).elim
   |ret=>exact hQ a' w' hR'
   |panic t d=>exact hQ a' w' hR'
  ·cases hx
 |loop c ih=>
  intro ro hro w0 g0 st0 dl hY hb0 h r ht fuel s s' e hx a w Q hR hQ;unfold Hi at ht
  split at ht
  case h_2=>cases ht
  rename_i keep h'
  split at ht
  case h_2=>cases ht
  rename_i px h1 hx1;simp only[C3]at ht; subst ht
  have hk:st0.length≤s.st.length:=by
   obtain⟨g,hg⟩:=hR;exact hg.go1.evo.len
  obtain⟨cut,hcut,hx⟩:∃ cut:PS→PS,(∀ s a w,R G base n w0 g0 st0 dl s a w→R G base n w0 g0 st0 dl (cut s) a w)∧Jr (px.exec G T fuel) cut fuel s=some (e,s'):=by
   split at hx
   ·exact⟨keepAll keep.tail,fun _ _ _ h=>h.keepAll _,by simpa only[PC.exec]using hx⟩
   ·exact⟨PI.restrict keep s.st.length,fun _ _ _ h=>h.restrict _ _ hk,by simpa only[PC.exec]using hx⟩
  refine wpIn_loop_ghost (fun m a w=>∃ s1,Jr (px.exec G T fuel) (cut) m s1=some (e,s')∧R G base n w0 g0 st0 dl s1 a w) fuel ⟨s,hx,hR⟩ ?_;rintro m a w ⟨s1,hl,hR1⟩
  cases m with
  |zero=>simp[Jr]at hl
  |succ m=>
   simp only[Jr]at hl
   split at hl
   ·rename_i s2 hs2;exact ih ro (hro.imp (fun h=>h) fun h=>by simpa only[IV]using h) w0 g0 st0 dl hY hb0 _ _ hx1 fuel _ s2 .next hs2 a w _ (hcut _ _ _ hR1) fun a' w' hR'=>⟨m,Cu m,s2,hl,hR'⟩
   ·rename_i e1 s2 hne hs2;simp only[C3,Dk]at hl;obtain⟨rfl,rfl⟩:=hl;refine ih ro (hro.imp (fun h=>h) fun h=>by simpa only[IV]using h) w0 g0 st0 dl hY hb0 _ _ hx1 fuel _ _ _ hs2 a w _ (hcut _ _ _ hR1) fun a' w' hR'=>?_
    cases e1 with
    |next=>exact(hne rfl).elim
    |exit id=>exact hQ a' w' hR'
    |ret=>exact hQ a' w' hR'
    |panic t d=>exact hQ a' w' hR'
   ·cases hl
 |rangeFunc gf ps asg body iha ihb=>
  intro ro hro w0 g0 st0 dl hY hb0 h r ht fuel s s' e hx a w Q hR hQ;unfold Hi at ht
  split at ht
  case h_2=>cases ht
  rename_i pa hpa
  split at ht
  case h_2=>cases ht
  rename_i pca h1 hx1
  split at ht
  case h_2=>cases ht
  rename_i pcb h2 hy1
  split at ht
  case isFalse=>
   simp only[C3]at ht; subst ht;simp[PC.exec]at hx
  rename_i hc;simp only[Af]at hc;obtain⟨⟨hna,hnb⟩,hps⟩:=hc;simp only[C3]at ht; subst ht;obtain rfl:ro=none:=hro.resolve_right (by simp[IV]);simp only[PC.exec,Ay,Dv,Dk]at hx;obtain⟨st'',hrr,e0,hex,rfl,rfl⟩:=hx;unfold eM at hrr
  split at hrr
  case h_2=>cases hrr
  rename_i f caps hclo
  split at hrr
  case isFalse=>cases hrr
  rename_i hlt
  split at hrr
  case h_2=>cases hrr
  rename_i sp hsp;simp only[Dv,Prod.exists]at hrr;obtain⟨dr,st3,hrun,rfl⟩:=hrr;obtain⟨g,hg⟩:=hR;have hrep:=F2 (G:=G) hg.gl hg.fr hpa;rw[hclo]at hrep;generalize hxv:a.eval gf=xv at hrep
  cases hrep with
  |clo _ _ us hlen hus=>
   rw[Qr hlt,WO hlt,Ww hlt]at hxv;obtain⟨⟨fn,hfn,hbody,hname⟩,hcon⟩:=hT.r f sp hsp;refine wpIn_rangeFunc fun fnid _=>?_
   -- the two new blocks
   have hlw:w.heap.size+1=(w.alloc (.deferred (some []))).heap.size:=by rw[World.size_alloc]
   generalize hrec:({state:=.ready,pending:=none,fn:=fnid,tmps:=a.tmps,params:=ps,assign:=asg,body:=body,defers:=w.heap.size}:Loop)=rec;generalize hw1:((w.alloc (.deferred (some []))).alloc (.loop rec))=w1;have hs1:w1.heap.size=w.heap.size+2:=by rw[← hw1,World.size_alloc,World.size_alloc]
   have hold:∀ b,b<w.heap.size→w1.heap[b]?=w.heap[b]?:=by
    intro b hb;rw[← hw1]
    show((w.heap.push (.deferred (some []))).push (.loop rec))[b]?=_
    grind
   have hD:w1.heap[w.heap.size]?=some (.deferred (some [])):=by
    rw[← hw1]
    show((w.heap.push (.deferred (some []))).push (.loop rec))[w.heap.size]?=_
    grind
   have hL:w1.heap[w.heap.size+1]?=some (.loop rec):=by
    rw[← hw1]
    show((w.heap.push (.deferred (some []))).push (.loop rec))[w.heap.size+1]?=_
    grind
   have hready:rec.state=.ready∧rec.pending=none:=by rw[← hrec]; exact⟨rfl,rfl⟩
   have hgo1:Go1 base w g s.st w1 {g with β:=Fk g.β s.st.length (w.heap.size+1)} (s.st++[recO 0]):=by
    have hbes:Beside w w1:=by rw[← hw1]; exact⟨rfl,rfl,rfl,by rw[World.size_alloc,World.size_alloc]; omega⟩
    exact hg.sr.pushRec (by omega) hbes hold hL hready
   generalize hg1:({g with β:=Fk g.β s.st.length (w.heap.size+1)}:Ghost)=g1 at hgo1;have hβ1:g1.β s.st.length=w.heap.size+1:=by rw[← hg1]; exact HD _ _ _
   have Dp:(s.st++[recO 0])[s.st.length]?=some (recO 0):=by simp
   have henter:(Instr.enterLoop fnid a.tmps ps asg body (Wr none).round).run P w=.ok (w.heap.size+1,[{target:=.collected w.heap.size,args:=#[]}]) w1:=by
    rw[← hw1,← hrec];exact run_enterLoop_outer fnid a.tmps ps asg body
   refine⟨w.heap.size+1,[{target:=.collected w.heap.size,args:=#[]}],w1,{target:=.fn (.func f) us.toArray,args:=#[.func (.yield (w.heap.size+1)) #[] #[]]},w1,f,(Value.func (.yield (w.heap.size+1)) #[] #[]::us).toArray,w1,henter,?_,fun _ _=>trivial,?_,(fun e=>by cases e),?_⟩
   ·have hk:∀ v,a.eval (.const v)=v:=fun _=>rfl;simp[resolve,hxv,Deferred.ofValue,hk]
   ·have hbn:¬ fn.body=none:=by
     grind
    have hn':¬ fn.name= "runtime.NumGoroutine":=by simpa using hname
    simp[invoke,callFunc,hfn,hn',hbn]
   ·refine CallsIn.mono (callsIn_wide.2 (hcon base w1 g1 (s.st++[recO 0]) st3 caps us dr (w.heap.size+1) _ ?_ hrun hgo1.sr (hg.gl.mono hgo1.im) hlen (fun i d v hd hv=>hgo1.rep (hus i d v hd hv)))) ?_
    ·
     intro l' w2 g2 st2 st2' ds vs d2 hgo2 hG2 hy hl2 hr2
     replace hy:(if l'=w.heap.size+1 then YL (PC.exec G T fuel pca) (PC.exec G T fuel pcb) s.fr ps.toList s.st.length ds st2 else none)=some (d2,st2'):=hy
     split at hy
     case isFalse=>cases hy
     rename_i hll;subst hll;unfold YL at hy
     split at hy
     case isFalse=>cases hy
     rename_i hdl
     split at hy
     case h_2=>cases hy
     rename_i sa hsa
     split at hy
     case isFalse=>cases hy
     rename_i hrec0;obtain⟨s2,p2,hL2⟩:=(hgo2.kp _ _ hL rfl).loop;have hpsz:ps.size=vs.length:=by rw[← hl2,hdl]; simp
     refine⟨fnid,_,asg,body,by rw[run_yield hL2 (by rw[← hrec]; simp[hpsz]),← hrec],?_⟩;have hYw2:YOK P G T.y base w2 g2 st2:=hY.mono (hg.go1.trans (hgo1.trans hgo2));have hbl:base≤w.heap.size:=hg.sr.size
     have hfold:(ps.zip vs.toArray).foldl (fun tmps x=>tmps.setIfInBounds x.1 x.2) a.tmps=(ps.toList.zip vs).foldl (fun tmps p=>tmps.setIfInBounds p.1 p.2) a.tmps:=by
      rw[← Cm]; simp
     refine roundIn_of_wpIn trivial ?_
     show asg.wpIn (Wr (some (w.heap.size+1))) 0 P _ _ w2
     refine iha (some (w.heap.size+1)) (.inr hna) w2 g2 st2 [] hYw2 (AS hbl (AS (by omega) (hgo1.trans hgo2).below.size)) _ _ hx1 fuel _ sa .next hsa _ w2 _ ⟨g2,Go1.refl hgo2.sr,?_,hG2,⟨[],rfl,trivial⟩,?_⟩ ?_
     ·have hF2:FR w2 g2 st2 s.fr a:=hg.fr.mono (hgo1.trans hgo2).im (hgo1.trans hgo2).evo
      have:=lG (x:=[]) ps.toList ds vs s.fr a.tmps (by simpa using hdl) hl2 (fun p hp=>by
       have:=Aj.1 hps p hp;have:=of_decide_eq_true this;exact AY this hg.sz) hF2 hr2
      grind
     ·have:=jr (ps.toList.zip vs) a.tmps;rw[← hfold]at this;exact AS hg.sz (Nat.le_of_eq this.symm)
     ·rintro a3 w3 ⟨g3,h3⟩;have hgo13:=hgo2.trans h3.go1;obtain⟨o3,ho3,hro3,hso3,hels3⟩:=oG hrec0;have hβ3:g3.β s.st.length=w.heap.size+1:=(hgo13.recO Dp rfl rfl).1.trans hβ1;obtain⟨r3,n3,hb3,_,hn3,hz3,_⟩:=h3.go1.sr.recAt ho3 hro3 hso3;rw[hβ3]at hb3;rw[hels3]at hn3;have hn0:n3=0:=by simpa using hn3.symm
      have hready3:r3.state=.ready:=(hz3 hn0).1;refine⟨_,run_beginRound hb3 hready3,?_⟩;have hgo4:=Go1.putRec (n:=2) (s:=.busy) (p:=r3.pending) h3.go1.sr ho3 hro3 hso3 hβ3 hb3 (fun e=>by cases e) (fun e=>by cases e);have hlt3:w.heap.size+1<w3.heap.size:=(AG.1 hb3).1
      show body.wpIn (Wr (some (w.heap.size+1))) 0 P _ _ (w3.putObj (w.heap.size+1) (.loop {r3 with state:=.busy,pending:=r3.pending}))
      generalize hw4:w3.putObj (w.heap.size+1) (.loop {r3 with state:=.busy,pending:=r3.pending})=w4 at hgo4;have hgo04:=hg.go1.trans (hgo1.trans (hgo13.trans hgo4))
      have hk4:(sa.st.set s.st.length (recO 2))[s.st.length]?=some (recO 2):=by
       grind
      -- the body's end,and what is said of the record
      have fin:∀ (sb:PS) (a5:Act) (w5:World) (nn:Int) (jump:Option Code) (b:Bool),R G base n w4 g3 (sa.st.set s.st.length (recO 2)) a3.defers sb a5 w5→b=jump.isNone→(nn=0→jump=none)→(nn=1→jump=some .ret)→
        ∃ v w',(Instr.endRound (w.heap.size+1) jump).run P w5=.ok v w'∧∃ v' g',(Ending.returned v:Ending)=.returned v'∧Go1 base w2 g2 st2 w' g' (sb.st.set s.st.length (recO nn))∧RepV w' g' (sb.st.set s.st.length (recO nn)) (.bool b) v':=by
       rintro sb a5 w5 nn jump b ⟨g5,h5⟩ hb hj0 hj1;obtain⟨hβ5,o5,ho5,hro5,hso5⟩:=h5.go1.recO hk4 rfl rfl;obtain⟨r5,n5,hb5,_⟩:=h5.go1.sr.recAt ho5 hro5 hso5;rw[hβ5,hβ3]at hb5
       have hgo6:=Go1.putRec (n:=nn) (s:=if jump.isNone then .ready else .done) (p:=jump) h5.go1.sr ho5 hro5 hso5 (hβ5.trans hβ3) hb5
        (fun e=>by rw[hj0 e]; exact⟨rfl,rfl⟩) (fun e=>by rw[hj1 e]; exact⟨rfl,rfl⟩)
       refine⟨_,_,run_endRound jump hb5,.bool jump.isNone,g5,rfl,h3.go1.trans (hgo4.trans (h5.go1.trans hgo6)),?_⟩;rw[hb]; exact .bool _
      split at hy
      ·rename_i sb hsb;simp only[C3,Dk]at hy;obtain⟨rfl,rfl⟩:=hy;refine ihb (some (w.heap.size+1)) (.inr hnb) w4 g3 _ a3.defers (hY.mono hgo04) (AS hb0 hgo04.below.size) _ _ hy1 fuel _ sb .next hsb _ w4 _ ⟨g3,Go1.refl hgo4.sr,h3.fr.mono hgo4.im hgo4.evo,h3.gl.mono hgo4.im,⟨[],rfl,trivial⟩,h3.sz⟩ ?_
       exact fun a5 w5 h5=>fin sb a5 w5 0 none true h5 rfl (fun _=>rfl) (fun e=>by cases e)
      ·rename_i sb hsb;simp only[C3,Dk]at hy;obtain⟨rfl,rfl⟩:=hy;refine ihb (some (w.heap.size+1)) (.inr hnb) w4 g3 _ a3.defers (hY.mono hgo04) (AS hb0 hgo04.below.size) _ _ hy1 fuel _ sb .ret hsb _ w4 _ ⟨g3,Go1.refl hgo4.sr,h3.fr.mono hgo4.im hgo4.evo,h3.gl.mono hgo4.im,⟨[],rfl,trivial⟩,h3.sz⟩ ?_;exact fun a5 w5 h5=>fin sb a5 w5 1 (some .ret) false h5 rfl (fun e=>by cases e) (fun _=>rfl)
      ·cases hy
    ·rintro e w3 ⟨v,g3,rfl,hgo3,_⟩;obtain⟨hβ3,_⟩:=hgo3.recO Dp rfl rfl;rw[hβ1]at hβ3;have hD3:w3.heap[w.heap.size]?=some (.deferred (some [])):=(hgo3.kp _ _ hD rfl).def';have hbl:base≤w.heap.size:=hg.sr.size;unfold gW at hex
     split at hex
     case h_2=>cases hex
     rename_i n3 hrec3;obtain⟨o3,ho3,hro3,hso3,hels3⟩:=oG hrec3;obtain⟨r3,n3',hb3,_,hn3,hz3,ho1⟩:=hgo3.sr.recAt ho3 hro3 hso3;rw[hβ3]at hb3;rw[hels3]at hn3;have hn0:n3'=n3:=by simpa using hn3.symm
     subst hn0
     have hnb3:r3.state≠.busy:=by
      grind
     have hgo4':=Go1.putRec (n:=2) (s:=.exhausted) (p:=r3.pending) hgo3.sr ho3 hro3 hso3 hβ3 hb3 (fun e=>by cases e) (fun e=>by cases e);have hgo4:=hgo1.trans (hgo3.trans hgo4')
     have hRn:R G base n w0 g0 st0 dl ⟨s.fr,st3.set s.st.length (recO 2)⟩ {a with defers:=[{target:=.collected w.heap.size,args:=#[]}]++a.defers} (w3.putObj (w.heap.size+1) (.loop {r3 with state:=.exhausted,pending:=r3.pending})):=by
      refine⟨g3,hg.go1.trans hgo4,hg.fr.mono hgo4.im hgo4.evo,hg.gl.mono hgo4.im,?_,hg.sz⟩;obtain⟨dd,hd1,hd2⟩:=hg.df;refine⟨{target:=.collected w.heap.size,args:=#[]}::dd,by simp[hd1],⟨w.heap.size,rfl,?_,?_,?_⟩,hd2.mono hgo4.kp⟩
      ·rw[World.putObj_heap_other (by omega)]; exact hD3
      ·have:=hg.go1.below.size;grind
      ·intro d' hd' e;obtain⟨D',h1,h2⟩:=hd2.mem hd';grind
     refine⟨r3.pending,_,run_endLoop hb3 hnb3,?_⟩
     split at hex
     ·rename_i e;obtain rfl:=AD hex;have hp:=(hz3 e).2;rw[hp];have:=hQ _ _ hRn;rw[hp]at this;simpa[Ld]using this
     ·split at hex
      ·rename_i e;obtain rfl:=AD hex;have hp:=(ho1 e).2;rw[hp];have:=hQ _ _ hRn;rw[hp]at this;exact wpIn_ret (by simpa[Ld]using this)
      ·cases hex
 |_=>
  intro ro hro w0 g0 st0 dl hY hb0 h r ht fuel s s' e hx;simp only[Hi,C3]at ht; subst ht;simp[PC.exec]at hx
theorem zQ{t:TypeId}{u:Value}(h:(Instr.loadAt t v).run P w=.ok u w):(do loadVar t (← asAddr v):Sem Value).run P w=.ok u w:=by
 cases v with
 |pointer a=>
  cases a with
  |none=>simp[Instr.loadAt,Instr.sureAddr]at h
  |some a=>simpa[Instr.loadAt,Instr.sureAddr,asAddr]using h
 |_=>simp[Instr.loadAt,Instr.sureAddr]at h
def S9(tmps:Array Value):ResultVar→Sem Value
 |.tmp t=>pure (tmps.getD t undef)
 |.cell a t=>do loadVar t (← asAddr (tmps.getD a undef))
theorem fF{s:PS}:∀ {l:List PRes} {ys:List D},Fo s l=some ys→∃ ds,DK s l=some ds∧D0 s.st ds=some ys
 |[],ys,h=>by simp[Fo]at h; subst h; exact⟨[],rfl,rfl⟩
 |r::l,ys,h=>by
  unfold Fo at h
  split at h
  case h_2=>cases h
  rename_i x y E M;simp only[C3]at h; subst h;obtain⟨ds,I,J⟩:=fF M
  cases r with
  |tmp t=>
   exact⟨s.fr t::ds,by simp[DK,I],by simp only[PRes.get]at E; simp[D0,E,J]⟩
  |cell t n ag=>
   simp only[PRes.get]at E
   split at E
   ·rename_i d N;exact⟨d::ds,by simp[DK,N,I],by simp[D0,E,J]⟩
   ·cases E
theorem Qx{s:PS}{a:Act}{w:World}{g:Ghost}(N:SR base w g s.st)(J:FR w g s.st s.fr a):∀ {rs:List ResultVar} {l:List PRes} {ds:List D},Nu P rs=some l→DK s l=some ds→
  ∃ vs:List Value,ds.length=vs.length∧(∀ (i:Nat) d v,ds[i]?=some d→vs[i]?=some v→RepV w g s.st d v)∧
   (rs.mapM (S9 a.tmps)).run P w=.ok vs w
 |[],l,ds,E,I=>by
  simp[Nu]at E; subst E;simp[DK]at I; subst I;simp_all
 |.tmp t::rs,l,ds,E,I=>by
  simp only[Nu,Dv]at E;obtain⟨l',O,rfl⟩:=E;simp only[DK,Dv]at I;obtain⟨ae,h2,rfl⟩:=I;obtain⟨vs,U,V,Y⟩:=Qx N J O h2;refine⟨a.tmps.getD t undef::vs,by simp[U],?_,?_⟩
  ·intro i d v M hv
   cases i with
   |zero=>simp only[AH,C3]at M hv; subst M; subst hv; exact J t
   |succ i=>simp only[Bo]at M hv; exact V i d v M hv
  ·simp only[Bs,S9,Sem.run_bind,Sem.run_pure,Result.andThen_ok,Y]
 |.cell b t::rs,l,ds,E,I=>by
  unfold Nu at E
  split at E
  case h_2=>cases E
  rename_i n ag l' hn ha O;simp only[C3]at E; subst E;unfold DK at I
  split at I
  case h_2=>cases I
  rename_i x y hx hy;simp only[C3]at I; subst I;obtain⟨vs,U,V,Y⟩:=Qx N J O hy;obtain⟨u,u1,u2⟩:=oF N ha hn hx (J b);refine⟨u::vs,by simp[U],?_,?_⟩
  ·grind
  ·have u3:=zQ u1;simp only[Bs];rw[Sem.run_bind,show(S9 a.tmps (.cell b t)).run P w=.ok u w from u3];simp_all
def ZC:List Value→Value
 |[v]=>v
 |vs=>.tuple vs.toArray
theorem Xf{tmps:Array Value}
  (h:(fn.results.toList.mapM (S9 tmps)).run P w=.ok vs w) :
  (results fn tmps).run P w=.ok (ZC vs) w:=by
 have E:results fn tmps=(do let vs ← fn.results.mapM (S9 tmps); pure (if h:vs.size=1 then vs[0]else .tuple vs)):=rfl;rw[E,Sem.run_bind,Array.mapM_eq_mapM_toList];rw[Sem.run_map,h];simp only[Result.andThen_ok,Sem.run_pure]
 match vs with
 |[]=>rfl
 |[v]=>rfl
 |_::_::_=>simp[ZC]
theorem RR(hl:ds.length=vs.length)(h:∀ (i:Nat) d v,ds[i]?=some d→vs[i]?=some v→RepV w g st d v) :
  RepV w g st (DC ds) (ZC vs):=by
 match ds,vs,hl with
 |[],[],_=>exact .tup [] [] rfl h
 |[d],[v],_=>exact h 0 d v rfl rfl
 |_::_::_,_::_::_,hl=>exact .tup _ _ hl h
theorem VW(h:∀ d∈ds,purA d=true):purR (DC ds)=true:=by
 match ds with
 |[]=>rfl
 |[d]=>
  have:=h d (by simp);simp only[DC]
  cases d with
  |tup l=>simp[purA,D.pure1]at this
  |_=>exact this
 |x::y::l=>
  simp only[DC,purR,Aj];exact h
theorem Sp{fn:Func}{R:Ending→World→Prop}(I:base≤w0.heap.size){s:PS}{a:Act}{g:Ghost}:∀ (ds:List Deferred) (w:World),Go1 base w0 g0 st0 w g s.st→FR w g s.st s.fr a→DfOK w0 w ds→
  (∀ w',Go1 base w0 g0 st0 w' g s.st→FR w' g s.st s.fr a→∃ v,(results fn a.tmps).run P w'=.ok v w'∧R (.returned v) w')→LeavesInM Fence.wide 0 P fn a.tmps R ds .returning w
 |[],w,E,J,_,h=>h w E J
 |d::ds,w,E,J,⟨⟨D,h1,O,h3,h4⟩,h5⟩,h=>by
  subst h1;refine⟨by simp,.inl ⟨D,_,rfl,run_takeDeferred O,?_⟩⟩
  have U:w0.heap.size≤D:=by
   grind
  have M:=GoX.put (o':=.deferred none) E.sr O rfl ⟨_,rfl⟩ (AS I U);refine Sp I ds _ (((E.x D).trans M).fin (fun o V=>by rw[h3]at V; cases V)) (J.mono M.im M.evo) ?_ h
  have:∀ (l:List Deferred),(∀ N∈l,N≠{target:=.collected D,args:=#[]})→DfOK w0 w l→DfOK w0 (w.putObj D (.deferred none)) l:=by
   intro l
   induction l with
   |nil=>exact fun _ _=>trivial
   |cons d l ih=>
    rintro Y ⟨⟨D',e1,e2,e3,e4⟩,e5⟩;refine⟨⟨D',e1,?_,e3,e4⟩,ih (fun N aa=>Y N (by simp[aa])) e5⟩;rw[World.putObj_heap_other]
    ·exact e2
    ·grind
  grind
theorem ef(hT:TblOK P G T)(ht:Ds P il f hints=some F)(fuel:Nat):(∃ fn,P.funcs[f]?=some fn∧fn.body.isSome=true∧(fn.name == "runtime.NumGoroutine")=false)∧
  ∀ (base:Nat) (w:World) (g:Ghost) (st st':St) (ds:List D) (vs:List Value) (d:D),YOK P G T.y base w g st→F.runI G T fuel ds st=some (d,st')→SR base w g st→GlobOK G w g→ds.length=vs.length→
   (∀ (i:Nat) d v,ds[i]?=some d→vs[i]?=some v→RepV w g st d v)→Calls P f vs.toArray w fun e w'=>∃ v g',e=.returned v∧Go1 base w g st w' g' st'∧RepV w' g' st' d v:=by
 unfold Ds at ht
 split at ht
 case h_2=>cases ht
 rename_i fn hfn
 split at ht
 case h_2=>cases ht
 rename_i c hc
 split at ht
 case h_2=>cases ht
 rename_i pc hrest res htc htr
 split at ht
 ·cases ht
 rename_i hname;simp only[C3]at ht; subst ht;refine⟨⟨fn,hfn,by rw[hc]; rfl,by simpa using hname⟩,?_⟩;intro base w g st st' ds vs d hY hsp hS hG hlen hrep
 have key:∀ (e:Ex) (s':PS),pc.exec G T fuel {fr:=C4 ds,st}=some (e,s')→((DK s' res).map fun l=>(DC l,s'.st))=some (d,st')→(e=.next∨e=.ret)→
   Calls P f vs.toArray w fun e w'=>∃ v g',e=.returned v∧Go1 base w g st w' g' st'∧RepV w' g' st' d v:=by
  intro e s' hex hget he;refine callsIn_wide.1 (callsIn_of_wp_marks (F:=Fence.wide) (n:=0) hfn hc trivial ?_)
  have hR0:R G base fn.ntmps w g st [] {fr:=C4 ds,st} {tmps:=vs.toArray++CN (fn.ntmps - vs.toArray.size) undef,defers:=[]} w:=by
   refine⟨g,Go1.refl hS,?_,hG,⟨[],rfl,trivial⟩,?_⟩
   ·intro s;simp only[C4];rcases A6 s ds.length with h1 | h1
    ·have h2:s<vs.length:=by omega
     have h3:(vs.toArray++CN (fn.ntmps - vs.toArray.size) undef).getD s undef=vs[s]:=by
      simp[Array.getD,h2];omega
     rw[h3];have:=hrep s ds[s] vs[s] (by simp[h1]) (by simp[h2]);grind
    ·simp[Ao,Bz h1];exact .junk _
   ·simp; omega
  have fin:∀ a' w',R G base fn.ntmps w g st [] s' a' w'→LeavesInM Fence.wide 0 P fn a'.tmps (fun e w'=>∃ v g',e=.returned v∧Go1 base w g st w' g' st'∧RepV w' g' st' d v) a'.defers .returning w':=by
   rintro a' w' ⟨g1,h⟩;obtain⟨dd,hd1,hd2⟩:=h.df;rw[hd1,Ad];refine Sp hS.size dd w' h.go1 h.fr hd2 fun w2 hgo hF=>?_;simp only[Dv,Dk]at hget;obtain⟨xs,hx1,rfl,rfl⟩:=hget;obtain⟨us,e1,e2,e3⟩:=Qx hgo.sr hF htr hx1;exact⟨_,Xf e3,_,g1,rfl,hgo,RR e1 e2⟩
  refine Na hT c none (.inl rfl) w g st [] hY hS.size hints (pc,hrest) htc fuel _ s' e hex _ w _ hR0 ?_;intro a' w' hR';rcases he with rfl | rfl
  ·exact fin a' w' hR'
  ·exact fin a' w' hR'
 simp only[PF.runI]at hsp;grind
theorem bA{fn:Func}{R:Ending→World→Prop}{O:List PanicEntry}(I:base≤w0.heap.size){s:PS}{a:Act}{g:Ghost}(rest:List Deferred):∀ (ds:List Deferred) (w:World),Go1 base w0 g0 st0 w g s.st→FR w g s.st s.fr a→DfOK w0 w ds→
  (∀ w',Go1 base w0 g0 st0 w' g s.st→FR w' g s.st s.fr a→LeavesInM Fence.wide 0 P fn a.tmps R rest (.panicking O) w')→LeavesInM Fence.wide 0 P fn a.tmps R (ds++rest) (.panicking O) w
 |[],w,E,J,_,h=>h w E J
 |d::ds,w,E,J,⟨⟨D,h1,U,h3,h4⟩,h5⟩,h=>by
  subst h1;refine⟨by simp,.inl ⟨D,_,rfl,run_takeDeferred U,?_⟩⟩
  have V:w0.heap.size≤D:=by
   grind
  have M:=GoX.put (o':=.deferred none) E.sr U rfl ⟨_,rfl⟩ (AS I V);refine bA I rest ds _ (((E.x D).trans M).fin (fun o Y=>by rw[h3]at Y; cases Y)) (J.mono M.im M.evo) ?_ h
  have:∀ (l:List Deferred),(∀ N∈l,N≠{target:=.collected D,args:=#[]})→DfOK w0 w l→DfOK w0 (w.putObj D (.deferred none)) l:=by
   intro l
   induction l with
   |nil=>exact fun _ _=>trivial
   |cons d l ih=>
    rintro aa ⟨⟨D',e1,e2,e3,e4⟩,e5⟩;refine⟨⟨D',e1,?_,e3,e4⟩,ih (fun N ab=>aa N (by simp[ab])) e5⟩;rw[World.putObj_heap_other]
    ·exact e2
    ·grind
  grind
theorem pK{fn:Func}{R:Ending→World→Prop}(I:base≤w0.heap.size){s:PS}{a:Act}{g:Ghost}(rest:List Deferred):∀ (ds:List Deferred) (w:World),Go1 base w0 g0 st0 w g s.st→FR w g s.st s.fr a→DfOK w0 w ds→
  (∀ w',Go1 base w0 g0 st0 w' g s.st→FR w' g s.st s.fr a→LeavesInM Fence.wide 0 P fn a.tmps R rest .returning w')→LeavesInM Fence.wide 0 P fn a.tmps R (ds++rest) .returning w
 |[],w,E,J,_,h=>h w E J
 |d::ds,w,E,J,⟨⟨D,h1,O,h3,h4⟩,h5⟩,h=>by
  subst h1;refine⟨by simp,.inl ⟨D,_,rfl,run_takeDeferred O,?_⟩⟩
  have U:w0.heap.size≤D:=by
   grind
  have M:=GoX.put (o':=.deferred none) E.sr O rfl ⟨_,rfl⟩ (AS I U);refine pK I rest ds _ (((E.x D).trans M).fin (fun o V=>by rw[h3]at V; cases V)) (J.mono M.im M.evo) ?_ h
  have:∀ (l:List Deferred),(∀ N∈l,N≠{target:=.collected D,args:=#[]})→DfOK w0 w l→DfOK w0 (w.putObj D (.deferred none)) l:=by
   intro l
   induction l with
   |nil=>exact fun _ _=>trivial
   |cons d l ih=>
    rintro Y ⟨⟨D',e1,e2,e3,e4⟩,e5⟩;refine⟨⟨D',e1,?_,e3,e4⟩,ih (fun N aa=>Y N (by simp[aa])) e5⟩;rw[World.putObj_heap_other]
    ·exact e2
    ·grind
  grind
theorem lE(M:SR base w g st)(N:GlobOK G w g)(O:ds.length=vs.length)(E:∀ (i:Nat) d v,ds[i]?=some d→vs[i]?=some v→RepV w g st d v) :
  R G base fn.ntmps w g st [] {fr:=C4 ds,st} {tmps:=vs.toArray++CN (fn.ntmps - vs.toArray.size) undef,defers:=[]} w:=by
 refine⟨g,Go1.refl M,?_,N,⟨[],rfl,trivial⟩,?_⟩
 ·intro s;simp only[C4];rcases A6 s ds.length with I | I
  ·have J:s<vs.length:=by omega
   have U:(vs.toArray++CN (fn.ntmps - vs.toArray.size) undef).getD s undef=vs[s]:=by
    simp[Array.getD,J];omega
   rw[U];have:=E s ds[s] vs[s] (by simp[I]) (by simp[J]);grind
  ·simp[Ao,Bz I];exact .junk _
 ·simp; omega
theorem mN(O:TblOK P G T)(hy:T.y=fun _ _ _=>none)(E:Ds P il f hints=some F)(fuel:Nat):Pq P G f (F.runX G T fuel):=by
 refine⟨(ef O E fuel).1,?_⟩;unfold Ds at E
 split at E
 case h_2=>cases E
 rename_i fn U
 split at E
 case h_2=>cases E
 rename_i c hc
 split at E
 case h_2=>cases E
 rename_i pc J res V a0
 split at E
 ·cases E
 rename_i ad;simp only[C3]at E; subst E;intro base w g st st' ds vs t d I M hG hlen N;simp only[PF.runX]at I
 split at I
 case h_2=>cases I
 rename_i t1 d1 s' hex;simp only[C3,Dk]at I;obtain⟨rfl,rfl,rfl⟩:=I;refine callsIn_wide.1 (callsIn_of_wp_marks (F:=Fence.wide) (n:=0) U hc trivial ?_);refine Na O c none (.inl rfl) w g st [] (by rw[hy]; exact YOK.none) M.size hints (pc,J) V fuel _ s' _ hex _ w _ (lE M hG hlen N) ?_;rintro Y w' ⟨g1,h⟩;obtain⟨dd,aa,ab⟩:=h.df
 show LeavesInM Fence.wide 0 P fn Y.tmps _ Y.defers (.panicking (KR t1 d1)) w'
 rw[aa];refine bA M.size [] dd w' h.go1 h.fr ab fun w2 ac hF=>?_;exact⟨g1,rfl,ac⟩
def Nw(P:Program)(il:List Nat)(f:Nat)(hints:List (List Nat)):Option PFD:=
 match P.funcs[f]? with
 |some fn=>match fn.body with
  |some (.seq (.region _ ops0 false) (.seq (.region _ ops1 false) rest))=>match ops1.toList.reverse with
   |o::rpre=>match J2 P il fn.ntmps ops0 ops0.toList,J2 P il fn.ntmps ops1 rpre.reverse,Hi P il fn.ntmps hints rest,Nu P fn.results.toList with
    |some pre,some pre1,some (pc,_),some res=>match o.op,o.guard,o.dst with
     |.defer c,none,none=>match c.callee with
      |.value x=>match DE x,HM c.args.toList with
       |some hf,some ha=>if fn.name == "runtime.NumGoroutine" then none else some {pre:=pre++pre1,hf,ha,code:=pc,res}
       |_,_=>none
      |_=>none
     |_,_,_=>none
    |_,_,_,_=>none
   |[]=>none
  |_=>none
 |none=>none
theorem bu{G:Db}{T:Tbl}:∀ (l E:List PI) (s:PS),EK G T (l++E) s=(EK G T l s).bind fun s'=>EK G T E s'
 |[],_,_=>rfl
 |i::l,E,s=>by
  simp only[Ae,EK]
  cases i.exec G T s with
  |none=>rfl
  |some s'=>exact bu l E s'
theorem Yg9(hT:TblOK P G T)(hy:T.y=fun _ _ _=>none){F:PFD}(ht:Nw P il f hints=some F){H:H9}(hH:∀ f h,H f=some h→R9 P G f h)(fuel:Nat):IContract P G f (F.runI G T H fuel):=by
 unfold Nw at ht
 split at ht
 case h_2=>cases ht
 rename_i fn hfn
 split at ht
 case h_2=>cases ht
 rename_i id0 ops0 id1 ops1 rest hc
 split at ht
 case h_2=>cases ht
 rename_i o rpre hops1
 split at ht
 case h_2=>cases ht
 rename_i pre pre1 pc hrest res hpre hpre1 htc htr
 split at ht
 case h_2=>cases ht
 rename_i c hop hgd hds
 split at ht
 case h_2=>cases ht
 rename_i x hcal
 split at ht
 case h_2=>cases ht
 rename_i hf ha hhf hha
 split at ht
 ·cases ht
 rename_i hname;simp only[C3]at ht; subst ht;refine⟨⟨fn,hfn,by rw[hc]; rfl,by simpa using hname⟩,?_⟩;intro base w g st st' ds vs d hsp hS hG hlen hrep;simp only[PFD.runI]at hsp
 split at hsp
 case h_2=>cases hsp
 rename_i s1 hs1
 split at hsp
 case h_2=>cases hsp
 rename_i hfn' das hput
 split at hsp
 case h_2=>cases hsp
 rename_i h hHf;rw[bu,Ay]at hs1;obtain⟨s0,hs0,hs1⟩:=hs1;refine callsIn_wide.1 (callsIn_of_wp_marks (F:=Fence.wide) (n:=0) hfn hc trivial ?_);refine wpIn_seq (wpIn_region_list (Z7 (r:=none) hT (by rw[hy]; exact YOK.none) _ _ _ s0 _ w hpre hs0 (lE hS hG hlen hrep) ?_));intro a0 w0 hR0
 show Code.wpIn _ _ _ _ _ _ _
 refine wpIn_seq (wpIn_region_list ?_)
 have hl:ops1.toList=rpre.reverse++[o]:=by
  simp_all
 rw[hl];refine Sv (r:=none) hT (by rw[hy]; exact YOK.none) _ _ _ _ _ _ hpre1 hs1 hR0 ?_;rintro a1 w1 ⟨g1,h1⟩;obtain⟨dst,op,ty,pos,after,guard⟩:=o;simp only at hop hgd hds;subst hop; subst hgd; subst hds;obtain⟨dd,hd1,hd2⟩:=h1.df;rw[Ad]at hd1;have hev:∀ x pa,DE x=some pa→RepV w1 g1 s1.st (Dh G s1.fr pa) (a1.eval x):=fun x pa h=>F2 (G:=G) h1.gl h1.fr h;have hxv:=hev _ _ hhf;obtain⟨q1,q2⟩:=Of hev hha;have q1:(ha.map (Dh G s1.fr)).length=(c.args.toList.map a1.eval).length:=by simpa using q1
 unfold MT at hput
 split at hput
 case h_2=>cases hput
 rename_i hf' caps hclo
 split at hput
 case isFalse=>cases hput
 rename_i hlt;simp only[C3,Dk]at hput;obtain⟨rfl,rfl⟩:=hput;rw[hclo]at hxv;generalize hxe:a1.eval x=xv at hxv
 obtain⟨us,hul,hur,rfl⟩:∃ us:List Value,caps.length=us.length∧(∀ (i:Nat) d v,caps[i]?=some d→us[i]?=some v→RepV w1 g1 s1.st d v)∧xv=.func (.func hf') #[] us.toArray:=by
  cases hxv with
  |clo _ _ us e1 e2=>exact⟨us,e1,e2,by rw[Qr hlt,WO hlt,Ww hlt]⟩
 have hargs:c.args.map a1.eval=(c.args.toList.map a1.eval).toArray:=by
  grind
 generalize hav:c.args.toList.map a1.eval=av at q1 q2 hargs
 have hdef:(Oper.semAt (Wr none).round a1.eval {dst:=none,op:=.defer c,type:=ty,pos:=pos,after:=after,guard:=none}).run P w1=.ok (.defer {target:=.fn (.func hf') us.toArray,args:=av.toArray}) w1:=by
  show(execOp a1.eval {dst:=none,op:=.defer c,type:=ty,pos:=pos,after:=after,guard:=none}).run P w1=_
  simp only[execOp,resolve,hcal,hargs,hxe,Deferred.ofValue,BJ];rfl
 have hw1:Region.wanted ({dst:=none,op:=.defer c,type:=ty,pos:=pos,after:=after,guard:=none}:Oper) (yielded ops1 a1.tmps)=true:=by simp[Region.wanted]
 simp only[wpListIn,hw1,if_true];refine⟨fun _ _=>trivial,?_⟩;rw[hdef,Oper.uponIn_defer]
 show Code.wpIn _ _ _ _ _ _ _
 have hR1:R G base fn.ntmps w1 g1 s1.st ({target:=.fn (.func hf') us.toArray,args:=av.toArray}::dd) s1 ({a1 with defers:={target:=.fn (.func hf') us.toArray,args:=av.toArray}::a1.defers}.put none undef) w1:=by
  refine⟨g1,Go1.refl h1.sr,h1.fr,h1.gl,⟨[],?_,trivial⟩,h1.sz⟩;simp[Act.put,hd1]
 obtain⟨⟨hfn',hhf,hhb,hhn⟩,hcon⟩:=hH _ _ hHf
 have hinv:∀ w2,(invoke (.fn (.func hf') us.toArray) av.toArray).run P w2=.ok (.enter hf' (av++us).toArray) w2:=by
  intro w2
  have hbn:¬ hfn'.body=none:=by
   grind
  have hn':¬ hfn'.name= "runtime.NumGoroutine":=by simpa using hhn
  simp[invoke,callFunc,hhf,hn',hbn]
 have hdl:(ha.map (Dh G s1.fr)++caps).length=(av++us).length:=by simp only[Ab,q1,hul]
 have hdr:=aC q1 q2 hur;have hrt:=h1.go1.sr.size
 have fin:∀ (s3:PS) (a':Act) (w3:World) (g3:Ghost),(DK s3 res).map (fun l=>(DC l,s3.st))=some (d,st')→FR w3 g3 s3.st s3.fr a'→Go1 base w g st w3 g3 s3.st→DfOK w w3 dd→
   LeavesInM Fence.wide 0 P fn a'.tmps (fun e w'=>∃ v g',e=.returned v∧Go1 base w g st w' g' st'∧RepV w' g' st' d v) dd .returning w3:=by
  intro s3 a' w3 g3 hget hF hgo hdf
  have:=Sp (P:=P) (fn:=fn) (R:=fun e w'=>∃ v g',e=.returned v∧Go1 base w g st w' g' st'∧RepV w' g' st' d v) hS.size dd w3 hgo hF hdf (fun w4 hgo4 hF4=>by
   simp only[Dv,Dk]at hget;obtain⟨xs,hx1,rfl,rfl⟩:=hget;obtain⟨us,e1,e2,e3⟩:=Qx hgo4.sr hF4 htr hx1;exact⟨_,Xf e3,_,g3,rfl,hgo4,RR e1 e2⟩)
  exact this
 have done:∀ (e:Ex) (s':PS),pc.exec G T fuel s1=some (e,s')→(e=.next∨e=.ret)→(DK s' res).map (fun l=>(DC l,s'.st))=some (d,st')→
   ∀ a' w',R G base fn.ntmps w1 g1 s1.st ({target:=.fn (.func hf') us.toArray,args:=av.toArray}::dd) s' a' w'→LeavesInM Fence.wide 0 P fn a'.tmps (fun e w'=>∃ v g',e=.returned v∧Go1 base w g st w' g' st'∧RepV w' g' st' d v) a'.defers .returning w':=by
  rintro e s' hex he hget a' w' ⟨g2,h⟩;obtain⟨d2,hd3,hd4⟩:=h.df;rw[hd3];refine pK hrt _ d2 w' h.go1 h.fr hd4 fun w2 hgo hF=>?_;refine⟨by simp,.inr ⟨(by intro e; cases e),.func hf',us.toArray,hf',(av++us).toArray,rfl,hinv w2,fun _ _=>trivial,?_⟩⟩;have hG2:GlobOK G w2 g2:=h1.gl.mono hgo.im;refine((hcon base w2 g2 s'.st _ _ hgo.sr hG2 hdl (fun i d v h1 h2=>hgo.rep (hdr i d v h1 h2))).1).mono ?_;rintro e u w3 ⟨rfl,rfl,g3,hgo3⟩;exact fin s' a' w3 g3 hget (hF.mono hgo3.im hgo3.evo) (h1.go1.trans (hgo.trans hgo3)) ((hd2.mono hgo.kp).mono hgo3.kp)
 split at hsp
 ·rename_i s' hex;refine Na hT rest none (.inl rfl) w1 g1 s1.st _ (by rw[hy]; exact YOK.none) hrt hints (pc,_) htc fuel _ s' _ hex _ w1 _ hR1 fun a' w' hR'=>?_;exact done _ s' hex (.inl rfl) hsp a' w' hR'
 ·rename_i s' hex;refine Na hT rest none (.inl rfl) w1 g1 s1.st _ (by rw[hy]; exact YOK.none) hrt hints (pc,_) htc fuel _ s' _ hex _ w1 _ hR1 fun a' w' hR'=>?_;exact done _ s' hex (.inr rfl) hsp a' w' hR'
 ·rename_i t d2 s' hex
  split at hsp
  case h_2=>cases hsp
  rename_i st3 hst3;refine Na hT rest none (.inl rfl) w1 g1 s1.st _ (by rw[hy]; exact YOK.none) hrt hints (pc,_) htc fuel _ s' _ hex _ w1 _ hR1 ?_;rintro a' w' ⟨g2,h⟩;obtain⟨d3,hd3,hd4⟩:=h.df
  show LeavesInM Fence.wide 0 P fn a'.tmps _ a'.defers (.panicking (KR t d2)) w'
  rw[hd3];refine bA hrt _ d3 w' h.go1 h.fr hd4 fun w2 hgo hF=>?_;refine⟨by simp,.inr ⟨(by intro e; cases e),.func hf',us.toArray,hf',(av++us).toArray,rfl,hinv w2,fun _ _=>trivial,?_⟩⟩;have hG2:GlobOK G w2 g2:=h1.gl.mono hgo.im;refine((hcon base w2 g2 s'.st _ _ hgo.sr hG2 hdl (fun i d v h1 h2=>hgo.rep (hdr i d v h1 h2))).2 t d2 st3 hst3).mono ?_;rintro e u w3 ⟨rfl,rfl,g3,hgo3⟩;exact fin ⟨s'.fr,st3⟩ a' w3 g3 hsp (hF.mono hgo3.im hgo3.evo) (h1.go1.trans (hgo.trans hgo3)) ((hd2.mono hgo.kp).mono hgo3.kp)
 ·cases hsp
theorem We(E:TblOK P G T)(M:T.y=fun _ _ _=>none)(I:Ds P il f hints=some F)(fuel:Nat):IContract P G f (F.runI G T fuel):=
 ⟨(ef E I fuel).1,fun base w g st st' ds vs d J N O hl U=>(ef E I fuel).2 base w g st st' ds vs d (by rw[M]; exact YOK.none) J N O hl U⟩
theorem Yfu(h:RepV w g st d v):RepV w g (PI.cut k st) (Hn k d) v:=by
 cases d with
 |tup l=>
  cases h with
  |tup _ vs I J=>
   refine .tup _ vs (by simpa using I) fun i d v E hv=>?_;simp only[AJ,Dv]at E;obtain⟨d0,M,rfl⟩:=E;exact cP (J i d0 v M hv)
 |_=>exact cP h
theorem IContract.dropped{sp:List D→St→Option (D×St)}(h:IContract P G f sp):IContract P G f (PI.dropped sp):=by
 refine⟨h.1,fun base w g st st' ds vs d E I J hl M=>?_⟩;simp only[PI.dropped,Dv,Dk,Prod.exists]at E;obtain⟨d0,st1,N,rfl,rfl⟩:=E;refine(h.2 base w g st st1 ds vs d0 N I J hl M).mono ?_;rintro e w' ⟨v,g',rfl,O,U⟩;exact⟨v,g',rfl,O.cut (AE _),Yfu U⟩
theorem Yo4(hT:TblOK P G T)(V:T.y=fun _ _ _=>none)(E:Ds P il f hints=some F)(fuel:Nat):Contract P G f (F.run G T fuel):=by
 intro w g ds vs d ab hG ac hlen Y _;unfold Ds at E
 split at E
 case h_2=>cases E
 rename_i fn ad
 split at E
 case h_2=>cases E
 rename_i c hc
 split at E
 case h_2=>cases E
 rename_i pc O res ae af
 split at E
 ·cases E
 simp only[C3]at E; subst E;have hS:SR w.heap.size w g []:=⟨fun k o h=>by simp at h,fun k o h=>by simp at h,fun k k' o o' h=>by simp at h,ac,fun k o x h=>by simp at h,AE _⟩
 have key:∀ (e:Ex) (s':PS),pc.exec G T fuel {fr:=C4 ds,st:=[]}=some (e,s')→(Fo s' res).map DC=some d→(e=.next∨e=.ret)→
   Calls P f vs.toArray w fun e w'=>∃ v g',e=.returned v∧RepV w' g' [] d v∧purR d=true∧ImLe w g w' g'∧(∀ b o,g'.Im b o→g.Im b o∨w.heap.size≤b)∧
   (∀ b o,g'.Im b o→(w'.cell? ⟨b,o,none⟩).isSome=true)∧Below w.heap.size w w':=by
  intro e s' hex N he;refine callsIn_wide.1 (callsIn_of_wp_marks (F:=Fence.wide) (n:=0) ad hc trivial ?_)
  have ah:R G w.heap.size fn.ntmps w g [] [] {fr:=C4 ds,st:=[]} {tmps:=vs.toArray++CN (fn.ntmps - vs.toArray.size) undef,defers:=[]} w:=by
   refine⟨g,Go1.refl hS,?_,hG,⟨[],rfl,trivial⟩,?_⟩
   ·intro s;simp only[C4];rcases A6 s ds.length with h1 | h1
    ·have h2:s<vs.length:=by omega
     have h3:(vs.toArray++CN (fn.ntmps - vs.toArray.size) undef).getD s undef=vs[s]:=by
      simp[Array.getD,h2];omega
     rw[h3];have:=Y s ds[s] vs[s] (by simp[h1]) (by simp[h2]);grind
    ·simp[Ao,Bz h1];exact .junk _
   ·simp; omega
  have fin:∀ J w',R G w.heap.size fn.ntmps w g [] [] s' J w'→LeavesInM Fence.wide 0 P fn J.tmps (fun e w'=>∃ v g',e=.returned v∧RepV w' g' [] d v∧purR d=true∧ImLe w g w' g'∧(∀ b o,g'.Im b o→g.Im b o∨w.heap.size≤b)∧
   (∀ b o,g'.Im b o→(w'.cell? ⟨b,o,none⟩).isSome=true)∧Below w.heap.size w w') J.defers .returning w':=by
   rintro J w' ⟨g1,h⟩;obtain⟨dd,a1,a2⟩:=h.df;rw[a1,Ad];refine Sp (AE _) dd w' h.go1 h.fr a2 fun w2 M hF=>?_;simp only[Dv]at N;obtain⟨ys,a3,rfl⟩:=N;obtain⟨xs,a4,a5⟩:=fF a3;obtain⟨us,e1,e2,e3⟩:=Qx M.sr hF af a4;obtain⟨g2,a6,_,e5,e6,e7⟩:=QJ M.sr a5;have I:=M.trans a6;refine⟨_,Xf e3,_,g2,rfl,?_,VW e6,I.im,I.new,I.sr.im,I.below⟩;have h8:=RR (g:=g2) (w:=w2) (ds:=ys) (vs:=us) (by omega) fun i y v V hv=>e7 i y v V fun x hx=>e2 i x v hx hv;exact h8.purR (ImLe.refl _ _) (VW e6)
  refine Na hT c none (.inl rfl) w g [] [] (by rw[V]; exact YOK.none) (AE _) hints (pc,O) ae fuel _ s' e hex _ w _ ah ?_;intro J w' U;rcases he with rfl | rfl
  ·exact fin J w' U
  ·exact fin J w' U
 simp only[PF.run]at ab;grind
theorem mO(E:TblOK P G T)(I:T.y=fun _ _ _=>none)(J:Ds P il f hints=some F){sp:List D→Option D}(h:∀ ds d,sp ds=some d→∃ fuel,F.run G T fuel ds=some d):Contract P G f sp:=by
 intro w g ds vs d M;obtain⟨fuel,hf⟩:=h ds d M;exact Yo4 E I J fuel w g ds vs d hf
end
end Go.Proofs.YtijnglngaogdjaaGreatDoor.PI
