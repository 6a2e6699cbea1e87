/-
  Functions that panic, and functions that put off a call which recovers: their contracts out of what their code comes to.
  Conditions: none; these are definitions and lemmas.
-/
import Derived.Test.YtfbbaceiimdejaaGreatDoorEngW
import Derived.Laws.Cover3
import Derived.RecoverIn
set_option linter.unusedVariables false
set_option linter.unusedSimpArgs false
namespace Go.Proofs.YtfbbaceiimdejaaGreatDoor.PI
open Go
class Cont (α:Type):Type where
 mk::
 run:α→Prop
class Cont2 (α β:Type):Type where
 mk::
 run:α→β→Prop
class QC:Type where
 mk::
 run:Ex→Frame→St→Prop
class InvC:Type where
 mk::
 run:PS→Prop
class Br:Type where
 mk::
 run:Prop
def on{α:Type}(o:Option α)[k:Cont α]:Prop:=match o with
 |some a=>k.run a
 |none=>False
theorem on_some{α:Type}(a:α)(K:α→Prop):@on α (some a) ⟨K⟩=K a:=(rfl)
theorem on_none{α:Type}(k:Cont α):@on α none k=False:=(rfl)
def onB(d:D)[k:Cont Bool]:Prop:=match d with
 |.bool b=>k.run b
 |_=>False
theorem onB_bool(b:Bool)(K:Bool→Prop):@onB (.bool b) ⟨K⟩=K b:=(rfl)
def ifB(b:Bool)[x:Br][y:Br]:Prop:=if b=true then x.run else y.run
theorem ifB_true(x:Prop)(y:Br):@ifB true ⟨x⟩ y=x:=(rfl)
theorem ifB_false(x:Br)(y:Prop):@ifB false x ⟨y⟩=y:=(rfl)
theorem ifD_split{p:Prop}[Decidable p]{x y:Prop}(h1:p→x)(h2:¬ p→y):@ifB (decide p) ⟨x⟩ ⟨y⟩:=by
 by_cases h:p
 ·rw[show decide p=true by simpa using h]; exact h1 h
 ·rw[show decide p=false by simpa using h]; exact h2 h
def ev(d:D)[k:Cont D]:Prop:=k.run d
theorem ev_eq(d:D)(K:D→Prop):@ev d ⟨K⟩=K d:=(rfl)
def ev2(d:D)(st:St)[k:Cont2 D St]:Prop:=k.run d st
theorem ev2_eq(d:D)(st:St)(K:D→St→Prop):@ev2 d st ⟨K⟩=K d st:=(rfl)
def kOp(T:Tbl)(op:POp)(ρ:PA→D)(st:St)(K:D→St→Prop):Prop:=@on _ (op.exec T ρ st) ⟨fun p=>K p.1 p.2⟩
def kG(fr:Frame)(g:Option (Nat×Bool))(x y:Prop):Prop:=match g with
 |none=>x
 |some (s,want)=>match fr s with
  |.bool b=>@ifB (b == want) ⟨x⟩ ⟨y⟩
  |.tup []=>y
  |_=>False
def kOps(G:Glob)(T:Tbl):List PI→Frame→St→(Frame→St→Prop)→Prop
 |[],fr,st,K=>K fr st
 |i::l,fr,st,K=>kG fr i.guard (kOp T i.op (rho G fr) st fun d st'=>kOps G T l (fr.put i.dst d) st' K) (kOps G T l (fr.put i.dst (.tup [])) st K)
theorem kOps_sound{G:Glob}{T:Tbl}:∀ (l:List PI) (fr:Frame) (st:St) (K:Frame→St→Prop),kOps G T l fr st K→∃ fr' st',execs G T l ⟨fr,st⟩=some ⟨fr',st'⟩∧K fr' st'
 |[],fr,st,K,h=>⟨fr,st,rfl,h⟩
 |i::l,fr,st,K,h=>by
  have yes:kOp T i.op (rho G fr) st (fun d st'=>kOps G T l (fr.put i.dst d) st' K)→i.wanted fr=some true→∃ fr' st',execs G T (i::l) ⟨fr,st⟩=some ⟨fr',st'⟩∧K fr' st':=by
   intro h hw
   unfold kOp on at h
   split at h
   ·rename_i p hp
    obtain⟨fr',st',h1,h2⟩:=kOps_sound l _ _ K h
    exact⟨fr',st',by simp only[execs,PI.exec,hw,hp,h1],h2⟩
   ·exact h.elim
  have no:kOps G T l (fr.put i.dst (.tup [])) st K→i.wanted fr=some false→∃ fr' st',execs G T (i::l) ⟨fr,st⟩=some ⟨fr',st'⟩∧K fr' st':=by
   intro h hw
   obtain⟨fr',st',h1,h2⟩:=kOps_sound l _ _ K h
   exact⟨fr',st',by simp only[execs,PI.exec,hw,h1],h2⟩
  rw[kOps]at h
  unfold kG at h
  split at h
  ·rename_i hg
   exact yes h (by simp[PI.wanted,hg])
  ·rename_i s want hg
   split at h
   ·rename_i b hb
    have hw:i.wanted fr=some (b == want):=by simp[PI.wanted,hg,hb]
    cases hbw:(b == want)with
    |true=>rw[hbw]at h hw; exact yes h hw
    |false=>rw[hbw]at h hw; exact no h hw
   ·rename_i hb
    exact no h (by simp[PI.wanted,hg,hb])
   ·exact h.elim
def kOpX(T:Tbl)(op:POp)(ρ:PA→D)(st:St)(K:D→St→Prop)(X:Nat→D→St→Prop):Prop:=match op.exec T ρ st with
 |some p=>K p.1 p.2
 |none=>match op.execX T ρ st with
  |some r=>X r.1 r.2.1 r.2.2
  |none=>False
def kOpsX(G:Glob)(T:Tbl):List PI→Frame→St→(Frame→St→Prop)→(Nat→D→Frame→St→Prop)→Prop
 |[],fr,st,K,_=>K fr st
 |i::l,fr,st,K,X=>kG fr i.guard (kOpX T i.op (rho G fr) st (fun d st'=>kOpsX G T l (fr.put i.dst d) st' K X) (fun t d st'=>X t d fr st')) (kOpsX G T l (fr.put i.dst (.tup [])) st K X)
theorem kOpsX_sound{G:Glob}{T:Tbl}:∀ (l:List PI) (fr:Frame) (st:St) (K:Frame→St→Prop) (X:Nat→D→Frame→St→Prop),kOpsX G T l fr st K X→
  (∃ fr' st',execs G T l ⟨fr,st⟩=some ⟨fr',st'⟩∧K fr' st')∨∃ t d fr' st',execs G T l ⟨fr,st⟩=none∧execsX G T l ⟨fr,st⟩=some (t,d,⟨fr',st'⟩)∧X t d fr' st'
 |[],fr,st,K,X,h=>.inl ⟨fr,st,rfl,h⟩
 |i::l,fr,st,K,X,h=>by
  have yes:kOpX T i.op (rho G fr) st (fun d st'=>kOpsX G T l (fr.put i.dst d) st' K X) (fun t d st'=>X t d fr st')→i.wanted fr=some true→
    (∃ fr' st',execs G T (i::l) ⟨fr,st⟩=some ⟨fr',st'⟩∧K fr' st')∨∃ t d fr' st',execs G T (i::l) ⟨fr,st⟩=none∧execsX G T (i::l) ⟨fr,st⟩=some (t,d,⟨fr',st'⟩)∧X t d fr' st':=by
   intro h hw
   unfold kOpX at h
   split at h
   ·rename_i p hp
    rcases kOpsX_sound l _ _ K X h with⟨fr',st',h1,h2⟩ | ⟨t,d,fr',st',h1,h2,h3⟩
    ·exact .inl ⟨fr',st',by simp only[execs,PI.exec,hw,hp,h1],h2⟩
    ·exact .inr ⟨t,d,fr',st',by simp only[execs,PI.exec,hw,hp,h1],by simp only[execsX,PI.exec,hw,hp,h2],h3⟩
   ·rename_i hn
    split at h
    ·rename_i r hr
     exact .inr ⟨r.1,r.2.1,fr,r.2.2,by simp only[execs,PI.exec,hw,hn],by simp only[execsX,PI.exec,PI.execX,hw,hn,hr,Option.map_some],h⟩
    ·exact h.elim
  have no:kOpsX G T l (fr.put i.dst (.tup [])) st K X→i.wanted fr=some false→
    (∃ fr' st',execs G T (i::l) ⟨fr,st⟩=some ⟨fr',st'⟩∧K fr' st')∨∃ t d fr' st',execs G T (i::l) ⟨fr,st⟩=none∧execsX G T (i::l) ⟨fr,st⟩=some (t,d,⟨fr',st'⟩)∧X t d fr' st':=by
   intro h hw
   rcases kOpsX_sound l _ _ K X h with⟨fr',st',h1,h2⟩ | ⟨t,d,fr',st',h1,h2,h3⟩
   ·exact .inl ⟨fr',st',by simp only[execs,PI.exec,hw,h1],h2⟩
   ·exact .inr ⟨t,d,fr',st',by simp only[execs,PI.exec,hw,h1],by simp only[execsX,PI.exec,hw,h2],h3⟩
  rw[kOpsX]at h
  unfold kG at h
  split at h
  ·rename_i hg
   exact yes h (by simp[PI.wanted,hg])
  ·rename_i s want hg
   split at h
   ·rename_i b hb
    have hw:i.wanted fr=some (b == want):=by simp[PI.wanted,hg,hb]
    cases hbw:(b == want)with
    |true=>rw[hbw]at h hw; exact yes h hw
    |false=>rw[hbw]at h hw; exact no h hw
   ·rename_i hb
    exact no h (by simp[PI.wanted,hg,hb])
   ·exact h.elim
theorem kOpX_mono{T:Tbl}{op:POp}{ρ:PA→D}{st:St}{K K':D→St→Prop}{X X':Nat→D→St→Prop}(h:kOpX T op ρ st K X)(hk:∀ d st,K d st→K' d st)(hx:∀ t d st,X t d st→X' t d st):kOpX T op ρ st K' X':=by
 unfold kOpX at h ⊢
 cases h1:op.exec T ρ st with
 |some p=>rw[h1]at h; exact hk _ _ h
 |none=>
  rw[h1]at h
  cases h2:op.execX T ρ st with
  |some r=>rw[h2]at h; exact hx _ _ _ h
  |none=>rw[h2]at h; exact h
theorem kG_mono{fr:Frame}{g:Option (Nat×Bool)}{x y x' y':Prop}(h:kG fr g x y)(hx:x→x')(hy:y→y'):kG fr g x' y':=by
 unfold kG at h ⊢
 revert h
 split
 ·exact hx
 ·split
  ·unfold ifB
   split
   ·exact hx
   ·exact hy
  ·exact hy
  ·exact id
theorem kOpsX_mono{G:Glob}{T:Tbl}:∀ (l:List PI) (fr:Frame) (st:St) (K K':Frame→St→Prop) (X X':Nat→D→Frame→St→Prop),kOpsX G T l fr st K X→(∀ fr st,K fr st→K' fr st)→(∀ t d fr st,X t d fr st→X' t d fr st)→kOpsX G T l fr st K' X'
 |[],_,_,_,_,_,_,h,hk,_=>hk _ _ h
 |i::l,fr,st,K,K',X,X',h,hk,hx=>by
  rw[kOpsX]at h ⊢
  exact kG_mono h (fun h=>kOpX_mono h (fun _ _ h=>kOpsX_mono l _ _ _ _ _ _ h hk hx) fun _ _ _ h=>hx _ _ _ _ h) fun h=>kOpsX_mono l _ _ _ _ _ _ h hk hx
class XC:Type where
 mk::
 run:Nat→D→Frame→St→Prop
class XC0:Type where
 mk::
 run:Nat→D→St→Prop
def wOpsX(G:Glob)(T:Tbl)(l:List PI)(fr:Frame)(st:St)[K:Cont2 Frame St][X:XC]:Prop:=kOpsX G T l fr st K.run X.run
def wOpX(T:Tbl)(op:POp)(ρ:PA→D)(st:St)[K:Cont2 D St][X:XC0]:Prop:=kOpX T op ρ st K.run X.run
theorem wOpsX_nil(G:Glob)(T:Tbl)(fr:Frame)(st:St)(K:Frame→St→Prop)(X:XC):@wOpsX G T [] fr st ⟨K⟩ X=K fr st:=(rfl)
def onX(o:Option (D×St))(p:Option (Nat×D×St))[K:Cont2 D St][X:XC0]:Prop:=match o with
 |some r=>K.run r.1 r.2
 |none=>match p with
  |some r=>X.run r.1 r.2.1 r.2.2
  |none=>False
theorem onX_some(d:D)(st:St)(p:Option (Nat×D×St))(K:D→St→Prop)(X:XC0):@onX (some (d,st)) p ⟨K⟩ X=K d st:=(rfl)
theorem onX_panic(t:Nat)(d:D)(st:St)(K:Cont2 D St)(X:Nat→D→St→Prop):@onX none (some (t,d,st)) K ⟨X⟩=X t d st:=(rfl)
def maySp(o:Option (List D→St→Option (D×St)))(ds:List D)(st:St):Option (D×St):=match o with
 |some sp=>sp ds st
 |none=>none
theorem maySp_some(sp:List D→St→Option (D×St))(ds:List D)(st:St):maySp (some sp) ds st=sp ds st:=(rfl)
theorem maySp_none(ds:List D)(st:St):maySp none ds st=none:=(rfl)
def maySx(o:Option (List D→St→Option (Nat×D×St)))(ds:List D)(st:St):Option (Nat×D×St):=match o with
 |some sp=>sp ds st
 |none=>none
theorem maySx_some(sp:List D→St→Option (Nat×D×St))(ds:List D)(st:St):maySx (some sp) ds st=sp ds st:=(rfl)
theorem maySx_none(ds:List D)(st:St):maySx none ds st=none:=(rfl)
theorem wOpX_icall(T:Tbl)(f:Nat)(args:List PA)(ρ:PA→D)(st:St)(K:Cont2 D St)(X:XC0):@wOpX T (.icall f args) ρ st K X=@onX (maySp (T.i f) (args.map ρ) st) (maySx (T.x f) (args.map ρ) st) K X:=by
 simp only[wOpX,kOpX,POp.exec,onX,maySp,maySx,POp.execX,POp.callee]
 cases T.i f <;> cases T.x f <;> rfl
def calD(d:D)(ds:List D):Option (Nat×List D):=match d with
 |.clo f caps=>if f<5000000 then some (f,ds++caps)else if f<10000000 then some (f - 5000000,caps++ds)else none
 |_=>none
theorem wOpX_callv(T:Tbl)(x:PA)(args:List PA)(ρ:PA→D)(st:St)(K:Cont2 D St)(X:XC0)(f:Nat)(ds:List D)(h:calD (ρ x) (args.map ρ)=some (f,ds)):@wOpX T (.callv x args) ρ st K X=@onX (maySp (T.i f) ds st) (maySx (T.x f) ds st) K X:=by
 simp only[wOpX,kOpX,POp.exec,onX,maySp,maySx,POp.execX,POp.callee]
 unfold calD at h
 split at h
 case h_2=>cases h
 rename_i f' caps hx
 rw[hx]
 simp only
 split at h
 ·rename_i h5
  simp only[Option.some.injEq,Prod.mk.injEq]at h
  obtain⟨rfl,rfl⟩:=h
  simp only[if_pos h5]
  cases T.i f' <;> cases T.x f' <;> rfl
 ·rename_i h5
  split at h
  case isFalse=>cases h
  rename_i h10
  simp only[Option.some.injEq,Prod.mk.injEq]at h
  obtain⟨rfl,rfl⟩:=h
  simp only[if_neg h5,if_pos h10]
  cases T.i (f' - 5000000) <;> cases T.x (f' - 5000000) <;> rfl
def POp.tame:POp→Bool
 |.icall _ _ | .callv _ _=>false
 |_=>true
theorem wOpX_tame(T:Tbl)(op:POp)(ρ:PA→D)(st:St)(K:Cont2 D St)(X:XC0)(h:op.tame=true):@wOpX T op ρ st K X=kOp T op ρ st K.run:=by
 have:op.execX T ρ st=none:=by
  cases op <;> first | rfl | (simp[POp.tame]at h; done)
 simp only[wOpX,kOpX,kOp,on,this]
 cases op.exec T ρ st <;> rfl
def kF(fs:List (Option Foot))(b:Bool)(cs:List Nat)(f:Option Foot)(K:List (Option Foot)→Prop):Prop:=@ifB (ckF fs f cs) ⟨K (fs++[if b then f else none])⟩ ⟨False⟩
theorem kF_spec{fs:List (Option Foot)}{b:Bool}{cs:List Nat}{f:Option Foot}{K:List (Option Foot)→Prop}(h:kF fs b cs f K):ckF fs f cs=true∧K (fs++[if b then f else none]):=by
 unfold kF ifB at h
 split at h
 ·exact⟨by assumption,h⟩
 ·exact h.elim
theorem kF_mono{fs:List (Option Foot)}{b:Bool}{cs:List Nat}{f:Option Foot}{K K':List (Option Foot)→Prop}(h:kF fs b cs f K)(hk:∀ fs,K fs→K' fs):kF fs b cs f K':=by
 obtain⟨h1,h2⟩:=kF_spec h
 unfold kF ifB
 rw[if_pos h1]
 exact hk _ h2
def kAny(G:Glob)(T:Tbl):List (PI×Bool×List Nat)→List (Option Foot)→Frame→St→(Frame→St→Prop)→Prop
 |[],_,fr,st,K=>K fr st
 |i::l,fs,fr,st,K=>kG fr i.1.guard (kF fs i.2.1 i.2.2 (i.1.op.foot (rho G fr) st) fun fs'=>kOp T i.1.op (rho G fr) st fun d st'=>kAny G T l fs' (fr.put i.1.dst d) st' K)
   (kF fs i.2.1 i.2.2 (some emptyF) fun fs'=>kAny G T l fs' (fr.put i.1.dst (.tup [])) st K)
theorem kAny_sound{G:Glob}{T:Tbl}:∀ (l:List (PI×Bool×List Nat)) (fs:List (Option Foot)) (fr:Frame) (st:St) (K:Frame→St→Prop),kAny G T l fs fr st K→∃ fr' st',anys G T l fs ⟨fr,st⟩=some ⟨fr',st'⟩∧K fr' st'
 |[],_,fr,st,K,h=>⟨fr,st,rfl,h⟩
 |(i,b,cs)::l,fs,fr,st,K,h=>by
  have yes:kF fs b cs (i.op.foot (rho G fr) st) (fun fs'=>kOp T i.op (rho G fr) st fun d st'=>kAny G T l fs' (fr.put i.dst d) st' K)→i.wanted fr=some true→∃ fr' st',anys G T ((i,b,cs)::l) fs ⟨fr,st⟩=some ⟨fr',st'⟩∧K fr' st':=by
   intro h hw
   obtain⟨h1,h⟩:=kF_spec h
   unfold kOp on at h
   split at h
   ·rename_i p hp
    obtain⟨fr',st',h2,h3⟩:=kAny_sound l _ _ _ K h
    have hf:i.foot G ⟨fr,st⟩=i.op.foot (rho G fr) st:=by simp[PI.foot,hw]
    have hx:i.exec G T ⟨fr,st⟩=some ⟨fr.put i.dst p.1,p.2⟩:=by simp only[PI.exec,hw,hp]
    exact⟨fr',st',by simp only[anys,hf,h1,if_true,hx,h2],h3⟩
   ·exact h.elim
  have no:kF fs b cs (some emptyF) (fun fs'=>kAny G T l fs' (fr.put i.dst (.tup [])) st K)→i.wanted fr=some false→∃ fr' st',anys G T ((i,b,cs)::l) fs ⟨fr,st⟩=some ⟨fr',st'⟩∧K fr' st':=by
   intro h hw
   obtain⟨h1,h⟩:=kF_spec h
   obtain⟨fr',st',h2,h3⟩:=kAny_sound l _ _ _ K h
   have hf:i.foot G ⟨fr,st⟩=some emptyF:=by simp[PI.foot,hw]
   have hx:i.exec G T ⟨fr,st⟩=some ⟨fr.put i.dst (.tup []),st⟩:=by simp only[PI.exec,hw]
   exact⟨fr',st',by simp only[anys,hf,h1,if_true,hx,h2],h3⟩
  rw[kAny]at h
  unfold kG at h
  split at h
  ·rename_i hg
   exact yes h (by simp only at hg; simp[PI.wanted,hg])
  ·rename_i s want hg
   simp only at hg
   split at h
   ·rename_i b hb
    have hw:i.wanted fr=some (b == want):=by simp[PI.wanted,hg,hb]
    cases hbw:(b == want)with
    |true=>rw[hbw]at h hw; exact yes h hw
    |false=>rw[hbw]at h hw; exact no h hw
   ·rename_i hb
    exact no h (by simp[PI.wanted,hg,hb])
   ·exact h.elim
theorem kAny_mono{G:Glob}{T:Tbl}:∀ (l:List (PI×Bool×List Nat)) (fs:List (Option Foot)) (fr:Frame) (st:St) (K K':Frame→St→Prop),kAny G T l fs fr st K→(∀ fr st,K fr st→K' fr st)→kAny G T l fs fr st K'
 |[],_,_,_,_,_,h,hk=>hk _ _ h
 |i::l,fs,fr,st,K,K',h,hk=>by
  have h1:kF fs i.2.1 i.2.2 (i.1.op.foot (rho G fr) st) (fun fs'=>kOp T i.1.op (rho G fr) st fun d st'=>kAny G T l fs' (fr.put i.1.dst d) st' K)→kF fs i.2.1 i.2.2 (i.1.op.foot (rho G fr) st) (fun fs'=>kOp T i.1.op (rho G fr) st fun d st'=>kAny G T l fs' (fr.put i.1.dst d) st' K'):=by
   refine fun h=>kF_mono h fun fs'=>?_
   unfold kOp on
   split
   ·exact fun h=>kAny_mono l _ _ _ _ _ h hk
   ·exact id
  have h2:kF fs i.2.1 i.2.2 (some emptyF) (fun fs'=>kAny G T l fs' (fr.put i.1.dst (.tup [])) st K)→kF fs i.2.1 i.2.2 (some emptyF) (fun fs'=>kAny G T l fs' (fr.put i.1.dst (.tup [])) st K'):=fun h=>kF_mono h fun fs' h=>kAny_mono l _ _ _ _ _ h hk
  rw[kAny]at h ⊢
  unfold kG at h ⊢
  revert h
  split
  ·exact h1
  ·split
   ·unfold ifB
    split
    ·exact fun h=>h1 h
    ·exact fun h=>h2 h
   ·exact h2
   ·exact id
class FsC:Type where
 mk::
 run:List (Option Foot)→Prop
def wF(fs:List (Option Foot))(b:Bool)(cs:List Nat)(f:Option Foot)[K:FsC]:Prop:=kF fs b cs f K.run
theorem wF_free(fs:List (Option Foot))(f:Option Foot)(K:List (Option Foot)→Prop):@wF fs false [] f ⟨K⟩=K (fs++[none]):=(rfl)
def fsE(l:List (Option Foot))[K:FsC]:Prop:=K.run l
theorem fsE_eq(l:List (Option Foot))(K:List (Option Foot)→Prop):@fsE l ⟨K⟩=K l:=(rfl)
theorem wF_true(fs:List (Option Foot))(f:Foot)(K:FsC):@wF fs true [] (some f) K=@fsE (fs++[some f]) K:=(rfl)
theorem wF_ck(fs:List (Option Foot))(b:Bool)(j:Nat)(cs:List Nat)(f:Foot)(K:FsC):@wF fs b (j::cs) (some f) K=@ifB (ckF fs (some f) (j::cs)) ⟨@fsE (fs++[if b then some f else none]) K⟩ ⟨False⟩:=(rfl)
def sameP(a b:PS)[k:Cont PS]:Prop:=a=b∧k.run a
def W2(keep:List Nat)(n:Nat)(fr1:Frame)(st1:St)(fr2:Frame)(st2:St)(K:PS→Prop):Prop:=
 @ifB (st1.length == n+2 && st2.length == n+2) ⟨@sameP (restrictAt keep n [n,n+1] ⟨fr1,st1⟩) (restrictAt keep n [n+1,n] ⟨fr2,st2⟩) ⟨K⟩⟩ ⟨False⟩
theorem W2_spec{keep:List Nat}{n:Nat}{fr1 fr2:Frame}{st1 st2:St}{K:PS→Prop}(h:W2 keep n fr1 st1 fr2 st2 K):same2 keep n ⟨fr1,st1⟩ ⟨fr2,st2⟩=some (restrictAt keep n [n,n+1] ⟨fr1,st1⟩)∧K (restrictAt keep n [n,n+1] ⟨fr1,st1⟩):=by
 unfold W2 ifB at h
 split at h
 ·rename_i hl
  simp only[Bool.and_eq_true,beq_iff_eq]at hl
  obtain⟨h1,h2⟩:=h
  refine⟨?_,h2⟩
  unfold same2
  rw[if_pos ⟨hl.1,hl.2,h1.symm⟩]
 ·exact h.elim
theorem W2_mono{keep:List Nat}{n:Nat}{fr1 fr2:Frame}{st1 st2:St}{K K':PS→Prop}(h:W2 keep n fr1 st1 fr2 st2 K)(hk:∀ s,K s→K' s):W2 keep n fr1 st1 fr2 st2 K':=by
 unfold W2 ifB at h ⊢
 split at h
 ·rename_i hl
  rw[if_pos hl]
  exact⟨h.1,hk _ h.2⟩
 ·exact h.elim
def wAny(G:Glob)(T:Tbl)(l:List (PI×Bool×List Nat))(fs:List (Option Foot))(fr:Frame)(st:St)[K:Cont2 Frame St]:Prop:=kAny G T l fs fr st K.run
def wOps(G:Glob)(T:Tbl)(l:List PI)(fr:Frame)(st:St)[K:Cont2 Frame St]:Prop:=kOps G T l fr st K.run
def wOp(T:Tbl)(op:POp)(ρ:PA→D)(st:St)[K:Cont2 D St]:Prop:=kOp T op ρ st K.run
def kV(d:D)(want:Bool)[x:Br][y:Br]:Prop:=match d with
 |.bool b=>@ifB (b == want) x y
 |.tup []=>y.run
 |_=>False
theorem wOps_nil(G:Glob)(T:Tbl)(fr:Frame)(st:St)(K:Frame→St→Prop):@wOps G T [] fr st ⟨K⟩=K fr st:=(rfl)
theorem wOps_plain(G:Glob)(T:Tbl)(dst:Option Nat)(op:POp)(l:List PI)(fr:Frame)(st:St)(K:Cont2 Frame St) :
  @wOps G T ({dst,op,guard:=none}::l) fr st K=@wOp T op (rho G fr) st ⟨fun d st'=>@wOps G T l (fr.put dst d) st' K⟩:=(rfl)
theorem wOps_guard(G:Glob)(T:Tbl)(dst:Option Nat)(op:POp)(s:Nat)(want:Bool)(l:List PI)(fr:Frame)(st:St)(K:Cont2 Frame St) :
  @wOps G T ({dst,op,guard:=some (s,want)}::l) fr st K=@kV (fr s) want ⟨@wOp T op (rho G fr) st ⟨fun d st'=>@wOps G T l (fr.put dst d) st' K⟩⟩ ⟨@wOps G T l (fr.put dst (.tup [])) st K⟩:=(rfl)
theorem wOpsX_plain(G:Glob)(T:Tbl)(dst:Option Nat)(op:POp)(l:List PI)(fr:Frame)(st:St)(K:Cont2 Frame St)(X:XC) :
  @wOpsX G T ({dst,op,guard:=none}::l) fr st K X=@wOpX T op (rho G fr) st ⟨fun d st'=>@wOpsX G T l (fr.put dst d) st' K X⟩ ⟨fun t d st'=>X.run t d fr st'⟩:=(rfl)
theorem wOpsX_guard(G:Glob)(T:Tbl)(dst:Option Nat)(op:POp)(s:Nat)(want:Bool)(l:List PI)(fr:Frame)(st:St)(K:Cont2 Frame St)(X:XC) :
  @wOpsX G T ({dst,op,guard:=some (s,want)}::l) fr st K X=@kV (fr s) want ⟨@wOpX T op (rho G fr) st ⟨fun d st'=>@wOpsX G T l (fr.put dst d) st' K X⟩ ⟨fun t d st'=>X.run t d fr st'⟩⟩ ⟨@wOpsX G T l (fr.put dst (.tup [])) st K X⟩:=(rfl)
theorem wOpX_op(T:Tbl)(op:POp)(ρ:PA→D)(st:St)(K:D→St→Prop)(X:XC0)(h:op.tame=true):@wOpX T op ρ st ⟨K⟩ X=@wOp T op ρ st ⟨K⟩:=wOpX_tame T op ρ st ⟨K⟩ X h
theorem wAny_nil(G:Glob)(T:Tbl)(fs:List (Option Foot))(fr:Frame)(st:St)(K:Frame→St→Prop):@wAny G T [] fs fr st ⟨K⟩=K fr st:=(rfl)
theorem wAny_plain(G:Glob)(T:Tbl)(dst:Option Nat)(op:POp)(b:Bool)(cs:List Nat)(l:List (PI×Bool×List Nat))(fs:List (Option Foot))(fr:Frame)(st:St)(K:Cont2 Frame St) :
  @wAny G T (({dst,op,guard:=none},b,cs)::l) fs fr st K=@wF fs b cs (op.foot (rho G fr) st) ⟨fun fs'=>@wOp T op (rho G fr) st ⟨fun d st'=>@wAny G T l fs' (fr.put dst d) st' K⟩⟩:=(rfl)
theorem wAny_guard(G:Glob)(T:Tbl)(dst:Option Nat)(op:POp)(s:Nat)(want:Bool)(b:Bool)(cs:List Nat)(l:List (PI×Bool×List Nat))(fs:List (Option Foot))(fr:Frame)(st:St)(K:Cont2 Frame St) :
  @wAny G T (({dst,op,guard:=some (s,want)},b,cs)::l) fs fr st K=@kV (fr s) want ⟨@wF fs b cs (op.foot (rho G fr) st) ⟨fun fs'=>@wOp T op (rho G fr) st ⟨fun d st'=>@wAny G T l fs' (fr.put dst d) st' K⟩⟩⟩ ⟨@wF fs b cs (some emptyF) ⟨fun fs'=>@wAny G T l fs' (fr.put dst (.tup [])) st K⟩⟩:=(rfl)
theorem kV_true(b:Bool)(x y:Br):@kV (.bool b) true x y=@ifB b x y:=by cases b <;> rfl
theorem kV_false(b:Bool)(x y:Br):@kV (.bool b) false x y=@ifB b y x:=by cases b <;> rfl
theorem kV_tup(want:Bool)(x:Br)(y:Prop):@kV (.tup []) want x ⟨y⟩=y:=(rfl)
section
variable (T:Tbl) (ρ:PA→D) (st:St) (K:D→St→Prop)
theorem on_map{α β:Type}(o:Option α)(f:α→β)(K:β→Prop):@on β (o.map f) ⟨K⟩=@on α o ⟨fun a=>K (f a)⟩:=by cases o <;> rfl
theorem k_mov(x:PA):@wOp T (.mov x) ρ st ⟨K⟩=@ev (ρ x) ⟨fun d=>K d st⟩:=(rfl)
def pickD(c x y:D):Option D:=match c with
 |.bool b=>some (if b then x else y)
 |_=>none
theorem pickD_true(x y:D):pickD (.bool true) x y=some x:=(rfl)
theorem pickD_false(x y:D):pickD (.bool false) x y=some y:=(rfl)
theorem pickD_bool(b c e:Bool):pickD (.bool b) (.bool c) (.bool e)=some (.bool (if b then c else e)):=by cases b <;> rfl
theorem k_pick(c x y:PA):@wOp T (.pick c x y) ρ st ⟨K⟩=@on _ (pickD (ρ c) (ρ x) (ρ y)) ⟨fun d=>K d st⟩:=by
 simp only[wOp,kOp,POp.exec,pickD]
 cases ρ c <;> rfl
def boxD(d:D):Option (List D):=if d.cells.all D.isCell then some d.cells else none
theorem k_box(x:PA):@wOp T (.box x) ρ st ⟨K⟩=@on _ (boxD (ρ x)) ⟨fun cs=>@ev2 (.ptr st.length 0) (st++[{row:=false,sz:=1,els:=cs,lent:=false}]) ⟨K⟩⟩:=by
 simp only[wOp,kOp,POp.exec,boxD]
 split <;> rfl
theorem k_bld(zero:List D)(parts:List (Nat×Nat×PA)):@wOp T (.bld zero parts) ρ st ⟨K⟩=@on _ (fillD zero (parts.map fun p=>(p.1,p.2.1,ρ p.2.2))) ⟨fun cs=>K (.agg cs) st⟩:=by
 simp only[wOp,kOp,POp.exec,on_map]
def litD(sz:Nat)(els:List D):Option D:=if(els.all fun e=>e.cells.length == sz) && decide (0<sz) && decide (els.length*sz≤16777216)then some (.slc sz els true)else none
theorem k_bslc(sz:Nat)(parts:List PA):@wOp T (.bslc sz parts) ρ st ⟨K⟩=@on _ (imms st (parts.map ρ)) ⟨fun els=>@on _ (litD sz els) ⟨fun d=>@ev2 d (lend ((parts.map ρ).flatMap keys) st) ⟨K⟩⟩⟩:=by
 simp only[wOp,kOp,POp.exec]
 cases imms st (parts.map ρ)with
 |none=>rfl
 |some els=>
  simp only[on]
  by_cases h:((els.all fun e=>e.cells.length == sz) && decide (0<sz) && decide (els.length*sz≤16777216))=true
  ·simp only[litD,h,if_true]; rfl
  ·simp only[litD,h,Bool.false_eq_true,if_false]
theorem k_load(n:Nat)(ag:Bool)(p:PA):@wOp T (.load n ag p) ρ st ⟨K⟩=@on _ (pload st n ag (ρ p)) ⟨fun d=>K d st⟩:=by
 simp only[wOp,kOp,POp.exec,on_map]
theorem k_stor(n:Nat)(p x:PA):@wOp T (.stor n p x) ρ st ⟨K⟩=@on _ (pstor st n (ρ p) (ρ x)) ⟨fun st'=>K (.tup []) st'⟩:=by
 simp only[wOp,kOp,POp.exec,on_map]
def nilcD(st:St)(d:D):Option D:=match d with
 |.ptr _ _ | .eptr _ _=>some d
 |.rptr key tot _ _=>if live st key tot then some d else none
 |_=>none
theorem k_nilc(x:PA):@wOp T (.nilc x) ρ st ⟨K⟩=@on _ (nilcD st (ρ x)) ⟨fun d=>K d st⟩:=by
 simp only[wOp,kOp,POp.exec,nilcD]
 cases ρ x with
 |rptr key tot i off=>
  simp only
  split <;> rfl
 |_=>rfl
theorem k_bin(op:BinOp)(x y:PA):@wOp T (.bin op x y) ρ st ⟨K⟩=@on _ (pbin op (ρ x) (ρ y)) ⟨fun d=>K d st⟩:=by
 simp only[wOp,kOp,POp.exec,on_map]
theorem k_aeq(ks:List Nat)(neg:Bool)(x y:PA):@wOp T (.aeq ks neg x y) ρ st ⟨K⟩=@on _ (paeq ks neg (ρ x) (ρ y)) ⟨fun d=>K d st⟩:=by
 simp only[wOp,kOp,POp.exec,on_map]
theorem k_un(op:UnOp)(x:PA):@wOp T (.un op x) ρ st ⟨K⟩=@on _ (pun op (ρ x)) ⟨fun d=>K d st⟩:=by
 simp only[wOp,kOp,POp.exec,on_map]
theorem k_conv(c:PConv)(x:PA):@wOp T (.conv c x) ρ st ⟨K⟩=@on _ (pconv st c (ρ x)) ⟨fun d=>K d st⟩:=by
 simp only[wOp,kOp,POp.exec,on_map]
theorem k_fld(off:Nat)(p:PA):@wOp T (.fld off p) ρ st ⟨K⟩=@on _ (pfld st off (ρ p)) ⟨fun d=>K d st⟩:=by
 simp only[wOp,kOp,POp.exec,on_map]
theorem k_fldv(off n:Nat)(ag:Bool)(x:PA):@wOp T (.fldv off n ag x) ρ st ⟨K⟩=@on _ (pfldv off n ag (ρ x)) ⟨fun d=>K d st⟩:=by
 simp only[wOp,kOp,POp.exec,on_map]
theorem k_idxS(sz:Nat)(x i:PA):@wOp T (.idxS sz x i) ρ st ⟨K⟩=@on _ (pidxS st sz (ρ x) (ρ i)) ⟨fun d=>K d st⟩:=by
 simp only[wOp,kOp,POp.exec,on_map]
theorem k_idxA(n sz:Nat)(p i:PA):@wOp T (.idxA n sz p i) ρ st ⟨K⟩=@on _ (pidxA st n sz (ρ p) (ρ i)) ⟨fun d=>K d st⟩:=by
 simp only[wOp,kOp,POp.exec,on_map]
theorem k_idxV(ln sz:Nat)(ag:Bool)(x i:PA):@wOp T (.idxV ln sz ag x i) ρ st ⟨K⟩=@on _ (pidxV ln sz ag (ρ x) (ρ i)) ⟨fun d=>K d st⟩:=by
 simp only[wOp,kOp,POp.exec,on_map]
def lenD(st:St)(str:Bool)(d:D):Option D:=if isStr d == str then(sLen st d).map fun(n:Nat)=>D.int .i64 (n:Int)else none
theorem k_len(str:Bool)(x:PA):@wOp T (.len str x) ρ st ⟨K⟩=@on _ (lenD st str (ρ x)) ⟨fun d=>K d st⟩:=by
 simp only[wOp,kOp,POp.exec,lenD]
 split
 ·simp only[on_map]
 ·rfl
theorem k_lenA(n:Nat):@wOp T (.lenA n) ρ st ⟨K⟩=@ev (.int .i64 (n:Int)) ⟨fun d=>K d st⟩:=(rfl)
theorem k_app(sz bytes:Nat)(s x:PA):@wOp T (.app sz bytes s x) ρ st ⟨K⟩=@on _ (papp st sz bytes (ρ s) (ρ x)) ⟨fun r=>K r.1 r.2⟩:=(rfl)
def mkmapD(sz:Nat):Option Obj:=if 1<mS sz∧sz≠1000003 then some {row:=false,sz,els:=[],lent:=false} else none
theorem k_mkmap(sz:Nat):@wOp T (.mkmap sz) ρ st ⟨K⟩=@on _ (mkmapD sz) ⟨fun o=>@ev2 (.mapv st.length) (st++[o]) ⟨K⟩⟩:=by
 simp only[wOp,kOp,POp.exec,mkmapD]
 split <;> rfl
theorem k_mapup(sz:Nat)(ks:List Nat)(m k v:PA):@wOp T (.mapup sz ks m k v) ρ st ⟨K⟩=@on _ (pmapup st sz ks (ρ m) (ρ k) (ρ v)) ⟨fun st'=>K (.tup []) st'⟩:=by
 simp only[wOp,kOp,POp.exec,on_map]
theorem k_mapget(sz:Nat)(ks:List Nat)(ok:Bool)(zero:D)(m k:PA):@wOp T (.mapget sz ks ok zero m k) ρ st ⟨K⟩=@on _ (pmapget st sz ks ok zero (ρ m) (ρ k)) ⟨fun d=>K d st⟩:=by
 simp only[wOp,kOp,POp.exec,on_map]
theorem k_cpy(sz:Nat)(d s:PA):@wOp T (.cpy sz d s) ρ st ⟨K⟩=@on _ (pcpy st sz (ρ d) (ρ s)) ⟨fun r=>K r.1 r.2⟩:=(rfl)
def mmD(isMax:Bool)(x y:D):Option D:=match x,y with
 |.int k a,.int _ b=>some (.int k (if isMax then(if b > a then b else a)else(if b<a then b else a)))
 |_,_=>none
theorem k_mm(isMax:Bool)(x y:PA):@wOp T (.mm isMax x y) ρ st ⟨K⟩=@on _ (mmD isMax (ρ x) (ρ y)) ⟨fun d=>K d st⟩:=by
 simp only[wOp,kOp,POp.exec,mmD]
 cases ρ x with
 |int k a=>cases ρ y <;> rfl
 |_=>rfl
theorem k_rcall(f:Nat)(args:List PA):@wOp T (.rcall f args) ρ st ⟨K⟩=@on _ (T.q f) ⟨fun sp=>@on _ (reads1 sp (args.map ρ) st) ⟨fun d=>K d st⟩⟩:=by
 simp only[wOp,kOp,POp.exec]
 cases T.q f with
 |none=>rfl
 |some sp=>simp only[on_some,on_map]
theorem k_icall(f:Nat)(args:List PA):@wOp T (.icall f args) ρ st ⟨K⟩=@on _ (T.i f) ⟨fun sp=>@on _ (sp (args.map ρ) st) ⟨fun r=>K r.1 r.2⟩⟩:=by
 simp only[wOp,kOp,POp.exec]
 cases T.i f <;> rfl
def cloD(T:Tbl)(d:D):Option ((List D→St→Option (D×St))×List D×List D):=match d with
 |.clo f caps=>if f<5000000 then(T.i f).map fun sp=>(sp,[],caps)else if f<10000000 then(T.i (f - 5000000)).map fun sp=>(sp,caps,[])else if caps.isEmpty then some (T.y (f - 10000000),[],[])else none
 |_=>none
theorem k_mcall(f:Nat)(args:List PA):@wOp T (.mcall f args) ρ st ⟨K⟩=@on _ (T.m f) ⟨fun sp=>@on _ (sp (args.map ρ)) ⟨fun r=>@ev2 (r.1 st.length) (st++r.2 st.length) ⟨K⟩⟩⟩:=by
 simp only[wOp,kOp,POp.exec]
 cases T.m f with
 |none=>rfl
 |some sp=>
  simp only[on]
  cases sp (args.map ρ) <;> rfl
theorem k_callv(x:PA)(args:List PA):@wOp T (.callv x args) ρ st ⟨K⟩=@on _ (cloD T (ρ x)) ⟨fun p=>@on _ (p.1 (p.2.1++(args.map ρ++p.2.2)) st) ⟨fun r=>K r.1 r.2⟩⟩:=by
 simp only[wOp,kOp,POp.exec,cloD]
 cases ρ x with
 |clo f caps=>
  simp only
  by_cases h5:f<5000000
  ·simp only[if_pos h5]
   cases T.i f <;> rfl
  ·by_cases h:f<10000000
   ·simp only[if_neg h5,if_pos h]
    cases T.i (f - 5000000)with
    |none=>rfl
    |some sp=>simp only[Option.map_some,on,List.append_nil]
   ·simp only[if_neg h5,if_neg h]
    cases caps with
    |nil=>simp only[List.isEmpty_nil,if_true,on,List.append_nil,List.nil_append]
    |cons a l=>rfl
 |_=>rfl
theorem k_mkclo(f:Nat)(caps:List PA):@wOp T (.mkclo f caps) ρ st ⟨K⟩=@ev (.clo f (caps.map ρ)) ⟨fun d=>K d st⟩:=(rfl)
theorem k_call(f:Nat)(args:List PA):@wOp T (.call f args) ρ st ⟨K⟩=@on _ (T.p f) ⟨fun sp=>@on _ (imms st (args.map ρ)) ⟨fun vs=>@on _ (sp vs) ⟨fun r=>@ev2 r (if r.noRef then st else lend ((args.map ρ).flatMap keys) st) ⟨K⟩⟩⟩⟩:=by
 simp only[wOp,kOp,POp.exec]
 cases T.p f with
 |none=>rfl
 |some sp=>
  cases imms st (args.map ρ)with
  |none=>rfl
  |some vs=>
   simp only[on]
   cases sp vs <;> rfl
def extD(d:D)(i:Nat):Option D:=match d with
 |.tup vs=>vs[i]?
 |_=>none
theorem k_ext(x:PA)(i:Nat):@wOp T (.ext x i) ρ st ⟨K⟩=@on _ (extD (ρ x) i) ⟨fun d=>K d st⟩:=by
 simp only[wOp,kOp,POp.exec,extD]
 cases ρ x with
 |tup vs=>simp only[on_map]
 |_=>rfl
theorem extD_0(a:D)(l:List D):extD (.tup (a::l)) 0=some a:=(rfl)
theorem extD_1(a b:D)(l:List D):extD (.tup (a::b::l)) 1=some b:=(rfl)
theorem extD_2(a b c:D)(l:List D):extD (.tup (a::b::c::l)) 2=some c:=(rfl)
end
theorem put_some(fr:Frame)(s:Nat)(d:D):fr.put (some s) d=fr.set s d:=(rfl)
theorem put_none(fr:Frame)(d:D):fr.put none d=fr:=(rfl)
theorem rho_s(G:Glob)(fr:Frame)(n:Nat):rho G fr (.s n)=fr n:=(rfl)
theorem rho_c(G:Glob)(fr:Frame)(d:D):rho G fr (.c d)=d:=(rfl)
theorem argF_0(a:D)(l:List D):argF (a::l) 0=a:=(rfl)
theorem argF_1(a b:D)(l:List D):argF (a::b::l) 1=b:=(rfl)
theorem argF_2(a b c:D)(l:List D):argF (a::b::c::l) 2=c:=(rfl)
theorem argF_3(a b c d:D)(l:List D):argF (a::b::c::d::l) 3=d:=(rfl)
theorem argF_4(a b c d e:D)(l:List D):argF (a::b::c::d::e::l) 4=e:=(rfl)
theorem argF_5(a b c d e f:D)(l:List D):argF (a::b::c::d::e::f::l) 5=f:=(rfl)
theorem argF_6(a b c d e f g:D)(l:List D):argF (a::b::c::d::e::f::g::l) 6=g:=(rfl)
theorem argF_7(a b c d e f g h:D)(l:List D):argF (a::b::c::d::e::f::g::h::l) 7=h:=(rfl)
def LoopN(B:Frame→St→(Ex→Frame→St→Prop)→Prop)(cut:PS→PS):Nat→PS→(Ex→Frame→St→Prop)→Prop
 |0,_,_=>False
 |n+1,s,Q=>B (cut s).fr (cut s).st fun e fr st=>match e with
  |.next=>LoopN B cut n ⟨fr,st⟩ Q
  |e=>Q e fr st
def W(G:Glob)(T:Tbl):PC→Frame→St→(Ex→Frame→St→Prop)→Prop
 |.skip,fr,st,Q=>Q .next fr st
 |.ops l,fr,st,Q=>kOps G T l fr st (Q .next)
 |.any l,fr,st,Q=>kAny G T l [] fr st (Q .next)
 |.anyK l,fr,st,Q=>∃ s',anysK G T l [] ⟨fr,st⟩=some s'∧Q .next s'.fr s'.st
 |.any2 keep l1 l2,fr,st,Q=>kAny G T l1 [] fr st fun fr1 st1=>kAny G T l2 [] fr st fun fr2 st2=>W2 keep st.length fr1 st1 fr2 st2 fun s=>Q .next s.fr s.st
 |.seq a b,fr,st,Q=>W G T a fr st fun e fr' st'=>match e with
  |.next=>W G T b fr' st' Q
  |e=>Q e fr' st'
 |.cond c a b,fr,st,Q=>@onB (rho G fr c) ⟨fun v=>@ifB v ⟨W G T a fr st Q⟩ ⟨W G T b fr st Q⟩⟩
 |.block id c,fr,st,Q=>W G T c fr st fun e fr' st'=>match e with
  |.exit id'=>if id'=id then Q .next fr' st' else Q (.exit id') fr' st'
  |e=>Q e fr' st'
 |.loop keep c,fr,st,Q=>∃ n,LoopN (W G T c) (restrict keep st.length) n ⟨fr,st⟩ Q
 |.loopA keep c,fr,st,Q=>∃ n,LoopN (W G T c) (keepAll keep) n ⟨fr,st⟩ Q
 |.opsX l,fr,st,Q=>kOpsX G T l fr st (Q .next) (fun t d=>Q (.panic t d))
 |.pan l d1 t x,fr,st,Q=>kOps G T l fr st fun fr' st'=>@ifB (intsD (rho G fr' x)) ⟨Q (.panic t (rho G fr' x)) (fr'.set d1 .junk) st'⟩ ⟨False⟩
 |.alt a b,fr,st,Q=>W G T a fr st Q∨(a.exec G T 0 ⟨fr,st⟩=none∧(∀ m,a.exec G T m ⟨fr,st⟩=none)∧W G T b fr st Q)
 |.range x ps a b,fr,st,Q=>∃ (n:Nat) (st':St) (e:Ex),(∀ m,n≤m→rangeRun T (rho G fr x) (roundY (a.exec G T m) (b.exec G T m) fr ps st.length) (st++[recO 0])=some st')∧recEx st' st.length=some e∧Q e fr (st'.set st.length (recO 2))
 |.exit id,fr,st,Q=>Q (.exit id) fr st
 |.ret,fr,st,Q=>Q .ret fr st
 |.fail,_,_,_=>False
theorem W_sound{G:Glob}{T:Tbl}:∀ (c:PC) (fr:Frame) (st:St) (Q:Ex→Frame→St→Prop),W G T c fr st Q→
  ∃ (n:Nat) (e:Ex) (fr':Frame) (st':St),(∀ m,n≤m→c.exec G T m ⟨fr,st⟩=some (e,⟨fr',st'⟩))∧Q e fr' st'
 |.skip,fr,st,Q,h=>⟨0,.next,fr,st,fun _ _=>rfl,h⟩
 |.ops l,fr,st,Q,h=>by
  obtain⟨fr',st',h1,h2⟩:=kOps_sound l fr st _ h
  exact⟨0,.next,fr',st',fun m _=>by simp only[PC.exec,h1],h2⟩
 |.any l,fr,st,Q,h=>by
  obtain⟨fr',st',h1,h2⟩:=kAny_sound l [] fr st _ h
  exact⟨0,.next,fr',st',fun m _=>by simp only[PC.exec,h1],h2⟩
 |.anyK l,fr,st,Q,h=>by
  obtain⟨s',h1,h2⟩:=h
  exact⟨0,.next,s'.fr,s'.st,fun m _=>by simp only[PC.exec,h1],h2⟩
 |.any2 keep l1 l2,fr,st,Q,h=>by
  obtain⟨fr1,st1,h1,h2⟩:=kAny_sound l1 [] fr st _ h
  obtain⟨fr2,st2,h3,h4⟩:=kAny_sound l2 [] fr st _ h2
  obtain⟨h5,h6⟩:=W2_spec h4
  exact⟨0,.next,_,_,fun m _=>by simp only[PC.exec,h1,h3,h5,Option.map_some],h6⟩
 |.seq a b,fr,st,Q,h=>by
  obtain⟨n,e,fr',st',h1,h2⟩:=W_sound a fr st _ h
  cases e with
  |next=>
   obtain⟨n',e',fr'',st'',h3,h4⟩:=W_sound b fr' st' _ h2
   exact⟨n+n',e',fr'',st'',fun m hm=>by simp only[PC.exec,h1 m (by omega),h3 m (by omega)],h4⟩
  |exit id=>exact⟨n,.exit id,fr',st',fun m hm=>by simp only[PC.exec,h1 m hm],h2⟩
  |ret=>exact⟨n,.ret,fr',st',fun m hm=>by simp only[PC.exec,h1 m hm],h2⟩
  |panic t d=>exact⟨n,.panic t d,fr',st',fun m hm=>by simp only[PC.exec,h1 m hm],h2⟩
 |.cond c a b,fr,st,Q,h=>by
  simp only[W,onB]at h
  split at h
  ·rename_i v hv
   cases v with
   |true=>
    obtain⟨n,e,fr',st',h1,h2⟩:=W_sound a fr st _ h
    exact⟨n,e,fr',st',fun m hm=>by simp only[PC.exec,hv,h1 m hm],h2⟩
   |false=>
    obtain⟨n,e,fr',st',h1,h2⟩:=W_sound b fr st _ h
    exact⟨n,e,fr',st',fun m hm=>by simp only[PC.exec,hv,h1 m hm],h2⟩
  ·exact h.elim
 |.block id c,fr,st,Q,h=>by
  obtain⟨n,e,fr',st',h1,h2⟩:=W_sound c fr st _ h
  cases e with
  |next=>exact⟨n,.next,fr',st',fun m hm=>by simp only[PC.exec,h1 m hm],h2⟩
  |ret=>exact⟨n,.ret,fr',st',fun m hm=>by simp only[PC.exec,h1 m hm],h2⟩
  |panic t d=>exact⟨n,.panic t d,fr',st',fun m hm=>by simp only[PC.exec,h1 m hm],h2⟩
  |exit id'=>
   simp only at h2
   split at h2
   ·rename_i hi
    exact⟨n,.next,fr',st',fun m hm=>by simp only[PC.exec,h1 m hm,hi,if_true],h2⟩
   ·rename_i hi
    exact⟨n,.exit id',fr',st',fun m hm=>by simp only[PC.exec,h1 m hm,hi,if_false],h2⟩
 |.loop keep c,fr,st,Q,h=>by
  obtain⟨k,h⟩:=h
  have key:∀ (k:Nat) (s:PS),LoopN (W G T c) (restrict keep st.length) k s Q→∃ (n:Nat) (e:Ex) (fr':Frame) (st':St),(∀ m q,n≤m→k≤q→loopx (c.exec G T m) (restrict keep st.length) q s=some (e,⟨fr',st'⟩))∧Q e fr' st':=by
   intro k
   induction k with
   |zero=>intro s h; exact h.elim
   |succ k ih=>
    intro s h
    obtain⟨n,e,fr',st',h1,h2⟩:=W_sound c _ _ _ h
    have h1':∀ m,n≤m→c.exec G T m (restrict keep st.length s)=some (e,⟨fr',st'⟩):=h1
    cases e with
    |next=>
     obtain⟨n',e',fr'',st'',h3,h4⟩:=ih _ h2
     refine⟨n+n',e',fr'',st'',fun m q hm hq=>?_,h4⟩
     obtain⟨q,rfl⟩:∃ q',q=q'+1:=⟨q - 1,by omega⟩
     simp only[loopx,h1' m (by omega)]
     exact h3 m q (by omega) (by omega)
    |exit id=>
     refine⟨n,.exit id,fr',st',fun m q hm hq=>?_,h2⟩
     obtain⟨q,rfl⟩:∃ q',q=q'+1:=⟨q - 1,by omega⟩
     simp only[loopx,h1' m hm]
    |ret=>
     refine⟨n,.ret,fr',st',fun m q hm hq=>?_,h2⟩
     obtain⟨q,rfl⟩:∃ q',q=q'+1:=⟨q - 1,by omega⟩
     simp only[loopx,h1' m hm]
    |panic t d=>
     refine⟨n,.panic t d,fr',st',fun m q hm hq=>?_,h2⟩
     obtain⟨q,rfl⟩:∃ q',q=q'+1:=⟨q - 1,by omega⟩
     simp only[loopx,h1' m hm]
  obtain⟨n,e,fr',st',h1,h2⟩:=key k _ h
  exact⟨n+k,e,fr',st',fun m hm=>by simp only[PC.exec]; exact h1 m m (by omega) (by omega),h2⟩
 |.loopA keep c,fr,st,Q,h=>by
  obtain⟨k,h⟩:=h
  have key:∀ (k:Nat) (s:PS),LoopN (W G T c) (keepAll keep) k s Q→∃ (n:Nat) (e:Ex) (fr':Frame) (st':St),(∀ m q,n≤m→k≤q→loopx (c.exec G T m) (keepAll keep) q s=some (e,⟨fr',st'⟩))∧Q e fr' st':=by
   intro k
   induction k with
   |zero=>intro s h; exact h.elim
   |succ k ih=>
    intro s h
    obtain⟨n,e,fr',st',h1,h2⟩:=W_sound c _ _ _ h
    have h1':∀ m,n≤m→c.exec G T m (keepAll keep s)=some (e,⟨fr',st'⟩):=h1
    cases e with
    |next=>
     obtain⟨n',e',fr'',st'',h3,h4⟩:=ih _ h2
     refine⟨n+n',e',fr'',st'',fun m q hm hq=>?_,h4⟩
     obtain⟨q,rfl⟩:∃ q',q=q'+1:=⟨q - 1,by omega⟩
     simp only[loopx,h1' m (by omega)]
     exact h3 m q (by omega) (by omega)
    |exit id=>
     refine⟨n,.exit id,fr',st',fun m q hm hq=>?_,h2⟩
     obtain⟨q,rfl⟩:∃ q',q=q'+1:=⟨q - 1,by omega⟩
     simp only[loopx,h1' m hm]
    |ret=>
     refine⟨n,.ret,fr',st',fun m q hm hq=>?_,h2⟩
     obtain⟨q,rfl⟩:∃ q',q=q'+1:=⟨q - 1,by omega⟩
     simp only[loopx,h1' m hm]
    |panic t d=>
     refine⟨n,.panic t d,fr',st',fun m q hm hq=>?_,h2⟩
     obtain⟨q,rfl⟩:∃ q',q=q'+1:=⟨q - 1,by omega⟩
     simp only[loopx,h1' m hm]
  obtain⟨n,e,fr',st',h1,h2⟩:=key k _ h
  exact⟨n+k,e,fr',st',fun m hm=>by simp only[PC.exec]; exact h1 m m (by omega) (by omega),h2⟩
 |.range x ps a b,fr,st,Q,h=>by
  obtain⟨n,st',e,h1,h3,h2⟩:=h
  exact⟨n,e,fr,_,fun m hm=>by simp only[PC.exec,h1 m hm,Option.bind_some,h3,Option.map_some],h2⟩
 |.opsX l,fr,st,Q,h=>by
  rcases kOpsX_sound l fr st _ _ h with⟨fr',st',h1,h2⟩ | ⟨t,d,fr',st',h1,h2,h3⟩
  ·exact⟨0,.next,fr',st',fun m _=>by simp only[PC.exec,h1],h2⟩
  ·exact⟨0,.panic t d,fr',st',fun m _=>by simp only[PC.exec,h1,h2,Option.map_some],h3⟩
 |.pan l d1 t x,fr,st,Q,h=>by
  obtain⟨fr',st',h1,h2⟩:=kOps_sound l fr st _ h
  unfold ifB at h2
  split at h2
  ·rename_i hi
   exact⟨0,.panic t (rho G fr' x),fr'.set d1 .junk,st',fun m _=>by simp only[PC.exec,h1,hi,if_true],h2⟩
  ·exact h2.elim
 |.alt a b,fr,st,Q,h=>by
  rcases h with h | ⟨_,h1,h⟩
  ·obtain⟨n,e,fr',st',h1,h2⟩:=W_sound a fr st _ h
   exact⟨n,e,fr',st',fun m hm=>by simp only[PC.exec,h1 m hm],h2⟩
  ·obtain⟨n,e,fr',st',h2,h3⟩:=W_sound b fr st _ h
   exact⟨n,e,fr',st',fun m hm=>by simp only[PC.exec,h1 m,h2 m hm],h3⟩
 |.exit id,fr,st,Q,h=>⟨0,.exit id,fr,st,fun _ _=>rfl,h⟩
 |.ret,fr,st,Q,h=>⟨0,.ret,fr,st,fun _ _=>rfl,h⟩
 |.fail,_,_,_,h=>h.elim
theorem kOps_mono{G:Glob}{T:Tbl}:∀ (l:List PI) (fr:Frame) (st:St) (K K':Frame→St→Prop),kOps G T l fr st K→(∀ fr st,K fr st→K' fr st)→kOps G T l fr st K'
 |[],_,_,_,_,h,hk=>hk _ _ h
 |i::l,fr,st,K,K',h,hk=>by
  have h1:kOp T i.op (rho G fr) st (fun d st'=>kOps G T l (fr.put i.dst d) st' K)→kOp T i.op (rho G fr) st (fun d st'=>kOps G T l (fr.put i.dst d) st' K'):=by
   unfold kOp on
   split
   ·exact fun h=>kOps_mono l _ _ _ _ h hk
   ·exact id
  have h2:kOps G T l (fr.put i.dst (.tup [])) st K→kOps G T l (fr.put i.dst (.tup [])) st K':=fun h=>kOps_mono l _ _ _ _ h hk
  rw[kOps]at h ⊢
  unfold kG at h ⊢
  split
  ·simp_all
  ·simp_all
   split
   ·simp_all
    rename_i b hb
    rename_i want _ _
    revert h
    unfold ifB
    split
    ·exact fun h=>h1 h
    ·exact fun h=>h2 h
   ·simp_all
   ·simp_all
theorem W_mono{G:Glob}{T:Tbl}:∀ (c:PC) (fr:Frame) (st:St) (Q Q':Ex→Frame→St→Prop),W G T c fr st Q→(∀ e fr st,Q e fr st→Q' e fr st)→W G T c fr st Q'
 |.skip,fr,st,Q,Q',h,hq=>hq _ _ _ h
 |.ops l,fr,st,Q,Q',h,hq=>kOps_mono l fr st _ _ h fun fr st h=>hq _ _ _ h
 |.any l,fr,st,Q,Q',h,hq=>kAny_mono l [] fr st _ _ h fun fr st h=>hq _ _ _ h
 |.anyK l,fr,st,Q,Q',h,hq=>h.elim fun s' h=>⟨s',h.1,hq _ _ _ h.2⟩
 |.any2 keep l1 l2,fr,st,Q,Q',h,hq=>kAny_mono l1 [] fr st _ _ h fun fr1 st1 h=>kAny_mono l2 [] fr st _ _ h fun fr2 st2 h=>W2_mono h fun s h=>hq _ _ _ h
 |.seq a b,fr,st,Q,Q',h,hq=>by
  refine W_mono a fr st _ _ h fun e fr' st' h=>?_
  cases e with
  |next=>exact W_mono b _ _ _ _ h hq
  |exit id=>exact hq _ _ _ h
  |ret=>exact hq _ _ _ h
  |panic t d=>exact hq _ _ _ h
 |.cond c a b,fr,st,Q,Q',h,hq=>by
  simp only[W,onB]at h ⊢
  split
  ·rename_i v hv
   rw[hv]at h
   simp only at h
   cases v with
   |true=>exact W_mono a _ _ _ _ h hq
   |false=>exact W_mono b _ _ _ _ h hq
  ·rename_i hv
   split at h
   ·rename_i v hv'; exact absurd hv' (hv v)
   ·exact h
 |.block id c,fr,st,Q,Q',h,hq=>by
  refine W_mono c fr st _ _ h fun e fr' st' h=>?_
  cases e with
  |next=>exact hq _ _ _ h
  |ret=>exact hq _ _ _ h
  |panic t d=>exact hq _ _ _ h
  |exit id'=>
   simp only at h ⊢
   split at h
   ·rename_i hi; simp only[hi,if_true]; exact hq _ _ _ h
   ·rename_i hi; simp only[hi,if_false]; exact hq _ _ _ h
 |.loop keep c,fr,st,Q,Q',h,hq=>by
  obtain⟨k,h⟩:=h
  refine⟨k,?_⟩
  have key:∀ (k:Nat) (s:PS),LoopN (W G T c) (restrict keep st.length) k s Q→LoopN (W G T c) (restrict keep st.length) k s Q':=by
   intro k
   induction k with
   |zero=>intro s h; exact h
   |succ k ih=>
    intro s h
    refine W_mono c _ _ _ _ h fun e fr' st' h=>?_
    cases e with
    |next=>exact ih _ h
    |exit id=>exact hq _ _ _ h
    |ret=>exact hq _ _ _ h
    |panic t d=>exact hq _ _ _ h
  exact key k _ h
 |.loopA keep c,fr,st,Q,Q',h,hq=>by
  obtain⟨k,h⟩:=h
  refine⟨k,?_⟩
  have key:∀ (k:Nat) (s:PS),LoopN (W G T c) (keepAll keep) k s Q→LoopN (W G T c) (keepAll keep) k s Q':=by
   intro k
   induction k with
   |zero=>intro s h; exact h
   |succ k ih=>
    intro s h
    refine W_mono c _ _ _ _ h fun e fr' st' h=>?_
    cases e with
    |next=>exact ih _ h
    |exit id=>exact hq _ _ _ h
    |ret=>exact hq _ _ _ h
    |panic t d=>exact hq _ _ _ h
  exact key k _ h
 |.range x ps a b,fr,st,Q,Q',h,hq=>by
  obtain⟨n,st',e,h1,h3,h2⟩:=h
  exact⟨n,st',e,h1,h3,hq _ _ _ h2⟩
 |.opsX l,fr,st,Q,Q',h,hq=>kOpsX_mono l fr st _ _ _ _ h (fun _ _ h=>hq _ _ _ h) fun _ _ _ _ h=>hq _ _ _ h
 |.pan l d1 t x,fr,st,Q,Q',h,hq=>kOps_mono l fr st _ _ h fun fr' st' h=>by
  unfold ifB at h ⊢
  split
  ·rename_i hi
   rw[if_pos hi]at h
   exact hq _ _ _ h
  ·rename_i hi
   rw[if_neg hi]at h
   exact h
 |.alt a b,fr,st,Q,Q',h,hq=>h.imp (fun h=>W_mono a _ _ _ _ h hq) fun h=>⟨h.1,h.2.1,W_mono b _ _ _ _ h.2.2 hq⟩
 |.exit id,fr,st,Q,Q',h,hq=>hq _ _ _ h
 |.ret,fr,st,Q,Q',h,hq=>hq _ _ _ h
 |.fail,_,_,_,_,h,_=>h.elim
theorem W_loop{G:Glob}{T:Tbl}{ι:Type}(hd:ι→List (Nat×D))(hs:ι→St)(P:ι→Prop)(μ:ι→Nat)(i0:ι){keep:List Nat}{c:PC}{fr:Frame}{st:St}{Q:Ex→Frame→St→Prop}
  (h0:restrict keep st.length ⟨fr,st⟩=⟨mkF (hd i0),hs i0⟩) (hP:P i0)
  (hstep:∀ i,P i→W G T c (mkF (hd i)) (hs i) fun e fr' st'=>match e with
   |.next=>∃ j,P j∧μ j<μ i∧restrict keep st.length ⟨fr',st'⟩=⟨mkF (hd j),hs j⟩
   |e=>Q e fr' st'):W G T (.loop keep c) fr st Q:=by
 have key:∀ (n:Nat) (i:ι) (s:PS),μ i<n→P i→restrict keep st.length s=⟨mkF (hd i),hs i⟩→LoopN (W G T c) (restrict keep st.length) n s Q:=by
  intro n
  induction n with
  |zero=>intro i s h _ _; exact absurd h (Nat.not_lt_zero _)
  |succ n ih=>
   intro i s hi hPi hr
   simp only[LoopN,hr]
   refine W_mono c _ _ _ _ (hstep i hPi) fun e fr' st' h=>?_
   cases e with
   |next=>
    obtain⟨j,h1,h2,h3⟩:=h
    exact ih j _ (by omega) h1 h3
   |exit id=>exact h
   |ret=>exact h
   |panic t d=>exact h
 exact⟨μ i0+1,key _ i0 _ (Nat.lt_succ_self _) hP h0⟩
theorem W_loopA{G:Glob}{T:Tbl}{ι:Type}(hd:ι→List (Nat×D))(hs:ι→St)(P:ι→Prop)(μ:ι→Nat)(i0:ι){keep:List Nat}{c:PC}{fr:Frame}{st:St}{Q:Ex→Frame→St→Prop}
  (h0:keepAll keep ⟨fr,st⟩=⟨mkF (hd i0),hs i0⟩) (hP:P i0)
  (hstep:∀ i,P i→W G T c (mkF (hd i)) (hs i) fun e fr' st'=>match e with
   |.next=>∃ j,P j∧μ j<μ i∧keepAll keep ⟨fr',st'⟩=⟨mkF (hd j),hs j⟩
   |e=>Q e fr' st'):W G T (.loopA keep c) fr st Q:=by
 have key:∀ (n:Nat) (i:ι) (s:PS),μ i<n→P i→keepAll keep s=⟨mkF (hd i),hs i⟩→LoopN (W G T c) (keepAll keep) n s Q:=by
  intro n
  induction n with
  |zero=>intro i s h _ _; exact absurd h (Nat.not_lt_zero _)
  |succ n ih=>
   intro i s hi hPi hr
   simp only[LoopN,hr]
   refine W_mono c _ _ _ _ (hstep i hPi) fun e fr' st' h=>?_
   cases e with
   |next=>
    obtain⟨j,h1,h2,h3⟩:=h
    exact ih j _ (by omega) h1 h3
   |exit id=>exact h
   |ret=>exact h
   |panic t d=>exact h
 exact⟨μ i0+1,key _ i0 _ (Nat.lt_succ_self _) hP h0⟩
def wW(G:Glob)(T:Tbl)(c:PC)(fr:Frame)(st:St)[Q:QC]:Prop:=W G T c fr st Q.run
theorem W_of{G:Glob}{T:Tbl}{c:PC}{fr:Frame}{st:St}{Q:Ex→Frame→St→Prop}(h:@wW G T c fr st ⟨Q⟩):W G T c fr st Q:=h
theorem wW_mk{G:Glob}{T:Tbl}{c:PC}{fr:Frame}{st:St}{Q:Ex→Frame→St→Prop}(h:W G T c fr st Q):@wW G T c fr st ⟨Q⟩:=h
theorem W_skip(G:Glob)(T:Tbl)(fr:Frame)(st:St)(Q:Ex→Frame→St→Prop):@wW G T .skip fr st ⟨Q⟩=Q .next fr st:=(rfl)
theorem W_ops(G:Glob)(T:Tbl)(l:List PI)(fr:Frame)(st:St)(Q:Ex→Frame→St→Prop):@wW G T (.ops l) fr st ⟨Q⟩=@wOps G T l fr st ⟨Q .next⟩:=(rfl)
theorem W_any(G:Glob)(T:Tbl)(l:List (PI×Bool×List Nat))(fr:Frame)(st:St)(Q:Ex→Frame→St→Prop):@wW G T (.any l) fr st ⟨Q⟩=@wAny G T l [] fr st ⟨Q .next⟩:=(rfl)
theorem W_any2(G:Glob)(T:Tbl)(keep:List Nat)(l1 l2:List (PI×Bool×List Nat))(fr:Frame)(st:St)(Q:Ex→Frame→St→Prop):@wW G T (.any2 keep l1 l2) fr st ⟨Q⟩=
  @wAny G T l1 [] fr st ⟨fun fr1 st1=>@wAny G T l2 [] fr st ⟨fun fr2 st2=>@ifB (st1.length == st.length+2 && st2.length == st.length+2) ⟨@sameP (restrictAt keep st.length [st.length,st.length+1] ⟨fr1,st1⟩) (restrictAt keep st.length [st.length+1,st.length] ⟨fr2,st2⟩) ⟨fun s=>Q .next s.fr s.st⟩⟩ ⟨False⟩⟩⟩:=(rfl)
def thenW(G:Glob)(T:Tbl)(b:PC)[Q:QC](e:Ex)(fr:Frame)(st:St):Prop:=match e with
 |.next=>W G T b fr st Q.run
 |e=>Q.run e fr st
theorem W_seq(G:Glob)(T:Tbl)(a b:PC)(fr:Frame)(st:St)(Q:QC):@wW G T (.seq a b) fr st Q=@wW G T a fr st ⟨@thenW G T b Q⟩:=(rfl)
theorem then_next(G:Glob)(T:Tbl)(b:PC)(Q:QC)(fr:Frame)(st:St):@thenW G T b Q .next fr st=@wW G T b fr st Q:=(rfl)
theorem then_exit(G:Glob)(T:Tbl)(b:PC)(Q:Ex→Frame→St→Prop)(id:Nat)(fr:Frame)(st:St):@thenW G T b ⟨Q⟩ (.exit id) fr st=Q (.exit id) fr st:=(rfl)
theorem then_ret(G:Glob)(T:Tbl)(b:PC)(Q:Ex→Frame→St→Prop)(fr:Frame)(st:St):@thenW G T b ⟨Q⟩ .ret fr st=Q .ret fr st:=(rfl)
theorem then_panic(G:Glob)(T:Tbl)(b:PC)(Q:Ex→Frame→St→Prop)(t:Nat)(d:D)(fr:Frame)(st:St):@thenW G T b ⟨Q⟩ (.panic t d) fr st=Q (.panic t d) fr st:=(rfl)
theorem W_opsX(G:Glob)(T:Tbl)(l:List PI)(fr:Frame)(st:St)(Q:Ex→Frame→St→Prop):@wW G T (.opsX l) fr st ⟨Q⟩=@wOpsX G T l fr st ⟨Q .next⟩ ⟨fun t d=>Q (.panic t d)⟩:=(rfl)
theorem W_pan(G:Glob)(T:Tbl)(l:List PI)(d1 t:Nat)(x:PA)(fr:Frame)(st:St)(Q:Ex→Frame→St→Prop):@wW G T (.pan l d1 t x) fr st ⟨Q⟩=@wOps G T l fr st ⟨fun fr' st'=>@ifB (intsD (rho G fr' x)) ⟨Q (.panic t (rho G fr' x)) (fr'.set d1 .junk) st'⟩ ⟨False⟩⟩:=(rfl)
theorem kAny_complete{G:Glob}{T:Tbl}:∀ (l:List (PI×Bool×List Nat)) (fs:List (Option Foot)) (s s':PS),anys G T l fs s=some s'→kAny G T l fs s.fr s.st fun _ _=>True
 |[],_,_,_,_=>trivial
 |(i,b,cs)::l,fs,s,s',h=>by
  simp only[anys]at h
  split at h
  case isFalse=>cases h
  rename_i hc
  split at h
  case h_2=>cases h
  rename_i s1 hs1
  rw[kAny]
  unfold kG
  simp only
  simp only[PI.exec]at hs1
  split at hs1
  ·cases hs1
  ·rename_i hw
   simp only[Option.some.injEq]at hs1
   subst hs1
   have hk:=kAny_complete l _ _ _ h
   have hf:i.foot G s=some emptyF:=by simp[PI.foot,hw]
   rw[hf]at hk hc
   have goal:kF fs b cs (some emptyF) fun fs'=>kAny G T l fs' (s.fr.put i.dst (.tup [])) s.st fun _ _=>True:=by
    unfold kF ifB
    rw[if_pos hc]
    exact hk
   unfold PI.wanted at hw
   split
   ·rename_i hg; rw[hg]at hw; cases hw
   ·rename_i sl want hg
    rw[hg]at hw
    simp only at hw
    split
    ·rename_i v hv
     rw[hv]at hw
     simp only[Option.some.injEq]at hw
     rw[hw]
     exact goal
    ·exact goal
    ·rename_i h1 h2
     split at hw
     ·rename_i v hv; exact absurd hv (h1 v)
     ·rename_i hv; exact absurd hv h2
     ·cases hw
  ·rename_i hw
   split at hs1
   case h_2=>cases hs1
   rename_i d st1 hd
   simp only[Option.some.injEq]at hs1
   subst hs1
   have hk:=kAny_complete l _ _ _ h
   have hf:i.foot G s=i.op.foot (rho G s.fr) s.st:=by simp[PI.foot,hw]
   rw[hf]at hk hc
   have goal:kF fs b cs (i.op.foot (rho G s.fr) s.st) fun fs'=>kOp T i.op (rho G s.fr) s.st fun d st'=>kAny G T l fs' (s.fr.put i.dst d) st' fun _ _=>True:=by
    unfold kF ifB kOp
    rw[if_pos hc,hd]
    exact hk
   unfold PI.wanted at hw
   split
   ·exact goal
   ·rename_i sl want hg
    rw[hg]at hw
    simp only at hw
    split
    ·rename_i v hv
     rw[hv]at hw
     simp only[Option.some.injEq]at hw
     rw[hw]
     exact goal
    ·rename_i hv
     rw[hv]at hw
     cases hw
    ·rename_i h1 h2
     split at hw
     ·rename_i v hv; exact absurd hv (h1 v)
     ·rename_i hv; exact absurd hv h2
     ·cases hw
theorem W_altR1{G:Glob}{T:Tbl}{l:List (PI×Bool×List Nat)}{b:PC}{fr:Frame}{st:St}{Q:QC}(h1:¬ @wAny G T l [] fr st ⟨fun _ _=>True⟩)(h:@wW G T b fr st Q):@wW G T (.alt (.any l) b) fr st Q:=by
 have:∀ m,(PC.any l).exec G T m ⟨fr,st⟩=none:=fun m=>by
  cases h2:anys G T l [] ⟨fr,st⟩with
  |none=>simp only[PC.exec,h2]
  |some s'=>exact absurd (kAny_complete l [] _ _ h2) h1
 exact .inr ⟨this 0,this,h⟩
theorem W_altL{G:Glob}{T:Tbl}{a b:PC}{fr:Frame}{st:St}{Q:QC}(h:@wW G T a fr st Q):@wW G T (.alt a b) fr st Q:=.inl h
theorem W_cond(G:Glob)(T:Tbl)(c:PA)(a b:PC)(fr:Frame)(st:St)(Q:QC):@wW G T (.cond c a b) fr st Q=@onB (rho G fr c) ⟨fun v=>@ifB v ⟨@wW G T a fr st Q⟩ ⟨@wW G T b fr st Q⟩⟩:=(rfl)
def outW(id:Nat)[Q:QC](e:Ex)(fr:Frame)(st:St):Prop:=match e with
 |.exit id'=>if id'=id then Q.run .next fr st else Q.run (.exit id') fr st
 |e=>Q.run e fr st
theorem W_block(G:Glob)(T:Tbl)(id:Nat)(c:PC)(fr:Frame)(st:St)(Q:QC):@wW G T (.block id c) fr st Q=@wW G T c fr st ⟨@outW id Q⟩:=(rfl)
theorem out_next(id:Nat)(Q:Ex→Frame→St→Prop)(fr:Frame)(st:St):@outW id ⟨Q⟩ .next fr st=Q .next fr st:=(rfl)
theorem out_ret(id:Nat)(Q:Ex→Frame→St→Prop)(fr:Frame)(st:St):@outW id ⟨Q⟩ .ret fr st=Q .ret fr st:=(rfl)
theorem out_panic(id:Nat)(Q:Ex→Frame→St→Prop)(t:Nat)(d:D)(fr:Frame)(st:St):@outW id ⟨Q⟩ (.panic t d) fr st=Q (.panic t d) fr st:=(rfl)
theorem out_eq(id id':Nat)(Q:Ex→Frame→St→Prop)(fr:Frame)(st:St):@outW id ⟨Q⟩ (.exit id') fr st=if id'=id then Q .next fr st else Q (.exit id') fr st:=(rfl)
theorem W_exit(G:Glob)(T:Tbl)(id:Nat)(fr:Frame)(st:St)(Q:Ex→Frame→St→Prop):@wW G T (.exit id) fr st ⟨Q⟩=Q (.exit id) fr st:=(rfl)
theorem W_ret(G:Glob)(T:Tbl)(fr:Frame)(st:St)(Q:Ex→Frame→St→Prop):@wW G T .ret fr st ⟨Q⟩=Q .ret fr st:=(rfl)
def retQ(res:List PRes)(r:D)(e:Ex)(fr:Frame)(st:St):Prop:=match e with
 |.exit _ | .panic _ _=>False
 |_=>(gets ⟨fr,st⟩ res).map pack=some r
theorem retQ_ret(res:List PRes)(r:D)(fr:Frame)(st:St):retQ res r .ret fr st=((gets ⟨fr,st⟩ res).map pack=some r):=(rfl)
theorem retQ_next(res:List PRes)(r:D)(fr:Frame)(st:St):retQ res r .next fr st=((gets ⟨fr,st⟩ res).map pack=some r):=(rfl)
def retI(res:List PRes)[R:Cont2 D St](e:Ex)(fr:Frame)(st:St):Prop:=match e with
 |.exit _ | .panic _ _=>False
 |_=>@on _ (raws ⟨fr,st⟩ res) ⟨fun l=>R.run (pack l) st⟩
theorem retI_ret(res:List PRes)(R:D→St→Prop)(fr:Frame)(st:St):@retI res ⟨R⟩ .ret fr st=@on _ (raws ⟨fr,st⟩ res) ⟨fun l=>R (pack l) st⟩:=(rfl)
theorem retI_next(res:List PRes)(R:D→St→Prop)(fr:Frame)(st:St):@retI res ⟨R⟩ .next fr st=@on _ (raws ⟨fr,st⟩ res) ⟨fun l=>R (pack l) st⟩:=(rfl)
theorem run_of_W{G:Glob}{T:Tbl}{F:PF}{ds:List D}{r:D}(h:W G T F.code (argF ds) [] (retQ F.res r)):∃ fuel,F.run G T fuel ds=some r:=by
 obtain⟨n,e,fr',st',h1,h2⟩:=W_sound _ _ _ _ h
 refine⟨n,?_⟩
 unfold PF.run
 rw[h1 n (Nat.le_refl _)]
 cases e with
 |next=>exact h2
 |ret=>exact h2
 |exit id=>exact h2.elim
 |panic t d=>exact h2.elim
theorem runI_of_W{G:Glob}{T:Tbl}{F:PF}{ds:List D}{st:St}{R:D→St→Prop}(h:W G T F.code (argF ds) st (@retI F.res ⟨R⟩)):∃ fuel r st',(∀ m,fuel≤m→F.runI G T m ds st=some (r,st'))∧R r st':=by
 obtain⟨n,e,fr',st',h1,h2⟩:=W_sound _ _ _ _ h
 have key:∀ (h2:@on _ (raws ⟨fr',st'⟩ F.res) ⟨fun l=>R (pack l) st'⟩) (he:e=.next∨e=.ret),∃ fuel r st',(∀ m,fuel≤m→F.runI G T m ds st=some (r,st'))∧R r st':=by
  intro h2 he
  unfold on at h2
  split at h2
  ·rename_i l hl
   refine⟨n,pack l,st',fun m hm=>?_,h2⟩
   unfold PF.runI
   rw[h1 m hm]
   rcases he with rfl | rfl <;> simp[hl]
  ·exact h2.elim
 cases e with
 |next=>exact key h2 (.inl rfl)
 |ret=>exact key h2 (.inr rfl)
 |exit id=>exact h2.elim
 |panic t d=>exact h2.elim
def retX[X:XC0](e:Ex)(_:Frame)(st:St):Prop:=match e with
 |.panic t d=>X.run t d st
 |_=>False
theorem retX_panic(X:Nat→D→St→Prop)(t:Nat)(d:D)(fr:Frame)(st:St):@retX ⟨X⟩ (.panic t d) fr st=X t d st:=(rfl)
theorem runX_of_W{G:Glob}{T:Tbl}{F:PF}{ds:List D}{st:St}{X:Nat→D→St→Prop}(h:W G T F.code (argF ds) st (@retX ⟨X⟩)):∃ fuel t d st',(∀ m,fuel≤m→F.runX G T m ds st=some (t,d,st'))∧X t d st':=by
 obtain⟨n,e,fr',st',h1,h2⟩:=W_sound _ _ _ _ h
 cases e with
 |panic t d=>exact⟨n,t,d,st',fun m hm=>by unfold PF.runX; rw[h1 m hm],h2⟩
 |_=>exact h2.elim
def retD(h:Nat→D→List D→St→Option St)(das:List D)(res:List PRes)[R:Cont2 D St](e:Ex)(fr:Frame)(st:St):Prop:=match e with
 |.exit _=>False
 |.panic t d=>@on _ (h t d das st) ⟨fun st3=>@on _ (raws ⟨fr,st3⟩ res) ⟨fun l=>R.run (pack l) st3⟩⟩
 |_=>@on _ (raws ⟨fr,st⟩ res) ⟨fun l=>R.run (pack l) st⟩
theorem retD_ret(h:Nat→D→List D→St→Option St)(das:List D)(res:List PRes)(R:D→St→Prop)(fr:Frame)(st:St):@retD h das res ⟨R⟩ .ret fr st=@on _ (raws ⟨fr,st⟩ res) ⟨fun l=>R (pack l) st⟩:=(rfl)
theorem retD_next(h:Nat→D→List D→St→Option St)(das:List D)(res:List PRes)(R:D→St→Prop)(fr:Frame)(st:St):@retD h das res ⟨R⟩ .next fr st=@on _ (raws ⟨fr,st⟩ res) ⟨fun l=>R (pack l) st⟩:=(rfl)
theorem retD_panic(h:Nat→D→List D→St→Option St)(das:List D)(res:List PRes)(R:D→St→Prop)(t:Nat)(d:D)(fr:Frame)(st:St) :
  @retD h das res ⟨R⟩ (.panic t d) fr st=@on _ (h t d das st) ⟨fun st3=>@on _ (raws ⟨fr,st3⟩ res) ⟨fun l=>R (pack l) st3⟩⟩:=(rfl)
def retDQ(h:Nat→D→List D→St→Option St)(das:List D)(res:List PRes)(r:D)(e:Ex)(fr:Frame)(st:St):Prop:=match e with
 |.exit _=>False
 |.panic t d=>@on _ (h t d das st) ⟨fun st3=>(gets ⟨fr,st3⟩ res).map pack=some r⟩
 |_=>(gets ⟨fr,st⟩ res).map pack=some r
theorem retDQ_ret(h:Nat→D→List D→St→Option St)(das:List D)(res:List PRes)(r:D)(fr:Frame)(st:St):retDQ h das res r .ret fr st=((gets ⟨fr,st⟩ res).map pack=some r):=(rfl)
theorem retDQ_next(h:Nat→D→List D→St→Option St)(das:List D)(res:List PRes)(r:D)(fr:Frame)(st:St):retDQ h das res r .next fr st=((gets ⟨fr,st⟩ res).map pack=some r):=(rfl)
theorem retDQ_panic(h:Nat→D→List D→St→Option St)(das:List D)(res:List PRes)(r:D)(t:Nat)(d:D)(fr:Frame)(st:St):retDQ h das res r (.panic t d) fr st=@on _ (h t d das st) ⟨fun st3=>(gets ⟨fr,st3⟩ res).map pack=some r⟩:=(rfl)
def wDf(G:Glob)(T:Tbl)(F:PFD)(H:HTbl)(ds:List D)(st:St)(K:(Nat→D→List D→St→Option St)→List D→Ex→Frame→St→Prop):Prop:=
 @wOps G T F.pre (argF ds) st ⟨fun fr1 st1=>@on _ (putOff (rho G fr1 F.hf) (F.ha.map (rho G fr1))) ⟨fun p=>@on _ (H p.1) ⟨fun h=>@wW G T F.code fr1 st1 ⟨K h p.2⟩⟩⟩⟩
theorem runD_of_W{G:Glob}{T:Tbl}{F:PFD}{H:HTbl}{ds:List D}{st:St}{K:(Nat→D→List D→St→Option St)→List D→Ex→Frame→St→Prop}(h:wDf G T F H ds st K) :
  ∃ n s1 f das h' e fr' st',execs G T F.pre ⟨argF ds,st⟩=some s1∧putOff (rho G s1.fr F.hf) (F.ha.map (rho G s1.fr))=some (f,das)∧H f=some h'∧(∀ m,n≤m→F.code.exec G T m s1=some (e,⟨fr',st'⟩))∧K h' das e fr' st':=by
 obtain⟨fr1,st1,h1,h2⟩:=kOps_sound _ _ _ _ h
 simp only at h2
 unfold on at h2
 split at h2
 case h_2=>exact h2.elim
 rename_i p hp
 simp only at h2
 split at h2
 case h_2=>exact h2.elim
 rename_i h' hh
 obtain⟨n,e,fr',st',h3,h4⟩:=W_sound _ _ _ _ (show W G T F.code fr1 st1 (K h' p.2)from h2)
 exact⟨n,⟨fr1,st1⟩,p.1,p.2,h',e,fr',st',h1,hp,hh,h3,h4⟩
theorem ckF_nil(fs:List (Option Foot))(g:Option Foot):ckF fs g []=true:=(rfl)
theorem ckF_cons(fs:List (Option Foot))(g:Option Foot)(j:Nat)(r:List Nat):ckF fs g (j::r)=(ck1 fs[j]? g && ckF fs g r):=(rfl)
theorem ck1_eq(f g:Foot):ck1 (some (some f)) (some g)=f.ok g:=(rfl)
theorem ok_eq(r w r' w':List Nat)(m m':Option Nat):Foot.ok ⟨r,w,m⟩ ⟨r',w',m'⟩=(away w' r && away w' w && away w r' && awayM m r' && awayM m w' && awayM m' r && awayM m' w && (m.isNone || m'.isNone)):=(rfl)
theorem away_nil(b:List Nat):away [] b=true:=(rfl)
theorem away_cons(k:Nat)(a b:List Nat):away (k::a) b=(!b.contains k && away a b):=by simp[away]
theorem awayM_none(a:List Nat):awayM none a=true:=(rfl)
theorem awayM_snil(n:Nat):awayM (some n) []=true:=(rfl)
theorem awayM_scons(n k:Nat)(a:List Nat):awayM (some n) (k::a)=(decide (k<n) && awayM (some n) a):=(rfl)
theorem emptyF_eq:emptyF=⟨[],[],none⟩:=(rfl)
theorem optL_none{α:Type}:optL (none:Option α)=[]:=(rfl)
theorem optL_some{α:Type}(x:α):optL (some x)=[x]:=(rfl)
section
variable (ρ:PA→D) (st:St)
theorem foot_stor(n:Nat)(p x:PA):POp.foot ρ st (.stor n p x)=some ⟨hk (ρ x),hk (ρ p),none⟩:=(rfl)
theorem foot_box(x:PA):POp.foot ρ st (.box x)=some ⟨[],[],some st.length⟩:=(rfl)
theorem foot_mkmap(sz:Nat):POp.foot ρ st (.mkmap sz)=some ⟨[],[],some st.length⟩:=(rfl)
theorem foot_mapup(sz:Nat)(ks:List Nat)(m k v:PA):POp.foot ρ st (.mapup sz ks m k v)=some ⟨[],hk (ρ m),none⟩:=(rfl)
theorem foot_mkslc(a b:Nat)(z:D)(l c:PA):POp.foot ρ st (.mkslc a b z l c)=some ⟨[],[],some st.length⟩:=(rfl)
theorem foot_mcall(f:Nat)(l:List PA):POp.foot ρ st (.mcall f l)=some ⟨[],[],some st.length⟩:=(rfl)
def appF(st:St)(s x:D):Option Foot:=match s with
 |.row key _ _ _=>some ⟨hk x,[key],none⟩
 |_=>some ⟨hk x,[],appN x st.length⟩
theorem appF_row(key tot off len:Nat)(x:D):appF st (.row key tot off len) x=some ⟨hk x,[key],none⟩:=(rfl)
theorem appF_slc(sz:Nat)(els:List D)(t:Bool)(x:D):appF st (.slc sz els t) x=some ⟨hk x,[],appN x st.length⟩:=(rfl)
theorem appN_nil(sz:Nat)(t:Bool)(n:Nat):appN (.slc sz [] t) n=none:=(rfl)
theorem appN_cons(sz:Nat)(a:D)(l:List D)(t:Bool)(n:Nat):appN (.slc sz (a::l) t) n=some n:=(rfl)
theorem appN_row(key tot off len n:Nat):appN (.row key tot off len) n=some n:=(rfl)
theorem appN_bsl(key off m sz:Nat)(ag:Bool)(n:Nat):appN (.bsl key off m sz ag) n=some n:=(rfl)
theorem appN_str(s:List UInt8)(n:Nat):appN (.str s) n=some n:=(rfl)
theorem foot_app(a b:Nat)(s x:PA):POp.foot ρ st (.app a b s x)=appF st (ρ s) (ρ x):=(rfl)
theorem foot_load(n:Nat)(ag:Bool)(x:PA):POp.foot ρ st (.load n ag x)=some ⟨hk (ρ x),[],none⟩:=by simp[POp.foot,POp.args]
theorem foot_nilc(x:PA):POp.foot ρ st (.nilc x)=some ⟨rpK (ρ x),[],none⟩:=(rfl)
theorem rpK_ptr(key off:Nat):rpK (.ptr key off)=[]:=(rfl)
theorem rpK_eptr(el:D)(off:Nat):rpK (.eptr el off)=[]:=(rfl)
theorem rpK_rptr(key tot i off:Nat):rpK (.rptr key tot i off)=[key]:=(rfl)
theorem foot_fld(n:Nat)(x:PA):POp.foot ρ st (.fld n x)=some ⟨rpK (ρ x),[],none⟩:=(rfl)
theorem foot_idxS(n:Nat)(x i:PA):POp.foot ρ st (.idxS n x i)=some ⟨hk (ρ x)++hk (ρ i),[],none⟩:=by simp[POp.foot,POp.args]
theorem foot_idxA(n m:Nat)(x i:PA):POp.foot ρ st (.idxA n m x i)=some ⟨rpK (ρ x),[],none⟩:=(rfl)
theorem foot_slice(n:Nat)(x:PA)(a b c:Option PA):POp.foot ρ st (.slice n x a b c)=some ⟨((x::(optL a++optL b++optL c)).map ρ).flatMap hk,[],none⟩:=(rfl)
theorem foot_call(f:Nat)(l:List PA):POp.foot ρ st (.call f l)=some ⟨(l.map ρ).flatMap hk,[],none⟩:=(rfl)
theorem foot_bslc(n:Nat)(l:List PA):POp.foot ρ st (.bslc n l)=some ⟨(l.map ρ).flatMap hk,[],none⟩:=(rfl)
end
attribute [irreducible] kF kAny wF wAny fsE sameP on onB ifB ev ev2 kOp kG kV kOps W thenW outW retQ retI wW wOps wOp kOpX kOpsX wOpsX wOpX onX retX retD retDQ
def solid1:D→Bool
 |.int _ _ | .bool _ | .str _ | .clo _ [] | .nilf | .nilp=>true
 |.slc sz els t=>!t && nz sz els == sz
 |_=>false
def solid:D→Bool
 |.agg l=>l.all solid1
 |d=>solid1 d
theorem solid1_imm(st:St){d:D}(h:solid1 d=true):imm1 st d=some d:=by
 cases d with
 |clo f l=>cases l <;> simp_all [solid1,imm1,D.pure1]
 |slc sz els t=>simp_all [solid1,imm1]
 |_=>simp_all [solid1,imm1,D.pure1]
theorem solid1_immL(st:St):∀ {l:List D},l.all solid1=true→immL st l=some l
 |[],_=>rfl
 |d::l,h=>by
  simp only[List.all_cons,Bool.and_eq_true]at h
  simp only[immL,solid1_imm st h.1,solid1_immL st h.2]
theorem solid_imm(st:St){d:D}(h:solid d=true):imm st d=some d:=by
 cases d with
 |agg l=>simp only[imm,solid1_immL st h,Option.map_some]
 |tup l=>simp[solid,solid1]at h
 |_=>exact solid1_imm st (by simpa only[solid]using h)
theorem solid1_key{d:D}(h:solid1 d=true):key1 d=[]:=by
 cases d <;> simp_all [solid1,key1]
theorem solid_keys{d:D}(h:solid d=true):keys d=[]:=by
 cases d with
 |agg l=>
  simp only[keys,List.flatMap_eq_nil_iff]
  simp only[solid,List.all_eq_true]at h
  exact fun d hd=>solid1_key (h d hd)
 |_=>exact solid1_key (by simpa only[solid]using h)
theorem solid1_hk{d:D}(h:solid1 d=true):hk1 d=[]:=by
 cases d with
 |clo f l=>cases l <;> simp_all [solid1,hk1]
 |_=>simp_all [solid1,hk1,hk0]
theorem solid_hk{d:D}(h:solid d=true):hk d=[]:=by
 cases d with
 |agg l=>
  simp only[hk,List.flatMap_eq_nil_iff]
  simp only[solid,List.all_eq_true]at h
  exact fun d hd=>solid1_hk (h d hd)
 |_=>exact solid1_hk (by simpa only[solid]using h)
theorem solid1_ren(n:Nat)(σ:List Nat){d:D}(h:solid1 d=true):ren1 n σ d=d:=by
 cases d with
 |clo f l=>cases l <;> simp_all [solid1,ren1]
 |_=>simp_all [solid1,ren1,ren0]
theorem solid_ren(n:Nat)(σ:List Nat){d:D}(h:solid d=true):ren n σ d=d:=by
 cases d with
 |agg l=>
  simp only[ren,D.agg.injEq]
  simp only[solid,List.all_eq_true]at h
  have:∀ l:List D,(∀ d∈l,solid1 d=true)→l.map (ren1 n σ)=l:=by
   intro l
   induction l with
   |nil=>intro _; rfl
   |cons a l ih=>intro h; simp only[List.map_cons,solid1_ren n σ (h a (by simp)),ih fun d hd=>h d (by simp[hd])]
  exact this l h
 |tup l=>simp[solid,solid1]at h
 |_=>exact solid1_ren n σ (by simpa only[solid]using h)
structure Dig where
 bs:List UInt8
 len:bs.length=32
 deriving DecidableEq
def zeroDig:Dig:=⟨List.replicate 32 0,by simp⟩
instance:Inhabited Dig:=⟨zeroDig⟩
theorem Dig.ext'{a b:Dig}(h:a.bs=b.bs):a=b:=by
 cases a; cases b; simp_all
def digC(d:Dig):List D:=d.bs.map byteD
def digD(d:Dig):D:=.agg (digC d)
theorem map_inj{α β:Type}{f:α→β}(hf:∀ a b,f a=f b→a=b):∀ {l l':List α},l.map f=l'.map f→l=l'
 |[],[],_=>rfl
 |[],_::_,h=>by cases h
 |_::_,[],h=>by cases h
 |a::l,b::l',h=>by
  simp only[List.map_cons,List.cons.injEq]at h
  rw[hf _ _ h.1,map_inj hf h.2]
theorem digC_all{p:D→Bool}(hp:∀ b,p (byteD b)=true)(d:Dig):(digC d).all p=true:=by
 simp only[digC,List.all_eq_true,List.mem_map]
 rintro x ⟨b,_,rfl⟩
 exact hp b
theorem digD_cells(d:Dig):(digD d).cells=digC d:=(rfl)
theorem mk_dig(d:Dig):D.mk true (digC d)=digD d:=(rfl)
theorem mk_cons(x:D)(l:List D):D.mk true (x::l)=.agg (x::l):=(rfl)
theorem mk_one(x:D)(l:List D):D.mk false (x::l)=x:=(rfl)
theorem agg_dig(d:Dig):D.agg (digC d)=digD d:=(rfl)
theorem zero_dig:[D.int .u8 0,.int .u8 0,.int .u8 0,.int .u8 0,.int .u8 0,.int .u8 0,.int .u8 0,.int .u8 0,.int .u8 0,.int .u8 0,.int .u8 0,.int .u8 0,.int .u8 0,.int .u8 0,.int .u8 0,.int .u8 0,.int .u8 0,.int .u8 0,.int .u8 0,.int .u8 0,.int .u8 0,.int .u8 0,.int .u8 0,.int .u8 0,.int .u8 0,.int .u8 0,.int .u8 0,.int .u8 0,.int .u8 0,.int .u8 0,.int .u8 0,.int .u8 0]=digC zeroDig:=(rfl)
theorem solid1_solid{d:D}(h:solid1 d=true):solid d=true:=by
 cases d with
 |agg l=>simp[solid1]at h
 |_=>exact h
theorem renB_solid(n:Nat)(σ:List Nat):∀ {l:List D},l.all solid1=true→l.map (ren n σ)=l
 |[],_=>rfl
 |d::l,h=>by
  simp only[List.all_cons,Bool.and_eq_true]at h
  simp only[List.map_cons,solid_ren n σ (solid1_solid h.1),renB_solid n σ h.2]
theorem hkB_solid:∀ {l:List D},l.all solid1=true→l.flatMap hk=[]
 |[],_=>rfl
 |d::l,h=>by
  simp only[List.all_cons,Bool.and_eq_true]at h
  simp only[List.flatMap_cons,solid_hk (solid1_solid h.1),hkB_solid h.2,List.append_nil]
theorem getElem?_getD{α:Type}[Inhabited α](l:List α)(i:Nat)(h:i<l.length):l[i]?=some (l.getD i default):=by
 simp[List.getD_eq_getElem?_getD,h]
theorem drop_getD{α:Type}[Inhabited α](l:List α)(i:Nat)(h:i<l.length):l.drop i=l.getD i default::l.drop (i+1):=by
 rw[List.drop_eq_getElem_cons h]
 simp[List.getD_eq_getElem?_getD,h]
theorem splice_all(l xs:List D)(h:l.length=xs.length):splice l 0 xs=xs:=by
 simp[splice,h]
theorem splice_cons(x:D)(l ys:List D)(n:Nat):splice (x::l) (n+1) ys=x::splice l n ys:=by
 simp[splice,Nat.add_right_comm]
def ldO(o:Option Obj)(n:Nat)(ag:Bool)(off:Nat):Option D:=if !ag && n != 1 then none else o.bind fun o=>if !o.row && decide (off+n≤o.els.length)then some (.mk ag ((o.els.drop off).take n))else none
def stO(o:Option Obj)(n:Nat)(off:Nat)(x:D):Option Obj:=o.bind fun o=>if !o.row && !o.lent && decide (off+n≤o.els.length) && x.cells.length == n && x.cells.all D.isCell then some {o with els:=splice o.els off x.cells} else none
theorem pload_ptr(st:St)(n:Nat)(ag:Bool)(key off:Nat):pload st n ag (.ptr key off)=ldO st[key]? n ag off:=by
 simp only[pload,ldO]
 split
 ·rfl
 ·cases st[key]? <;> rfl
theorem pstor_ptr(st:St)(n:Nat)(key off:Nat)(x:D):pstor st n (.ptr key off) x=(stO st[key]? n off x).map fun o=>st.set key o:=by
 simp only[pstor,stO]
 cases st[key]? with
 |none=>rfl
 |some o=>
  simp only[Option.bind_some]
  split <;> simp_all
section
variable {α:Type} (sz:Nat) (lent:Bool)
theorem ldO_one(x:D)(l:List D):ldO (some ⟨false,sz,x::l,lent⟩) 1 false 0=some x:=by
 simp[ldO,D.mk]
theorem ldO_succ(x:D)(l:List D)(n:Nat)(ag:Bool)(off:Nat):ldO (some ⟨false,sz,x::l,lent⟩) n ag (off+1)=ldO (some ⟨false,sz,l,lent⟩) n ag off:=by
 simp only[ldO,Option.bind_some,List.drop_succ_cons,List.length_cons]
 have:decide (off+1+n≤l.length+1)=decide (off+n≤l.length):=by
  apply decide_eq_decide.2; omega
 rw[this]
theorem ldO_map{α:Type}[Inhabited α](f:α→D)(ws:List α)(i:Nat)(h:i<ws.length):ldO (some ⟨false,sz,ws.map f,lent⟩) 1 false i=some (f (ws.getD i default)):=by
 have h2:i+1≤ws.length:=h
 have:(ws.map f).drop i=f (ws.getD i default)::(ws.map f).drop (i+1):=by
  rw[← List.map_drop,drop_getD ws i h,List.map_cons,List.map_drop]
 simp[ldO,this,D.mk,h2]
theorem ldO_all(cs:List D)(n:Nat)(h:cs.length=n):ldO (some ⟨false,sz,cs,lent⟩) n true 0=some (.agg cs):=by
 subst h; simp[ldO,D.mk]
theorem stO_one(x v:D)(l:List D)(hv:v.isCell=true):stO (some ⟨false,sz,x::l,false⟩) 1 0 v=some ⟨false,sz,v::l,false⟩:=by
 simp[stO,isCell_cells hv,hv,splice]
theorem stO_int(x:D)(k:IntKind)(n:Int)(l:List D):stO (some ⟨false,sz,x::l,false⟩) 1 0 (.int k n)=some ⟨false,sz,.int k n::l,false⟩:=stO_one sz _ _ _ rfl
theorem stO_succ(x v:D)(l:List D)(n off:Nat):stO (some ⟨false,sz,x::l,false⟩) n (off+1) v=(stO (some ⟨false,sz,l,false⟩) n off v).map fun o=>{o with els:=x::o.els}:=by
 simp only[stO,Option.bind_some,List.length_cons,splice_cons]
 have:decide (off+1+n≤l.length+1)=decide (off+n≤l.length):=by
  apply decide_eq_decide.2; omega
 rw[this]
 split <;> rfl
theorem stO_all(cs ds:List D)(n:Nat)(h:cs.length=n)(h':ds.length=n)(hc:ds.all D.isCell=true):stO (some ⟨false,sz,cs,false⟩) n 0 (.agg ds)=some ⟨false,sz,ds,false⟩:=by
 subst h
 simp[stO,D.cells,h',hc,splice_all _ _ h'.symm]
theorem stO_set(f:α→D)(hf:∀ a,(f a).isCell=true)(ws:List α)(i:Nat)(v:α)(h:i<ws.length):stO (some ⟨false,sz,ws.map f,false⟩) 1 i (f v)=some ⟨false,sz,(ws.set i v).map f,false⟩:=by
 have h2:i+1≤ws.length:=h
 have h3:splice (ws.map f) i [f v]=(ws.set i v).map f:=by
  rw[List.map_set,splice,List.set_eq_take_append_cons_drop]
  simp[h]
 simp[stO,isCell_cells (hf v),hf v,h2,h3]
theorem map_cells{α:Type}(f:α→D)(hf:∀ a,(f a).isCell=true)(ws:List α):(ws.map f).all D.isCell=true:=by
 simp only[List.all_eq_true,List.mem_map]
 rintro x ⟨a,_,rfl⟩
 exact hf a
end
theorem pload_rptr(st:St)(n:Nat)(ag:Bool)(key tot i off:Nat):pload st n ag (.rptr key tot i off)=if !ag && n != 1 then none else(st[key]?).bind fun o=>if o.row && o.els.length == tot then(o.els[i]?).bind fun el=>if off+n≤el.cells.length then some (.mk ag ((el.cells.drop off).take n))else none else none:=by
 simp only[pload]
 split
 ·rfl
 ·cases st[key]? with
  |none=>rfl
  |some o=>
   simp only[Option.bind_some]
   split
   ·cases o.els[i]? <;> rfl
   ·rfl
theorem natOf_int(k:IntKind)(n:Int)(h:0≤n):natOf (.int k n)=some n.toNat:=by simp[natOf,h]
theorem idxA_ptr(st:St)(n key off:Nat)(k:IntKind)(i:Int)(h0:0≤i)(h1:i<(n:Int)):pidxA st n 1 (.ptr key off) (.int k i)=some (.ptr key (off+i.toNat)):=by
 have h2:i.toNat<n:=by omega
 simp[pidxA,natOf_int k i h0,h2,pfld]
theorem pload_e1(st:St)(x:D)(h:x.isCell=true):pload st 1 false (.eptr x 0)=some x:=by
 simp[pload,isCell_cells h,D.mk]
theorem pload_eint(st:St)(k:IntKind)(n:Int):pload st 1 false (.eptr (.int k n) 0)=some (.int k n):=pload_e1 st _ rfl
theorem idxS_slc{α:Type}[Inhabited α](st:St)(sz:Nat)(f:α→D)(l:List α)(t:Bool)(k:IntKind)(i:Int)(h0:0≤i)(h1:i<(l.length:Int)) :
  pidxS st sz (.slc sz (l.map f) t) (.int k i)=some (.eptr (f (l.getD i.toNat default)) 0):=by
 have h2:i.toNat<l.length:=by omega
 simp only[pidxS,natOf_int k i h0,List.getElem?_map,getElem?_getD l i.toNat h2,Option.map_some,beq_self_eq_true,if_true]
theorem lenD_slc(st:St)(sz:Nat)(els:List D)(t:Bool):lenD st false (.slc sz els t)=some (.int .i64 (els.length:Int)):=(rfl)
theorem lenD_str(st:St)(s:List UInt8):lenD st true (.str s)=some (.int .i64 (s.length:Int)):=(rfl)
theorem papp_row(st:St)(sz bytes key tot:Nat)(x:D)(o:Obj)(xs:List D)(szx:Nat)(ho:st[key]?=some o)(hr:o.row=true)(hz:o.sz=sz)(ht:o.els.length=tot)
  (hx:elsOf st x=some (szx,xs)) (hs:szx=sz∨xs=[]) (h0:sz≠0) (hb:(tot+xs.length)*bytes≤140737488355328) (hl:tot+xs.length≤4294967296) :
  papp st sz bytes (.row key tot 0 tot) x=some (.row key (tot+xs.length) 0 (tot+xs.length),st.set key {o with els:=o.els++xs}):=by
 have e:(!(szx == sz || xs.isEmpty) || sz == 0)=false:=by
  rcases hs with h | h <;> simp[h,h0]
 simp only[papp,hx,e,ho,hr,hz,ht,hb,hl,beq_self_eq_true,Bool.and_self,decide_true,if_true,Bool.false_eq_true,if_false]
theorem papp_new(st:St)(sz bytes sz':Nat)(els:List D)(x:D)(xs:List D)(szx:Nat)(hx:elsOf st x=some (szx,xs))(hs:szx=sz∨xs=[])(hs':sz'=sz∨els=[])(h0:sz≠0)(hne:xs≠[])
  (hb:(els.length+xs.length)*bytes≤140737488355328) (hl:els.length+xs.length≤4294967296) :
  papp st sz bytes (.slc sz' els true) x=some (.row st.length (els.length+xs.length) 0 (els.length+xs.length),st++[{row:=true,sz,els:=els++xs,lent:=false}]):=by
 have e2:xs.isEmpty=false:=by cases xs <;> simp_all
 have e:(!(szx == sz || false) || sz == 0)=false:=by
  rcases hs with h | h
  ·simp[h,h0]
  ·exact absurd h hne
 have e3:(sz' == sz || els.isEmpty)=true:=by
  rcases hs' with h | h <;> simp[h]
 simp only[papp,hx,e,e2,e3,hb,hl,Bool.and_self,decide_true,if_true,Bool.false_eq_true,if_false]
theorem papp_nil(st:St)(sz bytes sz':Nat)(els:List D)(x:D)(szx:Nat)(hx:elsOf st x=some (szx,[]))(h0:sz≠0) :
  papp st sz bytes (.slc sz' els true) x=some (.slc sz' els true,st):=by
 simp[papp,hx,h0]
def bufD(sz key:Nat)(els:List D):D:=if els.isEmpty then .slc sz [] true else .row key els.length 0 els.length
def bufS(sz:Nat)(els:List D):St:=if els.isEmpty then []else [{row:=true,sz,els,lent:=false}]
theorem bufD_nil(sz key:Nat):bufD sz key []=.slc sz [] true:=(rfl)
theorem bufS_nil(sz:Nat):bufS sz []=[]:=(rfl)
theorem papp_buf(st:St)(sz sz0 bytes:Nat)(els xs:List D)(x:D)(szx:Nat)(hx:elsOf (st++bufS sz els) x=some (szx,xs))(hs:szx=sz∨xs=[])(hs0:sz≠0)
  (hb:(els.length+xs.length)*bytes≤140737488355328) (hl:els.length+xs.length≤4294967296) :
  papp (st++bufS sz els) sz bytes (bufD sz0 st.length els) x=some (bufD sz0 st.length (els++xs),st++bufS sz (els++xs)):=by
 cases els with
 |nil=>
  cases xs with
  |nil=>
   rw[bufD_nil,papp_nil _ _ _ _ _ _ szx hx hs0]
   rfl
  |cons a l=>
   rw[bufD_nil,papp_new _ _ _ _ _ _ (a::l) szx hx hs (.inr rfl) hs0 (by simp) (by simpa using hb) (by simpa using hl)]
   simp[bufD,bufS]
 |cons e r=>
  have hg:(st++bufS sz (e::r))[st.length]?=some {row:=true,sz,els:=e::r,lent:=false}:=by simp[bufS]
  have:=papp_row (st++bufS sz (e::r)) sz bytes st.length (e::r).length x _ xs szx hg rfl rfl rfl hx hs hs0 hb hl
  simp only[bufD,List.isEmpty_cons,Bool.false_eq_true,if_false,List.cons_append]at this ⊢
  rw[this]
  simp[bufS,Nat.add_right_comm]
theorem set_eq(fr:Frame)(s t:Nat)(d:D):(fr.set s d) t=if t=s then d else fr t:=(rfl)
theorem mkF_eq(s t:Nat)(d:D)(r:List (Nat×D)):mkF ((s,d)::r) t=if t=s then d else mkF r t:=(rfl)
attribute [push_cast] foot_mkmap foot_mapup W_any2 W_any wAny_nil wAny_plain wAny_guard wF_free wF_true wF_ck fsE_eq k_mcall ckF_nil ckF_cons ck1_eq ok_eq away_nil away_cons awayM_none awayM_snil awayM_scons emptyF_eq optL_none optL_some foot_stor foot_box foot_mkslc foot_mcall appF_row appF_slc appN_nil appN_cons appN_row appN_bsl appN_str foot_app foot_load foot_nilc foot_fld foot_idxS foot_idxA foot_slice foot_call foot_bslc rpK_ptr rpK_eptr rpK_rptr Option.isNone_none Option.isNone_some
attribute [push_cast] on_some on_none onB_bool ifB_true ifB_false wOps_nil wOps_plain wOps_guard kV_true kV_false kV_tup k_mkmap k_mapup k_mapget k_cpy k_mov k_pick k_box k_bld k_bslc k_load k_stor k_nilc k_bin k_aeq k_un k_conv k_fld k_fldv k_idxS k_idxA k_idxV k_len k_lenA k_app k_mm k_rcall k_icall k_callv k_mkclo k_call k_ext put_some put_none set_eq rho_s rho_c mkF_eq argF_0 argF_1 argF_2 argF_3 argF_4 argF_5 argF_6 argF_7 W_skip W_ops W_seq then_next then_exit then_ret W_cond W_block out_next out_ret out_eq W_exit W_ret retQ_ret retQ_next retI_ret retI_next zero_dig
attribute [push_cast] ev_eq ev2_eq pickD_true pickD_false pickD_bool extD_0 extD_1 extD_2 digD_cells mk_dig agg_dig mk_cons mk_one pload_ptr pstor_ptr ldO_one ldO_succ ldO_map stO_int stO_succ pload_eint lenD_slc lenD_str
theorem imm_int(st:St)(k:IntKind)(n:Int):imm st (.int k n)=some (.int k n):=(rfl)
theorem imm_bool(st:St)(b:Bool):imm st (.bool b)=some (.bool b):=(rfl)
theorem imm_str(st:St)(s:List UInt8):imm st (.str s)=some (.str s):=(rfl)
theorem imm_slc(st:St)(sz:Nat)(els:List D)(t:Bool):imm st (.slc sz els t)=some (.slc (nz sz els) els false):=(rfl)
theorem imm_row(st:St)(key tot off len:Nat):imm st (.row key tot off len)=(rowEls st key tot off len).map fun p=>.slc (nz p.1 p.2) p.2 false:=(rfl)
theorem imm_agg(st:St)(l:List D):imm st (.agg l)=(immL st l).map .agg:=(rfl)
theorem immL_nil(st:St):immL st []=some []:=(rfl)
theorem immL_cons(st:St)(d:D)(l:List D):immL st (d::l)=(imm1 st d).bind fun x=>(immL st l).map (x::·):=by
 simp only[immL]
 cases imm1 st d with
 |none=>rfl
 |some x=>cases immL st l <;> rfl
theorem imms_nil(st:St):imms st []=some []:=(rfl)
theorem imms_cons(st:St)(d:D)(l:List D):imms st (d::l)=(imm st d).bind fun x=>(imms st l).map (x::·):=by
 simp only[imms]
 cases imm st d with
 |none=>rfl
 |some x=>cases imms st l <;> rfl
theorem gets_nil(s:PS):gets s []=some []:=(rfl)
theorem gets_cons(s:PS)(r:PRes)(l:List PRes):gets s (r::l)=(r.get s).bind fun x=>(gets s l).map (x::·):=by
 simp only[gets]
 cases r.get s with
 |none=>rfl
 |some x=>cases gets s l <;> rfl
theorem get_tmp(fr:Frame)(st:St)(t:Nat):PRes.get ⟨fr,st⟩ (.tmp t)=imm st (fr t):=(rfl)
theorem get_cell(fr:Frame)(st:St)(t n:Nat)(ag:Bool):PRes.get ⟨fr,st⟩ (.cell t n ag)=(pload st n ag (fr t)).bind fun d=>imm st d:=by
 simp only[PRes.get]
 cases pload st n ag (fr t) <;> rfl
theorem raws_nil(s:PS):raws s []=some []:=(rfl)
theorem raws_tmp(fr:Frame)(st:St)(t:Nat)(l:List PRes):raws ⟨fr,st⟩ (.tmp t::l)=(raws ⟨fr,st⟩ l).map (fr t::·):=(rfl)
theorem pack_one(d:D):pack [d]=d:=(rfl)
theorem pack_two(a b:D)(l:List D):pack (a::b::l)=.tup (a::b::l):=(rfl)
theorem pack_nil:pack []=.tup []:=(rfl)
theorem noRef_int(k:IntKind)(n:Int):(D.int k n).noRef=true:=(rfl)
theorem noRef_bool(b:Bool):(D.bool b).noRef=true:=(rfl)
theorem noRef_slc(sz:Nat)(els:List D)(t:Bool):(D.slc sz els t).noRef=false:=(rfl)
theorem keys_int(k:IntKind)(n:Int):keys (.int k n)=[]:=(rfl)
theorem keys_bool(b:Bool):keys (.bool b)=[]:=(rfl)
theorem keys_str(s:List UInt8):keys (.str s)=[]:=(rfl)
theorem keys_slc(sz:Nat)(els:List D)(t:Bool):keys (.slc sz els t)=[]:=(rfl)
theorem keys_row(key tot off len:Nat):keys (.row key tot off len)=[key]:=(rfl)
theorem hk_int(k:IntKind)(n:Int):hk (.int k n)=[]:=(rfl)
theorem hk_bool(b:Bool):hk (.bool b)=[]:=(rfl)
theorem hk_str(s:List UInt8):hk (.str s)=[]:=(rfl)
theorem hk_slc(sz:Nat)(els:List D)(t:Bool):hk (.slc sz els t)=[]:=(rfl)
theorem hk_row(key tot off len:Nat):hk (.row key tot off len)=[key]:=(rfl)
theorem hk_ptr(key off:Nat):hk (.ptr key off)=[key]:=(rfl)
theorem hk_tup(l:List D):hk (.tup l)=[]:=(rfl)
theorem hk_junk:hk .junk=[]:=(rfl)
theorem ren_int(n:Nat)(σ:List Nat)(k:IntKind)(m:Int):ren n σ (.int k m)=.int k m:=(rfl)
theorem ren_bool(n:Nat)(σ:List Nat)(b:Bool):ren n σ (.bool b)=.bool b:=(rfl)
theorem ren_str(n:Nat)(σ:List Nat)(s:List UInt8):ren n σ (.str s)=.str s:=(rfl)
theorem ren_slc(n:Nat)(σ:List Nat)(sz:Nat)(els:List D)(t:Bool):ren n σ (.slc sz els t)=.slc sz els t:=(rfl)
theorem ren_row(n:Nat)(σ:List Nat)(key tot off len:Nat):ren n σ (.row key tot off len)=orJunk (fun k=>.row k tot off len) (renK n σ key):=(rfl)
theorem ren_ptr(n:Nat)(σ:List Nat)(key off:Nat):ren n σ (.ptr key off)=orJunk (fun k=>.ptr k off) (renK n σ key):=(rfl)
theorem orJunk_some(f:Nat→D)(k:Nat):orJunk f (some k)=f k:=(rfl)
theorem boxD_int(k:IntKind)(n:Int):boxD (.int k n)=some [.int k n]:=(rfl)
theorem boxD_bool(b:Bool):boxD (.bool b)=some [.bool b]:=(rfl)
theorem boxD_slc(sz:Nat)(els:List D)(t:Bool):boxD (.slc sz els t)=some [.slc sz els t]:=(rfl)
theorem cells_int(k:IntKind)(n:Int):(D.int k n).cells=[.int k n]:=(rfl)
theorem cells_bool(b:Bool):(D.bool b).cells=[.bool b]:=(rfl)
theorem cells_slc(sz:Nat)(els:List D)(t:Bool):(D.slc sz els t).cells=[.slc sz els t]:=(rfl)
theorem cells_row(key tot off len:Nat):(D.row key tot off len).cells=[.row key tot off len]:=(rfl)
theorem cells_agg(l:List D):(D.agg l).cells=l:=(rfl)
theorem isCell_int(k:IntKind)(n:Int):(D.int k n).isCell=true:=(rfl)
theorem isCell_bool(b:Bool):(D.bool b).isCell=true:=(rfl)
theorem isCell_slc(sz:Nat)(els:List D)(t:Bool):(D.slc sz els t).isCell=true:=(rfl)
theorem isCell_row(key tot off len:Nat):(D.row key tot off len).isCell=true:=(rfl)
theorem un_not(b:Bool):pun .not (.bool b)=some (.bool !b):=(rfl)
theorem bin_lss(k:IntKind)(a b:Int):pbin .lss (.int k a) (.int k b)=some (.bool (decide (a<b))):=by simp only[pbin,if_true,icmp,Option.map_some]
theorem bin_leq(k:IntKind)(a b:Int):pbin .leq (.int k a) (.int k b)=some (.bool (decide (a≤b))):=by simp only[pbin,if_true,icmp,Option.map_some]
theorem bin_gtr(k:IntKind)(a b:Int):pbin .gtr (.int k a) (.int k b)=some (.bool (decide (b<a))):=by simp only[pbin,if_true,icmp,Option.map_some,gt_iff_lt]
theorem bin_geq(k:IntKind)(a b:Int):pbin .geq (.int k a) (.int k b)=some (.bool (decide (b≤a))):=by simp only[pbin,if_true,icmp,Option.map_some,ge_iff_le]
theorem bin_eql(k:IntKind)(a b:Int):pbin .eql (.int k a) (.int k b)=some (.bool (decide (a=b))):=by
 simp only[pbin,if_true,icmp,Option.map_some]
 by_cases h:a=b <;> simp[h]
theorem bin_neq(k:IntKind)(a b:Int):pbin .neq (.int k a) (.int k b)=some (.bool (!decide (a=b))):=by
 simp only[pbin,if_true,icmp,Option.map_some]
 by_cases h:a=b <;> simp[h]
theorem beq_bool(neg a b:Bool):pbeq neg (.bool a) (.bool b)=some (.bool ((a == b) != neg)):=(rfl)
theorem mm_max(k k':IntKind)(a b:Int):mmD true (.int k a) (.int k' b)=some (.int k (max a b)):=by
 simp only[mmD,if_true]
 congr 2
 split <;> omega
theorem mm_min(k k':IntKind)(a b:Int):mmD false (.int k a) (.int k' b)=some (.int k (min a b)):=by
 simp only[mmD,Bool.false_eq_true,if_false]
 congr 2
 split <;> omega
theorem pfld_ptr(st:St)(off key o:Nat):pfld st off (.ptr key o)=some (.ptr key (o+off)):=(rfl)
theorem pfld_eptr(st:St)(off:Nat)(el:D)(o:Nat):pfld st off (.eptr el o)=some (.eptr el (o+off)):=(rfl)
theorem lend_nil(st:St):lend [] st=st:=(rfl)
theorem lend_cons(k:Nat)(r:List Nat)(st:St):lend (k::r) st=lend r (st.modify k fun o=>{o with lent:=true}):=(rfl)
theorem ite_same_st(b:Bool)(x:St):(if b=true then x else x)=x:=by cases b <;> rfl
attribute [push_cast] imm_int imm_bool imm_str imm_slc imm_row imm_agg immL_nil immL_cons imms_nil imms_cons gets_nil gets_cons get_tmp get_cell raws_nil raws_tmp pack_one pack_two pack_nil noRef_int noRef_bool noRef_slc keys_int keys_bool keys_str keys_slc keys_row hk_int hk_bool hk_str hk_slc hk_row hk_ptr hk_tup hk_junk ren_int ren_bool ren_str ren_slc ren_row ren_ptr orJunk_some boxD_int boxD_bool boxD_slc cells_int cells_bool cells_slc cells_row cells_agg isCell_int isCell_bool isCell_slc isCell_row un_not bin_lss bin_leq bin_gtr bin_geq bin_eql bin_neq beq_bool mm_max mm_min pfld_ptr pfld_eptr lend_nil lend_cons ite_same_st Option.map_some Option.map_none Option.bind_some Option.bind_none List.map_cons List.map_nil List.flatMap_cons List.flatMap_nil List.append_nil List.nil_append List.cons_append List.getElem?_cons_zero List.getElem?_cons_succ List.set_cons_zero List.set_cons_succ List.modify_zero_cons List.modify_succ_cons List.length_cons List.length_nil List.length_map List.take_zero List.take_succ_cons List.all_cons List.all_nil Nat.zero_add Nat.add_zero Bool.not_true Bool.not_false Bool.and_self Bool.true_and Bool.and_true Bool.false_and Bool.and_false Bool.or_false Bool.false_or Bool.true_or Bool.or_true Bool.not_not if_true if_false decide_true decide_false beq_self_eq_true Bool.false_eq_true Bool.true_eq_false ne_eq bne_self_eq_false Bool.bne_false Bool.bne_true Nat.lt_irrefl Nat.le_refl
def headK(fr:Frame):List Nat→List Nat
 |[]=>[]
 |k::r=>hk (fr k)++headK fr r
def headF(fr:Frame)(n:Nat)(σ:List Nat):List Nat→List (Nat×D)
 |[]=>[]
 |k::r=>(k,ren n σ (fr k))::headF fr n σ r
def boxK:St→List Nat
 |[]=>[]
 |o::r=>(if o.row then []else o.els.flatMap hk)++boxK r
def pickL(n:Nat)(σ:List Nat)(st:St):List Nat→St
 |[]=>[]
 |k::r=>renO n σ (st.getD k default)::pickL n σ st r
def renS(n:Nat)(σ:List Nat):St→St
 |[]=>[]
 |o::r=>renO n σ o::renS n σ r
def restrictL(keep:List Nat)(n m:Nat)(l:List Nat)(fr:Frame)(st:St):PS:=restrictAt keep n (uniq n m l []) ⟨fr,st⟩
theorem headK_eq(fr:Frame):∀ keep:List Nat,headK fr keep=keep.flatMap fun k=>hk (fr k)
 |[]=>rfl
 |k::r=>by rw[headK,List.flatMap_cons,headK_eq fr r]
theorem boxK_eq:∀ st:St,boxK st=st.flatMap fun o=>if o.row then []else o.els.flatMap hk
 |[]=>rfl
 |k::r=>by rw[boxK,List.flatMap_cons,boxK_eq r]
theorem headF_eq(fr:Frame)(n:Nat)(σ:List Nat):∀ keep:List Nat,headF fr n σ keep=keep.map fun k=>(k,ren n σ (fr k))
 |[]=>rfl
 |k::r=>by rw[headF,List.map_cons,headF_eq fr n σ r]
theorem pickL_eq(n:Nat)(σ:List Nat)(st:St):∀ l:List Nat,pickL n σ st l=l.map fun k=>renO n σ (st.getD k default)
 |[]=>rfl
 |k::r=>by rw[pickL,List.map_cons,pickL_eq n σ st r]
theorem renS_eq(n:Nat)(σ:List Nat):∀ st:St,renS n σ st=st.map (renO n σ)
 |[]=>rfl
 |k::r=>by rw[renS,List.map_cons,renS_eq n σ r]
def restrictM(keep:List Nat)(n:Nat)(fr:Frame)(st:St):PS:=restrictL keep n st.length (headK fr keep++boxK (st.take n)) fr st
theorem restrict_eq(keep:List Nat)(n:Nat)(fr:Frame)(st:St):restrict keep n ⟨fr,st⟩=restrictM keep (if n≤st.length then n else st.length) fr st:=by
 simp only[restrict,restrictM,restrictL,keysIn,headK_eq,boxK_eq]
theorem restrictM_eq(keep:List Nat)(n:Nat)(fr:Frame)(st:St):restrictM keep n fr st=restrictL keep n st.length (headK fr keep++boxK (st.take n)) fr st:=(rfl)
def restrictN(keep:List Nat)(n:Nat)(σ:List Nat)(fr:Frame)(st:St):PS:=⟨mkF (headF fr n σ keep),renS n σ (st.take n)++pickL n σ st σ⟩
theorem restrictL_eq(keep:List Nat)(n m:Nat)(l:List Nat)(fr:Frame)(st:St):restrictL keep n m l fr st=restrictN keep n (uniq n m l []) fr st:=by
 simp only[restrictL,restrictAt,restrictN,headF_eq,picked,renS_eq,pickL_eq]
theorem restrictN_eq(keep:List Nat)(n:Nat)(σ:List Nat)(fr:Frame)(st:St):restrictN keep n σ fr st=⟨mkF (headF fr n σ keep),renS n σ (st.take n)++pickL n σ st σ⟩:=(rfl)
theorem headK_nil(fr:Frame):headK fr []=[]:=(rfl)
theorem headK_cons(fr:Frame)(k:Nat)(r:List Nat):headK fr (k::r)=hk (fr k)++headK fr r:=(rfl)
theorem headF_nil(fr:Frame)(n:Nat)(σ:List Nat):headF fr n σ []=[]:=(rfl)
theorem headF_cons(fr:Frame)(n:Nat)(σ:List Nat)(k:Nat)(r:List Nat):headF fr n σ (k::r)=(k,ren n σ (fr k))::headF fr n σ r:=(rfl)
theorem boxK_nil:boxK []=[]:=(rfl)
theorem boxK_row(sz:Nat)(els:List D)(lent:Bool)(r:St):boxK ({row:=true,sz,els,lent}::r)=boxK r:=(rfl)
theorem boxK_box(sz:Nat)(els:List D)(lent:Bool)(r:St):boxK ({row:=false,sz,els,lent}::r)=els.flatMap hk++boxK r:=(rfl)
theorem pickL_nil(n:Nat)(σ:List Nat)(st:St):pickL n σ st []=[]:=(rfl)
theorem pickL_cons(n:Nat)(σ:List Nat)(st:St)(k:Nat)(r:List Nat):pickL n σ st (k::r)=renO n σ (st.getD k default)::pickL n σ st r:=(rfl)
theorem renS_nil(n:Nat)(σ:List Nat):renS n σ []=[]:=(rfl)
theorem renS_cons(n:Nat)(σ:List Nat)(o:Obj)(r:St):renS n σ (o::r)=renO n σ o::renS n σ r:=(rfl)
theorem uniq_nil(lo hi:Nat)(acc:List Nat):uniq lo hi [] acc=acc:=(rfl)
theorem uniq_cons(lo hi k:Nat)(r acc:List Nat):uniq lo hi (k::r) acc=uniq lo hi r (if lo≤k∧k<hi∧acc.contains k=false then acc++[k]else acc):=(rfl)
theorem renK_eq(n:Nat)(σ:List Nat)(key:Nat):renK n σ key=if key<n then some key else posIn σ n key:=(rfl)
theorem posIn_eq(k k':Nat)(r:List Nat)(b:Nat):posIn (k::r) b k'=if k'=k then some b else posIn r (b+1) k':=(rfl)
theorem renO_row(n:Nat)(σ:List Nat)(sz:Nat)(els:List D)(lent:Bool):renO n σ {row:=true,sz,els,lent}={row:=true,sz,els,lent}:=(rfl)
theorem renO_box(n:Nat)(σ:List Nat)(sz:Nat)(els:List D)(lent:Bool):renO n σ {row:=false,sz,els,lent}={row:=false,sz,els:=els.map (ren n σ),lent}:=(rfl)
theorem ren1_int(n:Nat)(σ:List Nat)(k:IntKind)(m:Int):ren1 n σ (.int k m)=.int k m:=(rfl)
theorem ren1_bool(n:Nat)(σ:List Nat)(b:Bool):ren1 n σ (.bool b)=.bool b:=(rfl)
theorem ren1_slc(n:Nat)(σ:List Nat)(sz:Nat)(els:List D)(t:Bool):ren1 n σ (.slc sz els t)=.slc sz els t:=(rfl)
theorem ren1_str(n:Nat)(σ:List Nat)(s:List UInt8):ren1 n σ (.str s)=.str s:=(rfl)
theorem ren1_row(n:Nat)(σ:List Nat)(key tot off len:Nat):ren1 n σ (.row key tot off len)=orJunk (fun k=>.row k tot off len) (renK n σ key):=(rfl)
theorem hk1_int(k:IntKind)(m:Int):hk1 (.int k m)=[]:=(rfl)
theorem hk1_bool(b:Bool):hk1 (.bool b)=[]:=(rfl)
theorem hk1_slc(sz:Nat)(els:List D)(t:Bool):hk1 (.slc sz els t)=[]:=(rfl)
theorem hk1_str(s:List UInt8):hk1 (.str s)=[]:=(rfl)
theorem hk1_row(key tot off len:Nat):hk1 (.row key tot off len)=[key]:=(rfl)
theorem hk_bsl(key off m sz:Nat)(ag:Bool):hk (.bsl key off m sz ag)=[key]:=(rfl)
theorem hk_rptr(key tot i off:Nat):hk (.rptr key tot i off)=[key]:=(rfl)
theorem hk_mapv(key:Nat):hk (.mapv key)=[key]:=(rfl)
theorem hk_nilf:hk .nilf=[]:=(rfl)
theorem hk_nilp:hk .nilp=[]:=(rfl)
theorem hk_nilm:hk .nilm=[]:=(rfl)
theorem hk_gmap(l:GT):hk (.gmap l)=[]:=(rfl)
theorem ren_gmap(n:Nat)(σ:List Nat)(l:GT):ren n σ (.gmap l)=.gmap l:=(rfl)
theorem ren_nilm(n:Nat)(σ:List Nat):ren n σ .nilm=.nilm:=(rfl)
theorem ren_mapv(n:Nat)(σ:List Nat)(key:Nat):ren n σ (.mapv key)=orJunk .mapv (renK n σ key):=(rfl)
theorem ren_nilf(n:Nat)(σ:List Nat):ren n σ .nilf=.nilf:=(rfl)
theorem ren_nilp(n:Nat)(σ:List Nat):ren n σ .nilp=.nilp:=(rfl)
def loopQ(keep:List Nat)(n:Nat)[Inv:InvC][Q:QC](e:Ex)(fr:Frame)(st:St):Prop:=match e with
 |.next=>Inv.run (restrict keep n ⟨fr,st⟩)
 |e=>Q.run e fr st
def atHead(s:PS)[Inv:InvC]:Prop:=Inv.run s
theorem loopQ_next(keep:List Nat)(n:Nat)(Inv:PS→Prop)(Q:QC)(fr:Frame)(st:St):@loopQ keep n ⟨Inv⟩ Q .next fr st=@atHead (restrict keep n ⟨fr,st⟩) ⟨Inv⟩:=(rfl)
theorem loopQ_exit(keep:List Nat)(n:Nat)(Inv:InvC)(Q:Ex→Frame→St→Prop)(id:Nat)(fr:Frame)(st:St):@loopQ keep n Inv ⟨Q⟩ (.exit id) fr st=Q (.exit id) fr st:=(rfl)
theorem loopQ_ret(keep:List Nat)(n:Nat)(Inv:InvC)(Q:Ex→Frame→St→Prop)(fr:Frame)(st:St):@loopQ keep n Inv ⟨Q⟩ .ret fr st=Q .ret fr st:=(rfl)
theorem loopQ_panic(keep:List Nat)(n:Nat)(Inv:InvC)(Q:Ex→Frame→St→Prop)(t:Nat)(d:D)(fr:Frame)(st:St):@loopQ keep n Inv ⟨Q⟩ (.panic t d) fr st=Q (.panic t d) fr st:=(rfl)
theorem W_while{G:Glob}{T:Tbl}{ι:Type}(hd:ι→List (Nat×D))(hs:ι→St)(P:ι→Prop)(μ:ι→Nat)(i0:ι){keep:List Nat}{c:PC}{fr:Frame}{st:St}{Q:Ex→Frame→St→Prop}
  (h0:restrict keep st.length ⟨fr,st⟩=⟨mkF (hd i0),hs i0⟩) (hP:P i0)
  (hstep:∀ i,P i→@wW G T c (mkF (hd i)) (hs i) ⟨@loopQ keep st.length ⟨fun s=>∃ j,(P j∧μ j<μ i)∧s=⟨mkF (hd j),hs j⟩⟩ ⟨Q⟩⟩):@wW G T (.loop keep c) fr st ⟨Q⟩:=by
 refine wW_mk (W_loop hd hs P μ i0 h0 hP fun i hi=>W_mono c _ _ _ _ (W_of (hstep i hi)) fun e fr' st' h=>?_)
 cases e with
 |next=>
  obtain⟨j,⟨h1,h2⟩,h3⟩:=h
  exact⟨j,h1,h2,h3⟩
 |exit id=>exact h
 |ret=>exact h
 |panic t d=>exact h
theorem next_head{ι:Type}{hd:ι→List (Nat×D)}{hs:ι→St}{P m:ι→Prop}{s:PS}(j:ι)(h1:P j)(h2:m j)(h3:s=⟨mkF (hd j),hs j⟩):@atHead s ⟨fun s=>∃ j,(P j∧m j)∧s=⟨mkF (hd j),hs j⟩⟩:=⟨j,⟨h1,h2⟩,h3⟩
def loopQA(keep:List Nat)[Inv:InvC][Q:QC](e:Ex)(fr:Frame)(st:St):Prop:=match e with
 |.next=>Inv.run (keepAll keep ⟨fr,st⟩)
 |e=>Q.run e fr st
theorem loopQA_next(keep:List Nat)(Inv:PS→Prop)(Q:QC)(fr:Frame)(st:St):@loopQA keep ⟨Inv⟩ Q .next fr st=@atHead (keepAll keep ⟨fr,st⟩) ⟨Inv⟩:=(rfl)
theorem loopQA_exit(keep:List Nat)(Inv:InvC)(Q:Ex→Frame→St→Prop)(id:Nat)(fr:Frame)(st:St):@loopQA keep Inv ⟨Q⟩ (.exit id) fr st=Q (.exit id) fr st:=(rfl)
theorem loopQA_ret(keep:List Nat)(Inv:InvC)(Q:Ex→Frame→St→Prop)(fr:Frame)(st:St):@loopQA keep Inv ⟨Q⟩ .ret fr st=Q .ret fr st:=(rfl)
theorem loopQA_panic(keep:List Nat)(Inv:InvC)(Q:Ex→Frame→St→Prop)(t:Nat)(d:D)(fr:Frame)(st:St):@loopQA keep Inv ⟨Q⟩ (.panic t d) fr st=Q (.panic t d) fr st:=(rfl)
def keepF(fr:Frame):List Nat→List (Nat×D)
 |[]=>[]
 |k::l=>(k,fr k)::keepF fr l
theorem keepF_nil(fr:Frame):keepF fr []=[]:=(rfl)
theorem keepF_cons(fr:Frame)(k:Nat)(l:List Nat):keepF fr (k::l)=(k,fr k)::keepF fr l:=(rfl)
theorem keepF_eq(fr:Frame):∀ l,l.map (fun k=>(k,fr k))=keepF fr l
 |[]=>rfl
 |k::l=>by rw[List.map_cons,keepF_eq fr l]; rfl
theorem keepAll_eq(keep:List Nat)(fr:Frame)(st:St):keepAll keep ⟨fr,st⟩=⟨mkF (keepF fr keep),st⟩:=by
 rw[← keepF_eq]; rfl
theorem W_whileA{G:Glob}{T:Tbl}{ι:Type}(hd:ι→List (Nat×D))(hs:ι→St)(P:ι→Prop)(μ:ι→Nat)(i0:ι){keep:List Nat}{c:PC}{fr:Frame}{st:St}{Q:Ex→Frame→St→Prop}
  (h0:keepAll keep ⟨fr,st⟩=⟨mkF (hd i0),hs i0⟩) (hP:P i0)
  (hstep:∀ i,P i→@wW G T c (mkF (hd i)) (hs i) ⟨@loopQA keep ⟨fun s=>∃ j,(P j∧μ j<μ i)∧s=⟨mkF (hd j),hs j⟩⟩ ⟨Q⟩⟩):@wW G T (.loopA keep c) fr st ⟨Q⟩:=by
 refine wW_mk (W_loopA hd hs P μ i0 h0 hP fun i hi=>W_mono c _ _ _ _ (W_of (hstep i hi)) fun e fr' st' h=>?_)
 cases e with
 |next=>
  obtain⟨j,⟨h1,h2⟩,h3⟩:=h
  exact⟨j,h1,h2,h3⟩
 |exit id=>exact h
 |ret=>exact h
 |panic t d=>exact h
theorem wy_p(T:Tbl)(l:Nat)(y:List D→St→Option (D×St)):(withY T l y).p=T.p:=(rfl)
theorem wy_i(T:Tbl)(l:Nat)(y:List D→St→Option (D×St)):(withY T l y).i=T.i:=(rfl)
theorem wy_m(T:Tbl)(l:Nat)(y:List D→St→Option (D×St)):(withY T l y).m=T.m:=(rfl)
theorem cloD_fn(T:Tbl)(f:Nat)(caps:List D)(h:f<5000000):cloD T (.clo f caps)=(T.i f).map fun sp=>(sp,[],caps):=by
 simp only[cloD,if_pos h]
theorem calD_bound(f:Nat)(caps ds:List D)(h:f<10000000)(h':5000000≤f):calD (.clo f caps) ds=some (f - 5000000,caps++ds):=by
 simp only[calD,if_neg (show ¬ f<5000000 by omega),if_pos h]
theorem intsD_int(k:IntKind)(n:Int):intsD (.int k n)=true:=(rfl)
theorem intsD_agg1(k:IntKind)(n:Int):intsD (.agg [.int k n])=true:=(rfl)
attribute [push_cast] then_panic W_opsX W_pan out_panic wOpsX_nil wOpsX_plain wOpsX_guard wOpX_icall onX_some onX_panic maySp_some maySp_none maySx_some maySx_none retX_panic retD_ret retD_next retD_panic retDQ_ret retDQ_next retDQ_panic intsD_int intsD_agg1
attribute [irreducible] loopQA
attribute [push_cast] loopQA_next loopQA_exit loopQA_ret keepF_nil keepF_cons keepAll_eq wy_p wy_i wy_m cloD_fn calD_bound wOpX_op
attribute [irreducible] loopQ atHead
attribute [push_cast] loopQ_next loopQ_exit loopQ_ret loopQ_panic loopQA_panic
attribute [push_cast] hk_bsl hk_rptr hk_mapv hk_nilf hk_nilp hk_nilm hk_gmap ren_gmap ren_nilm ren_mapv ren_nilf ren_nilp
attribute [push_cast] restrict_eq restrictM_eq restrictL_eq restrictN_eq headK_nil headK_cons headF_nil headF_cons boxK_nil boxK_row boxK_box pickL_nil pickL_cons renS_nil renS_cons uniq_nil uniq_cons renK_eq posIn_eq renO_row renO_box ren1_int ren1_bool ren1_slc ren1_str ren1_row hk1_int hk1_bool hk1_slc hk1_str hk1_row List.getD_cons_zero List.getD_cons_succ List.contains_nil List.contains_cons false_and and_false and_true true_and and_self Int.toNat_natCast Int.cast_ofNat_Int Int.toNat_zero Int.toNat_one
set_option linter.unusedSimpArgs false
set_option linter.unusedVariables false
section
variable {P:Program} {G:Glob} {T:Tbl} {il:List Nat}
end
noncomputable def spOf{α:Type}(enc:α→List D)(pre:α→Prop)(f:α→D):List D→Option D:=
 fun ds=>@dite _ (∃ a,enc a=ds∧pre a) (Classical.propDecidable _) (fun h=>some (f h.choose)) (fun _=>none)
theorem spOf_inv{α:Type}{enc:α→List D}{pre:α→Prop}{f:α→D}{ds:List D}{d:D}(h:spOf enc pre f ds=some d):∃ a,enc a=ds∧pre a∧f a=d:=by
 unfold spOf at h
 split at h
 ·rename_i hx
  simp only[Option.some.injEq]at h
  exact⟨hx.choose,hx.choose_spec.1,hx.choose_spec.2,h⟩
 ·cases h
theorem spOf_enc{α:Type}{enc:α→List D}{pre:α→Prop}{f:α→D}(hinj:∀ a b,enc a=enc b→a=b)(a:α)(hp:pre a):spOf enc pre f (enc a)=some (f a):=by
 have hx:∃ b,enc b=enc a∧pre b:=⟨a,rfl,hp⟩
 unfold spOf
 rw[dif_pos hx]
 rw[hinj _ _ hx.choose_spec.1]
def look{α:Type}:List (Nat×α)→Nat→Option α
 |[],_=>none
 |(k,a)::r,n=>if n=k then some a else look r n
def tb(l:List (Nat×(List D→Option D)))(li:List (Nat×(List D→St→Option (D×St))))(lm:List (Nat×(List D→Option ((Nat→D)×(Nat→List Obj)))):=[]):Tbl:={p:=look l,i:=look li,m:=look lm}
theorem tb_p(l:List (Nat×(List D→Option D)))(li:List (Nat×(List D→St→Option (D×St))))(lm:List (Nat×(List D→Option ((Nat→D)×(Nat→List Obj)))))(n:Nat):(tb l li lm).p n=look l n:=(rfl)
theorem tb_i(l:List (Nat×(List D→Option D)))(li:List (Nat×(List D→St→Option (D×St))))(lm:List (Nat×(List D→Option ((Nat→D)×(Nat→List Obj)))))(n:Nat):(tb l li lm).i n=look li n:=(rfl)
theorem tb_m(l:List (Nat×(List D→Option D)))(li:List (Nat×(List D→St→Option (D×St))))(lm:List (Nat×(List D→Option ((Nat→D)×(Nat→List Obj)))))(n:Nat):(tb l li lm).m n=look lm n:=(rfl)
theorem look_nil{α:Type}(n:Nat):look ([]:List (Nat×α)) n=none:=(rfl)
theorem look_cons{α:Type}(k:Nat)(a:α)(r:List (Nat×α))(n:Nat):look ((k,a)::r) n=if n=k then some a else look r n:=(rfl)
theorem look_mem{α:Type}:∀ {l:List (Nat×α)} {n:Nat} {a:α},look l n=some a→(n,a)∈l
 |[],_,_,h=>by cases h
 |(k,b)::r,n,a,h=>by
  simp only[look]at h
  split at h
  ·rename_i e
   simp only[Option.some.injEq]at h
   subst h; subst e
   simp
  ·exact List.mem_cons_of_mem _ (look_mem h)
theorem tb_ok{P:Program}{G:Glob}{l:List (Nat×(List D→Option D))}{li:List (Nat×(List D→St→Option (D×St)))}(h:∀ x∈l,Contract P G x.1 x.2)(hi:∀ x∈li,IContract P G x.1 x.2)(hlt:l.all (fun x=>decide (x.1<50000000))=true:=by rfl):TblOK P G (tb l li):=
 ⟨fun _ _ hs=>.inl ⟨of_decide_eq_true (List.all_eq_true.1 hlt _ (look_mem hs)),h _ (look_mem hs)⟩,fun _ _ hs=>hi _ (look_mem hs),fun _ _ hs=>(by cases hs),fun _ _ hs=>(by cases hs),fun _ _ hs=>(by cases hs),fun _ _ hs=>(by cases hs)⟩
theorem tb_okm{P:Program}{G:Glob}{l:List (Nat×(List D→Option D))}{li:List (Nat×(List D→St→Option (D×St)))}{lm:List (Nat×(List D→Option ((Nat→D)×(Nat→List Obj))))}(h:∀ x∈l,Contract P G x.1 x.2)(hi:∀ x∈li,IContract P G x.1 x.2)
  (hm:∀ x∈lm,IContract P G x.1 (fun ds st=>(x.2 ds).map fun r=>(r.1 st.length,st++r.2 st.length))) (hlt:l.all (fun x=>decide (x.1<50000000))=true:=by rfl):TblOK P G (tb l li lm):=
 ⟨fun _ _ hs=>.inl ⟨of_decide_eq_true (List.all_eq_true.1 hlt _ (look_mem hs)),h _ (look_mem hs)⟩,fun _ _ hs=>hi _ (look_mem hs),fun _ _ hs=>hm _ (look_mem hs),fun _ _ hs=>(by cases hs),fun _ _ hs=>(by cases hs),fun _ _ hs=>(by cases hs)⟩
def tbr(l:List (Nat×(List D→Option D)))(li:List (Nat×(List D→St→Option (D×St))))(lr:List (Nat×((List D→St→Option (D×St))→List D→St→Option (D×St)))):Tbl:={p:=look l,i:=look li,m:=fun _=>none,r:=look lr}
theorem tbr_p(l:List (Nat×(List D→Option D)))(li:List (Nat×(List D→St→Option (D×St))))(lr:List (Nat×((List D→St→Option (D×St))→List D→St→Option (D×St))))(n:Nat):(tbr l li lr).p n=look l n:=(rfl)
theorem tbr_i(l:List (Nat×(List D→Option D)))(li:List (Nat×(List D→St→Option (D×St))))(lr:List (Nat×((List D→St→Option (D×St))→List D→St→Option (D×St))))(n:Nat):(tbr l li lr).i n=look li n:=(rfl)
theorem tbr_r(l:List (Nat×(List D→Option D)))(li:List (Nat×(List D→St→Option (D×St))))(lr:List (Nat×((List D→St→Option (D×St))→List D→St→Option (D×St))))(n:Nat):(tbr l li lr).r n=look lr n:=(rfl)
def tbx(l:List (Nat×(List D→Option D)))(li:List (Nat×(List D→St→Option (D×St))))(lx:List (Nat×(List D→St→Option (Nat×D×St)))):Tbl:={p:=look l,i:=look li,m:=fun _=>none,x:=look lx}
theorem tbx_p(l:List (Nat×(List D→Option D)))(li:List (Nat×(List D→St→Option (D×St))))(lx:List (Nat×(List D→St→Option (Nat×D×St))))(n:Nat):(tbx l li lx).p n=look l n:=(rfl)
theorem tbx_i(l:List (Nat×(List D→Option D)))(li:List (Nat×(List D→St→Option (D×St))))(lx:List (Nat×(List D→St→Option (Nat×D×St))))(n:Nat):(tbx l li lx).i n=look li n:=(rfl)
theorem tbx_x(l:List (Nat×(List D→Option D)))(li:List (Nat×(List D→St→Option (D×St))))(lx:List (Nat×(List D→St→Option (Nat×D×St))))(n:Nat):(tbx l li lx).x n=look lx n:=(rfl)
theorem tbx_ok{P:Program}{G:Glob}{l:List (Nat×(List D→Option D))}{li:List (Nat×(List D→St→Option (D×St)))}{lx:List (Nat×(List D→St→Option (Nat×D×St)))}(h:∀ x∈l,Contract P G x.1 x.2)(hi:∀ x∈li,IContract P G x.1 x.2)
  (hx:∀ x∈lx,XIContract P G x.1 x.2) (hlt:l.all (fun x=>decide (x.1<50000000))=true:=by rfl):TblOK P G (tbx l li lx):=
 ⟨fun _ _ hs=>.inl ⟨of_decide_eq_true (List.all_eq_true.1 hlt _ (look_mem hs)),h _ (look_mem hs)⟩,fun _ _ hs=>hi _ (look_mem hs),fun _ _ hs=>(by cases hs),fun _ _ hs=>(by cases hs),fun _ _ hs=>hx _ (look_mem hs),fun _ _ hs=>(by cases hs)⟩
def tbq(l:List (Nat×(List D→Option D)))(li:List (Nat×(List D→St→Option (D×St))))(lq:List (Nat×(List D→List (Option (Bool×Nat×List D))→Option D))):Tbl:={p:=look l,i:=look li,m:=fun _=>none,q:=look lq}
theorem tbq_p(l:List (Nat×(List D→Option D)))(li:List (Nat×(List D→St→Option (D×St))))(lq:List (Nat×(List D→List (Option (Bool×Nat×List D))→Option D)))(n:Nat):(tbq l li lq).p n=look l n:=(rfl)
theorem tbq_i(l:List (Nat×(List D→Option D)))(li:List (Nat×(List D→St→Option (D×St))))(lq:List (Nat×(List D→List (Option (Bool×Nat×List D))→Option D)))(n:Nat):(tbq l li lq).i n=look li n:=(rfl)
theorem tbq_q(l:List (Nat×(List D→Option D)))(li:List (Nat×(List D→St→Option (D×St))))(lq:List (Nat×(List D→List (Option (Bool×Nat×List D))→Option D)))(n:Nat):(tbq l li lq).q n=look lq n:=(rfl)
theorem tbq_ok{P:Program}{G:Glob}{l:List (Nat×(List D→Option D))}{li:List (Nat×(List D→St→Option (D×St)))}{lq:List (Nat×(List D→List (Option (Bool×Nat×List D))→Option D))}(h:∀ x∈l,Contract P G x.1 x.2)(hi:∀ x∈li,IContract P G x.1 x.2)
  (hq:∀ x∈lq,IContract P G x.1 (fun ds st=>(reads1 x.2 ds st).map (·,st))) (hlt:l.all (fun x=>decide (x.1<50000000))=true:=by rfl):TblOK P G (tbq l li lq):=
 ⟨fun _ _ hs=>.inl ⟨of_decide_eq_true (List.all_eq_true.1 hlt _ (look_mem hs)),h _ (look_mem hs)⟩,fun _ _ hs=>hi _ (look_mem hs),fun _ _ hs=>(by cases hs),fun _ _ hs=>(by cases hs),fun _ _ hs=>(by cases hs),fun _ _ hs=>hq _ (look_mem hs)⟩
theorem all_nil{α:Type}{p:α→Prop}:∀ x∈([]:List α),p x:=fun _ h=>by cases h
theorem all_cons{α:Type}{p:α→Prop}{a:α}{l:List α}(h:p a)(hl:∀ x∈l,p x):∀ x∈a::l,p x:=by
 intro x hx
 rcases List.mem_cons.1 hx with rfl | hx
 ·exact h
 ·exact hl x hx
theorem contract_of{P:Program}{G:Glob}{T:Tbl}{il:List Nat}{f:Nat}{hints:List (List Nat)}{F:PF}(ht:trF P il f hints=some F)(hT:TblOK P G T){α:Type}{enc:α→List D}{pre:α→Prop}{r:α→D}
  (h:∀ a,pre a→@wW G T F.code (argF (enc a)) [] ⟨retQ F.res (r a)⟩) (hy:T.y=fun _ _ _=>none:=by rfl):Contract P G f (spOf enc pre r):=by
 refine fun_spec hT hy ht fun ds d hd=>?_
 obtain⟨a,rfl,hp,rfl⟩:=spOf_inv hd
 exact run_of_W (W_of (h a hp))
theorem nz_nz(sz:Nat)(els:List D):nz (nz sz els) els=nz sz els:=by cases els <;> rfl
theorem nz_nil(sz:Nat):nz sz []=0:=(rfl)
theorem nz_cons(sz:Nat)(a:D)(l:List D):nz sz (a::l)=sz:=(rfl)
theorem nz_or(sz:Nat)(els:List D):nz sz els=sz∨els=[]:=by cases els <;> simp[nz]
theorem idxS_nz{α:Type}[Inhabited α](st:St)(sz:Nat)(f:α→D)(l:List α)(t:Bool)(k:IntKind)(i:Int)(h0:0≤i)(h1:i<(l.length:Int)) :
  pidxS st sz (.slc (nz sz (l.map f)) (l.map f) t) (.int k i)=some (.eptr (f (l.getD i.toNat default)) 0):=by
 have:nz sz (l.map f)=sz:=by
  rcases nz_or sz (l.map f)with h | h
  ·exact h
  ·have:l.length=0:=by simpa using congrArg List.length h
   omega
 rw[this]
 exact idxS_slc st sz f l t k i h0 h1
attribute [push_cast] nz_nz nz_nil nz_cons tb_p tb_i tb_m tbr_p tbr_i tbr_r tbx_p tbx_i tbx_x tbq_p tbq_i tbq_q look_nil look_cons List.map_nil
theorem min_bits{n:Int}(h:n≤64):min n.toNat 64=n.toNat:=by omega
theorem shr_i{k k':IntKind}{x n:Int}(hk:k=.i64∨k=.u64)(h0:0≤n)(h1:n≤64):pbin .shr (.int k x) (.int k' n)=some (.int k (x / 2 ^ n.toNat)):=by
 have hb:k.bits=64:=by rcases hk with rfl | rfl <;> rfl
 simp only[pbin,ishift,show ¬ n<0 by omega,if_false,Option.map_some,hb,min_bits h1]
 rw[Int.fdiv_eq_ediv_of_nonneg _ (Int.pow_nonneg (by decide))]
theorem shr_u{k':IntKind}{x n:Int}(h0:0≤n)(h1:n≤64):pbin .shr (.int .u64 x) (.int k' n)=some (.int .u64 (x / 2 ^ n.toNat)):=shr_i (.inr rfl) h0 h1
theorem toNat_ofInt{a:Int}(h0:0≤a)(h1:a<9223372036854775808):(BitVec.ofInt 64 a).toNat=a.toNat:=by
 rw[BitVec.toNat_ofInt]
 omega
theorem conv_iu(st:St){a:Int}(h0:0≤a)(h1:a<9223372036854775808):pconv st (.int .u64) (.int .i64 a)=some (.int .u64 a):=by
 obtain⟨n,rfl⟩:=Int.eq_ofNat_of_zero_le h0
 simp only[pconv,wrap_u64]
 congr 2
 have:n % 2 ^ 64=n:=Nat.mod_eq_of_lt (by omega)
 rw[this]
theorem byteD_imm(st:St)(b:UInt8):imm st (byteD b)=some (byteD b):=(rfl)
theorem byteD_keys(b:UInt8):keys (byteD b)=[]:=(rfl)
theorem byteD_hk(b:UInt8):hk (byteD b)=[]:=(rfl)
theorem byteD_ren(n:Nat)(σ:List Nat)(b:UInt8):ren n σ (byteD b)=byteD b:=(rfl)
theorem byteD_cells(b:UInt8):(byteD b).cells=[byteD b]:=(rfl)
theorem byteD_isCell(b:UInt8):(byteD b).isCell=true:=(rfl)
theorem byteD_noRef(b:UInt8):(byteD b).noRef=true:=(rfl)
theorem byteD_box(b:UInt8):boxD (byteD b)=some [byteD b]:=(rfl)
theorem litD_one_byte(b:UInt8):litD 1 [byteD b]=some (.slc 1 [byteD b] true):=(rfl)
theorem conv_bytes(st:St)(s:List UInt8):pconv st .bytes (.str s)=some (.slc 1 (s.map byteD) false):=(rfl)
theorem litD_slc1(a:Nat)(l:List D)(t:Bool):litD 1 [.slc a l t]=some (.slc 1 [.slc a l t] true):=(rfl)
theorem litD_slc2(a b:Nat)(l m:List D)(t u:Bool):litD 1 [.slc a l t,.slc b m u]=some (.slc 1 [.slc a l t,.slc b m u] true):=(rfl)
theorem litD_slc3(a b c:Nat)(l m n:List D)(t u v:Bool):litD 1 [.slc a l t,.slc b m u,.slc c n v]=some (.slc 1 [.slc a l t,.slc b m u,.slc c n v] true):=(rfl)
theorem litD_nil1:litD 1 []=some (.slc 1 [] true):=(rfl)
theorem litD_nil32:litD 32 []=some (.slc 32 [] true):=(rfl)
theorem imm1_int(st:St)(k:IntKind)(n:Int):imm1 st (.int k n)=some (.int k n):=(rfl)
theorem imm1_bool(st:St)(b:Bool):imm1 st (.bool b)=some (.bool b):=(rfl)
theorem imm1_str(st:St)(s:List UInt8):imm1 st (.str s)=some (.str s):=(rfl)
theorem imm1_slc(st:St)(sz:Nat)(els:List D)(t:Bool):imm1 st (.slc sz els t)=some (.slc (nz sz els) els false):=(rfl)
attribute [push_cast] imm1_int imm1_bool imm1_str imm1_slc Nat.zero_le
attribute [push_cast] litD_nil1 litD_nil32 conv_bytes litD_slc1 litD_slc2 litD_slc3
theorem map_solid{α:Type}(f:α→D)(hf:∀ a,solid1 (f a)=true)(l:List α):(l.map f).all solid1=true:=by
 simp only[List.all_eq_true,List.mem_map]
 rintro x ⟨a,_,rfl⟩
 exact hf a
theorem wD_imm(st:St)(b:UInt32):imm st (wD b)=some (wD b):=(rfl)
theorem wD_keys(b:UInt32):keys (wD b)=[]:=(rfl)
theorem wD_noRef(b:UInt32):(wD b).noRef=true:=(rfl)
theorem wD_hk(b:UInt32):hk (wD b)=[]:=(rfl)
theorem wD_ren(n:Nat)(σ:List Nat)(b:UInt32):ren n σ (wD b)=wD b:=(rfl)
def zW(n:Nat):List UInt32:=List.replicate n 0
theorem zero_wc(n:Nat):D.int .u32 0::(zW n).map wD=(zW (n+1)).map wD:=(rfl)
theorem zero_w8:[D.int .u32 0,.int .u32 0,.int .u32 0,.int .u32 0,.int .u32 0,.int .u32 0,.int .u32 0,.int .u32 0]=(zW 8).map wD:=(rfl)
theorem fill_nil(cs:List D):fillD cs []=some cs:=(rfl)
attribute [push_cast] wD_imm wD_keys wD_noRef wD_hk wD_ren zero_wc zero_w8 fill_nil
attribute [push_cast] byteD_imm byteD_keys byteD_hk byteD_ren byteD_cells byteD_isCell byteD_noRef byteD_box litD_one_byte
theorem bufD_ne(sz key:Nat)(els:List D)(h:els≠[]):bufD sz key els=.row key els.length 0 els.length:=by
 cases els with
 |nil=>exact absurd rfl h
 |cons a l=>rfl
theorem bufS_ne(sz:Nat)(els:List D)(h:els≠[]):bufS sz els=[{row:=true,sz,els,lent:=false}]:=by
 cases els with
 |nil=>exact absurd rfl h
 |cons a l=>rfl
theorem papp_bufg(l:St)(sz sz0 szx bytes:Nat)(els xs:List D)(t:Bool)(hs:szx=sz∨xs=[])(hs0:sz≠0)(hb:(els.length+xs.length)*bytes≤140737488355328)(hl:els.length+xs.length≤4294967296) :
  papp (l++bufS sz els) sz bytes (bufD sz0 l.length els) (.slc szx xs t)=some (bufD sz0 l.length (els++xs),l++bufS sz (els++xs)):=
 papp_buf l sz sz0 bytes els xs _ szx rfl hs hs0 hb hl
section
variable {α:Type} (f:α→D) (a b c d:Obj) (sz sz0 bytes:Nat) (A B:List α) (t:Bool) (hs0:sz≠0) (hb:(A.length+B.length)*bytes≤140737488355328) (hl:A.length+B.length≤4294967296)
include hs0 hb hl
theorem papp_bufm(l:St)(szx:Nat)(hs:szx=sz∨B.map f=[]):papp (l++bufS sz (A.map f)) sz bytes (bufD sz0 l.length (A.map f)) (.slc szx (B.map f) t)=some (bufD sz0 l.length ((A++B).map f),l++bufS sz ((A++B).map f)):=by
 rw[papp_bufg l sz sz0 szx bytes (A.map f) (B.map f) t hs hs0 (by simpa using hb) (by simpa using hl),List.map_append]
end
section
variable {α:Type} (f:α→D) (a b c d:Obj) (sz sz0 bytes:Nat) (A:List α) (x:α) (t:Bool) (hs0:sz≠0) (hb:(A.length+1)*bytes≤140737488355328) (hl:A.length+1≤4294967296)
include hs0 hb hl
end
theorem papp_first1{α:Type}(f:α→D)(st:St)(sz sz0 bytes:Nat)(x:α)(t:Bool)(hs0:sz≠0)(hb:bytes≤140737488355328) :
  papp st sz bytes (.slc sz0 [] true) (.slc sz [f x] t)=some (.row st.length 1 0 1,st++[⟨true,sz,[f x],false⟩]):=by
 have:=papp_bufm f sz sz0 bytes [] [x] t hs0 (by simpa using hb) (by simp) st sz (.inl rfl)
 simpa[bufS,bufD]using this
def apR(o:Option Obj)(sz bytes tot:Nat)(xs:Option (Nat×List D)):Option Obj:=match o,xs with
 |some o,some (szx,xs)=>if !(szx == sz || xs.isEmpty) || sz == 0 then none
  else if o.row && o.sz == sz && o.els.length == tot && decide ((tot+xs.length)*bytes≤140737488355328) && decide (tot+xs.length≤4294967296)then some {o with els:=o.els++xs} else none
 |_,_=>none
theorem papp_rowE(st:St)(sz bytes key tot:Nat)(x:D):papp st sz bytes (.row key tot 0 tot) x=(apR st[key]? sz bytes tot (elsOf st x)).map fun o=>(.row key o.els.length 0 o.els.length,st.set key o):=by
 simp only[papp,apR]
 cases hx:elsOf st x with
 |none=>cases st[key]? <;> rfl
 |some p=>
  obtain⟨szx,xs⟩:=p
  cases ho:st[key]? with
  |none=>
   simp only
   split <;> rfl
  |some o=>
   simp only
   split
   ·rfl
   ·by_cases h:(o.row && o.sz == sz && o.els.length == tot && decide ((tot+xs.length)*bytes≤140737488355328) && decide (tot+xs.length≤4294967296))=true
    ·have h':=h
     simp only[Bool.and_eq_true,beq_iff_eq,decide_eq_true_eq]at h'
     obtain⟨⟨⟨⟨h1,h2⟩,h3⟩,h4⟩,h5⟩:=h'
     simp[h1,h2,h3,h4,h5]
    ·simp only[h]
     simp only[Bool.not_eq_true]at h
     simp
     intro h1 h2 h3 h4
     simp[h1,h2,h3,h4]at h
     omega
theorem apR_map{α:Type}(f:α→D)(sz bytes:Nat)(A B:List α)(lent:Bool)(hs0:sz≠0)(hb:(A.length+B.length)*bytes≤140737488355328)(hl:A.length+B.length≤4294967296)(szx:Nat)(hs:szx=sz∨B.map f=[]) :
  apR (some ⟨true,sz,A.map f,lent⟩) sz bytes A.length (some (szx,B.map f))=some ⟨true,sz,(A++B).map f,lent⟩:=by
 have e:(!(szx == sz || (B.map f).isEmpty) || sz == 0)=false:=by
  rcases hs with h | h <;> simp[h,hs0]
 simp only[apR,e,Bool.false_eq_true,if_false]
 simp[hb,hl]
theorem apR_one{α:Type}(f:α→D)(sz bytes:Nat)(A:List α)(x:α)(lent t:Bool)(st:St)(hs0:sz≠0)(hb:(A.length+1)*bytes≤140737488355328)(hl:A.length+1≤4294967296) :
  apR (some ⟨true,sz,A.map f,lent⟩) sz bytes A.length (elsOf st (.slc sz [f x] t))=some ⟨true,sz,(A++[x]).map f,lent⟩:=apR_map f sz bytes A [x] lent hs0 hb hl _ (.inl rfl)
def reR(o:Option Obj)(tot off len:Nat):Option (Nat×List D):=o.bind fun o=>if o.row && o.els.length == tot && decide (off+len≤tot)then some (o.sz,(o.els.drop off).take len)else none
theorem rowEls_eq(st:St)(key tot off len:Nat):rowEls st key tot off len=reR st[key]? tot off len:=by
 unfold rowEls reR; cases st[key]? <;> rfl
theorem reR_all{α:Type}(f:α→D)(sz:Nat)(A:List α)(lent:Bool):reR (some ⟨true,sz,A.map f,lent⟩) A.length 0 A.length=some (sz,A.map f):=by
 simp[reR]
 rw[List.take_of_length_le (by simp)]
def liR(o:Option Obj)(tot:Nat):Bool:=match o with
 |some o=>o.row && o.els.length == tot
 |none=>false
theorem live_eq(st:St)(key tot:Nat):live st key tot=liR st[key]? tot:=(rfl)
def ixR(o:Option Obj)(sz key tot off len:Nat)(j:Int):Option D:=if 0≤j then o.bind fun o=>if o.row && o.sz == sz && o.els.length == tot && decide (j.toNat<len)then some (.rptr key tot (off+j.toNat) 0)else none else none
theorem idxS_row(st:St)(sz key tot off len:Nat)(k:IntKind)(j:Int):pidxS st sz (.row key tot off len) (.int k j)=ixR st[key]? sz key tot off len j:=by
 simp only[pidxS,ixR,natOf]
 by_cases h:0≤j
 ·simp only[h,if_true]; cases st[key]? <;> rfl
 ·simp only[h,if_false]
def ldR(o:Option Obj)(n:Nat)(ag:Bool)(tot i off:Nat):Option D:=if !ag && n != 1 then none else o.bind fun o=>if o.row && o.els.length == tot then(o.els[i]?).bind fun el=>if off+n≤el.cells.length then some (.mk ag ((el.cells.drop off).take n))else none else none
theorem pload_rptrE(st:St)(n:Nat)(ag:Bool)(key tot i off:Nat):pload st n ag (.rptr key tot i off)=ldR st[key]? n ag tot i off:=pload_rptr st n ag key tot i off
theorem bnd_none(d:Nat):bnd none d=some d:=(rfl)
attribute [push_cast] List.drop_zero List.take_length
attribute [push_cast] papp_rowE apR_one rowEls_eq reR_all live_eq idxS_row pload_rptrE bnd_none
def cutO(k:Nat)(o:Obj):Obj:={o with els:=if o.row then o.els else o.els.map (low k)}
def cutL(k:Nat):Nat→St→St
 |0,_=>[]
 |_+1,[]=>[]
 |n+1,o::st=>cutO k o::cutL k n st
theorem cutL_succ(k n:Nat)(o:Obj)(st:St):cutL k (n+1) (o::st)=cutO k o::cutL k n st:=(rfl)
theorem cutO_row(k sz:Nat)(els:List D)(lent:Bool):cutO k ⟨true,sz,els,lent⟩=⟨true,sz,els,lent⟩:=(rfl)
theorem cutO_box(k sz:Nat)(els:List D)(lent:Bool):cutO k ⟨false,sz,els,lent⟩=⟨false,sz,els.map (low k),lent⟩:=(rfl)
theorem low1_int(n:Nat)(k:IntKind)(m:Int):low1 n (.int k m)=.int k m:=(rfl)
theorem low1_bool(n:Nat)(b:Bool):low1 n (.bool b)=.bool b:=(rfl)
theorem low1_slc(n sz:Nat)(els:List D)(t:Bool):low1 n (.slc sz els t)=.slc sz els t:=(rfl)
theorem low1_row(n key tot off len:Nat):low1 n (.row key tot off len)=if key<n then .row key tot off len else .junk:=(rfl)
theorem low_int(n:Nat)(k:IntKind)(m:Int):low n (.int k m)=.int k m:=(rfl)
theorem low_bool(n:Nat)(b:Bool):low n (.bool b)=.bool b:=(rfl)
theorem low_slc(n sz:Nat)(els:List D)(t:Bool):low n (.slc sz els t)=.slc sz els t:=(rfl)
theorem low_row(n key tot off len:Nat):low n (.row key tot off len)=if key<n then .row key tot off len else .junk:=(rfl)
theorem low_ptr(n key off:Nat):low n (.ptr key off)=if key<n then .ptr key off else .junk:=(rfl)
theorem low_mapv(n key:Nat):low n (.mapv key)=if key<n then .mapv key else .junk:=(rfl)
theorem lowR_tup0(n:Nat):lowR n (.tup [])=.tup []:=(rfl)
theorem hk_clo(f:Nat)(l:List D):hk (.clo f l)=l.flatMap hk0:=(rfl)
theorem hk0_ptr(key off:Nat):hk0 (.ptr key off)=[key]:=(rfl)
theorem ren_clo(n:Nat)(σ:List Nat)(f:Nat)(l:List D):ren n σ (.clo f l)=.clo f (l.map (ren0 n σ)):=(rfl)
theorem ren0_ptr(n:Nat)(σ:List Nat)(key off:Nat):ren0 n σ (.ptr key off)=orJunk (fun k=>.ptr k off) (renK n σ key):=(rfl)
attribute [push_cast] low_int low_bool low_slc low_row low_ptr low_mapv
attribute [push_cast] cutL_succ cutO_row cutO_box low1_int low1_bool low1_slc low1_row lowR_tup0 hk_clo hk0_ptr ren_clo ren0_ptr
end Go.Proofs.YtfbbaceiimdejaaGreatDoor.PI
namespace Go.Proofs.YtfbbaceiimdejaaGreatDoor.PI
open Go Go.RowKit
section
variable {P:Program} {G:Glob} {T:Tbl} {base n:Nat} {w:World} {g:Ghost} {st:St}
theorem pack_inv{ds:List D}{v:Value}(h:RepV w g st (pack ds) v):∃ us:List Value,v=packV us∧ds.length=us.length∧∀ (i:Nat) d u,ds[i]?=some d→us[i]?=some u→RepV w g st d u:=by
 match ds with
 |[d]=>
  refine⟨[v],rfl,rfl,fun i d' u h1 h2=>?_⟩
  cases i with
  |zero=>
   simp only[List.getElem?_cons_zero,Option.some.injEq]at h1 h2
   subst h1; subst h2
   exact h
  |succ i=>simp at h1
 |[]=>
  cases h with
  |tup _ vs h1 h2=>
   obtain rfl:vs=[]:=List.eq_nil_of_length_eq_zero h1.symm
   exact⟨[],rfl,rfl,h2⟩
 |a::b::l=>
  cases h with
  |tup _ vs h1 h2=>
   match vs,h1 with
   |x::y::r,h1=>exact⟨x::y::r,rfl,h1,h2⟩
theorem contract_at{f:Nat}{sp:List D→St→Option (D×St)}(h:IContract P G f sp){ds xs ys:List D}{st':St}(h1:sp ds []=some (pack xs,st'))(h2:imms st' xs=some ys) :
  ∀ (w:World) (g:Ghost) (vs:List Value),GlobOK G w g→(∀ b o,g.Im b o→(w.cell? ⟨b,o,none⟩).isSome=true)→ds.length=vs.length→
  (∀ (i:Nat) d v,ds[i]?=some d→vs[i]?=some v→RepV w g [] d v)→
  Calls P f vs.toArray w fun e w'=>∃ v g',e=.returned v∧RepV w' g' [] (pack ys) v∧purR (pack ys)=true∧ImLe w g w' g'∧(∀ b o,g'.Im b o→g.Im b o∨w.heap.size≤b)∧
   (∀ b o,g'.Im b o→(w'.cell? ⟨b,o,none⟩).isSome=true)∧Below w.heap.size w w':=by
 intro w g vs hG hIm hlen hrep
 have hS:SR w.heap.size w g []:=⟨fun k o h=>by simp at h,fun k o h=>by simp at h,fun k k' o o' h=>by simp at h,hIm,fun k o x h=>by simp at h,Nat.le_refl _⟩
 refine(h.2 w.heap.size w g [] st' ds vs _ h1 hS hG hlen hrep).mono ?_
 rintro e w' ⟨v,g1,rfl,hgo1,hr⟩
 obtain⟨us,rfl,e1,e2⟩:=pack_inv hr
 obtain⟨g2,hgo,_,e5,e6,e7⟩:=lend_args hgo1.sr h2
 have hall:=hgo1.trans hgo
 refine⟨_,g2,rfl,?_,pack_pur e6,hall.im,hall.new,hall.sr.im,hall.below⟩
 have h8:=pack_rep (g:=g2) (w:=w') (ds:=ys) (vs:=us) (by omega) fun i y v hy hv=>e7 i y v hy fun x hx=>e2 i x v hx hv
 exact h8.purR (ImLe.refl _ _) (pack_pur e6)
theorem dcontract_of{il:List Nat}{f:Nat}{hints:List (List Nat)}{F:PFD}{H:HTbl}(ht:trFD P il f hints=some F)(hT:TblOK P G T)(hH:∀ f h,H f=some h→HContract P G f h){α:Type}{enc:α→List D}{pre:α→Prop}{r:α→D}
  (h:∀ a,pre a→wDf G T F H (enc a) [] fun h das=>retDQ h das F.res (r a)) (hy:T.y=fun _ _ _=>none:=by rfl):Contract P G f (spOf enc pre r):=by
 intro w g ds vs d hd hG hIm hlen hrep _
 obtain⟨a,rfl,hp,rfl⟩:=spOf_inv hd
 obtain⟨k,s1,f',das,h',e,fr',st',h1,h2,h3,h4,h5⟩:=runD_of_W (h a hp)
 have hI:=fun_simD hT hy ht hH k
 have fin:∀ (st3:St),(gets ⟨fr',st3⟩ F.res).map pack=some (r a)→(∀ xs,raws ⟨fr',st3⟩ F.res=some xs→F.runI G T H k (enc a) []=some (pack xs,st3))→Calls P f vs.toArray w fun e w'=>∃ v g',e=.returned v∧RepV w' g' [] (r a) v∧purR (r a)=true∧ImLe w g w' g'∧(∀ b o,g'.Im b o→g.Im b o∨w.heap.size≤b)∧
   (∀ b o,g'.Im b o→(w'.cell? ⟨b,o,none⟩).isSome=true)∧Below w.heap.size w w':=by
  intro st3 hg hx
  simp only[Option.map_eq_some_iff]at hg
  obtain⟨ys,hy1,hy2⟩:=hg
  obtain⟨xs,q1,q2⟩:=gets_raws hy1
  rw[← hy2]
  exact contract_at hI (hx xs q1) q2 w g vs hG hIm hlen hrep
 unfold retDQ at h5
 cases e with
 |next=>exact fin st' h5 fun xs hx=>by simp only[PFD.runI,h1,h2,h3,h4 k (Nat.le_refl _),hx,Option.map_some]
 |ret=>exact fin st' h5 fun xs hx=>by simp only[PFD.runI,h1,h2,h3,h4 k (Nat.le_refl _),hx,Option.map_some]
 |exit id=>exact h5.elim
 |panic t dd=>
  simp only at h5
  unfold on at h5
  split at h5
  case h_2=>exact h5.elim
  rename_i st3 h6
  exact fin st3 h5 fun xs hx=>by simp only[PFD.runI,h1,h2,h3,h4 k (Nat.le_refl _),h6,hx,Option.map_some]
theorem xcontract_of{il:List Nat}{f:Nat}{hints:List (List Nat)}{F:PF}(ht:trF P il f hints=some F)(hT:TblOK P G T){sx:List D→St→Option (Nat×D×St)}
  (h:∀ ds st r,sx ds st=some r→@wW G T F.code (argF ds) st ⟨@retX ⟨fun t d st'=>(t,d,st')=r⟩⟩) (hy:T.y=fun _ _ _=>none:=by rfl):XIContract P G f sx:=by
 refine⟨(fun_simX hT hy ht 0).1,?_⟩
 intro base w g st st' ds vs t d hsp hS hG hl hrep
 obtain⟨k,t1,d1,st1,h1,h2⟩:=runX_of_W (W_of (h ds st _ hsp))
 simp only[Prod.mk.injEq]at h2
 obtain⟨rfl,rfl,rfl⟩:=h2
 exact(fun_simX hT hy ht k).2 base w g st _ ds vs _ _ (h1 k (Nat.le_refl _)) hS hG hl hrep
theorem icontract_keep'{il:List Nat}{f:Nat}{hints:List (List Nat)}{F:PF}(ht:trF P il f hints=some F)(hT:TblOK P G T){sp:List D→St→Option (D×St)}
  (h:∀ ds st r,sp ds st=some r→@wW G T F.code (argF ds) st ⟨@retI F.res ⟨fun d st'=>(d,st')=r⟩⟩) (hy:T.y=fun _ _ _=>none:=by rfl):IContract P G f sp:=by
 refine⟨(fun_simI hT hy ht 0).1,?_⟩
 intro base w g st st' ds vs d hsp hS hG hl hrep
 obtain⟨k,d1,st1,h1,h2⟩:=runI_of_W (W_of (h ds st _ hsp))
 simp only[Prod.mk.injEq]at h2
 obtain⟨rfl,rfl⟩:=h2
 exact(fun_simI hT hy ht k).2 base w g st _ ds vs _ (h1 k (Nat.le_refl _)) hS hG hl hrep
theorem Contract.or{f:Nat}{sp sp1 sp2:List D→Option D}(h1:Contract P G f sp1)(h2:Contract P G f sp2)(h:∀ ds d,sp ds=some d→sp1 ds=some d∨sp2 ds=some d):Contract P G f sp:=by
 intro w g ds vs d hd
 rcases h ds d hd with h | h
 ·exact h1 w g ds vs d h
 ·exact h2 w g ds vs d h
theorem IContract.or{f:Nat}{sp sp1 sp2:List D→St→Option (D×St)}(h1:IContract P G f sp1)(h2:IContract P G f sp2)(h:∀ ds st r,sp ds st=some r→sp1 ds st=some r∨sp2 ds st=some r):IContract P G f sp:=by
 refine⟨h1.1,?_⟩
 intro base w g st st' ds vs d hsp
 rcases h ds st _ hsp with h3 | h3
 ·exact h1.2 base w g st st' ds vs d h3
 ·exact h2.2 base w g st st' ds vs d h3
def noT:Tbl:={p:=fun _=>none,i:=fun _=>none,m:=fun _=>none}
theorem noT_ok:TblOK P G noT:=⟨fun _ _ h=>(by cases h),fun _ _ h=>(by cases h),fun _ _ h=>(by cases h),fun _ _ h=>(by cases h),fun _ _ h=>(by cases h),fun _ _ h=>(by cases h)⟩
structure PH where
 t:Nat
 js:List Nat
 vs:Nat
 l:List PI
 deriving Inhabited
def junks(fr:Frame):List Nat→Frame
 |[]=>fr
 |s::l=>junks (fr.set s .junk) l
def PH.run(G:Glob)(F:PH):Nat→D→List D→St→Option St:=fun t d das st=>
 if t=F.t∧intsD d=true then(execs G noT F.l ⟨(junks (argF das) F.js).set F.vs d,st⟩).map (·.st)else none
def trBody(P:Program)(n:Nat):Code→Option (List PI)
 |.region _ ops false=>trIs P [] n ops ops.toList
 |.seq a b=>match trBody P n a,trBody P n b with
  |some x,some y=>some (x++y)
  |_,_=>none
 |.skip=>some []
 |_=>none
theorem body_sim{w0:World}{g0:Ghost}{st0:St}{dl:List Deferred}:∀ (c:Code) (l:List PI) (s s':PS) (a:Act) (w:World) (Q:Exit→Act→World→Prop),trBody P n c=some l→execs G noT l s=some s'→R G base n w0 g0 st0 dl s a w→
  (∀ a' w',R G base n w0 g0 st0 dl s' a' w'→a'.defers=a.defers→Q .normal a' w')→c.wpIn Fence.wide 0 P Q a w
 |.region id ops draw,l,s,s',a,w,Q,ht,hx,hR,hQ=>by
  cases draw with
  |true=>simp[trBody]at ht
  |false=>exact wpIn_region_list (list_simD (r:=none) noT_ok YOK.none _ _ s s' a w ht hx hR hQ)
 |.seq x y,l,s,s',a,w,Q,ht,hx,hR,hQ=>by
  simp only[trBody]at ht
  split at ht
  case h_2=>cases ht
  rename_i lx ly h1 h2
  simp only[Option.some.injEq]at ht
  subst ht
  rw[execs_append,Option.bind_eq_some_iff]at hx
  obtain⟨s1,hx1,hx2⟩:=hx
  refine wpIn_seq (body_sim x lx s s1 a w _ h1 hx1 hR fun a' w' hR' hd'=>?_)
  exact body_sim y ly s1 s' a' w' _ h2 hx2 hR' fun a2 w2 hR2 hd2=>hQ a2 w2 hR2 (hd2.trans hd')
 |.skip,l,s,s',a,w,Q,ht,hx,hR,hQ=>by
  simp only[trBody,Option.some.injEq]at ht
  subst ht
  simp only[execs,Option.some.injEq]at hx
  subst hx
  exact wpIn_skip (hQ a w hR rfl)
 |.cond _ _ _,_,_,_,_,_,_,ht,_,_,_=>by simp[trBody]at ht
 |.block _ _,_,_,_,_,_,_,ht,_,_,_=>by simp[trBody]at ht
 |.loop _,_,_,_,_,_,_,ht,_,_,_=>by simp[trBody]at ht
 |.exit _,_,_,_,_,_,_,ht,_,_,_=>by simp[trBody]at ht
 |.ret,_,_,_,_,_,_,ht,_,_,_=>by simp[trBody]at ht
 |.rangeFunc _ _ _ _,_,_,_,_,_,_,ht,_,_,_=>by simp[trBody]at ht
 |.scope _,_,_,_,_,_,_,ht,_,_,_=>by simp[trBody]at ht
 |.label _,_,_,_,_,_,_,ht,_,_,_=>by simp[trBody]at ht
 |.goto _,_,_,_,_,_,_,ht,_,_,_=>by simp[trBody]at ht
 |.refuse _,_,_,_,_,_,_,ht,_,_,_=>by simp[trBody]at ht
theorem run_eqlN{t:TypeId}{ms:_}(ht:P.underlying t=some (.interface ms)){x:Operand}{a:Act}{dst:Option Tmp}{ty yt:TypeId}{pos:String}{after:Array Edge}{guard:Option (Nat×Bool)}(w:World) :
  (a.eval x=.nilIface→(execOp a.eval {dst:=dst,op:=.binOp .eql t x (.const .nilIface) yt,type:=ty,pos:=pos,after:=after,guard:=guard}).run P w=.ok (.value (.bool true)) w)∧
  (∀ t' v,a.eval x=.iface t' v→(execOp a.eval {dst:=dst,op:=.binOp .eql t x (.const .nilIface) yt,type:=ty,pos:=pos,after:=after,guard:=guard}).run P w=.ok (.value (.bool false)) w):=by
 refine⟨fun h=>?_,fun t' v h=>?_⟩
 ·have h2:(Op.equal t .nilIface .nilIface).run P w=.ok true w:=by
   have h5:∀ n,(Op.equalIn (n+1) t .nilIface .nilIface).run P w=.ok true w:=fun n=>by
    simp[Op.equalIn,run_underlying ht]
   exact h5 9999
  have h3:a.eval (.const .nilIface)=.nilIface:=rfl
  simp[execOp,h,h3,eqGuard,binOp,h2]
 ·have h2:(Op.equal t (.iface t' v) .nilIface).run P w=.ok false w:=by
   have h5:∀ n,(Op.equalIn (n+1) t (.iface t' v) .nilIface).run P w=.ok false w:=fun n=>by
    simp[Op.equalIn,run_underlying ht]
   exact h5 9999
  have h3:a.eval (.const .nilIface)=.nilIface:=rfl
  simp[execOp,h,h3,eqGuard,binOp,h2]
theorem run_taHit{T1:TypeId}{u:TypeDesc}(ht:P.underlying T1=some u)(hn:∀ m,u≠.interface m){x:Operand}{a:Act}{v:Value}(hx:a.eval x=.iface T1 v){dst:Option Tmp}{ty xt:TypeId}{pos:String}{after:Array Edge}{guard:Option (Nat×Bool)}(w:World) :
  (execOp a.eval {dst:=dst,op:=.typeAssert x xt T1 true,type:=ty,pos:=pos,after:=after,guard:=guard}).run P w=.ok (.value (.tuple #[v,.bool true])) w:=by
 simp only[execOp,hx,Instr.typeAssert,Sem.run_bind,run_underlying ht,Result.andThen_ok]
 cases u with
 |interface m=>exact absurd rfl (hn m)
 |_=>simp
theorem run_taNil{T1:TypeId}{u:TypeDesc}(ht:P.underlying T1=some u)(hn:∀ m,u≠.interface m){i:TypeInfo}{z:Value}(hi:P.info? T1=some i)(hz:i.zero=some z){x:Operand}{a:Act}(hx:a.eval x=.nilIface){dst:Option Tmp}{ty xt:TypeId}{pos:String}{after:Array Edge}{guard:Option (Nat×Bool)}(w:World) :
  (execOp a.eval {dst:=dst,op:=.typeAssert x xt T1 true,type:=ty,pos:=pos,after:=after,guard:=guard}).run P w=.ok (.value (.tuple #[z,.bool false])) w:=by
 have hzr:(zeroValue T1).run P w=.ok z w:=by simp[zeroValue,typeInfo,hi,hz]
 simp only[execOp,hx,Instr.typeAssert,Sem.run_bind,run_underlying ht,Result.andThen_ok]
 cases u with
 |interface m=>exact absurd rfl (hn m)
 |_=>simp[hzr]
theorem valI_repr{d:D}(h:isI d=true):RepV w g st d (valI d):=by
 cases d with
 |int k m=>exact .int k m
 |_=>simp[isI]at h
theorem valOf_repr{d:D}(h:intsD d=true):RepV w g st d (valOf d):=by
 cases d with
 |int k m=>exact .int k m
 |agg l=>
  refine .agg l _ (by simp) fun i d v hd hv=>?_
  rw[List.getElem?_map,hd]at hv
  simp only[Option.map_some,Option.some.injEq]at hv
  subst hv
  exact valI_repr (List.all_eq_true.1 h _ (List.mem_of_getElem? hd))
 |_=>simp[intsD,isI]at h
theorem eval_put{a:Act}{r:Nat}{v:Value}(h:r<a.tmps.size):(a.put (some r) v).eval (.tmp r)=v:=by
 simp[Act.put,Act.eval,h]
theorem eval_put_ne{a:Act}{r s:Nat}{v:Value}(h:r≠s):(a.put (some s) v).eval (.tmp r)=a.eval (.tmp r):=by
 have h':¬ s=r:=fun e=>h e.symm
 simp[Act.put,Act.eval,Array.getD_eq_getD_getElem?,h']
theorem put_size'(a:Act)(r:Nat)(v:Value):(a.put (some r) v).tmps.size=a.tmps.size:=by simp[Act.put]
theorem run_recover{o:Oper}{a:Act}{w:World}(h:o.op=.call {callee:=.builtin .recover,args:=#[],argTypes:=#[]}):(execOp a.eval o).run P w=.ok .recover w:=by
 simp only[execOp,h]
 rfl
theorem start_FR{ds:List D}{vs:List Value}{m:Nat}(hlen:ds.length=vs.length)(hrep:∀ (i:Nat) d v,ds[i]?=some d→vs[i]?=some v→RepV w g st d v) :
  FR w g st (argF ds) {tmps:=vs.toArray++Array.replicate (m - vs.toArray.size) undef,defers:=[]}∧m≤(vs.toArray++Array.replicate (m - vs.toArray.size) undef).size:=by
 refine⟨?_,by simp; omega⟩
 intro s
 simp only[argF]
 rcases Nat.lt_or_ge s ds.length with h1 | h1
 ·have h2:s<vs.length:=by omega
  have h3:(vs.toArray++Array.replicate (m - vs.toArray.size) undef).getD s undef=vs[s]:=by
   simp[Array.getD,h2]
   intro h4
   omega
  rw[h3]
  have:=hrep s ds[s] vs[s] (by simp[h1]) (by simp[h2])
  simpa[List.getD_eq_getElem?_getD,h1]using this
 ·simp[List.getD_eq_getElem?_getD,List.getElem?_eq_none h1]
  exact .junk _
def isConc(P:Program)(t:TypeId):Bool:=match P.underlying t with
 |some (.interface _) | none=>false
 |some _=>true
theorem isConc_spec{t:TypeId}(h:isConc P t=true):∃ u,P.underlying t=some u∧∀ m,u≠.interface m:=by
 unfold isConc at h
 split at h
 ·cases h
 ·cases h
 ·rename_i u hne hu
  exact⟨u,hu,fun m e=>hne m e⟩
def isIfc(P:Program)(t:TypeId):Bool:=match P.underlying t with
 |some (.interface _)=>true
 |_=>false
theorem isIfc_spec{t:TypeId}(h:isIfc P t=true):∃ m,P.underlying t=some (.interface m):=by
 unfold isIfc at h
 split at h
 ·rename_i m hm; exact⟨m,hm⟩
 ·cases h
theorem handlerA{f i0 ib i1 iX i2 r e d ok vs t1 ti xt:Nat}{fn:Func}{o0 o1 oX p1 p2 p3:Oper}{body other:Code}{l:List PI}{xX:Operand}{ty:TypeId}
  (hfn:P.funcs[f]?=some fn) (hname:(fn.name == "runtime.NumGoroutine")=false) (hres:fn.results=#[])
  (hc:fn.body=some (.seq (.region i0 #[o0] false) (.block ib (.seq (.region i1 #[o1] false) (.cond (.tmp e) (.region iX #[oX] false) (.seq (.region i2 #[p1,p2,p3] false) (.cond (.tmp ok) body other)))))))
  (h0:o0.op=.call {callee:=.builtin .recover,args:=#[],argTypes:=#[]}∧o0.dst=some r∧o0.guard=none)
  (h1:o1.op=.binOp .eql ti (.tmp r) (.const .nilIface) ty∧o1.dst=some e∧o1.guard=none)
  (hX:oX.op=.assign xX∧oX.guard=none)
  (k1:p1.op=.typeAssert (.tmp r) xt t1 true∧p1.dst=some d∧p1.guard=none)
  (k2:p2.op=.extract (.tmp d) 1∧p2.dst=some ok∧p2.guard=none)
  (k3:p3.op=.extract (.tmp d) 0∧p3.dst=some vs∧p3.guard=none)
  (hlt:r<fn.ntmps∧e<fn.ntmps∧d<fn.ntmps∧ok<fn.ntmps∧vs<fn.ntmps) (hne:r≠e∧d≠ok∧ok≠vs)
  (hti:isIfc P ti=true) (ht1:isConc P t1=true) (hb:trBody P fn.ntmps body=some l) :
  HContract P G f (PH.run G ⟨t1,[r,e,d,ok],vs,l⟩):=by
 refine⟨⟨fn,hfn,by rw[hc]; rfl,hname⟩,?_⟩
 obtain⟨ms,hti⟩:=isIfc_spec hti
 obtain⟨u,ht1,hu1⟩:=isConc_spec ht1
 intro base w g st das ws hS hG hlen hrep
 obtain⟨hF0,hs0⟩:=start_FR (m:=fn.ntmps) hlen hrep
 obtain⟨h0a,h0b,h0c⟩:=h0
 obtain⟨h1a,h1b,h1c⟩:=h1
 obtain⟨hXa,hXc⟩:=hX
 obtain⟨k1a,k1b,k1c⟩:=k1
 obtain⟨k2a,k2b,k2c⟩:=k2
 obtain⟨k3a,k3b,k3c⟩:=k3
 obtain⟨l1,l2,l3,l4,l5⟩:=hlt
 obtain⟨n1,n2,n3⟩:=hne
 have hresults:∀ (tm:Array Value) (w':World),(results fn tm).run P w'=.ok (.tuple #[]) w':=by
  intro tm w'
  simp[results,hres]
 generalize ha0:({tmps:=ws.toArray++Array.replicate (fn.ntmps - ws.toArray.size) undef,defers:=[]}:Act)=a0 at*
 have hd0:a0.defers=[]:=by rw[← ha0]
 have hs0':fn.ntmps≤a0.tmps.size:=by rw[← ha0]; exact hs0
 refine⟨?_,?_⟩
 ·refine callsDIn_of_wpSIn hfn hc trivial fun c₀ cs hu=>?_
  rw[ha0]
  refine wpSIn_seq (wpSIn_region ?_)
  have hr:recoverD (c₀::cs)=none:=by simp[recoverD,hu]
  simp only[List.size_toArray,List.length_cons,List.length_nil,Nat.zero_add,List.range_one,wpOpsSIn,List.getElem?_toArray,List.getElem?_cons_zero,Region.wanted,h0c,if_true,run_recover h0a,hr,h0b]
  refine⟨fun _ _=>trivial,?_⟩
  refine wpSIn_of_wpIn rfl (wpIn_block (wpIn_seq (wpIn_region_list ?_)))
  have he1:=(run_eqlN (P:=P) hti (x:=.tmp r) (a:=a0.put (some r) .nilIface) (dst:=o1.dst) (ty:=o1.type) (yt:=ty) (pos:=o1.pos) (after:=o1.after) (guard:=o1.guard) w).1 (eval_put (by omega))
  have ho1:({dst:=o1.dst,op:=.binOp .eql ti (.tmp r) (.const .nilIface) ty,type:=o1.type,pos:=o1.pos,after:=o1.after,guard:=o1.guard}:Oper)=o1:=by rw[← h1a]
  rw[ho1]at he1
  simp only[wpListIn,Region.wanted,h1c,if_true]
  refine⟨fun _ _=>trivial,?_⟩
  show o1.uponIn _ _ _ _ _ _ ((execOp (a0.put (some r) .nilIface).eval o1).run P w)
  rw[he1,Oper.uponIn_value,h1b]
  show Code.wpIn _ _ _ _ _ _ _
  refine wpIn_cond_true (eval_put (by rw[put_size']; omega)) (wpIn_region_list ?_)
  simp only[wpListIn,Region.wanted,hXc,if_true]
  refine⟨fun _ _=>trivial,?_⟩
  have hX2:(execOp ((a0.put (some r) .nilIface).put (some e) (.bool true)).eval oX).run P w=.ok (.value (((a0.put (some r) .nilIface).put (some e) (.bool true)).eval xX)) w:=by
   simp only[execOp,hXa]
   rfl
  show oX.uponIn _ _ _ _ _ _ ((execOp ((a0.put (some r) .nilIface).put (some e) (.bool true)).eval oX).run P w)
  rw[hX2,Oper.uponIn_value]
  refine⟨?_,.returning,by rw[← hu],_,hresults _ _,rfl,rfl,g,Go1.refl hS⟩
  cases oX.dst <;> simp[Act.put,hd0]
 ·intro t dv st' hrun
  unfold PH.run at hrun
  split at hrun
  case isFalse=>cases hrun
  rename_i hcnd
  obtain⟨rfl,hi⟩:=hcnd
  simp only[Option.map_eq_some_iff]at hrun
  obtain⟨s',hx,rfl⟩:=hrun
  refine callsDIn_of_wpSIn hfn hc trivial fun c₀ cs hu=>?_
  rw[ha0]
  refine wpSIn_seq (wpSIn_region ?_)
  have hr:recoverD (c₀::cs)=some (.iface t (valOf dv),{c₀ with mode:=.panicking (chainRec t dv)}::cs):=by simp[recoverD,hu,chainOf,chainRec]
  simp only[List.size_toArray,List.length_cons,List.length_nil,Nat.zero_add,List.range_one,wpOpsSIn,List.getElem?_toArray,List.getElem?_cons_zero,Region.wanted,h0c,if_true,run_recover h0a,hr,h0b]
  refine⟨fun _ _=>trivial,?_⟩
  refine wpSIn_of_wpIn rfl (wpIn_block (wpIn_seq (wpIn_region_list ?_)))
  generalize ha1:a0.put (some r) (.iface t (valOf dv))=a1
  have hs1:fn.ntmps≤a1.tmps.size:=by rw[← ha1,put_size']; exact hs0'
  have hd1:a1.defers=[]:=by rw[← ha1]; simp[Act.put,hd0]
  have hF1:FR w g st ((argF das).set r .junk) a1:=by rw[← ha1]; exact hF0.put (dst:=some r) (fun t e=>by cases e; omega) (.junk _)
  have hv1:a1.eval (.tmp r)=.iface t (valOf dv):=by rw[← ha1]; exact eval_put (by omega)
  have he1:=(run_eqlN (P:=P) hti (x:=.tmp r) (a:=a1) (dst:=o1.dst) (ty:=o1.type) (yt:=ty) (pos:=o1.pos) (after:=o1.after) (guard:=o1.guard) w).2 _ _ hv1
  have ho1:({dst:=o1.dst,op:=.binOp .eql ti (.tmp r) (.const .nilIface) ty,type:=o1.type,pos:=o1.pos,after:=o1.after,guard:=o1.guard}:Oper)=o1:=by rw[← h1a]
  rw[ho1]at he1
  simp only[wpListIn,Region.wanted,h1c,if_true]
  refine⟨fun _ _=>trivial,?_⟩
  show o1.uponIn _ _ _ _ _ _ ((execOp a1.eval o1).run P w)
  rw[he1,Oper.uponIn_value,h1b]
  show Code.wpIn _ _ _ _ _ _ _
  generalize ha2:a1.put (some e) (.bool false)=a2
  have hs2:fn.ntmps≤a2.tmps.size:=by rw[← ha2,put_size']; exact hs1
  have hd2:a2.defers=[]:=by rw[← ha2]; simp[Act.put,hd1]
  have hF2:FR w g st (((argF das).set r .junk).set e .junk) a2:=by rw[← ha2]; exact hF1.put (dst:=some e) (fun t e=>by cases e; omega) (.junk _)
  have hv2:a2.eval (.tmp r)=.iface t (valOf dv):=by rw[← ha2,eval_put_ne n1]; exact hv1
  refine wpIn_cond_false (by rw[← ha2]; exact eval_put (by omega)) (wpIn_seq (wpIn_region_list ?_))
  have he3:=run_taHit (P:=P) ht1 hu1 (x:=.tmp r) hv2 (dst:=p1.dst) (ty:=p1.type) (xt:=xt) (pos:=p1.pos) (after:=p1.after) (guard:=p1.guard) w
  have hp1:({dst:=p1.dst,op:=.typeAssert (.tmp r) xt t true,type:=p1.type,pos:=p1.pos,after:=p1.after,guard:=p1.guard}:Oper)=p1:=by rw[← k1a]
  rw[hp1]at he3
  simp only[wpListIn,Region.wanted,k1c,k2c,k3c,if_true]
  refine⟨fun _ _=>trivial,?_⟩
  show p1.uponIn _ _ _ _ _ _ ((execOp a2.eval p1).run P w)
  rw[he3,Oper.uponIn_value,k1b]
  generalize ha3:a2.put (some d) (.tuple #[valOf dv,.bool true])=a3
  have hs3:fn.ntmps≤a3.tmps.size:=by rw[← ha3,put_size']; exact hs2
  have hd3:a3.defers=[]:=by rw[← ha3]; simp[Act.put,hd2]
  have hF3:FR w g st ((((argF das).set r .junk).set e .junk).set d .junk) a3:=by rw[← ha3]; exact hF2.put (dst:=some d) (fun t e=>by cases e; omega) (.junk _)
  have hv3:a3.eval (.tmp d)=.tuple #[valOf dv,.bool true]:=by rw[← ha3]; exact eval_put (by omega)
  refine⟨fun _ _=>trivial,?_⟩
  have he4:(execOp a3.eval p2).run P w=.ok (.value (.bool true)) w:=by
   simp only[execOp,k2a,hv3]
   rfl
  show p2.uponIn _ _ _ _ _ _ ((execOp a3.eval p2).run P w)
  rw[he4,Oper.uponIn_value,k2b]
  generalize ha4:a3.put (some ok) (.bool true)=a4
  have hs4:fn.ntmps≤a4.tmps.size:=by rw[← ha4,put_size']; exact hs3
  have hd4:a4.defers=[]:=by rw[← ha4]; simp[Act.put,hd3]
  have hF4:FR w g st (((((argF das).set r .junk).set e .junk).set d .junk).set ok .junk) a4:=by rw[← ha4]; exact hF3.put (dst:=some ok) (fun t e=>by cases e; omega) (.junk _)
  have hv4:a4.eval (.tmp d)=.tuple #[valOf dv,.bool true]:=by rw[← ha4,eval_put_ne n2]; exact hv3
  have hv4':a4.eval (.tmp ok)=.bool true:=by rw[← ha4]; exact eval_put (by omega)
  refine⟨fun _ _=>trivial,?_⟩
  have he5:(execOp a4.eval p3).run P w=.ok (.value (valOf dv)) w:=by
   simp only[execOp,k3a,hv4]
   rfl
  show p3.uponIn _ _ _ _ _ _ ((execOp a4.eval p3).run P w)
  rw[he5,Oper.uponIn_value,k3b]
  show Code.wpIn _ _ _ _ _ _ _
  refine wpIn_cond_true (by rw[eval_put_ne n3]; exact hv4') ?_
  refine body_sim (w0:=w) (g0:=g) (st0:=st) (dl:=[]) body l _ s' _ w _ hb hx ⟨g,Go1.refl hS,?_,hG,⟨[],by simp[Act.put,hd4],trivial⟩,by rw[put_size']; exact hs4⟩ ?_
  ·exact hF4.put (dst:=some vs) (fun t e=>by cases e; omega) (valOf_repr hi)
  ·rintro a' w' ⟨g',h'⟩ hd'
   refine⟨by rw[hd']; simp[Act.put,hd4],.panicking (chainRec t dv),rfl,_,hresults _ _,rfl,rfl,g',h'.go1⟩
end
end Go.Proofs.YtfbbaceiimdejaaGreatDoor.PI
