/-
  A function that, behind a test, puts off a call which recovers: its contract out of what its code comes to.
  Conditions: none; these are definitions and lemmas.
-/
import Derived.Test.YtijnglngaogdjaaGreatDoorEngS
import Derived.Test.YtijnglngaogdjaaGreatDoorEngR
import Derived.Laws.Cover3
import Derived.RecoverIn
set_option linter.unusedVariables false
set_option linter.unusedSimpArgs false
namespace Go.Proofs.YtijnglngaogdjaaGreatDoor.PI
open Go
noncomputable def spOf{α:Type}(enc:α→List D)(pre:α→Prop)(f:α→D):List D→Option D:=
 fun ds=>@dite _ (∃ a,enc a=ds∧pre a) (Classical.propDecidable _) (fun h=>some (f h.choose)) (fun _=>none)
theorem yEs{α:Type}{enc:α→List D}{pre:α→Prop}{f:α→D}{ds:List D}{d:D}(h:spOf enc pre f ds=some d):∃ a,enc a=ds∧pre a∧f a=d:=by
 unfold spOf at h
 split at h
 ·rename_i hx
  simp only[Ywh]at h
  exact⟨hx.choose,hx.choose_spec.1,hx.choose_spec.2,h⟩
 ·cases h
theorem yae{α:Type}{enc:α→List D}{pre:α→Prop}{f:α→D}(hinj:∀ a b,enc a=enc b→a=b)(a:α)(hp:pre a):spOf enc pre f (enc a)=some (f a):=by
 have hx:∃ b,enc b=enc a∧pre b:=⟨a,rfl,hp⟩
 unfold spOf
 rw[dif_pos hx]
 rw[hinj _ _ hx.choose_spec.1]
def look{α:Type}:List (Nat×α)→Nat→Option α
 |[],_=>none
 |(k,a)::r,n=>if n=k then some a else look r n
def tb(l:List (Nat×(List D→Option D)))(li:List (Nat×(List D→St→Option (D×St))))(lm:List (Nat×(List D→Option ((Nat→D)×(Nat→List Obj)))):=[]):Tbl:={p:=look l,i:=look li,m:=look lm}
theorem tb_p(l:List (Nat×(List D→Option D)))(li:List (Nat×(List D→St→Option (D×St))))(lm:List (Nat×(List D→Option ((Nat→D)×(Nat→List Obj)))))(n:Nat):(tb l li lm).p n=look l n:=(rfl)
theorem tb_i(l:List (Nat×(List D→Option D)))(li:List (Nat×(List D→St→Option (D×St))))(lm:List (Nat×(List D→Option ((Nat→D)×(Nat→List Obj)))))(n:Nat):(tb l li lm).i n=look li n:=(rfl)
theorem tb_m(l:List (Nat×(List D→Option D)))(li:List (Nat×(List D→St→Option (D×St))))(lm:List (Nat×(List D→Option ((Nat→D)×(Nat→List Obj)))))(n:Nat):(tb l li lm).m n=look lm n:=(rfl)
theorem Yfr{α:Type}(n:Nat):look ([]:List (Nat×α)) n=none:=(rfl)
theorem yIu{α:Type}(k:Nat)(a:α)(r:List (Nat×α))(n:Nat):look ((k,a)::r) n=if n=k then some a else look r n:=(rfl)
theorem ydw{α:Type}:∀ {l:List (Nat×α)} {n:Nat} {a:α},look l n=some a→(n,a)∈l
 |[],_,_,h=>by cases h
 |(k,b)::r,n,a,h=>by
  simp only[look]at h
  split at h
  ·rename_i e
   simp only[Ywh]at h
   subst h; subst e
   simp
  ·exact List.mem_cons_of_mem _ (ydw h)
theorem yan{P:Program}{G:Glob}{l:List (Nat×(List D→Option D))}{li:List (Nat×(List D→St→Option (D×St)))}(h:∀ x∈l,Contract P G x.1 x.2)(hi:∀ x∈li,IContract P G x.1 x.2)(hlt:l.all (fun x=>decide (x.1<50000000))=true:=by rfl):TblOK P G (tb l li):=
 ⟨fun _ _ hs=>.inl ⟨of_decide_eq_true (List.all_eq_true.1 hlt _ (ydw hs)),h _ (ydw hs)⟩,fun _ _ hs=>hi _ (ydw hs),fun _ _ hs=>(by cases hs),fun _ _ hs=>(by cases hs),fun _ _ hs=>(by cases hs),fun _ _ hs=>(by cases hs)⟩
def tbr(l:List (Nat×(List D→Option D)))(li:List (Nat×(List D→St→Option (D×St))))(lr:List (Nat×((List D→St→Option (D×St))→List D→St→Option (D×St)))):Tbl:={p:=look l,i:=look li,m:=fun _=>none,r:=look lr}
theorem tbr_p(l:List (Nat×(List D→Option D)))(li:List (Nat×(List D→St→Option (D×St))))(lr:List (Nat×((List D→St→Option (D×St))→List D→St→Option (D×St))))(n:Nat):(tbr l li lr).p n=look l n:=(rfl)
theorem tbr_i(l:List (Nat×(List D→Option D)))(li:List (Nat×(List D→St→Option (D×St))))(lr:List (Nat×((List D→St→Option (D×St))→List D→St→Option (D×St))))(n:Nat):(tbr l li lr).i n=look li n:=(rfl)
theorem tbr_r(l:List (Nat×(List D→Option D)))(li:List (Nat×(List D→St→Option (D×St))))(lr:List (Nat×((List D→St→Option (D×St))→List D→St→Option (D×St))))(n:Nat):(tbr l li lr).r n=look lr n:=(rfl)
def tbx(l:List (Nat×(List D→Option D)))(li:List (Nat×(List D→St→Option (D×St))))(lx:List (Nat×(List D→St→Option (Nat×D×St)))):Tbl:={p:=look l,i:=look li,m:=fun _=>none,x:=look lx}
theorem tbx_p(l:List (Nat×(List D→Option D)))(li:List (Nat×(List D→St→Option (D×St))))(lx:List (Nat×(List D→St→Option (Nat×D×St))))(n:Nat):(tbx l li lx).p n=look l n:=(rfl)
theorem tbx_i(l:List (Nat×(List D→Option D)))(li:List (Nat×(List D→St→Option (D×St))))(lx:List (Nat×(List D→St→Option (Nat×D×St))))(n:Nat):(tbx l li lx).i n=look li n:=(rfl)
theorem tbx_x(l:List (Nat×(List D→Option D)))(li:List (Nat×(List D→St→Option (D×St))))(lx:List (Nat×(List D→St→Option (Nat×D×St))))(n:Nat):(tbx l li lx).x n=look lx n:=(rfl)
theorem ytt{P:Program}{G:Glob}{l:List (Nat×(List D→Option D))}{li:List (Nat×(List D→St→Option (D×St)))}{lx:List (Nat×(List D→St→Option (Nat×D×St)))}(h:∀ x∈l,Contract P G x.1 x.2)(hi:∀ x∈li,IContract P G x.1 x.2)
  (hx:∀ x∈lx,yh6 P G x.1 x.2) (hlt:l.all (fun x=>decide (x.1<50000000))=true:=by rfl):TblOK P G (tbx l li lx):=
 ⟨fun _ _ hs=>.inl ⟨of_decide_eq_true (List.all_eq_true.1 hlt _ (ydw hs)),h _ (ydw hs)⟩,fun _ _ hs=>hi _ (ydw hs),fun _ _ hs=>(by cases hs),fun _ _ hs=>(by cases hs),fun _ _ hs=>hx _ (ydw hs),fun _ _ hs=>(by cases hs)⟩
def tbq(l:List (Nat×(List D→Option D)))(li:List (Nat×(List D→St→Option (D×St))))(lq:List (Nat×(List D→List (Option (Bool×Nat×List D))→Option D))):Tbl:={p:=look l,i:=look li,m:=fun _=>none,q:=look lq}
theorem tbq_p(l:List (Nat×(List D→Option D)))(li:List (Nat×(List D→St→Option (D×St))))(lq:List (Nat×(List D→List (Option (Bool×Nat×List D))→Option D)))(n:Nat):(tbq l li lq).p n=look l n:=(rfl)
theorem tbq_i(l:List (Nat×(List D→Option D)))(li:List (Nat×(List D→St→Option (D×St))))(lq:List (Nat×(List D→List (Option (Bool×Nat×List D))→Option D)))(n:Nat):(tbq l li lq).i n=look li n:=(rfl)
theorem tbq_q(l:List (Nat×(List D→Option D)))(li:List (Nat×(List D→St→Option (D×St))))(lq:List (Nat×(List D→List (Option (Bool×Nat×List D))→Option D)))(n:Nat):(tbq l li lq).q n=look lq n:=(rfl)
theorem yVd{P:Program}{G:Glob}{l:List (Nat×(List D→Option D))}{li:List (Nat×(List D→St→Option (D×St)))}{lq:List (Nat×(List D→List (Option (Bool×Nat×List D))→Option D))}(h:∀ x∈l,Contract P G x.1 x.2)(hi:∀ x∈li,IContract P G x.1 x.2)
  (hq:∀ x∈lq,IContract P G x.1 (fun ds st=>(yfr x.2 ds st).map (·,st))) (hlt:l.all (fun x=>decide (x.1<50000000))=true:=by rfl):TblOK P G (tbq l li lq):=
 ⟨fun _ _ hs=>.inl ⟨of_decide_eq_true (List.all_eq_true.1 hlt _ (ydw hs)),h _ (ydw hs)⟩,fun _ _ hs=>hi _ (ydw hs),fun _ _ hs=>(by cases hs),fun _ _ hs=>(by cases hs),fun _ _ hs=>(by cases hs),fun _ _ hs=>hq _ (ydw hs)⟩
theorem all_nil{α:Type}{p:α→Prop}:∀ x∈([]:List α),p x:=fun _ h=>by cases h
theorem all_cons{α:Type}{p:α→Prop}{a:α}{l:List α}(h:p a)(hl:∀ x∈l,p x):∀ x∈a::l,p x:=by
 intro x hx
 rcases List.mem_cons.1 hx with rfl | hx
 ·exact h
 ·exact hl x hx
theorem yac{P:Program}{G:Glob}{T:Tbl}{il:List Nat}{f:Nat}{hints:List (List Nat)}{F:PF}(ht:trF P il f hints=some F)(hT:TblOK P G T){α:Type}{enc:α→List D}{pre:α→Prop}{r:α→D}
  (h:∀ a,pre a→@wW G T F.code (argF (enc a)) [] ⟨retQ F.res (r a)⟩) (hy:T.y=fun _ _ _=>none:=by rfl):Contract P G f (spOf enc pre r):=by
 refine yPw hT hy ht fun ds d hd=>?_
 obtain⟨a,rfl,hp,rfl⟩:=yEs hd
 exact yOe (W_of (h a hp))
theorem yGg{a b:List Dig}:a.map digD=b.map digD↔a=b:=⟨ypw fun _ _=>yP9,fun h=>by rw[h]⟩
theorem yl9{a b:Dig}:digD a=digD b↔a=b:=⟨yP9,fun h=>by rw[h]⟩
theorem yld{a b:Dig}:digC a=digC b↔a=b:=⟨yga,fun h=>by rw[h]⟩
theorem yKh{a b:List UInt8}:a.map yaf=b.map yaf↔a=b:=⟨ykk,fun h=>by rw[h]⟩
theorem Yh9{a b:UInt8}:yaf a=yaf b↔a=b:=⟨yKk,fun h=>by rw[h]⟩
theorem yuk(sz:Nat)(els:List D):nz (nz sz els) els=nz sz els:=by cases els <;> rfl
theorem Ysz(sz:Nat):nz sz []=0:=(rfl)
theorem Yml(sz:Nat)(a:D)(l:List D):nz sz (a::l)=sz:=(rfl)
theorem Ymk(sz:Nat)(els:List D):nz sz els=sz∨els=[]:=by cases els <;> simp[nz]
theorem yi6{α:Type}[Inhabited α](st:St)(sz:Nat)(f:α→D)(l:List α)(t:Bool)(k:IntKind)(i:Int)(h0:0≤i)(h1:i<(l.length:Int)) :
  yfw st sz (.slc (nz sz (l.map f)) (l.map f) t) (.int k i)=some (.eptr (f (l.getD i.toNat default)) 0):=by
 have:nz sz (l.map f)=sz:=by
  rcases Ymk sz (l.map f)with h | h
  ·exact h
  ·have:l.length=0:=by simpa using congrArg List.length h
   omega
 rw[this]
 exact Ygq st sz f l t k i h0 h1
attribute [push_cast] yuk Ysz Yml tb_p tb_i tb_m tbr_p tbr_i tbr_r tbx_p tbx_i tbx_x tbq_p tbq_i tbq_q Yfr yIu List.map_nil
theorem yO6{n:Int}(h:n≤64):min n.toNat 64=n.toNat:=by omega
theorem Ysj{k k':IntKind}{x n:Int}(hk:k=.i64∨k=.u64)(h0:0≤n)(h1:n≤64):pbin .shr (.int k x) (.int k' n)=some (.int k (x / 2 ^ n.toNat)):=by
 have hb:k.bits=64:=by rcases hk with rfl | rfl <;> rfl
 simp only[pbin,yov,show ¬ n<0 by omega,if_false,Option.map_some,hb,yO6 h1]
 rw[Int.fdiv_eq_ediv_of_nonneg _ (Int.pow_nonneg (by decide))]
theorem yBs{k':IntKind}{x n:Int}(h0:0≤n)(h1:n≤64):pbin .shr (.int .u64 x) (.int k' n)=some (.int .u64 (x / 2 ^ n.toNat)):=Ysj (.inr rfl) h0 h1
theorem Ylt{k':IntKind}{x n:Int}(h0:0≤n)(h1:n≤64):pbin .shr (.int .i64 x) (.int k' n)=some (.int .i64 (x / 2 ^ n.toNat)):=Ysj (.inl rfl) h0 h1
theorem shl_i{x n:Int}{k':IntKind}(h0:0≤n)(h1:n≤64)(h2:-9223372036854775808≤x*2 ^ n.toNat)(h3:x*2 ^ n.toNat<9223372036854775808):pbin .shl (.int .i64 x) (.int k' n)=some (.int .i64 (x*2 ^ n.toNat)):=by
 simp only[pbin,yov,show ¬ n<0 by omega,if_false,Option.map_some,show IntKind.bits .i64=64 from rfl,yO6 h1,ykv h2 h3]
theorem Ylu{n:Int}{k':IntKind}(h0:0≤n)(h1:n≤62):pbin .shl (.int .i64 1) (.int k' n)=some (.int .i64 (2 ^ n.toNat)):=by
 have h4:(2:Int) ^ n.toNat≤2 ^ 62:=by
  have h6:(2:Nat) ^ n.toNat≤2 ^ 62:=Nat.pow_le_pow_right (by decide) (by omega)
  have h7:(2:Int) ^ n.toNat=((2 ^ n.toNat:Nat):Int):=by simp
  rw[h7]; omega
 have h5:(0:Int)≤2 ^ n.toNat:=Int.pow_nonneg (by decide)
 have:=shl_i (x:=1) (k':=k') h0 (by omega) (by omega) (by rw[Int.one_mul]; omega)
 rw[this,Int.one_mul]
theorem quo_i{a b:Int}(hb:0<b)(ha:0≤a)(h2:a<9223372036854775808):pbin .quo (.int .i64 a) (.int .i64 b)=some (.int .i64 (a / b)):=by
 have h3:a.tdiv b=a / b:=Int.tdiv_eq_ediv_of_nonneg ha
 have h4:a / b≤a:=Int.ediv_le_self b ha
 have h5:0≤a / b:=Int.ediv_nonneg ha (by omega)
 simp only[pbin,if_true,yhm,show ¬ b=0 by omega,if_false,Option.map_some,h3,ykv (show -9223372036854775808≤a / b by omega) (show a / b<9223372036854775808 by omega)]
theorem Ysr{a b:Int}(hb:0<b)(ha:0≤a):pbin .rem (.int .i64 a) (.int .i64 b)=some (.int .i64 (a % b)):=by
 have h3:a.tmod b=a % b:=Int.tmod_eq_emod_of_nonneg ha
 simp only[pbin,if_true,yhm,show ¬ b=0 by omega,if_false,Option.map_some,h3]
theorem toNat_ofInt{a:Int}(h0:0≤a)(h1:a<9223372036854775808):(BitVec.ofInt 64 a).toNat=a.toNat:=by
 rw[BitVec.toNat_ofInt]
 omega
theorem Yqh{a:Int}(h0:0≤a)(h1:a<9223372036854775808):pbin .and (.int .i64 a) (.int .i64 1)=some (.int .i64 (a % 2)):=by
 have h:(BitVec.ofInt (IntKind.bits .i64) a &&& BitVec.ofInt (IntKind.bits .i64) 1).toNat=(a % 2).toNat:=by
  show(BitVec.ofInt 64 a &&& BitVec.ofInt 64 1).toNat=_
  rw[BitVec.toNat_and,toNat_ofInt h0 h1,show(BitVec.ofInt 64 1).toNat=2 ^ 1 - 1 from rfl,Nat.and_two_pow_sub_one_eq_mod]
  omega
 simp only[pbin,if_true,yut,Option.map_some,h]
 rw[ykv (by omega) (by omega)]
 congr 2
 omega
theorem yGj(st:St){a:Int}(h0:0≤a)(h1:a<9223372036854775808):yde st (.int .u64) (.int .i64 a)=some (.int .u64 a):=by
 obtain⟨n,rfl⟩:=Int.eq_ofNat_of_zero_le h0
 simp only[yde,ytb]
 congr 2
 have:n % 2 ^ 64=n:=Nat.mod_eq_of_lt (by omega)
 rw[this]
theorem Yah(st:St){k:IntKind}{a:Int}(h0:0≤a)(h1:a<9223372036854775808):yde st (.int .i64) (.int k a)=some (.int .i64 a):=by
 simp only[yde,ykv (show -9223372036854775808≤a by omega) h1]
theorem yi7(st:St){k:IntKind}{a:Int}(h0:0≤a):yde st (.int .u8) (.int k a)=some (yaf (UInt8.ofNat a.toNat)):=by
 obtain⟨n,rfl⟩:=Int.eq_ofNat_of_zero_le h0
 simp only[yde,yKv,yaf]
 congr 2
theorem yp8(st:St)(b:UInt8):yde st (.int .i64) (yaf b)=some (.int .i64 (b.toNat:Int)):=by
 have:=b.toNat_lt
 simp only[yaf]
 exact Yah st (by omega) (by omega)
theorem Yn0(s:List UInt8)(k:IntKind)(i:Int)(h0:0≤i)(h1:i<(s.length:Int)):pidx (.str s) (.int k i)=some (yaf (s.getD i.toNat default)):=by
 have h2:i.toNat<s.length:=by omega
 simp only[pidx,yj8 k i h0,getElem?_getD s i.toNat h2]
theorem Ygp(s:List UInt8)(b:UInt8)(h:b.toNat<s.length):pidx (.str s) (yaf b)=some (yaf (s.getD b.toNat default)):=by
 have:=Yn0 s .u8 (b.toNat:Int) (by omega) (by omega)
 simpa[yaf]using this
theorem yRs{s:List UInt8}{st:St}{k:IntKind}{h:Int}(h0:0≤h)(h1:h≤(s.length:Int)):yc6 st 0 (.str s) none (some (.int k h)) none=some (.str (s.take h.toNat)):=by
 simp[yc6,bnd,yj8 k h h0]
 omega
theorem Ybu(st:St)(b:UInt8):imm st (yaf b)=some (yaf b):=(rfl)
theorem yUh(b:UInt8):keys (yaf b)=[]:=(rfl)
theorem Yia(b:UInt8):hk (yaf b)=[]:=(rfl)
theorem Ybt(n:Nat)(σ:List Nat)(b:UInt8):ren n σ (yaf b)=yaf b:=(rfl)
theorem yNq(b:UInt8):(yaf b).cells=[yaf b]:=(rfl)
theorem yKj(b:UInt8):(yaf b).isCell=true:=(rfl)
theorem yNp(b:UInt8):(yaf b).noRef=true:=(rfl)
theorem Ybv(b:UInt8):boxD (yaf b)=some [yaf b]:=(rfl)
theorem yFm(b:UInt8):litD 1 [yaf b]=some (.slc 1 [yaf b] true):=(rfl)
theorem yT0(st:St)(s:List UInt8):yde st .bytes (.str s)=some (.slc 1 (s.map yaf) false):=(rfl)
theorem yYa(a:Nat)(l:List D)(t:Bool):litD 1 [.slc a l t]=some (.slc 1 [.slc a l t] true):=(rfl)
theorem yX9(a b:Nat)(l m:List D)(t u:Bool):litD 1 [.slc a l t,.slc b m u]=some (.slc 1 [.slc a l t,.slc b m u] true):=(rfl)
theorem yX8(a b c:Nat)(l m n:List D)(t u v:Bool):litD 1 [.slc a l t,.slc b m u,.slc c n v]=some (.slc 1 [.slc a l t,.slc b m u,.slc c n v] true):=(rfl)
theorem yYb:litD 1 []=some (.slc 1 [] true):=(rfl)
theorem ySx:litD 32 []=some (.slc 32 [] true):=(rfl)
theorem yam(k:IntKind)(n:Int)(d:Dig):boxD (.agg (.int k n::digC d))=some (.int k n::digC d):=by
 simp[boxD,D.cells,ybc,D.isCell]
theorem yJ0(k:IntKind)(n:Int)(d:Dig):(D.agg (.int k n::digC d)).noRef=true:=by
 have:=yC3 d
 simp only[digD,D.noRef]at this
 simp[D.noRef,D.noRef1,this]
theorem yMs(k:IntKind)(n:Int)(d:Dig):keys (.agg (.int k n::digC d))=[]:=yju (by simp[ymk,yas,ymz])
theorem yM3(k k':IntKind)(n m:Int)(z d:Dig):yar (.int k n::digC z) [(0,1,.int k' m),(1,32,digD d)]=some (.int k' m::digC d):=by
 have h1:ybl (.int k n::digC z) 0 [.int k' m]=.int k' m::digC z:=rfl
 have h2:ybl (.int k' m::digC z) 1 (digC d)=.int k' m::digC d:=by
  rw[show(1:Nat)=0+1 from rfl,yK7,yB6]
 have h3:(digC d).length=32:=yaa d
 have h4:(digC z).length=32:=yaa z
 simp only[yar,ymy,ybc,h3]
 have e1:(D.int k' m).cells=[.int k' m]:=rfl
 have e2:(([D.int k' m].length == 1) && decide (0+1≤(D.int k n::digC z).length) && [D.int k' m].all D.isCell)=true:=by simp[D.isCell]
 rw[e1,e2]
 simp only[if_true,h1,h2,List.length_cons,h4]
 rfl
attribute [push_cast] yam yJ0 yMs yM3
theorem yPs(st:St)(k:IntKind)(n:Int):imm1 st (.int k n)=some (.int k n):=(rfl)
theorem yZc(st:St)(b:Bool):imm1 st (.bool b)=some (.bool b):=(rfl)
theorem Ygn(st:St)(s:List UInt8):imm1 st (.str s)=some (.str s):=(rfl)
theorem yF4(st:St)(sz:Nat)(els:List D)(t:Bool):imm1 st (.slc sz els t)=some (.slc (nz sz els) els false):=(rfl)
attribute [push_cast] yPs yZc Ygn yF4 Nat.zero_le
attribute [push_cast] yYb ySx yT0 yYa yX9 yX8
theorem yIp{α:Type}(f:α→D)(hf:∀ a,yas (f a)=true)(l:List α):(l.map f).all yas=true:=by
 simp only[List.all_eq_true,List.mem_map]
 rintro x ⟨a,_,rfl⟩
 exact hf a
theorem ys3(l:List UInt8):(l.map yaf).all yas=true:=yIp yaf (fun _=>rfl) l
theorem yr3(l:List UInt32):(l.map wD).all yas=true:=yIp wD (fun _=>rfl) l
theorem yTa(st:St)(l:List UInt32):immL st (l.map wD)=some (l.map wD):=yhv st (yr3 l)
theorem yTc(st:St)(l:List UInt8):immL st (l.map yaf)=some (l.map yaf):=yhv st (ys3 l)
theorem yRn(n:Nat)(σ:List Nat)(l:List UInt32):(l.map wD).map (ren n σ)=l.map wD:=ygm n σ (yr3 l)
theorem yRo(n:Nat)(σ:List Nat)(l:List UInt8):(l.map yaf).map (ren n σ)=l.map yaf:=ygm n σ (ys3 l)
theorem yZi(l:List UInt32):(l.map wD).flatMap hk=[]:=ykc (yr3 l)
theorem yZk(l:List UInt8):(l.map yaf).flatMap hk=[]:=ykc (ys3 l)
attribute [push_cast] yRn yRo yZi yZk
theorem yMe(l:List UInt32):(D.agg (l.map wD)).noRef=true:=by
 simp only[D.noRef,List.all_eq_true,List.mem_map]
 rintro x ⟨a,_,rfl⟩
 rfl
theorem Yb2(l:List UInt32):boxD (.agg (l.map wD))=some (l.map wD):=by
 simp only[boxD,D.cells,yum wD (fun _=>rfl),if_true]
theorem Yi1{a b:UInt32}(h:wD a=wD b):a=b:=by
 simp only[wD,D.int.injEq,true_and]at h
 exact UInt32.toNat_inj.1 (by omega)
theorem Yco{a b:UInt32}:wD a=wD b↔a=b:=⟨Yi1,fun h=>by rw[h]⟩
theorem yUu{a b:List UInt32}:a.map wD=b.map wD↔a=b:=⟨ypw fun _ _=>Yi1,fun h=>by rw[h]⟩
theorem Yrq(st:St)(b:UInt32):imm st (wD b)=some (wD b):=(rfl)
theorem Yky(b:UInt32):keys (wD b)=[]:=(rfl)
theorem Yc3(b:UInt32):(wD b).noRef=true:=(rfl)
theorem wD_hk(b:UInt32):hk (wD b)=[]:=(rfl)
theorem Yrp(n:Nat)(σ:List Nat)(b:UInt32):ren n σ (wD b)=wD b:=(rfl)
def zW(n:Nat):List UInt32:=List.replicate n 0
theorem Yj4(n:Nat):D.int .u32 0::(zW n).map wD=(zW (n+1)).map wD:=(rfl)
theorem Yj5:[D.int .u32 0,.int .u32 0,.int .u32 0,.int .u32 0,.int .u32 0,.int .u32 0,.int .u32 0,.int .u32 0]=(zW 8).map wD:=(rfl)
theorem yg3{α:Type}(f:α→D)(hf:∀ a,(f a).isCell=true)(ws:List α)(i:Nat)(v:α)(r:List (Nat×Nat×D))(h:i<ws.length):yar (ws.map f) ((i,1,f v)::r)=yar ((ws.set i v).map f) r:=by
 have h2:i+1≤ws.length:=h
 have h3:ybl (ws.map f) i [f v]=(ws.set i v).map f:=by
  rw[List.map_set,ybl,List.set_eq_take_append_cons_drop]
  simp[h]
 simp[yar,ye7 (hf v),hf v,h2,h3]
theorem yjm(cs:List D):yar cs []=some cs:=(rfl)
theorem fill8(a b c d e f g h:UInt32):yar ((zW 8).map wD) [(0,1,wD a),(1,1,wD b),(2,1,wD c),(3,1,wD d),(4,1,wD e),(5,1,wD f),(6,1,wD g),(7,1,wD h)]=some ([a,b,c,d,e,f,g,h].map wD):=by
 have hf:∀ a,(wD a).isCell=true:=fun _=>rfl
 rw[yg3 wD hf _ _ _ _ (by simp[zW]),yg3 wD hf _ _ _ _ (by simp[zW]),yg3 wD hf _ _ _ _ (by simp[zW]),yg3 wD hf _ _ _ _ (by simp[zW]),yg3 wD hf _ _ _ _ (by simp[zW]),yg3 wD hf _ _ _ _ (by simp[zW]),yg3 wD hf _ _ _ _ (by simp[zW]),yg3 wD hf _ _ _ _ (by simp[zW]),yjm]
 rfl
theorem Ysk(x:UInt32)(k:IntKind)(z:Int)(h0:0≤z)(h:z<32):pbin .shl (wD x) (.int k z)=some (wD (x <<< UInt32.ofNat z.toNat)):=by
 obtain⟨n,rfl⟩:=Int.eq_ofNat_of_zero_le h0
 exact Ysl x k n (by omega)
theorem Yi8(x:UInt32)(k:IntKind)(z:Int)(h0:0≤z)(h:z<32):pbin .shr (wD x) (.int k z)=some (wD (x >>> UInt32.ofNat z.toNat)):=by
 obtain⟨n,rfl⟩:=Int.eq_ofNat_of_zero_le h0
 exact Ysh x k n (by omega)
theorem Ysi(x:UInt64)(k:IntKind)(z:Int)(h0:0≤z)(h:z<64):pbin .shr (qD x) (.int k z)=some (qD (x >>> UInt64.ofNat z.toNat)):=by
 obtain⟨n,rfl⟩:=Int.eq_ofNat_of_zero_le h0
 exact shr_q x k n (by omega)
def bsD(s:List UInt8):D:=.slc (nz 1 (s.map yaf)) (s.map yaf) false
theorem Yp0{a b:List UInt8}(h:bsD a=bsD b):a=b:=by
 simp only[bsD,D.slc.injEq]at h
 exact ykk h.2.1
theorem Ypz{a b:List (List UInt8)}:a.map bsD=b.map bsD↔a=b:=⟨ypw fun _ _=>Yp0,fun h=>by rw[h]⟩
theorem yWz(st:St)(s:List UInt8):ydd st 1 false (.eptr (bsD s) 0)=some (.slc (nz 1 (s.map yaf)) (s.map yaf) false):=yFc st _ rfl
theorem stO_8(sz:Nat)(x0 x1 x2 x3 x4 x5 x6 x7:D)(a b c d e f g h:UInt32):stO (some ⟨false,sz,[x0,x1,x2,x3,x4,x5,x6,x7],false⟩) 8 0 (.agg [wD a,wD b,wD c,wD d,wD e,wD f,wD g,wD h])=some ⟨false,sz,[wD a,wD b,wD c,wD d,wD e,wD f,wD g,wD h],false⟩:=yi2 sz _ _ 8 rfl rfl rfl
attribute [push_cast] stO_8 yTa yTc yMe Yb2 Yrq Yky Yc3 wD_hk Yrp Yj4 Yj5 fill8 yjm yWz
attribute [push_cast] Ybu yUh Yia Ybt yNq yKj yNp Ybv yFm
set_option linter.unusedSimpArgs false
def bufK(n:Nat)(els:List D):List Nat:=if els.isEmpty then []else [n]
theorem ywk(sz key:Nat)(els:List D)(h:els≠[]):bufD sz key els=.row key els.length 0 els.length:=by
 cases els with
 |nil=>exact absurd rfl h
 |cons a l=>rfl
theorem ys7(sz:Nat)(els:List D)(h:els≠[]):bufS sz els=[{row:=true,sz,els,lent:=false}]:=by
 cases els with
 |nil=>exact absurd rfl h
 |cons a l=>rfl
theorem Yuo(sz n:Nat)(els:List D):hk (bufD sz n els)=bufK n els:=by cases els <;> rfl
theorem Yl2(sz n:Nat)(els:List D):ren n (bufK n els) (bufD sz n els)=bufD sz n els:=by
 cases els with
 |nil=>rfl
 |cons a l=>simp[bufK,bufD,ren,ren1,ren0,renK,yH9,ygn]
theorem yN0(n hi sz:Nat)(els:List D)(r:List Nat)(h:hi=(bufS sz els).length+n):uniq n hi (bufK n els++r) []=uniq n hi r (bufK n els):=by
 cases els with
 |nil=>rfl
 |cons a l=>
  have:n<hi:=by rw[h]; simp[bufS]
  simp[bufK,uniq,this]
theorem yU7(sz:Nat)(els:List D)(r:List Nat):uniq 1 ((bufS sz els).length+1) (bufK 1 els++r) []=uniq 1 ((bufS sz els).length+1) r (bufK 1 els):=yN0 1 _ sz els r (by simp)
theorem Yk1(sz:Nat)(els:List D):uniq 1 ((bufS sz els).length+1) (bufK 1 els) []=bufK 1 els:=by
 have:=yU7 sz els []
 rwa [List.append_nil]at this
theorem yU6(sz:Nat)(els:List D)(r:List Nat):uniq 2 ((bufS sz els).length+1+1) (bufK 2 els++r) []=uniq 2 ((bufS sz els).length+1+1) r (bufK 2 els):=yN0 2 _ sz els r (by simp)
theorem Yk0(sz:Nat)(els:List D):uniq 2 ((bufS sz els).length+1+1) (bufK 2 els) []=bufK 2 els:=by
 have:=yU6 sz els []
 rwa [List.append_nil]at this
theorem yOv(l:St)(sz:Nat)(els:List D):yxi l.length (bufK l.length els) (l++bufS sz els) (bufK l.length els)=bufS sz els:=by
 cases els with
 |nil=>rfl
 |cons a r=>simp[bufK,bufS,yxi,renO]
theorem yW6(a:Obj)(sz:Nat)(els:List D):yxi 1 (bufK 1 els) (a::bufS sz els) (bufK 1 els)=bufS sz els:=yOv [a] sz els
theorem yW5(a b:Obj)(sz:Nat)(els:List D):yxi 2 (bufK 2 els) (a::b::bufS sz els) (bufK 2 els)=bufS sz els:=yOv [a,b] sz els
theorem yXe(l:St)(sz sz0 szx bytes:Nat)(els xs:List D)(t:Bool)(hs:szx=sz∨xs=[])(hs0:sz≠0)(hb:(els.length+xs.length)*bytes≤140737488355328)(hl:els.length+xs.length≤4294967296) :
  papp (l++bufS sz els) sz bytes (bufD sz0 l.length els) (.slc szx xs t)=some (bufD sz0 l.length (els++xs),l++bufS sz (els++xs)):=
 Ye0 l sz sz0 bytes els xs _ szx rfl hs hs0 hb hl
section
variable {α:Type} (f:α→D) (a b c d:Obj) (sz sz0 bytes:Nat) (A B:List α) (t:Bool) (hs0:sz≠0) (hb:(A.length+B.length)*bytes≤140737488355328) (hl:A.length+B.length≤4294967296)
include hs0 hb hl
theorem yzm(l:St)(szx:Nat)(hs:szx=sz∨B.map f=[]):papp (l++bufS sz (A.map f)) sz bytes (bufD sz0 l.length (A.map f)) (.slc szx (B.map f) t)=some (bufD sz0 l.length ((A++B).map f),l++bufS sz ((A++B).map f)):=by
 rw[yXe l sz sz0 szx bytes (A.map f) (B.map f) t hs hs0 (by simpa using hb) (by simpa using hl),List.map_append]
theorem Yme:papp (a::bufS sz (A.map f)) sz bytes (bufD sz0 1 (A.map f)) (.slc (nz sz (B.map f)) (B.map f) t)=some (bufD sz0 1 ((A++B).map f),a::bufS sz ((A++B).map f)):=yzm f sz sz0 bytes A B t hs0 hb hl [a] _ (Ymk _ _)
end
section
variable {α:Type} (f:α→D) (a b c d:Obj) (sz sz0 bytes:Nat) (A:List α) (x:α) (t:Bool) (hs0:sz≠0) (hb:(A.length+1)*bytes≤140737488355328) (hl:A.length+1≤4294967296)
include hs0 hb hl
theorem yOy(l:St):papp (l++bufS sz (A.map f)) sz bytes (bufD sz0 l.length (A.map f)) (.slc sz [f x] t)=some (bufD sz0 l.length ((A++[x]).map f),l++bufS sz ((A++[x]).map f)):=
 yzm f sz sz0 bytes A [x] t hs0 hb hl l sz (.inl rfl)
theorem Ymd:papp (a::bufS sz (A.map f)) sz bytes (bufD sz0 1 (A.map f)) (.slc sz [f x] t)=some (bufD sz0 1 ((A++[x]).map f),a::bufS sz ((A++[x]).map f)):=yOy f sz sz0 bytes A x t hs0 hb hl [a]
theorem yXd:papp (a::b::bufS sz (A.map f)) sz bytes (bufD sz0 2 (A.map f)) (.slc sz [f x] t)=some (bufD sz0 2 ((A++[x]).map f),a::b::bufS sz ((A++[x]).map f)):=yOy f sz sz0 bytes A x t hs0 hb hl [a,b]
end
theorem yCl{α:Type}(f:α→D)(st:St)(sz sz0 bytes:Nat)(B:List α)(t:Bool)(hs0:sz≠0)(hb:B.length*bytes≤140737488355328)(hl:B.length≤4294967296) :
  papp st sz bytes (.slc sz0 [] true) (.slc (nz sz (B.map f)) (B.map f) t)=some (bufD sz0 st.length (B.map f),st++bufS sz (B.map f)):=by
 have:=yzm f sz sz0 bytes [] B t hs0 (by simpa using hb) (by simpa using hl) st _ (Ymk _ _)
 simpa[bufS,bufD]using this
theorem yXr{α:Type}(f:α→D)(sz:Nat)(A:List α)(h:Nat):nz (nz sz (A.map f)) ((A.take h).map f)=nz sz ((A.take h).map f):=by
 cases A with
 |nil=>simp[nz]
 |cons a r=>rfl
theorem yXs{α:Type}(f:α→D)(sz:Nat)(A:List α)(l:Nat):nz (nz sz (A.map f)) ((A.drop l).map f)=nz sz ((A.drop l).map f):=by
 cases A with
 |nil=>simp[nz]
 |cons a r=>rfl
theorem yIi(st:St)(sz bytes sz' szx:Nat)(els:List D)(t:Bool)(hs0:sz≠0):papp st sz bytes (.slc sz' els true) (.slc szx [] t)=some (.slc sz' els true,st):=yOz st sz bytes sz' els _ szx rfl hs0
attribute [push_cast] yXr yXs
theorem Ynx(l:St)(sz sz0:Nat)(els:List D):imm (l++bufS sz els) (bufD sz0 l.length els)=some (.slc (nz sz els) els false):=by
 cases els with
 |nil=>rfl
 |cons a r=>simp[bufD,bufS,imm,imm1,yec]
theorem Yjq(a b:Obj)(sz sz0:Nat)(els:List D):imm (a::b::bufS sz els) (bufD sz0 2 els)=some (.slc (nz sz els) els false):=Ynx [a,b] sz sz0 els
theorem Yfx(l:St)(sz sz0:Nat)(els:List D):lenD (l++bufS sz els) false (bufD sz0 l.length els)=some (.int .i64 (els.length:Int)):=by
 cases els with
 |nil=>rfl
 |cons a r=>simp[bufD,bufS,lenD,yp1,sLen,live]
theorem Ym0(a:Obj)(sz sz0:Nat)(els:List D):lenD (a::bufS sz els) false (bufD sz0 1 els)=some (.int .i64 (els.length:Int)):=Yfx [a] sz sz0 els
theorem Yth(n m:Nat):n≤m+n:=Nat.le_add_left n m
theorem Yfg(key:Nat):D.slc 0 [] true=bufD 0 key []:=(rfl)
def apR(o:Option Obj)(sz bytes tot:Nat)(xs:Option (Nat×List D)):Option Obj:=match o,xs with
 |some o,some (szx,xs)=>if !(szx == sz || xs.isEmpty) || sz == 0 then none
  else if o.row && o.sz == sz && o.els.length == tot && decide ((tot+xs.length)*bytes≤140737488355328) && decide (tot+xs.length≤4294967296)then some {o with els:=o.els++xs} else none
 |_,_=>none
theorem yzl(st:St)(sz bytes key tot:Nat)(x:D):papp st sz bytes (.row key tot 0 tot) x=(apR st[key]? sz bytes tot (ygl st x)).map fun o=>(.row key o.els.length 0 o.els.length,st.set key o):=by
 simp only[papp,apR]
 cases hx:ygl st x with
 |none=>cases st[key]? <;> rfl
 |some p=>
  obtain⟨szx,xs⟩:=p
  cases ho:st[key]? with
  |none=>
   simp only
   split <;> rfl
  |some o=>
   simp only
   split
   ·rfl
   ·by_cases h:(o.row && o.sz == sz && o.els.length == tot && decide ((tot+xs.length)*bytes≤140737488355328) && decide (tot+xs.length≤4294967296))=true
    ·have h':=h
     simp only[Bool.and_eq_true,beq_iff_eq,decide_eq_true_eq]at h'
     obtain⟨⟨⟨⟨h1,h2⟩,h3⟩,h4⟩,h5⟩:=h'
     simp[h1,h2,h3,h4,h5]
    ·simp only[h]
     simp only[Bool.not_eq_true]at h
     simp
     intro h1 h2 h3 h4
     simp[h1,h2,h3,h4]at h
     omega
theorem yNu{α:Type}(f:α→D)(sz bytes:Nat)(A B:List α)(lent:Bool)(hs0:sz≠0)(hb:(A.length+B.length)*bytes≤140737488355328)(hl:A.length+B.length≤4294967296)(szx:Nat)(hs:szx=sz∨B.map f=[]) :
  apR (some ⟨true,sz,A.map f,lent⟩) sz bytes A.length (some (szx,B.map f))=some ⟨true,sz,(A++B).map f,lent⟩:=by
 have e:(!(szx == sz || (B.map f).isEmpty) || sz == 0)=false:=by
  rcases hs with h | h <;> simp[h,hs0]
 simp only[apR,e,Bool.false_eq_true,if_false]
 simp[hb,hl]
theorem Yqe{α:Type}(f:α→D)(sz bytes:Nat)(A:List α)(x:α)(lent t:Bool)(st:St)(hs0:sz≠0)(hb:(A.length+1)*bytes≤140737488355328)(hl:A.length+1≤4294967296) :
  apR (some ⟨true,sz,A.map f,lent⟩) sz bytes A.length (ygl st (.slc sz [f x] t))=some ⟨true,sz,(A++[x]).map f,lent⟩:=yNu f sz bytes A [x] lent hs0 hb hl _ (.inl rfl)
def reR(o:Option Obj)(tot off len:Nat):Option (Nat×List D):=o.bind fun o=>if o.row && o.els.length == tot && decide (off+len≤tot)then some (o.sz,(o.els.drop off).take len)else none
theorem yWe(st:St)(key tot off len:Nat):yec st key tot off len=reR st[key]? tot off len:=by
 unfold yec reR; cases st[key]? <;> rfl
theorem Yen{α:Type}(f:α→D)(sz:Nat)(A:List α)(lent:Bool)(off len:Nat)(h:off+len≤A.length):reR (some ⟨true,sz,A.map f,lent⟩) A.length off len=some (sz,((A.drop off).take len).map f):=by
 simp[reR,h,List.map_drop,List.map_take]
def liR(o:Option Obj)(tot:Nat):Bool:=match o with
 |some o=>o.row && o.els.length == tot
 |none=>false
theorem Ymy(st:St)(key tot:Nat):live st key tot=liR st[key]? tot:=(rfl)
theorem Ymz{α:Type}(f:α→D)(sz:Nat)(A:List α)(lent:Bool):liR (some ⟨true,sz,A.map f,lent⟩) A.length=true:=by simp[liR]
def ixR(o:Option Obj)(sz key tot off len:Nat)(j:Int):Option D:=if 0≤j then o.bind fun o=>if o.row && o.sz == sz && o.els.length == tot && decide (j.toNat<len)then some (.rptr key tot (off+j.toNat) 0)else none else none
theorem yPu(st:St)(sz key tot off len:Nat)(k:IntKind)(j:Int):yfw st sz (.row key tot off len) (.int k j)=ixR st[key]? sz key tot off len j:=by
 simp only[yfw,ixR,yd5]
 by_cases h:0≤j
 ·simp only[h,if_true]; cases st[key]? <;> rfl
 ·simp only[h,if_false]
theorem yYy{α:Type}(f:α→D)(sz:Nat)(A:List α)(lent:Bool)(key off len:Nat)(j:Int)(h0:0≤j)(h1:j<(len:Int)):ixR (some ⟨true,sz,A.map f,lent⟩) sz key A.length off len j=some (.rptr key A.length (off+j.toNat) 0):=by
 have:j.toNat<len:=by omega
 simp[ixR,h0,this]
def ldR(o:Option Obj)(n:Nat)(ag:Bool)(tot i off:Nat):Option D:=if !ag && n != 1 then none else o.bind fun o=>if o.row && o.els.length == tot then(o.els[i]?).bind fun el=>if off+n≤el.cells.length then some (.mk ag ((el.cells.drop off).take n))else none else none
theorem yzh(st:St)(n:Nat)(ag:Bool)(key tot i off:Nat):ydd st n ag (.rptr key tot i off)=ldR st[key]? n ag tot i off:=yRv st n ag key tot i off
theorem Yf2{α:Type}[Inhabited α](f:α→D)(hf:∀ a,(f a).isCell=true)(sz:Nat)(A:List α)(lent:Bool)(i:Nat)(h:i<A.length):ldR (some ⟨true,sz,A.map f,lent⟩) 1 false A.length i 0=some (f (A.getD i default)):=by
 have:(f A[i]).cells=[f A[i]]:=ye7 (hf _)
 simp[ldR,h,this,D.mk,List.getD_eq_getElem?_getD]
def slR(o:Option Obj)(sz:Nat)(x:D)(key tot off len l h:Nat):Option D:=o.bind fun o=>if o.row && o.sz == sz && o.els.length == tot && sz != 0 then(if l≤h∧h≤len then(if l=0∧h=len then some x else if l=h then some (.slc sz [] false)else some (.row key tot (off+l) (h - l)))else none)else none
theorem yRt(st:St)(sz key tot off len:Nat)(lo hi:Option D):yc6 st sz (.row key tot off len) lo hi none=(bnd lo 0).bind fun l=>(bnd hi len).bind fun h=>slR st[key]? sz (.row key tot off len) key tot off len l h:=by
 simp only[yc6,slR]
 cases st[key]? with
 |none=>cases bnd lo 0 <;> cases bnd hi len <;> rfl
 |some o=>
  simp only[Option.bind_some]
  split
  ·cases bnd lo 0 <;> cases bnd hi len <;> rfl
  ·cases bnd lo 0 <;> cases bnd hi len <;> rfl
theorem yVt{α:Type}(f:α→D)(sz:Nat)(A:List α)(lent:Bool)(x:D)(key off len l h:Nat)(h0:sz≠0)(h1:l≤h)(h2:h≤len):slR (some ⟨true,sz,A.map f,lent⟩) sz x key A.length off len l h=(if l=0∧h=len then some x else if l=h then some (.slc sz [] false)else some (.row key A.length (off+l) (h - l))):=by
 simp[slR,h0,h1,h2]
theorem Yih(d:Nat):bnd none d=some d:=(rfl)
theorem Yp5(k:IntKind)(n:Int)(d:Nat)(h:0≤n):bnd (some (.int k n)) d=some n.toNat:=by simp[bnd,yd5,h]
theorem ySj(sz bytes:Nat)(zero:D)(k k':IntKind)(c:Int)(h0:0≤c)(h1:c≤4294967296)(h2:c.toNat*bytes≤140737488355328)(h3:0<sz)(h4:zero.cells.length=sz)(h5:zero.cells.all D.pure1=true) :
  yzr sz bytes zero (.int k 0) (.int k' c)=some (0,⟨true,sz,[],false⟩):=by
 have:c.toNat≤4294967296:=by omega
 simp[yzr,yj8 k' c h0,ySi,this,h2,h3,h4,h5]
theorem Yfj(k k' k0:IntKind)(n c:Int)(h0:0≤c)(h1:c≤4294967296):yzr 1 1 (.int k0 n) (.int k 0) (.int k' c)=some (0,⟨true,1,([]:List UInt8).map yaf,false⟩):=
 ySj 1 1 _ k k' c h0 h1 (by omega) (by decide) rfl rfl
theorem apR_e{α:Type}(f:α→D)(sz bytes szx:Nat)(B:List α)(lent:Bool)(hs:szx=sz∨B.map f=[])(hs0:sz≠0)(hb:B.length*bytes≤140737488355328)(hl:B.length≤4294967296) :
  apR (some ⟨true,sz,[],lent⟩) sz bytes 0 (some (szx,B.map f))=some ⟨true,sz,B.map f,lent⟩:=yNu f sz bytes [] B lent hs0 (by simpa using hb) (by simpa using hl) szx hs
theorem Yv5(B:List UInt8)(lent:Bool)(hl:B.length≤4294967296):apR (some ⟨true,1,[],lent⟩) 1 1 0 (some (1,B.map yaf))=some ⟨true,1,B.map yaf,lent⟩:=apR_e yaf 1 1 1 B lent (.inl rfl) (by decide) (by omega) hl
theorem Yqf(A B:List UInt8)(lent:Bool)(hl:A.length+B.length≤4294967296):apR (some ⟨true,1,A.map yaf,lent⟩) 1 1 A.length (some (1,B.map yaf))=some ⟨true,1,(A++B).map yaf,lent⟩:=yNu yaf 1 1 A B lent (by decide) (by omega) hl 1 (.inl rfl)
def elB(o:Option Obj):Option (Nat×List D):=o.bind fun o=>if !o.row && decide (32≤o.els.length) && (yn7 1 false o.els 32).all purA then some (1,yn7 1 false o.els 32)else none
theorem yAv(st:St)(key:Nat):ygl st (.bsl key 0 32 1 false)=elB st[key]?:=by
 simp only[ygl,ylf,elB]
 cases st[key]? with
 |none=>rfl
 |some o=>
  simp only[Option.bind_some,Nat.zero_add,Nat.mul_one,List.drop_zero]
  by_cases h:(!o.row && decide (32≤o.els.length))=true
  ·have h2:(decide (0<1) && (false || 1 == 1))=true:=rfl
   simp only[Bool.and_assoc]at h ⊢
   simp only[← Bool.and_assoc]at h ⊢
   simp only[h,Bool.true_and]
   rfl
  ·simp only[Bool.not_eq_true]at h
   have h2:(!o.row && decide (32≤o.els.length) && decide (0<1) && (false || 1 == 1))=false:=by simpa using h
   simp only[h,Bool.false_and,Bool.false_eq_true,if_false]
theorem Yo2(sz:Nat)(d:Dig)(lent:Bool):elB (some ⟨false,sz,digC d,lent⟩)=some (1,d.bs.map yaf):=by
 have h1:yn7 1 false (digC d) 32=digC d:=by
  have:=yA2 (digC d)
  rwa [yaa]at this
 have h2:(digC d).all purA=true:=yet (fun _=>rfl) d
 simp only[elB,Option.bind_some,yaa,h1,h2]
 rfl
attribute [push_cast] yAv Yo2 Yv5 Yqf
attribute [push_cast] List.drop_zero List.take_length
attribute [push_cast] yzl Yqe yWe Yen Yfw Ymy Ymz yPu yYy yzh yRt Yih Yp5
attribute [push_cast] Yuo Yl2 yU7 Yk1 yU6 Yk0 yW6 yW5 Yme Ymd yXd Yjq Ym0 Yth
noncomputable def yS3(tys:List Ty):List D→Option D:=fun xs=>@ite _ (HasAll tys xs) (Classical.propDecidable _) (some (.bool true)) none
theorem lawSp_true{tys:List Ty}{xs:List D}(h:HasAll tys xs):yS3 tys xs=some (.bool true):=by
 unfold yS3; rw[if_pos h]
theorem yYo{tys:List Ty}{xs:List D}{d:D}(h:yS3 tys xs=some d):HasAll tys xs∧d=.bool true:=by
 unfold yS3 at h
 split at h
 ·rename_i hx
  simp only[Ywh]at h
  exact⟨hx,h.symm⟩
 ·cases h
theorem lawC{P:Program}{G:Glob}{T:Tbl}{il:List Nat}{f:Nat}{hints:List (List Nat)}{F:PF}(ht:trF P il f hints=some F)(hT:TblOK P G T){tys:List Ty}
  (h:∀ xs,HasAll tys xs→@wW G T F.code (argF xs) [] ⟨retQ F.res (.bool true)⟩) (hy:T.y=fun _ _ _=>none:=by rfl):Contract P G f (yS3 tys):=by
 refine yPw hT hy ht fun ds d hd=>?_
 obtain⟨hx,rfl⟩:=yYo hd
 exact yOe (W_of (h ds hx))
theorem ykd{t:Ty}{ts:List Ty}{xs:List D}(h:HasAll (t::ts) xs):∃ x r,xs=x::r∧Has t x∧HasAll ts r:=by
 cases h with
 |cons h1 h2=>exact⟨_,_,rfl,h1,h2⟩
theorem yTi{xs:List D}(h:HasAll [] xs):xs=[]:=by
 cases h; rfl
theorem yl6{d:D}(h:Has (.int .i64) d):∃ n:Int,d=.int .i64 n∧-9223372036854775808≤n∧n<9223372036854775808:=by
 cases h with
 |int k n hw=>
  refine⟨n,rfl,?_⟩
  simp[Lit.wf,IntKind.min,IntKind.max,IntKind.signed,IntKind.bits]at hw
  omega
theorem Yur{d:D}(h:Has (.int .u8) d):∃ b:UInt8,d=yaf b:=by
 cases h with
 |int k n hw=>
  simp[Lit.wf,IntKind.min,IntKind.max,IntKind.signed,IntKind.bits]at hw
  refine⟨UInt8.ofNat n.toNat,?_⟩
  simp[yaf]
  omega
theorem yO8{α:Type}{f:α→D}:∀ {els:List D},(∀ x∈els,∃ a,x=f a)→∃ l:List α,els=l.map f
 |[],_=>⟨[],rfl⟩
 |e::r,h=>by
  obtain⟨a,ha⟩:=h e (by simp)
  obtain⟨l,hl⟩:=yO8 (f:=f) (els:=r) fun x hx=>h x (by simp[hx])
  exact⟨a::l,by rw[ha,hl]; rfl⟩
theorem Yoi{d:D}(h:Has (.agg (List.replicate 32 (.int .u8))) d):∃ x,d=digD x:=by
 cases h with
 |agg _ xs h1 h2=>
  obtain⟨l,rfl⟩:=yO8 (f:=yaf) (els:=xs) fun x hx=>by
   obtain⟨i,hi⟩:=List.getElem?_of_mem hx
   have hlt:i<32:=by
    have:=(List.getElem?_eq_some_iff.1 hi).1
    rw[← h1,List.length_replicate]at this
    exact this
   exact Yur (h2 i (.int .u8) x (by rw[List.getElem?_replicate,if_pos hlt]) hi)
  have hl:l.length=32:=by
   rw[List.length_replicate,List.length_map]at h1
   exact h1.symm
  refine⟨⟨l,hl⟩,?_⟩
  have:∀ l:List UInt8,(l.map yaf).flatMap D.cells=l.map yaf:=by
   intro l
   induction l with
   |nil=>rfl
   |cons a r ih=>simp only[List.map_cons,List.flatMap_cons,ih]; rfl
  rw[this]
  rfl
theorem yF6{t u:Ty}{d:D}(h:Has (.agg [t,u]) d):∃ x y,d=.agg (x.cells++y.cells)∧Has t x∧Has u y:=by
 cases h with
 |agg _ xs h1 h2=>
  match xs,h1 with
  |[x,y],_=>exact⟨x,y,by simp,h2 0 t x rfl rfl,h2 1 u y rfl rfl⟩
theorem yTh{d:D}(h:Has (.agg [.int .i64,.agg (List.replicate 32 (.int .u8))]) d):∃ c:Int×Dig,d=.agg (.int .i64 c.1::digC c.2):=by
 obtain⟨x,y,rfl,h1,h2⟩:=yF6 h
 obtain⟨n,rfl,_⟩:=yl6 h1
 obtain⟨r,rfl⟩:=Yoi h2
 exact⟨(n,r),rfl⟩
noncomputable def siOf{α:Type}(enc:α→List D×St)(pre:α→Prop)(f:α→D×St):List D→St→Option (D×St):=
 fun ds st=>@dite _ (∃ a,enc a=(ds,st)∧pre a) (Classical.propDecidable _) (fun h=>some (f h.choose)) (fun _=>none)
theorem yEy{α:Type}{enc:α→List D×St}{pre:α→Prop}{f:α→D×St}{ds:List D}{st:St}{r:D×St}(h:siOf enc pre f ds st=some r):∃ a,enc a=(ds,st)∧pre a∧f a=r:=by
 unfold siOf at h
 split at h
 ·rename_i hx
  simp only[Ywh]at h
  exact⟨hx.choose,hx.choose_spec.1,hx.choose_spec.2,h⟩
 ·cases h
theorem yua{α:Type}{enc:α→List D×St}{pre:α→Prop}{f:α→D×St}(hinj:∀ a b,enc a=enc b→f a=f b)(a:α)(hp:pre a){ds:List D}{st:St}(he:enc a=(ds,st)):siOf enc pre f ds st=some (f a):=by
 have hx:∃ b,enc b=(ds,st)∧pre b:=⟨a,he,hp⟩
 unfold siOf
 rw[dif_pos hx]
 rw[hinj _ _ (hx.choose_spec.1.trans he.symm)]
theorem yJn{P:Program}{G:Glob}{T:Tbl}{il:List Nat}{f:Nat}{hints:List (List Nat)}{F:PF}(hT:TblOK P G T)(ht:trF P il f hints=some F){sp:List D→St→Option (D×St)}
  (h:∀ ds st r,sp ds st=some r→∃ fuel,dropped (F.runI G T fuel) ds st=some r) (hy:T.y=fun _ _ _=>none:=by rfl):IContract P G f sp:=by
 refine⟨(yx4 hT hy ht 0).1,?_⟩
 intro base w g st st' ds vs d hsp hS hG hl hrep
 obtain⟨fuel,hf⟩:=h ds st _ hsp
 exact(yx4 hT hy ht fuel).dropped.2 base w g st st' ds vs d hf hS hG hl hrep
theorem yp4{P:Program}{G:Glob}{T:Tbl}{il:List Nat}{f:Nat}{hints:List (List Nat)}{F:PF}(ht:trF P il f hints=some F)(hT:TblOK P G T){α:Type}{enc:α→List D×St}{pre:α→Prop}{r:α→D×St}
  (h:∀ a,pre a→@wW G T F.code (argF (enc a).1) (enc a).2 ⟨@retI F.res ⟨fun d st'=>(lowR (enc a).2.length d,cut (enc a).2.length st')=r a⟩⟩) (hy:T.y=fun _ _ _=>none:=by rfl):IContract P G f (siOf enc pre r):=by
 refine yJn hT ht (fun ds st x hx=>?_) hy
 obtain⟨a,ha,hp,rfl⟩:=yEy hx
 obtain⟨fuel,d,st',h1,h2⟩:=yzc (W_of (h a hp))
 rw[ha]at h1 h2
 refine⟨fuel,?_⟩
 unfold dropped
 rw[h1 fuel (Nat.le_refl _)]
 exact congrArg some h2
def cutO(k:Nat)(o:Obj):Obj:={o with els:=if o.row then o.els else o.els.map (low k)}
def cutL(k:Nat):Nat→St→St
 |0,_=>[]
 |_+1,[]=>[]
 |n+1,o::st=>cutO k o::cutL k n st
theorem Yag(k:Nat):∀ (n:Nat) (st:St),cutL k n st=(st.take n).map (cutO k)
 |0,_=>by simp[cutL]
 |n+1,[]=>by simp[cutL]
 |n+1,o::st=>by simp[cutL,Yag k n st]
theorem Yu5(k:Nat)(st:St):cut k st=cutL k k st:=by
 rw[Yag]; rfl
theorem Yae(k:Nat)(st:St):cutL k 0 st=[]:=by simp[cutL]
theorem Yaf(k n:Nat)(o:Obj)(st:St):cutL k (n+1) (o::st)=cutO k o::cutL k n st:=(rfl)
theorem Yhg(k sz:Nat)(els:List D)(lent:Bool):cutO k ⟨true,sz,els,lent⟩=⟨true,sz,els,lent⟩:=(rfl)
theorem Yhh(k sz:Nat)(els:List D)(lent:Bool):cutO k ⟨false,sz,els,lent⟩=⟨false,sz,els.map (low k),lent⟩:=(rfl)
theorem Yfq(n:Nat)(k:IntKind)(m:Int):low1 n (.int k m)=.int k m:=(rfl)
theorem yX6(n:Nat)(b:Bool):low1 n (.bool b)=.bool b:=(rfl)
theorem Yfo(n sz:Nat)(els:List D)(t:Bool):low1 n (.slc sz els t)=.slc sz els t:=(rfl)
theorem Yfp(n key tot off len:Nat):low1 n (.row key tot off len)=if key<n then .row key tot off len else .junk:=(rfl)
theorem Ymx(n:Nat)(k:IntKind)(m:Int):low n (.int k m)=.int k m:=(rfl)
theorem Yfl(n:Nat)(b:Bool):low n (.bool b)=.bool b:=(rfl)
theorem Ymu(n sz:Nat)(els:List D)(t:Bool):low n (.slc sz els t)=.slc sz els t:=(rfl)
theorem Ymv(n key tot off len:Nat):low n (.row key tot off len)=if key<n then .row key tot off len else .junk:=(rfl)
theorem Ymw(n key off:Nat):low n (.ptr key off)=if key<n then .ptr key off else .junk:=(rfl)
theorem Yfk(n key:Nat):low n (.mapv key)=if key<n then .mapv key else .junk:=(rfl)
theorem yX5(n:Nat):lowR n (.tup [])=.tup []:=(rfl)
theorem Yun(f:Nat)(l:List D):hk (.clo f l)=l.flatMap hk0:=(rfl)
theorem Yof(key off:Nat):hk0 (.ptr key off)=[key]:=(rfl)
theorem Yl1(n:Nat)(σ:List Nat)(f:Nat)(l:List D):ren n σ (.clo f l)=.clo f (l.map (ren0 n σ)):=(rfl)
theorem Yel(n:Nat)(σ:List Nat)(key off:Nat):ren0 n σ (.ptr key off)=ygn (fun k=>.ptr k off) (renK n σ key):=(rfl)
attribute [push_cast] Ymx Yfl Ymu Ymv Ymw Yfk
attribute [push_cast] Yu5 Yae Yaf Yhg Yhh Yfq yX6 Yfo Yfp yX5 Yun Yof Yl1 Yel
set_option linter.unusedVariables false
section
variable {P:Program} {G:Glob} {T:Tbl} {il:List Nat}
theorem Ylo{w:World}{g:Ghost}{st:St}{sz:Nat}{els:List D}{t:Bool}{v:Value}(h:RepV w g st (.slc sz els t) v):∃ a n cap,v=.slice a n cap∧(els≠[]→a.isNone=false):=by
 cases h with
 |slcE _ _ a cap h=>exact⟨a,0,cap,rfl,fun h=>absurd rfl h⟩
 |slc _ _ b off cap _ val h1=>exact⟨_,_,_,rfl,fun _=>rfl⟩
theorem yTr{t e:TypeId}(ht:P.underlying t=some (.slice e))(w:World)(a:Option Addr)(n cap:Nat):(binOp .eql t (.slice a n cap) (.slice none 0 0)).run P w=.ok (.bool a.isNone) w:=by
 have he:(Op.equal t (.slice a n cap) (.slice none 0 0)).run P w=.ok a.isNone w:=run_equalIn_slice_nil w 9999 t e a n cap ht
 simp[binOp,he]
theorem Yhj(hT:TblOK P G T)(hy:T.y=fun _ _ _=>none){f id1:Nat}{fn:Func}{c0 A B:Code}{o1 o2:Oper}{t3 t4:Nat}{tS e:TypeId}{l0:List PI}{pA pB:PC}{res:List PRes}
  (hfn:P.funcs[f]?=some fn) (hname:(fn.name == "runtime.NumGoroutine")=false) (hc:fn.body=some (.seq c0 (.seq (.seq (.region id1 #[o1,o2] false) (.cond (.tmp t4) A .skip)) B)))
  (h0:trC P il fn.ntmps [] c0=some (.ops l0,[])) (hA:trC P il fn.ntmps [] A=some (pA,[])) (hB:trC P il fn.ntmps [] B=some (pB,[])) (hr:yD5 P fn.results.toList=some res)
  (ho1:trI P il fn.ntmps #[o1,o2] o1=some {dst:=some t3,op:=.mov (.s 0)}) (ho2:o2.op=.binOp .eql tS (.tmp t3) (.const (.slice none 0 0)) tS) (hd2:o2.dst=some t4) (hg2:o2.guard=none) (ht4:t4<fn.ntmps)
  (hS:P.underlying tS=some (.slice e)) {sp:List D→St→Option (D×St)}
  (hsp:∀ ds st d st',sp ds st=some (d,st')→∃ sz els t fr0,ds=[.slc sz els t]∧ycg G T l0 ⟨argF ds,st⟩=some ⟨fr0,st⟩∧fr0 0=.slc sz els t∧
   (els=[]→∃ fuel sA xs,pA.exec G T fuel ⟨(fr0.set t3 (.slc sz els t)).set t4 (.bool true),st⟩=some (.ret,sA)∧sA.st=st'∧raws sA res=some xs∧∀ w g v,RepV w g st' (pack xs) v→RepV w g st' d v)∧
   (∃ fuel sB xs,pB.exec G T fuel ⟨(fr0.set t3 (.slc sz els t)).set t4 (.bool false),st⟩=some (.ret,sB)∧sB.st=st'∧raws sB res=some xs∧∀ w g v,RepV w g st' (pack xs) v→RepV w g st' d v)):IContract P G f sp:=by
 refine⟨⟨fn,hfn,by rw[hc]; rfl,hname⟩,?_⟩
 intro base w g st st' ds vs d hx hSR hG hlen hrep
 have hR0:R G base fn.ntmps w g st [] {fr:=argF ds,st} {tmps:=vs.toArray++Array.replicate (fn.ntmps - vs.toArray.size) undef,defers:=[]} w:=by
  refine⟨g,Go1.refl hSR,?_,hG,⟨[],rfl,trivial⟩,?_⟩
  ·intro s
   simp only[argF]
   rcases Nat.lt_or_ge s ds.length with h1 | h1
   ·have h2:s<vs.length:=by omega
    have h3:(vs.toArray++Array.replicate (fn.ntmps - vs.toArray.size) undef).getD s undef=vs[s]:=by
     simp[Array.getD,h2]
     intro h4
     omega
    rw[h3]
    have:=hrep s ds[s] vs[s] (by simp[h1]) (by simp[h2])
    simpa[List.getD_eq_getElem?_getD,h1]using this
   ·simp[List.getD_eq_getElem?_getD,List.getElem?_eq_none h1]
    exact .junk _
  ·simp; omega
 obtain⟨sz,els,t,fr0,rfl,e0,e1,eA,eB⟩:=hsp _ _ _ _ hx
 have hY:YOK P G T.y base w g st:=by rw[hy]; exact YOK.none
 refine callsIn_wide.1 (callsIn_of_wp_marks (F:=Fence.wide) (n:=0) hfn hc trivial ?_)
 have fin:∀ (s':PS) (xs:List D),s'.st=st'→raws s' res=some xs→(∀ w g v,RepV w g st' (pack xs) v→RepV w g st' d v)→∀ a' w',R G base fn.ntmps w g st [] s' a' w'→
   LeavesInM Fence.wide 0 P fn a'.tmps (fun e w'=>∃ v g',e=.returned v∧Go1 base w g st w' g' st'∧RepV w' g' st' d v) a'.defers .returning w':=by
  rintro s' xs rfl hx1 hw a' w' ⟨g1,h⟩
  obtain⟨dd,hd1,hd2⟩:=h.df
  rw[hd1,List.append_nil]
  refine ypz hSR.size dd w' h.go1 h.fr hd2 fun w2 hgo hF=>?_
  obtain⟨us,e1,e2,e3⟩:=yqy hgo.sr hF hr hx1
  exact⟨_,ynp e3,_,g1,rfl,hgo,hw _ _ _ (yuj e1 e2)⟩
 refine wpIn_seq (yjq hT c0 none (.inl rfl) w g st [] hY hSR.size [] _ h0 0 _ ⟨fr0,st⟩ .next (by simp only[PC.exec,e0]) _ w _ hR0 fun a1 w1 hR1=>?_)
 refine wpIn_seq (wpIn_seq (wpIn_region_list ?_))
 refine ytu (r:=none) hT hY hR1 ho1 (s':=⟨fr0.set t3 (.slc sz els t),st⟩) (by simp[PI.exec,PI.wanted,POp.exec,rho,e1,Frame.put]) fun a2 w2 hR2=>?_
 obtain⟨g2,h2⟩:=id hR2
 have hv:RepV w2 g2 st ((fr0.set t3 (.slc sz els t)) t3) (a2.tmps.getD t3 undef):=h2.fr t3
 have hset:(Frame.set fr0 t3 (.slc sz els t)) t3=.slc sz els t:=by simp[Frame.set]
 rw[hset]at hv
 obtain⟨a,n,cap,hva,hne⟩:=Ylo hv
 obtain⟨dst2,op2,ty2,pos2,after2,guard2⟩:=o2
 dsimp only at ho2 hd2 hg2
 subst ho2 hd2 hg2
 have hw2:∀ y,Region.wanted (⟨some t4,.binOp .eql tS (.tmp t3) (.const (.slice none 0 0)) tS,ty2,pos2,after2,none⟩:Oper) y=true:=fun y=>rfl
 have hev:a2.eval (.tmp t3)=.slice a n cap:=hva
 have hsz2:t4<a2.tmps.size:=Nat.lt_of_lt_of_le ht4 h2.sz
 show(if Region.wanted _ _=true then _ else _)
 rw[hw2,if_pos rfl]
 refine yhq (by intro c h; cases h) ?_
 refine yaw (d:=.bool a.isNone) (s:=do eqGuard .eql tS (.tmp t3) (.const (.slice none 0 0)) (a2.eval (.tmp t3)) (a2.eval (.const (.slice none 0 0))); binOp .eql tS (a2.eval (.tmp t3)) (a2.eval (.const (.slice none 0 0)))) h2.sr rfl ?_ (.bool _) ?_
 ·simp only[Sem.run_bind,hev,yp6 .eql tS (.tmp t3) (.const (.slice none 0 0)) (.slice a n cap) (a2.eval (.const (.slice none 0 0))) (fun u e=>by cases e) (fun e=>by cases e),Result.andThen_ok]
  exact yTr hS w2 a n cap
 intro v w3 g3 hgo hrep3
 have hR3:R G base fn.ntmps w g st [] ⟨(fr0.set t3 (.slc sz els t)).set t4 (.bool a.isNone),st⟩ (a2.put (some t4) v) w3:=
  ⟨g3,h2.go hgo ((h2.fr.mono hgo.im hgo.evo).put (dst:=some t4) (fun t e=>by cases e; exact hsz2) hrep3) (ye3 ..) (by rw[ynq]; exact h2.sz)⟩
 obtain rfl:=yfl hrep3
 have hbv:(a2.put (some t4) (.bool a.isNone)).eval (.tmp t4)=.bool a.isNone:=by
  simp[Act.eval,Act.put,hsz2]
 cases hnil:a.isNone with
 |true=>
  rw[hnil]at hbv hR3
  have hels:els=[]:=Classical.byContradiction fun h=>by rw[hne h]at hnil; cases hnil
  obtain⟨fuel,sA,xs,x1,x2,x3,x4⟩:=eA hels
  refine wpIn_cond_true hbv ?_
  refine yjq hT A none (.inl rfl) w g st [] hY hSR.size [] _ hA fuel _ sA .ret x1 _ _ _ hR3 fun a4 w4 hR4=>?_
  exact fin sA xs x2 x3 x4 a4 w4 hR4
 |false=>
  rw[hnil]at hbv hR3
  obtain⟨fuel,sB,xs,x1,x2,x3,x4⟩:=eB
  refine wpIn_cond_false hbv (wpIn_skip ?_)
  refine yjq hT B none (.inl rfl) w g st [] hY hSR.size [] _ hB fuel _ sB .ret x1 _ _ _ hR3 fun a4 w4 hR4=>?_
  exact fin sB xs x2 x3 x4 a4 w4 hR4
end
end Go.Proofs.YtijnglngaogdjaaGreatDoor.PI
namespace Go.Proofs.YtijnglngaogdjaaGreatDoor.PI
open Go Go.RowKit
section
variable {P:Program} {G:Glob} {T:Tbl} {base n:Nat} {w:World} {g:Ghost} {st:St}
theorem Ye5{ds:List D}{v:Value}(h:RepV w g st (pack ds) v):∃ us:List Value,v=Ye6 us∧ds.length=us.length∧∀ (i:Nat) d u,ds[i]?=some d→us[i]?=some u→RepV w g st d u:=by
 match ds with
 |[d]=>
  refine⟨[v],rfl,rfl,fun i d' u h1 h2=>?_⟩
  cases i with
  |zero=>
   simp only[List.getElem?_cons_zero,Ywh]at h1 h2
   subst h1; subst h2
   exact h
  |succ i=>simp at h1
 |[]=>
  cases h with
  |tup _ vs h1 h2=>
   obtain rfl:vs=[]:=List.eq_nil_of_length_eq_zero h1.symm
   exact⟨[],rfl,rfl,h2⟩
 |a::b::l=>
  cases h with
  |tup _ vs h1 h2=>
   match vs,h1 with
   |x::y::r,h1=>exact⟨x::y::r,rfl,h1,h2⟩
theorem yNb{f:Nat}{sp:List D→St→Option (D×St)}(h:IContract P G f sp){ds xs ys:List D}{st':St}(h1:sp ds []=some (pack xs,st'))(h2:imms st' xs=some ys) :
  ∀ (w:World) (g:Ghost) (vs:List Value),GlobOK G w g→(∀ b o,g.Im b o→(w.cell? ⟨b,o,none⟩).isSome=true)→ds.length=vs.length→
  (∀ (i:Nat) d v,ds[i]?=some d→vs[i]?=some v→RepV w g [] d v)→
  Calls P f vs.toArray w fun e w'=>∃ v g',e=.returned v∧RepV w' g' [] (pack ys) v∧purR (pack ys)=true∧ImLe w g w' g'∧(∀ b o,g'.Im b o→g.Im b o∨w.heap.size≤b)∧
   (∀ b o,g'.Im b o→(w'.cell? ⟨b,o,none⟩).isSome=true)∧Below w.heap.size w w':=by
 intro w g vs hG hIm hlen hrep
 have hS:SR w.heap.size w g []:=⟨fun k o h=>by simp at h,fun k o h=>by simp at h,fun k k' o o' h=>by simp at h,hIm,fun k o x h=>by simp at h,Nat.le_refl _⟩
 refine(h.2 w.heap.size w g [] st' ds vs _ h1 hS hG hlen hrep).mono ?_
 rintro e w' ⟨v,g1,rfl,hgo1,hr⟩
 obtain⟨us,rfl,e1,e2⟩:=Ye5 hr
 obtain⟨g2,hgo,_,e5,e6,e7⟩:=ymq hgo1.sr h2
 have hall:=hgo1.trans hgo
 refine⟨_,g2,rfl,?_,yxx e6,hall.im,hall.new,hall.sr.im,hall.below⟩
 have h8:=yuj (g:=g2) (w:=w') (ds:=ys) (vs:=us) (by omega) fun i y v hy hv=>e7 i y v hy fun x hx=>e2 i x v hx hv
 exact h8.purR (ImLe.refl _ _) (yxx e6)
theorem yJw{il:List Nat}{f:Nat}{hints:List (List Nat)}{F:PFD}{H:HTbl}(ht:trFD P il f hints=some F)(hT:TblOK P G T)(hH:∀ f h,H f=some h→yqk P G f h){α:Type}{enc:α→List D}{pre:α→Prop}{r:α→D}
  (h:∀ a,pre a→wDf G T F H (enc a) [] fun h das=>yLt h das F.res (r a)) (hy:T.y=fun _ _ _=>none:=by rfl):Contract P G f (spOf enc pre r):=by
 intro w g ds vs d hd hG hIm hlen hrep _
 obtain⟨a,rfl,hp,rfl⟩:=yEs hd
 obtain⟨k,s1,f',das,h',e,fr',st',h1,h2,h3,h4,h5⟩:=yWd (h a hp)
 have hI:=Ygz hT hy ht hH k
 have fin:∀ (st3:St),(gets ⟨fr',st3⟩ F.res).map pack=some (r a)→(∀ xs,raws ⟨fr',st3⟩ F.res=some xs→F.runI G T H k (enc a) []=some (pack xs,st3))→Calls P f vs.toArray w fun e w'=>∃ v g',e=.returned v∧RepV w' g' [] (r a) v∧purR (r a)=true∧ImLe w g w' g'∧(∀ b o,g'.Im b o→g.Im b o∨w.heap.size≤b)∧
   (∀ b o,g'.Im b o→(w'.cell? ⟨b,o,none⟩).isSome=true)∧Below w.heap.size w w':=by
  intro st3 hg hx
  simp only[Ywi]at hg
  obtain⟨ys,hy1,hy2⟩:=hg
  obtain⟨xs,q1,q2⟩:=yAg hy1
  rw[← hy2]
  exact yNb hI (hx xs q1) q2 w g vs hG hIm hlen hrep
 unfold yLt at h5
 cases e with
 |next=>exact fin st' h5 fun xs hx=>by simp only[PFD.runI,h1,h2,h3,h4 k (Nat.le_refl _),hx,Option.map_some]
 |ret=>exact fin st' h5 fun xs hx=>by simp only[PFD.runI,h1,h2,h3,h4 k (Nat.le_refl _),hx,Option.map_some]
 |exit id=>exact h5.elim
 |panic t dd=>
  simp only at h5
  unfold on at h5
  split at h5
  case h_2=>exact h5.elim
  rename_i st3 h6
  exact fin st3 h5 fun xs hx=>by simp only[PFD.runI,h1,h2,h3,h4 k (Nat.le_refl _),h6,hx,Option.map_some]
theorem yGz{il:List Nat}{f:Nat}{hints:List (List Nat)}{F:PF}(ht:trF P il f hints=some F)(hT:TblOK P G T){sx:List D→St→Option (Nat×D×St)}
  (h:∀ ds st r,sx ds st=some r→@wW G T F.code (argF ds) st ⟨@retX ⟨fun t d st'=>(t,d,st')=r⟩⟩) (hy:T.y=fun _ _ _=>none:=by rfl):yh6 P G f sx:=by
 refine⟨(yPx hT hy ht 0).1,?_⟩
 intro base w g st st' ds vs t d hsp hS hG hl hrep
 obtain⟨k,t1,d1,st1,h1,h2⟩:=yWc (W_of (h ds st _ hsp))
 simp only[Ywj]at h2
 obtain⟨rfl,rfl,rfl⟩:=h2
 exact(yPx hT hy ht k).2 base w g st _ ds vs _ _ (h1 k (Nat.le_refl _)) hS hG hl hrep
theorem yla{il:List Nat}{f:Nat}{hints:List (List Nat)}{F:PF}(ht:trF P il f hints=some F)(hT:TblOK P G T){sp:List D→St→Option (D×St)}
  (h:∀ ds st r,sp ds st=some r→@wW G T F.code (argF ds) st ⟨@retI F.res ⟨fun d st'=>(lowR st.length d,cut st.length st')=r⟩⟩) (hy:T.y=fun _ _ _=>none:=by rfl):IContract P G f sp:=by
 refine yJn hT ht (fun ds st x hx=>?_) hy
 obtain⟨fuel,d,st',h1,h2⟩:=yzc (W_of (h ds st x hx))
 refine⟨fuel,?_⟩
 unfold dropped
 rw[h1 fuel (Nat.le_refl _)]
 exact congrArg some h2
theorem yak{il:List Nat}{f:Nat}{hints:List (List Nat)}{F:PF}(ht:trF P il f hints=some F)(hT:TblOK P G T){sp:List D→St→Option (D×St)}
  (h:∀ ds st r,sp ds st=some r→@wW G T F.code (argF ds) st ⟨@retI F.res ⟨fun d st'=>(d,st')=r⟩⟩) (hy:T.y=fun _ _ _=>none:=by rfl):IContract P G f sp:=by
 refine⟨(yx4 hT hy ht 0).1,?_⟩
 intro base w g st st' ds vs d hsp hS hG hl hrep
 obtain⟨k,d1,st1,h1,h2⟩:=yzc (W_of (h ds st _ hsp))
 simp only[Ywj]at h2
 obtain⟨rfl,rfl⟩:=h2
 exact(yx4 hT hy ht k).2 base w g st _ ds vs _ (h1 k (Nat.le_refl _)) hS hG hl hrep
theorem Contract.or{f:Nat}{sp sp1 sp2:List D→Option D}(h1:Contract P G f sp1)(h2:Contract P G f sp2)(h:∀ ds d,sp ds=some d→sp1 ds=some d∨sp2 ds=some d):Contract P G f sp:=by
 intro w g ds vs d hd
 rcases h ds d hd with h | h
 ·exact h1 w g ds vs d h
 ·exact h2 w g ds vs d h
theorem IContract.or{f:Nat}{sp sp1 sp2:List D→St→Option (D×St)}(h1:IContract P G f sp1)(h2:IContract P G f sp2)(h:∀ ds st r,sp ds st=some r→sp1 ds st=some r∨sp2 ds st=some r):IContract P G f sp:=by
 refine⟨h1.1,?_⟩
 intro base w g st st' ds vs d hsp
 rcases h ds st _ hsp with h3 | h3
 ·exact h1.2 base w g st st' ds vs d h3
 ·exact h2.2 base w g st st' ds vs d h3
def yfs(sp:List D→Option D)(ds:List D)(st:St):Option (D×St):=match imms st ds with
 |some vs=>match sp vs with
  |some r=>some (r,if r.noRef then st else PI.lend (ds.flatMap keys) st)
  |none=>none
 |none=>none
theorem Contract.toI{f:Nat}{sp:List D→Option D}(h:Contract P G f sp){fn:Func}(hfn:P.funcs[f]?=some fn)(hb:fn.body.isSome=true)(hname:(fn.name == "runtime.NumGoroutine")=false):IContract P G f (yfs sp):=by
 refine⟨⟨fn,hfn,hb,hname⟩,?_⟩
 intro base w g st st' ds vs d hsp hS hG hl hrep
 unfold yfs at hsp
 split at hsp
 case h_2=>cases hsp
 rename_i ys hi
 split at hsp
 case h_2=>cases hsp
 rename_i r hr
 simp only[Ywh,Ywj]at hsp
 obtain⟨rfl,rfl⟩:=hsp
 obtain⟨g1,hgo,_,hyl,hpure,hyr⟩:=ymq hS hi
 have hc:=h w g1 ys vs r hr (hG.mono hgo.im) hgo.sr.im (hyl.trans hl) (fun i y v hy hv=>(hyr i y v hy (fun d hd=>hrep i d v hd hv)).purA (ImLe.refl _ _) (hpure y (List.mem_of_getElem? hy))) hpure
 refine hc.mono ?_
 rintro e w' ⟨v,g',rfl,h1,h2,h3,h4,h5,h6⟩
 have hbes:Beside w w':=⟨h6.os,h6.tape,h6.output,h6.size⟩
 by_cases hnr:r.noRef=true
 ·refine⟨v,{g with Im:=g.Im},rfl,?_,by rw[if_pos hnr]; exact yIm h1 hnr⟩
  rw[if_pos hnr]
  refine hS.more hbes h6.block (fun _ _ h=>h) (fun _ _ h=>.inl h) (fun b o hb=>?_)
  have:w'.cell? ⟨b,o,none⟩=w.cell? ⟨b,o,none⟩:=by simp only[World.cell?,h6.block b (hS.im_lt hb)]
  rw[this]; exact hS.im b o hb
 ·refine⟨v,{g1 with Im:=g'.Im},rfl,?_,?_⟩
  ·rw[if_neg hnr]
   exact hgo.trans (hgo.sr.more hbes h6.block (fun b o h=>(h3.im b o h).1) (fun b o h=>h4 b o h) h5)
  ·exact RepV.purR (g:=g') (g':={g1 with Im:=g'.Im}) ⟨fun b o h=>⟨h,rfl⟩,fun _ _ h _=>h⟩ h1 h2
def noT:Tbl:={p:=fun _=>none,i:=fun _=>none,m:=fun _=>none}
theorem Ys2:TblOK P G noT:=⟨fun _ _ h=>(by cases h),fun _ _ h=>(by cases h),fun _ _ h=>(by cases h),fun _ _ h=>(by cases h),fun _ _ h=>(by cases h),fun _ _ h=>(by cases h)⟩
structure PH where
 t:Nat
 js:List Nat
 vs:Nat
 l:List PI
 deriving Inhabited
def yYx(fr:Frame):List Nat→Frame
 |[]=>fr
 |s::l=>yYx (fr.set s .junk) l
def PH.run(G:Glob)(F:PH):Nat→D→List D→St→Option St:=fun t d das st=>
 if t=F.t∧yv6 d=true then(ycg G noT F.l ⟨(yYx (argF das) F.js).set F.vs d,st⟩).map (·.st)else none
def yiq(P:Program)(n:Nat):Code→Option (List PI)
 |.region _ ops false=>trIs P [] n ops ops.toList
 |.seq a b=>match yiq P n a,yiq P n b with
  |some x,some y=>some (x++y)
  |_,_=>none
 |.skip=>some []
 |_=>none
theorem yGr{w0:World}{g0:Ghost}{st0:St}{dl:List Deferred}:∀ (c:Code) (l:List PI) (s s':PS) (a:Act) (w:World) (Q:Exit→Act→World→Prop),yiq P n c=some l→ycg G noT l s=some s'→R G base n w0 g0 st0 dl s a w→
  (∀ a' w',R G base n w0 g0 st0 dl s' a' w'→a'.defers=a.defers→Q .normal a' w')→c.wpIn Fence.wide 0 P Q a w
 |.region id ops draw,l,s,s',a,w,Q,ht,hx,hR,hQ=>by
  cases draw with
  |true=>simp[yiq]at ht
  |false=>exact wpIn_region_list (yIx (r:=none) Ys2 YOK.none _ _ s s' a w ht hx hR hQ)
 |.seq x y,l,s,s',a,w,Q,ht,hx,hR,hQ=>by
  simp only[yiq]at ht
  split at ht
  case h_2=>cases ht
  rename_i lx ly h1 h2
  simp only[Ywh]at ht
  subst ht
  rw[yp5,Option.bind_eq_some_iff]at hx
  obtain⟨s1,hx1,hx2⟩:=hx
  refine wpIn_seq (yGr x lx s s1 a w _ h1 hx1 hR fun a' w' hR' hd'=>?_)
  exact yGr y ly s1 s' a' w' _ h2 hx2 hR' fun a2 w2 hR2 hd2=>hQ a2 w2 hR2 (hd2.trans hd')
 |.skip,l,s,s',a,w,Q,ht,hx,hR,hQ=>by
  simp only[yiq,Ywh]at ht
  subst ht
  simp only[ycg,Ywh]at hx
  subst hx
  exact wpIn_skip (hQ a w hR rfl)
 |.cond _ _ _,_,_,_,_,_,_,ht,_,_,_=>by simp[yiq]at ht
 |.block _ _,_,_,_,_,_,_,ht,_,_,_=>by simp[yiq]at ht
 |.loop _,_,_,_,_,_,_,ht,_,_,_=>by simp[yiq]at ht
 |.exit _,_,_,_,_,_,_,ht,_,_,_=>by simp[yiq]at ht
 |.ret,_,_,_,_,_,_,ht,_,_,_=>by simp[yiq]at ht
 |.rangeFunc _ _ _ _,_,_,_,_,_,_,ht,_,_,_=>by simp[yiq]at ht
 |.scope _,_,_,_,_,_,_,ht,_,_,_=>by simp[yiq]at ht
 |.label _,_,_,_,_,_,_,ht,_,_,_=>by simp[yiq]at ht
 |.goto _,_,_,_,_,_,_,ht,_,_,_=>by simp[yiq]at ht
 |.refuse _,_,_,_,_,_,_,ht,_,_,_=>by simp[yiq]at ht
theorem yWb{T1:TypeId}{u:TypeDesc}(ht:P.underlying T1=some u)(hn:∀ m,u≠.interface m){x:Operand}{a:Act}{v:Value}(hx:a.eval x=.iface T1 v){dst:Option Tmp}{ty xt:TypeId}{pos:String}{after:Array Edge}{guard:Option (Nat×Bool)}(w:World) :
  (execOp a.eval {dst:=dst,op:=.typeAssert x xt T1 true,type:=ty,pos:=pos,after:=after,guard:=guard}).run P w=.ok (.value (.tuple #[v,.bool true])) w:=by
 simp only[execOp,hx,Instr.typeAssert,Sem.run_bind,run_underlying ht,Result.andThen_ok]
 cases u with
 |interface m=>exact absurd rfl (hn m)
 |_=>simp
theorem yWa{T1:TypeId}{u:TypeDesc}(ht:P.underlying T1=some u)(hn:∀ m,u≠.interface m){i:TypeInfo}{z:Value}(hi:P.info? T1=some i)(hz:i.zero=some z){x:Operand}{a:Act}(hx:a.eval x=.nilIface){dst:Option Tmp}{ty xt:TypeId}{pos:String}{after:Array Edge}{guard:Option (Nat×Bool)}(w:World) :
  (execOp a.eval {dst:=dst,op:=.typeAssert x xt T1 true,type:=ty,pos:=pos,after:=after,guard:=guard}).run P w=.ok (.value (.tuple #[z,.bool false])) w:=by
 have hzr:(zeroValue T1).run P w=.ok z w:=by simp[zeroValue,typeInfo,hi,hz]
 simp only[execOp,hx,Instr.typeAssert,Sem.run_bind,run_underlying ht,Result.andThen_ok]
 cases u with
 |interface m=>exact absurd rfl (hn m)
 |_=>simp[hzr]
theorem yU4{d:D}(h:isI d=true):RepV w g st d (valI d):=by
 cases d with
 |int k m=>exact .int k m
 |_=>simp[isI]at h
theorem yQ4{d:D}(h:yv6 d=true):RepV w g st d (yf0 d):=by
 cases d with
 |int k m=>exact .int k m
 |agg l=>
  refine .agg l _ (by simp) fun i d v hd hv=>?_
  rw[List.getElem?_map,hd]at hv
  simp only[Option.map_some,Ywh]at hv
  subst hv
  exact yU4 (List.all_eq_true.1 h _ (List.mem_of_getElem? hd))
 |_=>simp[yv6,isI]at h
theorem yfj{a:Act}{r:Nat}{v:Value}(h:r<a.tmps.size):(a.put (some r) v).eval (.tmp r)=v:=by
 simp[Act.put,Act.eval,h]
theorem ykf{a:Act}{r s:Nat}{v:Value}(h:r≠s):(a.put (some s) v).eval (.tmp r)=a.eval (.tmp r):=by
 have h':¬ s=r:=fun e=>h e.symm
 simp[Act.put,Act.eval,Array.getD_eq_getD_getElem?,h']
theorem yc4(a:Act)(r:Nat)(v:Value):(a.put (some r) v).tmps.size=a.tmps.size:=by simp[Act.put]
theorem yzb{o:Oper}{a:Act}{w:World}(h:o.op=.call {callee:=.builtin .recover,args:=#[],argTypes:=#[]}):(execOp a.eval o).run P w=.ok .recover w:=by
 simp only[execOp,h]
 rfl
theorem Ydh{ds:List D}{vs:List Value}{m:Nat}(hlen:ds.length=vs.length)(hrep:∀ (i:Nat) d v,ds[i]?=some d→vs[i]?=some v→RepV w g st d v) :
  FR w g st (argF ds) {tmps:=vs.toArray++Array.replicate (m - vs.toArray.size) undef,defers:=[]}∧m≤(vs.toArray++Array.replicate (m - vs.toArray.size) undef).size:=by
 refine⟨?_,by simp; omega⟩
 intro s
 simp only[argF]
 rcases Nat.lt_or_ge s ds.length with h1 | h1
 ·have h2:s<vs.length:=by omega
  have h3:(vs.toArray++Array.replicate (m - vs.toArray.size) undef).getD s undef=vs[s]:=by
   simp[Array.getD,h2]
   intro h4
   omega
  rw[h3]
  have:=hrep s ds[s] vs[s] (by simp[h1]) (by simp[h2])
  simpa[List.getD_eq_getElem?_getD,h1]using this
 ·simp[List.getD_eq_getElem?_getD,List.getElem?_eq_none h1]
  exact .junk _
def yY0(P:Program)(t:TypeId):Bool:=match P.underlying t with
 |some (.interface _) | none=>false
 |some _=>true
theorem yMx{t:TypeId}(h:yY0 P t=true):∃ u,P.underlying t=some u∧∀ m,u≠.interface m:=by
 unfold yY0 at h
 split at h
 ·cases h
 ·cases h
 ·rename_i u hne hu
  exact⟨u,hu,fun m e=>hne m e⟩
end
end Go.Proofs.YtijnglngaogdjaaGreatDoor.PI
namespace Go.Proofs.YtijnglngaogdjaaGreatDoor.PI
open Go Go.RowKit
structure PFE where
 init:PC
 tail:PFD
 deriving Inhabited
noncomputable def PFD.from(G:Glob) (T:Tbl) (H:HTbl) (F:PFD) (fuel:Nat) (s:PS):Option (D×St):=
 match ycg G T F.pre s with
 |some s1=>match yud (rho G s1.fr F.hf) (F.ha.map (rho G s1.fr))with
  |some (f,das)=>match H f with
   |some h=>match F.code.exec G T fuel s1 with
    |some (.next,s) | some (.ret,s)=>(raws s F.res).map fun l=>(pack l,s.st)
    |some (.panic t d,s)=>match h t d das s.st with
     |some st3=>(raws ⟨s.fr,st3⟩ F.res).map fun l=>(pack l,st3)
     |none=>none
    |_=>none
   |none=>none
  |none=>none
 |none=>none
noncomputable def PFE.runI(G:Glob)(T:Tbl)(H:HTbl)(F:PFE)(fuel:Nat)(ds:List D)(st:St):Option (D×St):=
 match F.init.exec G T fuel {fr:=argF ds,st} with
 |some (.next,s)=>F.tail.from G T H fuel s
 |some (.ret,s)=>(raws s F.tail.res).map fun l=>(pack l,s.st)
 |_=>none
section
variable {P:Program} {G:Glob} {T:Tbl} {il:List Nat}
def Yld(G:Glob)(T:Tbl)(F:PFD)(H:HTbl)(Kr:Frame→St→Prop)(K:(Nat→D→List D→St→Option St)→List D→Ex→Frame→St→Prop)(e:Ex)(fr:Frame)(st:St):Prop:=match e with
 |.next=>@wOps G T F.pre fr st ⟨fun fr1 st1=>@on _ (yud (rho G fr1 F.hf) (F.ha.map (rho G fr1))) ⟨fun p=>@on _ (H p.1) ⟨fun h=>@wW G T F.code fr1 st1 ⟨K h p.2⟩⟩⟩⟩
 |.ret=>Kr fr st
 |_=>False
theorem yQ9(G:Glob)(T:Tbl)(F:PFD)(H:HTbl)(Kr:Frame→St→Prop)(K:(Nat→D→List D→St→Option St)→List D→Ex→Frame→St→Prop)(fr:Frame)(st:St) :
  Yld G T F H Kr K .next fr st=@wOps G T F.pre fr st ⟨fun fr1 st1=>@on _ (yud (rho G fr1 F.hf) (F.ha.map (rho G fr1))) ⟨fun p=>@on _ (H p.1) ⟨fun h=>@wW G T F.code fr1 st1 ⟨K h p.2⟩⟩⟩⟩:=(rfl)
theorem yVc(G:Glob)(T:Tbl)(F:PFD)(H:HTbl)(Kr:Frame→St→Prop)(K:(Nat→D→List D→St→Option St)→List D→Ex→Frame→St→Prop)(fr:Frame)(st:St):Yld G T F H Kr K .ret fr st=Kr fr st:=(rfl)
end
attribute [irreducible] Yld
attribute [push_cast] yQ9 yVc
end Go.Proofs.YtijnglngaogdjaaGreatDoor.PI
