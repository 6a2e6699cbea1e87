/-
  Which pure operations may change places, and that they then come to the same.
  Conditions: none; these are definitions and lemmas.
-/
import Derived.Test.YtijnglngaogdjaaGreatDoorEngK
import Derived.ChangeKeysEq
import Derived.MapKept
import Derived.Laws.CopyRow
import Derived.Laws.IdiomCopy
import Derived.DefersIn
open ByteArray renaming size→CU
open List renaming range→CQ,replicate→CM
set_option linter.unusedVariables false
set_option linter.unusedSimpArgs false
namespace Go.Proofs.YtijnglngaogdjaaGreatDoor.PI
open Go Go.RowKit
variable {els:List D}{sz:Nat}{v:Value}{x:D}{e:TypeId}
section
variable {P:Program} {base:Nat} {w:World} {g:Ghost} {st:St}
theorem Els.cast{u:Nat}(h:Els w g st v sz els)(e:sz=u∨els=[]):Els w g st v u els:=by
 rcases e with rfl | rfl
 ·exact h
 ·obtain⟨⟨a,cap,E,_⟩,_,_⟩:=h;exact⟨⟨a,cap,E,fun h=>absurd rfl h⟩,fun i j d I=>by simp[Ff]at I,fun e he=>by cases he⟩
theorem Wa(E:SR base w g st)(h:Gc st x=some (sz,els))(u:RepV w g st x v):Els w g st v sz els∨∃ s,x=.str s∧sz=1∧els=s.map Da:=by
 unfold Gc at h
 split at h
 ·simp only[C9,Dr]at h;obtain⟨rfl,rfl⟩:=h;exact .inl (Ow u)
 ·exact .inl (X2 E h u).1
 ·rename_i key off n M ag
  split at h
  ·rename_i J he
   split at h
   ·rename_i I;simp only[C9,Dr]at h;obtain⟨rfl,rfl⟩:=h;exact .inl (ep E he u (Ag.1 I)).1
   ·cases h
  ·cases h
 ·grind
 ·cases h
theorem Yio(M:SR base w g st){u:Nat}(h:Gc st x=some (u,els))(I:RepV w g st x v)(E:u=sz∨els=[]) :
  ∃ ns,News w g st P v sz els ns:=by
 rcases Wa M h I with N | ⟨s,rfl,rfl,rfl⟩
 ·exact WT (N.cast E)
 ·obtain rfl:=JM I;rcases E with rfl | J
  ·exact wX s
  ·simp at J; subst J;have e:CU ⟨([]:List UInt8).toArray⟩=0:=rfl;exact⟨[],by simp,by simp,fun i j d O=>by simp[Ff]at O,⟨by simp[Builtin.lenOf,e],by simp[Builtin.lenOf,e]⟩,⟨by simp[Builtin.firstCells],by simp[Builtin.firstCells]⟩⟩
theorem uA(I:SR base w g st)(h:Gc st x=some (sz,els))(J:RepV w g st x v):(∀ e∈els,e.cells.length=sz)∧∀ i j d,Ff els i j=some d→d.pure1=true:=by
 rcases Wa I h J with E | ⟨s,rfl,rfl,rfl⟩
 ·exact⟨E.len,E.pure⟩
 ·refine⟨fun e he=>?_,fun i j d M=>?_⟩
  ·simp only[AS]at he;obtain⟨b,_,rfl⟩:=he;rfl
  ·obtain⟨e,he,u⟩:=GQ M;simp only[AG,DA]at he;obtain⟨b,_,rfl⟩:=he
   cases j with
   |zero=>simp[Da,D.cells]at u; subst u; rfl
   |succ j=>simp[Da,D.cells]at u
theorem W7(w:World)(o:Go.Obj):(w.drew.alloc o).heap[w.heap.size]?=some o:=by
 show(w.heap.push o)[w.heap.size]?=_
 simp
theorem jK{E:List D}{os ns zs:List Value}(X:os.length=E.length*sz)
  (J:∀ (i j:Nat) d,Ff E i j=some d→∃ u,os[i*sz+j]?=some u∧RepV w g st d u) (M:∀ (i j:Nat) d,Ff els i j=some d→∃ u,ns[i*sz+j]?=some u∧RepV w g st d u) (Y:ns.length=els.length*sz) :
  ∀ (i j:Nat) d,Ff (E++els) i j=some d→∃ u,(os++ns++zs)[i*sz+j]?=some u∧RepV w g st d u:=by
 intro i j d N;obtain⟨e,he,I⟩:=GQ N
 by_cases O:i<E.length
 ·rw[Ao O]at he;obtain⟨u,U,V⟩:=J i j d (GB he I);grind
 ·rw[AD (by omega)]at he;obtain⟨u,U,V⟩:=M (i - E.length) j d (GB he I);have h5:i*sz=E.length*sz+(i - E.length)*sz:=by rw[← AX]; congr 1; omega
  grind
theorem Ybm(hS:SR base w g st){t tx ty:TypeId}{i:TypeInfo}{z:Value}{bytes:Nat}{s d:D}{vs vx:Value}{st':St}(ht:P.underlying t=some (.slice e))(a4:(∃ e',P.underlying tx=some (.slice e'))∨P.underlying tx=some .string)
  (hi:P.info? e=some i) (hz:i.zero=some z) (c4:i.size=sz) (c5:i.bytes=bytes) (b8:z.cells.size=sz) (h:DR st sz bytes s x=some (d,st')) (aa:RepV w g st s vs) (b9:RepV w g st x vx) :
  RunsTo P base w g st (Builtin.append_ #[t,tx] ty #[vs,vx]) d st':=by
 subst c4; subst c5;unfold DR at h
 split at h
 ·cases h
 rename_i c6 xs hx
 split at h
 ·cases h
 rename_i hc;simp only[A5,AL,Bool.or_eq_false_iff,beq_eq_false_iff_ne,List.isEmpty_eq_false_iff,beq_iff_eq,not_or,not_and,ne_eq]at hc;have h0:0<i.size:=by omega
 have c9:c6=i.size∨xs=[]:=by
  grind
 obtain⟨ns,N⟩:=Yio (P:=P) hS hx b9 c9;obtain⟨kb,ca⟩:=uA hS hx b9
 have d9:∀ e∈xs,e.cells.length=i.size:=by
  grind
 split at h
 ·
  rename_i key tot off len
  split at h
  case h_2=>cases h
  rename_i o ho
  split at h
  case isFalse=>cases h
  rename_i O;simp only[Ac,beq_iff_eq,decide_eq_true_eq]at O;obtain⟨⟨⟨⟨⟨⟨M,ab⟩,a9⟩,rfl⟩,hlen⟩,X⟩,cc⟩:=O;simp only[C9,Dr]at h;obtain⟨rfl,rfl⟩:=h;obtain⟨E,h1,h2,h3,rfl,h5⟩:=OR (by simp[Eu,ho,M,a9]) aa;obtain rfl:E=o:=Au (h1.symm.trans ho);subst hlen;subst a9;obtain⟨C,e',hb,d6,ha,dc,hC,ba⟩:=hS.blk key E ho (Kd M);rw[M]at hC;simp only[if_true]at hC;rw[Cr,CE];have dd:key<st.length:=(Ab.1 ho).1
  have b3:∀ (Y:Array Value),(∀ (I j:Nat) d,Ff (E.els++xs) I j=some d→∃ u,Y[I*E.sz+j]?=some u∧RepV w g st d u)→
    ∀ (I j:Nat) d,Ff (E.els++xs) I j=some d→(E.row=true→d.pure1=true)∧∃ u,Y[I*E.sz+j]?=some u∧RepV w g st d u:=by
   intro Y de I j d J;refine⟨fun _=>?_,de I j d J⟩
   by_cases h6:I<E.els.length
   ·rw[W8 h6]at J;grind
   ·obtain⟨e1,U,a1⟩:=GQ J;rw[AD (by omega)]at U;exact ca _ _ _ (GB U a1)
  have ce:∀ y∈E.els++xs,y.cells.length=E.sz:=by
   grind
  have bb:∀ (B c:Nat) (w':World) (Y:Array Value) (cb:TypeId),((B=g.β key∧c=g.γ key)∨(w.heap.size≤B∧E.els.length<(E.els++xs).length∧E.row=true))→Beside w w'→(∀ b,b<w.heap.size→b≠B→w'.heap[b]?=w.heap[b]?)→
    w'.heap[B]?=some (.cells Y cb (0,0))→(B=g.β key→∀ y,g.Im (g.β key) y→Y[y]?=C[y]?)→Y.size=c*E.sz→(E.els++xs).length≤c→c≤maxLen→
    (∀ (I j:Nat) d,Ff (E.els++xs) I j=some d→∃ u,Y[I*E.sz+j]?=some u∧RepV w g st d u)→
    (Builtin.append_ #[t,tx] ty #[.slice (some ⟨g.β key,0,none⟩) E.els.length (g.γ key),vx]).run P w=.ok (.slice (some ⟨B,0,none⟩) (E.els.length+xs.length) c) w'→
    RunsTo P base w g st (Builtin.append_ #[t,tx] ty #[.slice (some ⟨g.β key,0,none⟩) E.els.length (g.γ key),vx]) (.row key (E.els.length+xs.length) 0 (E.els.length+xs.length)) (st.set key {E with els:=E.els++xs}):=by
   intro B c w' Y cb hB cf b4 cg df b5 V dg b6 ch;have bc:=SR.update (o':={E with els:=E.els++xs}) hS ho (Kd M) hb hB rfl rfl (by simp) rfl ce cf b4 cg df (by rw[M]; simp only[if_true]; exact⟨b5,V,dg⟩) (b3 Y b6);refine⟨_,_,_,ch,bc,?_⟩;refine .row _ _ _ _ {E with els:=E.els++xs} _ rfl (by simp[dd]) M (by simp) fun _=>⟨?_,by omega⟩;simp[GP]
  by_cases ad:E.els.length+xs.length≤g.γ key
  ·have bd:E.els.length*i.size+ns.length≤C.size:=by
    rw[N.len,hC.1,ab,← AX]; exact AK _ ad
   -- a5 c0 type is a5 c1 own,or it hg not dh: a5 store looks at a5 cells alone
   have d0:(Builtin.append_ #[t,tx] ty #[.slice (some ⟨g.β key,0,none⟩) E.els.length (g.γ key),vx]).run P w=.ok (.slice (some ⟨g.β key,0,none⟩) (E.els.length+xs.length) (g.γ key)) (w.setRow (g.β key) (C.toList.take (E.els.length*i.size)++ns++C.toList.drop (E.els.length*i.size+ns.length)).toArray):=
    Yes ht a4 hi hb N ad bd
   refine bb (g.β key) (g.γ key) _ _ e' (.inl ⟨rfl,rfl⟩) (Pl w _ _) (fun b _ be=>setRow_other w _ _ _ (by omega)) (setRow_heap w _ C _ e' _ hb) ?_ ?_ (by simpa using ad) hC.2.2 ?_ d0
   ·intro _ y hy;have:=(hS.dis key E y ho hy).2;grind
   ·grind
   ·intro I j d J;rw[Pg bd,N.len,ab];obtain⟨e1,U,a1⟩:=GQ J
    have hj:j<i.size:=by
     grind
    by_cases h6:I<E.els.length
    ·rw[W8 h6]at J;have:(I+1)*i.size≤E.els.length*i.size:=AK _ h6;grind
    ·rw[AD (by omega)]at U;have h7:I - E.els.length<xs.length:=(Ab.1 U).1;have h8:I*i.size=E.els.length*i.size+(I - E.els.length)*i.size:=by rw[← AX]; congr 1; omega
     have h9:(I - E.els.length+1)*i.size≤xs.length*i.size:=AK _ h7;rw[AX,Bw]at h9;rw[if_pos (by omega),show I*i.size+j - E.els.length*i.size=(I - E.els.length)*i.size+j by omega];exact N.rep _ _ _ (GB U a1)
  ·have hE:Els w g st (.slice (some ⟨g.β key,0,none⟩) E.els.length (g.γ key)) i.size E.els:=by
    refine⟨⟨_,_,rfl,fun _=>⟨_,_,rfl,h0,?_⟩⟩,fun I j d J=>(ba I j d J).1 M,fun y hy=>by rw[← ab]; exact dc y hy⟩;intro I j d J;obtain⟨hp,u,h6,h7⟩:=ba I j d J;refine⟨u,?_,h7,h7.oneCell (MF (hp M))⟩;simp only[World.cell?,hb];grind
   obtain⟨os,hO⟩:=WT (P:=P) hE;have af:=gd (ty:=ty) ht a4 hi hz N hO rfl (by omega) (by omega) (jJ (by omega) X);have bg:=grownCap_ge w (E.els.length+xs.length) (g.γ key) e;refine bb w.heap.size _ (w.drew.alloc (.cells (os.toArray++ns.toArray++Builtin.zeroCells z.cells (grownCap w (E.els.length+xs.length) (g.γ key) e - (E.els.length+xs.length))) e)) _ e (.inr ⟨Az _,by simp; omega,M⟩) ⟨rfl,rfl,rfl,by simp⟩ ?_ (W7 w _) (fun e1=>by have:=hS.lt ho; omega) ?_ (by simpa using bg) (grownCap_le_maxLen w _ _ e (by unfold maxLen; omega)) ?_ af
   ·intro b bh _; exact Mu w _ b bh
   ·simp only[Array.size_append,Cu,hO.len,N.len,size_zeroCells,b8,ab];rw[← AX,← AX]
    congr 1
    omega
   ·intro I j d J;have:=jK (zs:=(Builtin.zeroCells z.cells (grownCap w (E.els.length+xs.length) (g.γ key) e - (E.els.length+xs.length))).toList) hO.len hO.rep N.rep N.len I j d J;grind
 ·
  rename_i kc els
  split at h
  ·rename_i he;simp only[BJ]at he;subst he;simp only[C9,Dr]at h;obtain⟨rfl,rfl⟩:=h;refine .still hS ?_ aa;obtain⟨⟨a,cap,rfl,_⟩,_,_⟩:=Ow aa
   have V:els.length≤cap:=by
    cases aa with
    |slcE=>simp
    |slc _ _ b off cap _ val h1 h2 h3 d2 h4=>exact h4
   have d4:ns=[]:=AO (by simpa using N.len);have h1:=N.lenOf.1;have h2:=N.first.1
   subst d4;simp only[Ap]at h1 h2;rcases a4 with⟨e',J⟩ | J
   ·cases a <;> simp[Builtin.append_,run_underlying ht,sizeOf,typeInfo,hi,run_underlying J,h1,V,h2,storeCells]
   ·cases a <;> simp[Builtin.append_,run_underlying ht,sizeOf,typeInfo,hi,run_underlying J,h1,V,h2,storeCells]
  ·rename_i be;simp only[BJ]at be;have d7:0<xs.length:=Ck.2 be
   split at h
   case isFalse=>cases h
   rename_i O;simp only[Ac,decide_eq_true_eq,A5,beq_iff_eq,BJ]at O;obtain⟨⟨d5,X⟩,cc⟩:=O;simp only[C9,Dr]at h;obtain⟨rfl,rfl⟩:=h;have hE:=(Ow aa).cast d5;obtain⟨os,hO⟩:=WT (P:=P) hE;obtain⟨⟨a,cap,rfl,_⟩,kd,ke⟩:=hE
   have V:cap=els.length:=by
    cases aa with
    |slcE _ _ _ _ h1=>exact h1 rfl
    |slc _ _ b off cap _ val h1 h2 h3 d2 h4 h5=>exact h5 rfl
   subst V;have af:=gd (ty:=ty) ht a4 hi hz N hO rfl (by omega) (by omega) (jJ (by omega) X);have bg:=grownCap_ge w (els.length+xs.length) els.length e
   have bc:=SR.push (o:={row:=true,sz:=i.size,els:=els++xs,lent:=false}) (c:=grownCap w (els.length+xs.length) els.length e) (w':=w.drew.alloc (.cells (os.toArray++ns.toArray++Builtin.zeroCells z.cells (grownCap w (els.length+xs.length) els.length e - (els.length+xs.length))) e)) hS
    ⟨rfl,rfl,rfl,by simp⟩ (fun b bh=>Mu w _ b bh) (W7 w _) rfl h0 (by
     intro y hy;rcases AF.1 hy with hy | hy
     ·grind
     ·grind) (by
     simp only[if_true,Ad];refine⟨?_,bg,grownCap_le_maxLen w _ _ e (by unfold maxLen; omega)⟩;simp only[Array.size_append,Cu,hO.len,N.len,size_zeroCells,b8];rw[← AX,← AX]
     congr 1
     omega) (by
     intro I j d J;refine⟨fun _=>?_,?_⟩
     ·by_cases h6:I<els.length
      ·rw[W8 h6]at J;grind
      ·obtain⟨e1,U,a1⟩:=GQ J;rw[AD (by omega)]at U;exact ca _ _ _ (GB U a1)
     ·obtain⟨u,h6,h7⟩:=jK (zs:=(Builtin.zeroCells z.cells (grownCap w (els.length+xs.length) els.length e - (els.length+xs.length))).toList) hO.len hO.rep N.rep N.len I j d J;grind)
   refine⟨_,_,_,af,bc,?_⟩;refine .row _ _ _ _ {row:=true,sz:=i.size,els:=els++xs,lent:=false} _ rfl (by simp) rfl (by simp) fun _=>⟨?_,by omega⟩;simp[GP]
 ·cases h
theorem qj(X:SR base w g st){u dst:TypeId}{s:List UInt8}(Y:P.underlying u=some .string)(hd:P.underlying dst=some (.slice e))(he:P.underlying e=some (.int .u8)) :
  RunsTo P base w g st (convert u dst (.string ⟨s.toArray⟩)) (.slc 1 (s.map Da) false) st:=by
 have E:=run_bytes_of_string (P:=P) w u dst e ⟨s.toArray⟩ Y hd he;have N:CU ⟨s.toArray⟩=s.length:=by simp[CU]
 have I:=grownCap_ge w (CU ⟨s.toArray⟩) 0 e;generalize hC:bytesRow ⟨s.toArray⟩ (grownCap w (CU ⟨s.toArray⟩) 0 e)=C at E;have O:=X.fresh (w':=w.drew.alloc (.cells C e (C.size,C.size+1))) (C:=C) (e:=e) (fz:=(C.size,C.size+1)) rfl ⟨rfl,rfl,rfl,by simp⟩;refine⟨_,_,_,E,O,?_⟩;rw[N]at I ⊢;have hl:s.length=(s.map Da).length:=by simp
 conv=>rhs; rw[hl]
 refine RepV.slc_mk Nat.one_pos (fun x J=>by simp only[AS]at J; obtain⟨b,_,rfl⟩:=J; rfl) (by simpa using I) (fun h=>by cases h) ?_;intro i j d U;obtain⟨x,J,M⟩:=GQ U;simp only[AG,DA]at J;obtain⟨b,hb,rfl⟩:=J
 cases j with
 |succ j=>simp[Da,D.cells]at M
 |zero=>
  simp only[Da,D.cells,AB,C9]at M;subst M;have hi:i<s.length:=(Ab.1 hb).1
  have V:C[i]?=some (.int .u8 b.toNat):=by
   rw[← hC];unfold bytesRow;grind
  have ae:i<C.size:=(Ax.1 V).1;refine⟨rfl,.inr ⟨rfl,by omega⟩,.int .u8 b.toNat,?_,.int _ _⟩;have h2:(w.drew.alloc (.cells C e (C.size,C.size+1))).heap[w.heap.size]?=some (.cells C e (C.size,C.size+1)):=W7 w _;simp only[World.cell?,h2];grind
end
end Go.Proofs.YtijnglngaogdjaaGreatDoor.PI
namespace Go.Proofs.YtijnglngaogdjaaGreatDoor.PI
open Go Go.RowKit
def PL(lf:TypeId→Option (List Nat))(P:Program):List Field→Nat→Option (List Nat)
 |[],_=>some []
 |f::fs,off=>
  match lf f.type,Ee P f.type with
  |some l,some _=>
   if f.name≠ "_"∧f.offset=off∧DZ P f.type=some l.length∧0<l.length then(PL lf P fs (off+l.length)).map (l++·)else none
  |_,_=>none
def Hz(P:Program):Nat→TypeId→Option (List Nat)
 |0,_=>none
 |d+1,t=>
  match P.underlying t with
  |some (.int _)=>some [0]
  |some .bool=>some [1]
  |some .string=>some [2]
  |some (.array n e)=>
   match Hz P d e with
   |some l=>if DZ P e=some l.length∧0<l.length then some (CM n l).flatten else none
   |none=>none
  |some (.struct fs)=>if P.stoodInHeld t then none else PL (Hz P d) P fs.toList 0
  |_=>none
variable {off:Nat}{t:TypeId}{ks:List Nat}
section
variable {P:Program} {w:World} {g:Ghost} {st:St}
def KE(ag:Bool)(vs:List Value):Value:=if ag then .agg vs.toArray else vs.headD undef
theorem MK:∀ {ks:List Nat} {xs ys:List D} {b:Bool},E1 ks xs ys=some b→xs.length=ks.length∧ys.length=ks.length
 |[],[],[],_,_=>⟨rfl,rfl⟩
 |q::qs,x::xs,y::ys,b,h=>by
  simp only[E1]at h
  split at h
  ·rename_i a b' E u;have:=MK u;simp[this]
  ·cases h
 |[],[],_::_,_,h=>by simp[E1]at h
 |[],_::_,_,_,h=>by simp[E1]at h
 |_::_,[],_,_,h=>by simp[E1]at h
 |_::_,_::_,[],_,h=>by simp[E1]at h
theorem W5:∀ {u E:List Nat} {xs ys:List D} {b:Bool},E1 (u++E) xs ys=some b→
  ∃ b1 I,E1 u (xs.take u.length) (ys.take u.length)=some b1∧E1 E (xs.drop u.length) (ys.drop u.length)=some I∧b=(b1 && I)
 |[],E,xs,ys,b,h=>⟨true,b,by simp[E1],by simpa using h,by simp⟩
 |q::u,E,x::xs,y::ys,b,h=>by
  simp only[At,E1]at h
  split at h
  ·rename_i a b' J M;simp only[C9]at h;obtain⟨b1,I,N,O,U⟩:=W5 M;refine⟨a && b1,I,by simp[E1,J,N],by simpa using O,by rw[← h,U,Bool.and_assoc]⟩
  ·cases h
 |_::_,_,[],_,_,h=>by simp[E1]at h
 |_::_,_,_::_,[],_,h=>by simp[E1]at h
def VL(P:Program)(dd:Nat)(t:TypeId)(ks:List Nat):Prop:=
 ∀ (w:World) (g:Ghost) (st:St) (ag:Bool) (xs ys:List D) (vs us:List Value) (b:Bool),Ee P t=some ag→E1 ks xs ys=some b→xs.length=vs.length→ys.length=us.length→
  (∀ (i:Nat) d v,xs[i]?=some d→vs[i]?=some v→RepV w g st d v)→(∀ (i:Nat) d v,ys[i]?=some d→us[i]?=some v→RepV w g st d v)→
  (Op.equalIn dd t (KE ag vs) (KE ag us)).run P w=.ok b w
theorem OG{n:Nat}{ag:Bool}{vs:List Value}(u:Ee P t=some ag)(I:DZ P t=some n)(E:ag=false→n=1)(M:off+n≤vs.length) :
  (part t vs.toArray off).run P w=.ok (KE ag ((vs.drop off).take n)) w:=by
 cases ag with
 |true=>
  simp[part,NJ u,Js I,KE]
 |false=>
  obtain rfl:=E rfl;have J:off<vs.length:=by omega
  simp[part,NJ u,J,KE,List.take_one,List.head?_drop]
theorem jz{d:Nat}(h:Hz P d t=some ks)(u:Ee P t=some false):ks.length=1:=by
 cases d with
 |zero=>cases h
 |succ d=>
  unfold Hz at h;unfold Ee at u;grind
theorem LF{α:Type}{l:List α}{n i:Nat}{x:α}(h:((l.drop off).take n)[i]?=some x):l[off+i]?=some x:=by
 grind
theorem bM(d U:Nat)(E:∀ t ks,Hz P d t=some ks→VL P U t ks):∀ (fs:List Field) (off:Nat) (ks:List Nat) (w:World) (g:Ghost) (st:St) (xs ys:List D) (vs us:List Value) (b:Bool),
  PL (Hz P d) P fs off=some ks→E1 ks (xs.drop off) (ys.drop off)=some b→xs.length=vs.length→ys.length=us.length→
  (∀ (i:Nat) d v,xs[i]?=some d→vs[i]?=some v→RepV w g st d v)→(∀ (i:Nat) d v,ys[i]?=some d→us[i]?=some v→RepV w g st d v)→
  (Op.eqFields U vs.toArray us.toArray fs).run P w=.ok b w
 |[],off,ks,w,g,st,xs,ys,vs,us,b,h,he,V,X,rx,Y=>by
  simp[PL]at h; subst h;have:=MK he
  match M:xs.drop off,N:ys.drop off with
  |[],[]=>rw[M,N]at he; simp[E1]at he; subst he; simp[Op.eqFields]
  |_::_,_=>rw[M]at this; simp at this
  |[],_::_=>rw[N]at this; simp at this
 |f::fs,off,ks,w,g,st,xs,ys,vs,us,b,h,he,V,X,rx,Y=>by
  unfold PL at h
  split at h
  ·rename_i l ag hl u
   split at h
   ·rename_i hc;obtain⟨J,aa,O,ah⟩:=hc;simp only[DA]at h;obtain⟨ac,ad,rfl⟩:=h;obtain⟨b1,b2,h1,h2,rfl⟩:=W5 he;have hlen:=MK he;simp only[AE,Ad]at hlen;rw[Bu,Bu]at h2;have I:ag=false→l.length=1:=fun e=>jz hl (by rw[u,e]);have p1:=OG (P:=P) (w:=w) (off:=off) u O I (vs:=vs) (by omega);have p2:=OG (P:=P) (w:=w) (off:=off) u O I (vs:=us) (by omega)
    have e1:=E f.type l hl w g st ag _ _ ((vs.drop off).take l.length) ((us.drop off).take l.length) b1 u h1 (by simp[V]) (by simp[X])
     (fun i d v hd hv=>rx _ d v (LF hd) (LF hv)) (fun i d v hd hv=>Y _ d v (LF hd) (LF hv))
    have ih:=bM d U E fs (off+l.length) ac w g st xs ys vs us b2 ad h2 V X rx Y;simp only[Op.eqFields,J,ne_eq,not_false_eq_true,if_true,Sem.run_bind,aa,p1,p2,e1,Result.andThen_ok];cases b1
    ·simp
    ·grind
   ·cases h
  ·cases h
theorem nV(n:Nat)(l:List Nat):(CM (n+1) l).flatten=l++(CM n l).flatten:=by
 rfl
theorem bw(O:Nat){e:TypeId}{l:List Nat}{ag:Bool}(I:VL P O e l)(E:Ee P e=some ag)(J:DZ P e=some l.length)(U:0<l.length)(u:ag=false→l.length=1):∀ (n k:Nat) (w:World) (g:Ghost) (st:St) (xs ys:List D) (vs us:List Value) (b:Bool),
  E1 (CM n l).flatten (xs.drop (k*l.length)) (ys.drop (k*l.length))=some b→xs.length=vs.length→ys.length=us.length→
  (∀ (i:Nat) d v,xs[i]?=some d→vs[i]?=some v→RepV w g st d v)→(∀ (i:Nat) d v,ys[i]?=some d→us[i]?=some v→RepV w g st d v)→
  (Op.eqItems O e l.length vs.toArray us.toArray (List.range' k n)).run P w=.ok b w
 |0,k,w,g,st,xs,ys,vs,us,b,he,V,X,rx,Y=>by
  simp only[Cl,List.flatten_nil]at he;have:=MK he
  match M:xs.drop (k*l.length),N:ys.drop (k*l.length)with
  |[],[]=>rw[M,N]at he; simp[E1]at he; subst he; simp[Op.eqItems]
  |_::_,_=>rw[M]at this; simp at this
  |[],_::_=>rw[N]at this; simp at this
 |n+1,k,w,g,st,xs,ys,vs,us,b,he,V,X,rx,Y=>by
  rw[nV]at he;obtain⟨b1,b2,h1,h2,rfl⟩:=W5 he;have hlen:=MK he;simp only[AE,Ad]at hlen;rw[Bu,Bu]at h2;have p1:=OG (P:=P) (w:=w) (off:=k*l.length) E J u (vs:=vs) (by omega);have p2:=OG (P:=P) (w:=w) (off:=k*l.length) E J u (vs:=us) (by omega)
  have e1:=I w g st ag _ _ ((vs.drop (k*l.length)).take l.length) ((us.drop (k*l.length)).take l.length) b1 E h1 (by simp[V]) (by simp[X])
   (fun i d v hd hv=>rx _ d v (LF hd) (LF hv)) (fun i d v hd hv=>Y _ d v (LF hd) (LF hv))
  have ek:(k+1)*l.length=k*l.length+l.length:=by rw[AX,Bw]
  have ih:=bw O I E J U u n (k+1) w g st xs ys vs us b2 (by rw[ek]; exact h2) V X rx Y;simp only[BT,Op.eqItems,Sem.run_bind,p1,p2,e1,Result.andThen_ok];cases b1
  ·simp
  ·grind
theorem YV:∀ (d:Nat) (t:TypeId) (ks:List Nat),Hz P d t=some ks→∀ E,d≤E→VL P E t ks
 |0,_,_,h,_,_=>by cases h
 |d+1,t,ks,h,E,a0=>by
  intro w g st ag xs ys vs us b ha he V X rx Y;obtain⟨E,rfl⟩:∃ e,E=e+1:=⟨E - 1,by omega⟩;unfold Hz at h;unfold Ee at ha;have N:∀ t ks,Hz P d t=some ks→VL P E t ks:=fun t ks h=>YV d t ks h E (by omega)
  have single:∀ q,ks=[q]→∃ x y v u,xs=[x]∧ys=[y]∧vs=[v]∧us=[u]∧Hc q x y=some b∧RepV w g st x v∧RepV w g st y u:=by
   intro q hq;subst hq;have hl:=MK he
   match xs,ys,vs,us,V,X,hl with
   |[x],[y],[v],[u],_,_,_=>
    simp only[E1]at he
    split at he
    ·rename_i a b' I h2;simp only[C9]at h2 he;subst h2; subst he;exact⟨x,y,v,u,rfl,rfl,rfl,rfl,by simpa using I,rx 0 x v rfl rfl,Y 0 y u rfl rfl⟩
    ·cases he
  cases hu:P.underlying t with
  |none=>simp[hu]at ha
  |some k=>
   cases k with
   |int k=>
    simp only[hu,C9]at h ha;subst ha;obtain⟨x,y,v,u,rfl,rfl,rfl,rfl,I,r1,O⟩:=single 0 h.symm;unfold Hc at I
    split at I <;> simp_all
    obtain rfl:=Hd r1;obtain rfl:=Hd O;simp only[KE,Ak,if_false,List.headD_cons];rw[run_equalIn_int w E t _ k _ _ hu];simp_all
   |bool=>
    simp only[hu,C9]at h ha;subst ha;obtain⟨x,y,v,u,rfl,rfl,rfl,rfl,I,r1,O⟩:=single 1 h.symm;unfold Hc at I
    split at I <;> simp_all
    obtain rfl:=JN r1;obtain rfl:=JN O;simp only[KE,Ak,if_false,List.headD_cons];rw[run_equalIn_bool w E t _ _ hu];simp_all
   |string=>
    simp only[hu,C9]at h ha;subst ha;obtain⟨x,y,v,u,rfl,rfl,rfl,rfl,I,r1,O⟩:=single 2 h.symm;unfold Hc at I
    split at I <;> simp_all
    obtain rfl:=JM r1;obtain rfl:=JM O;simp only[KE,Ak,if_false,List.headD_cons];rw[run_equalIn_string w E t _ _ hu,Wm,Wm];simp_all
   |array n e=>
    simp only[hu,C9]at h ha;subst ha
    split at h
    ·rename_i l hl
     split at h
     ·rename_i hc;simp only[C9]at h; subst h;obtain⟨J,aa⟩:=hc
      have hi:∃ i,P.info? e=some i:=by
       unfold DZ at J
       cases hi:P.info? e with
       |none=>simp[hi]at J
       |some i=>exact⟨i,rfl⟩
      obtain⟨i,hi⟩:=hi
      have U:P.cellsOf e=l.length:=by
       unfold DZ at J;unfold Program.cellsOf;grind
      have M:∃ ag,Ee P e=some ag:=by
       cases d with
       |zero=>cases hl
       |succ d=>
        unfold Hz at hl;unfold Ee;grind
      obtain⟨ag,M⟩:=M;have ab:ag=false→l.length=1:=fun e'=>jz hl (by rw[M,e']);have:=bw E (N e l hl) M J aa ab n 0 w g st xs ys vs us b (by simpa using he) V X rx Y;simp only[KE,if_true];rw[run_equalIn_array w E _ _ hu hi,U,Bi];exact this
     ·cases h
    ·cases h
   |struct fs=>
    simp only[hu,C9]at h ha;subst ha
    split at h
    ·cases h
    ·rename_i ad;have hf:P.fieldsOf t=fs:=by simp[Program.fieldsOf,hu]
     have:=bM d E N fs.toList 0 ks w g st xs ys vs us b h (by simpa using he) V X rx Y;simp only[KE,if_true];rw[run_equalIn_struct w E t _ _ (by rw[hf]; exact hu) (by simpa using ad),hf];exact this
   |_=>simp[hu]at h
theorem Ybp{d:Nat}{u:Bool}{x y r:D}{vx vy:Value}(hl:Hz P d t=some ks)(E:d≤10000)(I:Ee P t=some true)(h:Iq ks u x y=some r)(J:RepV w g st x vx)(M:RepV w g st y vy) :
  (∃ v,(binOp (if u then .neq else .eql) t vx vy).run P w=.ok v w∧RepV w g st r v)∧∃ xs ys,vx=.agg xs∧vy=.agg ys:=by
 unfold Iq at h
 split at h
 ·rename_i xs ys;simp only[DA]at h;obtain⟨b,hb,rfl⟩:=h
  cases J with
  |agg _ vs N O=>
   cases M with
   |agg _ us U V=>
    refine⟨?_,_,_,rfl,rfl⟩;have e:(Op.equal t (.agg vs.toArray) (.agg us.toArray)).run P w=.ok b w:=YV d t ks hl 10000 E w g st true xs ys vs us b I hb N U O V;refine⟨.bool (b != u),?_,.bool _⟩;cases u <;> simp[binOp,e]
 ·cases h
end
end Go.Proofs.YtijnglngaogdjaaGreatDoor.PI
namespace Go.Proofs.YtijnglngaogdjaaGreatDoor.PI
open Go Go.RowKit
def Ko(P:Program)(kt:TypeId):Option (Nat×List Nat):=
 match P.underlying kt with
 |some (.int _)=>some (2,[0])
 |some .bool=>some (2,[1])
 |some .string=>some (2,[2])
 |some (.array n e)=>match P.underlying e,DZ P e with
  |some (.int _),some 1=>if 2≤n then some (n+1,CM n 0)else none
  |_,_=>none
 |_=>none
def MP(P:Program)(t:TypeId):Option (TypeId×TypeId×Nat×List Nat):=
 match P.underlying t with
 |some (.map kt et)=>match Ko P kt,DZ P et,Ee P et with
  |some (sz,ks),some 1,some false=>if sz=1000003 then none else some (kt,et,sz,ks)
  |_,_,_=>none
 |_=>none
variable {ks:List Nat}{sz:Nat}{et kt t:TypeId}
theorem jE{P:Program}(h:MP P t=some (kt,et,sz,ks)):P.underlying t=some (.map kt et)∧Ko P kt=some (sz,ks)∧sz≠1000003∧DZ P et=some 1∧Ee P et=some false:=by
 unfold MP at h;grind
variable {d k m r x y zd:D}{key q:Nat}{b ok:Bool}{v vd vk vm vs vx vy:Value}{kk:IntKind}{dT e elem sT ty:TypeId}{es:List MapEntry}{els:List D}{st':St}
section
variable {P:Program} {base:Nat} {w:World} {g:Ghost} {st:St}
theorem bQ(h:Hc q x y=some true):x=y:=by
 unfold Hc at h;grind
def L4:D→Bool
 |.int _ _ | .bool _ | .str _=>true
 |_=>false
theorem S5(h:Hc q x y=some b):L4 x=true∧L4 y=true:=by
 unfold Hc at h
 split at h
 ·exact⟨rfl,rfl⟩
 ·exact⟨rfl,rfl⟩
 ·exact⟨rfl,rfl⟩
 ·cases h
theorem bq:∀ {ks:List Nat} {xs ys:List D},E1 ks xs ys=some true→xs=ys
 |[],[],[],_=>rfl
 |q::qs,x::xs,y::ys,h=>by
  simp only[E1]at h
  split at h
  ·rename_i a b u E;simp only[C9,Ac]at h;obtain⟨rfl,rfl⟩:=h;rw[bQ u,bq E]
  ·cases h
 |[],[],_::_,h=>by simp[E1]at h
 |[],_::_,_,h=>by simp[E1]at h
 |_::_,[],_,h=>by simp[E1]at h
 |_::_,_::_,[],h=>by simp[E1]at h
theorem WO:∀ {ks:List Nat} {xs ys:List D} {b:Bool},E1 ks xs ys=some b→∀ x∈xs,L4 x=true
 |[],[],[],_,_=>fun x E=>by cases E
 |q::qs,x::xs,y::ys,b,h=>by
  simp only[E1]at h
  split at h
  ·rename_i a b I J;intro z u;rcases AA.1 u with rfl | u
   ·exact(S5 I).1
   ·exact WO J z u
  ·cases h
 |[],[],_::_,_,h=>by simp[E1]at h
 |[],_::_,_,_,h=>by simp[E1]at h
 |_::_,[],_,_,h=>by simp[E1]at h
 |_::_,_::_,[],_,h=>by simp[E1]at h
theorem aH{u:Value}(E:L4 d=true)(h:RepV w g st d v)(I:RepV w g st d u):v=u:=by
 cases h <;> cases I <;> first | rfl | (simp[L4]at E; done)
theorem vP(h:G4 sz ks x y=some true)(E:RepV w g st x vx)(I:RepV w g st y vy):vx=vy:=by
 unfold G4 at h
 split at h
 ·split at h
  ·obtain rfl:=bQ h;exact aH (S5 h).1 E I
  ·cases h
 ·split at h
  ·rename_i xs ys;have J:=WO h;obtain rfl:=bq h
   cases E with
   |agg _ vs U M=>
    cases I with
    |agg _ us V N=>
     have:vs=us:=by
      apply A9;intro i
      cases hv:vs[i]? with
      |none=>rw[BS]at hv; exact(BS.2 (by omega)).symm
      |some v=>
       have O:=(Ab.1 hv).1;have u:xs[i]?=some xs[i]:=Af (by omega);have hu:us[i]?=some us[i]:=Af (by omega);rw[hu,aH (J _ (Ah u)) (M i _ v u hv) (N i _ _ u hu)]
     rw[this]
  ·cases h
theorem cj(u:L4 d=true)(h:RepV w g st d v)(n:Nat):Instr.sameBits n v v=true:=by
 cases h <;> first
  |(simp[Instr.sameBits]; done)
  |(simp[L4]at u; done)
  |(unfold Instr.sameBits; exact(MapKept.bytes_beq _ _).2 rfl)
theorem xk(h:G4 sz ks x y=some b)(E:RepV w g st x vx):Instr.sameBits 10000 vx vx=true:=by
 unfold G4 at h
 split at h
 ·split at h
  ·exact cj (S5 h).1 E _
  ·cases h
 ·split at h
  ·rename_i xs ys;have M:=WO h
   cases E with
   |agg _ vs V N=>
    show(vs.toArray.size == vs.toArray.size && (vs.toArray.toList.zip vs.toArray.toList).all fun(x,y)=>Instr.sameBits 9999 x y)=true
    rw[Ac];refine⟨by simp,?_⟩;rw[Ag];rintro⟨u,O⟩ hu
    have I:u=O:=by
     have:=AV.1 hu;grind
    subst I;have hm:u∈vs:=(List.of_mem_zip hu).1;obtain⟨i,hi⟩:=AV.1 hm;have U:=(Ab.1 hi).1;have J:xs[i]?=some xs[i]:=Af (by omega);exact cj (M _ (Ah J)) (N i _ u J hi) _
  ·cases h
theorem xO(h:G4 sz ks x y=some b)(u:RepV w g st x vx)(w1:World):(Instr.keyThatStays vx vx).run P w1=.ok vx w1:=by
 simp[Instr.keyThatStays,xk h u]
theorem bL(u:P.underlying e=some (.int kk))(E:Bool)(n:Nat)(v:Value):(Instr.checkKey E (n+1) e v).run P w=.ok () w:=by
 unfold Instr.checkKey;simp only[Sem.run_bind,run_underlying u,Result.andThen];rfl
theorem W3(E:Ko P kt=some (sz,ks))(h:G4 sz ks x y=some b)(O:RepV w g st x v)(M:Bool):(Instr.checkKey M 10000 kt v).run P w=.ok () w:=by
 unfold Ko at E
 split at E
 ·rename_i hu;exact bL hu M 9999 v
 ·rename_i hu;unfold Instr.checkKey;simp only[Sem.run_bind,run_underlying hu,Result.andThen];rfl
 ·rename_i hu;unfold Instr.checkKey;simp only[Sem.run_bind,run_underlying hu,Result.andThen];rfl
 ·rename_i n e hu
  split at E
  ·rename_i kk I J
   split at E
   ·rename_i V;simp only[C9,Dr]at E;obtain⟨rfl,rfl⟩:=E;unfold G4 at h;rw[if_neg (by omega)]at h
    split at h
    ·rename_i xs ys;have hl:=(MK h).1;rw[BB]at hl
     cases O with
     |agg _ vs X Y=>
      have N:Ee P e=some false:=by unfold Ee; rw[I]
      unfold Instr.checkKey;simp only[Sem.run_bind,run_underlying hu,Result.andThen_ok];simp only[Std.Legacy.Range.forIn_eq_forIn_range',Std.Legacy.Range.size,CE,Nat.add_one_sub_one,Nat.div_one];have each:∀ i∈List.range' 0 n,i<vs.length:=fun i hi=>by rw[List.mem_range'_1]at hi; omega
      generalize List.range' 0 n=is at each
      refine(?_:((forIn is PUnit.unit fun i U=>do
       let u ← sizeOf e
       let u ← part e vs.toArray (i*u)
       Instr.checkKey M 9999 e u
       pure (ForInStep.yield PUnit.unit):Sem PUnit).run P w).andThen _=_)
      induction is with
      |nil=>simp
      |cons j is ih=>
       have hj:=each j (by simp);have p1:=OG (P:=P) (w:=w) (vs:=vs) (off:=j*1) N J (fun _=>rfl) (by omega);simp only[List.forIn_cons,Sem.run_bind,Js J,Result.andThen_ok,p1,bL I,Sem.run_pure];simp_all
    ·cases h
   ·cases E
  ·cases E
 ·cases E
theorem bD{u:TypeDesc}(J:(∃ kk,u=.int kk∧q=0)∨(u=.bool∧q=1)∨(u=.string∧q=2))(h:Hc q x y=some b)(E:RepV w g st x vx)(I:RepV w g st y vy):Instr.sameNow u vx vy=some b:=by
 rcases J with⟨kk,rfl,rfl⟩ | ⟨rfl,rfl⟩ | ⟨rfl,rfl⟩
 ·unfold Hc at h
  split at h <;> simp_all
  obtain rfl:=Hd E;obtain rfl:=Hd I;simp_all [Instr.sameNow]
 ·unfold Hc at h
  split at h <;> simp_all
  obtain rfl:=JN E;obtain rfl:=JN I;simp_all [Instr.sameNow]
 ·unfold Hc at h
  split at h <;> simp_all
  obtain rfl:=JM E;obtain rfl:=JM I;simp only[Instr.sameNow,C9];rw[← h,Bool.eq_iff_iff,MapKept.bytes_beq];simp
def Ents(w:World)(g:Ghost)(st:St)(sz:Nat)(els:List D)(es:List MapEntry):Prop:=
 es.length=els.length∧∀ (i:Nat) (e:MapEntry) (el:D),es[i]?=some e→els[i]?=some el→RepV w g st (FE sz el) e.key∧RepV w g st (Gu sz el) e.val
theorem Ents.tail{E:D}{e:MapEntry}(h:Ents w g st sz (E::els) (e::es)):Ents w g st sz els es:=
 ⟨by have:=h.1; simp only[Al]at this; omega,fun i I u J M=>h.2 (i+1) I u (by simpa using J) (by simpa using M)⟩
theorem bo{u:TypeDesc}{q:Nat}{k:D}{J:Value}(M:(∃ kk,u=.int kk∧q=0)∨(u=.bool∧q=1)∨(u=.string∧q=2))(N:RepV w g st k J):∀ (els:List D) (es:List MapEntry) (i:Nat) (r:Option Nat),Ents w g st 2 els es→Jg 2 [q] k els i=some r→
  (r=none∧Instr.findNow u J es i=some none)∨∃ j e,r=some (i+j)∧es[j]?=some e∧Instr.findNow u J es i=some (some (i+j,e.val))∧∃ el,els[j]?=some el∧G4 2 [q] k (FE 2 el)=some true
 |[],es,i,r,h,hm=>by
  obtain rfl:es=[]:=AO h.1;simp only[Jg,C9]at hm;exact .inl ⟨hm.symm,rfl⟩
 |el::els,[],i,r,h,hm=>by have:=h.1; simp at this
 |el::els,e::es,i,r,h,hm=>by
  have V:=(h.2 0 e el rfl rfl).1;simp only[Jg]at hm
  split at hm
  ·rename_i E;simp only[C9]at hm;subst hm;have I:=bD M (show Hc q k (FE 2 el)=some true from E) N V;exact .inr ⟨0,e,rfl,rfl,by simp only[Instr.findNow,I,BV],el,rfl,E⟩
  ·rename_i E;have I:=bD M (show Hc q k (FE 2 el)=some false from E) N V;rcases bo M N els es (i+1) r h.tail hm with⟨O,U⟩ | ⟨j,Y,O,U,h3,X,h4,h5⟩
   ·exact .inl ⟨O,by simp only[Instr.findNow,I,U]⟩
   ·refine .inr ⟨j+1,Y,by rw[O]; congr 1; omega,by simpa using U,?_,X,by simpa using h4,h5⟩;simp only[Instr.findNow,I,h3]
    congr 3; omega
  ·cases hm
theorem cq{kt:TypeId}{sz:Nat}{ks:List Nat}{k:D}{J:Value}(M:sz≠2)(hl:Hz P 100 kt=some ks)(V:Ee P kt=some true)(X:RepV w g st k J):∀ (els:List D) (es:List MapEntry) (i:Nat) (r:Option Nat),Ents w g st sz els es→Jg sz ks k els i=some r→
  (r=none∧(Instr.findAsking kt J es i).run P w=.ok none w)∨∃ j e,r=some (i+j)∧es[j]?=some e∧(Instr.findAsking kt J es i).run P w=.ok (some (i+j,e.val)) w∧∃ el,els[j]?=some el∧G4 sz ks k (FE sz el)=some true
 |[],es,i,r,h,hm=>by
  obtain rfl:es=[]:=AO h.1;simp only[Jg,C9]at hm;exact .inl ⟨hm.symm,rfl⟩
 |el::els,[],i,r,h,hm=>by have:=h.1; simp at this
 |el::els,e::es,i,r,h,hm=>by
  have N:=(h.2 0 e el rfl rfl).1
  have he:∀ b,G4 sz ks k (FE sz el)=some b→(Op.equal kt J e.key).run P w=.ok b w:=fun b hb=>by
   unfold G4 at hb;rw[if_neg M]at hb
   split at hb
   ·rename_i xs ys Y;rw[Y]at N
    cases X with
    |agg _ vs u E=>
     generalize e.key=ek at N
     cases N with
     |agg _ us O U=>exact YV 100 kt ks hl 10000 (by omega) w g st true xs ys vs us b V hb u O E U
   ·cases hb
  simp only[Jg]at hm
  split at hm
  ·rename_i I;simp only[C9]at hm;subst hm;exact .inr ⟨0,e,rfl,rfl,by simp[Instr.findAsking,he true I],el,rfl,I⟩
  ·rename_i I;rcases cq M hl V X els es (i+1) r h.tail hm with⟨u,E⟩ | ⟨j,e',u,E,O,aa,U,h5⟩
   ·exact .inl ⟨u,by simp[Instr.findAsking,he false I,E]⟩
   ·refine .inr ⟨j+1,e',by rw[u]; congr 1; omega,by simpa using E,?_,aa,by simpa using U,h5⟩;simp[Instr.findAsking,he false I,O];omega
  ·cases hm
theorem xl{n:Nat}(I:P.underlying kt=some (.array n e))(u:P.underlying e=some (.int kk))(E:DZ P e=some 1):Hz P 100 kt=some (CM n 0):=by
 have J:Hz P 99 e=some [0]:=by unfold Hz; rw[u]
 unfold Hz;simp_all
theorem SL{E:Value}{r:Option Nat}(u:Ko P kt=some (sz,ks))(N:RepV w g st k E)(O:Ents w g st sz els es)(U:Jg sz ks k els 0=some r) :
  (r=none∧(Instr.findKey kt E es).run P w=.ok none w)∨∃ j e,r=some j∧es[j]?=some e∧(Instr.findKey kt E es).run P w=.ok (some (j,e.val)) w∧∃ el,els[j]?=some el∧G4 sz ks k (FE sz el)=some true:=by
 have one:∀ (desc:TypeDesc) (q:Nat),P.underlying kt=some desc→(sz,ks)=(2,[q])→((∃ kk,desc=.int kk∧q=0)∨(desc=.bool∧q=1)∨(desc=.string∧q=2))→
   (r=none∧(Instr.findKey kt E es).run P w=.ok none w)∨∃ j e,r=some j∧es[j]?=some e∧(Instr.findKey kt E es).run P w=.ok (some (j,e.val)) w∧∃ el,els[j]?=some el∧G4 sz ks k (FE sz el)=some true:=by
  intro desc q hu he hd;simp only[Dr]at he;obtain⟨rfl,rfl⟩:=he;rcases bo hd N els es 0 r O U with⟨I,J⟩ | ⟨j,e,I,J,M,V⟩
  ·exact .inl ⟨I,MapKept.run_findKey hu J⟩
  ·rw[Bb]at I M;exact .inr ⟨j,e,I,J,MapKept.run_findKey hu M,V⟩
 unfold Ko at u
 split at u
 ·rename_i kk hu;exact one _ 0 hu (Au u).symm (.inl ⟨kk,rfl,rfl⟩)
 ·grind
 ·grind
 ·rename_i n e hu
  split at u
  ·rename_i kk X Y
   split at u
   ·rename_i J;simp only[C9,Dr]at u;obtain⟨rfl,rfl⟩:=u;have ha:Ee P kt=some true:=by unfold Ee; rw[hu]
    have M:=cq (by omega) (xl hu X Y) ha N els es 0 r O U
    have V:(Instr.findKey kt E es).run P w=(Instr.findAsking kt E es 0).run P w:=by
     cases es with
     |nil=>simp[Instr.findKey,run_underlying hu,Instr.findNow,Instr.findAsking]
     |cons e0 es=>
      have:Instr.findNow (.array n e) E (e0::es) 0=none:=by
       rfl
      simp[Instr.findKey,run_underlying hu,this]
    grind
   ·cases u
  ·cases u
 ·cases u
theorem sQ(I:SR base w g st)(h:1<sz)(u:sz≠1000003):RunsTo P base w g st (Instr.makeMap t none) (.mapv st.length) (st++[{row:=false,sz,els:=[],lent:=false}]):=by
 have hm:({row:=false,sz,els:=[],lent:=false}:Obj).isMap=true:=by simp[Obj.isMap,h]
 have E:=SR.pushMap (w':=w.alloc (.map #[] 0)) (o:={row:=false,sz,els:=[],lent:=false}) (clock:=0) I ⟨rfl,rfl,rfl,by simp⟩ (fun b hb=>Mu w _ b hb) (MapKept.heap_alloc w _).1 hm u rfl;refine⟨.map (some w.heap.size),_,_,rfl,E,?_⟩;have:=RepV.mapv (w:=w.alloc (.map #[] 0)) (g:={g with β:=E9 g.β st.length w.heap.size}) (st:=st++[{row:=false,sz,els:=[],lent:=false}]) st.length {row:=false,sz,els:=[],lent:=false} (by simp) hm;simpa[GP]using this
theorem fa{o:Obj}(u:st[key]?=some o)(h:RepV w g st (.mapv key) v):o.isMap=true∧v=.map (some (g.β key)):=by
 cases h with
 |mapv _ E I J=>
  grind
theorem eX{o:Obj}{es:Array MapEntry}(E:es.size=o.els.length)(I:∀ (i:Nat) (e:MapEntry) (el:D),es[i]?=some e→o.els[i]?=some el→RepV w g st (FE o.sz el) e.key∧RepV w g st (Gu o.sz el) e.val):Ents w g st o.sz o.els es.toList:=
 ⟨by simpa using E,fun i e el he u=>I i e el (by simpa using he) u⟩
theorem sD{P:Program}(h:Ko P kt=some (sz,ks)):sz≠0:=by
 unfold Ko at h
 repeat' split at h
 all_goals first | (cases h; done) | (simp only[C9,Dr]at h; omega)
theorem vo(hS:SR base w g st)(ht:MP P t=some (kt,et,sz,ks))(M:GR P et=some zd)(hm:RepV w g st m vm)(hk:RepV w g st k vk)
  (h:Hw st sz ks ok zd m k=some r):∃ v,(Instr.lookup t vm vk ok).run P w=.ok v w∧RepV w g st r v:=by
 obtain⟨hu,J,X,_,_⟩:=jE ht;have ac:sz≠0:=sD J;unfold Hw at h
 split at h
 case h_2=>rw[if_neg ac]at h; cases h
 case h_3=>cases h
 rename_i key
 split at h
 case h_2=>cases h
 rename_i o ho
 split at h
 case isFalse=>cases h
 rename_i hc;simp only[Ac,beq_iff_eq]at hc;obtain⟨⟨_,rfl⟩,ah⟩:=hc;obtain⟨b,hb⟩:=Option.isSome_iff_exists.1 ah;obtain⟨ad,rfl⟩:=fa ho hm;obtain⟨es,clock,V,h2,h3,h4,h5,bc⟩:=(hS.mp key o ho ad).old (by first | exact X | (simpa using X));have hE:=eX h3 h5;have E:=W3 (w:=w) J hb hk es.isEmpty
 have a2:∃ z,(zeroValue et).run P w=.ok z w∧RepV w g st zd z:=by
  unfold GR at M
  split at M
  case h_2=>cases M
  rename_i i hi
  split at M
  case h_2=>cases M
  rename_i z a3;exact⟨z,by simp[zeroValue,typeInfo,hi,a3],NN M⟩
 obtain⟨z,Y,aa⟩:=a2
 have N:∀ (x:D) (v:Value) (b:Bool),RepV w g st x v→RepV w g st (.tup [x,.bool b]) (.tuple #[v,.bool b]):=fun x v b hx=>by
  refine .tup [x,.bool b] [v,.bool b] rfl fun i d u I hu=>?_
  match i,I,hu with
  |0,I,hu=>simp at I hu; subst I; subst hu; exact hx
  |1,I,hu=>simp at I hu; subst I; subst hu; exact .bool _
 split at h
 ·rename_i i hi
  split at h
  ·rename_i el a4;simp only[C9]at h;subst h;rcases SL J hk hE hi with⟨O,_⟩ | ⟨j,e,O,h7,U,bd,h9,be⟩
   ·cases O
   ·obtain rfl:=Au O;have hr:=(h5 i e el (by simpa using h7) a4).2
    cases ok with
    |true=>exact⟨.tuple #[e.val,.bool true],by simp[Instr.lookup,run_underlying hu,MapKept.run_getObj_map V,E,U],N _ _ _ hr⟩
    |false=>exact⟨e.val,by simp[Instr.lookup,run_underlying hu,MapKept.run_getObj_map V,E,U],hr⟩
  ·cases h
 ·rename_i hi;simp only[C9]at h;subst h;rcases SL J hk hE hi with⟨_,U⟩ | ⟨j,e,O,_⟩
  ·cases ok with
   |true=>exact⟨.tuple #[z,.bool false],by simp[Instr.lookup,run_underlying hu,MapKept.run_getObj_map V,E,U,Y],N _ _ _ aa⟩
   |false=>exact⟨z,by simp[Instr.lookup,run_underlying hu,MapKept.run_getObj_map V,E,U,Y],aa⟩
  ·cases O
 ·cases h
def UL(P:Program)(t:TypeId):Option D:=match P.underlying t with
 |some (.map kt et)=>match P.underlying kt,DZ P et,Ee P et,GR P et with
  |some (.int .i64),some 1,some true,some zd=>some zd
  |_,_,_,_=>none
 |_=>none
theorem uI{P:Program}(h:UL P t=some zd):∃ kt et,P.underlying t=some (.map kt et)∧P.underlying kt=some (.int .i64)∧GR P et=some zd:=by
 unfold UL at h;grind
theorem bn{es:List (Int×Nat)}(n:Int):∀ (l:List MapEntry) (i:Nat),(∀ e∈l,∃ m f,e.key=.int .i64 m∧e.val=.agg #[.func (.func f) #[] #[]]∧f<5000000∧FY m es=some f)→
  (∃ j f,Instr.findNow (.int .i64) (.int .i64 n) l i=some (some (j,.agg #[.func (.func f) #[] #[]]))∧FY n es=some f∧f<5000000)∨(Instr.findNow (.int .i64) (.int .i64 n) l i=some none∧∀ e∈l,e.key≠.int .i64 n)
 |[],i,_=>.inr ⟨rfl,fun e he=>by cases he⟩
 |e::l,i,h=>by
  obtain⟨m,f,E,I,J,M⟩:=h e (by simp)
  by_cases u:n=m
  ·subst u;exact .inl ⟨i,f,by simp[Instr.findNow,Instr.sameNow,E,I],M,J⟩
  ·have hf:Instr.findNow (.int .i64) (.int .i64 n) (e::l) i=Instr.findNow (.int .i64) (.int .i64 n) l (i+1):=by
    have hb:(n == m)=false:=by simpa using u
    simp only[Instr.findNow,Instr.sameNow,E,if_true,hb]
   rcases bn n l (i+1) (fun x N=>h x (by simp[N]))with⟨j,f',O,U⟩ | ⟨O,U⟩
   ·grind
   ·grind
theorem Yc8(ht:UL P t=some zd)(hm:RepV w g st m vm)(hk:RepV w g st k vk)(h:Hw st 0 [] ok zd m k=some r) :
  ∃ v,(Instr.lookup t vm vk ok).run P w=.ok v w∧RepV w g st r v:=by
 obtain⟨kt,et,hu,Y,M⟩:=uI ht;unfold Hw at h
 split at h
 case h_3=>cases h
 case h_1=>
  split at h
  case h_2=>cases h
  split at h
  case isFalse=>cases h
  rename_i hc;simp only[Ac,beq_iff_eq]at hc;have:=Ze hc.1.1;omega
 rename_i es;rw[if_pos rfl]at h
 split at h
 case h_2=>cases h
 rename_i n;simp only[C9]at h
 obtain⟨b,E,clock,rfl,N,X⟩:∃ b E clock,vm=.map (some b)∧w.heap[b]?=some (.map E clock)∧XO E es:=by
  cases hm with
  |gmap _ b E clock N h2 X=>exact⟨b,E,clock,rfl,N,X⟩
 have a0:=hk;cases a0;have ad:Ko P kt=some (2,[0]):=by unfold Ko; rw[Y]
 have J:=W3 (w:=w) ad (show G4 2 [0] (.int .i64 n) (.int .i64 n)=some (n == n) by simp[G4,Hc]) hk E.isEmpty
 have a1:∃ z,(zeroValue et).run P w=.ok z w∧RepV w g st zd z:=by
  unfold GR at M
  split at M
  case h_2=>cases M
  rename_i i hi
  split at M
  case h_2=>cases M
  rename_i z a2;exact⟨z,by simp[zeroValue,typeInfo,hi,a2],NN M⟩
 obtain⟨z,aa,ab⟩:=a1
 have O:∀ (x:D) (v:Value) (b:Bool),RepV w g st x v→RepV w g st (.tup [x,.bool b]) (.tuple #[v,.bool b]):=fun x v b hx=>by
  refine .tup [x,.bool b] [v,.bool b] rfl fun i d u I hu=>?_
  match i,I,hu with
  |0,I,hu=>simp at I hu; subst I; subst hu; exact hx
  |1,I,hu=>simp at I hu; subst I; subst hu; exact .bool _
 have U:∀ f,f<5000000→RepV w g st (.agg [.clo f []]) (.agg #[.func (.func f) #[] #[]]):=fun f hf=>by
  refine .agg [.clo f []] [.func (.func f) #[] #[]] rfl fun i d u I hu=>?_
  match i,I,hu with
  |0,I,hu=>
   simp at I hu; subst I; subst hu;have:=RepV.clo (w:=w) (g:=g) (st:=st) f [] [] rfl (fun i d v h=>by simp at h);rw[Oo hf,SM,Sy]at this;exact this
 have ac:∀ r,Instr.findNow (.int .i64) (.int .i64 n) E.toList 0=some r→(Instr.findKey kt (.int .i64 n) E.toList).run P w=.ok r w:=fun r hr=>by
  simp[Instr.findKey,run_underlying Y,hr]
 rcases bn n E.toList 0 X.1 with⟨j,f,h5,h6,h7⟩ | ⟨h5,h6⟩
 ·have V:=ac _ h5;rw[h6]at h;simp only at h
  cases ok with
  |true=>
   simp only[if_true]at h;subst h;exact⟨.tuple #[.agg #[.func (.func f) #[] #[]],.bool true],by simp[Instr.lookup,run_underlying hu,MapKept.run_getObj_map N,J,V],O _ _ _ (U f h7)⟩
  |false=>
   simp only[Ak,if_false]at h;subst h;exact⟨.agg #[.func (.func f) #[] #[]],by simp[Instr.lookup,run_underlying hu,MapKept.run_getObj_map N,J,V],U f h7⟩
 ·have V:=ac _ h5
  have a5:FY n es=none:=by
   cases hg:FY n es with
   |none=>rfl
   |some f=>
    obtain⟨e,he,bb⟩:=X.2 n f hg;grind
  rw[a5]at h;simp only at h
  cases ok with
  |true=>
   simp only[if_true]at h;subst h;exact⟨.tuple #[z,.bool false],by simp[Instr.lookup,run_underlying hu,MapKept.run_getObj_map N,J,V,aa],O _ _ _ ab⟩
  |false=>
   simp only[Ak,if_false]at h;subst h;exact⟨z,by simp[Instr.lookup,run_underlying hu,MapKept.run_getObj_map N,J,V,aa],ab⟩
theorem Yq0{v:D}(h:G4 sz ks k k=some b)(hl:k.cells.length+1=sz):FE sz (.agg (k.cells++[v]))=k∧Gu sz (.agg (k.cells++[v]))=v:=by
 have u:(k.cells++[v]).take (sz - 1)=k.cells:=by rw[show sz - 1=k.cells.length by omega]; simp
 have E:(k.cells++[v]).drop (sz - 1)=[v]:=by rw[show sz - 1=k.cells.length by omega]; simp
 refine⟨?_,by simp only[Gu,E]; rfl⟩;simp only[FE,u];unfold G4 at h
 split at h
 ·rename_i e;subst e
  split at h
  ·have I:=(S5 h).1;cases k <;> first | rfl | (simp[L4]at I; done)
  ·cases h
 ·rename_i e
  split at h
  ·simp[e,D.mk,D.cells]
  ·cases h
theorem mz(h:RepV w g st d v)(u:d.isCell=true):Nb v=false:=by
 have:=h.oneCell u;cases v <;> first | rfl | (simp[Value.oneCell']at this; done)
theorem jG(hS:SR base w g st){v:D}{J:Value}(ht:MP P t=some (kt,et,sz,ks))(hm:RepV w g st m vm)(M:RepV w g st k vk)(hv:RepV w g st v J)
  (h:Nj st sz ks m k v=some st'):∃ w' g',(Instr.mapUpdate t vm vk J).run P w=.ok () w'∧Go1 base w g st w' g' st':=by
 obtain⟨hu,N,I,_,_⟩:=jE ht;unfold Nj at h
 split at h
 case h_2=>cases h
 rename_i key
 split at h
 case h_2=>cases h
 rename_i o Y
 split at h
 case isFalse=>cases h
 rename_i hc;simp only[Ac,AL,beq_iff_eq]at hc;obtain⟨⟨⟨⟨⟨⟨_,rfl⟩,a6⟩,aa⟩,hl⟩,a9⟩,O⟩:=hc;obtain⟨E,rfl⟩:=fa Y hm;obtain⟨es,clock,u,h2,h3,h4,h5,ab⟩:=(hS.mp key o Y E).old (by first | exact I | (simpa using I));have hE:=eX h3 h5;have U:=W3 (w:=w) N O M false;obtain⟨k1,k2⟩:=Yq0 (v:=v) O hl;have bc:∃ l,(D.agg (k.cells++[v]))=.agg l∧l.length=o.sz:=⟨_,rfl,by rw[Ad]; exact hl⟩;have bd:g.β key<w.heap.size:=(Ax.1 u).1
 split at h
 ·rename_i i hi;simp only[C9]at h;subst h;rcases SL N M hE hi with⟨V,_⟩ | ⟨j,e,V,h7,h8,a1,h9,a2⟩
  ·cases V
  ·obtain rfl:=Au V;have X:es[i]?=some e:=by simpa using h7
   have a3:e.key=vk:=(vP a2 M (h5 i e a1 X h9).1).symm;have a4:(Instr.keyThatStays e.key vk).run P w=.ok vk w:=by rw[a3]; exact xO O M w
   refine⟨_,g,?_,SR.updMap (o':={o with els:=o.els.set i (.agg (k.cells++[v]))}) (es':=es.modify i fun e=>{e with key:=vk,val:=J}) (clock':=clock) (w':={w with heap:=w.heap.setIfInBounds (g.β key) (.map (es.modify i fun e=>{e with key:=vk,val:=J}) clock)}) hS Y E I rfl rfl (by simp) rfl
    ⟨rfl,rfl,rfl,by simp⟩ (fun b hb=>(MapKept.heap_set u).2 b hb) (MapKept.heap_set u).1 (by simpa using h3) ?_ ?_ ?_⟩
   ·simp[Instr.mapUpdate,run_underlying hu,MapKept.run_getObj_map u,U,h8,X,a4,MapKept.run_setObj_map _ u]
   ·grind
   ·grind
   ·rw[X6]at ab ⊢;rw[B5]
    by_cases a5:i=0
    ·subst a5;rw[if_pos rfl,X];exact mz hv aa
    ·grind
 ·rename_i hi;simp only[C9]at h;subst h;rcases SL N M hE hi with⟨_,h8⟩ | ⟨j,e,V,_⟩
  ·refine⟨_,g,?_,SR.updMap (o':={o with els:=o.els++[.agg (k.cells++[v])]}) (es':=es.push {key:=vk,val:=J,born:=clock}) (clock':=clock+1) (w':={w with heap:=w.heap.setIfInBounds (g.β key) (.map (es.push {key:=vk,val:=J,born:=clock}) (clock+1))}) hS Y E I rfl rfl (by simp) rfl
    ⟨rfl,rfl,rfl,by simp⟩ (fun b hb=>(MapKept.heap_set u).2 b hb) (MapKept.heap_set u).1 (by simpa using h3) ?_ ?_ ?_⟩
   ·simp[Instr.mapUpdate,run_underlying hu,MapKept.run_getObj_map u,U,h8,MapKept.run_setObj_map _ u]
   ·grind
   ·grind
   ·rw[X6]at ab ⊢
    by_cases hj:0<es.size
    ·grind
    ·have he:es=#[]:=Array.eq_empty_of_size_eq_zero (by omega);subst he;exact mz hv aa
  ·cases V
 ·cases h
theorem Yk3(V:SR base w g st){tot off len:Nat}{s:D}(hu:P.underlying dT=some (.slice elem))(a4:(P.info? elem).map (·.size)=some 1)(hd:RepV w g st (.row key tot off len) vd)(hs:RepV w g st s vs)
  (h:Pq st 1 key tot off len s=some (r,st')):RunsTo P base w g st (Builtin.copy_ #[dT,sT] ty #[vd,vs]) r st':=by
 unfold Pq at h
 split at h
 case h_2=>cases h
 rename_i o cd xs N a5
 split at h
 case isFalse=>cases h
 rename_i hc;simp only[Ac,AL,beq_iff_eq,decide_eq_true_eq,A5,BJ]at hc;obtain⟨⟨⟨⟨⟨⟨⟨⟨E,bf⟩,ad⟩,J⟩,_⟩,b5⟩,b6⟩,ae⟩,b7⟩:=hc;simp only[C9,Dr]at h;obtain⟨rfl,rfl⟩:=h;obtain⟨I,h1,h2,h3,rfl,h5⟩:=OR (by simp[Eu,N,E,ad]) hd;obtain rfl:I=o:=Au (h1.symm.trans N);obtain⟨C,e,hb,bg,b9,hx,hC,ca⟩:=V.blk key I N (Kd E);rw[E]at hC;simp only[if_true]at hC
 have hE:Els w g st vs 1 xs:=by
  rcases Wa V a5 hs with X | ⟨s',rfl,_,_⟩
  ·grind
  ·simp[I0]at ae
 obtain⟨⟨a,cap,rfl,a7⟩,bh,a8⟩:=hE;have ce:min len xs.length≤xs.length:=Nat.min_le_right _ _;have cf:min len xs.length≤len:=Nat.min_le_left _ _;have ah:Nat.min xs.length len=min len xs.length:=Nat.min_comm ..;generalize min len xs.length=m at*
 have a0:xs≠[]:=by
  grind
 obtain⟨b,o2,rfl,_,b1⟩:=a7 a0
 have cg:∀ j,j<m→∃ d u,Ff xs j 0=some d∧w.cell? ⟨b,o2+j,none⟩=some u∧RepV w g st d u∧u.oneCell'=true:=by
  intro j hj;have aa:j<xs.length:=by omega
  have ch:=a8 xs[j] (Bj aa);have c0:Ff xs j 0=some (xs[j].cells[0]'(by omega)):=GB (Af aa) (Af (by omega));grind
 have ab:∀ j:Nat,((CQ m).map fun j=>(w.cell? ⟨b,o2+j,none⟩).getD undef)[j]?=if j<m then w.cell? ⟨b,o2+j,none⟩else none:=fun j=>by
  grind
 have hlen:((CQ m).map fun j=>(w.cell? ⟨b,o2+j,none⟩).getD undef).length=m:=by rw[A2,List.length_range]
 generalize ((CQ m).map fun j=>(w.cell? ⟨b,o2+j,none⟩).getD undef)=cs at ab hlen
 have a1:∀ v∈cs,v.oneCell'=true:=fun v hv=>by
  obtain⟨j,hj⟩:=AV.1 hv;grind
 rw[J,BH]at hC;rw[show off*I.sz=off by rw[J,BH]];have O:off+cs.length≤C.size:=by omega
 have a2:=run_copy_row P w dT sT ty elem (g.β key) off len (g.γ key - off) ⟨b,o2,none⟩ xs.length cap C e cs hu a4 hb (by rw[hlen]; exact ah.symm) (fun j v hv=>by
   rw[ab]at hv
   split at hv
   ·rw[cell?_add]; simpa using hv
   ·cases hv) O a1
 have ba:(xs.take m).length=m:=by rw[As]; omega
 have U:off+(xs.take m).length≤I.els.length:=by omega
 have bb:=Pm U
 have a3:∀ j y,(F0 I.els off (xs.take m))[j]?=some y→(off≤j∧j<off+m∧xs[j - off]?=some y)∨(¬ (off≤j∧j<off+m)∧I.els[j]?=some y):=by
  intro j y M;rw[MG U,ba]at M;grind
 refine⟨_,_,{g with β:=E9 g.β key (g.β key),γ:=E9 g.γ key (g.γ key)},a2,?_,by simp only[goInt,hlen]; exact .int _ _⟩
 refine SR.update (o':={I with els:=F0 I.els off (xs.take m)}) (c:=g.γ key) V N (Kd E) hb (.inl ⟨rfl,rfl⟩) rfl rfl (by simp[bb]) rfl ?_ (Pl w _ _)
  (fun b' _ c1=>setRow_other w _ _ _ (by omega)) (setRow_heap w _ C _ e _ hb) ?_ ?_ ?_
 ·intro y M;obtain⟨j,hj⟩:=AV.1 M;grind
 ·intro _ y M;have:=(V.dis key I y N M).1;grind
 ·grind
 ·intro i j d bc;obtain⟨y,M,ac⟩:=GQ bc
  have bd:j=0:=by
   have Y:y.cells.length=1:=by
    grind
   grind
  subst bd;rw[J,BH,BV,Pg O,hlen];rcases a3 i y M with⟨X,Y,h8⟩ | ⟨X,Y⟩
  ·rw[if_pos ⟨X,Y⟩];have be:=GB h8 ac;grind
  ·rw[if_neg X];have be:=GB Y ac;grind
theorem Yk2(O:SR base w g st){s:D}(hu:P.underlying dT=some (.slice elem))(ca:DZ P elem=some 1)(M:RepV w g st d vd)(hs:RepV w g st s vs)
  (h:Ip st 1 d s=some (r,st')):RunsTo P base w g st (Builtin.copy_ #[dT,sT] ty #[vd,vs]) r st':=by
 have aa:(P.info? elem).map (·.size)=some 1:=ca;have bb:∀ (a V:Option Addr) (c n' c':Nat),(Builtin.copy_ #[dT,sT] ty #[.slice a 0 c,.slice V n' c']).run P w=.ok (goInt 0) w:=fun a V c n' c'=>run_copy_none (P:=P) w dT sT ty elem a V 0 c n' c' hu aa (Nat.min_zero _);have cb:∀ (a V:Option Addr) (n c c':Nat),(Builtin.copy_ #[dT,sT] ty #[.slice a n c,.slice V 0 c']).run P w=.ok (goInt 0) w:=fun a V n c c'=>run_copy_none (P:=P) w dT sT ty elem a V n c 0 c' hu aa (Nat.zero_min _);unfold Ip at h
 split at h
 ·rename_i key off n db _ ae E n2 dc _
  split at h
  ·cases h
  rename_i c1
  split at h
  case h_2=>cases h
  rename_i o o2 ho bc
  split at h
  case isFalse=>cases h
  rename_i hc;simp only[Ac,AL,decide_eq_true_eq,BH]at hc;obtain⟨⟨⟨⟨⟨X,c2⟩,a8⟩,hle⟩,c5⟩,bg⟩:=hc;simp only[C9,Dr,BH]at h;obtain⟨rfl,rfl⟩:=h
  cases M with
  |bsl _ _ _ _ _ I cap q1 q2 q3 _=>
   obtain rfl:I=o:=Au (q1.symm.trans ho)
   cases hs with
   |bsl _ _ _ _ _ U N u1 u2 u3 _=>
    obtain rfl:U=o2:=Au (u1.symm.trans bc);obtain⟨C,e,hb,c3,c6,hx,hC,b2⟩:=O.blk key I ho (LQ q3);obtain⟨C2,e2,cd,ce,c4,dd,ah,a9⟩:=O.blk ae U bc (LQ u3);rw[X]at hC;rw[a8]at ah;simp only[Ak,if_false]at hC ah;obtain⟨bd,c7,cf⟩:=hC;obtain⟨de,_,cg⟩:=ah;have b3:Nat.min n2 n=min n n2:=Nat.min_comm ..;generalize hm:min n n2=mm at*;have be:((U.els.drop E).take mm).length=mm:=by rw[As,AE]; omega
    have b4:∀ j d,((U.els.drop E).take mm)[j]?=some d→∃ u,C2[E+j]?=some u∧RepV w g st d u∧d.cells=[d]∧u.oneCell'=true:=fun j d M=>by
     obtain⟨h6,_⟩:=W4 M;have h7:=cg d (Ah h6);obtain⟨_,u,h8,h9⟩:=a9 (E+j) 0 d (GB h6 (by rw[h7]; rfl));rw[u3]at h8;exact⟨u,by simpa using h8,h9,h7,h9.oneCell (Ag.1 bg d (Ah M))⟩
    have hlen:((C2.toList.drop E).take mm).length=mm:=by
     grind
    have a1:∀ j:Nat,((C2.toList.drop E).take mm)[j]?=if j<mm then C2[E+j]? else none:=fun j=>by
     grind
    generalize c8:(C2.toList.drop E).take mm=cs at hlen a1;generalize c9:(U.els.drop E).take mm=xs at*
    have b8:∀ v∈cs,v.oneCell'=true:=fun v hv=>by
     obtain⟨j,hj⟩:=AV.1 hv;have ch:j<mm:=by have:=(Ab.1 hj).1; omega
     rw[a1,if_pos ch]at hj;obtain⟨u,h8,_,_,h9⟩:=b4 j xs[j] (Af (by omega));grind
    have a3:=run_copy_row P w dT sT ty elem (g.β key) off n cap ⟨g.β ae,E,none⟩ n2 N C e cs hu aa hb (by rw[hlen]; exact b3.symm) (fun j v hv=>by
      rw[a1]at hv
      split at hv
      ·rw[cell?_add]; simp only[World.cell?,cd]; simpa using hv
      ·cases hv) (by rw[hlen,bd]; exact hle) b8
    rw[hlen]at a3;have b9:off+cs.length≤C.size:=by rw[hlen,bd]; exact hle
    have Y:off+xs.length≤I.els.length:=by rw[be]; exact hle
    have c0:=Pm Y
    have mem:∀ y∈F0 I.els off xs,y.cells=[y]:=by
     intro y J;obtain⟨j,hj⟩:=AV.1 J;rw[MG Y]at hj;grind
    have eo:({row:=false,sz:=I.sz,els:=F0 I.els off xs,lent:=I.lent}:Obj)={I with els:=F0 I.els off xs}:=by rw[← X]
    refine⟨_,_,{g with β:=E9 g.β key (g.β key),γ:=E9 g.γ key (g.γ key)},a3,?_,by simp only[goInt]; exact .int _ _⟩
    refine SR.update (o':={I with els:=F0 I.els off xs}) (c:=g.γ key) O ho (LQ q3) hb (.inl ⟨rfl,rfl⟩) rfl rfl (by simp[c0]) rfl (fun y J=>by rw[mem y J,q3]; rfl) (Pl w _ _)
     (fun b' _ df=>setRow_other w _ _ _ (by omega)) (by rw[← hlen]; exact setRow_heap w _ C _ e _ hb) ?_ ?_ ?_
    ·intro _ y J;have:=(O.dis key I y ho J).1;grind
    ·grind
    ·intro i j d M;refine⟨fun h=>by simp[X]at h,?_⟩;obtain⟨y,J,ab⟩:=GQ M;have h5:=mem y (Ah J);rw[h5]at ab
     cases j with
     |succ j=>simp at ab
     |zero=>
      simp only[AB,C9]at ab;subst ab;rw[q3,BH,BV,Pg b9];rw[MG Y]at J;rw[hlen];rw[be]at J
      split at J
      ·grind
      ·rename_i hc;rw[if_neg hc];have h8:=cf y (Ah J);obtain⟨_,u,h6,h7⟩:=b2 i 0 y (GB J (by rw[h8]; rfl));grind
 ·simp only[C9,Dr]at h;obtain⟨rfl,rfl⟩:=h
  cases M with
  |slcE _ _ a cap _=>
   cases hs with
   |bsl _ _ _ _ _ I N q1 q2 q3 _=>
    exact⟨goInt 0,w,g,bb _ _ _ _ _,Go1.refl O,.int _ _⟩
  |slc _ _ _ _ _ _ _ h=>exact absurd rfl h
 ·simp only[C9,Dr]at h;obtain⟨rfl,rfl⟩:=h
  cases hs with
  |slcE _ _ a cap _=>
   cases M with
   |bsl _ _ _ _ _ I N q1 q2 q3 _=>
    exact⟨goInt 0,w,g,cb _ _ _ _ _,Go1.refl O,.int _ _⟩
  |slc _ _ _ _ _ _ _ h=>exact absurd rfl h
 ·simp only[C9,Dr]at h;obtain⟨rfl,rfl⟩:=h
  cases hs with
  |slcE _ _ a cap _=>
   cases M with
   |slcE _ _ a2 N _=>
    exact⟨goInt 0,w,g,bb _ _ _ _ _,Go1.refl O,.int _ _⟩
   |slc _ _ _ _ _ _ _ h=>exact absurd rfl h
  |slc _ _ _ _ _ _ _ h=>exact absurd rfl h
 ·exact Yk3 O hu aa M hs h
 ·cases h
end
end Go.Proofs.YtijnglngaogdjaaGreatDoor.PI
namespace Go.Proofs.YtijnglngaogdjaaGreatDoor.PI
open Go Go.RowKit
def XX(P:Program)(t:TypeId):Option (Nat→Option (Nat×Nat)):=
 match P.underlying t with
 |some (.array _ e)=>match P.info? e with
  |some ie=>some fun i=>some (i*ie.size,ie.size)
  |none=>none
 |some (.struct fields)=>match fields.toList.mapM (fun f=>(P.info? f.type).map fun i=>(f.offset,i.size))with
  |some places=>some fun i=>places.toArray[i]?
  |none=>none
 |_=>none
def Nv(pl:Nat→Option (Nat×Nat)):List (Nat×Operand)→Option (List (Nat×Nat×PA))
 |[]=>some []
 |(i,x)::r=>match pl i,DN x,Nv pl r with
  |some (off,size),some a,some l=>some ((off,size,a)::l)
  |_,_,_=>none
def OA:Nat→List (Nat×Operand)→Option (List PA)
 |_,[]=>some []
 |k,(i,x)::r=>match DN x,OA (k+1) r with
  |some a,some l=>if i=k then some (a::l)else none
  |_,_=>none
def Ut(P:Program)(op:BinOp)(t:TypeId)(a b:PA):Option POp:=
 match op with
 |.eql | .neq=>
  let neg:=match op with | .neq=>true | _=>false
  match P.underlying t with
  |some (.int _) | some .string=>some (.bin op a b)
  |some .bool=>some (.beq neg a b)
  |some (.struct _) | some (.array _ _)=>match Hz P 100 t with
   |some ks=>if P.eqGuardType P.depth t then none else some (.aeq ks neg a b)
   |none=>none
  |_=>none
 |_=>some (.bin op a b)
def UW(P:Program)(src dst:TypeId)(a:PA):Option POp:=
 match P.underlying src,P.underlying dst with
 |some _,some (.int k)=>some (.conv (.int k) a)
 |some .string,some .string=>some (.conv .same a)
 |some .string,some (.slice e)=>match P.underlying e with
  |some (.int .u8)=>some (.conv .bytes a)
  |_=>none
 |some (.slice e),some .string=>match P.underlying e with
  |some (.int .u8)=>some (.conv .str a)
  |_=>none
 |_,_=>none
def Vj(P:Program)(t:TypeId)(a:PA)(lo hi mx:Option PA):Option POp:=
 match P.underlying t with
 |some .string=>some (.slice 0 a lo hi mx)
 |some (.slice e)=>match DZ P e with
  |some sz=>if sz=0 then none else some (.slice sz a lo hi mx)
  |none=>none
 |some (.array n e)=>match DZ P e,Ee P e,mx with
  |some sz,some ag,none=>some (.sliceA n sz ag a lo hi)
  |_,_,_=>none
 |_=>none
def Sl(P:Program)(b:Builtin)(args:List Operand)(ts:List TypeId):Option POp:=
 match b,args,ts with
 |.len,[x],[t]=>match DN x,P.underlying t with
  |some a,some .string=>some (.len true a)
  |some a,some (.slice _)=>some (.len false a)
  |some _,some (.array n _)=>some (.lenA n)
  |_,_=>none
 |.append,[s,x],[t,tx]=>match DN s,DN x,P.underlying t,P.underlying tx with
  |some a,some b,some (.slice e),some (.slice _) | some a,some b,some (.slice e),some .string=>match P.info? e with
   |some i=>match i.zero with
    |some z=>if z.cells.size=i.size then some (.app i.size i.bytes a b)else none
    |none=>none
   |none=>none
  |_,_,_,_=>none
 |.copy,[d,s],[t,_]=>match DN d,DN s,P.underlying t with
  |some a,some b,some (.slice e)=>match DZ P e with
   |some 1=>some (.cpy 1 a b)
   |_=>none
  |_,_,_=>none
 |.min,[x,y],_=>match DN x,DN y with
  |some a,some b=>some (.mm false a b)
  |_,_=>none
 |.max,[x,y],_=>match DN x,DN y with
  |some a,some b=>some (.mm true a b)
  |_,_=>none
 |.min,[x,y,z],_=>match DN x,DN y,DN z with
  |some a,some b,some c=>some (.mm3 false a b c)
  |_,_,_=>none
 |.max,[x,y,z],_=>match DN x,DN y,DN z with
  |some a,some b,some c=>some (.mm3 true a b c)
  |_,_,_=>none
 |_,_,_=>none
def Dp(P:Program)(il:List Nat):Op→Option POp
 |.move x | .assign x=>(DN x).map .mov
 |.pick c a b=>match DN c,DN a,DN b with
  |some c,some a,some b=>some (.pick c a b)
  |_,_,_=>none
 |.alloc t=>(GR P t).map fun d=>.box (.c d)
 |.box _ x=>(DN x).map .box
 |.build t parts=>match GR P t,XX P t with
  |some (.agg zs),some pl=>(Nv pl parts.toList).map (.bld zs)
  |_,_=>none
 |.buildSlice t len parts=>match P.underlying t with
  |some (.slice e)=>match P.info? e with
   |some i=>match i.zero,OA 0 parts.toList with
    |some _,some l=>if l.length=len then some (.bslc i.size l)else none
    |_,_=>none
   |none=>none
  |_=>none
 |.load t a=>match DN a,DZ P t,Ee P t with
  |some a,some n,some ag=>some (.load n ag a)
  |_,_,_=>none
 |.store t a x=>match DN a,DN x,DZ P t with
  |some a,some x,some n=>some (.stor n a x)
  |_,_,_=>none
 |.nilCheck x=>(DN x).map .nilc
 |.binOp op t x y _=>match DN x,DN y with
  |some a,some b=>Ut P op t a b
  |_,_=>none
 |.unOp op _ x=>(DN x).map (.un op)
 |.convert src dst x=>match DN x with
  |some a=>UW P src dst a
  |none=>none
 |.makeSlice t l c=>match DN l,DN c,P.underlying t with
  |some l,some c,some (.slice e)=>match P.info? e with
   |some i=>match i.zero with
    |some z=>(Lj z).map fun zd=>.mkslc i.size i.bytes zd l c
    |none=>none
   |none=>none
  |_,_,_=>none
 |.slice t x lo hi mx=>match DN x,Oc lo,Oc hi,Oc mx with
  |some a,some lo,some hi,some mx=>Vj P t a lo hi mx
  |_,_,_,_=>none
 |.fieldAddr s x f=>match DN x,P.underlying s with
  |some a,some (.struct fields)=>match fields[f]? with
   |some fd=>match DZ P fd.type with
    |some n=>if n=0 then none else some (.fld fd.offset a)
    |none=>none
   |none=>none
  |_,_=>none
 |.field s x f=>match DN x,P.underlying s with
  |some a,some (.struct fields)=>match fields[f]? with
   |some fd=>match DZ P fd.type,Ee P fd.type with
    |some n,some ag=>some (.fldv fd.offset n ag a)
    |_,_=>none
   |none=>none
  |_,_=>none
 |.indexAddr t x i=>match DN x,DN i,P.underlying t with
  |some a,some i,some (.array len e)=>(DZ P e).map fun n=>.idxA len n a i
  |some a,some i,some (.slice e)=>(DZ P e).map fun n=>.idxS n a i
  |_,_,_=>none
 |.index t x i=>match DN x,DN i,P.underlying t with
  |some a,some i,some (.array len e)=>match DZ P e,Ee P e with
   |some n,some ag=>some (.idxV len n ag a i)
   |_,_=>none
  |some a,some i,some .string=>some (.idx a i)
  |_,_,_=>none
 |.extract x i=>(DN x).map fun a=>.ext a i
 |.makeMap t none=>match MP P t with
  |some (_,_,sz,_)=>some (.mkmap sz)
  |none=>none
 |.mapUpdate t m k v | .insert t m k v=>match MP P t,DN m,DN k,DN v with
  |some (_,_,sz,ks),some m,some k,some v=>some (.mapup sz ks m k v)
  |_,_,_,_=>none
 |.lookup t m k ok=>match MP P t,DN m,DN k with
  |some (_,et,sz,ks),some m,some k=>(GR P et).map fun zd=>.mapget sz ks ok zd m k
  |_,_,_=>match UL P t,DN m,DN k with
   |some zd,some m,some k=>some (.mapget 0 [] ok zd m k)
   |_,_,_=>none
 |.call c=>match c.callee with
  |.builtin b=>Sl P b c.args.toList c.argTypes.toList
  |.value (.func f)=>match P.funcs[f]?,Hi c.args.toList with
   |some fn,some l=>if fn.body.isSome && !(fn.name == "runtime.NumGoroutine") && decide (f<50000000)then some (if il.contains (f+1000000)then .mcall f l else if il.contains (f+90000000)then .rcall f l else if il.contains f then .icall f l else .call f l)else if fn.body.isSome then none else some (.call (f+50000000) l)
   |_,_=>none
  |.value x=>match DN x,Hi c.args.toList with
   |some a,some l=>some (.callv a l)
   |_,_=>none
  |_=>none
 |.makeFunc (.func f) first caps=>if decide (f<5000000)then(if first.isEmpty then(Hi caps.toList).map (.mkclo f)else if caps.isEmpty then(Hi first.toList).map (.mkclo (f+5000000))else none)else none
 |_=>none
def Contract(P:Program)(G:Dh)(f:Nat)(sp:List D→Option D):Prop:=
 ∀ (w:World) (g:Ghost) (ds:List D) (vs:List Value) (d:D),sp ds=some d→GlobOK G w g→(∀ b o,g.Im b o→(w.cell? ⟨b,o,none⟩).isSome=true)→ds.length=vs.length→
  (∀ (i:Nat) d v,ds[i]?=some d→vs[i]?=some v→RepV w g [] d v)→(∀ d∈ds,purA d=true)→
  Calls P f vs.toArray w fun e w'=>∃ v g',e=.returned v∧RepV w' g' [] d v∧purR d=true∧ImLe w g w' g'∧(∀ b o,g'.Im b o→g.Im b o∨w.heap.size≤b)∧
   (∀ b o,g'.Im b o→(w'.cell? ⟨b,o,none⟩).isSome=true)∧Below w.heap.size w w'
def IContract(P:Program)(G:Dh)(f:Nat)(sp:List D→St→Option (D×St)):Prop:=
 (∃ fn,P.funcs[f]?=some fn∧fn.body.isSome=true∧(fn.name == "runtime.NumGoroutine")=false)∧
 ∀ (base:Nat) (w:World) (g:Ghost) (st st':St) (ds:List D) (vs:List Value) (d:D),sp ds st=some (d,st')→SR base w g st→GlobOK G w g→ds.length=vs.length→
  (∀ (i:Nat) d v,ds[i]?=some d→vs[i]?=some v→RepV w g st d v)→
  Calls P f vs.toArray w fun e w'=>∃ v g',e=.returned v∧Go1 base w g st w' g' st'∧RepV w' g' st' d v
def iI(P:Program)(base:Nat)(w:World)(g:Ghost)(st st':St)(l:Nat)(vs:List Value)(d:D):Prop:=
 ∃ f tmps assign body,(Instr.yield l vs.toArray).run P w=.ok (.round l f tmps assign body) w∧
  RoundIn Fence.wide 0 P l f tmps assign body w fun e w'=>∃ v g',e=.returned v∧Go1 base w g st w' g' st'∧RepV w' g' st' d v
def YOK(P:Program)(G:Dh)(y:Nat→List D→St→Option (D×St))(base:Nat)(w0:World)(g0:Ghost)(st0:St):Prop:=
 ∀ (l:Nat) (w:World) (g:Ghost) (st st':St) (ds:List D) (vs:List Value) (d:D),Go1 base w0 g0 st0 w g st→GlobOK G w g→y l ds st=some (d,st')→ds.length=vs.length→
  (∀ (i:Nat) d v,ds[i]?=some d→vs[i]?=some v→RepV w g st d v)→iI P base w g st st' l vs d
def O5(P:Program)(G:Dh)(f:Nat)(sp:(List D→St→Option (D×St))→List D→St→Option (D×St)):Prop:=
 (∃ fn,P.funcs[f]?=some fn∧fn.body.isSome=true∧(fn.name == "runtime.NumGoroutine")=false)∧
 ∀ (base:Nat) (w:World) (g:Ghost) (st st':St) (ds:List D) (vs:List Value) (d:D) (l:Nat) (y:List D→St→Option (D×St)),YOK P G (fun l' ds st=>if l'=l then y ds st else none) base w g st→
  sp y ds st=some (d,st')→SR base w g st→GlobOK G w g→ds.length=vs.length→(∀ (i:Nat) d v,ds[i]?=some d→vs[i]?=some v→RepV w g st d v)→
  Calls P f (Value.func (.yield l) #[] #[]::vs).toArray w fun e w'=>∃ v g',e=.returned v∧Go1 base w g st w' g' st'∧RepV w' g' st' d v
def ly(P:Program)(f:Nat)(sp:List D→Option D):Prop:=
 ∀ (ys:List D) (r:D),sp ys=some r→∀ (w:World) (g:Ghost) (st:St) (vs:List Value),ys.length=vs.length→(∀ (i:Nat) y v,ys[i]?=some y→vs[i]?=some v→RepV w g st y v)→
  ∃ v,(callFunc f vs.toArray).run P w=.ok (.value v) w∧∀ (g:Ghost) (st:St),RepV w g st r v
def K9:D→Value
 |.int k n=>.int k n
 |_=>undef
def MU:D→Value
 |.agg l=>.agg (l.map K9).toArray
 |d=>K9 d
def KQ(t:Nat)(d:D):List PanicEntry:=[{v:=.iface t (MU d),recovered:=false}]
variable {v:Value}{d:D}{g:Ghost}{w:World}
theorem pq{st:St}(h:RepV w g st d v)(hi:QS d=true):v=K9 d:=by
 cases h <;> first | rfl | (simp[QS]at hi; done)
theorem tR{st:St}(h:RepV w g st d v)(hi:K7 d=true):v=MU d:=by
 cases h with
 |int k n=>rfl
 |agg ds vs hl hv=>
  have:vs=ds.map K9:=by
   apply List.ext_getElem (by simp[hl]);intro i E J;have u:i<ds.length:=by omega
   have I:ds[i]?=some ds[i]:=Af u;have:=pq (hv i ds[i] vs[i] I (Af E)) (Ag.1 hi _ (Bj u));grind
  rw[this]; rfl
 |_=>simp[K7,QS]at hi
def kW(P:Program)(G:Dh)(f:Nat)(sp:List D→St→Option (Nat×D×St)):Prop:=
 (∃ fn,P.funcs[f]?=some fn∧fn.body.isSome=true∧(fn.name == "runtime.NumGoroutine")=false)∧
 ∀ (base:Nat) (w:World) (g:Ghost) (st st':St) (ds:List D) (vs:List Value) (t:Nat) (d:D),sp ds st=some (t,d,st')→SR base w g st→GlobOK G w g→ds.length=vs.length→
  (∀ (i:Nat) d v,ds[i]?=some d→vs[i]?=some v→RepV w g st d v)→
  Calls P f vs.toArray w fun e w'=>∃ g',e=.panicked (KQ t d)∧Go1 base w g st w' g' st'
structure TblOK (P:Program) (G:Dh) (T:Tbl):Prop where
 p:∀ f sp,T.p f=some sp→(f<50000000∧Contract P G f sp)∨∃ f',f=f'+50000000∧ly P f' sp
 i:∀ f sp,T.i f=some sp→IContract P G f sp
 m:∀ f sp,T.m f=some sp→IContract P G f (fun ds st=>(sp ds).map fun r=>(r.1 st.length,st++r.2 st.length))
 r:∀ f sp,T.r f=some sp→O5 P G f sp
 x:∀ f sp,T.x f=some sp→kW P G f sp
 q:∀ f sp,T.q f=some sp→IContract P G f (fun ds st=>(G8 sp ds st).map (·,st))
variable {st':St}{g':Ghost}{w':World}
section
variable {P:Program} {base:Nat} {w:World} {g:Ghost} {st:St}
theorem NQ(st:St)(k:Nat)(key:Nat):(st.modify k fun o=>{o with lent:=true})[key]?=(st[key]?).map fun o=>if k=key then {o with lent:=true} else o:=by
 grind
theorem bU(st:St)(k key tot off len:Nat):Gy (st.modify k fun o=>{o with lent:=true}) key tot off len=Gy st key tot off len:=by
 unfold Gy;grind
theorem ue(st:St)(k key off n sz:Nat)(ag:Bool):G0 (st.modify k fun o=>{o with lent:=true}) key off n sz ag=G0 st key off n sz ag:=by
 unfold G0 JI;grind
theorem aU(st:St)(k:Nat)(d:D):DD (st.modify k fun o=>{o with lent:=true}) d=DD st d:=by
 cases d <;> simp only[DD,bU,ue]
theorem aV(st:St)(k:Nat):∀ (l:List D),D3 (st.modify k fun o=>{o with lent:=true}) l=D3 st l
 |[]=>rfl
 |d::l=>by simp only[D3,aU,aV st k l]
theorem sW(st:St)(k:Nat)(d:D):D4 (st.modify k fun o=>{o with lent:=true}) d=D4 st d:=by
 cases d <;> simp only[D4,aU,aV]
theorem SA(st:St)(k:Nat):∀ (l:List D),D2 (st.modify k fun o=>{o with lent:=true}) l=D2 st l
 |[]=>rfl
 |d::l=>by simp only[D2,sW,SA st k l]
theorem jw(l:List D):∀ (ks:List Nat) (st:St),D2 (lend ks st) l=D2 st l
 |[],_=>rfl
 |k::r,st=>by rw[lend,jw l r,SA]
theorem sH(ks:List Nat){g:Ghost}{st:St}(J:∀ (k:Nat) o',st'[k]?=some o'→∃ o,st[k]?=some o∧o'.els=o.els∧o'.sz=o.sz∧o'.row=o.row)(hb:g'.β=g.β)
  (h:∀ k∈ks,∀ o,st[k]?=some o→o.isMap=false→∀ x,x<o.els.length*o.sz→g'.Im (g.β k) x):IX g' st' ks:=by
 intro k hk o' u hm x E;obtain⟨o,M,N,I,O⟩:=J k o' u;rw[N,I]at E;rw[hb];exact h k hk o M ((Mq O I).symm.trans hm) x E
theorem gE:∀ (ks:List Nat) (st:St) (k:Nat) (o':Obj),(lend ks st)[k]?=some o'→∃ o,st[k]?=some o∧o'.els=o.els∧o'.sz=o.sz∧o'.row=o.row
 |[],_,_,o',h=>⟨o',h,rfl,rfl,rfl⟩
 |q::r,st,k,o',h=>by
  obtain⟨o1,u,E,I,J⟩:=gE r _ k o' h;grind
theorem OW(E:SR base w g st){ds ys:List D}(h:D2 st ds=some ys):∃ g',Go1 base w g st w g' (lend (ds.flatMap keys) st)∧g'.β=g.β∧ys.length=ds.length∧(∀ y∈ys,purA y=true)∧
  ∀ (i:Nat) y v,ys[i]?=some y→(∀ d,ds[i]?=some d→RepV w g st d v)→RepV w g' (lend (ds.flatMap keys) st) y v:=by
 obtain⟨g',u,hb,_,hl⟩:=E.lend (ds.flatMap keys);have I:=sH (ds.flatMap keys) (gE (ds.flatMap keys) st) hb hl;obtain⟨J,M,N⟩:=gv u.sr ((jw ds _ st).trans h) I;exact⟨g',u,hb,J,N,fun i y v O hv=>M i y v O fun d U=>u.rep (hv d U)⟩
theorem SE(h:RepV w g st d v)(u:d.noRef1=true):RepV w' g' st' d v:=by
 cases h <;> first | exact .int _ _ | exact .bool _ | exact .str _ | (simp[D.noRef1]at u; done)
theorem j3(h:RepV w g st d v)(E:d.noRef=true):RepV w' g' st' d v:=by
 cases d with
 |agg l=>
  cases h with
  |agg _ vs I J=>
   simp only[D.noRef,Ag]at E;exact .agg l vs I fun i d v u hv=>SE (J i d v u hv) (E d (Ah u))
 |tup l=>
  cases h with
  |tup _ vs I J=>
   simp only[D.noRef,Ag]at E;refine .tup l vs I fun i d v u hv=>?_;have M:=E d (Ah u);have N:=J i d v u hv
   cases d with
   |agg U=>
    cases N with
    |agg _ O V X=>
     simp only[Ag]at M;exact .agg U O V fun i d v u hv=>SE (X i d v u hv) (M d (Ah u))
   |_=>exact SE N M
 |_=>exact SE h E
end
end Go.Proofs.YtijnglngaogdjaaGreatDoor.PI
namespace Go.Proofs.YtijnglngaogdjaaGreatDoor.PI
open Go Go.RowKit
variable {s:Sem Value}{v:Value}{t:TypeId}{f len off:Nat}{vs:List Value}{ds ys:List D}{T:Tbl}{G:Dh}{sp:List D→St→Option (D×St)}{p:POp}{fr:Frame}{dst:Option Tmp}{parts:Array (Nat×Operand)}{x:Operand}{c:Call}{r:Option Nat}
section
variable {P:Program} {il:List Nat} {base:Nat} {w:World} {g:Ghost} {st st':St} {a:Act} {o:Oper} {next:Act→World→Prop} {Q:Exit→Act→World→Prop} {d:D}
theorem KO(u:execOp a.eval o=(do pure (.value (← s))))(E:RunsTo P base w g st s d st')
  (I:∀ v w' g',Go1 base w g st w' g' st'→RepV w' g' st' d v→next (a.put o.dst v) w'):o.wp P a w next Q:=by
 obtain⟨v,w',g',J,M,N⟩:=E;unfold Oper.wp;rw[u];simp only[Sem.run_bind,J,Result.andThen_ok,Sem.run_pure];exact I v w' g' M N
theorem RunsTo.congr{s':Sem Value}(h:s.run P w=s'.run P w)(u:RunsTo P base w g st s' d st'):RunsTo P base w g st s d st':=by
 obtain⟨v,w',g',E,I,J⟩:=u;exact⟨v,w',g',h.trans E,I,J⟩
theorem FL(u:SR base w g st)(E:execOp a.eval o=(do pure (.value (← s))))(I:s.run P w=.ok v w)(J:RepV w g st d v)
  (M:∀ v w' g',Go1 base w g st w' g' st→RepV w' g' st d v→next (a.put o.dst v) w'):o.wp P a w next Q:=
 KO E (.still u I J) M
theorem bW{J:Nat→Option (Nat×Nat)}{ρ:PA→D}{E:Operand→Value}(M:∀ x u,DN x=some u→RepV w g st (ρ u) (E x)):∀ {l:List (Nat×Operand)} {ps:List (Nat×Nat×PA)},Nv J l=some ps→
  ∃ qs:List (Nat×Nat×Nat×D×Value),qs.map (fun p=>(p.2.1,p.2.2.1,p.2.2.2.1))=ps.map (fun p=>(p.1,p.2.1,ρ p.2.2))∧qs.map (fun p=>(p.1,p.2.2.2.2))=l.map (fun p=>(p.1,E p.2))∧
   (∀ p∈qs,J p.1=some (p.2.1,p.2.2.1))∧∀ p∈qs,RepV w g st p.2.2.2.1 p.2.2.2.2
 |[],ps,h=>by simp[Nv]at h; subst h; exact⟨[],rfl,rfl,fun p I=>(by cases I),fun p I=>(by cases I)⟩
 |(i,x)::r,ps,h=>by
  unfold Nv at h
  split at h
  ·rename_i off size u l V X N;simp only[C9]at h; subst h;obtain⟨qs,O,U,Y,e4⟩:=bW M N;refine⟨(i,off,size,ρ u,E x)::qs,by simp[O],by simp[U],?_,?_⟩
   ·grind
   ·grind
  ·cases h
theorem bV{ρ:PA→D}{u:Operand→Value}(I:∀ x E,DN x=some E→RepV w g st (ρ E) (u x)):∀ {k:Nat} {l:List (Nat×Operand)} {ps:List PA},OA k l=some ps→
  ∃ vs:List Value,l.map (fun p=>(p.1,u p.2))=(vs.zipIdx k).map (fun x=>(x.2,x.1))∧vs.length=ps.length∧∀ (i:Nat) d v,(ps.map ρ)[i]?=some d→vs[i]?=some v→RepV w g st d v
 |k,[],ps,h=>by simp[OA]at h; subst h; exact⟨[],rfl,rfl,fun i d v h=>by simp at h⟩
 |k,(i,x)::r,ps,h=>by
  unfold OA at h
  split at h
  ·rename_i E l O J;simp only[Am,C9]at h;obtain⟨rfl,rfl⟩:=h;obtain⟨vs,M,N,U⟩:=bV I J;refine⟨u x::vs,by simp[M],by simp[N],?_⟩;grind
  ·cases h
theorem My{ρ:PA→D}{E:Operand→Value}(I:∀ x u,DN x=some u→RepV w g st (ρ u) (E x)):∀ {l:List Operand} {ps:List PA},Hi l=some ps→
  ps.length=l.length∧∀ (i:Nat) d v,(ps.map ρ)[i]?=some d→(l.map E)[i]?=some v→RepV w g st d v
 |[],ps,h=>by simp[Hi]at h; subst h; exact⟨rfl,fun i d v h=>by simp at h⟩
 |x::r,ps,h=>by
  unfold Hi at h
  split at h
  ·rename_i u l M J;simp only[C9]at h; subst h;obtain⟨N,O⟩:=My I J;grind
  ·cases h
theorem p8(a1:SR base w g st){zs:List D}{M:Nat→Option (Nat×Nat)}{l:List (Nat×Operand)}{ps:List (Nat×Nat×PA)}{ρ:PA→D}{U:Operand→Value}{parts:Array (Nat×Value)}{cs:List D}
  (V:∀ x X,DN x=some X→RepV w g st (ρ X) (U x)) (I:GR P t=some (.agg zs)) (u:XX P t=some M) (hp:Nv M l=some ps) (Y:parts.toList=l.map fun p=>(p.1,U p.2))
  (h:Fi zs (ps.map fun p=>(p.1,p.2.1,ρ p.2.2))=some cs):∃ v,(Instr.build t parts).run P w=.ok v w∧RepV w g st (.agg cs) v:=by
 obtain⟨qs,e1,e2,e3,e4⟩:=bW V hp;unfold GR at I
 split at I
 case h_2=>cases I
 rename_i i hi
 split at I
 case h_2=>cases I
 rename_i z J;obtain⟨vs,rfl,hl,hr⟩:=wm (w:=w) (g:=g) (st:=st) I rfl;obtain⟨E,h1,h2,h3⟩:=jf (place:=M) qs zs vs.toArray cs (by rw[e1]; exact h) e3 e4 (by simpa using hl) (fun j d v N hv=>hr j d v N (by simpa using hv));refine⟨.agg E,?_,?_⟩
 ·refine run_build w t parts E ?_;unfold Program.built;unfold XX at u;rw[hi]
  split at u
  ·rename_i n e hu
   split at u
   ·rename_i ie aa;simp only[C9]at u;subst u;simp only[hu,J,aa,Value.cells];grind
   ·cases u
  ·rename_i fields hu
   split at u
   ·rename_i places O;simp only[C9]at u;subst u;simp only[hu,J,O,Value.cells];grind
   ·cases u
  ·cases u
 ·have:=RepV.agg (w:=w) (g:=g) (st:=st) cs E.toList (by simpa using h2) (fun i d v N hv=>h3 i d v N (by simpa using hv));omega
theorem Yib{key:Nat}(h:RepV w g st (.ptr key off) v):∃ q,v=.pointer (some q):=by cases h; exact⟨_,rfl⟩
theorem Ydo{u:D}(h:RepV w g st (.eptr u off) v):∃ q,v=.pointer (some q):=by cases h; exact⟨_,rfl⟩
theorem Yku(I:SR base w g st){sp:List D→Option D}{r:D}(X:ly P f sp)(hi:D2 st ds=some ys)(Y:sp ys=some r)(hl:ds.length=vs.length)
  (E:∀ (i:Nat) d v,ds[i]?=some d→vs[i]?=some v→RepV w g st d v) (he:execOp a.eval o=callFunc f vs.toArray)
  (J:∀ v w' g',Go1 base w g st w' g' (if r.noRef then st else lend (ds.flatMap keys) st)→RepV w' g' (if r.noRef then st else lend (ds.flatMap keys) st) r v→next (a.put o.dst v) w'):o.wp P a w next Q:=by
 obtain⟨g1,M,_,N,V,O⟩:=OW I hi;obtain⟨v,h1,U⟩:=X ys r Y w g1 _ vs (N.trans hl) (fun i y v hy hv=>O i y v hy (fun d hd=>E i d v hd hv));unfold Oper.wp;rw[he,h1]
 by_cases u:r.noRef=true
 ·exact J v w g (by rw[if_pos u]; exact Go1.refl I) (U _ _)
 ·exact J v w g1 (by rw[if_neg u]; exact M) (U _ _)
theorem Yd1(hT:TblOK P G T)(hS:SR base w g st)(hG:GlobOK G w g){fn:Func}{sp:List D→Option D}{r:D}(hfn:P.funcs[f]?=some fn)(hb:fn.body.isSome=true)(hname:(fn.name == "runtime.NumGoroutine")=false)(hf5:f<50000000)
  (hsp:T.p f=some sp) (hi:D2 st ds=some ys) (hr:sp ys=some r) (hl:ds.length=vs.length) (hrep:∀ (i:Nat) d v,ds[i]?=some d→vs[i]?=some v→RepV w g st d v)
  (he:execOp a.eval o=callFunc f vs.toArray)
  (hn:∀ v w' g',Go1 base w g st w' g' (if r.noRef then st else lend (ds.flatMap keys) st)→RepV w' g' (if r.noRef then st else lend (ds.flatMap keys) st) r v→next (a.put o.dst v) w'):o.wp P a w next Q:=by
 obtain⟨g1,hgo,_,hyl,hpure,hyr⟩:=OW hS hi;have hC:Contract P G f sp:=((hT.p f sp hsp).resolve_right (fun⟨f',e,_⟩=>by omega)).2;have hc:=hC w g1 ys vs r hr (hG.mono hgo.im) hgo.sr.im (hyl.trans hl) (fun i y v hy hv=>(hyr i y v hy (fun d hd=>hrep i d v hd hv)).purA (ImLe.refl _ _) (hpure y (Ah hy))) hpure;unfold Oper.wp;rw[he]
 have hrun:(callFunc f vs.toArray).run P w=.ok (.enter f vs.toArray) w:=by
  have hbn:¬ fn.body=none:=by
   grind
  have hn':¬ fn.name= "runtime.NumGoroutine":=by simpa using hname
  simp[callFunc,hfn,hn',hbn]
 rw[hrun,Oper.upon_enter];refine hc.mono ?_;rintro e w' ⟨v,g',rfl,h1,h2,h3,h4,h5,h6⟩;have hbes:Beside w w':=⟨h6.os,h6.tape,h6.output,h6.size⟩
 by_cases hnr:r.noRef=true
 ·refine hn v w' {g with Im:=g.Im} ?_ (by rw[if_pos hnr]; exact j3 h1 hnr);rw[if_pos hnr];refine hS.more hbes h6.block (fun _ _ h=>h) (fun _ _ h=>.inl h) (fun b o hb=>?_);have:w'.cell? ⟨b,o,none⟩=w.cell? ⟨b,o,none⟩:=by simp only[World.cell?,h6.block b (hS.im_lt hb)]
  rw[this]; exact hS.im b o hb
 ·refine hn v w' {g1 with Im:=g'.Im} ?_ ?_
  ·rw[if_neg hnr];exact hgo.trans (hgo.sr.more hbes h6.block (fun b o h=>(h3.im b o h).1) (fun b o h=>h4 b o h) h5)
  ·exact RepV.purR (g:=g') (g':={g1 with Im:=g'.Im}) ⟨fun b o h=>⟨h,rfl⟩,fun _ _ h _=>h⟩ h1 h2
theorem Ww(hC:IContract P G f sp)(hS:SR base w g st)(hG:GlobOK G w g){r:D}
  (hr:sp ds st=some (r,st')) (hl:ds.length=vs.length) (hrep:∀ (i:Nat) d v,ds[i]?=some d→vs[i]?=some v→RepV w g st d v)
  (he:execOp a.eval o=callFunc f vs.toArray)
  (hn:∀ v w' g',Go1 base w g st w' g' st'→RepV w' g' st' r v→next (a.put o.dst v) w'):o.wp P a w next Q:=by
 obtain⟨⟨fn,hfn,hb,hname⟩,hc⟩:=hC;unfold Oper.wp;rw[he]
 have hrun:(callFunc f vs.toArray).run P w=.ok (.enter f vs.toArray) w:=by
  have hbn:¬ fn.body=none:=by
   grind
  have hn':¬ fn.name= "runtime.NumGoroutine":=by simpa using hname
  simp[callFunc,hfn,hn',hbn]
 rw[hrun,Oper.upon_enter];refine(hc base w g st st' ds vs r hr hS hG hl hrep).mono ?_;grind
theorem VY(I:TblOK P G T)(J:SR base w g st)(M:GlobOK G w g){r:D}
  (E:T.i f=some sp) (N:sp ds st=some (r,st')) (hl:ds.length=vs.length) (u:∀ (i:Nat) d v,ds[i]?=some d→vs[i]?=some v→RepV w g st d v)
  (O:execOp a.eval o=callFunc f vs.toArray)
  (U:∀ v w' g',Go1 base w g st w' g' st'→RepV w' g' st' r v→next (a.put o.dst v) w'):o.wp P a w next Q:=Ww (I.i f sp E) J M N hl u O U
theorem uN{sp:List D→St→Option (Nat×D×St)}(hC:kW P G f sp)(hS:SR base w g st)(hG:GlobOK G w g){t:Nat}{d:D}
  (hr:sp ds st=some (t,d,st')) (hl:ds.length=vs.length) (hrep:∀ (i:Nat) d v,ds[i]?=some d→vs[i]?=some v→RepV w g st d v)
  (he:execOp a.eval o=callFunc f vs.toArray)
  (hn:∀ w' g',Go1 base w g st w' g' st'→Q (.panic (KQ t d)) a w'):o.wp P a w next Q:=by
 obtain⟨⟨fn,hfn,hb,hname⟩,hc⟩:=hC;unfold Oper.wp;rw[he]
 have hrun:(callFunc f vs.toArray).run P w=.ok (.enter f vs.toArray) w:=by
  have hbn:¬ fn.body=none:=by
   grind
  have hn':¬ fn.name= "runtime.NumGoroutine":=by simpa using hname
  simp[callFunc,hfn,hn',hbn]
 rw[hrun,Oper.upon_enter];refine(hc base w g st st' ds vs t d hr hS hG hl hrep).mono ?_;grind
theorem Yah(x:Operand){ty:TypeId}{pos:String}{after:Array Edge}{guard:Option (Nat×Bool)}(X:TblOK P G T)(O:SR base w g st)(U:GlobOK G w g)(E:FR w g st fr a)(I:Dp P il (.move x)=some p)
  (J:p.exec T (Dn G fr) st=some (d,st')) (V:∀ v w' g',Go1 base w g st w' g' st'→RepV w' g' st' d v→next (a.put dst v) w'):Oper.wp P {dst:=dst,op:=.move x,type:=ty,pos:=pos,after:=after,guard:=guard} a w next Q:=by
 have M:∀ x u,DN x=some u→RepV w g st (Dn G fr u) (a.eval x):=fun x u h=>F3 U E h;clear E;simp only[Dp,DA]at I;obtain⟨u,N,rfl⟩:=I;simp only[POp.exec,C9,Dr]at J;obtain⟨rfl,rfl⟩:=J;exact FL (s:=pure (a.eval x)) O (by simp[execOp]) rfl (M x u N) V
theorem vY(x:Operand){ty:TypeId}{pos:String}{after:Array Edge}{guard:Option (Nat×Bool)}(X:TblOK P G T)(O:SR base w g st)(U:GlobOK G w g)(E:FR w g st fr a)(I:Dp P il (.assign x)=some p)
  (J:p.exec T (Dn G fr) st=some (d,st')) (V:∀ v w' g',Go1 base w g st w' g' st'→RepV w' g' st' d v→next (a.put dst v) w'):Oper.wp P {dst:=dst,op:=.assign x,type:=ty,pos:=pos,after:=after,guard:=guard} a w next Q:=by
 have M:∀ x u,DN x=some u→RepV w g st (Dn G fr u) (a.eval x):=fun x u h=>F3 U E h;clear E;simp only[Dp,DA]at I;obtain⟨u,N,rfl⟩:=I;simp only[POp.exec,C9,Dr]at J;obtain⟨rfl,rfl⟩:=J;exact FL (s:=pure (a.eval x)) O (by simp[execOp]) rfl (M x u N) V
theorem Yag(c x y:Operand){ty:TypeId}{pos:String}{after:Array Edge}{guard:Option (Nat×Bool)}(Y:TblOK P G T)(O:SR base w g st)(U:GlobOK G w g)(M:FR w g st fr a)(u:Dp P il (.pick c x y)=some p)
  (E:p.exec T (Dn G fr) st=some (d,st')) (V:∀ v w' g',Go1 base w g st w' g' st'→RepV w' g' st' d v→next (a.put dst v) w'):Oper.wp P {dst:=dst,op:=.pick c x y,type:=ty,pos:=pos,after:=after,guard:=guard} a w next Q:=by
 have N:∀ x J,DN x=some J→RepV w g st (Dn G fr J) (a.eval x):=fun x J h=>F3 U M h;clear M;simp only[Dp]at u
 split at u
 ·rename_i pc px py X h2 h3;simp only[C9]at u; subst u;simp only[POp.exec]at E
  split at E
  ·rename_i b hb;simp only[C9,Dr]at E;obtain⟨rfl,rfl⟩:=E;have I:=N c pc X;rw[hb]at I;have I:=JN I;refine FL (s:=pure (if b then a.eval x else a.eval y)) O (by simp[execOp,I,asBool]) rfl ?_ V;grind
  ·cases E
 ·cases u
theorem tD(t:TypeId){ty:TypeId}{pos:String}{after:Array Edge}{guard:Option (Nat×Bool)}(Y:TblOK P G T)(U:SR base w g st)(V:GlobOK G w g)(M:FR w g st fr a)(N:Dp P il (.alloc t)=some p)
  (E:p.exec T (Dn G fr) st=some (d,st')) (X:∀ v w' g',Go1 base w g st w' g' st'→RepV w' g' st' d v→next (a.put dst v) w'):Oper.wp P {dst:=dst,op:=.alloc t,type:=ty,pos:=pos,after:=after,guard:=guard} a w next Q:=by
 have aa:∀ x I,DN x=some I→RepV w g st (Dn G fr I) (a.eval x):=fun x I h=>F3 V M h;clear M;simp only[Dp,DA]at N;obtain⟨zd,u,rfl⟩:=N;simp only[POp.exec]at E
 split at E
 case isFalse=>cases E
 rename_i J
 replace J:zd.cells.all D.isCell=true:=J
 simp only[C9,Dr]at E;obtain⟨rfl,rfl⟩:=E;unfold GR at u
 split at u
 case h_2=>cases u
 rename_i i hi
 split at u
 case h_2=>cases u
 rename_i z O;refine KO (s:=Instr.alloc t true (.tuple #[])) rfl (RunsTo.congr ?_ (ej (t:=t) U J (NN u))) X;simp[Instr.alloc,zeroValue,typeInfo,hi,O]
theorem Yhv(t:TypeId)(x:Operand){ty:TypeId}{pos:String}{after:Array Edge}{guard:Option (Nat×Bool)}(Y:TblOK P G T)(O:SR base w g st)(U:GlobOK G w g)(I:FR w g st fr a)(J:Dp P il (.box t x)=some p)
  (u:p.exec T (Dn G fr) st=some (d,st')) (V:∀ v w' g',Go1 base w g st w' g' st'→RepV w' g' st' d v→next (a.put dst v) w'):Oper.wp P {dst:=dst,op:=.box t x,type:=ty,pos:=pos,after:=after,guard:=guard} a w next Q:=by
 have M:∀ x E,DN x=some E→RepV w g st (Dn G fr E) (a.eval x):=fun x E h=>F3 U I h;clear I;simp only[Dp,DA]at J;obtain⟨E,N,rfl⟩:=J;simp only[POp.exec]at u
 split at u
 case isFalse=>cases u
 rename_i X;simp only[C9,Dr]at u;obtain⟨rfl,rfl⟩:=u;exact KO (s:=Instr.box t (a.eval x)) rfl (RunsTo.congr rfl (ej (t:=t) O X (M x E N))) V
theorem tF(t:TypeId)(parts:Array (Nat×Operand)){ty:TypeId}{pos:String}{after:Array Edge}{guard:Option (Nat×Bool)}(ad:TblOK P G T)(I:SR base w g st)(O:GlobOK G w g)(J:FR w g st fr a)(u:Dp P il (.build t parts)=some p)
  (M:p.exec T (Dn G fr) st=some (d,st')) (U:∀ v w' g',Go1 base w g st w' g' st'→RepV w' g' st' d v→next (a.put dst v) w'):Oper.wp P {dst:=dst,op:=.build t parts,type:=ty,pos:=pos,after:=after,guard:=guard} a w next Q:=by
 have N:∀ x E,DN x=some E→RepV w g st (Dn G fr E) (a.eval x):=fun x E h=>F3 O J h;clear J;simp only[Dp]at u
 split at u
 case h_2=>cases u
 rename_i zs pl V X;simp only[DA]at u;obtain⟨ps,Y,rfl⟩:=u;simp only[POp.exec,DA,Dr]at M;obtain⟨cs,h4,rfl,rfl⟩:=M;obtain⟨v,h5,h6⟩:=p8 (P:=P) (parts:=parts.map fun(i,x)=>(i,a.eval x)) I N V X Y (by simp) h4;exact FL I rfl h5 h6 U
theorem cF(hS:SR base w g st)(hG:GlobOK G w g)(V:FR w g st fr a)(u:Dp P il (.buildSlice t len parts)=some p)
  (E:p.exec T (Dn G fr) st=some (d,st')):∃ ps,(∀ (dst:Option Tmp) (ty:TypeId) (pos:String) (after:Array Edge) (guard:Option (Nat×Bool)),execOp a.eval {dst:=dst,op:=.buildSlice t len parts,type:=ty,pos:=pos,after:=after,guard:=guard}=(do pure (.value (← Instr.buildSlice t len ps))))∧∃ v w' g',(Instr.buildSlice t len ps).run P w=.ok v w'∧Go1 base w g st w' g' st'∧RepV w' g' st' d v∧l4 base w' g' st' v:=by

 have X:∀ x N,DN x=some N→RepV w g st (Dn G fr N) (a.eval x):=fun x N h=>F3 hG V h;clear V;simp only[Dp]at u
 split at u
 case h_2=>cases u
 rename_i e hu
 split at u
 case h_2=>cases u
 rename_i i hi
 split at u
 case h_2=>cases u
 rename_i z l hz hl;simp only[Am,C9]at u;obtain⟨hlen,rfl⟩:=u;simp only[POp.exec]at E
 split at E
 case h_2=>cases E
 rename_i els O
 split at E
 case isFalse=>cases E
 rename_i I;simp only[C9,Dr]at E;obtain⟨rfl,rfl⟩:=E;simp only[Ac,decide_eq_true_eq,Ag,beq_iff_eq]at I;obtain⟨vs,e1,Y,e3⟩:=bV X hl;obtain⟨g1,J,_,h1,h2,h3⟩:=OW hS O;have U:∀ (i:Nat) d v,els[i]?=some d→vs[i]?=some v→RepV w g1 (lend ((l.map (Dn G fr)).flatMap keys) st) d v:=fun i d v hd hv=>h3 i d v hd fun d' aa=>e3 i d' v aa hv;have ab:els.length=vs.length:=by rw[h1,A2,Y]
 have M:(parts.map fun(i,x)=>(i,a.eval x)).toList=(vs.zipIdx 0).map fun x=>(x.2,x.1):=by rw[← e1]; simp
 generalize ac:(parts.map fun(i,x)=>(i,a.eval x))=ps at M;obtain⟨v,w',g',r1,r2,r3,r4⟩:=pZ (len:=len) (parts:=ps) J.sr hu hi hz rfl I.1.2 h2 I.1.1 ab U I.2 (by rw[Y,← hlen]) M;exact⟨ps,fun _ _ _ _ _=>by simp only[execOp,ac],v,w',g',r1,J.trans r2,r3,r4⟩
theorem m5(t:TypeId)(len:Nat)(parts:Array (Nat×Operand)){ty:TypeId}{pos:String}{after:Array Edge}{guard:Option (Nat×Bool)}(V:TblOK P G T)(u:SR base w g st)(E:GlobOK G w g)(I:FR w g st fr a)(J:Dp P il (.buildSlice t len parts)=some p)
  (M:p.exec T (Dn G fr) st=some (d,st')) (N:∀ v w' g',Go1 base w g st w' g' st'→RepV w' g' st' d v→next (a.put dst v) w'):Oper.wp P {dst:=dst,op:=.buildSlice t len parts,type:=ty,pos:=pos,after:=after,guard:=guard} a w next Q:=by
 obtain⟨ps,he,v,w',g',r1,O,U,_⟩:=cF u E I J M;exact KO (s:=Instr.buildSlice t len ps) (he ..) ⟨v,w',g',r1,O,U⟩ N
theorem xx{e:TypeId}{d1:Nat}{d2:Option Nat}{ty ty2:TypeId}{pos pos2:String}{after after2:Array Edge}{guard guard2:Option (Nat×Bool)}{next2:Act→World→Prop}(X:SR base w g st)(Y:GlobOK G w g)(hF:FR w g st fr a)(ht:Dp P il (.buildSlice t len parts)=some p)
  (hu:P.underlying t=some (.slice e)) (E:P.underlying e=some (.int .u8)) (I:d1<a.tmps.size)
  (hx:p.exec T (Dn G fr) st=some (d,st')) (hn:∀ v w' g',Go1 base w g st w' g' st'→RepV w' g' st' d v→next2 ((a.put (some d1) v).put d2 v) w') :
  Oper.wp P {dst:=some d1,op:=.buildSlice t len parts,type:=ty,pos:=pos,after:=after,guard:=guard} a w (fun a' w'=>Oper.wp P {dst:=d2,op:=.convert t t (.tmp d1),type:=ty2,pos:=pos2,after:=after2,guard:=guard2} a' w' next2 Q) Q:=by
 obtain⟨ps,he,v,w',g',r1,J,r3,b,n,C,eC,rfl,hb,u,M⟩:=cF X Y hF ht hx;unfold Oper.wp;rw[he];simp only[Sem.run_bind,r1,Result.andThen_ok,Sem.run_pure,Oper.upon_value]
 have N:(a.put (some d1) (.slice (some ⟨b,0,none⟩) n n)).eval (.tmp d1)=.slice (some ⟨b,0,none⟩) n n:=by
  simp[Act.eval,Act.put,I]
 have O:execOp (a.put (some d1) (.slice (some ⟨b,0,none⟩) n n)).eval {dst:=d2,op:=.convert t t (.tmp d1),type:=ty2,pos:=pos2,after:=after2,guard:=guard2}=(do pure (.value (← convert t t (.slice (some ⟨b,0,none⟩) n n)))):=by
  simp only[execOp,N]
 rw[O]
 have U:(convert t t (.slice (some ⟨b,0,none⟩) n n)).run P w'=.ok (.slice (some ⟨b,0,none⟩) n n) (w'.freeze ⟨b,C.size,none⟩ 1):=by
  have V:w'.shape? b=some (eC,C.size):=by simp[World.shape?,hb]
  simp[convert,run_underlying hu,run_underlying E,markStringish,shape,freeze,Sem.run_bind,Sem.run,V,Result.andThen]
 simp only[Sem.run_bind,U,Result.andThen_ok,Sem.run_pure,Oper.upon_value];have hf:=r9 (m:=C.size) J.sr hb u M;exact hn _ _ g' (J.trans hf) (hf.rep r3)
theorem Yai(t:TypeId)(x:Operand){ty:TypeId}{pos:String}{after:Array Edge}{guard:Option (Nat×Bool)}(ad:TblOK P G T)(I:SR base w g st)(O:GlobOK G w g)(J:FR w g st fr a)(u:Dp P il (.load t x)=some p)
  (M:p.exec T (Dn G fr) st=some (d,st')) (U:∀ v w' g',Go1 base w g st w' g' st'→RepV w' g' st' d v→next (a.put dst v) w'):Oper.wp P {dst:=dst,op:=.load t x,type:=ty,pos:=pos,after:=after,guard:=guard} a w next Q:=by
 have N:∀ x E,DN x=some E→RepV w g st (Dn G fr E) (a.eval x):=fun x E h=>F3 O J h;clear J;simp only[Dp]at u
 split at u
 case h_2=>cases u
 rename_i E n ag V X Y;simp only[C9]at u; subst u;simp only[POp.exec,DA,Dr]at M;obtain⟨r,h4,rfl,rfl⟩:=M;obtain⟨v,h5,h6⟩:=jQ (P:=P) I Y X h4 (N x E V);exact FL (s:=Instr.loadAt t (a.eval x)) I rfl h5 h6 U
theorem tJ(t:TypeId)(x y:Operand){ty:TypeId}{pos:String}{after:Array Edge}{guard:Option (Nat×Bool)}(ae:TblOK P G T)(N:SR base w g st)(O:GlobOK G w g)(J:FR w g st fr a)(u:Dp P il (.store t x y)=some p)
  (M:p.exec T (Dn G fr) st=some (d,st')) (U:∀ v w' g',Go1 base w g st w' g' st'→RepV w' g' st' d v→next (a.put dst v) w'):Oper.wp P {dst:=dst,op:=.store t x y,type:=ty,pos:=pos,after:=after,guard:=guard} a w next Q:=by
 have I:∀ x E,DN x=some E→RepV w g st (Dn G fr E) (a.eval x):=fun x E h=>F3 O J h;clear J;simp only[Dp]at u
 split at u
 case h_2=>cases u
 rename_i E V n X Y h3;simp only[C9]at u; subst u;simp only[POp.exec,DA,Dr]at M;obtain⟨r,h4,rfl,rfl⟩:=M;obtain⟨w',g',h5,h6⟩:=tj (P:=P) N h3 h4 (I x E X) (I y V Y);unfold Oper.wp execOp;simp only[Sem.run_bind,h5,Result.andThen_ok,Sem.run_pure];exact U undef w' g' h6 (.tup [] [] rfl (fun i d v h=>by simp at h))
theorem xZ(x:Operand){ty:TypeId}{pos:String}{after:Array Edge}{guard:Option (Nat×Bool)}(ad:TblOK P G T)(hS:SR base w g st)(hG:GlobOK G w g)(N:FR w g st fr a)(O:Dp P il (.nilCheck x)=some p)
  (u:p.exec T (Dn G fr) st=some (d,st')) (hn:∀ v w' g',Go1 base w g st w' g' st'→RepV w' g' st' d v→next (a.put dst v) w'):Oper.wp P {dst:=dst,op:=.nilCheck x,type:=ty,pos:=pos,after:=after,guard:=guard} a w next Q:=by
 have U:∀ x I,DN x=some I→RepV w g st (Dn G fr I) (a.eval x):=fun x I h=>F3 hG N h;clear N;simp only[Dp,DA]at O;obtain⟨I,V,rfl⟩:=O;have E:=U x I V;simp only[POp.exec]at u
 have key:∀ q,a.eval x=.pointer (some q)→RepV w g st d (a.eval x)→st'=st→Oper.wp P {dst:=dst,op:=.nilCheck x,type:=ty,pos:=pos,after:=after,guard:=guard} a w next Q:=by
  intro q M X Y;subst Y;exact FL (s:=pure (a.eval x)) hS (by simp[execOp,M]) rfl X hn
 split at u
 ·rename_i key off J;simp only[C9,Dr]at u;obtain⟨rfl,rfl⟩:=u;rw[J]at E;obtain⟨q,M⟩:=Yib E;grind
 ·rename_i el off J;simp only[C9,Dr]at u;obtain⟨rfl,rfl⟩:=u;rw[J]at E;obtain⟨q,M⟩:=Ydo E;grind
 ·rename_i kk tot i off J
  split at u
  ·rename_i hl;simp only[C9,Dr]at u;obtain⟨rfl,rfl⟩:=u;rw[J]at E;obtain⟨ob,_,_,_,M⟩:=YX hl E;grind
  ·cases u
 ·cases u
theorem tE(op:BinOp)(t:TypeId)(x y:Operand)(O:TypeId){ty:TypeId}{pos:String}{after:Array Edge}{guard:Option (Nat×Bool)}(a5:TblOK P G T)(hS:SR base w g st)(hG:GlobOK G w g)(hF:FR w g st fr a)(M:Dp P il (.binOp op t x y O)=some p)
  (N:p.exec T (Dn G fr) st=some (d,st')) (hn:∀ v w' g',Go1 base w g st w' g' st'→RepV w' g' st' d v→next (a.put dst v) w'):Oper.wp P {dst:=dst,op:=.binOp op t x y O,type:=ty,pos:=pos,after:=after,guard:=guard} a w next Q:=by
 have I:∀ x E,DN x=some E→RepV w g st (Dn G fr E) (a.eval x):=fun x E h=>F3 hG hF h;clear hF;simp only[Dp]at M
 split at M
 case h_2=>cases M
 rename_i E J h1 h2
 have a3:∀ op,p=.bin op E J→Oper.wp P {dst:=dst,op:=.binOp op t x y O,type:=ty,pos:=pos,after:=after,guard:=guard} a w next Q:=by
  rintro op rfl;simp only[POp.exec,DA,Dr]at N;obtain⟨r,U,rfl,rfl⟩:=N;obtain⟨⟨v,h5,V⟩,X,Y⟩:=Ybk (P:=P) op t _ _ r _ _ U (I x E h1) (I y J h2);refine FL (s:=do eqGuard op t x y (a.eval x) (a.eval y); binOp op t (a.eval x) (a.eval y)) hS rfl ?_ V hn;simp only[Sem.run_bind,bN op t x y _ _ X Y,Result.andThen_ok,h5]
 have heq:∀ neg:Bool,(match P.underlying t with
  |some (.int _) | some .string=>some (POp.bin (if neg then .neq else .eql) E J)
  |some .bool=>some (.beq neg E J)
  |some (.struct _) | some (.array _ _)=>match Hz P 100 t with
   |some ks=>if P.eqGuardType P.depth t then none else some (.aeq ks neg E J)
   |none=>none
  |_=>none)=some p→Oper.wp P {dst:=dst,op:=.binOp (if neg then .neq else .eql) t x y O,type:=ty,pos:=pos,after:=after,guard:=guard} a w next Q:=by
  intro neg u
  have aa:Ee P t=some true→(match Hz P 100 t with
   |some ks=>if P.eqGuardType P.depth t then none else some (POp.aeq ks neg E J)
   |none=>none)=some p→Oper.wp P {dst:=dst,op:=.binOp (if neg then .neq else .eql) t x y O,type:=ty,pos:=pos,after:=after,guard:=guard} a w next Q:=by
   intro a0 u
   split at u
   case h_2=>cases u
   rename_i ks a1
   split at u
   case isTrue=>cases u
   rename_i hg;simp only[C9]at u; subst u;simp only[POp.exec,DA,Dr]at N;obtain⟨r,U,rfl,rfl⟩:=N;obtain⟨⟨v,h5,V⟩,xs,ys,X,Y⟩:=Ybp (P:=P) a1 (by decide) a0 U (I x E h1) (I y J h2);refine FL (s:=do eqGuard (if neg then .neq else .eql) t x y (a.eval x) (a.eval y); binOp (if neg then .neq else .eql) t (a.eval x) (a.eval y)) hS rfl ?_ V hn
   have a6:(eqGuard (if neg then .neq else .eql) t x y (a.eval x) (a.eval y)).run P w=.ok () w:=by
    rw[X,Y];exact run_eqGuard_agg w _ t x y xs ys (by simpa using hg)
   simp_all
  split at u
  ·grind
  ·grind
  ·rename_i hu;simp only[C9]at u; subst u;simp only[POp.exec,DA,Dr]at N;obtain⟨r,U,rfl,rfl⟩:=N;obtain⟨⟨v,h5,V⟩,X,Y⟩:=Ybl (P:=P) neg t hu _ _ r _ _ U (I x E h1) (I y J h2);refine FL (s:=do eqGuard (if neg then .neq else .eql) t x y (a.eval x) (a.eval y); binOp (if neg then .neq else .eql) t (a.eval x) (a.eval y)) hS rfl ?_ V hn;simp only[Sem.run_bind,bN _ t x y _ _ X Y,Result.andThen_ok,h5]
  ·rename_i hu;exact aa (by simp[Ee,hu]) u
  ·rename_i hu;exact aa (by simp[Ee,hu]) u
  ·cases u
 unfold Ut at M
 split at M
 ·exact heq false M
 ·exact heq true M
 ·grind
theorem Yaf(op:UnOp)(t:TypeId)(x:Operand){ty:TypeId}{pos:String}{after:Array Edge}{guard:Option (Nat×Bool)}(ab:TblOK P G T)(O:SR base w g st)(U:GlobOK G w g)(E:FR w g st fr a)(I:Dp P il (.unOp op t x)=some p)
  (J:p.exec T (Dn G fr) st=some (d,st')) (V:∀ v w' g',Go1 base w g st w' g' st'→RepV w' g' st' d v→next (a.put dst v) w'):Oper.wp P {dst:=dst,op:=.unOp op t x,type:=ty,pos:=pos,after:=after,guard:=guard} a w next Q:=by
 have M:∀ x u,DN x=some u→RepV w g st (Dn G fr u) (a.eval x):=fun x u h=>F3 U E h;clear E;simp only[Dp,DA]at I;obtain⟨u,N,rfl⟩:=I;simp only[POp.exec,DA,Dr]at J;obtain⟨r,X,rfl,rfl⟩:=J;obtain⟨v,Y,h6⟩:=Yia (P:=P) (w:=w) op _ r _ X (M x u N);exact FL (s:=Op.unary op (a.eval x)) O rfl Y h6 V
theorem xu(J dt:TypeId)(x:Operand){ty:TypeId}{pos:String}{after:Array Edge}{guard:Option (Nat×Bool)}(a4:TblOK P G T)(hS:SR base w g st)(hG:GlobOK G w g)(hF:FR w g st fr a)(I:Dp P il (.convert J dt x)=some p)
  (O:p.exec T (Dn G fr) st=some (d,st')) (hn:∀ v w' g',Go1 base w g st w' g' st'→RepV w' g' st' d v→next (a.put dst v) w'):Oper.wp P {dst:=dst,op:=.convert J dt x,type:=ty,pos:=pos,after:=after,guard:=guard} a w next Q:=by
 have a0:∀ x pa,DN x=some pa→RepV w g st (Dn G fr pa) (a.eval x):=fun x pa h=>F3 hG hF h;clear hF;simp only[Dp]at I
 split at I
 case h_2=>cases I
 rename_i pa a1;have N:=a0 x pa a1;unfold UW at I
 split at I
 ·rename_i u k U V;simp only[C9]at I; subst I;simp only[POp.exec,DA,Dr]at O;obtain⟨r,E,rfl,rfl⟩:=O;unfold E0 at E
  split at E <;> rename_i M X <;> (try cases M) <;> (try (simp only[reduceCtorEq]at E))
  simp only[C9]at E; subst E;rw[X]at N;have he:=Hd N;refine FL (s:=convert J dt (a.eval x)) hS rfl ?_ (.int _ _) hn;rw[he];simp[convert,run_underlying U,run_underlying V,Conv.intToInt]
 ·rename_i U V;simp only[C9]at I; subst I;simp only[POp.exec,DA,Dr]at O;obtain⟨r,E,rfl,rfl⟩:=O;unfold E0 at E
  split at E <;> rename_i M X <;> (try cases M) <;> (try (simp only[reduceCtorEq]at E))
  simp only[C9]at E; subst E;rw[X]at N;have he:=JM N;refine FL (s:=convert J dt (a.eval x)) hS rfl (v:=a.eval x) ?_ (by rw[he]; exact .str _) hn;rw[he];simp[convert,run_underlying U,run_underlying V]
 ·rename_i e U V
  split at I
  case h_2=>cases I
  rename_i ab;simp only[C9]at I; subst I;simp only[POp.exec,DA,Dr]at O;obtain⟨r,E,rfl,rfl⟩:=O;unfold E0 at E
  split at E <;> rename_i M X <;> (try cases M) <;> (try (simp only[reduceCtorEq]at E))
  simp only[C9]at E; subst E;rw[X]at N;have he:=JM N;refine KO (s:=convert J dt (a.eval x)) rfl ?_ hn;rw[he];exact qj hS U V ab
 ·rename_i e U V
  split at I
  case h_2=>cases I
  rename_i ab;simp only[C9]at I; subst I;simp only[POp.exec,DA,Dr]at O;obtain⟨r,E,rfl,rfl⟩:=O;unfold E0 at E
  split at E <;> rename_i M X <;> (try cases M) <;> (try (simp only[reduceCtorEq]at E))
  ·split at E
   case isFalse=>cases E
   rename_i Y;simp only[DA]at E;obtain⟨bs,af,rfl⟩:=E;rw[X]at N;simp only[A5,beq_iff_eq,BJ]at Y;exact FL (s:=convert J dt (a.eval x)) hS rfl (bu U ab V (Ow N) Y af) (.str _) hn
  ·split at E
   case h_2=>cases E
   rename_i sz els a2
   split at E
   case isFalse=>cases E
   rename_i Y;simp only[DA]at E;obtain⟨bs,af,rfl⟩:=E;rw[X]at N;simp only[beq_iff_eq]at Y;exact FL (s:=convert J dt (a.eval x)) hS rfl (bu U ab V (X2 hS a2 N).1 (.inl Y) af) (.str _) hn
 ·cases I
theorem yt(t:TypeId)(l c:Operand){ty:TypeId}{pos:String}{after:Array Edge}{guard:Option (Nat×Bool)}(a2:TblOK P G T)(O:SR base w g st)(U:GlobOK G w g)(M:FR w g st fr a)(u:Dp P il (.makeSlice t l c)=some p)
  (E:p.exec T (Dn G fr) st=some (d,st')) (V:∀ v w' g',Go1 base w g st w' g' st'→RepV w' g' st' d v→next (a.put dst v) w'):Oper.wp P {dst:=dst,op:=.makeSlice t l c,type:=ty,pos:=pos,after:=after,guard:=guard} a w next Q:=by
 have I:∀ x J,DN x=some J→RepV w g st (Dn G fr J) (a.eval x):=fun x J h=>F3 U M h;clear M;simp only[Dp]at u
 split at u
 case h_2=>cases u
 rename_i pl pc e X Y hu
 split at u
 case h_2=>cases u
 rename_i i hi
 split at u
 case h_2=>cases u
 rename_i z hz;simp only[DA]at u;obtain⟨zd,N,rfl⟩:=u;simp only[POp.exec]at E
 split at E
 case h_2=>cases E
 rename_i nl nc h3 h4
 split at E
 case isFalse=>cases E
 rename_i hc;simp only[C9,Dr]at E;obtain⟨rfl,rfl⟩:=E;obtain⟨c1,c2,c3,c4,c5,c6⟩:=hc;exact KO (s:=Instr.makeSlice t (a.eval l) (a.eval c)) rfl (sR O hu hi hz N rfl rfl c4 c5 c6 h3 h4 (I l pl X) (I c pc Y) c1 c2 c3) V
theorem tI(t:TypeId)(x:Operand)(lo hi M:Option Operand){ty:TypeId}{pos:String}{after:Array Edge}{guard:Option (Nat×Bool)}(a3:TblOK P G T)(N:SR base w g st)(hG:GlobOK G w g)(hF:FR w g st fr a)(u:Dp P il (.slice t x lo hi M)=some p)
  (J:p.exec T (Dn G fr) st=some (d,st')) (Y:∀ v w' g',Go1 base w g st w' g' st'→RepV w' g' st' d v→next (a.put dst v) w'):Oper.wp P {dst:=dst,op:=.slice t x lo hi M,type:=ty,pos:=pos,after:=after,guard:=guard} a w next Q:=by
 have E:∀ x I,DN x=some I→RepV w g st (Dn G fr I) (a.eval x):=fun x I h=>F3 hG hF h;clear hF;simp only[Dp]at u
 split at u
 case h_2=>cases u
 rename_i I a4 a5 a6 h1 h2 h3 h4;have r2:=XV h2 rfl E;have r3:=XV h3 rfl E;have r4:=XV h4 rfl E;unfold Vj at u
 split at u
 ·rename_i hu;simp only[C9]at u; subst u;simp only[POp.exec,DA,Dr]at J;obtain⟨r,O,rfl,rfl⟩:=J;obtain⟨v,U,V⟩:=aD (P:=P) N (.inl ⟨rfl,hu⟩) O (E x I h1) r2 r3 r4;exact FL (s:=Instr.sliceAt t (a.eval x) (lo.map a.eval) (hi.map a.eval) (M.map a.eval)) N rfl U V Y
 ·rename_i e hu
  split at u
  case h_2=>cases u
  rename_i sz X
  split at u
  case isTrue=>cases u
  rename_i h0;simp only[C9]at u; subst u;simp only[POp.exec,DA,Dr]at J;obtain⟨r,O,rfl,rfl⟩:=J;obtain⟨v,U,V⟩:=aD (P:=P) N (.inr ⟨h0,e,hu,X⟩) O (E x I h1) r2 r3 r4;exact FL (s:=Instr.sliceAt t (a.eval x) (lo.map a.eval) (hi.map a.eval) (M.map a.eval)) N rfl U V Y
 ·rename_i n e hu
  split at u
  case h_2=>cases u
  rename_i sz ag X a7;simp only[C9]at u; subst u
  have hm:M=none:=by
   simp_all
  subst hm;simp only[POp.exec,DA,Dr]at J;obtain⟨r,O,rfl,rfl⟩:=J;obtain⟨v,U,V⟩:=xb (P:=P) hu X O (E x I h1) r2 r3;exact FL (s:=Instr.sliceAt t (a.eval x) (lo.map a.eval) (hi.map a.eval) none) N rfl U V Y
 ·cases u
theorem yq(s:TypeId)(x:Operand)(f:Nat){ty:TypeId}{pos:String}{after:Array Edge}{guard:Option (Nat×Bool)}(ae:TblOK P G T)(U:SR base w g st)(V:GlobOK G w g)(I:FR w g st fr a)(u:Dp P il (.fieldAddr s x f)=some p)
  (J:p.exec T (Dn G fr) st=some (d,st')) (X:∀ v w' g',Go1 base w g st w' g' st'→RepV w' g' st' d v→next (a.put dst v) w'):Oper.wp P {dst:=dst,op:=.fieldAddr s x f,type:=ty,pos:=pos,after:=after,guard:=guard} a w next Q:=by
 have M:∀ x E,DN x=some E→RepV w g st (Dn G fr E) (a.eval x):=fun x E h=>F3 V I h;clear I;simp only[Dp]at u
 split at u
 case h_2=>cases u
 rename_i E fields Y hu
 split at u
 case h_2=>cases u
 rename_i fd N
 split at u
 case h_2=>cases u
 rename_i n O
 split at u
 case isTrue=>cases u
 rename_i h0;simp only[C9]at u; subst u;simp only[POp.exec,DA,Dr]at J;obtain⟨r,h5,rfl,rfl⟩:=J;obtain⟨v,h6,h7⟩:=wR (P:=P) hu N O h0 h5 (M x E Y);exact FL (s:=Instr.fieldAt s (a.eval x) f) U rfl h6 h7 X
theorem tG(s:TypeId)(x:Operand)(f:Nat){ty:TypeId}{pos:String}{after:Array Edge}{guard:Option (Nat×Bool)}(ae:TblOK P G T)(V:SR base w g st)(X:GlobOK G w g)(I:FR w g st fr a)(u:Dp P il (.field s x f)=some p)
  (J:p.exec T (Dn G fr) st=some (d,st')) (Y:∀ v w' g',Go1 base w g st w' g' st'→RepV w' g' st' d v→next (a.put dst v) w'):Oper.wp P {dst:=dst,op:=.field s x f,type:=ty,pos:=pos,after:=after,guard:=guard} a w next Q:=by
 have M:∀ x E,DN x=some E→RepV w g st (Dn G fr E) (a.eval x):=fun x E h=>F3 X I h;clear I;simp only[Dp]at u
 split at u
 case h_2=>cases u
 rename_i E fields h1 hu
 split at u
 case h_2=>cases u
 rename_i fd N
 split at u
 case h_2=>cases u
 rename_i n ag O U;simp only[C9]at u; subst u;simp only[POp.exec,DA,Dr]at J;obtain⟨r,h5,rfl,rfl⟩:=J;obtain⟨v,h6,h7⟩:=s6 (P:=P) hu N U O h5 (M x E h1);exact FL (s:=Instr.field s (a.eval x) f) V rfl h6 h7 Y
theorem yr(t:TypeId)(x i:Operand){ty:TypeId}{pos:String}{after:Array Edge}{guard:Option (Nat×Bool)}(ad:TblOK P G T)(Y:SR base w g st)(hG:GlobOK G w g)(hF:FR w g st fr a)(u:Dp P il (.indexAddr t x i)=some p)
  (M:p.exec T (Dn G fr) st=some (d,st')) (hn:∀ v w' g',Go1 base w g st w' g' st'→RepV w' g' st' d v→next (a.put dst v) w'):Oper.wp P {dst:=dst,op:=.indexAddr t x i,type:=ty,pos:=pos,after:=after,guard:=guard} a w next Q:=by
 have I:∀ x E,DN x=some E→RepV w g st (Dn G fr E) (a.eval x):=fun x E h=>F3 hG hF h;clear hF;simp only[Dp]at u
 split at u
 ·rename_i E pi len e N O hu;simp only[DA]at u;obtain⟨n,J,rfl⟩:=u;simp only[POp.exec,DA,Dr]at M;obtain⟨r,U,rfl,rfl⟩:=M;obtain⟨v,V,X⟩:=m7 (P:=P) hu J U (I x E N) (I i pi O);exact FL (s:=Instr.indexAt t (a.eval x) (a.eval i)) Y rfl V X hn
 ·rename_i E pi e N O hu;simp only[DA]at u;obtain⟨n,J,rfl⟩:=u;simp only[POp.exec,DA,Dr]at M;obtain⟨r,U,rfl,rfl⟩:=M;obtain⟨v,V,X⟩:=m4 (P:=P) hu J U (I x E N) (I i pi O);exact FL (s:=Instr.indexAt t (a.eval x) (a.eval i)) Y rfl V X hn
 ·cases u
theorem tH(t:TypeId)(x i:Operand){ty:TypeId}{pos:String}{after:Array Edge}{guard:Option (Nat×Bool)}(ae:TblOK P G T)(X:SR base w g st)(hG:GlobOK G w g)(Y:FR w g st fr a)(u:Dp P il (.index t x i)=some p)
  (J:p.exec T (Dn G fr) st=some (d,st')) (hn:∀ v w' g',Go1 base w g st w' g' st'→RepV w' g' st' d v→next (a.put dst v) w'):Oper.wp P {dst:=dst,op:=.index t x i,type:=ty,pos:=pos,after:=after,guard:=guard} a w next Q:=by
 have I:∀ x E,DN x=some E→RepV w g st (Dn G fr E) (a.eval x):=fun x E h=>F3 hG Y h;clear Y;simp only[Dp]at u
 split at u
 ·rename_i E pi len e M N hu
  split at u
  case h_2=>cases u
  rename_i n ag ab ac;simp only[C9]at u; subst u;simp only[POp.exec,DA,Dr]at J;obtain⟨r,O,rfl,rfl⟩:=J;obtain⟨v,U,V⟩:=td (P:=P) hu ac ab O (I x E M) (I i pi N);exact FL (s:=Instr.index t (a.eval x) (a.eval i)) X rfl U V hn
 ·rename_i E pi M N hu;simp only[C9]at u; subst u;simp only[POp.exec,DA,Dr]at J;obtain⟨r,O,rfl,rfl⟩:=J;obtain⟨v,U,V⟩:=Ybi (P:=P) hu O (I x E M) (I i pi N);exact FL (s:=Instr.index t (a.eval x) (a.eval i)) X rfl U V hn
 ·cases u
theorem xw(x:Operand)(i:Nat){ty:TypeId}{pos:String}{after:Array Edge}{guard:Option (Nat×Bool)}(ad:TblOK P G T)(U:SR base w g st)(V:GlobOK G w g)(J:FR w g st fr a)(M:Dp P il (.extract x i)=some p)
  (u:p.exec T (Dn G fr) st=some (d,st')) (X:∀ v w' g',Go1 base w g st w' g' st'→RepV w' g' st' d v→next (a.put dst v) w'):Oper.wp P {dst:=dst,op:=.extract x i,type:=ty,pos:=pos,after:=after,guard:=guard} a w next Q:=by
 have N:∀ x E,DN x=some E→RepV w g st (Dn G fr E) (a.eval x):=fun x E h=>F3 V J h;clear J;simp only[Dp,DA]at M;obtain⟨E,Y,rfl⟩:=M;simp only[POp.exec]at u;have I:=N x E Y
 split at u
 ·rename_i vs hp;simp only[DA,Dr]at u;obtain⟨r,O,rfl,rfl⟩:=u;rw[hp]at I;generalize hv:a.eval x=v at I
  cases I with
  |tup _ us h2 h3=>
   have hl:i<us.length:=by rw[← h2]; exact(Ab.1 O).1
   refine FL (s:=Instr.extract (a.eval x) i) U rfl (v:=us[i]) ?_ (h3 i r _ O (Af hl)) X;simp[hv,Instr.extract,hl]
 ·cases u
theorem yu(t:TypeId)(m k v:Operand){ty:TypeId}{pos:String}{after:Array Edge}{guard:Option (Nat×Bool)}(ah:TblOK P G T)(N:SR base w g st)(O:GlobOK G w g)(J:FR w g st fr a)(u:Dp P il (.mapUpdate t m k v)=some p)
  (M:p.exec T (Dn G fr) st=some (d,st')) (U:∀ v w' g',Go1 base w g st w' g' st'→RepV w' g' st' d v→next (a.put dst v) w'):Oper.wp P {dst:=dst,op:=.mapUpdate t m k v,type:=ty,pos:=pos,after:=after,guard:=guard} a w next Q:=by
 have E:∀ x I,DN x=some I→RepV w g st (Dn G fr I) (a.eval x):=fun x I h=>F3 O J h;clear J;simp only[Dp]at u
 split at u
 case h_2=>cases u
 rename_i kt et sz ks pm V X Y h2 h3 h4;simp only[C9]at u; subst u;simp only[POp.exec,DA,Dr]at M;obtain⟨r,h5,rfl,rfl⟩:=M;obtain⟨w',g',h6,h7⟩:=jG (P:=P) N Y (E m pm h2) (E k V h3) (E v X h4) h5;unfold Oper.wp execOp;simp only[Sem.run_bind,h6,Result.andThen_ok,Sem.run_pure];exact U undef w' g' h7 (.tup [] [] rfl (fun i d v h=>by simp at h))
theorem vZ(t:TypeId)(m k v:Operand){ty:TypeId}{pos:String}{after:Array Edge}{guard:Option (Nat×Bool)}(ah:TblOK P G T)(N:SR base w g st)(O:GlobOK G w g)(J:FR w g st fr a)(u:Dp P il (.insert t m k v)=some p)
  (M:p.exec T (Dn G fr) st=some (d,st')) (U:∀ v w' g',Go1 base w g st w' g' st'→RepV w' g' st' d v→next (a.put dst v) w'):Oper.wp P {dst:=dst,op:=.insert t m k v,type:=ty,pos:=pos,after:=after,guard:=guard} a w next Q:=by
 have E:∀ x I,DN x=some I→RepV w g st (Dn G fr I) (a.eval x):=fun x I h=>F3 O J h;clear J;simp only[Dp]at u
 split at u
 case h_2=>cases u
 rename_i kt et sz ks pm V X Y h2 h3 h4;simp only[C9]at u; subst u;simp only[POp.exec,DA,Dr]at M;obtain⟨r,h5,rfl,rfl⟩:=M;obtain⟨w',g',h6,h7⟩:=jG (P:=P) N Y (E m pm h2) (E k V h3) (E v X h4) h5;unfold Oper.wp execOp;simp only[Sem.run_bind,h6,Result.andThen_ok,Sem.run_pure];exact U undef w' g' h7 (.tup [] [] rfl (fun i d v h=>by simp at h))
theorem v3(t:TypeId)(m k:Operand)(ok:Bool){ty:TypeId}{pos:String}{after:Array Edge}{guard:Option (Nat×Bool)}(af:TblOK P G T)(J:SR base w g st)(hG:GlobOK G w g)(hF:FR w g st fr a)(u:Dp P il (.lookup t m k ok)=some p)
  (I:p.exec T (Dn G fr) st=some (d,st')) (hn:∀ v w' g',Go1 base w g st w' g' st'→RepV w' g' st' d v→next (a.put dst v) w'):Oper.wp P {dst:=dst,op:=.lookup t m k ok,type:=ty,pos:=pos,after:=after,guard:=guard} a w next Q:=by
 have E:∀ x M,DN x=some M→RepV w g st (Dn G fr M) (a.eval x):=fun x M h=>F3 hG hF h;clear hF;simp only[Dp]at u
 split at u
 case h_2=>
  split at u
  case h_2=>cases u
  rename_i zd pm N O U V;simp only[C9]at u; subst u;simp only[POp.exec,DA,Dr]at I;obtain⟨r,X,rfl,rfl⟩:=I;obtain⟨v,Y,h7⟩:=Yc8 (P:=P) O (E m pm U) (E k N V) X;exact FL (s:=Instr.lookup t (a.eval m) (a.eval k) ok) J rfl Y h7 hn
 rename_i kt et sz ks pm N O U V;simp only[DA]at u;obtain⟨zd,h4,rfl⟩:=u;simp only[POp.exec,DA,Dr]at I;obtain⟨r,X,rfl,rfl⟩:=I;obtain⟨v,Y,h7⟩:=vo (P:=P) J O h4 (E m pm U) (E k N V) X;exact FL (s:=Instr.lookup t (a.eval m) (a.eval k) ok) J rfl Y h7 hn
theorem xy(t:TypeId)(I:Option Operand){ty:TypeId}{pos:String}{after:Array Edge}{guard:Option (Nat×Bool)}(X:TblOK P G T)(O:SR base w g st)(U:GlobOK G w g)(M:FR w g st fr a)(u:Dp P il (.makeMap t I)=some p)
  (E:p.exec T (Dn G fr) st=some (d,st')) (V:∀ v w' g',Go1 base w g st w' g' st'→RepV w' g' st' d v→next (a.put dst v) w'):Oper.wp P {dst:=dst,op:=.makeMap t I,type:=ty,pos:=pos,after:=after,guard:=guard} a w next Q:=by
 have Y:∀ x J,DN x=some J→RepV w g st (Dn G fr J) (a.eval x):=fun x J h=>F3 U M h;clear M
 cases I with
 |some x=>simp[Dp]at u
 |none=>
  simp only[Dp]at u
  split at u
  case h_2=>cases u
  rename_i kt et sz ks h1;simp only[C9]at u; subst u;simp only[POp.exec]at E
  split at E
  case isFalse=>cases E
  rename_i N;simp only[C9,Dr]at E;obtain⟨rfl,rfl⟩:=E;exact KO (s:=Instr.makeMap t none) rfl (sQ (P:=P) (t:=t) O N.1 N.2) V
theorem aF{es:List D}{u:List Value}(E:ds.length=vs.length)(I:∀ (i:Nat) d v,ds[i]?=some d→vs[i]?=some v→RepV w g st d v)(J:∀ (i:Nat) d v,es[i]?=some d→u[i]?=some v→RepV w g st d v) :
  ∀ (i:Nat) d v,(ds++es)[i]?=some d→(vs++u)[i]?=some v→RepV w g st d v:=by
 grind
theorem Ws{ty:TypeId}{pos:String}{after:Array Edge}{guard:Option (Nat×Bool)}{J:PA}{l:List PA}(N:∀ x J,DN x=some J→RepV w g st (Dn G fr J) (a.eval x))(M:c.callee=.value x)
  (X:DN x=some J) (hl:Hi c.args.toList=some l) (u:(POp.callv J l).callee (Dn G fr)=some (f,ds)) :
  ∃ vs:List Value,ds.length=vs.length∧(∀ (i:Nat) d v,ds[i]?=some d→vs[i]?=some v→RepV w g st d v)∧execOp a.eval {dst:=dst,op:=.call c,type:=ty,pos:=pos,after:=after,guard:=guard}=callFunc f vs.toArray:=by
 obtain⟨g1,g2⟩:=My N hl;have g1:(l.map (Dn G fr)).length=(c.args.toList.map a.eval).length:=by simpa using g1
 have U:=N x J X;simp only[POp.callee]at u
 split at u
 case h_2=>cases u
 rename_i f' Y V;rw[V]at U;generalize I:a.eval x=xv at U
 cases U with
 |clo _ _ us hlen O=>
  by_cases E:f'<5000000
  ·rw[if_pos E]at u;simp only[C9,Dr]at u;obtain⟨rfl,rfl⟩:=u;rw[Oo E,Wv E,VV E]at I;refine⟨c.args.toList.map a.eval++us,by rw[Ad,Ad,g1,hlen],aF g1 g2 O,?_⟩;simp only[execOp,resolve,M,I,Deferred.ofValue]
   have:(c.args.toList.map a.eval++us).toArray=c.args.map a.eval++us.toArray:=by
    grind
   rw[this];simp only[BZ];rfl
  ·rw[if_neg E]at u
   split at u
   case isFalse=>cases u
   rename_i aa;simp only[C9,Dr]at u;obtain⟨rfl,rfl⟩:=u;obtain⟨f,rfl⟩:∃ f,f'=f+5000000:=⟨f' - 5000000,by omega⟩;have hf:f<5000000:=by omega
   rw[gO hf,bp hf,kK hf]at I;rw[Co];refine⟨us++c.args.toList.map a.eval,by rw[Ad,Ad,g1,hlen],aF hlen O g2,?_⟩;simp only[execOp,resolve,M,I,Deferred.ofValue]
   have:(us++c.args.toList.map a.eval).toArray=us.toArray++c.args.map a.eval:=by
    grind
   rw[this];rfl
theorem Yaj(c:Call){ty:TypeId}{pos:String}{after:Array Edge}{guard:Option (Nat×Bool)}(hT:TblOK P G T)(O:SR base w g st)(hG:GlobOK G w g)(hF:FR w g st fr a)(E:Dp P il (.call c)=some p)(b7:∀ x args f a0,p=.callv x args→Dn G fr x=.clo f a0→f<10000000)
  (u:p.exec T (Dn G fr) st=some (d,st')) (U:∀ v w' g',Go1 base w g st w' g' st'→RepV w' g' st' d v→next (a.put dst v) w'):Oper.wp P {dst:=dst,op:=.call c,type:=ty,pos:=pos,after:=after,guard:=guard} a w next Q:=by
 have J:∀ x pa,DN x=some pa→RepV w g st (Dn G fr pa) (a.eval x):=fun x pa h=>F3 hG hF h;clear hF;simp only[Dp]at E
 split at E
 ·rename_i b hb
  -- a builtin
  have N:∀ l,c.args.toList=l→c.args=l.toArray:=fun l h=>by rw[← h,BE]
  have a8:∀ l,c.argTypes.toList=l→c.argTypes=l.toArray:=fun l h=>by rw[← h,BE]
  unfold Sl at E
  split at E
  ·rename_i x t I X;have I:=N _ I;have X:=a8 _ X
   have Y:execOp a.eval {dst:=dst,op:=.call c,type:=ty,pos:=pos,after:=after,guard:=guard}=(do pure (.value (← Builtin.len_ #[t] ty #[a.eval x]))):=by
    simp[execOp,resolve,hb,I,X,invoke,builtin]
   split at E
   ·rename_i pa V hu;simp only[C9]at E; subst E;simp only[POp.exec]at u
    split at u
    case isFalse=>cases u
    rename_i a9;simp only[DA,Dr]at u;obtain⟨n,h5,rfl,rfl⟩:=u;refine FL O Y (g7 (.inl hu) ⟨fun _=>?_,fun _=>hu⟩ h5 (J x pa V) ty) (.int _ _) U;cases hp:Dn G fr pa <;> simp[hp,I0]at a9;grind
   ·rename_i pa e V hu;simp only[C9]at E; subst E;simp only[POp.exec]at u
    split at u
    case isFalse=>cases u
    rename_i a9;simp only[DA,Dr]at u;obtain⟨n,h5,rfl,rfl⟩:=u;refine FL O Y (g7 (.inr ⟨e,hu⟩) ⟨(by intro h; rw[hu]at h; cases h),fun⟨s,hs⟩=>?_⟩ h5 (J x pa V) ty) (.int _ _) U;simp[hs,I0]at a9
   ·rename_i pa n e V hu;simp only[C9]at E; subst E;simp only[POp.exec,C9,Dr]at u;obtain⟨rfl,rfl⟩:=u;refine FL O Y ?_ (.int _ _) U;simp[Builtin.len_,run_underlying hu,goInt]
   ·cases E
  ·rename_i s x t tx I X;have I:=N _ I;have X:=a8 _ X
   have Y:execOp a.eval {dst:=dst,op:=.call c,type:=ty,pos:=pos,after:=after,guard:=guard}=(do pure (.value (← Builtin.append_ #[t,tx] ty #[a.eval s,a.eval x]))):=by
    simp[execOp,resolve,hb,I,X,invoke,builtin]
   have fin:∀ ps px e,DN s=some ps→DN x=some px→P.underlying t=some (.slice e)→((∃ e',P.underlying tx=some (.slice e'))∨P.underlying tx=some .string)→(match P.info? e with
    |some i=>match i.zero with
     |some z=>if z.cells.size=i.size then some (POp.app i.size i.bytes ps px)else none
     |none=>none
    |none=>none)=some p→Oper.wp P {dst:=dst,op:=.call c,type:=ty,pos:=pos,after:=after,guard:=guard} a w next Q:=by
    intro ps px e V h2 hu b8 hp
    split at hp
    case h_2=>cases hp
    rename_i i hi
    split at hp
    case h_2=>cases hp
    rename_i z hz
    split at hp
    case isFalse=>cases hp
    rename_i b9;simp only[C9]at hp; subst hp;simp only[POp.exec]at u;exact KO Y (Ybm O hu b8 hi hz rfl rfl b9 u (J s ps V) (J x px h2)) U
   split at E
   ·grind
   ·grind
   ·cases E
  ·rename_i x y t t2 I X;have I:=N _ I;have X:=a8 _ X
   split at E
   case h_2=>cases E
   rename_i px py e V h2 hu
   split at E
   case h_2=>cases E
   rename_i ca;simp only[C9]at E; subst E;simp only[POp.exec]at u;exact KO (s:=Builtin.copy_ #[t,t2] ty #[a.eval x,a.eval y]) (by simp[execOp,resolve,hb,I,X,invoke,builtin]) (Yk2 O hu ca (J x px V) (J y py h2) u) U
  ·rename_i x y I;have I:=N _ I
   split at E
   case h_2=>cases E
   rename_i px py V h2;simp only[C9]at E; subst E;simp only[POp.exec]at u
   split at u
   case h_2=>cases u
   rename_i k n k' m ad ae;simp only[C9,Dr]at u;obtain⟨rfl,rfl⟩:=u;have r1:=J x px V;have r2:=J y py h2;rw[ad]at r1;rw[ae]at r2;have q1:=Hd r1;have q2:=Hd r2;refine FL (s:=Builtin.min_ c.argTypes ty #[a.eval x,a.eval y]) O ?_ ?_ (.int k (if m<n then m else n)) U
   ·simp[execOp,resolve,hb,I,invoke,builtin]
   ·simp[Builtin.min_,q1,q2,Builtin.min2]
  ·rename_i x y I;have I:=N _ I
   split at E
   case h_2=>cases E
   rename_i px py V h2;simp only[C9]at E; subst E;simp only[POp.exec]at u
   split at u
   case h_2=>cases u
   rename_i k n k' m ad ae;simp only[C9,Dr]at u;obtain⟨rfl,rfl⟩:=u;have r1:=J x px V;have r2:=J y py h2;rw[ad]at r1;rw[ae]at r2;have q1:=Hd r1;have q2:=Hd r2;refine FL (s:=Builtin.max_ c.argTypes ty #[a.eval x,a.eval y]) O ?_ ?_ (.int k (if m > n then m else n)) U
   ·simp[execOp,resolve,hb,I,invoke,builtin]
   ·simp[Builtin.max_,q1,q2,Builtin.max2]
  ·rename_i x y z I;have I:=N _ I
   split at E
   case h_2=>cases E
   rename_i px py pz V h2 h3;simp only[C9]at E; subst E;simp only[POp.exec]at u
   split at u
   case h_2=>cases u
   rename_i k n k' m k2 l ad ae ba;simp only[C9,Dr]at u;obtain⟨rfl,rfl⟩:=u;have r1:=J x px V;have r2:=J y py h2;have r3:=J z pz h3;rw[ad]at r1;rw[ae]at r2;rw[ba]at r3;have q1:=Hd r1;have q2:=Hd r2;have q3:=Hd r3;refine FL (s:=Builtin.min_ c.argTypes ty #[a.eval x,a.eval y,a.eval z]) O ?_ ?_ (.int k (Kh false (Kh false n m) l)) U
   ·simp[execOp,resolve,hb,I,invoke,builtin]
   ·simp[Builtin.min_,q1,q2,q3,Builtin.min2,Kh]
  ·rename_i x y z I;have I:=N _ I
   split at E
   case h_2=>cases E
   rename_i px py pz V h2 h3;simp only[C9]at E; subst E;simp only[POp.exec]at u
   split at u
   case h_2=>cases u
   rename_i k n k' m k2 l ad ae ba;simp only[C9,Dr]at u;obtain⟨rfl,rfl⟩:=u;have r1:=J x px V;have r2:=J y py h2;have r3:=J z pz h3;rw[ad]at r1;rw[ae]at r2;rw[ba]at r3;have q1:=Hd r1;have q2:=Hd r2;have q3:=Hd r3;refine FL (s:=Builtin.max_ c.argTypes ty #[a.eval x,a.eval y,a.eval z]) O ?_ ?_ (.int k (Kh true (Kh true n m) l)) U
   ·simp[execOp,resolve,hb,I,invoke,builtin]
   ·simp[Builtin.max_,q1,q2,q3,Builtin.max2,Kh]
  ·cases E
 ·rename_i f hf
  split at E
  case h_2=>cases E
  rename_i fn l cb hl
  have hex:execOp a.eval {dst:=dst,op:=.call c,type:=ty,pos:=pos,after:=after,guard:=guard}=callFunc f (c.args.toList.map a.eval).toArray:=by
   simp only[execOp,resolve,hf,Act.eval,Deferred.ofValue]
   have:(c.args.toList.map a.eval).toArray=c.args.map a.eval:=by
    grind
   rw[this];simp only[BZ];rfl
  obtain⟨g1,g2⟩:=My J hl
  split at E
  case isFalse=>
   split at E
   case isTrue=>cases E
   simp only[C9]at E;subst E;simp only[POp.exec]at u
   split at u
   case h_2=>cases u
   rename_i sp ys M bc
   split at u
   case h_2=>cases u
   rename_i r hr;simp only[C9,Dr]at u;obtain⟨rfl,rfl⟩:=u;rcases hT.p _ _ M with⟨hC,_⟩ | ⟨f',e,hE⟩
   ·omega
   ·obtain rfl:f=f':=Nat.add_right_cancel e;exact Yku O hE bc hr (by simpa using g1) g2 hex U
  rename_i hc;simp only[Ac,AL,decide_eq_true_eq]at hc;simp only[C9]at E
  split at E
  ·subst E;simp only[POp.exec]at u
   split at u
   case h_2=>cases u
   rename_i sp M
   split at u
   case h_2=>cases u
   rename_i r hr;refine Ww (hT.m f sp M) O hG (ds:=l.map (Dn G fr)) (vs:=c.args.toList.map a.eval) (r:=d) (st':=st') ?_ (by simpa using g1) g2 hex U;grind
  split at E
  ·subst E;simp only[POp.exec]at u
   split at u
   case h_2=>cases u
   rename_i sp M;exact Ww (hT.q f sp M) O hG (ds:=l.map (Dn G fr)) (vs:=c.args.toList.map a.eval) (r:=d) (st':=st') u (by simpa using g1) g2 hex U
  split at E
  ·subst E;simp only[POp.exec]at u
   split at u
   case h_2=>cases u
   rename_i sp M;exact VY hT O hG (ds:=l.map (Dn G fr)) (vs:=c.args.toList.map a.eval) M u (by simpa using g1) g2 hex U
  ·subst E;simp only[POp.exec]at u
   split at u
   case h_2=>cases u
   rename_i sp ys M bc
   split at u
   case h_2=>cases u
   rename_i r hr;simp only[C9,Dr]at u;obtain⟨rfl,rfl⟩:=u;exact Yd1 hT O hG (ds:=l.map (Dn G fr)) (vs:=c.args.toList.map a.eval) cb hc.1.1 hc.1.2 hc.2 M bc hr (by simpa using g1) g2 hex U
 ·rename_i x ch bd
  split at E
  case h_2=>cases E
  rename_i pa l bh hl;simp only[C9]at E; subst E;simp only[POp.exec]at u
  split at u
  case h_2=>cases u
  rename_i f a0 a6;have be:=b7 _ _ _ _ rfl a6
  by_cases a7:f<5000000
  ·rw[if_pos a7]at u
   split at u
   case h_2=>cases u
   rename_i sp M;obtain⟨vs,I,X,e3⟩:=Ws (dst:=dst) (ty:=ty) (pos:=pos) (after:=after) (guard:=guard) J bd bh hl (show(POp.callv pa l).callee (Dn G fr)=some (f,l.map (Dn G fr)++a0) by simp[POp.callee,a6,a7]);exact VY hT O hG M u I X e3 U
  ·rw[if_neg a7,if_pos be]at u
   split at u
   case h_2=>cases u
   rename_i sp M;obtain⟨vs,I,X,e3⟩:=Ws (dst:=dst) (ty:=ty) (pos:=pos) (after:=after) (guard:=guard) J bd bh hl (show(POp.callv pa l).callee (Dn G fr)=some (f - 5000000,a0++l.map (Dn G fr)) by simp[POp.callee,a6,a7,be]);exact VY hT O hG M u I X e3 U
 ·cases E
theorem xY(fn:Fn)(first u:Array Operand){ty:TypeId}{pos:String}{after:Array Edge}{guard:Option (Nat×Bool)}(ab:TblOK P G T)(V:SR base w g st)(hG:GlobOK G w g)(X:FR w g st fr a)(E:Dp P il (.makeFunc fn first u)=some p)
  (J:p.exec T (Dn G fr) st=some (d,st')) (Y:∀ v w' g',Go1 base w g st w' g' st'→RepV w' g' st' d v→next (a.put dst v) w'):Oper.wp P {dst:=dst,op:=.makeFunc fn first u,type:=ty,pos:=pos,after:=after,guard:=guard} a w next Q:=by
 have M:∀ x N,DN x=some N→RepV w g st (Dn G fr N) (a.eval x):=fun x N h=>F3 hG X h;clear X
 cases fn with
 |func f=>
  simp only[Dp]at E
  split at E
  case isFalse=>cases E
  rename_i I;simp only[decide_eq_true_eq]at I
  split at E
  ·rename_i hf;simp only[DA]at E;obtain⟨l,hl,rfl⟩:=E;simp only[POp.exec,C9,Dr]at J;obtain⟨rfl,rfl⟩:=J;obtain⟨g1,g2⟩:=My M hl;refine FL (s:=Instr.makeFunc (.func f) (first.map a.eval) (u.map a.eval)) V rfl (v:=.func (HL f) (Ml f (u.toList.map a.eval)) (Me f (u.toList.map a.eval))) ?_ (.clo f _ _ (by simpa using g1) g2) Y;rw[Oo I,Wv I,VV I]
   have O:first.map a.eval=#[]:=by
    grind
   have U:u.map a.eval=(u.toList.map a.eval).toArray:=by
    grind
   rw[O,U];rfl
  ·split at E
   case isFalse=>cases E
   rename_i hf;simp only[DA]at E;obtain⟨l,hl,rfl⟩:=E;simp only[POp.exec,C9,Dr]at J;obtain⟨rfl,rfl⟩:=J;obtain⟨g1,g2⟩:=My M hl;refine FL (s:=Instr.makeFunc (.func f) (first.map a.eval) (u.map a.eval)) V rfl (v:=.func (HL (f+5000000)) (Ml (f+5000000) (first.toList.map a.eval)) (Me (f+5000000) (first.toList.map a.eval))) ?_ (.clo (f+5000000) _ _ (by simpa using g1) g2) Y;rw[gO I,bp I,kK I]
   have O:u.map a.eval=#[]:=by
    grind
   have U:first.map a.eval=(first.toList.map a.eval).toArray:=by
    grind
   rw[O,U];rfl
 |_=>simp[Dp]at E
def Wr(r:Option Nat):Fence:={Fence.wide with round:=r}
theorem NS(u:∀ c,o.op≠.defer c)(h:o.wp P a w next Q):o.wpIn (Wr r) 0 P a w next Q:=by
 refine⟨fun _ _=>trivial,?_⟩;rw[Oper.semAt_eq _ _ _ u];unfold Oper.wp at h;generalize (execOp a.eval o).run P w=x at h ⊢
 cases x with
 |ok n w'=>
  cases n <;> simp only[Oper.upon]at h <;> simp only[Oper.uponIn] <;> first
   |exact h
   |exact h.elim
   |exact⟨(fun e=>by cases e),callsIn_wide.2 h⟩
   |exact⟨(fun e=>by cases e),fun c cs _=>let⟨v,w',r,s⟩:=h c cs; ⟨v,w',r,stepsIn_wide.2 s⟩⟩
 |halt x w'=>cases x <;> simp only[Oper.upon]at h <;> simp only[Oper.uponIn] <;> first | exact h | exact h.elim
theorem YOK.none{G:Dh}{w0:World}{g0:Ghost}{st0:St}:YOK P G (fun _ _ _=>none) base w0 g0 st0:=fun _ _ _ _ _ _ _ _ _ _ h=>by cases h
theorem tZ{l:Nat}(u:o.op=.call c)(E:c.callee=.value x)(I:a.eval x=.func (.yield l) #[] #[])(O:c.args.toList.map a.eval=vs)
  (h:iI P base w g st st' l vs d) (U:∀ v w' g',Go1 base w g st w' g' st'→RepV w' g' st' d v→next (a.put o.dst v) w'):o.wpIn (Wr r) 0 P a w next Q:=by
 obtain⟨f,tmps,assign,body,J,M⟩:=h;refine⟨fun _ _=>trivial,?_⟩;rw[Oper.semAt_eq _ _ _ (fun c' e=>by rw[u]at e; cases e)]
 have hex:execOp a.eval o=Instr.yield l vs.toArray:=by
  obtain⟨dst,op,ty,pos,after,guard⟩:=o;simp only at u;subst u
  have N:vs.toArray=c.args.map a.eval:=by
   grind
  simp only[execOp,resolve,E,I,Deferred.ofValue,N,BZ];rfl
 rw[hex,J,Oper.uponIn_round];refine⟨(fun e=>by cases e),?_⟩;refine RoundIn.mono (F:=Wr r) (n:=0) M ?_;grind
theorem Yot(E:TblOK P G T)(I:SR base w g st)(J:GlobOK G w g)(M:FR w g st fr a)(u:Dp P il o.op=some p)(V:∀ x args f U,p=.callv x args→Dn G fr x=.clo f U→f<10000000)(N:p.exec T (Dn G fr) st=some (d,st'))
  (O:∀ v w' g',Go1 base w g st w' g' st'→RepV w' g' st' d v→next (a.put o.dst v) w'):o.wp P a w next Q:=by
 obtain⟨dst,op,ty,pos,after,guard⟩:=o
 cases op with
 |move x=>exact Yah x E I J M u N O
 |assign x=>exact vY x E I J M u N O
 |pick c x y=>exact Yag c x y E I J M u N O
 |alloc t=>exact tD t E I J M u N O
 |box t x=>exact Yhv t x E I J M u N O
 |build t parts=>exact tF t parts E I J M u N O
 |buildSlice t len parts=>exact m5 t len parts E I J M u N O
 |load t x=>exact Yai t x E I J M u N O
 |store t x y=>exact tJ t x y E I J M u N O
 |nilCheck x=>exact xZ x E I J M u N O
 |binOp op t x y X=>exact tE op t x y X E I J M u N O
 |unOp op t x=>exact Yaf op t x E I J M u N O
 |convert src Y x=>exact xu src Y x E I J M u N O
 |makeSlice t l c=>exact yt t l c E I J M u N O
 |slice t x lo hi mx=>exact tI t x lo hi mx E I J M u N O
 |fieldAddr s x f=>exact yq s x f E I J M u N O
 |field s x f=>exact tG s x f E I J M u N O
 |indexAddr t x i=>exact yr t x i E I J M u N O
 |index t x i=>exact tH t x i E I J M u N O
 |extract x i=>exact xw x i E I J M u N O
 |mapUpdate t m k v=>exact yu t m k v E I J M u N O
 |insert t m k v=>exact vZ t m k v E I J M u N O
 |lookup t m k ok=>exact v3 t m k ok E I J M u N O
 |makeMap t rs=>exact xy t rs E I J M u N O
 |call c=>exact Yaj c E I J M u V N O
 |makeFunc fn first U=>exact xY fn first U E I J M u N O
 |_=>simp[Dp]at u
theorem Ybu{w0:World}{g0:Ghost}{st0:St}(hT:TblOK P G T)(hY:YOK P G T.y base w0 g0 st0)(U:Go1 base w0 g0 st0 w g st)(O:GlobOK G w g)(Y:FR w g st fr a)(u:Dp P il o.op=some p)(J:p.exec T (Dn G fr) st=some (d,st'))
  (hn:∀ v w' g',Go1 base w g st w' g' st'→RepV w' g' st' d v→next (a.put o.dst v) w'):o.wpIn (Wr r) 0 P a w next Q:=by
 have V:∀ c,o.op≠.defer c:=fun c e=>by rw[e]at u; simp[Dp]at u
 by_cases hc:∃ x args f E,p=.callv x args∧Dn G fr x=.clo f E∧¬ f<10000000
 ·obtain⟨x,args,f,E,rfl,M,X⟩:=hc;have N:¬ f<5000000:=by omega
  simp only[POp.exec,M,if_neg X,if_neg N]at J
  split at J
  case isFalse=>cases J
  rename_i af;obtain rfl:E=[]:=by simpa using af
  have hinv:∃ c xo,o.op=.call c∧c.callee=.value xo∧DN xo=some x∧Hi c.args.toList=some args:=by
   clear hn J V;generalize o.op=op at u
   cases op with
   |call c=>
    simp only[Dp]at u
    split at u
    ·rename_i b hb;unfold Sl at u
     repeat' split at u
     all_goals first | cases u | (simp at u; done) | skip
    ·grind
    ·grind
    ·cases u
   |_=>exfalso; revert u; simp only[Dp,Ut,UW,Vj]; (repeat' split) <;> first | (simp; done) | (intro h; cases h; done) | (intro h; simp only[DA]at h; obtain⟨_,_,h⟩:=h; cases h; done) | (intro _; contradiction)
  obtain⟨c,xo,h1,h2,h4,h5⟩:=hinv;have hr:=F3 O Y h4;rw[M]at hr;obtain⟨e1,e2⟩:=My (fun x pa h=>F3 (G:=G) O Y h) h5;generalize I:a.eval xo=xv at hr
  cases hr with
  |clo _ _ us hlen a6=>
   obtain rfl:us=[]:=AO hlen.symm;rw[SM,Sy]at I;unfold HL at I;rw[if_neg N,if_neg X]at I;refine tZ (vs:=c.args.toList.map a.eval) h1 h2 I rfl (hY _ w g st st' _ _ d U O J (by simpa using e1) e2) hn
 ·refine NS V ?_;exact Yot hT U.sr O Y u (fun x args f E e1 e2=>Classical.byContradiction fun e3=>hc ⟨x,args,f,E,e1,e2,e3⟩) J hn
end
end Go.Proofs.YtijnglngaogdjaaGreatDoor.PI
namespace Go.Proofs.YtijnglngaogdjaaGreatDoor.PI
open Go Go.RowKit
def POp.cls:POp→Nat
 |.mov _ | .pick _ _ _ | .bld _ _ | .bin _ _ _ | .beq _ _ _ | .aeq _ _ _ _ | .un _ _ | .sliceA _ _ _ _ _ _ | .fldv _ _ _ _ | .idx _ _ | .idxV _ _ _ _ _ | .lenA _ | .mm _ _ _ | .mm3 _ _ _ _ | .ext _ _ | .mkclo _ _=>0
 |.conv c _=>match c with
  |.str=>1
  |_=>0
 |.load _ _ _ | .nilc _ | .slice _ _ _ _ _ | .fld _ _ | .idxS _ _ _ | .idxA _ _ _ _ | .len _ _ | .mapget _ _ _ _ _ _ | .rcall _ _=>1
 |.bslc _ _ | .call _ _=>2
 |.box _ | .stor _ _ _ | .mkslc _ _ _ _ _ | .app _ _ _ _ | .icall _ _ | .mcall _ _ | .callv _ _ | .mkmap _ | .mapup _ _ _ _ _ | .cpy _ _ _ | .fail=>3
def PA.slot:PA→List Nat
 |.s n=>[n]
 |_=>[]
def PI.reads(i:PI):List Nat:=i.op.args.flatMap PA.slot++(Gj i.guard).map (·.1)
def POp.push:POp→Bool
 |.box _ | .mkslc _ _ _ _ _=>true
 |_=>false
def PI.apart(x y:PI):Bool:=
 (match x.dst with
  |some d=>!(y.reads.contains d) && y.dst != some d
  |none=>true) &&
 (match y.dst with
  |some d=>!(x.reads.contains d)
  |none=>true) &&
 (x.op.cls == 0 || y.op.cls == 0 || (decide (x.op.cls≤2) && (decide (y.op.cls≤2) || y.op.push)))
theorem LS{α β:Type}{f g:α→β}:∀ {l:List α},(∀ x∈l,f x=g x)→l.map f=l.map g:=fun h=>Bx h
variable {st:St}{ρ:PA→D}{T:Tbl}
theorem uB{E:PA→D}(p:POp)(h:∀ x∈p.args,ρ x=E x):p.exec T ρ st=p.exec T E st:=by
 have opt:∀ (o:Option PA),(∀ x∈Gj o,ρ x=E x)→o.map ρ=o.map E:=by
  intro o J
  cases o with
  |none=>rfl
  |some x=>simp[J x (by simp[Gj])]
 cases p with
 |bld zero parts=>
  have:(parts.map fun p=>(p.1,p.2.1,ρ p.2.2))=parts.map fun p=>(p.1,p.2.1,E p.2.2):=LS fun q u=>by
   rw[h q.2.2 (by simp only[POp.args,AS]; exact⟨q,u,rfl⟩)]
  simp only[POp.exec,this]
 |bslc sz parts=>
  have:parts.map ρ=parts.map E:=LS fun q u=>h q u;simp only[POp.exec,this]
 |call f args=>
  have:args.map ρ=args.map E:=LS fun q u=>h q u;simp only[POp.exec,this]
 |icall f args=>
  have:args.map ρ=args.map E:=LS fun q u=>h q u;simp only[POp.exec,this]
 |mcall f args=>
  have:args.map ρ=args.map E:=LS fun q u=>h q u;simp only[POp.exec,this]
 |rcall f args=>
  have:args.map ρ=args.map E:=LS fun q u=>h q u;simp only[POp.exec,this]
 |mkclo f args=>
  have:args.map ρ=args.map E:=LS fun q u=>h q u;simp only[POp.exec,this]
 |callv x args=>
  have:args.map ρ=args.map E:=LS fun q u=>h q (by simp[POp.args,u]);simp only[POp.exec,this,h x (by simp[POp.args])]
 |slice sz x lo hi M=>
  simp only[POp.args,AA,AF]at h;simp only[POp.exec,h x (.inl rfl),opt lo (fun y I=>h y (.inr (.inl (.inl I)))),opt hi (fun y I=>h y (.inr (.inl (.inr I)))),opt M (fun y I=>h y (.inr (.inr I)))]
 |sliceA n sz ag x lo hi=>
  simp only[POp.args,AA,AF]at h;simp only[POp.exec,h x (.inl rfl),opt lo (fun y I=>h y (.inr (.inl I))),opt hi (fun y I=>h y (.inr (.inr I)))]
 |_=>
  simp only[POp.args,AA,AQ,or_false,forall_eq_or_imp,forall_eq]at h;simp only[POp.exec,h]
abbrev lend1(k:Nat)(st:St):St:=st.modify k fun o=>{o with lent:=true}
theorem Wz(st:St)(k key tot:Nat):Eu (lend1 k st) key tot=Eu st key tot:=by
 unfold Eu;grind
theorem vX(st:St)(k:Nat)(d:D):Fa (lend1 k st) d=Fa st d:=by
 cases d <;> simp only[Fa,Wz]
theorem w6(st:St)(k:Nat)(c:PConv)(d:D):E0 (lend1 k st) c d=E0 st c d:=by
 cases c <;> cases d <;> simp only[E0,bU]
theorem xT(st:St)(k sz:Nat)(x:D)(lo hi u:Option D):FX (lend1 k st) sz x lo hi u=FX st sz x lo hi u:=by
 cases x with
 |row key tot off len=>
  simp only[FX,NQ];grind
 |_=>simp only[FX]
theorem w9(st:St)(k sz:Nat)(x i:D):Fy (lend1 k st) sz x i=Fy st sz x i:=by
 unfold Fy
 cases Fj i with
 |none=>rfl
 |some j=>
  grind
theorem aA(st:St)(k off:Nat)(x:D):EK (lend1 k st) off x=EK st off x:=by
 cases x <;> simp only[EK,Wz]
theorem w8(st:St)(k n sz:Nat)(x i:D):GS (lend1 k st) n sz x i=GS st n sz x i:=by
 simp only[GS,aA]
theorem xa(st:St)(k n:Nat)(ag:Bool)(p:D):EU (lend1 k st) n ag p=EU st n ag p:=by
 cases p with
 |ptr key off=>
  simp only[EU,NQ];grind
 |rptr key tot i off=>
  simp only[EU,NQ];grind
 |_=>simp only[EU]
theorem yo(st:St)(E sz:Nat)(ks:List Nat)(ok:Bool)(u m k:D):Hw (lend1 E st) sz ks ok u m k=Hw st sz ks ok u m k:=by
 cases m with
 |mapv key=>
  simp only[Hw,NQ]
  cases st[key]? with
  |none=>rfl
  |some o=>by_cases e:E=key <;> simp[e,Obj.isMap]
 |_=>simp only[Hw]
theorem vT(a b:Nat)(st:St):lend1 a (lend1 b st)=lend1 b (lend1 a st):=by
 apply A9;grind
theorem SC(a:Nat):∀ (ks:List Nat) (st:St),lend ks (lend1 a st)=lend1 a (lend ks st)
 |[],_=>rfl
 |k::r,st=>by
  show lend r (lend1 k (lend1 a st))=lend1 a (lend r (lend1 k st))
  rw[vT,SC a r]
theorem V3:∀ (ks qs:List Nat) (st:St),lend ks (lend qs st)=lend qs (lend ks st)
 |[],_,_=>rfl
 |k::r,qs,st=>by
  show lend r (lend1 k (lend qs st))=lend qs (lend r (lend1 k st))
  rw[← SC,V3 r qs]
theorem sc(st:St)(k key:Nat):((lend1 k st)[key]?).map Obj.see=(st[key]?).map Obj.see:=by
 rw[NQ]
 cases st[key]? with
 |none=>rfl
 |some o=>by_cases e:k=key <;> simp[e,Obj.see]
theorem aG(st:St)(k:Nat):∀ l:List Nat,Gg (lend1 k st) l=Gg st l
 |[]=>rfl
 |a::l=>by simp only[Gg,sc,aG st k l]
theorem xN(st:St)(k key:Nat):((lend1 k st)[key]?).isSome=(st[key]?).isSome:=by
 grind
theorem xU(st:St)(k:Nat)(sp:List D→List (Option (Bool×Nat×List D))→Option D)(ds:List D):G8 sp ds (lend1 k st)=G8 sp ds st:=by
 unfold G8;simp only[xN,aG]
theorem uC(p:POp)(u:p.cls≤2)(k:Nat)(st:St):p.exec T ρ (lend1 k st)=(p.exec T ρ st).map fun r=>(r.1,lend1 k r.2):=by
 have mp:∀ {α:Type} (o:Option α) (f:α→D),(o.map fun x=>(f x,lend1 k st))=(o.map fun x=>(f x,st)).map fun r=>(r.1,lend1 k r.2):=by
  intro α o f;cases o <;> rfl
 cases p with
 |mov x=>rfl
 |pick c x y=>simp only[POp.exec]; split <;> rfl
 |box x=>simp[POp.cls]at u
 |bld zero parts=>simp only[POp.exec]; exact mp _ _
 |bslc sz parts=>
  simp only[POp.exec,SA]
  split
  ·split
   ·simp only[Ae,SC]
   ·rfl
  ·rfl
 |load n ag x=>simp only[POp.exec,xa]; exact mp _ _
 |stor n p x=>simp[POp.cls]at u
 |nilc x=>
  simp only[POp.exec,Wz]
  split
  ·rfl
  ·rfl
  ·grind
  ·rfl
 |bin op x y=>simp only[POp.exec]; exact mp _ _
 |beq neg x y=>simp only[POp.exec]; exact mp _ _
 |aeq ks neg x y=>simp only[POp.exec]; exact mp _ _
 |un op x=>simp only[POp.exec]; exact mp _ _
 |conv c x=>simp only[POp.exec,w6]; exact mp _ _
 |mkslc sz bytes zero l c=>simp[POp.cls]at u
 |slice sz x lo hi E=>simp only[POp.exec,xT]; exact mp _ _
 |sliceA n sz ag x lo hi=>simp only[POp.exec]; exact mp _ _
 |fld off x=>simp only[POp.exec,aA]; exact mp _ _
 |fldv off n ag x=>simp only[POp.exec]; exact mp _ _
 |idxS sz x i=>simp only[POp.exec,w9]; exact mp _ _
 |idxA n sz x i=>simp only[POp.exec,w8]; exact mp _ _
 |idx x i=>simp only[POp.exec]; exact mp _ _
 |idxV l sz ag x i=>simp only[POp.exec]; exact mp _ _
 |len str x=>
  simp only[POp.exec,vX]
  split
  ·simp_all
  ·rfl
 |lenA n=>rfl
 |app sz bytes s x=>simp[POp.cls]at u
 |mm E x y=>simp only[POp.exec]; split <;> rfl
 |mm3 E x y z=>simp only[POp.exec]; split <;> rfl
 |rcall f args=>
  simp only[POp.exec,xU]
  split
  ·exact mp _ _
  ·rfl
 |icall f args=>simp[POp.cls]at u
 |mcall f args=>simp[POp.cls]at u
 |fail=>simp[POp.cls]at u
 |mkmap sz=>simp[POp.cls]at u
 |mapup sz ks m k v=>simp[POp.cls]at u
 |cpy sz d s=>simp[POp.cls]at u
 |mapget sz ks ok zero m k=>simp only[POp.exec,yo]; exact mp _ _
 |callv x args=>simp[POp.cls]at u
 |mkclo f args=>rfl
 |call f args=>
  simp only[POp.exec,SA]
  split
  ·split
   ·split
    ·rfl
    ·simp only[Ae,SC]
   ·rfl
  ·rfl
 |ext x i=>
  simp only[POp.exec]
  split
  ·exact mp _ id
  ·rfl
theorem Wb{T:Tbl}{ρ:PA→D}(p:POp)(u:p.cls≤2):∀ (ks:List Nat) (st:St),p.exec T ρ (lend ks st)=(p.exec T ρ st).map fun r=>(r.1,lend ks r.2)
 |[],st=>by cases h:p.exec T ρ st <;> simp[lend,h]
 |k::r,st=>by
  show p.exec T ρ (lend r (lend1 k st))=_
  rw[Wb p u r,uC p u k st];cases p.exec T ρ st <;> rfl
variable {d:D}{st':St}
theorem Se(p:POp)(u:p.cls≤2)(h:p.exec T ρ st=some (d,st')):∃ ks,st'=lend ks st:=by
 have mp:∀ {α:Type} (o:Option α) (f:α→D),(o.map fun x=>(f x,st))=some (d,st')→∃ ks,st'=lend ks st:=by
  intro α o f h;simp only[DA,Dr]at h;obtain⟨_,_,_,rfl⟩:=h;exact⟨[],rfl⟩
 cases p with
 |mov x=>simp only[POp.exec,C9,Dr]at h; exact⟨[],h.2.symm⟩
 |pick c x y=>
  simp only[POp.exec]at h
  split at h
  ·simp only[C9,Dr]at h; exact⟨[],h.2.symm⟩
  ·cases h
 |box x=>simp[POp.cls]at u
 |bld zero parts=>simp only[POp.exec]at h; exact mp _ _ h
 |bslc sz parts=>
  simp only[POp.exec]at h;grind
 |load n ag x=>simp only[POp.exec]at h; exact mp _ _ h
 |stor n p x=>simp[POp.cls]at u
 |nilc x=>
  simp only[POp.exec]at h
  split at h
  ·simp only[C9,Dr]at h; exact⟨[],h.2.symm⟩
  ·simp only[C9,Dr]at h; exact⟨[],h.2.symm⟩
  ·split at h
   ·simp only[C9,Dr]at h; exact⟨[],h.2.symm⟩
   ·cases h
  ·cases h
 |bin op x y=>simp only[POp.exec]at h; exact mp _ _ h
 |beq neg x y=>simp only[POp.exec]at h; exact mp _ _ h
 |aeq ks neg x y=>simp only[POp.exec]at h; exact mp _ _ h
 |un op x=>simp only[POp.exec]at h; exact mp _ _ h
 |conv c x=>simp only[POp.exec]at h; exact mp _ _ h
 |mkslc sz bytes zero l c=>simp[POp.cls]at u
 |slice sz x lo hi E=>simp only[POp.exec]at h; exact mp _ _ h
 |sliceA n sz ag x lo hi=>simp only[POp.exec]at h; exact mp _ _ h
 |fld off x=>simp only[POp.exec]at h; exact mp _ _ h
 |fldv off n ag x=>simp only[POp.exec]at h; exact mp _ _ h
 |idxS sz x i=>simp only[POp.exec]at h; exact mp _ _ h
 |idxA n sz x i=>simp only[POp.exec]at h; exact mp _ _ h
 |idx x i=>simp only[POp.exec]at h; exact mp _ _ h
 |idxV l sz ag x i=>simp only[POp.exec]at h; exact mp _ _ h
 |len str x=>
  simp only[POp.exec]at h
  split at h
  ·exact mp _ (fun n:Nat=>D.int .i64 (n:Int)) h
  ·cases h
 |lenA n=>simp only[POp.exec,C9,Dr]at h; exact⟨[],h.2.symm⟩
 |app sz bytes s x=>simp[POp.cls]at u
 |mm E x y=>
  simp only[POp.exec]at h
  split at h
  ·simp only[C9,Dr]at h; exact⟨[],h.2.symm⟩
  ·cases h
 |mm3 E x y z=>
  simp only[POp.exec]at h
  split at h
  ·simp only[C9,Dr]at h; exact⟨[],h.2.symm⟩
  ·cases h
 |rcall f args=>
  simp only[POp.exec]at h
  split at h
  ·exact mp _ id (by simpa using h)
  ·cases h
 |icall f args=>simp[POp.cls]at u
 |mcall f args=>simp[POp.cls]at u
 |fail=>simp[POp.cls]at u
 |mkmap sz=>simp[POp.cls]at u
 |mapup sz ks m k v=>simp[POp.cls]at u
 |cpy sz d s=>simp[POp.cls]at u
 |mapget sz ks ok zero m k=>simp only[POp.exec]at h; exact mp _ _ h
 |callv x args=>simp[POp.cls]at u
 |mkclo f args=>simp only[POp.exec,C9,Dr]at h; exact⟨[],h.2.symm⟩
 |call f args=>
  simp only[POp.exec]at h
  split at h
  ·split at h
   ·simp only[C9,Dr]at h;obtain⟨_,rfl⟩:=h
    split
    ·exact⟨[],rfl⟩
    ·grind
   ·cases h
  ·cases h
 |ext x i=>
  simp only[POp.exec]at h
  split at h
  ·exact mp _ id h
  ·cases h
theorem Wc(p:POp)(u:p.cls=0)(h:p.exec T ρ st=some (d,st')):st'=st∧∀ st2,p.exec T ρ st2=some (d,st2):=by
 have mp:∀ {α:Type} (o:Option α) (f:α→D),(o.map fun x=>(f x,st))=some (d,st')→st'=st∧∀ st2:St,(o.map fun x=>(f x,st2))=some (d,st2):=by
  simp_all
 cases p with
 |mov x=>simp only[POp.exec,C9,Dr]at h ⊢; exact⟨h.2.symm,fun st2=>⟨h.1,trivial⟩⟩
 |pick c x y=>
  simp only[POp.exec]at h ⊢
  split at h
  ·grind
  ·cases h
 |bld zero parts=>simp only[POp.exec]at h ⊢; exact mp _ _ h
 |bin op x y=>simp only[POp.exec]at h ⊢; exact mp _ _ h
 |beq neg x y=>simp only[POp.exec]at h ⊢; exact mp _ _ h
 |aeq ks neg x y=>simp only[POp.exec]at h ⊢; exact mp _ _ h
 |un op x=>simp only[POp.exec]at h ⊢; exact mp _ _ h
 |conv c x=>
  cases c with
  |str=>simp[POp.cls]at u
  |int k=>
   have e:∀ st2,E0 st2 (.int k) (ρ x)=E0 st (.int k) (ρ x):=fun st2=>by cases ρ x <;> simp only[E0]
   simp only[POp.exec]at h ⊢;obtain⟨E,I⟩:=mp _ _ h;grind
  |bytes=>
   have e:∀ st2,E0 st2 .bytes (ρ x)=E0 st .bytes (ρ x):=fun st2=>by cases ρ x <;> simp only[E0]
   simp only[POp.exec]at h ⊢;obtain⟨E,I⟩:=mp _ _ h;grind
  |same=>
   have e:∀ st2,E0 st2 .same (ρ x)=E0 st .same (ρ x):=fun st2=>by cases ρ x <;> simp only[E0]
   simp only[POp.exec]at h ⊢;obtain⟨E,I⟩:=mp _ _ h;grind
 |sliceA n sz ag x lo hi=>simp only[POp.exec]at h ⊢; exact mp _ _ h
 |fldv off n ag x=>simp only[POp.exec]at h ⊢; exact mp _ _ h
 |idx x i=>simp only[POp.exec]at h ⊢; exact mp _ _ h
 |idxV l sz ag x i=>simp only[POp.exec]at h ⊢; exact mp _ _ h
 |mkclo f args=>simp only[POp.exec,C9,Dr]at h ⊢; exact⟨h.2.symm,fun st2=>⟨h.1,trivial⟩⟩
 |lenA n=>simp only[POp.exec,C9,Dr]at h ⊢; exact⟨h.2.symm,fun st2=>⟨h.1,trivial⟩⟩
 |mm J x y=>
  simp only[POp.exec]at h ⊢
  split at h
  ·grind
  ·cases h
 |mm3 J x y z=>
  simp only[POp.exec]at h ⊢
  split at h
  ·grind
  ·cases h
 |ext x i=>
  simp only[POp.exec]at h ⊢
  split at h
  ·exact mp _ id h
  ·cases h
 |_=>simp[POp.cls]at u
theorem RL(fr:Frame){x y:Option Nat}(u v:D)(h:∀ d,x=some d→y≠some d):(fr.put x u).put y v=(fr.put y v).put x u:=by
 cases x with
 |none=>rfl
 |some a=>
  cases y with
  |none=>rfl
  |some b=>
   have E:a≠b:=fun e=>h a rfl (e ▸ rfl)
   funext t
   simp only[Frame.put,Frame.set];grind
theorem Yda{k:Nat}{a:Obj}(o:Obj)(h:st[k]?=some a):(st++[o])[k]?=some a:=by
 grind
variable {key off tot:Nat}
theorem bC{len:Nat}{r:Nat×List D}(o:Obj)(h:Gy st key tot off len=some r):Gy (st++[o]) key tot off len=some r:=by
 unfold Gy at h ⊢;grind
variable {ag:Bool}{n sz:Nat}
theorem pY{r:List D}(o:Obj)(h:G0 st key off n sz ag=some r):G0 (st++[o]) key off n sz ag=some r:=by
 unfold G0 JI at h ⊢;grind
variable {y:D}
theorem jN(o:Obj)(h:DD st d=some y):DD (st++[o]) d=some y:=by
 cases d <;> simp only[DD]at h ⊢ <;> first
  |exact h
  |(simp only[DA]at h ⊢
    obtain⟨r,u,E⟩:=h;exact⟨r,bC o u,E⟩)
  |(simp only[DA]at h ⊢
    obtain⟨r,u,E⟩:=h;exact⟨r,pY o u,E⟩)
theorem jv{st:St}(o:Obj):∀ {ds ys:List D},D3 st ds=some ys→D3 (st++[o]) ds=some ys
 |[],ys,h=>h
 |d::l,ys,h=>by
  simp only[D3]at h ⊢
  split at h
  ·rename_i x y u E;rw[jN o u,jv o E]; exact h
  ·cases h
theorem Ycu(o:Obj)(h:D4 st d=some y):D4 (st++[o]) d=some y:=by
 cases d <;> simp only[D4]at h ⊢ <;> first
  |exact jN o h
  |(simp only[DA]at h ⊢
    obtain⟨r,u,E⟩:=h;exact⟨r,jv o u,E⟩)
  |(cases h; done)
theorem V0{st:St}(o:Obj):∀ {ds ys:List D},D2 st ds=some ys→D2 (st++[o]) ds=some ys
 |[],ys,h=>h
 |d::l,ys,h=>by
  simp only[D2]at h ⊢
  split at h
  ·rename_i x y u E;rw[Ycu o u,V0 o E]; exact h
  ·cases h
theorem V7(o:Obj)(h:Eu st key tot=true):Eu (st++[o]) key tot=true:=by
 unfold Eu at h ⊢;grind
theorem tC(o:Obj)(h:Fa st d=some n):Fa (st++[o]) d=some n:=by
 cases d <;> simp only[Fa]at h ⊢ <;> first
  |exact h
  |(split at h
    ·rename_i hl;rw[V7 o hl]; simpa using h
    ·cases h)
theorem vB{c:PConv}(o:Obj)(h:E0 st c d=some y):E0 (st++[o]) c d=some y:=by
 cases c <;> cases d <;> simp only[E0]at h ⊢ <;> first
  |exact h
  |(split at h
    ·rename_i sz els u;rw[bC o u]; exact h
    ·cases h)
variable {x:D}
theorem xd{lo hi u:Option D}(o:Obj)(h:FX st sz x lo hi u=some y):FX (st++[o]) sz x lo hi u=some y:=by
 cases x with
 |row key tot off len=>
  simp only[FX]at h ⊢;grind
 |_=>simpa only[FX]using h
theorem vL{i:D}(o:Obj)(h:Fy st sz x i=some y):Fy (st++[o]) sz x i=some y:=by
 unfold Fy at h ⊢
 cases u:Fj i with
 |none=>simp[u]at h
 |some j=>
  grind
theorem j7(o:Obj)(h:EK st off x=some y):EK (st++[o]) off x=some y:=by
 cases x <;> simp only[EK]at h ⊢ <;> first
  |exact h
  |(split at h
    ·rename_i hl;rw[V7 o hl]; simpa using h
    ·cases h)
theorem vJ{i:D}(o:Obj)(h:GS st n sz x i=some y):GS (st++[o]) n sz x i=some y:=by
 unfold GS at h ⊢
 cases u:Fj i with
 |none=>simp[u]at h
 |some j=>
  rw[u]at h;simp only at h ⊢
  split at h
  ·rename_i E;rw[if_pos E]; exact j7 o h
  ·cases h
theorem wu{p:D}(o:Obj)(h:EU st n ag p=some y):EU (st++[o]) n ag p=some y:=by
 unfold EU at h ⊢;grind
theorem xS{ks:List Nat}{ok:Bool}{u m k:D}(o:Obj)(h:Hw st sz ks ok u m k=some y):Hw (st++[o]) sz ks ok u m k=some y:=by
 unfold Hw at h ⊢;grind
theorem jL(h:DD st d=some y):∀ k∈Fp d,k<st.length:=by
 cases d with
 |row key tot off len=>
  simp only[DD,DA]at h;obtain⟨r,u,_⟩:=h;unfold Gy at u
  split at u
  ·rename_i a ha;intro k hk;simp only[Fp,AP]at hk;grind
  ·cases u
 |bsl key off n sz ag=>
  simp only[DD,DA]at h;obtain⟨r,u,_⟩:=h;intro k hk;simp only[Fp,AP]at hk;subst hk;unfold G0 JI at u;grind
 |_=>intro k hk; simp[Fp]at hk
theorem jP{st:St}:∀ {ds ys:List D},D3 st ds=some ys→∀ k∈ds.flatMap Fp,k<st.length
 |[],_,_=>fun k hk=>by simp at hk
 |d::l,ys,h=>by
  simp only[D3]at h
  split at h
  ·rename_i x y u E;intro k hk;simp only[An,AF]at hk;rcases hk with hk | hk
   ·exact jL u k hk
   ·exact jP E k hk
  ·cases h
theorem Ycv(h:D4 st d=some y):∀ k∈keys d,k<st.length:=by
 cases d with
 |agg l=>
  simp only[D4,DA]at h;obtain⟨r,u,_⟩:=h;exact jP u
 |tup l=>simp[D4]at h
 |_=>simp only[D4]at h; exact jL h
theorem VZ{st:St}:∀ {ds ys:List D},D2 st ds=some ys→∀ k∈ds.flatMap keys,k<st.length
 |[],_,_=>fun k hk=>by simp at hk
 |d::l,ys,h=>by
  simp only[D2]at h
  split at h
  ·rename_i x y u E;intro k hk;simp only[An,AF]at hk;rcases hk with hk | hk
   ·exact Ycv u k hk
   ·exact VZ E k hk
  ·cases h
theorem LR:∀ (ks:List Nat) (st:St),(lend ks st).length=st.length
 |[],_=>rfl
 |k::r,st=>by rw[lend,LR r,List.length_modify]
theorem V4{o:Obj}:∀ (ks:List Nat) (st:St),(∀ k∈ks,k<st.length)→lend ks (st++[o])=lend ks st++[o]
 |[],_,_=>rfl
 |k::r,st,h=>by
  have u:(st++[o]).modify k (fun o=>{o with lent:=true})=st.modify k (fun o=>{o with lent:=true})++[o]:=by
   apply A9;grind
  rw[lend,lend,u,V4 r _ (fun q E=>by rw[List.length_modify]; exact h q (by simp[E]))]
theorem jX{st:St}(o:Obj):∀ {l:List Nat},l.all (fun k=>(st[k]?).isSome)=true→Gg (st++[o]) l=Gg st l
 |[],_=>rfl
 |a::l,h=>by
  simp only[AU,Ac]at h;obtain⟨x,u⟩:=Option.isSome_iff_exists.1 h.1;simp only[Gg,Yda o u,u,jX o h.2]
theorem xf(o:Obj){sp:List D→List (Option (Bool×Nat×List D))→Option D}{ds:List D}(h:G8 sp ds st=some d):G8 sp ds (st++[o])=some d:=by
 unfold G8 at h ⊢
 split at h
 case isFalse=>cases h
 rename_i u
 rw[if_pos (by
  grind),jX o u]
 exact h
theorem sv{o:Obj}(p:POp)(u:p.cls≤2)(h:p.exec T ρ st=some (d,st')):p.exec T ρ (st++[o])=some (d,st'++[o]):=by
 have mp:∀ {α:Type} (a b:Option α) (f:α→D),(∀ y,a=some y→b=some y)→(a.map fun x=>(f x,st))=some (d,st')→(b.map fun x=>(f x,st++[o]))=some (d,st'++[o]):=by
  simp_all
 cases p with
 |mov x=>simp only[POp.exec,C9,Dr]at h ⊢; exact⟨h.1,by rw[h.2]⟩
 |pick c x y=>
  simp only[POp.exec]at h ⊢
  split at h
  ·grind
  ·cases h
 |box x=>simp[POp.cls]at u
 |bld zero parts=>simp only[POp.exec]at h ⊢; exact mp _ _ _ (fun _ h=>h) h
 |bslc sz parts=>
  simp only[POp.exec]at h ⊢
  split at h
  ·rename_i els he;rw[V0 o he];simp only
   split at h
   ·rename_i I;rw[if_pos I];simp only[C9,Dr]at h ⊢;exact⟨h.1,by rw[← h.2,V4 _ _ (VZ he)]⟩
   ·cases h
  ·cases h
 |load n ag x=>simp only[POp.exec]at h ⊢; exact mp _ _ _ (fun _ h=>wu o h) h
 |stor n p x=>simp[POp.cls]at u
 |nilc x=>
  simp only[POp.exec]at h ⊢
  split at h
  ·grind
  ·grind
  ·split at h
   ·rename_i hl;rw[V7 o hl];grind
   ·cases h
  ·cases h
 |bin op x y=>simp only[POp.exec]at h ⊢; exact mp _ _ _ (fun _ h=>h) h
 |beq neg x y=>simp only[POp.exec]at h ⊢; exact mp _ _ _ (fun _ h=>h) h
 |aeq ks neg x y=>simp only[POp.exec]at h ⊢; exact mp _ _ _ (fun _ h=>h) h
 |un op x=>simp only[POp.exec]at h ⊢; exact mp _ _ _ (fun _ h=>h) h
 |conv c x=>simp only[POp.exec]at h ⊢; exact mp _ _ _ (fun _ h=>vB o h) h
 |mkslc sz bytes zero l c=>simp[POp.cls]at u
 |slice sz x lo hi J=>simp only[POp.exec]at h ⊢; exact mp _ _ _ (fun _ h=>xd o h) h
 |sliceA n sz ag x lo hi=>simp only[POp.exec]at h ⊢; exact mp _ _ _ (fun _ h=>h) h
 |fld off x=>simp only[POp.exec]at h ⊢; exact mp _ _ _ (fun _ h=>j7 o h) h
 |fldv off n ag x=>simp only[POp.exec]at h ⊢; exact mp _ _ _ (fun _ h=>h) h
 |idxS sz x i=>simp only[POp.exec]at h ⊢; exact mp _ _ _ (fun _ h=>vL o h) h
 |idxA n sz x i=>simp only[POp.exec]at h ⊢; exact mp _ _ _ (fun _ h=>vJ o h) h
 |idx x i=>simp only[POp.exec]at h ⊢; exact mp _ _ _ (fun _ h=>h) h
 |idxV l sz ag x i=>simp only[POp.exec]at h ⊢; exact mp _ _ _ (fun _ h=>h) h
 |len str x=>
  simp only[POp.exec]at h ⊢
  split at h
  ·rename_i N;rw[if_pos N];exact mp _ _ _ (fun _ h=>tC o h) h
  ·cases h
 |lenA n=>simp only[POp.exec,C9,Dr]at h ⊢; exact⟨h.1,by rw[h.2]⟩
 |app sz bytes s x=>simp[POp.cls]at u
 |mm J x y=>
  simp only[POp.exec]at h ⊢
  split at h
  ·grind
  ·cases h
 |mm3 J x y z=>
  simp only[POp.exec]at h ⊢
  split at h
  ·grind
  ·cases h
 |rcall f args=>
  simp only[POp.exec]at h ⊢
  split at h
  ·exact mp _ _ _ (fun _ h=>xf o h) h
  ·cases h
 |icall f args=>simp[POp.cls]at u
 |mcall f args=>simp[POp.cls]at u
 |fail=>simp[POp.cls]at u
 |mkmap sz=>simp[POp.cls]at u
 |mapup sz ks m k v=>simp[POp.cls]at u
 |cpy sz d s=>simp[POp.cls]at u
 |mapget sz ks ok zero m k=>simp only[POp.exec]at h ⊢; exact mp _ _ _ (fun _ h=>xS o h) h
 |callv x args=>simp[POp.cls]at u
 |mkclo f args=>simp only[POp.exec,C9,Dr]at h ⊢; exact⟨h.1,by rw[h.2]⟩
 |call f args=>
  simp only[POp.exec]at h ⊢
  split at h
  ·rename_i sp vs M E;simp only[M,V0 o E]
   split at h
   ·rename_i r O;simp only[C9,Dr]at h ⊢;refine⟨h.1,?_⟩;rw[← h.2]
    split
    ·rfl
    ·rw[V4 _ _ (VZ E)]
   ·cases h
  ·cases h
 |ext x i=>
  simp only[POp.exec]at h ⊢
  split at h
  ·simp_all
  ·cases h
theorem tl{p:POp}(E:p.push=true)(h:p.exec T ρ st=some (d,st')):∃ o,∀ st1:St,st1.length=st.length→p.exec T ρ st1=some (d,st1++[o]):=by
 cases p with
 |box x=>
  simp only[POp.exec]at h ⊢
  split at h
  ·rename_i u;simp only[C9,Dr]at h;exact⟨_,fun st1 hl=>by rw[if_pos u,hl,h.1]⟩
  ·cases h
 |mkslc sz bytes zero l c=>
  simp only[POp.exec]at h ⊢
  split at h
  ·split at h
   ·rename_i u;simp only[C9,Dr]at h;exact⟨_,fun st1 hl=>by rw[if_pos u,hl,h.1]⟩
   ·cases h
  ·cases h
 |_=>simp[POp.push]at E
variable {dst:Option Nat}{fr:Frame}{G:Dh}
theorem fy{u:PA}(h:∀ t,dst=some t→t∉u.slot):Dn G (fr.put dst d) u=Dn G fr u:=by
 cases u with
 |s n=>
  cases dst with
  |none=>rfl
  |some t=>
   have:n≠t:=fun e=>h t rfl (by simp[PA.slot,e]);simp[Dn,Frame.put,Frame.set,this]
 |_=>rfl
theorem J9{i:PI}(h:∀ t,dst=some t→t∉i.reads):i.op.exec T (Dn G (fr.put dst d)) st=i.op.exec T (Dn G fr) st:=by
 refine uB i.op fun x E=>fy fun t u hm=>h t u ?_;simp only[PI.reads,AF,Bk];grind
theorem Ph{i:PI}(h:∀ t,dst=some t→t∉i.reads):i.wanted (fr.put dst d)=i.wanted fr:=by
 unfold PI.wanted
 cases u:i.guard with
 |none=>rfl
 |some q=>
  obtain⟨s,want⟩:=q
  cases dst with
  |none=>rfl
  |some t=>
   have:s≠t:=fun e=>h t rfl (by simp[PI.reads,u,Gj,e]);simp[Frame.put,Frame.set,this]
def PI.step(G:Dh)(T:Tbl)(i:PI)(s:PS):Option (D×St):=
 match i.wanted s.fr with
 |none=>none
 |some false=>some (.tup [],s.st)
 |some true=>i.op.exec T (Dn G s.fr) s.st
theorem PI.exec_eq(i:PI)(s:PS):i.exec G T s=(i.step G T s).map fun r=>{fr:=s.fr.put i.dst r.1,st:=r.2}:=by
 unfold PI.exec PI.step;grind
theorem kn{x y:PI}(h:x.apart y=true):(∀ t,x.dst=some t→t∉y.reads)∧(∀ t,x.dst=some t→y.dst≠some t)∧(∀ t,y.dst=some t→t∉x.reads)∧(x.op.cls=0∨y.op.cls=0∨(x.op.cls≤2∧y.op.cls≤2)∨(x.op.cls≤2∧y.op.push=true)):=by
 simp only[PI.apart,Ac,A5,beq_iff_eq,decide_eq_true_eq]at h;grind
theorem ZC{x y:PI}{s s1 s2:PS}(h:x.apart y=true)(I:x.exec G T s=some s1)(u:y.exec G T s1=some s2):∃ U,y.exec G T s=some U∧x.exec G T U=some s2:=by
 obtain⟨a1,a2,X,a4⟩:=kn h;rw[PI.exec_eq]at I u;simp only[DA]at I u;obtain⟨⟨dx,stx⟩,I,rfl⟩:=I;obtain⟨⟨dy,V⟩,u,rfl⟩:=u;simp only at u;have af:y.wanted (s.fr.put x.dst dx)=y.wanted s.fr:=Ph a1
 have key:∀ N,y.step G T s=some (dy,N)→(∀ d,x.step G T {fr:=s.fr.put y.dst d,st:=N}=some (dx,V))→∃ U,y.exec G T s=some U∧x.exec G T U=some {fr:=(s.fr.put x.dst dx).put y.dst dy,st:=V}:=by
  intro N Y O;refine⟨{fr:=s.fr.put y.dst dy,st:=N},by rw[PI.exec_eq,Y]; rfl,?_⟩;rw[PI.exec_eq,O dy];simp only[Ae];rw[RL s.fr dx dy a2]
 unfold PI.step at I u;simp only[af]at u;have M:∀ d,x.wanted (s.fr.put y.dst d)=x.wanted s.fr:=fun d=>Ph X
 -- by a0 of a8 two is carried out
 cases J:x.wanted s.fr with
 |none=>simp[J]at I
 |some bx=>
  cases E:y.wanted s.fr with
  |none=>simp[E]at u
  |some ad=>
   cases bx with
   |false=>
    simp only[J,C9,Dr]at I;obtain⟨rfl,rfl⟩:=I
    cases ad with
    |false=>
     simp only[E,C9,Dr]at u;obtain⟨rfl,rfl⟩:=u;exact key s.st (by simp[PI.step,E]) (fun d=>by simp[PI.step,M,J])
    |true=>
     simp only[E]at u;rw[J9 a1]at u;exact key V (by simp[PI.step,E,u]) (fun d=>by simp[PI.step,M,J])
   |true=>
    simp only[J]at I
    cases ad with
    |false=>
     simp only[E,C9,Dr]at u;obtain⟨rfl,rfl⟩:=u;exact key s.st (by simp[PI.step,E]) (fun d=>by simp only[PI.step,M,J]; rw[J9 X]; exact I)
    |true=>
     simp only[E]at u;rw[J9 a1]at u;rcases a4 with c | c | ⟨c1,c2⟩ | ⟨c1,c2⟩
     ·obtain⟨rfl,O⟩:=Wc x.op c I;exact key V (by simp[PI.step,E,u]) (fun d=>by simp only[PI.step,M,J]; rw[J9 X]; exact O _)
     ·obtain⟨rfl,O⟩:=Wc y.op c u;exact key s.st (by simp only[PI.step,E]; exact O _) (fun d=>by simp only[PI.step,M,J]; rw[J9 X]; exact I)
     ·obtain⟨ks,rfl⟩:=Se x.op c1 I;rw[Wb y.op c2]at u;simp only[DA,Dr,Prod.exists]at u;obtain⟨a9,st',Y,rfl,rfl⟩:=u;obtain⟨qs,rfl⟩:=Se y.op c2 Y;refine key _ (by simp only[PI.step,E]; exact Y) (fun d=>?_);simp only[PI.step,M,J];rw[J9 X,Wb x.op c1,I];simp only[Ae];rw[V3]
     ·obtain⟨ks,rfl⟩:=Se x.op c1 I;obtain⟨o,ho⟩:=tl c2 u;have Y:=ho s.st (by rw[LR]);have O:=ho (lend ks s.st) rfl;rw[u]at O;simp only[C9,Dr,true_and]at O;refine key _ (by simp only[PI.step,E]; exact Y) (fun d=>?_);simp only[PI.step,M,J];rw[J9 X,sv x.op c1 I,O]
end Go.Proofs.YtijnglngaogdjaaGreatDoor.PI
