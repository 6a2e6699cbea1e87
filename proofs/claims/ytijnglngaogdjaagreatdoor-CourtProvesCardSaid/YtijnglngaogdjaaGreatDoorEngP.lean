/-
  Which pure operations may change places, and that they then come to the same.
  Conditions: none; these are definitions and lemmas.
-/
import Derived.Test.YtijnglngaogdjaaGreatDoorEngK
import Derived.ChangeKeysEq
import Derived.MapKept
import Derived.Laws.CopyRow
import Derived.Laws.IdiomCopy
import Derived.DefersIn
open ByteArray renaming size→CX
open List renaming range→CS,replicate→CQ
set_option linter.unusedVariables false
set_option linter.unusedSimpArgs false
namespace Go.Proofs.YtijnglngaogdjaaGreatDoor.PI
open Go Go.RowKit
variable {els:List D}{sz:Nat}{v:Value}{x:D}{e:TypeId}
section
variable {P:Program} {base:Nat} {w:World} {g:Ghost} {st:St}
theorem Els.cast{E:Nat}(h:Els w g st v sz els)(e:sz=E∨els=[]):Els w g st v E els:=by
 rcases e with rfl | rfl
 ·exact h
 ·obtain⟨⟨a,cap,I,_⟩,_,_⟩:=h;exact⟨⟨a,cap,I,fun h=>absurd rfl h⟩,fun i j d J=>by simp[FT]at J,fun e he=>by cases he⟩
theorem iW(I:SR base w g st)(h:G7 st x=some (sz,els))(E:RepV w g st x v):Els w g st v sz els∨∃ s,x=.str s∧sz=1∧els=s.map Dl:=by
 unfold G7 at h
 split at h
 ·simp only[Db,Dv]at h;obtain⟨rfl,rfl⟩:=h;exact .inl (Vk E)
 ·exact .inl (fX I h E).1
 ·rename_i key off n N ag
  split at h
  ·rename_i M he
   split at h
   ·rename_i J;simp only[Db,Dv]at h;obtain⟨rfl,rfl⟩:=h;exact .inl (wv I he E (Ak.1 J)).1
   ·cases h
  ·cases h
 ·grind
 ·cases h
theorem Ysz(N:SR base w g st){E:Nat}(h:G7 st x=some (E,els))(J:RepV w g st x v)(I:E=sz∨els=[]) :
  ∃ ns,News w g st P v sz els ns:=by
 rcases iW N h J with O | ⟨s,rfl,rfl,rfl⟩
 ·exact eK (O.cast I)
 ·obtain rfl:=MD J;rcases I with rfl | M
  ·exact yQb s
  ·simp at M; subst M;have e:CX ⟨([]:List UInt8).toArray⟩=0:=rfl;exact⟨[],by simp,by simp,fun i j d U=>by simp[FT]at U,⟨by simp[Builtin.lenOf,e],by simp[Builtin.lenOf,e]⟩,⟨by simp[Builtin.firstCells],by simp[Builtin.firstCells]⟩⟩
theorem yYc(J:SR base w g st)(h:G7 st x=some (sz,els))(M:RepV w g st x v):(∀ e∈els,e.cells.length=sz)∧∀ i j d,FT els i j=some d→d.pure1=true:=by
 rcases iW J h M with I | ⟨s,rfl,rfl,rfl⟩
 ·exact⟨I.len,I.pure⟩
 ·refine⟨fun e he=>?_,fun i j d N=>?_⟩
  ·simp only[AW]at he;obtain⟨b,_,rfl⟩:=he;rfl
  ·obtain⟨e,he,E⟩:=Iq N;simp only[AJ,DG]at he;obtain⟨b,_,rfl⟩:=he
   cases j with
   |zero=>simp[Dl,D.cells]at E; subst E; rfl
   |succ j=>simp[Dl,D.cells]at E
theorem fj(w:World)(o:Go.Obj):(w.drew.alloc o).heap[w.heap.size]?=some o:=by
 show(w.heap.push o)[w.heap.size]?=_
 simp
theorem rz{E:List D}{os ns zs:List Value}(V:os.length=E.length*sz)
  (J:∀ (i j:Nat) d,FT E i j=some d→∃ u,os[i*sz+j]?=some u∧RepV w g st d u) (hn:∀ (i j:Nat) d,FT els i j=some d→∃ u,ns[i*sz+j]?=some u∧RepV w g st d u) (Y:ns.length=els.length*sz) :
  ∀ (i j:Nat) d,FT (E++els) i j=some d→∃ u,(os++ns++zs)[i*sz+j]?=some u∧RepV w g st d u:=by
 intro i j d M;obtain⟨e,he,I⟩:=Iq M
 by_cases N:i<E.length
 ·rw[Au N]at he;obtain⟨u,O,U⟩:=J i j d (HO he I);grind
 ·rw[AK (by omega)]at he;obtain⟨u,O,U⟩:=hn (i - E.length) j d (HO he I);have h5:i*sz=E.length*sz+(i - E.length)*sz:=by rw[← A3]; congr 1; omega
  grind
theorem Yki(hS:SR base w g st){t tx ty:TypeId}{i:TypeInfo}{z:Value}{bytes:Nat}{s d:D}{vs vx:Value}{st':St}(ht:P.underlying t=some (.slice e))(a5:(∃ e',P.underlying tx=some (.slice e'))∨P.underlying tx=some .string)
  (hi:P.info? e=some i) (hz:i.zero=some z) (c5:i.size=sz) (c6:i.bytes=bytes) (b9:z.cells.size=sz) (h:Ep st sz bytes s x=some (d,st')) (ab:RepV w g st s vs) (ca:RepV w g st x vx) :
  RunsTo P base w g st (Builtin.append_ #[t,tx] ty #[vs,vx]) d st':=by
 subst c5; subst c6;unfold Ep at h
 split at h
 ·cases h
 rename_i c7 xs hx
 split at h
 ·cases h
 rename_i hc;simp only[A6,AU,Bool.or_eq_false_iff,beq_eq_false_iff_ne,List.isEmpty_eq_false_iff,beq_iff_eq,not_or,not_and,ne_eq]at hc;have h0:0<i.size:=by omega
 have da:c7=i.size∨xs=[]:=by
  grind
 obtain⟨ns,N⟩:=Ysz (P:=P) hS hx ca da;obtain⟨kb,cb⟩:=yYc hS hx ca
 have d9:∀ e∈xs,e.cells.length=i.size:=by
  grind
 split at h
 ·
  rename_i key tot off len
  split at h
  case h_2=>cases h
  rename_i o ho
  split at h
  case isFalse=>cases h
  rename_i O;simp only[Af,beq_iff_eq,decide_eq_true_eq]at O;obtain⟨⟨⟨⟨⟨⟨M,ac⟩,ba⟩,rfl⟩,hlen⟩,Y⟩,cd⟩:=O;simp only[Db,Dv]at h;obtain⟨rfl,rfl⟩:=h;obtain⟨E,h1,h2,h3,rfl,h5⟩:=TA (by simp[E0,ho,M,ba]) ab;obtain rfl:E=o:=AB (h1.symm.trans ho);subst hlen;subst ba;obtain⟨C,e',hb,d7,ha,dd,hC,bb⟩:=hS.blk key E ho (M6 M);rw[M]at hC;simp only[if_true]at hC;rw[Cd,Nat.sub_zero];have de:key<st.length:=(Ac.1 ho).1
  have b4:∀ (C':Array Value),(∀ (I j:Nat) d,FT (E.els++xs) I j=some d→∃ u,C'[I*E.sz+j]?=some u∧RepV w g st d u)→
    ∀ (I j:Nat) d,FT (E.els++xs) I j=some d→(E.row=true→d.pure1=true)∧∃ u,C'[I*E.sz+j]?=some u∧RepV w g st d u:=by
   intro C' df I j d J;refine⟨fun _=>?_,df I j d J⟩
   by_cases h6:I<E.els.length
   ·rw[fm h6]at J;grind
   ·obtain⟨e1,U,a2⟩:=Iq J;rw[AK (by omega)]at U;exact cb _ _ _ (HO U a2)
  have cf:∀ y∈E.els++xs,y.cells.length=E.sz:=by
   grind
  have bc:∀ (B c:Nat) (w':World) (C':Array Value) (cc:TypeId),((B=g.β key∧c=g.γ key)∨(w.heap.size≤B∧E.els.length<(E.els++xs).length∧E.row=true))→Beside w w'→(∀ b,b<w.heap.size→b≠B→w'.heap[b]?=w.heap[b]?)→
    w'.heap[B]?=some (.cells C' cc (0,0))→(B=g.β key→∀ y,g.Im (g.β key) y→C'[y]?=C[y]?)→C'.size=c*E.sz→(E.els++xs).length≤c→c≤maxLen→
    (∀ (I j:Nat) d,FT (E.els++xs) I j=some d→∃ u,C'[I*E.sz+j]?=some u∧RepV w g st d u)→
    (Builtin.append_ #[t,tx] ty #[.slice (some ⟨g.β key,0,none⟩) E.els.length (g.γ key),vx]).run P w=.ok (.slice (some ⟨B,0,none⟩) (E.els.length+xs.length) c) w'→
    RunsTo P base w g st (Builtin.append_ #[t,tx] ty #[.slice (some ⟨g.β key,0,none⟩) E.els.length (g.γ key),vx]) (.row key (E.els.length+xs.length) 0 (E.els.length+xs.length)) (st.set key {E with els:=E.els++xs}):=by
   intro B c w' C' cc hB cg b5 ch dg b6 V dh b7 c0;have bd:=SR.update (o':={E with els:=E.els++xs}) hS ho (M6 M) hb hB rfl rfl (by simp) rfl cf cg b5 ch dg (by rw[M]; simp only[if_true]; exact⟨b6,V,dh⟩) (b4 C' b7);refine⟨_,_,_,c0,bd,?_⟩;refine .row _ _ _ _ {E with els:=E.els++xs} _ rfl (by simp[de]) M (by simp) fun _=>⟨?_,by omega⟩;simp[Ip]
  by_cases ae:E.els.length+xs.length≤g.γ key
  ·have be:E.els.length*i.size+ns.length≤C.size:=by
    rw[N.len,hC.1,ac,← A3]; exact AS _ ae
   -- a6 c1 type is a6 c2 own,or it hg not d0: a6 store looks at a6 cells alone
   have d2:(Builtin.append_ #[t,tx] ty #[.slice (some ⟨g.β key,0,none⟩) E.els.length (g.γ key),vx]).run P w=.ok (.slice (some ⟨g.β key,0,none⟩) (E.els.length+xs.length) (g.γ key)) (w.setRow (g.β key) (C.toList.take (E.els.length*i.size)++ns++C.toList.drop (E.els.length*i.size+ns.length)).toArray):=
    Yoj ht a5 hi hb N ae be
   refine bc (g.β key) (g.γ key) _ _ e' (.inl ⟨rfl,rfl⟩) (UD w _ _) (fun b _ bf=>setRow_other w _ _ _ (by omega)) (setRow_heap w _ C _ e' _ hb) ?_ ?_ (by simpa using ae) hC.2.2 ?_ d2
   ·intro _ y hy;have:=(hS.dis key E y ho hy).2;grind
   ·grind
   ·intro I j d J;rw[Uz be,N.len,ac];obtain⟨e1,U,a2⟩:=Iq J
    have hj:j<i.size:=by
     grind
    by_cases h6:I<E.els.length
    ·rw[fm h6]at J;have:(I+1)*i.size≤E.els.length*i.size:=AS _ h6;grind
    ·rw[AK (by omega)]at U;have h7:I - E.els.length<xs.length:=(Ac.1 U).1;have h8:I*i.size=E.els.length*i.size+(I - E.els.length)*i.size:=by rw[← A3]; congr 1; omega
     have h9:(I - E.els.length+1)*i.size≤xs.length*i.size:=AS _ h7;rw[A3,BB]at h9;rw[if_pos (by omega),show I*i.size+j - E.els.length*i.size=(I - E.els.length)*i.size+j by omega];exact N.rep _ _ _ (HO U a2)
  ·have hE:Els w g st (.slice (some ⟨g.β key,0,none⟩) E.els.length (g.γ key)) i.size E.els:=by
    refine⟨⟨_,_,rfl,fun _=>⟨_,_,rfl,h0,?_⟩⟩,fun I j d J=>(bb I j d J).1 M,fun y hy=>by rw[← ac]; exact dd y hy⟩;intro I j d J;obtain⟨hp,u,h6,h7⟩:=bb I j d J;refine⟨u,?_,h7,h7.oneCell (QT (hp M))⟩;simp only[World.cell?,hb];grind
   obtain⟨os,hO⟩:=eK (P:=P) hE;have ah:=oo (ty:=ty) ht a5 hi hz N hO rfl (by omega) (by omega) (rv (by omega) Y);have bh:=grownCap_ge w (E.els.length+xs.length) (g.γ key) e;refine bc w.heap.size _ (w.drew.alloc (.cells (os.toArray++ns.toArray++Builtin.zeroCells z.cells (grownCap w (E.els.length+xs.length) (g.γ key) e - (E.els.length+xs.length))) e)) _ e (.inr ⟨AD _,by simp; omega,M⟩) ⟨rfl,rfl,rfl,by simp⟩ ?_ (fj w _) (fun e1=>by have:=hS.lt ho; omega) ?_ (by simpa using bh) (grownCap_le_maxLen w _ _ e (by unfold maxLen; omega)) ?_ ah
   ·intro b b1 _; exact Qy w _ b b1
   ·simp only[Array.size_append,Cw,hO.len,N.len,size_zeroCells,b9,ac];rw[← A3,← A3]
    congr 1
    omega
   ·intro I j d J;have:=rz (zs:=(Builtin.zeroCells z.cells (grownCap w (E.els.length+xs.length) (g.γ key) e - (E.els.length+xs.length))).toList) hO.len hO.rep N.rep N.len I j d J;grind
 ·
  rename_i kc els
  split at h
  ·rename_i he;simp only[BK]at he;subst he;simp only[Db,Dv]at h;obtain⟨rfl,rfl⟩:=h;refine .still hS ?_ ab;obtain⟨⟨a,cap,rfl,_⟩,_,_⟩:=Vk ab
   have V:els.length≤cap:=by
    cases ab with
    |slcE=>simp
    |slc _ _ b off cap _ val h1 h2 h3 d3 h4=>exact h4
   have d5:ns=[]:=AR (by simpa using N.len);have h1:=N.lenOf.1;have h2:=N.first.1
   subst d5;simp only[Aq]at h1 h2;rcases a5 with⟨e',J⟩ | J
   ·cases a <;> simp[Builtin.append_,run_underlying ht,sizeOf,typeInfo,hi,run_underlying J,h1,V,h2,storeCells]
   ·cases a <;> simp[Builtin.append_,run_underlying ht,sizeOf,typeInfo,hi,run_underlying J,h1,V,h2,storeCells]
  ·rename_i bf;simp only[BK]at bf;have d8:0<xs.length:=List.length_pos_iff.2 bf
   split at h
   case isFalse=>cases h
   rename_i O;simp only[Af,decide_eq_true_eq,A6,beq_iff_eq,BK]at O;obtain⟨⟨d6,Y⟩,cd⟩:=O;simp only[Db,Dv]at h;obtain⟨rfl,rfl⟩:=h;have hE:=(Vk ab).cast d6;obtain⟨os,hO⟩:=eK (P:=P) hE;obtain⟨⟨a,cap,rfl,_⟩,kd,ke⟩:=hE
   have V:cap=els.length:=by
    cases ab with
    |slcE _ _ _ _ h1=>exact h1 rfl
    |slc _ _ b off cap _ val h1 h2 h3 d3 h4 h5=>exact h5 rfl
   subst V;have ah:=oo (ty:=ty) ht a5 hi hz N hO rfl (by omega) (by omega) (rv (by omega) Y);have bh:=grownCap_ge w (els.length+xs.length) els.length e
   have bd:=SR.push (o:={row:=true,sz:=i.size,els:=els++xs,lent:=false}) (c:=grownCap w (els.length+xs.length) els.length e) (w':=w.drew.alloc (.cells (os.toArray++ns.toArray++Builtin.zeroCells z.cells (grownCap w (els.length+xs.length) els.length e - (els.length+xs.length))) e)) hS
    ⟨rfl,rfl,rfl,by simp⟩ (fun b b1=>Qy w _ b b1) (fj w _) rfl h0 (by
     intro y hy;rcases AP.1 hy with hy | hy
     ·grind
     ·grind) (by
     simp only[if_true,Ab];refine⟨?_,bh,grownCap_le_maxLen w _ _ e (by unfold maxLen; omega)⟩;simp only[Array.size_append,Cw,hO.len,N.len,size_zeroCells,b9];rw[← A3,← A3]
     congr 1
     omega) (by
     intro I j d J;refine⟨fun _=>?_,?_⟩
     ·by_cases h6:I<els.length
      ·rw[fm h6]at J;grind
      ·obtain⟨e1,U,a2⟩:=Iq J;rw[AK (by omega)]at U;exact cb _ _ _ (HO U a2)
     ·obtain⟨u,h6,h7⟩:=rz (zs:=(Builtin.zeroCells z.cells (grownCap w (els.length+xs.length) els.length e - (els.length+xs.length))).toList) hO.len hO.rep N.rep N.len I j d J;grind)
   refine⟨_,_,_,ah,bd,?_⟩;refine .row _ _ _ _ {row:=true,sz:=i.size,els:=els++xs,lent:=false} _ rfl (by simp) rfl (by simp) fun _=>⟨?_,by omega⟩;simp[Ip]
 ·cases h
theorem Yg7(hS:SR base w g st){E dst:TypeId}{s:List UInt8}(hs:P.underlying E=some .string)(hd:P.underlying dst=some (.slice e))(he:P.underlying e=some (.int .u8)) :
  RunsTo P base w g st (convert E dst (.string ⟨s.toArray⟩)) (.slc 1 (s.map Dl) false) st:=by
 have I:=run_bytes_of_string (P:=P) w E dst e ⟨s.toArray⟩ hs hd he;have O:CX ⟨s.toArray⟩=s.length:=by simp[CX]
 have J:=grownCap_ge w (CX ⟨s.toArray⟩) 0 e;generalize hC:bytesRow ⟨s.toArray⟩ (grownCap w (CX ⟨s.toArray⟩) 0 e)=C at I;have U:=hS.fresh (w':=w.drew.alloc (.cells C e (C.size,C.size+1))) (C:=C) (e:=e) (fz:=(C.size,C.size+1)) rfl ⟨rfl,rfl,rfl,by simp⟩;refine⟨_,_,_,I,U,?_⟩;rw[O]at J ⊢;have hl:s.length=(s.map Dl).length:=by simp
 conv=>rhs; rw[hl]
 refine RepV.slc_mk Nat.one_pos (fun x M=>by simp only[AW]at M; obtain⟨b,_,rfl⟩:=M; rfl) (by simpa using J) (fun h=>by cases h) ?_;intro i j d V;obtain⟨x,M,N⟩:=Iq V;simp only[AJ,DG]at M;obtain⟨b,hb,rfl⟩:=M
 cases j with
 |succ j=>simp[Dl,D.cells]at N
 |zero=>
  simp only[Dl,D.cells,AF,Db]at N;subst N;have hi:i<s.length:=(Ac.1 hb).1
  have Y:C[i]?=some (.int .u8 b.toNat):=by
   rw[← hC];unfold bytesRow;grind
  have ah:i<C.size:=(AH.1 Y).1;refine⟨rfl,.inr ⟨rfl,by omega⟩,.int .u8 b.toNat,?_,.int _ _⟩;have h2:(w.drew.alloc (.cells C e (C.size,C.size+1))).heap[w.heap.size]?=some (.cells C e (C.size,C.size+1)):=fj w _;simp only[World.cell?,h2];grind
end
end Go.Proofs.YtijnglngaogdjaaGreatDoor.PI
namespace Go.Proofs.YtijnglngaogdjaaGreatDoor.PI
open Go Go.RowKit
def UR(lf:TypeId→Option (List Nat))(P:Program):List Field→Nat→Option (List Nat)
 |[],_=>some []
 |f::fs,off=>
  match lf f.type,EG P f.type with
  |some l,some _=>
   if f.name≠ "_"∧f.offset=off∧Eo P f.type=some l.length∧0<l.length then(UR lf P fs (off+l.length)).map (l++·)else none
  |_,_=>none
def JE(P:Program):Nat→TypeId→Option (List Nat)
 |0,_=>none
 |d+1,t=>
  match P.underlying t with
  |some (.int _)=>some [0]
  |some .bool=>some [1]
  |some .string=>some [2]
  |some (.array n e)=>
   match JE P d e with
   |some l=>if Eo P e=some l.length∧0<l.length then some (CQ n l).flatten else none
   |none=>none
  |some (.struct fs)=>if P.stoodInHeld t then none else UR (JE P d) P fs.toList 0
  |_=>none
variable {off:Nat}{t:TypeId}{ks:List Nat}
section
variable {P:Program} {w:World} {g:Ghost} {st:St}
def N1(ag:Bool)(vs:List Value):Value:=if ag then .agg vs.toArray else vs.headD undef
theorem Q0:∀ {ks:List Nat} {xs ys:List D} {b:Bool},EY ks xs ys=some b→xs.length=ks.length∧ys.length=ks.length
 |[],[],[],_,_=>⟨rfl,rfl⟩
 |q::qs,x::xs,y::ys,b,h=>by
  simp only[EY]at h
  split at h
  ·rename_i a b' I E;have:=Q0 E;simp[this]
  ·cases h
 |[],[],_::_,_,h=>by simp[EY]at h
 |[],_::_,_,_,h=>by simp[EY]at h
 |_::_,[],_,_,h=>by simp[EY]at h
 |_::_,_::_,[],_,h=>by simp[EY]at h
theorem fg:∀ {E I:List Nat} {xs ys:List D} {b:Bool},EY (E++I) xs ys=some b→
  ∃ b1 J,EY E (xs.take E.length) (ys.take E.length)=some b1∧EY I (xs.drop E.length) (ys.drop E.length)=some J∧b=(b1 && J)
 |[],I,xs,ys,b,h=>⟨true,b,by simp[EY],by simpa using h,by simp⟩
 |q::E,I,x::xs,y::ys,b,h=>by
  simp only[Ae,EY]at h
  split at h
  ·rename_i a b' M N;simp only[Db]at h;obtain⟨b1,J,O,U,V⟩:=fg N;refine⟨a && b1,J,by simp[EY,M,O],by simpa using U,by rw[← h,V,Bool.and_assoc]⟩
  ·cases h
 |_::_,_,[],_,_,h=>by simp[EY]at h
 |_::_,_,_::_,[],_,h=>by simp[EY]at h
def dL(P:Program)(dd:Nat)(t:TypeId)(ks:List Nat):Prop:=
 ∀ (w:World) (g:Ghost) (st:St) (ag:Bool) (xs ys:List D) (vs us:List Value) (b:Bool),EG P t=some ag→EY ks xs ys=some b→xs.length=vs.length→ys.length=us.length→
  (∀ (i:Nat) d v,xs[i]?=some d→vs[i]?=some v→RepV w g st d v)→(∀ (i:Nat) d v,ys[i]?=some d→us[i]?=some v→RepV w g st d v)→
  (Op.equalIn dd t (N1 ag vs) (N1 ag us)).run P w=.ok b w
theorem TE{n:Nat}{ag:Bool}{vs:List Value}(E:EG P t=some ag)(hn:Eo P t=some n)(I:ag=false→n=1)(M:off+n≤vs.length) :
  (part t vs.toArray off).run P w=.ok (N1 ag ((vs.drop off).take n)) w:=by
 cases ag with
 |true=>
  simp[part,Sm E,Mb hn,N1]
 |false=>
  obtain rfl:=I rfl;have J:off<vs.length:=by omega
  simp[part,Sm E,J,N1,List.take_one,List.head?_drop]
theorem rh{d:Nat}(h:JE P d t=some ks)(E:EG P t=some false):ks.length=1:=by
 cases d with
 |zero=>cases h
 |succ d=>
  unfold JE at h;unfold EG at E;grind
theorem PG{α:Type}{l:List α}{n i:Nat}{x:α}(h:((l.drop off).take n)[i]?=some x):l[off+i]?=some x:=by
 grind
theorem lP(d V:Nat)(I:∀ t ks,JE P d t=some ks→dL P V t ks):∀ (fs:List Field) (off:Nat) (ks:List Nat) (w:World) (g:Ghost) (st:St) (xs ys:List D) (vs us:List Value) (b:Bool),
  UR (JE P d) P fs off=some ks→EY ks (xs.drop off) (ys.drop off)=some b→xs.length=vs.length→ys.length=us.length→
  (∀ (i:Nat) d v,xs[i]?=some d→vs[i]?=some v→RepV w g st d v)→(∀ (i:Nat) d v,ys[i]?=some d→us[i]?=some v→RepV w g st d v)→
  (Op.eqFields V vs.toArray us.toArray fs).run P w=.ok b w
 |[],off,ks,w,g,st,xs,ys,vs,us,b,h,he,Y,hy,rx,ry=>by
  simp[UR]at h; subst h;have:=Q0 he
  match N:xs.drop off,O:ys.drop off with
  |[],[]=>rw[N,O]at he; simp[EY]at he; subst he; simp[Op.eqFields]
  |_::_,_=>rw[N]at this; simp at this
  |[],_::_=>rw[O]at this; simp at this
 |f::fs,off,ks,w,g,st,xs,ys,vs,us,b,h,he,Y,hy,rx,ry=>by
  unfold UR at h
  split at h
  ·rename_i l ag hl E
   split at h
   ·rename_i hc;obtain⟨M,ac,U,a0⟩:=hc;simp only[DG]at h;obtain⟨ae,af,rfl⟩:=h;obtain⟨b1,b2,h1,h2,rfl⟩:=fg he;have hlen:=Q0 he;simp only[AQ,Ab]at hlen;rw[By,By]at h2;have J:ag=false→l.length=1:=fun e=>rh hl (by rw[E,e]);have p1:=TE (P:=P) (w:=w) (off:=off) E U J (vs:=vs) (by omega);have p2:=TE (P:=P) (w:=w) (off:=off) E U J (vs:=us) (by omega)
    have e1:=I f.type l hl w g st ag _ _ ((vs.drop off).take l.length) ((us.drop off).take l.length) b1 E h1 (by simp[Y]) (by simp[hy])
     (fun i d v hd hv=>rx _ d v (PG hd) (PG hv)) (fun i d v hd hv=>ry _ d v (PG hd) (PG hv))
    have ih:=lP d V I fs (off+l.length) ae w g st xs ys vs us b2 af h2 Y hy rx ry;simp only[Op.eqFields,M,ne_eq,not_false_eq_true,if_true,Sem.run_bind,ac,p1,p2,e1,Result.andThen_ok];cases b1
    ·simp
    ·grind
   ·cases h
  ·cases h
theorem zD(n:Nat)(l:List Nat):(CQ (n+1) l).flatten=l++(CQ n l).flatten:=by
 rfl
theorem tM(U:Nat){e:TypeId}{l:List Nat}{ag:Bool}(J:dL P U e l)(I:EG P e=some ag)(M:Eo P e=some l.length)(V:0<l.length)(E:ag=false→l.length=1):∀ (n k:Nat) (w:World) (g:Ghost) (st:St) (xs ys:List D) (vs us:List Value) (b:Bool),
  EY (CQ n l).flatten (xs.drop (k*l.length)) (ys.drop (k*l.length))=some b→xs.length=vs.length→ys.length=us.length→
  (∀ (i:Nat) d v,xs[i]?=some d→vs[i]?=some v→RepV w g st d v)→(∀ (i:Nat) d v,ys[i]?=some d→us[i]?=some v→RepV w g st d v)→
  (Op.eqItems U e l.length vs.toArray us.toArray (List.range' k n)).run P w=.ok b w
 |0,k,w,g,st,xs,ys,vs,us,b,he,Y,hy,rx,ry=>by
  simp only[List.replicate_zero,List.flatten_nil]at he;have:=Q0 he
  match N:xs.drop (k*l.length),O:ys.drop (k*l.length)with
  |[],[]=>rw[N,O]at he; simp[EY]at he; subst he; simp[Op.eqItems]
  |_::_,_=>rw[N]at this; simp at this
  |[],_::_=>rw[O]at this; simp at this
 |n+1,k,w,g,st,xs,ys,vs,us,b,he,Y,hy,rx,ry=>by
  rw[zD]at he;obtain⟨b1,b2,h1,h2,rfl⟩:=fg he;have hlen:=Q0 he;simp only[AQ,Ab]at hlen;rw[By,By]at h2;have p1:=TE (P:=P) (w:=w) (off:=k*l.length) I M E (vs:=vs) (by omega);have p2:=TE (P:=P) (w:=w) (off:=k*l.length) I M E (vs:=us) (by omega)
  have e1:=J w g st ag _ _ ((vs.drop (k*l.length)).take l.length) ((us.drop (k*l.length)).take l.length) b1 I h1 (by simp[Y]) (by simp[hy])
   (fun i d v hd hv=>rx _ d v (PG hd) (PG hv)) (fun i d v hd hv=>ry _ d v (PG hd) (PG hv))
  have ek:(k+1)*l.length=k*l.length+l.length:=by rw[A3,BB]
  have ih:=tM U J I M V E n (k+1) w g st xs ys vs us b2 (by rw[ek]; exact h2) Y hy rx ry;simp only[BY,Op.eqItems,Sem.run_bind,p1,p2,e1,Result.andThen_ok];cases b1
  ·simp
  ·grind
theorem iC:∀ (d:Nat) (t:TypeId) (ks:List Nat),JE P d t=some ks→∀ E,d≤E→dL P E t ks
 |0,_,_,h,_,_=>by cases h
 |d+1,t,ks,h,E,a0=>by
  intro w g st ag xs ys vs us b ha he V Y rx ry;obtain⟨E,rfl⟩:∃ e,E=e+1:=⟨E - 1,by omega⟩;unfold JE at h;unfold EG at ha;have N:∀ t ks,JE P d t=some ks→dL P E t ks:=fun t ks h=>iC d t ks h E (by omega)
  have single:∀ q,ks=[q]→∃ x y v u,xs=[x]∧ys=[y]∧vs=[v]∧us=[u]∧I0 q x y=some b∧RepV w g st x v∧RepV w g st y u:=by
   intro q hq;subst hq;have hl:=Q0 he
   match xs,ys,vs,us,V,Y,hl with
   |[x],[y],[v],[u],_,_,_=>
    simp only[EY]at he
    split at he
    ·rename_i a b' I h2;simp only[Db]at h2 he;subst h2; subst he;exact⟨x,y,v,u,rfl,rfl,rfl,rfl,by simpa using I,rx 0 x v rfl rfl,ry 0 y u rfl rfl⟩
    ·cases he
  cases hu:P.underlying t with
  |none=>simp[hu]at ha
  |some k=>
   cases k with
   |int k=>
    simp only[hu,Db]at h ha;subst ha;obtain⟨x,y,v,u,rfl,rfl,rfl,rfl,I,r1,O⟩:=single 0 h.symm;unfold I0 at I
    split at I <;> simp_all
    obtain rfl:=Jc r1;obtain rfl:=Jc O;simp only[N1,Ao,if_false,List.headD_cons];rw[run_equalIn_int w E t _ k _ _ hu];simp_all
   |bool=>
    simp only[hu,Db]at h ha;subst ha;obtain⟨x,y,v,u,rfl,rfl,rfl,rfl,I,r1,O⟩:=single 1 h.symm;unfold I0 at I
    split at I <;> simp_all
    obtain rfl:=L3 r1;obtain rfl:=L3 O;simp only[N1,Ao,if_false,List.headD_cons];rw[run_equalIn_bool w E t _ _ hu];simp_all
   |string=>
    simp only[hu,Db]at h ha;subst ha;obtain⟨x,y,v,u,rfl,rfl,rfl,rfl,I,r1,O⟩:=single 2 h.symm;unfold I0 at I
    split at I <;> simp_all
    obtain rfl:=MD r1;obtain rfl:=MD O;simp only[N1,Ao,if_false,List.headD_cons];rw[run_equalIn_string w E t _ _ hu,jC,jC];simp_all
   |array n e=>
    simp only[hu,Db]at h ha;subst ha
    split at h
    ·rename_i l hl
     split at h
     ·rename_i hc;simp only[Db]at h; subst h;obtain⟨J,ab⟩:=hc
      have hi:∃ i,P.info? e=some i:=by
       unfold Eo at J
       cases hi:P.info? e with
       |none=>simp[hi]at J
       |some i=>exact⟨i,rfl⟩
      obtain⟨i,hi⟩:=hi
      have U:P.cellsOf e=l.length:=by
       unfold Eo at J;unfold Program.cellsOf;grind
      have M:∃ ag,EG P e=some ag:=by
       cases d with
       |zero=>cases hl
       |succ d=>
        unfold JE at hl;unfold EG;grind
      obtain⟨ag,M⟩:=M;have ac:ag=false→l.length=1:=fun e'=>rh hl (by rw[M,e']);have:=tM E (N e l hl) M J ab ac n 0 w g st xs ys vs us b (by simpa using he) V Y rx ry;simp only[N1,if_true];rw[run_equalIn_array w E _ _ hu hi,U,Bn];exact this
     ·cases h
    ·cases h
   |struct fs=>
    simp only[hu,Db]at h ha;subst ha
    split at h
    ·cases h
    ·rename_i ae;have hf:P.fieldsOf t=fs:=by simp[Program.fieldsOf,hu]
     have:=lP d E N fs.toList 0 ks w g st xs ys vs us b h (by simpa using he) V Y rx ry;simp only[N1,if_true];rw[run_equalIn_struct w E t _ _ (by rw[hf]; exact hu) (by simpa using ae),hf];exact this
   |_=>simp[hu]at h
theorem Ykl{d:Nat}{E:Bool}{x y r:D}{vx vy:Value}(hl:JE P d t=some ks)(I:d≤10000)(J:EG P t=some true)(h:GM ks E x y=some r)(M:RepV w g st x vx)(N:RepV w g st y vy) :
  (∃ v,(binOp (if E then .neq else .eql) t vx vy).run P w=.ok v w∧RepV w g st r v)∧∃ xs ys,vx=.agg xs∧vy=.agg ys:=by
 unfold GM at h
 split at h
 ·rename_i xs ys;simp only[DG]at h;obtain⟨b,hb,rfl⟩:=h
  cases M with
  |agg _ vs O U=>
   cases N with
   |agg _ us V Y=>
    refine⟨?_,_,_,rfl,rfl⟩;have e:(Op.equal t (.agg vs.toArray) (.agg us.toArray)).run P w=.ok b w:=iC d t ks hl 10000 I w g st true xs ys vs us b J hb O V U Y;refine⟨.bool (b != E),?_,.bool _⟩;cases E <;> simp[binOp,e]
 ·cases h
end
end Go.Proofs.YtijnglngaogdjaaGreatDoor.PI
namespace Go.Proofs.YtijnglngaogdjaaGreatDoor.PI
open Go Go.RowKit
def NW(P:Program)(kt:TypeId):Option (Nat×List Nat):=
 match P.underlying kt with
 |some (.int _)=>some (2,[0])
 |some .bool=>some (2,[1])
 |some .string=>some (2,[2])
 |some (.array n e)=>match P.underlying e,Eo P e with
  |some (.int _),some 1=>if 2≤n then some (n+1,CQ n 0)else none
  |_,_=>none
 |_=>none
def Q3(P:Program)(t:TypeId):Option (TypeId×TypeId×Nat×List Nat):=
 match P.underlying t with
 |some (.map kt et)=>match NW P kt,Eo P et,EG P et with
  |some (sz,ks),some 1,some false=>if sz=1000003 then none else some (kt,et,sz,ks)
  |_,_,_=>none
 |_=>none
variable {ks:List Nat}{sz:Nat}{et kt t:TypeId}
theorem rm{P:Program}(h:Q3 P t=some (kt,et,sz,ks)):P.underlying t=some (.map kt et)∧NW P kt=some (sz,ks)∧sz≠1000003∧Eo P et=some 1∧EG P et=some false:=by
 unfold Q3 at h;grind
variable {d k m r x y zd:D}{key q:Nat}{b ok:Bool}{v vd vk vm vs vx vy:Value}{kk:IntKind}{dT e elem sT ty:TypeId}{es:List MapEntry}{els:List D}{st':St}
section
variable {P:Program} {base:Nat} {w:World} {g:Ghost} {st:St}
theorem lS(h:I0 q x y=some true):x=y:=by
 unfold I0 at h;grind
def Qa:D→Bool
 |.int _ _ | .bool _ | .str _=>true
 |_=>false
theorem Zk(h:I0 q x y=some b):Qa x=true∧Qa y=true:=by
 unfold I0 at h
 split at h
 ·exact⟨rfl,rfl⟩
 ·exact⟨rfl,rfl⟩
 ·exact⟨rfl,rfl⟩
 ·cases h
theorem tT:∀ {ks:List Nat} {xs ys:List D},EY ks xs ys=some true→xs=ys
 |[],[],[],_=>rfl
 |q::qs,x::xs,y::ys,h=>by
  simp only[EY]at h
  split at h
  ·rename_i a b E I;simp only[Db,Af]at h;obtain⟨rfl,rfl⟩:=h;rw[lS E,tT I]
  ·cases h
 |[],[],_::_,h=>by simp[EY]at h
 |[],_::_,_,h=>by simp[EY]at h
 |_::_,[],_,h=>by simp[EY]at h
 |_::_,_::_,[],h=>by simp[EY]at h
theorem eG:∀ {ks:List Nat} {xs ys:List D} {b:Bool},EY ks xs ys=some b→∀ x∈xs,Qa x=true
 |[],[],[],_,_=>fun x I=>by cases I
 |q::qs,x::xs,y::ys,b,h=>by
  simp only[EY]at h
  split at h
  ·rename_i a b J M;intro z E;rcases Ax.1 E with rfl | E
   ·exact(Zk J).1
   ·exact eG M z E
  ·cases h
 |[],[],_::_,_,h=>by simp[EY]at h
 |[],_::_,_,_,h=>by simp[EY]at h
 |_::_,[],_,_,h=>by simp[EY]at h
 |_::_,_::_,[],_,h=>by simp[EY]at h
theorem ti{u:Value}(E:Qa d=true)(h:RepV w g st d v)(I:RepV w g st d u):v=u:=by
 cases h <;> cases I <;> first | rfl | (simp[Qa]at E; done)
theorem yXl(h:Iu sz ks x y=some true)(I:RepV w g st x vx)(J:RepV w g st y vy):vx=vy:=by
 unfold Iu at h
 split at h
 ·split at h
  ·obtain rfl:=lS h;exact ti (Zk h).1 I J
  ·cases h
 ·split at h
  ·rename_i xs ys;have M:=eG h;obtain rfl:=tT h
   cases I with
   |agg _ vs V N=>
    cases J with
    |agg _ us Y O=>
     have:vs=us:=by
      apply Bf;intro i
      cases hv:vs[i]? with
      |none=>rw[BW]at hv; exact(BW.2 (by omega)).symm
      |some v=>
       have U:=(Ac.1 hv).1;have E:xs[i]?=some xs[i]:=Am (by omega);have hu:us[i]?=some us[i]:=Am (by omega);rw[hu,ti (M _ (Ap E)) (N i _ v E hv) (O i _ _ E hu)]
     rw[this]
  ·cases h
theorem me(E:Qa d=true)(h:RepV w g st d v)(n:Nat):Instr.sameBits n v v=true:=by
 cases h <;> first
  |(simp[Instr.sameBits]; done)
  |(simp[Qa]at E; done)
  |(unfold Instr.sameBits; exact(MapKept.bytes_beq _ _).2 rfl)
theorem yQp(h:Iu sz ks x y=some b)(E:RepV w g st x vx):Instr.sameBits 10000 vx vx=true:=by
 unfold Iu at h
 split at h
 ·split at h
  ·exact me (Zk h).1 E _
  ·cases h
 ·split at h
  ·rename_i xs ys;have M:=eG h
   cases E with
   |agg _ vs V N=>
    show(vs.toArray.size == vs.toArray.size && (vs.toArray.toList.zip vs.toArray.toList).all fun(x,y)=>Instr.sameBits 9999 x y)=true
    rw[Af];refine⟨by simp,?_⟩;rw[Ak];rintro⟨u,O⟩ hu
    have I:u=O:=by
     have:=A0.1 hu;grind
    subst I;have hm:u∈vs:=(List.of_mem_zip hu).1;obtain⟨i,hi⟩:=A0.1 hm;have U:=(Ac.1 hi).1;have J:xs[i]?=some xs[i]:=Am (by omega);exact me (M _ (Ap J)) (N i _ u J hi) _
  ·cases h
theorem yMp(h:Iu sz ks x y=some b)(E:RepV w g st x vx)(w1:World):(Instr.keyThatStays vx vx).run P w1=.ok vx w1:=by
 simp[Instr.keyThatStays,yQp h E]
theorem lO(E:P.underlying e=some (.int kk))(I:Bool)(n:Nat)(v:Value):(Instr.checkKey I (n+1) e v).run P w=.ok () w:=by
 unfold Instr.checkKey;simp only[Sem.run_bind,run_underlying E,Result.andThen];rfl
theorem fb(hk:NW P kt=some (sz,ks))(h:Iu sz ks x y=some b)(O:RepV w g st x v)(M:Bool):(Instr.checkKey M 10000 kt v).run P w=.ok () w:=by
 unfold NW at hk
 split at hk
 ·rename_i hu;exact lO hu M 9999 v
 ·rename_i hu;unfold Instr.checkKey;simp only[Sem.run_bind,run_underlying hu,Result.andThen];rfl
 ·rename_i hu;unfold Instr.checkKey;simp only[Sem.run_bind,run_underlying hu,Result.andThen];rfl
 ·rename_i n e hu
  split at hk
  ·rename_i kk I J
   split at hk
   ·rename_i V;simp only[Db,Dv]at hk;obtain⟨rfl,rfl⟩:=hk;unfold Iu at h;rw[if_neg (by omega)]at h
    split at h
    ·rename_i xs ys;have hl:=(Q0 h).1;rw[BS]at hl
     cases O with
     |agg _ vs Y h4=>
      have N:EG P e=some false:=by unfold EG; rw[I]
      unfold Instr.checkKey;simp only[Sem.run_bind,run_underlying hu,Result.andThen_ok];simp only[Std.Legacy.Range.forIn_eq_forIn_range',Std.Legacy.Range.size,Nat.sub_zero,Nat.add_one_sub_one,Nat.div_one];have each:∀ i∈List.range' 0 n,i<vs.length:=fun i hi=>by rw[List.mem_range'_1]at hi; omega
      generalize List.range' 0 n=is at each
      refine(?_:((forIn is PUnit.unit fun i U=>do
       let E ← sizeOf e
       let E ← part e vs.toArray (i*E)
       Instr.checkKey M 9999 e E
       pure (ForInStep.yield PUnit.unit):Sem PUnit).run P w).andThen _=_)
      induction is with
      |nil=>simp
      |cons j is ih=>
       have hj:=each j (by simp);have p1:=TE (P:=P) (w:=w) (vs:=vs) (off:=j*1) N J (fun _=>rfl) (by omega);simp only[List.forIn_cons,Sem.run_bind,Mb J,Result.andThen_ok,p1,lO I,Sem.run_pure];simp_all
    ·cases h
   ·cases hk
  ·cases hk
 ·cases hk
theorem uc{E:TypeDesc}(M:(∃ kk,E=.int kk∧q=0)∨(E=.bool∧q=1)∨(E=.string∧q=2))(h:I0 q x y=some b)(I:RepV w g st x vx)(J:RepV w g st y vy):Instr.sameNow E vx vy=some b:=by
 rcases M with⟨kk,rfl,rfl⟩ | ⟨rfl,rfl⟩ | ⟨rfl,rfl⟩
 ·unfold I0 at h
  split at h <;> simp_all
  obtain rfl:=Jc I;obtain rfl:=Jc J;simp_all [Instr.sameNow]
 ·unfold I0 at h
  split at h <;> simp_all
  obtain rfl:=L3 I;obtain rfl:=L3 J;simp_all [Instr.sameNow]
 ·unfold I0 at h
  split at h <;> simp_all
  obtain rfl:=MD I;obtain rfl:=MD J;simp only[Instr.sameNow,Db];rw[← h,B5,MapKept.bytes_beq];simp
def Ents(w:World)(g:Ghost)(st:St)(sz:Nat)(els:List D)(es:List MapEntry):Prop:=
 es.length=els.length∧∀ (i:Nat) (e:MapEntry) (el:D),es[i]?=some e→els[i]?=some el→RepV w g st (F2 sz el) e.key∧RepV w g st (HG sz el) e.val
theorem Ents.tail{I:D}{e:MapEntry}(h:Ents w g st sz (I::els) (e::es)):Ents w g st sz els es:=
 ⟨by have:=h.1; simp only[Ah]at this; omega,fun i J E M N=>h.2 (i+1) J E (by simpa using M) (by simpa using N)⟩
theorem tP{E:TypeDesc}{q:Nat}{k:D}{M:Value}(N:(∃ kk,E=.int kk∧q=0)∨(E=.bool∧q=1)∨(E=.string∧q=2))(hk:RepV w g st k M):∀ (els:List D) (es:List MapEntry) (i:Nat) (r:Option Nat),Ents w g st 2 els es→Lx 2 [q] k els i=some r→
  (r=none∧Instr.findNow E M es i=some none)∨∃ j e,r=some (i+j)∧es[j]?=some e∧Instr.findNow E M es i=some (some (i+j,e.val))∧∃ el,els[j]?=some el∧Iu 2 [q] k (F2 2 el)=some true
 |[],es,i,r,h,hm=>by
  obtain rfl:es=[]:=AR h.1;simp only[Lx,Db]at hm;exact .inl ⟨hm.symm,rfl⟩
 |el::els,[],i,r,h,hm=>by have:=h.1; simp at this
 |el::els,e::es,i,r,h,hm=>by
  have V:=(h.2 0 e el rfl rfl).1;simp only[Lx]at hm
  split at hm
  ·rename_i I;simp only[Db]at hm;subst hm;have J:=uc N (show I0 q k (F2 2 el)=some true from I) hk V;exact .inr ⟨0,e,rfl,rfl,by simp only[Instr.findNow,J,B2],el,rfl,I⟩
  ·rename_i I;have J:=uc N (show I0 q k (F2 2 el)=some false from I) hk V;rcases tP N hk els es (i+1) r h.tail hm with⟨O,U⟩ | ⟨j,e',O,U,h3,Y,h4,h5⟩
   ·exact .inl ⟨O,by simp only[Instr.findNow,J,U]⟩
   ·refine .inr ⟨j+1,e',by rw[O]; congr 1; omega,by simpa using U,?_,Y,by simpa using h4,h5⟩;simp only[Instr.findNow,J,h3]
    congr 3; omega
  ·cases hm
theorem ml{kt:TypeId}{sz:Nat}{ks:List Nat}{k:D}{M:Value}(N:sz≠2)(hl:JE P 100 kt=some ks)(Y:EG P kt=some true)(hk:RepV w g st k M):∀ (els:List D) (es:List MapEntry) (i:Nat) (r:Option Nat),Ents w g st sz els es→Lx sz ks k els i=some r→
  (r=none∧(Instr.findAsking kt M es i).run P w=.ok none w)∨∃ j e,r=some (i+j)∧es[j]?=some e∧(Instr.findAsking kt M es i).run P w=.ok (some (i+j,e.val)) w∧∃ el,els[j]?=some el∧Iu sz ks k (F2 sz el)=some true
 |[],es,i,r,h,hm=>by
  obtain rfl:es=[]:=AR h.1;simp only[Lx,Db]at hm;exact .inl ⟨hm.symm,rfl⟩
 |el::els,[],i,r,h,hm=>by have:=h.1; simp at this
 |el::els,e::es,i,r,h,hm=>by
  have O:=(h.2 0 e el rfl rfl).1
  have he:∀ b,Iu sz ks k (F2 sz el)=some b→(Op.equal kt M e.key).run P w=.ok b w:=fun b hb=>by
   unfold Iu at hb;rw[if_neg N]at hb
   split at hb
   ·rename_i xs ys aa;rw[aa]at O
    cases hk with
    |agg _ vs E I=>
     generalize e.key=ek at O
     cases O with
     |agg _ us U V=>exact iC 100 kt ks hl 10000 (by omega) w g st true xs ys vs us b Y hb E U I V
   ·cases hb
  simp only[Lx]at hm
  split at hm
  ·rename_i J;simp only[Db]at hm;subst hm;exact .inr ⟨0,e,rfl,rfl,by simp[Instr.findAsking,he true J],el,rfl,J⟩
  ·rename_i J;rcases ml N hl Y hk els es (i+1) r h.tail hm with⟨E,I⟩ | ⟨j,e',E,I,U,ab,V,h5⟩
   ·exact .inl ⟨E,by simp[Instr.findAsking,he false J,I]⟩
   ·refine .inr ⟨j+1,e',by rw[E]; congr 1; omega,by simpa using I,?_,ab,by simpa using V,h5⟩;simp[Instr.findAsking,he false J,U];omega
  ·cases hm
theorem yQm{n:Nat}(J:P.underlying kt=some (.array n e))(E:P.underlying e=some (.int kk))(I:Eo P e=some 1):JE P 100 kt=some (CQ n 0):=by
 have M:JE P 99 e=some [0]:=by unfold JE; rw[E]
 unfold JE;simp_all
theorem YU{I:Value}{r:Option Nat}(E:NW P kt=some (sz,ks))(hk:RepV w g st k I)(O:Ents w g st sz els es)(hm:Lx sz ks k els 0=some r) :
  (r=none∧(Instr.findKey kt I es).run P w=.ok none w)∨∃ j e,r=some j∧es[j]?=some e∧(Instr.findKey kt I es).run P w=.ok (some (j,e.val)) w∧∃ el,els[j]?=some el∧Iu sz ks k (F2 sz el)=some true:=by
 have one:∀ (desc:TypeDesc) (q:Nat),P.underlying kt=some desc→(sz,ks)=(2,[q])→((∃ kk,desc=.int kk∧q=0)∨(desc=.bool∧q=1)∨(desc=.string∧q=2))→
   (r=none∧(Instr.findKey kt I es).run P w=.ok none w)∨∃ j e,r=some j∧es[j]?=some e∧(Instr.findKey kt I es).run P w=.ok (some (j,e.val)) w∧∃ el,els[j]?=some el∧Iu sz ks k (F2 sz el)=some true:=by
  intro desc q hu he hd;simp only[Dv]at he;obtain⟨rfl,rfl⟩:=he;rcases tP hd hk els es 0 r O hm with⟨J,M⟩ | ⟨j,e,J,M,N,U⟩
  ·exact .inl ⟨J,MapKept.run_findKey hu M⟩
  ·rw[An]at J N;exact .inr ⟨j,e,J,M,MapKept.run_findKey hu N,U⟩
 unfold NW at E
 split at E
 ·rename_i kk hu;exact one _ 0 hu (AB E).symm (.inl ⟨kk,rfl,rfl⟩)
 ·grind
 ·grind
 ·rename_i n e hu
  split at E
  ·rename_i kk V Y
   split at E
   ·rename_i M;simp only[Db,Dv]at E;obtain⟨rfl,rfl⟩:=E;have ha:EG P kt=some true:=by unfold EG; rw[hu]
    have N:=ml (by omega) (yQm hu V Y) ha hk els es 0 r O hm
    have U:(Instr.findKey kt I es).run P w=(Instr.findAsking kt I es 0).run P w:=by
     cases es with
     |nil=>simp[Instr.findKey,run_underlying hu,Instr.findNow,Instr.findAsking]
     |cons e0 es=>
      have:Instr.findNow (.array n e) I (e0::es) 0=none:=by
       rfl
      simp[Instr.findKey,run_underlying hu,this]
    grind
   ·cases E
  ·cases E
 ·cases E
theorem Yc3(J:SR base w g st)(h:1<sz)(E:sz≠1000003):RunsTo P base w g st (Instr.makeMap t none) (.mapv st.length) (st++[{row:=false,sz,els:=[],lent:=false}]):=by
 have hm:({row:=false,sz,els:=[],lent:=false}:Obj).isMap=true:=by simp[Obj.isMap,h]
 have I:=SR.pushMap (w':=w.alloc (.map #[] 0)) (o:={row:=false,sz,els:=[],lent:=false}) (clock:=0) J ⟨rfl,rfl,rfl,by simp⟩ (fun b hb=>Qy w _ b hb) (MapKept.heap_alloc w _).1 hm E rfl;refine⟨.map (some w.heap.size),_,_,rfl,I,?_⟩;have:=RepV.mapv (w:=w.alloc (.map #[] 0)) (g:={g with β:=FK g.β st.length w.heap.size}) (st:=st++[{row:=false,sz,els:=[],lent:=false}]) st.length {row:=false,sz,els:=[],lent:=false} (by simp) hm;simpa[Ip]using this
theorem xM{o:Obj}(E:st[key]?=some o)(h:RepV w g st (.mapv key) v):o.isMap=true∧v=.map (some (g.β key)):=by
 cases h with
 |mapv _ I J M=>
  grind
theorem wU{o:Obj}{es:Array MapEntry}(I:es.size=o.els.length)(J:∀ (i:Nat) (e:MapEntry) (el:D),es[i]?=some e→o.els[i]?=some el→RepV w g st (F2 o.sz el) e.key∧RepV w g st (HG o.sz el) e.val):Ents w g st o.sz o.els es.toList:=
 ⟨by simpa using I,fun i e el he E=>J i e el (by simpa using he) E⟩
theorem Ydw{P:Program}(h:NW P kt=some (sz,ks)):sz≠0:=by
 unfold NW at h
 repeat' split at h
 all_goals first | (cases h; done) | (simp only[Db,Dv]at h; omega)
theorem yW4(hS:SR base w g st)(ht:Q3 P t=some (kt,et,sz,ks))(M:Is P et=some zd)(hm:RepV w g st m vm)(hk:RepV w g st k vk)
  (h:Jx st sz ks ok zd m k=some r):∃ v,(Instr.lookup t vm vk ok).run P w=.ok v w∧RepV w g st r v:=by
 obtain⟨hu,J,Y,_,_⟩:=rm ht;have ac:sz≠0:=Ydw J;unfold Jx at h
 split at h
 case h_2=>rw[if_neg ac]at h; cases h
 case h_3=>cases h
 rename_i key
 split at h
 case h_2=>cases h
 rename_i o ho
 split at h
 case isFalse=>cases h
 rename_i hc;simp only[Af,beq_iff_eq]at hc;obtain⟨⟨_,rfl⟩,af⟩:=hc;obtain⟨b,hb⟩:=Option.isSome_iff_exists.1 af;obtain⟨ad,rfl⟩:=xM ho hm;obtain⟨es,clock,V,h2,h3,h4,h5,ba⟩:=(hS.mp key o ho ad).old (by first | exact Y | (simpa using Y));have hE:=wU h3 h5;have E:=fb (w:=w) J hb hk es.isEmpty
 have a1:∃ z,(zeroValue et).run P w=.ok z w∧RepV w g st zd z:=by
  unfold Is at M
  split at M
  case h_2=>cases M
  rename_i i hi
  split at M
  case h_2=>cases M
  rename_i z a2;exact⟨z,by simp[zeroValue,typeInfo,hi,a2],Ss M⟩
 obtain⟨z,aa,ab⟩:=a1
 have N:∀ (x:D) (v:Value) (b:Bool),RepV w g st x v→RepV w g st (.tup [x,.bool b]) (.tuple #[v,.bool b]):=fun x v b hx=>by
  refine .tup [x,.bool b] [v,.bool b] rfl fun i d u I hu=>?_
  match i,I,hu with
  |0,I,hu=>simp at I hu; subst I; subst hu; exact hx
  |1,I,hu=>simp at I hu; subst I; subst hu; exact .bool _
 split at h
 ·rename_i i hi
  split at h
  ·rename_i el a3;simp only[Db]at h;subst h;rcases YU J hk hE hi with⟨O,_⟩ | ⟨j,e,O,h7,U,bb,h9,bc⟩
   ·cases O
   ·obtain rfl:=AB O;have hr:=(h5 i e el (by simpa using h7) a3).2
    cases ok with
    |true=>exact⟨.tuple #[e.val,.bool true],by simp[Instr.lookup,run_underlying hu,MapKept.run_getObj_map V,E,U],N _ _ _ hr⟩
    |false=>exact⟨e.val,by simp[Instr.lookup,run_underlying hu,MapKept.run_getObj_map V,E,U],hr⟩
  ·cases h
 ·rename_i hi;simp only[Db]at h;subst h;rcases YU J hk hE hi with⟨_,U⟩ | ⟨j,e,O,_⟩
  ·cases ok with
   |true=>exact⟨.tuple #[z,.bool false],by simp[Instr.lookup,run_underlying hu,MapKept.run_getObj_map V,E,U,aa],N _ _ _ ab⟩
   |false=>exact⟨z,by simp[Instr.lookup,run_underlying hu,MapKept.run_getObj_map V,E,U,aa],ab⟩
  ·cases O
 ·cases h
def aK(P:Program)(t:TypeId):Option D:=match P.underlying t with
 |some (.map kt et)=>match P.underlying kt,Eo P et,EG P et,Is P et with
  |some (.int .i64),some 1,some true,some zd=>some zd
  |_,_,_,_=>none
 |_=>none
theorem yX1{P:Program}(h:aK P t=some zd):∃ kt et,P.underlying t=some (.map kt et)∧P.underlying kt=some (.int .i64)∧Is P et=some zd:=by
 unfold aK at h;grind
theorem tO{es:List (Int×Nat)}(n:Int):∀ (l:List MapEntry) (i:Nat),(∀ e∈l,∃ m f,e.key=.int .i64 m∧e.val=.agg #[.func (.func f) #[] #[]]∧f<5000000∧F6 m es=some f)→
  (∃ j f,Instr.findNow (.int .i64) (.int .i64 n) l i=some (some (j,.agg #[.func (.func f) #[] #[]]))∧F6 n es=some f∧f<5000000)∨(Instr.findNow (.int .i64) (.int .i64 n) l i=some none∧∀ e∈l,e.key≠.int .i64 n)
 |[],i,_=>.inr ⟨rfl,fun e he=>by cases he⟩
 |e::l,i,h=>by
  obtain⟨m,f,I,J,M,N⟩:=h e (by simp)
  by_cases E:n=m
  ·subst E;exact .inl ⟨i,f,by simp[Instr.findNow,Instr.sameNow,I,J],N,M⟩
  ·have hf:Instr.findNow (.int .i64) (.int .i64 n) (e::l) i=Instr.findNow (.int .i64) (.int .i64 n) l (i+1):=by
    have hb:(n == m)=false:=by simpa using E
    simp only[Instr.findNow,Instr.sameNow,I,if_true,hb]
   rcases tO n l (i+1) (fun x O=>h x (by simp[O]))with⟨j,f',U,V⟩ | ⟨U,V⟩
   ·grind
   ·grind
theorem Ymm(ht:aK P t=some zd)(hm:RepV w g st m vm)(hk:RepV w g st k vk)(h:Jx st 0 [] ok zd m k=some r) :
  ∃ v,(Instr.lookup t vm vk ok).run P w=.ok v w∧RepV w g st r v:=by
 obtain⟨kt,et,hu,aa,M⟩:=yX1 ht;unfold Jx at h
 split at h
 case h_3=>cases h
 case h_1=>
  split at h
  case h_2=>cases h
  split at h
  case isFalse=>cases h
  rename_i hc;simp only[Af,beq_iff_eq]at hc;have:=gQ hc.1.1;omega
 rename_i es;rw[if_pos rfl]at h
 split at h
 case h_2=>cases h
 rename_i n;simp only[Db]at h
 obtain⟨b,E,clock,rfl,N,Y⟩:∃ b E clock,vm=.map (some b)∧w.heap[b]?=some (.map E clock)∧fD E es:=by
  cases hm with
  |gmap _ b E clock N h2 Y=>exact⟨b,E,clock,rfl,N,Y⟩
 have ah:=hk;cases ah;have ae:NW P kt=some (2,[0]):=by unfold NW; rw[aa]
 have J:=fb (w:=w) ae (show Iu 2 [0] (.int .i64 n) (.int .i64 n)=some (n == n) by simp[Iu,I0]) hk E.isEmpty
 have a0:∃ z,(zeroValue et).run P w=.ok z w∧RepV w g st zd z:=by
  unfold Is at M
  split at M
  case h_2=>cases M
  rename_i i hi
  split at M
  case h_2=>cases M
  rename_i z a1;exact⟨z,by simp[zeroValue,typeInfo,hi,a1],Ss M⟩
 obtain⟨z,ab,ac⟩:=a0
 have O:∀ (x:D) (v:Value) (b:Bool),RepV w g st x v→RepV w g st (.tup [x,.bool b]) (.tuple #[v,.bool b]):=fun x v b hx=>by
  refine .tup [x,.bool b] [v,.bool b] rfl fun i d u I hu=>?_
  match i,I,hu with
  |0,I,hu=>simp at I hu; subst I; subst hu; exact hx
  |1,I,hu=>simp at I hu; subst I; subst hu; exact .bool _
 have U:∀ f,f<5000000→RepV w g st (.agg [.clo f []]) (.agg #[.func (.func f) #[] #[]]):=fun f hf=>by
  refine .agg [.clo f []] [.func (.func f) #[] #[]] rfl fun i d u I hu=>?_
  match i,I,hu with
  |0,I,hu=>
   simp at I hu; subst I; subst hu;have:=RepV.clo (w:=w) (g:=g) (st:=st) f [] [] rfl (fun i d v h=>by simp at h);rw[RP hf,YV,Yx]at this;exact this
 have ad:∀ r,Instr.findNow (.int .i64) (.int .i64 n) E.toList 0=some r→(Instr.findKey kt (.int .i64 n) E.toList).run P w=.ok r w:=fun r hr=>by
  simp[Instr.findKey,run_underlying aa,hr]
 rcases tO n E.toList 0 Y.1 with⟨j,f,h5,h6,h7⟩ | ⟨h5,h6⟩
 ·have V:=ad _ h5;rw[h6]at h;simp only at h
  cases ok with
  |true=>
   simp only[if_true]at h;subst h;exact⟨.tuple #[.agg #[.func (.func f) #[] #[]],.bool true],by simp[Instr.lookup,run_underlying hu,MapKept.run_getObj_map N,J,V],O _ _ _ (U f h7)⟩
  |false=>
   simp only[Ao,if_false]at h;subst h;exact⟨.agg #[.func (.func f) #[] #[]],by simp[Instr.lookup,run_underlying hu,MapKept.run_getObj_map N,J,V],U f h7⟩
 ·have V:=ad _ h5
  have a4:F6 n es=none:=by
   cases hg:F6 n es with
   |none=>rfl
   |some f=>
    obtain⟨e,he,a9⟩:=Y.2 n f hg;grind
  rw[a4]at h;simp only at h
  cases ok with
  |true=>
   simp only[if_true]at h;subst h;exact⟨.tuple #[z,.bool false],by simp[Instr.lookup,run_underlying hu,MapKept.run_getObj_map N,J,V,ab],O _ _ _ ac⟩
  |false=>
   simp only[Ao,if_false]at h;subst h;exact⟨z,by simp[Instr.lookup,run_underlying hu,MapKept.run_getObj_map N,J,V,ab],ac⟩
theorem YBu{v:D}(h:Iu sz ks k k=some b)(hl:k.cells.length+1=sz):F2 sz (.agg (k.cells++[v]))=k∧HG sz (.agg (k.cells++[v]))=v:=by
 have E:(k.cells++[v]).take (sz - 1)=k.cells:=by rw[show sz - 1=k.cells.length by omega]; simp
 have I:(k.cells++[v]).drop (sz - 1)=[v]:=by rw[show sz - 1=k.cells.length by omega]; simp
 refine⟨?_,by simp only[HG,I]; rfl⟩;simp only[F2,E];unfold Iu at h
 split at h
 ·rename_i e;subst e
  split at h
  ·have J:=(Zk h).1;cases k <;> first | rfl | (simp[Qa]at J; done)
  ·cases h
 ·rename_i e
  split at h
  ·simp[e,D.mk,D.cells]
  ·cases h
theorem vA(h:RepV w g st d v)(E:d.isCell=true):RF v=false:=by
 have:=h.oneCell E;cases v <;> first | rfl | (simp[Value.oneCell']at this; done)
theorem rN(hS:SR base w g st){v:D}{M:Value}(ht:Q3 P t=some (kt,et,sz,ks))(hm:RepV w g st m vm)(hk:RepV w g st k vk)(hv:RepV w g st v M)
  (h:S5 st sz ks m k v=some st'):∃ w' g',(Instr.mapUpdate t vm vk M).run P w=.ok () w'∧Go1 base w g st w' g' st':=by
 obtain⟨hu,N,J,_,_⟩:=rm ht;unfold S5 at h
 split at h
 case h_2=>cases h
 rename_i key
 split at h
 case h_2=>cases h
 rename_i o ho
 split at h
 case isFalse=>cases h
 rename_i hc;simp only[Af,AU,beq_iff_eq]at hc;obtain⟨⟨⟨⟨⟨⟨_,rfl⟩,a6⟩,ab⟩,hl⟩,a8⟩,O⟩:=hc;obtain⟨I,rfl⟩:=xM ho hm;obtain⟨es,clock,E,h2,h3,h4,h5,ac⟩:=(hS.mp key o ho I).old (by first | exact J | (simpa using J));have hE:=wU h3 h5;have U:=fb (w:=w) N O hk false;obtain⟨k1,k2⟩:=YBu (v:=v) O hl;have bb:∃ l,(D.agg (k.cells++[v]))=.agg l∧l.length=o.sz:=⟨_,rfl,by rw[Ab]; exact hl⟩;have bc:g.β key<w.heap.size:=(AH.1 E).1
 split at h
 ·rename_i i hi;simp only[Db]at h;subst h;rcases YU N hk hE hi with⟨V,_⟩ | ⟨j,e,V,h7,h8,a1,h9,a2⟩
  ·cases V
  ·obtain rfl:=AB V;have Y:es[i]?=some e:=by simpa using h7
   have a3:e.key=vk:=(yXl a2 hk (h5 i e a1 Y h9).1).symm;have a4:(Instr.keyThatStays e.key vk).run P w=.ok vk w:=by rw[a3]; exact yMp O hk w
   refine⟨_,g,?_,SR.updMap (o':={o with els:=o.els.set i (.agg (k.cells++[v]))}) (es':=es.modify i fun e=>{e with key:=vk,val:=M}) (clock':=clock) (w':={w with heap:=w.heap.setIfInBounds (g.β key) (.map (es.modify i fun e=>{e with key:=vk,val:=M}) clock)}) hS ho I J rfl rfl (by simp) rfl
    ⟨rfl,rfl,rfl,by simp⟩ (fun b hb=>(MapKept.heap_set E).2 b hb) (MapKept.heap_set E).1 (by simpa using h3) ?_ ?_ ?_⟩
   ·simp[Instr.mapUpdate,run_underlying hu,MapKept.run_getObj_map E,U,h8,Y,a4,MapKept.run_setObj_map _ E]
   ·grind
   ·grind
   ·rw[gg]at ac ⊢;rw[Cc]
    by_cases a5:i=0
    ·subst a5;rw[if_pos rfl,Y];exact vA hv ab
    ·grind
 ·rename_i hi;simp only[Db]at h;subst h;rcases YU N hk hE hi with⟨_,h8⟩ | ⟨j,e,V,_⟩
  ·refine⟨_,g,?_,SR.updMap (o':={o with els:=o.els++[.agg (k.cells++[v])]}) (es':=es.push {key:=vk,val:=M,born:=clock}) (clock':=clock+1) (w':={w with heap:=w.heap.setIfInBounds (g.β key) (.map (es.push {key:=vk,val:=M,born:=clock}) (clock+1))}) hS ho I J rfl rfl (by simp) rfl
    ⟨rfl,rfl,rfl,by simp⟩ (fun b hb=>(MapKept.heap_set E).2 b hb) (MapKept.heap_set E).1 (by simpa using h3) ?_ ?_ ?_⟩
   ·simp[Instr.mapUpdate,run_underlying hu,MapKept.run_getObj_map E,U,h8,MapKept.run_setObj_map _ E]
   ·grind
   ·grind
   ·rw[gg]at ac ⊢
    by_cases hj:0<es.size
    ·grind
    ·have he:es=#[]:=Array.eq_empty_of_size_eq_zero (by omega);subst he;exact vA hv ab
  ·cases V
 ·cases h
theorem Yvq(V:SR base w g st){tot off len:Nat}{s:D}(hu:P.underlying dT=some (.slice elem))(a5:(P.info? elem).map (·.size)=some 1)(hd:RepV w g st (.row key tot off len) vd)(hs:RepV w g st s vs)
  (h:XM st 1 key tot off len s=some (r,st')):RunsTo P base w g st (Builtin.copy_ #[dT,sT] ty #[vd,vs]) r st':=by
 unfold XM at h
 split at h
 case h_2=>cases h
 rename_i o cc xs N a6
 split at h
 case isFalse=>cases h
 rename_i hc;simp only[Af,AU,beq_iff_eq,decide_eq_true_eq,A6,BK]at hc;obtain⟨⟨⟨⟨⟨⟨⟨⟨E,be⟩,ae⟩,J⟩,_⟩,b4⟩,b5⟩,af⟩,b6⟩:=hc;simp only[Db,Dv]at h;obtain⟨rfl,rfl⟩:=h;obtain⟨I,h1,h2,h3,rfl,h5⟩:=TA (by simp[E0,N,E,ae]) hd;obtain rfl:I=o:=AB (h1.symm.trans N);obtain⟨C,e,hb,bf,b8,hx,hC,b9⟩:=V.blk key I N (M6 E);rw[E]at hC;simp only[if_true]at hC
 have hE:Els w g st vs 1 xs:=by
  rcases iW V a6 hs with Y | ⟨s',rfl,_,_⟩
  ·grind
  ·simp[Jq]at af
 obtain⟨⟨a,cap,rfl,a7⟩,bg,a8⟩:=hE;have cd:min len xs.length≤xs.length:=Nat.min_le_right _ _;have ce:min len xs.length≤len:=Nat.min_le_left _ _;have a0:Nat.min xs.length len=min len xs.length:=Nat.min_comm ..;generalize min len xs.length=m at*
 have a1:xs≠[]:=by
  grind
 obtain⟨b,o2,rfl,_,bh⟩:=a7 a1
 have cf:∀ j,j<m→∃ d u,FT xs j 0=some d∧w.cell? ⟨b,o2+j,none⟩=some u∧RepV w g st d u∧u.oneCell'=true:=by
  intro j hj;have ab:j<xs.length:=by omega
  have cg:=a8 xs[j] (BE ab);have ch:FT xs j 0=some (xs[j].cells[0]'(by omega)):=HO (Am ab) (Am (by omega));grind
 have ac:∀ j:Nat,((CS m).map fun j=>(w.cell? ⟨b,o2+j,none⟩).getD undef)[j]?=if j<m then w.cell? ⟨b,o2+j,none⟩else none:=fun j=>by
  grind
 have hlen:((CS m).map fun j=>(w.cell? ⟨b,o2+j,none⟩).getD undef).length=m:=by rw[Bi,List.length_range]
 generalize ((CS m).map fun j=>(w.cell? ⟨b,o2+j,none⟩).getD undef)=cs at ac hlen
 have a2:∀ v∈cs,v.oneCell'=true:=fun v hv=>by
  obtain⟨j,hj⟩:=A0.1 hv;grind
 rw[J,BR]at hC;rw[show off*I.sz=off by rw[J,BR]];have O:off+cs.length≤C.size:=by omega
 have a3:=run_copy_row P w dT sT ty elem (g.β key) off len (g.γ key - off) ⟨b,o2,none⟩ xs.length cap C e cs hu a5 hb (by rw[hlen]; exact a0.symm) (fun j v hv=>by
   rw[ac]at hv
   split at hv
   ·rw[cell?_add]; simpa using hv
   ·cases hv) O a2
 have a9:(xs.take m).length=m:=by rw[AL]; omega
 have U:off+(xs.take m).length≤I.els.length:=by omega
 have ba:=UE U
 have a4:∀ j y,(FG I.els off (xs.take m))[j]?=some y→(off≤j∧j<off+m∧xs[j - off]?=some y)∨(¬ (off≤j∧j<off+m)∧I.els[j]?=some y):=by
  intro j y M;rw[QU U,a9]at M;grind
 refine⟨_,_,{g with β:=FK g.β key (g.β key),γ:=FK g.γ key (g.γ key)},a3,?_,by simp only[goInt,hlen]; exact .int _ _⟩
 refine SR.update (o':={I with els:=FG I.els off (xs.take m)}) (c:=g.γ key) V N (M6 E) hb (.inl ⟨rfl,rfl⟩) rfl rfl (by simp[ba]) rfl ?_ (UD w _ _)
  (fun b' _ c0=>setRow_other w _ _ _ (by omega)) (setRow_heap w _ C _ e _ hb) ?_ ?_ ?_
 ·intro y M;obtain⟨j,hj⟩:=A0.1 M;grind
 ·intro _ y M;have:=(V.dis key I y N M).1;grind
 ·grind
 ·intro i j d bb;obtain⟨y,M,ad⟩:=Iq bb
  have bc:j=0:=by
   have h7:y.cells.length=1:=by
    grind
   grind
  subst bc;rw[J,BR,B2,Uz O,hlen];rcases a4 i y M with⟨Y,h7,h8⟩ | ⟨Y,h7⟩
  ·rw[if_pos ⟨Y,h7⟩];have bd:=HO h8 ad;grind
  ·rw[if_neg Y];have bd:=HO h7 ad;grind
theorem Yvp(O:SR base w g st){s:D}(hu:P.underlying dT=some (.slice elem))(b9:Eo P elem=some 1)(M:RepV w g st d vd)(hs:RepV w g st s vs)
  (h:KE st 1 d s=some (r,st')):RunsTo P base w g st (Builtin.copy_ #[dT,sT] ty #[vd,vs]) r st':=by
 have ab:(P.info? elem).map (·.size)=some 1:=b9;have ba:∀ (a V:Option Addr) (c n' c':Nat),(Builtin.copy_ #[dT,sT] ty #[.slice a 0 c,.slice V n' c']).run P w=.ok (goInt 0) w:=fun a V c n' c'=>run_copy_none (P:=P) w dT sT ty elem a V 0 c n' c' hu ab (Nat.min_zero _);have ca:∀ (a V:Option Addr) (n c c':Nat),(Builtin.copy_ #[dT,sT] ty #[.slice a n c,.slice V 0 c']).run P w=.ok (goInt 0) w:=fun a V n c c'=>run_copy_none (P:=P) w dT sT ty elem a V n c 0 c' hu ab (Nat.zero_min _);unfold KE at h
 split at h
 ·rename_i key off n da _ af E n2 db _
  split at h
  ·cases h
  rename_i c0
  split at h
  case h_2=>cases h
  rename_i o o2 ho bb
  split at h
  case isFalse=>cases h
  rename_i hc;simp only[Af,AU,decide_eq_true_eq,BR]at hc;obtain⟨⟨⟨⟨⟨Y,c1⟩,a8⟩,hle⟩,c4⟩,bf⟩:=hc;simp only[Db,Dv,BR]at h;obtain⟨rfl,rfl⟩:=h
  cases M with
  |bsl _ _ _ _ _ I cap q1 q2 q3 _=>
   obtain rfl:I=o:=AB (q1.symm.trans ho)
   cases hs with
   |bsl _ _ _ _ _ U N u1 u2 u3 _=>
    obtain rfl:U=o2:=AB (u1.symm.trans bb);obtain⟨C,e,hb,c2,c5,hx,hC,b1⟩:=O.blk key I ho (P0 q3);obtain⟨C2,e2,cc,cd,c3,dc,a0,a9⟩:=O.blk af U bb (P0 u3);rw[Y]at hC;rw[a8]at a0;simp only[Ao,if_false]at hC a0;obtain⟨bc,c6,ce⟩:=hC;obtain⟨dd,_,cf⟩:=a0;have b2:Nat.min n2 n=min n n2:=Nat.min_comm ..;generalize hm:min n n2=mm at*;have bd:((U.els.drop E).take mm).length=mm:=by rw[AL,AQ]; omega
    have b3:∀ j d,((U.els.drop E).take mm)[j]?=some d→∃ u,C2[E+j]?=some u∧RepV w g st d u∧d.cells=[d]∧u.oneCell'=true:=fun j d M=>by
     obtain⟨h6,_⟩:=ff M;have h7:=cf d (Ap h6);obtain⟨_,u,h8,h9⟩:=a9 (E+j) 0 d (HO h6 (by rw[h7]; rfl));rw[u3]at h8;exact⟨u,by simpa using h8,h9,h7,h9.oneCell (Ak.1 bf d (Ap M))⟩
    have hlen:((C2.toList.drop E).take mm).length=mm:=by
     grind
    have a3:∀ j:Nat,((C2.toList.drop E).take mm)[j]?=if j<mm then C2[E+j]? else none:=fun j=>by
     grind
    generalize c7:(C2.toList.drop E).take mm=cs at hlen a3;generalize c8:(U.els.drop E).take mm=xs at*
    have b7:∀ v∈cs,v.oneCell'=true:=fun v hv=>by
     obtain⟨j,hj⟩:=A0.1 hv;have cg:j<mm:=by have:=(Ac.1 hj).1; omega
     rw[a3,if_pos cg]at hj;obtain⟨u,h8,_,_,h9⟩:=b3 j xs[j] (Am (by omega));grind
    have a4:=run_copy_row P w dT sT ty elem (g.β key) off n cap ⟨g.β af,E,none⟩ n2 N C e cs hu ab hb (by rw[hlen]; exact b2.symm) (fun j v hv=>by
      rw[a3]at hv
      split at hv
      ·rw[cell?_add]; simp only[World.cell?,cc]; simpa using hv
      ·cases hv) (by rw[hlen,bc]; exact hle) b7
    rw[hlen]at a4;have b8:off+cs.length≤C.size:=by rw[hlen,bc]; exact hle
    have aa:off+xs.length≤I.els.length:=by rw[bd]; exact hle
    have ch:=UE aa
    have mem:∀ y∈FG I.els off xs,y.cells=[y]:=by
     intro y J;obtain⟨j,hj⟩:=A0.1 J;rw[QU aa]at hj;grind
    have eo:({row:=false,sz:=I.sz,els:=FG I.els off xs,lent:=I.lent}:Obj)={I with els:=FG I.els off xs}:=by rw[← Y]
    refine⟨_,_,{g with β:=FK g.β key (g.β key),γ:=FK g.γ key (g.γ key)},a4,?_,by simp only[goInt]; exact .int _ _⟩
    refine SR.update (o':={I with els:=FG I.els off xs}) (c:=g.γ key) O ho (P0 q3) hb (.inl ⟨rfl,rfl⟩) rfl rfl (by simp[ch]) rfl (fun y J=>by rw[mem y J,q3]; rfl) (UD w _ _)
     (fun b' _ de=>setRow_other w _ _ _ (by omega)) (by rw[← hlen]; exact setRow_heap w _ C _ e _ hb) ?_ ?_ ?_
    ·intro _ y J;have:=(O.dis key I y ho J).1;grind
    ·grind
    ·intro i j d M;refine⟨fun h=>by simp[Y]at h,?_⟩;obtain⟨y,J,ac⟩:=Iq M;have h5:=mem y (Ap J);rw[h5]at ac
     cases j with
     |succ j=>simp at ac
     |zero=>
      simp only[AF,Db]at ac;subst ac;rw[q3,BR,B2,Uz b8];rw[QU aa]at J;rw[hlen];rw[bd]at J
      split at J
      ·grind
      ·rename_i hc;rw[if_neg hc];have h8:=ce y (Ap J);obtain⟨_,u,h6,h7⟩:=b1 i 0 y (HO J (by rw[h8]; rfl));grind
 ·simp only[Db,Dv]at h;obtain⟨rfl,rfl⟩:=h
  cases M with
  |slcE _ _ a cap _=>
   cases hs with
   |bsl _ _ _ _ _ I N q1 q2 q3 _=>
    exact⟨goInt 0,w,g,ba _ _ _ _ _,Go1.refl O,.int _ _⟩
  |slc _ _ _ _ _ _ _ h=>exact absurd rfl h
 ·simp only[Db,Dv]at h;obtain⟨rfl,rfl⟩:=h
  cases hs with
  |slcE _ _ a cap _=>
   cases M with
   |bsl _ _ _ _ _ I N q1 q2 q3 _=>
    exact⟨goInt 0,w,g,ca _ _ _ _ _,Go1.refl O,.int _ _⟩
  |slc _ _ _ _ _ _ _ h=>exact absurd rfl h
 ·simp only[Db,Dv]at h;obtain⟨rfl,rfl⟩:=h
  cases hs with
  |slcE _ _ a cap _=>
   cases M with
   |slcE _ _ a2 N _=>
    exact⟨goInt 0,w,g,ba _ _ _ _ _,Go1.refl O,.int _ _⟩
   |slc _ _ _ _ _ _ _ h=>exact absurd rfl h
  |slc _ _ _ _ _ _ _ h=>exact absurd rfl h
 ·exact Yvq O hu ab M hs h
 ·cases h
end
end Go.Proofs.YtijnglngaogdjaaGreatDoor.PI
namespace Go.Proofs.YtijnglngaogdjaaGreatDoor.PI
open Go Go.RowKit
def gi(P:Program)(t:TypeId):Option (Nat→Option (Nat×Nat)):=
 match P.underlying t with
 |some (.array _ e)=>match P.info? e with
  |some ie=>some fun i=>some (i*ie.size,ie.size)
  |none=>none
 |some (.struct fields)=>match fields.toList.mapM (fun f=>(P.info? f.type).map fun i=>(f.offset,i.size))with
  |some places=>some fun i=>places.toArray[i]?
  |none=>none
 |_=>none
def RZ(pl:Nat→Option (Nat×Nat)):List (Nat×Operand)→Option (List (Nat×Nat×PA))
 |[]=>some []
 |(i,x)::r=>match pl i,DR x,RZ pl r with
  |some (off,size),some a,some l=>some ((off,size,a)::l)
  |_,_,_=>none
def Vl:Nat→List (Nat×Operand)→Option (List PA)
 |_,[]=>some []
 |k,(i,x)::r=>match DR x,Vl (k+1) r with
  |some a,some l=>if i=k then some (a::l)else none
  |_,_=>none
def dH(P:Program)(op:BinOp)(t:TypeId)(a b:PA):Option POp:=
 match op with
 |.eql | .neq=>
  let neg:=match op with | .neq=>true | _=>false
  match P.underlying t with
  |some (.int _) | some .string=>some (.bin op a b)
  |some .bool=>some (.beq neg a b)
  |some (.struct _) | some (.array _ _)=>match JE P 100 t with
   |some ks=>if P.eqGuardType P.depth t then none else some (.aeq ks neg a b)
   |none=>none
  |_=>none
 |_=>some (.bin op a b)
def aX(P:Program)(src dst:TypeId)(a:PA):Option POp:=
 match P.underlying src,P.underlying dst with
 |some _,some (.int k)=>some (.conv (.int k) a)
 |some .string,some .string=>some (.conv .same a)
 |some .string,some (.slice e)=>match P.underlying e with
  |some (.int .u8)=>some (.conv .bytes a)
  |_=>none
 |some (.slice e),some .string=>match P.underlying e with
  |some (.int .u8)=>some (.conv .str a)
  |_=>none
 |_,_=>none
def bI(P:Program)(t:TypeId)(a:PA)(lo hi mx:Option PA):Option POp:=
 match P.underlying t with
 |some .string=>some (.slice 0 a lo hi mx)
 |some (.slice e)=>match Eo P e with
  |some sz=>if sz=0 then none else some (.slice sz a lo hi mx)
  |none=>none
 |some (.array n e)=>match Eo P e,EG P e,mx with
  |some sz,some ag,none=>some (.sliceA n sz ag a lo hi)
  |_,_,_=>none
 |_=>none
def Ym(P:Program)(b:Builtin)(args:List Operand)(ts:List TypeId):Option POp:=
 match b,args,ts with
 |.len,[x],[t]=>match DR x,P.underlying t with
  |some a,some .string=>some (.len true a)
  |some a,some (.slice _)=>some (.len false a)
  |some _,some (.array n _)=>some (.lenA n)
  |_,_=>none
 |.append,[s,x],[t,tx]=>match DR s,DR x,P.underlying t,P.underlying tx with
  |some a,some b,some (.slice e),some (.slice _) | some a,some b,some (.slice e),some .string=>match P.info? e with
   |some i=>match i.zero with
    |some z=>if z.cells.size=i.size then some (.app i.size i.bytes a b)else none
    |none=>none
   |none=>none
  |_,_,_,_=>none
 |.copy,[d,s],[t,_]=>match DR d,DR s,P.underlying t with
  |some a,some b,some (.slice e)=>match Eo P e with
   |some 1=>some (.cpy 1 a b)
   |_=>none
  |_,_,_=>none
 |.min,[x,y],_=>match DR x,DR y with
  |some a,some b=>some (.mm false a b)
  |_,_=>none
 |.max,[x,y],_=>match DR x,DR y with
  |some a,some b=>some (.mm true a b)
  |_,_=>none
 |.min,[x,y,z],_=>match DR x,DR y,DR z with
  |some a,some b,some c=>some (.mm3 false a b c)
  |_,_,_=>none
 |.max,[x,y,z],_=>match DR x,DR y,DR z with
  |some a,some b,some c=>some (.mm3 true a b c)
  |_,_,_=>none
 |_,_,_=>none
def Dw(P:Program)(il:List Nat):Op→Option POp
 |.move x | .assign x=>(DR x).map .mov
 |.pick c a b=>match DR c,DR a,DR b with
  |some c,some a,some b=>some (.pick c a b)
  |_,_,_=>none
 |.alloc t=>(Is P t).map fun d=>.box (.c d)
 |.box _ x=>(DR x).map .box
 |.build t parts=>match Is P t,gi P t with
  |some (.agg zs),some pl=>(RZ pl parts.toList).map (.bld zs)
  |_,_=>none
 |.buildSlice t len parts=>match P.underlying t with
  |some (.slice e)=>match P.info? e with
   |some i=>match i.zero,Vl 0 parts.toList with
    |some _,some l=>if l.length=len then some (.bslc i.size l)else none
    |_,_=>none
   |none=>none
  |_=>none
 |.load t a=>match DR a,Eo P t,EG P t with
  |some a,some n,some ag=>some (.load n ag a)
  |_,_,_=>none
 |.store t a x=>match DR a,DR x,Eo P t with
  |some a,some x,some n=>some (.stor n a x)
  |_,_,_=>none
 |.nilCheck x=>(DR x).map .nilc
 |.binOp op t x y _=>match DR x,DR y with
  |some a,some b=>dH P op t a b
  |_,_=>none
 |.unOp op _ x=>(DR x).map (.un op)
 |.convert src dst x=>match DR x with
  |some a=>aX P src dst a
  |none=>none
 |.makeSlice t l c=>match DR l,DR c,P.underlying t with
  |some l,some c,some (.slice e)=>match P.info? e with
   |some i=>match i.zero with
    |some z=>(Pm z).map fun zd=>.mkslc i.size i.bytes zd l c
    |none=>none
   |none=>none
  |_,_,_=>none
 |.slice t x lo hi mx=>match DR x,Tm lo,Tm hi,Tm mx with
  |some a,some lo,some hi,some mx=>bI P t a lo hi mx
  |_,_,_,_=>none
 |.fieldAddr s x f=>match DR x,P.underlying s with
  |some a,some (.struct fields)=>match fields[f]? with
   |some fd=>match Eo P fd.type with
    |some n=>if n=0 then none else some (.fld fd.offset a)
    |none=>none
   |none=>none
  |_,_=>none
 |.field s x f=>match DR x,P.underlying s with
  |some a,some (.struct fields)=>match fields[f]? with
   |some fd=>match Eo P fd.type,EG P fd.type with
    |some n,some ag=>some (.fldv fd.offset n ag a)
    |_,_=>none
   |none=>none
  |_,_=>none
 |.indexAddr t x i=>match DR x,DR i,P.underlying t with
  |some a,some i,some (.array len e)=>(Eo P e).map fun n=>.idxA len n a i
  |some a,some i,some (.slice e)=>(Eo P e).map fun n=>.idxS n a i
  |_,_,_=>none
 |.index t x i=>match DR x,DR i,P.underlying t with
  |some a,some i,some (.array len e)=>match Eo P e,EG P e with
   |some n,some ag=>some (.idxV len n ag a i)
   |_,_=>none
  |some a,some i,some .string=>some (.idx a i)
  |_,_,_=>none
 |.extract x i=>(DR x).map fun a=>.ext a i
 |.makeMap t none=>match Q3 P t with
  |some (_,_,sz,_)=>some (.mkmap sz)
  |none=>none
 |.mapUpdate t m k v | .insert t m k v=>match Q3 P t,DR m,DR k,DR v with
  |some (_,_,sz,ks),some m,some k,some v=>some (.mapup sz ks m k v)
  |_,_,_,_=>none
 |.lookup t m k ok=>match Q3 P t,DR m,DR k with
  |some (_,et,sz,ks),some m,some k=>(Is P et).map fun zd=>.mapget sz ks ok zd m k
  |_,_,_=>match aK P t,DR m,DR k with
   |some zd,some m,some k=>some (.mapget 0 [] ok zd m k)
   |_,_,_=>none
 |.call c=>match c.callee with
  |.builtin b=>Ym P b c.args.toList c.argTypes.toList
  |.value (.func f)=>match P.funcs[f]?,Iy c.args.toList with
   |some fn,some l=>if fn.body.isSome && !(fn.name == "runtime.NumGoroutine") && decide (f<50000000)then some (if il.contains (f+1000000)then .mcall f l else if il.contains (f+90000000)then .rcall f l else if il.contains f then .icall f l else .call f l)else if fn.body.isSome then none else some (.call (f+50000000) l)
   |_,_=>none
  |.value x=>match DR x,Iy c.args.toList with
   |some a,some l=>some (.callv a l)
   |_,_=>none
  |_=>none
 |.makeFunc (.func f) first caps=>if decide (f<5000000)then(if first.isEmpty then(Iy caps.toList).map (.mkclo f)else if caps.isEmpty then(Iy first.toList).map (.mkclo (f+5000000))else none)else none
 |_=>none
def Contract(P:Program)(G:Dj)(f:Nat)(sp:List D→Option D):Prop:=
 ∀ (w:World) (g:Ghost) (ds:List D) (vs:List Value) (d:D),sp ds=some d→GlobOK G w g→(∀ b o,g.Im b o→(w.cell? ⟨b,o,none⟩).isSome=true)→ds.length=vs.length→
  (∀ (i:Nat) d v,ds[i]?=some d→vs[i]?=some v→RepV w g [] d v)→(∀ d∈ds,purA d=true)→
  Calls P f vs.toArray w fun e w'=>∃ v g',e=.returned v∧RepV w' g' [] d v∧purR d=true∧ImLe w g w' g'∧(∀ b o,g'.Im b o→g.Im b o∨w.heap.size≤b)∧
   (∀ b o,g'.Im b o→(w'.cell? ⟨b,o,none⟩).isSome=true)∧Below w.heap.size w w'
def IContract(P:Program)(G:Dj)(f:Nat)(sp:List D→St→Option (D×St)):Prop:=
 (∃ fn,P.funcs[f]?=some fn∧fn.body.isSome=true∧(fn.name == "runtime.NumGoroutine")=false)∧
 ∀ (base:Nat) (w:World) (g:Ghost) (st st':St) (ds:List D) (vs:List Value) (d:D),sp ds st=some (d,st')→SR base w g st→GlobOK G w g→ds.length=vs.length→
  (∀ (i:Nat) d v,ds[i]?=some d→vs[i]?=some v→RepV w g st d v)→
  Calls P f vs.toArray w fun e w'=>∃ v g',e=.returned v∧Go1 base w g st w' g' st'∧RepV w' g' st' d v
def pY(P:Program)(base:Nat)(w:World)(g:Ghost)(st st':St)(l:Nat)(vs:List Value)(d:D):Prop:=
 ∃ f tmps assign body,(Instr.yield l vs.toArray).run P w=.ok (.round l f tmps assign body) w∧
  RoundIn Fence.wide 0 P l f tmps assign body w fun e w'=>∃ v g',e=.returned v∧Go1 base w g st w' g' st'∧RepV w' g' st' d v
def YOK(P:Program)(G:Dj)(y:Nat→List D→St→Option (D×St))(base:Nat)(w0:World)(g0:Ghost)(st0:St):Prop:=
 ∀ (l:Nat) (w:World) (g:Ghost) (st st':St) (ds:List D) (vs:List Value) (d:D),Go1 base w0 g0 st0 w g st→GlobOK G w g→y l ds st=some (d,st')→ds.length=vs.length→
  (∀ (i:Nat) d v,ds[i]?=some d→vs[i]?=some v→RepV w g st d v)→pY P base w g st st' l vs d
def Uj(P:Program)(G:Dj)(f:Nat)(sp:(List D→St→Option (D×St))→List D→St→Option (D×St)):Prop:=
 (∃ fn,P.funcs[f]?=some fn∧fn.body.isSome=true∧(fn.name == "runtime.NumGoroutine")=false)∧
 ∀ (base:Nat) (w:World) (g:Ghost) (st st':St) (ds:List D) (vs:List Value) (d:D) (l:Nat) (y:List D→St→Option (D×St)),YOK P G (fun l' ds st=>if l'=l then y ds st else none) base w g st→
  sp y ds st=some (d,st')→SR base w g st→GlobOK G w g→ds.length=vs.length→(∀ (i:Nat) d v,ds[i]?=some d→vs[i]?=some v→RepV w g st d v)→
  Calls P f (Value.func (.yield l) #[] #[]::vs).toArray w fun e w'=>∃ v g',e=.returned v∧Go1 base w g st w' g' st'∧RepV w' g' st' d v
def yo(P:Program)(f:Nat)(sp:List D→Option D):Prop:=
 ∀ (ys:List D) (r:D),sp ys=some r→∀ (w:World) (g:Ghost) (st:St) (vs:List Value),ys.length=vs.length→(∀ (i:Nat) y v,ys[i]?=some y→vs[i]?=some v→RepV w g st y v)→
  ∃ v,(callFunc f vs.toArray).run P w=.ok (.value v) w∧∀ (g:Ghost) (st:St),RepV w g st r v
def Nl:D→Value
 |.int k n=>.int k n
 |_=>undef
def GS:D→Value
 |.agg l=>.agg (l.map Nl).toArray
 |d=>Nl d
def LY(t:Nat)(d:D):List PanicEntry:=[{v:=.iface t (GS d),recovered:=false}]
def bU(t:Nat)(d:D):List PanicEntry:=[{v:=.iface t (GS d),recovered:=true}]
variable {v:Value}{d:D}{g:Ghost}{w:World}
theorem Yiq{st:St}(h:RepV w g st d v)(hi:Qi d=true):v=Nl d:=by
 cases h <;> first | rfl | (simp[Qi]at hi; done)
theorem yZs{st:St}(h:RepV w g st d v)(hi:LN d=true):v=GS d:=by
 cases h with
 |int k n=>rfl
 |agg ds vs hl hv=>
  have:vs=ds.map Nl:=by
   apply List.ext_getElem (by simp[hl]);intro i I M;have E:i<ds.length:=by omega
   have J:ds[i]?=some ds[i]:=Am E;have:=Yiq (hv i ds[i] vs[i] J (Am I)) (Ak.1 hi _ (BE E));grind
  rw[this]; rfl
 |_=>simp[LN,Qi]at hi
def QN(P:Program)(G:Dj)(f:Nat)(sp:List D→St→Option (Nat×D×St)):Prop:=
 (∃ fn,P.funcs[f]?=some fn∧fn.body.isSome=true∧(fn.name == "runtime.NumGoroutine")=false)∧
 ∀ (base:Nat) (w:World) (g:Ghost) (st st':St) (ds:List D) (vs:List Value) (t:Nat) (d:D),sp ds st=some (t,d,st')→SR base w g st→GlobOK G w g→ds.length=vs.length→
  (∀ (i:Nat) d v,ds[i]?=some d→vs[i]?=some v→RepV w g st d v)→
  Calls P f vs.toArray w fun e w'=>∃ g',e=.panicked (LY t d)∧Go1 base w g st w' g' st'
def T4(P:Program)(G:Dj)(f:Nat)(H:Nat→D→List D→St→Option St):Prop:=
 (∃ fn,P.funcs[f]?=some fn∧fn.body.isSome=true∧(fn.name == "runtime.NumGoroutine")=false)∧
 ∀ (base:Nat) (w:World) (g:Ghost) (st:St) (das:List D) (vs:List Value),SR base w g st→GlobOK G w g→das.length=vs.length→(∀ (i:Nat) d v,das[i]?=some d→vs[i]?=some v→RepV w g st d v)→
  (CallsDIn Fence.wide 0 P f vs.toArray .returning w fun e u w'=>e=.returned (.tuple #[])∧u=.returning∧∃ g',Go1 base w g st w' g' st)∧
  ∀ t d st',H t d das st=some st'→CallsDIn Fence.wide 0 P f vs.toArray (.panicking (LY t d)) w fun e u w'=>e=.returned (.tuple #[])∧u=.panicking (bU t d)∧∃ g',Go1 base w g st w' g' st'
structure TblOK (P:Program) (G:Dj) (T:Tbl):Prop where
 p:∀ f sp,T.p f=some sp→(f<50000000∧Contract P G f sp)∨∃ f',f=f'+50000000∧yo P f' sp
 i:∀ f sp,T.i f=some sp→IContract P G f sp
 m:∀ f sp,T.m f=some sp→IContract P G f (fun ds st=>(sp ds).map fun r=>(r.1 st.length,st++r.2 st.length))
 r:∀ f sp,T.r f=some sp→Uj P G f sp
 x:∀ f sp,T.x f=some sp→QN P G f sp
 q:∀ f sp,T.q f=some sp→IContract P G f (fun ds st=>(IZ sp ds st).map (·,st))
variable {st':St}{g':Ghost}{w':World}
section
variable {P:Program} {base:Nat} {w:World} {g:Ghost} {st:St}
theorem Sv(st:St)(k:Nat)(key:Nat):(st.modify k fun o=>{o with lent:=true})[key]?=(st[key]?).map fun o=>if k=key then {o with lent:=true} else o:=by
 grind
theorem lW(st:St)(k key tot off len:Nat):HL (st.modify k fun o=>{o with lent:=true}) key tot off len=HL st key tot off len:=by
 unfold HL;grind
theorem yY7(st:St)(k key off n sz:Nat)(ag:Bool):H8 (st.modify k fun o=>{o with lent:=true}) key off n sz ag=H8 st key off n sz ag:=by
 unfold H8 LA;grind
theorem tv(st:St)(k:Nat)(d:D):DD (st.modify k fun o=>{o with lent:=true}) d=DD st d:=by
 cases d <;> simp only[DD,lW,yY7]
theorem tw(st:St)(k:Nat):∀ (l:List D),D9 (st.modify k fun o=>{o with lent:=true}) l=D9 st l
 |[]=>rfl
 |d::l=>by simp only[D9,tv,tw st k l]
theorem Yd9(st:St)(k:Nat)(d:D):DW (st.modify k fun o=>{o with lent:=true}) d=DW st d:=by
 cases d <;> simp only[DW,tv,tw]
theorem YE(st:St)(k:Nat):∀ (l:List D),Ek (st.modify k fun o=>{o with lent:=true}) l=Ek st l
 |[]=>rfl
 |d::l=>by simp only[Ek,Yd9,YE st k l]
theorem rb(l:List D):∀ (ks:List Nat) (st:St),Ek (lend ks st) l=Ek st l
 |[],_=>rfl
 |k::r,st=>by rw[lend,rb l r,YE]
theorem Ydg(ks:List Nat){g:Ghost}{st:St}(M:∀ (k:Nat) o',st'[k]?=some o'→∃ o,st[k]?=some o∧o'.els=o.els∧o'.sz=o.sz∧o'.row=o.row)(hb:g'.β=g.β)
  (h:∀ k∈ks,∀ o,st[k]?=some o→o.isMap=false→∀ x,x<o.els.length*o.sz→g'.Im (g.β k) x):Lv g' st' ks:=by
 intro k hk o' E hm x I;obtain⟨o,N,O,J,U⟩:=M k o' E;rw[O,J]at I;rw[hb];exact h k hk o N ((Qv U J).symm.trans hm) x I
theorem oG:∀ (ks:List Nat) (st:St) (k:Nat) (o':Obj),(lend ks st)[k]?=some o'→∃ o,st[k]?=some o∧o'.els=o.els∧o'.sz=o.sz∧o'.row=o.row
 |[],_,_,o',h=>⟨o',h,rfl,rfl,rfl⟩
 |q::r,st,k,o',h=>by
  obtain⟨o1,E,I,J,M⟩:=oG r _ k o' h;grind
theorem Sn(I:SR base w g st){ds ys:List D}(h:Ek st ds=some ys):∃ g',Go1 base w g st w g' (lend (ds.flatMap keys) st)∧g'.β=g.β∧ys.length=ds.length∧(∀ y∈ys,purA y=true)∧
  ∀ (i:Nat) y v,ys[i]?=some y→(∀ d,ds[i]?=some d→RepV w g st d v)→RepV w g' (lend (ds.flatMap keys) st) y v:=by
 obtain⟨g',E,hb,_,hl⟩:=I.lend (ds.flatMap keys);have J:=Ydg (ds.flatMap keys) (oG (ds.flatMap keys) st) hb hl;obtain⟨M,N,O⟩:=oz E.sr ((rb ds _ st).trans h) J;exact⟨g',E,hb,M,O,fun i y v U hv=>N i y v U fun d V=>E.rep (hv d V)⟩
theorem YH(h:RepV w g st d v)(hn:d.noRef1=true):RepV w' g' st' d v:=by
 cases h <;> first | exact .int _ _ | exact .bool _ | exact .str _ | (simp[D.noRef1]at hn; done)
theorem rO(h:RepV w g st d v)(hn:d.noRef=true):RepV w' g' st' d v:=by
 cases d with
 |agg l=>
  cases h with
  |agg _ vs I J=>
   simp only[D.noRef,Ak]at hn;exact .agg l vs I fun i d v E hv=>YH (J i d v E hv) (hn d (Ap E))
 |tup l=>
  cases h with
  |tup _ vs I J=>
   simp only[D.noRef,Ak]at hn;refine .tup l vs I fun i d v E hv=>?_;have M:=hn d (Ap E);have N:=J i d v E hv
   cases d with
   |agg U=>
    cases N with
    |agg _ O V Y=>
     simp only[Ak]at M;exact .agg U O V fun i d v E hv=>YH (Y i d v E hv) (M d (Ap E))
   |_=>exact YH N M
 |_=>exact YH h hn
end
end Go.Proofs.YtijnglngaogdjaaGreatDoor.PI
namespace Go.Proofs.YtijnglngaogdjaaGreatDoor.PI
open Go Go.RowKit
variable {s:Sem Value}{v:Value}{t:TypeId}{f len off:Nat}{vs:List Value}{ds ys:List D}{T:Tbl}{G:Dj}{sp:List D→St→Option (D×St)}{p:POp}{fr:Frame}{dst:Option Tmp}{parts:Array (Nat×Operand)}{x:Operand}{c:Call}{r:Option Nat}
section
variable {P:Program} {il:List Nat} {base:Nat} {w:World} {g:Ghost} {st st':St} {a:Act} {o:Oper} {next:Act→World→Prop} {Q:Exit→Act→World→Prop} {d:D}
theorem Oh(E:execOp a.eval o=(do pure (.value (← s))))(I:RunsTo P base w g st s d st')
  (hn:∀ v w' g',Go1 base w g st w' g' st'→RepV w' g' st' d v→next (a.put o.dst v) w'):o.wp P a w next Q:=by
 obtain⟨v,w',g',J,M,N⟩:=I;unfold Oper.wp;rw[E];simp only[Sem.run_bind,J,Result.andThen_ok,Sem.run_pure];exact hn v w' g' M N
theorem RunsTo.congr{s':Sem Value}(h:s.run P w=s'.run P w)(E:RunsTo P base w g st s' d st'):RunsTo P base w g st s d st':=by
 obtain⟨v,w',g',I,J,M⟩:=E;exact⟨v,w',g',h.trans I,J,M⟩
theorem Gi(E:SR base w g st)(I:execOp a.eval o=(do pure (.value (← s))))(J:s.run P w=.ok v w)(M:RepV w g st d v)
  (hn:∀ v w' g',Go1 base w g st w' g' st→RepV w' g' st d v→next (a.put o.dst v) w'):o.wp P a w next Q:=
 Oh I (.still E J M) hn
theorem lY{M:Nat→Option (Nat×Nat)}{ρ:PA→D}{I:Operand→Value}(N:∀ x E,DR x=some E→RepV w g st (ρ E) (I x)):∀ {l:List (Nat×Operand)} {ps:List (Nat×Nat×PA)},RZ M l=some ps→
  ∃ qs:List (Nat×Nat×Nat×D×Value),qs.map (fun p=>(p.2.1,p.2.2.1,p.2.2.2.1))=ps.map (fun p=>(p.1,p.2.1,ρ p.2.2))∧qs.map (fun p=>(p.1,p.2.2.2.2))=l.map (fun p=>(p.1,I p.2))∧
   (∀ p∈qs,M p.1=some (p.2.1,p.2.2.1))∧∀ p∈qs,RepV w g st p.2.2.2.1 p.2.2.2.2
 |[],ps,h=>by simp[RZ]at h; subst h; exact⟨[],rfl,rfl,fun p J=>(by cases J),fun p J=>(by cases J)⟩
 |(i,x)::r,ps,h=>by
  unfold RZ at h
  split at h
  ·rename_i off size E l Y h2 O;simp only[Db]at h; subst h;obtain⟨qs,U,V,e3,e4⟩:=lY N O;refine⟨(i,off,size,ρ E,I x)::qs,by simp[U],by simp[V],?_,?_⟩
   ·grind
   ·grind
  ·cases h
theorem lX{ρ:PA→D}{E:Operand→Value}(J:∀ x I,DR x=some I→RepV w g st (ρ I) (E x)):∀ {k:Nat} {l:List (Nat×Operand)} {ps:List PA},Vl k l=some ps→
  ∃ vs:List Value,l.map (fun p=>(p.1,E p.2))=(vs.zipIdx k).map (fun x=>(x.2,x.1))∧vs.length=ps.length∧∀ (i:Nat) d v,(ps.map ρ)[i]?=some d→vs[i]?=some v→RepV w g st d v
 |k,[],ps,h=>by simp[Vl]at h; subst h; exact⟨[],rfl,rfl,fun i d v h=>by simp at h⟩
 |k,(i,x)::r,ps,h=>by
  unfold Vl at h
  split at h
  ·rename_i I l U M;simp only[As,Db]at h;obtain⟨rfl,rfl⟩:=h;obtain⟨vs,N,O,V⟩:=lX J M;refine⟨E x::vs,by simp[N],by simp[O],?_⟩;grind
  ·cases h
theorem PR{ρ:PA→D}{I:Operand→Value}(J:∀ x E,DR x=some E→RepV w g st (ρ E) (I x)):∀ {l:List Operand} {ps:List PA},Iy l=some ps→
  ps.length=l.length∧∀ (i:Nat) d v,(ps.map ρ)[i]?=some d→(l.map I)[i]?=some v→RepV w g st d v
 |[],ps,h=>by simp[Iy]at h; subst h; exact⟨rfl,fun i d v h=>by simp at h⟩
 |x::r,ps,h=>by
  unfold Iy at h
  split at h
  ·rename_i E l N M;simp only[Db]at h; subst h;obtain⟨O,U⟩:=PR J M;grind
  ·cases h
theorem Yhb(a3:SR base w g st){zs:List D}{N:Nat→Option (Nat×Nat)}{l:List (Nat×Operand)}{ps:List (Nat×Nat×PA)}{ρ:PA→D}{V:Operand→Value}{parts:Array (Nat×Value)}{cs:List D}
  (Y:∀ x pa,DR x=some pa→RepV w g st (ρ pa) (V x)) (J:Is P t=some (.agg zs)) (E:gi P t=some N) (hp:RZ N l=some ps) (ab:parts.toList=l.map fun p=>(p.1,V p.2))
  (h:DO zs (ps.map fun p=>(p.1,p.2.1,ρ p.2.2))=some cs):∃ v,(Instr.build t parts).run P w=.ok v w∧RepV w g st (.agg cs) v:=by
 obtain⟨qs,e1,e2,e3,e4⟩:=lY Y hp;unfold Is at J
 split at J
 case h_2=>cases J
 rename_i i hi
 split at J
 case h_2=>cases J
 rename_i z M;obtain⟨vs,rfl,hl,hr⟩:=yVb (w:=w) (g:=g) (st:=st) J rfl;obtain⟨I,h1,h2,h3⟩:=qN (place:=N) qs zs vs.toArray cs (by rw[e1]; exact h) e3 e4 (by simpa using hl) (fun j d v O hv=>hr j d v O (by simpa using hv));refine⟨.agg I,?_,?_⟩
 ·refine run_build w t parts I ?_;unfold Program.built;unfold gi at E;rw[hi]
  split at E
  ·rename_i n e hu
   split at E
   ·rename_i ie ac;simp only[Db]at E;subst E;simp only[hu,M,ac,Value.cells];grind
   ·cases E
  ·rename_i fields hu
   split at E
   ·rename_i places U;simp only[Db]at E;subst E;simp only[hu,M,U,Value.cells];grind
   ·cases E
  ·cases E
 ·have:=RepV.agg (w:=w) (g:=g) (st:=st) cs I.toList (by simpa using h2) (fun i d v O hv=>h3 i d v O (by simpa using hv));omega
theorem Ysk{key:Nat}(h:RepV w g st (.ptr key off) v):∃ q,v=.pointer (some q):=by cases h; exact⟨_,rfl⟩
theorem Ym1{E:D}(h:RepV w g st (.eptr E off) v):∃ q,v=.pointer (some q):=by cases h; exact⟨_,rfl⟩
theorem Yvj(J:SR base w g st){sp:List D→Option D}{r:D}(Y:yo P f sp)(hi:Ek st ds=some ys)(hr:sp ys=some r)(hl:ds.length=vs.length)
  (I:∀ (i:Nat) d v,ds[i]?=some d→vs[i]?=some v→RepV w g st d v) (he:execOp a.eval o=callFunc f vs.toArray)
  (hn:∀ v w' g',Go1 base w g st w' g' (if r.noRef then st else lend (ds.flatMap keys) st)→RepV w' g' (if r.noRef then st else lend (ds.flatMap keys) st) r v→next (a.put o.dst v) w'):o.wp P a w next Q:=by
 obtain⟨g1,M,_,N,V,O⟩:=Sn J hi;obtain⟨v,h1,U⟩:=Y ys r hr w g1 _ vs (N.trans hl) (fun i y v hy hv=>O i y v hy (fun d hd=>I i d v hd hv));unfold Oper.wp;rw[he,h1]
 by_cases E:r.noRef=true
 ·exact hn v w g (by rw[if_pos E]; exact Go1.refl J) (U _ _)
 ·exact hn v w g1 (by rw[if_neg E]; exact M) (U _ _)
theorem Ynm(hT:TblOK P G T)(hS:SR base w g st)(hG:GlobOK G w g){fn:Func}{sp:List D→Option D}{r:D}(hfn:P.funcs[f]?=some fn)(hb:fn.body.isSome=true)(hname:(fn.name == "runtime.NumGoroutine")=false)(hf5:f<50000000)
  (hsp:T.p f=some sp) (hi:Ek st ds=some ys) (hr:sp ys=some r) (hl:ds.length=vs.length) (hrep:∀ (i:Nat) d v,ds[i]?=some d→vs[i]?=some v→RepV w g st d v)
  (he:execOp a.eval o=callFunc f vs.toArray)
  (hn:∀ v w' g',Go1 base w g st w' g' (if r.noRef then st else lend (ds.flatMap keys) st)→RepV w' g' (if r.noRef then st else lend (ds.flatMap keys) st) r v→next (a.put o.dst v) w'):o.wp P a w next Q:=by
 obtain⟨g1,hgo,_,hyl,hpure,hyr⟩:=Sn hS hi;have hC:Contract P G f sp:=((hT.p f sp hsp).resolve_right (fun⟨f',e,_⟩=>by omega)).2;have hc:=hC w g1 ys vs r hr (hG.mono hgo.im) hgo.sr.im (hyl.trans hl) (fun i y v hy hv=>(hyr i y v hy (fun d hd=>hrep i d v hd hv)).purA (ImLe.refl _ _) (hpure y (Ap hy))) hpure;unfold Oper.wp;rw[he]
 have hrun:(callFunc f vs.toArray).run P w=.ok (.enter f vs.toArray) w:=by
  have hbn:¬ fn.body=none:=by
   grind
  have hn':¬ fn.name= "runtime.NumGoroutine":=by simpa using hname
  simp[callFunc,hfn,hn',hbn]
 rw[hrun,Oper.upon_enter];refine hc.mono ?_;rintro e w' ⟨v,g',rfl,h1,h2,h3,h4,h5,h6⟩;have hbes:Beside w w':=⟨h6.os,h6.tape,h6.output,h6.size⟩
 by_cases hnr:r.noRef=true
 ·refine hn v w' {g with Im:=g.Im} ?_ (by rw[if_pos hnr]; exact rO h1 hnr);rw[if_pos hnr];refine hS.more hbes h6.block (fun _ _ h=>h) (fun _ _ h=>.inl h) (fun b o hb=>?_);have:w'.cell? ⟨b,o,none⟩=w.cell? ⟨b,o,none⟩:=by simp only[World.cell?,h6.block b (hS.im_lt hb)]
  rw[this]; exact hS.im b o hb
 ·refine hn v w' {g1 with Im:=g'.Im} ?_ ?_
  ·rw[if_neg hnr];exact hgo.trans (hgo.sr.more hbes h6.block (fun b o h=>(h3.im b o h).1) (fun b o h=>h4 b o h) h5)
  ·exact RepV.purR (g:=g') (g':={g1 with Im:=g'.Im}) ⟨fun b o h=>⟨h,rfl⟩,fun _ _ h _=>h⟩ h1 h2
theorem dR(hC:IContract P G f sp)(hS:SR base w g st)(hG:GlobOK G w g){r:D}
  (hr:sp ds st=some (r,st')) (hl:ds.length=vs.length) (hrep:∀ (i:Nat) d v,ds[i]?=some d→vs[i]?=some v→RepV w g st d v)
  (he:execOp a.eval o=callFunc f vs.toArray)
  (hn:∀ v w' g',Go1 base w g st w' g' st'→RepV w' g' st' r v→next (a.put o.dst v) w'):o.wp P a w next Q:=by
 obtain⟨⟨fn,hfn,hb,hname⟩,hc⟩:=hC;unfold Oper.wp;rw[he]
 have hrun:(callFunc f vs.toArray).run P w=.ok (.enter f vs.toArray) w:=by
  have hbn:¬ fn.body=none:=by
   grind
  have hn':¬ fn.name= "runtime.NumGoroutine":=by simpa using hname
  simp[callFunc,hfn,hn',hbn]
 rw[hrun,Oper.upon_enter];refine(hc base w g st st' ds vs r hr hS hG hl hrep).mono ?_;grind
theorem jb(J:TblOK P G T)(M:SR base w g st)(N:GlobOK G w g){r:D}
  (I:T.i f=some sp) (O:sp ds st=some (r,st')) (hl:ds.length=vs.length) (E:∀ (i:Nat) d v,ds[i]?=some d→vs[i]?=some v→RepV w g st d v)
  (U:execOp a.eval o=callFunc f vs.toArray)
  (hn:∀ v w' g',Go1 base w g st w' g' st'→RepV w' g' st' r v→next (a.put o.dst v) w'):o.wp P a w next Q:=dR (J.i f sp I) M N O hl E U hn
theorem yXw{sp:List D→St→Option (Nat×D×St)}(hC:QN P G f sp)(hS:SR base w g st)(hG:GlobOK G w g){t:Nat}{d:D}
  (hr:sp ds st=some (t,d,st')) (hl:ds.length=vs.length) (hrep:∀ (i:Nat) d v,ds[i]?=some d→vs[i]?=some v→RepV w g st d v)
  (he:execOp a.eval o=callFunc f vs.toArray)
  (hn:∀ w' g',Go1 base w g st w' g' st'→Q (.panic (LY t d)) a w'):o.wp P a w next Q:=by
 obtain⟨⟨fn,hfn,hb,hname⟩,hc⟩:=hC;unfold Oper.wp;rw[he]
 have hrun:(callFunc f vs.toArray).run P w=.ok (.enter f vs.toArray) w:=by
  have hbn:¬ fn.body=none:=by
   grind
  have hn':¬ fn.name= "runtime.NumGoroutine":=by simpa using hname
  simp[callFunc,hfn,hn',hbn]
 rw[hrun,Oper.upon_enter];refine(hc base w g st st' ds vs t d hr hS hG hl hrep).mono ?_;grind
theorem Yjf(x:Operand){ty:TypeId}{pos:String}{after:Array Edge}{guard:Option (Nat×Bool)}(Y:TblOK P G T)(U:SR base w g st)(V:GlobOK G w g)(I:FR w g st fr a)(J:Dw P il (.move x)=some p)
  (M:p.exec T (Dq G fr) st=some (d,st')) (hn:∀ v w' g',Go1 base w g st w' g' st'→RepV w' g' st' d v→next (a.put dst v) w'):Oper.wp P {dst:=dst,op:=.move x,type:=ty,pos:=pos,after:=after,guard:=guard} a w next Q:=by
 have N:∀ x E,DR x=some E→RepV w g st (Dq G fr E) (a.eval x):=fun x E h=>Gy V I h;clear I;simp only[Dw,DG]at J;obtain⟨E,O,rfl⟩:=J;simp only[POp.exec,Db,Dv]at M;obtain⟨rfl,rfl⟩:=M;exact Gi (s:=pure (a.eval x)) U (by simp[execOp]) rfl (N x E O) hn
theorem yVv(x:Operand){ty:TypeId}{pos:String}{after:Array Edge}{guard:Option (Nat×Bool)}(Y:TblOK P G T)(U:SR base w g st)(V:GlobOK G w g)(I:FR w g st fr a)(J:Dw P il (.assign x)=some p)
  (M:p.exec T (Dq G fr) st=some (d,st')) (hn:∀ v w' g',Go1 base w g st w' g' st'→RepV w' g' st' d v→next (a.put dst v) w'):Oper.wp P {dst:=dst,op:=.assign x,type:=ty,pos:=pos,after:=after,guard:=guard} a w next Q:=by
 have N:∀ x E,DR x=some E→RepV w g st (Dq G fr E) (a.eval x):=fun x E h=>Gy V I h;clear I;simp only[Dw,DG]at J;obtain⟨E,O,rfl⟩:=J;simp only[POp.exec,Db,Dv]at M;obtain⟨rfl,rfl⟩:=M;exact Gi (s:=pure (a.eval x)) U (by simp[execOp]) rfl (N x E O) hn
theorem Yje(c x y:Operand){ty:TypeId}{pos:String}{after:Array Edge}{guard:Option (Nat×Bool)}(Y:TblOK P G T)(O:SR base w g st)(U:GlobOK G w g)(M:FR w g st fr a)(E:Dw P il (.pick c x y)=some p)
  (I:p.exec T (Dq G fr) st=some (d,st')) (hn:∀ v w' g',Go1 base w g st w' g' st'→RepV w' g' st' d v→next (a.put dst v) w'):Oper.wp P {dst:=dst,op:=.pick c x y,type:=ty,pos:=pos,after:=after,guard:=guard} a w next Q:=by
 have N:∀ x J,DR x=some J→RepV w g st (Dq G fr J) (a.eval x):=fun x J h=>Gy U M h;clear M;simp only[Dw]at E
 split at E
 ·rename_i pc px py V h2 h3;simp only[Db]at E; subst E;simp only[POp.exec]at I
  split at I
  ·rename_i b hb;simp only[Db,Dv]at I;obtain⟨rfl,rfl⟩:=I;have hc:=N c pc V;rw[hb]at hc;have hc:=L3 hc;refine Gi (s:=pure (if b then a.eval x else a.eval y)) O (by simp[execOp,hc,asBool]) rfl ?_ hn;grind
  ·cases I
 ·cases E
theorem Yas(t:TypeId){ty:TypeId}{pos:String}{after:Array Edge}{guard:Option (Nat×Bool)}(Y:TblOK P G T)(U:SR base w g st)(V:GlobOK G w g)(M:FR w g st fr a)(N:Dw P il (.alloc t)=some p)
  (I:p.exec T (Dq G fr) st=some (d,st')) (hn:∀ v w' g',Go1 base w g st w' g' st'→RepV w' g' st' d v→next (a.put dst v) w'):Oper.wp P {dst:=dst,op:=.alloc t,type:=ty,pos:=pos,after:=after,guard:=guard} a w next Q:=by
 have aa:∀ x J,DR x=some J→RepV w g st (Dq G fr J) (a.eval x):=fun x J h=>Gy V M h;clear M;simp only[Dw,DG]at N;obtain⟨zd,E,rfl⟩:=N;simp only[POp.exec]at I
 split at I
 case isFalse=>cases I
 rename_i hc
 replace hc:zd.cells.all D.isCell=true:=hc
 simp only[Db,Dv]at I;obtain⟨rfl,rfl⟩:=I;unfold Is at E
 split at E
 case h_2=>cases E
 rename_i i hi
 split at E
 case h_2=>cases E
 rename_i z O;refine Oh (s:=Instr.alloc t true (.tuple #[])) rfl (RunsTo.congr ?_ (wq (t:=t) U hc (Ss E))) hn;simp[Instr.alloc,zeroValue,typeInfo,hi,O]
theorem Yr5(t:TypeId)(x:Operand){ty:TypeId}{pos:String}{after:Array Edge}{guard:Option (Nat×Bool)}(Y:TblOK P G T)(U:SR base w g st)(V:GlobOK G w g)(J:FR w g st fr a)(M:Dw P il (.box t x)=some p)
  (E:p.exec T (Dq G fr) st=some (d,st')) (hn:∀ v w' g',Go1 base w g st w' g' st'→RepV w' g' st' d v→next (a.put dst v) w'):Oper.wp P {dst:=dst,op:=.box t x,type:=ty,pos:=pos,after:=after,guard:=guard} a w next Q:=by
 have N:∀ x I,DR x=some I→RepV w g st (Dq G fr I) (a.eval x):=fun x I h=>Gy V J h;clear J;simp only[Dw,DG]at M;obtain⟨I,O,rfl⟩:=M;simp only[POp.exec]at E
 split at E
 case isFalse=>cases E
 rename_i hc;simp only[Db,Dv]at E;obtain⟨rfl,rfl⟩:=E;exact Oh (s:=Instr.box t (a.eval x)) rfl (RunsTo.congr rfl (wq (t:=t) U hc (N x I O))) hn
theorem Yaq(t:TypeId)(parts:Array (Nat×Operand)){ty:TypeId}{pos:String}{after:Array Edge}{guard:Option (Nat×Bool)}(ae:TblOK P G T)(J:SR base w g st)(U:GlobOK G w g)(M:FR w g st fr a)(E:Dw P il (.build t parts)=some p)
  (N:p.exec T (Dq G fr) st=some (d,st')) (hn:∀ v w' g',Go1 base w g st w' g' st'→RepV w' g' st' d v→next (a.put dst v) w'):Oper.wp P {dst:=dst,op:=.build t parts,type:=ty,pos:=pos,after:=after,guard:=guard} a w next Q:=by
 have O:∀ x I,DR x=some I→RepV w g st (Dq G fr I) (a.eval x):=fun x I h=>Gy U M h;clear M;simp only[Dw]at E
 split at E
 case h_2=>cases E
 rename_i zs pl V Y;simp only[DG]at E;obtain⟨ps,h3,rfl⟩:=E;simp only[POp.exec,DG,Dv]at N;obtain⟨cs,h4,rfl,rfl⟩:=N;obtain⟨v,h5,h6⟩:=Yhb (P:=P) (parts:=parts.map fun(i,x)=>(i,a.eval x)) J O V Y h3 (by simp) h4;exact Gi J rfl h5 h6 hn
theorem mC(hS:SR base w g st)(hG:GlobOK G w g)(V:FR w g st fr a)(E:Dw P il (.buildSlice t len parts)=some p)
  (I:p.exec T (Dq G fr) st=some (d,st')):∃ ps,(∀ (dst:Option Tmp) (ty:TypeId) (pos:String) (after:Array Edge) (guard:Option (Nat×Bool)),execOp a.eval {dst:=dst,op:=.buildSlice t len parts,type:=ty,pos:=pos,after:=after,guard:=guard}=(do pure (.value (← Instr.buildSlice t len ps))))∧∃ v w' g',(Instr.buildSlice t len ps).run P w=.ok v w'∧Go1 base w g st w' g' st'∧RepV w' g' st' d v∧uW base w' g' st' v:=by

 have Y:∀ x N,DR x=some N→RepV w g st (Dq G fr N) (a.eval x):=fun x N h=>Gy hG V h;clear V;simp only[Dw]at E
 split at E
 case h_2=>cases E
 rename_i e hu
 split at E
 case h_2=>cases E
 rename_i i hi
 split at E
 case h_2=>cases E
 rename_i z l hz hl;simp only[As,Db]at E;obtain⟨hlen,rfl⟩:=E;simp only[POp.exec]at I
 split at I
 case h_2=>cases I
 rename_i els O
 split at I
 case isFalse=>cases I
 rename_i hc;simp only[Db,Dv]at I;obtain⟨rfl,rfl⟩:=I;simp only[Af,decide_eq_true_eq,Ak,beq_iff_eq]at hc;obtain⟨vs,e1,e2,e3⟩:=lX Y hl;obtain⟨g1,J,_,h1,h2,h3⟩:=Sn hS O;have U:∀ (i:Nat) d v,els[i]?=some d→vs[i]?=some v→RepV w g1 (lend ((l.map (Dq G fr)).flatMap keys) st) d v:=fun i d v hd hv=>h3 i d v hd fun d' ab=>e3 i d' v ab hv;have ac:els.length=vs.length:=by rw[h1,Bi,e2]
 have M:(parts.map fun(i,x)=>(i,a.eval x)).toList=(vs.zipIdx 0).map fun x=>(x.2,x.1):=by rw[← e1]; simp
 generalize ad:(parts.map fun(i,x)=>(i,a.eval x))=ps at M;obtain⟨v,w',g',r1,r2,r3,r4⟩:=Yhe (len:=len) (parts:=ps) J.sr hu hi hz rfl hc.1.2 h2 hc.1.1 ac U hc.2 (by rw[e2,← hlen]) M;exact⟨ps,fun _ _ _ _ _=>by simp only[execOp,ad],v,w',g',r1,J.trans r2,r3,r4⟩
theorem yE2(t:TypeId)(len:Nat)(parts:Array (Nat×Operand)){ty:TypeId}{pos:String}{after:Array Edge}{guard:Option (Nat×Bool)}(V:TblOK P G T)(E:SR base w g st)(I:GlobOK G w g)(J:FR w g st fr a)(M:Dw P il (.buildSlice t len parts)=some p)
  (N:p.exec T (Dq G fr) st=some (d,st')) (hn:∀ v w' g',Go1 base w g st w' g' st'→RepV w' g' st' d v→next (a.put dst v) w'):Oper.wp P {dst:=dst,op:=.buildSlice t len parts,type:=ty,pos:=pos,after:=after,guard:=guard} a w next Q:=by
 obtain⟨ps,he,v,w',g',r1,O,U,_⟩:=mC E I J M N;exact Oh (s:=Instr.buildSlice t len ps) (he ..) ⟨v,w',g',r1,O,U⟩ hn
theorem yPe{e:TypeId}{d1:Nat}{d2:Option Nat}{ty ty2:TypeId}{pos pos2:String}{after after2:Array Edge}{guard guard2:Option (Nat×Bool)}{next2:Act→World→Prop}(hS:SR base w g st)(hG:GlobOK G w g)(hF:FR w g st fr a)(ht:Dw P il (.buildSlice t len parts)=some p)
  (hu:P.underlying t=some (.slice e)) (I:P.underlying e=some (.int .u8)) (J:d1<a.tmps.size)
  (hx:p.exec T (Dq G fr) st=some (d,st')) (hn:∀ v w' g',Go1 base w g st w' g' st'→RepV w' g' st' d v→next2 ((a.put (some d1) v).put d2 v) w') :
  Oper.wp P {dst:=some d1,op:=.buildSlice t len parts,type:=ty,pos:=pos,after:=after,guard:=guard} a w (fun a' w'=>Oper.wp P {dst:=d2,op:=.convert t t (.tmp d1),type:=ty2,pos:=pos2,after:=after2,guard:=guard2} a' w' next2 Q) Q:=by
 obtain⟨ps,he,v,w',g',r1,M,r3,b,n,C,eC,rfl,hb,E,N⟩:=mC hS hG hF ht hx;unfold Oper.wp;rw[he];simp only[Sem.run_bind,r1,Result.andThen_ok,Sem.run_pure,Oper.upon_value]
 have O:(a.put (some d1) (.slice (some ⟨b,0,none⟩) n n)).eval (.tmp d1)=.slice (some ⟨b,0,none⟩) n n:=by
  simp[Act.eval,Act.put,J]
 have U:execOp (a.put (some d1) (.slice (some ⟨b,0,none⟩) n n)).eval {dst:=d2,op:=.convert t t (.tmp d1),type:=ty2,pos:=pos2,after:=after2,guard:=guard2}=(do pure (.value (← convert t t (.slice (some ⟨b,0,none⟩) n n)))):=by
  simp only[execOp,O]
 rw[U]
 have V:(convert t t (.slice (some ⟨b,0,none⟩) n n)).run P w'=.ok (.slice (some ⟨b,0,none⟩) n n) (w'.freeze ⟨b,C.size,none⟩ 1):=by
  have Y:w'.shape? b=some (eC,C.size):=by simp[World.shape?,hb]
  simp[convert,run_underlying hu,run_underlying I,markStringish,shape,freeze,Sem.run_bind,Sem.run,Y,Result.andThen]
 simp only[Sem.run_bind,V,Result.andThen_ok,Sem.run_pure,Oper.upon_value];have hf:=Yet (m:=C.size) M.sr hb E N;exact hn _ _ g' (M.trans hf) (hf.rep r3)
theorem Yjg(t:TypeId)(x:Operand){ty:TypeId}{pos:String}{after:Array Edge}{guard:Option (Nat×Bool)}(ae:TblOK P G T)(J:SR base w g st)(U:GlobOK G w g)(M:FR w g st fr a)(E:Dw P il (.load t x)=some p)
  (N:p.exec T (Dq G fr) st=some (d,st')) (hn:∀ v w' g',Go1 base w g st w' g' st'→RepV w' g' st' d v→next (a.put dst v) w'):Oper.wp P {dst:=dst,op:=.load t x,type:=ty,pos:=pos,after:=after,guard:=guard} a w next Q:=by
 have O:∀ x I,DR x=some I→RepV w g st (Dq G fr I) (a.eval x):=fun x I h=>Gy U M h;clear M;simp only[Dw]at E
 split at E
 case h_2=>cases E
 rename_i I n ag V Y h3;simp only[Db]at E; subst E;simp only[POp.exec,DG,Dv]at N;obtain⟨r,h4,rfl,rfl⟩:=N;obtain⟨v,h5,h6⟩:=rE (P:=P) J h3 Y h4 (O x I V);exact Gi (s:=Instr.loadAt t (a.eval x)) J rfl h5 h6 hn
theorem Yam(t:TypeId)(x y:Operand){ty:TypeId}{pos:String}{after:Array Edge}{guard:Option (Nat×Bool)}(af:TblOK P G T)(O:SR base w g st)(U:GlobOK G w g)(M:FR w g st fr a)(E:Dw P il (.store t x y)=some p)
  (N:p.exec T (Dq G fr) st=some (d,st')) (hn:∀ v w' g',Go1 base w g st w' g' st'→RepV w' g' st' d v→next (a.put dst v) w'):Oper.wp P {dst:=dst,op:=.store t x y,type:=ty,pos:=pos,after:=after,guard:=guard} a w next Q:=by
 have J:∀ x I,DR x=some I→RepV w g st (Dq G fr I) (a.eval x):=fun x I h=>Gy U M h;clear M;simp only[Dw]at E
 split at E
 case h_2=>cases E
 rename_i I V n Y h2 h3;simp only[Db]at E; subst E;simp only[POp.exec,DG,Dv]at N;obtain⟨r,h4,rfl,rfl⟩:=N;obtain⟨w',g',h5,h6⟩:=Ybu (P:=P) O h3 h4 (J x I Y) (J y V h2);unfold Oper.wp execOp;simp only[Sem.run_bind,h5,Result.andThen_ok,Sem.run_pure];exact hn undef w' g' h6 (.tup [] [] rfl (fun i d v h=>by simp at h))
theorem yLd(x:Operand){ty:TypeId}{pos:String}{after:Array Edge}{guard:Option (Nat×Bool)}(ae:TblOK P G T)(hS:SR base w g st)(hG:GlobOK G w g)(O:FR w g st fr a)(U:Dw P il (.nilCheck x)=some p)
  (E:p.exec T (Dq G fr) st=some (d,st')) (hn:∀ v w' g',Go1 base w g st w' g' st'→RepV w' g' st' d v→next (a.put dst v) w'):Oper.wp P {dst:=dst,op:=.nilCheck x,type:=ty,pos:=pos,after:=after,guard:=guard} a w next Q:=by
 have V:∀ x J,DR x=some J→RepV w g st (Dq G fr J) (a.eval x):=fun x J h=>Gy hG O h;clear O;simp only[Dw,DG]at U;obtain⟨J,Y,rfl⟩:=U;have I:=V x J Y;simp only[POp.exec]at E
 have key:∀ q,a.eval x=.pointer (some q)→RepV w g st d (a.eval x)→st'=st→Oper.wp P {dst:=dst,op:=.nilCheck x,type:=ty,pos:=pos,after:=after,guard:=guard} a w next Q:=by
  intro q N aa ab;subst ab;exact Gi (s:=pure (a.eval x)) hS (by simp[execOp,N]) rfl aa hn
 split at E
 ·rename_i key off M;simp only[Db,Dv]at E;obtain⟨rfl,rfl⟩:=E;rw[M]at I;obtain⟨q,N⟩:=Ysk I;grind
 ·rename_i el off M;simp only[Db,Dv]at E;obtain⟨rfl,rfl⟩:=E;rw[M]at I;obtain⟨q,N⟩:=Ym1 I;grind
 ·rename_i kk tot i off M
  split at E
  ·rename_i hl;simp only[Db,Dv]at E;obtain⟨rfl,rfl⟩:=E;rw[M]at I;obtain⟨ob,_,_,_,N⟩:=iE hl I;grind
  ·cases E
 ·cases E
theorem Yar(op:BinOp)(t:TypeId)(x y:Operand)(U:TypeId){ty:TypeId}{pos:String}{after:Array Edge}{guard:Option (Nat×Bool)}(a6:TblOK P G T)(hS:SR base w g st)(hG:GlobOK G w g)(hF:FR w g st fr a)(N:Dw P il (.binOp op t x y U)=some p)
  (O:p.exec T (Dq G fr) st=some (d,st')) (hn:∀ v w' g',Go1 base w g st w' g' st'→RepV w' g' st' d v→next (a.put dst v) w'):Oper.wp P {dst:=dst,op:=.binOp op t x y U,type:=ty,pos:=pos,after:=after,guard:=guard} a w next Q:=by
 have J:∀ x I,DR x=some I→RepV w g st (Dq G fr I) (a.eval x):=fun x I h=>Gy hG hF h;clear hF;simp only[Dw]at N
 split at N
 case h_2=>cases N
 rename_i I M h1 h2
 have a4:∀ op,p=.bin op I M→Oper.wp P {dst:=dst,op:=.binOp op t x y U,type:=ty,pos:=pos,after:=after,guard:=guard} a w next Q:=by
  rintro op rfl;simp only[POp.exec,DG,Dv]at O;obtain⟨r,V,rfl,rfl⟩:=O;obtain⟨⟨v,h5,Y⟩,h7,h8⟩:=Ykg (P:=P) op t _ _ r _ _ V (J x I h1) (J y M h2);refine Gi (s:=do eqGuard op t x y (a.eval x) (a.eval y); binOp op t (a.eval x) (a.eval y)) hS rfl ?_ Y hn;simp only[Sem.run_bind,fc op t x y _ _ h7 h8,Result.andThen_ok,h5]
 have heq:∀ neg:Bool,(match P.underlying t with
  |some (.int _) | some .string=>some (POp.bin (if neg then .neq else .eql) I M)
  |some .bool=>some (.beq neg I M)
  |some (.struct _) | some (.array _ _)=>match JE P 100 t with
   |some ks=>if P.eqGuardType P.depth t then none else some (.aeq ks neg I M)
   |none=>none
  |_=>none)=some p→Oper.wp P {dst:=dst,op:=.binOp (if neg then .neq else .eql) t x y U,type:=ty,pos:=pos,after:=after,guard:=guard} a w next Q:=by
  intro neg E
  have ac:EG P t=some true→(match JE P 100 t with
   |some ks=>if P.eqGuardType P.depth t then none else some (POp.aeq ks neg I M)
   |none=>none)=some p→Oper.wp P {dst:=dst,op:=.binOp (if neg then .neq else .eql) t x y U,type:=ty,pos:=pos,after:=after,guard:=guard} a w next Q:=by
   intro a1 E
   split at E
   case h_2=>cases E
   rename_i ks a2
   split at E
   case isTrue=>cases E
   rename_i hg;simp only[Db]at E; subst E;simp only[POp.exec,DG,Dv]at O;obtain⟨r,V,rfl,rfl⟩:=O;obtain⟨⟨v,h5,Y⟩,xs,ys,h7,h8⟩:=Ykl (P:=P) a2 (by decide) a1 V (J x I h1) (J y M h2);refine Gi (s:=do eqGuard (if neg then .neq else .eql) t x y (a.eval x) (a.eval y); binOp (if neg then .neq else .eql) t (a.eval x) (a.eval y)) hS rfl ?_ Y hn
   have a7:(eqGuard (if neg then .neq else .eql) t x y (a.eval x) (a.eval y)).run P w=.ok () w:=by
    rw[h7,h8];exact run_eqGuard_agg w _ t x y xs ys (by simpa using hg)
   simp_all
  split at E
  ·grind
  ·grind
  ·rename_i hu;simp only[Db]at E; subst E;simp only[POp.exec,DG,Dv]at O;obtain⟨r,V,rfl,rfl⟩:=O;obtain⟨⟨v,h5,Y⟩,h7,h8⟩:=Ykh (P:=P) neg t hu _ _ r _ _ V (J x I h1) (J y M h2);refine Gi (s:=do eqGuard (if neg then .neq else .eql) t x y (a.eval x) (a.eval y); binOp (if neg then .neq else .eql) t (a.eval x) (a.eval y)) hS rfl ?_ Y hn;simp only[Sem.run_bind,fc _ t x y _ _ h7 h8,Result.andThen_ok,h5]
  ·rename_i hu;exact ac (by simp[EG,hu]) E
  ·rename_i hu;exact ac (by simp[EG,hu]) E
  ·cases E
 unfold dH at N
 split at N
 ·exact heq false N
 ·exact heq true N
 ·grind
theorem Yjd(op:UnOp)(t:TypeId)(x:Operand){ty:TypeId}{pos:String}{after:Array Edge}{guard:Option (Nat×Bool)}(ac:TblOK P G T)(U:SR base w g st)(V:GlobOK G w g)(I:FR w g st fr a)(J:Dw P il (.unOp op t x)=some p)
  (M:p.exec T (Dq G fr) st=some (d,st')) (hn:∀ v w' g',Go1 base w g st w' g' st'→RepV w' g' st' d v→next (a.put dst v) w'):Oper.wp P {dst:=dst,op:=.unOp op t x,type:=ty,pos:=pos,after:=after,guard:=guard} a w next Q:=by
 have N:∀ x E,DR x=some E→RepV w g st (Dq G fr E) (a.eval x):=fun x E h=>Gy V I h;clear I;simp only[Dw,DG]at J;obtain⟨E,O,rfl⟩:=J;simp only[POp.exec,DG,Dv]at M;obtain⟨r,Y,rfl,rfl⟩:=M;obtain⟨v,h5,h6⟩:=Ysj (P:=P) (w:=w) op _ r _ Y (N x E O);exact Gi (s:=Op.unary op (a.eval x)) U rfl h5 h6 hn
theorem yPg(J dt:TypeId)(x:Operand){ty:TypeId}{pos:String}{after:Array Edge}{guard:Option (Nat×Bool)}(a4:TblOK P G T)(hS:SR base w g st)(hG:GlobOK G w g)(hF:FR w g st fr a)(I:Dw P il (.convert J dt x)=some p)
  (O:p.exec T (Dq G fr) st=some (d,st')) (hn:∀ v w' g',Go1 base w g st w' g' st'→RepV w' g' st' d v→next (a.put dst v) w'):Oper.wp P {dst:=dst,op:=.convert J dt x,type:=ty,pos:=pos,after:=after,guard:=guard} a w next Q:=by
 have a0:∀ x pa,DR x=some pa→RepV w g st (Dq G fr pa) (a.eval x):=fun x pa h=>Gy hG hF h;clear hF;simp only[Dw]at I
 split at I
 case h_2=>cases I
 rename_i pa a1;have N:=a0 x pa a1;unfold aX at I
 split at I
 ·rename_i u k U V;simp only[Db]at I; subst I;simp only[POp.exec,DG,Dv]at O;obtain⟨r,E,rfl,rfl⟩:=O;unfold FD at E
  split at E <;> rename_i M Y <;> (try cases M) <;> (try (simp only[reduceCtorEq]at E))
  simp only[Db]at E; subst E;rw[Y]at N;have he:=Jc N;refine Gi (s:=convert J dt (a.eval x)) hS rfl ?_ (.int _ _) hn;rw[he];simp[convert,run_underlying U,run_underlying V,Conv.intToInt]
 ·rename_i U V;simp only[Db]at I; subst I;simp only[POp.exec,DG,Dv]at O;obtain⟨r,E,rfl,rfl⟩:=O;unfold FD at E
  split at E <;> rename_i M Y <;> (try cases M) <;> (try (simp only[reduceCtorEq]at E))
  simp only[Db]at E; subst E;rw[Y]at N;have he:=MD N;refine Gi (s:=convert J dt (a.eval x)) hS rfl (v:=a.eval x) ?_ (by rw[he]; exact .str _) hn;rw[he];simp[convert,run_underlying U,run_underlying V]
 ·rename_i e U V
  split at I
  case h_2=>cases I
  rename_i ac;simp only[Db]at I; subst I;simp only[POp.exec,DG,Dv]at O;obtain⟨r,E,rfl,rfl⟩:=O;unfold FD at E
  split at E <;> rename_i M Y <;> (try cases M) <;> (try (simp only[reduceCtorEq]at E))
  simp only[Db]at E; subst E;rw[Y]at N;have he:=MD N;refine Oh (s:=convert J dt (a.eval x)) rfl ?_ hn;rw[he];exact Yg7 hS U V ac
 ·rename_i e U V
  split at I
  case h_2=>cases I
  rename_i ac;simp only[Db]at I; subst I;simp only[POp.exec,DG,Dv]at O;obtain⟨r,E,rfl,rfl⟩:=O;unfold FD at E
  split at E <;> rename_i M Y <;> (try cases M) <;> (try (simp only[reduceCtorEq]at E))
  ·split at E
   case isFalse=>cases E
   rename_i aa;simp only[DG]at E;obtain⟨bs,af,rfl⟩:=E;rw[Y]at N;simp only[A6,beq_iff_eq,BK]at aa;exact Gi (s:=convert J dt (a.eval x)) hS rfl (tL U ac V (Vk N) aa af) (.str _) hn
  ·split at E
   case h_2=>cases E
   rename_i sz els a2
   split at E
   case isFalse=>cases E
   rename_i aa;simp only[DG]at E;obtain⟨bs,af,rfl⟩:=E;rw[Y]at N;simp only[beq_iff_eq]at aa;exact Gi (s:=convert J dt (a.eval x)) hS rfl (tL U ac V (fX hS a2 N).1 (.inl aa) af) (.str _) hn
 ·cases I
theorem yIf(t:TypeId)(l c:Operand){ty:TypeId}{pos:String}{after:Array Edge}{guard:Option (Nat×Bool)}(a2:TblOK P G T)(U:SR base w g st)(V:GlobOK G w g)(N:FR w g st fr a)(E:Dw P il (.makeSlice t l c)=some p)
  (I:p.exec T (Dq G fr) st=some (d,st')) (hn:∀ v w' g',Go1 base w g st w' g' st'→RepV w' g' st' d v→next (a.put dst v) w'):Oper.wp P {dst:=dst,op:=.makeSlice t l c,type:=ty,pos:=pos,after:=after,guard:=guard} a w next Q:=by
 have J:∀ x M,DR x=some M→RepV w g st (Dq G fr M) (a.eval x):=fun x M h=>Gy V N h;clear N;simp only[Dw]at E
 split at E
 case h_2=>cases E
 rename_i pl pc e Y h2 hu
 split at E
 case h_2=>cases E
 rename_i i hi
 split at E
 case h_2=>cases E
 rename_i z hz;simp only[DG]at E;obtain⟨zd,O,rfl⟩:=E;simp only[POp.exec]at I
 split at I
 case h_2=>cases I
 rename_i nl nc h3 h4
 split at I
 case isFalse=>cases I
 rename_i hc;simp only[Db,Dv]at I;obtain⟨rfl,rfl⟩:=I;obtain⟨c1,c2,c3,c4,c5,c6⟩:=hc;exact Oh (s:=Instr.makeSlice t (a.eval l) (a.eval c)) rfl (Yc2 U hu hi hz O rfl rfl c4 c5 c6 h3 h4 (J l pl Y) (J c pc h2) c1 c2 c3) hn
theorem Yan(t:TypeId)(x:Operand)(lo hi N:Option Operand){ty:TypeId}{pos:String}{after:Array Edge}{guard:Option (Nat×Bool)}(a4:TblOK P G T)(O:SR base w g st)(hG:GlobOK G w g)(hF:FR w g st fr a)(E:Dw P il (.slice t x lo hi N)=some p)
  (M:p.exec T (Dq G fr) st=some (d,st')) (hn:∀ v w' g',Go1 base w g st w' g' st'→RepV w' g' st' d v→next (a.put dst v) w'):Oper.wp P {dst:=dst,op:=.slice t x lo hi N,type:=ty,pos:=pos,after:=after,guard:=guard} a w next Q:=by
 have I:∀ x J,DR x=some J→RepV w g st (Dq G fr J) (a.eval x):=fun x J h=>Gy hG hF h;clear hF;simp only[Dw]at E
 split at E
 case h_2=>cases E
 rename_i J a5 a6 a7 h1 h2 h3 h4;have r2:=gh h2 rfl I;have r3:=gh h3 rfl I;have r4:=gh h4 rfl I;unfold bI at E
 split at E
 ·rename_i hu;simp only[Db]at E; subst E;simp only[POp.exec,DG,Dv]at M;obtain⟨r,U,rfl,rfl⟩:=M;obtain⟨v,V,Y⟩:=te (P:=P) O (.inl ⟨rfl,hu⟩) U (I x J h1) r2 r3 r4;exact Gi (s:=Instr.sliceAt t (a.eval x) (lo.map a.eval) (hi.map a.eval) (N.map a.eval)) O rfl V Y hn
 ·rename_i e hu
  split at E
  case h_2=>cases E
  rename_i sz aa
  split at E
  case isTrue=>cases E
  rename_i h0;simp only[Db]at E; subst E;simp only[POp.exec,DG,Dv]at M;obtain⟨r,U,rfl,rfl⟩:=M;obtain⟨v,V,Y⟩:=te (P:=P) O (.inr ⟨h0,e,hu,aa⟩) U (I x J h1) r2 r3 r4;exact Gi (s:=Instr.sliceAt t (a.eval x) (lo.map a.eval) (hi.map a.eval) (N.map a.eval)) O rfl V Y hn
 ·rename_i n e hu
  split at E
  case h_2=>cases E
  rename_i sz ag aa a8;simp only[Db]at E; subst E
  have hm:N=none:=by
   simp_all
  subst hm;simp only[POp.exec,DG,Dv]at M;obtain⟨r,U,rfl,rfl⟩:=M;obtain⟨v,V,Y⟩:=yPw (P:=P) hu aa U (I x J h1) r2 r3;exact Gi (s:=Instr.sliceAt t (a.eval x) (lo.map a.eval) (hi.map a.eval) none) O rfl V Y hn
 ·cases E
theorem yIh(s:TypeId)(x:Operand)(f:Nat){ty:TypeId}{pos:String}{after:Array Edge}{guard:Option (Nat×Bool)}(af:TblOK P G T)(V:SR base w g st)(Y:GlobOK G w g)(J:FR w g st fr a)(E:Dw P il (.fieldAddr s x f)=some p)
  (M:p.exec T (Dq G fr) st=some (d,st')) (hn:∀ v w' g',Go1 base w g st w' g' st'→RepV w' g' st' d v→next (a.put dst v) w'):Oper.wp P {dst:=dst,op:=.fieldAddr s x f,type:=ty,pos:=pos,after:=after,guard:=guard} a w next Q:=by
 have N:∀ x I,DR x=some I→RepV w g st (Dq G fr I) (a.eval x):=fun x I h=>Gy Y J h;clear J;simp only[Dw]at E
 split at E
 case h_2=>cases E
 rename_i I fields h1 hu
 split at E
 case h_2=>cases E
 rename_i fd O
 split at E
 case h_2=>cases E
 rename_i n U
 split at E
 case isTrue=>cases E
 rename_i h0;simp only[Db]at E; subst E;simp only[POp.exec,DG,Dv]at M;obtain⟨r,h5,rfl,rfl⟩:=M;obtain⟨v,h6,h7⟩:=yQz (P:=P) hu O U h0 h5 (N x I h1);exact Gi (s:=Instr.fieldAt s (a.eval x) f) V rfl h6 h7 hn
theorem Yap(s:TypeId)(x:Operand)(f:Nat){ty:TypeId}{pos:String}{after:Array Edge}{guard:Option (Nat×Bool)}(af:TblOK P G T)(Y:SR base w g st)(hG:GlobOK G w g)(J:FR w g st fr a)(E:Dw P il (.field s x f)=some p)
  (M:p.exec T (Dq G fr) st=some (d,st')) (hn:∀ v w' g',Go1 base w g st w' g' st'→RepV w' g' st' d v→next (a.put dst v) w'):Oper.wp P {dst:=dst,op:=.field s x f,type:=ty,pos:=pos,after:=after,guard:=guard} a w next Q:=by
 have N:∀ x I,DR x=some I→RepV w g st (Dq G fr I) (a.eval x):=fun x I h=>Gy hG J h;clear J;simp only[Dw]at E
 split at E
 case h_2=>cases E
 rename_i I fields h1 hu
 split at E
 case h_2=>cases E
 rename_i fd O
 split at E
 case h_2=>cases E
 rename_i n ag U V;simp only[Db]at E; subst E;simp only[POp.exec,DG,Dv]at M;obtain⟨r,h5,rfl,rfl⟩:=M;obtain⟨v,h6,h7⟩:=Yb8 (P:=P) hu O V U h5 (N x I h1);exact Gi (s:=Instr.field s (a.eval x) f) Y rfl h6 h7 hn
theorem yIg(t:TypeId)(x i:Operand){ty:TypeId}{pos:String}{after:Array Edge}{guard:Option (Nat×Bool)}(ae:TblOK P G T)(hS:SR base w g st)(hG:GlobOK G w g)(hF:FR w g st fr a)(E:Dw P il (.indexAddr t x i)=some p)
  (N:p.exec T (Dq G fr) st=some (d,st')) (hn:∀ v w' g',Go1 base w g st w' g' st'→RepV w' g' st' d v→next (a.put dst v) w'):Oper.wp P {dst:=dst,op:=.indexAddr t x i,type:=ty,pos:=pos,after:=after,guard:=guard} a w next Q:=by
 have J:∀ x I,DR x=some I→RepV w g st (Dq G fr I) (a.eval x):=fun x I h=>Gy hG hF h;clear hF;simp only[Dw]at E
 split at E
 ·rename_i I pi len e O U hu;simp only[DG]at E;obtain⟨n,M,rfl⟩:=E;simp only[POp.exec,DG,Dv]at N;obtain⟨r,V,rfl,rfl⟩:=N;obtain⟨v,Y,h7⟩:=yDa (P:=P) hu M V (J x I O) (J i pi U);exact Gi (s:=Instr.indexAt t (a.eval x) (a.eval i)) hS rfl Y h7 hn
 ·rename_i I pi e O U hu;simp only[DG]at E;obtain⟨n,M,rfl⟩:=E;simp only[POp.exec,DG,Dv]at N;obtain⟨r,V,rfl,rfl⟩:=N;obtain⟨v,Y,h7⟩:=yE7 (P:=P) hu M V (J x I O) (J i pi U);exact Gi (s:=Instr.indexAt t (a.eval x) (a.eval i)) hS rfl Y h7 hn
 ·cases E
theorem Yao(t:TypeId)(x i:Operand){ty:TypeId}{pos:String}{after:Array Edge}{guard:Option (Nat×Bool)}(af:TblOK P G T)(hS:SR base w g st)(hG:GlobOK G w g)(hF:FR w g st fr a)(E:Dw P il (.index t x i)=some p)
  (M:p.exec T (Dq G fr) st=some (d,st')) (hn:∀ v w' g',Go1 base w g st w' g' st'→RepV w' g' st' d v→next (a.put dst v) w'):Oper.wp P {dst:=dst,op:=.index t x i,type:=ty,pos:=pos,after:=after,guard:=guard} a w next Q:=by
 have J:∀ x I,DR x=some I→RepV w g st (Dq G fr I) (a.eval x):=fun x I h=>Gy hG hF h;clear hF;simp only[Dw]at E
 split at E
 ·rename_i I pi len e N O hu
  split at E
  case h_2=>cases E
  rename_i n ag ac ad;simp only[Db]at E; subst E;simp only[POp.exec,DG,Dv]at M;obtain⟨r,U,rfl,rfl⟩:=M;obtain⟨v,V,Y⟩:=Yb2 (P:=P) hu ad ac U (J x I N) (J i pi O);exact Gi (s:=Instr.index t (a.eval x) (a.eval i)) hS rfl V Y hn
 ·rename_i I pi N O hu;simp only[Db]at E; subst E;simp only[POp.exec,DG,Dv]at M;obtain⟨r,U,rfl,rfl⟩:=M;obtain⟨v,V,Y⟩:=Yke (P:=P) hu U (J x I N) (J i pi O);exact Gi (s:=Instr.index t (a.eval x) (a.eval i)) hS rfl V Y hn
 ·cases E
theorem yPf(x:Operand)(i:Nat){ty:TypeId}{pos:String}{after:Array Edge}{guard:Option (Nat×Bool)}(ae:TblOK P G T)(V:SR base w g st)(Y:GlobOK G w g)(M:FR w g st fr a)(N:Dw P il (.extract x i)=some p)
  (E:p.exec T (Dq G fr) st=some (d,st')) (hn:∀ v w' g',Go1 base w g st w' g' st'→RepV w' g' st' d v→next (a.put dst v) w'):Oper.wp P {dst:=dst,op:=.extract x i,type:=ty,pos:=pos,after:=after,guard:=guard} a w next Q:=by
 have O:∀ x I,DR x=some I→RepV w g st (Dq G fr I) (a.eval x):=fun x I h=>Gy Y M h;clear M;simp only[Dw,DG]at N;obtain⟨I,h1,rfl⟩:=N;simp only[POp.exec]at E;have J:=O x I h1
 split at E
 ·rename_i vs hp;simp only[DG,Dv]at E;obtain⟨r,U,rfl,rfl⟩:=E;rw[hp]at J;generalize hv:a.eval x=v at J
  cases J with
  |tup _ us h2 h3=>
   have hl:i<us.length:=by rw[← h2]; exact(Ac.1 U).1
   refine Gi (s:=Instr.extract (a.eval x) i) V rfl (v:=us[i]) ?_ (h3 i r _ U (Am hl)) hn;simp[hv,Instr.extract,hl]
 ·cases E
theorem yIe(t:TypeId)(m k v:Operand){ty:TypeId}{pos:String}{after:Array Edge}{guard:Option (Nat×Bool)}(a0:TblOK P G T)(O:SR base w g st)(U:GlobOK G w g)(M:FR w g st fr a)(E:Dw P il (.mapUpdate t m k v)=some p)
  (N:p.exec T (Dq G fr) st=some (d,st')) (hn:∀ v w' g',Go1 base w g st w' g' st'→RepV w' g' st' d v→next (a.put dst v) w'):Oper.wp P {dst:=dst,op:=.mapUpdate t m k v,type:=ty,pos:=pos,after:=after,guard:=guard} a w next Q:=by
 have I:∀ x J,DR x=some J→RepV w g st (Dq G fr J) (a.eval x):=fun x J h=>Gy U M h;clear M;simp only[Dw]at E
 split at E
 case h_2=>cases E
 rename_i kt et sz ks pm V Y h1 h2 h3 h4;simp only[Db]at E; subst E;simp only[POp.exec,DG,Dv]at N;obtain⟨r,h5,rfl,rfl⟩:=N;obtain⟨w',g',h6,h7⟩:=rN (P:=P) O h1 (I m pm h2) (I k V h3) (I v Y h4) h5;unfold Oper.wp execOp;simp only[Sem.run_bind,h6,Result.andThen_ok,Sem.run_pure];exact hn undef w' g' h7 (.tup [] [] rfl (fun i d v h=>by simp at h))
theorem yVu(t:TypeId)(m k v:Operand){ty:TypeId}{pos:String}{after:Array Edge}{guard:Option (Nat×Bool)}(a0:TblOK P G T)(O:SR base w g st)(U:GlobOK G w g)(M:FR w g st fr a)(E:Dw P il (.insert t m k v)=some p)
  (N:p.exec T (Dq G fr) st=some (d,st')) (hn:∀ v w' g',Go1 base w g st w' g' st'→RepV w' g' st' d v→next (a.put dst v) w'):Oper.wp P {dst:=dst,op:=.insert t m k v,type:=ty,pos:=pos,after:=after,guard:=guard} a w next Q:=by
 have I:∀ x J,DR x=some J→RepV w g st (Dq G fr J) (a.eval x):=fun x J h=>Gy U M h;clear M;simp only[Dw]at E
 split at E
 case h_2=>cases E
 rename_i kt et sz ks pm V Y h1 h2 h3 h4;simp only[Db]at E; subst E;simp only[POp.exec,DG,Dv]at N;obtain⟨r,h5,rfl,rfl⟩:=N;obtain⟨w',g',h6,h7⟩:=rN (P:=P) O h1 (I m pm h2) (I k V h3) (I v Y h4) h5;unfold Oper.wp execOp;simp only[Sem.run_bind,h6,Result.andThen_ok,Sem.run_pure];exact hn undef w' g' h7 (.tup [] [] rfl (fun i d v h=>by simp at h))
theorem yVt(t:TypeId)(m k:Operand)(ok:Bool){ty:TypeId}{pos:String}{after:Array Edge}{guard:Option (Nat×Bool)}(ah:TblOK P G T)(M:SR base w g st)(hG:GlobOK G w g)(hF:FR w g st fr a)(E:Dw P il (.lookup t m k ok)=some p)
  (J:p.exec T (Dq G fr) st=some (d,st')) (hn:∀ v w' g',Go1 base w g st w' g' st'→RepV w' g' st' d v→next (a.put dst v) w'):Oper.wp P {dst:=dst,op:=.lookup t m k ok,type:=ty,pos:=pos,after:=after,guard:=guard} a w next Q:=by
 have I:∀ x N,DR x=some N→RepV w g st (Dq G fr N) (a.eval x):=fun x N h=>Gy hG hF h;clear hF;simp only[Dw]at E
 split at E
 case h_2=>
  split at E
  case h_2=>cases E
  rename_i zd pm O U V Y;simp only[Db]at E; subst E;simp only[POp.exec,DG,Dv]at J;obtain⟨r,h5,rfl,rfl⟩:=J;obtain⟨v,h6,h7⟩:=Ymm (P:=P) U (I m pm V) (I k O Y) h5;exact Gi (s:=Instr.lookup t (a.eval m) (a.eval k) ok) M rfl h6 h7 hn
 rename_i kt et sz ks pm O U V Y;simp only[DG]at E;obtain⟨zd,h4,rfl⟩:=E;simp only[POp.exec,DG,Dv]at J;obtain⟨r,h5,rfl,rfl⟩:=J;obtain⟨v,h6,h7⟩:=yW4 (P:=P) M U h4 (I m pm V) (I k O Y) h5;exact Gi (s:=Instr.lookup t (a.eval m) (a.eval k) ok) M rfl h6 h7 hn
theorem yPd(t:TypeId)(J:Option Operand){ty:TypeId}{pos:String}{after:Array Edge}{guard:Option (Nat×Bool)}(V:TblOK P G T)(O:SR base w g st)(U:GlobOK G w g)(N:FR w g st fr a)(E:Dw P il (.makeMap t J)=some p)
  (I:p.exec T (Dq G fr) st=some (d,st')) (hn:∀ v w' g',Go1 base w g st w' g' st'→RepV w' g' st' d v→next (a.put dst v) w'):Oper.wp P {dst:=dst,op:=.makeMap t J,type:=ty,pos:=pos,after:=after,guard:=guard} a w next Q:=by
 have Y:∀ x M,DR x=some M→RepV w g st (Dq G fr M) (a.eval x):=fun x M h=>Gy U N h;clear N
 cases J with
 |some x=>simp[Dw]at E
 |none=>
  simp only[Dw]at E
  split at E
  case h_2=>cases E
  rename_i kt et sz ks h1;simp only[Db]at E; subst E;simp only[POp.exec]at I
  split at I
  case isFalse=>cases I
  rename_i hc;simp only[Db,Dv]at I;obtain⟨rfl,rfl⟩:=I;exact Oh (s:=Instr.makeMap t none) rfl (Yc3 (P:=P) (t:=t) O hc.1 hc.2) hn
theorem dY{es:List D}{E:List Value}(I:ds.length=vs.length)(J:∀ (i:Nat) d v,ds[i]?=some d→vs[i]?=some v→RepV w g st d v)(M:∀ (i:Nat) d v,es[i]?=some d→E[i]?=some v→RepV w g st d v) :
  ∀ (i:Nat) d v,(ds++es)[i]?=some d→(vs++E)[i]?=some v→RepV w g st d v:=by
 grind
theorem dO{ty:TypeId}{pos:String}{after:Array Edge}{guard:Option (Nat×Bool)}{J:PA}{l:List PA}(N:∀ x J,DR x=some J→RepV w g st (Dq G fr J) (a.eval x))(M:c.callee=.value x)
  (Y:DR x=some J) (hl:Iy c.args.toList=some l) (hc:(POp.callv J l).callee (Dq G fr)=some (f,ds)) :
  ∃ vs:List Value,ds.length=vs.length∧(∀ (i:Nat) d v,ds[i]?=some d→vs[i]?=some v→RepV w g st d v)∧execOp a.eval {dst:=dst,op:=.call c,type:=ty,pos:=pos,after:=after,guard:=guard}=callFunc f vs.toArray:=by
 obtain⟨g1,g2⟩:=PR N hl;have g1:(l.map (Dq G fr)).length=(c.args.toList.map a.eval).length:=by simpa using g1
 have U:=N x J Y;simp only[POp.callee]at hc
 split at hc
 case h_2=>cases hc
 rename_i f' aa V;rw[V]at U;generalize I:a.eval x=xv at U
 cases U with
 |clo _ _ us hlen O=>
  by_cases E:f'<5000000
  ·rw[if_pos E]at hc;simp only[Db,Dv]at hc;obtain⟨rfl,rfl⟩:=hc;rw[RP E,Yz E,Ya E]at I;refine⟨c.args.toList.map a.eval++us,by rw[Ab,Ab,g1,hlen],dY g1 g2 O,?_⟩;simp only[execOp,resolve,M,I,Deferred.ofValue]
   have:(c.args.toList.map a.eval++us).toArray=c.args.map a.eval++us.toArray:=by
    grind
   rw[this];simp only[BP];rfl
  ·rw[if_neg E]at hc
   split at hc
   case isFalse=>cases hc
   rename_i ab;simp only[Db,Dv]at hc;obtain⟨rfl,rfl⟩:=hc;obtain⟨f,rfl⟩:∃ f,f'=f+5000000:=⟨f' - 5000000,by omega⟩;have hf:f<5000000:=by omega
   rw[oM hf,tQ hf,sy hf]at I;rw[Cp];refine⟨us++c.args.toList.map a.eval,by rw[Ab,Ab,g1,hlen],dY hlen O g2,?_⟩;simp only[execOp,resolve,M,I,Deferred.ofValue]
   have:(us++c.args.toList.map a.eval).toArray=us.toArray++c.args.map a.eval:=by
    grind
   rw[this];rfl
theorem Yjh(c:Call){ty:TypeId}{pos:String}{after:Array Edge}{guard:Option (Nat×Bool)}(hT:TblOK P G T)(U:SR base w g st)(hG:GlobOK G w g)(hF:FR w g st fr a)(I:Dw P il (.call c)=some p)(b7:∀ x args f a1,p=.callv x args→Dq G fr x=.clo f a1→f<10000000)
  (E:p.exec T (Dq G fr) st=some (d,st')) (hn:∀ v w' g',Go1 base w g st w' g' st'→RepV w' g' st' d v→next (a.put dst v) w'):Oper.wp P {dst:=dst,op:=.call c,type:=ty,pos:=pos,after:=after,guard:=guard} a w next Q:=by
 have M:∀ x pa,DR x=some pa→RepV w g st (Dq G fr pa) (a.eval x):=fun x pa h=>Gy hG hF h;clear hF;simp only[Dw]at I
 split at I
 ·rename_i b hb
  -- a builtin
  have O:∀ l,c.args.toList=l→c.args=l.toArray:=fun l h=>by rw[← h,BG]
  have a9:∀ l,c.argTypes.toList=l→c.argTypes=l.toArray:=fun l h=>by rw[← h,BG]
  unfold Ym at I
  split at I
  ·rename_i x t J Y;have J:=O _ J;have Y:=a9 _ Y
   have aa:execOp a.eval {dst:=dst,op:=.call c,type:=ty,pos:=pos,after:=after,guard:=guard}=(do pure (.value (← Builtin.len_ #[t] ty #[a.eval x]))):=by
    simp[execOp,resolve,hb,J,Y,invoke,builtin]
   split at I
   ·rename_i pa V hu;simp only[Db]at I; subst I;simp only[POp.exec]at E
    split at E
    case isFalse=>cases E
    rename_i ba;simp only[DG,Dv]at E;obtain⟨n,h5,rfl,rfl⟩:=E;refine Gi U aa (pw (.inl hu) ⟨fun _=>?_,fun _=>hu⟩ h5 (M x pa V) ty) (.int _ _) hn;cases hp:Dq G fr pa <;> simp[hp,Jq]at ba;grind
   ·rename_i pa e V hu;simp only[Db]at I; subst I;simp only[POp.exec]at E
    split at E
    case isFalse=>cases E
    rename_i ba;simp only[DG,Dv]at E;obtain⟨n,h5,rfl,rfl⟩:=E;refine Gi U aa (pw (.inr ⟨e,hu⟩) ⟨(by intro h; rw[hu]at h; cases h),fun⟨s,hs⟩=>?_⟩ h5 (M x pa V) ty) (.int _ _) hn;simp[hs,Jq]at ba
   ·rename_i pa n e V hu;simp only[Db]at I; subst I;simp only[POp.exec,Db,Dv]at E;obtain⟨rfl,rfl⟩:=E;refine Gi U aa ?_ (.int _ _) hn;simp[Builtin.len_,run_underlying hu,goInt]
   ·cases I
  ·rename_i s x t tx J Y;have J:=O _ J;have Y:=a9 _ Y
   have aa:execOp a.eval {dst:=dst,op:=.call c,type:=ty,pos:=pos,after:=after,guard:=guard}=(do pure (.value (← Builtin.append_ #[t,tx] ty #[a.eval s,a.eval x]))):=by
    simp[execOp,resolve,hb,J,Y,invoke,builtin]
   have fin:∀ ps px e,DR s=some ps→DR x=some px→P.underlying t=some (.slice e)→((∃ e',P.underlying tx=some (.slice e'))∨P.underlying tx=some .string)→(match P.info? e with
    |some i=>match i.zero with
     |some z=>if z.cells.size=i.size then some (POp.app i.size i.bytes ps px)else none
     |none=>none
    |none=>none)=some p→Oper.wp P {dst:=dst,op:=.call c,type:=ty,pos:=pos,after:=after,guard:=guard} a w next Q:=by
    intro ps px e V h2 hu b8 hp
    split at hp
    case h_2=>cases hp
    rename_i i hi
    split at hp
    case h_2=>cases hp
    rename_i z hz
    split at hp
    case isFalse=>cases hp
    rename_i b9;simp only[Db]at hp; subst hp;simp only[POp.exec]at E;exact Oh aa (Yki U hu b8 hi hz rfl rfl b9 E (M s ps V) (M x px h2)) hn
   split at I
   ·grind
   ·grind
   ·cases I
  ·rename_i x y t t2 J Y;have J:=O _ J;have Y:=a9 _ Y
   split at I
   case h_2=>cases I
   rename_i px py e V h2 hu
   split at I
   case h_2=>cases I
   rename_i ca;simp only[Db]at I; subst I;simp only[POp.exec]at E;exact Oh (s:=Builtin.copy_ #[t,t2] ty #[a.eval x,a.eval y]) (by simp[execOp,resolve,hb,J,Y,invoke,builtin]) (Yvp U hu ca (M x px V) (M y py h2) E) hn
  ·rename_i x y J;have J:=O _ J
   split at I
   case h_2=>cases I
   rename_i px py V h2;simp only[Db]at I; subst I;simp only[POp.exec]at E
   split at E
   case h_2=>cases E
   rename_i k n k' m ae af;simp only[Db,Dv]at E;obtain⟨rfl,rfl⟩:=E;have r1:=M x px V;have r2:=M y py h2;rw[ae]at r1;rw[af]at r2;have q1:=Jc r1;have q2:=Jc r2;refine Gi (s:=Builtin.min_ c.argTypes ty #[a.eval x,a.eval y]) U ?_ ?_ (.int k (if m<n then m else n)) hn
   ·simp[execOp,resolve,hb,J,invoke,builtin]
   ·simp[Builtin.min_,q1,q2,Builtin.min2]
  ·rename_i x y J;have J:=O _ J
   split at I
   case h_2=>cases I
   rename_i px py V h2;simp only[Db]at I; subst I;simp only[POp.exec]at E
   split at E
   case h_2=>cases E
   rename_i k n k' m ae af;simp only[Db,Dv]at E;obtain⟨rfl,rfl⟩:=E;have r1:=M x px V;have r2:=M y py h2;rw[ae]at r1;rw[af]at r2;have q1:=Jc r1;have q2:=Jc r2;refine Gi (s:=Builtin.max_ c.argTypes ty #[a.eval x,a.eval y]) U ?_ ?_ (.int k (if m > n then m else n)) hn
   ·simp[execOp,resolve,hb,J,invoke,builtin]
   ·simp[Builtin.max_,q1,q2,Builtin.max2]
  ·rename_i x y z J;have J:=O _ J
   split at I
   case h_2=>cases I
   rename_i px py pz V h2 h3;simp only[Db]at I; subst I;simp only[POp.exec]at E
   split at E
   case h_2=>cases E
   rename_i k n k' m k2 l ae af bb;simp only[Db,Dv]at E;obtain⟨rfl,rfl⟩:=E;have r1:=M x px V;have r2:=M y py h2;have r3:=M z pz h3;rw[ae]at r1;rw[af]at r2;rw[bb]at r3;have q1:=Jc r1;have q2:=Jc r2;have q3:=Jc r3;refine Gi (s:=Builtin.min_ c.argTypes ty #[a.eval x,a.eval y,a.eval z]) U ?_ ?_ (.int k (Nx false (Nx false n m) l)) hn
   ·simp[execOp,resolve,hb,J,invoke,builtin]
   ·simp[Builtin.min_,q1,q2,q3,Builtin.min2,Nx]
  ·rename_i x y z J;have J:=O _ J
   split at I
   case h_2=>cases I
   rename_i px py pz V h2 h3;simp only[Db]at I; subst I;simp only[POp.exec]at E
   split at E
   case h_2=>cases E
   rename_i k n k' m k2 l ae af bb;simp only[Db,Dv]at E;obtain⟨rfl,rfl⟩:=E;have r1:=M x px V;have r2:=M y py h2;have r3:=M z pz h3;rw[ae]at r1;rw[af]at r2;rw[bb]at r3;have q1:=Jc r1;have q2:=Jc r2;have q3:=Jc r3;refine Gi (s:=Builtin.max_ c.argTypes ty #[a.eval x,a.eval y,a.eval z]) U ?_ ?_ (.int k (Nx true (Nx true n m) l)) hn
   ·simp[execOp,resolve,hb,J,invoke,builtin]
   ·simp[Builtin.max_,q1,q2,q3,Builtin.max2,Nx]
  ·cases I
 ·rename_i f hf
  split at I
  case h_2=>cases I
  rename_i fn l cb hl
  have hex:execOp a.eval {dst:=dst,op:=.call c,type:=ty,pos:=pos,after:=after,guard:=guard}=callFunc f (c.args.toList.map a.eval).toArray:=by
   simp only[execOp,resolve,hf,Act.eval,Deferred.ofValue]
   have:(c.args.toList.map a.eval).toArray=c.args.map a.eval:=by
    grind
   rw[this];simp only[BP];rfl
  obtain⟨g1,g2⟩:=PR M hl
  split at I
  case isFalse=>
   split at I
   case isTrue=>cases I
   simp only[Db]at I;subst I;simp only[POp.exec]at E
   split at E
   case h_2=>cases E
   rename_i sp ys N bd
   split at E
   case h_2=>cases E
   rename_i r hr;simp only[Db,Dv]at E;obtain⟨rfl,rfl⟩:=E;rcases hT.p _ _ N with⟨hC,_⟩ | ⟨f',e,hE⟩
   ·omega
   ·obtain rfl:f=f':=Nat.add_right_cancel e;exact Yvj U hE bd hr (by simpa using g1) g2 hex hn
  rename_i hc;simp only[Af,AU,decide_eq_true_eq]at hc;simp only[Db]at I
  split at I
  ·subst I;simp only[POp.exec]at E
   split at E
   case h_2=>cases E
   rename_i sp N
   split at E
   case h_2=>cases E
   rename_i r hr;refine dR (hT.m f sp N) U hG (ds:=l.map (Dq G fr)) (vs:=c.args.toList.map a.eval) (r:=d) (st':=st') ?_ (by simpa using g1) g2 hex hn;grind
  split at I
  ·subst I;simp only[POp.exec]at E
   split at E
   case h_2=>cases E
   rename_i sp N;exact dR (hT.q f sp N) U hG (ds:=l.map (Dq G fr)) (vs:=c.args.toList.map a.eval) (r:=d) (st':=st') E (by simpa using g1) g2 hex hn
  split at I
  ·subst I;simp only[POp.exec]at E
   split at E
   case h_2=>cases E
   rename_i sp N;exact jb hT U hG (ds:=l.map (Dq G fr)) (vs:=c.args.toList.map a.eval) N E (by simpa using g1) g2 hex hn
  ·subst I;simp only[POp.exec]at E
   split at E
   case h_2=>cases E
   rename_i sp ys N bd
   split at E
   case h_2=>cases E
   rename_i r hr;simp only[Db,Dv]at E;obtain⟨rfl,rfl⟩:=E;exact Ynm hT U hG (ds:=l.map (Dq G fr)) (vs:=c.args.toList.map a.eval) cb hc.1.1 hc.1.2 hc.2 N bd hr (by simpa using g1) g2 hex hn
 ·rename_i x ch be
  split at I
  case h_2=>cases I
  rename_i pa l bh hl;simp only[Db]at I; subst I;simp only[POp.exec]at E
  split at E
  case h_2=>cases E
  rename_i f a1 a7;have bf:=b7 _ _ _ _ rfl a7
  by_cases a8:f<5000000
  ·rw[if_pos a8]at E
   split at E
   case h_2=>cases E
   rename_i sp N;obtain⟨vs,J,Y,e3⟩:=dO (dst:=dst) (ty:=ty) (pos:=pos) (after:=after) (guard:=guard) M be bh hl (show(POp.callv pa l).callee (Dq G fr)=some (f,l.map (Dq G fr)++a1) by simp[POp.callee,a7,a8]);exact jb hT U hG N E J Y e3 hn
  ·rw[if_neg a8,if_pos bf]at E
   split at E
   case h_2=>cases E
   rename_i sp N;obtain⟨vs,J,Y,e3⟩:=dO (dst:=dst) (ty:=ty) (pos:=pos) (after:=after) (guard:=guard) M be bh hl (show(POp.callv pa l).callee (Dq G fr)=some (f - 5000000,a1++l.map (Dq G fr)) by simp[POp.callee,a7,a8,bf]);exact jb hT U hG N E J Y e3 hn
 ·cases I
theorem yLe(fn:Fn)(first E:Array Operand){ty:TypeId}{pos:String}{after:Array Edge}{guard:Option (Nat×Bool)}(ac:TblOK P G T)(Y:SR base w g st)(hG:GlobOK G w g)(hF:FR w g st fr a)(I:Dw P il (.makeFunc fn first E)=some p)
  (M:p.exec T (Dq G fr) st=some (d,st')) (hn:∀ v w' g',Go1 base w g st w' g' st'→RepV w' g' st' d v→next (a.put dst v) w'):Oper.wp P {dst:=dst,op:=.makeFunc fn first E,type:=ty,pos:=pos,after:=after,guard:=guard} a w next Q:=by
 have N:∀ x O,DR x=some O→RepV w g st (Dq G fr O) (a.eval x):=fun x O h=>Gy hG hF h;clear hF
 cases fn with
 |func f=>
  simp only[Dw]at I
  split at I
  case isFalse=>cases I
  rename_i J;simp only[decide_eq_true_eq]at J
  split at I
  ·rename_i hf;simp only[DG]at I;obtain⟨l,hl,rfl⟩:=I;simp only[POp.exec,Db,Dv]at M;obtain⟨rfl,rfl⟩:=M;obtain⟨g1,g2⟩:=PR N hl;refine Gi (s:=Instr.makeFunc (.func f) (first.map a.eval) (E.map a.eval)) Y rfl (v:=.func (JT f) (Qm f (E.toList.map a.eval)) (Rb f (E.toList.map a.eval))) ?_ (.clo f _ _ (by simpa using g1) g2) hn;rw[RP J,Yz J,Ya J]
   have U:first.map a.eval=#[]:=by
    grind
   have V:E.map a.eval=(E.toList.map a.eval).toArray:=by
    grind
   rw[U,V];rfl
  ·split at I
   case isFalse=>cases I
   rename_i hf;simp only[DG]at I;obtain⟨l,hl,rfl⟩:=I;simp only[POp.exec,Db,Dv]at M;obtain⟨rfl,rfl⟩:=M;obtain⟨g1,g2⟩:=PR N hl;refine Gi (s:=Instr.makeFunc (.func f) (first.map a.eval) (E.map a.eval)) Y rfl (v:=.func (JT (f+5000000)) (Qm (f+5000000) (first.toList.map a.eval)) (Rb (f+5000000) (first.toList.map a.eval))) ?_ (.clo (f+5000000) _ _ (by simpa using g1) g2) hn;rw[oM J,tQ J,sy J]
   have U:E.map a.eval=#[]:=by
    grind
   have V:first.map a.eval=(first.toList.map a.eval).toArray:=by
    grind
   rw[U,V];rfl
 |_=>simp[Dw]at I
def Wr(r:Option Nat):Fence:={Fence.wide with round:=r}
theorem QR(E:∀ c,o.op≠.defer c)(h:o.wp P a w next Q):o.wpIn (Wr r) 0 P a w next Q:=by
 refine⟨fun _ _=>trivial,?_⟩;rw[Oper.semAt_eq _ _ _ E];unfold Oper.wp at h;generalize (execOp a.eval o).run P w=x at h ⊢
 cases x with
 |ok n w'=>
  cases n <;> simp only[Oper.upon]at h <;> simp only[Oper.uponIn] <;> first
   |exact h
   |exact h.elim
   |exact⟨(fun e=>by cases e),callsIn_wide.2 h⟩
   |exact⟨(fun e=>by cases e),fun c cs _=>let⟨v,w',r,s⟩:=h c cs; ⟨v,w',r,stepsIn_wide.2 s⟩⟩
 |halt x w'=>cases x <;> simp only[Oper.upon]at h <;> simp only[Oper.uponIn] <;> first | exact h | exact h.elim
theorem YOK.none{G:Dj}{w0:World}{g0:Ghost}{st0:St}:YOK P G (fun _ _ _=>none) base w0 g0 st0:=fun _ _ _ _ _ _ _ _ _ _ h=>by cases h
theorem yZf{l:Nat}(E:o.op=.call c)(hc:c.callee=.value x)(I:a.eval x=.func (.yield l) #[] #[])(O:c.args.toList.map a.eval=vs)
  (h:pY P base w g st st' l vs d) (hn:∀ v w' g',Go1 base w g st w' g' st'→RepV w' g' st' d v→next (a.put o.dst v) w'):o.wpIn (Wr r) 0 P a w next Q:=by
 obtain⟨f,tmps,assign,body,J,M⟩:=h;refine⟨fun _ _=>trivial,?_⟩;rw[Oper.semAt_eq _ _ _ (fun c' e=>by rw[E]at e; cases e)]
 have hex:execOp a.eval o=Instr.yield l vs.toArray:=by
  obtain⟨dst,op,ty,pos,after,guard⟩:=o;simp only at E;subst E
  have N:vs.toArray=c.args.map a.eval:=by
   grind
  simp only[execOp,resolve,hc,I,Deferred.ofValue,N,BP];rfl
 rw[hex,J,Oper.uponIn_round];refine⟨(fun e=>by cases e),?_⟩;refine RoundIn.mono (F:=Wr r) (n:=0) M ?_;grind
theorem Yzn(I:TblOK P G T)(J:SR base w g st)(M:GlobOK G w g)(N:FR w g st fr a)(E:Dw P il o.op=some p)(V:∀ x args f U,p=.callv x args→Dq G fr x=.clo f U→f<10000000)(O:p.exec T (Dq G fr) st=some (d,st'))
  (hn:∀ v w' g',Go1 base w g st w' g' st'→RepV w' g' st' d v→next (a.put o.dst v) w'):o.wp P a w next Q:=by
 obtain⟨dst,op,ty,pos,after,guard⟩:=o
 cases op with
 |move x=>exact Yjf x I J M N E O hn
 |assign x=>exact yVv x I J M N E O hn
 |pick c x y=>exact Yje c x y I J M N E O hn
 |alloc t=>exact Yas t I J M N E O hn
 |box t x=>exact Yr5 t x I J M N E O hn
 |build t parts=>exact Yaq t parts I J M N E O hn
 |buildSlice t len parts=>exact yE2 t len parts I J M N E O hn
 |load t x=>exact Yjg t x I J M N E O hn
 |store t x y=>exact Yam t x y I J M N E O hn
 |nilCheck x=>exact yLd x I J M N E O hn
 |binOp op t x y Y=>exact Yar op t x y Y I J M N E O hn
 |unOp op t x=>exact Yjd op t x I J M N E O hn
 |convert src dt x=>exact yPg src dt x I J M N E O hn
 |makeSlice t l c=>exact yIf t l c I J M N E O hn
 |slice t x lo hi mx=>exact Yan t x lo hi mx I J M N E O hn
 |fieldAddr s x f=>exact yIh s x f I J M N E O hn
 |field s x f=>exact Yap s x f I J M N E O hn
 |indexAddr t x i=>exact yIg t x i I J M N E O hn
 |index t x i=>exact Yao t x i I J M N E O hn
 |extract x i=>exact yPf x i I J M N E O hn
 |mapUpdate t m k v=>exact yIe t m k v I J M N E O hn
 |insert t m k v=>exact yVu t m k v I J M N E O hn
 |lookup t m k ok=>exact yVt t m k ok I J M N E O hn
 |makeMap t rs=>exact yPd t rs I J M N E O hn
 |call c=>exact Yjh c I J M N E V O hn
 |makeFunc fn first U=>exact yLe fn first U I J M N E O hn
 |_=>simp[Dw]at E
theorem Ykw{w0:World}{g0:Ghost}{st0:St}(hT:TblOK P G T)(hY:YOK P G T.y base w0 g0 st0)(V:Go1 base w0 g0 st0 w g st)(U:GlobOK G w g)(hF:FR w g st fr a)(E:Dw P il o.op=some p)(M:p.exec T (Dq G fr) st=some (d,st'))
  (hn:∀ v w' g',Go1 base w g st w' g' st'→RepV w' g' st' d v→next (a.put o.dst v) w'):o.wpIn (Wr r) 0 P a w next Q:=by
 have Y:∀ c,o.op≠.defer c:=fun c e=>by rw[e]at E; simp[Dw]at E
 by_cases hc:∃ x args f I,p=.callv x args∧Dq G fr x=.clo f I∧¬ f<10000000
 ·obtain⟨x,args,f,I,rfl,N,aa⟩:=hc;have O:¬ f<5000000:=by omega
  simp only[POp.exec,N,if_neg aa,if_neg O]at M
  split at M
  case isFalse=>cases M
  rename_i af;obtain rfl:I=[]:=by simpa using af
  have hinv:∃ c xo,o.op=.call c∧c.callee=.value xo∧DR xo=some x∧Iy c.args.toList=some args:=by
   clear hn M Y;generalize o.op=op at E
   cases op with
   |call c=>
    simp only[Dw]at E
    split at E
    ·rename_i b hb;unfold Ym at E
     repeat' split at E
     all_goals first | cases E | (simp at E; done) | skip
    ·grind
    ·grind
    ·cases E
   |_=>exfalso; revert E; simp only[Dw,dH,aX,bI]; (repeat' split) <;> first | (simp; done) | (intro h; cases h; done) | (intro h; simp only[DG]at h; obtain⟨_,_,h⟩:=h; cases h; done) | (intro _; contradiction)
  obtain⟨c,xo,h1,h2,h4,h5⟩:=hinv;have hr:=Gy U hF h4;rw[N]at hr;obtain⟨e1,e2⟩:=PR (fun x pa h=>Gy (G:=G) U hF h) h5;generalize J:a.eval xo=xv at hr
  cases hr with
  |clo _ _ us hlen a6=>
   obtain rfl:us=[]:=AR hlen.symm;rw[YV,Yx]at J;unfold JT at J;rw[if_neg O,if_neg aa]at J;refine yZf (vs:=c.args.toList.map a.eval) h1 h2 J rfl (hY _ w g st st' _ _ d V U M (by simpa using e1) e2) hn
 ·refine QR Y ?_;exact Yzn hT V.sr U hF E (fun x args f I e1 e2=>Classical.byContradiction fun e3=>hc ⟨x,args,f,I,e1,e2,e3⟩) M hn
end
end Go.Proofs.YtijnglngaogdjaaGreatDoor.PI
namespace Go.Proofs.YtijnglngaogdjaaGreatDoor.PI
open Go Go.RowKit
def POp.cls:POp→Nat
 |.mov _ | .pick _ _ _ | .bld _ _ | .bin _ _ _ | .beq _ _ _ | .aeq _ _ _ _ | .un _ _ | .sliceA _ _ _ _ _ _ | .fldv _ _ _ _ | .idx _ _ | .idxV _ _ _ _ _ | .lenA _ | .mm _ _ _ | .mm3 _ _ _ _ | .ext _ _ | .mkclo _ _=>0
 |.conv c _=>match c with
  |.str=>1
  |_=>0
 |.load _ _ _ | .nilc _ | .slice _ _ _ _ _ | .fld _ _ | .idxS _ _ _ | .idxA _ _ _ _ | .len _ _ | .mapget _ _ _ _ _ _ | .rcall _ _=>1
 |.bslc _ _ | .call _ _=>2
 |.box _ | .stor _ _ _ | .mkslc _ _ _ _ _ | .app _ _ _ _ | .icall _ _ | .mcall _ _ | .callv _ _ | .mkmap _ | .mapup _ _ _ _ _ | .cpy _ _ _ | .fail=>3
def PA.slot:PA→List Nat
 |.s n=>[n]
 |_=>[]
def PI.reads(i:PI):List Nat:=i.op.args.flatMap PA.slot++(Hl i.guard).map (·.1)
def POp.push:POp→Bool
 |.box _ | .mkslc _ _ _ _ _=>true
 |_=>false
def PI.apart(x y:PI):Bool:=
 (match x.dst with
  |some d=>!(y.reads.contains d) && y.dst != some d
  |none=>true) &&
 (match y.dst with
  |some d=>!(x.reads.contains d)
  |none=>true) &&
 (x.op.cls == 0 || y.op.cls == 0 || (decide (x.op.cls≤2) && (decide (y.op.cls≤2) || y.op.push)))
theorem P1{α β:Type}{f g:α→β}:∀ {l:List α},(∀ x∈l,f x=g x)→l.map f=l.map g:=fun h=>BJ h
variable {st:St}{ρ:PA→D}{T:Tbl}
theorem yYa{I:PA→D}(p:POp)(h:∀ x∈p.args,ρ x=I x):p.exec T ρ st=p.exec T I st:=by
 have opt:∀ (o:Option PA),(∀ x∈Hl o,ρ x=I x)→o.map ρ=o.map I:=by
  intro o M
  cases o with
  |none=>rfl
  |some x=>simp[M x (by simp[Hl])]
 cases p with
 |bld zero parts=>
  have:(parts.map fun p=>(p.1,p.2.1,ρ p.2.2))=parts.map fun p=>(p.1,p.2.1,I p.2.2):=P1 fun q E=>by
   rw[h q.2.2 (by simp only[POp.args,AW]; exact⟨q,E,rfl⟩)]
  simp only[POp.exec,this]
 |bslc sz parts=>
  have:parts.map ρ=parts.map I:=P1 fun q E=>h q E;simp only[POp.exec,this]
 |call f args=>
  have:args.map ρ=args.map I:=P1 fun q E=>h q E;simp only[POp.exec,this]
 |icall f args=>
  have:args.map ρ=args.map I:=P1 fun q E=>h q E;simp only[POp.exec,this]
 |mcall f args=>
  have:args.map ρ=args.map I:=P1 fun q E=>h q E;simp only[POp.exec,this]
 |rcall f args=>
  have:args.map ρ=args.map I:=P1 fun q E=>h q E;simp only[POp.exec,this]
 |mkclo f args=>
  have:args.map ρ=args.map I:=P1 fun q E=>h q E;simp only[POp.exec,this]
 |callv x args=>
  have:args.map ρ=args.map I:=P1 fun q E=>h q (by simp[POp.args,E]);simp only[POp.exec,this,h x (by simp[POp.args])]
 |slice sz x lo hi N=>
  simp only[POp.args,Ax,AP]at h;simp only[POp.exec,h x (.inl rfl),opt lo (fun y J=>h y (.inr (.inl (.inl J)))),opt hi (fun y J=>h y (.inr (.inl (.inr J)))),opt N (fun y J=>h y (.inr (.inr J)))]
 |sliceA n sz ag x lo hi=>
  simp only[POp.args,Ax,AP]at h;simp only[POp.exec,h x (.inl rfl),opt lo (fun y J=>h y (.inr (.inl J))),opt hi (fun y J=>h y (.inr (.inr J)))]
 |_=>
  simp only[POp.args,Ax,AE,or_false,forall_eq_or_imp,forall_eq]at h;simp only[POp.exec,h]
abbrev lend1(k:Nat)(st:St):St:=st.modify k fun o=>{o with lent:=true}
theorem dV(st:St)(k key tot:Nat):E0 (lend1 k st) key tot=E0 st key tot:=by
 unfold E0;grind
theorem yVy(st:St)(k:Nat)(d:D):E4 (lend1 k st) d=E4 st d:=by
 cases d <;> simp only[E4,dV]
theorem yP5(st:St)(k:Nat)(c:PConv)(d:D):FD (lend1 k st) c d=FD st c d:=by
 cases c <;> cases d <;> simp only[FD,lW]
theorem yLt(st:St)(k sz:Nat)(x:D)(lo hi E:Option D):G3 (lend1 k st) sz x lo hi E=G3 st sz x lo hi E:=by
 cases x with
 |row key tot off len=>
  simp only[G3,Sv];grind
 |_=>simp only[G3]
theorem yP2(st:St)(k sz:Nat)(x i:D):Gx (lend1 k st) sz x i=Gx st sz x i:=by
 unfold Gx
 cases FP i with
 |none=>rfl
 |some j=>
  grind
theorem tc(st:St)(k off:Nat)(x:D):Fw (lend1 k st) off x=Fw st off x:=by
 cases x <;> simp only[Fw,dV]
theorem yP3(st:St)(k n sz:Nat)(x i:D):Jr (lend1 k st) n sz x i=Jr st n sz x i:=by
 simp only[Jr,tc]
theorem yPz(st:St)(k n:Nat)(ag:Bool)(p:D):Ft (lend1 k st) n ag p=Ft st n ag p:=by
 cases p with
 |ptr key off=>
  simp only[Ft,Sv];grind
 |rptr key tot i off=>
  simp only[Ft,Sv];grind
 |_=>simp only[Ft]
theorem yIv(st:St)(I sz:Nat)(ks:List Nat)(ok:Bool)(E m k:D):Jx (lend1 I st) sz ks ok E m k=Jx st sz ks ok E m k:=by
 cases m with
 |mapv key=>
  simp only[Jx,Sv]
  cases st[key]? with
  |none=>rfl
  |some o=>by_cases e:I=key <;> simp[e,Obj.isMap]
 |_=>simp only[Jx]
theorem yXc(a b:Nat)(st:St):lend1 a (lend1 b st)=lend1 b (lend1 a st):=by
 apply Bf;grind
theorem YF(a:Nat):∀ (ks:List Nat) (st:St),lend ks (lend1 a st)=lend1 a (lend ks st)
 |[],_=>rfl
 |k::r,st=>by
  show lend r (lend1 k (lend1 a st))=lend1 a (lend r (lend1 k st))
  rw[yXc,YF a r]
theorem jr:∀ (ks qs:List Nat) (st:St),lend ks (lend qs st)=lend qs (lend ks st)
 |[],_,_=>rfl
 |k::r,qs,st=>by
  show lend r (lend1 k (lend qs st))=lend qs (lend r (lend1 k st))
  rw[← YF,jr r qs]
theorem Yes(st:St)(k key:Nat):((lend1 k st)[key]?).map Obj.see=(st[key]?).map Obj.see:=by
 rw[Sv]
 cases st[key]? with
 |none=>rfl
 |some o=>by_cases e:k=key <;> simp[e,Obj.see]
theorem th(st:St)(k:Nat):∀ l:List Nat,Hj (lend1 k st) l=Hj st l
 |[]=>rfl
 |a::l=>by simp only[Hj,Yes,th st k l]
theorem yMt(st:St)(k key:Nat):((lend1 k st)[key]?).isSome=(st[key]?).isSome:=by
 grind
theorem yLs(st:St)(k:Nat)(sp:List D→List (Option (Bool×Nat×List D))→Option D)(ds:List D):IZ sp ds (lend1 k st)=IZ sp ds st:=by
 unfold IZ;simp only[yMt,th]
theorem yX9(p:POp)(hc:p.cls≤2)(k:Nat)(st:St):p.exec T ρ (lend1 k st)=(p.exec T ρ st).map fun r=>(r.1,lend1 k r.2):=by
 have mp:∀ {α:Type} (o:Option α) (f:α→D),(o.map fun x=>(f x,lend1 k st))=(o.map fun x=>(f x,st)).map fun r=>(r.1,lend1 k r.2):=by
  intro α o f;cases o <;> rfl
 cases p with
 |mov x=>rfl
 |pick c x y=>simp only[POp.exec]; split <;> rfl
 |box x=>simp[POp.cls]at hc
 |bld zero parts=>simp only[POp.exec]; exact mp _ _
 |bslc sz parts=>
  simp only[POp.exec,YE]
  split
  ·split
   ·simp only[Ag,YF]
   ·rfl
  ·rfl
 |load n ag x=>simp only[POp.exec,yPz]; exact mp _ _
 |stor n p x=>simp[POp.cls]at hc
 |nilc x=>
  simp only[POp.exec,dV]
  split
  ·rfl
  ·rfl
  ·grind
  ·rfl
 |bin op x y=>simp only[POp.exec]; exact mp _ _
 |beq neg x y=>simp only[POp.exec]; exact mp _ _
 |aeq ks neg x y=>simp only[POp.exec]; exact mp _ _
 |un op x=>simp only[POp.exec]; exact mp _ _
 |conv c x=>simp only[POp.exec,yP5]; exact mp _ _
 |mkslc sz bytes zero l c=>simp[POp.cls]at hc
 |slice sz x lo hi E=>simp only[POp.exec,yLt]; exact mp _ _
 |sliceA n sz ag x lo hi=>simp only[POp.exec]; exact mp _ _
 |fld off x=>simp only[POp.exec,tc]; exact mp _ _
 |fldv off n ag x=>simp only[POp.exec]; exact mp _ _
 |idxS sz x i=>simp only[POp.exec,yP2]; exact mp _ _
 |idxA n sz x i=>simp only[POp.exec,yP3]; exact mp _ _
 |idx x i=>simp only[POp.exec]; exact mp _ _
 |idxV l sz ag x i=>simp only[POp.exec]; exact mp _ _
 |len str x=>
  simp only[POp.exec,yVy]
  split
  ·simp_all
  ·rfl
 |lenA n=>rfl
 |app sz bytes s x=>simp[POp.cls]at hc
 |mm E x y=>simp only[POp.exec]; split <;> rfl
 |mm3 E x y z=>simp only[POp.exec]; split <;> rfl
 |rcall f args=>
  simp only[POp.exec,yLs]
  split
  ·exact mp _ _
  ·rfl
 |icall f args=>simp[POp.cls]at hc
 |mcall f args=>simp[POp.cls]at hc
 |fail=>simp[POp.cls]at hc
 |mkmap sz=>simp[POp.cls]at hc
 |mapup sz ks m k v=>simp[POp.cls]at hc
 |cpy sz d s=>simp[POp.cls]at hc
 |mapget sz ks ok zero m k=>simp only[POp.exec,yIv]; exact mp _ _
 |callv x args=>simp[POp.cls]at hc
 |mkclo f args=>rfl
 |call f args=>
  simp only[POp.exec,YE]
  split
  ·split
   ·split
    ·rfl
    ·simp only[Ag,YF]
   ·rfl
  ·rfl
 |ext x i=>
  simp only[POp.exec]
  split
  ·exact mp _ id
  ·rfl
theorem iY{T:Tbl}{ρ:PA→D}(p:POp)(hc:p.cls≤2):∀ (ks:List Nat) (st:St),p.exec T ρ (lend ks st)=(p.exec T ρ st).map fun r=>(r.1,lend ks r.2)
 |[],st=>by cases h:p.exec T ρ st <;> simp[lend,h]
 |k::r,st=>by
  show p.exec T ρ (lend r (lend1 k st))=_
  rw[iY p hc r,yX9 p hc k st];cases p.exec T ρ st <;> rfl
variable {d:D}{st':St}
theorem Yj(p:POp)(hc:p.cls≤2)(h:p.exec T ρ st=some (d,st')):∃ ks,st'=lend ks st:=by
 have mp:∀ {α:Type} (o:Option α) (f:α→D),(o.map fun x=>(f x,st))=some (d,st')→∃ ks,st'=lend ks st:=by
  intro α o f h;simp only[DG,Dv]at h;obtain⟨_,_,_,rfl⟩:=h;exact⟨[],rfl⟩
 cases p with
 |mov x=>simp only[POp.exec,Db,Dv]at h; exact⟨[],h.2.symm⟩
 |pick c x y=>
  simp only[POp.exec]at h
  split at h
  ·simp only[Db,Dv]at h; exact⟨[],h.2.symm⟩
  ·cases h
 |box x=>simp[POp.cls]at hc
 |bld zero parts=>simp only[POp.exec]at h; exact mp _ _ h
 |bslc sz parts=>
  simp only[POp.exec]at h;grind
 |load n ag x=>simp only[POp.exec]at h; exact mp _ _ h
 |stor n p x=>simp[POp.cls]at hc
 |nilc x=>
  simp only[POp.exec]at h
  split at h
  ·simp only[Db,Dv]at h; exact⟨[],h.2.symm⟩
  ·simp only[Db,Dv]at h; exact⟨[],h.2.symm⟩
  ·split at h
   ·simp only[Db,Dv]at h; exact⟨[],h.2.symm⟩
   ·cases h
  ·cases h
 |bin op x y=>simp only[POp.exec]at h; exact mp _ _ h
 |beq neg x y=>simp only[POp.exec]at h; exact mp _ _ h
 |aeq ks neg x y=>simp only[POp.exec]at h; exact mp _ _ h
 |un op x=>simp only[POp.exec]at h; exact mp _ _ h
 |conv c x=>simp only[POp.exec]at h; exact mp _ _ h
 |mkslc sz bytes zero l c=>simp[POp.cls]at hc
 |slice sz x lo hi E=>simp only[POp.exec]at h; exact mp _ _ h
 |sliceA n sz ag x lo hi=>simp only[POp.exec]at h; exact mp _ _ h
 |fld off x=>simp only[POp.exec]at h; exact mp _ _ h
 |fldv off n ag x=>simp only[POp.exec]at h; exact mp _ _ h
 |idxS sz x i=>simp only[POp.exec]at h; exact mp _ _ h
 |idxA n sz x i=>simp only[POp.exec]at h; exact mp _ _ h
 |idx x i=>simp only[POp.exec]at h; exact mp _ _ h
 |idxV l sz ag x i=>simp only[POp.exec]at h; exact mp _ _ h
 |len str x=>
  simp only[POp.exec]at h
  split at h
  ·exact mp _ (fun n:Nat=>D.int .i64 (n:Int)) h
  ·cases h
 |lenA n=>simp only[POp.exec,Db,Dv]at h; exact⟨[],h.2.symm⟩
 |app sz bytes s x=>simp[POp.cls]at hc
 |mm E x y=>
  simp only[POp.exec]at h
  split at h
  ·simp only[Db,Dv]at h; exact⟨[],h.2.symm⟩
  ·cases h
 |mm3 E x y z=>
  simp only[POp.exec]at h
  split at h
  ·simp only[Db,Dv]at h; exact⟨[],h.2.symm⟩
  ·cases h
 |rcall f args=>
  simp only[POp.exec]at h
  split at h
  ·exact mp _ id (by simpa using h)
  ·cases h
 |icall f args=>simp[POp.cls]at hc
 |mcall f args=>simp[POp.cls]at hc
 |fail=>simp[POp.cls]at hc
 |mkmap sz=>simp[POp.cls]at hc
 |mapup sz ks m k v=>simp[POp.cls]at hc
 |cpy sz d s=>simp[POp.cls]at hc
 |mapget sz ks ok zero m k=>simp only[POp.exec]at h; exact mp _ _ h
 |callv x args=>simp[POp.cls]at hc
 |mkclo f args=>simp only[POp.exec,Db,Dv]at h; exact⟨[],h.2.symm⟩
 |call f args=>
  simp only[POp.exec]at h
  split at h
  ·split at h
   ·simp only[Db,Dv]at h;obtain⟨_,rfl⟩:=h
    split
    ·exact⟨[],rfl⟩
    ·grind
   ·cases h
  ·cases h
 |ext x i=>
  simp only[POp.exec]at h
  split at h
  ·exact mp _ id h
  ·cases h
theorem iZ(p:POp)(hc:p.cls=0)(h:p.exec T ρ st=some (d,st')):st'=st∧∀ st2,p.exec T ρ st2=some (d,st2):=by
 have mp:∀ {α:Type} (o:Option α) (f:α→D),(o.map fun x=>(f x,st))=some (d,st')→st'=st∧∀ st2:St,(o.map fun x=>(f x,st2))=some (d,st2):=by
  simp_all
 cases p with
 |mov x=>simp only[POp.exec,Db,Dv]at h ⊢; exact⟨h.2.symm,fun st2=>⟨h.1,trivial⟩⟩
 |pick c x y=>
  simp only[POp.exec]at h ⊢
  split at h
  ·grind
  ·cases h
 |bld zero parts=>simp only[POp.exec]at h ⊢; exact mp _ _ h
 |bin op x y=>simp only[POp.exec]at h ⊢; exact mp _ _ h
 |beq neg x y=>simp only[POp.exec]at h ⊢; exact mp _ _ h
 |aeq ks neg x y=>simp only[POp.exec]at h ⊢; exact mp _ _ h
 |un op x=>simp only[POp.exec]at h ⊢; exact mp _ _ h
 |conv c x=>
  cases c with
  |str=>simp[POp.cls]at hc
  |int k=>
   have e:∀ st2,FD st2 (.int k) (ρ x)=FD st (.int k) (ρ x):=fun st2=>by cases ρ x <;> simp only[FD]
   simp only[POp.exec]at h ⊢;obtain⟨E,I⟩:=mp _ _ h;grind
  |bytes=>
   have e:∀ st2,FD st2 .bytes (ρ x)=FD st .bytes (ρ x):=fun st2=>by cases ρ x <;> simp only[FD]
   simp only[POp.exec]at h ⊢;obtain⟨E,I⟩:=mp _ _ h;grind
  |same=>
   have e:∀ st2,FD st2 .same (ρ x)=FD st .same (ρ x):=fun st2=>by cases ρ x <;> simp only[FD]
   simp only[POp.exec]at h ⊢;obtain⟨E,I⟩:=mp _ _ h;grind
 |sliceA n sz ag x lo hi=>simp only[POp.exec]at h ⊢; exact mp _ _ h
 |fldv off n ag x=>simp only[POp.exec]at h ⊢; exact mp _ _ h
 |idx x i=>simp only[POp.exec]at h ⊢; exact mp _ _ h
 |idxV l sz ag x i=>simp only[POp.exec]at h ⊢; exact mp _ _ h
 |mkclo f args=>simp only[POp.exec,Db,Dv]at h ⊢; exact⟨h.2.symm,fun st2=>⟨h.1,trivial⟩⟩
 |lenA n=>simp only[POp.exec,Db,Dv]at h ⊢; exact⟨h.2.symm,fun st2=>⟨h.1,trivial⟩⟩
 |mm J x y=>
  simp only[POp.exec]at h ⊢
  split at h
  ·grind
  ·cases h
 |mm3 J x y z=>
  simp only[POp.exec]at h ⊢
  split at h
  ·grind
  ·cases h
 |ext x i=>
  simp only[POp.exec]at h ⊢
  split at h
  ·exact mp _ id h
  ·cases h
 |_=>simp[POp.cls]at hc
theorem bY(fr:Frame){x y:Option Nat}(u v:D)(h:∀ d,x=some d→y≠some d):(fr.put x u).put y v=(fr.put y v).put x u:=by
 cases x with
 |none=>rfl
 |some a=>
  cases y with
  |none=>rfl
  |some b=>
   have E:a≠b:=fun e=>h a rfl (e ▸ rfl)
   funext t
   simp only[Frame.put,Frame.set];grind
theorem Ymo{k:Nat}{a:Obj}(o:Obj)(h:st[k]?=some a):(st++[o])[k]?=some a:=by
 grind
variable {key off tot:Nat}
theorem ua{len:Nat}{r:Nat×List D}(o:Obj)(h:HL st key tot off len=some r):HL (st++[o]) key tot off len=some r:=by
 unfold HL at h ⊢;grind
variable {ag:Bool}{n sz:Nat}
theorem Yhg{r:List D}(o:Obj)(h:H8 st key off n sz ag=some r):H8 (st++[o]) key off n sz ag=some r:=by
 unfold H8 LA at h ⊢;grind
variable {y:D}
theorem rC(o:Obj)(h:DD st d=some y):DD (st++[o]) d=some y:=by
 cases d <;> simp only[DD]at h ⊢ <;> first
  |exact h
  |(simp only[DG]at h ⊢
    obtain⟨r,E,I⟩:=h;exact⟨r,ua o E,I⟩)
  |(simp only[DG]at h ⊢
    obtain⟨r,E,I⟩:=h;exact⟨r,Yhg o E,I⟩)
theorem ra{st:St}(o:Obj):∀ {ds ys:List D},D9 st ds=some ys→D9 (st++[o]) ds=some ys
 |[],ys,h=>h
 |d::l,ys,h=>by
  simp only[D9]at h ⊢
  split at h
  ·rename_i x y E I;rw[rC o E,ra o I]; exact h
  ·cases h
theorem Yl6(o:Obj)(h:DW st d=some y):DW (st++[o]) d=some y:=by
 cases d <;> simp only[DW]at h ⊢ <;> first
  |exact rC o h
  |(simp only[DG]at h ⊢
    obtain⟨r,E,I⟩:=h;exact⟨r,ra o E,I⟩)
  |(cases h; done)
theorem jd{st:St}(o:Obj):∀ {ds ys:List D},Ek st ds=some ys→Ek (st++[o]) ds=some ys
 |[],ys,h=>h
 |d::l,ys,h=>by
  simp only[Ek]at h ⊢
  split at h
  ·rename_i x y E I;rw[Yl6 o E,jd o I]; exact h
  ·cases h
theorem ji(o:Obj)(h:E0 st key tot=true):E0 (st++[o]) key tot=true:=by
 unfold E0 at h ⊢;grind
theorem Ya2(o:Obj)(h:E4 st d=some n):E4 (st++[o]) d=some n:=by
 cases d <;> simp only[E4]at h ⊢ <;> first
  |exact h
  |(split at h
    ·rename_i hl;rw[ji o hl]; simpa using h
    ·cases h)
theorem yWq{c:PConv}(o:Obj)(h:FD st c d=some y):FD (st++[o]) c d=some y:=by
 cases c <;> cases d <;> simp only[FD]at h ⊢ <;> first
  |exact h
  |(split at h
    ·rename_i sz els E;rw[ua o E]; exact h
    ·cases h)
variable {x:D}
theorem yPu{lo hi E:Option D}(o:Obj)(h:G3 st sz x lo hi E=some y):G3 (st++[o]) sz x lo hi E=some y:=by
 cases x with
 |row key tot off len=>
  simp only[G3]at h ⊢;grind
 |_=>simpa only[G3]using h
theorem yWi{i:D}(o:Obj)(h:Gx st sz x i=some y):Gx (st++[o]) sz x i=some y:=by
 unfold Gx at h ⊢
 cases hn:FP i with
 |none=>simp[hn]at h
 |some j=>
  grind
theorem rT(o:Obj)(h:Fw st off x=some y):Fw (st++[o]) off x=some y:=by
 cases x <;> simp only[Fw]at h ⊢ <;> first
  |exact h
  |(split at h
    ·rename_i hl;rw[ji o hl]; simpa using h
    ·cases h)
theorem yWk{i:D}(o:Obj)(h:Jr st n sz x i=some y):Jr (st++[o]) n sz x i=some y:=by
 unfold Jr at h ⊢
 cases hn:FP i with
 |none=>simp[hn]at h
 |some j=>
  rw[hn]at h;simp only at h ⊢
  split at h
  ·rename_i hj;rw[if_pos hj]; exact rT o h
  ·cases h
theorem yWd{p:D}(o:Obj)(h:Ft st n ag p=some y):Ft (st++[o]) n ag p=some y:=by
 unfold Ft at h ⊢;grind
theorem yLv{ks:List Nat}{ok:Bool}{E m k:D}(o:Obj)(h:Jx st sz ks ok E m k=some y):Jx (st++[o]) sz ks ok E m k=some y:=by
 unfold Jx at h ⊢;grind
theorem rA(h:DD st d=some y):∀ k∈Fp d,k<st.length:=by
 cases d with
 |row key tot off len=>
  simp only[DD,DG]at h;obtain⟨r,E,_⟩:=h;unfold HL at E
  split at E
  ·rename_i a ha;intro k hk;simp only[Fp,AN]at hk;grind
  ·cases E
 |bsl key off n sz ag=>
  simp only[DD,DG]at h;obtain⟨r,E,_⟩:=h;intro k hk;simp only[Fp,AN]at hk;subst hk;unfold H8 LA at E;grind
 |_=>intro k hk; simp[Fp]at hk
theorem qZ{st:St}:∀ {ds ys:List D},D9 st ds=some ys→∀ k∈ds.flatMap Fp,k<st.length
 |[],_,_=>fun k hk=>by simp at hk
 |d::l,ys,h=>by
  simp only[D9]at h
  split at h
  ·rename_i x y E I;intro k hk;simp only[At,AP]at hk;rcases hk with hk | hk
   ·exact rA E k hk
   ·exact qZ I k hk
  ·cases h
theorem Yl7(h:DW st d=some y):∀ k∈keys d,k<st.length:=by
 cases d with
 |agg l=>
  simp only[DW,DG]at h;obtain⟨r,E,_⟩:=h;exact qZ E
 |tup l=>simp[DW]at h
 |_=>simp only[DW]at h; exact rA h
theorem jc{st:St}:∀ {ds ys:List D},Ek st ds=some ys→∀ k∈ds.flatMap keys,k<st.length
 |[],_,_=>fun k hk=>by simp at hk
 |d::l,ys,h=>by
  simp only[Ek]at h
  split at h
  ·rename_i x y E I;intro k hk;simp only[At,AP]at hk;rcases hk with hk | hk
   ·exact Yl7 E k hk
   ·exact jc I k hk
  ·cases h
theorem PY:∀ (ks:List Nat) (st:St),(lend ks st).length=st.length
 |[],_=>rfl
 |k::r,st=>by rw[lend,PY r,List.length_modify]
theorem jt{o:Obj}:∀ (ks:List Nat) (st:St),(∀ k∈ks,k<st.length)→lend ks (st++[o])=lend ks st++[o]
 |[],_,_=>rfl
 |k::r,st,h=>by
  have E:(st++[o]).modify k (fun o=>{o with lent:=true})=st.modify k (fun o=>{o with lent:=true})++[o]:=by
   apply Bf;grind
  rw[lend,lend,E,jt r _ (fun q I=>by rw[List.length_modify]; exact h q (by simp[I]))]
theorem rL{st:St}(o:Obj):∀ {l:List Nat},l.all (fun k=>(st[k]?).isSome)=true→Hj (st++[o]) l=Hj st l
 |[],_=>rfl
 |a::l,h=>by
  simp only[AZ,Af]at h;obtain⟨x,E⟩:=Option.isSome_iff_exists.1 h.1;simp only[Hj,Ymo o E,E,rL o h.2]
theorem yPs(o:Obj){sp:List D→List (Option (Bool×Nat×List D))→Option D}{ds:List D}(h:IZ sp ds st=some d):IZ sp ds (st++[o])=some d:=by
 unfold IZ at h ⊢
 split at h
 case isFalse=>cases h
 rename_i hc
 rw[if_pos (by
  grind),rL o hc]
 exact h
theorem Yfc{o:Obj}(p:POp)(hc:p.cls≤2)(h:p.exec T ρ st=some (d,st')):p.exec T ρ (st++[o])=some (d,st'++[o]):=by
 have mp:∀ {α:Type} (a b:Option α) (f:α→D),(∀ y,a=some y→b=some y)→(a.map fun x=>(f x,st))=some (d,st')→(b.map fun x=>(f x,st++[o]))=some (d,st'++[o]):=by
  simp_all
 cases p with
 |mov x=>simp only[POp.exec,Db,Dv]at h ⊢; exact⟨h.1,by rw[h.2]⟩
 |pick c x y=>
  simp only[POp.exec]at h ⊢
  split at h
  ·grind
  ·cases h
 |box x=>simp[POp.cls]at hc
 |bld zero parts=>simp only[POp.exec]at h ⊢; exact mp _ _ _ (fun _ h=>h) h
 |bslc sz parts=>
  simp only[POp.exec]at h ⊢
  split at h
  ·rename_i els he;rw[jd o he];simp only
   split at h
   ·rename_i I;rw[if_pos I];simp only[Db,Dv]at h ⊢;exact⟨h.1,by rw[← h.2,jt _ _ (jc he)]⟩
   ·cases h
  ·cases h
 |load n ag x=>simp only[POp.exec]at h ⊢; exact mp _ _ _ (fun _ h=>yWd o h) h
 |stor n p x=>simp[POp.cls]at hc
 |nilc x=>
  simp only[POp.exec]at h ⊢
  split at h
  ·grind
  ·grind
  ·split at h
   ·rename_i hl;rw[ji o hl];grind
   ·cases h
  ·cases h
 |bin op x y=>simp only[POp.exec]at h ⊢; exact mp _ _ _ (fun _ h=>h) h
 |beq neg x y=>simp only[POp.exec]at h ⊢; exact mp _ _ _ (fun _ h=>h) h
 |aeq ks neg x y=>simp only[POp.exec]at h ⊢; exact mp _ _ _ (fun _ h=>h) h
 |un op x=>simp only[POp.exec]at h ⊢; exact mp _ _ _ (fun _ h=>h) h
 |conv c x=>simp only[POp.exec]at h ⊢; exact mp _ _ _ (fun _ h=>yWq o h) h
 |mkslc sz bytes zero l c=>simp[POp.cls]at hc
 |slice sz x lo hi J=>simp only[POp.exec]at h ⊢; exact mp _ _ _ (fun _ h=>yPu o h) h
 |sliceA n sz ag x lo hi=>simp only[POp.exec]at h ⊢; exact mp _ _ _ (fun _ h=>h) h
 |fld off x=>simp only[POp.exec]at h ⊢; exact mp _ _ _ (fun _ h=>rT o h) h
 |fldv off n ag x=>simp only[POp.exec]at h ⊢; exact mp _ _ _ (fun _ h=>h) h
 |idxS sz x i=>simp only[POp.exec]at h ⊢; exact mp _ _ _ (fun _ h=>yWi o h) h
 |idxA n sz x i=>simp only[POp.exec]at h ⊢; exact mp _ _ _ (fun _ h=>yWk o h) h
 |idx x i=>simp only[POp.exec]at h ⊢; exact mp _ _ _ (fun _ h=>h) h
 |idxV l sz ag x i=>simp only[POp.exec]at h ⊢; exact mp _ _ _ (fun _ h=>h) h
 |len str x=>
  simp only[POp.exec]at h ⊢
  split at h
  ·rename_i N;rw[if_pos N];exact mp _ _ _ (fun _ h=>Ya2 o h) h
  ·cases h
 |lenA n=>simp only[POp.exec,Db,Dv]at h ⊢; exact⟨h.1,by rw[h.2]⟩
 |app sz bytes s x=>simp[POp.cls]at hc
 |mm J x y=>
  simp only[POp.exec]at h ⊢
  split at h
  ·grind
  ·cases h
 |mm3 J x y z=>
  simp only[POp.exec]at h ⊢
  split at h
  ·grind
  ·cases h
 |rcall f args=>
  simp only[POp.exec]at h ⊢
  split at h
  ·exact mp _ _ _ (fun _ h=>yPs o h) h
  ·cases h
 |icall f args=>simp[POp.cls]at hc
 |mcall f args=>simp[POp.cls]at hc
 |fail=>simp[POp.cls]at hc
 |mkmap sz=>simp[POp.cls]at hc
 |mapup sz ks m k v=>simp[POp.cls]at hc
 |cpy sz d s=>simp[POp.cls]at hc
 |mapget sz ks ok zero m k=>simp only[POp.exec]at h ⊢; exact mp _ _ _ (fun _ h=>yLv o h) h
 |callv x args=>simp[POp.cls]at hc
 |mkclo f args=>simp only[POp.exec,Db,Dv]at h ⊢; exact⟨h.1,by rw[h.2]⟩
 |call f args=>
  simp only[POp.exec]at h ⊢
  split at h
  ·rename_i sp vs M E;simp only[M,jd o E]
   split at h
   ·rename_i r O;simp only[Db,Dv]at h ⊢;refine⟨h.1,?_⟩;rw[← h.2]
    split
    ·rfl
    ·rw[jt _ _ (jc E)]
   ·cases h
  ·cases h
 |ext x i=>
  simp only[POp.exec]at h ⊢
  split at h
  ·simp_all
  ·cases h
theorem Ybs{p:POp}(E:p.push=true)(h:p.exec T ρ st=some (d,st')):∃ o,∀ st1:St,st1.length=st.length→p.exec T ρ st1=some (d,st1++[o]):=by
 cases p with
 |box x=>
  simp only[POp.exec]at h ⊢
  split at h
  ·rename_i hc;simp only[Db,Dv]at h;exact⟨_,fun st1 hl=>by rw[if_pos hc,hl,h.1]⟩
  ·cases h
 |mkslc sz bytes zero l c=>
  simp only[POp.exec]at h ⊢
  split at h
  ·split at h
   ·rename_i hc;simp only[Db,Dv]at h;exact⟨_,fun st1 hl=>by rw[if_pos hc,hl,h.1]⟩
   ·cases h
  ·cases h
 |_=>simp[POp.push]at E
variable {dst:Option Nat}{fr:Frame}{G:Dj}
theorem xS{E:PA}(h:∀ t,dst=some t→t∉E.slot):Dq G (fr.put dst d) E=Dq G fr E:=by
 cases E with
 |s n=>
  cases dst with
  |none=>rfl
  |some t=>
   have:n≠t:=fun e=>h t rfl (by simp[PA.slot,e]);simp[Dq,Frame.put,Frame.set,this]
 |_=>rfl
theorem MY{i:PI}(h:∀ t,dst=some t→t∉i.reads):i.op.exec T (Dq G (fr.put dst d)) st=i.op.exec T (Dq G fr) st:=by
 refine yYa i.op fun x I=>xS fun t E hm=>h t E ?_;simp only[PI.reads,AP,Bo];grind
theorem UA{i:PI}(h:∀ t,dst=some t→t∉i.reads):i.wanted (fr.put dst d)=i.wanted fr:=by
 unfold PI.wanted
 cases E:i.guard with
 |none=>rfl
 |some q=>
  obtain⟨s,want⟩:=q
  cases dst with
  |none=>rfl
  |some t=>
   have:s≠t:=fun e=>h t rfl (by simp[PI.reads,E,Hl,e]);simp[Frame.put,Frame.set,this]
def PI.step(G:Dj)(T:Tbl)(i:PI)(s:PS):Option (D×St):=
 match i.wanted s.fr with
 |none=>none
 |some false=>some (.tup [],s.st)
 |some true=>i.op.exec T (Dq G s.fr) s.st
theorem PI.exec_eq(i:PI)(s:PS):i.exec G T s=(i.step G T s).map fun r=>{fr:=s.fr.put i.dst r.1,st:=r.2}:=by
 unfold PI.exec PI.step;grind
theorem sQ{x y:PI}(h:x.apart y=true):(∀ t,x.dst=some t→t∉y.reads)∧(∀ t,x.dst=some t→y.dst≠some t)∧(∀ t,y.dst=some t→t∉x.reads)∧(x.op.cls=0∨y.op.cls=0∨(x.op.cls≤2∧y.op.cls≤2)∨(x.op.cls≤2∧y.op.push=true)):=by
 simp only[PI.apart,Af,A6,beq_iff_eq,decide_eq_true_eq]at h;grind
theorem jN{x y:PI}{s s1 s2:PS}(h:x.apart y=true)(J:x.exec G T s=some s1)(E:y.exec G T s1=some s2):∃ V,y.exec G T s=some V∧x.exec G T V=some s2:=by
 obtain⟨a1,a2,a3,a4⟩:=sQ h;rw[PI.exec_eq]at J E;simp only[DG]at J E;obtain⟨⟨dx,stx⟩,J,rfl⟩:=J;obtain⟨⟨dy,Y⟩,E,rfl⟩:=E;simp only at E;have a0:y.wanted (s.fr.put x.dst dx)=y.wanted s.fr:=UA a1
 have key:∀ O,y.step G T s=some (dy,O)→(∀ d,x.step G T {fr:=s.fr.put y.dst d,st:=O}=some (dx,Y))→∃ V,y.exec G T s=some V∧x.exec G T V=some {fr:=(s.fr.put x.dst dx).put y.dst dy,st:=Y}:=by
  intro O h1 U;refine⟨{fr:=s.fr.put y.dst dy,st:=O},by rw[PI.exec_eq,h1]; rfl,?_⟩;rw[PI.exec_eq,U dy];simp only[Ag];rw[bY s.fr dx dy a2]
 unfold PI.step at J E;simp only[a0]at E;have N:∀ d,x.wanted (s.fr.put y.dst d)=x.wanted s.fr:=fun d=>UA a3
 -- by a6 of ba two is carried out
 cases M:x.wanted s.fr with
 |none=>simp[M]at J
 |some bx=>
  cases I:y.wanted s.fr with
  |none=>simp[I]at E
  |some af=>
   cases bx with
   |false=>
    simp only[M,Db,Dv]at J;obtain⟨rfl,rfl⟩:=J
    cases af with
    |false=>
     simp only[I,Db,Dv]at E;obtain⟨rfl,rfl⟩:=E;exact key s.st (by simp[PI.step,I]) (fun d=>by simp[PI.step,N,M])
    |true=>
     simp only[I]at E;rw[MY a1]at E;exact key Y (by simp[PI.step,I,E]) (fun d=>by simp[PI.step,N,M])
   |true=>
    simp only[M]at J
    cases af with
    |false=>
     simp only[I,Db,Dv]at E;obtain⟨rfl,rfl⟩:=E;exact key s.st (by simp[PI.step,I]) (fun d=>by simp only[PI.step,N,M]; rw[MY a3]; exact J)
    |true=>
     simp only[I]at E;rw[MY a1]at E;rcases a4 with c | c | ⟨c1,c2⟩ | ⟨c1,c2⟩
     ·obtain⟨rfl,U⟩:=iZ x.op c J;exact key Y (by simp[PI.step,I,E]) (fun d=>by simp only[PI.step,N,M]; rw[MY a3]; exact U _)
     ·obtain⟨rfl,U⟩:=iZ y.op c E;exact key s.st (by simp only[PI.step,I]; exact U _) (fun d=>by simp only[PI.step,N,M]; rw[MY a3]; exact J)
     ·obtain⟨ks,rfl⟩:=Yj x.op c1 J;rw[iY y.op c2]at E;simp only[DG,Dv,Prod.exists]at E;obtain⟨bb,st',h1,rfl,rfl⟩:=E;obtain⟨qs,rfl⟩:=Yj y.op c2 h1;refine key _ (by simp only[PI.step,I]; exact h1) (fun d=>?_);simp only[PI.step,N,M];rw[MY a3,iY x.op c1,J];simp only[Ag];rw[jr]
     ·obtain⟨ks,rfl⟩:=Yj x.op c1 J;obtain⟨o,ho⟩:=Ybs c2 E;have h1:=ho s.st (by rw[PY]);have U:=ho (lend ks s.st) rfl;rw[E]at U;simp only[Db,Dv,true_and]at U;refine key _ (by simp only[PI.step,I]; exact h1) (fun d=>?_);simp only[PI.step,N,M];rw[MY a3,Yfc x.op c1 J,U]
end Go.Proofs.YtijnglngaogdjaaGreatDoor.PI
