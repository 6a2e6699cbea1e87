/-
  Which pure operations may change places, and that they then come to the same.
  Conditions: none; these are definitions and lemmas.
-/
import Derived.Test.YtijnglngaogdjaaGreatDoorEngK
import Derived.ChangeKeysEq
import Derived.MapKept
import Derived.Laws.CopyRow
import Derived.Laws.IdiomCopy
import Derived.DefersIn
open ByteArray renaming size→CY
open List renaming range→CS,replicate→CQ
namespace Go.Proofs.YtijnglngaogdjaaGreatDoor.PI
open Go Go.RowKit
variable {els:List D}{sz:Nat}{v:Value}{x:D}{e:TypeId}
section
variable {P:Program} {base:Nat} {w:World} {g:Ghost} {st:St}
theorem Els.cast{E:Nat}(h:Els w g st v sz els)(e:sz=E∨els=[]):Els w g st v E els:=by
 rcases e with rfl | rfl
 ·exact h
 ·obtain⟨⟨a,cap,I,_⟩,_,_⟩:=h;exact⟨⟨a,cap,I,fun h=>absurd rfl h⟩,fun i j d J=>by simp[F2]at J,fun e he=>by cases he⟩
theorem jT(I:SR base w g st)(h:Hh st x=some (sz,els))(E:RepV w g st x v):Els w g st v sz els∨∃ s,x=.str s∧sz=1∧els=s.map Dn:=by
 unfold Hh at h
 split at h
 ·simp only[Db,Dx]at h;obtain⟨rfl,rfl⟩:=h;exact .inl (Vt E)
 ·exact .inl (gK I h E).1
 ·rename_i key off n U ag
  split at h
  ·rename_i M he
   split at h
   ·rename_i J;simp only[Db,Dx]at h;obtain⟨rfl,rfl⟩:=h;exact .inl (yJ I he E (Ag.1 J)).1
   ·cases h
  ·cases h
 ·grind
 ·cases h
theorem Yvp(U:SR base w g st){E:Nat}(h:Hh st x=some (E,els))(J:RepV w g st x v)(I:E=sz∨els=[]) :
  ∃ ns,News w g st P v sz els ns:=by
 rcases jT U h J with V | ⟨s,rfl,rfl,rfl⟩
 ·exact fF (V.cast I)
 ·obtain rfl:=MB J;rcases I with rfl | M
  ·exact yRo s
  ·simp at M; subst M;have e:CY ⟨([]:List UInt8).toArray⟩=0:=rfl;exact⟨[],by simp,by simp,fun i j d Y=>by simp[F2]at Y,⟨by simp[Builtin.lenOf,e],by simp[Builtin.lenOf,e]⟩,⟨by simp[Builtin.firstCells],by simp[Builtin.firstCells]⟩⟩
theorem yZz(J:SR base w g st)(h:Hh st x=some (sz,els))(M:RepV w g st x v):(∀ e∈els,e.cells.length=sz)∧∀ i j d,F2 els i j=some d→d.pure1=true:=by
 rcases jT J h M with I | ⟨s,rfl,rfl,rfl⟩
 ·exact⟨I.len,I.pure⟩
 ·refine⟨fun e he=>?_,fun i j d U=>?_⟩
  ·simp only[AU]at he;obtain⟨b,_,rfl⟩:=he;rfl
  ·obtain⟨e,he,E⟩:=Iw U;simp only[AD,DH]at he;obtain⟨b,_,rfl⟩:=he
   cases j with
   |zero=>simp[Dn,D.cells]at E; subst E; rfl
   |succ j=>simp[Dn,D.cells]at E
theorem fQ(w:World)(o:Go.Obj):(w.drew.alloc o).heap[w.heap.size]?=some o:=by
 show(w.heap.push o)[w.heap.size]?=_
 simp
theorem sZ{E:List D}{os ns zs:List Value}(aa:os.length=E.length*sz)
  (J:∀ (i j:Nat) d,F2 E i j=some d→∃ u,os[i*sz+j]?=some u∧RepV w g st d u) (hn:∀ (i j:Nat) d,F2 els i j=some d→∃ u,ns[i*sz+j]?=some u∧RepV w g st d u) (ab:ns.length=els.length*sz) :
  ∀ (i j:Nat) d,F2 (E++els) i j=some d→∃ u,(os++ns++zs)[i*sz+j]?=some u∧RepV w g st d u:=by
 intro i j d M;obtain⟨e,he,I⟩:=Iw M
 by_cases U:i<E.length
 ·rw[At U]at he;obtain⟨u,V,Y⟩:=J i j d (HU he I);grind
 ·rw[AM (by omega)]at he;obtain⟨u,V,Y⟩:=hn (i - E.length) j d (HU he I);have h5:i*sz=E.length*sz+(i - E.length)*sz:=by rw[← A0]; congr 1; omega
  grind
theorem Ymu(hS:SR base w g st){t tx ty:TypeId}{i:TypeInfo}{z:Value}{bytes:Nat}{s d:D}{vs vx:Value}{st':St}(ht:P.underlying t=some (.slice e))(a7:(∃ e',P.underlying tx=some (.slice e'))∨P.underlying tx=some .string)
  (hi:P.info? e=some i) (hz:i.zero=some z) (c7:i.size=sz) (c8:i.bytes=bytes) (cb:z.cells.size=sz) (h:Ek st sz bytes s x=some (d,st')) (ad:RepV w g st s vs) (cc:RepV w g st x vx) :
  RunsTo P base w g st (Builtin.append_ #[t,tx] ty #[vs,vx]) d st':=by
 subst c7; subst c8;unfold Ek at h
 split at h
 ·cases h
 rename_i c9 xs hx
 split at h
 ·cases h
 rename_i hc;simp only[Bb,AS,Bool.or_eq_false_iff,beq_eq_false_iff_ne,List.isEmpty_eq_false_iff,beq_iff_eq,not_or,not_and,ne_eq]at hc;have h0:0<i.size:=by omega
 have dc:c9=i.size∨xs=[]:=by
  grind
 obtain⟨ns,U⟩:=Yvp (P:=P) hS hx cc dc;obtain⟨kd,cd⟩:=yZz hS hx cc
 have hf:∀ e∈xs,e.cells.length=i.size:=by
  grind
 split at h
 ·
  rename_i key tot off len
  split at h
  case h_2=>cases h
  rename_i o ho
  split at h
  case isFalse=>cases h
  rename_i V;simp only[Ac,beq_iff_eq,decide_eq_true_eq]at V;obtain⟨⟨⟨⟨⟨⟨M,ae⟩,bc⟩,rfl⟩,hlen⟩,ab⟩,cf⟩:=V;simp only[Db,Dx]at h;obtain⟨rfl,rfl⟩:=h;obtain⟨E,h1,h2,h3,rfl,h5⟩:=T7 (by simp[E2,ho,M,bc]) ad;obtain rfl:E=o:=Az (h1.symm.trans ho);subst hlen;subst bc;obtain⟨C,e',hb,d9,hg,df,hC,bd⟩:=hS.blk key E ho (M7 M);rw[M]at hC;simp only[if_true]at hC;rw[Cc,Nat.sub_zero];have dg:key<st.length:=(Ab.1 ho).1
  have b6:∀ (C':Array Value),(∀ (I j:Nat) d,F2 (E.els++xs) I j=some d→∃ u,C'[I*E.sz+j]?=some u∧RepV w g st d u)→
    ∀ (I j:Nat) d,F2 (E.els++xs) I j=some d→(E.row=true→d.pure1=true)∧∃ u,C'[I*E.sz+j]?=some u∧RepV w g st d u:=by
   intro C' dh I j d J;refine⟨fun _=>?_,dh I j d J⟩
   by_cases h6:I<E.els.length
   ·rw[fS h6]at J;grind
   ·obtain⟨e1,Y,a4⟩:=Iw J;rw[AM (by omega)]at Y;exact cd _ _ _ (HU Y a4)
  have ch:∀ y∈E.els++xs,y.cells.length=E.sz:=by
   grind
  have be:∀ (B c:Nat) (w':World) (C':Array Value) (ce:TypeId),((B=g.β key∧c=g.γ key)∨(w.heap.size≤B∧E.els.length<(E.els++xs).length∧E.row=true))→Beside w w'→(∀ b,b<w.heap.size→b≠B→w'.heap[b]?=w.heap[b]?)→
    w'.heap[B]?=some (.cells C' ce (0,0))→(B=g.β key→∀ y,g.Im (g.β key) y→C'[y]?=C[y]?)→C'.size=c*E.sz→(E.els++xs).length≤c→c≤maxLen→
    (∀ (I j:Nat) d,F2 (E.els++xs) I j=some d→∃ u,C'[I*E.sz+j]?=some u∧RepV w g st d u)→
    (Builtin.append_ #[t,tx] ty #[.slice (some ⟨g.β key,0,none⟩) E.els.length (g.γ key),vx]).run P w=.ok (.slice (some ⟨B,0,none⟩) (E.els.length+xs.length) c) w'→
    RunsTo P base w g st (Builtin.append_ #[t,tx] ty #[.slice (some ⟨g.β key,0,none⟩) E.els.length (g.γ key),vx]) (.row key (E.els.length+xs.length) 0 (E.els.length+xs.length)) (st.set key {E with els:=E.els++xs}):=by
   intro B c w' C' ce hB c0 b7 c1 d0 b8 aa d2 b9 c2;have bf:=SR.update (o':={E with els:=E.els++xs}) hS ho (M7 M) hb hB rfl rfl (by simp) rfl ch c0 b7 c1 d0 (by rw[M]; simp only[if_true]; exact⟨b8,aa,d2⟩) (b6 C' b9);refine⟨_,_,_,c2,bf,?_⟩;refine .row _ _ _ _ {E with els:=E.els++xs} _ rfl (by simp[dg]) M (by simp) fun _=>⟨?_,by omega⟩;simp[Iu]
  by_cases ah:E.els.length+xs.length≤g.γ key
  ·have bg:E.els.length*i.size+ns.length≤C.size:=by
    rw[U.len,hC.1,ae,← A0]; exact AR _ ah
   -- a8 c3 type is a8 c4 own,or it ka not d3: a8 store looks at a8 cells alone
   have d4:(Builtin.append_ #[t,tx] ty #[.slice (some ⟨g.β key,0,none⟩) E.els.length (g.γ key),vx]).run P w=.ok (.slice (some ⟨g.β key,0,none⟩) (E.els.length+xs.length) (g.γ key)) (w.setRow (g.β key) (C.toList.take (E.els.length*i.size)++ns++C.toList.drop (E.els.length*i.size+ns.length)).toArray):=
    Yqv ht a7 hi hb U ah bg
   refine be (g.β key) (g.γ key) _ _ e' (.inl ⟨rfl,rfl⟩) (UP w _ _) (fun b _ bh=>setRow_other w _ _ _ (by omega)) (setRow_heap w _ C _ e' _ hb) ?_ ?_ (by simpa using ah) hC.2.2 ?_ d4
   ·intro _ y hy;have:=(hS.dis key E y ho hy).2;grind
   ·grind
   ·intro I j d J;rw[UI bg,U.len,ae];obtain⟨e1,Y,a4⟩:=Iw J
    have hj:j<i.size:=by
     grind
    by_cases h6:I<E.els.length
    ·rw[fS h6]at J;have:(I+1)*i.size≤E.els.length*i.size:=AR _ h6;grind
    ·rw[AM (by omega)]at Y;have h7:I - E.els.length<xs.length:=(Ab.1 Y).1;have h8:I*i.size=E.els.length*i.size+(I - E.els.length)*i.size:=by rw[← A0]; congr 1; omega
     have h9:(I - E.els.length+1)*i.size≤xs.length*i.size:=AR _ h7;rw[A0,BA]at h9;rw[if_pos (by omega),show I*i.size+j - E.els.length*i.size=(I - E.els.length)*i.size+j by omega];exact U.rep _ _ _ (HU Y a4)
  ·have hE:Els w g st (.slice (some ⟨g.β key,0,none⟩) E.els.length (g.γ key)) i.size E.els:=by
    refine⟨⟨_,_,rfl,fun _=>⟨_,_,rfl,h0,?_⟩⟩,fun I j d J=>(bd I j d J).1 M,fun y hy=>by rw[← ae]; exact df y hy⟩;intro I j d J;obtain⟨hp,u,h6,h7⟩:=bd I j d J;refine⟨u,?_,h7,h7.oneCell (Rb (hp M))⟩;simp only[World.cell?,hb];grind
   obtain⟨os,hO⟩:=fF (P:=P) hE;have a1:=pG (ty:=ty) ht a7 hi hz U hO rfl (by omega) (by omega) (sY (by omega) ab);have b2:=grownCap_ge w (E.els.length+xs.length) (g.γ key) e;refine be w.heap.size _ (w.drew.alloc (.cells (os.toArray++ns.toArray++Builtin.zeroCells z.cells (grownCap w (E.els.length+xs.length) (g.γ key) e - (E.els.length+xs.length))) e)) _ e (.inr ⟨Ax _,by simp; omega,M⟩) ⟨rfl,rfl,rfl,by simp⟩ ?_ (fQ w _) (fun e1=>by have:=hS.lt ho; omega) ?_ (by simpa using b2) (grownCap_le_maxLen w _ _ e (by unfold maxLen; omega)) ?_ a1
   ·intro b b3 _; exact QN w _ b b3
   ·simp only[Array.size_append,Cx,hO.len,U.len,size_zeroCells,cb,ae];rw[← A0,← A0]
    congr 1
    omega
   ·intro I j d J;have:=sZ (zs:=(Builtin.zeroCells z.cells (grownCap w (E.els.length+xs.length) (g.γ key) e - (E.els.length+xs.length))).toList) hO.len hO.rep U.rep U.len I j d J;grind
 ·
  rename_i ke els
  split at h
  ·rename_i he;simp only[BJ]at he;subst he;simp only[Db,Dx]at h;obtain⟨rfl,rfl⟩:=h;refine .still hS ?_ ad;obtain⟨⟨a,cap,rfl,_⟩,_,_⟩:=Vt ad
   have aa:els.length≤cap:=by
    cases ad with
    |slcE=>simp
    |slc _ _ b off cap _ val h1 h2 h3 d5 h4=>exact h4
   have d7:ns=[]:=AQ (by simpa using U.len);have h1:=U.lenOf.1;have h2:=U.first.1
   subst d7;simp only[As]at h1 h2;rcases a7 with⟨e',J⟩ | J
   ·cases a <;> simp[Builtin.append_,run_underlying ht,sizeOf,typeInfo,hi,run_underlying J,h1,aa,h2,storeCells]
   ·cases a <;> simp[Builtin.append_,run_underlying ht,sizeOf,typeInfo,hi,run_underlying J,h1,aa,h2,storeCells]
  ·rename_i bh;simp only[BJ]at bh;have ha:0<xs.length:=List.length_pos_iff.2 bh
   split at h
   case isFalse=>cases h
   rename_i V;simp only[Ac,decide_eq_true_eq,Bb,beq_iff_eq,BJ]at V;obtain⟨⟨d8,ab⟩,cf⟩:=V;simp only[Db,Dx]at h;obtain⟨rfl,rfl⟩:=h;have hE:=(Vt ad).cast d8;obtain⟨os,hO⟩:=fF (P:=P) hE;obtain⟨⟨a,cap,rfl,_⟩,kf,kg⟩:=hE
   have aa:cap=els.length:=by
    cases ad with
    |slcE _ _ _ _ h1=>exact h1 rfl
    |slc _ _ b off cap _ val h1 h2 h3 d5 h4 h5=>exact h5 rfl
   subst aa;have a1:=pG (ty:=ty) ht a7 hi hz U hO rfl (by omega) (by omega) (sY (by omega) ab);have b2:=grownCap_ge w (els.length+xs.length) els.length e
   have bf:=SR.push (o:={row:=true,sz:=i.size,els:=els++xs,lent:=false}) (c:=grownCap w (els.length+xs.length) els.length e) (w':=w.drew.alloc (.cells (os.toArray++ns.toArray++Builtin.zeroCells z.cells (grownCap w (els.length+xs.length) els.length e - (els.length+xs.length))) e)) hS
    ⟨rfl,rfl,rfl,by simp⟩ (fun b b3=>QN w _ b b3) (fQ w _) rfl h0 (by
     intro y hy;rcases AL.1 hy with hy | hy
     ·grind
     ·grind) (by
     simp only[if_true,Ad];refine⟨?_,b2,grownCap_le_maxLen w _ _ e (by unfold maxLen; omega)⟩;simp only[Array.size_append,Cx,hO.len,U.len,size_zeroCells,cb];rw[← A0,← A0]
     congr 1
     omega) (by
     intro I j d J;refine⟨fun _=>?_,?_⟩
     ·by_cases h6:I<els.length
      ·rw[fS h6]at J;grind
      ·obtain⟨e1,Y,a4⟩:=Iw J;rw[AM (by omega)]at Y;exact cd _ _ _ (HU Y a4)
     ·obtain⟨u,h6,h7⟩:=sZ (zs:=(Builtin.zeroCells z.cells (grownCap w (els.length+xs.length) els.length e - (els.length+xs.length))).toList) hO.len hO.rep U.rep U.len I j d J;grind)
   refine⟨_,_,_,a1,bf,?_⟩;refine .row _ _ _ _ {row:=true,sz:=i.size,els:=els++xs,lent:=false} _ rfl (by simp) rfl (by simp) fun _=>⟨?_,by omega⟩;simp[Iu]
 ·cases h
theorem Yjb(hS:SR base w g st){E dst:TypeId}{s:List UInt8}(hs:P.underlying E=some .string)(hd:P.underlying dst=some (.slice e))(he:P.underlying e=some (.int .u8)) :
  RunsTo P base w g st (convert E dst (.string ⟨s.toArray⟩)) (.slc 1 (s.map Dn) false) st:=by
 have I:=run_bytes_of_string (P:=P) w E dst e ⟨s.toArray⟩ hs hd he;have V:CY ⟨s.toArray⟩=s.length:=by simp[CY]
 have J:=grownCap_ge w (CY ⟨s.toArray⟩) 0 e;generalize hC:bytesRow ⟨s.toArray⟩ (grownCap w (CY ⟨s.toArray⟩) 0 e)=C at I;have Y:=hS.fresh (w':=w.drew.alloc (.cells C e (C.size,C.size+1))) (C:=C) (e:=e) (fz:=(C.size,C.size+1)) rfl ⟨rfl,rfl,rfl,by simp⟩;refine⟨_,_,_,I,Y,?_⟩;rw[V]at J ⊢;have hl:s.length=(s.map Dn).length:=by simp
 conv=>rhs; rw[hl]
 refine RepV.slc_mk Nat.one_pos (fun x M=>by simp only[AU]at M; obtain⟨b,_,rfl⟩:=M; rfl) (by simpa using J) (fun h=>by cases h) ?_;intro i j d aa;obtain⟨x,M,U⟩:=Iw aa;simp only[AD,DH]at M;obtain⟨b,hb,rfl⟩:=M
 cases j with
 |succ j=>simp[Dn,D.cells]at U
 |zero=>
  simp only[Dn,D.cells,AF,Db]at U;subst U;have hi:i<s.length:=(Ab.1 hb).1
  have ab:C[i]?=some (.int .u8 b.toNat):=by
   rw[← hC];unfold bytesRow;grind
  have a1:i<C.size:=(AG.1 ab).1;refine⟨rfl,.inr ⟨rfl,by omega⟩,.int .u8 b.toNat,?_,.int _ _⟩;have h2:(w.drew.alloc (.cells C e (C.size,C.size+1))).heap[w.heap.size]?=some (.cells C e (C.size,C.size+1)):=fQ w _;simp only[World.cell?,h2];grind
end
end Go.Proofs.YtijnglngaogdjaaGreatDoor.PI
namespace Go.Proofs.YtijnglngaogdjaaGreatDoor.PI
open Go Go.RowKit
def U4(lf:TypeId→Option (List Nat))(P:Program):List Field→Nat→Option (List Nat)
 |[],_=>some []
 |f::fs,off=>
  match lf f.type,EH P f.type with
  |some l,some _=>
   if f.name≠ "_"∧f.offset=off∧Es P f.type=some l.length∧0<l.length then(U4 lf P fs (off+l.length)).map (l++·)else none
  |_,_=>none
def JA(P:Program):Nat→TypeId→Option (List Nat)
 |0,_=>none
 |d+1,t=>
  match P.underlying t with
  |some (.int _)=>some [0]
  |some .bool=>some [1]
  |some .string=>some [2]
  |some (.array n e)=>
   match JA P d e with
   |some l=>if Es P e=some l.length∧0<l.length then some (CQ n l).flatten else none
   |none=>none
  |some (.struct fs)=>if P.stoodInHeld t then none else U4 (JA P d) P fs.toList 0
  |_=>none
variable {off:Nat}{t:TypeId}{ks:List Nat}
section
variable {P:Program} {w:World} {g:Ghost} {st:St}
def Of(ag:Bool)(vs:List Value):Value:=if ag then .agg vs.toArray else vs.headD undef
theorem Rg:∀ {ks:List Nat} {xs ys:List D} {b:Bool},E0 ks xs ys=some b→xs.length=ks.length∧ys.length=ks.length
 |[],[],[],_,_=>⟨rfl,rfl⟩
 |q::qs,x::xs,y::ys,b,h=>by
  simp only[E0]at h
  split at h
  ·rename_i a b' I E;have:=Rg E;simp[this]
  ·cases h
 |[],[],_::_,_,h=>by simp[E0]at h
 |[],_::_,_,_,h=>by simp[E0]at h
 |_::_,[],_,_,h=>by simp[E0]at h
 |_::_,_::_,[],_,h=>by simp[E0]at h
theorem fN:∀ {E I:List Nat} {xs ys:List D} {b:Bool},E0 (E++I) xs ys=some b→
  ∃ b1 J,E0 E (xs.take E.length) (ys.take E.length)=some b1∧E0 I (xs.drop E.length) (ys.drop E.length)=some J∧b=(b1 && J)
 |[],I,xs,ys,b,h=>⟨true,b,by simp[E0],by simpa using h,by simp⟩
 |q::E,I,x::xs,y::ys,b,h=>by
  simp only[Ak,E0]at h
  split at h
  ·rename_i a b' M U;simp only[Db]at h;obtain⟨b1,J,V,Y,h5⟩:=fN U;refine⟨a && b1,J,by simp[E0,M,V],by simpa using Y,by rw[← h,h5,Bool.and_assoc]⟩
  ·cases h
 |_::_,_,[],_,_,h=>by simp[E0]at h
 |_::_,_,_::_,[],_,h=>by simp[E0]at h
def eM(P:Program)(dd:Nat)(t:TypeId)(ks:List Nat):Prop:=
 ∀ (w:World) (g:Ghost) (st:St) (ag:Bool) (xs ys:List D) (vs us:List Value) (b:Bool),EH P t=some ag→E0 ks xs ys=some b→xs.length=vs.length→ys.length=us.length→
  (∀ (i:Nat) d v,xs[i]?=some d→vs[i]?=some v→RepV w g st d v)→(∀ (i:Nat) d v,ys[i]?=some d→us[i]?=some v→RepV w g st d v)→
  (Op.equalIn dd t (Of ag vs) (Of ag us)).run P w=.ok b w
theorem TR{n:Nat}{ag:Bool}{vs:List Value}(E:EH P t=some ag)(hn:Es P t=some n)(I:ag=false→n=1)(M:off+n≤vs.length) :
  (part t vs.toArray off).run P w=.ok (Of ag ((vs.drop off).take n)) w:=by
 cases ag with
 |true=>
  simp[part,SH E,Mc hn,Of]
 |false=>
  obtain rfl:=I rfl;have J:off<vs.length:=by omega
  simp[part,SH E,J,Of,List.take_one,List.head?_drop]
theorem tn{d:Nat}(h:JA P d t=some ks)(E:EH P t=some false):ks.length=1:=by
 cases d with
 |zero=>cases h
 |succ d=>
  unfold JA at h;unfold EH at E;grind
theorem PR{α:Type}{l:List α}{n i:Nat}{x:α}(h:((l.drop off).take n)[i]?=some x):l[off+i]?=some x:=by
 grind
theorem nC(d dd:Nat)(I:∀ t ks,JA P d t=some ks→eM P dd t ks):∀ (fs:List Field) (off:Nat) (ks:List Nat) (w:World) (g:Ghost) (st:St) (xs ys:List D) (vs us:List Value) (b:Bool),
  U4 (JA P d) P fs off=some ks→E0 ks (xs.drop off) (ys.drop off)=some b→xs.length=vs.length→ys.length=us.length→
  (∀ (i:Nat) d v,xs[i]?=some d→vs[i]?=some v→RepV w g st d v)→(∀ (i:Nat) d v,ys[i]?=some d→us[i]?=some v→RepV w g st d v)→
  (Op.eqFields dd vs.toArray us.toArray fs).run P w=.ok b w
 |[],off,ks,w,g,st,xs,ys,vs,us,b,h,he,hx,hy,rx,ry=>by
  simp[U4]at h; subst h;have:=Rg he
  match U:xs.drop off,V:ys.drop off with
  |[],[]=>rw[U,V]at he; simp[E0]at he; subst he; simp[Op.eqFields]
  |_::_,_=>rw[U]at this; simp at this
  |[],_::_=>rw[V]at this; simp at this
 |f::fs,off,ks,w,g,st,xs,ys,vs,us,b,h,he,hx,hy,rx,ry=>by
  unfold U4 at h
  split at h
  ·rename_i l ag hl E
   split at h
   ·rename_i hc;obtain⟨M,ae,Y,a2⟩:=hc;simp only[DH]at h;obtain⟨ah,a0,rfl⟩:=h;obtain⟨b1,b2,h1,h2,rfl⟩:=fN he;have hlen:=Rg he;simp only[AI,Ad]at hlen;rw[Bx,Bx]at h2;have J:ag=false→l.length=1:=fun e=>tn hl (by rw[E,e]);have p1:=TR (P:=P) (w:=w) (off:=off) E Y J (vs:=vs) (by omega);have p2:=TR (P:=P) (w:=w) (off:=off) E Y J (vs:=us) (by omega)
    have e1:=I f.type l hl w g st ag _ _ ((vs.drop off).take l.length) ((us.drop off).take l.length) b1 E h1 (by simp[hx]) (by simp[hy])
     (fun i d v hd hv=>rx _ d v (PR hd) (PR hv)) (fun i d v hd hv=>ry _ d v (PR hd) (PR hv))
    have ih:=nC d dd I fs (off+l.length) ah w g st xs ys vs us b2 a0 h2 hx hy rx ry;simp only[Op.eqFields,M,ne_eq,not_false_eq_true,if_true,Sem.run_bind,ae,p1,p2,e1,Result.andThen_ok];cases b1
    ·simp
    ·grind
   ·cases h
  ·cases h
theorem yq6(n:Nat)(l:List Nat):(CQ (n+1) l).flatten=l++(CQ n l).flatten:=by
 rfl
theorem vP(Y:Nat){e:TypeId}{l:List Nat}{ag:Bool}(J:eM P Y e l)(I:EH P e=some ag)(M:Es P e=some l.length)(aa:0<l.length)(E:ag=false→l.length=1):∀ (n k:Nat) (w:World) (g:Ghost) (st:St) (xs ys:List D) (vs us:List Value) (b:Bool),
  E0 (CQ n l).flatten (xs.drop (k*l.length)) (ys.drop (k*l.length))=some b→xs.length=vs.length→ys.length=us.length→
  (∀ (i:Nat) d v,xs[i]?=some d→vs[i]?=some v→RepV w g st d v)→(∀ (i:Nat) d v,ys[i]?=some d→us[i]?=some v→RepV w g st d v)→
  (Op.eqItems Y e l.length vs.toArray us.toArray (List.range' k n)).run P w=.ok b w
 |0,k,w,g,st,xs,ys,vs,us,b,he,hx,hy,rx,ry=>by
  simp only[List.replicate_zero,List.flatten_nil]at he;have:=Rg he
  match U:xs.drop (k*l.length),V:ys.drop (k*l.length)with
  |[],[]=>rw[U,V]at he; simp[E0]at he; subst he; simp[Op.eqItems]
  |_::_,_=>rw[U]at this; simp at this
  |[],_::_=>rw[V]at this; simp at this
 |n+1,k,w,g,st,xs,ys,vs,us,b,he,hx,hy,rx,ry=>by
  rw[yq6]at he;obtain⟨b1,b2,h1,h2,rfl⟩:=fN he;have hlen:=Rg he;simp only[AI,Ad]at hlen;rw[Bx,Bx]at h2;have p1:=TR (P:=P) (w:=w) (off:=k*l.length) I M E (vs:=vs) (by omega);have p2:=TR (P:=P) (w:=w) (off:=k*l.length) I M E (vs:=us) (by omega)
  have e1:=J w g st ag _ _ ((vs.drop (k*l.length)).take l.length) ((us.drop (k*l.length)).take l.length) b1 I h1 (by simp[hx]) (by simp[hy])
   (fun i d v hd hv=>rx _ d v (PR hd) (PR hv)) (fun i d v hd hv=>ry _ d v (PR hd) (PR hv))
  have ek:(k+1)*l.length=k*l.length+l.length:=by rw[A0,BA]
  have ih:=vP Y J I M aa E n (k+1) w g st xs ys vs us b2 (by rw[ek]; exact h2) hx hy rx ry;simp only[BX,Op.eqItems,Sem.run_bind,p1,p2,e1,Result.andThen_ok];cases b1
  ·simp
  ·grind
theorem iO:∀ (d:Nat) (t:TypeId) (ks:List Nat),JA P d t=some ks→∀ E,d≤E→eM P E t ks
 |0,_,_,h,_,_=>by cases h
 |d+1,t,ks,h,E,a2=>by
  intro w g st ag xs ys vs us b ha he hx hy rx ry;obtain⟨E,rfl⟩:∃ e,E=e+1:=⟨E - 1,by omega⟩;unfold JA at h;unfold EH at ha;have U:∀ t ks,JA P d t=some ks→eM P E t ks:=fun t ks h=>iO d t ks h E (by omega)
  have single:∀ q,ks=[q]→∃ x y v u,xs=[x]∧ys=[y]∧vs=[v]∧us=[u]∧I3 q x y=some b∧RepV w g st x v∧RepV w g st y u:=by
   intro q hq;subst hq;have hl:=Rg he
   match xs,ys,vs,us,hx,hy,hl with
   |[x],[y],[v],[u],_,_,_=>
    simp only[E0]at he
    split at he
    ·rename_i a b' I h2;simp only[Db]at h2 he;subst h2; subst he;exact⟨x,y,v,u,rfl,rfl,rfl,rfl,by simpa using I,rx 0 x v rfl rfl,ry 0 y u rfl rfl⟩
    ·cases he
  cases hu:P.underlying t with
  |none=>simp[hu]at ha
  |some k=>
   cases k with
   |int k=>
    simp only[hu,Db]at h ha;subst ha;obtain⟨x,y,v,u,rfl,rfl,rfl,rfl,I,r1,V⟩:=single 0 h.symm;unfold I3 at I
    split at I <;> simp_all
    obtain rfl:=Jb r1;obtain rfl:=Jb V;simp only[Of,Al,if_false,List.headD_cons];rw[run_equalIn_int w E t _ k _ _ hu];simp_all
   |bool=>
    simp only[hu,Db]at h ha;subst ha;obtain⟨x,y,v,u,rfl,rfl,rfl,rfl,I,r1,V⟩:=single 1 h.symm;unfold I3 at I
    split at I <;> simp_all
    obtain rfl:=L1 r1;obtain rfl:=L1 V;simp only[Of,Al,if_false,List.headD_cons];rw[run_equalIn_bool w E t _ _ hu];simp_all
   |string=>
    simp only[hu,Db]at h ha;subst ha;obtain⟨x,y,v,u,rfl,rfl,rfl,rfl,I,r1,V⟩:=single 2 h.symm;unfold I3 at I
    split at I <;> simp_all
    obtain rfl:=MB r1;obtain rfl:=MB V;simp only[Of,Al,if_false,List.headD_cons];rw[run_equalIn_string w E t _ _ hu,kA,kA];simp_all
   |array n e=>
    simp only[hu,Db]at h ha;subst ha
    split at h
    ·rename_i l hl
     split at h
     ·rename_i hc;simp only[Db]at h; subst h;obtain⟨J,ad⟩:=hc
      have hi:∃ i,P.info? e=some i:=by
       unfold Es at J
       cases hi:P.info? e with
       |none=>simp[hi]at J
       |some i=>exact⟨i,rfl⟩
      obtain⟨i,hi⟩:=hi
      have Y:P.cellsOf e=l.length:=by
       unfold Es at J;unfold Program.cellsOf;grind
      have M:∃ ag,EH P e=some ag:=by
       cases d with
       |zero=>cases hl
       |succ d=>
        unfold JA at hl;unfold EH;grind
      obtain⟨ag,M⟩:=M;have ae:ag=false→l.length=1:=fun e'=>tn hl (by rw[M,e']);have:=vP E (U e l hl) M J ad ae n 0 w g st xs ys vs us b (by simpa using he) hx hy rx ry;simp only[Of,if_true];rw[run_equalIn_array w E _ _ hu hi,Y,Bm];exact this
     ·cases h
    ·cases h
   |struct fs=>
    simp only[hu,Db]at h ha;subst ha
    split at h
    ·cases h
    ·rename_i ah;have hf:P.fieldsOf t=fs:=by simp[Program.fieldsOf,hu]
     have:=nC d E U fs.toList 0 ks w g st xs ys vs us b h (by simpa using he) hx hy rx ry;simp only[Of,if_true];rw[run_equalIn_struct w E t _ _ (by rw[hf]; exact hu) (by simpa using ah),hf];exact this
   |_=>simp[hu]at h
theorem Ymx{d:Nat}{E:Bool}{x y r:D}{vx vy:Value}(hl:JA P d t=some ks)(I:d≤10000)(J:EH P t=some true)(h:GU ks E x y=some r)(M:RepV w g st x vx)(U:RepV w g st y vy) :
  (∃ v,(binOp (if E then .neq else .eql) t vx vy).run P w=.ok v w∧RepV w g st r v)∧∃ xs ys,vx=.agg xs∧vy=.agg ys:=by
 unfold GU at h
 split at h
 ·rename_i xs ys;simp only[DH]at h;obtain⟨b,hb,rfl⟩:=h
  cases M with
  |agg _ vs V Y=>
   cases U with
   |agg _ us h3 h4=>
    refine⟨?_,_,_,rfl,rfl⟩;have e:(Op.equal t (.agg vs.toArray) (.agg us.toArray)).run P w=.ok b w:=iO d t ks hl 10000 I w g st true xs ys vs us b J hb V h3 Y h4;refine⟨.bool (b != E),?_,.bool _⟩;cases E <;> simp[binOp,e]
 ·cases h
end
end Go.Proofs.YtijnglngaogdjaaGreatDoor.PI
namespace Go.Proofs.YtijnglngaogdjaaGreatDoor.PI
open Go Go.RowKit
def N9(P:Program)(kt:TypeId):Option (Nat×List Nat):=
 match P.underlying kt with
 |some (.int _)=>some (2,[0])
 |some .bool=>some (2,[1])
 |some .string=>some (2,[2])
 |some (.array n e)=>match P.underlying e,Es P e with
  |some (.int _),some 1=>if 2≤n then some (n+1,CQ n 0)else none
  |_,_=>none
 |_=>none
def Ro(P:Program)(t:TypeId):Option (TypeId×TypeId×Nat×List Nat):=
 match P.underlying t with
 |some (.map kt et)=>match N9 P kt,Es P et,EH P et with
  |some (sz,ks),some 1,some false=>if sz=1000003 then none else some (kt,et,sz,ks)
  |_,_,_=>none
 |_=>none
variable {ks:List Nat}{sz:Nat}{et kt t:TypeId}
theorem tu{P:Program}(h:Ro P t=some (kt,et,sz,ks)):P.underlying t=some (.map kt et)∧N9 P kt=some (sz,ks)∧sz≠1000003∧Es P et=some 1∧EH P et=some false:=by
 unfold Ro at h;grind
variable {d k m r x y zd:D}{key q:Nat}{b ok:Bool}{v vd vk vm vs vx vy:Value}{kk:IntKind}{dT e elem sT ty:TypeId}{es:List MapEntry}{els:List D}{st':St}
section
variable {P:Program} {base:Nat} {w:World} {g:Ghost} {st:St}
theorem nj(h:I3 q x y=some true):x=y:=by
 unfold I3 at h;grind
def Qn:D→Bool
 |.int _ _ | .bool _ | .str _=>true
 |_=>false
theorem Zw(h:I3 q x y=some b):Qn x=true∧Qn y=true:=by
 unfold I3 at h
 split at h
 ·exact⟨rfl,rfl⟩
 ·exact⟨rfl,rfl⟩
 ·exact⟨rfl,rfl⟩
 ·cases h
theorem wa:∀ {ks:List Nat} {xs ys:List D},E0 ks xs ys=some true→xs=ys
 |[],[],[],_=>rfl
 |q::qs,x::xs,y::ys,h=>by
  simp only[E0]at h
  split at h
  ·rename_i a b E I;simp only[Db,Ac]at h;obtain⟨rfl,rfl⟩:=h;rw[nj E,wa I]
  ·cases h
 |[],[],_::_,h=>by simp[E0]at h
 |[],_::_,_,h=>by simp[E0]at h
 |_::_,[],_,h=>by simp[E0]at h
 |_::_,_::_,[],h=>by simp[E0]at h
theorem fB:∀ {ks:List Nat} {xs ys:List D} {b:Bool},E0 ks xs ys=some b→∀ x∈xs,Qn x=true
 |[],[],[],_,_=>fun x I=>by cases I
 |q::qs,x::xs,y::ys,b,h=>by
  simp only[E0]at h
  split at h
  ·rename_i a b J M;intro z E;rcases Av.1 E with rfl | E
   ·exact(Zw J).1
   ·exact fB M z E
  ·cases h
 |[],[],_::_,_,h=>by simp[E0]at h
 |[],_::_,_,_,h=>by simp[E0]at h
 |_::_,[],_,_,h=>by simp[E0]at h
 |_::_,_::_,[],_,h=>by simp[E0]at h
theorem vA{u:Value}(E:Qn d=true)(h:RepV w g st d v)(I:RepV w g st d u):v=u:=by
 cases h <;> cases I <;> first | rfl | (simp[Qn]at E; done)
theorem yY9(h:Iz sz ks x y=some true)(I:RepV w g st x vx)(J:RepV w g st y vy):vx=vy:=by
 unfold Iz at h
 split at h
 ·split at h
  ·obtain rfl:=nj h;exact vA (Zw h).1 I J
  ·cases h
 ·split at h
  ·rename_i xs ys;have M:=fB h;obtain rfl:=wa h
   cases I with
   |agg _ vs h1 U=>
    cases J with
    |agg _ us h3 V=>
     have:vs=us:=by
      apply Bg;intro i
      cases hv:vs[i]? with
      |none=>rw[BV]at hv; exact(BV.2 (by omega)).symm
      |some v=>
       have Y:=(Ab.1 hv).1;have E:xs[i]?=some xs[i]:=Ah (by omega);have hu:us[i]?=some us[i]:=Ah (by omega);rw[hu,vA (M _ (Aj E)) (U i _ v E hv) (V i _ _ E hu)]
     rw[this]
  ·cases h
theorem nH(E:Qn d=true)(h:RepV w g st d v)(n:Nat):Instr.sameBits n v v=true:=by
 cases h <;> first
  |(simp[Instr.sameBits]; done)
  |(simp[Qn]at E; done)
  |(unfold Instr.sameBits; exact(MapKept.bytes_beq _ _).2 rfl)
theorem yR2(h:Iz sz ks x y=some b)(E:RepV w g st x vx):Instr.sameBits 10000 vx vx=true:=by
 unfold Iz at h
 split at h
 ·split at h
  ·exact nH (Zw h).1 E _
  ·cases h
 ·split at h
  ·rename_i xs ys;have M:=fB h
   cases E with
   |agg _ vs h1 U=>
    show(vs.toArray.size == vs.toArray.size && (vs.toArray.toList.zip vs.toArray.toList).all fun(x,y)=>Instr.sameBits 9999 x y)=true
    rw[Ac];refine⟨by simp,?_⟩;rw[Ag];rintro⟨u,V⟩ hu
    have I:u=V:=by
     have:=AZ.1 hu;grind
    subst I;have hm:u∈vs:=(List.of_mem_zip hu).1;obtain⟨i,hi⟩:=AZ.1 hm;have Y:=(Ab.1 hi).1;have J:xs[i]?=some xs[i]:=Ah (by omega);exact nH (M _ (Aj J)) (U i _ u J hi) _
  ·cases h
theorem yNw(h:Iz sz ks x y=some b)(E:RepV w g st x vx)(w1:World):(Instr.keyThatStays vx vx).run P w1=.ok vx w1:=by
 simp[Instr.keyThatStays,yR2 h E]
theorem nB(E:P.underlying e=some (.int kk))(I:Bool)(n:Nat)(v:Value):(Instr.checkKey I (n+1) e v).run P w=.ok () w:=by
 unfold Instr.checkKey;simp only[Sem.run_bind,run_underlying E,Result.andThen];rfl
theorem fI(hk:N9 P kt=some (sz,ks))(h:Iz sz ks x y=some b)(V:RepV w g st x v)(M:Bool):(Instr.checkKey M 10000 kt v).run P w=.ok () w:=by
 unfold N9 at hk
 split at hk
 ·rename_i hu;exact nB hu M 9999 v
 ·rename_i hu;unfold Instr.checkKey;simp only[Sem.run_bind,run_underlying hu,Result.andThen];rfl
 ·rename_i hu;unfold Instr.checkKey;simp only[Sem.run_bind,run_underlying hu,Result.andThen];rfl
 ·rename_i n e hu
  split at hk
  ·rename_i kk I J
   split at hk
   ·rename_i h2;simp only[Db,Dx]at hk;obtain⟨rfl,rfl⟩:=hk;unfold Iz at h;rw[if_neg (by omega)]at h
    split at h
    ·rename_i xs ys;have hl:=(Rg h).1;rw[BQ]at hl
     cases V with
     |agg _ vs h3 h4=>
      have U:EH P e=some false:=by unfold EH; rw[I]
      unfold Instr.checkKey;simp only[Sem.run_bind,run_underlying hu,Result.andThen_ok];simp only[Std.Legacy.Range.forIn_eq_forIn_range',Std.Legacy.Range.size,Nat.sub_zero,Nat.add_one_sub_one,Nat.div_one];have each:∀ i∈List.range' 0 n,i<vs.length:=fun i hi=>by rw[List.mem_range'_1]at hi; omega
      generalize List.range' 0 n=is at each
      refine(?_:((forIn is PUnit.unit fun i Y=>do
       let E ← sizeOf e
       let E ← part e vs.toArray (i*E)
       Instr.checkKey M 9999 e E
       pure (ForInStep.yield PUnit.unit):Sem PUnit).run P w).andThen _=_)
      induction is with
      |nil=>simp
      |cons j is ih=>
       have hj:=each j (by simp);have p1:=TR (P:=P) (w:=w) (vs:=vs) (off:=j*1) U J (fun _=>rfl) (by omega);simp only[List.forIn_cons,Sem.run_bind,Mc J,Result.andThen_ok,p1,nB I,Sem.run_pure];simp_all
    ·cases h
   ·cases hk
  ·cases hk
 ·cases hk
theorem wi{E:TypeDesc}(M:(∃ kk,E=.int kk∧q=0)∨(E=.bool∧q=1)∨(E=.string∧q=2))(h:I3 q x y=some b)(I:RepV w g st x vx)(J:RepV w g st y vy):Instr.sameNow E vx vy=some b:=by
 rcases M with⟨kk,rfl,rfl⟩ | ⟨rfl,rfl⟩ | ⟨rfl,rfl⟩
 ·unfold I3 at h
  split at h <;> simp_all
  obtain rfl:=Jb I;obtain rfl:=Jb J;simp_all [Instr.sameNow]
 ·unfold I3 at h
  split at h <;> simp_all
  obtain rfl:=L1 I;obtain rfl:=L1 J;simp_all [Instr.sameNow]
 ·unfold I3 at h
  split at h <;> simp_all
  obtain rfl:=MB I;obtain rfl:=MB J;simp only[Instr.sameNow,Db];rw[← h,B5,MapKept.bytes_beq];simp
def Ents(w:World)(g:Ghost)(st:St)(sz:Nat)(els:List D)(es:List MapEntry):Prop:=
 es.length=els.length∧∀ (i:Nat) (e:MapEntry) (el:D),es[i]?=some e→els[i]?=some el→RepV w g st (Gc sz el) e.key∧RepV w g st (HN sz el) e.val
theorem Ents.tail{I:D}{e:MapEntry}(h:Ents w g st sz (I::els) (e::es)):Ents w g st sz els es:=
 ⟨by have:=h.1; simp only[An]at this; omega,fun i J E M U=>h.2 (i+1) J E (by simpa using M) (by simpa using U)⟩
theorem vY{E:TypeDesc}{q:Nat}{k:D}{M:Value}(U:(∃ kk,E=.int kk∧q=0)∨(E=.bool∧q=1)∨(E=.string∧q=2))(hk:RepV w g st k M):∀ (els:List D) (es:List MapEntry) (i:Nat) (r:Option Nat),Ents w g st 2 els es→Lu 2 [q] k els i=some r→
  (r=none∧Instr.findNow E M es i=some none)∨∃ j e,r=some (i+j)∧es[j]?=some e∧Instr.findNow E M es i=some (some (i+j,e.val))∧∃ el,els[j]?=some el∧Iz 2 [q] k (Gc 2 el)=some true
 |[],es,i,r,h,hm=>by
  obtain rfl:es=[]:=AQ h.1;simp only[Lu,Db]at hm;exact .inl ⟨hm.symm,rfl⟩
 |el::els,[],i,r,h,hm=>by have:=h.1; simp at this
 |el::els,e::es,i,r,h,hm=>by
  have h0:=(h.2 0 e el rfl rfl).1;simp only[Lu]at hm
  split at hm
  ·rename_i I;simp only[Db]at hm;subst hm;have J:=wi U (show I3 q k (Gc 2 el)=some true from I) hk h0;exact .inr ⟨0,e,rfl,rfl,by simp only[Instr.findNow,J,B1],el,rfl,I⟩
  ·rename_i I;have J:=wi U (show I3 q k (Gc 2 el)=some false from I) hk h0;rcases vY U hk els es (i+1) r h.tail hm with⟨V,Y⟩ | ⟨j,e',V,Y,h3,ab,h4,h5⟩
   ·exact .inl ⟨V,by simp only[Instr.findNow,J,Y]⟩
   ·refine .inr ⟨j+1,e',by rw[V]; congr 1; omega,by simpa using Y,?_,ab,by simpa using h4,h5⟩;simp only[Instr.findNow,J,h3]
    congr 3; omega
  ·cases hm
theorem nN{kt:TypeId}{sz:Nat}{ks:List Nat}{k:D}{M:Value}(U:sz≠2)(hl:JA P 100 kt=some ks)(ha:EH P kt=some true)(hk:RepV w g st k M):∀ (els:List D) (es:List MapEntry) (i:Nat) (r:Option Nat),Ents w g st sz els es→Lu sz ks k els i=some r→
  (r=none∧(Instr.findAsking kt M es i).run P w=.ok none w)∨∃ j e,r=some (i+j)∧es[j]?=some e∧(Instr.findAsking kt M es i).run P w=.ok (some (i+j,e.val)) w∧∃ el,els[j]?=some el∧Iz sz ks k (Gc sz el)=some true
 |[],es,i,r,h,hm=>by
  obtain rfl:es=[]:=AQ h.1;simp only[Lu,Db]at hm;exact .inl ⟨hm.symm,rfl⟩
 |el::els,[],i,r,h,hm=>by have:=h.1; simp at this
 |el::els,e::es,i,r,h,hm=>by
  have V:=(h.2 0 e el rfl rfl).1
  have he:∀ b,Iz sz ks k (Gc sz el)=some b→(Op.equal kt M e.key).run P w=.ok b w:=fun b hb=>by
   unfold Iz at hb;rw[if_neg U]at hb
   split at hb
   ·rename_i xs ys ac;rw[ac]at V
    cases hk with
    |agg _ vs E I=>
     generalize e.key=ek at V
     cases V with
     |agg _ us Y h4=>exact iO 100 kt ks hl 10000 (by omega) w g st true xs ys vs us b ha hb E Y I h4
   ·cases hb
  simp only[Lu]at hm
  split at hm
  ·rename_i J;simp only[Db]at hm;subst hm;exact .inr ⟨0,e,rfl,rfl,by simp[Instr.findAsking,he true J],el,rfl,J⟩
  ·rename_i J;rcases nN U hl ha hk els es (i+1) r h.tail hm with⟨E,I⟩ | ⟨j,e',E,I,Y,ad,h4,h5⟩
   ·exact .inl ⟨E,by simp[Instr.findAsking,he false J,I]⟩
   ·refine .inr ⟨j+1,e',by rw[E]; congr 1; omega,by simpa using I,?_,ad,by simpa using h4,h5⟩;simp[Instr.findAsking,he false J,Y];omega
  ·cases hm
theorem yRz{n:Nat}(J:P.underlying kt=some (.array n e))(E:P.underlying e=some (.int kk))(I:Es P e=some 1):JA P 100 kt=some (CQ n 0):=by
 have M:JA P 99 e=some [0]:=by unfold JA; rw[E]
 unfold JA;simp_all
theorem Zg{I:Value}{r:Option Nat}(E:N9 P kt=some (sz,ks))(hk:RepV w g st k I)(V:Ents w g st sz els es)(hm:Lu sz ks k els 0=some r) :
  (r=none∧(Instr.findKey kt I es).run P w=.ok none w)∨∃ j e,r=some j∧es[j]?=some e∧(Instr.findKey kt I es).run P w=.ok (some (j,e.val)) w∧∃ el,els[j]?=some el∧Iz sz ks k (Gc sz el)=some true:=by
 have one:∀ (desc:TypeDesc) (q:Nat),P.underlying kt=some desc→(sz,ks)=(2,[q])→((∃ kk,desc=.int kk∧q=0)∨(desc=.bool∧q=1)∨(desc=.string∧q=2))→
   (r=none∧(Instr.findKey kt I es).run P w=.ok none w)∨∃ j e,r=some j∧es[j]?=some e∧(Instr.findKey kt I es).run P w=.ok (some (j,e.val)) w∧∃ el,els[j]?=some el∧Iz sz ks k (Gc sz el)=some true:=by
  intro desc q hu he hd;simp only[Dx]at he;obtain⟨rfl,rfl⟩:=he;rcases vY hd hk els es 0 r V hm with⟨J,M⟩ | ⟨j,e,J,M,U,Y⟩
  ·exact .inl ⟨J,MapKept.run_findKey hu M⟩
  ·rw[Aq]at J U;exact .inr ⟨j,e,J,M,MapKept.run_findKey hu U,Y⟩
 unfold N9 at E
 split at E
 ·rename_i kk hu;exact one _ 0 hu (Az E).symm (.inl ⟨kk,rfl,rfl⟩)
 ·grind
 ·grind
 ·rename_i n e hu
  split at E
  ·rename_i kk aa ab
   split at E
   ·rename_i M;simp only[Db,Dx]at E;obtain⟨rfl,rfl⟩:=E;have ha:EH P kt=some true:=by unfold EH; rw[hu]
    have U:=nN (by omega) (yRz hu aa ab) ha hk els es 0 r V hm
    have Y:(Instr.findKey kt I es).run P w=(Instr.findAsking kt I es 0).run P w:=by
     cases es with
     |nil=>simp[Instr.findKey,run_underlying hu,Instr.findNow,Instr.findAsking]
     |cons e0 es=>
      have:Instr.findNow (.array n e) I (e0::es) 0=none:=by
       rfl
      simp[Instr.findKey,run_underlying hu,this]
    grind
   ·cases E
  ·cases E
 ·cases E
theorem Yet(J:SR base w g st)(h:1<sz)(E:sz≠1000003):RunsTo P base w g st (Instr.makeMap t none) (.mapv st.length) (st++[{row:=false,sz,els:=[],lent:=false}]):=by
 have hm:({row:=false,sz,els:=[],lent:=false}:Obj).isMap=true:=by simp[Obj.isMap,h]
 have I:=SR.pushMap (w':=w.alloc (.map #[] 0)) (o:={row:=false,sz,els:=[],lent:=false}) (clock:=0) J ⟨rfl,rfl,rfl,by simp⟩ (fun b hb=>QN w _ b hb) (MapKept.heap_alloc w _).1 hm E rfl;refine⟨.map (some w.heap.size),_,_,rfl,I,?_⟩;have:=RepV.mapv (w:=w.alloc (.map #[] 0)) (g:={g with β:=FT g.β st.length w.heap.size}) (st:=st++[{row:=false,sz,els:=[],lent:=false}]) st.length {row:=false,sz,els:=[],lent:=false} (by simp) hm;simpa[Iu]using this
theorem zO{o:Obj}(E:st[key]?=some o)(h:RepV w g st (.mapv key) v):o.isMap=true∧v=.map (some (g.β key)):=by
 cases h with
 |mapv _ I J M=>
  grind
theorem zl{o:Obj}{es:Array MapEntry}(I:es.size=o.els.length)(J:∀ (i:Nat) (e:MapEntry) (el:D),es[i]?=some e→o.els[i]?=some el→RepV w g st (Gc o.sz el) e.key∧RepV w g st (HN o.sz el) e.val):Ents w g st o.sz o.els es.toList:=
 ⟨by simpa using I,fun i e el he E=>J i e el (by simpa using he) E⟩
theorem Yft{P:Program}(h:N9 P kt=some (sz,ks)):sz≠0:=by
 unfold N9 at h
 repeat' split at h
 all_goals first | (cases h; done) | (simp only[Db,Dx]at h; omega)
theorem yYs(hS:SR base w g st)(ht:Ro P t=some (kt,et,sz,ks))(M:Iy P et=some zd)(hm:RepV w g st m vm)(hk:RepV w g st k vk)
  (h:Js st sz ks ok zd m k=some r):∃ v,(Instr.lookup t vm vk ok).run P w=.ok v w∧RepV w g st r v:=by
 obtain⟨hu,J,ab,_,_⟩:=tu ht;have ae:sz≠0:=Yft J;unfold Js at h
 split at h
 case h_2=>rw[if_neg ae]at h; cases h
 case h_3=>cases h
 rename_i key
 split at h
 case h_2=>cases h
 rename_i o ho
 split at h
 case isFalse=>cases h
 rename_i hc;simp only[Ac,beq_iff_eq]at hc;obtain⟨⟨_,rfl⟩,a0⟩:=hc;obtain⟨b,hb⟩:=Option.isSome_iff_exists.1 a0;obtain⟨af,rfl⟩:=zO ho hm;obtain⟨es,clock,h1,h2,h3,h4,h5,bc⟩:=(hS.mp key o ho af).old (by first | exact ab | (simpa using ab));have hE:=zl h3 h5;have E:=fI (w:=w) J hb hk es.isEmpty
 have a3:∃ z,(zeroValue et).run P w=.ok z w∧RepV w g st zd z:=by
  unfold Iy at M
  split at M
  case h_2=>cases M
  rename_i i hi
  split at M
  case h_2=>cases M
  rename_i z a4;exact⟨z,by simp[zeroValue,typeInfo,hi,a4],SN M⟩
 obtain⟨z,ac,ad⟩:=a3
 have U:∀ (x:D) (v:Value) (b:Bool),RepV w g st x v→RepV w g st (.tup [x,.bool b]) (.tuple #[v,.bool b]):=fun x v b hx=>by
  refine .tup [x,.bool b] [v,.bool b] rfl fun i d u I hu=>?_
  match i,I,hu with
  |0,I,hu=>simp at I hu; subst I; subst hu; exact hx
  |1,I,hu=>simp at I hu; subst I; subst hu; exact .bool _
 split at h
 ·rename_i i hi
  split at h
  ·rename_i el a5;simp only[Db]at h;subst h;rcases Zg J hk hE hi with⟨V,_⟩ | ⟨j,e,V,h7,Y,bd,h9,be⟩
   ·cases V
   ·obtain rfl:=Az V;have hr:=(h5 i e el (by simpa using h7) a5).2
    cases ok with
    |true=>exact⟨.tuple #[e.val,.bool true],by simp[Instr.lookup,run_underlying hu,MapKept.run_getObj_map h1,E,Y],U _ _ _ hr⟩
    |false=>exact⟨e.val,by simp[Instr.lookup,run_underlying hu,MapKept.run_getObj_map h1,E,Y],hr⟩
  ·cases h
 ·rename_i hi;simp only[Db]at h;subst h;rcases Zg J hk hE hi with⟨_,Y⟩ | ⟨j,e,V,_⟩
  ·cases ok with
   |true=>exact⟨.tuple #[z,.bool false],by simp[Instr.lookup,run_underlying hu,MapKept.run_getObj_map h1,E,Y,ac],U _ _ _ ad⟩
   |false=>exact⟨z,by simp[Instr.lookup,run_underlying hu,MapKept.run_getObj_map h1,E,Y,ac],ad⟩
  ·cases V
 ·cases h
def aY(P:Program)(t:TypeId):Option D:=match P.underlying t with
 |some (.map kt et)=>match P.underlying kt,Es P et,EH P et,Iy P et with
  |some (.int .i64),some 1,some true,some zd=>some zd
  |_,_,_,_=>none
 |_=>none
theorem yZp{P:Program}(h:aY P t=some zd):∃ kt et,P.underlying t=some (.map kt et)∧P.underlying kt=some (.int .i64)∧Iy P et=some zd:=by
 unfold aY at h;grind
theorem vX{es:List (Int×Nat)}(n:Int):∀ (l:List MapEntry) (i:Nat),(∀ e∈l,∃ m f,e.key=.int .i64 m∧e.val=.agg #[.func (.func f) #[] #[]]∧f<5000000∧Gg m es=some f)→
  (∃ j f,Instr.findNow (.int .i64) (.int .i64 n) l i=some (some (j,.agg #[.func (.func f) #[] #[]]))∧Gg n es=some f∧f<5000000)∨(Instr.findNow (.int .i64) (.int .i64 n) l i=some none∧∀ e∈l,e.key≠.int .i64 n)
 |[],i,_=>.inr ⟨rfl,fun e he=>by cases he⟩
 |e::l,i,h=>by
  obtain⟨m,f,I,J,M,U⟩:=h e (by simp)
  by_cases E:n=m
  ·subst E;exact .inl ⟨i,f,by simp[Instr.findNow,Instr.sameNow,I,J],U,M⟩
  ·have hf:Instr.findNow (.int .i64) (.int .i64 n) (e::l) i=Instr.findNow (.int .i64) (.int .i64 n) l (i+1):=by
    have hb:(n == m)=false:=by simpa using E
    simp only[Instr.findNow,Instr.sameNow,I,if_true,hb]
   rcases vX n l (i+1) (fun x V=>h x (by simp[V]))with⟨j,f',Y,h6⟩ | ⟨Y,h6⟩
   ·grind
   ·grind
theorem Yoz(ht:aY P t=some zd)(hm:RepV w g st m vm)(hk:RepV w g st k vk)(h:Js st 0 [] ok zd m k=some r) :
  ∃ v,(Instr.lookup t vm vk ok).run P w=.ok v w∧RepV w g st r v:=by
 obtain⟨kt,et,hu,ac,M⟩:=yZp ht;unfold Js at h
 split at h
 case h_3=>cases h
 case h_1=>
  split at h
  case h_2=>cases h
  split at h
  case isFalse=>cases h
  rename_i hc;simp only[Ac,beq_iff_eq]at hc;have:=iK hc.1.1;omega
 rename_i es;rw[if_pos rfl]at h
 split at h
 case h_2=>cases h
 rename_i n;simp only[Db]at h
 obtain⟨b,E,clock,rfl,U,h3⟩:∃ b E clock,vm=.map (some b)∧w.heap[b]?=some (.map E clock)∧gd E es:=by
  cases hm with
  |gmap _ b E clock U h2 h3=>exact⟨b,E,clock,rfl,U,h3⟩
 have a1:=hk;cases a1;have ah:N9 P kt=some (2,[0]):=by unfold N9; rw[ac]
 have J:=fI (w:=w) ah (show Iz 2 [0] (.int .i64 n) (.int .i64 n)=some (n == n) by simp[Iz,I3]) hk E.isEmpty
 have a2:∃ z,(zeroValue et).run P w=.ok z w∧RepV w g st zd z:=by
  unfold Iy at M
  split at M
  case h_2=>cases M
  rename_i i hi
  split at M
  case h_2=>cases M
  rename_i z a3;exact⟨z,by simp[zeroValue,typeInfo,hi,a3],SN M⟩
 obtain⟨z,ad,ae⟩:=a2
 have V:∀ (x:D) (v:Value) (b:Bool),RepV w g st x v→RepV w g st (.tup [x,.bool b]) (.tuple #[v,.bool b]):=fun x v b hx=>by
  refine .tup [x,.bool b] [v,.bool b] rfl fun i d u I hu=>?_
  match i,I,hu with
  |0,I,hu=>simp at I hu; subst I; subst hu; exact hx
  |1,I,hu=>simp at I hu; subst I; subst hu; exact .bool _
 have Y:∀ f,f<5000000→RepV w g st (.agg [.clo f []]) (.agg #[.func (.func f) #[] #[]]):=fun f hf=>by
  refine .agg [.clo f []] [.func (.func f) #[] #[]] rfl fun i d u I hu=>?_
  match i,I,hu with
  |0,I,hu=>
   simp at I hu; subst I; subst hu;have:=RepV.clo (w:=w) (g:=g) (st:=st) f [] [] rfl (fun i d v h=>by simp at h);rw[Sl hf,Zh,YN]at this;exact this
 have af:∀ r,Instr.findNow (.int .i64) (.int .i64 n) E.toList 0=some r→(Instr.findKey kt (.int .i64 n) E.toList).run P w=.ok r w:=fun r hr=>by
  simp[Instr.findKey,run_underlying ac,hr]
 rcases vX n E.toList 0 h3.1 with⟨j,f,h5,h6,h7⟩ | ⟨h5,h6⟩
 ·have h8:=af _ h5;rw[h6]at h;simp only at h
  cases ok with
  |true=>
   simp only[if_true]at h;subst h;exact⟨.tuple #[.agg #[.func (.func f) #[] #[]],.bool true],by simp[Instr.lookup,run_underlying hu,MapKept.run_getObj_map U,J,h8],V _ _ _ (Y f h7)⟩
  |false=>
   simp only[Al,if_false]at h;subst h;exact⟨.agg #[.func (.func f) #[] #[]],by simp[Instr.lookup,run_underlying hu,MapKept.run_getObj_map U,J,h8],Y f h7⟩
 ·have h8:=af _ h5
  have a6:Gg n es=none:=by
   cases hg:Gg n es with
   |none=>rfl
   |some f=>
    obtain⟨e,he,bb⟩:=h3.2 n f hg;grind
  rw[a6]at h;simp only at h
  cases ok with
  |true=>
   simp only[if_true]at h;subst h;exact⟨.tuple #[z,.bool false],by simp[Instr.lookup,run_underlying hu,MapKept.run_getObj_map U,J,h8,ad],V _ _ _ ae⟩
  |false=>
   simp only[Al,if_false]at h;subst h;exact⟨z,by simp[Instr.lookup,run_underlying hu,MapKept.run_getObj_map U,J,h8,ad],ae⟩
theorem YEu{v:D}(h:Iz sz ks k k=some b)(hl:k.cells.length+1=sz):Gc sz (.agg (k.cells++[v]))=k∧HN sz (.agg (k.cells++[v]))=v:=by
 have E:(k.cells++[v]).take (sz - 1)=k.cells:=by rw[show sz - 1=k.cells.length by omega]; simp
 have I:(k.cells++[v]).drop (sz - 1)=[v]:=by rw[show sz - 1=k.cells.length by omega]; simp
 refine⟨?_,by simp only[HN,I]; rfl⟩;simp only[Gc,E];unfold Iz at h
 split at h
 ·rename_i e;subst e
  split at h
  ·have J:=(Zw h).1;cases k <;> first | rfl | (simp[Qn]at J; done)
  ·cases h
 ·rename_i e
  split at h
  ·simp[e,D.mk,D.cells]
  ·cases h
theorem xK(h:RepV w g st d v)(E:d.isCell=true):RW v=false:=by
 have:=h.oneCell E;cases v <;> first | rfl | (simp[Value.oneCell']at this; done)
theorem tw(hS:SR base w g st){v:D}{M:Value}(ht:Ro P t=some (kt,et,sz,ks))(hm:RepV w g st m vm)(hk:RepV w g st k vk)(hv:RepV w g st v M)
  (h:Tm st sz ks m k v=some st'):∃ w' g',(Instr.mapUpdate t vm vk M).run P w=.ok () w'∧Go1 base w g st w' g' st':=by
 obtain⟨hu,U,J,_,_⟩:=tu ht;unfold Tm at h
 split at h
 case h_2=>cases h
 rename_i key
 split at h
 case h_2=>cases h
 rename_i o ho
 split at h
 case isFalse=>cases h
 rename_i hc;simp only[Ac,AS,beq_iff_eq]at hc;obtain⟨⟨⟨⟨⟨⟨_,rfl⟩,a8⟩,ad⟩,hl⟩,ba⟩,V⟩:=hc;obtain⟨I,rfl⟩:=zO ho hm;obtain⟨es,clock,E,h2,h3,h4,h5,ae⟩:=(hS.mp key o ho I).old (by first | exact J | (simpa using J));have hE:=zl h3 h5;have Y:=fI (w:=w) U V hk false;obtain⟨k1,k2⟩:=YEu (v:=v) V hl;have bd:∃ l,(D.agg (k.cells++[v]))=.agg l∧l.length=o.sz:=⟨_,rfl,by rw[Ad]; exact hl⟩;have be:g.β key<w.heap.size:=(AG.1 E).1
 split at h
 ·rename_i i hi;simp only[Db]at h;subst h;rcases Zg U hk hE hi with⟨h6,_⟩ | ⟨j,e,h6,h7,h8,a3,h9,a4⟩
  ·cases h6
  ·obtain rfl:=Az h6;have ab:es[i]?=some e:=by simpa using h7
   have a5:e.key=vk:=(yY9 a4 hk (h5 i e a3 ab h9).1).symm;have a6:(Instr.keyThatStays e.key vk).run P w=.ok vk w:=by rw[a5]; exact yNw V hk w
   refine⟨_,g,?_,SR.updMap (o':={o with els:=o.els.set i (.agg (k.cells++[v]))}) (es':=es.modify i fun e=>{e with key:=vk,val:=M}) (clock':=clock) (w':={w with heap:=w.heap.setIfInBounds (g.β key) (.map (es.modify i fun e=>{e with key:=vk,val:=M}) clock)}) hS ho I J rfl rfl (by simp) rfl
    ⟨rfl,rfl,rfl,by simp⟩ (fun b hb=>(MapKept.heap_set E).2 b hb) (MapKept.heap_set E).1 (by simpa using h3) ?_ ?_ ?_⟩
   ·simp[Instr.mapUpdate,run_underlying hu,MapKept.run_getObj_map E,Y,h8,ab,a6,MapKept.run_setObj_map _ E]
   ·grind
   ·grind
   ·rw[gQ]at ae ⊢;rw[Cb]
    by_cases a7:i=0
    ·subst a7;rw[if_pos rfl,ab];exact xK hv ad
    ·grind
 ·rename_i hi;simp only[Db]at h;subst h;rcases Zg U hk hE hi with⟨_,h8⟩ | ⟨j,e,h6,_⟩
  ·refine⟨_,g,?_,SR.updMap (o':={o with els:=o.els++[.agg (k.cells++[v])]}) (es':=es.push {key:=vk,val:=M,born:=clock}) (clock':=clock+1) (w':={w with heap:=w.heap.setIfInBounds (g.β key) (.map (es.push {key:=vk,val:=M,born:=clock}) (clock+1))}) hS ho I J rfl rfl (by simp) rfl
    ⟨rfl,rfl,rfl,by simp⟩ (fun b hb=>(MapKept.heap_set E).2 b hb) (MapKept.heap_set E).1 (by simpa using h3) ?_ ?_ ?_⟩
   ·simp[Instr.mapUpdate,run_underlying hu,MapKept.run_getObj_map E,Y,h8,MapKept.run_setObj_map _ E]
   ·grind
   ·grind
   ·rw[gQ]at ae ⊢
    by_cases hj:0<es.size
    ·grind
    ·have he:es=#[]:=Array.eq_empty_of_size_eq_zero (by omega);subst he;exact xK hv ad
  ·cases h6
 ·cases h
theorem Yyd(hS:SR base w g st){tot off len:Nat}{s:D}(hu:P.underlying dT=some (.slice elem))(a7:(P.info? elem).map (·.size)=some 1)(hd:RepV w g st (.row key tot off len) vd)(hs:RepV w g st s vs)
  (h:X7 st 1 key tot off len s=some (r,st')):RunsTo P base w g st (Builtin.copy_ #[dT,sT] ty #[vd,vs]) r st':=by
 unfold X7 at h
 split at h
 case h_2=>cases h
 rename_i o ce xs U a8
 split at h
 case isFalse=>cases h
 rename_i hc;simp only[Ac,AS,beq_iff_eq,decide_eq_true_eq,Bb,BJ]at hc;obtain⟨⟨⟨⟨⟨⟨⟨⟨E,bg⟩,ah⟩,J⟩,_⟩,b6⟩,b7⟩,a0⟩,b8⟩:=hc;simp only[Db,Dx]at h;obtain⟨rfl,rfl⟩:=h;obtain⟨I,h1,h2,h3,rfl,h5⟩:=T7 (by simp[E2,U,E,ah]) hd;obtain rfl:I=o:=Az (h1.symm.trans U);obtain⟨C,e,hb,bh,ca,hx,hC,cb⟩:=hS.blk key I U (M7 E);rw[E]at hC;simp only[if_true]at hC
 have hE:Els w g st vs 1 xs:=by
  rcases jT hS a8 hs with h6 | ⟨s',rfl,_,_⟩
  ·grind
  ·simp[Jz]at a0
 obtain⟨⟨a,cap,rfl,a9⟩,b1,ba⟩:=hE;have cf:min len xs.length≤xs.length:=Nat.min_le_right _ _;have cg:min len xs.length≤len:=Nat.min_le_left _ _;have a2:Nat.min xs.length len=min len xs.length:=Nat.min_comm ..;generalize min len xs.length=m at*
 have a3:xs≠[]:=by
  grind
 obtain⟨b,o2,rfl,_,b2⟩:=a9 a3
 have ch:∀ j,j<m→∃ d u,F2 xs j 0=some d∧w.cell? ⟨b,o2+j,none⟩=some u∧RepV w g st d u∧u.oneCell'=true:=by
  intro j hj;have ad:j<xs.length:=by omega
  have c0:=ba xs[j] (BC ad);have c1:F2 xs j 0=some (xs[j].cells[0]'(by omega)):=HU (Ah ad) (Ah (by omega));grind
 have ae:∀ j:Nat,((CS m).map fun j=>(w.cell? ⟨b,o2+j,none⟩).getD undef)[j]?=if j<m then w.cell? ⟨b,o2+j,none⟩else none:=fun j=>by
  grind
 have hlen:((CS m).map fun j=>(w.cell? ⟨b,o2+j,none⟩).getD undef).length=m:=by rw[Bc,List.length_range]
 generalize ((CS m).map fun j=>(w.cell? ⟨b,o2+j,none⟩).getD undef)=cs at ae hlen
 have a4:∀ v∈cs,v.oneCell'=true:=fun v hv=>by
  obtain⟨j,hj⟩:=AZ.1 hv;grind
 rw[J,BP]at hC;rw[show off*I.sz=off by rw[J,BP]];have V:off+cs.length≤C.size:=by omega
 have a5:=run_copy_row P w dT sT ty elem (g.β key) off len (g.γ key - off) ⟨b,o2,none⟩ xs.length cap C e cs hu a7 hb (by rw[hlen]; exact a2.symm) (fun j v hv=>by
   rw[ae]at hv
   split at hv
   ·rw[cell?_add]; simpa using hv
   ·cases hv) V a4
 have bb:(xs.take m).length=m:=by rw[AH]; omega
 have Y:off+(xs.take m).length≤I.els.length:=by omega
 have bc:=UO Y
 have a6:∀ j y,(FM I.els off (xs.take m))[j]?=some y→(off≤j∧j<off+m∧xs[j - off]?=some y)∨(¬ (off≤j∧j<off+m)∧I.els[j]?=some y):=by
  intro j y M;rw[Q3 Y,bb]at M;grind
 refine⟨_,_,{g with β:=FT g.β key (g.β key),γ:=FT g.γ key (g.γ key)},a5,?_,by simp only[goInt,hlen]; exact .int _ _⟩
 refine SR.update (o':={I with els:=FM I.els off (xs.take m)}) (c:=g.γ key) hS U (M7 E) hb (.inl ⟨rfl,rfl⟩) rfl rfl (by simp[bc]) rfl ?_ (UP w _ _)
  (fun b' _ c2=>setRow_other w _ _ _ (by omega)) (setRow_heap w _ C _ e _ hb) ?_ ?_ ?_
 ·intro y M;obtain⟨j,hj⟩:=AZ.1 M;grind
 ·intro _ y M;have:=(hS.dis key I y U M).1;grind
 ·grind
 ·intro i j d bd;obtain⟨y,M,af⟩:=Iw bd
  have be:j=0:=by
   have h7:y.cells.length=1:=by
    grind
   grind
  subst be;rw[J,BP,B1,UI V,hlen];rcases a6 i y M with⟨h6,h7,h8⟩ | ⟨h6,h7⟩
  ·rw[if_pos ⟨h6,h7⟩];have bf:=HU h8 af;grind
  ·rw[if_neg h6];have bf:=HU h7 af;grind
theorem Yyc(V:SR base w g st){s:D}(hu:P.underlying dT=some (.slice elem))(cb:Es P elem=some 1)(M:RepV w g st d vd)(hs:RepV w g st s vs)
  (h:KA st 1 d s=some (r,st')):RunsTo P base w g st (Builtin.copy_ #[dT,sT] ty #[vd,vs]) r st':=by
 have ad:(P.info? elem).map (·.size)=some 1:=cb;have bc:∀ (a a':Option Addr) (c n' c':Nat),(Builtin.copy_ #[dT,sT] ty #[.slice a 0 c,.slice a' n' c']).run P w=.ok (goInt 0) w:=fun a a' c n' c'=>run_copy_none (P:=P) w dT sT ty elem a a' 0 c n' c' hu ad (Nat.min_zero _);have cc:∀ (a a':Option Addr) (n c c':Nat),(Builtin.copy_ #[dT,sT] ty #[.slice a n c,.slice a' 0 c']).run P w=.ok (goInt 0) w:=fun a a' n c c'=>run_copy_none (P:=P) w dT sT ty elem a a' n c 0 c' hu ad (Nat.zero_min _);unfold KA at h
 split at h
 ·rename_i key off n dc _ a0 E n2 dd _
  split at h
  ·cases h
  rename_i c2
  split at h
  case h_2=>cases h
  rename_i o o2 ho bd
  split at h
  case isFalse=>cases h
  rename_i hc;simp only[Ac,AS,decide_eq_true_eq,BP]at hc;obtain⟨⟨⟨⟨⟨ab,c3⟩,ba⟩,hle⟩,c6⟩,bh⟩:=hc;simp only[Db,Dx,BP]at h;obtain⟨rfl,rfl⟩:=h
  cases M with
  |bsl _ _ _ _ _ I cap q1 q2 q3 _=>
   obtain rfl:I=o:=Az (q1.symm.trans ho)
   cases hs with
   |bsl _ _ _ _ _ Y U u1 u2 u3 _=>
    obtain rfl:Y=o2:=Az (u1.symm.trans bd);obtain⟨C,e,hb,c4,c7,hx,hC,b3⟩:=V.blk key I ho (Qd q3);obtain⟨C2,e2,ce,cf,c5,de,a3,bb⟩:=V.blk a0 Y bd (Qd u3);rw[ab]at hC;rw[ba]at a3;simp only[Al,if_false]at hC a3;obtain⟨be,c8,cg⟩:=hC;obtain⟨df,_,ch⟩:=a3;have b4:Nat.min n2 n=min n n2:=Nat.min_comm ..;generalize hm:min n n2=mm at*;have bf:((Y.els.drop E).take mm).length=mm:=by rw[AH,AI]; omega
    have b5:∀ j d,((Y.els.drop E).take mm)[j]?=some d→∃ u,C2[E+j]?=some u∧RepV w g st d u∧d.cells=[d]∧u.oneCell'=true:=fun j d M=>by
     obtain⟨h6,_⟩:=fM M;have h7:=ch d (Aj h6);obtain⟨_,u,h8,h9⟩:=bb (E+j) 0 d (HU h6 (by rw[h7]; rfl));rw[u3]at h8;exact⟨u,by simpa using h8,h9,h7,h9.oneCell (Ag.1 bh d (Aj M))⟩
    have hlen:((C2.toList.drop E).take mm).length=mm:=by
     grind
    have a5:∀ j:Nat,((C2.toList.drop E).take mm)[j]?=if j<mm then C2[E+j]? else none:=fun j=>by
     grind
    generalize c9:(C2.toList.drop E).take mm=cs at hlen a5;generalize da:(Y.els.drop E).take mm=xs at*
    have b9:∀ v∈cs,v.oneCell'=true:=fun v hv=>by
     obtain⟨j,hj⟩:=AZ.1 hv;have c0:j<mm:=by have:=(Ab.1 hj).1; omega
     rw[a5,if_pos c0]at hj;obtain⟨u,h8,_,_,h9⟩:=b5 j xs[j] (Ah (by omega));grind
    have a6:=run_copy_row P w dT sT ty elem (g.β key) off n cap ⟨g.β a0,E,none⟩ n2 U C e cs hu ad hb (by rw[hlen]; exact b4.symm) (fun j v hv=>by
      rw[a5]at hv
      split at hv
      ·rw[cell?_add]; simp only[World.cell?,ce]; simpa using hv
      ·cases hv) (by rw[hlen,be]; exact hle) b9
    rw[hlen]at a6;have ca:off+cs.length≤C.size:=by rw[hlen,be]; exact hle
    have ac:off+xs.length≤I.els.length:=by rw[bf]; exact hle
    have c1:=UO ac
    have mem:∀ y∈FM I.els off xs,y.cells=[y]:=by
     intro y J;obtain⟨j,hj⟩:=AZ.1 J;rw[Q3 ac]at hj;grind
    have eo:({row:=false,sz:=I.sz,els:=FM I.els off xs,lent:=I.lent}:Obj)={I with els:=FM I.els off xs}:=by rw[← ab]
    refine⟨_,_,{g with β:=FT g.β key (g.β key),γ:=FT g.γ key (g.γ key)},a6,?_,by simp only[goInt]; exact .int _ _⟩
    refine SR.update (o':={I with els:=FM I.els off xs}) (c:=g.γ key) V ho (Qd q3) hb (.inl ⟨rfl,rfl⟩) rfl rfl (by simp[c1]) rfl (fun y J=>by rw[mem y J,q3]; rfl) (UP w _ _)
     (fun b' _ dg=>setRow_other w _ _ _ (by omega)) (by rw[← hlen]; exact setRow_heap w _ C _ e _ hb) ?_ ?_ ?_
    ·intro _ y J;have:=(V.dis key I y ho J).1;grind
    ·grind
    ·intro i j d M;refine⟨fun h=>by simp[ab]at h,?_⟩;obtain⟨y,J,ae⟩:=Iw M;have h5:=mem y (Aj J);rw[h5]at ae
     cases j with
     |succ j=>simp at ae
     |zero=>
      simp only[AF,Db]at ae;subst ae;rw[q3,BP,B1,UI ca];rw[Q3 ac]at J;rw[hlen];rw[bf]at J
      split at J
      ·grind
      ·rename_i hc;rw[if_neg hc];have h8:=cg y (Aj J);obtain⟨_,u,h6,h7⟩:=b3 i 0 y (HU J (by rw[h8]; rfl));grind
 ·simp only[Db,Dx]at h;obtain⟨rfl,rfl⟩:=h
  cases M with
  |slcE _ _ a cap _=>
   cases hs with
   |bsl _ _ _ _ _ I U q1 q2 q3 _=>
    exact⟨goInt 0,w,g,bc _ _ _ _ _,Go1.refl V,.int _ _⟩
  |slc _ _ _ _ _ _ _ h=>exact absurd rfl h
 ·simp only[Db,Dx]at h;obtain⟨rfl,rfl⟩:=h
  cases hs with
  |slcE _ _ a cap _=>
   cases M with
   |bsl _ _ _ _ _ I U q1 q2 q3 _=>
    exact⟨goInt 0,w,g,cc _ _ _ _ _,Go1.refl V,.int _ _⟩
  |slc _ _ _ _ _ _ _ h=>exact absurd rfl h
 ·simp only[Db,Dx]at h;obtain⟨rfl,rfl⟩:=h
  cases hs with
  |slcE _ _ a cap _=>
   cases M with
   |slcE _ _ a2 U _=>
    exact⟨goInt 0,w,g,bc _ _ _ _ _,Go1.refl V,.int _ _⟩
   |slc _ _ _ _ _ _ _ h=>exact absurd rfl h
  |slc _ _ _ _ _ _ _ h=>exact absurd rfl h
 ·exact Yyd V hu ad M hs h
 ·cases h
end
end Go.Proofs.YtijnglngaogdjaaGreatDoor.PI
namespace Go.Proofs.YtijnglngaogdjaaGreatDoor.PI
open Go Go.RowKit
def gE(P:Program)(t:TypeId):Option (Nat→Option (Nat×Nat)):=
 match P.underlying t with
 |some (.array _ e)=>match P.info? e with
  |some ie=>some fun i=>some (i*ie.size,ie.size)
  |none=>none
 |some (.struct fields)=>match fields.toList.mapM (fun f=>(P.info? f.type).map fun i=>(f.offset,i.size))with
  |some places=>some fun i=>places.toArray[i]?
  |none=>none
 |_=>none
def So(pl:Nat→Option (Nat×Nat)):List (Nat×Operand)→Option (List (Nat×Nat×PA))
 |[]=>some []
 |(i,x)::r=>match pl i,DU x,So pl r with
  |some (off,size),some a,some l=>some ((off,size,a)::l)
  |_,_,_=>none
def Vx:Nat→List (Nat×Operand)→Option (List PA)
 |_,[]=>some []
 |k,(i,x)::r=>match DU x,Vx (k+1) r with
  |some a,some l=>if i=k then some (a::l)else none
  |_,_=>none
def eL(P:Program)(op:BinOp)(t:TypeId)(a b:PA):Option POp:=
 match op with
 |.eql | .neq=>
  let neg:=match op with | .neq=>true | _=>false
  match P.underlying t with
  |some (.int _) | some .string=>some (.bin op a b)
  |some .bool=>some (.beq neg a b)
  |some (.struct _) | some (.array _ _)=>match JA P 100 t with
   |some ks=>if P.eqGuardType P.depth t then none else some (.aeq ks neg a b)
   |none=>none
  |_=>none
 |_=>some (.bin op a b)
def bM(P:Program)(src dst:TypeId)(a:PA):Option POp:=
 match P.underlying src,P.underlying dst with
 |some _,some (.int k)=>some (.conv (.int k) a)
 |some .string,some .string=>some (.conv .same a)
 |some .string,some (.slice e)=>match P.underlying e with
  |some (.int .u8)=>some (.conv .bytes a)
  |_=>none
 |some (.slice e),some .string=>match P.underlying e with
  |some (.int .u8)=>some (.conv .str a)
  |_=>none
 |_,_=>none
def cG(P:Program)(t:TypeId)(a:PA)(lo hi mx:Option PA):Option POp:=
 match P.underlying t with
 |some .string=>some (.slice 0 a lo hi mx)
 |some (.slice e)=>match Es P e with
  |some sz=>if sz=0 then none else some (.slice sz a lo hi mx)
  |none=>none
 |some (.array n e)=>match Es P e,EH P e,mx with
  |some sz,some ag,none=>some (.sliceA n sz ag a lo hi)
  |_,_,_=>none
 |_=>none
def YF(P:Program)(b:Builtin)(args:List Operand)(ts:List TypeId):Option POp:=
 match b,args,ts with
 |.len,[x],[t]=>match DU x,P.underlying t with
  |some a,some .string=>some (.len true a)
  |some a,some (.slice _)=>some (.len false a)
  |some _,some (.array n _)=>some (.lenA n)
  |_,_=>none
 |.append,[s,x],[t,tx]=>match DU s,DU x,P.underlying t,P.underlying tx with
  |some a,some b,some (.slice e),some (.slice _) | some a,some b,some (.slice e),some .string=>match P.info? e with
   |some i=>match i.zero with
    |some z=>if z.cells.size=i.size then some (.app i.size i.bytes a b)else none
    |none=>none
   |none=>none
  |_,_,_,_=>none
 |.copy,[d,s],[t,_]=>match DU d,DU s,P.underlying t with
  |some a,some b,some (.slice e)=>match Es P e with
   |some 1=>some (.cpy 1 a b)
   |_=>none
  |_,_,_=>none
 |.min,[x,y],_=>match DU x,DU y with
  |some a,some b=>some (.mm false a b)
  |_,_=>none
 |.max,[x,y],_=>match DU x,DU y with
  |some a,some b=>some (.mm true a b)
  |_,_=>none
 |.min,[x,y,z],_=>match DU x,DU y,DU z with
  |some a,some b,some c=>some (.mm3 false a b c)
  |_,_,_=>none
 |.max,[x,y,z],_=>match DU x,DU y,DU z with
  |some a,some b,some c=>some (.mm3 true a b c)
  |_,_,_=>none
 |_,_,_=>none
def Dy(P:Program)(il:List Nat):Op→Option POp
 |.move x | .assign x=>(DU x).map .mov
 |.pick c a b=>match DU c,DU a,DU b with
  |some c,some a,some b=>some (.pick c a b)
  |_,_,_=>none
 |.alloc t=>(Iy P t).map fun d=>.box (.c d)
 |.box _ x=>(DU x).map .box
 |.build t parts=>match Iy P t,gE P t with
  |some (.agg zs),some pl=>(So pl parts.toList).map (.bld zs)
  |_,_=>none
 |.buildSlice t len parts=>match P.underlying t with
  |some (.slice e)=>match P.info? e with
   |some i=>match i.zero,Vx 0 parts.toList with
    |some _,some l=>if l.length=len then some (.bslc i.size l)else none
    |_,_=>none
   |none=>none
  |_=>none
 |.load t a=>match DU a,Es P t,EH P t with
  |some a,some n,some ag=>some (.load n ag a)
  |_,_,_=>none
 |.store t a x=>match DU a,DU x,Es P t with
  |some a,some x,some n=>some (.stor n a x)
  |_,_,_=>none
 |.nilCheck x=>(DU x).map .nilc
 |.binOp op t x y _=>match DU x,DU y with
  |some a,some b=>eL P op t a b
  |_,_=>none
 |.unOp op _ x=>(DU x).map (.un op)
 |.convert src dst x=>match DU x with
  |some a=>bM P src dst a
  |none=>none
 |.makeSlice t l c=>match DU l,DU c,P.underlying t with
  |some l,some c,some (.slice e)=>match P.info? e with
   |some i=>match i.zero with
    |some z=>(Py z).map fun zd=>.mkslc i.size i.bytes zd l c
    |none=>none
   |none=>none
  |_,_,_=>none
 |.slice t x lo hi mx=>match DU x,TA lo,TA hi,TA mx with
  |some a,some lo,some hi,some mx=>cG P t a lo hi mx
  |_,_,_,_=>none
 |.fieldAddr s x f=>match DU x,P.underlying s with
  |some a,some (.struct fields)=>match fields[f]? with
   |some fd=>match Es P fd.type with
    |some n=>if n=0 then none else some (.fld fd.offset a)
    |none=>none
   |none=>none
  |_,_=>none
 |.field s x f=>match DU x,P.underlying s with
  |some a,some (.struct fields)=>match fields[f]? with
   |some fd=>match Es P fd.type,EH P fd.type with
    |some n,some ag=>some (.fldv fd.offset n ag a)
    |_,_=>none
   |none=>none
  |_,_=>none
 |.indexAddr t x i=>match DU x,DU i,P.underlying t with
  |some a,some i,some (.array len e)=>(Es P e).map fun n=>.idxA len n a i
  |some a,some i,some (.slice e)=>(Es P e).map fun n=>.idxS n a i
  |_,_,_=>none
 |.index t x i=>match DU x,DU i,P.underlying t with
  |some a,some i,some (.array len e)=>match Es P e,EH P e with
   |some n,some ag=>some (.idxV len n ag a i)
   |_,_=>none
  |some a,some i,some .string=>some (.idx a i)
  |_,_,_=>none
 |.extract x i=>(DU x).map fun a=>.ext a i
 |.makeMap t none=>match Ro P t with
  |some (_,_,sz,_)=>some (.mkmap sz)
  |none=>none
 |.mapUpdate t m k v | .insert t m k v=>match Ro P t,DU m,DU k,DU v with
  |some (_,_,sz,ks),some m,some k,some v=>some (.mapup sz ks m k v)
  |_,_,_,_=>none
 |.lookup t m k ok=>match Ro P t,DU m,DU k with
  |some (_,et,sz,ks),some m,some k=>(Iy P et).map fun zd=>.mapget sz ks ok zd m k
  |_,_,_=>match aY P t,DU m,DU k with
   |some zd,some m,some k=>some (.mapget 0 [] ok zd m k)
   |_,_,_=>none
 |.call c=>match c.callee with
  |.builtin b=>YF P b c.args.toList c.argTypes.toList
  |.value (.func f)=>match P.funcs[f]?,IG c.args.toList with
   |some fn,some l=>if fn.body.isSome && !(fn.name == "runtime.NumGoroutine") && decide (f<50000000)then some (if il.contains (f+1000000)then .mcall f l else if il.contains (f+90000000)then .rcall f l else if il.contains f then .icall f l else .call f l)else if fn.body.isSome then none else some (.call (f+50000000) l)
   |_,_=>none
  |.value x=>match DU x,IG c.args.toList with
   |some a,some l=>some (.callv a l)
   |_,_=>none
  |_=>none
 |.makeFunc (.func f) first caps=>if decide (f<5000000)then(if first.isEmpty then(IG caps.toList).map (.mkclo f)else if caps.isEmpty then(IG first.toList).map (.mkclo (f+5000000))else none)else none
 |_=>none
def Contract(P:Program)(G:Dj)(f:Nat)(sp:List D→Option D):Prop:=
 ∀ (w:World) (g:Ghost) (ds:List D) (vs:List Value) (d:D),sp ds=some d→GlobOK G w g→(∀ b o,g.Im b o→(w.cell? ⟨b,o,none⟩).isSome=true)→ds.length=vs.length→
  (∀ (i:Nat) d v,ds[i]?=some d→vs[i]?=some v→RepV w g [] d v)→(∀ d∈ds,purA d=true)→
  Calls P f vs.toArray w fun e w'=>∃ v g',e=.returned v∧RepV w' g' [] d v∧purR d=true∧ImLe w g w' g'∧(∀ b o,g'.Im b o→g.Im b o∨w.heap.size≤b)∧
   (∀ b o,g'.Im b o→(w'.cell? ⟨b,o,none⟩).isSome=true)∧Below w.heap.size w w'
def IContract(P:Program)(G:Dj)(f:Nat)(sp:List D→St→Option (D×St)):Prop:=
 (∃ fn,P.funcs[f]?=some fn∧fn.body.isSome=true∧(fn.name == "runtime.NumGoroutine")=false)∧
 ∀ (base:Nat) (w:World) (g:Ghost) (st st':St) (ds:List D) (vs:List Value) (d:D),sp ds st=some (d,st')→SR base w g st→GlobOK G w g→ds.length=vs.length→
  (∀ (i:Nat) d v,ds[i]?=some d→vs[i]?=some v→RepV w g st d v)→
  Calls P f vs.toArray w fun e w'=>∃ v g',e=.returned v∧Go1 base w g st w' g' st'∧RepV w' g' st' d v
def ss(P:Program)(base:Nat)(w:World)(g:Ghost)(st st':St)(l:Nat)(vs:List Value)(d:D):Prop:=
 ∃ f tmps assign body,(Instr.yield l vs.toArray).run P w=.ok (.round l f tmps assign body) w∧
  RoundIn Fence.wide 0 P l f tmps assign body w fun e w'=>∃ v g',e=.returned v∧Go1 base w g st w' g' st'∧RepV w' g' st' d v
def YOK(P:Program)(G:Dj)(y:Nat→List D→St→Option (D×St))(base:Nat)(w0:World)(g0:Ghost)(st0:St):Prop:=
 ∀ (l:Nat) (w:World) (g:Ghost) (st st':St) (ds:List D) (vs:List Value) (d:D),Go1 base w0 g0 st0 w g st→GlobOK G w g→y l ds st=some (d,st')→ds.length=vs.length→
  (∀ (i:Nat) d v,ds[i]?=some d→vs[i]?=some v→RepV w g st d v)→ss P base w g st st' l vs d
def Ut(P:Program)(G:Dj)(f:Nat)(sp:(List D→St→Option (D×St))→List D→St→Option (D×St)):Prop:=
 (∃ fn,P.funcs[f]?=some fn∧fn.body.isSome=true∧(fn.name == "runtime.NumGoroutine")=false)∧
 ∀ (base:Nat) (w:World) (g:Ghost) (st st':St) (ds:List D) (vs:List Value) (d:D) (l:Nat) (y:List D→St→Option (D×St)),YOK P G (fun l' ds st=>if l'=l then y ds st else none) base w g st→
  sp y ds st=some (d,st')→SR base w g st→GlobOK G w g→ds.length=vs.length→(∀ (i:Nat) d v,ds[i]?=some d→vs[i]?=some v→RepV w g st d v)→
  Calls P f (Value.func (.yield l) #[] #[]::vs).toArray w fun e w'=>∃ v g',e=.returned v∧Go1 base w g st w' g' st'∧RepV w' g' st' d v
def YGe(P:Program)(f:Nat)(sp:List D→Option D):Prop:=
 ∀ (ys:List D) (r:D),sp ys=some r→∀ (w:World) (g:Ghost) (st:St) (vs:List Value),ys.length=vs.length→(∀ (i:Nat) y v,ys[i]?=some y→vs[i]?=some v→RepV w g st y v)→
  ∃ v,(callFunc f vs.toArray).run P w=.ok (.value v) w∧∀ (g:Ghost) (st:St),RepV w g st r v
def Nl:D→Value
 |.int k n=>.int k n
 |_=>undef
def G2:D→Value
 |.agg l=>.agg (l.map Nl).toArray
 |d=>Nl d
def LZ(t:Nat)(d:D):List PanicEntry:=[{v:=.iface t (G2 d),recovered:=false}]
def cT(t:Nat)(d:D):List PanicEntry:=[{v:=.iface t (G2 d),recovered:=true}]
variable {v:Value}{d:D}{g:Ghost}{w:World}
theorem Ykw{st:St}(h:RepV w g st d v)(hi:Qv d=true):v=Nl d:=by
 cases h <;> first | rfl | (simp[Qv]at hi; done)
theorem Ybc{st:St}(h:RepV w g st d v)(hi:LK d=true):v=G2 d:=by
 cases h with
 |int k n=>rfl
 |agg ds vs hl hv=>
  have:vs=ds.map Nl:=by
   apply List.ext_getElem (by simp[hl]);intro i I M;have E:i<ds.length:=by omega
   have J:ds[i]?=some ds[i]:=Ah E;have:=Ykw (hv i ds[i] vs[i] J (Ah I)) (Ag.1 hi _ (BC E));grind
  rw[this]; rfl
 |_=>simp[LK,Qv]at hi
def Q6(P:Program)(G:Dj)(f:Nat)(sp:List D→St→Option (Nat×D×St)):Prop:=
 (∃ fn,P.funcs[f]?=some fn∧fn.body.isSome=true∧(fn.name == "runtime.NumGoroutine")=false)∧
 ∀ (base:Nat) (w:World) (g:Ghost) (st st':St) (ds:List D) (vs:List Value) (t:Nat) (d:D),sp ds st=some (t,d,st')→SR base w g st→GlobOK G w g→ds.length=vs.length→
  (∀ (i:Nat) d v,ds[i]?=some d→vs[i]?=some v→RepV w g st d v)→
  Calls P f vs.toArray w fun e w'=>∃ g',e=.panicked (LZ t d)∧Go1 base w g st w' g' st'
def Ud(P:Program)(G:Dj)(f:Nat)(H:Nat→D→List D→St→Option St):Prop:=
 (∃ fn,P.funcs[f]?=some fn∧fn.body.isSome=true∧(fn.name == "runtime.NumGoroutine")=false)∧
 ∀ (base:Nat) (w:World) (g:Ghost) (st:St) (das:List D) (vs:List Value),SR base w g st→GlobOK G w g→das.length=vs.length→(∀ (i:Nat) d v,das[i]?=some d→vs[i]?=some v→RepV w g st d v)→
  (CallsDIn Fence.wide 0 P f vs.toArray .returning w fun e u w'=>e=.returned (.tuple #[])∧u=.returning∧∃ g',Go1 base w g st w' g' st)∧
  ∀ t d st',H t d das st=some st'→CallsDIn Fence.wide 0 P f vs.toArray (.panicking (LZ t d)) w fun e u w'=>e=.returned (.tuple #[])∧u=.panicking (cT t d)∧∃ g',Go1 base w g st w' g' st'
structure TblOK (P:Program) (G:Dj) (T:Tbl):Prop where
 p:∀ f sp,T.p f=some sp→(f<50000000∧Contract P G f sp)∨∃ f',f=f'+50000000∧YGe P f' sp
 i:∀ f sp,T.i f=some sp→IContract P G f sp
 m:∀ f sp,T.m f=some sp→IContract P G f (fun ds st=>(sp ds).map fun r=>(r.1 st.length,st++r.2 st.length))
 r:∀ f sp,T.r f=some sp→Ut P G f sp
 x:∀ f sp,T.x f=some sp→Q6 P G f sp
 q:∀ f sp,T.q f=some sp→IContract P G f (fun ds st=>(I2 sp ds st).map (·,st))
variable {st':St}{g':Ghost}{w':World}
section
variable {P:Program} {base:Nat} {w:World} {g:Ghost} {st:St}
theorem SP(st:St)(k:Nat)(key:Nat):(st.modify k fun o=>{o with lent:=true})[key]?=(st[key]?).map fun o=>if k=key then {o with lent:=true} else o:=by
 grind
theorem nq(st:St)(k key tot off len:Nat):HR (st.modify k fun o=>{o with lent:=true}) key tot off len=HR st key tot off len:=by
 unfold HR;grind
theorem Yas(st:St)(k key off n sz:Nat)(ag:Bool):Ib (st.modify k fun o=>{o with lent:=true}) key off n sz ag=Ib st key off n sz ag:=by
 unfold Ib Lv;grind
theorem uX(st:St)(k:Nat)(d:D):DC (st.modify k fun o=>{o with lent:=true}) d=DC st d:=by
 cases d <;> simp only[DC,nq,Yas]
theorem uY(st:St)(k:Nat):∀ (l:List D),D3 (st.modify k fun o=>{o with lent:=true}) l=D3 st l
 |[]=>rfl
 |d::l=>by simp only[D3,uX,uY st k l]
theorem Yf8(st:St)(k:Nat)(d:D):DV (st.modify k fun o=>{o with lent:=true}) d=DV st d:=by
 cases d <;> simp only[DV,uX,uY]
theorem YQ(st:St)(k:Nat):∀ (l:List D),Em (st.modify k fun o=>{o with lent:=true}) l=Em st l
 |[]=>rfl
 |d::l=>by simp only[Em,Yf8,YQ st k l]
theorem tJ(l:List D):∀ (ks:List Nat) (st:St),Em (lend ks st) l=Em st l
 |[],_=>rfl
 |k::r,st=>by rw[lend,tJ l r,YQ]
theorem Ye7(ks:List Nat){g:Ghost}{st:St}(M:∀ (k:Nat) o',st'[k]?=some o'→∃ o,st[k]?=some o∧o'.els=o.els∧o'.sz=o.sz∧o'.row=o.row)(hb:g'.β=g.β)
  (h:∀ k∈ks,∀ o,st[k]?=some o→o.isMap=false→∀ x,x<o.els.length*o.sz→g'.Im (g.β k) x):Lp g' st' ks:=by
 intro k hk o' E hm x I;obtain⟨o,U,V,J,Y⟩:=M k o' E;rw[V,J]at I;rw[hb];exact h k hk o U ((QK Y J).symm.trans hm) x I
theorem rJ:∀ (ks:List Nat) (st:St) (k:Nat) (o':Obj),(lend ks st)[k]?=some o'→∃ o,st[k]?=some o∧o'.els=o.els∧o'.sz=o.sz∧o'.row=o.row
 |[],_,_,o',h=>⟨o',h,rfl,rfl,rfl⟩
 |q::r,st,k,o',h=>by
  obtain⟨o1,E,I,J,M⟩:=rJ r _ k o' h;grind
theorem SI(I:SR base w g st){ds ys:List D}(h:Em st ds=some ys):∃ g',Go1 base w g st w g' (lend (ds.flatMap keys) st)∧g'.β=g.β∧ys.length=ds.length∧(∀ y∈ys,purA y=true)∧
  ∀ (i:Nat) y v,ys[i]?=some y→(∀ d,ds[i]?=some d→RepV w g st d v)→RepV w g' (lend (ds.flatMap keys) st) y v:=by
 obtain⟨g',E,hb,_,hl⟩:=I.lend (ds.flatMap keys);have J:=Ye7 (ds.flatMap keys) (rJ (ds.flatMap keys) st) hb hl;obtain⟨M,U,V⟩:=qw E.sr ((tJ ds _ st).trans h) J;exact⟨g',E,hb,M,V,fun i y v Y hv=>U i y v Y fun d hd=>E.rep (hv d hd)⟩
theorem YY(h:RepV w g st d v)(hn:d.noRef1=true):RepV w' g' st' d v:=by
 cases h <;> first | exact .int _ _ | exact .bool _ | exact .str _ | (simp[D.noRef1]at hn; done)
theorem tz(h:RepV w g st d v)(hn:d.noRef=true):RepV w' g' st' d v:=by
 cases d with
 |agg l=>
  cases h with
  |agg _ vs I J=>
   simp only[D.noRef,Ag]at hn;exact .agg l vs I fun i d v E hv=>YY (J i d v E hv) (hn d (Aj E))
 |tup l=>
  cases h with
  |tup _ vs I J=>
   simp only[D.noRef,Ag]at hn;refine .tup l vs I fun i d v E hv=>?_;have M:=hn d (Aj E);have U:=J i d v E hv
   cases d with
   |agg Y=>
    cases U with
    |agg _ V h5 h6=>
     simp only[Ag]at M;exact .agg Y V h5 fun i d v E hv=>YY (h6 i d v E hv) (M d (Aj E))
   |_=>exact YY U M
 |_=>exact YY h hn
end
end Go.Proofs.YtijnglngaogdjaaGreatDoor.PI
namespace Go.Proofs.YtijnglngaogdjaaGreatDoor.PI
open Go Go.RowKit
variable {s:Sem Value}{v:Value}{t:TypeId}{f len off:Nat}{vs:List Value}{ds ys:List D}{T:Tbl}{G:Dj}{sp:List D→St→Option (D×St)}{p:POp}{fr:Frame}{dst:Option Tmp}{parts:Array (Nat×Operand)}{x:Operand}{c:Call}{r:Option Nat}
section
variable {P:Program} {il:List Nat} {base:Nat} {w:World} {g:Ghost} {st st':St} {a:Act} {o:Oper} {next:Act→World→Prop} {Q:Exit→Act→World→Prop} {d:D}
theorem Ov(E:execOp a.eval o=(do pure (.value (← s))))(I:RunsTo P base w g st s d st')
  (hn:∀ v w' g',Go1 base w g st w' g' st'→RepV w' g' st' d v→next (a.put o.dst v) w'):o.wp P a w next Q:=by
 obtain⟨v,w',g',J,M,U⟩:=I;unfold Oper.wp;rw[E];simp only[Sem.run_bind,J,Result.andThen_ok,Sem.run_pure];exact hn v w' g' M U
theorem RunsTo.congr{s':Sem Value}(h:s.run P w=s'.run P w)(E:RunsTo P base w g st s' d st'):RunsTo P base w g st s d st':=by
 obtain⟨v,w',g',I,J,M⟩:=E;exact⟨v,w',g',h.trans I,J,M⟩
theorem Gs(E:SR base w g st)(I:execOp a.eval o=(do pure (.value (← s))))(J:s.run P w=.ok v w)(M:RepV w g st d v)
  (hn:∀ v w' g',Go1 base w g st w' g' st→RepV w' g' st d v→next (a.put o.dst v) w'):o.wp P a w next Q:=
 Ov I (.still E J M) hn
theorem nv{M:Nat→Option (Nat×Nat)}{ρ:PA→D}{I:Operand→Value}(U:∀ x E,DU x=some E→RepV w g st (ρ E) (I x)):∀ {l:List (Nat×Operand)} {ps:List (Nat×Nat×PA)},So M l=some ps→
  ∃ qs:List (Nat×Nat×Nat×D×Value),qs.map (fun p=>(p.2.1,p.2.2.1,p.2.2.2.1))=ps.map (fun p=>(p.1,p.2.1,ρ p.2.2))∧qs.map (fun p=>(p.1,p.2.2.2.2))=l.map (fun p=>(p.1,I p.2))∧
   (∀ p∈qs,M p.1=some (p.2.1,p.2.2.1))∧∀ p∈qs,RepV w g st p.2.2.2.1 p.2.2.2.2
 |[],ps,h=>by simp[So]at h; subst h; exact⟨[],rfl,rfl,fun p J=>(by cases J),fun p J=>(by cases J)⟩
 |(i,x)::r,ps,h=>by
  unfold So at h
  split at h
  ·rename_i off size E l h1 h2 V;simp only[Db]at h; subst h;obtain⟨qs,Y,e2,e3,e4⟩:=nv U V;refine⟨(i,off,size,ρ E,I x)::qs,by simp[Y],by simp[e2],?_,?_⟩
   ·grind
   ·grind
  ·cases h
theorem nt{ρ:PA→D}{E:Operand→Value}(J:∀ x I,DU x=some I→RepV w g st (ρ I) (E x)):∀ {k:Nat} {l:List (Nat×Operand)} {ps:List PA},Vx k l=some ps→
  ∃ vs:List Value,l.map (fun p=>(p.1,E p.2))=(vs.zipIdx k).map (fun x=>(x.2,x.1))∧vs.length=ps.length∧∀ (i:Nat) d v,(ps.map ρ)[i]?=some d→vs[i]?=some v→RepV w g st d v
 |k,[],ps,h=>by simp[Vx]at h; subst h; exact⟨[],rfl,rfl,fun i d v h=>by simp at h⟩
 |k,(i,x)::r,ps,h=>by
  unfold Vx at h
  split at h
  ·rename_i I l Y M;simp only[Ar,Db]at h;obtain⟨rfl,rfl⟩:=h;obtain⟨vs,U,V,e3⟩:=nt J M;refine⟨E x::vs,by simp[U],by simp[V],?_⟩;grind
  ·cases h
theorem P4{ρ:PA→D}{I:Operand→Value}(J:∀ x E,DU x=some E→RepV w g st (ρ E) (I x)):∀ {l:List Operand} {ps:List PA},IG l=some ps→
  ps.length=l.length∧∀ (i:Nat) d v,(ps.map ρ)[i]?=some d→(l.map I)[i]?=some v→RepV w g st d v
 |[],ps,h=>by simp[IG]at h; subst h; exact⟨rfl,fun i d v h=>by simp at h⟩
 |x::r,ps,h=>by
  unfold IG at h
  split at h
  ·rename_i E l U M;simp only[Db]at h; subst h;obtain⟨V,Y⟩:=P4 J M;grind
  ·cases h
theorem Yjg(a5:SR base w g st){zs:List D}{U:Nat→Option (Nat×Nat)}{l:List (Nat×Operand)}{ps:List (Nat×Nat×PA)}{ρ:PA→D}{ev:Operand→Value}{parts:Array (Nat×Value)}{cs:List D}
  (ab:∀ x pa,DU x=some pa→RepV w g st (ρ pa) (ev x)) (J:Iy P t=some (.agg zs)) (E:gE P t=some U) (hp:So U l=some ps) (ad:parts.toList=l.map fun p=>(p.1,ev p.2))
  (h:DL zs (ps.map fun p=>(p.1,p.2.1,ρ p.2.2))=some cs):∃ v,(Instr.build t parts).run P w=.ok v w∧RepV w g st (.agg cs) v:=by
 obtain⟨qs,e1,e2,e3,e4⟩:=nv ab hp;unfold Iy at J
 split at J
 case h_2=>cases J
 rename_i i hi
 split at J
 case h_2=>cases J
 rename_i z M;obtain⟨vs,rfl,hl,hr⟩:=yWy (w:=w) (g:=g) (st:=st) J rfl;obtain⟨I,h1,h2,h3⟩:=sS (place:=U) qs zs vs.toArray cs (by rw[e1]; exact h) e3 e4 (by simpa using hl) (fun j d v V hv=>hr j d v V (by simpa using hv));refine⟨.agg I,?_,?_⟩
 ·refine run_build w t parts I ?_;unfold Program.built;unfold gE at E;rw[hi]
  split at E
  ·rename_i n e hu
   split at E
   ·rename_i ie ae;simp only[Db]at E;subst E;simp only[hu,M,ae,Value.cells];grind
   ·cases E
  ·rename_i fields hu
   split at E
   ·rename_i places Y;simp only[Db]at E;subst E;simp only[hu,M,Y,Value.cells];grind
   ·cases E
  ·cases E
 ·have:=RepV.agg (w:=w) (g:=g) (st:=st) cs I.toList (by simpa using h2) (fun i d v V hv=>h3 i d v V (by simpa using hv));omega
theorem Yu9{key:Nat}(h:RepV w g st (.ptr key off) v):∃ q,v=.pointer (some q):=by cases h; exact⟨_,rfl⟩
theorem Ype{E:D}(h:RepV w g st (.eptr E off) v):∃ q,v=.pointer (some q):=by cases h; exact⟨_,rfl⟩
theorem Yx5(J:SR base w g st){sp:List D→Option D}{r:D}(hE:YGe P f sp)(hi:Em st ds=some ys)(hr:sp ys=some r)(hl:ds.length=vs.length)
  (I:∀ (i:Nat) d v,ds[i]?=some d→vs[i]?=some v→RepV w g st d v) (he:execOp a.eval o=callFunc f vs.toArray)
  (hn:∀ v w' g',Go1 base w g st w' g' (if r.noRef then st else lend (ds.flatMap keys) st)→RepV w' g' (if r.noRef then st else lend (ds.flatMap keys) st) r v→next (a.put o.dst v) w'):o.wp P a w next Q:=by
 obtain⟨g1,M,_,U,aa,V⟩:=SI J hi;obtain⟨v,h1,Y⟩:=hE ys r hr w g1 _ vs (U.trans hl) (fun i y v hy hv=>V i y v hy (fun d hd=>I i d v hd hv));unfold Oper.wp;rw[he,h1]
 by_cases E:r.noRef=true
 ·exact hn v w g (by rw[if_pos E]; exact Go1.refl J) (Y _ _)
 ·exact hn v w g1 (by rw[if_neg E]; exact M) (Y _ _)
theorem Ypz(hT:TblOK P G T)(hS:SR base w g st)(hG:GlobOK G w g){fn:Func}{sp:List D→Option D}{r:D}(hfn:P.funcs[f]?=some fn)(hb:fn.body.isSome=true)(hname:(fn.name == "runtime.NumGoroutine")=false)(hf5:f<50000000)
  (hsp:T.p f=some sp) (hi:Em st ds=some ys) (hr:sp ys=some r) (hl:ds.length=vs.length) (hrep:∀ (i:Nat) d v,ds[i]?=some d→vs[i]?=some v→RepV w g st d v)
  (he:execOp a.eval o=callFunc f vs.toArray)
  (hn:∀ v w' g',Go1 base w g st w' g' (if r.noRef then st else lend (ds.flatMap keys) st)→RepV w' g' (if r.noRef then st else lend (ds.flatMap keys) st) r v→next (a.put o.dst v) w'):o.wp P a w next Q:=by
 obtain⟨g1,hgo,_,hyl,hpure,hyr⟩:=SI hS hi;have hC:Contract P G f sp:=((hT.p f sp hsp).resolve_right (fun⟨f',e,_⟩=>by omega)).2;have hc:=hC w g1 ys vs r hr (hG.mono hgo.im) hgo.sr.im (hyl.trans hl) (fun i y v hy hv=>(hyr i y v hy (fun d hd=>hrep i d v hd hv)).purA (ImLe.refl _ _) (hpure y (Aj hy))) hpure;unfold Oper.wp;rw[he]
 have hrun:(callFunc f vs.toArray).run P w=.ok (.enter f vs.toArray) w:=by
  have hbn:¬ fn.body=none:=by
   grind
  have hn':¬ fn.name= "runtime.NumGoroutine":=by simpa using hname
  simp[callFunc,hfn,hn',hbn]
 rw[hrun,Oper.upon_enter];refine hc.mono ?_;rintro e w' ⟨v,g',rfl,h1,h2,h3,h4,h5,h6⟩;have hbes:Beside w w':=⟨h6.os,h6.tape,h6.output,h6.size⟩
 by_cases hnr:r.noRef=true
 ·refine hn v w' {g with Im:=g.Im} ?_ (by rw[if_pos hnr]; exact tz h1 hnr);rw[if_pos hnr];refine hS.more hbes h6.block (fun _ _ h=>h) (fun _ _ h=>.inl h) (fun b o hb=>?_);have:w'.cell? ⟨b,o,none⟩=w.cell? ⟨b,o,none⟩:=by simp only[World.cell?,h6.block b (hS.im_lt hb)]
  rw[this]; exact hS.im b o hb
 ·refine hn v w' {g1 with Im:=g'.Im} ?_ ?_
  ·rw[if_neg hnr];exact hgo.trans (hgo.sr.more hbes h6.block (fun b o h=>(h3.im b o h).1) (fun b o h=>h4 b o h) h5)
  ·exact RepV.purR (g:=g') (g':={g1 with Im:=g'.Im}) ⟨fun b o h=>⟨h,rfl⟩,fun _ _ h _=>h⟩ h1 h2
theorem fe(hC:IContract P G f sp)(hS:SR base w g st)(hG:GlobOK G w g){r:D}
  (hr:sp ds st=some (r,st')) (hl:ds.length=vs.length) (hrep:∀ (i:Nat) d v,ds[i]?=some d→vs[i]?=some v→RepV w g st d v)
  (he:execOp a.eval o=callFunc f vs.toArray)
  (hn:∀ v w' g',Go1 base w g st w' g' st'→RepV w' g' st' r v→next (a.put o.dst v) w'):o.wp P a w next Q:=by
 obtain⟨⟨fn,hfn,hb,hname⟩,hc⟩:=hC;unfold Oper.wp;rw[he]
 have hrun:(callFunc f vs.toArray).run P w=.ok (.enter f vs.toArray) w:=by
  have hbn:¬ fn.body=none:=by
   grind
  have hn':¬ fn.name= "runtime.NumGoroutine":=by simpa using hname
  simp[callFunc,hfn,hn',hbn]
 rw[hrun,Oper.upon_enter];refine(hc base w g st st' ds vs r hr hS hG hl hrep).mono ?_;grind
theorem j0(J:TblOK P G T)(M:SR base w g st)(U:GlobOK G w g){r:D}
  (I:T.i f=some sp) (V:sp ds st=some (r,st')) (hl:ds.length=vs.length) (E:∀ (i:Nat) d v,ds[i]?=some d→vs[i]?=some v→RepV w g st d v)
  (Y:execOp a.eval o=callFunc f vs.toArray)
  (hn:∀ v w' g',Go1 base w g st w' g' st'→RepV w' g' st' r v→next (a.put o.dst v) w'):o.wp P a w next Q:=fe (J.i f sp I) M U V hl E Y hn
theorem yZk{sp:List D→St→Option (Nat×D×St)}(hC:Q6 P G f sp)(hS:SR base w g st)(hG:GlobOK G w g){t:Nat}{d:D}
  (hr:sp ds st=some (t,d,st')) (hl:ds.length=vs.length) (hrep:∀ (i:Nat) d v,ds[i]?=some d→vs[i]?=some v→RepV w g st d v)
  (he:execOp a.eval o=callFunc f vs.toArray)
  (hn:∀ w' g',Go1 base w g st w' g' st'→Q (.panic (LZ t d)) a w'):o.wp P a w next Q:=by
 obtain⟨⟨fn,hfn,hb,hname⟩,hc⟩:=hC;unfold Oper.wp;rw[he]
 have hrun:(callFunc f vs.toArray).run P w=.ok (.enter f vs.toArray) w:=by
  have hbn:¬ fn.body=none:=by
   grind
  have hn':¬ fn.name= "runtime.NumGoroutine":=by simpa using hname
  simp[callFunc,hfn,hn',hbn]
 rw[hrun,Oper.upon_enter];refine(hc base w g st st' ds vs t d hr hS hG hl hrep).mono ?_;grind
theorem Ylo(x:Operand){ty:TypeId}{pos:String}{after:Array Edge}{guard:Option (Nat×Bool)}(ab:TblOK P G T)(Y:SR base w g st)(hG:GlobOK G w g)(I:FR w g st fr a)(J:Dy P il (.move x)=some p)
  (M:p.exec T (Du G fr) st=some (d,st')) (hn:∀ v w' g',Go1 base w g st w' g' st'→RepV w' g' st' d v→next (a.put dst v) w'):Oper.wp P {dst:=dst,op:=.move x,type:=ty,pos:=pos,after:=after,guard:=guard} a w next Q:=by
 have U:∀ x E,DU x=some E→RepV w g st (Du G fr E) (a.eval x):=fun x E h=>GL hG I h;clear I;simp only[Dy,DH]at J;obtain⟨E,V,rfl⟩:=J;simp only[POp.exec,Db,Dx]at M;obtain⟨rfl,rfl⟩:=M;exact Gs (s:=pure (a.eval x)) Y (by simp[execOp]) rfl (U x E V) hn
theorem yXj(x:Operand){ty:TypeId}{pos:String}{after:Array Edge}{guard:Option (Nat×Bool)}(ab:TblOK P G T)(Y:SR base w g st)(hG:GlobOK G w g)(I:FR w g st fr a)(J:Dy P il (.assign x)=some p)
  (M:p.exec T (Du G fr) st=some (d,st')) (hn:∀ v w' g',Go1 base w g st w' g' st'→RepV w' g' st' d v→next (a.put dst v) w'):Oper.wp P {dst:=dst,op:=.assign x,type:=ty,pos:=pos,after:=after,guard:=guard} a w next Q:=by
 have U:∀ x E,DU x=some E→RepV w g st (Du G fr E) (a.eval x):=fun x E h=>GL hG I h;clear I;simp only[Dy,DH]at J;obtain⟨E,V,rfl⟩:=J;simp only[POp.exec,Db,Dx]at M;obtain⟨rfl,rfl⟩:=M;exact Gs (s:=pure (a.eval x)) Y (by simp[execOp]) rfl (U x E V) hn
theorem Yln(c x y:Operand){ty:TypeId}{pos:String}{after:Array Edge}{guard:Option (Nat×Bool)}(ab:TblOK P G T)(V:SR base w g st)(Y:GlobOK G w g)(M:FR w g st fr a)(E:Dy P il (.pick c x y)=some p)
  (I:p.exec T (Du G fr) st=some (d,st')) (hn:∀ v w' g',Go1 base w g st w' g' st'→RepV w' g' st' d v→next (a.put dst v) w'):Oper.wp P {dst:=dst,op:=.pick c x y,type:=ty,pos:=pos,after:=after,guard:=guard} a w next Q:=by
 have U:∀ x J,DU x=some J→RepV w g st (Du G fr J) (a.eval x):=fun x J h=>GL Y M h;clear M;simp only[Dy]at E
 split at E
 ·rename_i pc px py h1 h2 h3;simp only[Db]at E; subst E;simp only[POp.exec]at I
  split at I
  ·rename_i b hb;simp only[Db,Dx]at I;obtain⟨rfl,rfl⟩:=I;have hc:=U c pc h1;rw[hb]at hc;have hc:=L1 hc;refine Gs (s:=pure (if b then a.eval x else a.eval y)) V (by simp[execOp,hc,asBool]) rfl ?_ hn;grind
  ·cases I
 ·cases E
theorem Ycc(t:TypeId){ty:TypeId}{pos:String}{after:Array Edge}{guard:Option (Nat×Bool)}(ab:TblOK P G T)(Y:SR base w g st)(hG:GlobOK G w g)(M:FR w g st fr a)(U:Dy P il (.alloc t)=some p)
  (I:p.exec T (Du G fr) st=some (d,st')) (hn:∀ v w' g',Go1 base w g st w' g' st'→RepV w' g' st' d v→next (a.put dst v) w'):Oper.wp P {dst:=dst,op:=.alloc t,type:=ty,pos:=pos,after:=after,guard:=guard} a w next Q:=by
 have ac:∀ x J,DU x=some J→RepV w g st (Du G fr J) (a.eval x):=fun x J h=>GL hG M h;clear M;simp only[Dy,DH]at U;obtain⟨zd,E,rfl⟩:=U;simp only[POp.exec]at I
 split at I
 case isFalse=>cases I
 rename_i hc
 replace hc:zd.cells.all D.isCell=true:=hc
 simp only[Db,Dx]at I;obtain⟨rfl,rfl⟩:=I;unfold Iy at E
 split at E
 case h_2=>cases E
 rename_i i hi
 split at E
 case h_2=>cases E
 rename_i z V;refine Ov (s:=Instr.alloc t true (.tuple #[])) rfl (RunsTo.congr ?_ (yH (t:=t) Y hc (SN E))) hn;simp[Instr.alloc,zeroValue,typeInfo,hi,V]
theorem Yut(t:TypeId)(x:Operand){ty:TypeId}{pos:String}{after:Array Edge}{guard:Option (Nat×Bool)}(ab:TblOK P G T)(Y:SR base w g st)(hG:GlobOK G w g)(J:FR w g st fr a)(M:Dy P il (.box t x)=some p)
  (E:p.exec T (Du G fr) st=some (d,st')) (hn:∀ v w' g',Go1 base w g st w' g' st'→RepV w' g' st' d v→next (a.put dst v) w'):Oper.wp P {dst:=dst,op:=.box t x,type:=ty,pos:=pos,after:=after,guard:=guard} a w next Q:=by
 have U:∀ x I,DU x=some I→RepV w g st (Du G fr I) (a.eval x):=fun x I h=>GL hG J h;clear J;simp only[Dy,DH]at M;obtain⟨I,V,rfl⟩:=M;simp only[POp.exec]at E
 split at E
 case isFalse=>cases E
 rename_i hc;simp only[Db,Dx]at E;obtain⟨rfl,rfl⟩:=E;exact Ov (s:=Instr.box t (a.eval x)) rfl (RunsTo.congr rfl (yH (t:=t) Y hc (U x I V))) hn
theorem Yca(t:TypeId)(parts:Array (Nat×Operand)){ty:TypeId}{pos:String}{after:Array Edge}{guard:Option (Nat×Bool)}(ah:TblOK P G T)(J:SR base w g st)(Y:GlobOK G w g)(M:FR w g st fr a)(E:Dy P il (.build t parts)=some p)
  (U:p.exec T (Du G fr) st=some (d,st')) (hn:∀ v w' g',Go1 base w g st w' g' st'→RepV w' g' st' d v→next (a.put dst v) w'):Oper.wp P {dst:=dst,op:=.build t parts,type:=ty,pos:=pos,after:=after,guard:=guard} a w next Q:=by
 have V:∀ x I,DU x=some I→RepV w g st (Du G fr I) (a.eval x):=fun x I h=>GL Y M h;clear M;simp only[Dy]at E
 split at E
 case h_2=>cases E
 rename_i zs pl h1 h2;simp only[DH]at E;obtain⟨ps,h3,rfl⟩:=E;simp only[POp.exec,DH,Dx]at U;obtain⟨cs,h4,rfl,rfl⟩:=U;obtain⟨v,h5,h6⟩:=Yjg (P:=P) (parts:=parts.map fun(i,x)=>(i,a.eval x)) J V h1 h2 h3 (by simp) h4;exact Gs J rfl h5 h6 hn
theorem n7(hS:SR base w g st)(hG:GlobOK G w g)(hF:FR w g st fr a)(E:Dy P il (.buildSlice t len parts)=some p)
  (I:p.exec T (Du G fr) st=some (d,st')):∃ ps,(∀ (dst:Option Tmp) (ty:TypeId) (pos:String) (after:Array Edge) (guard:Option (Nat×Bool)),execOp a.eval {dst:=dst,op:=.buildSlice t len parts,type:=ty,pos:=pos,after:=after,guard:=guard}=(do pure (.value (← Instr.buildSlice t len ps))))∧∃ v w' g',(Instr.buildSlice t len ps).run P w=.ok v w'∧Go1 base w g st w' g' st'∧RepV w' g' st' d v∧wV base w' g' st' v:=by

 have ab:∀ x U,DU x=some U→RepV w g st (Du G fr U) (a.eval x):=fun x U h=>GL hG hF h;clear hF;simp only[Dy]at E
 split at E
 case h_2=>cases E
 rename_i e hu
 split at E
 case h_2=>cases E
 rename_i i hi
 split at E
 case h_2=>cases E
 rename_i z l hz hl;simp only[Ar,Db]at E;obtain⟨hlen,rfl⟩:=E;simp only[POp.exec]at I
 split at I
 case h_2=>cases I
 rename_i els V
 split at I
 case isFalse=>cases I
 rename_i hc;simp only[Db,Dx]at I;obtain⟨rfl,rfl⟩:=I;simp only[Ac,decide_eq_true_eq,Ag,beq_iff_eq]at hc;obtain⟨vs,e1,e2,e3⟩:=nt ab hl;obtain⟨g1,J,_,h1,h2,h3⟩:=SI hS V;have Y:∀ (i:Nat) d v,els[i]?=some d→vs[i]?=some v→RepV w g1 (lend ((l.map (Du G fr)).flatMap keys) st) d v:=fun i d v hd hv=>h3 i d v hd fun d' ad=>e3 i d' v ad hv;have ae:els.length=vs.length:=by rw[h1,Bc,e2]
 have M:(parts.map fun(i,x)=>(i,a.eval x)).toList=(vs.zipIdx 0).map fun x=>(x.2,x.1):=by rw[← e1]; simp
 generalize af:(parts.map fun(i,x)=>(i,a.eval x))=ps at M;obtain⟨v,w',g',r1,r2,r3,r4⟩:=Yjj (len:=len) (parts:=ps) J.sr hu hi hz rfl hc.1.2 h2 hc.1.1 ae Y hc.2 (by rw[e2,← hlen]) M;exact⟨ps,fun _ _ _ _ _=>by simp only[execOp,af],v,w',g',r1,J.trans r2,r3,r4⟩
theorem yFn(t:TypeId)(len:Nat)(parts:Array (Nat×Operand)){ty:TypeId}{pos:String}{after:Array Edge}{guard:Option (Nat×Bool)}(aa:TblOK P G T)(E:SR base w g st)(I:GlobOK G w g)(J:FR w g st fr a)(M:Dy P il (.buildSlice t len parts)=some p)
  (U:p.exec T (Du G fr) st=some (d,st')) (hn:∀ v w' g',Go1 base w g st w' g' st'→RepV w' g' st' d v→next (a.put dst v) w'):Oper.wp P {dst:=dst,op:=.buildSlice t len parts,type:=ty,pos:=pos,after:=after,guard:=guard} a w next Q:=by
 obtain⟨ps,he,v,w',g',r1,V,Y,_⟩:=n7 E I J M U;exact Ov (s:=Instr.buildSlice t len ps) (he ..) ⟨v,w',g',r1,V,Y⟩ hn
theorem yQo{e:TypeId}{d1:Nat}{d2:Option Nat}{ty ty2:TypeId}{pos pos2:String}{after after2:Array Edge}{guard guard2:Option (Nat×Bool)}{next2:Act→World→Prop}(hS:SR base w g st)(hG:GlobOK G w g)(hF:FR w g st fr a)(ht:Dy P il (.buildSlice t len parts)=some p)
  (hu:P.underlying t=some (.slice e)) (I:P.underlying e=some (.int .u8)) (J:d1<a.tmps.size)
  (hx:p.exec T (Du G fr) st=some (d,st')) (hn:∀ v w' g',Go1 base w g st w' g' st'→RepV w' g' st' d v→next2 ((a.put (some d1) v).put d2 v) w') :
  Oper.wp P {dst:=some d1,op:=.buildSlice t len parts,type:=ty,pos:=pos,after:=after,guard:=guard} a w (fun a' w'=>Oper.wp P {dst:=d2,op:=.convert t t (.tmp d1),type:=ty2,pos:=pos2,after:=after2,guard:=guard2} a' w' next2 Q) Q:=by
 obtain⟨ps,he,v,w',g',r1,M,r3,b,n,C,eC,rfl,hb,E,U⟩:=n7 hS hG hF ht hx;unfold Oper.wp;rw[he];simp only[Sem.run_bind,r1,Result.andThen_ok,Sem.run_pure,Oper.upon_value]
 have V:(a.put (some d1) (.slice (some ⟨b,0,none⟩) n n)).eval (.tmp d1)=.slice (some ⟨b,0,none⟩) n n:=by
  simp[Act.eval,Act.put,J]
 have Y:execOp (a.put (some d1) (.slice (some ⟨b,0,none⟩) n n)).eval {dst:=d2,op:=.convert t t (.tmp d1),type:=ty2,pos:=pos2,after:=after2,guard:=guard2}=(do pure (.value (← convert t t (.slice (some ⟨b,0,none⟩) n n)))):=by
  simp only[execOp,V]
 rw[Y]
 have aa:(convert t t (.slice (some ⟨b,0,none⟩) n n)).run P w'=.ok (.slice (some ⟨b,0,none⟩) n n) (w'.freeze ⟨b,C.size,none⟩ 1):=by
  have ab:w'.shape? b=some (eC,C.size):=by simp[World.shape?,hb]
  simp[convert,run_underlying hu,run_underlying I,markStringish,shape,freeze,Sem.run_bind,Sem.run,ab,Result.andThen]
 simp only[Sem.run_bind,aa,Result.andThen_ok,Sem.run_pure,Oper.upon_value];have hf:=Ygu (m:=C.size) M.sr hb E U;exact hn _ _ g' (M.trans hf) (hf.rep r3)
theorem Ylp(t:TypeId)(x:Operand){ty:TypeId}{pos:String}{after:Array Edge}{guard:Option (Nat×Bool)}(ah:TblOK P G T)(J:SR base w g st)(Y:GlobOK G w g)(M:FR w g st fr a)(E:Dy P il (.load t x)=some p)
  (U:p.exec T (Du G fr) st=some (d,st')) (hn:∀ v w' g',Go1 base w g st w' g' st'→RepV w' g' st' d v→next (a.put dst v) w'):Oper.wp P {dst:=dst,op:=.load t x,type:=ty,pos:=pos,after:=after,guard:=guard} a w next Q:=by
 have V:∀ x I,DU x=some I→RepV w g st (Du G fr I) (a.eval x):=fun x I h=>GL Y M h;clear M;simp only[Dy]at E
 split at E
 case h_2=>cases E
 rename_i I n ag h1 h2 h3;simp only[Db]at E; subst E;simp only[POp.exec,DH,Dx]at U;obtain⟨r,h4,rfl,rfl⟩:=U;obtain⟨v,h5,h6⟩:=uc (P:=P) J h3 h2 h4 (V x I h1);exact Gs (s:=Instr.loadAt t (a.eval x)) J rfl h5 h6 hn
theorem Yb6(t:TypeId)(x y:Operand){ty:TypeId}{pos:String}{after:Array Edge}{guard:Option (Nat×Bool)}(a0:TblOK P G T)(V:SR base w g st)(Y:GlobOK G w g)(M:FR w g st fr a)(E:Dy P il (.store t x y)=some p)
  (U:p.exec T (Du G fr) st=some (d,st')) (hn:∀ v w' g',Go1 base w g st w' g' st'→RepV w' g' st' d v→next (a.put dst v) w'):Oper.wp P {dst:=dst,op:=.store t x y,type:=ty,pos:=pos,after:=after,guard:=guard} a w next Q:=by
 have J:∀ x I,DU x=some I→RepV w g st (Du G fr I) (a.eval x):=fun x I h=>GL Y M h;clear M;simp only[Dy]at E
 split at E
 case h_2=>cases E
 rename_i I pb n h1 h2 h3;simp only[Db]at E; subst E;simp only[POp.exec,DH,Dx]at U;obtain⟨r,h4,rfl,rfl⟩:=U;obtain⟨w',g',h5,h6⟩:=Ydj (P:=P) V h3 h4 (J x I h1) (J y pb h2);unfold Oper.wp execOp;simp only[Sem.run_bind,h5,Result.andThen_ok,Sem.run_pure];exact hn undef w' g' h6 (.tup [] [] rfl (fun i d v h=>by simp at h))
theorem yMi(x:Operand){ty:TypeId}{pos:String}{after:Array Edge}{guard:Option (Nat×Bool)}(ah:TblOK P G T)(hS:SR base w g st)(hG:GlobOK G w g)(V:FR w g st fr a)(Y:Dy P il (.nilCheck x)=some p)
  (E:p.exec T (Du G fr) st=some (d,st')) (hn:∀ v w' g',Go1 base w g st w' g' st'→RepV w' g' st' d v→next (a.put dst v) w'):Oper.wp P {dst:=dst,op:=.nilCheck x,type:=ty,pos:=pos,after:=after,guard:=guard} a w next Q:=by
 have aa:∀ x J,DU x=some J→RepV w g st (Du G fr J) (a.eval x):=fun x J h=>GL hG V h;clear V;simp only[Dy,DH]at Y;obtain⟨J,ab,rfl⟩:=Y;have I:=aa x J ab;simp only[POp.exec]at E
 have key:∀ q,a.eval x=.pointer (some q)→RepV w g st d (a.eval x)→st'=st→Oper.wp P {dst:=dst,op:=.nilCheck x,type:=ty,pos:=pos,after:=after,guard:=guard} a w next Q:=by
  intro q U ac ad;subst ad;exact Gs (s:=pure (a.eval x)) hS (by simp[execOp,U]) rfl ac hn
 split at E
 ·rename_i key off M;simp only[Db,Dx]at E;obtain⟨rfl,rfl⟩:=E;rw[M]at I;obtain⟨q,U⟩:=Yu9 I;grind
 ·rename_i el off M;simp only[Db,Dx]at E;obtain⟨rfl,rfl⟩:=E;rw[M]at I;obtain⟨q,U⟩:=Ype I;grind
 ·rename_i kk tot i off M
  split at E
  ·rename_i hl;simp only[Db,Dx]at E;obtain⟨rfl,rfl⟩:=E;rw[M]at I;obtain⟨ob,_,_,_,U⟩:=jo hl I;grind
  ·cases E
 ·cases E
theorem Ycb(op:BinOp)(t:TypeId)(x y:Operand)(Y:TypeId){ty:TypeId}{pos:String}{after:Array Edge}{guard:Option (Nat×Bool)}(a8:TblOK P G T)(hS:SR base w g st)(hG:GlobOK G w g)(hF:FR w g st fr a)(U:Dy P il (.binOp op t x y Y)=some p)
  (V:p.exec T (Du G fr) st=some (d,st')) (hn:∀ v w' g',Go1 base w g st w' g' st'→RepV w' g' st' d v→next (a.put dst v) w'):Oper.wp P {dst:=dst,op:=.binOp op t x y Y,type:=ty,pos:=pos,after:=after,guard:=guard} a w next Q:=by
 have J:∀ x I,DU x=some I→RepV w g st (Du G fr I) (a.eval x):=fun x I h=>GL hG hF h;clear hF;simp only[Dy]at U
 split at U
 case h_2=>cases U
 rename_i I M h1 h2
 have a6:∀ op,p=.bin op I M→Oper.wp P {dst:=dst,op:=.binOp op t x y Y,type:=ty,pos:=pos,after:=after,guard:=guard} a w next Q:=by
  rintro op rfl;simp only[POp.exec,DH,Dx]at V;obtain⟨r,h4,rfl,rfl⟩:=V;obtain⟨⟨v,h5,h6⟩,h7,h8⟩:=Yms (P:=P) op t _ _ r _ _ h4 (J x I h1) (J y M h2);refine Gs (s:=do eqGuard op t x y (a.eval x) (a.eval y); binOp op t (a.eval x) (a.eval y)) hS rfl ?_ h6 hn;simp only[Sem.run_bind,fK op t x y _ _ h7 h8,Result.andThen_ok,h5]
 have heq:∀ neg:Bool,(match P.underlying t with
  |some (.int _) | some .string=>some (POp.bin (if neg then .neq else .eql) I M)
  |some .bool=>some (.beq neg I M)
  |some (.struct _) | some (.array _ _)=>match JA P 100 t with
   |some ks=>if P.eqGuardType P.depth t then none else some (.aeq ks neg I M)
   |none=>none
  |_=>none)=some p→Oper.wp P {dst:=dst,op:=.binOp (if neg then .neq else .eql) t x y Y,type:=ty,pos:=pos,after:=after,guard:=guard} a w next Q:=by
  intro neg E
  have ae:EH P t=some true→(match JA P 100 t with
   |some ks=>if P.eqGuardType P.depth t then none else some (POp.aeq ks neg I M)
   |none=>none)=some p→Oper.wp P {dst:=dst,op:=.binOp (if neg then .neq else .eql) t x y Y,type:=ty,pos:=pos,after:=after,guard:=guard} a w next Q:=by
   intro a3 E
   split at E
   case h_2=>cases E
   rename_i ks a4
   split at E
   case isTrue=>cases E
   rename_i hg;simp only[Db]at E; subst E;simp only[POp.exec,DH,Dx]at V;obtain⟨r,h4,rfl,rfl⟩:=V;obtain⟨⟨v,h5,h6⟩,xs,ys,h7,h8⟩:=Ymx (P:=P) a4 (by decide) a3 h4 (J x I h1) (J y M h2);refine Gs (s:=do eqGuard (if neg then .neq else .eql) t x y (a.eval x) (a.eval y); binOp (if neg then .neq else .eql) t (a.eval x) (a.eval y)) hS rfl ?_ h6 hn
   have a9:(eqGuard (if neg then .neq else .eql) t x y (a.eval x) (a.eval y)).run P w=.ok () w:=by
    rw[h7,h8];exact run_eqGuard_agg w _ t x y xs ys (by simpa using hg)
   simp_all
  split at E
  ·grind
  ·grind
  ·rename_i hu;simp only[Db]at E; subst E;simp only[POp.exec,DH,Dx]at V;obtain⟨r,h4,rfl,rfl⟩:=V;obtain⟨⟨v,h5,h6⟩,h7,h8⟩:=Ymt (P:=P) neg t hu _ _ r _ _ h4 (J x I h1) (J y M h2);refine Gs (s:=do eqGuard (if neg then .neq else .eql) t x y (a.eval x) (a.eval y); binOp (if neg then .neq else .eql) t (a.eval x) (a.eval y)) hS rfl ?_ h6 hn;simp only[Sem.run_bind,fK _ t x y _ _ h7 h8,Result.andThen_ok,h5]
  ·rename_i hu;exact ae (by simp[EH,hu]) E
  ·rename_i hu;exact ae (by simp[EH,hu]) E
  ·cases E
 unfold eL at U
 split at U
 ·exact heq false U
 ·exact heq true U
 ·grind
theorem Ylm(op:UnOp)(t:TypeId)(x:Operand){ty:TypeId}{pos:String}{after:Array Edge}{guard:Option (Nat×Bool)}(ae:TblOK P G T)(Y:SR base w g st)(hG:GlobOK G w g)(I:FR w g st fr a)(J:Dy P il (.unOp op t x)=some p)
  (M:p.exec T (Du G fr) st=some (d,st')) (hn:∀ v w' g',Go1 base w g st w' g' st'→RepV w' g' st' d v→next (a.put dst v) w'):Oper.wp P {dst:=dst,op:=.unOp op t x,type:=ty,pos:=pos,after:=after,guard:=guard} a w next Q:=by
 have U:∀ x E,DU x=some E→RepV w g st (Du G fr E) (a.eval x):=fun x E h=>GL hG I h;clear I;simp only[Dy,DH]at J;obtain⟨E,V,rfl⟩:=J;simp only[POp.exec,DH,Dx]at M;obtain⟨r,h4,rfl,rfl⟩:=M;obtain⟨v,h5,h6⟩:=Yu8 (P:=P) (w:=w) op _ r _ h4 (U x E V);exact Gs (s:=Op.unary op (a.eval x)) Y rfl h5 h6 hn
theorem yQq(J dt:TypeId)(x:Operand){ty:TypeId}{pos:String}{after:Array Edge}{guard:Option (Nat×Bool)}(a6:TblOK P G T)(hS:SR base w g st)(hG:GlobOK G w g)(hF:FR w g st fr a)(I:Dy P il (.convert J dt x)=some p)
  (V:p.exec T (Du G fr) st=some (d,st')) (hn:∀ v w' g',Go1 base w g st w' g' st'→RepV w' g' st' d v→next (a.put dst v) w'):Oper.wp P {dst:=dst,op:=.convert J dt x,type:=ty,pos:=pos,after:=after,guard:=guard} a w next Q:=by
 have a2:∀ x pa,DU x=some pa→RepV w g st (Du G fr pa) (a.eval x):=fun x pa h=>GL hG hF h;clear hF;simp only[Dy]at I
 split at I
 case h_2=>cases I
 rename_i pa a3;have U:=a2 x pa a3;unfold bM at I
 split at I
 ·rename_i u k Y hd;simp only[Db]at I; subst I;simp only[POp.exec,DH,Dx]at V;obtain⟨r,E,rfl,rfl⟩:=V;unfold FJ at E
  split at E <;> rename_i M hp <;> (try cases M) <;> (try (simp only[reduceCtorEq]at E))
  simp only[Db]at E; subst E;rw[hp]at U;have he:=Jb U;refine Gs (s:=convert J dt (a.eval x)) hS rfl ?_ (.int _ _) hn;rw[he];simp[convert,run_underlying Y,run_underlying hd,Conv.intToInt]
 ·rename_i Y hd;simp only[Db]at I; subst I;simp only[POp.exec,DH,Dx]at V;obtain⟨r,E,rfl,rfl⟩:=V;unfold FJ at E
  split at E <;> rename_i M hp <;> (try cases M) <;> (try (simp only[reduceCtorEq]at E))
  simp only[Db]at E; subst E;rw[hp]at U;have he:=MB U;refine Gs (s:=convert J dt (a.eval x)) hS rfl (v:=a.eval x) ?_ (by rw[he]; exact .str _) hn;rw[he];simp[convert,run_underlying Y,run_underlying hd]
 ·rename_i e Y hd
  split at I
  case h_2=>cases I
  rename_i ae;simp only[Db]at I; subst I;simp only[POp.exec,DH,Dx]at V;obtain⟨r,E,rfl,rfl⟩:=V;unfold FJ at E
  split at E <;> rename_i M hp <;> (try cases M) <;> (try (simp only[reduceCtorEq]at E))
  simp only[Db]at E; subst E;rw[hp]at U;have he:=MB U;refine Ov (s:=convert J dt (a.eval x)) rfl ?_ hn;rw[he];exact Yjb hS Y hd ae
 ·rename_i e Y hd
  split at I
  case h_2=>cases I
  rename_i ae;simp only[Db]at I; subst I;simp only[POp.exec,DH,Dx]at V;obtain⟨r,E,rfl,rfl⟩:=V;unfold FJ at E
  split at E <;> rename_i M hp <;> (try cases M) <;> (try (simp only[reduceCtorEq]at E))
  ·split at E
   case isFalse=>cases E
   rename_i ac;simp only[DH]at E;obtain⟨bs,a0,rfl⟩:=E;rw[hp]at U;simp only[Bb,beq_iff_eq,BJ]at ac;exact Gs (s:=convert J dt (a.eval x)) hS rfl (vO Y ae hd (Vt U) ac a0) (.str _) hn
  ·split at E
   case h_2=>cases E
   rename_i sz els a4
   split at E
   case isFalse=>cases E
   rename_i ac;simp only[DH]at E;obtain⟨bs,a0,rfl⟩:=E;rw[hp]at U;simp only[beq_iff_eq]at ac;exact Gs (s:=convert J dt (a.eval x)) hS rfl (vO Y ae hd (gK hS a4 U).1 (.inl ac) a0) (.str _) hn
 ·cases I
theorem yJe(t:TypeId)(l c:Operand){ty:TypeId}{pos:String}{after:Array Edge}{guard:Option (Nat×Bool)}(a4:TblOK P G T)(Y:SR base w g st)(hG:GlobOK G w g)(U:FR w g st fr a)(E:Dy P il (.makeSlice t l c)=some p)
  (I:p.exec T (Du G fr) st=some (d,st')) (hn:∀ v w' g',Go1 base w g st w' g' st'→RepV w' g' st' d v→next (a.put dst v) w'):Oper.wp P {dst:=dst,op:=.makeSlice t l c,type:=ty,pos:=pos,after:=after,guard:=guard} a w next Q:=by
 have J:∀ x M,DU x=some M→RepV w g st (Du G fr M) (a.eval x):=fun x M h=>GL hG U h;clear U;simp only[Dy]at E
 split at E
 case h_2=>cases E
 rename_i pl pc e h1 h2 hu
 split at E
 case h_2=>cases E
 rename_i i hi
 split at E
 case h_2=>cases E
 rename_i z hz;simp only[DH]at E;obtain⟨zd,V,rfl⟩:=E;simp only[POp.exec]at I
 split at I
 case h_2=>cases I
 rename_i nl nc h3 h4
 split at I
 case isFalse=>cases I
 rename_i hc;simp only[Db,Dx]at I;obtain⟨rfl,rfl⟩:=I;obtain⟨c1,c2,c3,c4,c5,c6⟩:=hc;exact Ov (s:=Instr.makeSlice t (a.eval l) (a.eval c)) rfl (Yes Y hu hi hz V rfl rfl c4 c5 c6 h3 h4 (J l pl h1) (J c pc h2) c1 c2 c3) hn
theorem Yb7(t:TypeId)(x:Operand)(lo hi U:Option Operand){ty:TypeId}{pos:String}{after:Array Edge}{guard:Option (Nat×Bool)}(a6:TblOK P G T)(V:SR base w g st)(hG:GlobOK G w g)(hF:FR w g st fr a)(E:Dy P il (.slice t x lo hi U)=some p)
  (M:p.exec T (Du G fr) st=some (d,st')) (hn:∀ v w' g',Go1 base w g st w' g' st'→RepV w' g' st' d v→next (a.put dst v) w'):Oper.wp P {dst:=dst,op:=.slice t x lo hi U,type:=ty,pos:=pos,after:=after,guard:=guard} a w next Q:=by
 have I:∀ x J,DU x=some J→RepV w g st (Du G fr J) (a.eval x):=fun x J h=>GL hG hF h;clear hF;simp only[Dy]at E
 split at E
 case h_2=>cases E
 rename_i J a7 a8 a9 h1 h2 h3 h4;have r2:=gD h2 rfl I;have r3:=gD h3 rfl I;have r4:=gD h4 rfl I;unfold cG at E
 split at E
 ·rename_i hu;simp only[Db]at E; subst E;simp only[POp.exec,DH,Dx]at M;obtain⟨r,Y,rfl,rfl⟩:=M;obtain⟨v,h6,h7⟩:=vb (P:=P) V (.inl ⟨rfl,hu⟩) Y (I x J h1) r2 r3 r4;exact Gs (s:=Instr.sliceAt t (a.eval x) (lo.map a.eval) (hi.map a.eval) (U.map a.eval)) V rfl h6 h7 hn
 ·rename_i e hu
  split at E
  case h_2=>cases E
  rename_i sz ac
  split at E
  case isTrue=>cases E
  rename_i h0;simp only[Db]at E; subst E;simp only[POp.exec,DH,Dx]at M;obtain⟨r,Y,rfl,rfl⟩:=M;obtain⟨v,h6,h7⟩:=vb (P:=P) V (.inr ⟨h0,e,hu,ac⟩) Y (I x J h1) r2 r3 r4;exact Gs (s:=Instr.sliceAt t (a.eval x) (lo.map a.eval) (hi.map a.eval) (U.map a.eval)) V rfl h6 h7 hn
 ·rename_i n e hu
  split at E
  case h_2=>cases E
  rename_i sz ag ac ba;simp only[Db]at E; subst E
  have hm:U=none:=by
   simp_all
  subst hm;simp only[POp.exec,DH,Dx]at M;obtain⟨r,Y,rfl,rfl⟩:=M;obtain⟨v,h6,h7⟩:=yQ8 (P:=P) hu ac Y (I x J h1) r2 r3;exact Gs (s:=Instr.sliceAt t (a.eval x) (lo.map a.eval) (hi.map a.eval) none) V rfl h6 h7 hn
 ·cases E
theorem yJg(s:TypeId)(x:Operand)(f:Nat){ty:TypeId}{pos:String}{after:Array Edge}{guard:Option (Nat×Bool)}(a0:TblOK P G T)(hS:SR base w g st)(hG:GlobOK G w g)(J:FR w g st fr a)(E:Dy P il (.fieldAddr s x f)=some p)
  (M:p.exec T (Du G fr) st=some (d,st')) (hn:∀ v w' g',Go1 base w g st w' g' st'→RepV w' g' st' d v→next (a.put dst v) w'):Oper.wp P {dst:=dst,op:=.fieldAddr s x f,type:=ty,pos:=pos,after:=after,guard:=guard} a w next Q:=by
 have U:∀ x I,DU x=some I→RepV w g st (Du G fr I) (a.eval x):=fun x I h=>GL hG J h;clear J;simp only[Dy]at E
 split at E
 case h_2=>cases E
 rename_i I fields h1 hu
 split at E
 case h_2=>cases E
 rename_i fd V
 split at E
 case h_2=>cases E
 rename_i n Y
 split at E
 case isTrue=>cases E
 rename_i h0;simp only[Db]at E; subst E;simp only[POp.exec,DH,Dx]at M;obtain⟨r,h5,rfl,rfl⟩:=M;obtain⟨v,h6,h7⟩:=ySg (P:=P) hu V Y h0 h5 (U x I h1);exact Gs (s:=Instr.fieldAt s (a.eval x) f) hS rfl h6 h7 hn
theorem Yb9(s:TypeId)(x:Operand)(f:Nat){ty:TypeId}{pos:String}{after:Array Edge}{guard:Option (Nat×Bool)}(a0:TblOK P G T)(hS:SR base w g st)(hG:GlobOK G w g)(J:FR w g st fr a)(E:Dy P il (.field s x f)=some p)
  (M:p.exec T (Du G fr) st=some (d,st')) (hn:∀ v w' g',Go1 base w g st w' g' st'→RepV w' g' st' d v→next (a.put dst v) w'):Oper.wp P {dst:=dst,op:=.field s x f,type:=ty,pos:=pos,after:=after,guard:=guard} a w next Q:=by
 have U:∀ x I,DU x=some I→RepV w g st (Du G fr I) (a.eval x):=fun x I h=>GL hG J h;clear J;simp only[Dy]at E
 split at E
 case h_2=>cases E
 rename_i I fields h1 hu
 split at E
 case h_2=>cases E
 rename_i fd V
 split at E
 case h_2=>cases E
 rename_i n ag Y aa;simp only[Db]at E; subst E;simp only[POp.exec,DH,Dx]at M;obtain⟨r,h5,rfl,rfl⟩:=M;obtain⟨v,h6,h7⟩:=Ydy (P:=P) hu V aa Y h5 (U x I h1);exact Gs (s:=Instr.field s (a.eval x) f) hS rfl h6 h7 hn
theorem yJf(t:TypeId)(x i:Operand){ty:TypeId}{pos:String}{after:Array Edge}{guard:Option (Nat×Bool)}(ah:TblOK P G T)(hS:SR base w g st)(hG:GlobOK G w g)(hF:FR w g st fr a)(E:Dy P il (.indexAddr t x i)=some p)
  (U:p.exec T (Du G fr) st=some (d,st')) (hn:∀ v w' g',Go1 base w g st w' g' st'→RepV w' g' st' d v→next (a.put dst v) w'):Oper.wp P {dst:=dst,op:=.indexAddr t x i,type:=ty,pos:=pos,after:=after,guard:=guard} a w next Q:=by
 have J:∀ x I,DU x=some I→RepV w g st (Du G fr I) (a.eval x):=fun x I h=>GL hG hF h;clear hF;simp only[Dy]at E
 split at E
 ·rename_i I pi len e V Y hu;simp only[DH]at E;obtain⟨n,M,rfl⟩:=E;simp only[POp.exec,DH,Dx]at U;obtain⟨r,h5,rfl,rfl⟩:=U;obtain⟨v,h6,h7⟩:=yDr (P:=P) hu M h5 (J x I V) (J i pi Y);exact Gs (s:=Instr.indexAt t (a.eval x) (a.eval i)) hS rfl h6 h7 hn
 ·rename_i I pi e V Y hu;simp only[DH]at E;obtain⟨n,M,rfl⟩:=E;simp only[POp.exec,DH,Dx]at U;obtain⟨r,h5,rfl,rfl⟩:=U;obtain⟨v,h6,h7⟩:=yFs (P:=P) hu M h5 (J x I V) (J i pi Y);exact Gs (s:=Instr.indexAt t (a.eval x) (a.eval i)) hS rfl h6 h7 hn
 ·cases E
theorem Yb8(t:TypeId)(x i:Operand){ty:TypeId}{pos:String}{after:Array Edge}{guard:Option (Nat×Bool)}(a0:TblOK P G T)(hS:SR base w g st)(hG:GlobOK G w g)(hF:FR w g st fr a)(E:Dy P il (.index t x i)=some p)
  (M:p.exec T (Du G fr) st=some (d,st')) (hn:∀ v w' g',Go1 base w g st w' g' st'→RepV w' g' st' d v→next (a.put dst v) w'):Oper.wp P {dst:=dst,op:=.index t x i,type:=ty,pos:=pos,after:=after,guard:=guard} a w next Q:=by
 have J:∀ x I,DU x=some I→RepV w g st (Du G fr I) (a.eval x):=fun x I h=>GL hG hF h;clear hF;simp only[Dy]at E
 split at E
 ·rename_i I pi len e U V hu
  split at E
  case h_2=>cases E
  rename_i n ag ae af;simp only[Db]at E; subst E;simp only[POp.exec,DH,Dx]at M;obtain⟨r,Y,rfl,rfl⟩:=M;obtain⟨v,h6,h7⟩:=Ydr (P:=P) hu af ae Y (J x I U) (J i pi V);exact Gs (s:=Instr.index t (a.eval x) (a.eval i)) hS rfl h6 h7 hn
 ·rename_i I pi U V hu;simp only[Db]at E; subst E;simp only[POp.exec,DH,Dx]at M;obtain⟨r,Y,rfl,rfl⟩:=M;obtain⟨v,h6,h7⟩:=Ymp (P:=P) hu Y (J x I U) (J i pi V);exact Gs (s:=Instr.index t (a.eval x) (a.eval i)) hS rfl h6 h7 hn
 ·cases E
theorem yQp(x:Operand)(i:Nat){ty:TypeId}{pos:String}{after:Array Edge}{guard:Option (Nat×Bool)}(ah:TblOK P G T)(hS:SR base w g st)(hG:GlobOK G w g)(M:FR w g st fr a)(U:Dy P il (.extract x i)=some p)
  (E:p.exec T (Du G fr) st=some (d,st')) (hn:∀ v w' g',Go1 base w g st w' g' st'→RepV w' g' st' d v→next (a.put dst v) w'):Oper.wp P {dst:=dst,op:=.extract x i,type:=ty,pos:=pos,after:=after,guard:=guard} a w next Q:=by
 have V:∀ x I,DU x=some I→RepV w g st (Du G fr I) (a.eval x):=fun x I h=>GL hG M h;clear M;simp only[Dy,DH]at U;obtain⟨I,h1,rfl⟩:=U;simp only[POp.exec]at E;have J:=V x I h1
 split at E
 ·rename_i vs hp;simp only[DH,Dx]at E;obtain⟨r,Y,rfl,rfl⟩:=E;rw[hp]at J;generalize hv:a.eval x=v at J
  cases J with
  |tup _ us h2 h3=>
   have hl:i<us.length:=by rw[← h2]; exact(Ab.1 Y).1
   refine Gs (s:=Instr.extract (a.eval x) i) hS rfl (v:=us[i]) ?_ (h3 i r _ Y (Ah hl)) hn;simp[hv,Instr.extract,hl]
 ·cases E
theorem yJd(t:TypeId)(m k v:Operand){ty:TypeId}{pos:String}{after:Array Edge}{guard:Option (Nat×Bool)}(a2:TblOK P G T)(V:SR base w g st)(Y:GlobOK G w g)(M:FR w g st fr a)(E:Dy P il (.mapUpdate t m k v)=some p)
  (U:p.exec T (Du G fr) st=some (d,st')) (hn:∀ v w' g',Go1 base w g st w' g' st'→RepV w' g' st' d v→next (a.put dst v) w'):Oper.wp P {dst:=dst,op:=.mapUpdate t m k v,type:=ty,pos:=pos,after:=after,guard:=guard} a w next Q:=by
 have I:∀ x J,DU x=some J→RepV w g st (Du G fr J) (a.eval x):=fun x J h=>GL Y M h;clear M;simp only[Dy]at E
 split at E
 case h_2=>cases E
 rename_i kt et sz ks pm pk pv h1 h2 h3 h4;simp only[Db]at E; subst E;simp only[POp.exec,DH,Dx]at U;obtain⟨r,h5,rfl,rfl⟩:=U;obtain⟨w',g',h6,h7⟩:=tw (P:=P) V h1 (I m pm h2) (I k pk h3) (I v pv h4) h5;unfold Oper.wp execOp;simp only[Sem.run_bind,h6,Result.andThen_ok,Sem.run_pure];exact hn undef w' g' h7 (.tup [] [] rfl (fun i d v h=>by simp at h))
theorem yXi(t:TypeId)(m k v:Operand){ty:TypeId}{pos:String}{after:Array Edge}{guard:Option (Nat×Bool)}(a2:TblOK P G T)(V:SR base w g st)(Y:GlobOK G w g)(M:FR w g st fr a)(E:Dy P il (.insert t m k v)=some p)
  (U:p.exec T (Du G fr) st=some (d,st')) (hn:∀ v w' g',Go1 base w g st w' g' st'→RepV w' g' st' d v→next (a.put dst v) w'):Oper.wp P {dst:=dst,op:=.insert t m k v,type:=ty,pos:=pos,after:=after,guard:=guard} a w next Q:=by
 have I:∀ x J,DU x=some J→RepV w g st (Du G fr J) (a.eval x):=fun x J h=>GL Y M h;clear M;simp only[Dy]at E
 split at E
 case h_2=>cases E
 rename_i kt et sz ks pm pk pv h1 h2 h3 h4;simp only[Db]at E; subst E;simp only[POp.exec,DH,Dx]at U;obtain⟨r,h5,rfl,rfl⟩:=U;obtain⟨w',g',h6,h7⟩:=tw (P:=P) V h1 (I m pm h2) (I k pk h3) (I v pv h4) h5;unfold Oper.wp execOp;simp only[Sem.run_bind,h6,Result.andThen_ok,Sem.run_pure];exact hn undef w' g' h7 (.tup [] [] rfl (fun i d v h=>by simp at h))
theorem yXh(t:TypeId)(m k:Operand)(ok:Bool){ty:TypeId}{pos:String}{after:Array Edge}{guard:Option (Nat×Bool)}(a1:TblOK P G T)(M:SR base w g st)(hG:GlobOK G w g)(hF:FR w g st fr a)(E:Dy P il (.lookup t m k ok)=some p)
  (J:p.exec T (Du G fr) st=some (d,st')) (hn:∀ v w' g',Go1 base w g st w' g' st'→RepV w' g' st' d v→next (a.put dst v) w'):Oper.wp P {dst:=dst,op:=.lookup t m k ok,type:=ty,pos:=pos,after:=after,guard:=guard} a w next Q:=by
 have I:∀ x U,DU x=some U→RepV w g st (Du G fr U) (a.eval x):=fun x U h=>GL hG hF h;clear hF;simp only[Dy]at E
 split at E
 case h_2=>
  split at E
  case h_2=>cases E
  rename_i zd pm V Y h2 h3;simp only[Db]at E; subst E;simp only[POp.exec,DH,Dx]at J;obtain⟨r,h5,rfl,rfl⟩:=J;obtain⟨v,h6,h7⟩:=Yoz (P:=P) Y (I m pm h2) (I k V h3) h5;exact Gs (s:=Instr.lookup t (a.eval m) (a.eval k) ok) M rfl h6 h7 hn
 rename_i kt et sz ks pm V Y h2 h3;simp only[DH]at E;obtain⟨zd,h4,rfl⟩:=E;simp only[POp.exec,DH,Dx]at J;obtain⟨r,h5,rfl,rfl⟩:=J;obtain⟨v,h6,h7⟩:=yYs (P:=P) M Y h4 (I m pm h2) (I k V h3) h5;exact Gs (s:=Instr.lookup t (a.eval m) (a.eval k) ok) M rfl h6 h7 hn
theorem yQn(t:TypeId)(J:Option Operand){ty:TypeId}{pos:String}{after:Array Edge}{guard:Option (Nat×Bool)}(aa:TblOK P G T)(V:SR base w g st)(Y:GlobOK G w g)(U:FR w g st fr a)(E:Dy P il (.makeMap t J)=some p)
  (I:p.exec T (Du G fr) st=some (d,st')) (hn:∀ v w' g',Go1 base w g st w' g' st'→RepV w' g' st' d v→next (a.put dst v) w'):Oper.wp P {dst:=dst,op:=.makeMap t J,type:=ty,pos:=pos,after:=after,guard:=guard} a w next Q:=by
 have ab:∀ x M,DU x=some M→RepV w g st (Du G fr M) (a.eval x):=fun x M h=>GL Y U h;clear U
 cases J with
 |some x=>simp[Dy]at E
 |none=>
  simp only[Dy]at E
  split at E
  case h_2=>cases E
  rename_i kt et sz ks h1;simp only[Db]at E; subst E;simp only[POp.exec]at I
  split at I
  case isFalse=>cases I
  rename_i hc;simp only[Db,Dx]at I;obtain⟨rfl,rfl⟩:=I;exact Ov (s:=Instr.makeMap t none) rfl (Yet (P:=P) (t:=t) V hc.1 hc.2) hn
theorem eU{es:List D}{E:List Value}(I:ds.length=vs.length)(J:∀ (i:Nat) d v,ds[i]?=some d→vs[i]?=some v→RepV w g st d v)(M:∀ (i:Nat) d v,es[i]?=some d→E[i]?=some v→RepV w g st d v) :
  ∀ (i:Nat) d v,(ds++es)[i]?=some d→(vs++E)[i]?=some v→RepV w g st d v:=by
 grind
theorem e9{ty:TypeId}{pos:String}{after:Array Edge}{guard:Option (Nat×Bool)}{J:PA}{l:List PA}(U:∀ x J,DU x=some J→RepV w g st (Du G fr J) (a.eval x))(M:c.callee=.value x)
  (ab:DU x=some J) (hl:IG c.args.toList=some l) (hc:(POp.callv J l).callee (Du G fr)=some (f,ds)) :
  ∃ vs:List Value,ds.length=vs.length∧(∀ (i:Nat) d v,ds[i]?=some d→vs[i]?=some v→RepV w g st d v)∧execOp a.eval {dst:=dst,op:=.call c,type:=ty,pos:=pos,after:=after,guard:=guard}=callFunc f vs.toArray:=by
 obtain⟨g1,g2⟩:=P4 U hl;have g1:(l.map (Du G fr)).length=(c.args.toList.map a.eval).length:=by simpa using g1
 have Y:=U x J ab;simp only[POp.callee]at hc
 split at hc
 case h_2=>cases hc
 rename_i f' ac aa;rw[aa]at Y;generalize I:a.eval x=xv at Y
 cases Y with
 |clo _ _ us hlen V=>
  by_cases E:f'<5000000
  ·rw[if_pos E]at hc;simp only[Db,Dx]at hc;obtain⟨rfl,rfl⟩:=hc;rw[Sl E,YP E,Yr E]at I;refine⟨c.args.toList.map a.eval++us,by rw[Ad,Ad,g1,hlen],eU g1 g2 V,?_⟩;simp only[execOp,resolve,M,I,Deferred.ofValue]
   have:(c.args.toList.map a.eval++us).toArray=c.args.map a.eval++us.toArray:=by
    grind
   rw[this];simp only[BO];rfl
  ·rw[if_neg E]at hc
   split at hc
   case isFalse=>cases hc
   rename_i ad;simp only[Db,Dx]at hc;obtain⟨rfl,rfl⟩:=hc;obtain⟨f,rfl⟩:∃ f,f'=f+5000000:=⟨f' - 5000000,by omega⟩;have hf:f<5000000:=by omega
   rw[p5 hf,vZ hf,uJ hf]at I;rw[Cq];refine⟨us++c.args.toList.map a.eval,by rw[Ad,Ad,g1,hlen],eU hlen V g2,?_⟩;simp only[execOp,resolve,M,I,Deferred.ofValue]
   have:(us++c.args.toList.map a.eval).toArray=us.toArray++c.args.map a.eval:=by
    grind
   rw[this];rfl
theorem Ylq(c:Call){ty:TypeId}{pos:String}{after:Array Edge}{guard:Option (Nat×Bool)}(hT:TblOK P G T)(Y:SR base w g st)(hG:GlobOK G w g)(hF:FR w g st fr a)(I:Dy P il (.call c)=some p)(b9:∀ x args f a3,p=.callv x args→Du G fr x=.clo f a3→f<10000000)
  (E:p.exec T (Du G fr) st=some (d,st')) (hn:∀ v w' g',Go1 base w g st w' g' st'→RepV w' g' st' d v→next (a.put dst v) w'):Oper.wp P {dst:=dst,op:=.call c,type:=ty,pos:=pos,after:=after,guard:=guard} a w next Q:=by
 have M:∀ x pa,DU x=some pa→RepV w g st (Du G fr pa) (a.eval x):=fun x pa h=>GL hG hF h;clear hF;simp only[Dy]at I
 split at I
 ·rename_i b hb
  -- a builtin
  have V:∀ l,c.args.toList=l→c.args=l.toArray:=fun l h=>by rw[← h,BE]
  have bb:∀ l,c.argTypes.toList=l→c.argTypes=l.toArray:=fun l h=>by rw[← h,BE]
  unfold YF at I
  split at I
  ·rename_i x t J e2;have J:=V _ J;have e2:=bb _ e2
   have ac:execOp a.eval {dst:=dst,op:=.call c,type:=ty,pos:=pos,after:=after,guard:=guard}=(do pure (.value (← Builtin.len_ #[t] ty #[a.eval x]))):=by
    simp[execOp,resolve,hb,J,e2,invoke,builtin]
   split at I
   ·rename_i pa h1 hu;simp only[Db]at I; subst I;simp only[POp.exec]at E
    split at E
    case isFalse=>cases E
    rename_i bc;simp only[DH,Dx]at E;obtain⟨n,h5,rfl,rfl⟩:=E;refine Gs Y ac (se (.inl hu) ⟨fun _=>?_,fun _=>hu⟩ h5 (M x pa h1) ty) (.int _ _) hn;cases hp:Du G fr pa <;> simp[hp,Jz]at bc;grind
   ·rename_i pa e h1 hu;simp only[Db]at I; subst I;simp only[POp.exec]at E
    split at E
    case isFalse=>cases E
    rename_i bc;simp only[DH,Dx]at E;obtain⟨n,h5,rfl,rfl⟩:=E;refine Gs Y ac (se (.inr ⟨e,hu⟩) ⟨(by intro h; rw[hu]at h; cases h),fun⟨s,hs⟩=>?_⟩ h5 (M x pa h1) ty) (.int _ _) hn;simp[hs,Jz]at bc
   ·rename_i pa n e h1 hu;simp only[Db]at I; subst I;simp only[POp.exec,Db,Dx]at E;obtain⟨rfl,rfl⟩:=E;refine Gs Y ac ?_ (.int _ _) hn;simp[Builtin.len_,run_underlying hu,goInt]
   ·cases I
  ·rename_i s x t tx J e2;have J:=V _ J;have e2:=bb _ e2
   have ac:execOp a.eval {dst:=dst,op:=.call c,type:=ty,pos:=pos,after:=after,guard:=guard}=(do pure (.value (← Builtin.append_ #[t,tx] ty #[a.eval s,a.eval x]))):=by
    simp[execOp,resolve,hb,J,e2,invoke,builtin]
   have fin:∀ ps px e,DU s=some ps→DU x=some px→P.underlying t=some (.slice e)→((∃ e',P.underlying tx=some (.slice e'))∨P.underlying tx=some .string)→(match P.info? e with
    |some i=>match i.zero with
     |some z=>if z.cells.size=i.size then some (POp.app i.size i.bytes ps px)else none
     |none=>none
    |none=>none)=some p→Oper.wp P {dst:=dst,op:=.call c,type:=ty,pos:=pos,after:=after,guard:=guard} a w next Q:=by
    intro ps px e h1 h2 hu ca hp
    split at hp
    case h_2=>cases hp
    rename_i i hi
    split at hp
    case h_2=>cases hp
    rename_i z hz
    split at hp
    case isFalse=>cases hp
    rename_i cb;simp only[Db]at hp; subst hp;simp only[POp.exec]at E;exact Ov ac (Ymu Y hu ca hi hz rfl rfl cb E (M s ps h1) (M x px h2)) hn
   split at I
   ·grind
   ·grind
   ·cases I
  ·rename_i x y t t2 J e2;have J:=V _ J;have e2:=bb _ e2
   split at I
   case h_2=>cases I
   rename_i px py e h1 h2 hu
   split at I
   case h_2=>cases I
   rename_i cc;simp only[Db]at I; subst I;simp only[POp.exec]at E;exact Ov (s:=Builtin.copy_ #[t,t2] ty #[a.eval x,a.eval y]) (by simp[execOp,resolve,hb,J,e2,invoke,builtin]) (Yyc Y hu cc (M x px h1) (M y py h2) E) hn
  ·rename_i x y J;have J:=V _ J
   split at I
   case h_2=>cases I
   rename_i px py h1 h2;simp only[Db]at I; subst I;simp only[POp.exec]at E
   split at E
   case h_2=>cases E
   rename_i k n k' m ah a0;simp only[Db,Dx]at E;obtain⟨rfl,rfl⟩:=E;have r1:=M x px h1;have r2:=M y py h2;rw[ah]at r1;rw[a0]at r2;have q1:=Jb r1;have q2:=Jb r2;refine Gs (s:=Builtin.min_ c.argTypes ty #[a.eval x,a.eval y]) Y ?_ ?_ (.int k (if m<n then m else n)) hn
   ·simp[execOp,resolve,hb,J,invoke,builtin]
   ·simp[Builtin.min_,q1,q2,Builtin.min2]
  ·rename_i x y J;have J:=V _ J
   split at I
   case h_2=>cases I
   rename_i px py h1 h2;simp only[Db]at I; subst I;simp only[POp.exec]at E
   split at E
   case h_2=>cases E
   rename_i k n k' m ah a0;simp only[Db,Dx]at E;obtain⟨rfl,rfl⟩:=E;have r1:=M x px h1;have r2:=M y py h2;rw[ah]at r1;rw[a0]at r2;have q1:=Jb r1;have q2:=Jb r2;refine Gs (s:=Builtin.max_ c.argTypes ty #[a.eval x,a.eval y]) Y ?_ ?_ (.int k (if m > n then m else n)) hn
   ·simp[execOp,resolve,hb,J,invoke,builtin]
   ·simp[Builtin.max_,q1,q2,Builtin.max2]
  ·rename_i x y z J;have J:=V _ J
   split at I
   case h_2=>cases I
   rename_i px py pz h1 h2 h3;simp only[Db]at I; subst I;simp only[POp.exec]at E
   split at E
   case h_2=>cases E
   rename_i k n k' m k2 l ah a0 bd;simp only[Db,Dx]at E;obtain⟨rfl,rfl⟩:=E;have r1:=M x px h1;have r2:=M y py h2;have r3:=M z pz h3;rw[ah]at r1;rw[a0]at r2;rw[bd]at r3;have q1:=Jb r1;have q2:=Jb r2;have q3:=Jb r3;refine Gs (s:=Builtin.min_ c.argTypes ty #[a.eval x,a.eval y,a.eval z]) Y ?_ ?_ (.int k (Nv false (Nv false n m) l)) hn
   ·simp[execOp,resolve,hb,J,invoke,builtin]
   ·simp[Builtin.min_,q1,q2,q3,Builtin.min2,Nv]
  ·rename_i x y z J;have J:=V _ J
   split at I
   case h_2=>cases I
   rename_i px py pz h1 h2 h3;simp only[Db]at I; subst I;simp only[POp.exec]at E
   split at E
   case h_2=>cases E
   rename_i k n k' m k2 l ah a0 bd;simp only[Db,Dx]at E;obtain⟨rfl,rfl⟩:=E;have r1:=M x px h1;have r2:=M y py h2;have r3:=M z pz h3;rw[ah]at r1;rw[a0]at r2;rw[bd]at r3;have q1:=Jb r1;have q2:=Jb r2;have q3:=Jb r3;refine Gs (s:=Builtin.max_ c.argTypes ty #[a.eval x,a.eval y,a.eval z]) Y ?_ ?_ (.int k (Nv true (Nv true n m) l)) hn
   ·simp[execOp,resolve,hb,J,invoke,builtin]
   ·simp[Builtin.max_,q1,q2,q3,Builtin.max2,Nv]
  ·cases I
 ·rename_i f hf
  split at I
  case h_2=>cases I
  rename_i fn l cd hl
  have hex:execOp a.eval {dst:=dst,op:=.call c,type:=ty,pos:=pos,after:=after,guard:=guard}=callFunc f (c.args.toList.map a.eval).toArray:=by
   simp only[execOp,resolve,hf,Act.eval,Deferred.ofValue]
   have:(c.args.toList.map a.eval).toArray=c.args.map a.eval:=by
    grind
   rw[this];simp only[BO];rfl
  obtain⟨g1,g2⟩:=P4 M hl
  split at I
  case isFalse=>
   split at I
   case isTrue=>cases I
   simp only[Db]at I;subst I;simp only[POp.exec]at E
   split at E
   case h_2=>cases E
   rename_i sp ys U bf
   split at E
   case h_2=>cases E
   rename_i r hr;simp only[Db,Dx]at E;obtain⟨rfl,rfl⟩:=E;rcases hT.p _ _ U with⟨hC,_⟩ | ⟨f',e,hE⟩
   ·omega
   ·obtain rfl:f=f':=Nat.add_right_cancel e;exact Yx5 Y hE bf hr (by simpa using g1) g2 hex hn
  rename_i hc;simp only[Ac,AS,decide_eq_true_eq]at hc;simp only[Db]at I
  split at I
  ·subst I;simp only[POp.exec]at E
   split at E
   case h_2=>cases E
   rename_i sp U
   split at E
   case h_2=>cases E
   rename_i r hr;refine fe (hT.m f sp U) Y hG (ds:=l.map (Du G fr)) (vs:=c.args.toList.map a.eval) (r:=d) (st':=st') ?_ (by simpa using g1) g2 hex hn;grind
  split at I
  ·subst I;simp only[POp.exec]at E
   split at E
   case h_2=>cases E
   rename_i sp U;exact fe (hT.q f sp U) Y hG (ds:=l.map (Du G fr)) (vs:=c.args.toList.map a.eval) (r:=d) (st':=st') E (by simpa using g1) g2 hex hn
  split at I
  ·subst I;simp only[POp.exec]at E
   split at E
   case h_2=>cases E
   rename_i sp U;exact j0 hT Y hG (ds:=l.map (Du G fr)) (vs:=c.args.toList.map a.eval) U E (by simpa using g1) g2 hex hn
  ·subst I;simp only[POp.exec]at E
   split at E
   case h_2=>cases E
   rename_i sp ys U bf
   split at E
   case h_2=>cases E
   rename_i r hr;simp only[Db,Dx]at E;obtain⟨rfl,rfl⟩:=E;exact Ypz hT Y hG (ds:=l.map (Du G fr)) (vs:=c.args.toList.map a.eval) cd hc.1.1 hc.1.2 hc.2 U bf hr (by simpa using g1) g2 hex hn
 ·rename_i x c1 bg
  split at I
  case h_2=>cases I
  rename_i pa l b2 hl;simp only[Db]at I; subst I;simp only[POp.exec]at E
  split at E
  case h_2=>cases E
  rename_i f a3 a9;have bh:=b9 _ _ _ _ rfl a9
  by_cases ba:f<5000000
  ·rw[if_pos ba]at E
   split at E
   case h_2=>cases E
   rename_i sp U;obtain⟨vs,J,e2,e3⟩:=e9 (dst:=dst) (ty:=ty) (pos:=pos) (after:=after) (guard:=guard) M bg b2 hl (show(POp.callv pa l).callee (Du G fr)=some (f,l.map (Du G fr)++a3) by simp[POp.callee,a9,ba]);exact j0 hT Y hG U E J e2 e3 hn
  ·rw[if_neg ba,if_pos bh]at E
   split at E
   case h_2=>cases E
   rename_i sp U;obtain⟨vs,J,e2,e3⟩:=e9 (dst:=dst) (ty:=ty) (pos:=pos) (after:=after) (guard:=guard) M bg b2 hl (show(POp.callv pa l).callee (Du G fr)=some (f - 5000000,a3++l.map (Du G fr)) by simp[POp.callee,a9,ba,bh]);exact j0 hT Y hG U E J e2 e3 hn
 ·cases I
theorem yMj(fn:Fn)(first E:Array Operand){ty:TypeId}{pos:String}{after:Array Edge}{guard:Option (Nat×Bool)}(ae:TblOK P G T)(hS:SR base w g st)(hG:GlobOK G w g)(hF:FR w g st fr a)(I:Dy P il (.makeFunc fn first E)=some p)
  (M:p.exec T (Du G fr) st=some (d,st')) (hn:∀ v w' g',Go1 base w g st w' g' st'→RepV w' g' st' d v→next (a.put dst v) w'):Oper.wp P {dst:=dst,op:=.makeFunc fn first E,type:=ty,pos:=pos,after:=after,guard:=guard} a w next Q:=by
 have U:∀ x V,DU x=some V→RepV w g st (Du G fr V) (a.eval x):=fun x V h=>GL hG hF h;clear hF
 cases fn with
 |func f=>
  simp only[Dy]at I
  split at I
  case isFalse=>cases I
  rename_i J;simp only[decide_eq_true_eq]at J
  split at I
  ·rename_i hf;simp only[DH]at I;obtain⟨l,hl,rfl⟩:=I;simp only[POp.exec,Db,Dx]at M;obtain⟨rfl,rfl⟩:=M;obtain⟨g1,g2⟩:=P4 U hl;refine Gs (s:=Instr.makeFunc (.func f) (first.map a.eval) (E.map a.eval)) hS rfl (v:=.func (JM f) (QD f (E.toList.map a.eval)) (Rs f (E.toList.map a.eval))) ?_ (.clo f _ _ (by simpa using g1) g2) hn;rw[Sl J,YP J,Yr J]
   have Y:first.map a.eval=#[]:=by
    grind
   have h2:E.map a.eval=(E.toList.map a.eval).toArray:=by
    grind
   rw[Y,h2];rfl
  ·split at I
   case isFalse=>cases I
   rename_i hf;simp only[DH]at I;obtain⟨l,hl,rfl⟩:=I;simp only[POp.exec,Db,Dx]at M;obtain⟨rfl,rfl⟩:=M;obtain⟨g1,g2⟩:=P4 U hl;refine Gs (s:=Instr.makeFunc (.func f) (first.map a.eval) (E.map a.eval)) hS rfl (v:=.func (JM (f+5000000)) (QD (f+5000000) (first.toList.map a.eval)) (Rs (f+5000000) (first.toList.map a.eval))) ?_ (.clo (f+5000000) _ _ (by simpa using g1) g2) hn;rw[p5 J,vZ J,uJ J]
   have Y:E.map a.eval=#[]:=by
    grind
   have h2:first.map a.eval=(first.toList.map a.eval).toArray:=by
    grind
   rw[Y,h2];rfl
 |_=>simp[Dy]at I
def Wr(r:Option Nat):Fence:={Fence.wide with round:=r}
theorem Q5(E:∀ c,o.op≠.defer c)(h:o.wp P a w next Q):o.wpIn (Wr r) 0 P a w next Q:=by
 refine⟨fun _ _=>trivial,?_⟩;rw[Oper.semAt_eq _ _ _ E];unfold Oper.wp at h;generalize (execOp a.eval o).run P w=x at h ⊢
 cases x with
 |ok n w'=>
  cases n <;> simp only[Oper.upon]at h <;> simp only[Oper.uponIn] <;> first
   |exact h
   |exact h.elim
   |exact⟨(fun e=>by cases e),callsIn_wide.2 h⟩
   |exact⟨(fun e=>by cases e),fun c cs _=>let⟨v,w',r,s⟩:=h c cs; ⟨v,w',r,stepsIn_wide.2 s⟩⟩
 |halt x w'=>cases x <;> simp only[Oper.upon]at h <;> simp only[Oper.uponIn] <;> first | exact h | exact h.elim
theorem YOK.none{G:Dj}{w0:World}{g0:Ghost}{st0:St}:YOK P G (fun _ _ _=>none) base w0 g0 st0:=fun _ _ _ _ _ _ _ _ _ _ h=>by cases h
theorem Yay{l:Nat}(E:o.op=.call c)(hc:c.callee=.value x)(I:a.eval x=.func (.yield l) #[] #[])(V:c.args.toList.map a.eval=vs)
  (h:ss P base w g st st' l vs d) (hn:∀ v w' g',Go1 base w g st w' g' st'→RepV w' g' st' d v→next (a.put o.dst v) w'):o.wpIn (Wr r) 0 P a w next Q:=by
 obtain⟨f,tmps,assign,body,J,M⟩:=h;refine⟨fun _ _=>trivial,?_⟩;rw[Oper.semAt_eq _ _ _ (fun c' e=>by rw[E]at e; cases e)]
 have hex:execOp a.eval o=Instr.yield l vs.toArray:=by
  obtain⟨dst,op,ty,pos,after,guard⟩:=o;simp only at E;subst E
  have U:vs.toArray=c.args.map a.eval:=by
   grind
  simp only[execOp,resolve,hc,I,Deferred.ofValue,U,BO];rfl
 rw[hex,J,Oper.uponIn_round];refine⟨(fun e=>by cases e),?_⟩;refine RoundIn.mono (F:=Wr r) (n:=0) M ?_;grind
theorem YCj(I:TblOK P G T)(J:SR base w g st)(M:GlobOK G w g)(U:FR w g st fr a)(E:Dy P il o.op=some p)(aa:∀ x args f Y,p=.callv x args→Du G fr x=.clo f Y→f<10000000)(V:p.exec T (Du G fr) st=some (d,st'))
  (hn:∀ v w' g',Go1 base w g st w' g' st'→RepV w' g' st' d v→next (a.put o.dst v) w'):o.wp P a w next Q:=by
 obtain⟨dst,op,ty,pos,after,guard⟩:=o
 cases op with
 |move x=>exact Ylo x I J M U E V hn
 |assign x=>exact yXj x I J M U E V hn
 |pick c x y=>exact Yln c x y I J M U E V hn
 |alloc t=>exact Ycc t I J M U E V hn
 |box t x=>exact Yut t x I J M U E V hn
 |build t parts=>exact Yca t parts I J M U E V hn
 |buildSlice t len parts=>exact yFn t len parts I J M U E V hn
 |load t x=>exact Ylp t x I J M U E V hn
 |store t x y=>exact Yb6 t x y I J M U E V hn
 |nilCheck x=>exact yMi x I J M U E V hn
 |binOp op t x y yt=>exact Ycb op t x y yt I J M U E V hn
 |unOp op t x=>exact Ylm op t x I J M U E V hn
 |convert src dt x=>exact yQq src dt x I J M U E V hn
 |makeSlice t l c=>exact yJe t l c I J M U E V hn
 |slice t x lo hi mx=>exact Yb7 t x lo hi mx I J M U E V hn
 |fieldAddr s x f=>exact yJg s x f I J M U E V hn
 |field s x f=>exact Yb9 s x f I J M U E V hn
 |indexAddr t x i=>exact yJf t x i I J M U E V hn
 |index t x i=>exact Yb8 t x i I J M U E V hn
 |extract x i=>exact yQp x i I J M U E V hn
 |mapUpdate t m k v=>exact yJd t m k v I J M U E V hn
 |insert t m k v=>exact yXi t m k v I J M U E V hn
 |lookup t m k ok=>exact yXh t m k ok I J M U E V hn
 |makeMap t rs=>exact yQn t rs I J M U E V hn
 |call c=>exact Ylq c I J M U E aa V hn
 |makeFunc fn first Y=>exact yMj fn first Y I J M U E V hn
 |_=>simp[Dy]at E
theorem Ym7{w0:World}{g0:Ghost}{st0:St}(hT:TblOK P G T)(hY:YOK P G T.y base w0 g0 st0)(aa:Go1 base w0 g0 st0 w g st)(Y:GlobOK G w g)(hF:FR w g st fr a)(E:Dy P il o.op=some p)(M:p.exec T (Du G fr) st=some (d,st'))
  (hn:∀ v w' g',Go1 base w g st w' g' st'→RepV w' g' st' d v→next (a.put o.dst v) w'):o.wpIn (Wr r) 0 P a w next Q:=by
 have ab:∀ c,o.op≠.defer c:=fun c e=>by rw[e]at E; simp[Dy]at E
 by_cases hc:∃ x args f I,p=.callv x args∧Du G fr x=.clo f I∧¬ f<10000000
 ·obtain⟨x,args,f,I,rfl,U,ac⟩:=hc;have V:¬ f<5000000:=by omega
  simp only[POp.exec,U,if_neg ac,if_neg V]at M
  split at M
  case isFalse=>cases M
  rename_i a0;obtain rfl:I=[]:=by simpa using a0
  have hinv:∃ c xo,o.op=.call c∧c.callee=.value xo∧DU xo=some x∧IG c.args.toList=some args:=by
   clear hn M ab;generalize o.op=op at E
   cases op with
   |call c=>
    simp only[Dy]at E
    split at E
    ·rename_i b hb;unfold YF at E
     repeat' split at E
     all_goals first | cases E | (simp at E; done) | skip
    ·grind
    ·grind
    ·cases E
   |_=>exfalso; revert E; simp only[Dy,eL,bM,cG]; (repeat' split) <;> first | (simp; done) | (intro h; cases h; done) | (intro h; simp only[DH]at h; obtain⟨_,_,h⟩:=h; cases h; done) | (intro _; contradiction)
  obtain⟨c,xo,h1,h2,h4,h5⟩:=hinv;have hr:=GL Y hF h4;rw[U]at hr;obtain⟨e1,e2⟩:=P4 (fun x pa h=>GL (G:=G) Y hF h) h5;generalize J:a.eval xo=xv at hr
  cases hr with
  |clo _ _ us hlen a8=>
   obtain rfl:us=[]:=AQ hlen.symm;rw[Zh,YN]at J;unfold JM at J;rw[if_neg V,if_neg ac]at J;refine Yay (vs:=c.args.toList.map a.eval) h1 h2 J rfl (hY _ w g st st' _ _ d aa Y M (by simpa using e1) e2) hn
 ·refine Q5 ab ?_;exact YCj hT aa.sr Y hF E (fun x args f I e1 e2=>Classical.byContradiction fun e3=>hc ⟨x,args,f,I,e1,e2,e3⟩) M hn
end
end Go.Proofs.YtijnglngaogdjaaGreatDoor.PI
namespace Go.Proofs.YtijnglngaogdjaaGreatDoor.PI
open Go Go.RowKit
def POp.cls:POp→Nat
 |.mov _ | .pick _ _ _ | .bld _ _ | .bin _ _ _ | .beq _ _ _ | .aeq _ _ _ _ | .un _ _ | .sliceA _ _ _ _ _ _ | .fldv _ _ _ _ | .idx _ _ | .idxV _ _ _ _ _ | .lenA _ | .mm _ _ _ | .mm3 _ _ _ _ | .ext _ _ | .mkclo _ _=>0
 |.conv c _=>match c with
  |.str=>1
  |_=>0
 |.load _ _ _ | .nilc _ | .slice _ _ _ _ _ | .fld _ _ | .idxS _ _ _ | .idxA _ _ _ _ | .len _ _ | .mapget _ _ _ _ _ _ | .rcall _ _=>1
 |.bslc _ _ | .call _ _=>2
 |.box _ | .stor _ _ _ | .mkslc _ _ _ _ _ | .app _ _ _ _ | .icall _ _ | .mcall _ _ | .callv _ _ | .mkmap _ | .mapup _ _ _ _ _ | .cpy _ _ _ | .fail=>3
def PA.slot:PA→List Nat
 |.s n=>[n]
 |_=>[]
def PI.reads(i:PI):List Nat:=i.op.args.flatMap PA.slot++(Hp i.guard).map (·.1)
def POp.push:POp→Bool
 |.box _ | .mkslc _ _ _ _ _=>true
 |_=>false
def PI.apart(x y:PI):Bool:=
 (match x.dst with
  |some d=>!(y.reads.contains d) && y.dst != some d
  |none=>true) &&
 (match y.dst with
  |some d=>!(x.reads.contains d)
  |none=>true) &&
 (x.op.cls == 0 || y.op.cls == 0 || (decide (x.op.cls≤2) && (decide (y.op.cls≤2) || y.op.push)))
theorem Qe{α β:Type}{f g:α→β}:∀ {l:List α},(∀ x∈l,f x=g x)→l.map f=l.map g:=fun h=>BI h
variable {st:St}{ρ:PA→D}{T:Tbl}
theorem yZx{I:PA→D}(p:POp)(h:∀ x∈p.args,ρ x=I x):p.exec T ρ st=p.exec T I st:=by
 have opt:∀ (o:Option PA),(∀ x∈Hp o,ρ x=I x)→o.map ρ=o.map I:=by
  intro o M
  cases o with
  |none=>rfl
  |some x=>simp[M x (by simp[Hp])]
 cases p with
 |bld zero parts=>
  have:(parts.map fun p=>(p.1,p.2.1,ρ p.2.2))=parts.map fun p=>(p.1,p.2.1,I p.2.2):=Qe fun q E=>by
   rw[h q.2.2 (by simp only[POp.args,AU]; exact⟨q,E,rfl⟩)]
  simp only[POp.exec,this]
 |bslc sz parts=>
  have:parts.map ρ=parts.map I:=Qe fun q E=>h q E;simp only[POp.exec,this]
 |call f args=>
  have:args.map ρ=args.map I:=Qe fun q E=>h q E;simp only[POp.exec,this]
 |icall f args=>
  have:args.map ρ=args.map I:=Qe fun q E=>h q E;simp only[POp.exec,this]
 |mcall f args=>
  have:args.map ρ=args.map I:=Qe fun q E=>h q E;simp only[POp.exec,this]
 |rcall f args=>
  have:args.map ρ=args.map I:=Qe fun q E=>h q E;simp only[POp.exec,this]
 |mkclo f args=>
  have:args.map ρ=args.map I:=Qe fun q E=>h q E;simp only[POp.exec,this]
 |callv x args=>
  have:args.map ρ=args.map I:=Qe fun q E=>h q (by simp[POp.args,E]);simp only[POp.exec,this,h x (by simp[POp.args])]
 |slice sz x lo hi U=>
  simp only[POp.args,Av,AL]at h;simp only[POp.exec,h x (.inl rfl),opt lo (fun y J=>h y (.inr (.inl (.inl J)))),opt hi (fun y J=>h y (.inr (.inl (.inr J)))),opt U (fun y J=>h y (.inr (.inr J)))]
 |sliceA n sz ag x lo hi=>
  simp only[POp.args,Av,AL]at h;simp only[POp.exec,h x (.inl rfl),opt lo (fun y J=>h y (.inr (.inl J))),opt hi (fun y J=>h y (.inr (.inr J)))]
 |_=>
  simp only[POp.args,Av,AB,or_false,forall_eq_or_imp,forall_eq]at h;simp only[POp.exec,h]
abbrev lend1(k:Nat)(st:St):St:=st.modify k fun o=>{o with lent:=true}
theorem eS(st:St)(k key tot:Nat):E2 (lend1 k st) key tot=E2 st key tot:=by
 unfold E2;grind
theorem yXm(st:St)(k:Nat)(d:D):Fb (lend1 k st) d=Fb st d:=by
 cases d <;> simp only[Fb,eS]
theorem yRh(st:St)(k:Nat)(c:PConv)(d:D):FJ (lend1 k st) c d=FJ st c d:=by
 cases c <;> cases d <;> simp only[FJ,nq]
theorem yMx(st:St)(k sz:Nat)(x:D)(lo hi E:Option D):Hb (lend1 k st) sz x lo hi E=Hb st sz x lo hi E:=by
 cases x with
 |row key tot off len=>
  simp only[Hb,SP];grind
 |_=>simp only[Hb]
theorem yRe(st:St)(k sz:Nat)(x i:D):GM (lend1 k st) sz x i=GM st sz x i:=by
 unfold GM
 cases FZ i with
 |none=>rfl
 |some j=>
  grind
theorem u7(st:St)(k off:Nat)(x:D):FC (lend1 k st) off x=FC st off x:=by
 cases x <;> simp only[FC,eS]
theorem yRf(st:St)(k n sz:Nat)(x i:D):Jm (lend1 k st) n sz x i=Jm st n sz x i:=by
 simp only[Jm,u7]
theorem yRb(st:St)(k n:Nat)(ag:Bool)(p:D):Fy (lend1 k st) n ag p=Fy st n ag p:=by
 cases p with
 |ptr key off=>
  simp only[Fy,SP];grind
 |rptr key tot i off=>
  simp only[Fy,SP];grind
 |_=>simp only[Fy]
theorem yJu(st:St)(I sz:Nat)(ks:List Nat)(ok:Bool)(E m k:D):Js (lend1 I st) sz ks ok E m k=Js st sz ks ok E m k:=by
 cases m with
 |mapv key=>
  simp only[Js,SP]
  cases st[key]? with
  |none=>rfl
  |some o=>by_cases e:I=key <;> simp[e,Obj.isMap]
 |_=>simp only[Js]
theorem yY0(a b:Nat)(st:St):lend1 a (lend1 b st)=lend1 b (lend1 a st):=by
 apply Bg;grind
theorem YR(a:Nat):∀ (ks:List Nat) (st:St),lend ks (lend1 a st)=lend1 a (lend ks st)
 |[],_=>rfl
 |k::r,st=>by
  show lend r (lend1 k (lend1 a st))=lend1 a (lend r (lend1 k st))
  rw[yY0,YR a r]
theorem j4:∀ (ks qs:List Nat) (st:St),lend ks (lend qs st)=lend qs (lend ks st)
 |[],_,_=>rfl
 |k::r,qs,st=>by
  show lend r (lend1 k (lend qs st))=lend qs (lend r (lend1 k st))
  rw[← YR,j4 r qs]
theorem Ygt(st:St)(k key:Nat):((lend1 k st)[key]?).map Obj.see=(st[key]?).map Obj.see:=by
 rw[SP]
 cases st[key]? with
 |none=>rfl
 |some o=>by_cases e:k=key <;> simp[e,Obj.see]
theorem vf(st:St)(k:Nat):∀ l:List Nat,Hn (lend1 k st) l=Hn st l
 |[]=>rfl
 |a::l=>by simp only[Hn,Ygt,vf st k l]
theorem yN0(st:St)(k key:Nat):((lend1 k st)[key]?).isSome=(st[key]?).isSome:=by
 grind
theorem yMw(st:St)(k:Nat)(sp:List D→List (Option (Bool×Nat×List D))→Option D)(ds:List D):I2 sp ds (lend1 k st)=I2 sp ds st:=by
 unfold I2;simp only[yN0,vf]
theorem yZw(p:POp)(hc:p.cls≤2)(k:Nat)(st:St):p.exec T ρ (lend1 k st)=(p.exec T ρ st).map fun r=>(r.1,lend1 k r.2):=by
 have mp:∀ {α:Type} (o:Option α) (f:α→D),(o.map fun x=>(f x,lend1 k st))=(o.map fun x=>(f x,st)).map fun r=>(r.1,lend1 k r.2):=by
  intro α o f;cases o <;> rfl
 cases p with
 |mov x=>rfl
 |pick c x y=>simp only[POp.exec]; split <;> rfl
 |box x=>simp[POp.cls]at hc
 |bld zero parts=>simp only[POp.exec]; exact mp _ _
 |bslc sz parts=>
  simp only[POp.exec,YQ]
  split
  ·split
   ·simp only[Ae,YR]
   ·rfl
  ·rfl
 |load n ag x=>simp only[POp.exec,yRb]; exact mp _ _
 |stor n p x=>simp[POp.cls]at hc
 |nilc x=>
  simp only[POp.exec,eS]
  split
  ·rfl
  ·rfl
  ·grind
  ·rfl
 |bin op x y=>simp only[POp.exec]; exact mp _ _
 |beq neg x y=>simp only[POp.exec]; exact mp _ _
 |aeq ks neg x y=>simp only[POp.exec]; exact mp _ _
 |un op x=>simp only[POp.exec]; exact mp _ _
 |conv c x=>simp only[POp.exec,yRh]; exact mp _ _
 |mkslc sz bytes zero l c=>simp[POp.cls]at hc
 |slice sz x lo hi E=>simp only[POp.exec,yMx]; exact mp _ _
 |sliceA n sz ag x lo hi=>simp only[POp.exec]; exact mp _ _
 |fld off x=>simp only[POp.exec,u7]; exact mp _ _
 |fldv off n ag x=>simp only[POp.exec]; exact mp _ _
 |idxS sz x i=>simp only[POp.exec,yRe]; exact mp _ _
 |idxA n sz x i=>simp only[POp.exec,yRf]; exact mp _ _
 |idx x i=>simp only[POp.exec]; exact mp _ _
 |idxV l sz ag x i=>simp only[POp.exec]; exact mp _ _
 |len str x=>
  simp only[POp.exec,yXm]
  split
  ·simp_all
  ·rfl
 |lenA n=>rfl
 |app sz bytes s x=>simp[POp.cls]at hc
 |mm E x y=>simp only[POp.exec]; split <;> rfl
 |mm3 E x y z=>simp only[POp.exec]; split <;> rfl
 |rcall f args=>
  simp only[POp.exec,yMw]
  split
  ·exact mp _ _
  ·rfl
 |icall f args=>simp[POp.cls]at hc
 |mcall f args=>simp[POp.cls]at hc
 |fail=>simp[POp.cls]at hc
 |mkmap sz=>simp[POp.cls]at hc
 |mapup sz ks m k v=>simp[POp.cls]at hc
 |cpy sz d s=>simp[POp.cls]at hc
 |mapget sz ks ok zero m k=>simp only[POp.exec,yJu]; exact mp _ _
 |callv x args=>simp[POp.cls]at hc
 |mkclo f args=>rfl
 |call f args=>
  simp only[POp.exec,YQ]
  split
  ·split
   ·split
    ·rfl
    ·simp only[Ae,YR]
   ·rfl
  ·rfl
 |ext x i=>
  simp only[POp.exec]
  split
  ·exact mp _ id
  ·rfl
theorem jV{T:Tbl}{ρ:PA→D}(p:POp)(hc:p.cls≤2):∀ (ks:List Nat) (st:St),p.exec T ρ (lend ks st)=(p.exec T ρ st).map fun r=>(r.1,lend ks r.2)
 |[],st=>by cases h:p.exec T ρ st <;> simp[lend,h]
 |k::r,st=>by
  show p.exec T ρ (lend r (lend1 k st))=_
  rw[jV p hc r,yZw p hc k st];cases p.exec T ρ st <;> rfl
variable {d:D}{st':St}
theorem Yv(p:POp)(hc:p.cls≤2)(h:p.exec T ρ st=some (d,st')):∃ ks,st'=lend ks st:=by
 have mp:∀ {α:Type} (o:Option α) (f:α→D),(o.map fun x=>(f x,st))=some (d,st')→∃ ks,st'=lend ks st:=by
  intro α o f h;simp only[DH,Dx]at h;obtain⟨_,_,_,rfl⟩:=h;exact⟨[],rfl⟩
 cases p with
 |mov x=>simp only[POp.exec,Db,Dx]at h; exact⟨[],h.2.symm⟩
 |pick c x y=>
  simp only[POp.exec]at h
  split at h
  ·simp only[Db,Dx]at h; exact⟨[],h.2.symm⟩
  ·cases h
 |box x=>simp[POp.cls]at hc
 |bld zero parts=>simp only[POp.exec]at h; exact mp _ _ h
 |bslc sz parts=>
  simp only[POp.exec]at h;grind
 |load n ag x=>simp only[POp.exec]at h; exact mp _ _ h
 |stor n p x=>simp[POp.cls]at hc
 |nilc x=>
  simp only[POp.exec]at h
  split at h
  ·simp only[Db,Dx]at h; exact⟨[],h.2.symm⟩
  ·simp only[Db,Dx]at h; exact⟨[],h.2.symm⟩
  ·split at h
   ·simp only[Db,Dx]at h; exact⟨[],h.2.symm⟩
   ·cases h
  ·cases h
 |bin op x y=>simp only[POp.exec]at h; exact mp _ _ h
 |beq neg x y=>simp only[POp.exec]at h; exact mp _ _ h
 |aeq ks neg x y=>simp only[POp.exec]at h; exact mp _ _ h
 |un op x=>simp only[POp.exec]at h; exact mp _ _ h
 |conv c x=>simp only[POp.exec]at h; exact mp _ _ h
 |mkslc sz bytes zero l c=>simp[POp.cls]at hc
 |slice sz x lo hi E=>simp only[POp.exec]at h; exact mp _ _ h
 |sliceA n sz ag x lo hi=>simp only[POp.exec]at h; exact mp _ _ h
 |fld off x=>simp only[POp.exec]at h; exact mp _ _ h
 |fldv off n ag x=>simp only[POp.exec]at h; exact mp _ _ h
 |idxS sz x i=>simp only[POp.exec]at h; exact mp _ _ h
 |idxA n sz x i=>simp only[POp.exec]at h; exact mp _ _ h
 |idx x i=>simp only[POp.exec]at h; exact mp _ _ h
 |idxV l sz ag x i=>simp only[POp.exec]at h; exact mp _ _ h
 |len str x=>
  simp only[POp.exec]at h
  split at h
  ·exact mp _ (fun n:Nat=>D.int .i64 (n:Int)) h
  ·cases h
 |lenA n=>simp only[POp.exec,Db,Dx]at h; exact⟨[],h.2.symm⟩
 |app sz bytes s x=>simp[POp.cls]at hc
 |mm E x y=>
  simp only[POp.exec]at h
  split at h
  ·simp only[Db,Dx]at h; exact⟨[],h.2.symm⟩
  ·cases h
 |mm3 E x y z=>
  simp only[POp.exec]at h
  split at h
  ·simp only[Db,Dx]at h; exact⟨[],h.2.symm⟩
  ·cases h
 |rcall f args=>
  simp only[POp.exec]at h
  split at h
  ·exact mp _ id (by simpa using h)
  ·cases h
 |icall f args=>simp[POp.cls]at hc
 |mcall f args=>simp[POp.cls]at hc
 |fail=>simp[POp.cls]at hc
 |mkmap sz=>simp[POp.cls]at hc
 |mapup sz ks m k v=>simp[POp.cls]at hc
 |cpy sz d s=>simp[POp.cls]at hc
 |mapget sz ks ok zero m k=>simp only[POp.exec]at h; exact mp _ _ h
 |callv x args=>simp[POp.cls]at hc
 |mkclo f args=>simp only[POp.exec,Db,Dx]at h; exact⟨[],h.2.symm⟩
 |call f args=>
  simp only[POp.exec]at h
  split at h
  ·split at h
   ·simp only[Db,Dx]at h;obtain⟨_,rfl⟩:=h
    split
    ·exact⟨[],rfl⟩
    ·grind
   ·cases h
  ·cases h
 |ext x i=>
  simp only[POp.exec]at h
  split at h
  ·exact mp _ id h
  ·cases h
theorem jW(p:POp)(hc:p.cls=0)(h:p.exec T ρ st=some (d,st')):st'=st∧∀ st2,p.exec T ρ st2=some (d,st2):=by
 have mp:∀ {α:Type} (o:Option α) (f:α→D),(o.map fun x=>(f x,st))=some (d,st')→st'=st∧∀ st2:St,(o.map fun x=>(f x,st2))=some (d,st2):=by
  simp_all
 cases p with
 |mov x=>simp only[POp.exec,Db,Dx]at h ⊢; exact⟨h.2.symm,fun st2=>⟨h.1,trivial⟩⟩
 |pick c x y=>
  simp only[POp.exec]at h ⊢
  split at h
  ·grind
  ·cases h
 |bld zero parts=>simp only[POp.exec]at h ⊢; exact mp _ _ h
 |bin op x y=>simp only[POp.exec]at h ⊢; exact mp _ _ h
 |beq neg x y=>simp only[POp.exec]at h ⊢; exact mp _ _ h
 |aeq ks neg x y=>simp only[POp.exec]at h ⊢; exact mp _ _ h
 |un op x=>simp only[POp.exec]at h ⊢; exact mp _ _ h
 |conv c x=>
  cases c with
  |str=>simp[POp.cls]at hc
  |int k=>
   have e:∀ st2,FJ st2 (.int k) (ρ x)=FJ st (.int k) (ρ x):=fun st2=>by cases ρ x <;> simp only[FJ]
   simp only[POp.exec]at h ⊢;obtain⟨E,I⟩:=mp _ _ h;grind
  |bytes=>
   have e:∀ st2,FJ st2 .bytes (ρ x)=FJ st .bytes (ρ x):=fun st2=>by cases ρ x <;> simp only[FJ]
   simp only[POp.exec]at h ⊢;obtain⟨E,I⟩:=mp _ _ h;grind
  |same=>
   have e:∀ st2,FJ st2 .same (ρ x)=FJ st .same (ρ x):=fun st2=>by cases ρ x <;> simp only[FJ]
   simp only[POp.exec]at h ⊢;obtain⟨E,I⟩:=mp _ _ h;grind
 |sliceA n sz ag x lo hi=>simp only[POp.exec]at h ⊢; exact mp _ _ h
 |fldv off n ag x=>simp only[POp.exec]at h ⊢; exact mp _ _ h
 |idx x i=>simp only[POp.exec]at h ⊢; exact mp _ _ h
 |idxV l sz ag x i=>simp only[POp.exec]at h ⊢; exact mp _ _ h
 |mkclo f args=>simp only[POp.exec,Db,Dx]at h ⊢; exact⟨h.2.symm,fun st2=>⟨h.1,trivial⟩⟩
 |lenA n=>simp only[POp.exec,Db,Dx]at h ⊢; exact⟨h.2.symm,fun st2=>⟨h.1,trivial⟩⟩
 |mm J x y=>
  simp only[POp.exec]at h ⊢
  split at h
  ·grind
  ·cases h
 |mm3 J x y z=>
  simp only[POp.exec]at h ⊢
  split at h
  ·grind
  ·cases h
 |ext x i=>
  simp only[POp.exec]at h ⊢
  split at h
  ·exact mp _ id h
  ·cases h
 |_=>simp[POp.cls]at hc
theorem dq(fr:Frame){x y:Option Nat}(u v:D)(h:∀ d,x=some d→y≠some d):(fr.put x u).put y v=(fr.put y v).put x u:=by
 cases x with
 |none=>rfl
 |some a=>
  cases y with
  |none=>rfl
  |some b=>
   have E:a≠b:=fun e=>h a rfl (e ▸ rfl)
   funext t
   simp only[Frame.put,Frame.set];grind
theorem Yo1{k:Nat}{a:Obj}(o:Obj)(h:st[k]?=some a):(st++[o])[k]?=some a:=by
 grind
variable {key off tot:Nat}
theorem we{len:Nat}{r:Nat×List D}(o:Obj)(h:HR st key tot off len=some r):HR (st++[o]) key tot off len=some r:=by
 unfold HR at h ⊢;grind
variable {ag:Bool}{n sz:Nat}
theorem Yjl{r:List D}(o:Obj)(h:Ib st key off n sz ag=some r):Ib (st++[o]) key off n sz ag=some r:=by
 unfold Ib Lv at h ⊢;grind
variable {y:D}
theorem tE(o:Obj)(h:DC st d=some y):DC (st++[o]) d=some y:=by
 cases d <;> simp only[DC]at h ⊢ <;> first
  |exact h
  |(simp only[DH]at h ⊢
    obtain⟨r,E,I⟩:=h;exact⟨r,we o E,I⟩)
  |(simp only[DH]at h ⊢
    obtain⟨r,E,I⟩:=h;exact⟨r,Yjl o E,I⟩)
theorem tI{st:St}(o:Obj):∀ {ds ys:List D},D3 st ds=some ys→D3 (st++[o]) ds=some ys
 |[],ys,h=>h
 |d::l,ys,h=>by
  simp only[D3]at h ⊢
  split at h
  ·rename_i x y E I;rw[tE o E,tI o I]; exact h
  ·cases h
theorem Yoh(o:Obj)(h:DV st d=some y):DV (st++[o]) d=some y:=by
 cases d <;> simp only[DV]at h ⊢ <;> first
  |exact tE o h
  |(simp only[DH]at h ⊢
    obtain⟨r,E,I⟩:=h;exact⟨r,tI o E,I⟩)
  |(cases h; done)
theorem j2{st:St}(o:Obj):∀ {ds ys:List D},Em st ds=some ys→Em (st++[o]) ds=some ys
 |[],ys,h=>h
 |d::l,ys,h=>by
  simp only[Em]at h ⊢
  split at h
  ·rename_i x y E I;rw[Yoh o E,j2 o I]; exact h
  ·cases h
theorem j9(o:Obj)(h:E2 st key tot=true):E2 (st++[o]) key tot=true:=by
 unfold E2 at h ⊢;grind
theorem Ycn(o:Obj)(h:Fb st d=some n):Fb (st++[o]) d=some n:=by
 cases d <;> simp only[Fb]at h ⊢ <;> first
  |exact h
  |(split at h
    ·rename_i hl;rw[j9 o hl]; simpa using h
    ·cases h)
theorem yYe{c:PConv}(o:Obj)(h:FJ st c d=some y):FJ (st++[o]) c d=some y:=by
 cases c <;> cases d <;> simp only[FJ]at h ⊢ <;> first
  |exact h
  |(split at h
    ·rename_i sz els E;rw[we o E]; exact h
    ·cases h)
variable {x:D}
theorem yQ6{lo hi E:Option D}(o:Obj)(h:Hb st sz x lo hi E=some y):Hb (st++[o]) sz x lo hi E=some y:=by
 cases x with
 |row key tot off len=>
  simp only[Hb]at h ⊢;grind
 |_=>simpa only[Hb]using h
theorem yX5{i:D}(o:Obj)(h:GM st sz x i=some y):GM (st++[o]) sz x i=some y:=by
 unfold GM at h ⊢
 cases hn:FZ i with
 |none=>simp[hn]at h
 |some j=>
  grind
theorem tZ(o:Obj)(h:FC st off x=some y):FC (st++[o]) off x=some y:=by
 cases x <;> simp only[FC]at h ⊢ <;> first
  |exact h
  |(split at h
    ·rename_i hl;rw[j9 o hl]; simpa using h
    ·cases h)
theorem yX7{i:D}(o:Obj)(h:Jm st n sz x i=some y):Jm (st++[o]) n sz x i=some y:=by
 unfold Jm at h ⊢
 cases hn:FZ i with
 |none=>simp[hn]at h
 |some j=>
  rw[hn]at h;simp only at h ⊢
  split at h
  ·rename_i hj;rw[if_pos hj]; exact tZ o h
  ·cases h
theorem yX0{p:D}(o:Obj)(h:Fy st n ag p=some y):Fy (st++[o]) n ag p=some y:=by
 unfold Fy at h ⊢;grind
theorem yMz{ks:List Nat}{ok:Bool}{E m k:D}(o:Obj)(h:Js st sz ks ok E m k=some y):Js (st++[o]) sz ks ok E m k=some y:=by
 unfold Js at h ⊢;grind
theorem tC(h:DC st d=some y):∀ k∈Fs d,k<st.length:=by
 cases d with
 |row key tot off len=>
  simp only[DC,DH]at h;obtain⟨r,E,_⟩:=h;unfold HR at E
  split at E
  ·rename_i a ha;intro k hk;simp only[Fs,AJ]at hk;grind
  ·cases E
 |bsl key off n sz ag=>
  simp only[DC,DH]at h;obtain⟨r,E,_⟩:=h;intro k hk;simp only[Fs,AJ]at hk;subst hk;unfold Ib Lv at E;grind
 |_=>intro k hk; simp[Fs]at hk
theorem tG{st:St}:∀ {ds ys:List D},D3 st ds=some ys→∀ k∈ds.flatMap Fs,k<st.length
 |[],_,_=>fun k hk=>by simp at hk
 |d::l,ys,h=>by
  simp only[D3]at h
  split at h
  ·rename_i x y E I;intro k hk;simp only[Au,AL]at hk;rcases hk with hk | hk
   ·exact tC E k hk
   ·exact tG I k hk
  ·cases h
theorem Yoi(h:DV st d=some y):∀ k∈keys d,k<st.length:=by
 cases d with
 |agg l=>
  simp only[DV,DH]at h;obtain⟨r,E,_⟩:=h;exact tG E
 |tup l=>simp[DV]at h
 |_=>simp only[DV]at h; exact tC h
theorem j1{st:St}:∀ {ds ys:List D},Em st ds=some ys→∀ k∈ds.flatMap keys,k<st.length
 |[],_,_=>fun k hk=>by simp at hk
 |d::l,ys,h=>by
  simp only[Em]at h
  split at h
  ·rename_i x y E I;intro k hk;simp only[Au,AL]at hk;rcases hk with hk | hk
   ·exact Yoi E k hk
   ·exact j1 I k hk
  ·cases h
theorem Qb:∀ (ks:List Nat) (st:St),(lend ks st).length=st.length
 |[],_=>rfl
 |k::r,st=>by rw[lend,Qb r,List.length_modify]
theorem j5{o:Obj}:∀ (ks:List Nat) (st:St),(∀ k∈ks,k<st.length)→lend ks (st++[o])=lend ks st++[o]
 |[],_,_=>rfl
 |k::r,st,h=>by
  have E:(st++[o]).modify k (fun o=>{o with lent:=true})=st.modify k (fun o=>{o with lent:=true})++[o]:=by
   apply Bg;grind
  rw[lend,lend,E,j5 r _ (fun q I=>by rw[List.length_modify]; exact h q (by simp[I]))]
theorem tQ{st:St}(o:Obj):∀ {l:List Nat},l.all (fun k=>(st[k]?).isSome)=true→Hn (st++[o]) l=Hn st l
 |[],_=>rfl
 |a::l,h=>by
  simp only[AY,Ac]at h;obtain⟨x,E⟩:=Option.isSome_iff_exists.1 h.1;simp only[Hn,Yo1 o E,E,tQ o h.2]
theorem yQ4(o:Obj){sp:List D→List (Option (Bool×Nat×List D))→Option D}{ds:List D}(h:I2 sp ds st=some d):I2 sp ds (st++[o])=some d:=by
 unfold I2 at h ⊢
 split at h
 case isFalse=>cases h
 rename_i hc
 rw[if_pos (by
  grind),tQ o hc]
 exact h
theorem Yhd{o:Obj}(p:POp)(hc:p.cls≤2)(h:p.exec T ρ st=some (d,st')):p.exec T ρ (st++[o])=some (d,st'++[o]):=by
 have mp:∀ {α:Type} (a b:Option α) (f:α→D),(∀ y,a=some y→b=some y)→(a.map fun x=>(f x,st))=some (d,st')→(b.map fun x=>(f x,st++[o]))=some (d,st'++[o]):=by
  simp_all
 cases p with
 |mov x=>simp only[POp.exec,Db,Dx]at h ⊢; exact⟨h.1,by rw[h.2]⟩
 |pick c x y=>
  simp only[POp.exec]at h ⊢
  split at h
  ·grind
  ·cases h
 |box x=>simp[POp.cls]at hc
 |bld zero parts=>simp only[POp.exec]at h ⊢; exact mp _ _ _ (fun _ h=>h) h
 |bslc sz parts=>
  simp only[POp.exec]at h ⊢
  split at h
  ·rename_i els he;rw[j2 o he];simp only
   split at h
   ·rename_i I;rw[if_pos I];simp only[Db,Dx]at h ⊢;exact⟨h.1,by rw[← h.2,j5 _ _ (j1 he)]⟩
   ·cases h
  ·cases h
 |load n ag x=>simp only[POp.exec]at h ⊢; exact mp _ _ _ (fun _ h=>yX0 o h) h
 |stor n p x=>simp[POp.cls]at hc
 |nilc x=>
  simp only[POp.exec]at h ⊢
  split at h
  ·grind
  ·grind
  ·split at h
   ·rename_i hl;rw[j9 o hl];grind
   ·cases h
  ·cases h
 |bin op x y=>simp only[POp.exec]at h ⊢; exact mp _ _ _ (fun _ h=>h) h
 |beq neg x y=>simp only[POp.exec]at h ⊢; exact mp _ _ _ (fun _ h=>h) h
 |aeq ks neg x y=>simp only[POp.exec]at h ⊢; exact mp _ _ _ (fun _ h=>h) h
 |un op x=>simp only[POp.exec]at h ⊢; exact mp _ _ _ (fun _ h=>h) h
 |conv c x=>simp only[POp.exec]at h ⊢; exact mp _ _ _ (fun _ h=>yYe o h) h
 |mkslc sz bytes zero l c=>simp[POp.cls]at hc
 |slice sz x lo hi J=>simp only[POp.exec]at h ⊢; exact mp _ _ _ (fun _ h=>yQ6 o h) h
 |sliceA n sz ag x lo hi=>simp only[POp.exec]at h ⊢; exact mp _ _ _ (fun _ h=>h) h
 |fld off x=>simp only[POp.exec]at h ⊢; exact mp _ _ _ (fun _ h=>tZ o h) h
 |fldv off n ag x=>simp only[POp.exec]at h ⊢; exact mp _ _ _ (fun _ h=>h) h
 |idxS sz x i=>simp only[POp.exec]at h ⊢; exact mp _ _ _ (fun _ h=>yX5 o h) h
 |idxA n sz x i=>simp only[POp.exec]at h ⊢; exact mp _ _ _ (fun _ h=>yX7 o h) h
 |idx x i=>simp only[POp.exec]at h ⊢; exact mp _ _ _ (fun _ h=>h) h
 |idxV l sz ag x i=>simp only[POp.exec]at h ⊢; exact mp _ _ _ (fun _ h=>h) h
 |len str x=>
  simp only[POp.exec]at h ⊢
  split at h
  ·rename_i U;rw[if_pos U];exact mp _ _ _ (fun _ h=>Ycn o h) h
  ·cases h
 |lenA n=>simp only[POp.exec,Db,Dx]at h ⊢; exact⟨h.1,by rw[h.2]⟩
 |app sz bytes s x=>simp[POp.cls]at hc
 |mm J x y=>
  simp only[POp.exec]at h ⊢
  split at h
  ·grind
  ·cases h
 |mm3 J x y z=>
  simp only[POp.exec]at h ⊢
  split at h
  ·grind
  ·cases h
 |rcall f args=>
  simp only[POp.exec]at h ⊢
  split at h
  ·exact mp _ _ _ (fun _ h=>yQ4 o h) h
  ·cases h
 |icall f args=>simp[POp.cls]at hc
 |mcall f args=>simp[POp.cls]at hc
 |fail=>simp[POp.cls]at hc
 |mkmap sz=>simp[POp.cls]at hc
 |mapup sz ks m k v=>simp[POp.cls]at hc
 |cpy sz d s=>simp[POp.cls]at hc
 |mapget sz ks ok zero m k=>simp only[POp.exec]at h ⊢; exact mp _ _ _ (fun _ h=>yMz o h) h
 |callv x args=>simp[POp.cls]at hc
 |mkclo f args=>simp only[POp.exec,Db,Dx]at h ⊢; exact⟨h.1,by rw[h.2]⟩
 |call f args=>
  simp only[POp.exec]at h ⊢
  split at h
  ·rename_i sp vs M E;simp only[M,j2 o E]
   split at h
   ·rename_i r V;simp only[Db,Dx]at h ⊢;refine⟨h.1,?_⟩;rw[← h.2]
    split
    ·rfl
    ·rw[j5 _ _ (j1 E)]
   ·cases h
  ·cases h
 |ext x i=>
  simp only[POp.exec]at h ⊢
  split at h
  ·simp_all
  ·cases h
theorem Ydh{p:POp}(E:p.push=true)(h:p.exec T ρ st=some (d,st')):∃ o,∀ st1:St,st1.length=st.length→p.exec T ρ st1=some (d,st1++[o]):=by
 cases p with
 |box x=>
  simp only[POp.exec]at h ⊢
  split at h
  ·rename_i hc;simp only[Db,Dx]at h;exact⟨_,fun st1 hl=>by rw[if_pos hc,hl,h.1]⟩
  ·cases h
 |mkslc sz bytes zero l c=>
  simp only[POp.exec]at h ⊢
  split at h
  ·split at h
   ·rename_i hc;simp only[Db,Dx]at h;exact⟨_,fun st1 hl=>by rw[if_pos hc,hl,h.1]⟩
   ·cases h
  ·cases h
 |_=>simp[POp.push]at E
variable {dst:Option Nat}{fr:Frame}{G:Dj}
theorem zZ{E:PA}(h:∀ t,dst=some t→t∉E.slot):Du G (fr.put dst d) E=Du G fr E:=by
 cases E with
 |s n=>
  cases dst with
  |none=>rfl
  |some t=>
   have:n≠t:=fun e=>h t rfl (by simp[PA.slot,e]);simp[Du,Frame.put,Frame.set,this]
 |_=>rfl
theorem MZ{i:PI}(h:∀ t,dst=some t→t∉i.reads):i.op.exec T (Du G (fr.put dst d)) st=i.op.exec T (Du G fr) st:=by
 refine yZx i.op fun x I=>zZ fun t E hm=>h t E ?_;simp only[PI.reads,AL,Bn];grind
theorem UJ{i:PI}(h:∀ t,dst=some t→t∉i.reads):i.wanted (fr.put dst d)=i.wanted fr:=by
 unfold PI.wanted
 cases E:i.guard with
 |none=>rfl
 |some q=>
  obtain⟨s,want⟩:=q
  cases dst with
  |none=>rfl
  |some t=>
   have:s≠t:=fun e=>h t rfl (by simp[PI.reads,E,Hp,e]);simp[Frame.put,Frame.set,this]
def PI.step(G:Dj)(T:Tbl)(i:PI)(s:PS):Option (D×St):=
 match i.wanted s.fr with
 |none=>none
 |some false=>some (.tup [],s.st)
 |some true=>i.op.exec T (Du G s.fr) s.st
theorem PI.exec_eq(i:PI)(s:PS):i.exec G T s=(i.step G T s).map fun r=>{fr:=s.fr.put i.dst r.1,st:=r.2}:=by
 unfold PI.exec PI.step;grind
theorem uR{x y:PI}(h:x.apart y=true):(∀ t,x.dst=some t→t∉y.reads)∧(∀ t,x.dst=some t→y.dst≠some t)∧(∀ t,y.dst=some t→t∉x.reads)∧(x.op.cls=0∨y.op.cls=0∨(x.op.cls≤2∧y.op.cls≤2)∨(x.op.cls≤2∧y.op.push=true)):=by
 simp only[PI.apart,Ac,Bb,beq_iff_eq,decide_eq_true_eq]at h;grind
theorem kP{x y:PI}{s s1 s2:PS}(h:x.apart y=true)(J:x.exec G T s=some s1)(E:y.exec G T s1=some s2):∃ aa,y.exec G T s=some aa∧x.exec G T aa=some s2:=by
 obtain⟨a1,a2,a3,a4⟩:=uR h;rw[PI.exec_eq]at J E;simp only[DH]at J E;obtain⟨⟨dx,stx⟩,J,rfl⟩:=J;obtain⟨⟨dy,ab⟩,E,rfl⟩:=E;simp only at E;have a6:y.wanted (s.fr.put x.dst dx)=y.wanted s.fr:=UJ a1
 have key:∀ V,y.step G T s=some (dy,V)→(∀ d,x.step G T {fr:=s.fr.put y.dst d,st:=V}=some (dx,ab))→∃ aa,y.exec G T s=some aa∧x.exec G T aa=some {fr:=(s.fr.put x.dst dx).put y.dst dy,st:=ab}:=by
  intro V h1 Y;refine⟨{fr:=s.fr.put y.dst dy,st:=V},by rw[PI.exec_eq,h1]; rfl,?_⟩;rw[PI.exec_eq,Y dy];simp only[Ae];rw[dq s.fr dx dy a2]
 unfold PI.step at J E;simp only[a6]at E;have U:∀ d,x.wanted (s.fr.put y.dst d)=x.wanted s.fr:=fun d=>UJ a3
 -- by a8 of bc two is carried out
 cases M:x.wanted s.fr with
 |none=>simp[M]at J
 |some bx=>
  cases I:y.wanted s.fr with
  |none=>simp[I]at E
  |some a0=>
   cases bx with
   |false=>
    simp only[M,Db,Dx]at J;obtain⟨rfl,rfl⟩:=J
    cases a0 with
    |false=>
     simp only[I,Db,Dx]at E;obtain⟨rfl,rfl⟩:=E;exact key s.st (by simp[PI.step,I]) (fun d=>by simp[PI.step,U,M])
    |true=>
     simp only[I]at E;rw[MZ a1]at E;exact key ab (by simp[PI.step,I,E]) (fun d=>by simp[PI.step,U,M])
   |true=>
    simp only[M]at J
    cases a0 with
    |false=>
     simp only[I,Db,Dx]at E;obtain⟨rfl,rfl⟩:=E;exact key s.st (by simp[PI.step,I]) (fun d=>by simp only[PI.step,U,M]; rw[MZ a3]; exact J)
    |true=>
     simp only[I]at E;rw[MZ a1]at E;rcases a4 with c | c | ⟨c1,c2⟩ | ⟨c1,c2⟩
     ·obtain⟨rfl,Y⟩:=jW x.op c J;exact key ab (by simp[PI.step,I,E]) (fun d=>by simp only[PI.step,U,M]; rw[MZ a3]; exact Y _)
     ·obtain⟨rfl,Y⟩:=jW y.op c E;exact key s.st (by simp only[PI.step,I]; exact Y _) (fun d=>by simp only[PI.step,U,M]; rw[MZ a3]; exact J)
     ·obtain⟨ks,rfl⟩:=Yv x.op c1 J;rw[jV y.op c2]at E;simp only[DH,Dx,Prod.exists]at E;obtain⟨bd,st',h1,rfl,rfl⟩:=E;obtain⟨qs,rfl⟩:=Yv y.op c2 h1;refine key _ (by simp only[PI.step,I]; exact h1) (fun d=>?_);simp only[PI.step,U,M];rw[MZ a3,jV x.op c1,J];simp only[Ae];rw[j4]
     ·obtain⟨ks,rfl⟩:=Yv x.op c1 J;obtain⟨o,ho⟩:=Ydh c2 E;have h1:=ho s.st (by rw[Qb]);have Y:=ho (lend ks s.st) rfl;rw[E]at Y;simp only[Db,Dx,true_and]at Y;refine key _ (by simp only[PI.step,I]; exact h1) (fun d=>?_);simp only[PI.step,U,M];rw[MZ a3,Yhd x.op c1 J,Y]
end Go.Proofs.YtijnglngaogdjaaGreatDoor.PI
