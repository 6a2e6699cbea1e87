/-
  Which pure operations may change places, and that they then come to the same.
  Conditions: none; these are definitions and lemmas.
-/
import Derived.Test.YtijnglngaogdjaaGreatDoorEngK
import Derived.ChangeKeysEq
import Derived.MapKept
import Derived.Laws.CopyRow
import Derived.Laws.IdiomCopy
import Derived.DefersIn
open ByteArray renaming size→CO
open List renaming range→CI,replicate→CF
set_option linter.unusedVariables false
set_option linter.unusedSimpArgs false
namespace Go.Proofs.YtijnglngaogdjaaGreatDoor.PI
open Go Go.RowKit
variable {els:List D}{sz:Nat}{v:Value}{x:D}{e:TypeId}
section
variable {P:Program} {base:Nat} {w:World} {g:Ghost} {st:St}
theorem Els.cast{E:Nat}(h:Els w g st v sz els)(e:sz=E∨els=[]):Els w g st v E els:=by
 rcases e with rfl | rfl
 ·exact h
 ·obtain⟨⟨a,cap,I,_⟩,_,_⟩:=h;exact⟨⟨a,cap,I,fun h=>absurd rfl h⟩,fun i j d J=>by simp[Fs]at J,fun e he=>by cases he⟩
theorem fB(I:SR base w g st)(h:Gy st x=some (sz,els))(E:RepV w g st x v):Els w g st v sz els∨∃ s,x=.str s∧sz=1∧els=s.map Dc:=by
 unfold Gy at h
 split at h
 ·simp only[C3,Dk]at h;obtain⟨rfl,rfl⟩:=h;exact .inl (RJ E)
 ·exact .inl (dk I h E).1
 ·rename_i key off n N ag
  split at h
  ·rename_i M he
   split at h
   ·rename_i J;simp only[C3,Dk]at h;obtain⟨rfl,rfl⟩:=h;exact .inl (tG I he E (Aj.1 J)).1
   ·cases h
  ·cases h
 ·grind
 ·cases h
theorem Ym3(N:SR base w g st){E:Nat}(h:Gy st x=some (E,els))(J:RepV w g st x v)(I:E=sz∨els=[]) :
  ∃ ns,News w g st P v sz els ns:=by
 rcases fB N h J with O | ⟨s,rfl,rfl,rfl⟩
 ·exact aU (O.cast I)
 ·obtain rfl:=Ly J;rcases I with rfl | M
  ·exact yMn s
  ·simp at M; subst M;have e:CO ⟨([]:List UInt8).toArray⟩=0:=rfl;exact⟨[],by simp,by simp,fun i j d U=>by simp[Fs]at U,⟨by simp[Builtin.lenOf,e],by simp[Builtin.lenOf,e]⟩,⟨by simp[Builtin.firstCells],by simp[Builtin.firstCells]⟩⟩
theorem zc(J:SR base w g st)(h:Gy st x=some (sz,els))(M:RepV w g st x v):(∀ e∈els,e.cells.length=sz)∧∀ i j d,Fs els i j=some d→d.pure1=true:=by
 rcases fB J h M with I | ⟨s,rfl,rfl,rfl⟩
 ·exact⟨I.len,I.pure⟩
 ·refine⟨fun e he=>?_,fun i j d N=>?_⟩
  ·simp only[AV]at he;obtain⟨b,_,rfl⟩:=he;rfl
  ·obtain⟨e,he,E⟩:=HE N;simp only[AJ,Dv]at he;obtain⟨b,_,rfl⟩:=he
   cases j with
   |zero=>simp[Dc,D.cells]at E; subst E; rfl
   |succ j=>simp[Dc,D.cells]at E
theorem bF(w:World)(o:Go.Obj):(w.drew.alloc o).heap[w.heap.size]?=some o:=by
 show(w.heap.push o)[w.heap.size]?=_
 simp
theorem n9{E:List D}{os ns zs:List Value}(V:os.length=E.length*sz)
  (J:∀ (i j:Nat) d,Fs E i j=some d→∃ u,os[i*sz+j]?=some u∧RepV w g st d u) (hn:∀ (i j:Nat) d,Fs els i j=some d→∃ u,ns[i*sz+j]?=some u∧RepV w g st d u) (Y:ns.length=els.length*sz) :
  ∀ (i j:Nat) d,Fs (E++els) i j=some d→∃ u,(os++ns++zs)[i*sz+j]?=some u∧RepV w g st d u:=by
 intro i j d M;obtain⟨e,he,I⟩:=HE M
 by_cases N:i<E.length
 ·rw[Au N]at he;obtain⟨u,O,U⟩:=J i j d (Hb he I);grind
 ·rw[AI (by omega)]at he;obtain⟨u,O,U⟩:=hn (i - E.length) j d (Hb he I);have h5:i*sz=E.length*sz+(i - E.length)*sz:=by rw[← A0]; congr 1; omega
  grind
theorem Ye6(hS:SR base w g st){t tx ty:TypeId}{i:TypeInfo}{z:Value}{bytes:Nat}{s d:D}{vs vx:Value}{st':St}(ht:P.underlying t=some (.slice e))(a5:(∃ e',P.underlying tx=some (.slice e'))∨P.underlying tx=some .string)
  (hi:P.info? e=some i) (hz:i.zero=some z) (c5:i.size=sz) (c6:i.bytes=bytes) (b9:z.cells.size=sz) (h:D8 st sz bytes s x=some (d,st')) (ab:RepV w g st s vs) (ca:RepV w g st x vx) :
  RunsTo P base w g st (Builtin.append_ #[t,tx] ty #[vs,vx]) d st':=by
 subst c5; subst c6;unfold D8 at h
 split at h
 ·cases h
 rename_i c7 xs hx
 split at h
 ·cases h
 rename_i hc;simp only[A8,AR,Bool.or_eq_false_iff,beq_eq_false_iff_ne,List.isEmpty_eq_false_iff,beq_iff_eq,not_or,not_and,ne_eq]at hc;have h0:0<i.size:=by omega
 have da:c7=i.size∨xs=[]:=by
  grind
 obtain⟨ns,N⟩:=Ym3 (P:=P) hS hx ca da;obtain⟨kb,cb⟩:=zc hS hx ca
 have d9:∀ e∈xs,e.cells.length=i.size:=by
  grind
 split at h
 ·
  rename_i key tot off len
  split at h
  case h_2=>cases h
  rename_i o ho
  split at h
  case isFalse=>cases h
  rename_i O;simp only[Af,beq_iff_eq,decide_eq_true_eq]at O;obtain⟨⟨⟨⟨⟨⟨M,ac⟩,ba⟩,rfl⟩,hlen⟩,Y⟩,cd⟩:=O;simp only[C3,Dk]at h;obtain⟨rfl,rfl⟩:=h;obtain⟨E,h1,h2,h3,rfl,h5⟩:=RQ (by simp[EE,ho,M,ba]) ab;obtain rfl:E=o:=AD (h1.symm.trans ho);subst hlen;subst ba;obtain⟨C,e',hb,d7,ha,dd,hC,bb⟩:=hS.blk key E ho (L1 M);rw[M]at hC;simp only[if_true]at hC;rw[B9,Nat.sub_zero];have de:key<st.length:=(Ac.1 ho).1
  have b4:∀ (C':Array Value),(∀ (I j:Nat) d,Fs (E.els++xs) I j=some d→∃ u,C'[I*E.sz+j]?=some u∧RepV w g st d u)→
    ∀ (I j:Nat) d,Fs (E.els++xs) I j=some d→(E.row=true→d.pure1=true)∧∃ u,C'[I*E.sz+j]?=some u∧RepV w g st d u:=by
   intro C' df I j d J;refine⟨fun _=>?_,df I j d J⟩
   by_cases h6:I<E.els.length
   ·rw[bG h6]at J;grind
   ·obtain⟨e1,U,a2⟩:=HE J;rw[AI (by omega)]at U;exact cb _ _ _ (Hb U a2)
  have cf:∀ y∈E.els++xs,y.cells.length=E.sz:=by
   grind
  have bc:∀ (B c:Nat) (w':World) (C':Array Value) (cc:TypeId),((B=g.β key∧c=g.γ key)∨(w.heap.size≤B∧E.els.length<(E.els++xs).length∧E.row=true))→Beside w w'→(∀ b,b<w.heap.size→b≠B→w'.heap[b]?=w.heap[b]?)→
    w'.heap[B]?=some (.cells C' cc (0,0))→(B=g.β key→∀ y,g.Im (g.β key) y→C'[y]?=C[y]?)→C'.size=c*E.sz→(E.els++xs).length≤c→c≤maxLen→
    (∀ (I j:Nat) d,Fs (E.els++xs) I j=some d→∃ u,C'[I*E.sz+j]?=some u∧RepV w g st d u)→
    (Builtin.append_ #[t,tx] ty #[.slice (some ⟨g.β key,0,none⟩) E.els.length (g.γ key),vx]).run P w=.ok (.slice (some ⟨B,0,none⟩) (E.els.length+xs.length) c) w'→
    RunsTo P base w g st (Builtin.append_ #[t,tx] ty #[.slice (some ⟨g.β key,0,none⟩) E.els.length (g.γ key),vx]) (.row key (E.els.length+xs.length) 0 (E.els.length+xs.length)) (st.set key {E with els:=E.els++xs}):=by
   intro B c w' C' cc hB cg b5 ch dg b6 V dh b7 c0;have bd:=SR.update (o':={E with els:=E.els++xs}) hS ho (L1 M) hb hB rfl rfl (by simp) rfl cf cg b5 ch dg (by rw[M]; simp only[if_true]; exact⟨b6,V,dh⟩) (b4 C' b7);refine⟨_,_,_,c0,bd,?_⟩;refine .row _ _ _ _ {E with els:=E.els++xs} _ rfl (by simp[de]) M (by simp) fun _=>⟨?_,by omega⟩;simp[HD]
  by_cases ae:E.els.length+xs.length≤g.γ key
  ·have be:E.els.length*i.size+ns.length≤C.size:=by
    rw[N.len,hC.1,ac,← A0]; exact AP _ ae
   -- a6 c1 type is a6 c2 own,or it hg not d0: a6 store looks at a6 cells alone
   have d2:(Builtin.append_ #[t,tx] ty #[.slice (some ⟨g.β key,0,none⟩) E.els.length (g.γ key),vx]).run P w=.ok (.slice (some ⟨g.β key,0,none⟩) (E.els.length+xs.length) (g.γ key)) (w.setRow (g.β key) (C.toList.take (E.els.length*i.size)++ns++C.toList.drop (E.els.length*i.size+ns.length)).toArray):=
    Yiw ht a5 hi hb N ae be
   refine bc (g.β key) (g.γ key) _ _ e' (.inl ⟨rfl,rfl⟩) (SK w _ _) (fun b _ bf=>setRow_other w _ _ _ (by omega)) (setRow_heap w _ C _ e' _ hb) ?_ ?_ (by simpa using ae) hC.2.2 ?_ d2
   ·intro _ y hy;have:=(hS.dis key E y ho hy).2;grind
   ·grind
   ·intro I j d J;rw[SI be,N.len,ac];obtain⟨e1,U,a2⟩:=HE J
    have hj:j<i.size:=by
     grind
    by_cases h6:I<E.els.length
    ·rw[bG h6]at J;have:(I+1)*i.size≤E.els.length*i.size:=AP _ h6;grind
    ·rw[AI (by omega)]at U;have h7:I - E.els.length<xs.length:=(Ac.1 U).1;have h8:I*i.size=E.els.length*i.size+(I - E.els.length)*i.size:=by rw[← A0]; congr 1; omega
     have h9:(I - E.els.length+1)*i.size≤xs.length*i.size:=AP _ h7;rw[A0,Bu]at h9;rw[if_pos (by omega),show I*i.size+j - E.els.length*i.size=(I - E.els.length)*i.size+j by omega];exact N.rep _ _ _ (Hb U a2)
  ·have hE:Els w g st (.slice (some ⟨g.β key,0,none⟩) E.els.length (g.γ key)) i.size E.els:=by
    refine⟨⟨_,_,rfl,fun _=>⟨_,_,rfl,h0,?_⟩⟩,fun I j d J=>(bb I j d J).1 M,fun y hy=>by rw[← ac]; exact dd y hy⟩;intro I j d J;obtain⟨hp,u,h6,h7⟩:=bb I j d J;refine⟨u,?_,h7,h7.oneCell (Pm (hp M))⟩;simp only[World.cell?,hb];grind
   obtain⟨os,hO⟩:=aU (P:=P) hE;have ah:=mn (ty:=ty) ht a5 hi hz N hO rfl (by omega) (by omega) (n8 (by omega) Y);have bh:=grownCap_ge w (E.els.length+xs.length) (g.γ key) e;refine bc w.heap.size _ (w.drew.alloc (.cells (os.toArray++ns.toArray++Builtin.zeroCells z.cells (grownCap w (E.els.length+xs.length) (g.γ key) e - (E.els.length+xs.length))) e)) _ e (.inr ⟨AE _,by simp; omega,M⟩) ⟨rfl,rfl,rfl,by simp⟩ ?_ (bF w _) (fun e1=>by have:=hS.lt ho; omega) ?_ (by simpa using bh) (grownCap_le_maxLen w _ _ e (by unfold maxLen; omega)) ?_ ah
   ·intro b b1 _; exact O6 w _ b b1
   ·simp only[Array.size_append,Cq,hO.len,N.len,size_zeroCells,b9,ac];rw[← A0,← A0]
    congr 1
    omega
   ·intro I j d J;have:=n9 (zs:=(Builtin.zeroCells z.cells (grownCap w (E.els.length+xs.length) (g.γ key) e - (E.els.length+xs.length))).toList) hO.len hO.rep N.rep N.len I j d J;grind
 ·
  rename_i kc els
  split at h
  ·rename_i he;simp only[BF]at he;subst he;simp only[C3,Dk]at h;obtain⟨rfl,rfl⟩:=h;refine .still hS ?_ ab;obtain⟨⟨a,cap,rfl,_⟩,_,_⟩:=RJ ab
   have V:els.length≤cap:=by
    cases ab with
    |slcE=>simp
    |slc _ _ b off cap _ val h1 h2 h3 d3 h4=>exact h4
   have d5:ns=[]:=AO (by simpa using N.len);have h1:=N.lenOf.1;have h2:=N.first.1
   subst d5;simp only[Ap]at h1 h2;rcases a5 with⟨e',J⟩ | J
   ·cases a <;> simp[Builtin.append_,run_underlying ht,sizeOf,typeInfo,hi,run_underlying J,h1,V,h2,storeCells]
   ·cases a <;> simp[Builtin.append_,run_underlying ht,sizeOf,typeInfo,hi,run_underlying J,h1,V,h2,storeCells]
  ·rename_i bf;simp only[BF]at bf;have d8:0<xs.length:=List.length_pos_iff.2 bf
   split at h
   case isFalse=>cases h
   rename_i O;simp only[Af,decide_eq_true_eq,A8,beq_iff_eq,BF]at O;obtain⟨⟨d6,Y⟩,cd⟩:=O;simp only[C3,Dk]at h;obtain⟨rfl,rfl⟩:=h;have hE:=(RJ ab).cast d6;obtain⟨os,hO⟩:=aU (P:=P) hE;obtain⟨⟨a,cap,rfl,_⟩,kd,ke⟩:=hE
   have V:cap=els.length:=by
    cases ab with
    |slcE _ _ _ _ h1=>exact h1 rfl
    |slc _ _ b off cap _ val h1 h2 h3 d3 h4 h5=>exact h5 rfl
   subst V;have ah:=mn (ty:=ty) ht a5 hi hz N hO rfl (by omega) (by omega) (n8 (by omega) Y);have bh:=grownCap_ge w (els.length+xs.length) els.length e
   have bd:=SR.push (o:={row:=true,sz:=i.size,els:=els++xs,lent:=false}) (c:=grownCap w (els.length+xs.length) els.length e) (w':=w.drew.alloc (.cells (os.toArray++ns.toArray++Builtin.zeroCells z.cells (grownCap w (els.length+xs.length) els.length e - (els.length+xs.length))) e)) hS
    ⟨rfl,rfl,rfl,by simp⟩ (fun b b1=>O6 w _ b b1) (bF w _) rfl h0 (by
     intro y hy;rcases AK.1 hy with hy | hy
     ·grind
     ·grind) (by
     simp only[if_true,Ab];refine⟨?_,bh,grownCap_le_maxLen w _ _ e (by unfold maxLen; omega)⟩;simp only[Array.size_append,Cq,hO.len,N.len,size_zeroCells,b9];rw[← A0,← A0]
     congr 1
     omega) (by
     intro I j d J;refine⟨fun _=>?_,?_⟩
     ·by_cases h6:I<els.length
      ·rw[bG h6]at J;grind
      ·obtain⟨e1,U,a2⟩:=HE J;rw[AI (by omega)]at U;exact cb _ _ _ (Hb U a2)
     ·obtain⟨u,h6,h7⟩:=n9 (zs:=(Builtin.zeroCells z.cells (grownCap w (els.length+xs.length) els.length e - (els.length+xs.length))).toList) hO.len hO.rep N.rep N.len I j d J;grind)
   refine⟨_,_,_,ah,bd,?_⟩;refine .row _ _ _ _ {row:=true,sz:=i.size,els:=els++xs,lent:=false} _ rfl (by simp) rfl (by simp) fun _=>⟨?_,by omega⟩;simp[HD]
 ·cases h
theorem Ybz(hS:SR base w g st){E dst:TypeId}{s:List UInt8}(hs:P.underlying E=some .string)(hd:P.underlying dst=some (.slice e))(he:P.underlying e=some (.int .u8)) :
  RunsTo P base w g st (convert E dst (.string ⟨s.toArray⟩)) (.slc 1 (s.map Dc) false) st:=by
 have I:=run_bytes_of_string (P:=P) w E dst e ⟨s.toArray⟩ hs hd he;have O:CO ⟨s.toArray⟩=s.length:=by simp[CO]
 have J:=grownCap_ge w (CO ⟨s.toArray⟩) 0 e;generalize hC:bytesRow ⟨s.toArray⟩ (grownCap w (CO ⟨s.toArray⟩) 0 e)=C at I;have U:=hS.fresh (w':=w.drew.alloc (.cells C e (C.size,C.size+1))) (C:=C) (e:=e) (fz:=(C.size,C.size+1)) rfl ⟨rfl,rfl,rfl,by simp⟩;refine⟨_,_,_,I,U,?_⟩;rw[O]at J ⊢;have hl:s.length=(s.map Dc).length:=by simp
 conv=>rhs; rw[hl]
 refine RepV.slc_mk Nat.one_pos (fun x M=>by simp only[AV]at M; obtain⟨b,_,rfl⟩:=M; rfl) (by simpa using J) (fun h=>by cases h) ?_;intro i j d V;obtain⟨x,M,N⟩:=HE V;simp only[AJ,Dv]at M;obtain⟨b,hb,rfl⟩:=M
 cases j with
 |succ j=>simp[Dc,D.cells]at N
 |zero=>
  simp only[Dc,D.cells,AH,C3]at N;subst N;have hi:i<s.length:=(Ac.1 hb).1
  have Y:C[i]?=some (.int .u8 b.toNat):=by
   rw[← hC];unfold bytesRow;grind
  have ah:i<C.size:=(AG.1 Y).1;refine⟨rfl,.inr ⟨rfl,by omega⟩,.int .u8 b.toNat,?_,.int _ _⟩;have h2:(w.drew.alloc (.cells C e (C.size,C.size+1))).heap[w.heap.size]?=some (.cells C e (C.size,C.size+1)):=bF w _;simp only[World.cell?,h2];grind
end
end Go.Proofs.YtijnglngaogdjaaGreatDoor.PI
namespace Go.Proofs.YtijnglngaogdjaaGreatDoor.PI
open Go Go.RowKit
def Te(lf:TypeId→Option (List Nat))(P:Program):List Field→Nat→Option (List Nat)
 |[],_=>some []
 |f::fs,off=>
  match lf f.type,Ej P f.type with
  |some l,some _=>
   if f.name≠ "_"∧f.offset=off∧D3 P f.type=some l.length∧0<l.length then(Te lf P fs (off+l.length)).map (l++·)else none
  |_,_=>none
def IP(P:Program):Nat→TypeId→Option (List Nat)
 |0,_=>none
 |d+1,t=>
  match P.underlying t with
  |some (.int _)=>some [0]
  |some .bool=>some [1]
  |some .string=>some [2]
  |some (.array n e)=>
   match IP P d e with
   |some l=>if D3 P e=some l.length∧0<l.length then some (CF n l).flatten else none
   |none=>none
  |some (.struct fs)=>if P.stoodInHeld t then none else Te (IP P d) P fs.toList 0
  |_=>none
variable {off:Nat}{t:TypeId}{ks:List Nat}
section
variable {P:Program} {w:World} {g:Ghost} {st:St}
def ML(ag:Bool)(vs:List Value):Value:=if ag then .agg vs.toArray else vs.headD undef
theorem Pz:∀ {ks:List Nat} {xs ys:List D} {b:Bool},EC ks xs ys=some b→xs.length=ks.length∧ys.length=ks.length
 |[],[],[],_,_=>⟨rfl,rfl⟩
 |q::qs,x::xs,y::ys,b,h=>by
  simp only[EC]at h
  split at h
  ·rename_i a b' I E;have:=Pz E;simp[this]
  ·cases h
 |[],[],_::_,_,h=>by simp[EC]at h
 |[],_::_,_,_,h=>by simp[EC]at h
 |_::_,[],_,_,h=>by simp[EC]at h
 |_::_,_::_,[],_,h=>by simp[EC]at h
theorem bE:∀ {E I:List Nat} {xs ys:List D} {b:Bool},EC (E++I) xs ys=some b→
  ∃ b1 J,EC E (xs.take E.length) (ys.take E.length)=some b1∧EC I (xs.drop E.length) (ys.drop E.length)=some J∧b=(b1 && J)
 |[],I,xs,ys,b,h=>⟨true,b,by simp[EC],by simpa using h,by simp⟩
 |q::E,I,x::xs,y::ys,b,h=>by
  simp only[Ae,EC]at h
  split at h
  ·rename_i a b' M N;simp only[C3]at h;obtain⟨b1,J,O,U,V⟩:=bE N;refine⟨a && b1,J,by simp[EC,M,O],by simpa using U,by rw[← h,V,Bool.and_assoc]⟩
  ·cases h
 |_::_,_,[],_,_,h=>by simp[EC]at h
 |_::_,_,_::_,[],_,h=>by simp[EC]at h
def ZP(P:Program)(dd:Nat)(t:TypeId)(ks:List Nat):Prop:=
 ∀ (w:World) (g:Ghost) (st:St) (ag:Bool) (xs ys:List D) (vs us:List Value) (b:Bool),Ej P t=some ag→EC ks xs ys=some b→xs.length=vs.length→ys.length=us.length→
  (∀ (i:Nat) d v,xs[i]?=some d→vs[i]?=some v→RepV w g st d v)→(∀ (i:Nat) d v,ys[i]?=some d→us[i]?=some v→RepV w g st d v)→
  (Op.equalIn dd t (ML ag vs) (ML ag us)).run P w=.ok b w
theorem RT{n:Nat}{ag:Bool}{vs:List Value}(E:Ej P t=some ag)(hn:D3 P t=some n)(I:ag=false→n=1)(M:off+n≤vs.length) :
  (part t vs.toArray off).run P w=.ok (ML ag ((vs.drop off).take n)) w:=by
 cases ag with
 |true=>
  simp[part,QI E,K0 hn,ML]
 |false=>
  obtain rfl:=I rfl;have J:off<vs.length:=by omega
  simp[part,QI E,J,ML,List.take_one,List.head?_drop]
theorem oJ{d:Nat}(h:IP P d t=some ks)(E:Ej P t=some false):ks.length=1:=by
 cases d with
 |zero=>cases h
 |succ d=>
  unfold IP at h;unfold Ej at E;grind
theorem N6{α:Type}{l:List α}{n i:Nat}{x:α}(h:((l.drop off).take n)[i]?=some x):l[off+i]?=some x:=by
 grind
theorem jg(d V:Nat)(I:∀ t ks,IP P d t=some ks→ZP P V t ks):∀ (fs:List Field) (off:Nat) (ks:List Nat) (w:World) (g:Ghost) (st:St) (xs ys:List D) (vs us:List Value) (b:Bool),
  Te (IP P d) P fs off=some ks→EC ks (xs.drop off) (ys.drop off)=some b→xs.length=vs.length→ys.length=us.length→
  (∀ (i:Nat) d v,xs[i]?=some d→vs[i]?=some v→RepV w g st d v)→(∀ (i:Nat) d v,ys[i]?=some d→us[i]?=some v→RepV w g st d v)→
  (Op.eqFields V vs.toArray us.toArray fs).run P w=.ok b w
 |[],off,ks,w,g,st,xs,ys,vs,us,b,h,he,Y,hy,rx,ry=>by
  simp[Te]at h; subst h;have:=Pz he
  match N:xs.drop off,O:ys.drop off with
  |[],[]=>rw[N,O]at he; simp[EC]at he; subst he; simp[Op.eqFields]
  |_::_,_=>rw[N]at this; simp at this
  |[],_::_=>rw[O]at this; simp at this
 |f::fs,off,ks,w,g,st,xs,ys,vs,us,b,h,he,Y,hy,rx,ry=>by
  unfold Te at h
  split at h
  ·rename_i l ag hl E
   split at h
   ·rename_i hc;obtain⟨M,ac,U,a0⟩:=hc;simp only[Dv]at h;obtain⟨ae,af,rfl⟩:=h;obtain⟨b1,b2,h1,h2,rfl⟩:=bE he;have hlen:=Pz he;simp only[AX,Ab]at hlen;rw[Bq,Bq]at h2;have J:ag=false→l.length=1:=fun e=>oJ hl (by rw[E,e]);have p1:=RT (P:=P) (w:=w) (off:=off) E U J (vs:=vs) (by omega);have p2:=RT (P:=P) (w:=w) (off:=off) E U J (vs:=us) (by omega)
    have e1:=I f.type l hl w g st ag _ _ ((vs.drop off).take l.length) ((us.drop off).take l.length) b1 E h1 (by simp[Y]) (by simp[hy])
     (fun i d v hd hv=>rx _ d v (N6 hd) (N6 hv)) (fun i d v hd hv=>ry _ d v (N6 hd) (N6 hv))
    have ih:=jg d V I fs (off+l.length) ae w g st xs ys vs us b2 af h2 Y hy rx ry;simp only[Op.eqFields,M,ne_eq,not_false_eq_true,if_true,Sem.run_bind,ac,p1,p2,e1,Result.andThen_ok];cases b1
    ·simp
    ·grind
   ·cases h
  ·cases h
theorem vf(n:Nat)(l:List Nat):(CF (n+1) l).flatten=l++(CF n l).flatten:=by
 rfl
theorem qG(U:Nat){e:TypeId}{l:List Nat}{ag:Bool}(J:ZP P U e l)(I:Ej P e=some ag)(M:D3 P e=some l.length)(V:0<l.length)(E:ag=false→l.length=1):∀ (n k:Nat) (w:World) (g:Ghost) (st:St) (xs ys:List D) (vs us:List Value) (b:Bool),
  EC (CF n l).flatten (xs.drop (k*l.length)) (ys.drop (k*l.length))=some b→xs.length=vs.length→ys.length=us.length→
  (∀ (i:Nat) d v,xs[i]?=some d→vs[i]?=some v→RepV w g st d v)→(∀ (i:Nat) d v,ys[i]?=some d→us[i]?=some v→RepV w g st d v)→
  (Op.eqItems U e l.length vs.toArray us.toArray (List.range' k n)).run P w=.ok b w
 |0,k,w,g,st,xs,ys,vs,us,b,he,Y,hy,rx,ry=>by
  simp only[List.replicate_zero,List.flatten_nil]at he;have:=Pz he
  match N:xs.drop (k*l.length),O:ys.drop (k*l.length)with
  |[],[]=>rw[N,O]at he; simp[EC]at he; subst he; simp[Op.eqItems]
  |_::_,_=>rw[N]at this; simp at this
  |[],_::_=>rw[O]at this; simp at this
 |n+1,k,w,g,st,xs,ys,vs,us,b,he,Y,hy,rx,ry=>by
  rw[vf]at he;obtain⟨b1,b2,h1,h2,rfl⟩:=bE he;have hlen:=Pz he;simp only[AX,Ab]at hlen;rw[Bq,Bq]at h2;have p1:=RT (P:=P) (w:=w) (off:=k*l.length) I M E (vs:=vs) (by omega);have p2:=RT (P:=P) (w:=w) (off:=k*l.length) I M E (vs:=us) (by omega)
  have e1:=J w g st ag _ _ ((vs.drop (k*l.length)).take l.length) ((us.drop (k*l.length)).take l.length) b1 I h1 (by simp[Y]) (by simp[hy])
   (fun i d v hd hv=>rx _ d v (N6 hd) (N6 hv)) (fun i d v hd hv=>ry _ d v (N6 hd) (N6 hv))
  have ek:(k+1)*l.length=k*l.length+l.length:=by rw[A0,Bu]
  have ih:=qG U J I M V E n (k+1) w g st xs ys vs us b2 (by rw[ek]; exact h2) Y hy rx ry;simp only[BR,Op.eqItems,Sem.run_bind,p1,p2,e1,Result.andThen_ok];cases b1
  ·simp
  ·grind
theorem eu:∀ (d:Nat) (t:TypeId) (ks:List Nat),IP P d t=some ks→∀ E,d≤E→ZP P E t ks
 |0,_,_,h,_,_=>by cases h
 |d+1,t,ks,h,E,a0=>by
  intro w g st ag xs ys vs us b ha he V Y rx ry;obtain⟨E,rfl⟩:∃ e,E=e+1:=⟨E - 1,by omega⟩;unfold IP at h;unfold Ej at ha;have N:∀ t ks,IP P d t=some ks→ZP P E t ks:=fun t ks h=>eu d t ks h E (by omega)
  have single:∀ q,ks=[q]→∃ x y v u,xs=[x]∧ys=[y]∧vs=[v]∧us=[u]∧Ii q x y=some b∧RepV w g st x v∧RepV w g st y u:=by
   intro q hq;subst hq;have hl:=Pz he
   match xs,ys,vs,us,V,Y,hl with
   |[x],[y],[v],[u],_,_,_=>
    simp only[EC]at he
    split at he
    ·rename_i a b' I h2;simp only[C3]at h2 he;subst h2; subst he;exact⟨x,y,v,u,rfl,rfl,rfl,rfl,by simpa using I,rx 0 x v rfl rfl,ry 0 y u rfl rfl⟩
    ·cases he
  cases hu:P.underlying t with
  |none=>simp[hu]at ha
  |some k=>
   cases k with
   |int k=>
    simp only[hu,C3]at h ha;subst ha;obtain⟨x,y,v,u,rfl,rfl,rfl,rfl,I,r1,O⟩:=single 0 h.symm;unfold Ii at I
    split at I <;> simp_all
    obtain rfl:=It r1;obtain rfl:=It O;simp only[ML,Al,if_false,List.headD_cons];rw[run_equalIn_int w E t _ k _ _ hu];simp_all
   |bool=>
    simp only[hu,C3]at h ha;subst ha;obtain⟨x,y,v,u,rfl,rfl,rfl,rfl,I,r1,O⟩:=single 1 h.symm;unfold Ii at I
    split at I <;> simp_all
    obtain rfl:=KU r1;obtain rfl:=KU O;simp only[ML,Al,if_false,List.headD_cons];rw[run_equalIn_bool w E t _ _ hu];simp_all
   |string=>
    simp only[hu,C3]at h ha;subst ha;obtain⟨x,y,v,u,rfl,rfl,rfl,rfl,I,r1,O⟩:=single 2 h.symm;unfold Ii at I
    split at I <;> simp_all
    obtain rfl:=Ly r1;obtain rfl:=Ly O;simp only[ML,Al,if_false,List.headD_cons];rw[run_equalIn_string w E t _ _ hu,Z8,Z8];simp_all
   |array n e=>
    simp only[hu,C3]at h ha;subst ha
    split at h
    ·rename_i l hl
     split at h
     ·rename_i hc;simp only[C3]at h; subst h;obtain⟨J,ab⟩:=hc
      have hi:∃ i,P.info? e=some i:=by
       unfold D3 at J
       cases hi:P.info? e with
       |none=>simp[hi]at J
       |some i=>exact⟨i,rfl⟩
      obtain⟨i,hi⟩:=hi
      have U:P.cellsOf e=l.length:=by
       unfold D3 at J;unfold Program.cellsOf;grind
      have M:∃ ag,Ej P e=some ag:=by
       cases d with
       |zero=>cases hl
       |succ d=>
        unfold IP at hl;unfold Ej;grind
      obtain⟨ag,M⟩:=M;have ac:ag=false→l.length=1:=fun e'=>oJ hl (by rw[M,e']);have:=qG E (N e l hl) M J ab ac n 0 w g st xs ys vs us b (by simpa using he) V Y rx ry;simp only[ML,if_true];rw[run_equalIn_array w E _ _ hu hi,U,Bi];exact this
     ·cases h
    ·cases h
   |struct fs=>
    simp only[hu,C3]at h ha;subst ha
    split at h
    ·cases h
    ·rename_i ae;have hf:P.fieldsOf t=fs:=by simp[Program.fieldsOf,hu]
     have:=jg d E N fs.toList 0 ks w g st xs ys vs us b h (by simpa using he) V Y rx ry;simp only[ML,if_true];rw[run_equalIn_struct w E t _ _ (by rw[hf]; exact hu) (by simpa using ae),hf];exact this
   |_=>simp[hu]at h
theorem Ye9{d:Nat}{E:Bool}{x y r:D}{vx vy:Value}(hl:IP P d t=some ks)(I:d≤10000)(J:Ej P t=some true)(h:Gt ks E x y=some r)(M:RepV w g st x vx)(N:RepV w g st y vy) :
  (∃ v,(binOp (if E then .neq else .eql) t vx vy).run P w=.ok v w∧RepV w g st r v)∧∃ xs ys,vx=.agg xs∧vy=.agg ys:=by
 unfold Gt at h
 split at h
 ·rename_i xs ys;simp only[Dv]at h;obtain⟨b,hb,rfl⟩:=h
  cases M with
  |agg _ vs O U=>
   cases N with
   |agg _ us V Y=>
    refine⟨?_,_,_,rfl,rfl⟩;have e:(Op.equal t (.agg vs.toArray) (.agg us.toArray)).run P w=.ok b w:=eu d t ks hl 10000 I w g st true xs ys vs us b J hb O V U Y;refine⟨.bool (b != E),?_,.bool _⟩;cases E <;> simp[binOp,e]
 ·cases h
end
end Go.Proofs.YtijnglngaogdjaaGreatDoor.PI
namespace Go.Proofs.YtijnglngaogdjaaGreatDoor.PI
open Go Go.RowKit
def MG(P:Program)(kt:TypeId):Option (Nat×List Nat):=
 match P.underlying kt with
 |some (.int _)=>some (2,[0])
 |some .bool=>some (2,[1])
 |some .string=>some (2,[2])
 |some (.array n e)=>match P.underlying e,D3 P e with
  |some (.int _),some 1=>if 2≤n then some (n+1,CF n 0)else none
  |_,_=>none
 |_=>none
def PG(P:Program)(t:TypeId):Option (TypeId×TypeId×Nat×List Nat):=
 match P.underlying t with
 |some (.map kt et)=>match MG P kt,D3 P et,Ej P et with
  |some (sz,ks),some 1,some false=>if sz=1000003 then none else some (kt,et,sz,ks)
  |_,_,_=>none
 |_=>none
variable {ks:List Nat}{sz:Nat}{et kt t:TypeId}
theorem ox{P:Program}(h:PG P t=some (kt,et,sz,ks)):P.underlying t=some (.map kt et)∧MG P kt=some (sz,ks)∧sz≠1000003∧D3 P et=some 1∧Ej P et=some false:=by
 unfold PG at h;grind
variable {d k m r x y zd:D}{key q:Nat}{b ok:Bool}{v vd vk vm vs vx vy:Value}{kk:IntKind}{dT e elem sT ty:TypeId}{es:List MapEntry}{els:List D}{st':St}
section
variable {P:Program} {base:Nat} {w:World} {g:Ghost} {st:St}
theorem iV(h:Ii q x y=some true):x=y:=by
 unfold Ii at h;grind
def OE:D→Bool
 |.int _ _ | .bool _ | .str _=>true
 |_=>false
theorem Xs(h:Ii q x y=some b):OE x=true∧OE y=true:=by
 unfold Ii at h
 split at h
 ·exact⟨rfl,rfl⟩
 ·exact⟨rfl,rfl⟩
 ·exact⟨rfl,rfl⟩
 ·cases h
theorem qQ:∀ {ks:List Nat} {xs ys:List D},EC ks xs ys=some true→xs=ys
 |[],[],[],_=>rfl
 |q::qs,x::xs,y::ys,h=>by
  simp only[EC]at h
  split at h
  ·rename_i a b E I;simp only[C3,Af]at h;obtain⟨rfl,rfl⟩:=h;rw[iV E,qQ I]
  ·cases h
 |[],[],_::_,h=>by simp[EC]at h
 |[],_::_,_,h=>by simp[EC]at h
 |_::_,[],_,h=>by simp[EC]at h
 |_::_,_::_,[],h=>by simp[EC]at h
theorem aQ:∀ {ks:List Nat} {xs ys:List D} {b:Bool},EC ks xs ys=some b→∀ x∈xs,OE x=true
 |[],[],[],_,_=>fun x I=>by cases I
 |q::qs,x::xs,y::ys,b,h=>by
  simp only[EC]at h
  split at h
  ·rename_i a b J M;intro z E;rcases Aw.1 E with rfl | E
   ·exact(Xs J).1
   ·exact aQ M z E
  ·cases h
 |[],[],_::_,_,h=>by simp[EC]at h
 |[],_::_,_,_,h=>by simp[EC]at h
 |_::_,[],_,_,h=>by simp[EC]at h
 |_::_,_::_,[],_,h=>by simp[EC]at h
theorem pS{u:Value}(E:OE d=true)(h:RepV w g st d v)(I:RepV w g st d u):v=u:=by
 cases h <;> cases I <;> first | rfl | (simp[OE]at E; done)
theorem yS7(h:HI sz ks x y=some true)(I:RepV w g st x vx)(J:RepV w g st y vy):vx=vy:=by
 unfold HI at h
 split at h
 ·split at h
  ·obtain rfl:=iV h;exact pS (Xs h).1 I J
  ·cases h
 ·split at h
  ·rename_i xs ys;have M:=aQ h;obtain rfl:=qQ h
   cases I with
   |agg _ vs V N=>
    cases J with
    |agg _ us Y O=>
     have:vs=us:=by
      apply Bb;intro i
      cases hv:vs[i]? with
      |none=>rw[BP]at hv; exact(BP.2 (by omega)).symm
      |some v=>
       have U:=(Ac.1 hv).1;have E:xs[i]?=some xs[i]:=An (by omega);have hu:us[i]?=some us[i]:=An (by omega);rw[hu,pS (M _ (Aq E)) (N i _ v E hv) (O i _ _ E hu)]
     rw[this]
  ·cases h
theorem jl(E:OE d=true)(h:RepV w g st d v)(n:Nat):Instr.sameBits n v v=true:=by
 cases h <;> first
  |(simp[Instr.sameBits]; done)
  |(simp[OE]at E; done)
  |(unfold Instr.sameBits; exact(MapKept.bytes_beq _ _).2 rfl)
theorem yM2(h:HI sz ks x y=some b)(E:RepV w g st x vx):Instr.sameBits 10000 vx vx=true:=by
 unfold HI at h
 split at h
 ·split at h
  ·exact jl (Xs h).1 E _
  ·cases h
 ·split at h
  ·rename_i xs ys;have M:=aQ h
   cases E with
   |agg _ vs V N=>
    show(vs.toArray.size == vs.toArray.size && (vs.toArray.toList.zip vs.toArray.toList).all fun(x,y)=>Instr.sameBits 9999 x y)=true
    rw[Af];refine⟨by simp,?_⟩;rw[Aj];rintro⟨u,O⟩ hu
    have I:u=O:=by
     have:=AZ.1 hu;grind
    subst I;have hm:u∈vs:=(List.of_mem_zip hu).1;obtain⟨i,hi⟩:=AZ.1 hm;have U:=(Ac.1 hi).1;have J:xs[i]?=some xs[i]:=An (by omega);exact jl (M _ (Aq J)) (N i _ u J hi) _
  ·cases h
theorem yJa(h:HI sz ks x y=some b)(E:RepV w g st x vx)(w1:World):(Instr.keyThatStays vx vx).run P w1=.ok vx w1:=by
 simp[Instr.keyThatStays,yM2 h E]
theorem jf(E:P.underlying e=some (.int kk))(I:Bool)(n:Nat)(v:Value):(Instr.checkKey I (n+1) e v).run P w=.ok () w:=by
 unfold Instr.checkKey;simp only[Sem.run_bind,run_underlying E,Result.andThen];rfl
theorem br(hk:MG P kt=some (sz,ks))(h:HI sz ks x y=some b)(O:RepV w g st x v)(M:Bool):(Instr.checkKey M 10000 kt v).run P w=.ok () w:=by
 unfold MG at hk
 split at hk
 ·rename_i hu;exact jf hu M 9999 v
 ·rename_i hu;unfold Instr.checkKey;simp only[Sem.run_bind,run_underlying hu,Result.andThen];rfl
 ·rename_i hu;unfold Instr.checkKey;simp only[Sem.run_bind,run_underlying hu,Result.andThen];rfl
 ·rename_i n e hu
  split at hk
  ·rename_i kk I J
   split at hk
   ·rename_i V;simp only[C3,Dk]at hk;obtain⟨rfl,rfl⟩:=hk;unfold HI at h;rw[if_neg (by omega)]at h
    split at h
    ·rename_i xs ys;have hl:=(Pz h).1;rw[BM]at hl
     cases O with
     |agg _ vs Y h4=>
      have N:Ej P e=some false:=by unfold Ej; rw[I]
      unfold Instr.checkKey;simp only[Sem.run_bind,run_underlying hu,Result.andThen_ok];simp only[Std.Legacy.Range.forIn_eq_forIn_range',Std.Legacy.Range.size,Nat.sub_zero,Nat.add_one_sub_one,Nat.div_one];have each:∀ i∈List.range' 0 n,i<vs.length:=fun i hi=>by rw[List.mem_range'_1]at hi; omega
      generalize List.range' 0 n=is at each
      refine(?_:((forIn is PUnit.unit fun i U=>do
       let E ← sizeOf e
       let E ← part e vs.toArray (i*E)
       Instr.checkKey M 9999 e E
       pure (ForInStep.yield PUnit.unit):Sem PUnit).run P w).andThen _=_)
      induction is with
      |nil=>simp
      |cons j is ih=>
       have hj:=each j (by simp);have p1:=RT (P:=P) (w:=w) (vs:=vs) (off:=j*1) N J (fun _=>rfl) (by omega);simp only[List.forIn_cons,Sem.run_bind,K0 J,Result.andThen_ok,p1,jf I,Sem.run_pure];simp_all
    ·cases h
   ·cases hk
  ·cases hk
 ·cases hk
theorem iO{E:TypeDesc}(M:(∃ kk,E=.int kk∧q=0)∨(E=.bool∧q=1)∨(E=.string∧q=2))(h:Ii q x y=some b)(I:RepV w g st x vx)(J:RepV w g st y vy):Instr.sameNow E vx vy=some b:=by
 rcases M with⟨kk,rfl,rfl⟩ | ⟨rfl,rfl⟩ | ⟨rfl,rfl⟩
 ·unfold Ii at h
  split at h <;> simp_all
  obtain rfl:=It I;obtain rfl:=It J;simp_all [Instr.sameNow]
 ·unfold Ii at h
  split at h <;> simp_all
  obtain rfl:=KU I;obtain rfl:=KU J;simp_all [Instr.sameNow]
 ·unfold Ii at h
  split at h <;> simp_all
  obtain rfl:=Ly I;obtain rfl:=Ly J;simp only[Instr.sameNow,C3];rw[← h,B0,MapKept.bytes_beq];simp
def Ents(w:World)(g:Ghost)(st:St)(sz:Nat)(els:List D)(es:List MapEntry):Prop:=
 es.length=els.length∧∀ (i:Nat) (e:MapEntry) (el:D),es[i]?=some e→els[i]?=some el→RepV w g st (Fy sz el) e.key∧RepV w g st (G5 sz el) e.val
theorem Ents.tail{I:D}{e:MapEntry}(h:Ents w g st sz (I::els) (e::es)):Ents w g st sz els es:=
 ⟨by have:=h.1; simp only[Ak]at this; omega,fun i J E M N=>h.2 (i+1) J E (by simpa using M) (by simpa using N)⟩
theorem qJ{E:TypeDesc}{q:Nat}{k:D}{M:Value}(N:(∃ kk,E=.int kk∧q=0)∨(E=.bool∧q=1)∨(E=.string∧q=2))(hk:RepV w g st k M):∀ (els:List D) (es:List MapEntry) (i:Nat) (r:Option Nat),Ents w g st 2 els es→Kp 2 [q] k els i=some r→
  (r=none∧Instr.findNow E M es i=some none)∨∃ j e,r=some (i+j)∧es[j]?=some e∧Instr.findNow E M es i=some (some (i+j,e.val))∧∃ el,els[j]?=some el∧HI 2 [q] k (Fy 2 el)=some true
 |[],es,i,r,h,hm=>by
  obtain rfl:es=[]:=AO h.1;simp only[Kp,C3]at hm;exact .inl ⟨hm.symm,rfl⟩
 |el::els,[],i,r,h,hm=>by have:=h.1; simp at this
 |el::els,e::es,i,r,h,hm=>by
  have V:=(h.2 0 e el rfl rfl).1;simp only[Kp]at hm
  split at hm
  ·rename_i I;simp only[C3]at hm;subst hm;have J:=iO N (show Ii q k (Fy 2 el)=some true from I) hk V;exact .inr ⟨0,e,rfl,rfl,by simp only[Instr.findNow,J,BV],el,rfl,I⟩
  ·rename_i I;have J:=iO N (show Ii q k (Fy 2 el)=some false from I) hk V;rcases qJ N hk els es (i+1) r h.tail hm with⟨O,U⟩ | ⟨j,e',O,U,h3,Y,h4,h5⟩
   ·exact .inl ⟨O,by simp only[Instr.findNow,J,U]⟩
   ·refine .inr ⟨j+1,e',by rw[O]; congr 1; omega,by simpa using U,?_,Y,by simpa using h4,h5⟩;simp only[Instr.findNow,J,h3]
    congr 3; omega
  ·cases hm
theorem jq{kt:TypeId}{sz:Nat}{ks:List Nat}{k:D}{M:Value}(N:sz≠2)(hl:IP P 100 kt=some ks)(Y:Ej P kt=some true)(hk:RepV w g st k M):∀ (els:List D) (es:List MapEntry) (i:Nat) (r:Option Nat),Ents w g st sz els es→Kp sz ks k els i=some r→
  (r=none∧(Instr.findAsking kt M es i).run P w=.ok none w)∨∃ j e,r=some (i+j)∧es[j]?=some e∧(Instr.findAsking kt M es i).run P w=.ok (some (i+j,e.val)) w∧∃ el,els[j]?=some el∧HI sz ks k (Fy sz el)=some true
 |[],es,i,r,h,hm=>by
  obtain rfl:es=[]:=AO h.1;simp only[Kp,C3]at hm;exact .inl ⟨hm.symm,rfl⟩
 |el::els,[],i,r,h,hm=>by have:=h.1; simp at this
 |el::els,e::es,i,r,h,hm=>by
  have O:=(h.2 0 e el rfl rfl).1
  have he:∀ b,HI sz ks k (Fy sz el)=some b→(Op.equal kt M e.key).run P w=.ok b w:=fun b hb=>by
   unfold HI at hb;rw[if_neg N]at hb
   split at hb
   ·rename_i xs ys aa;rw[aa]at O
    cases hk with
    |agg _ vs E I=>
     generalize e.key=ek at O
     cases O with
     |agg _ us U V=>exact eu 100 kt ks hl 10000 (by omega) w g st true xs ys vs us b Y hb E U I V
   ·cases hb
  simp only[Kp]at hm
  split at hm
  ·rename_i J;simp only[C3]at hm;subst hm;exact .inr ⟨0,e,rfl,rfl,by simp[Instr.findAsking,he true J],el,rfl,J⟩
  ·rename_i J;rcases jq N hl Y hk els es (i+1) r h.tail hm with⟨E,I⟩ | ⟨j,e',E,I,U,ab,V,h5⟩
   ·exact .inl ⟨E,by simp[Instr.findAsking,he false J,I]⟩
   ·refine .inr ⟨j+1,e',by rw[E]; congr 1; omega,by simpa using I,?_,ab,by simpa using V,h5⟩;simp[Instr.findAsking,he false J,U];omega
  ·cases hm
theorem yMy{n:Nat}(J:P.underlying kt=some (.array n e))(E:P.underlying e=some (.int kk))(I:D3 P e=some 1):IP P 100 kt=some (CF n 0):=by
 have M:IP P 99 e=some [0]:=by unfold IP; rw[E]
 unfold IP;simp_all
theorem Xh{I:Value}{r:Option Nat}(E:MG P kt=some (sz,ks))(hk:RepV w g st k I)(O:Ents w g st sz els es)(hm:Kp sz ks k els 0=some r) :
  (r=none∧(Instr.findKey kt I es).run P w=.ok none w)∨∃ j e,r=some j∧es[j]?=some e∧(Instr.findKey kt I es).run P w=.ok (some (j,e.val)) w∧∃ el,els[j]?=some el∧HI sz ks k (Fy sz el)=some true:=by
 have one:∀ (desc:TypeDesc) (q:Nat),P.underlying kt=some desc→(sz,ks)=(2,[q])→((∃ kk,desc=.int kk∧q=0)∨(desc=.bool∧q=1)∨(desc=.string∧q=2))→
   (r=none∧(Instr.findKey kt I es).run P w=.ok none w)∨∃ j e,r=some j∧es[j]?=some e∧(Instr.findKey kt I es).run P w=.ok (some (j,e.val)) w∧∃ el,els[j]?=some el∧HI sz ks k (Fy sz el)=some true:=by
  intro desc q hu he hd;simp only[Dk]at he;obtain⟨rfl,rfl⟩:=he;rcases qJ hd hk els es 0 r O hm with⟨J,M⟩ | ⟨j,e,J,M,N,U⟩
  ·exact .inl ⟨J,MapKept.run_findKey hu M⟩
  ·rw[Am]at J N;exact .inr ⟨j,e,J,M,MapKept.run_findKey hu N,U⟩
 unfold MG at E
 split at E
 ·rename_i kk hu;exact one _ 0 hu (AD E).symm (.inl ⟨kk,rfl,rfl⟩)
 ·grind
 ·grind
 ·rename_i n e hu
  split at E
  ·rename_i kk V Y
   split at E
   ·rename_i M;simp only[C3,Dk]at E;obtain⟨rfl,rfl⟩:=E;have ha:Ej P kt=some true:=by unfold Ej; rw[hu]
    have N:=jq (by omega) (yMy hu V Y) ha hk els es 0 r O hm
    have U:(Instr.findKey kt I es).run P w=(Instr.findAsking kt I es 0).run P w:=by
     cases es with
     |nil=>simp[Instr.findKey,run_underlying hu,Instr.findNow,Instr.findAsking]
     |cons e0 es=>
      have:Instr.findNow (.array n e) I (e0::es) 0=none:=by
       rfl
      simp[Instr.findKey,run_underlying hu,this]
    grind
   ·cases E
  ·cases E
 ·cases E
theorem xf(J:SR base w g st)(h:1<sz)(E:sz≠1000003):RunsTo P base w g st (Instr.makeMap t none) (.mapv st.length) (st++[{row:=false,sz,els:=[],lent:=false}]):=by
 have hm:({row:=false,sz,els:=[],lent:=false}:Obj).isMap=true:=by simp[Obj.isMap,h]
 have I:=SR.pushMap (w':=w.alloc (.map #[] 0)) (o:={row:=false,sz,els:=[],lent:=false}) (clock:=0) J ⟨rfl,rfl,rfl,by simp⟩ (fun b hb=>O6 w _ b hb) (MapKept.heap_alloc w _).1 hm E rfl;refine⟨.map (some w.heap.size),_,_,rfl,I,?_⟩;have:=RepV.mapv (w:=w.alloc (.map #[] 0)) (g:={g with β:=Fk g.β st.length w.heap.size}) (st:=st++[{row:=false,sz,els:=[],lent:=false}]) st.length {row:=false,sz,els:=[],lent:=false} (by simp) hm;simpa[HD]using this
theorem lk{o:Obj}(E:st[key]?=some o)(h:RepV w g st (.mapv key) v):o.isMap=true∧v=.map (some (g.β key)):=by
 cases h with
 |mapv _ I J M=>
  grind
theorem tM{o:Obj}{es:Array MapEntry}(I:es.size=o.els.length)(J:∀ (i:Nat) (e:MapEntry) (el:D),es[i]?=some e→o.els[i]?=some el→RepV w g st (Fy o.sz el) e.key∧RepV w g st (G5 o.sz el) e.val):Ents w g st o.sz o.els es.toList:=
 ⟨by simpa using I,fun i e el he E=>J i e el (by simpa using he) E⟩
theorem wk{P:Program}(h:MG P kt=some (sz,ks)):sz≠0:=by
 unfold MG at h
 repeat' split at h
 all_goals first | (cases h; done) | (simp only[C3,Dk]at h; omega)
theorem zV(hS:SR base w g st)(ht:PG P t=some (kt,et,sz,ks))(M:HG P et=some zd)(hm:RepV w g st m vm)(hk:RepV w g st k vk)
  (h:IJ st sz ks ok zd m k=some r):∃ v,(Instr.lookup t vm vk ok).run P w=.ok v w∧RepV w g st r v:=by
 obtain⟨hu,J,Y,_,_⟩:=ox ht;have ac:sz≠0:=wk J;unfold IJ at h
 split at h
 case h_2=>rw[if_neg ac]at h; cases h
 case h_3=>cases h
 rename_i key
 split at h
 case h_2=>cases h
 rename_i o ho
 split at h
 case isFalse=>cases h
 rename_i hc;simp only[Af,beq_iff_eq]at hc;obtain⟨⟨_,rfl⟩,af⟩:=hc;obtain⟨b,hb⟩:=Option.isSome_iff_exists.1 af;obtain⟨ad,rfl⟩:=lk ho hm;obtain⟨es,clock,V,h2,h3,h4,h5,ba⟩:=(hS.mp key o ho ad).old (by first | exact Y | (simpa using Y));have hE:=tM h3 h5;have E:=br (w:=w) J hb hk es.isEmpty
 have a1:∃ z,(zeroValue et).run P w=.ok z w∧RepV w g st zd z:=by
  unfold HG at M
  split at M
  case h_2=>cases M
  rename_i i hi
  split at M
  case h_2=>cases M
  rename_i z a2;exact⟨z,by simp[zeroValue,typeInfo,hi,a2],QQ M⟩
 obtain⟨z,aa,ab⟩:=a1
 have N:∀ (x:D) (v:Value) (b:Bool),RepV w g st x v→RepV w g st (.tup [x,.bool b]) (.tuple #[v,.bool b]):=fun x v b hx=>by
  refine .tup [x,.bool b] [v,.bool b] rfl fun i d u I hu=>?_
  match i,I,hu with
  |0,I,hu=>simp at I hu; subst I; subst hu; exact hx
  |1,I,hu=>simp at I hu; subst I; subst hu; exact .bool _
 split at h
 ·rename_i i hi
  split at h
  ·rename_i el a3;simp only[C3]at h;subst h;rcases Xh J hk hE hi with⟨O,_⟩ | ⟨j,e,O,h7,U,bb,h9,bc⟩
   ·cases O
   ·obtain rfl:=AD O;have hr:=(h5 i e el (by simpa using h7) a3).2
    cases ok with
    |true=>exact⟨.tuple #[e.val,.bool true],by simp[Instr.lookup,run_underlying hu,MapKept.run_getObj_map V,E,U],N _ _ _ hr⟩
    |false=>exact⟨e.val,by simp[Instr.lookup,run_underlying hu,MapKept.run_getObj_map V,E,U],hr⟩
  ·cases h
 ·rename_i hi;simp only[C3]at h;subst h;rcases Xh J hk hE hi with⟨_,U⟩ | ⟨j,e,O,_⟩
  ·cases ok with
   |true=>exact⟨.tuple #[z,.bool false],by simp[Instr.lookup,run_underlying hu,MapKept.run_getObj_map V,E,U,aa],N _ _ _ ab⟩
   |false=>exact⟨z,by simp[Instr.lookup,run_underlying hu,MapKept.run_getObj_map V,E,U,aa],ab⟩
  ·cases O
 ·cases h
def YI(P:Program)(t:TypeId):Option D:=match P.underlying t with
 |some (.map kt et)=>match P.underlying kt,D3 P et,Ej P et,HG P et with
  |some (.int .i64),some 1,some true,some zd=>some zd
  |_,_,_,_=>none
 |_=>none
theorem zp{P:Program}(h:YI P t=some zd):∃ kt et,P.underlying t=some (.map kt et)∧P.underlying kt=some (.int .i64)∧HG P et=some zd:=by
 unfold YI at h;grind
theorem qH{es:List (Int×Nat)}(n:Int):∀ (l:List MapEntry) (i:Nat),(∀ e∈l,∃ m f,e.key=.int .i64 m∧e.val=.agg #[.func (.func f) #[] #[]]∧f<5000000∧FC m es=some f)→
  (∃ j f,Instr.findNow (.int .i64) (.int .i64 n) l i=some (some (j,.agg #[.func (.func f) #[] #[]]))∧FC n es=some f∧f<5000000)∨(Instr.findNow (.int .i64) (.int .i64 n) l i=some none∧∀ e∈l,e.key≠.int .i64 n)
 |[],i,_=>.inr ⟨rfl,fun e he=>by cases he⟩
 |e::l,i,h=>by
  obtain⟨m,f,I,J,M,N⟩:=h e (by simp)
  by_cases E:n=m
  ·subst E;exact .inl ⟨i,f,by simp[Instr.findNow,Instr.sameNow,I,J],N,M⟩
  ·have hf:Instr.findNow (.int .i64) (.int .i64 n) (e::l) i=Instr.findNow (.int .i64) (.int .i64 n) l (i+1):=by
    have hb:(n == m)=false:=by simpa using E
    simp only[Instr.findNow,Instr.sameNow,I,if_true,hb]
   rcases qH n l (i+1) (fun x O=>h x (by simp[O]))with⟨j,f',U,V⟩ | ⟨U,V⟩
   ·grind
   ·grind
theorem Yg4(ht:YI P t=some zd)(hm:RepV w g st m vm)(hk:RepV w g st k vk)(h:IJ st 0 [] ok zd m k=some r) :
  ∃ v,(Instr.lookup t vm vk ok).run P w=.ok v w∧RepV w g st r v:=by
 obtain⟨kt,et,hu,aa,M⟩:=zp ht;unfold IJ at h
 split at h
 case h_3=>cases h
 case h_1=>
  split at h
  case h_2=>cases h
  split at h
  case isFalse=>cases h
  rename_i hc;simp only[Af,beq_iff_eq]at hc;have:=eR hc.1.1;omega
 rename_i es;rw[if_pos rfl]at h
 split at h
 case h_2=>cases h
 rename_i n;simp only[C3]at h
 obtain⟨b,E,clock,rfl,N,Y⟩:∃ b E clock,vm=.map (some b)∧w.heap[b]?=some (.map E clock)∧cN E es:=by
  cases hm with
  |gmap _ b E clock N h2 Y=>exact⟨b,E,clock,rfl,N,Y⟩
 have ah:=hk;cases ah;have ae:MG P kt=some (2,[0]):=by unfold MG; rw[aa]
 have J:=br (w:=w) ae (show HI 2 [0] (.int .i64 n) (.int .i64 n)=some (n == n) by simp[HI,Ii]) hk E.isEmpty
 have a0:∃ z,(zeroValue et).run P w=.ok z w∧RepV w g st zd z:=by
  unfold HG at M
  split at M
  case h_2=>cases M
  rename_i i hi
  split at M
  case h_2=>cases M
  rename_i z a1;exact⟨z,by simp[zeroValue,typeInfo,hi,a1],QQ M⟩
 obtain⟨z,ab,ac⟩:=a0
 have O:∀ (x:D) (v:Value) (b:Bool),RepV w g st x v→RepV w g st (.tup [x,.bool b]) (.tuple #[v,.bool b]):=fun x v b hx=>by
  refine .tup [x,.bool b] [v,.bool b] rfl fun i d u I hu=>?_
  match i,I,hu with
  |0,I,hu=>simp at I hu; subst I; subst hu; exact hx
  |1,I,hu=>simp at I hu; subst I; subst hu; exact .bool _
 have U:∀ f,f<5000000→RepV w g st (.agg [.clo f []]) (.agg #[.func (.func f) #[] #[]]):=fun f hf=>by
  refine .agg [.clo f []] [.func (.func f) #[] #[]] rfl fun i d u I hu=>?_
  match i,I,hu with
  |0,I,hu=>
   simp at I hu; subst I; subst hu;have:=RepV.clo (w:=w) (g:=g) (st:=st) f [] [] rfl (fun i d v h=>by simp at h);rw[Qr hf,aP,ay]at this;exact this
 have ad:∀ r,Instr.findNow (.int .i64) (.int .i64 n) E.toList 0=some r→(Instr.findKey kt (.int .i64 n) E.toList).run P w=.ok r w:=fun r hr=>by
  simp[Instr.findKey,run_underlying aa,hr]
 rcases qH n E.toList 0 Y.1 with⟨j,f,h5,h6,h7⟩ | ⟨h5,h6⟩
 ·have V:=ad _ h5;rw[h6]at h;simp only at h
  cases ok with
  |true=>
   simp only[if_true]at h;subst h;exact⟨.tuple #[.agg #[.func (.func f) #[] #[]],.bool true],by simp[Instr.lookup,run_underlying hu,MapKept.run_getObj_map N,J,V],O _ _ _ (U f h7)⟩
  |false=>
   simp only[Al,if_false]at h;subst h;exact⟨.agg #[.func (.func f) #[] #[]],by simp[Instr.lookup,run_underlying hu,MapKept.run_getObj_map N,J,V],U f h7⟩
 ·have V:=ad _ h5
  have a4:FC n es=none:=by
   cases hg:FC n es with
   |none=>rfl
   |some f=>
    obtain⟨e,he,a9⟩:=Y.2 n f hg;grind
  rw[a4]at h;simp only at h
  cases ok with
  |true=>
   simp only[if_true]at h;subst h;exact⟨.tuple #[z,.bool false],by simp[Instr.lookup,run_underlying hu,MapKept.run_getObj_map N,J,V,ab],O _ _ _ ac⟩
  |false=>
   simp only[Al,if_false]at h;subst h;exact⟨z,by simp[Instr.lookup,run_underlying hu,MapKept.run_getObj_map N,J,V,ab],ac⟩
theorem Yvs{v:D}(h:HI sz ks k k=some b)(hl:k.cells.length+1=sz):Fy sz (.agg (k.cells++[v]))=k∧G5 sz (.agg (k.cells++[v]))=v:=by
 have E:(k.cells++[v]).take (sz - 1)=k.cells:=by rw[show sz - 1=k.cells.length by omega]; simp
 have I:(k.cells++[v]).drop (sz - 1)=[v]:=by rw[show sz - 1=k.cells.length by omega]; simp
 refine⟨?_,by simp only[G5,I]; rfl⟩;simp only[Fy,E];unfold HI at h
 split at h
 ·rename_i e;subst e
  split at h
  ·have J:=(Xs h).1;cases k <;> first | rfl | (simp[OE]at J; done)
  ·cases h
 ·rename_i e
  split at h
  ·simp[e,D.mk,D.cells]
  ·cases h
theorem sM(h:RepV w g st d v)(E:d.isCell=true):Qa v=false:=by
 have:=h.oneCell E;cases v <;> first | rfl | (simp[Value.oneCell']at this; done)
theorem oz(hS:SR base w g st){v:D}{M:Value}(ht:PG P t=some (kt,et,sz,ks))(hm:RepV w g st m vm)(hk:RepV w g st k vk)(hv:RepV w g st v M)
  (h:Rk st sz ks m k v=some st'):∃ w' g',(Instr.mapUpdate t vm vk M).run P w=.ok () w'∧Go1 base w g st w' g' st':=by
 obtain⟨hu,N,J,_,_⟩:=ox ht;unfold Rk at h
 split at h
 case h_2=>cases h
 rename_i key
 split at h
 case h_2=>cases h
 rename_i o ho
 split at h
 case isFalse=>cases h
 rename_i hc;simp only[Af,AR,beq_iff_eq]at hc;obtain⟨⟨⟨⟨⟨⟨_,rfl⟩,a6⟩,ab⟩,hl⟩,a8⟩,O⟩:=hc;obtain⟨I,rfl⟩:=lk ho hm;obtain⟨es,clock,E,h2,h3,h4,h5,ac⟩:=(hS.mp key o ho I).old (by first | exact J | (simpa using J));have hE:=tM h3 h5;have U:=br (w:=w) N O hk false;obtain⟨k1,k2⟩:=Yvs (v:=v) O hl;have bb:∃ l,(D.agg (k.cells++[v]))=.agg l∧l.length=o.sz:=⟨_,rfl,by rw[Ab]; exact hl⟩;have bc:g.β key<w.heap.size:=(AG.1 E).1
 split at h
 ·rename_i i hi;simp only[C3]at h;subst h;rcases Xh N hk hE hi with⟨V,_⟩ | ⟨j,e,V,h7,h8,a1,h9,a2⟩
  ·cases V
  ·obtain rfl:=AD V;have Y:es[i]?=some e:=by simpa using h7
   have a3:e.key=vk:=(yS7 a2 hk (h5 i e a1 Y h9).1).symm;have a4:(Instr.keyThatStays e.key vk).run P w=.ok vk w:=by rw[a3]; exact yJa O hk w
   refine⟨_,g,?_,SR.updMap (o':={o with els:=o.els.set i (.agg (k.cells++[v]))}) (es':=es.modify i fun e=>{e with key:=vk,val:=M}) (clock':=clock) (w':={w with heap:=w.heap.setIfInBounds (g.β key) (.map (es.modify i fun e=>{e with key:=vk,val:=M}) clock)}) hS ho I J rfl rfl (by simp) rfl
    ⟨rfl,rfl,rfl,by simp⟩ (fun b hb=>(MapKept.heap_set E).2 b hb) (MapKept.heap_set E).1 (by simpa using h3) ?_ ?_ ?_⟩
   ·simp[Instr.mapUpdate,run_underlying hu,MapKept.run_getObj_map E,U,h8,Y,a4,MapKept.run_setObj_map _ E]
   ·grind
   ·grind
   ·rw[du]at ac ⊢;rw[B8]
    by_cases a5:i=0
    ·subst a5;rw[if_pos rfl,Y];exact sM hv ab
    ·grind
 ·rename_i hi;simp only[C3]at h;subst h;rcases Xh N hk hE hi with⟨_,h8⟩ | ⟨j,e,V,_⟩
  ·refine⟨_,g,?_,SR.updMap (o':={o with els:=o.els++[.agg (k.cells++[v])]}) (es':=es.push {key:=vk,val:=M,born:=clock}) (clock':=clock+1) (w':={w with heap:=w.heap.setIfInBounds (g.β key) (.map (es.push {key:=vk,val:=M,born:=clock}) (clock+1))}) hS ho I J rfl rfl (by simp) rfl
    ⟨rfl,rfl,rfl,by simp⟩ (fun b hb=>(MapKept.heap_set E).2 b hb) (MapKept.heap_set E).1 (by simpa using h3) ?_ ?_ ?_⟩
   ·simp[Instr.mapUpdate,run_underlying hu,MapKept.run_getObj_map E,U,h8,MapKept.run_setObj_map _ E]
   ·grind
   ·grind
   ·rw[du]at ac ⊢
    by_cases hj:0<es.size
    ·grind
    ·have he:es=#[]:=Array.eq_empty_of_size_eq_zero (by omega);subst he;exact sM hv ab
  ·cases V
 ·cases h
theorem Ypm(V:SR base w g st){tot off len:Nat}{s:D}(hu:P.underlying dT=some (.slice elem))(a5:(P.info? elem).map (·.size)=some 1)(hd:RepV w g st (.row key tot off len) vd)(hs:RepV w g st s vs)
  (h:SQ st 1 key tot off len s=some (r,st')):RunsTo P base w g st (Builtin.copy_ #[dT,sT] ty #[vd,vs]) r st':=by
 unfold SQ at h
 split at h
 case h_2=>cases h
 rename_i o cc xs N a6
 split at h
 case isFalse=>cases h
 rename_i hc;simp only[Af,AR,beq_iff_eq,decide_eq_true_eq,A8,BF]at hc;obtain⟨⟨⟨⟨⟨⟨⟨⟨E,be⟩,ae⟩,J⟩,_⟩,b4⟩,b5⟩,af⟩,b6⟩:=hc;simp only[C3,Dk]at h;obtain⟨rfl,rfl⟩:=h;obtain⟨I,h1,h2,h3,rfl,h5⟩:=RQ (by simp[EE,N,E,ae]) hd;obtain rfl:I=o:=AD (h1.symm.trans N);obtain⟨C,e,hb,bf,b8,hx,hC,b9⟩:=V.blk key I N (L1 E);rw[E]at hC;simp only[if_true]at hC
 have hE:Els w g st vs 1 xs:=by
  rcases fB V a6 hs with Y | ⟨s',rfl,_,_⟩
  ·grind
  ·simp[Ip]at af
 obtain⟨⟨a,cap,rfl,a7⟩,bg,a8⟩:=hE;have cd:min len xs.length≤xs.length:=Nat.min_le_right _ _;have ce:min len xs.length≤len:=Nat.min_le_left _ _;have a0:Nat.min xs.length len=min len xs.length:=Nat.min_comm ..;generalize min len xs.length=m at*
 have a1:xs≠[]:=by
  grind
 obtain⟨b,o2,rfl,_,bh⟩:=a7 a1
 have cf:∀ j,j<m→∃ d u,Fs xs j 0=some d∧w.cell? ⟨b,o2+j,none⟩=some u∧RepV w g st d u∧u.oneCell'=true:=by
  intro j hj;have ab:j<xs.length:=by omega
  have cg:=a8 xs[j] (By ab);have ch:Fs xs j 0=some (xs[j].cells[0]'(by omega)):=Hb (An ab) (An (by omega));grind
 have ac:∀ j:Nat,((CI m).map fun j=>(w.cell? ⟨b,o2+j,none⟩).getD undef)[j]?=if j<m then w.cell? ⟨b,o2+j,none⟩else none:=fun j=>by
  grind
 have hlen:((CI m).map fun j=>(w.cell? ⟨b,o2+j,none⟩).getD undef).length=m:=by rw[Bd,List.length_range]
 generalize ((CI m).map fun j=>(w.cell? ⟨b,o2+j,none⟩).getD undef)=cs at ac hlen
 have a2:∀ v∈cs,v.oneCell'=true:=fun v hv=>by
  obtain⟨j,hj⟩:=AZ.1 hv;grind
 rw[J,BL]at hC;rw[show off*I.sz=off by rw[J,BL]];have O:off+cs.length≤C.size:=by omega
 have a3:=run_copy_row P w dT sT ty elem (g.β key) off len (g.γ key - off) ⟨b,o2,none⟩ xs.length cap C e cs hu a5 hb (by rw[hlen]; exact a0.symm) (fun j v hv=>by
   rw[ac]at hv
   split at hv
   ·rw[cell?_add]; simpa using hv
   ·cases hv) O a2
 have a9:(xs.take m).length=m:=by rw[AQ]; omega
 have U:off+(xs.take m).length≤I.els.length:=by omega
 have ba:=SL U
 have a4:∀ j y,(Fc I.els off (xs.take m))[j]?=some y→(off≤j∧j<off+m∧xs[j - off]?=some y)∨(¬ (off≤j∧j<off+m)∧I.els[j]?=some y):=by
  intro j y M;rw[Po U,a9]at M;grind
 refine⟨_,_,{g with β:=Fk g.β key (g.β key),γ:=Fk g.γ key (g.γ key)},a3,?_,by simp only[goInt,hlen]; exact .int _ _⟩
 refine SR.update (o':={I with els:=Fc I.els off (xs.take m)}) (c:=g.γ key) V N (L1 E) hb (.inl ⟨rfl,rfl⟩) rfl rfl (by simp[ba]) rfl ?_ (SK w _ _)
  (fun b' _ c0=>setRow_other w _ _ _ (by omega)) (setRow_heap w _ C _ e _ hb) ?_ ?_ ?_
 ·intro y M;obtain⟨j,hj⟩:=AZ.1 M;grind
 ·intro _ y M;have:=(V.dis key I y N M).1;grind
 ·grind
 ·intro i j d bb;obtain⟨y,M,ad⟩:=HE bb
  have bc:j=0:=by
   have h7:y.cells.length=1:=by
    grind
   grind
  subst bc;rw[J,BL,BV,SI O,hlen];rcases a4 i y M with⟨Y,h7,h8⟩ | ⟨Y,h7⟩
  ·rw[if_pos ⟨Y,h7⟩];have bd:=Hb h8 ad;grind
  ·rw[if_neg Y];have bd:=Hb h7 ad;grind
theorem Ypl(O:SR base w g st){s:D}(hu:P.underlying dT=some (.slice elem))(b9:D3 P elem=some 1)(M:RepV w g st d vd)(hs:RepV w g st s vs)
  (h:JA st 1 d s=some (r,st')):RunsTo P base w g st (Builtin.copy_ #[dT,sT] ty #[vd,vs]) r st':=by
 have ab:(P.info? elem).map (·.size)=some 1:=b9;have ba:∀ (a V:Option Addr) (c n' c':Nat),(Builtin.copy_ #[dT,sT] ty #[.slice a 0 c,.slice V n' c']).run P w=.ok (goInt 0) w:=fun a V c n' c'=>run_copy_none (P:=P) w dT sT ty elem a V 0 c n' c' hu ab (Nat.min_zero _);have ca:∀ (a V:Option Addr) (n c c':Nat),(Builtin.copy_ #[dT,sT] ty #[.slice a n c,.slice V 0 c']).run P w=.ok (goInt 0) w:=fun a V n c c'=>run_copy_none (P:=P) w dT sT ty elem a V n c 0 c' hu ab (Nat.zero_min _);unfold JA at h
 split at h
 ·rename_i key off n da _ af E n2 db _
  split at h
  ·cases h
  rename_i c0
  split at h
  case h_2=>cases h
  rename_i o o2 ho bb
  split at h
  case isFalse=>cases h
  rename_i hc;simp only[Af,AR,decide_eq_true_eq,BL]at hc;obtain⟨⟨⟨⟨⟨Y,c1⟩,a8⟩,hle⟩,c4⟩,bf⟩:=hc;simp only[C3,Dk,BL]at h;obtain⟨rfl,rfl⟩:=h
  cases M with
  |bsl _ _ _ _ _ I cap q1 q2 q3 _=>
   obtain rfl:I=o:=AD (q1.symm.trans ho)
   cases hs with
   |bsl _ _ _ _ _ U N u1 u2 u3 _=>
    obtain rfl:U=o2:=AD (u1.symm.trans bb);obtain⟨C,e,hb,c2,c5,hx,hC,b1⟩:=O.blk key I ho (Om q3);obtain⟨C2,e2,cc,cd,c3,dc,a0,a9⟩:=O.blk af U bb (Om u3);rw[Y]at hC;rw[a8]at a0;simp only[Al,if_false]at hC a0;obtain⟨bc,c6,ce⟩:=hC;obtain⟨dd,_,cf⟩:=a0;have b2:Nat.min n2 n=min n n2:=Nat.min_comm ..;generalize hm:min n n2=mm at*;have bd:((U.els.drop E).take mm).length=mm:=by rw[AQ,AX]; omega
    have b3:∀ j d,((U.els.drop E).take mm)[j]?=some d→∃ u,C2[E+j]?=some u∧RepV w g st d u∧d.cells=[d]∧u.oneCell'=true:=fun j d M=>by
     obtain⟨h6,_⟩:=bD M;have h7:=cf d (Aq h6);obtain⟨_,u,h8,h9⟩:=a9 (E+j) 0 d (Hb h6 (by rw[h7]; rfl));rw[u3]at h8;exact⟨u,by simpa using h8,h9,h7,h9.oneCell (Aj.1 bf d (Aq M))⟩
    have hlen:((C2.toList.drop E).take mm).length=mm:=by
     grind
    have a3:∀ j:Nat,((C2.toList.drop E).take mm)[j]?=if j<mm then C2[E+j]? else none:=fun j=>by
     grind
    generalize c7:(C2.toList.drop E).take mm=cs at hlen a3;generalize c8:(U.els.drop E).take mm=xs at*
    have b7:∀ v∈cs,v.oneCell'=true:=fun v hv=>by
     obtain⟨j,hj⟩:=AZ.1 hv;have cg:j<mm:=by have:=(Ac.1 hj).1; omega
     rw[a3,if_pos cg]at hj;obtain⟨u,h8,_,_,h9⟩:=b3 j xs[j] (An (by omega));grind
    have a4:=run_copy_row P w dT sT ty elem (g.β key) off n cap ⟨g.β af,E,none⟩ n2 N C e cs hu ab hb (by rw[hlen]; exact b2.symm) (fun j v hv=>by
      rw[a3]at hv
      split at hv
      ·rw[cell?_add]; simp only[World.cell?,cc]; simpa using hv
      ·cases hv) (by rw[hlen,bc]; exact hle) b7
    rw[hlen]at a4;have b8:off+cs.length≤C.size:=by rw[hlen,bc]; exact hle
    have aa:off+xs.length≤I.els.length:=by rw[bd]; exact hle
    have ch:=SL aa
    have mem:∀ y∈Fc I.els off xs,y.cells=[y]:=by
     intro y J;obtain⟨j,hj⟩:=AZ.1 J;rw[Po aa]at hj;grind
    have eo:({row:=false,sz:=I.sz,els:=Fc I.els off xs,lent:=I.lent}:Obj)={I with els:=Fc I.els off xs}:=by rw[← Y]
    refine⟨_,_,{g with β:=Fk g.β key (g.β key),γ:=Fk g.γ key (g.γ key)},a4,?_,by simp only[goInt]; exact .int _ _⟩
    refine SR.update (o':={I with els:=Fc I.els off xs}) (c:=g.γ key) O ho (Om q3) hb (.inl ⟨rfl,rfl⟩) rfl rfl (by simp[ch]) rfl (fun y J=>by rw[mem y J,q3]; rfl) (SK w _ _)
     (fun b' _ de=>setRow_other w _ _ _ (by omega)) (by rw[← hlen]; exact setRow_heap w _ C _ e _ hb) ?_ ?_ ?_
    ·intro _ y J;have:=(O.dis key I y ho J).1;grind
    ·grind
    ·intro i j d M;refine⟨fun h=>by simp[Y]at h,?_⟩;obtain⟨y,J,ac⟩:=HE M;have h5:=mem y (Aq J);rw[h5]at ac
     cases j with
     |succ j=>simp at ac
     |zero=>
      simp only[AH,C3]at ac;subst ac;rw[q3,BL,BV,SI b8];rw[Po aa]at J;rw[hlen];rw[bd]at J
      split at J
      ·grind
      ·rename_i hc;rw[if_neg hc];have h8:=ce y (Aq J);obtain⟨_,u,h6,h7⟩:=b1 i 0 y (Hb J (by rw[h8]; rfl));grind
 ·simp only[C3,Dk]at h;obtain⟨rfl,rfl⟩:=h
  cases M with
  |slcE _ _ a cap _=>
   cases hs with
   |bsl _ _ _ _ _ I N q1 q2 q3 _=>
    exact⟨goInt 0,w,g,ba _ _ _ _ _,Go1.refl O,.int _ _⟩
  |slc _ _ _ _ _ _ _ h=>exact absurd rfl h
 ·simp only[C3,Dk]at h;obtain⟨rfl,rfl⟩:=h
  cases hs with
  |slcE _ _ a cap _=>
   cases M with
   |bsl _ _ _ _ _ I N q1 q2 q3 _=>
    exact⟨goInt 0,w,g,ca _ _ _ _ _,Go1.refl O,.int _ _⟩
  |slc _ _ _ _ _ _ _ h=>exact absurd rfl h
 ·simp only[C3,Dk]at h;obtain⟨rfl,rfl⟩:=h
  cases hs with
  |slcE _ _ a cap _=>
   cases M with
   |slcE _ _ a2 N _=>
    exact⟨goInt 0,w,g,ba _ _ _ _ _,Go1.refl O,.int _ _⟩
   |slc _ _ _ _ _ _ _ h=>exact absurd rfl h
  |slc _ _ _ _ _ _ _ h=>exact absurd rfl h
 ·exact Ypm O hu ab M hs h
 ·cases h
end
end Go.Proofs.YtijnglngaogdjaaGreatDoor.PI
namespace Go.Proofs.YtijnglngaogdjaaGreatDoor.PI
open Go Go.RowKit
def cV(P:Program)(t:TypeId):Option (Nat→Option (Nat×Nat)):=
 match P.underlying t with
 |some (.array _ e)=>match P.info? e with
  |some ie=>some fun i=>some (i*ie.size,ie.size)
  |none=>none
 |some (.struct fields)=>match fields.toList.mapM (fun f=>(P.info? f.type).map fun i=>(f.offset,i.size))with
  |some places=>some fun i=>places.toArray[i]?
  |none=>none
 |_=>none
def Qq(pl:Nat→Option (Nat×Nat)):List (Nat×Operand)→Option (List (Nat×Nat×PA))
 |[]=>some []
 |(i,x)::r=>match pl i,DE x,Qq pl r with
  |some (off,size),some a,some l=>some ((off,size,a)::l)
  |_,_,_=>none
def RF:Nat→List (Nat×Operand)→Option (List PA)
 |_,[]=>some []
 |k,(i,x)::r=>match DE x,RF (k+1) r with
  |some a,some l=>if i=k then some (a::l)else none
  |_,_=>none
def ZL(P:Program)(op:BinOp)(t:TypeId)(a b:PA):Option POp:=
 match op with
 |.eql | .neq=>
  let neg:=match op with | .neq=>true | _=>false
  match P.underlying t with
  |some (.int _) | some .string=>some (.bin op a b)
  |some .bool=>some (.beq neg a b)
  |some (.struct _) | some (.array _ _)=>match IP P 100 t with
   |some ks=>if P.eqGuardType P.depth t then none else some (.aeq ks neg a b)
   |none=>none
  |_=>none
 |_=>some (.bin op a b)
def YR(P:Program)(src dst:TypeId)(a:PA):Option POp:=
 match P.underlying src,P.underlying dst with
 |some _,some (.int k)=>some (.conv (.int k) a)
 |some .string,some .string=>some (.conv .same a)
 |some .string,some (.slice e)=>match P.underlying e with
  |some (.int .u8)=>some (.conv .bytes a)
  |_=>none
 |some (.slice e),some .string=>match P.underlying e with
  |some (.int .u8)=>some (.conv .str a)
  |_=>none
 |_,_=>none
def Zl(P:Program)(t:TypeId)(a:PA)(lo hi mx:Option PA):Option POp:=
 match P.underlying t with
 |some .string=>some (.slice 0 a lo hi mx)
 |some (.slice e)=>match D3 P e with
  |some sz=>if sz=0 then none else some (.slice sz a lo hi mx)
  |none=>none
 |some (.array n e)=>match D3 P e,Ej P e,mx with
  |some sz,some ag,none=>some (.sliceA n sz ag a lo hi)
  |_,_,_=>none
 |_=>none
def WB(P:Program)(b:Builtin)(args:List Operand)(ts:List TypeId):Option POp:=
 match b,args,ts with
 |.len,[x],[t]=>match DE x,P.underlying t with
  |some a,some .string=>some (.len true a)
  |some a,some (.slice _)=>some (.len false a)
  |some _,some (.array n _)=>some (.lenA n)
  |_,_=>none
 |.append,[s,x],[t,tx]=>match DE s,DE x,P.underlying t,P.underlying tx with
  |some a,some b,some (.slice e),some (.slice _) | some a,some b,some (.slice e),some .string=>match P.info? e with
   |some i=>match i.zero with
    |some z=>if z.cells.size=i.size then some (.app i.size i.bytes a b)else none
    |none=>none
   |none=>none
  |_,_,_,_=>none
 |.copy,[d,s],[t,_]=>match DE d,DE s,P.underlying t with
  |some a,some b,some (.slice e)=>match D3 P e with
   |some 1=>some (.cpy 1 a b)
   |_=>none
  |_,_,_=>none
 |.min,[x,y],_=>match DE x,DE y with
  |some a,some b=>some (.mm false a b)
  |_,_=>none
 |.max,[x,y],_=>match DE x,DE y with
  |some a,some b=>some (.mm true a b)
  |_,_=>none
 |.min,[x,y,z],_=>match DE x,DE y,DE z with
  |some a,some b,some c=>some (.mm3 false a b c)
  |_,_,_=>none
 |.max,[x,y,z],_=>match DE x,DE y,DE z with
  |some a,some b,some c=>some (.mm3 true a b c)
  |_,_,_=>none
 |_,_,_=>none
def Dl(P:Program)(il:List Nat):Op→Option POp
 |.move x | .assign x=>(DE x).map .mov
 |.pick c a b=>match DE c,DE a,DE b with
  |some c,some a,some b=>some (.pick c a b)
  |_,_,_=>none
 |.alloc t=>(HG P t).map fun d=>.box (.c d)
 |.box _ x=>(DE x).map .box
 |.build t parts=>match HG P t,cV P t with
  |some (.agg zs),some pl=>(Qq pl parts.toList).map (.bld zs)
  |_,_=>none
 |.buildSlice t len parts=>match P.underlying t with
  |some (.slice e)=>match P.info? e with
   |some i=>match i.zero,RF 0 parts.toList with
    |some _,some l=>if l.length=len then some (.bslc i.size l)else none
    |_,_=>none
   |none=>none
  |_=>none
 |.load t a=>match DE a,D3 P t,Ej P t with
  |some a,some n,some ag=>some (.load n ag a)
  |_,_,_=>none
 |.store t a x=>match DE a,DE x,D3 P t with
  |some a,some x,some n=>some (.stor n a x)
  |_,_,_=>none
 |.nilCheck x=>(DE x).map .nilc
 |.binOp op t x y _=>match DE x,DE y with
  |some a,some b=>ZL P op t a b
  |_,_=>none
 |.unOp op _ x=>(DE x).map (.un op)
 |.convert src dst x=>match DE x with
  |some a=>YR P src dst a
  |none=>none
 |.makeSlice t l c=>match DE l,DE c,P.underlying t with
  |some l,some c,some (.slice e)=>match P.info? e with
   |some i=>match i.zero with
    |some z=>(NY z).map fun zd=>.mkslc i.size i.bytes zd l c
    |none=>none
   |none=>none
  |_,_,_=>none
 |.slice t x lo hi mx=>match DE x,Ru lo,Ru hi,Ru mx with
  |some a,some lo,some hi,some mx=>Zl P t a lo hi mx
  |_,_,_,_=>none
 |.fieldAddr s x f=>match DE x,P.underlying s with
  |some a,some (.struct fields)=>match fields[f]? with
   |some fd=>match D3 P fd.type with
    |some n=>if n=0 then none else some (.fld fd.offset a)
    |none=>none
   |none=>none
  |_,_=>none
 |.field s x f=>match DE x,P.underlying s with
  |some a,some (.struct fields)=>match fields[f]? with
   |some fd=>match D3 P fd.type,Ej P fd.type with
    |some n,some ag=>some (.fldv fd.offset n ag a)
    |_,_=>none
   |none=>none
  |_,_=>none
 |.indexAddr t x i=>match DE x,DE i,P.underlying t with
  |some a,some i,some (.array len e)=>(D3 P e).map fun n=>.idxA len n a i
  |some a,some i,some (.slice e)=>(D3 P e).map fun n=>.idxS n a i
  |_,_,_=>none
 |.index t x i=>match DE x,DE i,P.underlying t with
  |some a,some i,some (.array len e)=>match D3 P e,Ej P e with
   |some n,some ag=>some (.idxV len n ag a i)
   |_,_=>none
  |some a,some i,some .string=>some (.idx a i)
  |_,_,_=>none
 |.extract x i=>(DE x).map fun a=>.ext a i
 |.makeMap t none=>match PG P t with
  |some (_,_,sz,_)=>some (.mkmap sz)
  |none=>none
 |.mapUpdate t m k v | .insert t m k v=>match PG P t,DE m,DE k,DE v with
  |some (_,_,sz,ks),some m,some k,some v=>some (.mapup sz ks m k v)
  |_,_,_,_=>none
 |.lookup t m k ok=>match PG P t,DE m,DE k with
  |some (_,et,sz,ks),some m,some k=>(HG P et).map fun zd=>.mapget sz ks ok zd m k
  |_,_,_=>match YI P t,DE m,DE k with
   |some zd,some m,some k=>some (.mapget 0 [] ok zd m k)
   |_,_,_=>none
 |.call c=>match c.callee with
  |.builtin b=>WB P b c.args.toList c.argTypes.toList
  |.value (.func f)=>match P.funcs[f]?,HM c.args.toList with
   |some fn,some l=>if fn.body.isSome && !(fn.name == "runtime.NumGoroutine") && decide (f<50000000)then some (if il.contains (f+1000000)then .mcall f l else if il.contains (f+90000000)then .rcall f l else if il.contains f then .icall f l else .call f l)else if fn.body.isSome then none else some (.call (f+50000000) l)
   |_,_=>none
  |.value x=>match DE x,HM c.args.toList with
   |some a,some l=>some (.callv a l)
   |_,_=>none
  |_=>none
 |.makeFunc (.func f) first caps=>if decide (f<5000000)then(if first.isEmpty then(HM caps.toList).map (.mkclo f)else if caps.isEmpty then(HM first.toList).map (.mkclo (f+5000000))else none)else none
 |_=>none
def Contract(P:Program)(G:Db)(f:Nat)(sp:List D→Option D):Prop:=
 ∀ (w:World) (g:Ghost) (ds:List D) (vs:List Value) (d:D),sp ds=some d→GlobOK G w g→(∀ b o,g.Im b o→(w.cell? ⟨b,o,none⟩).isSome=true)→ds.length=vs.length→
  (∀ (i:Nat) d v,ds[i]?=some d→vs[i]?=some v→RepV w g [] d v)→(∀ d∈ds,purA d=true)→
  Calls P f vs.toArray w fun e w'=>∃ v g',e=.returned v∧RepV w' g' [] d v∧purR d=true∧ImLe w g w' g'∧(∀ b o,g'.Im b o→g.Im b o∨w.heap.size≤b)∧
   (∀ b o,g'.Im b o→(w'.cell? ⟨b,o,none⟩).isSome=true)∧Below w.heap.size w w'
def IContract(P:Program)(G:Db)(f:Nat)(sp:List D→St→Option (D×St)):Prop:=
 (∃ fn,P.funcs[f]?=some fn∧fn.body.isSome=true∧(fn.name == "runtime.NumGoroutine")=false)∧
 ∀ (base:Nat) (w:World) (g:Ghost) (st st':St) (ds:List D) (vs:List Value) (d:D),sp ds st=some (d,st')→SR base w g st→GlobOK G w g→ds.length=vs.length→
  (∀ (i:Nat) d v,ds[i]?=some d→vs[i]?=some v→RepV w g st d v)→
  Calls P f vs.toArray w fun e w'=>∃ v g',e=.returned v∧Go1 base w g st w' g' st'∧RepV w' g' st' d v
def nT(P:Program)(base:Nat)(w:World)(g:Ghost)(st st':St)(l:Nat)(vs:List Value)(d:D):Prop:=
 ∃ f tmps assign body,(Instr.yield l vs.toArray).run P w=.ok (.round l f tmps assign body) w∧
  RoundIn Fence.wide 0 P l f tmps assign body w fun e w'=>∃ v g',e=.returned v∧Go1 base w g st w' g' st'∧RepV w' g' st' d v
def YOK(P:Program)(G:Db)(y:Nat→List D→St→Option (D×St))(base:Nat)(w0:World)(g0:Ghost)(st0:St):Prop:=
 ∀ (l:Nat) (w:World) (g:Ghost) (st st':St) (ds:List D) (vs:List Value) (d:D),Go1 base w0 g0 st0 w g st→GlobOK G w g→y l ds st=some (d,st')→ds.length=vs.length→
  (∀ (i:Nat) d v,ds[i]?=some d→vs[i]?=some v→RepV w g st d v)→nT P base w g st st' l vs d
def yA(P:Program)(G:Db)(f:Nat)(sp:(List D→St→Option (D×St))→List D→St→Option (D×St)):Prop:=
 (∃ fn,P.funcs[f]?=some fn∧fn.body.isSome=true∧(fn.name == "runtime.NumGoroutine")=false)∧
 ∀ (base:Nat) (w:World) (g:Ghost) (st st':St) (ds:List D) (vs:List Value) (d:D) (l:Nat) (y:List D→St→Option (D×St)),YOK P G (fun l' ds st=>if l'=l then y ds st else none) base w g st→
  sp y ds st=some (d,st')→SR base w g st→GlobOK G w g→ds.length=vs.length→(∀ (i:Nat) d v,ds[i]?=some d→vs[i]?=some v→RepV w g st d v)→
  Calls P f (Value.func (.yield l) #[] #[]::vs).toArray w fun e w'=>∃ v g',e=.returned v∧Go1 base w g st w' g' st'∧RepV w' g' st' d v
def rF(P:Program)(f:Nat)(sp:List D→Option D):Prop:=
 ∀ (ys:List D) (r:D),sp ys=some r→∀ (w:World) (g:Ghost) (st:St) (vs:List Value),ys.length=vs.length→(∀ (i:Nat) y v,ys[i]?=some y→vs[i]?=some v→RepV w g st y v)→
  ∃ v,(callFunc f vs.toArray).run P w=.ok (.value v) w∧∀ (g:Ghost) (st:St),RepV w g st r v
def L9:D→Value
 |.int k n=>.int k n
 |_=>undef
def Gf:D→Value
 |.agg l=>.agg (l.map L9).toArray
 |d=>L9 d
def KR(t:Nat)(d:D):List PanicEntry:=[{v:=.iface t (Gf d),recovered:=false}]
def VT(t:Nat)(d:D):List PanicEntry:=[{v:=.iface t (Gf d),recovered:=true}]
variable {v:Value}{d:D}{g:Ghost}{w:World}
theorem Yde{st:St}(h:RepV w g st d v)(hi:OK d=true):v=L9 d:=by
 cases h <;> first | rfl | (simp[OK]at hi; done)
theorem yT{st:St}(h:RepV w g st d v)(hi:KL d=true):v=Gf d:=by
 cases h with
 |int k n=>rfl
 |agg ds vs hl hv=>
  have:vs=ds.map L9:=by
   apply List.ext_getElem (by simp[hl]);intro i I M;have E:i<ds.length:=by omega
   have J:ds[i]?=some ds[i]:=An E;have:=Yde (hv i ds[i] vs[i] J (An I)) (Aj.1 hi _ (By E));grind
  rw[this]; rfl
 |_=>simp[KL,OK]at hi
def Pq(P:Program)(G:Db)(f:Nat)(sp:List D→St→Option (Nat×D×St)):Prop:=
 (∃ fn,P.funcs[f]?=some fn∧fn.body.isSome=true∧(fn.name == "runtime.NumGoroutine")=false)∧
 ∀ (base:Nat) (w:World) (g:Ghost) (st st':St) (ds:List D) (vs:List Value) (t:Nat) (d:D),sp ds st=some (t,d,st')→SR base w g st→GlobOK G w g→ds.length=vs.length→
  (∀ (i:Nat) d v,ds[i]?=some d→vs[i]?=some v→RepV w g st d v)→
  Calls P f vs.toArray w fun e w'=>∃ g',e=.panicked (KR t d)∧Go1 base w g st w' g' st'
def R9(P:Program)(G:Db)(f:Nat)(H:Nat→D→List D→St→Option St):Prop:=
 (∃ fn,P.funcs[f]?=some fn∧fn.body.isSome=true∧(fn.name == "runtime.NumGoroutine")=false)∧
 ∀ (base:Nat) (w:World) (g:Ghost) (st:St) (das:List D) (vs:List Value),SR base w g st→GlobOK G w g→das.length=vs.length→(∀ (i:Nat) d v,das[i]?=some d→vs[i]?=some v→RepV w g st d v)→
  (CallsDIn Fence.wide 0 P f vs.toArray .returning w fun e u w'=>e=.returned (.tuple #[])∧u=.returning∧∃ g',Go1 base w g st w' g' st)∧
  ∀ t d st',H t d das st=some st'→CallsDIn Fence.wide 0 P f vs.toArray (.panicking (KR t d)) w fun e u w'=>e=.returned (.tuple #[])∧u=.panicking (VT t d)∧∃ g',Go1 base w g st w' g' st'
structure TblOK (P:Program) (G:Db) (T:Tbl):Prop where
 p:∀ f sp,T.p f=some sp→(f<50000000∧Contract P G f sp)∨∃ f',f=f'+50000000∧rF P f' sp
 i:∀ f sp,T.i f=some sp→IContract P G f sp
 m:∀ f sp,T.m f=some sp→IContract P G f (fun ds st=>(sp ds).map fun r=>(r.1 st.length,st++r.2 st.length))
 r:∀ f sp,T.r f=some sp→yA P G f sp
 x:∀ f sp,T.x f=some sp→Pq P G f sp
 q:∀ f sp,T.q f=some sp→IContract P G f (fun ds st=>(Ig sp ds st).map (·,st))
variable {st':St}{g':Ghost}{w':World}
section
variable {P:Program} {base:Nat} {w:World} {g:Ghost} {st:St}
theorem QR(st:St)(k:Nat)(key:Nat):(st.modify k fun o=>{o with lent:=true})[key]?=(st[key]?).map fun o=>if k=key then {o with lent:=true} else o:=by
 grind
theorem iZ(st:St)(k key tot off len:Nat):Hf (st.modify k fun o=>{o with lent:=true}) key tot off len=Hf st key tot off len:=by
 unfold Hf;grind
theorem yF(st:St)(k key off n sz:Nat)(ag:Bool):Hq (st.modify k fun o=>{o with lent:=true}) key off n sz ag=Hq st key off n sz ag:=by
 unfold Hq Kv;grind
theorem p9(st:St)(k:Nat)(d:D):Dw (st.modify k fun o=>{o with lent:=true}) d=Dw st d:=by
 cases d <;> simp only[Dw,iZ,yF]
theorem qd(st:St)(k:Nat):∀ (l:List D),DQ (st.modify k fun o=>{o with lent:=true}) l=DQ st l
 |[]=>rfl
 |d::l=>by simp only[DQ,p9,qd st k l]
theorem vZ(st:St)(k:Nat)(d:D):DO (st.modify k fun o=>{o with lent:=true}) d=DO st d:=by
 cases d <;> simp only[DO,p9,qd]
theorem WS(st:St)(k:Nat):∀ (l:List D),D0 (st.modify k fun o=>{o with lent:=true}) l=D0 st l
 |[]=>rfl
 |d::l=>by simp only[D0,vZ,WS st k l]
theorem oj(l:List D):∀ (ks:List Nat) (st:St),D0 (lend ks st) l=D0 st l
 |[],_=>rfl
 |k::r,st=>by rw[lend,oj l r,WS]
theorem wx(ks:List Nat){g:Ghost}{st:St}(M:∀ (k:Nat) o',st'[k]?=some o'→∃ o,st[k]?=some o∧o'.els=o.els∧o'.sz=o.sz∧o'.row=o.row)(hb:g'.β=g.β)
  (h:∀ k∈ks,∀ o,st[k]?=some o→o.isMap=false→∀ x,x<o.els.length*o.sz→g'.Im (g.β k) x):Kn g' st' ks:=by
 intro k hk o' E hm x I;obtain⟨o,N,O,J,U⟩:=M k o' E;rw[O,J]at I;rw[hb];exact h k hk o N ((Pa U J).symm.trans hm) x I
theorem mE:∀ (ks:List Nat) (st:St) (k:Nat) (o':Obj),(lend ks st)[k]?=some o'→∃ o,st[k]?=some o∧o'.els=o.els∧o'.sz=o.sz∧o'.row=o.row
 |[],_,_,o',h=>⟨o',h,rfl,rfl,rfl⟩
 |q::r,st,k,o',h=>by
  obtain⟨o1,E,I,J,M⟩:=mE r _ k o' h;grind
theorem QJ(I:SR base w g st){ds ys:List D}(h:D0 st ds=some ys):∃ g',Go1 base w g st w g' (lend (ds.flatMap keys) st)∧g'.β=g.β∧ys.length=ds.length∧(∀ y∈ys,purA y=true)∧
  ∀ (i:Nat) y v,ys[i]?=some y→(∀ d,ds[i]?=some d→RepV w g st d v)→RepV w g' (lend (ds.flatMap keys) st) y v:=by
 obtain⟨g',E,hb,_,hl⟩:=I.lend (ds.flatMap keys);have J:=wx (ds.flatMap keys) (mE (ds.flatMap keys) st) hb hl;obtain⟨M,N,O⟩:=my E.sr ((oj ds _ st).trans h) J;exact⟨g',E,hb,M,O,fun i y v U hv=>N i y v U fun d V=>E.rep (hv d V)⟩
theorem WW(h:RepV w g st d v)(hn:d.noRef1=true):RepV w' g' st' d v:=by
 cases h <;> first | exact .int _ _ | exact .bool _ | exact .str _ | (simp[D.noRef1]at hn; done)
theorem oA(h:RepV w g st d v)(hn:d.noRef=true):RepV w' g' st' d v:=by
 cases d with
 |agg l=>
  cases h with
  |agg _ vs I J=>
   simp only[D.noRef,Aj]at hn;exact .agg l vs I fun i d v E hv=>WW (J i d v E hv) (hn d (Aq E))
 |tup l=>
  cases h with
  |tup _ vs I J=>
   simp only[D.noRef,Aj]at hn;refine .tup l vs I fun i d v E hv=>?_;have M:=hn d (Aq E);have N:=J i d v E hv
   cases d with
   |agg U=>
    cases N with
    |agg _ O V Y=>
     simp only[Aj]at M;exact .agg U O V fun i d v E hv=>WW (Y i d v E hv) (M d (Aq E))
   |_=>exact WW N M
 |_=>exact WW h hn
end
end Go.Proofs.YtijnglngaogdjaaGreatDoor.PI
namespace Go.Proofs.YtijnglngaogdjaaGreatDoor.PI
open Go Go.RowKit
variable {s:Sem Value}{v:Value}{t:TypeId}{f len off:Nat}{vs:List Value}{ds ys:List D}{T:Tbl}{G:Db}{sp:List D→St→Option (D×St)}{p:POp}{fr:Frame}{dst:Option Tmp}{parts:Array (Nat×Operand)}{x:Operand}{c:Call}{r:Option Nat}
section
variable {P:Program} {il:List Nat} {base:Nat} {w:World} {g:Ghost} {st st':St} {a:Act} {o:Oper} {next:Act→World→Prop} {Q:Exit→Act→World→Prop} {d:D}
theorem MX(E:execOp a.eval o=(do pure (.value (← s))))(I:RunsTo P base w g st s d st')
  (hn:∀ v w' g',Go1 base w g st w' g' st'→RepV w' g' st' d v→next (a.put o.dst v) w'):o.wp P a w next Q:=by
 obtain⟨v,w',g',J,M,N⟩:=I;unfold Oper.wp;rw[E];simp only[Sem.run_bind,J,Result.andThen_ok,Sem.run_pure];exact hn v w' g' M N
theorem RunsTo.congr{s':Sem Value}(h:s.run P w=s'.run P w)(E:RunsTo P base w g st s' d st'):RunsTo P base w g st s d st':=by
 obtain⟨v,w',g',I,J,M⟩:=E;exact⟨v,w',g',h.trans I,J,M⟩
theorem FL(E:SR base w g st)(I:execOp a.eval o=(do pure (.value (← s))))(J:s.run P w=.ok v w)(M:RepV w g st d v)
  (hn:∀ v w' g',Go1 base w g st w' g' st→RepV w' g' st d v→next (a.put o.dst v) w'):o.wp P a w next Q:=
 MX I (.still E J M) hn
theorem jb{N:Nat→Option (Nat×Nat)}{ρ:PA→D}{J:Operand→Value}(O:∀ x E,DE x=some E→RepV w g st (ρ E) (J x)):∀ {l:List (Nat×Operand)} {I:List (Nat×Nat×PA)},Qq N l=some I→
  ∃ qs:List (Nat×Nat×Nat×D×Value),qs.map (fun p=>(p.2.1,p.2.2.1,p.2.2.2.1))=I.map (fun p=>(p.1,p.2.1,ρ p.2.2))∧qs.map (fun p=>(p.1,p.2.2.2.2))=l.map (fun p=>(p.1,J p.2))∧
   (∀ p∈qs,N p.1=some (p.2.1,p.2.2.1))∧∀ p∈qs,RepV w g st p.2.2.2.1 p.2.2.2.2
 |[],I,h=>by simp[Qq]at h; subst h; exact⟨[],rfl,rfl,fun p M=>(by cases M),fun p M=>(by cases M)⟩
 |(i,x)::r,I,h=>by
  unfold Qq at h
  split at h
  ·rename_i off size E l h1 h2 U;simp only[C3]at h; subst h;obtain⟨qs,V,Y,e3,e4⟩:=jb O U;refine⟨(i,off,size,ρ E,J x)::qs,by simp[V],by simp[Y],?_,?_⟩
   ·grind
   ·grind
  ·cases h
theorem ja{ρ:PA→D}{I:Operand→Value}(M:∀ x J,DE x=some J→RepV w g st (ρ J) (I x)):∀ {k:Nat} {l:List (Nat×Operand)} {E:List PA},RF k l=some E→
  ∃ vs:List Value,l.map (fun p=>(p.1,I p.2))=(vs.zipIdx k).map (fun x=>(x.2,x.1))∧vs.length=E.length∧∀ (i:Nat) d v,(E.map ρ)[i]?=some d→vs[i]?=some v→RepV w g st d v
 |k,[],E,h=>by simp[RF]at h; subst h; exact⟨[],rfl,rfl,fun i d v h=>by simp at h⟩
 |k,(i,x)::r,E,h=>by
  unfold RF at h
  split at h
  ·rename_i J l V N;simp only[As,C3]at h;obtain⟨rfl,rfl⟩:=h;obtain⟨vs,O,U,Y⟩:=ja M N;refine⟨I x::vs,by simp[O],by simp[U],?_⟩;grind
  ·cases h
theorem Of{ρ:PA→D}{J:Operand→Value}(M:∀ x I,DE x=some I→RepV w g st (ρ I) (J x)):∀ {l:List Operand} {E:List PA},HM l=some E→
  E.length=l.length∧∀ (i:Nat) d v,(E.map ρ)[i]?=some d→(l.map J)[i]?=some v→RepV w g st d v
 |[],E,h=>by simp[HM]at h; subst h; exact⟨rfl,fun i d v h=>by simp at h⟩
 |x::r,E,h=>by
  unfold HM at h
  split at h
  ·rename_i I l O N;simp only[C3]at h; subst h;obtain⟨U,V⟩:=Of M N;grind
  ·cases h
theorem Yb3(a4:SR base w g st){zs:List D}{N:Nat→Option (Nat×Nat)}{l:List (Nat×Operand)}{V:List (Nat×Nat×PA)}{ρ:PA→D}{Y:Operand→Value}{parts:Array (Nat×Value)}{cs:List D}
  (aa:∀ x pa,DE x=some pa→RepV w g st (ρ pa) (Y x)) (J:HG P t=some (.agg zs)) (E:cV P t=some N) (hp:Qq N l=some V) (ac:parts.toList=l.map fun p=>(p.1,Y p.2))
  (h:DF zs (V.map fun p=>(p.1,p.2.1,ρ p.2.2))=some cs):∃ v,(Instr.build t parts).run P w=.ok v w∧RepV w g st (.agg cs) v:=by
 obtain⟨qs,e1,e2,e3,e4⟩:=jb aa hp;unfold HG at J
 split at J
 case h_2=>cases J
 rename_i i hi
 split at J
 case h_2=>cases J
 rename_i z M;obtain⟨vs,rfl,hl,hr⟩:=yQ3 (w:=w) (g:=g) (st:=st) J rfl;obtain⟨I,h1,h2,h3⟩:=nX (place:=N) qs zs vs.toArray cs (by rw[e1]; exact h) e3 e4 (by simpa using hl) (fun j d v O hv=>hr j d v O (by simpa using hv));refine⟨.agg I,?_,?_⟩
 ·refine run_build w t parts I ?_;unfold Program.built;unfold cV at E;rw[hi]
  split at E
  ·rename_i n e hu
   split at E
   ·rename_i ie ad;simp only[C3]at E;subst E;simp only[hu,M,ad,Value.cells];grind
   ·cases E
  ·rename_i fields hu
   split at E
   ·rename_i places U;simp only[C3]at E;subst E;simp only[hu,M,U,Value.cells];grind
   ·cases E
  ·cases E
 ·have:=RepV.agg (w:=w) (g:=g) (st:=st) cs I.toList (by simpa using h2) (fun i d v O hv=>h3 i d v O (by simpa using hv));omega
theorem Ymo{key:Nat}(h:RepV w g st (.ptr key off) v):∃ q,v=.pointer (some q):=by cases h; exact⟨_,rfl⟩
theorem Yhk{E:D}(h:RepV w g st (.eptr E off) v):∃ q,v=.pointer (some q):=by cases h; exact⟨_,rfl⟩
theorem Ype(J:SR base w g st){sp:List D→Option D}{r:D}(Y:rF P f sp)(hi:D0 st ds=some ys)(hr:sp ys=some r)(hl:ds.length=vs.length)
  (I:∀ (i:Nat) d v,ds[i]?=some d→vs[i]?=some v→RepV w g st d v) (he:execOp a.eval o=callFunc f vs.toArray)
  (hn:∀ v w' g',Go1 base w g st w' g' (if r.noRef then st else lend (ds.flatMap keys) st)→RepV w' g' (if r.noRef then st else lend (ds.flatMap keys) st) r v→next (a.put o.dst v) w'):o.wp P a w next Q:=by
 obtain⟨g1,M,_,N,V,O⟩:=QJ J hi;obtain⟨v,h1,U⟩:=Y ys r hr w g1 _ vs (N.trans hl) (fun i y v hy hv=>O i y v hy (fun d hd=>I i d v hd hv));unfold Oper.wp;rw[he,h1]
 by_cases E:r.noRef=true
 ·exact hn v w g (by rw[if_pos E]; exact Go1.refl J) (U _ _)
 ·exact hn v w g1 (by rw[if_neg E]; exact M) (U _ _)
theorem Yh0(hT:TblOK P G T)(hS:SR base w g st)(hG:GlobOK G w g){fn:Func}{sp:List D→Option D}{r:D}(hfn:P.funcs[f]?=some fn)(hb:fn.body.isSome=true)(hname:(fn.name == "runtime.NumGoroutine")=false)(hf5:f<50000000)
  (hsp:T.p f=some sp) (hi:D0 st ds=some ys) (hr:sp ys=some r) (hl:ds.length=vs.length) (hrep:∀ (i:Nat) d v,ds[i]?=some d→vs[i]?=some v→RepV w g st d v)
  (he:execOp a.eval o=callFunc f vs.toArray)
  (hn:∀ v w' g',Go1 base w g st w' g' (if r.noRef then st else lend (ds.flatMap keys) st)→RepV w' g' (if r.noRef then st else lend (ds.flatMap keys) st) r v→next (a.put o.dst v) w'):o.wp P a w next Q:=by
 obtain⟨g1,hgo,_,hyl,hpure,hyr⟩:=QJ hS hi;have hC:Contract P G f sp:=((hT.p f sp hsp).resolve_right (fun⟨f',e,_⟩=>by omega)).2;have hc:=hC w g1 ys vs r hr (hG.mono hgo.im) hgo.sr.im (hyl.trans hl) (fun i y v hy hv=>(hyr i y v hy (fun d hd=>hrep i d v hd hv)).purA (ImLe.refl _ _) (hpure y (Aq hy))) hpure;unfold Oper.wp;rw[he]
 have hrun:(callFunc f vs.toArray).run P w=.ok (.enter f vs.toArray) w:=by
  have hbn:¬ fn.body=none:=by
   grind
  have hn':¬ fn.name= "runtime.NumGoroutine":=by simpa using hname
  simp[callFunc,hfn,hn',hbn]
 rw[hrun,Oper.upon_enter];refine hc.mono ?_;rintro e w' ⟨v,g',rfl,h1,h2,h3,h4,h5,h6⟩;have hbes:Beside w w':=⟨h6.os,h6.tape,h6.output,h6.size⟩
 by_cases hnr:r.noRef=true
 ·refine hn v w' {g with Im:=g.Im} ?_ (by rw[if_pos hnr]; exact oA h1 hnr);rw[if_pos hnr];refine hS.more hbes h6.block (fun _ _ h=>h) (fun _ _ h=>.inl h) (fun b o hb=>?_);have:w'.cell? ⟨b,o,none⟩=w.cell? ⟨b,o,none⟩:=by simp only[World.cell?,h6.block b (hS.im_lt hb)]
  rw[this]; exact hS.im b o hb
 ·refine hn v w' {g1 with Im:=g'.Im} ?_ ?_
  ·rw[if_neg hnr];exact hgo.trans (hgo.sr.more hbes h6.block (fun b o h=>(h3.im b o h).1) (fun b o h=>h4 b o h) h5)
  ·exact RepV.purR (g:=g') (g':={g1 with Im:=g'.Im}) ⟨fun b o h=>⟨h,rfl⟩,fun _ _ h _=>h⟩ h1 h2
theorem aI(hC:IContract P G f sp)(hS:SR base w g st)(hG:GlobOK G w g){r:D}
  (hr:sp ds st=some (r,st')) (hl:ds.length=vs.length) (hrep:∀ (i:Nat) d v,ds[i]?=some d→vs[i]?=some v→RepV w g st d v)
  (he:execOp a.eval o=callFunc f vs.toArray)
  (hn:∀ v w' g',Go1 base w g st w' g' st'→RepV w' g' st' r v→next (a.put o.dst v) w'):o.wp P a w next Q:=by
 obtain⟨⟨fn,hfn,hb,hname⟩,hc⟩:=hC;unfold Oper.wp;rw[he]
 have hrun:(callFunc f vs.toArray).run P w=.ok (.enter f vs.toArray) w:=by
  have hbn:¬ fn.body=none:=by
   grind
  have hn':¬ fn.name= "runtime.NumGoroutine":=by simpa using hname
  simp[callFunc,hfn,hn',hbn]
 rw[hrun,Oper.upon_enter];refine(hc base w g st st' ds vs r hr hS hG hl hrep).mono ?_;grind
theorem fG(J:TblOK P G T)(M:SR base w g st)(N:GlobOK G w g){r:D}
  (I:T.i f=some sp) (O:sp ds st=some (r,st')) (hl:ds.length=vs.length) (E:∀ (i:Nat) d v,ds[i]?=some d→vs[i]?=some v→RepV w g st d v)
  (U:execOp a.eval o=callFunc f vs.toArray)
  (hn:∀ v w' g',Go1 base w g st w' g' st'→RepV w' g' st' r v→next (a.put o.dst v) w'):o.wp P a w next Q:=aI (J.i f sp I) M N O hl E U hn
theorem zv{sp:List D→St→Option (Nat×D×St)}(hC:Pq P G f sp)(hS:SR base w g st)(hG:GlobOK G w g){t:Nat}{d:D}
  (hr:sp ds st=some (t,d,st')) (hl:ds.length=vs.length) (hrep:∀ (i:Nat) d v,ds[i]?=some d→vs[i]?=some v→RepV w g st d v)
  (he:execOp a.eval o=callFunc f vs.toArray)
  (hn:∀ w' g',Go1 base w g st w' g' st'→Q (.panic (KR t d)) a w'):o.wp P a w next Q:=by
 obtain⟨⟨fn,hfn,hb,hname⟩,hc⟩:=hC;unfold Oper.wp;rw[he]
 have hrun:(callFunc f vs.toArray).run P w=.ok (.enter f vs.toArray) w:=by
  have hbn:¬ fn.body=none:=by
   grind
  have hn':¬ fn.name= "runtime.NumGoroutine":=by simpa using hname
  simp[callFunc,hfn,hn',hbn]
 rw[hrun,Oper.upon_enter];refine(hc base w g st st' ds vs t d hr hS hG hl hrep).mono ?_;grind
theorem Yd3(x:Operand){ty:TypeId}{pos:String}{after:Array Edge}{guard:Option (Nat×Bool)}(Y:TblOK P G T)(U:SR base w g st)(V:GlobOK G w g)(I:FR w g st fr a)(J:Dl P il (.move x)=some p)
  (M:p.exec T (Dh G fr) st=some (d,st')) (hn:∀ v w' g',Go1 base w g st w' g' st'→RepV w' g' st' d v→next (a.put dst v) w'):Oper.wp P {dst:=dst,op:=.move x,type:=ty,pos:=pos,after:=after,guard:=guard} a w next Q:=by
 have N:∀ x E,DE x=some E→RepV w g st (Dh G fr E) (a.eval x):=fun x E h=>F2 V I h;clear I;simp only[Dl,Dv]at J;obtain⟨E,O,rfl⟩:=J;simp only[POp.exec,C3,Dk]at M;obtain⟨rfl,rfl⟩:=M;exact FL (s:=pure (a.eval x)) U (by simp[execOp]) rfl (N x E O) hn
theorem yRk(x:Operand){ty:TypeId}{pos:String}{after:Array Edge}{guard:Option (Nat×Bool)}(Y:TblOK P G T)(U:SR base w g st)(V:GlobOK G w g)(I:FR w g st fr a)(J:Dl P il (.assign x)=some p)
  (M:p.exec T (Dh G fr) st=some (d,st')) (hn:∀ v w' g',Go1 base w g st w' g' st'→RepV w' g' st' d v→next (a.put dst v) w'):Oper.wp P {dst:=dst,op:=.assign x,type:=ty,pos:=pos,after:=after,guard:=guard} a w next Q:=by
 have N:∀ x E,DE x=some E→RepV w g st (Dh G fr E) (a.eval x):=fun x E h=>F2 V I h;clear I;simp only[Dl,Dv]at J;obtain⟨E,O,rfl⟩:=J;simp only[POp.exec,C3,Dk]at M;obtain⟨rfl,rfl⟩:=M;exact FL (s:=pure (a.eval x)) U (by simp[execOp]) rfl (N x E O) hn
theorem Yd2(c x y:Operand){ty:TypeId}{pos:String}{after:Array Edge}{guard:Option (Nat×Bool)}(Y:TblOK P G T)(O:SR base w g st)(U:GlobOK G w g)(M:FR w g st fr a)(E:Dl P il (.pick c x y)=some p)
  (I:p.exec T (Dh G fr) st=some (d,st')) (hn:∀ v w' g',Go1 base w g st w' g' st'→RepV w' g' st' d v→next (a.put dst v) w'):Oper.wp P {dst:=dst,op:=.pick c x y,type:=ty,pos:=pos,after:=after,guard:=guard} a w next Q:=by
 have N:∀ x J,DE x=some J→RepV w g st (Dh G fr J) (a.eval x):=fun x J h=>F2 U M h;clear M;simp only[Dl]at E
 split at E
 ·rename_i pc px py V h2 h3;simp only[C3]at E; subst E;simp only[POp.exec]at I
  split at I
  ·rename_i b hb;simp only[C3,Dk]at I;obtain⟨rfl,rfl⟩:=I;have hc:=N c pc V;rw[hb]at hc;have hc:=KU hc;refine FL (s:=pure (if b then a.eval x else a.eval y)) O (by simp[execOp,hc,asBool]) rfl ?_ hn;grind
  ·cases I
 ·cases E
theorem yq(t:TypeId){ty:TypeId}{pos:String}{after:Array Edge}{guard:Option (Nat×Bool)}(Y:TblOK P G T)(U:SR base w g st)(V:GlobOK G w g)(M:FR w g st fr a)(N:Dl P il (.alloc t)=some p)
  (I:p.exec T (Dh G fr) st=some (d,st')) (hn:∀ v w' g',Go1 base w g st w' g' st'→RepV w' g' st' d v→next (a.put dst v) w'):Oper.wp P {dst:=dst,op:=.alloc t,type:=ty,pos:=pos,after:=after,guard:=guard} a w next Q:=by
 have aa:∀ x J,DE x=some J→RepV w g st (Dh G fr J) (a.eval x):=fun x J h=>F2 V M h;clear M;simp only[Dl,Dv]at N;obtain⟨zd,E,rfl⟩:=N;simp only[POp.exec]at I
 split at I
 case isFalse=>cases I
 rename_i hc
 replace hc:zd.cells.all D.isCell=true:=hc
 simp only[C3,Dk]at I;obtain⟨rfl,rfl⟩:=I;unfold HG at E
 split at E
 case h_2=>cases E
 rename_i i hi
 split at E
 case h_2=>cases E
 rename_i z O;refine MX (s:=Instr.alloc t true (.tuple #[])) rfl (RunsTo.congr ?_ (tw (t:=t) U hc (QQ E))) hn;simp[Instr.alloc,zeroValue,typeInfo,hi,O]
theorem Yl5(t:TypeId)(x:Operand){ty:TypeId}{pos:String}{after:Array Edge}{guard:Option (Nat×Bool)}(Y:TblOK P G T)(U:SR base w g st)(V:GlobOK G w g)(J:FR w g st fr a)(M:Dl P il (.box t x)=some p)
  (E:p.exec T (Dh G fr) st=some (d,st')) (hn:∀ v w' g',Go1 base w g st w' g' st'→RepV w' g' st' d v→next (a.put dst v) w'):Oper.wp P {dst:=dst,op:=.box t x,type:=ty,pos:=pos,after:=after,guard:=guard} a w next Q:=by
 have N:∀ x I,DE x=some I→RepV w g st (Dh G fr I) (a.eval x):=fun x I h=>F2 V J h;clear J;simp only[Dl,Dv]at M;obtain⟨I,O,rfl⟩:=M;simp only[POp.exec]at E
 split at E
 case isFalse=>cases E
 rename_i hc;simp only[C3,Dk]at E;obtain⟨rfl,rfl⟩:=E;exact MX (s:=Instr.box t (a.eval x)) rfl (RunsTo.congr rfl (tw (t:=t) U hc (N x I O))) hn
theorem yu(t:TypeId)(parts:Array (Nat×Operand)){ty:TypeId}{pos:String}{after:Array Edge}{guard:Option (Nat×Bool)}(ae:TblOK P G T)(J:SR base w g st)(U:GlobOK G w g)(M:FR w g st fr a)(E:Dl P il (.build t parts)=some p)
  (N:p.exec T (Dh G fr) st=some (d,st')) (hn:∀ v w' g',Go1 base w g st w' g' st'→RepV w' g' st' d v→next (a.put dst v) w'):Oper.wp P {dst:=dst,op:=.build t parts,type:=ty,pos:=pos,after:=after,guard:=guard} a w next Q:=by
 have O:∀ x I,DE x=some I→RepV w g st (Dh G fr I) (a.eval x):=fun x I h=>F2 U M h;clear M;simp only[Dl]at E
 split at E
 case h_2=>cases E
 rename_i zs pl V Y;simp only[Dv]at E;obtain⟨ps,h3,rfl⟩:=E;simp only[POp.exec,Dv,Dk]at N;obtain⟨cs,h4,rfl,rfl⟩:=N;obtain⟨v,h5,h6⟩:=Yb3 (P:=P) (parts:=parts.map fun(i,x)=>(i,a.eval x)) J O V Y h3 (by simp) h4;exact FL J rfl h5 h6 hn
theorem jB(hS:SR base w g st)(hG:GlobOK G w g)(Y:FR w g st fr a)(E:Dl P il (.buildSlice t len parts)=some p)
  (I:p.exec T (Dh G fr) st=some (d,st')):∃ J,(∀ (dst:Option Tmp) (ty:TypeId) (pos:String) (after:Array Edge) (guard:Option (Nat×Bool)),execOp a.eval {dst:=dst,op:=.buildSlice t len parts,type:=ty,pos:=pos,after:=after,guard:=guard}=(do pure (.value (← Instr.buildSlice t len J))))∧∃ v w' g',(Instr.buildSlice t len J).run P w=.ok v w'∧Go1 base w g st w' g' st'∧RepV w' g' st' d v∧sk base w' g' st' v:=by

 have aa:∀ x O,DE x=some O→RepV w g st (Dh G fr O) (a.eval x):=fun x O h=>F2 hG Y h;clear Y;simp only[Dl]at E
 split at E
 case h_2=>cases E
 rename_i e hu
 split at E
 case h_2=>cases E
 rename_i i hi
 split at E
 case h_2=>cases E
 rename_i z l hz hl;simp only[As,C3]at E;obtain⟨hlen,rfl⟩:=E;simp only[POp.exec]at I
 split at I
 case h_2=>cases I
 rename_i els U
 split at I
 case isFalse=>cases I
 rename_i hc;simp only[C3,Dk]at I;obtain⟨rfl,rfl⟩:=I;simp only[Af,decide_eq_true_eq,Aj,beq_iff_eq]at hc;obtain⟨vs,e1,e2,e3⟩:=ja aa hl;obtain⟨g1,M,_,h1,h2,h3⟩:=QJ hS U;have V:∀ (i:Nat) d v,els[i]?=some d→vs[i]?=some v→RepV w g1 (lend ((l.map (Dh G fr)).flatMap keys) st) d v:=fun i d v hd hv=>h3 i d v hd fun d' ac=>e3 i d' v ac hv;have ad:els.length=vs.length:=by rw[h1,Bd,e2]
 have N:(parts.map fun(i,x)=>(i,a.eval x)).toList=(vs.zipIdx 0).map fun x=>(x.2,x.1):=by rw[← e1]; simp
 generalize ae:(parts.map fun(i,x)=>(i,a.eval x))=J at N;obtain⟨v,w',g',r1,r2,r3,r4⟩:=Yb6 (len:=len) (parts:=J) M.sr hu hi hz rfl hc.1.2 h2 hc.1.1 ad V hc.2 (by rw[e2,← hlen]) N;exact⟨J,fun _ _ _ _ _=>by simp only[execOp,ae],v,w',g',r1,M.trans r2,r3,r4⟩
theorem yBv(t:TypeId)(len:Nat)(parts:Array (Nat×Operand)){ty:TypeId}{pos:String}{after:Array Edge}{guard:Option (Nat×Bool)}(Y:TblOK P G T)(E:SR base w g st)(I:GlobOK G w g)(J:FR w g st fr a)(M:Dl P il (.buildSlice t len parts)=some p)
  (N:p.exec T (Dh G fr) st=some (d,st')) (hn:∀ v w' g',Go1 base w g st w' g' st'→RepV w' g' st' d v→next (a.put dst v) w'):Oper.wp P {dst:=dst,op:=.buildSlice t len parts,type:=ty,pos:=pos,after:=after,guard:=guard} a w next Q:=by
 obtain⟨O,he,v,w',g',r1,U,V,_⟩:=jB E I J M N;exact MX (s:=Instr.buildSlice t len O) (he ..) ⟨v,w',g',r1,U,V⟩ hn
theorem yLs{e:TypeId}{d1:Nat}{d2:Option Nat}{ty ty2:TypeId}{pos pos2:String}{after after2:Array Edge}{guard guard2:Option (Nat×Bool)}{next2:Act→World→Prop}(hS:SR base w g st)(hG:GlobOK G w g)(hF:FR w g st fr a)(ht:Dl P il (.buildSlice t len parts)=some p)
  (hu:P.underlying t=some (.slice e)) (I:P.underlying e=some (.int .u8)) (J:d1<a.tmps.size)
  (hx:p.exec T (Dh G fr) st=some (d,st')) (hn:∀ v w' g',Go1 base w g st w' g' st'→RepV w' g' st' d v→next2 ((a.put (some d1) v).put d2 v) w') :
  Oper.wp P {dst:=some d1,op:=.buildSlice t len parts,type:=ty,pos:=pos,after:=after,guard:=guard} a w (fun a' w'=>Oper.wp P {dst:=d2,op:=.convert t t (.tmp d1),type:=ty2,pos:=pos2,after:=after2,guard:=guard2} a' w' next2 Q) Q:=by
 obtain⟨ps,he,v,w',g',r1,M,r3,b,n,C,eC,rfl,hb,E,N⟩:=jB hS hG hF ht hx;unfold Oper.wp;rw[he];simp only[Sem.run_bind,r1,Result.andThen_ok,Sem.run_pure,Oper.upon_value]
 have O:(a.put (some d1) (.slice (some ⟨b,0,none⟩) n n)).eval (.tmp d1)=.slice (some ⟨b,0,none⟩) n n:=by
  simp[Act.eval,Act.put,J]
 have U:execOp (a.put (some d1) (.slice (some ⟨b,0,none⟩) n n)).eval {dst:=d2,op:=.convert t t (.tmp d1),type:=ty2,pos:=pos2,after:=after2,guard:=guard2}=(do pure (.value (← convert t t (.slice (some ⟨b,0,none⟩) n n)))):=by
  simp only[execOp,O]
 rw[U]
 have V:(convert t t (.slice (some ⟨b,0,none⟩) n n)).run P w'=.ok (.slice (some ⟨b,0,none⟩) n n) (w'.freeze ⟨b,C.size,none⟩ 1):=by
  have Y:w'.shape? b=some (eC,C.size):=by simp[World.shape?,hb]
  simp[convert,run_underlying hu,run_underlying I,markStringish,shape,freeze,Sem.run_bind,Sem.run,Y,Result.andThen]
 simp only[Sem.run_bind,V,Result.andThen_ok,Sem.run_pure,Oper.upon_value];have hf:=vN (m:=C.size) M.sr hb E N;exact hn _ _ g' (M.trans hf) (hf.rep r3)
theorem Yd4(t:TypeId)(x:Operand){ty:TypeId}{pos:String}{after:Array Edge}{guard:Option (Nat×Bool)}(ae:TblOK P G T)(J:SR base w g st)(U:GlobOK G w g)(M:FR w g st fr a)(E:Dl P il (.load t x)=some p)
  (N:p.exec T (Dh G fr) st=some (d,st')) (hn:∀ v w' g',Go1 base w g st w' g' st'→RepV w' g' st' d v→next (a.put dst v) w'):Oper.wp P {dst:=dst,op:=.load t x,type:=ty,pos:=pos,after:=after,guard:=guard} a w next Q:=by
 have O:∀ x I,DE x=some I→RepV w g st (Dh G fr I) (a.eval x):=fun x I h=>F2 U M h;clear M;simp only[Dl]at E
 split at E
 case h_2=>cases E
 rename_i I n ag V Y h3;simp only[C3]at E; subst E;simp only[POp.exec,Dv,Dk]at N;obtain⟨r,h4,rfl,rfl⟩:=N;obtain⟨v,h5,h6⟩:=oF (P:=P) J h3 Y h4 (O x I V);exact FL (s:=Instr.loadAt t (a.eval x)) J rfl h5 h6 hn
theorem xZ(t:TypeId)(x y:Operand){ty:TypeId}{pos:String}{after:Array Edge}{guard:Option (Nat×Bool)}(af:TblOK P G T)(O:SR base w g st)(U:GlobOK G w g)(M:FR w g st fr a)(E:Dl P il (.store t x y)=some p)
  (N:p.exec T (Dh G fr) st=some (d,st')) (hn:∀ v w' g',Go1 base w g st w' g' st'→RepV w' g' st' d v→next (a.put dst v) w'):Oper.wp P {dst:=dst,op:=.store t x y,type:=ty,pos:=pos,after:=after,guard:=guard} a w next Q:=by
 have J:∀ x I,DE x=some I→RepV w g st (Dh G fr I) (a.eval x):=fun x I h=>F2 U M h;clear M;simp only[Dl]at E
 split at E
 case h_2=>cases E
 rename_i I V n Y h2 h3;simp only[C3]at E; subst E;simp only[POp.exec,Dv,Dk]at N;obtain⟨r,h4,rfl,rfl⟩:=N;obtain⟨w',g',h5,h6⟩:=xp (P:=P) O h3 h4 (J x I Y) (J y V h2);unfold Oper.wp execOp;simp only[Sem.run_bind,h5,Result.andThen_ok,Sem.run_pure];exact hn undef w' g' h6 (.tup [] [] rfl (fun i d v h=>by simp at h))
theorem yH2(x:Operand){ty:TypeId}{pos:String}{after:Array Edge}{guard:Option (Nat×Bool)}(ae:TblOK P G T)(hS:SR base w g st)(hG:GlobOK G w g)(O:FR w g st fr a)(U:Dl P il (.nilCheck x)=some p)
  (E:p.exec T (Dh G fr) st=some (d,st')) (hn:∀ v w' g',Go1 base w g st w' g' st'→RepV w' g' st' d v→next (a.put dst v) w'):Oper.wp P {dst:=dst,op:=.nilCheck x,type:=ty,pos:=pos,after:=after,guard:=guard} a w next Q:=by
 have V:∀ x J,DE x=some J→RepV w g st (Dh G fr J) (a.eval x):=fun x J h=>F2 hG O h;clear O;simp only[Dl,Dv]at U;obtain⟨J,Y,rfl⟩:=U;have I:=V x J Y;simp only[POp.exec]at E
 have key:∀ q,a.eval x=.pointer (some q)→RepV w g st d (a.eval x)→st'=st→Oper.wp P {dst:=dst,op:=.nilCheck x,type:=ty,pos:=pos,after:=after,guard:=guard} a w next Q:=by
  intro q N aa ab;subst ab;exact FL (s:=pure (a.eval x)) hS (by simp[execOp,N]) rfl aa hn
 split at E
 ·rename_i key off M;simp only[C3,Dk]at E;obtain⟨rfl,rfl⟩:=E;rw[M]at I;obtain⟨q,N⟩:=Ymo I;grind
 ·rename_i el off M;simp only[C3,Dk]at E;obtain⟨rfl,rfl⟩:=E;rw[M]at I;obtain⟨q,N⟩:=Yhk I;grind
 ·rename_i kk tot i off M
  split at E
  ·rename_i hl;simp only[C3,Dk]at E;obtain⟨rfl,rfl⟩:=E;rw[M]at I;obtain⟨ob,_,_,_,N⟩:=ew hl I;grind
  ·cases E
 ·cases E
theorem yt(op:BinOp)(t:TypeId)(x y:Operand)(U:TypeId){ty:TypeId}{pos:String}{after:Array Edge}{guard:Option (Nat×Bool)}(a6:TblOK P G T)(hS:SR base w g st)(hG:GlobOK G w g)(hF:FR w g st fr a)(N:Dl P il (.binOp op t x y U)=some p)
  (O:p.exec T (Dh G fr) st=some (d,st')) (hn:∀ v w' g',Go1 base w g st w' g' st'→RepV w' g' st' d v→next (a.put dst v) w'):Oper.wp P {dst:=dst,op:=.binOp op t x y U,type:=ty,pos:=pos,after:=after,guard:=guard} a w next Q:=by
 have J:∀ x I,DE x=some I→RepV w g st (Dh G fr I) (a.eval x):=fun x I h=>F2 hG hF h;clear hF;simp only[Dl]at N
 split at N
 case h_2=>cases N
 rename_i I M h1 h2
 have a4:∀ op,p=.bin op I M→Oper.wp P {dst:=dst,op:=.binOp op t x y U,type:=ty,pos:=pos,after:=after,guard:=guard} a w next Q:=by
  rintro op rfl;simp only[POp.exec,Dv,Dk]at O;obtain⟨r,V,rfl,rfl⟩:=O;obtain⟨⟨v,h5,Y⟩,h7,h8⟩:=Ye4 (P:=P) op t _ _ r _ _ V (J x I h1) (J y M h2);refine FL (s:=do eqGuard op t x y (a.eval x) (a.eval y); binOp op t (a.eval x) (a.eval y)) hS rfl ?_ Y hn;simp only[Sem.run_bind,bt op t x y _ _ h7 h8,Result.andThen_ok,h5]
 have heq:∀ neg:Bool,(match P.underlying t with
  |some (.int _) | some .string=>some (POp.bin (if neg then .neq else .eql) I M)
  |some .bool=>some (.beq neg I M)
  |some (.struct _) | some (.array _ _)=>match IP P 100 t with
   |some ks=>if P.eqGuardType P.depth t then none else some (.aeq ks neg I M)
   |none=>none
  |_=>none)=some p→Oper.wp P {dst:=dst,op:=.binOp (if neg then .neq else .eql) t x y U,type:=ty,pos:=pos,after:=after,guard:=guard} a w next Q:=by
  intro neg E
  have ac:Ej P t=some true→(match IP P 100 t with
   |some ks=>if P.eqGuardType P.depth t then none else some (POp.aeq ks neg I M)
   |none=>none)=some p→Oper.wp P {dst:=dst,op:=.binOp (if neg then .neq else .eql) t x y U,type:=ty,pos:=pos,after:=after,guard:=guard} a w next Q:=by
   intro a1 E
   split at E
   case h_2=>cases E
   rename_i ks a2
   split at E
   case isTrue=>cases E
   rename_i hg;simp only[C3]at E; subst E;simp only[POp.exec,Dv,Dk]at O;obtain⟨r,V,rfl,rfl⟩:=O;obtain⟨⟨v,h5,Y⟩,xs,ys,h7,h8⟩:=Ye9 (P:=P) a2 (by decide) a1 V (J x I h1) (J y M h2);refine FL (s:=do eqGuard (if neg then .neq else .eql) t x y (a.eval x) (a.eval y); binOp (if neg then .neq else .eql) t (a.eval x) (a.eval y)) hS rfl ?_ Y hn
   have a7:(eqGuard (if neg then .neq else .eql) t x y (a.eval x) (a.eval y)).run P w=.ok () w:=by
    rw[h7,h8];exact run_eqGuard_agg w _ t x y xs ys (by simpa using hg)
   simp_all
  split at E
  ·grind
  ·grind
  ·rename_i hu;simp only[C3]at E; subst E;simp only[POp.exec,Dv,Dk]at O;obtain⟨r,V,rfl,rfl⟩:=O;obtain⟨⟨v,h5,Y⟩,h7,h8⟩:=Ye5 (P:=P) neg t hu _ _ r _ _ V (J x I h1) (J y M h2);refine FL (s:=do eqGuard (if neg then .neq else .eql) t x y (a.eval x) (a.eval y); binOp (if neg then .neq else .eql) t (a.eval x) (a.eval y)) hS rfl ?_ Y hn;simp only[Sem.run_bind,bt _ t x y _ _ h7 h8,Result.andThen_ok,h5]
  ·rename_i hu;exact ac (by simp[Ej,hu]) E
  ·rename_i hu;exact ac (by simp[Ej,hu]) E
  ·cases E
 unfold ZL at N
 split at N
 ·exact heq false N
 ·exact heq true N
 ·grind
theorem Yd1(op:UnOp)(t:TypeId)(x:Operand){ty:TypeId}{pos:String}{after:Array Edge}{guard:Option (Nat×Bool)}(ac:TblOK P G T)(U:SR base w g st)(V:GlobOK G w g)(I:FR w g st fr a)(J:Dl P il (.unOp op t x)=some p)
  (M:p.exec T (Dh G fr) st=some (d,st')) (hn:∀ v w' g',Go1 base w g st w' g' st'→RepV w' g' st' d v→next (a.put dst v) w'):Oper.wp P {dst:=dst,op:=.unOp op t x,type:=ty,pos:=pos,after:=after,guard:=guard} a w next Q:=by
 have N:∀ x E,DE x=some E→RepV w g st (Dh G fr E) (a.eval x):=fun x E h=>F2 V I h;clear I;simp only[Dl,Dv]at J;obtain⟨E,O,rfl⟩:=J;simp only[POp.exec,Dv,Dk]at M;obtain⟨r,Y,rfl,rfl⟩:=M;obtain⟨v,h5,h6⟩:=Ymn (P:=P) (w:=w) op _ r _ Y (N x E O);exact FL (s:=Op.unary op (a.eval x)) U rfl h5 h6 hn
theorem yLu(J dt:TypeId)(x:Operand){ty:TypeId}{pos:String}{after:Array Edge}{guard:Option (Nat×Bool)}(a4:TblOK P G T)(hS:SR base w g st)(hG:GlobOK G w g)(hF:FR w g st fr a)(I:Dl P il (.convert J dt x)=some p)
  (O:p.exec T (Dh G fr) st=some (d,st')) (hn:∀ v w' g',Go1 base w g st w' g' st'→RepV w' g' st' d v→next (a.put dst v) w'):Oper.wp P {dst:=dst,op:=.convert J dt x,type:=ty,pos:=pos,after:=after,guard:=guard} a w next Q:=by
 have a0:∀ x pa,DE x=some pa→RepV w g st (Dh G fr pa) (a.eval x):=fun x pa h=>F2 hG hF h;clear hF;simp only[Dl]at I
 split at I
 case h_2=>cases I
 rename_i pa a1;have N:=a0 x pa a1;unfold YR at I
 split at I
 ·rename_i u k U V;simp only[C3]at I; subst I;simp only[POp.exec,Dv,Dk]at O;obtain⟨r,E,rfl,rfl⟩:=O;unfold Fa at E
  split at E <;> rename_i M Y <;> (try cases M) <;> (try (simp only[reduceCtorEq]at E))
  simp only[C3]at E; subst E;rw[Y]at N;have he:=It N;refine FL (s:=convert J dt (a.eval x)) hS rfl ?_ (.int _ _) hn;rw[he];simp[convert,run_underlying U,run_underlying V,Conv.intToInt]
 ·rename_i U V;simp only[C3]at I; subst I;simp only[POp.exec,Dv,Dk]at O;obtain⟨r,E,rfl,rfl⟩:=O;unfold Fa at E
  split at E <;> rename_i M Y <;> (try cases M) <;> (try (simp only[reduceCtorEq]at E))
  simp only[C3]at E; subst E;rw[Y]at N;have he:=Ly N;refine FL (s:=convert J dt (a.eval x)) hS rfl (v:=a.eval x) ?_ (by rw[he]; exact .str _) hn;rw[he];simp[convert,run_underlying U,run_underlying V]
 ·rename_i e U V
  split at I
  case h_2=>cases I
  rename_i ac;simp only[C3]at I; subst I;simp only[POp.exec,Dv,Dk]at O;obtain⟨r,E,rfl,rfl⟩:=O;unfold Fa at E
  split at E <;> rename_i M Y <;> (try cases M) <;> (try (simp only[reduceCtorEq]at E))
  simp only[C3]at E; subst E;rw[Y]at N;have he:=Ly N;refine MX (s:=convert J dt (a.eval x)) rfl ?_ hn;rw[he];exact Ybz hS U V ac
 ·rename_i e U V
  split at I
  case h_2=>cases I
  rename_i ac;simp only[C3]at I; subst I;simp only[POp.exec,Dv,Dk]at O;obtain⟨r,E,rfl,rfl⟩:=O;unfold Fa at E
  split at E <;> rename_i M Y <;> (try cases M) <;> (try (simp only[reduceCtorEq]at E))
  ·split at E
   case isFalse=>cases E
   rename_i aa;simp only[Dv]at E;obtain⟨bs,af,rfl⟩:=E;rw[Y]at N;simp only[A8,beq_iff_eq,BF]at aa;exact FL (s:=convert J dt (a.eval x)) hS rfl (qE U ac V (RJ N) aa af) (.str _) hn
  ·split at E
   case h_2=>cases E
   rename_i sz els a2
   split at E
   case isFalse=>cases E
   rename_i aa;simp only[Dv]at E;obtain⟨bs,af,rfl⟩:=E;rw[Y]at N;simp only[beq_iff_eq]at aa;exact FL (s:=convert J dt (a.eval x)) hS rfl (qE U ac V (dk hS a2 N).1 (.inl aa) af) (.str _) hn
 ·cases I
theorem yE3(t:TypeId)(l c:Operand){ty:TypeId}{pos:String}{after:Array Edge}{guard:Option (Nat×Bool)}(a2:TblOK P G T)(U:SR base w g st)(V:GlobOK G w g)(N:FR w g st fr a)(E:Dl P il (.makeSlice t l c)=some p)
  (I:p.exec T (Dh G fr) st=some (d,st')) (hn:∀ v w' g',Go1 base w g st w' g' st'→RepV w' g' st' d v→next (a.put dst v) w'):Oper.wp P {dst:=dst,op:=.makeSlice t l c,type:=ty,pos:=pos,after:=after,guard:=guard} a w next Q:=by
 have J:∀ x M,DE x=some M→RepV w g st (Dh G fr M) (a.eval x):=fun x M h=>F2 V N h;clear N;simp only[Dl]at E
 split at E
 case h_2=>cases E
 rename_i pl pc e Y h2 hu
 split at E
 case h_2=>cases E
 rename_i i hi
 split at E
 case h_2=>cases E
 rename_i z hz;simp only[Dv]at E;obtain⟨zd,O,rfl⟩:=E;simp only[POp.exec]at I
 split at I
 case h_2=>cases I
 rename_i nl nc h3 h4
 split at I
 case isFalse=>cases I
 rename_i hc;simp only[C3,Dk]at I;obtain⟨rfl,rfl⟩:=I;obtain⟨c1,c2,c3,c4,c5,c6⟩:=hc;exact MX (s:=Instr.makeSlice t (a.eval l) (a.eval c)) rfl (xg U hu hi hz O rfl rfl c4 c5 c6 h3 h4 (J l pl Y) (J c pc h2) c1 c2 c3) hn
theorem xY(t:TypeId)(x:Operand)(lo hi N:Option Operand){ty:TypeId}{pos:String}{after:Array Edge}{guard:Option (Nat×Bool)}(a4:TblOK P G T)(O:SR base w g st)(hG:GlobOK G w g)(hF:FR w g st fr a)(E:Dl P il (.slice t x lo hi N)=some p)
  (M:p.exec T (Dh G fr) st=some (d,st')) (hn:∀ v w' g',Go1 base w g st w' g' st'→RepV w' g' st' d v→next (a.put dst v) w'):Oper.wp P {dst:=dst,op:=.slice t x lo hi N,type:=ty,pos:=pos,after:=after,guard:=guard} a w next Q:=by
 have I:∀ x J,DE x=some J→RepV w g st (Dh G fr J) (a.eval x):=fun x J h=>F2 hG hF h;clear hF;simp only[Dl]at E
 split at E
 case h_2=>cases E
 rename_i J a5 a6 a7 h1 h2 h3 h4;have r2:=cU h2 rfl I;have r3:=cU h3 rfl I;have r4:=cU h4 rfl I;unfold Zl at E
 split at E
 ·rename_i hu;simp only[C3]at E; subst E;simp only[POp.exec,Dv,Dk]at M;obtain⟨r,U,rfl,rfl⟩:=M;obtain⟨v,V,Y⟩:=pQ (P:=P) O (.inl ⟨rfl,hu⟩) U (I x J h1) r2 r3 r4;exact FL (s:=Instr.sliceAt t (a.eval x) (lo.map a.eval) (hi.map a.eval) (N.map a.eval)) O rfl V Y hn
 ·rename_i e hu
  split at E
  case h_2=>cases E
  rename_i sz aa
  split at E
  case isTrue=>cases E
  rename_i h0;simp only[C3]at E; subst E;simp only[POp.exec,Dv,Dk]at M;obtain⟨r,U,rfl,rfl⟩:=M;obtain⟨v,V,Y⟩:=pQ (P:=P) O (.inr ⟨h0,e,hu,aa⟩) U (I x J h1) r2 r3 r4;exact FL (s:=Instr.sliceAt t (a.eval x) (lo.map a.eval) (hi.map a.eval) (N.map a.eval)) O rfl V Y hn
 ·rename_i n e hu
  split at E
  case h_2=>cases E
  rename_i sz ag aa a8;simp only[C3]at E; subst E
  have hm:N=none:=by
   simp_all
  subst hm;simp only[POp.exec,Dv,Dk]at M;obtain⟨r,U,rfl,rfl⟩:=M;obtain⟨v,V,Y⟩:=yL8 (P:=P) hu aa U (I x J h1) r2 r3;exact FL (s:=Instr.sliceAt t (a.eval x) (lo.map a.eval) (hi.map a.eval) none) O rfl V Y hn
 ·cases E
theorem yE5(s:TypeId)(x:Operand)(f:Nat){ty:TypeId}{pos:String}{after:Array Edge}{guard:Option (Nat×Bool)}(af:TblOK P G T)(V:SR base w g st)(Y:GlobOK G w g)(J:FR w g st fr a)(E:Dl P il (.fieldAddr s x f)=some p)
  (M:p.exec T (Dh G fr) st=some (d,st')) (hn:∀ v w' g',Go1 base w g st w' g' st'→RepV w' g' st' d v→next (a.put dst v) w'):Oper.wp P {dst:=dst,op:=.fieldAddr s x f,type:=ty,pos:=pos,after:=after,guard:=guard} a w next Q:=by
 have N:∀ x I,DE x=some I→RepV w g st (Dh G fr I) (a.eval x):=fun x I h=>F2 Y J h;clear J;simp only[Dl]at E
 split at E
 case h_2=>cases E
 rename_i I fields h1 hu
 split at E
 case h_2=>cases E
 rename_i fd O
 split at E
 case h_2=>cases E
 rename_i n U
 split at E
 case isTrue=>cases E
 rename_i h0;simp only[C3]at E; subst E;simp only[POp.exec,Dv,Dk]at M;obtain⟨r,h5,rfl,rfl⟩:=M;obtain⟨v,h6,h7⟩:=yNc (P:=P) hu O U h0 h5 (N x I h1);exact FL (s:=Instr.fieldAt s (a.eval x) f) V rfl h6 h7 hn
theorem xW(s:TypeId)(x:Operand)(f:Nat){ty:TypeId}{pos:String}{after:Array Edge}{guard:Option (Nat×Bool)}(af:TblOK P G T)(Y:SR base w g st)(hG:GlobOK G w g)(J:FR w g st fr a)(E:Dl P il (.field s x f)=some p)
  (M:p.exec T (Dh G fr) st=some (d,st')) (hn:∀ v w' g',Go1 base w g st w' g' st'→RepV w' g' st' d v→next (a.put dst v) w'):Oper.wp P {dst:=dst,op:=.field s x f,type:=ty,pos:=pos,after:=after,guard:=guard} a w next Q:=by
 have N:∀ x I,DE x=some I→RepV w g st (Dh G fr I) (a.eval x):=fun x I h=>F2 hG J h;clear J;simp only[Dl]at E
 split at E
 case h_2=>cases E
 rename_i I fields h1 hu
 split at E
 case h_2=>cases E
 rename_i fd O
 split at E
 case h_2=>cases E
 rename_i n ag U V;simp only[C3]at E; subst E;simp only[POp.exec,Dv,Dk]at M;obtain⟨r,h5,rfl,rfl⟩:=M;obtain⟨v,h6,h7⟩:=w7 (P:=P) hu O V U h5 (N x I h1);exact FL (s:=Instr.field s (a.eval x) f) Y rfl h6 h7 hn
theorem yE4(t:TypeId)(x i:Operand){ty:TypeId}{pos:String}{after:Array Edge}{guard:Option (Nat×Bool)}(ae:TblOK P G T)(hS:SR base w g st)(hG:GlobOK G w g)(hF:FR w g st fr a)(E:Dl P il (.indexAddr t x i)=some p)
  (N:p.exec T (Dh G fr) st=some (d,st')) (hn:∀ v w' g',Go1 base w g st w' g' st'→RepV w' g' st' d v→next (a.put dst v) w'):Oper.wp P {dst:=dst,op:=.indexAddr t x i,type:=ty,pos:=pos,after:=after,guard:=guard} a w next Q:=by
 have J:∀ x I,DE x=some I→RepV w g st (Dh G fr I) (a.eval x):=fun x I h=>F2 hG hF h;clear hF;simp only[Dl]at E
 split at E
 ·rename_i I pi len e O U hu;simp only[Dv]at E;obtain⟨n,M,rfl⟩:=E;simp only[POp.exec,Dv,Dk]at N;obtain⟨r,V,rfl,rfl⟩:=N;obtain⟨v,Y,h7⟩:=tY (P:=P) hu M V (J x I O) (J i pi U);exact FL (s:=Instr.indexAt t (a.eval x) (a.eval i)) hS rfl Y h7 hn
 ·rename_i I pi e O U hu;simp only[Dv]at E;obtain⟨n,M,rfl⟩:=E;simp only[POp.exec,Dv,Dk]at N;obtain⟨r,V,rfl,rfl⟩:=N;obtain⟨v,Y,h7⟩:=yBz (P:=P) hu M V (J x I O) (J i pi U);exact FL (s:=Instr.indexAt t (a.eval x) (a.eval i)) hS rfl Y h7 hn
 ·cases E
theorem xX(t:TypeId)(x i:Operand){ty:TypeId}{pos:String}{after:Array Edge}{guard:Option (Nat×Bool)}(af:TblOK P G T)(hS:SR base w g st)(hG:GlobOK G w g)(hF:FR w g st fr a)(E:Dl P il (.index t x i)=some p)
  (M:p.exec T (Dh G fr) st=some (d,st')) (hn:∀ v w' g',Go1 base w g st w' g' st'→RepV w' g' st' d v→next (a.put dst v) w'):Oper.wp P {dst:=dst,op:=.index t x i,type:=ty,pos:=pos,after:=after,guard:=guard} a w next Q:=by
 have J:∀ x I,DE x=some I→RepV w g st (Dh G fr I) (a.eval x):=fun x I h=>F2 hG hF h;clear hF;simp only[Dl]at E
 split at E
 ·rename_i I pi len e N O hu
  split at E
  case h_2=>cases E
  rename_i n ag ac ad;simp only[C3]at E; subst E;simp only[POp.exec,Dv,Dk]at M;obtain⟨r,U,rfl,rfl⟩:=M;obtain⟨v,V,Y⟩:=xO (P:=P) hu ad ac U (J x I N) (J i pi O);exact FL (s:=Instr.index t (a.eval x) (a.eval i)) hS rfl V Y hn
 ·rename_i I pi N O hu;simp only[C3]at E; subst E;simp only[POp.exec,Dv,Dk]at M;obtain⟨r,U,rfl,rfl⟩:=M;obtain⟨v,V,Y⟩:=Ye2 (P:=P) hu U (J x I N) (J i pi O);exact FL (s:=Instr.index t (a.eval x) (a.eval i)) hS rfl V Y hn
 ·cases E
theorem yLt(x:Operand)(i:Nat){ty:TypeId}{pos:String}{after:Array Edge}{guard:Option (Nat×Bool)}(ae:TblOK P G T)(V:SR base w g st)(Y:GlobOK G w g)(M:FR w g st fr a)(N:Dl P il (.extract x i)=some p)
  (E:p.exec T (Dh G fr) st=some (d,st')) (hn:∀ v w' g',Go1 base w g st w' g' st'→RepV w' g' st' d v→next (a.put dst v) w'):Oper.wp P {dst:=dst,op:=.extract x i,type:=ty,pos:=pos,after:=after,guard:=guard} a w next Q:=by
 have O:∀ x I,DE x=some I→RepV w g st (Dh G fr I) (a.eval x):=fun x I h=>F2 Y M h;clear M;simp only[Dl,Dv]at N;obtain⟨I,h1,rfl⟩:=N;simp only[POp.exec]at E;have J:=O x I h1
 split at E
 ·rename_i vs hp;simp only[Dv,Dk]at E;obtain⟨r,U,rfl,rfl⟩:=E;rw[hp]at J;generalize hv:a.eval x=v at J
  cases J with
  |tup _ us h2 h3=>
   have hl:i<us.length:=by rw[← h2]; exact(Ac.1 U).1
   refine FL (s:=Instr.extract (a.eval x) i) V rfl (v:=us[i]) ?_ (h3 i r _ U (An hl)) hn;simp[hv,Instr.extract,hl]
 ·cases E
theorem yE2(t:TypeId)(m k v:Operand){ty:TypeId}{pos:String}{after:Array Edge}{guard:Option (Nat×Bool)}(a0:TblOK P G T)(O:SR base w g st)(U:GlobOK G w g)(M:FR w g st fr a)(E:Dl P il (.mapUpdate t m k v)=some p)
  (N:p.exec T (Dh G fr) st=some (d,st')) (hn:∀ v w' g',Go1 base w g st w' g' st'→RepV w' g' st' d v→next (a.put dst v) w'):Oper.wp P {dst:=dst,op:=.mapUpdate t m k v,type:=ty,pos:=pos,after:=after,guard:=guard} a w next Q:=by
 have I:∀ x J,DE x=some J→RepV w g st (Dh G fr J) (a.eval x):=fun x J h=>F2 U M h;clear M;simp only[Dl]at E
 split at E
 case h_2=>cases E
 rename_i kt et sz ks pm V Y h1 h2 h3 h4;simp only[C3]at E; subst E;simp only[POp.exec,Dv,Dk]at N;obtain⟨r,h5,rfl,rfl⟩:=N;obtain⟨w',g',h6,h7⟩:=oz (P:=P) O h1 (I m pm h2) (I k V h3) (I v Y h4) h5;unfold Oper.wp execOp;simp only[Sem.run_bind,h6,Result.andThen_ok,Sem.run_pure];exact hn undef w' g' h7 (.tup [] [] rfl (fun i d v h=>by simp at h))
theorem yRj(t:TypeId)(m k v:Operand){ty:TypeId}{pos:String}{after:Array Edge}{guard:Option (Nat×Bool)}(a0:TblOK P G T)(O:SR base w g st)(U:GlobOK G w g)(M:FR w g st fr a)(E:Dl P il (.insert t m k v)=some p)
  (N:p.exec T (Dh G fr) st=some (d,st')) (hn:∀ v w' g',Go1 base w g st w' g' st'→RepV w' g' st' d v→next (a.put dst v) w'):Oper.wp P {dst:=dst,op:=.insert t m k v,type:=ty,pos:=pos,after:=after,guard:=guard} a w next Q:=by
 have I:∀ x J,DE x=some J→RepV w g st (Dh G fr J) (a.eval x):=fun x J h=>F2 U M h;clear M;simp only[Dl]at E
 split at E
 case h_2=>cases E
 rename_i kt et sz ks pm V Y h1 h2 h3 h4;simp only[C3]at E; subst E;simp only[POp.exec,Dv,Dk]at N;obtain⟨r,h5,rfl,rfl⟩:=N;obtain⟨w',g',h6,h7⟩:=oz (P:=P) O h1 (I m pm h2) (I k V h3) (I v Y h4) h5;unfold Oper.wp execOp;simp only[Sem.run_bind,h6,Result.andThen_ok,Sem.run_pure];exact hn undef w' g' h7 (.tup [] [] rfl (fun i d v h=>by simp at h))
theorem yRi(t:TypeId)(m k:Operand)(ok:Bool){ty:TypeId}{pos:String}{after:Array Edge}{guard:Option (Nat×Bool)}(ah:TblOK P G T)(M:SR base w g st)(hG:GlobOK G w g)(hF:FR w g st fr a)(E:Dl P il (.lookup t m k ok)=some p)
  (J:p.exec T (Dh G fr) st=some (d,st')) (hn:∀ v w' g',Go1 base w g st w' g' st'→RepV w' g' st' d v→next (a.put dst v) w'):Oper.wp P {dst:=dst,op:=.lookup t m k ok,type:=ty,pos:=pos,after:=after,guard:=guard} a w next Q:=by
 have I:∀ x N,DE x=some N→RepV w g st (Dh G fr N) (a.eval x):=fun x N h=>F2 hG hF h;clear hF;simp only[Dl]at E
 split at E
 case h_2=>
  split at E
  case h_2=>cases E
  rename_i zd pm O U V Y;simp only[C3]at E; subst E;simp only[POp.exec,Dv,Dk]at J;obtain⟨r,h5,rfl,rfl⟩:=J;obtain⟨v,h6,h7⟩:=Yg4 (P:=P) U (I m pm V) (I k O Y) h5;exact FL (s:=Instr.lookup t (a.eval m) (a.eval k) ok) M rfl h6 h7 hn
 rename_i kt et sz ks pm O U V Y;simp only[Dv]at E;obtain⟨zd,h4,rfl⟩:=E;simp only[POp.exec,Dv,Dk]at J;obtain⟨r,h5,rfl,rfl⟩:=J;obtain⟨v,h6,h7⟩:=zV (P:=P) M U h4 (I m pm V) (I k O Y) h5;exact FL (s:=Instr.lookup t (a.eval m) (a.eval k) ok) M rfl h6 h7 hn
theorem yLr(t:TypeId)(J:Option Operand){ty:TypeId}{pos:String}{after:Array Edge}{guard:Option (Nat×Bool)}(V:TblOK P G T)(O:SR base w g st)(U:GlobOK G w g)(N:FR w g st fr a)(E:Dl P il (.makeMap t J)=some p)
  (I:p.exec T (Dh G fr) st=some (d,st')) (hn:∀ v w' g',Go1 base w g st w' g' st'→RepV w' g' st' d v→next (a.put dst v) w'):Oper.wp P {dst:=dst,op:=.makeMap t J,type:=ty,pos:=pos,after:=after,guard:=guard} a w next Q:=by
 have Y:∀ x M,DE x=some M→RepV w g st (Dh G fr M) (a.eval x):=fun x M h=>F2 U N h;clear N
 cases J with
 |some x=>simp[Dl]at E
 |none=>
  simp only[Dl]at E
  split at E
  case h_2=>cases E
  rename_i kt et sz ks h1;simp only[C3]at E; subst E;simp only[POp.exec]at I
  split at I
  case isFalse=>cases I
  rename_i hc;simp only[C3,Dk]at I;obtain⟨rfl,rfl⟩:=I;exact MX (s:=Instr.makeMap t none) rfl (xf (P:=P) (t:=t) O hc.1 hc.2) hn
theorem aC{es:List D}{E:List Value}(I:ds.length=vs.length)(J:∀ (i:Nat) d v,ds[i]?=some d→vs[i]?=some v→RepV w g st d v)(M:∀ (i:Nat) d v,es[i]?=some d→E[i]?=some v→RepV w g st d v) :
  ∀ (i:Nat) d v,(ds++es)[i]?=some d→(vs++E)[i]?=some v→RepV w g st d v:=by
 grind
theorem ax{ty:TypeId}{pos:String}{after:Array Edge}{guard:Option (Nat×Bool)}{J:PA}{l:List PA}(N:∀ x J,DE x=some J→RepV w g st (Dh G fr J) (a.eval x))(M:c.callee=.value x)
  (Y:DE x=some J) (hl:HM c.args.toList=some l) (hc:(POp.callv J l).callee (Dh G fr)=some (f,ds)) :
  ∃ vs:List Value,ds.length=vs.length∧(∀ (i:Nat) d v,ds[i]?=some d→vs[i]?=some v→RepV w g st d v)∧execOp a.eval {dst:=dst,op:=.call c,type:=ty,pos:=pos,after:=after,guard:=guard}=callFunc f vs.toArray:=by
 obtain⟨g1,g2⟩:=Of N hl;have g1:(l.map (Dh G fr)).length=(c.args.toList.map a.eval).length:=by simpa using g1
 have U:=N x J Y;simp only[POp.callee]at hc
 split at hc
 case h_2=>cases hc
 rename_i f' aa V;rw[V]at U;generalize I:a.eval x=xv at U
 cases U with
 |clo _ _ us hlen O=>
  by_cases E:f'<5000000
  ·rw[if_pos E]at hc;simp only[C3,Dk]at hc;obtain⟨rfl,rfl⟩:=hc;rw[Qr E,WO E,Ww E]at I;refine⟨c.args.toList.map a.eval++us,by rw[Ab,Ab,g1,hlen],aC g1 g2 O,?_⟩;simp only[execOp,resolve,M,I,Deferred.ofValue]
   have:(c.args.toList.map a.eval++us).toArray=c.args.map a.eval++us.toArray:=by
    grind
   rw[this];simp only[BJ];rfl
  ·rw[if_neg E]at hc
   split at hc
   case isFalse=>cases hc
   rename_i ab;simp only[C3,Dk]at hc;obtain⟨rfl,rfl⟩:=hc;obtain⟨f,rfl⟩:∃ f,f'=f+5000000:=⟨f' - 5000000,by omega⟩;have hf:f<5000000:=by omega
   rw[mL hf,qK hf,pC hf]at I;rw[Cl];refine⟨us++c.args.toList.map a.eval,by rw[Ab,Ab,g1,hlen],aC hlen O g2,?_⟩;simp only[execOp,resolve,M,I,Deferred.ofValue]
   have:(us++c.args.toList.map a.eval).toArray=us.toArray++c.args.map a.eval:=by
    grind
   rw[this];rfl
theorem Yd5(c:Call){ty:TypeId}{pos:String}{after:Array Edge}{guard:Option (Nat×Bool)}(hT:TblOK P G T)(U:SR base w g st)(hG:GlobOK G w g)(hF:FR w g st fr a)(I:Dl P il (.call c)=some p)(b8:∀ x args f a1,p=.callv x args→Dh G fr x=.clo f a1→f<10000000)
  (E:p.exec T (Dh G fr) st=some (d,st')) (hn:∀ v w' g',Go1 base w g st w' g' st'→RepV w' g' st' d v→next (a.put dst v) w'):Oper.wp P {dst:=dst,op:=.call c,type:=ty,pos:=pos,after:=after,guard:=guard} a w next Q:=by
 have M:∀ x pa,DE x=some pa→RepV w g st (Dh G fr pa) (a.eval x):=fun x pa h=>F2 hG hF h;clear hF;simp only[Dl]at I
 split at I
 ·rename_i b hb
  -- a builtin
  have O:∀ l,c.args.toList=l→c.args=l.toArray:=fun l h=>by rw[← h,BC]
  have a9:∀ l,c.argTypes.toList=l→c.argTypes=l.toArray:=fun l h=>by rw[← h,BC]
  unfold WB at I
  split at I
  ·rename_i x t J Y;have J:=O _ J;have Y:=a9 _ Y
   have aa:execOp a.eval {dst:=dst,op:=.call c,type:=ty,pos:=pos,after:=after,guard:=guard}=(do pure (.value (← Builtin.len_ #[t] ty #[a.eval x]))):=by
    simp[execOp,resolve,hb,J,Y,invoke,builtin]
   split at I
   ·rename_i pa V hu;simp only[C3]at I; subst I;simp only[POp.exec]at E
    split at E
    case isFalse=>cases E
    rename_i ba;simp only[Dv,Dk]at E;obtain⟨n,h5,rfl,rfl⟩:=E;refine FL U aa (m6 (.inl hu) ⟨fun _=>?_,fun _=>hu⟩ h5 (M x pa V) ty) (.int _ _) hn;cases hp:Dh G fr pa <;> simp[hp,Ip]at ba;grind
   ·rename_i pa e V hu;simp only[C3]at I; subst I;simp only[POp.exec]at E
    split at E
    case isFalse=>cases E
    rename_i ba;simp only[Dv,Dk]at E;obtain⟨n,h5,rfl,rfl⟩:=E;refine FL U aa (m6 (.inr ⟨e,hu⟩) ⟨(by intro h; rw[hu]at h; cases h),fun⟨s,hs⟩=>?_⟩ h5 (M x pa V) ty) (.int _ _) hn;simp[hs,Ip]at ba
   ·rename_i pa n e V hu;simp only[C3]at I; subst I;simp only[POp.exec,C3,Dk]at E;obtain⟨rfl,rfl⟩:=E;refine FL U aa ?_ (.int _ _) hn;simp[Builtin.len_,run_underlying hu,goInt]
   ·cases I
  ·rename_i s x t tx J Y;have J:=O _ J;have Y:=a9 _ Y
   have aa:execOp a.eval {dst:=dst,op:=.call c,type:=ty,pos:=pos,after:=after,guard:=guard}=(do pure (.value (← Builtin.append_ #[t,tx] ty #[a.eval s,a.eval x]))):=by
    simp[execOp,resolve,hb,J,Y,invoke,builtin]
   have fin:∀ ps px e,DE s=some ps→DE x=some px→P.underlying t=some (.slice e)→((∃ e',P.underlying tx=some (.slice e'))∨P.underlying tx=some .string)→(match P.info? e with
    |some i=>match i.zero with
     |some z=>if z.cells.size=i.size then some (POp.app i.size i.bytes ps px)else none
     |none=>none
    |none=>none)=some p→Oper.wp P {dst:=dst,op:=.call c,type:=ty,pos:=pos,after:=after,guard:=guard} a w next Q:=by
    intro ps px e V h2 hu b9 hp
    split at hp
    case h_2=>cases hp
    rename_i i hi
    split at hp
    case h_2=>cases hp
    rename_i z hz
    split at hp
    case isFalse=>cases hp
    rename_i ca;simp only[C3]at hp; subst hp;simp only[POp.exec]at E;exact MX aa (Ye6 U hu b9 hi hz rfl rfl ca E (M s ps V) (M x px h2)) hn
   split at I
   ·grind
   ·grind
   ·cases I
  ·rename_i x y t t2 J Y;have J:=O _ J;have Y:=a9 _ Y
   split at I
   case h_2=>cases I
   rename_i px py e V h2 hu
   split at I
   case h_2=>cases I
   rename_i cb;simp only[C3]at I; subst I;simp only[POp.exec]at E;exact MX (s:=Builtin.copy_ #[t,t2] ty #[a.eval x,a.eval y]) (by simp[execOp,resolve,hb,J,Y,invoke,builtin]) (Ypl U hu cb (M x px V) (M y py h2) E) hn
  ·rename_i x y J;have J:=O _ J
   split at I
   case h_2=>cases I
   rename_i px py V h2;simp only[C3]at I; subst I;simp only[POp.exec]at E
   split at E
   case h_2=>cases E
   rename_i k n k' m ae af;simp only[C3,Dk]at E;obtain⟨rfl,rfl⟩:=E;have r1:=M x px V;have r2:=M y py h2;rw[ae]at r1;rw[af]at r2;have q1:=It r1;have q2:=It r2;refine FL (s:=Builtin.min_ c.argTypes ty #[a.eval x,a.eval y]) U ?_ ?_ (.int k (if m<n then m else n)) hn
   ·simp[execOp,resolve,hb,J,invoke,builtin]
   ·simp[Builtin.min_,q1,q2,Builtin.min2]
  ·rename_i x y J;have J:=O _ J
   split at I
   case h_2=>cases I
   rename_i px py V h2;simp only[C3]at I; subst I;simp only[POp.exec]at E
   split at E
   case h_2=>cases E
   rename_i k n k' m ae af;simp only[C3,Dk]at E;obtain⟨rfl,rfl⟩:=E;have r1:=M x px V;have r2:=M y py h2;rw[ae]at r1;rw[af]at r2;have q1:=It r1;have q2:=It r2;refine FL (s:=Builtin.max_ c.argTypes ty #[a.eval x,a.eval y]) U ?_ ?_ (.int k (if m > n then m else n)) hn
   ·simp[execOp,resolve,hb,J,invoke,builtin]
   ·simp[Builtin.max_,q1,q2,Builtin.max2]
  ·rename_i x y z J;have J:=O _ J
   split at I
   case h_2=>cases I
   rename_i px py pz V h2 h3;simp only[C3]at I; subst I;simp only[POp.exec]at E
   split at E
   case h_2=>cases E
   rename_i k n k' m k2 l ae af bb;simp only[C3,Dk]at E;obtain⟨rfl,rfl⟩:=E;have r1:=M x px V;have r2:=M y py h2;have r3:=M z pz h3;rw[ae]at r1;rw[af]at r2;rw[bb]at r3;have q1:=It r1;have q2:=It r2;have q3:=It r3;refine FL (s:=Builtin.min_ c.argTypes ty #[a.eval x,a.eval y,a.eval z]) U ?_ ?_ (.int k (Mj false (Mj false n m) l)) hn
   ·simp[execOp,resolve,hb,J,invoke,builtin]
   ·simp[Builtin.min_,q1,q2,q3,Builtin.min2,Mj]
  ·rename_i x y z J;have J:=O _ J
   split at I
   case h_2=>cases I
   rename_i px py pz V h2 h3;simp only[C3]at I; subst I;simp only[POp.exec]at E
   split at E
   case h_2=>cases E
   rename_i k n k' m k2 l ae af bb;simp only[C3,Dk]at E;obtain⟨rfl,rfl⟩:=E;have r1:=M x px V;have r2:=M y py h2;have r3:=M z pz h3;rw[ae]at r1;rw[af]at r2;rw[bb]at r3;have q1:=It r1;have q2:=It r2;have q3:=It r3;refine FL (s:=Builtin.max_ c.argTypes ty #[a.eval x,a.eval y,a.eval z]) U ?_ ?_ (.int k (Mj true (Mj true n m) l)) hn
   ·simp[execOp,resolve,hb,J,invoke,builtin]
   ·simp[Builtin.max_,q1,q2,q3,Builtin.max2,Mj]
  ·cases I
 ·rename_i f hf
  split at I
  case h_2=>cases I
  rename_i fn l cc hl
  have hex:execOp a.eval {dst:=dst,op:=.call c,type:=ty,pos:=pos,after:=after,guard:=guard}=callFunc f (c.args.toList.map a.eval).toArray:=by
   simp only[execOp,resolve,hf,Act.eval,Deferred.ofValue]
   have:(c.args.toList.map a.eval).toArray=c.args.map a.eval:=by
    grind
   rw[this];simp only[BJ];rfl
  obtain⟨g1,g2⟩:=Of M hl
  split at I
  case isFalse=>
   split at I
   case isTrue=>cases I
   simp only[C3]at I;subst I;simp only[POp.exec]at E
   split at E
   case h_2=>cases E
   rename_i sp ys N bd
   split at E
   case h_2=>cases E
   rename_i r hr;simp only[C3,Dk]at E;obtain⟨rfl,rfl⟩:=E;rcases hT.p _ _ N with⟨hC,_⟩ | ⟨f',e,hE⟩
   ·omega
   ·obtain rfl:f=f':=Nat.add_right_cancel e;exact Ype U hE bd hr (by simpa using g1) g2 hex hn
  rename_i hc;simp only[Af,AR,decide_eq_true_eq]at hc;simp only[C3]at I
  split at I
  ·subst I;simp only[POp.exec]at E
   split at E
   case h_2=>cases E
   rename_i sp N
   split at E
   case h_2=>cases E
   rename_i r hr;refine aI (hT.m f sp N) U hG (ds:=l.map (Dh G fr)) (vs:=c.args.toList.map a.eval) (r:=d) (st':=st') ?_ (by simpa using g1) g2 hex hn;grind
  split at I
  ·subst I;simp only[POp.exec]at E
   split at E
   case h_2=>cases E
   rename_i sp N;exact aI (hT.q f sp N) U hG (ds:=l.map (Dh G fr)) (vs:=c.args.toList.map a.eval) (r:=d) (st':=st') E (by simpa using g1) g2 hex hn
  split at I
  ·subst I;simp only[POp.exec]at E
   split at E
   case h_2=>cases E
   rename_i sp N;exact fG hT U hG (ds:=l.map (Dh G fr)) (vs:=c.args.toList.map a.eval) N E (by simpa using g1) g2 hex hn
  ·subst I;simp only[POp.exec]at E
   split at E
   case h_2=>cases E
   rename_i sp ys N bd
   split at E
   case h_2=>cases E
   rename_i r hr;simp only[C3,Dk]at E;obtain⟨rfl,rfl⟩:=E;exact Yh0 hT U hG (ds:=l.map (Dh G fr)) (vs:=c.args.toList.map a.eval) cc hc.1.1 hc.1.2 hc.2 N bd hr (by simpa using g1) g2 hex hn
 ·rename_i x c0 be
  split at I
  case h_2=>cases I
  rename_i pa l b1 hl;simp only[C3]at I; subst I;simp only[POp.exec]at E
  split at E
  case h_2=>cases E
  rename_i f a1 a7;have bf:=b8 _ _ _ _ rfl a7
  by_cases a8:f<5000000
  ·rw[if_pos a8]at E
   split at E
   case h_2=>cases E
   rename_i sp N;obtain⟨vs,J,Y,e3⟩:=ax (dst:=dst) (ty:=ty) (pos:=pos) (after:=after) (guard:=guard) M be b1 hl (show(POp.callv pa l).callee (Dh G fr)=some (f,l.map (Dh G fr)++a1) by simp[POp.callee,a7,a8]);exact fG hT U hG N E J Y e3 hn
  ·rw[if_neg a8,if_pos bf]at E
   split at E
   case h_2=>cases E
   rename_i sp N;obtain⟨vs,J,Y,e3⟩:=ax (dst:=dst) (ty:=ty) (pos:=pos) (after:=after) (guard:=guard) M be b1 hl (show(POp.callv pa l).callee (Dh G fr)=some (f - 5000000,a1++l.map (Dh G fr)) by simp[POp.callee,a7,a8,bf]);exact fG hT U hG N E J Y e3 hn
 ·cases I
theorem yH3(fn:Fn)(first E:Array Operand){ty:TypeId}{pos:String}{after:Array Edge}{guard:Option (Nat×Bool)}(ac:TblOK P G T)(Y:SR base w g st)(hG:GlobOK G w g)(hF:FR w g st fr a)(I:Dl P il (.makeFunc fn first E)=some p)
  (M:p.exec T (Dh G fr) st=some (d,st')) (hn:∀ v w' g',Go1 base w g st w' g' st'→RepV w' g' st' d v→next (a.put dst v) w'):Oper.wp P {dst:=dst,op:=.makeFunc fn first E,type:=ty,pos:=pos,after:=after,guard:=guard} a w next Q:=by
 have N:∀ x O,DE x=some O→RepV w g st (Dh G fr O) (a.eval x):=fun x O h=>F2 hG hF h;clear hF
 cases fn with
 |func f=>
  simp only[Dl]at I
  split at I
  case isFalse=>cases I
  rename_i J;simp only[decide_eq_true_eq]at J
  split at I
  ·rename_i hf;simp only[Dv]at I;obtain⟨l,hl,rfl⟩:=I;simp only[POp.exec,C3,Dk]at M;obtain⟨rfl,rfl⟩:=M;obtain⟨g1,g2⟩:=Of N hl;refine FL (s:=Instr.makeFunc (.func f) (first.map a.eval) (E.map a.eval)) Y rfl (v:=.func (Kg f) (OT f (E.toList.map a.eval)) (PM f (E.toList.map a.eval))) ?_ (.clo f _ _ (by simpa using g1) g2) hn;rw[Qr J,WO J,Ww J]
   have U:first.map a.eval=#[]:=by
    grind
   have V:E.map a.eval=(E.toList.map a.eval).toArray:=by
    grind
   rw[U,V];rfl
  ·split at I
   case isFalse=>cases I
   rename_i hf;simp only[Dv]at I;obtain⟨l,hl,rfl⟩:=I;simp only[POp.exec,C3,Dk]at M;obtain⟨rfl,rfl⟩:=M;obtain⟨g1,g2⟩:=Of N hl;refine FL (s:=Instr.makeFunc (.func f) (first.map a.eval) (E.map a.eval)) Y rfl (v:=.func (Kg (f+5000000)) (OT (f+5000000) (first.toList.map a.eval)) (PM (f+5000000) (first.toList.map a.eval))) ?_ (.clo (f+5000000) _ _ (by simpa using g1) g2) hn;rw[mL J,qK J,pC J]
   have U:E.map a.eval=#[]:=by
    grind
   have V:first.map a.eval=(first.toList.map a.eval).toArray:=by
    grind
   rw[U,V];rfl
 |_=>simp[Dl]at I
def Wr(r:Option Nat):Fence:={Fence.wide with round:=r}
theorem Pp(E:∀ c,o.op≠.defer c)(h:o.wp P a w next Q):o.wpIn (Wr r) 0 P a w next Q:=by
 refine⟨fun _ _=>trivial,?_⟩;rw[Oper.semAt_eq _ _ _ E];unfold Oper.wp at h;generalize (execOp a.eval o).run P w=x at h ⊢
 cases x with
 |ok n w'=>
  cases n <;> simp only[Oper.upon]at h <;> simp only[Oper.uponIn] <;> first
   |exact h
   |exact h.elim
   |exact⟨(fun e=>by cases e),callsIn_wide.2 h⟩
   |exact⟨(fun e=>by cases e),fun c cs _=>let⟨v,w',r,s⟩:=h c cs; ⟨v,w',r,stepsIn_wide.2 s⟩⟩
 |halt x w'=>cases x <;> simp only[Oper.upon]at h <;> simp only[Oper.uponIn] <;> first | exact h | exact h.elim
theorem YOK.none{G:Db}{w0:World}{g0:Ghost}{st0:St}:YOK P G (fun _ _ _=>none) base w0 g0 st0:=fun _ _ _ _ _ _ _ _ _ _ h=>by cases h
theorem yz{l:Nat}(E:o.op=.call c)(hc:c.callee=.value x)(I:a.eval x=.func (.yield l) #[] #[])(O:c.args.toList.map a.eval=vs)
  (h:nT P base w g st st' l vs d) (hn:∀ v w' g',Go1 base w g st w' g' st'→RepV w' g' st' d v→next (a.put o.dst v) w'):o.wpIn (Wr r) 0 P a w next Q:=by
 obtain⟨f,tmps,assign,body,J,M⟩:=h;refine⟨fun _ _=>trivial,?_⟩;rw[Oper.semAt_eq _ _ _ (fun c' e=>by rw[E]at e; cases e)]
 have hex:execOp a.eval o=Instr.yield l vs.toArray:=by
  obtain⟨dst,op,ty,pos,after,guard⟩:=o;simp only at E;subst E
  have N:vs.toArray=c.args.map a.eval:=by
   grind
  simp only[execOp,resolve,hc,I,Deferred.ofValue,N,BJ];rfl
 rw[hex,J,Oper.uponIn_round];refine⟨(fun e=>by cases e),?_⟩;refine RoundIn.mono (F:=Wr r) (n:=0) M ?_;grind
theorem Ytj(I:TblOK P G T)(J:SR base w g st)(M:GlobOK G w g)(N:FR w g st fr a)(E:Dl P il o.op=some p)(V:∀ x args f U,p=.callv x args→Dh G fr x=.clo f U→f<10000000)(O:p.exec T (Dh G fr) st=some (d,st'))
  (hn:∀ v w' g',Go1 base w g st w' g' st'→RepV w' g' st' d v→next (a.put o.dst v) w'):o.wp P a w next Q:=by
 obtain⟨dst,op,ty,pos,after,guard⟩:=o
 cases op with
 |move x=>exact Yd3 x I J M N E O hn
 |assign x=>exact yRk x I J M N E O hn
 |pick c x y=>exact Yd2 c x y I J M N E O hn
 |alloc t=>exact yq t I J M N E O hn
 |box t x=>exact Yl5 t x I J M N E O hn
 |build t parts=>exact yu t parts I J M N E O hn
 |buildSlice t len parts=>exact yBv t len parts I J M N E O hn
 |load t x=>exact Yd4 t x I J M N E O hn
 |store t x y=>exact xZ t x y I J M N E O hn
 |nilCheck x=>exact yH2 x I J M N E O hn
 |binOp op t x y Y=>exact yt op t x y Y I J M N E O hn
 |unOp op t x=>exact Yd1 op t x I J M N E O hn
 |convert src dt x=>exact yLu src dt x I J M N E O hn
 |makeSlice t l c=>exact yE3 t l c I J M N E O hn
 |slice t x lo hi mx=>exact xY t x lo hi mx I J M N E O hn
 |fieldAddr s x f=>exact yE5 s x f I J M N E O hn
 |field s x f=>exact xW s x f I J M N E O hn
 |indexAddr t x i=>exact yE4 t x i I J M N E O hn
 |index t x i=>exact xX t x i I J M N E O hn
 |extract x i=>exact yLt x i I J M N E O hn
 |mapUpdate t m k v=>exact yE2 t m k v I J M N E O hn
 |insert t m k v=>exact yRj t m k v I J M N E O hn
 |lookup t m k ok=>exact yRi t m k ok I J M N E O hn
 |makeMap t rs=>exact yLr t rs I J M N E O hn
 |call c=>exact Yd5 c I J M N E V O hn
 |makeFunc fn first U=>exact yH3 fn first U I J M N E O hn
 |_=>simp[Dl]at E
theorem Yfj{w0:World}{g0:Ghost}{st0:St}(hT:TblOK P G T)(hY:YOK P G T.y base w0 g0 st0)(V:Go1 base w0 g0 st0 w g st)(U:GlobOK G w g)(hF:FR w g st fr a)(E:Dl P il o.op=some p)(M:p.exec T (Dh G fr) st=some (d,st'))
  (hn:∀ v w' g',Go1 base w g st w' g' st'→RepV w' g' st' d v→next (a.put o.dst v) w'):o.wpIn (Wr r) 0 P a w next Q:=by
 have Y:∀ c,o.op≠.defer c:=fun c e=>by rw[e]at E; simp[Dl]at E
 by_cases hc:∃ x args f I,p=.callv x args∧Dh G fr x=.clo f I∧¬ f<10000000
 ·obtain⟨x,args,f,I,rfl,N,aa⟩:=hc;have O:¬ f<5000000:=by omega
  simp only[POp.exec,N,if_neg aa,if_neg O]at M
  split at M
  case isFalse=>cases M
  rename_i af;obtain rfl:I=[]:=by simpa using af
  have hinv:∃ c xo,o.op=.call c∧c.callee=.value xo∧DE xo=some x∧HM c.args.toList=some args:=by
   clear hn M Y;generalize o.op=op at E
   cases op with
   |call c=>
    simp only[Dl]at E
    split at E
    ·rename_i b hb;unfold WB at E
     repeat' split at E
     all_goals first | cases E | (simp at E; done) | skip
    ·grind
    ·grind
    ·cases E
   |_=>exfalso; revert E; simp only[Dl,ZL,YR,Zl]; (repeat' split) <;> first | (simp; done) | (intro h; cases h; done) | (intro h; simp only[Dv]at h; obtain⟨_,_,h⟩:=h; cases h; done) | (intro _; contradiction)
  obtain⟨c,xo,h1,h2,h4,h5⟩:=hinv;have hr:=F2 U hF h4;rw[N]at hr;obtain⟨e1,e2⟩:=Of (fun x pa h=>F2 (G:=G) U hF h) h5;generalize J:a.eval xo=xv at hr
  cases hr with
  |clo _ _ us hlen a6=>
   obtain rfl:us=[]:=AO hlen.symm;rw[aP,ay]at J;unfold Kg at J;rw[if_neg O,if_neg aa]at J;refine yz (vs:=c.args.toList.map a.eval) h1 h2 J rfl (hY _ w g st st' _ _ d V U M (by simpa using e1) e2) hn
 ·refine Pp Y ?_;exact Ytj hT V.sr U hF E (fun x args f I e1 e2=>Classical.byContradiction fun e3=>hc ⟨x,args,f,I,e1,e2,e3⟩) M hn
end
end Go.Proofs.YtijnglngaogdjaaGreatDoor.PI
namespace Go.Proofs.YtijnglngaogdjaaGreatDoor.PI
open Go Go.RowKit
def POp.cls:POp→Nat
 |.mov _ | .pick _ _ _ | .bld _ _ | .bin _ _ _ | .beq _ _ _ | .aeq _ _ _ _ | .un _ _ | .sliceA _ _ _ _ _ _ | .fldv _ _ _ _ | .idx _ _ | .idxV _ _ _ _ _ | .lenA _ | .mm _ _ _ | .mm3 _ _ _ _ | .ext _ _ | .mkclo _ _=>0
 |.conv c _=>match c with
  |.str=>1
  |_=>0
 |.load _ _ _ | .nilc _ | .slice _ _ _ _ _ | .fld _ _ | .idxS _ _ _ | .idxA _ _ _ _ | .len _ _ | .mapget _ _ _ _ _ _ | .rcall _ _=>1
 |.bslc _ _ | .call _ _=>2
 |.box _ | .stor _ _ _ | .mkslc _ _ _ _ _ | .app _ _ _ _ | .icall _ _ | .mcall _ _ | .callv _ _ | .mkmap _ | .mapup _ _ _ _ _ | .cpy _ _ _ | .fail=>3
def PA.slot:PA→List Nat
 |.s n=>[n]
 |_=>[]
def PI.reads(i:PI):List Nat:=i.op.args.flatMap PA.slot++(GR i.guard).map (·.1)
def POp.push:POp→Bool
 |.box _ | .mkslc _ _ _ _ _=>true
 |_=>false
def PI.apart(x y:PI):Bool:=
 (match x.dst with
  |some d=>!(y.reads.contains d) && y.dst != some d
  |none=>true) &&
 (match y.dst with
  |some d=>!(x.reads.contains d)
  |none=>true) &&
 (x.op.cls == 0 || y.op.cls == 0 || (decide (x.op.cls≤2) && (decide (y.op.cls≤2) || y.op.push)))
theorem Ol{α β:Type}{f g:α→β}:∀ {l:List α},(∀ x∈l,f x=g x)→l.map f=l.map g:=fun h=>BS h
variable {st:St}{ρ:PA→D}{T:Tbl}
theorem zf{I:PA→D}(p:POp)(h:∀ x∈p.args,ρ x=I x):p.exec T ρ st=p.exec T I st:=by
 have opt:∀ (o:Option PA),(∀ x∈GR o,ρ x=I x)→o.map ρ=o.map I:=by
  intro o M
  cases o with
  |none=>rfl
  |some x=>simp[M x (by simp[GR])]
 cases p with
 |bld zero parts=>
  have:(parts.map fun p=>(p.1,p.2.1,ρ p.2.2))=parts.map fun p=>(p.1,p.2.1,I p.2.2):=Ol fun q E=>by
   rw[h q.2.2 (by simp only[POp.args,AV]; exact⟨q,E,rfl⟩)]
  simp only[POp.exec,this]
 |bslc sz parts=>
  have:parts.map ρ=parts.map I:=Ol fun q E=>h q E;simp only[POp.exec,this]
 |call f args=>
  have:args.map ρ=args.map I:=Ol fun q E=>h q E;simp only[POp.exec,this]
 |icall f args=>
  have:args.map ρ=args.map I:=Ol fun q E=>h q E;simp only[POp.exec,this]
 |mcall f args=>
  have:args.map ρ=args.map I:=Ol fun q E=>h q E;simp only[POp.exec,this]
 |rcall f args=>
  have:args.map ρ=args.map I:=Ol fun q E=>h q E;simp only[POp.exec,this]
 |mkclo f args=>
  have:args.map ρ=args.map I:=Ol fun q E=>h q E;simp only[POp.exec,this]
 |callv x args=>
  have:args.map ρ=args.map I:=Ol fun q E=>h q (by simp[POp.args,E]);simp only[POp.exec,this,h x (by simp[POp.args])]
 |slice sz x lo hi N=>
  simp only[POp.args,Aw,AK]at h;simp only[POp.exec,h x (.inl rfl),opt lo (fun y J=>h y (.inr (.inl (.inl J)))),opt hi (fun y J=>h y (.inr (.inl (.inr J)))),opt N (fun y J=>h y (.inr (.inr J)))]
 |sliceA n sz ag x lo hi=>
  simp only[POp.args,Aw,AK]at h;simp only[POp.exec,h x (.inl rfl),opt lo (fun y J=>h y (.inr (.inl J))),opt hi (fun y J=>h y (.inr (.inr J)))]
 |_=>
  simp only[POp.args,Aw,AB,or_false,forall_eq_or_imp,forall_eq]at h;simp only[POp.exec,h]
abbrev lend1(k:Nat)(st:St):St:=st.modify k fun o=>{o with lent:=true}
theorem aK(st:St)(k key tot:Nat):EE (lend1 k st) key tot=EE st key tot:=by
 unfold EE;grind
theorem yRn(st:St)(k:Nat)(d:D):ED (lend1 k st) d=ED st d:=by
 cases d <;> simp only[ED,aK]
theorem yMh(st:St)(k:Nat)(c:PConv)(d:D):Fa (lend1 k st) c d=Fa st c d:=by
 cases c <;> cases d <;> simp only[Fa,iZ]
theorem yIf(st:St)(k sz:Nat)(x:D)(lo hi E:Option D):Gm (lend1 k st) sz x lo hi E=Gm st sz x lo hi E:=by
 cases x with
 |row key tot off len=>
  simp only[Gm,QR];grind
 |_=>simp only[Gm]
theorem yMe(st:St)(k sz:Nat)(x i:D):F5 (lend1 k st) sz x i=F5 st sz x i:=by
 unfold F5
 cases Fq i with
 |none=>rfl
 |some j=>
  grind
theorem pO(st:St)(k off:Nat)(x:D):E3 (lend1 k st) off x=E3 st off x:=by
 cases x <;> simp only[E3,aK]
theorem yMf(st:St)(k n sz:Nat)(x i:D):IE (lend1 k st) n sz x i=IE st n sz x i:=by
 simp only[IE,pO]
theorem yMb(st:St)(k n:Nat)(ag:Bool)(p:D):E1 (lend1 k st) n ag p=E1 st n ag p:=by
 cases p with
 |ptr key off=>
  simp only[E1,QR];grind
 |rptr key tot i off=>
  simp only[E1,QR];grind
 |_=>simp only[E1]
theorem yFk(st:St)(I sz:Nat)(ks:List Nat)(ok:Bool)(E m k:D):IJ (lend1 I st) sz ks ok E m k=IJ st sz ks ok E m k:=by
 cases m with
 |mapv key=>
  simp only[IJ,QR]
  cases st[key]? with
  |none=>rfl
  |some o=>by_cases e:I=key <;> simp[e,Obj.isMap]
 |_=>simp only[IJ]
theorem yS0(a b:Nat)(st:St):lend1 a (lend1 b st)=lend1 b (lend1 a st):=by
 apply Bb;grind
theorem WU(a:Nat):∀ (ks:List Nat) (st:St),lend ks (lend1 a st)=lend1 a (lend ks st)
 |[],_=>rfl
 |k::r,st=>by
  show lend r (lend1 k (lend1 a st))=lend1 a (lend r (lend1 k st))
  rw[yS0,WU a r]
theorem Z5:∀ (ks qs:List Nat) (st:St),lend ks (lend qs st)=lend qs (lend ks st)
 |[],_,_=>rfl
 |k::r,qs,st=>by
  show lend r (lend1 k (lend qs st))=lend qs (lend r (lend1 k st))
  rw[← WU,Z5 r qs]
theorem vO(st:St)(k key:Nat):((lend1 k st)[key]?).map Obj.see=(st[key]?).map Obj.see:=by
 rw[QR]
 cases st[key]? with
 |none=>rfl
 |some o=>by_cases e:k=key <;> simp[e,Obj.see]
theorem pR(st:St)(k:Nat):∀ l:List Nat,GP (lend1 k st) l=GP st l
 |[]=>rfl
 |a::l=>by simp only[GP,vO,pR st k l]
theorem yJe(st:St)(k key:Nat):((lend1 k st)[key]?).isSome=(st[key]?).isSome:=by
 grind
theorem yIe(st:St)(k:Nat)(sp:List D→List (Option (Bool×Nat×List D))→Option D)(ds:List D):Ig sp ds (lend1 k st)=Ig sp ds st:=by
 unfold Ig;simp only[yJe,pR]
theorem zg(p:POp)(hc:p.cls≤2)(k:Nat)(st:St):p.exec T ρ (lend1 k st)=(p.exec T ρ st).map fun r=>(r.1,lend1 k r.2):=by
 have mp:∀ {α:Type} (o:Option α) (f:α→D),(o.map fun x=>(f x,lend1 k st))=(o.map fun x=>(f x,st)).map fun r=>(r.1,lend1 k r.2):=by
  intro α o f;cases o <;> rfl
 cases p with
 |mov x=>rfl
 |pick c x y=>simp only[POp.exec]; split <;> rfl
 |box x=>simp[POp.cls]at hc
 |bld zero parts=>simp only[POp.exec]; exact mp _ _
 |bslc sz parts=>
  simp only[POp.exec,WS]
  split
  ·split
   ·simp only[Ah,WU]
   ·rfl
  ·rfl
 |load n ag x=>simp only[POp.exec,yMb]; exact mp _ _
 |stor n p x=>simp[POp.cls]at hc
 |nilc x=>
  simp only[POp.exec,aK]
  split
  ·rfl
  ·rfl
  ·grind
  ·rfl
 |bin op x y=>simp only[POp.exec]; exact mp _ _
 |beq neg x y=>simp only[POp.exec]; exact mp _ _
 |aeq ks neg x y=>simp only[POp.exec]; exact mp _ _
 |un op x=>simp only[POp.exec]; exact mp _ _
 |conv c x=>simp only[POp.exec,yMh]; exact mp _ _
 |mkslc sz bytes zero l c=>simp[POp.cls]at hc
 |slice sz x lo hi E=>simp only[POp.exec,yIf]; exact mp _ _
 |sliceA n sz ag x lo hi=>simp only[POp.exec]; exact mp _ _
 |fld off x=>simp only[POp.exec,pO]; exact mp _ _
 |fldv off n ag x=>simp only[POp.exec]; exact mp _ _
 |idxS sz x i=>simp only[POp.exec,yMe]; exact mp _ _
 |idxA n sz x i=>simp only[POp.exec,yMf]; exact mp _ _
 |idx x i=>simp only[POp.exec]; exact mp _ _
 |idxV l sz ag x i=>simp only[POp.exec]; exact mp _ _
 |len str x=>
  simp only[POp.exec,yRn]
  split
  ·simp_all
  ·rfl
 |lenA n=>rfl
 |app sz bytes s x=>simp[POp.cls]at hc
 |mm E x y=>simp only[POp.exec]; split <;> rfl
 |mm3 E x y z=>simp only[POp.exec]; split <;> rfl
 |rcall f args=>
  simp only[POp.exec,yIe]
  split
  ·exact mp _ _
  ·rfl
 |icall f args=>simp[POp.cls]at hc
 |mcall f args=>simp[POp.cls]at hc
 |fail=>simp[POp.cls]at hc
 |mkmap sz=>simp[POp.cls]at hc
 |mapup sz ks m k v=>simp[POp.cls]at hc
 |cpy sz d s=>simp[POp.cls]at hc
 |mapget sz ks ok zero m k=>simp only[POp.exec,yFk]; exact mp _ _
 |callv x args=>simp[POp.cls]at hc
 |mkclo f args=>rfl
 |call f args=>
  simp only[POp.exec,WS]
  split
  ·split
   ·split
    ·rfl
    ·simp only[Ah,WU]
   ·rfl
  ·rfl
 |ext x i=>
  simp only[POp.exec]
  split
  ·exact mp _ id
  ·rfl
theorem fD{T:Tbl}{ρ:PA→D}(p:POp)(hc:p.cls≤2):∀ (ks:List Nat) (st:St),p.exec T ρ (lend ks st)=(p.exec T ρ st).map fun r=>(r.1,lend ks r.2)
 |[],st=>by cases h:p.exec T ρ st <;> simp[lend,h]
 |k::r,st=>by
  show p.exec T ρ (lend r (lend1 k st))=_
  rw[fD p hc r,zg p hc k st];cases p.exec T ρ st <;> rfl
variable {d:D}{st':St}
theorem Wm(p:POp)(hc:p.cls≤2)(h:p.exec T ρ st=some (d,st')):∃ ks,st'=lend ks st:=by
 have mp:∀ {α:Type} (o:Option α) (f:α→D),(o.map fun x=>(f x,st))=some (d,st')→∃ ks,st'=lend ks st:=by
  intro α o f h;simp only[Dv,Dk]at h;obtain⟨_,_,_,rfl⟩:=h;exact⟨[],rfl⟩
 cases p with
 |mov x=>simp only[POp.exec,C3,Dk]at h; exact⟨[],h.2.symm⟩
 |pick c x y=>
  simp only[POp.exec]at h
  split at h
  ·simp only[C3,Dk]at h; exact⟨[],h.2.symm⟩
  ·cases h
 |box x=>simp[POp.cls]at hc
 |bld zero parts=>simp only[POp.exec]at h; exact mp _ _ h
 |bslc sz parts=>
  simp only[POp.exec]at h;grind
 |load n ag x=>simp only[POp.exec]at h; exact mp _ _ h
 |stor n p x=>simp[POp.cls]at hc
 |nilc x=>
  simp only[POp.exec]at h
  split at h
  ·simp only[C3,Dk]at h; exact⟨[],h.2.symm⟩
  ·simp only[C3,Dk]at h; exact⟨[],h.2.symm⟩
  ·split at h
   ·simp only[C3,Dk]at h; exact⟨[],h.2.symm⟩
   ·cases h
  ·cases h
 |bin op x y=>simp only[POp.exec]at h; exact mp _ _ h
 |beq neg x y=>simp only[POp.exec]at h; exact mp _ _ h
 |aeq ks neg x y=>simp only[POp.exec]at h; exact mp _ _ h
 |un op x=>simp only[POp.exec]at h; exact mp _ _ h
 |conv c x=>simp only[POp.exec]at h; exact mp _ _ h
 |mkslc sz bytes zero l c=>simp[POp.cls]at hc
 |slice sz x lo hi E=>simp only[POp.exec]at h; exact mp _ _ h
 |sliceA n sz ag x lo hi=>simp only[POp.exec]at h; exact mp _ _ h
 |fld off x=>simp only[POp.exec]at h; exact mp _ _ h
 |fldv off n ag x=>simp only[POp.exec]at h; exact mp _ _ h
 |idxS sz x i=>simp only[POp.exec]at h; exact mp _ _ h
 |idxA n sz x i=>simp only[POp.exec]at h; exact mp _ _ h
 |idx x i=>simp only[POp.exec]at h; exact mp _ _ h
 |idxV l sz ag x i=>simp only[POp.exec]at h; exact mp _ _ h
 |len str x=>
  simp only[POp.exec]at h
  split at h
  ·exact mp _ (fun n:Nat=>D.int .i64 (n:Int)) h
  ·cases h
 |lenA n=>simp only[POp.exec,C3,Dk]at h; exact⟨[],h.2.symm⟩
 |app sz bytes s x=>simp[POp.cls]at hc
 |mm E x y=>
  simp only[POp.exec]at h
  split at h
  ·simp only[C3,Dk]at h; exact⟨[],h.2.symm⟩
  ·cases h
 |mm3 E x y z=>
  simp only[POp.exec]at h
  split at h
  ·simp only[C3,Dk]at h; exact⟨[],h.2.symm⟩
  ·cases h
 |rcall f args=>
  simp only[POp.exec]at h
  split at h
  ·exact mp _ id (by simpa using h)
  ·cases h
 |icall f args=>simp[POp.cls]at hc
 |mcall f args=>simp[POp.cls]at hc
 |fail=>simp[POp.cls]at hc
 |mkmap sz=>simp[POp.cls]at hc
 |mapup sz ks m k v=>simp[POp.cls]at hc
 |cpy sz d s=>simp[POp.cls]at hc
 |mapget sz ks ok zero m k=>simp only[POp.exec]at h; exact mp _ _ h
 |callv x args=>simp[POp.cls]at hc
 |mkclo f args=>simp only[POp.exec,C3,Dk]at h; exact⟨[],h.2.symm⟩
 |call f args=>
  simp only[POp.exec]at h
  split at h
  ·split at h
   ·simp only[C3,Dk]at h;obtain⟨_,rfl⟩:=h
    split
    ·exact⟨[],rfl⟩
    ·grind
   ·cases h
  ·cases h
 |ext x i=>
  simp only[POp.exec]at h
  split at h
  ·exact mp _ id h
  ·cases h
theorem fE(p:POp)(hc:p.cls=0)(h:p.exec T ρ st=some (d,st')):st'=st∧∀ st2,p.exec T ρ st2=some (d,st2):=by
 have mp:∀ {α:Type} (o:Option α) (f:α→D),(o.map fun x=>(f x,st))=some (d,st')→st'=st∧∀ st2:St,(o.map fun x=>(f x,st2))=some (d,st2):=by
  simp_all
 cases p with
 |mov x=>simp only[POp.exec,C3,Dk]at h ⊢; exact⟨h.2.symm,fun st2=>⟨h.1,trivial⟩⟩
 |pick c x y=>
  simp only[POp.exec]at h ⊢
  split at h
  ·grind
  ·cases h
 |bld zero parts=>simp only[POp.exec]at h ⊢; exact mp _ _ h
 |bin op x y=>simp only[POp.exec]at h ⊢; exact mp _ _ h
 |beq neg x y=>simp only[POp.exec]at h ⊢; exact mp _ _ h
 |aeq ks neg x y=>simp only[POp.exec]at h ⊢; exact mp _ _ h
 |un op x=>simp only[POp.exec]at h ⊢; exact mp _ _ h
 |conv c x=>
  cases c with
  |str=>simp[POp.cls]at hc
  |int k=>
   have e:∀ st2,Fa st2 (.int k) (ρ x)=Fa st (.int k) (ρ x):=fun st2=>by cases ρ x <;> simp only[Fa]
   simp only[POp.exec]at h ⊢;obtain⟨E,I⟩:=mp _ _ h;grind
  |bytes=>
   have e:∀ st2,Fa st2 .bytes (ρ x)=Fa st .bytes (ρ x):=fun st2=>by cases ρ x <;> simp only[Fa]
   simp only[POp.exec]at h ⊢;obtain⟨E,I⟩:=mp _ _ h;grind
  |same=>
   have e:∀ st2,Fa st2 .same (ρ x)=Fa st .same (ρ x):=fun st2=>by cases ρ x <;> simp only[Fa]
   simp only[POp.exec]at h ⊢;obtain⟨E,I⟩:=mp _ _ h;grind
 |sliceA n sz ag x lo hi=>simp only[POp.exec]at h ⊢; exact mp _ _ h
 |fldv off n ag x=>simp only[POp.exec]at h ⊢; exact mp _ _ h
 |idx x i=>simp only[POp.exec]at h ⊢; exact mp _ _ h
 |idxV l sz ag x i=>simp only[POp.exec]at h ⊢; exact mp _ _ h
 |mkclo f args=>simp only[POp.exec,C3,Dk]at h ⊢; exact⟨h.2.symm,fun st2=>⟨h.1,trivial⟩⟩
 |lenA n=>simp only[POp.exec,C3,Dk]at h ⊢; exact⟨h.2.symm,fun st2=>⟨h.1,trivial⟩⟩
 |mm J x y=>
  simp only[POp.exec]at h ⊢
  split at h
  ·grind
  ·cases h
 |mm3 J x y z=>
  simp only[POp.exec]at h ⊢
  split at h
  ·grind
  ·cases h
 |ext x i=>
  simp only[POp.exec]at h ⊢
  split at h
  ·exact mp _ id h
  ·cases h
 |_=>simp[POp.cls]at hc
theorem VX(fr:Frame){x y:Option Nat}(u v:D)(h:∀ d,x=some d→y≠some d):(fr.put x u).put y v=(fr.put y v).put x u:=by
 cases x with
 |none=>rfl
 |some a=>
  cases y with
  |none=>rfl
  |some b=>
   have E:a≠b:=fun e=>h a rfl (e ▸ rfl)
   funext t
   simp only[Frame.put,Frame.set];grind
theorem Yg6{k:Nat}{a:Obj}(o:Obj)(h:st[k]?=some a):(st++[o])[k]?=some a:=by
 grind
variable {key off tot:Nat}
theorem iM{len:Nat}{r:Nat×List D}(o:Obj)(h:Hf st key tot off len=some r):Hf (st++[o]) key tot off len=some r:=by
 unfold Hf at h ⊢;grind
variable {ag:Bool}{n sz:Nat}
theorem Yb8{r:List D}(o:Obj)(h:Hq st key off n sz ag=some r):Hq (st++[o]) key off n sz ag=some r:=by
 unfold Hq Kv at h ⊢;grind
variable {y:D}
theorem od(o:Obj)(h:Dw st d=some y):Dw (st++[o]) d=some y:=by
 cases d <;> simp only[Dw]at h ⊢ <;> first
  |exact h
  |(simp only[Dv]at h ⊢
    obtain⟨r,E,I⟩:=h;exact⟨r,iM o E,I⟩)
  |(simp only[Dv]at h ⊢
    obtain⟨r,E,I⟩:=h;exact⟨r,Yb8 o E,I⟩)
theorem oi{st:St}(o:Obj):∀ {ds ys:List D},DQ st ds=some ys→DQ (st++[o]) ds=some ys
 |[],ys,h=>h
 |d::l,ys,h=>by
  simp only[DQ]at h ⊢
  split at h
  ·rename_i x y E I;rw[od o E,oi o I]; exact h
  ·cases h
theorem Ygq(o:Obj)(h:DO st d=some y):DO (st++[o]) d=some y:=by
 cases d <;> simp only[DO]at h ⊢ <;> first
  |exact od o h
  |(simp only[Dv]at h ⊢
    obtain⟨r,E,I⟩:=h;exact⟨r,oi o E,I⟩)
  |(cases h; done)
theorem Z0{st:St}(o:Obj):∀ {ds ys:List D},D0 st ds=some ys→D0 (st++[o]) ds=some ys
 |[],ys,h=>h
 |d::l,ys,h=>by
  simp only[D0]at h ⊢
  split at h
  ·rename_i x y E I;rw[Ygq o E,Z0 o I]; exact h
  ·cases h
theorem ZS(o:Obj)(h:EE st key tot=true):EE (st++[o]) key tot=true:=by
 unfold EE at h ⊢;grind
theorem xL(o:Obj)(h:ED st d=some n):ED (st++[o]) d=some n:=by
 cases d <;> simp only[ED]at h ⊢ <;> first
  |exact h
  |(split at h
    ·rename_i hl;rw[ZS o hl]; simpa using h
    ·cases h)
theorem ySe{c:PConv}(o:Obj)(h:Fa st c d=some y):Fa (st++[o]) c d=some y:=by
 cases c <;> cases d <;> simp only[Fa]at h ⊢ <;> first
  |exact h
  |(split at h
    ·rename_i sz els E;rw[iM o E]; exact h
    ·cases h)
variable {x:D}
theorem yL6{lo hi E:Option D}(o:Obj)(h:Gm st sz x lo hi E=some y):Gm (st++[o]) sz x lo hi E=some y:=by
 cases x with
 |row key tot off len=>
  simp only[Gm]at h ⊢;grind
 |_=>simpa only[Gm]using h
theorem yR6{i:D}(o:Obj)(h:F5 st sz x i=some y):F5 (st++[o]) sz x i=some y:=by
 unfold F5 at h ⊢
 cases hn:Fq i with
 |none=>simp[hn]at h
 |some j=>
  grind
theorem oE(o:Obj)(h:E3 st off x=some y):E3 (st++[o]) off x=some y:=by
 cases x <;> simp only[E3]at h ⊢ <;> first
  |exact h
  |(split at h
    ·rename_i hl;rw[ZS o hl]; simpa using h
    ·cases h)
theorem yR8{i:D}(o:Obj)(h:IE st n sz x i=some y):IE (st++[o]) n sz x i=some y:=by
 unfold IE at h ⊢
 cases hn:Fq i with
 |none=>simp[hn]at h
 |some j=>
  rw[hn]at h;simp only at h ⊢
  split at h
  ·rename_i hj;rw[if_pos hj]; exact oE o h
  ·cases h
theorem yR1{p:D}(o:Obj)(h:E1 st n ag p=some y):E1 (st++[o]) n ag p=some y:=by
 unfold E1 at h ⊢;grind
theorem yIh{ks:List Nat}{ok:Bool}{E m k:D}(o:Obj)(h:IJ st sz ks ok E m k=some y):IJ (st++[o]) sz ks ok E m k=some y:=by
 unfold IJ at h ⊢;grind
theorem oa(h:Dw st d=some y):∀ k∈EX d,k<st.length:=by
 cases d with
 |row key tot off len=>
  simp only[Dw,Dv]at h;obtain⟨r,E,_⟩:=h;unfold Hf at E
  split at E
  ·rename_i a ha;intro k hk;simp only[EX,AM]at hk;grind
  ·cases E
 |bsl key off n sz ag=>
  simp only[Dw,Dv]at h;obtain⟨r,E,_⟩:=h;intro k hk;simp only[EX,AM]at hk;subst hk;unfold Hq Kv at E;grind
 |_=>intro k hk; simp[EX]at hk
theorem og{st:St}:∀ {ds ys:List D},DQ st ds=some ys→∀ k∈ds.flatMap EX,k<st.length
 |[],_,_=>fun k hk=>by simp at hk
 |d::l,ys,h=>by
  simp only[DQ]at h
  split at h
  ·rename_i x y E I;intro k hk;simp only[At,AK]at hk;rcases hk with hk | hk
   ·exact oa E k hk
   ·exact og I k hk
  ·cases h
theorem Ygr(h:DO st d=some y):∀ k∈keys d,k<st.length:=by
 cases d with
 |agg l=>
  simp only[DO,Dv]at h;obtain⟨r,E,_⟩:=h;exact og E
 |tup l=>simp[DO]at h
 |_=>simp only[DO]at h; exact oa h
theorem fH{st:St}:∀ {ds ys:List D},D0 st ds=some ys→∀ k∈ds.flatMap keys,k<st.length
 |[],_,_=>fun k hk=>by simp at hk
 |d::l,ys,h=>by
  simp only[D0]at h
  split at h
  ·rename_i x y E I;intro k hk;simp only[At,AK]at hk;rcases hk with hk | hk
   ·exact Ygr E k hk
   ·exact fH I k hk
  ·cases h
theorem Oj:∀ (ks:List Nat) (st:St),(lend ks st).length=st.length
 |[],_=>rfl
 |k::r,st=>by rw[lend,Oj r,List.length_modify]
theorem Z6{o:Obj}:∀ (ks:List Nat) (st:St),(∀ k∈ks,k<st.length)→lend ks (st++[o])=lend ks st++[o]
 |[],_,_=>rfl
 |k::r,st,h=>by
  have E:(st++[o]).modify k (fun o=>{o with lent:=true})=st.modify k (fun o=>{o with lent:=true})++[o]:=by
   apply Bb;grind
  rw[lend,lend,E,Z6 r _ (fun q I=>by rw[List.length_modify]; exact h q (by simp[I]))]
theorem oU{st:St}(o:Obj):∀ {l:List Nat},l.all (fun k=>(st[k]?).isSome)=true→GP (st++[o]) l=GP st l
 |[],_=>rfl
 |a::l,h=>by
  simp only[A3,Af]at h;obtain⟨x,E⟩:=Option.isSome_iff_exists.1 h.1;simp only[GP,Yg6 o E,E,oU o h.2]
theorem yL4(o:Obj){sp:List D→List (Option (Bool×Nat×List D))→Option D}{ds:List D}(h:Ig sp ds st=some d):Ig sp ds (st++[o])=some d:=by
 unfold Ig at h ⊢
 split at h
 case isFalse=>cases h
 rename_i hc
 rw[if_pos (by
  grind),oU o hc]
 exact h
theorem Yaf{o:Obj}(p:POp)(hc:p.cls≤2)(h:p.exec T ρ st=some (d,st')):p.exec T ρ (st++[o])=some (d,st'++[o]):=by
 have mp:∀ {α:Type} (a b:Option α) (f:α→D),(∀ y,a=some y→b=some y)→(a.map fun x=>(f x,st))=some (d,st')→(b.map fun x=>(f x,st++[o]))=some (d,st'++[o]):=by
  simp_all
 cases p with
 |mov x=>simp only[POp.exec,C3,Dk]at h ⊢; exact⟨h.1,by rw[h.2]⟩
 |pick c x y=>
  simp only[POp.exec]at h ⊢
  split at h
  ·grind
  ·cases h
 |box x=>simp[POp.cls]at hc
 |bld zero parts=>simp only[POp.exec]at h ⊢; exact mp _ _ _ (fun _ h=>h) h
 |bslc sz parts=>
  simp only[POp.exec]at h ⊢
  split at h
  ·rename_i els he;rw[Z0 o he];simp only
   split at h
   ·rename_i I;rw[if_pos I];simp only[C3,Dk]at h ⊢;exact⟨h.1,by rw[← h.2,Z6 _ _ (fH he)]⟩
   ·cases h
  ·cases h
 |load n ag x=>simp only[POp.exec]at h ⊢; exact mp _ _ _ (fun _ h=>yR1 o h) h
 |stor n p x=>simp[POp.cls]at hc
 |nilc x=>
  simp only[POp.exec]at h ⊢
  split at h
  ·grind
  ·grind
  ·split at h
   ·rename_i hl;rw[ZS o hl];grind
   ·cases h
  ·cases h
 |bin op x y=>simp only[POp.exec]at h ⊢; exact mp _ _ _ (fun _ h=>h) h
 |beq neg x y=>simp only[POp.exec]at h ⊢; exact mp _ _ _ (fun _ h=>h) h
 |aeq ks neg x y=>simp only[POp.exec]at h ⊢; exact mp _ _ _ (fun _ h=>h) h
 |un op x=>simp only[POp.exec]at h ⊢; exact mp _ _ _ (fun _ h=>h) h
 |conv c x=>simp only[POp.exec]at h ⊢; exact mp _ _ _ (fun _ h=>ySe o h) h
 |mkslc sz bytes zero l c=>simp[POp.cls]at hc
 |slice sz x lo hi J=>simp only[POp.exec]at h ⊢; exact mp _ _ _ (fun _ h=>yL6 o h) h
 |sliceA n sz ag x lo hi=>simp only[POp.exec]at h ⊢; exact mp _ _ _ (fun _ h=>h) h
 |fld off x=>simp only[POp.exec]at h ⊢; exact mp _ _ _ (fun _ h=>oE o h) h
 |fldv off n ag x=>simp only[POp.exec]at h ⊢; exact mp _ _ _ (fun _ h=>h) h
 |idxS sz x i=>simp only[POp.exec]at h ⊢; exact mp _ _ _ (fun _ h=>yR6 o h) h
 |idxA n sz x i=>simp only[POp.exec]at h ⊢; exact mp _ _ _ (fun _ h=>yR8 o h) h
 |idx x i=>simp only[POp.exec]at h ⊢; exact mp _ _ _ (fun _ h=>h) h
 |idxV l sz ag x i=>simp only[POp.exec]at h ⊢; exact mp _ _ _ (fun _ h=>h) h
 |len str x=>
  simp only[POp.exec]at h ⊢
  split at h
  ·rename_i N;rw[if_pos N];exact mp _ _ _ (fun _ h=>xL o h) h
  ·cases h
 |lenA n=>simp only[POp.exec,C3,Dk]at h ⊢; exact⟨h.1,by rw[h.2]⟩
 |app sz bytes s x=>simp[POp.cls]at hc
 |mm J x y=>
  simp only[POp.exec]at h ⊢
  split at h
  ·grind
  ·cases h
 |mm3 J x y z=>
  simp only[POp.exec]at h ⊢
  split at h
  ·grind
  ·cases h
 |rcall f args=>
  simp only[POp.exec]at h ⊢
  split at h
  ·exact mp _ _ _ (fun _ h=>yL4 o h) h
  ·cases h
 |icall f args=>simp[POp.cls]at hc
 |mcall f args=>simp[POp.cls]at hc
 |fail=>simp[POp.cls]at hc
 |mkmap sz=>simp[POp.cls]at hc
 |mapup sz ks m k v=>simp[POp.cls]at hc
 |cpy sz d s=>simp[POp.cls]at hc
 |mapget sz ks ok zero m k=>simp only[POp.exec]at h ⊢; exact mp _ _ _ (fun _ h=>yIh o h) h
 |callv x args=>simp[POp.cls]at hc
 |mkclo f args=>simp only[POp.exec,C3,Dk]at h ⊢; exact⟨h.1,by rw[h.2]⟩
 |call f args=>
  simp only[POp.exec]at h ⊢
  split at h
  ·rename_i sp vs M E;simp only[M,Z0 o E]
   split at h
   ·rename_i r O;simp only[C3,Dk]at h ⊢;refine⟨h.1,?_⟩;rw[← h.2]
    split
    ·rfl
    ·rw[Z6 _ _ (fH E)]
   ·cases h
  ·cases h
 |ext x i=>
  simp only[POp.exec]at h ⊢
  split at h
  ·simp_all
  ·cases h
theorem xu{p:POp}(E:p.push=true)(h:p.exec T ρ st=some (d,st')):∃ o,∀ st1:St,st1.length=st.length→p.exec T ρ st1=some (d,st1++[o]):=by
 cases p with
 |box x=>
  simp only[POp.exec]at h ⊢
  split at h
  ·rename_i hc;simp only[C3,Dk]at h;exact⟨_,fun st1 hl=>by rw[if_pos hc,hl,h.1]⟩
  ·cases h
 |mkslc sz bytes zero l c=>
  simp only[POp.exec]at h ⊢
  split at h
  ·split at h
   ·rename_i hc;simp only[C3,Dk]at h;exact⟨_,fun st1 hl=>by rw[if_pos hc,hl,h.1]⟩
   ·cases h
  ·cases h
 |_=>simp[POp.push]at E
variable {dst:Option Nat}{fr:Frame}{G:Db}
theorem lA{E:PA}(h:∀ t,dst=some t→t∉E.slot):Dh G (fr.put dst d) E=Dh G fr E:=by
 cases E with
 |s n=>
  cases dst with
  |none=>rfl
  |some t=>
   have:n≠t:=fun e=>h t rfl (by simp[PA.slot,e]);simp[Dh,Frame.put,Frame.set,this]
 |_=>rfl
theorem LU{i:PI}(h:∀ t,dst=some t→t∉i.reads):i.op.exec T (Dh G (fr.put dst d)) st=i.op.exec T (Dh G fr) st:=by
 refine zf i.op fun x I=>lA fun t E hm=>h t E ?_;simp only[PI.reads,AK,Bj];grind
theorem SJ{i:PI}(h:∀ t,dst=some t→t∉i.reads):i.wanted (fr.put dst d)=i.wanted fr:=by
 unfold PI.wanted
 cases E:i.guard with
 |none=>rfl
 |some q=>
  obtain⟨s,want⟩:=q
  cases dst with
  |none=>rfl
  |some t=>
   have:s≠t:=fun e=>h t rfl (by simp[PI.reads,E,GR,e]);simp[Frame.put,Frame.set,this]
def PI.step(G:Db)(T:Tbl)(i:PI)(s:PS):Option (D×St):=
 match i.wanted s.fr with
 |none=>none
 |some false=>some (.tup [],s.st)
 |some true=>i.op.exec T (Dh G s.fr) s.st
theorem PI.exec_eq(i:PI)(s:PS):i.exec G T s=(i.step G T s).map fun r=>{fr:=s.fr.put i.dst r.1,st:=r.2}:=by
 unfold PI.exec PI.step;grind
theorem oZ{x y:PI}(h:x.apart y=true):(∀ t,x.dst=some t→t∉y.reads)∧(∀ t,x.dst=some t→y.dst≠some t)∧(∀ t,y.dst=some t→t∉x.reads)∧(x.op.cls=0∨y.op.cls=0∨(x.op.cls≤2∧y.op.cls≤2)∨(x.op.cls≤2∧y.op.push=true)):=by
 simp only[PI.apart,Af,A8,beq_iff_eq,decide_eq_true_eq]at h;grind
theorem fW{x y:PI}{s s1 s2:PS}(h:x.apart y=true)(J:x.exec G T s=some s1)(E:y.exec G T s1=some s2):∃ V,y.exec G T s=some V∧x.exec G T V=some s2:=by
 obtain⟨a1,a2,a3,a4⟩:=oZ h;rw[PI.exec_eq]at J E;simp only[Dv]at J E;obtain⟨⟨dx,stx⟩,J,rfl⟩:=J;obtain⟨⟨dy,Y⟩,E,rfl⟩:=E;simp only at E;have a0:y.wanted (s.fr.put x.dst dx)=y.wanted s.fr:=SJ a1
 have key:∀ O,y.step G T s=some (dy,O)→(∀ d,x.step G T {fr:=s.fr.put y.dst d,st:=O}=some (dx,Y))→∃ V,y.exec G T s=some V∧x.exec G T V=some {fr:=(s.fr.put x.dst dx).put y.dst dy,st:=Y}:=by
  intro O h1 U;refine⟨{fr:=s.fr.put y.dst dy,st:=O},by rw[PI.exec_eq,h1]; rfl,?_⟩;rw[PI.exec_eq,U dy];simp only[Ah];rw[VX s.fr dx dy a2]
 unfold PI.step at J E;simp only[a0]at E;have N:∀ d,x.wanted (s.fr.put y.dst d)=x.wanted s.fr:=fun d=>SJ a3
 -- by a6 of ba two is carried out
 cases M:x.wanted s.fr with
 |none=>simp[M]at J
 |some bx=>
  cases I:y.wanted s.fr with
  |none=>simp[I]at E
  |some af=>
   cases bx with
   |false=>
    simp only[M,C3,Dk]at J;obtain⟨rfl,rfl⟩:=J
    cases af with
    |false=>
     simp only[I,C3,Dk]at E;obtain⟨rfl,rfl⟩:=E;exact key s.st (by simp[PI.step,I]) (fun d=>by simp[PI.step,N,M])
    |true=>
     simp only[I]at E;rw[LU a1]at E;exact key Y (by simp[PI.step,I,E]) (fun d=>by simp[PI.step,N,M])
   |true=>
    simp only[M]at J
    cases af with
    |false=>
     simp only[I,C3,Dk]at E;obtain⟨rfl,rfl⟩:=E;exact key s.st (by simp[PI.step,I]) (fun d=>by simp only[PI.step,N,M]; rw[LU a3]; exact J)
    |true=>
     simp only[I]at E;rw[LU a1]at E;rcases a4 with c | c | ⟨c1,c2⟩ | ⟨c1,c2⟩
     ·obtain⟨rfl,U⟩:=fE x.op c J;exact key Y (by simp[PI.step,I,E]) (fun d=>by simp only[PI.step,N,M]; rw[LU a3]; exact U _)
     ·obtain⟨rfl,U⟩:=fE y.op c E;exact key s.st (by simp only[PI.step,I]; exact U _) (fun d=>by simp only[PI.step,N,M]; rw[LU a3]; exact J)
     ·obtain⟨ks,rfl⟩:=Wm x.op c1 J;rw[fD y.op c2]at E;simp only[Dv,Dk,Prod.exists]at E;obtain⟨bb,st',h1,rfl,rfl⟩:=E;obtain⟨qs,rfl⟩:=Wm y.op c2 h1;refine key _ (by simp only[PI.step,I]; exact h1) (fun d=>?_);simp only[PI.step,N,M];rw[LU a3,fD x.op c1,J];simp only[Ah];rw[Z5]
     ·obtain⟨ks,rfl⟩:=Wm x.op c1 J;obtain⟨o,ho⟩:=xu c2 E;have h1:=ho s.st (by rw[Oj]);have U:=ho (lend ks s.st) rfl;rw[E]at U;simp only[C3,Dk,true_and]at U;refine key _ (by simp only[PI.step,I]; exact h1) (fun d=>?_);simp only[PI.step,N,M];rw[LU a3,Yaf x.op c1 J,U]
end Go.Proofs.YtijnglngaogdjaaGreatDoor.PI
