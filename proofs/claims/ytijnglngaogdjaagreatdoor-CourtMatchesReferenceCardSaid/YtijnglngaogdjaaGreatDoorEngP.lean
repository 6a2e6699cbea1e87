/-
  Which pure operations may change places, and that they then come to the same.
  Conditions: none; these are definitions and lemmas.
-/
import Derived.Test.YtijnglngaogdjaaGreatDoorEngK
import Derived.ChangeKeysEq
import Derived.MapKept
import Derived.Laws.CopyRow
import Derived.Laws.IdiomCopy
import Derived.DefersIn
open Bool renaming false→f_,true→t_
open Option renaming some→s_
open ByteArray renaming size→Da
open List renaming range→C3,replicate→CZ
set_option maxHeartbeats 8000000
set_option maxRecDepth 20000
set_option linter.unusedSimpArgs false
set_option linter.unusedVariables false
namespace Go.Proofs.YtijnglngaogdjaaGreatDoor.PI
open Go Go.RowKit
variable {els:List D}{sz:Nat}{v:Value}{x:D}{e:TypeId}
section
variable {P:Program} {base:Nat} {w:World} {g:Ghost} {st:St}
theorem Els.cast{E:Nat}(h:Els w g st v sz els)(e:sz=E∨els=[]):Els w g st v E els:=by
 rcases e with rfl|rfl
 ·exact h
 ·obtain⟨⟨a,cap,M,_⟩,_,_⟩:=h;exact⟨⟨a,cap,M,fun h=>absurd rfl h⟩,fun i j d N=>by simp[Gl]at N,fun e he=>by cases he⟩
theorem m5(M:SR base w g st)(h:Hx st x=s_ (sz,els))(E:RepV w g st x v):Els w g st v sz els∨∃ s,x=.str s∧sz=1∧els=s.map Dr:=by
 unfold Hx at h
 split at h
 ·simp only[Dp,DO]at h;obtain⟨rfl,rfl⟩:=h;exact .inl (Vg E)
 ·exact .inl (jF M h E).1
 ·rename_i key off n ab ag
  split at h
  ·rename_i aa he
   split at h
   ·rename_i N;simp only[Dp,DO]at h;obtain⟨rfl,rfl⟩:=h;exact .inl (Yqx M he E (Ah.1 N)).1
   ·cases h
  ·cases h
 ·grind
 ·cases h
theorem YCf(hS:SR base w g st){E:Nat}(h:Hx st x=s_ (E,els))(N:RepV w g st x v)(M:E=sz∨els=[]) :
  ∃ ns,News w g st P v sz els ns:=by
 rcases m5 hS h N with h1|⟨s,rfl,rfl,rfl⟩
 ·exact oA (h1.cast M)
 ·obtain rfl:=MY N;rcases M with rfl|hs
  ·exact yYt s
  ·simp at hs; subst hs;have e:Da ⟨([]:List UInt8).toArray⟩=0:=rfl;exact⟨[],by simp,by simp,fun i j d hd=>by simp[Gl]at hd,⟨by simp[Builtin.lenOf,e],by simp[Builtin.lenOf,e]⟩,⟨by simp[Builtin.firstCells],by simp[Builtin.firstCells]⟩⟩
theorem Ygu(N:SR base w g st)(h:Hx st x=s_ (sz,els))(hr:RepV w g st x v):(∀ e∈els,e.cells.length=sz)∧∀ i j d,Gl els i j=s_ d→d.pure1=t_:=by
 rcases m5 N h hr with M|⟨s,rfl,rfl,rfl⟩
 ·exact⟨M.len,M.pure⟩
 ·refine⟨fun e he=>?_,fun i j d hd=>?_⟩
  ·simp only[A1]at he;obtain⟨b,_,rfl⟩:=he;rfl
  ·obtain⟨e,he,E⟩:=IF hd;simp only[AK,D0]at he;obtain⟨b,_,rfl⟩:=he
   cases j with
   |zero=>simp[Dr,D.cells]at E; subst E; rfl
   |succ j=>simp[Dr,D.cells]at E
theorem iP(w:World)(o:Go.Obj):(w.drew.alloc o).heap[w.heap.size]?=s_ o:=by
 show(w.heap.push o)[w.heap.size]?=_
 simp
theorem uP{E:List D}{os ns zs:List Value}(ae:os.length=E.length*sz)
  (N:∀ (i j:Nat) d,Gl E i j=s_ d→∃ u,os[i*sz+j]?=s_ u∧RepV w g st d u) (hn:∀ (i j:Nat) d,Gl els i j=s_ d→∃ u,ns[i*sz+j]?=s_ u∧RepV w g st d u) (af:ns.length=els.length*sz) :
  ∀ (i j:Nat) d,Gl (E++els) i j=s_ d→∃ u,(os++ns++zs)[i*sz+j]?=s_ u∧RepV w g st d u:=by
 intro i j d hd;obtain⟨e,he,M⟩:=IF hd
 by_cases h1:i<E.length
 ·rw[Av h1]at he;obtain⟨u,h2,h3⟩:=N i j d (Ig he M);grind
 ·rw[AJ (by omega)]at he;obtain⟨u,h2,h3⟩:=hn (i - E.length) j d (Ig he M);have h5:i*sz=E.length*sz+(i - E.length)*sz:=by rw[← A6]; congr 1; omega
  grind
theorem Yt2(hS:SR base w g st){t tx ty:TypeId}{i:TypeInfo}{z:Value}{bytes:Nat}{s d:D}{vs vx:Value}{st':St}(ht:P.underlying t=s_ (.slice e))(bb:(∃ e',P.underlying tx=s_ (.slice e'))∨P.underlying tx=s_ .string)
  (hi:P.info? e=s_ i) (hz:i.zero=s_ z) (db:i.size=sz) (dc:i.bytes=bytes) (cf:z.cells.size=sz) (h:Eg st sz bytes s x=s_ (d,st')) (a0:RepV w g st s vs) (cg:RepV w g st x vx) :
  RunsTo P base w g st (Builtin.append_ #[t,tx] ty #[vs,vx]) d st':=by
 subst db; subst dc;unfold Eg at h
 split at h
 ·cases h
 rename_i dd xs hx
 split at h
 ·cases h
 rename_i hc;simp only[Bh,AU,Bool.or_eq_false_iff,beq_eq_false_iff_ne,List.isEmpty_eq_false_iff,beq_iff_eq,not_or,not_and,ne_eq]at hc;have h0:0<i.size:=by omega
 have dg:dd=i.size∨xs=[]:=by
  grind
 obtain⟨ns,hN⟩:=YCf (P:=P) hS hx cg dg;obtain⟨kh,ch⟩:=Ygu hS hx cg
 have kb:∀ e∈xs,e.cells.length=i.size:=by
  grind
 split at h
 ·
  rename_i key tot off len
  split at h
  case h_2=>cases h
  rename_i o ho
  split at h
  case isFalse=>cases h
  rename_i ac;simp only[Ad,beq_iff_eq,decide_eq_true_eq]at ac;obtain⟨⟨⟨⟨⟨⟨aa,a1⟩,bg⟩,rfl⟩,hlen⟩,af⟩,c1⟩:=ac;simp only[Dp,DO]at h;obtain⟨rfl,rfl⟩:=h;obtain⟨E,h1,h2,h3,rfl,h5⟩:=Vr (by simp[Fo,ho,aa,bg]) a0;obtain rfl:E=o:=AE (h1.symm.trans ho);subst hlen;subst bg;obtain⟨C,e',hb,hh,kc,d2,hC,bh⟩:=hS.blk key E ho (ND aa);rw[aa]at hC;simp only[if_true]at hC;rw[Ck,Nat.sub_zero];have d3:key<st.length:=(Ab.1 ho).1
  have ca:∀ (C':Array Value),(∀ (M j:Nat) d,Gl (E.els++xs) M j=s_ d→∃ u,C'[M*E.sz+j]?=s_ u∧RepV w g st d u)→
    ∀ (M j:Nat) d,Gl (E.els++xs) M j=s_ d→(E.row=t_→d.pure1=t_)∧∃ u,C'[M*E.sz+j]?=s_ u∧RepV w g st d u:=by
   intro C' d4 M j d N;refine⟨fun _=>?_,d4 M j d N⟩
   by_cases h6:M<E.els.length
   ·rw[iQ h6]at N;grind
   ·obtain⟨e1,ad,a8⟩:=IF N;rw[AJ (by omega)]at ad;exact ch _ _ _ (Ig ad a8)
  have c3:∀ y∈E.els++xs,y.cells.length=E.sz:=by
   grind
  have b1:∀ (B c:Nat) (w':World) (C':Array Value) (c0:TypeId),((B=g.β key∧c=g.γ key)∨(w.heap.size≤B∧E.els.length<(E.els++xs).length∧E.row=t_))→Beside w w'→(∀ b,b<w.heap.size→b≠B→w'.heap[b]?=w.heap[b]?)→
    w'.heap[B]?=s_ (.cells C' c0 (0,0))→(B=g.β key→∀ y,g.Im (g.β key) y→C'[y]?=C[y]?)→C'.size=c*E.sz→(E.els++xs).length≤c→c≤maxLen→
    (∀ (M j:Nat) d,Gl (E.els++xs) M j=s_ d→∃ u,C'[M*E.sz+j]?=s_ u∧RepV w g st d u)→
    (Builtin.append_ #[t,tx] ty #[.slice (s_ ⟨g.β key,0,none⟩) E.els.length (g.γ key),vx]).run P w=.ok (.slice (s_ ⟨B,0,none⟩) (E.els.length+xs.length) c) w'→
    RunsTo P base w g st (Builtin.append_ #[t,tx] ty #[.slice (s_ ⟨g.β key,0,none⟩) E.els.length (g.γ key),vx]) (.row key (E.els.length+xs.length) 0 (E.els.length+xs.length)) (st.set key {E with els:=E.els++xs}):=by
   intro B c w' C' c0 hB c4 cb c5 d5 cc ae d6 cd c6;have b2:=SR.update (o':={E with els:=E.els++xs}) hS ho (ND aa) hb hB rfl rfl (by simp) rfl c3 c4 cb c5 d5 (by rw[aa]; simp only[if_true]; exact⟨cc,ae,d6⟩) (ca C' cd);refine⟨_,_,_,c6,b2,?_⟩;refine .row _ _ _ _ {E with els:=E.els++xs} _ rfl (by simp[d3]) aa (by simp) fun _=>⟨?_,by omega⟩;simp[IE]
  by_cases a3:E.els.length+xs.length≤g.γ key
  ·have b3:E.els.length*i.size+ns.length≤C.size:=by
    rw[hN.len,hC.1,a1,← A6]; exact AT _ a3
   -- bc c7 type is bc c8 own,or it ke not d7: bc store looks at bc cells alone
   have d8:(Builtin.append_ #[t,tx] ty #[.slice (s_ ⟨g.β key,0,none⟩) E.els.length (g.γ key),vx]).run P w=.ok (.slice (s_ ⟨g.β key,0,none⟩) (E.els.length+xs.length) (g.γ key)) (w.setRow (g.β key) (C.toList.take (E.els.length*i.size)++ns++C.toList.drop (E.els.length*i.size+ns.length)).toArray):=
    Yxn ht bb hi hb hN a3 b3
   refine b1 (g.β key) (g.γ key) _ _ e' (.inl ⟨rfl,rfl⟩) (UB w _ _) (fun b _ b4=>setRow_other w _ _ _ (by omega)) (setRow_heap w _ C _ e' _ hb) ?_ ?_ (by simpa using a3) hC.2.2 ?_ d8
   ·intro _ y hy;have:=(hS.dis key E y ho hy).2;grind
   ·grind
   ·intro M j d N;rw[Uy b3,hN.len,a1];obtain⟨e1,ad,a8⟩:=IF N
    have hj:j<i.size:=by
     grind
    by_cases h6:M<E.els.length
    ·rw[iQ h6]at N;have:(M+1)*i.size≤E.els.length*i.size:=AT _ h6;grind
    ·rw[AJ (by omega)]at ad;have h7:M - E.els.length<xs.length:=(Ab.1 ad).1;have h8:M*i.size=E.els.length*i.size+(M - E.els.length)*i.size:=by rw[← A6]; congr 1; omega
     have h9:(M - E.els.length+1)*i.size≤xs.length*i.size:=AT _ h7;rw[A6,Bz]at h9;rw[if_pos (by omega),show M*i.size+j - E.els.length*i.size=(M - E.els.length)*i.size+j by omega];exact hN.rep _ _ _ (Ig ad a8)
  ·have hE:Els w g st (.slice (s_ ⟨g.β key,0,none⟩) E.els.length (g.γ key)) i.size E.els:=by
    refine⟨⟨_,_,rfl,fun _=>⟨_,_,rfl,h0,?_⟩⟩,fun M j d N=>(bh M j d N).1 aa,fun y hy=>by rw[← a1]; exact d2 y hy⟩;intro M j d N;obtain⟨hp,u,h6,h7⟩:=bh M j d N;refine⟨u,?_,h7,h7.oneCell (Rq (hp aa))⟩;simp only[World.cell?,hb];grind
   obtain⟨os,hO⟩:=oA (P:=P) hE;have a5:=Yd4 (ty:=ty) ht bb hi hz hN hO rfl (by omega) (by omega) (uO (by omega) af);have b6:=grownCap_ge w (E.els.length+xs.length) (g.γ key) e;refine b1 w.heap.size _ (w.drew.alloc (.cells (os.toArray++ns.toArray++Builtin.zeroCells z.cells (grownCap w (E.els.length+xs.length) (g.γ key) e - (E.els.length+xs.length))) e)) _ e (.inr ⟨AF _,by simp; omega,aa⟩) ⟨rfl,rfl,rfl,by simp⟩ ?_ (iP w _) (fun e1=>by have:=hS.lt ho; omega) ?_ (by simpa using b6) (grownCap_le_maxLen w _ _ e (by unfold maxLen; omega)) ?_ a5
   ·intro b b7 _; exact Q8 w _ b b7
   ·simp only[Array.size_append,CL,hO.len,hN.len,size_zeroCells,cf,a1];rw[← A6,← A6]
    congr 1
    omega
   ·intro M j d N;have:=uP (zs:=(Builtin.zeroCells z.cells (grownCap w (E.els.length+xs.length) (g.γ key) e - (E.els.length+xs.length))).toList) hO.len hO.rep hN.rep hN.len M j d N;grind
 ·
  rename_i k0 els
  split at h
  ·rename_i he;simp only[BQ]at he;subst he;simp only[Dp,DO]at h;obtain⟨rfl,rfl⟩:=h;refine .still hS ?_ a0;obtain⟨⟨a,cap,rfl,_⟩,_,_⟩:=Vg a0
   have ae:els.length≤cap:=by
    cases a0 with
    |slcE=>simp
    |slc _ _ b off cap _ val h1 h2 h3 d9 h4=>exact h4
   have hf:ns=[]:=AQ (by simpa using hN.len);have h1:=hN.lenOf.1;have h2:=hN.first.1
   subst hf;simp only[Ar]at h1 h2;rcases bb with⟨e',N⟩|N
   ·cases a <;> simp[Builtin.append_,run_underlying ht,sizeOf,typeInfo,hi,run_underlying N,h1,ae,h2,storeCells]
   ·cases a <;> simp[Builtin.append_,run_underlying ht,sizeOf,typeInfo,hi,run_underlying N,h1,ae,h2,storeCells]
  ·rename_i b4;simp only[BQ]at b4;have ka:0<xs.length:=Cz.2 b4
   split at h
   case isFalse=>cases h
   rename_i ac;simp only[Ad,decide_eq_true_eq,Bh,beq_iff_eq,BQ]at ac;obtain⟨⟨hg,af⟩,c1⟩:=ac;simp only[Dp,DO]at h;obtain⟨rfl,rfl⟩:=h;have hE:=(Vg a0).cast hg;obtain⟨os,hO⟩:=oA (P:=P) hE;obtain⟨⟨a,cap,rfl,_⟩,k1,k2⟩:=hE
   have ae:cap=els.length:=by
    cases a0 with
    |slcE _ _ _ _ h1=>exact h1 rfl
    |slc _ _ b off cap _ val h1 h2 h3 d9 h4 h5=>exact h5 rfl
   subst ae;have a5:=Yd4 (ty:=ty) ht bb hi hz hN hO rfl (by omega) (by omega) (uO (by omega) af);have b6:=grownCap_ge w (els.length+xs.length) els.length e
   have b2:=SR.push (o:={row:=t_,sz:=i.size,els:=els++xs,lent:=f_}) (c:=grownCap w (els.length+xs.length) els.length e) (w':=w.drew.alloc (.cells (os.toArray++ns.toArray++Builtin.zeroCells z.cells (grownCap w (els.length+xs.length) els.length e - (els.length+xs.length))) e)) hS
    ⟨rfl,rfl,rfl,by simp⟩ (fun b b7=>Q8 w _ b b7) (iP w _) rfl h0 (by
     intro y hy;rcases AM.1 hy with hy|hy
     ·grind
     ·grind) (by
     simp only[if_true,Ac];refine⟨?_,b6,grownCap_le_maxLen w _ _ e (by unfold maxLen; omega)⟩;simp only[Array.size_append,CL,hO.len,hN.len,size_zeroCells,cf];rw[← A6,← A6]
     congr 1
     omega) (by
     intro M j d N;refine⟨fun _=>?_,?_⟩
     ·by_cases h6:M<els.length
      ·rw[iQ h6]at N;grind
      ·obtain⟨e1,ad,a8⟩:=IF N;rw[AJ (by omega)]at ad;exact ch _ _ _ (Ig ad a8)
     ·obtain⟨u,h6,h7⟩:=uP (zs:=(Builtin.zeroCells z.cells (grownCap w (els.length+xs.length) els.length e - (els.length+xs.length))).toList) hO.len hO.rep hN.rep hN.len M j d N;grind)
   refine⟨_,_,_,a5,b2,?_⟩;refine .row _ _ _ _ {row:=t_,sz:=i.size,els:=els++xs,lent:=f_} _ rfl (by simp) rfl (by simp) fun _=>⟨?_,by omega⟩;simp[IE]
 ·cases h
theorem Yqn(hS:SR base w g st){E dst:TypeId}{s:List UInt8}(hs:P.underlying E=s_ .string)(hd:P.underlying dst=s_ (.slice e))(he:P.underlying e=s_ (.int .u8)) :
  RunsTo P base w g st (convert E dst (.string ⟨s.toArray⟩)) (.slc 1 (s.map Dr) f_) st:=by
 have M:=run_bytes_of_string (P:=P) w E dst e ⟨s.toArray⟩ hs hd he;have ac:Da ⟨s.toArray⟩=s.length:=by simp[Da]
 have N:=grownCap_ge w (Da ⟨s.toArray⟩) 0 e;generalize hC:bytesRow ⟨s.toArray⟩ (grownCap w (Da ⟨s.toArray⟩) 0 e)=C at M;have ad:=hS.fresh (w':=w.drew.alloc (.cells C e (C.size,C.size+1))) (C:=C) (e:=e) (fz:=(C.size,C.size+1)) rfl ⟨rfl,rfl,rfl,by simp⟩;refine⟨_,_,_,M,ad,?_⟩;rw[ac]at N ⊢;have hl:s.length=(s.map Dr).length:=by simp
 conv=>rhs; rw[hl]
 refine RepV.slc_mk Nat.one_pos (fun x hx=>by simp only[A1]at hx; obtain⟨b,_,rfl⟩:=hx; rfl) (by simpa using N) (fun h=>by cases h) ?_;intro i j d ae;obtain⟨x,hx,ab⟩:=IF ae;simp only[AK,D0]at hx;obtain⟨b,hb,rfl⟩:=hx
 cases j with
 |succ j=>simp[Dr,D.cells]at ab
 |zero=>
  simp only[Dr,D.cells,AG,Dp]at ab;subst ab;have hi:i<s.length:=(Ab.1 hb).1
  have af:C[i]?=s_ (.int .u8 b.toNat):=by
   rw[← hC];unfold bytesRow;grind
  have a5:i<C.size:=(AH.1 af).1;refine⟨rfl,.inr ⟨rfl,by omega⟩,.int .u8 b.toNat,?_,.int _ _⟩;have h2:(w.drew.alloc (.cells C e (C.size,C.size+1))).heap[w.heap.size]?=s_ (.cells C e (C.size,C.size+1)):=iP w _;simp only[World.cell?,h2];grind
end
end Go.Proofs.YtijnglngaogdjaaGreatDoor.PI
namespace Go.Proofs.YtijnglngaogdjaaGreatDoor.PI
open Go Go.RowKit
def UM(lf:TypeId→Option (List Nat))(P:Program):List Field→Nat→Option (List Nat)
 |[],_=>s_ []
 |f::fs,off=>
  match lf f.type,ES P f.type with
  |some l,s_ _=>
   if f.name≠ "_"∧f.offset=off∧EL P f.type=s_ l.length∧0<l.length then(UM lf P fs (off+l.length)).map (l++·)else none
  |_,_=>none
def JZ(P:Program):Nat→TypeId→Option (List Nat)
 |0,_=>none
 |d+1,t=>
  match P.underlying t with
  |some (.int _)=>s_ [0]
  |some .bool=>s_ [1]
  |some .string=>s_ [2]
  |some (.array n e)=>
   match JZ P d e with
   |some l=>if EL P e=s_ l.length∧0<l.length then s_ (CZ n l).flatten else none
   |none=>none
  |some (.struct fs)=>if P.stoodInHeld t then none else UM (JZ P d) P fs.toList 0
  |_=>none
variable {off:Nat}{t:TypeId}{ks:List Nat}
section
variable {P:Program} {w:World} {g:Ghost} {st:St}
def OG(ag:Bool)(vs:List Value):Value:=if ag then .agg vs.toArray else vs.headD undef
theorem Ry:∀ {ks:List Nat} {xs ys:List D} {b:Bool},Fl ks xs ys=s_ b→xs.length=ks.length∧ys.length=ks.length
 |[],[],[],_,_=>⟨rfl,rfl⟩
 |q::qs,x::xs,y::ys,b,h=>by
  simp only[Fl]at h
  split at h
  ·rename_i a b' M E;have:=Ry E;simp[this]
  ·cases h
 |[],[],_::_,_,h=>by simp[Fl]at h
 |[],_::_,_,_,h=>by simp[Fl]at h
 |_::_,[],_,_,h=>by simp[Fl]at h
 |_::_,_::_,[],_,h=>by simp[Fl]at h
theorem iO:∀ {E M:List Nat} {xs ys:List D} {b:Bool},Fl (E++M) xs ys=s_ b→
  ∃ b1 N,Fl E (xs.take E.length) (ys.take E.length)=s_ b1∧Fl M (xs.drop E.length) (ys.drop E.length)=s_ N∧b=(b1 && N)
 |[],M,xs,ys,b,h=>⟨t_,b,by simp[Fl],by simpa using h,by simp⟩
 |q::E,M,x::xs,y::ys,b,h=>by
  simp only[Ag,Fl]at h
  split at h
  ·rename_i a b' h1 h2;simp only[Dp]at h;obtain⟨b1,N,h3,h4,h5⟩:=iO h2;refine⟨a && b1,N,by simp[Fl,h1,h3],by simpa using h4,by rw[← h,h5,Bool.and_assoc]⟩
  ·cases h
 |_::_,_,[],_,_,h=>by simp[Fl]at h
 |_::_,_,_::_,[],_,h=>by simp[Fl]at h
def iA(P:Program)(dd:Nat)(t:TypeId)(ks:List Nat):Prop:=
 ∀ (w:World) (g:Ghost) (st:St) (ag:Bool) (xs ys:List D) (vs us:List Value) (b:Bool),ES P t=s_ ag→Fl ks xs ys=s_ b→xs.length=vs.length→ys.length=us.length→
  (∀ (i:Nat) d v,xs[i]?=s_ d→vs[i]?=s_ v→RepV w g st d v)→(∀ (i:Nat) d v,ys[i]?=s_ d→us[i]?=s_ v→RepV w g st d v)→
  (Op.equalIn dd t (OG ag vs) (OG ag us)).run P w=.ok b w
theorem Vv{n:Nat}{ag:Bool}{vs:List Value}(E:ES P t=s_ ag)(hn:EL P t=s_ n)(M:ag=f_→n=1)(aa:off+n≤vs.length) :
  (part t vs.toArray off).run P w=.ok (OG ag ((vs.drop off).take n)) w:=by
 cases ag with
 |true=>
  simp[part,SC E,Mp hn,OG]
 |false=>
  obtain rfl:=M rfl;have N:off<vs.length:=by omega
  simp[part,SC E,N,OG,List.take_one,List.head?_drop]
theorem vg{d:Nat}(h:JZ P d t=s_ ks)(E:ES P t=s_ f_):ks.length=1:=by
 cases d with
 |zero=>cases h
 |succ d=>
  unfold JZ at h;unfold ES at E;grind
theorem P6{α:Type}{l:List α}{n i:Nat}{x:α}(h:((l.drop off).take n)[i]?=s_ x):l[off+i]?=s_ x:=by grind
theorem yp(d dd:Nat)(M:∀ t ks,JZ P d t=s_ ks→iA P dd t ks):∀ (fs:List Field) (off:Nat) (ks:List Nat) (w:World) (g:Ghost) (st:St) (xs ys:List D) (vs us:List Value) (b:Bool),
  UM (JZ P d) P fs off=s_ ks→Fl ks (xs.drop off) (ys.drop off)=s_ b→xs.length=vs.length→ys.length=us.length→
  (∀ (i:Nat) d v,xs[i]?=s_ d→vs[i]?=s_ v→RepV w g st d v)→(∀ (i:Nat) d v,ys[i]?=s_ d→us[i]?=s_ v→RepV w g st d v)→
  (Op.eqFields dd vs.toArray us.toArray fs).run P w=.ok b w
 |[],off,ks,w,g,st,xs,ys,vs,us,b,h,he,hx,hy,rx,ry=>by
  simp[UM]at h; subst h;have:=Ry he
  match ab:xs.drop off,ac:ys.drop off with
  |[],[]=>rw[ab,ac]at he; simp[Fl]at he; subst he; simp[Op.eqFields]
  |_::_,_=>rw[ab]at this; simp at this
  |[],_::_=>rw[ac]at this; simp at this
 |f::fs,off,ks,w,g,st,xs,ys,vs,us,b,h,he,hx,hy,rx,ry=>by
  unfold UM at h
  split at h
  ·rename_i l ag hl E
   split at h
   ·rename_i hc;obtain⟨aa,a1,ad,a6⟩:=hc;simp only[D0]at h;obtain⟨a3,a4,rfl⟩:=h;obtain⟨b1,b2,h1,h2,rfl⟩:=iO he;have hlen:=Ry he;simp only[AW,Ac]at hlen;rw[Bx,Bx]at h2;have N:ag=f_→l.length=1:=fun e=>vg hl (by rw[E,e]);have p1:=Vv (P:=P) (w:=w) (off:=off) E ad N (vs:=vs) (by omega);have p2:=Vv (P:=P) (w:=w) (off:=off) E ad N (vs:=us) (by omega)
    have e1:=M f.type l hl w g st ag _ _ ((vs.drop off).take l.length) ((us.drop off).take l.length) b1 E h1 (by simp[hx]) (by simp[hy])
     (fun i d v hd hv=>rx _ d v (P6 hd) (P6 hv)) (fun i d v hd hv=>ry _ d v (P6 hd) (P6 hv))
    have ih:=yp d dd M fs (off+l.length) a3 w g st xs ys vs us b2 a4 h2 hx hy rx ry;simp only[Op.eqFields,aa,ne_eq,not_false_eq_true,if_true,Sem.run_bind,a1,p1,p2,e1,Result.andThen_ok];cases b1
    ·simp
    ·grind
   ·cases h
  ·cases h
theorem ywm(n:Nat)(l:List Nat):(CZ (n+1) l).flatten=l++(CZ n l).flatten:=by rfl
theorem xQ(dd:Nat){e:TypeId}{l:List Nat}{ag:Bool}(N:iA P dd e l)(M:ES P e=s_ ag)(aa:EL P e=s_ l.length)(ae:0<l.length)(E:ag=f_→l.length=1):∀ (n k:Nat) (w:World) (g:Ghost) (st:St) (xs ys:List D) (vs us:List Value) (b:Bool),
  Fl (CZ n l).flatten (xs.drop (k*l.length)) (ys.drop (k*l.length))=s_ b→xs.length=vs.length→ys.length=us.length→
  (∀ (i:Nat) d v,xs[i]?=s_ d→vs[i]?=s_ v→RepV w g st d v)→(∀ (i:Nat) d v,ys[i]?=s_ d→us[i]?=s_ v→RepV w g st d v)→
  (Op.eqItems dd e l.length vs.toArray us.toArray (List.range' k n)).run P w=.ok b w
 |0,k,w,g,st,xs,ys,vs,us,b,he,hx,hy,rx,ry=>by
  simp only[CA,List.flatten_nil]at he;have:=Ry he
  match ab:xs.drop (k*l.length),ac:ys.drop (k*l.length)with
  |[],[]=>rw[ab,ac]at he; simp[Fl]at he; subst he; simp[Op.eqItems]
  |_::_,_=>rw[ab]at this; simp at this
  |[],_::_=>rw[ac]at this; simp at this
 |n+1,k,w,g,st,xs,ys,vs,us,b,he,hx,hy,rx,ry=>by
  rw[ywm]at he;obtain⟨b1,b2,h1,h2,rfl⟩:=iO he;have hlen:=Ry he;simp only[AW,Ac]at hlen;rw[Bx,Bx]at h2;have p1:=Vv (P:=P) (w:=w) (off:=k*l.length) M aa E (vs:=vs) (by omega);have p2:=Vv (P:=P) (w:=w) (off:=k*l.length) M aa E (vs:=us) (by omega)
  have e1:=N w g st ag _ _ ((vs.drop (k*l.length)).take l.length) ((us.drop (k*l.length)).take l.length) b1 M h1 (by simp[hx]) (by simp[hy])
   (fun i d v hd hv=>rx _ d v (P6 hd) (P6 hv)) (fun i d v hd hv=>ry _ d v (P6 hd) (P6 hv))
  have ek:(k+1)*l.length=k*l.length+l.length:=by rw[A6,Bz]
  have ih:=xQ dd N M aa ae E n (k+1) w g st xs ys vs us b2 (by rw[ek]; exact h2) hx hy rx ry;simp only[B1,Op.eqItems,Sem.run_bind,p1,p2,e1,Result.andThen_ok];cases b1
  ·simp
  ·grind
theorem lA:∀ (d:Nat) (t:TypeId) (ks:List Nat),JZ P d t=s_ ks→∀ E,d≤E→iA P E t ks
 |0,_,_,h,_,_=>by cases h
 |d+1,t,ks,h,E,a6=>by
  intro w g st ag xs ys vs us b ha he hx hy rx ry;obtain⟨E,rfl⟩:∃ e,E=e+1:=⟨E - 1,by omega⟩;unfold JZ at h;unfold ES at ha;have ab:∀ t ks,JZ P d t=s_ ks→iA P E t ks:=fun t ks h=>lA d t ks h E (by omega)
  have single:∀ q,ks=[q]→∃ x y v u,xs=[x]∧ys=[y]∧vs=[v]∧us=[u]∧Jl q x y=s_ b∧RepV w g st x v∧RepV w g st y u:=by
   intro q hq;subst hq;have hl:=Ry he
   match xs,ys,vs,us,hx,hy,hl with
   |[x],[y],[v],[u],_,_,_=>
    simp only[Fl]at he
    split at he
    ·rename_i a b' M h2;simp only[Dp]at h2 he;subst h2; subst he;exact⟨x,y,v,u,rfl,rfl,rfl,rfl,by simpa using M,rx 0 x v rfl rfl,ry 0 y u rfl rfl⟩
    ·cases he
  cases hu:P.underlying t with
  |none=>simp[hu]at ha
  |some k=>
   cases k with
   |int k=>
    simp only[hu,Dp]at h ha;subst ha;obtain⟨x,y,v,u,rfl,rfl,rfl,rfl,M,r1,r2⟩:=single 0 h.symm;unfold Jl at M
    split at M <;> simp_all
    obtain rfl:=Jt r1;obtain rfl:=Jt r2;simp only[OG,Ao,if_false,List.headD_cons];rw[run_equalIn_int w E t _ k _ _ hu];simp_all
   |bool=>
    simp only[hu,Dp]at h ha;subst ha;obtain⟨x,y,v,u,rfl,rfl,rfl,rfl,M,r1,r2⟩:=single 1 h.symm;unfold Jl at M
    split at M <;> simp_all
    obtain rfl:=Mm r1;obtain rfl:=Mm r2;simp only[OG,Ao,if_false,List.headD_cons];rw[run_equalIn_bool w E t _ _ hu];simp_all
   |string=>
    simp only[hu,Dp]at h ha;subst ha;obtain⟨x,y,v,u,rfl,rfl,rfl,rfl,M,r1,r2⟩:=single 2 h.symm;unfold Jl at M
    split at M <;> simp_all
    obtain rfl:=MY r1;obtain rfl:=MY r2;simp only[OG,Ao,if_false,List.headD_cons];rw[run_equalIn_string w E t _ _ hu,nC,nC];simp_all
   |array n e=>
    simp only[hu,Dp]at h ha;subst ha
    split at h
    ·rename_i l hl
     split at h
     ·rename_i hc;simp only[Dp]at h; subst h;obtain⟨N,a0⟩:=hc
      have hi:∃ i,P.info? e=s_ i:=by
       unfold EL at N
       cases hi:P.info? e with
       |none=>simp[hi]at N
       |some i=>exact⟨i,rfl⟩
      obtain⟨i,hi⟩:=hi
      have ad:P.cellsOf e=l.length:=by
       unfold EL at N;unfold Program.cellsOf;grind
      have aa:∃ ag,ES P e=s_ ag:=by
       cases d with
       |zero=>cases hl
       |succ d=>
        unfold JZ at hl;unfold ES;grind
      obtain⟨ag,aa⟩:=aa;have a1:ag=f_→l.length=1:=fun e'=>vg hl (by rw[aa,e']);have:=xQ E (ab e l hl) aa N a0 a1 n 0 w g st xs ys vs us b (by simpa using he) hx hy rx ry;simp only[OG,if_true];rw[run_equalIn_array w E _ _ hu hi,ad,Bo];exact this
     ·cases h
    ·cases h
   |struct fs=>
    simp only[hu,Dp]at h ha;subst ha
    split at h
    ·cases h
    ·rename_i a3;have hf:P.fieldsOf t=fs:=by simp[Program.fieldsOf,hu]
     have:=yp d E ab fs.toList 0 ks w g st xs ys vs us b h (by simpa using he) hx hy rx ry;simp only[OG,if_true];rw[run_equalIn_struct w E t _ _ (by rw[hf]; exact hu) (by simpa using a3),hf];exact this
   |_=>simp[hu]at h
theorem Yt5{d:Nat}{E:Bool}{x y r:D}{vx vy:Value}(hl:JZ P d t=s_ ks)(M:d≤10000)(N:ES P t=s_ t_)(h:Hu ks E x y=s_ r)(hx:RepV w g st x vx)(hy:RepV w g st y vy) :
  (∃ v,(binOp (if E then .neq else .eql) t vx vy).run P w=.ok v w∧RepV w g st r v)∧∃ xs ys,vx=.agg xs∧vy=.agg ys:=by
 unfold Hu at h
 split at h
 ·rename_i xs ys;simp only[D0]at h;obtain⟨b,hb,rfl⟩:=h
  cases hx with
  |agg _ vs h1 h2=>
   cases hy with
   |agg _ us h3 h4=>
    refine⟨?_,_,_,rfl,rfl⟩;have e:(Op.equal t (.agg vs.toArray) (.agg us.toArray)).run P w=.ok b w:=lA d t ks hl 10000 M w g st t_ xs ys vs us b N hb h1 h3 h2 h4;refine⟨.bool (b != E),?_,.bool _⟩;cases E <;> simp[binOp,e]
 ·cases h
end
end Go.Proofs.YtijnglngaogdjaaGreatDoor.PI
namespace Go.Proofs.YtijnglngaogdjaaGreatDoor.PI
open Go Go.RowKit
def OB(P:Program)(kt:TypeId):Option (Nat×List Nat):=
 match P.underlying kt with
 |some (.int _)=>s_ (2,[0])
 |some .bool=>s_ (2,[1])
 |some .string=>s_ (2,[2])
 |some (.array n e)=>match P.underlying e,EL P e with
  |some (.int _),s_ 1=>if 2≤n then s_ (n+1,CZ n 0)else none
  |_,_=>none
 |_=>none
def RA(P:Program)(t:TypeId):Option (TypeId×TypeId×Nat×List Nat):=
 match P.underlying t with
 |some (.map kt et)=>match OB P kt,EL P et,ES P et with
  |some (sz,ks),s_ 1,s_ f_=>if sz=1000003 then none else s_ (kt,et,sz,ks)
  |_,_,_=>none
 |_=>none
variable {ks:List Nat}{sz:Nat}{et kt t:TypeId}
theorem vq{P:Program}(h:RA P t=s_ (kt,et,sz,ks)):P.underlying t=s_ (.map kt et)∧OB P kt=s_ (sz,ks)∧sz≠1000003∧EL P et=s_ 1∧ES P et=s_ f_:=by unfold RA at h;grind
variable {d k m r x y zd:D}{key q:Nat}{b ok:Bool}{v vd vk vm vs vx vy:Value}{kk:IntKind}{dT e elem sT ty:TypeId}{es:List MapEntry}{els:List D}{st':St}
section
variable {P:Program} {base:Nat} {w:World} {g:Ghost} {st:St}
theorem yv(h:Jl q x y=s_ t_):x=y:=by unfold Jl at h;grind
def Qy:D→Bool
 |.int _ _ | .bool _ | .str _=>t_
 |_=>f_
theorem Zs(h:Jl q x y=s_ b):Qy x=t_∧Qy y=t_:=by
 unfold Jl at h
 split at h
 ·exact⟨rfl,rfl⟩
 ·exact⟨rfl,rfl⟩
 ·exact⟨rfl,rfl⟩
 ·cases h
theorem xM:∀ {ks:List Nat} {xs ys:List D},Fl ks xs ys=s_ t_→xs=ys
 |[],[],[],_=>rfl
 |q::qs,x::xs,y::ys,h=>by
  simp only[Fl]at h
  split at h
  ·rename_i a b E M;simp only[Dp,Ad]at h;obtain⟨rfl,rfl⟩:=h;rw[yv E,xM M]
  ·cases h
 |[],[],_::_,h=>by simp[Fl]at h
 |[],_::_,_,h=>by simp[Fl]at h
 |_::_,[],_,h=>by simp[Fl]at h
 |_::_,_::_,[],h=>by simp[Fl]at h
theorem ow:∀ {ks:List Nat} {xs ys:List D} {b:Bool},Fl ks xs ys=s_ b→∀ x∈xs,Qy x=t_
 |[],[],[],_,_=>fun x M=>by cases M
 |q::qs,x::xs,y::ys,b,h=>by
  simp only[Fl]at h
  split at h
  ·rename_i a b N h2;intro z E;rcases Ay.1 E with rfl|E
   ·exact(Zs N).1
   ·exact ow h2 z E
  ·cases h
 |[],[],_::_,_,h=>by simp[Fl]at h
 |[],_::_,_,_,h=>by simp[Fl]at h
 |_::_,[],_,_,h=>by simp[Fl]at h
 |_::_,_::_,[],_,h=>by simp[Fl]at h
theorem xw{u:Value}(E:Qy d=t_)(h:RepV w g st d v)(M:RepV w g st d u):v=u:=by cases h <;> cases M <;> first|rfl|(simp[Qy]at E; done)
theorem Yf7(h:IJ sz ks x y=s_ t_)(M:RepV w g st x vx)(N:RepV w g st y vy):vx=vy:=by
 unfold IJ at h
 split at h
 ·split at h
  ·obtain rfl:=yv h;exact xw (Zs h).1 M N
  ·cases h
 ·split at h
  ·rename_i xs ys;have hs:=ow h;obtain rfl:=xM h
   cases M with
   |agg _ vs h1 h2=>
    cases N with
    |agg _ us h3 h4=>
     have:vs=us:=by
      apply Bj;intro i
      cases hv:vs[i]? with
      |none=>rw[B0]at hv; exact(B0.2 (by omega)).symm
      |some v=>
       have ad:=(Ab.1 hv).1;have E:xs[i]?=s_ xs[i]:=Aj (by omega);have hu:us[i]?=s_ us[i]:=Aj (by omega);rw[hu,xw (hs _ (An E)) (h2 i _ v E hv) (h4 i _ _ E hu)]
     rw[this]
  ·cases h
theorem yG(E:Qy d=t_)(h:RepV w g st d v)(n:Nat):Instr.sameBits n v v=t_:=by
 cases h <;> first
  |(simp[Instr.sameBits]; done)
  |(simp[Qy]at E; done)
  |(unfold Instr.sameBits; exact(MapKept.bytes_beq _ _).2 rfl)
theorem yY6(h:IJ sz ks x y=s_ b)(E:RepV w g st x vx):Instr.sameBits 10000 vx vx=t_:=by
 unfold IJ at h
 split at h
 ·split at h
  ·exact yG (Zs h).1 E _
  ·cases h
 ·split at h
  ·rename_i xs ys;have hs:=ow h
   cases E with
   |agg _ vs h1 h2=>
    show(vs.toArray.size == vs.toArray.size && (vs.toArray.toList.zip vs.toArray.toList).all fun(x,y)=>Instr.sameBits 9999 x y)=t_
    rw[Ad];refine⟨by simp,?_⟩;rw[Ah];rintro⟨u,u'⟩ hu
    have M:u=u':=by
     have:=A4.1 hu;grind
    subst M;have hm:u∈vs:=(List.of_mem_zip hu).1;obtain⟨i,hi⟩:=A4.1 hm;have ad:=(Ab.1 hi).1;have N:xs[i]?=s_ xs[i]:=Aj (by omega);exact yG (hs _ (An N)) (h2 i _ u N hi) _
  ·cases h
theorem yT5(h:IJ sz ks x y=s_ b)(E:RepV w g st x vx)(w1:World):(Instr.keyThatStays vx vx).run P w1=.ok vx w1:=by simp[Instr.keyThatStays,yY6 h E]
theorem yo(E:P.underlying e=s_ (.int kk))(M:Bool)(n:Nat)(v:Value):(Instr.checkKey M (n+1) e v).run P w=.ok () w:=by unfold Instr.checkKey;simp only[Sem.run_bind,run_underlying E,Result.andThen];rfl
theorem iG(hk:OB P kt=s_ (sz,ks))(h:IJ sz ks x y=s_ b)(hr:RepV w g st x v)(em:Bool):(Instr.checkKey em 10000 kt v).run P w=.ok () w:=by
 unfold OB at hk
 split at hk
 ·rename_i hu;exact yo hu em 9999 v
 ·rename_i hu;unfold Instr.checkKey;simp only[Sem.run_bind,run_underlying hu,Result.andThen];rfl
 ·rename_i hu;unfold Instr.checkKey;simp only[Sem.run_bind,run_underlying hu,Result.andThen];rfl
 ·rename_i n e hu
  split at hk
  ·rename_i kk M N
   split at hk
   ·rename_i h2;simp only[Dp,DO]at hk;obtain⟨rfl,rfl⟩:=hk;unfold IJ at h;rw[YYN]at h
    split at h
    ·rename_i xs ys;have hl:=(Ry h).1;rw[BG]at hl
     cases hr with
     |agg _ vs h3 h4=>
      have ab:ES P e=s_ f_:=by unfold ES; rw[M]
      unfold Instr.checkKey;simp only[Sem.run_bind,run_underlying hu,Result.andThen_ok];simp only[Std.Legacy.Range.forIn_eq_forIn_range',Std.Legacy.Range.size,Nat.sub_zero,Nat.add_one_sub_one,Nat.div_one];have each:∀ i∈List.range' 0 n,i<vs.length:=fun i hi=>by rw[List.mem_range'_1]at hi; omega
      generalize List.range' 0 n=is at each
      refine(?_:((forIn is PUnit.unit fun i ad=>do
       let E ← sizeOf e
       let E ← part e vs.toArray (i*E)
       Instr.checkKey em 9999 e E
       pure (ForInStep.yield PUnit.unit):Sem PUnit).run P w).andThen _=_)
      induction is with
      |nil=>simp
      |cons j is ih=>
       have hj:=each j (by simp);have p1:=Vv (P:=P) (w:=w) (vs:=vs) (off:=j*1) ab N (fun _=>rfl) (by omega);simp only[List.forIn_cons,Sem.run_bind,Mp N,Result.andThen_ok,p1,yo M,Sem.run_pure];simp_all
    ·cases h
   ·cases hk
  ·cases hk
 ·cases hk
theorem xY{E:TypeDesc}(hd:(∃ kk,E=.int kk∧q=0)∨(E=.bool∧q=1)∨(E=.string∧q=2))(h:Jl q x y=s_ b)(M:RepV w g st x vx)(N:RepV w g st y vy):Instr.sameNow E vx vy=s_ b:=by
 rcases hd with⟨kk,rfl,rfl⟩|⟨rfl,rfl⟩|⟨rfl,rfl⟩
 ·unfold Jl at h
  split at h <;> simp_all
  obtain rfl:=Jt M;obtain rfl:=Jt N;simp_all [Instr.sameNow]
 ·unfold Jl at h
  split at h <;> simp_all
  obtain rfl:=Mm M;obtain rfl:=Mm N;simp_all [Instr.sameNow]
 ·unfold Jl at h
  split at h <;> simp_all
  obtain rfl:=MY M;obtain rfl:=MY N;simp only[Instr.sameNow,Dp];rw[← h,B8,MapKept.bytes_beq];simp
def Ents(w:World)(g:Ghost)(st:St)(sz:Nat)(els:List D)(es:List MapEntry):Prop:=
 es.length=els.length∧∀ (i:Nat) (e:MapEntry) (el:D),es[i]?=s_ e→els[i]?=s_ el→RepV w g st (Gs sz el) e.key∧RepV w g st (H8 sz el) e.val
theorem Ents.tail{M:D}{e:MapEntry}(h:Ents w g st sz (M::els) (e::es)):Ents w g st sz els es:=
 ⟨by have:=h.1; simp only[Ak]at this; omega,fun i N E h1 h2=>h.2 (i+1) N E (by simpa using h1) (by simpa using h2)⟩
theorem xS{E:TypeDesc}{q:Nat}{k:D}{kv:Value}(hd:(∃ kk,E=.int kk∧q=0)∨(E=.bool∧q=1)∨(E=.string∧q=2))(hk:RepV w g st k kv):∀ (els:List D) (es:List MapEntry) (i:Nat) (r:Option Nat),Ents w g st 2 els es→L1 2 [q] k els i=s_ r→
  (r=none∧Instr.findNow E kv es i=s_ none)∨∃ j e,r=s_ (i+j)∧es[j]?=s_ e∧Instr.findNow E kv es i=s_ (s_ (i+j,e.val))∧∃ el,els[j]?=s_ el∧IJ 2 [q] k (Gs 2 el)=s_ t_
 |[],es,i,r,h,hm=>by
  obtain rfl:es=[]:=AQ h.1;simp only[L1,Dp]at hm;exact .inl ⟨hm.symm,rfl⟩
 |el::els,[],i,r,h,hm=>by have:=h.1; simp at this
 |el::els,e::es,i,r,h,hm=>by
  have h0:=(h.2 0 e el rfl rfl).1;simp only[L1]at hm
  split at hm
  ·rename_i M;simp only[Dp]at hm;subst hm;have N:=xY hd (show Jl q k (Gs 2 el)=s_ t_ from M) hk h0;exact .inr ⟨0,e,rfl,rfl,by simp only[Instr.findNow,N,B3],el,rfl,M⟩
  ·rename_i M;have N:=xY hd (show Jl q k (Gs 2 el)=s_ f_ from M) hk h0;rcases xS hd hk els es (i+1) r h.tail hm with⟨h1,h2⟩|⟨j,e',h1,h2,h3,af,h4,h5⟩
   ·exact .inl ⟨h1,by simp only[Instr.findNow,N,h2]⟩
   ·refine .inr ⟨j+1,e',by rw[h1]; congr 1; omega,by simpa using h2,?_,af,by simpa using h4,h5⟩;simp only[Instr.findNow,N,h3]
    congr 3; omega
  ·cases hm
theorem rQ{kt:TypeId}{sz:Nat}{ks:List Nat}{k:D}{kv:Value}(ab:sz≠2)(hl:JZ P 100 kt=s_ ks)(ha:ES P kt=s_ t_)(hk:RepV w g st k kv):∀ (els:List D) (es:List MapEntry) (i:Nat) (r:Option Nat),Ents w g st sz els es→L1 sz ks k els i=s_ r→
  (r=none∧(Instr.findAsking kt kv es i).run P w=.ok none w)∨∃ j e,r=s_ (i+j)∧es[j]?=s_ e∧(Instr.findAsking kt kv es i).run P w=.ok (s_ (i+j,e.val)) w∧∃ el,els[j]?=s_ el∧IJ sz ks k (Gs sz el)=s_ t_
 |[],es,i,r,h,hm=>by
  obtain rfl:es=[]:=AQ h.1;simp only[L1,Dp]at hm;exact .inl ⟨hm.symm,rfl⟩
 |el::els,[],i,r,h,hm=>by have:=h.1; simp at this
 |el::els,e::es,i,r,h,hm=>by
  have h0:=(h.2 0 e el rfl rfl).1
  have he:∀ b,IJ sz ks k (Gs sz el)=s_ b→(Op.equal kt kv e.key).run P w=.ok b w:=fun b hb=>by
   unfold IJ at hb;rw[if_neg ab]at hb
   split at hb
   ·rename_i xs ys ah;rw[ah]at h0
    cases hk with
    |agg _ vs E M=>
     generalize e.key=ek at h0
     cases h0 with
     |agg _ us h3 h4=>exact lA 100 kt ks hl 10000 (by omega) w g st t_ xs ys vs us b ha hb E h3 M h4
   ·cases hb
  simp only[L1]at hm
  split at hm
  ·rename_i N;simp only[Dp]at hm;subst hm;exact .inr ⟨0,e,rfl,rfl,by simp[Instr.findAsking,he t_ N],el,rfl,N⟩
  ·rename_i N;rcases rQ ab hl ha hk els es (i+1) r h.tail hm with⟨E,M⟩|⟨j,e',E,M,h3,a0,h4,h5⟩
   ·exact .inl ⟨E,by simp[Instr.findAsking,he f_ N,M]⟩
   ·refine .inr ⟨j+1,e',by rw[E]; congr 1; omega,by simpa using M,?_,a0,by simpa using h4,h5⟩;simp[Instr.findAsking,he f_ N,h3];omega
  ·cases hm
theorem yY3{n:Nat}(N:P.underlying kt=s_ (.array n e))(E:P.underlying e=s_ (.int kk))(M:EL P e=s_ 1):JZ P 100 kt=s_ (CZ n 0):=by
 have h1:JZ P 99 e=s_ [0]:=by unfold JZ; rw[E]
 unfold JZ;simp_all
theorem Zk{M:Value}{r:Option Nat}(E:OB P kt=s_ (sz,ks))(hk:RepV w g st k M)(hE:Ents w g st sz els es)(hm:L1 sz ks k els 0=s_ r) :
  (r=none∧(Instr.findKey kt M es).run P w=.ok none w)∨∃ j e,r=s_ j∧es[j]?=s_ e∧(Instr.findKey kt M es).run P w=.ok (s_ (j,e.val)) w∧∃ el,els[j]?=s_ el∧IJ sz ks k (Gs sz el)=s_ t_:=by
 have one:∀ (desc:TypeDesc) (q:Nat),P.underlying kt=s_ desc→(sz,ks)=(2,[q])→((∃ kk,desc=.int kk∧q=0)∨(desc=.bool∧q=1)∨(desc=.string∧q=2))→
   (r=none∧(Instr.findKey kt M es).run P w=.ok none w)∨∃ j e,r=s_ j∧es[j]?=s_ e∧(Instr.findKey kt M es).run P w=.ok (s_ (j,e.val)) w∧∃ el,els[j]?=s_ el∧IJ sz ks k (Gs sz el)=s_ t_:=by
  intro desc q hu he hd;simp only[DO]at he;obtain⟨rfl,rfl⟩:=he;rcases xS hd hk els es 0 r hE hm with⟨N,h2⟩|⟨j,e,N,h2,h3,h4⟩
  ·exact .inl ⟨N,MapKept.run_findKey hu h2⟩
  ·rw[Aq]at N h3;exact .inr ⟨j,e,N,h2,MapKept.run_findKey hu h3,h4⟩
 unfold OB at E
 split at E
 ·rename_i kk hu;exact one _ 0 hu (AE E).symm (.inl ⟨kk,rfl,rfl⟩)
 ·grind
 ·grind
 ·rename_i n e hu
  split at E
  ·rename_i kk af ah
   split at E
   ·rename_i h2;simp only[Dp,DO]at E;obtain⟨rfl,rfl⟩:=E;have ha:ES P kt=s_ t_:=by unfold ES; rw[hu]
    have h3:=rQ (by omega) (yY3 hu af ah) ha hk els es 0 r hE hm
    have h4:(Instr.findKey kt M es).run P w=(Instr.findAsking kt M es 0).run P w:=by
     cases es with
     |nil=>simp[Instr.findKey,run_underlying hu,Instr.findNow,Instr.findAsking]
     |cons e0 es=>
      have:Instr.findNow (.array n e) M (e0::es) 0=none:=by
       rfl
      simp[Instr.findKey,run_underlying hu,this]
    grind
   ·cases E
  ·cases E
 ·cases E
theorem Yld(N:SR base w g st)(h:1<sz)(E:sz≠1000003):RunsTo P base w g st (Instr.makeMap t none) (.mapv st.length) (st++[{row:=f_,sz,els:=[],lent:=f_}]):=by
 have hm:({row:=f_,sz,els:=[],lent:=f_}:Obj).isMap=t_:=by simp[Obj.isMap,h]
 have M:=SR.pushMap (w':=w.alloc (.map #[] 0)) (o:={row:=f_,sz,els:=[],lent:=f_}) (clock:=0) N ⟨rfl,rfl,rfl,by simp⟩ (fun b hb=>Q8 w _ b hb) (MapKept.heap_alloc w _).1 hm E rfl;refine⟨.map (s_ w.heap.size),_,_,rfl,M,?_⟩;have:=RepV.mapv (w:=w.alloc (.map #[] 0)) (g:={g with β:=Gc g.β st.length w.heap.size}) (st:=st++[{row:=f_,sz,els:=[],lent:=f_}]) st.length {row:=f_,sz,els:=[],lent:=f_} (by simp) hm;simpa[IE]using this
theorem Yli{o:Obj}(E:st[key]?=s_ o)(h:RepV w g st (.mapv key) v):o.isMap=t_∧v=.map (s_ (g.β key)):=by
 cases h with
 |mapv _ M N h2=>
  grind
theorem Yny{o:Obj}{es:Array MapEntry}(M:es.size=o.els.length)(N:∀ (i:Nat) (e:MapEntry) (el:D),es[i]?=s_ e→o.els[i]?=s_ el→RepV w g st (Gs o.sz el) e.key∧RepV w g st (H8 o.sz el) e.val):Ents w g st o.sz o.els es.toList:=
 ⟨by simpa using M,fun i e el he E=>N i e el (by simpa using he) E⟩
theorem Yma{P:Program}(h:OB P kt=s_ (sz,ks)):sz≠0:=by
 unfold OB at h
 repeat' split at h
 all_goals first|(cases h; done)|(simp only[Dp,DO]at h; omega)
theorem Yft(hS:SR base w g st)(ht:RA P t=s_ (kt,et,sz,ks))(hz:IG P et=s_ zd)(hm:RepV w g st m vm)(hk:RepV w g st k vk)
  (h:JU st sz ks ok zd m k=s_ r):∃ v,(Instr.lookup t vm vk ok).run P w=.ok v w∧RepV w g st r v:=by
 obtain⟨hu,N,af,_,_⟩:=vq ht;have a1:sz≠0:=Yma N;unfold JU at h
 split at h
 case h_2=>rw[if_neg a1]at h; cases h
 case h_3=>cases h
 rename_i key
 split at h
 case h_2=>cases h
 rename_i o ho
 split at h
 case isFalse=>cases h
 rename_i hc;simp only[Ad,beq_iff_eq]at hc;obtain⟨⟨_,rfl⟩,a4⟩:=hc;obtain⟨b,hb⟩:=Option.isSome_iff_exists.1 a4;obtain⟨a2,rfl⟩:=Yli ho hm;obtain⟨es,clock,h1,h2,h3,h4,h5,bh⟩:=(hS.mp key o ho a2).old (by first|exact af|(simpa using af));have hE:=Yny h3 h5;have E:=iG (w:=w) N hb hk es.isEmpty
 have a7:∃ z,(zeroValue et).run P w=.ok z w∧RepV w g st zd z:=by
  unfold IG at hz
  split at hz
  case h_2=>cases hz
  rename_i i hi
  split at hz
  case h_2=>cases hz
  rename_i z a8;exact⟨z,by simp[zeroValue,typeInfo,hi,a8],SN hz⟩
 obtain⟨z,ah,a0⟩:=a7
 have ab:∀ (x:D) (v:Value) (b:Bool),RepV w g st x v→RepV w g st (.tup [x,.bool b]) (.tuple #[v,.bool b]):=fun x v b hx=>by
  refine .tup [x,.bool b] [v,.bool b] rfl fun i d u M hu=>?_
  match i,M,hu with
  |0,M,hu=>simp at M hu; subst M; subst hu; exact hx
  |1,M,hu=>simp at M hu; subst M; subst hu; exact .bool _
 split at h
 ·rename_i i hi
  split at h
  ·rename_i el a9;simp only[Dp]at h;subst h;rcases Zk N hk hE hi with⟨h6,_⟩|⟨j,e,h6,h7,h8,b1,h9,b2⟩
   ·cases h6
   ·obtain rfl:=AE h6;have hr:=(h5 i e el (by simpa using h7) a9).2
    cases ok with
    |true=>exact⟨.tuple #[e.val,.bool t_],by simp[Instr.lookup,run_underlying hu,MapKept.run_getObj_map h1,E,h8],ab _ _ _ hr⟩
    |false=>exact⟨e.val,by simp[Instr.lookup,run_underlying hu,MapKept.run_getObj_map h1,E,h8],hr⟩
  ·cases h
 ·rename_i hi;simp only[Dp]at h;subst h;rcases Zk N hk hE hi with⟨_,h8⟩|⟨j,e,h6,_⟩
  ·cases ok with
   |true=>exact⟨.tuple #[z,.bool f_],by simp[Instr.lookup,run_underlying hu,MapKept.run_getObj_map h1,E,h8,ah],ab _ _ _ a0⟩
   |false=>exact⟨z,by simp[Instr.lookup,run_underlying hu,MapKept.run_getObj_map h1,E,h8,ah],a0⟩
  ·cases h6
 ·cases h
def gL(P:Program)(t:TypeId):Option D:=match P.underlying t with
 |some (.map kt et)=>match P.underlying kt,EL P et,ES P et,IG P et with
  |some (.int .i64),s_ 1,s_ t_,s_ zd=>s_ zd
  |_,_,_,_=>none
 |_=>none
theorem Ygl{P:Program}(h:gL P t=s_ zd):∃ kt et,P.underlying t=s_ (.map kt et)∧P.underlying kt=s_ (.int .i64)∧IG P et=s_ zd:=by unfold gL at h;grind
theorem xR{es:List (Int×Nat)}(n:Int):∀ (l:List MapEntry) (i:Nat),(∀ e∈l,∃ m f,e.key=.int .i64 m∧e.val=.agg #[.func (.func f) #[] #[]]∧f<5000000∧Gx m es=s_ f)→
  (∃ j f,Instr.findNow (.int .i64) (.int .i64 n) l i=s_ (s_ (j,.agg #[.func (.func f) #[] #[]]))∧Gx n es=s_ f∧f<5000000)∨(Instr.findNow (.int .i64) (.int .i64 n) l i=s_ none∧∀ e∈l,e.key≠.int .i64 n)
 |[],i,_=>.inr ⟨rfl,fun e he=>by cases he⟩
 |e::l,i,h=>by
  obtain⟨m,f,M,N,h3,h4⟩:=h e (by simp)
  by_cases E:n=m
  ·subst E;exact .inl ⟨i,f,by simp[Instr.findNow,Instr.sameNow,M,N],h4,h3⟩
  ·have hf:Instr.findNow (.int .i64) (.int .i64 n) (e::l) i=Instr.findNow (.int .i64) (.int .i64 n) l (i+1):=by
    have hb:(n == m)=f_:=by simpa using E
    simp only[Instr.findNow,Instr.sameNow,M,if_true,hb]
   rcases xR n l (i+1) (fun x hx=>h x (by simp[hx]))with⟨j,f',h5,h6⟩|⟨h5,h6⟩
   ·grind
   ·grind
theorem Yvu(ht:gL P t=s_ zd)(hm:RepV w g st m vm)(hk:RepV w g st k vk)(h:JU st 0 [] ok zd m k=s_ r) :
  ∃ v,(Instr.lookup t vm vk ok).run P w=.ok v w∧RepV w g st r v:=by
 obtain⟨kt,et,hu,ah,hz⟩:=Ygl ht;unfold JU at h
 split at h
 case h_3=>cases h
 case h_1=>
  split at h
  case h_2=>cases h
  split at h
  case isFalse=>cases h
  rename_i hc;simp only[Ad,beq_iff_eq]at hc;have:=lj hc.1.1;omega
 rename_i es;rw[if_pos rfl]at h
 split at h
 case h_2=>cases h
 rename_i n;simp only[Dp]at h
 obtain⟨b,E,clock,rfl,h1,h3⟩:∃ b E clock,vm=.map (s_ b)∧w.heap[b]?=s_ (.map E clock)∧qW E es:=by
  cases hm with
  |gmap _ b E clock h1 h2 h3=>exact⟨b,E,clock,rfl,h1,h3⟩
 have a5:=hk;cases a5;have a3:OB P kt=s_ (2,[0]):=by unfold OB; rw[ah]
 have N:=iG (w:=w) a3 (show IJ 2 [0] (.int .i64 n) (.int .i64 n)=s_ (n == n) by simp[IJ,Jl]) hk E.isEmpty
 have a6:∃ z,(zeroValue et).run P w=.ok z w∧RepV w g st zd z:=by
  unfold IG at hz
  split at hz
  case h_2=>cases hz
  rename_i i hi
  split at hz
  case h_2=>cases hz
  rename_i z a7;exact⟨z,by simp[zeroValue,typeInfo,hi,a7],SN hz⟩
 obtain⟨z,a0,a1⟩:=a6
 have ac:∀ (x:D) (v:Value) (b:Bool),RepV w g st x v→RepV w g st (.tup [x,.bool b]) (.tuple #[v,.bool b]):=fun x v b hx=>by
  refine .tup [x,.bool b] [v,.bool b] rfl fun i d u M hu=>?_
  match i,M,hu with
  |0,M,hu=>simp at M hu; subst M; subst hu; exact hx
  |1,M,hu=>simp at M hu; subst M; subst hu; exact .bool _
 have ad:∀ f,f<5000000→RepV w g st (.agg [.clo f []]) (.agg #[.func (.func f) #[] #[]]):=fun f hf=>by
  refine .agg [.clo f []] [.func (.func f) #[] #[]] rfl fun i d u M hu=>?_
  match i,M,hu with
  |0,M,hu=>
   simp at M hu; subst M; subst hu;have:=RepV.clo (w:=w) (g:=g) (st:=st) f [] [] rfl (fun i d v h=>by simp at h);rw[Tt hf,ov,nM]at this;exact this
 have a2:∀ r,Instr.findNow (.int .i64) (.int .i64 n) E.toList 0=s_ r→(Instr.findKey kt (.int .i64 n) E.toList).run P w=.ok r w:=fun r hr=>by
  simp[Instr.findKey,run_underlying ah,hr]
 rcases xR n E.toList 0 h3.1 with⟨j,f,h5,h6,h7⟩|⟨h5,h6⟩
 ·have h8:=a2 _ h5;rw[h6]at h;simp only at h
  cases ok with
  |true=>
   simp only[if_true]at h;subst h;exact⟨.tuple #[.agg #[.func (.func f) #[] #[]],.bool t_],by simp[Instr.lookup,run_underlying hu,MapKept.run_getObj_map h1,N,h8],ac _ _ _ (ad f h7)⟩
  |false=>
   simp only[Ao,if_false]at h;subst h;exact⟨.agg #[.func (.func f) #[] #[]],by simp[Instr.lookup,run_underlying hu,MapKept.run_getObj_map h1,N,h8],ad f h7⟩
 ·have h8:=a2 _ h5
  have ba:Gx n es=none:=by
   cases hg:Gx n es with
   |none=>rfl
   |some f=>
    obtain⟨e,he,bg⟩:=h3.2 n f hg;grind
  rw[ba]at h;simp only at h
  cases ok with
  |true=>
   simp only[if_true]at h;subst h;exact⟨.tuple #[z,.bool f_],by simp[Instr.lookup,run_underlying hu,MapKept.run_getObj_map h1,N,h8,a0],ac _ _ _ a1⟩
  |false=>
   simp only[Ao,if_false]at h;subst h;exact⟨z,by simp[Instr.lookup,run_underlying hu,MapKept.run_getObj_map h1,N,h8,a0],a1⟩
theorem YMg{v:D}(h:IJ sz ks k k=s_ b)(hl:k.cells.length+1=sz):Gs sz (.agg (k.cells++[v]))=k∧H8 sz (.agg (k.cells++[v]))=v:=by
 have E:(k.cells++[v]).take (sz - 1)=k.cells:=by rw[show sz - 1=k.cells.length by omega]; simp
 have M:(k.cells++[v]).drop (sz - 1)=[v]:=by rw[show sz - 1=k.cells.length by omega]; simp
 refine⟨?_,by simp only[H8,M]; rfl⟩;simp only[Gs,E];unfold IJ at h
 split at h
 ·rename_i e;subst e
  split at h
  ·have N:=(Zs h).1;cases k <;> first|rfl|(simp[Qy]at N; done)
  ·cases h
 ·rename_i e
  split at h
  ·simp[e,D.mk,D.cells]
  ·cases h
theorem zQ(h:RepV w g st d v)(E:d.isCell=t_):Se v=f_:=by have:=h.oneCell E;cases v <;> first|rfl|(simp[Value.oneCell']at this; done)
theorem vt(hS:SR base w g st){v:D}{vv:Value}(ht:RA P t=s_ (kt,et,sz,ks))(hm:RepV w g st m vm)(hk:RepV w g st k vk)(hv:RepV w g st v vv)
  (h:Tp st sz ks m k v=s_ st'):∃ w' g',(Instr.mapUpdate t vm vk vv).run P w=.ok () w'∧Go1 base w g st w' g' st':=by
 obtain⟨hu,ab,N,_,_⟩:=vq ht;unfold Tp at h
 split at h
 case h_2=>cases h
 rename_i key
 split at h
 case h_2=>cases h
 rename_i o ho
 split at h
 case isFalse=>cases h
 rename_i hc;simp only[Ad,AU,beq_iff_eq]at hc;obtain⟨⟨⟨⟨⟨⟨_,rfl⟩,bc⟩,a0⟩,hl⟩,bf⟩,ac⟩:=hc;obtain⟨M,rfl⟩:=Yli ho hm;obtain⟨es,clock,E,h2,h3,h4,h5,a1⟩:=(hS.mp key o ho M).old (by first|exact N|(simpa using N));have hE:=Yny h3 h5;have ad:=iG (w:=w) ab ac hk f_;obtain⟨k1,k2⟩:=YMg (v:=v) ac hl;have b1:∃ l,(D.agg (k.cells++[v]))=.agg l∧l.length=o.sz:=⟨_,rfl,by rw[Ac]; exact hl⟩;have b2:g.β key<w.heap.size:=(AH.1 E).1
 split at h
 ·rename_i i hi;simp only[Dp]at h;subst h;rcases Zk ab hk hE hi with⟨h6,_⟩|⟨j,e,h6,h7,h8,a7,h9,a8⟩
  ·cases h6
  ·obtain rfl:=AE h6;have af:es[i]?=s_ e:=by simpa using h7
   have a9:e.key=vk:=(Yf7 a8 hk (h5 i e a7 af h9).1).symm;have ba:(Instr.keyThatStays e.key vk).run P w=.ok vk w:=by rw[a9]; exact yT5 ac hk w
   refine⟨_,g,?_,SR.updMap (o':={o with els:=o.els.set i (.agg (k.cells++[v]))}) (es':=es.modify i fun e=>{e with key:=vk,val:=vv}) (clock':=clock) (w':={w with heap:=w.heap.setIfInBounds (g.β key) (.map (es.modify i fun e=>{e with key:=vk,val:=vv}) clock)}) hS ho M N rfl rfl (by simp) rfl
    ⟨rfl,rfl,rfl,by simp⟩ (fun b hb=>(MapKept.heap_set E).2 b hb) (MapKept.heap_set E).1 (by simpa using h3) ?_ ?_ ?_⟩
   ·simp[Instr.mapUpdate,run_underlying hu,MapKept.run_getObj_map E,ad,h8,af,ba,MapKept.run_setObj_map _ E]
   ·grind
   ·grind
   ·rw[jJ]at a1 ⊢;rw[Ci]
    by_cases bb:i=0
    ·subst bb;rw[if_pos rfl,af];exact zQ hv a0
    ·grind
 ·rename_i hi;simp only[Dp]at h;subst h;rcases Zk ab hk hE hi with⟨_,h8⟩|⟨j,e,h6,_⟩
  ·refine⟨_,g,?_,SR.updMap (o':={o with els:=o.els++[.agg (k.cells++[v])]}) (es':=es.push {key:=vk,val:=vv,born:=clock}) (clock':=clock+1) (w':={w with heap:=w.heap.setIfInBounds (g.β key) (.map (es.push {key:=vk,val:=vv,born:=clock}) (clock+1))}) hS ho M N rfl rfl (by simp) rfl
    ⟨rfl,rfl,rfl,by simp⟩ (fun b hb=>(MapKept.heap_set E).2 b hb) (MapKept.heap_set E).1 (by simpa using h3) ?_ ?_ ?_⟩
   ·simp[Instr.mapUpdate,run_underlying hu,MapKept.run_getObj_map E,ad,h8,MapKept.run_setObj_map _ E]
   ·grind
   ·grind
   ·rw[jJ]at a1 ⊢
    by_cases hj:0<es.size
    ·grind
    ·have he:es=#[]:=Array.eq_empty_of_size_eq_zero (by omega);subst he;exact zQ hv a0
  ·cases h6
 ·cases h
theorem YE2(hS:SR base w g st){tot off len:Nat}{s:D}(hu:P.underlying dT=s_ (.slice elem))(bb:(P.info? elem).map (·.size)=s_ 1)(hd:RepV w g st (.row key tot off len) vd)(hs:RepV w g st s vs)
  (h:Yn st 1 key tot off len s=s_ (r,st')):RunsTo P base w g st (Builtin.copy_ #[dT,sT] ty #[vd,vs]) r st':=by
 unfold Yn at h
 split at h
 case h_2=>cases h
 rename_i o c0 xs ho bc
 split at h
 case isFalse=>cases h
 rename_i hc;simp only[Ad,AU,beq_iff_eq,decide_eq_true_eq,Bh,BQ]at hc;obtain⟨⟨⟨⟨⟨⟨⟨⟨E,b3⟩,a3⟩,N⟩,_⟩,ca⟩,cb⟩,a4⟩,cc⟩:=hc;simp only[Dp,DO]at h;obtain⟨rfl,rfl⟩:=h;obtain⟨M,h1,h2,h3,rfl,h5⟩:=Vr (by simp[Fo,ho,E,a3]) hd;obtain rfl:M=o:=AE (h1.symm.trans ho);obtain⟨C,e,hb,b4,ce,hx,hC,cf⟩:=hS.blk key M ho (ND E);rw[E]at hC;simp only[if_true]at hC
 have hE:Els w g st vs 1 xs:=by
  rcases m5 hS bc hs with h6|⟨s',rfl,_,_⟩
  ·grind
  ·simp[Iz]at a4
 obtain⟨⟨a,cap,rfl,bd⟩,b5,be⟩:=hE;have c1:min len xs.length≤xs.length:=Nat.min_le_right _ _;have c2:min len xs.length≤len:=Nat.min_le_left _ _;have a6:Nat.min xs.length len=min len xs.length:=Nat.min_comm ..;generalize min len xs.length=m at*
 have a7:xs≠[]:=by
  grind
 obtain⟨b,o2,rfl,_,b6⟩:=bd a7
 have c3:∀ j,j<m→∃ d u,Gl xs j 0=s_ d∧w.cell? ⟨b,o2+j,none⟩=s_ u∧RepV w g st d u∧u.oneCell'=t_:=by
  intro j hj;have a0:j<xs.length:=by omega
  have c4:=be xs[j] (Bv a0);have c5:Gl xs j 0=s_ (xs[j].cells[0]'(by omega)):=Ig (Aj a0) (Aj (by omega));grind
 have a1:∀ j:Nat,((C3 m).map fun j=>(w.cell? ⟨b,o2+j,none⟩).getD undef)[j]?=if j<m then w.cell? ⟨b,o2+j,none⟩else none:=fun j=>by
  grind
 have hlen:((C3 m).map fun j=>(w.cell? ⟨b,o2+j,none⟩).getD undef).length=m:=by rw[A7,List.length_range]
 generalize ((C3 m).map fun j=>(w.cell? ⟨b,o2+j,none⟩).getD undef)=cs at a1 hlen
 have a8:∀ v∈cs,v.oneCell'=t_:=fun v hv=>by
  obtain⟨j,hj⟩:=A4.1 hv;grind
 rw[N,BO]at hC;rw[show off*M.sz=off by rw[N,BO]];have ac:off+cs.length≤C.size:=by omega
 have a9:=run_copy_row P w dT sT ty elem (g.β key) off len (g.γ key - off) ⟨b,o2,none⟩ xs.length cap C e cs hu bb hb (by rw[hlen]; exact a6.symm) (fun j v hv=>by
   rw[a1]at hv
   split at hv
   ·rw[cell?_add]; simpa using hv
   ·cases hv) ac a8
 have bf:(xs.take m).length=m:=by rw[AA]; omega
 have ad:off+(xs.take m).length≤M.els.length:=by omega
 have bg:=UC ad
 have ba:∀ j y,(F7 M.els off (xs.take m))[j]?=s_ y→(off≤j∧j<off+m∧xs[j - off]?=s_ y)∨(¬ (off≤j∧j<off+m)∧M.els[j]?=s_ y):=by
  intro j y hy;rw[Rr ad,bf]at hy;grind
 refine⟨_,_,{g with β:=Gc g.β key (g.β key),γ:=Gc g.γ key (g.γ key)},a9,?_,by simp only[goInt,hlen]; exact .int _ _⟩
 refine SR.update (o':={M with els:=F7 M.els off (xs.take m)}) (c:=g.γ key) hS ho (ND E) hb (.inl ⟨rfl,rfl⟩) rfl rfl (by simp[bg]) rfl ?_ (UB w _ _)
  (fun b' _ c6=>setRow_other w _ _ _ (by omega)) (setRow_heap w _ C _ e _ hb) ?_ ?_ ?_
 ·intro y hy;obtain⟨j,hj⟩:=A4.1 hy;grind
 ·intro _ y hy;have:=(hS.dis key M y ho hy).1;grind
 ·grind
 ·intro i j d bh;obtain⟨y,hy,a2⟩:=IF bh
  have b1:j=0:=by
   have h7:y.cells.length=1:=by
    grind
   grind
  subst b1;rw[N,BO,B3,Uy ac,hlen];rcases ba i y hy with⟨h6,h7,h8⟩|⟨h6,h7⟩
  ·rw[if_pos ⟨h6,h7⟩];have b2:=Ig h8 a2;grind
  ·rw[if_neg h6];have b2:=Ig h7 a2;grind
theorem YE1(hS:SR base w g st){s:D}(hu:P.underlying dT=s_ (.slice elem))(cf:EL P elem=s_ 1)(hd:RepV w g st d vd)(hs:RepV w g st s vs)
  (h:K0 st 1 d s=s_ (r,st')):RunsTo P base w g st (Builtin.copy_ #[dT,sT] ty #[vd,vs]) r st':=by
 have a0:(P.info? elem).map (·.size)=s_ 1:=cf;have bg:∀ (a a':Option Addr) (c n' c':Nat),(Builtin.copy_ #[dT,sT] ty #[.slice a 0 c,.slice a' n' c']).run P w=.ok (goInt 0) w:=fun a a' c n' c'=>run_copy_none (P:=P) w dT sT ty elem a a' 0 c n' c' hu a0 (Nat.min_zero _);have cg:∀ (a a':Option Addr) (n c c':Nat),(Builtin.copy_ #[dT,sT] ty #[.slice a n c,.slice a' 0 c']).run P w=.ok (goInt 0) w:=fun a a' n c c'=>run_copy_none (P:=P) w dT sT ty elem a a' n c 0 c' hu a0 (Nat.zero_min _);unfold K0 at h
 split at h
 ·rename_i key off n dg _ a5 E n2 dh _
  split at h
  ·cases h
  rename_i c6
  split at h
  case h_2=>cases h
  rename_i o o2 ho bh
  split at h
  case isFalse=>cases h
  rename_i hc;simp only[Ad,AU,decide_eq_true_eq,BO]at hc;obtain⟨⟨⟨⟨⟨af,c7⟩,be⟩,hle⟩,da⟩,b4⟩:=hc;simp only[Dp,DO,BO]at h;obtain⟨rfl,rfl⟩:=h
  cases hd with
  |bsl _ _ _ _ _ M cap q1 q2 q3 _=>
   obtain rfl:M=o:=AE (q1.symm.trans ho)
   cases hs with
   |bsl _ _ _ _ _ ad ab u1 u2 u3 _=>
    obtain rfl:ad=o2:=AE (u1.symm.trans bh);obtain⟨C,e,hb,c8,db,hx,hC,b7⟩:=hS.blk key M ho (Qo q3);obtain⟨C2,e2,c0,c1,c9,d0,a7,bf⟩:=hS.blk a5 ad bh (Qo u3);rw[af]at hC;rw[be]at a7;simp only[Ao,if_false]at hC a7;obtain⟨b1,dc,c2⟩:=hC;obtain⟨d2,_,c3⟩:=a7;have b8:Nat.min n2 n=min n n2:=Nat.min_comm ..;generalize hm:min n n2=mm at*;have b2:((ad.els.drop E).take mm).length=mm:=by rw[AA,AW]; omega
    have b9:∀ j d,((ad.els.drop E).take mm)[j]?=s_ d→∃ u,C2[E+j]?=s_ u∧RepV w g st d u∧d.cells=[d]∧u.oneCell'=t_:=fun j d hd=>by
     obtain⟨h6,_⟩:=iN hd;have h7:=c3 d (An h6);obtain⟨_,u,h8,h9⟩:=bf (E+j) 0 d (Ig h6 (by rw[h7]; rfl));rw[u3]at h8;exact⟨u,by simpa using h8,h9,h7,h9.oneCell (Ah.1 b4 d (An hd))⟩
    have hlen:((C2.toList.drop E).take mm).length=mm:=by
     grind
    have a9:∀ j:Nat,((C2.toList.drop E).take mm)[j]?=if j<mm then C2[E+j]? else none:=fun j=>by
     grind
    generalize dd:(C2.toList.drop E).take mm=cs at hlen a9;generalize de:(ad.els.drop E).take mm=xs at*
    have cd:∀ v∈cs,v.oneCell'=t_:=fun v hv=>by
     obtain⟨j,hj⟩:=A4.1 hv;have c4:j<mm:=by have:=(Ab.1 hj).1; omega
     rw[a9,if_pos c4]at hj;obtain⟨u,h8,_,_,h9⟩:=b9 j xs[j] (Aj (by omega));grind
    have ba:=run_copy_row P w dT sT ty elem (g.β key) off n cap ⟨g.β a5,E,none⟩ n2 ab C e cs hu a0 hb (by rw[hlen]; exact b8.symm) (fun j v hv=>by
      rw[a9]at hv
      split at hv
      ·rw[cell?_add]; simp only[World.cell?,c0]; simpa using hv
      ·cases hv) (by rw[hlen,b1]; exact hle) cd
    rw[hlen]at ba;have ce:off+cs.length≤C.size:=by rw[hlen,b1]; exact hle
    have ah:off+xs.length≤M.els.length:=by rw[b2]; exact hle
    have c5:=UC ah
    have mem:∀ y∈F7 M.els off xs,y.cells=[y]:=by
     intro y N;obtain⟨j,hj⟩:=A4.1 N;rw[Rr ah]at hj;grind
    have eo:({row:=f_,sz:=M.sz,els:=F7 M.els off xs,lent:=M.lent}:Obj)={M with els:=F7 M.els off xs}:=by rw[← af]
    refine⟨_,_,{g with β:=Gc g.β key (g.β key),γ:=Gc g.γ key (g.γ key)},ba,?_,by simp only[goInt]; exact .int _ _⟩
    refine SR.update (o':={M with els:=F7 M.els off xs}) (c:=g.γ key) hS ho (Qo q3) hb (.inl ⟨rfl,rfl⟩) rfl rfl (by simp[c5]) rfl (fun y N=>by rw[mem y N,q3]; rfl) (UB w _ _)
     (fun b' _ d3=>setRow_other w _ _ _ (by omega)) (by rw[← hlen]; exact setRow_heap w _ C _ e _ hb) ?_ ?_ ?_
    ·intro _ y N;have:=(hS.dis key M y ho N).1;grind
    ·grind
    ·intro i j d hd;refine⟨fun h=>by simp[af]at h,?_⟩;obtain⟨y,N,a1⟩:=IF hd;have h5:=mem y (An N);rw[h5]at a1
     cases j with
     |succ j=>simp at a1
     |zero=>
      simp only[AG,Dp]at a1;subst a1;rw[q3,BO,B3,Uy ce];rw[Rr ah]at N;rw[hlen];rw[b2]at N
      split at N
      ·grind
      ·rename_i hc;rw[if_neg hc];have h8:=c2 y (An N);obtain⟨_,u,h6,h7⟩:=b7 i 0 y (Ig N (by rw[h8]; rfl));grind
 ·simp only[Dp,DO]at h;obtain⟨rfl,rfl⟩:=h
  cases hd with
  |slcE _ _ a cap _=>
   cases hs with
   |bsl _ _ _ _ _ M ab q1 q2 q3 _=>
    exact⟨goInt 0,w,g,bg _ _ _ _ _,Go1.refl hS,.int _ _⟩
  |slc _ _ _ _ _ _ _ h=>exact absurd rfl h
 ·simp only[Dp,DO]at h;obtain⟨rfl,rfl⟩:=h
  cases hs with
  |slcE _ _ a cap _=>
   cases hd with
   |bsl _ _ _ _ _ M ab q1 q2 q3 _=>
    exact⟨goInt 0,w,g,cg _ _ _ _ _,Go1.refl hS,.int _ _⟩
  |slc _ _ _ _ _ _ _ h=>exact absurd rfl h
 ·simp only[Dp,DO]at h;obtain⟨rfl,rfl⟩:=h
  cases hs with
  |slcE _ _ a cap _=>
   cases hd with
   |slcE _ _ a2 ab _=>
    exact⟨goInt 0,w,g,bg _ _ _ _ _,Go1.refl hS,.int _ _⟩
   |slc _ _ _ _ _ _ _ h=>exact absurd rfl h
  |slc _ _ _ _ _ _ _ h=>exact absurd rfl h
 ·exact YE2 hS hu a0 hd hs h
 ·cases h
end
end Go.Proofs.YtijnglngaogdjaaGreatDoor.PI
namespace Go.Proofs.YtijnglngaogdjaaGreatDoor.PI
open Go Go.RowKit
def jy(P:Program)(t:TypeId):Option (Nat→Option (Nat×Nat)):=
 match P.underlying t with
 |some (.array _ e)=>match P.info? e with
  |some ie=>s_ fun i=>s_ (i*ie.size,ie.size)
  |none=>none
 |some (.struct fields)=>match fields.toList.mapM (fun f=>(P.info? f.type).map fun i=>(f.offset,i.size))with
  |some places=>s_ fun i=>places.toArray[i]?
  |none=>none
 |_=>none
def TE(pl:Nat→Option (Nat×Nat)):List (Nat×Operand)→Option (List (Nat×Nat×PA))
 |[]=>s_ []
 |(i,x)::r=>match pl i,Ee x,TE pl r with
  |some (off,size),s_ a,s_ l=>s_ ((off,size,a)::l)
  |_,_,_=>none
def Vk:Nat→List (Nat×Operand)→Option (List PA)
 |_,[]=>s_ []
 |k,(i,x)::r=>match Ee x,Vk (k+1) r with
  |some a,s_ l=>if i=k then s_ (a::l)else none
  |_,_=>none
def gu(P:Program)(op:BinOp)(t:TypeId)(a b:PA):Option POp:=
 match op with
 |.eql | .neq=>
  let neg:=match op with | .neq=>t_|_=>f_
  match P.underlying t with
  |some (.int _)|some .string=>s_ (.bin op a b)
  |some .bool=>s_ (.beq neg a b)
  |some (.struct _)|some (.array _ _)=>match JZ P 100 t with
   |some ks=>if P.eqGuardType P.depth t then none else s_ (.aeq ks neg a b)
   |none=>none
  |_=>none
 |_=>s_ (.bin op a b)
def iw(P:Program)(src dst:TypeId)(a:PA):Option POp:=
 match P.underlying src,P.underlying dst with
 |some _,s_ (.int k)=>s_ (.conv (.int k) a)
 |some .string,s_ .string=>s_ (.conv .same a)
 |some .string,s_ (.slice e)=>match P.underlying e with
  |some (.int .u8)=>s_ (.conv .bytes a)
  |_=>none
 |some (.slice e),s_ .string=>match P.underlying e with
  |some (.int .u8)=>s_ (.conv .str a)
  |_=>none
 |_,_=>none
def dM(P:Program)(t:TypeId)(a:PA)(lo hi mx:Option PA):Option POp:=
 match P.underlying t with
 |some .string=>s_ (.slice 0 a lo hi mx)
 |some (.slice e)=>match EL P e with
  |some sz=>if sz=0 then none else s_ (.slice sz a lo hi mx)
  |none=>none
 |some (.array n e)=>match EL P e,ES P e,mx with
  |some sz,s_ ag,none=>s_ (.sliceA n sz ag a lo hi)
  |_,_,_=>none
 |_=>none
def fM(P:Program)(b:Builtin)(args:List Operand)(ts:List TypeId):Option POp:=
 match b,args,ts with
 |.len,[x],[t]=>match Ee x,P.underlying t with
  |some a,s_ .string=>s_ (.len t_ a)
  |some a,s_ (.slice _)=>s_ (.len f_ a)
  |some _,s_ (.array n _)=>s_ (.lenA n)
  |_,_=>none
 |.append,[s,x],[t,tx]=>match Ee s,Ee x,P.underlying t,P.underlying tx with
  |some a,s_ b,s_ (.slice e),s_ (.slice _)|some a,s_ b,s_ (.slice e),s_ .string=>match P.info? e with
   |some i=>match i.zero with
    |some z=>if z.cells.size=i.size then s_ (.app i.size i.bytes a b)else none
    |none=>none
   |none=>none
  |_,_,_,_=>none
 |.copy,[d,s],[t,_]=>match Ee d,Ee s,P.underlying t with
  |some a,s_ b,s_ (.slice e)=>match EL P e with
   |some 1=>s_ (.cpy 1 a b)
   |_=>none
  |_,_,_=>none
 |.min,[x,y],_=>match Ee x,Ee y with
  |some a,s_ b=>s_ (.mm f_ a b)
  |_,_=>none
 |.max,[x,y],_=>match Ee x,Ee y with
  |some a,s_ b=>s_ (.mm t_ a b)
  |_,_=>none
 |.min,[x,y,z],_=>match Ee x,Ee y,Ee z with
  |some a,s_ b,s_ c=>s_ (.mm3 f_ a b c)
  |_,_,_=>none
 |.max,[x,y,z],_=>match Ee x,Ee y,Ee z with
  |some a,s_ b,s_ c=>s_ (.mm3 t_ a b c)
  |_,_,_=>none
 |_,_,_=>none
def DP(P:Program)(il:List Nat):Op→Option POp
 |.move x | .assign x=>(Ee x).map .mov
 |.pick c a b=>match Ee c,Ee a,Ee b with
  |some c,s_ a,s_ b=>s_ (.pick c a b)
  |_,_,_=>none
 |.alloc t=>(IG P t).map fun d=>.box (.c d)
 |.box _ x=>(Ee x).map .box
 |.build t parts=>match IG P t,jy P t with
  |some (.agg zs),s_ pl=>(TE pl parts.toList).map (.bld zs)
  |_,_=>none
 |.buildSlice t len parts=>match P.underlying t with
  |some (.slice e)=>match P.info? e with
   |some i=>match i.zero,Vk 0 parts.toList with
    |some _,s_ l=>if l.length=len then s_ (.bslc i.size l)else none
    |_,_=>none
   |none=>none
  |_=>none
 |.load t a=>match Ee a,EL P t,ES P t with
  |some a,s_ n,s_ ag=>s_ (.load n ag a)
  |_,_,_=>none
 |.store t a x=>match Ee a,Ee x,EL P t with
  |some a,s_ x,s_ n=>s_ (.stor n a x)
  |_,_,_=>none
 |.nilCheck x=>(Ee x).map .nilc
 |.binOp op t x y _=>match Ee x,Ee y with
  |some a,s_ b=>gu P op t a b
  |_,_=>none
 |.unOp op _ x=>(Ee x).map (.un op)
 |.convert src dst x=>match Ee x with
  |some a=>iw P src dst a
  |none=>none
 |.makeSlice t l c=>match Ee l,Ee c,P.underlying t with
  |some l,s_ c,s_ (.slice e)=>match P.info? e with
   |some i=>match i.zero with
    |some z=>(QI z).map fun zd=>.mkslc i.size i.bytes zd l c
    |none=>none
   |none=>none
  |_,_,_=>none
 |.slice t x lo hi mx=>match Ee x,TJ lo,TJ hi,TJ mx with
  |some a,s_ lo,s_ hi,s_ mx=>dM P t a lo hi mx
  |_,_,_,_=>none
 |.fieldAddr s x f=>match Ee x,P.underlying s with
  |some a,s_ (.struct fields)=>match fields[f]? with
   |some fd=>match EL P fd.type with
    |some n=>if n=0 then none else s_ (.fld fd.offset a)
    |none=>none
   |none=>none
  |_,_=>none
 |.field s x f=>match Ee x,P.underlying s with
  |some a,s_ (.struct fields)=>match fields[f]? with
   |some fd=>match EL P fd.type,ES P fd.type with
    |some n,s_ ag=>s_ (.fldv fd.offset n ag a)
    |_,_=>none
   |none=>none
  |_,_=>none
 |.indexAddr t x i=>match Ee x,Ee i,P.underlying t with
  |some a,s_ i,s_ (.array len e)=>(EL P e).map fun n=>.idxA len n a i
  |some a,s_ i,s_ (.slice e)=>(EL P e).map fun n=>.idxS n a i
  |_,_,_=>none
 |.index t x i=>match Ee x,Ee i,P.underlying t with
  |some a,s_ i,s_ (.array len e)=>match EL P e,ES P e with
   |some n,s_ ag=>s_ (.idxV len n ag a i)
   |_,_=>none
  |some a,s_ i,s_ .string=>s_ (.idx a i)
  |_,_,_=>none
 |.extract x i=>(Ee x).map fun a=>.ext a i
 |.makeMap t none=>match RA P t with
  |some (_,_,sz,_)=>s_ (.mkmap sz)
  |none=>none
 |.mapUpdate t m k v | .insert t m k v=>match RA P t,Ee m,Ee k,Ee v with
  |some (_,_,sz,ks),s_ m,s_ k,s_ v=>s_ (.mapup sz ks m k v)
  |_,_,_,_=>none
 |.lookup t m k ok=>match RA P t,Ee m,Ee k with
  |some (_,et,sz,ks),s_ m,s_ k=>(IG P et).map fun zd=>.mapget sz ks ok zd m k
  |_,_,_=>match gL P t,Ee m,Ee k with
   |some zd,s_ m,s_ k=>s_ (.mapget 0 [] ok zd m k)
   |_,_,_=>none
 |.call c=>match c.callee with
  |.builtin b=>fM P b c.args.toList c.argTypes.toList
  |.value (.func f)=>match P.funcs[f]?,IU c.args.toList with
   |some fn,s_ l=>if fn.body.isSome && !(fn.name == "runtime.NumGoroutine") && decide (f<50000000)then s_ (if il.contains (f+1000000)then .mcall f l else if il.contains (f+90000000)then .rcall f l else if il.contains f then .icall f l else .call f l)else if fn.body.isSome then none else s_ (.call (f+50000000) l)
   |_,_=>none
  |.value x=>match Ee x,IU c.args.toList with
   |some a,s_ l=>s_ (.callv a l)
   |_,_=>none
  |_=>none
 |.makeFunc (.func f) first caps=>if decide (f<5000000)then(if first.isEmpty then(IU caps.toList).map (.mkclo f)else if caps.isEmpty then(IU first.toList).map (.mkclo (f+5000000))else none)else none
 |_=>none
def Contract(P:Program)(G:DB)(f:Nat)(sp:List D→Option D):Prop:=
 ∀ (w:World) (g:Ghost) (ds:List D) (vs:List Value) (d:D),sp ds=s_ d→GlobOK G w g→(∀ b o,g.Im b o→(w.cell? ⟨b,o,none⟩).isSome=t_)→ds.length=vs.length→
  (∀ (i:Nat) d v,ds[i]?=s_ d→vs[i]?=s_ v→RepV w g [] d v)→(∀ d∈ds,purA d=t_)→
  Calls P f vs.toArray w fun e w'=>∃ v g',e=.returned v∧RepV w' g' [] d v∧purR d=t_∧ImLe w g w' g'∧(∀ b o,g'.Im b o→g.Im b o∨w.heap.size≤b)∧
   (∀ b o,g'.Im b o→(w'.cell? ⟨b,o,none⟩).isSome=t_)∧Below w.heap.size w w'
def IContract(P:Program)(G:DB)(f:Nat)(sp:List D→St→Option (D×St)):Prop:=
 (∃ fn,P.funcs[f]?=s_ fn∧fn.body.isSome=t_∧(fn.name == "runtime.NumGoroutine")=f_)∧
 ∀ (base:Nat) (w:World) (g:Ghost) (st st':St) (ds:List D) (vs:List Value) (d:D),sp ds st=s_ (d,st')→SR base w g st→GlobOK G w g→ds.length=vs.length→
  (∀ (i:Nat) d v,ds[i]?=s_ d→vs[i]?=s_ v→RepV w g st d v)→
  Calls P f vs.toArray w fun e w'=>∃ v g',e=.returned v∧Go1 base w g st w' g' st'∧RepV w' g' st' d v
def uB(P:Program)(base:Nat)(w:World)(g:Ghost)(st st':St)(l:Nat)(vs:List Value)(d:D):Prop:=
 ∃ f tmps assign body,(Instr.yield l vs.toArray).run P w=.ok (.round l f tmps assign body) w∧
  RoundIn Fence.wide 0 P l f tmps assign body w fun e w'=>∃ v g',e=.returned v∧Go1 base w g st w' g' st'∧RepV w' g' st' d v
def YOK(P:Program)(G:DB)(y:Nat→List D→St→Option (D×St))(base:Nat)(w0:World)(g0:Ghost)(st0:St):Prop:=
 ∀ (l:Nat) (w:World) (g:Ghost) (st st':St) (ds:List D) (vs:List Value) (d:D),Go1 base w0 g0 st0 w g st→GlobOK G w g→y l ds st=s_ (d,st')→ds.length=vs.length→
  (∀ (i:Nat) d v,ds[i]?=s_ d→vs[i]?=s_ v→RepV w g st d v)→uB P base w g st st' l vs d
def Yht(P:Program)(G:DB)(f:Nat)(sp:(List D→St→Option (D×St))→List D→St→Option (D×St)):Prop:=
 (∃ fn,P.funcs[f]?=s_ fn∧fn.body.isSome=t_∧(fn.name == "runtime.NumGoroutine")=f_)∧
 ∀ (base:Nat) (w:World) (g:Ghost) (st st':St) (ds:List D) (vs:List Value) (d:D) (l:Nat) (y:List D→St→Option (D×St)),YOK P G (fun l' ds st=>if l'=l then y ds st else none) base w g st→
  sp y ds st=s_ (d,st')→SR base w g st→GlobOK G w g→ds.length=vs.length→(∀ (i:Nat) d v,ds[i]?=s_ d→vs[i]?=s_ v→RepV w g st d v)→
  Calls P f (Value.func (.yield l) #[] #[]::vs).toArray w fun e w'=>∃ v g',e=.returned v∧Go1 base w g st w' g' st'∧RepV w' g' st' d v
def YO6(P:Program)(f:Nat)(sp:List D→Option D):Prop:=
 ∀ (ys:List D) (r:D),sp ys=s_ r→∀ (w:World) (g:Ghost) (st:St) (vs:List Value),ys.length=vs.length→(∀ (i:Nat) y v,ys[i]?=s_ y→vs[i]?=s_ v→RepV w g st y v)→
  ∃ v,(callFunc f vs.toArray).run P w=.ok (.value v) w∧∀ (g:Ghost) (st:St),RepV w g st r v
def NS:D→Value
 |.int k n=>.int k n
 |_=>undef
def Hj:D→Value
 |.agg l=>.agg (l.map NS).toArray
 |d=>NS d
def Md(t:Nat)(d:D):List PanicEntry:=[{v:=.iface t (Hj d),recovered:=f_}]
def eV(t:Nat)(d:D):List PanicEntry:=[{v:=.iface t (Hj d),recovered:=t_}]
variable {v:Value}{d:D}{g:Ghost}{w:World}
theorem Ysd{st:St}(h:RepV w g st d v)(hi:QV d=t_):v=NS d:=by cases h <;> first|rfl|(simp[QV]at hi; done)
theorem Yia{st:St}(h:RepV w g st d v)(hi:Mt d=t_):v=Hj d:=by
 cases h with
 |int k n=>rfl
 |agg ds vs hl hv=>
  have:vs=ds.map NS:=by
   apply List.ext_getElem (by simp[hl]);intro i M h2;have E:i<ds.length:=by omega
   have N:ds[i]?=s_ ds[i]:=Aj E;have:=Ysd (hv i ds[i] vs[i] N (Aj M)) (Ah.1 hi _ (Bv E));grind
  rw[this]; rfl
 |_=>simp[Mt,QV]at hi
def Rk(P:Program)(G:DB)(f:Nat)(sp:List D→St→Option (Nat×D×St)):Prop:=
 (∃ fn,P.funcs[f]?=s_ fn∧fn.body.isSome=t_∧(fn.name == "runtime.NumGoroutine")=f_)∧
 ∀ (base:Nat) (w:World) (g:Ghost) (st st':St) (ds:List D) (vs:List Value) (t:Nat) (d:D),sp ds st=s_ (t,d,st')→SR base w g st→GlobOK G w g→ds.length=vs.length→
  (∀ (i:Nat) d v,ds[i]?=s_ d→vs[i]?=s_ v→RepV w g st d v)→
  Calls P f vs.toArray w fun e w'=>∃ g',e=.panicked (Md t d)∧Go1 base w g st w' g' st'
def Ub(P:Program)(G:DB)(f:Nat)(H:Nat→D→List D→St→Option St):Prop:=
 (∃ fn,P.funcs[f]?=s_ fn∧fn.body.isSome=t_∧(fn.name == "runtime.NumGoroutine")=f_)∧
 ∀ (base:Nat) (w:World) (g:Ghost) (st:St) (das:List D) (vs:List Value),SR base w g st→GlobOK G w g→das.length=vs.length→(∀ (i:Nat) d v,das[i]?=s_ d→vs[i]?=s_ v→RepV w g st d v)→
  (CallsDIn Fence.wide 0 P f vs.toArray .returning w fun e u w'=>e=.returned (.tuple #[])∧u=.returning∧∃ g',Go1 base w g st w' g' st)∧
  ∀ t d st',H t d das st=s_ st'→CallsDIn Fence.wide 0 P f vs.toArray (.panicking (Md t d)) w fun e u w'=>e=.returned (.tuple #[])∧u=.panicking (eV t d)∧∃ g',Go1 base w g st w' g' st'
structure TblOK (P:Program) (G:DB) (T:Tbl):Prop where
 p:∀ f sp,T.p f=s_ sp→(f<50000000∧Contract P G f sp)∨∃ f',f=f'+50000000∧YO6 P f' sp
 i:∀ f sp,T.i f=s_ sp→IContract P G f sp
 m:∀ f sp,T.m f=s_ sp→IContract P G f (fun ds st=>(sp ds).map fun r=>(r.1 st.length,st++r.2 st.length))
 r:∀ f sp,T.r f=s_ sp→Yht P G f sp
 x:∀ f sp,T.x f=s_ sp→Rk P G f sp
 q:∀ f sp,T.q f=s_ sp→IContract P G f (fun ds st=>(Jk sp ds st).map (·,st))
variable {st':St}{g':Ghost}{w':World}
section
variable {P:Program} {base:Nat} {w:World} {g:Ghost} {st:St}
theorem SQ(st:St)(k:Nat)(key:Nat):(st.modify k fun o=>{o with lent:=t_})[key]?=(st[key]?).map fun o=>if k=key then {o with lent:=t_} else o:=by grind
theorem yz(st:St)(k key tot off len:Nat):HO (st.modify k fun o=>{o with lent:=t_}) key tot off len=HO st key tot off len:=by unfold HO;grind
theorem Yhm(st:St)(k key off n sz:Nat)(ag:Bool):It (st.modify k fun o=>{o with lent:=t_}) key off n sz ag=It st key off n sz ag:=by unfold It KG;grind
theorem wI(st:St)(k:Nat)(d:D):D2 (st.modify k fun o=>{o with lent:=t_}) d=D2 st d:=by cases d <;> simp only[D2,yz,Yhm]
theorem wJ(st:St)(k:Nat):∀ (l:List D),Es (st.modify k fun o=>{o with lent:=t_}) l=Es st l
 |[]=>rfl
 |d::l=>by simp only[Es,wI,wJ st k l]
theorem Ymo(st:St)(k:Nat)(d:D):Ej (st.modify k fun o=>{o with lent:=t_}) d=Ej st d:=by cases d <;> simp only[Ej,wI,wJ]
theorem YK(st:St)(k:Nat):∀ (l:List D),EG (st.modify k fun o=>{o with lent:=t_}) l=EG st l
 |[]=>rfl
 |d::l=>by simp only[EG,Ymo,YK st k l]
theorem uX(l:List D):∀ (ks:List Nat) (st:St),EG (lend ks st) l=EG st l
 |[],_=>rfl
 |k::r,st=>by rw[lend,uX l r,YK]
theorem Ylr(ks:List Nat){g:Ghost}{st:St}(hs:∀ (k:Nat) o',st'[k]?=s_ o'→∃ o,st[k]?=s_ o∧o'.els=o.els∧o'.sz=o.sz∧o'.row=o.row)(hb:g'.β=g.β)
  (h:∀ k∈ks,∀ o,st[k]?=s_ o→o.isMap=f_→∀ x,x<o.els.length*o.sz→g'.Im (g.β k) x):LK g' st' ks:=by intro k hk o' E hm x M;obtain⟨o,ho,e1,N,e3⟩:=hs k o' E;rw[e1,N]at M;rw[hb];exact h k hk o ho ((Q3 e3 N).symm.trans hm) x M
theorem Yb0:∀ (ks:List Nat) (st:St) (k:Nat) (o':Obj),(lend ks st)[k]?=s_ o'→∃ o,st[k]?=s_ o∧o'.els=o.els∧o'.sz=o.sz∧o'.row=o.row
 |[],_,_,o',h=>⟨o',h,rfl,rfl,rfl⟩
 |q::r,st,k,o',h=>by
  obtain⟨o1,E,M,N,e3⟩:=Yb0 r _ k o' h;grind
theorem SD(M:SR base w g st){ds ys:List D}(h:EG st ds=s_ ys):∃ g',Go1 base w g st w g' (lend (ds.flatMap keys) st)∧g'.β=g.β∧ys.length=ds.length∧(∀ y∈ys,purA y=t_)∧
  ∀ (i:Nat) y v,ys[i]?=s_ y→(∀ d,ds[i]?=s_ d→RepV w g st d v)→RepV w g' (lend (ds.flatMap keys) st) y v:=by obtain⟨g',E,hb,_,hl⟩:=M.lend (ds.flatMap keys);have N:=Ylr (ds.flatMap keys) (Yb0 (ds.flatMap keys) st) hb hl;obtain⟨h1,h2,h3⟩:=Yci E.sr ((uX ds _ st).trans h) N;exact⟨g',E,hb,h1,h3,fun i y v hy hv=>h2 i y v hy fun d hd=>E.rep (hv d hd)⟩
theorem YN(h:RepV w g st d v)(hn:d.noRef1=t_):RepV w' g' st' d v:=by cases h <;> first|exact .int _ _|exact .bool _|exact .str _|(simp[D.noRef1]at hn; done)
theorem vw(h:RepV w g st d v)(hn:d.noRef=t_):RepV w' g' st' d v:=by
 cases d with
 |agg l=>
  cases h with
  |agg _ vs M N=>
   simp only[D.noRef,Ah]at hn;exact .agg l vs M fun i d v E hv=>YN (N i d v E hv) (hn d (An E))
 |tup l=>
  cases h with
  |tup _ vs M N=>
   simp only[D.noRef,Ah]at hn;refine .tup l vs M fun i d v E hv=>?_;have h3:=hn d (An E);have h4:=N i d v E hv
   cases d with
   |agg l'=>
    cases h4 with
    |agg _ ac h5 h6=>
     simp only[Ah]at h3;exact .agg l' ac h5 fun i d v E hv=>YN (h6 i d v E hv) (h3 d (An E))
   |_=>exact YN h4 h3
 |_=>exact YN h hn
end
end Go.Proofs.YtijnglngaogdjaaGreatDoor.PI
namespace Go.Proofs.YtijnglngaogdjaaGreatDoor.PI
open Go Go.RowKit
variable {s:Sem Value}{v:Value}{t:TypeId}{f len off:Nat}{vs:List Value}{ds ys:List D}{T:Tbl}{G:DB}{sp:List D→St→Option (D×St)}{p:POp}{fr:Frame}{dst:Option Tmp}{parts:Array (Nat×Operand)}{x:Operand}{c:Call}{r:Option Nat}
section
variable {P:Program} {il:List Nat} {base:Nat} {w:World} {g:Ghost} {st st':St} {a:Act} {o:Oper} {next:Act→World→Prop} {Q:Exit→Act→World→Prop} {d:D}
theorem Pw(E:execOp a.eval o=(do pure (.value (← s))))(M:RunsTo P base w g st s d st')
  (hn:∀ v w' g',Go1 base w g st w' g' st'→RepV w' g' st' d v→next (a.put o.dst v) w'):o.wp P a w next Q:=by obtain⟨v,w',g',N,h2,h3⟩:=M;unfold Oper.wp;rw[E];simp only[Sem.run_bind,N,Result.andThen_ok,Sem.run_pure];exact hn v w' g' h2 h3
theorem RunsTo.congr{s':Sem Value}(h:s.run P w=s'.run P w)(E:RunsTo P base w g st s' d st'):RunsTo P base w g st s d st':=by obtain⟨v,w',g',M,N,h3⟩:=E;exact⟨v,w',g',h.trans M,N,h3⟩
theorem GQ(E:SR base w g st)(M:execOp a.eval o=(do pure (.value (← s))))(N:s.run P w=.ok v w)(h3:RepV w g st d v)
  (hn:∀ v w' g',Go1 base w g st w' g' st→RepV w' g' st d v→next (a.put o.dst v) w'):o.wp P a w next Q:=
 Pw M (.still E N h3) hn
theorem yB{pl:Nat→Option (Nat×Nat)}{ρ:PA→D}{N:Operand→Value}(ac:∀ x E,Ee x=s_ E→RepV w g st (ρ E) (N x)):∀ {l:List (Nat×Operand)} {M:List (Nat×Nat×PA)},TE pl l=s_ M→
  ∃ qs:List (Nat×Nat×Nat×D×Value),qs.map (fun p=>(p.2.1,p.2.2.1,p.2.2.2.1))=M.map (fun p=>(p.1,p.2.1,ρ p.2.2))∧qs.map (fun p=>(p.1,p.2.2.2.2))=l.map (fun p=>(p.1,N p.2))∧
   (∀ p∈qs,pl p.1=s_ (p.2.1,p.2.2.1))∧∀ p∈qs,RepV w g st p.2.2.2.1 p.2.2.2.2
 |[],M,h=>by simp[TE]at h; subst h; exact⟨[],rfl,rfl,fun p hp=>(by cases hp),fun p hp=>(by cases hp)⟩
 |(i,x)::r,M,h=>by
  unfold TE at h
  split at h
  ·rename_i off size E l h1 h2 h3;simp only[Dp]at h; subst h;obtain⟨qs,e1,e2,e3,e4⟩:=yB ac h3;refine⟨(i,off,size,ρ E,N x)::qs,by simp[e1],by simp[e2],?_,?_⟩
   ·grind
   ·grind
  ·cases h
theorem yA{ρ:PA→D}{M:Operand→Value}(aa:∀ x N,Ee x=s_ N→RepV w g st (ρ N) (M x)):∀ {k:Nat} {l:List (Nat×Operand)} {E:List PA},Vk k l=s_ E→
  ∃ vs:List Value,l.map (fun p=>(p.1,M p.2))=(vs.zipIdx k).map (fun x=>(x.2,x.1))∧vs.length=E.length∧∀ (i:Nat) d v,(E.map ρ)[i]?=s_ d→vs[i]?=s_ v→RepV w g st d v
 |k,[],E,h=>by simp[Vk]at h; subst h; exact⟨[],rfl,rfl,fun i d v h=>by simp at h⟩
 |k,(i,x)::r,E,h=>by
  unfold Vk at h
  split at h
  ·rename_i N l h1 h2;simp only[As,Dp]at h;obtain⟨rfl,rfl⟩:=h;obtain⟨vs,e1,e2,e3⟩:=yA aa h2;refine⟨M x::vs,by simp[e1],by simp[e2],?_⟩;grind
  ·cases h
theorem Qi{ρ:PA→D}{N:Operand→Value}(aa:∀ x M,Ee x=s_ M→RepV w g st (ρ M) (N x)):∀ {l:List Operand} {E:List PA},IU l=s_ E→
  E.length=l.length∧∀ (i:Nat) d v,(E.map ρ)[i]?=s_ d→(l.map N)[i]?=s_ v→RepV w g st d v
 |[],E,h=>by simp[IU]at h; subst h; exact⟨rfl,fun i d v h=>by simp at h⟩
 |x::r,E,h=>by
  unfold IU at h
  split at h
  ·rename_i M l h1 h2;simp only[Dp]at h; subst h;obtain⟨e2,e3⟩:=Qi aa h2;grind
  ·cases h
theorem Yqr(ba:SR base w g st){zs:List D}{pl:Nat→Option (Nat×Nat)}{l:List (Nat×Operand)}{ps:List (Nat×Nat×PA)}{ρ:PA→D}{ev:Operand→Value}{parts:Array (Nat×Value)}{cs:List D}
  (ah:∀ x pa,Ee x=s_ pa→RepV w g st (ρ pa) (ev x)) (N:IG P t=s_ (.agg zs)) (E:jy P t=s_ pl) (hp:TE pl l=s_ ps) (a1:parts.toList=l.map fun p=>(p.1,ev p.2))
  (h:Ed zs (ps.map fun p=>(p.1,p.2.1,ρ p.2.2))=s_ cs):∃ v,(Instr.build t parts).run P w=.ok v w∧RepV w g st (.agg cs) v:=by
 obtain⟨qs,e1,e2,e3,e4⟩:=yB ah hp;unfold IG at N
 split at N
 case h_2=>cases N
 rename_i i hi
 split at N
 case h_2=>cases N
 rename_i z aa;obtain⟨vs,rfl,hl,hr⟩:=Yd6 (w:=w) (g:=g) (st:=st) N rfl;obtain⟨M,h1,h2,h3⟩:=uJ (place:=pl) qs zs vs.toArray cs (by rw[e1]; exact h) e3 e4 (by simpa using hl) (fun j d v hd hv=>hr j d v hd (by simpa using hv));refine⟨.agg M,?_,?_⟩
 ·refine run_build w t parts M ?_;unfold Program.built;unfold jy at E;rw[hi]
  split at E
  ·rename_i n e hu
   split at E
   ·rename_i ie a2;simp only[Dp]at E;subst E;simp only[hu,aa,a2,Value.cells];grind
   ·cases E
  ·rename_i fields hu
   split at E
   ·rename_i places ad;simp only[Dp]at E;subst E;simp only[hu,aa,ad,Value.cells];grind
   ·cases E
  ·cases E
 ·have:=RepV.agg (w:=w) (g:=g) (st:=st) cs M.toList (by simpa using h2) (fun i d v hd hv=>h3 i d v hd (by simpa using hv));omega
theorem YB0{key:Nat}(h:RepV w g st (.ptr key off) v):∃ q,v=.pointer (s_ q):=by cases h; exact⟨_,rfl⟩
theorem Yv9{E:D}(h:RepV w g st (.eptr E off) v):∃ q,v=.pointer (s_ q):=by cases h; exact⟨_,rfl⟩
theorem YEu(N:SR base w g st){sp:List D→Option D}{r:D}(hE:YO6 P f sp)(hi:EG st ds=s_ ys)(hr:sp ys=s_ r)(hl:ds.length=vs.length)
  (M:∀ (i:Nat) d v,ds[i]?=s_ d→vs[i]?=s_ v→RepV w g st d v) (he:execOp a.eval o=callFunc f vs.toArray)
  (hn:∀ v w' g',Go1 base w g st w' g' (if r.noRef then st else lend (ds.flatMap keys) st)→RepV w' g' (if r.noRef then st else lend (ds.flatMap keys) st) r v→next (a.put o.dst v) w'):o.wp P a w next Q:=by
 obtain⟨g1,aa,_,ab,ae,ac⟩:=SD N hi;obtain⟨v,h1,h2⟩:=hE ys r hr w g1 _ vs (ab.trans hl) (fun i y v hy hv=>ac i y v hy (fun d hd=>M i d v hd hv));unfold Oper.wp;rw[he,h1]
 by_cases E:r.noRef=t_
 ·exact hn v w g (by rw[if_pos E]; exact Go1.refl N) (h2 _ _)
 ·exact hn v w g1 (by rw[if_neg E]; exact aa) (h2 _ _)
theorem Ywm(hT:TblOK P G T)(hS:SR base w g st)(hG:GlobOK G w g){fn:Func}{sp:List D→Option D}{r:D}(hfn:P.funcs[f]?=s_ fn)(hb:fn.body.isSome=t_)(hname:(fn.name == "runtime.NumGoroutine")=f_)(hf5:f<50000000)
  (hsp:T.p f=s_ sp) (hi:EG st ds=s_ ys) (hr:sp ys=s_ r) (hl:ds.length=vs.length) (hrep:∀ (i:Nat) d v,ds[i]?=s_ d→vs[i]?=s_ v→RepV w g st d v)
  (he:execOp a.eval o=callFunc f vs.toArray)
  (hn:∀ v w' g',Go1 base w g st w' g' (if r.noRef then st else lend (ds.flatMap keys) st)→RepV w' g' (if r.noRef then st else lend (ds.flatMap keys) st) r v→next (a.put o.dst v) w'):o.wp P a w next Q:=by
 obtain⟨g1,hgo,_,hyl,hpure,hyr⟩:=SD hS hi;have hC:Contract P G f sp:=((hT.p f sp hsp).resolve_right (fun⟨f',e,_⟩=>by omega)).2;have hc:=hC w g1 ys vs r hr (hG.mono hgo.im) hgo.sr.im (hyl.trans hl) (fun i y v hy hv=>(hyr i y v hy (fun d hd=>hrep i d v hd hv)).purA (ImLe.refl _ _) (hpure y (An hy))) hpure;unfold Oper.wp;rw[he]
 have hrun:(callFunc f vs.toArray).run P w=.ok (.enter f vs.toArray) w:=by
  have hbn:¬ fn.body=none:=by
   grind
  have hn':¬ fn.name= "runtime.NumGoroutine":=by simpa using hname
  simp[callFunc,hfn,hn',hbn]
 rw[hrun,Oper.upon_enter];refine hc.mono ?_;rintro e w' ⟨v,g',rfl,h1,h2,h3,h4,h5,h6⟩;have hbes:Beside w w':=⟨h6.os,h6.tape,h6.output,h6.size⟩
 by_cases hnr:r.noRef=t_
 ·refine hn v w' {g with Im:=g.Im} ?_ (by rw[if_pos hnr]; exact vw h1 hnr);rw[if_pos hnr];refine hS.more hbes h6.block (fun _ _ h=>h) (fun _ _ h=>.inl h) (fun b o hb=>?_);have:w'.cell? ⟨b,o,none⟩=w.cell? ⟨b,o,none⟩:=by simp only[World.cell?,h6.block b (hS.im_lt hb)]
  rw[this]; exact hS.im b o hb
 ·refine hn v w' {g1 with Im:=g'.Im} ?_ ?_
  ·rw[if_neg hnr];exact hgo.trans (hgo.sr.more hbes h6.block (fun b o h=>(h3.im b o h).1) (fun b o h=>h4 b o h) h5)
  ·exact RepV.purR (g:=g') (g':={g1 with Im:=g'.Im}) ⟨fun b o h=>⟨h,rfl⟩,fun _ _ h _=>h⟩ h1 h2
theorem nP(hC:IContract P G f sp)(hS:SR base w g st)(hG:GlobOK G w g){r:D}
  (hr:sp ds st=s_ (r,st')) (hl:ds.length=vs.length) (hrep:∀ (i:Nat) d v,ds[i]?=s_ d→vs[i]?=s_ v→RepV w g st d v)
  (he:execOp a.eval o=callFunc f vs.toArray)
  (hn:∀ v w' g',Go1 base w g st w' g' st'→RepV w' g' st' r v→next (a.put o.dst v) w'):o.wp P a w next Q:=by
 obtain⟨⟨fn,hfn,hb,hname⟩,hc⟩:=hC;unfold Oper.wp;rw[he]
 have hrun:(callFunc f vs.toArray).run P w=.ok (.enter f vs.toArray) w:=by
  have hbn:¬ fn.body=none:=by
   grind
  have hn':¬ fn.name= "runtime.NumGoroutine":=by simpa using hname
  simp[callFunc,hfn,hn',hbn]
 rw[hrun,Oper.upon_enter];refine(hc base w g st st' ds vs r hr hS hG hl hrep).mono ?_;grind
theorem mV(N:TblOK P G T)(hS:SR base w g st)(hG:GlobOK G w g){r:D}
  (M:T.i f=s_ sp) (hr:sp ds st=s_ (r,st')) (hl:ds.length=vs.length) (E:∀ (i:Nat) d v,ds[i]?=s_ d→vs[i]?=s_ v→RepV w g st d v)
  (he:execOp a.eval o=callFunc f vs.toArray)
  (hn:∀ v w' g',Go1 base w g st w' g' st'→RepV w' g' st' r v→next (a.put o.dst v) w'):o.wp P a w next Q:=nP (N.i f sp M) hS hG hr hl E he hn
theorem Ygg{sp:List D→St→Option (Nat×D×St)}(hC:Rk P G f sp)(hS:SR base w g st)(hG:GlobOK G w g){t:Nat}{d:D}
  (hr:sp ds st=s_ (t,d,st')) (hl:ds.length=vs.length) (hrep:∀ (i:Nat) d v,ds[i]?=s_ d→vs[i]?=s_ v→RepV w g st d v)
  (he:execOp a.eval o=callFunc f vs.toArray)
  (hn:∀ w' g',Go1 base w g st w' g' st'→Q (.panic (Md t d)) a w'):o.wp P a w next Q:=by
 obtain⟨⟨fn,hfn,hb,hname⟩,hc⟩:=hC;unfold Oper.wp;rw[he]
 have hrun:(callFunc f vs.toArray).run P w=.ok (.enter f vs.toArray) w:=by
  have hbn:¬ fn.body=none:=by
   grind
  have hn':¬ fn.name= "runtime.NumGoroutine":=by simpa using hname
  simp[callFunc,hfn,hn',hbn]
 rw[hrun,Oper.upon_enter];refine(hc base w g st st' ds vs t d hr hS hG hl hrep).mono ?_;grind
theorem Ys1(x:Operand){ty:TypeId}{pos:String}{after:Array Edge}{guard:Option (Nat×Bool)}(af:TblOK P G T)(hS:SR base w g st)(hG:GlobOK G w g)(M:FR w g st fr a)(N:DP P il (.move x)=s_ p)
  (hx:p.exec T (DL G fr) st=s_ (d,st')) (hn:∀ v w' g',Go1 base w g st w' g' st'→RepV w' g' st' d v→next (a.put dst v) w'):Oper.wp P {dst:=dst,op:=.move x,type:=ty,pos:=pos,after:=after,guard:=guard} a w next Q:=by have ab:∀ x E,Ee x=s_ E→RepV w g st (DL G fr E) (a.eval x):=fun x E h=>G7 hG M h;clear M;simp only[DP,D0]at N;obtain⟨E,ac,rfl⟩:=N;simp only[POp.exec,Dp,DO]at hx;obtain⟨rfl,rfl⟩:=hx;exact GQ (s:=pure (a.eval x)) hS (by simp[execOp]) rfl (ab x E ac) hn
theorem Yeq(x:Operand){ty:TypeId}{pos:String}{after:Array Edge}{guard:Option (Nat×Bool)}(af:TblOK P G T)(hS:SR base w g st)(hG:GlobOK G w g)(M:FR w g st fr a)(N:DP P il (.assign x)=s_ p)
  (hx:p.exec T (DL G fr) st=s_ (d,st')) (hn:∀ v w' g',Go1 base w g st w' g' st'→RepV w' g' st' d v→next (a.put dst v) w'):Oper.wp P {dst:=dst,op:=.assign x,type:=ty,pos:=pos,after:=after,guard:=guard} a w next Q:=by have ab:∀ x E,Ee x=s_ E→RepV w g st (DL G fr E) (a.eval x):=fun x E h=>G7 hG M h;clear M;simp only[DP,D0]at N;obtain⟨E,ac,rfl⟩:=N;simp only[POp.exec,Dp,DO]at hx;obtain⟨rfl,rfl⟩:=hx;exact GQ (s:=pure (a.eval x)) hS (by simp[execOp]) rfl (ab x E ac) hn
theorem Ys0(c x y:Operand){ty:TypeId}{pos:String}{after:Array Edge}{guard:Option (Nat×Bool)}(af:TblOK P G T)(hS:SR base w g st)(hG:GlobOK G w g)(hF:FR w g st fr a)(E:DP P il (.pick c x y)=s_ p)
  (M:p.exec T (DL G fr) st=s_ (d,st')) (hn:∀ v w' g',Go1 base w g st w' g' st'→RepV w' g' st' d v→next (a.put dst v) w'):Oper.wp P {dst:=dst,op:=.pick c x y,type:=ty,pos:=pos,after:=after,guard:=guard} a w next Q:=by
 have ab:∀ x N,Ee x=s_ N→RepV w g st (DL G fr N) (a.eval x):=fun x N h=>G7 hG hF h;clear hF;simp only[DP]at E
 split at E
 ·rename_i pc px py h1 h2 h3;simp only[Dp]at E; subst E;simp only[POp.exec]at M
  split at M
  ·rename_i b hb;simp only[Dp,DO]at M;obtain⟨rfl,rfl⟩:=M;have hc:=ab c pc h1;rw[hb]at hc;have hc:=Mm hc;refine GQ (s:=pure (if b then a.eval x else a.eval y)) hS (by simp[execOp,hc,asBool]) rfl ?_ hn;grind
  ·cases M
 ·cases E
theorem Yi7(t:TypeId){ty:TypeId}{pos:String}{after:Array Edge}{guard:Option (Nat×Bool)}(af:TblOK P G T)(hS:SR base w g st)(hG:GlobOK G w g)(hF:FR w g st fr a)(ht:DP P il (.alloc t)=s_ p)
  (M:p.exec T (DL G fr) st=s_ (d,st')) (hn:∀ v w' g',Go1 base w g st w' g' st'→RepV w' g' st' d v→next (a.put dst v) w'):Oper.wp P {dst:=dst,op:=.alloc t,type:=ty,pos:=pos,after:=after,guard:=guard} a w next Q:=by
 have ah:∀ x N,Ee x=s_ N→RepV w g st (DL G fr N) (a.eval x):=fun x N h=>G7 hG hF h;clear hF;simp only[DP,D0]at ht;obtain⟨zd,E,rfl⟩:=ht;simp only[POp.exec]at M
 split at M
 case isFalse=>cases M
 rename_i hc
 replace hc:zd.cells.all D.isCell=t_:=hc
 simp only[Dp,DO]at M;obtain⟨rfl,rfl⟩:=M;unfold IG at E
 split at E
 case h_2=>cases E
 rename_i i hi
 split at E
 case h_2=>cases E
 rename_i z ac;refine Pw (s:=Instr.alloc t t_ (.tuple #[])) rfl (RunsTo.congr ?_ (Yq1 (t:=t) hS hc (SN E))) hn;simp[Instr.alloc,zeroValue,typeInfo,hi,ac]
theorem YBi(t:TypeId)(x:Operand){ty:TypeId}{pos:String}{after:Array Edge}{guard:Option (Nat×Bool)}(af:TblOK P G T)(hS:SR base w g st)(hG:GlobOK G w g)(N:FR w g st fr a)(ht:DP P il (.box t x)=s_ p)
  (E:p.exec T (DL G fr) st=s_ (d,st')) (hn:∀ v w' g',Go1 base w g st w' g' st'→RepV w' g' st' d v→next (a.put dst v) w'):Oper.wp P {dst:=dst,op:=.box t x,type:=ty,pos:=pos,after:=after,guard:=guard} a w next Q:=by
 have ab:∀ x M,Ee x=s_ M→RepV w g st (DL G fr M) (a.eval x):=fun x M h=>G7 hG N h;clear N;simp only[DP,D0]at ht;obtain⟨M,ac,rfl⟩:=ht;simp only[POp.exec]at E
 split at E
 case isFalse=>cases E
 rename_i hc;simp only[Dp,DO]at E;obtain⟨rfl,rfl⟩:=E;exact Pw (s:=Instr.box t (a.eval x)) rfl (RunsTo.congr rfl (Yq1 (t:=t) hS hc (ab x M ac))) hn
theorem Yi5(t:TypeId)(parts:Array (Nat×Operand)){ty:TypeId}{pos:String}{after:Array Edge}{guard:Option (Nat×Bool)}(a3:TblOK P G T)(N:SR base w g st)(hG:GlobOK G w g)(hF:FR w g st fr a)(E:DP P il (.build t parts)=s_ p)
  (hx:p.exec T (DL G fr) st=s_ (d,st')) (hn:∀ v w' g',Go1 base w g st w' g' st'→RepV w' g' st' d v→next (a.put dst v) w'):Oper.wp P {dst:=dst,op:=.build t parts,type:=ty,pos:=pos,after:=after,guard:=guard} a w next Q:=by
 have ac:∀ x M,Ee x=s_ M→RepV w g st (DL G fr M) (a.eval x):=fun x M h=>G7 hG hF h;clear hF;simp only[DP]at E
 split at E
 case h_2=>cases E
 rename_i zs pl h1 h2;simp only[D0]at E;obtain⟨ps,h3,rfl⟩:=E;simp only[POp.exec,D0,DO]at hx;obtain⟨cs,h4,rfl,rfl⟩:=hx;obtain⟨v,h5,h6⟩:=Yqr (P:=P) (parts:=parts.map fun(i,x)=>(i,a.eval x)) N ac h1 h2 h3 (by simp) h4;exact GQ N rfl h5 h6 hn
theorem r7(hS:SR base w g st)(hG:GlobOK G w g)(hF:FR w g st fr a)(E:DP P il (.buildSlice t len parts)=s_ p)
  (M:p.exec T (DL G fr) st=s_ (d,st')):∃ N,(∀ (dst:Option Tmp) (ty:TypeId) (pos:String) (after:Array Edge) (guard:Option (Nat×Bool)),execOp a.eval {dst:=dst,op:=.buildSlice t len parts,type:=ty,pos:=pos,after:=after,guard:=guard}=(do pure (.value (← Instr.buildSlice t len N))))∧∃ v w' g',(Instr.buildSlice t len N).run P w=.ok v w'∧Go1 base w g st w' g' st'∧RepV w' g' st' d v∧zf base w' g' st' v:=by

 have ah:∀ x pa,Ee x=s_ pa→RepV w g st (DL G fr pa) (a.eval x):=fun x pa h=>G7 hG hF h;clear hF;simp only[DP]at E
 split at E
 case h_2=>cases E
 rename_i e hu
 split at E
 case h_2=>cases E
 rename_i i hi
 split at E
 case h_2=>cases E
 rename_i z l hz hl;simp only[As,Dp]at E;obtain⟨hlen,rfl⟩:=E;simp only[POp.exec]at M
 split at M
 case h_2=>cases M
 rename_i els ad
 split at M
 case isFalse=>cases M
 rename_i hc;simp only[Dp,DO]at M;obtain⟨rfl,rfl⟩:=M;simp only[Ad,decide_eq_true_eq,Ah,beq_iff_eq]at hc;obtain⟨vs,e1,e2,e3⟩:=yA ah hl;obtain⟨g1,aa,_,h1,h2,h3⟩:=SD hS ad;have ae:∀ (i:Nat) d v,els[i]?=s_ d→vs[i]?=s_ v→RepV w g1 (lend ((l.map (DL G fr)).flatMap keys) st) d v:=fun i d v hd hv=>h3 i d v hd fun d' a1=>e3 i d' v a1 hv;have a2:els.length=vs.length:=by rw[h1,A7,e2]
 have ab:(parts.map fun(i,x)=>(i,a.eval x)).toList=(vs.zipIdx 0).map fun x=>(x.2,x.1):=by rw[← e1]; simp
 generalize a3:(parts.map fun(i,x)=>(i,a.eval x))=N at ab;obtain⟨v,w',g',r1,r2,r3,r4⟩:=Yqw (len:=len) (parts:=N) aa.sr hu hi hz rfl hc.1.2 h2 hc.1.1 a2 ae hc.2 (by rw[e2,← hlen]) ab;exact⟨N,fun _ _ _ _ _=>by simp only[execOp,a3],v,w',g',r1,aa.trans r2,r3,r4⟩
theorem yLf(t:TypeId)(len:Nat)(parts:Array (Nat×Operand)){ty:TypeId}{pos:String}{after:Array Edge}{guard:Option (Nat×Bool)}(af:TblOK P G T)(E:SR base w g st)(M:GlobOK G w g)(N:FR w g st fr a)(ht:DP P il (.buildSlice t len parts)=s_ p)
  (hx:p.exec T (DL G fr) st=s_ (d,st')) (hn:∀ v w' g',Go1 base w g st w' g' st'→RepV w' g' st' d v→next (a.put dst v) w'):Oper.wp P {dst:=dst,op:=.buildSlice t len parts,type:=ty,pos:=pos,after:=after,guard:=guard} a w next Q:=by obtain⟨ps,he,v,w',g',r1,r2,r3,_⟩:=r7 E M N ht hx;exact Pw (s:=Instr.buildSlice t len ps) (he ..) ⟨v,w',g',r1,r2,r3⟩ hn
theorem yXt{e:TypeId}{d1:Nat}{d2:Option Nat}{ty ty2:TypeId}{pos pos2:String}{after after2:Array Edge}{guard guard2:Option (Nat×Bool)}{next2:Act→World→Prop}(hS:SR base w g st)(hG:GlobOK G w g)(hF:FR w g st fr a)(ht:DP P il (.buildSlice t len parts)=s_ p)
  (hu:P.underlying t=s_ (.slice e)) (M:P.underlying e=s_ (.int .u8)) (N:d1<a.tmps.size)
  (hx:p.exec T (DL G fr) st=s_ (d,st')) (hn:∀ v w' g',Go1 base w g st w' g' st'→RepV w' g' st' d v→next2 ((a.put (s_ d1) v).put d2 v) w') :
  Oper.wp P {dst:=s_ d1,op:=.buildSlice t len parts,type:=ty,pos:=pos,after:=after,guard:=guard} a w (fun a' w'=>Oper.wp P {dst:=d2,op:=.convert t t (.tmp d1),type:=ty2,pos:=pos2,after:=after2,guard:=guard2} a' w' next2 Q) Q:=by
 obtain⟨ps,he,v,w',g',r1,r2,r3,b,n,C,eC,rfl,hb,E,ab⟩:=r7 hS hG hF ht hx;unfold Oper.wp;rw[he];simp only[Sem.run_bind,r1,Result.andThen_ok,Sem.run_pure,Oper.upon_value]
 have ac:(a.put (s_ d1) (.slice (s_ ⟨b,0,none⟩) n n)).eval (.tmp d1)=.slice (s_ ⟨b,0,none⟩) n n:=by
  simp[Act.eval,Act.put,N]
 have ad:execOp (a.put (s_ d1) (.slice (s_ ⟨b,0,none⟩) n n)).eval {dst:=d2,op:=.convert t t (.tmp d1),type:=ty2,pos:=pos2,after:=after2,guard:=guard2}=(do pure (.value (← convert t t (.slice (s_ ⟨b,0,none⟩) n n)))):=by
  simp only[execOp,ac]
 rw[ad]
 have ae:(convert t t (.slice (s_ ⟨b,0,none⟩) n n)).run P w'=.ok (.slice (s_ ⟨b,0,none⟩) n n) (w'.freeze ⟨b,C.size,none⟩ 1):=by
  have af:w'.shape? b=s_ (eC,C.size):=by simp[World.shape?,hb]
  simp[convert,run_underlying hu,run_underlying M,markStringish,shape,freeze,Sem.run_bind,Sem.run,af,Result.andThen]
 simp only[Sem.run_bind,ae,Result.andThen_ok,Sem.run_pure,Oper.upon_value];have hf:=Ynb (m:=C.size) r2.sr hb E ab;exact hn _ _ g' (r2.trans hf) (hf.rep r3)
theorem Ys2(t:TypeId)(x:Operand){ty:TypeId}{pos:String}{after:Array Edge}{guard:Option (Nat×Bool)}(a3:TblOK P G T)(N:SR base w g st)(hG:GlobOK G w g)(hF:FR w g st fr a)(E:DP P il (.load t x)=s_ p)
  (hx:p.exec T (DL G fr) st=s_ (d,st')) (hn:∀ v w' g',Go1 base w g st w' g' st'→RepV w' g' st' d v→next (a.put dst v) w'):Oper.wp P {dst:=dst,op:=.load t x,type:=ty,pos:=pos,after:=after,guard:=guard} a w next Q:=by
 have ac:∀ x M,Ee x=s_ M→RepV w g st (DL G fr M) (a.eval x):=fun x M h=>G7 hG hF h;clear hF;simp only[DP]at E
 split at E
 case h_2=>cases E
 rename_i M n ag h1 h2 h3;simp only[Dp]at E; subst E;simp only[POp.exec,D0,DO]at hx;obtain⟨r,h4,rfl,rfl⟩:=hx;obtain⟨v,h5,h6⟩:=vG (P:=P) N h3 h2 h4 (ac x M h1);exact GQ (s:=Instr.loadAt t (a.eval x)) N rfl h5 h6 hn
theorem Yi1(t:TypeId)(x y:Operand){ty:TypeId}{pos:String}{after:Array Edge}{guard:Option (Nat×Bool)}(a4:TblOK P G T)(hS:SR base w g st)(hG:GlobOK G w g)(hF:FR w g st fr a)(E:DP P il (.store t x y)=s_ p)
  (hx:p.exec T (DL G fr) st=s_ (d,st')) (hn:∀ v w' g',Go1 base w g st w' g' st'→RepV w' g' st' d v→next (a.put dst v) w'):Oper.wp P {dst:=dst,op:=.store t x y,type:=ty,pos:=pos,after:=after,guard:=guard} a w next Q:=by
 have N:∀ x M,Ee x=s_ M→RepV w g st (DL G fr M) (a.eval x):=fun x M h=>G7 hG hF h;clear hF;simp only[DP]at E
 split at E
 case h_2=>cases E
 rename_i M pb n h1 h2 h3;simp only[Dp]at E; subst E;simp only[POp.exec,D0,DO]at hx;obtain⟨r,h4,rfl,rfl⟩:=hx;obtain⟨w',g',h5,h6⟩:=Yj8 (P:=P) hS h3 h4 (N x M h1) (N y pb h2);unfold Oper.wp execOp;simp only[Sem.run_bind,h5,Result.andThen_ok,Sem.run_pure];exact hn undef w' g' h6 (.tup [] [] rfl (fun i d v h=>by simp at h))
theorem ySr(x:Operand){ty:TypeId}{pos:String}{after:Array Edge}{guard:Option (Nat×Bool)}(a3:TblOK P G T)(hS:SR base w g st)(hG:GlobOK G w g)(hF:FR w g st fr a)(ht:DP P il (.nilCheck x)=s_ p)
  (E:p.exec T (DL G fr) st=s_ (d,st')) (hn:∀ v w' g',Go1 base w g st w' g' st'→RepV w' g' st' d v→next (a.put dst v) w'):Oper.wp P {dst:=dst,op:=.nilCheck x,type:=ty,pos:=pos,after:=after,guard:=guard} a w next Q:=by
 have ae:∀ x N,Ee x=s_ N→RepV w g st (DL G fr N) (a.eval x):=fun x N h=>G7 hG hF h;clear hF;simp only[DP,D0]at ht;obtain⟨N,af,rfl⟩:=ht;have M:=ae x N af;simp only[POp.exec]at E
 have key:∀ q,a.eval x=.pointer (s_ q)→RepV w g st d (a.eval x)→st'=st→Oper.wp P {dst:=dst,op:=.nilCheck x,type:=ty,pos:=pos,after:=after,guard:=guard} a w next Q:=by
  intro q hq ah a0;subst a0;exact GQ (s:=pure (a.eval x)) hS (by simp[execOp,hq]) rfl ah hn
 split at E
 ·rename_i key off hp;simp only[Dp,DO]at E;obtain⟨rfl,rfl⟩:=E;rw[hp]at M;obtain⟨q,hq⟩:=YB0 M;grind
 ·rename_i el off hp;simp only[Dp,DO]at E;obtain⟨rfl,rfl⟩:=E;rw[hp]at M;obtain⟨q,hq⟩:=Yv9 M;grind
 ·rename_i kk tot i off hp
  split at E
  ·rename_i hl;simp only[Dp,DO]at E;obtain⟨rfl,rfl⟩:=E;rw[hp]at M;obtain⟨ob,_,_,_,hq⟩:=lW hl M;grind
  ·cases E
 ·cases E
theorem Yi6(op:BinOp)(t:TypeId)(x y:Operand)(yt:TypeId){ty:TypeId}{pos:String}{after:Array Edge}{guard:Option (Nat×Bool)}(bc:TblOK P G T)(hS:SR base w g st)(hG:GlobOK G w g)(hF:FR w g st fr a)(ht:DP P il (.binOp op t x y yt)=s_ p)
  (hx:p.exec T (DL G fr) st=s_ (d,st')) (hn:∀ v w' g',Go1 base w g st w' g' st'→RepV w' g' st' d v→next (a.put dst v) w'):Oper.wp P {dst:=dst,op:=.binOp op t x y yt,type:=ty,pos:=pos,after:=after,guard:=guard} a w next Q:=by
 have N:∀ x M,Ee x=s_ M→RepV w g st (DL G fr M) (a.eval x):=fun x M h=>G7 hG hF h;clear hF;simp only[DP]at ht
 split at ht
 case h_2=>cases ht
 rename_i M pb h1 h2
 have ba:∀ op,p=.bin op M pb→Oper.wp P {dst:=dst,op:=.binOp op t x y yt,type:=ty,pos:=pos,after:=after,guard:=guard} a w next Q:=by
  rintro op rfl;simp only[POp.exec,D0,DO]at hx;obtain⟨r,h4,rfl,rfl⟩:=hx;obtain⟨⟨v,h5,h6⟩,h7,h8⟩:=Yt0 (P:=P) op t _ _ r _ _ h4 (N x M h1) (N y pb h2);refine GQ (s:=do eqGuard op t x y (a.eval x) (a.eval y); binOp op t (a.eval x) (a.eval y)) hS rfl ?_ h6 hn;simp only[Sem.run_bind,iH op t x y _ _ h7 h8,Result.andThen_ok,h5]
 have heq:∀ neg:Bool,(match P.underlying t with
  |some (.int _)|some .string=>s_ (POp.bin (if neg then .neq else .eql) M pb)
  |some .bool=>s_ (.beq neg M pb)
  |some (.struct _)|some (.array _ _)=>match JZ P 100 t with
   |some ks=>if P.eqGuardType P.depth t then none else s_ (.aeq ks neg M pb)
   |none=>none
  |_=>none)=s_ p→Oper.wp P {dst:=dst,op:=.binOp (if neg then .neq else .eql) t x y yt,type:=ty,pos:=pos,after:=after,guard:=guard} a w next Q:=by
  intro neg E
  have a1:ES P t=s_ t_→(match JZ P 100 t with
   |some ks=>if P.eqGuardType P.depth t then none else s_ (POp.aeq ks neg M pb)
   |none=>none)=s_ p→Oper.wp P {dst:=dst,op:=.binOp (if neg then .neq else .eql) t x y yt,type:=ty,pos:=pos,after:=after,guard:=guard} a w next Q:=by
   intro a7 E
   split at E
   case h_2=>cases E
   rename_i ks a8
   split at E
   case isTrue=>cases E
   rename_i hg;simp only[Dp]at E; subst E;simp only[POp.exec,D0,DO]at hx;obtain⟨r,h4,rfl,rfl⟩:=hx;obtain⟨⟨v,h5,h6⟩,xs,ys,h7,h8⟩:=Yt5 (P:=P) a8 (by decide) a7 h4 (N x M h1) (N y pb h2);refine GQ (s:=do eqGuard (if neg then .neq else .eql) t x y (a.eval x) (a.eval y); binOp (if neg then .neq else .eql) t (a.eval x) (a.eval y)) hS rfl ?_ h6 hn
   have bd:(eqGuard (if neg then .neq else .eql) t x y (a.eval x) (a.eval y)).run P w=.ok () w:=by
    rw[h7,h8];exact run_eqGuard_agg w _ t x y xs ys (by simpa using hg)
   simp_all
  split at E
  ·grind
  ·grind
  ·rename_i hu;simp only[Dp]at E; subst E;simp only[POp.exec,D0,DO]at hx;obtain⟨r,h4,rfl,rfl⟩:=hx;obtain⟨⟨v,h5,h6⟩,h7,h8⟩:=Yt1 (P:=P) neg t hu _ _ r _ _ h4 (N x M h1) (N y pb h2);refine GQ (s:=do eqGuard (if neg then .neq else .eql) t x y (a.eval x) (a.eval y); binOp (if neg then .neq else .eql) t (a.eval x) (a.eval y)) hS rfl ?_ h6 hn;simp only[Sem.run_bind,iH _ t x y _ _ h7 h8,Result.andThen_ok,h5]
  ·rename_i hu;exact a1 (by simp[ES,hu]) E
  ·rename_i hu;exact a1 (by simp[ES,hu]) E
  ·cases E
 unfold gu at ht
 split at ht
 ·exact heq f_ ht
 ·exact heq t_ ht
 ·grind
theorem Ysz(op:UnOp)(t:TypeId)(x:Operand){ty:TypeId}{pos:String}{after:Array Edge}{guard:Option (Nat×Bool)}(a1:TblOK P G T)(hS:SR base w g st)(hG:GlobOK G w g)(M:FR w g st fr a)(N:DP P il (.unOp op t x)=s_ p)
  (hx:p.exec T (DL G fr) st=s_ (d,st')) (hn:∀ v w' g',Go1 base w g st w' g' st'→RepV w' g' st' d v→next (a.put dst v) w'):Oper.wp P {dst:=dst,op:=.unOp op t x,type:=ty,pos:=pos,after:=after,guard:=guard} a w next Q:=by have ab:∀ x E,Ee x=s_ E→RepV w g st (DL G fr E) (a.eval x):=fun x E h=>G7 hG M h;clear M;simp only[DP,D0]at N;obtain⟨E,ac,rfl⟩:=N;simp only[POp.exec,D0,DO]at hx;obtain⟨r,h4,rfl,rfl⟩:=hx;obtain⟨v,h5,h6⟩:=YBz (P:=P) (w:=w) op _ r _ h4 (ab x E ac);exact GQ (s:=Op.unary op (a.eval x)) hS rfl h5 h6 hn
theorem yXv(N dt:TypeId)(x:Operand){ty:TypeId}{pos:String}{after:Array Edge}{guard:Option (Nat×Bool)}(ba:TblOK P G T)(hS:SR base w g st)(hG:GlobOK G w g)(hF:FR w g st fr a)(M:DP P il (.convert N dt x)=s_ p)
  (hx:p.exec T (DL G fr) st=s_ (d,st')) (hn:∀ v w' g',Go1 base w g st w' g' st'→RepV w' g' st' d v→next (a.put dst v) w'):Oper.wp P {dst:=dst,op:=.convert N dt x,type:=ty,pos:=pos,after:=after,guard:=guard} a w next Q:=by
 have a6:∀ x pa,Ee x=s_ pa→RepV w g st (DL G fr pa) (a.eval x):=fun x pa h=>G7 hG hF h;clear hF;simp only[DP]at M
 split at M
 case h_2=>cases M
 rename_i pa a7;have hr:=a6 x pa a7;unfold iw at M
 split at M
 ·rename_i u k hs hd;simp only[Dp]at M; subst M;simp only[POp.exec,D0,DO]at hx;obtain⟨r,E,rfl,rfl⟩:=hx;unfold FZ at E
  split at E <;> rename_i aa hp <;> (try cases aa) <;> (try (simp only[reduceCtorEq]at E))
  simp only[Dp]at E; subst E;rw[hp]at hr;have he:=Jt hr;refine GQ (s:=convert N dt (a.eval x)) hS rfl ?_ (.int _ _) hn;rw[he];simp[convert,run_underlying hs,run_underlying hd,Conv.intToInt]
 ·rename_i hs hd;simp only[Dp]at M; subst M;simp only[POp.exec,D0,DO]at hx;obtain⟨r,E,rfl,rfl⟩:=hx;unfold FZ at E
  split at E <;> rename_i aa hp <;> (try cases aa) <;> (try (simp only[reduceCtorEq]at E))
  simp only[Dp]at E; subst E;rw[hp]at hr;have he:=MY hr;refine GQ (s:=convert N dt (a.eval x)) hS rfl (v:=a.eval x) ?_ (by rw[he]; exact .str _) hn;rw[he];simp[convert,run_underlying hs,run_underlying hd]
 ·rename_i e hs hd
  split at M
  case h_2=>cases M
  rename_i a1;simp only[Dp]at M; subst M;simp only[POp.exec,D0,DO]at hx;obtain⟨r,E,rfl,rfl⟩:=hx;unfold FZ at E
  split at E <;> rename_i aa hp <;> (try cases aa) <;> (try (simp only[reduceCtorEq]at E))
  simp only[Dp]at E; subst E;rw[hp]at hr;have he:=MY hr;refine Pw (s:=convert N dt (a.eval x)) rfl ?_ hn;rw[he];exact Yqn hS hs hd a1
 ·rename_i e hs hd
  split at M
  case h_2=>cases M
  rename_i a1;simp only[Dp]at M; subst M;simp only[POp.exec,D0,DO]at hx;obtain⟨r,E,rfl,rfl⟩:=hx;unfold FZ at E
  split at E <;> rename_i aa hp <;> (try cases aa) <;> (try (simp only[reduceCtorEq]at E))
  ·split at E
   case isFalse=>cases E
   rename_i ah;simp only[D0]at E;obtain⟨bs,a4,rfl⟩:=E;rw[hp]at hr;simp only[Bh,beq_iff_eq,BQ]at ah;exact GQ (s:=convert N dt (a.eval x)) hS rfl (xP hs a1 hd (Vg hr) ah a4) (.str _) hn
  ·split at E
   case h_2=>cases E
   rename_i sz els a8
   split at E
   case isFalse=>cases E
   rename_i ah;simp only[D0]at E;obtain⟨bs,a4,rfl⟩:=E;rw[hp]at hr;simp only[beq_iff_eq]at ah;exact GQ (s:=convert N dt (a.eval x)) hS rfl (xP hs a1 hd (jF hS a8 hr).1 (.inl ah) a4) (.str _) hn
 ·cases M
theorem yPh(t:TypeId)(l c:Operand){ty:TypeId}{pos:String}{after:Array Edge}{guard:Option (Nat×Bool)}(a8:TblOK P G T)(hS:SR base w g st)(hG:GlobOK G w g)(hF:FR w g st fr a)(E:DP P il (.makeSlice t l c)=s_ p)
  (M:p.exec T (DL G fr) st=s_ (d,st')) (hn:∀ v w' g',Go1 base w g st w' g' st'→RepV w' g' st' d v→next (a.put dst v) w'):Oper.wp P {dst:=dst,op:=.makeSlice t l c,type:=ty,pos:=pos,after:=after,guard:=guard} a w next Q:=by
 have N:∀ x pa,Ee x=s_ pa→RepV w g st (DL G fr pa) (a.eval x):=fun x pa h=>G7 hG hF h;clear hF;simp only[DP]at E
 split at E
 case h_2=>cases E
 rename_i pl pc e h1 h2 hu
 split at E
 case h_2=>cases E
 rename_i i hi
 split at E
 case h_2=>cases E
 rename_i z hz;simp only[D0]at E;obtain⟨zd,ac,rfl⟩:=E;simp only[POp.exec]at M
 split at M
 case h_2=>cases M
 rename_i nl nc h3 h4
 split at M
 case isFalse=>cases M
 rename_i hc;simp only[Dp,DO]at M;obtain⟨rfl,rfl⟩:=M;obtain⟨c1,c2,c3,c4,c5,c6⟩:=hc;exact Pw (s:=Instr.makeSlice t (a.eval l) (a.eval c)) rfl (Ylc hS hu hi hz ac rfl rfl c4 c5 c6 h3 h4 (N l pl h1) (N c pc h2) c1 c2 c3) hn
theorem Yi2(t:TypeId)(x:Operand)(lo hi mx:Option Operand){ty:TypeId}{pos:String}{after:Array Edge}{guard:Option (Nat×Bool)}(ba:TblOK P G T)(hS:SR base w g st)(hG:GlobOK G w g)(hF:FR w g st fr a)(E:DP P il (.slice t x lo hi mx)=s_ p)
  (hx:p.exec T (DL G fr) st=s_ (d,st')) (hn:∀ v w' g',Go1 base w g st w' g' st'→RepV w' g' st' d v→next (a.put dst v) w'):Oper.wp P {dst:=dst,op:=.slice t x lo hi mx,type:=ty,pos:=pos,after:=after,guard:=guard} a w next Q:=by
 have M:∀ x N,Ee x=s_ N→RepV w g st (DL G fr N) (a.eval x):=fun x N h=>G7 hG hF h;clear hF;simp only[DP]at E
 split at E
 case h_2=>cases E
 rename_i N bb bc bd h1 h2 h3 h4;have r2:=jv h2 rfl M;have r3:=jv h3 rfl M;have r4:=jv h4 rfl M;unfold dM at E
 split at E
 ·rename_i hu;simp only[Dp]at E; subst E;simp only[POp.exec,D0,DO]at hx;obtain⟨r,h5,rfl,rfl⟩:=hx;obtain⟨v,h6,h7⟩:=xp (P:=P) hS (.inl ⟨rfl,hu⟩) h5 (M x N h1) r2 r3 r4;exact GQ (s:=Instr.sliceAt t (a.eval x) (lo.map a.eval) (hi.map a.eval) (mx.map a.eval)) hS rfl h6 h7 hn
 ·rename_i e hu
  split at E
  case h_2=>cases E
  rename_i sz ah
  split at E
  case isTrue=>cases E
  rename_i h0;simp only[Dp]at E; subst E;simp only[POp.exec,D0,DO]at hx;obtain⟨r,h5,rfl,rfl⟩:=hx;obtain⟨v,h6,h7⟩:=xp (P:=P) hS (.inr ⟨h0,e,hu,ah⟩) h5 (M x N h1) r2 r3 r4;exact GQ (s:=Instr.sliceAt t (a.eval x) (lo.map a.eval) (hi.map a.eval) (mx.map a.eval)) hS rfl h6 h7 hn
 ·rename_i n e hu
  split at E
  case h_2=>cases E
  rename_i sz ag ah be;simp only[Dp]at E; subst E
  have hm:mx=none:=by
   simp_all
  subst hm;simp only[POp.exec,D0,DO]at hx;obtain⟨r,h5,rfl,rfl⟩:=hx;obtain⟨v,h6,h7⟩:=yX9 (P:=P) hu ah h5 (M x N h1) r2 r3;exact GQ (s:=Instr.sliceAt t (a.eval x) (lo.map a.eval) (hi.map a.eval) none) hS rfl h6 h7 hn
 ·cases E
theorem yPj(s:TypeId)(x:Operand)(f:Nat){ty:TypeId}{pos:String}{after:Array Edge}{guard:Option (Nat×Bool)}(a4:TblOK P G T)(hS:SR base w g st)(hG:GlobOK G w g)(N:FR w g st fr a)(E:DP P il (.fieldAddr s x f)=s_ p)
  (hx:p.exec T (DL G fr) st=s_ (d,st')) (hn:∀ v w' g',Go1 base w g st w' g' st'→RepV w' g' st' d v→next (a.put dst v) w'):Oper.wp P {dst:=dst,op:=.fieldAddr s x f,type:=ty,pos:=pos,after:=after,guard:=guard} a w next Q:=by
 have ab:∀ x M,Ee x=s_ M→RepV w g st (DL G fr M) (a.eval x):=fun x M h=>G7 hG N h;clear N;simp only[DP]at E
 split at E
 case h_2=>cases E
 rename_i M fields h1 hu
 split at E
 case h_2=>cases E
 rename_i fd ac
 split at E
 case h_2=>cases E
 rename_i n ad
 split at E
 case isTrue=>cases E
 rename_i h0;simp only[Dp]at E; subst E;simp only[POp.exec,D0,DO]at hx;obtain⟨r,h5,rfl,rfl⟩:=hx;obtain⟨v,h6,h7⟩:=yZl (P:=P) hu ac ad h0 h5 (ab x M h1);exact GQ (s:=Instr.fieldAt s (a.eval x) f) hS rfl h6 h7 hn
theorem Yi4(s:TypeId)(x:Operand)(f:Nat){ty:TypeId}{pos:String}{after:Array Edge}{guard:Option (Nat×Bool)}(a4:TblOK P G T)(hS:SR base w g st)(hG:GlobOK G w g)(N:FR w g st fr a)(E:DP P il (.field s x f)=s_ p)
  (hx:p.exec T (DL G fr) st=s_ (d,st')) (hn:∀ v w' g',Go1 base w g st w' g' st'→RepV w' g' st' d v→next (a.put dst v) w'):Oper.wp P {dst:=dst,op:=.field s x f,type:=ty,pos:=pos,after:=after,guard:=guard} a w next Q:=by
 have ab:∀ x M,Ee x=s_ M→RepV w g st (DL G fr M) (a.eval x):=fun x M h=>G7 hG N h;clear N;simp only[DP]at E
 split at E
 case h_2=>cases E
 rename_i M fields h1 hu
 split at E
 case h_2=>cases E
 rename_i fd ac
 split at E
 case h_2=>cases E
 rename_i n ag ad ae;simp only[Dp]at E; subst E;simp only[POp.exec,D0,DO]at hx;obtain⟨r,h5,rfl,rfl⟩:=hx;obtain⟨v,h6,h7⟩:=Ykp (P:=P) hu ac ae ad h5 (ab x M h1);exact GQ (s:=Instr.field s (a.eval x) f) hS rfl h6 h7 hn
theorem yPi(t:TypeId)(x i:Operand){ty:TypeId}{pos:String}{after:Array Edge}{guard:Option (Nat×Bool)}(a3:TblOK P G T)(hS:SR base w g st)(hG:GlobOK G w g)(hF:FR w g st fr a)(E:DP P il (.indexAddr t x i)=s_ p)
  (hx:p.exec T (DL G fr) st=s_ (d,st')) (hn:∀ v w' g',Go1 base w g st w' g' st'→RepV w' g' st' d v→next (a.put dst v) w'):Oper.wp P {dst:=dst,op:=.indexAddr t x i,type:=ty,pos:=pos,after:=after,guard:=guard} a w next Q:=by
 have N:∀ x M,Ee x=s_ M→RepV w g st (DL G fr M) (a.eval x):=fun x M h=>G7 hG hF h;clear hF;simp only[DP]at E
 split at E
 ·rename_i M pi len e h1 h2 hu;simp only[D0]at E;obtain⟨n,aa,rfl⟩:=E;simp only[POp.exec,D0,DO]at hx;obtain⟨r,h5,rfl,rfl⟩:=hx;obtain⟨v,h6,h7⟩:=yJj (P:=P) hu aa h5 (N x M h1) (N i pi h2);exact GQ (s:=Instr.indexAt t (a.eval x) (a.eval i)) hS rfl h6 h7 hn
 ·rename_i M pi e h1 h2 hu;simp only[D0]at E;obtain⟨n,aa,rfl⟩:=E;simp only[POp.exec,D0,DO]at hx;obtain⟨r,h5,rfl,rfl⟩:=hx;obtain⟨v,h6,h7⟩:=yLk (P:=P) hu aa h5 (N x M h1) (N i pi h2);exact GQ (s:=Instr.indexAt t (a.eval x) (a.eval i)) hS rfl h6 h7 hn
 ·cases E
theorem Yi3(t:TypeId)(x i:Operand){ty:TypeId}{pos:String}{after:Array Edge}{guard:Option (Nat×Bool)}(a4:TblOK P G T)(hS:SR base w g st)(hG:GlobOK G w g)(hF:FR w g st fr a)(E:DP P il (.index t x i)=s_ p)
  (hx:p.exec T (DL G fr) st=s_ (d,st')) (hn:∀ v w' g',Go1 base w g st w' g' st'→RepV w' g' st' d v→next (a.put dst v) w'):Oper.wp P {dst:=dst,op:=.index t x i,type:=ty,pos:=pos,after:=after,guard:=guard} a w next Q:=by
 have N:∀ x M,Ee x=s_ M→RepV w g st (DL G fr M) (a.eval x):=fun x M h=>G7 hG hF h;clear hF;simp only[DP]at E
 split at E
 ·rename_i M pi len e h1 h2 hu
  split at E
  case h_2=>cases E
  rename_i n ag a1 a2;simp only[Dp]at E; subst E;simp only[POp.exec,D0,DO]at hx;obtain⟨r,h5,rfl,rfl⟩:=hx;obtain⟨v,h6,h7⟩:=Ykh (P:=P) hu a2 a1 h5 (N x M h1) (N i pi h2);exact GQ (s:=Instr.index t (a.eval x) (a.eval i)) hS rfl h6 h7 hn
 ·rename_i M pi h1 h2 hu;simp only[Dp]at E; subst E;simp only[POp.exec,D0,DO]at hx;obtain⟨r,h5,rfl,rfl⟩:=hx;obtain⟨v,h6,h7⟩:=Yty (P:=P) hu h5 (N x M h1) (N i pi h2);exact GQ (s:=Instr.index t (a.eval x) (a.eval i)) hS rfl h6 h7 hn
 ·cases E
theorem yXu(x:Operand)(i:Nat){ty:TypeId}{pos:String}{after:Array Edge}{guard:Option (Nat×Bool)}(a3:TblOK P G T)(hS:SR base w g st)(hG:GlobOK G w g)(hF:FR w g st fr a)(ht:DP P il (.extract x i)=s_ p)
  (E:p.exec T (DL G fr) st=s_ (d,st')) (hn:∀ v w' g',Go1 base w g st w' g' st'→RepV w' g' st' d v→next (a.put dst v) w'):Oper.wp P {dst:=dst,op:=.extract x i,type:=ty,pos:=pos,after:=after,guard:=guard} a w next Q:=by
 have ac:∀ x M,Ee x=s_ M→RepV w g st (DL G fr M) (a.eval x):=fun x M h=>G7 hG hF h;clear hF;simp only[DP,D0]at ht;obtain⟨M,h1,rfl⟩:=ht;simp only[POp.exec]at E;have N:=ac x M h1
 split at E
 ·rename_i vs hp;simp only[D0,DO]at E;obtain⟨r,h5,rfl,rfl⟩:=E;rw[hp]at N;generalize hv:a.eval x=v at N
  cases N with
  |tup _ us h2 h3=>
   have hl:i<us.length:=by rw[← h2]; exact(Ab.1 h5).1
   refine GQ (s:=Instr.extract (a.eval x) i) hS rfl (v:=us[i]) ?_ (h3 i r _ h5 (Aj hl)) hn;simp[hv,Instr.extract,hl]
 ·cases E
theorem yPg(t:TypeId)(m k v:Operand){ty:TypeId}{pos:String}{after:Array Edge}{guard:Option (Nat×Bool)}(a6:TblOK P G T)(hS:SR base w g st)(hG:GlobOK G w g)(hF:FR w g st fr a)(E:DP P il (.mapUpdate t m k v)=s_ p)
  (hx:p.exec T (DL G fr) st=s_ (d,st')) (hn:∀ v w' g',Go1 base w g st w' g' st'→RepV w' g' st' d v→next (a.put dst v) w'):Oper.wp P {dst:=dst,op:=.mapUpdate t m k v,type:=ty,pos:=pos,after:=after,guard:=guard} a w next Q:=by
 have M:∀ x N,Ee x=s_ N→RepV w g st (DL G fr N) (a.eval x):=fun x N h=>G7 hG hF h;clear hF;simp only[DP]at E
 split at E
 case h_2=>cases E
 rename_i kt et sz ks pm pk pv h1 h2 h3 h4;simp only[Dp]at E; subst E;simp only[POp.exec,D0,DO]at hx;obtain⟨r,h5,rfl,rfl⟩:=hx;obtain⟨w',g',h6,h7⟩:=vt (P:=P) hS h1 (M m pm h2) (M k pk h3) (M v pv h4) h5;unfold Oper.wp execOp;simp only[Sem.run_bind,h6,Result.andThen_ok,Sem.run_pure];exact hn undef w' g' h7 (.tup [] [] rfl (fun i d v h=>by simp at h))
theorem Yep(t:TypeId)(m k v:Operand){ty:TypeId}{pos:String}{after:Array Edge}{guard:Option (Nat×Bool)}(a6:TblOK P G T)(hS:SR base w g st)(hG:GlobOK G w g)(hF:FR w g st fr a)(E:DP P il (.insert t m k v)=s_ p)
  (hx:p.exec T (DL G fr) st=s_ (d,st')) (hn:∀ v w' g',Go1 base w g st w' g' st'→RepV w' g' st' d v→next (a.put dst v) w'):Oper.wp P {dst:=dst,op:=.insert t m k v,type:=ty,pos:=pos,after:=after,guard:=guard} a w next Q:=by
 have M:∀ x N,Ee x=s_ N→RepV w g st (DL G fr N) (a.eval x):=fun x N h=>G7 hG hF h;clear hF;simp only[DP]at E
 split at E
 case h_2=>cases E
 rename_i kt et sz ks pm pk pv h1 h2 h3 h4;simp only[Dp]at E; subst E;simp only[POp.exec,D0,DO]at hx;obtain⟨r,h5,rfl,rfl⟩:=hx;obtain⟨w',g',h6,h7⟩:=vt (P:=P) hS h1 (M m pm h2) (M k pk h3) (M v pv h4) h5;unfold Oper.wp execOp;simp only[Sem.run_bind,h6,Result.andThen_ok,Sem.run_pure];exact hn undef w' g' h7 (.tup [] [] rfl (fun i d v h=>by simp at h))
theorem Yeo(t:TypeId)(m k:Operand)(ok:Bool){ty:TypeId}{pos:String}{after:Array Edge}{guard:Option (Nat×Bool)}(a5:TblOK P G T)(hS:SR base w g st)(hG:GlobOK G w g)(hF:FR w g st fr a)(E:DP P il (.lookup t m k ok)=s_ p)
  (N:p.exec T (DL G fr) st=s_ (d,st')) (hn:∀ v w' g',Go1 base w g st w' g' st'→RepV w' g' st' d v→next (a.put dst v) w'):Oper.wp P {dst:=dst,op:=.lookup t m k ok,type:=ty,pos:=pos,after:=after,guard:=guard} a w next Q:=by
 have M:∀ x pa,Ee x=s_ pa→RepV w g st (DL G fr pa) (a.eval x):=fun x pa h=>G7 hG hF h;clear hF;simp only[DP]at E
 split at E
 case h_2=>
  split at E
  case h_2=>cases E
  rename_i zd pm pk h1 h2 h3;simp only[Dp]at E; subst E;simp only[POp.exec,D0,DO]at N;obtain⟨r,h5,rfl,rfl⟩:=N;obtain⟨v,h6,h7⟩:=Yvu (P:=P) h1 (M m pm h2) (M k pk h3) h5;exact GQ (s:=Instr.lookup t (a.eval m) (a.eval k) ok) hS rfl h6 h7 hn
 rename_i kt et sz ks pm pk h1 h2 h3;simp only[D0]at E;obtain⟨zd,h4,rfl⟩:=E;simp only[POp.exec,D0,DO]at N;obtain⟨r,h5,rfl,rfl⟩:=N;obtain⟨v,h6,h7⟩:=Yft (P:=P) hS h1 h4 (M m pm h2) (M k pk h3) h5;exact GQ (s:=Instr.lookup t (a.eval m) (a.eval k) ok) hS rfl h6 h7 hn
theorem yXs(t:TypeId)(N:Option Operand){ty:TypeId}{pos:String}{after:Array Edge}{guard:Option (Nat×Bool)}(ae:TblOK P G T)(hS:SR base w g st)(hG:GlobOK G w g)(hF:FR w g st fr a)(E:DP P il (.makeMap t N)=s_ p)
  (M:p.exec T (DL G fr) st=s_ (d,st')) (hn:∀ v w' g',Go1 base w g st w' g' st'→RepV w' g' st' d v→next (a.put dst v) w'):Oper.wp P {dst:=dst,op:=.makeMap t N,type:=ty,pos:=pos,after:=after,guard:=guard} a w next Q:=by
 have af:∀ x pa,Ee x=s_ pa→RepV w g st (DL G fr pa) (a.eval x):=fun x pa h=>G7 hG hF h;clear hF
 cases N with
 |some x=>simp[DP]at E
 |none=>
  simp only[DP]at E
  split at E
  case h_2=>cases E
  rename_i kt et sz ks h1;simp only[Dp]at E; subst E;simp only[POp.exec]at M
  split at M
  case isFalse=>cases M
  rename_i hc;simp only[Dp,DO]at M;obtain⟨rfl,rfl⟩:=M;exact Pw (s:=Instr.makeMap t none) rfl (Yld (P:=P) (t:=t) hS hc.1 hc.2) hn
theorem nU{es:List D}{E:List Value}(M:ds.length=vs.length)(N:∀ (i:Nat) d v,ds[i]?=s_ d→vs[i]?=s_ v→RepV w g st d v)(h4:∀ (i:Nat) d v,es[i]?=s_ d→E[i]?=s_ v→RepV w g st d v) :
  ∀ (i:Nat) d v,(ds++es)[i]?=s_ d→(vs++E)[i]?=s_ v→RepV w g st d v:=by grind
theorem nL{ty:TypeId}{pos:String}{after:Array Edge}{guard:Option (Nat×Bool)}{N:PA}{l:List PA}(ab:∀ x N,Ee x=s_ N→RepV w g st (DL G fr N) (a.eval x))(aa:c.callee=.value x)
  (af:Ee x=s_ N) (hl:IU c.args.toList=s_ l) (hc:(POp.callv N l).callee (DL G fr)=s_ (f,ds)) :
  ∃ vs:List Value,ds.length=vs.length∧(∀ (i:Nat) d v,ds[i]?=s_ d→vs[i]?=s_ v→RepV w g st d v)∧execOp a.eval {dst:=dst,op:=.call c,type:=ty,pos:=pos,after:=after,guard:=guard}=callFunc f vs.toArray:=by
 obtain⟨g1,g2⟩:=Qi ab hl;have g1:(l.map (DL G fr)).length=(c.args.toList.map a.eval).length:=by simpa using g1
 have hr:=ab x N af;simp only[POp.callee]at hc
 split at hc
 case h_2=>cases hc
 rename_i f' ah ae;rw[ae]at hr;generalize M:a.eval x=xv at hr
 cases hr with
 |clo _ _ us hlen ac=>
  by_cases E:f'<5000000
  ·rw[if_pos E]at hc;simp only[Dp,DO]at hc;obtain⟨rfl,rfl⟩:=hc;rw[Tt E,YJ E,fC E]at M;refine⟨c.args.toList.map a.eval++us,by rw[Ac,Ac,g1,hlen],nU g1 g2 ac,?_⟩;simp only[execOp,resolve,aa,M,Deferred.ofValue]
   have:(c.args.toList.map a.eval++us).toArray=c.args.map a.eval++us.toArray:=by
    grind
   rw[this];simp only[BU];rfl
  ·rw[if_neg E]at hc
   split at hc
   case isFalse=>cases hc
   rename_i a0;simp only[Dp,DO]at hc;obtain⟨rfl,rfl⟩:=hc;obtain⟨f,rfl⟩:∃ f,f'=f+5000000:=⟨f' - 5000000,by omega⟩;have hf:f<5000000:=by omega
   rw[Ycx hf,xK hf,wx hf]at M;rw[CE];refine⟨us++c.args.toList.map a.eval,by rw[Ac,Ac,g1,hlen],nU hlen ac g2,?_⟩;simp only[execOp,resolve,aa,M,Deferred.ofValue]
   have:(us++c.args.toList.map a.eval).toArray=us.toArray++c.args.map a.eval:=by
    grind
   rw[this];rfl
theorem Ys3(c:Call){ty:TypeId}{pos:String}{after:Array Edge}{guard:Option (Nat×Bool)}(hT:TblOK P G T)(hS:SR base w g st)(hG:GlobOK G w g)(hF:FR w g st fr a)(M:DP P il (.call c)=s_ p)(ce:∀ x args f a7,p=.callv x args→DL G fr x=.clo f a7→f<10000000)
  (E:p.exec T (DL G fr) st=s_ (d,st')) (hn:∀ v w' g',Go1 base w g st w' g' st'→RepV w' g' st' d v→next (a.put dst v) w'):Oper.wp P {dst:=dst,op:=.call c,type:=ty,pos:=pos,after:=after,guard:=guard} a w next Q:=by
 have aa:∀ x pa,Ee x=s_ pa→RepV w g st (DL G fr pa) (a.eval x):=fun x pa h=>G7 hG hF h;clear hF;simp only[DP]at M
 split at M
 ·rename_i b hb
  -- a builtin
  have ac:∀ l,c.args.toList=l→c.args=l.toArray:=fun l h=>by rw[← h,BK]
  have bf:∀ l,c.argTypes.toList=l→c.argTypes=l.toArray:=fun l h=>by rw[← h,BK]
  unfold fM at M
  split at M
  ·rename_i x t N e2;have N:=ac _ N;have e2:=bf _ e2
   have ah:execOp a.eval {dst:=dst,op:=.call c,type:=ty,pos:=pos,after:=after,guard:=guard}=(do pure (.value (← Builtin.len_ #[t] ty #[a.eval x]))):=by
    simp[execOp,resolve,hb,N,e2,invoke,builtin]
   split at M
   ·rename_i pa h1 hu;simp only[Dp]at M; subst M;simp only[POp.exec]at E
    split at E
    case isFalse=>cases E
    rename_i bg;simp only[D0,DO]at E;obtain⟨n,h5,rfl,rfl⟩:=E;refine GQ hS ah (Ya0 (.inl hu) ⟨fun _=>?_,fun _=>hu⟩ h5 (aa x pa h1) ty) (.int _ _) hn;cases hp:DL G fr pa <;> simp[hp,Iz]at bg;grind
   ·rename_i pa e h1 hu;simp only[Dp]at M; subst M;simp only[POp.exec]at E
    split at E
    case isFalse=>cases E
    rename_i bg;simp only[D0,DO]at E;obtain⟨n,h5,rfl,rfl⟩:=E;refine GQ hS ah (Ya0 (.inr ⟨e,hu⟩) ⟨(by intro h; rw[hu]at h; cases h),fun⟨s,hs⟩=>?_⟩ h5 (aa x pa h1) ty) (.int _ _) hn;simp[hs,Iz]at bg
   ·rename_i pa n e h1 hu;simp only[Dp]at M; subst M;simp only[POp.exec,Dp,DO]at E;obtain⟨rfl,rfl⟩:=E;refine GQ hS ah ?_ (.int _ _) hn;simp[Builtin.len_,run_underlying hu,goInt]
   ·cases M
  ·rename_i s x t tx N e2;have N:=ac _ N;have e2:=bf _ e2
   have ah:execOp a.eval {dst:=dst,op:=.call c,type:=ty,pos:=pos,after:=after,guard:=guard}=(do pure (.value (← Builtin.append_ #[t,tx] ty #[a.eval s,a.eval x]))):=by
    simp[execOp,resolve,hb,N,e2,invoke,builtin]
   have fin:∀ ps px e,Ee s=s_ ps→Ee x=s_ px→P.underlying t=s_ (.slice e)→((∃ e',P.underlying tx=s_ (.slice e'))∨P.underlying tx=s_ .string)→(match P.info? e with
    |some i=>match i.zero with
     |some z=>if z.cells.size=i.size then s_ (POp.app i.size i.bytes ps px)else none
     |none=>none
    |none=>none)=s_ p→Oper.wp P {dst:=dst,op:=.call c,type:=ty,pos:=pos,after:=after,guard:=guard} a w next Q:=by
    intro ps px e h1 h2 hu cf hp
    split at hp
    case h_2=>cases hp
    rename_i i hi
    split at hp
    case h_2=>cases hp
    rename_i z hz
    split at hp
    case isFalse=>cases hp
    rename_i cg;simp only[Dp]at hp; subst hp;simp only[POp.exec]at E;exact Pw ah (Yt2 hS hu cf hi hz rfl rfl cg E (aa s ps h1) (aa x px h2)) hn
   split at M
   ·grind
   ·grind
   ·cases M
  ·rename_i x y t t2 N e2;have N:=ac _ N;have e2:=bf _ e2
   split at M
   case h_2=>cases M
   rename_i px py e h1 h2 hu
   split at M
   case h_2=>cases M
   rename_i ch;simp only[Dp]at M; subst M;simp only[POp.exec]at E;exact Pw (s:=Builtin.copy_ #[t,t2] ty #[a.eval x,a.eval y]) (by simp[execOp,resolve,hb,N,e2,invoke,builtin]) (YE1 hS hu ch (aa x px h1) (aa y py h2) E) hn
  ·rename_i x y N;have N:=ac _ N
   split at M
   case h_2=>cases M
   rename_i px py h1 h2;simp only[Dp]at M; subst M;simp only[POp.exec]at E
   split at E
   case h_2=>cases E
   rename_i k n k' m a3 a4;simp only[Dp,DO]at E;obtain⟨rfl,rfl⟩:=E;have r1:=aa x px h1;have r2:=aa y py h2;rw[a3]at r1;rw[a4]at r2;have q1:=Jt r1;have q2:=Jt r2;refine GQ (s:=Builtin.min_ c.argTypes ty #[a.eval x,a.eval y]) hS ?_ ?_ (.int k (if m<n then m else n)) hn
   ·simp[execOp,resolve,hb,N,invoke,builtin]
   ·simp[Builtin.min_,q1,q2,Builtin.min2]
  ·rename_i x y N;have N:=ac _ N
   split at M
   case h_2=>cases M
   rename_i px py h1 h2;simp only[Dp]at M; subst M;simp only[POp.exec]at E
   split at E
   case h_2=>cases E
   rename_i k n k' m a3 a4;simp only[Dp,DO]at E;obtain⟨rfl,rfl⟩:=E;have r1:=aa x px h1;have r2:=aa y py h2;rw[a3]at r1;rw[a4]at r2;have q1:=Jt r1;have q2:=Jt r2;refine GQ (s:=Builtin.max_ c.argTypes ty #[a.eval x,a.eval y]) hS ?_ ?_ (.int k (if m > n then m else n)) hn
   ·simp[execOp,resolve,hb,N,invoke,builtin]
   ·simp[Builtin.max_,q1,q2,Builtin.max2]
  ·rename_i x y z N;have N:=ac _ N
   split at M
   case h_2=>cases M
   rename_i px py pz h1 h2 h3;simp only[Dp]at M; subst M;simp only[POp.exec]at E
   split at E
   case h_2=>cases E
   rename_i k n k' m k2 l a3 a4 bh;simp only[Dp,DO]at E;obtain⟨rfl,rfl⟩:=E;have r1:=aa x px h1;have r2:=aa y py h2;have r3:=aa z pz h3;rw[a3]at r1;rw[a4]at r2;rw[bh]at r3;have q1:=Jt r1;have q2:=Jt r2;have q3:=Jt r3;refine GQ (s:=Builtin.min_ c.argTypes ty #[a.eval x,a.eval y,a.eval z]) hS ?_ ?_ (.int k (N0 f_ (N0 f_ n m) l)) hn
   ·simp[execOp,resolve,hb,N,invoke,builtin]
   ·simp[Builtin.min_,q1,q2,q3,Builtin.min2,N0]
  ·rename_i x y z N;have N:=ac _ N
   split at M
   case h_2=>cases M
   rename_i px py pz h1 h2 h3;simp only[Dp]at M; subst M;simp only[POp.exec]at E
   split at E
   case h_2=>cases E
   rename_i k n k' m k2 l a3 a4 bh;simp only[Dp,DO]at E;obtain⟨rfl,rfl⟩:=E;have r1:=aa x px h1;have r2:=aa y py h2;have r3:=aa z pz h3;rw[a3]at r1;rw[a4]at r2;rw[bh]at r3;have q1:=Jt r1;have q2:=Jt r2;have q3:=Jt r3;refine GQ (s:=Builtin.max_ c.argTypes ty #[a.eval x,a.eval y,a.eval z]) hS ?_ ?_ (.int k (N0 t_ (N0 t_ n m) l)) hn
   ·simp[execOp,resolve,hb,N,invoke,builtin]
   ·simp[Builtin.max_,q1,q2,q3,Builtin.max2,N0]
  ·cases M
 ·rename_i f hf
  split at M
  case h_2=>cases M
  rename_i fn l c0 hl
  have hex:execOp a.eval {dst:=dst,op:=.call c,type:=ty,pos:=pos,after:=after,guard:=guard}=callFunc f (c.args.toList.map a.eval).toArray:=by
   simp only[execOp,resolve,hf,Act.eval,Deferred.ofValue]
   have:(c.args.toList.map a.eval).toArray=c.args.map a.eval:=by
    grind
   rw[this];simp only[BU];rfl
  obtain⟨g1,g2⟩:=Qi aa hl
  split at M
  case isFalse=>
   split at M
   case isTrue=>cases M
   simp only[Dp]at M;subst M;simp only[POp.exec]at E
   split at E
   case h_2=>cases E
   rename_i sp ys ab b2
   split at E
   case h_2=>cases E
   rename_i r hr;simp only[Dp,DO]at E;obtain⟨rfl,rfl⟩:=E;rcases hT.p _ _ ab with⟨hC,_⟩|⟨f',e,hE⟩
   ·omega
   ·obtain rfl:f=f':=Nat.add_right_cancel e;exact YEu hS hE b2 hr (by simpa using g1) g2 hex hn
  rename_i hc;simp only[Ad,AU,decide_eq_true_eq]at hc;simp only[Dp]at M
  split at M
  ·subst M;simp only[POp.exec]at E
   split at E
   case h_2=>cases E
   rename_i sp ab
   split at E
   case h_2=>cases E
   rename_i r hr;refine nP (hT.m f sp ab) hS hG (ds:=l.map (DL G fr)) (vs:=c.args.toList.map a.eval) (r:=d) (st':=st') ?_ (by simpa using g1) g2 hex hn;grind
  split at M
  ·subst M;simp only[POp.exec]at E
   split at E
   case h_2=>cases E
   rename_i sp ab;exact nP (hT.q f sp ab) hS hG (ds:=l.map (DL G fr)) (vs:=c.args.toList.map a.eval) (r:=d) (st':=st') E (by simpa using g1) g2 hex hn
  split at M
  ·subst M;simp only[POp.exec]at E
   split at E
   case h_2=>cases E
   rename_i sp ab;exact mV hT hS hG (ds:=l.map (DL G fr)) (vs:=c.args.toList.map a.eval) ab E (by simpa using g1) g2 hex hn
  ·subst M;simp only[POp.exec]at E
   split at E
   case h_2=>cases E
   rename_i sp ys ab b2
   split at E
   case h_2=>cases E
   rename_i r hr;simp only[Dp,DO]at E;obtain⟨rfl,rfl⟩:=E;exact Ywm hT hS hG (ds:=l.map (DL G fr)) (vs:=c.args.toList.map a.eval) c0 hc.1.1 hc.1.2 hc.2 ab b2 hr (by simpa using g1) g2 hex hn
 ·rename_i x c6 b3
  split at M
  case h_2=>cases M
  rename_i pa l b7 hl;simp only[Dp]at M; subst M;simp only[POp.exec]at E
  split at E
  case h_2=>cases E
  rename_i f a7 bd;have b4:=ce _ _ _ _ rfl bd
  by_cases be:f<5000000
  ·rw[if_pos be]at E
   split at E
   case h_2=>cases E
   rename_i sp ab;obtain⟨vs,N,e2,e3⟩:=nL (dst:=dst) (ty:=ty) (pos:=pos) (after:=after) (guard:=guard) aa b3 b7 hl (show(POp.callv pa l).callee (DL G fr)=s_ (f,l.map (DL G fr)++a7) by simp[POp.callee,bd,be]);exact mV hT hS hG ab E N e2 e3 hn
  ·rw[if_neg be,if_pos b4]at E
   split at E
   case h_2=>cases E
   rename_i sp ab;obtain⟨vs,N,e2,e3⟩:=nL (dst:=dst) (ty:=ty) (pos:=pos) (after:=after) (guard:=guard) aa b3 b7 hl (show(POp.callv pa l).callee (DL G fr)=s_ (f - 5000000,a7++l.map (DL G fr)) by simp[POp.callee,bd,be,b4]);exact mV hT hS hG ab E N e2 e3 hn
 ·cases M
theorem ySs(fn:Fn)(first E:Array Operand){ty:TypeId}{pos:String}{after:Array Edge}{guard:Option (Nat×Bool)}(a1:TblOK P G T)(hS:SR base w g st)(hG:GlobOK G w g)(hF:FR w g st fr a)(M:DP P il (.makeFunc fn first E)=s_ p)
  (hx:p.exec T (DL G fr) st=s_ (d,st')) (hn:∀ v w' g',Go1 base w g st w' g' st'→RepV w' g' st' d v→next (a.put dst v) w'):Oper.wp P {dst:=dst,op:=.makeFunc fn first E,type:=ty,pos:=pos,after:=after,guard:=guard} a w next Q:=by
 have ab:∀ x pa,Ee x=s_ pa→RepV w g st (DL G fr pa) (a.eval x):=fun x pa h=>G7 hG hF h;clear hF
 cases fn with
 |func f=>
  simp only[DP]at M
  split at M
  case isFalse=>cases M
  rename_i N;simp only[decide_eq_true_eq]at N
  split at M
  ·rename_i hf;simp only[D0]at M;obtain⟨l,hl,rfl⟩:=M;simp only[POp.exec,Dp,DO]at hx;obtain⟨rfl,rfl⟩:=hx;obtain⟨g1,g2⟩:=Qi ab hl;refine GQ (s:=Instr.makeFunc (.func f) (first.map a.eval) (E.map a.eval)) hS rfl (v:=.func (LD f) (RO f (E.toList.map a.eval)) (RE f (E.toList.map a.eval))) ?_ (.clo f _ _ (by simpa using g1) g2) hn;rw[Tt N,YJ N,fC N]
   have h1:first.map a.eval=#[]:=by
    grind
   have h2:E.map a.eval=(E.toList.map a.eval).toArray:=by
    grind
   rw[h1,h2];rfl
  ·split at M
   case isFalse=>cases M
   rename_i hf;simp only[D0]at M;obtain⟨l,hl,rfl⟩:=M;simp only[POp.exec,Dp,DO]at hx;obtain⟨rfl,rfl⟩:=hx;obtain⟨g1,g2⟩:=Qi ab hl;refine GQ (s:=Instr.makeFunc (.func f) (first.map a.eval) (E.map a.eval)) hS rfl (v:=.func (LD (f+5000000)) (RO (f+5000000) (first.toList.map a.eval)) (RE (f+5000000) (first.toList.map a.eval))) ?_ (.clo (f+5000000) _ _ (by simpa using g1) g2) hn;rw[Ycx N,xK N,wx N]
   have h1:E.map a.eval=#[]:=by
    grind
   have h2:first.map a.eval=(first.toList.map a.eval).toArray:=by
    grind
   rw[h1,h2];rfl
 |_=>simp[DP]at M
def Wr(r:Option Nat):Fence:={Fence.wide with round:=r}
theorem Rs(E:∀ c,o.op≠.defer c)(h:o.wp P a w next Q):o.wpIn (Wr r) 0 P a w next Q:=by
 refine⟨fun _ _=>trivial,?_⟩;rw[Oper.semAt_eq _ _ _ E];unfold Oper.wp at h;generalize (execOp a.eval o).run P w=x at h ⊢
 cases x with
 |ok n w'=>
  cases n <;> simp only[Oper.upon]at h <;> simp only[Oper.uponIn] <;> first
   |exact h
   |exact h.elim
   |exact⟨(fun e=>by cases e),callsIn_wide.2 h⟩
   |exact⟨(fun e=>by cases e),fun c cs _=>let⟨v,w',r,s⟩:=h c cs; ⟨v,w',r,stepsIn_wide.2 s⟩⟩
 |halt x w'=>cases x <;> simp only[Oper.upon]at h <;> simp only[Oper.uponIn] <;> first|exact h|exact h.elim
theorem YOK.none{G:DB}{w0:World}{g0:Ghost}{st0:St}:YOK P G (fun _ _ _=>none) base w0 g0 st0:=fun _ _ _ _ _ _ _ _ _ _ h=>by cases h
theorem Yhw{l:Nat}(E:o.op=.call c)(hc:c.callee=.value x)(M:a.eval x=.func (.yield l) #[] #[])(ac:c.args.toList.map a.eval=vs)
  (h:uB P base w g st st' l vs d) (hn:∀ v w' g',Go1 base w g st w' g' st'→RepV w' g' st' d v→next (a.put o.dst v) w'):o.wpIn (Wr r) 0 P a w next Q:=by
 obtain⟨f,tmps,assign,body,N,h2⟩:=h;refine⟨fun _ _=>trivial,?_⟩;rw[Oper.semAt_eq _ _ _ (fun c' e=>by rw[E]at e; cases e)]
 have hex:execOp a.eval o=Instr.yield l vs.toArray:=by
  obtain⟨dst,op,ty,pos,after,guard⟩:=o;simp only at E;subst E
  have h3:vs.toArray=c.args.map a.eval:=by
   grind
  simp only[execOp,resolve,hc,M,Deferred.ofValue,h3,BU];rfl
 rw[hex,N,Oper.uponIn_round];refine⟨(fun e=>by cases e),?_⟩;refine RoundIn.mono (F:=Wr r) (n:=0) h2 ?_;grind
theorem YJz(M:TblOK P G T)(N:SR base w g st)(hG:GlobOK G w g)(hF:FR w g st fr a)(E:DP P il o.op=s_ p)(ae:∀ x args f ad,p=.callv x args→DL G fr x=.clo f ad→f<10000000)(hx:p.exec T (DL G fr) st=s_ (d,st'))
  (hn:∀ v w' g',Go1 base w g st w' g' st'→RepV w' g' st' d v→next (a.put o.dst v) w'):o.wp P a w next Q:=by
 obtain⟨dst,op,ty,pos,after,guard⟩:=o
 cases op with
 |move x=>exact Ys1 x M N hG hF E hx hn
 |assign x=>exact Yeq x M N hG hF E hx hn
 |pick c x y=>exact Ys0 c x y M N hG hF E hx hn
 |alloc t=>exact Yi7 t M N hG hF E hx hn
 |box t x=>exact YBi t x M N hG hF E hx hn
 |build t parts=>exact Yi5 t parts M N hG hF E hx hn
 |buildSlice t len parts=>exact yLf t len parts M N hG hF E hx hn
 |load t x=>exact Ys2 t x M N hG hF E hx hn
 |store t x y=>exact Yi1 t x y M N hG hF E hx hn
 |nilCheck x=>exact ySr x M N hG hF E hx hn
 |binOp op t x y yt=>exact Yi6 op t x y yt M N hG hF E hx hn
 |unOp op t x=>exact Ysz op t x M N hG hF E hx hn
 |convert src dt x=>exact yXv src dt x M N hG hF E hx hn
 |makeSlice t l c=>exact yPh t l c M N hG hF E hx hn
 |slice t x lo hi mx=>exact Yi2 t x lo hi mx M N hG hF E hx hn
 |fieldAddr s x f=>exact yPj s x f M N hG hF E hx hn
 |field s x f=>exact Yi4 s x f M N hG hF E hx hn
 |indexAddr t x i=>exact yPi t x i M N hG hF E hx hn
 |index t x i=>exact Yi3 t x i M N hG hF E hx hn
 |extract x i=>exact yXu x i M N hG hF E hx hn
 |mapUpdate t m k v=>exact yPg t m k v M N hG hF E hx hn
 |insert t m k v=>exact Yep t m k v M N hG hF E hx hn
 |lookup t m k ok=>exact Yeo t m k ok M N hG hF E hx hn
 |makeMap t rs=>exact yXs t rs M N hG hF E hx hn
 |call c=>exact Ys3 c M N hG hF E ae hx hn
 |makeFunc fn first ad=>exact ySs fn first ad M N hG hF E hx hn
 |_=>simp[DP]at E
theorem Yuc{w0:World}{g0:Ghost}{st0:St}(hT:TblOK P G T)(hY:YOK P G T.y base w0 g0 st0)(ae:Go1 base w0 g0 st0 w g st)(hG:GlobOK G w g)(hF:FR w g st fr a)(E:DP P il o.op=s_ p)(hx:p.exec T (DL G fr) st=s_ (d,st'))
  (hn:∀ v w' g',Go1 base w g st w' g' st'→RepV w' g' st' d v→next (a.put o.dst v) w'):o.wpIn (Wr r) 0 P a w next Q:=by
 have af:∀ c,o.op≠.defer c:=fun c e=>by rw[e]at E; simp[DP]at E
 by_cases hc:∃ x args f M,p=.callv x args∧DL G fr x=.clo f M∧¬ f<10000000
 ·obtain⟨x,args,f,M,rfl,ab,ah⟩:=hc;have ac:¬ f<5000000:=by omega
  simp only[POp.exec,ab,if_neg ah,if_neg ac]at hx
  split at hx
  case isFalse=>cases hx
  rename_i a4;obtain rfl:M=[]:=by simpa using a4
  have hinv:∃ c xo,o.op=.call c∧c.callee=.value xo∧Ee xo=s_ x∧IU c.args.toList=s_ args:=by
   clear hn hx af;generalize o.op=op at E
   cases op with
   |call c=>
    simp only[DP]at E
    split at E
    ·rename_i b hb;unfold fM at E
     repeat' split at E
     all_goals first|cases E|(simp at E; done)|skip
    ·grind
    ·grind
    ·cases E
   |_=>exfalso; revert E; simp only[DP,gu,iw,dM]; (repeat' split) <;> first|(simp; done)|(intro h; cases h; done)|(intro h; simp only[D0]at h; obtain⟨_,_,h⟩:=h; cases h; done)|(intro _; contradiction)
  obtain⟨c,xo,h1,h2,h4,h5⟩:=hinv;have hr:=G7 hG hF h4;rw[ab]at hr;obtain⟨e1,e2⟩:=Qi (fun x pa h=>G7 (G:=G) hG hF h) h5;generalize N:a.eval xo=xv at hr
  cases hr with
  |clo _ _ us hlen bc=>
   obtain rfl:us=[]:=AQ hlen.symm;rw[ov,nM]at N;unfold LD at N;rw[if_neg ac,if_neg ah]at N;refine Yhw (vs:=c.args.toList.map a.eval) h1 h2 N rfl (hY _ w g st st' _ _ d ae hG hx (by simpa using e1) e2) hn
 ·refine Rs af ?_;exact YJz hT ae.sr hG hF E (fun x args f M e1 e2=>Classical.byContradiction fun e3=>hc ⟨x,args,f,M,e1,e2,e3⟩) hx hn
end
end Go.Proofs.YtijnglngaogdjaaGreatDoor.PI
namespace Go.Proofs.YtijnglngaogdjaaGreatDoor.PI
open Go Go.RowKit
def POp.cls:POp→Nat
 |.mov _ | .pick _ _ _ | .bld _ _ | .bin _ _ _ | .beq _ _ _ | .aeq _ _ _ _ | .un _ _ | .sliceA _ _ _ _ _ _ | .fldv _ _ _ _ | .idx _ _ | .idxV _ _ _ _ _ | .lenA _ | .mm _ _ _ | .mm3 _ _ _ _ | .ext _ _ | .mkclo _ _=>0
 |.conv c _=>match c with
  |.str=>1
  |_=>0
 |.load _ _ _ | .nilc _ | .slice _ _ _ _ _ | .fld _ _ | .idxS _ _ _ | .idxA _ _ _ _ | .len _ _ | .mapget _ _ _ _ _ _ | .rcall _ _=>1
 |.bslc _ _ | .call _ _=>2
 |.box _ | .stor _ _ _ | .mkslc _ _ _ _ _ | .app _ _ _ _ | .icall _ _ | .mcall _ _ | .callv _ _ | .mkmap _ | .mapup _ _ _ _ _ | .cpy _ _ _ | .fail=>3
def PA.slot:PA→List Nat
 |.s n=>[n]
 |_=>[]
def PI.reads(i:PI):List Nat:=i.op.args.flatMap PA.slot++(HH i.guard).map (·.1)
def POp.push:POp→Bool
 |.box _ | .mkslc _ _ _ _ _=>t_
 |_=>f_
def PI.apart(x y:PI):Bool:=
 (match x.dst with
  |some d=>!(y.reads.contains d) && y.dst != s_ d
  |none=>t_) &&
 (match y.dst with
  |some d=>!(x.reads.contains d)
  |none=>t_) &&
 (x.op.cls == 0 || y.op.cls == 0 || (decide (x.op.cls≤2) && (decide (y.op.cls≤2) || y.op.push)))
theorem Qq{α β:Type}{f g:α→β}:∀ {l:List α},(∀ x∈l,f x=g x)→l.map f=l.map g:=fun h=>BA h
variable {st:St}{ρ:PA→D}{T:Tbl}
theorem Ygs{M:PA→D}(p:POp)(h:∀ x∈p.args,ρ x=M x):p.exec T ρ st=p.exec T M st:=by
 have opt:∀ (o:Option PA),(∀ x∈HH o,ρ x=M x)→o.map ρ=o.map M:=by
  intro o ho
  cases o with
  |none=>rfl
  |some x=>simp[ho x (by simp[HH])]
 cases p with
 |bld zero parts=>
  have:(parts.map fun p=>(p.1,p.2.1,ρ p.2.2))=parts.map fun p=>(p.1,p.2.1,M p.2.2):=Qq fun q E=>by
   rw[h q.2.2 (by simp only[POp.args,A1]; exact⟨q,E,rfl⟩)]
  simp only[POp.exec,this]
 |bslc sz parts=>
  have:parts.map ρ=parts.map M:=Qq fun q E=>h q E;simp only[POp.exec,this]
 |call f args=>
  have:args.map ρ=args.map M:=Qq fun q E=>h q E;simp only[POp.exec,this]
 |icall f args=>
  have:args.map ρ=args.map M:=Qq fun q E=>h q E;simp only[POp.exec,this]
 |mcall f args=>
  have:args.map ρ=args.map M:=Qq fun q E=>h q E;simp only[POp.exec,this]
 |rcall f args=>
  have:args.map ρ=args.map M:=Qq fun q E=>h q E;simp only[POp.exec,this]
 |mkclo f args=>
  have:args.map ρ=args.map M:=Qq fun q E=>h q E;simp only[POp.exec,this]
 |callv x args=>
  have:args.map ρ=args.map M:=Qq fun q E=>h q (by simp[POp.args,E]);simp only[POp.exec,this,h x (by simp[POp.args])]
 |slice sz x lo hi mx=>
  simp only[POp.args,Ay,AM]at h;simp only[POp.exec,h x (.inl rfl),opt lo (fun y N=>h y (.inr (.inl (.inl N)))),opt hi (fun y N=>h y (.inr (.inl (.inr N)))),opt mx (fun y N=>h y (.inr (.inr N)))]
 |sliceA n sz ag x lo hi=>
  simp only[POp.args,Ay,AM]at h;simp only[POp.exec,h x (.inl rfl),opt lo (fun y N=>h y (.inr (.inl N))),opt hi (fun y N=>h y (.inr (.inr N)))]
 |_=>
  simp only[POp.args,Ay,AD,or_false,forall_eq_or_imp,forall_eq]at h;simp only[POp.exec,h]
abbrev lend1(k:Nat)(st:St):St:=st.modify k fun o=>{o with lent:=t_}
theorem Yzg(st:St)(k key off n sz:Nat)(ag:Bool):KG (lend1 k st) key off n sz ag=KG st key off n sz ag:=by unfold KG;grind
theorem nR(st:St)(k key tot:Nat):Fo (lend1 k st) key tot=Fo st key tot:=by unfold Fo;grind
theorem Yet(st:St)(k:Nat)(d:D):E7 (lend1 k st) d=E7 st d:=by cases d <;> simp only[E7,nR]
theorem yYj(st:St)(k:Nat)(c:PConv)(d:D):FZ (lend1 k st) c d=FZ st c d:=by cases c <;> cases d <;> simp only[FZ,yz]
theorem yS6(st:St)(k sz:Nat)(x:D)(lo hi E:Option D):G5 (lend1 k st) sz x lo hi E=G5 st sz x lo hi E:=by
 cases x with
 |row key tot off len=>
  simp only[G5,SQ];grind
 |_=>simp only[G5]
theorem yYg(st:St)(k sz:Nat)(x i:D):GK (lend1 k st) sz x i=GK st sz x i:=by
 unfold GK
 cases Gk i with
 |none=>rfl
 |some j=>
  grind
theorem wQ(st:St)(k off:Nat)(x:D):FE (lend1 k st) off x=FE st off x:=by cases x <;> simp only[FE,nR]
theorem yYh(st:St)(k n sz:Nat)(x i:D):Jg (lend1 k st) n sz x i=Jg st n sz x i:=by simp only[Jg,wQ]
theorem yYc(st:St)(k n:Nat)(ag:Bool)(p:D):FL (lend1 k st) n ag p=FL st n ag p:=by
 cases p with
 |ptr key off=>
  simp only[FL,SQ];grind
 |rptr key tot i off=>
  simp only[FL,SQ];grind
 |_=>simp only[FL]
theorem yPx(st:St)(M sz:Nat)(ks:List Nat)(ok:Bool)(E m k:D):JU (lend1 M st) sz ks ok E m k=JU st sz ks ok E m k:=by
 cases m with
 |mapv key=>
  simp only[JU,SQ]
  cases st[key]? with
  |none=>rfl
  |some o=>by_cases e:M=key <;> simp[e,Obj.isMap]
 |_=>simp only[JU]
theorem Yf1(a b:Nat)(st:St):lend1 a (lend1 b st)=lend1 b (lend1 a st):=by apply Bj;grind
theorem YL(a:Nat):∀ (ks:List Nat) (st:St),lend ks (lend1 a st)=lend1 a (lend ks st)
 |[],_=>rfl
 |k::r,st=>by
  show lend r (lend1 k (lend1 a st))=lend1 a (lend r (lend1 k st))
  rw[Yf1,YL a r]
theorem np:∀ (ks qs:List Nat) (st:St),lend ks (lend qs st)=lend qs (lend ks st)
 |[],_,_=>rfl
 |k::r,qs,st=>by
  show lend r (lend1 k (lend qs st))=lend qs (lend r (lend1 k st))
  rw[← YL,np r qs]
theorem Yna(st:St)(k key:Nat):((lend1 k st)[key]?).map Obj.see=(st[key]?).map Obj.see:=by
 rw[SQ]
 cases st[key]? with
 |none=>rfl
 |some o=>by_cases e:k=key <;> simp[e,Obj.see]
theorem xu(st:St)(k:Nat):∀ l:List Nat,HF (lend1 k st) l=HF st l
 |[]=>rfl
 |a::l=>by simp only[HF,Yna,xu st k l]
theorem yT9(st:St)(k key:Nat):((lend1 k st)[key]?).isSome=(st[key]?).isSome:=by grind
theorem yS4(st:St)(k:Nat)(sp:List D→List (Option (Bool×Nat×List D))→Option D)(ds:List D):Jk sp ds (lend1 k st)=Jk sp ds st:=by unfold Jk;simp only[yT9,xu]
theorem Ygr(p:POp)(hc:p.cls≤2)(k:Nat)(st:St):p.exec T ρ (lend1 k st)=(p.exec T ρ st).map fun r=>(r.1,lend1 k r.2):=by
 have mp:∀ {α:Type} (o:Option α) (f:α→D),(o.map fun x=>(f x,lend1 k st))=(o.map fun x=>(f x,st)).map fun r=>(r.1,lend1 k r.2):=by
  intro α o f;cases o <;> rfl
 cases p with
 |mov x=>rfl
 |pick c x y=>simp only[POp.exec]; split <;> rfl
 |box x=>simp[POp.cls]at hc
 |bld zero parts=>simp only[POp.exec]; exact mp _ _
 |bslc sz parts=>
  simp only[POp.exec,YK]
  split
  ·split
   ·simp only[Ae,YL]
   ·rfl
  ·rfl
 |load n ag x=>simp only[POp.exec,yYc]; exact mp _ _
 |stor n p x=>simp[POp.cls]at hc
 |nilc x=>
  simp only[POp.exec,nR]
  split
  ·rfl
  ·rfl
  ·grind
  ·rfl
 |bin op x y=>simp only[POp.exec]; exact mp _ _
 |beq neg x y=>simp only[POp.exec]; exact mp _ _
 |aeq ks neg x y=>simp only[POp.exec]; exact mp _ _
 |un op x=>simp only[POp.exec]; exact mp _ _
 |conv c x=>simp only[POp.exec,yYj]; exact mp _ _
 |mkslc sz bytes zero l c=>simp[POp.cls]at hc
 |slice sz x lo hi E=>simp only[POp.exec,yS6]; exact mp _ _
 |sliceA n sz ag x lo hi=>simp only[POp.exec]; exact mp _ _
 |fld off x=>simp only[POp.exec,wQ]; exact mp _ _
 |fldv off n ag x=>simp only[POp.exec]; exact mp _ _
 |idxS sz x i=>simp only[POp.exec,yYg]; exact mp _ _
 |idxA n sz x i=>simp only[POp.exec,yYh]; exact mp _ _
 |idx x i=>simp only[POp.exec]; exact mp _ _
 |idxV l sz ag x i=>simp only[POp.exec]; exact mp _ _
 |len str x=>
  simp only[POp.exec,Yet]
  split
  ·simp_all
  ·rfl
 |lenA n=>rfl
 |app sz bytes s x=>simp[POp.cls]at hc
 |mm E x y=>simp only[POp.exec]; split <;> rfl
 |mm3 E x y z=>simp only[POp.exec]; split <;> rfl
 |rcall f args=>
  simp only[POp.exec,yS4]
  split
  ·exact mp _ _
  ·rfl
 |icall f args=>simp[POp.cls]at hc
 |mcall f args=>simp[POp.cls]at hc
 |fail=>simp[POp.cls]at hc
 |mkmap sz=>simp[POp.cls]at hc
 |mapup sz ks m k v=>simp[POp.cls]at hc
 |cpy sz d s=>simp[POp.cls]at hc
 |mapget sz ks ok zero m k=>simp only[POp.exec,yPx]; exact mp _ _
 |callv x args=>simp[POp.cls]at hc
 |mkclo f args=>rfl
 |call f args=>
  simp only[POp.exec,YK]
  split
  ·split
   ·split
    ·rfl
    ·simp only[Ae,YL]
   ·rfl
  ·rfl
 |ext x i=>
  simp only[POp.exec]
  split
  ·exact mp _ id
  ·rfl
theorem m6{T:Tbl}{ρ:PA→D}(p:POp)(hc:p.cls≤2):∀ (ks:List Nat) (st:St),p.exec T ρ (lend ks st)=(p.exec T ρ st).map fun r=>(r.1,lend ks r.2)
 |[],st=>by cases h:p.exec T ρ st <;> simp[lend,h]
 |k::r,st=>by
  show p.exec T ρ (lend r (lend1 k st))=_
  rw[m6 p hc r,Ygr p hc k st];cases p.exec T ρ st <;> rfl
variable {d:D}{st':St}
theorem fo(p:POp)(hc:p.cls≤2)(h:p.exec T ρ st=s_ (d,st')):∃ ks,st'=lend ks st:=by
 have mp:∀ {α:Type} (o:Option α) (f:α→D),(o.map fun x=>(f x,st))=s_ (d,st')→∃ ks,st'=lend ks st:=by
  intro α o f h;simp only[D0,DO]at h;obtain⟨_,_,_,rfl⟩:=h;exact⟨[],rfl⟩
 cases p with
 |mov x=>simp only[POp.exec,Dp,DO]at h; exact⟨[],h.2.symm⟩
 |pick c x y=>
  simp only[POp.exec]at h
  split at h
  ·simp only[Dp,DO]at h; exact⟨[],h.2.symm⟩
  ·cases h
 |box x=>simp[POp.cls]at hc
 |bld zero parts=>simp only[POp.exec]at h; exact mp _ _ h
 |bslc sz parts=>
  simp only[POp.exec]at h;grind
 |load n ag x=>simp only[POp.exec]at h; exact mp _ _ h
 |stor n p x=>simp[POp.cls]at hc
 |nilc x=>
  simp only[POp.exec]at h
  split at h
  ·simp only[Dp,DO]at h; exact⟨[],h.2.symm⟩
  ·simp only[Dp,DO]at h; exact⟨[],h.2.symm⟩
  ·split at h
   ·simp only[Dp,DO]at h; exact⟨[],h.2.symm⟩
   ·cases h
  ·cases h
 |bin op x y=>simp only[POp.exec]at h; exact mp _ _ h
 |beq neg x y=>simp only[POp.exec]at h; exact mp _ _ h
 |aeq ks neg x y=>simp only[POp.exec]at h; exact mp _ _ h
 |un op x=>simp only[POp.exec]at h; exact mp _ _ h
 |conv c x=>simp only[POp.exec]at h; exact mp _ _ h
 |mkslc sz bytes zero l c=>simp[POp.cls]at hc
 |slice sz x lo hi E=>simp only[POp.exec]at h; exact mp _ _ h
 |sliceA n sz ag x lo hi=>simp only[POp.exec]at h; exact mp _ _ h
 |fld off x=>simp only[POp.exec]at h; exact mp _ _ h
 |fldv off n ag x=>simp only[POp.exec]at h; exact mp _ _ h
 |idxS sz x i=>simp only[POp.exec]at h; exact mp _ _ h
 |idxA n sz x i=>simp only[POp.exec]at h; exact mp _ _ h
 |idx x i=>simp only[POp.exec]at h; exact mp _ _ h
 |idxV l sz ag x i=>simp only[POp.exec]at h; exact mp _ _ h
 |len str x=>
  simp only[POp.exec]at h
  split at h
  ·exact mp _ (fun n:Nat=>D.int .i64 (n:Int)) h
  ·cases h
 |lenA n=>simp only[POp.exec,Dp,DO]at h; exact⟨[],h.2.symm⟩
 |app sz bytes s x=>simp[POp.cls]at hc
 |mm E x y=>
  simp only[POp.exec]at h
  split at h
  ·simp only[Dp,DO]at h; exact⟨[],h.2.symm⟩
  ·cases h
 |mm3 E x y z=>
  simp only[POp.exec]at h
  split at h
  ·simp only[Dp,DO]at h; exact⟨[],h.2.symm⟩
  ·cases h
 |rcall f args=>
  simp only[POp.exec]at h
  split at h
  ·exact mp _ id (by simpa using h)
  ·cases h
 |icall f args=>simp[POp.cls]at hc
 |mcall f args=>simp[POp.cls]at hc
 |fail=>simp[POp.cls]at hc
 |mkmap sz=>simp[POp.cls]at hc
 |mapup sz ks m k v=>simp[POp.cls]at hc
 |cpy sz d s=>simp[POp.cls]at hc
 |mapget sz ks ok zero m k=>simp only[POp.exec]at h; exact mp _ _ h
 |callv x args=>simp[POp.cls]at hc
 |mkclo f args=>simp only[POp.exec,Dp,DO]at h; exact⟨[],h.2.symm⟩
 |call f args=>
  simp only[POp.exec]at h
  split at h
  ·split at h
   ·simp only[Dp,DO]at h;obtain⟨_,rfl⟩:=h
    split
    ·exact⟨[],rfl⟩
    ·grind
   ·cases h
  ·cases h
 |ext x i=>
  simp only[POp.exec]at h
  split at h
  ·exact mp _ id h
  ·cases h
theorem m7(p:POp)(hc:p.cls=0)(h:p.exec T ρ st=s_ (d,st')):st'=st∧∀ st2,p.exec T ρ st2=s_ (d,st2):=by
 have mp:∀ {α:Type} (o:Option α) (f:α→D),(o.map fun x=>(f x,st))=s_ (d,st')→st'=st∧∀ st2:St,(o.map fun x=>(f x,st2))=s_ (d,st2):=by
  simp_all
 cases p with
 |mov x=>simp only[POp.exec,Dp,DO]at h ⊢; exact⟨h.2.symm,fun st2=>⟨h.1,trivial⟩⟩
 |pick c x y=>
  simp only[POp.exec]at h ⊢
  split at h
  ·grind
  ·cases h
 |bld zero parts=>simp only[POp.exec]at h ⊢; exact mp _ _ h
 |bin op x y=>simp only[POp.exec]at h ⊢; exact mp _ _ h
 |beq neg x y=>simp only[POp.exec]at h ⊢; exact mp _ _ h
 |aeq ks neg x y=>simp only[POp.exec]at h ⊢; exact mp _ _ h
 |un op x=>simp only[POp.exec]at h ⊢; exact mp _ _ h
 |conv c x=>
  cases c with
  |str=>simp[POp.cls]at hc
  |int k=>
   have e:∀ st2,FZ st2 (.int k) (ρ x)=FZ st (.int k) (ρ x):=fun st2=>by cases ρ x <;> simp only[FZ]
   simp only[POp.exec]at h ⊢;obtain⟨E,M⟩:=mp _ _ h;grind
  |bytes=>
   have e:∀ st2,FZ st2 .bytes (ρ x)=FZ st .bytes (ρ x):=fun st2=>by cases ρ x <;> simp only[FZ]
   simp only[POp.exec]at h ⊢;obtain⟨E,M⟩:=mp _ _ h;grind
  |same=>
   have e:∀ st2,FZ st2 .same (ρ x)=FZ st .same (ρ x):=fun st2=>by cases ρ x <;> simp only[FZ]
   simp only[POp.exec]at h ⊢;obtain⟨E,M⟩:=mp _ _ h;grind
 |sliceA n sz ag x lo hi=>simp only[POp.exec]at h ⊢; exact mp _ _ h
 |fldv off n ag x=>simp only[POp.exec]at h ⊢; exact mp _ _ h
 |idx x i=>simp only[POp.exec]at h ⊢; exact mp _ _ h
 |idxV l sz ag x i=>simp only[POp.exec]at h ⊢; exact mp _ _ h
 |mkclo f args=>simp only[POp.exec,Dp,DO]at h ⊢; exact⟨h.2.symm,fun st2=>⟨h.1,trivial⟩⟩
 |lenA n=>simp only[POp.exec,Dp,DO]at h ⊢; exact⟨h.2.symm,fun st2=>⟨h.1,trivial⟩⟩
 |mm N x y=>
  simp only[POp.exec]at h ⊢
  split at h
  ·grind
  ·cases h
 |mm3 N x y z=>
  simp only[POp.exec]at h ⊢
  split at h
  ·grind
  ·cases h
 |ext x i=>
  simp only[POp.exec]at h ⊢
  split at h
  ·exact mp _ id h
  ·cases h
 |_=>simp[POp.cls]at hc
theorem eE(fr:Frame){x y:Option Nat}(u v:D)(h:∀ d,x=s_ d→y≠s_ d):(fr.put x u).put y v=(fr.put y v).put x u:=by
 cases x with
 |none=>rfl
 |some a=>
  cases y with
  |none=>rfl
  |some b=>
   have E:a≠b:=fun e=>h a rfl (e ▸ rfl)
   funext t
   simp only[Frame.put,Frame.set];grind
theorem Yvw{k:Nat}{a:Obj}(o:Obj)(h:st[k]?=s_ a):(st++[o])[k]?=s_ a:=by grind
variable {key off tot:Nat}
theorem xW{len:Nat}{r:Nat×List D}(o:Obj)(h:HO st key tot off len=s_ r):HO (st++[o]) key tot off len=s_ r:=by unfold HO at h ⊢;grind
variable {ag:Bool}{n sz:Nat}
theorem Yqy{r:List D}(o:Obj)(h:It st key off n sz ag=s_ r):It (st++[o]) key off n sz ag=s_ r:=by unfold It KG at h ⊢;grind
variable {y:D}
theorem uS(o:Obj)(h:D2 st d=s_ y):D2 (st++[o]) d=s_ y:=by
 cases d <;> simp only[D2]at h ⊢ <;> first
  |exact h
  |(simp only[D0]at h ⊢
    obtain⟨r,E,M⟩:=h;exact⟨r,xW o E,M⟩)
  |(simp only[D0]at h ⊢
    obtain⟨r,E,M⟩:=h;exact⟨r,Yqy o E,M⟩)
theorem uW{st:St}(o:Obj):∀ {ds ys:List D},Es st ds=s_ ys→Es (st++[o]) ds=s_ ys
 |[],ys,h=>h
 |d::l,ys,h=>by
  simp only[Es]at h ⊢
  split at h
  ·rename_i x y E M;rw[uS o E,uW o M]; exact h
  ·cases h
theorem Yvg(o:Obj)(h:Ej st d=s_ y):Ej (st++[o]) d=s_ y:=by
 cases d <;> simp only[Ej]at h ⊢ <;> first
  |exact uS o h
  |(simp only[D0]at h ⊢
    obtain⟨r,E,M⟩:=h;exact⟨r,uW o E,M⟩)
  |(cases h; done)
theorem mX{st:St}(o:Obj):∀ {ds ys:List D},EG st ds=s_ ys→EG (st++[o]) ds=s_ ys
 |[],ys,h=>h
 |d::l,ys,h=>by
  simp only[EG]at h ⊢
  split at h
  ·rename_i x y E M;rw[Yvg o E,mX o M]; exact h
  ·cases h
theorem ny(o:Obj)(h:Fo st key tot=t_):Fo (st++[o]) key tot=t_:=by unfold Fo at h ⊢;grind
theorem Yji(o:Obj)(h:E7 st d=s_ n):E7 (st++[o]) d=s_ n:=by
 cases d <;> simp only[E7]at h ⊢ <;> first
  |exact h
  |(split at h
    ·rename_i hl;rw[ny o hl]; simpa using h
    ·cases h)
theorem Yfh{c:PConv}(o:Obj)(h:FZ st c d=s_ y):FZ (st++[o]) c d=s_ y:=by
 cases c <;> cases d <;> simp only[FZ]at h ⊢ <;> first
  |exact h
  |(split at h
    ·rename_i sz els E;rw[xW o E]; exact h
    ·cases h)
variable {x:D}
theorem yX7{lo hi E:Option D}(o:Obj)(h:G5 st sz x lo hi E=s_ y):G5 (st++[o]) sz x lo hi E=s_ y:=by
 cases x with
 |row key tot off len=>
  simp only[G5]at h ⊢;grind
 |_=>simpa only[G5]using h
theorem Ye9{i:D}(o:Obj)(h:GK st sz x i=s_ y):GK (st++[o]) sz x i=s_ y:=by
 unfold GK at h ⊢
 cases hn:Gk i with
 |none=>simp[hn]at h
 |some j=>
  grind
theorem vB(o:Obj)(h:FE st off x=s_ y):FE (st++[o]) off x=s_ y:=by
 cases x <;> simp only[FE]at h ⊢ <;> first
  |exact h
  |(split at h
    ·rename_i hl;rw[ny o hl]; simpa using h
    ·cases h)
theorem Yfb{i:D}(o:Obj)(h:Jg st n sz x i=s_ y):Jg (st++[o]) n sz x i=s_ y:=by
 unfold Jg at h ⊢
 cases hn:Gk i with
 |none=>simp[hn]at h
 |some j=>
  rw[hn]at h;simp only at h ⊢
  split at h
  ·rename_i hj;rw[if_pos hj]; exact vB o h
  ·cases h
theorem Ye4{p:D}(o:Obj)(h:FL st n ag p=s_ y):FL (st++[o]) n ag p=s_ y:=by unfold FL at h ⊢;grind
theorem yS8{ks:List Nat}{ok:Bool}{E m k:D}(o:Obj)(h:JU st sz ks ok E m k=s_ y):JU (st++[o]) sz ks ok E m k=s_ y:=by unfold JU at h ⊢;grind
theorem uQ(h:D2 st d=s_ y):∀ k∈FQ d,k<st.length:=by
 cases d with
 |row key tot off len=>
  simp only[D2,D0]at h;obtain⟨r,E,_⟩:=h;unfold HO at E
  split at E
  ·rename_i a ha;intro k hk;simp only[FQ,AP]at hk;grind
  ·cases E
 |bsl key off n sz ag=>
  simp only[D2,D0]at h;obtain⟨r,E,_⟩:=h;intro k hk;simp only[FQ,AP]at hk;subst hk;unfold It KG at E;grind
 |_=>intro k hk; simp[FQ]at hk
theorem uU{st:St}:∀ {ds ys:List D},Es st ds=s_ ys→∀ k∈ds.flatMap FQ,k<st.length
 |[],_,_=>fun k hk=>by simp at hk
 |d::l,ys,h=>by
  simp only[Es]at h
  split at h
  ·rename_i x y E M;intro k hk;simp only[Au,AM]at hk;rcases hk with hk|hk
   ·exact uQ E k hk
   ·exact uU M k hk
  ·cases h
theorem Yvh(h:Ej st d=s_ y):∀ k∈keys d,k<st.length:=by
 cases d with
 |agg l=>
  simp only[Ej,D0]at h;obtain⟨r,E,_⟩:=h;exact uU E
 |tup l=>simp[Ej]at h
 |_=>simp only[Ej]at h; exact uQ h
theorem mW{st:St}:∀ {ds ys:List D},EG st ds=s_ ys→∀ k∈ds.flatMap keys,k<st.length
 |[],_,_=>fun k hk=>by simp at hk
 |d::l,ys,h=>by
  simp only[EG]at h
  split at h
  ·rename_i x y E M;intro k hk;simp only[Au,AM]at hk;rcases hk with hk|hk
   ·exact Yvh E k hk
   ·exact mW M k hk
  ·cases h
theorem Qn:∀ (ks:List Nat) (st:St),(lend ks st).length=st.length
 |[],_=>rfl
 |k::r,st=>by rw[lend,Qn r,List.length_modify]
theorem nq{o:Obj}:∀ (ks:List Nat) (st:St),(∀ k∈ks,k<st.length)→lend ks (st++[o])=lend ks st++[o]
 |[],_,_=>rfl
 |k::r,st,h=>by
  have E:(st++[o]).modify k (fun o=>{o with lent:=t_})=st.modify k (fun o=>{o with lent:=t_})++[o]:=by
   apply Bj;grind
  rw[lend,lend,E,nq r _ (fun q M=>by rw[List.length_modify]; exact h q (by simp[M]))]
theorem vL{st:St}(o:Obj):∀ {l:List Nat},l.all (fun k=>(st[k]?).isSome)=t_→HF (st++[o]) l=HF st l
 |[],_=>rfl
 |a::l,h=>by
  simp only[AX,Ad]at h;obtain⟨x,E⟩:=Option.isSome_iff_exists.1 h.1;simp only[HF,Yvw o E,E,vL o h.2]
theorem yX5(o:Obj){sp:List D→List (Option (Bool×Nat×List D))→Option D}{ds:List D}(h:Jk sp ds st=s_ d):Jk sp ds (st++[o])=s_ d:=by
 unfold Jk at h ⊢
 split at h
 case isFalse=>cases h
 rename_i hc
 rw[if_pos (by
  grind),vL o hc]
 exact h
theorem Ynv{o:Obj}(p:POp)(hc:p.cls≤2)(h:p.exec T ρ st=s_ (d,st')):p.exec T ρ (st++[o])=s_ (d,st'++[o]):=by
 have mp:∀ {α:Type} (a b:Option α) (f:α→D),(∀ y,a=s_ y→b=s_ y)→(a.map fun x=>(f x,st))=s_ (d,st')→(b.map fun x=>(f x,st++[o]))=s_ (d,st'++[o]):=by
  simp_all
 cases p with
 |mov x=>simp only[POp.exec,Dp,DO]at h ⊢; exact⟨h.1,by rw[h.2]⟩
 |pick c x y=>
  simp only[POp.exec]at h ⊢
  split at h
  ·grind
  ·cases h
 |box x=>simp[POp.cls]at hc
 |bld zero parts=>simp only[POp.exec]at h ⊢; exact mp _ _ _ (fun _ h=>h) h
 |bslc sz parts=>
  simp only[POp.exec]at h ⊢
  split at h
  ·rename_i els he;rw[mX o he];simp only
   split at h
   ·rename_i M;rw[if_pos M];simp only[Dp,DO]at h ⊢;exact⟨h.1,by rw[← h.2,nq _ _ (mW he)]⟩
   ·cases h
  ·cases h
 |load n ag x=>simp only[POp.exec]at h ⊢; exact mp _ _ _ (fun _ h=>Ye4 o h) h
 |stor n p x=>simp[POp.cls]at hc
 |nilc x=>
  simp only[POp.exec]at h ⊢
  split at h
  ·grind
  ·grind
  ·split at h
   ·rename_i hl;rw[ny o hl];grind
   ·cases h
  ·cases h
 |bin op x y=>simp only[POp.exec]at h ⊢; exact mp _ _ _ (fun _ h=>h) h
 |beq neg x y=>simp only[POp.exec]at h ⊢; exact mp _ _ _ (fun _ h=>h) h
 |aeq ks neg x y=>simp only[POp.exec]at h ⊢; exact mp _ _ _ (fun _ h=>h) h
 |un op x=>simp only[POp.exec]at h ⊢; exact mp _ _ _ (fun _ h=>h) h
 |conv c x=>simp only[POp.exec]at h ⊢; exact mp _ _ _ (fun _ h=>Yfh o h) h
 |mkslc sz bytes zero l c=>simp[POp.cls]at hc
 |slice sz x lo hi N=>simp only[POp.exec]at h ⊢; exact mp _ _ _ (fun _ h=>yX7 o h) h
 |sliceA n sz ag x lo hi=>simp only[POp.exec]at h ⊢; exact mp _ _ _ (fun _ h=>h) h
 |fld off x=>simp only[POp.exec]at h ⊢; exact mp _ _ _ (fun _ h=>vB o h) h
 |fldv off n ag x=>simp only[POp.exec]at h ⊢; exact mp _ _ _ (fun _ h=>h) h
 |idxS sz x i=>simp only[POp.exec]at h ⊢; exact mp _ _ _ (fun _ h=>Ye9 o h) h
 |idxA n sz x i=>simp only[POp.exec]at h ⊢; exact mp _ _ _ (fun _ h=>Yfb o h) h
 |idx x i=>simp only[POp.exec]at h ⊢; exact mp _ _ _ (fun _ h=>h) h
 |idxV l sz ag x i=>simp only[POp.exec]at h ⊢; exact mp _ _ _ (fun _ h=>h) h
 |len str x=>
  simp only[POp.exec]at h ⊢
  split at h
  ·rename_i hs;rw[if_pos hs];exact mp _ _ _ (fun _ h=>Yji o h) h
  ·cases h
 |lenA n=>simp only[POp.exec,Dp,DO]at h ⊢; exact⟨h.1,by rw[h.2]⟩
 |app sz bytes s x=>simp[POp.cls]at hc
 |mm N x y=>
  simp only[POp.exec]at h ⊢
  split at h
  ·grind
  ·cases h
 |mm3 N x y z=>
  simp only[POp.exec]at h ⊢
  split at h
  ·grind
  ·cases h
 |rcall f args=>
  simp only[POp.exec]at h ⊢
  split at h
  ·exact mp _ _ _ (fun _ h=>yX5 o h) h
  ·cases h
 |icall f args=>simp[POp.cls]at hc
 |mcall f args=>simp[POp.cls]at hc
 |fail=>simp[POp.cls]at hc
 |mkmap sz=>simp[POp.cls]at hc
 |mapup sz ks m k v=>simp[POp.cls]at hc
 |cpy sz d s=>simp[POp.cls]at hc
 |mapget sz ks ok zero m k=>simp only[POp.exec]at h ⊢; exact mp _ _ _ (fun _ h=>yS8 o h) h
 |callv x args=>simp[POp.cls]at hc
 |mkclo f args=>simp only[POp.exec,Dp,DO]at h ⊢; exact⟨h.1,by rw[h.2]⟩
 |call f args=>
  simp only[POp.exec]at h ⊢
  split at h
  ·rename_i sp vs aa E;simp only[aa,mX o E]
   split at h
   ·rename_i r hr;simp only[Dp,DO]at h ⊢;refine⟨h.1,?_⟩;rw[← h.2]
    split
    ·rfl
    ·rw[nq _ _ (mW E)]
   ·cases h
  ·cases h
 |ext x i=>
  simp only[POp.exec]at h ⊢
  split at h
  ·simp_all
  ·cases h
theorem Yj6{p:POp}(E:p.push=t_)(h:p.exec T ρ st=s_ (d,st')):∃ o,∀ st1:St,st1.length=st.length→p.exec T ρ st1=s_ (d,st1++[o]):=by
 cases p with
 |box x=>
  simp only[POp.exec]at h ⊢
  split at h
  ·rename_i hc;simp only[Dp,DO]at h;exact⟨_,fun st1 hl=>by rw[if_pos hc,hl,h.1]⟩
  ·cases h
 |mkslc sz bytes zero l c=>
  simp only[POp.exec]at h ⊢
  split at h
  ·split at h
   ·rename_i hc;simp only[Dp,DO]at h;exact⟨_,fun st1 hl=>by rw[if_pos hc,hl,h.1]⟩
   ·cases h
  ·cases h
 |_=>simp[POp.push]at E
variable {dst:Option Nat}{fr:Frame}{G:DB}
theorem Yjp{E:PA}(h:∀ t,dst=s_ t→t∉E.slot):DL G (fr.put dst d) E=DL G fr E:=by
 cases E with
 |s n=>
  cases dst with
  |none=>rfl
  |some t=>
   have:n≠t:=fun e=>h t rfl (by simp[PA.slot,e]);simp[DL,Frame.put,Frame.set,this]
 |_=>rfl
theorem Nr{i:PI}(h:∀ t,dst=s_ t→t∉i.reads):i.op.exec T (DL G (fr.put dst d)) st=i.op.exec T (DL G fr) st:=by refine Ygs i.op fun x M=>Yjp fun t E hm=>h t E ?_;simp only[PI.reads,AM,Bp];grind
theorem Uz{i:PI}(h:∀ t,dst=s_ t→t∉i.reads):i.wanted (fr.put dst d)=i.wanted fr:=by
 unfold PI.wanted
 cases E:i.guard with
 |none=>rfl
 |some q=>
  obtain⟨s,want⟩:=q
  cases dst with
  |none=>rfl
  |some t=>
   have:s≠t:=fun e=>h t rfl (by simp[PI.reads,E,HH,e]);simp[Frame.put,Frame.set,this]
def PI.step(G:DB)(T:Tbl)(i:PI)(s:PS):Option (D×St):=
 match i.wanted s.fr with
 |none=>none
 |some f_=>s_ (.tup [],s.st)
 |some t_=>i.op.exec T (DL G s.fr) s.st
theorem PI.exec_eq(i:PI)(s:PS):i.exec G T s=(i.step G T s).map fun r=>{fr:=s.fr.put i.dst r.1,st:=r.2}:=by unfold PI.exec PI.step;grind
theorem wa{x y:PI}(h:x.apart y=t_):(∀ t,x.dst=s_ t→t∉y.reads)∧(∀ t,x.dst=s_ t→y.dst≠s_ t)∧(∀ t,y.dst=s_ t→t∉x.reads)∧(x.op.cls=0∨y.op.cls=0∨(x.op.cls≤2∧y.op.cls≤2)∨(x.op.cls≤2∧y.op.push=t_)):=by simp only[PI.apart,Ad,Bh,beq_iff_eq,decide_eq_true_eq]at h;grind
theorem oU{x y:PI}{s s1 s2:PS}(h:x.apart y=t_)(N:x.exec G T s=s_ s1)(E:y.exec G T s1=s_ s2):∃ ae,y.exec G T s=s_ ae∧x.exec G T ae=s_ s2:=by
 obtain⟨a1,a2,a3,a4⟩:=wa h;rw[PI.exec_eq]at N E;simp only[D0]at N E;obtain⟨⟨dx,stx⟩,N,rfl⟩:=N;obtain⟨⟨dy,af⟩,E,rfl⟩:=E;simp only at E;have ba:y.wanted (s.fr.put x.dst dx)=y.wanted s.fr:=Uz a1
 have key:∀ ac,y.step G T s=s_ (dy,ac)→(∀ d,x.step G T {fr:=s.fr.put y.dst d,st:=ac}=s_ (dx,af))→∃ ae,y.exec G T s=s_ ae∧x.exec G T ae=s_ {fr:=(s.fr.put x.dst dx).put y.dst dy,st:=af}:=by
  intro ac h1 h2;refine⟨{fr:=s.fr.put y.dst dy,st:=ac},by rw[PI.exec_eq,h1]; rfl,?_⟩;rw[PI.exec_eq,h2 dy];simp only[Ae];rw[eE s.fr dx dy a2]
 unfold PI.step at N E;simp only[ba]at E;have ab:∀ d,x.wanted (s.fr.put y.dst d)=x.wanted s.fr:=fun d=>Uz a3
 -- by bc of bg two is carried out
 cases aa:x.wanted s.fr with
 |none=>simp[aa]at N
 |some bx=>
  cases M:y.wanted s.fr with
  |none=>simp[M]at E
  |some a8=>
   cases bx with
   |false=>
    simp only[aa,Dp,DO]at N;obtain⟨rfl,rfl⟩:=N
    cases a8 with
    |false=>
     simp only[M,Dp,DO]at E;obtain⟨rfl,rfl⟩:=E;exact key s.st (by simp[PI.step,M]) (fun d=>by simp[PI.step,ab,aa])
    |true=>
     simp only[M]at E;rw[Nr a1]at E;exact key af (by simp[PI.step,M,E]) (fun d=>by simp[PI.step,ab,aa])
   |true=>
    simp only[aa]at N
    cases a8 with
    |false=>
     simp only[M,Dp,DO]at E;obtain⟨rfl,rfl⟩:=E;exact key s.st (by simp[PI.step,M]) (fun d=>by simp only[PI.step,ab,aa]; rw[Nr a3]; exact N)
    |true=>
     simp only[M]at E;rw[Nr a1]at E;rcases a4 with c|c|⟨c1,c2⟩|⟨c1,c2⟩
     ·obtain⟨rfl,h2⟩:=m7 x.op c N;exact key af (by simp[PI.step,M,E]) (fun d=>by simp only[PI.step,ab,aa]; rw[Nr a3]; exact h2 _)
     ·obtain⟨rfl,h2⟩:=m7 y.op c E;exact key s.st (by simp only[PI.step,M]; exact h2 _) (fun d=>by simp only[PI.step,ab,aa]; rw[Nr a3]; exact N)
     ·obtain⟨ks,rfl⟩:=fo x.op c1 N;rw[m6 y.op c2]at E;simp only[D0,DO,Prod.exists]at E;obtain⟨bh,st',h1,rfl,rfl⟩:=E;obtain⟨qs,rfl⟩:=fo y.op c2 h1;refine key _ (by simp only[PI.step,M]; exact h1) (fun d=>?_);simp only[PI.step,ab,aa];rw[Nr a3,m6 x.op c1,N];simp only[Ae];rw[np]
     ·obtain⟨ks,rfl⟩:=fo x.op c1 N;obtain⟨o,ho⟩:=Yj6 c2 E;have h1:=ho s.st (by rw[Qn]);have h2:=ho (lend ks s.st) rfl;rw[E]at h2;simp only[Dp,DO,true_and]at h2;refine key _ (by simp only[PI.step,M]; exact h1) (fun d=>?_);simp only[PI.step,ab,aa];rw[Nr a3,Ynv x.op c1 N,h2]
