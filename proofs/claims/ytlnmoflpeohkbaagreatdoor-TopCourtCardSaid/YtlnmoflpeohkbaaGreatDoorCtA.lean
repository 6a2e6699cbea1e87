/-
  Objects that are made of parts: digests, single cells and lists of a known length; loading, storing and building by parts.
  Conditions: none; these are definitions and lemmas.
-/
import Derived.Test.YtlnmoflpeohkbaaGreatDoorEngLaw
import Derived.KernelRfl
import Derived.Test.YtlnmoflpeohkbaaGreatDoorEngW
import Derived.WideKeyElems2
import Derived.LaidMore
import Derived.LaidHandle
import Derived.FnData
import Derived.Lib.LaidTab
open Bool renaming false->f_,true->t_
open Option renaming some->s_,none->n_
open List renaming range->C9,replicate->C7
open UInt64 renaming ofNat->Dq
set_option maxHeartbeats 8000000
set_option maxRecDepth 20000
set_option linter.unusedSimpArgs false
set_option linter.unusedVariables false
set_option linter.defProp false
noncomputable section
namespace Go.Proofs.YtlnmoflpeohkbaaGreatDoor.PI
open Go
open D renaming int->I,slc->O,agg->U,bool->V,ptr->Y
open Go.IntKind renaming i64->J
open D renaming isCell->yaa,noRef1->yat
open Go.DataW renaming trod->yar
open Go.Value renaming formed->yas
namespace Sha
def rotr(x:UInt32)(n:Nat):UInt32:=x >>> UInt32.ofNat n ||| x <<< UInt32.ofNat (32-n)
def word(b:zLB)(i:Nat):UInt32:=
 (b.getD (4*i) 0).toUInt32 <<< UInt32.ofNat 24 ||| (b.getD (4*i+1) 0).toUInt32 <<< UInt32.ofNat 16 ||| (b.getD (4*i+2) 0).toUInt32 <<< UInt32.ofNat 8 ||| (b.getD (4*i+3) 0).toUInt32
def sig0(x:UInt32):UInt32:=rotr x 7 ^^^ rotr x 18 ^^^ x >>> UInt32.ofNat 3
def sig1(x:UInt32):UInt32:=rotr x 17 ^^^ rotr x 19 ^^^ x >>> UInt32.ofNat 10
def sch(b:zLB):Nat->List UInt32
 |0=>[]
 |n+1=>let w:=sch b n
  w++[if n<16 then word b n else w.getD (n-16) 0+sig0 (w.getD (n-15) 0)+w.getD (n-7) 0+sig1 (w.getD (n-2) 0)]
theorem sch_length(b:zLB):∀n,(sch b n).length=n
 |0=>rfl
 |n+1=>by simp[sch,sch_length b n]
structure St8 where
 a:UInt32
 b:UInt32
 c:UInt32
 d:UInt32
 e:UInt32
 f:UInt32
 g:UInt32
 h:UInt32
def St8.list(s:St8):List UInt32:=[s.a,s.b,s.c,s.d,s.e,s.f,s.g,s.h]
def round(s:St8)(k w:UInt32):St8:=
 let t:=s.h+(rotr s.e 6 ^^^ rotr s.e 11 ^^^ rotr s.e 25)+(s.e &&& s.f ^^^ ~~~s.e &&& s.g)+k+w
 let u:=(rotr s.a 2 ^^^ rotr s.a 13 ^^^ rotr s.a 22)+(s.a &&& s.b ^^^ s.a &&& s.c ^^^ s.b &&& s.c)
 {a:=t+u,b:=s.a,c:=s.b,d:=s.c,e:=s.d+t,f:=s.e,g:=s.f,h:=s.g}
def K:List UInt32:=[
 0x428a2f98,0x71374491,0xb5c0fbcf,0xe9b5dba5,0x3956c25b,0x59f111f1,0x923f82a4,0xab1c5ed5,
 0xd807aa98,0x12835b01,0x243185be,0x550c7dc3,0x72be5d74,0x80deb1fe,0x9bdc06a7,0xc19bf174,
 0xe49b69c1,0xefbe4786,0x0fc19dc6,0x240ca1cc,0x2de92c6f,0x4a7484aa,0x5cb0a9dc,0x76f988da,
 0x983e5152,0xa831c66d,0xb00327c8,0xbf597fc7,0xc6e00bf3,0xd5a79147,0x06ca6351,0x14292967,
 0x27b70a85,0x2e1b2138,0x4d2c6dfc,0x53380d13,0x650a7354,0x766a0abb,0x81c2c92e,0x92722c85,
 0xa2bfe8a1,0xa81a664b,0xc24b8b70,0xc76c51a3,0xd192e819,0xd6990624,0xf40e3585,0x106aa070,
 0x19a4c116,0x1e376c08,0x2748774c,0x34b0bcb5,0x391c0cb3,0x4ed8aa4a,0x5b9cca4f,0x682e6ff3,
 0x748f82ee,0x78a5636f,0x84c87814,0x8cc70208,0x90befffa,0xa4506ceb,0xbef9a3f7,0xc67178f2]
def rounds(w:List UInt32)(s:St8):Nat->St8
 |0=>s
 |n+1=>round (rounds w s n) (K.getD n 0) (w.getD n 0)
def St8.add(s t:St8):St8:={a:=s.a+t.a,b:=s.b+t.b,c:=s.c+t.c,d:=s.d+t.d,e:=s.e+t.e,f:=s.f+t.f,g:=s.g+t.g,h:=s.h+t.h}
def block(s:St8)(b:zLB):St8:=s.add (rounds (sch b 64) s 64)
def H0:St8:=⟨0x6a09e667,0xbb67ae85,0x3c6ef372,0xa54ff53a,0x510e527f,0x9b05688c,0x1f83d9ab,0x5be0cd19⟩
def lenB(q:UInt64):Nat->zLB
 |0=>[]
 |n+1=>lenB q n++[(q >>> Dq (56-8*n)).toUInt8]
def zeros(n:Nat):Nat:=(119-n%64)%64
def padded(m:zLB):zLB:=m++[128]++C7 (zeros m.length) 0++lenB (Dq m.length*8) 8
def blocks(s:St8):Nat->zLB->St8
 |0,_=>s
 |n+1,m=>blocks (block s (m.take 64)) n (m.drop 64)
def outB(l:List UInt32):Nat->zLB
 |0=>[]
 |n+1=>outB l n++[(l.getD (n/4) 0 >>> UInt32.ofNat (24-8*(n%4))).toUInt8]
theorem outB_length(l:List UInt32):∀n,(outB l n).length=n
 |0=>rfl
 |n+1=>by simp[outB,outB_length l n]
theorem lenB_length(q:UInt64):∀n,(lenB q n).length=n
 |0=>rfl
 |n+1=>by simp[lenB,lenB_length q n]
theorem St8.list_inj{s t:St8}(h:s.list=t.list):s=t:=by cases s;cases t;simpa[St8.list]using h
theorem St8.list_iff{s t:St8}:s.list=t.list↔s=t:=⟨St8.list_inj,λh=>by rw[h]⟩
theorem St8.list_length(s:St8):s.list.length=8:=rfl
end Sha
def YJ9:Ec ((zW 8).map wD) [(0,1,I .u32 1779033703),(1,1,I .u32 3144134277),(2,1,I .u32 1013904242),(3,1,I .u32 2773480762),(4,1,I .u32 1359893119),(5,1,I .u32 2600822924),(6,1,I .u32 528734635),(7,1,I .u32 1541459225)]=s_ (Sha.H0.list.map wD):=by kernel_rfl
def NV(m:zLB):Dig:=⟨Sha.outB (Sha.blocks Sha.H0 ((Sha.padded m).length/64) (Sha.padded m)).list 32,Sha.outB_length _ 32⟩
def YA0(t b:zLB):zLB:=UInt8.ofNat (t.take 255).length::(t.take 255++b)
def Wi(t b:zLB):Dig:=NV (YA0 t b)
def sigT:List (Int×zLB):=[(40,[40]),(41,[41]),(42,[42]),(43,[43]),(44,[44]),(45,[45]),(46,[46,46]),(59,[59]),(60,[60]),(123,[123]),(125,[125])]
def resT:List (zLB):=[[97,110,100],[98,101,103,105,110],[99,108,97,115,115],[99,108,97,117,115,101],[99,108,101,97,110,105,110,103],[99,111,100,101],[99,111,115,116],[100,101,109,117,114,114,97,103,101],[100,111,119,110],[102,111,114],[102,114,101,105,103,104,116],[104,97,108,102],[104,105,114,101],[105,102],[105,110],[105,115],[107,103],[107,109],[108,111,115,115],[109,97,120],[109,105,110],[109,105,110,117,116,101],[109,105,110,117,116,101,115],[109,111,110,101,121],[109,111,110,116,104],[111,119,110,101,114],[112,97,114,116],[112,97,114,116,115],[112,97,121],[112,101,114],[114,97,105,108,119,97,121],[114,101,112,97,105,114],[115,104,105,112,112,101,114],[116,97,114,105,102,102],[116,121,112,101],[117,112],[119,101,105,103,104,116],[119,104,101,110],[119,111,114,107,105,110,103],[119,111,114,116,104]]
def spcT:List Int:=C7 9 0++(C7 5 1++(C7 18 0++(1::C7 223 0)))
def binA:List (Int×Nat):=[(3,219),(4,220),(5,221),(6,222),(7,223),(8,224),(9,226),(10,227),(11,228)]
def GG:Dy:=λn=>if n=4 then s_ (.gmap (.f binA))else if n=0 then s_ (.gmap (.s sigT))else if n=1 then s_ (.gmap (.b resT))else if n=2 then s_ (U (spcT.map λx=>I .u8 x))else Vb 3 .u32 (Sha.K.map λx=>(x.toNat:Int)) n
abbrev zCC:=Contract Tryz.prog GG
abbrev zIC:=IContract Tryz.prog GG
def H7(n:Int):List (Int×Nat)->Option Nat
 |[]=>n_
 |p::r=>if p.1=n then s_ p.2 else H7 n r
theorem Hn:GG 4=s_ (.gmap (.f binA)):=rfl
open Go Go.WideElems
open D renaming int->I,slc->O,agg->U,bool->V,ptr->Y
open Go.IntKind renaming i64->J
def Tn(P:Program)(W:World)(n:String)(d:DataW Unit):Prop:=
 ∃g t cs fuel p,P.globalNamed n=s_ g/\(P.globals[g]?).map (·.type)=s_ t/\W.var? P n=s_ cs/\yar (λ_=>()) P W 0 (λ_=>t_) f_ fuel t cs.toList=s_ (d,p)
theorem laid_var{P:Program}{W:World}{n:String}{d:DataW Unit}:∀{l:List (String×DataW Unit)}{ps:List MemPlace},DataW.LaidVars P W l ps->(n,d)∈l->Tn P W n d
 |[],_,_,h=>by cases h
 |(n',d')::r,ps,h,hm=>by
  obtain⟨g,t,cs,fuel,p,q,E,N,h3,h4,h5,_⟩:=h;rcases AB.1 hm with e|hm
  .simp only[BV]at e;obtain⟨rfl,rfl⟩:=e;exact⟨g,t,cs,fuel,p,E,N,h3,h4⟩
  .exact laid_var h5 hm
variable{s:zLB}{z:DataW Unit×List MemPlace}{v:Value}{P:Program}
theorem Ywr{W:World}{n:Nat}{e:TypeId}(E:P.underlying e=s_ .string)(h:elemAt (λ_=>()) P W 0 (λ_=>t_) f_ n e v=s_ z)(N:.lit (.string s)=z.1):v=.string ⟨s.toArray⟩:=by
 unfold elemAt at h
 split at h
 case isFalse=>cases h
 rename_i hf;obtain⟨b,h1,rfl,_⟩:=DataW.trod_string E h;simp only[DataW.lit.injEq,Lit.string.injEq]at N;subst N;unfold yas at hf;rw[E]at hf;cases v<;>simp_all [Value.cells]
theorem Ysf{W:World}{n:Nat}{e:TypeId}{b:Bool}(E:P.underlying e=s_ .bool)(h:elemAt (λ_=>()) P W 0 (λ_=>t_) f_ n e v=s_ z)(N:.lit (.bool b)=z.1):v=.bool b:=by
 unfold elemAt at h
 split at h
 case isFalse=>cases h
 rename_i hf;obtain⟨b',h1,rfl⟩:=DataW.trod_bool E h;simp only[DataW.lit.injEq,Lit.bool.injEq]at N;subst N;unfold yas at hf;rw[E]at hf;cases v<;>simp_all [Value.cells]
variable{k:TypeId}
theorem Ygy{n:Int}{kd:IntKind}(E:P.underlying k=s_ (.int kd))(h:keyOf P k v=s_ (.int kd n)):v=.int kd n:=by unfold keyOf mapKey at h;grind
theorem Yzt(E:P.underlying k=s_ .string)(h:keyOf P k v=s_ (.string s)):v=.string ⟨s.toArray⟩:=by
 unfold keyOf mapKey at h;rw[E]at h;simp only at h
 split at h
 .grind
 .grind
 .split at h
  .simp only[AG,Lit.string.injEq]at h;subst h;simp
  .cases h
 .cases h
def datS(es:List (Int×zLB)):List (Lit×DataW Unit):=es.map λp=>(.int .u8 p.1,.lit (.string p.2))
def datB(es:List (zLB)):List (Lit×DataW Unit):=es.map λs=>(.string s,.lit (.bool t_))
def iZ:Lit×DataW Unit->D
 |(.int .u8 n,.lit (.string s))=>.agg [.int .u8 n,.str s]
 |(.string s,.lit (.bool b))=>.agg [.str s,.bool b]
 |_=>.junk
def YKi(es:List (Int×zLB)):(datS es).map iZ=(GT.s es).els:=by simp only[datS,GT.els,Bf];rfl
def YKj(es:List (zLB)):(datB es).map iZ=(GT.b es).els:=by simp only[datB,GT.els,Bf];rfl
variable{α:Type}
theorem YBa{R:MapEntry->α}{E:α->D}{es:Array MapEntry}{l:List α}{t:GT}(hp:(es.toList.map R).Perm l)(ht:l.map E=t.els)(N:(t.els.map (DE 2)).Nodup)
  (he:∀e∈es.toList,e.key=Qx (DE 2 (E (R e)))/\e.val=Qx (G7 t.sz (E (R e)))):So es t:=by refine⟨(es.toList.map R).map E,by rw[<-ht];exact hp.map _,zac,λi e el h1 h2=>?_,N⟩;grind
variable{e g t:Nat}{n:String}
theorem Yf4{H:Type}{aa:TypeId×Value->H}{W:World}{N:Bool}{k:Nat}{cs:Array Value}{fuel:Nat}{p:List MemPlace}{es:List α}{enc:α->Lit×DataW H}{ed:Lit×DataW H->D}{K V:α->Value}{G:GT}
  (hg:P.globalNamed n=s_ g) (hv:W.var? P n=s_ cs) (hu:P.underlying t=s_ (.map k e)) (hd:yar aa P W 0 (λ_=>t_) N fuel t cs.toList=s_ (.map (es.map enc),p))
  (hr:∀m x q,q∈es->rd P k (elemAt aa P W 0 (λ_=>t_) N m e) x=s_ (enc q)->x.key=K q/\x.val=V q) (ht:(es.map enc).map ed=G.els) (a1:(G.els.map (DE 2)).Nodup)
  (he:∀q∈es,(K q=Qx (DE 2 (ed (enc q)))/\V q=Qx (G7 G.sz (ed (enc q))))/\(RI (K q) es.length||Ve (V q))=t_) (a2:es≠[]):∃b E clock,W.cell? ⟨g,0,n_⟩=s_ (.map (s_ b))/\W.heap[b]?=s_ (.map E clock)/\Nl (.map E clock)=t_/\So E G:=by
 rcases open_map hu hd with⟨_,hx⟩|⟨b,E,clock,m,rfl,ba,hb,_,F,hx⟩
 .cases hx
 simp only[BV,DataW.map.injEq]at hx
 have hp:(E.toList.map (rg P k (elemAt aa P W 0 (λ_=>t_) N m e))).Perm (es.map enc):=by
  rw[hx.1];exact(Go.WideShapes.sorted_perm _).symm
 have af:∀x∈E.toList,∃q∈es,x.key=K q/\x.val=V q/\rg P k (elemAt aa P W 0 (λ_=>t_) N m e) x=enc q:=by
  intro x ab;obtain⟨y,hy⟩:=F.reads x ab;obtain⟨q,hq,rfl⟩:=AR.1 (hp.mem_iff.1 (AR.2 ⟨x,ab,rg_of hy⟩));obtain⟨h1,h2⟩:=hr m x q hq hy;exact⟨q,hq,h1,h2,rg_of hy⟩
 refine⟨b,E,clock,?_,hb,?_,YBa hp ht a1 λx ab=>?_⟩
 .rw[World.var?_cell hg hv 0];obtain⟨l⟩:=cs;grind
 .have hlen:E.size=es.length:=by have:=hp.length_eq;simpa using this
  have a5:0<E.size:=by rw[hlen];exact Cz.2 a2
  rw[vK,Bt a5];obtain⟨q,hq,h1,h2,_⟩:=af E[0] zac;grind
 .grind
variable{es:List (Int×zLB)}
def Yy0{W:World}{k:Nat}(N:P.globalNamed n=s_ g)(ht:(P.globals[g]?).map (·.type)=s_ t)(hu:P.underlying t=s_ (.map k e))(hk:P.underlying k=s_ (.int .u8))(he:P.underlying e=s_ .string)
  (aa:((GT.s es).els.map (DE 2)).Nodup) (ab:es≠[]) (h:Tn P W n (.map (datS es))):∃b E clock,W.cell? ⟨g,0,n_⟩=s_ (.map (s_ b))/\W.heap[b]?=s_ (.map E clock)/\Nl (.map E clock)=t_/\So E (.s es):=by obtain⟨g',t',cs,fuel,p,ac,ad,hv,hd⟩:=h;obtain rfl:=At (N.symm.trans ac);obtain rfl:=At (ht.symm.trans ad);exact Yf4 (K:=λq=>.int .u8 q.1) (V:=λq=>.string ⟨q.2.toArray⟩) N hv hu hd (λm x q _ h=>by obtain⟨z,h1,h2⟩:=rd_val h;exact⟨Ygy hk (rd_key h),Ywr he h1 h2⟩) (YKi es) aa (λq _=>⟨⟨rfl,rfl⟩,rfl⟩) ab
def Yy2{W:World}{k:Nat}{es:List (zLB)}(hg:P.globalNamed n=s_ g)(ht:(P.globals[g]?).map (·.type)=s_ t)(hu:P.underlying t=s_ (.map k e))(hk:P.underlying k=s_ .string)(he:P.underlying e=s_ .bool)
  (ab:((GT.b es).els.map (DE 2)).Nodup) (N:40<=es.length) (h:Tn P W n (.map (datB es))):∃b E clock,W.cell? ⟨g,0,n_⟩=s_ (.map (s_ b))/\W.heap[b]?=s_ (.map E clock)/\Nl (.map E clock)=t_/\So E (.b es):=by obtain⟨g',t',cs,fuel,p,ac,ad,hv,hd⟩:=h;obtain rfl:=At (hg.symm.trans ac);obtain rfl:=At (ht.symm.trans ad);exact Yf4 (K:=λs=>.string ⟨s.toArray⟩) (V:=λ_=>.bool t_) hg hv hu hd (λm x q _ h=>by obtain⟨z,h1,h2⟩:=rd_val h;exact⟨Yzt hk (rd_key h),Ysf he h1 h2⟩) (YKj es) ab (λq _=>⟨⟨rfl,rfl⟩,by show(decide (40<=es.length)||_)=t_;rw[zba N];rfl⟩) (λe=>by rw[e]at N;exact absurd N zab)
theorem zQ(h:(es.map (·.1)).Nodup):((GT.s es).els.map (DE 2)).Nodup:=by
 have e:(GT.s es).els.map (DE 2)=(es.map (·.1)).map λn=>D.int .u8 n:=by
  simp only[GT.els,Bf];rfl
 grind
theorem zS{es:List (zLB)}(h:es.Nodup):((GT.b es).els.map (DE 2)).Nodup:=by
 have e:(GT.b es).els.map (DE 2)=es.map λs=>D.str s:=by
  simp only[GT.els,Bf];rfl
 grind
theorem zR{es:List (Int×Nat)}(h:(es.map (·.1)).Nodup):((GT.f es).els.map (DE 2)).Nodup:=by
 have e:(GT.f es).els.map (DE 2)=(es.map (·.1)).map λn=>D.int J n:=by
  simp only[GT.els,Bf];rfl
 grind
def yn{W:World}{t:GT}{n:Nat}(h:∃b E clock,W.cell? ⟨n,0,n_⟩=s_ (.map (s_ b))/\W.heap[b]?=s_ (.map E clock)/\Nl (.map E clock)=t_/\So E t):RepV W (ghost0 W) [] (.eptr (.gmap t) 0) (.pointer (s_ ⟨n,0,n_⟩)):=by
 obtain⟨b,E,clock,N,h2,h3,h4⟩:=h
 have hj:∀(j:Nat)(d:D),(D.gmap t).cells[j]?=s_ d->j=0/\d=.gmap t:=λj d hd=>by
  cases j with
  |zero=>exact⟨rfl,(At hd).symm⟩
  |succ j=>cases hd
 refine .eptr _ 0 _ 0 (λ_=>.map (s_ b)) (λj d hd=>?_) (λj d hd=>?_) (λj d hd=>?_)
 .obtain⟨rfl,rfl⟩:=hj j d hd;rfl
 .obtain⟨rfl,rfl⟩:=hj j d hd;exact⟨by show(W.cell? ⟨_,0,n_⟩).isSome=t_;rw[N];rfl,N⟩
 .obtain⟨rfl,rfl⟩:=hj j d hd;exact .gmap _ b E clock h2 h3 h4
def gB:Tryz.prog.globalNamed "wagonpool/tvm.binaries"=s_ 4:=by kernel_rfl
def tB:(Tryz.prog.globals[4]?).map (·.type)=s_ 283:=by kernel_rfl
def zr:Tryz.prog.underlying 283=s_ (.map 3 281):=by kernel_rfl
def u3:Tryz.prog.underlying 3=s_ (.int J):=by kernel_rfl
def zD:Option TypeDesc->Bool
 |some (.struct fs)=>match fs.toList with
  |[f]=>f.offset==0&&f.type==279
  |_=>f_
 |_=>f_
def fnB1:Option TypeDesc->Bool
 |some (.func _ _ _)=>t_
 |_=>f_
def u142b:zD (Tryz.prog.underlying 281)=t_:=by kernel_rfl
def u140b:fnB1 (Tryz.prog.underlying 279)=t_:=by kernel_rfl
theorem zt:∃f,Tryz.prog.underlying 281=s_ (.struct #[f])/\f.offset=0/\f.type=279:=by simp_all
def jD:Tryz.prog.cellsOf 281=1:=by kernel_rfl
def c140:Tryz.prog.cellsOf 279=1:=by kernel_rfl
theorem zu:∃ps rs E,Tryz.prog.underlying 279=s_ (.func ps rs E):=by simp_all
noncomputable def Ym(f:Nat):zLB:=((Tryz.prog.funcs[f]?).map (·.name.toUTF8.data.toList)).getD []
variable{p:Int×Nat}
theorem Ykz(h:p∈binA):((C9 Tryz.prog.funcs.size).filter λf=>(Tryz.prog.funcs[f]?).any (·.name.toUTF8.data.toList==Ym p.2))=[p.2]/\Ym p.2≠[]/\Vf p.2=t_/\p.2<5000000:=by
 have:binA.all (λp=>(((C9 Tryz.prog.funcs.size).filter λf=>(Tryz.prog.funcs[f]?).any (·.name.toUTF8.data.toList==Ym p.2)) == [p.2])&&(!(Ym p.2).isEmpty&&(Vf p.2&&decide (p.2<5000000))))=t_:=by kernel_rfl
 grind
def binsD:DataW Unit:=.map (binA.map λp=>(.int .i64 p.1,.agg [.iface "func" (.lit (.string (Ym p.2)))]))
def YL6:List (Lit×DataW (zLB)):=binA.map λp=>(.int .i64 p.1,.agg [.held (Ym p.2)])
theorem YC7{W:World}{n:Nat}{e:MapEntry}{k:Int}{f0:FuncId}(hs:s≠[])(ac:((C9 Tryz.prog.funcs.size).filter λf=>(Tryz.prog.funcs[f]?).any (·.name.toUTF8.data.toList==s))=[f0])
  (h:rd Tryz.prog 3 (elemAt (funcToken Tryz.prog) Tryz.prog W 0 (λ_=>t_) t_ n 281) e=s_ (.int .i64 k,.agg [.held (s)])):e.key=.int .i64 k/\e.val=.agg #[.func (.func f0) #[] #[]]:=by
 obtain⟨b,r,rfl⟩:=List.exists_cons_of_ne_nil hs;constructor
 .exact Ygy u3 (rd_key h)
 .obtain⟨z,hz,ab⟩:=rd_val h;obtain⟨z1,z2⟩:=z;dsimp only at ab;subst ab;unfold elemAt at hz
  split at hz
  case isFalse=>cases hz
  rename_i E;obtain⟨f,hu,ho,ht⟩:=zt;obtain⟨ps,rs,va,ae⟩:=zu
  cases n with
  |zero=>simp[yar]at hz
  |succ n=>
   unfold yas at E;rw[hu,jD]at E
   cases hv:e.val with
   |agg cs=>
    rw[hv]at hz E;simp only[zao]at E
    obtain⟨v,rfl⟩:∃v,cs=#[v]:=by
     obtain⟨l⟩:=cs
     match l,E with
     |[v],_=>exact⟨v,rfl⟩
    have N:yar (funcToken Tryz.prog) Tryz.prog W 0 (λ_=>t_) t_ (n+1) 281 [v]=s_ (.agg [.held (b::r)],z2):=hz;rw[DataW.trod_step]at N;unfold DataW.trodStep at N;rw[hu]at N;simp[jD,ho,ht,c140]at N
    obtain⟨q,hq⟩:∃q,yar (funcToken Tryz.prog) Tryz.prog W 0 (λ_=>t_) t_ n 279 [v]=s_ (.held (b::r),q):=by
     rw[AD]at N;grind
    rw[func_of_trod ae ac hq]
   |_=>rw[hv]at E;simp at E
def entF:Lit×DataW (zLB)->D
 |(.int .i64 n,_)=>.agg [.int .i64 n,.clo ((H7 n binA).getD 0) []]
 |_=>.junk
theorem YKh:YL6.map entF=(GT.f binA).els:=rfl
theorem YA5(h:p∈binA):(H7 p.1 binA).getD 0=p.2:=by
 have:binA.all (λp=>(H7 p.1 binA).getD 0==p.2)=t_:=zab
 grind
def Yy1{W:World}(h:funcsAt Tryz.prog W "wagonpool/tvm.binaries" binsD):∃b ents clock,W.cell? ⟨4,0,n_⟩=s_ (.map (s_ b))/\W.heap[b]?=s_ (.map ents clock)/\Nl (.map ents clock)=t_/\So ents (.f binA):=by
 obtain⟨g,t,cs,fuel,p,hg,ht,hv,hd⟩:=h;obtain rfl:=At (gB.symm.trans hg);obtain rfl:=At (tB.symm.trans ht);have hd':yar (funcToken Tryz.prog) Tryz.prog W 0 (λ_=>t_) t_ fuel 283 cs.toList=s_ (.map YL6,p):=hd;refine Yf4 (K:=λq=>.int .i64 q.1) (V:=λq=>.agg #[.func (.func q.2) #[] #[]]) hg hv zr hd' (λm x q hq h=>?_) YKh (zR zab) (λq hq=>⟨⟨rfl,?_⟩,?_⟩) zab
 .obtain⟨n1,n2,_⟩:=Ykz hq;exact YC7 n2 n1 h
 .show _=Qx (.agg [.clo ((H7 q.1 binA).getD 0) []])
  rw[YA5 hq]
  show _=Value.agg #[.func (IN q.2) #[] #[]]
  rw[Ss (Ykz hq).2.2.2]
 .show(_||Vf q.2)=t_
  rw[(Ykz hq).2.2.1,Bool.or_true]
def gS:Tryz.prog.globalNamed "wagonpool/tlex.signs"=s_ 0:=by kernel_rfl
def tS:(Tryz.prog.globals[0]?).map (·.type)=s_ 225:=by kernel_rfl
def gR:Tryz.prog.globalNamed "wagonpool/tlex.reserved"=s_ 1:=by kernel_rfl
def tR:(Tryz.prog.globals[1]?).map (·.type)=s_ 187:=by kernel_rfl
def gA:Tryz.prog.globalNamed "strings.asciiSpace"=s_ 2:=by kernel_rfl
def tA:(Tryz.prog.globals[2]?).map (·.type)=s_ 253:=by kernel_rfl
def Ytb{W:World}{len:Nat}{k:IntKind}{zs:List Int}(E:P.globalNamed n=s_ g)(N:(P.globals[g]?).map (·.type)=s_ t)(h1:P.underlying t=s_ (.array len e))(h2:P.underlying e=s_ (.int k))(h3:P.cellsOf e=1)(h4:P.cellsOf t=len)(h:Tn P W n (Lib.tabData k zs)):Lib.TabIs P W n k zs:=by obtain⟨g',t',cs,fuel,p,e1,e2,e3,e4⟩:=h;obtain rfl:=At (E.symm.trans e1);obtain rfl:=At (N.symm.trans e2);unfold Lib.TabIs;rw[e3,<-Lib.cells_of_tab (e:=e) (n:=len) h1 h2 h3 h4 e4]
def gK:Tryz.prog.globalNamed "wagonpool/digest.k"=s_ 3:=by kernel_rfl
def tK:(Tryz.prog.globals[3]?).map (·.type)=s_ 277:=by kernel_rfl
def globGG{W:World}(hk:Tn Tryz.prog W "wagonpool/digest.k" (Lib.tabData .u32 (Sha.K.map λx=>(x.toNat:Int))))(hf:funcsAt Tryz.prog W "wagonpool/tvm.binaries" binsD)
  (hs:Tn Tryz.prog W "wagonpool/tlex.signs" (.map (datS sigT))) (hr:Tn Tryz.prog W "wagonpool/tlex.reserved" (.map (datB resT))) (ha:Tn Tryz.prog W "strings.asciiSpace" (Lib.tabData .u8 spcT)):GlobOK GG W (ghost0 W):=by
 intro n d hd;unfold GG at hd
 split at hd
 .rename_i e;subst e;obtain rfl:=At hd;exact yn (Yy1 hf)
 split at hd
 .rename_i e;subst e;obtain rfl:=At hd;exact yn (Yy0 (k:=5) (e:=9) gS tS (by kernel_rfl) (by kernel_rfl) (by kernel_rfl) (zQ (by decide +kernel)) zab hs)
 split at hd
 .rename_i e;subst e;obtain rfl:=At hd;exact yn (Yy2 (k:=9) (e:=4) gR tR (by kernel_rfl) (by kernel_rfl) (by kernel_rfl) (zS (by decide +kernel)) zab hr)
 split at hd
 .rename_i e;subst e;obtain rfl:=At hd;exact Yhq (Ytb (len:=256) (e:=5) gA tA (by kernel_rfl) (by kernel_rfl) (by kernel_rfl) (by kernel_rfl) ha) gA 2 _ (zae rfl)
 .exact Yhq (Ytb (len:=64) (e:=219) gK tK (by kernel_rfl) (by kernel_rfl) (by kernel_rfl) (by kernel_rfl) hk) gK n d hd
open Go
open D renaming int->I,slc->O,agg->U,bool->V,ptr->Y
open Go.IntKind renaming i64->J
def Gf(R:List D->St->D×St->Prop):zsF:=λds st=>@dite _ (∃r,R ds st r) (Classical.propDecidable _) (λh=>s_ h.choose) (λ_=>n_)
variable{st:St}{ds:List D}
theorem Ku{R:List D->St->D×St->Prop}{r:D×St}(h:Gf R ds st=s_ r):R ds st r:=by
 unfold Gf at h
 split at h
 .grind
 .cases h
theorem Yxv{R:List D->St->D×St->Prop}{r:D×St}(h:R ds st r)(N:∀E,R ds st E->E=r):Gf R ds st=s_ r:=by have hx:∃r,R ds st r:=⟨r,h⟩;unfold Gf;grind
def Jo(R:List D->St->D×St->Prop):Prop:=∀ds st r r',R ds st r->R ds st r'->r=r'
def NM{R:List D->St->D×St->Prop}(E:Jo R){r:D×St}(h:R ds st r):Gf R ds st=s_ r:=Yxv h λN h'=>E ds st N r h' h
def StOK(st:St):Prop:=∀o∈st,o.row=f_->∀x∈o.els,ED st.length [] x=x
theorem yL0(n:Nat):∀(l acc:List Nat),FT n n l acc=acc
 |[],acc=>rfl
 |k::r,acc=>by
  rw[FT,YYN];exact yL0 n r acc
theorem OR{α:Type}{f:α->α}:∀{l:List α},(∀x∈l,f x=x)->l.map f=l
 |[],_=>rfl
 |a::l,h=>by rw[Av,h a zac,OR λx E=>h x (by simp[E])]
def Yeg(h:StOK st):st.map (FD st.length [])=st:=by
 refine OR λo E=>?_;obtain⟨row,sz,els,lent⟩:=o
 cases row with
 |true=>rfl
 |false=>
  show(⟨f_,sz,els.map (ED st.length []),lent⟩:Obj)=_
  rw[OR (h _ E rfl)]
variable{fr:Frame}{keep:List Nat}
def uj(h:StOK st):restrict keep st.length ⟨fr,st⟩=⟨GU (Lh fr st.length [] keep),st⟩:=by unfold restrict;simp only[Au,zaj,yL0];unfold restrictAt;rw[YJ];simp only[picked,Bc,Ai,Bx,Yeg h]
variable{m n:Nat}
theorem Zf{key:Nat}(f:Nat->D)(E:∀k,f k≠.junk)(N:n<=m)(h:KI f (Fv n [] key)=f key):KI f (Fv m [] key)=f key:=by
 unfold Fv at h⊢
 by_cases hk:key<n
 .grind
 .rw[zaf hk]at h;exact absurd h.symm (E key)
variable{x:D}
def yMu(E:n<=m)(h:Hy n [] x=x):Hy m [] x=x:=by
 cases x with
 |row key tot off len=>exact Zf (λk=>.row k tot off len) (λk e=>by cases e) E h
 |bsl key off j sz ag=>exact Zf (λk=>.bsl k off j sz ag) (λk e=>by cases e) E h
 |ptr key off=>exact Zf (λk=>Y k off) (λk e=>by cases e) E h
 |rptr key tot i off=>exact Zf (λk=>.rptr k tot i off) (λk e=>by cases e) E h
 |mapv key=>exact Zf .mapv (λk e=>by cases e) E h
 |_=>exact h
theorem Uw{f:D->D}:∀{l:List D},l.map f=l->∀x∈l,f x=x
 |[],_,x,E=>by cases E
 |a::l,h,x,E=>by
  simp only[Av,Ab]at h;rcases AB.1 E with rfl|E
  .exact h.1
  .exact Uw h.2 x E
def yMt(E:n<=m)(h:E5 n [] x=x):E5 m [] x=x:=by
 cases x with
 |clo f l=>
  simp only[E5,D.clo.injEq,zal]at h⊢;exact OR λy N=>yMu E (Uw h y N)
 |_=>unfold E5 at h⊢;exact yMu E h
def Ynl(E:n<=m)(h:ED n [] x=x):ED m [] x=x:=by
 cases x with
 |agg l=>
  simp only[ED,D.agg.injEq]at h⊢;exact OR λy N=>yMt E (Uw h y N)
 |tup l=>unfold ED at h⊢;exact h
 |_=>unfold ED at h⊢;exact yMt E h
theorem StOK.nil:StOK []:=λ_ h=>by cases h
theorem StOK.app(h:StOK st)(l:St)(hl:∀o∈l,o.row=f_->∀x∈o.els,ED (st.length+l.length) [] x=x):StOK (st++l):=by
 intro o E N x hx;rw[Ag];rcases AK.1 E with E|E
 .exact Ynl (Nat.le_add_right _ _) (h o E N x hx)
 .grind
theorem StOK.set(h:StOK st)(k:Nat)(o:Obj)(ho:o.row=f_->∀x∈o.els,ED st.length [] x=x):StOK (st.set k o):=by
 intro q E N x hx;rw[BE];rcases BY E with E|rfl
 .exact h q E N x hx
 .grind
theorem yTv(n m:Nat):∀(l acc:List Nat),(∀k∈l,k<n)->FT n m l acc=acc
 |[],acc,_=>rfl
 |k::r,acc,h=>by
  have:=h k zac;rw[FT,YYN];exact yTv n m r acc λx E=>h x (by simp[E])
theorem yJn{l:St}(h:StOK st)(aa:∀o∈st,o.row=f_->∀x∈o.els,∀k∈hk x,k<st.length)(hf:∀s∈keep,∀k∈hk (fr s),k<st.length):
  restrict keep st.length ⟨fr,st++l⟩=⟨GU (Lh fr st.length [] keep),st⟩:=by
 have hle:st.length<=(st++l).length:=zac
 have E:(st++l).take st.length=st:=zac
 unfold restrict;simp only[hle,zaj]
 rw[yTv _ _ _ _ (λk N=>by
  simp only[aE,E,AK,Bk]at N;grind)]
 unfold restrictAt;rw[YJ];simp only[picked,Bc,Ai,E,Yeg h]
abbrev Rs:=(D×St) ⊕ (Nat×D×St)
def RQ(T:Tbl)(F:PF)(ds:List D)(st:St):Rs->Prop
 |.inl r=>∃k,F.runI GG T k ds st=s_ r
 |.inr r=>∃k,F.runX GG T k ds st=s_ r
def Yn(T:Tbl)(F:PF)(Q:List D->St->Rs->Prop):List D->St->Option Rs:=λds st=>@dite _ (∃o,RQ T F ds st o/\Q ds st o) (Classical.propDecidable _) (λh=>s_ h.choose) (λ_=>n_)
def GF(T:Tbl)(F:PF)(Q:List D->St->Rs->Prop):zsF:=λds st=>match Yn T F Q ds st with
 |some (.inl r)=>s_ r
 |_=>n_
def KM(T:Tbl)(F:PF)(Q:List D->St->Rs->Prop):zsX:=λds st=>match Yn T F Q ds st with
 |some (.inr r)=>s_ r
 |_=>n_
variable{Q:List D->St->Rs->Prop}{F:PF}{T:Tbl}
theorem Yi6{o:Rs}(h:Yn T F Q ds st=s_ o):RQ T F ds st o/\Q ds st o:=by
 unfold Yn at h
 split at h
 .grind
 .cases h
abbrev CC(f:Nat)(si:zsF)(sx:zsX):Prop:=zIC f si/\SO Tryz.prog GG f sx
variable{hints:List (List Nat)}{il:List Nat}
def HJ{f:Nat}(Q:List D->St->Rs->Prop)(N:IY Tryz.prog il f hints=s_ F)(hT:TblOK Tryz.prog GG T)(hy:T.y=λ_ _ _=>n_:=by rfl):CC f (GF T F Q) (KM T F Q):=by
 refine⟨⟨(Rb hT hy N 0).1,λbase w g st st' ds vs d E=>?_⟩,⟨(YH hT hy N 0).1,λbase w g st st' ds vs t d E=>?_⟩⟩
 .unfold GF at E
  split at E
  case h_2=>cases E
  rename_i r hc;obtain rfl:=At E;obtain⟨⟨k,hk⟩,_⟩:=Yi6 hc;exact(Rb hT hy N k).2 base w g st st' ds vs d hk
 .unfold KM at E
  split at E
  case h_2=>cases E
  rename_i r hc;obtain rfl:=At E;obtain⟨⟨k,hk⟩,_⟩:=Yi6 hc;exact(YH hT hy N k).2 base w g st st' ds vs t d hk
def Eu(res:List PRes)(Q:Rs->Prop)(x:Ex)(fr:Frame)(st:St):Prop:=match x with
 |.exit _=>False
 |.panic t y=>Q (.inr (t,y,st))
 |_=>@on _ (Ed ⟨fr,st⟩ res) ⟨λl=>Q (.inl (DS l,st))⟩
theorem yUx(E:List PRes)(Q:Rs->Prop)(fr:Frame)(st:St):Eu E Q .ret fr st=@on _ (Ed ⟨fr,st⟩ E) ⟨λl=>Q (.inl (DS l,st))⟩:=(rfl)
theorem yMo(E:List PRes)(Q:Rs->Prop)(fr:Frame)(st:St):Eu E Q .next fr st=@on _ (Ed ⟨fr,st⟩ E) ⟨λl=>Q (.inl (DS l,st))⟩:=(rfl)
theorem yGy(E:List PRes)(Q:Rs->Prop)(t:Nat)(y:D)(fr:Frame)(st:St):Eu E Q (.panic t y) fr st=Q (.inr (t,y,st)):=(rfl)
def ij(si:zsF)(sx:zsX)(Q:List D->St->Rs->Prop)(ds:List D)(st:St):Prop:=
 (∃d st',si ds st=s_ (d,st')/\Q ds st (.inl (d,st')))\/(si ds st=n_/\∃t d st',sx ds st=s_ (t,d,st')/\Q ds st (.inr (t,d,st')))
theorem sU(h:@wW GG T F.code (Du ds) st ⟨Eu F.res (Q ds st)⟩):ij (GF T F Q) (KM T F Q) Q ds st:=by
 have E:∃o,RQ T F ds st o/\Q ds st o:=by
  obtain⟨n,e,ab,st',h1,N⟩:=Kp _ _ _ _ (Gr h)
  have ret:(e=.next\/e=.ret)->∃o,RQ T F ds st o/\Q ds st o:=by
   intro he;have h3:@on _ (Ed ⟨ab,st'⟩ F.res) ⟨λl=>Q ds st (.inl (DS l,st'))⟩:=by rcases he with rfl|rfl<;>exact N
   unfold on at h3
   split at h3
   .rename_i l hl;refine⟨.inl (DS l,st'),⟨n,?_⟩,h3⟩;unfold PF.runI;grind
   .grind
  cases e with
  |exit i=>exact N.elim
  |panic t y=>exact⟨.inr (t,y,st'),⟨n,by unfold PF.runX;rw[h1 n (Au _)]⟩,N⟩
  |next=>exact ret (.inl rfl)
  |ret=>exact ret (.inr rfl)
 have hc:Yn T F Q ds st=s_ E.choose:=by unfold Yn;rw[zbf E]
 have hq:=E.choose_spec.2;unfold ij GF KM;rw[hc];generalize E.choose=o at hq;grind
def Yx1(fr:Frame)(st:St)(t n:Nat)(ag:Bool)(l:List PRes):Ed ⟨fr,st⟩ (.cell t n ag::l)=(Fa st n ag (fr t)).bind λd=>(Ed ⟨fr,st⟩ l).map (d::·):=by simp only[Ed];cases Fa st n ag (fr t)<;>cases Ed ⟨fr,st⟩ l<;>rfl
attribute [push_cast] Yx1
def Ii(T:Tbl)(F:PF)(Q:List D->D->Prop):zsP:=λds=>@dite _ (∃r,(∃k,F.run GG T k ds=s_ r)/\Q ds r) (Classical.propDecidable _) (λh=>s_ h.choose) (λ_=>n_)
theorem I0{f:Nat}(Q:List D->D->Prop)(E:IY Tryz.prog il f hints=s_ F)(N:TblOK Tryz.prog GG T)(hy:T.y=λ_ _ _=>n_:=by rfl):zCC f (Ii T F Q):=
 wH N hy E λds d hd=>by
  unfold Ii at hd
  split at hd
  .grind
  .cases hd
def FP(res:List PRes)(Q:D->Prop)(x:Ex)(fr:Frame)(st:St):Prop:=match x with
 |.exit _ | .panic _ _=>False
 |_=>@on _ (E8 ⟨fr,st⟩ res) ⟨λl=>Q (DS l)⟩
theorem Yne(E:List PRes)(Q:D->Prop)(fr:Frame)(st:St):FP E Q .ret fr st=@on _ (E8 ⟨fr,st⟩ E) ⟨λl=>Q (DS l)⟩:=(rfl)
theorem Yd9(E:List PRes)(Q:D->Prop)(fr:Frame)(st:St):FP E Q .next fr st=@on _ (E8 ⟨fr,st⟩ E) ⟨λl=>Q (DS l)⟩:=(rfl)
theorem I2{Q:List D->D->Prop}(h:@wW GG T F.code (Du ds) [] ⟨FP F.res (Q ds)⟩):∃r,Ii T F Q ds=s_ r/\Q ds r:=by
 have E:∃r,(∃k,F.run GG T k ds=s_ r)/\Q ds r:=by
  obtain⟨n,e,ab,st',h1,N⟩:=Kp _ _ _ _ (Gr h)
  have ret:(e=.next\/e=.ret)->∃r,(∃k,F.run GG T k ds=s_ r)/\Q ds r:=by
   intro he;have h3:@on _ (E8 ⟨ab,st'⟩ F.res) ⟨λl=>Q ds (DS l)⟩:=by rcases he with rfl|rfl<;>exact N
   unfold on at h3
   split at h3
   .rename_i l hl;refine⟨DS l,⟨n,?_⟩,h3⟩;unfold PF.run;grind
   .grind
  cases e with
  |exit i=>exact N.elim
  |panic t y=>exact N.elim
  |next=>exact ret (.inl rfl)
  |ret=>exact ret (.inr rfl)
 exact⟨E.choose,by unfold Ii;rw[zbf E],E.choose_spec.2⟩
attribute [irreducible] Eu FP
attribute [push_cast] Yne Yd9
attribute [push_cast] yUx yMo yGy
variable{off:Nat}{A B C xs:List D}
theorem tM(E:A.length=off)(N:B.length=xs.length):FZ (A++(B++C)) off xs=A++(xs++C):=by
 subst E;rw[FZ,Cr (Au _),Bx,<-N,List.drop_append,List.drop_eq_nil_of_le zaa,Aq,Al]
 congr 2
 simp_all
theorem rp(E:A.length=off)(N:B.length=n):((A++(B++C)).drop off).take n=B:=by grind
variable{lent:Bool}
def Og{cs:List D}{sz:Nat}(h:cs=A++(B++C))(E:A.length=off)(N:B.length=n):DB (s_ ⟨f_,sz,cs,lent⟩) n t_ off=s_ (U B):=by subst h;simp only[DB,Bj,rp E N,Bool.not_true,Bool.false_and,Ao,zam,A0,Bm];rw[zae (by simp[E,N])];rfl
variable{d:D}
def Ke{cs:List D}{sz:Nat}(h:cs=A++(d::C))(E:A.length=off):DB (s_ ⟨f_,sz,cs,lent⟩) 1 f_ off=s_ d:=by subst h;have:=rp (A:=A) (B:=[d]) (C:=C) (off:=off) (n:=1) E rfl;simp only[Aj,Aq]at this;simp only[DB,Bj,this,A0,Bm,bne_self_eq_false,Ao,zam];rw[zae (by simp[E])];rfl
variable{v:D}{cs':List D}
theorem LR{cs:List D}{sz:Nat}(h:cs=A++(B++C))(E:cs'=A++(xs++C))(N:A.length=off)(hB:B.length=n)(hv:v.cells=xs)(hx:xs.length=n)(hc:xs.all yaa=t_):
  DV (s_ ⟨f_,sz,cs,f_⟩) n off v=s_ ⟨f_,sz,cs',f_⟩:=by subst h;subst E;simp only[DV,Bj,hv,hc,tM N (hB.trans hx.symm)];grind
variable{r:List (Nat×Nat×D)}
theorem Kd{cs:List D}(h:cs=A++(B++C))(E:cs'=A++(xs++C))(N:A.length=off)(hB:B.length=n)(hv:v.cells=xs)(hx:xs.length=n)(hc:xs.all yaa=t_):
  Ec cs ((off,n,v)::r)=Ec cs' r:=by subst h;subst E;simp only[Ec,hv,hc,tM N (hB.trans hx.symm)];grind
def yWx{cs:List D}(h:cs=A++(B++C))(E:A.length=off)(N:B.length=n):Ov off n t_ (U cs)=s_ (U B):=by subst h;simp only[Ov,rp E N];rw[zae (by simp[E,N])];rfl
def Yh6{cs:List D}(h:cs=A++(d::C))(E:A.length=off):Ov off 1 f_ (U cs)=s_ d:=by subst h;have:=rp (A:=A) (B:=[d]) (C:=C) (off:=off) (n:=1) E rfl;simp only[Aj,Aq]at this;simp only[Ov,this];rw[zae (by simp[E])];rfl
structure Bis where
 h:Int
 l:Int
 i:Int
 n0:Dig
 n1:Dig
 t0:Bool
 t1:Bool
 l0:Dig
 l1:Dig
 r0:Dig
 r1:Dig
 r:Int
 deriving DecidableEq
def DD(x:Bis):List D:=[I J x.h]++([I J x.l]++([I J x.i]++(Dr x.n0++(Dr x.n1++([V x.t0]++([V x.t1]++(Dr x.l0++(Dr x.l1++(Dr x.r0++(Dr x.r1++[I J x.r]))))))))))
def EJ(x:Bis):D:=U (DD x)
def GJ:Bis:=⟨0,0,0,DX,DX,f_,f_,DX,DX,DX,DX,0⟩
def FK(a b:Dig):List D:=Dr a++Dr b
def QI:List D:=FK DX DX
theorem YDr:QI=FK DX DX:=rfl
def Vu:List Nat:=C7 32 0
def Zw(x:Bis):(DD x).length=198:=by simp[DD,En]
def Ql(a b:Dig):(FK a b).length=64:=by simp[FK,En]
variable{p:D->Bool}
def wi(E:∀k n,p (I k n)=t_)(N:∀b,p (V b)=t_)(x:Bis):(DD x).all p=t_:=by have:∀d,(Dr d).all p=t_:=λd=>My (λb=>E _ _) d;simp only[DD,Bo,AQ,Cj,E,N,this,Bd]
def uQ(E:∀k n,p (I k n)=t_)(a b:Dig):(FK a b).all p=t_:=by have:∀d,(Dr d).all p=t_:=λd=>My (λb=>E _ _) d;simp only[FK,Bo,this,Bd]
def Yca(x:Bis):(DD x).all E2=t_:=wi (λ_ _=>rfl) (λ_=>rfl) x
def xW(x:Bis):(DD x).all yaa=t_:=wi (λ_ _=>rfl) (λ_=>rfl) x
def yOw(a b:Dig):(FK a b).all E2=t_:=uQ (λ_ _=>rfl) a b
def qB(a b:Dig):(FK a b).all yaa=t_:=uQ (λ_ _=>rfl) a b
def V3{E:List D}(h:A++B=C++E)(hl:A.length=C.length):A=C/\B=E:=Bb h hl
def yXq{x y:Bis}(h:DD x=DD y):x=y:=by obtain⟨xh,xl,xi,ba,bb,bc,bd,be,bf,bg,bh,xr⟩:=x;obtain⟨yh,yl,yi,b1,b2,b3,b4,b5,b6,b7,b8,yr⟩:=y;simp only[DD,Aj,Aq,Ab,D.int.injEq,zal]at h;obtain⟨q1,q2,q3,h0⟩:=h;obtain⟨e1,h1⟩:=V3 h0 (by simp[En]);obtain⟨e2,E⟩:=V3 h1 (by simp[En]);simp only[Ab,D.bool.injEq]at E;obtain⟨q4,q5,h3⟩:=E;obtain⟨e3,h4⟩:=V3 h3 (by simp[En]);obtain⟨e4,h5⟩:=V3 h4 (by simp[En]);obtain⟨e5,h6⟩:=V3 h5 (by simp[En]);obtain⟨e6,N⟩:=V3 h6 (by simp[En]);simp only[Ab,D.int.injEq,zal,zag]at N;rw[q1,q2,q3,q4,q5,N,Ol e1,Ol e2,Ol e3,Ol e4,Ol e5,Ol e6]
def YK{x y:Bis}:EJ x=EJ y↔x=y:=⟨λh=>by simp only[EJ,D.agg.injEq]at h;exact yXq h,λh=>by rw[h]⟩
section
variable(x:Bis) (sz:Nat) (lent:Bool)
def gg:DB (s_ ⟨f_,sz,DD x,lent⟩) 1 f_ 0=s_ (I J x.h):=Ke (A:=[]) rfl rfl
def fZ:DB (s_ ⟨f_,sz,DD x,lent⟩) 1 f_ 1=s_ (I J x.l):=Ke (A:=[I J x.h]) rfl rfl
def gd:DB (s_ ⟨f_,sz,DD x,lent⟩) 1 f_ 2=s_ (I J x.i):=Ke (A:=[I J x.h,I J x.l]) rfl rfl
def YIi:DB (s_ ⟨f_,sz,DD x,lent⟩) 32 t_ 3=s_ (Ds x.n0):=Og (A:=[I J x.h,I J x.l,I J x.i]) (B:=Dr x.n0) rfl rfl (En _)
def YIh:DB (s_ ⟨f_,sz,DD x,lent⟩) 32 t_ 35=s_ (Ds x.n1):=Og (A:=[I J x.h,I J x.l,I J x.i]++Dr x.n0) (B:=Dr x.n1) (by simp[DD];rfl) (by simp[En]) (En _)
def fY:DB (s_ ⟨f_,sz,DD x,lent⟩) 64 t_ 3=s_ (U (FK x.n0 x.n1)):=Og (A:=[I J x.h,I J x.l,I J x.i]) (B:=FK x.n0 x.n1) (by simp[DD,FK];rfl) rfl (Ql _ _)
def YIg:DB (s_ ⟨f_,sz,DD x,lent⟩) 1 f_ 67=s_ (V x.t0):=Ke (A:=[I J x.h,I J x.l,I J x.i]++(Dr x.n0++Dr x.n1)) (by simp[DD];rfl) (by simp[En])
def YIf:DB (s_ ⟨f_,sz,DD x,lent⟩) 1 f_ 68=s_ (V x.t1):=Ke (A:=[I J x.h,I J x.l,I J x.i]++(Dr x.n0++(Dr x.n1++[V x.t0]))) (by simp[DD];rfl) (by simp[En])
def YIk:DB (s_ ⟨f_,sz,DD x,lent⟩) 32 t_ 69=s_ (Ds x.l0):=Og (A:=[I J x.h,I J x.l,I J x.i]++(Dr x.n0++(Dr x.n1++[V x.t0,V x.t1]))) (B:=Dr x.l0) (by simp[DD];rfl) (by simp[En]) (En _)
def YIj:DB (s_ ⟨f_,sz,DD x,lent⟩) 32 t_ 101=s_ (Ds x.l1):=Og (A:=[I J x.h,I J x.l,I J x.i]++(Dr x.n0++(Dr x.n1++([V x.t0,V x.t1]++Dr x.l0)))) (B:=Dr x.l1) (by simp[DD];rfl) (by simp[En]) (En _)
def gj:DB (s_ ⟨f_,sz,DD x,lent⟩) 64 t_ 69=s_ (U (FK x.l0 x.l1)):=Og (A:=[I J x.h,I J x.l,I J x.i]++(Dr x.n0++(Dr x.n1++[V x.t0,V x.t1]))) (B:=FK x.l0 x.l1) (by simp[DD,FK];rfl) (by simp[En]) (Ql _ _)
def gi:DB (s_ ⟨f_,sz,DD x,lent⟩) 64 t_ 133=s_ (U (FK x.r0 x.r1)):=Og (A:=[I J x.h,I J x.l,I J x.i]++(Dr x.n0++(Dr x.n1++([V x.t0,V x.t1]++(Dr x.l0++Dr x.l1))))) (B:=FK x.r0 x.r1) (C:=[I J x.r]) (by simp[DD,FK]) (by simp[En]) (Ql _ _)
def fX:DB (s_ ⟨f_,sz,DD x,lent⟩) 1 f_ 197=s_ (I J x.r):=Ke (A:=[I J x.h,I J x.l,I J x.i]++(Dr x.n0++(Dr x.n1++([V x.t0,V x.t1]++(Dr x.l0++(Dr x.l1++(Dr x.r0++Dr x.r1))))))) (C:=[]) (by simp[DD]) (by simp[En])
def Yzn:DB (s_ ⟨f_,sz,DD x,lent⟩) 198 t_ 0=s_ (EJ x):=Is sz lent _ 198 (Zw x)
def Ydd(y:Bis):DV (s_ ⟨f_,sz,DD x,f_⟩) 198 0 (EJ y)=s_ ⟨f_,sz,DD y,f_⟩:=Hs sz _ _ 198 (Zw x) (Zw y) (xW y)
def dR(v:Int):DV (s_ ⟨f_,sz,DD x,f_⟩) 1 2 (I J v)=s_ ⟨f_,sz,DD {x with i:=v},f_⟩:=LR (A:=[I J x.h,I J x.l]) (B:=[I J x.i]) (xs:=[I J v]) rfl rfl rfl rfl rfl rfl rfl
def dQ(a b:Dig):DV (s_ ⟨f_,sz,DD x,f_⟩) 64 3 (U (FK a b))=s_ ⟨f_,sz,DD {x with n0:=a,n1:=b},f_⟩:=LR (A:=[I J x.h,I J x.l,I J x.i]) (B:=FK x.n0 x.n1) (xs:=FK a b) (by simp[DD,FK];rfl) (by simp[DD,FK]) rfl (Ql _ _) rfl (Ql _ _) (qB a b)
def YF7(v:Bool):DV (s_ ⟨f_,sz,DD x,f_⟩) 1 67 (V v)=s_ ⟨f_,sz,DD {x with t0:=v},f_⟩:=LR (A:=[I J x.h,I J x.l,I J x.i]++(Dr x.n0++Dr x.n1)) (B:=[V x.t0]) (xs:=[V v]) (by simp[DD];rfl) (by simp[DD]) (by simp[En]) rfl rfl rfl rfl
def YF6(v:Bool):DV (s_ ⟨f_,sz,DD x,f_⟩) 1 68 (V v)=s_ ⟨f_,sz,DD {x with t1:=v},f_⟩:=LR (A:=[I J x.h,I J x.l,I J x.i]++(Dr x.n0++(Dr x.n1++[V x.t0]))) (B:=[V x.t1]) (xs:=[V v]) (by simp[DD];rfl) (by simp[DD]) (by simp[En]) rfl rfl rfl rfl
def YGb(v:Dig):DV (s_ ⟨f_,sz,DD x,f_⟩) 32 69 (Ds v)=s_ ⟨f_,sz,DD {x with l0:=v},f_⟩:=LR (A:=[I J x.h,I J x.l,I J x.i]++(Dr x.n0++(Dr x.n1++[V x.t0,V x.t1]))) (B:=Dr x.l0) (xs:=Dr v) (by simp[DD];rfl) (by simp[DD]) (by simp[En]) (En _) rfl (En _) (IW v)
def YGa(v:Dig):DV (s_ ⟨f_,sz,DD x,f_⟩) 32 101 (Ds v)=s_ ⟨f_,sz,DD {x with l1:=v},f_⟩:=LR (A:=[I J x.h,I J x.l,I J x.i]++(Dr x.n0++(Dr x.n1++([V x.t0,V x.t1]++Dr x.l0)))) (B:=Dr x.l1) (xs:=Dr v) (by simp[DD];rfl) (by simp[DD]) (by simp[En]) (En _) rfl (En _) (IW v)
def YF9(v:Dig):DV (s_ ⟨f_,sz,DD x,f_⟩) 32 133 (Ds v)=s_ ⟨f_,sz,DD {x with r0:=v},f_⟩:=LR (A:=[I J x.h,I J x.l,I J x.i]++(Dr x.n0++(Dr x.n1++([V x.t0,V x.t1]++(Dr x.l0++Dr x.l1))))) (B:=Dr x.r0) (xs:=Dr v) (by simp[DD];rfl) (by simp[DD]) (by simp[En]) (En _) rfl (En _) (IW v)
def YF8(v:Dig):DV (s_ ⟨f_,sz,DD x,f_⟩) 32 165 (Ds v)=s_ ⟨f_,sz,DD {x with r1:=v},f_⟩:=LR (A:=[I J x.h,I J x.l,I J x.i]++(Dr x.n0++(Dr x.n1++([V x.t0,V x.t1]++(Dr x.l0++(Dr x.l1++Dr x.r0)))))) (B:=Dr x.r1) (C:=[I J x.r]) (xs:=Dr v) (by simp[DD]) (by simp[DD]) (by simp[En]) (En _) rfl (En _) (IW v)
def iP(v:Int)(r:List (Nat×Nat×D)):Ec (DD x) ((0,1,I J v)::r)=Ec (DD {x with h:=v}) r:=Kd (A:=[]) (B:=[I J x.h]) (xs:=[I J v]) rfl rfl rfl rfl rfl rfl rfl
def iN(v:Int)(r:List (Nat×Nat×D)):Ec (DD x) ((1,1,I J v)::r)=Ec (DD {x with l:=v}) r:=Kd (A:=[I J x.h]) (B:=[I J x.l]) (xs:=[I J v]) rfl rfl rfl rfl rfl rfl rfl
def iO(v:Int)(r:List (Nat×Nat×D)):Ec (DD x) ((2,1,I J v)::r)=Ec (DD {x with i:=v}) r:=Kd (A:=[I J x.h,I J x.l]) (B:=[I J x.i]) (xs:=[I J v]) rfl rfl rfl rfl rfl rfl rfl
def iM(a b:Dig)(r:List (Nat×Nat×D)):Ec (DD x) ((3,64,U (FK a b))::r)=Ec (DD {x with n0:=a,n1:=b}) r:=Kd (A:=[I J x.h,I J x.l,I J x.i]) (B:=FK x.n0 x.n1) (xs:=FK a b) (by simp[DD,FK];rfl) (by simp[DD,FK]) rfl (Ql _ _) rfl (Ql _ _) (qB a b)
def iL(v:Int)(r:List (Nat×Nat×D)):Ec (DD x) ((197,1,I J v)::r)=Ec (DD {x with r:=v}) r:=Kd (A:=[I J x.h,I J x.l,I J x.i]++(Dr x.n0++(Dr x.n1++([V x.t0,V x.t1]++(Dr x.l0++(Dr x.l1++(Dr x.r0++Dr x.r1))))))) (B:=[I J x.r]) (C:=[]) (xs:=[I J v]) (by simp[DD]) (by simp[DD]) (by simp[En]) rfl rfl rfl rfl
end
def iR(a b v:Dig)(r:List (Nat×Nat×D)):Ec (FK a b) ((0,32,Ds v)::r)=Ec (FK v b) r:=Kd (A:=[]) (B:=Dr a) (xs:=Dr v) rfl rfl rfl (En _) rfl (En _) (IW v)
def iQ(a b v:Dig)(r:List (Nat×Nat×D)):Ec (FK a b) ((32,32,Ds v)::r)=Ec (FK a v) r:=Kd (A:=Dr a) (B:=Dr b) (C:=[]) (xs:=Dr v) (by simp[FK]) (by simp[FK]) (En _) (En _) rfl (En _) (IW v)
def Yzo(sz:Nat)(lent:Bool)(a b:Dig):DB (s_ ⟨f_,sz,FK a b,lent⟩) 64 t_ 0=s_ (U (FK a b)):=Is sz lent _ 64 (Ql _ _)
def Yw1(sz:Nat)(a b c d:Dig):DV (s_ ⟨f_,sz,FK a b,f_⟩) 64 0 (U (FK c d))=s_ ⟨f_,sz,FK c d,f_⟩:=Hs sz _ _ 64 (Ql _ _) (Ql _ _) (qB _ _)
def YCy(x:Bis):DM (EJ x)=s_ (DD x):=by simp only[DM,EJ,D.cells,xW,zaj]
def YL4(a b:Dig):DM (U (FK a b))=s_ (FK a b):=by simp only[DM,D.cells,qB,zaj]
theorem YDe(x:Bis):D.agg (DD x)=EJ x:=rfl
def uW(st:St)(x:Bis):D2 st (EJ x)=s_ (EJ x):=SN st (Yca x)
def Ygv(a b:Dig):keys (U (FK a b))=[]:=SU (yOw a b)
def yZp(x:Bis):((DD x).all yat)=t_:=wi (λ_ _=>rfl) (λ_=>rfl) x
def Yfu(a b:Dig):((FK a b).all yat)=t_:=uQ (λ_ _=>rfl) a b
def yZn(a:Dig):((Dr a).all yat)=t_:=My (λ_=>rfl) a
def Ywa(x:Bis)(k:IntKind)(n:Int):(D.tup [EJ x,I k n]).noRef=t_:=by simp[D.noRef,EJ,yZp,yat]
def Ycx(k:IntKind)(n:Int)(a c:Dig)(b:Bool):(D.tup [I k n,U (FK a c),V b]).noRef=t_:=by simp[D.noRef,Yfu,yat]
def Yl7(a b:Dig)(k:IntKind)(n:Int):(D.tup [Ds a,Ds b,I k n]).noRef=t_:=by simp[D.noRef,Ds,yZn,yat]
attribute [push_cast] gg fZ gd YIi YIh fY YIg YIf YIk YIj gj gi fX Yzn Ydd dR dQ YF7 YF6 YGb YGa YF9 YF8 iP iN iO iM iL iR iQ Yzo Yw1 YCy YL4 YDe uW Ygv Ywa Ycx Yl7 YDr
inductive Sg where
 |c (d:D)
 |g (x:Dig)
 |w (n:Nat) (l:List D)
def Sg.sz:Sg->Nat
 |.c _=>1
 |.g _=>32
 |.w n _=>n
def Sg.cs:Sg->List D
 |.c d=>[d]
 |.g x=>Dr x
 |.w _ l=>l
def DC:List Sg->List D
 |[]=>[]
 |s::r=>s.cs++DC r
def Lt:List Sg->Prop
 |[]=>True
 |.c _::r=>Lt r
 |.g _::r=>Lt r
 |.w n l::r=>l.length=n/\Lt r
def JX:List Sg->Nat
 |[]=>0
 |s::r=>s.sz+JX r
theorem NN:∀A B:List Sg,DC (A++B)=DC A++DC B
 |[],_=>rfl
 |s::A,B=>by rw[Aj,DC,DC,NN A B,Al]
theorem X6:∀{A B:List Sg},Lt (A++B)->Lt A/\Lt B
 |[],_,h=>⟨trivial,h⟩
 |.c _::A,_,h=>X6 (A:=A) h
 |.g _::A,_,h=>X6 (A:=A) h
 |.w _ _::A,_,h=>⟨⟨h.1,(X6 (A:=A) h.2).1⟩,(X6 (A:=A) h.2).2⟩
theorem Ra:∀{A:List Sg},Lt A->(DC A).length=JX A
 |[],_=>rfl
 |.c d::A,h=>by rw[DC,JX,Ag,Ra (A:=A) h];rfl
 |.g x::A,h=>by rw[DC,JX,Ag,Ra (A:=A) h];simp[Sg.cs,Sg.sz,En]
 |.w n l::A,h=>by rw[DC,JX,Ag,Ra (A:=A) h.2];simp[Sg.cs,Sg.sz,h.1]
def j5:List Sg->Nat->Option (List Sg×List Sg)
 |l,0=>s_ ([],l)
 |[],_+1=>n_
 |s::r,n+1=>match Nat.ble s.sz (n+1)with
  |true=>match j5 r (n+1-s.sz)with
   |some (A,B)=>s_ (s::A,B)
   |none=>n_
  |false=>n_
theorem xO:∀(l:List Sg)(n:Nat)(A B:List Sg),j5 l n=s_ (A,B)->l=A++B/\JX A=n
 |l,0,A,B,h=>by
  have h:s_ (([]:List Sg),l)=s_ (A,B):=by cases l<;>exact h
  cases h;exact⟨rfl,rfl⟩
 |[],n+1,A,B,h=>by cases h
 |s::r,n+1,A,B,h=>by
  simp only[j5]at h
  split at h
  case h_2=>cases h
  rename_i hb
  split at h
  case h_2=>cases h
  rename_i A' B' E;cases h;obtain⟨N,e2⟩:=xO r _ _ _ E;have:=Nat.le_of_ble_eq_true hb;exact⟨by rw[N];rfl,by rw[JX,e2];omega⟩
def XY(l:List Sg)(off n:Nat):Option (List Sg×List Sg×List Sg):=match j5 l off with
 |some (A,R)=>match j5 R n with
  |some (B,C)=>s_ (A,B,C)
  |none=>n_
 |none=>n_
variable{l:List Sg}
def lh{A B C:List Sg}(h:XY l off n=s_ (A,B,C))(E:Lt l):DC l=DC A++(DC B++DC C)/\(DC A).length=off/\(DC B).length=n:=by
 unfold XY at h
 split at h
 case h_2=>cases h
 rename_i A' R N
 split at h
 case h_2=>cases h
 rename_i B' C' h2;cases h;obtain⟨e1,e2⟩:=xO _ _ _ _ N;obtain⟨e3,e4⟩:=xO _ _ _ _ h2;subst e1;obtain⟨w1,w2⟩:=X6 E;subst e3;obtain⟨w3,w4⟩:=X6 w2;exact⟨by rw[NN,NN],by rw[Ra w1,e2],by rw[Ra w3,e4]⟩
def LP{A B C:List Sg}{sz:Nat}{cs:List D}(E:cs=DC l)(h:XY l off n=s_ (A,B,C))(N:Lt l)(hd:d=U (DC B)):DB (s_ ⟨f_,sz,cs,lent⟩) n t_ off=s_ d:=by obtain⟨e1,e2,e3⟩:=lh h N;rw[E,hd];exact Og e1 e2 e3
def JK{A C:List Sg}{sz:Nat}{cs:List D}(E:cs=DC l)(h:XY l off 1=s_ (A,[.c d],C))(N:Lt l):DB (s_ ⟨f_,sz,cs,lent⟩) 1 f_ off=s_ d:=by obtain⟨e1,e2,e3⟩:=lh h N;rw[E];exact Ke e1 e2
variable{X:List Sg}
def LS{A B C:List Sg}{sz:Nat}{cs:List D}(N:cs=DC l)(h:XY l off n=s_ (A,B,C))(hw:Lt l)(E:cs'=DC (A++(X++C)))(hv:v.cells=DC X)(hx:(DC X).length=n)(hc:(DC X).all yaa=t_):
  DV (s_ ⟨f_,sz,cs,f_⟩) n off v=s_ ⟨f_,sz,cs',f_⟩:=by obtain⟨e1,e2,e3⟩:=lh h hw;rw[N,E];exact LR e1 (by rw[NN,NN]) e2 e3 hv hx hc
def KX{A B C:List Sg}{cs:List D}(N:cs=DC l)(h:XY l off n=s_ (A,B,C))(hw:Lt l)(E:cs'=DC (A++(X++C)))(hv:v.cells=DC X)(hx:(DC X).length=n)(hc:(DC X).all yaa=t_):
  Ec cs ((off,n,v)::r)=Ec cs' r:=by obtain⟨e1,e2,e3⟩:=lh h hw;rw[N,E];exact Kd e1 (by rw[NN,NN]) e2 e3 hv hx hc
theorem Q9{p:D->Bool}(E:∀k n,p (I k n)=t_):∀{l:List Sg},(∀s∈l,s.cs.all p=t_)->(DC l).all p=t_
 |[],_=>rfl
 |s::l,h=>by
  rw[DC,Bo,h s (List.mem_cons_self ..),Q9 E (λx N=>h x (Ct _ N))];rfl
def zI(n:Nat):List D:=C7 n (I J 0)
def OE:List D:=zI 4++(O 0 [] t_::I J 0::Dr DX)
def QJ:List D:=(I J 0::Dr DX)++(I J 0::Dr DX)
def GR:List D:=zI 11++(QJ++(DD GJ++(zI 3++[O 0 [] t_])))
def E1:List D:=zI 3++((I J 0::Dr DX)++(Dr DX++(Dr DX++(OE++(O 0 [] t_::zI 5)))))
def Qw:List D:=GR++(O 0 [] t_::(zI 17++(E1++[I J 0])))
