/-
  SHA-256 and tagged digests over lists of bytes, in plain Lean.
  Conditions: none; these are definitions and lemmas.
-/
import Derived.Test.YtijnglngaogdjaaGreatDoorEngHe
import Derived.Test.YtijnglngaogdjaaGreatDoorEngB2
import Derived.KernelRfl
open UInt64 renaming ofNat→CX
set_option linter.unusedVariables false
set_option linter.unusedSimpArgs false
namespace Go.Proofs.YtijnglngaogdjaaGreatDoor.PI
open Go
set_option linter.unusedSimpArgs false
set_option linter.unusedVariables false
variable {off:Nat}{A B C xs:List D}
theorem WJ(u:A.length=off)(E:B.length=xs.length):F0 (A++(B++C)) off xs=A++(xs++C):=by
 subst u;rw[F0,Cd (Az _),AJ,← E,CD,List.drop_eq_nil_of_le (by omega),AH,Ar]
 congr 2
 rw[show A.length+B.length - A.length=B.length by omega,CD,Bm,BA];rfl
variable {n:Nat}
theorem RV(u:A.length=off)(E:B.length=n):((A++(B++C)).drop off).take n=B:=by
 subst u; subst E;rw[CD,Bm,BA];simp
variable {lent:Bool}
theorem Ns{cs:List D}{sz:Nat}(h:cs=A++(B++C))(u:A.length=off)(E:B.length=n):DY (some ⟨false,sz,cs,lent⟩) n true off=some (.agg B):=by
 subst h;simp only[DY,Bl,RV u E,Bg,Bq,Ak,if_false,A0,A1];rw[if_pos (by simp[u,E])];rfl
theorem IM{cs:List D}{d:D}{sz:Nat}(h:cs=A++(d::C))(u:A.length=off):DY (some ⟨false,sz,cs,lent⟩) 1 false off=some d:=by
 subst h;have:=RV (A:=A) (B:=[d]) (C:=C) (off:=off) (n:=1) u rfl;simp only[At,AH]at this;simp only[DY,Bl,this,A0,A1,bne_self_eq_false,Ak,if_false];rw[if_pos (by simp[u])];rfl
variable {cs':List D}
theorem Lz{cs:List D}{sz:Nat}{v:D}(h:cs=A++(B++C))(J:cs'=A++(xs++C))(u:A.length=off)(E:B.length=n)(hv:v.cells=xs)(I:xs.length=n)(M:xs.all D.isCell=true) :
  Eh (some ⟨false,sz,cs,false⟩) n off v=some ⟨false,sz,cs',false⟩:=by
 subst h; subst J;simp only[Eh,Bl,hv,M,WJ u (E.trans I.symm)];rw[if_pos (by simp[u,E,I])]
theorem II{cs:List D}{v:D}{r:List (Nat×Nat×D)}(h:cs=A++(B++C))(J:cs'=A++(xs++C))(u:A.length=off)(E:B.length=n)(hv:v.cells=xs)(I:xs.length=n)(M:xs.all D.isCell=true) :
  Fi cs ((off,n,v)::r)=Fi cs' r:=by
 subst h; subst J;simp only[Fi,hv,M,WJ u (E.trans I.symm)];rw[if_pos (by simp[u,E,I])]
theorem gN{cs:List D}(h:cs=A++(B++C))(u:A.length=off)(E:B.length=n):JY off n true (.agg cs)=some (.agg B):=by
 subst h;simp only[JY,RV u E];rw[if_pos (by simp[u,E])];rfl
theorem sy{cs:List D}{d:D}(h:cs=A++(d::C))(u:A.length=off):JY off 1 false (.agg cs)=some d:=by
 subst h;have:=RV (A:=A) (B:=[d]) (C:=C) (off:=off) (n:=1) u rfl;simp only[At,AH]at this;simp only[JY,this];rw[if_pos (by simp[u])];rfl
structure Bis where
 h:Int
 l:Int
 i:Int
 n0:Dig
 n1:Dig
 t0:Bool
 t1:Bool
 l0:Dig
 l1:Dig
 r0:Dig
 r1:Dig
 r:Int
 deriving DecidableEq
def Ri(x:Bis):List D:=[.int .i64 x.h]++([.int .i64 x.l]++([.int .i64 x.i]++(C6 x.n0++(C6 x.n1++([.bool x.t0]++([.bool x.t1]++(C6 x.l0++(C6 x.l1++(C6 x.r0++(C6 x.r1++[.int .i64 x.r]))))))))))
def ZS(x:Bis):D:=.agg (Ri x)
def lu(a b:Dig):List D:=C6 a++C6 b
def mX:List D:=lu DF DF
theorem Ymb:mX=lu DF DF:=rfl
section
variable (x:Bis) (sz:Nat) (lent:Bool)
end
theorem Yl2(x:Bis):D.agg (Ri x)=ZS x:=rfl
attribute [push_cast] Yl2 Ymb
inductive Sg where
 |c (d:D)
 |g (x:Dig)
 |w (n:Nat) (l:List D)
def Sg.sz:Sg→Nat
 |.c _=>1
 |.g _=>32
 |.w n _=>n
def Sg.cs:Sg→List D
 |.c d=>[d]
 |.g x=>C6 x
 |.w _ l=>l
namespace Sha
def rotr(x:UInt32)(n:Nat):UInt32:=x >>> UInt32.ofNat n ||| x <<< UInt32.ofNat (32 - n)
def word(b:List UInt8)(i:Nat):UInt32:=
 (b.getD (4*i) 0).toUInt32 <<< UInt32.ofNat 24 ||| (b.getD (4*i+1) 0).toUInt32 <<< UInt32.ofNat 16 ||| (b.getD (4*i+2) 0).toUInt32 <<< UInt32.ofNat 8 ||| (b.getD (4*i+3) 0).toUInt32
def sig0(x:UInt32):UInt32:=rotr x 7 ^^^ rotr x 18 ^^^ x >>> UInt32.ofNat 3
def sig1(x:UInt32):UInt32:=rotr x 17 ^^^ rotr x 19 ^^^ x >>> UInt32.ofNat 10
def sch(b:List UInt8):Nat→List UInt32
 |0=>[]
 |n+1=>let w:=sch b n
  w++[if n<16 then word b n else w.getD (n - 16) 0+sig0 (w.getD (n - 15) 0)+w.getD (n - 7) 0+sig1 (w.getD (n - 2) 0)]
theorem sch_length(b:List UInt8):∀ n,(sch b n).length=n
 |0=>rfl
 |n+1=>by simp[sch,sch_length b n]
structure St8 where
 a:UInt32
 b:UInt32
 c:UInt32
 d:UInt32
 e:UInt32
 f:UInt32
 g:UInt32
 h:UInt32
def St8.list(s:St8):List UInt32:=[s.a,s.b,s.c,s.d,s.e,s.f,s.g,s.h]
def round(s:St8)(k w:UInt32):St8:=
 let t:=s.h+(rotr s.e 6 ^^^ rotr s.e 11 ^^^ rotr s.e 25)+(s.e &&& s.f ^^^ ~~~s.e &&& s.g)+k+w
 let u:=(rotr s.a 2 ^^^ rotr s.a 13 ^^^ rotr s.a 22)+(s.a &&& s.b ^^^ s.a &&& s.c ^^^ s.b &&& s.c)
 {a:=t+u,b:=s.a,c:=s.b,d:=s.c,e:=s.d+t,f:=s.e,g:=s.f,h:=s.g}
def K:List UInt32:=[
 0x428a2f98,0x71374491,0xb5c0fbcf,0xe9b5dba5,0x3956c25b,0x59f111f1,0x923f82a4,0xab1c5ed5,
 0xd807aa98,0x12835b01,0x243185be,0x550c7dc3,0x72be5d74,0x80deb1fe,0x9bdc06a7,0xc19bf174,
 0xe49b69c1,0xefbe4786,0x0fc19dc6,0x240ca1cc,0x2de92c6f,0x4a7484aa,0x5cb0a9dc,0x76f988da,
 0x983e5152,0xa831c66d,0xb00327c8,0xbf597fc7,0xc6e00bf3,0xd5a79147,0x06ca6351,0x14292967,
 0x27b70a85,0x2e1b2138,0x4d2c6dfc,0x53380d13,0x650a7354,0x766a0abb,0x81c2c92e,0x92722c85,
 0xa2bfe8a1,0xa81a664b,0xc24b8b70,0xc76c51a3,0xd192e819,0xd6990624,0xf40e3585,0x106aa070,
 0x19a4c116,0x1e376c08,0x2748774c,0x34b0bcb5,0x391c0cb3,0x4ed8aa4a,0x5b9cca4f,0x682e6ff3,
 0x748f82ee,0x78a5636f,0x84c87814,0x8cc70208,0x90befffa,0xa4506ceb,0xbef9a3f7,0xc67178f2]
def rounds(w:List UInt32)(s:St8):Nat→St8
 |0=>s
 |n+1=>round (rounds w s n) (K.getD n 0) (w.getD n 0)
def St8.add(s t:St8):St8:={a:=s.a+t.a,b:=s.b+t.b,c:=s.c+t.c,d:=s.d+t.d,e:=s.e+t.e,f:=s.f+t.f,g:=s.g+t.g,h:=s.h+t.h}
def block(s:St8)(b:List UInt8):St8:=s.add (rounds (sch b 64) s 64)
def H0:St8:=⟨0x6a09e667,0xbb67ae85,0x3c6ef372,0xa54ff53a,0x510e527f,0x9b05688c,0x1f83d9ab,0x5be0cd19⟩
def lenB(q:UInt64):Nat→List UInt8
 |0=>[]
 |n+1=>lenB q n++[(q >>> CX (56 - 8*n)).toUInt8]
def zeros(n:Nat):Nat:=(119 - n % 64) % 64
def padded(m:List UInt8):List UInt8:=m++[128]++List.replicate (zeros m.length) 0++lenB (CX m.length*8) 8
def blocks(s:St8):Nat→List UInt8→St8
 |0,_=>s
 |n+1,m=>blocks (block s (m.take 64)) n (m.drop 64)
def outB(l:List UInt32):Nat→List UInt8
 |0=>[]
 |n+1=>outB l n++[(l.getD (n / 4) 0 >>> UInt32.ofNat (24 - 8*(n % 4))).toUInt8]
theorem outB_length(l:List UInt32):∀ n,(outB l n).length=n
 |0=>rfl
 |n+1=>by simp[outB,outB_length l n]
theorem lenB_length(q:UInt64):∀ n,(lenB q n).length=n
 |0=>rfl
 |n+1=>by simp[lenB,lenB_length q n]
theorem St8.list_inj{s t:St8}(h:s.list=t.list):s=t:=by
 cases s; cases t;simpa[St8.list]using h
theorem St8.list_iff{s t:St8}:s.list=t.list↔s=t:=⟨St8.list_inj,fun h=>by rw[h]⟩
theorem St8.list_length(s:St8):s.list.length=8:=rfl
end Sha
theorem mg:Fi ((zW 8).map wD) [(0,1,.int .u32 1779033703),(1,1,.int .u32 3144134277),(2,1,.int .u32 1013904242),(3,1,.int .u32 2773480762),(4,1,.int .u32 1359893119),(5,1,.int .u32 2600822924),(6,1,.int .u32 528734635),(7,1,.int .u32 1541459225)]=some (Sha.H0.list.map wD):=by kernel_rfl
theorem QZ:Fi ((zW 64).map wD) [(0,1,.int .u32 1116352408),(1,1,.int .u32 1899447441),(2,1,.int .u32 3049323471),(3,1,.int .u32 3921009573),(4,1,.int .u32 961987163),(5,1,.int .u32 1508970993),(6,1,.int .u32 2453635748),(7,1,.int .u32 2870763221),(8,1,.int .u32 3624381080),(9,1,.int .u32 310598401),(10,1,.int .u32 607225278),(11,1,.int .u32 1426881987),(12,1,.int .u32 1925078388),(13,1,.int .u32 2162078206),(14,1,.int .u32 2614888103),(15,1,.int .u32 3248222580),(16,1,.int .u32 3835390401),(17,1,.int .u32 4022224774),(18,1,.int .u32 264347078),(19,1,.int .u32 604807628),(20,1,.int .u32 770255983),(21,1,.int .u32 1249150122),(22,1,.int .u32 1555081692),(23,1,.int .u32 1996064986),(24,1,.int .u32 2554220882),(25,1,.int .u32 2821834349),(26,1,.int .u32 2952996808),(27,1,.int .u32 3210313671),(28,1,.int .u32 3336571891),(29,1,.int .u32 3584528711),(30,1,.int .u32 113926993),(31,1,.int .u32 338241895),(32,1,.int .u32 666307205),(33,1,.int .u32 773529912),(34,1,.int .u32 1294757372),(35,1,.int .u32 1396182291),(36,1,.int .u32 1695183700),(37,1,.int .u32 1986661051),(38,1,.int .u32 2177026350),(39,1,.int .u32 2456956037),(40,1,.int .u32 2730485921),(41,1,.int .u32 2820302411),(42,1,.int .u32 3259730800),(43,1,.int .u32 3345764771),(44,1,.int .u32 3516065817),(45,1,.int .u32 3600352804),(46,1,.int .u32 4094571909),(47,1,.int .u32 275423344),(48,1,.int .u32 430227734),(49,1,.int .u32 506948616),(50,1,.int .u32 659060556),(51,1,.int .u32 883997877),(52,1,.int .u32 958139571),(53,1,.int .u32 1322822218),(54,1,.int .u32 1537002063),(55,1,.int .u32 1747873779),(56,1,.int .u32 1955562222),(57,1,.int .u32 2024104815),(58,1,.int .u32 2227730452),(59,1,.int .u32 2361852424),(60,1,.int .u32 2428436474),(61,1,.int .u32 2756734187),(62,1,.int .u32 3204031479),(63,1,.int .u32 3329325298)]=some (Sha.K.map wD):=by kernel_rfl
def Hj(m:List UInt8):Dig:=⟨Sha.outB (Sha.blocks Sha.H0 ((Sha.padded m).length / 64) (Sha.padded m)).list 32,Sha.outB_length _ 32⟩
def Kz(t b:List UInt8):List UInt8:=UInt8.ofNat (t.take 255).length::(t.take 255++b)
def LA(t b:List UInt8):Dig:=Hj (Kz t b)
end Go.Proofs.YtijnglngaogdjaaGreatDoor.PI
