/-
  Each operation of the model does what its pure counterpart does: parts of arrays, conversions, lengths.
  Conditions: none; these are lemmas.
-/
import Derived.Test.YtijnglngaogdjaaGreatDoorProg
import Derived.WalkKit
import Derived.Deep.LoopGhost
import Derived.Orders
import Derived.Lib.Strings
import Derived.Laws.IdiomStrings
set_option linter.unusedVariables false
set_option linter.unusedSimpArgs false
namespace Go.Proofs.YtijnglngaogdjaaGreatDoor.PI
open Go
theorem Ywh{α : Type _}(a b : α) : (some a=some b)=(a=b):=Option.some.injEq a b
theorem Ywi{α β : Type _}{x : Option α}{f : α→β}{b : β} : Option.map f x=some b↔∃ a, x=some a∧f a=b:=Option.map_eq_some_iff
theorem Ywj{α β : Type _}(a : α)(b : β)(c : α)(d : β) : ((a, b)=(c, d))=(a=c∧b=d):=Prod.mk.injEq a b c d
inductive D where
 |int (k:IntKind) (n:Int)
 |bool (b:Bool)
 |str (s:List UInt8)
 |slc (sz:Nat) (els:List D) (tight:Bool)
 |row (key tot off len:Nat)
 |bsl (key off n sz:Nat) (ag:Bool)
 |ptr (key off:Nat)
 |rptr (key tot i off:Nat)
 |eptr (el:D) (off:Nat)
 |agg (cells:List D)
 |tup (vs:List D)
 |clo (f:Nat) (caps:List D)
 |nilf
 |nilp
 /-- a map in the store -/
 |mapv (key:Nat)
 |nilm
 /-- a table of functions,by integers,that nobody changes -/
 |gmap (es:List (Int×Nat))
 |junk
 deriving Inhabited
namespace D
def cells:D→List D
 |.agg l=>l
 |d=>[d]
def isCell:D→Bool
 |.agg _ | .tup _ | .junk=>false
 |_=>true
def mk(ag:Bool)(cs:List D):D:=if ag then .agg cs else cs.headD .junk
def pure1:D→Bool
 |.int _ _ | .bool _ | .str _ | .slc _ _ _ | .clo _ [] | .nilf | .nilp | .nilm | .gmap _=>true
 |_=>false
def noRef1:D→Bool
 |.int _ _ | .bool _ | .str _=>true
 |_=>false
def noRef:D→Bool
 |.agg l=>l.all noRef1
 |.tup l=>l.all fun d=>match d with | .agg l=>l.all noRef1 | d=>noRef1 d
 |d=>noRef1 d
end D
def yaf(b:UInt8):D:=.int .u8 (b.toNat:Int)
structure Obj where
 row:Bool
 sz:Nat
 els:List D
 lent:Bool
 deriving Inhabited
abbrev St:=List Obj
def Obj.isMap(o:Obj):Bool:=!o.row && decide (1<o.sz)
def entK(sz:Nat):D→D
 |.agg l=>.mk (sz != 2) (l.take (sz - 1))
 |_=>.junk
def entV(sz:Nat):D→D
 |.agg l=>(l.drop (sz - 1)).headD .junk
 |_=>.junk
def yec(st:St)(key tot off len:Nat):Option (Nat×List D):=
 match st[key]? with
 |some o=>if o.row && o.els.length == tot && decide (off+len≤tot)then some (o.sz,(o.els.drop off).take len)else none
 |none=>none
def yn7(sz:Nat)(ag:Bool)(cs:List D):Nat→List D
 |0=>[]
 |n+1=>D.mk ag (cs.take sz)::yn7 sz ag (cs.drop sz) n
def ylf(st:St)(key off n sz:Nat)(ag:Bool):Option (List D):=
 match st[key]? with
 |some o=>if !o.row && decide (off+n*sz≤o.els.length) && decide (0<sz) && (ag || sz == 1)then some (yn7 sz ag (o.els.drop off) n)else none
 |none=>none
def nz(sz:Nat)(els:List D):Nat:=if els.isEmpty then 0 else sz
def purA:D→Bool
 |.agg l=>l.all D.pure1
 |d=>d.pure1
def bslI(st:St)(key off n sz:Nat)(ag:Bool):Option (List D):=match ylf st key off n sz ag with
 |some els=>if els.all purA then some els else none
 |none=>none
def imm1(st:St):D→Option D
 |.row key tot off len=>(yec st key tot off len).map fun p=>.slc (nz p.1 p.2) p.2 false
 |.slc sz els _=>some (.slc (nz sz els) els false)
 |.bsl key off n sz ag=>(bslI st key off n sz ag).map fun els=>.slc (nz sz els) els false
 |d=>if d.pure1 then some d else none
def immL(st:St):List D→Option (List D)
 |[]=>some []
 |d::l=>match imm1 st d,immL st l with
  |some x,some y=>some (x::y)
  |_,_=>none
def imm(st:St):D→Option D
 |.agg l=>(immL st l).map .agg
 |.tup _=>none
 |d=>imm1 st d
def imms(st:St):List D→Option (List D)
 |[]=>some []
 |d::l=>match imm st d,imms st l with
  |some x,some y=>some (x::y)
  |_,_=>none
def key1:D→List Nat
 |.row key _ _ _=>[key]
 |.bsl key _ _ _ _=>[key]
 |_=>[]
def keys:D→List Nat
 |.agg l=>l.flatMap key1
 |d=>key1 d
def lend(ks:List Nat)(st:St):St:=
 match ks with
 |[]=>st
 |k::r=>lend r (st.modify k fun o=>{o with lent:=true})
def purR:D→Bool
 |.tup l=>l.all purA
 |d=>purA d
def ygl(st:St):D→Option (Nat×List D)
 |.slc sz els _=>some (sz,els)
 |.row key tot off len=>yec st key tot off len
 |.bsl key off n sz ag=>match ylf st key off n sz ag with
  |some els=>if els.all purA then some (sz,els)else none
  |none=>none
 |.str s=>some (1,s.map yaf)
 |_=>none
def live(st:St)(key tot:Nat):Bool:=
 match st[key]? with
 |some o=>o.row && o.els.length == tot
 |none=>false
def yp1:D→Bool
 |.str _=>true
 |_=>false
def sLen(st:St):D→Option Nat
 |.slc _ els _=>some els.length
 |.row key tot _ len=>if live st key tot then some len else none
 |.bsl _ _ n _ _=>some n
 |.str s=>some s.length
 |_=>none
inductive PA where
 |s (n:Nat)
 |c (d:D)
 |g (n:Nat)
 deriving Inhabited
inductive PConv where
 |int (k:IntKind)
 |bytes
 |str
 |same
 deriving Inhabited
inductive POp where
 |mov (x:PA)
 |pick (c x y:PA)
 |box (x:PA)
 |bld (zero:List D) (parts:List (Nat×Nat×PA))
 |bslc (sz:Nat) (parts:List PA)
 |load (n:Nat) (ag:Bool) (p:PA)
 |stor (n:Nat) (p x:PA)
 |nilc (x:PA)
 |bin (op:BinOp) (x y:PA)
 |beq (neg:Bool) (x y:PA)
 |aeq (ks:List Nat) (neg:Bool) (x y:PA)
 |un (op:UnOp) (x:PA)
 |conv (c:PConv) (x:PA)
 |mkslc (sz bytes:Nat) (zero:D) (len cap:PA)
 |slice (sz:Nat) (x:PA) (lo hi mx:Option PA)
 |sliceA (n sz:Nat) (ag:Bool) (x:PA) (lo hi:Option PA)
 |fld (off:Nat) (p:PA)
 |fldv (off n:Nat) (ag:Bool) (x:PA)
 |idxS (sz:Nat) (x i:PA)
 |idxA (n sz:Nat) (p i:PA)
 |idx (x i:PA)
 |idxV (len sz:Nat) (ag:Bool) (x i:PA)
 |len (str:Bool) (x:PA)
 |lenA (n:Nat)
 |app (sz bytes:Nat) (s x:PA)
 |mm (isMax:Bool) (x y:PA)
 |mm3 (isMax:Bool) (x y z:PA)
 |call (f:Nat) (args:List PA)
 |icall (f:Nat) (args:List PA)
 /-- a call of what only makes one new object -/
 |mcall (f:Nat) (args:List PA)
 /-- a call of what only reads the objects of which its arguments speak -/
 |rcall (f:Nat) (args:List PA)
 |callv (x:PA) (args:List PA)
 |mkclo (f:Nat) (caps:List PA)
 |ext (x:PA) (i:Nat)
 |mkmap (sz:Nat)
 |mapup (sz:Nat) (ks:List Nat) (m k v:PA)
 |mapget (sz:Nat) (ks:List Nat) (ok:Bool) (zero:D) (m k:PA)
 /-- copying between parts of arrays in boxes -/
 |cpy (sz:Nat) (d s:PA)
 /-- what is not covered: it comes to nothing -/
 |fail
 deriving Inhabited
def yut(op:BinOp)(k:IntKind)(x y:Int):Option Int:=
 let a:=BitVec.ofInt k.bits x
 let b:=BitVec.ofInt k.bits y
 match op with
 |.and=>some (k.wrap (a &&& b).toNat)
 |.or=>some (k.wrap (a ||| b).toNat)
 |.xor=>some (k.wrap (a ^^^ b).toNat)
 |.andNot=>some (k.wrap (a &&& ~~~b).toNat)
 |_=>none
def icmp(op:BinOp)(x y:Int):Option Bool:=
 match op with
 |.eql=>some (x == y)
 |.neq=>some (x != y)
 |.lss=>some (decide (x<y))
 |.leq=>some (decide (x≤y))
 |.gtr=>some (decide (x > y))
 |.geq=>some (decide (x ≥ y))
 |_=>none
def yhm(op:BinOp)(k:IntKind)(x y:Int):Option Int:=
 match op with
 |.add=>some (k.wrap (x+y))
 |.sub=>some (k.wrap (x - y))
 |.mul=>some (k.wrap (x*y))
 |.quo=>if y=0 then none else some (k.wrap (x.tdiv y))
 |.rem=>if y=0 then none else some (x.tmod y)
 |_=>none
def yov(op:BinOp)(k:IntKind)(x y:Int):Option Int:=
 if y<0 then none else
 match op with
 |.shl=>some (k.wrap (x*2 ^ (min y.toNat k.bits)))
 |.shr=>some (x.fdiv (2 ^ (min y.toNat k.bits)))
 |_=>none
def ydk:Nat→D→D→Option Bool
 |0,.int k x,.int k' y=>if k=k' then some (x == y)else none
 |1,.bool x,.bool y=>some (x == y)
 |2,.str x,.str y=>some (x == y)
 |_,_,_=>none
def ya0:List Nat→List D→List D→Option Bool
 |[],[],[]=>some true
 |q::qs,x::xs,y::ys=>match ydk q x y,ya0 qs xs ys with
  |some a,some b=>some (a && b)
  |_,_=>none
 |_,_,_=>none
def Ydg(op:BinOp)(x y:List UInt8):Option D:=
 match op with
 |.add=>if x.length+y.length≤4294967296 then some (.str (x++y))else none
 |.eql=>some (.bool (x == y))
 |.neq=>some (.bool !(x == y))
 |.lss=>some (.bool (Op.bytesLess x y))
 |.leq=>some (.bool (Op.bytesLess x y || x == y))
 |.gtr=>some (.bool !(Op.bytesLess x y || x == y))
 |.geq=>some (.bool !(Op.bytesLess x y))
 |_=>none
def pbin(op:BinOp)(x y:D):Option D:=
 match x,y with
 |.int k a,.int k' b=>
  match op with
  |.shl | .shr=>(yov op k a b).map (.int k)
  |_=>if k=k' then
    match op with
    |.add | .sub | .mul | .quo | .rem=>(yhm op k a b).map (.int k)
    |.and | .or | .xor | .andNot=>(yut op k a b).map (.int k)
    |_=>(icmp op a b).map .bool
   else none
 |.str a,.str b=>Ydg op a b
 |_,_=>none
def pbeq(neg:Bool)(x y:D):Option D:=
 match x,y with
 |.bool a,.bool b=>some (.bool ((a == b) != neg))
 |_,_=>none
def paeq(ks:List Nat)(neg:Bool)(x y:D):Option D:=
 match x,y with
 |.agg xs,.agg ys=>(ya0 ks xs ys).map fun b=>.bool (b != neg)
 |_,_=>none
def yka(sz:Nat)(ks:List Nat)(x y:D):Option Bool:=
 if sz=2 then match ks with
  |[q]=>ydk q x y
  |_=>none
 else match x,y with
  |.agg xs,.agg ys=>ya0 ks xs ys
  |_,_=>none
def yul(sz:Nat)(ks:List Nat)(k:D):List D→Nat→Option (Option Nat)
 |[],_=>some none
 |el::r,i=>match yka sz ks k (entK sz el)with
  |some true=>some (some i)
  |some false=>yul sz ks k r (i+1)
  |none=>none
def yel(n:Int):List (Int×Nat)→Option Nat
 |[]=>none
 |p::r=>if p.1=n then some p.2 else yel n r
def ydz(st:St)(sz:Nat)(ks:List Nat)(ok:Bool)(zero m k:D):Option D:=
 match m with
 |.mapv key=>match st[key]? with
  |some o=>if o.isMap && o.sz == sz && (yka sz ks k k).isSome then match yul sz ks k o.els 0 with
    |some (some i)=>match o.els[i]? with
     |some el=>some (if ok then .tup [entV sz el,.bool true]else entV sz el)
     |none=>none
    |some none=>some (if ok then .tup [zero,.bool false]else zero)
    |none=>none
   else none
  |none=>none
 |.gmap es=>if sz=0 then match k with
   |.int .i64 n=>some (match yel n es with
    |some f=>if ok then .tup [.agg [.clo f []],.bool true]else .agg [.clo f []]
    |none=>if ok then .tup [zero,.bool false]else zero)
   |_=>none
  else none
 |_=>none
def yCg(st:St)(sz:Nat)(ks:List Nat)(m k v:D):Option St:=
 match m with
 |.mapv key=>match st[key]? with
  |some o=>if o.isMap && o.sz == sz && !o.lent && v.isCell && k.cells.length+1 == sz && k.cells.all D.isCell && yka sz ks k k == some true then match yul sz ks k o.els 0 with
    |some (some i)=>some (st.set key {o with els:=o.els.set i (.agg (k.cells++[v]))})
    |some none=>some (st.set key {o with els:=o.els++[.agg (k.cells++[v])]})
    |none=>none
   else none
  |none=>none
 |_=>none
def pun(op:UnOp)(x:D):Option D:=
 match op,x with
 |.neg,.int k n=>some (.int k (k.wrap (0 - n)))
 |.xor,.int k n=>(yut .xor k (if k.signed then -1 else k.max) n).map (.int k)
 |.not,.bool b=>some (.bool !b)
 |_,_=>none
def yKi:D→Option UInt8
 |.int .u8 n=>if 0≤n∧n<256 then some (UInt8.ofNat n.toNat)else none
 |_=>none
def ys4:List D→Option (List UInt8)
 |[]=>some []
 |d::l=>match yKi d,ys4 l with
  |some x,some y=>some (x::y)
  |_,_=>none
def yde(st:St)(c:PConv)(x:D):Option D:=
 match c,x with
 |.int k,.int _ n=>some (.int k (k.wrap n))
 |.bytes,.str s=>some (.slc 1 (s.map yaf) false)
 |.str,.slc sz els _=>if sz == 1 || els.isEmpty then(ys4 els).map .str else none
 |.str,.row key tot off len=>match yec st key tot off len with
  |some (sz,els)=>if sz == 1 then(ys4 els).map .str else none
  |none=>none
 |.same,.str s=>some (.str s)
 |_,_=>none
def yd5:D→Option Nat
 |.int _ n=>if 0≤n then some n.toNat else none
 |_=>none
def bnd(d:Option D)(dflt:Nat):Option Nat:=
 match d with
 |some x=>yd5 x
 |none=>some dflt
def yc6(st:St)(sz:Nat)(x:D)(lo hi mx:Option D):Option D:=
 match x with
 |.str s=>
  match mx,bnd lo 0,bnd hi s.length with
  |none,some l,some h=>if sz=0∧l≤h∧h≤s.length then some (.str ((s.take h).drop l))else none
  |_,_,_=>none
 |.slc sz' els t=>
  if(sz' == sz || els.isEmpty) && sz != 0 then
   match bnd lo 0,bnd hi els.length with
   |some l,some h=>
    match mx with
    |none=>if l≤h∧h≤els.length then some (.slc sz' ((els.take h).drop l) (t && h == els.length))else none
    |some m=>if l≤h∧h≤els.length∧yd5 m=some h∧hi.isSome=true then some (.slc sz' ((els.take h).drop l) true)else none
   |_,_=>none
  else none
 |.row key tot off len=>
  match st[key]? with
  |some o=>
   if o.row && o.sz == sz && o.els.length == tot && sz != 0 then
    match mx,bnd lo 0,bnd hi len with
    |none,some l,some h=>
     if l≤h∧h≤len then
      if l=0∧h=len then some x
      else if l=h then some (.slc sz [] false)
      else some (.row key tot (off+l) (h - l))
     else none
    |_,_,_=>none
   else none
  |none=>none
 |_=>none
def ypt(n sz:Nat)(ag:Bool)(x:D)(lo hi:Option D):Option D:=
 match bnd lo 0,bnd hi n with
 |some l,some h=>
  if l≤h∧h≤n then
   match x with
   |.ptr key off=>if l=h then some (.slc sz [] false)else some (.bsl key (off+l*sz) (h - l) sz ag)
   |.eptr el off=>if l=h then some (.slc sz [] false)else
    if decide (off+n*sz≤el.cells.length) && decide (0<sz) && (ag || sz == 1)then some (.slc sz (yn7 sz ag (el.cells.drop (off+l*sz)) (h - l)) (h == n))else none
   |_=>none
  else none
 |_,_=>none
def ybl(l:List D)(off:Nat)(xs:List D):List D:=l.take off++xs++l.drop (off+xs.length)
def ydd(st:St)(n:Nat)(ag:Bool)(p:D):Option D:=
 if !ag && n != 1 then none else
 match p with
 |.ptr key off=>
  match st[key]? with
  |some o=>if !o.row && decide (off+n≤o.els.length)then some (.mk ag ((o.els.drop off).take n))else none
  |none=>none
 |.rptr key tot i off=>
  match st[key]? with
  |some o=>if o.row && o.els.length == tot then
    match o.els[i]? with
    |some el=>if off+n≤el.cells.length then some (.mk ag ((el.cells.drop off).take n))else none
    |none=>none
   else none
  |none=>none
 |.eptr el off=>if off+n≤el.cells.length then some (.mk ag ((el.cells.drop off).take n))else none
 |_=>none
def yRg(el:D)(off:Nat)(ys:List D):Option D:=
 match el with
 |.agg l=>if off+ys.length≤l.length then some (.agg (ybl l off ys))else none
 |_=>match off,ys with
  |0,[z]=>some z
  |_,_=>none
def yxh(st:St)(n:Nat)(p x:D):Option St:=
 match p with
 |.ptr key off=>
  match st[key]? with
  |some o=>
   if !o.row && !o.lent && decide (off+n≤o.els.length) && x.cells.length == n && x.cells.all D.isCell then
    some (st.set key {o with els:=ybl o.els off x.cells})
   else none
  |none=>none
 |.rptr key tot i off=>
  match st[key]?,imm st x with
  |some o,some y=>
   if o.row && !o.lent && o.els.length == tot && (keys x).isEmpty then
    match o.els[i]? with
    |some el=>
     match yRg el off y.cells with
     |some el'=>if y.cells.length=n then some (st.set key {o with els:=o.els.set i el'})else none
     |none=>none
    |none=>none
   else none
  |_,_=>none
 |_=>none
def yXc(st:St)(sz key tot off len:Nat)(s:D):Option (D×St):=
 match st[key]?,ygl st s with
 |some o,some (sz2,xs)=>if o.row && !o.lent && o.els.length == tot && o.sz == 1 && sz == 1 && (sz2 == 1 || xs.isEmpty) && decide (off+len≤tot) && !yp1 s && decide (0<min len xs.length)then
   some (.int .i64 (min len xs.length:Nat),st.set key {o with els:=ybl o.els off (xs.take (min len xs.length))})else none
 |_,_=>none
def pcpy(st:St)(sz:Nat)(d s:D):Option (D×St):=
 match d,s with
 |.bsl key off n sz1 _,.bsl key2 off2 n2 sz2 _=>if n=0∨n2=0∨sz1≠sz∨sz2≠sz∨sz=0 then none else
  match st[key]?,st[key2]? with
  |some o,some o2=>if !o.row && !o.lent && !o2.row && decide (off+min n n2*sz≤o.els.length) && decide (off2+min n n2*sz≤o2.els.length) && ((o2.els.drop off2).take (min n n2*sz)).all D.isCell then
    some (.int .i64 (min n n2:Nat),st.set key {o with els:=ybl o.els off ((o2.els.drop off2).take (min n n2*sz))})
   else none
  |_,_=>none
 |.slc _ [] _,.bsl _ _ _ _ _ | .bsl _ _ _ _ _,.slc _ [] _ | .slc _ [] _,.slc _ [] _=>some (.int .i64 0,st)
 |.row key tot off len,s=>yXc st sz key tot off len s
 |_,_=>none
def papp(st:St)(sz bytes:Nat)(s x:D):Option (D×St):=
 match ygl st x with
 |none=>none
 |some (szx,xs)=>
  if !(szx == sz || xs.isEmpty) || sz == 0 then none else
  match s with
  |.row key tot off len=>
   match st[key]? with
   |some o=>
    if o.row && o.sz == sz && o.els.length == tot && off == 0 && len == tot && decide ((tot+xs.length)*bytes≤140737488355328) && decide (tot+xs.length≤4294967296)then
     some (.row key (tot+xs.length) 0 (tot+xs.length),st.set key {o with els:=o.els++xs})
    else none
   |none=>none
  |.slc sz' els true=>
   if xs.isEmpty then some (.slc sz' els true,st)
   else if(sz' == sz || els.isEmpty) && decide ((els.length+xs.length)*bytes≤140737488355328) && decide (els.length+xs.length≤4294967296)then
    some (.row st.length (els.length+xs.length) 0 (els.length+xs.length),st++[{row:=true,sz,els:=els++xs,lent:=false}])
   else none
  |_=>none
def yfw(st:St)(sz:Nat)(x i:D):Option D:=
 match yd5 i with
 |none=>none
 |some j=>
  match x with
  |.slc sz' els _=>match els[j]? with
   |some el=>if sz' == sz then some (.eptr el 0)else none
   |none=>none
  |.row key tot off len=>match st[key]? with
   |some o=>if o.row && o.sz == sz && o.els.length == tot && decide (j<len)then some (.rptr key tot (off+j) 0)else none
   |none=>none
  |.bsl key off n sz' _=>if j<n∧sz'=sz then some (.ptr key (off+j*sz))else none
  |_=>none
def pfld(st:St)(off:Nat):D→Option D
 |.ptr key o=>some (.ptr key (o+off))
 |.rptr key tot i o=>if live st key tot then some (.rptr key tot i (o+off))else none
 |.eptr el o=>some (.eptr el (o+off))
 |_=>none
def ymn(st:St)(n sz:Nat)(p i:D):Option D:=
 match yd5 i with
 |none=>none
 |some j=>if j<n then pfld st (j*sz) p else none
def pidx(x i:D):Option D:=
 match x,yd5 i with
 |.str s,some j=>match s[j]? with
  |some b=>some (yaf b)
  |none=>none
 |_,_=>none
def yzj(off n:Nat)(ag:Bool)(x:D):Option D:=
 match x with
 |.agg cs=>if decide (off+n≤cs.length) && (ag || n == 1)then some (.mk ag ((cs.drop off).take n))else none
 |_=>none
def yIf(len sz:Nat)(ag:Bool)(x i:D):Option D:=
 match yd5 i with
 |some j=>if j<len then yzj (j*sz) sz ag x else none
 |none=>none
def yar:List D→List (Nat×Nat×D)→Option (List D)
 |cs,[]=>some cs
 |cs,(off,size,d)::r=>
  if d.cells.length == size && decide (off+size≤cs.length) && d.cells.all D.isCell then yar (ybl cs off d.cells) r else none
def opnds{α β:Type}(f:α→β):Option α→Option β
 |some x=>some (f x)
 |none=>none
def hk0:D→List Nat
 |.row k _ _ _ | .bsl k _ _ _ _ | .ptr k _ | .rptr k _ _ _ | .mapv k=>[k]
 |_=>[]
def hk1:D→List Nat
 |.clo _ l=>l.flatMap hk0
 |d=>hk0 d
def hk:D→List Nat
 |.agg l=>l.flatMap hk1
 |d=>hk1 d
def Obj.see(o:Obj):Bool×Nat×List D:=(o.row,o.sz,o.els)
def sees(st:St):List Nat→List (Option (Bool×Nat×List D))
 |[]=>[]
 |k::l=>(st[k]?).map Obj.see::sees st l
def yfr(sp:List D→List (Option (Bool×Nat×List D))→Option D)(ds:List D)(st:St):Option D:=
 if(ds.flatMap hk).all (fun k=>(st[k]?).isSome)then sp ds (sees st (ds.flatMap hk))else none
structure Tbl where
 /-- what is told of it: from arguments without handles to a result without handles -/
 p:Nat→Option (List D→Option D)
 /-- carried out over the caller's own store -/
 i:Nat→Option (List D→St→Option (D×St))
 /-- what makes one new object,and does no more -/
 m:Nat→Option (List D→Option ((Nat→D)×(Nat→List Obj)))
 /-- what a round of the loop l does to the store -/
 y:Nat→List D→St→Option (D×St):=fun _ _ _=>none
 /-- functions that are ranged over -/
 r:Nat→Option ((List D→St→Option (D×St))→List D→St→Option (D×St)):=fun _=>none
 /-- functions that panic: with which value,of which type,and the store behind it -/
 x:Nat→Option (List D→St→Option (Nat×D×St)):=fun _=>none
 /-- functions that only read -/
 q:Nat→Option (List D→List (Option (Bool×Nat×List D))→Option D):=fun _=>none
abbrev Glob:=Nat→Option D
def mm1(isMax:Bool)(a b:Int):Int:=if isMax then(if b > a then b else a)else(if b<a then b else a)
def POp.exec(T:Tbl)(ρ:PA→D)(st:St):POp→Option (D×St)
 |.mov x=>some (ρ x,st)
 |.pick c x y=>match ρ c with
  |.bool b=>some (if b then ρ x else ρ y,st)
  |_=>none
 |.box x=>if(ρ x).cells.all D.isCell then some (.ptr st.length 0,st++[{row:=false,sz:=1,els:=(ρ x).cells,lent:=false}])else none
 |.bld zero parts=>(yar zero (parts.map fun p=>(p.1,p.2.1,ρ p.2.2))).map fun cs=>(.agg cs,st)
 |.bslc sz parts=>match imms st (parts.map ρ)with
  |some els=>if(els.all fun e=>e.cells.length == sz) && decide (0<sz) && decide (els.length*sz≤16777216)then some (.slc sz els true,lend ((parts.map ρ).flatMap keys) st)else none
  |none=>none
 |.load n ag p=>(ydd st n ag (ρ p)).map (·,st)
 |.stor n p x=>(yxh st n (ρ p) (ρ x)).map (.tup [],·)
 |.nilc x=>match ρ x with
  |.ptr _ _ | .eptr _ _=>some (ρ x,st)
  |.rptr key tot _ _=>if live st key tot then some (ρ x,st)else none
  |_=>none
 |.bin op x y=>(pbin op (ρ x) (ρ y)).map (·,st)
 |.beq neg x y=>(pbeq neg (ρ x) (ρ y)).map (·,st)
 |.aeq ks neg x y=>(paeq ks neg (ρ x) (ρ y)).map (·,st)
 |.un op x=>(pun op (ρ x)).map (·,st)
 |.conv c x=>(yde st c (ρ x)).map (·,st)
 |.mkslc sz bytes zero ln cp=>match yd5 (ρ ln),yd5 (ρ cp)with
  |some l,some c=>if l≤c∧c≤4294967296∧c*bytes≤140737488355328∧0<sz∧zero.cells.length=sz∧zero.cells.all D.pure1=true then
    some (.row st.length l 0 l,st++[{row:=true,sz,els:=List.replicate l zero,lent:=false}])else none
  |_,_=>none
 |.slice sz x lo hi mx=>(yc6 st sz (ρ x) (lo.map ρ) (hi.map ρ) (mx.map ρ)).map (·,st)
 |.sliceA n sz ag x lo hi=>(ypt n sz ag (ρ x) (lo.map ρ) (hi.map ρ)).map (·,st)
 |.fld off p=>(pfld st off (ρ p)).map (·,st)
 |.fldv off n ag x=>(yzj off n ag (ρ x)).map (·,st)
 |.idxS sz x i=>(yfw st sz (ρ x) (ρ i)).map (·,st)
 |.idxA n sz p i=>(ymn st n sz (ρ p) (ρ i)).map (·,st)
 |.idx x i=>(pidx (ρ x) (ρ i)).map (·,st)
 |.idxV ln sz ag x i=>(yIf ln sz ag (ρ x) (ρ i)).map (·,st)
 |.len str x=>if yp1 (ρ x) == str then(sLen st (ρ x)).map fun(n:Nat)=>(D.int .i64 (n:Int),st)else none
 |.lenA n=>some (.int .i64 (n:Int),st)
 |.app sz bytes s x=>papp st sz bytes (ρ s) (ρ x)
 |.mm isMax x y=>match ρ x,ρ y with
  |.int k a,.int _ b=>some (.int k (if isMax then(if b > a then b else a)else(if b<a then b else a)),st)
  |_,_=>none
 |.mm3 isMax x y z=>match ρ x,ρ y,ρ z with
  |.int k a,.int _ b,.int _ c=>some (.int k (mm1 isMax (mm1 isMax a b) c),st)
  |_,_,_=>none
 |.rcall f args=>match T.q f with
  |some sp=>(yfr sp (args.map ρ) st).map (·,st)
  |none=>none
 |.icall f args=>match T.i f with
  |some sp=>sp (args.map ρ) st
  |none=>none
 |.mcall f args=>match T.m f with
  |some sp=>match sp (args.map ρ)with
   |some r=>some (r.1 st.length,st++r.2 st.length)
   |none=>none
  |none=>none
 |.callv x args=>match ρ x with
  |.clo f caps=>if f<5000000 then match T.i f with
    |some sp=>sp (args.map ρ++caps) st
    |none=>none
   else if f<10000000 then match T.i (f - 5000000)with
    |some sp=>sp (caps++args.map ρ) st
    |none=>none
   else if caps.isEmpty then T.y (f - 10000000) (args.map ρ) st else none
  |_=>none
 |.mkclo f caps=>some (.clo f (caps.map ρ),st)
 |.call f args=>match T.p f,imms st (args.map ρ)with
  |some sp,some vs=>match sp vs with
   |some r=>some (r,if r.noRef then st else lend ((args.map ρ).flatMap keys) st)
   |none=>none
  |_,_=>none
 |.ext x i=>match ρ x with
  |.tup vs=>(vs[i]?).map (·,st)
  |_=>none
 |.mkmap sz=>if 1<sz∧sz≠1000003 then some (.mapv st.length,st++[{row:=false,sz,els:=[],lent:=false}])else none
 |.mapup sz ks m k v=>(yCg st sz ks (ρ m) (ρ k) (ρ v)).map (.tup [],·)
 |.mapget sz ks ok zero m k=>(ydz st sz ks ok zero (ρ m) (ρ k)).map (·,st)
 |.cpy sz d s=>pcpy st sz (ρ d) (ρ s)
 |.fail=>none
structure Foot where
 rd:List Nat
 wr:List Nat
 nu:Option Nat
 deriving Inhabited
def optL{α:Type}:Option α→List α
 |some x=>[x]
 |none=>[]
def POp.args:POp→List PA
 |.mov x | .box x | .nilc x | .un _ x | .conv _ x | .fld _ x | .fldv _ _ _ x | .len _ x | .ext x _ | .load _ _ x=>[x]
 |.pick c x y=>[c,x,y]
 |.bld _ parts=>parts.map fun p=>p.2.2
 |.bslc _ parts=>parts
 |.stor _ p x=>[p,x]
 |.bin _ x y | .beq _ x y | .aeq _ _ x y | .mm _ x y | .app _ _ x y=>[x,y]
 |.mkslc _ _ _ l c=>[l,c]
 |.slice _ x lo hi mx=>x::(optL lo++optL hi++optL mx)
 |.sliceA _ _ _ x lo hi=>x::(optL lo++optL hi)
 |.idxS _ x i | .idxA _ _ x i | .idx x i | .idxV _ _ _ x i=>[x,i]
 |.lenA _ | .fail | .mkmap _=>[]
 |.mapup _ _ m k v=>[m,k,v]
 |.mapget _ _ _ _ m k=>[m,k]
 |.cpy _ d s=>[d,s]
 |.mm3 _ x y z=>[x,y,z]
 |.call _ args | .icall _ args | .mcall _ args | .rcall _ args | .mkclo _ args=>args
 |.callv x args=>x::args
def rpK:D→List Nat
 |.rptr k _ _ _=>[k]
 |_=>[]
def appN:D→Nat→Option Nat
 |.slc _ [] _,_=>none
 |_,n=>some n
def POp.foot(ρ:PA→D)(st:St):POp→Option Foot
 |.stor _ p x=>some ⟨hk (ρ x),hk (ρ p),none⟩
 |.box _ | .mkslc _ _ _ _ _=>some ⟨[],[],some st.length⟩
 |.app _ _ s x=>match ρ s with
  |.row key _ _ _=>some ⟨hk (ρ x),[key],none⟩
  |_=>some ⟨hk (ρ x),[],appN (ρ x) st.length⟩
 |.mcall _ _=>some ⟨[],[],some st.length⟩
 |.icall _ _ | .callv _ _ | .mkmap _ | .mapup _ _ _ _ _ | .cpy _ _ _ | .fail=>none
 |.fld _ x | .nilc x | .idxA _ _ x _=>some ⟨rpK (ρ x),[],none⟩
 |p=>some ⟨(p.args.map ρ).flatMap hk,[],none⟩
def away(a b:List Nat):Bool:=a.all fun k=>!b.contains k
def yu8(m:Option Nat)(a:List Nat):Bool:=match m with
 |some n=>a.all fun k=>decide (k<n)
 |none=>true
def Foot.ok(f g:Foot):Bool:=away g.wr f.rd && away g.wr f.wr && away f.wr g.rd && yu8 f.nu g.rd && yu8 f.nu g.wr && yu8 g.nu f.rd && yu8 g.nu f.wr && (f.nu.isNone || g.nu.isNone)
def ck1:Option (Option Foot)→Option Foot→Bool
 |some (some f),some g=>f.ok g
 |_,_=>false
def ckF(fs:List (Option Foot))(g:Option Foot):List Nat→Bool
 |[]=>true
 |j::r=>ck1 fs[j]? g && ckF fs g r
def yw2:Foot:=⟨[],[],none⟩
abbrev Frame:=Nat→D
def Frame.set(fr:Frame)(s:Nat)(d:D):Frame:=fun t=>if t=s then d else fr t
def Frame.put(fr:Frame)(s:Option Nat)(d:D):Frame:=match s with
 |some s=>fr.set s d
 |none=>fr
structure PS where
 fr:Frame
 st:St
structure PI where
 dst:Option Nat
 op:POp
 guard:Option (Nat×Bool):=none
 deriving Inhabited
def rho(G:Glob)(fr:Frame):PA→D
 |.s n=>fr n
 |.c d=>d
 |.g n=>match G n with
  |some d=>.eptr d 0
  |none=>.junk
def PI.wanted(fr:Frame)(i:PI):Option Bool:=
 match i.guard with
 |none=>some true
 |some (s,want)=>match fr s with
  |.bool b=>some (b == want)
  |.tup []=>some false
  |_=>none
def PI.exec(G:Glob)(T:Tbl)(i:PI)(s:PS):Option PS:=
 match i.wanted s.fr with
 |none=>none
 |some false=>some {s with fr:=s.fr.put i.dst (.tup [])}
 |some true=>match i.op.exec T (rho G s.fr) s.st with
  |some (d,st)=>some {fr:=s.fr.put i.dst d,st}
  |none=>none
def ycg(G:Glob)(T:Tbl):List PI→PS→Option PS
 |[],s=>some s
 |i::l,s=>match i.exec G T s with
  |some s'=>ycg G T l s'
  |none=>none
def PI.foot(G:Glob)(i:PI)(s:PS):Option Foot:=match i.wanted s.fr with
 |some true=>i.op.foot (rho G s.fr) s.st
 |_=>some yw2
def anys(G:Glob)(T:Tbl):List (PI×Bool×List Nat)→List (Option Foot)→PS→Option PS
 |[],_,s=>some s
 |(i,b,cs)::l,fs,s=>if ckF fs (i.foot G s) cs then
   match i.exec G T s with
   |some s'=>anys G T l (fs++[if b then i.foot G s else none]) s'
   |none=>none
  else none
inductive Ex where
 |next
 |exit (id:Nat)
 |ret
 |panic (t:Nat) (d:D)
inductive PC where
 |skip
 |ops (l:List PI)
 /-- in any order: for each instruction,whether what it touches is asked for later,and the earlier ones that it is held against -/
 |any (l:List (PI×Bool×List Nat))
 /-- in any order,two of them making an object each: both orders of these two; what is kept behind,and that it is the same -/
 |any2 (keep:List Nat) (l1 l2:List (PI×Bool×List Nat))
 |seq (a b:PC)
 |cond (c:PA) (a b:PC)
 |block (id:Nat) (c:PC)
 |loop (keep:List Nat) (c:PC)
 /-- a loop at whose head all objects are kept -/
 |loopA (keep:List Nat) (c:PC)
 /-- a range over a function: its parameters' slots,what is assigned and what is done in a round -/
 |range (x:PA) (ps:List Nat) (a b:PC)
 /-- a region in which a call may panic -/
 |opsX (l:List PI)
 /-- a region at whose end there is a panic: with a value that is made an interface's -/
 |pan (l:List PI) (d1 t:Nat) (x:PA)
 /-- either will do -/
 |alt (a b:PC)
 |exit (id:Nat)
 |ret
 |fail
 deriving Inhabited
def low0(n:Nat):D→D
 |.row key tot off len=>if key<n then .row key tot off len else .junk
 |.bsl key off m sz ag=>if key<n then .bsl key off m sz ag else .junk
 |.ptr key off=>if key<n then .ptr key off else .junk
 |.rptr key tot i off=>if key<n then .rptr key tot i off else .junk
 |.mapv key=>if key<n then .mapv key else .junk
 |.agg _ | .tup _ | .clo _ _=>.junk
 |d=>d
def low1(n:Nat):D→D
 |.clo f l=>.clo f (l.map (low0 n))
 |d=>low0 n d
def low(n:Nat):D→D
 |.agg l=>.agg (l.map (low1 n))
 |.tup _=>.junk
 |d=>low1 n d
def mkF:List (Nat×D)→Frame
 |[],_=>.junk
 |(s,d)::r,t=>if t=s then d else mkF r t
def uniq(lo hi:Nat):List Nat→List Nat→List Nat
 |[],acc=>acc
 |k::r,acc=>uniq lo hi r (if lo≤k∧k<hi∧acc.contains k=false then acc++[k]else acc)
def yH9:List Nat→Nat→Nat→Option Nat
 |[],_,_=>none
 |k::r,b,key=>if key=k then some b else yH9 r (b+1) key
def renK(n:Nat)(σ:List Nat)(key:Nat):Option Nat:=if key<n then some key else yH9 σ n key
def ygn(f:Nat→D):Option Nat→D
 |some k=>f k
 |none=>.junk
def ren0(n:Nat)(σ:List Nat):D→D
 |.row key tot off len=>ygn (fun k=>.row k tot off len) (renK n σ key)
 |.bsl key off m sz ag=>ygn (fun k=>.bsl k off m sz ag) (renK n σ key)
 |.ptr key off=>ygn (fun k=>.ptr k off) (renK n σ key)
 |.rptr key tot i off=>ygn (fun k=>.rptr k tot i off) (renK n σ key)
 |.mapv key=>ygn .mapv (renK n σ key)
 |.agg _ | .tup _ | .clo _ _=>.junk
 |d=>d
def ren1(n:Nat)(σ:List Nat):D→D
 |.clo f l=>.clo f (l.map (ren0 n σ))
 |d=>ren0 n σ d
def ren(n:Nat)(σ:List Nat):D→D
 |.agg l=>.agg (l.map (ren1 n σ))
 |.tup _=>.junk
 |d=>ren1 n σ d
def renO(n:Nat)(σ:List Nat)(o:Obj):Obj:={o with els:=if o.row then o.els else o.els.map (ren n σ)}
def picked(n:Nat)(σ:List Nat)(st:St):St:=(st.take n).map (renO n σ)++σ.map fun k=>renO n σ (st.getD k default)
def yI4(keep:List Nat)(n:Nat)(s:PS):List Nat:=
 (keep.flatMap fun k=>hk (s.fr k))++(s.st.take n).flatMap fun o=>if o.row then []else o.els.flatMap hk
def restrictAt(keep:List Nat)(n:Nat)(σ:List Nat)(s:PS):PS:=
 {fr:=mkF (keep.map fun k=>(k,ren n σ (s.fr k))),st:=picked n σ s.st}
def restrict(keep:List Nat)(n:Nat)(s:PS):PS:=
 restrictAt keep (if n≤s.st.length then n else s.st.length) (uniq (if n≤s.st.length then n else s.st.length) s.st.length (yI4 keep (if n≤s.st.length then n else s.st.length) s) []) s
def ypx(body:PS→Option (Ex×PS))(cut:PS→PS):Nat→PS→Option (Ex×PS)
 |0,_=>none
 |n+1,s=>match body (cut s)with
  |some (.next,s')=>ypx body cut n s'
  |some (e,s')=>some (e,s')
  |none=>none
noncomputable def Yd0(keep:List Nat)(n:Nat)(s1 s2:PS):Option PS:=
 @ite _ (s1.st.length=n+2∧s2.st.length=n+2∧restrictAt keep n [n+1,n] s2=restrictAt keep n [n,n+1] s1) (Classical.propDecidable _) (some (restrictAt keep n [n,n+1] s1)) none
def setP(fr:Frame):List Nat→List D→Frame
 |p::ps,d::ds=>setP (fr.put (some p) d) ps ds
 |_,_=>fr
def recO(n:Int):Obj:=⟨false,1000003,[.int .i64 n],false⟩
def recAt(st:St)(k:Nat):Option Int:=match st[k]? with
 |some o=>if !o.row && o.sz == 1000003 then(match o.els with
  |[.int .i64 n]=>some n
  |_=>none)else none
 |none=>none
def Yl7(st:St)(k:Nat):Option Ex:=match recAt st k with
 |some n=>if n=0 then some .next else if n=1 then some .ret else none
 |none=>none
def yOh(ea eb:PS→Option (Ex×PS))(fr:Frame)(ps:List Nat)(k:Nat)(ds:List D)(st:St):Option (D×St):=
 if ds.length=ps.length then match ea ⟨setP fr ps ds,st⟩with
  |some (.next,s1)=>if recAt s1.st k=some 0 then match eb ⟨s1.fr,s1.st.set k (recO 2)⟩with
   |some (.next,s2)=>some (.bool true,s2.st.set k (recO 0))
   |some (.ret,s2)=>some (.bool false,s2.st.set k (recO 1))
   |_=>none
   else none
  |_=>none
 else none
def Yj6(T:Tbl)(l:Nat)(y:List D→St→Option (D×St)):Tbl:={T with y:=fun l' ds st=>if l'=l then y ds st else none}
def yE6(T:Tbl)(d:D)(y:List D→St→Option (D×St))(st:St):Option St:=match d with
 |.clo f caps=>if f<5000000 then match T.r f with
   |some sp=>(sp y caps st).map (·.2)
   |none=>none
  else none
 |_=>none
def keepAll(keep:List Nat)(s:PS):PS:=⟨mkF (keep.map fun k=>(k,s.fr k)),s.st⟩
def isI:D→Bool
 |.int _ _=>true
 |_=>false
def yv6:D→Bool
 |.agg l=>l.all isI
 |d=>isI d
def POp.callee(ρ:PA→D):POp→Option (Nat×List D)
 |.icall f args=>some (f,args.map ρ)
 |.callv x args=>match ρ x with
  |.clo f caps=>if f<5000000 then some (f,args.map ρ++caps)else if f<10000000 then some (f - 5000000,caps++args.map ρ)else none
  |_=>none
 |_=>none
def POp.execX(T:Tbl)(ρ:PA→D)(st:St)(p:POp):Option (Nat×D×St):=match p.callee ρ with
 |some (f,ds)=>match T.x f with
  |some sp=>sp ds st
  |none=>none
 |none=>none
def PI.execX(G:Glob)(T:Tbl)(i:PI)(s:PS):Option (Nat×D×PS):=match i.wanted s.fr with
 |some true=>(i.op.execX T (rho G s.fr) s.st).map fun r=>(r.1,r.2.1,⟨s.fr,r.2.2⟩)
 |_=>none
def yhn(G:Glob)(T:Tbl):List PI→PS→Option (Nat×D×PS)
 |[],_=>none
 |i::l,s=>match i.exec G T s with
  |some s'=>yhn G T l s'
  |none=>i.execX G T s
noncomputable def PC.exec(G:Glob)(T:Tbl)(fuel:Nat):PC→PS→Option (Ex×PS)
 |.skip,s=>some (.next,s)
 |.ops l,s=>match ycg G T l s with
  |some s'=>some (.next,s')
  |none=>none
 |.any l,s=>match anys G T l [] s with
  |some s'=>some (.next,s')
  |none=>none
 |.any2 keep l1 l2,s=>match anys G T l1 [] s,anys G T l2 [] s with
  |some s1,some s2=>(Yd0 keep s.st.length s1 s2).map fun s'=>(.next,s')
  |_,_=>none
 |.seq a b,s=>match a.exec G T fuel s with
  |some (.next,s')=>b.exec G T fuel s'
  |some (e,s')=>some (e,s')
  |none=>none
 |.cond c a b,s=>match rho G s.fr c with
  |.bool true=>a.exec G T fuel s
  |.bool false=>b.exec G T fuel s
  |_=>none
 |.block id c,s=>match c.exec G T fuel s with
  |some (.exit id',s')=>if id'=id then some (.next,s')else some (.exit id',s')
  |some (e,s')=>some (e,s')
  |none=>none
 |.loop keep c,s=>ypx (c.exec G T fuel) (restrict keep s.st.length) fuel s
 |.loopA keep c,s=>ypx (c.exec G T fuel) (keepAll keep) fuel s
 |.range x ps a b,s=>(yE6 T (rho G s.fr x) (yOh (a.exec G T fuel) (b.exec G T fuel) s.fr ps s.st.length) (s.st++[recO 0])).bind fun st'=>(Yl7 st' s.st.length).map fun e=>(e,⟨s.fr,st'.set s.st.length (recO 2)⟩)
 |.opsX l,s=>match ycg G T l s with
  |some s'=>some (.next,s')
  |none=>(yhn G T l s).map fun r=>(.panic r.1 r.2.1,r.2.2)
 |.pan l d1 t x,s=>match ycg G T l s with
  |some s'=>if yv6 (rho G s'.fr x)then some (.panic t (rho G s'.fr x),⟨s'.fr.set d1 .junk,s'.st⟩)else none
  |none=>none
 |.alt a b,s=>match a.exec G T fuel s with
  |some r=>some r
  |none=>b.exec G T fuel s
 |.exit id,s=>some (.exit id,s)
 |.ret,s=>some (.ret,s)
 |.fail,_=>none
inductive PRes where
 |tmp (t:Nat)
 |cell (t n:Nat) (ag:Bool)
 deriving Inhabited
structure PF where
 code:PC
 res:List PRes
 deriving Inhabited
def PRes.get(s:PS):PRes→Option D
 |.tmp t=>imm s.st (s.fr t)
 |.cell t n ag=>match ydd s.st n ag (s.fr t)with
  |some d=>imm s.st d
  |none=>none
def gets(s:PS):List PRes→Option (List D)
 |[]=>some []
 |r::l=>match r.get s,gets s l with
  |some x,some y=>some (x::y)
  |_,_=>none
def raws(s:PS):List PRes→Option (List D)
 |[]=>some []
 |.tmp t::l=>(raws s l).map (s.fr t::·)
 |.cell t n ag::l=>match ydd s.st n ag (s.fr t),raws s l with
  |some x,some y=>some (x::y)
  |_,_=>none
def argF(ds:List D):Frame:=fun s=>ds.getD s .junk
def pack:List D→D
 |[d]=>d
 |ds=>.tup ds
noncomputable def PF.run(G:Glob)(T:Tbl)(F:PF)(fuel:Nat)(ds:List D):Option D:=
 match F.code.exec G T fuel {fr:=argF ds,st:=[]} with
 |some (.next,s) | some (.ret,s)=>(gets s F.res).map pack
 |_=>none
noncomputable def PF.runI(G:Glob)(T:Tbl)(F:PF)(fuel:Nat)(ds:List D)(st:St):Option (D×St):=
 match F.code.exec G T fuel {fr:=argF ds,st} with
 |some (.next,s) | some (.ret,s)=>(raws s F.res).map fun l=>(pack l,s.st)
 |_=>none
noncomputable def PF.runX(G:Glob)(T:Tbl)(F:PF)(fuel:Nat)(ds:List D)(st:St):Option (Nat×D×St):=
 match F.code.exec G T fuel {fr:=argF ds,st} with
 |some (.panic t d,s)=>some (t,d,s.st)
 |_=>none
structure PFD where
 pre:List PI
 hf:PA
 ha:List PA
 code:PC
 res:List PRes
 deriving Inhabited
abbrev HTbl:=Nat→Option (Nat→D→List D→St→Option St)
def yud(f:D)(ds:List D):Option (Nat×List D):=match f with
 |.clo f caps=>if f<5000000 then some (f,ds++caps)else none
 |_=>none
noncomputable def PFD.runI(G:Glob)(T:Tbl)(H:HTbl)(F:PFD)(fuel:Nat)(ds:List D)(st:St):Option (D×St):=
 match ycg G T F.pre {fr:=argF ds,st} with
 |some s1=>match yud (rho G s1.fr F.hf) (F.ha.map (rho G s1.fr))with
  |some (f,das)=>match H f with
   |some h=>match F.code.exec G T fuel s1 with
    |some (.next,s) | some (.ret,s)=>(raws s F.res).map fun l=>(pack l,s.st)
    |some (.panic t d,s)=>match h t d das s.st with
     |some st3=>(raws ⟨s.fr,st3⟩ F.res).map fun l=>(pack l,st3)
     |none=>none
    |_=>none
   |none=>none
  |none=>none
 |none=>none
def lowR(n:Nat):D→D
 |.tup l=>.tup (l.map (low n))
 |d=>low n d
def cut(k:Nat)(st:St):St:=(st.take k).map fun o=>{o with els:=if o.row then o.els else o.els.map (low k)}
def dropped(f:List D→St→Option (D×St))(ds:List D)(st:St):Option (D×St):=
 (f ds st).map fun r=>(lowR st.length r.1,cut st.length r.2)
end Go.Proofs.YtijnglngaogdjaaGreatDoor.PI
namespace Go.Proofs.YtijnglngaogdjaaGreatDoor.PI
open Go Go.RowKit
structure Ghost where
 β:Nat→Nat
 γ:Nat→Nat
 Im:Nat→Nat→Prop
def ybm(els:List D)(i j:Nat):Option D:=match els[i]? with
 |some e=>e.cells[j]?
 |none=>none
def fnOf(f:Nat):Fn:=if f<5000000 then .func f else if f<10000000 then .func (f - 5000000)else .yield (f - 10000000)
def ysx(f:Nat)(vs:List Value):Array Value:=if 5000000≤f∧f<10000000 then vs.toArray else #[]
def yA5(f:Nat)(vs:List Value):Array Value:=if 5000000≤f∧f<10000000 then #[]else vs.toArray
theorem yv8{f:Nat}(h:f<5000000):fnOf f=.func f:=if_pos h
theorem yq9{f:Nat}(h:f<5000000)(vs:List Value):ysx f vs=#[]:=if_neg (by omega)
theorem yu3{f:Nat}(h:f<5000000)(vs:List Value):yA5 f vs=vs.toArray:=if_neg (by omega)
theorem ysw(f:Nat):ysx f []=#[]:=by unfold ysx; split <;> rfl
theorem ywe(f:Nat):yA5 f []=#[]:=by unfold yA5; split <;> rfl
theorem yPz{f:Nat}(h:f<5000000):fnOf (f+5000000)=.func f:=by
 unfold fnOf; rw[if_neg (by omega),if_pos (by omega),Nat.add_sub_cancel]
theorem yAk{f:Nat}(h:f<5000000)(vs:List Value):ysx (f+5000000) vs=vs.toArray:=if_pos ⟨by omega,by omega⟩
theorem yDb{f:Nat}(h:f<5000000)(vs:List Value):yA5 (f+5000000) vs=#[]:=if_pos ⟨by omega,by omega⟩
theorem yz4{o:Obj}(h:o.isMap=true):o.row=false:=by
 unfold Obj.isMap at h
 cases hr:o.row with
 |false=>rfl
 |true=>rw[hr]at h; cases h
theorem yF0{o:Obj}(h:o.isMap=true):1<o.sz:=by
 unfold Obj.isMap at h
 rw[Bool.and_eq_true]at h
 exact of_decide_eq_true h.2
theorem yn2{o o':Obj}(h1:o'.row=o.row)(h2:o'.sz=o.sz):o'.isMap=o.isMap:=by unfold Obj.isMap; rw[h1,h2]
theorem ycc{o:Obj}(h:o.row=true):o.isMap=false:=by unfold Obj.isMap; rw[h]; rfl
theorem yd6{o:Obj}(h:o.sz=1):o.isMap=false:=by unfold Obj.isMap; rw[h]; simp
def aggV:Value→Bool
 |.agg _=>true
 |_=>false
def spM:Go.Obj→Bool
 |.map es _=>match es[0]? with
  |some e=>aggV e.val
  |none=>false
 |_=>false
theorem yLh(es:Array MapEntry)(c:Nat):spM (.map es c)=(match es[0]? with | some e=>aggV e.val | none=>false):=(rfl)
def yNw(ents:Array MapEntry)(es:List (Int×Nat)):Prop:=
 (∀ e∈ents.toList,∃ n f,e.key=.int .i64 n∧e.val=.agg #[.func (.func f) #[] #[]]∧f<5000000∧yel n es=some f)∧∀ n f,yel n es=some f→∃ e∈ents.toList,e.key=.int .i64 n
inductive RepV (w:World) (g:Ghost) (st:St):D→Value→Prop
 |int (k:IntKind) (n:Int):RepV w g st (.int k n) (.int k n)
 |bool (b:Bool):RepV w g st (.bool b) (.bool b)
 |str (s:List UInt8):RepV w g st (.str s) (.string ⟨s.toArray⟩)
 |nilp:RepV w g st .nilp (.pointer none)
 |nilm:RepV w g st .nilm (.map none)
 |gmap (es:List (Int×Nat)) (b:Nat) (ents:Array MapEntry) (clock:Nat):w.heap[b]?=some (.map ents clock)→spM (.map ents clock)=true→yNw ents es→RepV w g st (.gmap es) (.map (some b))
 |slcE (sz:Nat) (t:Bool) (a:Option Addr) (cap:Nat):(t=true→cap=0)→RepV w g st (.slc sz [] t) (.slice a 0 cap)
 |slc (els:List D) (t:Bool) (b off cap sz:Nat) (val:Nat→Nat→Value):els≠[]→0<sz→(∀ e∈els,e.cells.length=sz)→(∀ i j d,ybm els i j=some d→d.pure1=true)→els.length≤cap→(t=true→cap=els.length)→
   (∀ i j d,ybm els i j=some d→g.Im b (off+i*sz+j)∧w.cell? ⟨b,off+i*sz+j,none⟩=some (val i j))→
   (∀ i j d,ybm els i j=some d→RepV w g st d (val i j))→RepV w g st (.slc sz els t) (.slice (some ⟨b,off,none⟩) els.length cap)
 |row (key tot off len:Nat) (o:Obj) (v:Value):v.oneCell'=true→st[key]?=some o→o.row=true→tot≤o.els.length→
   (tot=o.els.length→v=.slice (some ⟨g.β key,off*o.sz,none⟩) len (g.γ key - off)∧off+len≤tot)→RepV w g st (.row key tot off len) v
 |bsl (key off n sz:Nat) (ag:Bool) (o:Obj) (cap:Nat):st[key]?=some o→o.row=false→o.sz=1→n≤cap→RepV w g st (.bsl key off n sz ag) (.slice (some ⟨g.β key,off,none⟩) n cap)
 |mapv (key:Nat) (o:Obj):st[key]?=some o→o.isMap=true→RepV w g st (.mapv key) (.map (some (g.β key)))
 |ptr (key off:Nat) (o:Obj):st[key]?=some o→o.row=false→o.sz=1→RepV w g st (.ptr key off) (.pointer (some ⟨g.β key,off,none⟩))
 |rptr (key tot i off:Nat) (o:Obj) (v:Value):v.oneCell'=true→st[key]?=some o→o.row=true→tot≤o.els.length→
   (tot=o.els.length→v=.pointer (some ⟨g.β key,i*o.sz+off,none⟩))→RepV w g st (.rptr key tot i off) v
 |eptr (el:D) (off b o:Nat) (val:Nat→Value):(∀ (j:Nat) (d:D),el.cells[j]?=some d→d.pure1=true)→
   (∀ (j:Nat) (d:D),el.cells[j]?=some d→g.Im b (o+j)∧w.cell? ⟨b,o+j,none⟩=some (val j))→
   (∀ (j:Nat) (d:D),el.cells[j]?=some d→RepV w g st d (val j))→RepV w g st (.eptr el off) (.pointer (some ⟨b,o+off,none⟩))
 |agg (ds:List D) (vs:List Value):ds.length=vs.length→(∀ (i:Nat) (d:D) (v:Value),ds[i]?=some d→vs[i]?=some v→RepV w g st d v)→RepV w g st (.agg ds) (.agg vs.toArray)
 |tup (ds:List D) (vs:List Value):ds.length=vs.length→(∀ (i:Nat) (d:D) (v:Value),ds[i]?=some d→vs[i]?=some v→RepV w g st d v)→RepV w g st (.tup ds) (.tuple vs.toArray)
 |clo (f:Nat) (ds:List D) (vs:List Value):ds.length=vs.length→(∀ (i:Nat) (d:D) (v:Value),ds[i]?=some d→vs[i]?=some v→RepV w g st d v)→RepV w g st (.clo f ds) (.func (fnOf f) (ysx f vs) (yA5 f vs))
 |nilf:RepV w g st .nilf .nilFunc
 |junk (v:Value):RepV w g st .junk v
def Evo(g:Ghost)(st:St)(g':Ghost)(st':St):Prop:=
 ∀ (k:Nat) (o:Obj),st[k]?=some o→∃ o',st'[k]?=some o'∧o'.row=o.row∧o'.sz=o.sz∧o.els.length≤o'.els.length∧
  (o'.els.length=o.els.length→g'.β k=g.β k∧g'.γ k=g.γ k)∧(o.row=false→g'.β k=g.β k)
theorem Evo.refl(g:Ghost)(st:St):Evo g st g st:=fun _ o h=>⟨o,h,rfl,rfl,Nat.le_refl _,fun _=>⟨rfl,rfl⟩,fun _=>rfl⟩
theorem Evo.trans{g g1 g2:Ghost}{st st1 st2:St}(h:Evo g st g1 st1)(h':Evo g1 st1 g2 st2):Evo g st g2 st2:=by
 intro k o ho
 obtain⟨o1,h1,r1,s1,l1,b1,c1⟩:=h k o ho
 obtain⟨o2,h2,r2,s2,l2,b2,c2⟩:=h' k o1 h1
 refine⟨o2,h2,r2.trans r1,s2.trans s1,Nat.le_trans l1 l2,fun e=>?_,fun e=>?_⟩
 ·have e1:o1.els.length=o.els.length:=by omega
  have e2:o2.els.length=o1.els.length:=by omega
  exact⟨(b2 e2).1.trans (b1 e1).1,(b2 e2).2.trans (b1 e1).2⟩
 ·exact(c2 (r1.trans e)).trans (c1 e)
structure ImLe (w:World) (g:Ghost) (w':World) (g':Ghost):Prop where
 im:∀ b o,g.Im b o→g'.Im b o∧w'.cell? ⟨b,o,none⟩=w.cell? ⟨b,o,none⟩
 kp:∀ (b:Nat) (o:Go.Obj),w.heap[b]?=some o→spM o=true→w'.heap[b]?=some o
theorem ImLe.refl(w:World)(g:Ghost):ImLe w g w g:=⟨fun _ _ h=>⟨h,rfl⟩,fun _ _ h _=>h⟩
theorem ImLe.trans{w w1 w2:World}{g g1 g2:Ghost}(h:ImLe w g w1 g1)(h':ImLe w1 g1 w2 g2):ImLe w g w2 g2:=
 ⟨fun b o hb=>⟨(h'.im b o (h.im b o hb).1).1,(h'.im b o (h.im b o hb).1).2.trans (h.im b o hb).2⟩,fun b o hb hs=>h'.kp b o (h.kp b o hb hs) hs⟩
theorem RepV.mono{w w':World}{g g':Ghost}{st st':St}{d:D}{v:Value}(hI:ImLe w g w' g')(hE:Evo g st g' st')(h:RepV w g st d v):RepV w' g' st' d v:=by
 induction h with
 |int k n=>exact .int k n
 |bool b=>exact .bool b
 |str s=>exact .str s
 |nilp=>exact .nilp
 |nilm=>exact .nilm
 |gmap es b ents clock h1 h2 h3=>exact .gmap es b ents clock (hI.kp _ _ h1 h2) h2 h3
 |slcE sz t a cap h=>exact .slcE sz t a cap h
 |slc els t b off cap sz val h1 h2 h3 h3' h4 h5 h6 _ ih=>
  exact .slc els t b off cap sz val h1 h2 h3 h3' h4 h5 (fun i j d hd=>⟨(hI.im _ _ (h6 i j d hd).1).1,(hI.im _ _ (h6 i j d hd).1).2.trans (h6 i j d hd).2⟩) ih
 |row key tot off len o v h0 h1 h2 h3 h4=>
  obtain⟨o',e1,e2,e3,e4,e5,_⟩:=hE key o h1
  refine .row key tot off len o' v h0 e1 (e2.trans h2) (Nat.le_trans h3 e4) fun e=>?_
  have e6:tot=o.els.length:=by omega
  have e7:=e5 (by omega)
  rw[e3,e7.1,e7.2]
  exact h4 e6
 |bsl key off n sz ag o cap h1 h2 h3 h4=>
  obtain⟨o',e1,e2,e3,_,_,e6⟩:=hE key o h1
  rw[← e6 h2]
  exact .bsl key off n sz ag o' cap e1 (e2.trans h2) (e3.trans h3) h4
 |mapv key o h1 h2=>
  obtain⟨o',e1,e2,e3,_,_,e6⟩:=hE key o h1
  rw[← e6 (yz4 h2)]
  exact .mapv key o' e1 (by rw[yn2 e2 e3]; exact h2)
 |ptr key off o h1 h2 h3=>
  obtain⟨o',e1,e2,e3,_,_,e6⟩:=hE key o h1
  rw[← e6 h2]
  exact .ptr key off o' e1 (e2.trans h2) (e3.trans h3)
 |rptr key tot i off o v h0 h1 h2 h3 h4=>
  obtain⟨o',e1,e2,e3,e4,e5,_⟩:=hE key o h1
  refine .rptr key tot i off o' v h0 e1 (e2.trans h2) (Nat.le_trans h3 e4) fun e=>?_
  have e6:tot=o.els.length:=by omega
  have e7:=e5 (by omega)
  rw[e3,e7.1]
  exact h4 e6
 |eptr el off b o val h0 h1 _ ih=>exact .eptr el off b o val h0 (fun j d hd=>⟨(hI.im _ _ (h1 j d hd).1).1,(hI.im _ _ (h1 j d hd).1).2.trans (h1 j d hd).2⟩) ih
 |agg ds vs h _ ih=>exact .agg ds vs h ih
 |tup ds vs h _ ih=>exact .tup ds vs h ih
 |clo f ds vs h _ ih=>exact .clo f ds vs h ih
 |nilf=>exact .nilf
 |junk v=>exact .junk v
def Yiy(base:Nat)(w:World)(b:Nat)(o:Obj):Prop:=
 ∃ (r:Loop) (n:Int),w.heap[b]?=some (.loop r)∧base≤b∧o.els=[.int .i64 n]∧(n=0→r.state=.ready∧r.pending=none)∧(n=1→r.state=.done∧r.pending=some .ret)
def MapAt0(base:Nat)(w:World)(g:Ghost)(st:St)(b:Nat)(o:Obj):Prop:=
 ∃ es clock,w.heap[b]?=some (.map es clock)∧base≤b∧es.size=o.els.length∧(∀ x∈o.els,∃ l,x=.agg l∧l.length=o.sz)∧
  (∀ (i:Nat) (e:MapEntry) (el:D),es[i]?=some e→o.els[i]?=some el→RepV w g st (entK o.sz el) e.key∧RepV w g st (entV o.sz el) e.val)∧spM (.map es clock)=false
theorem MapAt0.mono{base:Nat}{w w':World}{g g':Ghost}{st st':St}{b b':Nat}{o:Obj}(h:MapAt0 base w g st b o)(hI:ImLe w g w' g')(hE:Evo g st g' st')(hb:b'=b)(hw:w'.heap[b]?=w.heap[b]?):MapAt0 base w' g' st' b' o:=by
 obtain⟨es,clock,h1,h2,h3,h4,h5,h6⟩:=h
 subst hb
 exact⟨es,clock,hw.trans h1,h2,h3,h4,fun i e el he hel=>⟨(h5 i e el he hel).1.mono hI hE,(h5 i e el he hel).2.mono hI hE⟩,h6⟩
def MapAt(base:Nat)(w:World)(g:Ghost)(st:St)(b:Nat)(o:Obj):Prop:=if o.sz=1000003 then Yiy base w b o else MapAt0 base w g st b o
theorem MapAt.mono{base:Nat}{w w':World}{g g':Ghost}{st st':St}{b b':Nat}{o:Obj}(h:MapAt base w g st b o)(hI:ImLe w g w' g')(hE:Evo g st g' st')(hb:b'=b)(hw:w'.heap[b]?=w.heap[b]?):MapAt base w' g' st' b' o:=by
 unfold MapAt at h ⊢
 split at h
 ·rename_i hs
  rw[if_pos hs]
  obtain⟨r,n,h1,h2⟩:=h
  subst hb
  exact⟨r,n,hw.trans h1,h2⟩
 ·rename_i hs
  rw[if_neg hs]
  exact MapAt0.mono h hI hE hb hw
theorem MapAt.old{base:Nat}{w:World}{g:Ghost}{st:St}{b:Nat}{o:Obj}(h:MapAt base w g st b o)(hs:o.sz≠1000003):MapAt0 base w g st b o:=by
 unfold MapAt at h; rwa [if_neg hs]at h
theorem MapAt.rec'{base:Nat}{w:World}{g:Ghost}{st:St}{b:Nat}{o:Obj}(h:MapAt base w g st b o)(hs:o.sz=1000003):Yiy base w b o:=by
 unfold MapAt at h; rwa [if_pos hs]at h
theorem MapAt.at{base:Nat}{w:World}{g:Ghost}{st:St}{b:Nat}{o:Obj}(h:MapAt base w g st b o):∃ x,w.heap[b]?=some x∧base≤b∧spM x=false∧(∀ C e z,x≠.cells C e z)∧(∀ ds,x≠.deferred ds)∧∀ i,w.cell? ⟨b,i,none⟩=none:=by
 by_cases hs:o.sz=1000003
 ·obtain⟨r,n,h1,h2,_⟩:=h.rec' hs
  exact⟨_,h1,h2,rfl,fun _ _ _ h=>(by cases h),fun _ h=>(by cases h),fun i=>by simp only[World.cell?,h1]⟩
 ·obtain⟨es,c,h1,h2,_,_,_,h6⟩:=h.old hs
  exact⟨_,h1,h2,h6,fun _ _ _ h=>(by cases h),fun _ h=>(by cases h),fun i=>by simp only[World.cell?,h1]⟩
structure SR (base:Nat) (w:World) (g:Ghost) (st:St):Prop where
 mp:∀ (k:Nat) (o:Obj),st[k]?=some o→o.isMap=true→MapAt base w g st (g.β k) o
 blk:∀ (k:Nat) (o:Obj),st[k]?=some o→o.isMap=false→∃ C e,w.heap[g.β k]?=some (.cells C e (0,0))∧base≤g.β k∧0<o.sz∧(∀ x∈o.els,x.cells.length=o.sz)∧
  (if o.row then C.size=g.γ k*o.sz∧o.els.length≤g.γ k∧g.γ k≤maxLen else C.size=o.els.length∧o.sz=1∧∀ x∈o.els,x.cells=[x])∧
  (∀ i j d,ybm o.els i j=some d→(o.row=true→d.pure1=true)∧∃ v,C[i*o.sz+j]?=some v∧RepV w g st d v)
 inj:∀ (k k':Nat) (o o':Obj),st[k]?=some o→st[k']?=some o'→g.β k=g.β k'→k=k'
 im:∀ b o,g.Im b o→(w.cell? ⟨b,o,none⟩).isSome=true
 dis:∀ (k:Nat) (o:Obj) (x:Nat),st[k]?=some o→g.Im (g.β k) x→o.lent=true∧x<o.els.length*o.sz
 size:base≤w.heap.size
def special:Go.Obj→Bool
 |.loop _ | .deferred _=>true
 |_=>false
def sameSp:Go.Obj→Go.Obj→Prop
 |.loop r,x=>∃ s p,x=.loop {r with state:=s,pending:=p}
 |y,x=>x=y
theorem sameSp.refl(o:Go.Obj):sameSp o o:=by
 cases o <;> first | rfl | exact⟨_,_,rfl⟩
theorem sameSp.trans{a b c:Go.Obj}(h:sameSp a b)(h':sameSp b c):sameSp a c:=by
 cases a with
 |loop r=>
  obtain⟨s,p,rfl⟩:=h
  obtain⟨s',p',rfl⟩:=h'
  exact⟨s',p',rfl⟩
 |_=>cases h; exact h'
theorem sameSp.special{a b:Go.Obj}(h:sameSp a b)(hs:special a=true):special b=true:=by
 cases a with
 |loop r=>obtain⟨s,p,rfl⟩:=h; rfl
 |_=>cases h; exact hs
def Kept(w':World)(b:Nat)(o:Go.Obj):Prop:=∃ o',w'.heap[b]?=some o'∧sameSp o o'
theorem Kept.same{w':World}{b:Nat}{o:Go.Obj}(h:w'.heap[b]?=some o):Kept w' b o:=⟨o,h,sameSp.refl o⟩
theorem Kept.def'{w':World}{b:Nat}{ds:Option (List Deferred)}(h:Kept w' b (.deferred ds)):w'.heap[b]?=some (.deferred ds):=by
 obtain⟨o',h1,h2⟩:=h
 cases h2; exact h1
theorem Kept.loop{w':World}{b:Nat}{r:Loop}(h:Kept w' b (.loop r)):∃ s p,w'.heap[b]?=some (.loop {r with state:=s,pending:=p}):=by
 obtain⟨o',h1,s,p,rfl⟩:=h
 exact⟨s,p,h1⟩
structure Go1 (base:Nat) (w:World) (g:Ghost) (st:St) (w':World) (g':Ghost) (st':St):Prop where
 sr:SR base w' g' st'
 evo:Evo g st g' st'
 im:ImLe w g w' g'
 new:∀ b o,g'.Im b o→g.Im b o∨base≤b
 below:Below base w w'
 kp:∀ (b:Nat) (o:Go.Obj),w.heap[b]?=some o→special o=true→Kept w' b o
theorem Go1.refl{base:Nat}{w:World}{g:Ghost}{st:St}(h:SR base w g st):Go1 base w g st w g st:=
 ⟨h,Evo.refl _ _,ImLe.refl _ _,fun _ _ h=>.inl h,Below.refl _ _,fun _ _ h _=>.same h⟩
theorem Go1.trans{base:Nat}{w w1 w2:World}{g g1 g2:Ghost}{st st1 st2:St}(h:Go1 base w g st w1 g1 st1)(h':Go1 base w1 g1 st1 w2 g2 st2):Go1 base w g st w2 g2 st2:=
 ⟨h'.sr,h.evo.trans h'.evo,h.im.trans h'.im,fun b o hb=>by
  rcases h'.new b o hb with x | x
  ·exact h.new b o x
  ·exact .inr x,h.below.trans h'.below,fun b o hb hs=>(let⟨_,h1,h2⟩:=h.kp b o hb hs; let⟨o2,h3,h4⟩:=h'.kp b _ h1 (h2.special hs); ⟨o2,h3,h2.trans h4⟩)⟩
theorem Go1.rep{base:Nat}{w w':World}{g g':Ghost}{st st':St}(h:Go1 base w g st w' g' st'){d:D}{v:Value}(hr:RepV w g st d v):RepV w' g' st' d v:=hr.mono h.im h.evo
theorem RepV.oneCell{w:World}{g:Ghost}{st:St}{d:D}{v:Value}(h:RepV w g st d v)(hd:d.isCell=true):v.oneCell'=true:=by
 cases h <;> first
  |rfl
  |assumption
  |(simp[D.isCell]at hd; done)
theorem yhx{d:D}(h:d.pure1=true):d.isCell=true:=by
 cases d <;> simp_all [D.pure1,D.isCell]
theorem cell?_add(w:World)(b o n:Nat):w.cell? ((⟨b,o,none⟩:Addr).add n)=w.cell? ⟨b,o+n,none⟩:=by
 unfold Addr.add
 split
 ·rename_i h; subst h; rfl
 ·rfl
theorem yg9(b o n:Nat):((⟨b,o,none⟩:Addr).add n)=⟨b,o+n,none⟩:=by
 unfold Addr.add
 split
 ·rename_i h; subst h; rfl
 ·rfl
end Go.Proofs.YtijnglngaogdjaaGreatDoor.PI
namespace Go.Proofs.YtijnglngaogdjaaGreatDoor.PI
open Go Go.RowKit
def upd(f:Nat→Nat)(k v:Nat):Nat→Nat:=fun i=>if i=k then v else f i
theorem ybn(f:Nat→Nat)(k v:Nat):upd f k v k=v:=by simp[upd]
theorem ycu(f:Nat→Nat)(k v i:Nat)(h:i≠k):upd f k v i=f i:=by simp[upd,h]
theorem SR.lt{base:Nat}{w:World}{g:Ghost}{st:St}(h:SR base w g st){k:Nat}{o:Obj}(hk:st[k]?=some o):g.β k<w.heap.size:=by
 cases hm:o.isMap with
 |false=>
  obtain⟨C,e,hb,_⟩:=h.blk k o hk hm
  exact(Array.getElem?_eq_some_iff.1 hb).1
 |true=>
  obtain⟨x,hb,_⟩:=(h.mp k o hk hm).at
  exact(Array.getElem?_eq_some_iff.1 hb).1
theorem SR.based{base:Nat}{w:World}{g:Ghost}{st:St}(h:SR base w g st){k:Nat}{o:Obj}(hk:st[k]?=some o):base≤g.β k:=by
 cases hm:o.isMap with
 |false=>
  obtain⟨C,e,hb,h1,_⟩:=h.blk k o hk hm
  exact h1
 |true=>
  obtain⟨x,hb,h1,_⟩:=(h.mp k o hk hm).at
  exact h1
theorem SR.im_lt{base:Nat}{w:World}{g:Ghost}{st:St}(h:SR base w g st){b o:Nat}(hi:g.Im b o):b<w.heap.size:=by
 have:=h.im b o hi
 cases hc:w.cell? ⟨b,o,none⟩with
 |none=>simp[hc]at this
 |some v=>exact World.block_lt_of_cell? w _ hc
theorem yki{a b:List D}{i j:Nat}(h:i<a.length):ybm (a++b) i j=ybm a i j:=by
 simp[ybm,List.getElem?_append_left h]
structure Beside (w w':World):Prop where
 os:w'.os=w.os
 tape:w'.tape=w.tape
 output:w'.output=w.output
 size:w.heap.size≤w'.heap.size
theorem SR.update{base:Nat}{w w':World}{g:Ghost}{st:St}(h:SR base w g st){k:Nat}{o o':Obj}{B c:Nat}{C C':Array Value}{e e':TypeId}
  (hk:st[k]?=some o) (hm:o.isMap=false) (hC0:w.heap[g.β k]?=some (.cells C e (0,0)))
  (hB:(B=g.β k∧c=g.γ k)∨(w.heap.size≤B∧o.els.length<o'.els.length∧o.row=true))
  (hrow:o'.row=o.row) (hsz:o'.sz=o.sz) (hle:o.els.length≤o'.els.length) (hlent:o'.lent=o.lent)
  (hx:∀ x∈o'.els,x.cells.length=o.sz)
  (hbes:Beside w w') (hsame:∀ b,b<w.heap.size→b≠B→w'.heap[b]?=w.heap[b]?)
  (hblk:w'.heap[B]?=some (.cells C' e' (0,0)))
  (hIm:B=g.β k→∀ x,g.Im (g.β k) x→C'[x]?=C[x]?)
  (hC:if o.row then C'.size=c*o.sz∧o'.els.length≤c∧c≤maxLen else C'.size=o'.els.length∧o.sz=1∧∀ x∈o'.els,x.cells=[x])
  (hrep:∀ i j d,ybm o'.els i j=some d→(o.row=true→d.pure1=true)∧∃ v,C'[i*o.sz+j]?=some v∧RepV w g st d v) :
  Go1 base w g st w' {g with β:=upd g.β k B,γ:=upd g.γ k c} (st.set k o'):=by
 have hklt:k<st.length:=(List.getElem?_eq_some_iff.1 hk).1
 obtain⟨C1,e1,hb1,hbase1,hszp,hx1,hC1,hrep1⟩:=h.blk k o hk hm
 have hbB:base≤B:=by
  rcases hB with⟨rfl,_⟩ | ⟨hB,_⟩
  ·exact hbase1
  ·exact Nat.le_trans h.size hB
 have hImLe:ImLe w g w' {g with β:=upd g.β k B,γ:=upd g.γ k c}:=by
  refine⟨?_,fun b x hb hs=>?_⟩
  case refine_2=>
   have hlt:b<w.heap.size:=(Array.getElem?_eq_some_iff.1 hb).1
   have hne:b≠B:=by
    intro e
    rcases hB with⟨rfl,_⟩ | ⟨hB,_⟩
    ·rw[e,hC0]at hb
     obtain rfl:=Option.some.inj hb
     simp[spM]at hs
    ·omega
   rw[hsame b hlt hne]; exact hb
  intro b x hb
  refine⟨hb,?_⟩
  have hlt:=h.im_lt hb
  by_cases e0:b=B
  ·subst e0
   rcases hB with⟨e2,_⟩ | ⟨hB,_⟩
   ·subst e2
    simp only[World.cell?,hblk,hC0]
    simpa using hIm rfl x hb
   ·omega
  ·simp only[World.cell?,hsame b hlt e0]
 have hEvo:Evo g st {g with β:=upd g.β k B,γ:=upd g.γ k c} (st.set k o'):=by
  intro k1 o1 hk1
  by_cases e0:k1=k
  ·subst e0
   obtain rfl:o1=o:=Option.some.inj (hk1.symm.trans hk)
   refine⟨o',by simp[hklt],hrow,hsz,hle,fun hl=>?_,fun hr=>?_⟩
   ·rcases hB with⟨rfl,rfl⟩ | ⟨_,hl',_⟩
    ·simp[ybn]
    ·omega
   ·rcases hB with⟨rfl,rfl⟩ | ⟨_,_,hr'⟩
    ·simp[ybn]
    ·rw[hr]at hr'; cases hr'
  ·refine⟨o1,by rw[List.getElem?_set_ne (by omega)]; exact hk1,rfl,rfl,Nat.le_refl _,fun _=>?_,fun _=>?_⟩
   ·simp[ycu _ _ _ _ e0]
   ·simp[ycu _ _ _ _ e0]
 have hKp:∀ (b:Nat) (o:Go.Obj),w.heap[b]?=some o→special o=true→w'.heap[b]?=some o:=by
  intro b x hb hs
  have hlt:b<w.heap.size:=(Array.getElem?_eq_some_iff.1 hb).1
  have hne:b≠B:=by
   intro e
   rcases hB with⟨rfl,_⟩ | ⟨hB,_⟩
   ·rw[e,hC0]at hb
    obtain rfl:=Option.some.inj hb
    simp[special]at hs
   ·omega
  rw[hsame b hlt hne]; exact hb
 refine⟨⟨?_,?_,?_,?_,?_,Nat.le_trans h.size hbes.size⟩,hEvo,hImLe,fun b x hb=>.inl hb,?_,fun b x hb hs=>.same (hKp b x hb hs)⟩
 ·intro k1 o1 hk1 hm1
  by_cases e0:k1=k
  ·subst e0
   obtain rfl:o1=o':=by rw[List.getElem?_set_self hklt]at hk1; exact(Option.some.inj hk1).symm
   rw[yn2 hrow hsz,hm]at hm1; cases hm1
  ·rw[List.getElem?_set_ne (by omega)]at hk1
   have hne:g.β k1≠B:=by
    rcases hB with⟨rfl,_⟩ | ⟨hB,_⟩
    ·exact fun e3=>e0 (h.inj _ _ _ _ hk1 hk e3)
    ·have:=h.lt hk1; omega
   exact(h.mp k1 o1 hk1 hm1).mono hImLe hEvo (ycu _ _ _ _ e0) (hsame _ (h.lt hk1) hne)
 ·intro k1 o1 hk1 hm1
  by_cases e0:k1=k
  ·subst e0
   obtain rfl:o1=o':=by rw[List.getElem?_set_self hklt]at hk1; exact(Option.some.inj hk1).symm
   refine⟨C',e',by simpa[ybn]using hblk,by simpa[ybn]using hbB,by omega,fun x hxx=>(hx x hxx).trans hsz.symm,?_,?_⟩
   ·rw[hrow,hsz]
    simpa[ybn]using hC
   ·intro i j d hd
    obtain⟨h1',v,h2,h3⟩:=hrep i j d hd
    exact⟨fun e=>h1' (hrow.symm.trans e),v,by rw[hsz]; exact h2,h3.mono hImLe hEvo⟩
  ·rw[List.getElem?_set_ne (by omega)]at hk1
   obtain⟨C2,e2,hb2,hbase2,hszp2,hx2,hC2,hrep2⟩:=h.blk k1 o1 hk1 hm1
   have hne:g.β k1≠B:=by
    rcases hB with⟨rfl,_⟩ | ⟨hB,_⟩
    ·exact fun e3=>e0 (h.inj _ _ _ _ hk1 hk e3)
    ·have:=h.lt hk1; omega
   refine⟨C2,e2,?_,?_,hszp2,hx2,?_,?_⟩
   ·show w'.heap[upd g.β k B k1]?=_
    rw[ycu _ _ _ _ e0,hsame _ (h.lt hk1) hne]; exact hb2
   ·show base≤upd g.β k B k1
    rw[ycu _ _ _ _ e0]; exact hbase2
   ·simpa[ycu _ _ _ _ e0]using hC2
   ·intro i j d hd
    obtain⟨h1',v,h2,h3⟩:=hrep2 i j d hd
    exact⟨h1',v,h2,h3.mono hImLe hEvo⟩
 ·intro k1 k2 o1 o2 hk1 hk2 he
  simp only at he
  by_cases e1:k1=k <;> by_cases e2:k2=k
  ·omega
  ·exfalso
   subst e1
   rw[ybn,ycu _ _ _ _ e2]at he
   rw[List.getElem?_set_ne (by omega)]at hk2
   rcases hB with⟨rfl,_⟩ | ⟨hB,_⟩
   ·exact e2 (h.inj _ _ _ _ hk hk2 he).symm
   ·have:=h.lt hk2; omega
  ·exfalso
   subst e2
   rw[ybn,ycu _ _ _ _ e1]at he
   rw[List.getElem?_set_ne (by omega)]at hk1
   rcases hB with⟨rfl,_⟩ | ⟨hB,_⟩
   ·exact e1 (h.inj _ _ _ _ hk1 hk he)
   ·have:=h.lt hk1; omega
  ·rw[ycu _ _ _ _ e1,ycu _ _ _ _ e2]at he
   rw[List.getElem?_set_ne (by omega)]at hk1 hk2
   exact h.inj _ _ _ _ hk1 hk2 he
 ·intro b x hb
  rw[(hImLe.im b x hb).2]
  exact h.im b x hb
 ·intro k1 o1 x hk1 hi
  simp only at hi
  by_cases e0:k1=k
  ·subst e0
   obtain rfl:o1=o':=by rw[List.getElem?_set_self hklt]at hk1; exact(Option.some.inj hk1).symm
   rw[ybn]at hi
   rcases hB with⟨rfl,_⟩ | ⟨hB,_⟩
   ·obtain⟨h1,h2⟩:=h.dis _ _ _ hk hi
    refine⟨by rw[hlent]; exact h1,Nat.lt_of_lt_of_le h2 ?_⟩
    rw[hsz]
    exact Nat.mul_le_mul_right _ hle
   ·have:=h.im_lt hi; omega
  ·rw[List.getElem?_set_ne (by omega)]at hk1
   rw[ycu _ _ _ _ e0]at hi
   exact h.dis _ _ _ hk1 hi
 ·refine⟨hbes.os,hbes.tape,hbes.output,hbes.size,fun b hb=>?_⟩
  exact hsame b (Nat.lt_of_lt_of_le hb h.size) (by omega)
theorem SR.push{base:Nat}{w w':World}{g:Ghost}{st:St}(h:SR base w g st){o:Obj}{c:Nat}{C:Array Value}{e:TypeId}
  (hbes:Beside w w') (hsame:∀ b,b<w.heap.size→w'.heap[b]?=w.heap[b]?)
  (hblk:w'.heap[w.heap.size]?=some (.cells C e (0,0)))
  (hm:o.isMap=false) (hszp:0<o.sz) (hx:∀ x∈o.els,x.cells.length=o.sz)
  (hC:if o.row then C.size=c*o.sz∧o.els.length≤c∧c≤maxLen else C.size=o.els.length∧o.sz=1∧∀ x∈o.els,x.cells=[x])
  (hrep:∀ i j d,ybm o.els i j=some d→(o.row=true→d.pure1=true)∧∃ v,C[i*o.sz+j]?=some v∧RepV w g st d v) :
  Go1 base w g st w' {g with β:=upd g.β st.length w.heap.size,γ:=upd g.γ st.length c} (st++[o]):=by
 have hImLe:ImLe w g w' {g with β:=upd g.β st.length w.heap.size,γ:=upd g.γ st.length c}:=by
  refine⟨?_,fun b o hb _=>by rw[hsame b (Array.getElem?_eq_some_iff.1 hb).1]; exact hb⟩
  intro b x hb
  refine⟨hb,?_⟩
  have hlt:=h.im_lt hb
  simp only[World.cell?,hsame b hlt]
 have hlt:∀ (k1:Nat) (o1:Obj),st[k1]?=some o1→k1<st.length:=fun k1 o1 h1=>(List.getElem?_eq_some_iff.1 h1).1
 have hEvo:Evo g st {g with β:=upd g.β st.length w.heap.size,γ:=upd g.γ st.length c} (st++[o]):=by
  intro k1 o1 hk1
  have:=hlt _ _ hk1
  refine⟨o1,by rw[List.getElem?_append_left this]; exact hk1,rfl,rfl,Nat.le_refl _,fun _=>?_,fun _=>?_⟩
  ·simp[ycu _ _ _ _ (show k1≠st.length by omega)]
  ·simp[ycu _ _ _ _ (show k1≠st.length by omega)]
 have cases':∀ (k1:Nat) (o1:Obj),(st++[o])[k1]?=some o1→(k1<st.length∧st[k1]?=some o1)∨(k1=st.length∧o1=o):=by
  intro k1 o1 h1
  by_cases h2:k1<st.length
  ·rw[List.getElem?_append_left h2]at h1; exact .inl ⟨h2,h1⟩
  ·rw[List.getElem?_append_right (by omega)]at h1
   by_cases h3:k1 - st.length=0
   ·rw[h3]at h1; simp at h1; exact .inr ⟨by omega,h1.symm⟩
   ·rw[List.getElem?_eq_none (by simp; omega)]at h1; cases h1
 refine⟨⟨?_,?_,?_,?_,?_,Nat.le_trans h.size hbes.size⟩,hEvo,hImLe,fun b x hb=>.inl hb,?_,fun b o hb _=>.same (by rw[hsame b (Array.getElem?_eq_some_iff.1 hb).1]; exact hb)⟩
 ·intro k1 o1 hk1 hm1
  rcases cases' k1 o1 hk1 with⟨h1,h2⟩ | ⟨rfl,rfl⟩
  ·exact(h.mp k1 o1 h2 hm1).mono hImLe hEvo (ycu _ _ _ _ (by omega)) (hsame _ (h.lt h2))
  ·rw[hm]at hm1; cases hm1
 ·intro k1 o1 hk1 hm1
  rcases cases' k1 o1 hk1 with⟨h1,h2⟩ | ⟨rfl,rfl⟩
  ·obtain⟨C2,e2,hb2,hbase2,hszp2,hx2,hC2,hrep2⟩:=h.blk k1 o1 h2 hm1
   have e0:k1≠st.length:=by omega
   refine⟨C2,e2,?_,?_,hszp2,hx2,?_,?_⟩
   ·show w'.heap[upd g.β st.length w.heap.size k1]?=_
    rw[ycu _ _ _ _ e0,hsame _ (h.lt h2)]; exact hb2
   ·show base≤upd g.β st.length w.heap.size k1
    rw[ycu _ _ _ _ e0]; exact hbase2
   ·simpa[ycu _ _ _ _ e0]using hC2
   ·intro i j d hd
    obtain⟨h1',v,h2,h3⟩:=hrep2 i j d hd
    exact⟨h1',v,h2,h3.mono hImLe hEvo⟩
  ·refine⟨C,e,by simpa[ybn]using hblk,by simpa[ybn]using h.size,hszp,hx,by simpa[ybn]using hC,?_⟩
   intro i j d hd
   obtain⟨h1',v,h2,h3⟩:=hrep i j d hd
   exact⟨h1',v,h2,h3.mono hImLe hEvo⟩
 ·intro k1 k2 o1 o2 hk1 hk2 he
  simp only at he
  rcases cases' k1 o1 hk1 with⟨h1,h1'⟩ | ⟨rfl,_⟩ <;> rcases cases' k2 o2 hk2 with⟨h2,h2'⟩ | ⟨rfl,_⟩
  ·rw[ycu _ _ _ _ (by omega),ycu _ _ _ _ (by omega)]at he
   exact h.inj _ _ _ _ h1' h2' he
  ·rw[ycu _ _ _ _ (by omega),ybn]at he
   have:=h.lt h1'; omega
  ·rw[ybn,ycu _ _ _ _ (by omega)]at he
   have:=h.lt h2'; omega
  ·rfl
 ·intro b x hb
  rw[(hImLe.im b x hb).2]
  exact h.im b x hb
 ·intro k1 o1 x hk1 hi
  simp only at hi
  rcases cases' k1 o1 hk1 with⟨h1,h1'⟩ | ⟨rfl,rfl⟩
  ·rw[ycu _ _ _ _ (by omega)]at hi
   exact h.dis _ _ _ h1' hi
  ·rw[ybn]at hi
   have:=h.im_lt hi; omega
 ·exact⟨hbes.os,hbes.tape,hbes.output,hbes.size,fun b hb=>hsame b (Nat.lt_of_lt_of_le hb h.size)⟩
theorem SR.updM{base:Nat}{w w':World}{g:Ghost}{st:St}(h:SR base w g st){k:Nat}{o o':Obj}
  (hk:st[k]?=some o) (hm:o.isMap=true) (hrow:o'.row=o.row) (hsz:o'.sz=o.sz) (hle:o.els.length≤o'.els.length)
  (hbes:Beside w w') (hsame:∀ b,b≠g.β k→w'.heap[b]?=w.heap[b]?) 
  (hat:∀ st',ImLe w g w' g→Evo g st g st'→MapAt base w' g st' (g.β k) o') (hkept:∀ x,w.heap[g.β k]?=some x→special x=true→Kept w' (g.β k) x) :
  Go1 base w g st w' g (st.set k o'):=by
 have hklt:k<st.length:=(List.getElem?_eq_some_iff.1 hk).1
 obtain⟨x0,hb1,hbase1,hsp0,_,_,hc0⟩:=(h.mp k o hk hm).at
 have hnim:∀ x,¬ g.Im (g.β k) x:=fun x hi=>by
  have:=h.im _ _ hi
  rw[hc0]at this
  cases this
 have hImLe:ImLe w g w' g:=by
  refine⟨?_,fun b x hb hs=>?_⟩
  case refine_2=>
   have hne:b≠g.β k:=by
    intro e
    rw[e,hb1]at hb
    obtain rfl:=Option.some.inj hb
    rw[hsp0]at hs; cases hs
   rw[hsame b hne]; exact hb
  intro b x hb
  refine⟨hb,?_⟩
  by_cases e0:b=g.β k
  ·subst e0; exact absurd hb (hnim x)
  ·simp only[World.cell?,hsame b e0]
 have hEvo:Evo g st g (st.set k o'):=by
  intro k1 o1 hk1
  by_cases e0:k1=k
  ·subst e0
   obtain rfl:o1=o:=Option.some.inj (hk1.symm.trans hk)
   exact⟨o',by simp[hklt],hrow,hsz,hle,fun _=>⟨rfl,rfl⟩,fun _=>rfl⟩
  ·exact⟨o1,by rw[List.getElem?_set_ne (by omega)]; exact hk1,rfl,rfl,Nat.le_refl _,fun _=>⟨rfl,rfl⟩,fun _=>rfl⟩
 refine⟨⟨?_,?_,?_,?_,?_,Nat.le_trans h.size hbes.size⟩,hEvo,hImLe,fun b x hb=>.inl hb,?_,?_⟩
 ·intro k1 o1 hk1 hm1
  by_cases e0:k1=k
  ·subst e0
   obtain rfl:o1=o':=by rw[List.getElem?_set_self hklt]at hk1; exact(Option.some.inj hk1).symm
   exact hat _ hImLe hEvo
  ·rw[List.getElem?_set_ne (by omega)]at hk1
   exact(h.mp k1 o1 hk1 hm1).mono hImLe hEvo rfl (hsame _ (fun e3=>e0 (h.inj _ _ _ _ hk1 hk e3)))
 ·intro k1 o1 hk1 hm1
  by_cases e0:k1=k
  ·subst e0
   obtain rfl:o1=o':=by rw[List.getElem?_set_self hklt]at hk1; exact(Option.some.inj hk1).symm
   rw[yn2 hrow hsz,hm]at hm1; cases hm1
  ·rw[List.getElem?_set_ne (by omega)]at hk1
   obtain⟨C2,e2,hb2,hbase2,hszp2,hx2,hC2,hrep2⟩:=h.blk k1 o1 hk1 hm1
   refine⟨C2,e2,(hsame _ (fun e3=>e0 (h.inj _ _ _ _ hk1 hk e3))).trans hb2,hbase2,hszp2,hx2,hC2,?_⟩
   intro i j d hd
   obtain⟨h1',v,h2,h3⟩:=hrep2 i j d hd
   exact⟨h1',v,h2,h3.mono hImLe hEvo⟩
 ·intro k1 k2 o1 o2 hk1 hk2 he
  by_cases e1:k1=k <;> by_cases e2:k2=k
  ·omega
  ·subst e1
   rw[List.getElem?_set_ne (by omega)]at hk2
   exact h.inj _ _ _ _ hk hk2 he
  ·subst e2
   rw[List.getElem?_set_ne (by omega)]at hk1
   exact h.inj _ _ _ _ hk1 hk he
  ·rw[List.getElem?_set_ne (by omega)]at hk1 hk2
   exact h.inj _ _ _ _ hk1 hk2 he
 ·intro b x hb
  rw[(hImLe.im b x hb).2]
  exact h.im b x hb
 ·intro k1 o1 x hk1 hi
  by_cases e0:k1=k
  ·subst e0; exact absurd hi (hnim x)
  ·rw[List.getElem?_set_ne (by omega)]at hk1
   exact h.dis _ _ _ hk1 hi
 ·exact⟨hbes.os,hbes.tape,hbes.output,hbes.size,fun b hb=>hsame b (by omega)⟩
 ·intro b x hb hs
  by_cases hne:b=g.β k
  ·subst hne; exact hkept x hb hs
  ·exact .same (by rw[hsame b hne]; exact hb)
theorem SR.updMap{base:Nat}{w w':World}{g:Ghost}{st:St}(h:SR base w g st){k:Nat}{o o':Obj}{es':Array MapEntry}{clock':Nat}
  (hk:st[k]?=some o) (hm:o.isMap=true) (hns:o.sz≠1000003) (hrow:o'.row=o.row) (hsz:o'.sz=o.sz) (hle:o.els.length≤o'.els.length) (_:o'.lent=o.lent)
  (hbes:Beside w w') (hsame:∀ b,b≠g.β k→w'.heap[b]?=w.heap[b]?) (hblk:w'.heap[g.β k]?=some (.map es' clock'))
  (hlen:es'.size=o'.els.length) (hx:∀ x∈o'.els,∃ l,x=.agg l∧l.length=o.sz)
  (hrep:∀ (i:Nat) (e:MapEntry) (el:D),es'[i]?=some e→o'.els[i]?=some el→RepV w g st (entK o.sz el) e.key∧RepV w g st (entV o.sz el) e.val) (hsp:spM (.map es' clock')=false) :
  Go1 base w g st w' g (st.set k o'):=by
 obtain⟨es,clock,hb1,hbase1,_⟩:=(h.mp k o hk hm).old hns
 refine h.updM hk hm hrow hsz hle hbes hsame (fun st' hI hE=>?_) (fun x hb hs=>?_)
 ·unfold MapAt
  rw[if_neg (by rw[hsz]; exact hns)]
  refine⟨es',clock',hblk,hbase1,hlen,by rw[hsz]; exact hx,?_,hsp⟩
  rw[hsz]
  exact fun i e el he hel=>⟨(hrep i e el he hel).1.mono hI hE,(hrep i e el he hel).2.mono hI hE⟩
 ·rw[hb1]at hb
  obtain rfl:=Option.some.inj hb
  simp[special]at hs
theorem SR.updRec{base:Nat}{w w':World}{g:Ghost}{st:St}(h:SR base w g st){k:Nat}{o:Obj}{r:Loop}{n:Int}{s:_}{p:Option Code}
  (hk:st[k]?=some o) (hrow:o.row=false) (hsz:o.sz=1000003)
  (hbes:Beside w w') (hsame:∀ b,b≠g.β k→w'.heap[b]?=w.heap[b]?) (hr:w.heap[g.β k]?=some (.loop r)) (hblk:w'.heap[g.β k]?=some (.loop {r with state:=s,pending:=p}))
  (h0:n=0→s=.ready∧p=none) (h1:n=1→s=.done∧p=some .ret) :
  Go1 base w g st w' g (st.set k (recO n)):=by
 have hm:o.isMap=true:=by simp[Obj.isMap,hrow,hsz]
 obtain⟨r0,n0,hb1,hbase1,hels,_⟩:=(h.mp k o hk hm).rec' hsz
 refine h.updM hk hm (by rw[hrow]; rfl) (by rw[hsz]; rfl) (by rw[hels]; exact Nat.le_refl _) hbes hsame (fun st' hI hE=>?_) (fun x hb hs=>?_)
 ·unfold MapAt
  rw[if_pos (show(recO n).sz=1000003 from rfl)]
  exact⟨_,n,hblk,hbase1,rfl,h0,h1⟩
 ·rw[hr]at hb
  obtain rfl:=Option.some.inj hb
  exact⟨_,hblk,_,_,rfl⟩
theorem SR.pushM{base:Nat}{w w':World}{g:Ghost}{st:St}(h:SR base w g st){o:Obj}{B:Nat}(hB:w.heap.size≤B)
  (hbes:Beside w w') (hsame:∀ b,b<w.heap.size→w'.heap[b]?=w.heap[b]?) (hm:o.isMap=true)
  (hat:∀ g' st',MapAt base w' g' st' B o) :
  Go1 base w g st w' {g with β:=upd g.β st.length B} (st++[o]):=by
 have hImLe:ImLe w g w' {g with β:=upd g.β st.length B}:=by
  refine⟨?_,fun b o hb _=>by rw[hsame b (Array.getElem?_eq_some_iff.1 hb).1]; exact hb⟩
  intro b x hb
  refine⟨hb,?_⟩
  have hlt:=h.im_lt hb
  simp only[World.cell?,hsame b hlt]
 have hlt:∀ (k1:Nat) (o1:Obj),st[k1]?=some o1→k1<st.length:=fun k1 o1 h1=>(List.getElem?_eq_some_iff.1 h1).1
 have hEvo:Evo g st {g with β:=upd g.β st.length B} (st++[o]):=by
  intro k1 o1 hk1
  have:=hlt _ _ hk1
  refine⟨o1,by rw[List.getElem?_append_left this]; exact hk1,rfl,rfl,Nat.le_refl _,fun _=>?_,fun _=>?_⟩
  ·simp[ycu _ _ _ _ (show k1≠st.length by omega)]
  ·simp[ycu _ _ _ _ (show k1≠st.length by omega)]
 have cases':∀ (k1:Nat) (o1:Obj),(st++[o])[k1]?=some o1→(k1<st.length∧st[k1]?=some o1)∨(k1=st.length∧o1=o):=by
  intro k1 o1 h1
  by_cases h2:k1<st.length
  ·rw[List.getElem?_append_left h2]at h1; exact .inl ⟨h2,h1⟩
  ·rw[List.getElem?_append_right (by omega)]at h1
   by_cases h3:k1 - st.length=0
   ·rw[h3]at h1; simp at h1; exact .inr ⟨by omega,h1.symm⟩
   ·rw[List.getElem?_eq_none (by simp; omega)]at h1; cases h1
 refine⟨⟨?_,?_,?_,?_,?_,Nat.le_trans h.size hbes.size⟩,hEvo,hImLe,fun b x hb=>.inl hb,?_,fun b o hb _=>.same (by rw[hsame b (Array.getElem?_eq_some_iff.1 hb).1]; exact hb)⟩
 ·intro k1 o1 hk1 hm1
  rcases cases' k1 o1 hk1 with⟨h1,h2⟩ | ⟨rfl,rfl⟩
  ·exact(h.mp k1 o1 h2 hm1).mono hImLe hEvo (ycu _ _ _ _ (by omega)) (hsame _ (h.lt h2))
  ·show MapAt base w' _ _ (upd g.β st.length B st.length) _
   rw[ybn]; exact hat _ _
 ·intro k1 o1 hk1 hm1
  rcases cases' k1 o1 hk1 with⟨h1,h2⟩ | ⟨rfl,rfl⟩
  ·obtain⟨C2,e2,hb2,hbase2,hszp2,hx2,hC2,hrep2⟩:=h.blk k1 o1 h2 hm1
   have e0:k1≠st.length:=by omega
   refine⟨C2,e2,?_,?_,hszp2,hx2,hC2,?_⟩
   ·show w'.heap[upd g.β st.length B k1]?=_
    rw[ycu _ _ _ _ e0,hsame _ (h.lt h2)]; exact hb2
   ·show base≤upd g.β st.length B k1
    rw[ycu _ _ _ _ e0]; exact hbase2
   ·intro i j d hd
    obtain⟨h1',v,h2,h3⟩:=hrep2 i j d hd
    exact⟨h1',v,h2,h3.mono hImLe hEvo⟩
  ·rw[hm]at hm1; cases hm1
 ·intro k1 k2 o1 o2 hk1 hk2 he
  simp only at he
  rcases cases' k1 o1 hk1 with⟨h1,h1'⟩ | ⟨rfl,_⟩ <;> rcases cases' k2 o2 hk2 with⟨h2,h2'⟩ | ⟨rfl,_⟩
  ·rw[ycu _ _ _ _ (by omega),ycu _ _ _ _ (by omega)]at he
   exact h.inj _ _ _ _ h1' h2' he
  ·rw[ycu _ _ _ _ (by omega),ybn]at he
   have:=h.lt h1'; omega
  ·rw[ybn,ycu _ _ _ _ (by omega)]at he
   have:=h.lt h2'; omega
  ·rfl
 ·intro b x hb
  rw[(hImLe.im b x hb).2]
  exact h.im b x hb
 ·intro k1 o1 x hk1 hi
  simp only at hi
  rcases cases' k1 o1 hk1 with⟨h1,h1'⟩ | ⟨rfl,rfl⟩
  ·rw[ycu _ _ _ _ (by omega)]at hi
   exact h.dis _ _ _ h1' hi
  ·rw[ybn]at hi
   have:=h.im_lt hi; omega
 ·exact⟨hbes.os,hbes.tape,hbes.output,hbes.size,fun b hb=>hsame b (Nat.lt_of_lt_of_le hb h.size)⟩
theorem SR.pushMap{base:Nat}{w w':World}{g:Ghost}{st:St}(h:SR base w g st){o:Obj}{clock:Nat}
  (hbes:Beside w w') (hsame:∀ b,b<w.heap.size→w'.heap[b]?=w.heap[b]?) (hblk:w'.heap[w.heap.size]?=some (.map #[] clock)) (hm:o.isMap=true) (hns:o.sz≠1000003) (hels:o.els=[]) :
  Go1 base w g st w' {g with β:=upd g.β st.length w.heap.size} (st++[o]):=by
 refine h.pushM (Nat.le_refl _) hbes hsame hm fun g' st'=>?_
 unfold MapAt
 rw[if_neg hns]
 refine⟨#[],clock,hblk,h.size,by rw[hels]; rfl,(by rw[hels]; exact fun x hx=>(by cases hx)),?_,rfl⟩
 intro i e el he
 simp at he
theorem SR.pushRec{base:Nat}{w w':World}{g:Ghost}{st:St}(h:SR base w g st){B:Nat}{r:Loop}(hB:w.heap.size≤B)
  (hbes:Beside w w') (hsame:∀ b,b<w.heap.size→w'.heap[b]?=w.heap[b]?) (hblk:w'.heap[B]?=some (.loop r)) (h0:r.state=.ready∧r.pending=none) :
  Go1 base w g st w' {g with β:=upd g.β st.length B} (st++[recO 0]):=by
 refine h.pushM hB hbes hsame rfl fun g' st'=>?_
 unfold MapAt
 rw[if_pos (show(recO 0).sz=1000003 from rfl)]
 exact⟨r,0,hblk,Nat.le_trans h.size hB,rfl,fun _=>h0,fun e=>by cases e⟩
theorem SR.more{base:Nat}{w w':World}{g:Ghost}{st:St}(h:SR base w g st){Im':Nat→Nat→Prop}
  (hbes:Beside w w') (hsame:∀ b,b<w.heap.size→w'.heap[b]?=w.heap[b]?)
  (hle:∀ b o,g.Im b o→Im' b o) (hnew:∀ b o,Im' b o→g.Im b o∨w.heap.size≤b) (him:∀ b o,Im' b o→(w'.cell? ⟨b,o,none⟩).isSome=true) :
  Go1 base w g st w' {g with Im:=Im'} st:=by
 have hImLe:ImLe w g w' {g with Im:=Im'}:=by
  refine⟨?_,fun b o hb _=>by rw[hsame b (Array.getElem?_eq_some_iff.1 hb).1]; exact hb⟩
  intro b x hb
  refine⟨hle b x hb,?_⟩
  have hlt:=h.im_lt hb
  simp only[World.cell?,hsame b hlt]
 have hEvo:Evo g st {g with Im:=Im'} st:=fun k o hk=>⟨o,hk,rfl,rfl,Nat.le_refl _,fun _=>⟨rfl,rfl⟩,fun _=>rfl⟩
 refine⟨⟨fun k1 o1 hk1 hm1=>(h.mp k1 o1 hk1 hm1).mono hImLe hEvo rfl (hsame _ (h.lt hk1)),?_,h.inj,him,?_,Nat.le_trans h.size hbes.size⟩,hEvo,hImLe,fun b x hb=>?_,?_,fun b o hb _=>.same (by rw[hsame b (Array.getElem?_eq_some_iff.1 hb).1]; exact hb)⟩
 ·intro k1 o1 hk1 hm1
  obtain⟨C2,e2,hb2,hbase2,hszp2,hx2,hC2,hrep2⟩:=h.blk k1 o1 hk1 hm1
  refine⟨C2,e2,(hsame _ (h.lt hk1)).trans hb2,hbase2,hszp2,hx2,hC2,?_⟩
  intro i j d hd
  obtain⟨h1',v,h2,h3⟩:=hrep2 i j d hd
  exact⟨h1',v,h2,h3.mono hImLe hEvo⟩
 ·intro k1 o1 x hk1 hi
  rcases hnew _ _ hi with h1 | h1
  ·exact h.dis _ _ _ hk1 h1
  ·have:=h.lt hk1; simp only at h1; omega
 ·rcases hnew _ _ hb with h1 | h1
  ·exact .inl h1
  ·exact .inr (Nat.le_trans h.size h1)
 ·exact⟨hbes.os,hbes.tape,hbes.output,hbes.size,fun b hb=>hsame b (Nat.lt_of_lt_of_le hb h.size)⟩
theorem SR.lend1{base:Nat}{w:World}{g:Ghost}{st:St}(h:SR base w g st)(k:Nat) :
  Go1 base w g st w {g with Im:=fun b x=>g.Im b x∨∃ o,st[k]?=some o∧o.isMap=false∧b=g.β k∧x<o.els.length*o.sz} (st.modify k fun o=>{o with lent:=true}):=by
 have hImLe:ImLe w g w {g with Im:=fun b x=>g.Im b x∨∃ o,st[k]?=some o∧o.isMap=false∧b=g.β k∧x<o.els.length*o.sz}:=⟨fun b x hb=>⟨.inl hb,rfl⟩,fun _ _ h _=>h⟩
 have get:∀ (k1:Nat) (o1:Obj),(st.modify k fun o=>{o with lent:=true})[k1]?=some o1→∃ o0,st[k1]?=some o0∧o1=(if k1=k then {o0 with lent:=true} else o0):=by
  intro k1 o1 h1
  rw[List.getElem?_modify]at h1
  cases h0:st[k1]? with
  |none=>simp[h0]at h1
  |some o0=>
   refine⟨o0,rfl,?_⟩
   simp[h0]at h1
   rw[← h1]
   by_cases e:k1=k
   ·simp[e]
   ·simp[e,show ¬ k=k1 by omega]
 have hEvo:Evo g st {g with Im:=fun b x=>g.Im b x∨∃ o,st[k]?=some o∧o.isMap=false∧b=g.β k∧x<o.els.length*o.sz} (st.modify k fun o=>{o with lent:=true}):=by
  intro k1 o1 hk1
  refine⟨if k=k1 then {o1 with lent:=true} else o1,by rw[List.getElem?_modify,hk1]; split <;> simp_all,?_,?_,?_,fun _=>⟨rfl,rfl⟩,fun _=>rfl⟩ <;> split <;> simp
 refine⟨⟨?_,?_,?_,?_,?_,h.size⟩,hEvo,hImLe,fun b x hb=>?_,Below.refl _ _,fun _ _ h _=>.same h⟩
 ·intro k1 o1 hk1 hm1
  obtain⟨o0,h0,he⟩:=get k1 o1 hk1
  have f1:o1.sz=o0.sz:=by rw[he]; split <;> rfl
  have f2:o1.els=o0.els:=by rw[he]; split <;> rfl
  have f3:o1.row=o0.row:=by rw[he]; split <;> rfl
  have hmp:=h.mp k1 o0 h0 ((yn2 f3 f1).symm.trans hm1)
  unfold MapAt at hmp ⊢
  rw[f1]
  split
  ·rename_i hs
   rw[if_pos hs]at hmp
   obtain⟨r,n,a1,a2,a3,a4⟩:=hmp
   exact⟨r,n,a1,a2,by rw[f2]; exact a3,a4⟩
  rename_i hs
  rw[if_neg hs]at hmp
  obtain⟨es,clock,a1,a2,a3,a4,a5,a6⟩:=hmp
  refine⟨es,clock,a1,a2,by rw[f2]; exact a3,by rw[f1,f2]; exact a4,?_,a6⟩
  rw[f1,f2]
  exact fun i e el he hel=>⟨(a5 i e el he hel).1.mono hImLe hEvo,(a5 i e el he hel).2.mono hImLe hEvo⟩
 ·intro k1 o1 hk1 hm1
  obtain⟨o0,h0,he⟩:=get k1 o1 hk1
  have f1:o1.sz=o0.sz:=by rw[he]; split <;> rfl
  have f2:o1.els=o0.els:=by rw[he]; split <;> rfl
  have f3:o1.row=o0.row:=by rw[he]; split <;> rfl
  obtain⟨C2,e2,hb2,hbase2,hszp2,hx2,hC2,hrep2⟩:=h.blk k1 o0 h0 ((yn2 f3 f1).symm.trans hm1)
  refine⟨C2,e2,hb2,hbase2,by rw[f1]; exact hszp2,by rw[f1,f2]; exact hx2,by rw[f1,f2,f3]; exact hC2,?_⟩
  intro i j d hd
  rw[f2]at hd
  obtain⟨h1',v,h2,h3⟩:=hrep2 i j d hd
  exact⟨fun e=>h1' (f3.symm.trans e),v,by rw[f1]; exact h2,h3.mono hImLe hEvo⟩
 ·intro k1 k2 o1 o2 hk1 hk2 he
  obtain⟨p1,q1,_⟩:=get k1 o1 hk1
  obtain⟨p2,q2,_⟩:=get k2 o2 hk2
  exact h.inj _ _ _ _ q1 q2 he
 ·intro b x hb
  rcases hb with hb | ⟨o,ho,hm,rfl,hx⟩
  ·exact h.im b x hb
  ·obtain⟨C2,e2,hb2,hbase2,hszp2,hx2,hC2,hrep2⟩:=h.blk k o ho hm
   simp only[World.cell?,hb2]
   have:x<C2.size:=by
    split at hC2
    ·rw[hC2.1]; exact Nat.lt_of_lt_of_le hx (Nat.mul_le_mul_right _ hC2.2.1)
    ·rw[hC2.1]; rw[hC2.2.1]at hx; simpa using hx
   simp[this]
 ·intro k1 o1 x hk1 hi
  obtain⟨o0,h0,he⟩:=get k1 o1 hk1
  have f1:o1.sz=o0.sz:=by rw[he]; split <;> rfl
  have f2:o1.els=o0.els:=by rw[he]; split <;> rfl
  rw[f1,f2]
  rcases hi with hi | ⟨o,ho,_,he2,hx⟩
  ·have:=h.dis _ _ _ h0 hi
   refine⟨?_,this.2⟩
   rw[he]; split
   ·rfl
   ·exact this.1
  ·obtain rfl:k1=k:=h.inj _ _ _ _ h0 ho he2
   obtain rfl:o0=o:=Option.some.inj (h0.symm.trans ho)
   exact⟨by rw[he]; simp,hx⟩
 ·rcases hb with hb | ⟨o,ho,_,rfl,hx⟩
  ·exact .inl hb
  ·exact .inr (h.based ho)
theorem SR.lend{base:Nat}{w:World}:∀ (ks:List Nat) {g:Ghost} {st:St},SR base w g st→
  ∃ g',Go1 base w g st w g' (PI.lend ks st)∧g'.β=g.β∧g'.γ=g.γ∧
   (∀ k∈ks,∀ o,st[k]?=some o→o.isMap=false→∀ x,x<o.els.length*o.sz→g'.Im (g.β k) x)
 |[],g,st,h=>⟨g,Go1.refl h,rfl,rfl,fun _ hk=>by cases hk⟩
 |k::r,g,st,h=>by
  have h1:=h.lend1 k
  obtain⟨g',h2,hb,hc,hi⟩:=SR.lend r h1.sr
  refine⟨g',h1.trans h2,hb,hc,?_⟩
  intro k1 hk1 o ho hm x hx
  rcases List.mem_cons.1 hk1 with rfl | hk1
  ·exact(h2.im.im _ _ (.inr ⟨o,ho,hm,rfl,hx⟩)).1
  ·obtain⟨o',ho',e1,e2,e3,_⟩:=h1.evo k1 o ho
   refine hi k1 hk1 o' ho' ((yn2 e1 e2).trans hm) x ?_
   have:o'.els=o.els:=by
    rw[List.getElem?_modify,ho]at ho'
    simp at ho'
    rw[← ho']; split <;> rfl
   rw[this,e2]; exact hx
theorem SR.drew{base:Nat}{w:World}{g:Ghost}{st:St}(h:SR base w g st)(n:Nat):Go1 base w g st {w with drawn:=n} g st:=by
 have:=h.more (w':={w with drawn:=n}) (Im':=g.Im) ⟨rfl,rfl,rfl,Nat.le_refl _⟩ (fun _ _=>rfl) (fun _ _ h=>h) (fun _ _ h=>.inl h) (fun b o hb=>h.im b o hb)
 exact this
end Go.Proofs.YtijnglngaogdjaaGreatDoor.PI
namespace Go.Proofs.YtijnglngaogdjaaGreatDoor.PI
open Go Go.RowKit
def yQb:Value→Option D
 |.bool b=>some (.bool b)
 |.int k n=>some (.int k n)
 |.string s=>some (.str s.data.toList)
 |.pointer none=>some .nilp
 |.map none=>some .nilm
 |.nilFunc=>some .nilf
 |.slice none 0 0=>some (.slc 0 [] true)
 |_=>none
def yC5:List Value→Option (List D)
 |[]=>some []
 |v::l=>match yQb v,yC5 l with
  |some x,some y=>some (x::y)
  |_,_=>none
def yw3:Value→Option D
 |.agg cs=>(yC5 cs.toList).map .agg
 |.tuple _=>none
 |v=>yQb v
def trA:Operand→Option PA
 |.tmp t=>some (.s t)
 |.const v=>(yw3 v).map .c
 |.global g=>some (.g g)
 |.func f=>if f<5000000 then some (.c (.clo f []))else none
def trAs:List Operand→Option (List PA)
 |[]=>some []
 |x::l=>match trA x,trAs l with
  |some a,some b=>some (a::b)
  |_,_=>none
def trO:Option Operand→Option (Option PA)
 |none=>some none
 |some x=>(trA x).map some
def agOf(P:Program)(t:TypeId):Option Bool:=match P.underlying t with
 |some (.struct _) | some (.array _ _)=>some true
 |some _=>some false
 |none=>none
def szOf(P:Program)(t:TypeId):Option Nat:=(P.info? t).map (·.size)
def zrOf(P:Program)(t:TypeId):Option D:=match P.info? t with
 |some i=>match i.zero with
  |some v=>yw3 v
  |none=>none
 |none=>none
theorem yC6{w:World}{g:Ghost}{st:St}{v:Value}{d:D}(h:yQb v=some d):RepV w g st d v∧d.pure1=true:=by
 unfold yQb at h
 split at h <;> simp at h <;> subst h
 ·exact⟨.bool _,rfl⟩
 ·exact⟨.int _ _,rfl⟩
 ·refine⟨?_,rfl⟩
  rename_i s
  have:s=⟨s.data.toList.toArray⟩:=by rw[Array.toArray_toList]
  conv=>rhs; rw[this]
  exact .str _
 ·exact⟨.nilp,rfl⟩
 ·exact⟨.nilm,rfl⟩
 ·exact⟨.nilf,rfl⟩
 ·exact⟨.slcE 0 true none 0 (fun _=>rfl),rfl⟩
theorem yC4{w:World}{g:Ghost}{st:St}:∀ {vs:List Value} {ds:List D},yC5 vs=some ds→ds.length=vs.length∧(∀ (i:Nat) d v,ds[i]?=some d→vs[i]?=some v→RepV w g st d v)∧∀ d∈ds,d.pure1=true
 |[],ds,h=>by simp[yC5]at h; subst h; exact⟨rfl,fun i d v h=>by simp at h,fun d h=>by cases h⟩
 |v::l,ds,h=>by
  unfold yC5 at h
  split at h
  ·rename_i x y hx hy
   simp at h; subst h
   obtain⟨h1,h2,h3⟩:=yC4 (w:=w) (g:=g) (st:=st) hy
   have h4:=yC6 (w:=w) (g:=g) (st:=st) hx
   refine⟨by simp[h1],?_,?_⟩
   ·intro i d u hd hu
    cases i with
    |zero=>simp at hd hu; subst hd; subst hu; exact h4.1
    |succ i=>simp at hd hu; exact h2 i d u hd hu
   ·intro d hd
    rcases List.mem_cons.1 hd with rfl | hd
    ·exact h4.2
    ·exact h3 d hd
  ·cases h
theorem yjw{w:World}{g:Ghost}{st:St}{v:Value}{d:D}(h:yw3 v=some d):RepV w g st d v:=by
 unfold yw3 at h
 split at h
 ·rename_i cs
  cases hc:yC5 cs.toList with
  |none=>simp[hc]at h
  |some ds=>
   simp[hc]at h; subst h
   obtain⟨h1,h2,_⟩:=yC4 (w:=w) (g:=g) (st:=st) hc
   have:=RepV.agg ds cs.toList h1 h2
   rwa [Array.toArray_toList]at this
 ·cases h
 ·exact(yC6 h).1
theorem RepV.pure{w w':World}{g g':Ghost}{st st':St}{d:D}{v:Value}(hI:ImLe w g w' g')(h:RepV w g st d v)(hp:d.pure1=true):RepV w' g' st' d v:=by
 revert hp
 induction h with
 |int k n=>exact fun _=>.int k n
 |bool b=>exact fun _=>.bool b
 |str s=>exact fun _=>.str s
 |nilp=>exact fun _=>.nilp
 |nilm=>exact fun _=>.nilm
 |gmap es b ents clock h1 h2 h3=>exact fun _=>.gmap es b ents clock (hI.kp _ _ h1 h2) h2 h3
 |slcE sz t a cap h=>exact fun _=>.slcE sz t a cap h
 |slc els t b off cap sz val h1 h2 h3 h3' h4 h5 h6 _ ih=>
  exact fun _=>.slc els t b off cap sz val h1 h2 h3 h3' h4 h5 (fun i j d hd=>⟨(hI.im _ _ (h6 i j d hd).1).1,(hI.im _ _ (h6 i j d hd).1).2.trans (h6 i j d hd).2⟩) (fun i j d hd=>ih i j d hd (h3' i j d hd))
 |clo f ds vs h1 h2=>
  intro hp
  cases ds with
  |nil=>exact .clo f [] vs h1 (fun i d v h=>by simp at h)
  |cons x l=>cases hp
 |nilf=>exact fun _=>.nilf
 |row=>intro h; cases h
 |bsl=>intro h; cases h
 |mapv=>intro h; cases h
 |ptr=>intro h; cases h
 |rptr=>intro h; cases h
 |eptr=>intro h; cases h
 |agg=>intro h; cases h
 |tup=>intro h; cases h
 |junk=>intro h; cases h
theorem RepV.eptr_any{w w':World}{g g':Ghost}{st st':St}{d:D}{n:Nat}{v:Value}(hI:ImLe w g w' g')(h:RepV w g st (.eptr d n) v):RepV w' g' st' (.eptr d n) v:=by
 cases h with
 |eptr _ _ b o val h0 h1 h2=>exact .eptr d n b o val h0 (fun j d hd=>⟨(hI.im _ _ (h1 j d hd).1).1,(hI.im _ _ (h1 j d hd).1).2.trans (h1 j d hd).2⟩) (fun j d hd=>(h2 j d hd).pure hI (h0 j d hd))
theorem RepV.purA{w w':World}{g g':Ghost}{st st':St}{d:D}{v:Value}(hI:ImLe w g w' g')(h:RepV w g st d v)(hp:purA d=true):RepV w' g' st' d v:=by
 cases h with
 |agg ds vs h1 h2=>
  simp only[PI.purA,List.all_eq_true]at hp
  exact .agg ds vs h1 fun i d v hd hv=>(h2 i d v hd hv).pure hI (hp d (List.mem_of_getElem? hd))
 |int k n=>exact .int k n
 |bool b=>exact .bool b
 |str s=>exact .str s
 |nilp=>exact .nilp
 |nilm=>exact .nilm
 |gmap es b ents clock h1 h2 h3=>exact .gmap es b ents clock (hI.kp _ _ h1 h2) h2 h3
 |slcE sz t a cap h=>exact .slcE sz t a cap h
 |slc els t b off cap sz val h1 h2 h3 h3' h4 h5 h6 h7=>exact RepV.pure hI (.slc els t b off cap sz val h1 h2 h3 h3' h4 h5 h6 h7) rfl
 |clo f ds vs h1 h2=>exact RepV.pure hI (.clo f ds vs h1 h2) hp
 |nilf=>exact .nilf
 |row=>cases hp
 |bsl=>cases hp
 |mapv=>cases hp
 |ptr=>cases hp
 |rptr=>cases hp
 |eptr=>cases hp
 |tup=>cases hp
 |junk=>cases hp
theorem RepV.purR{w w':World}{g g':Ghost}{st st':St}{d:D}{v:Value}(hI:ImLe w g w' g')(h:RepV w g st d v)(hp:purR d=true):RepV w' g' st' d v:=by
 cases d with
 |tup l=>
  cases h with
  |tup _ vs h1 h2=>
   simp only[PI.purR,List.all_eq_true]at hp
   exact .tup l vs h1 fun i d v hd hv=>(h2 i d v hd hv).purA hI (hp d (List.mem_of_getElem? hd))
 |_=>exact h.purA hI hp
def GlobOK(G:Glob)(w:World)(g:Ghost):Prop:=∀ n d,G n=some d→RepV w g [] (.eptr d 0) (.pointer (some ⟨n,0,none⟩))
theorem GlobOK.mono{G:Glob}{w w':World}{g g':Ghost}(h:GlobOK G w g)(hI:ImLe w g w' g'):GlobOK G w' g':=fun n d hd=>(h n d hd).eptr_any hI
def FR(w:World)(g:Ghost)(st:St)(fr:Frame)(a:Act):Prop:=∀ s,RepV w g st (fr s) (a.tmps.getD s undef)
theorem FR.mono{w w':World}{g g':Ghost}{st st':St}{fr:Frame}{a:Act}(h:FR w g st fr a)(hI:ImLe w g w' g')(hE:Evo g st g' st'):FR w' g' st' fr a:=fun s=>(h s).mono hI hE
theorem FR.put{w:World}{g:Ghost}{st:St}{fr:Frame}{a:Act}{dst:Option Nat}{d:D}{v:Value}(h:FR w g st fr a)(hd:∀ t,dst=some t→t<a.tmps.size)(hr:RepV w g st d v):FR w g st (fr.put dst d) (a.put dst v):=by
 intro s
 cases dst with
 |none=>exact h s
 |some t=>
  have ht:=hd t rfl
  simp only[Frame.put,Frame.set,Act.put]
  by_cases e:s=t
  ·subst e; simp[ht]; exact hr
  ·rw[if_neg e]
   have:=h s
   simpa[Array.getElem?_setIfInBounds,show ¬ t=s by omega]using this
theorem ybf{G:Glob}{w:World}{g:Ghost}{st:St}{fr:Frame}{a:Act}{x:Operand}{pa:PA}(hG:GlobOK G w g)(hF:FR w g st fr a)(h:trA x=some pa):RepV w g st (rho G fr pa) (a.eval x):=by
 cases x with
 |tmp t=>simp[trA]at h; subst h; exact hF t
 |const v=>
  cases hc:yw3 v with
  |none=>simp[trA,hc]at h
  |some d=>simp[trA,hc]at h; subst h; exact yjw hc
 |global n=>
  simp[trA]at h; subst h
  simp only[rho]
  cases hg:G n with
  |none=>exact .junk _
  |some d=>exact(hG n d hg).eptr_any (ImLe.refl _ _)
 |func f=>
  simp only[trA]at h
  split at h
  case isFalse=>cases h
  rename_i hf
  simp only[Ywh]at h; subst h
  have:=RepV.clo (w:=w) (g:=g) (st:=st) f [] [] rfl (fun i d v h=>by simp at h)
  rw[yv8 hf,ysw,ywe]at this
  exact this
end Go.Proofs.YtijnglngaogdjaaGreatDoor.PI
namespace Go.Proofs.YtijnglngaogdjaaGreatDoor.PI
open Go Go.RowKit
def RunsTo(P:Program)(base:Nat)(w:World)(g:Ghost)(st:St)(s:Sem Value)(d:D)(st':St):Prop:=
 ∃ v w' g',s.run P w=.ok v w'∧Go1 base w g st w' g' st'∧RepV w' g' st' d v
section
variable {P:Program} {base:Nat} {w:World} {g:Ghost} {st:St}
theorem RunsTo.still(h:SR base w g st){s:Sem Value}{d:D}{v:Value}(hr:s.run P w=.ok v w)(hd:RepV w g st d v):RunsTo P base w g st s d st:=
 ⟨v,w,g,hr,Go1.refl h,hd⟩
theorem ydt{k:IntKind}{n:Int}{v:Value}(h:RepV w g st (.int k n) v):v=.int k n:=by cases h; rfl
theorem yfl{b:Bool}{v:Value}(h:RepV w g st (.bool b) v):v=.bool b:=by cases h; rfl
theorem yi0{s:List UInt8}{v:Value}(h:RepV w g st (.str s) v):v=.string ⟨s.toArray⟩:=by cases h; rfl
theorem yyw(s:List UInt8):ByteArray.toList ⟨s.toArray⟩=s:=by
 rw[ByteArray.toList_eq]
theorem yK4(s:ByteArray)(l:List UInt8)(h:s.data.toList=l):RepV w g st (.str l) (.string s):=by
 subst h
 have:s=⟨s.data.toList.toArray⟩:=by rw[Array.toArray_toList]
 conv=>rhs; rw[this]
 exact .str _
theorem yVg(op:BinOp)(x y:List UInt8)(d:D)(h:Ydg op x y=some d):∃ v,(Op.stringOp op ⟨x.toArray⟩ ⟨y.toArray⟩).run P w=.ok v w∧RepV w g st d v:=by
 unfold Ydg at h
 unfold Op.stringOp
 simp only[yyw]
 cases op <;> simp only[reduceCtorEq]at h <;> try (injection h with h; subst h; exact⟨_,rfl,.bool _⟩)
 split at h
 ·rename_i hl
  simp at h; subst h
  have:¬ (((ByteArray.size ⟨x.toArray⟩+ByteArray.size ⟨y.toArray⟩:Nat):Int) > IntKind.i64.max):=by
   have e:IntKind.i64.max=9223372036854775807:=by decide
   rw[e]
   simp only[ByteArray.size,List.size_toArray]
   omega
  simp only[this,if_false]
  exact⟨_,rfl,yK4 _ _ (by simp)⟩
 ·cases h
theorem yp6(op:BinOp)(t:TypeId)(x y:Operand)(a b:Value)(h:∀ u,a≠.agg u)(h':a≠.nilIface):(eqGuard op t x y a b).run P w=.ok () w:=by
 unfold eqGuard
 cases a <;> first
  |exact absurd rfl (h _)
  |exact absurd rfl h'
  |(split <;> rfl)
theorem Yew(op:BinOp)(t:TypeId)(x y:D)(d:D)(vx vy:Value)(h:pbin op x y=some d)(hx:RepV w g st x vx)(hy:RepV w g st y vy) :
  (∃ v,(binOp op t vx vy).run P w=.ok v w∧RepV w g st d v)∧(∀ u,vx≠.agg u)∧vx≠.nilIface:=by
 unfold pbin at h
 split at h
 ·rename_i k a k' b
  obtain rfl:=ydt hx
  obtain rfl:=ydt hy
  refine⟨?_,(by intro u e; cases e),(by intro e; cases e)⟩
  have arith:∀ q,yhm op k a b=some q→(op=.add∨op=.sub∨op=.mul)→(Op.intArith op k a b).run P w=.ok (.int k q) w:=by
   intro q hq ho
   rcases ho with rfl | rfl | rfl <;> simp[yhm]at hq <;> subst hq <;> rfl
  have div:∀ q,yhm op k a b=some q→(op=.quo∨op=.rem)→(Op.intDiv op k a b).run P w=.ok (.int k q) w:=by
   intro q hq ho
   rcases ho with rfl | rfl <;> simp[yhm]at hq <;> obtain⟨h0,rfl⟩:=hq <;> simp[Op.intDiv,h0]
  have bits:∀ q,yut op k a b=some q→(Op.intBits op k a b).run P w=.ok (.int k q) w:=by
   intro q hq
   cases op <;> simp only[yut,Ywh,reduceCtorEq]at hq <;> subst hq <;> rfl
  have cmp:∀ q,icmp op a b=some q→(Op.intCmp op a b).run P w=.ok (.bool q) w:=by
   intro q hq
   cases op <;> simp[icmp]at hq <;> subst hq <;> rfl
  have shf:∀ q,yov op k a b=some q→(Op.shift op k a k' b).run P w=.ok (.int k q) w:=by
   intro q hq
   unfold yov at hq
   split at hq
   ·cases hq
   ·rename_i hb
    cases op <;> simp at hq <;> subst hq <;> simp[Op.shift,hb]
  cases op
  case shl=>
   simp only[]at h
   cases hs:yov .shl k a b with
   |none=>simp[hs]at h
   |some q=>simp[hs]at h; subst h; exact⟨_,by simp only[binOp]; exact shf q hs,.int _ _⟩
  case shr=>
   simp only[]at h
   cases hs:yov .shr k a b with
   |none=>simp[hs]at h
   |some q=>simp[hs]at h; subst h; exact⟨_,by simp only[binOp]; exact shf q hs,.int _ _⟩
  all_goals
   simp only[]at h
   split at h
   case isFalse=>cases h
   rename_i hk
   subst hk
   simp only[Ywi]at h
   obtain⟨q,hq,rfl⟩:=h
   first
    |exact⟨_,by simp only[binOp,ne_eq,not_true_eq_false,if_false]; exact arith q hq (by simp),.int _ _⟩
    |exact⟨_,by simp only[binOp,ne_eq,not_true_eq_false,if_false]; exact div q hq (by simp),.int _ _⟩
    |exact⟨_,by simp only[binOp,ne_eq,not_true_eq_false,if_false]; exact bits q hq,.int _ _⟩
    |exact⟨_,by simp only[binOp,ne_eq,not_true_eq_false,if_false]; exact cmp q hq,.bool _⟩
 ·rename_i a b
  obtain rfl:=yi0 hx
  obtain rfl:=yi0 hy
  refine⟨?_,(by intro u e; cases e),(by intro e; cases e)⟩
  obtain⟨v,h1,h2⟩:=yVg (P:=P) (w:=w) (g:=g) (st:=st) op a b d h
  refine⟨v,?_,h2⟩
  cases op <;> first | exact h1 | (simp[Ydg]at h; done)
 ·cases h
theorem Yex(neg:Bool)(t:TypeId)(ht:P.underlying t=some .bool)(x y:D)(d:D)(vx vy:Value)(h:pbeq neg x y=some d)(hx:RepV w g st x vx)(hy:RepV w g st y vy) :
  (∃ v,(binOp (if neg then .neq else .eql) t vx vy).run P w=.ok v w∧RepV w g st d v)∧(∀ u,vx≠.agg u)∧vx≠.nilIface:=by
 unfold pbeq at h
 split at h
 ·rename_i a b
  obtain rfl:=yfl hx
  obtain rfl:=yfl hy
  refine⟨?_,(by intro u e; cases e),(by intro e; cases e)⟩
  simp at h; subst h
  have he:(Op.equal t (.bool a) (.bool b)).run P w=.ok (a == b) w:=run_equalIn_bool w 9999 t a b ht
  refine⟨_,?_,.bool _⟩
  cases neg <;> simp[binOp,he]
 ·cases h
theorem Yl8(op:UnOp)(x:D)(d:D)(vx:Value)(h:pun op x=some d)(hx:RepV w g st x vx):∃ v,(Op.unary op vx).run P w=.ok v w∧RepV w g st d v:=by
 unfold pun at h
 split at h
 ·obtain rfl:=ydt hx
  simp only[Ywh]at h; subst h
  exact⟨_,rfl,.int _ _⟩
 ·obtain rfl:=ydt hx
  simp only[Ywi]at h
  obtain⟨q,hq,rfl⟩:=h
  simp only[yut,Ywh]at hq; subst hq
  exact⟨_,rfl,.int _ _⟩
 ·obtain rfl:=yfl hx
  simp at h; subst h
  exact⟨_,rfl,.bool _⟩
 ·cases h
theorem yj7{x:D}{n:Nat}{v:Value}(h:yd5 x=some n)(hx:RepV w g st x v):∃ k,v=.int k (n:Int):=by
 unfold yd5 at h
 split at h
 ·obtain rfl:=ydt hx
  split at h
  ·simp at h; subst h
   rename_i k q hq
   exact⟨k,by rw[Int.toNat_of_nonneg hq]⟩
  ·cases h
 ·cases h
theorem yap{els:List D}{i j:Nat}{d:D}(h:ybm els i j=some d):∃ e,els[i]?=some e∧e.cells[j]?=some d:=by
 unfold ybm at h
 cases he:els[i]? with
 |none=>simp[he]at h
 |some e=>simp[he]at h; exact⟨e,rfl,h⟩
theorem ya5{els:List D}{i j:Nat}{e d:D}(he:els[i]?=some e)(hd:e.cells[j]?=some d):ybm els i j=some d:=by
 simp[ybm,he,hd]
theorem RepV.slc_mk{els:List D}{t:Bool}{b off cap sz:Nat}(h0:0<sz)(hl:∀ e∈els,e.cells.length=sz)(hcap:els.length≤cap)(ht:t=true→cap=els.length)
  (h:∀ i j d,ybm els i j=some d→d.pure1=true∧g.Im b (off+i*sz+j)∧∃ v,w.cell? ⟨b,off+i*sz+j,none⟩=some v∧RepV w g st d v) :
  RepV w g st (.slc sz els t) (.slice (some ⟨b,off,none⟩) els.length cap):=by
 by_cases he:els=[]
 ·subst he
  exact .slcE sz t _ cap ht
 ·refine .slc els t b off cap sz (fun i j=>(w.cell? ⟨b,off+i*sz+j,none⟩).getD undef) he h0 hl (fun i j d hd=>(h i j d hd).1) hcap ht ?_ ?_
  ·intro i j d hd
   obtain⟨_,h2,v,h3,_⟩:=h i j d hd
   exact⟨h2,by simp[h3]⟩
  ·intro i j d hd
   obtain⟨_,h2,v,h3,h4⟩:=h i j d hd
   simpa[h3]using h4
structure Els (w:World) (g:Ghost) (st:St) (v:Value) (sz:Nat) (els:List D):Prop where
 shape:∃ a cap,v=.slice a els.length cap∧(els≠[]→∃ b off,a=some ⟨b,off,none⟩∧0<sz∧
  ∀ i j d,ybm els i j=some d→∃ u,w.cell? ⟨b,off+i*sz+j,none⟩=some u∧RepV w g st d u∧u.oneCell'=true)
 pure:∀ i j d,ybm els i j=some d→d.pure1=true
 len:∀ e∈els,e.cells.length=sz
theorem yy7{sz:Nat}{els:List D}{t:Bool}{v:Value}(h:RepV w g st (.slc sz els t) v):Els w g st v sz els:=by
 cases h with
 |slcE _ _ a cap h=>exact⟨⟨a,cap,rfl,fun h=>absurd rfl h⟩,fun i j d hd=>by simp[ybm]at hd,fun e he=>by cases he⟩
 |slc _ _ b off cap _ val h1 h2 h3 h3' h4 h5 h6 h7=>
  exact⟨⟨_,cap,rfl,fun _=>⟨b,off,rfl,h2,fun i j d hd=>⟨_,(h6 i j d hd).2,h7 i j d hd,(h7 i j d hd).oneCell (yhx (h3' i j d hd))⟩⟩⟩,h3',h3⟩
theorem ysy{els:List D}{off len i j:Nat}{d:D}(h:ybm ((els.drop off).take len) i j=some d):ybm els (off+i) j=some d∧i<len:=by
 obtain⟨e,he,hd⟩:=yap h
 rw[List.getElem?_take]at he
 split at he
 ·rename_i hi
  rw[List.getElem?_drop]at he
  exact⟨ya5 he hd,hi⟩
 ·cases he
theorem yLr(hS:SR base w g st){key tot off len sz:Nat}{els:List D}{v:Value}(he:yec st key tot off len=some (sz,els))(h:RepV w g st (.row key tot off len) v) :
  Els w g st v sz els∧∃ o,st[key]?=some o∧o.row=true∧o.sz=sz∧tot=o.els.length∧off+len≤tot∧els=(o.els.drop off).take len∧els.length=len∧v=.slice (some ⟨g.β key,off*o.sz,none⟩) len (g.γ key - off):=by
 unfold yec at he
 cases h with
 |row _ _ _ _ o _ h0 h1 h2 h3 h4=>
  rw[h1]at he
  simp only at he
  split at he
  ·rename_i hc
   simp only[Bool.and_eq_true,beq_iff_eq,decide_eq_true_eq]at hc
   simp only[Ywh,Ywj]at he
   obtain⟨rfl,rfl⟩:=he
   obtain⟨rfl,hle⟩:=h4 hc.1.2.symm
   obtain⟨C,e,hb,_,hsz,hx,hC,hrep⟩:=hS.blk key o h1 (ycc h2)
   have hl:((o.els.drop off).take len).length=len:=by rw[List.length_take,List.length_drop]; omega
   refine⟨⟨⟨_,_,by rw[hl],fun _=>⟨_,_,rfl,hsz,?_⟩⟩,?_,?_⟩,o,h1,h2,rfl,hc.1.2.symm,hle,rfl,hl,rfl⟩
   ·intro i j d hd
    obtain⟨h5,h6⟩:=ysy hd
    obtain⟨h8,u,h9,h10⟩:=hrep _ _ _ h5
    refine⟨u,?_,h10,h10.oneCell (yhx (h8 h2))⟩
    simp only[World.cell?,hb]
    rw[show off*o.sz+i*o.sz+j=(off+i)*o.sz+j by rw[Nat.add_mul]]
    simpa using h9
   ·intro i j d hd
    obtain⟨h5,_⟩:=ysy hd
    exact(hrep _ _ _ h5).1 h2
   ·intro x hxm
    exact hx x (List.mem_of_mem_drop (List.mem_of_mem_take hxm))
  ·cases he
theorem yns{d:D}(h:d.pure1=true):d.cells=[d]:=by
 cases d <;> simp_all [D.pure1,D.cells]
theorem ywb{sz:Nat}{ag:Bool}(h0:0<sz)(ha:ag=true∨sz=1):∀ (n:Nat) (cs:List D),n*sz≤cs.length→(∀ x∈cs,x.cells=[x])→
  (yn7 sz ag cs n).length=n∧(∀ e∈yn7 sz ag cs n,e.cells.length=sz)∧∀ i j d,ybm (yn7 sz ag cs n) i j=some d→cs[i*sz+j]?=some d∧i<n∧j<sz
 |0,cs,_,_=>⟨rfl,fun e he=>by simp[yn7]at he,fun i j d hd=>by simp[yn7,ybm]at hd⟩
 |n+1,cs,hl,hc=>by
  rw[Nat.add_mul,Nat.one_mul]at hl
  obtain⟨h1,h2,h3⟩:=ywb h0 ha n (cs.drop sz) (by rw[List.length_drop]; omega) (fun x hx=>hc x (List.mem_of_mem_drop hx))
  have hcell:(D.mk ag (cs.take sz)).cells=cs.take sz:=by
   rcases ha with rfl | rfl
   ·simp[D.mk,D.cells]
   ·cases ag
    ·cases cs with
     |nil=>simp at hl
     |cons x r=>simp[D.mk]; exact hc x (by simp)
    ·simp[D.mk,D.cells]
  refine⟨by simp[yn7,h1],?_,?_⟩
  ·intro e he
   simp only[yn7,List.mem_cons]at he
   rcases he with rfl | he
   ·rw[hcell,List.length_take]; omega
   ·exact h2 e he
  ·intro i j d hd
   obtain⟨e,he,hd'⟩:=yap hd
   cases i with
   |zero=>
    simp only[yn7,List.getElem?_cons_zero,Ywh]at he
    subst he
    rw[hcell,List.getElem?_take]at hd'
    split at hd'
    ·rename_i hj; exact⟨by simpa using hd',by omega,hj⟩
    ·cases hd'
   |succ i=>
    simp only[yn7,List.getElem?_cons_succ]at he
    obtain⟨h4,h5,h6⟩:=h3 i j d (ya5 he hd')
    rw[List.getElem?_drop]at h4
    exact⟨by rw[Nat.add_mul,Nat.one_mul]; rwa [show i*sz+sz+j=sz+(i*sz+j) by omega],by omega,h6⟩
theorem Yb0(hS:SR base w g st){key off n sz:Nat}{ag:Bool}{els:List D}{v:Value}(he:ylf st key off n sz ag=some els)(hr:RepV w g st (.bsl key off n sz ag) v)
  (hpe:∀ d∈els,purA d=true):Els w g st v sz els∧els.length=n∧∃ o cap,st[key]?=some o∧o.row=false∧o.sz=1∧off+n*sz≤o.els.length∧n≤cap∧v=.slice (some ⟨g.β key,off,none⟩) n cap∧0<sz∧∀ i j d,ybm els i j=some d→i<n∧j<sz:=by
 unfold ylf at he
 cases hr with
 |bsl _ _ _ _ _ o cap ho hrow hone hcp=>
  rw[ho]at he
  simp only[Option.ite_none_right_eq_some,Ywh,Bool.and_eq_true,decide_eq_true_eq,Bool.or_eq_true,beq_iff_eq,Bool.not_eq_true']at he
  obtain⟨⟨⟨⟨_,h1⟩,h2⟩,h3⟩,rfl⟩:=he
  obtain⟨C,e,hb,_,hszp,hx,hC,hrep⟩:=hS.blk key o ho (yd6 hone)
  rw[hrow]at hC
  simp only[Bool.false_eq_true,if_false]at hC
  obtain⟨c1,c2,c3⟩:=ywb h2 h3 n (o.els.drop off) (by rw[List.length_drop]; omega) (fun x hx=>hC.2.2 x (List.mem_of_mem_drop hx))
  have hpc:∀ i j d,ybm (yn7 sz ag (o.els.drop off) n) i j=some d→d.pure1=true:=by
   intro i j d hd
   obtain⟨h6,_⟩:=c3 i j d hd
   rw[List.getElem?_drop]at h6
   obtain⟨e0,he0,hd0⟩:=yap hd
   have h7:=hpe e0 (List.mem_of_getElem? he0)
   cases e0 with
   |agg l=>
    simp only[purA,List.all_eq_true]at h7
    exact h7 d (List.mem_of_getElem? hd0)
   |_=>
    simp only[D.cells]at hd0
    have:=List.mem_of_getElem? hd0
    simp only[List.mem_singleton]at this
    rw[this]
    exact h7
  refine⟨⟨⟨_,cap,by rw[c1],fun _=>⟨_,_,rfl,h2,?_⟩⟩,hpc,c2⟩,c1,o,cap,ho,hrow,hone,h1,hcp,rfl,h2,fun i j d hd=>(c3 i j d hd).2⟩
  intro i j d hd
  obtain⟨h6,_⟩:=c3 i j d hd
  rw[List.getElem?_drop]at h6
  have h7:=hC.2.2 d (List.mem_of_getElem? h6)
  obtain⟨_,u,h8,h9⟩:=hrep (off+(i*sz+j)) 0 d (ya5 h6 (by rw[h7]; rfl))
  refine⟨u,?_,h9,h9.oneCell (yhx (hpc i j d hd))⟩
  rw[hC.2.1]at h8
  simp only[World.cell?,hb]
  simpa[Nat.add_assoc]using h8
end
end Go.Proofs.YtijnglngaogdjaaGreatDoor.PI
namespace Go.Proofs.YtijnglngaogdjaaGreatDoor.PI
open Go Go.RowKit
section
variable {P:Program} {base:Nat} {w:World} {g:Ghost} {st:St}
def Lent(g:Ghost)(st:St)(ks:List Nat):Prop:=∀ k∈ks,∀ o,st[k]?=some o→o.isMap=false→∀ x,x<o.els.length*o.sz→g.Im (g.β k) x
theorem RepV.loose{sz:Nat}{els:List D}{t:Bool}{v:Value}(h:RepV w g st (.slc sz els t) v):RepV w g st (.slc sz els false) v:=by
 cases h with
 |slcE _ _ a cap h=>exact .slcE sz false a cap fun e=>by cases e
 |slc _ _ b off cap _ val h1 h2 h3 h3' h4 h5 h6 h7=>exact .slc els false b off cap sz val h1 h2 h3 h3' h4 (fun e=>by cases e) h6 h7
theorem RepV.nz{sz:Nat}{els:List D}{t:Bool}{v:Value}(h:RepV w g st (.slc sz els t) v):RepV w g st (.slc (PI.nz sz els) els false) v:=by
 have h:=h.loose
 cases els with
 |nil=>
  cases h with
  |slcE _ _ a cap h=>exact .slcE _ false a cap fun e=>by cases e
  |slc _ _ b off cap _ val h1 h2 h3 h3' h4 h5 h6 h7=>exact absurd rfl h1
 |cons a l=>exact h
theorem yPr(hS:SR base w g st){d y:D}{v:Value}(h:imm1 st d=some y)(hr:RepV w g st d v)(hL:Lent g st (key1 d)):RepV w g st y v∧y.pure1=true:=by
 cases d with
 |row key tot off len=>
  simp only[imm1,Ywi]at h
  obtain⟨⟨sz,els⟩,he,rfl⟩:=h
  obtain⟨hE,o,ho,hrow,hsz,htot,hle,hels,hlen,rfl⟩:=yLr hS he hr
  refine⟨RepV.nz (t:=false) ?_,rfl⟩
  obtain⟨C,e,hb,_,hszp,hx,hC,hrep⟩:=hS.blk key o ho (ycc hrow)
  rw[hrow]at hC
  simp only[if_true]at hC
  have hcap:els.length≤g.γ key - off:=by omega
  subst hsz
  show RepV w g st (.slc o.sz els false) (.slice (some ⟨g.β key,off*o.sz,none⟩) len (g.γ key - off))
  rw[← hlen]
  refine .slc_mk hszp hE.len hcap (fun h=>by cases h) ?_
  intro i j d hd
  refine⟨hE.pure i j d hd,?_,?_⟩
  ·refine hL key (by simp[key1]) o ho (ycc hrow) _ ?_
   subst hels
   obtain⟨h1,h2⟩:=ysy hd
   obtain⟨e1,h3,h4⟩:=yap h1
   have h5:=hx e1 (List.mem_of_getElem? h3)
   have h6:j<o.sz:=by rw[← h5]; exact(List.getElem?_eq_some_iff.1 h4).1
   have h7:off+i<o.els.length:=(List.getElem?_eq_some_iff.1 h3).1
   calc off*o.sz+i*o.sz+j<off*o.sz+i*o.sz+o.sz:=by omega
    _=(off+i+1)*o.sz:=by rw[Nat.add_mul,Nat.add_mul,Nat.one_mul]
    _≤o.els.length*o.sz:=Nat.mul_le_mul_right _ h7
  ·obtain⟨a,cap,hv,hsh⟩:=hE.shape
   have hne:els≠[]:=by
    rintro rfl
    simp[ybm]at hd
   obtain⟨b,f,ha,_,h8⟩:=hsh hne
   simp only[Value.slice.injEq]at hv
   rw[← hv.1]at ha
   simp only[Ywh,Addr.mk.injEq,and_true]at ha
   obtain⟨u,h9,h10,_⟩:=h8 i j d hd
   rw[← ha.1,← ha.2]at h9
   exact⟨u,h9,h10⟩
 |slc sz els t=>
  simp only[imm1,Ywh]at h
  subst h
  exact⟨hr.nz,rfl⟩
 |bsl key off n sz ag=>
  simp only[imm1,Ywi]at h
  obtain⟨els,he,rfl⟩:=h
  unfold bslI at he
  split at he
  case h_2=>cases he
  rename_i els' he'
  split at he
  case isFalse=>cases he
  rename_i hpa
  simp only[Ywh]at he
  subst he
  obtain⟨hE,hlen,o,cap,ho,hrow,hone,hle,hcap,rfl,hsz,hij⟩:=Yb0 hS he' hr (List.all_eq_true.1 hpa)
  refine⟨RepV.nz (t:=false) ?_,rfl⟩
  rw[← hlen]
  refine .slc_mk hsz hE.len (by omega) (fun h=>by cases h) ?_
  intro i j d hd
  obtain⟨h5,h6⟩:=hij i j d hd
  refine⟨hE.pure i j d hd,?_,?_⟩
  ·have hx:off+i*sz+j<o.els.length*o.sz:=by
    have h7:(i+1)*sz≤n*sz:=Nat.mul_le_mul_right _ h5
    rw[Nat.add_mul,Nat.one_mul]at h7
    rw[hone]
    omega
   exact hL key (by simp[key1]) o ho (yd6 hone) _ hx
  ·obtain⟨a,cap',hv,hsh⟩:=hE.shape
   have hne:els'≠[]:=by
    rintro rfl
    simp[ybm]at hd
   obtain⟨b,f,ha,_,h8⟩:=hsh hne
   simp only[Value.slice.injEq]at hv
   rw[← hv.1]at ha
   simp only[Ywh,Addr.mk.injEq,and_true]at ha
   obtain⟨u,h9,h10,_⟩:=h8 i j d hd
   rw[← ha.1,← ha.2]at h9
   exact⟨u,h9,h10⟩
 |_=>
  simp only[imm1]at h
  split at h
  ·rename_i hp
   simp only[Ywh]at h
   subst h
   exact⟨hr,hp⟩
  ·cases h
theorem yF3(hS:SR base w g st):∀ {ds ys:List D},immL st ds=some ys→Lent g st (ds.flatMap key1)→ys.length=ds.length∧
  (∀ (i:Nat) y v,ys[i]?=some y→(∀ d,ds[i]?=some d→RepV w g st d v)→RepV w g st y v)∧ys.all D.pure1=true
 |[],ys,h,_=>by simp[immL]at h; subst h; exact⟨rfl,fun i y v h=>by simp at h,rfl⟩
 |d::l,ys,h,hL=>by
  unfold immL at h
  split at h
  ·rename_i x y hx hy
   simp at h; subst h
   obtain⟨h1,h2,h3⟩:=yF3 hS hy (fun k hk=>hL k (by simp only[List.flatMap_cons,List.mem_append]; exact .inr hk))
   have hL1:Lent g st (key1 d):=fun k hk=>hL k (by simp only[List.flatMap_cons,List.mem_append]; exact .inl hk)
   refine⟨by simp[h1],?_,?_⟩
   ·intro i z v hz hv
    cases i with
    |zero=>simp at hz; subst hz; exact(yPr hS hx (hv d rfl) hL1).1
    |succ i=>simp at hz; exact h2 i z v hz (fun d' hd'=>hv d' (by simpa using hd'))
   ·simp only[List.all_cons,h3,Bool.and_true]
    cases d with
    |row key tot off len=>
     simp only[imm1,Ywi]at hx
     obtain⟨p,_,rfl⟩:=hx
     rfl
    |slc sz els t=>simp only[imm1,Ywh]at hx; subst hx; rfl
    |bsl key off n sz ag=>
     simp only[imm1,Ywi]at hx
     obtain⟨p,_,rfl⟩:=hx
     rfl
    |_=>
     simp only[imm1]at hx
     split at hx
     ·rename_i hp; simp only[Ywh]at hx; subst hx; exact hp
     ·cases hx
  ·cases h
theorem yY5(hS:SR base w g st){d y:D}{v:Value}(h:imm st d=some y)(hr:RepV w g st d v)(hL:Lent g st (keys d)):RepV w g st y v∧purA y=true:=by
 cases d with
 |agg l=>
  simp only[imm,Ywi]at h
  obtain⟨ys,hy,rfl⟩:=h
  obtain⟨h1,h2,h3⟩:=yF3 hS hy hL
  cases hr with
  |agg _ vs h4 h5=>
   exact⟨.agg ys vs (h1.trans h4) fun i y v hy' hv=>h2 i y v hy' fun d hd=>h5 i d v hd hv,h3⟩
 |tup l=>simp[imm]at h
 |_=>
  simp only[imm]at h
  obtain⟨h1,h2⟩:=yPr hS h hr hL
  refine⟨h1,?_⟩
  cases y <;> first | exact h2 | (simp[D.pure1]at h2; done)
theorem yPn(hS:SR base w g st):∀ {ds ys:List D},imms st ds=some ys→Lent g st (ds.flatMap keys)→ys.length=ds.length∧
  (∀ (i:Nat) y v,ys[i]?=some y→(∀ d,ds[i]?=some d→RepV w g st d v)→RepV w g st y v)∧∀ y∈ys,purA y=true
 |[],ys,h,_=>by simp[imms]at h; subst h; exact⟨rfl,fun i y v h=>by simp at h,fun y hy=>by cases hy⟩
 |d::l,ys,h,hL=>by
  unfold imms at h
  split at h
  ·rename_i x y hx hy
   simp at h; subst h
   obtain⟨h1,h2,h3⟩:=yPn hS hy (fun k hk=>hL k (by simp only[List.flatMap_cons,List.mem_append]; exact .inr hk))
   have hL1:Lent g st (keys d):=fun k hk=>hL k (by simp only[List.flatMap_cons,List.mem_append]; exact .inl hk)
   refine⟨by simp[h1],?_,?_⟩
   ·intro i z v hz hv
    cases i with
    |zero=>simp at hz; subst hz; exact(yY5 hS hx (hv d rfl) hL1).1
    |succ i=>simp at hz; exact h2 i z v hz (fun d' hd'=>hv d' (by simpa using hd'))
   ·intro z hz
    rcases List.mem_cons.1 hz with rfl | hz
    ·
     cases d with
     |agg l=>
      simp only[imm,Ywi]at hx
      obtain⟨ys,hy',rfl⟩:=hx
      exact(yF3 hS hy' hL1).2.2
     |tup l=>simp[imm]at hx
     |row key tot off len=>
      simp only[imm,imm1,Ywi]at hx
      obtain⟨p,_,rfl⟩:=hx
      rfl
     |slc sz els t=>simp only[imm,imm1,Ywh]at hx; subst hx; rfl
     |bsl key off n sz ag=>
      simp only[imm,imm1,Ywi]at hx
      obtain⟨p,_,rfl⟩:=hx
      rfl
     |_=>
      simp only[imm,imm1]at hx
      split at hx
      ·rename_i hp; simp only[Ywh]at hx; subst hx; exact hp
      ·cases hx
    ·exact h3 z hz
  ·cases h
theorem ymt{t:TypeId}{ag:Bool}(h:agOf P t=some ag):(isAgg t).run P w=.ok ag w:=by
 unfold agOf at h
 cases hu:P.underlying t with
 |none=>simp[hu]at h
 |some u=>
  cases u <;> simp[hu]at h <;> subst h <;> simp[isAgg,run_underlying hu]
theorem ycz{t:TypeId}{n:Nat}(h:szOf P t=some n):(sizeOf t).run P w=.ok n w:=by
 unfold szOf at h
 cases hi:P.info? t with
 |none=>simp[hi]at h
 |some i=>simp[hi]at h; subst h; simp[sizeOf,typeInfo,hi]
theorem yMo{t:TypeId}{n:Nat}{ag:Bool}{b off:Nat}{cs:List D}(ha:agOf P t=some ag)(hn:szOf P t=some n)(hag:ag=false→n=1)(hl:cs.length=n)
  (h:∀ (j:Nat) d,cs[j]?=some d→∃ u,w.cell? ⟨b,off+j,none⟩=some u∧RepV w g st d u) :
  ∃ v,(loadVar t ⟨b,off,none⟩).run P w=.ok v w∧RepV w g st (.mk ag cs) v:=by
 cases ag with
 |true=>
  refine⟨.agg ((List.range n).map fun j=>(w.cell? ⟨b,off+j,none⟩).getD undef).toArray,?_,?_⟩
  ·have h1:∀ j,j<n→w.cell? ((⟨b,off,none⟩:Addr).add j)=some ((w.cell? ⟨b,off+j,none⟩).getD undef):=by
    intro j hj
    rw[cell?_add]
    obtain⟨u,h2,_⟩:=h j cs[j] (by simp[hl,hj])
    simp[h2]
   simp only[loadVar,Sem.run_bind,ymt ha,Result.andThen_ok,if_true,ycz hn,run_loadCells w _ n _ h1]
   rfl
  ·refine .agg cs _ (by simp[hl]) ?_
   intro i d v hd hv
   obtain⟨u,h2,h3⟩:=h i d hd
   simp only[List.getElem?_map,Ywi]at hv
   obtain⟨j,hj,rfl⟩:=hv
   have:j=i:=by
    have:=List.getElem?_eq_some_iff.1 hj
    obtain⟨_,e⟩:=this
    simpa using e.symm
   subst this
   simpa[h2]using h3
 |false=>
  have h1:=hag rfl
  subst h1
  match cs,hl with
  |[d],_=>
   obtain⟨u,h2,h3⟩:=h 0 d rfl
   refine⟨u,?_,h3⟩
   simp only[loadVar,Sem.run_bind,ymt ha,Result.andThen_ok,Bool.false_eq_true,if_false,run_load]
   simp only[Nat.add_zero]at h2
   simp[h2]
theorem yg7{l:List D}{off n j:Nat}{d:D}(h:((l.drop off).take n)[j]?=some d):l[off+j]?=some d∧j<n:=by
 rw[List.getElem?_take]at h
 split at h
 ·rename_i hj; rw[List.getElem?_drop]at h; exact⟨h,hj⟩
 ·cases h
theorem yIc(hS:SR base w g st){t:TypeId}{n:Nat}{ag:Bool}{p d:D}{v:Value}(ha:agOf P t=some ag)(hn:szOf P t=some n)(h:ydd st n ag p=some d)(hr:RepV w g st p v) :
  ∃ u,(Instr.loadAt t v).run P w=.ok u w∧RepV w g st d u:=by
 unfold ydd at h
 split at h
 ·cases h
 rename_i hag
 have hag':ag=false→n=1:=by intro e; subst e; simpa using hag
 have go:∀ (b off:Nat) (cs:List D),v=.pointer (some ⟨b,off,none⟩)→cs.length=n→(∀ (j:Nat) d,cs[j]?=some d→∃ u,w.cell? ⟨b,off+j,none⟩=some u∧RepV w g st d u)→d=.mk ag cs→
   ∃ u,(Instr.loadAt t v).run P w=.ok u w∧RepV w g st d u:=by
  intro b off cs hv hl hc hd
  subst hv; subst hd
  obtain⟨u,h1,h2⟩:=yMo (P:=P) ha hn hag' hl hc
  exact⟨u,by simpa[Instr.loadAt,Instr.sureAddr]using h1,h2⟩
 split at h
 ·rename_i key off
  cases hr with
  |ptr _ _ o ho hrow hone=>
   rw[ho]at h
   simp only[hrow,Bool.not_false,Bool.true_and,decide_eq_true_eq,Option.ite_none_right_eq_some,Ywh]at h
   obtain⟨hle,rfl⟩:=h
   obtain⟨C,e,hb,_,hszp,hx,hC,hrep⟩:=hS.blk key o ho (yd6 hone)
   rw[hrow]at hC
   simp only[Bool.false_eq_true,if_false]at hC
   refine go _ _ _ rfl (by rw[List.length_take,List.length_drop]; omega) ?_ rfl
   intro j d hd
   obtain⟨h1,h2⟩:=yg7 hd
   have h3:=hC.2.2 d (List.mem_of_getElem? h1)
   obtain⟨_,u,h5,h6⟩:=hrep (off+j) 0 d (ya5 h1 (by rw[h3]; rfl))
   refine⟨u,?_,h6⟩
   rw[hC.2.1]at h5
   simp only[World.cell?,hb]
   simpa using h5
 ·rename_i key tot i off
  cases hr with
  |rptr _ _ _ _ o _ _ ho hrow h3 h4=>
   rw[ho]at h
   simp only[hrow,Bool.true_and,beq_iff_eq]at h
   split at h
   ·rename_i htot
    split at h
    ·rename_i el hel
     simp only[Option.ite_none_right_eq_some,Ywh]at h
     obtain⟨hle,rfl⟩:=h
     obtain⟨C,e,hb,_,hszp,hx,hC,hrep⟩:=hS.blk key o ho (ycc hrow)
     refine go _ _ _ (h4 htot.symm) (by rw[List.length_take,List.length_drop]; omega) ?_ rfl
     intro j d hd
     obtain⟨h1,h2⟩:=yg7 hd
     obtain⟨_,u,h5,h6⟩:=hrep i (off+j) d (ya5 hel h1)
     refine⟨u,?_,h6⟩
     simp only[World.cell?,hb]
     simpa[Nat.add_assoc]using h5
    ·cases h
   ·cases h
 ·rename_i el off
  cases hr with
  |eptr _ _ b o val h0 h1 h2=>
   simp only[Option.ite_none_right_eq_some,Ywh]at h
   obtain⟨hle,rfl⟩:=h
   refine go _ _ _ rfl (by rw[List.length_take,List.length_drop]; omega) ?_ rfl
   intro j d hd
   obtain⟨h3,_⟩:=yg7 hd
   refine⟨_,?_,h2 _ _ h3⟩
   have:=(h1 _ _ h3).2
   rwa [← Nat.add_assoc]at this
 ·cases h
end
end Go.Proofs.YtijnglngaogdjaaGreatDoor.PI
namespace Go.Proofs.YtijnglngaogdjaaGreatDoor.PI
open Go Go.RowKit
section
variable {P:Program} {base:Nat} {w:World} {g:Ghost} {st:St}
theorem yFl{key tot i o:Nat}{v:Value}(hl:live st key tot=true)(hr:RepV w g st (.rptr key tot i o) v) :
  ∃ ob,st[key]?=some ob∧ob.row=true∧tot=ob.els.length∧v=.pointer (some ⟨g.β key,i*ob.sz+o,none⟩):=by
 cases hr with
 |rptr _ _ _ _ ob _ h0 h1 h2 h3 h4=>
  have:tot=ob.els.length:=by
   simp only[live,h1,Bool.and_eq_true,beq_iff_eq]at hl
   exact hl.2.symm
  exact⟨ob,h1,h2,this,h4 this⟩
theorem yun{key tot off len:Nat}{v:Value}(hl:live st key tot=true)(hr:RepV w g st (.row key tot off len) v) :
  ∃ ob,st[key]?=some ob∧ob.row=true∧tot=ob.els.length∧v=.slice (some ⟨g.β key,off*ob.sz,none⟩) len (g.γ key - off)∧off+len≤tot:=by
 cases hr with
 |row _ _ _ _ ob _ h0 h1 h2 h3 h4=>
  have:tot=ob.els.length:=by
   simp only[live,h1,Bool.and_eq_true,beq_iff_eq]at hl
   exact hl.2.symm
  exact⟨ob,h1,h2,this,(h4 this).1,(h4 this).2⟩
theorem yOw{off:Nat}{p d:D}{v:Value}(h:pfld st off p=some d)(hr:RepV w g st p v):∃ b o,v=.pointer (some ⟨b,o,none⟩)∧RepV w g st d (.pointer (some ⟨b,o+off,none⟩)):=by
 unfold pfld at h
 split at h
 ·simp at h; subst h
  cases hr with
  |ptr key o' o ho hrow hone=>exact⟨_,_,rfl,.ptr _ _ o ho hrow hone⟩
 ·split at h
  ·rename_i key tot i o hl
   simp at h; subst h
   obtain⟨ob,h1,h2,h3,rfl⟩:=yFl hl hr
   refine⟨_,_,rfl,.rptr _ _ _ _ ob _ rfl h1 h2 (by omega) fun _=>?_⟩
   simp only[Nat.add_assoc]
  ·cases h
 ·simp at h; subst h
  cases hr with
  |eptr el off' b o val h0 h1 h2=>exact⟨_,_,rfl,by rw[Nat.add_assoc]; exact .eptr _ _ b o val h0 h1 h2⟩
 ·cases h
theorem yM4{s:TypeId}{fields:Array Field}{f:Nat}{fd:Field}{n:Nat}{p d:D}{v:Value}(hs:P.underlying s=some (.struct fields))(hf:fields[f]?=some fd)(hn:szOf P fd.type=some n)(h0:n≠0)
  (h:pfld st fd.offset p=some d) (hr:RepV w g st p v):∃ u,(Instr.fieldAt s v f).run P w=.ok u w∧RepV w g st d u:=by
 obtain⟨b,o,rfl,h1⟩:=yOw h hr
 refine⟨_,?_,h1⟩
 simp[Instr.fieldAt,run_underlying hs,hf,Instr.sureAddr,fieldPlace,ycz hn,h0,yg9]
theorem yz6{t elem:TypeId}{len n:Nat}{p i d:D}{v vi:Value}(ht:P.underlying t=some (.array len elem))(hn:szOf P elem=some n)
  (h:ymn st len n p i=some d) (hr:RepV w g st p v) (hi:RepV w g st i vi):∃ u,(Instr.indexAt t v vi).run P w=.ok u w∧RepV w g st d u:=by
 unfold ymn at h
 cases hj:yd5 i with
 |none=>simp[hj]at h
 |some j=>
  simp only[hj,Option.ite_none_right_eq_some]at h
  obtain⟨hlt,h⟩:=h
  obtain⟨k,rfl⟩:=yj7 hj hi
  obtain⟨b,o,rfl,h1⟩:=yOw h hr
  refine⟨_,?_,h1⟩
  simp only[Instr.indexAt,Sem.run_bind,asIntOf,Sem.run_pure,run_underlying ht,Result.andThen_ok,Instr.sureAddr]
  have:(0:Int)≤(j:Int)∧(j:Int)<(len:Int):=by omega
  simp[this,ycz hn,yg9]
theorem yBv{t elem:TypeId}{n:Nat}{x i d:D}{v vi:Value}(ht:P.underlying t=some (.slice elem))(hn:szOf P elem=some n)
  (h:yfw st n x i=some d) (hr:RepV w g st x v) (hi:RepV w g st i vi):∃ u,(Instr.indexAt t v vi).run P w=.ok u w∧RepV w g st d u:=by
 unfold yfw at h
 cases hj:yd5 i with
 |none=>simp[hj]at h
 |some j=>
  simp only[hj]at h
  obtain⟨k,rfl⟩:=yj7 hj hi
  have go:∀ b o len cap,v=.slice (some ⟨b,o,none⟩) len cap→j<len→(Instr.indexAt t v (.int k (j:Int))).run P w=.ok (.pointer (some ⟨b,o+j*n,none⟩)) w:=by
   intro b o len cap hv hlt
   subst hv
   simp only[Instr.indexAt,Sem.run_bind,asIntOf,Sem.run_pure,run_underlying ht,Result.andThen_ok]
   have:(0:Int)≤(j:Int)∧(j:Int)<(len:Int):=by omega
   simp[this,ycz hn,yg9]
  split at h
  ·rename_i sz els tg
   split at h
   ·rename_i el hel
    simp only[beq_iff_eq,Option.ite_none_right_eq_some,Ywh]at h
    obtain⟨rfl,rfl⟩:=h
    cases hr with
    |slcE=>simp at hel
    |slc _ _ b off cap _ val h1 h2 h3 h3' h4 h5 h6 h7=>
     refine⟨_,go _ _ _ _ rfl (List.getElem?_eq_some_iff.1 hel).1,?_⟩
     have:=RepV.eptr (w:=w) (g:=g) (st:=st) el 0 b (off+j*sz) (val j) (fun q d hd=>h3' j q d (ya5 hel hd)) (fun q d hd=>h6 j q d (ya5 hel hd)) (fun q d hd=>h7 j q d (ya5 hel hd))
     simpa using this
   ·cases h
  ·rename_i key tot off len
   split at h
   ·rename_i o ho
    split at h
    ·rename_i hc
     simp only[Bool.and_eq_true,beq_iff_eq,decide_eq_true_eq]at hc
     simp only[Ywh]at h
     subst h
     obtain⟨⟨⟨hrow,hsz⟩,htot⟩,hlt⟩:=hc
     obtain⟨ob,h1,h2,h3,rfl,h5⟩:=yun (by simp[live,ho,hrow,htot]) hr
     obtain rfl:ob=o:=Option.some.inj (h1.symm.trans ho)
     refine⟨_,go _ _ _ _ rfl hlt,.rptr _ _ _ _ ob _ rfl ho h2 (by omega) fun _=>?_⟩
     rw[← hsz,Nat.add_mul,Nat.add_zero]
    ·cases h
   ·cases h
  ·rename_i key off m sz' ag
   simp only[Option.ite_none_right_eq_some,Ywh]at h
   obtain⟨⟨hlt,rfl⟩,rfl⟩:=h
   cases hr with
   |bsl _ _ _ _ _ o cap ho hrow hone _=>exact⟨_,go _ _ _ _ rfl hlt,.ptr _ _ o ho hrow hone⟩
  ·cases h
theorem yqi{i:D}{n y:Nat}{vi:Value}{code:BoundsCode}(h:yd5 i=some n)(hi:RepV w g st i vi)(hle:n≤y):(Instr.sliceBound vi y code).run P w=.ok n w:=by
 obtain⟨k,rfl⟩:=yj7 h hi
 have:(0:Int)≤(n:Int)∧(n:Int)≤(y:Int):=by omega
 simp[Instr.sliceBound,asIntOf,this]
theorem yoa{lo hi:Option D}{vlo vhi:Option Value}{l h len cap:Nat}{sl:Bool}(hl:bnd lo 0=some l)(hh:bnd hi len=some h)
  (rlo:∀ d v,lo=some d→vlo=some v→RepV w g st d v) (rhi:∀ d v,hi=some d→vhi=some v→RepV w g st d v) (slo:lo.isSome=vlo.isSome) (shi:hi.isSome=vhi.isSome)
  (hle:l≤h) (hcap:h≤cap):(Instr.sliceBounds sl len cap vlo vhi none).run P w=.ok (l,h,cap) w:=by
 have e2:∀ v d,vlo=some v→lo=some d→(Instr.sliceBound v h .sliceB).run P w=.ok l w:=by
  intro v d hv hd
  subst hd
  simp only[bnd]at hl
  exact yqi hl (rlo d v rfl hv) hle
 have e1:∀ v d code,vhi=some v→hi=some d→(Instr.sliceBound v cap code).run P w=.ok h w:=by
  intro v d code hv hd
  subst hd
  simp only[bnd]at hh
  exact yqi hh (rhi d v rfl hv) hcap
 cases hi <;> cases vhi <;> simp only[Option.isSome_none,Option.isSome_some,reduceCtorEq]at shi <;> cases lo <;> cases vlo <;> simp only[Option.isSome_none,Option.isSome_some,reduceCtorEq]at slo <;>
  simp only[bnd,Ywh]at hl hh
 ·subst hl; subst hh; simp[Instr.sliceBounds]
 ·subst hh; simp[Instr.sliceBounds,e2 _ _ rfl rfl]
 ·subst hl; simp[Instr.sliceBounds,e1 _ _ _ rfl rfl]
 ·simp[Instr.sliceBounds,e1 _ _ _ rfl rfl,e2 _ _ rfl rfl]
theorem yNr{lo:Option D}{vlo:Option Value}{dh dm:D}{vh vm:Value}{l h len cap:Nat}{sl:Bool}(hl:bnd lo 0=some l)(hh:yd5 dh=some h)(hm:yd5 dm=some h)
  (rlo:∀ d v,lo=some d→vlo=some v→RepV w g st d v) (rhi:RepV w g st dh vh) (rmx:RepV w g st dm vm) (slo:lo.isSome=vlo.isSome)
  (hle:l≤h) (hcap:h≤cap):(Instr.sliceBounds sl len cap vlo (some vh) (some vm)).run P w=.ok (l,h,h) w:=by
 have e2:∀ v d,vlo=some v→lo=some d→(Instr.sliceBound v h .slice3C).run P w=.ok l w:=by
  intro v d hv hd
  subst hd
  simp only[bnd]at hl
  exact yqi hl (rlo d v rfl hv) hle
 have e3:∀ code,(Instr.sliceBound vm cap code).run P w=.ok h w:=fun code=>yqi hm rmx hcap
 have e4:∀ code,(Instr.sliceBound vh h code).run P w=.ok h w:=fun code=>yqi hh rhi (Nat.le_refl _)
 cases lo <;> cases vlo <;> simp only[Option.isSome_none,Option.isSome_some,reduceCtorEq]at slo <;> simp only[bnd,Ywh]at hl
 ·subst hl; simp[Instr.sliceBounds,e3,e4]
 ·simp[Instr.sliceBounds,e3,e4,e2 _ _ rfl rfl]
theorem ywc{els:List D}{l h i j:Nat}{d:D}(hd:ybm ((els.take h).drop l) i j=some d):ybm els (l+i) j=some d∧l+i<h:=by
 obtain⟨e,he,hd⟩:=yap hd
 rw[List.getElem?_drop,List.getElem?_take]at he
 split at he
 ·rename_i hi; exact⟨ya5 he hd,hi⟩
 ·cases he
theorem Ylp{sz:Nat}{els:List D}{tg tg':Bool}{a:Option Addr}{cap l h m:Nat}(hr:RepV w g st (.slc sz els tg) (.slice a els.length cap))(hle:l≤h)(hh:h≤els.length)(hm:h≤m)(ht:tg'=true→m=h) :
  RepV w g st (.slc sz ((els.take h).drop l) tg') (.slice (if m=l then a else a.map (·.add (l*sz))) (h - l) (m - l)):=by
 have hlen:((els.take h).drop l).length=h - l:=by rw[List.length_drop,List.length_take]; omega
 rw[← hlen]
 by_cases hz:(els.take h).drop l=[]
 ·rw[hz]
  refine .slcE _ _ _ _ fun e=>?_
  have:=ht e
  rw[hz]at hlen
  simp at hlen
  omega
 ·have hlt:l<h:=by
   rcases Nat.lt_or_ge l h with h1 | h1
   ·exact h1
   ·exfalso; apply hz; apply List.eq_nil_of_length_eq_zero; omega
  rw[if_neg (by omega)]
  cases hr with
  |slcE=>simp at hz
  |slc _ _ b off cap _ val h1 h2 h3 h3' h4 h5 h6 h7=>
   simp only[Option.map_some,yg9]
   refine .slc _ _ _ _ _ _ (fun i j=>val (l+i) j) hz h2 ?_ ?_ (by omega) (fun e=>by have:=ht e; omega) ?_ ?_
   ·intro e he
    exact h3 e (List.mem_of_mem_take (List.mem_of_mem_drop he))
   ·intro i j d hd; exact h3' _ _ _ (ywc hd).1
   ·intro i j d hd
    have:=h6 _ _ _ (ywc hd).1
    rw[Nat.add_mul,← Nat.add_assoc]at this
    exact this
   ·intro i j d hd; exact h7 _ _ _ (ywc hd).1
theorem yMc{lo:Option D}{x:Option Operand}{pa:Option PA}{ρ:PA→D}{ev:Operand→Value}(h:trO x=some pa)(hlo:lo=pa.map ρ)(hev:∀ x pa,trA x=some pa→RepV w g st (ρ pa) (ev x)) :
  (∀ d v,lo=some d→x.map ev=some v→RepV w g st d v)∧lo.isSome=(x.map ev).isSome:=by
 cases x with
 |none=>simp[trO]at h; subst h; subst hlo; simp
 |some x=>
  simp only[trO,Ywi]at h
  obtain⟨a,ha,rfl⟩:=h
  subst hlo
  refine⟨?_,rfl⟩
  intro d v h1 h2
  simp at h1 h2
  subst h1; subst h2
  exact hev x a ha
theorem yCe(hS:SR base w g st){t:TypeId}{sz:Nat}{x d:D}{lo hi mx:Option D}{vlo vhi vmx:Option Value}{v:Value}
  (ht:(sz=0∧P.underlying t=some .string)∨(sz≠0∧∃ e,P.underlying t=some (.slice e)∧szOf P e=some sz))
  (h:yc6 st sz x lo hi mx=some d) (hr:RepV w g st x v)
  (rlo:(∀ d v,lo=some d→vlo=some v→RepV w g st d v)∧lo.isSome=vlo.isSome) (rhi:(∀ d v,hi=some d→vhi=some v→RepV w g st d v)∧hi.isSome=vhi.isSome)
  (rmx:(∀ d v,mx=some d→vmx=some v→RepV w g st d v)∧mx.isSome=vmx.isSome) :
  ∃ u,(Instr.sliceAt t v vlo vhi vmx).run P w=.ok u w∧RepV w g st d u:=by
 unfold yc6 at h
 split at h
 ·rename_i s
  obtain rfl:=yi0 hr
  split at h
  ·rename_i l h' hl hh
   simp only[Option.ite_none_right_eq_some,Ywh]at h
   obtain⟨⟨h0,h1,h2⟩,rfl⟩:=h
   have hu:P.underlying t=some .string:=by
    rcases ht with⟨_,h⟩ | ⟨h,_⟩
    ·exact h
    ·exact absurd h0 h
   have hm:vmx=none:=by
    cases vmx with
    |none=>rfl
    |some _=>simp at rmx
   subst hm
   have hb:=yoa (P:=P) (w:=w) (g:=g) (st:=st) (sl:=false) hl hh rlo.1 rhi.1 rlo.2 rhi.2 h1 h2
   refine⟨.string ((ByteArray.mk s.toArray).extract l h'),?_,yK4 _ _ ?_⟩
   ·simp only[Instr.sliceAt,Sem.run_bind,run_underlying hu,Result.andThen_ok,Instr.slice,Option.isSome_none,Bool.false_eq_true,if_false]
    have e:ByteArray.size ⟨s.toArray⟩=s.length:=by simp[ByteArray.size]
    rw[e,hb]
    rfl
   ·rw[Lib.extract_data]
    simp[List.drop_take]
  ·cases h
 ·rename_i sz' els tg
  split at h
  case isFalse=>cases h
  rename_i hsz
  simp only[Bool.and_eq_true,bne_iff_ne,ne_eq]at hsz
  obtain⟨hsz,hs0⟩:=hsz
  obtain⟨_,e,hu,hn⟩:=ht.resolve_left (fun h=>hs0 h.1)
  have hv:∃ a cap,v=.slice a els.length cap:=by
   cases hr with
   |slcE _ _ a cap h=>exact⟨a,cap,rfl⟩
   |slc _ _ b off cap _ val h1=>exact⟨_,cap,rfl⟩
  obtain⟨a,cap,rfl⟩:=hv
  have hcapl:els.length≤cap:=by
   cases hr with
   |slcE _ _ a cap h=>simp
   |slc _ _ b off cap _ val h1 h2 h3 h3' h4=>exact h4
  split at h
  ·rename_i l h' hl hh
   have final:∀ (tg':Bool) (m:Nat),l≤h'→h'≤els.length→h'≤m→(tg'=true→m=h')→RepV w g st (.slc sz' ((els.take h').drop l) tg') (.slice (if m=l then a else a.map (·.add (l*sz))) (h' - l) (m - l)):=by
    intro tg' m h1 h2 h3 h4
    have:=Ylp (tg':=tg') hr h1 h2 h3 h4
    simp only[Bool.or_eq_true,beq_iff_eq,List.isEmpty_iff]at hsz
    rcases hsz with rfl | rfl
    ·exact this
    ·have hz:((([]:List D).take h').drop l)=[]:=by simp
     rw[hz]at this ⊢
     simp at h2
     have e1:h' - l=0:=by omega
     rw[e1]at this ⊢
     exact .slcE _ _ _ _ fun e=>by have:=h4 e; omega
   split at h
   ·simp only[Option.ite_none_right_eq_some,Ywh]at h
    obtain⟨⟨h1,h2⟩,rfl⟩:=h
    have hm:vmx=none:=by
     cases vmx with
     |none=>rfl
     |some _=>simp at rmx
    subst hm
    have hb:=yoa (P:=P) (w:=w) (g:=g) (st:=st) (sl:=true) hl hh rlo.1 rhi.1 rlo.2 rhi.2 h1 (Nat.le_trans h2 hcapl)
    refine⟨_,?_,final _ cap h1 h2 (Nat.le_trans h2 hcapl) ?_⟩
    ·simp only[Instr.sliceAt,Sem.run_bind,run_underlying hu,Result.andThen_ok,Instr.slice,hb,ycz hn]
     rfl
    ·intro e
     simp only[Bool.and_eq_true,beq_iff_eq]at e
     cases hr with
     |slcE _ _ a cap h5=>have:=h5 e.1; simp at h2; omega
     |slc _ _ b off cap _ val _ _ _ _ _ h5=>have:=h5 e.1; omega
   ·rename_i m
    simp only[Option.ite_none_right_eq_some,Ywh]at h
    obtain⟨⟨h1,h2,h3,h4⟩,rfl⟩:=h
    cases vmx with
    |none=>simp at rmx
    |some vm=>
     cases hi with
     |none=>simp at h4
     |some dh=>
      cases vhi with
      |none=>simp at rhi
      |some vh=>
       simp only[bnd]at hh
       have hb:=yNr (P:=P) (len:=els.length) (sl:=true) hl hh h3 rlo.1 (rhi.1 dh vh rfl rfl) (rmx.1 m vm rfl rfl) rlo.2 h1 (Nat.le_trans h2 hcapl)
       refine⟨_,?_,final true h' h1 h2 (Nat.le_refl _) (fun _=>rfl)⟩
       simp only[Instr.sliceAt,Sem.run_bind,run_underlying hu,Result.andThen_ok,Instr.slice,hb,ycz hn]
       rfl
  ·cases h
 ·rename_i key tot off len
  split at h
  ·rename_i o ho
   split at h
   ·rename_i hc
    simp only[Bool.and_eq_true,beq_iff_eq,bne_iff_ne,ne_eq]at hc
    obtain⟨⟨⟨hrow,hsz⟩,htot⟩,hs0⟩:=hc
    obtain⟨_,e,hu,hn⟩:=ht.resolve_left (fun h=>hs0 h.1)
    obtain⟨ob,h1,h2,h3,rfl,h5⟩:=yun (by simp[live,ho,hrow,htot]) hr
    obtain rfl:ob=o:=Option.some.inj (h1.symm.trans ho)
    obtain⟨C,e',hb',_,hszp,hx,hC,hrep⟩:=hS.blk key ob ho (ycc hrow)
    rw[hrow]at hC
    simp only[if_true]at hC
    split at h
    ·rename_i l h' hl hh
     have hm:vmx=none:=by
      cases vmx with
      |none=>rfl
      |some _=>simp at rmx
     subst hm
     split at h
     ·rename_i hlh
      have hb:=yoa (P:=P) (w:=w) (g:=g) (st:=st) (sl:=true) (cap:=g.γ key - off) hl hh rlo.1 rhi.1 rlo.2 rhi.2 hlh.1 (by omega)
      have hrun:(Instr.sliceAt t (.slice (some ⟨g.β key,off*ob.sz,none⟩) len (g.γ key - off)) vlo vhi none).run P w=.ok (.slice (if g.γ key - off=l then some ⟨g.β key,off*ob.sz,none⟩else some ⟨g.β key,off*ob.sz+l*sz,none⟩) (h' - l) (g.γ key - off - l)) w:=by
       simp only[Instr.sliceAt,Sem.run_bind,run_underlying hu,Result.andThen_ok,Instr.slice,hb,ycz hn,Option.map_some,yg9]
       rfl
      refine⟨_,hrun,?_⟩
      split at h
      ·rename_i h6
       simp only[Ywh]at h
       subst h
       obtain⟨rfl,rfl⟩:=h6
       simpa using hr
      ·split at h
       ·simp only[Ywh]at h
        subst h
        rename_i h7
        rw[h7,Nat.sub_self]
        exact .slcE _ _ _ _ fun e=>by cases e
       ·simp only[Ywh]at h
        subst h
        rw[if_neg (by omega)]
        refine .row _ _ _ _ ob _ rfl ho hrow (by omega) fun _=>⟨?_,by omega⟩
        rw[hsz,Nat.add_mul,Nat.sub_sub]
     ·cases h
    ·cases h
   ·cases h
  ·cases h
 ·cases h
end
end Go.Proofs.YtijnglngaogdjaaGreatDoor.PI
namespace Go.Proofs.YtijnglngaogdjaaGreatDoor.PI
open Go Go.RowKit
section
variable {P:Program} {base:Nat} {w:World} {g:Ghost} {st:St}
theorem yL1{t elem:TypeId}{n sz:Nat}{ag:Bool}{x d:D}{lo hi:Option D}{vlo vhi:Option Value}{v:Value}(ht:P.underlying t=some (.array n elem))(hn:szOf P elem=some sz)
  (h:ypt n sz ag x lo hi=some d) (hr:RepV w g st x v)
  (rlo:(∀ d v,lo=some d→vlo=some v→RepV w g st d v)∧lo.isSome=vlo.isSome) (rhi:(∀ d v,hi=some d→vhi=some v→RepV w g st d v)∧hi.isSome=vhi.isSome) :
  ∃ u,(Instr.sliceAt t v vlo vhi none).run P w=.ok u w∧RepV w g st d u:=by
 unfold ypt at h
 split at h
 ·rename_i l h' hl hh
  split at h
  ·rename_i hle
   have hb:=yoa (P:=P) (w:=w) (g:=g) (st:=st) (sl:=false) (cap:=n) hl hh rlo.1 rhi.1 rlo.2 rhi.2 hle.1 hle.2
   have hrun:∀ a:Addr,(Instr.sliceAt t (.pointer (some a)) vlo vhi none).run P w=.ok (.slice (some (if n=l then a else a.add (l*sz))) (h' - l) (n - l)) w:=by
    intro a
    simp only[Instr.sliceAt,Sem.run_bind,run_underlying ht,Result.andThen_ok,Instr.sureAddr,Sem.run_pure,hb,ycz hn]
   split at h
   ·cases hr with
    |ptr key off o ho hrow hone=>
     refine⟨_,hrun _,?_⟩
     split at h
     ·rename_i e
      simp only[Ywh]at h; subst h
      rw[e,Nat.sub_self]
      exact .slcE _ _ _ _ fun e=>by cases e
     ·simp only[Ywh]at h; subst h
      rw[if_neg (by omega),yg9]; exact .bsl _ _ _ _ _ o _ ho hrow hone (by omega)
   ·rename_i el off
    cases hr with
    |eptr _ _ b o val hp h4 h5=>
     refine⟨_,hrun _,?_⟩
     split at h
     ·rename_i e
      simp only[Ywh]at h; subst h
      rw[e,Nat.sub_self]
      exact .slcE _ _ _ _ fun e=>by cases e
     ·rw[if_neg (by omega)]
      simp only[Option.ite_none_right_eq_some,Ywh,Bool.and_eq_true,decide_eq_true_eq,Bool.or_eq_true,beq_iff_eq]at h
      obtain⟨⟨⟨h1,h2⟩,h3⟩,rfl⟩:=h
      have hm:(h' - l)*sz≤(el.cells.drop (off+l*sz)).length:=by
       rw[List.length_drop]
       have:h'*sz≤n*sz:=Nat.mul_le_mul_right _ hle.2
       have e1:(h' - l)*sz=h'*sz - l*sz:=Nat.sub_mul _ _ _
       omega
      obtain⟨c1,c2,c3⟩:=ywb h2 h3 (h' - l) (el.cells.drop (off+l*sz)) hm (fun x hx=>by
       obtain⟨i,hi⟩:=List.mem_iff_getElem?.1 (List.mem_of_mem_drop hx)
       exact yns (hp i x hi))
      rw[yg9]
      have goal:=RepV.slc_mk (w:=w) (g:=g) (st:=st) (els:=yn7 sz ag (el.cells.drop (off+l*sz)) (h' - l)) (t:=h' == n) (b:=b) (off:=o+off+l*sz) (cap:=n - l) h2 c2 (by rw[c1]; omega) (fun e=>by rw[c1]; simp at e; omega) (by
       intro i j d hd
       obtain⟨h6,h7,h8⟩:=c3 i j d hd
       rw[List.getElem?_drop]at h6
       refine⟨hp _ _ h6,?_,val _,?_,h5 _ _ h6⟩
       ·have:=(h4 _ _ h6).1
        rwa [show o+(off+l*sz+(i*sz+j))=o+off+l*sz+i*sz+j by omega]at this
       ·have:=(h4 _ _ h6).2
        rwa [show o+(off+l*sz+(i*sz+j))=o+off+l*sz+i*sz+j by omega]at this)
      rw[c1]at goal
      exact goal
   ·cases h
  ·cases h
 ·cases h
theorem yOx{t:TypeId}{n off:Nat}{ag:Bool}{ds:List D}{vs:List Value}(ha:agOf P t=some ag)(hn:szOf P t=some n)(hag:ag=true∨n=1)(hl:ds.length=vs.length)(hle:off+n≤ds.length)
  (h:∀ (i:Nat) d v,ds[i]?=some d→vs[i]?=some v→RepV w g st d v):∃ u,(part t vs.toArray off).run P w=.ok u w∧RepV w g st (.mk ag ((ds.drop off).take n)) u:=by
 cases ag with
 |true=>
  refine⟨.agg ((vs.drop off).take n).toArray,?_,?_⟩
  ·have:vs.toArray.extract off (off+n)=((vs.drop off).take n).toArray:=by
    apply Array.ext'
    simp[List.take_drop,Nat.add_comm]
   simp only[part,Sem.run_bind,ymt ha,Result.andThen_ok,if_true,ycz hn,this,Sem.run_pure]
  ·refine .agg _ _ (by simp[hl]) ?_
   intro i d v hd hv
   obtain⟨h1,h2⟩:=yg7 hd
   rw[List.getElem?_take,if_pos h2,List.getElem?_drop]at hv
   exact h _ _ _ h1 hv
 |false=>
  obtain rfl:n=1:=hag.resolve_left (by simp)
  have h1:off<ds.length:=by omega
  have h2:off<vs.length:=by omega
  refine⟨vs[off],?_,?_⟩
  ·simp[part,ymt ha,h2]
  ·have e:D.mk false ((ds.drop off).take 1)=ds[off]:=by
    simp[D.mk,List.take_one,List.head?_drop,h1]
   rw[e]
   exact h off _ _ (List.getElem?_eq_getElem h1) (List.getElem?_eq_getElem h2)
theorem yW9{xt:TypeId}{fields:Array Field}{f:Nat}{fd:Field}{n:Nat}{ag:Bool}{x d:D}{v:Value}(hs:P.underlying xt=some (.struct fields))(hf:fields[f]?=some fd)(ha:agOf P fd.type=some ag)(hn:szOf P fd.type=some n)
  (h:yzj fd.offset n ag x=some d) (hr:RepV w g st x v):∃ u,(Instr.field xt v f).run P w=.ok u w∧RepV w g st d u:=by
 unfold yzj at h
 split at h
 ·simp only[Option.ite_none_right_eq_some,Ywh,Bool.and_eq_true,decide_eq_true_eq,Bool.or_eq_true,beq_iff_eq]at h
  obtain⟨⟨h1,h2⟩,rfl⟩:=h
  cases hr with
  |agg ds vs h3 h4=>
   obtain⟨u,h5,h6⟩:=yOx (P:=P) (w:=w) (g:=g) (st:=st) ha hn h2 h3 h1 h4
   exact⟨u,by simp[Instr.field,run_underlying hs,hf,asAgg,h5],h6⟩
 ·cases h
theorem yW3{xt elem:TypeId}{len n:Nat}{ag:Bool}{x i d:D}{v vi:Value}(hs:P.underlying xt=some (.array len elem))(ha:agOf P elem=some ag)(hn:szOf P elem=some n)
  (h:yIf len n ag x i=some d) (hr:RepV w g st x v) (hi:RepV w g st i vi):∃ u,(Instr.index xt v vi).run P w=.ok u w∧RepV w g st d u:=by
 unfold yIf at h
 split at h
 ·rename_i j hj
  simp only[Option.ite_none_right_eq_some]at h
  obtain⟨hlt,h⟩:=h
  obtain⟨k,rfl⟩:=yj7 hj hi
  unfold yzj at h
  split at h
  ·simp only[Option.ite_none_right_eq_some,Ywh,Bool.and_eq_true,decide_eq_true_eq,Bool.or_eq_true,beq_iff_eq]at h
   obtain⟨⟨h1,h2⟩,rfl⟩:=h
   cases hr with
   |agg ds vs h3 h4=>
    obtain⟨u,h5,h6⟩:=yOx (P:=P) (w:=w) (g:=g) (st:=st) ha hn h2 h3 h1 h4
    refine⟨u,?_,h6⟩
    have:(0:Int)≤(j:Int)∧(j:Int)<(len:Int):=by omega
    simp[Instr.index,asIntOf,run_underlying hs,this,ycz hn,h5]
    intro; omega
  ·cases h
 ·cases h
theorem Yeu{xt:TypeId}{x i d:D}{v vi:Value}(hs:P.underlying xt=some .string)(h:pidx x i=some d)(hr:RepV w g st x v)(hi:RepV w g st i vi):∃ u,(Instr.index xt v vi).run P w=.ok u w∧RepV w g st d u:=by
 unfold pidx at h
 split at h
 ·rename_i s j hj
  split at h
  ·rename_i b hb
   simp only[Ywh]at h; subst h
   obtain⟨k,rfl⟩:=yj7 hj hi
   obtain rfl:=yi0 hr
   refine⟨.int .u8 b.toNat,?_,.int _ _⟩
   have h1:j<s.length:=(List.getElem?_eq_some_iff.1 hb).1
   have h2:(ByteArray.mk s.toArray)[j]?=some b:=by
    have:j<(ByteArray.mk s.toArray).size:=by simpa[ByteArray.size]using h1
    rw[getElem?_pos (ByteArray.mk s.toArray) j this]
    have e:=List.getElem?_eq_some_iff.1 hb
    obtain⟨_,e⟩:=e
    rw[← e]
    rfl
   simp[Instr.index,asIntOf,run_underlying hs,h2]
  ·cases h
 ·cases h
theorem yOd{t:TypeId}{x:D}{n:Nat}{v:Value}(ht:P.underlying t=some .string∨∃ e,P.underlying t=some (.slice e))(hst:P.underlying t=some .string↔∃ s,x=.str s)(h:sLen st x=some n)(hr:RepV w g st x v)(ty:TypeId) :
  (Builtin.len_ #[t] ty #[v]).run P w=.ok (.int .i64 (n:Int)) w:=by
 have sl:∀ a l c,v=.slice a l c→(∀ s,x≠.str s)→(Builtin.len_ #[t] ty #[v]).run P w=.ok (.int .i64 (l:Int)) w:=by
  intro a l c hv hne
  subst hv
  have hns:¬ P.underlying t=some .string:=by
   intro e
   obtain⟨s,hs⟩:=hst.1 e
   exact hne s hs
  obtain⟨e,he⟩:=ht.resolve_left hns
  simp[Builtin.len_,run_underlying he,goInt]
 unfold sLen at h
 split at h
 ·simp only[Ywh]at h; subst h
  obtain⟨⟨a,cap,hv,_⟩,_,_⟩:=yy7 hr
  exact sl _ _ _ hv (by intro s hs; cases hs)
 ·split at h
  ·simp only[Ywh]at h; subst h
   rename_i hl
   obtain⟨_,_,_,_,hv,_⟩:=yun hl hr
   exact sl _ _ _ hv (by intro s hs; cases hs)
  ·cases h
 ·simp only[Ywh]at h; subst h
  cases hr with
  |bsl=>exact sl _ _ _ rfl (by intro s hs; cases hs)
 ·simp only[Ywh]at h; subst h
  obtain rfl:=yi0 hr
  have hu:=hst.2 ⟨_,rfl⟩
  rename_i s
  have e:ByteArray.size ⟨s.toArray⟩=s.length:=by simp[ByteArray.size]
  simp[Builtin.len_,run_underlying hu,goInt,e]
 ·cases h
theorem yUg{d:D}{b:UInt8}{v:Value}(h:yKi d=some b)(hr:RepV w g st d v):v=.int .u8 (b.toNat:Int):=by
 unfold yKi at h
 split at h
 ·simp only[Option.ite_none_right_eq_some,Ywh]at h
  obtain⟨⟨h1,h2⟩,rfl⟩:=h
  obtain rfl:=ydt hr
  congr 1
  rw[UInt8.toNat_ofNat']
  omega
 ·cases h
theorem yBa:∀ {ds:List D} {bs:List UInt8},ys4 ds=some bs→bs.length=ds.length∧∀ (i:Nat) b,bs[i]?=some b→∃ d,ds[i]?=some d∧yKi d=some b
 |[],bs,h=>by simp[ys4]at h; subst h; exact⟨rfl,fun i b h=>by simp at h⟩
 |d::l,bs,h=>by
  unfold ys4 at h
  split at h
  ·rename_i x y hx hy
   simp only[Ywh]at h; subst h
   obtain⟨h1,h2⟩:=yBa hy
   refine⟨by simp[h1],fun i b hb=>?_⟩
   cases i with
   |zero=>simp at hb; subst hb; exact⟨d,rfl,hx⟩
   |succ i=>simp at hb; exact h2 i b hb
  ·cases h
theorem yAt{src dst e:TypeId}{els:List D}{sz:Nat}{bs:List UInt8}{v:Value}(hs:P.underlying src=some (.slice e))(he:P.underlying e=some (.int .u8))(hd:P.underlying dst=some .string)
  (hE:Els w g st v sz els) (hsz:sz=1∨els=[]) (hb:ys4 els=some bs):(convert src dst v).run P w=.ok (.string ⟨bs.toArray⟩) w:=by
 obtain⟨⟨a,cap,rfl,hsh⟩,hpure,hlen⟩:=hE
 obtain⟨h1,h2⟩:=yBa hb
 by_cases hn:els=[]
 ·subst hn
  have:bs=[]:=List.eq_nil_of_length_eq_zero h1
  subst this
  rw[run_convert_bytes_string w src dst e a _ cap hs he hd]
  cases a with
  |none=>simp[Conv.bytesToString]; rfl
  |some a=>simp[Conv.bytesToString,loadCells,loadCellsFrom]; rfl
 ·obtain⟨b,off,rfl,h0,hc⟩:=hsh hn
  obtain rfl:sz=1:=hsz.resolve_right hn
  rw[← h1]
  refine run_convert_bytes_back w src dst e ⟨b,off,none⟩ cap bs hs he hd ?_
  intro j hj
  obtain⟨d,hd1,hd2⟩:=h2 j bs[j] (List.getElem?_eq_getElem hj)
  have hdc:d.cells=[d]:=by
   unfold yKi at hd2
   split at hd2
   ·rfl
   ·cases hd2
  obtain⟨u,h3,h4,_⟩:=hc j 0 d (ya5 hd1 (by rw[hdc]; rfl))
  rw[yg9]
  rw[yUg hd2 h4]at h3
  simpa using h3
end
end Go.Proofs.YtijnglngaogdjaaGreatDoor.PI
