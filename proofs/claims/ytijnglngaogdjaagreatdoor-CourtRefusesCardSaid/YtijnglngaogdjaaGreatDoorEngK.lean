/-
  Each operation of the model does what its pure counterpart does: make, append, the bytes of a string.
  Conditions: none; these are lemmas.
-/
import Derived.Test.YtijnglngaogdjaaGreatDoorProg
import Derived.WalkKit
import Derived.Deep.LoopGhost
import Derived.Orders
import Derived.Lib.Strings
import Derived.Laws.IdiomStrings
import Derived.Great.BuildSlice
open BitVec renaming ofInt→CH
open ByteArray renaming size→CO
open List renaming range→CI,replicate→CF
set_option linter.unusedVariables false
set_option linter.unusedSimpArgs false
namespace Go.Proofs.YtijnglngaogdjaaGreatDoor.PI
open Go
abbrev Aa:=@List.cons.injEq
abbrev Ab:=@List.length_append
abbrev Ac:=@List.getElem?_eq_some_iff
abbrev Ad:=@List.append_nil
abbrev Ae:=@List.cons_append
abbrev Af:=@Bool.and_eq_true
abbrev Ag:=@List.append_assoc
abbrev Ah:=@Option.map_some
abbrev Ai:=@List.nil_append
abbrev Aj:=@List.all_eq_true
abbrev Ak:=@List.length_cons
abbrev Al:=@Bool.false_eq_true
abbrev Am:=@Nat.zero_add
abbrev An:=@List.getElem?_eq_getElem
abbrev Ao:=@List.getD_eq_getElem?_getD
abbrev Ap:=@List.length_nil
abbrev Aq:=@List.mem_of_getElem?
abbrev Ar:=@List.mem_cons_of_mem
abbrev As:=@Option.ite_none_right_eq_some
abbrev At:=@List.flatMap_cons
abbrev Au:=@List.getElem?_append_left
abbrev Av:=@Bool.not_false
abbrev Aw:=@List.mem_cons
abbrev Ax:=@List.map_cons
abbrev Ay:=@Option.bind_eq_some_iff
abbrev Az:=@Bool.and_self
abbrev AA:=@Prod.mk.injEq
abbrev AB:=@List.not_mem_nil
abbrev AD:=@Option.some.inj
abbrev AE:=@Nat.le_refl
abbrev AF:=@Bool.or_false
abbrev AG:=@Array.getElem?_eq_some_iff
abbrev AH:=@List.getElem?_cons_zero
abbrev AI:=@List.getElem?_append_right
abbrev AJ:=@List.getElem?_map
abbrev AK:=@List.mem_append
abbrev AL:=@List.getElem?_set_ne
abbrev AM:=@List.mem_singleton
abbrev AN:=@Option.some.injEq
abbrev AO:=@List.eq_nil_of_length_eq_zero
abbrev AP:=@Nat.mul_le_mul_right
abbrev AQ:=@List.length_take
abbrev AR:=@Bool.not_eq_true'
abbrev AS:=@Nat.le_trans
abbrev AT:=@Option.getD_none
abbrev AU:=@List.take_of_length_le
abbrev AV:=@List.mem_map
abbrev AW:=@List.mem_range
abbrev AX:=@List.length_drop
abbrev AY:=@Nat.lt_of_lt_of_le
abbrev AZ:=@List.mem_iff_getElem?
abbrev A0:=@Nat.add_mul
abbrev A1:=@List.mk_mem_zipIdx_iff_getElem?
abbrev A2:=@List.append_inj
abbrev A3:=@List.all_cons
abbrev A4:=@Nat.mod_eq_of_lt
abbrev A5:=@List.mem_filter
abbrev A6:=@Nat.lt_or_ge
abbrev A7:=@List.mem_cons_self
abbrev A8:=@Bool.or_eq_true
abbrev A9:=@List.contains_iff_mem
abbrev Ba:=@List.drop_length
abbrev Bb:=@List.ext_getElem?
abbrev Bc:=@Int.eq_ofNat_of_zero_le
abbrev Bd:=@List.length_map
abbrev Be:=@List.drop_eq_getElem_cons
abbrev Bf:=@List.take_length
abbrev Bg:=@Nat.zero_le
abbrev Bh:=@Int.toNat_natCast
abbrev Bi:=@List.range_eq_range'
abbrev Bj:=@List.mem_flatMap
abbrev Bk:=@List.map_nil
abbrev Bl:=@Option.bind_some
abbrev Bm:=@Option.bind_eq_bind
abbrev Bn:=@List.set_cons_zero
abbrev Bo:=@List.getElem?_cons_succ
abbrev Bp:=@Bool.true_and
abbrev Bq:=@List.drop_drop
abbrev Bs:=@List.mapM_cons
abbrev Bt:=@List.drop_zero
abbrev Bu:=@Nat.one_mul
abbrev Bv:=@List.map_append
abbrev Bw:=@List.all_append
abbrev Bx:=@List.getElem?_set_self
abbrev By:=@List.getElem_mem
abbrev Bz:=@List.getElem?_eq_none
abbrev BA:=@List.take_append_drop
abbrev BB:=@Array.getElem?_eq_getElem
abbrev BC:=@Array.toArray_toList
abbrev BD:=@Option.pure_def
abbrev BE:=@Nat.and_two_pow_sub_one_eq_mod
abbrev BF:=@List.isEmpty_iff
abbrev BG:=@List.flatMap_nil
abbrev BH:=@Option.map_eq_some_iff
abbrev BI:=@List.getElem?_take
abbrev BJ:=@Array.empty_append
abbrev BK:=@Nat.sub_self
abbrev BL:=@Nat.mul_one
abbrev BM:=@List.length_replicate
abbrev BN:=@Int.tdiv_eq_ediv_of_nonneg
abbrev BO:=@List.set_append_left
abbrev BP:=@List.getElem?_eq_none_iff
abbrev BQ:=@List.mem_or_eq_of_mem_set
abbrev BR:=@List.range'_succ
abbrev BS:=@List.map_congr_left
abbrev BT:=@List.filter_eq_self
abbrev BU:=@List.replicate_succ
abbrev BV:=@Nat.add_zero
abbrev BW:=@List.getElem?_drop
abbrev BX:=@Bool.and_true
abbrev BY:=@Option.isSome_none
abbrev BZ:=@Option.isSome_some
abbrev B0:=@Bool.eq_iff_iff
abbrev B1:=@List.map_take
abbrev B2:=@Nat.eq_zero_or_pos
abbrev B3:=@Nat.min_eq_left
abbrev B4:=@List.flatMap_eq_nil_iff
abbrev B5:=@List.set_eq_take_append_cons_drop
abbrev B6:=@List.length_set
abbrev B7:=@List.replicate_append_replicate
abbrev B8:=@Array.getElem?_modify
abbrev B9:=@Nat.zero_mul
abbrev Ca:=@Array.getElem?_toList
abbrev Cb:=@List.set_append_right
abbrev Cc:=@Int.mul_le_mul_of_nonneg_right
abbrev Cd:=@Int.ediv_mul_add_emod
abbrev Ce:=@Option.getD_some
abbrev Cf:=@Int.ediv_le_self
abbrev Cg:=@List.mem_of_mem_drop
abbrev Ch:=@List.getElem?_of_mem
abbrev Ci:=@List.map_drop
abbrev Cj:=@Array.length_toList
abbrev Ck:=@Int.ediv_nonneg
abbrev Cl:=@Nat.add_sub_cancel
abbrev Cm:=@Array.foldl_toList
abbrev Cn:=@Nat.le_of_lt
abbrev Co:=@List.set_cons_succ
abbrev Cp:=@Prod.ext_iff
abbrev Cq:=@List.size_toArray
abbrev Cr:=@List.filter_congr
abbrev Cs:=@List.take_add
abbrev Ct:=@List.nodup_range
abbrev Cu:=@Nat.lt_succ_self
abbrev Cv:=@BitVec.toNat_and
abbrev Cw:=@List.drop_append
abbrev Cx:=@Nat.mul_comm
abbrev Cy:=@List.all_nil
variable {α:Type _}
theorem C3(a b : α) : (some a=some b)=(a=b):=AN a b
variable {β:Type _}
theorem Dv{x : Option α}{f : α→β}{b : β} : Option.map f x=some b↔∃ a, x=some a∧f a=b:=BH
theorem Dk(a : α)(b : β)(c : α)(d : β) : ((a, b)=(c, d))=(a=c∧b=d):=AA a b c d
inductive D where
 |int (k:IntKind) (n:Int)
 |bool (b:Bool)
 |str (s:List UInt8)
 |slc (sz:Nat) (els:List D) (tight:Bool)
 |row (key tot off len:Nat)
 |bsl (key off n sz:Nat) (ag:Bool)
 |ptr (key off:Nat)
 |rptr (key tot i off:Nat)
 |eptr (el:D) (off:Nat)
 |agg (cells:List D)
 |tup (vs:List D)
 |clo (f:Nat) (caps:List D)
 |nilf
 |nilp
 /-- a map in the store -/
 |mapv (key:Nat)
 |nilm
 /-- a table of functions,by integers,that nobody changes -/
 |gmap (es:List (Int×Nat))
 |junk
 deriving Inhabited
namespace D
def cells:D→List D
 |.agg l=>l
 |d=>[d]
def isCell:D→Bool
 |.agg _ | .tup _ | .junk=>false
 |_=>true
def mk(ag:Bool)(cs:List D):D:=if ag then .agg cs else cs.headD .junk
def pure1:D→Bool
 |.int _ _ | .bool _ | .str _ | .slc _ _ _ | .clo _ [] | .nilf | .nilp | .nilm | .gmap _=>true
 |_=>false
def noRef1:D→Bool
 |.int _ _ | .bool _ | .str _=>true
 |_=>false
def noRef:D→Bool
 |.agg l=>l.all noRef1
 |.tup l=>l.all fun d=>match d with | .agg l=>l.all noRef1 | d=>noRef1 d
 |d=>noRef1 d
end D
def Dc(b:UInt8):D:=.int .u8 (b.toNat:Int)
structure Obj where
 row:Bool
 sz:Nat
 els:List D
 lent:Bool
 deriving Inhabited
abbrev St:=List Obj
def Obj.isMap(o:Obj):Bool:=!o.row && decide (1<o.sz)
def Fy(sz:Nat):D→D
 |.agg l=>.mk (sz != 2) (l.take (sz - 1))
 |_=>.junk
def G5(sz:Nat):D→D
 |.agg l=>(l.drop (sz - 1)).headD .junk
 |_=>.junk
def Hf(st:St)(key tot off len:Nat):Option (Nat×List D):=
 match st[key]? with
 |some o=>if o.row && o.els.length == tot && decide (off+len≤tot)then some (o.sz,(o.els.drop off).take len)else none
 |none=>none
def IN(sz:Nat)(ag:Bool)(cs:List D):Nat→List D
 |0=>[]
 |n+1=>D.mk ag (cs.take sz)::IN sz ag (cs.drop sz) n
def Kv(st:St)(key off n sz:Nat)(ag:Bool):Option (List D):=
 match st[key]? with
 |some o=>if !o.row && decide (off+n*sz≤o.els.length) && decide (0<sz) && (ag || sz == 1)then some (IN sz ag (o.els.drop off) n)else none
 |none=>none
def nz(sz:Nat)(els:List D):Nat:=if els.isEmpty then 0 else sz
def purA:D→Bool
 |.agg l=>l.all D.pure1
 |d=>d.pure1
def Hq(st:St)(key off n sz:Nat)(ag:Bool):Option (List D):=match Kv st key off n sz ag with
 |some els=>if els.all purA then some els else none
 |none=>none
def Dw(st:St):D→Option D
 |.row key tot off len=>(Hf st key tot off len).map fun p=>.slc (nz p.1 p.2) p.2 false
 |.slc sz els _=>some (.slc (nz sz els) els false)
 |.bsl key off n sz ag=>(Hq st key off n sz ag).map fun els=>.slc (nz sz els) els false
 |d=>if d.pure1 then some d else none
def DQ(st:St):List D→Option (List D)
 |[]=>some []
 |d::l=>match Dw st d,DQ st l with
  |some x,some y=>some (x::y)
  |_,_=>none
def DO(st:St):D→Option D
 |.agg l=>(DQ st l).map .agg
 |.tup _=>none
 |d=>Dw st d
def D0(st:St):List D→Option (List D)
 |[]=>some []
 |d::l=>match DO st d,D0 st l with
  |some x,some y=>some (x::y)
  |_,_=>none
def EX:D→List Nat
 |.row key _ _ _=>[key]
 |.bsl key _ _ _ _=>[key]
 |_=>[]
def keys:D→List Nat
 |.agg l=>l.flatMap EX
 |d=>EX d
def lend(ks:List Nat)(st:St):St:=
 match ks with
 |[]=>st
 |k::r=>lend r (st.modify k fun o=>{o with lent:=true})
def purR:D→Bool
 |.tup l=>l.all purA
 |d=>purA d
def Gy(st:St):D→Option (Nat×List D)
 |.slc sz els _=>some (sz,els)
 |.row key tot off len=>Hf st key tot off len
 |.bsl key off n sz ag=>match Kv st key off n sz ag with
  |some els=>if els.all purA then some (sz,els)else none
  |none=>none
 |.str s=>some (1,s.map Dc)
 |_=>none
def EE(st:St)(key tot:Nat):Bool:=
 match st[key]? with
 |some o=>o.row && o.els.length == tot
 |none=>false
def Ip:D→Bool
 |.str _=>true
 |_=>false
def ED(st:St):D→Option Nat
 |.slc _ els _=>some els.length
 |.row key tot _ len=>if EE st key tot then some len else none
 |.bsl _ _ n _ _=>some n
 |.str s=>some s.length
 |_=>none
inductive PA where
 |s (n:Nat)
 |c (d:D)
 |g (n:Nat)
 deriving Inhabited
inductive PConv where
 |int (k:IntKind)
 |bytes
 |str
 |same
 deriving Inhabited
inductive POp where
 |mov (x:PA)
 |pick (c x y:PA)
 |box (x:PA)
 |bld (zero:List D) (parts:List (Nat×Nat×PA))
 |bslc (sz:Nat) (parts:List PA)
 |load (n:Nat) (ag:Bool) (p:PA)
 |stor (n:Nat) (p x:PA)
 |nilc (x:PA)
 |bin (op:BinOp) (x y:PA)
 |beq (neg:Bool) (x y:PA)
 |aeq (ks:List Nat) (neg:Bool) (x y:PA)
 |un (op:UnOp) (x:PA)
 |conv (c:PConv) (x:PA)
 |mkslc (sz bytes:Nat) (zero:D) (len cap:PA)
 |slice (sz:Nat) (x:PA) (lo hi mx:Option PA)
 |sliceA (n sz:Nat) (ag:Bool) (x:PA) (lo hi:Option PA)
 |fld (off:Nat) (p:PA)
 |fldv (off n:Nat) (ag:Bool) (x:PA)
 |idxS (sz:Nat) (x i:PA)
 |idxA (n sz:Nat) (p i:PA)
 |idx (x i:PA)
 |idxV (len sz:Nat) (ag:Bool) (x i:PA)
 |len (str:Bool) (x:PA)
 |lenA (n:Nat)
 |app (sz bytes:Nat) (s x:PA)
 |mm (isMax:Bool) (x y:PA)
 |mm3 (isMax:Bool) (x y z:PA)
 |call (f:Nat) (args:List PA)
 |icall (f:Nat) (args:List PA)
 /-- a call of what only makes one new object -/
 |mcall (f:Nat) (args:List PA)
 /-- a call of what only reads the objects of which its arguments speak -/
 |rcall (f:Nat) (args:List PA)
 |callv (x:PA) (args:List PA)
 |mkclo (f:Nat) (caps:List PA)
 |ext (x:PA) (i:Nat)
 |mkmap (sz:Nat)
 |mapup (sz:Nat) (ks:List Nat) (m k v:PA)
 |mapget (sz:Nat) (ks:List Nat) (ok:Bool) (zero:D) (m k:PA)
 /-- copying between parts of arrays in boxes -/
 |cpy (sz:Nat) (d s:PA)
 /-- what is not covered: it comes to nothing -/
 |fail
 deriving Inhabited
def Ko(op:BinOp)(k:IntKind)(x y:Int):Option Int:=
 let a:=CH k.bits x
 let b:=CH k.bits y
 match op with
 |.and=>some (k.wrap (a &&& b).toNat)
 |.or=>some (k.wrap (a ||| b).toNat)
 |.xor=>some (k.wrap (a ^^^ b).toNat)
 |.andNot=>some (k.wrap (a &&& ~~~b).toNat)
 |_=>none
def I4(op:BinOp)(x y:Int):Option Bool:=
 match op with
 |.eql=>some (x == y)
 |.neq=>some (x != y)
 |.lss=>some (decide (x<y))
 |.leq=>some (decide (x≤y))
 |.gtr=>some (decide (x > y))
 |.geq=>some (decide (x ≥ y))
 |_=>none
def JP(op:BinOp)(k:IntKind)(x y:Int):Option Int:=
 match op with
 |.add=>some (k.wrap (x+y))
 |.sub=>some (k.wrap (x - y))
 |.mul=>some (k.wrap (x*y))
 |.quo=>if y=0 then none else some (k.wrap (x.tdiv y))
 |.rem=>if y=0 then none else some (x.tmod y)
 |_=>none
def Lo(op:BinOp)(k:IntKind)(x y:Int):Option Int:=
 if y<0 then none else
 match op with
 |.shl=>some (k.wrap (x*2 ^ (min y.toNat k.bits)))
 |.shr=>some (x.fdiv (2 ^ (min y.toNat k.bits)))
 |_=>none
def Ii:Nat→D→D→Option Bool
 |0,.int k x,.int k' y=>if k=k' then some (x == y)else none
 |1,.bool x,.bool y=>some (x == y)
 |2,.str x,.str y=>some (x == y)
 |_,_,_=>none
def EC:List Nat→List D→List D→Option Bool
 |[],[],[]=>some true
 |q::qs,x::xs,y::ys=>match Ii q x y,EC qs xs ys with
  |some a,some b=>some (a && b)
  |_,_=>none
 |_,_,_=>none
def ZJ(op:BinOp)(x y:List UInt8):Option D:=
 match op with
 |.add=>if x.length+y.length≤4294967296 then some (.str (x++y))else none
 |.eql=>some (.bool (x == y))
 |.neq=>some (.bool !(x == y))
 |.lss=>some (.bool (Op.bytesLess x y))
 |.leq=>some (.bool (Op.bytesLess x y || x == y))
 |.gtr=>some (.bool !(Op.bytesLess x y || x == y))
 |.geq=>some (.bool !(Op.bytesLess x y))
 |_=>none
def Df(op:BinOp)(x y:D):Option D:=
 match x,y with
 |.int k a,.int k' b=>
  match op with
  |.shl | .shr=>(Lo op k a b).map (.int k)
  |_=>if k=k' then
    match op with
    |.add | .sub | .mul | .quo | .rem=>(JP op k a b).map (.int k)
    |.and | .or | .xor | .andNot=>(Ko op k a b).map (.int k)
    |_=>(I4 op a b).map .bool
   else none
 |.str a,.str b=>ZJ op a b
 |_,_=>none
def Mg(neg:Bool)(x y:D):Option D:=
 match x,y with
 |.bool a,.bool b=>some (.bool ((a == b) != neg))
 |_,_=>none
def Gt(ks:List Nat)(neg:Bool)(x y:D):Option D:=
 match x,y with
 |.agg xs,.agg ys=>(EC ks xs ys).map fun b=>.bool (b != neg)
 |_,_=>none
def HI(sz:Nat)(ks:List Nat)(x y:D):Option Bool:=
 if sz=2 then match ks with
  |[q]=>Ii q x y
  |_=>none
 else match x,y with
  |.agg xs,.agg ys=>EC ks xs ys
  |_,_=>none
def Kp(sz:Nat)(ks:List Nat)(k:D):List D→Nat→Option (Option Nat)
 |[],_=>some none
 |el::r,i=>match HI sz ks k (Fy sz el)with
  |some true=>some (some i)
  |some false=>Kp sz ks k r (i+1)
  |none=>none
def FC(n:Int):List (Int×Nat)→Option Nat
 |[]=>none
 |p::r=>if p.1=n then some p.2 else FC n r
def IJ(st:St)(sz:Nat)(ks:List Nat)(ok:Bool)(zero m k:D):Option D:=
 match m with
 |.mapv key=>match st[key]? with
  |some o=>if o.isMap && o.sz == sz && (HI sz ks k k).isSome then match Kp sz ks k o.els 0 with
    |some (some i)=>match o.els[i]? with
     |some el=>some (if ok then .tup [G5 sz el,.bool true]else G5 sz el)
     |none=>none
    |some none=>some (if ok then .tup [zero,.bool false]else zero)
    |none=>none
   else none
  |none=>none
 |.gmap es=>if sz=0 then match k with
   |.int .i64 n=>some (match FC n es with
    |some f=>if ok then .tup [.agg [.clo f []],.bool true]else .agg [.clo f []]
    |none=>if ok then .tup [zero,.bool false]else zero)
   |_=>none
  else none
 |_=>none
def Rk(st:St)(sz:Nat)(ks:List Nat)(m k v:D):Option St:=
 match m with
 |.mapv key=>match st[key]? with
  |some o=>if o.isMap && o.sz == sz && !o.lent && v.isCell && k.cells.length+1 == sz && k.cells.all D.isCell && HI sz ks k k == some true then match Kp sz ks k o.els 0 with
    |some (some i)=>some (st.set key {o with els:=o.els.set i (.agg (k.cells++[v]))})
    |some none=>some (st.set key {o with els:=o.els++[.agg (k.cells++[v])]})
    |none=>none
   else none
  |none=>none
 |_=>none
def Mf(op:UnOp)(x:D):Option D:=
 match op,x with
 |.neg,.int k n=>some (.int k (k.wrap (0 - n)))
 |.xor,.int k n=>(Ko .xor k (if k.signed then -1 else k.max) n).map (.int k)
 |.not,.bool b=>some (.bool !b)
 |_,_=>none
def S4:D→Option UInt8
 |.int .u8 n=>if 0≤n∧n<256 then some (UInt8.ofNat n.toNat)else none
 |_=>none
def O2:List D→Option (List UInt8)
 |[]=>some []
 |d::l=>match S4 d,O2 l with
  |some x,some y=>some (x::y)
  |_,_=>none
def Fa(st:St)(c:PConv)(x:D):Option D:=
 match c,x with
 |.int k,.int _ n=>some (.int k (k.wrap n))
 |.bytes,.str s=>some (.slc 1 (s.map Dc) false)
 |.str,.slc sz els _=>if sz == 1 || els.isEmpty then(O2 els).map .str else none
 |.str,.row key tot off len=>match Hf st key tot off len with
  |some (sz,els)=>if sz == 1 then(O2 els).map .str else none
  |none=>none
 |.same,.str s=>some (.str s)
 |_,_=>none
def Fq:D→Option Nat
 |.int _ n=>if 0≤n then some n.toNat else none
 |_=>none
def FW(d:Option D)(dflt:Nat):Option Nat:=
 match d with
 |some x=>Fq x
 |none=>some dflt
def Gm(st:St)(sz:Nat)(x:D)(lo hi mx:Option D):Option D:=
 match x with
 |.str s=>
  match mx,FW lo 0,FW hi s.length with
  |none,some l,some h=>if sz=0∧l≤h∧h≤s.length then some (.str ((s.take h).drop l))else none
  |_,_,_=>none
 |.slc sz' els t=>
  if(sz' == sz || els.isEmpty) && sz != 0 then
   match FW lo 0,FW hi els.length with
   |some l,some h=>
    match mx with
    |none=>if l≤h∧h≤els.length then some (.slc sz' ((els.take h).drop l) (t && h == els.length))else none
    |some m=>if l≤h∧h≤els.length∧Fq m=some h∧hi.isSome=true then some (.slc sz' ((els.take h).drop l) true)else none
   |_,_=>none
  else none
 |.row key tot off len=>
  match st[key]? with
  |some o=>
   if o.row && o.sz == sz && o.els.length == tot && sz != 0 then
    match mx,FW lo 0,FW hi len with
    |none,some l,some h=>
     if l≤h∧h≤len then
      if l=0∧h=len then some x
      else if l=h then some (.slc sz [] false)
      else some (.row key tot (off+l) (h - l))
     else none
    |_,_,_=>none
   else none
  |none=>none
 |_=>none
def N1(n sz:Nat)(ag:Bool)(x:D)(lo hi:Option D):Option D:=
 match FW lo 0,FW hi n with
 |some l,some h=>
  if l≤h∧h≤n then
   match x with
   |.ptr key off=>if l=h then some (.slc sz [] false)else some (.bsl key (off+l*sz) (h - l) sz ag)
   |.eptr el off=>if l=h then some (.slc sz [] false)else
    if decide (off+n*sz≤el.cells.length) && decide (0<sz) && (ag || sz == 1)then some (.slc sz (IN sz ag (el.cells.drop (off+l*sz)) (h - l)) (h == n))else none
   |_=>none
  else none
 |_,_=>none
def Fc(l:List D)(off:Nat)(xs:List D):List D:=l.take off++xs++l.drop (off+xs.length)
def E1(st:St)(n:Nat)(ag:Bool)(p:D):Option D:=
 if !ag && n != 1 then none else
 match p with
 |.ptr key off=>
  match st[key]? with
  |some o=>if !o.row && decide (off+n≤o.els.length)then some (.mk ag ((o.els.drop off).take n))else none
  |none=>none
 |.rptr key tot i off=>
  match st[key]? with
  |some o=>if o.row && o.els.length == tot then
    match o.els[i]? with
    |some el=>if off+n≤el.cells.length then some (.mk ag ((el.cells.drop off).take n))else none
    |none=>none
   else none
  |none=>none
 |.eptr el off=>if off+n≤el.cells.length then some (.mk ag ((el.cells.drop off).take n))else none
 |_=>none
def S1(el:D)(off:Nat)(ys:List D):Option D:=
 match el with
 |.agg l=>if off+ys.length≤l.length then some (.agg (Fc l off ys))else none
 |_=>match off,ys with
  |0,[z]=>some z
  |_,_=>none
def Ll(st:St)(n:Nat)(p x:D):Option St:=
 match p with
 |.ptr key off=>
  match st[key]? with
  |some o=>
   if !o.row && !o.lent && decide (off+n≤o.els.length) && x.cells.length == n && x.cells.all D.isCell then
    some (st.set key {o with els:=Fc o.els off x.cells})
   else none
  |none=>none
 |.rptr key tot i off=>
  match st[key]?,DO st x with
  |some o,some y=>
   if o.row && !o.lent && o.els.length == tot && (keys x).isEmpty then
    match o.els[i]? with
    |some el=>
     match S1 el off y.cells with
     |some el'=>if y.cells.length=n then some (st.set key {o with els:=o.els.set i el'})else none
     |none=>none
    |none=>none
   else none
  |_,_=>none
 |_=>none
def SQ(st:St)(sz key tot off len:Nat)(s:D):Option (D×St):=
 match st[key]?,Gy st s with
 |some o,some (sz2,xs)=>if o.row && !o.lent && o.els.length == tot && o.sz == 1 && sz == 1 && (sz2 == 1 || xs.isEmpty) && decide (off+len≤tot) && !Ip s && decide (0<min len xs.length)then
   some (.int .i64 (min len xs.length:Nat),st.set key {o with els:=Fc o.els off (xs.take (min len xs.length))})else none
 |_,_=>none
def JA(st:St)(sz:Nat)(d s:D):Option (D×St):=
 match d,s with
 |.bsl key off n sz1 _,.bsl key2 off2 n2 sz2 _=>if n=0∨n2=0∨sz1≠sz∨sz2≠sz∨sz=0 then none else
  match st[key]?,st[key2]? with
  |some o,some o2=>if !o.row && !o.lent && !o2.row && decide (off+min n n2*sz≤o.els.length) && decide (off2+min n n2*sz≤o2.els.length) && ((o2.els.drop off2).take (min n n2*sz)).all D.isCell then
    some (.int .i64 (min n n2:Nat),st.set key {o with els:=Fc o.els off ((o2.els.drop off2).take (min n n2*sz))})
   else none
  |_,_=>none
 |.slc _ [] _,.bsl _ _ _ _ _ | .bsl _ _ _ _ _,.slc _ [] _ | .slc _ [] _,.slc _ [] _=>some (.int .i64 0,st)
 |.row key tot off len,s=>SQ st sz key tot off len s
 |_,_=>none
def D8(st:St)(sz bytes:Nat)(s x:D):Option (D×St):=
 match Gy st x with
 |none=>none
 |some (szx,xs)=>
  if !(szx == sz || xs.isEmpty) || sz == 0 then none else
  match s with
  |.row key tot off len=>
   match st[key]? with
   |some o=>
    if o.row && o.sz == sz && o.els.length == tot && off == 0 && len == tot && decide ((tot+xs.length)*bytes≤140737488355328) && decide (tot+xs.length≤4294967296)then
     some (.row key (tot+xs.length) 0 (tot+xs.length),st.set key {o with els:=o.els++xs})
    else none
   |none=>none
  |.slc sz' els true=>
   if xs.isEmpty then some (.slc sz' els true,st)
   else if(sz' == sz || els.isEmpty) && decide ((els.length+xs.length)*bytes≤140737488355328) && decide (els.length+xs.length≤4294967296)then
    some (.row st.length (els.length+xs.length) 0 (els.length+xs.length),st++[{row:=true,sz,els:=els++xs,lent:=false}])
   else none
  |_=>none
def F5(st:St)(sz:Nat)(x i:D):Option D:=
 match Fq i with
 |none=>none
 |some j=>
  match x with
  |.slc sz' els _=>match els[j]? with
   |some el=>if sz' == sz then some (.eptr el 0)else none
   |none=>none
  |.row key tot off len=>match st[key]? with
   |some o=>if o.row && o.sz == sz && o.els.length == tot && decide (j<len)then some (.rptr key tot (off+j) 0)else none
   |none=>none
  |.bsl key off n sz' _=>if j<n∧sz'=sz then some (.ptr key (off+j*sz))else none
  |_=>none
def E3(st:St)(off:Nat):D→Option D
 |.ptr key o=>some (.ptr key (o+off))
 |.rptr key tot i o=>if EE st key tot then some (.rptr key tot i (o+off))else none
 |.eptr el o=>some (.eptr el (o+off))
 |_=>none
def IE(st:St)(n sz:Nat)(p i:D):Option D:=
 match Fq i with
 |none=>none
 |some j=>if j<n then E3 st (j*sz) p else none
def Jz(x i:D):Option D:=
 match x,Fq i with
 |.str s,some j=>match s[j]? with
  |some b=>some (Dc b)
  |none=>none
 |_,_=>none
def LK(off n:Nat)(ag:Bool)(x:D):Option D:=
 match x with
 |.agg cs=>if decide (off+n≤cs.length) && (ag || n == 1)then some (.mk ag ((cs.drop off).take n))else none
 |_=>none
def OA(len sz:Nat)(ag:Bool)(x i:D):Option D:=
 match Fq i with
 |some j=>if j<len then LK (j*sz) sz ag x else none
 |none=>none
def DF:List D→List (Nat×Nat×D)→Option (List D)
 |cs,[]=>some cs
 |cs,(off,size,d)::r=>
  if d.cells.length == size && decide (off+size≤cs.length) && d.cells.all D.isCell then DF (Fc cs off d.cells) r else none
def rj{α β:Type}(f:α→β):Option α→Option β
 |some x=>some (f x)
 |none=>none
def FV:D→List Nat
 |.row k _ _ _ | .bsl k _ _ _ _ | .ptr k _ | .rptr k _ _ _ | .mapv k=>[k]
 |_=>[]
def Dp:D→List Nat
 |.clo _ l=>l.flatMap FV
 |d=>FV d
def hk:D→List Nat
 |.agg l=>l.flatMap Dp
 |d=>Dp d
def Obj.see(o:Obj):Bool×Nat×List D:=(o.row,o.sz,o.els)
def GP(st:St):List Nat→List (Option (Bool×Nat×List D))
 |[]=>[]
 |k::l=>(st[k]?).map Obj.see::GP st l
def Ig(sp:List D→List (Option (Bool×Nat×List D))→Option D)(ds:List D)(st:St):Option D:=
 if(ds.flatMap hk).all (fun k=>(st[k]?).isSome)then sp ds (GP st (ds.flatMap hk))else none
structure Tbl where
 /-- what is told of it: from arguments without handles to a result without handles -/
 p:Nat→Option (List D→Option D)
 /-- carried out over the caller's own store -/
 i:Nat→Option (List D→St→Option (D×St))
 /-- what makes one new object,and does no more -/
 m:Nat→Option (List D→Option ((Nat→D)×(Nat→List Obj)))
 /-- what a round of the loop l does to the store -/
 y:Nat→List D→St→Option (D×St):=fun _ _ _=>none
 /-- functions that are ranged over -/
 r:Nat→Option ((List D→St→Option (D×St))→List D→St→Option (D×St)):=fun _=>none
 /-- functions that panic: with which value,of which type,and the store behind it -/
 x:Nat→Option (List D→St→Option (Nat×D×St)):=fun _=>none
 /-- functions that only read -/
 q:Nat→Option (List D→List (Option (Bool×Nat×List D))→Option D):=fun _=>none
abbrev Db:=Nat→Option D
def Mj(isMax:Bool)(a b:Int):Int:=if isMax then(if b > a then b else a)else(if b<a then b else a)
def POp.exec(T:Tbl)(ρ:PA→D)(st:St):POp→Option (D×St)
 |.mov x=>some (ρ x,st)
 |.pick c x y=>match ρ c with
  |.bool b=>some (if b then ρ x else ρ y,st)
  |_=>none
 |.box x=>if(ρ x).cells.all D.isCell then some (.ptr st.length 0,st++[{row:=false,sz:=1,els:=(ρ x).cells,lent:=false}])else none
 |.bld zero parts=>(DF zero (parts.map fun p=>(p.1,p.2.1,ρ p.2.2))).map fun cs=>(.agg cs,st)
 |.bslc sz parts=>match D0 st (parts.map ρ)with
  |some els=>if(els.all fun e=>e.cells.length == sz) && decide (0<sz) && decide (els.length*sz≤16777216)then some (.slc sz els true,lend ((parts.map ρ).flatMap keys) st)else none
  |none=>none
 |.load n ag p=>(E1 st n ag (ρ p)).map (·,st)
 |.stor n p x=>(Ll st n (ρ p) (ρ x)).map (.tup [],·)
 |.nilc x=>match ρ x with
  |.ptr _ _ | .eptr _ _=>some (ρ x,st)
  |.rptr key tot _ _=>if EE st key tot then some (ρ x,st)else none
  |_=>none
 |.bin op x y=>(Df op (ρ x) (ρ y)).map (·,st)
 |.beq neg x y=>(Mg neg (ρ x) (ρ y)).map (·,st)
 |.aeq ks neg x y=>(Gt ks neg (ρ x) (ρ y)).map (·,st)
 |.un op x=>(Mf op (ρ x)).map (·,st)
 |.conv c x=>(Fa st c (ρ x)).map (·,st)
 |.mkslc sz bytes zero ln cp=>match Fq (ρ ln),Fq (ρ cp)with
  |some l,some c=>if l≤c∧c≤4294967296∧c*bytes≤140737488355328∧0<sz∧zero.cells.length=sz∧zero.cells.all D.pure1=true then
    some (.row st.length l 0 l,st++[{row:=true,sz,els:=CF l zero,lent:=false}])else none
  |_,_=>none
 |.slice sz x lo hi mx=>(Gm st sz (ρ x) (lo.map ρ) (hi.map ρ) (mx.map ρ)).map (·,st)
 |.sliceA n sz ag x lo hi=>(N1 n sz ag (ρ x) (lo.map ρ) (hi.map ρ)).map (·,st)
 |.fld off p=>(E3 st off (ρ p)).map (·,st)
 |.fldv off n ag x=>(LK off n ag (ρ x)).map (·,st)
 |.idxS sz x i=>(F5 st sz (ρ x) (ρ i)).map (·,st)
 |.idxA n sz p i=>(IE st n sz (ρ p) (ρ i)).map (·,st)
 |.idx x i=>(Jz (ρ x) (ρ i)).map (·,st)
 |.idxV ln sz ag x i=>(OA ln sz ag (ρ x) (ρ i)).map (·,st)
 |.len str x=>if Ip (ρ x) == str then(ED st (ρ x)).map fun(n:Nat)=>(D.int .i64 (n:Int),st)else none
 |.lenA n=>some (.int .i64 (n:Int),st)
 |.app sz bytes s x=>D8 st sz bytes (ρ s) (ρ x)
 |.mm isMax x y=>match ρ x,ρ y with
  |.int k a,.int _ b=>some (.int k (if isMax then(if b > a then b else a)else(if b<a then b else a)),st)
  |_,_=>none
 |.mm3 isMax x y z=>match ρ x,ρ y,ρ z with
  |.int k a,.int _ b,.int _ c=>some (.int k (Mj isMax (Mj isMax a b) c),st)
  |_,_,_=>none
 |.rcall f args=>match T.q f with
  |some sp=>(Ig sp (args.map ρ) st).map (·,st)
  |none=>none
 |.icall f args=>match T.i f with
  |some sp=>sp (args.map ρ) st
  |none=>none
 |.mcall f args=>match T.m f with
  |some sp=>match sp (args.map ρ)with
   |some r=>some (r.1 st.length,st++r.2 st.length)
   |none=>none
  |none=>none
 |.callv x args=>match ρ x with
  |.clo f caps=>if f<5000000 then match T.i f with
    |some sp=>sp (args.map ρ++caps) st
    |none=>none
   else if f<10000000 then match T.i (f - 5000000)with
    |some sp=>sp (caps++args.map ρ) st
    |none=>none
   else if caps.isEmpty then T.y (f - 10000000) (args.map ρ) st else none
  |_=>none
 |.mkclo f caps=>some (.clo f (caps.map ρ),st)
 |.call f args=>match T.p f,D0 st (args.map ρ)with
  |some sp,some vs=>match sp vs with
   |some r=>some (r,if r.noRef then st else lend ((args.map ρ).flatMap keys) st)
   |none=>none
  |_,_=>none
 |.ext x i=>match ρ x with
  |.tup vs=>(vs[i]?).map (·,st)
  |_=>none
 |.mkmap sz=>if 1<sz∧sz≠1000003 then some (.mapv st.length,st++[{row:=false,sz,els:=[],lent:=false}])else none
 |.mapup sz ks m k v=>(Rk st sz ks (ρ m) (ρ k) (ρ v)).map (.tup [],·)
 |.mapget sz ks ok zero m k=>(IJ st sz ks ok zero (ρ m) (ρ k)).map (·,st)
 |.cpy sz d s=>JA st sz (ρ d) (ρ s)
 |.fail=>none
structure Foot where
 rd:List Nat
 wr:List Nat
 nu:Option Nat
 deriving Inhabited
def GR{α:Type}:Option α→List α
 |some x=>[x]
 |none=>[]
def POp.args:POp→List PA
 |.mov x | .box x | .nilc x | .un _ x | .conv _ x | .fld _ x | .fldv _ _ _ x | .len _ x | .ext x _ | .load _ _ x=>[x]
 |.pick c x y=>[c,x,y]
 |.bld _ parts=>parts.map fun p=>p.2.2
 |.bslc _ parts=>parts
 |.stor _ p x=>[p,x]
 |.bin _ x y | .beq _ x y | .aeq _ _ x y | .mm _ x y | .app _ _ x y=>[x,y]
 |.mkslc _ _ _ l c=>[l,c]
 |.slice _ x lo hi mx=>x::(GR lo++GR hi++GR mx)
 |.sliceA _ _ _ x lo hi=>x::(GR lo++GR hi)
 |.idxS _ x i | .idxA _ _ x i | .idx x i | .idxV _ _ _ x i=>[x,i]
 |.lenA _ | .fail | .mkmap _=>[]
 |.mapup _ _ m k v=>[m,k,v]
 |.mapget _ _ _ _ m k=>[m,k]
 |.cpy _ d s=>[d,s]
 |.mm3 _ x y z=>[x,y,z]
 |.call _ args | .icall _ args | .mcall _ args | .rcall _ args | .mkclo _ args=>args
 |.callv x args=>x::args
def K5:D→List Nat
 |.rptr k _ _ _=>[k]
 |_=>[]
def FH:D→Nat→Option Nat
 |.slc _ [] _,_=>none
 |_,n=>some n
def POp.foot(ρ:PA→D)(st:St):POp→Option Foot
 |.stor _ p x=>some ⟨hk (ρ x),hk (ρ p),none⟩
 |.box _ | .mkslc _ _ _ _ _=>some ⟨[],[],some st.length⟩
 |.app _ _ s x=>match ρ s with
  |.row key _ _ _=>some ⟨hk (ρ x),[key],none⟩
  |_=>some ⟨hk (ρ x),[],FH (ρ x) st.length⟩
 |.mcall _ _=>some ⟨[],[],some st.length⟩
 |.icall _ _ | .callv _ _ | .mkmap _ | .mapup _ _ _ _ _ | .cpy _ _ _ | .fail=>none
 |.fld _ x | .nilc x | .idxA _ _ x _=>some ⟨K5 (ρ x),[],none⟩
 |p=>some ⟨(p.args.map ρ).flatMap hk,[],none⟩
def Hr(a b:List Nat):Bool:=a.all fun k=>!b.contains k
def Ks(m:Option Nat)(a:List Nat):Bool:=match m with
 |some n=>a.all fun k=>decide (k<n)
 |none=>true
def Foot.ok(f g:Foot):Bool:=Hr g.wr f.rd && Hr g.wr f.wr && Hr f.wr g.rd && Ks f.nu g.rd && Ks f.nu g.wr && Ks g.nu f.rd && Ks g.nu f.wr && (f.nu.isNone || g.nu.isNone)
def gy:Option (Option Foot)→Option Foot→Bool
 |some (some f),some g=>f.ok g
 |_,_=>false
def MN(fs:List (Option Foot))(g:Option Foot):List Nat→Bool
 |[]=>true
 |j::r=>gy fs[j]? g && MN fs g r
def NZ:Foot:=⟨[],[],none⟩
abbrev Frame:=Nat→D
def Frame.set(fr:Frame)(s:Nat)(d:D):Frame:=fun t=>if t=s then d else fr t
def Frame.put(fr:Frame)(s:Option Nat)(d:D):Frame:=match s with
 |some s=>fr.set s d
 |none=>fr
structure PS where
 fr:Frame
 st:St
structure PI where
 dst:Option Nat
 op:POp
 guard:Option (Nat×Bool):=none
 deriving Inhabited
def Dh(G:Db)(fr:Frame):PA→D
 |.s n=>fr n
 |.c d=>d
 |.g n=>match G n with
  |some d=>.eptr d 0
  |none=>.junk
def PI.wanted(fr:Frame)(i:PI):Option Bool:=
 match i.guard with
 |none=>some true
 |some (s,want)=>match fr s with
  |.bool b=>some (b == want)
  |.tup []=>some false
  |_=>none
def PI.exec(G:Db)(T:Tbl)(i:PI)(s:PS):Option PS:=
 match i.wanted s.fr with
 |none=>none
 |some false=>some {s with fr:=s.fr.put i.dst (.tup [])}
 |some true=>match i.op.exec T (Dh G s.fr) s.st with
  |some (d,st)=>some {fr:=s.fr.put i.dst d,st}
  |none=>none
def EK(G:Db)(T:Tbl):List PI→PS→Option PS
 |[],s=>some s
 |i::l,s=>match i.exec G T s with
  |some s'=>EK G T l s'
  |none=>none
def PI.foot(G:Db)(i:PI)(s:PS):Option Foot:=match i.wanted s.fr with
 |some true=>i.op.foot (Dh G s.fr) s.st
 |_=>some NZ
def GV(G:Db)(T:Tbl):List (PI×Bool×List Nat)→List (Option Foot)→PS→Option PS
 |[],_,s=>some s
 |(i,b,cs)::l,fs,s=>if MN fs (i.foot G s) cs then
   match i.exec G T s with
   |some s'=>GV G T l (fs++[if b then i.foot G s else none]) s'
   |none=>none
  else none
inductive Ex where
 |next
 |exit (id:Nat)
 |ret
 |panic (t:Nat) (d:D)
inductive PC where
 |skip
 |ops (l:List PI)
 /-- in any order: for each instruction,whether what it touches is asked for later,and the earlier ones that it is held against -/
 |any (l:List (PI×Bool×List Nat))
 /-- in any order,two of them making an object each: both orders of these two; what is kept behind,and that it is the same -/
 |any2 (keep:List Nat) (l1 l2:List (PI×Bool×List Nat))
 |seq (a b:PC)
 |cond (c:PA) (a b:PC)
 |block (id:Nat) (c:PC)
 |loop (keep:List Nat) (c:PC)
 /-- a loop at whose head all objects are kept -/
 |loopA (keep:List Nat) (c:PC)
 /-- a range over a function: its parameters' slots,what is assigned and what is done in a round -/
 |range (x:PA) (ps:List Nat) (a b:PC)
 /-- a region in which a call may panic -/
 |opsX (l:List PI)
 /-- a region at whose end there is a panic: with a value that is made an interface's -/
 |pan (l:List PI) (d1 t:Nat) (x:PA)
 /-- either will do -/
 |alt (a b:PC)
 |exit (id:Nat)
 |ret
 |fail
 deriving Inhabited
def G2(n:Nat):D→D
 |.row key tot off len=>if key<n then .row key tot off len else .junk
 |.bsl key off m sz ag=>if key<n then .bsl key off m sz ag else .junk
 |.ptr key off=>if key<n then .ptr key off else .junk
 |.rptr key tot i off=>if key<n then .rptr key tot i off else .junk
 |.mapv key=>if key<n then .mapv key else .junk
 |.agg _ | .tup _ | .clo _ _=>.junk
 |d=>d
def Gb(n:Nat):D→D
 |.clo f l=>.clo f (l.map (G2 n))
 |d=>G2 n d
def G3(n:Nat):D→D
 |.agg l=>.agg (l.map (Gb n))
 |.tup _=>.junk
 |d=>Gb n d
def GK:List (Nat×D)→Frame
 |[],_=>.junk
 |(s,d)::r,t=>if t=s then d else GK r t
def ER(lo hi:Nat):List Nat→List Nat→List Nat
 |[],acc=>acc
 |k::r,acc=>ER lo hi r (if lo≤k∧k<hi∧acc.contains k=false then acc++[k]else acc)
def OB:List Nat→Nat→Nat→Option Nat
 |[],_,_=>none
 |k::r,b,key=>if key=k then some b else OB r (b+1) key
def EA(n:Nat)(σ:List Nat)(key:Nat):Option Nat:=if key<n then some key else OB σ n key
def IH(f:Nat→D):Option Nat→D
 |some k=>f k
 |none=>.junk
def F9(n:Nat)(σ:List Nat):D→D
 |.row key tot off len=>IH (fun k=>.row k tot off len) (EA n σ key)
 |.bsl key off m sz ag=>IH (fun k=>.bsl k off m sz ag) (EA n σ key)
 |.ptr key off=>IH (fun k=>.ptr k off) (EA n σ key)
 |.rptr key tot i off=>IH (fun k=>.rptr k tot i off) (EA n σ key)
 |.mapv key=>IH .mapv (EA n σ key)
 |.agg _ | .tup _ | .clo _ _=>.junk
 |d=>d
def En(n:Nat)(σ:List Nat):D→D
 |.clo f l=>.clo f (l.map (F9 n σ))
 |d=>F9 n σ d
def Ef(n:Nat)(σ:List Nat):D→D
 |.agg l=>.agg (l.map (En n σ))
 |.tup _=>.junk
 |d=>En n σ d
def ES(n:Nat)(σ:List Nat)(o:Obj):Obj:={o with els:=if o.row then o.els else o.els.map (Ef n σ)}
def picked(n:Nat)(σ:List Nat)(st:St):St:=(st.take n).map (ES n σ)++σ.map fun k=>ES n σ (st.getD k default)
def Ta(keep:List Nat)(n:Nat)(s:PS):List Nat:=
 (keep.flatMap fun k=>hk (s.fr k))++(s.st.take n).flatMap fun o=>if o.row then []else o.els.flatMap hk
def restrictAt(keep:List Nat)(n:Nat)(σ:List Nat)(s:PS):PS:=
 {fr:=GK (keep.map fun k=>(k,Ef n σ (s.fr k))),st:=picked n σ s.st}
def restrict(keep:List Nat)(n:Nat)(s:PS):PS:=
 restrictAt keep (if n≤s.st.length then n else s.st.length) (ER (if n≤s.st.length then n else s.st.length) s.st.length (Ta keep (if n≤s.st.length then n else s.st.length) s) []) s
def Jr(body:PS→Option (Ex×PS))(cut:PS→PS):Nat→PS→Option (Ex×PS)
 |0,_=>none
 |n+1,s=>match body (cut s)with
  |some (.next,s')=>Jr body cut n s'
  |some (e,s')=>some (e,s')
  |none=>none
noncomputable def ZM(keep:List Nat)(n:Nat)(s1 s2:PS):Option PS:=
 @ite _ (s1.st.length=n+2∧s2.st.length=n+2∧restrictAt keep n [n+1,n] s2=restrictAt keep n [n,n+1] s1) (Classical.propDecidable _) (some (restrictAt keep n [n,n+1] s1)) none
def ND(fr:Frame):List Nat→List D→Frame
 |p::ps,d::ds=>ND (fr.put (some p) d) ps ds
 |_,_=>fr
def recO(n:Int):Obj:=⟨false,1000003,[.int .i64 n],false⟩
def recAt(st:St)(k:Nat):Option Int:=match st[k]? with
 |some o=>if !o.row && o.sz == 1000003 then(match o.els with
  |[.int .i64 n]=>some n
  |_=>none)else none
 |none=>none
def gW(st:St)(k:Nat):Option Ex:=match recAt st k with
 |some n=>if n=0 then some .next else if n=1 then some .ret else none
 |none=>none
def YL(ea eb:PS→Option (Ex×PS))(fr:Frame)(ps:List Nat)(k:Nat)(ds:List D)(st:St):Option (D×St):=
 if ds.length=ps.length then match ea ⟨ND fr ps ds,st⟩with
  |some (.next,s1)=>if recAt s1.st k=some 0 then match eb ⟨s1.fr,s1.st.set k (recO 2)⟩with
   |some (.next,s2)=>some (.bool true,s2.st.set k (recO 0))
   |some (.ret,s2)=>some (.bool false,s2.st.set k (recO 1))
   |_=>none
   else none
  |_=>none
 else none
def ik(T:Tbl)(l:Nat)(y:List D→St→Option (D×St)):Tbl:={T with y:=fun l' ds st=>if l'=l then y ds st else none}
def eM(T:Tbl)(d:D)(y:List D→St→Option (D×St))(st:St):Option St:=match d with
 |.clo f caps=>if f<5000000 then match T.r f with
   |some sp=>(sp y caps st).map (·.2)
   |none=>none
  else none
 |_=>none
def keepAll(keep:List Nat)(s:PS):PS:=⟨GK (keep.map fun k=>(k,s.fr k)),s.st⟩
def OK:D→Bool
 |.int _ _=>true
 |_=>false
def KL:D→Bool
 |.agg l=>l.all OK
 |d=>OK d
def POp.callee(ρ:PA→D):POp→Option (Nat×List D)
 |.icall f args=>some (f,args.map ρ)
 |.callv x args=>match ρ x with
  |.clo f caps=>if f<5000000 then some (f,args.map ρ++caps)else if f<10000000 then some (f - 5000000,caps++args.map ρ)else none
  |_=>none
 |_=>none
def POp.execX(T:Tbl)(ρ:PA→D)(st:St)(p:POp):Option (Nat×D×St):=match p.callee ρ with
 |some (f,ds)=>match T.x f with
  |some sp=>sp ds st
  |none=>none
 |none=>none
def PI.execX(G:Db)(T:Tbl)(i:PI)(s:PS):Option (Nat×D×PS):=match i.wanted s.fr with
 |some true=>(i.op.execX T (Dh G s.fr) s.st).map fun r=>(r.1,r.2.1,⟨s.fr,r.2.2⟩)
 |_=>none
def Je(G:Db)(T:Tbl):List PI→PS→Option (Nat×D×PS)
 |[],_=>none
 |i::l,s=>match i.exec G T s with
  |some s'=>Je G T l s'
  |none=>i.execX G T s
noncomputable def PC.exec(G:Db)(T:Tbl)(fuel:Nat):PC→PS→Option (Ex×PS)
 |.skip,s=>some (.next,s)
 |.ops l,s=>match EK G T l s with
  |some s'=>some (.next,s')
  |none=>none
 |.any l,s=>match GV G T l [] s with
  |some s'=>some (.next,s')
  |none=>none
 |.any2 keep l1 l2,s=>match GV G T l1 [] s,GV G T l2 [] s with
  |some s1,some s2=>(ZM keep s.st.length s1 s2).map fun s'=>(.next,s')
  |_,_=>none
 |.seq a b,s=>match a.exec G T fuel s with
  |some (.next,s')=>b.exec G T fuel s'
  |some (e,s')=>some (e,s')
  |none=>none
 |.cond c a b,s=>match Dh G s.fr c with
  |.bool true=>a.exec G T fuel s
  |.bool false=>b.exec G T fuel s
  |_=>none
 |.block id c,s=>match c.exec G T fuel s with
  |some (.exit id',s')=>if id'=id then some (.next,s')else some (.exit id',s')
  |some (e,s')=>some (e,s')
  |none=>none
 |.loop keep c,s=>Jr (c.exec G T fuel) (restrict keep s.st.length) fuel s
 |.loopA keep c,s=>Jr (c.exec G T fuel) (keepAll keep) fuel s
 |.range x ps a b,s=>(eM T (Dh G s.fr x) (YL (a.exec G T fuel) (b.exec G T fuel) s.fr ps s.st.length) (s.st++[recO 0])).bind fun st'=>(gW st' s.st.length).map fun e=>(e,⟨s.fr,st'.set s.st.length (recO 2)⟩)
 |.opsX l,s=>match EK G T l s with
  |some s'=>some (.next,s')
  |none=>(Je G T l s).map fun r=>(.panic r.1 r.2.1,r.2.2)
 |.pan l d1 t x,s=>match EK G T l s with
  |some s'=>if KL (Dh G s'.fr x)then some (.panic t (Dh G s'.fr x),⟨s'.fr.set d1 .junk,s'.st⟩)else none
  |none=>none
 |.alt a b,s=>match a.exec G T fuel s with
  |some r=>some r
  |none=>b.exec G T fuel s
 |.exit id,s=>some (.exit id,s)
 |.ret,s=>some (.ret,s)
 |.fail,_=>none
inductive PRes where
 |tmp (t:Nat)
 |cell (t n:Nat) (ag:Bool)
 deriving Inhabited
structure PF where
 code:PC
 res:List PRes
 deriving Inhabited
def PRes.get(s:PS):PRes→Option D
 |.tmp t=>DO s.st (s.fr t)
 |.cell t n ag=>match E1 s.st n ag (s.fr t)with
  |some d=>DO s.st d
  |none=>none
def Fo(s:PS):List PRes→Option (List D)
 |[]=>some []
 |r::l=>match r.get s,Fo s l with
  |some x,some y=>some (x::y)
  |_,_=>none
def DK(s:PS):List PRes→Option (List D)
 |[]=>some []
 |.tmp t::l=>(DK s l).map (s.fr t::·)
 |.cell t n ag::l=>match E1 s.st n ag (s.fr t),DK s l with
  |some x,some y=>some (x::y)
  |_,_=>none
def C4(ds:List D):Frame:=fun s=>ds.getD s .junk
def DC:List D→D
 |[d]=>d
 |ds=>.tup ds
noncomputable def PF.run(G:Db)(T:Tbl)(F:PF)(fuel:Nat)(ds:List D):Option D:=
 match F.code.exec G T fuel {fr:=C4 ds,st:=[]} with
 |some (.next,s) | some (.ret,s)=>(Fo s F.res).map DC
 |_=>none
noncomputable def PF.runI(G:Db)(T:Tbl)(F:PF)(fuel:Nat)(ds:List D)(st:St):Option (D×St):=
 match F.code.exec G T fuel {fr:=C4 ds,st} with
 |some (.next,s) | some (.ret,s)=>(DK s F.res).map fun l=>(DC l,s.st)
 |_=>none
noncomputable def PF.runX(G:Db)(T:Tbl)(F:PF)(fuel:Nat)(ds:List D)(st:St):Option (Nat×D×St):=
 match F.code.exec G T fuel {fr:=C4 ds,st} with
 |some (.panic t d,s)=>some (t,d,s.st)
 |_=>none
structure PFD where
 pre:List PI
 hf:PA
 ha:List PA
 code:PC
 res:List PRes
 deriving Inhabited
abbrev H9:=Nat→Option (Nat→D→List D→St→Option St)
def MT(f:D)(ds:List D):Option (Nat×List D):=match f with
 |.clo f caps=>if f<5000000 then some (f,ds++caps)else none
 |_=>none
noncomputable def PFD.runI(G:Db)(T:Tbl)(H:H9)(F:PFD)(fuel:Nat)(ds:List D)(st:St):Option (D×St):=
 match EK G T F.pre {fr:=C4 ds,st} with
 |some s1=>match MT (Dh G s1.fr F.hf) (F.ha.map (Dh G s1.fr))with
  |some (f,das)=>match H f with
   |some h=>match F.code.exec G T fuel s1 with
    |some (.next,s) | some (.ret,s)=>(DK s F.res).map fun l=>(DC l,s.st)
    |some (.panic t d,s)=>match h t d das s.st with
     |some st3=>(DK ⟨s.fr,st3⟩ F.res).map fun l=>(DC l,st3)
     |none=>none
    |_=>none
   |none=>none
  |none=>none
 |none=>none
def Hn(n:Nat):D→D
 |.tup l=>.tup (l.map (G3 n))
 |d=>G3 n d
def cut(k:Nat)(st:St):St:=(st.take k).map fun o=>{o with els:=if o.row then o.els else o.els.map (G3 k)}
def dropped(f:List D→St→Option (D×St))(ds:List D)(st:St):Option (D×St):=
 (f ds st).map fun r=>(Hn st.length r.1,cut st.length r.2)
end Go.Proofs.YtijnglngaogdjaaGreatDoor.PI
namespace Go.Proofs.YtijnglngaogdjaaGreatDoor.PI
open Go Go.RowKit
structure Ghost where
 β:Nat→Nat
 γ:Nat→Nat
 Im:Nat→Nat→Prop
def Fs(els:List D)(i j:Nat):Option D:=match els[i]? with
 |some e=>e.cells[j]?
 |none=>none
def Kg(f:Nat):Fn:=if f<5000000 then .func f else if f<10000000 then .func (f - 5000000)else .yield (f - 10000000)
def OT(f:Nat)(vs:List Value):Array Value:=if 5000000≤f∧f<10000000 then vs.toArray else #[]
def PM(f:Nat)(vs:List Value):Array Value:=if 5000000≤f∧f<10000000 then #[]else vs.toArray
variable {f:Nat}
theorem Qr(h:f<5000000):Kg f=.func f:=if_pos h
theorem WO(h:f<5000000)(vs:List Value):OT f vs=#[]:=if_neg (by omega)
theorem Ww(h:f<5000000)(vs:List Value):PM f vs=vs.toArray:=if_neg (by omega)
theorem aP(f:Nat):OT f []=#[]:=by unfold OT; split <;> rfl
theorem ay(f:Nat):PM f []=#[]:=by unfold PM; split <;> rfl
theorem mL(h:f<5000000):Kg (f+5000000)=.func f:=by
 unfold Kg; rw[if_neg (by omega),if_pos (by omega),Cl]
theorem qK(h:f<5000000)(vs:List Value):OT (f+5000000) vs=vs.toArray:=if_pos ⟨by omega,by omega⟩
theorem pC(h:f<5000000)(vs:List Value):PM (f+5000000) vs=#[]:=if_pos ⟨by omega,by omega⟩
variable {o:Obj}
theorem Z4(h:o.isMap=true):o.row=false:=by
 unfold Obj.isMap at h;grind
theorem eR(h:o.isMap=true):1<o.sz:=by
 unfold Obj.isMap at h;grind
theorem Pa{o':Obj}(E:o'.row=o.row)(I:o'.sz=o.sz):o'.isMap=o.isMap:=by unfold Obj.isMap; rw[E,I]
theorem L1(h:o.row=true):o.isMap=false:=by unfold Obj.isMap; rw[h]; rfl
theorem Om(h:o.sz=1):o.isMap=false:=by unfold Obj.isMap; rw[h]; simp
def Qa:Value→Bool
 |.agg _=>true
 |_=>false
def Mb:Go.Obj→Bool
 |.map es _=>match es[0]? with
  |some e=>Qa e.val
  |none=>false
 |_=>false
theorem du(es:Array MapEntry)(c:Nat):Mb (.map es c)=(match es[0]? with | some e=>Qa e.val | none=>false):=(rfl)
def cN(ents:Array MapEntry)(es:List (Int×Nat)):Prop:=
 (∀ e∈ents.toList,∃ n f,e.key=.int .i64 n∧e.val=.agg #[.func (.func f) #[] #[]]∧f<5000000∧FC n es=some f)∧∀ n f,FC n es=some f→∃ e∈ents.toList,e.key=.int .i64 n
inductive RepV (w:World) (g:Ghost) (st:St):D→Value→Prop
 |int (k:IntKind) (n:Int):RepV w g st (.int k n) (.int k n)
 |bool (b:Bool):RepV w g st (.bool b) (.bool b)
 |str (s:List UInt8):RepV w g st (.str s) (.string ⟨s.toArray⟩)
 |nilp:RepV w g st .nilp (.pointer none)
 |nilm:RepV w g st .nilm (.map none)
 |gmap (es:List (Int×Nat)) (b:Nat) (ents:Array MapEntry) (clock:Nat):w.heap[b]?=some (.map ents clock)→Mb (.map ents clock)=true→cN ents es→RepV w g st (.gmap es) (.map (some b))
 |slcE (sz:Nat) (t:Bool) (a:Option Addr) (cap:Nat):(t=true→cap=0)→RepV w g st (.slc sz [] t) (.slice a 0 cap)
 |slc (els:List D) (t:Bool) (b off cap sz:Nat) (val:Nat→Nat→Value):els≠[]→0<sz→(∀ e∈els,e.cells.length=sz)→(∀ i j d,Fs els i j=some d→d.pure1=true)→els.length≤cap→(t=true→cap=els.length)→
   (∀ i j d,Fs els i j=some d→g.Im b (off+i*sz+j)∧w.cell? ⟨b,off+i*sz+j,none⟩=some (val i j))→
   (∀ i j d,Fs els i j=some d→RepV w g st d (val i j))→RepV w g st (.slc sz els t) (.slice (some ⟨b,off,none⟩) els.length cap)
 |row (key tot off len:Nat) (o:Obj) (v:Value):v.oneCell'=true→st[key]?=some o→o.row=true→tot≤o.els.length→
   (tot=o.els.length→v=.slice (some ⟨g.β key,off*o.sz,none⟩) len (g.γ key - off)∧off+len≤tot)→RepV w g st (.row key tot off len) v
 |bsl (key off n sz:Nat) (ag:Bool) (o:Obj) (cap:Nat):st[key]?=some o→o.row=false→o.sz=1→n≤cap→RepV w g st (.bsl key off n sz ag) (.slice (some ⟨g.β key,off,none⟩) n cap)
 |mapv (key:Nat) (o:Obj):st[key]?=some o→o.isMap=true→RepV w g st (.mapv key) (.map (some (g.β key)))
 |ptr (key off:Nat) (o:Obj):st[key]?=some o→o.row=false→o.sz=1→RepV w g st (.ptr key off) (.pointer (some ⟨g.β key,off,none⟩))
 |rptr (key tot i off:Nat) (o:Obj) (v:Value):v.oneCell'=true→st[key]?=some o→o.row=true→tot≤o.els.length→
   (tot=o.els.length→v=.pointer (some ⟨g.β key,i*o.sz+off,none⟩))→RepV w g st (.rptr key tot i off) v
 |eptr (el:D) (off b o:Nat) (val:Nat→Value):(∀ (j:Nat) (d:D),el.cells[j]?=some d→d.pure1=true)→
   (∀ (j:Nat) (d:D),el.cells[j]?=some d→g.Im b (o+j)∧w.cell? ⟨b,o+j,none⟩=some (val j))→
   (∀ (j:Nat) (d:D),el.cells[j]?=some d→RepV w g st d (val j))→RepV w g st (.eptr el off) (.pointer (some ⟨b,o+off,none⟩))
 |agg (ds:List D) (vs:List Value):ds.length=vs.length→(∀ (i:Nat) (d:D) (v:Value),ds[i]?=some d→vs[i]?=some v→RepV w g st d v)→RepV w g st (.agg ds) (.agg vs.toArray)
 |tup (ds:List D) (vs:List Value):ds.length=vs.length→(∀ (i:Nat) (d:D) (v:Value),ds[i]?=some d→vs[i]?=some v→RepV w g st d v)→RepV w g st (.tup ds) (.tuple vs.toArray)
 |clo (f:Nat) (ds:List D) (vs:List Value):ds.length=vs.length→(∀ (i:Nat) (d:D) (v:Value),ds[i]?=some d→vs[i]?=some v→RepV w g st d v)→RepV w g st (.clo f ds) (.func (Kg f) (OT f vs) (PM f vs))
 |nilf:RepV w g st .nilf .nilFunc
 |junk (v:Value):RepV w g st .junk v
def Evo(g:Ghost)(st:St)(g':Ghost)(st':St):Prop:=
 ∀ (k:Nat) (o:Obj),st[k]?=some o→∃ o',st'[k]?=some o'∧o'.row=o.row∧o'.sz=o.sz∧o.els.length≤o'.els.length∧
  (o'.els.length=o.els.length→g'.β k=g.β k∧g'.γ k=g.γ k)∧(o.row=false→g'.β k=g.β k)
theorem Evo.refl(g:Ghost)(st:St):Evo g st g st:=fun _ o h=>⟨o,h,rfl,rfl,AE _,fun _=>⟨rfl,rfl⟩,fun _=>rfl⟩
variable {st st1 st2:St}{g g1 g2:Ghost}
theorem Evo.trans(h:Evo g st g1 st1)(E:Evo g1 st1 g2 st2):Evo g st g2 st2:=by
 intro k o I;obtain⟨o1,J,r1,s1,l1,b1,c1⟩:=h k o I;obtain⟨o2,M,N,s2,O,U,V⟩:=E k o1 J;grind
structure ImLe (w:World) (g:Ghost) (w':World) (g':Ghost):Prop where
 im:∀ b o,g.Im b o→g'.Im b o∧w'.cell? ⟨b,o,none⟩=w.cell? ⟨b,o,none⟩
 kp:∀ (b:Nat) (o:Go.Obj),w.heap[b]?=some o→Mb o=true→w'.heap[b]?=some o
theorem ImLe.refl(w:World)(g:Ghost):ImLe w g w g:=⟨fun _ _ h=>⟨h,rfl⟩,fun _ _ h _=>h⟩
variable {w w1 w2:World}
theorem ImLe.trans(h:ImLe w g w1 g1)(E:ImLe w1 g1 w2 g2):ImLe w g w2 g2:=
 ⟨fun b o hb=>⟨(E.im b o (h.im b o hb).1).1,(E.im b o (h.im b o hb).1).2.trans (h.im b o hb).2⟩,fun b o hb I=>E.kp b o (h.kp b o hb I) I⟩
variable {v:Value}{d:D}{st':St}{g':Ghost}{w':World}
theorem RepV.mono(Y:ImLe w g w' g')(hE:Evo g st g' st')(h:RepV w g st d v):RepV w' g' st' d v:=by
 induction h with
 |int k n=>exact .int k n
 |bool b=>exact .bool b
 |str s=>exact .str s
 |nilp=>exact .nilp
 |nilm=>exact .nilm
 |gmap es b ae clock E I J=>exact .gmap es b ae clock (Y.kp _ _ E I) I J
 |slcE sz t a cap h=>exact .slcE sz t a cap h
 |slc els t b off cap sz val E I J a0 h4 h5 h6 _ M=>
  exact .slc els t b off cap sz val E I J a0 h4 h5 (fun i j d U=>⟨(Y.im _ _ (h6 i j d U).1).1,(Y.im _ _ (h6 i j d U).1).2.trans (h6 i j d U).2⟩) M
 |row key tot off len o v h0 E I J h4=>
  obtain⟨o',N,O,V,e4,e5,_⟩:=hE key o E;refine .row key tot off len o' v h0 N (O.trans I) (AS J e4) fun e=>?_;grind
 |bsl key off n sz ag o cap E I J h4=>
  obtain⟨o',N,O,V,_,_,e6⟩:=hE key o E;rw[← e6 I];exact .bsl key off n sz ag o' cap N (O.trans I) (V.trans J) h4
 |mapv key o E I=>
  obtain⟨o',N,O,V,_,_,e6⟩:=hE key o E;rw[← e6 (Z4 I)];exact .mapv key o' N (by rw[Pa O V]; exact I)
 |ptr key off o E I J=>
  obtain⟨o',N,O,V,_,_,e6⟩:=hE key o E;rw[← e6 I];exact .ptr key off o' N (O.trans I) (V.trans J)
 |rptr key tot i off o v h0 E I J h4=>
  obtain⟨o',N,O,V,e4,e5,_⟩:=hE key o E;refine .rptr key tot i off o' v h0 N (O.trans I) (AS J e4) fun e=>?_;grind
 |eptr el off b o val h0 E _ M=>exact .eptr el off b o val h0 (fun j d U=>⟨(Y.im _ _ (E j d U).1).1,(Y.im _ _ (E j d U).1).2.trans (E j d U).2⟩) M
 |agg ds vs h _ M=>exact .agg ds vs h M
 |tup ds vs h _ M=>exact .tup ds vs h M
 |clo f ds vs h _ M=>exact .clo f ds vs h M
 |nilf=>exact .nilf
 |junk v=>exact .junk v
def Zu(base:Nat)(w:World)(b:Nat)(o:Obj):Prop:=
 ∃ (r:Loop) (n:Int),w.heap[b]?=some (.loop r)∧base≤b∧o.els=[.int .i64 n]∧(n=0→r.state=.ready∧r.pending=none)∧(n=1→r.state=.done∧r.pending=some .ret)
def MapAt0(base:Nat)(w:World)(g:Ghost)(st:St)(b:Nat)(o:Obj):Prop:=
 ∃ es clock,w.heap[b]?=some (.map es clock)∧base≤b∧es.size=o.els.length∧(∀ x∈o.els,∃ l,x=.agg l∧l.length=o.sz)∧
  (∀ (i:Nat) (e:MapEntry) (el:D),es[i]?=some e→o.els[i]?=some el→RepV w g st (Fy o.sz el) e.key∧RepV w g st (G5 o.sz el) e.val)∧Mb (.map es clock)=false
variable {b b' base:Nat}
theorem MapAt0.mono(h:MapAt0 base w g st b o)(I:ImLe w g w' g')(J:Evo g st g' st')(hb:b'=b)(N:w'.heap[b]?=w.heap[b]?):MapAt0 base w' g' st' b' o:=by
 obtain⟨es,clock,O,U,V,Y,M,h6⟩:=h;subst hb;exact⟨es,clock,N.trans O,U,V,Y,fun i e el he E=>⟨(M i e el he E).1.mono I J,(M i e el he E).2.mono I J⟩,h6⟩
def MapAt(base:Nat)(w:World)(g:Ghost)(st:St)(b:Nat)(o:Obj):Prop:=if o.sz=1000003 then Zu base w b o else MapAt0 base w g st b o
theorem MapAt.mono(h:MapAt base w g st b o)(J:ImLe w g w' g')(M:Evo g st g' st')(hb:b'=b)(I:w'.heap[b]?=w.heap[b]?):MapAt base w' g' st' b' o:=by
 unfold MapAt at h ⊢
 split at h
 ·rename_i E;rw[if_pos E];obtain⟨r,n,N,O⟩:=h;subst hb;exact⟨r,n,I.trans N,O⟩
 ·rename_i E;rw[if_neg E];exact MapAt0.mono h J M hb I
theorem MapAt.old(h:MapAt base w g st b o)(E:o.sz≠1000003):MapAt0 base w g st b o:=by
 unfold MapAt at h; rwa [if_neg E]at h
theorem MapAt.rec'(h:MapAt base w g st b o)(E:o.sz=1000003):Zu base w b o:=by
 unfold MapAt at h; rwa [if_pos E]at h
theorem MapAt.at(h:MapAt base w g st b o):∃ x,w.heap[b]?=some x∧base≤b∧Mb x=false∧(∀ C e z,x≠.cells C e z)∧(∀ ds,x≠.deferred ds)∧∀ i,w.cell? ⟨b,i,none⟩=none:=by
 by_cases J:o.sz=1000003
 ·obtain⟨r,n,E,I,_⟩:=h.rec' J;exact⟨_,E,I,rfl,fun _ _ _ h=>(by cases h),fun _ h=>(by cases h),fun i=>by simp only[World.cell?,E]⟩
 ·obtain⟨es,c,E,I,_,_,_,M⟩:=h.old J;exact⟨_,E,I,M,fun _ _ _ h=>(by cases h),fun _ h=>(by cases h),fun i=>by simp only[World.cell?,E]⟩
structure SR (base:Nat) (w:World) (g:Ghost) (st:St):Prop where
 mp:∀ (k:Nat) (o:Obj),st[k]?=some o→o.isMap=true→MapAt base w g st (g.β k) o
 blk:∀ (k:Nat) (o:Obj),st[k]?=some o→o.isMap=false→∃ C e,w.heap[g.β k]?=some (.cells C e (0,0))∧base≤g.β k∧0<o.sz∧(∀ x∈o.els,x.cells.length=o.sz)∧
  (if o.row then C.size=g.γ k*o.sz∧o.els.length≤g.γ k∧g.γ k≤maxLen else C.size=o.els.length∧o.sz=1∧∀ x∈o.els,x.cells=[x])∧
  (∀ i j d,Fs o.els i j=some d→(o.row=true→d.pure1=true)∧∃ v,C[i*o.sz+j]?=some v∧RepV w g st d v)
 inj:∀ (k k':Nat) (o o':Obj),st[k]?=some o→st[k']?=some o'→g.β k=g.β k'→k=k'
 im:∀ b o,g.Im b o→(w.cell? ⟨b,o,none⟩).isSome=true
 dis:∀ (k:Nat) (o:Obj) (x:Nat),st[k]?=some o→g.Im (g.β k) x→o.lent=true∧x<o.els.length*o.sz
 size:base≤w.heap.size
def special:Go.Obj→Bool
 |.loop _ | .deferred _=>true
 |_=>false
def sameSp:Go.Obj→Go.Obj→Prop
 |.loop r,x=>∃ s p,x=.loop {r with state:=s,pending:=p}
 |y,x=>x=y
theorem sameSp.refl(o:Go.Obj):sameSp o o:=by
 cases o <;> first | rfl | exact⟨_,_,rfl⟩
theorem sameSp.trans{a b c:Go.Obj}(h:sameSp a b)(E:sameSp b c):sameSp a c:=by
 cases a with
 |loop r=>
  obtain⟨s,p,rfl⟩:=h;obtain⟨s',p',rfl⟩:=E;exact⟨s',p',rfl⟩
 |_=>cases h; exact E
theorem sameSp.special{a b:Go.Obj}(h:sameSp a b)(E:special a=true):special b=true:=by
 cases a with
 |loop r=>obtain⟨s,p,rfl⟩:=h; rfl
 |_=>cases h; exact E
def Kept(w':World)(b:Nat)(o:Go.Obj):Prop:=∃ o',w'.heap[b]?=some o'∧sameSp o o'
theorem Kept.same{o:Go.Obj}(h:w'.heap[b]?=some o):Kept w' b o:=⟨o,h,sameSp.refl o⟩
theorem Kept.def'{ds:Option (List Deferred)}(h:Kept w' b (.deferred ds)):w'.heap[b]?=some (.deferred ds):=by
 obtain⟨o',E,I⟩:=h;cases I; exact E
theorem Kept.loop{r:Loop}(h:Kept w' b (.loop r)):∃ s p,w'.heap[b]?=some (.loop {r with state:=s,pending:=p}):=by
 obtain⟨o',E,s,p,rfl⟩:=h;grind
structure Go1 (base:Nat) (w:World) (g:Ghost) (st:St) (w':World) (g':Ghost) (st':St):Prop where
 sr:SR base w' g' st'
 evo:Evo g st g' st'
 im:ImLe w g w' g'
 new:∀ b o,g'.Im b o→g.Im b o∨base≤b
 below:Below base w w'
 kp:∀ (b:Nat) (o:Go.Obj),w.heap[b]?=some o→special o=true→Kept w' b o
theorem Go1.refl(h:SR base w g st):Go1 base w g st w g st:=
 ⟨h,Evo.refl _ _,ImLe.refl _ _,fun _ _ h=>.inl h,Below.refl _ _,fun _ _ h _=>.same h⟩
theorem Go1.trans(h:Go1 base w g st w1 g1 st1)(E:Go1 base w1 g1 st1 w2 g2 st2):Go1 base w g st w2 g2 st2:=
 ⟨E.sr,h.evo.trans E.evo,h.im.trans E.im,fun b o hb=>by
  rcases E.new b o hb with x | x
  ·exact h.new b o x
  ·exact .inr x,h.below.trans E.below,fun b o hb I=>(let⟨_,M,J⟩:=h.kp b o hb I; let⟨o2,N,O⟩:=E.kp b _ M (J.special I); ⟨o2,N,J.trans O⟩)⟩
theorem Go1.rep(h:Go1 base w g st w' g' st')(E:RepV w g st d v):RepV w' g' st' d v:=E.mono h.im h.evo
theorem RepV.oneCell(h:RepV w g st d v)(E:d.isCell=true):v.oneCell'=true:=by
 cases h <;> first
  |rfl
  |assumption
  |(simp[D.isCell]at E; done)
theorem Pm(h:d.pure1=true):d.isCell=true:=by
 cases d <;> simp_all [D.pure1,D.isCell]
theorem cell?_add(w:World)(b o n:Nat):w.cell? ((⟨b,o,none⟩:Addr).add n)=w.cell? ⟨b,o+n,none⟩:=by
 unfold Addr.add;grind
theorem Kw(b o n:Nat):((⟨b,o,none⟩:Addr).add n)=⟨b,o+n,none⟩:=by
 unfold Addr.add;grind
end Go.Proofs.YtijnglngaogdjaaGreatDoor.PI
namespace Go.Proofs.YtijnglngaogdjaaGreatDoor.PI
open Go Go.RowKit
def Fk(f:Nat→Nat)(k v:Nat):Nat→Nat:=fun i=>if i=k then v else f i
theorem HD(f:Nat→Nat)(k v:Nat):Fk f k v k=v:=by simp[Fk]
theorem Gj(f:Nat→Nat)(k v i:Nat)(h:i≠k):Fk f k v i=f i:=by simp[Fk,h]
variable {o:Obj}{base k:Nat}{st:St}{g:Ghost}{w:World}
theorem SR.lt(h:SR base w g st)(hk:st[k]?=some o):g.β k<w.heap.size:=by
 cases hm:o.isMap with
 |false=>
  obtain⟨C,e,hb,_⟩:=h.blk k o hk hm;grind
 |true=>
  obtain⟨x,hb,_⟩:=(h.mp k o hk hm).at;grind
theorem SR.based(h:SR base w g st)(hk:st[k]?=some o):base≤g.β k:=by
 cases hm:o.isMap with
 |false=>
  obtain⟨C,e,hb,E,_⟩:=h.blk k o hk hm;exact E
 |true=>
  obtain⟨x,hb,E,_⟩:=(h.mp k o hk hm).at;exact E
theorem SR.im_lt(h:SR base w g st){b o:Nat}(hi:g.Im b o):b<w.heap.size:=by
 have:=h.im b o hi
 cases hc:w.cell? ⟨b,o,none⟩with
 |none=>simp[hc]at this
 |some v=>exact World.block_lt_of_cell? w _ hc
theorem bG{a b:List D}{i j:Nat}(h:i<a.length):Fs (a++b) i j=Fs a i j:=by
 simp[Fs,Au h]
structure Beside (w w':World):Prop where
 os:w'.os=w.os
 tape:w'.tape=w.tape
 output:w'.output=w.output
 size:w.heap.size≤w'.heap.size
variable {e:TypeId}{C:Array Value}{B:Nat}{o':Obj}{w':World}
theorem SR.update(h:SR base w g st){c:Nat}{C':Array Value}{e':TypeId}
  (hk:st[k]?=some o) (hm:o.isMap=false) (ah:w.heap[g.β k]?=some (.cells C e (0,0)))
  (I:(B=g.β k∧c=g.γ k)∨(w.heap.size≤B∧o.els.length<o'.els.length∧o.row=true))
  (U:o'.row=o.row) (O:o'.sz=o.sz) (ba:o.els.length≤o'.els.length) (a7:o'.lent=o.lent)
  (hx:∀ x∈o'.els,x.cells.length=o.sz)
  (N:Beside w w') (V:∀ b,b<w.heap.size→b≠B→w'.heap[b]?=w.heap[b]?)
  (a0:w'.heap[B]?=some (.cells C' e' (0,0)))
  (cd:B=g.β k→∀ x,g.Im (g.β k) x→C'[x]?=C[x]?)
  (hC:if o.row then C'.size=c*o.sz∧o'.els.length≤c∧c≤maxLen else C'.size=o'.els.length∧o.sz=1∧∀ x∈o'.els,x.cells=[x])
  (bb:∀ i j d,Fs o'.els i j=some d→(o.row=true→d.pure1=true)∧∃ v,C'[i*o.sz+j]?=some v∧RepV w g st d v) :
  Go1 base w g st w' {g with β:=Fk g.β k B,γ:=Fk g.γ k c} (st.set k o'):=by
 have Y:k<st.length:=(Ac.1 hk).1;obtain⟨C1,e1,ce,bg,b9,cf,cg,b6⟩:=h.blk k o hk hm
 have bh:base≤B:=by
  grind
 have M:ImLe w g w' {g with β:=Fk g.β k B,γ:=Fk g.γ k c}:=by
  refine⟨?_,fun b x hb hs=>?_⟩
  case refine_2=>
   have a3:b<w.heap.size:=(AG.1 hb).1
   have ab:b≠B:=by
    intro e;rcases I with⟨rfl,_⟩ | ⟨I,_⟩
    ·rw[e,ah]at hb;obtain rfl:=AD hb;simp[Mb]at hs
    ·omega
   grind
  intro b x hb;refine⟨hb,?_⟩;have a3:=h.im_lt hb
  by_cases E:b=B
  ·subst E;rcases I with⟨e2,_⟩ | ⟨I,_⟩
   ·subst e2;simp only[World.cell?,a0,ah];grind
   ·omega
  ·simp only[World.cell?,V b a3 E]
 have aa:Evo g st {g with β:=Fk g.β k B,γ:=Fk g.γ k c} (st.set k o'):=by
  intro J o1 Dp
  by_cases E:J=k
  ·subst E;obtain rfl:o1=o:=AD (Dp.symm.trans hk);refine⟨o',by simp[Y],U,O,ba,fun hl=>?_,fun hr=>?_⟩
   ·rcases I with⟨rfl,rfl⟩ | ⟨_,ch,_⟩
    ·simp[HD]
    ·omega
   ·rcases I with⟨rfl,rfl⟩ | ⟨_,_,c0⟩
    ·simp[HD]
    ·grind
  ·refine⟨o1,by rw[AL (by omega)]; exact Dp,rfl,rfl,AE _,fun _=>?_,fun _=>?_⟩
   ·simp[Gj _ _ _ _ E]
   ·simp[Gj _ _ _ _ E]
 have b1:∀ (b:Nat) (o:Go.Obj),w.heap[b]?=some o→special o=true→w'.heap[b]?=some o:=by
  intro b x hb hs;have a3:b<w.heap.size:=(AG.1 hb).1
  have ab:b≠B:=by
   intro e;rcases I with⟨rfl,_⟩ | ⟨I,_⟩
   ·rw[e,ah]at hb;obtain rfl:=AD hb;simp[special]at hs
   ·omega
  grind
 refine⟨⟨?_,?_,?_,?_,?_,AS h.size N.size⟩,aa,M,fun b x hb=>.inl hb,?_,fun b x hb hs=>.same (b1 b x hb hs)⟩
 ·intro J o1 Dp ad
  by_cases E:J=k
  ·subst E;obtain rfl:o1=o':=by rw[Bx Y]at Dp; exact(AD Dp).symm
   rw[Pa U O,hm]at ad; cases ad
  ·rw[AL (by omega)]at Dp
   have ab:g.β J≠B:=by
    rcases I with⟨rfl,_⟩ | ⟨I,_⟩
    ·exact fun e3=>E (h.inj _ _ _ _ Dp hk e3)
    ·have:=h.lt Dp; omega
   exact(h.mp J o1 Dp ad).mono M aa (Gj _ _ _ _ E) (V _ (h.lt Dp) ab)
 ·intro J o1 Dp ad
  by_cases E:J=k
  ·subst E;obtain rfl:o1=o':=by rw[Bx Y]at Dp; exact(AD Dp).symm
   refine⟨C',e',by simpa[HD]using a0,by simpa[HD]using bh,by omega,fun x b2=>(hx x b2).trans O.symm,?_,?_⟩
   ·rw[U,O];simpa[HD]using hC
   ·intro i j d hd;obtain⟨a4,v,h2,h3⟩:=bb i j d hd;exact⟨fun e=>a4 (U.symm.trans e),v,by rw[O]; exact h2,h3.mono M aa⟩
  ·rw[AL (by omega)]at Dp;obtain⟨C2,e2,b3,a6,a8,b4,b5,a9⟩:=h.blk J o1 Dp ad
   have ab:g.β J≠B:=by
    rcases I with⟨rfl,_⟩ | ⟨I,_⟩
    ·exact fun e3=>E (h.inj _ _ _ _ Dp hk e3)
    ·grind
   refine⟨C2,e2,?_,?_,a8,b4,?_,?_⟩
   ·show w'.heap[Fk g.β k B J]?=_
    rw[Gj _ _ _ _ E,V _ (h.lt Dp) ab]; exact b3
   ·show base≤Fk g.β k B J
    rw[Gj _ _ _ _ E]; exact a6
   ·simpa[Gj _ _ _ _ E]using b5
   ·intro i j d hd;obtain⟨a4,v,h2,h3⟩:=a9 i j d hd;exact⟨a4,v,h2,h3.mono M aa⟩
 ·intro J k2 o1 o2 Dp ae he;simp only at he
  by_cases e1:J=k <;> by_cases e2:k2=k
  ·omega
  ·exfalso;subst e1;rw[HD,Gj _ _ _ _ e2]at he;rw[AL (by omega)]at ae;rcases I with⟨rfl,_⟩ | ⟨I,_⟩
   ·exact e2 (h.inj _ _ _ _ hk ae he).symm
   ·have:=h.lt ae; omega
  ·exfalso;subst e2;rw[HD,Gj _ _ _ _ e1]at he;rw[AL (by omega)]at Dp;rcases I with⟨rfl,_⟩ | ⟨I,_⟩
   ·exact e1 (h.inj _ _ _ _ Dp hk he)
   ·have:=h.lt Dp; omega
  ·rw[Gj _ _ _ _ e1,Gj _ _ _ _ e2]at he;rw[AL (by omega)]at Dp ae;exact h.inj _ _ _ _ Dp ae he
 ·intro b x hb;rw[(M.im b x hb).2];exact h.im b x hb
 ·intro J o1 x Dp hi;simp only at hi
  by_cases E:J=k
  ·subst E;obtain rfl:o1=o':=by rw[Bx Y]at Dp; exact(AD Dp).symm
   rw[HD]at hi;rcases I with⟨rfl,_⟩ | ⟨I,_⟩
   ·obtain⟨h1,h2⟩:=h.dis _ _ _ hk hi;refine⟨by rw[a7]; exact h1,AY h2 ?_⟩;rw[O];exact AP _ ba
   ·have:=h.im_lt hi; omega
  ·rw[AL (by omega)]at Dp;rw[Gj _ _ _ _ E]at hi;exact h.dis _ _ _ Dp hi
 ·refine⟨N.os,N.tape,N.output,N.size,fun b hb=>?_⟩;grind
theorem SR.push(h:SR base w g st){c:Nat}
  (O:Beside w w') (J:∀ b,b<w.heap.size→w'.heap[b]?=w.heap[b]?)
  (ah:w'.heap[w.heap.size]?=some (.cells C e (0,0)))
  (hm:o.isMap=false) (a0:0<o.sz) (hx:∀ x∈o.els,x.cells.length=o.sz)
  (hC:if o.row then C.size=c*o.sz∧o.els.length≤c∧c≤maxLen else C.size=o.els.length∧o.sz=1∧∀ x∈o.els,x.cells=[x])
  (a1:∀ i j d,Fs o.els i j=some d→(o.row=true→d.pure1=true)∧∃ v,C[i*o.sz+j]?=some v∧RepV w g st d v) :
  Go1 base w g st w' {g with β:=Fk g.β st.length w.heap.size,γ:=Fk g.γ st.length c} (st++[o]):=by
 have M:ImLe w g w' {g with β:=Fk g.β st.length w.heap.size,γ:=Fk g.γ st.length c}:=by
  refine⟨?_,fun b o hb _=>by rw[J b (AG.1 hb).1]; exact hb⟩;intro b x hb;refine⟨hb,?_⟩;have Y:=h.im_lt hb;simp only[World.cell?,J b Y]
 have Y:∀ (E:Nat) (o1:Obj),st[E]?=some o1→E<st.length:=fun E o1 h1=>(Ac.1 h1).1
 have V:Evo g st {g with β:=Fk g.β st.length w.heap.size,γ:=Fk g.γ st.length c} (st++[o]):=by
  intro E o1 Dp;have:=Y _ _ Dp;refine⟨o1,by rw[Au this]; exact Dp,rfl,rfl,AE _,fun _=>?_,fun _=>?_⟩
  ·simp[Gj _ _ _ _ (show E≠st.length by omega)]
  ·simp[Gj _ _ _ _ (show E≠st.length by omega)]
 have I:∀ (E:Nat) (o1:Obj),(st++[o])[E]?=some o1→(E<st.length∧st[E]?=some o1)∨(E=st.length∧o1=o):=by
  grind
 refine⟨⟨?_,?_,?_,?_,?_,AS h.size O.size⟩,V,M,fun b x hb=>.inl hb,?_,fun b o hb _=>.same (by rw[J b (AG.1 hb).1]; exact hb)⟩
 ·intro E o1 Dp ab;rcases I E o1 Dp with⟨h1,U⟩ | ⟨rfl,rfl⟩
  ·exact(h.mp E o1 U ab).mono M V (Gj _ _ _ _ (by omega)) (J _ (h.lt U))
  ·grind
 ·intro E o1 Dp ab;rcases I E o1 Dp with⟨h1,U⟩ | ⟨rfl,rfl⟩
  ·obtain⟨C2,e2,a5,ac,ad,a6,a7,ae⟩:=h.blk E o1 U ab;have e0:E≠st.length:=by omega
   refine⟨C2,e2,?_,?_,ad,a6,?_,?_⟩
   ·show w'.heap[Fk g.β st.length w.heap.size E]?=_
    rw[Gj _ _ _ _ e0,J _ (h.lt U)]; exact a5
   ·show base≤Fk g.β st.length w.heap.size E
    rw[Gj _ _ _ _ e0]; exact ac
   ·simpa[Gj _ _ _ _ e0]using a7
   ·intro i j d hd;obtain⟨N,v,U,h3⟩:=ae i j d hd;exact⟨N,v,U,h3.mono M V⟩
  ·refine⟨C,e,by simpa[HD]using ah,by simpa[HD]using h.size,a0,hx,by simpa[HD]using hC,?_⟩;intro i j d hd;obtain⟨N,v,U,h3⟩:=a1 i j d hd;exact⟨N,v,U,h3.mono M V⟩
 ·intro E k2 o1 o2 Dp a8 he;simp only at he;rcases I E o1 Dp with⟨h1,N⟩ | ⟨rfl,_⟩ <;> rcases I k2 o2 a8 with⟨U,af⟩ | ⟨rfl,_⟩
  ·rw[Gj _ _ _ _ (by omega),Gj _ _ _ _ (by omega)]at he;exact h.inj _ _ _ _ N af he
  ·rw[Gj _ _ _ _ (by omega),HD]at he;have:=h.lt N; omega
  ·rw[HD,Gj _ _ _ _ (by omega)]at he;have:=h.lt af; omega
  ·rfl
 ·intro b x hb;rw[(M.im b x hb).2];exact h.im b x hb
 ·intro E o1 x Dp hi;simp only at hi;rcases I E o1 Dp with⟨h1,N⟩ | ⟨rfl,rfl⟩
  ·rw[Gj _ _ _ _ (by omega)]at hi;exact h.dis _ _ _ N hi
  ·rw[HD]at hi;have:=h.im_lt hi; omega
 ·exact⟨O.os,O.tape,O.output,O.size,fun b hb=>J b (AY hb h.size)⟩
theorem SR.updM(h:SR base w g st)
  (hk:st[k]?=some o) (hm:o.isMap=true) (ac:o'.row=o.row) (ah:o'.sz=o.sz) (bg:o.els.length≤o'.els.length)
  (J:Beside w w') (E:∀ b,b≠g.β k→w'.heap[b]?=w.heap[b]?) 
  (bh:∀ st',ImLe w g w' g→Evo g st g st'→MapAt base w' g st' (g.β k) o') (a6:∀ x,w.heap[g.β k]?=some x→special x=true→Kept w' (g.β k) x) :
  Go1 base w g st w' g (st.set k o'):=by
 have ad:k<st.length:=(Ac.1 hk).1;obtain⟨x0,b1,a0,a7,_,_,b2⟩:=(h.mp k o hk hm).at
 have a8:∀ x,¬ g.Im (g.β k) x:=fun x hi=>by
  have:=h.im _ _ hi;grind
 have I:ImLe w g w' g:=by
  refine⟨?_,fun b x hb hs=>?_⟩
  case refine_2=>
   grind
  intro b x hb;refine⟨hb,?_⟩
  by_cases O:b=g.β k
  ·grind
  ·simp only[World.cell?,E b O]
 have U:Evo g st g (st.set k o'):=by
  intro M o1 Dp;grind
 refine⟨⟨?_,?_,?_,?_,?_,AS h.size J.size⟩,U,I,fun b x hb=>.inl hb,?_,?_⟩
 ·intro M o1 Dp N
  by_cases O:M=k
  ·grind
  ·rw[AL (by omega)]at Dp;exact(h.mp M o1 Dp N).mono I U rfl (E _ (fun e3=>O (h.inj _ _ _ _ Dp hk e3)))
 ·intro M o1 Dp N
  by_cases O:M=k
  ·subst O;obtain rfl:o1=o':=by rw[Bx ad]at Dp; exact(AD Dp).symm
   rw[Pa ac ah,hm]at N; cases N
  ·rw[AL (by omega)]at Dp;obtain⟨C2,e2,a1,Y,aa,a2,a3,ab⟩:=h.blk M o1 Dp N;refine⟨C2,e2,(E _ (fun e3=>O (h.inj _ _ _ _ Dp hk e3))).trans a1,Y,aa,a2,a3,?_⟩;intro i j d hd;obtain⟨a4,v,h2,h3⟩:=ab i j d hd;exact⟨a4,v,h2,h3.mono I U⟩
 ·intro M k2 o1 o2 Dp V he
  by_cases e1:M=k <;> by_cases e2:k2=k
  ·omega
  ·subst e1;rw[AL (by omega)]at V;exact h.inj _ _ _ _ hk V he
  ·subst e2;rw[AL (by omega)]at Dp;exact h.inj _ _ _ _ Dp hk he
  ·rw[AL (by omega)]at Dp V;exact h.inj _ _ _ _ Dp V he
 ·intro b x hb;rw[(I.im b x hb).2];exact h.im b x hb
 ·intro M o1 x Dp hi
  by_cases O:M=k
  ·grind
  ·rw[AL (by omega)]at Dp;exact h.dis _ _ _ Dp hi
 ·exact⟨J.os,J.tape,J.output,J.size,fun b hb=>E b (by omega)⟩
 ·intro b x hb hs
  by_cases a5:b=g.β k
  ·grind
  ·exact .same (by rw[E b a5]; exact hb)
theorem SR.updMap(h:SR base w g st){es':Array MapEntry}{clock':Nat}
  (hk:st[k]?=some o) (hm:o.isMap=true) (N:o.sz≠1000003) (U:o'.row=o.row) (E:o'.sz=o.sz) (ab:o.els.length≤o'.els.length) (_:o'.lent=o.lent)
  (V:Beside w w') (M:∀ b,b≠g.β k→w'.heap[b]?=w.heap[b]?) (Y:w'.heap[g.β k]?=some (.map es' clock'))
  (aa:es'.size=o'.els.length) (hx:∀ x∈o'.els,∃ l,x=.agg l∧l.length=o.sz)
  (I:∀ (i:Nat) (e:MapEntry) (el:D),es'[i]?=some e→o'.els[i]?=some el→RepV w g st (Fy o.sz el) e.key∧RepV w g st (G5 o.sz el) e.val) (ac:Mb (.map es' clock')=false) :
  Go1 base w g st w' g (st.set k o'):=by
 obtain⟨es,clock,ad,J,_⟩:=(h.mp k o hk hm).old N;refine h.updM hk hm U E ab V M (fun st' hI hE=>?_) (fun x hb hs=>?_)
 ·unfold MapAt;rw[if_neg (by rw[E]; exact N)];refine⟨es',clock',Y,J,aa,by rw[E]; exact hx,?_,ac⟩;rw[E];exact fun i e el he O=>⟨(I i e el he O).1.mono hI hE,(I i e el he O).2.mono hI hE⟩
 ·rw[ad]at hb;obtain rfl:=AD hb;simp[special]at hs
variable {r:Loop}
theorem SR.updRec(h:SR base w g st){n:Int}{s:_}{p:Option Code}
  (hk:st[k]?=some o) (E:o.row=false) (I:o.sz=1000003)
  (O:Beside w w') (N:∀ b,b≠g.β k→w'.heap[b]?=w.heap[b]?) (V:w.heap[g.β k]?=some (.loop r)) (J:w'.heap[g.β k]?=some (.loop {r with state:=s,pending:=p}))
  (Y:n=0→s=.ready∧p=none) (h1:n=1→s=.done∧p=some .ret) :
  Go1 base w g st w' g (st.set k (recO n)):=by
 have hm:o.isMap=true:=by simp[Obj.isMap,E,I]
 obtain⟨r0,n0,ab,M,U,_⟩:=(h.mp k o hk hm).rec' I;refine h.updM hk hm (by rw[E]; rfl) (by rw[I]; rfl) (by rw[U]; exact AE _) O N (fun st' hI hE=>?_) (fun x hb hs=>?_)
 ·unfold MapAt;rw[if_pos (show(recO n).sz=1000003 from rfl)];exact⟨_,n,J,M,rfl,Y,h1⟩
 ·rw[V]at hb;obtain rfl:=AD hb;exact⟨_,J,_,_,rfl⟩
theorem SR.pushM(h:SR base w g st)(hB:w.heap.size≤B)
  (N:Beside w w') (J:∀ b,b<w.heap.size→w'.heap[b]?=w.heap[b]?) (hm:o.isMap=true)
  (ah:∀ g' st',MapAt base w' g' st' B o) :
  Go1 base w g st w' {g with β:=Fk g.β st.length B} (st++[o]):=by
 have M:ImLe w g w' {g with β:=Fk g.β st.length B}:=by
  refine⟨?_,fun b o hb _=>by rw[J b (AG.1 hb).1]; exact hb⟩;intro b x hb;refine⟨hb,?_⟩;have Y:=h.im_lt hb;simp only[World.cell?,J b Y]
 have Y:∀ (E:Nat) (o1:Obj),st[E]?=some o1→E<st.length:=fun E o1 h1=>(Ac.1 h1).1
 have V:Evo g st {g with β:=Fk g.β st.length B} (st++[o]):=by
  intro E o1 Dp;have:=Y _ _ Dp;refine⟨o1,by rw[Au this]; exact Dp,rfl,rfl,AE _,fun _=>?_,fun _=>?_⟩
  ·simp[Gj _ _ _ _ (show E≠st.length by omega)]
  ·simp[Gj _ _ _ _ (show E≠st.length by omega)]
 have I:∀ (E:Nat) (o1:Obj),(st++[o])[E]?=some o1→(E<st.length∧st[E]?=some o1)∨(E=st.length∧o1=o):=by
  grind
 refine⟨⟨?_,?_,?_,?_,?_,AS h.size N.size⟩,V,M,fun b x hb=>.inl hb,?_,fun b o hb _=>.same (by rw[J b (AG.1 hb).1]; exact hb)⟩
 ·intro E o1 Dp ab;rcases I E o1 Dp with⟨h1,U⟩ | ⟨rfl,rfl⟩
  ·exact(h.mp E o1 U ab).mono M V (Gj _ _ _ _ (by omega)) (J _ (h.lt U))
  ·show MapAt base w' _ _ (Fk g.β st.length B st.length) _
   rw[HD]; exact ah _ _
 ·intro E o1 Dp ab;rcases I E o1 Dp with⟨h1,U⟩ | ⟨rfl,rfl⟩
  ·obtain⟨C2,e2,a0,ac,ad,a1,a2,ae⟩:=h.blk E o1 U ab;have e0:E≠st.length:=by omega
   refine⟨C2,e2,?_,?_,ad,a1,a2,?_⟩
   ·show w'.heap[Fk g.β st.length B E]?=_
    rw[Gj _ _ _ _ e0,J _ (h.lt U)]; exact a0
   ·show base≤Fk g.β st.length B E
    rw[Gj _ _ _ _ e0]; exact ac
   ·intro i j d hd;obtain⟨O,v,U,h3⟩:=ae i j d hd;exact⟨O,v,U,h3.mono M V⟩
  ·grind
 ·intro E k2 o1 o2 Dp a4 he;simp only at he;rcases I E o1 Dp with⟨h1,O⟩ | ⟨rfl,_⟩ <;> rcases I k2 o2 a4 with⟨U,af⟩ | ⟨rfl,_⟩
  ·rw[Gj _ _ _ _ (by omega),Gj _ _ _ _ (by omega)]at he;exact h.inj _ _ _ _ O af he
  ·rw[Gj _ _ _ _ (by omega),HD]at he;have:=h.lt O; omega
  ·rw[HD,Gj _ _ _ _ (by omega)]at he;have:=h.lt af; omega
  ·rfl
 ·intro b x hb;rw[(M.im b x hb).2];exact h.im b x hb
 ·intro E o1 x Dp hi;simp only at hi;rcases I E o1 Dp with⟨h1,O⟩ | ⟨rfl,rfl⟩
  ·rw[Gj _ _ _ _ (by omega)]at hi;exact h.dis _ _ _ O hi
  ·rw[HD]at hi;have:=h.im_lt hi; omega
 ·exact⟨N.os,N.tape,N.output,N.size,fun b hb=>J b (AY hb h.size)⟩
theorem SR.pushMap(h:SR base w g st){clock:Nat}
  (J:Beside w w') (I:∀ b,b<w.heap.size→w'.heap[b]?=w.heap[b]?) (M:w'.heap[w.heap.size]?=some (.map #[] clock)) (hm:o.isMap=true) (N:o.sz≠1000003) (E:o.els=[]) :
  Go1 base w g st w' {g with β:=Fk g.β st.length w.heap.size} (st++[o]):=by
 refine h.pushM (AE _) J I hm fun g' st'=>?_;unfold MapAt;rw[if_neg N];refine⟨#[],clock,M,h.size,by rw[E]; rfl,(by rw[E]; exact fun x O=>(by cases O)),?_,rfl⟩;grind
theorem SR.pushRec(h:SR base w g st)(M:w.heap.size≤B)
  (I:Beside w w') (E:∀ b,b<w.heap.size→w'.heap[b]?=w.heap[b]?) (J:w'.heap[B]?=some (.loop r)) (N:r.state=.ready∧r.pending=none) :
  Go1 base w g st w' {g with β:=Fk g.β st.length B} (st++[recO 0]):=by
 refine h.pushM M I E rfl fun g' st'=>?_;unfold MapAt;rw[if_pos (show(recO 0).sz=1000003 from rfl)];exact⟨r,0,J,AS h.size M,rfl,fun _=>N,fun e=>by cases e⟩
theorem SR.more(h:SR base w g st){Im':Nat→Nat→Prop}
  (I:Beside w w') (E:∀ b,b<w.heap.size→w'.heap[b]?=w.heap[b]?)
  (ac:∀ b o,g.Im b o→Im' b o) (O:∀ b o,Im' b o→g.Im b o∨w.heap.size≤b) (ad:∀ b o,Im' b o→(w'.cell? ⟨b,o,none⟩).isSome=true) :
  Go1 base w g st w' {g with Im:=Im'} st:=by
 have J:ImLe w g w' {g with Im:=Im'}:=by
  refine⟨?_,fun b o hb _=>by rw[E b (AG.1 hb).1]; exact hb⟩;intro b x hb;refine⟨ac b x hb,?_⟩;have ae:=h.im_lt hb;simp only[World.cell?,E b ae]
 have M:Evo g st {g with Im:=Im'} st:=fun k o hk=>⟨o,hk,rfl,rfl,AE _,fun _=>⟨rfl,rfl⟩,fun _=>rfl⟩;refine⟨⟨fun Y o1 Dp U=>(h.mp Y o1 Dp U).mono J M rfl (E _ (h.lt Dp)),?_,h.inj,ad,?_,AS h.size I.size⟩,M,J,fun b x hb=>?_,?_,fun b o hb _=>.same (by rw[E b (AG.1 hb).1]; exact hb)⟩
 ·intro Y o1 Dp U;obtain⟨C2,e2,af,V,aa,ah,a0,ab⟩:=h.blk Y o1 Dp U;refine⟨C2,e2,(E _ (h.lt Dp)).trans af,V,aa,ah,a0,?_⟩;intro i j d hd;obtain⟨a1,v,h2,h3⟩:=ab i j d hd;exact⟨a1,v,h2,h3.mono J M⟩
 ·intro Y o1 x Dp hi;rcases O _ _ hi with N | N
  ·exact h.dis _ _ _ Dp N
  ·have:=h.lt Dp; simp only at N; omega
 ·rcases O _ _ hb with N | N
  ·grind
  ·exact .inr (AS h.size N)
 ·exact⟨I.os,I.tape,I.output,I.size,fun b hb=>E b (AY hb h.size)⟩
theorem SR.lend1(h:SR base w g st)(k:Nat) :
  Go1 base w g st w {g with Im:=fun b x=>g.Im b x∨∃ o,st[k]?=some o∧o.isMap=false∧b=g.β k∧x<o.els.length*o.sz} (st.modify k fun o=>{o with lent:=true}):=by
 have J:ImLe w g w {g with Im:=fun b x=>g.Im b x∨∃ o,st[k]?=some o∧o.isMap=false∧b=g.β k∧x<o.els.length*o.sz}:=⟨fun b x hb=>⟨.inl hb,rfl⟩,fun _ _ h _=>h⟩
 have get:∀ (I:Nat) (o1:Obj),(st.modify k fun o=>{o with lent:=true})[I]?=some o1→∃ E,st[I]?=some E∧o1=(if I=k then {E with lent:=true} else E):=by
  grind
 have M:Evo g st {g with Im:=fun b x=>g.Im b x∨∃ o,st[k]?=some o∧o.isMap=false∧b=g.β k∧x<o.els.length*o.sz} (st.modify k fun o=>{o with lent:=true}):=by
  intro I o1 Dp;grind
 refine⟨⟨?_,?_,?_,?_,?_,h.size⟩,M,J,fun b x hb=>?_,Below.refl _ _,fun _ _ h _=>.same h⟩
 ·intro I o1 Dp ab;obtain⟨E,h0,he⟩:=get I o1 Dp;have f1:o1.sz=E.sz:=by rw[he]; split <;> rfl
  have f2:o1.els=E.els:=by rw[he]; split <;> rfl
  have f3:o1.row=E.row:=by rw[he]; split <;> rfl
  have N:=h.mp I E h0 ((Pa f3 f1).symm.trans ab);unfold MapAt at N ⊢;rw[f1]
  split
  ·rename_i hs;rw[if_pos hs]at N;obtain⟨r,n,a1,a2,a3,a4⟩:=N;exact⟨r,n,a1,a2,by rw[f2]; exact a3,a4⟩
  rename_i hs;rw[if_neg hs]at N;obtain⟨es,clock,a1,a2,a3,a4,a5,a6⟩:=N;refine⟨es,clock,a1,a2,by rw[f2]; exact a3,by rw[f1,f2]; exact a4,?_,a6⟩;rw[f1,f2];exact fun i e el he ae=>⟨(a5 i e el he ae).1.mono J M,(a5 i e el he ae).2.mono J M⟩
 ·intro I o1 Dp ab;obtain⟨E,h0,he⟩:=get I o1 Dp;have f1:o1.sz=E.sz:=by rw[he]; split <;> rfl
  have f2:o1.els=E.els:=by rw[he]; split <;> rfl
  have f3:o1.row=E.row:=by rw[he]; split <;> rfl
  obtain⟨C2,e2,ac,O,V,af,U,Y⟩:=h.blk I E h0 ((Pa f3 f1).symm.trans ab);refine⟨C2,e2,ac,O,by rw[f1]; exact V,by rw[f1,f2]; exact af,by rw[f1,f2,f3]; exact U,?_⟩;intro i j d hd;rw[f2]at hd;obtain⟨be,v,h2,h3⟩:=Y i j d hd;exact⟨fun e=>be (f3.symm.trans e),v,by rw[f1]; exact h2,h3.mono J M⟩
 ·intro I k2 o1 o2 Dp bf he;obtain⟨p1,q1,_⟩:=get I o1 Dp;obtain⟨p2,q2,_⟩:=get k2 o2 bf;exact h.inj _ _ _ _ q1 q2 he
 ·intro b x hb;rcases hb with hb | ⟨o,ho,hm,rfl,hx⟩
  ·exact h.im b x hb
  ·obtain⟨C2,e2,ac,O,V,af,U,Y⟩:=h.blk k o ho hm;simp only[World.cell?,ac]
   have:x<C2.size:=by
    split at U
    ·rw[U.1]; exact AY hx (AP _ U.2.1)
    ·grind
   simp[this]
 ·intro I o1 x Dp hi;obtain⟨E,h0,he⟩:=get I o1 Dp;have f1:o1.sz=E.sz:=by rw[he]; split <;> rfl
  have f2:o1.els=E.els:=by rw[he]; split <;> rfl
  rw[f1,f2];rcases hi with hi | ⟨o,ho,_,bg,hx⟩
  ·have:=h.dis _ _ _ h0 hi;grind
  ·obtain rfl:I=k:=h.inj _ _ _ _ h0 ho bg;grind
 ·rcases hb with hb | ⟨o,ho,_,rfl,hx⟩
  ·grind
  ·exact .inr (h.based ho)
theorem SR.lend:∀ (ks:List Nat) {g:Ghost} {st:St},SR base w g st→
  ∃ g',Go1 base w g st w g' (PI.lend ks st)∧g'.β=g.β∧g'.γ=g.γ∧
   (∀ k∈ks,∀ o,st[k]?=some o→o.isMap=false→∀ x,x<o.els.length*o.sz→g'.Im (g.β k) x)
 |[],g,st,h=>⟨g,Go1.refl h,rfl,rfl,fun _ hk=>by cases hk⟩
 |k::r,g,st,h=>by
  have E:=h.lend1 k;obtain⟨g',I,hb,hc,hi⟩:=SR.lend r E.sr;refine⟨g',E.trans I,hb,hc,?_⟩;intro J Dp o M hm x O;rcases Aw.1 Dp with rfl | Dp
  ·exact(I.im.im _ _ (.inr ⟨o,M,hm,rfl,O⟩)).1
  ·obtain⟨o',N,U,V,Y,_⟩:=E.evo J o M;refine hi J Dp o' N ((Pa U V).trans hm) x ?_;grind
theorem SR.drew(h:SR base w g st)(n:Nat):Go1 base w g st {w with drawn:=n} g st:=by
 have:=h.more (w':={w with drawn:=n}) (Im':=g.Im) ⟨rfl,rfl,rfl,AE _⟩ (fun _ _=>rfl) (fun _ _ h=>h) (fun _ _ h=>.inl h) (fun b o hb=>h.im b o hb);exact this
end Go.Proofs.YtijnglngaogdjaaGreatDoor.PI
namespace Go.Proofs.YtijnglngaogdjaaGreatDoor.PI
open Go Go.RowKit
def Yu:Value→Option D
 |.bool b=>some (.bool b)
 |.int k n=>some (.int k n)
 |.string s=>some (.str s.data.toList)
 |.pointer none=>some .nilp
 |.map none=>some .nilm
 |.nilFunc=>some .nilf
 |.slice none 0 0=>some (.slc 0 [] true)
 |_=>none
def Ra:List Value→Option (List D)
 |[]=>some []
 |v::l=>match Yu v,Ra l with
  |some x,some y=>some (x::y)
  |_,_=>none
def NY:Value→Option D
 |.agg cs=>(Ra cs.toList).map .agg
 |.tuple _=>none
 |v=>Yu v
def DE:Operand→Option PA
 |.tmp t=>some (.s t)
 |.const v=>(NY v).map .c
 |.global g=>some (.g g)
 |.func f=>if f<5000000 then some (.c (.clo f []))else none
def HM:List Operand→Option (List PA)
 |[]=>some []
 |x::l=>match DE x,HM l with
  |some a,some b=>some (a::b)
  |_,_=>none
def Ru:Option Operand→Option (Option PA)
 |none=>some none
 |some x=>(DE x).map some
def Ej(P:Program)(t:TypeId):Option Bool:=match P.underlying t with
 |some (.struct _) | some (.array _ _)=>some true
 |some _=>some false
 |none=>none
def D3(P:Program)(t:TypeId):Option Nat:=(P.info? t).map (·.size)
def HG(P:Program)(t:TypeId):Option D:=match P.info? t with
 |some i=>match i.zero with
  |some v=>NY v
  |none=>none
 |none=>none
variable {d:D}{v:Value}{st:St}{g:Ghost}{w:World}
theorem pH(h:Yu v=some d):RepV w g st d v∧d.pure1=true:=by
 unfold Yu at h
 split at h <;> simp at h <;> subst h
 ·exact⟨.bool _,rfl⟩
 ·exact⟨.int _ _,rfl⟩
 ·refine⟨?_,rfl⟩;rename_i s;have:s=⟨s.data.toList.toArray⟩:=by rw[BC]
  conv=>rhs; rw[this]
  exact .str _
 ·exact⟨.nilp,rfl⟩
 ·exact⟨.nilm,rfl⟩
 ·exact⟨.nilf,rfl⟩
 ·exact⟨.slcE 0 true none 0 (fun _=>rfl),rfl⟩
theorem pI{w:World}{g:Ghost}{st:St}:∀ {vs:List Value} {ds:List D},Ra vs=some ds→ds.length=vs.length∧(∀ (i:Nat) d v,ds[i]?=some d→vs[i]?=some v→RepV w g st d v)∧∀ d∈ds,d.pure1=true
 |[],ds,h=>by simp[Ra]at h; subst h; exact⟨rfl,fun i d v h=>by simp at h,fun d h=>by cases h⟩
 |v::l,ds,h=>by
  unfold Ra at h
  split at h
  ·rename_i x y E I;simp at h; subst h;obtain⟨J,M,N⟩:=pI (w:=w) (g:=g) (st:=st) I;have O:=pH (w:=w) (g:=g) (st:=st) E;grind
  ·cases h
theorem QQ(h:NY v=some d):RepV w g st d v:=by
 unfold NY at h
 split at h
 ·rename_i cs
  cases hc:Ra cs.toList with
  |none=>simp[hc]at h
  |some ds=>
   simp[hc]at h; subst h;obtain⟨E,I,_⟩:=pI (w:=w) (g:=g) (st:=st) hc;have:=RepV.agg ds cs.toList E I;omega
 ·cases h
 ·exact(pH h).1
variable {st':St}{g':Ghost}{w':World}
theorem RepV.pure(N:ImLe w g w' g')(h:RepV w g st d v)(O:d.pure1=true):RepV w' g' st' d v:=by
 revert O
 induction h with
 |int k n=>exact fun _=>.int k n
 |bool b=>exact fun _=>.bool b
 |str s=>exact fun _=>.str s
 |nilp=>exact fun _=>.nilp
 |nilm=>exact fun _=>.nilm
 |gmap es b U clock I J V=>exact fun _=>.gmap es b U clock (N.kp _ _ I J) J V
 |slcE sz t a cap h=>exact fun _=>.slcE sz t a cap h
 |slc els t b off cap sz val I J V M h4 h5 Y _ ih=>
  exact fun _=>.slc els t b off cap sz val I J V M h4 h5 (fun i j d E=>⟨(N.im _ _ (Y i j d E).1).1,(N.im _ _ (Y i j d E).1).2.trans (Y i j d E).2⟩) (fun i j d E=>ih i j d E (M i j d E))
 |clo f ds vs I J=>
  intro O
  cases ds with
  |nil=>exact .clo f [] vs I (fun i d v h=>by simp at h)
  |cons x l=>cases O
 |nilf=>exact fun _=>.nilf
 |row=>intro h; cases h
 |bsl=>intro h; cases h
 |mapv=>intro h; cases h
 |ptr=>intro h; cases h
 |rptr=>intro h; cases h
 |eptr=>intro h; cases h
 |agg=>intro h; cases h
 |tup=>intro h; cases h
 |junk=>intro h; cases h
theorem RepV.eptr_any{n:Nat}(I:ImLe w g w' g')(h:RepV w g st (.eptr d n) v):RepV w' g' st' (.eptr d n) v:=by
 cases h with
 |eptr _ _ b o val M J N=>exact .eptr d n b o val M (fun j d E=>⟨(I.im _ _ (J j d E).1).1,(I.im _ _ (J j d E).1).2.trans (J j d E).2⟩) (fun j d E=>(N j d E).pure I (M j d E))
theorem RepV.purA{w w':World}{g g':Ghost}{st st':St}{d:D}{v:Value}(M:ImLe w g w' g')(h:RepV w g st d v)(E:purA d=true):RepV w' g' st' d v:=by
 cases h with
 |agg ds vs J I=>
  simp only[PI.purA,Aj]at E;exact .agg ds vs J fun i d v U hv=>(I i d v U hv).pure M (E d (Aq U))
 |int k n=>exact .int k n
 |bool b=>exact .bool b
 |str s=>exact .str s
 |nilp=>exact .nilp
 |nilm=>exact .nilm
 |gmap es b N clock J I O=>exact .gmap es b N clock (M.kp _ _ J I) I O
 |slcE sz t a cap h=>exact .slcE sz t a cap h
 |slc els t b off cap sz val J I O V Y h5 h6 h7=>exact RepV.pure M (.slc els t b off cap sz val J I O V Y h5 h6 h7) rfl
 |clo f ds vs J I=>exact RepV.pure M (.clo f ds vs J I) E
 |nilf=>exact .nilf
 |row=>cases E
 |bsl=>cases E
 |mapv=>cases E
 |ptr=>cases E
 |rptr=>cases E
 |eptr=>cases E
 |tup=>cases E
 |junk=>cases E
theorem RepV.purR{w w':World}{g g':Ghost}{st st':St}{d:D}{v:Value}(I:ImLe w g w' g')(h:RepV w g st d v)(E:purR d=true):RepV w' g' st' d v:=by
 cases d with
 |tup l=>
  cases h with
  |tup _ vs M N=>
   simp only[PI.purR,Aj]at E;exact .tup l vs M fun i d v J hv=>(N i d v J hv).purA I (E d (Aq J))
 |_=>exact h.purA I E
def GlobOK(G:Db)(w:World)(g:Ghost):Prop:=∀ n d,G n=some d→RepV w g [] (.eptr d 0) (.pointer (some ⟨n,0,none⟩))
variable {G:Db}
theorem GlobOK.mono(h:GlobOK G w g)(E:ImLe w g w' g'):GlobOK G w' g':=fun n d I=>(h n d I).eptr_any E
def FR(w:World)(g:Ghost)(st:St)(fr:Frame)(a:Act):Prop:=∀ s,RepV w g st (fr s) (a.tmps.getD s undef)
variable {a:Act}{fr:Frame}
theorem FR.mono(h:FR w g st fr a)(E:ImLe w g w' g')(I:Evo g st g' st'):FR w' g' st' fr a:=fun s=>(h s).mono E I
theorem FR.put{dst:Option Nat}(h:FR w g st fr a)(E:∀ t,dst=some t→t<a.tmps.size)(I:RepV w g st d v):FR w g st (fr.put dst d) (a.put dst v):=by
 intro s
 cases dst with
 |none=>exact h s
 |some t=>
  have J:=E t rfl;simp only[Frame.put,Frame.set,Act.put]
  by_cases e:s=t
  ·simp_all
  ·rw[if_neg e];have:=h s;simpa[Array.getElem?_setIfInBounds,show ¬ t=s by omega]using this
theorem F2{x:Operand}{E:PA}(I:GlobOK G w g)(J:FR w g st fr a)(h:DE x=some E):RepV w g st (Dh G fr E) (a.eval x):=by
 cases x with
 |tmp t=>simp[DE]at h; subst h; exact J t
 |const v=>
  cases hc:NY v with
  |none=>simp[DE,hc]at h
  |some d=>simp[DE,hc]at h; subst h; exact QQ hc
 |global n=>
  simp[DE]at h; subst h;simp only[Dh]
  cases M:G n with
  |none=>exact .junk _
  |some d=>exact(I n d M).eptr_any (ImLe.refl _ _)
 |func f=>
  simp only[DE]at h
  split at h
  case isFalse=>cases h
  rename_i hf;simp only[C3]at h; subst h;have:=RepV.clo (w:=w) (g:=g) (st:=st) f [] [] rfl (fun i d v h=>by simp at h);rw[Qr hf,aP,ay]at this;exact this
end Go.Proofs.YtijnglngaogdjaaGreatDoor.PI
namespace Go.Proofs.YtijnglngaogdjaaGreatDoor.PI
open Go Go.RowKit
def RunsTo(P:Program)(base:Nat)(w:World)(g:Ghost)(st:St)(s:Sem Value)(d:D)(st':St):Prop:=
 ∃ v w' g',s.run P w=.ok v w'∧Go1 base w g st w' g' st'∧RepV w' g' st' d v
variable {v:Value}{d:D}{i j key len off sz:Nat}{els:List D}{t:Bool}
section
variable {P:Program} {base:Nat} {w:World} {g:Ghost} {st:St}
theorem RunsTo.still(h:SR base w g st){s:Sem Value}(E:s.run P w=.ok v w)(I:RepV w g st d v):RunsTo P base w g st s d st:=
 ⟨v,w,g,E,Go1.refl h,I⟩
theorem It{k:IntKind}{n:Int}(h:RepV w g st (.int k n) v):v=.int k n:=by cases h; rfl
theorem KU{b:Bool}(h:RepV w g st (.bool b) v):v=.bool b:=by cases h; rfl
theorem Ly{s:List UInt8}(h:RepV w g st (.str s) v):v=.string ⟨s.toArray⟩:=by cases h; rfl
theorem Z8(s:List UInt8):ByteArray.toList ⟨s.toArray⟩=s:=by
 simp_all
theorem dH(s:ByteArray)(l:List UInt8)(h:s.data.toList=l):RepV w g st (.str l) (.string s):=by
 subst h;have:s=⟨s.data.toList.toArray⟩:=by rw[BC]
 conv=>rhs; rw[this]
 exact .str _
theorem yf(op:BinOp)(x y:List UInt8)(d:D)(h:ZJ op x y=some d):∃ v,(Op.stringOp op ⟨x.toArray⟩ ⟨y.toArray⟩).run P w=.ok v w∧RepV w g st d v:=by
 unfold ZJ at h;unfold Op.stringOp;simp only[Z8];cases op <;> simp only[reduceCtorEq]at h <;> try (injection h with h; subst h; exact⟨_,rfl,.bool _⟩)
 split at h
 ·rename_i hl;simp at h; subst h
  have:¬ (((CO ⟨x.toArray⟩+CO ⟨y.toArray⟩:Nat):Int) > IntKind.i64.max):=by
   have e:IntKind.i64.max=9223372036854775807:=by decide
   rw[e];simp only[CO,Cq];omega
  simp only[this,if_false];exact⟨_,rfl,dH _ _ (by simp)⟩
 ·cases h
theorem bt(op:BinOp)(t:TypeId)(x y:Operand)(a b:Value)(h:∀ u,a≠.agg u)(E:a≠.nilIface):(eqGuard op t x y a b).run P w=.ok () w:=by
 unfold eqGuard;simp_all
theorem Ye4(op:BinOp)(t:TypeId)(x y:D)(d:D)(vx vy:Value)(h:Df op x y=some d)(N:RepV w g st x vx)(O:RepV w g st y vy) :
  (∃ v,(binOp op t vx vy).run P w=.ok v w∧RepV w g st d v)∧(∀ u,vx≠.agg u)∧vx≠.nilIface:=by
 unfold Df at h
 split at h
 ·rename_i k a k' b;obtain rfl:=It N;obtain rfl:=It O;refine⟨?_,(by intro u e; cases e),(by intro e; cases e)⟩
  have arith:∀ q,JP op k a b=some q→(op=.add∨op=.sub∨op=.mul)→(Op.intArith op k a b).run P w=.ok (.int k q) w:=by
   intro q E M;rcases M with rfl | rfl | rfl <;> simp[JP]at E <;> subst E <;> rfl
  have div:∀ q,JP op k a b=some q→(op=.quo∨op=.rem)→(Op.intDiv op k a b).run P w=.ok (.int k q) w:=by
   intro q E M;rcases M with rfl | rfl <;> simp[JP]at E <;> obtain⟨U,rfl⟩:=E <;> simp[Op.intDiv,U]
  have bits:∀ q,Ko op k a b=some q→(Op.intBits op k a b).run P w=.ok (.int k q) w:=by
   intro q E;cases op <;> simp only[Ko,C3,reduceCtorEq]at E <;> subst E <;> rfl
  have cmp:∀ q,I4 op a b=some q→(Op.intCmp op a b).run P w=.ok (.bool q) w:=by
   intro q E;cases op <;> simp[I4]at E <;> subst E <;> rfl
  have J:∀ q,Lo op k a b=some q→(Op.shift op k a k' b).run P w=.ok (.int k q) w:=by
   intro q E;unfold Lo at E
   split at E
   ·cases E
   ·rename_i hb;cases op <;> simp at E <;> subst E <;> simp[Op.shift,hb]
  cases op
  case shl=>
   simp only[]at h
   cases I:Lo .shl k a b with
   |none=>simp[I]at h
   |some q=>simp[I]at h; subst h; exact⟨_,by simp only[binOp]; exact J q I,.int _ _⟩
  case shr=>
   simp only[]at h
   cases I:Lo .shr k a b with
   |none=>simp[I]at h
   |some q=>simp[I]at h; subst h; exact⟨_,by simp only[binOp]; exact J q I,.int _ _⟩
  all_goals
   simp only[]at h
   split at h
   case isFalse=>cases h
   rename_i hk;subst hk;simp only[Dv]at h;obtain⟨q,E,rfl⟩:=h
   first
    |exact⟨_,by simp only[binOp,ne_eq,not_true_eq_false,if_false]; exact arith q E (by simp),.int _ _⟩
    |exact⟨_,by simp only[binOp,ne_eq,not_true_eq_false,if_false]; exact div q E (by simp),.int _ _⟩
    |exact⟨_,by simp only[binOp,ne_eq,not_true_eq_false,if_false]; exact bits q E,.int _ _⟩
    |exact⟨_,by simp only[binOp,ne_eq,not_true_eq_false,if_false]; exact cmp q E,.bool _⟩
 ·rename_i a b;obtain rfl:=Ly N;obtain rfl:=Ly O;refine⟨?_,(by intro u e; cases e),(by intro e; cases e)⟩;obtain⟨v,V,Y⟩:=yf (P:=P) (w:=w) (g:=g) (st:=st) op a b d h;refine⟨v,?_,Y⟩;cases op <;> first | exact V | (simp[ZJ]at h; done)
 ·cases h
theorem Ye5(E:Bool)(t:TypeId)(I:P.underlying t=some .bool)(x y:D)(d:D)(vx vy:Value)(h:Mg E x y=some d)(J:RepV w g st x vx)(M:RepV w g st y vy) :
  (∃ v,(binOp (if E then .neq else .eql) t vx vy).run P w=.ok v w∧RepV w g st d v)∧(∀ u,vx≠.agg u)∧vx≠.nilIface:=by
 unfold Mg at h
 split at h
 ·rename_i a b;obtain rfl:=KU J;obtain rfl:=KU M;refine⟨?_,(by intro u e; cases e),(by intro e; cases e)⟩;simp at h; subst h;have he:(Op.equal t (.bool a) (.bool b)).run P w=.ok (a == b) w:=run_equalIn_bool w 9999 t a b I;refine⟨_,?_,.bool _⟩;cases E <;> simp[binOp,he]
 ·cases h
theorem Ymn(op:UnOp)(x:D)(d:D)(vx:Value)(h:Mf op x=some d)(E:RepV w g st x vx):∃ v,(Op.unary op vx).run P w=.ok v w∧RepV w g st d v:=by
 unfold Mf at h
 split at h
 ·obtain rfl:=It E;simp only[C3]at h; subst h;exact⟨_,rfl,.int _ _⟩
 ·obtain rfl:=It E;simp only[Dv]at h;obtain⟨q,I,rfl⟩:=h;simp only[Ko,C3]at I; subst I;exact⟨_,rfl,.int _ _⟩
 ·obtain rfl:=KU E;simp at h; subst h;exact⟨_,rfl,.bool _⟩
 ·cases h
theorem Pf{x:D}{n:Nat}(h:Fq x=some n)(E:RepV w g st x v):∃ k,v=.int k (n:Int):=by
 unfold Fq at h
 split at h
 ·obtain rfl:=It E;grind
 ·cases h
theorem HE(h:Fs els i j=some d):∃ e,els[i]?=some e∧e.cells[j]?=some d:=by
 unfold Fs at h;grind
theorem Hb{e:D}(E:els[i]?=some e)(I:e.cells[j]?=some d):Fs els i j=some d:=by
 simp[Fs,E,I]
theorem RepV.slc_mk{b cap:Nat}(J:0<sz)(hl:∀ e∈els,e.cells.length=sz)(E:els.length≤cap)(I:t=true→cap=els.length)
  (h:∀ i j d,Fs els i j=some d→d.pure1=true∧g.Im b (off+i*sz+j)∧∃ v,w.cell? ⟨b,off+i*sz+j,none⟩=some v∧RepV w g st d v) :
  RepV w g st (.slc sz els t) (.slice (some ⟨b,off,none⟩) els.length cap):=by
 by_cases he:els=[]
 ·subst he;exact .slcE sz t _ cap I
 ·refine .slc els t b off cap sz (fun i j=>(w.cell? ⟨b,off+i*sz+j,none⟩).getD undef) he J hl (fun i j d M=>(h i j d M).1) E I ?_ ?_
  ·grind
  ·grind
structure Els (w:World) (g:Ghost) (st:St) (v:Value) (sz:Nat) (els:List D):Prop where
 shape:∃ a cap,v=.slice a els.length cap∧(els≠[]→∃ b off,a=some ⟨b,off,none⟩∧0<sz∧
  ∀ i j d,Fs els i j=some d→∃ u,w.cell? ⟨b,off+i*sz+j,none⟩=some u∧RepV w g st d u∧u.oneCell'=true)
 pure:∀ i j d,Fs els i j=some d→d.pure1=true
 len:∀ e∈els,e.cells.length=sz
theorem RJ(h:RepV w g st (.slc sz els t) v):Els w g st v sz els:=by
 cases h with
 |slcE _ _ a cap h=>exact⟨⟨a,cap,rfl,fun h=>absurd rfl h⟩,fun i j d E=>by simp[Fs]at E,fun e he=>by cases he⟩
 |slc _ _ b off cap _ val U M N I V Y O J=>
  exact⟨⟨_,cap,rfl,fun _=>⟨b,off,rfl,M,fun i j d E=>⟨_,(O i j d E).2,J i j d E,(J i j d E).oneCell (Pm (I i j d E))⟩⟩⟩,I,N⟩
theorem aO(h:Fs ((els.drop off).take len) i j=some d):Fs els (off+i) j=some d∧i<len:=by
 obtain⟨e,he,E⟩:=HE h;rw[BI]at he
 split at he
 ·rename_i hi;rw[BW]at he;exact⟨Hb he E,hi⟩
 ·cases he
theorem dk(Y:SR base w g st){tot:Nat}(E:Hf st key tot off len=some (sz,els))(h:RepV w g st (.row key tot off len) v) :
  Els w g st v sz els∧∃ o,st[key]?=some o∧o.row=true∧o.sz=sz∧tot=o.els.length∧off+len≤tot∧els=(o.els.drop off).take len∧els.length=len∧v=.slice (some ⟨g.β key,off*o.sz,none⟩) len (g.γ key - off):=by
 unfold Hf at E
 cases h with
 |row _ _ _ _ o _ h0 J M h3 h4=>
  rw[J]at E;simp only at E
  split at E
  ·rename_i hc;simp only[Af,beq_iff_eq,decide_eq_true_eq]at hc;simp only[C3,Dk]at E;obtain⟨rfl,rfl⟩:=E;obtain⟨rfl,hle⟩:=h4 hc.1.2.symm;obtain⟨C,e,hb,_,U,hx,hC,N⟩:=Y.blk key o J (L1 M);have hl:((o.els.drop off).take len).length=len:=by rw[AQ,AX]; omega
   refine⟨⟨⟨_,_,by rw[hl],fun _=>⟨_,_,rfl,U,?_⟩⟩,?_,?_⟩,o,J,M,rfl,hc.1.2.symm,hle,rfl,hl,rfl⟩
   ·intro i j d O;obtain⟨V,h6⟩:=aO O;obtain⟨h8,u,h9,I⟩:=N _ _ _ V;refine⟨u,?_,I,I.oneCell (Pm (h8 M))⟩;simp only[World.cell?,hb];grind
   ·intro i j d O;obtain⟨V,_⟩:=aO O;grind
   ·grind
  ·cases E
theorem Xe(h:d.pure1=true):d.cells=[d]:=by
 cases d <;> simp_all [D.pure1,D.cells]
theorem aA{sz:Nat}{ag:Bool}(N:0<sz)(I:ag=true∨sz=1):∀ (n:Nat) (cs:List D),n*sz≤cs.length→(∀ x∈cs,x.cells=[x])→
  (IN sz ag cs n).length=n∧(∀ e∈IN sz ag cs n,e.cells.length=sz)∧∀ i j d,Fs (IN sz ag cs n) i j=some d→cs[i*sz+j]?=some d∧i<n∧j<sz
 |0,cs,_,_=>⟨rfl,fun e he=>by simp[IN]at he,fun i j d E=>by simp[IN,Fs]at E⟩
 |n+1,cs,hl,hc=>by
  rw[A0,Bu]at hl;obtain⟨O,Y,U⟩:=aA N I n (cs.drop sz) (by rw[AX]; omega) (fun x V=>hc x (Cg V))
  have M:(D.mk ag (cs.take sz)).cells=cs.take sz:=by
   rcases I with rfl | rfl
   ·rfl
   ·cases ag
    ·cases cs with
     |nil=>simp at hl
     |cons x r=>simp[D.mk]; exact hc x (by simp)
    ·rfl
  refine⟨by simp[IN,O],?_,?_⟩
  ·intro e he;simp only[IN,Aw]at he;grind
  ·intro i j d E;obtain⟨e,he,J⟩:=HE E
   cases i with
   |zero=>
    simp only[IN,AH,C3]at he;grind
   |succ i=>
    simp only[IN,Bo]at he;obtain⟨h4,h5,h6⟩:=U i j d (Hb he J);grind
theorem tG(hS:SR base w g st){n:Nat}{ag:Bool}(V:Kv st key off n sz ag=some els)(hr:RepV w g st (.bsl key off n sz ag) v)
  (ae:∀ d∈els,purA d=true):Els w g st v sz els∧els.length=n∧∃ o cap,st[key]?=some o∧o.row=false∧o.sz=1∧off+n*sz≤o.els.length∧n≤cap∧v=.slice (some ⟨g.β key,off,none⟩) n cap∧0<sz∧∀ i j d,Fs els i j=some d→i<n∧j<sz:=by
 unfold Kv at V
 cases hr with
 |bsl _ _ _ _ _ o cap ho I J af=>
  rw[ho]at V;simp only[As,C3,Af,decide_eq_true_eq,A8,beq_iff_eq,AR]at V;obtain⟨⟨⟨⟨_,h1⟩,h2⟩,h3⟩,rfl⟩:=V;obtain⟨C,e,hb,_,a7,hx,M,ac⟩:=hS.blk key o ho (Om J);rw[I]at M;simp only[Al,if_false]at M;obtain⟨c1,c2,c3⟩:=aA h2 h3 n (o.els.drop off) (by rw[AX]; omega) (fun x hx=>M.2.2 x (Cg hx))
  have Y:∀ i j d,Fs (IN sz ag (o.els.drop off) n) i j=some d→d.pure1=true:=by
   intro i j d E;obtain⟨N,_⟩:=c3 i j d E;rw[BW]at N;obtain⟨e0,a1,O⟩:=HE E;have U:=ae e0 (Aq a1)
   cases e0 with
   |agg l=>
    simp only[purA,Aj]at U;exact U d (Aq O)
   |_=>
    simp only[D.cells]at O;have:=Aq O;simp only[AM]at this;rw[this];exact U
  refine⟨⟨⟨_,cap,by rw[c1],fun _=>⟨_,_,rfl,h2,?_⟩⟩,Y,c2⟩,c1,o,cap,ho,I,J,h1,af,rfl,h2,fun i j d E=>(c3 i j d E).2⟩;intro i j d E;obtain⟨N,_⟩:=c3 i j d E;rw[BW]at N;have U:=M.2.2 d (Aq N);obtain⟨_,u,h8,h9⟩:=ac (off+(i*sz+j)) 0 d (Hb N (by rw[U]; rfl));refine⟨u,?_,h9,h9.oneCell (Pm (Y i j d E))⟩;rw[M.2.1]at h8;simp only[World.cell?,hb];grind
end
end Go.Proofs.YtijnglngaogdjaaGreatDoor.PI
namespace Go.Proofs.YtijnglngaogdjaaGreatDoor.PI
open Go Go.RowKit
variable {v:Value}{els:List D}{n off sz:Nat}{d:D}{ag:Bool}{t:TypeId}
section
variable {P:Program} {base:Nat} {w:World} {g:Ghost} {st:St}
def Kn(g:Ghost)(st:St)(ks:List Nat):Prop:=∀ k∈ks,∀ o,st[k]?=some o→o.isMap=false→∀ x,x<o.els.length*o.sz→g.Im (g.β k) x
theorem RepV.loose{t:Bool}(h:RepV w g st (.slc sz els t) v):RepV w g st (.slc sz els false) v:=by
 cases h with
 |slcE _ _ a cap h=>exact .slcE sz false a cap fun e=>by cases e
 |slc _ _ b off cap _ val I J M E N V O U=>exact .slc els false b off cap sz val I J M E N (fun e=>by cases e) O U
theorem RepV.nz{t:Bool}(h:RepV w g st (.slc sz els t) v):RepV w g st (.slc (PI.nz sz els) els false) v:=by
 have h:=h.loose
 cases els with
 |nil=>
  cases h with
  |slcE _ _ a cap h=>exact .slcE _ false a cap fun e=>by cases e
  |slc _ _ b off cap _ val E J M I N O U V=>exact absurd rfl E
 |cons a l=>exact h
theorem mu(U:SR base w g st){y:D}(h:Dw st d=some y)(V:RepV w g st d v)(hL:Kn g st (EX d)):RepV w g st y v∧y.pure1=true:=by
 cases d with
 |row key tot off len=>
  simp only[Dw,Dv]at h;obtain⟨⟨sz,els⟩,he,rfl⟩:=h;obtain⟨I,o,O,E,M,a7,hle,Y,hlen,rfl⟩:=dk U he V;refine⟨RepV.nz (t:=false) ?_,rfl⟩;obtain⟨C,e,hb,_,aa,hx,hC,a8⟩:=U.blk key o O (L1 E);rw[E]at hC;simp only[if_true]at hC;have N:els.length≤g.γ key - off:=by omega
  subst M
  show RepV w g st (.slc o.sz els false) (.slice (some ⟨g.β key,off*o.sz,none⟩) len (g.γ key - off))
  rw[← hlen];refine .slc_mk aa I.len N (fun h=>by cases h) ?_;intro i j d J;refine⟨I.pure i j d J,?_,?_⟩
  ·refine hL key (by simp[EX]) o O (L1 E) _ ?_;subst Y;obtain⟨h1,h2⟩:=aO J;obtain⟨e1,h3,h4⟩:=HE h1;have h5:=hx e1 (Aq h3);have h6:j<o.sz:=by rw[← h5]; exact(Ac.1 h4).1
   have h7:off+i<o.els.length:=(Ac.1 h3).1
   calc off*o.sz+i*o.sz+j<off*o.sz+i*o.sz+o.sz:=by omega
    _=(off+i+1)*o.sz:=by rw[A0,A0,Bu]
    _≤o.els.length*o.sz:=AP _ h7
  ·obtain⟨a,cap,hv,a2⟩:=I.shape
   have a3:els≠[]:=by
    rintro rfl;simp[Fs]at J
   grind
 |slc sz els t=>
  simp only[Dw,C3]at h;subst h;exact⟨V.nz,rfl⟩
 |bsl key off n sz ag=>
  simp only[Dw,Dv]at h;obtain⟨els,he,rfl⟩:=h;unfold Hq at he
  split at he
  case h_2=>cases he
  rename_i ad a4
  split at he
  case isFalse=>cases he
  rename_i a5;simp only[C3]at he;subst he;obtain⟨I,hlen,o,cap,O,E,ae,hle,N,rfl,M,a6⟩:=tG U a4 V (Aj.1 a5);refine⟨RepV.nz (t:=false) ?_,rfl⟩;rw[← hlen];refine .slc_mk M I.len (by omega) (fun h=>by cases h) ?_;intro i j d J;obtain⟨h5,h6⟩:=a6 i j d J;refine⟨I.pure i j d J,?_,?_⟩
  ·have hx:off+i*sz+j<o.els.length*o.sz:=by
    have h7:(i+1)*sz≤n*sz:=AP _ h5;grind
   exact hL key (by simp[EX]) o O (Om ae) _ hx
  ·obtain⟨a,bd,hv,a2⟩:=I.shape
   have a3:ad≠[]:=by
    grind
   grind
 |_=>
  simp only[Dw]at h;grind
theorem en(J:SR base w g st):∀ {ds ys:List D},DQ st ds=some ys→Kn g st (ds.flatMap EX)→ys.length=ds.length∧
  (∀ (i:Nat) y v,ys[i]?=some y→(∀ d,ds[i]?=some d→RepV w g st d v)→RepV w g st y v)∧ys.all D.pure1=true
 |[],ys,h,_=>by simp[DQ]at h; subst h; exact⟨rfl,fun i y v h=>by simp at h,rfl⟩
 |d::l,ys,h,M=>by
  unfold DQ at h
  split at h
  ·rename_i x y E U;simp at h; subst h;obtain⟨V,Y,h3⟩:=en J U (fun k hk=>M k (by simp only[At,AK]; exact .inr hk));have N:Kn g st (EX d):=fun k hk=>M k (by simp only[At,AK]; exact .inl hk);refine⟨by simp[V],?_,?_⟩
   ·intro i z v I hv
    cases i with
    |zero=>simp at I; subst I; exact(mu J E (hv d rfl) N).1
    |succ i=>simp at I; exact Y i z v I (fun d' O=>hv d' (by simpa using O))
   ·simp only[A3,h3,BX]
    cases d with
    |row key tot off len=>
     simp only[Dw,Dv]at E;obtain⟨p,_,rfl⟩:=E;rfl
    |slc sz els t=>simp only[Dw,C3]at E; subst E; rfl
    |bsl key off n sz ag=>
     simp only[Dw,Dv]at E;obtain⟨p,_,rfl⟩:=E;rfl
    |_=>
     simp only[Dw]at E;grind
  ·cases h
theorem kS(J:SR base w g st){y:D}(h:DO st d=some y)(M:RepV w g st d v)(N:Kn g st (keys d)):RepV w g st y v∧purA y=true:=by
 cases d with
 |agg l=>
  simp only[DO,Dv]at h;obtain⟨ys,U,rfl⟩:=h;obtain⟨I,E,V⟩:=en J U N
  cases M with
  |agg _ vs Y h5=>
   exact⟨.agg ys vs (I.trans Y) fun i y v O hv=>E i y v O fun d hd=>h5 i d v hd hv,V⟩
 |tup l=>simp[DO]at h
 |_=>
  simp only[DO]at h;obtain⟨I,E⟩:=mu J h M N;refine⟨I,?_⟩;cases y <;> first | exact E | (simp[D.pure1]at E; done)
theorem my(M:SR base w g st):∀ {ds ys:List D},D0 st ds=some ys→Kn g st (ds.flatMap keys)→ys.length=ds.length∧
  (∀ (i:Nat) y v,ys[i]?=some y→(∀ d,ds[i]?=some d→RepV w g st d v)→RepV w g st y v)∧∀ y∈ys,purA y=true
 |[],ys,h,_=>by simp[D0]at h; subst h; exact⟨rfl,fun i y v h=>by simp at h,fun y N=>by cases N⟩
 |d::l,ys,h,O=>by
  unfold D0 at h
  split at h
  ·rename_i x y E N;simp at h; subst h;obtain⟨h1,h2,h3⟩:=my M N (fun k hk=>O k (by simp only[At,AK]; exact .inr hk));have J:Kn g st (keys d):=fun k hk=>O k (by simp only[At,AK]; exact .inl hk);refine⟨by simp[h1],?_,?_⟩
   ·intro i z v I hv
    cases i with
    |zero=>simp at I; subst I; exact(kS M E (hv d rfl) J).1
    |succ i=>simp at I; exact h2 i z v I (fun d' U=>hv d' (by simpa using U))
   ·intro z I;rcases Aw.1 I with rfl | I
    ·
     cases d with
     |agg l=>
      simp only[DO,Dv]at E;obtain⟨ys,Y,rfl⟩:=E;exact(en M Y J).2.2
     |tup l=>simp[DO]at E
     |row key tot off len=>
      simp only[DO,Dw,Dv]at E;obtain⟨p,_,rfl⟩:=E;rfl
     |slc sz els t=>simp only[DO,Dw,C3]at E; subst E; rfl
     |bsl key off n sz ag=>
      simp only[DO,Dw,Dv]at E;obtain⟨p,_,rfl⟩:=E;rfl
     |_=>
      simp only[DO,Dw]at E
      split at E
      ·rename_i hp; simp only[C3]at E; subst E; exact hp
      ·cases E
    ·grind
  ·cases h
theorem QI(h:Ej P t=some ag):(isAgg t).run P w=.ok ag w:=by
 unfold Ej at h
 cases hu:P.underlying t with
 |none=>simp[hu]at h
 |some u=>
  cases u <;> simp[hu]at h <;> subst h <;> simp[isAgg,run_underlying hu]
theorem K0(h:D3 P t=some n):(sizeOf t).run P w=.ok n w:=by
 unfold D3 at h
 cases hi:P.info? t with
 |none=>simp[hi]at h
 |some i=>simp[hi]at h; subst h; simp[sizeOf,typeInfo,hi]
theorem yMw{b:Nat}{cs:List D}(I:Ej P t=some ag)(hn:D3 P t=some n)(J:ag=false→n=1)(hl:cs.length=n)
  (h:∀ (j:Nat) d,cs[j]?=some d→∃ u,w.cell? ⟨b,off+j,none⟩=some u∧RepV w g st d u) :
  ∃ v,(loadVar t ⟨b,off,none⟩).run P w=.ok v w∧RepV w g st (.mk ag cs) v:=by
 cases ag with
 |true=>
  refine⟨.agg ((CI n).map fun j=>(w.cell? ⟨b,off+j,none⟩).getD undef).toArray,?_,?_⟩
  ·have E:∀ j,j<n→w.cell? ((⟨b,off,none⟩:Addr).add j)=some ((w.cell? ⟨b,off+j,none⟩).getD undef):=by
    intro j hj;rw[cell?_add];obtain⟨u,M,_⟩:=h j cs[j] (by simp[hl,hj]);simp[M]
   simp only[loadVar,Sem.run_bind,QI I,Result.andThen_ok,if_true,K0 hn,run_loadCells w _ n _ E];rfl
  ·refine .agg cs _ (by simp[hl]) ?_;grind
 |false=>
  have E:=J rfl;subst E
  match cs,hl with
  |[d],_=>
   obtain⟨u,M,N⟩:=h 0 d rfl;refine⟨u,?_,N⟩;simp only[loadVar,Sem.run_bind,QI I,Result.andThen_ok,Al,if_false,run_load];grind
theorem bD{l:List D}{j:Nat}(h:((l.drop off).take n)[j]?=some d):l[off+j]?=some d∧j<n:=by
 grind
theorem oF(hS:SR base w g st){p:D}(ha:Ej P t=some ag)(hn:D3 P t=some n)(h:E1 st n ag p=some d)(V:RepV w g st p v) :
  ∃ u,(Instr.loadAt t v).run P w=.ok u w∧RepV w g st d u:=by
 unfold E1 at h
 split at h
 ·cases h
 rename_i af;have Y:ag=false→n=1:=by intro e; subst e; simpa using af
 have go:∀ (b off:Nat) (cs:List D),v=.pointer (some ⟨b,off,none⟩)→cs.length=n→(∀ (j:Nat) d,cs[j]?=some d→∃ u,w.cell? ⟨b,off+j,none⟩=some u∧RepV w g st d u)→d=.mk ag cs→
   ∃ u,(Instr.loadAt t v).run P w=.ok u w∧RepV w g st d u:=by
  intro b off cs hv hl hc M;subst hv; subst M;obtain⟨u,I,U⟩:=yMw (P:=P) ha hn Y hl hc;exact⟨u,by simpa[Instr.loadAt,Instr.sureAddr]using I,U⟩
 split at h
 ·rename_i key off
  cases V with
  |ptr _ _ o N E aa=>
   rw[N]at h;simp only[E,Av,Bp,decide_eq_true_eq,As,C3]at h;obtain⟨hle,rfl⟩:=h;obtain⟨C,e,hb,_,ab,hx,O,J⟩:=hS.blk key o N (Om aa);rw[E]at O;simp only[Al,if_false]at O;refine go _ _ _ rfl (by rw[AQ,AX]; omega) ?_ rfl;intro j d M;obtain⟨I,U⟩:=bD M;have h3:=O.2.2 d (Aq I);obtain⟨_,u,h5,h6⟩:=J (off+j) 0 d (Hb I (by rw[h3]; rfl));refine⟨u,?_,h6⟩;rw[O.2.1]at h5;simp only[World.cell?,hb];grind
 ·rename_i key tot i off
  cases V with
  |rptr _ _ _ _ o _ _ N E h3 h4=>
   rw[N]at h;simp only[E,Bp,beq_iff_eq]at h
   split at h
   ·rename_i ad
    split at h
    ·rename_i el a1;simp only[As,C3]at h;obtain⟨hle,rfl⟩:=h;obtain⟨C,e,hb,_,ab,hx,O,J⟩:=hS.blk key o N (L1 E);refine go _ _ _ (h4 ad.symm) (by rw[AQ,AX]; omega) ?_ rfl;intro j d M;obtain⟨I,U⟩:=bD M;obtain⟨_,u,h5,h6⟩:=J i (off+j) d (Hb a1 I);refine⟨u,?_,h6⟩;simp only[World.cell?,hb];grind
    ·cases h
   ·cases h
 ·rename_i el off
  cases V with
  |eptr _ _ b o val h0 I U=>
   grind
 ·cases h
end
end Go.Proofs.YtijnglngaogdjaaGreatDoor.PI
namespace Go.Proofs.YtijnglngaogdjaaGreatDoor.PI
open Go Go.RowKit
variable {v vi:Value}{cap h key l len n off sz tot:Nat}{d p:D}{elem t:TypeId}{sl:Bool}{vhi vlo:Option Value}{hi lo:Option D}{els:List D}
section
variable {P:Program} {base:Nat} {w:World} {g:Ghost} {st:St}
theorem ew{i o:Nat}(hl:EE st key tot=true)(I:RepV w g st (.rptr key tot i o) v) :
  ∃ E,st[key]?=some E∧E.row=true∧tot=E.els.length∧v=.pointer (some ⟨g.β key,i*E.sz+o,none⟩):=by
 cases I with
 |rptr _ _ _ _ E _ M J N O U=>
  have:tot=E.els.length:=by
   simp only[EE,J,Af,beq_iff_eq]at hl;omega
  grind
theorem RQ(hl:EE st key tot=true)(I:RepV w g st (.row key tot off len) v) :
  ∃ E,st[key]?=some E∧E.row=true∧tot=E.els.length∧v=.slice (some ⟨g.β key,off*E.sz,none⟩) len (g.γ key - off)∧off+len≤tot:=by
 cases I with
 |row _ _ _ _ E _ M J N O U=>
  have:tot=E.els.length:=by
   simp only[EE,J,Af,beq_iff_eq]at hl;omega
  grind
theorem nj(h:E3 st off p=some d)(E:RepV w g st p v):∃ b o,v=.pointer (some ⟨b,o,none⟩)∧RepV w g st d (.pointer (some ⟨b,o+off,none⟩)):=by
 unfold E3 at h
 split at h
 ·simp at h; subst h
  cases E with
  |ptr key o' o O I J=>exact⟨_,_,rfl,.ptr _ _ o O I J⟩
 ·split at h
  ·rename_i key tot i o hl;simp at h; subst h;obtain⟨U,M,N,h3,rfl⟩:=ew hl E;refine⟨_,_,rfl,.rptr _ _ _ _ U _ rfl M N (by omega) fun _=>?_⟩;grind
  ·cases h
 ·simp at h; subst h
  cases E with
  |eptr el V b o val Y M N=>exact⟨_,_,rfl,by rw[Nat.add_assoc]; exact .eptr _ _ b o val Y M N⟩
 ·cases h
theorem yNc{s:TypeId}{E:Array Field}{f:Nat}{I:Field}(J:P.underlying s=some (.struct E))(M:E[f]?=some I)(hn:D3 P I.type=some n)(N:n≠0)
  (h:E3 st I.offset p=some d) (O:RepV w g st p v):∃ u,(Instr.fieldAt s v f).run P w=.ok u w∧RepV w g st d u:=by
 obtain⟨b,o,rfl,U⟩:=nj h O;refine⟨_,?_,U⟩;simp[Instr.fieldAt,run_underlying J,M,Instr.sureAddr,fieldPlace,K0 hn,N,Kw]
theorem tY{i:D}(E:P.underlying t=some (.array len elem))(hn:D3 P elem=some n)
  (h:IE st len n p i=some d) (I:RepV w g st p v) (hi:RepV w g st i vi):∃ u,(Instr.indexAt t v vi).run P w=.ok u w∧RepV w g st d u:=by
 unfold IE at h
 cases hj:Fq i with
 |none=>simp[hj]at h
 |some j=>
  simp only[hj,As]at h;obtain⟨M,h⟩:=h;obtain⟨k,rfl⟩:=Pf hj hi;obtain⟨b,o,rfl,J⟩:=nj h I;refine⟨_,?_,J⟩;simp only[Instr.indexAt,Sem.run_bind,asIntOf,Sem.run_pure,run_underlying E,Result.andThen_ok,Instr.sureAddr];have:(0:Int)≤(j:Int)∧(j:Int)<(len:Int):=by omega
  simp[this,K0 hn,Kw]
theorem yBz{x i:D}(ht:P.underlying t=some (.slice elem))(hn:D3 P elem=some n)
  (h:F5 st n x i=some d) (O:RepV w g st x v) (hi:RepV w g st i vi):∃ u,(Instr.indexAt t v vi).run P w=.ok u w∧RepV w g st d u:=by
 unfold F5 at h
 cases hj:Fq i with
 |none=>simp[hj]at h
 |some j=>
  simp only[hj]at h;obtain⟨k,rfl⟩:=Pf hj hi
  have go:∀ b o len cap,v=.slice (some ⟨b,o,none⟩) len cap→j<len→(Instr.indexAt t v (.int k (j:Int))).run P w=.ok (.pointer (some ⟨b,o+j*n,none⟩)) w:=by
   intro b o len cap hv J;subst hv;simp only[Instr.indexAt,Sem.run_bind,asIntOf,Sem.run_pure,run_underlying ht,Result.andThen_ok];have:(0:Int)≤(j:Int)∧(j:Int)<(len:Int):=by omega
   simp[this,K0 hn,Kw]
  split at h
  ·rename_i sz els tg
   split at h
   ·rename_i el E;simp only[beq_iff_eq,As,C3]at h;obtain⟨rfl,rfl⟩:=h
    cases O with
    |slcE=>simp at E
    |slc _ _ b off cap _ val Y h2 h3 ab h4 h5 h6 h7=>
     refine⟨_,go _ _ _ _ rfl (Ac.1 E).1,?_⟩;have:=RepV.eptr (w:=w) (g:=g) (st:=st) el 0 b (off+j*sz) (val j) (fun q d M=>ab j q d (Hb E M)) (fun q d M=>h6 j q d (Hb E M)) (fun q d M=>h7 j q d (Hb E M));omega
   ·cases h
  ·rename_i key tot off len
   split at h
   ·rename_i o N
    split at h
    ·rename_i hc;simp only[Af,beq_iff_eq,decide_eq_true_eq]at hc;simp only[C3]at h;subst h;obtain⟨⟨⟨I,a1⟩,U⟩,J⟩:=hc;obtain⟨ob,Y,h2,h3,rfl,h5⟩:=RQ (by simp[EE,N,I,U]) O;obtain rfl:ob=o:=AD (Y.symm.trans N);refine⟨_,go _ _ _ _ rfl J,.rptr _ _ _ _ ob _ rfl N h2 (by omega) fun _=>?_⟩;grind
    ·cases h
   ·cases h
  ·rename_i key off m a2 ag;simp only[As,C3]at h;obtain⟨⟨J,rfl⟩,rfl⟩:=h
   cases O with
   |bsl _ _ _ _ _ o cap N I V _=>exact⟨_,go _ _ _ _ rfl J,.ptr _ _ o N I V⟩
  ·cases h
theorem Sb{i:D}{y:Nat}{code:BoundsCode}(h:Fq i=some n)(hi:RepV w g st i vi)(E:n≤y):(Instr.sliceBound vi y code).run P w=.ok n w:=by
 obtain⟨k,rfl⟩:=Pf h hi;have:(0:Int)≤(n:Int)∧(n:Int)≤(y:Int):=by omega
 simp[Instr.sliceBound,asIntOf,this]
theorem Xc(hl:FW lo 0=some l)(E:FW hi len=some h)
  (M:∀ d v,lo=some d→vlo=some v→RepV w g st d v) (N:∀ d v,hi=some d→vhi=some v→RepV w g st d v) (O:lo.isSome=vlo.isSome) (U:hi.isSome=vhi.isSome)
  (V:l≤h) (I:h≤cap):(Instr.sliceBounds sl len cap vlo vhi none).run P w=.ok (l,h,cap) w:=by
 have Y:∀ v d,vlo=some v→lo=some d→(Instr.sliceBound v h .sliceB).run P w=.ok l w:=by
  intro v d hv J;subst J;simp only[FW]at hl;exact Sb hl (M d v rfl hv) V
 have e1:∀ v d code,vhi=some v→hi=some d→(Instr.sliceBound v cap code).run P w=.ok h w:=by
  intro v d code hv J;subst J;simp only[FW]at E;exact Sb E (N d v rfl hv) I
 cases hi <;> cases vhi <;> simp only[BY,BZ,reduceCtorEq]at U <;> cases lo <;> cases vlo <;> simp only[BY,BZ,reduceCtorEq]at O <;>
  simp only[FW,C3]at hl E
 ·subst hl; subst E; simp[Instr.sliceBounds]
 ·subst E; simp[Instr.sliceBounds,Y _ _ rfl rfl]
 ·subst hl; simp[Instr.sliceBounds,e1 _ _ _ rfl rfl]
 ·simp[Instr.sliceBounds,e1 _ _ _ rfl rfl,Y _ _ rfl rfl]
theorem yNw{J M:D}{E vm:Value}(hl:FW lo 0=some l)(hh:Fq J=some h)(hm:Fq M=some h)
  (N:∀ d v,lo=some d→vlo=some v→RepV w g st d v) (O:RepV w g st J E) (U:RepV w g st M vm) (V:lo.isSome=vlo.isSome)
  (Y:l≤h) (I:h≤cap):(Instr.sliceBounds sl len cap vlo (some E) (some vm)).run P w=.ok (l,h,h) w:=by
 have e2:∀ v d,vlo=some v→lo=some d→(Instr.sliceBound v h .slice3C).run P w=.ok l w:=by
  intro v d hv hd;subst hd;simp only[FW]at hl;exact Sb hl (N d v rfl hv) Y
 have e3:∀ code,(Instr.sliceBound vm cap code).run P w=.ok h w:=fun code=>Sb hm U I;have e4:∀ code,(Instr.sliceBound E h code).run P w=.ok h w:=fun code=>Sb hh O (AE _);cases lo <;> cases vlo <;> simp only[BY,BZ,reduceCtorEq]at V <;> simp only[FW,C3]at hl
 ·subst hl; simp[Instr.sliceBounds,e3,e4]
 ·simp[Instr.sliceBounds,e3,e4,e2 _ _ rfl rfl]
theorem az{i j:Nat}(E:Fs ((els.take h).drop l) i j=some d):Fs els (l+i) j=some d∧l+i<h:=by
 obtain⟨e,he,E⟩:=HE E;rw[BW,BI]at he
 split at he
 ·rename_i hi; exact⟨Hb he E,hi⟩
 ·cases he
theorem Yl3{M tg':Bool}{a:Option Addr}{m:Nat}(N:RepV w g st (.slc sz els M) (.slice a els.length cap))(aa:l≤h)(hh:h≤els.length)(hm:h≤m)(O:tg'=true→m=h) :
  RepV w g st (.slc sz ((els.take h).drop l) tg') (.slice (if m=l then a else a.map (·.add (l*sz))) (h - l) (m - l)):=by
 have hlen:((els.take h).drop l).length=h - l:=by rw[AX,AQ]; omega
 rw[← hlen]
 by_cases I:(els.take h).drop l=[]
 ·rw[I];refine .slcE _ _ _ _ fun e=>?_;grind
 ·have ab:l<h:=by
   grind
  rw[if_neg (by omega)]
  cases N with
  |slcE=>simp at I
  |slc _ _ b off cap _ val h1 U h3 J h4 h5 V Y=>
   simp only[Ah,Kw];refine .slc _ _ _ _ _ _ (fun i j=>val (l+i) j) I U ?_ ?_ (by omega) (fun e=>by have:=O e; omega) ?_ ?_
   ·grind
   ·intro i j d E; exact J _ _ _ (az E).1
   ·intro i j d E;have:=V _ _ _ (az E).1;grind
   ·intro i j d E; exact Y _ _ _ (az E).1
theorem cU{x:Option Operand}{E:Option PA}{ρ:PA→D}{I:Operand→Value}(h:Ru x=some E)(J:lo=E.map ρ)(M:∀ x E,DE x=some E→RepV w g st (ρ E) (I x)) :
  (∀ d v,lo=some d→x.map I=some v→RepV w g st d v)∧lo.isSome=(x.map I).isSome:=by
 cases x with
 |none=>simp[Ru]at h; subst h; subst J; simp
 |some x=>
  simp only[Ru,Dv]at h;grind
theorem pQ(hS:SR base w g st){x:D}{mx:Option D}{N:Option Value}
  (ht:(sz=0∧P.underlying t=some .string)∨(sz≠0∧∃ e,P.underlying t=some (.slice e)∧D3 P e=some sz))
  (h:Gm st sz x lo hi mx=some d) (hr:RepV w g st x v)
  (J:(∀ d v,lo=some d→vlo=some v→RepV w g st d v)∧lo.isSome=vlo.isSome) (M:(∀ d v,hi=some d→vhi=some v→RepV w g st d v)∧hi.isSome=vhi.isSome)
  (a0:(∀ d v,mx=some d→N=some v→RepV w g st d v)∧mx.isSome=N.isSome) :
  ∃ u,(Instr.sliceAt t v vlo vhi N).run P w=.ok u w∧RepV w g st d u:=by
 unfold Gm at h
 split at h
 ·rename_i s;obtain rfl:=Ly hr
  split at h
  ·rename_i l O hl Y;simp only[As,C3]at h;obtain⟨⟨h0,E,I⟩,rfl⟩:=h
   have hu:P.underlying t=some .string:=by
    grind
   have hm:N=none:=by
    simp_all
   subst hm;have hb:=Xc (P:=P) (w:=w) (g:=g) (st:=st) (sl:=false) hl Y J.1 M.1 J.2 M.2 E I;refine⟨.string ((ByteArray.mk s.toArray).extract l O),?_,dH _ _ ?_⟩
   ·simp only[Instr.sliceAt,Sem.run_bind,run_underlying hu,Result.andThen_ok,Instr.slice,BY,Al,if_false];have e:CO ⟨s.toArray⟩=s.length:=by simp[CO]
    simp_all
   ·rw[Lib.extract_data];simp[List.drop_take]
  ·cases h
 ·rename_i a5 els tg
  split at h
  case isFalse=>cases h
  rename_i aa;simp only[Af,bne_iff_ne,ne_eq]at aa;obtain⟨aa,hs0⟩:=aa;obtain⟨_,e,hu,hn⟩:=ht.resolve_left (fun h=>hs0 h.1)
  have hv:∃ a cap,v=.slice a els.length cap:=by
   cases hr with
   |slcE _ _ a cap h=>exact⟨a,cap,rfl⟩
   |slc _ _ b off cap _ val E=>exact⟨_,cap,rfl⟩
  obtain⟨a,cap,rfl⟩:=hv
  have U:els.length≤cap:=by
   cases hr with
   |slcE _ _ a cap h=>simp
   |slc _ _ b off cap _ val E I h3 be h4=>exact h4
  split at h
  ·rename_i l O hl Y
   have final:∀ (tg':Bool) (m:Nat),l≤O→O≤els.length→O≤m→(tg'=true→m=O)→RepV w g st (.slc a5 ((els.take O).drop l) tg') (.slice (if m=l then a else a.map (·.add (l*sz))) (O - l) (m - l)):=by
    intro tg' m E I h3 h4;have:=Yl3 (tg':=tg') hr E I h3 h4;grind
   split at h
   ·simp only[As,C3]at h;obtain⟨⟨E,I⟩,rfl⟩:=h
    have hm:N=none:=by
     simp_all
    subst hm;have hb:=Xc (P:=P) (w:=w) (g:=g) (st:=st) (sl:=true) hl Y J.1 M.1 J.2 M.2 E (AS I U);refine⟨_,?_,final _ cap E I (AS I U) ?_⟩
    ·simp only[Instr.sliceAt,Sem.run_bind,run_underlying hu,Result.andThen_ok,Instr.slice,hb,K0 hn];rfl
    ·intro e;simp only[Af,beq_iff_eq]at e
     cases hr with
     |slcE _ _ a cap h5=>have:=h5 e.1; simp at I; omega
     |slc _ _ b off cap _ val _ _ _ _ _ h5=>have:=h5 e.1; omega
   ·rename_i m;simp only[As,C3]at h;obtain⟨⟨E,I,h3,h4⟩,rfl⟩:=h
    cases N with
    |none=>simp at a0
    |some vm=>
     cases hi with
     |none=>simp at h4
     |some dh=>
      cases vhi with
      |none=>simp at M
      |some vh=>
       simp only[FW]at Y;have hb:=yNw (P:=P) (len:=els.length) (sl:=true) hl Y h3 J.1 (M.1 dh vh rfl rfl) (a0.1 m vm rfl rfl) J.2 E (AS I U);refine⟨_,?_,final true O E I (AE _) (fun _=>rfl)⟩;simp only[Instr.sliceAt,Sem.run_bind,run_underlying hu,Result.andThen_ok,Instr.slice,hb,K0 hn];rfl
  ·cases h
 ·rename_i key tot off len
  split at h
  ·rename_i o ho
   split at h
   ·rename_i hc;simp only[Af,beq_iff_eq,bne_iff_ne,ne_eq]at hc;obtain⟨⟨⟨V,aa⟩,a2⟩,hs0⟩:=hc;obtain⟨_,e,hu,hn⟩:=ht.resolve_left (fun h=>hs0 h.1);obtain⟨ob,E,I,h3,rfl,h5⟩:=RQ (by simp[EE,ho,V,a2]) hr;obtain rfl:ob=o:=AD (E.symm.trans ho);obtain⟨C,e',bf,_,bb,hx,hC,bc⟩:=hS.blk key ob ho (L1 V);rw[V]at hC;simp only[if_true]at hC
    split at h
    ·rename_i l O hl Y
     have hm:N=none:=by
      simp_all
     subst hm
     split at h
     ·rename_i a7;have hb:=Xc (P:=P) (w:=w) (g:=g) (st:=st) (sl:=true) (cap:=g.γ key - off) hl Y J.1 M.1 J.2 M.2 a7.1 (by omega)
      have a3:(Instr.sliceAt t (.slice (some ⟨g.β key,off*ob.sz,none⟩) len (g.γ key - off)) vlo vhi none).run P w=.ok (.slice (if g.γ key - off=l then some ⟨g.β key,off*ob.sz,none⟩else some ⟨g.β key,off*ob.sz+l*sz,none⟩) (O - l) (g.γ key - off - l)) w:=by
       simp only[Instr.sliceAt,Sem.run_bind,run_underlying hu,Result.andThen_ok,Instr.slice,hb,K0 hn,Ah,Kw];rfl
      refine⟨_,a3,?_⟩
      split at h
      ·grind
      ·split at h
       ·simp only[C3]at h;subst h;rename_i h7;rw[h7,BK];exact .slcE _ _ _ _ fun e=>by cases e
       ·simp only[C3]at h;subst h;rw[if_neg (by omega)];refine .row _ _ _ _ ob _ rfl ho V (by omega) fun _=>⟨?_,by omega⟩;grind
     ·cases h
    ·cases h
   ·cases h
  ·cases h
 ·cases h
end
end Go.Proofs.YtijnglngaogdjaaGreatDoor.PI
namespace Go.Proofs.YtijnglngaogdjaaGreatDoor.PI
open Go Go.RowKit
variable {v vi:Value}{d x:D}{ag:Bool}{n sz:Nat}{elem t xt:TypeId}
section
variable {P:Program} {base:Nat} {w:World} {g:Ghost} {st:St}
theorem yL8{lo hi:Option D}{vlo vhi:Option Value}(Y:P.underlying t=some (.array n elem))(hn:D3 P elem=some sz)
  (h:N1 n sz ag x lo hi=some d) (U:RepV w g st x v)
  (J:(∀ d v,lo=some d→vlo=some v→RepV w g st d v)∧lo.isSome=vlo.isSome) (M:(∀ d v,hi=some d→vhi=some v→RepV w g st d v)∧hi.isSome=vhi.isSome) :
  ∃ u,(Instr.sliceAt t v vlo vhi none).run P w=.ok u w∧RepV w g st d u:=by
 unfold N1 at h
 split at h
 ·rename_i l E hl hh
  split at h
  ·rename_i hle;have hb:=Xc (P:=P) (w:=w) (g:=g) (st:=st) (sl:=false) (cap:=n) hl hh J.1 M.1 J.2 M.2 hle.1 hle.2
   have I:∀ a:Addr,(Instr.sliceAt t (.pointer (some a)) vlo vhi none).run P w=.ok (.slice (some (if n=l then a else a.add (l*sz))) (E - l) (n - l)) w:=by
    intro a;simp only[Instr.sliceAt,Sem.run_bind,run_underlying Y,Result.andThen_ok,Instr.sureAddr,Sem.run_pure,hb,K0 hn]
   split at h
   ·cases U with
    |ptr key off o ho N O=>
     refine⟨_,I _,?_⟩
     split at h
     ·rename_i e;simp only[C3]at h; subst h;rw[e,BK];exact .slcE _ _ _ _ fun e=>by cases e
     ·simp only[C3]at h; subst h;rw[if_neg (by omega),Kw]; exact .bsl _ _ _ _ _ o _ ho N O (by omega)
   ·rename_i el off
    cases U with
    |eptr _ _ b o val hp h4 h5=>
     refine⟨_,I _,?_⟩
     split at h
     ·rename_i e;simp only[C3]at h; subst h;rw[e,BK];exact .slcE _ _ _ _ fun e=>by cases e
     ·rw[if_neg (by omega)];simp only[As,C3,Af,decide_eq_true_eq,A8,beq_iff_eq]at h;obtain⟨⟨⟨h1,V⟩,h3⟩,rfl⟩:=h
      have hm:(E - l)*sz≤(el.cells.drop (off+l*sz)).length:=by
       rw[AX];have:E*sz≤n*sz:=AP _ hle.2;have e1:(E - l)*sz=E*sz - l*sz:=Nat.sub_mul _ _ _;omega
      obtain⟨c1,c2,c3⟩:=aA V h3 (E - l) (el.cells.drop (off+l*sz)) hm (fun x hx=>by
       obtain⟨i,hi⟩:=AZ.1 (Cg hx);exact Xe (hp i x hi))
      rw[Kw]
      have goal:=RepV.slc_mk (w:=w) (g:=g) (st:=st) (els:=IN sz ag (el.cells.drop (off+l*sz)) (E - l)) (t:=E == n) (b:=b) (off:=o+off+l*sz) (cap:=n - l) V c2 (by rw[c1]; omega) (fun e=>by rw[c1]; simp at e; omega) (by
       grind)
      grind
   ·cases h
  ·cases h
 ·cases h
theorem ni{off:Nat}{ds:List D}{vs:List Value}(E:Ej P t=some ag)(hn:D3 P t=some n)(I:ag=true∨n=1)(hl:ds.length=vs.length)(N:off+n≤ds.length)
  (h:∀ (i:Nat) d v,ds[i]?=some d→vs[i]?=some v→RepV w g st d v):∃ u,(part t vs.toArray off).run P w=.ok u w∧RepV w g st (.mk ag ((ds.drop off).take n)) u:=by
 cases ag with
 |true=>
  refine⟨.agg ((vs.drop off).take n).toArray,?_,?_⟩
  ·have:vs.toArray.extract off (off+n)=((vs.drop off).take n).toArray:=by
    grind
   simp only[part,Sem.run_bind,QI E,Result.andThen_ok,if_true,K0 hn,this,Sem.run_pure]
  ·refine .agg _ _ (by simp[hl]) ?_;grind
 |false=>
  obtain rfl:n=1:=I.resolve_left (by simp);have J:off<ds.length:=by omega
  have M:off<vs.length:=by omega
  refine⟨vs[off],?_,?_⟩
  ·simp[part,QI E,M]
  ·have e:D.mk false ((ds.drop off).take 1)=ds[off]:=by
    simp[D.mk,List.take_one,List.head?_drop,J]
   rw[e];exact h off _ _ (An J) (An M)
theorem w7{E:Array Field}{f:Nat}{I:Field}(J:P.underlying xt=some (.struct E))(M:E[f]?=some I)(N:Ej P I.type=some ag)(hn:D3 P I.type=some n)
  (h:LK I.offset n ag x=some d) (O:RepV w g st x v):∃ u,(Instr.field xt v f).run P w=.ok u w∧RepV w g st d u:=by
 unfold LK at h
 split at h
 ·simp only[As,C3,Af,decide_eq_true_eq,A8,beq_iff_eq]at h;obtain⟨⟨U,V⟩,rfl⟩:=h
  cases O with
  |agg ds vs Y h4=>
   obtain⟨u,h5,h6⟩:=ni (P:=P) (w:=w) (g:=g) (st:=st) N hn V Y U h4;exact⟨u,by simp[Instr.field,run_underlying J,M,asAgg,h5],h6⟩
 ·cases h
theorem xO{len:Nat}{i:D}(E:P.underlying xt=some (.array len elem))(I:Ej P elem=some ag)(hn:D3 P elem=some n)
  (h:OA len n ag x i=some d) (J:RepV w g st x v) (hi:RepV w g st i vi):∃ u,(Instr.index xt v vi).run P w=.ok u w∧RepV w g st d u:=by
 unfold OA at h
 split at h
 ·rename_i j hj;simp only[As]at h;obtain⟨aa,h⟩:=h;obtain⟨k,rfl⟩:=Pf hj hi;unfold LK at h
  split at h
  ·simp only[As,C3,Af,decide_eq_true_eq,A8,beq_iff_eq]at h;obtain⟨⟨M,N⟩,rfl⟩:=h
   cases J with
   |agg ds vs O U=>
    obtain⟨u,V,Y⟩:=ni (P:=P) (w:=w) (g:=g) (st:=st) I hn N O M U;refine⟨u,?_,Y⟩;have:(0:Int)≤(j:Int)∧(j:Int)<(len:Int):=by omega
    simp[Instr.index,asIntOf,run_underlying E,this,K0 hn,V];intro; omega
  ·cases h
 ·cases h
theorem Ye2{i:D}(E:P.underlying xt=some .string)(h:Jz x i=some d)(I:RepV w g st x v)(hi:RepV w g st i vi):∃ u,(Instr.index xt v vi).run P w=.ok u w∧RepV w g st d u:=by
 unfold Jz at h
 split at h
 ·rename_i s j hj
  split at h
  ·rename_i b hb;simp only[C3]at h; subst h;obtain⟨k,rfl⟩:=Pf hj hi;obtain rfl:=Ly I;refine⟨.int .u8 b.toNat,?_,.int _ _⟩;have J:j<s.length:=(Ac.1 hb).1
   have M:(ByteArray.mk s.toArray)[j]?=some b:=by
    have:j<(ByteArray.mk s.toArray).size:=by simpa[CO]using J
    rw[getElem?_pos (ByteArray.mk s.toArray) j this];have e:=Ac.1 hb;obtain⟨_,e⟩:=e;rw[← e];rfl
   simp[Instr.index,asIntOf,run_underlying E,M]
  ·cases h
 ·cases h
theorem m6(M:P.underlying t=some .string∨∃ e,P.underlying t=some (.slice e))(I:P.underlying t=some .string↔∃ s,x=.str s)(h:ED st x=some n)(E:RepV w g st x v)(ty:TypeId) :
  (Builtin.len_ #[t] ty #[v]).run P w=.ok (.int .i64 (n:Int)) w:=by
 have sl:∀ a l c,v=.slice a l c→(∀ s,x≠.str s)→(Builtin.len_ #[t] ty #[v]).run P w=.ok (.int .i64 (l:Int)) w:=by
  intro a l c hv O;subst hv
  have J:¬ P.underlying t=some .string:=by
   grind
  obtain⟨e,he⟩:=M.resolve_left J;simp[Builtin.len_,run_underlying he,goInt]
 unfold ED at h
 split at h
 ·simp only[C3]at h; subst h;obtain⟨⟨a,cap,hv,_⟩,_,_⟩:=RJ E;grind
 ·split at h
  ·simp only[C3]at h; subst h;rename_i hl;obtain⟨_,_,_,_,hv,_⟩:=RQ hl E;grind
  ·cases h
 ·simp only[C3]at h; subst h
  cases E with
  |bsl=>exact sl _ _ _ rfl (by intro s N; cases N)
 ·simp only[C3]at h; subst h;obtain rfl:=Ly E;have hu:=I.2 ⟨_,rfl⟩;rename_i s;have e:CO ⟨s.toArray⟩=s.length:=by simp[CO]
  simp[Builtin.len_,run_underlying hu,goInt,e]
 ·cases h
theorem yI{b:UInt8}(h:S4 d=some b)(E:RepV w g st d v):v=.int .u8 (b.toNat:Int):=by
 unfold S4 at h
 split at h
 ·simp only[As,C3]at h;obtain⟨⟨I,J⟩,rfl⟩:=h;obtain rfl:=It E
  congr 1
  rw[UInt8.toNat_ofNat'];omega
 ·cases h
theorem qw:∀ {ds:List D} {bs:List UInt8},O2 ds=some bs→bs.length=ds.length∧∀ (i:Nat) b,bs[i]?=some b→∃ d,ds[i]?=some d∧S4 d=some b
 |[],bs,h=>by simp[O2]at h; subst h; exact⟨rfl,fun i b h=>by simp at h⟩
 |d::l,bs,h=>by
  unfold O2 at h
  split at h
  ·rename_i x y I E;simp only[C3]at h; subst h;obtain⟨J,M⟩:=qw E;grind
  ·cases h
theorem qE{E dst e:TypeId}{els:List D}{J:List UInt8}(M:P.underlying E=some (.slice e))(N:P.underlying e=some (.int .u8))(O:P.underlying dst=some .string)
  (hE:Els w g st v sz els) (U:sz=1∨els=[]) (hb:O2 els=some J):(convert E dst v).run P w=.ok (.string ⟨J.toArray⟩) w:=by
 obtain⟨⟨a,cap,rfl,V⟩,ac,hlen⟩:=hE;obtain⟨Y,h2⟩:=qw hb
 by_cases hn:els=[]
 ·subst hn;have:J=[]:=AO Y;subst this;rw[run_convert_bytes_string w E dst e a _ cap M N O]
  cases a with
  |none=>simp[Conv.bytesToString]; rfl
  |some a=>simp[Conv.bytesToString,loadCells,loadCellsFrom]; rfl
 ·obtain⟨b,off,rfl,h0,hc⟩:=V hn;obtain rfl:sz=1:=U.resolve_right hn;rw[← Y];refine run_convert_bytes_back w E dst e ⟨b,off,none⟩ cap J M N O ?_;intro j hj;obtain⟨d,aa,I⟩:=h2 j J[j] (An hj)
  have ab:d.cells=[d]:=by
   unfold S4 at I
   split at I
   ·rfl
   ·cases I
  obtain⟨u,h3,h4,_⟩:=hc j 0 d (Hb aa (by rw[ab]; rfl));rw[Kw];rw[yI I h4]at h3;grind
end
end Go.Proofs.YtijnglngaogdjaaGreatDoor.PI
namespace Go.Proofs.YtijnglngaogdjaaGreatDoor.PI
open Go Go.RowKit
variable {d:D}{v vx:Value}{t:TypeId}{off:Nat}{l xs:List D}{vs:List Value}{C:Array Value}
section
variable {P:Program} {base:Nat} {w:World} {g:Ghost} {st:St}
theorem Px(h:d.isCell=true):d.cells=[d]:=by
 cases d <;> simp_all [D.isCell,D.cells]
theorem Ya1(h:v.oneCell'=true):v.cells=#[v]:=by
 cases v <;> simp_all [Value.oneCell',Value.cells]
theorem Pc(hc:d.cells.all D.isCell=true)(N:RepV w g st d v) :
  v.cells.size=d.cells.length∧(∀ (j:Nat) x,d.cells[j]?=some x→∃ u,v.cells[j]?=some u∧RepV w g st x u)∧v.cells.toList.all (·.oneCell')=true:=by
 have single:d.cells=[d]→d.isCell=true→v.cells.size=d.cells.length∧(∀ (j:Nat) x,d.cells[j]?=some x→∃ u,v.cells[j]?=some u∧RepV w g st x u)∧v.cells.toList.all (·.oneCell')=true:=by
  intro E I;have O:=Ya1 (N.oneCell I);rw[E,O];refine⟨rfl,fun j x J=>?_,by simpa using N.oneCell I⟩;grind
 cases d with
 |agg l=>
  cases N with
  |agg _ vs E I=>
   simp only[D.cells]at hc;refine⟨by simp[Value.cells,D.cells,E],fun j x J=>?_,?_⟩
   ·simp only[D.cells]at J;have hj:j<vs.length:=by rw[← E]; exact(Ac.1 J).1
    exact⟨vs[j],by simp[Value.cells,hj],I j x _ J (An hj)⟩
   ·simp only[Value.cells,Aj];intro u hu;obtain⟨j,hj⟩:=AZ.1 hu;have M:j<l.length:=by rw[E]; exact(Ac.1 hj).1
    exact(I j _ u (An M) hj).oneCell (Aj.1 hc _ (By M))
 |tup l=>simp[D.cells,D.isCell]at hc
 |junk=>simp[D.cells,D.isCell]at hc
 |_=>exact single rfl rfl
theorem yKw(w:World)(o:Go.Obj):Beside w {w with heap:=w.heap.push o}:=⟨rfl,rfl,rfl,by simp⟩
theorem O6(w:World)(o:Go.Obj)(b:Nat)(h:b<w.heap.size):(w.heap.push o)[b]?=w.heap[b]?:=by
 grind
theorem tw(M:SR base w g st)(hc:d.cells.all D.isCell=true)(N:RepV w g st d v) :
  RunsTo P base w g st (do pure (.pointer (some (← newVar t v)))) (.ptr st.length 0) (st++[{row:=false,sz:=1,els:=d.cells,lent:=false}]):=by
 obtain⟨O,U,_⟩:=Pc hc N;have E:∀ x∈d.cells,x.cells=[x]:=fun x I=>Px (Aj.1 hc x I)
 have J:=SR.push (o:={row:=false,sz:=1,els:=d.cells,lent:=false}) (c:=0) (C:=v.cells) (e:=t) (w':={w with heap:=w.heap.push (.cells v.cells t)}) M
  (yKw w _) (fun b hb=>O6 w _ b hb) (by simp) rfl Nat.one_pos (fun x I=>by rw[E x I]; rfl) (by simp[O]; exact E) (by
   intro i j x I;obtain⟨e,he,V⟩:=HE I;grind)
 refine⟨.pointer (some ⟨w.heap.size,0,none⟩),_,_,?_,J,?_⟩
 ·rfl
 ·have:=RepV.ptr (w:={w with heap:=w.heap.push (.cells v.cells t)}) (g:={g with β:=Fk g.β st.length w.heap.size,γ:=Fk g.γ st.length 0}) (st:=st++[{row:=false,sz:=1,els:=d.cells,lent:=false}]) st.length 0 {row:=false,sz:=1,els:=d.cells,lent:=false} (by simp) rfl rfl;simpa[HD]using this
theorem SL(h:off+xs.length≤l.length):(Fc l off xs).length=l.length:=by
 simp only[Fc,Ab,AQ,AX]; omega
theorem Po{j:Nat}(h:off+xs.length≤l.length):(Fc l off xs)[j]?=if off≤j∧j<off+xs.length then xs[j - off]? else l[j]?:=by
 unfold Fc
 by_cases E:j<off
 ·grind
 ·grind
theorem SI{j:Nat}(h:off+vs.length≤C.size) :
  ((C.toList.take off++vs++C.toList.drop (off+vs.length)).toArray)[j]?=if off≤j∧j<off+vs.length then vs[j - off]? else C[j]?:=by
 grind
theorem Yjc(h:off+vs.length≤C.size):((C.toList.take off++vs++C.toList.drop (off+vs.length)).toArray).size=C.size:=by
 grind
theorem SK(w:World)(b:Nat)(C:Array Value):Beside w (w.setRow b C):=⟨rfl,rfl,rfl,by simp[World.setRow]⟩
theorem iR(V:SR base w g st){n b:Nat}{e:TypeId}{x:D}(hn:D3 P t=some n)(hb:w.heap[b]?=some (.cells C e (0,0)))(E:off+n≤C.size)
  (I:x.cells.length=n) (hc:x.cells.all D.isCell=true) (M:RepV w g st x vx) :
  (Instr.storeAt t (.pointer (some ⟨b,off,none⟩)) vx).run P w=.ok () (w.setRow b ((C.toList.take off++vx.cells.toList++C.toList.drop (off+vx.cells.toList.length)).toArray)):=by
 obtain⟨J,_,N⟩:=Pc hc M;have O:vx.cells.toList.length=n:=by rw[Cj,J,I]
 have h:=run_storeCells_at P b off e vx.cells.toList 0 C w hb (by simpa[O]using E) (Aj.1 N);simp only[BV]at h;have U:vx.cells.size=n:=by rw[J,I]
 simp only[Instr.storeAt,Sem.run_bind,Instr.sureAddr,Sem.run_pure,Result.andThen_ok,storeVar,K0 hn,U,ne_eq,not_true_eq_false,if_false,h]
theorem yLx{E I:D}{ys:List D}(h:S1 E off ys=some I)(M:∀ z∈ys,z.cells=[z]):off+ys.length≤E.cells.length∧I.cells=Fc E.cells off ys:=by
 unfold S1 at h
 split at h
 ·simp only[As,C3]at h;obtain⟨N,rfl⟩:=h;exact⟨N,rfl⟩
 ·rename_i J
  split at h
  ·simp only[C3]at h; subst h;have:E.cells=[E]:=by cases E <;> first | rfl | exact absurd rfl (J _)
   rename_i z;rw[this];exact⟨by simp,by simp[Fc,M z (by simp)]⟩
  ·cases h
theorem xp(V:SR base w g st){n:Nat}{p x:D}{vp:Value}{st':St}(hn:D3 P t=some n)(h:Ll st n p x=some st')(bb:RepV w g st p vp)(ah:RepV w g st x vx) :
  ∃ w' g',(Instr.storeAt t vp vx).run P w=.ok () w'∧Go1 base w g st w' g' st':=by
 unfold Ll at h
 split at h
 ·rename_i key off
  cases bb with
  |ptr _ _ o U E a0=>
   rw[U]at h;simp only[E,Av,Bp,As,C3,Af,AR,decide_eq_true_eq,beq_iff_eq]at h;obtain⟨⟨⟨⟨a7,hle⟩,hlen⟩,N⟩,rfl⟩:=h;obtain⟨C,e,hb,a8,bh,hx,hC,Y⟩:=V.blk key o U (Om a0);rw[E]at hC;simp only[Al,if_false]at hC;obtain⟨bc,bd,b7⟩:=hC;obtain⟨h1,h2,h3⟩:=Pc N ah;have h4:vx.cells.toList.length=n:=by rw[Cj,h1,hlen]
   have ac:off+vx.cells.toList.length≤C.size:=by rw[h4,bc]; exact hle
   have O:off+x.cells.length≤o.els.length:=by rw[hlen]; exact hle
   have be:=SL O
   have mem:∀ y∈Fc o.els off x.cells,y.cells=[y]:=by
    intro y M;obtain⟨j,hj⟩:=AZ.1 M;rw[Po O]at hj
    split at hj
    ·exact Px (Aj.1 N y (Aq hj))
    ·grind
   have b8:off+n≤C.size:=by rw[bc]; exact hle
   refine⟨_,{g with β:=Fk g.β key (g.β key),γ:=Fk g.γ key (g.γ key)},iR V hn hb b8 hlen N ah,?_⟩;have eo:(⟨false,o.sz,Fc o.els off x.cells,o.lent⟩:Obj)={o with els:=Fc o.els off x.cells}:=by rw[← E]
   rw[eo]
   refine SR.update (o':={o with els:=Fc o.els off x.cells}) (c:=g.γ key) V U (Om a0) hb (.inl ⟨rfl,rfl⟩) rfl rfl (by simp[be]) rfl (fun y M=>by rw[mem y M,bd]; rfl) (SK w _ _)
    (fun b' _ b9=>setRow_other w _ _ _ (by omega)) (setRow_heap w _ C _ e _ hb) ?_ ?_ ?_
   ·intro _ y M;have:=(V.dis key o y U M).1;grind
   ·grind
   ·intro i j d hd;refine⟨fun h=>by simp[E]at h,?_⟩;obtain⟨y,M,ad⟩:=HE hd;have h5:=mem y (Aq M);rw[h5]at ad
    cases j with
    |succ j=>simp at ad
    |zero=>
     simp only[AH,C3]at ad;subst ad;rw[bd,BL,BV,SI ac];rw[Po O]at M;rw[h4];rw[hlen]at M
     split at M
     ·grind
     ·rename_i hc;rw[if_neg hc];have h8:=b7 y (Aq M);obtain⟨_,u,h6,h7⟩:=Y i 0 y (Hb M (by rw[h8]; rfl));grind
 ·rename_i key tot i off
  split at h
  ·rename_i o y U M
   split at h
   case isFalse=>cases h
   rename_i ae;simp only[Af,AR,beq_iff_eq,BF]at ae;obtain⟨⟨⟨E,a7⟩,b4⟩,ba⟩:=ae
   split at h
   case h_2=>cases h
   rename_i el a2
   split at h
   case h_2=>cases h
   rename_i ca b5;simp only[As,C3]at h;obtain⟨hlen,rfl⟩:=h;obtain⟨I,h1,h2,h3,rfl⟩:=ew (by simp[EE,U,E,b4]) bb;obtain rfl:I=o:=AD (h1.symm.trans U);obtain⟨C,e,hb,a8,bh,hx,hC,Y⟩:=V.blk key I U (L1 E);rw[E]at hC;simp only[if_true]at hC;obtain⟨af,a3⟩:=kS V M ah (by rw[ba]; intro k hk; cases hk)
   have bf:∀ z∈y.cells,z.pure1=true:=by
    intro z J
    cases y with
    |agg l=>simp only[purA,Aj]at a3; exact a3 z J
    |_=>simp only[D.cells,AM]at J; subst J; exact a3
   have N:y.cells.all D.isCell=true:=Aj.2 fun z J=>Pm (bf z J);obtain⟨c1,c2,c3⟩:=Pc N af;have cb:i<I.els.length:=(Ac.1 a2).1;have ch:=hx el (Aq a2);obtain⟨O,a4⟩:=yLx b5 (fun z J=>Xe (bf z J))
   have a5:i*I.sz+off+n≤C.size:=by
    rw[hC.1]
    calc i*I.sz+off+n≤i*I.sz+I.sz:=by omega
     _=(i+1)*I.sz:=by rw[A0,Bu]
     _≤g.γ key*I.sz:=AP _ (by omega)
   have h4:vx.cells.toList.length=n:=by rw[Cj,c1,hlen]
   have ac:i*I.sz+off+vx.cells.toList.length≤C.size:=by rw[h4]; exact a5
   have be:=SL O;refine⟨_,{g with β:=Fk g.β key (g.β key),γ:=Fk g.γ key (g.γ key)},iR V hn hb a5 hlen N af,?_⟩
   refine SR.update (o':={I with els:=I.els.set i ca}) (c:=g.γ key) V U (L1 E) hb (.inl ⟨rfl,rfl⟩) rfl rfl (by simp) rfl ?_ (SK w _ _)
    (fun b' _ b9=>setRow_other w _ _ _ (by omega)) (setRow_heap w _ C _ e _ hb) ?_ ?_ ?_
   ·grind
   ·intro _ z J;have:=(V.dis key I z U J).1;grind
   ·grind
   ·intro i' j d hd;obtain⟨z,J,aa⟩:=HE hd;rw[SI ac,h4]
    by_cases bg:i'=i
    ·subst bg;rw[Bx cb]at J;simp only[C3]at J; subst J;rw[a4,Po O,hlen]at aa
     split at aa
     ·grind
     ·rename_i hc;rw[if_neg (by omega)];exact Y i' j d (Hb a2 aa)
    ·rw[AL (by omega)]at J;have hj:j<I.sz:=by rw[← hx z (Aq J)]; exact(Ac.1 aa).1
     rw[if_neg]
     ·exact Y i' j d (Hb J aa)
     ·rintro⟨q1,q2⟩;rcases Nat.lt_or_gt_of_ne bg with h6 | h6
      ·have:(i'+1)*I.sz≤i*I.sz:=AP _ h6;grind
      ·have:(i+1)*I.sz≤i'*I.sz:=AP _ h6;grind
  ·cases h
 ·cases h
end
end Go.Proofs.YtijnglngaogdjaaGreatDoor.PI
namespace Go.Proofs.YtijnglngaogdjaaGreatDoor.PI
open Go Go.RowKit
variable {v:Value}{e:TypeId}{C:Array Value}
section
variable {P:Program} {base:Nat} {w:World} {g:Ghost} {st:St}
theorem nZ(off:Nat):∀ (l:List Value) (k:Nat) (cs:Array Value),off+k+l.length≤cs.size→
  ((l.zipIdx k).foldl (fun cs x=>cs.setIfInBounds (off+x.2) x.1) cs).size=cs.size∧
  ∀ p,((l.zipIdx k).foldl (fun cs x=>cs.setIfInBounds (off+x.2) x.1) cs)[p]?=if off+k≤p∧p<off+k+l.length then l[p - (off+k)]? else cs[p]?
 |[],k,cs,_=>⟨rfl,fun p=>by simp; intro E I; omega⟩
 |v::l,k,cs,h=>by
  simp only[Ak]at h;obtain⟨E,I⟩:=nZ off l (k+1) (cs.setIfInBounds (off+k) v) (by simp; omega);simp only[List.zipIdx_cons,List.foldl_cons];grind
theorem nY{place:Nat→Option (Nat×Nat)}{cells:Array Value}{i off size:Nat}{rest:List (Nat×Value)}(J:place i=some (off,size))(E:v.cells.size=size)(I:off+size≤cells.size) :
  ∃ cs',Instr.fill place cells ((i,v)::rest)=Instr.fill place cs' rest∧cs'.size=cells.size∧∀ p,cs'[p]?=if off≤p∧p<off+size then v.cells[p - off]? else cells[p]?:=by
 have h:=nZ off v.cells.toList 0 cells (by simp[E]; exact I);refine⟨v.cells.zipIdx.foldl (fun cs (c,j)=>cs.setIfInBounds (off+j) c) cells,?_,?_,?_⟩
 ·have M:¬ (off+v.cells.size > cells.size):=by omega
  simp[Instr.fill,J,E];omega
 ·have:=h.1;rw[← Cm];grind
 ·intro p;have:=h.2 p;rw[← Cm];grind
theorem nX{place:Nat→Option (Nat×Nat)}:∀ (I:List (Nat×Nat×Nat×D×Value)) (cs:List D) (cells:Array Value) (ds:List D),
  DF cs (I.map fun p=>(p.2.1,p.2.2.1,p.2.2.2.1))=some ds→(∀ p∈I,place p.1=some (p.2.1,p.2.2.1))→(∀ p∈I,RepV w g st p.2.2.2.1 p.2.2.2.2)→
  cs.length=cells.size→(∀ (j:Nat) d v,cs[j]?=some d→cells[j]?=some v→RepV w g st d v)→
  ∃ E,Instr.fill place cells (I.map fun p=>(p.1,p.2.2.2.2))=some E∧ds.length=E.size∧∀ (j:Nat) d v,ds[j]?=some d→E[j]?=some v→RepV w g st d v
 |[],cs,cells,ds,h,_,_,hl,J=>by
  simp[DF]at h; subst h;exact⟨cells,rfl,hl,J⟩
 |p::I,cs,cells,ds,h,M,hv,hl,J=>by
  obtain⟨i,off,size,d,v⟩:=p;simp only[Ax,DF]at h
  split at h
  ·rename_i hc;simp only[Af,beq_iff_eq,decide_eq_true_eq]at hc;obtain⟨⟨N,h2⟩,U⟩:=hc;obtain⟨c1,c2,_⟩:=Pc U (hv (i,off,size,d,v) (by simp));obtain⟨cs',O,V,e3⟩:=nY (rest:=I.map fun p=>(p.1,p.2.2.2.2)) (M (i,off,size,d,v) (by simp)) (by rw[c1,N]) (by omega:off+size≤cells.size);simp only[Ax];simp only at O;rw[O];refine nX I _ cs' ds h (fun p hm=>M p (by simp[hm])) (fun p hm=>hv p (by simp[hm])) ?_ ?_
   ·rw[SL (by omega),V,hl]
   ·intro j x u Y hu;rw[Po (by omega),N]at Y;grind
  ·cases h
theorem yQ3{d:D}{cs:List D}(h:NY v=some d)(E:d=.agg cs):∃ vs:List Value,v=.agg vs.toArray∧cs.length=vs.length∧∀ (j:Nat) x u,cs[j]?=some x→vs[j]?=some u→RepV w g st x u:=by
 subst E;have I:=QQ (w:=w) (g:=g) (st:=st) h
 cases I with
 |agg _ vs J M=>exact⟨vs,rfl,J,M⟩
theorem p5(size:Nat):∀ (vs:List Value) (k:Nat) (cells:Array Value),(∀ v∈vs,v.cells.size=size)→(k+vs.length)*size≤cells.size→
  ∃ E,Instr.fill (fun i=>some (i*size,size)) cells ((vs.zipIdx k).map fun x=>(x.2,x.1))=some E∧E.size=cells.size∧(∀ p,p<k*size→E[p]?=cells[p]?)∧
   ∀ (i:Nat) v,vs[i]?=some v→∀ j,j<size→E[(k+i)*size+j]?=v.cells[j]?
 |[],k,cells,_,_=>⟨cells,rfl,rfl,fun _ _=>rfl,fun i v h=>by simp at h⟩
 |v::vs,k,cells,hv,hle=>by
  simp only[Ak]at hle;have M:(k+(vs.length+1))*size=k*size+size+vs.length*size:=by rw[A0,A0,Bu]; omega
  obtain⟨cs',N,I,O⟩:=nY (place:=fun i=>some (i*size,size)) (cells:=cells) (i:=k) (off:=k*size) (size:=size) (v:=v) (rest:=(vs.zipIdx (k+1)).map fun x=>(x.2,x.1)) rfl (hv v (by simp)) (by omega);obtain⟨E,U,J,V,Y⟩:=p5 size vs (k+1) cs' (fun u hu=>hv u (by simp[hu])) (by rw[I]; rw[show k+1+vs.length=k+(vs.length+1) by omega]; exact hle);have e4:(k+1)*size=k*size+size:=by rw[A0,Bu]
  refine⟨E,?_,J.trans I,?_,?_⟩
  ·simp_all
  ·grind
  ·intro i u hu j hj
   cases i with
   |zero=>
    grind
   |succ i=>
    grind
theorem SR.fresh(h:SR base w g st){w':World}{fz:Nat×Nat}(E:w'.heap=w.heap.push (.cells C e fz))(I:Beside w w') :
  Go1 base w g st w' {g with Im:=fun b x=>g.Im b x∨(b=w.heap.size∧x<C.size)} st:=by
 refine SR.more h I (fun b hb=>by rw[E]; exact O6 w _ b hb) (fun b x hb=>.inl hb) (fun b x hb=>?_) (fun b x hb=>?_)
 ·grind
 ·rcases hb with hb | ⟨rfl,M⟩
  ·have J:=h.im_lt hb;have:w'.cell? ⟨b,x,none⟩=w.cell? ⟨b,x,none⟩:=by simp only[World.cell?,E,O6 w _ b J]
   rw[this]; exact h.im b x hb
  ·simp[World.cell?,E,M]
def sk(base:Nat)(w:World)(g:Ghost)(st:St)(v:Value):Prop:=
 ∃ b n C e,v=.slice (some ⟨b,0,none⟩) n n∧w.heap[b]?=some (.cells C e (0,0))∧base≤b∧∀ (k:Nat) (o:Obj),st[k]?=some o→g.β k≠b
def tp(P:Program)(base:Nat)(w:World)(g:Ghost)(st:St)(s:Sem Value)(d:D)(st':St):Prop:=
 ∃ v w' g',s.run P w=.ok v w'∧Go1 base w g st w' g' st'∧RepV w' g' st' d v∧sk base w' g' st' v
theorem Yb6(hS:SR base w g st){t elem:TypeId}{i:TypeInfo}{z:Value}{sz:Nat}{els:List D}{vs:List Value}(hu:P.underlying t=some (.slice elem))(hi:P.info? elem=some i)(hz:i.zero=some z)(a1:i.size=sz)(h0:0<sz)
  (O:∀ d∈els,purA d=true) (I:∀ d∈els,d.cells.length=sz) (hl:els.length=vs.length) (hr:∀ (i:Nat) d v,els[i]?=some d→vs[i]?=some v→RepV w g st d v) (a7:els.length*sz≤16777216)
  {len:Nat} {parts:Array (Nat×Value)} (U:len=vs.length) (E:parts.toList=(vs.zipIdx 0).map fun x=>(x.2,x.1)) :
  tp P base w g st (Instr.buildSlice t len parts) (.slc sz els true) st:=by
 subst U
 have Y:∀ (i:Nat) e,els[i]?=some e→∀ x∈e.cells,x.pure1=true:=by
  intro i e he x J;have M:=O e (Aq he)
  cases e with
  |agg l=>simp only[purA,Aj]at M; exact M x J
  |_=>simp only[D.cells,AM]at J; subst J; exact M
 have aa:∀ (i:Nat) d v,els[i]?=some d→vs[i]?=some v→v.cells.size=sz∧∀ (j:Nat) x,d.cells[j]?=some x→∃ u,v.cells[j]?=some u∧RepV w g st x u:=by
  intro i d v V hv;obtain⟨c1,c2,_⟩:=Pc (Aj.2 fun x J=>Pm (Y i d V x J)) (hr i d v V hv);grind
 have a2:∀ v∈vs,v.cells.size=sz:=by
  intro v hv;obtain⟨i,hi⟩:=AZ.1 hv;have ab:i<els.length:=by rw[hl]; exact(Ac.1 hi).1
  exact(aa i _ v (An ab) hi).1
 have goal:∀ C:Array Value,C.size=vs.length*sz→(∀ (i:Nat) v,vs[i]?=some v→∀ j,j<sz→C[i*sz+j]?=v.cells[j]?)→
   (Instr.buildSlice t vs.length parts).run P w=.ok (.slice (some ⟨w.heap.size,0,none⟩) vs.length vs.length) (w.alloc (.cells C elem))→tp P base w g st (Instr.buildSlice t vs.length parts) (.slc sz els true) st:=by
  intro C ba bb af;have ac:=hS.fresh (w':=w.alloc (.cells C elem)) (C:=C) (e:=elem) (fz:=(0,0)) rfl ⟨rfl,rfl,rfl,by simp⟩;refine⟨_,_,_,af,ac,?_,⟨w.heap.size,vs.length,C,elem,rfl,?_,hS.size,fun k o hk=>Nat.ne_of_lt (hS.lt hk)⟩⟩
  case refine_2=>
   show(w.heap.push _)[w.heap.size]?=_
   simp
  rw[← hl];refine RepV.slc_mk h0 I (AE _) (fun _=>rfl) ?_;intro i j d V;obtain⟨e,he,N⟩:=HE V;have ab:i<els.length:=(Ac.1 he).1;have hj:j<sz:=by rw[← I e (Aq he)]; exact(Ac.1 N).1
  have hv:vs[i]?=some (vs[i]'(by omega)):=An (by omega);obtain⟨u,h3,h4⟩:=(aa i e _ he hv).2 j d N
  have bc:i*sz+j<C.size:=by
   grind
  refine⟨Y i e he d (Aq N),.inr ⟨rfl,by omega⟩,u,?_,ac.rep h4⟩
  have:(w.alloc (.cells C elem)).heap[w.heap.size]?=some (.cells C elem (0,0)):=by
   show(w.heap.push _)[w.heap.size]?=_
   simp
  simp only[World.cell?,this];grind
 by_cases hn:vs.length=0
 ·have ad:vs=[]:=AO hn;refine goal #[] (by simp[hn]) (fun i v hv=>by simp[ad]at hv) ?_;subst ad;simp at E;simp[Instr.buildSlice,run_underlying hu,sizeOf,typeInfo,hi,E,Instr.fill,newRow,Array.range_zero']
 ·obtain⟨C,M,h2,h3,h4⟩:=p5 sz vs 0 ((Array.range (vs.length*sz)).map (z.cells[· % z.cells.size]!)) a2 (by simp);refine goal C (by rw[h2]; simp) (fun i v hv j hj=>by have:=h4 i v hv j hj; rwa [Am]at this) ?_
  have a3:¬ vs.length*sz=0:=by
   intro e;rcases Nat.mul_eq_zero.1 e with e | e <;> omega
  subst a1;exact run_buildSlice w t elem vs.length parts C i z hu hi hz (by rw[← hl]; omega) a3 (by rw[E]; exact M)
theorem vN(J:SR base w g st){b m:Nat}(hb:w.heap[b]?=some (.cells C e (0,0)))(aa:base≤b)(O:∀ (k:Nat) (o:Obj),st[k]?=some o→g.β k≠b) :
  Go1 base w g st (w.freeze ⟨b,m,none⟩ 1) g st:=by
 have a6:b<w.heap.size:=(AG.1 hb).1
 have E:∀ k,k≠b→(w.freeze ⟨b,m,none⟩ 1).heap[k]?=w.heap[k]?:=by
  intro k hk;simp only[World.freeze,Nat.one_ne_zero,if_false,B8];grind
 have N:(w.freeze ⟨b,m,none⟩ 1).heap[b]?=some (.cells C e (m,m+1)):=by
  simp only[World.freeze,Nat.one_ne_zero,if_false,B8];simp[hb]
 have I:∀ k x,(w.freeze ⟨b,m,none⟩ 1).cell? ⟨k,x,none⟩=w.cell? ⟨k,x,none⟩:=by
  intro k x
  by_cases hk:k=b
  ·subst hk;simp only[World.cell?,N,hb]
  ·simp only[World.cell?,E k hk]
 have V:ImLe w g (w.freeze ⟨b,m,none⟩ 1) g:=⟨fun k x h=>⟨h,I k x⟩,fun k o M Y=>by
  by_cases hk:k=b
  ·subst hk;rw[hb]at M;obtain rfl:=AD M;simp[Mb]at Y
  ·grind⟩
 have U:(w.freeze ⟨b,m,none⟩ 1).heap.size=w.heap.size:=by simp[World.freeze]
 refine⟨⟨fun k o hk hm=>(J.mp k o hk hm).mono V (Evo.refl _ _) rfl (E _ (O k o hk)),?_,J.inj,fun k x h=>by rw[I]; exact J.im k x h,J.dis,by rw[U]; exact J.size⟩,Evo.refl _ _,V,fun _ _ h=>.inl h,⟨rfl,rfl,rfl,by rw[U]; exact AE _,fun k hk=>E k (by omega)⟩,fun k o M Y=>?_⟩
 ·intro k o hk hm;obtain⟨C1,e1,h1,h2,h3,h4,h5,h6⟩:=J.blk k o hk hm;refine⟨C1,e1,by rw[E _ (O k o hk)]; exact h1,h2,h3,h4,h5,fun i j d hd=>?_⟩;obtain⟨q1,v,q2,q3⟩:=h6 i j d hd;exact⟨q1,v,q2,q3.mono V (Evo.refl _ _)⟩
 ·by_cases hk:k=b
  ·subst hk;rw[hb]at M;obtain rfl:=AD M;simp[special]at Y
  ·exact .same (by rw[E k hk]; exact M)
end
end Go.Proofs.YtijnglngaogdjaaGreatDoor.PI
namespace Go.Proofs.YtijnglngaogdjaaGreatDoor.PI
open Go Go.RowKit
variable {bytes sCap:Nat}{x z:Value}{i:TypeInfo}{e t tx ty:TypeId}{els:List D}{ns:List Value}
section
variable {P:Program} {base:Nat} {w:World} {g:Ghost} {st:St}
theorem Ycq(w:World)(o:Go.Obj):(w.alloc o).heap[w.heap.size]?=some o:=by
 show(w.heap.push o)[w.heap.size]?=_
 simp
theorem xg(hS:SR base w g st){elem:TypeId}{zd:D}{sz:Nat}{dl dc:D}{vl vc:Value}{l c:Nat}(hu:P.underlying t=some (.slice elem))(hi:P.info? elem=some i)(hz:i.zero=some z)(ad:NY z=some zd)
  (ae:i.size=sz) (af:i.bytes=bytes) (h0:0<sz) (M:zd.cells.length=sz) (ah:zd.cells.all D.pure1=true) (hl:Fq dl=some l) (hc:Fq dc=some c) (a0:RepV w g st dl vl) (a1:RepV w g st dc vc)
  (a2:l≤c) (b1:c≤4294967296) (b2:c*bytes≤140737488355328) :
  RunsTo P base w g st (Instr.makeSlice t vl vc) (.row st.length l 0 l) (st++[{row:=true,sz,els:=CF l zd,lent:=false}]):=by
 obtain⟨kl,rfl⟩:=Pf hl a0;obtain⟨kc,rfl⟩:=Pf hc a1;subst ae; subst af
 have hb:((i.bytes:Int)*(c:Int))≤281474976710656:=by
  grind
 have I:=run_make (P:=P) w t elem i z hu hi hz kl kc (l:Int) (c:Int) (by omega) (by omega) hb (by omega);simp only[Bh]at I;have J:zd.cells.all D.isCell=true:=Aj.2 fun x N=>Pm (Aj.1 ah x N);have a3:=QQ (w:=w) (g:=g) (st:=st) ad;obtain⟨c1,c2,_⟩:=Pc J a3;have O:z.cells.size=i.size:=by rw[c1,M]
 have a4:∀ E j,E<c→j<i.size→E*i.size+j<c*i.size:=by
  intro E j U V
  calc E*i.size+j<E*i.size+i.size:=by omega
   _=(E+1)*i.size:=by rw[A0,Bu]
   _≤c*i.size:=AP _ U
 have a6:∀ E j u,E<c→j<i.size→z.cells[j]?=some u→(madeCells z.cells (c*i.size))[E*i.size+j]?=some u:=by
  intro E j u U V h3;have h4:=a4 E j U V;have h5:(E*i.size+j) % z.cells.size=j:=by rw[O,Cx,Nat.mul_add_mod,A4 V]
  have h6:z.cells[j]! = u:=by rw[getElem!_def,h3]
  simp[madeCells,h4,h5,h6]
 have Y:c≤maxLen:=by unfold maxLen; omega
 have a5:=SR.push (o:={row:=true,sz:=i.size,els:=CF l zd,lent:=false}) (c:=c) (C:=madeCells z.cells (c*i.size)) (e:=elem) (w':=w.alloc (.cells (madeCells z.cells (c*i.size)) elem)) hS
  ⟨rfl,rfl,rfl,by simp⟩ (fun b hb=>O6 w _ b hb) (Ycq w _) rfl h0 (fun x N=>by rw[List.eq_of_mem_replicate N]; exact M)
  (by simp[size_madeCells]; exact⟨a2,Y⟩) (by
   intro E j d hd;obtain⟨e,he,b3⟩:=HE hd;grind)
 refine⟨_,_,_,I,a5,?_⟩;refine .row _ _ _ _ {row:=true,sz:=i.size,els:=CF l zd,lent:=false} _ rfl (by simp) rfl (by simp) fun _=>⟨?_,by omega⟩;simp[HD]
structure News (w:World) (g:Ghost) (st:St) (P:Program) (x:Value) (size:Nat) (els:List D) (ns:List Value):Prop where
 len:ns.length=els.length*size
 one:∀ u∈ns,u.oneCell'=true
 rep:∀ (i j:Nat) d,Fs els i j=some d→∃ u,ns[i*size+j]?=some u∧RepV w g st d u
 lenOf:(Builtin.lenOf x).run P w=.ok els.length w∧(Builtin.lenOf x).run P w.drew=.ok els.length w.drew
 first:(Builtin.firstCells size els.length x).run P w=.ok ns.toArray w∧(Builtin.firstCells size els.length x).run P w.drew=.ok ns.toArray w.drew
theorem aU{size:Nat}(hE:Els w g st x size els):∃ ns,News w g st P x size els ns:=by
 obtain⟨⟨a,cap,rfl,U⟩,ac,hlen⟩:=hE
 by_cases hn:els=[]
 ·subst hn;refine⟨[],by simp,by simp,fun i j d h=>by simp[Fs]at h,⟨by simp[Builtin.lenOf],by simp[Builtin.lenOf]⟩,?_⟩;cases a <;> simp[Builtin.firstCells,loadCells,loadCellsFrom]
 ·obtain⟨b,off,rfl,h0,hc⟩:=U hn
  -- ah cells J
  let f:Nat→Value:=fun p=>(w.cell? ⟨b,off+p,none⟩).getD undef
  have V:∀ p,p<els.length*size→∃ d,Fs els (p / size) (p % size)=some d∧p=p / size*size+p % size:=by
   intro p N;have E:p / size<els.length:=Nat.div_lt_of_lt_mul (by rw[Cx]; exact N);have Y:p % size<size:=Nat.mod_lt _ h0;have he:els[p / size]?=some els[p / size]:=An E;have hj:p % size<els[p / size].cells.length:=by rw[hlen _ (By E)]; exact Y
   exact⟨_,Hb he (An hj),by rw[Cx]; exact(Nat.div_add_mod p size).symm⟩
  have M:∀ p,p<els.length*size→w.cell? ((⟨b,off,none⟩:Addr).add p)=some (f p)∧(f p).oneCell'=true:=by
   intro p N;obtain⟨d,O,a0⟩:=V p N;obtain⟨u,E,_,h3⟩:=hc _ _ d O;rw[cell?_add];grind
  have I:∀ w',(∀ b o,w'.cell? ⟨b,o,none⟩=w.cell? ⟨b,o,none⟩)→(Builtin.firstCells size els.length (.slice (some ⟨b,off,none⟩) els.length cap)).run P w'=.ok ((CI (els.length*size)).map f).toArray w':=by
   intro w' aa;have:=run_loadCells (P:=P) w' ⟨b,off,none⟩ (els.length*size) f (fun j hj=>by rw[cell?_add,aa,← cell?_add]; exact(M j hj).1);simpa[Builtin.firstCells]using this
  refine⟨(CI (els.length*size)).map f,by simp,?_,?_,⟨by simp[Builtin.lenOf],by simp[Builtin.lenOf]⟩,I w (fun _ _=>rfl),I w.drew (fun _ _=>rfl)⟩
  ·grind
  ·intro i j d O;obtain⟨e,he,ab⟩:=HE O;have E:i<els.length:=(Ac.1 he).1;have Y:j<size:=by rw[← hlen e (Aq he)]; exact(Ac.1 ab).1
   have h3:i*size+j<els.length*size:=by
    calc i*size+j<i*size+size:=by omega
     _=(i+1)*size:=by rw[A0,Bu]
     _≤els.length*size:=AP _ E
   grind
theorem yMn(s:List UInt8):∃ ns,News w g st P (.string ⟨s.toArray⟩) 1 (s.map Dc) ns:=by
 have e:CO ⟨s.toArray⟩=s.length:=by simp[CO]
 have I:∀ w':World,(Builtin.firstCells 1 (s.map Dc).length (.string ⟨s.toArray⟩)).run P w'=.ok ((s.map fun b=>Value.int .u8 b.toNat)).toArray w':=by
  intro w';simp[Builtin.firstCells]
 refine⟨s.map fun b=>Value.int .u8 b.toNat,by simp,?_,?_,⟨by simp[Builtin.lenOf,e],by simp[Builtin.lenOf,e]⟩,I w,I w.drew⟩
 ·intro u hu;simp only[AV]at hu;obtain⟨b,_,rfl⟩:=hu;rfl
 ·intro i j d J;obtain⟨e,he,E⟩:=HE J;simp only[AJ,Dv]at he;obtain⟨b,hb,rfl⟩:=he
  cases j with
  |zero=>
   simp[Dc,D.cells]at E;subst E;exact⟨.int .u8 b.toNat,by simp[hb],.int _ _⟩
  |succ j=>simp[Dc,D.cells]at E
theorem Yiw(U:P.underlying t=some (.slice e))(V:(∃ Y,P.underlying tx=some (.slice Y))∨P.underlying tx=some .string)(hi:P.info? e=some i)
  {b E:Nat} {C:Array Value} {e0:TypeId} (hb:w.heap[b]?=some (.cells C e0 (0,0)))    (M:News w g st P x i.size els ns) (I:E+els.length≤sCap) (N:E*i.size+ns.length≤C.size) :
  (Builtin.append_ #[t,tx] ty #[.slice (some ⟨b,0,none⟩) E sCap,x]).run P w=
   .ok (.slice (some ⟨b,0,none⟩) (E+els.length) sCap) (w.setRow b (C.toList.take (E*i.size)++ns++C.toList.drop (E*i.size+ns.length)).toArray):=by
 have J:=run_storeCells_at P b (E*i.size) e0 ns 0 C w hb (by simpa using N) M.one;simp only[BV]at J;have h1:=M.lenOf.1;have h2:=M.first.1
 rcases V with⟨Y,O⟩ | O
 ·simp[Builtin.append_,run_underlying U,sizeOf,typeInfo,hi,run_underlying O,h1,I,h2,Kw,J]
 ·simp[Builtin.append_,run_underlying U,sizeOf,typeInfo,hi,run_underlying O,h1,I,h2,Kw,J]
theorem mn(O:P.underlying t=some (.slice e))(U:(∃ V,P.underlying tx=some (.slice V))∨P.underlying tx=some .string)(hi:P.info? e=some i)(Y:i.zero=some z)
  {a:Option Addr} {E:Nat}  {I:List D} {os:List Value} (hN:News w g st P x i.size els ns) (hO:News w g st P (.slice a E sCap) i.size I os) (ab:I.length=E)
  (hg:sCap<E+els.length) (a0:E+els.length≤9223372036854775807) (ah:Builtin.nextslicecap (E+els.length) sCap*i.bytes≤281474976710656) :
  (Builtin.append_ #[t,tx] ty #[.slice a E sCap,x]).run P w=
   .ok (.slice (some ⟨w.heap.size,0,none⟩) (E+els.length) (grownCap w (E+els.length) sCap e))
    (w.drew.alloc (.cells (os.toArray++ns.toArray++Builtin.zeroCells z.cells (grownCap w (E+els.length) sCap e - (E+els.length))) e)):=by
 subst ab;have h1:=hN.lenOf.1;have h2:=hN.first.2
 have h3:=hO.first.2
 have hn:¬ (I.length+els.length≤sCap):=by omega
 have J:¬ (9223372036854775807<((I.length:Int)+(els.length:Int))):=by omega
 have M:¬ (281474976710656<Builtin.nextslicecap (I.length+els.length) sCap*i.bytes):=by omega
 rcases U with⟨V,N⟩ | N
 ·simp[Builtin.append_,run_underlying O,sizeOf,typeInfo,zeroValue,hi,Y,run_underlying N,h1,hn,J,M,Question.forced,h2,h3,newRow,grownCap]
  congr 2
  grind
 ·simp[Builtin.append_,run_underlying O,sizeOf,typeInfo,zeroValue,hi,Y,run_underlying N,h1,hn,J,M,Question.forced,h2,h3,newRow,grownCap]
  congr 2
  grind
theorem n8{n cap:Nat}(h:cap<n)(hb:n*bytes≤140737488355328):Builtin.nextslicecap n cap*bytes≤281474976710656:=by
 exact growslice_fits h hb
end
end Go.Proofs.YtijnglngaogdjaaGreatDoor.PI
