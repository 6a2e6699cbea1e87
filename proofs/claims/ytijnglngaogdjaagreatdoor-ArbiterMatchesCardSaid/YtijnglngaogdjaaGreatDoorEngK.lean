/-
  Each operation of the model does what its pure counterpart does: make, append, the bytes of a string.
  Conditions: none; these are lemmas.
-/
import Derived.Test.YtijnglngaogdjaaGreatDoorProg
import Derived.WalkKit
import Derived.Deep.LoopGhost
import Derived.Orders
import Derived.Lib.Strings
import Derived.Laws.IdiomStrings
import Derived.Great.BuildSlice
open BitVec renaming ofInt→CP
open ByteArray renaming size→CU
open List renaming range→CQ,replicate→CM
set_option linter.unusedVariables false
set_option linter.unusedSimpArgs false
namespace Go.Proofs.YtijnglngaogdjaaGreatDoor.PI
open Go
abbrev Aa:=@List.cons.injEq
abbrev Ab:=@List.getElem?_eq_some_iff
abbrev Ac:=@Bool.and_eq_true
abbrev Ad:=@List.length_append
abbrev Ae:=@Option.map_some
abbrev Af:=@List.getElem?_eq_getElem
abbrev Ag:=@List.all_eq_true
abbrev Ah:=@List.mem_of_getElem?
abbrev Ai:=@List.mem_cons_of_mem
abbrev Aj:=@List.getD_eq_getElem?_getD
abbrev Ak:=@Bool.false_eq_true
abbrev Al:=@List.length_cons
abbrev Am:=@Option.ite_none_right_eq_some
abbrev An:=@List.flatMap_cons
abbrev Ao:=@List.getElem?_append_left
abbrev Ap:=@List.length_nil
abbrev Aq:=@List.map_cons
abbrev Ar:=@List.append_assoc
abbrev As:=@List.length_take
abbrev At:=@List.cons_append
abbrev Au:=@Option.some.inj
abbrev Av:=@List.append_nil
abbrev Aw:=@Option.bind_eq_some_iff
abbrev Ax:=@Array.getElem?_eq_some_iff
abbrev Ay:=@List.getElem?_set_ne
abbrev Az:=@Nat.le_refl
abbrev AA:=@List.mem_cons
abbrev AB:=@List.getElem?_cons_zero
abbrev AD:=@List.getElem?_append_right
abbrev AE:=@List.length_drop
abbrev AF:=@List.mem_append
abbrev AG:=@List.getElem?_map
abbrev AH:=@List.nil_append
abbrev AI:=@List.take_of_length_le
abbrev AJ:=@List.take_length
abbrev AK:=@Nat.mul_le_mul_right
abbrev AL:=@Bool.not_eq_true'
abbrev AM:=@Int.toNat_natCast
abbrev AN:=@List.mem_range
abbrev AO:=@List.eq_nil_of_length_eq_zero
abbrev AP:=@List.mem_singleton
abbrev AQ:=@List.not_mem_nil
abbrev AR:=@Option.getD_none
abbrev AS:=@List.mem_map
abbrev AT:=@Nat.le_trans
abbrev AU:=@List.all_cons
abbrev AV:=@List.mem_iff_getElem?
abbrev AW:=@Nat.mod_eq_of_lt
abbrev AX:=@Nat.add_mul
abbrev AY:=@List.mk_mem_zipIdx_iff_getElem?
abbrev AZ:=@Nat.lt_of_lt_of_le
abbrev A0:=@Bool.not_false
abbrev A1:=@Bool.true_and
abbrev A2:=@List.length_map
abbrev A3:=@List.mem_filter
abbrev A4:=@List.map_append
abbrev A5:=@Bool.or_eq_true
abbrev A6:=@List.map_nil
abbrev A7:=@List.contains_iff_mem
abbrev A8:=@List.take_append_drop
abbrev A9:=@List.ext_getElem?
abbrev Ba:=@Nat.zero_le
abbrev Bb:=@Nat.zero_add
abbrev Bc:=@List.mem_cons_self
abbrev Bd:=@Bool.and_self
abbrev Be:=@Nat.lt_or_ge
abbrev Bf:=@Int.eq_ofNat_of_zero_le
abbrev Bg:=@Bool.not_true
abbrev Bh:=@List.set_cons_zero
abbrev Bi:=@List.range_eq_range'
abbrev Bj:=@List.getElem_mem
abbrev Bk:=@List.mem_flatMap
abbrev Bl:=@Option.bind_some
abbrev Bm:=@List.drop_length
abbrev Bn:=@List.getElem?_set_self
abbrev Bo:=@Option.bind_eq_bind
abbrev Bp:=@List.drop_zero
abbrev Bq:=@Bool.false_and
abbrev Bs:=@List.drop_eq_getElem_cons
abbrev Bt:=@List.getElem?_cons_succ
abbrev Bu:=@List.drop_drop
abbrev Bv:=@List.mapM_cons
abbrev Bw:=@Nat.one_mul
abbrev Bx:=@List.map_congr_left
abbrev By:=@Nat.min_eq_left
abbrev Bz:=@Int.tdiv_eq_ediv_of_nonneg
abbrev BA:=@Nat.sub_self
abbrev BB:=@List.length_replicate
abbrev BC:=@Array.getElem?_eq_getElem
abbrev BD:=@List.mem_or_eq_of_mem_set
abbrev BE:=@Array.toArray_toList
abbrev BF:=@Option.some.injEq
abbrev BG:=@Option.pure_def
abbrev BH:=@Nat.mul_one
abbrev BI:=@List.replicate_succ
abbrev BJ:=@List.isEmpty_iff
abbrev BK:=@List.flatMap_nil
abbrev BL:=@List.getElem?_take
abbrev BM:=@UInt8.toNat_ofNat'
abbrev BN:=@Nat.eq_zero_or_pos
abbrev BO:=@List.set_append_right
abbrev BP:=@List.length_set
abbrev BQ:=@List.all_append
abbrev BR:=@List.set_append_left
abbrev BS:=@List.getElem?_eq_none_iff
abbrev BT:=@List.range'_succ
abbrev BU:=@List.filter_eq_self
abbrev BV:=@Nat.add_zero
abbrev BW:=@List.getElem?_drop
abbrev BX:=@Option.isSome_none
abbrev BY:=@Option.isSome_some
abbrev BZ:=@Array.empty_append
abbrev B0:=@List.map_take
abbrev B1:=@List.set_eq_take_append_cons_drop
abbrev B2:=@Int.emod_lt_of_pos
abbrev B3:=@List.replicate_append_replicate
abbrev B4:=@Bool.and_false
abbrev B5:=@Array.getElem?_modify
abbrev B6:=@Array.getElem?_toList
abbrev B7:=@List.getElem?_eq_none
abbrev B8:=@Nat.le_of_lt
abbrev B9:=@Nat.and_two_pow_sub_one_eq_mod
abbrev Ca:=@Int.mul_le_mul_of_nonneg_right
abbrev Cb:=@Int.mul_comm
abbrev Cc:=@Option.getD_some
abbrev Cd:=@List.take_append_of_le_length
abbrev Ce:=@List.mem_of_mem_drop
abbrev Cf:=@List.getElem?_of_mem
abbrev Cg:=@List.replicate_succ'
abbrev Ch:=@Bool.and_true
abbrev Ci:=@List.map_drop
abbrev Cj:=@Array.length_toList
abbrev Ck:=@List.length_pos_iff
abbrev Cl:=@List.replicate_zero
abbrev Cm:=@UInt8.toNat_inj
abbrev Cn:=@Nat.two_pow_pos
abbrev Co:=@Nat.add_sub_cancel
abbrev Cp:=@Array.foldl_toList
abbrev Cq:=@Nat.mul_comm
abbrev Cr:=@Nat.zero_mul
abbrev Cs:=@List.map_map
abbrev Ct:=@List.set_cons_succ
abbrev Cu:=@List.size_toArray
abbrev Cv:=@List.filter_congr
abbrev Cw:=@List.foldl_append
abbrev Cx:=@List.take_add
abbrev Cy:=@Int.ofNat_inj
abbrev Cz:=@List.nodup_range
abbrev CA:=@Nat.lt_succ_self
abbrev CB:=@List.isEmpty_nil
abbrev CC:=@Int.ediv_le_self
abbrev CD:=@List.drop_append
abbrev CE:=@Nat.sub_zero
abbrev CF:=@List.all_nil
variable {α:Type _}
theorem C9(a b : α) : (some a=some b)=(a=b):=BF a b
variable {β:Type _}
theorem DA{x : Option α}{f : α→β}{b : β} : Option.map f x=some b↔∃ a, x=some a∧f a=b:=Option.map_eq_some_iff
theorem Dr(a : α)(b : β)(c : α)(d : β) : ((a, b)=(c, d))=(a=c∧b=d):=Prod.mk.injEq a b c d
inductive D where
 |int (k:IntKind) (n:Int)
 |bool (b:Bool)
 |str (s:List UInt8)
 |slc (sz:Nat) (els:List D) (tight:Bool)
 |row (key tot off len:Nat)
 |bsl (key off n sz:Nat) (ag:Bool)
 |ptr (key off:Nat)
 |rptr (key tot i off:Nat)
 |eptr (el:D) (off:Nat)
 |agg (cells:List D)
 |tup (vs:List D)
 |clo (f:Nat) (caps:List D)
 |nilf
 |nilp
 /-- a map in the store -/
 |mapv (key:Nat)
 |nilm
 /-- a table of functions,by integers,that nobody changes -/
 |gmap (es:List (Int×Nat))
 |junk
 deriving Inhabited
namespace D
def cells:D→List D
 |.agg l=>l
 |d=>[d]
def isCell:D→Bool
 |.agg _ | .tup _ | .junk=>false
 |_=>true
def mk(ag:Bool)(cs:List D):D:=if ag then .agg cs else cs.headD .junk
def pure1:D→Bool
 |.int _ _ | .bool _ | .str _ | .slc _ _ _ | .clo _ [] | .nilf | .nilp | .nilm | .gmap _=>true
 |_=>false
def noRef1:D→Bool
 |.int _ _ | .bool _ | .str _=>true
 |_=>false
def noRef:D→Bool
 |.agg l=>l.all noRef1
 |.tup l=>l.all fun d=>match d with | .agg l=>l.all noRef1 | d=>noRef1 d
 |d=>noRef1 d
end D
def Da(b:UInt8):D:=.int .u8 (b.toNat:Int)
structure Obj where
 row:Bool
 sz:Nat
 els:List D
 lent:Bool
 deriving Inhabited
abbrev St:=List Obj
def Obj.isMap(o:Obj):Bool:=!o.row && decide (1<o.sz)
def FE(sz:Nat):D→D
 |.agg l=>.mk (sz != 2) (l.take (sz - 1))
 |_=>.junk
def Gu(sz:Nat):D→D
 |.agg l=>(l.drop (sz - 1)).headD .junk
 |_=>.junk
def Gy(st:St)(key tot off len:Nat):Option (Nat×List D):=
 match st[key]? with
 |some o=>if o.row && o.els.length == tot && decide (off+len≤tot)then some (o.sz,(o.els.drop off).take len)else none
 |none=>none
def Hy(sz:Nat)(ag:Bool)(cs:List D):Nat→List D
 |0=>[]
 |n+1=>D.mk ag (cs.take sz)::Hy sz ag (cs.drop sz) n
def JI(st:St)(key off n sz:Nat)(ag:Bool):Option (List D):=
 match st[key]? with
 |some o=>if !o.row && decide (off+n*sz≤o.els.length) && decide (0<sz) && (ag || sz == 1)then some (Hy sz ag (o.els.drop off) n)else none
 |none=>none
def nz(sz:Nat)(els:List D):Nat:=if els.isEmpty then 0 else sz
def purA:D→Bool
 |.agg l=>l.all D.pure1
 |d=>d.pure1
def G0(st:St)(key off n sz:Nat)(ag:Bool):Option (List D):=match JI st key off n sz ag with
 |some els=>if els.all purA then some els else none
 |none=>none
def DD(st:St):D→Option D
 |.row key tot off len=>(Gy st key tot off len).map fun p=>.slc (nz p.1 p.2) p.2 false
 |.slc sz els _=>some (.slc (nz sz els) els false)
 |.bsl key off n sz ag=>(G0 st key off n sz ag).map fun els=>.slc (nz sz els) els false
 |d=>if d.pure1 then some d else none
def D3(st:St):List D→Option (List D)
 |[]=>some []
 |d::l=>match DD st d,D3 st l with
  |some x,some y=>some (x::y)
  |_,_=>none
def D4(st:St):D→Option D
 |.agg l=>(D3 st l).map .agg
 |.tup _=>none
 |d=>DD st d
def D2(st:St):List D→Option (List D)
 |[]=>some []
 |d::l=>match D4 st d,D2 st l with
  |some x,some y=>some (x::y)
  |_,_=>none
def Fp:D→List Nat
 |.row key _ _ _=>[key]
 |.bsl key _ _ _ _=>[key]
 |_=>[]
def keys:D→List Nat
 |.agg l=>l.flatMap Fp
 |d=>Fp d
def lend(ks:List Nat)(st:St):St:=
 match ks with
 |[]=>st
 |k::r=>lend r (st.modify k fun o=>{o with lent:=true})
def purR:D→Bool
 |.tup l=>l.all purA
 |d=>purA d
def Gc(st:St):D→Option (Nat×List D)
 |.slc sz els _=>some (sz,els)
 |.row key tot off len=>Gy st key tot off len
 |.bsl key off n sz ag=>match JI st key off n sz ag with
  |some els=>if els.all purA then some (sz,els)else none
  |none=>none
 |.str s=>some (1,s.map Da)
 |_=>none
def Eu(st:St)(key tot:Nat):Bool:=
 match st[key]? with
 |some o=>o.row && o.els.length == tot
 |none=>false
def I0:D→Bool
 |.str _=>true
 |_=>false
def Fa(st:St):D→Option Nat
 |.slc _ els _=>some els.length
 |.row key tot _ len=>if Eu st key tot then some len else none
 |.bsl _ _ n _ _=>some n
 |.str s=>some s.length
 |_=>none
inductive PA where
 |s (n:Nat)
 |c (d:D)
 |g (n:Nat)
 deriving Inhabited
inductive PConv where
 |int (k:IntKind)
 |bytes
 |str
 |same
 deriving Inhabited
inductive POp where
 |mov (x:PA)
 |pick (c x y:PA)
 |box (x:PA)
 |bld (zero:List D) (parts:List (Nat×Nat×PA))
 |bslc (sz:Nat) (parts:List PA)
 |load (n:Nat) (ag:Bool) (p:PA)
 |stor (n:Nat) (p x:PA)
 |nilc (x:PA)
 |bin (op:BinOp) (x y:PA)
 |beq (neg:Bool) (x y:PA)
 |aeq (ks:List Nat) (neg:Bool) (x y:PA)
 |un (op:UnOp) (x:PA)
 |conv (c:PConv) (x:PA)
 |mkslc (sz bytes:Nat) (zero:D) (len cap:PA)
 |slice (sz:Nat) (x:PA) (lo hi mx:Option PA)
 |sliceA (n sz:Nat) (ag:Bool) (x:PA) (lo hi:Option PA)
 |fld (off:Nat) (p:PA)
 |fldv (off n:Nat) (ag:Bool) (x:PA)
 |idxS (sz:Nat) (x i:PA)
 |idxA (n sz:Nat) (p i:PA)
 |idx (x i:PA)
 |idxV (len sz:Nat) (ag:Bool) (x i:PA)
 |len (str:Bool) (x:PA)
 |lenA (n:Nat)
 |app (sz bytes:Nat) (s x:PA)
 |mm (isMax:Bool) (x y:PA)
 |mm3 (isMax:Bool) (x y z:PA)
 |call (f:Nat) (args:List PA)
 |icall (f:Nat) (args:List PA)
 /-- a call of what only makes one new object -/
 |mcall (f:Nat) (args:List PA)
 /-- a call of what only reads the objects of which its arguments speak -/
 |rcall (f:Nat) (args:List PA)
 |callv (x:PA) (args:List PA)
 |mkclo (f:Nat) (caps:List PA)
 |ext (x:PA) (i:Nat)
 |mkmap (sz:Nat)
 |mapup (sz:Nat) (ks:List Nat) (m k v:PA)
 |mapget (sz:Nat) (ks:List Nat) (ok:Bool) (zero:D) (m k:PA)
 /-- copying between parts of arrays in boxes -/
 |cpy (sz:Nat) (d s:PA)
 /-- what is not covered: it comes to nothing -/
 |fail
 deriving Inhabited
def Jd(op:BinOp)(k:IntKind)(x y:Int):Option Int:=
 let a:=CP k.bits x
 let b:=CP k.bits y
 match op with
 |.and=>some (k.wrap (a &&& b).toNat)
 |.or=>some (k.wrap (a ||| b).toNat)
 |.xor=>some (k.wrap (a ^^^ b).toNat)
 |.andNot=>some (k.wrap (a &&& ~~~b).toNat)
 |_=>none
def HK(op:BinOp)(x y:Int):Option Bool:=
 match op with
 |.eql=>some (x == y)
 |.neq=>some (x != y)
 |.lss=>some (decide (x<y))
 |.leq=>some (decide (x≤y))
 |.gtr=>some (decide (x > y))
 |.geq=>some (decide (x ≥ y))
 |_=>none
def Ic(op:BinOp)(k:IntKind)(x y:Int):Option Int:=
 match op with
 |.add=>some (k.wrap (x+y))
 |.sub=>some (k.wrap (x - y))
 |.mul=>some (k.wrap (x*y))
 |.quo=>if y=0 then none else some (k.wrap (x.tdiv y))
 |.rem=>if y=0 then none else some (x.tmod y)
 |_=>none
def J2(op:BinOp)(k:IntKind)(x y:Int):Option Int:=
 if y<0 then none else
 match op with
 |.shl=>some (k.wrap (x*2 ^ (min y.toNat k.bits)))
 |.shr=>some (x.fdiv (2 ^ (min y.toNat k.bits)))
 |_=>none
def Hc:Nat→D→D→Option Bool
 |0,.int k x,.int k' y=>if k=k' then some (x == y)else none
 |1,.bool x,.bool y=>some (x == y)
 |2,.str x,.str y=>some (x == y)
 |_,_,_=>none
def E1:List Nat→List D→List D→Option Bool
 |[],[],[]=>some true
 |q::qs,x::xs,y::ys=>match Hc q x y,E1 qs xs ys with
  |some a,some b=>some (a && b)
  |_,_=>none
 |_,_,_=>none
def Uw(op:BinOp)(x y:List UInt8):Option D:=
 match op with
 |.add=>if x.length+y.length≤4294967296 then some (.str (x++y))else none
 |.eql=>some (.bool (x == y))
 |.neq=>some (.bool !(x == y))
 |.lss=>some (.bool (Op.bytesLess x y))
 |.leq=>some (.bool (Op.bytesLess x y || x == y))
 |.gtr=>some (.bool !(Op.bytesLess x y || x == y))
 |.geq=>some (.bool !(Op.bytesLess x y))
 |_=>none
def Dj(op:BinOp)(x y:D):Option D:=
 match x,y with
 |.int k a,.int k' b=>
  match op with
  |.shl | .shr=>(J2 op k a b).map (.int k)
  |_=>if k=k' then
    match op with
    |.add | .sub | .mul | .quo | .rem=>(Ic op k a b).map (.int k)
    |.and | .or | .xor | .andNot=>(Jd op k a b).map (.int k)
    |_=>(HK op a b).map .bool
   else none
 |.str a,.str b=>Uw op a b
 |_,_=>none
def Lc(neg:Bool)(x y:D):Option D:=
 match x,y with
 |.bool a,.bool b=>some (.bool ((a == b) != neg))
 |_,_=>none
def Iq(ks:List Nat)(neg:Bool)(x y:D):Option D:=
 match x,y with
 |.agg xs,.agg ys=>(E1 ks xs ys).map fun b=>.bool (b != neg)
 |_,_=>none
def G4(sz:Nat)(ks:List Nat)(x y:D):Option Bool:=
 if sz=2 then match ks with
  |[q]=>Hc q x y
  |_=>none
 else match x,y with
  |.agg xs,.agg ys=>E1 ks xs ys
  |_,_=>none
def Jg(sz:Nat)(ks:List Nat)(k:D):List D→Nat→Option (Option Nat)
 |[],_=>some none
 |el::r,i=>match G4 sz ks k (FE sz el)with
  |some true=>some (some i)
  |some false=>Jg sz ks k r (i+1)
  |none=>none
def FY(n:Int):List (Int×Nat)→Option Nat
 |[]=>none
 |p::r=>if p.1=n then some p.2 else FY n r
def Hw(st:St)(sz:Nat)(ks:List Nat)(ok:Bool)(zero m k:D):Option D:=
 match m with
 |.mapv key=>match st[key]? with
  |some o=>if o.isMap && o.sz == sz && (G4 sz ks k k).isSome then match Jg sz ks k o.els 0 with
    |some (some i)=>match o.els[i]? with
     |some el=>some (if ok then .tup [Gu sz el,.bool true]else Gu sz el)
     |none=>none
    |some none=>some (if ok then .tup [zero,.bool false]else zero)
    |none=>none
   else none
  |none=>none
 |.gmap es=>if sz=0 then match k with
   |.int .i64 n=>some (match FY n es with
    |some f=>if ok then .tup [.agg [.clo f []],.bool true]else .agg [.clo f []]
    |none=>if ok then .tup [zero,.bool false]else zero)
   |_=>none
  else none
 |_=>none
def Nj(st:St)(sz:Nat)(ks:List Nat)(m k v:D):Option St:=
 match m with
 |.mapv key=>match st[key]? with
  |some o=>if o.isMap && o.sz == sz && !o.lent && v.isCell && k.cells.length+1 == sz && k.cells.all D.isCell && G4 sz ks k k == some true then match Jg sz ks k o.els 0 with
    |some (some i)=>some (st.set key {o with els:=o.els.set i (.agg (k.cells++[v]))})
    |some none=>some (st.set key {o with els:=o.els++[.agg (k.cells++[v])]})
    |none=>none
   else none
  |none=>none
 |_=>none
def IS(op:UnOp)(x:D):Option D:=
 match op,x with
 |.neg,.int k n=>some (.int k (k.wrap (0 - n)))
 |.xor,.int k n=>(Jd .xor k (if k.signed then -1 else k.max) n).map (.int k)
 |.not,.bool b=>some (.bool !b)
 |_,_=>none
def Py:D→Option UInt8
 |.int .u8 n=>if 0≤n∧n<256 then some (UInt8.ofNat n.toNat)else none
 |_=>none
def Mk:List D→Option (List UInt8)
 |[]=>some []
 |d::l=>match Py d,Mk l with
  |some x,some y=>some (x::y)
  |_,_=>none
def E0(st:St)(c:PConv)(x:D):Option D:=
 match c,x with
 |.int k,.int _ n=>some (.int k (k.wrap n))
 |.bytes,.str s=>some (.slc 1 (s.map Da) false)
 |.str,.slc sz els _=>if sz == 1 || els.isEmpty then(Mk els).map .str else none
 |.str,.row key tot off len=>match Gy st key tot off len with
  |some (sz,els)=>if sz == 1 then(Mk els).map .str else none
  |none=>none
 |.same,.str s=>some (.str s)
 |_,_=>none
def Fj:D→Option Nat
 |.int _ n=>if 0≤n then some n.toNat else none
 |_=>none
def FJ(d:Option D)(dflt:Nat):Option Nat:=
 match d with
 |some x=>Fj x
 |none=>some dflt
def FX(st:St)(sz:Nat)(x:D)(lo hi mx:Option D):Option D:=
 match x with
 |.str s=>
  match mx,FJ lo 0,FJ hi s.length with
  |none,some l,some h=>if sz=0∧l≤h∧h≤s.length then some (.str ((s.take h).drop l))else none
  |_,_,_=>none
 |.slc sz' els t=>
  if(sz' == sz || els.isEmpty) && sz != 0 then
   match FJ lo 0,FJ hi els.length with
   |some l,some h=>
    match mx with
    |none=>if l≤h∧h≤els.length then some (.slc sz' ((els.take h).drop l) (t && h == els.length))else none
    |some m=>if l≤h∧h≤els.length∧Fj m=some h∧hi.isSome=true then some (.slc sz' ((els.take h).drop l) true)else none
   |_,_=>none
  else none
 |.row key tot off len=>
  match st[key]? with
  |some o=>
   if o.row && o.sz == sz && o.els.length == tot && sz != 0 then
    match mx,FJ lo 0,FJ hi len with
    |none,some l,some h=>
     if l≤h∧h≤len then
      if l=0∧h=len then some x
      else if l=h then some (.slc sz [] false)
      else some (.row key tot (off+l) (h - l))
     else none
    |_,_,_=>none
   else none
  |none=>none
 |_=>none
def Nu(n sz:Nat)(ag:Bool)(x:D)(lo hi:Option D):Option D:=
 match FJ lo 0,FJ hi n with
 |some l,some h=>
  if l≤h∧h≤n then
   match x with
   |.ptr key off=>if l=h then some (.slc sz [] false)else some (.bsl key (off+l*sz) (h - l) sz ag)
   |.eptr el off=>if l=h then some (.slc sz [] false)else
    if decide (off+n*sz≤el.cells.length) && decide (0<sz) && (ag || sz == 1)then some (.slc sz (Hy sz ag (el.cells.drop (off+l*sz)) (h - l)) (h == n))else none
   |_=>none
  else none
 |_,_=>none
def F0(l:List D)(off:Nat)(xs:List D):List D:=l.take off++xs++l.drop (off+xs.length)
def EU(st:St)(n:Nat)(ag:Bool)(p:D):Option D:=
 if !ag && n != 1 then none else
 match p with
 |.ptr key off=>
  match st[key]? with
  |some o=>if !o.row && decide (off+n≤o.els.length)then some (.mk ag ((o.els.drop off).take n))else none
  |none=>none
 |.rptr key tot i off=>
  match st[key]? with
  |some o=>if o.row && o.els.length == tot then
    match o.els[i]? with
    |some el=>if off+n≤el.cells.length then some (.mk ag ((el.cells.drop off).take n))else none
    |none=>none
   else none
  |none=>none
 |.eptr el off=>if off+n≤el.cells.length then some (.mk ag ((el.cells.drop off).take n))else none
 |_=>none
def Pv(el:D)(off:Nat)(ys:List D):Option D:=
 match el with
 |.agg l=>if off+ys.length≤l.length then some (.agg (F0 l off ys))else none
 |_=>match off,ys with
  |0,[z]=>some z
  |_,_=>none
def JZ(st:St)(n:Nat)(p x:D):Option St:=
 match p with
 |.ptr key off=>
  match st[key]? with
  |some o=>
   if !o.row && !o.lent && decide (off+n≤o.els.length) && x.cells.length == n && x.cells.all D.isCell then
    some (st.set key {o with els:=F0 o.els off x.cells})
   else none
  |none=>none
 |.rptr key tot i off=>
  match st[key]?,D4 st x with
  |some o,some y=>
   if o.row && !o.lent && o.els.length == tot && (keys x).isEmpty then
    match o.els[i]? with
    |some el=>
     match Pv el off y.cells with
     |some el'=>if y.cells.length=n then some (st.set key {o with els:=o.els.set i el'})else none
     |none=>none
    |none=>none
   else none
  |_,_=>none
 |_=>none
def Pq(st:St)(sz key tot off len:Nat)(s:D):Option (D×St):=
 match st[key]?,Gc st s with
 |some o,some (sz2,xs)=>if o.row && !o.lent && o.els.length == tot && o.sz == 1 && sz == 1 && (sz2 == 1 || xs.isEmpty) && decide (off+len≤tot) && !I0 s && decide (0<min len xs.length)then
   some (.int .i64 (min len xs.length:Nat),st.set key {o with els:=F0 o.els off (xs.take (min len xs.length))})else none
 |_,_=>none
def Ip(st:St)(sz:Nat)(d s:D):Option (D×St):=
 match d,s with
 |.bsl key off n sz1 _,.bsl key2 off2 n2 sz2 _=>if n=0∨n2=0∨sz1≠sz∨sz2≠sz∨sz=0 then none else
  match st[key]?,st[key2]? with
  |some o,some o2=>if !o.row && !o.lent && !o2.row && decide (off+min n n2*sz≤o.els.length) && decide (off2+min n n2*sz≤o2.els.length) && ((o2.els.drop off2).take (min n n2*sz)).all D.isCell then
    some (.int .i64 (min n n2:Nat),st.set key {o with els:=F0 o.els off ((o2.els.drop off2).take (min n n2*sz))})
   else none
  |_,_=>none
 |.slc _ [] _,.bsl _ _ _ _ _ | .bsl _ _ _ _ _,.slc _ [] _ | .slc _ [] _,.slc _ [] _=>some (.int .i64 0,st)
 |.row key tot off len,s=>Pq st sz key tot off len s
 |_,_=>none
def DR(st:St)(sz bytes:Nat)(s x:D):Option (D×St):=
 match Gc st x with
 |none=>none
 |some (szx,xs)=>
  if !(szx == sz || xs.isEmpty) || sz == 0 then none else
  match s with
  |.row key tot off len=>
   match st[key]? with
   |some o=>
    if o.row && o.sz == sz && o.els.length == tot && off == 0 && len == tot && decide ((tot+xs.length)*bytes≤140737488355328) && decide (tot+xs.length≤4294967296)then
     some (.row key (tot+xs.length) 0 (tot+xs.length),st.set key {o with els:=o.els++xs})
    else none
   |none=>none
  |.slc sz' els true=>
   if xs.isEmpty then some (.slc sz' els true,st)
   else if(sz' == sz || els.isEmpty) && decide ((els.length+xs.length)*bytes≤140737488355328) && decide (els.length+xs.length≤4294967296)then
    some (.row st.length (els.length+xs.length) 0 (els.length+xs.length),st++[{row:=true,sz,els:=els++xs,lent:=false}])
   else none
  |_=>none
def Fy(st:St)(sz:Nat)(x i:D):Option D:=
 match Fj i with
 |none=>none
 |some j=>
  match x with
  |.slc sz' els _=>match els[j]? with
   |some el=>if sz' == sz then some (.eptr el 0)else none
   |none=>none
  |.row key tot off len=>match st[key]? with
   |some o=>if o.row && o.sz == sz && o.els.length == tot && decide (j<len)then some (.rptr key tot (off+j) 0)else none
   |none=>none
  |.bsl key off n sz' _=>if j<n∧sz'=sz then some (.ptr key (off+j*sz))else none
  |_=>none
def EK(st:St)(off:Nat):D→Option D
 |.ptr key o=>some (.ptr key (o+off))
 |.rptr key tot i o=>if Eu st key tot then some (.rptr key tot i (o+off))else none
 |.eptr el o=>some (.eptr el (o+off))
 |_=>none
def GS(st:St)(n sz:Nat)(p i:D):Option D:=
 match Fj i with
 |none=>none
 |some j=>if j<n then EK st (j*sz) p else none
def M0(x i:D):Option D:=
 match x,Fj i with
 |.str s,some j=>match s[j]? with
  |some b=>some (Da b)
  |none=>none
 |_,_=>none
def JY(off n:Nat)(ag:Bool)(x:D):Option D:=
 match x with
 |.agg cs=>if decide (off+n≤cs.length) && (ag || n == 1)then some (.mk ag ((cs.drop off).take n))else none
 |_=>none
def L1(len sz:Nat)(ag:Bool)(x i:D):Option D:=
 match Fj i with
 |some j=>if j<len then JY (j*sz) sz ag x else none
 |none=>none
def Fi:List D→List (Nat×Nat×D)→Option (List D)
 |cs,[]=>some cs
 |cs,(off,size,d)::r=>
  if d.cells.length == size && decide (off+size≤cs.length) && d.cells.all D.isCell then Fi (F0 cs off d.cells) r else none
def lg{α β:Type}(f:α→β):Option α→Option β
 |some x=>some (f x)
 |none=>none
def FU:D→List Nat
 |.row k _ _ _ | .bsl k _ _ _ _ | .ptr k _ | .rptr k _ _ _ | .mapv k=>[k]
 |_=>[]
def Dt:D→List Nat
 |.clo _ l=>l.flatMap FU
 |d=>FU d
def hk:D→List Nat
 |.agg l=>l.flatMap Dt
 |d=>Dt d
def Obj.see(o:Obj):Bool×Nat×List D:=(o.row,o.sz,o.els)
def Gg(st:St):List Nat→List (Option (Bool×Nat×List D))
 |[]=>[]
 |k::l=>(st[k]?).map Obj.see::Gg st l
def G8(sp:List D→List (Option (Bool×Nat×List D))→Option D)(ds:List D)(st:St):Option D:=
 if(ds.flatMap hk).all (fun k=>(st[k]?).isSome)then sp ds (Gg st (ds.flatMap hk))else none
structure Tbl where
 /-- what is told of it: from arguments without handles to a result without handles -/
 p:Nat→Option (List D→Option D)
 /-- carried out over the caller's own store -/
 i:Nat→Option (List D→St→Option (D×St))
 /-- what makes one new object,and does no more -/
 m:Nat→Option (List D→Option ((Nat→D)×(Nat→List Obj)))
 /-- what a round of the loop l does to the store -/
 y:Nat→List D→St→Option (D×St):=fun _ _ _=>none
 /-- functions that are ranged over -/
 r:Nat→Option ((List D→St→Option (D×St))→List D→St→Option (D×St)):=fun _=>none
 /-- functions that panic: with which value,of which type,and the store behind it -/
 x:Nat→Option (List D→St→Option (Nat×D×St)):=fun _=>none
 /-- functions that only read -/
 q:Nat→Option (List D→List (Option (Bool×Nat×List D))→Option D):=fun _=>none
abbrev Dh:=Nat→Option D
def Kh(isMax:Bool)(a b:Int):Int:=if isMax then(if b > a then b else a)else(if b<a then b else a)
def POp.exec(T:Tbl)(ρ:PA→D)(st:St):POp→Option (D×St)
 |.mov x=>some (ρ x,st)
 |.pick c x y=>match ρ c with
  |.bool b=>some (if b then ρ x else ρ y,st)
  |_=>none
 |.box x=>if(ρ x).cells.all D.isCell then some (.ptr st.length 0,st++[{row:=false,sz:=1,els:=(ρ x).cells,lent:=false}])else none
 |.bld zero parts=>(Fi zero (parts.map fun p=>(p.1,p.2.1,ρ p.2.2))).map fun cs=>(.agg cs,st)
 |.bslc sz parts=>match D2 st (parts.map ρ)with
  |some els=>if(els.all fun e=>e.cells.length == sz) && decide (0<sz) && decide (els.length*sz≤16777216)then some (.slc sz els true,lend ((parts.map ρ).flatMap keys) st)else none
  |none=>none
 |.load n ag p=>(EU st n ag (ρ p)).map (·,st)
 |.stor n p x=>(JZ st n (ρ p) (ρ x)).map (.tup [],·)
 |.nilc x=>match ρ x with
  |.ptr _ _ | .eptr _ _=>some (ρ x,st)
  |.rptr key tot _ _=>if Eu st key tot then some (ρ x,st)else none
  |_=>none
 |.bin op x y=>(Dj op (ρ x) (ρ y)).map (·,st)
 |.beq neg x y=>(Lc neg (ρ x) (ρ y)).map (·,st)
 |.aeq ks neg x y=>(Iq ks neg (ρ x) (ρ y)).map (·,st)
 |.un op x=>(IS op (ρ x)).map (·,st)
 |.conv c x=>(E0 st c (ρ x)).map (·,st)
 |.mkslc sz bytes zero ln cp=>match Fj (ρ ln),Fj (ρ cp)with
  |some l,some c=>if l≤c∧c≤4294967296∧c*bytes≤140737488355328∧0<sz∧zero.cells.length=sz∧zero.cells.all D.pure1=true then
    some (.row st.length l 0 l,st++[{row:=true,sz,els:=CM l zero,lent:=false}])else none
  |_,_=>none
 |.slice sz x lo hi mx=>(FX st sz (ρ x) (lo.map ρ) (hi.map ρ) (mx.map ρ)).map (·,st)
 |.sliceA n sz ag x lo hi=>(Nu n sz ag (ρ x) (lo.map ρ) (hi.map ρ)).map (·,st)
 |.fld off p=>(EK st off (ρ p)).map (·,st)
 |.fldv off n ag x=>(JY off n ag (ρ x)).map (·,st)
 |.idxS sz x i=>(Fy st sz (ρ x) (ρ i)).map (·,st)
 |.idxA n sz p i=>(GS st n sz (ρ p) (ρ i)).map (·,st)
 |.idx x i=>(M0 (ρ x) (ρ i)).map (·,st)
 |.idxV ln sz ag x i=>(L1 ln sz ag (ρ x) (ρ i)).map (·,st)
 |.len str x=>if I0 (ρ x) == str then(Fa st (ρ x)).map fun(n:Nat)=>(D.int .i64 (n:Int),st)else none
 |.lenA n=>some (.int .i64 (n:Int),st)
 |.app sz bytes s x=>DR st sz bytes (ρ s) (ρ x)
 |.mm isMax x y=>match ρ x,ρ y with
  |.int k a,.int _ b=>some (.int k (if isMax then(if b > a then b else a)else(if b<a then b else a)),st)
  |_,_=>none
 |.mm3 isMax x y z=>match ρ x,ρ y,ρ z with
  |.int k a,.int _ b,.int _ c=>some (.int k (Kh isMax (Kh isMax a b) c),st)
  |_,_,_=>none
 |.rcall f args=>match T.q f with
  |some sp=>(G8 sp (args.map ρ) st).map (·,st)
  |none=>none
 |.icall f args=>match T.i f with
  |some sp=>sp (args.map ρ) st
  |none=>none
 |.mcall f args=>match T.m f with
  |some sp=>match sp (args.map ρ)with
   |some r=>some (r.1 st.length,st++r.2 st.length)
   |none=>none
  |none=>none
 |.callv x args=>match ρ x with
  |.clo f caps=>if f<5000000 then match T.i f with
    |some sp=>sp (args.map ρ++caps) st
    |none=>none
   else if f<10000000 then match T.i (f - 5000000)with
    |some sp=>sp (caps++args.map ρ) st
    |none=>none
   else if caps.isEmpty then T.y (f - 10000000) (args.map ρ) st else none
  |_=>none
 |.mkclo f caps=>some (.clo f (caps.map ρ),st)
 |.call f args=>match T.p f,D2 st (args.map ρ)with
  |some sp,some vs=>match sp vs with
   |some r=>some (r,if r.noRef then st else lend ((args.map ρ).flatMap keys) st)
   |none=>none
  |_,_=>none
 |.ext x i=>match ρ x with
  |.tup vs=>(vs[i]?).map (·,st)
  |_=>none
 |.mkmap sz=>if 1<sz∧sz≠1000003 then some (.mapv st.length,st++[{row:=false,sz,els:=[],lent:=false}])else none
 |.mapup sz ks m k v=>(Nj st sz ks (ρ m) (ρ k) (ρ v)).map (.tup [],·)
 |.mapget sz ks ok zero m k=>(Hw st sz ks ok zero (ρ m) (ρ k)).map (·,st)
 |.cpy sz d s=>Ip st sz (ρ d) (ρ s)
 |.fail=>none
structure Foot where
 rd:List Nat
 wr:List Nat
 nu:Option Nat
 deriving Inhabited
def Gj{α:Type}:Option α→List α
 |some x=>[x]
 |none=>[]
def POp.args:POp→List PA
 |.mov x | .box x | .nilc x | .un _ x | .conv _ x | .fld _ x | .fldv _ _ _ x | .len _ x | .ext x _ | .load _ _ x=>[x]
 |.pick c x y=>[c,x,y]
 |.bld _ parts=>parts.map fun p=>p.2.2
 |.bslc _ parts=>parts
 |.stor _ p x=>[p,x]
 |.bin _ x y | .beq _ x y | .aeq _ _ x y | .mm _ x y | .app _ _ x y=>[x,y]
 |.mkslc _ _ _ l c=>[l,c]
 |.slice _ x lo hi mx=>x::(Gj lo++Gj hi++Gj mx)
 |.sliceA _ _ _ x lo hi=>x::(Gj lo++Gj hi)
 |.idxS _ x i | .idxA _ _ x i | .idx x i | .idxV _ _ _ x i=>[x,i]
 |.lenA _ | .fail | .mkmap _=>[]
 |.mapup _ _ m k v=>[m,k,v]
 |.mapget _ _ _ _ m k=>[m,k]
 |.cpy _ d s=>[d,s]
 |.mm3 _ x y z=>[x,y,z]
 |.call _ args | .icall _ args | .mcall _ args | .rcall _ args | .mkclo _ args=>args
 |.callv x args=>x::args
def Jy:D→List Nat
 |.rptr k _ _ _=>[k]
 |_=>[]
def FF:D→Nat→Option Nat
 |.slc _ [] _,_=>none
 |_,n=>some n
def POp.foot(ρ:PA→D)(st:St):POp→Option Foot
 |.stor _ p x=>some ⟨hk (ρ x),hk (ρ p),none⟩
 |.box _ | .mkslc _ _ _ _ _=>some ⟨[],[],some st.length⟩
 |.app _ _ s x=>match ρ s with
  |.row key _ _ _=>some ⟨hk (ρ x),[key],none⟩
  |_=>some ⟨hk (ρ x),[],FF (ρ x) st.length⟩
 |.mcall _ _=>some ⟨[],[],some st.length⟩
 |.icall _ _ | .callv _ _ | .mkmap _ | .mapup _ _ _ _ _ | .cpy _ _ _ | .fail=>none
 |.fld _ x | .nilc x | .idxA _ _ x _=>some ⟨Jy (ρ x),[],none⟩
 |p=>some ⟨(p.args.map ρ).flatMap hk,[],none⟩
def GM(a b:List Nat):Bool:=a.all fun k=>!b.contains k
def IY(m:Option Nat)(a:List Nat):Bool:=match m with
 |some n=>a.all fun k=>decide (k<n)
 |none=>true
def Foot.ok(f g:Foot):Bool:=GM g.wr f.rd && GM g.wr f.wr && GM f.wr g.rd && IY f.nu g.rd && IY f.nu g.wr && IY g.nu f.rd && IY g.nu f.wr && (f.nu.isNone || g.nu.isNone)
def ZQ:Option (Option Foot)→Option Foot→Bool
 |some (some f),some g=>f.ok g
 |_,_=>false
def KH(fs:List (Option Foot))(g:Option Foot):List Nat→Bool
 |[]=>true
 |j::r=>ZQ fs[j]? g && KH fs g r
def Lk:Foot:=⟨[],[],none⟩
abbrev Frame:=Nat→D
def Frame.set(fr:Frame)(s:Nat)(d:D):Frame:=fun t=>if t=s then d else fr t
def Frame.put(fr:Frame)(s:Option Nat)(d:D):Frame:=match s with
 |some s=>fr.set s d
 |none=>fr
structure PS where
 fr:Frame
 st:St
structure PI where
 dst:Option Nat
 op:POp
 guard:Option (Nat×Bool):=none
 deriving Inhabited
def Dn(G:Dh)(fr:Frame):PA→D
 |.s n=>fr n
 |.c d=>d
 |.g n=>match G n with
  |some d=>.eptr d 0
  |none=>.junk
def PI.wanted(fr:Frame)(i:PI):Option Bool:=
 match i.guard with
 |none=>some true
 |some (s,want)=>match fr s with
  |.bool b=>some (b == want)
  |.tup []=>some false
  |_=>none
def PI.exec(G:Dh)(T:Tbl)(i:PI)(s:PS):Option PS:=
 match i.wanted s.fr with
 |none=>none
 |some false=>some {s with fr:=s.fr.put i.dst (.tup [])}
 |some true=>match i.op.exec T (Dn G s.fr) s.st with
  |some (d,st)=>some {fr:=s.fr.put i.dst d,st}
  |none=>none
def Ft(G:Dh)(T:Tbl):List PI→PS→Option PS
 |[],s=>some s
 |i::l,s=>match i.exec G T s with
  |some s'=>Ft G T l s'
  |none=>none
def PI.foot(G:Dh)(i:PI)(s:PS):Option Foot:=match i.wanted s.fr with
 |some true=>i.op.foot (Dn G s.fr) s.st
 |_=>some Lk
def Gk(G:Dh)(T:Tbl):List (PI×Bool×List Nat)→List (Option Foot)→PS→Option PS
 |[],_,s=>some s
 |(i,b,cs)::l,fs,s=>if KH fs (i.foot G s) cs then
   match i.exec G T s with
   |some s'=>Gk G T l (fs++[if b then i.foot G s else none]) s'
   |none=>none
  else none
inductive Ex where
 |next
 |exit (id:Nat)
 |ret
 |panic (t:Nat) (d:D)
inductive PC where
 |skip
 |ops (l:List PI)
 /-- in any order: for each instruction,whether what it touches is asked for later,and the earlier ones that it is held against -/
 |any (l:List (PI×Bool×List Nat))
 /-- in any order,two of them making an object each: both orders of these two; what is kept behind,and that it is the same -/
 |any2 (keep:List Nat) (l1 l2:List (PI×Bool×List Nat))
 |seq (a b:PC)
 |cond (c:PA) (a b:PC)
 |block (id:Nat) (c:PC)
 |loop (keep:List Nat) (c:PC)
 /-- a loop at whose head all objects are kept -/
 |loopA (keep:List Nat) (c:PC)
 /-- a range over a function: its parameters' slots,what is assigned and what is done in a round -/
 |range (x:PA) (ps:List Nat) (a b:PC)
 /-- a region in which a call may panic -/
 |opsX (l:List PI)
 /-- a region at whose end there is a panic: with a value that is made an interface's -/
 |pan (l:List PI) (d1 t:Nat) (x:PA)
 /-- either will do -/
 |alt (a b:PC)
 |exit (id:Nat)
 |ret
 |fail
 deriving Inhabited
def Gr(n:Nat):D→D
 |.row key tot off len=>if key<n then .row key tot off len else .junk
 |.bsl key off m sz ag=>if key<n then .bsl key off m sz ag else .junk
 |.ptr key off=>if key<n then .ptr key off else .junk
 |.rptr key tot i off=>if key<n then .rptr key tot i off else .junk
 |.mapv key=>if key<n then .mapv key else .junk
 |.agg _ | .tup _ | .clo _ _=>.junk
 |d=>d
def F5(n:Nat):D→D
 |.clo f l=>.clo f (l.map (Gr n))
 |d=>Gr n d
def Gs(n:Nat):D→D
 |.agg l=>.agg (l.map (F5 n))
 |.tup _=>.junk
 |d=>F5 n d
def Fu:List (Nat×D)→Frame
 |[],_=>.junk
 |(s,d)::r,t=>if t=s then d else Fu r t
def Et(lo hi:Nat):List Nat→List Nat→List Nat
 |[],acc=>acc
 |k::r,acc=>Et lo hi r (if lo≤k∧k<hi∧acc.contains k=false then acc++[k]else acc)
def L2:List Nat→Nat→Nat→Option Nat
 |[],_,_=>none
 |k::r,b,key=>if key=k then some b else L2 r (b+1) key
def ED(n:Nat)(σ:List Nat)(key:Nat):Option Nat:=if key<n then some key else L2 σ n key
def HX(f:Nat→D):Option Nat→D
 |some k=>f k
 |none=>.junk
def Gi(n:Nat)(σ:List Nat):D→D
 |.row key tot off len=>HX (fun k=>.row k tot off len) (ED n σ key)
 |.bsl key off m sz ag=>HX (fun k=>.bsl k off m sz ag) (ED n σ key)
 |.ptr key off=>HX (fun k=>.ptr k off) (ED n σ key)
 |.rptr key tot i off=>HX (fun k=>.rptr k tot i off) (ED n σ key)
 |.mapv key=>HX .mapv (ED n σ key)
 |.agg _ | .tup _ | .clo _ _=>.junk
 |d=>d
def Ep(n:Nat)(σ:List Nat):D→D
 |.clo f l=>.clo f (l.map (Gi n σ))
 |d=>Gi n σ d
def Eo(n:Nat)(σ:List Nat):D→D
 |.agg l=>.agg (l.map (Ep n σ))
 |.tup _=>.junk
 |d=>Ep n σ d
def EJ(n:Nat)(σ:List Nat)(o:Obj):Obj:={o with els:=if o.row then o.els else o.els.map (Eo n σ)}
def picked(n:Nat)(σ:List Nat)(st:St):St:=(st.take n).map (EJ n σ)++σ.map fun k=>EJ n σ (st.getD k default)
def PE(keep:List Nat)(n:Nat)(s:PS):List Nat:=
 (keep.flatMap fun k=>hk (s.fr k))++(s.st.take n).flatMap fun o=>if o.row then []else o.els.flatMap hk
def restrictAt(keep:List Nat)(n:Nat)(σ:List Nat)(s:PS):PS:=
 {fr:=Fu (keep.map fun k=>(k,Eo n σ (s.fr k))),st:=picked n σ s.st}
def restrict(keep:List Nat)(n:Nat)(s:PS):PS:=
 restrictAt keep (if n≤s.st.length then n else s.st.length) (Et (if n≤s.st.length then n else s.st.length) s.st.length (PE keep (if n≤s.st.length then n else s.st.length) s) []) s
def H6(body:PS→Option (Ex×PS))(cut:PS→PS):Nat→PS→Option (Ex×PS)
 |0,_=>none
 |n+1,s=>match body (cut s)with
  |some (.next,s')=>H6 body cut n s'
  |some (e,s')=>some (e,s')
  |none=>none
noncomputable def VH(keep:List Nat)(n:Nat)(s1 s2:PS):Option PS:=
 @ite _ (s1.st.length=n+2∧s2.st.length=n+2∧restrictAt keep n [n+1,n] s2=restrictAt keep n [n,n+1] s1) (Classical.propDecidable _) (some (restrictAt keep n [n,n+1] s1)) none
def HG(fr:Frame):List Nat→List D→Frame
 |p::ps,d::ds=>HG (fr.put (some p) d) ps ds
 |_,_=>fr
def recO(n:Int):Obj:=⟨false,1000003,[.int .i64 n],false⟩
def recAt(st:St)(k:Nat):Option Int:=match st[k]? with
 |some o=>if !o.row && o.sz == 1000003 then(match o.els with
  |[.int .i64 n]=>some n
  |_=>none)else none
 |none=>none
def Pt(st:St)(k:Nat):Option Ex:=match recAt st k with
 |some n=>if n=0 then some .next else if n=1 then some .ret else none
 |none=>none
def IJ(ea eb:PS→Option (Ex×PS))(fr:Frame)(ps:List Nat)(k:Nat)(ds:List D)(st:St):Option (D×St):=
 if ds.length=ps.length then match ea ⟨HG fr ps ds,st⟩with
  |some (.next,s1)=>if recAt s1.st k=some 0 then match eb ⟨s1.fr,s1.st.set k (recO 2)⟩with
   |some (.next,s2)=>some (.bool true,s2.st.set k (recO 0))
   |some (.ret,s2)=>some (.bool false,s2.st.set k (recO 1))
   |_=>none
   else none
  |_=>none
 else none
def L7(T:Tbl)(l:Nat)(y:List D→St→Option (D×St)):Tbl:={T with y:=fun l' ds st=>if l'=l then y ds st else none}
def OH(T:Tbl)(d:D)(y:List D→St→Option (D×St))(st:St):Option St:=match d with
 |.clo f caps=>if f<5000000 then match T.r f with
   |some sp=>(sp y caps st).map (·.2)
   |none=>none
  else none
 |_=>none
def keepAll(keep:List Nat)(s:PS):PS:=⟨Fu (keep.map fun k=>(k,s.fr k)),s.st⟩
def QS:D→Bool
 |.int _ _=>true
 |_=>false
def K7:D→Bool
 |.agg l=>l.all QS
 |d=>QS d
def POp.callee(ρ:PA→D):POp→Option (Nat×List D)
 |.icall f args=>some (f,args.map ρ)
 |.callv x args=>match ρ x with
  |.clo f caps=>if f<5000000 then some (f,args.map ρ++caps)else if f<10000000 then some (f - 5000000,caps++args.map ρ)else none
  |_=>none
 |_=>none
def POp.execX(T:Tbl)(ρ:PA→D)(st:St)(p:POp):Option (Nat×D×St):=match p.callee ρ with
 |some (f,ds)=>match T.x f with
  |some sp=>sp ds st
  |none=>none
 |none=>none
def PI.execX(G:Dh)(T:Tbl)(i:PI)(s:PS):Option (Nat×D×PS):=match i.wanted s.fr with
 |some true=>(i.op.execX T (Dn G s.fr) s.st).map fun r=>(r.1,r.2.1,⟨s.fr,r.2.2⟩)
 |_=>none
def HW(G:Dh)(T:Tbl):List PI→PS→Option (Nat×D×PS)
 |[],_=>none
 |i::l,s=>match i.exec G T s with
  |some s'=>HW G T l s'
  |none=>i.execX G T s
noncomputable def PC.exec(G:Dh)(T:Tbl)(fuel:Nat):PC→PS→Option (Ex×PS)
 |.skip,s=>some (.next,s)
 |.ops l,s=>match Ft G T l s with
  |some s'=>some (.next,s')
  |none=>none
 |.any l,s=>match Gk G T l [] s with
  |some s'=>some (.next,s')
  |none=>none
 |.any2 keep l1 l2,s=>match Gk G T l1 [] s,Gk G T l2 [] s with
  |some s1,some s2=>(VH keep s.st.length s1 s2).map fun s'=>(.next,s')
  |_,_=>none
 |.seq a b,s=>match a.exec G T fuel s with
  |some (.next,s')=>b.exec G T fuel s'
  |some (e,s')=>some (e,s')
  |none=>none
 |.cond c a b,s=>match Dn G s.fr c with
  |.bool true=>a.exec G T fuel s
  |.bool false=>b.exec G T fuel s
  |_=>none
 |.block id c,s=>match c.exec G T fuel s with
  |some (.exit id',s')=>if id'=id then some (.next,s')else some (.exit id',s')
  |some (e,s')=>some (e,s')
  |none=>none
 |.loop keep c,s=>H6 (c.exec G T fuel) (restrict keep s.st.length) fuel s
 |.loopA keep c,s=>H6 (c.exec G T fuel) (keepAll keep) fuel s
 |.range x ps a b,s=>(OH T (Dn G s.fr x) (IJ (a.exec G T fuel) (b.exec G T fuel) s.fr ps s.st.length) (s.st++[recO 0])).bind fun st'=>(Pt st' s.st.length).map fun e=>(e,⟨s.fr,st'.set s.st.length (recO 2)⟩)
 |.opsX l,s=>match Ft G T l s with
  |some s'=>some (.next,s')
  |none=>(HW G T l s).map fun r=>(.panic r.1 r.2.1,r.2.2)
 |.pan l d1 t x,s=>match Ft G T l s with
  |some s'=>if K7 (Dn G s'.fr x)then some (.panic t (Dn G s'.fr x),⟨s'.fr.set d1 .junk,s'.st⟩)else none
  |none=>none
 |.alt a b,s=>match a.exec G T fuel s with
  |some r=>some r
  |none=>b.exec G T fuel s
 |.exit id,s=>some (.exit id,s)
 |.ret,s=>some (.ret,s)
 |.fail,_=>none
inductive PRes where
 |tmp (t:Nat)
 |cell (t n:Nat) (ag:Bool)
 deriving Inhabited
structure PF where
 code:PC
 res:List PRes
 deriving Inhabited
def PRes.get(s:PS):PRes→Option D
 |.tmp t=>D4 s.st (s.fr t)
 |.cell t n ag=>match EU s.st n ag (s.fr t)with
  |some d=>D4 s.st d
  |none=>none
def Fq(s:PS):List PRes→Option (List D)
 |[]=>some []
 |r::l=>match r.get s,Fq s l with
  |some x,some y=>some (x::y)
  |_,_=>none
def Ea(s:PS):List PRes→Option (List D)
 |[]=>some []
 |.tmp t::l=>(Ea s l).map (s.fr t::·)
 |.cell t n ag::l=>match EU s.st n ag (s.fr t),Ea s l with
  |some x,some y=>some (x::y)
  |_,_=>none
def Db(ds:List D):Frame:=fun s=>ds.getD s .junk
def D1:List D→D
 |[d]=>d
 |ds=>.tup ds
noncomputable def PF.run(G:Dh)(T:Tbl)(F:PF)(fuel:Nat)(ds:List D):Option D:=
 match F.code.exec G T fuel {fr:=Db ds,st:=[]} with
 |some (.next,s) | some (.ret,s)=>(Fq s F.res).map D1
 |_=>none
noncomputable def PF.runI(G:Dh)(T:Tbl)(F:PF)(fuel:Nat)(ds:List D)(st:St):Option (D×St):=
 match F.code.exec G T fuel {fr:=Db ds,st} with
 |some (.next,s) | some (.ret,s)=>(Ea s F.res).map fun l=>(D1 l,s.st)
 |_=>none
structure PFD where
 pre:List PI
 hf:PA
 ha:List PA
 code:PC
 res:List PRes
 deriving Inhabited
abbrev JD:=Nat→Option (Nat→D→List D→St→Option St)
def UN(f:D)(ds:List D):Option (Nat×List D):=match f with
 |.clo f caps=>if f<5000000 then some (f,ds++caps)else none
 |_=>none
noncomputable def PFD.runI(G:Dh)(T:Tbl)(H:JD)(F:PFD)(fuel:Nat)(ds:List D)(st:St):Option (D×St):=
 match Ft G T F.pre {fr:=Db ds,st} with
 |some s1=>match UN (Dn G s1.fr F.hf) (F.ha.map (Dn G s1.fr))with
  |some (f,das)=>match H f with
   |some h=>match F.code.exec G T fuel s1 with
    |some (.next,s) | some (.ret,s)=>(Ea s F.res).map fun l=>(D1 l,s.st)
    |some (.panic t d,s)=>match h t d das s.st with
     |some st3=>(Ea ⟨s.fr,st3⟩ F.res).map fun l=>(D1 l,st3)
     |none=>none
    |_=>none
   |none=>none
  |none=>none
 |none=>none
def GJ(n:Nat):D→D
 |.tup l=>.tup (l.map (Gs n))
 |d=>Gs n d
def cut(k:Nat)(st:St):St:=(st.take k).map fun o=>{o with els:=if o.row then o.els else o.els.map (Gs k)}
def dropped(f:List D→St→Option (D×St))(ds:List D)(st:St):Option (D×St):=
 (f ds st).map fun r=>(GJ st.length r.1,cut st.length r.2)
end Go.Proofs.YtijnglngaogdjaaGreatDoor.PI
namespace Go.Proofs.YtijnglngaogdjaaGreatDoor.PI
open Go Go.RowKit
structure Ghost where
 β:Nat→Nat
 γ:Nat→Nat
 Im:Nat→Nat→Prop
def Ff(els:List D)(i j:Nat):Option D:=match els[i]? with
 |some e=>e.cells[j]?
 |none=>none
def HL(f:Nat):Fn:=if f<5000000 then .func f else if f<10000000 then .func (f - 5000000)else .yield (f - 10000000)
def Ml(f:Nat)(vs:List Value):Array Value:=if 5000000≤f∧f<10000000 then vs.toArray else #[]
def Me(f:Nat)(vs:List Value):Array Value:=if 5000000≤f∧f<10000000 then #[]else vs.toArray
variable {f:Nat}
theorem Oo(h:f<5000000):HL f=.func f:=if_pos h
theorem Wv(h:f<5000000)(vs:List Value):Ml f vs=#[]:=if_neg (by omega)
theorem VV(h:f<5000000)(vs:List Value):Me f vs=vs.toArray:=if_neg (by omega)
theorem SM(f:Nat):Ml f []=#[]:=by unfold Ml; split <;> rfl
theorem Sy(f:Nat):Me f []=#[]:=by unfold Me; split <;> rfl
theorem uD(l:Nat):HL (10000000+l)=.yield l:=by
 unfold HL; rw[if_neg (by omega),if_neg (by omega),Nat.add_sub_cancel_left]
theorem gO(h:f<5000000):HL (f+5000000)=.func f:=by
 unfold HL; rw[if_neg (by omega),if_pos (by omega),Co]
theorem bp(h:f<5000000)(vs:List Value):Ml (f+5000000) vs=vs.toArray:=if_pos ⟨by omega,by omega⟩
theorem kK(h:f<5000000)(vs:List Value):Me (f+5000000) vs=#[]:=if_pos ⟨by omega,by omega⟩
variable {o:Obj}
theorem V1(h:o.isMap=true):o.row=false:=by
 unfold Obj.isMap at h;grind
theorem Ze(h:o.isMap=true):1<o.sz:=by
 unfold Obj.isMap at h;grind
theorem Mq{o':Obj}(u:o'.row=o.row)(E:o'.sz=o.sz):o'.isMap=o.isMap:=by unfold Obj.isMap; rw[u,E]
theorem Kd(h:o.row=true):o.isMap=false:=by unfold Obj.isMap; rw[h]; rfl
theorem LQ(h:o.sz=1):o.isMap=false:=by unfold Obj.isMap; rw[h]; simp
def Nb:Value→Bool
 |.agg _=>true
 |_=>false
def Kf:Go.Obj→Bool
 |.map es _=>match es[0]? with
  |some e=>Nb e.val
  |none=>false
 |_=>false
theorem X6(es:Array MapEntry)(c:Nat):Kf (.map es c)=(match es[0]? with | some e=>Nb e.val | none=>false):=(rfl)
def XO(ents:Array MapEntry)(es:List (Int×Nat)):Prop:=
 (∀ e∈ents.toList,∃ n f,e.key=.int .i64 n∧e.val=.agg #[.func (.func f) #[] #[]]∧f<5000000∧FY n es=some f)∧∀ n f,FY n es=some f→∃ e∈ents.toList,e.key=.int .i64 n
inductive RepV (w:World) (g:Ghost) (st:St):D→Value→Prop
 |int (k:IntKind) (n:Int):RepV w g st (.int k n) (.int k n)
 |bool (b:Bool):RepV w g st (.bool b) (.bool b)
 |str (s:List UInt8):RepV w g st (.str s) (.string ⟨s.toArray⟩)
 |nilp:RepV w g st .nilp (.pointer none)
 |nilm:RepV w g st .nilm (.map none)
 |gmap (es:List (Int×Nat)) (b:Nat) (ents:Array MapEntry) (clock:Nat):w.heap[b]?=some (.map ents clock)→Kf (.map ents clock)=true→XO ents es→RepV w g st (.gmap es) (.map (some b))
 |slcE (sz:Nat) (t:Bool) (a:Option Addr) (cap:Nat):(t=true→cap=0)→RepV w g st (.slc sz [] t) (.slice a 0 cap)
 |slc (els:List D) (t:Bool) (b off cap sz:Nat) (val:Nat→Nat→Value):els≠[]→0<sz→(∀ e∈els,e.cells.length=sz)→(∀ i j d,Ff els i j=some d→d.pure1=true)→els.length≤cap→(t=true→cap=els.length)→
   (∀ i j d,Ff els i j=some d→g.Im b (off+i*sz+j)∧w.cell? ⟨b,off+i*sz+j,none⟩=some (val i j))→
   (∀ i j d,Ff els i j=some d→RepV w g st d (val i j))→RepV w g st (.slc sz els t) (.slice (some ⟨b,off,none⟩) els.length cap)
 |row (key tot off len:Nat) (o:Obj) (v:Value):v.oneCell'=true→st[key]?=some o→o.row=true→tot≤o.els.length→
   (tot=o.els.length→v=.slice (some ⟨g.β key,off*o.sz,none⟩) len (g.γ key - off)∧off+len≤tot)→RepV w g st (.row key tot off len) v
 |bsl (key off n sz:Nat) (ag:Bool) (o:Obj) (cap:Nat):st[key]?=some o→o.row=false→o.sz=1→n≤cap→RepV w g st (.bsl key off n sz ag) (.slice (some ⟨g.β key,off,none⟩) n cap)
 |mapv (key:Nat) (o:Obj):st[key]?=some o→o.isMap=true→RepV w g st (.mapv key) (.map (some (g.β key)))
 |ptr (key off:Nat) (o:Obj):st[key]?=some o→o.row=false→o.sz=1→RepV w g st (.ptr key off) (.pointer (some ⟨g.β key,off,none⟩))
 |rptr (key tot i off:Nat) (o:Obj) (v:Value):v.oneCell'=true→st[key]?=some o→o.row=true→tot≤o.els.length→
   (tot=o.els.length→v=.pointer (some ⟨g.β key,i*o.sz+off,none⟩))→RepV w g st (.rptr key tot i off) v
 |eptr (el:D) (off b o:Nat) (val:Nat→Value):(∀ (j:Nat) (d:D),el.cells[j]?=some d→d.pure1=true)→
   (∀ (j:Nat) (d:D),el.cells[j]?=some d→g.Im b (o+j)∧w.cell? ⟨b,o+j,none⟩=some (val j))→
   (∀ (j:Nat) (d:D),el.cells[j]?=some d→RepV w g st d (val j))→RepV w g st (.eptr el off) (.pointer (some ⟨b,o+off,none⟩))
 |agg (ds:List D) (vs:List Value):ds.length=vs.length→(∀ (i:Nat) (d:D) (v:Value),ds[i]?=some d→vs[i]?=some v→RepV w g st d v)→RepV w g st (.agg ds) (.agg vs.toArray)
 |tup (ds:List D) (vs:List Value):ds.length=vs.length→(∀ (i:Nat) (d:D) (v:Value),ds[i]?=some d→vs[i]?=some v→RepV w g st d v)→RepV w g st (.tup ds) (.tuple vs.toArray)
 |clo (f:Nat) (ds:List D) (vs:List Value):ds.length=vs.length→(∀ (i:Nat) (d:D) (v:Value),ds[i]?=some d→vs[i]?=some v→RepV w g st d v)→RepV w g st (.clo f ds) (.func (HL f) (Ml f vs) (Me f vs))
 |nilf:RepV w g st .nilf .nilFunc
 |junk (v:Value):RepV w g st .junk v
def Evo(g:Ghost)(st:St)(g':Ghost)(st':St):Prop:=
 ∀ (k:Nat) (o:Obj),st[k]?=some o→∃ o',st'[k]?=some o'∧o'.row=o.row∧o'.sz=o.sz∧o.els.length≤o'.els.length∧
  (o'.els.length=o.els.length→g'.β k=g.β k∧g'.γ k=g.γ k)∧(o.row=false→g'.β k=g.β k)
theorem Evo.refl(g:Ghost)(st:St):Evo g st g st:=fun _ o h=>⟨o,h,rfl,rfl,Az _,fun _=>⟨rfl,rfl⟩,fun _=>rfl⟩
variable {st st1 st2:St}{g g1 g2:Ghost}
theorem Evo.trans(h:Evo g st g1 st1)(u:Evo g1 st1 g2 st2):Evo g st g2 st2:=by
 intro k o E;obtain⟨o1,I,r1,s1,l1,b1,c1⟩:=h k o E;obtain⟨o2,J,M,s2,N,O,U⟩:=u k o1 I;grind
structure ImLe (w:World) (g:Ghost) (w':World) (g':Ghost):Prop where
 im:∀ b o,g.Im b o→g'.Im b o∧w'.cell? ⟨b,o,none⟩=w.cell? ⟨b,o,none⟩
 kp:∀ (b:Nat) (o:Go.Obj),w.heap[b]?=some o→Kf o=true→w'.heap[b]?=some o
theorem ImLe.refl(w:World)(g:Ghost):ImLe w g w g:=⟨fun _ _ h=>⟨h,rfl⟩,fun _ _ h _=>h⟩
variable {w w1 w2:World}
theorem ImLe.trans(h:ImLe w g w1 g1)(u:ImLe w1 g1 w2 g2):ImLe w g w2 g2:=
 ⟨fun b o hb=>⟨(u.im b o (h.im b o hb).1).1,(u.im b o (h.im b o hb).1).2.trans (h.im b o hb).2⟩,fun b o hb E=>u.kp b o (h.kp b o hb E) E⟩
variable {v:Value}{d:D}{st':St}{g':Ghost}{w':World}
theorem RepV.mono(V:ImLe w g w' g')(X:Evo g st g' st')(h:RepV w g st d v):RepV w' g' st' d v:=by
 induction h with
 |int k n=>exact .int k n
 |bool b=>exact .bool b
 |str s=>exact .str s
 |nilp=>exact .nilp
 |nilm=>exact .nilm
 |gmap es b ac clock u E I=>exact .gmap es b ac clock (V.kp _ _ u E) E I
 |slcE sz t a cap h=>exact .slcE sz t a cap h
 |slc els t b off cap sz val u E I af Y h5 h6 _ J=>
  exact .slc els t b off cap sz val u E I af Y h5 (fun i j d O=>⟨(V.im _ _ (h6 i j d O).1).1,(V.im _ _ (h6 i j d O).1).2.trans (h6 i j d O).2⟩) J
 |row key tot off len o v h0 u E I Y=>
  obtain⟨o',M,N,U,e4,e5,_⟩:=X key o u;refine .row key tot off len o' v h0 M (N.trans E) (AT I e4) fun e=>?_;grind
 |bsl key off n sz ag o cap u E I Y=>
  obtain⟨o',M,N,U,_,_,e6⟩:=X key o u;rw[← e6 E];exact .bsl key off n sz ag o' cap M (N.trans E) (U.trans I) Y
 |mapv key o u E=>
  obtain⟨o',M,N,U,_,_,e6⟩:=X key o u;rw[← e6 (V1 E)];exact .mapv key o' M (by rw[Mq N U]; exact E)
 |ptr key off o u E I=>
  obtain⟨o',M,N,U,_,_,e6⟩:=X key o u;rw[← e6 E];exact .ptr key off o' M (N.trans E) (U.trans I)
 |rptr key tot i off o v h0 u E I Y=>
  obtain⟨o',M,N,U,e4,e5,_⟩:=X key o u;refine .rptr key tot i off o' v h0 M (N.trans E) (AT I e4) fun e=>?_;grind
 |eptr el off b o val h0 u _ J=>exact .eptr el off b o val h0 (fun j d O=>⟨(V.im _ _ (u j d O).1).1,(V.im _ _ (u j d O).1).2.trans (u j d O).2⟩) J
 |agg ds vs h _ J=>exact .agg ds vs h J
 |tup ds vs h _ J=>exact .tup ds vs h J
 |clo f ds vs h _ J=>exact .clo f ds vs h J
 |nilf=>exact .nilf
 |junk v=>exact .junk v
def Vz(base:Nat)(w:World)(b:Nat)(o:Obj):Prop:=
 ∃ (r:Loop) (n:Int),w.heap[b]?=some (.loop r)∧base≤b∧o.els=[.int .i64 n]∧(n=0→r.state=.ready∧r.pending=none)∧(n=1→r.state=.done∧r.pending=some .ret)
def MapAt0(base:Nat)(w:World)(g:Ghost)(st:St)(b:Nat)(o:Obj):Prop:=
 ∃ es clock,w.heap[b]?=some (.map es clock)∧base≤b∧es.size=o.els.length∧(∀ x∈o.els,∃ l,x=.agg l∧l.length=o.sz)∧
  (∀ (i:Nat) (e:MapEntry) (el:D),es[i]?=some e→o.els[i]?=some el→RepV w g st (FE o.sz el) e.key∧RepV w g st (Gu o.sz el) e.val)∧Kf (.map es clock)=false
variable {b b' base:Nat}
theorem MapAt0.mono(h:MapAt0 base w g st b o)(E:ImLe w g w' g')(I:Evo g st g' st')(hb:b'=b)(M:w'.heap[b]?=w.heap[b]?):MapAt0 base w' g' st' b' o:=by
 obtain⟨es,clock,N,O,U,V,J,X⟩:=h;subst hb;exact⟨es,clock,M.trans N,O,U,V,fun i e el he u=>⟨(J i e el he u).1.mono E I,(J i e el he u).2.mono E I⟩,X⟩
def MapAt(base:Nat)(w:World)(g:Ghost)(st:St)(b:Nat)(o:Obj):Prop:=if o.sz=1000003 then Vz base w b o else MapAt0 base w g st b o
theorem MapAt.mono(h:MapAt base w g st b o)(I:ImLe w g w' g')(J:Evo g st g' st')(hb:b'=b)(E:w'.heap[b]?=w.heap[b]?):MapAt base w' g' st' b' o:=by
 unfold MapAt at h ⊢
 split at h
 ·rename_i u;rw[if_pos u];obtain⟨r,n,M,N⟩:=h;subst hb;exact⟨r,n,E.trans M,N⟩
 ·rename_i u;rw[if_neg u];exact MapAt0.mono h I J hb E
theorem MapAt.old(h:MapAt base w g st b o)(u:o.sz≠1000003):MapAt0 base w g st b o:=by
 unfold MapAt at h; rwa [if_neg u]at h
theorem MapAt.rec'(h:MapAt base w g st b o)(u:o.sz=1000003):Vz base w b o:=by
 unfold MapAt at h; rwa [if_pos u]at h
theorem MapAt.at(h:MapAt base w g st b o):∃ x,w.heap[b]?=some x∧base≤b∧Kf x=false∧(∀ C e z,x≠.cells C e z)∧(∀ ds,x≠.deferred ds)∧∀ i,w.cell? ⟨b,i,none⟩=none:=by
 by_cases I:o.sz=1000003
 ·obtain⟨r,n,u,E,_⟩:=h.rec' I;exact⟨_,u,E,rfl,fun _ _ _ h=>(by cases h),fun _ h=>(by cases h),fun i=>by simp only[World.cell?,u]⟩
 ·obtain⟨es,c,u,E,_,_,_,J⟩:=h.old I;exact⟨_,u,E,J,fun _ _ _ h=>(by cases h),fun _ h=>(by cases h),fun i=>by simp only[World.cell?,u]⟩
structure SR (base:Nat) (w:World) (g:Ghost) (st:St):Prop where
 mp:∀ (k:Nat) (o:Obj),st[k]?=some o→o.isMap=true→MapAt base w g st (g.β k) o
 blk:∀ (k:Nat) (o:Obj),st[k]?=some o→o.isMap=false→∃ C e,w.heap[g.β k]?=some (.cells C e (0,0))∧base≤g.β k∧0<o.sz∧(∀ x∈o.els,x.cells.length=o.sz)∧
  (if o.row then C.size=g.γ k*o.sz∧o.els.length≤g.γ k∧g.γ k≤maxLen else C.size=o.els.length∧o.sz=1∧∀ x∈o.els,x.cells=[x])∧
  (∀ i j d,Ff o.els i j=some d→(o.row=true→d.pure1=true)∧∃ v,C[i*o.sz+j]?=some v∧RepV w g st d v)
 inj:∀ (k k':Nat) (o o':Obj),st[k]?=some o→st[k']?=some o'→g.β k=g.β k'→k=k'
 im:∀ b o,g.Im b o→(w.cell? ⟨b,o,none⟩).isSome=true
 dis:∀ (k:Nat) (o:Obj) (x:Nat),st[k]?=some o→g.Im (g.β k) x→o.lent=true∧x<o.els.length*o.sz
 size:base≤w.heap.size
def special:Go.Obj→Bool
 |.loop _ | .deferred _=>true
 |_=>false
def sameSp:Go.Obj→Go.Obj→Prop
 |.loop r,x=>∃ s p,x=.loop {r with state:=s,pending:=p}
 |y,x=>x=y
theorem sameSp.refl(o:Go.Obj):sameSp o o:=by
 cases o <;> first | rfl | exact⟨_,_,rfl⟩
theorem sameSp.trans{a b c:Go.Obj}(h:sameSp a b)(u:sameSp b c):sameSp a c:=by
 cases a with
 |loop r=>
  obtain⟨s,p,rfl⟩:=h;obtain⟨s',p',rfl⟩:=u;exact⟨s',p',rfl⟩
 |_=>cases h; exact u
theorem sameSp.special{a b:Go.Obj}(h:sameSp a b)(u:special a=true):special b=true:=by
 cases a with
 |loop r=>obtain⟨s,p,rfl⟩:=h; rfl
 |_=>cases h; exact u
def Kept(w':World)(b:Nat)(o:Go.Obj):Prop:=∃ o',w'.heap[b]?=some o'∧sameSp o o'
theorem Kept.same{o:Go.Obj}(h:w'.heap[b]?=some o):Kept w' b o:=⟨o,h,sameSp.refl o⟩
theorem Kept.def'{ds:Option (List Deferred)}(h:Kept w' b (.deferred ds)):w'.heap[b]?=some (.deferred ds):=by
 obtain⟨o',u,E⟩:=h;cases E; exact u
theorem Kept.loop{r:Loop}(h:Kept w' b (.loop r)):∃ s p,w'.heap[b]?=some (.loop {r with state:=s,pending:=p}):=by
 obtain⟨o',u,s,p,rfl⟩:=h;grind
structure Go1 (base:Nat) (w:World) (g:Ghost) (st:St) (w':World) (g':Ghost) (st':St):Prop where
 sr:SR base w' g' st'
 evo:Evo g st g' st'
 im:ImLe w g w' g'
 new:∀ b o,g'.Im b o→g.Im b o∨base≤b
 below:Below base w w'
 kp:∀ (b:Nat) (o:Go.Obj),w.heap[b]?=some o→special o=true→Kept w' b o
theorem Go1.refl(h:SR base w g st):Go1 base w g st w g st:=
 ⟨h,Evo.refl _ _,ImLe.refl _ _,fun _ _ h=>.inl h,Below.refl _ _,fun _ _ h _=>.same h⟩
theorem Go1.trans(h:Go1 base w g st w1 g1 st1)(u:Go1 base w1 g1 st1 w2 g2 st2):Go1 base w g st w2 g2 st2:=
 ⟨u.sr,h.evo.trans u.evo,h.im.trans u.im,fun b o hb=>by
  rcases u.new b o hb with x | x
  ·exact h.new b o x
  ·exact .inr x,h.below.trans u.below,fun b o hb E=>(let⟨_,J,I⟩:=h.kp b o hb E; let⟨o2,M,N⟩:=u.kp b _ J (I.special E); ⟨o2,M,I.trans N⟩)⟩
theorem Go1.rep(h:Go1 base w g st w' g' st')(u:RepV w g st d v):RepV w' g' st' d v:=u.mono h.im h.evo
theorem RepV.oneCell(h:RepV w g st d v)(u:d.isCell=true):v.oneCell'=true:=by
 cases h <;> first
  |rfl
  |assumption
  |(simp[D.isCell]at u; done)
theorem MF(h:d.pure1=true):d.isCell=true:=by
 cases d <;> simp_all [D.pure1,D.isCell]
theorem cell?_add(w:World)(b o n:Nat):w.cell? ((⟨b,o,none⟩:Addr).add n)=w.cell? ⟨b,o+n,none⟩:=by
 unfold Addr.add;grind
theorem I3(b o n:Nat):((⟨b,o,none⟩:Addr).add n)=⟨b,o+n,none⟩:=by
 unfold Addr.add;grind
end Go.Proofs.YtijnglngaogdjaaGreatDoor.PI
namespace Go.Proofs.YtijnglngaogdjaaGreatDoor.PI
open Go Go.RowKit
def E9(f:Nat→Nat)(k v:Nat):Nat→Nat:=fun i=>if i=k then v else f i
theorem GP(f:Nat→Nat)(k v:Nat):E9 f k v k=v:=by simp[E9]
theorem F8(f:Nat→Nat)(k v i:Nat)(h:i≠k):E9 f k v i=f i:=by simp[E9,h]
variable {o:Obj}{base k:Nat}{st:St}{g:Ghost}{w:World}
theorem SR.lt(h:SR base w g st)(u:st[k]?=some o):g.β k<w.heap.size:=by
 cases hm:o.isMap with
 |false=>
  obtain⟨C,e,hb,_⟩:=h.blk k o u hm;grind
 |true=>
  obtain⟨x,hb,_⟩:=(h.mp k o u hm).at;grind
theorem SR.based(h:SR base w g st)(E:st[k]?=some o):base≤g.β k:=by
 cases hm:o.isMap with
 |false=>
  obtain⟨C,e,hb,u,_⟩:=h.blk k o E hm;exact u
 |true=>
  obtain⟨x,hb,u,_⟩:=(h.mp k o E hm).at;exact u
theorem SR.im_lt(h:SR base w g st){b o:Nat}(hi:g.Im b o):b<w.heap.size:=by
 have:=h.im b o hi
 cases u:w.cell? ⟨b,o,none⟩with
 |none=>simp[u]at this
 |some v=>exact World.block_lt_of_cell? w _ u
theorem W8{a b:List D}{i j:Nat}(h:i<a.length):Ff (a++b) i j=Ff a i j:=by
 simp[Ff,Ao h]
structure Beside (w w':World):Prop where
 os:w'.os=w.os
 tape:w'.tape=w.tape
 output:w'.output=w.output
 size:w.heap.size≤w'.heap.size
variable {e:TypeId}{C:Array Value}{B:Nat}{o':Obj}{w':World}
theorem SR.update(h:SR base w g st){c:Nat}{C':Array Value}{e':TypeId}
  (Y:st[k]?=some o) (hm:o.isMap=false) (af:w.heap[g.β k]?=some (.cells C e (0,0)))
  (E:(B=g.β k∧c=g.γ k)∨(w.heap.size≤B∧o.els.length<o'.els.length∧o.row=true))
  (O:o'.row=o.row) (N:o'.sz=o.sz) (a9:o.els.length≤o'.els.length) (a6:o'.lent=o.lent)
  (hx:∀ x∈o'.els,x.cells.length=o.sz)
  (M:Beside w w') (U:∀ b,b<w.heap.size→b≠B→w'.heap[b]?=w.heap[b]?)
  (ah:w'.heap[B]?=some (.cells C' e' (0,0)))
  (cd:B=g.β k→∀ x,g.Im (g.β k) x→C'[x]?=C[x]?)
  (hC:if o.row then C'.size=c*o.sz∧o'.els.length≤c∧c≤maxLen else C'.size=o'.els.length∧o.sz=1∧∀ x∈o'.els,x.cells=[x])
  (ba:∀ i j d,Ff o'.els i j=some d→(o.row=true→d.pure1=true)∧∃ v,C'[i*o.sz+j]?=some v∧RepV w g st d v) :
  Go1 base w g st w' {g with β:=E9 g.β k B,γ:=E9 g.γ k c} (st.set k o'):=by
 have V:k<st.length:=(Ab.1 Y).1;obtain⟨C1,e1,ce,bg,b9,cf,cg,b6⟩:=h.blk k o Y hm
 have bh:base≤B:=by
  grind
 have J:ImLe w g w' {g with β:=E9 g.β k B,γ:=E9 g.γ k c}:=by
  refine⟨?_,fun b x hb hs=>?_⟩
  case refine_2=>
   have a2:b<w.heap.size:=(Ax.1 hb).1
   have aa:b≠B:=by
    intro e;rcases E with⟨rfl,_⟩ | ⟨E,_⟩
    ·rw[e,af]at hb;obtain rfl:=Au hb;simp[Kf]at hs
    ·omega
   grind
  intro b x hb;refine⟨hb,?_⟩;have a2:=h.im_lt hb
  by_cases u:b=B
  ·subst u;rcases E with⟨e2,_⟩ | ⟨E,_⟩
   ·subst e2;simp only[World.cell?,ah,af];grind
   ·omega
  ·simp only[World.cell?,U b a2 u]
 have X:Evo g st {g with β:=E9 g.β k B,γ:=E9 g.γ k c} (st.set k o'):=by
  intro I o1 Dt
  by_cases u:I=k
  ·subst u;obtain rfl:o1=o:=Au (Dt.symm.trans Y);refine⟨o',by simp[V],O,N,a9,fun hl=>?_,fun hr=>?_⟩
   ·rcases E with⟨rfl,rfl⟩ | ⟨_,ch,_⟩
    ·simp[GP]
    ·omega
   ·rcases E with⟨rfl,rfl⟩ | ⟨_,_,c0⟩
    ·simp[GP]
    ·grind
  ·refine⟨o1,by rw[Ay (by omega)]; exact Dt,rfl,rfl,Az _,fun _=>?_,fun _=>?_⟩
   ·simp[F8 _ _ _ _ u]
   ·simp[F8 _ _ _ _ u]
 have b1:∀ (b:Nat) (o:Go.Obj),w.heap[b]?=some o→special o=true→w'.heap[b]?=some o:=by
  intro b x hb hs;have a2:b<w.heap.size:=(Ax.1 hb).1
  have aa:b≠B:=by
   intro e;rcases E with⟨rfl,_⟩ | ⟨E,_⟩
   ·rw[e,af]at hb;obtain rfl:=Au hb;simp[special]at hs
   ·omega
  grind
 refine⟨⟨?_,?_,?_,?_,?_,AT h.size M.size⟩,X,J,fun b x hb=>.inl hb,?_,fun b x hb hs=>.same (b1 b x hb hs)⟩
 ·intro I o1 Dt ac
  by_cases u:I=k
  ·subst u;obtain rfl:o1=o':=by rw[Bn V]at Dt; exact(Au Dt).symm
   rw[Mq O N,hm]at ac; cases ac
  ·rw[Ay (by omega)]at Dt
   have aa:g.β I≠B:=by
    rcases E with⟨rfl,_⟩ | ⟨E,_⟩
    ·exact fun e3=>u (h.inj _ _ _ _ Dt Y e3)
    ·have:=h.lt Dt; omega
   exact(h.mp I o1 Dt ac).mono J X (F8 _ _ _ _ u) (U _ (h.lt Dt) aa)
 ·intro I o1 Dt ac
  by_cases u:I=k
  ·subst u;obtain rfl:o1=o':=by rw[Bn V]at Dt; exact(Au Dt).symm
   refine⟨C',e',by simpa[GP]using ah,by simpa[GP]using bh,by omega,fun x b2=>(hx x b2).trans N.symm,?_,?_⟩
   ·rw[O,N];simpa[GP]using hC
   ·intro i j d hd;obtain⟨a3,v,h2,h3⟩:=ba i j d hd;exact⟨fun e=>a3 (O.symm.trans e),v,by rw[N]; exact h2,h3.mono J X⟩
  ·rw[Ay (by omega)]at Dt;obtain⟨C2,e2,b3,a5,a7,b4,b5,a8⟩:=h.blk I o1 Dt ac
   have aa:g.β I≠B:=by
    rcases E with⟨rfl,_⟩ | ⟨E,_⟩
    ·exact fun e3=>u (h.inj _ _ _ _ Dt Y e3)
    ·grind
   refine⟨C2,e2,?_,?_,a7,b4,?_,?_⟩
   ·show w'.heap[E9 g.β k B I]?=_
    rw[F8 _ _ _ _ u,U _ (h.lt Dt) aa]; exact b3
   ·show base≤E9 g.β k B I
    rw[F8 _ _ _ _ u]; exact a5
   ·simpa[F8 _ _ _ _ u]using b5
   ·intro i j d hd;obtain⟨a3,v,h2,h3⟩:=a8 i j d hd;exact⟨a3,v,h2,h3.mono J X⟩
 ·intro I k2 o1 o2 Dt ad he;simp only at he
  by_cases e1:I=k <;> by_cases e2:k2=k
  ·omega
  ·exfalso;subst e1;rw[GP,F8 _ _ _ _ e2]at he;rw[Ay (by omega)]at ad;rcases E with⟨rfl,_⟩ | ⟨E,_⟩
   ·exact e2 (h.inj _ _ _ _ Y ad he).symm
   ·have:=h.lt ad; omega
  ·exfalso;subst e2;rw[GP,F8 _ _ _ _ e1]at he;rw[Ay (by omega)]at Dt;rcases E with⟨rfl,_⟩ | ⟨E,_⟩
   ·exact e1 (h.inj _ _ _ _ Dt Y he)
   ·have:=h.lt Dt; omega
  ·rw[F8 _ _ _ _ e1,F8 _ _ _ _ e2]at he;rw[Ay (by omega)]at Dt ad;exact h.inj _ _ _ _ Dt ad he
 ·intro b x hb;rw[(J.im b x hb).2];exact h.im b x hb
 ·intro I o1 x Dt hi;simp only at hi
  by_cases u:I=k
  ·subst u;obtain rfl:o1=o':=by rw[Bn V]at Dt; exact(Au Dt).symm
   rw[GP]at hi;rcases E with⟨rfl,_⟩ | ⟨E,_⟩
   ·obtain⟨h1,h2⟩:=h.dis _ _ _ Y hi;refine⟨by rw[a6]; exact h1,AZ h2 ?_⟩;rw[N];exact AK _ a9
   ·have:=h.im_lt hi; omega
  ·rw[Ay (by omega)]at Dt;rw[F8 _ _ _ _ u]at hi;exact h.dis _ _ _ Dt hi
 ·refine⟨M.os,M.tape,M.output,M.size,fun b hb=>?_⟩;grind
theorem SR.push(h:SR base w g st){c:Nat}
  (N:Beside w w') (I:∀ b,b<w.heap.size→w'.heap[b]?=w.heap[b]?)
  (ae:w'.heap[w.heap.size]?=some (.cells C e (0,0)))
  (hm:o.isMap=false) (af:0<o.sz) (hx:∀ x∈o.els,x.cells.length=o.sz)
  (hC:if o.row then C.size=c*o.sz∧o.els.length≤c∧c≤maxLen else C.size=o.els.length∧o.sz=1∧∀ x∈o.els,x.cells=[x])
  (ah:∀ i j d,Ff o.els i j=some d→(o.row=true→d.pure1=true)∧∃ v,C[i*o.sz+j]?=some v∧RepV w g st d v) :
  Go1 base w g st w' {g with β:=E9 g.β st.length w.heap.size,γ:=E9 g.γ st.length c} (st++[o]):=by
 have J:ImLe w g w' {g with β:=E9 g.β st.length w.heap.size,γ:=E9 g.γ st.length c}:=by
  refine⟨?_,fun b o hb _=>by rw[I b (Ax.1 hb).1]; exact hb⟩;intro b x hb;refine⟨hb,?_⟩;have V:=h.im_lt hb;simp only[World.cell?,I b V]
 have V:∀ (u:Nat) (o1:Obj),st[u]?=some o1→u<st.length:=fun u o1 X=>(Ab.1 X).1
 have U:Evo g st {g with β:=E9 g.β st.length w.heap.size,γ:=E9 g.γ st.length c} (st++[o]):=by
  intro u o1 Dt;have:=V _ _ Dt;refine⟨o1,by rw[Ao this]; exact Dt,rfl,rfl,Az _,fun _=>?_,fun _=>?_⟩
  ·simp[F8 _ _ _ _ (show u≠st.length by omega)]
  ·simp[F8 _ _ _ _ (show u≠st.length by omega)]
 have E:∀ (u:Nat) (o1:Obj),(st++[o])[u]?=some o1→(u<st.length∧st[u]?=some o1)∨(u=st.length∧o1=o):=by
  grind
 refine⟨⟨?_,?_,?_,?_,?_,AT h.size N.size⟩,U,J,fun b x hb=>.inl hb,?_,fun b o hb _=>.same (by rw[I b (Ax.1 hb).1]; exact hb)⟩
 ·intro u o1 Dt Y;rcases E u o1 Dt with⟨X,O⟩ | ⟨rfl,rfl⟩
  ·exact(h.mp u o1 O Y).mono J U (F8 _ _ _ _ (by omega)) (I _ (h.lt O))
  ·grind
 ·intro u o1 Dt Y;rcases E u o1 Dt with⟨X,O⟩ | ⟨rfl,rfl⟩
  ·obtain⟨C2,e2,a3,aa,ab,a4,a5,ac⟩:=h.blk u o1 O Y;have e0:u≠st.length:=by omega
   refine⟨C2,e2,?_,?_,ab,a4,?_,?_⟩
   ·show w'.heap[E9 g.β st.length w.heap.size u]?=_
    rw[F8 _ _ _ _ e0,I _ (h.lt O)]; exact a3
   ·show base≤E9 g.β st.length w.heap.size u
    rw[F8 _ _ _ _ e0]; exact aa
   ·simpa[F8 _ _ _ _ e0]using a5
   ·intro i j d hd;obtain⟨M,v,O,h3⟩:=ac i j d hd;exact⟨M,v,O,h3.mono J U⟩
  ·refine⟨C,e,by simpa[GP]using ae,by simpa[GP]using h.size,af,hx,by simpa[GP]using hC,?_⟩;intro i j d hd;obtain⟨M,v,O,h3⟩:=ah i j d hd;exact⟨M,v,O,h3.mono J U⟩
 ·intro u k2 o1 o2 Dt a6 he;simp only at he;rcases E u o1 Dt with⟨X,M⟩ | ⟨rfl,_⟩ <;> rcases E k2 o2 a6 with⟨O,ad⟩ | ⟨rfl,_⟩
  ·rw[F8 _ _ _ _ (by omega),F8 _ _ _ _ (by omega)]at he;exact h.inj _ _ _ _ M ad he
  ·rw[F8 _ _ _ _ (by omega),GP]at he;have:=h.lt M; omega
  ·rw[GP,F8 _ _ _ _ (by omega)]at he;have:=h.lt ad; omega
  ·rfl
 ·intro b x hb;rw[(J.im b x hb).2];exact h.im b x hb
 ·intro u o1 x Dt hi;simp only at hi;rcases E u o1 Dt with⟨X,M⟩ | ⟨rfl,rfl⟩
  ·rw[F8 _ _ _ _ (by omega)]at hi;exact h.dis _ _ _ M hi
  ·rw[GP]at hi;have:=h.im_lt hi; omega
 ·exact⟨N.os,N.tape,N.output,N.size,fun b hb=>I b (AZ hb h.size)⟩
theorem SR.updM(h:SR base w g st)
  (V:st[k]?=some o) (hm:o.isMap=true) (ab:o'.row=o.row) (ah:o'.sz=o.sz) (bg:o.els.length≤o'.els.length)
  (I:Beside w w') (u:∀ b,b≠g.β k→w'.heap[b]?=w.heap[b]?) 
  (bh:∀ st',ImLe w g w' g→Evo g st g st'→MapAt base w' g st' (g.β k) o') (a6:∀ x,w.heap[g.β k]?=some x→special x=true→Kept w' (g.β k) x) :
  Go1 base w g st w' g (st.set k o'):=by
 have ac:k<st.length:=(Ab.1 V).1;obtain⟨x0,b1,a0,a7,_,_,b2⟩:=(h.mp k o V hm).at
 have a8:∀ x,¬ g.Im (g.β k) x:=fun x hi=>by
  have:=h.im _ _ hi;grind
 have E:ImLe w g w' g:=by
  refine⟨?_,fun b x hb hs=>?_⟩
  case refine_2=>
   grind
  intro b x hb;refine⟨hb,?_⟩
  by_cases N:b=g.β k
  ·grind
  ·simp only[World.cell?,u b N]
 have O:Evo g st g (st.set k o'):=by
  intro J o1 Dt;grind
 refine⟨⟨?_,?_,?_,?_,?_,AT h.size I.size⟩,O,E,fun b x hb=>.inl hb,?_,?_⟩
 ·intro J o1 Dt M
  by_cases N:J=k
  ·grind
  ·rw[Ay (by omega)]at Dt;exact(h.mp J o1 Dt M).mono E O rfl (u _ (fun e3=>N (h.inj _ _ _ _ Dt V e3)))
 ·intro J o1 Dt M
  by_cases N:J=k
  ·subst N;obtain rfl:o1=o':=by rw[Bn ac]at Dt; exact(Au Dt).symm
   rw[Mq ab ah,hm]at M; cases M
  ·rw[Ay (by omega)]at Dt;obtain⟨C2,e2,a1,X,Y,a2,a3,aa⟩:=h.blk J o1 Dt M;refine⟨C2,e2,(u _ (fun e3=>N (h.inj _ _ _ _ Dt V e3))).trans a1,X,Y,a2,a3,?_⟩;intro i j d hd;obtain⟨a4,v,h2,h3⟩:=aa i j d hd;exact⟨a4,v,h2,h3.mono E O⟩
 ·intro J k2 o1 o2 Dt U he
  by_cases e1:J=k <;> by_cases e2:k2=k
  ·omega
  ·subst e1;rw[Ay (by omega)]at U;exact h.inj _ _ _ _ V U he
  ·subst e2;rw[Ay (by omega)]at Dt;exact h.inj _ _ _ _ Dt V he
  ·rw[Ay (by omega)]at Dt U;exact h.inj _ _ _ _ Dt U he
 ·intro b x hb;rw[(E.im b x hb).2];exact h.im b x hb
 ·intro J o1 x Dt hi
  by_cases N:J=k
  ·grind
  ·rw[Ay (by omega)]at Dt;exact h.dis _ _ _ Dt hi
 ·exact⟨I.os,I.tape,I.output,I.size,fun b hb=>u b (by omega)⟩
 ·intro b x hb hs
  by_cases a5:b=g.β k
  ·grind
  ·exact .same (by rw[u b a5]; exact hb)
theorem SR.updMap(h:SR base w g st){es':Array MapEntry}{clock':Nat}
  (Y:st[k]?=some o) (hm:o.isMap=true) (M:o.sz≠1000003) (O:o'.row=o.row) (u:o'.sz=o.sz) (ab:o.els.length≤o'.els.length) (_:o'.lent=o.lent)
  (U:Beside w w') (J:∀ b,b≠g.β k→w'.heap[b]?=w.heap[b]?) (V:w'.heap[g.β k]?=some (.map es' clock'))
  (X:es'.size=o'.els.length) (hx:∀ x∈o'.els,∃ l,x=.agg l∧l.length=o.sz)
  (E:∀ (i:Nat) (e:MapEntry) (el:D),es'[i]?=some e→o'.els[i]?=some el→RepV w g st (FE o.sz el) e.key∧RepV w g st (Gu o.sz el) e.val) (ac:Kf (.map es' clock')=false) :
  Go1 base w g st w' g (st.set k o'):=by
 obtain⟨es,clock,ad,I,_⟩:=(h.mp k o Y hm).old M;refine h.updM Y hm O u ab U J (fun st' hI hE=>?_) (fun x hb hs=>?_)
 ·unfold MapAt;rw[if_neg (by rw[u]; exact M)];refine⟨es',clock',V,I,X,by rw[u]; exact hx,?_,ac⟩;rw[u];exact fun i e el he N=>⟨(E i e el he N).1.mono hI hE,(E i e el he N).2.mono hI hE⟩
 ·rw[ad]at hb;obtain rfl:=Au hb;simp[special]at hs
variable {r:Loop}
theorem SR.updRec(h:SR base w g st){n:Int}{s:_}{p:Option Code}
  (U:st[k]?=some o) (u:o.row=false) (E:o.sz=1000003)
  (N:Beside w w') (M:∀ b,b≠g.β k→w'.heap[b]?=w.heap[b]?) (V:w.heap[g.β k]?=some (.loop r)) (I:w'.heap[g.β k]?=some (.loop {r with state:=s,pending:=p}))
  (X:n=0→s=.ready∧p=none) (Y:n=1→s=.done∧p=some .ret) :
  Go1 base w g st w' g (st.set k (recO n)):=by
 have hm:o.isMap=true:=by simp[Obj.isMap,u,E]
 obtain⟨r0,n0,aa,J,O,_⟩:=(h.mp k o U hm).rec' E;refine h.updM U hm (by rw[u]; rfl) (by rw[E]; rfl) (by rw[O]; exact Az _) N M (fun st' hI hE=>?_) (fun x hb hs=>?_)
 ·unfold MapAt;rw[if_pos (show(recO n).sz=1000003 from rfl)];exact⟨_,n,I,J,rfl,X,Y⟩
 ·rw[V]at hb;obtain rfl:=Au hb;exact⟨_,I,_,_,rfl⟩
theorem SR.pushM(h:SR base w g st)(hB:w.heap.size≤B)
  (M:Beside w w') (I:∀ b,b<w.heap.size→w'.heap[b]?=w.heap[b]?) (hm:o.isMap=true)
  (ae:∀ g' st',MapAt base w' g' st' B o) :
  Go1 base w g st w' {g with β:=E9 g.β st.length B} (st++[o]):=by
 have J:ImLe w g w' {g with β:=E9 g.β st.length B}:=by
  refine⟨?_,fun b o hb _=>by rw[I b (Ax.1 hb).1]; exact hb⟩;intro b x hb;refine⟨hb,?_⟩;have V:=h.im_lt hb;simp only[World.cell?,I b V]
 have V:∀ (u:Nat) (o1:Obj),st[u]?=some o1→u<st.length:=fun u o1 X=>(Ab.1 X).1
 have U:Evo g st {g with β:=E9 g.β st.length B} (st++[o]):=by
  intro u o1 Dt;have:=V _ _ Dt;refine⟨o1,by rw[Ao this]; exact Dt,rfl,rfl,Az _,fun _=>?_,fun _=>?_⟩
  ·simp[F8 _ _ _ _ (show u≠st.length by omega)]
  ·simp[F8 _ _ _ _ (show u≠st.length by omega)]
 have E:∀ (u:Nat) (o1:Obj),(st++[o])[u]?=some o1→(u<st.length∧st[u]?=some o1)∨(u=st.length∧o1=o):=by
  grind
 refine⟨⟨?_,?_,?_,?_,?_,AT h.size M.size⟩,U,J,fun b x hb=>.inl hb,?_,fun b o hb _=>.same (by rw[I b (Ax.1 hb).1]; exact hb)⟩
 ·intro u o1 Dt Y;rcases E u o1 Dt with⟨X,O⟩ | ⟨rfl,rfl⟩
  ·exact(h.mp u o1 O Y).mono J U (F8 _ _ _ _ (by omega)) (I _ (h.lt O))
  ·show MapAt base w' _ _ (E9 g.β st.length B st.length) _
   rw[GP]; exact ae _ _
 ·intro u o1 Dt Y;rcases E u o1 Dt with⟨X,O⟩ | ⟨rfl,rfl⟩
  ·obtain⟨C2,e2,af,aa,ab,ah,a0,ac⟩:=h.blk u o1 O Y;have e0:u≠st.length:=by omega
   refine⟨C2,e2,?_,?_,ab,ah,a0,?_⟩
   ·show w'.heap[E9 g.β st.length B u]?=_
    rw[F8 _ _ _ _ e0,I _ (h.lt O)]; exact af
   ·show base≤E9 g.β st.length B u
    rw[F8 _ _ _ _ e0]; exact aa
   ·intro i j d hd;obtain⟨N,v,O,h3⟩:=ac i j d hd;exact⟨N,v,O,h3.mono J U⟩
  ·grind
 ·intro u k2 o1 o2 Dt a2 he;simp only at he;rcases E u o1 Dt with⟨X,N⟩ | ⟨rfl,_⟩ <;> rcases E k2 o2 a2 with⟨O,ad⟩ | ⟨rfl,_⟩
  ·rw[F8 _ _ _ _ (by omega),F8 _ _ _ _ (by omega)]at he;exact h.inj _ _ _ _ N ad he
  ·rw[F8 _ _ _ _ (by omega),GP]at he;have:=h.lt N; omega
  ·rw[GP,F8 _ _ _ _ (by omega)]at he;have:=h.lt ad; omega
  ·rfl
 ·intro b x hb;rw[(J.im b x hb).2];exact h.im b x hb
 ·intro u o1 x Dt hi;simp only at hi;rcases E u o1 Dt with⟨X,N⟩ | ⟨rfl,rfl⟩
  ·rw[F8 _ _ _ _ (by omega)]at hi;exact h.dis _ _ _ N hi
  ·rw[GP]at hi;have:=h.im_lt hi; omega
 ·exact⟨M.os,M.tape,M.output,M.size,fun b hb=>I b (AZ hb h.size)⟩
theorem SR.pushMap(h:SR base w g st){clock:Nat}
  (I:Beside w w') (E:∀ b,b<w.heap.size→w'.heap[b]?=w.heap[b]?) (J:w'.heap[w.heap.size]?=some (.map #[] clock)) (N:o.isMap=true) (M:o.sz≠1000003) (u:o.els=[]) :
  Go1 base w g st w' {g with β:=E9 g.β st.length w.heap.size} (st++[o]):=by
 refine h.pushM (Az _) I E N fun g' st'=>?_;unfold MapAt;rw[if_neg M];refine⟨#[],clock,J,h.size,by rw[u]; rfl,(by rw[u]; exact fun x O=>(by cases O)),?_,rfl⟩;grind
theorem SR.pushRec(h:SR base w g st)(J:w.heap.size≤B)
  (E:Beside w w') (u:∀ b,b<w.heap.size→w'.heap[b]?=w.heap[b]?) (I:w'.heap[B]?=some (.loop r)) (M:r.state=.ready∧r.pending=none) :
  Go1 base w g st w' {g with β:=E9 g.β st.length B} (st++[recO 0]):=by
 refine h.pushM J E u rfl fun g' st'=>?_;unfold MapAt;rw[if_pos (show(recO 0).sz=1000003 from rfl)];exact⟨r,0,I,AT h.size J,rfl,fun _=>M,fun e=>by cases e⟩
theorem SR.more(h:SR base w g st){Im':Nat→Nat→Prop}
  (E:Beside w w') (u:∀ b,b<w.heap.size→w'.heap[b]?=w.heap[b]?)
  (aa:∀ b o,g.Im b o→Im' b o) (N:∀ b o,Im' b o→g.Im b o∨w.heap.size≤b) (ab:∀ b o,Im' b o→(w'.cell? ⟨b,o,none⟩).isSome=true) :
  Go1 base w g st w' {g with Im:=Im'} st:=by
 have I:ImLe w g w' {g with Im:=Im'}:=by
  refine⟨?_,fun b o hb _=>by rw[u b (Ax.1 hb).1]; exact hb⟩;intro b x hb;refine⟨aa b x hb,?_⟩;have ac:=h.im_lt hb;simp only[World.cell?,u b ac]
 have J:Evo g st {g with Im:=Im'} st:=fun k o hk=>⟨o,hk,rfl,rfl,Az _,fun _=>⟨rfl,rfl⟩,fun _=>rfl⟩;refine⟨⟨fun V o1 Dt O=>(h.mp V o1 Dt O).mono I J rfl (u _ (h.lt Dt)),?_,h.inj,ab,?_,AT h.size E.size⟩,J,I,fun b x hb=>?_,?_,fun b o hb _=>.same (by rw[u b (Ax.1 hb).1]; exact hb)⟩
 ·intro V o1 Dt O;obtain⟨C2,e2,ad,U,X,ae,af,Y⟩:=h.blk V o1 Dt O;refine⟨C2,e2,(u _ (h.lt Dt)).trans ad,U,X,ae,af,?_⟩;intro i j d hd;obtain⟨ah,v,h2,h3⟩:=Y i j d hd;exact⟨ah,v,h2,h3.mono I J⟩
 ·intro V o1 x Dt hi;rcases N _ _ hi with M | M
  ·exact h.dis _ _ _ Dt M
  ·have:=h.lt Dt; simp only at M; omega
 ·rcases N _ _ hb with M | M
  ·grind
  ·exact .inr (AT h.size M)
 ·exact⟨E.os,E.tape,E.output,E.size,fun b hb=>u b (AZ hb h.size)⟩
theorem SR.lend1(h:SR base w g st)(k:Nat) :
  Go1 base w g st w {g with Im:=fun b x=>g.Im b x∨∃ o,st[k]?=some o∧o.isMap=false∧b=g.β k∧x<o.els.length*o.sz} (st.modify k fun o=>{o with lent:=true}):=by
 have I:ImLe w g w {g with Im:=fun b x=>g.Im b x∨∃ o,st[k]?=some o∧o.isMap=false∧b=g.β k∧x<o.els.length*o.sz}:=⟨fun b x hb=>⟨.inl hb,rfl⟩,fun _ _ h _=>h⟩
 have get:∀ (E:Nat) (o1:Obj),(st.modify k fun o=>{o with lent:=true})[E]?=some o1→∃ u,st[E]?=some u∧o1=(if E=k then {u with lent:=true} else u):=by
  grind
 have J:Evo g st {g with Im:=fun b x=>g.Im b x∨∃ o,st[k]?=some o∧o.isMap=false∧b=g.β k∧x<o.els.length*o.sz} (st.modify k fun o=>{o with lent:=true}):=by
  intro E o1 Dt;grind
 refine⟨⟨?_,?_,?_,?_,?_,h.size⟩,J,I,fun b x hb=>?_,Below.refl _ _,fun _ _ h _=>.same h⟩
 ·intro E o1 Dt Y;obtain⟨u,X,he⟩:=get E o1 Dt;have f1:o1.sz=u.sz:=by rw[he]; split <;> rfl
  have f2:o1.els=u.els:=by rw[he]; split <;> rfl
  have f3:o1.row=u.row:=by rw[he]; split <;> rfl
  have M:=h.mp E u X ((Mq f3 f1).symm.trans Y);unfold MapAt at M ⊢;rw[f1]
  split
  ·rename_i hs;rw[if_pos hs]at M;obtain⟨r,n,a1,a2,a3,a4⟩:=M;exact⟨r,n,a1,a2,by rw[f2]; exact a3,a4⟩
  rename_i hs;rw[if_neg hs]at M;obtain⟨es,clock,a1,a2,a3,a4,a5,a6⟩:=M;refine⟨es,clock,a1,a2,by rw[f2]; exact a3,by rw[f1,f2]; exact a4,?_,a6⟩;rw[f1,f2];exact fun i e el he ac=>⟨(a5 i e el he ac).1.mono I J,(a5 i e el he ac).2.mono I J⟩
 ·intro E o1 Dt Y;obtain⟨u,X,he⟩:=get E o1 Dt;have f1:o1.sz=u.sz:=by rw[he]; split <;> rfl
  have f2:o1.els=u.els:=by rw[he]; split <;> rfl
  have f3:o1.row=u.row:=by rw[he]; split <;> rfl
  obtain⟨C2,e2,aa,N,U,ad,O,V⟩:=h.blk E u X ((Mq f3 f1).symm.trans Y);refine⟨C2,e2,aa,N,by rw[f1]; exact U,by rw[f1,f2]; exact ad,by rw[f1,f2,f3]; exact O,?_⟩;intro i j d hd;rw[f2]at hd;obtain⟨bc,v,h2,h3⟩:=V i j d hd;exact⟨fun e=>bc (f3.symm.trans e),v,by rw[f1]; exact h2,h3.mono I J⟩
 ·intro E k2 o1 o2 Dt bd he;obtain⟨p1,q1,_⟩:=get E o1 Dt;obtain⟨p2,q2,_⟩:=get k2 o2 bd;exact h.inj _ _ _ _ q1 q2 he
 ·intro b x hb;rcases hb with hb | ⟨o,ho,hm,rfl,hx⟩
  ·exact h.im b x hb
  ·obtain⟨C2,e2,aa,N,U,ad,O,V⟩:=h.blk k o ho hm;simp only[World.cell?,aa]
   have:x<C2.size:=by
    split at O
    ·rw[O.1]; exact AZ hx (AK _ O.2.1)
    ·grind
   simp[this]
 ·intro E o1 x Dt hi;obtain⟨u,X,he⟩:=get E o1 Dt;have f1:o1.sz=u.sz:=by rw[he]; split <;> rfl
  have f2:o1.els=u.els:=by rw[he]; split <;> rfl
  rw[f1,f2];rcases hi with hi | ⟨o,ho,_,be,hx⟩
  ·have:=h.dis _ _ _ X hi;grind
  ·obtain rfl:E=k:=h.inj _ _ _ _ X ho be;grind
 ·rcases hb with hb | ⟨o,ho,_,rfl,hx⟩
  ·grind
  ·exact .inr (h.based ho)
theorem SR.lend:∀ (ks:List Nat) {g:Ghost} {st:St},SR base w g st→
  ∃ g',Go1 base w g st w g' (PI.lend ks st)∧g'.β=g.β∧g'.γ=g.γ∧
   (∀ k∈ks,∀ o,st[k]?=some o→o.isMap=false→∀ x,x<o.els.length*o.sz→g'.Im (g.β k) x)
 |[],g,st,h=>⟨g,Go1.refl h,rfl,rfl,fun _ hk=>by cases hk⟩
 |k::r,g,st,h=>by
  have u:=h.lend1 k;obtain⟨g',E,hb,N,hi⟩:=SR.lend r u.sr;refine⟨g',u.trans E,hb,N,?_⟩;intro I Dt o J hm x O;rcases AA.1 Dt with rfl | Dt
  ·exact(E.im.im _ _ (.inr ⟨o,J,hm,rfl,O⟩)).1
  ·obtain⟨o',M,U,V,X,_⟩:=u.evo I o J;refine hi I Dt o' M ((Mq U V).trans hm) x ?_;grind
theorem SR.drew(h:SR base w g st)(n:Nat):Go1 base w g st {w with drawn:=n} g st:=by
 have:=h.more (w':={w with drawn:=n}) (Im':=g.Im) ⟨rfl,rfl,rfl,Az _⟩ (fun _ _=>rfl) (fun _ _ h=>h) (fun _ _ h=>.inl h) (fun b o hb=>h.im b o hb);exact this
end Go.Proofs.YtijnglngaogdjaaGreatDoor.PI
namespace Go.Proofs.YtijnglngaogdjaaGreatDoor.PI
open Go Go.RowKit
def UA:Value→Option D
 |.bool b=>some (.bool b)
 |.int k n=>some (.int k n)
 |.string s=>some (.str s.data.toList)
 |.pointer none=>some .nilp
 |.map none=>some .nilm
 |.nilFunc=>some .nilf
 |.slice none 0 0=>some (.slc 0 [] true)
 |_=>none
def Ob:List Value→Option (List D)
 |[]=>some []
 |v::l=>match UA v,Ob l with
  |some x,some y=>some (x::y)
  |_,_=>none
def Lj:Value→Option D
 |.agg cs=>(Ob cs.toList).map .agg
 |.tuple _=>none
 |v=>UA v
def DN:Operand→Option PA
 |.tmp t=>some (.s t)
 |.const v=>(Lj v).map .c
 |.global g=>some (.g g)
 |.func f=>if f<5000000 then some (.c (.clo f []))else none
def Hi:List Operand→Option (List PA)
 |[]=>some []
 |x::l=>match DN x,Hi l with
  |some a,some b=>some (a::b)
  |_,_=>none
def Oc:Option Operand→Option (Option PA)
 |none=>some none
 |some x=>(DN x).map some
def Ee(P:Program)(t:TypeId):Option Bool:=match P.underlying t with
 |some (.struct _) | some (.array _ _)=>some true
 |some _=>some false
 |none=>none
def DZ(P:Program)(t:TypeId):Option Nat:=(P.info? t).map (·.size)
def GR(P:Program)(t:TypeId):Option D:=match P.info? t with
 |some i=>match i.zero with
  |some v=>Lj v
  |none=>none
 |none=>none
variable {d:D}{v:Value}{st:St}{g:Ghost}{w:World}
theorem kN(h:UA v=some d):RepV w g st d v∧d.pure1=true:=by
 unfold UA at h
 split at h <;> simp at h <;> subst h
 ·exact⟨.bool _,rfl⟩
 ·exact⟨.int _ _,rfl⟩
 ·refine⟨?_,rfl⟩;rename_i s;have:s=⟨s.data.toList.toArray⟩:=by rw[BE]
  conv=>rhs; rw[this]
  exact .str _
 ·exact⟨.nilp,rfl⟩
 ·exact⟨.nilm,rfl⟩
 ·exact⟨.nilf,rfl⟩
 ·exact⟨.slcE 0 true none 0 (fun _=>rfl),rfl⟩
theorem kO{w:World}{g:Ghost}{st:St}:∀ {vs:List Value} {ds:List D},Ob vs=some ds→ds.length=vs.length∧(∀ (i:Nat) d v,ds[i]?=some d→vs[i]?=some v→RepV w g st d v)∧∀ d∈ds,d.pure1=true
 |[],ds,h=>by simp[Ob]at h; subst h; exact⟨rfl,fun i d v h=>by simp at h,fun d h=>by cases h⟩
 |v::l,ds,h=>by
  unfold Ob at h
  split at h
  ·rename_i x y u E;simp at h; subst h;obtain⟨I,J,M⟩:=kO (w:=w) (g:=g) (st:=st) E;have N:=kN (w:=w) (g:=g) (st:=st) u;grind
  ·cases h
theorem NN(h:Lj v=some d):RepV w g st d v:=by
 unfold Lj at h
 split at h
 ·rename_i cs
  cases u:Ob cs.toList with
  |none=>simp[u]at h
  |some ds=>
   simp[u]at h; subst h;obtain⟨E,I,_⟩:=kO (w:=w) (g:=g) (st:=st) u;have:=RepV.agg ds cs.toList E I;omega
 ·cases h
 ·exact(kN h).1
variable {st':St}{g':Ghost}{w':World}
theorem RepV.pure(M:ImLe w g w' g')(h:RepV w g st d v)(N:d.pure1=true):RepV w' g' st' d v:=by
 revert N
 induction h with
 |int k n=>exact fun _=>.int k n
 |bool b=>exact fun _=>.bool b
 |str s=>exact fun _=>.str s
 |nilp=>exact fun _=>.nilp
 |nilm=>exact fun _=>.nilm
 |gmap es b O clock E I U=>exact fun _=>.gmap es b O clock (M.kp _ _ E I) I U
 |slcE sz t a cap h=>exact fun _=>.slcE sz t a cap h
 |slc els t b off cap sz val E I U J X Y V _ ih=>
  exact fun _=>.slc els t b off cap sz val E I U J X Y (fun i j d u=>⟨(M.im _ _ (V i j d u).1).1,(M.im _ _ (V i j d u).1).2.trans (V i j d u).2⟩) (fun i j d u=>ih i j d u (J i j d u))
 |clo f ds vs E I=>
  intro N
  cases ds with
  |nil=>exact .clo f [] vs E (fun i d v h=>by simp at h)
  |cons x l=>cases N
 |nilf=>exact fun _=>.nilf
 |row=>intro h; cases h
 |bsl=>intro h; cases h
 |mapv=>intro h; cases h
 |ptr=>intro h; cases h
 |rptr=>intro h; cases h
 |eptr=>intro h; cases h
 |agg=>intro h; cases h
 |tup=>intro h; cases h
 |junk=>intro h; cases h
theorem RepV.eptr_any{n:Nat}(E:ImLe w g w' g')(h:RepV w g st (.eptr d n) v):RepV w' g' st' (.eptr d n) v:=by
 cases h with
 |eptr _ _ b o val J I M=>exact .eptr d n b o val J (fun j d u=>⟨(E.im _ _ (I j d u).1).1,(E.im _ _ (I j d u).1).2.trans (I j d u).2⟩) (fun j d u=>(M j d u).pure E (J j d u))
theorem RepV.purA{w w':World}{g g':Ghost}{st st':St}{d:D}{v:Value}(J:ImLe w g w' g')(h:RepV w g st d v)(u:purA d=true):RepV w' g' st' d v:=by
 cases h with
 |agg ds vs I E=>
  simp only[PI.purA,Ag]at u;exact .agg ds vs I fun i d v O hv=>(E i d v O hv).pure J (u d (Ah O))
 |int k n=>exact .int k n
 |bool b=>exact .bool b
 |str s=>exact .str s
 |nilp=>exact .nilp
 |nilm=>exact .nilm
 |gmap es b M clock I E N=>exact .gmap es b M clock (J.kp _ _ I E) E N
 |slcE sz t a cap h=>exact .slcE sz t a cap h
 |slc els t b off cap sz val I E N U V X Y h7=>exact RepV.pure J (.slc els t b off cap sz val I E N U V X Y h7) rfl
 |clo f ds vs I E=>exact RepV.pure J (.clo f ds vs I E) u
 |nilf=>exact .nilf
 |row=>cases u
 |bsl=>cases u
 |mapv=>cases u
 |ptr=>cases u
 |rptr=>cases u
 |eptr=>cases u
 |tup=>cases u
 |junk=>cases u
theorem RepV.purR{w w':World}{g g':Ghost}{st st':St}{d:D}{v:Value}(E:ImLe w g w' g')(h:RepV w g st d v)(u:purR d=true):RepV w' g' st' d v:=by
 cases d with
 |tup l=>
  cases h with
  |tup _ vs J M=>
   simp only[PI.purR,Ag]at u;exact .tup l vs J fun i d v I hv=>(M i d v I hv).purA E (u d (Ah I))
 |_=>exact h.purA E u
def GlobOK(G:Dh)(w:World)(g:Ghost):Prop:=∀ n d,G n=some d→RepV w g [] (.eptr d 0) (.pointer (some ⟨n,0,none⟩))
variable {G:Dh}
theorem GlobOK.mono(h:GlobOK G w g)(u:ImLe w g w' g'):GlobOK G w' g':=fun n d E=>(h n d E).eptr_any u
def FR(w:World)(g:Ghost)(st:St)(fr:Frame)(a:Act):Prop:=∀ s,RepV w g st (fr s) (a.tmps.getD s undef)
variable {a:Act}{fr:Frame}
theorem FR.mono(h:FR w g st fr a)(u:ImLe w g w' g')(E:Evo g st g' st'):FR w' g' st' fr a:=fun s=>(h s).mono u E
theorem FR.put{dst:Option Nat}(h:FR w g st fr a)(u:∀ t,dst=some t→t<a.tmps.size)(E:RepV w g st d v):FR w g st (fr.put dst d) (a.put dst v):=by
 intro s
 cases dst with
 |none=>exact h s
 |some t=>
  have I:=u t rfl;simp only[Frame.put,Frame.set,Act.put]
  by_cases e:s=t
  ·simp_all
  ·rw[if_neg e];have:=h s;simpa[Array.getElem?_setIfInBounds,show ¬ t=s by omega]using this
theorem F3{x:Operand}{E:PA}(I:GlobOK G w g)(J:FR w g st fr a)(h:DN x=some E):RepV w g st (Dn G fr E) (a.eval x):=by
 cases x with
 |tmp t=>simp[DN]at h; subst h; exact J t
 |const v=>
  cases u:Lj v with
  |none=>simp[DN,u]at h
  |some d=>simp[DN,u]at h; subst h; exact NN u
 |global n=>
  simp[DN]at h; subst h;simp only[Dn]
  cases M:G n with
  |none=>exact .junk _
  |some d=>exact(I n d M).eptr_any (ImLe.refl _ _)
 |func f=>
  simp only[DN]at h
  split at h
  case isFalse=>cases h
  rename_i hf;simp only[C9]at h; subst h;have:=RepV.clo (w:=w) (g:=g) (st:=st) f [] [] rfl (fun i d v h=>by simp at h);rw[Oo hf,SM,Sy]at this;exact this
end Go.Proofs.YtijnglngaogdjaaGreatDoor.PI
namespace Go.Proofs.YtijnglngaogdjaaGreatDoor.PI
open Go Go.RowKit
def RunsTo(P:Program)(base:Nat)(w:World)(g:Ghost)(st:St)(s:Sem Value)(d:D)(st':St):Prop:=
 ∃ v w' g',s.run P w=.ok v w'∧Go1 base w g st w' g' st'∧RepV w' g' st' d v
variable {v:Value}{d:D}{i j key len off sz:Nat}{els:List D}{t:Bool}
section
variable {P:Program} {base:Nat} {w:World} {g:Ghost} {st:St}
theorem RunsTo.still(h:SR base w g st){s:Sem Value}(u:s.run P w=.ok v w)(E:RepV w g st d v):RunsTo P base w g st s d st:=
 ⟨v,w,g,u,Go1.refl h,E⟩
theorem Hd{k:IntKind}{n:Int}(h:RepV w g st (.int k n) v):v=.int k n:=by cases h; rfl
theorem JN{b:Bool}(h:RepV w g st (.bool b) v):v=.bool b:=by cases h; rfl
theorem JM{s:List UInt8}(h:RepV w g st (.str s) v):v=.string ⟨s.toArray⟩:=by cases h; rfl
theorem Wm(s:List UInt8):ByteArray.toList ⟨s.toArray⟩=s:=by
 simp_all
theorem Yz(s:ByteArray)(l:List UInt8)(h:s.data.toList=l):RepV w g st (.str l) (.string s):=by
 subst h;have:s=⟨s.data.toList.toArray⟩:=by rw[BE]
 conv=>rhs; rw[this]
 exact .str _
theorem um(op:BinOp)(x y:List UInt8)(d:D)(h:Uw op x y=some d):∃ v,(Op.stringOp op ⟨x.toArray⟩ ⟨y.toArray⟩).run P w=.ok v w∧RepV w g st d v:=by
 unfold Uw at h;unfold Op.stringOp;simp only[Wm];cases op <;> simp only[reduceCtorEq]at h <;> try (injection h with h; subst h; exact⟨_,rfl,.bool _⟩)
 split at h
 ·rename_i hl;simp at h; subst h
  have:¬ (((CU ⟨x.toArray⟩+CU ⟨y.toArray⟩:Nat):Int) > IntKind.i64.max):=by
   have e:IntKind.i64.max=9223372036854775807:=by decide
   rw[e];simp only[CU,Cu];omega
  simp only[this,if_false];exact⟨_,rfl,Yz _ _ (by simp)⟩
 ·cases h
theorem bN(op:BinOp)(t:TypeId)(x y:Operand)(a b:Value)(h:∀ u,a≠.agg u)(E:a≠.nilIface):(eqGuard op t x y a b).run P w=.ok () w:=by
 unfold eqGuard;simp_all
theorem Ybk(op:BinOp)(t:TypeId)(x y:D)(d:D)(vx vy:Value)(h:Dj op x y=some d)(N:RepV w g st x vx)(O:RepV w g st y vy) :
  (∃ v,(binOp op t vx vy).run P w=.ok v w∧RepV w g st d v)∧(∀ u,vx≠.agg u)∧vx≠.nilIface:=by
 unfold Dj at h
 split at h
 ·rename_i k a k' b;obtain rfl:=Hd N;obtain rfl:=Hd O;refine⟨?_,(by intro u e; cases e),(by intro e; cases e)⟩
  have arith:∀ q,Ic op k a b=some q→(op=.add∨op=.sub∨op=.mul)→(Op.intArith op k a b).run P w=.ok (.int k q) w:=by
   intro q E M;rcases M with rfl | rfl | rfl <;> simp[Ic]at E <;> subst E <;> rfl
  have div:∀ q,Ic op k a b=some q→(op=.quo∨op=.rem)→(Op.intDiv op k a b).run P w=.ok (.int k q) w:=by
   intro q E M;rcases M with rfl | rfl <;> simp[Ic]at E <;> obtain⟨U,rfl⟩:=E <;> simp[Op.intDiv,U]
  have bits:∀ q,Jd op k a b=some q→(Op.intBits op k a b).run P w=.ok (.int k q) w:=by
   intro q E;cases op <;> simp only[Jd,C9,reduceCtorEq]at E <;> subst E <;> rfl
  have cmp:∀ q,HK op a b=some q→(Op.intCmp op a b).run P w=.ok (.bool q) w:=by
   intro q E;cases op <;> simp[HK]at E <;> subst E <;> rfl
  have J:∀ q,J2 op k a b=some q→(Op.shift op k a k' b).run P w=.ok (.int k q) w:=by
   intro q E;unfold J2 at E
   split at E
   ·cases E
   ·rename_i hb;cases op <;> simp at E <;> subst E <;> simp[Op.shift,hb]
  cases op
  case shl=>
   simp only[]at h
   cases I:J2 .shl k a b with
   |none=>simp[I]at h
   |some q=>simp[I]at h; subst h; exact⟨_,by simp only[binOp]; exact J q I,.int _ _⟩
  case shr=>
   simp only[]at h
   cases I:J2 .shr k a b with
   |none=>simp[I]at h
   |some q=>simp[I]at h; subst h; exact⟨_,by simp only[binOp]; exact J q I,.int _ _⟩
  all_goals
   simp only[]at h
   split at h
   case isFalse=>cases h
   rename_i hk;subst hk;simp only[DA]at h;obtain⟨q,E,rfl⟩:=h
   first
    |exact⟨_,by simp only[binOp,ne_eq,not_true_eq_false,if_false]; exact arith q E (by simp),.int _ _⟩
    |exact⟨_,by simp only[binOp,ne_eq,not_true_eq_false,if_false]; exact div q E (by simp),.int _ _⟩
    |exact⟨_,by simp only[binOp,ne_eq,not_true_eq_false,if_false]; exact bits q E,.int _ _⟩
    |exact⟨_,by simp only[binOp,ne_eq,not_true_eq_false,if_false]; exact cmp q E,.bool _⟩
 ·rename_i a b;obtain rfl:=JM N;obtain rfl:=JM O;refine⟨?_,(by intro u e; cases e),(by intro e; cases e)⟩;obtain⟨v,V,X⟩:=um (P:=P) (w:=w) (g:=g) (st:=st) op a b d h;refine⟨v,?_,X⟩;cases op <;> first | exact V | (simp[Uw]at h; done)
 ·cases h
theorem Ybl(E:Bool)(t:TypeId)(I:P.underlying t=some .bool)(x y:D)(d:D)(vx vy:Value)(h:Lc E x y=some d)(J:RepV w g st x vx)(M:RepV w g st y vy) :
  (∃ v,(binOp (if E then .neq else .eql) t vx vy).run P w=.ok v w∧RepV w g st d v)∧(∀ u,vx≠.agg u)∧vx≠.nilIface:=by
 unfold Lc at h
 split at h
 ·rename_i a b;obtain rfl:=JN J;obtain rfl:=JN M;refine⟨?_,(by intro u e; cases e),(by intro e; cases e)⟩;simp at h; subst h;have he:(Op.equal t (.bool a) (.bool b)).run P w=.ok (a == b) w:=run_equalIn_bool w 9999 t a b I;refine⟨_,?_,.bool _⟩;cases E <;> simp[binOp,he]
 ·cases h
theorem Yia(op:UnOp)(x:D)(d:D)(vx:Value)(h:IS op x=some d)(u:RepV w g st x vx):∃ v,(Op.unary op vx).run P w=.ok v w∧RepV w g st d v:=by
 unfold IS at h
 split at h
 ·obtain rfl:=Hd u;simp only[C9]at h; subst h;exact⟨_,rfl,.int _ _⟩
 ·obtain rfl:=Hd u;simp only[DA]at h;obtain⟨q,E,rfl⟩:=h;simp only[Jd,C9]at E; subst E;exact⟨_,rfl,.int _ _⟩
 ·obtain rfl:=JN u;simp at h; subst h;exact⟨_,rfl,.bool _⟩
 ·cases h
theorem Mw{x:D}{n:Nat}(h:Fj x=some n)(u:RepV w g st x v):∃ k,v=.int k (n:Int):=by
 unfold Fj at h
 split at h
 ·obtain rfl:=Hd u;grind
 ·cases h
theorem GQ(h:Ff els i j=some d):∃ e,els[i]?=some e∧e.cells[j]?=some d:=by
 unfold Ff at h;grind
theorem GB{e:D}(u:els[i]?=some e)(E:e.cells[j]?=some d):Ff els i j=some d:=by
 simp[Ff,u,E]
theorem RepV.slc_mk{b cap:Nat}(I:0<sz)(hl:∀ e∈els,e.cells.length=sz)(u:els.length≤cap)(E:t=true→cap=els.length)
  (h:∀ i j d,Ff els i j=some d→d.pure1=true∧g.Im b (off+i*sz+j)∧∃ v,w.cell? ⟨b,off+i*sz+j,none⟩=some v∧RepV w g st d v) :
  RepV w g st (.slc sz els t) (.slice (some ⟨b,off,none⟩) els.length cap):=by
 by_cases he:els=[]
 ·subst he;exact .slcE sz t _ cap E
 ·refine .slc els t b off cap sz (fun i j=>(w.cell? ⟨b,off+i*sz+j,none⟩).getD undef) he I hl (fun i j d J=>(h i j d J).1) u E ?_ ?_
  ·grind
  ·grind
structure Els (w:World) (g:Ghost) (st:St) (v:Value) (sz:Nat) (els:List D):Prop where
 shape:∃ a cap,v=.slice a els.length cap∧(els≠[]→∃ b off,a=some ⟨b,off,none⟩∧0<sz∧
  ∀ i j d,Ff els i j=some d→∃ u,w.cell? ⟨b,off+i*sz+j,none⟩=some u∧RepV w g st d u∧u.oneCell'=true)
 pure:∀ i j d,Ff els i j=some d→d.pure1=true
 len:∀ e∈els,e.cells.length=sz
theorem Ow(h:RepV w g st (.slc sz els t) v):Els w g st v sz els:=by
 cases h with
 |slcE _ _ a cap h=>exact⟨⟨a,cap,rfl,fun h=>absurd rfl h⟩,fun i j d u=>by simp[Ff]at u,fun e he=>by cases he⟩
 |slc _ _ b off cap _ val O J M E U V N I=>
  exact⟨⟨_,cap,rfl,fun _=>⟨b,off,rfl,J,fun i j d u=>⟨_,(N i j d u).2,I i j d u,(I i j d u).oneCell (MF (E i j d u))⟩⟩⟩,E,M⟩
theorem WM(h:Ff ((els.drop off).take len) i j=some d):Ff els (off+i) j=some d∧i<len:=by
 obtain⟨e,he,u⟩:=GQ h;rw[BL]at he
 split at he
 ·rename_i hi;rw[BW]at he;exact⟨GB he u,hi⟩
 ·cases he
theorem X2(Y:SR base w g st){tot:Nat}(E:Gy st key tot off len=some (sz,els))(h:RepV w g st (.row key tot off len) v) :
  Els w g st v sz els∧∃ o,st[key]?=some o∧o.row=true∧o.sz=sz∧tot=o.els.length∧off+len≤tot∧els=(o.els.drop off).take len∧els.length=len∧v=.slice (some ⟨g.β key,off*o.sz,none⟩) len (g.γ key - off):=by
 unfold Gy at E
 cases h with
 |row _ _ _ _ o _ h0 J M h3 h4=>
  rw[J]at E;simp only at E
  split at E
  ·rename_i N;simp only[Ac,beq_iff_eq,decide_eq_true_eq]at N;simp only[C9,Dr]at E;obtain⟨rfl,rfl⟩:=E;obtain⟨rfl,hle⟩:=h4 N.1.2.symm;obtain⟨C,e,hb,_,V,hx,hC,O⟩:=Y.blk key o J (Kd M);have hl:((o.els.drop off).take len).length=len:=by rw[As,AE]; omega
   refine⟨⟨⟨_,_,by rw[hl],fun _=>⟨_,_,rfl,V,?_⟩⟩,?_,?_⟩,o,J,M,rfl,N.1.2.symm,hle,rfl,hl,rfl⟩
   ·intro i j d U;obtain⟨X,h6⟩:=WM U;obtain⟨h8,u,h9,I⟩:=O _ _ _ X;refine⟨u,?_,I,I.oneCell (MF (h8 M))⟩;simp only[World.cell?,hb];grind
   ·intro i j d U;obtain⟨X,_⟩:=WM U;grind
   ·grind
  ·cases E
theorem SO(h:d.pure1=true):d.cells=[d]:=by
 cases d <;> simp_all [D.pure1,D.cells]
theorem Wu{sz:Nat}{ag:Bool}(N:0<sz)(E:ag=true∨sz=1):∀ (n:Nat) (cs:List D),n*sz≤cs.length→(∀ x∈cs,x.cells=[x])→
  (Hy sz ag cs n).length=n∧(∀ e∈Hy sz ag cs n,e.cells.length=sz)∧∀ i j d,Ff (Hy sz ag cs n) i j=some d→cs[i*sz+j]?=some d∧i<n∧j<sz
 |0,cs,_,_=>⟨rfl,fun e he=>by simp[Hy]at he,fun i j d u=>by simp[Hy,Ff]at u⟩
 |n+1,cs,hl,I=>by
  rw[AX,Bw]at hl;obtain⟨O,X,U⟩:=Wu N E n (cs.drop sz) (by rw[AE]; omega) (fun x V=>I x (Ce V))
  have M:(D.mk ag (cs.take sz)).cells=cs.take sz:=by
   rcases E with rfl | rfl
   ·rfl
   ·cases ag
    ·cases cs with
     |nil=>simp at hl
     |cons x r=>simp[D.mk]; exact I x (by simp)
    ·rfl
  refine⟨by simp[Hy,O],?_,?_⟩
  ·intro e he;simp only[Hy,AA]at he;grind
  ·intro i j d u;obtain⟨e,he,J⟩:=GQ u
   cases i with
   |zero=>
    simp only[Hy,AB,C9]at he;grind
   |succ i=>
    simp only[Hy,Bt]at he;obtain⟨Y,h5,h6⟩:=U i j d (GB he J);grind
theorem ep(hS:SR base w g st){n:Nat}{ag:Bool}(V:JI st key off n sz ag=some els)(hr:RepV w g st (.bsl key off n sz ag) v)
  (ad:∀ d∈els,purA d=true):Els w g st v sz els∧els.length=n∧∃ o cap,st[key]?=some o∧o.row=false∧o.sz=1∧off+n*sz≤o.els.length∧n≤cap∧v=.slice (some ⟨g.β key,off,none⟩) n cap∧0<sz∧∀ i j d,Ff els i j=some d→i<n∧j<sz:=by
 unfold JI at V
 cases hr with
 |bsl _ _ _ _ _ o cap Y I J ae=>
  rw[Y]at V;simp only[Am,C9,Ac,decide_eq_true_eq,A5,beq_iff_eq,AL]at V;obtain⟨⟨⟨⟨_,h1⟩,h2⟩,h3⟩,rfl⟩:=V;obtain⟨C,e,hb,_,a6,hx,M,ab⟩:=hS.blk key o Y (LQ J);rw[I]at M;simp only[Ak,if_false]at M;obtain⟨c1,c2,c3⟩:=Wu h2 h3 n (o.els.drop off) (by rw[AE]; omega) (fun x hx=>M.2.2 x (Ce hx))
  have X:∀ i j d,Ff (Hy sz ag (o.els.drop off) n) i j=some d→d.pure1=true:=by
   intro i j d E;obtain⟨N,_⟩:=c3 i j d E;rw[BW]at N;obtain⟨e0,a0,O⟩:=GQ E;have U:=ad e0 (Ah a0)
   cases e0 with
   |agg l=>
    simp only[purA,Ag]at U;exact U d (Ah O)
   |_=>
    simp only[D.cells]at O;have:=Ah O;simp only[AP]at this;rw[this];exact U
  refine⟨⟨⟨_,cap,by rw[c1],fun _=>⟨_,_,rfl,h2,?_⟩⟩,X,c2⟩,c1,o,cap,Y,I,J,h1,ae,rfl,h2,fun i j d E=>(c3 i j d E).2⟩;intro i j d E;obtain⟨N,_⟩:=c3 i j d E;rw[BW]at N;have U:=M.2.2 d (Ah N);obtain⟨_,u,h8,h9⟩:=ab (off+(i*sz+j)) 0 d (GB N (by rw[U]; rfl));refine⟨u,?_,h9,h9.oneCell (MF (X i j d E))⟩;rw[M.2.1]at h8;simp only[World.cell?,hb];grind
end
end Go.Proofs.YtijnglngaogdjaaGreatDoor.PI
namespace Go.Proofs.YtijnglngaogdjaaGreatDoor.PI
open Go Go.RowKit
variable {v:Value}{els:List D}{n off sz:Nat}{d:D}{ag:Bool}{t:TypeId}
section
variable {P:Program} {base:Nat} {w:World} {g:Ghost} {st:St}
def IX(g:Ghost)(st:St)(ks:List Nat):Prop:=∀ k∈ks,∀ o,st[k]?=some o→o.isMap=false→∀ x,x<o.els.length*o.sz→g.Im (g.β k) x
theorem RepV.loose{t:Bool}(h:RepV w g st (.slc sz els t) v):RepV w g st (.slc sz els false) v:=by
 cases h with
 |slcE _ _ a cap h=>exact .slcE sz false a cap fun e=>by cases e
 |slc _ _ b off cap _ val E I J u M U N O=>exact .slc els false b off cap sz val E I J u M (fun e=>by cases e) N O
theorem RepV.nz{t:Bool}(h:RepV w g st (.slc sz els t) v):RepV w g st (.slc (PI.nz sz els) els false) v:=by
 have h:=h.loose
 cases els with
 |nil=>
  cases h with
  |slcE _ _ a cap h=>exact .slcE _ false a cap fun e=>by cases e
  |slc _ _ b off cap _ val u I J E M N O U=>exact absurd rfl u
 |cons a l=>exact h
theorem gp(O:SR base w g st){y:D}(h:DD st d=some y)(U:RepV w g st d v)(hL:IX g st (Fp d)):RepV w g st y v∧y.pure1=true:=by
 cases d with
 |row key tot off len=>
  simp only[DD,DA]at h;obtain⟨⟨sz,els⟩,he,rfl⟩:=h;obtain⟨E,o,N,u,J,a5,hle,V,hlen,rfl⟩:=X2 O he U;refine⟨RepV.nz (t:=false) ?_,rfl⟩;obtain⟨C,e,hb,_,X,Y,hC,a6⟩:=O.blk key o N (Kd u);rw[u]at hC;simp only[if_true]at hC;have M:els.length≤g.γ key - off:=by omega
  subst J
  show RepV w g st (.slc o.sz els false) (.slice (some ⟨g.β key,off*o.sz,none⟩) len (g.γ key - off))
  rw[← hlen];refine .slc_mk X E.len M (fun h=>by cases h) ?_;intro i j d I;refine⟨E.pure i j d I,?_,?_⟩
  ·refine hL key (by simp[Fp]) o N (Kd u) _ ?_;subst V;obtain⟨h1,h2⟩:=WM I;obtain⟨e1,h3,h4⟩:=GQ h1;have h5:=Y e1 (Ah h3);have h6:j<o.sz:=by rw[← h5]; exact(Ab.1 h4).1
   have h7:off+i<o.els.length:=(Ab.1 h3).1
   calc off*o.sz+i*o.sz+j<off*o.sz+i*o.sz+o.sz:=by omega
    _=(off+i+1)*o.sz:=by rw[AX,AX,Bw]
    _≤o.els.length*o.sz:=AK _ h7
  ·obtain⟨a,cap,hv,a0⟩:=E.shape
   have a1:els≠[]:=by
    rintro rfl;simp[Ff]at I
   grind
 |slc sz els t=>
  simp only[DD,C9]at h;subst h;exact⟨U.nz,rfl⟩
 |bsl key off n sz ag=>
  simp only[DD,DA]at h;obtain⟨els,he,rfl⟩:=h;unfold G0 at he
  split at he
  case h_2=>cases he
  rename_i ab a2
  split at he
  case isFalse=>cases he
  rename_i a3;simp only[C9]at he;subst he;obtain⟨E,hlen,o,cap,N,u,ac,hle,M,rfl,J,a4⟩:=ep O a2 U (Ag.1 a3);refine⟨RepV.nz (t:=false) ?_,rfl⟩;rw[← hlen];refine .slc_mk J E.len (by omega) (fun h=>by cases h) ?_;intro i j d I;obtain⟨h5,h6⟩:=a4 i j d I;refine⟨E.pure i j d I,?_,?_⟩
  ·have Y:off+i*sz+j<o.els.length*o.sz:=by
    have h7:(i+1)*sz≤n*sz:=AK _ h5;grind
   exact hL key (by simp[Fp]) o N (LQ ac) _ Y
  ·obtain⟨a,bb,hv,a0⟩:=E.shape
   have a1:ab≠[]:=by
    grind
   grind
 |_=>
  simp only[DD]at h;grind
theorem Zd(I:SR base w g st):∀ {ds ys:List D},D3 st ds=some ys→IX g st (ds.flatMap Fp)→ys.length=ds.length∧
  (∀ (i:Nat) y v,ys[i]?=some y→(∀ d,ds[i]?=some d→RepV w g st d v)→RepV w g st y v)∧ys.all D.pure1=true
 |[],ys,h,_=>by simp[D3]at h; subst h; exact⟨rfl,fun i y v h=>by simp at h,rfl⟩
 |d::l,ys,h,J=>by
  unfold D3 at h
  split at h
  ·rename_i x y u O;simp at h; subst h;obtain⟨U,V,X⟩:=Zd I O (fun k hk=>J k (by simp only[An,AF]; exact .inr hk));have M:IX g st (Fp d):=fun k hk=>J k (by simp only[An,AF]; exact .inl hk);refine⟨by simp[U],?_,?_⟩
   ·intro i z v E hv
    cases i with
    |zero=>simp at E; subst E; exact(gp I u (hv d rfl) M).1
    |succ i=>simp at E; exact V i z v E (fun Y N=>hv Y (by simpa using N))
   ·simp only[AU,X,Ch]
    cases d with
    |row key tot off len=>
     simp only[DD,DA]at u;obtain⟨p,_,rfl⟩:=u;rfl
    |slc sz els t=>simp only[DD,C9]at u; subst u; rfl
    |bsl key off n sz ag=>
     simp only[DD,DA]at u;obtain⟨p,_,rfl⟩:=u;rfl
    |_=>
     simp only[DD]at u;grind
  ·cases h
theorem fe(I:SR base w g st){y:D}(h:D4 st d=some y)(J:RepV w g st d v)(M:IX g st (keys d)):RepV w g st y v∧purA y=true:=by
 cases d with
 |agg l=>
  simp only[D4,DA]at h;obtain⟨ys,O,rfl⟩:=h;obtain⟨E,u,U⟩:=Zd I O M
  cases J with
  |agg _ vs V X=>
   exact⟨.agg ys vs (E.trans V) fun i y v N hv=>u i y v N fun d Y=>X i d v Y hv,U⟩
 |tup l=>simp[D4]at h
 |_=>
  simp only[D4]at h;obtain⟨E,u⟩:=gp I h J M;refine⟨E,?_⟩;cases y <;> first | exact u | (simp[D.pure1]at u; done)
theorem gv(J:SR base w g st):∀ {ds ys:List D},D2 st ds=some ys→IX g st (ds.flatMap keys)→ys.length=ds.length∧
  (∀ (i:Nat) y v,ys[i]?=some y→(∀ d,ds[i]?=some d→RepV w g st d v)→RepV w g st y v)∧∀ y∈ys,purA y=true
 |[],ys,h,_=>by simp[D2]at h; subst h; exact⟨rfl,fun i y v h=>by simp at h,fun y M=>by cases M⟩
 |d::l,ys,h,N=>by
  unfold D2 at h
  split at h
  ·rename_i x y u M;simp at h; subst h;obtain⟨X,Y,h3⟩:=gv J M (fun k hk=>N k (by simp only[An,AF]; exact .inr hk));have I:IX g st (keys d):=fun k hk=>N k (by simp only[An,AF]; exact .inl hk);refine⟨by simp[X],?_,?_⟩
   ·intro i z v E hv
    cases i with
    |zero=>simp at E; subst E; exact(fe J u (hv d rfl) I).1
    |succ i=>simp at E; exact Y i z v E (fun d' O=>hv d' (by simpa using O))
   ·intro z E;rcases AA.1 E with rfl | E
    ·
     cases d with
     |agg l=>
      simp only[D4,DA]at u;obtain⟨ys,V,rfl⟩:=u;exact(Zd J V I).2.2
     |tup l=>simp[D4]at u
     |row key tot off len=>
      simp only[D4,DD,DA]at u;obtain⟨p,_,rfl⟩:=u;rfl
     |slc sz els t=>simp only[D4,DD,C9]at u; subst u; rfl
     |bsl key off n sz ag=>
      simp only[D4,DD,DA]at u;obtain⟨p,_,rfl⟩:=u;rfl
     |_=>
      simp only[D4,DD]at u
      split at u
      ·rename_i hp; simp only[C9]at u; subst u; exact hp
      ·cases u
    ·grind
  ·cases h
theorem NJ(h:Ee P t=some ag):(isAgg t).run P w=.ok ag w:=by
 unfold Ee at h
 cases hu:P.underlying t with
 |none=>simp[hu]at h
 |some u=>
  cases u <;> simp[hu]at h <;> subst h <;> simp[isAgg,run_underlying hu]
theorem Js(h:DZ P t=some n):(sizeOf t).run P w=.ok n w:=by
 unfold DZ at h
 cases hi:P.info? t with
 |none=>simp[hi]at h
 |some i=>simp[hi]at h; subst h; simp[sizeOf,typeInfo,hi]
theorem xm{b:Nat}{cs:List D}(I:Ee P t=some ag)(N:DZ P t=some n)(J:ag=false→n=1)(hl:cs.length=n)
  (h:∀ (j:Nat) d,cs[j]?=some d→∃ u,w.cell? ⟨b,off+j,none⟩=some u∧RepV w g st d u) :
  ∃ v,(loadVar t ⟨b,off,none⟩).run P w=.ok v w∧RepV w g st (.mk ag cs) v:=by
 cases ag with
 |true=>
  refine⟨.agg ((CQ n).map fun j=>(w.cell? ⟨b,off+j,none⟩).getD undef).toArray,?_,?_⟩
  ·have E:∀ j,j<n→w.cell? ((⟨b,off,none⟩:Addr).add j)=some ((w.cell? ⟨b,off+j,none⟩).getD undef):=by
    intro j O;rw[cell?_add];obtain⟨u,M,_⟩:=h j cs[j] (by simp[hl,O]);simp[M]
   simp only[loadVar,Sem.run_bind,NJ I,Result.andThen_ok,if_true,Js N,run_loadCells w _ n _ E];rfl
  ·refine .agg cs _ (by simp[hl]) ?_;grind
 |false=>
  have E:=J rfl;subst E
  match cs,hl with
  |[d],_=>
   obtain⟨u,M,U⟩:=h 0 d rfl;refine⟨u,?_,U⟩;simp only[loadVar,Sem.run_bind,NJ I,Result.andThen_ok,Ak,if_false,run_load];grind
theorem W4{l:List D}{j:Nat}(h:((l.drop off).take n)[j]?=some d):l[off+j]?=some d∧j<n:=by
 grind
theorem jQ(hS:SR base w g st){p:D}(ha:Ee P t=some ag)(hn:DZ P t=some n)(h:EU st n ag p=some d)(V:RepV w g st p v) :
  ∃ u,(Instr.loadAt t v).run P w=.ok u w∧RepV w g st d u:=by
 unfold EU at h
 split at h
 ·cases h
 rename_i ae;have X:ag=false→n=1:=by intro e; subst e; simpa using ae
 have go:∀ (b off:Nat) (cs:List D),v=.pointer (some ⟨b,off,none⟩)→cs.length=n→(∀ (j:Nat) d,cs[j]?=some d→∃ u,w.cell? ⟨b,off+j,none⟩=some u∧RepV w g st d u)→d=.mk ag cs→
   ∃ u,(Instr.loadAt t v).run P w=.ok u w∧RepV w g st d u:=by
  intro b off cs hv hl hc M;subst hv; subst M;obtain⟨u,I,U⟩:=xm (P:=P) ha hn X hl hc;exact⟨u,by simpa[Instr.loadAt,Instr.sureAddr]using I,U⟩
 split at h
 ·rename_i key off
  cases V with
  |ptr _ _ o N E Y=>
   rw[N]at h;simp only[E,A0,A1,decide_eq_true_eq,Am,C9]at h;obtain⟨hle,rfl⟩:=h;obtain⟨C,e,hb,_,aa,hx,O,J⟩:=hS.blk key o N (LQ Y);rw[E]at O;simp only[Ak,if_false]at O;refine go _ _ _ rfl (by rw[As,AE]; omega) ?_ rfl;intro j d M;obtain⟨I,U⟩:=W4 M;have h3:=O.2.2 d (Ah I);obtain⟨_,u,h5,h6⟩:=J (off+j) 0 d (GB I (by rw[h3]; rfl));refine⟨u,?_,h6⟩;rw[O.2.1]at h5;simp only[World.cell?,hb];grind
 ·rename_i key tot i off
  cases V with
  |rptr _ _ _ _ o _ _ N E h3 h4=>
   rw[N]at h;simp only[E,A1,beq_iff_eq]at h
   split at h
   ·rename_i ac
    split at h
    ·rename_i el a0;simp only[Am,C9]at h;obtain⟨hle,rfl⟩:=h;obtain⟨C,e,hb,_,aa,hx,O,J⟩:=hS.blk key o N (Kd E);refine go _ _ _ (h4 ac.symm) (by rw[As,AE]; omega) ?_ rfl;intro j d M;obtain⟨I,U⟩:=W4 M;obtain⟨_,u,h5,h6⟩:=J i (off+j) d (GB a0 I);refine⟨u,?_,h6⟩;simp only[World.cell?,hb];grind
    ·cases h
   ·cases h
 ·rename_i el off
  cases V with
  |eptr _ _ b o val h0 I U=>
   grind
 ·cases h
end
end Go.Proofs.YtijnglngaogdjaaGreatDoor.PI
namespace Go.Proofs.YtijnglngaogdjaaGreatDoor.PI
open Go Go.RowKit
variable {v vi:Value}{cap h key l len n off sz tot:Nat}{d p:D}{elem t:TypeId}{sl:Bool}{vhi vlo:Option Value}{hi lo:Option D}{els:List D}
section
variable {P:Program} {base:Nat} {w:World} {g:Ghost} {st:St}
theorem YX{i o:Nat}(hl:Eu st key tot=true)(E:RepV w g st (.rptr key tot i o) v) :
  ∃ u,st[key]?=some u∧u.row=true∧tot=u.els.length∧v=.pointer (some ⟨g.β key,i*u.sz+o,none⟩):=by
 cases E with
 |rptr _ _ _ _ u _ J I M N O=>
  have:tot=u.els.length:=by
   simp only[Eu,I,Ac,beq_iff_eq]at hl;omega
  grind
theorem OR(hl:Eu st key tot=true)(E:RepV w g st (.row key tot off len) v) :
  ∃ u,st[key]?=some u∧u.row=true∧tot=u.els.length∧v=.slice (some ⟨g.β key,off*u.sz,none⟩) len (g.γ key - off)∧off+len≤tot:=by
 cases E with
 |row _ _ _ _ u _ J I M N O=>
  have:tot=u.els.length:=by
   simp only[Eu,I,Ac,beq_iff_eq]at hl;omega
  grind
theorem iz(h:EK st off p=some d)(u:RepV w g st p v):∃ b o,v=.pointer (some ⟨b,o,none⟩)∧RepV w g st d (.pointer (some ⟨b,o+off,none⟩)):=by
 unfold EK at h
 split at h
 ·simp at h; subst h
  cases u with
  |ptr key o' o N E I=>exact⟨_,_,rfl,.ptr _ _ o N E I⟩
 ·split at h
  ·rename_i key tot i o hl;simp at h; subst h;obtain⟨O,J,M,X,rfl⟩:=YX hl u;refine⟨_,_,rfl,.rptr _ _ _ _ O _ rfl J M (by omega) fun _=>?_⟩;grind
  ·cases h
 ·simp at h; subst h
  cases u with
  |eptr el U b o val V J M=>exact⟨_,_,rfl,by rw[Nat.add_assoc]; exact .eptr _ _ b o val V J M⟩
 ·cases h
theorem wR{s:TypeId}{E:Array Field}{f:Nat}{I:Field}(J:P.underlying s=some (.struct E))(M:E[f]?=some I)(N:DZ P I.type=some n)(O:n≠0)
  (h:EK st I.offset p=some d) (U:RepV w g st p v):∃ u,(Instr.fieldAt s v f).run P w=.ok u w∧RepV w g st d u:=by
 obtain⟨b,o,rfl,V⟩:=iz h U;refine⟨_,?_,V⟩;simp[Instr.fieldAt,run_underlying J,M,Instr.sureAddr,fieldPlace,Js N,O,I3]
theorem m7{i:D}(I:P.underlying t=some (.array len elem))(J:DZ P elem=some n)
  (h:GS st len n p i=some d) (M:RepV w g st p v) (hi:RepV w g st i vi):∃ u,(Instr.indexAt t v vi).run P w=.ok u w∧RepV w g st d u:=by
 unfold GS at h
 cases E:Fj i with
 |none=>simp[E]at h
 |some j=>
  simp only[E,Am]at h;obtain⟨O,h⟩:=h;obtain⟨k,rfl⟩:=Mw E hi;obtain⟨b,o,rfl,N⟩:=iz h M;refine⟨_,?_,N⟩;simp only[Instr.indexAt,Sem.run_bind,asIntOf,Sem.run_pure,run_underlying I,Result.andThen_ok,Instr.sureAddr];have:(0:Int)≤(j:Int)∧(j:Int)<(len:Int):=by omega
  simp[this,Js J,I3]
theorem m4{x i:D}(ht:P.underlying t=some (.slice elem))(hn:DZ P elem=some n)
  (h:Fy st n x i=some d) (O:RepV w g st x v) (hi:RepV w g st i vi):∃ u,(Instr.indexAt t v vi).run P w=.ok u w∧RepV w g st d u:=by
 unfold Fy at h
 cases U:Fj i with
 |none=>simp[U]at h
 |some j=>
  simp only[U]at h;obtain⟨k,rfl⟩:=Mw U hi
  have go:∀ b o len cap,v=.slice (some ⟨b,o,none⟩) len cap→j<len→(Instr.indexAt t v (.int k (j:Int))).run P w=.ok (.pointer (some ⟨b,o+j*n,none⟩)) w:=by
   intro b o len cap hv J;subst hv;simp only[Instr.indexAt,Sem.run_bind,asIntOf,Sem.run_pure,run_underlying ht,Result.andThen_ok];have:(0:Int)≤(j:Int)∧(j:Int)<(len:Int):=by omega
   simp[this,Js hn,I3]
  split at h
  ·rename_i sz els tg
   split at h
   ·rename_i el E;simp only[beq_iff_eq,Am,C9]at h;obtain⟨rfl,rfl⟩:=h
    cases O with
    |slcE=>simp at E
    |slc _ _ b off cap _ val Y h2 h3 ab h4 h5 h6 h7=>
     refine⟨_,go _ _ _ _ rfl (Ab.1 E).1,?_⟩;have:=RepV.eptr (w:=w) (g:=g) (st:=st) el 0 b (off+j*sz) (val j) (fun q d M=>ab j q d (GB E M)) (fun q d M=>h6 j q d (GB E M)) (fun q d M=>h7 j q d (GB E M));omega
   ·cases h
  ·rename_i key tot off len
   split at h
   ·rename_i o N
    split at h
    ·rename_i hc;simp only[Ac,beq_iff_eq,decide_eq_true_eq]at hc;simp only[C9]at h;subst h;obtain⟨⟨⟨I,a3⟩,V⟩,J⟩:=hc;obtain⟨ob,Y,h2,h3,rfl,h5⟩:=OR (by simp[Eu,N,I,V]) O;obtain rfl:ob=o:=Au (Y.symm.trans N);refine⟨_,go _ _ _ _ rfl J,.rptr _ _ _ _ ob _ rfl N h2 (by omega) fun _=>?_⟩;grind
    ·cases h
   ·cases h
  ·rename_i key off m a4 ag;simp only[Am,C9]at h;obtain⟨⟨J,rfl⟩,rfl⟩:=h
   cases O with
   |bsl _ _ _ _ _ o cap N I X _=>exact⟨_,go _ _ _ _ rfl J,.ptr _ _ o N I X⟩
  ·cases h
theorem O1{i:D}{y:Nat}{code:BoundsCode}(h:Fj i=some n)(hi:RepV w g st i vi)(u:n≤y):(Instr.sliceBound vi y code).run P w=.ok n w:=by
 obtain⟨k,rfl⟩:=Mw h hi;have:(0:Int)≤(n:Int)∧(n:Int)≤(y:Int):=by omega
 simp[Instr.sliceBound,asIntOf,this]
theorem SK(hl:FJ lo 0=some l)(u:FJ hi len=some h)
  (J:∀ d v,lo=some d→vlo=some v→RepV w g st d v) (M:∀ d v,hi=some d→vhi=some v→RepV w g st d v) (N:lo.isSome=vlo.isSome) (O:hi.isSome=vhi.isSome)
  (U:l≤h) (E:h≤cap):(Instr.sliceBounds sl len cap vlo vhi none).run P w=.ok (l,h,cap) w:=by
 have V:∀ v d,vlo=some v→lo=some d→(Instr.sliceBound v h .sliceB).run P w=.ok l w:=by
  intro v d hv I;subst I;simp only[FJ]at hl;exact O1 hl (J d v rfl hv) U
 have X:∀ v d code,vhi=some v→hi=some d→(Instr.sliceBound v cap code).run P w=.ok h w:=by
  intro v d code hv I;subst I;simp only[FJ]at u;exact O1 u (M d v rfl hv) E
 cases hi <;> cases vhi <;> simp only[BX,BY,reduceCtorEq]at O <;> cases lo <;> cases vlo <;> simp only[BX,BY,reduceCtorEq]at N <;>
  simp only[FJ,C9]at hl u
 ·subst hl; subst u; simp[Instr.sliceBounds]
 ·subst u; simp[Instr.sliceBounds,V _ _ rfl rfl]
 ·subst hl; simp[Instr.sliceBounds,X _ _ _ rfl rfl]
 ·simp[Instr.sliceBounds,X _ _ _ rfl rfl,V _ _ rfl rfl]
theorem wE{I J:D}{u vm:Value}(hl:FJ lo 0=some l)(hh:Fj I=some h)(hm:Fj J=some h)
  (M:∀ d v,lo=some d→vlo=some v→RepV w g st d v) (N:RepV w g st I u) (O:RepV w g st J vm) (U:lo.isSome=vlo.isSome)
  (V:l≤h) (E:h≤cap):(Instr.sliceBounds sl len cap vlo (some u) (some vm)).run P w=.ok (l,h,h) w:=by
 have e2:∀ v d,vlo=some v→lo=some d→(Instr.sliceBound v h .slice3C).run P w=.ok l w:=by
  intro v d hv hd;subst hd;simp only[FJ]at hl;exact O1 hl (M d v rfl hv) V
 have X:∀ code,(Instr.sliceBound vm cap code).run P w=.ok h w:=fun code=>O1 hm O E;have Y:∀ code,(Instr.sliceBound u h code).run P w=.ok h w:=fun code=>O1 hh N (Az _);cases lo <;> cases vlo <;> simp only[BX,BY,reduceCtorEq]at U <;> simp only[FJ,C9]at hl
 ·subst hl; simp[Instr.sliceBounds,X,Y]
 ·simp[Instr.sliceBounds,X,Y,e2 _ _ rfl rfl]
theorem Wt{i j:Nat}(u:Ff ((els.take h).drop l) i j=some d):Ff els (l+i) j=some d∧l+i<h:=by
 obtain⟨e,he,u⟩:=GQ u;rw[BW,BL]at he
 split at he
 ·rename_i hi; exact⟨GB he u,hi⟩
 ·cases he
theorem Yhs{J tg':Bool}{a:Option Addr}{m:Nat}(M:RepV w g st (.slc sz els J) (.slice a els.length cap))(X:l≤h)(hh:h≤els.length)(hm:h≤m)(N:tg'=true→m=h) :
  RepV w g st (.slc sz ((els.take h).drop l) tg') (.slice (if m=l then a else a.map (·.add (l*sz))) (h - l) (m - l)):=by
 have hlen:((els.take h).drop l).length=h - l:=by rw[AE,As]; omega
 rw[← hlen]
 by_cases E:(els.take h).drop l=[]
 ·rw[E];refine .slcE _ _ _ _ fun e=>?_;grind
 ·have Y:l<h:=by
   grind
  rw[if_neg (by omega)]
  cases M with
  |slcE=>simp at E
  |slc _ _ b off cap _ val h1 O h3 I h4 h5 U V=>
   simp only[Ae,I3];refine .slc _ _ _ _ _ _ (fun i j=>val (l+i) j) E O ?_ ?_ (by omega) (fun e=>by have:=N e; omega) ?_ ?_
   ·grind
   ·intro i j d u; exact I _ _ _ (Wt u).1
   ·intro i j d u;have:=U _ _ _ (Wt u).1;grind
   ·intro i j d u; exact V _ _ _ (Wt u).1
theorem XV{x:Option Operand}{u:Option PA}{ρ:PA→D}{E:Operand→Value}(h:Oc x=some u)(I:lo=u.map ρ)(J:∀ x u,DN x=some u→RepV w g st (ρ u) (E x)) :
  (∀ d v,lo=some d→x.map E=some v→RepV w g st d v)∧lo.isSome=(x.map E).isSome:=by
 cases x with
 |none=>simp[Oc]at h; subst h; subst I; simp
 |some x=>
  simp only[Oc,DA]at h;grind
theorem aD(hS:SR base w g st){x:D}{mx:Option D}{N:Option Value}
  (ht:(sz=0∧P.underlying t=some .string)∨(sz≠0∧∃ e,P.underlying t=some (.slice e)∧DZ P e=some sz))
  (h:FX st sz x lo hi mx=some d) (hr:RepV w g st x v)
  (J:(∀ d v,lo=some d→vlo=some v→RepV w g st d v)∧lo.isSome=vlo.isSome) (M:(∀ d v,hi=some d→vhi=some v→RepV w g st d v)∧hi.isSome=vhi.isSome)
  (a0:(∀ d v,mx=some d→N=some v→RepV w g st d v)∧mx.isSome=N.isSome) :
  ∃ u,(Instr.sliceAt t v vlo vhi N).run P w=.ok u w∧RepV w g st d u:=by
 unfold FX at h
 split at h
 ·rename_i s;obtain rfl:=JM hr
  split at h
  ·rename_i l O hl X;simp only[Am,C9]at h;obtain⟨⟨h0,E,I⟩,rfl⟩:=h
   have hu:P.underlying t=some .string:=by
    grind
   have hm:N=none:=by
    simp_all
   subst hm;have hb:=SK (P:=P) (w:=w) (g:=g) (st:=st) (sl:=false) hl X J.1 M.1 J.2 M.2 E I;refine⟨.string ((ByteArray.mk s.toArray).extract l O),?_,Yz _ _ ?_⟩
   ·simp only[Instr.sliceAt,Sem.run_bind,run_underlying hu,Result.andThen_ok,Instr.slice,BX,Ak,if_false];have e:CU ⟨s.toArray⟩=s.length:=by simp[CU]
    simp_all
   ·rw[Lib.extract_data];simp[List.drop_take]
  ·cases h
 ·rename_i a5 els tg
  split at h
  case isFalse=>cases h
  rename_i Y;simp only[Ac,bne_iff_ne,ne_eq]at Y;obtain⟨Y,hs0⟩:=Y;obtain⟨_,e,hu,hn⟩:=ht.resolve_left (fun h=>hs0 h.1)
  have hv:∃ a cap,v=.slice a els.length cap:=by
   cases hr with
   |slcE _ _ a cap h=>exact⟨a,cap,rfl⟩
   |slc _ _ b off cap _ val E=>exact⟨_,cap,rfl⟩
  obtain⟨a,cap,rfl⟩:=hv
  have U:els.length≤cap:=by
   cases hr with
   |slcE _ _ a cap h=>simp
   |slc _ _ b off cap _ val E I h3 bf h4=>exact h4
  split at h
  ·rename_i l O hl X
   have final:∀ (tg':Bool) (m:Nat),l≤O→O≤els.length→O≤m→(tg'=true→m=O)→RepV w g st (.slc a5 ((els.take O).drop l) tg') (.slice (if m=l then a else a.map (·.add (l*sz))) (O - l) (m - l)):=by
    intro tg' m E I h3 h4;have:=Yhs (tg':=tg') hr E I h3 h4;grind
   split at h
   ·simp only[Am,C9]at h;obtain⟨⟨E,I⟩,rfl⟩:=h
    have hm:N=none:=by
     simp_all
    subst hm;have hb:=SK (P:=P) (w:=w) (g:=g) (st:=st) (sl:=true) hl X J.1 M.1 J.2 M.2 E (AT I U);refine⟨_,?_,final _ cap E I (AT I U) ?_⟩
    ·simp only[Instr.sliceAt,Sem.run_bind,run_underlying hu,Result.andThen_ok,Instr.slice,hb,Js hn];rfl
    ·intro e;simp only[Ac,beq_iff_eq]at e
     cases hr with
     |slcE _ _ a cap h5=>have:=h5 e.1; simp at I; omega
     |slc _ _ b off cap _ val _ _ _ _ _ h5=>have:=h5 e.1; omega
   ·rename_i m;simp only[Am,C9]at h;obtain⟨⟨E,I,h3,h4⟩,rfl⟩:=h
    cases N with
    |none=>simp at a0
    |some vm=>
     cases hi with
     |none=>simp at h4
     |some dh=>
      cases vhi with
      |none=>simp at M
      |some vh=>
       simp only[FJ]at X;have hb:=wE (P:=P) (len:=els.length) (sl:=true) hl X h3 J.1 (M.1 dh vh rfl rfl) (a0.1 m vm rfl rfl) J.2 E (AT I U);refine⟨_,?_,final true O E I (Az _) (fun _=>rfl)⟩;simp only[Instr.sliceAt,Sem.run_bind,run_underlying hu,Result.andThen_ok,Instr.slice,hb,Js hn];rfl
  ·cases h
 ·rename_i key tot off len
  split at h
  ·rename_i o ho
   split at h
   ·rename_i hc;simp only[Ac,beq_iff_eq,bne_iff_ne,ne_eq]at hc;obtain⟨⟨⟨V,Y⟩,a2⟩,hs0⟩:=hc;obtain⟨_,e,hu,hn⟩:=ht.resolve_left (fun h=>hs0 h.1);obtain⟨ob,E,I,h3,rfl,h5⟩:=OR (by simp[Eu,ho,V,a2]) hr;obtain rfl:ob=o:=Au (E.symm.trans ho);obtain⟨C,e',bg,_,bc,hx,hC,bd⟩:=hS.blk key ob ho (Kd V);rw[V]at hC;simp only[if_true]at hC
    split at h
    ·rename_i l O hl X
     have hm:N=none:=by
      simp_all
     subst hm
     split at h
     ·rename_i a8;have hb:=SK (P:=P) (w:=w) (g:=g) (st:=st) (sl:=true) (cap:=g.γ key - off) hl X J.1 M.1 J.2 M.2 a8.1 (by omega)
      have a3:(Instr.sliceAt t (.slice (some ⟨g.β key,off*ob.sz,none⟩) len (g.γ key - off)) vlo vhi none).run P w=.ok (.slice (if g.γ key - off=l then some ⟨g.β key,off*ob.sz,none⟩else some ⟨g.β key,off*ob.sz+l*sz,none⟩) (O - l) (g.γ key - off - l)) w:=by
       simp only[Instr.sliceAt,Sem.run_bind,run_underlying hu,Result.andThen_ok,Instr.slice,hb,Js hn,Ae,I3];rfl
      refine⟨_,a3,?_⟩
      split at h
      ·grind
      ·split at h
       ·simp only[C9]at h;subst h;rename_i h7;rw[h7,BA];exact .slcE _ _ _ _ fun e=>by cases e
       ·simp only[C9]at h;subst h;rw[if_neg (by omega)];refine .row _ _ _ _ ob _ rfl ho V (by omega) fun _=>⟨?_,by omega⟩;grind
     ·cases h
    ·cases h
   ·cases h
  ·cases h
 ·cases h
end
end Go.Proofs.YtijnglngaogdjaaGreatDoor.PI
namespace Go.Proofs.YtijnglngaogdjaaGreatDoor.PI
open Go Go.RowKit
variable {v vi:Value}{d x:D}{ag:Bool}{n sz:Nat}{elem t xt:TypeId}
section
variable {P:Program} {base:Nat} {w:World} {g:Ghost} {st:St}
theorem xb{lo hi:Option D}{vlo vhi:Option Value}(X:P.underlying t=some (.array n elem))(Y:DZ P elem=some sz)
  (h:Nu n sz ag x lo hi=some d) (U:RepV w g st x v)
  (J:(∀ d v,lo=some d→vlo=some v→RepV w g st d v)∧lo.isSome=vlo.isSome) (M:(∀ d v,hi=some d→vhi=some v→RepV w g st d v)∧hi.isSome=vhi.isSome) :
  ∃ u,(Instr.sliceAt t v vlo vhi none).run P w=.ok u w∧RepV w g st d u:=by
 unfold Nu at h
 split at h
 ·rename_i l E hl hh
  split at h
  ·rename_i hle;have hb:=SK (P:=P) (w:=w) (g:=g) (st:=st) (sl:=false) (cap:=n) hl hh J.1 M.1 J.2 M.2 hle.1 hle.2
   have I:∀ a:Addr,(Instr.sliceAt t (.pointer (some a)) vlo vhi none).run P w=.ok (.slice (some (if n=l then a else a.add (l*sz))) (E - l) (n - l)) w:=by
    intro a;simp only[Instr.sliceAt,Sem.run_bind,run_underlying X,Result.andThen_ok,Instr.sureAddr,Sem.run_pure,hb,Js Y]
   split at h
   ·cases U with
    |ptr key off o ho N O=>
     refine⟨_,I _,?_⟩
     split at h
     ·rename_i e;simp only[C9]at h; subst h;rw[e,BA];exact .slcE _ _ _ _ fun e=>by cases e
     ·simp only[C9]at h; subst h;rw[if_neg (by omega),I3]; exact .bsl _ _ _ _ _ o _ ho N O (by omega)
   ·rename_i el off
    cases U with
    |eptr _ _ b o val hp h4 h5=>
     refine⟨_,I _,?_⟩
     split at h
     ·rename_i e;simp only[C9]at h; subst h;rw[e,BA];exact .slcE _ _ _ _ fun e=>by cases e
     ·rw[if_neg (by omega)];simp only[Am,C9,Ac,decide_eq_true_eq,A5,beq_iff_eq]at h;obtain⟨⟨⟨h1,V⟩,h3⟩,rfl⟩:=h
      have hm:(E - l)*sz≤(el.cells.drop (off+l*sz)).length:=by
       rw[AE];have:E*sz≤n*sz:=AK _ hle.2;have e1:(E - l)*sz=E*sz - l*sz:=Nat.sub_mul _ _ _;omega
      obtain⟨c1,c2,c3⟩:=Wu V h3 (E - l) (el.cells.drop (off+l*sz)) hm (fun x hx=>by
       obtain⟨i,hi⟩:=AV.1 (Ce hx);exact SO (hp i x hi))
      rw[I3]
      have goal:=RepV.slc_mk (w:=w) (g:=g) (st:=st) (els:=Hy sz ag (el.cells.drop (off+l*sz)) (E - l)) (t:=E == n) (b:=b) (off:=o+off+l*sz) (cap:=n - l) V c2 (by rw[c1]; omega) (fun e=>by rw[c1]; simp at e; omega) (by
       grind)
      grind
   ·cases h
  ·cases h
 ·cases h
theorem iy{off:Nat}{ds:List D}{vs:List Value}(E:Ee P t=some ag)(N:DZ P t=some n)(I:ag=true∨n=1)(hl:ds.length=vs.length)(O:off+n≤ds.length)
  (h:∀ (i:Nat) d v,ds[i]?=some d→vs[i]?=some v→RepV w g st d v):∃ u,(part t vs.toArray off).run P w=.ok u w∧RepV w g st (.mk ag ((ds.drop off).take n)) u:=by
 cases ag with
 |true=>
  refine⟨.agg ((vs.drop off).take n).toArray,?_,?_⟩
  ·have:vs.toArray.extract off (off+n)=((vs.drop off).take n).toArray:=by
    grind
   simp only[part,Sem.run_bind,NJ E,Result.andThen_ok,if_true,Js N,this,Sem.run_pure]
  ·refine .agg _ _ (by simp[hl]) ?_;grind
 |false=>
  obtain rfl:n=1:=I.resolve_left (by simp);have J:off<ds.length:=by omega
  have M:off<vs.length:=by omega
  refine⟨vs[off],?_,?_⟩
  ·simp[part,NJ E,M]
  ·have e:D.mk false ((ds.drop off).take 1)=ds[off]:=by
    simp[D.mk,List.take_one,List.head?_drop,J]
   rw[e];exact h off _ _ (Af J) (Af M)
theorem s6{E:Array Field}{f:Nat}{I:Field}(J:P.underlying xt=some (.struct E))(M:E[f]?=some I)(N:Ee P I.type=some ag)(O:DZ P I.type=some n)
  (h:JY I.offset n ag x=some d) (U:RepV w g st x v):∃ u,(Instr.field xt v f).run P w=.ok u w∧RepV w g st d u:=by
 unfold JY at h
 split at h
 ·simp only[Am,C9,Ac,decide_eq_true_eq,A5,beq_iff_eq]at h;obtain⟨⟨V,X⟩,rfl⟩:=h
  cases U with
  |agg ds vs Y h4=>
   obtain⟨u,h5,h6⟩:=iy (P:=P) (w:=w) (g:=g) (st:=st) N O X Y V h4;exact⟨u,by simp[Instr.field,run_underlying J,M,asAgg,h5],h6⟩
 ·cases h
theorem td{len:Nat}{i:D}(I:P.underlying xt=some (.array len elem))(J:Ee P elem=some ag)(E:DZ P elem=some n)
  (h:L1 len n ag x i=some d) (M:RepV w g st x v) (hi:RepV w g st i vi):∃ u,(Instr.index xt v vi).run P w=.ok u w∧RepV w g st d u:=by
 unfold L1 at h
 split at h
 ·rename_i j N;simp only[Am]at h;obtain⟨ab,h⟩:=h;obtain⟨k,rfl⟩:=Mw N hi;unfold JY at h
  split at h
  ·simp only[Am,C9,Ac,decide_eq_true_eq,A5,beq_iff_eq]at h;obtain⟨⟨O,U⟩,rfl⟩:=h
   cases M with
   |agg ds vs V X=>
    obtain⟨u,Y,h6⟩:=iy (P:=P) (w:=w) (g:=g) (st:=st) J E U V O X;refine⟨u,?_,h6⟩;have:(0:Int)≤(j:Int)∧(j:Int)<(len:Int):=by omega
    simp[Instr.index,asIntOf,run_underlying I,this,Js E,Y];intro; omega
  ·cases h
 ·cases h
theorem Ybi{i:D}(E:P.underlying xt=some .string)(h:M0 x i=some d)(I:RepV w g st x v)(hi:RepV w g st i vi):∃ u,(Instr.index xt v vi).run P w=.ok u w∧RepV w g st d u:=by
 unfold M0 at h
 split at h
 ·rename_i s j J
  split at h
  ·rename_i b hb;simp only[C9]at h; subst h;obtain⟨k,rfl⟩:=Mw J hi;obtain rfl:=JM I;refine⟨.int .u8 b.toNat,?_,.int _ _⟩;have M:j<s.length:=(Ab.1 hb).1
   have N:(ByteArray.mk s.toArray)[j]?=some b:=by
    have:j<(ByteArray.mk s.toArray).size:=by simpa[CU]using M
    rw[getElem?_pos (ByteArray.mk s.toArray) j this];have e:=Ab.1 hb;obtain⟨_,e⟩:=e;rw[← e];rfl
   simp[Instr.index,asIntOf,run_underlying E,N]
  ·cases h
 ·cases h
theorem g7(J:P.underlying t=some .string∨∃ e,P.underlying t=some (.slice e))(E:P.underlying t=some .string↔∃ s,x=.str s)(h:Fa st x=some n)(u:RepV w g st x v)(ty:TypeId) :
  (Builtin.len_ #[t] ty #[v]).run P w=.ok (.int .i64 (n:Int)) w:=by
 have sl:∀ a l c,v=.slice a l c→(∀ s,x≠.str s)→(Builtin.len_ #[t] ty #[v]).run P w=.ok (.int .i64 (l:Int)) w:=by
  intro a l c hv N;subst hv
  have I:¬ P.underlying t=some .string:=by
   grind
  obtain⟨e,he⟩:=J.resolve_left I;simp[Builtin.len_,run_underlying he,goInt]
 unfold Fa at h
 split at h
 ·simp only[C9]at h; subst h;obtain⟨⟨a,cap,hv,_⟩,_,_⟩:=Ow u;grind
 ·split at h
  ·simp only[C9]at h; subst h;rename_i hl;obtain⟨_,_,_,_,hv,_⟩:=OR hl u;grind
  ·cases h
 ·simp only[C9]at h; subst h
  cases u with
  |bsl=>exact sl _ _ _ rfl (by intro s M; cases M)
 ·simp only[C9]at h; subst h;obtain rfl:=JM u;have hu:=E.2 ⟨_,rfl⟩;rename_i s;have e:CU ⟨s.toArray⟩=s.length:=by simp[CU]
  simp[Builtin.len_,run_underlying hu,goInt,e]
 ·cases h
theorem uh{b:UInt8}(h:Py d=some b)(u:RepV w g st d v):v=.int .u8 (b.toNat:Int):=by
 unfold Py at h
 split at h
 ·simp only[Am,C9]at h;obtain⟨⟨E,I⟩,rfl⟩:=h;obtain rfl:=Hd u
  congr 1
  rw[BM];omega
 ·cases h
theorem aZ:∀ {ds:List D} {bs:List UInt8},Mk ds=some bs→bs.length=ds.length∧∀ (i:Nat) b,bs[i]?=some b→∃ d,ds[i]?=some d∧Py d=some b
 |[],bs,h=>by simp[Mk]at h; subst h; exact⟨rfl,fun i b h=>by simp at h⟩
 |d::l,bs,h=>by
  unfold Mk at h
  split at h
  ·rename_i x y E u;simp only[C9]at h; subst h;obtain⟨I,J⟩:=aZ u;grind
  ·cases h
theorem bu{E dst e:TypeId}{els:List D}{J:List UInt8}(N:P.underlying E=some (.slice e))(O:P.underlying e=some (.int .u8))(U:P.underlying dst=some .string)
  (hE:Els w g st v sz els) (V:sz=1∨els=[]) (hb:Mk els=some J):(convert E dst v).run P w=.ok (.string ⟨J.toArray⟩) w:=by
 obtain⟨⟨a,cap,rfl,X⟩,ac,hlen⟩:=hE;obtain⟨Y,h2⟩:=aZ hb
 by_cases M:els=[]
 ·subst M;have:J=[]:=AO Y;subst this;rw[run_convert_bytes_string w E dst e a _ cap N O U]
  cases a with
  |none=>simp[Conv.bytesToString]; rfl
  |some a=>simp[Conv.bytesToString,loadCells,loadCellsFrom]; rfl
 ·obtain⟨b,off,rfl,h0,hc⟩:=X M;obtain rfl:sz=1:=V.resolve_right M;rw[← Y];refine run_convert_bytes_back w E dst e ⟨b,off,none⟩ cap J N O U ?_;intro j hj;obtain⟨d,aa,I⟩:=h2 j J[j] (Af hj)
  have ab:d.cells=[d]:=by
   unfold Py at I
   split at I
   ·rfl
   ·cases I
  obtain⟨u,h3,h4,_⟩:=hc j 0 d (GB aa (by rw[ab]; rfl));rw[I3];rw[uh I h4]at h3;grind
end
end Go.Proofs.YtijnglngaogdjaaGreatDoor.PI
namespace Go.Proofs.YtijnglngaogdjaaGreatDoor.PI
open Go Go.RowKit
variable {d:D}{v vx:Value}{t:TypeId}{off:Nat}{l xs:List D}{vs:List Value}{C:Array Value}
section
variable {P:Program} {base:Nat} {w:World} {g:Ghost} {st:St}
theorem ML(h:d.isCell=true):d.cells=[d]:=by
 cases d <;> simp_all [D.isCell,D.cells]
theorem rz(h:v.oneCell'=true):v.cells=#[v]:=by
 cases v <;> simp_all [Value.oneCell',Value.cells]
theorem MA(M:d.cells.all D.isCell=true)(U:RepV w g st d v) :
  v.cells.size=d.cells.length∧(∀ (j:Nat) x,d.cells[j]?=some x→∃ u,v.cells[j]?=some u∧RepV w g st x u)∧v.cells.toList.all (·.oneCell')=true:=by
 have single:d.cells=[d]→d.isCell=true→v.cells.size=d.cells.length∧(∀ (j:Nat) x,d.cells[j]?=some x→∃ u,v.cells[j]?=some u∧RepV w g st x u)∧v.cells.toList.all (·.oneCell')=true:=by
  intro E I;have V:=rz (U.oneCell I);rw[E,V];refine⟨rfl,fun j x N=>?_,by simpa using U.oneCell I⟩;grind
 cases d with
 |agg l=>
  cases U with
  |agg _ vs E I=>
   simp only[D.cells]at M;refine⟨by simp[Value.cells,D.cells,E],fun j x N=>?_,?_⟩
   ·simp only[D.cells]at N;have J:j<vs.length:=by rw[← E]; exact(Ab.1 N).1
    exact⟨vs[j],by simp[Value.cells,J],I j x _ N (Af J)⟩
   ·simp only[Value.cells,Ag];intro u hu;obtain⟨j,J⟩:=AV.1 hu;have O:j<l.length:=by rw[E]; exact(Ab.1 J).1
    exact(I j _ u (Af O) J).oneCell (Ag.1 M _ (Bj O))
 |tup l=>simp[D.cells,D.isCell]at M
 |junk=>simp[D.cells,D.isCell]at M
 |_=>exact single rfl rfl
theorem xH(w:World)(o:Go.Obj):Beside w {w with heap:=w.heap.push o}:=⟨rfl,rfl,rfl,by simp⟩
theorem Mu(w:World)(o:Go.Obj)(b:Nat)(h:b<w.heap.size):(w.heap.push o)[b]?=w.heap[b]?:=by
 grind
theorem ej(M:SR base w g st)(I:d.cells.all D.isCell=true)(N:RepV w g st d v) :
  RunsTo P base w g st (do pure (.pointer (some (← newVar t v)))) (.ptr st.length 0) (st++[{row:=false,sz:=1,els:=d.cells,lent:=false}]):=by
 obtain⟨O,U,_⟩:=MA I N;have u:∀ x∈d.cells,x.cells=[x]:=fun x E=>ML (Ag.1 I x E)
 have J:=SR.push (o:={row:=false,sz:=1,els:=d.cells,lent:=false}) (c:=0) (C:=v.cells) (e:=t) (w':={w with heap:=w.heap.push (.cells v.cells t)}) M
  (xH w _) (fun b hb=>Mu w _ b hb) (by simp) rfl Nat.one_pos (fun x E=>by rw[u x E]; rfl) (by simp[O]; exact u) (by
   intro i j x E;obtain⟨e,he,V⟩:=GQ E;grind)
 refine⟨.pointer (some ⟨w.heap.size,0,none⟩),_,_,?_,J,?_⟩
 ·rfl
 ·have:=RepV.ptr (w:={w with heap:=w.heap.push (.cells v.cells t)}) (g:={g with β:=E9 g.β st.length w.heap.size,γ:=E9 g.γ st.length 0}) (st:=st++[{row:=false,sz:=1,els:=d.cells,lent:=false}]) st.length 0 {row:=false,sz:=1,els:=d.cells,lent:=false} (by simp) rfl rfl;simpa[GP]using this
theorem Pm(h:off+xs.length≤l.length):(F0 l off xs).length=l.length:=by
 simp only[F0,Ad,As,AE]; omega
theorem MG{j:Nat}(h:off+xs.length≤l.length):(F0 l off xs)[j]?=if off≤j∧j<off+xs.length then xs[j - off]? else l[j]?:=by
 unfold F0
 by_cases u:j<off
 ·grind
 ·grind
theorem Pg{j:Nat}(h:off+vs.length≤C.size) :
  ((C.toList.take off++vs++C.toList.drop (off+vs.length)).toArray)[j]?=if off≤j∧j<off+vs.length then vs[j - off]? else C[j]?:=by
 grind
theorem Yfa(h:off+vs.length≤C.size):((C.toList.take off++vs++C.toList.drop (off+vs.length)).toArray).size=C.size:=by
 grind
theorem Pl(w:World)(b:Nat)(C:Array Value):Beside w (w.setRow b C):=⟨rfl,rfl,rfl,by simp[World.setRow]⟩
theorem bE(X:SR base w g st){n b:Nat}{e:TypeId}{x:D}(J:DZ P t=some n)(hb:w.heap[b]?=some (.cells C e (0,0)))(u:off+n≤C.size)
  (E:x.cells.length=n) (M:x.cells.all D.isCell=true) (N:RepV w g st x vx) :
  (Instr.storeAt t (.pointer (some ⟨b,off,none⟩)) vx).run P w=.ok () (w.setRow b ((C.toList.take off++vx.cells.toList++C.toList.drop (off+vx.cells.toList.length)).toArray)):=by
 obtain⟨I,_,O⟩:=MA M N;have U:vx.cells.toList.length=n:=by rw[Cj,I,E]
 have h:=run_storeCells_at P b off e vx.cells.toList 0 C w hb (by simpa[U]using u) (Ag.1 O);simp only[BV]at h;have V:vx.cells.size=n:=by rw[I,E]
 simp only[Instr.storeAt,Sem.run_bind,Instr.sureAddr,Sem.run_pure,Result.andThen_ok,storeVar,Js J,V,ne_eq,not_true_eq_false,if_false,h]
theorem xr{u E:D}{ys:List D}(h:Pv u off ys=some E)(J:∀ z∈ys,z.cells=[z]):off+ys.length≤u.cells.length∧E.cells=F0 u.cells off ys:=by
 unfold Pv at h
 split at h
 ·simp only[Am,C9]at h;obtain⟨M,rfl⟩:=h;exact⟨M,rfl⟩
 ·rename_i I
  split at h
  ·simp only[C9]at h; subst h;have:u.cells=[u]:=by cases u <;> first | rfl | exact absurd rfl (I _)
   rename_i z;rw[this];exact⟨by simp,by simp[F0,J z (by simp)]⟩
  ·cases h
theorem tj(V:SR base w g st){n:Nat}{p x:D}{vp:Value}{st':St}(hn:DZ P t=some n)(h:JZ st n p x=some st')(bb:RepV w g st p vp)(af:RepV w g st x vx) :
  ∃ w' g',(Instr.storeAt t vp vx).run P w=.ok () w'∧Go1 base w g st w' g' st':=by
 unfold JZ at h
 split at h
 ·rename_i key off
  cases bb with
  |ptr _ _ o U E ah=>
   rw[U]at h;simp only[E,A0,A1,Am,C9,Ac,AL,decide_eq_true_eq,beq_iff_eq]at h;obtain⟨⟨⟨⟨a6,hle⟩,hlen⟩,N⟩,rfl⟩:=h;obtain⟨C,e,hb,a7,bh,hx,hC,X⟩:=V.blk key o U (LQ ah);rw[E]at hC;simp only[Ak,if_false]at hC;obtain⟨bc,bd,b8⟩:=hC;obtain⟨h1,h2,h3⟩:=MA N af;have h4:vx.cells.toList.length=n:=by rw[Cj,h1,hlen]
   have ab:off+vx.cells.toList.length≤C.size:=by rw[h4,bc]; exact hle
   have O:off+x.cells.length≤o.els.length:=by rw[hlen]; exact hle
   have be:=Pm O
   have mem:∀ y∈F0 o.els off x.cells,y.cells=[y]:=by
    intro y M;obtain⟨j,hj⟩:=AV.1 M;rw[MG O]at hj
    split at hj
    ·exact ML (Ag.1 N y (Ah hj))
    ·grind
   have b9:off+n≤C.size:=by rw[bc]; exact hle
   refine⟨_,{g with β:=E9 g.β key (g.β key),γ:=E9 g.γ key (g.γ key)},bE V hn hb b9 hlen N af,?_⟩;have eo:(⟨false,o.sz,F0 o.els off x.cells,o.lent⟩:Obj)={o with els:=F0 o.els off x.cells}:=by rw[← E]
   rw[eo]
   refine SR.update (o':={o with els:=F0 o.els off x.cells}) (c:=g.γ key) V U (LQ ah) hb (.inl ⟨rfl,rfl⟩) rfl rfl (by simp[be]) rfl (fun y M=>by rw[mem y M,bd]; rfl) (Pl w _ _)
    (fun b' _ ca=>setRow_other w _ _ _ (by omega)) (setRow_heap w _ C _ e _ hb) ?_ ?_ ?_
   ·intro _ y M;have:=(V.dis key o y U M).1;grind
   ·grind
   ·intro i j d hd;refine⟨fun h=>by simp[E]at h,?_⟩;obtain⟨y,M,ac⟩:=GQ hd;have h5:=mem y (Ah M);rw[h5]at ac
    cases j with
    |succ j=>simp at ac
    |zero=>
     simp only[AB,C9]at ac;subst ac;rw[bd,BH,BV,Pg ab];rw[MG O]at M;rw[h4];rw[hlen]at M
     split at M
     ·grind
     ·rename_i hc;rw[if_neg hc];have h8:=b8 y (Ah M);obtain⟨_,u,h6,h7⟩:=X i 0 y (GB M (by rw[h8]; rfl));grind
 ·rename_i key tot i off
  split at h
  ·rename_i o y U M
   split at h
   case isFalse=>cases h
   rename_i ad;simp only[Ac,AL,beq_iff_eq,BJ]at ad;obtain⟨⟨⟨E,a6⟩,b4⟩,ba⟩:=ad
   split at h
   case h_2=>cases h
   rename_i el a1
   split at h
   case h_2=>cases h
   rename_i cc b5;simp only[Am,C9]at h;obtain⟨hlen,rfl⟩:=h;obtain⟨I,h1,h2,h3,rfl⟩:=YX (by simp[Eu,U,E,b4]) bb;obtain rfl:I=o:=Au (h1.symm.trans U);obtain⟨C,e,hb,a7,bh,hx,hC,X⟩:=V.blk key I U (Kd E);rw[E]at hC;simp only[if_true]at hC;obtain⟨ae,a2⟩:=fe V M af (by rw[ba]; intro k hk; cases hk)
   have bf:∀ z∈y.cells,z.pure1=true:=by
    intro z J
    cases y with
    |agg l=>simp only[purA,Ag]at a2; exact a2 z J
    |_=>simp only[D.cells,AP]at J; subst J; exact a2
   have N:y.cells.all D.isCell=true:=Ag.2 fun z J=>MF (bf z J);obtain⟨c1,c2,c3⟩:=MA N ae;have cd:i<I.els.length:=(Ab.1 a1).1;have c4:=hx el (Ah a1);obtain⟨O,a3⟩:=xr b5 (fun z J=>SO (bf z J))
   have a4:i*I.sz+off+n≤C.size:=by
    rw[hC.1]
    calc i*I.sz+off+n≤i*I.sz+I.sz:=by omega
     _=(i+1)*I.sz:=by rw[AX,Bw]
     _≤g.γ key*I.sz:=AK _ (by omega)
   have h4:vx.cells.toList.length=n:=by rw[Cj,c1,hlen]
   have ab:i*I.sz+off+vx.cells.toList.length≤C.size:=by rw[h4]; exact a4
   have be:=Pm O;refine⟨_,{g with β:=E9 g.β key (g.β key),γ:=E9 g.γ key (g.γ key)},bE V hn hb a4 hlen N ae,?_⟩
   refine SR.update (o':={I with els:=I.els.set i cc}) (c:=g.γ key) V U (Kd E) hb (.inl ⟨rfl,rfl⟩) rfl rfl (by simp) rfl ?_ (Pl w _ _)
    (fun b' _ ca=>setRow_other w _ _ _ (by omega)) (setRow_heap w _ C _ e _ hb) ?_ ?_ ?_
   ·grind
   ·intro _ z J;have:=(V.dis key I z U J).1;grind
   ·grind
   ·intro i' j d hd;obtain⟨z,J,Y⟩:=GQ hd;rw[Pg ab,h4]
    by_cases bg:i'=i
    ·subst bg;rw[Bn cd]at J;simp only[C9]at J; subst J;rw[a3,MG O,hlen]at Y
     split at Y
     ·grind
     ·rename_i hc;rw[if_neg (by omega)];exact X i' j d (GB a1 Y)
    ·rw[Ay (by omega)]at J;have hj:j<I.sz:=by rw[← hx z (Ah J)]; exact(Ab.1 Y).1
     rw[if_neg]
     ·exact X i' j d (GB J Y)
     ·rintro⟨q1,q2⟩;rcases Nat.lt_or_gt_of_ne bg with h6 | h6
      ·have:(i'+1)*I.sz≤i*I.sz:=AK _ h6;grind
      ·have:(i+1)*I.sz≤i'*I.sz:=AK _ h6;grind
  ·cases h
 ·cases h
end
end Go.Proofs.YtijnglngaogdjaaGreatDoor.PI
namespace Go.Proofs.YtijnglngaogdjaaGreatDoor.PI
open Go Go.RowKit
variable {v:Value}{e:TypeId}{C:Array Value}
section
variable {P:Program} {base:Nat} {w:World} {g:Ghost} {st:St}
theorem jh(off:Nat):∀ (l:List Value) (k:Nat) (cs:Array Value),off+k+l.length≤cs.size→
  ((l.zipIdx k).foldl (fun cs x=>cs.setIfInBounds (off+x.2) x.1) cs).size=cs.size∧
  ∀ p,((l.zipIdx k).foldl (fun cs x=>cs.setIfInBounds (off+x.2) x.1) cs)[p]?=if off+k≤p∧p<off+k+l.length then l[p - (off+k)]? else cs[p]?
 |[],k,cs,_=>⟨rfl,fun p=>by simp; intro u E; omega⟩
 |v::l,k,cs,h=>by
  simp only[Al]at h;obtain⟨u,E⟩:=jh off l (k+1) (cs.setIfInBounds (off+k) v) (by simp; omega);simp only[List.zipIdx_cons,List.foldl_cons];grind
theorem jg{place:Nat→Option (Nat×Nat)}{cells:Array Value}{i off size:Nat}{rest:List (Nat×Value)}(I:place i=some (off,size))(u:v.cells.size=size)(E:off+size≤cells.size) :
  ∃ cs',Instr.fill place cells ((i,v)::rest)=Instr.fill place cs' rest∧cs'.size=cells.size∧∀ p,cs'[p]?=if off≤p∧p<off+size then v.cells[p - off]? else cells[p]?:=by
 have h:=jh off v.cells.toList 0 cells (by simp[u]; exact E);refine⟨v.cells.zipIdx.foldl (fun cs (c,j)=>cs.setIfInBounds (off+j) c) cells,?_,?_,?_⟩
 ·have J:¬ (off+v.cells.size > cells.size):=by omega
  simp[Instr.fill,I,u];omega
 ·have:=h.1;rw[← Cp];grind
 ·intro p;have:=h.2 p;rw[← Cp];grind
theorem jf{place:Nat→Option (Nat×Nat)}:∀ (ps:List (Nat×Nat×Nat×D×Value)) (cs:List D) (cells:Array Value) (ds:List D),
  Fi cs (ps.map fun p=>(p.2.1,p.2.2.1,p.2.2.2.1))=some ds→(∀ p∈ps,place p.1=some (p.2.1,p.2.2.1))→(∀ p∈ps,RepV w g st p.2.2.2.1 p.2.2.2.2)→
  cs.length=cells.size→(∀ (j:Nat) d v,cs[j]?=some d→cells[j]?=some v→RepV w g st d v)→
  ∃ E,Instr.fill place cells (ps.map fun p=>(p.1,p.2.2.2.2))=some E∧ds.length=E.size∧∀ (j:Nat) d v,ds[j]?=some d→E[j]?=some v→RepV w g st d v
 |[],cs,cells,ds,h,_,_,hl,I=>by
  simp[Fi]at h; subst h;exact⟨cells,rfl,hl,I⟩
 |p::ps,cs,cells,ds,h,J,hv,hl,I=>by
  obtain⟨i,off,size,d,v⟩:=p;simp only[Aq,Fi]at h
  split at h
  ·rename_i M;simp only[Ac,beq_iff_eq,decide_eq_true_eq]at M;obtain⟨⟨N,Y⟩,U⟩:=M;obtain⟨c1,c2,_⟩:=MA U (hv (i,off,size,d,v) (by simp));obtain⟨cs',O,V,e3⟩:=jg (rest:=ps.map fun p=>(p.1,p.2.2.2.2)) (J (i,off,size,d,v) (by simp)) (by rw[c1,N]) (by omega:off+size≤cells.size);simp only[Aq];simp only at O;rw[O];refine jf ps _ cs' ds h (fun p hm=>J p (by simp[hm])) (fun p hm=>hv p (by simp[hm])) ?_ ?_
   ·rw[Pm (by omega),V,hl]
   ·intro j x u X hu;rw[MG (by omega),N]at X;grind
  ·cases h
theorem wm{d:D}{cs:List D}(h:Lj v=some d)(E:d=.agg cs):∃ vs:List Value,v=.agg vs.toArray∧cs.length=vs.length∧∀ (j:Nat) x u,cs[j]?=some x→vs[j]?=some u→RepV w g st x u:=by
 subst E;have I:=NN (w:=w) (g:=g) (st:=st) h
 cases I with
 |agg _ vs J M=>exact⟨vs,rfl,J,M⟩
theorem kU(size:Nat):∀ (vs:List Value) (k:Nat) (cells:Array Value),(∀ v∈vs,v.cells.size=size)→(k+vs.length)*size≤cells.size→
  ∃ E,Instr.fill (fun i=>some (i*size,size)) cells ((vs.zipIdx k).map fun x=>(x.2,x.1))=some E∧E.size=cells.size∧(∀ p,p<k*size→E[p]?=cells[p]?)∧
   ∀ (i:Nat) v,vs[i]?=some v→∀ j,j<size→E[(k+i)*size+j]?=v.cells[j]?
 |[],k,cells,_,_=>⟨cells,rfl,rfl,fun _ _=>rfl,fun i v h=>by simp at h⟩
 |v::vs,k,cells,hv,hle=>by
  simp only[Al]at hle;have M:(k+(vs.length+1))*size=k*size+size+vs.length*size:=by rw[AX,AX,Bw]; omega
  obtain⟨cs',N,I,O⟩:=jg (place:=fun i=>some (i*size,size)) (cells:=cells) (i:=k) (off:=k*size) (size:=size) (v:=v) (rest:=(vs.zipIdx (k+1)).map fun x=>(x.2,x.1)) rfl (hv v (by simp)) (by omega);obtain⟨E,U,J,V,X⟩:=kU size vs (k+1) cs' (fun u hu=>hv u (by simp[hu])) (by rw[I]; rw[show k+1+vs.length=k+(vs.length+1) by omega]; exact hle);have Y:(k+1)*size=k*size+size:=by rw[AX,Bw]
  refine⟨E,?_,J.trans I,?_,?_⟩
  ·simp_all
  ·grind
  ·intro i u hu j hj
   cases i with
   |zero=>
    grind
   |succ i=>
    grind
theorem SR.fresh(h:SR base w g st){w':World}{fz:Nat×Nat}(u:w'.heap=w.heap.push (.cells C e fz))(E:Beside w w') :
  Go1 base w g st w' {g with Im:=fun b x=>g.Im b x∨(b=w.heap.size∧x<C.size)} st:=by
 refine SR.more h E (fun b hb=>by rw[u]; exact Mu w _ b hb) (fun b x hb=>.inl hb) (fun b x hb=>?_) (fun b x hb=>?_)
 ·grind
 ·rcases hb with hb | ⟨rfl,J⟩
  ·have I:=h.im_lt hb;have:w'.cell? ⟨b,x,none⟩=w.cell? ⟨b,x,none⟩:=by simp only[World.cell?,u,Mu w _ b I]
   rw[this]; exact h.im b x hb
  ·simp[World.cell?,u,J]
def l4(base:Nat)(w:World)(g:Ghost)(st:St)(v:Value):Prop:=
 ∃ b n C e,v=.slice (some ⟨b,0,none⟩) n n∧w.heap[b]?=some (.cells C e (0,0))∧base≤b∧∀ (k:Nat) (o:Obj),st[k]?=some o→g.β k≠b
def ec(P:Program)(base:Nat)(w:World)(g:Ghost)(st:St)(s:Sem Value)(d:D)(st':St):Prop:=
 ∃ v w' g',s.run P w=.ok v w'∧Go1 base w g st w' g' st'∧RepV w' g' st' d v∧l4 base w' g' st' v
theorem pZ(hS:SR base w g st){t elem:TypeId}{i:TypeInfo}{z:Value}{sz:Nat}{els:List D}{vs:List Value}(hu:P.underlying t=some (.slice elem))(hi:P.info? elem=some i)(hz:i.zero=some z)(a0:i.size=sz)(h0:0<sz)
  (O:∀ d∈els,purA d=true) (I:∀ d∈els,d.cells.length=sz) (hl:els.length=vs.length) (hr:∀ (i:Nat) d v,els[i]?=some d→vs[i]?=some v→RepV w g st d v) (a8:els.length*sz≤16777216)
  {len:Nat} {parts:Array (Nat×Value)} (U:len=vs.length) (E:parts.toList=(vs.zipIdx 0).map fun x=>(x.2,x.1)) :
  ec P base w g st (Instr.buildSlice t len parts) (.slc sz els true) st:=by
 subst U
 have X:∀ (i:Nat) e,els[i]?=some e→∀ x∈e.cells,x.pure1=true:=by
  intro i e he x J;have M:=O e (Ah he)
  cases e with
  |agg l=>simp only[purA,Ag]at M; exact M x J
  |_=>simp only[D.cells,AP]at J; subst J; exact M
 have Y:∀ (i:Nat) d v,els[i]?=some d→vs[i]?=some v→v.cells.size=sz∧∀ (j:Nat) x,d.cells[j]?=some x→∃ u,v.cells[j]?=some u∧RepV w g st x u:=by
  intro i d v V hv;obtain⟨c1,c2,_⟩:=MA (Ag.2 fun x J=>MF (X i d V x J)) (hr i d v V hv);grind
 have a1:∀ v∈vs,v.cells.size=sz:=by
  intro v hv;obtain⟨i,hi⟩:=AV.1 hv;have aa:i<els.length:=by rw[hl]; exact(Ab.1 hi).1
  exact(Y i _ v (Af aa) hi).1
 have goal:∀ C:Array Value,C.size=vs.length*sz→(∀ (i:Nat) v,vs[i]?=some v→∀ j,j<sz→C[i*sz+j]?=v.cells[j]?)→
   (Instr.buildSlice t vs.length parts).run P w=.ok (.slice (some ⟨w.heap.size,0,none⟩) vs.length vs.length) (w.alloc (.cells C elem))→ec P base w g st (Instr.buildSlice t vs.length parts) (.slc sz els true) st:=by
  intro C bb bc ae;have ab:=hS.fresh (w':=w.alloc (.cells C elem)) (C:=C) (e:=elem) (fz:=(0,0)) rfl ⟨rfl,rfl,rfl,by simp⟩;refine⟨_,_,_,ae,ab,?_,⟨w.heap.size,vs.length,C,elem,rfl,?_,hS.size,fun k o hk=>Nat.ne_of_lt (hS.lt hk)⟩⟩
  case refine_2=>
   show(w.heap.push _)[w.heap.size]?=_
   simp
  rw[← hl];refine RepV.slc_mk h0 I (Az _) (fun _=>rfl) ?_;intro i j d V;obtain⟨e,he,N⟩:=GQ V;have aa:i<els.length:=(Ab.1 he).1;have hj:j<sz:=by rw[← I e (Ah he)]; exact(Ab.1 N).1
  have hv:vs[i]?=some (vs[i]'(by omega)):=Af (by omega);obtain⟨u,h3,h4⟩:=(Y i e _ he hv).2 j d N
  have bd:i*sz+j<C.size:=by
   grind
  refine⟨X i e he d (Ah N),.inr ⟨rfl,by omega⟩,u,?_,ab.rep h4⟩
  have:(w.alloc (.cells C elem)).heap[w.heap.size]?=some (.cells C elem (0,0)):=by
   show(w.heap.push _)[w.heap.size]?=_
   simp
  simp only[World.cell?,this];grind
 by_cases hn:vs.length=0
 ·have ac:vs=[]:=AO hn;refine goal #[] (by simp[hn]) (fun i v hv=>by simp[ac]at hv) ?_;subst ac;simp at E;simp[Instr.buildSlice,run_underlying hu,sizeOf,typeInfo,hi,E,Instr.fill,newRow,Array.range_zero']
 ·obtain⟨C,M,h2,h3,h4⟩:=kU sz vs 0 ((Array.range (vs.length*sz)).map (z.cells[· % z.cells.size]!)) a1 (by simp);refine goal C (by rw[h2]; simp) (fun i v hv j hj=>by have:=h4 i v hv j hj; rwa [Bb]at this) ?_
  have a4:¬ vs.length*sz=0:=by
   intro e;rcases Nat.mul_eq_zero.1 e with e | e <;> omega
  subst a0;exact run_buildSlice w t elem vs.length parts C i z hu hi hz (by rw[← hl]; omega) a4 (by rw[E]; exact M)
theorem r9(I:SR base w g st){b m:Nat}(hb:w.heap[b]?=some (.cells C e (0,0)))(X:base≤b)(N:∀ (k:Nat) (o:Obj),st[k]?=some o→g.β k≠b) :
  Go1 base w g st (w.freeze ⟨b,m,none⟩ 1) g st:=by
 have a4:b<w.heap.size:=(Ax.1 hb).1
 have u:∀ k,k≠b→(w.freeze ⟨b,m,none⟩ 1).heap[k]?=w.heap[k]?:=by
  intro k hk;simp only[World.freeze,Nat.one_ne_zero,if_false,B5];grind
 have M:(w.freeze ⟨b,m,none⟩ 1).heap[b]?=some (.cells C e (m,m+1)):=by
  simp only[World.freeze,Nat.one_ne_zero,if_false,B5];simp[hb]
 have E:∀ k x,(w.freeze ⟨b,m,none⟩ 1).cell? ⟨k,x,none⟩=w.cell? ⟨k,x,none⟩:=by
  intro k x
  by_cases hk:k=b
  ·subst hk;simp only[World.cell?,M,hb]
  ·simp only[World.cell?,u k hk]
 have U:ImLe w g (w.freeze ⟨b,m,none⟩ 1) g:=⟨fun k x h=>⟨h,E k x⟩,fun k o J V=>by
  by_cases hk:k=b
  ·subst hk;rw[hb]at J;obtain rfl:=Au J;simp[Kf]at V
  ·grind⟩
 have O:(w.freeze ⟨b,m,none⟩ 1).heap.size=w.heap.size:=by simp[World.freeze]
 refine⟨⟨fun k o hk hm=>(I.mp k o hk hm).mono U (Evo.refl _ _) rfl (u _ (N k o hk)),?_,I.inj,fun k x h=>by rw[E]; exact I.im k x h,I.dis,by rw[O]; exact I.size⟩,Evo.refl _ _,U,fun _ _ h=>.inl h,⟨rfl,rfl,rfl,by rw[O]; exact Az _,fun k hk=>u k (by omega)⟩,fun k o J V=>?_⟩
 ·intro k o hk hm;obtain⟨Y,e1,h1,h2,h3,h4,h5,h6⟩:=I.blk k o hk hm;refine⟨Y,e1,by rw[u _ (N k o hk)]; exact h1,h2,h3,h4,h5,fun i j d hd=>?_⟩;obtain⟨q1,v,q2,q3⟩:=h6 i j d hd;exact⟨q1,v,q2,q3.mono U (Evo.refl _ _)⟩
 ·by_cases hk:k=b
  ·subst hk;rw[hb]at J;obtain rfl:=Au J;simp[special]at V
  ·exact .same (by rw[u k hk]; exact J)
end
end Go.Proofs.YtijnglngaogdjaaGreatDoor.PI
namespace Go.Proofs.YtijnglngaogdjaaGreatDoor.PI
open Go Go.RowKit
variable {bytes sCap:Nat}{x z:Value}{i:TypeInfo}{e t tx ty:TypeId}{els:List D}{ns:List Value}
section
variable {P:Program} {base:Nat} {w:World} {g:Ghost} {st:St}
theorem pM(w:World)(o:Go.Obj):(w.alloc o).heap[w.heap.size]?=some o:=by
 show(w.heap.push o)[w.heap.size]?=_
 simp
theorem sR(hS:SR base w g st){elem:TypeId}{zd:D}{sz:Nat}{dl Y:D}{vl vc:Value}{l c:Nat}(hu:P.underlying t=some (.slice elem))(hi:P.info? elem=some i)(hz:i.zero=some z)(ac:Lj z=some zd)
  (ad:i.size=sz) (ae:i.bytes=bytes) (h0:0<sz) (M:zd.cells.length=sz) (af:zd.cells.all D.pure1=true) (hl:Fj dl=some l) (hc:Fj Y=some c) (ah:RepV w g st dl vl) (a0:RepV w g st Y vc)
  (a1:l≤c) (b1:c≤4294967296) (b2:c*bytes≤140737488355328) :
  RunsTo P base w g st (Instr.makeSlice t vl vc) (.row st.length l 0 l) (st++[{row:=true,sz,els:=CM l zd,lent:=false}]):=by
 obtain⟨kl,rfl⟩:=Mw hl ah;obtain⟨kc,rfl⟩:=Mw hc a0;subst ad; subst ae
 have hb:((i.bytes:Int)*(c:Int))≤281474976710656:=by
  grind
 have I:=run_make (P:=P) w t elem i z hu hi hz kl kc (l:Int) (c:Int) (by omega) (by omega) hb (by omega);simp only[AM]at I;have J:zd.cells.all D.isCell=true:=Ag.2 fun x N=>MF (Ag.1 af x N);have a2:=NN (w:=w) (g:=g) (st:=st) ac;obtain⟨c1,c2,_⟩:=MA J a2;have O:z.cells.size=i.size:=by rw[c1,M]
 have a3:∀ E j,E<c→j<i.size→E*i.size+j<c*i.size:=by
  intro E j U V
  calc E*i.size+j<E*i.size+i.size:=by omega
   _=(E+1)*i.size:=by rw[AX,Bw]
   _≤c*i.size:=AK _ U
 have a5:∀ E j u,E<c→j<i.size→z.cells[j]?=some u→(madeCells z.cells (c*i.size))[E*i.size+j]?=some u:=by
  intro E j u U V h3;have h4:=a3 E j U V;have h5:(E*i.size+j) % z.cells.size=j:=by rw[O,Cq,Nat.mul_add_mod,AW V]
  have h6:z.cells[j]! = u:=by rw[getElem!_def,h3]
  simp[madeCells,h4,h5,h6]
 have X:c≤maxLen:=by unfold maxLen; omega
 have a4:=SR.push (o:={row:=true,sz:=i.size,els:=CM l zd,lent:=false}) (c:=c) (C:=madeCells z.cells (c*i.size)) (e:=elem) (w':=w.alloc (.cells (madeCells z.cells (c*i.size)) elem)) hS
  ⟨rfl,rfl,rfl,by simp⟩ (fun b hb=>Mu w _ b hb) (pM w _) rfl h0 (fun x N=>by rw[List.eq_of_mem_replicate N]; exact M)
  (by simp[size_madeCells]; exact⟨a1,X⟩) (by
   intro E j d hd;obtain⟨e,he,b3⟩:=GQ hd;grind)
 refine⟨_,_,_,I,a4,?_⟩;refine .row _ _ _ _ {row:=true,sz:=i.size,els:=CM l zd,lent:=false} _ rfl (by simp) rfl (by simp) fun _=>⟨?_,by omega⟩;simp[GP]
structure News (w:World) (g:Ghost) (st:St) (P:Program) (x:Value) (size:Nat) (els:List D) (ns:List Value):Prop where
 len:ns.length=els.length*size
 one:∀ u∈ns,u.oneCell'=true
 rep:∀ (i j:Nat) d,Ff els i j=some d→∃ u,ns[i*size+j]?=some u∧RepV w g st d u
 lenOf:(Builtin.lenOf x).run P w=.ok els.length w∧(Builtin.lenOf x).run P w.drew=.ok els.length w.drew
 first:(Builtin.firstCells size els.length x).run P w=.ok ns.toArray w∧(Builtin.firstCells size els.length x).run P w.drew=.ok ns.toArray w.drew
theorem WT{size:Nat}(hE:Els w g st x size els):∃ ns,News w g st P x size els ns:=by
 obtain⟨⟨a,cap,rfl,V⟩,ad,hlen⟩:=hE
 by_cases X:els=[]
 ·subst X;refine⟨[],by simp,by simp,fun i j d h=>by simp[Ff]at h,⟨by simp[Builtin.lenOf],by simp[Builtin.lenOf]⟩,?_⟩;cases a <;> simp[Builtin.firstCells,loadCells,loadCellsFrom]
 ·obtain⟨b,off,rfl,h0,hc⟩:=V X
  -- a1 cells J
  let f:Nat→Value:=fun p=>(w.cell? ⟨b,off+p,none⟩).getD undef
  have Y:∀ p,p<els.length*size→∃ d,Ff els (p / size) (p % size)=some d∧p=p / size*size+p % size:=by
   intro p N;have E:p / size<els.length:=Nat.div_lt_of_lt_mul (by rw[Cq]; exact N);have h2:p % size<size:=Nat.mod_lt _ h0;have he:els[p / size]?=some els[p / size]:=Af E;have O:p % size<els[p / size].cells.length:=by rw[hlen _ (Bj E)]; exact h2
   exact⟨_,GB he (Af O),by rw[Cq]; exact(Nat.div_add_mod p size).symm⟩
  have M:∀ p,p<els.length*size→w.cell? ((⟨b,off,none⟩:Addr).add p)=some (f p)∧(f p).oneCell'=true:=by
   intro p N;obtain⟨d,U,a2⟩:=Y p N;obtain⟨u,E,_,h3⟩:=hc _ _ d U;rw[cell?_add];grind
  have I:∀ w',(∀ b o,w'.cell? ⟨b,o,none⟩=w.cell? ⟨b,o,none⟩)→(Builtin.firstCells size els.length (.slice (some ⟨b,off,none⟩) els.length cap)).run P w'=.ok ((CQ (els.length*size)).map f).toArray w':=by
   intro w' ab;have:=run_loadCells (P:=P) w' ⟨b,off,none⟩ (els.length*size) f (fun j O=>by rw[cell?_add,ab,← cell?_add]; exact(M j O).1);simpa[Builtin.firstCells]using this
  refine⟨(CQ (els.length*size)).map f,by simp,?_,?_,⟨by simp[Builtin.lenOf],by simp[Builtin.lenOf]⟩,I w (fun _ _=>rfl),I w.drew (fun _ _=>rfl)⟩
  ·grind
  ·intro i j d U;obtain⟨e,he,ac⟩:=GQ U;have E:i<els.length:=(Ab.1 he).1;have h2:j<size:=by rw[← hlen e (Ah he)]; exact(Ab.1 ac).1
   have h3:i*size+j<els.length*size:=by
    calc i*size+j<i*size+size:=by omega
     _=(i+1)*size:=by rw[AX,Bw]
     _≤els.length*size:=AK _ E
   grind
theorem wX(s:List UInt8):∃ ns,News w g st P (.string ⟨s.toArray⟩) 1 (s.map Da) ns:=by
 have e:CU ⟨s.toArray⟩=s.length:=by simp[CU]
 have I:∀ w':World,(Builtin.firstCells 1 (s.map Da).length (.string ⟨s.toArray⟩)).run P w'=.ok ((s.map fun b=>Value.int .u8 b.toNat)).toArray w':=by
  intro w';simp[Builtin.firstCells]
 refine⟨s.map fun b=>Value.int .u8 b.toNat,by simp,?_,?_,⟨by simp[Builtin.lenOf,e],by simp[Builtin.lenOf,e]⟩,I w,I w.drew⟩
 ·intro u hu;simp only[AS]at hu;obtain⟨b,_,rfl⟩:=hu;rfl
 ·intro i j d J;obtain⟨e,he,E⟩:=GQ J;simp only[AG,DA]at he;obtain⟨b,hb,rfl⟩:=he
  cases j with
  |zero=>
   simp[Da,D.cells]at E;subst E;exact⟨.int .u8 b.toNat,by simp[hb],.int _ _⟩
  |succ j=>simp[Da,D.cells]at E
theorem Yes(O:P.underlying t=some (.slice e))(U:(∃ V,P.underlying tx=some (.slice V))∨P.underlying tx=some .string)(hi:P.info? e=some i)
  {b u:Nat} {C:Array Value} {X:TypeId} (hb:w.heap[b]?=some (.cells C X (0,0)))    (J:News w g st P x i.size els ns) (E:u+els.length≤sCap) (M:u*i.size+ns.length≤C.size) :
  (Builtin.append_ #[t,tx] ty #[.slice (some ⟨b,0,none⟩) u sCap,x]).run P w=
   .ok (.slice (some ⟨b,0,none⟩) (u+els.length) sCap) (w.setRow b (C.toList.take (u*i.size)++ns++C.toList.drop (u*i.size+ns.length)).toArray):=by
 have I:=run_storeCells_at P b (u*i.size) X ns 0 C w hb (by simpa using M) J.one;simp only[BV]at I;have Y:=J.lenOf.1;have h2:=J.first.1
 rcases U with⟨V,N⟩ | N
 ·simp[Builtin.append_,run_underlying O,sizeOf,typeInfo,hi,run_underlying N,Y,E,h2,I3,I]
 ·simp[Builtin.append_,run_underlying O,sizeOf,typeInfo,hi,run_underlying N,Y,E,h2,I3,I]
theorem gd(N:P.underlying t=some (.slice e))(O:(∃ U,P.underlying tx=some (.slice U))∨P.underlying tx=some .string)(hi:P.info? e=some i)(V:i.zero=some z)
  {a:Option Addr} {u:Nat}  {E:List D} {os:List Value} (X:News w g st P x i.size els ns) (hO:News w g st P (.slice a u sCap) i.size E os) (Y:E.length=u)
  (hg:sCap<u+els.length) (ah:u+els.length≤9223372036854775807) (af:Builtin.nextslicecap (u+els.length) sCap*i.bytes≤281474976710656) :
  (Builtin.append_ #[t,tx] ty #[.slice a u sCap,x]).run P w=
   .ok (.slice (some ⟨w.heap.size,0,none⟩) (u+els.length) (grownCap w (u+els.length) sCap e))
    (w.drew.alloc (.cells (os.toArray++ns.toArray++Builtin.zeroCells z.cells (grownCap w (u+els.length) sCap e - (u+els.length))) e)):=by
 subst Y;have h1:=X.lenOf.1;have h2:=X.first.2
 have h3:=hO.first.2
 have hn:¬ (E.length+els.length≤sCap):=by omega
 have I:¬ (9223372036854775807<((E.length:Int)+(els.length:Int))):=by omega
 have J:¬ (281474976710656<Builtin.nextslicecap (E.length+els.length) sCap*i.bytes):=by omega
 rcases O with⟨U,M⟩ | M
 ·simp[Builtin.append_,run_underlying N,sizeOf,typeInfo,zeroValue,hi,V,run_underlying M,h1,hn,I,J,Question.forced,h2,h3,newRow,grownCap]
  congr 2
  grind
 ·simp[Builtin.append_,run_underlying N,sizeOf,typeInfo,zeroValue,hi,V,run_underlying M,h1,hn,I,J,Question.forced,h2,h3,newRow,grownCap]
  congr 2
  grind
theorem jJ{n cap:Nat}(h:cap<n)(hb:n*bytes≤140737488355328):Builtin.nextslicecap n cap*bytes≤281474976710656:=by
 exact growslice_fits h hb
end
end Go.Proofs.YtijnglngaogdjaaGreatDoor.PI
