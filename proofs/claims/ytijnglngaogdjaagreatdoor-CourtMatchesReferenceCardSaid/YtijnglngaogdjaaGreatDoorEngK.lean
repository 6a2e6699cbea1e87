/-
  Each operation of the model does what its pure counterpart does: make, append, the bytes of a string.
  Conditions: none; these are lemmas.
-/
import Derived.Test.YtijnglngaogdjaaGreatDoorProg
import Derived.WalkKit
import Derived.Deep.LoopGhost
import Derived.Orders
import Derived.Lib.Strings
import Derived.Laws.IdiomStrings
import Derived.Great.BuildSlice
open Bool renaming false→f_,true→t_
open Option renaming some→s_
open BitVec renaming ofInt→C0
open ByteArray renaming size→Da
open List renaming range→C3,replicate→CZ
set_option maxHeartbeats 8000000
set_option maxRecDepth 20000
set_option linter.unusedSimpArgs false
set_option linter.unusedVariables false
noncomputable section
namespace Go.Proofs.YtijnglngaogdjaaGreatDoor.PI
open Go
theorem YYN{c:Prop}{i:Decidable c}{α:Sort _}{a b:α}(h:¬c:=by omega):@ite _ c i a b=b:=if_neg h
theorem YYF{p:Prop}(h:¬p:=by omega):p=False:=eq_false h
abbrev Aa:=@List.cons.injEq
abbrev Ab:=@List.getElem?_eq_some_iff
abbrev Ac:=@List.length_append
abbrev Ad:=@Bool.and_eq_true
abbrev Ae:=@Option.map_some
abbrev Af:=@List.append_nil
abbrev Ag:=@List.cons_append
abbrev Ah:=@List.all_eq_true
abbrev Ai:=@List.getD_eq_getElem?_getD
abbrev Aj:=@List.getElem?_eq_getElem
abbrev Ak:=@List.length_cons
abbrev Al:=@List.nil_append
abbrev Am:=@List.append_assoc
abbrev An:=@List.mem_of_getElem?
abbrev Ao:=@Bool.false_eq_true
abbrev Ap:=@List.mem_cons_of_mem
abbrev Aq:=@Nat.zero_add
abbrev Ar:=@List.length_nil
abbrev As:=@Option.ite_none_right_eq_some
abbrev At:=@Bool.not_true
abbrev Au:=@List.flatMap_cons
abbrev Av:=@List.getElem?_append_left
abbrev Aw:=@List.map_cons
abbrev Ax:=@Bool.not_false
abbrev Ay:=@List.mem_cons
abbrev Az:=@Option.bind_eq_some_iff
abbrev AA:=@List.length_take
abbrev AB:=@Prod.mk.injEq
abbrev AD:=@List.not_mem_nil
abbrev AE:=@Option.some.inj
abbrev AF:=@Nat.le_refl
abbrev AG:=@List.getElem?_cons_zero
abbrev AH:=@Array.getElem?_eq_some_iff
abbrev AI:=@Int.toNat_natCast
abbrev AJ:=@List.getElem?_append_right
abbrev AK:=@List.getElem?_map
abbrev AL:=@List.take_of_length_le
abbrev AM:=@List.mem_append
abbrev AN:=@Bool.and_self
abbrev AO:=@List.getElem?_set_ne
abbrev AP:=@List.mem_singleton
abbrev AQ:=@List.eq_nil_of_length_eq_zero
abbrev AR:=@List.take_length
abbrev AS:=@Option.some.injEq
abbrev AT:=@Nat.mul_le_mul_right
abbrev AU:=@Bool.not_eq_true'
abbrev AV:=@List.mem_range
abbrev AW:=@List.length_drop
abbrev AX:=@List.all_cons
abbrev AY:=@Nat.zero_le
abbrev AZ:=@Nat.le_trans
abbrev A0:=@Option.getD_none
abbrev A1:=@List.mem_map
abbrev A2:=@List.drop_length
abbrev A3:=@Nat.lt_of_lt_of_le
abbrev A4:=@List.mem_iff_getElem?
abbrev A5:=@Nat.lt_or_ge
abbrev A6:=@Nat.add_mul
abbrev A7:=@List.length_map
abbrev A8:=@List.mk_mem_zipIdx_iff_getElem?
abbrev A9:=@List.append_inj
abbrev Ba:=@List.map_nil
abbrev Bb:=@Bool.true_and
abbrev Bc:=@Int.eq_ofNat_of_zero_le
abbrev Bd:=@Nat.mod_eq_of_lt
abbrev Be:=@List.mem_filter
abbrev Bf:=@List.drop_eq_getElem_cons
abbrev Bg:=@List.mem_cons_self
abbrev Bh:=@Bool.or_eq_true
abbrev Bi:=@List.contains_iff_mem
abbrev Bj:=@List.ext_getElem?
abbrev Bk:=@Option.bind_some
abbrev Bl:=@List.getElem?_cons_succ
abbrev Bm:=@List.map_append
abbrev Bn:=@List.set_cons_zero
abbrev Bo:=@List.range_eq_range'
abbrev Bp:=@List.mem_flatMap
abbrev Bq:=@Option.bind_eq_bind
abbrev Bs:=@List.drop_zero
abbrev Bt:=@Bool.false_and
abbrev Bu:=@List.take_append_drop
abbrev Bv:=@List.getElem_mem
abbrev Bw:=@Bool.or_false
abbrev Bx:=@List.drop_drop
abbrev By:=@List.mapM_cons
abbrev Bz:=@Nat.one_mul
abbrev BA:=@List.map_congr_left
abbrev BB:=@List.all_append
abbrev BC:=@List.getElem?_set_self
abbrev BD:=@Int.tdiv_eq_ediv_of_nonneg
abbrev BE:=@List.flatMap_nil
abbrev BF:=@Nat.sub_self
abbrev BG:=@List.length_replicate
abbrev BH:=@List.getElem?_eq_none
abbrev BI:=@Array.getElem?_eq_getElem
abbrev BJ:=@List.mem_or_eq_of_mem_set
abbrev BK:=@Array.toArray_toList
abbrev BL:=@Option.pure_def
abbrev BM:=@Nat.min_eq_left
abbrev BN:=@Nat.and_two_pow_sub_one_eq_mod
abbrev BO:=@Nat.mul_one
abbrev BP:=@List.replicate_succ
abbrev BQ:=@List.isEmpty_iff
abbrev BR:=@Option.map_eq_some_iff
abbrev BS:=@List.getElem?_take
abbrev BT:=@UInt8.toNat_ofNat'
abbrev BU:=@Array.empty_append
abbrev BV:=@Nat.eq_zero_or_pos
abbrev BW:=@Int.emod_lt_of_pos
abbrev BX:=@List.set_append_right
abbrev BY:=@Prod.ext_iff
abbrev BZ:=@List.set_append_left
abbrev B0:=@List.getElem?_eq_none_iff
abbrev B1:=@List.range'_succ
abbrev B2:=@List.filter_eq_self
abbrev B3:=@Nat.add_zero
abbrev B4:=@List.getElem?_drop
abbrev B5:=@Bool.and_true
abbrev B6:=@Option.isSome_none
abbrev B7:=@Option.isSome_some
abbrev B8:=@Bool.eq_iff_iff
abbrev B9:=@List.map_take
abbrev Ca:=@List.flatMap_eq_nil_iff
abbrev Cb:=@List.set_eq_take_append_cons_drop
abbrev Cc:=@List.length_set
abbrev Cd:=@Nat.two_pow_pos
abbrev Ce:=@Nat.div_div_eq_div_mul
abbrev Cf:=@List.replicate_append_replicate
abbrev Cg:=@Bool.and_false
abbrev Ch:=@Bool.bne_false
abbrev Ci:=@Array.getElem?_modify
abbrev Cj:=@Nat.mul_comm
abbrev Ck:=@Nat.zero_mul
abbrev Cl:=@Array.getElem?_toList
abbrev Cm:=@Nat.le_of_lt
abbrev Cn:=@Int.mul_le_mul_of_nonneg_right
abbrev Co:=@Int.ediv_mul_add_emod
abbrev Cp:=@Nat.div_lt_iff_lt_mul
abbrev Cq:=@Int.mul_ediv_add_emod
abbrev Cr:=@Option.getD_some
abbrev Cs:=@Int.ediv_le_self
abbrev Ct:=@List.mem_of_mem_drop
abbrev Cu:=@Nat.pow_le_pow_right
abbrev Cv:=@List.getElem?_of_mem
abbrev Cw:=@List.replicate_succ'
abbrev Cx:=@List.map_drop
abbrev Cy:=@Array.length_toList
abbrev Cz:=@List.length_pos_iff
abbrev CA:=@List.replicate_zero
abbrev CB:=@UInt8.toNat_inj
abbrev CC:=@Int.ediv_nonneg
abbrev CD:=@Int.emod_nonneg
abbrev CE:=@Nat.add_sub_cancel
abbrev CF:=@Array.foldl_toList
abbrev CG:=@List.map_map
abbrev CH:=@List.all_nil
abbrev CI:=@Int.mul_comm
abbrev CJ:=@List.set_cons_succ
abbrev CL:=@List.size_toArray
abbrev CM:=@List.filter_congr
abbrev CN:=@List.take_add
abbrev CO:=@Nat.pow_add
abbrev CP:=@Int.ofNat_inj
abbrev CQ:=@List.nodup_range
abbrev CR:=@Nat.lt_succ_self
abbrev CS:=@BitVec.toNat_and
abbrev CT:=@List.drop_append
abbrev CU:=@Int.lt_or_le
abbrev CV:=@Nat.pow_succ
variable {α:Type _}
theorem Dp(a b : α) : (s_ a=s_ b)=(a=b):=AS a b
variable {β:Type _}
theorem D0{x : Option α}{f : α→β}{b : β} : Option.map f x=s_ b↔∃ a, x=s_ a∧f a=b:=BR
theorem DO(a : α)(b : β)(c : α)(d : β) : ((a, b)=(c, d))=(a=c∧b=d):=AB a b c d
inductive D where
 |int (k:IntKind) (n:Int)
 |bool (b:Bool)
 |str (s:List UInt8)
 |slc (sz:Nat) (els:List D) (tight:Bool)
 |row (key tot off len:Nat)
 |bsl (key off n sz:Nat) (ag:Bool)
 |ptr (key off:Nat)
 |rptr (key tot i off:Nat)
 |eptr (el:D) (off:Nat)
 |agg (cells:List D)
 |tup (vs:List D)
 |clo (f:Nat) (caps:List D)
 |nilf
 |nilp
 /-- a map in the store -/
 |mapv (key:Nat)
 |nilm
 /-- a table of functions,by integers,that nobody changes -/
 |gmap (es:List (Int×Nat))
 |junk
 deriving Inhabited
namespace D
def cells:D→List D
 |.agg l=>l
 |d=>[d]
def isCell:D→Bool
 |.agg _ | .tup _ | .junk=>f_
 |_=>t_
def mk(ag:Bool)(cs:List D):D:=if ag then .agg cs else cs.headD .junk
def pure1:D→Bool
 |.int _ _ | .bool _ | .str _ | .slc _ _ _ | .clo _ [] | .nilf | .nilp | .nilm | .gmap _=>t_
 |_=>f_
def noRef1:D→Bool
 |.int _ _ | .bool _ | .str _=>t_
 |_=>f_
def noRef:D→Bool
 |.agg l=>l.all noRef1
 |.tup l=>l.all fun d=>match d with | .agg l=>l.all noRef1|d=>noRef1 d
 |d=>noRef1 d
end D
def Dr(b:UInt8):D:=.int .u8 (b.toNat:Int)
structure Obj where
 row:Bool
 sz:Nat
 els:List D
 lent:Bool
 deriving Inhabited
abbrev St:=List Obj
def Obj.isMap(o:Obj):Bool:=!o.row && decide (1<o.sz)
def Gs(sz:Nat):D→D
 |.agg l=>.mk (sz != 2) (l.take (sz - 1))
 |_=>.junk
def H8(sz:Nat):D→D
 |.agg l=>(l.drop (sz - 1)).headD .junk
 |_=>.junk
def HO(st:St)(key tot off len:Nat):Option (Nat×List D):=
 match st[key]? with
 |some o=>if o.row && o.els.length == tot && decide (off+len≤tot)then s_ (o.sz,(o.els.drop off).take len)else none
 |none=>none
def J1(sz:Nat)(ag:Bool)(cs:List D):Nat→List D
 |0=>[]
 |n+1=>D.mk ag (cs.take sz)::J1 sz ag (cs.drop sz) n
def KG(st:St)(key off n sz:Nat)(ag:Bool):Option (List D):=
 match st[key]? with
 |some o=>if !o.row && decide (off+n*sz≤o.els.length) && decide (0<sz) && (ag || sz == 1)then s_ (J1 sz ag (o.els.drop off) n)else none
 |none=>none
def nz(sz:Nat)(els:List D):Nat:=if els.isEmpty then 0 else sz
def purA:D→Bool
 |.agg l=>l.all D.pure1
 |d=>d.pure1
def It(st:St)(key off n sz:Nat)(ag:Bool):Option (List D):=match KG st key off n sz ag with
 |some els=>if els.all purA then s_ els else none
 |none=>none
def D2(st:St):D→Option D
 |.row key tot off len=>(HO st key tot off len).map fun p=>.slc (nz p.1 p.2) p.2 f_
 |.slc sz els _=>s_ (.slc (nz sz els) els f_)
 |.bsl key off n sz ag=>(It st key off n sz ag).map fun els=>.slc (nz sz els) els f_
 |d=>if d.pure1 then s_ d else none
def Es(st:St):List D→Option (List D)
 |[]=>s_ []
 |d::l=>match D2 st d,Es st l with
  |some x,s_ y=>s_ (x::y)
  |_,_=>none
def Ej(st:St):D→Option D
 |.agg l=>(Es st l).map .agg
 |.tup _=>none
 |d=>D2 st d
def EG(st:St):List D→Option (List D)
 |[]=>s_ []
 |d::l=>match Ej st d,EG st l with
  |some x,s_ y=>s_ (x::y)
  |_,_=>none
def FQ:D→List Nat
 |.row key _ _ _=>[key]
 |.bsl key _ _ _ _=>[key]
 |_=>[]
def keys:D→List Nat
 |.agg l=>l.flatMap FQ
 |d=>FQ d
def lend(ks:List Nat)(st:St):St:=
 match ks with
 |[]=>st
 |k::r=>lend r (st.modify k fun o=>{o with lent:=t_})
def purR:D→Bool
 |.tup l=>l.all purA
 |d=>purA d
def Hx(st:St):D→Option (Nat×List D)
 |.slc sz els _=>s_ (sz,els)
 |.row key tot off len=>HO st key tot off len
 |.bsl key off n sz ag=>match KG st key off n sz ag with
  |some els=>if els.all purA then s_ (sz,els)else none
  |none=>none
 |.str s=>s_ (1,s.map Dr)
 |_=>none
def Fo(st:St)(key tot:Nat):Bool:=
 match st[key]? with
 |some o=>o.row && o.els.length == tot
 |none=>f_
def Iz:D→Bool
 |.str _=>t_
 |_=>f_
def E7(st:St):D→Option Nat
 |.slc _ els _=>s_ els.length
 |.row key tot _ len=>if Fo st key tot then s_ len else none
 |.bsl _ _ n _ _=>s_ n
 |.str s=>s_ s.length
 |_=>none
inductive PA where
 |s (n:Nat)
 |c (d:D)
 |g (n:Nat)
 deriving Inhabited
inductive PConv where
 |int (k:IntKind)
 |bytes
 |str
 |same
 deriving Inhabited
inductive POp where
 |mov (x:PA)
 |pick (c x y:PA)
 |box (x:PA)
 |bld (zero:List D) (parts:List (Nat×Nat×PA))
 |bslc (sz:Nat) (parts:List PA)
 |load (n:Nat) (ag:Bool) (p:PA)
 |stor (n:Nat) (p x:PA)
 |nilc (x:PA)
 |bin (op:BinOp) (x y:PA)
 |beq (neg:Bool) (x y:PA)
 |aeq (ks:List Nat) (neg:Bool) (x y:PA)
 |un (op:UnOp) (x:PA)
 |conv (c:PConv) (x:PA)
 |mkslc (sz bytes:Nat) (zero:D) (len cap:PA)
 |slice (sz:Nat) (x:PA) (lo hi mx:Option PA)
 |sliceA (n sz:Nat) (ag:Bool) (x:PA) (lo hi:Option PA)
 |fld (off:Nat) (p:PA)
 |fldv (off n:Nat) (ag:Bool) (x:PA)
 |idxS (sz:Nat) (x i:PA)
 |idxA (n sz:Nat) (p i:PA)
 |idx (x i:PA)
 |idxV (len sz:Nat) (ag:Bool) (x i:PA)
 |len (str:Bool) (x:PA)
 |lenA (n:Nat)
 |app (sz bytes:Nat) (s x:PA)
 |mm (isMax:Bool) (x y:PA)
 |mm3 (isMax:Bool) (x y z:PA)
 |call (f:Nat) (args:List PA)
 |icall (f:Nat) (args:List PA)
 /-- a call of what only makes one new object -/
 |mcall (f:Nat) (args:List PA)
 /-- a call of what only reads the objects of which its arguments speak -/
 |rcall (f:Nat) (args:List PA)
 |callv (x:PA) (args:List PA)
 |mkclo (f:Nat) (caps:List PA)
 |ext (x:PA) (i:Nat)
 |mkmap (sz:Nat)
 |mapup (sz:Nat) (ks:List Nat) (m k v:PA)
 |mapget (sz:Nat) (ks:List Nat) (ok:Bool) (zero:D) (m k:PA)
 /-- copying between parts of arrays in boxes -/
 |cpy (sz:Nat) (d s:PA)
 /-- what is not covered: it comes to nothing -/
 |fail
 deriving Inhabited
def LY(op:BinOp)(k:IntKind)(x y:Int):Option Int:=
 let a:=C0 k.bits x
 let b:=C0 k.bits y
 match op with
 |.and=>s_ (k.wrap (a &&& b).toNat)
 |.or=>s_ (k.wrap (a ||| b).toNat)
 |.xor=>s_ (k.wrap (a ^^^ b).toNat)
 |.andNot=>s_ (k.wrap (a &&& ~~~b).toNat)
 |_=>none
def Kc(op:BinOp)(x y:Int):Option Bool:=
 match op with
 |.eql=>s_ (x == y)
 |.neq=>s_ (x != y)
 |.lss=>s_ (decide (x<y))
 |.leq=>s_ (decide (x≤y))
 |.gtr=>s_ (decide (x > y))
 |.geq=>s_ (decide (x ≥ y))
 |_=>none
def Lh(op:BinOp)(k:IntKind)(x y:Int):Option Int:=
 match op with
 |.add=>s_ (k.wrap (x+y))
 |.sub=>s_ (k.wrap (x - y))
 |.mul=>s_ (k.wrap (x*y))
 |.quo=>if y=0 then none else s_ (k.wrap (x.tdiv y))
 |.rem=>if y=0 then none else s_ (x.tmod y)
 |_=>none
def MR(op:BinOp)(k:IntKind)(x y:Int):Option Int:=
 if y<0 then none else
 match op with
 |.shl=>s_ (k.wrap (x*2 ^ (min y.toNat k.bits)))
 |.shr=>s_ (x.fdiv (2 ^ (min y.toNat k.bits)))
 |_=>none
def Jl:Nat→D→D→Option Bool
 |0,.int k x,.int k' y=>if k=k' then s_ (x == y)else none
 |1,.bool x,.bool y=>s_ (x == y)
 |2,.str x,.str y=>s_ (x == y)
 |_,_,_=>none
def Fl:List Nat→List D→List D→Option Bool
 |[],[],[]=>s_ t_
 |q::qs,x::xs,y::ys=>match Jl q x y,Fl qs xs ys with
  |some a,s_ b=>s_ (a && b)
  |_,_=>none
 |_,_,_=>none
def gr(op:BinOp)(x y:List UInt8):Option D:=
 match op with
 |.add=>if x.length+y.length≤4294967296 then s_ (.str (x++y))else none
 |.eql=>s_ (.bool (x == y))
 |.neq=>s_ (.bool !(x == y))
 |.lss=>s_ (.bool (Op.bytesLess x y))
 |.leq=>s_ (.bool (Op.bytesLess x y || x == y))
 |.gtr=>s_ (.bool !(Op.bytesLess x y || x == y))
 |.geq=>s_ (.bool !(Op.bytesLess x y))
 |_=>none
def DF(op:BinOp)(x y:D):Option D:=
 match x,y with
 |.int k a,.int k' b=>
  match op with
  |.shl | .shr=>(MR op k a b).map (.int k)
  |_=>if k=k' then
    match op with
    |.add | .sub | .mul | .quo | .rem=>(Lh op k a b).map (.int k)
    |.and | .or | .xor | .andNot=>(LY op k a b).map (.int k)
    |_=>(Kc op a b).map .bool
   else none
 |.str a,.str b=>gr op a b
 |_,_=>none
def NX(neg:Bool)(x y:D):Option D:=
 match x,y with
 |.bool a,.bool b=>s_ (.bool ((a == b) != neg))
 |_,_=>none
def Hu(ks:List Nat)(neg:Bool)(x y:D):Option D:=
 match x,y with
 |.agg xs,.agg ys=>(Fl ks xs ys).map fun b=>.bool (b != neg)
 |_,_=>none
def IJ(sz:Nat)(ks:List Nat)(x y:D):Option Bool:=
 if sz=2 then match ks with
  |[q]=>Jl q x y
  |_=>none
 else match x,y with
  |.agg xs,.agg ys=>Fl ks xs ys
  |_,_=>none
def L1(sz:Nat)(ks:List Nat)(k:D):List D→Nat→Option (Option Nat)
 |[],_=>s_ none
 |el::r,i=>match IJ sz ks k (Gs sz el)with
  |some t_=>s_ (s_ i)
  |some f_=>L1 sz ks k r (i+1)
  |none=>none
def Gx(n:Int):List (Int×Nat)→Option Nat
 |[]=>none
 |p::r=>if p.1=n then s_ p.2 else Gx n r
def JU(st:St)(sz:Nat)(ks:List Nat)(ok:Bool)(zero m k:D):Option D:=
 match m with
 |.mapv key=>match st[key]? with
  |some o=>if o.isMap && o.sz == sz && (IJ sz ks k k).isSome then match L1 sz ks k o.els 0 with
    |some (s_ i)=>match o.els[i]? with
     |some el=>s_ (if ok then .tup [H8 sz el,.bool t_]else H8 sz el)
     |none=>none
    |some none=>s_ (if ok then .tup [zero,.bool f_]else zero)
    |none=>none
   else none
  |none=>none
 |.gmap es=>if sz=0 then match k with
   |.int .i64 n=>s_ (match Gx n es with
    |some f=>if ok then .tup [.agg [.clo f []],.bool t_]else .agg [.clo f []]
    |none=>if ok then .tup [zero,.bool f_]else zero)
   |_=>none
  else none
 |_=>none
def Tp(st:St)(sz:Nat)(ks:List Nat)(m k v:D):Option St:=
 match m with
 |.mapv key=>match st[key]? with
  |some o=>if o.isMap && o.sz == sz && !o.lent && v.isCell && k.cells.length+1 == sz && k.cells.all D.isCell && IJ sz ks k k == s_ t_ then match L1 sz ks k o.els 0 with
    |some (s_ i)=>s_ (st.set key {o with els:=o.els.set i (.agg (k.cells++[v]))})
    |some none=>s_ (st.set key {o with els:=o.els++[.agg (k.cells++[v])]})
    |none=>none
   else none
  |none=>none
 |_=>none
def LC(op:UnOp)(x:D):Option D:=
 match op,x with
 |.neg,.int k n=>s_ (.int k (k.wrap (0 - n)))
 |.xor,.int k n=>(LY .xor k (if k.signed then -1 else k.max) n).map (.int k)
 |.not,.bool b=>s_ (.bool !b)
 |_,_=>none
def UD:D→Option UInt8
 |.int .u8 n=>if 0≤n∧n<256 then s_ (UInt8.ofNat n.toNat)else none
 |_=>none
def RN:List D→Option (List UInt8)
 |[]=>s_ []
 |d::l=>match UD d,RN l with
  |some x,s_ y=>s_ (x::y)
  |_,_=>none
def FZ(st:St)(c:PConv)(x:D):Option D:=
 match c,x with
 |.int k,.int _ n=>s_ (.int k (k.wrap n))
 |.bytes,.str s=>s_ (.slc 1 (s.map Dr) f_)
 |.str,.slc sz els _=>if sz == 1 || els.isEmpty then(RN els).map .str else none
 |.str,.row key tot off len=>match HO st key tot off len with
  |some (sz,els)=>if sz == 1 then(RN els).map .str else none
  |none=>none
 |.same,.str s=>s_ (.str s)
 |_,_=>none
def Gk:D→Option Nat
 |.int _ n=>if 0≤n then s_ n.toNat else none
 |_=>none
def GR(d:Option D)(dflt:Nat):Option Nat:=
 match d with
 |some x=>Gk x
 |none=>s_ dflt
def G5(st:St)(sz:Nat)(x:D)(lo hi mx:Option D):Option D:=
 match x with
 |.str s=>
  match mx,GR lo 0,GR hi s.length with
  |none,s_ l,s_ h=>if sz=0∧l≤h∧h≤s.length then s_ (.str ((s.take h).drop l))else none
  |_,_,_=>none
 |.slc sz' els t=>
  if(sz' == sz || els.isEmpty) && sz != 0 then
   match GR lo 0,GR hi els.length with
   |some l,s_ h=>
    match mx with
    |none=>if l≤h∧h≤els.length then s_ (.slc sz' ((els.take h).drop l) (t && h == els.length))else none
    |some m=>if l≤h∧h≤els.length∧Gk m=s_ h∧hi.isSome=t_ then s_ (.slc sz' ((els.take h).drop l) t_)else none
   |_,_=>none
  else none
 |.row key tot off len=>
  match st[key]? with
  |some o=>
   if o.row && o.sz == sz && o.els.length == tot && sz != 0 then
    match mx,GR lo 0,GR hi len with
    |none,s_ l,s_ h=>
     if l≤h∧h≤len then
      if l=0∧h=len then s_ x
      else if l=h then s_ (.slc sz [] f_)
      else s_ (.row key tot (off+l) (h - l))
     else none
    |_,_,_=>none
   else none
  |none=>none
 |_=>none
def P3(n sz:Nat)(ag:Bool)(x:D)(lo hi:Option D):Option D:=
 match GR lo 0,GR hi n with
 |some l,s_ h=>
  if l≤h∧h≤n then
   match x with
   |.ptr key off=>if l=h then s_ (.slc sz [] f_)else s_ (.bsl key (off+l*sz) (h - l) sz ag)
   |.eptr el off=>if l=h then s_ (.slc sz [] f_)else
    if decide (off+n*sz≤el.cells.length) && decide (0<sz) && (ag || sz == 1)then s_ (.slc sz (J1 sz ag (el.cells.drop (off+l*sz)) (h - l)) (h == n))else none
   |_=>none
  else none
 |_,_=>none
def F7(l:List D)(off:Nat)(xs:List D):List D:=l.take off++xs++l.drop (off+xs.length)
def FL(st:St)(n:Nat)(ag:Bool)(p:D):Option D:=
 if !ag && n != 1 then none else
 match p with
 |.ptr key off=>
  match st[key]? with
  |some o=>if !o.row && decide (off+n≤o.els.length)then s_ (.mk ag ((o.els.drop off).take n))else none
  |none=>none
 |.rptr key tot i off=>
  match st[key]? with
  |some o=>if o.row && o.els.length == tot then
    match o.els[i]? with
    |some el=>if off+n≤el.cells.length then s_ (.mk ag ((el.cells.drop off).take n))else none
    |none=>none
   else none
  |none=>none
 |.eptr el off=>if off+n≤el.cells.length then s_ (.mk ag ((el.cells.drop off).take n))else none
 |_=>none
def Ys(el:D)(off:Nat)(ys:List D):Option D:=
 match el with
 |.agg l=>if off+ys.length≤l.length then s_ (.agg (F7 l off ys))else none
 |_=>match off,ys with
  |0,[z]=>s_ z
  |_,_=>none
def Nb(st:St)(n:Nat)(p x:D):Option St:=
 match p with
 |.ptr key off=>
  match st[key]? with
  |some o=>
   if !o.row && !o.lent && decide (off+n≤o.els.length) && x.cells.length == n && x.cells.all D.isCell then
    s_ (st.set key {o with els:=F7 o.els off x.cells})
   else none
  |none=>none
 |.rptr key tot i off=>
  match st[key]?,Ej st x with
  |some o,s_ y=>
   if o.row && !o.lent && o.els.length == tot && (keys x).isEmpty then
    match o.els[i]? with
    |some el=>
     match Ys el off y.cells with
     |some el'=>if y.cells.length=n then s_ (st.set key {o with els:=o.els.set i el'})else none
     |none=>none
    |none=>none
   else none
  |_,_=>none
 |_=>none
def Yn(st:St)(sz key tot off len:Nat)(s:D):Option (D×St):=
 match st[key]?,Hx st s with
 |some o,s_ (sz2,xs)=>if o.row && !o.lent && o.els.length == tot && o.sz == 1 && sz == 1 && (sz2 == 1 || xs.isEmpty) && decide (off+len≤tot) && !Iz s && decide (0<min len xs.length)then
   s_ (.int .i64 (min len xs.length:Nat),st.set key {o with els:=F7 o.els off (xs.take (min len xs.length))})else none
 |_,_=>none
def K0(st:St)(sz:Nat)(d s:D):Option (D×St):=
 match d,s with
 |.bsl key off n sz1 _,.bsl key2 off2 n2 sz2 _=>if n=0∨n2=0∨sz1≠sz∨sz2≠sz∨sz=0 then none else
  match st[key]?,st[key2]? with
  |some o,s_ o2=>if !o.row && !o.lent && !o2.row && decide (off+min n n2*sz≤o.els.length) && decide (off2+min n n2*sz≤o2.els.length) && ((o2.els.drop off2).take (min n n2*sz)).all D.isCell then
    s_ (.int .i64 (min n n2:Nat),st.set key {o with els:=F7 o.els off ((o2.els.drop off2).take (min n n2*sz))})
   else none
  |_,_=>none
 |.slc _ [] _,.bsl _ _ _ _ _ | .bsl _ _ _ _ _,.slc _ [] _ | .slc _ [] _,.slc _ [] _=>s_ (.int .i64 0,st)
 |.row key tot off len,s=>Yn st sz key tot off len s
 |_,_=>none
def Eg(st:St)(sz bytes:Nat)(s x:D):Option (D×St):=
 match Hx st x with
 |none=>none
 |some (szx,xs)=>
  if !(szx == sz || xs.isEmpty) || sz == 0 then none else
  match s with
  |.row key tot off len=>
   match st[key]? with
   |some o=>
    if o.row && o.sz == sz && o.els.length == tot && off == 0 && len == tot && decide ((tot+xs.length)*bytes≤140737488355328) && decide (tot+xs.length≤4294967296)then
     s_ (.row key (tot+xs.length) 0 (tot+xs.length),st.set key {o with els:=o.els++xs})
    else none
   |none=>none
  |.slc sz' els t_=>
   if xs.isEmpty then s_ (.slc sz' els t_,st)
   else if(sz' == sz || els.isEmpty) && decide ((els.length+xs.length)*bytes≤140737488355328) && decide (els.length+xs.length≤4294967296)then
    s_ (.row st.length (els.length+xs.length) 0 (els.length+xs.length),st++[{row:=t_,sz,els:=els++xs,lent:=f_}])
   else none
  |_=>none
def GK(st:St)(sz:Nat)(x i:D):Option D:=
 match Gk i with
 |none=>none
 |some j=>
  match x with
  |.slc sz' els _=>match els[j]? with
   |some el=>if sz' == sz then s_ (.eptr el 0)else none
   |none=>none
  |.row key tot off len=>match st[key]? with
   |some o=>if o.row && o.sz == sz && o.els.length == tot && decide (j<len)then s_ (.rptr key tot (off+j) 0)else none
   |none=>none
  |.bsl key off n sz' _=>if j<n∧sz'=sz then s_ (.ptr key (off+j*sz))else none
  |_=>none
def FE(st:St)(off:Nat):D→Option D
 |.ptr key o=>s_ (.ptr key (o+off))
 |.rptr key tot i o=>if Fo st key tot then s_ (.rptr key tot i (o+off))else none
 |.eptr el o=>s_ (.eptr el (o+off))
 |_=>none
def Jg(st:St)(n sz:Nat)(p i:D):Option D:=
 match Gk i with
 |none=>none
 |some j=>if j<n then FE st (j*sz) p else none
def KZ(x i:D):Option D:=
 match x,Gk i with
 |.str s,s_ j=>match s[j]? with
  |some b=>s_ (Dr b)
  |none=>none
 |_,_=>none
def NQ(off n:Nat)(ag:Bool)(x:D):Option D:=
 match x with
 |.agg cs=>if decide (off+n≤cs.length) && (ag || n == 1)then s_ (.mk ag ((cs.drop off).take n))else none
 |_=>none
def Qw(len sz:Nat)(ag:Bool)(x i:D):Option D:=
 match Gk i with
 |some j=>if j<len then NQ (j*sz) sz ag x else none
 |none=>none
def Ed:List D→List (Nat×Nat×D)→Option (List D)
 |cs,[]=>s_ cs
 |cs,(off,size,d)::r=>
  if d.cells.length == size && decide (off+size≤cs.length) && d.cells.all D.isCell then Ed (F7 cs off d.cells) r else none
def yQ{α β:Type}(f:α→β):Option α→Option β
 |some x=>s_ (f x)
 |none=>none
def GZ:D→List Nat
 |.row k _ _ _ | .bsl k _ _ _ _ | .ptr k _ | .rptr k _ _ _ | .mapv k=>[k]
 |_=>[]
def DR:D→List Nat
 |.clo _ l=>l.flatMap GZ
 |d=>GZ d
def hk:D→List Nat
 |.agg l=>l.flatMap DR
 |d=>DR d
def Obj.see(o:Obj):Bool×Nat×List D:=(o.row,o.sz,o.els)
def HF(st:St):List Nat→List (Option (Bool×Nat×List D))
 |[]=>[]
 |k::l=>(st[k]?).map Obj.see::HF st l
def Jk(sp:List D→List (Option (Bool×Nat×List D))→Option D)(ds:List D)(st:St):Option D:=
 if(ds.flatMap hk).all (fun k=>(st[k]?).isSome)then sp ds (HF st (ds.flatMap hk))else none
structure Tbl where
 /-- what is told of it: from arguments without handles to a result without handles -/
 p:Nat→Option (List D→Option D)
 /-- carried out over the caller's own store -/
 i:Nat→Option (List D→St→Option (D×St))
 /-- what makes one new object,and does no more -/
 m:Nat→Option (List D→Option ((Nat→D)×(Nat→List Obj)))
 /-- what a round of the loop l does to the store -/
 y:Nat→List D→St→Option (D×St):=fun _ _ _=>none
 /-- functions that are ranged over -/
 r:Nat→Option ((List D→St→Option (D×St))→List D→St→Option (D×St)):=fun _=>none
 /-- functions that panic: with which value,of which type,and the store behind it -/
 x:Nat→Option (List D→St→Option (Nat×D×St)):=fun _=>none
 /-- functions that only read -/
 q:Nat→Option (List D→List (Option (Bool×Nat×List D))→Option D):=fun _=>none
abbrev DB:=Nat→Option D
def N0(isMax:Bool)(a b:Int):Int:=if isMax then(if b > a then b else a)else(if b<a then b else a)
def POp.exec(T:Tbl)(ρ:PA→D)(st:St):POp→Option (D×St)
 |.mov x=>s_ (ρ x,st)
 |.pick c x y=>match ρ c with
  |.bool b=>s_ (if b then ρ x else ρ y,st)
  |_=>none
 |.box x=>if(ρ x).cells.all D.isCell then s_ (.ptr st.length 0,st++[{row:=f_,sz:=1,els:=(ρ x).cells,lent:=f_}])else none
 |.bld zero parts=>(Ed zero (parts.map fun p=>(p.1,p.2.1,ρ p.2.2))).map fun cs=>(.agg cs,st)
 |.bslc sz parts=>match EG st (parts.map ρ)with
  |some els=>if(els.all fun e=>e.cells.length == sz) && decide (0<sz) && decide (els.length*sz≤16777216)then s_ (.slc sz els t_,lend ((parts.map ρ).flatMap keys) st)else none
  |none=>none
 |.load n ag p=>(FL st n ag (ρ p)).map (·,st)
 |.stor n p x=>(Nb st n (ρ p) (ρ x)).map (.tup [],·)
 |.nilc x=>match ρ x with
  |.ptr _ _ | .eptr _ _=>s_ (ρ x,st)
  |.rptr key tot _ _=>if Fo st key tot then s_ (ρ x,st)else none
  |_=>none
 |.bin op x y=>(DF op (ρ x) (ρ y)).map (·,st)
 |.beq neg x y=>(NX neg (ρ x) (ρ y)).map (·,st)
 |.aeq ks neg x y=>(Hu ks neg (ρ x) (ρ y)).map (·,st)
 |.un op x=>(LC op (ρ x)).map (·,st)
 |.conv c x=>(FZ st c (ρ x)).map (·,st)
 |.mkslc sz bytes zero ln cp=>match Gk (ρ ln),Gk (ρ cp)with
  |some l,s_ c=>if l≤c∧c≤4294967296∧c*bytes≤140737488355328∧0<sz∧zero.cells.length=sz∧zero.cells.all D.pure1=t_ then
    s_ (.row st.length l 0 l,st++[{row:=t_,sz,els:=CZ l zero,lent:=f_}])else none
  |_,_=>none
 |.slice sz x lo hi mx=>(G5 st sz (ρ x) (lo.map ρ) (hi.map ρ) (mx.map ρ)).map (·,st)
 |.sliceA n sz ag x lo hi=>(P3 n sz ag (ρ x) (lo.map ρ) (hi.map ρ)).map (·,st)
 |.fld off p=>(FE st off (ρ p)).map (·,st)
 |.fldv off n ag x=>(NQ off n ag (ρ x)).map (·,st)
 |.idxS sz x i=>(GK st sz (ρ x) (ρ i)).map (·,st)
 |.idxA n sz p i=>(Jg st n sz (ρ p) (ρ i)).map (·,st)
 |.idx x i=>(KZ (ρ x) (ρ i)).map (·,st)
 |.idxV ln sz ag x i=>(Qw ln sz ag (ρ x) (ρ i)).map (·,st)
 |.len str x=>if Iz (ρ x) == str then(E7 st (ρ x)).map fun(n:Nat)=>(D.int .i64 (n:Int),st)else none
 |.lenA n=>s_ (.int .i64 (n:Int),st)
 |.app sz bytes s x=>Eg st sz bytes (ρ s) (ρ x)
 |.mm isMax x y=>match ρ x,ρ y with
  |.int k a,.int _ b=>s_ (.int k (if isMax then(if b > a then b else a)else(if b<a then b else a)),st)
  |_,_=>none
 |.mm3 isMax x y z=>match ρ x,ρ y,ρ z with
  |.int k a,.int _ b,.int _ c=>s_ (.int k (N0 isMax (N0 isMax a b) c),st)
  |_,_,_=>none
 |.rcall f args=>match T.q f with
  |some sp=>(Jk sp (args.map ρ) st).map (·,st)
  |none=>none
 |.icall f args=>match T.i f with
  |some sp=>sp (args.map ρ) st
  |none=>none
 |.mcall f args=>match T.m f with
  |some sp=>match sp (args.map ρ)with
   |some r=>s_ (r.1 st.length,st++r.2 st.length)
   |none=>none
  |none=>none
 |.callv x args=>match ρ x with
  |.clo f caps=>if f<5000000 then match T.i f with
    |some sp=>sp (args.map ρ++caps) st
    |none=>none
   else if f<10000000 then match T.i (f - 5000000)with
    |some sp=>sp (caps++args.map ρ) st
    |none=>none
   else if caps.isEmpty then T.y (f - 10000000) (args.map ρ) st else none
  |_=>none
 |.mkclo f caps=>s_ (.clo f (caps.map ρ),st)
 |.call f args=>match T.p f,EG st (args.map ρ)with
  |some sp,s_ vs=>match sp vs with
   |some r=>s_ (r,if r.noRef then st else lend ((args.map ρ).flatMap keys) st)
   |none=>none
  |_,_=>none
 |.ext x i=>match ρ x with
  |.tup vs=>(vs[i]?).map (·,st)
  |_=>none
 |.mkmap sz=>if 1<sz∧sz≠1000003 then s_ (.mapv st.length,st++[{row:=f_,sz,els:=[],lent:=f_}])else none
 |.mapup sz ks m k v=>(Tp st sz ks (ρ m) (ρ k) (ρ v)).map (.tup [],·)
 |.mapget sz ks ok zero m k=>(JU st sz ks ok zero (ρ m) (ρ k)).map (·,st)
 |.cpy sz d s=>K0 st sz (ρ d) (ρ s)
 |.fail=>none
structure Foot where
 rd:List Nat
 wr:List Nat
 nu:Option Nat
 deriving Inhabited
def HH{α:Type}:Option α→List α
 |some x=>[x]
 |none=>[]
def POp.args:POp→List PA
 |.mov x | .box x | .nilc x | .un _ x | .conv _ x | .fld _ x | .fldv _ _ _ x | .len _ x | .ext x _ | .load _ _ x=>[x]
 |.pick c x y=>[c,x,y]
 |.bld _ parts=>parts.map fun p=>p.2.2
 |.bslc _ parts=>parts
 |.stor _ p x=>[p,x]
 |.bin _ x y | .beq _ x y | .aeq _ _ x y | .mm _ x y | .app _ _ x y=>[x,y]
 |.mkslc _ _ _ l c=>[l,c]
 |.slice _ x lo hi mx=>x::(HH lo++HH hi++HH mx)
 |.sliceA _ _ _ x lo hi=>x::(HH lo++HH hi)
 |.idxS _ x i | .idxA _ _ x i | .idx x i | .idxV _ _ _ x i=>[x,i]
 |.lenA _ | .fail | .mkmap _=>[]
 |.mapup _ _ m k v=>[m,k,v]
 |.mapget _ _ _ _ m k=>[m,k]
 |.cpy _ d s=>[d,s]
 |.mm3 _ x y z=>[x,y,z]
 |.call _ args | .icall _ args | .mcall _ args | .rcall _ args | .mkclo _ args=>args
 |.callv x args=>x::args
def ME:D→List Nat
 |.rptr k _ _ _=>[k]
 |_=>[]
def GI:D→Nat→Option Nat
 |.slc _ [] _,_=>none
 |_,n=>s_ n
def POp.foot(ρ:PA→D)(st:St):POp→Option Foot
 |.stor _ p x=>s_ ⟨hk (ρ x),hk (ρ p),none⟩
 |.box _ | .mkslc _ _ _ _ _=>s_ ⟨[],[],s_ st.length⟩
 |.app _ _ s x=>match ρ s with
  |.row key _ _ _=>s_ ⟨hk (ρ x),[key],none⟩
  |_=>s_ ⟨hk (ρ x),[],GI (ρ x) st.length⟩
 |.mcall _ _=>s_ ⟨[],[],s_ st.length⟩
 |.icall _ _ | .callv _ _ | .mkmap _ | .mapup _ _ _ _ _ | .cpy _ _ _ | .fail=>none
 |.fld _ x | .nilc x | .idxA _ _ x _=>s_ ⟨ME (ρ x),[],none⟩
 |p=>s_ ⟨(p.args.map ρ).flatMap hk,[],none⟩
def Iu(a b:List Nat):Bool:=a.all fun k=>!b.contains k
def LX(m:Option Nat)(a:List Nat):Bool:=match m with
 |some n=>a.all fun k=>decide (k<n)
 |none=>t_
def Foot.ok(f g:Foot):Bool:=Iu g.wr f.rd && Iu g.wr f.wr && Iu f.wr g.rd && LX f.nu g.rd && LX f.nu g.wr && LX g.nu f.rd && LX g.nu f.wr && (f.nu.isNone || g.nu.isNone)
def pE:Option (Option Foot)→Option Foot→Bool
 |some (s_ f),s_ g=>f.ok g
 |_,_=>f_
def OJ(fs:List (Option Foot))(g:Option Foot):List Nat→Bool
 |[]=>t_
 |j::r=>pE fs[j]? g && OJ fs g r
def QJ:Foot:=⟨[],[],none⟩
abbrev Frame:=Nat→D
def Frame.set(fr:Frame)(s:Nat)(d:D):Frame:=fun t=>if t=s then d else fr t
def Frame.put(fr:Frame)(s:Option Nat)(d:D):Frame:=match s with
 |some s=>fr.set s d
 |none=>fr
structure PS where
 fr:Frame
 st:St
structure PI where
 dst:Option Nat
 op:POp
 guard:Option (Nat×Bool):=none
 deriving Inhabited
def DL(G:DB)(fr:Frame):PA→D
 |.s n=>fr n
 |.c d=>d
 |.g n=>match G n with
  |some d=>.eptr d 0
  |none=>.junk
def PI.wanted(fr:Frame)(i:PI):Option Bool:=
 match i.guard with
 |none=>s_ t_
 |some (s,want)=>match fr s with
  |.bool b=>s_ (b == want)
  |.tup []=>s_ f_
  |_=>none
def PI.exec(G:DB)(T:Tbl)(i:PI)(s:PS):Option PS:=
 match i.wanted s.fr with
 |none=>none
 |some f_=>s_ {s with fr:=s.fr.put i.dst (.tup [])}
 |some t_=>match i.op.exec T (DL G s.fr) s.st with
  |some (d,st)=>s_ {fr:=s.fr.put i.dst d,st}
  |none=>none
def Ft(G:DB)(T:Tbl):List PI→PS→Option PS
 |[],s=>s_ s
 |i::l,s=>match i.exec G T s with
  |some s'=>Ft G T l s'
  |none=>none
def PI.foot(G:DB)(i:PI)(s:PS):Option Foot:=match i.wanted s.fr with
 |some t_=>i.op.foot (DL G s.fr) s.st
 |_=>s_ QJ
def HK(G:DB)(T:Tbl):List (PI×Bool×List Nat)→List (Option Foot)→PS→Option PS
 |[],_,s=>s_ s
 |(i,b,cs)::l,fs,s=>if OJ fs (i.foot G s) cs then
   match i.exec G T s with
   |some s'=>HK G T l (fs++[if b then i.foot G s else none]) s'
   |none=>none
  else none
inductive Ex where
 |next
 |exit (id:Nat)
 |ret
 |panic (t:Nat) (d:D)
inductive PC where
 |skip
 |ops (l:List PI)
 /-- in any order: for each instruction,whether what it touches is asked for later,and the earlier ones that it is held against -/
 |any (l:List (PI×Bool×List Nat))
 /-- in any order,two of them making an object each: both orders of these two; what is kept behind,and that it is the same -/
 |any2 (keep:List Nat) (l1 l2:List (PI×Bool×List Nat))
 |seq (a b:PC)
 |cond (c:PA) (a b:PC)
 |block (id:Nat) (c:PC)
 |loop (keep:List Nat) (c:PC)
 /-- a loop at whose head all objects are kept -/
 |loopA (keep:List Nat) (c:PC)
 /-- a range over a function: its parameters' slots,what is assigned and what is done in a round -/
 |range (x:PA) (ps:List Nat) (a b:PC)
 /-- a region in which a call may panic -/
 |opsX (l:List PI)
 /-- a region at whose end there is a panic: with a value that is made an interface's -/
 |pan (l:List PI) (d1 t:Nat) (x:PA)
 /-- either will do -/
 |alt (a b:PC)
 |exit (id:Nat)
 |ret
 |fail
 deriving Inhabited
def H5(n:Nat):D→D
 |.row key tot off len=>if key<n then .row key tot off len else .junk
 |.bsl key off m sz ag=>if key<n then .bsl key off m sz ag else .junk
 |.ptr key off=>if key<n then .ptr key off else .junk
 |.rptr key tot i off=>if key<n then .rptr key tot i off else .junk
 |.mapv key=>if key<n then .mapv key else .junk
 |.agg _ | .tup _ | .clo _ _=>.junk
 |d=>d
def Hh(n:Nat):D→D
 |.clo f l=>.clo f (l.map (H5 n))
 |d=>H5 n d
def H6(n:Nat):D→D
 |.agg l=>.agg (l.map (Hh n))
 |.tup _=>.junk
 |d=>Hh n d
def HC:List (Nat×D)→Frame
 |[],_=>.junk
 |(s,d)::r,t=>if t=s then d else HC r t
def Fc(lo hi:Nat):List Nat→List Nat→List Nat
 |[],acc=>acc
 |k::r,acc=>Fc lo hi r (if lo≤k∧k<hi∧acc.contains k=f_ then acc++[k]else acc)
def QD:List Nat→Nat→Nat→Option Nat
 |[],_,_=>none
 |k::r,b,key=>if key=k then s_ b else QD r (b+1) key
def Fi(n:Nat)(σ:List Nat)(key:Nat):Option Nat:=if key<n then s_ key else QD σ n key
def JS(f:Nat→D):Option Nat→D
 |some k=>f k
 |none=>.junk
def Hf(n:Nat)(σ:List Nat):D→D
 |.row key tot off len=>JS (fun k=>.row k tot off len) (Fi n σ key)
 |.bsl key off m sz ag=>JS (fun k=>.bsl k off m sz ag) (Fi n σ key)
 |.ptr key off=>JS (fun k=>.ptr k off) (Fi n σ key)
 |.rptr key tot i off=>JS (fun k=>.rptr k tot i off) (Fi n σ key)
 |.mapv key=>JS .mapv (Fi n σ key)
 |.agg _ | .tup _ | .clo _ _=>.junk
 |d=>d
def EW(n:Nat)(σ:List Nat):D→D
 |.clo f l=>.clo f (l.map (Hf n σ))
 |d=>Hf n σ d
def EO(n:Nat)(σ:List Nat):D→D
 |.agg l=>.agg (l.map (EW n σ))
 |.tup _=>.junk
 |d=>EW n σ d
def FD(n:Nat)(σ:List Nat)(o:Obj):Obj:={o with els:=if o.row then o.els else o.els.map (EO n σ)}
def picked(n:Nat)(σ:List Nat)(st:St):St:=(st.take n).map (FD n σ)++σ.map fun k=>FD n σ (st.getD k default)
def UO(keep:List Nat)(n:Nat)(s:PS):List Nat:=
 (keep.flatMap fun k=>hk (s.fr k))++(s.st.take n).flatMap fun o=>if o.row then []else o.els.flatMap hk
def restrictAt(keep:List Nat)(n:Nat)(σ:List Nat)(s:PS):PS:=
 {fr:=HC (keep.map fun k=>(k,EO n σ (s.fr k))),st:=picked n σ s.st}
def restrict(keep:List Nat)(n:Nat)(s:PS):PS:=
 restrictAt keep (if n≤s.st.length then n else s.st.length) (Fc (if n≤s.st.length then n else s.st.length) s.st.length (UO keep (if n≤s.st.length then n else s.st.length) s) []) s
def KD(body:PS→Option (Ex×PS))(cut:PS→PS):Nat→PS→Option (Ex×PS)
 |0,_=>none
 |n+1,s=>match body (cut s)with
  |some (.next,s')=>KD body cut n s'
  |some (e,s')=>s_ (e,s')
  |none=>none
def gv(keep:List Nat)(n:Nat)(s1 s2:PS):Option PS:=
 @ite _ (s1.st.length=n+2∧s2.st.length=n+2∧restrictAt keep n [n+1,n] s2=restrictAt keep n [n,n+1] s1) (Classical.propDecidable _) (s_ (restrictAt keep n [n,n+1] s1)) none
def PE(fr:Frame):List Nat→List D→Frame
 |p::ps,d::ds=>PE (fr.put (s_ p) d) ps ds
 |_,_=>fr
def recO(n:Int):Obj:=⟨f_,1000003,[.int .i64 n],f_⟩
def recAt(st:St)(k:Nat):Option Int:=match st[k]? with
 |some o=>if !o.row && o.sz == 1000003 then(match o.els with
  |[.int .i64 n]=>s_ n
  |_=>none)else none
 |none=>none
def ru(st:St)(k:Nat):Option Ex:=match recAt st k with
 |some n=>if n=0 then s_ .next else if n=1 then s_ .ret else none
 |none=>none
def iz(ea eb:PS→Option (Ex×PS))(fr:Frame)(ps:List Nat)(k:Nat)(ds:List D)(st:St):Option (D×St):=
 if ds.length=ps.length then match ea ⟨PE fr ps ds,st⟩with
  |some (.next,s1)=>if recAt s1.st k=s_ 0 then match eb ⟨s1.fr,s1.st.set k (recO 2)⟩with
   |some (.next,s2)=>s_ (.bool t_,s2.st.set k (recO 0))
   |some (.ret,s2)=>s_ (.bool f_,s2.st.set k (recO 1))
   |_=>none
   else none
  |_=>none
 else none
def pH(T:Tbl)(l:Nat)(y:List D→St→Option (D×St)):Tbl:={T with y:=fun l' ds st=>if l'=l then y ds st else none}
def lM(T:Tbl)(d:D)(y:List D→St→Option (D×St))(st:St):Option St:=match d with
 |.clo f caps=>if f<5000000 then match T.r f with
   |some sp=>(sp y caps st).map (·.2)
   |none=>none
  else none
 |_=>none
def keepAll(keep:List Nat)(s:PS):PS:=⟨HC (keep.map fun k=>(k,s.fr k)),s.st⟩
def QV:D→Bool
 |.int _ _=>t_
 |_=>f_
def Mt:D→Bool
 |.agg l=>l.all QV
 |d=>QV d
def POp.callee(ρ:PA→D):POp→Option (Nat×List D)
 |.icall f args=>s_ (f,args.map ρ)
 |.callv x args=>match ρ x with
  |.clo f caps=>if f<5000000 then s_ (f,args.map ρ++caps)else if f<10000000 then s_ (f - 5000000,caps++args.map ρ)else none
  |_=>none
 |_=>none
def POp.execX(T:Tbl)(ρ:PA→D)(st:St)(p:POp):Option (Nat×D×St):=match p.callee ρ with
 |some (f,ds)=>match T.x f with
  |some sp=>sp ds st
  |none=>none
 |none=>none
def PI.execX(G:DB)(T:Tbl)(i:PI)(s:PS):Option (Nat×D×PS):=match i.wanted s.fr with
 |some t_=>(i.op.execX T (DL G s.fr) s.st).map fun r=>(r.1,r.2.1,⟨s.fr,r.2.2⟩)
 |_=>none
def Ko(G:DB)(T:Tbl):List PI→PS→Option (Nat×D×PS)
 |[],_=>none
 |i::l,s=>match i.exec G T s with
  |some s'=>Ko G T l s'
  |none=>i.execX G T s
def PC.exec(G:DB)(T:Tbl)(fuel:Nat):PC→PS→Option (Ex×PS)
 |.skip,s=>s_ (.next,s)
 |.ops l,s=>match Ft G T l s with
  |some s'=>s_ (.next,s')
  |none=>none
 |.any l,s=>match HK G T l [] s with
  |some s'=>s_ (.next,s')
  |none=>none
 |.any2 keep l1 l2,s=>match HK G T l1 [] s,HK G T l2 [] s with
  |some s1,s_ s2=>(gv keep s.st.length s1 s2).map fun s'=>(.next,s')
  |_,_=>none
 |.seq a b,s=>match a.exec G T fuel s with
  |some (.next,s')=>b.exec G T fuel s'
  |some (e,s')=>s_ (e,s')
  |none=>none
 |.cond c a b,s=>match DL G s.fr c with
  |.bool t_=>a.exec G T fuel s
  |.bool f_=>b.exec G T fuel s
  |_=>none
 |.block id c,s=>match c.exec G T fuel s with
  |some (.exit id',s')=>if id'=id then s_ (.next,s')else s_ (.exit id',s')
  |some (e,s')=>s_ (e,s')
  |none=>none
 |.loop keep c,s=>KD (c.exec G T fuel) (restrict keep s.st.length) fuel s
 |.loopA keep c,s=>KD (c.exec G T fuel) (keepAll keep) fuel s
 |.range x ps a b,s=>(lM T (DL G s.fr x) (iz (a.exec G T fuel) (b.exec G T fuel) s.fr ps s.st.length) (s.st++[recO 0])).bind fun st'=>(ru st' s.st.length).map fun e=>(e,⟨s.fr,st'.set s.st.length (recO 2)⟩)
 |.opsX l,s=>match Ft G T l s with
  |some s'=>s_ (.next,s')
  |none=>(Ko G T l s).map fun r=>(.panic r.1 r.2.1,r.2.2)
 |.pan l d1 t x,s=>match Ft G T l s with
  |some s'=>if Mt (DL G s'.fr x)then s_ (.panic t (DL G s'.fr x),⟨s'.fr.set d1 .junk,s'.st⟩)else none
  |none=>none
 |.alt a b,s=>match a.exec G T fuel s with
  |some r=>s_ r
  |none=>b.exec G T fuel s
 |.exit id,s=>s_ (.exit id,s)
 |.ret,s=>s_ (.ret,s)
 |.fail,_=>none
inductive PRes where
 |tmp (t:Nat)
 |cell (t n:Nat) (ag:Bool)
 deriving Inhabited
structure PF where
 code:PC
 res:List PRes
 deriving Inhabited
def PRes.get(s:PS):PRes→Option D
 |.tmp t=>Ej s.st (s.fr t)
 |.cell t n ag=>match FL s.st n ag (s.fr t)with
  |some d=>Ej s.st d
  |none=>none
def Gh(s:PS):List PRes→Option (List D)
 |[]=>s_ []
 |r::l=>match r.get s,Gh s l with
  |some x,s_ y=>s_ (x::y)
  |_,_=>none
def Eo(s:PS):List PRes→Option (List D)
 |[]=>s_ []
 |.tmp t::l=>(Eo s l).map (s.fr t::·)
 |.cell t n ag::l=>match FL s.st n ag (s.fr t),Eo s l with
  |some x,s_ y=>s_ (x::y)
  |_,_=>none
def Dm(ds:List D):Frame:=fun s=>ds.getD s .junk
def Ec:List D→D
 |[d]=>d
 |ds=>.tup ds
def PF.run(G:DB)(T:Tbl)(F:PF)(fuel:Nat)(ds:List D):Option D:=
 match F.code.exec G T fuel {fr:=Dm ds,st:=[]} with
 |some (.next,s)|some (.ret,s)=>(Gh s F.res).map Ec
 |_=>none
def PF.runI(G:DB)(T:Tbl)(F:PF)(fuel:Nat)(ds:List D)(st:St):Option (D×St):=
 match F.code.exec G T fuel {fr:=Dm ds,st} with
 |some (.next,s)|some (.ret,s)=>(Eo s F.res).map fun l=>(Ec l,s.st)
 |_=>none
def PF.runX(G:DB)(T:Tbl)(F:PF)(fuel:Nat)(ds:List D)(st:St):Option (Nat×D×St):=
 match F.code.exec G T fuel {fr:=Dm ds,st} with
 |some (.panic t d,s)=>s_ (t,d,s.st)
 |_=>none
structure PFD where
 pre:List PI
 hf:PA
 ha:List PA
 code:PC
 res:List PRes
 deriving Inhabited
abbrev Jc:=Nat→Option (Nat→D→List D→St→Option St)
def Ps(f:D)(ds:List D):Option (Nat×List D):=match f with
 |.clo f caps=>if f<5000000 then s_ (f,ds++caps)else none
 |_=>none
def PFD.runI(G:DB)(T:Tbl)(H:Jc)(F:PFD)(fuel:Nat)(ds:List D)(st:St):Option (D×St):=
 match Ft G T F.pre {fr:=Dm ds,st} with
 |some s1=>match Ps (DL G s1.fr F.hf) (F.ha.map (DL G s1.fr))with
  |some (f,das)=>match H f with
   |some h=>match F.code.exec G T fuel s1 with
    |some (.next,s)|some (.ret,s)=>(Eo s F.res).map fun l=>(Ec l,s.st)
    |some (.panic t d,s)=>match h t d das s.st with
     |some st3=>(Eo ⟨s.fr,st3⟩ F.res).map fun l=>(Ec l,st3)
     |none=>none
    |_=>none
   |none=>none
  |none=>none
 |none=>none
def Ip(n:Nat):D→D
 |.tup l=>.tup (l.map (H6 n))
 |d=>H6 n d
def cut(k:Nat)(st:St):St:=(st.take k).map fun o=>{o with els:=if o.row then o.els else o.els.map (H6 k)}
def dropped(f:List D→St→Option (D×St))(ds:List D)(st:St):Option (D×St):=
 (f ds st).map fun r=>(Ip st.length r.1,cut st.length r.2)
end Go.Proofs.YtijnglngaogdjaaGreatDoor.PI
namespace Go.Proofs.YtijnglngaogdjaaGreatDoor.PI
open Go Go.RowKit
structure Ghost where
 β:Nat→Nat
 γ:Nat→Nat
 Im:Nat→Nat→Prop
def Gl(els:List D)(i j:Nat):Option D:=match els[i]? with
 |some e=>e.cells[j]?
 |none=>none
def LD(f:Nat):Fn:=if f<5000000 then .func f else if f<10000000 then .func (f - 5000000)else .yield (f - 10000000)
def RO(f:Nat)(vs:List Value):Array Value:=if 5000000≤f∧f<10000000 then vs.toArray else #[]
def RE(f:Nat)(vs:List Value):Array Value:=if 5000000≤f∧f<10000000 then #[]else vs.toArray
variable {f:Nat}
theorem Tt(h:f<5000000):LD f=.func f:=if_pos h
theorem YJ(h:f<5000000)(vs:List Value):RO f vs=#[]:=if_neg (by omega)
theorem fC(h:f<5000000)(vs:List Value):RE f vs=vs.toArray:=if_neg (by omega)
theorem ov(f:Nat):RO f []=#[]:=by unfold RO; split <;> rfl
theorem nM(f:Nat):RE f []=#[]:=by unfold RE; split <;> rfl
theorem Ycx(h:f<5000000):LD (f+5000000)=.func f:=by unfold LD; rw[YYN,if_pos (by omega),CE]
theorem xK(h:f<5000000)(vs:List Value):RO (f+5000000) vs=vs.toArray:=if_pos ⟨by omega,by omega⟩
theorem wx(h:f<5000000)(vs:List Value):RE (f+5000000) vs=#[]:=if_pos ⟨by omega,by omega⟩
variable {o:Obj}
theorem mZ(h:o.isMap=t_):o.row=f_:=by unfold Obj.isMap at h;grind
theorem lj(h:o.isMap=t_):1<o.sz:=by unfold Obj.isMap at h;grind
theorem Q3{o':Obj}(E:o'.row=o.row)(M:o'.sz=o.sz):o'.isMap=o.isMap:=by unfold Obj.isMap; rw[E,M]
theorem ND(h:o.row=t_):o.isMap=f_:=by unfold Obj.isMap; rw[h]; rfl
theorem Qo(h:o.sz=1):o.isMap=f_:=by unfold Obj.isMap; rw[h]; simp
def Se:Value→Bool
 |.agg _=>t_
 |_=>f_
def NT:Go.Obj→Bool
 |.map es _=>match es[0]? with
  |some e=>Se e.val
  |none=>f_
 |_=>f_
theorem jJ(es:Array MapEntry)(c:Nat):NT (.map es c)=(match es[0]? with|some e=>Se e.val|none=>f_):=(rfl)
def qW(ents:Array MapEntry)(es:List (Int×Nat)):Prop:=
 (∀ e∈ents.toList,∃ n f,e.key=.int .i64 n∧e.val=.agg #[.func (.func f) #[] #[]]∧f<5000000∧Gx n es=s_ f)∧∀ n f,Gx n es=s_ f→∃ e∈ents.toList,e.key=.int .i64 n
inductive RepV (w:World) (g:Ghost) (st:St):D→Value→Prop
 |int (k:IntKind) (n:Int):RepV w g st (.int k n) (.int k n)
 |bool (b:Bool):RepV w g st (.bool b) (.bool b)
 |str (s:List UInt8):RepV w g st (.str s) (.string ⟨s.toArray⟩)
 |nilp:RepV w g st .nilp (.pointer none)
 |nilm:RepV w g st .nilm (.map none)
 |gmap (es:List (Int×Nat)) (b:Nat) (ents:Array MapEntry) (clock:Nat):w.heap[b]?=s_ (.map ents clock)→NT (.map ents clock)=t_→qW ents es→RepV w g st (.gmap es) (.map (s_ b))
 |slcE (sz:Nat) (t:Bool) (a:Option Addr) (cap:Nat):(t=t_→cap=0)→RepV w g st (.slc sz [] t) (.slice a 0 cap)
 |slc (els:List D) (t:Bool) (b off cap sz:Nat) (val:Nat→Nat→Value):els≠[]→0<sz→(∀ e∈els,e.cells.length=sz)→(∀ i j d,Gl els i j=s_ d→d.pure1=t_)→els.length≤cap→(t=t_→cap=els.length)→
   (∀ i j d,Gl els i j=s_ d→g.Im b (off+i*sz+j)∧w.cell? ⟨b,off+i*sz+j,none⟩=s_ (val i j))→
   (∀ i j d,Gl els i j=s_ d→RepV w g st d (val i j))→RepV w g st (.slc sz els t) (.slice (s_ ⟨b,off,none⟩) els.length cap)
 |row (key tot off len:Nat) (o:Obj) (v:Value):v.oneCell'=t_→st[key]?=s_ o→o.row=t_→tot≤o.els.length→
   (tot=o.els.length→v=.slice (s_ ⟨g.β key,off*o.sz,none⟩) len (g.γ key - off)∧off+len≤tot)→RepV w g st (.row key tot off len) v
 |bsl (key off n sz:Nat) (ag:Bool) (o:Obj) (cap:Nat):st[key]?=s_ o→o.row=f_→o.sz=1→n≤cap→RepV w g st (.bsl key off n sz ag) (.slice (s_ ⟨g.β key,off,none⟩) n cap)
 |mapv (key:Nat) (o:Obj):st[key]?=s_ o→o.isMap=t_→RepV w g st (.mapv key) (.map (s_ (g.β key)))
 |ptr (key off:Nat) (o:Obj):st[key]?=s_ o→o.row=f_→o.sz=1→RepV w g st (.ptr key off) (.pointer (s_ ⟨g.β key,off,none⟩))
 |rptr (key tot i off:Nat) (o:Obj) (v:Value):v.oneCell'=t_→st[key]?=s_ o→o.row=t_→tot≤o.els.length→
   (tot=o.els.length→v=.pointer (s_ ⟨g.β key,i*o.sz+off,none⟩))→RepV w g st (.rptr key tot i off) v
 |eptr (el:D) (off b o:Nat) (val:Nat→Value):(∀ (j:Nat) (d:D),el.cells[j]?=s_ d→d.pure1=t_)→
   (∀ (j:Nat) (d:D),el.cells[j]?=s_ d→g.Im b (o+j)∧w.cell? ⟨b,o+j,none⟩=s_ (val j))→
   (∀ (j:Nat) (d:D),el.cells[j]?=s_ d→RepV w g st d (val j))→RepV w g st (.eptr el off) (.pointer (s_ ⟨b,o+off,none⟩))
 |agg (ds:List D) (vs:List Value):ds.length=vs.length→(∀ (i:Nat) (d:D) (v:Value),ds[i]?=s_ d→vs[i]?=s_ v→RepV w g st d v)→RepV w g st (.agg ds) (.agg vs.toArray)
 |tup (ds:List D) (vs:List Value):ds.length=vs.length→(∀ (i:Nat) (d:D) (v:Value),ds[i]?=s_ d→vs[i]?=s_ v→RepV w g st d v)→RepV w g st (.tup ds) (.tuple vs.toArray)
 |clo (f:Nat) (ds:List D) (vs:List Value):ds.length=vs.length→(∀ (i:Nat) (d:D) (v:Value),ds[i]?=s_ d→vs[i]?=s_ v→RepV w g st d v)→RepV w g st (.clo f ds) (.func (LD f) (RO f vs) (RE f vs))
 |nilf:RepV w g st .nilf .nilFunc
 |junk (v:Value):RepV w g st .junk v
def Evo(g:Ghost)(st:St)(g':Ghost)(st':St):Prop:=
 ∀ (k:Nat) (o:Obj),st[k]?=s_ o→∃ o',st'[k]?=s_ o'∧o'.row=o.row∧o'.sz=o.sz∧o.els.length≤o'.els.length∧
  (o'.els.length=o.els.length→g'.β k=g.β k∧g'.γ k=g.γ k)∧(o.row=f_→g'.β k=g.β k)
theorem Evo.refl(g:Ghost)(st:St):Evo g st g st:=fun _ o h=>⟨o,h,rfl,rfl,AF _,fun _=>⟨rfl,rfl⟩,fun _=>rfl⟩
variable {st st1 st2:St}{g g1 g2:Ghost}
theorem Evo.trans(h:Evo g st g1 st1)(E:Evo g1 st1 g2 st2):Evo g st g2 st2:=by intro k o M;obtain⟨o1,N,r1,s1,l1,b1,c1⟩:=h k o M;obtain⟨o2,h2,r2,s2,l2,b2,c2⟩:=E k o1 N;grind
structure ImLe (w:World) (g:Ghost) (w':World) (g':Ghost):Prop where
 im:∀ b o,g.Im b o→g'.Im b o∧w'.cell? ⟨b,o,none⟩=w.cell? ⟨b,o,none⟩
 kp:∀ (b:Nat) (o:Go.Obj),w.heap[b]?=s_ o→NT o=t_→w'.heap[b]?=s_ o
theorem ImLe.refl(w:World)(g:Ghost):ImLe w g w g:=⟨fun _ _ h=>⟨h,rfl⟩,fun _ _ h _=>h⟩
variable {w w1 w2:World}
theorem ImLe.trans(h:ImLe w g w1 g1)(E:ImLe w1 g1 w2 g2):ImLe w g w2 g2:=
 ⟨fun b o hb=>⟨(E.im b o (h.im b o hb).1).1,(E.im b o (h.im b o hb).1).2.trans (h.im b o hb).2⟩,fun b o hb M=>E.kp b o (h.kp b o hb M) M⟩
variable {v:Value}{d:D}{st':St}{g':Ghost}{w':World}
theorem RepV.mono(hI:ImLe w g w' g')(hE:Evo g st g' st')(h:RepV w g st d v):RepV w' g' st' d v:=by
 induction h with
 |int k n=>exact .int k n
 |bool b=>exact .bool b
 |str s=>exact .str s
 |nilp=>exact .nilp
 |nilm=>exact .nilm
 |gmap es b a3 clock E M N=>exact .gmap es b a3 clock (hI.kp _ _ E M) M N
 |slcE sz t a cap h=>exact .slcE sz t a cap h
 |slc els t b off cap sz val E M N a6 h4 h5 h6 _ ih=>
  exact .slc els t b off cap sz val E M N a6 h4 h5 (fun i j d hd=>⟨(hI.im _ _ (h6 i j d hd).1).1,(hI.im _ _ (h6 i j d hd).1).2.trans (h6 i j d hd).2⟩) ih
 |row key tot off len o v h0 E M N h4=>
  obtain⟨o',e1,e2,e3,e4,e5,_⟩:=hE key o E;refine .row key tot off len o' v h0 e1 (e2.trans M) (AZ N e4) fun e=>?_;grind
 |bsl key off n sz ag o cap E M N h4=>
  obtain⟨o',e1,e2,e3,_,_,e6⟩:=hE key o E;rw[← e6 M];exact .bsl key off n sz ag o' cap e1 (e2.trans M) (e3.trans N) h4
 |mapv key o E M=>
  obtain⟨o',e1,e2,e3,_,_,e6⟩:=hE key o E;rw[← e6 (mZ M)];exact .mapv key o' e1 (by rw[Q3 e2 e3]; exact M)
 |ptr key off o E M N=>
  obtain⟨o',e1,e2,e3,_,_,e6⟩:=hE key o E;rw[← e6 M];exact .ptr key off o' e1 (e2.trans M) (e3.trans N)
 |rptr key tot i off o v h0 E M N h4=>
  obtain⟨o',e1,e2,e3,e4,e5,_⟩:=hE key o E;refine .rptr key tot i off o' v h0 e1 (e2.trans M) (AZ N e4) fun e=>?_;grind
 |eptr el off b o val h0 E _ ih=>exact .eptr el off b o val h0 (fun j d hd=>⟨(hI.im _ _ (E j d hd).1).1,(hI.im _ _ (E j d hd).1).2.trans (E j d hd).2⟩) ih
 |agg ds vs h _ ih=>exact .agg ds vs h ih
 |tup ds vs h _ ih=>exact .tup ds vs h ih
 |clo f ds vs h _ ih=>exact .clo f ds vs h ih
 |nilf=>exact .nilf
 |junk v=>exact .junk v
def fV(base:Nat)(w:World)(b:Nat)(o:Obj):Prop:=
 ∃ (r:Loop) (n:Int),w.heap[b]?=s_ (.loop r)∧base≤b∧o.els=[.int .i64 n]∧(n=0→r.state=.ready∧r.pending=none)∧(n=1→r.state=.done∧r.pending=s_ .ret)
def MapAt0(base:Nat)(w:World)(g:Ghost)(st:St)(b:Nat)(o:Obj):Prop:=
 ∃ es clock,w.heap[b]?=s_ (.map es clock)∧base≤b∧es.size=o.els.length∧(∀ x∈o.els,∃ l,x=.agg l∧l.length=o.sz)∧
  (∀ (i:Nat) (e:MapEntry) (el:D),es[i]?=s_ e→o.els[i]?=s_ el→RepV w g st (Gs o.sz el) e.key∧RepV w g st (H8 o.sz el) e.val)∧NT (.map es clock)=f_
variable {b b' base:Nat}
theorem MapAt0.mono(h:MapAt0 base w g st b o)(M:ImLe w g w' g')(N:Evo g st g' st')(hb:b'=b)(hw:w'.heap[b]?=w.heap[b]?):MapAt0 base w' g' st' b' o:=by obtain⟨es,clock,h1,h2,h3,h4,h5,h6⟩:=h;subst hb;exact⟨es,clock,hw.trans h1,h2,h3,h4,fun i e el he E=>⟨(h5 i e el he E).1.mono M N,(h5 i e el he E).2.mono M N⟩,h6⟩
def MapAt(base:Nat)(w:World)(g:Ghost)(st:St)(b:Nat)(o:Obj):Prop:=if o.sz=1000003 then fV base w b o else MapAt0 base w g st b o
theorem MapAt.mono(h:MapAt base w g st b o)(N:ImLe w g w' g')(hE:Evo g st g' st')(hb:b'=b)(M:w'.heap[b]?=w.heap[b]?):MapAt base w' g' st' b' o:=by
 unfold MapAt at h ⊢
 split at h
 ·rename_i E;rw[if_pos E];obtain⟨r,n,h1,h2⟩:=h;subst hb;exact⟨r,n,M.trans h1,h2⟩
 ·rename_i E;rw[if_neg E];exact MapAt0.mono h N hE hb M
theorem MapAt.old(h:MapAt base w g st b o)(E:o.sz≠1000003):MapAt0 base w g st b o:=by unfold MapAt at h; rwa [if_neg E]at h
theorem MapAt.rec'(h:MapAt base w g st b o)(E:o.sz=1000003):fV base w b o:=by unfold MapAt at h; rwa [if_pos E]at h
theorem MapAt.at(h:MapAt base w g st b o):∃ x,w.heap[b]?=s_ x∧base≤b∧NT x=f_∧(∀ C e z,x≠.cells C e z)∧(∀ ds,x≠.deferred ds)∧∀ i,w.cell? ⟨b,i,none⟩=none:=by
 by_cases N:o.sz=1000003
 ·obtain⟨r,n,E,M,_⟩:=h.rec' N;exact⟨_,E,M,rfl,fun _ _ _ h=>(by cases h),fun _ h=>(by cases h),fun i=>by simp only[World.cell?,E]⟩
 ·obtain⟨es,c,E,M,_,_,_,h6⟩:=h.old N;exact⟨_,E,M,h6,fun _ _ _ h=>(by cases h),fun _ h=>(by cases h),fun i=>by simp only[World.cell?,E]⟩
structure SR (base:Nat) (w:World) (g:Ghost) (st:St):Prop where
 mp:∀ (k:Nat) (o:Obj),st[k]?=s_ o→o.isMap=t_→MapAt base w g st (g.β k) o
 blk:∀ (k:Nat) (o:Obj),st[k]?=s_ o→o.isMap=f_→∃ C e,w.heap[g.β k]?=s_ (.cells C e (0,0))∧base≤g.β k∧0<o.sz∧(∀ x∈o.els,x.cells.length=o.sz)∧
  (if o.row then C.size=g.γ k*o.sz∧o.els.length≤g.γ k∧g.γ k≤maxLen else C.size=o.els.length∧o.sz=1∧∀ x∈o.els,x.cells=[x])∧
  (∀ i j d,Gl o.els i j=s_ d→(o.row=t_→d.pure1=t_)∧∃ v,C[i*o.sz+j]?=s_ v∧RepV w g st d v)
 inj:∀ (k k':Nat) (o o':Obj),st[k]?=s_ o→st[k']?=s_ o'→g.β k=g.β k'→k=k'
 im:∀ b o,g.Im b o→(w.cell? ⟨b,o,none⟩).isSome=t_
 dis:∀ (k:Nat) (o:Obj) (x:Nat),st[k]?=s_ o→g.Im (g.β k) x→o.lent=t_∧x<o.els.length*o.sz
 size:base≤w.heap.size
def special:Go.Obj→Bool
 |.loop _ | .deferred _=>t_
 |_=>f_
def sameSp:Go.Obj→Go.Obj→Prop
 |.loop r,x=>∃ s p,x=.loop {r with state:=s,pending:=p}
 |y,x=>x=y
theorem sameSp.refl(o:Go.Obj):sameSp o o:=by cases o <;> first|rfl|exact⟨_,_,rfl⟩
theorem sameSp.trans{a b c:Go.Obj}(h:sameSp a b)(E:sameSp b c):sameSp a c:=by
 cases a with
 |loop r=>
  obtain⟨s,p,rfl⟩:=h;obtain⟨s',p',rfl⟩:=E;exact⟨s',p',rfl⟩
 |_=>cases h; exact E
theorem sameSp.special{a b:Go.Obj}(h:sameSp a b)(E:special a=t_):special b=t_:=by
 cases a with
 |loop r=>obtain⟨s,p,rfl⟩:=h; rfl
 |_=>cases h; exact E
def Kept(w':World)(b:Nat)(o:Go.Obj):Prop:=∃ o',w'.heap[b]?=s_ o'∧sameSp o o'
theorem Kept.same{o:Go.Obj}(h:w'.heap[b]?=s_ o):Kept w' b o:=⟨o,h,sameSp.refl o⟩
theorem Kept.def'{ds:Option (List Deferred)}(h:Kept w' b (.deferred ds)):w'.heap[b]?=s_ (.deferred ds):=by obtain⟨o',E,M⟩:=h;cases M; exact E
theorem Kept.loop{r:Loop}(h:Kept w' b (.loop r)):∃ s p,w'.heap[b]?=s_ (.loop {r with state:=s,pending:=p}):=by obtain⟨o',E,s,p,rfl⟩:=h;grind
structure Go1 (base:Nat) (w:World) (g:Ghost) (st:St) (w':World) (g':Ghost) (st':St):Prop where
 sr:SR base w' g' st'
 evo:Evo g st g' st'
 im:ImLe w g w' g'
 new:∀ b o,g'.Im b o→g.Im b o∨base≤b
 below:Below base w w'
 kp:∀ (b:Nat) (o:Go.Obj),w.heap[b]?=s_ o→special o=t_→Kept w' b o
theorem Go1.refl(h:SR base w g st):Go1 base w g st w g st:=
 ⟨h,Evo.refl _ _,ImLe.refl _ _,fun _ _ h=>.inl h,Below.refl _ _,fun _ _ h _=>.same h⟩
theorem Go1.trans(h:Go1 base w g st w1 g1 st1)(E:Go1 base w1 g1 st1 w2 g2 st2):Go1 base w g st w2 g2 st2:=
 ⟨E.sr,h.evo.trans E.evo,h.im.trans E.im,fun b o hb=>by
  rcases E.new b o hb with x|x
  ·exact h.new b o x
  ·exact .inr x,h.below.trans E.below,fun b o hb M=>(let⟨_,h1,N⟩:=h.kp b o hb M; let⟨o2,h3,h4⟩:=E.kp b _ h1 (N.special M); ⟨o2,h3,N.trans h4⟩)⟩
theorem Go1.rep(h:Go1 base w g st w' g' st')(E:RepV w g st d v):RepV w' g' st' d v:=E.mono h.im h.evo
theorem RepV.oneCell(h:RepV w g st d v)(E:d.isCell=t_):v.oneCell'=t_:=by
 cases h <;> first
  |rfl
  |assumption
  |(simp[D.isCell]at E; done)
theorem Rq(h:d.pure1=t_):d.isCell=t_:=by cases d <;> simp_all [D.pure1,D.isCell]
theorem cell?_add(w:World)(b o n:Nat):w.cell? ((⟨b,o,none⟩:Addr).add n)=w.cell? ⟨b,o+n,none⟩:=by unfold Addr.add;grind
theorem LN(b o n:Nat):((⟨b,o,none⟩:Addr).add n)=⟨b,o+n,none⟩:=by unfold Addr.add;grind
end Go.Proofs.YtijnglngaogdjaaGreatDoor.PI
namespace Go.Proofs.YtijnglngaogdjaaGreatDoor.PI
open Go Go.RowKit
def Gc(f:Nat→Nat)(k v:Nat):Nat→Nat:=fun i=>if i=k then v else f i
theorem IE(f:Nat→Nat)(k v:Nat):Gc f k v k=v:=by simp[Gc]
theorem Hm(f:Nat→Nat)(k v i:Nat)(h:i≠k):Gc f k v i=f i:=by simp[Gc,h]
variable {o:Obj}{base k:Nat}{st:St}{g:Ghost}{w:World}
theorem SR.lt(h:SR base w g st)(hk:st[k]?=s_ o):g.β k<w.heap.size:=by
 cases hm:o.isMap with
 |false=>
  obtain⟨C,e,hb,_⟩:=h.blk k o hk hm;grind
 |true=>
  obtain⟨x,hb,_⟩:=(h.mp k o hk hm).at;grind
theorem SR.based(h:SR base w g st)(hk:st[k]?=s_ o):base≤g.β k:=by
 cases hm:o.isMap with
 |false=>
  obtain⟨C,e,hb,E,_⟩:=h.blk k o hk hm;exact E
 |true=>
  obtain⟨x,hb,E,_⟩:=(h.mp k o hk hm).at;exact E
theorem SR.im_lt(h:SR base w g st){b o:Nat}(hi:g.Im b o):b<w.heap.size:=by
 have:=h.im b o hi
 cases hc:w.cell? ⟨b,o,none⟩with
 |none=>simp[hc]at this
 |some v=>exact World.block_lt_of_cell? w _ hc
theorem iQ{a b:List D}{i j:Nat}(h:i<a.length):Gl (a++b) i j=Gl a i j:=by simp[Gl,Av h]
structure Beside (w w':World):Prop where
 os:w'.os=w.os
 tape:w'.tape=w.tape
 output:w'.output=w.output
 size:w.heap.size≤w'.heap.size
variable {e:TypeId}{C:Array Value}{B:Nat}{o':Obj}{w':World}
theorem SR.update(h:SR base w g st){c:Nat}{C':Array Value}{e':TypeId}
  (hk:st[k]?=s_ o) (hm:o.isMap=f_) (a5:w.heap[g.β k]?=s_ (.cells C e (0,0)))
  (M:(B=g.β k∧c=g.γ k)∨(w.heap.size≤B∧o.els.length<o'.els.length∧o.row=t_))
  (ad:o'.row=o.row) (ac:o'.sz=o.sz) (bg:o.els.length≤o'.els.length) (bd:o'.lent=o.lent)
  (hx:∀ x∈o'.els,x.cells.length=o.sz)
  (ab:Beside w w') (ae:∀ b,b<w.heap.size→b≠B→w'.heap[b]?=w.heap[b]?)
  (a6:w'.heap[B]?=s_ (.cells C' e' (0,0)))
  (c2:B=g.β k→∀ x,g.Im (g.β k) x→C'[x]?=C[x]?)
  (hC:if o.row then C'.size=c*o.sz∧o'.els.length≤c∧c≤maxLen else C'.size=o'.els.length∧o.sz=1∧∀ x∈o'.els,x.cells=[x])
  (bh:∀ i j d,Gl o'.els i j=s_ d→(o.row=t_→d.pure1=t_)∧∃ v,C'[i*o.sz+j]?=s_ v∧RepV w g st d v) :
  Go1 base w g st w' {g with β:=Gc g.β k B,γ:=Gc g.γ k c} (st.set k o'):=by
 have af:k<st.length:=(Ab.1 hk).1;obtain⟨C1,e1,c3,b6,cg,c4,c5,cd⟩:=h.blk k o hk hm
 have b7:base≤B:=by
  grind
 have aa:ImLe w g w' {g with β:=Gc g.β k B,γ:=Gc g.γ k c}:=by
  refine⟨?_,fun b x hb hs=>?_⟩
  case refine_2=>
   have a9:b<w.heap.size:=(AH.1 hb).1
   have a0:b≠B:=by
    intro e;rcases M with⟨rfl,_⟩|⟨M,_⟩
    ·rw[e,a5]at hb;obtain rfl:=AE hb;simp[NT]at hs
    ·omega
   grind
  intro b x hb;refine⟨hb,?_⟩;have a9:=h.im_lt hb
  by_cases E:b=B
  ·subst E;rcases M with⟨e2,_⟩|⟨M,_⟩
   ·subst e2;simp only[World.cell?,a6,a5];grind
   ·omega
  ·simp only[World.cell?,ae b a9 E]
 have ah:Evo g st {g with β:=Gc g.β k B,γ:=Gc g.γ k c} (st.set k o'):=by
  intro N o1 DR
  by_cases E:N=k
  ·subst E;obtain rfl:o1=o:=AE (DR.symm.trans hk);refine⟨o',by simp[af],ad,ac,bg,fun hl=>?_,fun hr=>?_⟩
   ·rcases M with⟨rfl,rfl⟩|⟨_,c6,_⟩
    ·simp[IE]
    ·omega
   ·rcases M with⟨rfl,rfl⟩|⟨_,_,c7⟩
    ·simp[IE]
    ·grind
  ·refine⟨o1,by rw[AO (by omega)]; exact DR,rfl,rfl,AF _,fun _=>?_,fun _=>?_⟩
   ·simp[Hm _ _ _ _ E]
   ·simp[Hm _ _ _ _ E]
 have b8:∀ (b:Nat) (o:Go.Obj),w.heap[b]?=s_ o→special o=t_→w'.heap[b]?=s_ o:=by
  intro b x hb hs;have a9:b<w.heap.size:=(AH.1 hb).1
  have a0:b≠B:=by
   intro e;rcases M with⟨rfl,_⟩|⟨M,_⟩
   ·rw[e,a5]at hb;obtain rfl:=AE hb;simp[special]at hs
   ·omega
  grind
 refine⟨⟨?_,?_,?_,?_,?_,AZ h.size ab.size⟩,ah,aa,fun b x hb=>.inl hb,?_,fun b x hb hs=>.same (b8 b x hb hs)⟩
 ·intro N o1 DR a2
  by_cases E:N=k
  ·subst E;obtain rfl:o1=o':=by rw[BC af]at DR; exact(AE DR).symm
   rw[Q3 ad ac,hm]at a2; cases a2
  ·rw[AO (by omega)]at DR
   have a0:g.β N≠B:=by
    rcases M with⟨rfl,_⟩|⟨M,_⟩
    ·exact fun e3=>E (h.inj _ _ _ _ DR hk e3)
    ·have:=h.lt DR; omega
   exact(h.mp N o1 DR a2).mono aa ah (Hm _ _ _ _ E) (ae _ (h.lt DR) a0)
 ·intro N o1 DR a2
  by_cases E:N=k
  ·subst E;obtain rfl:o1=o':=by rw[BC af]at DR; exact(AE DR).symm
   refine⟨C',e',by simpa[IE]using a6,by simpa[IE]using b7,by omega,fun x b9=>(hx x b9).trans ac.symm,?_,?_⟩
   ·rw[ad,ac];simpa[IE]using hC
   ·intro i j d hd;obtain⟨ba,v,h2,h3⟩:=bh i j d hd;exact⟨fun e=>ba (ad.symm.trans e),v,by rw[ac]; exact h2,h3.mono aa ah⟩
  ·rw[AO (by omega)]at DR;obtain⟨C2,e2,ca,bc,be,cb,cc,bf⟩:=h.blk N o1 DR a2
   have a0:g.β N≠B:=by
    rcases M with⟨rfl,_⟩|⟨M,_⟩
    ·exact fun e3=>E (h.inj _ _ _ _ DR hk e3)
    ·grind
   refine⟨C2,e2,?_,?_,be,cb,?_,?_⟩
   ·show w'.heap[Gc g.β k B N]?=_
    rw[Hm _ _ _ _ E,ae _ (h.lt DR) a0]; exact ca
   ·show base≤Gc g.β k B N
    rw[Hm _ _ _ _ E]; exact bc
   ·simpa[Hm _ _ _ _ E]using cc
   ·intro i j d hd;obtain⟨ba,v,h2,h3⟩:=bf i j d hd;exact⟨ba,v,h2,h3.mono aa ah⟩
 ·intro N k2 o1 o2 DR a3 he;simp only at he
  by_cases e1:N=k <;> by_cases e2:k2=k
  ·omega
  ·exfalso;subst e1;rw[IE,Hm _ _ _ _ e2]at he;rw[AO (by omega)]at a3;rcases M with⟨rfl,_⟩|⟨M,_⟩
   ·exact e2 (h.inj _ _ _ _ hk a3 he).symm
   ·have:=h.lt a3; omega
  ·exfalso;subst e2;rw[IE,Hm _ _ _ _ e1]at he;rw[AO (by omega)]at DR;rcases M with⟨rfl,_⟩|⟨M,_⟩
   ·exact e1 (h.inj _ _ _ _ DR hk he)
   ·have:=h.lt DR; omega
  ·rw[Hm _ _ _ _ e1,Hm _ _ _ _ e2]at he;rw[AO (by omega)]at DR a3;exact h.inj _ _ _ _ DR a3 he
 ·intro b x hb;rw[(aa.im b x hb).2];exact h.im b x hb
 ·intro N o1 x DR hi;simp only at hi
  by_cases E:N=k
  ·subst E;obtain rfl:o1=o':=by rw[BC af]at DR; exact(AE DR).symm
   rw[IE]at hi;rcases M with⟨rfl,_⟩|⟨M,_⟩
   ·obtain⟨h1,h2⟩:=h.dis _ _ _ hk hi;refine⟨by rw[bd]; exact h1,A3 h2 ?_⟩;rw[ac];exact AT _ bg
   ·have:=h.im_lt hi; omega
  ·rw[AO (by omega)]at DR;rw[Hm _ _ _ _ E]at hi;exact h.dis _ _ _ DR hi
 ·refine⟨ab.os,ab.tape,ab.output,ab.size,fun b hb=>?_⟩;grind
theorem SR.push(h:SR base w g st){c:Nat}
  (ac:Beside w w') (N:∀ b,b<w.heap.size→w'.heap[b]?=w.heap[b]?)
  (a5:w'.heap[w.heap.size]?=s_ (.cells C e (0,0)))
  (hm:o.isMap=f_) (a6:0<o.sz) (hx:∀ x∈o.els,x.cells.length=o.sz)
  (hC:if o.row then C.size=c*o.sz∧o.els.length≤c∧c≤maxLen else C.size=o.els.length∧o.sz=1∧∀ x∈o.els,x.cells=[x])
  (a7:∀ i j d,Gl o.els i j=s_ d→(o.row=t_→d.pure1=t_)∧∃ v,C[i*o.sz+j]?=s_ v∧RepV w g st d v) :
  Go1 base w g st w' {g with β:=Gc g.β st.length w.heap.size,γ:=Gc g.γ st.length c} (st++[o]):=by
 have aa:ImLe w g w' {g with β:=Gc g.β st.length w.heap.size,γ:=Gc g.γ st.length c}:=by
  refine⟨?_,fun b o hb _=>by rw[N b (AH.1 hb).1]; exact hb⟩;intro b x hb;refine⟨hb,?_⟩;have af:=h.im_lt hb;simp only[World.cell?,N b af]
 have af:∀ (E:Nat) (o1:Obj),st[E]?=s_ o1→E<st.length:=fun E o1 h1=>(Ab.1 h1).1
 have ae:Evo g st {g with β:=Gc g.β st.length w.heap.size,γ:=Gc g.γ st.length c} (st++[o]):=by
  intro E o1 DR;have:=af _ _ DR;refine⟨o1,by rw[Av this]; exact DR,rfl,rfl,AF _,fun _=>?_,fun _=>?_⟩
  ·simp[Hm _ _ _ _ (show E≠st.length by omega)]
  ·simp[Hm _ _ _ _ (show E≠st.length by omega)]
 have M:∀ (E:Nat) (o1:Obj),(st++[o])[E]?=s_ o1→(E<st.length∧st[E]?=s_ o1)∨(E=st.length∧o1=o):=by
  grind
 refine⟨⟨?_,?_,?_,?_,?_,AZ h.size ac.size⟩,ae,aa,fun b x hb=>.inl hb,?_,fun b o hb _=>.same (by rw[N b (AH.1 hb).1]; exact hb)⟩
 ·intro E o1 DR a0;rcases M E o1 DR with⟨h1,h2⟩|⟨rfl,rfl⟩
  ·exact(h.mp E o1 h2 a0).mono aa ae (Hm _ _ _ _ (by omega)) (N _ (h.lt h2))
  ·grind
 ·intro E o1 DR a0;rcases M E o1 DR with⟨h1,h2⟩|⟨rfl,rfl⟩
  ·obtain⟨C2,e2,bb,a1,a2,bc,bd,a3⟩:=h.blk E o1 h2 a0;have e0:E≠st.length:=by omega
   refine⟨C2,e2,?_,?_,a2,bc,?_,?_⟩
   ·show w'.heap[Gc g.β st.length w.heap.size E]?=_
    rw[Hm _ _ _ _ e0,N _ (h.lt h2)]; exact bb
   ·show base≤Gc g.β st.length w.heap.size E
    rw[Hm _ _ _ _ e0]; exact a1
   ·simpa[Hm _ _ _ _ e0]using bd
   ·intro i j d hd;obtain⟨ab,v,h2,h3⟩:=a3 i j d hd;exact⟨ab,v,h2,h3.mono aa ae⟩
  ·refine⟨C,e,by simpa[IE]using a5,by simpa[IE]using h.size,a6,hx,by simpa[IE]using hC,?_⟩;intro i j d hd;obtain⟨ab,v,h2,h3⟩:=a7 i j d hd;exact⟨ab,v,h2,h3.mono aa ae⟩
 ·intro E k2 o1 o2 DR be he;simp only at he;rcases M E o1 DR with⟨h1,ab⟩|⟨rfl,_⟩ <;> rcases M k2 o2 be with⟨h2,a4⟩|⟨rfl,_⟩
  ·rw[Hm _ _ _ _ (by omega),Hm _ _ _ _ (by omega)]at he;exact h.inj _ _ _ _ ab a4 he
  ·rw[Hm _ _ _ _ (by omega),IE]at he;have:=h.lt ab; omega
  ·rw[IE,Hm _ _ _ _ (by omega)]at he;have:=h.lt a4; omega
  ·rfl
 ·intro b x hb;rw[(aa.im b x hb).2];exact h.im b x hb
 ·intro E o1 x DR hi;simp only at hi;rcases M E o1 DR with⟨h1,ab⟩|⟨rfl,rfl⟩
  ·rw[Hm _ _ _ _ (by omega)]at hi;exact h.dis _ _ _ ab hi
  ·rw[IE]at hi;have:=h.im_lt hi; omega
 ·exact⟨ac.os,ac.tape,ac.output,ac.size,fun b hb=>N b (A3 hb h.size)⟩
theorem SR.updM(h:SR base w g st)
  (hk:st[k]?=s_ o) (hm:o.isMap=t_) (a1:o'.row=o.row) (a6:o'.sz=o.sz) (b6:o.els.length≤o'.els.length)
  (N:Beside w w') (E:∀ b,b≠g.β k→w'.heap[b]?=w.heap[b]?) 
  (b7:∀ st',ImLe w g w' g→Evo g st g st'→MapAt base w' g st' (g.β k) o') (bd:∀ x,w.heap[g.β k]?=s_ x→special x=t_→Kept w' (g.β k) x) :
  Go1 base w g st w' g (st.set k o'):=by
 have a2:k<st.length:=(Ab.1 hk).1;obtain⟨x0,b8,a7,be,_,_,b9⟩:=(h.mp k o hk hm).at
 have bf:∀ x,¬ g.Im (g.β k) x:=fun x hi=>by
  have:=h.im _ _ hi;grind
 have M:ImLe w g w' g:=by
  refine⟨?_,fun b x hb hs=>?_⟩
  case refine_2=>
   grind
  intro b x hb;refine⟨hb,?_⟩
  by_cases e0:b=g.β k
  ·grind
  ·simp only[World.cell?,E b e0]
 have ad:Evo g st g (st.set k o'):=by
  intro k1 o1 DR;grind
 refine⟨⟨?_,?_,?_,?_,?_,AZ h.size N.size⟩,ad,M,fun b x hb=>.inl hb,?_,?_⟩
 ·intro k1 o1 DR ab
  by_cases e0:k1=k
  ·grind
  ·rw[AO (by omega)]at DR;exact(h.mp k1 o1 DR ab).mono M ad rfl (E _ (fun e3=>e0 (h.inj _ _ _ _ DR hk e3)))
 ·intro k1 o1 DR ab
  by_cases e0:k1=k
  ·subst e0;obtain rfl:o1=o':=by rw[BC a2]at DR; exact(AE DR).symm
   rw[Q3 a1 a6,hm]at ab; cases ab
  ·rw[AO (by omega)]at DR;obtain⟨C2,e2,a8,af,ah,a9,ba,a0⟩:=h.blk k1 o1 DR ab;refine⟨C2,e2,(E _ (fun e3=>e0 (h.inj _ _ _ _ DR hk e3))).trans a8,af,ah,a9,ba,?_⟩;intro i j d hd;obtain⟨bb,v,h2,h3⟩:=a0 i j d hd;exact⟨bb,v,h2,h3.mono M ad⟩
 ·intro k1 k2 o1 o2 DR ae he
  by_cases e1:k1=k <;> by_cases e2:k2=k
  ·omega
  ·subst e1;rw[AO (by omega)]at ae;exact h.inj _ _ _ _ hk ae he
  ·subst e2;rw[AO (by omega)]at DR;exact h.inj _ _ _ _ DR hk he
  ·rw[AO (by omega)]at DR ae;exact h.inj _ _ _ _ DR ae he
 ·intro b x hb;rw[(M.im b x hb).2];exact h.im b x hb
 ·intro k1 o1 x DR hi
  by_cases e0:k1=k
  ·grind
  ·rw[AO (by omega)]at DR;exact h.dis _ _ _ DR hi
 ·exact⟨N.os,N.tape,N.output,N.size,fun b hb=>E b (by omega)⟩
 ·intro b x hb hs
  by_cases bc:b=g.β k
  ·grind
  ·exact .same (by rw[E b bc]; exact hb)
theorem SR.updMap(h:SR base w g st){es':Array MapEntry}{clock':Nat}
  (hk:st[k]?=s_ o) (hm:o.isMap=t_) (ab:o.sz≠1000003) (ad:o'.row=o.row) (E:o'.sz=o.sz) (a1:o.els.length≤o'.els.length) (_:o'.lent=o.lent)
  (ae:Beside w w') (aa:∀ b,b≠g.β k→w'.heap[b]?=w.heap[b]?) (af:w'.heap[g.β k]?=s_ (.map es' clock'))
  (ah:es'.size=o'.els.length) (hx:∀ x∈o'.els,∃ l,x=.agg l∧l.length=o.sz)
  (M:∀ (i:Nat) (e:MapEntry) (el:D),es'[i]?=s_ e→o'.els[i]?=s_ el→RepV w g st (Gs o.sz el) e.key∧RepV w g st (H8 o.sz el) e.val) (a2:NT (.map es' clock')=f_) :
  Go1 base w g st w' g (st.set k o'):=by
 obtain⟨es,clock,a3,N,_⟩:=(h.mp k o hk hm).old ab;refine h.updM hk hm ad E a1 ae aa (fun st' hI hE=>?_) (fun x hb hs=>?_)
 ·unfold MapAt;rw[if_neg (by rw[E]; exact ab)];refine⟨es',clock',af,N,ah,by rw[E]; exact hx,?_,a2⟩;rw[E];exact fun i e el he ac=>⟨(M i e el he ac).1.mono hI hE,(M i e el he ac).2.mono hI hE⟩
 ·rw[a3]at hb;obtain rfl:=AE hb;simp[special]at hs
variable {r:Loop}
theorem SR.updRec(h:SR base w g st){n:Int}{s:_}{p:Option Code}
  (hk:st[k]?=s_ o) (E:o.row=f_) (M:o.sz=1000003)
  (ac:Beside w w') (ab:∀ b,b≠g.β k→w'.heap[b]?=w.heap[b]?) (hr:w.heap[g.β k]?=s_ (.loop r)) (N:w'.heap[g.β k]?=s_ (.loop {r with state:=s,pending:=p}))
  (h0:n=0→s=.ready∧p=none) (h1:n=1→s=.done∧p=s_ .ret) :
  Go1 base w g st w' g (st.set k (recO n)):=by
 have hm:o.isMap=t_:=by simp[Obj.isMap,E,M]
 obtain⟨r0,n0,a0,aa,ad,_⟩:=(h.mp k o hk hm).rec' M;refine h.updM hk hm (by rw[E]; rfl) (by rw[M]; rfl) (by rw[ad]; exact AF _) ac ab (fun st' hI hE=>?_) (fun x hb hs=>?_)
 ·unfold MapAt;rw[if_pos (show(recO n).sz=1000003 from rfl)];exact⟨_,n,N,aa,rfl,h0,h1⟩
 ·rw[hr]at hb;obtain rfl:=AE hb;exact⟨_,N,_,_,rfl⟩
theorem SR.pushM(h:SR base w g st)(hB:w.heap.size≤B)
  (ab:Beside w w') (N:∀ b,b<w.heap.size→w'.heap[b]?=w.heap[b]?) (hm:o.isMap=t_)
  (a5:∀ g' st',MapAt base w' g' st' B o) :
  Go1 base w g st w' {g with β:=Gc g.β st.length B} (st++[o]):=by
 have aa:ImLe w g w' {g with β:=Gc g.β st.length B}:=by
  refine⟨?_,fun b o hb _=>by rw[N b (AH.1 hb).1]; exact hb⟩;intro b x hb;refine⟨hb,?_⟩;have af:=h.im_lt hb;simp only[World.cell?,N b af]
 have af:∀ (E:Nat) (o1:Obj),st[E]?=s_ o1→E<st.length:=fun E o1 h1=>(Ab.1 h1).1
 have ae:Evo g st {g with β:=Gc g.β st.length B} (st++[o]):=by
  intro E o1 DR;have:=af _ _ DR;refine⟨o1,by rw[Av this]; exact DR,rfl,rfl,AF _,fun _=>?_,fun _=>?_⟩
  ·simp[Hm _ _ _ _ (show E≠st.length by omega)]
  ·simp[Hm _ _ _ _ (show E≠st.length by omega)]
 have M:∀ (E:Nat) (o1:Obj),(st++[o])[E]?=s_ o1→(E<st.length∧st[E]?=s_ o1)∨(E=st.length∧o1=o):=by
  grind
 refine⟨⟨?_,?_,?_,?_,?_,AZ h.size ab.size⟩,ae,aa,fun b x hb=>.inl hb,?_,fun b o hb _=>.same (by rw[N b (AH.1 hb).1]; exact hb)⟩
 ·intro E o1 DR a0;rcases M E o1 DR with⟨h1,h2⟩|⟨rfl,rfl⟩
  ·exact(h.mp E o1 h2 a0).mono aa ae (Hm _ _ _ _ (by omega)) (N _ (h.lt h2))
  ·show MapAt base w' _ _ (Gc g.β st.length B st.length) _
   rw[IE]; exact a5 _ _
 ·intro E o1 DR a0;rcases M E o1 DR with⟨h1,h2⟩|⟨rfl,rfl⟩
  ·obtain⟨C2,e2,a6,a1,a2,a7,a8,a3⟩:=h.blk E o1 h2 a0;have e0:E≠st.length:=by omega
   refine⟨C2,e2,?_,?_,a2,a7,a8,?_⟩
   ·show w'.heap[Gc g.β st.length B E]?=_
    rw[Hm _ _ _ _ e0,N _ (h.lt h2)]; exact a6
   ·show base≤Gc g.β st.length B E
    rw[Hm _ _ _ _ e0]; exact a1
   ·intro i j d hd;obtain⟨ac,v,h2,h3⟩:=a3 i j d hd;exact⟨ac,v,h2,h3.mono aa ae⟩
  ·grind
 ·intro E k2 o1 o2 DR ba he;simp only at he;rcases M E o1 DR with⟨h1,ac⟩|⟨rfl,_⟩ <;> rcases M k2 o2 ba with⟨h2,a4⟩|⟨rfl,_⟩
  ·rw[Hm _ _ _ _ (by omega),Hm _ _ _ _ (by omega)]at he;exact h.inj _ _ _ _ ac a4 he
  ·rw[Hm _ _ _ _ (by omega),IE]at he;have:=h.lt ac; omega
  ·rw[IE,Hm _ _ _ _ (by omega)]at he;have:=h.lt a4; omega
  ·rfl
 ·intro b x hb;rw[(aa.im b x hb).2];exact h.im b x hb
 ·intro E o1 x DR hi;simp only at hi;rcases M E o1 DR with⟨h1,ac⟩|⟨rfl,rfl⟩
  ·rw[Hm _ _ _ _ (by omega)]at hi;exact h.dis _ _ _ ac hi
  ·rw[IE]at hi;have:=h.im_lt hi; omega
 ·exact⟨ab.os,ab.tape,ab.output,ab.size,fun b hb=>N b (A3 hb h.size)⟩
theorem SR.pushMap(h:SR base w g st){clock:Nat}
  (N:Beside w w') (M:∀ b,b<w.heap.size→w'.heap[b]?=w.heap[b]?) (aa:w'.heap[w.heap.size]?=s_ (.map #[] clock)) (hm:o.isMap=t_) (ab:o.sz≠1000003) (E:o.els=[]) :
  Go1 base w g st w' {g with β:=Gc g.β st.length w.heap.size} (st++[o]):=by refine h.pushM (AF _) N M hm fun g' st'=>?_;unfold MapAt;rw[if_neg ab];refine⟨#[],clock,aa,h.size,by rw[E]; rfl,(by rw[E]; exact fun x hx=>(by cases hx)),?_,rfl⟩;grind
theorem SR.pushRec(h:SR base w g st)(hB:w.heap.size≤B)
  (M:Beside w w') (E:∀ b,b<w.heap.size→w'.heap[b]?=w.heap[b]?) (N:w'.heap[B]?=s_ (.loop r)) (h0:r.state=.ready∧r.pending=none) :
  Go1 base w g st w' {g with β:=Gc g.β st.length B} (st++[recO 0]):=by refine h.pushM hB M E rfl fun g' st'=>?_;unfold MapAt;rw[if_pos (show(recO 0).sz=1000003 from rfl)];exact⟨r,0,N,AZ h.size hB,rfl,fun _=>h0,fun e=>by cases e⟩
theorem SR.more(h:SR base w g st){Im':Nat→Nat→Prop}
  (M:Beside w w') (E:∀ b,b<w.heap.size→w'.heap[b]?=w.heap[b]?)
  (a1:∀ b o,g.Im b o→Im' b o) (ac:∀ b o,Im' b o→g.Im b o∨w.heap.size≤b) (a2:∀ b o,Im' b o→(w'.cell? ⟨b,o,none⟩).isSome=t_) :
  Go1 base w g st w' {g with Im:=Im'} st:=by
 have N:ImLe w g w' {g with Im:=Im'}:=by
  refine⟨?_,fun b o hb _=>by rw[E b (AH.1 hb).1]; exact hb⟩;intro b x hb;refine⟨a1 b x hb,?_⟩;have a3:=h.im_lt hb;simp only[World.cell?,E b a3]
 have aa:Evo g st {g with Im:=Im'} st:=fun k o hk=>⟨o,hk,rfl,rfl,AF _,fun _=>⟨rfl,rfl⟩,fun _=>rfl⟩;refine⟨⟨fun k1 o1 DR ad=>(h.mp k1 o1 DR ad).mono N aa rfl (E _ (h.lt DR)),?_,h.inj,a2,?_,AZ h.size M.size⟩,aa,N,fun b x hb=>?_,?_,fun b o hb _=>.same (by rw[E b (AH.1 hb).1]; exact hb)⟩
 ·intro k1 o1 DR ad;obtain⟨C2,e2,a4,ae,ah,a5,a6,a0⟩:=h.blk k1 o1 DR ad;refine⟨C2,e2,(E _ (h.lt DR)).trans a4,ae,ah,a5,a6,?_⟩;intro i j d hd;obtain⟨a7,v,h2,h3⟩:=a0 i j d hd;exact⟨a7,v,h2,h3.mono N aa⟩
 ·intro k1 o1 x DR hi;rcases ac _ _ hi with h1|h1
  ·exact h.dis _ _ _ DR h1
  ·have:=h.lt DR; simp only at h1; omega
 ·rcases ac _ _ hb with h1|h1
  ·grind
  ·exact .inr (AZ h.size h1)
 ·exact⟨M.os,M.tape,M.output,M.size,fun b hb=>E b (A3 hb h.size)⟩
theorem SR.lend1(h:SR base w g st)(k:Nat) :
  Go1 base w g st w {g with Im:=fun b x=>g.Im b x∨∃ o,st[k]?=s_ o∧o.isMap=f_∧b=g.β k∧x<o.els.length*o.sz} (st.modify k fun o=>{o with lent:=t_}):=by
 have N:ImLe w g w {g with Im:=fun b x=>g.Im b x∨∃ o,st[k]?=s_ o∧o.isMap=f_∧b=g.β k∧x<o.els.length*o.sz}:=⟨fun b x hb=>⟨.inl hb,rfl⟩,fun _ _ h _=>h⟩
 have get:∀ (M:Nat) (o1:Obj),(st.modify k fun o=>{o with lent:=t_})[M]?=s_ o1→∃ E,st[M]?=s_ E∧o1=(if M=k then {E with lent:=t_} else E):=by
  grind
 have aa:Evo g st {g with Im:=fun b x=>g.Im b x∨∃ o,st[k]?=s_ o∧o.isMap=f_∧b=g.β k∧x<o.els.length*o.sz} (st.modify k fun o=>{o with lent:=t_}):=by
  intro M o1 DR;grind
 refine⟨⟨?_,?_,?_,?_,?_,h.size⟩,aa,N,fun b x hb=>?_,Below.refl _ _,fun _ _ h _=>.same h⟩
 ·intro M o1 DR a0;obtain⟨E,h0,he⟩:=get M o1 DR;have f1:o1.sz=E.sz:=by rw[he]; split <;> rfl
  have f2:o1.els=E.els:=by rw[he]; split <;> rfl
  have f3:o1.row=E.row:=by rw[he]; split <;> rfl
  have ab:=h.mp M E h0 ((Q3 f3 f1).symm.trans a0);unfold MapAt at ab ⊢;rw[f1]
  split
  ·rename_i hs;rw[if_pos hs]at ab;obtain⟨r,n,a1,a2,a3,a4⟩:=ab;exact⟨r,n,a1,a2,by rw[f2]; exact a3,a4⟩
  rename_i hs;rw[if_neg hs]at ab;obtain⟨es,clock,a1,a2,a3,a4,a5,a6⟩:=ab;refine⟨es,clock,a1,a2,by rw[f2]; exact a3,by rw[f1,f2]; exact a4,?_,a6⟩;rw[f1,f2];exact fun i e el he a9=>⟨(a5 i e el he a9).1.mono N aa,(a5 i e el he a9).2.mono N aa⟩
 ·intro M o1 DR a0;obtain⟨E,h0,he⟩:=get M o1 DR;have f1:o1.sz=E.sz:=by rw[he]; split <;> rfl
  have f2:o1.els=E.els:=by rw[he]; split <;> rfl
  have f3:o1.row=E.row:=by rw[he]; split <;> rfl
  obtain⟨C2,e2,a7,ac,ae,ba,ad,af⟩:=h.blk M E h0 ((Q3 f3 f1).symm.trans a0);refine⟨C2,e2,a7,ac,by rw[f1]; exact ae,by rw[f1,f2]; exact ba,by rw[f1,f2,f3]; exact ad,?_⟩;intro i j d hd;rw[f2]at hd;obtain⟨b3,v,h2,h3⟩:=af i j d hd;exact⟨fun e=>b3 (f3.symm.trans e),v,by rw[f1]; exact h2,h3.mono N aa⟩
 ·intro M k2 o1 o2 DR b4 he;obtain⟨p1,q1,_⟩:=get M o1 DR;obtain⟨p2,q2,_⟩:=get k2 o2 b4;exact h.inj _ _ _ _ q1 q2 he
 ·intro b x hb;rcases hb with hb|⟨o,ho,hm,rfl,hx⟩
  ·exact h.im b x hb
  ·obtain⟨C2,e2,a7,ac,ae,ba,ad,af⟩:=h.blk k o ho hm;simp only[World.cell?,a7]
   have:x<C2.size:=by
    split at ad
    ·rw[ad.1]; exact A3 hx (AT _ ad.2.1)
    ·grind
   simp[this]
 ·intro M o1 x DR hi;obtain⟨E,h0,he⟩:=get M o1 DR;have f1:o1.sz=E.sz:=by rw[he]; split <;> rfl
  have f2:o1.els=E.els:=by rw[he]; split <;> rfl
  rw[f1,f2];rcases hi with hi|⟨o,ho,_,b5,hx⟩
  ·have:=h.dis _ _ _ h0 hi;grind
  ·obtain rfl:M=k:=h.inj _ _ _ _ h0 ho b5;grind
 ·rcases hb with hb|⟨o,ho,_,rfl,hx⟩
  ·grind
  ·exact .inr (h.based ho)
theorem SR.lend:∀ (ks:List Nat) {g:Ghost} {st:St},SR base w g st→
  ∃ g',Go1 base w g st w g' (PI.lend ks st)∧g'.β=g.β∧g'.γ=g.γ∧
   (∀ k∈ks,∀ o,st[k]?=s_ o→o.isMap=f_→∀ x,x<o.els.length*o.sz→g'.Im (g.β k) x)
 |[],g,st,h=>⟨g,Go1.refl h,rfl,rfl,fun _ hk=>by cases hk⟩
 |k::r,g,st,h=>by
  have E:=h.lend1 k;obtain⟨g',M,hb,hc,hi⟩:=SR.lend r E.sr;refine⟨g',E.trans M,hb,hc,?_⟩;intro N DR o ho hm x hx;rcases Ay.1 DR with rfl|DR
  ·exact(M.im.im _ _ (.inr ⟨o,ho,hm,rfl,hx⟩)).1
  ·obtain⟨o',ab,e1,e2,e3,_⟩:=E.evo N o ho;refine hi N DR o' ab ((Q3 e1 e2).trans hm) x ?_;grind
theorem SR.drew(h:SR base w g st)(n:Nat):Go1 base w g st {w with drawn:=n} g st:=by have:=h.more (w':={w with drawn:=n}) (Im':=g.Im) ⟨rfl,rfl,rfl,AF _⟩ (fun _ _=>rfl) (fun _ _ h=>h) (fun _ _ h=>.inl h) (fun b o hb=>h.im b o hb);exact this
end Go.Proofs.YtijnglngaogdjaaGreatDoor.PI
namespace Go.Proofs.YtijnglngaogdjaaGreatDoor.PI
open Go Go.RowKit
def gI:Value→Option D
 |.bool b=>s_ (.bool b)
 |.int k n=>s_ (.int k n)
 |.string s=>s_ (.str s.data.toList)
 |.pointer none=>s_ .nilp
 |.map none=>s_ .nilm
 |.nilFunc=>s_ .nilf
 |.slice none 0 0=>s_ (.slc 0 [] t_)
 |_=>none
def Tf:List Value→Option (List D)
 |[]=>s_ []
 |v::l=>match gI v,Tf l with
  |some x,s_ y=>s_ (x::y)
  |_,_=>none
def QI:Value→Option D
 |.agg cs=>(Tf cs.toList).map .agg
 |.tuple _=>none
 |v=>gI v
def Ee:Operand→Option PA
 |.tmp t=>s_ (.s t)
 |.const v=>(QI v).map .c
 |.global g=>s_ (.g g)
 |.func f=>if f<5000000 then s_ (.c (.clo f []))else none
def IU:List Operand→Option (List PA)
 |[]=>s_ []
 |x::l=>match Ee x,IU l with
  |some a,s_ b=>s_ (a::b)
  |_,_=>none
def TJ:Option Operand→Option (Option PA)
 |none=>s_ none
 |some x=>(Ee x).map s_
def ES(P:Program)(t:TypeId):Option Bool:=match P.underlying t with
 |some (.struct _)|some (.array _ _)=>s_ t_
 |some _=>s_ f_
 |none=>none
def EL(P:Program)(t:TypeId):Option Nat:=(P.info? t).map (·.size)
def IG(P:Program)(t:TypeId):Option D:=match P.info? t with
 |some i=>match i.zero with
  |some v=>QI v
  |none=>none
 |none=>none
variable {d:D}{v:Value}{st:St}{g:Ghost}{w:World}
theorem wT(h:gI v=s_ d):RepV w g st d v∧d.pure1=t_:=by
 unfold gI at h
 split at h <;> simp at h <;> subst h
 ·exact⟨.bool _,rfl⟩
 ·exact⟨.int _ _,rfl⟩
 ·refine⟨?_,rfl⟩;rename_i s;have:s=⟨s.data.toList.toArray⟩:=by rw[BK]
  conv=>rhs; rw[this]
  exact .str _
 ·exact⟨.nilp,rfl⟩
 ·exact⟨.nilm,rfl⟩
 ·exact⟨.nilf,rfl⟩
 ·exact⟨.slcE 0 t_ none 0 (fun _=>rfl),rfl⟩
theorem wU{w:World}{g:Ghost}{st:St}:∀ {vs:List Value} {ds:List D},Tf vs=s_ ds→ds.length=vs.length∧(∀ (i:Nat) d v,ds[i]?=s_ d→vs[i]?=s_ v→RepV w g st d v)∧∀ d∈ds,d.pure1=t_
 |[],ds,h=>by simp[Tf]at h; subst h; exact⟨rfl,fun i d v h=>by simp at h,fun d h=>by cases h⟩
 |v::l,ds,h=>by
  unfold Tf at h
  split at h
  ·rename_i x y E M;simp at h; subst h;obtain⟨N,h2,h3⟩:=wU (w:=w) (g:=g) (st:=st) M;have h4:=wT (w:=w) (g:=g) (st:=st) E;grind
  ·cases h
theorem SN(h:QI v=s_ d):RepV w g st d v:=by
 unfold QI at h
 split at h
 ·rename_i cs
  cases hc:Tf cs.toList with
  |none=>simp[hc]at h
  |some ds=>
   simp[hc]at h; subst h;obtain⟨E,M,_⟩:=wU (w:=w) (g:=g) (st:=st) hc;have:=RepV.agg ds cs.toList E M;omega
 ·cases h
 ·exact(wT h).1
variable {st':St}{g':Ghost}{w':World}
theorem RepV.pure(hI:ImLe w g w' g')(h:RepV w g st d v)(hp:d.pure1=t_):RepV w' g' st' d v:=by
 revert hp
 induction h with
 |int k n=>exact fun _=>.int k n
 |bool b=>exact fun _=>.bool b
 |str s=>exact fun _=>.str s
 |nilp=>exact fun _=>.nilp
 |nilm=>exact fun _=>.nilm
 |gmap es b ad clock M N h3=>exact fun _=>.gmap es b ad clock (hI.kp _ _ M N) N h3
 |slcE sz t a cap h=>exact fun _=>.slcE sz t a cap h
 |slc els t b off cap sz val M N h3 aa h4 h5 h6 _ ih=>
  exact fun _=>.slc els t b off cap sz val M N h3 aa h4 h5 (fun i j d E=>⟨(hI.im _ _ (h6 i j d E).1).1,(hI.im _ _ (h6 i j d E).1).2.trans (h6 i j d E).2⟩) (fun i j d E=>ih i j d E (aa i j d E))
 |clo f ds vs M N=>
  intro hp
  cases ds with
  |nil=>exact .clo f [] vs M (fun i d v h=>by simp at h)
  |cons x l=>cases hp
 |nilf=>exact fun _=>.nilf
 |row=>intro h; cases h
 |bsl=>intro h; cases h
 |mapv=>intro h; cases h
 |ptr=>intro h; cases h
 |rptr=>intro h; cases h
 |eptr=>intro h; cases h
 |agg=>intro h; cases h
 |tup=>intro h; cases h
 |junk=>intro h; cases h
theorem RepV.eptr_any{n:Nat}(M:ImLe w g w' g')(h:RepV w g st (.eptr d n) v):RepV w' g' st' (.eptr d n) v:=by
 cases h with
 |eptr _ _ b o val h0 N h2=>exact .eptr d n b o val h0 (fun j d E=>⟨(M.im _ _ (N j d E).1).1,(M.im _ _ (N j d E).1).2.trans (N j d E).2⟩) (fun j d E=>(h2 j d E).pure M (h0 j d E))
theorem RepV.purA{w w':World}{g g':Ghost}{st st':St}{d:D}{v:Value}(hI:ImLe w g w' g')(h:RepV w g st d v)(E:purA d=t_):RepV w' g' st' d v:=by
 cases h with
 |agg ds vs N M=>
  simp only[PI.purA,Ah]at E;exact .agg ds vs N fun i d v hd hv=>(M i d v hd hv).pure hI (E d (An hd))
 |int k n=>exact .int k n
 |bool b=>exact .bool b
 |str s=>exact .str s
 |nilp=>exact .nilp
 |nilm=>exact .nilm
 |gmap es b ab clock N M h3=>exact .gmap es b ab clock (hI.kp _ _ N M) M h3
 |slcE sz t a cap h=>exact .slcE sz t a cap h
 |slc els t b off cap sz val N M h3 ae h4 h5 h6 h7=>exact RepV.pure hI (.slc els t b off cap sz val N M h3 ae h4 h5 h6 h7) rfl
 |clo f ds vs N M=>exact RepV.pure hI (.clo f ds vs N M) E
 |nilf=>exact .nilf
 |row=>cases E
 |bsl=>cases E
 |mapv=>cases E
 |ptr=>cases E
 |rptr=>cases E
 |eptr=>cases E
 |tup=>cases E
 |junk=>cases E
theorem RepV.purR{w w':World}{g g':Ghost}{st st':St}{d:D}{v:Value}(M:ImLe w g w' g')(h:RepV w g st d v)(E:purR d=t_):RepV w' g' st' d v:=by
 cases d with
 |tup l=>
  cases h with
  |tup _ vs h1 h2=>
   simp only[PI.purR,Ah]at E;exact .tup l vs h1 fun i d v N hv=>(h2 i d v N hv).purA M (E d (An N))
 |_=>exact h.purA M E
def GlobOK(G:DB)(w:World)(g:Ghost):Prop:=∀ n d,G n=s_ d→RepV w g [] (.eptr d 0) (.pointer (s_ ⟨n,0,none⟩))
variable {G:DB}
theorem GlobOK.mono(h:GlobOK G w g)(E:ImLe w g w' g'):GlobOK G w' g':=fun n d M=>(h n d M).eptr_any E
def FR(w:World)(g:Ghost)(st:St)(fr:Frame)(a:Act):Prop:=∀ s,RepV w g st (fr s) (a.tmps.getD s undef)
variable {a:Act}{fr:Frame}
theorem FR.mono(h:FR w g st fr a)(E:ImLe w g w' g')(M:Evo g st g' st'):FR w' g' st' fr a:=fun s=>(h s).mono E M
theorem FR.put{dst:Option Nat}(h:FR w g st fr a)(E:∀ t,dst=s_ t→t<a.tmps.size)(M:RepV w g st d v):FR w g st (fr.put dst d) (a.put dst v):=by
 intro s
 cases dst with
 |none=>exact h s
 |some t=>
  have N:=E t rfl;simp only[Frame.put,Frame.set,Act.put]
  by_cases e:s=t
  ·simp_all
  ·rw[if_neg e];have:=h s;simpa[Array.getElem?_setIfInBounds,show ¬ t=s by omega]using this
theorem G7{x:Operand}{E:PA}(M:GlobOK G w g)(N:FR w g st fr a)(h:Ee x=s_ E):RepV w g st (DL G fr E) (a.eval x):=by
 cases x with
 |tmp t=>simp[Ee]at h; subst h; exact N t
 |const v=>
  cases hc:QI v with
  |none=>simp[Ee,hc]at h
  |some d=>simp[Ee,hc]at h; subst h; exact SN hc
 |global n=>
  simp[Ee]at h; subst h;simp only[DL]
  cases hg:G n with
  |none=>exact .junk _
  |some d=>exact(M n d hg).eptr_any (ImLe.refl _ _)
 |func f=>
  simp only[Ee]at h
  split at h
  case isFalse=>cases h
  rename_i hf;simp only[Dp]at h; subst h;have:=RepV.clo (w:=w) (g:=g) (st:=st) f [] [] rfl (fun i d v h=>by simp at h);rw[Tt hf,ov,nM]at this;exact this
end Go.Proofs.YtijnglngaogdjaaGreatDoor.PI
namespace Go.Proofs.YtijnglngaogdjaaGreatDoor.PI
open Go Go.RowKit
def RunsTo(P:Program)(base:Nat)(w:World)(g:Ghost)(st:St)(s:Sem Value)(d:D)(st':St):Prop:=
 ∃ v w' g',s.run P w=.ok v w'∧Go1 base w g st w' g' st'∧RepV w' g' st' d v
variable {v:Value}{d:D}{i j key len off sz:Nat}{els:List D}{t:Bool}
section
variable {P:Program} {base:Nat} {w:World} {g:Ghost} {st:St}
theorem RunsTo.still(h:SR base w g st){s:Sem Value}(E:s.run P w=.ok v w)(M:RepV w g st d v):RunsTo P base w g st s d st:=
 ⟨v,w,g,E,Go1.refl h,M⟩
theorem Jt{k:IntKind}{n:Int}(h:RepV w g st (.int k n) v):v=.int k n:=by cases h; rfl
theorem Mm{b:Bool}(h:RepV w g st (.bool b) v):v=.bool b:=by cases h; rfl
theorem MY{s:List UInt8}(h:RepV w g st (.str s) v):v=.string ⟨s.toArray⟩:=by cases h; rfl
theorem nC(s:List UInt8):ByteArray.toList ⟨s.toArray⟩=s:=by simp_all
theorem kz(s:ByteArray)(l:List UInt8)(h:s.data.toList=l):RepV w g st (.str l) (.string s):=by
 subst h;have:s=⟨s.data.toList.toArray⟩:=by rw[BK]
 conv=>rhs; rw[this]
 exact .str _
theorem Yio(op:BinOp)(x y:List UInt8)(d:D)(h:gr op x y=s_ d):∃ v,(Op.stringOp op ⟨x.toArray⟩ ⟨y.toArray⟩).run P w=.ok v w∧RepV w g st d v:=by
 unfold gr at h;unfold Op.stringOp;simp only[nC];cases op <;> simp only[reduceCtorEq]at h <;> try (injection h with h; subst h; exact⟨_,rfl,.bool _⟩)
 split at h
 ·rename_i hl;simp at h; subst h
  have:¬ (((Da ⟨x.toArray⟩+Da ⟨y.toArray⟩:Nat):Int) > IntKind.i64.max):=by
   have e:IntKind.i64.max=9223372036854775807:=by decide
   rw[e];simp only[Da,CL];omega
  simp only[this,if_false];exact⟨_,rfl,kz _ _ (by simp)⟩
 ·cases h
theorem iH(op:BinOp)(t:TypeId)(x y:Operand)(a b:Value)(h:∀ u,a≠.agg u)(E:a≠.nilIface):(eqGuard op t x y a b).run P w=.ok () w:=by unfold eqGuard;simp_all
theorem Yt0(op:BinOp)(t:TypeId)(x y:D)(d:D)(vx vy:Value)(h:DF op x y=s_ d)(hx:RepV w g st x vx)(hy:RepV w g st y vy) :
  (∃ v,(binOp op t vx vy).run P w=.ok v w∧RepV w g st d v)∧(∀ u,vx≠.agg u)∧vx≠.nilIface:=by
 unfold DF at h
 split at h
 ·rename_i k a k' b;obtain rfl:=Jt hx;obtain rfl:=Jt hy;refine⟨?_,(by intro u e; cases e),(by intro e; cases e)⟩
  have arith:∀ q,Lh op k a b=s_ q→(op=.add∨op=.sub∨op=.mul)→(Op.intArith op k a b).run P w=.ok (.int k q) w:=by
   intro q E ho;rcases ho with rfl|rfl|rfl <;> simp[Lh]at E <;> subst E <;> rfl
  have div:∀ q,Lh op k a b=s_ q→(op=.quo∨op=.rem)→(Op.intDiv op k a b).run P w=.ok (.int k q) w:=by
   intro q E ho;rcases ho with rfl|rfl <;> simp[Lh]at E <;> obtain⟨h0,rfl⟩:=E <;> simp[Op.intDiv,h0]
  have bits:∀ q,LY op k a b=s_ q→(Op.intBits op k a b).run P w=.ok (.int k q) w:=by
   intro q E;cases op <;> simp only[LY,Dp,reduceCtorEq]at E <;> subst E <;> rfl
  have cmp:∀ q,Kc op a b=s_ q→(Op.intCmp op a b).run P w=.ok (.bool q) w:=by
   intro q E;cases op <;> simp[Kc]at E <;> subst E <;> rfl
  have N:∀ q,MR op k a b=s_ q→(Op.shift op k a k' b).run P w=.ok (.int k q) w:=by
   intro q E;unfold MR at E
   split at E
   ·cases E
   ·rename_i hb;cases op <;> simp at E <;> subst E <;> simp[Op.shift,hb]
  cases op
  case shl=>
   simp only[]at h
   cases M:MR .shl k a b with
   |none=>simp[M]at h
   |some q=>simp[M]at h; subst h; exact⟨_,by simp only[binOp]; exact N q M,.int _ _⟩
  case shr=>
   simp only[]at h
   cases M:MR .shr k a b with
   |none=>simp[M]at h
   |some q=>simp[M]at h; subst h; exact⟨_,by simp only[binOp]; exact N q M,.int _ _⟩
  all_goals
   simp only[]at h
   split at h
   case isFalse=>cases h
   rename_i hk;subst hk;simp only[D0]at h;obtain⟨q,E,rfl⟩:=h
   first
    |exact⟨_,by simp only[binOp,ne_eq,not_true_eq_false,if_false]; exact arith q E (by simp),.int _ _⟩
    |exact⟨_,by simp only[binOp,ne_eq,not_true_eq_false,if_false]; exact div q E (by simp),.int _ _⟩
    |exact⟨_,by simp only[binOp,ne_eq,not_true_eq_false,if_false]; exact bits q E,.int _ _⟩
    |exact⟨_,by simp only[binOp,ne_eq,not_true_eq_false,if_false]; exact cmp q E,.bool _⟩
 ·rename_i a b;obtain rfl:=MY hx;obtain rfl:=MY hy;refine⟨?_,(by intro u e; cases e),(by intro e; cases e)⟩;obtain⟨v,h1,h2⟩:=Yio (P:=P) (w:=w) (g:=g) (st:=st) op a b d h;refine⟨v,?_,h2⟩;cases op <;> first|exact h1|(simp[gr]at h; done)
 ·cases h
theorem Yt1(E:Bool)(t:TypeId)(M:P.underlying t=s_ .bool)(x y:D)(d:D)(vx vy:Value)(h:NX E x y=s_ d)(N:RepV w g st x vx)(hy:RepV w g st y vy) :
  (∃ v,(binOp (if E then .neq else .eql) t vx vy).run P w=.ok v w∧RepV w g st d v)∧(∀ u,vx≠.agg u)∧vx≠.nilIface:=by
 unfold NX at h
 split at h
 ·rename_i a b;obtain rfl:=Mm N;obtain rfl:=Mm hy;refine⟨?_,(by intro u e; cases e),(by intro e; cases e)⟩;simp at h; subst h;have he:(Op.equal t (.bool a) (.bool b)).run P w=.ok (a == b) w:=run_equalIn_bool w 9999 t a b M;refine⟨_,?_,.bool _⟩;cases E <;> simp[binOp,he]
 ·cases h
theorem YBz(op:UnOp)(x:D)(d:D)(vx:Value)(h:LC op x=s_ d)(E:RepV w g st x vx):∃ v,(Op.unary op vx).run P w=.ok v w∧RepV w g st d v:=by
 unfold LC at h
 split at h
 ·obtain rfl:=Jt E;simp only[Dp]at h; subst h;exact⟨_,rfl,.int _ _⟩
 ·obtain rfl:=Jt E;simp only[D0]at h;obtain⟨q,M,rfl⟩:=h;simp only[LY,Dp]at M; subst M;exact⟨_,rfl,.int _ _⟩
 ·obtain rfl:=Mm E;simp at h; subst h;exact⟨_,rfl,.bool _⟩
 ·cases h
theorem Rh{x:D}{n:Nat}(h:Gk x=s_ n)(E:RepV w g st x v):∃ k,v=.int k (n:Int):=by
 unfold Gk at h
 split at h
 ·obtain rfl:=Jt E;grind
 ·cases h
theorem IF(h:Gl els i j=s_ d):∃ e,els[i]?=s_ e∧e.cells[j]?=s_ d:=by unfold Gl at h;grind
theorem Ig{e:D}(E:els[i]?=s_ e)(M:e.cells[j]?=s_ d):Gl els i j=s_ d:=by simp[Gl,E,M]
theorem RepV.slc_mk{b cap:Nat}(N:0<sz)(hl:∀ e∈els,e.cells.length=sz)(E:els.length≤cap)(M:t=t_→cap=els.length)
  (h:∀ i j d,Gl els i j=s_ d→d.pure1=t_∧g.Im b (off+i*sz+j)∧∃ v,w.cell? ⟨b,off+i*sz+j,none⟩=s_ v∧RepV w g st d v) :
  RepV w g st (.slc sz els t) (.slice (s_ ⟨b,off,none⟩) els.length cap):=by
 by_cases he:els=[]
 ·subst he;exact .slcE sz t _ cap M
 ·refine .slc els t b off cap sz (fun i j=>(w.cell? ⟨b,off+i*sz+j,none⟩).getD undef) he N hl (fun i j d hd=>(h i j d hd).1) E M ?_ ?_
  ·grind
  ·grind
structure Els (w:World) (g:Ghost) (st:St) (v:Value) (sz:Nat) (els:List D):Prop where
 shape:∃ a cap,v=.slice a els.length cap∧(els≠[]→∃ b off,a=s_ ⟨b,off,none⟩∧0<sz∧
  ∀ i j d,Gl els i j=s_ d→∃ u,w.cell? ⟨b,off+i*sz+j,none⟩=s_ u∧RepV w g st d u∧u.oneCell'=t_)
 pure:∀ i j d,Gl els i j=s_ d→d.pure1=t_
 len:∀ e∈els,e.cells.length=sz
theorem Vg(h:RepV w g st (.slc sz els t) v):Els w g st v sz els:=by
 cases h with
 |slcE _ _ a cap h=>exact⟨⟨a,cap,rfl,fun h=>absurd rfl h⟩,fun i j d E=>by simp[Gl]at E,fun e he=>by cases he⟩
 |slc _ _ b off cap _ val h1 h2 h3 M h4 h5 h6 N=>
  exact⟨⟨_,cap,rfl,fun _=>⟨b,off,rfl,h2,fun i j d E=>⟨_,(h6 i j d E).2,N i j d E,(N i j d E).oneCell (Rq (M i j d E))⟩⟩⟩,M,h3⟩
theorem ou(h:Gl ((els.drop off).take len) i j=s_ d):Gl els (off+i) j=s_ d∧i<len:=by
 obtain⟨e,he,E⟩:=IF h;rw[BS]at he
 split at he
 ·rename_i hi;rw[B4]at he;exact⟨Ig he E,hi⟩
 ·cases he
theorem jF(hS:SR base w g st){tot:Nat}(E:HO st key tot off len=s_ (sz,els))(h:RepV w g st (.row key tot off len) v) :
  Els w g st v sz els∧∃ o,st[key]?=s_ o∧o.row=t_∧o.sz=sz∧tot=o.els.length∧off+len≤tot∧els=(o.els.drop off).take len∧els.length=len∧v=.slice (s_ ⟨g.β key,off*o.sz,none⟩) len (g.γ key - off):=by
 unfold HO at E
 cases h with
 |row _ _ _ _ o _ h0 N h2 h3 h4=>
  rw[N]at E;simp only at E
  split at E
  ·rename_i hc;simp only[Ad,beq_iff_eq,decide_eq_true_eq]at hc;simp only[Dp,DO]at E;obtain⟨rfl,rfl⟩:=E;obtain⟨rfl,hle⟩:=h4 hc.1.2.symm;obtain⟨C,e,hb,_,ad,hx,hC,ab⟩:=hS.blk key o N (ND h2);have hl:((o.els.drop off).take len).length=len:=by rw[AA,AW]; omega
   refine⟨⟨⟨_,_,by rw[hl],fun _=>⟨_,_,rfl,ad,?_⟩⟩,?_,?_⟩,o,N,h2,rfl,hc.1.2.symm,hle,rfl,hl,rfl⟩
   ·intro i j d hd;obtain⟨h5,h6⟩:=ou hd;obtain⟨h8,u,h9,M⟩:=ab _ _ _ h5;refine⟨u,?_,M,M.oneCell (Rq (h8 h2))⟩;simp only[World.cell?,hb];grind
   ·intro i j d hd;obtain⟨h5,_⟩:=ou hd;grind
   ·grind
  ·cases E
theorem Zd(h:d.pure1=t_):d.cells=[d]:=by cases d <;> simp_all [D.pure1,D.cells]
theorem nO{sz:Nat}{ag:Bool}(h0:0<sz)(M:ag=t_∨sz=1):∀ (n:Nat) (cs:List D),n*sz≤cs.length→(∀ x∈cs,x.cells=[x])→
  (J1 sz ag cs n).length=n∧(∀ e∈J1 sz ag cs n,e.cells.length=sz)∧∀ i j d,Gl (J1 sz ag cs n) i j=s_ d→cs[i*sz+j]?=s_ d∧i<n∧j<sz
 |0,cs,_,_=>⟨rfl,fun e he=>by simp[J1]at he,fun i j d E=>by simp[J1,Gl]at E⟩
 |n+1,cs,hl,hc=>by
  rw[A6,Bz]at hl;obtain⟨h1,h2,h3⟩:=nO h0 M n (cs.drop sz) (by rw[AW]; omega) (fun x hx=>hc x (Ct hx))
  have aa:(D.mk ag (cs.take sz)).cells=cs.take sz:=by
   rcases M with rfl|rfl
   ·rfl
   ·cases ag
    ·cases cs with
     |nil=>simp at hl
     |cons x r=>simp[D.mk]; exact hc x (by simp)
    ·rfl
  refine⟨by simp[J1,h1],?_,?_⟩
  ·intro e he;simp only[J1,Ay]at he;grind
  ·intro i j d E;obtain⟨e,he,N⟩:=IF E
   cases i with
   |zero=>
    simp only[J1,AG,Dp]at he;grind
   |succ i=>
    simp only[J1,Bl]at he;obtain⟨h4,h5,h6⟩:=h3 i j d (Ig he N);grind
theorem Yqx(hS:SR base w g st){n:Nat}{ag:Bool}(he:KG st key off n sz ag=s_ els)(hr:RepV w g st (.bsl key off n sz ag) v)
  (a3:∀ d∈els,purA d=t_):Els w g st v sz els∧els.length=n∧∃ o cap,st[key]?=s_ o∧o.row=f_∧o.sz=1∧off+n*sz≤o.els.length∧n≤cap∧v=.slice (s_ ⟨g.β key,off,none⟩) n cap∧0<sz∧∀ i j d,Gl els i j=s_ d→i<n∧j<sz:=by
 unfold KG at he
 cases hr with
 |bsl _ _ _ _ _ o cap ho M N a4=>
  rw[ho]at he;simp only[As,Dp,Ad,decide_eq_true_eq,Bh,beq_iff_eq,AU]at he;obtain⟨⟨⟨⟨_,h1⟩,h2⟩,h3⟩,rfl⟩:=he;obtain⟨C,e,hb,_,bd,hx,hC,a1⟩:=hS.blk key o ho (Qo N);rw[M]at hC;simp only[Ao,if_false]at hC;obtain⟨c1,c2,c3⟩:=nO h2 h3 n (o.els.drop off) (by rw[AW]; omega) (fun x hx=>hC.2.2 x (Ct hx))
  have af:∀ i j d,Gl (J1 sz ag (o.els.drop off) n) i j=s_ d→d.pure1=t_:=by
   intro i j d E;obtain⟨h6,_⟩:=c3 i j d E;rw[B4]at h6;obtain⟨e0,a7,ac⟩:=IF E;have h7:=a3 e0 (An a7)
   cases e0 with
   |agg l=>
    simp only[purA,Ah]at h7;exact h7 d (An ac)
   |_=>
    simp only[D.cells]at ac;have:=An ac;simp only[AP]at this;rw[this];exact h7
  refine⟨⟨⟨_,cap,by rw[c1],fun _=>⟨_,_,rfl,h2,?_⟩⟩,af,c2⟩,c1,o,cap,ho,M,N,h1,a4,rfl,h2,fun i j d E=>(c3 i j d E).2⟩;intro i j d E;obtain⟨h6,_⟩:=c3 i j d E;rw[B4]at h6;have h7:=hC.2.2 d (An h6);obtain⟨_,u,h8,h9⟩:=a1 (off+(i*sz+j)) 0 d (Ig h6 (by rw[h7]; rfl));refine⟨u,?_,h9,h9.oneCell (Rq (af i j d E))⟩;rw[hC.2.1]at h8;simp only[World.cell?,hb];grind
end
end Go.Proofs.YtijnglngaogdjaaGreatDoor.PI
namespace Go.Proofs.YtijnglngaogdjaaGreatDoor.PI
open Go Go.RowKit
variable {v:Value}{els:List D}{n off sz:Nat}{d:D}{ag:Bool}{t:TypeId}
section
variable {P:Program} {base:Nat} {w:World} {g:Ghost} {st:St}
def LK(g:Ghost)(st:St)(ks:List Nat):Prop:=∀ k∈ks,∀ o,st[k]?=s_ o→o.isMap=f_→∀ x,x<o.els.length*o.sz→g.Im (g.β k) x
theorem RepV.loose{t:Bool}(h:RepV w g st (.slc sz els t) v):RepV w g st (.slc sz els f_) v:=by
 cases h with
 |slcE _ _ a cap h=>exact .slcE sz f_ a cap fun e=>by cases e
 |slc _ _ b off cap _ val M N h3 E h4 h5 h6 h7=>exact .slc els f_ b off cap sz val M N h3 E h4 (fun e=>by cases e) h6 h7
theorem RepV.nz{t:Bool}(h:RepV w g st (.slc sz els t) v):RepV w g st (.slc (PI.nz sz els) els f_) v:=by
 have h:=h.loose
 cases els with
 |nil=>
  cases h with
  |slcE _ _ a cap h=>exact .slcE _ f_ a cap fun e=>by cases e
  |slc _ _ b off cap _ val E N h3 M h4 h5 h6 h7=>exact absurd rfl E
 |cons a l=>exact h
theorem Ycl(hS:SR base w g st){y:D}(h:D2 st d=s_ y)(hr:RepV w g st d v)(hL:LK g st (FQ d)):RepV w g st y v∧y.pure1=t_:=by
 cases d with
 |row key tot off len=>
  simp only[D2,D0]at h;obtain⟨⟨sz,els⟩,he,rfl⟩:=h;obtain⟨M,o,ho,E,aa,bd,hle,af,hlen,rfl⟩:=jF hS he hr;refine⟨RepV.nz (t:=f_) ?_,rfl⟩;obtain⟨C,e,hb,_,ah,hx,hC,be⟩:=hS.blk key o ho (ND E);rw[E]at hC;simp only[if_true]at hC;have ab:els.length≤g.γ key - off:=by omega
  subst aa
  show RepV w g st (.slc o.sz els f_) (.slice (s_ ⟨g.β key,off*o.sz,none⟩) len (g.γ key - off))
  rw[← hlen];refine .slc_mk ah M.len ab (fun h=>by cases h) ?_;intro i j d N;refine⟨M.pure i j d N,?_,?_⟩
  ·refine hL key (by simp[FQ]) o ho (ND E) _ ?_;subst af;obtain⟨h1,h2⟩:=ou N;obtain⟨e1,h3,h4⟩:=IF h1;have h5:=hx e1 (An h3);have h6:j<o.sz:=by rw[← h5]; exact(Ab.1 h4).1
   have h7:off+i<o.els.length:=(Ab.1 h3).1
   calc off*o.sz+i*o.sz+j<off*o.sz+i*o.sz+o.sz:=by omega
    _=(off+i+1)*o.sz:=by rw[A6,A6,Bz]
    _≤o.els.length*o.sz:=AT _ h7
  ·obtain⟨a,cap,hv,a8⟩:=M.shape
   have a9:els≠[]:=by
    rintro rfl;simp[Gl]at N
   grind
 |slc sz els t=>
  simp only[D2,Dp]at h;subst h;exact⟨hr.nz,rfl⟩
 |bsl key off n sz ag=>
  simp only[D2,D0]at h;obtain⟨els,he,rfl⟩:=h;unfold It at he
  split at he
  case h_2=>cases he
  rename_i a2 ba
  split at he
  case isFalse=>cases he
  rename_i bb;simp only[Dp]at he;subst he;obtain⟨M,hlen,o,cap,ho,E,a3,hle,ab,rfl,aa,bc⟩:=Yqx hS ba hr (Ah.1 bb);refine⟨RepV.nz (t:=f_) ?_,rfl⟩;rw[← hlen];refine .slc_mk aa M.len (by omega) (fun h=>by cases h) ?_;intro i j d N;obtain⟨h5,h6⟩:=bc i j d N;refine⟨M.pure i j d N,?_,?_⟩
  ·have hx:off+i*sz+j<o.els.length*o.sz:=by
    have h7:(i+1)*sz≤n*sz:=AT _ h5;grind
   exact hL key (by simp[FQ]) o ho (Qo a3) _ hx
  ·obtain⟨a,b2,hv,a8⟩:=M.shape
   have a9:a2≠[]:=by
    grind
   grind
 |_=>
  simp only[D2]at h;grind
theorem lh(N:SR base w g st):∀ {ds ys:List D},Es st ds=s_ ys→LK g st (ds.flatMap FQ)→ys.length=ds.length∧
  (∀ (i:Nat) y v,ys[i]?=s_ y→(∀ d,ds[i]?=s_ d→RepV w g st d v)→RepV w g st y v)∧ys.all D.pure1=t_
 |[],ys,h,_=>by simp[Es]at h; subst h; exact⟨rfl,fun i y v h=>by simp at h,rfl⟩
 |d::l,ys,h,hL=>by
  unfold Es at h
  split at h
  ·rename_i x y E hy;simp at h; subst h;obtain⟨h1,h2,h3⟩:=lh N hy (fun k hk=>hL k (by simp only[Au,AM]; exact .inr hk));have ab:LK g st (FQ d):=fun k hk=>hL k (by simp only[Au,AM]; exact .inl hk);refine⟨by simp[h1],?_,?_⟩
   ·intro i z v M hv
    cases i with
    |zero=>simp at M; subst M; exact(Ycl N E (hv d rfl) ab).1
    |succ i=>simp at M; exact h2 i z v M (fun d' ac=>hv d' (by simpa using ac))
   ·simp only[AX,h3,B5]
    cases d with
    |row key tot off len=>
     simp only[D2,D0]at E;obtain⟨p,_,rfl⟩:=E;rfl
    |slc sz els t=>simp only[D2,Dp]at E; subst E; rfl
    |bsl key off n sz ag=>
     simp only[D2,D0]at E;obtain⟨p,_,rfl⟩:=E;rfl
    |_=>
     simp only[D2]at E;grind
  ·cases h
theorem Ymn(N:SR base w g st){y:D}(h:Ej st d=s_ y)(hr:RepV w g st d v)(hL:LK g st (keys d)):RepV w g st y v∧purA y=t_:=by
 cases d with
 |agg l=>
  simp only[Ej,D0]at h;obtain⟨ys,hy,rfl⟩:=h;obtain⟨M,E,h3⟩:=lh N hy hL
  cases hr with
  |agg _ vs h4 h5=>
   exact⟨.agg ys vs (M.trans h4) fun i y v ac hv=>E i y v ac fun d hd=>h5 i d v hd hv,h3⟩
 |tup l=>simp[Ej]at h
 |_=>
  simp only[Ej]at h;obtain⟨M,E⟩:=Ycl N h hr hL;refine⟨M,?_⟩;cases y <;> first|exact E|(simp[D.pure1]at E; done)
theorem Yci(hS:SR base w g st):∀ {ds ys:List D},EG st ds=s_ ys→LK g st (ds.flatMap keys)→ys.length=ds.length∧
  (∀ (i:Nat) y v,ys[i]?=s_ y→(∀ d,ds[i]?=s_ d→RepV w g st d v)→RepV w g st y v)∧∀ y∈ys,purA y=t_
 |[],ys,h,_=>by simp[EG]at h; subst h; exact⟨rfl,fun i y v h=>by simp at h,fun y hy=>by cases hy⟩
 |d::l,ys,h,hL=>by
  unfold EG at h
  split at h
  ·rename_i x y E hy;simp at h; subst h;obtain⟨h1,h2,h3⟩:=Yci hS hy (fun k hk=>hL k (by simp only[Au,AM]; exact .inr hk));have N:LK g st (keys d):=fun k hk=>hL k (by simp only[Au,AM]; exact .inl hk);refine⟨by simp[h1],?_,?_⟩
   ·intro i z v M hv
    cases i with
    |zero=>simp at M; subst M; exact(Ymn hS E (hv d rfl) N).1
    |succ i=>simp at M; exact h2 i z v M (fun d' ad=>hv d' (by simpa using ad))
   ·intro z M;rcases Ay.1 M with rfl|M
    ·
     cases d with
     |agg l=>
      simp only[Ej,D0]at E;obtain⟨ys,af,rfl⟩:=E;exact(lh hS af N).2.2
     |tup l=>simp[Ej]at E
     |row key tot off len=>
      simp only[Ej,D2,D0]at E;obtain⟨p,_,rfl⟩:=E;rfl
     |slc sz els t=>simp only[Ej,D2,Dp]at E; subst E; rfl
     |bsl key off n sz ag=>
      simp only[Ej,D2,D0]at E;obtain⟨p,_,rfl⟩:=E;rfl
     |_=>
      simp only[Ej,D2]at E
      split at E
      ·rename_i hp; simp only[Dp]at E; subst E; exact hp
      ·cases E
    ·grind
  ·cases h
theorem SC(h:ES P t=s_ ag):(isAgg t).run P w=.ok ag w:=by
 unfold ES at h
 cases hu:P.underlying t with
 |none=>simp[hu]at h
 |some u=>
  cases u <;> simp[hu]at h <;> subst h <;> simp[isAgg,run_underlying hu]
theorem Mp(h:EL P t=s_ n):(sizeOf t).run P w=.ok n w:=by
 unfold EL at h
 cases hi:P.info? t with
 |none=>simp[hi]at h
 |some i=>simp[hi]at h; subst h; simp[sizeOf,typeInfo,hi]
theorem yY1{b:Nat}{cs:List D}(M:ES P t=s_ ag)(hn:EL P t=s_ n)(N:ag=f_→n=1)(hl:cs.length=n)
  (h:∀ (j:Nat) d,cs[j]?=s_ d→∃ u,w.cell? ⟨b,off+j,none⟩=s_ u∧RepV w g st d u) :
  ∃ v,(loadVar t ⟨b,off,none⟩).run P w=.ok v w∧RepV w g st (.mk ag cs) v:=by
 cases ag with
 |true=>
  refine⟨.agg ((C3 n).map fun j=>(w.cell? ⟨b,off+j,none⟩).getD undef).toArray,?_,?_⟩
  ·have E:∀ j,j<n→w.cell? ((⟨b,off,none⟩:Addr).add j)=s_ ((w.cell? ⟨b,off+j,none⟩).getD undef):=by
    intro j hj;rw[cell?_add];obtain⟨u,h2,_⟩:=h j cs[j] (by simp[hl,hj]);simp[h2]
   simp only[loadVar,Sem.run_bind,SC M,Result.andThen_ok,if_true,Mp hn,run_loadCells w _ n _ E];rfl
  ·refine .agg cs _ (by simp[hl]) ?_;grind
 |false=>
  have E:=N rfl;subst E
  match cs,hl with
  |[d],_=>
   obtain⟨u,h2,h3⟩:=h 0 d rfl;refine⟨u,?_,h3⟩;simp only[loadVar,Sem.run_bind,SC M,Result.andThen_ok,Ao,if_false,run_load];grind
theorem iN{l:List D}{j:Nat}(h:((l.drop off).take n)[j]?=s_ d):l[off+j]?=s_ d∧j<n:=by grind
theorem vG(hS:SR base w g st){p:D}(ha:ES P t=s_ ag)(hn:EL P t=s_ n)(h:FL st n ag p=s_ d)(hr:RepV w g st p v) :
  ∃ u,(Instr.loadAt t v).run P w=.ok u w∧RepV w g st d u:=by
 unfold FL at h
 split at h
 ·cases h
 rename_i a4;have af:ag=f_→n=1:=by intro e; subst e; simpa using a4
 have go:∀ (b off:Nat) (cs:List D),v=.pointer (s_ ⟨b,off,none⟩)→cs.length=n→(∀ (j:Nat) d,cs[j]?=s_ d→∃ u,w.cell? ⟨b,off+j,none⟩=s_ u∧RepV w g st d u)→d=.mk ag cs→
   ∃ u,(Instr.loadAt t v).run P w=.ok u w∧RepV w g st d u:=by
  intro b off cs hv hl hc hd;subst hv; subst hd;obtain⟨u,M,h2⟩:=yY1 (P:=P) ha hn af hl hc;exact⟨u,by simpa[Instr.loadAt,Instr.sureAddr]using M,h2⟩
 split at h
 ·rename_i key off
  cases hr with
  |ptr _ _ o ho E ah=>
   rw[ho]at h;simp only[E,Ax,Bb,decide_eq_true_eq,As,Dp]at h;obtain⟨hle,rfl⟩:=h;obtain⟨C,e,hb,_,a0,hx,hC,N⟩:=hS.blk key o ho (Qo ah);rw[E]at hC;simp only[Ao,if_false]at hC;refine go _ _ _ rfl (by rw[AA,AW]; omega) ?_ rfl;intro j d hd;obtain⟨M,h2⟩:=iN hd;have h3:=hC.2.2 d (An M);obtain⟨_,u,h5,h6⟩:=N (off+j) 0 d (Ig M (by rw[h3]; rfl));refine⟨u,?_,h6⟩;rw[hC.2.1]at h5;simp only[World.cell?,hb];grind
 ·rename_i key tot i off
  cases hr with
  |rptr _ _ _ _ o _ _ ho E h3 h4=>
   rw[ho]at h;simp only[E,Bb,beq_iff_eq]at h
   split at h
   ·rename_i a2
    split at h
    ·rename_i el a7;simp only[As,Dp]at h;obtain⟨hle,rfl⟩:=h;obtain⟨C,e,hb,_,a0,hx,hC,N⟩:=hS.blk key o ho (ND E);refine go _ _ _ (h4 a2.symm) (by rw[AA,AW]; omega) ?_ rfl;intro j d hd;obtain⟨M,h2⟩:=iN hd;obtain⟨_,u,h5,h6⟩:=N i (off+j) d (Ig a7 M);refine⟨u,?_,h6⟩;simp only[World.cell?,hb];grind
    ·cases h
   ·cases h
 ·rename_i el off
  cases hr with
  |eptr _ _ b o val h0 M h2=>
   grind
 ·cases h
end
end Go.Proofs.YtijnglngaogdjaaGreatDoor.PI
namespace Go.Proofs.YtijnglngaogdjaaGreatDoor.PI
open Go Go.RowKit
variable {v vi:Value}{cap h key l len n off sz tot:Nat}{d p:D}{elem t:TypeId}{sl:Bool}{vhi vlo:Option Value}{hi lo:Option D}{els:List D}
section
variable {P:Program} {base:Nat} {w:World} {g:Ghost} {st:St}
theorem lW{i o:Nat}(hl:Fo st key tot=t_)(M:RepV w g st (.rptr key tot i o) v) :
  ∃ E,st[key]?=s_ E∧E.row=t_∧tot=E.els.length∧v=.pointer (s_ ⟨g.β key,i*E.sz+o,none⟩):=by
 cases M with
 |rptr _ _ _ _ E _ h0 N h2 h3 h4=>
  have:tot=E.els.length:=by
   simp only[Fo,N,Ad,beq_iff_eq]at hl;omega
  grind
theorem Vr(hl:Fo st key tot=t_)(M:RepV w g st (.row key tot off len) v) :
  ∃ E,st[key]?=s_ E∧E.row=t_∧tot=E.els.length∧v=.slice (s_ ⟨g.β key,off*E.sz,none⟩) len (g.γ key - off)∧off+len≤tot:=by
 cases M with
 |row _ _ _ _ E _ h0 N h2 h3 h4=>
  have:tot=E.els.length:=by
   simp only[Fo,N,Ad,beq_iff_eq]at hl;omega
  grind
theorem Ybi(h:FE st off p=s_ d)(E:RepV w g st p v):∃ b o,v=.pointer (s_ ⟨b,o,none⟩)∧RepV w g st d (.pointer (s_ ⟨b,o+off,none⟩)):=by
 unfold FE at h
 split at h
 ·simp at h; subst h
  cases E with
  |ptr key o' o ho M N=>exact⟨_,_,rfl,.ptr _ _ o ho M N⟩
 ·split at h
  ·rename_i key tot i o hl;simp at h; subst h;obtain⟨ob,h1,h2,h3,rfl⟩:=lW hl E;refine⟨_,_,rfl,.rptr _ _ _ _ ob _ rfl h1 h2 (by omega) fun _=>?_⟩;grind
  ·cases h
 ·simp at h; subst h
  cases E with
  |eptr el ae b o val h0 h1 h2=>exact⟨_,_,rfl,by rw[Nat.add_assoc]; exact .eptr _ _ b o val h0 h1 h2⟩
 ·cases h
theorem yZl{s:TypeId}{E:Array Field}{f:Nat}{M:Field}(N:P.underlying s=s_ (.struct E))(hf:E[f]?=s_ M)(hn:EL P M.type=s_ n)(h0:n≠0)
  (h:FE st M.offset p=s_ d) (hr:RepV w g st p v):∃ u,(Instr.fieldAt s v f).run P w=.ok u w∧RepV w g st d u:=by obtain⟨b,o,rfl,h1⟩:=Ybi h hr;refine⟨_,?_,h1⟩;simp[Instr.fieldAt,run_underlying N,hf,Instr.sureAddr,fieldPlace,Mp hn,h0,LN]
theorem yJj{i:D}(E:P.underlying t=s_ (.array len elem))(hn:EL P elem=s_ n)
  (h:Jg st len n p i=s_ d) (M:RepV w g st p v) (hi:RepV w g st i vi):∃ u,(Instr.indexAt t v vi).run P w=.ok u w∧RepV w g st d u:=by
 unfold Jg at h
 cases hj:Gk i with
 |none=>simp[hj]at h
 |some j=>
  simp only[hj,As]at h;obtain⟨aa,h⟩:=h;obtain⟨k,rfl⟩:=Rh hj hi;obtain⟨b,o,rfl,N⟩:=Ybi h M;refine⟨_,?_,N⟩;simp only[Instr.indexAt,Sem.run_bind,asIntOf,Sem.run_pure,run_underlying E,Result.andThen_ok,Instr.sureAddr];have:(0:Int)≤(j:Int)∧(j:Int)<(len:Int):=by omega
  simp[this,Mp hn,LN]
theorem yLk{x i:D}(ht:P.underlying t=s_ (.slice elem))(hn:EL P elem=s_ n)
  (h:GK st n x i=s_ d) (hr:RepV w g st x v) (hi:RepV w g st i vi):∃ u,(Instr.indexAt t v vi).run P w=.ok u w∧RepV w g st d u:=by
 unfold GK at h
 cases hj:Gk i with
 |none=>simp[hj]at h
 |some j=>
  simp only[hj]at h;obtain⟨k,rfl⟩:=Rh hj hi
  have go:∀ b o len cap,v=.slice (s_ ⟨b,o,none⟩) len cap→j<len→(Instr.indexAt t v (.int k (j:Int))).run P w=.ok (.pointer (s_ ⟨b,o+j*n,none⟩)) w:=by
   intro b o len cap hv N;subst hv;simp only[Instr.indexAt,Sem.run_bind,asIntOf,Sem.run_pure,run_underlying ht,Result.andThen_ok];have:(0:Int)≤(j:Int)∧(j:Int)<(len:Int):=by omega
   simp[this,Mp hn,LN]
  split at h
  ·rename_i sz els tg
   split at h
   ·rename_i el E;simp only[beq_iff_eq,As,Dp]at h;obtain⟨rfl,rfl⟩:=h
    cases hr with
    |slcE=>simp at E
    |slc _ _ b off cap _ val h1 h2 h3 a0 h4 h5 h6 h7=>
     refine⟨_,go _ _ _ _ rfl (Ab.1 E).1,?_⟩;have:=RepV.eptr (w:=w) (g:=g) (st:=st) el 0 b (off+j*sz) (val j) (fun q d hd=>a0 j q d (Ig E hd)) (fun q d hd=>h6 j q d (Ig E hd)) (fun q d hd=>h7 j q d (Ig E hd));omega
   ·cases h
  ·rename_i key tot off len
   split at h
   ·rename_i o ho
    split at h
    ·rename_i hc;simp only[Ad,beq_iff_eq,decide_eq_true_eq]at hc;simp only[Dp]at h;subst h;obtain⟨⟨⟨M,a7⟩,ad⟩,N⟩:=hc;obtain⟨ob,h1,h2,h3,rfl,h5⟩:=Vr (by simp[Fo,ho,M,ad]) hr;obtain rfl:ob=o:=AE (h1.symm.trans ho);refine⟨_,go _ _ _ _ rfl N,.rptr _ _ _ _ ob _ rfl ho h2 (by omega) fun _=>?_⟩;grind
    ·cases h
   ·cases h
  ·rename_i key off m a8 ag;simp only[As,Dp]at h;obtain⟨⟨N,rfl⟩,rfl⟩:=h
   cases hr with
   |bsl _ _ _ _ _ o cap ho M ae _=>exact⟨_,go _ _ _ _ rfl N,.ptr _ _ o ho M ae⟩
  ·cases h
theorem Uc{i:D}{y:Nat}{code:BoundsCode}(h:Gk i=s_ n)(hi:RepV w g st i vi)(E:n≤y):(Instr.sliceBound vi y code).run P w=.ok n w:=by
 obtain⟨k,rfl⟩:=Rh h hi;have:(0:Int)≤(n:Int)∧(n:Int)≤(y:Int):=by omega
 simp[Instr.sliceBound,asIntOf,this]
theorem Zh(hl:GR lo 0=s_ l)(E:GR hi len=s_ h)
  (aa:∀ d v,lo=s_ d→vlo=s_ v→RepV w g st d v) (ab:∀ d v,hi=s_ d→vhi=s_ v→RepV w g st d v) (ac:lo.isSome=vlo.isSome) (ad:hi.isSome=vhi.isSome)
  (ae:l≤h) (M:h≤cap):(Instr.sliceBounds sl len cap vlo vhi none).run P w=.ok (l,h,cap) w:=by
 have e2:∀ v d,vlo=s_ v→lo=s_ d→(Instr.sliceBound v h .sliceB).run P w=.ok l w:=by
  intro v d hv N;subst N;simp only[GR]at hl;exact Uc hl (aa d v rfl hv) ae
 have e1:∀ v d code,vhi=s_ v→hi=s_ d→(Instr.sliceBound v cap code).run P w=.ok h w:=by
  intro v d code hv N;subst N;simp only[GR]at E;exact Uc E (ab d v rfl hv) M
 cases hi <;> cases vhi <;> simp only[B6,B7,reduceCtorEq]at ad <;> cases lo <;> cases vlo <;> simp only[B6,B7,reduceCtorEq]at ac <;>
  simp only[GR,Dp]at hl E
 ·subst hl; subst E; simp[Instr.sliceBounds]
 ·subst E; simp[Instr.sliceBounds,e2 _ _ rfl rfl]
 ·subst hl; simp[Instr.sliceBounds,e1 _ _ _ rfl rfl]
 ·simp[Instr.sliceBounds,e1 _ _ _ rfl rfl,e2 _ _ rfl rfl]
theorem Yad{N dm:D}{E vm:Value}(hl:GR lo 0=s_ l)(hh:Gk N=s_ h)(hm:Gk dm=s_ h)
  (ab:∀ d v,lo=s_ d→vlo=s_ v→RepV w g st d v) (ac:RepV w g st N E) (ad:RepV w g st dm vm) (ae:lo.isSome=vlo.isSome)
  (af:l≤h) (M:h≤cap):(Instr.sliceBounds sl len cap vlo (s_ E) (s_ vm)).run P w=.ok (l,h,h) w:=by
 have e2:∀ v d,vlo=s_ v→lo=s_ d→(Instr.sliceBound v h .slice3C).run P w=.ok l w:=by
  intro v d hv hd;subst hd;simp only[GR]at hl;exact Uc hl (ab d v rfl hv) af
 have e3:∀ code,(Instr.sliceBound vm cap code).run P w=.ok h w:=fun code=>Uc hm ad M;have e4:∀ code,(Instr.sliceBound E h code).run P w=.ok h w:=fun code=>Uc hh ac (AF _);cases lo <;> cases vlo <;> simp only[B6,B7,reduceCtorEq]at ae <;> simp only[GR,Dp]at hl
 ·subst hl; simp[Instr.sliceBounds,e3,e4]
 ·simp[Instr.sliceBounds,e3,e4,e2 _ _ rfl rfl]
theorem nN{i j:Nat}(E:Gl ((els.take h).drop l) i j=s_ d):Gl els (l+i) j=s_ d∧l+i<h:=by
 obtain⟨e,he,E⟩:=IF E;rw[B4,BS]at he
 split at he
 ·rename_i hi; exact⟨Ig he E,hi⟩
 ·cases he
theorem YBf{tg tg':Bool}{a:Option Addr}{m:Nat}(hr:RepV w g st (.slc sz els tg) (.slice a els.length cap))(ah:l≤h)(hh:h≤els.length)(hm:h≤m)(ht:tg'=t_→m=h) :
  RepV w g st (.slc sz ((els.take h).drop l) tg') (.slice (if m=l then a else a.map (·.add (l*sz))) (h - l) (m - l)):=by
 have hlen:((els.take h).drop l).length=h - l:=by rw[AW,AA]; omega
 rw[← hlen]
 by_cases M:(els.take h).drop l=[]
 ·rw[M];refine .slcE _ _ _ _ fun e=>?_;grind
 ·have a0:l<h:=by
   grind
  rw[YYN]
  cases hr with
  |slcE=>simp at M
  |slc _ _ b off cap _ val h1 h2 h3 N h4 h5 h6 h7=>
   simp only[Ae,LN];refine .slc _ _ _ _ _ _ (fun i j=>val (l+i) j) M h2 ?_ ?_ (by omega) (fun e=>by have:=ht e; omega) ?_ ?_
   ·grind
   ·intro i j d E; exact N _ _ _ (nN E).1
   ·intro i j d E;have:=h6 _ _ _ (nN E).1;grind
   ·intro i j d E; exact h7 _ _ _ (nN E).1
theorem jv{x:Option Operand}{E:Option PA}{ρ:PA→D}{M:Operand→Value}(h:TJ x=s_ E)(N:lo=E.map ρ)(aa:∀ x E,Ee x=s_ E→RepV w g st (ρ E) (M x)) :
  (∀ d v,lo=s_ d→x.map M=s_ v→RepV w g st d v)∧lo.isSome=(x.map M).isSome:=by
 cases x with
 |none=>simp[TJ]at h; subst h; subst N; simp
 |some x=>
  simp only[TJ,D0]at h;grind
theorem xp(hS:SR base w g st){x:D}{mx:Option D}{ab:Option Value}
  (ht:(sz=0∧P.underlying t=s_ .string)∨(sz≠0∧∃ e,P.underlying t=s_ (.slice e)∧EL P e=s_ sz))
  (h:G5 st sz x lo hi mx=s_ d) (hr:RepV w g st x v)
  (N:(∀ d v,lo=s_ d→vlo=s_ v→RepV w g st d v)∧lo.isSome=vlo.isSome) (aa:(∀ d v,hi=s_ d→vhi=s_ v→RepV w g st d v)∧hi.isSome=vhi.isSome)
  (a6:(∀ d v,mx=s_ d→ab=s_ v→RepV w g st d v)∧mx.isSome=ab.isSome) :
  ∃ u,(Instr.sliceAt t v vlo vhi ab).run P w=.ok u w∧RepV w g st d u:=by
 unfold G5 at h
 split at h
 ·rename_i s;obtain rfl:=MY hr
  split at h
  ·rename_i l h' hl hh;simp only[As,Dp]at h;obtain⟨⟨h0,E,M⟩,rfl⟩:=h
   have hu:P.underlying t=s_ .string:=by
    grind
   have hm:ab=none:=by
    simp_all
   subst hm;have hb:=Zh (P:=P) (w:=w) (g:=g) (st:=st) (sl:=f_) hl hh N.1 aa.1 N.2 aa.2 E M;refine⟨.string ((ByteArray.mk s.toArray).extract l h'),?_,kz _ _ ?_⟩
   ·simp only[Instr.sliceAt,Sem.run_bind,run_underlying hu,Result.andThen_ok,Instr.slice,B6,Ao,if_false];have e:Da ⟨s.toArray⟩=s.length:=by simp[Da]
    simp_all
   ·rw[Lib.extract_data];simp[List.drop_take]
  ·cases h
 ·rename_i bb els tg
  split at h
  case isFalse=>cases h
  rename_i ah;simp only[Ad,bne_iff_ne,ne_eq]at ah;obtain⟨ah,hs0⟩:=ah;obtain⟨_,e,hu,hn⟩:=ht.resolve_left (fun h=>hs0 h.1)
  have hv:∃ a cap,v=.slice a els.length cap:=by
   cases hr with
   |slcE _ _ a cap h=>exact⟨a,cap,rfl⟩
   |slc _ _ b off cap _ val E=>exact⟨_,cap,rfl⟩
  obtain⟨a,cap,rfl⟩:=hv
  have ad:els.length≤cap:=by
   cases hr with
   |slcE _ _ a cap h=>simp
   |slc _ _ b off cap _ val E M h3 b3 h4=>exact h4
  split at h
  ·rename_i l h' hl hh
   have final:∀ (tg':Bool) (m:Nat),l≤h'→h'≤els.length→h'≤m→(tg'=t_→m=h')→RepV w g st (.slc bb ((els.take h').drop l) tg') (.slice (if m=l then a else a.map (·.add (l*sz))) (h' - l) (m - l)):=by
    intro tg' m E M h3 h4;have:=YBf (tg':=tg') hr E M h3 h4;grind
   split at h
   ·simp only[As,Dp]at h;obtain⟨⟨E,M⟩,rfl⟩:=h
    have hm:ab=none:=by
     simp_all
    subst hm;have hb:=Zh (P:=P) (w:=w) (g:=g) (st:=st) (sl:=t_) hl hh N.1 aa.1 N.2 aa.2 E (AZ M ad);refine⟨_,?_,final _ cap E M (AZ M ad) ?_⟩
    ·simp only[Instr.sliceAt,Sem.run_bind,run_underlying hu,Result.andThen_ok,Instr.slice,hb,Mp hn];rfl
    ·intro e;simp only[Ad,beq_iff_eq]at e
     cases hr with
     |slcE _ _ a cap h5=>have:=h5 e.1; simp at M; omega
     |slc _ _ b off cap _ val _ _ _ _ _ h5=>have:=h5 e.1; omega
   ·rename_i m;simp only[As,Dp]at h;obtain⟨⟨E,M,h3,h4⟩,rfl⟩:=h
    cases ab with
    |none=>simp at a6
    |some vm=>
     cases hi with
     |none=>simp at h4
     |some dh=>
      cases vhi with
      |none=>simp at aa
      |some vh=>
       simp only[GR]at hh;have hb:=Yad (P:=P) (len:=els.length) (sl:=t_) hl hh h3 N.1 (aa.1 dh vh rfl rfl) (a6.1 m vm rfl rfl) N.2 E (AZ M ad);refine⟨_,?_,final t_ h' E M (AF _) (fun _=>rfl)⟩;simp only[Instr.sliceAt,Sem.run_bind,run_underlying hu,Result.andThen_ok,Instr.slice,hb,Mp hn];rfl
  ·cases h
 ·rename_i key tot off len
  split at h
  ·rename_i o ho
   split at h
   ·rename_i hc;simp only[Ad,beq_iff_eq,bne_iff_ne,ne_eq]at hc;obtain⟨⟨⟨ae,ah⟩,a8⟩,hs0⟩:=hc;obtain⟨_,e,hu,hn⟩:=ht.resolve_left (fun h=>hs0 h.1);obtain⟨ob,E,M,h3,rfl,h5⟩:=Vr (by simp[Fo,ho,ae,a8]) hr;obtain rfl:ob=o:=AE (E.symm.trans ho);obtain⟨C,e',b4,_,bh,hx,hC,b1⟩:=hS.blk key ob ho (ND ae);rw[ae]at hC;simp only[if_true]at hC
    split at h
    ·rename_i l h' hl hh
     have hm:ab=none:=by
      simp_all
     subst hm
     split at h
     ·rename_i bd;have hb:=Zh (P:=P) (w:=w) (g:=g) (st:=st) (sl:=t_) (cap:=g.γ key - off) hl hh N.1 aa.1 N.2 aa.2 bd.1 (by omega)
      have a9:(Instr.sliceAt t (.slice (s_ ⟨g.β key,off*ob.sz,none⟩) len (g.γ key - off)) vlo vhi none).run P w=.ok (.slice (if g.γ key - off=l then s_ ⟨g.β key,off*ob.sz,none⟩else s_ ⟨g.β key,off*ob.sz+l*sz,none⟩) (h' - l) (g.γ key - off - l)) w:=by
       simp only[Instr.sliceAt,Sem.run_bind,run_underlying hu,Result.andThen_ok,Instr.slice,hb,Mp hn,Ae,LN];rfl
      refine⟨_,a9,?_⟩
      split at h
      ·grind
      ·split at h
       ·simp only[Dp]at h;subst h;rename_i h7;rw[h7,BF];exact .slcE _ _ _ _ fun e=>by cases e
       ·simp only[Dp]at h;subst h;rw[YYN];refine .row _ _ _ _ ob _ rfl ho ae (by omega) fun _=>⟨?_,by omega⟩;grind
     ·cases h
    ·cases h
   ·cases h
  ·cases h
 ·cases h
end
end Go.Proofs.YtijnglngaogdjaaGreatDoor.PI
namespace Go.Proofs.YtijnglngaogdjaaGreatDoor.PI
open Go Go.RowKit
variable {v vi:Value}{d x:D}{ag:Bool}{n sz:Nat}{elem t xt:TypeId}
section
variable {P:Program} {base:Nat} {w:World} {g:Ghost} {st:St}
theorem yX9{lo hi:Option D}{vlo vhi:Option Value}(ht:P.underlying t=s_ (.array n elem))(hn:EL P elem=s_ sz)
  (h:P3 n sz ag x lo hi=s_ d) (hr:RepV w g st x v)
  (N:(∀ d v,lo=s_ d→vlo=s_ v→RepV w g st d v)∧lo.isSome=vlo.isSome) (aa:(∀ d v,hi=s_ d→vhi=s_ v→RepV w g st d v)∧hi.isSome=vhi.isSome) :
  ∃ u,(Instr.sliceAt t v vlo vhi none).run P w=.ok u w∧RepV w g st d u:=by
 unfold P3 at h
 split at h
 ·rename_i l E hl hh
  split at h
  ·rename_i hle;have hb:=Zh (P:=P) (w:=w) (g:=g) (st:=st) (sl:=f_) (cap:=n) hl hh N.1 aa.1 N.2 aa.2 hle.1 hle.2
   have M:∀ a:Addr,(Instr.sliceAt t (.pointer (s_ a)) vlo vhi none).run P w=.ok (.slice (s_ (if n=l then a else a.add (l*sz))) (E - l) (n - l)) w:=by
    intro a;simp only[Instr.sliceAt,Sem.run_bind,run_underlying ht,Result.andThen_ok,Instr.sureAddr,Sem.run_pure,hb,Mp hn]
   split at h
   ·cases hr with
    |ptr key off o ho ab ac=>
     refine⟨_,M _,?_⟩
     split at h
     ·rename_i e;simp only[Dp]at h; subst h;rw[e,BF];exact .slcE _ _ _ _ fun e=>by cases e
     ·simp only[Dp]at h; subst h;rw[YYN,LN]; exact .bsl _ _ _ _ _ o _ ho ab ac (by omega)
   ·rename_i el off
    cases hr with
    |eptr _ _ b o val hp h4 h5=>
     refine⟨_,M _,?_⟩
     split at h
     ·rename_i e;simp only[Dp]at h; subst h;rw[e,BF];exact .slcE _ _ _ _ fun e=>by cases e
     ·rw[YYN];simp only[As,Dp,Ad,decide_eq_true_eq,Bh,beq_iff_eq]at h;obtain⟨⟨⟨h1,h2⟩,h3⟩,rfl⟩:=h
      have hm:(E - l)*sz≤(el.cells.drop (off+l*sz)).length:=by
       rw[AW];have:E*sz≤n*sz:=AT _ hle.2;have e1:(E - l)*sz=E*sz - l*sz:=Nat.sub_mul _ _ _;omega
      obtain⟨c1,c2,c3⟩:=nO h2 h3 (E - l) (el.cells.drop (off+l*sz)) hm (fun x hx=>by
       obtain⟨i,hi⟩:=A4.1 (Ct hx);exact Zd (hp i x hi))
      rw[LN]
      have goal:=RepV.slc_mk (w:=w) (g:=g) (st:=st) (els:=J1 sz ag (el.cells.drop (off+l*sz)) (E - l)) (t:=E == n) (b:=b) (off:=o+off+l*sz) (cap:=n - l) h2 c2 (by rw[c1]; omega) (fun e=>by rw[c1]; simp at e; omega) (by
       grind)
      grind
   ·cases h
  ·cases h
 ·cases h
theorem Ybj{off:Nat}{ds:List D}{vs:List Value}(E:ES P t=s_ ag)(hn:EL P t=s_ n)(M:ag=t_∨n=1)(hl:ds.length=vs.length)(ab:off+n≤ds.length)
  (h:∀ (i:Nat) d v,ds[i]?=s_ d→vs[i]?=s_ v→RepV w g st d v):∃ u,(part t vs.toArray off).run P w=.ok u w∧RepV w g st (.mk ag ((ds.drop off).take n)) u:=by
 cases ag with
 |true=>
  refine⟨.agg ((vs.drop off).take n).toArray,?_,?_⟩
  ·have:vs.toArray.extract off (off+n)=((vs.drop off).take n).toArray:=by
    grind
   simp only[part,Sem.run_bind,SC E,Result.andThen_ok,if_true,Mp hn,this,Sem.run_pure]
  ·refine .agg _ _ (by simp[hl]) ?_;grind
 |false=>
  obtain rfl:n=1:=M.resolve_left (by simp);have N:off<ds.length:=by omega
  have h2:off<vs.length:=by omega
  refine⟨vs[off],?_,?_⟩
  ·simp[part,SC E,h2]
  ·have e:D.mk f_ ((ds.drop off).take 1)=ds[off]:=by
    simp[D.mk,List.take_one,List.head?_drop,N]
   rw[e];exact h off _ _ (Aj N) (Aj h2)
theorem Ykp{E:Array Field}{f:Nat}{M:Field}(N:P.underlying xt=s_ (.struct E))(hf:E[f]?=s_ M)(ha:ES P M.type=s_ ag)(hn:EL P M.type=s_ n)
  (h:NQ M.offset n ag x=s_ d) (hr:RepV w g st x v):∃ u,(Instr.field xt v f).run P w=.ok u w∧RepV w g st d u:=by
 unfold NQ at h
 split at h
 ·simp only[As,Dp,Ad,decide_eq_true_eq,Bh,beq_iff_eq]at h;obtain⟨⟨h1,h2⟩,rfl⟩:=h
  cases hr with
  |agg ds vs h3 h4=>
   obtain⟨u,h5,h6⟩:=Ybj (P:=P) (w:=w) (g:=g) (st:=st) ha hn h2 h3 h1 h4;exact⟨u,by simp[Instr.field,run_underlying N,hf,asAgg,h5],h6⟩
 ·cases h
theorem Ykh{len:Nat}{i:D}(E:P.underlying xt=s_ (.array len elem))(M:ES P elem=s_ ag)(hn:EL P elem=s_ n)
  (h:Qw len n ag x i=s_ d) (N:RepV w g st x v) (hi:RepV w g st i vi):∃ u,(Instr.index xt v vi).run P w=.ok u w∧RepV w g st d u:=by
 unfold Qw at h
 split at h
 ·rename_i j hj;simp only[As]at h;obtain⟨ah,h⟩:=h;obtain⟨k,rfl⟩:=Rh hj hi;unfold NQ at h
  split at h
  ·simp only[As,Dp,Ad,decide_eq_true_eq,Bh,beq_iff_eq]at h;obtain⟨⟨h1,h2⟩,rfl⟩:=h
   cases N with
   |agg ds vs h3 h4=>
    obtain⟨u,h5,h6⟩:=Ybj (P:=P) (w:=w) (g:=g) (st:=st) M hn h2 h3 h1 h4;refine⟨u,?_,h6⟩;have:(0:Int)≤(j:Int)∧(j:Int)<(len:Int):=by omega
    simp[Instr.index,asIntOf,run_underlying E,this,Mp hn,h5];intro; omega
  ·cases h
 ·cases h
theorem Yty{i:D}(E:P.underlying xt=s_ .string)(h:KZ x i=s_ d)(M:RepV w g st x v)(hi:RepV w g st i vi):∃ u,(Instr.index xt v vi).run P w=.ok u w∧RepV w g st d u:=by
 unfold KZ at h
 split at h
 ·rename_i s j hj
  split at h
  ·rename_i b hb;simp only[Dp]at h; subst h;obtain⟨k,rfl⟩:=Rh hj hi;obtain rfl:=MY M;refine⟨.int .u8 b.toNat,?_,.int _ _⟩;have N:j<s.length:=(Ab.1 hb).1
   have h2:(ByteArray.mk s.toArray)[j]?=s_ b:=by
    have:j<(ByteArray.mk s.toArray).size:=by simpa[Da]using N
    rw[getElem?_pos (ByteArray.mk s.toArray) j this];have e:=Ab.1 hb;obtain⟨_,e⟩:=e;rw[← e];rfl
   simp[Instr.index,asIntOf,run_underlying E,h2]
  ·cases h
 ·cases h
theorem Ya0(ht:P.underlying t=s_ .string∨∃ e,P.underlying t=s_ (.slice e))(M:P.underlying t=s_ .string↔∃ s,x=.str s)(h:E7 st x=s_ n)(E:RepV w g st x v)(ty:TypeId) :
  (Builtin.len_ #[t] ty #[v]).run P w=.ok (.int .i64 (n:Int)) w:=by
 have sl:∀ a l c,v=.slice a l c→(∀ s,x≠.str s)→(Builtin.len_ #[t] ty #[v]).run P w=.ok (.int .i64 (l:Int)) w:=by
  intro a l c hv ac;subst hv
  have N:¬ P.underlying t=s_ .string:=by
   grind
  obtain⟨e,he⟩:=ht.resolve_left N;simp[Builtin.len_,run_underlying he,goInt]
 unfold E7 at h
 split at h
 ·simp only[Dp]at h; subst h;obtain⟨⟨a,cap,hv,_⟩,_,_⟩:=Vg E;grind
 ·split at h
  ·simp only[Dp]at h; subst h;rename_i hl;obtain⟨_,_,_,_,hv,_⟩:=Vr hl E;grind
  ·cases h
 ·simp only[Dp]at h; subst h
  cases E with
  |bsl=>exact sl _ _ _ rfl (by intro s hs; cases hs)
 ·simp only[Dp]at h; subst h;obtain rfl:=MY E;have hu:=M.2 ⟨_,rfl⟩;rename_i s;have e:Da ⟨s.toArray⟩=s.length:=by simp[Da]
  simp[Builtin.len_,run_underlying hu,goInt,e]
 ·cases h
theorem Yhj{b:UInt8}(h:UD d=s_ b)(E:RepV w g st d v):v=.int .u8 (b.toNat:Int):=by
 unfold UD at h
 split at h
 ·simp only[As,Dp]at h;obtain⟨⟨M,N⟩,rfl⟩:=h;obtain rfl:=Jt E
  congr 1
  rw[BT];omega
 ·cases h
theorem xJ:∀ {ds:List D} {bs:List UInt8},RN ds=s_ bs→bs.length=ds.length∧∀ (i:Nat) b,bs[i]?=s_ b→∃ d,ds[i]?=s_ d∧UD d=s_ b
 |[],bs,h=>by simp[RN]at h; subst h; exact⟨rfl,fun i b h=>by simp at h⟩
 |d::l,bs,h=>by
  unfold RN at h
  split at h
  ·rename_i x y M E;simp only[Dp]at h; subst h;obtain⟨N,h2⟩:=xJ E;grind
  ·cases h
theorem xP{E dst e:TypeId}{els:List D}{N:List UInt8}(hs:P.underlying E=s_ (.slice e))(he:P.underlying e=s_ (.int .u8))(hd:P.underlying dst=s_ .string)
  (hE:Els w g st v sz els) (ad:sz=1∨els=[]) (hb:RN els=s_ N):(convert E dst v).run P w=.ok (.string ⟨N.toArray⟩) w:=by
 obtain⟨⟨a,cap,rfl,ae⟩,a1,hlen⟩:=hE;obtain⟨h1,h2⟩:=xJ hb
 by_cases hn:els=[]
 ·subst hn;have:N=[]:=AQ h1;subst this;rw[run_convert_bytes_string w E dst e a _ cap hs he hd]
  cases a with
  |none=>simp[Conv.bytesToString]; rfl
  |some a=>simp[Conv.bytesToString,loadCells,loadCellsFrom]; rfl
 ·obtain⟨b,off,rfl,h0,hc⟩:=ae hn;obtain rfl:sz=1:=ad.resolve_right hn;rw[← h1];refine run_convert_bytes_back w E dst e ⟨b,off,none⟩ cap N hs he hd ?_;intro j hj;obtain⟨d,ah,M⟩:=h2 j N[j] (Aj hj)
  have a0:d.cells=[d]:=by
   unfold UD at M
   split at M
   ·rfl
   ·cases M
  obtain⟨u,h3,h4,_⟩:=hc j 0 d (Ig ah (by rw[a0]; rfl));rw[LN];rw[Yhj M h4]at h3;grind
end
end Go.Proofs.YtijnglngaogdjaaGreatDoor.PI
namespace Go.Proofs.YtijnglngaogdjaaGreatDoor.PI
open Go Go.RowKit
variable {d:D}{v vx:Value}{t:TypeId}{off:Nat}{l xs:List D}{C:Array Value}
section
variable {P:Program} {base:Nat} {w:World} {g:Ghost} {st:St}
theorem Rw(h:d.isCell=t_):d.cells=[d]:=by cases d <;> simp_all [D.isCell,D.cells]
theorem Yoi(h:v.oneCell'=t_):v.cells=#[v]:=by cases v <;> simp_all [Value.oneCell',Value.cells]
theorem Re(hc:d.cells.all D.isCell=t_)(hr:RepV w g st d v) :
  v.cells.size=d.cells.length∧(∀ (j:Nat) x,d.cells[j]?=s_ x→∃ u,v.cells[j]?=s_ u∧RepV w g st x u)∧v.cells.toList.all (·.oneCell')=t_:=by
 have single:d.cells=[d]→d.isCell=t_→v.cells.size=d.cells.length∧(∀ (j:Nat) x,d.cells[j]?=s_ x→∃ u,v.cells[j]?=s_ u∧RepV w g st x u)∧v.cells.toList.all (·.oneCell')=t_:=by
  intro E M;have h3:=Yoi (hr.oneCell M);rw[E,h3];refine⟨rfl,fun j x N=>?_,by simpa using hr.oneCell M⟩;grind
 cases d with
 |agg l=>
  cases hr with
  |agg _ vs E M=>
   simp only[D.cells]at hc;refine⟨by simp[Value.cells,D.cells,E],fun j x N=>?_,?_⟩
   ·simp only[D.cells]at N;have hj:j<vs.length:=by rw[← E]; exact(Ab.1 N).1
    exact⟨vs[j],by simp[Value.cells,hj],M j x _ N (Aj hj)⟩
   ·simp only[Value.cells,Ah];intro u hu;obtain⟨j,hj⟩:=A4.1 hu;have aa:j<l.length:=by rw[E]; exact(Ab.1 hj).1
    exact(M j _ u (Aj aa) hj).oneCell (Ah.1 hc _ (Bv aa))
 |tup l=>simp[D.cells,D.isCell]at hc
 |junk=>simp[D.cells,D.isCell]at hc
 |_=>exact single rfl rfl
theorem yVy(w:World)(o:Go.Obj):Beside w {w with heap:=w.heap.push o}:=⟨rfl,rfl,rfl,by simp⟩
theorem Q8(w:World)(o:Go.Obj)(b:Nat)(h:b<w.heap.size):(w.heap.push o)[b]?=w.heap[b]?:=by grind
theorem Yq1(hS:SR base w g st)(hc:d.cells.all D.isCell=t_)(hr:RepV w g st d v) :
  RunsTo P base w g st (do pure (.pointer (s_ (← newVar t v)))) (.ptr st.length 0) (st++[{row:=f_,sz:=1,els:=d.cells,lent:=f_}]):=by
 obtain⟨h1,h2,_⟩:=Re hc hr;have E:∀ x∈d.cells,x.cells=[x]:=fun x M=>Rw (Ah.1 hc x M)
 have N:=SR.push (o:={row:=f_,sz:=1,els:=d.cells,lent:=f_}) (c:=0) (C:=v.cells) (e:=t) (w':={w with heap:=w.heap.push (.cells v.cells t)}) hS
  (yVy w _) (fun b hb=>Q8 w _ b hb) (by simp) rfl Nat.one_pos (fun x M=>by rw[E x M]; rfl) (by simp[h1]; exact E) (by
   intro i j x M;obtain⟨e,he,hd⟩:=IF M;grind)
 refine⟨.pointer (s_ ⟨w.heap.size,0,none⟩),_,_,?_,N,?_⟩
 ·rfl
 ·have:=RepV.ptr (w:={w with heap:=w.heap.push (.cells v.cells t)}) (g:={g with β:=Gc g.β st.length w.heap.size,γ:=Gc g.γ st.length 0}) (st:=st++[{row:=f_,sz:=1,els:=d.cells,lent:=f_}]) st.length 0 {row:=f_,sz:=1,els:=d.cells,lent:=f_} (by simp) rfl rfl;simpa[IE]using this
theorem UC(h:off+xs.length≤l.length):(F7 l off xs).length=l.length:=by simp only[F7,Ac,AA,AW]; omega
theorem Rr{j:Nat}(h:off+xs.length≤l.length):(F7 l off xs)[j]?=if off≤j∧j<off+xs.length then xs[j - off]? else l[j]?:=by
 unfold F7
 by_cases E:j<off
 ·grind
 ·grind
theorem Uy{vs:List Value}{j:Nat}(h:off+vs.length≤C.size) :
  ((C.toList.take off++vs++C.toList.drop (off+vs.length)).toArray)[j]?=if off≤j∧j<off+vs.length then vs[j - off]? else C[j]?:=by grind
theorem UB(w:World)(b:Nat)(C:Array Value):Beside w (w.setRow b C):=⟨rfl,rfl,rfl,by simp[World.setRow]⟩
theorem ya(ae:SR base w g st){n b:Nat}{e:TypeId}{x:D}(hn:EL P t=s_ n)(hb:w.heap[b]?=s_ (.cells C e (0,0)))(E:off+n≤C.size)
  (M:x.cells.length=n) (hc:x.cells.all D.isCell=t_) (hr:RepV w g st x vx) :
  (Instr.storeAt t (.pointer (s_ ⟨b,off,none⟩)) vx).run P w=.ok () (w.setRow b ((C.toList.take off++vx.cells.toList++C.toList.drop (off+vx.cells.toList.length)).toArray)):=by
 obtain⟨N,_,h3⟩:=Re hc hr;have h4:vx.cells.toList.length=n:=by rw[Cy,N,M]
 have h:=run_storeCells_at P b off e vx.cells.toList 0 C w hb (by simpa[h4]using E) (Ah.1 h3);simp only[B3]at h;have h5:vx.cells.size=n:=by rw[N,M]
 simp only[Instr.storeAt,Sem.run_bind,Instr.sureAddr,Sem.run_pure,Result.andThen_ok,storeVar,Mp hn,h5,ne_eq,not_true_eq_false,if_false,h]
theorem yXy{E M:D}{ys:List D}(h:Ys E off ys=s_ M)(hy:∀ z∈ys,z.cells=[z]):off+ys.length≤E.cells.length∧M.cells=F7 E.cells off ys:=by
 unfold Ys at h
 split at h
 ·simp only[As,Dp]at h;obtain⟨h1,rfl⟩:=h;exact⟨h1,rfl⟩
 ·rename_i N
  split at h
  ·simp only[Dp]at h; subst h;have:E.cells=[E]:=by cases E <;> first|rfl|exact absurd rfl (N _)
   rename_i z;rw[this];exact⟨by simp,by simp[F7,hy z (by simp)]⟩
  ·cases h
theorem Yj8(hS:SR base w g st){n:Nat}{p x:D}{vp:Value}{st':St}(hn:EL P t=s_ n)(h:Nb st n p x=s_ st')(bh:RepV w g st p vp)(a5:RepV w g st x vx) :
  ∃ w' g',(Instr.storeAt t vp vx).run P w=.ok () w'∧Go1 base w g st w' g' st':=by
 unfold Nb at h
 split at h
 ·rename_i key off
  cases bh with
  |ptr _ _ o ho E a6=>
   rw[ho]at h;simp only[E,Ax,Bb,As,Dp,Ad,AU,decide_eq_true_eq,beq_iff_eq]at h;obtain⟨⟨⟨⟨bd,hle⟩,hlen⟩,ab⟩,rfl⟩:=h;obtain⟨C,e,hb,be,b6,hx,hC,af⟩:=hS.blk key o ho (Qo a6);rw[E]at hC;simp only[Ao,if_false]at hC;obtain⟨b1,b2,cd⟩:=hC;obtain⟨h1,h2,h3⟩:=Re ab a5;have h4:vx.cells.toList.length=n:=by rw[Cy,h1,hlen]
   have a1:off+vx.cells.toList.length≤C.size:=by rw[h4,b1]; exact hle
   have ac:off+x.cells.length≤o.els.length:=by rw[hlen]; exact hle
   have b3:=UC ac
   have mem:∀ y∈F7 o.els off x.cells,y.cells=[y]:=by
    intro y hy;obtain⟨j,hj⟩:=A4.1 hy;rw[Rr ac]at hj
    split at hj
    ·exact Rw (Ah.1 ab y (An hj))
    ·grind
   have ce:off+n≤C.size:=by rw[b1]; exact hle
   refine⟨_,{g with β:=Gc g.β key (g.β key),γ:=Gc g.γ key (g.γ key)},ya hS hn hb ce hlen ab a5,?_⟩;have eo:(⟨f_,o.sz,F7 o.els off x.cells,o.lent⟩:Obj)={o with els:=F7 o.els off x.cells}:=by rw[← E]
   rw[eo]
   refine SR.update (o':={o with els:=F7 o.els off x.cells}) (c:=g.γ key) hS ho (Qo a6) hb (.inl ⟨rfl,rfl⟩) rfl rfl (by simp[b3]) rfl (fun y hy=>by rw[mem y hy,b2]; rfl) (UB w _ _)
    (fun b' _ cf=>setRow_other w _ _ _ (by omega)) (setRow_heap w _ C _ e _ hb) ?_ ?_ ?_
   ·intro _ y hy;have:=(hS.dis key o y ho hy).1;grind
   ·grind
   ·intro i j d hd;refine⟨fun h=>by simp[E]at h,?_⟩;obtain⟨y,hy,a2⟩:=IF hd;have h5:=mem y (An hy);rw[h5]at a2
    cases j with
    |succ j=>simp at a2
    |zero=>
     simp only[AG,Dp]at a2;subst a2;rw[b2,BO,B3,Uy a1];rw[Rr ac]at hy;rw[h4];rw[hlen]at hy
     split at hy
     ·grind
     ·rename_i hc;rw[if_neg hc];have h8:=cd y (An hy);obtain⟨_,u,h6,h7⟩:=af i 0 y (Ig hy (by rw[h8]; rfl));grind
 ·rename_i key tot i off
  split at h
  ·rename_i o y ho hy
   split at h
   case isFalse=>cases h
   rename_i a3;simp only[Ad,AU,beq_iff_eq,BQ]at a3;obtain⟨⟨⟨E,bd⟩,ca⟩,bg⟩:=a3
   split at h
   case h_2=>cases h
   rename_i el a8
   split at h
   case h_2=>cases h
   rename_i cg cb;simp only[As,Dp]at h;obtain⟨hlen,rfl⟩:=h;obtain⟨M,h1,h2,h3,rfl⟩:=lW (by simp[Fo,ho,E,ca]) bh;obtain rfl:M=o:=AE (h1.symm.trans ho);obtain⟨C,e,hb,be,b6,hx,hC,af⟩:=hS.blk key M ho (ND E);rw[E]at hC;simp only[if_true]at hC;obtain⟨a4,a9⟩:=Ymn hS hy a5 (by rw[bg]; intro k hk; cases hk)
   have b4:∀ z∈y.cells,z.pure1=t_:=by
    intro z N
    cases y with
    |agg l=>simp only[purA,Ah]at a9; exact a9 z N
    |_=>simp only[D.cells,AP]at N; subst N; exact a9
   have ab:y.cells.all D.isCell=t_:=Ah.2 fun z N=>Rq (b4 z N);obtain⟨c1,c2,c3⟩:=Re ab a4;have ch:i<M.els.length:=(Ab.1 a8).1;have c8:=hx el (An a8);obtain⟨ac,ba⟩:=yXy cb (fun z N=>Zd (b4 z N))
   have bb:i*M.sz+off+n≤C.size:=by
    rw[hC.1]
    calc i*M.sz+off+n≤i*M.sz+M.sz:=by omega
     _=(i+1)*M.sz:=by rw[A6,Bz]
     _≤g.γ key*M.sz:=AT _ (by omega)
   have h4:vx.cells.toList.length=n:=by rw[Cy,c1,hlen]
   have a1:i*M.sz+off+vx.cells.toList.length≤C.size:=by rw[h4]; exact bb
   have b3:=UC ac;refine⟨_,{g with β:=Gc g.β key (g.β key),γ:=Gc g.γ key (g.γ key)},ya hS hn hb bb hlen ab a4,?_⟩
   refine SR.update (o':={M with els:=M.els.set i cg}) (c:=g.γ key) hS ho (ND E) hb (.inl ⟨rfl,rfl⟩) rfl rfl (by simp) rfl ?_ (UB w _ _)
    (fun b' _ cf=>setRow_other w _ _ _ (by omega)) (setRow_heap w _ C _ e _ hb) ?_ ?_ ?_
   ·grind
   ·intro _ z N;have:=(hS.dis key M z ho N).1;grind
   ·grind
   ·intro i' j d hd;obtain⟨z,N,ah⟩:=IF hd;rw[Uy a1,h4]
    by_cases b5:i'=i
    ·subst b5;rw[BC ch]at N;simp only[Dp]at N; subst N;rw[ba,Rr ac,hlen]at ah
     split at ah
     ·grind
     ·rename_i hc;rw[YYN];exact af i' j d (Ig a8 ah)
    ·rw[AO (by omega)]at N;have hj:j<M.sz:=by rw[← hx z (An N)]; exact(Ab.1 ah).1
     rw[if_neg]
     ·exact af i' j d (Ig N ah)
     ·rintro⟨q1,q2⟩;rcases Nat.lt_or_gt_of_ne b5 with h6|h6
      ·have:(i'+1)*M.sz≤i*M.sz:=AT _ h6;grind
      ·have:(i+1)*M.sz≤i'*M.sz:=AT _ h6;grind
  ·cases h
 ·cases h
end
end Go.Proofs.YtijnglngaogdjaaGreatDoor.PI
namespace Go.Proofs.YtijnglngaogdjaaGreatDoor.PI
open Go Go.RowKit
variable {v:Value}{e:TypeId}{C:Array Value}
section
variable {P:Program} {base:Nat} {w:World} {g:Ghost} {st:St}
theorem uL(off:Nat):∀ (l:List Value) (k:Nat) (cs:Array Value),off+k+l.length≤cs.size→
  ((l.zipIdx k).foldl (fun cs x=>cs.setIfInBounds (off+x.2) x.1) cs).size=cs.size∧
  ∀ p,((l.zipIdx k).foldl (fun cs x=>cs.setIfInBounds (off+x.2) x.1) cs)[p]?=if off+k≤p∧p<off+k+l.length then l[p - (off+k)]? else cs[p]?
 |[],k,cs,_=>⟨rfl,fun p=>by simp; intro E M; omega⟩
 |v::l,k,cs,h=>by
  simp only[Ak]at h;obtain⟨E,M⟩:=uL off l (k+1) (cs.setIfInBounds (off+k) v) (by simp; omega);simp only[List.zipIdx_cons,List.foldl_cons];grind
theorem uK{place:Nat→Option (Nat×Nat)}{cells:Array Value}{i off size:Nat}{rest:List (Nat×Value)}(N:place i=s_ (off,size))(E:v.cells.size=size)(M:off+size≤cells.size) :
  ∃ cs',Instr.fill place cells ((i,v)::rest)=Instr.fill place cs' rest∧cs'.size=cells.size∧∀ p,cs'[p]?=if off≤p∧p<off+size then v.cells[p - off]? else cells[p]?:=by
 have h:=uL off v.cells.toList 0 cells (by simp[E]; exact M);refine⟨v.cells.zipIdx.foldl (fun cs (c,j)=>cs.setIfInBounds (off+j) c) cells,?_,?_,?_⟩
 ·have h2:¬ (off+v.cells.size > cells.size):=by omega
  simp[Instr.fill,N,E];omega
 ·have:=h.1;rw[← CF];grind
 ·intro p;have:=h.2 p;rw[← CF];grind
theorem uJ{place:Nat→Option (Nat×Nat)}:∀ (M:List (Nat×Nat×Nat×D×Value)) (cs:List D) (cells:Array Value) (ds:List D),
  Ed cs (M.map fun p=>(p.2.1,p.2.2.1,p.2.2.2.1))=s_ ds→(∀ p∈M,place p.1=s_ (p.2.1,p.2.2.1))→(∀ p∈M,RepV w g st p.2.2.2.1 p.2.2.2.2)→
  cs.length=cells.size→(∀ (j:Nat) d v,cs[j]?=s_ d→cells[j]?=s_ v→RepV w g st d v)→
  ∃ E,Instr.fill place cells (M.map fun p=>(p.1,p.2.2.2.2))=s_ E∧ds.length=E.size∧∀ (j:Nat) d v,ds[j]?=s_ d→E[j]?=s_ v→RepV w g st d v
 |[],cs,cells,ds,h,_,_,hl,N=>by
  simp[Ed]at h; subst h;exact⟨cells,rfl,hl,N⟩
 |p::M,cs,cells,ds,h,hp,hv,hl,N=>by
  obtain⟨i,off,size,d,v⟩:=p;simp only[Aw,Ed]at h
  split at h
  ·rename_i hc;simp only[Ad,beq_iff_eq,decide_eq_true_eq]at hc;obtain⟨⟨h1,h2⟩,h3⟩:=hc;obtain⟨c1,c2,_⟩:=Re h3 (hv (i,off,size,d,v) (by simp));obtain⟨cs',e1,e2,e3⟩:=uK (rest:=M.map fun p=>(p.1,p.2.2.2.2)) (hp (i,off,size,d,v) (by simp)) (by rw[c1,h1]) (by omega:off+size≤cells.size);simp only[Aw];simp only at e1;rw[e1];refine uJ M _ cs' ds h (fun p hm=>hp p (by simp[hm])) (fun p hm=>hv p (by simp[hm])) ?_ ?_
   ·rw[UC (by omega),e2,hl]
   ·intro j x u hx hu;rw[Rr (by omega),h1]at hx;grind
  ·cases h
theorem Yd6{d:D}{cs:List D}(h:QI v=s_ d)(E:d=.agg cs):∃ vs:List Value,v=.agg vs.toArray∧cs.length=vs.length∧∀ (j:Nat) x u,cs[j]?=s_ x→vs[j]?=s_ u→RepV w g st x u:=by
 subst E;have M:=SN (w:=w) (g:=g) (st:=st) h
 cases M with
 |agg _ vs N h2=>exact⟨vs,rfl,N,h2⟩
theorem wA(size:Nat):∀ (vs:List Value) (k:Nat) (cells:Array Value),(∀ v∈vs,v.cells.size=size)→(k+vs.length)*size≤cells.size→
  ∃ E,Instr.fill (fun i=>s_ (i*size,size)) cells ((vs.zipIdx k).map fun x=>(x.2,x.1))=s_ E∧E.size=cells.size∧(∀ p,p<k*size→E[p]?=cells[p]?)∧
   ∀ (i:Nat) v,vs[i]?=s_ v→∀ j,j<size→E[(k+i)*size+j]?=v.cells[j]?
 |[],k,cells,_,_=>⟨cells,rfl,rfl,fun _ _=>rfl,fun i v h=>by simp at h⟩
 |v::vs,k,cells,hv,hle=>by
  simp only[Ak]at hle;have e0:(k+(vs.length+1))*size=k*size+size+vs.length*size:=by rw[A6,A6,Bz]; omega
  obtain⟨cs',e1,M,e3⟩:=uK (place:=fun i=>s_ (i*size,size)) (cells:=cells) (i:=k) (off:=k*size) (size:=size) (v:=v) (rest:=(vs.zipIdx (k+1)).map fun x=>(x.2,x.1)) rfl (hv v (by simp)) (by omega);obtain⟨E,h1,N,h3,h4⟩:=wA size vs (k+1) cs' (fun u hu=>hv u (by simp[hu])) (by rw[M]; rw[show k+1+vs.length=k+(vs.length+1) by omega]; exact hle);have e4:(k+1)*size=k*size+size:=by rw[A6,Bz]
  refine⟨E,?_,N.trans M,?_,?_⟩
  ·simp_all
  ·grind
  ·intro i u hu j hj
   cases i with
   |zero=>
    grind
   |succ i=>
    grind
theorem SR.fresh(h:SR base w g st){w':World}{fz:Nat×Nat}(E:w'.heap=w.heap.push (.cells C e fz))(M:Beside w w') :
  Go1 base w g st w' {g with Im:=fun b x=>g.Im b x∨(b=w.heap.size∧x<C.size)} st:=by
 refine SR.more h M (fun b hb=>by rw[E]; exact Q8 w _ b hb) (fun b x hb=>.inl hb) (fun b x hb=>?_) (fun b x hb=>?_)
 ·grind
 ·rcases hb with hb|⟨rfl,hx⟩
  ·have N:=h.im_lt hb;have:w'.cell? ⟨b,x,none⟩=w.cell? ⟨b,x,none⟩:=by simp only[World.cell?,E,Q8 w _ b N]
   rw[this]; exact h.im b x hb
  ·simp[World.cell?,E,hx]
def zf(base:Nat)(w:World)(g:Ghost)(st:St)(v:Value):Prop:=
 ∃ b n C e,v=.slice (s_ ⟨b,0,none⟩) n n∧w.heap[b]?=s_ (.cells C e (0,0))∧base≤b∧∀ (k:Nat) (o:Obj),st[k]?=s_ o→g.β k≠b
def Yrl(P:Program)(base:Nat)(w:World)(g:Ghost)(st:St)(s:Sem Value)(d:D)(st':St):Prop:=
 ∃ v w' g',s.run P w=.ok v w'∧Go1 base w g st w' g' st'∧RepV w' g' st' d v∧zf base w' g' st' v
theorem Yqw(hS:SR base w g st){t elem:TypeId}{i:TypeInfo}{z:Value}{sz:Nat}{els:List D}{vs:List Value}(hu:P.underlying t=s_ (.slice elem))(hi:P.info? elem=s_ i)(hz:i.zero=s_ z)(a7:i.size=sz)(h0:0<sz)
  (ac:∀ d∈els,purA d=t_) (M:∀ d∈els,d.cells.length=sz) (hl:els.length=vs.length) (hr:∀ (i:Nat) d v,els[i]?=s_ d→vs[i]?=s_ v→RepV w g st d v) (bd:els.length*sz≤16777216)
  {len:Nat} {parts:Array (Nat×Value)} (ad:len=vs.length) (E:parts.toList=(vs.zipIdx 0).map fun x=>(x.2,x.1)) :
  Yrl P base w g st (Instr.buildSlice t len parts) (.slc sz els t_) st:=by
 subst ad
 have af:∀ (i:Nat) e,els[i]?=s_ e→∀ x∈e.cells,x.pure1=t_:=by
  intro i e he x N;have h1:=ac e (An he)
  cases e with
  |agg l=>simp only[purA,Ah]at h1; exact h1 x N
  |_=>simp only[D.cells,AP]at N; subst N; exact h1
 have ah:∀ (i:Nat) d v,els[i]?=s_ d→vs[i]?=s_ v→v.cells.size=sz∧∀ (j:Nat) x,d.cells[j]?=s_ x→∃ u,v.cells[j]?=s_ u∧RepV w g st x u:=by
  intro i d v hd hv;obtain⟨c1,c2,_⟩:=Re (Ah.2 fun x N=>Rq (af i d hd x N)) (hr i d v hd hv);grind
 have a8:∀ v∈vs,v.cells.size=sz:=by
  intro v hv;obtain⟨i,hi⟩:=A4.1 hv;have a0:i<els.length:=by rw[hl]; exact(Ab.1 hi).1
  exact(ah i _ v (Aj a0) hi).1
 have goal:∀ C:Array Value,C.size=vs.length*sz→(∀ (i:Nat) v,vs[i]?=s_ v→∀ j,j<sz→C[i*sz+j]?=v.cells[j]?)→
   (Instr.buildSlice t vs.length parts).run P w=.ok (.slice (s_ ⟨w.heap.size,0,none⟩) vs.length vs.length) (w.alloc (.cells C elem))→Yrl P base w g st (Instr.buildSlice t vs.length parts) (.slc sz els t_) st:=by
  intro C bg bh a4;have a1:=hS.fresh (w':=w.alloc (.cells C elem)) (C:=C) (e:=elem) (fz:=(0,0)) rfl ⟨rfl,rfl,rfl,by simp⟩;refine⟨_,_,_,a4,a1,?_,⟨w.heap.size,vs.length,C,elem,rfl,?_,hS.size,fun k o hk=>Nat.ne_of_lt (hS.lt hk)⟩⟩
  case refine_2=>
   show(w.heap.push _)[w.heap.size]?=_
   simp
  rw[← hl];refine RepV.slc_mk h0 M (AF _) (fun _=>rfl) ?_;intro i j d hd;obtain⟨e,he,ab⟩:=IF hd;have a0:i<els.length:=(Ab.1 he).1;have hj:j<sz:=by rw[← M e (An he)]; exact(Ab.1 ab).1
  have hv:vs[i]?=s_ (vs[i]'(by omega)):=Aj (by omega);obtain⟨u,h3,h4⟩:=(ah i e _ he hv).2 j d ab
  have b1:i*sz+j<C.size:=by
   grind
  refine⟨af i e he d (An ab),.inr ⟨rfl,by omega⟩,u,?_,a1.rep h4⟩
  have:(w.alloc (.cells C elem)).heap[w.heap.size]?=s_ (.cells C elem (0,0)):=by
   show(w.heap.push _)[w.heap.size]?=_
   simp
  simp only[World.cell?,this];grind
 by_cases hn:vs.length=0
 ·have a2:vs=[]:=AQ hn;refine goal #[] (by simp[hn]) (fun i v hv=>by simp[a2]at hv) ?_;subst a2;simp at E;simp[Instr.buildSlice,run_underlying hu,sizeOf,typeInfo,hi,E,Instr.fill,newRow,Array.range_zero']
 ·obtain⟨C,h1,h2,h3,h4⟩:=wA sz vs 0 ((Array.range (vs.length*sz)).map (z.cells[· % z.cells.size]!)) a8 (by simp);refine goal C (by rw[h2]; simp) (fun i v hv j hj=>by have:=h4 i v hv j hj; rwa [Aq]at this) ?_
  have a9:¬ vs.length*sz=0:=by
   intro e;rcases Nat.mul_eq_zero.1 e with e|e <;> omega
  subst a7;exact run_buildSlice w t elem vs.length parts C i z hu hi hz (by rw[← hl]; omega) a9 (by rw[E]; exact h1)
theorem Ynb(N:SR base w g st){b m:Nat}(hb:w.heap[b]?=s_ (.cells C e (0,0)))(ah:base≤b)(ac:∀ (k:Nat) (o:Obj),st[k]?=s_ o→g.β k≠b) :
  Go1 base w g st (w.freeze ⟨b,m,none⟩ 1) g st:=by
 have bc:b<w.heap.size:=(AH.1 hb).1
 have E:∀ k,k≠b→(w.freeze ⟨b,m,none⟩ 1).heap[k]?=w.heap[k]?:=by
  intro k hk;simp only[World.freeze,Nat.one_ne_zero,if_false,Ci];grind
 have ab:(w.freeze ⟨b,m,none⟩ 1).heap[b]?=s_ (.cells C e (m,m+1)):=by
  simp only[World.freeze,Nat.one_ne_zero,if_false,Ci];simp[hb]
 have M:∀ k x,(w.freeze ⟨b,m,none⟩ 1).cell? ⟨k,x,none⟩=w.cell? ⟨k,x,none⟩:=by
  intro k x
  by_cases hk:k=b
  ·subst hk;simp only[World.cell?,ab,hb]
  ·simp only[World.cell?,E k hk]
 have hI:ImLe w g (w.freeze ⟨b,m,none⟩ 1) g:=⟨fun k x h=>⟨h,M k x⟩,fun k o ho hs=>by
  by_cases hk:k=b
  ·subst hk;rw[hb]at ho;obtain rfl:=AE ho;simp[NT]at hs
  ·grind⟩
 have ad:(w.freeze ⟨b,m,none⟩ 1).heap.size=w.heap.size:=by simp[World.freeze]
 refine⟨⟨fun k o hk hm=>(N.mp k o hk hm).mono hI (Evo.refl _ _) rfl (E _ (ac k o hk)),?_,N.inj,fun k x h=>by rw[M]; exact N.im k x h,N.dis,by rw[ad]; exact N.size⟩,Evo.refl _ _,hI,fun _ _ h=>.inl h,⟨rfl,rfl,rfl,by rw[ad]; exact AF _,fun k hk=>E k (by omega)⟩,fun k o ho hs=>?_⟩
 ·intro k o hk hm;obtain⟨C1,e1,h1,h2,h3,h4,h5,h6⟩:=N.blk k o hk hm;refine⟨C1,e1,by rw[E _ (ac k o hk)]; exact h1,h2,h3,h4,h5,fun i j d hd=>?_⟩;obtain⟨q1,v,q2,q3⟩:=h6 i j d hd;exact⟨q1,v,q2,q3.mono hI (Evo.refl _ _)⟩
 ·by_cases hk:k=b
  ·subst hk;rw[hb]at ho;obtain rfl:=AE ho;simp[special]at hs
  ·exact .same (by rw[E k hk]; exact ho)
end
end Go.Proofs.YtijnglngaogdjaaGreatDoor.PI
namespace Go.Proofs.YtijnglngaogdjaaGreatDoor.PI
open Go Go.RowKit
variable {bytes sCap:Nat}{x z:Value}{i:TypeInfo}{e t tx ty:TypeId}{els:List D}{ns:List Value}
section
variable {P:Program} {base:Nat} {w:World} {g:Ghost} {st:St}
theorem Yrj(w:World)(o:Go.Obj):(w.alloc o).heap[w.heap.size]?=s_ o:=by
 show(w.heap.push o)[w.heap.size]?=_
 simp
theorem Ylc(hS:SR base w g st){elem:TypeId}{zd:D}{sz:Nat}{dl dc:D}{vl vc:Value}{l c:Nat}(hu:P.underlying t=s_ (.slice elem))(hi:P.info? elem=s_ i)(hz:i.zero=s_ z)(a2:QI z=s_ zd)
  (a3:i.size=sz) (a4:i.bytes=bytes) (h0:0<sz) (aa:zd.cells.length=sz) (a5:zd.cells.all D.pure1=t_) (hl:Gk dl=s_ l) (hc:Gk dc=s_ c) (a6:RepV w g st dl vl) (a7:RepV w g st dc vc)
  (a8:l≤c) (b7:c≤4294967296) (b8:c*bytes≤140737488355328) :
  RunsTo P base w g st (Instr.makeSlice t vl vc) (.row st.length l 0 l) (st++[{row:=t_,sz,els:=CZ l zd,lent:=f_}]):=by
 obtain⟨kl,rfl⟩:=Rh hl a6;obtain⟨kc,rfl⟩:=Rh hc a7;subst a3; subst a4
 have hb:((i.bytes:Int)*(c:Int))≤281474976710656:=by
  grind
 have M:=run_make (P:=P) w t elem i z hu hi hz kl kc (l:Int) (c:Int) (by omega) (by omega) hb (by omega);simp only[AI]at M;have N:zd.cells.all D.isCell=t_:=Ah.2 fun x hx=>Rq (Ah.1 a5 x hx);have a9:=SN (w:=w) (g:=g) (st:=st) a2;obtain⟨c1,c2,_⟩:=Re N a9;have ac:z.cells.size=i.size:=by rw[c1,aa]
 have ba:∀ E j,E<c→j<i.size→E*i.size+j<c*i.size:=by
  intro E j h1 h2
  calc E*i.size+j<E*i.size+i.size:=by omega
   _=(E+1)*i.size:=by rw[A6,Bz]
   _≤c*i.size:=AT _ h1
 have bc:∀ E j u,E<c→j<i.size→z.cells[j]?=s_ u→(madeCells z.cells (c*i.size))[E*i.size+j]?=s_ u:=by
  intro E j u h1 h2 h3;have h4:=ba E j h1 h2;have h5:(E*i.size+j) % z.cells.size=j:=by rw[ac,Cj,Nat.mul_add_mod,Bd h2]
  have h6:z.cells[j]! = u:=by rw[getElem!_def,h3]
  simp[madeCells,h4,h5,h6]
 have af:c≤maxLen:=by unfold maxLen; omega
 have bb:=SR.push (o:={row:=t_,sz:=i.size,els:=CZ l zd,lent:=f_}) (c:=c) (C:=madeCells z.cells (c*i.size)) (e:=elem) (w':=w.alloc (.cells (madeCells z.cells (c*i.size)) elem)) hS
  ⟨rfl,rfl,rfl,by simp⟩ (fun b hb=>Q8 w _ b hb) (Yrj w _) rfl h0 (fun x hx=>by rw[List.eq_of_mem_replicate hx]; exact aa)
  (by simp[size_madeCells]; exact⟨a8,af⟩) (by
   intro E j d hd;obtain⟨e,he,b9⟩:=IF hd;grind)
 refine⟨_,_,_,M,bb,?_⟩;refine .row _ _ _ _ {row:=t_,sz:=i.size,els:=CZ l zd,lent:=f_} _ rfl (by simp) rfl (by simp) fun _=>⟨?_,by omega⟩;simp[IE]
structure News (w:World) (g:Ghost) (st:St) (P:Program) (x:Value) (size:Nat) (els:List D) (ns:List Value):Prop where
 len:ns.length=els.length*size
 one:∀ u∈ns,u.oneCell'=t_
 rep:∀ (i j:Nat) d,Gl els i j=s_ d→∃ u,ns[i*size+j]?=s_ u∧RepV w g st d u
 lenOf:(Builtin.lenOf x).run P w=.ok els.length w∧(Builtin.lenOf x).run P w.drew=.ok els.length w.drew
 first:(Builtin.firstCells size els.length x).run P w=.ok ns.toArray w∧(Builtin.firstCells size els.length x).run P w.drew=.ok ns.toArray w.drew
theorem oA{size:Nat}(hE:Els w g st x size els):∃ ns,News w g st P x size els ns:=by
 obtain⟨⟨a,cap,rfl,ad⟩,a1,hlen⟩:=hE
 by_cases hn:els=[]
 ·subst hn;refine⟨[],by simp,by simp,fun i j d h=>by simp[Gl]at h,⟨by simp[Builtin.lenOf],by simp[Builtin.lenOf]⟩,?_⟩;cases a <;> simp[Builtin.firstCells,loadCells,loadCellsFrom]
 ·obtain⟨b,off,rfl,h0,hc⟩:=ad hn
  -- a5 cells N
  let f:Nat→Value:=fun p=>(w.cell? ⟨b,off+p,none⟩).getD undef
  have ae:∀ p,p<els.length*size→∃ d,Gl els (p / size) (p % size)=s_ d∧p=p / size*size+p % size:=by
   intro p hp;have E:p / size<els.length:=Nat.div_lt_of_lt_mul (by rw[Cj]; exact hp);have h2:p % size<size:=Nat.mod_lt _ h0;have he:els[p / size]?=s_ els[p / size]:=Aj E;have hj:p % size<els[p / size].cells.length:=by rw[hlen _ (Bv E)]; exact h2
   exact⟨_,Ig he (Aj hj),by rw[Cj]; exact(Nat.div_add_mod p size).symm⟩
  have aa:∀ p,p<els.length*size→w.cell? ((⟨b,off,none⟩:Addr).add p)=s_ (f p)∧(f p).oneCell'=t_:=by
   intro p hp;obtain⟨d,hd,a6⟩:=ae p hp;obtain⟨u,E,_,h3⟩:=hc _ _ d hd;rw[cell?_add];grind
  have M:∀ w',(∀ b o,w'.cell? ⟨b,o,none⟩=w.cell? ⟨b,o,none⟩)→(Builtin.firstCells size els.length (.slice (s_ ⟨b,off,none⟩) els.length cap)).run P w'=.ok ((C3 (els.length*size)).map f).toArray w':=by
   intro w' ah;have:=run_loadCells (P:=P) w' ⟨b,off,none⟩ (els.length*size) f (fun j hj=>by rw[cell?_add,ah,← cell?_add]; exact(aa j hj).1);simpa[Builtin.firstCells]using this
  refine⟨(C3 (els.length*size)).map f,by simp,?_,?_,⟨by simp[Builtin.lenOf],by simp[Builtin.lenOf]⟩,M w (fun _ _=>rfl),M w.drew (fun _ _=>rfl)⟩
  ·grind
  ·intro i j d hd;obtain⟨e,he,a0⟩:=IF hd;have E:i<els.length:=(Ab.1 he).1;have h2:j<size:=by rw[← hlen e (An he)]; exact(Ab.1 a0).1
   have h3:i*size+j<els.length*size:=by
    calc i*size+j<i*size+size:=by omega
     _=(i+1)*size:=by rw[A6,Bz]
     _≤els.length*size:=AT _ E
   grind
theorem yYt(s:List UInt8):∃ ns,News w g st P (.string ⟨s.toArray⟩) 1 (s.map Dr) ns:=by
 have e:Da ⟨s.toArray⟩=s.length:=by simp[Da]
 have M:∀ w':World,(Builtin.firstCells 1 (s.map Dr).length (.string ⟨s.toArray⟩)).run P w'=.ok ((s.map fun b=>Value.int .u8 b.toNat)).toArray w':=by
  intro w';simp[Builtin.firstCells]
 refine⟨s.map fun b=>Value.int .u8 b.toNat,by simp,?_,?_,⟨by simp[Builtin.lenOf,e],by simp[Builtin.lenOf,e]⟩,M w,M w.drew⟩
 ·intro u hu;simp only[A1]at hu;obtain⟨b,_,rfl⟩:=hu;rfl
 ·intro i j d N;obtain⟨e,he,E⟩:=IF N;simp only[AK,D0]at he;obtain⟨b,hb,rfl⟩:=he
  cases j with
  |zero=>
   simp[Dr,D.cells]at E;subst E;exact⟨.int .u8 b.toNat,by simp[hb],.int _ _⟩
  |succ j=>simp[Dr,D.cells]at E
theorem Yxn(ht:P.underlying t=s_ (.slice e))(ae:(∃ e',P.underlying tx=s_ (.slice e'))∨P.underlying tx=s_ .string)(hi:P.info? e=s_ i)
  {b E:Nat} {C:Array Value} {e0:TypeId} (hb:w.heap[b]?=s_ (.cells C e0 (0,0)))    (hN:News w g st P x i.size els ns) (M:E+els.length≤sCap) (ab:E*i.size+ns.length≤C.size) :
  (Builtin.append_ #[t,tx] ty #[.slice (s_ ⟨b,0,none⟩) E sCap,x]).run P w=
   .ok (.slice (s_ ⟨b,0,none⟩) (E+els.length) sCap) (w.setRow b (C.toList.take (E*i.size)++ns++C.toList.drop (E*i.size+ns.length)).toArray):=by
 have N:=run_storeCells_at P b (E*i.size) e0 ns 0 C w hb (by simpa using ab) hN.one;simp only[B3]at N;have h1:=hN.lenOf.1;have h2:=hN.first.1
 rcases ae with⟨e',hd⟩|hd
 ·simp[Builtin.append_,run_underlying ht,sizeOf,typeInfo,hi,run_underlying hd,h1,M,h2,LN,N]
 ·simp[Builtin.append_,run_underlying ht,sizeOf,typeInfo,hi,run_underlying hd,h1,M,h2,LN,N]
theorem Yd4(ht:P.underlying t=s_ (.slice e))(ad:(∃ e',P.underlying tx=s_ (.slice e'))∨P.underlying tx=s_ .string)(hi:P.info? e=s_ i)(hz:i.zero=s_ z)
  {a:Option Addr} {E:Nat}  {M:List D} {os:List Value} (hN:News w g st P x i.size els ns) (hO:News w g st P (.slice a E sCap) i.size M os) (a0:M.length=E)
  (hg:sCap<E+els.length) (a6:E+els.length≤9223372036854775807) (a5:Builtin.nextslicecap (E+els.length) sCap*i.bytes≤281474976710656) :
  (Builtin.append_ #[t,tx] ty #[.slice a E sCap,x]).run P w=
   .ok (.slice (s_ ⟨w.heap.size,0,none⟩) (E+els.length) (grownCap w (E+els.length) sCap e))
    (w.drew.alloc (.cells (os.toArray++ns.toArray++Builtin.zeroCells z.cells (grownCap w (E+els.length) sCap e - (E+els.length))) e)):=by
 subst a0;have h1:=hN.lenOf.1;have h2:=hN.first.2
 have h3:=hO.first.2
 have hn:¬ (M.length+els.length≤sCap):=by omega
 have N:¬ (9223372036854775807<((M.length:Int)+(els.length:Int))):=by omega
 have aa:¬ (281474976710656<Builtin.nextslicecap (M.length+els.length) sCap*i.bytes):=by omega
 rcases ad with⟨e',hd⟩|hd
 ·simp[Builtin.append_,run_underlying ht,sizeOf,typeInfo,zeroValue,hi,hz,run_underlying hd,h1,hn,N,aa,Question.forced,h2,h3,newRow,grownCap]
  congr 2
  grind
 ·simp[Builtin.append_,run_underlying ht,sizeOf,typeInfo,zeroValue,hi,hz,run_underlying hd,h1,hn,N,aa,Question.forced,h2,h3,newRow,grownCap]
  congr 2
  grind
theorem uO{n cap:Nat}(h:cap<n)(hb:n*bytes≤140737488355328):Builtin.nextslicecap n cap*bytes≤281474976710656:=by exact growslice_fits h hb
