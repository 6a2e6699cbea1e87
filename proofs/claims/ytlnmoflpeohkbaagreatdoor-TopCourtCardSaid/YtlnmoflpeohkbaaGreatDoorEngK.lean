/-
  Each operation of the model does what its pure counterpart does: make, append, the bytes of a string.
  Conditions: none; these are lemmas.
-/
import Derived.Test.YtlnmoflpeohkbaaGreatDoorProg
import Derived.WalkKit
import Derived.Deep.LoopGhost
import Derived.Orders
import Derived.Lib.Strings
import Derived.Laws.IdiomStrings
import Derived.Great.BuildSlice
open Bool renaming false->f_,true->t_
open Option renaming some->s_,none->n_
open BitVec renaming ofInt->C8
open ByteArray renaming mk->Dk,size->Dg
open List renaming range->C9,replicate->C7
set_option maxHeartbeats 8000000
set_option maxRecDepth 20000
set_option linter.unusedSimpArgs false
set_option linter.unusedVariables false
set_option linter.defProp false
noncomputable section
namespace Go.Proofs.YtlnmoflpeohkbaaGreatDoor.PI
open Go
open Go.Builtin renaming append_->yaS,firstCells->yaR,lenOf->yaQ,len_->yaK,nextslicecap->yaT
open Go.Instr renaming buildSlice->yaO,fieldAt->yaC,fill->yaN,index->yaJ,indexAt->yaD,loadAt->yaA,slice->yaI,sliceAt->yaH,sliceBound->yaF,sliceBounds->yaG,storeAt->yaM,sureAddr->yaB
open Go.Result renaming andThen_ok->yaz
open Go.Sem renaming run_bind->yay,run_pure->yaE
open Go.Value renaming cells->yaL
open Go.World renaming cell?->yax,freeze->yaP
abbrev zae:=@if_pos
abbrev zaf:=@if_neg
abbrev zag:=@and_true
abbrev zah:=@decide_true
abbrev zai:=@decide_false
abbrev zaj:=@if_true
abbrev zak:=@not_false_eq_true
abbrev zal:=@true_and
abbrev zam:=@if_false
abbrev zan:=@decide_eq_true_eq
abbrev zao:=@beq_iff_eq
abbrev zap:=@eq_true
abbrev zaq:=@and_self
abbrev zar:=@Classical.propComplete
abbrev zas:=@beq_self_eq_true
abbrev zat:=@of_decide_eq_true
abbrev zau:=@not_true_eq_false
abbrev zav:=@or_false
abbrev zaw:=@eq_false
abbrev zax:=@and_false
abbrev zay:=@false_and
abbrev zaz:=@decide_eq_false
abbrev zba:=@decide_eq_true
abbrev zbb:=@true_or
abbrev zbc:=@or_true
abbrev zbd:=@or_self
abbrev zbe:=@forall_eq
abbrev zbf:=@dif_pos
abbrev zbg:=@ne_eq
abbrev zbh:=@bne_iff_ne
theorem zaa{p:Prop}(h:p:=by omega):p:=h
theorem zab{p:Prop}(h:p:=by decide):p:=h
theorem zac{p:Prop}(h:p:=by simp):p:=h
theorem zad{p:Prop}(h:p:=by rfl):p:=h
def YYN{c:Prop}{i:Decidable c}{α:Sort _}{a b:α}(h:¬c:=by omega):@ite _ c i a b=b:=zaf h
def YYF{p:Prop}(h:¬p:=by omega):p=False:=zaw h
abbrev Aa:=@List.getElem?_eq_some_iff
abbrev Ab:=@List.cons.injEq
abbrev Ac:=@List.getElem?_set_ne
abbrev Ad:=@List.all_eq_true
abbrev Ae:=@Option.map_some
abbrev Af:=@Bool.and_eq_true
abbrev Ag:=@List.length_append
abbrev Ah:=@List.getElem?_eq_getElem
abbrev Ai:=@List.append_nil
abbrev Aj:=@List.cons_append
abbrev Ak:=@List.mem_of_getElem?
abbrev Al:=@List.append_assoc
abbrev Am:=@List.getD_eq_getElem?_getD
abbrev An:=@List.length_cons
abbrev Ao:=@Bool.false_eq_true
abbrev Ap:=@List.getElem?_set_self
abbrev Aq:=@List.nil_append
abbrev Ar:=@Nat.zero_add
abbrev As:=@List.length_nil
abbrev At:=@Option.some.inj
abbrev Au:=@Nat.le_refl
abbrev Av:=@List.map_cons
abbrev Aw:=@List.getElem?_append_left
abbrev Ax:=@Option.ite_none_right_eq_some
abbrev Ay:=@List.getElem?_cons_zero
abbrev Az:=@List.length_map
abbrev AA:=@List.flatMap_cons
abbrev AB:=@List.mem_cons
abbrev AD:=@Option.bind_eq_some_iff
abbrev AE:=@List.take_of_length_le
abbrev AF:=@List.getElem?_append_right
abbrev AG:=@Option.some.injEq
abbrev AH:=@Int.toNat_natCast
abbrev AI:=@List.getElem?_map
abbrev AJ:=@List.length_take
abbrev AK:=@List.mem_append
abbrev AL:=@List.length_drop
abbrev AM:=@List.not_mem_nil
abbrev AN:=@Bool.not_eq_true'
abbrev AO:=@Array.getElem?_eq_some_iff
abbrev AP:=@List.mem_range
abbrev AQ:=@List.all_cons
abbrev AR:=@List.mem_map
abbrev AS:=@Nat.zero_le
abbrev AT:=@Nat.le_trans
abbrev AU:=@List.mem_singleton
abbrev AV:=@List.mem_filter
abbrev AW:=@List.eq_nil_of_length_eq_zero
abbrev AX:=@Nat.lt_of_lt_of_le
abbrev AY:=@List.map_congr_left
abbrev AZ:=@Nat.mul_le_mul_right
abbrev A0:=@Bool.not_false
abbrev A1:=@List.map_append
abbrev A2:=@List.ext_getElem?
abbrev A3:=@Nat.mod_eq_of_lt
abbrev A4:=@Option.getD_none
abbrev A5:=@Bool.or_eq_true
abbrev A6:=@List.getElem_mem
abbrev A7:=@List.mem_iff_getElem?
abbrev A8:=@Option.map_eq_some_iff
abbrev A9:=@Nat.add_mul
abbrev Ba:=@List.mk_mem_zipIdx_iff_getElem?
abbrev Bb:=@List.append_inj
abbrev Bc:=@List.map_nil
abbrev Bd:=@Bool.and_self
abbrev Be:=@Int.eq_ofNat_of_zero_le
abbrev Bf:=@List.map_map
abbrev Bg:=@Nat.lt_or_ge
abbrev Bh:=@List.getElem?_eq_none
abbrev Bi:=@List.contains_iff_mem
abbrev Bj:=@Option.bind_some
abbrev Bk:=@List.mem_flatMap
abbrev Bl:=@List.take_append_drop
abbrev Bm:=@Bool.true_and
abbrev Bn:=@Bool.or_false
abbrev Bo:=@List.all_append
abbrev Bp:=@List.range_eq_range'
abbrev Bq:=@Int.tdiv_eq_ediv_of_nonneg
abbrev Bs:=@Option.bind_eq_bind
abbrev Bt:=@Array.getElem?_eq_getElem
abbrev Bu:=@Bool.false_or
abbrev Bv:=@Array.empty_append
abbrev Bw:=@List.set_cons_zero
abbrev Bx:=@List.take_length
abbrev By:=@List.getElem?_cons_succ
abbrev Bz:=@List.flatMap_eq_nil_iff
abbrev BA:=@List.drop_drop
abbrev BB:=@List.mapM_cons
abbrev BC:=@Nat.one_mul
abbrev BD:=@Int.ediv_nonneg
abbrev BE:=@List.length_set
abbrev BF:=@Option.isSome_some
abbrev BG:=@List.drop_eq_getElem_cons
abbrev BH:=@Array.toArray_toList
abbrev BI:=@List.set_append_left
abbrev BJ:=@Option.pure_def
abbrev BK:=@Nat.succ_le_of_lt
abbrev BL:=@Nat.and_two_pow_sub_one_eq_mod
abbrev BM:=@List.isEmpty_iff
abbrev BN:=@List.drop_length
abbrev BO:=@List.getElem?_take
abbrev BP:=@List.getElem?_drop
abbrev BQ:=@Nat.sub_self
abbrev BR:=@Nat.add_zero
abbrev BS:=@Nat.mul_one
abbrev BT:=@List.length_replicate
abbrev BU:=@Nat.min_eq_left
abbrev BV:=@Prod.mk.injEq
abbrev BW:=@List.map_take
abbrev BX:=@List.getElem?_eq_none_iff
abbrev BY:=@List.mem_or_eq_of_mem_set
abbrev BZ:=@List.range'_succ
abbrev B0:=@Nat.lt_succ_self
abbrev B1:=@Int.ediv_le_self
abbrev B2:=@List.filter_eq_self
abbrev B3:=@List.replicate_succ
abbrev B4:=@Nat.mul_comm
abbrev B5:=@Option.isSome_iff_exists
abbrev B6:=@Nat.add_comm
abbrev B7:=@Nat.add_sub_cancel_left
abbrev B8:=@Nat.add_sub_cancel
abbrev B9:=@Bool.and_true
abbrev Ca:=@Option.isSome_none
abbrev Cb:=@Nat.eq_zero_or_pos
abbrev Cc:=@List.set_eq_take_append_cons_drop
abbrev Cd:=@Nat.le_of_lt_succ
abbrev Ce:=@List.replicate_append_replicate
abbrev Cf:=@List.drop_zero
abbrev Cg:=@Array.getElem?_modify
abbrev Ch:=@List.map_set
abbrev Ci:=@Array.getElem?_toList
abbrev Cj:=@List.all_nil
abbrev Ck:=@List.set_append_right
abbrev Cm:=@Int.mul_le_mul_of_nonneg_right
abbrev Cn:=@Int.ediv_mul_add_emod
abbrev Co:=@Int.lt_or_le
abbrev Cq:=@Option.getD_some
abbrev Cr:=@List.take_append_of_le_length
abbrev Cs:=@List.mem_of_mem_drop
abbrev Ct:=@List.mem_cons_of_mem
abbrev Cu:=@Nat.pow_le_pow_right
abbrev Cv:=@List.getElem?_of_mem
abbrev Cw:=@Nat.add_assoc
abbrev Cx:=@List.map_drop
abbrev Cy:=@Array.length_toList
abbrev Cz:=@List.length_pos_iff
abbrev CA:=@Int.le_refl
abbrev CB:=@Array.foldl_toList
abbrev CD:=@Nat.zero_mul
abbrev CE:=@List.mem_filterMap
abbrev CF:=@Nat.le_of_lt
abbrev CG:=@Nat.pow_succ
abbrev CH:=@List.set_cons_succ
abbrev CJ:=@Prod.ext_iff
abbrev CL:=@List.Perm.cons
abbrev CM:=@List.size_toArray
abbrev CN:=@List.length_range
abbrev CO:=@List.filter_congr
abbrev CQ:=@List.foldl_append
abbrev CR:=@List.take_add
abbrev CS:=@List.nodup_range
abbrev CT:=@List.isEmpty_nil
abbrev CU:=@BitVec.toNat_and
abbrev CV:=@List.flatMap_nil
abbrev CW:=@List.all_map
abbrev CX:=@List.set_set
abbrev CY:=@Nat.not_lt
variable{α:Type _}
def Dv(a b : α): (s_ a=s_ b)=(a=b):=AG a b
variable{β:Type _}
theorem D1{x : Option α}{f : α->β}{b : β}: Option.map f x=s_ b↔∃a,x=s_ a/\f a=b:=A8
def D4(a : α)(b : β)(c : α)(d : β): ((a,b)=(c,d))=(a=c/\b=d):=BV a b c d
inductive GT where
 |s (es:List (Int×List UInt8))
 |b (es:List (List UInt8))
 |f (es:List (Int×Nat))
 deriving Inhabited
inductive D where
 |int (k:IntKind) (n:Int)
 |bool (b:Bool)
 |str (s:List UInt8)
 |slc (sz:Nat) (els:List D) (tight:Bool)
 |row (key tot off len:Nat)
 |bsl (key off n sz:Nat) (ag:Bool)
 |ptr (key off:Nat)
 |rptr (key tot i off:Nat)
 |eptr (el:D) (off:Nat)
 |agg (cells:List D)
 |tup (vs:List D)
 |clo (f:Nat) (caps:List D)
 |nilf
 |nilp
 |mapv (key:Nat)
 |nilm
 |gmap (t:GT)
 |junk
 deriving Inhabited
namespace D
def cells:D->List D
 |.agg l=>l
 |d=>[d]
def isCell:D->Bool
 |.agg _ | .tup _ | .junk=>f_
 |_=>t_
def mk(ag:Bool)(cs:List D):D:=if ag then .agg cs else cs.headD .junk
def pure1:D->Bool
 |.int _ _ | .bool _ | .str _ | .slc _ _ _ | .clo _ [] | .nilf | .nilp | .nilm | .gmap _=>t_
 |_=>f_
def noRef1:D->Bool
 |.int _ _ | .bool _ | .str _=>t_
 |_=>f_
def noRef:D->Bool
 |.agg l=>l.all noRef1
 |.tup l=>l.all λd=>match d with | .agg l=>l.all noRef1|d=>noRef1 d
 |d=>noRef1 d
end D
def DK(b:UInt8):D:=.int .u8 (b.toNat:Int)
structure Obj where
 row:Bool
 sz:Nat
 els:List D
 lent:Bool
 deriving Inhabited
abbrev St:=List Obj
abbrev zLB:=List UInt8
abbrev zIL:=Int×List Int
abbrev zsF:=List D->St->Option (D×St)
abbrev zsX:=List D->St->Option (Nat×D×St)
abbrev zsP:=List D->Option D
abbrev zzB(l:List D):Obj:=⟨f_,1,l,f_⟩
def Obj.isMap(o:Obj):Bool:=!o.row&&decide (1<o.sz)
def mS(sz:Nat):Nat:=sz%2000000
def mW(sz:Nat):Bool:=decide (2000000<=sz)
def DE(sz:Nat):D->D
 |.agg l=>.mk (mS sz !=2) (l.take (mS sz-1))
 |_=>.junk
def G7(sz:Nat):D->D
 |.agg l=>if mW sz then .agg [(l.drop (mS sz-1)).headD .junk]else(l.drop (mS sz-1)).headD .junk
 |_=>.junk
def GT.els:GT->List D
 |.s es=>es.map λp=>.agg [.int .u8 p.1,.str p.2]
 |.b es=>es.map λs=>.agg [.str s,.bool t_]
 |.f es=>es.map λp=>.agg [.int .i64 p.1,.clo p.2 []]
def GT.sz:GT->Nat
 |.f _=>2000002
 |_=>2
def I6(st:St)(key tot off len:Nat):Option (Nat×List D):=
 match st[key]? with
 |some o=>if o.row&&o.els.length==tot&&decide (off+len<=tot)then s_ (o.sz,(o.els.drop off).take len)else n_
 |none=>n_
def KQ(sz:Nat)(ag:Bool)(cs:List D):Nat->List D
 |0=>[]
 |n+1=>D.mk ag (cs.take sz)::KQ sz ag (cs.drop sz) n
def ND(st:St)(key off n sz:Nat)(ag:Bool):Option (List D):=
 match st[key]? with
 |some o=>if !o.row&&decide (off+n*sz<=o.els.length)&&decide (0<sz)&&(ag||sz==1)then s_ (KQ sz ag (o.els.drop off) n)else n_
 |none=>n_
def nz(sz:Nat)(els:List D):Nat:=if els.isEmpty then 0 else sz
def purA:D->Bool
 |.agg l=>l.all D.pure1
 |d=>d.pure1
def Jl(st:St)(key off n sz:Nat)(ag:Bool):Option (List D):=match ND st key off n sz ag with
 |some els=>if els.all purA then s_ els else n_
 |none=>n_
def DO(st:St):D->Option D
 |.row key tot off len=>(I6 st key tot off len).map λp=>.slc (nz p.1 p.2) p.2 f_
 |.slc sz els _=>s_ (.slc (nz sz els) els f_)
 |.bsl key off n sz ag=>(Jl st key off n sz ag).map λels=>.slc (nz sz els) els f_
 |d=>if d.pure1 then s_ d else n_
def Ef(st:St):List D->Option (List D)
 |[]=>s_ []
 |d::l=>match DO st d,Ef st l with
  |some x,s_ y=>s_ (x::y)
  |_,_=>n_
def D2(st:St):D->Option D
 |.agg l=>(Ef st l).map .agg
 |.tup _=>n_
 |d=>DO st d
def Ey(st:St):List D->Option (List D)
 |[]=>s_ []
 |d::l=>match D2 st d,Ey st l with
  |some x,s_ y=>s_ (x::y)
  |_,_=>n_
def Fw:D->List Nat
 |.row key _ _ _=>[key]
 |.bsl key _ _ _ _=>[key]
 |_=>[]
def keys:D->List Nat
 |.agg l=>l.flatMap Fw
 |d=>Fw d
def lend(ks:List Nat)(st:St):St:=
 match ks with
 |[]=>st
 |k::r=>lend r (st.modify k λo=>{o with lent:=t_})
def purR:D->Bool
 |.tup l=>l.all purA
 |d=>purA d
def H6(st:St):D->Option (Nat×List D)
 |.slc sz els _=>s_ (sz,els)
 |.row key tot off len=>I6 st key tot off len
 |.bsl key off n sz ag=>match ND st key off n sz ag with
  |some els=>if els.all purA then s_ (sz,els)else n_
  |none=>n_
 |.str s=>s_ (1,s.map DK)
 |_=>n_
def EY(st:St)(key tot:Nat):Bool:=
 match st[key]? with
 |some o=>o.row&&o.els.length==tot
 |none=>f_
def Kk:D->Bool
 |.str _=>t_
 |_=>f_
def FB(st:St):D->Option Nat
 |.slc _ els _=>s_ els.length
 |.row key tot _ len=>if EY st key tot then s_ len else n_
 |.bsl _ _ n _ _=>s_ n
 |.str s=>s_ s.length
 |_=>n_
inductive PA where
 |s (n:Nat)
 |c (d:D)
 |g (n:Nat)
 deriving Inhabited
inductive PConv where
 |int (k:IntKind)
 |bytes
 |str
 |same
 deriving Inhabited
inductive POp where
 |mov (x:PA)
 |pick (c x y:PA)
 |box (x:PA)
 |bld (zero:List D) (parts:List (Nat×Nat×PA))
 |bslc (sz:Nat) (parts:List PA)
 |load (n:Nat) (ag:Bool) (p:PA)
 |stor (n:Nat) (p x:PA)
 |nilc (x:PA)
 |bin (op:BinOp) (x y:PA)
 |beq (neg:Bool) (x y:PA)
 |aeq (ks:List Nat) (neg:Bool) (x y:PA)
 |un (op:UnOp) (x:PA)
 |conv (c:PConv) (x:PA)
 |mkslc (sz bytes:Nat) (zero:D) (len cap:PA)
 |slice (sz:Nat) (x:PA) (lo hi mx:Option PA)
 |sliceA (n sz:Nat) (ag:Bool) (x:PA) (lo hi:Option PA)
 |fld (off:Nat) (p:PA)
 |fldv (off n:Nat) (ag:Bool) (x:PA)
 |idxS (sz:Nat) (x i:PA)
 |idxA (n sz:Nat) (p i:PA)
 |idx (x i:PA)
 |idxV (len sz:Nat) (ag:Bool) (x i:PA)
 |len (str:Bool) (x:PA)
 |lenA (n:Nat)
 |app (sz bytes:Nat) (s x:PA)
 |mm (isMax:Bool) (x y:PA)
 |mm3 (isMax:Bool) (x y z:PA)
 |call (f:Nat) (args:List PA)
 |icall (f:Nat) (args:List PA)
 |mcall (f:Nat) (args:List PA)
 |rcall (f:Nat) (args:List PA)
 |callv (x:PA) (args:List PA)
 |mkclo (f:Nat) (caps:List PA)
 |ext (x:PA) (i:Nat)
 |mkmap (sz:Nat)
 |mapup (sz:Nat) (ks:List Nat) (m k v:PA)
 |mapget (sz:Nat) (ks:List Nat) (ok:Bool) (zero:D) (m k:PA)
 |cpy (sz:Nat) (d s:PA)
 |fail
 deriving Inhabited
def MB(op:BinOp)(k:IntKind)(x y:Int):Option Int:=
 let a:=C8 k.bits x
 let b:=C8 k.bits y
 match op with
 |.and=>s_ (k.wrap (a &&& b).toNat)
 |.or=>s_ (k.wrap (a ||| b).toNat)
 |.xor=>s_ (k.wrap (a ^^^ b).toNat)
 |.andNot=>s_ (k.wrap (a &&& ~~~b).toNat)
 |_=>n_
def K4(op:BinOp)(x y:Int):Option Bool:=
 match op with
 |.eql=>s_ (x==y)
 |.neq=>s_ (x !=y)
 |.lss=>s_ (decide (x<y))
 |.leq=>s_ (decide (x<=y))
 |.gtr=>s_ (decide (x>y))
 |.geq=>s_ (decide (x ≥ y))
 |_=>n_
def Mo(op:BinOp)(k:IntKind)(x y:Int):Option Int:=
 match op with
 |.add=>s_ (k.wrap (x+y))
 |.sub=>s_ (k.wrap (x-y))
 |.mul=>s_ (k.wrap (x*y))
 |.quo=>if y=0 then n_ else s_ (k.wrap (x.tdiv y))
 |.rem=>if y=0 then n_ else s_ (x.tmod y)
 |_=>n_
def Oc(op:BinOp)(k:IntKind)(x y:Int):Option Int:=
 if y<0 then n_ else
 match op with
 |.shl=>s_ (k.wrap (x*2^(min y.toNat k.bits)))
 |.shr=>s_ (x.fdiv (2^(min y.toNat k.bits)))
 |_=>n_
def Kb:Nat->D->D->Option Bool
 |0,.int k x,.int k' y=>if k=k' then s_ (x==y)else n_
 |1,.bool x,.bool y=>s_ (x==y)
 |2,.str x,.str y=>s_ (x==y)
 |_,_,_=>n_
def Gs:List Nat->List D->List D->Option Bool
 |[],[],[]=>s_ t_
 |q::qs,x::xs,y::ys=>match Kb q x y,Gs qs xs ys with
  |some a,s_ b=>s_ (a&&b)
  |_,_=>n_
 |_,_,_=>n_
def XG(op:BinOp)(x y:zLB):Option D:=
 match op with
 |.add=>if x.length+y.length<=4294967296 then s_ (.str (x++y))else n_
 |.eql=>s_ (.bool (x==y))
 |.neq=>s_ (.bool !(x==y))
 |.lss=>s_ (.bool (Op.bytesLess x y))
 |.leq=>s_ (.bool (Op.bytesLess x y||x==y))
 |.gtr=>s_ (.bool !(Op.bytesLess x y||x==y))
 |.geq=>s_ (.bool !(Op.bytesLess x y))
 |_=>n_
def DI(op:BinOp)(x y:D):Option D:=
 match x,y with
 |.int k a,.int k' b=>
  match op with
  |.shl | .shr=>(Oc op k a b).map (.int k)
  |_=>if k=k' then
    match op with
    |.add | .sub | .mul | .quo | .rem=>(Mo op k a b).map (.int k)
    |.and | .or | .xor | .andNot=>(MB op k a b).map (.int k)
    |_=>(K4 op a b).map .bool
   else n_
 |.str a,.str b=>XG op a b
 |_,_=>n_
def Pr(neg:Bool)(x y:D):Option D:=
 match x,y with
 |.bool a,.bool b=>s_ (.bool ((a==b)!=neg))
 |_,_=>n_
def Jg(ks:List Nat)(neg:Bool)(x y:D):Option D:=
 match x,y with
 |.agg xs,.agg ys=>(Gs ks xs ys).map λb=>.bool (b !=neg)
 |_,_=>n_
def Gb(sz:Nat)(ks:List Nat)(x y:D):Option Bool:=
 if sz=2 then match ks with
  |[q]=>Kb q x y
  |_=>n_
 else match x,y with
  |.agg xs,.agg ys=>Gs ks xs ys
  |_,_=>n_
def Hv(sz:Nat)(ks:List Nat)(k:D):List D->Nat->Option (Option Nat)
 |[],_=>s_ n_
 |el::r,i=>match Gb sz ks k (DE sz el)with
  |some t_=>s_ (s_ i)
  |some f_=>Hv sz ks k r (i+1)
  |none=>n_
def Ff(sz:Nat)(ks:List Nat)(k:D)(els:List D):Bool:=els.all λel=>(Gb sz ks k (DE sz el)).isSome
def O7(sz:Nat)(ks:List Nat)(ok:Bool)(zero k:D)(els:List D):Option D:=
 if(Gb (mS sz) ks k k).isSome&&Ff (mS sz) ks k els then match Hv (mS sz) ks k els 0 with
  |some (s_ i)=>match els[i]? with
   |some el=>s_ (if ok then .tup [G7 sz el,.bool t_]else G7 sz el)
   |none=>n_
  |some n_=>s_ (if ok then .tup [zero,.bool f_]else zero)
  |none=>n_
 else n_
def JH(st:St)(sz:Nat)(ks:List Nat)(ok:Bool)(zero m k:D):Option D:=
 match m with
 |.mapv key=>match st[key]? with
  |some o=>if o.isMap&&o.sz==sz then O7 sz ks ok zero k o.els else n_
  |none=>n_
 |.gmap g=>if sz=g.sz then O7 sz ks ok zero k g.els else n_
 |_=>n_
def II(sz:Nat)(v:D):Option D:=if mW sz then(match v with
 |.agg [c]=>s_ c
 |_=>n_)else s_ v
def Vf(f:Nat):Bool:=[219,220,221,222,223,224,226,227,228].contains f
def K2:D->Bool
 |.int _ _ | .bool _ | .str _=>t_
 |.clo f _=>!Vf f&&!Vf (f-5000000)
 |_=>f_
def N1(k:D):Bool:=match k with
 |.int .u8 _=>f_
 |_=>t_
def L5(sz:Nat)(ks:List Nat)(k x:D)(els:List D):List D:=els.map λel=>match Gb sz ks k (DE sz el)with
 |some t_=>x
 |_=>el
def MA(a:Int):D->Bool
 |.int _ b=>decide (a<b)
 |_=>f_
def Fk(sz:Nat)(a:Int)(x:D):List D->List D
 |[]=>[x]
 |el::r=>if MA a (DE sz el)then x::el::r else el::Fk sz a x r
def N5(sz:Nat)(k x:D)(els:List D):List D:=match k with
 |.int _ a=>Fk sz a x els
 |_=>els++[x]
def MO(sz:Nat)(ks:List Nat)(k v:D)(els:List D):Option (List D):=match Hv sz ks k els 0 with
 |some (s_ _)=>s_ (L5 sz ks k (.agg (k.cells++[v])) els)
 |some n_=>if els.length<39 then s_ (N5 sz k (.agg (k.cells++[v])) els)else n_
 |none=>n_
def Mp(st:St)(sz:Nat)(ks:List Nat)(m k v:D):Option St:=
 match m with
 |.mapv key=>match st[key]?,II sz v with
  |some o,s_ v=>if o.isMap&&o.sz==sz&&!o.lent&&v.isCell&&K2 v&&k.cells.length+1==mS sz&&k.cells.all D.isCell&&Gb (mS sz) ks k k==s_ t_&&N1 k&&Ff (mS sz) ks k o.els then(MO (mS sz) ks k v o.els).map λels=>st.set key {o with els} else n_
  |_,_=>n_
 |_=>n_
def Pq(op:UnOp)(x:D):Option D:=
 match op,x with
 |.neg,.int k n=>s_ (.int k (k.wrap (0-n)))
 |.xor,.int k n=>(MB .xor k (if k.signed then -1 else k.max) n).map (.int k)
 |.not,.bool b=>s_ (.bool !b)
 |_,_=>n_
def az:D->Option UInt8
 |.int .u8 n=>if 0<=n/\n<256 then s_ (UInt8.ofNat n.toNat)else n_
 |_=>n_
def TL:List D->Option (zLB)
 |[]=>s_ []
 |d::l=>match az d,TL l with
  |some x,s_ y=>s_ (x::y)
  |_,_=>n_
def Gm(st:St)(c:PConv)(x:D):Option D:=
 match c,x with
 |.int k,.int _ n=>s_ (.int k (k.wrap n))
 |.bytes,.str s=>s_ (.slc 1 (s.map DK) f_)
 |.str,.slc sz els _=>if sz==1||els.isEmpty then(TL els).map .str else n_
 |.str,.row key tot off len=>match I6 st key tot off len with
  |some (sz,els)=>if sz==1 then(TL els).map .str else n_
  |none=>n_
 |.same,.str s=>s_ (.str s)
 |_,_=>n_
def FA:D->Option Nat
 |.int _ n=>if 0<=n then s_ n.toNat else n_
 |_=>n_
def GV(d:Option D)(dflt:Nat):Option Nat:=
 match d with
 |some x=>FA x
 |none=>s_ dflt
def GS(st:St)(sz:Nat)(x:D)(lo hi mx:Option D):Option D:=
 match x with
 |.str s=>
  match mx,GV lo 0,GV hi s.length with
  |none,s_ l,s_ h=>if sz=0/\l<=h/\h<=s.length then s_ (.str ((s.take h).drop l))else n_
  |_,_,_=>n_
 |.slc sz' els t=>
  if(sz'==sz||els.isEmpty)&&sz !=0 then
   match GV lo 0,GV hi els.length with
   |some l,s_ h=>
    match mx with
    |none=>if l<=h/\h<=els.length then s_ (.slc sz' ((els.take h).drop l) (t&&h==els.length))else n_
    |some m=>if l<=h/\h<=els.length/\FA m=s_ h/\hi.isSome=t_ then s_ (.slc sz' ((els.take h).drop l) t_)else n_
   |_,_=>n_
  else n_
 |.row key tot off len=>
  match st[key]? with
  |some o=>
   if o.row&&o.sz==sz&&o.els.length==tot&&sz !=0 then
    match mx,GV lo 0,GV hi len with
    |none,s_ l,s_ h=>
     if l<=h/\h<=len then
      if l=0/\h=len then s_ x
      else if l=h then s_ (.slc sz [] f_)
      else s_ (.row key tot (off+l) (h-l))
     else n_
    |_,_,_=>n_
   else n_
  |none=>n_
 |_=>n_
def Sv(n sz:Nat)(ag:Bool)(x:D)(lo hi:Option D):Option D:=
 match GV lo 0,GV hi n with
 |some l,s_ h=>
  if l<=h/\h<=n then
   match x with
   |.ptr key off=>if l=h then s_ (.slc sz [] f_)else s_ (.bsl key (off+l*sz) (h-l) sz ag)
   |.eptr el off=>if l=h then s_ (.slc sz [] f_)else
    if decide (off+n*sz<=el.cells.length)&&decide (0<sz)&&(ag||sz==1)then s_ (.slc sz (KQ sz ag (el.cells.drop (off+l*sz)) (h-l)) (h==n))else n_
   |_=>n_
  else n_
 |_,_=>n_
def FZ(l:List D)(off:Nat)(xs:List D):List D:=l.take off++xs++l.drop (off+xs.length)
def Fa(st:St)(n:Nat)(ag:Bool)(p:D):Option D:=
 if !ag&&n !=1 then n_ else
 match p with
 |.ptr key off=>
  match st[key]? with
  |some o=>if !o.row&&decide (off+n<=o.els.length)then s_ (.mk ag ((o.els.drop off).take n))else n_
  |none=>n_
 |.rptr key tot i off=>
  match st[key]? with
  |some o=>if o.row&&o.els.length==tot then
    match o.els[i]? with
    |some el=>if off+n<=el.cells.length then s_ (.mk ag ((el.cells.drop off).take n))else n_
    |none=>n_
   else n_
  |none=>n_
 |.eptr el off=>if off+n<=el.cells.length then s_ (.mk ag ((el.cells.drop off).take n))else n_
 |_=>n_
def UL(el:D)(off:Nat)(ys:List D):Option D:=
 match el with
 |.agg l=>if off+ys.length<=l.length then s_ (.agg (FZ l off ys))else n_
 |_=>match off,ys with
  |0,[z]=>s_ z
  |_,_=>n_
def Le(st:St)(n:Nat)(p x:D):Option St:=
 match p with
 |.ptr key off=>
  match st[key]? with
  |some o=>
   if !o.row&&!o.lent&&decide (off+n<=o.els.length)&&x.cells.length==n&&x.cells.all D.isCell then
    s_ (st.set key {o with els:=FZ o.els off x.cells})
   else n_
  |none=>n_
 |.rptr key tot i off=>
  match st[key]?,D2 st x with
  |some o,s_ y=>
   if o.row&&!o.lent&&o.els.length==tot&&(keys x).isEmpty then
    match o.els[i]? with
    |some el=>
     match UL el off y.cells with
     |some el'=>if y.cells.length=n then s_ (st.set key {o with els:=o.els.set i el'})else n_
     |none=>n_
    |none=>n_
   else n_
  |_,_=>n_
 |_=>n_
def jX(st:St)(sz key tot off len:Nat)(s:D):Option (D×St):=
 match st[key]?,H6 st s with
 |some o,s_ (sz2,xs)=>if o.row&&!o.lent&&o.els.length==tot&&o.sz==1&&sz==1&&(sz2==1||xs.isEmpty)&&decide (off+len<=tot)&&!Kk s&&decide (0<min len xs.length)then
   s_ (.int .i64 (min len xs.length:Nat),st.set key {o with els:=FZ o.els off (xs.take (min len xs.length))})else n_
 |_,_=>n_
def L7(st:St)(sz:Nat)(d s:D):Option (D×St):=
 match d,s with
 |.bsl key off n sz1 _,.bsl key2 off2 n2 sz2 _=>if n=0\/n2=0\/sz1≠sz\/sz2≠sz\/sz=0 then n_ else
  match st[key]?,st[key2]? with
  |some o,s_ o2=>if !o.row&&!o.lent&&!o2.row&&decide (off+min n n2*sz<=o.els.length)&&decide (off2+min n n2*sz<=o2.els.length)&&((o2.els.drop off2).take (min n n2*sz)).all D.isCell then
    s_ (.int .i64 (min n n2:Nat),st.set key {o with els:=FZ o.els off ((o2.els.drop off2).take (min n n2*sz))})
   else n_
  |_,_=>n_
 |.slc _ [] _,.bsl _ _ _ _ _ | .bsl _ _ _ _ _,.slc _ [] _ | .slc _ [] _,.slc _ [] _=>s_ (.int .i64 0,st)
 |.row key tot off len,s=>jX st sz key tot off len s
 |_,_=>n_
def EW(st:St)(sz bytes:Nat)(s x:D):Option (D×St):=
 match H6 st x with
 |none=>n_
 |some (szx,xs)=>
  if !(szx==sz||xs.isEmpty)||sz==0 then n_ else
  match s with
  |.row key tot off len=>
   match st[key]? with
   |some o=>
    if o.row&&o.sz==sz&&o.els.length==tot&&off==0&&len==tot&&decide ((tot+xs.length)*bytes<=140737488355328)&&decide (tot+xs.length<=4294967296)then
     s_ (.row key (tot+xs.length) 0 (tot+xs.length),st.set key {o with els:=o.els++xs})
    else n_
   |none=>n_
  |.slc sz' els t_=>
   if xs.isEmpty then s_ (.slc sz' els t_,st)
   else if(sz'==sz||els.isEmpty)&&decide ((els.length+xs.length)*bytes<=140737488355328)&&decide (els.length+xs.length<=4294967296)then
    s_ (.row st.length (els.length+xs.length) 0 (els.length+xs.length),st++[{row:=t_,sz,els:=els++xs,lent:=f_}])
   else n_
  |_=>n_
def ER(st:St)(sz:Nat)(x i:D):Option D:=
 match FA i with
 |none=>n_
 |some j=>
  match x with
  |.slc sz' els _=>match els[j]? with
   |some el=>if sz'==sz then s_ (.eptr el 0)else n_
   |none=>n_
  |.row key tot off len=>match st[key]? with
   |some o=>if o.row&&o.sz==sz&&o.els.length==tot&&decide (j<len)then s_ (.rptr key tot (off+j) 0)else n_
   |none=>n_
  |.bsl key off n sz' _=>if j<n/\sz'=sz then s_ (.ptr key (off+j*sz))else n_
  |_=>n_
def FE(st:St)(off:Nat):D->Option D
 |.ptr key o=>s_ (.ptr key (o+off))
 |.rptr key tot i o=>if EY st key tot then s_ (.rptr key tot i (o+off))else n_
 |.eptr el o=>s_ (.eptr el (o+off))
 |_=>n_
def J8(st:St)(n sz:Nat)(p i:D):Option D:=
 match FA i with
 |none=>n_
 |some j=>if j<n then FE st (j*sz) p else n_
def Jf(x i:D):Option D:=
 match x,FA i with
 |.str s,s_ j=>match s[j]? with
  |some b=>s_ (DK b)
  |none=>n_
 |_,_=>n_
def Ov(off n:Nat)(ag:Bool)(x:D):Option D:=
 match x with
 |.agg cs=>if decide (off+n<=cs.length)&&(ag||n==1)then s_ (.mk ag ((cs.drop off).take n))else n_
 |_=>n_
def Qt(len sz:Nat)(ag:Bool)(x i:D):Option D:=
 match FA i with
 |some j=>if j<len then Ov (j*sz) sz ag x else n_
 |none=>n_
def Ec:List D->List (Nat×Nat×D)->Option (List D)
 |cs,[]=>s_ cs
 |cs,(off,size,d)::r=>
  if d.cells.length==size&&decide (off+size<=cs.length)&&d.cells.all D.isCell then Ec (FZ cs off d.cells) r else n_
def opnds{α β:Type}(f:α->β):Option α->Option β
 |some x=>s_ (f x)
 |none=>n_
def Gk:D->List Nat
 |.row k _ _ _ | .bsl k _ _ _ _ | .ptr k _ | .rptr k _ _ _ | .mapv k=>[k]
 |_=>[]
def DT:D->List Nat
 |.clo _ l=>l.flatMap Gk
 |d=>Gk d
def hk:D->List Nat
 |.agg l=>l.flatMap DT
 |d=>DT d
def Obj.see(o:Obj):Bool×Nat×List D:=(o.row,o.sz,o.els)
def Ij(st:St):List Nat->List (Option (Bool×Nat×List D))
 |[]=>[]
 |k::l=>(st[k]?).map Obj.see::Ij st l
def I5(sp:List D->List (Option (Bool×Nat×List D))->Option D)(ds:List D)(st:St):Option D:=
 if(ds.flatMap hk).all (λk=>(st[k]?).isSome)then sp ds (Ij st (ds.flatMap hk))else n_
structure Tbl where
 p:Nat->Option (zsP)
 i:Nat->Option (zsF)
 m:Nat->Option (List D->Option ((Nat->D)×(Nat->List Obj)))
 y:Nat->zsF:=λ_ _ _=>n_
 r:Nat->Option ((zsF)->zsF):=λ_=>n_
 x:Nat->Option (zsX):=λ_=>n_
 q:Nat->Option (List D->List (Option (Bool×Nat×List D))->Option D):=λ_=>n_
abbrev Dy:=Nat->Option D
def Pv(isMax:Bool)(a b:Int):Int:=if isMax then(if b>a then b else a)else(if b<a then b else a)
def POp.exec(T:Tbl)(ρ:PA->D)(st:St):POp->Option (D×St)
 |.mov x=>s_ (ρ x,st)
 |.pick c x y=>match ρ c with
  |.bool b=>s_ (if b then ρ x else ρ y,st)
  |_=>n_
 |.box x=>if(ρ x).cells.all D.isCell then s_ (.ptr st.length 0,st++[{row:=f_,sz:=1,els:=(ρ x).cells,lent:=f_}])else n_
 |.bld zero parts=>(Ec zero (parts.map λp=>(p.1,p.2.1,ρ p.2.2))).map λcs=>(.agg cs,st)
 |.bslc sz parts=>match Ey st (parts.map ρ)with
  |some els=>if(els.all λe=>e.cells.length==sz)&&decide (0<sz)&&decide (els.length*sz<=16777216)then s_ (.slc sz els t_,lend ((parts.map ρ).flatMap keys) st)else n_
  |none=>n_
 |.load n ag p=>(Fa st n ag (ρ p)).map (·,st)
 |.stor n p x=>(Le st n (ρ p) (ρ x)).map (.tup [],·)
 |.nilc x=>match ρ x with
  |.ptr _ _ | .eptr _ _=>s_ (ρ x,st)
  |.rptr key tot _ _=>if EY st key tot then s_ (ρ x,st)else n_
  |_=>n_
 |.bin op x y=>(DI op (ρ x) (ρ y)).map (·,st)
 |.beq neg x y=>(Pr neg (ρ x) (ρ y)).map (·,st)
 |.aeq ks neg x y=>(Jg ks neg (ρ x) (ρ y)).map (·,st)
 |.un op x=>(Pq op (ρ x)).map (·,st)
 |.conv c x=>(Gm st c (ρ x)).map (·,st)
 |.mkslc sz bytes zero ln cp=>match FA (ρ ln),FA (ρ cp)with
  |some l,s_ c=>if l<=c/\c<=4294967296/\c*bytes<=140737488355328/\0<sz/\zero.cells.length=sz/\zero.cells.all D.pure1=t_ then
    s_ (.row st.length l 0 l,st++[{row:=t_,sz,els:=C7 l zero,lent:=f_}])else n_
  |_,_=>n_
 |.slice sz x lo hi mx=>(GS st sz (ρ x) (lo.map ρ) (hi.map ρ) (mx.map ρ)).map (·,st)
 |.sliceA n sz ag x lo hi=>(Sv n sz ag (ρ x) (lo.map ρ) (hi.map ρ)).map (·,st)
 |.fld off p=>(FE st off (ρ p)).map (·,st)
 |.fldv off n ag x=>(Ov off n ag (ρ x)).map (·,st)
 |.idxS sz x i=>(ER st sz (ρ x) (ρ i)).map (·,st)
 |.idxA n sz p i=>(J8 st n sz (ρ p) (ρ i)).map (·,st)
 |.idx x i=>(Jf (ρ x) (ρ i)).map (·,st)
 |.idxV ln sz ag x i=>(Qt ln sz ag (ρ x) (ρ i)).map (·,st)
 |.len str x=>if Kk (ρ x)==str then(FB st (ρ x)).map λ(n:Nat)=>(D.int .i64 (n:Int),st)else n_
 |.lenA n=>s_ (.int .i64 (n:Int),st)
 |.app sz bytes s x=>EW st sz bytes (ρ s) (ρ x)
 |.mm isMax x y=>match ρ x,ρ y with
  |.int k a,.int _ b=>s_ (.int k (if isMax then(if b>a then b else a)else(if b<a then b else a)),st)
  |_,_=>n_
 |.mm3 isMax x y z=>match ρ x,ρ y,ρ z with
  |.int k a,.int _ b,.int _ c=>s_ (.int k (Pv isMax (Pv isMax a b) c),st)
  |_,_,_=>n_
 |.rcall f args=>match T.q f with
  |some sp=>(I5 sp (args.map ρ) st).map (·,st)
  |none=>n_
 |.icall f args=>match T.i f with
  |some sp=>sp (args.map ρ) st
  |none=>n_
 |.mcall f args=>match T.m f with
  |some sp=>match sp (args.map ρ)with
   |some r=>s_ (r.1 st.length,st++r.2 st.length)
   |none=>n_
  |none=>n_
 |.callv x args=>match ρ x with
  |.clo f caps=>if f<5000000 then match T.i f with
    |some sp=>sp (args.map ρ++caps) st
    |none=>n_
   else if f<10000000 then match T.i (f-5000000)with
    |some sp=>sp (caps++args.map ρ) st
    |none=>n_
   else if caps.isEmpty then T.y (f-10000000) (args.map ρ) st else n_
  |_=>n_
 |.mkclo f caps=>s_ (.clo f (caps.map ρ),st)
 |.call f args=>match T.p f,Ey st (args.map ρ)with
  |some sp,s_ vs=>match sp vs with
   |some r=>s_ (r,if r.noRef then st else lend ((args.map ρ).flatMap keys) st)
   |none=>n_
  |_,_=>n_
 |.ext x i=>match ρ x with
  |.tup vs=>(vs[i]?).map (·,st)
  |_=>n_
 |.mkmap sz=>if 1<mS sz/\sz≠1000003 then s_ (.mapv st.length,st++[{row:=f_,sz,els:=[],lent:=f_}])else n_
 |.mapup sz ks m k v=>(Mp st sz ks (ρ m) (ρ k) (ρ v)).map (.tup [],·)
 |.mapget sz ks ok zero m k=>(JH st sz ks ok zero (ρ m) (ρ k)).map (·,st)
 |.cpy sz d s=>L7 st sz (ρ d) (ρ s)
 |.fail=>n_
structure Foot where
 rd:List Nat
 wr:List Nat
 nu:Option Nat
 deriving Inhabited
def H3{α:Type}:Option α->List α
 |some x=>[x]
 |none=>[]
def POp.args:POp->List PA
 |.mov x | .box x | .nilc x | .un _ x | .conv _ x | .fld _ x | .fldv _ _ _ x | .len _ x | .ext x _ | .load _ _ x=>[x]
 |.pick c x y=>[c,x,y]
 |.bld _ parts=>parts.map λp=>p.2.2
 |.bslc _ parts=>parts
 |.stor _ p x=>[p,x]
 |.bin _ x y | .beq _ x y | .aeq _ _ x y | .mm _ x y | .app _ _ x y=>[x,y]
 |.mkslc _ _ _ l c=>[l,c]
 |.slice _ x lo hi mx=>x::(H3 lo++H3 hi++H3 mx)
 |.sliceA _ _ _ x lo hi=>x::(H3 lo++H3 hi)
 |.idxS _ x i | .idxA _ _ x i | .idx x i | .idxV _ _ _ x i=>[x,i]
 |.lenA _ | .fail | .mkmap _=>[]
 |.mapup _ _ m k v=>[m,k,v]
 |.mapget _ _ _ _ m k=>[m,k]
 |.cpy _ d s=>[d,s]
 |.mm3 _ x y z=>[x,y,z]
 |.call _ args | .icall _ args | .mcall _ args | .rcall _ args | .mkclo _ args=>args
 |.callv x args=>x::args
def MT:D->List Nat
 |.rptr k _ _ _=>[k]
 |_=>[]
def G8:D->Nat->Option Nat
 |.slc _ [] _,_=>n_
 |_,n=>s_ n
def POp.foot(ρ:PA->D)(st:St):POp->Option Foot
 |.stor _ p x=>s_ ⟨hk (ρ x),hk (ρ p),n_⟩
 |.box _ | .mkslc _ _ _ _ _=>s_ ⟨[],[],s_ st.length⟩
 |.app _ _ s x=>match ρ s with
  |.row key _ _ _=>s_ ⟨hk (ρ x),[key],n_⟩
  |_=>s_ ⟨hk (ρ x),[],G8 (ρ x) st.length⟩
 |.mcall _ _=>s_ ⟨[],[],s_ st.length⟩
 |.mkmap _=>s_ ⟨[],[],s_ st.length⟩
 |.mapup _ _ m _ _=>s_ ⟨[],hk (ρ m),n_⟩
 |.icall _ _ | .callv _ _ | .cpy _ _ _ | .fail=>n_
 |.fld _ x | .nilc x | .idxA _ _ x _=>s_ ⟨MT (ρ x),[],n_⟩
 |p=>s_ ⟨(p.args.map ρ).flatMap hk,[],n_⟩
def H5(a b:List Nat):Bool:=a.all λk=>!b.contains k
def Ly(m:Option Nat)(a:List Nat):Bool:=match m with
 |some n=>a.all λk=>decide (k<n)
 |none=>t_
def Foot.ok(f g:Foot):Bool:=H5 g.wr f.rd&&H5 g.wr f.wr&&H5 f.wr g.rd&&Ly f.nu g.rd&&Ly f.nu g.wr&&Ly g.nu f.rd&&Ly g.nu f.wr&&(f.nu.isNone||g.nu.isNone)
def ck1:Option (Option Foot)->Option Foot->Bool
 |some (s_ f),s_ g=>f.ok g
 |_,_=>f_
def QB(fs:List (Option Foot))(g:Option Foot):List Nat->Bool
 |[]=>t_
 |j::r=>ck1 fs[j]? g&&QB fs g r
def PW:Foot:=⟨[],[],n_⟩
abbrev Frame:=Nat->D
def Frame.set(fr:Frame)(s:Nat)(d:D):Frame:=λt=>if t=s then d else fr t
def Frame.put(fr:Frame)(s:Option Nat)(d:D):Frame:=match s with
 |some s=>fr.set s d
 |none=>fr
structure PS where
 fr:Frame
 st:St
structure PI where
 dst:Option Nat
 op:POp
 guard:Option (Nat×Bool):=n_
 deriving Inhabited
def DJ(G:Dy)(fr:Frame):PA->D
 |.s n=>fr n
 |.c d=>d
 |.g n=>match G n with
  |some d=>.eptr d 0
  |none=>.junk
def PI.wanted(fr:Frame)(i:PI):Option Bool:=
 match i.guard with
 |none=>s_ t_
 |some (s,want)=>match fr s with
  |.bool b=>s_ (b==want)
  |.tup []=>s_ f_
  |_=>n_
def PI.exec(G:Dy)(T:Tbl)(i:PI)(s:PS):Option PS:=
 match i.wanted s.fr with
 |none=>n_
 |some f_=>s_ {s with fr:=s.fr.put i.dst (.tup [])}
 |some t_=>match i.op.exec T (DJ G s.fr) s.st with
  |some (d,st)=>s_ {fr:=s.fr.put i.dst d,st}
  |none=>n_
def Fq(G:Dy)(T:Tbl):List PI->PS->Option PS
 |[],s=>s_ s
 |i::l,s=>match i.exec G T s with
  |some s'=>Fq G T l s'
  |none=>n_
def PI.foot(G:Dy)(i:PI)(s:PS):Option Foot:=match i.wanted s.fr with
 |some t_=>i.op.foot (DJ G s.fr) s.st
 |_=>s_ PW
def GB(G:Dy)(T:Tbl):List (PI×Bool×List Nat)->List (Option Foot)->PS->Option PS
 |[],_,s=>s_ s
 |(i,b,cs)::l,fs,s=>if QB fs (i.foot G s) cs then
   match i.exec G T s with
   |some s'=>GB G T l (fs++[if b then i.foot G s else n_]) s'
   |none=>n_
  else n_
def Td(st st':St):Foot:=⟨[],(C9 st.length).filter (λk=>@decide (¬st'[k]?=st[k]?) (Classical.propDecidable _)),s_ st.length⟩
def POp.isCall:POp->Bool
 |.icall _ _ | .callv _ _=>t_
 |_=>f_
def POp.light:POp->Bool
 |.load _ _ _ | .nilc _ | .slice _ _ _ _ _ | .fld _ _ | .idxS _ _ _ | .idxA _ _ _ _ | .len _ _=>t_
 |_=>f_
def PI.footT(G:Dy)(T:Tbl)(i:PI)(s:PS):Option Foot:=match i.wanted s.fr with
 |some t_=>if i.op.isCall then(match i.exec G T s with
  |some s1=>s_ (Td s.st s1.st)
  |none=>n_)else i.op.foot (DJ G s.fr) s.st
 |_=>s_ PW
def Na(f:Foot):Bool:=f.rd.isEmpty&&f.wr.isEmpty&&f.nu.isNone
def Vo(x y:PI)(f g:Foot):Bool:=(f.ok g&&(!x.op.isCall||Na f)&&(!y.op.isCall||Na g))||(y.op.isCall&&x.op.light&&H5 f.rd g.wr&&Ly g.nu f.rd)||(x.op.isCall&&y.op.light&&H5 g.rd f.wr&&Ly f.nu g.rd)
def R5(x:Option (PI×Option Foot))(y:PI)(g:Option Foot):Bool:=match x,g with
 |some (x,s_ f),s_ g=>Vo x y f g
 |_,_=>f_
def O0(G:Dy)(T:Tbl):List (PI×Bool×List Nat)->List (PI×Option Foot)->PS->Option PS
 |[],_,s=>s_ s
 |(i,_,cs)::l,fs,s=>match i.exec G T s with
  |some s'=>if cs.all (λj=>R5 fs[j]? i (i.footT G T s))then O0 G T l (fs++[(i,i.footT G T s)]) s' else n_
  |none=>n_
inductive Ex where
 |next
 |exit (id:Nat)
 |ret
 |panic (t:Nat) (d:D)
inductive PC where
 |skip
 |ops (l:List PI)
 |any (l:List (PI×Bool×List Nat))
 |any2 (keep:List Nat) (l1 l2:List (PI×Bool×List Nat))
 |anyK (l:List (PI×Bool×List Nat))
 |seq (a b:PC)
 |cond (c:PA) (a b:PC)
 |block (id:Nat) (c:PC)
 |loop (keep:List Nat) (c:PC)
 |loopA (keep:List Nat) (c:PC)
 |range (x:PA) (ps:List Nat) (a b:PC)
 |opsX (l:List PI)
 |pan (l:List PI) (d1 t:Nat) (x:PA)
 |alt (a b:PC)
 |exit (id:Nat)
 |ret
 |fail
 deriving Inhabited
def IK(n:Nat):D->D
 |.row key tot off len=>if key<n then .row key tot off len else .junk
 |.bsl key off m sz ag=>if key<n then .bsl key off m sz ag else .junk
 |.ptr key off=>if key<n then .ptr key off else .junk
 |.rptr key tot i off=>if key<n then .rptr key tot i off else .junk
 |.mapv key=>if key<n then .mapv key else .junk
 |.agg _ | .tup _ | .clo _ _=>.junk
 |d=>d
def Hi(n:Nat):D->D
 |.clo f l=>.clo f (l.map (IK n))
 |d=>IK n d
def Ia(n:Nat):D->D
 |.agg l=>.agg (l.map (Hi n))
 |.tup _=>.junk
 |d=>Hi n d
def GU:List (Nat×D)->Frame
 |[],_=>.junk
 |(s,d)::r,t=>if t=s then d else GU r t
def FT(lo hi:Nat):List Nat->List Nat->List Nat
 |[],acc=>acc
 |k::r,acc=>FT lo hi r (if lo<=k/\k<hi/\acc.contains k=f_ then acc++[k]else acc)
def Tm:List Nat->Nat->Nat->Option Nat
 |[],_,_=>n_
 |k::r,b,key=>if key=k then s_ b else Tm r (b+1) key
def Fv(n:Nat)(σ:List Nat)(key:Nat):Option Nat:=if key<n then s_ key else Tm σ n key
def KI(f:Nat->D):Option Nat->D
 |some k=>f k
 |none=>.junk
def Hy(n:Nat)(σ:List Nat):D->D
 |.row key tot off len=>KI (λk=>.row k tot off len) (Fv n σ key)
 |.bsl key off m sz ag=>KI (λk=>.bsl k off m sz ag) (Fv n σ key)
 |.ptr key off=>KI (λk=>.ptr k off) (Fv n σ key)
 |.rptr key tot i off=>KI (λk=>.rptr k tot i off) (Fv n σ key)
 |.mapv key=>KI .mapv (Fv n σ key)
 |.agg _ | .tup _ | .clo _ _=>.junk
 |d=>d
def E5(n:Nat)(σ:List Nat):D->D
 |.clo f l=>.clo f (l.map (Hy n σ))
 |d=>Hy n σ d
def ED(n:Nat)(σ:List Nat):D->D
 |.agg l=>.agg (l.map (E5 n σ))
 |.tup _=>.junk
 |d=>E5 n σ d
def FD(n:Nat)(σ:List Nat)(o:Obj):Obj:={o with els:=if o.row then o.els else o.els.map (ED n σ)}
def picked(n:Nat)(σ:List Nat)(st:St):St:=(st.take n).map (FD n σ)++σ.map λk=>FD n σ (st.getD k default)
def aE(keep:List Nat)(n:Nat)(s:PS):List Nat:=
 (keep.flatMap λk=>hk (s.fr k))++(s.st.take n).flatMap λo=>if o.row then []else o.els.flatMap hk
def restrictAt(keep:List Nat)(n:Nat)(σ:List Nat)(s:PS):PS:=
 {fr:=GU (keep.map λk=>(k,ED n σ (s.fr k))),st:=picked n σ s.st}
def restrict(keep:List Nat)(n:Nat)(s:PS):PS:=
 restrictAt keep (if n<=s.st.length then n else s.st.length) (FT (if n<=s.st.length then n else s.st.length) s.st.length (aE keep (if n<=s.st.length then n else s.st.length) s) []) s
def LA(body:PS->Option (Ex×PS))(cut:PS->PS):Nat->PS->Option (Ex×PS)
 |0,_=>n_
 |n+1,s=>match body (cut s)with
  |some (.next,s')=>LA body cut n s'
  |some (e,s')=>s_ (e,s')
  |none=>n_
def sV(keep:List Nat)(n:Nat)(s1 s2:PS):Option PS:=
 @ite _ (s1.st.length=n+2/\s2.st.length=n+2/\restrictAt keep n [n+1,n] s2=restrictAt keep n [n,n+1] s1) (Classical.propDecidable _) (s_ (restrictAt keep n [n,n+1] s1)) n_
def K0(fr:Frame):List Nat->List D->Frame
 |p::ps,d::ds=>K0 (fr.put (s_ p) d) ps ds
 |_,_=>fr
def recO(n:Int):Obj:=⟨f_,1000003,[.int .i64 n],f_⟩
def recAt(st:St)(k:Nat):Option Int:=match st[k]? with
 |some o=>if !o.row&&o.sz==1000003 then(match o.els with
  |[.int .i64 n]=>s_ n
  |_=>n_)else n_
 |none=>n_
def jW(st:St)(k:Nat):Option Ex:=match recAt st k with
 |some n=>if n=0 then s_ .next else if n=1 then s_ .ret else n_
 |none=>n_
def MH(ea eb:PS->Option (Ex×PS))(fr:Frame)(ps:List Nat)(k:Nat)(ds:List D)(st:St):Option (D×St):=
 if ds.length=ps.length then match ea ⟨K0 fr ps ds,st⟩with
  |some (.next,s1)=>if recAt s1.st k=s_ 0 then match eb ⟨s1.fr,s1.st.set k (recO 2)⟩with
   |some (.next,s2)=>s_ (.bool t_,s2.st.set k (recO 0))
   |some (.ret,s2)=>s_ (.bool f_,s2.st.set k (recO 1))
   |_=>n_
   else n_
  |_=>n_
 else n_
def Tp(T:Tbl)(l:Nat)(y:zsF):Tbl:={T with y:=λl' ds st=>if l'=l then y ds st else n_}
def YQ(T:Tbl)(d:D)(y:zsF)(st:St):Option St:=match d with
 |.clo f caps=>if f<5000000 then match T.r f with
   |some sp=>(sp y caps st).map (·.2)
   |none=>n_
  else n_
 |_=>n_
def keepAll(keep:List Nat)(s:PS):PS:=⟨GU (keep.map λk=>(k,s.fr k)),s.st⟩
def RY:D->Bool
 |.int _ _=>t_
 |_=>f_
def Lz:D->Bool
 |.agg l=>l.all RY
 |d=>RY d
def POp.callee(ρ:PA->D):POp->Option (Nat×List D)
 |.icall f args=>s_ (f,args.map ρ)
 |.callv x args=>match ρ x with
  |.clo f caps=>if f<5000000 then s_ (f,args.map ρ++caps)else if f<10000000 then s_ (f-5000000,caps++args.map ρ)else n_
  |_=>n_
 |_=>n_
def POp.execX(T:Tbl)(ρ:PA->D)(st:St)(p:POp):Option (Nat×D×St):=match p.callee ρ with
 |some (f,ds)=>match T.x f with
  |some sp=>sp ds st
  |none=>n_
 |none=>n_
def PI.execX(G:Dy)(T:Tbl)(i:PI)(s:PS):Option (Nat×D×PS):=match i.wanted s.fr with
 |some t_=>(i.op.execX T (DJ G s.fr) s.st).map λr=>(r.1,r.2.1,⟨s.fr,r.2.2⟩)
 |_=>n_
def Lm(G:Dy)(T:Tbl):List PI->PS->Option (Nat×D×PS)
 |[],_=>n_
 |i::l,s=>match i.exec G T s with
  |some s'=>Lm G T l s'
  |none=>i.execX G T s
def PC.exec(G:Dy)(T:Tbl)(fuel:Nat):PC->PS->Option (Ex×PS)
 |.skip,s=>s_ (.next,s)
 |.ops l,s=>match Fq G T l s with
  |some s'=>s_ (.next,s')
  |none=>n_
 |.any l,s=>match GB G T l [] s with
  |some s'=>s_ (.next,s')
  |none=>n_
 |.anyK l,s=>match O0 G T l [] s with
  |some s'=>s_ (.next,s')
  |none=>n_
 |.any2 keep l1 l2,s=>match GB G T l1 [] s,GB G T l2 [] s with
  |some s1,s_ s2=>(sV keep s.st.length s1 s2).map λs'=>(.next,s')
  |_,_=>n_
 |.seq a b,s=>match a.exec G T fuel s with
  |some (.next,s')=>b.exec G T fuel s'
  |some (e,s')=>s_ (e,s')
  |none=>n_
 |.cond c a b,s=>match DJ G s.fr c with
  |.bool t_=>a.exec G T fuel s
  |.bool f_=>b.exec G T fuel s
  |_=>n_
 |.block id c,s=>match c.exec G T fuel s with
  |some (.exit id',s')=>if id'=id then s_ (.next,s')else s_ (.exit id',s')
  |some (e,s')=>s_ (e,s')
  |none=>n_
 |.loop keep c,s=>LA (c.exec G T fuel) (restrict keep s.st.length) fuel s
 |.loopA keep c,s=>LA (c.exec G T fuel) (keepAll keep) fuel s
 |.range x ps a b,s=>(YQ T (DJ G s.fr x) (MH (a.exec G T fuel) (b.exec G T fuel) s.fr ps s.st.length) (s.st++[recO 0])).bind λst'=>(jW st' s.st.length).map λe=>(e,⟨s.fr,st'.set s.st.length (recO 2)⟩)
 |.opsX l,s=>match Fq G T l s with
  |some s'=>s_ (.next,s')
  |none=>(Lm G T l s).map λr=>(.panic r.1 r.2.1,r.2.2)
 |.pan l d1 t x,s=>match Fq G T l s with
  |some s'=>if Lz (DJ G s'.fr x)then s_ (.panic t (DJ G s'.fr x),⟨s'.fr.set d1 .junk,s'.st⟩)else n_
  |none=>n_
 |.alt a b,s=>match a.exec G T fuel s with
  |some r=>s_ r
  |none=>b.exec G T fuel s
 |.exit id,s=>s_ (.exit id,s)
 |.ret,s=>s_ (.ret,s)
 |.fail,_=>n_
inductive PRes where
 |tmp (t:Nat)
 |cell (t n:Nat) (ag:Bool)
 deriving Inhabited
structure PF where
 code:PC
 res:List PRes
 deriving Inhabited
def PRes.get(s:PS):PRes->Option D
 |.tmp t=>D2 s.st (s.fr t)
 |.cell t n ag=>match Fa s.st n ag (s.fr t)with
  |some d=>D2 s.st d
  |none=>n_
def E8(s:PS):List PRes->Option (List D)
 |[]=>s_ []
 |r::l=>match r.get s,E8 s l with
  |some x,s_ y=>s_ (x::y)
  |_,_=>n_
def Ed(s:PS):List PRes->Option (List D)
 |[]=>s_ []
 |.tmp t::l=>(Ed s l).map (s.fr t::·)
 |.cell t n ag::l=>match Fa s.st n ag (s.fr t),Ed s l with
  |some x,s_ y=>s_ (x::y)
  |_,_=>n_
def Du(ds:List D):Frame:=λs=>ds.getD s .junk
def DS:List D->D
 |[d]=>d
 |ds=>.tup ds
def PF.run(G:Dy)(T:Tbl)(F:PF)(fuel:Nat)(ds:List D):Option D:=
 match F.code.exec G T fuel {fr:=Du ds,st:=[]} with
 |some (.next,s)|some (.ret,s)=>(E8 s F.res).map DS
 |_=>n_
def PF.runI(G:Dy)(T:Tbl)(F:PF)(fuel:Nat)(ds:List D)(st:St):Option (D×St):=
 match F.code.exec G T fuel {fr:=Du ds,st} with
 |some (.next,s)|some (.ret,s)=>(Ed s F.res).map λl=>(DS l,s.st)
 |_=>n_
def PF.runX(G:Dy)(T:Tbl)(F:PF)(fuel:Nat)(ds:List D)(st:St):Option (Nat×D×St):=
 match F.code.exec G T fuel {fr:=Du ds,st} with
 |some (.panic t d,s)=>s_ (t,d,s.st)
 |_=>n_
structure PFD where
 pre:List PI
 hf:PA
 ha:List PA
 code:PC
 res:List PRes
 deriving Inhabited
abbrev HI:=Nat->Option (Nat->D->List D->St->Option St)
def OL(f:D)(ds:List D):Option (Nat×List D):=match f with
 |.clo f caps=>if f<5000000 then s_ (f,ds++caps)else n_
 |_=>n_
def PFD.runI(G:Dy)(T:Tbl)(H:HI)(F:PFD)(fuel:Nat)(ds:List D)(st:St):Option (D×St):=
 match Fq G T F.pre {fr:=Du ds,st} with
 |some s1=>match OL (DJ G s1.fr F.hf) (F.ha.map (DJ G s1.fr))with
  |some (f,das)=>match H f with
   |some h=>match F.code.exec G T fuel s1 with
    |some (.next,s)|some (.ret,s)=>(Ed s F.res).map λl=>(DS l,s.st)
    |some (.panic t d,s)=>match h t d das s.st with
     |some st3=>(Ed ⟨s.fr,st3⟩ F.res).map λl=>(DS l,st3)
     |none=>n_
    |_=>n_
   |none=>n_
  |none=>n_
 |none=>n_
def Ji(n:Nat):D->D
 |.tup l=>.tup (l.map (Ia n))
 |d=>Ia n d
def cut(k:Nat)(st:St):St:=(st.take k).map λo=>{o with els:=if o.row then o.els else o.els.map (Ia k)}
def dropped(f:zsF)(ds:List D)(st:St):Option (D×St):=
 (f ds st).map λr=>(Ji st.length r.1,cut st.length r.2)
open Go Go.RowKit
structure Ghost where
 β:Nat->Nat
 γ:Nat->Nat
 Im:Nat->Nat->Prop
def GC(els:List D)(i j:Nat):Option D:=match els[i]? with
 |some e=>e.cells[j]?
 |none=>n_
def IN(f:Nat):Fn:=if f<5000000 then .func f else if f<10000000 then .func (f-5000000)else .yield (f-10000000)
def Sr(f:Nat)(vs:List Value):Array Value:=if 5000000<=f/\f<10000000 then vs.toArray else #[]
def Ts(f:Nat)(vs:List Value):Array Value:=if 5000000<=f/\f<10000000 then #[]else vs.toArray
variable{f:Nat}
def Ss(h:f<5000000):IN f=.func f:=zae h
def WZ(h:f<5000000)(vs:List Value):Sr f vs=#[]:=zaf zaa
def WV(h:f<5000000)(vs:List Value):Ts f vs=vs.toArray:=zaf zaa
def mD(f:Nat):Sr f []=#[]:=by unfold Sr;split<;>rfl
def lE(f:Nat):Ts f []=#[]:=by unfold Ts;split<;>rfl
def Ya8(l:Nat):IN (10000000+l)=.yield l:=by unfold IN;rw[YYN,YYN,B7]
def yWw(h:f<5000000):IN (f+5000000)=.func f:=by unfold IN;rw[YYN,zae zaa,B8]
def yEo(h:f<5000000)(vs:List Value):Sr (f+5000000) vs=vs.toArray:=zae ⟨zaa,zaa⟩
def yHx(h:f<5000000)(vs:List Value):Ts (f+5000000) vs=#[]:=zae ⟨zaa,zaa⟩
variable{o:Obj}
theorem yK(h:o.isMap=t_):o.row=f_:=by unfold Obj.isMap at h;grind
def TW{o':Obj}(E:o'.row=o.row)(N:o'.sz=o.sz):o'.isMap=o.isMap:=by unfold Obj.isMap;rw[E,N]
def OY(h:o.row=t_):o.isMap=f_:=by unfold Obj.isMap;rw[h];rfl
def SW(h:o.sz=1):o.isMap=f_:=by unfold Obj.isMap;rw[h];simp
def RI:Value->Nat->Bool
 |.int .u8 _,_=>t_
 |.string _,n=>decide (40<=n)
 |_,_=>f_
def Ve:Value->Bool
 |.agg cs=>match cs.toList with
  |[.func (.func f) _ _]=>Vf f
  |_=>f_
 |_=>f_
def Nl:Go.Obj->Bool
 |.map es _=>match es[0]? with
  |some e=>RI e.key es.size||Ve e.val
  |none=>f_
 |_=>f_
theorem vK(es:Array MapEntry)(c:Nat):Nl (.map es c)=(match es[0]? with|some e=>RI e.key es.size||Ve e.val|none=>f_):=(rfl)
def Qx:D->Value
 |.int k n=>.int k n
 |.bool b=>.bool b
 |.str s=>.string ⟨s.toArray⟩
 |.agg [.clo f []]=>.agg #[.func (IN f) #[] #[]]
 |_=>.nilIface
def So(ents:Array MapEntry)(t:GT):Prop:=
 ∃l:List D,l.Perm t.els/\ents.size=l.length/\(∀(i:Nat)(e:MapEntry)(el:D),ents[i]?=s_ e->l[i]?=s_ el->e.key=Qx (DE 2 el)/\e.val=Qx (G7 t.sz el))/\(t.els.map (DE 2)).Nodup
inductive RepV (w:World) (g:Ghost) (st:St):D->Value->Prop
 |int (k:IntKind) (n:Int):RepV w g st (.int k n) (.int k n)
 |bool (b:Bool):RepV w g st (.bool b) (.bool b)
 |str (s:zLB):RepV w g st (.str s) (.string ⟨s.toArray⟩)
 |nilp:RepV w g st .nilp (.pointer n_)
 |nilm:RepV w g st .nilm (.map n_)
 |gmap (t:GT) (b:Nat) (ents:Array MapEntry) (clock:Nat):w.heap[b]?=s_ (.map ents clock)->Nl (.map ents clock)=t_->So ents t->RepV w g st (.gmap t) (.map (s_ b))
 |slcE (sz:Nat) (t:Bool) (a:Option Addr) (cap:Nat):(t=t_->cap=0)->RepV w g st (.slc sz [] t) (.slice a 0 cap)
 |slc (els:List D) (t:Bool) (b off cap sz:Nat) (val:Nat->Nat->Value):els≠[]->0<sz->(∀e∈els,e.cells.length=sz)->(∀i j d,GC els i j=s_ d->d.pure1=t_)->els.length<=cap->(t=t_->cap=els.length)->
   (∀i j d,GC els i j=s_ d->g.Im b (off+i*sz+j)/\w.cell? ⟨b,off+i*sz+j,n_⟩=s_ (val i j))->
   (∀i j d,GC els i j=s_ d->RepV w g st d (val i j))->RepV w g st (.slc sz els t) (.slice (s_ ⟨b,off,n_⟩) els.length cap)
 |row (key tot off len:Nat) (o:Obj) (v:Value):v.oneCell'=t_->st[key]?=s_ o->o.row=t_->tot<=o.els.length->
   (tot=o.els.length->v=.slice (s_ ⟨g.β key,off*o.sz,n_⟩) len (g.γ key-off)/\off+len<=tot)->RepV w g st (.row key tot off len) v
 |bsl (key off n sz:Nat) (ag:Bool) (o:Obj) (cap:Nat):st[key]?=s_ o->o.row=f_->o.sz=1->n<=cap->RepV w g st (.bsl key off n sz ag) (.slice (s_ ⟨g.β key,off,n_⟩) n cap)
 |mapv (key:Nat) (o:Obj):st[key]?=s_ o->o.isMap=t_->RepV w g st (.mapv key) (.map (s_ (g.β key)))
 |ptr (key off:Nat) (o:Obj):st[key]?=s_ o->o.row=f_->o.sz=1->RepV w g st (.ptr key off) (.pointer (s_ ⟨g.β key,off,n_⟩))
 |rptr (key tot i off:Nat) (o:Obj) (v:Value):v.oneCell'=t_->st[key]?=s_ o->o.row=t_->tot<=o.els.length->
   (tot=o.els.length->v=.pointer (s_ ⟨g.β key,i*o.sz+off,n_⟩))->RepV w g st (.rptr key tot i off) v
 |eptr (el:D) (off b o:Nat) (val:Nat->Value):(∀(j:Nat)(d:D),el.cells[j]?=s_ d->d.pure1=t_)->
   (∀(j:Nat)(d:D),el.cells[j]?=s_ d->g.Im b (o+j)/\w.cell? ⟨b,o+j,n_⟩=s_ (val j))->
   (∀(j:Nat)(d:D),el.cells[j]?=s_ d->RepV w g st d (val j))->RepV w g st (.eptr el off) (.pointer (s_ ⟨b,o+off,n_⟩))
 |agg (ds:List D) (vs:List Value):ds.length=vs.length->(∀(i:Nat)(d:D)(v:Value),ds[i]?=s_ d->vs[i]?=s_ v->RepV w g st d v)->RepV w g st (.agg ds) (.agg vs.toArray)
 |tup (ds:List D) (vs:List Value):ds.length=vs.length->(∀(i:Nat)(d:D)(v:Value),ds[i]?=s_ d->vs[i]?=s_ v->RepV w g st d v)->RepV w g st (.tup ds) (.tuple vs.toArray)
 |clo (f:Nat) (ds:List D) (vs:List Value):ds.length=vs.length->(∀(i:Nat)(d:D)(v:Value),ds[i]?=s_ d->vs[i]?=s_ v->RepV w g st d v)->RepV w g st (.clo f ds) (.func (IN f) (Sr f vs) (Ts f vs))
 |nilf:RepV w g st .nilf .nilFunc
 |junk (v:Value):RepV w g st .junk v
def Evo(g:Ghost)(st:St)(g':Ghost)(st':St):Prop:=
 ∀(k:Nat)(o:Obj),st[k]?=s_ o->∃o',st'[k]?=s_ o'/\o'.row=o.row/\o'.sz=o.sz/\o.els.length<=o'.els.length/\
  (o'.els.length=o.els.length->g'.β k=g.β k/\g'.γ k=g.γ k)/\(o.row=f_->g'.β k=g.β k)
theorem Evo.refl(g:Ghost)(st:St):Evo g st g st:=λ_ o h=>⟨o,h,rfl,rfl,Au _,λ_=>⟨rfl,rfl⟩,λ_=>rfl⟩
variable{st st1 st2:St}{g g1 g2:Ghost}
theorem Evo.trans(h:Evo g st g1 st1)(E:Evo g1 st1 g2 st2):Evo g st g2 st2:=by intro k o N;obtain⟨o1,h1,r1,s1,l1,b1,c1⟩:=h k o N;obtain⟨o2,h2,r2,s2,l2,b2,c2⟩:=E k o1 h1;grind
structure ImLe (w:World) (g:Ghost) (w':World) (g':Ghost):Prop where
 im:∀b o,g.Im b o->g'.Im b o/\w'.cell? ⟨b,o,n_⟩=w.cell? ⟨b,o,n_⟩
 kp:∀(b:Nat)(o:Go.Obj),w.heap[b]?=s_ o->Nl o=t_->w'.heap[b]?=s_ o
theorem ImLe.refl(w:World)(g:Ghost):ImLe w g w g:=⟨λ_ _ h=>⟨h,rfl⟩,λ_ _ h _=>h⟩
variable{w w1 w2:World}
theorem ImLe.trans(h:ImLe w g w1 g1)(E:ImLe w1 g1 w2 g2):ImLe w g w2 g2:=
 ⟨λb o hb=>⟨(E.im b o (h.im b o hb).1).1,(E.im b o (h.im b o hb).1).2.trans (h.im b o hb).2⟩,λb o hb N=>E.kp b o (h.kp b o hb N) N⟩
variable{v:Value}{d:D}{st':St}{g':Ghost}{w':World}
theorem RepV.mono(hI:ImLe w g w' g')(hE:Evo g st g' st')(h:RepV w g st d v):RepV w' g' st' d v:=by
 induction h with
 |int k n=>exact .int k n
 |bool b=>exact .bool b
 |str s=>exact .str s
 |nilp=>exact .nilp
 |nilm=>exact .nilm
 |gmap es b a3 clock E N h3=>exact .gmap es b a3 clock (hI.kp _ _ E N) N h3
 |slcE sz t a cap h=>exact .slcE sz t a cap h
 |slc els t b off cap sz val E N h3 a6 h4 h5 h6 _ ih=>
  exact .slc els t b off cap sz val E N h3 a6 h4 h5 (λi j d hd=>⟨(hI.im _ _ (h6 i j d hd).1).1,(hI.im _ _ (h6 i j d hd).1).2.trans (h6 i j d hd).2⟩) ih
 |row key tot off len o v h0 E N h3 h4=>
  obtain⟨o',e1,e2,e3,e4,e5,_⟩:=hE key o E;refine .row key tot off len o' v h0 e1 (e2.trans N) (AT h3 e4) λe=>?_;grind
 |bsl key off n sz ag o cap E N h3 h4=>
  obtain⟨o',e1,e2,e3,_,_,e6⟩:=hE key o E;rw[<-e6 N];exact .bsl key off n sz ag o' cap e1 (e2.trans N) (e3.trans h3) h4
 |mapv key o E N=>
  obtain⟨o',e1,e2,e3,_,_,e6⟩:=hE key o E;rw[<-e6 (yK N)];exact .mapv key o' e1 (by rw[TW e2 e3];exact N)
 |ptr key off o E N h3=>
  obtain⟨o',e1,e2,e3,_,_,e6⟩:=hE key o E;rw[<-e6 N];exact .ptr key off o' e1 (e2.trans N) (e3.trans h3)
 |rptr key tot i off o v h0 E N h3 h4=>
  obtain⟨o',e1,e2,e3,e4,e5,_⟩:=hE key o E;refine .rptr key tot i off o' v h0 e1 (e2.trans N) (AT h3 e4) λe=>?_;grind
 |eptr el off b o val h0 E _ ih=>exact .eptr el off b o val h0 (λj d hd=>⟨(hI.im _ _ (E j d hd).1).1,(hI.im _ _ (E j d hd).1).2.trans (E j d hd).2⟩) ih
 |agg ds vs h _ ih=>exact .agg ds vs h ih
 |tup ds vs h _ ih=>exact .tup ds vs h ih
 |clo f ds vs h _ ih=>exact .clo f ds vs h ih
 |nilf=>exact .nilf
 |junk v=>exact .junk v
def rY(base:Nat)(w:World)(b:Nat)(o:Obj):Prop:=
 ∃(r:Loop)(n:Int),w.heap[b]?=s_ (.loop r)/\base<=b/\o.els=[.int .i64 n]/\(n=0->r.state=.ready/\r.pending=n_)/\(n=1->r.state=.done/\r.pending=s_ .ret)
def MapAt0(base:Nat)(w:World)(g:Ghost)(st:St)(b:Nat)(o:Obj):Prop:=
 ∃es clock,w.heap[b]?=s_ (.map es clock)/\base<=b/\(∃p:List D,p.Perm o.els/\es.size=p.length/\
  ∀(i:Nat)(e:MapEntry)(el:D),es[i]?=s_ e->p[i]?=s_ el->RepV w g st (DE o.sz el) e.key/\RepV w g st (G7 o.sz el) e.val)/\
  (1<mS o.sz/\∀x∈o.els,∃l,x=.agg l/\l.length=mS o.sz/\(l.take (mS o.sz-1)).all D.noRef1=t_)/\(o.els.map (DE o.sz)).Nodup/\es.size<40/\Nl (.map es clock)=f_
variable{b b' base:Nat}
theorem MapAt0.mono(h:MapAt0 base w g st b o)(N:ImLe w g w' g')(hE:Evo g st g' st')(hb:b'=b)(hw:w'.heap[b]?=w.heap[b]?):MapAt0 base w' g' st' b' o:=by obtain⟨es,clock,h1,h2,⟨p,hp,h3,h5⟩,h4,h6⟩:=h;subst hb;exact⟨es,clock,hw.trans h1,h2,⟨p,hp,h3,λi e el he E=>⟨(h5 i e el he E).1.mono N hE,(h5 i e el he E).2.mono N hE⟩⟩,h4,h6⟩
def MapAt(base:Nat)(w:World)(g:Ghost)(st:St)(b:Nat)(o:Obj):Prop:=if o.sz=1000003 then rY base w b o else MapAt0 base w g st b o
theorem MapAt.mono(h:MapAt base w g st b o)(hI:ImLe w g w' g')(hE:Evo g st g' st')(hb:b'=b)(N:w'.heap[b]?=w.heap[b]?):MapAt base w' g' st' b' o:=by
 unfold MapAt at h⊢
 split at h
 .rename_i E;rw[zae E];obtain⟨r,n,h1,h2⟩:=h;subst hb;exact⟨r,n,N.trans h1,h2⟩
 .rename_i E;rw[zaf E];exact MapAt0.mono h hI hE hb N
theorem MapAt.old(h:MapAt base w g st b o)(E:o.sz≠1000003):MapAt0 base w g st b o:=by unfold MapAt at h;rwa [zaf E]at h
theorem MapAt.rec'(h:MapAt base w g st b o)(E:o.sz=1000003):rY base w b o:=by unfold MapAt at h;rwa [zae E]at h
theorem MapAt.at(h:MapAt base w g st b o):∃x,w.heap[b]?=s_ x/\base<=b/\Nl x=f_/\(∀C e z,x≠.cells C e z)/\(∀ds,x≠.deferred ds)/\∀i,w.cell? ⟨b,i,n_⟩=n_:=by
 by_cases hs:o.sz=1000003
 .obtain⟨r,n,E,N,_⟩:=h.rec' hs;exact⟨_,E,N,rfl,λ_ _ _ h=>(by cases h),λ_ h=>(by cases h),λi=>by simp only[yax,E]⟩
 .obtain⟨es,c,E,N,_,_,_,_,h6⟩:=h.old hs;exact⟨_,E,N,h6,λ_ _ _ h=>(by cases h),λ_ h=>(by cases h),λi=>by simp only[yax,E]⟩
structure SR (base:Nat) (w:World) (g:Ghost) (st:St):Prop where
 mp:∀(k:Nat)(o:Obj),st[k]?=s_ o->o.isMap=t_->MapAt base w g st (g.β k) o
 blk:∀(k:Nat)(o:Obj),st[k]?=s_ o->o.isMap=f_->∃C e,w.heap[g.β k]?=s_ (.cells C e (0,0))/\base<=g.β k/\0<o.sz/\(∀x∈o.els,x.cells.length=o.sz)/\
  (if o.row then C.size=g.γ k*o.sz/\o.els.length<=g.γ k/\g.γ k<=maxLen else C.size=o.els.length/\o.sz=1/\∀x∈o.els,x.cells=[x])/\
  (∀i j d,GC o.els i j=s_ d->(o.row=t_->d.pure1=t_)/\∃v,C[i*o.sz+j]?=s_ v/\RepV w g st d v)
 inj:∀(k k':Nat)(o o':Obj),st[k]?=s_ o->st[k']?=s_ o'->g.β k=g.β k'->k=k'
 im:∀b o,g.Im b o->(w.cell? ⟨b,o,n_⟩).isSome=t_
 dis:∀(k:Nat)(o:Obj)(x:Nat),st[k]?=s_ o->g.Im (g.β k) x->o.lent=t_/\x<o.els.length*o.sz
 size:base<=w.heap.size
def special:Go.Obj->Bool
 |.loop _ | .deferred _=>t_
 |_=>f_
def sameSp:Go.Obj->Go.Obj->Prop
 |.loop r,x=>∃s p,x=.loop {r with state:=s,pending:=p}
 |y,x=>x=y
theorem sameSp.refl(o:Go.Obj):sameSp o o:=by cases o<;>first|rfl|exact⟨_,_,rfl⟩
theorem sameSp.trans{a b c:Go.Obj}(h:sameSp a b)(E:sameSp b c):sameSp a c:=by
 cases a with
 |loop r=>
  obtain⟨s,p,rfl⟩:=h;obtain⟨s',p',rfl⟩:=E;exact⟨s',p',rfl⟩
 |_=>cases h;exact E
theorem sameSp.special{a b:Go.Obj}(h:sameSp a b)(E:special a=t_):special b=t_:=by
 cases a with
 |loop r=>obtain⟨s,p,rfl⟩:=h;rfl
 |_=>cases h;exact E
def Kept(w':World)(b:Nat)(o:Go.Obj):Prop:=∃o',w'.heap[b]?=s_ o'/\sameSp o o'
theorem Kept.same{o:Go.Obj}(h:w'.heap[b]?=s_ o):Kept w' b o:=⟨o,h,sameSp.refl o⟩
theorem Kept.def'{ds:Option (List Deferred)}(h:Kept w' b (.deferred ds)):w'.heap[b]?=s_ (.deferred ds):=by obtain⟨o',E,N⟩:=h;cases N;exact E
theorem Kept.loop{r:Loop}(h:Kept w' b (.loop r)):∃s p,w'.heap[b]?=s_ (.loop {r with state:=s,pending:=p}):=by obtain⟨o',E,s,p,rfl⟩:=h;grind
structure Go1 (base:Nat) (w:World) (g:Ghost) (st:St) (w':World) (g':Ghost) (st':St):Prop where
 sr:SR base w' g' st'
 evo:Evo g st g' st'
 im:ImLe w g w' g'
 new:∀b o,g'.Im b o->g.Im b o\/base<=b
 below:Below base w w'
 kp:∀(b:Nat)(o:Go.Obj),w.heap[b]?=s_ o->special o=t_->Kept w' b o
theorem Go1.refl(h:SR base w g st):Go1 base w g st w g st:=
 ⟨h,Evo.refl _ _,ImLe.refl _ _,λ_ _ h=>.inl h,Below.refl _ _,λ_ _ h _=>.same h⟩
theorem Go1.trans(h:Go1 base w g st w1 g1 st1)(E:Go1 base w1 g1 st1 w2 g2 st2):Go1 base w g st w2 g2 st2:=
 ⟨E.sr,h.evo.trans E.evo,h.im.trans E.im,λb o hb=>by
  rcases E.new b o hb with x|x
  .exact h.new b o x
  .exact .inr x,h.below.trans E.below,λb o hb N=>(let⟨_,h1,h2⟩:=h.kp b o hb N;let⟨o2,h3,h4⟩:=E.kp b _ h1 (h2.special N);⟨o2,h3,h2.trans h4⟩)⟩
theorem Go1.rep(h:Go1 base w g st w' g' st')(E:RepV w g st d v):RepV w' g' st' d v:=E.mono h.im h.evo
theorem RepV.oneCell(h:RepV w g st d v)(hd:d.isCell=t_):v.oneCell'=t_:=by
 cases h<;>first
  |rfl
  |assumption
  |(simp[D.isCell]at hd;done)
theorem Up(h:d.pure1=t_):d.isCell=t_:=by cases d<;>simp_all [D.pure1,D.isCell]
theorem cell?_add(w:World)(b o n:Nat):w.cell? ((⟨b,o,n_⟩:Addr).add n)=w.cell? ⟨b,o+n,n_⟩:=by unfold Addr.add;grind
theorem Nc(b o n:Nat):((⟨b,o,n_⟩:Addr).add n)=⟨b,o+n,n_⟩:=by unfold Addr.add;grind
open Go Go.RowKit
def Gt(f:Nat->Nat)(k v:Nat):Nat->Nat:=λi=>if i=k then v else f i
def Jv(f:Nat->Nat)(k v:Nat):Gt f k v k=v:=by simp[Gt]
def HQ(f:Nat->Nat)(k v i:Nat)(h:i≠k):Gt f k v i=f i:=by simp[Gt,h]
variable{o:Obj}{base k:Nat}{st:St}{g:Ghost}{w:World}
theorem SR.lt(h:SR base w g st)(hk:st[k]?=s_ o):g.β k<w.heap.size:=by
 cases hm:o.isMap with
 |false=>
  obtain⟨C,e,hb,_⟩:=h.blk k o hk hm;grind
 |true=>
  obtain⟨x,hb,_⟩:=(h.mp k o hk hm).at;grind
theorem SR.based(h:SR base w g st)(hk:st[k]?=s_ o):base<=g.β k:=by
 cases hm:o.isMap with
 |false=>
  obtain⟨C,e,hb,E,_⟩:=h.blk k o hk hm;exact E
 |true=>
  obtain⟨x,hb,E,_⟩:=(h.mp k o hk hm).at;exact E
theorem SR.im_lt(h:SR base w g st){b o:Nat}(hi:g.Im b o):b<w.heap.size:=by
 have:=h.im b o hi
 cases hc:w.cell? ⟨b,o,n_⟩with
 |none=>simp[hc]at this
 |some v=>exact World.block_lt_of_cell? w _ hc
def uA{a b:List D}{i j:Nat}(h:i<a.length):GC (a++b) i j=GC a i j:=by simp[GC,Aw h]
structure Beside (w w':World):Prop where
 os:w'.os=w.os
 tape:w'.tape=w.tape
 output:w'.output=w.output
 size:w.heap.size<=w'.heap.size
variable{e:TypeId}{C:Array Value}{B:Nat}{o':Obj}{w':World}
theorem SR.update(h:SR base w g st){c:Nat}{C':Array Value}{e':TypeId}
  (hk:st[k]?=s_ o) (hm:o.isMap=f_) (a6:w.heap[g.β k]?=s_ (.cells C e (0,0)))
  (N:(B=g.β k/\c=g.γ k)\/(w.heap.size<=B/\o.els.length<o'.els.length/\o.row=t_))
  (ae:o'.row=o.row) (ad:o'.sz=o.sz) (bh:o.els.length<=o'.els.length) (be:o'.lent=o.lent)
  (hx:∀x∈o'.els,x.cells.length=o.sz)
  (ac:Beside w w') (af:∀b,b<w.heap.size->b≠B->w'.heap[b]?=w.heap[b]?)
  (a7:w'.heap[B]?=s_ (.cells C' e' (0,0)))
  (c2:B=g.β k->∀x,g.Im (g.β k) x->C'[x]?=C[x]?)
  (hC:if o.row then C'.size=c*o.sz/\o'.els.length<=c/\c<=maxLen else C'.size=o'.els.length/\o.sz=1/\∀x∈o'.els,x.cells=[x])
  (b1:∀i j d,GC o'.els i j=s_ d->(o.row=t_->d.pure1=t_)/\∃v,C'[i*o.sz+j]?=s_ v/\RepV w g st d v):
  Go1 base w g st w' {g with β:=Gt g.β k B,γ:=Gt g.γ k c} (st.set k o'):=by
 have ah:k<st.length:=(Aa.1 hk).1;obtain⟨C1,e1,c3,b6,cg,c5,c6,cd⟩:=h.blk k o hk hm
 have b7:base<=B:=by
  grind
 have ab:ImLe w g w' {g with β:=Gt g.β k B,γ:=Gt g.γ k c}:=by
  refine⟨?_,λb x hb hs=>?_⟩
  case refine_2=>
   have ba:b<w.heap.size:=(AO.1 hb).1
   have a1:b≠B:=by
    intro e;rcases N with⟨rfl,_⟩|⟨N,_⟩
    .rw[e,a6]at hb;obtain rfl:=At hb;simp[Nl]at hs
    .omega
   grind
  intro b x hb;refine⟨hb,?_⟩;have ba:=h.im_lt hb
  by_cases E:b=B
  .subst E;rcases N with⟨e2,_⟩|⟨N,_⟩
   .subst e2;simp only[yax,a7,a6];grind
   .omega
  .simp only[yax,af b ba E]
 have a0:Evo g st {g with β:=Gt g.β k B,γ:=Gt g.γ k c} (st.set k o'):=by
  intro k1 o1 DT
  by_cases E:k1=k
  .subst E;obtain rfl:o1=o:=At (DT.symm.trans hk);refine⟨o',by simp[ah],ae,ad,bh,λhl=>?_,λhr=>?_⟩
   .rcases N with⟨rfl,rfl⟩|⟨_,c7,_⟩
    .simp[Jv]
    .omega
   .rcases N with⟨rfl,rfl⟩|⟨_,_,c8⟩
    .simp[Jv]
    .grind
  .refine⟨o1,by rw[Ac zaa];exact DT,rfl,rfl,Au _,λ_=>?_,λ_=>?_⟩
   .simp[HQ _ _ _ _ E]
   .simp[HQ _ _ _ _ E]
 have b8:∀(b:Nat)(o:Go.Obj),w.heap[b]?=s_ o->special o=t_->w'.heap[b]?=s_ o:=by
  intro b x hb hs;have ba:b<w.heap.size:=(AO.1 hb).1
  have a1:b≠B:=by
   intro e;rcases N with⟨rfl,_⟩|⟨N,_⟩
   .rw[e,a6]at hb;obtain rfl:=At hb;simp[special]at hs
   .omega
  grind
 refine⟨⟨?_,?_,?_,?_,?_,AT h.size ac.size⟩,a0,ab,λb x hb=>.inl hb,?_,λb x hb hs=>.same (b8 b x hb hs)⟩
 .intro k1 o1 DT a3
  by_cases E:k1=k
  .subst E;obtain rfl:o1=o':=by rw[Ap ah]at DT;exact(At DT).symm
   rw[TW ae ad,hm]at a3;cases a3
  .rw[Ac zaa]at DT
   have a1:g.β k1≠B:=by
    rcases N with⟨rfl,_⟩|⟨N,_⟩
    .exact λe3=>E (h.inj _ _ _ _ DT hk e3)
    .have:=h.lt DT;omega
   exact(h.mp k1 o1 DT a3).mono ab a0 (HQ _ _ _ _ E) (af _ (h.lt DT) a1)
 .intro k1 o1 DT a3
  by_cases E:k1=k
  .subst E;obtain rfl:o1=o':=by rw[Ap ah]at DT;exact(At DT).symm
   refine⟨C',e',by simpa[Jv]using a7,by simpa[Jv]using b7,zaa,λx b9=>(hx x b9).trans ad.symm,?_,?_⟩
   .rw[ae,ad];simpa[Jv]using hC
   .intro i j d hd;obtain⟨bb,v,h2,h3⟩:=b1 i j d hd;exact⟨λe=>bb (ae.symm.trans e),v,by rw[ad];exact h2,h3.mono ab a0⟩
  .rw[Ac zaa]at DT;obtain⟨C2,e2,ca,bd,bf,cb,cc,bg⟩:=h.blk k1 o1 DT a3
   have a1:g.β k1≠B:=by
    rcases N with⟨rfl,_⟩|⟨N,_⟩
    .exact λe3=>E (h.inj _ _ _ _ DT hk e3)
    .grind
   refine⟨C2,e2,?_,?_,bf,cb,?_,?_⟩
   .show w'.heap[Gt g.β k B k1]?=_
    rw[HQ _ _ _ _ E,af _ (h.lt DT) a1];exact ca
   .show base<=Gt g.β k B k1
    rw[HQ _ _ _ _ E];exact bd
   .simpa[HQ _ _ _ _ E]using cc
   .intro i j d hd;obtain⟨bb,v,h2,h3⟩:=bg i j d hd;exact⟨bb,v,h2,h3.mono ab a0⟩
 .intro k1 k2 o1 o2 DT a4 he;simp only at he
  by_cases e1:k1=k<;>by_cases e2:k2=k
  .omega
  .exfalso;subst e1;rw[Jv,HQ _ _ _ _ e2]at he;rw[Ac zaa]at a4;rcases N with⟨rfl,_⟩|⟨N,_⟩
   .exact e2 (h.inj _ _ _ _ hk a4 he).symm
   .have:=h.lt a4;omega
  .exfalso;subst e2;rw[Jv,HQ _ _ _ _ e1]at he;rw[Ac zaa]at DT;rcases N with⟨rfl,_⟩|⟨N,_⟩
   .exact e1 (h.inj _ _ _ _ DT hk he)
   .have:=h.lt DT;omega
  .rw[HQ _ _ _ _ e1,HQ _ _ _ _ e2]at he;rw[Ac zaa]at DT a4;exact h.inj _ _ _ _ DT a4 he
 .intro b x hb;rw[(ab.im b x hb).2];exact h.im b x hb
 .intro k1 o1 x DT hi;simp only at hi
  by_cases E:k1=k
  .subst E;obtain rfl:o1=o':=by rw[Ap ah]at DT;exact(At DT).symm
   rw[Jv]at hi;rcases N with⟨rfl,_⟩|⟨N,_⟩
   .obtain⟨h1,h2⟩:=h.dis _ _ _ hk hi;refine⟨by rw[be];exact h1,AX h2 ?_⟩;rw[ad];exact AZ _ bh
   .have:=h.im_lt hi;omega
  .rw[Ac zaa]at DT;rw[HQ _ _ _ _ E]at hi;exact h.dis _ _ _ DT hi
 .refine⟨ac.os,ac.tape,ac.output,ac.size,λb hb=>?_⟩;grind
theorem SR.push(h:SR base w g st){c:Nat}
  (ad:Beside w w') (aa:∀b,b<w.heap.size->w'.heap[b]?=w.heap[b]?)
  (a6:w'.heap[w.heap.size]?=s_ (.cells C e (0,0)))
  (hm:o.isMap=f_) (a7:0<o.sz) (hx:∀x∈o.els,x.cells.length=o.sz)
  (hC:if o.row then C.size=c*o.sz/\o.els.length<=c/\c<=maxLen else C.size=o.els.length/\o.sz=1/\∀x∈o.els,x.cells=[x])
  (a8:∀i j d,GC o.els i j=s_ d->(o.row=t_->d.pure1=t_)/\∃v,C[i*o.sz+j]?=s_ v/\RepV w g st d v):
  Go1 base w g st w' {g with β:=Gt g.β st.length w.heap.size,γ:=Gt g.γ st.length c} (st++[o]):=by
 have ab:ImLe w g w' {g with β:=Gt g.β st.length w.heap.size,γ:=Gt g.γ st.length c}:=by
  refine⟨?_,λb o hb _=>by rw[aa b (AO.1 hb).1];exact hb⟩;intro b x hb;refine⟨hb,?_⟩;have ah:=h.im_lt hb;simp only[yax,aa b ah]
 have ah:∀(E:Nat)(o1:Obj),st[E]?=s_ o1->E<st.length:=λE o1 h1=>(Aa.1 h1).1
 have af:Evo g st {g with β:=Gt g.β st.length w.heap.size,γ:=Gt g.γ st.length c} (st++[o]):=by
  intro E o1 DT;have:=ah _ _ DT;refine⟨o1,by rw[Aw this];exact DT,rfl,rfl,Au _,λ_=>?_,λ_=>?_⟩
  .simp[HQ _ _ _ _ (zaa:E≠st.length)]
  .simp[HQ _ _ _ _ (zaa:E≠st.length)]
 have N:∀(E:Nat)(o1:Obj),(st++[o])[E]?=s_ o1->(E<st.length/\st[E]?=s_ o1)\/(E=st.length/\o1=o):=by
  grind
 refine⟨⟨?_,?_,?_,?_,?_,AT h.size ad.size⟩,af,ab,λb x hb=>.inl hb,?_,λb o hb _=>.same (by rw[aa b (AO.1 hb).1];exact hb)⟩
 .intro E o1 DT a1;rcases N E o1 DT with⟨h1,h2⟩|⟨rfl,rfl⟩
  .exact(h.mp E o1 h2 a1).mono ab af (HQ _ _ _ _ zaa) (aa _ (h.lt h2))
  .grind
 .intro E o1 DT a1;rcases N E o1 DT with⟨h1,h2⟩|⟨rfl,rfl⟩
  .obtain⟨C2,e2,bb,a2,a3,bc,bd,a4⟩:=h.blk E o1 h2 a1;have e0:E≠st.length:=zaa
   refine⟨C2,e2,?_,?_,a3,bc,?_,?_⟩
   .show w'.heap[Gt g.β st.length w.heap.size E]?=_
    rw[HQ _ _ _ _ e0,aa _ (h.lt h2)];exact bb
   .show base<=Gt g.β st.length w.heap.size E
    rw[HQ _ _ _ _ e0];exact a2
   .simpa[HQ _ _ _ _ e0]using bd
   .intro i j d hd;obtain⟨ac,v,h2,h3⟩:=a4 i j d hd;exact⟨ac,v,h2,h3.mono ab af⟩
  .refine⟨C,e,by simpa[Jv]using a6,by simpa[Jv]using h.size,a7,hx,by simpa[Jv]using hC,?_⟩;intro i j d hd;obtain⟨ac,v,h2,h3⟩:=a8 i j d hd;exact⟨ac,v,h2,h3.mono ab af⟩
 .intro E k2 o1 o2 DT be he;simp only at he;rcases N E o1 DT with⟨h1,ac⟩|⟨rfl,_⟩<;>rcases N k2 o2 be with⟨h2,a5⟩|⟨rfl,_⟩
  .rw[HQ _ _ _ _ zaa,HQ _ _ _ _ zaa]at he;exact h.inj _ _ _ _ ac a5 he
  .rw[HQ _ _ _ _ zaa,Jv]at he;have:=h.lt ac;omega
  .rw[Jv,HQ _ _ _ _ zaa]at he;have:=h.lt a5;omega
  .rfl
 .intro b x hb;rw[(ab.im b x hb).2];exact h.im b x hb
 .intro E o1 x DT hi;simp only at hi;rcases N E o1 DT with⟨h1,ac⟩|⟨rfl,rfl⟩
  .rw[HQ _ _ _ _ zaa]at hi;exact h.dis _ _ _ ac hi
  .rw[Jv]at hi;have:=h.im_lt hi;omega
 .exact⟨ad.os,ad.tape,ad.output,ad.size,λb hb=>aa b (AX hb h.size)⟩
theorem SR.updM(h:SR base w g st)
  (hk:st[k]?=s_ o) (hm:o.isMap=t_) (a2:o'.row=o.row) (a7:o'.sz=o.sz) (b6:o.els.length<=o'.els.length)
  (aa:Beside w w') (E:∀b,b≠g.β k->w'.heap[b]?=w.heap[b]?)
  (b7:∀st',ImLe w g w' g->Evo g st g st'->MapAt base w' g st' (g.β k) o') (be:∀x,w.heap[g.β k]?=s_ x->special x=t_->Kept w' (g.β k) x):
  Go1 base w g st w' g (st.set k o'):=by
 have a3:k<st.length:=(Aa.1 hk).1;obtain⟨x0,b8,a8,bf,_,_,b9⟩:=(h.mp k o hk hm).at
 have bg:∀x,¬g.Im (g.β k) x:=λx hi=>by
  have:=h.im _ _ hi;grind
 have N:ImLe w g w' g:=by
  refine⟨?_,λb x hb hs=>?_⟩
  case refine_2=>
   grind
  intro b x hb;refine⟨hb,?_⟩
  by_cases e0:b=g.β k
  .grind
  .simp only[yax,E b e0]
 have ae:Evo g st g (st.set k o'):=by
  intro k1 o1 DT;grind
 refine⟨⟨?_,?_,?_,?_,?_,AT h.size aa.size⟩,ae,N,λb x hb=>.inl hb,?_,?_⟩
 .intro k1 o1 DT ac
  by_cases e0:k1=k
  .grind
  .rw[Ac zaa]at DT;exact(h.mp k1 o1 DT ac).mono N ae rfl (E _ (λe3=>e0 (h.inj _ _ _ _ DT hk e3)))
 .intro k1 o1 DT ac
  by_cases e0:k1=k
  .subst e0;obtain rfl:o1=o':=by rw[Ap a3]at DT;exact(At DT).symm
   rw[TW a2 a7,hm]at ac;cases ac
  .rw[Ac zaa]at DT;obtain⟨C2,e2,a9,ah,a0,ba,bb,a1⟩:=h.blk k1 o1 DT ac;refine⟨C2,e2,(E _ (λe3=>e0 (h.inj _ _ _ _ DT hk e3))).trans a9,ah,a0,ba,bb,?_⟩;intro i j d hd;obtain⟨bc,v,h2,h3⟩:=a1 i j d hd;exact⟨bc,v,h2,h3.mono N ae⟩
 .intro k1 k2 o1 o2 DT af he
  by_cases e1:k1=k<;>by_cases e2:k2=k
  .omega
  .subst e1;rw[Ac zaa]at af;exact h.inj _ _ _ _ hk af he
  .subst e2;rw[Ac zaa]at DT;exact h.inj _ _ _ _ DT hk he
  .rw[Ac zaa]at DT af;exact h.inj _ _ _ _ DT af he
 .intro b x hb;rw[(N.im b x hb).2];exact h.im b x hb
 .intro k1 o1 x DT hi
  by_cases e0:k1=k
  .grind
  .rw[Ac zaa]at DT;exact h.dis _ _ _ DT hi
 .exact⟨aa.os,aa.tape,aa.output,aa.size,λb hb=>E b zaa⟩
 .intro b x hb hs
  by_cases bd:b=g.β k
  .grind
  .exact .same (by rw[E b bd];exact hb)
theorem SR.updMap(h:SR base w g st){es':Array MapEntry}{clock':Nat}
  (hk:st[k]?=s_ o) (hm:o.isMap=t_) (ac:o.sz≠1000003) (ae:o'.row=o.row) (N:o'.sz=o.sz) (a1:o.els.length<=o'.els.length) (_:o'.lent=o.lent)
  (af:Beside w w') (ab:∀b,b≠g.β k->w'.heap[b]?=w.heap[b]?) (ah:w'.heap[g.β k]?=s_ (.map es' clock'))
  (E:∃p:List D,p.Perm o'.els/\es'.size=p.length/\∀(i:Nat)(e:MapEntry)(el:D),es'[i]?=s_ e->p[i]?=s_ el->RepV w g st (DE o.sz el) e.key/\RepV w g st (G7 o.sz el) e.val)
  (hx:1<mS o.sz/\∀x∈o'.els,∃l,x=.agg l/\l.length=mS o.sz/\(l.take (mS o.sz-1)).all D.noRef1=t_) (a2:(o'.els.map (DE o.sz)).Nodup) (a3:es'.size<40) (a4:Nl (.map es' clock')=f_):
  Go1 base w g st w' g (st.set k o'):=by
 obtain⟨es,clock,a5,aa,_⟩:=(h.mp k o hk hm).old ac;refine h.updM hk hm ae N a1 af ab (λst' hI hE=>?_) (λx hb hs=>?_)
 .unfold MapAt;rw[zaf (by rw[N];exact ac)];obtain⟨p,hp,hlen,E⟩:=E;refine⟨es',clock',ah,aa,⟨p,hp,hlen,?_⟩,by rw[N];exact hx,by rw[N];exact a2,a3,a4⟩;rw[N];exact λi e el he ad=>⟨(E i e el he ad).1.mono hI hE,(E i e el he ad).2.mono hI hE⟩
 .rw[a5]at hb;obtain rfl:=At hb;simp[special]at hs
variable{r:Loop}
theorem SR.updRec(h:SR base w g st){n:Int}{s:_}{p:Option Code}
  (hk:st[k]?=s_ o) (E:o.row=f_) (N:o.sz=1000003)
  (ad:Beside w w') (ac:∀b,b≠g.β k->w'.heap[b]?=w.heap[b]?) (hr:w.heap[g.β k]?=s_ (.loop r)) (aa:w'.heap[g.β k]?=s_ (.loop {r with state:=s,pending:=p}))
  (h0:n=0->s=.ready/\p=n_) (h1:n=1->s=.done/\p=s_ .ret):
  Go1 base w g st w' g (st.set k (recO n)):=by
 have hm:o.isMap=t_:=by simp[Obj.isMap,E,N]
 obtain⟨r0,n0,a1,ab,ae,_⟩:=(h.mp k o hk hm).rec' N;refine h.updM hk hm (by rw[E];rfl) (by rw[N];rfl) (by rw[ae];exact Au _) ad ac (λst' hI hE=>?_) (λx hb hs=>?_)
 .unfold MapAt;rw[zae (show(recO n).sz=1000003 from rfl)];exact⟨_,n,aa,ab,rfl,h0,h1⟩
 .rw[hr]at hb;obtain rfl:=At hb;exact⟨_,aa,_,_,rfl⟩
theorem SR.pushM(h:SR base w g st)(hB:w.heap.size<=B)
  (ac:Beside w w') (aa:∀b,b<w.heap.size->w'.heap[b]?=w.heap[b]?) (hm:o.isMap=t_)
  (a6:∀g' st',MapAt base w' g' st' B o):
  Go1 base w g st w' {g with β:=Gt g.β st.length B} (st++[o]):=by
 have ab:ImLe w g w' {g with β:=Gt g.β st.length B}:=by
  refine⟨?_,λb o hb _=>by rw[aa b (AO.1 hb).1];exact hb⟩;intro b x hb;refine⟨hb,?_⟩;have ah:=h.im_lt hb;simp only[yax,aa b ah]
 have ah:∀(E:Nat)(o1:Obj),st[E]?=s_ o1->E<st.length:=λE o1 h1=>(Aa.1 h1).1
 have af:Evo g st {g with β:=Gt g.β st.length B} (st++[o]):=by
  intro E o1 DT;have:=ah _ _ DT;refine⟨o1,by rw[Aw this];exact DT,rfl,rfl,Au _,λ_=>?_,λ_=>?_⟩
  .simp[HQ _ _ _ _ (zaa:E≠st.length)]
  .simp[HQ _ _ _ _ (zaa:E≠st.length)]
 have N:∀(E:Nat)(o1:Obj),(st++[o])[E]?=s_ o1->(E<st.length/\st[E]?=s_ o1)\/(E=st.length/\o1=o):=by
  grind
 refine⟨⟨?_,?_,?_,?_,?_,AT h.size ac.size⟩,af,ab,λb x hb=>.inl hb,?_,λb o hb _=>.same (by rw[aa b (AO.1 hb).1];exact hb)⟩
 .intro E o1 DT a1;rcases N E o1 DT with⟨h1,h2⟩|⟨rfl,rfl⟩
  .exact(h.mp E o1 h2 a1).mono ab af (HQ _ _ _ _ zaa) (aa _ (h.lt h2))
  .show MapAt base w' _ _ (Gt g.β st.length B st.length) _
   rw[Jv];exact a6 _ _
 .intro E o1 DT a1;rcases N E o1 DT with⟨h1,h2⟩|⟨rfl,rfl⟩
  .obtain⟨C2,e2,a7,a2,a3,a8,a9,a4⟩:=h.blk E o1 h2 a1;have e0:E≠st.length:=zaa
   refine⟨C2,e2,?_,?_,a3,a8,a9,?_⟩
   .show w'.heap[Gt g.β st.length B E]?=_
    rw[HQ _ _ _ _ e0,aa _ (h.lt h2)];exact a7
   .show base<=Gt g.β st.length B E
    rw[HQ _ _ _ _ e0];exact a2
   .intro i j d hd;obtain⟨ad,v,h2,h3⟩:=a4 i j d hd;exact⟨ad,v,h2,h3.mono ab af⟩
  .grind
 .intro E k2 o1 o2 DT bb he;simp only at he;rcases N E o1 DT with⟨h1,ad⟩|⟨rfl,_⟩<;>rcases N k2 o2 bb with⟨h2,a5⟩|⟨rfl,_⟩
  .rw[HQ _ _ _ _ zaa,HQ _ _ _ _ zaa]at he;exact h.inj _ _ _ _ ad a5 he
  .rw[HQ _ _ _ _ zaa,Jv]at he;have:=h.lt ad;omega
  .rw[Jv,HQ _ _ _ _ zaa]at he;have:=h.lt a5;omega
  .rfl
 .intro b x hb;rw[(ab.im b x hb).2];exact h.im b x hb
 .intro E o1 x DT hi;simp only at hi;rcases N E o1 DT with⟨h1,ad⟩|⟨rfl,rfl⟩
  .rw[HQ _ _ _ _ zaa]at hi;exact h.dis _ _ _ ad hi
  .rw[Jv]at hi;have:=h.im_lt hi;omega
 .exact⟨ac.os,ac.tape,ac.output,ac.size,λb hb=>aa b (AX hb h.size)⟩
theorem SR.pushMap(h:SR base w g st){clock:Nat}
  (aa:Beside w w') (N:∀b,b<w.heap.size->w'.heap[b]?=w.heap[b]?) (ab:w'.heap[w.heap.size]?=s_ (.map #[] clock)) (hm:o.isMap=t_) (ac:1<mS o.sz) (ad:o.sz≠1000003) (E:o.els=[]):
  Go1 base w g st w' {g with β:=Gt g.β st.length w.heap.size} (st++[o]):=by refine h.pushM (Au _) aa N hm λg' st'=>?_;unfold MapAt;rw[zaf ad];refine⟨#[],clock,ab,h.size,⟨[],by rw[E],rfl,λi e el he=>by simp at he⟩,⟨ac,by rw[E];exact λx hx=>(by cases hx)⟩,by rw[E];exact List.nodup_nil,zab,rfl⟩
theorem SR.pushRec(h:SR base w g st)(hB:w.heap.size<=B)
  (N:Beside w w') (E:∀b,b<w.heap.size->w'.heap[b]?=w.heap[b]?) (aa:w'.heap[B]?=s_ (.loop r)) (h0:r.state=.ready/\r.pending=n_):
  Go1 base w g st w' {g with β:=Gt g.β st.length B} (st++[recO 0]):=by refine h.pushM hB N E rfl λg' st'=>?_;unfold MapAt;rw[zae (show(recO 0).sz=1000003 from rfl)];exact⟨r,0,aa,AT h.size hB,rfl,λ_=>h0,λe=>by cases e⟩
theorem SR.more(h:SR base w g st){Im':Nat->Nat->Prop}
  (N:Beside w w') (E:∀b,b<w.heap.size->w'.heap[b]?=w.heap[b]?)
  (a2:∀b o,g.Im b o->Im' b o) (ad:∀b o,Im' b o->g.Im b o\/w.heap.size<=b) (a3:∀b o,Im' b o->(w'.cell? ⟨b,o,n_⟩).isSome=t_):
  Go1 base w g st w' {g with Im:=Im'} st:=by
 have aa:ImLe w g w' {g with Im:=Im'}:=by
  refine⟨?_,λb o hb _=>by rw[E b (AO.1 hb).1];exact hb⟩;intro b x hb;refine⟨a2 b x hb,?_⟩;have a4:=h.im_lt hb;simp only[yax,E b a4]
 have ab:Evo g st {g with Im:=Im'} st:=λk o hk=>⟨o,hk,rfl,rfl,Au _,λ_=>⟨rfl,rfl⟩,λ_=>rfl⟩;refine⟨⟨λk1 o1 DT ae=>(h.mp k1 o1 DT ae).mono aa ab rfl (E _ (h.lt DT)),?_,h.inj,a3,?_,AT h.size N.size⟩,ab,aa,λb x hb=>?_,?_,λb o hb _=>.same (by rw[E b (AO.1 hb).1];exact hb)⟩
 .intro k1 o1 DT ae;obtain⟨C2,e2,a5,af,a0,a6,a7,a1⟩:=h.blk k1 o1 DT ae;refine⟨C2,e2,(E _ (h.lt DT)).trans a5,af,a0,a6,a7,?_⟩;intro i j d hd;obtain⟨a8,v,h2,h3⟩:=a1 i j d hd;exact⟨a8,v,h2,h3.mono aa ab⟩
 .intro k1 o1 x DT hi;rcases ad _ _ hi with h1|h1
  .exact h.dis _ _ _ DT h1
  .have:=h.lt DT;simp only at h1;omega
 .rcases ad _ _ hb with h1|h1
  .grind
  .exact .inr (AT h.size h1)
 .exact⟨N.os,N.tape,N.output,N.size,λb hb=>E b (AX hb h.size)⟩
theorem SR.lend1(h:SR base w g st)(k:Nat):
  Go1 base w g st w {g with Im:=λb x=>g.Im b x\/∃o,st[k]?=s_ o/\o.isMap=f_/\b=g.β k/\x<o.els.length*o.sz} (st.modify k λo=>{o with lent:=t_}):=by
 have aa:ImLe w g w {g with Im:=λb x=>g.Im b x\/∃o,st[k]?=s_ o/\o.isMap=f_/\b=g.β k/\x<o.els.length*o.sz}:=⟨λb x hb=>⟨.inl hb,rfl⟩,λ_ _ h _=>h⟩
 have get:∀(N:Nat)(o1:Obj),(st.modify k λo=>{o with lent:=t_})[N]?=s_ o1->∃E,st[N]?=s_ E/\o1=(if N=k then {E with lent:=t_} else E):=by
  grind
 have ab:Evo g st {g with Im:=λb x=>g.Im b x\/∃o,st[k]?=s_ o/\o.isMap=f_/\b=g.β k/\x<o.els.length*o.sz} (st.modify k λo=>{o with lent:=t_}):=by
  intro N o1 DT;grind
 refine⟨⟨?_,?_,?_,?_,?_,h.size⟩,ab,aa,λb x hb=>?_,Below.refl _ _,λ_ _ h _=>.same h⟩
 .intro N o1 DT a8;obtain⟨E,h0,he⟩:=get N o1 DT;have f1:o1.sz=E.sz:=by rw[he];split<;>rfl
  have f2:o1.els=E.els:=by rw[he];split<;>rfl
  have f3:o1.row=E.row:=by rw[he];split<;>rfl
  have ac:=h.mp N E h0 ((TW f3 f1).symm.trans a8);unfold MapAt at ac⊢;rw[f1]
  split
  .rename_i hs;rw[zae hs]at ac;obtain⟨r,n,a1,a2,a3,a4⟩:=ac;exact⟨r,n,a1,a2,by rw[f2];exact a3,a4⟩
  rename_i hs;rw[zaf hs]at ac;obtain⟨es,clock,a1,a2,⟨p,hp,a3,a5⟩,a4,a7,a6⟩:=ac;refine⟨es,clock,a1,a2,⟨p,by rw[f2];exact hp,a3,?_⟩,by rw[f1,f2];exact a4,by rw[f1,f2];exact a7,a6⟩;rw[f1];exact λi e el he bb=>⟨(a5 i e el he bb).1.mono aa ab,(a5 i e el he bb).2.mono aa ab⟩
 .intro N o1 DT a8;obtain⟨E,h0,he⟩:=get N o1 DT;have f1:o1.sz=E.sz:=by rw[he];split<;>rfl
  have f2:o1.els=E.els:=by rw[he];split<;>rfl
  have f3:o1.row=E.row:=by rw[he];split<;>rfl
  obtain⟨C2,e2,a9,ad,af,bc,ae,ah⟩:=h.blk N E h0 ((TW f3 f1).symm.trans a8);refine⟨C2,e2,a9,ad,by rw[f1];exact af,by rw[f1,f2];exact bc,by rw[f1,f2,f3];exact ae,?_⟩;intro i j d hd;rw[f2]at hd;obtain⟨b4,v,h2,h3⟩:=ah i j d hd;exact⟨λe=>b4 (f3.symm.trans e),v,by rw[f1];exact h2,h3.mono aa ab⟩
 .intro N k2 o1 o2 DT b5 he;obtain⟨p1,q1,_⟩:=get N o1 DT;obtain⟨p2,q2,_⟩:=get k2 o2 b5;exact h.inj _ _ _ _ q1 q2 he
 .intro b x hb;rcases hb with hb|⟨o,ho,hm,rfl,hx⟩
  .exact h.im b x hb
  .obtain⟨C2,e2,a9,ad,af,bc,ae,ah⟩:=h.blk k o ho hm;simp only[yax,a9]
   have:x<C2.size:=by
    split at ae
    .rw[ae.1];exact AX hx (AZ _ ae.2.1)
    .grind
   simp[this]
 .intro N o1 x DT hi;obtain⟨E,h0,he⟩:=get N o1 DT;have f1:o1.sz=E.sz:=by rw[he];split<;>rfl
  have f2:o1.els=E.els:=by rw[he];split<;>rfl
  rw[f1,f2];rcases hi with hi|⟨o,ho,_,b6,hx⟩
  .have:=h.dis _ _ _ h0 hi;grind
  .obtain rfl:N=k:=h.inj _ _ _ _ h0 ho b6;grind
 .rcases hb with hb|⟨o,ho,_,rfl,hx⟩
  .grind
  .exact .inr (h.based ho)
theorem SR.lend:∀(ks:List Nat){g:Ghost}{st:St},SR base w g st->
  ∃g',Go1 base w g st w g' (PI.lend ks st)/\g'.β=g.β/\g'.γ=g.γ/\
   (∀k∈ks,∀o,st[k]?=s_ o->o.isMap=f_->∀x,x<o.els.length*o.sz->g'.Im (g.β k) x)
 |[],g,st,h=>⟨g,Go1.refl h,rfl,rfl,λ_ hk=>by cases hk⟩
 |k::r,g,st,h=>by
  have E:=h.lend1 k;obtain⟨g',N,hb,hc,hi⟩:=SR.lend r E.sr;refine⟨g',E.trans N,hb,hc,?_⟩;intro k1 DT o ho hm x hx;rcases AB.1 DT with rfl|DT
  .exact(N.im.im _ _ (.inr ⟨o,ho,hm,rfl,hx⟩)).1
  .obtain⟨o',ac,e1,e2,e3,_⟩:=E.evo k1 o ho;refine hi k1 DT o' ac ((TW e1 e2).trans hm) x ?_;grind
theorem SR.drew(h:SR base w g st)(n:Nat):Go1 base w g st {w with drawn:=n} g st:=by have:=h.more (w':={w with drawn:=n}) (Im':=g.Im) ⟨rfl,rfl,rfl,Au _⟩ (λ_ _=>rfl) (λ_ _ h=>h) (λ_ _ h=>.inl h) (λb o hb=>h.im b o hb);exact this
open Go Go.RowKit
def oF:Value->Option D
 |.bool b=>s_ (.bool b)
 |.int k n=>s_ (.int k n)
 |.string s=>s_ (.str s.data.toList)
 |.pointer n_=>s_ .nilp
 |.map n_=>s_ .nilm
 |.nilFunc=>s_ .nilf
 |.slice n_ 0 0=>s_ (.slc 0 [] t_)
 |_=>n_
def XM:List Value->Option (List D)
 |[]=>s_ []
 |v::l=>match oF v,XM l with
  |some x,s_ y=>s_ (x::y)
  |_,_=>n_
def QL:Value->Option D
 |.agg cs=>(XM cs.toList).map .agg
 |.tuple _=>n_
 |v=>oF v
def Ek:Operand->Option PA
 |.tmp t=>s_ (.s t)
 |.const v=>(QL v).map .c
 |.global g=>s_ (.g g)
 |.func f=>if f<5000000 then s_ (.c (.clo f []))else n_
def I9:List Operand->Option (List PA)
 |[]=>s_ []
 |x::l=>match Ek x,I9 l with
  |some a,s_ b=>s_ (a::b)
  |_,_=>n_
def Yc:Option Operand->Option (Option PA)
 |none=>s_ n_
 |some x=>(Ek x).map s_
def E9(P:Program)(t:TypeId):Option Bool:=match P.underlying t with
 |some (.struct _)|some (.array _ _)=>s_ t_
 |some _=>s_ f_
 |none=>n_
def ET(P:Program)(t:TypeId):Option Nat:=(P.info? t).map (·.size)
def KP(P:Program)(t:TypeId):Option D:=match P.info? t with
 |some i=>match i.zero with
  |some v=>QL v
  |none=>n_
 |none=>n_
variable{d:D}{v:Value}{st:St}{g:Ghost}{w:World}
def yHr(h:oF v=s_ d):RepV w g st d v/\d.pure1=t_:=by
 unfold oF at h
 split at h<;>simp at h<;>subst h
 .exact⟨.bool _,rfl⟩
 .exact⟨.int _ _,rfl⟩
 .refine⟨?_,rfl⟩;rename_i s;have:s=⟨s.data.toList.toArray⟩:=by rw[BH]
  conv=>rhs;rw[this]
  exact .str _
 .exact⟨.nilp,rfl⟩
 .exact⟨.nilm,rfl⟩
 .exact⟨.nilf,rfl⟩
 .exact⟨.slcE 0 t_ n_ 0 (λ_=>rfl),rfl⟩
theorem yHp{w:World}{g:Ghost}{st:St}:∀{vs:List Value}{ds:List D},XM vs=s_ ds->ds.length=vs.length/\(∀(i:Nat)d v,ds[i]?=s_ d->vs[i]?=s_ v->RepV w g st d v)/\∀d∈ds,d.pure1=t_
 |[],ds,h=>by simp[XM]at h;subst h;exact⟨rfl,λi d v h=>by simp at h,λd h=>by cases h⟩
 |v::l,ds,h=>by
  unfold XM at h
  split at h
  .rename_i x y E N;simp at h;subst h;obtain⟨h1,h2,h3⟩:=yHp (w:=w) (g:=g) (st:=st) N;have h4:=yHr (w:=w) (g:=g) (st:=st) E;grind
  .cases h
def Ui(h:QL v=s_ d):RepV w g st d v:=by
 unfold QL at h
 split at h
 .rename_i cs
  cases hc:XM cs.toList with
  |none=>simp[hc]at h
  |some ds=>
   simp[hc]at h;subst h;obtain⟨E,N,_⟩:=yHp (w:=w) (g:=g) (st:=st) hc;have:=RepV.agg ds cs.toList E N;omega
 .cases h
 .exact(yHr h).1
variable{st':St}{g':Ghost}{w':World}
theorem RepV.pure(hI:ImLe w g w' g')(h:RepV w g st d v)(hp:d.pure1=t_):RepV w' g' st' d v:=by
 revert hp
 induction h with
 |int k n=>exact λ_=>.int k n
 |bool b=>exact λ_=>.bool b
 |str s=>exact λ_=>.str s
 |nilp=>exact λ_=>.nilp
 |nilm=>exact λ_=>.nilm
 |gmap es b ad clock E N h3=>exact λ_=>.gmap es b ad clock (hI.kp _ _ E N) N h3
 |slcE sz t a cap h=>exact λ_=>.slcE sz t a cap h
 |slc els t b off cap sz val E N h3 aa h4 h5 h6 _ ih=>
  exact λ_=>.slc els t b off cap sz val E N h3 aa h4 h5 (λi j d hd=>⟨(hI.im _ _ (h6 i j d hd).1).1,(hI.im _ _ (h6 i j d hd).1).2.trans (h6 i j d hd).2⟩) (λi j d hd=>ih i j d hd (aa i j d hd))
 |clo f ds vs E N=>
  intro hp
  cases ds with
  |nil=>exact .clo f [] vs E (λi d v h=>by simp at h)
  |cons x l=>cases hp
 |nilf=>exact λ_=>.nilf
 |row=>intro h;cases h
 |bsl=>intro h;cases h
 |mapv=>intro h;cases h
 |ptr=>intro h;cases h
 |rptr=>intro h;cases h
 |eptr=>intro h;cases h
 |agg=>intro h;cases h
 |tup=>intro h;cases h
 |junk=>intro h;cases h
theorem RepV.eptr_any{n:Nat}(E:ImLe w g w' g')(h:RepV w g st (.eptr d n) v):RepV w' g' st' (.eptr d n) v:=by
 cases h with
 |eptr _ _ b o val h0 N h2=>exact .eptr d n b o val h0 (λj d hd=>⟨(E.im _ _ (N j d hd).1).1,(E.im _ _ (N j d hd).1).2.trans (N j d hd).2⟩) (λj d hd=>(h2 j d hd).pure E (h0 j d hd))
theorem RepV.purA{w w':World}{g g':Ghost}{st st':St}{d:D}{v:Value}(hI:ImLe w g w' g')(h:RepV w g st d v)(E:purA d=t_):RepV w' g' st' d v:=by
 cases h with
 |agg ds vs h1 N=>
  simp only[PI.purA,Ad]at E;exact .agg ds vs h1 λi d v hd hv=>(N i d v hd hv).pure hI (E d (Ak hd))
 |int k n=>exact .int k n
 |bool b=>exact .bool b
 |str s=>exact .str s
 |nilp=>exact .nilp
 |nilm=>exact .nilm
 |gmap es b ac clock h1 N h3=>exact .gmap es b ac clock (hI.kp _ _ h1 N) N h3
 |slcE sz t a cap h=>exact .slcE sz t a cap h
 |slc els t b off cap sz val h1 N h3 ae h4 h5 h6 h7=>exact RepV.pure hI (.slc els t b off cap sz val h1 N h3 ae h4 h5 h6 h7) rfl
 |clo f ds vs h1 N=>exact RepV.pure hI (.clo f ds vs h1 N) E
 |nilf=>exact .nilf
 |row=>cases E
 |bsl=>cases E
 |mapv=>cases E
 |ptr=>cases E
 |rptr=>cases E
 |eptr=>cases E
 |tup=>cases E
 |junk=>cases E
theorem RepV.purR{w w':World}{g g':Ghost}{st st':St}{d:D}{v:Value}(N:ImLe w g w' g')(h:RepV w g st d v)(E:purR d=t_):RepV w' g' st' d v:=by
 cases d with
 |tup l=>
  cases h with
  |tup _ vs h1 h2=>
   simp only[PI.purR,Ad]at E;exact .tup l vs h1 λi d v hd hv=>(h2 i d v hd hv).purA N (E d (Ak hd))
 |_=>exact h.purA N E
def GlobOK(G:Dy)(w:World)(g:Ghost):Prop:=∀n d,G n=s_ d->RepV w g [] (.eptr d 0) (.pointer (s_ ⟨n,0,n_⟩))
variable{G:Dy}
theorem GlobOK.mono(h:GlobOK G w g)(E:ImLe w g w' g'):GlobOK G w' g':=λn d hd=>(h n d hd).eptr_any E
def FR(w:World)(g:Ghost)(st:St)(fr:Frame)(a:Act):Prop:=∀s,RepV w g st (fr s) (a.tmps.getD s undef)
variable{a:Act}{fr:Frame}
theorem FR.mono(h:FR w g st fr a)(E:ImLe w g w' g')(N:Evo g st g' st'):FR w' g' st' fr a:=λs=>(h s).mono E N
theorem FR.put{dst:Option Nat}(h:FR w g st fr a)(hd:∀t,dst=s_ t->t<a.tmps.size)(E:RepV w g st d v):FR w g st (fr.put dst d) (a.put dst v):=by
 intro s
 cases dst with
 |none=>exact h s
 |some t=>
  have N:=hd t rfl;simp only[Frame.put,Frame.set,Act.put]
  by_cases e:s=t
  .simp_all
  .rw[zaf e];have:=h s;simpa[Array.getElem?_setIfInBounds,show ¬t=s by omega]using this
def Ha{x:Operand}{pa:PA}(E:GlobOK G w g)(N:FR w g st fr a)(h:Ek x=s_ pa):RepV w g st (DJ G fr pa) (a.eval x):=by
 cases x with
 |tmp t=>simp[Ek]at h;subst h;exact N t
 |const v=>
  cases hc:QL v with
  |none=>simp[Ek,hc]at h
  |some d=>simp[Ek,hc]at h;subst h;exact Ui hc
 |global n=>
  simp[Ek]at h;subst h;simp only[DJ]
  cases hg:G n with
  |none=>exact .junk _
  |some d=>exact(E n d hg).eptr_any (ImLe.refl _ _)
 |func f=>
  simp only[Ek]at h
  split at h
  case isFalse=>cases h
  rename_i hf;simp only[Dv]at h;subst h;have:=RepV.clo (w:=w) (g:=g) (st:=st) f [] [] rfl (λi d v h=>by simp at h);rw[Ss hf,mD,lE]at this;exact this
open Go Go.RowKit
def RunsTo(P:Program)(base:Nat)(w:World)(g:Ghost)(st:St)(s:Sem Value)(d:D)(st':St):Prop:=
 ∃v w' g',s.run P w=.ok v w'/\Go1 base w g st w' g' st'/\RepV w' g' st' d v
variable{v:Value}{d:D}{i j key len off:Nat}{t:Bool}
section
variable{P:Program}{base:Nat}{w:World}{g:Ghost}{st:St}
theorem RunsTo.still(h:SR base w g st){s:Sem Value}(E:s.run P w=.ok v w)(hd:RepV w g st d v):RunsTo P base w g st s d st:=
 ⟨v,w,g,E,Go1.refl h,hd⟩
def Kc{k:IntKind}{n:Int}(h:RepV w g st (.int k n) v):v=.int k n:=by cases h;rfl
def Ok{b:Bool}(h:RepV w g st (.bool b) v):v=.bool b:=by cases h;rfl
def NH{s:zLB}(h:RepV w g st (.str s) v):v=.string ⟨s.toArray⟩:=by cases h;rfl
theorem yT(s:zLB):ByteArray.toList ⟨s.toArray⟩=s:=by simp_all
def v9(s:ByteArray)(l:zLB)(h:s.data.toList=l):RepV w g st (.str l) (.string s):=by
 subst h;have:s=⟨s.data.toList.toArray⟩:=by rw[BH]
 conv=>rhs;rw[this]
 exact .str _
def Yc3(op:BinOp)(x y:zLB)(d:D)(h:XG op x y=s_ d):∃v,(Op.stringOp op ⟨x.toArray⟩ ⟨y.toArray⟩).run P w=.ok v w/\RepV w g st d v:=by
 unfold XG at h;unfold Op.stringOp;simp only[yT];cases op<;>simp only[reduceCtorEq]at h<;>try (injection h with h;subst h;exact⟨_,rfl,.bool _⟩)
 split at h
 .rename_i hl;simp at h;subst h
  have:¬(((Dg ⟨x.toArray⟩+Dg ⟨y.toArray⟩:Nat):Int)>IntKind.i64.max):=by
   have e:IntKind.i64.max=9223372036854775807:=zab
   rw[e];simp only[Dg,CM];omega
  simp only[this,zam];exact⟨_,rfl,v9 _ _ zac⟩
 .cases h
theorem yAi(op:BinOp)(t:TypeId)(x y:Operand)(a b:Value)(h:∀u,a≠.agg u)(E:a≠.nilIface):(eqGuard op t x y a b).run P w=.ok () w:=by unfold eqGuard;simp_all
def Yoe(op:BinOp)(t:TypeId)(x y:D)(d:D)(vx vy:Value)(h:DI op x y=s_ d)(hx:RepV w g st x vx)(hy:RepV w g st y vy):
  (∃v,(binOp op t vx vy).run P w=.ok v w/\RepV w g st d v)/\(∀u,vx≠.agg u)/\vx≠.nilIface:=by
 unfold DI at h
 split at h
 .rename_i k a k' b;obtain rfl:=Kc hx;obtain rfl:=Kc hy;refine⟨?_,(by intro u e;cases e),(by intro e;cases e)⟩
  have arith:∀q,Mo op k a b=s_ q->(op=.add\/op=.sub\/op=.mul)->(Op.intArith op k a b).run P w=.ok (.int k q) w:=by
   intro q E ho;rcases ho with rfl|rfl|rfl<;>simp[Mo]at E<;>subst E<;>rfl
  have div:∀q,Mo op k a b=s_ q->(op=.quo\/op=.rem)->(Op.intDiv op k a b).run P w=.ok (.int k q) w:=by
   intro q E ho;rcases ho with rfl|rfl<;>simp[Mo]at E<;>obtain⟨h0,rfl⟩:=E<;>simp[Op.intDiv,h0]
  have bits:∀q,MB op k a b=s_ q->(Op.intBits op k a b).run P w=.ok (.int k q) w:=by
   intro q E;cases op<;>simp only[MB,Dv,reduceCtorEq]at E<;>subst E<;>rfl
  have cmp:∀q,K4 op a b=s_ q->(Op.intCmp op a b).run P w=.ok (.bool q) w:=by
   intro q E;cases op<;>simp[K4]at E<;>subst E<;>rfl
  have aa:∀q,Oc op k a b=s_ q->(Op.shift op k a k' b).run P w=.ok (.int k q) w:=by
   intro q E;unfold Oc at E
   split at E
   .cases E
   .rename_i hb;cases op<;>simp at E<;>subst E<;>simp[Op.shift,hb]
  cases op
  case shl=>
   simp only[]at h
   cases N:Oc .shl k a b with
   |none=>simp[N]at h
   |some q=>simp[N]at h;subst h;exact⟨_,by simp only[binOp];exact aa q N,.int _ _⟩
  case shr=>
   simp only[]at h
   cases N:Oc .shr k a b with
   |none=>simp[N]at h
   |some q=>simp[N]at h;subst h;exact⟨_,by simp only[binOp];exact aa q N,.int _ _⟩
  all_goals
   simp only[]at h
   split at h
   case isFalse=>cases h
   rename_i hk;subst hk;simp only[D1]at h;obtain⟨q,E,rfl⟩:=h
   first
    |exact⟨_,by simp only[binOp,zbg,zau,zam];exact arith q E zac,.int _ _⟩
    |exact⟨_,by simp only[binOp,zbg,zau,zam];exact div q E zac,.int _ _⟩
    |exact⟨_,by simp only[binOp,zbg,zau,zam];exact bits q E,.int _ _⟩
    |exact⟨_,by simp only[binOp,zbg,zau,zam];exact cmp q E,.bool _⟩
 .rename_i a b;obtain rfl:=NH hx;obtain rfl:=NH hy;refine⟨?_,(by intro u e;cases e),(by intro e;cases e)⟩;obtain⟨v,h1,h2⟩:=Yc3 (P:=P) (w:=w) (g:=g) (st:=st) op a b d h;refine⟨v,?_,h2⟩;cases op<;>first|exact h1|(simp[XG]at h;done)
 .cases h
def Yof(E:Bool)(t:TypeId)(N:P.underlying t=s_ .bool)(x y:D)(d:D)(vx vy:Value)(h:Pr E x y=s_ d)(hx:RepV w g st x vx)(hy:RepV w g st y vy):
  (∃v,(binOp (if E then .neq else .eql) t vx vy).run P w=.ok v w/\RepV w g st d v)/\(∀u,vx≠.agg u)/\vx≠.nilIface:=by
 unfold Pr at h
 split at h
 .rename_i a b;obtain rfl:=Ok hx;obtain rfl:=Ok hy;refine⟨?_,(by intro u e;cases e),(by intro e;cases e)⟩;simp at h;subst h;have he:(Op.equal t (.bool a) (.bool b)).run P w=.ok (a==b) w:=run_equalIn_bool w 9999 t a b N;refine⟨_,?_,.bool _⟩;cases E<;>simp[binOp,he]
 .cases h
def Yx2(op:UnOp)(x:D)(d:D)(vx:Value)(h:Pq op x=s_ d)(E:RepV w g st x vx):∃v,(Op.unary op vx).run P w=.ok v w/\RepV w g st d v:=by
 unfold Pq at h
 split at h
 .obtain rfl:=Kc E;simp only[Dv]at h;subst h;exact⟨_,rfl,.int _ _⟩
 .obtain rfl:=Kc E;simp only[D1]at h;obtain⟨q,N,rfl⟩:=h;simp only[MB,Dv]at N;subst N;exact⟨_,rfl,.int _ _⟩
 .obtain rfl:=Ok E;simp at h;subst h;exact⟨_,rfl,.bool _⟩
 .cases h
theorem Ub{x:D}{n:Nat}(h:FA x=s_ n)(E:RepV w g st x v):∃k,v=.int k (n:Int):=by
 unfold FA at h
 split at h
 .obtain rfl:=Kc E;grind
 .cases h
theorem Jx{els:List D}(h:GC els i j=s_ d):∃e,els[i]?=s_ e/\e.cells[j]?=s_ d:=by unfold GC at h;grind
def IU{els:List D}{e:D}(E:els[i]?=s_ e)(hd:e.cells[j]?=s_ d):GC els i j=s_ d:=by simp[GC,E,hd]
theorem RepV.slc_mk{els:List D}{b cap sz:Nat}(h0:0<sz)(hl:∀e∈els,e.cells.length=sz)(E:els.length<=cap)(N:t=t_->cap=els.length)
  (h:∀i j d,GC els i j=s_ d->d.pure1=t_/\g.Im b (off+i*sz+j)/\∃v,w.cell? ⟨b,off+i*sz+j,n_⟩=s_ v/\RepV w g st d v):
  RepV w g st (.slc sz els t) (.slice (s_ ⟨b,off,n_⟩) els.length cap):=by
 by_cases he:els=[]
 .subst he;exact .slcE sz t _ cap N
 .refine .slc els t b off cap sz (λi j=>(w.cell? ⟨b,off+i*sz+j,n_⟩).getD undef) he h0 hl (λi j d hd=>(h i j d hd).1) E N ?_ ?_
  .grind
  .grind
structure Els (w:World) (g:Ghost) (st:St) (v:Value) (sz:Nat) (els:List D):Prop where
 shape:∃a cap,v=.slice a els.length cap/\(els≠[]->∃b off,a=s_ ⟨b,off,n_⟩/\0<sz/\
  ∀i j d,GC els i j=s_ d->∃u,w.cell? ⟨b,off+i*sz+j,n_⟩=s_ u/\RepV w g st d u/\u.oneCell'=t_)
 pure:∀i j d,GC els i j=s_ d->d.pure1=t_
 len:∀e∈els,e.cells.length=sz
def bB{sz:Nat}{els:List D}(h:RepV w g st (.slc sz els t) v):Els w g st v sz els:=by
 cases h with
 |slcE _ _ a cap h=>exact⟨⟨a,cap,rfl,λh=>absurd rfl h⟩,λi j d hd=>by simp[GC]at hd,λe he=>by cases he⟩
 |slc _ _ b off cap _ val h1 h2 h3 E h4 h5 h6 N=>
  exact⟨⟨_,cap,rfl,λ_=>⟨b,off,rfl,h2,λi j d hd=>⟨_,(h6 i j d hd).2,N i j d hd,(N i j d hd).oneCell (Up (E i j d hd))⟩⟩⟩,E,h3⟩
def tZ{els:List D}(h:GC ((els.drop off).take len) i j=s_ d):GC els (off+i) j=s_ d/\i<len:=by
 obtain⟨e,he,hd⟩:=Jx h;rw[BO]at he
 split at he
 .rename_i hi;rw[BP]at he;exact⟨IU he hd,hi⟩
 .cases he
theorem vX(hS:SR base w g st){tot sz:Nat}{els:List D}(E:I6 st key tot off len=s_ (sz,els))(h:RepV w g st (.row key tot off len) v):
  Els w g st v sz els/\∃o,st[key]?=s_ o/\o.row=t_/\o.sz=sz/\tot=o.els.length/\off+len<=tot/\els=(o.els.drop off).take len/\els.length=len/\v=.slice (s_ ⟨g.β key,off*o.sz,n_⟩) len (g.γ key-off):=by
 unfold I6 at E
 cases h with
 |row _ _ _ _ o _ h0 h1 h2 h3 h4=>
  rw[h1]at E;simp only at E
  split at E
  .rename_i hc;simp only[Af,zao,zan]at hc;cases E;obtain⟨rfl,hle⟩:=h4 hc.1.2.symm;obtain⟨C,e,hb,_,ad,hx,hC,ac⟩:=hS.blk key o h1 (OY h2);have hl:((o.els.drop off).take len).length=len:=by rw[AJ,AL];omega
   refine⟨⟨⟨_,_,by rw[hl],λ_=>⟨_,_,rfl,ad,?_⟩⟩,?_,?_⟩,o,h1,h2,rfl,hc.1.2.symm,hle,rfl,hl,rfl⟩
   .intro i j d hd;obtain⟨h5,h6⟩:=tZ hd;obtain⟨h8,u,h9,N⟩:=ac _ _ _ h5;refine⟨u,?_,N,N.oneCell (Up (h8 h2))⟩;simp only[yax,hb];grind
   .intro i j d hd;obtain⟨h5,_⟩:=tZ hd;grind
   .grind
  .cases E
theorem mo(h:d.pure1=t_):d.cells=[d]:=by cases d<;>simp_all [D.pure1,D.cells]
theorem tz{sz:Nat}{ag:Bool}(h0:0<sz)(E:ag=t_\/sz=1):∀(n:Nat)(cs:List D),n*sz<=cs.length->(∀x∈cs,x.cells=[x])->
  (KQ sz ag cs n).length=n/\(∀e∈KQ sz ag cs n,e.cells.length=sz)/\∀i j d,GC (KQ sz ag cs n) i j=s_ d->cs[i*sz+j]?=s_ d/\i<n/\j<sz
 |0,cs,_,_=>⟨rfl,λe he=>by simp[KQ]at he,λi j d hd=>by simp[KQ,GC]at hd⟩
 |n+1,cs,hl,hc=>by
  rw[A9,BC]at hl;obtain⟨h1,h2,h3⟩:=tz h0 E n (cs.drop sz) (by rw[AL];omega) (λx hx=>hc x (Cs hx))
  have aa:(D.mk ag (cs.take sz)).cells=cs.take sz:=by
   rcases E with rfl|rfl
   .rfl
   .cases ag
    .cases cs with
     |nil=>simp at hl
     |cons x r=>simp[D.mk];exact hc x zac
    .rfl
  refine⟨by simp[KQ,h1],?_,?_⟩
  .intro e he;simp only[KQ,AB]at he;grind
  .intro i j d hd;obtain⟨e,he,N⟩:=Jx hd
   cases i with
   |zero=>
    simp only[KQ,Ay,Dv]at he;grind
   |succ i=>
    simp only[KQ,By]at he;obtain⟨h4,h5,h6⟩:=h3 i j d (IU he N);grind
theorem Ykq(hS:SR base w g st){n sz:Nat}{ag:Bool}{els:List D}(he:ND st key off n sz ag=s_ els)(hr:RepV w g st (.bsl key off n sz ag) v)
  (a3:∀d∈els,purA d=t_):Els w g st v sz els/\els.length=n/\∃o cap,st[key]?=s_ o/\o.row=f_/\o.sz=1/\off+n*sz<=o.els.length/\n<=cap/\v=.slice (s_ ⟨g.β key,off,n_⟩) n cap/\0<sz/\∀i j d,GC els i j=s_ d->i<n/\j<sz:=by
 unfold ND at he
 cases hr with
 |bsl _ _ _ _ _ o cap ho E N a4=>
  rw[ho]at he;simp only[Ax,Dv,Af,zan,A5,zao,AN]at he;obtain⟨⟨⟨⟨_,h1⟩,h2⟩,h3⟩,rfl⟩:=he;obtain⟨C,e,hb,_,bd,hx,hC,a1⟩:=hS.blk key o ho (SW N);rw[E]at hC;simp only[Ao,zam]at hC;obtain⟨c1,c2,c3⟩:=tz h2 h3 n (o.els.drop off) (by rw[AL];omega) (λx hx=>hC.2.2 x (Cs hx))
  have af:∀i j d,GC (KQ sz ag (o.els.drop off) n) i j=s_ d->d.pure1=t_:=by
   intro i j d hd;obtain⟨h6,_⟩:=c3 i j d hd;rw[BP]at h6;obtain⟨e0,a7,ac⟩:=Jx hd;have h7:=a3 e0 (Ak a7)
   cases e0 with
   |agg l=>
    simp only[purA,Ad]at h7;exact h7 d (Ak ac)
   |_=>
    simp only[D.cells]at ac;have:=Ak ac;simp only[AU]at this;rw[this];exact h7
  refine⟨⟨⟨_,cap,by rw[c1],λ_=>⟨_,_,rfl,h2,?_⟩⟩,af,c2⟩,c1,o,cap,ho,E,N,h1,a4,rfl,h2,λi j d hd=>(c3 i j d hd).2⟩;intro i j d hd;obtain⟨h6,_⟩:=c3 i j d hd;rw[BP]at h6;have h7:=hC.2.2 d (Ak h6);obtain⟨_,u,h8,h9⟩:=a1 (off+(i*sz+j)) 0 d (IU h6 (by rw[h7];rfl));refine⟨u,?_,h9,h9.oneCell (Up (af i j d hd))⟩;rw[hC.2.1]at h8;simp only[yax,hb];grind
end
open Go Go.RowKit
variable{v:Value}{d:D}{ag:Bool}{t:TypeId}{n off:Nat}
section
variable{P:Program}{base:Nat}{w:World}{g:Ghost}{st:St}
def M5(g:Ghost)(st:St)(ks:List Nat):Prop:=∀k∈ks,∀o,st[k]?=s_ o->o.isMap=f_->∀x,x<o.els.length*o.sz->g.Im (g.β k) x
theorem RepV.loose{sz:Nat}{els:List D}{t:Bool}(h:RepV w g st (.slc sz els t) v):RepV w g st (.slc sz els f_) v:=by
 cases h with
 |slcE _ _ a cap h=>exact .slcE sz f_ a cap λe=>by cases e
 |slc _ _ b off cap _ val N h2 h3 E h4 h5 h6 h7=>exact .slc els f_ b off cap sz val N h2 h3 E h4 (λe=>by cases e) h6 h7
theorem RepV.nz{sz:Nat}{els:List D}{t:Bool}(h:RepV w g st (.slc sz els t) v):RepV w g st (.slc (PI.nz sz els) els f_) v:=by
 have h:=h.loose
 cases els with
 |nil=>
  cases h with
  |slcE _ _ a cap h=>exact .slcE _ f_ a cap λe=>by cases e
  |slc _ _ b off cap _ val E h2 h3 N h4 h5 h6 h7=>exact absurd rfl E
 |cons a l=>exact h
theorem yWn(hS:SR base w g st){y:D}(h:DO st d=s_ y)(hr:RepV w g st d v)(hL:M5 g st (Fw d)):RepV w g st y v/\y.pure1=t_:=by
 cases d with
 |row key tot off len=>
  simp only[DO,D1]at h;obtain⟨⟨sz,els⟩,he,rfl⟩:=h;obtain⟨N,o,ho,E,aa,bd,hle,af,hlen,rfl⟩:=vX hS he hr;refine⟨RepV.nz (t:=f_) ?_,rfl⟩;obtain⟨C,e,hb,_,ah,hx,hC,be⟩:=hS.blk key o ho (OY E);rw[E]at hC;simp only[zaj]at hC;have ab:els.length<=g.γ key-off:=zaa
  subst aa
  show RepV w g st (.slc o.sz els f_) (.slice (s_ ⟨g.β key,off*o.sz,n_⟩) len (g.γ key-off))
  rw[<-hlen];refine .slc_mk ah N.len ab (λh=>by cases h) ?_;intro i j d hd;refine⟨N.pure i j d hd,?_,?_⟩
  .refine hL key (by simp[Fw]) o ho (OY E) _ ?_;subst af;obtain⟨h1,h2⟩:=tZ hd;obtain⟨e1,h3,h4⟩:=Jx h1;have h5:=hx e1 (Ak h3);have h6:j<o.sz:=by rw[<-h5];exact(Aa.1 h4).1
   have h7:off+i<o.els.length:=(Aa.1 h3).1
   calc off*o.sz+i*o.sz+j<off*o.sz+i*o.sz+o.sz:=zaa
    _=(off+i+1)*o.sz:=by rw[A9,A9,BC]
    _<=o.els.length*o.sz:=AZ _ h7
  .obtain⟨a,cap,hv,a8⟩:=N.shape
   have a9:els≠[]:=by
    rintro rfl;simp[GC]at hd
   grind
 |slc sz els t=>
  simp only[DO,Dv]at h;subst h;exact⟨hr.nz,rfl⟩
 |bsl key off n sz ag=>
  simp only[DO,D1]at h;obtain⟨els,he,rfl⟩:=h;unfold Jl at he
  split at he
  case h_2=>cases he
  rename_i a2 ba
  split at he
  case isFalse=>cases he
  rename_i bb;simp only[Dv]at he;subst he;obtain⟨N,hlen,o,cap,ho,E,a3,hle,ab,rfl,aa,bc⟩:=Ykq hS ba hr (Ad.1 bb);refine⟨RepV.nz (t:=f_) ?_,rfl⟩;rw[<-hlen];refine .slc_mk aa N.len zaa (λh=>by cases h) ?_;intro i j d hd;obtain⟨h5,h6⟩:=bc i j d hd;refine⟨N.pure i j d hd,?_,?_⟩
  .have hx:off+i*sz+j<o.els.length*o.sz:=by
    have h7:(i+1)*sz<=n*sz:=AZ _ h5;grind
   exact hL key (by simp[Fw]) o ho (SW a3) _ hx
  .obtain⟨a,b2,hv,a8⟩:=N.shape
   have a9:a2≠[]:=by
    grind
   grind
 |_=>
  simp only[DO]at h;grind
theorem wO(hS:SR base w g st):∀{ds ys:List D},Ef st ds=s_ ys->M5 g st (ds.flatMap Fw)->ys.length=ds.length/\
  (∀(i:Nat)y v,ys[i]?=s_ y->(∀d,ds[i]?=s_ d->RepV w g st d v)->RepV w g st y v)/\ys.all D.pure1=t_
 |[],ys,h,_=>by simp[Ef]at h;subst h;exact⟨rfl,λi y v h=>by simp at h,rfl⟩
 |d::l,ys,h,hL=>by
  unfold Ef at h
  split at h
  .rename_i x y E hy;simp at h;subst h;obtain⟨h1,h2,h3⟩:=wO hS hy (λk hk=>hL k (by simp only[AA,AK];exact .inr hk));have ac:M5 g st (Fw d):=λk hk=>hL k (by simp only[AA,AK];exact .inl hk);refine⟨by simp[h1],?_,?_⟩
   .intro i z v N hv
    cases i with
    |zero=>simp at N;subst N;exact(yWn hS E (hv d rfl) ac).1
    |succ i=>simp at N;exact h2 i z v N (λd' ad=>hv d' (by simpa using ad))
   .simp only[AQ,h3,B9]
    cases d with
    |row key tot off len=>
     simp only[DO,D1]at E;obtain⟨p,_,rfl⟩:=E;rfl
    |slc sz els t=>simp only[DO,Dv]at E;subst E;rfl
    |bsl key off n sz ag=>
     simp only[DO,D1]at E;obtain⟨p,_,rfl⟩:=E;rfl
    |_=>
     simp only[DO]at E;grind
  .cases h
def Yha(hS:SR base w g st){y:D}(h:D2 st d=s_ y)(hr:RepV w g st d v)(hL:M5 g st (keys d)):RepV w g st y v/\purA y=t_:=by
 cases d with
 |agg l=>
  simp only[D2,D1]at h;obtain⟨ys,hy,rfl⟩:=h;obtain⟨N,E,h3⟩:=wO hS hy hL
  cases hr with
  |agg _ vs h4 h5=>
   exact⟨.agg ys vs (N.trans h4) λi y v ad hv=>E i y v ad λd hd=>h5 i d v hd hv,h3⟩
 |tup l=>simp[D2]at h
 |_=>
  simp only[D2]at h;obtain⟨N,E⟩:=yWn hS h hr hL;refine⟨N,?_⟩;cases y<;>first|exact E|(simp[D.pure1]at E;done)
theorem yWi(hS:SR base w g st):∀{ds ys:List D},Ey st ds=s_ ys->M5 g st (ds.flatMap keys)->ys.length=ds.length/\
  (∀(i:Nat)y v,ys[i]?=s_ y->(∀d,ds[i]?=s_ d->RepV w g st d v)->RepV w g st y v)/\∀y∈ys,purA y=t_
 |[],ys,h,_=>by simp[Ey]at h;subst h;exact⟨rfl,λi y v h=>by simp at h,λy hy=>by cases hy⟩
 |d::l,ys,h,hL=>by
  unfold Ey at h
  split at h
  .rename_i x y E hy;simp at h;subst h;obtain⟨h1,h2,h3⟩:=yWi hS hy (λk hk=>hL k (by simp only[AA,AK];exact .inr hk));have aa:M5 g st (keys d):=λk hk=>hL k (by simp only[AA,AK];exact .inl hk);refine⟨by simp[h1],?_,?_⟩
   .intro i z v N hv
    cases i with
    |zero=>simp at N;subst N;exact(Yha hS E (hv d rfl) aa).1
    |succ i=>simp at N;exact h2 i z v N (λd' ae=>hv d' (by simpa using ae))
   .intro z N;rcases AB.1 N with rfl|N
    ·
     cases d with
     |agg l=>
      simp only[D2,D1]at E;obtain⟨ys,ah,rfl⟩:=E;exact(wO hS ah aa).2.2
     |tup l=>simp[D2]at E
     |row key tot off len=>
      simp only[D2,DO,D1]at E;obtain⟨p,_,rfl⟩:=E;rfl
     |slc sz els t=>simp only[D2,DO,Dv]at E;subst E;rfl
     |bsl key off n sz ag=>
      simp only[D2,DO,D1]at E;obtain⟨p,_,rfl⟩:=E;rfl
     |_=>
      simp only[D2,DO]at E
      split at E
      .rename_i hp;simp only[Dv]at E;subst E;exact hp
      .cases E
    .grind
  .cases h
def WM(h:E9 P t=s_ ag):(isAgg t).run P w=.ok ag w:=by
 unfold E9 at h
 cases hu:P.underlying t with
 |none=>simp[hu]at h
 |some u=>
  cases u<;>simp[hu]at h<;>subst h<;>simp[isAgg,run_underlying hu]
def NT(h:ET P t=s_ n):(sizeOf t).run P w=.ok n w:=by
 unfold ET at h
 cases hi:P.info? t with
 |none=>simp[hi]at h
 |some i=>simp[hi]at h;subst h;simp[sizeOf,typeInfo,hi]
theorem yR2{b:Nat}{cs:List D}(N:E9 P t=s_ ag)(hn:ET P t=s_ n)(aa:ag=f_->n=1)(hl:cs.length=n)
  (h:∀(j:Nat)d,cs[j]?=s_ d->∃u,w.cell? ⟨b,off+j,n_⟩=s_ u/\RepV w g st d u):
  ∃v,(loadVar t ⟨b,off,n_⟩).run P w=.ok v w/\RepV w g st (.mk ag cs) v:=by
 cases ag with
 |true=>
  refine⟨.agg ((C9 n).map λj=>(w.cell? ⟨b,off+j,n_⟩).getD undef).toArray,?_,?_⟩
  .have E:∀j,j<n->w.cell? ((⟨b,off,n_⟩:Addr).add j)=s_ ((w.cell? ⟨b,off+j,n_⟩).getD undef):=by
    intro j hj;rw[cell?_add];obtain⟨u,h2,_⟩:=h j cs[j] (by simp[hl,hj]);simp[h2]
   simp only[loadVar,yay,WM N,yaz,zaj,NT hn,run_loadCells w _ n _ E];rfl
  .refine .agg cs _ (by simp[hl]) ?_;grind
 |false=>
  have E:=aa rfl;subst E
  match cs,hl with
  |[d],_=>
   obtain⟨u,h2,h3⟩:=h 0 d rfl;refine⟨u,?_,h3⟩;simp only[loadVar,yay,WM N,yaz,Ao,zam,run_load];grind
theorem ux{l:List D}{j:Nat}(h:((l.drop off).take n)[j]?=s_ d):l[off+j]?=s_ d/\j<n:=by grind
theorem yM3(hS:SR base w g st){p:D}(ha:E9 P t=s_ ag)(hn:ET P t=s_ n)(h:Fa st n ag p=s_ d)(hr:RepV w g st p v):
  ∃u,(yaA t v).run P w=.ok u w/\RepV w g st d u:=by
 unfold Fa at h
 split at h
 .cases h
 rename_i a4;have af:ag=f_->n=1:=by intro e;subst e;simpa using a4
 have go:∀(b off:Nat)(cs:List D),v=.pointer (s_ ⟨b,off,n_⟩)->cs.length=n->(∀(j:Nat)d,cs[j]?=s_ d->∃u,w.cell? ⟨b,off+j,n_⟩=s_ u/\RepV w g st d u)->d=.mk ag cs->
   ∃u,(yaA t v).run P w=.ok u w/\RepV w g st d u:=by
  intro b off cs hv hl hc hd;subst hv;subst hd;obtain⟨u,N,h2⟩:=yR2 (P:=P) ha hn af hl hc;exact⟨u,by simpa[yaA,yaB]using N,h2⟩
 split at h
 .rename_i key off
  cases hr with
  |ptr _ _ o ho E ah=>
   rw[ho]at h;simp only[E,A0,Bm,zan,Ax,Dv]at h;obtain⟨hle,rfl⟩:=h;obtain⟨C,e,hb,_,a0,hx,hC,aa⟩:=hS.blk key o ho (SW ah);rw[E]at hC;simp only[Ao,zam]at hC;refine go _ _ _ rfl (by rw[AJ,AL];omega) ?_ rfl;intro j d hd;obtain⟨N,h2⟩:=ux hd;have h3:=hC.2.2 d (Ak N);obtain⟨_,u,h5,h6⟩:=aa (off+j) 0 d (IU N (by rw[h3];rfl));refine⟨u,?_,h6⟩;rw[hC.2.1]at h5;simp only[yax,hb];grind
 .rename_i key tot i off
  cases hr with
  |rptr _ _ _ _ o _ _ ho E h3 h4=>
   rw[ho]at h;simp only[E,Bm,zao]at h
   split at h
   .rename_i a2
    split at h
    .rename_i el a7;simp only[Ax,Dv]at h;obtain⟨hle,rfl⟩:=h;obtain⟨C,e,hb,_,a0,hx,hC,aa⟩:=hS.blk key o ho (OY E);refine go _ _ _ (h4 a2.symm) (by rw[AJ,AL];omega) ?_ rfl;intro j d hd;obtain⟨N,h2⟩:=ux hd;obtain⟨_,u,h5,h6⟩:=aa i (off+j) d (IU a7 N);refine⟨u,?_,h6⟩;simp only[yax,hb];grind
    .cases h
   .cases h
 .rename_i el off
  cases hr with
  |eptr _ _ b o val h0 N h2=>
   grind
 .cases h
end
open Go Go.RowKit
variable{v vi:Value}{cap h key l len n off tot:Nat}{d p:D}{elem t:TypeId}{sl:Bool}{vhi vlo:Option Value}{hi lo:Option D}
section
variable{P:Program}{base:Nat}{w:World}{g:Ghost}{st:St}
theorem xD{i o:Nat}(hl:EY st key tot=t_)(N:RepV w g st (.rptr key tot i o) v):
  ∃E,st[key]?=s_ E/\E.row=t_/\tot=E.els.length/\v=.pointer (s_ ⟨g.β key,i*E.sz+o,n_⟩):=by
 cases N with
 |rptr _ _ _ _ E _ h0 h1 h2 h3 h4=>
  have:tot=E.els.length:=by
   simp only[EY,h1,Af,zao]at hl;omega
  grind
theorem Y2(hl:EY st key tot=t_)(N:RepV w g st (.row key tot off len) v):
  ∃E,st[key]?=s_ E/\E.row=t_/\tot=E.els.length/\v=.slice (s_ ⟨g.β key,off*E.sz,n_⟩) len (g.γ key-off)/\off+len<=tot:=by
 cases N with
 |row _ _ _ _ E _ h0 h1 h2 h3 h4=>
  have:tot=E.els.length:=by
   simp only[EY,h1,Af,zao]at hl;omega
  grind
theorem yVb(h:FE st off p=s_ d)(E:RepV w g st p v):∃b o,v=.pointer (s_ ⟨b,o,n_⟩)/\RepV w g st d (.pointer (s_ ⟨b,o+off,n_⟩)):=by
 unfold FE at h
 split at h
 .simp at h;subst h
  cases E with
  |ptr key o' o ho N aa=>exact⟨_,_,rfl,.ptr _ _ o ho N aa⟩
 .split at h
  .rename_i key tot i o hl;simp at h;subst h;obtain⟨ob,h1,h2,h3,rfl⟩:=xD hl E;refine⟨_,_,rfl,.rptr _ _ _ _ ob _ rfl h1 h2 zaa λ_=>?_⟩;grind
  .cases h
 .simp at h;subst h
  cases E with
  |eptr el af b o val h0 h1 h2=>exact⟨_,_,rfl,by rw[Cw];exact .eptr _ _ b o val h0 h1 h2⟩
 .cases h
def ySs{s:TypeId}{E:Array Field}{f:Nat}{N:Field}(hs:P.underlying s=s_ (.struct E))(hf:E[f]?=s_ N)(hn:ET P N.type=s_ n)(h0:n≠0)
  (h:FE st N.offset p=s_ d) (hr:RepV w g st p v):∃u,(yaC s v f).run P w=.ok u w/\RepV w g st d u:=by obtain⟨b,o,rfl,h1⟩:=yVb h hr;refine⟨_,?_,h1⟩;simp[yaC,run_underlying hs,hf,yaB,fieldPlace,NT hn,h0,Nc]
def yD5{i:D}(E:P.underlying t=s_ (.array len elem))(hn:ET P elem=s_ n)
  (h:J8 st len n p i=s_ d) (N:RepV w g st p v) (hi:RepV w g st i vi):∃u,(yaD t v vi).run P w=.ok u w/\RepV w g st d u:=by
 unfold J8 at h
 cases hj:FA i with
 |none=>simp[hj]at h
 |some j=>
  simp only[hj,Ax]at h;obtain⟨ab,h⟩:=h;obtain⟨k,rfl⟩:=Ub hj hi;obtain⟨b,o,rfl,h1⟩:=yVb h N;refine⟨_,?_,h1⟩;simp only[yaD,yay,asIntOf,yaE,run_underlying E,yaz,yaB];have:(0:Int)<=(j:Int)/\(j:Int)<(len:Int):=zaa
  simp[this,NT hn,Nc]
theorem yF7{x i:D}(ht:P.underlying t=s_ (.slice elem))(hn:ET P elem=s_ n)
  (h:ER st n x i=s_ d) (hr:RepV w g st x v) (hi:RepV w g st i vi):∃u,(yaD t v vi).run P w=.ok u w/\RepV w g st d u:=by
 unfold ER at h
 cases hj:FA i with
 |none=>simp[hj]at h
 |some j=>
  simp only[hj]at h;obtain⟨k,rfl⟩:=Ub hj hi
  have go:∀b o len cap,v=.slice (s_ ⟨b,o,n_⟩) len cap->j<len->(yaD t v (.int k (j:Int))).run P w=.ok (.pointer (s_ ⟨b,o+j*n,n_⟩)) w:=by
   intro b o len cap hv aa;subst hv;simp only[yaD,yay,asIntOf,yaE,run_underlying ht,yaz];have:(0:Int)<=(j:Int)/\(j:Int)<(len:Int):=zaa
   simp[this,NT hn,Nc]
  split at h
  .rename_i sz els tg
   split at h
   .rename_i el E;simp only[zao,Ax,Dv]at h;obtain⟨rfl,rfl⟩:=h
    cases hr with
    |slcE=>simp at E
    |slc _ _ b off cap _ val h1 h2 h3 a0 h4 h5 h6 h7=>
     refine⟨_,go _ _ _ _ rfl (Aa.1 E).1,?_⟩;have:=RepV.eptr (w:=w) (g:=g) (st:=st) el 0 b (off+j*sz) (val j) (λq d hd=>a0 j q d (IU E hd)) (λq d hd=>h6 j q d (IU E hd)) (λq d hd=>h7 j q d (IU E hd));omega
   .cases h
  .rename_i key tot off len
   split at h
   .rename_i o ho
    split at h
    .rename_i hc;simp only[Af,zao,zan]at hc;cases h;obtain⟨⟨⟨N,a7⟩,ad⟩,aa⟩:=hc;obtain⟨ob,h1,h2,h3,rfl,h5⟩:=Y2 (by simp[EY,ho,N,ad]) hr;obtain rfl:ob=o:=At (h1.symm.trans ho);refine⟨_,go _ _ _ _ rfl aa,.rptr _ _ _ _ ob _ rfl ho h2 zaa λ_=>?_⟩;grind
    .cases h
   .cases h
  .rename_i key off m a8 ag;simp only[Ax,Dv]at h;obtain⟨⟨aa,rfl⟩,rfl⟩:=h
   cases hr with
   |bsl _ _ _ _ _ o cap ho N ae _=>exact⟨_,go _ _ _ _ rfl aa,.ptr _ _ o ho N ae⟩
  .cases h
def Za{i:D}{y:Nat}{code:BoundsCode}(h:FA i=s_ n)(hi:RepV w g st i vi)(E:n<=y):(yaF vi y code).run P w=.ok n w:=by
 obtain⟨k,rfl⟩:=Ub h hi;have:(0:Int)<=(n:Int)/\(n:Int)<=(y:Int):=zaa
 simp[yaF,asIntOf,this]
def lY(hl:GV lo 0=s_ l)(E:GV hi len=s_ h)
  (aa:∀d v,lo=s_ d->vlo=s_ v->RepV w g st d v) (ab:∀d v,hi=s_ d->vhi=s_ v->RepV w g st d v) (ac:lo.isSome=vlo.isSome) (ad:hi.isSome=vhi.isSome)
  (ae:l<=h) (N:h<=cap):(yaG sl len cap vlo vhi n_).run P w=.ok (l,h,cap) w:=by
 have e2:∀v d,vlo=s_ v->lo=s_ d->(yaF v h .sliceB).run P w=.ok l w:=by
  intro v d hv hd;subst hd;simp only[GV]at hl;exact Za hl (aa d v rfl hv) ae
 have e1:∀v d code,vhi=s_ v->hi=s_ d->(yaF v cap code).run P w=.ok h w:=by
  intro v d code hv hd;subst hd;simp only[GV]at E;exact Za E (ab d v rfl hv) N
 cases hi<;>cases vhi<;>simp only[Ca,BF,reduceCtorEq]at ad<;>cases lo<;>cases vlo<;>simp only[Ca,BF,reduceCtorEq]at ac<;>
  simp only[GV,Dv]at hl E
 .subst hl;subst E;simp[yaG]
 .subst E;simp[yaG,e2 _ _ rfl rfl]
 .subst hl;simp[yaG,e1 _ _ _ rfl rfl]
 .simp[yaG,e1 _ _ _ rfl rfl,e2 _ _ rfl rfl]
def yTi{dh dm:D}{E vm:Value}(hl:GV lo 0=s_ l)(hh:FA dh=s_ h)(hm:FA dm=s_ h)
  (ac:∀d v,lo=s_ d->vlo=s_ v->RepV w g st d v) (ad:RepV w g st dh E) (ae:RepV w g st dm vm) (af:lo.isSome=vlo.isSome)
  (ah:l<=h) (N:h<=cap):(yaG sl len cap vlo (s_ E) (s_ vm)).run P w=.ok (l,h,h) w:=by
 have e2:∀v d,vlo=s_ v->lo=s_ d->(yaF v h .slice3C).run P w=.ok l w:=by
  intro v d hv hd;subst hd;simp only[GV]at hl;exact Za hl (ac d v rfl hv) ah
 have e3:∀code,(yaF vm cap code).run P w=.ok h w:=λcode=>Za hm ae N;have e4:∀code,(yaF E h code).run P w=.ok h w:=λcode=>Za hh ad (Au _);cases lo<;>cases vlo<;>simp only[Ca,BF,reduceCtorEq]at af<;>simp only[GV,Dv]at hl
 .subst hl;simp[yaG,e3,e4]
 .simp[yaG,e3,e4,e2 _ _ rfl rfl]
def tw{els:List D}{i j:Nat}(hd:GC ((els.take h).drop l) i j=s_ d):GC els (l+i) j=s_ d/\l+i<h:=by
 obtain⟨e,he,hd⟩:=Jx hd;rw[BP,BO]at he
 split at he
 .rename_i hi;exact⟨IU he hd,hi⟩
 .cases he
theorem Yw3{sz:Nat}{els:List D}{tg tg':Bool}{a:Option Addr}{m:Nat}(hr:RepV w g st (.slc sz els tg) (.slice a els.length cap))(ah:l<=h)(hh:h<=els.length)(hm:h<=m)(ht:tg'=t_->m=h):
  RepV w g st (.slc sz ((els.take h).drop l) tg') (.slice (if m=l then a else a.map (·.add (l*sz))) (h-l) (m-l)):=by
 have hlen:((els.take h).drop l).length=h-l:=by rw[AL,AJ];omega
 rw[<-hlen]
 by_cases E:(els.take h).drop l=[]
 .rw[E];refine .slcE _ _ _ _ λe=>?_;grind
 .have a0:l<h:=by
   grind
  rw[YYN]
  cases hr with
  |slcE=>simp at E
  |slc _ _ b off cap _ val h1 h2 h3 N h4 h5 h6 h7=>
   simp only[Ae,Nc];refine .slc _ _ _ _ _ _ (λi j=>val (l+i) j) E h2 ?_ ?_ zaa (λe=>by have:=ht e;omega) ?_ ?_
   .grind
   .intro i j d hd;exact N _ _ _ (tw hd).1
   .intro i j d hd;have:=h6 _ _ _ (tw hd).1;grind
   .intro i j d hd;exact h7 _ _ _ (tw hd).1
theorem vj{x:Option Operand}{pa:Option PA}{ρ:PA->D}{E:Operand->Value}(h:Yc x=s_ pa)(N:lo=pa.map ρ)(aa:∀x pa,Ek x=s_ pa->RepV w g st (ρ pa) (E x)):
  (∀d v,lo=s_ d->x.map E=s_ v->RepV w g st d v)/\lo.isSome=(x.map E).isSome:=by
 cases x with
 |none=>simp[Yc]at h;subst h;subst N;simp
 |some x=>
  simp only[Yc,D1]at h;grind
theorem yG0(hS:SR base w g st){sz:Nat}{x:D}{mx:Option D}{ac:Option Value}
  (ht:(sz=0/\P.underlying t=s_ .string)\/(sz≠0/\∃e,P.underlying t=s_ (.slice e)/\ET P e=s_ sz))
  (h:GS st sz x lo hi mx=s_ d) (hr:RepV w g st x v)
  (aa:(∀d v,lo=s_ d->vlo=s_ v->RepV w g st d v)/\lo.isSome=vlo.isSome) (ab:(∀d v,hi=s_ d->vhi=s_ v->RepV w g st d v)/\hi.isSome=vhi.isSome)
  (a7:(∀d v,mx=s_ d->ac=s_ v->RepV w g st d v)/\mx.isSome=ac.isSome):
  ∃u,(yaH t v vlo vhi ac).run P w=.ok u w/\RepV w g st d u:=by
 unfold GS at h
 split at h
 .rename_i s;obtain rfl:=NH hr
  split at h
  .rename_i l h' hl hh;simp only[Ax,Dv]at h;obtain⟨⟨h0,E,N⟩,rfl⟩:=h
   have hu:P.underlying t=s_ .string:=by
    grind
   have hm:ac=n_:=by
    simp_all
   subst hm;have hb:=lY (P:=P) (w:=w) (g:=g) (st:=st) (sl:=f_) hl hh aa.1 ab.1 aa.2 ab.2 E N;refine⟨.string ((Dk s.toArray).extract l h'),?_,v9 _ _ ?_⟩
   .simp only[yaH,yay,run_underlying hu,yaz,yaI,Ca,Ao,zam];have e:Dg ⟨s.toArray⟩=s.length:=by simp[Dg]
    simp_all
   .rw[Lib.extract_data];simp[List.drop_take]
  .cases h
 .rename_i bc els tg
  split at h
  case isFalse=>cases h
  rename_i a0;simp only[Af,zbh,zbg]at a0;obtain⟨a0,hs0⟩:=a0;obtain⟨_,e,hu,hn⟩:=ht.resolve_left (λh=>hs0 h.1)
  have hv:∃a cap,v=.slice a els.length cap:=by
   cases hr with
   |slcE _ _ a cap h=>exact⟨a,cap,rfl⟩
   |slc _ _ b off cap _ val E=>exact⟨_,cap,rfl⟩
  obtain⟨a,cap,rfl⟩:=hv
  have ae:els.length<=cap:=by
   cases hr with
   |slcE _ _ a cap h=>simp
   |slc _ _ b off cap _ val E N h3 b4 h4=>exact h4
  split at h
  .rename_i l h' hl hh
   have final:∀(tg':Bool)(m:Nat),l<=h'->h'<=els.length->h'<=m->(tg'=t_->m=h')->RepV w g st (.slc bc ((els.take h').drop l) tg') (.slice (if m=l then a else a.map (·.add (l*sz))) (h'-l) (m-l)):=by
    intro tg' m E N h3 h4;have:=Yw3 (tg':=tg') hr E N h3 h4;grind
   split at h
   .simp only[Ax,Dv]at h;obtain⟨⟨E,N⟩,rfl⟩:=h
    have hm:ac=n_:=by
     simp_all
    subst hm;have hb:=lY (P:=P) (w:=w) (g:=g) (st:=st) (sl:=t_) hl hh aa.1 ab.1 aa.2 ab.2 E (AT N ae);refine⟨_,?_,final _ cap E N (AT N ae) ?_⟩
    .simp only[yaH,yay,run_underlying hu,yaz,yaI,hb,NT hn];rfl
    .intro e;simp only[Af,zao]at e
     cases hr with
     |slcE _ _ a cap h5=>have:=h5 e.1;simp at N;omega
     |slc _ _ b off cap _ val _ _ _ _ _ h5=>have:=h5 e.1;omega
   .rename_i m;simp only[Ax,Dv]at h;obtain⟨⟨E,N,h3,h4⟩,rfl⟩:=h
    cases ac with
    |none=>simp at a7
    |some vm=>
     cases hi with
     |none=>simp at h4
     |some dh=>
      cases vhi with
      |none=>simp at ab
      |some vh=>
       simp only[GV]at hh;have hb:=yTi (P:=P) (len:=els.length) (sl:=t_) hl hh h3 aa.1 (ab.1 dh vh rfl rfl) (a7.1 m vm rfl rfl) aa.2 E (AT N ae);refine⟨_,?_,final t_ h' E N (Au _) (λ_=>rfl)⟩;simp only[yaH,yay,run_underlying hu,yaz,yaI,hb,NT hn];rfl
  .cases h
 .rename_i key tot off len
  split at h
  .rename_i o ho
   split at h
   .rename_i hc;simp only[Af,zao,zbh,zbg]at hc;obtain⟨⟨⟨af,a0⟩,a9⟩,hs0⟩:=hc;obtain⟨_,e,hu,hn⟩:=ht.resolve_left (λh=>hs0 h.1);obtain⟨ob,E,N,h3,rfl,h5⟩:=Y2 (by simp[EY,ho,af,a9]) hr;obtain rfl:ob=o:=At (E.symm.trans ho);obtain⟨C,e',b5,_,b1,hx,hC,b2⟩:=hS.blk key ob ho (OY af);rw[af]at hC;simp only[zaj]at hC
    split at h
    .rename_i l h' hl hh
     have hm:ac=n_:=by
      simp_all
     subst hm
     split at h
     .rename_i be;have hb:=lY (P:=P) (w:=w) (g:=g) (st:=st) (sl:=t_) (cap:=g.γ key-off) hl hh aa.1 ab.1 aa.2 ab.2 be.1 zaa
      have ba:(yaH t (.slice (s_ ⟨g.β key,off*ob.sz,n_⟩) len (g.γ key-off)) vlo vhi n_).run P w=.ok (.slice (if g.γ key-off=l then s_ ⟨g.β key,off*ob.sz,n_⟩else s_ ⟨g.β key,off*ob.sz+l*sz,n_⟩) (h'-l) (g.γ key-off-l)) w:=by
       simp only[yaH,yay,run_underlying hu,yaz,yaI,hb,NT hn,Ae,Nc];rfl
      refine⟨_,ba,?_⟩
      split at h
      .grind
      .split at h
       .cases h;rename_i h7;rw[h7,BQ];exact .slcE _ _ _ _ λe=>by cases e
       .cases h;rw[YYN];refine .row _ _ _ _ ob _ rfl ho af zaa λ_=>⟨?_,zaa⟩;grind
     .cases h
    .cases h
   .cases h
  .cases h
 .cases h
end
open Go Go.RowKit
variable{v vi:Value}{d x:D}{ag:Bool}{n:Nat}{elem t xt:TypeId}
section
variable{P:Program}{base:Nat}{w:World}{g:Ghost}{st:St}
theorem yRe{sz:Nat}{lo hi:Option D}{vlo vhi:Option Value}(ht:P.underlying t=s_ (.array n elem))(hn:ET P elem=s_ sz)
  (h:Sv n sz ag x lo hi=s_ d) (hr:RepV w g st x v)
  (aa:(∀d v,lo=s_ d->vlo=s_ v->RepV w g st d v)/\lo.isSome=vlo.isSome) (ab:(∀d v,hi=s_ d->vhi=s_ v->RepV w g st d v)/\hi.isSome=vhi.isSome):
  ∃u,(yaH t v vlo vhi n_).run P w=.ok u w/\RepV w g st d u:=by
 unfold Sv at h
 split at h
 .rename_i l E hl hh
  split at h
  .rename_i hle;have hb:=lY (P:=P) (w:=w) (g:=g) (st:=st) (sl:=f_) (cap:=n) hl hh aa.1 ab.1 aa.2 ab.2 hle.1 hle.2
   have N:∀a:Addr,(yaH t (.pointer (s_ a)) vlo vhi n_).run P w=.ok (.slice (s_ (if n=l then a else a.add (l*sz))) (E-l) (n-l)) w:=by
    intro a;simp only[yaH,yay,run_underlying ht,yaz,yaB,yaE,hb,NT hn]
   split at h
   .cases hr with
    |ptr key off o ho ac ad=>
     refine⟨_,N _,?_⟩
     split at h
     .rename_i e;simp only[Dv]at h;subst h;rw[e,BQ];exact .slcE _ _ _ _ λe=>by cases e
     .simp only[Dv]at h;subst h;rw[YYN,Nc];exact .bsl _ _ _ _ _ o _ ho ac ad zaa
   .rename_i el off
    cases hr with
    |eptr _ _ b o val hp h4 h5=>
     refine⟨_,N _,?_⟩
     split at h
     .rename_i e;simp only[Dv]at h;subst h;rw[e,BQ];exact .slcE _ _ _ _ λe=>by cases e
     .rw[YYN];simp only[Ax,Dv,Af,zan,A5,zao]at h;obtain⟨⟨⟨h1,h2⟩,h3⟩,rfl⟩:=h
      have hm:(E-l)*sz<=(el.cells.drop (off+l*sz)).length:=by
       rw[AL];have:E*sz<=n*sz:=AZ _ hle.2;have e1:(E-l)*sz=E*sz-l*sz:=Nat.sub_mul _ _ _;omega
      obtain⟨c1,c2,c3⟩:=tz h2 h3 (E-l) (el.cells.drop (off+l*sz)) hm (λx hx=>by
       obtain⟨i,hi⟩:=A7.1 (Cs hx);exact mo (hp i x hi))
      rw[Nc]
      have goal:=RepV.slc_mk (w:=w) (g:=g) (st:=st) (els:=KQ sz ag (el.cells.drop (off+l*sz)) (E-l)) (t:=E==n) (b:=b) (off:=o+off+l*sz) (cap:=n-l) h2 c2 (by rw[c1];omega) (λe=>by rw[c1];simp at e;omega) (by
       grind)
      grind
   .cases h
  .cases h
 .cases h
theorem yVd{off:Nat}{ds:List D}{vs:List Value}(E:E9 P t=s_ ag)(hn:ET P t=s_ n)(N:ag=t_\/n=1)(hl:ds.length=vs.length)(ac:off+n<=ds.length)
  (h:∀(i:Nat)d v,ds[i]?=s_ d->vs[i]?=s_ v->RepV w g st d v):∃u,(part t vs.toArray off).run P w=.ok u w/\RepV w g st (.mk ag ((ds.drop off).take n)) u:=by
 cases ag with
 |true=>
  refine⟨.agg ((vs.drop off).take n).toArray,?_,?_⟩
  .have:vs.toArray.extract off (off+n)=((vs.drop off).take n).toArray:=by
    grind
   simp only[part,yay,WM E,yaz,zaj,NT hn,this,yaE]
  .refine .agg _ _ (by simp[hl]) ?_;grind
 |false=>
  obtain rfl:n=1:=N.resolve_left zac;have h1:off<ds.length:=zaa
  have h2:off<vs.length:=zaa
  refine⟨vs[off],?_,?_⟩
  .simp[part,WM E,h2]
  .have e:D.mk f_ ((ds.drop off).take 1)=ds[off]:=by
    simp[D.mk,List.take_one,List.head?_drop,h1]
   rw[e];exact h off _ _ (Ah h1) (Ah h2)
def Ye4{E:Array Field}{f:Nat}{N:Field}(hs:P.underlying xt=s_ (.struct E))(hf:E[f]?=s_ N)(ha:E9 P N.type=s_ ag)(hn:ET P N.type=s_ n)
  (h:Ov N.offset n ag x=s_ d) (hr:RepV w g st x v):∃u,(Instr.field xt v f).run P w=.ok u w/\RepV w g st d u:=by
 unfold Ov at h
 split at h
 .simp only[Ax,Dv,Af,zan,A5,zao]at h;obtain⟨⟨h1,h2⟩,rfl⟩:=h
  cases hr with
  |agg ds vs h3 h4=>
   obtain⟨u,h5,h6⟩:=yVd (P:=P) (w:=w) (g:=g) (st:=st) ha hn h2 h3 h1 h4;exact⟨u,by simp[Instr.field,run_underlying hs,hf,asAgg,h5],h6⟩
 .cases h
def Yey{len:Nat}{i:D}(E:P.underlying xt=s_ (.array len elem))(N:E9 P elem=s_ ag)(hn:ET P elem=s_ n)
  (h:Qt len n ag x i=s_ d) (hr:RepV w g st x v) (hi:RepV w g st i vi):∃u,(yaJ xt v vi).run P w=.ok u w/\RepV w g st d u:=by
 unfold Qt at h
 split at h
 .rename_i j hj;simp only[Ax]at h;obtain⟨a0,h⟩:=h;obtain⟨k,rfl⟩:=Ub hj hi;unfold Ov at h
  split at h
  .simp only[Ax,Dv,Af,zan,A5,zao]at h;obtain⟨⟨h1,h2⟩,rfl⟩:=h
   cases hr with
   |agg ds vs h3 h4=>
    obtain⟨u,h5,h6⟩:=yVd (P:=P) (w:=w) (g:=g) (st:=st) N hn h2 h3 h1 h4;refine⟨u,?_,h6⟩;have:(0:Int)<=(j:Int)/\(j:Int)<(len:Int):=zaa
    simp[yaJ,asIntOf,run_underlying E,this,NT hn,h5];intro;omega
  .cases h
 .cases h
def Yob{i:D}(E:P.underlying xt=s_ .string)(h:Jf x i=s_ d)(N:RepV w g st x v)(hi:RepV w g st i vi):∃u,(yaJ xt v vi).run P w=.ok u w/\RepV w g st d u:=by
 unfold Jf at h
 split at h
 .rename_i s j hj
  split at h
  .rename_i b hb;simp only[Dv]at h;subst h;obtain⟨k,rfl⟩:=Ub hj hi;obtain rfl:=NH N;refine⟨.int .u8 b.toNat,?_,.int _ _⟩;have h1:j<s.length:=(Aa.1 hb).1
   have h2:(Dk s.toArray)[j]?=s_ b:=by
    have:j<(Dk s.toArray).size:=by simpa[Dg]using h1
    rw[getElem?_pos (Dk s.toArray) j this];have e:=Aa.1 hb;obtain⟨_,e⟩:=e;rw[<-e];rfl
   simp[yaJ,asIntOf,run_underlying E,h2]
  .cases h
 .cases h
theorem yUq(ht:P.underlying t=s_ .string\/∃e,P.underlying t=s_ (.slice e))(N:P.underlying t=s_ .string↔∃s,x=.str s)(h:FB st x=s_ n)(E:RepV w g st x v)(ty:TypeId):
  (yaK #[t] ty #[v]).run P w=.ok (.int .i64 (n:Int)) w:=by
 have sl:∀a l c,v=.slice a l c->(∀s,x≠.str s)->(yaK #[t] ty #[v]).run P w=.ok (.int .i64 (l:Int)) w:=by
  intro a l c hv ad;subst hv
  have aa:¬P.underlying t=s_ .string:=by
   grind
  obtain⟨e,he⟩:=ht.resolve_left aa;simp[yaK,run_underlying he,goInt]
 unfold FB at h
 split at h
 .simp only[Dv]at h;subst h;obtain⟨⟨a,cap,hv,_⟩,_,_⟩:=bB E;grind
 .split at h
  .simp only[Dv]at h;subst h;rename_i hl;obtain⟨_,_,_,_,hv,_⟩:=Y2 hl E;grind
  .cases h
 .simp only[Dv]at h;subst h
  cases E with
  |bsl=>exact sl _ _ _ rfl (by intro s hs;cases hs)
 .simp only[Dv]at h;subst h;obtain rfl:=NH E;have hu:=N.2 ⟨_,rfl⟩;rename_i s;have e:Dg ⟨s.toArray⟩=s.length:=by simp[Dg]
  simp[yaK,run_underlying hu,goInt,e]
 .cases h
def Yb6{b:UInt8}(h:az d=s_ b)(E:RepV w g st d v):v=.int .u8 (b.toNat:Int):=by
 unfold az at h
 split at h
 .simp only[Ax,Dv]at h;obtain⟨⟨N,h2⟩,rfl⟩:=h;obtain rfl:=Kc E
  congr 1
  rw[UInt8.toNat_ofNat'];omega
 .cases h
theorem yFl:∀{ds:List D}{bs:zLB},TL ds=s_ bs->bs.length=ds.length/\∀(i:Nat)b,bs[i]?=s_ b->∃d,ds[i]?=s_ d/\az d=s_ b
 |[],bs,h=>by simp[TL]at h;subst h;exact⟨rfl,λi b h=>by simp at h⟩
 |d::l,bs,h=>by
  unfold TL at h
  split at h
  .rename_i x y N E;simp only[Dv]at h;subst h;obtain⟨h1,h2⟩:=yFl E;grind
  .cases h
theorem yEy{E dst e:TypeId}{els:List D}{sz:Nat}{bs:zLB}(hs:P.underlying E=s_ (.slice e))(he:P.underlying e=s_ (.int .u8))(hd:P.underlying dst=s_ .string)
  (hE:Els w g st v sz els) (ad:sz=1\/els=[]) (hb:TL els=s_ bs):(convert E dst v).run P w=.ok (.string ⟨bs.toArray⟩) w:=by
 obtain⟨⟨a,cap,rfl,ae⟩,a1,hlen⟩:=hE;obtain⟨h1,h2⟩:=yFl hb
 by_cases hn:els=[]
 .subst hn;have:bs=[]:=AW h1;subst this;rw[run_convert_bytes_string w E dst e a _ cap hs he hd]
  cases a with
  |none=>simp[Conv.bytesToString];rfl
  |some a=>simp[Conv.bytesToString,loadCells,loadCellsFrom];rfl
 .obtain⟨b,off,rfl,h0,hc⟩:=ae hn;obtain rfl:sz=1:=ad.resolve_right hn;rw[<-h1];refine run_convert_bytes_back w E dst e ⟨b,off,n_⟩ cap bs hs he hd ?_;intro j hj;obtain⟨d,ah,N⟩:=h2 j bs[j] (Ah hj)
  have a0:d.cells=[d]:=by
   unfold az at N
   split at N
   .rfl
   .cases N
  obtain⟨u,h3,h4,_⟩:=hc j 0 d (IU ah (by rw[a0];rfl));rw[Nc];rw[Yb6 N h4]at h3;grind
end
open Go Go.RowKit
variable{d:D}{v vx:Value}{t:TypeId}{off:Nat}{l xs:List D}{vs:List Value}{C:Array Value}
section
variable{P:Program}{base:Nat}{w:World}{g:Ghost}{st:St}
theorem Uu(h:d.isCell=t_):d.cells=[d]:=by cases d<;>simp_all [D.isCell,D.cells]
theorem Yja(h:v.oneCell'=t_):v.cells=#[v]:=by cases v<;>simp_all [Value.oneCell',yaL]
theorem T8(hc:d.cells.all D.isCell=t_)(hr:RepV w g st d v):
  v.cells.size=d.cells.length/\(∀(j:Nat)x,d.cells[j]?=s_ x->∃u,v.cells[j]?=s_ u/\RepV w g st x u)/\v.cells.toList.all (·.oneCell')=t_:=by
 have single:d.cells=[d]->d.isCell=t_->v.cells.size=d.cells.length/\(∀(j:Nat)x,d.cells[j]?=s_ x->∃u,v.cells[j]?=s_ u/\RepV w g st x u)/\v.cells.toList.all (·.oneCell')=t_:=by
  intro E N;have h3:=Yja (hr.oneCell N);rw[E,h3];refine⟨rfl,λj x hx=>?_,by simpa using hr.oneCell N⟩;grind
 cases d with
 |agg l=>
  cases hr with
  |agg _ vs E N=>
   simp only[D.cells]at hc;refine⟨by simp[yaL,D.cells,E],λj x hx=>?_,?_⟩
   .simp only[D.cells]at hx;have hj:j<vs.length:=by rw[<-E];exact(Aa.1 hx).1
    exact⟨vs[j],by simp[yaL,hj],N j x _ hx (Ah hj)⟩
   .simp only[yaL,Ad];intro u hu;obtain⟨j,hj⟩:=A7.1 hu;have ab:j<l.length:=by rw[E];exact(Aa.1 hj).1
    exact(N j _ u (Ah ab) hj).oneCell (Ad.1 hc _ (A6 ab))
 |tup l=>simp[D.cells,D.isCell]at hc
 |junk=>simp[D.cells,D.isCell]at hc
 |_=>exact single rfl rfl
def yPq(w:World)(o:Go.Obj):Beside w {w with heap:=w.heap.push o}:=⟨rfl,rfl,rfl,zac⟩
theorem TZ(w:World)(o:Go.Obj)(b:Nat)(h:b<w.heap.size):(w.heap.push o)[b]?=w.heap[b]?:=by grind
theorem uM(hS:SR base w g st)(hc:d.cells.all D.isCell=t_)(hr:RepV w g st d v):
  RunsTo P base w g st (do pure (.pointer (s_ (<-newVar t v)))) (.ptr st.length 0) (st++[{row:=f_,sz:=1,els:=d.cells,lent:=f_}]):=by
 obtain⟨h1,h2,_⟩:=T8 hc hr;have E:∀x∈d.cells,x.cells=[x]:=λx N=>Uu (Ad.1 hc x N)
 have aa:=SR.push (o:={row:=f_,sz:=1,els:=d.cells,lent:=f_}) (c:=0) (C:=v.cells) (e:=t) (w':={w with heap:=w.heap.push (.cells v.cells t)}) hS
  (yPq w _) (λb hb=>TZ w _ b hb) zac rfl Nat.one_pos (λx N=>by rw[E x N];rfl) (by simp[h1];exact E) (by
   intro i j x N;obtain⟨e,he,hd⟩:=Jx N;grind)
 refine⟨.pointer (s_ ⟨w.heap.size,0,n_⟩),_,_,?_,aa,?_⟩
 .rfl
 .have:=RepV.ptr (w:={w with heap:=w.heap.push (.cells v.cells t)}) (g:={g with β:=Gt g.β st.length w.heap.size,γ:=Gt g.γ st.length 0}) (st:=st++[{row:=f_,sz:=1,els:=d.cells,lent:=f_}]) st.length 0 {row:=f_,sz:=1,els:=d.cells,lent:=f_} zac rfl rfl;simpa[Jv]using this
def ZH(h:off+xs.length<=l.length):(FZ l off xs).length=l.length:=by simp only[FZ,Ag,AJ,AL];omega
theorem Uk{j:Nat}(h:off+xs.length<=l.length):(FZ l off xs)[j]?=if off<=j/\j<off+xs.length then xs[j-off]? else l[j]?:=by
 unfold FZ
 by_cases E:j<off
 .grind
 .grind
theorem Zy{j:Nat}(h:off+vs.length<=C.size):
  ((C.toList.take off++vs++C.toList.drop (off+vs.length)).toArray)[j]?=if off<=j/\j<off+vs.length then vs[j-off]? else C[j]?:=by grind
theorem Ys7(h:off+vs.length<=C.size):((C.toList.take off++vs++C.toList.drop (off+vs.length)).toArray).size=C.size:=by grind
def ZG(w:World)(b:Nat)(C:Array Value):Beside w (w.setRow b C):=⟨rfl,rfl,rfl,by simp[World.setRow]⟩
def yCi(af:SR base w g st){n b:Nat}{e:TypeId}{x:D}(hn:ET P t=s_ n)(hb:w.heap[b]?=s_ (.cells C e (0,0)))(E:off+n<=C.size)
  (N:x.cells.length=n) (hc:x.cells.all D.isCell=t_) (hr:RepV w g st x vx):
  (yaM t (.pointer (s_ ⟨b,off,n_⟩)) vx).run P w=.ok () (w.setRow b ((C.toList.take off++vx.cells.toList++C.toList.drop (off+vx.cells.toList.length)).toArray)):=by
 obtain⟨h1,_,h3⟩:=T8 hc hr;have h4:vx.cells.toList.length=n:=by rw[Cy,h1,N]
 have h:=run_storeCells_at P b off e vx.cells.toList 0 C w hb (by simpa[h4]using E) (Ad.1 h3);simp only[BR]at h;have h5:vx.cells.size=n:=by rw[h1,N]
 simp only[yaM,yay,yaB,yaE,yaz,storeVar,NT hn,h5,zbg,zau,zam,h]
def yQx{E N:D}{ys:List D}(h:UL E off ys=s_ N)(hy:∀z∈ys,z.cells=[z]):off+ys.length<=E.cells.length/\N.cells=FZ E.cells off ys:=by
 unfold UL at h
 split at h
 .simp only[Ax,Dv]at h;obtain⟨h1,rfl⟩:=h;exact⟨h1,rfl⟩
 .rename_i aa
  split at h
  .simp only[Dv]at h;subst h;have:E.cells=[E]:=by cases E<;>first|rfl|exact absurd rfl (aa _)
   rename_i z;rw[this];exact⟨zac,by simp[FZ,hy z zac]⟩
  .cases h
theorem yMy(hS:SR base w g st){n:Nat}{p x:D}{vp:Value}{st':St}(hn:ET P t=s_ n)(h:Le st n p x=s_ st')(b1:RepV w g st p vp)(a6:RepV w g st x vx):
  ∃w' g',(yaM t vp vx).run P w=.ok () w'/\Go1 base w g st w' g' st':=by
 unfold Le at h
 split at h
 .rename_i key off
  cases b1 with
  |ptr _ _ o ho E a7=>
   rw[ho]at h;simp only[E,A0,Bm,Ax,Dv,Af,AN,zan,zao]at h;obtain⟨⟨⟨⟨be,hle⟩,hlen⟩,ac⟩,rfl⟩:=h;obtain⟨C,e,hb,bf,b7,hx,hC,ah⟩:=hS.blk key o ho (SW a7);rw[E]at hC;simp only[Ao,zam]at hC;obtain⟨b2,b3,cd⟩:=hC;obtain⟨h1,h2,h3⟩:=T8 ac a6;have h4:vx.cells.toList.length=n:=by rw[Cy,h1,hlen]
   have a2:off+vx.cells.toList.length<=C.size:=by rw[h4,b2];exact hle
   have ad:off+x.cells.length<=o.els.length:=by rw[hlen];exact hle
   have b4:=ZH ad
   have mem:∀y∈FZ o.els off x.cells,y.cells=[y]:=by
    intro y hy;obtain⟨j,hj⟩:=A7.1 hy;rw[Uk ad]at hj
    split at hj
    .exact Uu (Ad.1 ac y (Ak hj))
    .grind
   have ce:off+n<=C.size:=by rw[b2];exact hle
   refine⟨_,{g with β:=Gt g.β key (g.β key),γ:=Gt g.γ key (g.γ key)},yCi hS hn hb ce hlen ac a6,?_⟩;have eo:(⟨f_,o.sz,FZ o.els off x.cells,o.lent⟩:Obj)={o with els:=FZ o.els off x.cells}:=by rw[<-E]
   rw[eo]
   refine SR.update (o':={o with els:=FZ o.els off x.cells}) (c:=g.γ key) hS ho (SW a7) hb (.inl ⟨rfl,rfl⟩) rfl rfl (by simp[b4]) rfl (λy hy=>by rw[mem y hy,b3];rfl) (ZG w _ _)
    (λb' _ cf=>setRow_other w _ _ _ zaa) (setRow_heap w _ C _ e _ hb) ?_ ?_ ?_
   .intro _ y hy;have:=(hS.dis key o y ho hy).1;grind
   .grind
   .intro i j d hd;refine⟨λh=>by simp[E]at h,?_⟩;obtain⟨y,hy,a3⟩:=Jx hd;have h5:=mem y (Ak hy);rw[h5]at a3
    cases j with
    |succ j=>simp at a3
    |zero=>
     simp only[Ay,Dv]at a3;subst a3;rw[b3,BS,BR,Zy a2];rw[Uk ad]at hy;rw[h4];rw[hlen]at hy
     split at hy
     .grind
     .rename_i hc;rw[zaf hc];have h8:=cd y (Ak hy);obtain⟨_,u,h6,h7⟩:=ah i 0 y (IU hy (by rw[h8];rfl));grind
 .rename_i key tot i off
  split at h
  .rename_i o y ho hy
   split at h
   case isFalse=>cases h
   rename_i a4;simp only[Af,AN,zao,BM]at a4;obtain⟨⟨⟨E,be⟩,ca⟩,bh⟩:=a4
   split at h
   case h_2=>cases h
   rename_i el a9
   split at h
   case h_2=>cases h
   rename_i cg cb;simp only[Ax,Dv]at h;obtain⟨hlen,rfl⟩:=h;obtain⟨N,h1,h2,h3,rfl⟩:=xD (by simp[EY,ho,E,ca]) b1;obtain rfl:N=o:=At (h1.symm.trans ho);obtain⟨C,e,hb,bf,b7,hx,hC,ah⟩:=hS.blk key N ho (OY E);rw[E]at hC;simp only[zaj]at hC;obtain⟨a5,ba⟩:=Yha hS hy a6 (by rw[bh];intro k hk;cases hk)
   have b5:∀z∈y.cells,z.pure1=t_:=by
    intro z hz
    cases y with
    |agg l=>simp only[purA,Ad]at ba;exact ba z hz
    |_=>simp only[D.cells,AU]at hz;subst hz;exact ba
   have ac:y.cells.all D.isCell=t_:=Ad.2 λz hz=>Up (b5 z hz);obtain⟨c1,c2,c3⟩:=T8 ac a5;have ch:i<N.els.length:=(Aa.1 a9).1;have c9:=hx el (Ak a9);obtain⟨ad,bb⟩:=yQx cb (λz hz=>mo (b5 z hz))
   have bc:i*N.sz+off+n<=C.size:=by
    rw[hC.1]
    calc i*N.sz+off+n<=i*N.sz+N.sz:=zaa
     _=(i+1)*N.sz:=by rw[A9,BC]
     _<=g.γ key*N.sz:=AZ _ zaa
   have h4:vx.cells.toList.length=n:=by rw[Cy,c1,hlen]
   have a2:i*N.sz+off+vx.cells.toList.length<=C.size:=by rw[h4];exact bc
   have b4:=ZH ad;refine⟨_,{g with β:=Gt g.β key (g.β key),γ:=Gt g.γ key (g.γ key)},yCi hS hn hb bc hlen ac a5,?_⟩
   refine SR.update (o':={N with els:=N.els.set i cg}) (c:=g.γ key) hS ho (OY E) hb (.inl ⟨rfl,rfl⟩) rfl rfl zac rfl ?_ (ZG w _ _)
    (λb' _ cf=>setRow_other w _ _ _ zaa) (setRow_heap w _ C _ e _ hb) ?_ ?_ ?_
   .grind
   .intro _ z hz;have:=(hS.dis key N z ho hz).1;grind
   .grind
   .intro i' j d hd;obtain⟨z,hz,a0⟩:=Jx hd;rw[Zy a2,h4]
    by_cases b6:i'=i
    .subst b6;rw[Ap ch]at hz;simp only[Dv]at hz;subst hz;rw[bb,Uk ad,hlen]at a0
     split at a0
     .grind
     .rename_i hc;rw[YYN];exact ah i' j d (IU a9 a0)
    .rw[Ac zaa]at hz;have hj:j<N.sz:=by rw[<-hx z (Ak hz)];exact(Aa.1 a0).1
     rw[zaf]
     .exact ah i' j d (IU hz a0)
     .rintro⟨q1,q2⟩;rcases Nat.lt_or_gt_of_ne b6 with h6|h6
      .have:(i'+1)*N.sz<=i*N.sz:=AZ _ h6;grind
      .have:(i+1)*N.sz<=i'*N.sz:=AZ _ h6;grind
  .cases h
 .cases h
end
open Go Go.RowKit
variable{v:Value}{e:TypeId}{C:Array Value}
section
variable{P:Program}{base:Nat}{w:World}{g:Ghost}{st:St}
theorem yOl(off:Nat):∀(l:List Value)(k:Nat)(cs:Array Value),off+k+l.length<=cs.size->
  ((l.zipIdx k).foldl (λcs x=>cs.setIfInBounds (off+x.2) x.1) cs).size=cs.size/\
  ∀p,((l.zipIdx k).foldl (λcs x=>cs.setIfInBounds (off+x.2) x.1) cs)[p]?=if off+k<=p/\p<off+k+l.length then l[p-(off+k)]? else cs[p]?
 |[],k,cs,_=>⟨rfl,λp=>by simp;intro E N;omega⟩
 |v::l,k,cs,h=>by
  simp only[An]at h;obtain⟨E,N⟩:=yOl off l (k+1) (cs.setIfInBounds (off+k) v) (by simp;omega);simp only[List.zipIdx_cons,List.foldl_cons];grind
theorem yOn{place:Nat->Option (Nat×Nat)}{cells:Array Value}{i off size:Nat}{rest:List (Nat×Value)}(hp:place i=s_ (off,size))(E:v.cells.size=size)(N:off+size<=cells.size):
  ∃cs',yaN place cells ((i,v)::rest)=yaN place cs' rest/\cs'.size=cells.size/\∀p,cs'[p]?=if off<=p/\p<off+size then v.cells[p-off]? else cells[p]?:=by
 have h:=yOl off v.cells.toList 0 cells (by simp[E];exact N);refine⟨v.cells.zipIdx.foldl (λcs(c,j)=>cs.setIfInBounds (off+j) c) cells,?_,?_,?_⟩
 .have h2:¬(off+v.cells.size>cells.size):=zaa
  simp[yaN,hp,E];omega
 .have:=h.1;rw[<-CB];grind
 .intro p;have:=h.2 p;rw[<-CB];grind
theorem yOo{place:Nat->Option (Nat×Nat)}:∀(ps:List (Nat×Nat×Nat×D×Value))(cs:List D)(cells:Array Value)(ds:List D),
  Ec cs (ps.map λp=>(p.2.1,p.2.2.1,p.2.2.2.1))=s_ ds->(∀p∈ps,place p.1=s_ (p.2.1,p.2.2.1))->(∀p∈ps,RepV w g st p.2.2.2.1 p.2.2.2.2)->
  cs.length=cells.size->(∀(j:Nat)d v,cs[j]?=s_ d->cells[j]?=s_ v->RepV w g st d v)->
  ∃E,yaN place cells (ps.map λp=>(p.1,p.2.2.2.2))=s_ E/\ds.length=E.size/\∀(j:Nat)d v,ds[j]?=s_ d->E[j]?=s_ v->RepV w g st d v
 |[],cs,cells,ds,h,_,_,hl,N=>by
  simp[Ec]at h;subst h;exact⟨cells,rfl,hl,N⟩
 |p::ps,cs,cells,ds,h,hp,hv,hl,N=>by
  obtain⟨i,off,size,d,v⟩:=p;simp only[Av,Ec]at h
  split at h
  .rename_i hc;simp only[Af,zao,zan]at hc;obtain⟨⟨h1,h2⟩,h3⟩:=hc;obtain⟨c1,c2,_⟩:=T8 h3 (hv (i,off,size,d,v) zac);obtain⟨cs',e1,e2,e3⟩:=yOn (rest:=ps.map λp=>(p.1,p.2.2.2.2)) (hp (i,off,size,d,v) zac) (by rw[c1,h1]) (zaa:off+size<=cells.size);simp only[Av];simp only at e1;rw[e1];refine yOo ps _ cs' ds h (λp hm=>hp p (by simp[hm])) (λp hm=>hv p (by simp[hm])) ?_ ?_
   .rw[ZH zaa,e2,hl]
   .intro j x u hx hu;rw[Uk zaa,h1]at hx;grind
  .cases h
def yXz{d:D}{cs:List D}(h:QL v=s_ d)(hd:d=.agg cs):∃vs:List Value,v=.agg vs.toArray/\cs.length=vs.length/\∀(j:Nat)x u,cs[j]?=s_ x->vs[j]?=s_ u->RepV w g st x u:=by
 subst hd;have E:=Ui (w:=w) (g:=g) (st:=st) h
 cases E with
 |agg _ vs N h2=>exact⟨vs,rfl,N,h2⟩
theorem yHn(size:Nat):∀(vs:List Value)(k:Nat)(cells:Array Value),(∀v∈vs,v.cells.size=size)->(k+vs.length)*size<=cells.size->
  ∃E,yaN (λi=>s_ (i*size,size)) cells ((vs.zipIdx k).map λx=>(x.2,x.1))=s_ E/\E.size=cells.size/\(∀p,p<k*size->E[p]?=cells[p]?)/\
   ∀(i:Nat)v,vs[i]?=s_ v->∀j,j<size->E[(k+i)*size+j]?=v.cells[j]?
 |[],k,cells,_,_=>⟨cells,rfl,rfl,λ_ _=>rfl,λi v h=>by simp at h⟩
 |v::vs,k,cells,hv,hle=>by
  simp only[An]at hle;have e0:(k+(vs.length+1))*size=k*size+size+vs.length*size:=by rw[A9,A9,BC];omega
  obtain⟨cs',e1,N,e3⟩:=yOn (place:=λi=>s_ (i*size,size)) (cells:=cells) (i:=k) (off:=k*size) (size:=size) (v:=v) (rest:=(vs.zipIdx (k+1)).map λx=>(x.2,x.1)) rfl (hv v zac) zaa;obtain⟨E,h1,h2,h3,h4⟩:=yHn size vs (k+1) cs' (λu hu=>hv u (by simp[hu])) (by rw[N];rw[show k+1+vs.length=k+(vs.length+1) by omega];exact hle);have e4:(k+1)*size=k*size+size:=by rw[A9,BC]
  refine⟨E,?_,h2.trans N,?_,?_⟩
  .simp_all
  .grind
  .intro i u hu j hj
   cases i with
   |zero=>
    grind
   |succ i=>
    grind
theorem SR.fresh(h:SR base w g st){w':World}{fz:Nat×Nat}(E:w'.heap=w.heap.push (.cells C e fz))(N:Beside w w'):
  Go1 base w g st w' {g with Im:=λb x=>g.Im b x\/(b=w.heap.size/\x<C.size)} st:=by
 refine SR.more h N (λb hb=>by rw[E];exact TZ w _ b hb) (λb x hb=>.inl hb) (λb x hb=>?_) (λb x hb=>?_)
 .grind
 .rcases hb with hb|⟨rfl,hx⟩
  .have aa:=h.im_lt hb;have:w'.cell? ⟨b,x,n_⟩=w.cell? ⟨b,x,n_⟩:=by simp only[yax,E,TZ w _ b aa]
   rw[this];exact h.im b x hb
  .simp[yax,E,hx]
def Yu0(base:Nat)(w:World)(g:Ghost)(st:St)(v:Value):Prop:=
 ∃b n C e,v=.slice (s_ ⟨b,0,n_⟩) n n/\w.heap[b]?=s_ (.cells C e (0,0))/\base<=b/\∀(k:Nat)(o:Obj),st[k]?=s_ o->g.β k≠b
def Ylh(P:Program)(base:Nat)(w:World)(g:Ghost)(st:St)(s:Sem Value)(d:D)(st':St):Prop:=
 ∃v w' g',s.run P w=.ok v w'/\Go1 base w g st w' g' st'/\RepV w' g' st' d v/\Yu0 base w' g' st' v
theorem Yko(hS:SR base w g st){t elem:TypeId}{i:TypeInfo}{z:Value}{sz:Nat}{els:List D}{vs:List Value}(hu:P.underlying t=s_ (.slice elem))(hi:P.info? elem=s_ i)(hz:i.zero=s_ z)(a7:i.size=sz)(h0:0<sz)
  (ad:∀d∈els,purA d=t_) (N:∀d∈els,d.cells.length=sz) (hl:els.length=vs.length) (hr:∀(i:Nat)d v,els[i]?=s_ d->vs[i]?=s_ v->RepV w g st d v) (bd:els.length*sz<=16777216)
  {len:Nat}{parts:Array (Nat×Value)} (ae:len=vs.length) (E:parts.toList=(vs.zipIdx 0).map λx=>(x.2,x.1)):
  Ylh P base w g st (yaO t len parts) (.slc sz els t_) st:=by
 subst ae
 have af:∀(i:Nat)e,els[i]?=s_ e->∀x∈e.cells,x.pure1=t_:=by
  intro i e he x hx;have h1:=ad e (Ak he)
  cases e with
  |agg l=>simp only[purA,Ad]at h1;exact h1 x hx
  |_=>simp only[D.cells,AU]at hx;subst hx;exact h1
 have ah:∀(i:Nat)d v,els[i]?=s_ d->vs[i]?=s_ v->v.cells.size=sz/\∀(j:Nat)x,d.cells[j]?=s_ x->∃u,v.cells[j]?=s_ u/\RepV w g st x u:=by
  intro i d v hd hv;obtain⟨c1,c2,_⟩:=T8 (Ad.2 λx hx=>Up (af i d hd x hx)) (hr i d v hd hv);grind
 have a8:∀v∈vs,v.cells.size=sz:=by
  intro v hv;obtain⟨i,hi⟩:=A7.1 hv;have a0:i<els.length:=by rw[hl];exact(Aa.1 hi).1
  exact(ah i _ v (Ah a0) hi).1
 have goal:∀C:Array Value,C.size=vs.length*sz->(∀(i:Nat)v,vs[i]?=s_ v->∀j,j<sz->C[i*sz+j]?=v.cells[j]?)->
   (yaO t vs.length parts).run P w=.ok (.slice (s_ ⟨w.heap.size,0,n_⟩) vs.length vs.length) (w.alloc (.cells C elem))->Ylh P base w g st (yaO t vs.length parts) (.slc sz els t_) st:=by
  intro C bg bh a4;have a1:=hS.fresh (w':=w.alloc (.cells C elem)) (C:=C) (e:=elem) (fz:=(0,0)) rfl ⟨rfl,rfl,rfl,zac⟩;refine⟨_,_,_,a4,a1,?_,⟨w.heap.size,vs.length,C,elem,rfl,?_,hS.size,λk o hk=>Nat.ne_of_lt (hS.lt hk)⟩⟩
  case refine_2=>
   show(w.heap.push _)[w.heap.size]?=_
   simp
  rw[<-hl];refine RepV.slc_mk h0 N (Au _) (λ_=>rfl) ?_;intro i j d hd;obtain⟨e,he,ac⟩:=Jx hd;have a0:i<els.length:=(Aa.1 he).1;have hj:j<sz:=by rw[<-N e (Ak he)];exact(Aa.1 ac).1
  have hv:vs[i]?=s_ (vs[i]' zaa):=Ah zaa;obtain⟨u,h3,h4⟩:=(ah i e _ he hv).2 j d ac
  have b1:i*sz+j<C.size:=by
   grind
  refine⟨af i e he d (Ak ac),.inr ⟨rfl,zaa⟩,u,?_,a1.rep h4⟩
  have:(w.alloc (.cells C elem)).heap[w.heap.size]?=s_ (.cells C elem (0,0)):=by
   show(w.heap.push _)[w.heap.size]?=_
   simp
  simp only[yax,this];grind
 by_cases hn:vs.length=0
 .have a2:vs=[]:=AW hn;refine goal #[] (by simp[hn]) (λi v hv=>by simp[a2]at hv) ?_;subst a2;simp at E;simp[yaO,run_underlying hu,sizeOf,typeInfo,hi,E,yaN,newRow,Array.range_zero']
 .obtain⟨C,h1,h2,h3,h4⟩:=yHn sz vs 0 ((Array.range (vs.length*sz)).map (z.cells[· % z.cells.size]!)) a8 zac;refine goal C (by rw[h2];simp) (λi v hv j hj=>by have:=h4 i v hv j hj;rwa [Ar]at this) ?_
  have a9:¬vs.length*sz=0:=by
   intro e;rcases Nat.mul_eq_zero.1 e with e|e<;>omega
  subst a7;exact run_buildSlice w t elem vs.length parts C i z hu hi hz (by rw[<-hl];omega) a9 (by rw[E];exact h1)
theorem Yhv(hS:SR base w g st){b m:Nat}(hb:w.heap[b]?=s_ (.cells C e (0,0)))(a0:base<=b)(ad:∀(k:Nat)(o:Obj),st[k]?=s_ o->g.β k≠b):
  Go1 base w g st (w.freeze ⟨b,m,n_⟩ 1) g st:=by
 have bc:b<w.heap.size:=(AO.1 hb).1
 have E:∀k,k≠b->(w.freeze ⟨b,m,n_⟩ 1).heap[k]?=w.heap[k]?:=by
  intro k hk;simp only[yaP,Nat.one_ne_zero,zam,Cg];grind
 have ac:(w.freeze ⟨b,m,n_⟩ 1).heap[b]?=s_ (.cells C e (m,m+1)):=by
  simp only[yaP,Nat.one_ne_zero,zam,Cg];simp[hb]
 have N:∀k x,(w.freeze ⟨b,m,n_⟩ 1).cell? ⟨k,x,n_⟩=w.cell? ⟨k,x,n_⟩:=by
  intro k x
  by_cases hk:k=b
  .subst hk;simp only[yax,ac,hb]
  .simp only[yax,E k hk]
 have hI:ImLe w g (w.freeze ⟨b,m,n_⟩ 1) g:=⟨λk x h=>⟨h,N k x⟩,λk o ho hs=>by
  by_cases hk:k=b
  .subst hk;rw[hb]at ho;obtain rfl:=At ho;simp[Nl]at hs
  .grind⟩
 have ae:(w.freeze ⟨b,m,n_⟩ 1).heap.size=w.heap.size:=by simp[yaP]
 refine⟨⟨λk o hk hm=>(hS.mp k o hk hm).mono hI (Evo.refl _ _) rfl (E _ (ad k o hk)),?_,hS.inj,λk x h=>by rw[N];exact hS.im k x h,hS.dis,by rw[ae];exact hS.size⟩,Evo.refl _ _,hI,λ_ _ h=>.inl h,⟨rfl,rfl,rfl,by rw[ae];exact Au _,λk hk=>E k zaa⟩,λk o ho hs=>?_⟩
 .intro k o hk hm;obtain⟨C1,e1,h1,h2,h3,h4,h5,h6⟩:=hS.blk k o hk hm;refine⟨C1,e1,by rw[E _ (ad k o hk)];exact h1,h2,h3,h4,h5,λi j d hd=>?_⟩;obtain⟨q1,v,q2,q3⟩:=h6 i j d hd;exact⟨q1,v,q2,q3.mono hI (Evo.refl _ _)⟩
 .by_cases hk:k=b
  .subst hk;rw[hb]at ho;obtain rfl:=At ho;simp[special]at hs
  .exact .same (by rw[E k hk];exact ho)
end
open Go Go.RowKit
variable{bytes sCap:Nat}{x z:Value}{i:TypeInfo}{e t tx ty:TypeId}{ns:List Value}
section
variable{P:Program}{base:Nat}{w:World}{g:Ghost}{st:St}
def Yle(w:World)(o:Go.Obj):(w.alloc o).heap[w.heap.size]?=s_ o:=by
 show(w.heap.push o)[w.heap.size]?=_
 simp
theorem Yfz(hS:SR base w g st){elem:TypeId}{zd:D}{sz:Nat}{dl dc:D}{vl vc:Value}{l c:Nat}(hu:P.underlying t=s_ (.slice elem))(hi:P.info? elem=s_ i)(hz:i.zero=s_ z)(a3:QL z=s_ zd)
  (a4:i.size=sz) (a5:i.bytes=bytes) (h0:0<sz) (ab:zd.cells.length=sz) (a6:zd.cells.all D.pure1=t_) (hl:FA dl=s_ l) (hc:FA dc=s_ c) (a7:RepV w g st dl vl) (a8:RepV w g st dc vc)
  (a9:l<=c) (b7:c<=4294967296) (b8:c*bytes<=140737488355328):
  RunsTo P base w g st (Instr.makeSlice t vl vc) (.row st.length l 0 l) (st++[{row:=t_,sz,els:=C7 l zd,lent:=f_}]):=by
 obtain⟨kl,rfl⟩:=Ub hl a7;obtain⟨kc,rfl⟩:=Ub hc a8;subst a4;subst a5
 have hb:((i.bytes:Int)*(c:Int))<=281474976710656:=by
  grind
 have N:=run_make (P:=P) w t elem i z hu hi hz kl kc (l:Int) (c:Int) zaa zaa hb zaa;simp only[AH]at N;have aa:zd.cells.all D.isCell=t_:=Ad.2 λx hx=>Up (Ad.1 a6 x hx);have ba:=Ui (w:=w) (g:=g) (st:=st) a3;obtain⟨c1,c2,_⟩:=T8 aa ba;have ad:z.cells.size=i.size:=by rw[c1,ab]
 have bb:∀E j,E<c->j<i.size->E*i.size+j<c*i.size:=by
  intro E j h1 h2
  calc E*i.size+j<E*i.size+i.size:=zaa
   _=(E+1)*i.size:=by rw[A9,BC]
   _<=c*i.size:=AZ _ h1
 have bd:∀E j u,E<c->j<i.size->z.cells[j]?=s_ u->(madeCells z.cells (c*i.size))[E*i.size+j]?=s_ u:=by
  intro E j u h1 h2 h3;have h4:=bb E j h1 h2;have h5:(E*i.size+j)%z.cells.size=j:=by rw[ad,B4,Nat.mul_add_mod,A3 h2]
  have h6:z.cells[j]! = u:=by rw[getElem!_def,h3]
  simp[madeCells,h4,h5,h6]
 have ah:c<=maxLen:=by unfold maxLen;omega
 have bc:=SR.push (o:={row:=t_,sz:=i.size,els:=C7 l zd,lent:=f_}) (c:=c) (C:=madeCells z.cells (c*i.size)) (e:=elem) (w':=w.alloc (.cells (madeCells z.cells (c*i.size)) elem)) hS
  ⟨rfl,rfl,rfl,zac⟩ (λb hb=>TZ w _ b hb) (Yle w _) rfl h0 (λx hx=>by rw[List.eq_of_mem_replicate hx];exact ab)
  (by simp[size_madeCells];exact⟨a9,ah⟩) (by
   intro E j d hd;obtain⟨e,he,b9⟩:=Jx hd;grind)
 refine⟨_,_,_,N,bc,?_⟩;refine .row _ _ _ _ {row:=t_,sz:=i.size,els:=C7 l zd,lent:=f_} _ rfl zac rfl zac λ_=>⟨?_,zaa⟩;simp[Jv]
structure News (w:World) (g:Ghost) (st:St) (P:Program) (x:Value) (size:Nat) (els:List D) (ns:List Value):Prop where
 len:ns.length=els.length*size
 one:∀u∈ns,u.oneCell'=t_
 rep:∀(i j:Nat)d,GC els i j=s_ d->∃u,ns[i*size+j]?=s_ u/\RepV w g st d u
 lenOf:(yaQ x).run P w=.ok els.length w/\(yaQ x).run P w.drew=.ok els.length w.drew
 first:(yaR size els.length x).run P w=.ok ns.toArray w/\(yaR size els.length x).run P w.drew=.ok ns.toArray w.drew
theorem ug{size:Nat}{els:List D}(hE:Els w g st x size els):∃ns,News w g st P x size els ns:=by
 obtain⟨⟨a,cap,rfl,ad⟩,a1,hlen⟩:=hE
 by_cases hn:els=[]
 .subst hn;refine⟨[],zac,zac,λi j d h=>by simp[GC]at h,⟨by simp[yaQ],by simp[yaQ]⟩,?_⟩;cases a<;>simp[yaR,loadCells,loadCellsFrom]
 .obtain⟨b,off,rfl,h0,hc⟩:=ad hn
  let f:Nat->Value:=λp=>(w.cell? ⟨b,off+p,n_⟩).getD undef
  have ae:∀p,p<els.length*size->∃d,GC els (p/size) (p%size)=s_ d/\p=p/size*size+p%size:=by
   intro p hp;have E:p/size<els.length:=Nat.div_lt_of_lt_mul (by rw[B4];exact hp);have h2:p%size<size:=Nat.mod_lt _ h0;have he:els[p/size]?=s_ els[p/size]:=Ah E;have hj:p%size<els[p/size].cells.length:=by rw[hlen _ (A6 E)];exact h2
   exact⟨_,IU he (Ah hj),by rw[B4];exact(Nat.div_add_mod p size).symm⟩
  have ab:∀p,p<els.length*size->w.cell? ((⟨b,off,n_⟩:Addr).add p)=s_ (f p)/\(f p).oneCell'=t_:=by
   intro p hp;obtain⟨d,hd,a6⟩:=ae p hp;obtain⟨u,E,_,h3⟩:=hc _ _ d hd;rw[cell?_add];grind
  have N:∀w',(∀b o,w'.cell? ⟨b,o,n_⟩=w.cell? ⟨b,o,n_⟩)->(yaR size els.length (.slice (s_ ⟨b,off,n_⟩) els.length cap)).run P w'=.ok ((C9 (els.length*size)).map f).toArray w':=by
   intro w' ah;have:=run_loadCells (P:=P) w' ⟨b,off,n_⟩ (els.length*size) f (λj hj=>by rw[cell?_add,ah,<-cell?_add];exact(ab j hj).1);simpa[yaR]using this
  refine⟨(C9 (els.length*size)).map f,zac,?_,?_,⟨by simp[yaQ],by simp[yaQ]⟩,N w (λ_ _=>rfl),N w.drew (λ_ _=>rfl)⟩
  .grind
  .intro i j d hd;obtain⟨e,he,a0⟩:=Jx hd;have E:i<els.length:=(Aa.1 he).1;have h2:j<size:=by rw[<-hlen e (Ak he)];exact(Aa.1 a0).1
   have h3:i*size+j<els.length*size:=by
    calc i*size+j<i*size+size:=zaa
     _=(i+1)*size:=by rw[A9,BC]
     _<=els.length*size:=AZ _ E
   grind
def yRt(s:zLB):∃ns,News w g st P (.string ⟨s.toArray⟩) 1 (s.map DK) ns:=by
 have e:Dg ⟨s.toArray⟩=s.length:=by simp[Dg]
 have N:∀w':World,(yaR 1 (s.map DK).length (.string ⟨s.toArray⟩)).run P w'=.ok ((s.map λb=>Value.int .u8 b.toNat)).toArray w':=by
  intro w';simp[yaR]
 refine⟨s.map λb=>Value.int .u8 b.toNat,zac,?_,?_,⟨by simp[yaQ,e],by simp[yaQ,e]⟩,N w,N w.drew⟩
 .intro u hu;simp only[AR]at hu;obtain⟨b,_,rfl⟩:=hu;rfl
 .intro i j d hd;obtain⟨e,he,E⟩:=Jx hd;simp only[AI,D1]at he;obtain⟨b,hb,rfl⟩:=he
  cases j with
  |zero=>
   simp[DK,D.cells]at E;subst E;exact⟨.int .u8 b.toNat,by simp[hb],.int _ _⟩
  |succ j=>simp[DK,D.cells]at E
def Ysm(ht:P.underlying t=s_ (.slice e))(ae:(∃e',P.underlying tx=s_ (.slice e'))\/P.underlying tx=s_ .string)(hi:P.info? e=s_ i)
  {b E:Nat}{C:Array Value}{e0:TypeId} (hb:w.heap[b]?=s_ (.cells C e0 (0,0)))  {els:List D}  (hN:News w g st P x i.size els ns) (N:E+els.length<=sCap) (ac:E*i.size+ns.length<=C.size):
  (yaS #[t,tx] ty #[.slice (s_ ⟨b,0,n_⟩) E sCap,x]).run P w=
   .ok (.slice (s_ ⟨b,0,n_⟩) (E+els.length) sCap) (w.setRow b (C.toList.take (E*i.size)++ns++C.toList.drop (E*i.size+ns.length)).toArray):=by
 have aa:=run_storeCells_at P b (E*i.size) e0 ns 0 C w hb (by simpa using ac) hN.one;simp only[BR]at aa;have h1:=hN.lenOf.1;have h2:=hN.first.1
 rcases ae with⟨e',hd⟩|hd
 .simp[yaS,run_underlying ht,sizeOf,typeInfo,hi,run_underlying hd,h1,N,h2,Nc,aa]
 .simp[yaS,run_underlying ht,sizeOf,typeInfo,hi,run_underlying hd,h1,N,h2,Nc,aa]
theorem yXv(ht:P.underlying t=s_ (.slice e))(ad:(∃e',P.underlying tx=s_ (.slice e'))\/P.underlying tx=s_ .string)(hi:P.info? e=s_ i)(hz:i.zero=s_ z)
  {a:Option Addr}{E:Nat}  {els N:List D}{os:List Value} (hN:News w g st P x i.size els ns) (hO:News w g st P (.slice a E sCap) i.size N os) (a0:N.length=E)
  (hg:sCap<E+els.length) (a6:E+els.length<=9223372036854775807) (a5:yaT (E+els.length) sCap*i.bytes<=281474976710656):
  (yaS #[t,tx] ty #[.slice a E sCap,x]).run P w=
   .ok (.slice (s_ ⟨w.heap.size,0,n_⟩) (E+els.length) (grownCap w (E+els.length) sCap e))
    (w.drew.alloc (.cells (os.toArray++ns.toArray++Builtin.zeroCells z.cells (grownCap w (E+els.length) sCap e-(E+els.length))) e)):=by
 subst a0;have h1:=hN.lenOf.1;have h2:=hN.first.2
 have h3:=hO.first.2
 have hn:¬(N.length+els.length<=sCap):=zaa
 have aa:¬(9223372036854775807<((N.length:Int)+(els.length:Int))):=zaa
 have ab:¬(281474976710656<yaT (N.length+els.length) sCap*i.bytes):=zaa
 rcases ad with⟨e',hd⟩|hd
 .simp[yaS,run_underlying ht,sizeOf,typeInfo,zeroValue,hi,hz,run_underlying hd,h1,hn,aa,ab,Question.forced,h2,h3,newRow,grownCap]
  congr 2
  grind
 .simp[yaS,run_underlying ht,sizeOf,typeInfo,zeroValue,hi,hz,run_underlying hd,h1,hn,aa,ab,Question.forced,h2,h3,newRow,grownCap]
  congr 2
  grind
def yOi{n cap:Nat}(h:cap<n)(hb:n*bytes<=140737488355328):yaT n cap*bytes<=281474976710656:=by exact growslice_fits h hb
