/-
  The pure interpreter: plain Go code over pure values; no statement about the program is made here.
  Conditions: none; these are definitions and lemmas on them.
-/
import Derived.Test.YtlleccmnjpcogaaDoorProg
set_option linter.unusedVariables false
set_option linter.unusedSimpArgs false
namespace Go.Proofs.YtlleccmnjpcogaaDoor.PI
open Go
inductive D where
 | int (k:IntKind) (n:Int)
 | bool (b:Bool)
 | str (s:List UInt8)
 | slc (sz:Nat) (els:List D) (tight:Bool)
 | row (key tot off len:Nat)
 | bsl (key off n sz:Nat) (ag:Bool)
 | ptr (key off:Nat)
 | rptr (key tot i off:Nat)
 | eptr (el:D) (off:Nat)
 | agg (cells:List D)
 | tup (vs:List D)
 | clo (f:Nat) (caps:List D)
 | nilf
 | nilp
 /-- a map in the store -/
 | mapv (key:Nat)
 | nilm
 /-- a table of functions,by integers,that nobody changes -/
 | gmap (es:List (Int × Nat))
 | junk
 deriving Inhabited
namespace D
def cells:D → List D
 | .agg l => l
 | d => [d]
def isCell:D → Bool
 | .agg _ | .tup _ | .junk => false
 | _ => true
def mk (ag:Bool) (cs:List D):D := if ag then .agg cs else cs.headD .junk
def pure1:D → Bool
 | .int _ _ | .bool _ | .str _ | .slc _ _ _ | .clo _ [] | .nilf | .nilp | .nilm | .gmap _ => true
 | _ => false
def noRef1:D → Bool
 | .int _ _ | .bool _ | .str _ => true
 | _ => false
def noRef:D → Bool
 | .agg l => l.all noRef1
 | .tup l => l.all fun d => match d with | .agg l => l.all noRef1 | d => noRef1 d
 | d => noRef1 d
end D
def byteD (b:UInt8):D := .int .u8 (b.toNat:Int)
structure Obj where
 row:Bool
 sz:Nat
 els:List D
 lent:Bool
 deriving Inhabited
abbrev St := List Obj
def Obj.isMap (o:Obj):Bool := !o.row && decide (1 < o.sz)
def entK (sz:Nat):D → D
 | .agg l => .mk (sz != 2) (l.take (sz - 1))
 | _ => .junk
def entV (sz:Nat):D → D
 | .agg l => (l.drop (sz - 1)).headD .junk
 | _ => .junk
def rowEls (st:St) (key tot off len:Nat):Option (Nat × List D) :=
 match st[key]? with
 | some o => if o.row && o.els.length == tot && decide (off + len ≤ tot) then some (o.sz,(o.els.drop off).take len) else none
 | none => none
def chunk (sz:Nat) (ag:Bool) (cs:List D):Nat → List D
 | 0 => []
 | n + 1 => D.mk ag (cs.take sz) :: chunk sz ag (cs.drop sz) n
def bslEls (st:St) (key off n sz:Nat) (ag:Bool):Option (List D) :=
 match st[key]? with
 | some o => if !o.row && decide (off + n * sz ≤ o.els.length) && decide (0 < sz) && (ag || sz == 1) then some (chunk sz ag (o.els.drop off) n) else none
 | none => none
def nz (sz:Nat) (els:List D):Nat := if els.isEmpty then 0 else sz
def purA:D → Bool
 | .agg l => l.all D.pure1
 | d => d.pure1
def bslI (st:St) (key off n sz:Nat) (ag:Bool):Option (List D) := match bslEls st key off n sz ag with
 | some els => if els.all purA then some els else none
 | none => none
def imm1 (st:St):D → Option D
 | .row key tot off len => (rowEls st key tot off len).map fun p => .slc (nz p.1 p.2) p.2 false
 | .slc sz els _ => some (.slc (nz sz els) els false)
 | .bsl key off n sz ag => (bslI st key off n sz ag).map fun els => .slc (nz sz els) els false
 | d => if d.pure1 then some d else none
def immL (st:St):List D → Option (List D)
 | [] => some []
 | d :: l => match imm1 st d,immL st l with
  | some x,some y => some (x :: y)
  | _,_ => none
def imm (st:St):D → Option D
 | .agg l => (immL st l).map .agg
 | .tup _ => none
 | d => imm1 st d
def imms (st:St):List D → Option (List D)
 | [] => some []
 | d :: l => match imm st d,imms st l with
  | some x,some y => some (x :: y)
  | _,_ => none
def key1:D → List Nat
 | .row key _ _ _ => [key]
 | .bsl key _ _ _ _ => [key]
 | _ => []
def keys:D → List Nat
 | .agg l => l.flatMap key1
 | d => key1 d
def lend (ks:List Nat) (st:St):St :=
 match ks with
 | [] => st
 | k :: r => lend r (st.modify k fun o => { o with lent := true })
def purR:D → Bool
 | .tup l => l.all purA
 | d => purA d
def elsOf (st:St):D → Option (Nat × List D)
 | .slc sz els _ => some (sz,els)
 | .row key tot off len => rowEls st key tot off len
 | .bsl key off n sz ag => match bslEls st key off n sz ag with
  | some els => if els.all purA then some (sz,els) else none
  | none => none
 | .str s => some (1,s.map byteD)
 | _ => none
def live (st:St) (key tot:Nat):Bool :=
 match st[key]? with
 | some o => o.row && o.els.length == tot
 | none => false
def isStr:D → Bool
 | .str _ => true
 | _ => false
def sLen (st:St):D → Option Nat
 | .slc _ els _ => some els.length
 | .row key tot _ len => if live st key tot then some len else none
 | .bsl _ _ n _ _ => some n
 | .str s => some s.length
 | _ => none
inductive PA where
 | s (n:Nat)
 | c (d:D)
 | g (n:Nat)
 deriving Inhabited
inductive PConv where
 | int (k:IntKind)
 | bytes
 | str
 | same
 deriving Inhabited
inductive POp where
 | mov (x:PA)
 | pick (c x y:PA)
 | box (x:PA)
 | bld (zero:List D) (parts:List (Nat × Nat × PA))
 | bslc (sz:Nat) (parts:List PA)
 | load (n:Nat) (ag:Bool) (p:PA)
 | stor (n:Nat) (p x:PA)
 | nilc (x:PA)
 | bin (op:BinOp) (x y:PA)
 | beq (neg:Bool) (x y:PA)
 | aeq (ks:List Nat) (neg:Bool) (x y:PA)
 | un (op:UnOp) (x:PA)
 | conv (c:PConv) (x:PA)
 | mkslc (sz bytes:Nat) (zero:D) (len cap:PA)
 | slice (sz:Nat) (x:PA) (lo hi mx:Option PA)
 | sliceA (n sz:Nat) (ag:Bool) (x:PA) (lo hi:Option PA)
 | fld (off:Nat) (p:PA)
 | fldv (off n:Nat) (ag:Bool) (x:PA)
 | idxS (sz:Nat) (x i:PA)
 | idxA (n sz:Nat) (p i:PA)
 | idx (x i:PA)
 | idxV (len sz:Nat) (ag:Bool) (x i:PA)
 | len (str:Bool) (x:PA)
 | lenA (n:Nat)
 | app (sz bytes:Nat) (s x:PA)
 | mm (isMax:Bool) (x y:PA)
 | mm3 (isMax:Bool) (x y z:PA)
 | call (f:Nat) (args:List PA)
 | icall (f:Nat) (args:List PA)
 /-- a call of what only makes one new object -/
 | mcall (f:Nat) (args:List PA)
 /-- a call of what only reads the objects of which its arguments speak -/
 | rcall (f:Nat) (args:List PA)
 | callv (x:PA) (args:List PA)
 | mkclo (f:Nat) (caps:List PA)
 | ext (x:PA) (i:Nat)
 | mkmap (sz:Nat)
 | mapup (sz:Nat) (ks:List Nat) (m k v:PA)
 | mapget (sz:Nat) (ks:List Nat) (ok:Bool) (zero:D) (m k:PA)
 /-- copying between parts of arrays in boxes -/
 | cpy (sz:Nat) (d s:PA)
 /-- what is not covered: it comes to nothing -/
 | fail
 deriving Inhabited
def ibits (op:BinOp) (k:IntKind) (x y:Int):Option Int :=
 let a := BitVec.ofInt k.bits x
 let b := BitVec.ofInt k.bits y
 match op with
 | .and => some (k.wrap (a &&& b).toNat)
 | .or => some (k.wrap (a ||| b).toNat)
 | .xor => some (k.wrap (a ^^^ b).toNat)
 | .andNot => some (k.wrap (a &&& ~~~b).toNat)
 | _ => none
def icmp (op:BinOp) (x y:Int):Option Bool :=
 match op with
 | .eql => some (x == y)
 | .neq => some (x != y)
 | .lss => some (decide (x < y))
 | .leq => some (decide (x ≤ y))
 | .gtr => some (decide (x > y))
 | .geq => some (decide (x ≥ y))
 | _ => none
def iarith (op:BinOp) (k:IntKind) (x y:Int):Option Int :=
 match op with
 | .add => some (k.wrap (x + y))
 | .sub => some (k.wrap (x - y))
 | .mul => some (k.wrap (x * y))
 | .quo => if y = 0 then none else some (k.wrap (x.tdiv y))
 | .rem => if y = 0 then none else some (x.tmod y)
 | _ => none
def ishift (op:BinOp) (k:IntKind) (x y:Int):Option Int :=
 if y < 0 then none else
 match op with
 | .shl => some (k.wrap (x * 2 ^ (min y.toNat k.bits)))
 | .shr => some (x.fdiv (2 ^ (min y.toNat k.bits)))
 | _ => none
def flatEq1:Nat → D → D → Option Bool
 | 0,.int k x,.int k' y => if k = k' then some (x == y) else none
 | 1,.bool x,.bool y => some (x == y)
 | 2,.str x,.str y => some (x == y)
 | _,_,_ => none
def flatEq:List Nat → List D → List D → Option Bool
 | [],[],[] => some true
 | q :: qs,x :: xs,y :: ys => match flatEq1 q x y,flatEq qs xs ys with
  | some a,some b => some (a && b)
  | _,_ => none
 | _,_,_ => none
def strop (op:BinOp) (x y:List UInt8):Option D :=
 match op with
 | .add => if x.length + y.length ≤ 4294967296 then some (.str (x ++ y)) else none
 | .eql => some (.bool (x == y))
 | .neq => some (.bool !(x == y))
 | .lss => some (.bool (Op.bytesLess x y))
 | .leq => some (.bool (Op.bytesLess x y || x == y))
 | .gtr => some (.bool !(Op.bytesLess x y || x == y))
 | .geq => some (.bool !(Op.bytesLess x y))
 | _ => none
def pbin (op:BinOp) (x y:D):Option D :=
 match x,y with
 | .int k a,.int k' b =>
  match op with
  | .shl | .shr => (ishift op k a b).map (.int k)
  | _ => if k = k' then
    match op with
    | .add | .sub | .mul | .quo | .rem => (iarith op k a b).map (.int k)
    | .and | .or | .xor | .andNot => (ibits op k a b).map (.int k)
    | _ => (icmp op a b).map .bool
   else none
 | .str a,.str b => strop op a b
 | _,_ => none
def pbeq (neg:Bool) (x y:D):Option D :=
 match x,y with
 | .bool a,.bool b => some (.bool ((a == b) != neg))
 | _,_ => none
def paeq (ks:List Nat) (neg:Bool) (x y:D):Option D :=
 match x,y with
 | .agg xs,.agg ys => (flatEq ks xs ys).map fun b => .bool (b != neg)
 | _,_ => none
def keyEq (sz:Nat) (ks:List Nat) (x y:D):Option Bool :=
 if sz = 2 then match ks with
  | [q] => flatEq1 q x y
  | _ => none
 else match x,y with
  | .agg xs,.agg ys => flatEq ks xs ys
  | _,_ => none
def mfind (sz:Nat) (ks:List Nat) (k:D):List D → Nat → Option (Option Nat)
 | [],_ => some none
 | el :: r,i => match keyEq sz ks k (entK sz el) with
  | some true => some (some i)
  | some false => mfind sz ks k r (i + 1)
  | none => none
def gfind (n:Int):List (Int × Nat) → Option Nat
 | [] => none
 | p :: r => if p.1 = n then some p.2 else gfind n r
def pmapget (st:St) (sz:Nat) (ks:List Nat) (ok:Bool) (zero m k:D):Option D :=
 match m with
 | .mapv key => match st[key]? with
  | some o => if o.isMap && o.sz == sz && (keyEq sz ks k k).isSome then match mfind sz ks k o.els 0 with
    | some (some i) => match o.els[i]? with
     | some el => some (if ok then .tup [entV sz el,.bool true] else entV sz el)
     | none => none
    | some none => some (if ok then .tup [zero,.bool false] else zero)
    | none => none
   else none
  | none => none
 | .gmap es => if sz = 0 then match k with
   | .int .i64 n => some (match gfind n es with
    | some f => if ok then .tup [.agg [.clo f []],.bool true] else .agg [.clo f []]
    | none => if ok then .tup [zero,.bool false] else zero)
   | _ => none
  else none
 | _ => none
def pmapup (st:St) (sz:Nat) (ks:List Nat) (m k v:D):Option St :=
 match m with
 | .mapv key => match st[key]? with
  | some o => if o.isMap && o.sz == sz && !o.lent && v.isCell && k.cells.length + 1 == sz && k.cells.all D.isCell && keyEq sz ks k k == some true then match mfind sz ks k o.els 0 with
    | some (some i) => some (st.set key { o with els := o.els.set i (.agg (k.cells ++ [v])) })
    | some none => some (st.set key { o with els := o.els ++ [.agg (k.cells ++ [v])] })
    | none => none
   else none
  | none => none
 | _ => none
def pun (op:UnOp) (x:D):Option D :=
 match op,x with
 | .neg,.int k n => some (.int k (k.wrap (0 - n)))
 | .xor,.int k n => (ibits .xor k (if k.signed then -1 else k.max) n).map (.int k)
 | .not,.bool b => some (.bool !b)
 | _,_ => none
def byteOf:D → Option UInt8
 | .int .u8 n => if 0 ≤ n ∧ n < 256 then some (UInt8.ofNat n.toNat) else none
 | _ => none
def bytesOf:List D → Option (List UInt8)
 | [] => some []
 | d :: l => match byteOf d,bytesOf l with
  | some x,some y => some (x :: y)
  | _,_ => none
def pconv (st:St) (c:PConv) (x:D):Option D :=
 match c,x with
 | .int k,.int _ n => some (.int k (k.wrap n))
 | .bytes,.str s => some (.slc 1 (s.map byteD) false)
 | .str,.slc sz els _ => if sz == 1 || els.isEmpty then (bytesOf els).map .str else none
 | .str,.row key tot off len => match rowEls st key tot off len with
  | some (sz,els) => if sz == 1 then (bytesOf els).map .str else none
  | none => none
 | .same,.str s => some (.str s)
 | _,_ => none
def natOf:D → Option Nat
 | .int _ n => if 0 ≤ n then some n.toNat else none
 | _ => none
def bnd (d:Option D) (dflt:Nat):Option Nat :=
 match d with
 | some x => natOf x
 | none => some dflt
def pslice (st:St) (sz:Nat) (x:D) (lo hi mx:Option D):Option D :=
 match x with
 | .str s =>
  match mx,bnd lo 0,bnd hi s.length with
  | none,some l,some h => if sz = 0 ∧ l ≤ h ∧ h ≤ s.length then some (.str ((s.take h).drop l)) else none
  | _,_,_ => none
 | .slc sz' els t =>
  if (sz' == sz || els.isEmpty) && sz != 0 then
   match bnd lo 0,bnd hi els.length with
   | some l,some h =>
    match mx with
    | none => if l ≤ h ∧ h ≤ els.length then some (.slc sz' ((els.take h).drop l) (t && h == els.length)) else none
    | some m => if l ≤ h ∧ h ≤ els.length ∧ natOf m = some h ∧ hi.isSome = true then some (.slc sz' ((els.take h).drop l) true) else none
   | _,_ => none
  else none
 | .row key tot off len =>
  match st[key]? with
  | some o =>
   if o.row && o.sz == sz && o.els.length == tot && sz != 0 then
    match mx,bnd lo 0,bnd hi len with
    | none,some l,some h =>
     if l ≤ h ∧ h ≤ len then
      if l = 0 ∧ h = len then some x
      else if l = h then some (.slc sz [] false)
      else some (.row key tot (off + l) (h - l))
     else none
    | _,_,_ => none
   else none
  | none => none
 | _ => none
def psliceA (n sz:Nat) (ag:Bool) (x:D) (lo hi:Option D):Option D :=
 match bnd lo 0,bnd hi n with
 | some l,some h =>
  if l ≤ h ∧ h ≤ n then
   match x with
   | .ptr key off => if l = h then some (.slc sz [] false) else some (.bsl key (off + l * sz) (h - l) sz ag)
   | .eptr el off => if l = h then some (.slc sz [] false) else
    if decide (off + n * sz ≤ el.cells.length) && decide (0 < sz) && (ag || sz == 1) then some (.slc sz (chunk sz ag (el.cells.drop (off + l * sz)) (h - l)) (h == n)) else none
   | _ => none
  else none
 | _,_ => none
def splice (l:List D) (off:Nat) (xs:List D):List D := l.take off ++ xs ++ l.drop (off + xs.length)
def pload (st:St) (n:Nat) (ag:Bool) (p:D):Option D :=
 if !ag && n != 1 then none else
 match p with
 | .ptr key off =>
  match st[key]? with
  | some o => if !o.row && decide (off + n ≤ o.els.length) then some (.mk ag ((o.els.drop off).take n)) else none
  | none => none
 | .rptr key tot i off =>
  match st[key]? with
  | some o => if o.row && o.els.length == tot then
    match o.els[i]? with
    | some el => if off + n ≤ el.cells.length then some (.mk ag ((el.cells.drop off).take n)) else none
    | none => none
   else none
  | none => none
 | .eptr el off => if off + n ≤ el.cells.length then some (.mk ag ((el.cells.drop off).take n)) else none
 | _ => none
def setEl (el:D) (off:Nat) (ys:List D):Option D :=
 match el with
 | .agg l => if off + ys.length ≤ l.length then some (.agg (splice l off ys)) else none
 | _ => match off,ys with
  | 0,[z] => some z
  | _,_ => none
def pstor (st:St) (n:Nat) (p x:D):Option St :=
 match p with
 | .ptr key off =>
  match st[key]? with
  | some o =>
   if !o.row && !o.lent && decide (off + n ≤ o.els.length) && x.cells.length == n && x.cells.all D.isCell then
    some (st.set key { o with els := splice o.els off x.cells })
   else none
  | none => none
 | .rptr key tot i off =>
  match st[key]?,imm st x with
  | some o,some y =>
   if o.row && !o.lent && o.els.length == tot && (keys x).isEmpty then
    match o.els[i]? with
    | some el =>
     match setEl el off y.cells with
     | some el' => if y.cells.length = n then some (st.set key { o with els := o.els.set i el' }) else none
     | none => none
    | none => none
   else none
  | _,_ => none
 | _ => none
def pcpyR (st:St) (sz key tot off len:Nat) (s:D):Option (D × St) :=
 match st[key]?,elsOf st s with
 | some o,some (sz2,xs) => if o.row && !o.lent && o.els.length == tot && o.sz == 1 && sz == 1 && (sz2 == 1 || xs.isEmpty) && decide (off + len ≤ tot) && !isStr s && decide (0 < min len xs.length) then
   some (.int .i64 (min len xs.length:Nat),st.set key { o with els := splice o.els off (xs.take (min len xs.length)) }) else none
 | _,_ => none
def pcpy (st:St) (sz:Nat) (d s:D):Option (D × St) :=
 match d,s with
 | .bsl key off n sz1 _,.bsl key2 off2 n2 sz2 _ => if n = 0 ∨ n2 = 0 ∨ sz1 ≠ sz ∨ sz2 ≠ sz ∨ sz = 0 then none else
  match st[key]?,st[key2]? with
  | some o,some o2 => if !o.row && !o.lent && !o2.row && decide (off + min n n2 * sz ≤ o.els.length) && decide (off2 + min n n2 * sz ≤ o2.els.length) && ((o2.els.drop off2).take (min n n2 * sz)).all D.isCell then
    some (.int .i64 (min n n2:Nat),st.set key { o with els := splice o.els off ((o2.els.drop off2).take (min n n2 * sz)) })
   else none
  | _,_ => none
 | .slc _ [] _,.bsl _ _ _ _ _ | .bsl _ _ _ _ _,.slc _ [] _ | .slc _ [] _,.slc _ [] _ => some (.int .i64 0,st)
 | .row key tot off len,s => pcpyR st sz key tot off len s
 | _,_ => none
def papp (st:St) (sz bytes:Nat) (s x:D):Option (D × St) :=
 match elsOf st x with
 | none => none
 | some (szx,xs) =>
  if !(szx == sz || xs.isEmpty) || sz == 0 then none else
  match s with
  | .row key tot off len =>
   match st[key]? with
   | some o =>
    if o.row && o.sz == sz && o.els.length == tot && off == 0 && len == tot && decide ((tot + xs.length) * bytes ≤ 140737488355328) && decide (tot + xs.length ≤ 4294967296) then
     some (.row key (tot + xs.length) 0 (tot + xs.length),st.set key { o with els := o.els ++ xs })
    else none
   | none => none
  | .slc sz' els true =>
   if xs.isEmpty then some (.slc sz' els true,st)
   else if (sz' == sz || els.isEmpty) && decide ((els.length + xs.length) * bytes ≤ 140737488355328) && decide (els.length + xs.length ≤ 4294967296) then
    some (.row st.length (els.length + xs.length) 0 (els.length + xs.length),st ++ [{ row := true,sz,els := els ++ xs,lent := false }])
   else none
  | _ => none
def pidxS (st:St) (sz:Nat) (x i:D):Option D :=
 match natOf i with
 | none => none
 | some j =>
  match x with
  | .slc sz' els _ => match els[j]? with
   | some el => if sz' == sz then some (.eptr el 0) else none
   | none => none
  | .row key tot off len => match st[key]? with
   | some o => if o.row && o.sz == sz && o.els.length == tot && decide (j < len) then some (.rptr key tot (off + j) 0) else none
   | none => none
  | .bsl key off n sz' _ => if j < n ∧ sz' = sz then some (.ptr key (off + j * sz)) else none
  | _ => none
def pfld (st:St) (off:Nat):D → Option D
 | .ptr key o => some (.ptr key (o + off))
 | .rptr key tot i o => if live st key tot then some (.rptr key tot i (o + off)) else none
 | .eptr el o => some (.eptr el (o + off))
 | _ => none
def pidxA (st:St) (n sz:Nat) (p i:D):Option D :=
 match natOf i with
 | none => none
 | some j => if j < n then pfld st (j * sz) p else none
def pidx (x i:D):Option D :=
 match x,natOf i with
 | .str s,some j => match s[j]? with
  | some b => some (byteD b)
  | none => none
 | _,_ => none
def pfldv (off n:Nat) (ag:Bool) (x:D):Option D :=
 match x with
 | .agg cs => if decide (off + n ≤ cs.length) && (ag || n == 1) then some (.mk ag ((cs.drop off).take n)) else none
 | _ => none
def pidxV (len sz:Nat) (ag:Bool) (x i:D):Option D :=
 match natOf i with
 | some j => if j < len then pfldv (j * sz) sz ag x else none
 | none => none
def fillD:List D → List (Nat × Nat × D) → Option (List D)
 | cs,[] => some cs
 | cs,(off,size,d) :: r =>
  if d.cells.length == size && decide (off + size ≤ cs.length) && d.cells.all D.isCell then fillD (splice cs off d.cells) r else none
def hk0:D → List Nat
 | .row k _ _ _ | .bsl k _ _ _ _ | .ptr k _ | .rptr k _ _ _ | .mapv k => [k]
 | _ => []
def hk1:D → List Nat
 | .clo _ l => l.flatMap hk0
 | d => hk0 d
def hk:D → List Nat
 | .agg l => l.flatMap hk1
 | d => hk1 d
def Obj.see (o:Obj):Bool × Nat × List D := (o.row,o.sz,o.els)
def sees (st:St):List Nat → List (Option (Bool × Nat × List D))
 | [] => []
 | k :: l => (st[k]?).map Obj.see :: sees st l
def reads1 (sp:List D → List (Option (Bool × Nat × List D)) → Option D) (ds:List D) (st:St):Option D :=
 if (ds.flatMap hk).all (fun k => (st[k]?).isSome) then sp ds (sees st (ds.flatMap hk)) else none
structure Tbl where
 /-- what is told of it: from arguments without handles to a result without handles -/
 p:Nat → Option (List D → Option D)
 /-- carried out over the caller's own store -/
 i:Nat → Option (List D → St → Option (D × St))
 /-- what makes one new object,and does no more -/
 m:Nat → Option (List D → Option ((Nat → D) × (Nat → List Obj)))
 /-- what a round of the loop l does to the store -/
 y:Nat → List D → St → Option (D × St) := fun _ _ _ => none
 /-- functions that are ranged over -/
 r:Nat → Option ((List D → St → Option (D × St)) → List D → St → Option (D × St)) := fun _ => none
 /-- functions that panic: with which value,of which type,and the store behind it -/
 x:Nat → Option (List D → St → Option (Nat × D × St)) := fun _ => none
 /-- functions that only read -/
 q:Nat → Option (List D → List (Option (Bool × Nat × List D)) → Option D) := fun _ => none
abbrev Glob := Nat → Option D
def mm1 (isMax:Bool) (a b:Int):Int := if isMax then (if b > a then b else a) else (if b < a then b else a)
def POp.exec (T:Tbl) (ρ:PA → D) (st:St):POp → Option (D × St)
 | .mov x => some (ρ x,st)
 | .pick c x y => match ρ c with
  | .bool b => some (if b then ρ x else ρ y,st)
  | _ => none
 | .box x => if (ρ x).cells.all D.isCell then some (.ptr st.length 0,st ++ [{ row := false,sz := 1,els := (ρ x).cells,lent := false }]) else none
 | .bld zero parts => (fillD zero (parts.map fun p => (p.1,p.2.1,ρ p.2.2))).map fun cs => (.agg cs,st)
 | .bslc sz parts => match imms st (parts.map ρ) with
  | some els => if (els.all fun e => e.cells.length == sz) && decide (0 < sz) && decide (els.length * sz ≤ 16777216) then some (.slc sz els true,lend ((parts.map ρ).flatMap keys) st) else none
  | none => none
 | .load n ag p => (pload st n ag (ρ p)).map (·,st)
 | .stor n p x => (pstor st n (ρ p) (ρ x)).map (.tup [],·)
 | .nilc x => match ρ x with
  | .ptr _ _ | .eptr _ _ => some (ρ x,st)
  | .rptr key tot _ _ => if live st key tot then some (ρ x,st) else none
  | _ => none
 | .bin op x y => (pbin op (ρ x) (ρ y)).map (·,st)
 | .beq neg x y => (pbeq neg (ρ x) (ρ y)).map (·,st)
 | .aeq ks neg x y => (paeq ks neg (ρ x) (ρ y)).map (·,st)
 | .un op x => (pun op (ρ x)).map (·,st)
 | .conv c x => (pconv st c (ρ x)).map (·,st)
 | .mkslc sz bytes zero ln cp => match natOf (ρ ln),natOf (ρ cp) with
  | some l,some c => if l ≤ c ∧ c ≤ 4294967296 ∧ c * bytes ≤ 140737488355328 ∧ 0 < sz ∧ zero.cells.length = sz ∧ zero.cells.all D.pure1 = true then
    some (.row st.length l 0 l,st ++ [{ row := true,sz,els := List.replicate l zero,lent := false }]) else none
  | _,_ => none
 | .slice sz x lo hi mx => (pslice st sz (ρ x) (lo.map ρ) (hi.map ρ) (mx.map ρ)).map (·,st)
 | .sliceA n sz ag x lo hi => (psliceA n sz ag (ρ x) (lo.map ρ) (hi.map ρ)).map (·,st)
 | .fld off p => (pfld st off (ρ p)).map (·,st)
 | .fldv off n ag x => (pfldv off n ag (ρ x)).map (·,st)
 | .idxS sz x i => (pidxS st sz (ρ x) (ρ i)).map (·,st)
 | .idxA n sz p i => (pidxA st n sz (ρ p) (ρ i)).map (·,st)
 | .idx x i => (pidx (ρ x) (ρ i)).map (·,st)
 | .idxV ln sz ag x i => (pidxV ln sz ag (ρ x) (ρ i)).map (·,st)
 | .len str x => if isStr (ρ x) == str then (sLen st (ρ x)).map fun (n:Nat) => (D.int .i64 (n:Int),st) else none
 | .lenA n => some (.int .i64 (n:Int),st)
 | .app sz bytes s x => papp st sz bytes (ρ s) (ρ x)
 | .mm isMax x y => match ρ x,ρ y with
  | .int k a,.int _ b => some (.int k (if isMax then (if b > a then b else a) else (if b < a then b else a)),st)
  | _,_ => none
 | .mm3 isMax x y z => match ρ x,ρ y,ρ z with
  | .int k a,.int _ b,.int _ c => some (.int k (mm1 isMax (mm1 isMax a b) c),st)
  | _,_,_ => none
 | .rcall f args => match T.q f with
  | some sp => (reads1 sp (args.map ρ) st).map (·,st)
  | none => none
 | .icall f args => match T.i f with
  | some sp => sp (args.map ρ) st
  | none => none
 | .mcall f args => match T.m f with
  | some sp => match sp (args.map ρ) with
   | some r => some (r.1 st.length,st ++ r.2 st.length)
   | none => none
  | none => none
 | .callv x args => match ρ x with
  | .clo f caps => if f < 5000000 then match T.i f with
    | some sp => sp (args.map ρ ++ caps) st
    | none => none
   else if f < 10000000 then match T.i (f - 5000000) with
    | some sp => sp (caps ++ args.map ρ) st
    | none => none
   else if caps.isEmpty then T.y (f - 10000000) (args.map ρ) st else none
  | _ => none
 | .mkclo f caps => some (.clo f (caps.map ρ),st)
 | .call f args => match T.p f,imms st (args.map ρ) with
  | some sp,some vs => match sp vs with
   | some r => some (r,if r.noRef then st else lend ((args.map ρ).flatMap keys) st)
   | none => none
  | _,_ => none
 | .ext x i => match ρ x with
  | .tup vs => (vs[i]?).map (·,st)
  | _ => none
 | .mkmap sz => if 1 < sz ∧ sz ≠ 1000003 then some (.mapv st.length,st ++ [{ row := false,sz,els := [],lent := false }]) else none
 | .mapup sz ks m k v => (pmapup st sz ks (ρ m) (ρ k) (ρ v)).map (.tup [],·)
 | .mapget sz ks ok zero m k => (pmapget st sz ks ok zero (ρ m) (ρ k)).map (·,st)
 | .cpy sz d s => pcpy st sz (ρ d) (ρ s)
 | .fail => none
structure Foot where
 rd:List Nat
 wr:List Nat
 nu:Option Nat
 deriving Inhabited
def optL {α:Type}:Option α → List α
 | some x => [x]
 | none => []
def POp.args:POp → List PA
 | .mov x | .box x | .nilc x | .un _ x | .conv _ x | .fld _ x | .fldv _ _ _ x | .len _ x | .ext x _ | .load _ _ x => [x]
 | .pick c x y => [c,x,y]
 | .bld _ parts => parts.map fun p => p.2.2
 | .bslc _ parts => parts
 | .stor _ p x => [p,x]
 | .bin _ x y | .beq _ x y | .aeq _ _ x y | .mm _ x y | .app _ _ x y => [x,y]
 | .mkslc _ _ _ l c => [l,c]
 | .slice _ x lo hi mx => x :: (optL lo ++ optL hi ++ optL mx)
 | .sliceA _ _ _ x lo hi => x :: (optL lo ++ optL hi)
 | .idxS _ x i | .idxA _ _ x i | .idx x i | .idxV _ _ _ x i => [x,i]
 | .lenA _ | .fail | .mkmap _ => []
 | .mapup _ _ m k v => [m,k,v]
 | .mapget _ _ _ _ m k => [m,k]
 | .cpy _ d s => [d,s]
 | .mm3 _ x y z => [x,y,z]
 | .call _ args | .icall _ args | .mcall _ args | .rcall _ args | .mkclo _ args => args
 | .callv x args => x :: args
def rpK:D → List Nat
 | .rptr k _ _ _ => [k]
 | _ => []
def appN:D → Nat → Option Nat
 | .slc _ [] _,_ => none
 | _,n => some n
def POp.foot (ρ:PA → D) (st:St):POp → Option Foot
 | .stor _ p x => some ⟨hk (ρ x),hk (ρ p),none⟩
 | .box _ | .mkslc _ _ _ _ _ => some ⟨[],[],some st.length⟩
 | .app _ _ s x => match ρ s with
  | .row key _ _ _ => some ⟨hk (ρ x),[key],none⟩
  | _ => some ⟨hk (ρ x),[],appN (ρ x) st.length⟩
 | .mcall _ _ => some ⟨[],[],some st.length⟩
 | .icall _ _ | .callv _ _ | .mkmap _ | .mapup _ _ _ _ _ | .cpy _ _ _ | .fail => none
 | .fld _ x | .nilc x | .idxA _ _ x _ => some ⟨rpK (ρ x),[],none⟩
 | p => some ⟨(p.args.map ρ).flatMap hk,[],none⟩
def away (a b:List Nat):Bool := a.all fun k => !b.contains k
def awayM (m:Option Nat) (a:List Nat):Bool := match m with
 | some n => a.all fun k => decide (k < n)
 | none => true
def Foot.ok (f g:Foot):Bool := away g.wr f.rd && away g.wr f.wr && away f.wr g.rd && awayM f.nu g.rd && awayM f.nu g.wr && awayM g.nu f.rd && awayM g.nu f.wr && (f.nu.isNone || g.nu.isNone)
def ck1:Option (Option Foot) → Option Foot → Bool
 | some (some f),some g => f.ok g
 | _,_ => false
def ckF (fs:List (Option Foot)) (g:Option Foot):List Nat → Bool
 | [] => true
 | j :: r => ck1 fs[j]? g && ckF fs g r
def emptyF:Foot := ⟨[],[],none⟩
abbrev Frame := Nat → D
def Frame.set (fr:Frame) (s:Nat) (d:D):Frame := fun t => if t = s then d else fr t
def Frame.put (fr:Frame) (s:Option Nat) (d:D):Frame := match s with
 | some s => fr.set s d
 | none => fr
structure PS where
 fr:Frame
 st:St
structure PI where
 dst:Option Nat
 op:POp
 guard:Option (Nat × Bool) := none
 deriving Inhabited
def rho (G:Glob) (fr:Frame):PA → D
 | .s n => fr n
 | .c d => d
 | .g n => match G n with
  | some d => .eptr d 0
  | none => .junk
def PI.wanted (fr:Frame) (i:PI):Option Bool :=
 match i.guard with
 | none => some true
 | some (s,want) => match fr s with
  | .bool b => some (b == want)
  | .tup [] => some false
  | _ => none
def PI.exec (G:Glob) (T:Tbl) (i:PI) (s:PS):Option PS :=
 match i.wanted s.fr with
 | none => none
 | some false => some { s with fr := s.fr.put i.dst (.tup []) }
 | some true => match i.op.exec T (rho G s.fr) s.st with
  | some (d,st) => some { fr := s.fr.put i.dst d,st }
  | none => none
def execs (G:Glob) (T:Tbl):List PI → PS → Option PS
 | [],s => some s
 | i :: l,s => match i.exec G T s with
  | some s' => execs G T l s'
  | none => none
def PI.foot (G:Glob) (i:PI) (s:PS):Option Foot := match i.wanted s.fr with
 | some true => i.op.foot (rho G s.fr) s.st
 | _ => some emptyF
def anys (G:Glob) (T:Tbl):List (PI × Bool × List Nat) → List (Option Foot) → PS → Option PS
 | [],_,s => some s
 | (i,b,cs) :: l,fs,s => if ckF fs (i.foot G s) cs then
   match i.exec G T s with
   | some s' => anys G T l (fs ++ [if b then i.foot G s else none]) s'
   | none => none
  else none
inductive Ex where
 | next
 | exit (id:Nat)
 | ret
 | panic (t:Nat) (d:D)
inductive PC where
 | skip
 | ops (l:List PI)
 /-- in any order: for each instruction,whether what it touches is asked for later,and the earlier ones that it is held against -/
 | any (l:List (PI × Bool × List Nat))
 /-- in any order,two of them making an object each: both orders of these two; what is kept behind,and that it is the same -/
 | any2 (keep:List Nat) (l1 l2:List (PI × Bool × List Nat))
 | seq (a b:PC)
 | cond (c:PA) (a b:PC)
 | block (id:Nat) (c:PC)
 | loop (keep:List Nat) (c:PC)
 /-- a loop at whose head all objects are kept -/
 | loopA (keep:List Nat) (c:PC)
 /-- a range over a function: its parameters' slots,what is assigned and what is done in a round -/
 | range (x:PA) (ps:List Nat) (a b:PC)
 /-- a region in which a call may panic -/
 | opsX (l:List PI)
 /-- a region at whose end there is a panic: with a value that is made an interface's -/
 | pan (l:List PI) (d1 t:Nat) (x:PA)
 /-- either will do -/
 | alt (a b:PC)
 | exit (id:Nat)
 | ret
 | fail
 deriving Inhabited
def low0 (n:Nat):D → D
 | .row key tot off len => if key < n then .row key tot off len else .junk
 | .bsl key off m sz ag => if key < n then .bsl key off m sz ag else .junk
 | .ptr key off => if key < n then .ptr key off else .junk
 | .rptr key tot i off => if key < n then .rptr key tot i off else .junk
 | .mapv key => if key < n then .mapv key else .junk
 | .agg _ | .tup _ | .clo _ _ => .junk
 | d => d
def low1 (n:Nat):D → D
 | .clo f l => .clo f (l.map (low0 n))
 | d => low0 n d
def low (n:Nat):D → D
 | .agg l => .agg (l.map (low1 n))
 | .tup _ => .junk
 | d => low1 n d
def mkF:List (Nat × D) → Frame
 | [],_ => .junk
 | (s,d) :: r,t => if t = s then d else mkF r t
def uniq (lo hi:Nat):List Nat → List Nat → List Nat
 | [],acc => acc
 | k :: r,acc => uniq lo hi r (if lo ≤ k ∧ k < hi ∧ acc.contains k = false then acc ++ [k] else acc)
def posIn:List Nat → Nat → Nat → Option Nat
 | [],_,_ => none
 | k :: r,b,key => if key = k then some b else posIn r (b + 1) key
def renK (n:Nat) (σ:List Nat) (key:Nat):Option Nat := if key < n then some key else posIn σ n key
def orJunk (f:Nat → D):Option Nat → D
 | some k => f k
 | none => .junk
def ren0 (n:Nat) (σ:List Nat):D → D
 | .row key tot off len => orJunk (fun k => .row k tot off len) (renK n σ key)
 | .bsl key off m sz ag => orJunk (fun k => .bsl k off m sz ag) (renK n σ key)
 | .ptr key off => orJunk (fun k => .ptr k off) (renK n σ key)
 | .rptr key tot i off => orJunk (fun k => .rptr k tot i off) (renK n σ key)
 | .mapv key => orJunk .mapv (renK n σ key)
 | .agg _ | .tup _ | .clo _ _ => .junk
 | d => d
def ren1 (n:Nat) (σ:List Nat):D → D
 | .clo f l => .clo f (l.map (ren0 n σ))
 | d => ren0 n σ d
def ren (n:Nat) (σ:List Nat):D → D
 | .agg l => .agg (l.map (ren1 n σ))
 | .tup _ => .junk
 | d => ren1 n σ d
def renO (n:Nat) (σ:List Nat) (o:Obj):Obj := { o with els := if o.row then o.els else o.els.map (ren n σ) }
def picked (n:Nat) (σ:List Nat) (st:St):St := (st.take n).map (renO n σ) ++ σ.map fun k => renO n σ (st.getD k default)
def keysIn (keep:List Nat) (n:Nat) (s:PS):List Nat :=
 (keep.flatMap fun k => hk (s.fr k)) ++ (s.st.take n).flatMap fun o => if o.row then [] else o.els.flatMap hk
def restrictAt (keep:List Nat) (n:Nat) (σ:List Nat) (s:PS):PS :=
 { fr := mkF (keep.map fun k => (k,ren n σ (s.fr k))),st := picked n σ s.st }
def restrict (keep:List Nat) (n:Nat) (s:PS):PS :=
 restrictAt keep (if n ≤ s.st.length then n else s.st.length) (uniq (if n ≤ s.st.length then n else s.st.length) s.st.length (keysIn keep (if n ≤ s.st.length then n else s.st.length) s) []) s
def loopx (body:PS → Option (Ex × PS)) (cut:PS → PS):Nat → PS → Option (Ex × PS)
 | 0,_ => none
 | n + 1,s => match body (cut s) with
  | some (.next,s') => loopx body cut n s'
  | some (e,s') => some (e,s')
  | none => none
noncomputable def same2 (keep:List Nat) (n:Nat) (s1 s2:PS):Option PS :=
 @ite _ (s1.st.length = n + 2 ∧ s2.st.length = n + 2 ∧ restrictAt keep n [n + 1,n] s2 = restrictAt keep n [n,n + 1] s1) (Classical.propDecidable _) (some (restrictAt keep n [n,n + 1] s1)) none
def setP (fr:Frame):List Nat → List D → Frame
 | p :: ps,d :: ds => setP (fr.put (some p) d) ps ds
 | _,_ => fr
def recO (n:Int):Obj := ⟨false,1000003,[.int .i64 n],false⟩
def recAt (st:St) (k:Nat):Option Int := match st[k]? with
 | some o => if !o.row && o.sz == 1000003 then (match o.els with
  | [.int .i64 n] => some n
  | _ => none) else none
 | none => none
def recEx (st:St) (k:Nat):Option Ex := match recAt st k with
 | some n => if n = 0 then some .next else if n = 1 then some .ret else none
 | none => none
def roundY (ea eb:PS → Option (Ex × PS)) (fr:Frame) (ps:List Nat) (k:Nat) (ds:List D) (st:St):Option (D × St) :=
 if ds.length = ps.length then match ea ⟨setP fr ps ds,st⟩ with
  | some (.next,s1) => if recAt s1.st k = some 0 then match eb ⟨s1.fr,s1.st.set k (recO 2)⟩ with
   | some (.next,s2) => some (.bool true,s2.st.set k (recO 0))
   | some (.ret,s2) => some (.bool false,s2.st.set k (recO 1))
   | _ => none
   else none
  | _ => none
 else none
def withY (T:Tbl) (l:Nat) (y:List D → St → Option (D × St)):Tbl := { T with y := fun l' ds st => if l' = l then y ds st else none }
def rangeRun (T:Tbl) (d:D) (y:List D → St → Option (D × St)) (st:St):Option St := match d with
 | .clo f caps => if f < 5000000 then match T.r f with
   | some sp => (sp y caps st).map (·.2)
   | none => none
  else none
 | _ => none
def keepAll (keep:List Nat) (s:PS):PS := ⟨mkF (keep.map fun k => (k,s.fr k)),s.st⟩
def isI:D → Bool
 | .int _ _ => true
 | _ => false
def intsD:D → Bool
 | .agg l => l.all isI
 | d => isI d
def POp.callee (ρ:PA → D):POp → Option (Nat × List D)
 | .icall f args => some (f,args.map ρ)
 | .callv x args => match ρ x with
  | .clo f caps => if f < 5000000 then some (f,args.map ρ ++ caps) else if f < 10000000 then some (f - 5000000,caps ++ args.map ρ) else none
  | _ => none
 | _ => none
def POp.execX (T:Tbl) (ρ:PA → D) (st:St) (p:POp):Option (Nat × D × St) := match p.callee ρ with
 | some (f,ds) => match T.x f with
  | some sp => sp ds st
  | none => none
 | none => none
def PI.execX (G:Glob) (T:Tbl) (i:PI) (s:PS):Option (Nat × D × PS) := match i.wanted s.fr with
 | some true => (i.op.execX T (rho G s.fr) s.st).map fun r => (r.1,r.2.1,⟨s.fr,r.2.2⟩)
 | _ => none
def execsX (G:Glob) (T:Tbl):List PI → PS → Option (Nat × D × PS)
 | [],_ => none
 | i :: l,s => match i.exec G T s with
  | some s' => execsX G T l s'
  | none => i.execX G T s
noncomputable def PC.exec (G:Glob) (T:Tbl) (fuel:Nat):PC → PS → Option (Ex × PS)
 | .skip,s => some (.next,s)
 | .ops l,s => match execs G T l s with
  | some s' => some (.next,s')
  | none => none
 | .any l,s => match anys G T l [] s with
  | some s' => some (.next,s')
  | none => none
 | .any2 keep l1 l2,s => match anys G T l1 [] s,anys G T l2 [] s with
  | some s1,some s2 => (same2 keep s.st.length s1 s2).map fun s' => (.next,s')
  | _,_ => none
 | .seq a b,s => match a.exec G T fuel s with
  | some (.next,s') => b.exec G T fuel s'
  | some (e,s') => some (e,s')
  | none => none
 | .cond c a b,s => match rho G s.fr c with
  | .bool true => a.exec G T fuel s
  | .bool false => b.exec G T fuel s
  | _ => none
 | .block id c,s => match c.exec G T fuel s with
  | some (.exit id',s') => if id' = id then some (.next,s') else some (.exit id',s')
  | some (e,s') => some (e,s')
  | none => none
 | .loop keep c,s => loopx (c.exec G T fuel) (restrict keep s.st.length) fuel s
 | .loopA keep c,s => loopx (c.exec G T fuel) (keepAll keep) fuel s
 | .range x ps a b,s => (rangeRun T (rho G s.fr x) (roundY (a.exec G T fuel) (b.exec G T fuel) s.fr ps s.st.length) (s.st ++ [recO 0])).bind fun st' => (recEx st' s.st.length).map fun e => (e,⟨s.fr,st'.set s.st.length (recO 2)⟩)
 | .opsX l,s => match execs G T l s with
  | some s' => some (.next,s')
  | none => (execsX G T l s).map fun r => (.panic r.1 r.2.1,r.2.2)
 | .pan l d1 t x,s => match execs G T l s with
  | some s' => if intsD (rho G s'.fr x) then some (.panic t (rho G s'.fr x),⟨s'.fr.set d1 .junk,s'.st⟩) else none
  | none => none
 | .alt a b,s => match a.exec G T fuel s with
  | some r => some r
  | none => b.exec G T fuel s
 | .exit id,s => some (.exit id,s)
 | .ret,s => some (.ret,s)
 | .fail,_ => none
inductive PRes where
 | tmp (t:Nat)
 | cell (t n:Nat) (ag:Bool)
 deriving Inhabited
structure PF where
 code:PC
 res:List PRes
 deriving Inhabited
def PRes.get (s:PS):PRes → Option D
 | .tmp t => imm s.st (s.fr t)
 | .cell t n ag => match pload s.st n ag (s.fr t) with
  | some d => imm s.st d
  | none => none
def gets (s:PS):List PRes → Option (List D)
 | [] => some []
 | r :: l => match r.get s,gets s l with
  | some x,some y => some (x :: y)
  | _,_ => none
def raws (s:PS):List PRes → Option (List D)
 | [] => some []
 | .tmp t :: l => (raws s l).map (s.fr t :: ·)
 | .cell t n ag :: l => match pload s.st n ag (s.fr t),raws s l with
  | some x,some y => some (x :: y)
  | _,_ => none
def argF (ds:List D):Frame := fun s => ds.getD s .junk
def pack:List D → D
 | [d] => d
 | ds => .tup ds
noncomputable def PF.run (G:Glob) (T:Tbl) (F:PF) (fuel:Nat) (ds:List D):Option D :=
 match F.code.exec G T fuel { fr := argF ds,st := [] } with
 | some (.next,s) | some (.ret,s) => (gets s F.res).map pack
 | _ => none
noncomputable def PF.runI (G:Glob) (T:Tbl) (F:PF) (fuel:Nat) (ds:List D) (st:St):Option (D × St) :=
 match F.code.exec G T fuel { fr := argF ds,st } with
 | some (.next,s) | some (.ret,s) => (raws s F.res).map fun l => (pack l,s.st)
 | _ => none
structure PFD where
 pre:List PI
 hf:PA
 ha:List PA
 code:PC
 res:List PRes
 deriving Inhabited
abbrev HTbl := Nat → Option (Nat → D → List D → St → Option St)
def putOff (f:D) (ds:List D):Option (Nat × List D) := match f with
 | .clo f caps => if f < 5000000 then some (f,ds ++ caps) else none
 | _ => none
noncomputable def PFD.runI (G:Glob) (T:Tbl) (H:HTbl) (F:PFD) (fuel:Nat) (ds:List D) (st:St):Option (D × St) :=
 match execs G T F.pre { fr := argF ds,st } with
 | some s1 => match putOff (rho G s1.fr F.hf) (F.ha.map (rho G s1.fr)) with
  | some (f,das) => match H f with
   | some h => match F.code.exec G T fuel s1 with
    | some (.next,s) | some (.ret,s) => (raws s F.res).map fun l => (pack l,s.st)
    | some (.panic t d,s) => match h t d das s.st with
     | some st3 => (raws ⟨s.fr,st3⟩ F.res).map fun l => (pack l,st3)
     | none => none
    | _ => none
   | none => none
  | none => none
 | none => none
def lowR (n:Nat):D → D
 | .tup l => .tup (l.map (low n))
 | d => low n d
def cut (k:Nat) (st:St):St := (st.take k).map fun o => { o with els := if o.row then o.els else o.els.map (low k) }
def dropped (f:List D → St → Option (D × St)) (ds:List D) (st:St):Option (D × St) :=
 (f ds st).map fun r => (lowR st.length r.1,cut st.length r.2)
end Go.Proofs.YtlleccmnjpcogaaDoor.PI
