/-
  tvm: the machine's methods.
  Conditions: none; these are lemmas.
-/
import Derived.Test.YtlleccmnjpcogaaDoorMkA
import Derived.Test.YtlleccmnjpcogaaDoorSha
import Derived.Test.YtlleccmnjpcogaaDoorEngHd
set_option linter.unusedVariables false
set_option linter.unusedSimpArgs false
namespace Go.Proofs.YtlleccmnjpcogaaDoor.PI
open Go
set_option linter.unusedSimpArgs false
set_option maxHeartbeats 8000000
set_option maxRecDepth 20000
set_option linter.unusedVariables false
structure Ins where
 op:Int
 n:Int
 m:Int
 deriving DecidableEq,Inhabited
structure Sta where
 pc:Int
 fuel:Int
 status:Int
 clause:Int
 stack:List Int
 deriving DecidableEq,Inhabited
structure Opn where
 pc:Int
 fuel:Int
 status:Int
 clause:Int
 top:List Int
 depth:Int
 rest:Dig
 deriving DecidableEq
def insC (x:Ins):List D := [.int .i64 x.op,.int .i64 x.n,.int .i64 x.m]
def insD (x:Ins):D := .agg (insC x)
def intsO (l:List Int):D := .slc (nz 1 (l.map nI)) (l.map nI) false
def staC (s:Sta):List D := [.int .i64 s.pc,.int .i64 s.fuel,.int .i64 s.status,.int .i64 s.clause,intsO s.stack]
def staD (s:Sta):D := .agg (staC s)
def opnC (o:Opn):List D := .int .i64 o.pc :: .int .i64 o.fuel :: .int .i64 o.status :: .int .i64 o.clause :: intsO o.top :: .int .i64 o.depth :: digC o.rest
def opnD (o:Opn):D := .agg (opnC o)
def evC (v:Int × List Int):List D := .int .i64 v.1 :: v.2.map nI
def evD (v:Int × List Int):D := .agg (evC v)
theorem intsO_iff {a b:List Int}:intsO a = intsO b ↔ a = b := by
 refine ⟨fun h => ?_,fun h => by rw [h]⟩
 simp only [intsO,D.slc.injEq,and_true] at h
 exact ints_iff.1 h.2
theorem insD_iff {a b:Ins}:insD a = insD b ↔ a = b := by
 obtain ⟨a1,a2,a3⟩ := a; obtain ⟨b1,b2,b3⟩ := b
 simp [insD,insC]
theorem code_iff {a b:List Ins}:a.map insD = b.map insD ↔ a = b := ⟨map_inj fun _ _ => insD_iff.1,fun h => by rw [h]⟩
theorem staD_iff {a b:Sta}:staD a = staD b ↔ a = b := by
 obtain ⟨a1,a2,a3,a4,a5⟩ := a; obtain ⟨b1,b2,b3,b4,b5⟩ := b
 simp [staD,staC,intsO_iff]
theorem opnD_iff {a b:Opn}:opnD a = opnD b ↔ a = b := by
 obtain ⟨a1,a2,a3,a4,a5,a6,a7⟩ := a; obtain ⟨b1,b2,b3,b4,b5,b6,b7⟩ := b
 simp [opnD,opnC,intsO_iff,digC_iff]
theorem evD_iff {a b:Int × List Int}:evD a = evD b ↔ a = b := by
 obtain ⟨a1,a2⟩ := a; obtain ⟨b1,b2⟩ := b
 simp [evD,evC,ints_iff]
def hashF (t:List UInt8) (v:Val):Dig := taggedL t (encF v)
def tProg:List UInt8 := [112,114,111,103,114,97,109]
def tInp:List UInt8 := [105,110,112,117,116,115]
def tStk:List UInt8 := [115,116,97,99,107]
def tSta:List UInt8 := [115,116,97,116,101]
def progS (d:Dig) (x:Ins):Dig := hashF tProg (.list [.int x.op,.int x.n,.int x.m,.bytes d.bs])
def progF (c:List Ins):Dig := c.foldl progS zeroDig
def inpF (v:Int × List Int):Dig := hashF tInp (.list [.int v.1,.list (v.2.map .int)])
def ontoS (d:Dig) (n:Int):Dig := hashF tStk (.list [.int n,.bytes d.bs])
def ontoF (d:Dig) (l:List Int):Dig := l.foldl ontoS d
def wholeF (c:List Ins) (v:Int × List Int) (o:Opn):Dig := hashF tSta (.list [.bytes (progF c).bs,.bytes (inpF v).bs,.int o.pc,.int o.fuel,.int o.status,.int o.clause,.int (o.depth + o.top.length),.bytes (ontoF o.rest o.top).bs])
def openK (s:Sta) (n:Int):Nat := s.stack.length - (min (max n 0) s.stack.length).toNat
def openF (s:Sta) (n:Int):Opn := ⟨s.pc,s.fuel,s.status,s.clause,s.stack.drop (openK s n),openK s n,ontoF zeroDig (s.stack.take (openK s n))⟩
def digF (c:List Ins) (v:Int × List Int) (s:Sta):Dig := wholeF c v (openF s s.stack.length)
def closeF (c:List Ins) (v:Int × List Int) (o:Opn):Dig := if o.depth < 0 ∨ 64 < o.depth then zeroDig else wholeF c v o
theorem intB_len9 (n:Int):(intB n).length ≤ 9 := by
 unfold intB
 split
 ·have := sizeF_le 8 (u64N n)
  simp only [List.length_cons,bytesK_length]; omega
 ·have := sizeF_le 8 (inv64 (u64N n))
  simp only [List.length_cons,bytesK_length]; omega
theorem esc_len2:∀ b:List UInt8,(b.flatMap escB).length ≤ 2 * b.length
 | [] => by simp
 | c :: b => by
  have := esc_len2 b
  have h1:(escB c).length ≤ 2 := by unfold escB; split <;> simp
  simp only [List.flatMap_cons,List.length_append,List.length_cons]
  omega
theorem encI_len (n:Int):(encV (.int n)).length ≤ 9 := by rw [encV_int]; exact intB_len9 n
theorem encD_len (d:Dig):(encV (.bytes d.bs)).length ≤ 67 := by
 have := esc_len2 d.bs
 rw [d.len] at this
 rw [encV_bytes]
 simp only [List.length_cons,List.length_append,List.length_nil]
 omega
theorem encLI_len:∀ l:List Int,((l.map Val.int).flatMap encV).length ≤ 9 * l.length
 | [] => by simp
 | n :: l => by
  have := encLI_len l
  have := encI_len n
  simp only [List.map_cons,List.flatMap_cons,List.length_append,List.length_cons]
  omega
theorem imm1_bsl32 (st:St) (key:Nat):imm1 st (.bsl key 0 32 1 false) = (elB st[key]?).map fun p => .slc (nz 1 p.2) p.2 false := by
 rw [← elsOf_bsl32]
 simp only [imm1,bslI,elsOf]
 cases bslEls st key 0 32 1 false with
 | none => rfl
 | some els =>
  dsimp only
  split <;> rfl
theorem imm_val (st:St) (v:Val):imm st (valD v) = some (valD v) := by
 obtain ⟨k,n,B,M,hC,hD⟩ := valC_form v
 rw [hD,imm_v]
theorem keys_val (v:Val):keys (valD v) = [] := by
 obtain ⟨k,n,B,M,hC,hD⟩ := valC_form v
 rw [hD,keys_v]
theorem noRef_val (v:Val):(valD v).noRef = false := by
 obtain ⟨k,n,B,M,hC,hD⟩ := valC_form v
 rw [hD]; rfl
theorem cells_val (v:Val):(valD v).cells.length = 4 := by
 obtain ⟨k,n,B,M,hC,hD⟩ := valC_form v
 rw [hD]; rfl
theorem lit_vals (l:List Val) (h:l.length ≤ 1000):litD 4 (l.map valD) = some (.slc 4 (l.map valD) true) := by
 have h1:((l.map valD).all fun e => e.cells.length == 4) = true := by
  rw [List.all_eq_true]
  intro e he
  obtain ⟨v,_,rfl⟩ := List.mem_map.1 he
  simp [cells_val]
 have h2:decide ((l.map valD).length * 4 ≤ 16777216) = true := decide_eq_true (by rw [List.length_map]; omega)
 simp only [litD,h1,h2]
 rfl
theorem box_ins0:boxD (.agg [.int .i64 0,.int .i64 0,.int .i64 0]) = some [.int .i64 0,.int .i64 0,.int .i64 0] := (rfl)
theorem box_ins (x:Ins):boxD (insD x) = some (insC x) := (rfl)
theorem st_ins (x:Ins):stO (some ⟨false,1,[.int .i64 0,.int .i64 0,.int .i64 0],false⟩) 3 0 (insD x) = some ⟨false,1,insC x,false⟩ := (rfl)
theorem ld_ins0 (lent:Bool) (x:Ins):ldO (some ⟨false,1,insC x,lent⟩) 1 false 0 = some (.int .i64 x.op) := (rfl)
theorem ld_ins1 (lent:Bool) (x:Ins):ldO (some ⟨false,1,insC x,lent⟩) 1 false 1 = some (.int .i64 x.n) := (rfl)
theorem ld_ins2 (lent:Bool) (x:Ins):ldO (some ⟨false,1,insC x,lent⟩) 1 false 2 = some (.int .i64 x.m) := (rfl)
theorem ld_ins (lent:Bool) (x:Ins):ldO (some ⟨false,1,insC x,lent⟩) 3 true 0 = some (insD x) := (rfl)
theorem pld_ins (st:St) (x:Ins):pload st 3 true (.eptr (insD x) 0) = some (insD x) := (rfl)
theorem imm_ins (st:St) (x:Ins):imm st (insD x) = some (insD x) := (rfl)
theorem idx_ins (st:St) (c:List Ins) (t:Bool) (i:Nat) (h:i < c.length):pidxS st 3 (.slc (nz 3 (c.map insD)) (c.map insD) t) (.int .i64 (i:Int)) = some (.eptr (insD (c.getD i default)) 0) := by
 have := idxS_nz st 3 insD c t .i64 (i:Int) (by omega) (by omega)
 simpa using this
theorem idx_nI (st:St) (c:List Int) (t:Bool) (i:Nat) (h:i < c.length):pidxS st 1 (.slc (nz 1 (c.map nI)) (c.map nI) t) (.int .i64 (i:Int)) = some (.eptr (nI (c.getD i default)) 0) := by
 have := idxS_nz st 1 nI c t .i64 (i:Int) (by omega) (by omega)
 simpa using this
theorem pld_nI (st:St) (n:Int):pload st 1 false (.eptr (nI n) 0) = some (.int .i64 n) := (rfl)
theorem fill_num (n:Int):fillD [.int .i64 0,.int .i64 0,.slc 0 [] true,.slc 0 [] true] [(0,1,.int .i64 1),(1,1,.int .i64 n)] = some [.int .i64 1,.int .i64 n,.slc 0 [] true,.slc 0 [] true] := (rfl)
theorem fill_byt (k:Nat):fillD [.int .i64 0,.int .i64 0,.slc 0 [] true,.slc 0 [] true] [(0,1,.int .i64 2),(2,1,.bsl k 0 32 1 false)] = some [.int .i64 2,.int .i64 0,.bsl k 0 32 1 false,.slc 0 [] true] := (rfl)
theorem fill_lst (sz:Nat) (l:List D) (t:Bool):fillD [.int .i64 0,.int .i64 0,.slc 0 [] true,.slc 0 [] true] [(0,1,.int .i64 3),(3,1,.slc sz l t)] = some [.int .i64 3,.int .i64 0,.slc 0 [] true,.slc sz l t] := (rfl)
theorem st_val (a b c d:D):stO (some ⟨false,1,[.int .i64 0,.int .i64 0,.slc 0 [] true,.slc 0 [] true],false⟩) 4 0 (.agg [a,b,c,d]) = if [a,b,c,d].all D.isCell then some ⟨false,1,[a,b,c,d],false⟩ else none := by
 simp only [stO]
 rfl
theorem ld_4 (lent:Bool) (a b c d:D):ldO (some ⟨false,1,[a,b,c,d],lent⟩) 4 true 0 = some (.agg [a,b,c,d]) := (rfl)
theorem cell_bsl (k o n s:Nat) (ag:Bool):(D.bsl k o n s ag).isCell = true := (rfl)
noncomputable def sp_vNum:List D → Option D := spOf (α := Int) (fun a => [.int .i64 a]) (fun a => True) (fun a => valD (.int a))
theorem call_vNum (n:Int):sp_vNum [.int .i64 n] = some (valD (.int n)) :=
 spOf_enc (fun a b h => by simp only [List.cons.injEq,D.int.injEq,true_and,and_true] at h; simp [h]) (n) trivial
theorem w_vNum (n:Int):@wW GG (tb [] []) F_tvm_number.code (argF [.int .i64 n]) [] ⟨retQ F_tvm_number.res (valD (.int n))⟩ := by
 unfold F_tvm_number
 rw [valD_int]
 simp (disch:=first|omega|decide) only [push_cast,↓reduceIte,Nat.reduceEqDiff,box_v0,fill_num,st_val,ld_4]
 rfl
theorem c_vNum:Contract Tryd.prog GG 70 sp_vNum :=
 contract_of tr_tvm_number (tb_ok all_nil all_nil) (fun a h => w_vNum a)
noncomputable def sp_vByt:List D → Option D := spOf (α := Dig) (fun a => [digD a]) (fun a => True) (fun a => valD (.bytes a.bs))
theorem call_vByt (d:Dig):sp_vByt [digD d] = some (valD (.bytes d.bs)) :=
 spOf_enc (fun a b h => by simp only [List.cons.injEq,dig_iff,and_true] at h; simp [h]) (d) trivial
theorem w_vByt (d:Dig):@wW GG (tb [] []) F_tvm_bytes.code (argF [digD d]) [] ⟨retQ F_tvm_bytes.res (valD (.bytes d.bs))⟩ := by
 unfold F_tvm_bytes
 rw [valD_bytes]
 simp (disch:=first|omega|decide) only [push_cast,↓reduceIte,Nat.reduceEqDiff,box_v0,sliceA_ptr,fill_byt,st_val,ld_4,cell_bsl,imm1_bsl32]
 rfl
theorem c_vByt:Contract Tryd.prog GG 67 sp_vByt :=
 contract_of tr_tvm_bytes (tb_ok all_nil all_nil) (fun a h => w_vByt a)
noncomputable def sp_vLst:List D → Option D := spOf (α := List Val) (fun a => [.slc (nz 4 (a.map valD)) (a.map valD) false]) (fun a => True) (fun a => valD (.list a))
theorem call_vLst (l:List Val):sp_vLst [.slc (nz 4 (l.map valD)) (l.map valD) false] = some (valD (.list l)) :=
 spOf_enc (fun a b h => by simp only [List.cons.injEq,D.slc.injEq,and_true,vals_iff] at h; simp [h]) (l) trivial
theorem w_vLst (l:List Val):@wW GG (tb [] []) F_tvm_list.code (argF [.slc (nz 4 (l.map valD)) (l.map valD) false]) [] ⟨retQ F_tvm_list.res (valD (.list l))⟩ := by
 unfold F_tvm_list
 rw [valD_list]
 simp (disch:=first|omega|decide) only [push_cast,↓reduceIte,Nat.reduceEqDiff,box_v0,fill_lst,st_val,ld_4]
 rfl
theorem c_vLst:Contract Tryd.prog GG 66 sp_vLst :=
 contract_of tr_tvm_list (tb_ok all_nil all_nil) (fun a h => w_vLst a)
noncomputable def sp_vHsh:List D → Option D := spOf (α := List UInt8 × Val) (fun a => [.str a.1,valD a.2]) (fun a => a.1.length ≤ 1000 ∧ depV a.2 ≤ 16 ∧ (encV a.2).length ≤ 4294967000) (fun a => digD (hashF a.1 a.2))
theorem call_vHsh (t:List UInt8) (v:Val) (h:t.length ≤ 1000 ∧ depV v ≤ 16 ∧ (encV v).length ≤ 4294967000):sp_vHsh [.str t,valD v] = some (digD (hashF t v)) :=
 spOf_enc (fun ⟨a0,a1⟩ ⟨b0,b1⟩ h => by simp only [List.cons.injEq,D.str.injEq,and_true,valD_iff] at h; simp [h]) (t,v) h
theorem w_vHsh (t:List UInt8) (v:Val) (h:t.length ≤ 1000 ∧ depV v ≤ 16 ∧ (encV v).length ≤ 4294967000):@wW GG (tb [(76,sp_Encode),(36,sp_tagged)] []) F_tvm_hashed.code (argF [.str t,valD v]) [] ⟨retQ F_tvm_hashed.res (digD (hashF t v))⟩ := by
 unfold F_tvm_hashed hashF
 have h1 := call_Encode v h.2
 have hl:(encF v).length ≤ 65536 := by
  unfold encF
  split
  ·assumption
  ·simp
 have h2 := call_tagged t (encF v) (by omega)
 obtain ⟨k,n,B,M,hC,hD⟩ := valC_form v
 rw [hD] at h1
 rw [hD]
 simp (disch:=first|omega|decide) only [push_cast,↓reduceIte,Nat.reduceEqDiff,box_v,ld_v,imm_v,keys_v,h1,bsO,h2]
theorem c_vHsh:Contract Tryd.prog GG 65 sp_vHsh :=
 contract_of tr_tvm_hashed (tb_ok (all_cons c_Encode (all_cons c_tagged all_nil)) all_nil) (fun a h => w_vHsh a.1 a.2 h)
theorem progF_snoc (c:List Ins) (x:Ins):progF (c ++ [x]) = progS (progF c) x := by unfold progF; rw [List.foldl_append]; rfl
theorem progS_ok (d:Dig) (x:Ins):tProg.length ≤ 1000 ∧ depV (.list [.int x.op,.int x.n,.int x.m,.bytes d.bs]) ≤ 16 ∧ (encV (.list [.int x.op,.int x.n,.int x.m,.bytes d.bs])).length ≤ 4294967000 := by
 have h1 := encI_len x.op
 have h2 := encI_len x.n
 have h3 := encI_len x.m
 have h4 := encD_len d
 refine ⟨by decide,by simp [depV,depVs],?_⟩
 rw [encV_list]
 simp only [List.length_cons,List.length_append,List.length_nil,List.flatMap_cons,List.flatMap_nil]
 omega
theorem lit_4 (a b c d:Val):litD 4 [valD a,valD b,valD c,valD d] = some (.slc 4 [valD a,valD b,valD c,valD d] true) := lit_vals [a,b,c,d] (by simp)
theorem lst_4 (a b c d:Val):sp_vLst [.slc 4 [valD a,valD b,valD c,valD d] false] = some (valD (.list [a,b,c,d])) := call_vLst [a,b,c,d]
theorem lit_2 (a b:Val):litD 4 [valD a,valD b] = some (.slc 4 [valD a,valD b] true) := lit_vals [a,b] (by simp)
theorem lst_2 (a b:Val):sp_vLst [.slc 4 [valD a,valD b] false] = some (valD (.list [a,b])) := call_vLst [a,b]
theorem lit_8 (a b c d e f g h:Val):litD 4 [valD a,valD b,valD c,valD d,valD e,valD f,valD g,valD h] = some (.slc 4 [valD a,valD b,valD c,valD d,valD e,valD f,valD g,valD h] true) := lit_vals [a,b,c,d,e,f,g,h] (by simp)
theorem lst_8 (a b c d e f g h:Val):sp_vLst [.slc 4 [valD a,valD b,valD c,valD d,valD e,valD f,valD g,valD h] false] = some (valD (.list [a,b,c,d,e,f,g,h])) := call_vLst [a,b,c,d,e,f,g,h]
noncomputable def sp_vPrg:List D → Option D := spOf (α := List Ins) (fun a => [.slc (nz 3 (a.map insD)) (a.map insD) false]) (fun a => a.length ≤ 4294967296) (fun a => digD (progF a))
theorem call_vPrg (c:List Ins) (h:c.length ≤ 4294967296):sp_vPrg [.slc (nz 3 (c.map insD)) (c.map insD) false] = some (digD (progF c)) :=
 spOf_enc (fun a b h => by simp only [List.cons.injEq,D.slc.injEq,and_true,code_iff] at h; simp [h]) (c) h
theorem w_vPrg (c:List Ins) (h:c.length ≤ 4294967296):@wW GG (tb [(70,sp_vNum),(67,sp_vByt),(66,sp_vLst),(65,sp_vHsh)] []) F_tvm_Program.code (argF [.slc (nz 3 (c.map insD)) (c.map insD) false]) [] ⟨retQ F_tvm_Program.res (digD (progF c))⟩ := by
 unfold F_tvm_Program
 simp (disch:=first|omega|decide) only [push_cast,↓reduceIte,Nat.reduceEqDiff]
 refine W_while (fun i:Nat => [(2,.ptr 0 0),(5,.slc (nz 3 (c.map insD)) (c.map insD) false),(6,.int .i64 (c.length:Int)),(7,.int .i64 (i:Int))])
  (fun i => [⟨false,1,digC (progF (c.take i)),false⟩]) (fun i => i ≤ c.length) (fun i => c.length - i) 0 (by simp only [push_cast,↓reduceIte,Nat.reduceEqDiff,Nat.reduceLT,Nat.reduceLeDiff,↓Int.reduceNatCast'] <;> rfl) (by omega) ?_
 intro i hi
 unfold F_tvm_Program_L0
 simp (disch:=first|omega|decide) only [push_cast,↓reduceIte,Nat.reduceEqDiff]
 refine ifD_split (fun h2 => ?_) (fun h2 => ?_)
 ·have hil:i < c.length := by omega
  have hx := idx_ins [⟨false,1,digC (progF (c.take i)),false⟩] c false i hil
  have hts := take_snoc c hil
  obtain ⟨x,hxe⟩:∃ x,c.getD i default = x := ⟨_,rfl⟩
  rw [hxe] at hx hts
  have hh := call_vHsh tProg (.list [.int x.op,.int x.n,.int x.m,.bytes (progF (c.take i)).bs]) (progS_ok _ _)
  simp only [tProg] at hh
  simp (disch:=first|omega|decide) only [push_cast,↓reduceIte,Nat.reduceEqDiff,Nat.reduceLT,Nat.reduceLeDiff,Nat.reduceAdd,hx,pld_ins,box_ins0,st_ins,ld_ins0,ld_ins1,ld_ins2,call_vNum,call_vByt,imm_val,keys_val,lit_4,lst_4,hh,add_i]
  refine next_head (i + 1) (by omega) (by omega) ?_
  rw [hts,progF_snoc]
  simp only [push_cast] <;> rfl
 ·obtain rfl:i = c.length := by omega
  rw [show (c.take c.length) = c from List.take_length]
  simp (disch:=first|omega|decide) only [push_cast,↓reduceIte,Nat.reduceEqDiff]
theorem c_vPrg:Contract Tryd.prog GG 68 sp_vPrg :=
 contract_of tr_tvm_Program (tb_ok (all_cons c_vNum (all_cons c_vByt (all_cons c_vLst (all_cons c_vHsh all_nil)))) all_nil) (fun a h => w_vPrg a h)
theorem ontoF_snoc (d:Dig) (l:List Int) (n:Int):ontoF d (l ++ [n]) = ontoS (ontoF d l) n := by unfold ontoF; rw [List.foldl_append]; rfl
theorem ontoF_app (d:Dig) (l m:List Int):ontoF d (l ++ m) = ontoF (ontoF d l) m := by unfold ontoF; rw [List.foldl_append]
theorem ontoS_ok (d:Dig) (n:Int):tStk.length ≤ 1000 ∧ depV (.list [.int n,.bytes d.bs]) ≤ 16 ∧ (encV (.list [.int n,.bytes d.bs])).length ≤ 4294967000 := by
 have h1 := encI_len n
 have h4 := encD_len d
 refine ⟨by decide,by simp [depV,depVs],?_⟩
 rw [encV_list]
 simp only [List.length_cons,List.length_append,List.length_nil,List.flatMap_cons,List.flatMap_nil]
 omega
noncomputable def sp_vOnto:List D → Option D := spOf (α := Dig × List Int) (fun a => [digD a.1,.slc (nz 1 (a.2.map nI)) (a.2.map nI) false]) (fun a => a.2.length ≤ 4294967296) (fun a => digD (ontoF a.1 a.2))
theorem call_vOnto (d:Dig) (l:List Int) (h:l.length ≤ 4294967296):sp_vOnto [digD d,.slc (nz 1 (l.map nI)) (l.map nI) false] = some (digD (ontoF d l)) :=
 spOf_enc (fun ⟨a0,a1⟩ ⟨b0,b1⟩ h => by simp only [List.cons.injEq,D.slc.injEq,dig_iff,and_true,ints_iff] at h; simp [h]) (d,l) h
theorem w_vOnto (d:Dig) (l:List Int) (h:l.length ≤ 4294967296):@wW GG (tb [(70,sp_vNum),(67,sp_vByt),(66,sp_vLst),(65,sp_vHsh)] []) F_tvm_onto.code (argF [digD d,.slc (nz 1 (l.map nI)) (l.map nI) false]) [] ⟨retQ F_tvm_onto.res (digD (ontoF d l))⟩ := by
 unfold F_tvm_onto
 simp (disch:=first|omega|decide) only [push_cast,↓reduceIte,Nat.reduceEqDiff]
 refine W_while (fun i:Nat => [(2,.ptr 0 0),(4,.ptr 1 0),(7,.slc (nz 1 (l.map nI)) (l.map nI) false),(8,.int .i64 (l.length:Int)),(9,.int .i64 (i:Int))])
  (fun i => [⟨false,1,digC (ontoF d (l.take i)),false⟩,⟨false,1,digC zeroDig,false⟩]) (fun i => i ≤ l.length) (fun i => l.length - i) 0 (by simp only [push_cast,↓reduceIte,Nat.reduceEqDiff,Nat.reduceLT,Nat.reduceLeDiff,Nat.reduceAdd,↓Int.reduceNatCast'] <;> rfl) (by omega) ?_
 intro i hi
 unfold F_tvm_onto_L0
 simp (disch:=first|omega|decide) only [push_cast,↓reduceIte,Nat.reduceEqDiff]
 refine ifD_split (fun h2 => ?_) (fun h2 => ?_)
 ·have hil:i < l.length := by omega
  have hx := idx_nI [⟨false,1,digC (ontoF d (l.take i)),false⟩,⟨false,1,digC zeroDig,false⟩] l false i hil
  have hts := take_snoc l hil
  obtain ⟨x,hxe⟩:∃ x,l.getD i default = x := ⟨_,rfl⟩
  rw [hxe] at hx hts
  have hh := call_vHsh tStk (.list [.int x,.bytes (ontoF d (l.take i)).bs]) (ontoS_ok _ _)
  simp only [tStk] at hh
  simp (disch:=first|omega|decide) only [push_cast,↓reduceIte,Nat.reduceEqDiff,Nat.reduceLT,Nat.reduceLeDiff,Nat.reduceAdd,hx,pld_nI,call_vNum,call_vByt,imm_val,keys_val,lit_2,lst_2,hh,add_i]
  refine next_head (i + 1) (by omega) (by omega) ?_
  rw [hts,ontoF_snoc]
  simp only [push_cast] <;> rfl
 ·obtain rfl:i = l.length := by omega
  rw [show (l.take l.length) = l from List.take_length]
  simp (disch:=first|omega|decide) only [push_cast,↓reduceIte,Nat.reduceEqDiff,Nat.reduceAdd]
theorem c_vOnto:Contract Tryd.prog GG 64 sp_vOnto :=
 contract_of tr_tvm_onto (tb_ok (all_cons c_vNum (all_cons c_vByt (all_cons c_vLst (all_cons c_vHsh all_nil)))) all_nil) (fun a h => w_vOnto a.1 a.2 h)
noncomputable def sp_vStk:List D → Option D := spOf (α := List Int) (fun a => [.slc (nz 1 (a.map nI)) (a.map nI) false]) (fun a => a.length ≤ 4294967296) (fun a => digD (ontoF zeroDig a))
theorem call_vStk (l:List Int) (h:l.length ≤ 4294967296):sp_vStk [.slc (nz 1 (l.map nI)) (l.map nI) false] = some (digD (ontoF zeroDig l)) :=
 spOf_enc (fun a b h => by simp only [List.cons.injEq,D.slc.injEq,and_true,ints_iff] at h; simp [h]) (l) h
theorem w_vStk (l:List Int) (h:l.length ≤ 4294967296):@wW GG (tb [(64,sp_vOnto)] []) F_tvm_Stack.code (argF [.slc (nz 1 (l.map nI)) (l.map nI) false]) [] ⟨retQ F_tvm_Stack.res (digD (ontoF zeroDig l))⟩ := by
 unfold F_tvm_Stack
 have hc := call_vOnto zeroDig l h
 simp (disch:=first|omega|decide) only [push_cast,↓reduceIte,Nat.reduceEqDiff,hc]
theorem c_vStk:Contract Tryd.prog GG 43 sp_vStk :=
 contract_of tr_tvm_Stack (tb_ok (all_cons c_vOnto all_nil) all_nil) (fun a h => w_vStk a h)
theorem inpF_ok (v:Int × List Int) (h:v.2.length = 16):tInp.length ≤ 1000 ∧ depV (.list [.int v.1,.list (v.2.map .int)]) ≤ 16 ∧ (encV (.list [.int v.1,.list (v.2.map .int)])).length ≤ 4294967000 := by
 have h1 := encI_len v.1
 have h4 := encLI_len v.2
 have hd:∀ l:List Int,depVs (l.map .int) = 0 := by
  intro l
  induction l with
  | nil => simp [depVs]
  | cons a l ih => simp [depVs,depV,ih]
 refine ⟨by decide,by simp [depV,depVs,hd],?_⟩
 rw [encV_list]
 simp only [List.length_cons,List.length_append,List.length_nil,List.flatMap_cons,List.flatMap_nil,encV_list]
 omega
theorem ints_cell (l:List Int):(l.map nI).all D.isCell = true := map_cells nI (fun _ => rfl) l
theorem ints_solid (l:List Int):(l.map nI).all solid1 = true := by
 rw [List.all_eq_true]
 intro x hx
 obtain ⟨n,_,rfl⟩ := List.mem_map.1 hx
 rfl
theorem evC_ints (v:Int × List Int):evC v = (v.1 :: v.2).map nI := (rfl)
theorem box_ev (v:Int × List Int):boxD (evD v) = some (evC v) := by
 rw [show boxD (evD v) = if (evC v).all D.isCell then some (evC v) else none from rfl,evC_ints,if_pos (ints_cell _)]
theorem imm_ev (st:St) (v:Int × List Int):imm st (evD v) = some (evD v) := solid_imm st (ints_solid (v.1 :: v.2))
theorem keys_ev (v:Int × List Int):keys (evD v) = [] := solid_keys (ints_solid (v.1 :: v.2))
theorem hkC_ev (v:Int × List Int):(evC v).flatMap hk = [] := hkB_solid (ints_solid (v.1 :: v.2))
theorem renC_ev (m:Nat) (σ:List Nat) (v:Int × List Int):(evC v).map (ren m σ) = evC v := renB_solid m σ (ints_solid (v.1 :: v.2))
theorem ld_ev {v:Int × List Int} (h:v.2.length = 16) (sz:Nat) (lent:Bool):ldO (some ⟨false,sz,evC v,lent⟩) 17 true 0 = some (evD v) := ldO_all sz lent _ 17 (by simp [evC,h])
theorem ld_ev0 (v:Int × List Int) (sz:Nat) (lent:Bool):ldO (some ⟨false,sz,evC v,lent⟩) 1 false 0 = some (.int .i64 v.1) := ldO_mid1 (A := []) (C := v.2.map nI) rfl rfl
theorem ld_ev1 {v:Int × List Int} (h:v.2.length = 16) (sz:Nat) (lent:Bool):ldO (some ⟨false,sz,evC v,lent⟩) 16 true 1 = some (.agg (v.2.map nI)) := ldO_mid (A := [.int .i64 v.1]) (B := v.2.map nI) (C := []) (by simp [evC]) rfl (by simp [h])
theorem idxV_nI (l:List Int) (i:Nat) (h:i < l.length):pidxV l.length 1 false (.agg (l.map nI)) (.int .i64 (i:Int)) = some (nI (l.getD i default)) := by
 have h1:natOf (.int .i64 (i:Int)) = some i := by simp [natOf]
 simp only [pidxV,h1,if_pos h,Nat.mul_one]
 refine fldv_mid1 (A := (l.take i).map nI) (C := (l.drop (i + 1)).map nI) ?_ (by simp; omega)
 rw [← List.map_cons,← List.map_append]
 congr 1
 have:l = l.take i ++ l.drop i := (List.take_append_drop _ _).symm
 rw [List.drop_eq_getElem_cons h] at this
 rw [List.getD_eq_getElem?_getD,List.getElem?_eq_getElem h]
 exact this
theorem lit_1v (a:Val):litD 4 [valD a] = some (.slc 4 [valD a] true) := lit_vals [a] (by simp)
theorem hk_ints (l:List Int):hk (.agg (l.map nI)) = [] := solid_hk (ints_solid l)
theorem ren_ints (m:Nat) (σ:List Nat) (l:List Int):ren m σ (.agg (l.map nI)) = .agg (l.map nI) := solid_ren m σ (ints_solid l)
noncomputable def sp_vInp:List D → Option D := spOf (α := (Int × List Int)) (fun a => [evD a]) (fun a => a.2.length = 16) (fun a => digD (inpF a))
theorem call_vInp (v:Int × List Int) (h:v.2.length = 16):sp_vInp [evD v] = some (digD (inpF v)) :=
 spOf_enc (fun a b h => by simp only [List.cons.injEq,and_true,evD_iff] at h; simp [h]) (v) h
theorem w_vInp (v:Int × List Int) (h:v.2.length = 16):@wW GG (tb [(70,sp_vNum),(66,sp_vLst),(65,sp_vHsh)] []) F_tvm_Inputs.code (argF [evD v]) [] ⟨retQ F_tvm_Inputs.res (digD (inpF v))⟩ := by
 unfold F_tvm_Inputs
 have hh := call_vHsh tInp (.list [.int v.1,.list (v.2.map .int)]) (inpF_ok v h)
 simp only [tInp] at hh
 simp (disch:=first|omega|decide) only [push_cast,↓reduceIte,Nat.reduceEqDiff,box_ev,ld_ev1 h]
 refine W_while (fun i:Nat => [(1,.ptr 0 0),(2,.ptr 1 0),(3,bufD 0 2 ((v.2.take i).map (valD ∘ Val.int))),(7,.agg (v.2.map nI)),(8,.int .i64 (i:Int))])
  (fun i => ⟨false,1,evC v,false⟩ :: ⟨false,1,digC zeroDig,false⟩ :: bufS 4 ((v.2.take i).map (valD ∘ Val.int))) (fun i => i ≤ 16) (fun i => 16 - i) 0 (by simp only [push_cast,↓reduceIte,Nat.reduceEqDiff,Nat.reduceLT,Nat.reduceLeDiff,Nat.reduceAdd,↓Int.reduceNatCast',hkC_ev,renC_ev,hk_ints,ren_ints] <;> rfl) (by omega) ?_
 intro i hi
 unfold F_tvm_Inputs_L0
 simp (disch:=first|omega|decide) only [push_cast,↓reduceIte,Nat.reduceEqDiff]
 refine ifD_split (fun h2 => ?_) (fun h2 => ?_)
 ·have hil:i < v.2.length := by omega
  have hx := idxV_nI v.2 i hil
  rw [h] at hx
  have hts := take_snoc v.2 hil
  obtain ⟨x,hxe⟩:∃ x,v.2.getD i default = x := ⟨_,rfl⟩
  rw [hxe,show nI x = .int .i64 x from rfl] at hx
  rw [hxe] at hts
  have happ := papp_o2 (f := valD ∘ Val.int) (sz := 4) (sz0 := 0) (bytes := 64) (A := v.2.take i) (x := x) (t := true) (a := ⟨false,1,evC v,false⟩) (b := ⟨false,1,digC zeroDig,false⟩) (hs0 := by decide) (hb := by rw [List.length_take]; omega) (hl := by rw [List.length_take]; omega)
  simp only [Function.comp_apply] at happ
  simp (disch:=first|omega|decide) only [push_cast,↓reduceIte,Nat.reduceEqDiff,Nat.reduceLT,Nat.reduceLeDiff,Nat.reduceAdd,hx,call_vNum,imm_val,keys_val,lit_1v,happ,add_i]
  refine next_head (i + 1) (by omega) (by omega) ?_
  rw [hts]
  simp only [push_cast,hkC_ev,renC_ev,hk_ints,ren_ints] <;> rfl
 ·obtain rfl:i = 16 := by omega
  rw [show (v.2.take 16) = v.2 from List.take_of_length_le (by omega)]
  have hb:imm (⟨false,1,evC v,false⟩ :: ⟨false,1,digC zeroDig,false⟩ :: bufS 4 (v.2.map (valD ∘ Val.int))) (bufD 0 2 (v.2.map (valD ∘ Val.int))) = some (.slc (nz 4 (v.2.map (valD ∘ Val.int))) (v.2.map (valD ∘ Val.int)) false) := imm_b2 _ _ 4 0 _
  have hl := call_vLst (v.2.map Val.int)
  rw [List.map_map] at hl
  have hne:v.2.map (valD ∘ Val.int) ≠ [] := by
   intro e
   have := congrArg List.length e
   simp [h] at this
  rw [bufD_ne _ _ _ hne,bufS_ne _ _ hne] at hb
  simp (disch:=first|omega|decide) only [push_cast,↓reduceIte,Nat.reduceEqDiff,Nat.reduceAdd,Int.reduceLT,↓Int.reduceNatCast',bufD_ne _ _ _ hne,bufS_ne _ _ hne,noRef_val,ld_ev0,call_vNum,imm_val,keys_val,hl,lit_2,lst_2,hh]
  rfl
theorem c_vInp:Contract Tryd.prog GG 69 sp_vInp :=
 contract_of tr_tvm_Inputs (tb_ok (all_cons c_vNum (all_cons c_vLst (all_cons c_vHsh all_nil))) all_nil) (fun a h => w_vInp a h)
end Go.Proofs.YtlleccmnjpcogaaDoor.PI
namespace Go.Proofs.YtlleccmnjpcogaaDoor.PI
open Go
set_option linter.unusedSimpArgs false
set_option maxHeartbeats 8000000
set_option maxRecDepth 20000
set_option linter.unusedVariables false
theorem sl_lo (st:St) {sz:Nat} (h0:sz ≠ 0) (els:List D) (t:Bool) {k:Nat} (h:k ≤ els.length):pslice st sz (.slc (nz sz els) els t) (some (.int .i64 (k:Int))) none none = some (.slc (nz sz els) (els.drop k) t) := by
 have h1:((nz sz els == sz || els.isEmpty) && sz != 0) = true := by
  cases els <;> simp [nz,h0]
 have h2:natOf (.int .i64 (k:Int)) = some k := by simp [natOf]
 simp only [pslice,h1,if_true,bnd,h2]
 rw [if_pos ⟨h,Nat.le_refl _⟩,List.take_length,beq_self_eq_true,Bool.and_true]
theorem sl_hi (st:St) {sz:Nat} (h0:sz ≠ 0) (els:List D) (t:Bool) {k:Nat} (h:k ≤ els.length):pslice st sz (.slc (nz sz els) els t) none (some (.int .i64 (k:Int))) none = some (.slc (nz sz els) (els.take k) (t && k == els.length)) := by
 have h1:((nz sz els == sz || els.isEmpty) && sz != 0) = true := by
  cases els <;> simp [nz,h0]
 have h2:bnd (some (.int .i64 (k:Int))) els.length = some k := by simp [bnd,natOf]
 simp only [pslice,h1,if_true,h2]
 simp only [bnd]
 rw [if_pos ⟨Nat.zero_le _,h⟩,List.drop_zero]
theorem sl_hh (st:St) {sz:Nat} (h0:sz ≠ 0) (els:List D) (t:Bool) {k:Nat} (h:k ≤ els.length):pslice st sz (.slc (nz sz els) els t) none (some (.int .i64 (k:Int))) (some (.int .i64 (k:Int))) = some (.slc (nz sz els) (els.take k) true) := by
 have h1:((nz sz els == sz || els.isEmpty) && sz != 0) = true := by
  cases els <;> simp [nz,h0]
 have h2:bnd (some (.int .i64 (k:Int))) els.length = some k := by simp [bnd,natOf]
 have h3:natOf (.int .i64 (k:Int)) = some k := by simp [natOf]
 simp only [pslice,h1,if_true,h2,h3]
 simp only [bnd]
 rw [if_pos (by simp [h]),List.drop_zero]
theorem sta_cell (s:Sta):(staC s).all D.isCell = true := (rfl)
theorem box_sta (s:Sta):boxD (staD s) = some (staC s) := (rfl)
theorem box_sta0:boxD (.agg [.int .i64 0,.int .i64 0,.int .i64 0,.int .i64 0,.slc 0 [] true]) = some [.int .i64 0,.int .i64 0,.int .i64 0,.int .i64 0,.slc 0 [] true] := (rfl)
theorem imm_sta (st:St) (s:Sta):imm st (staD s) = some (staD s) := by
 simp only [staD,staC,intsO,imm,immL,imm1,nz_nz]
 rfl
theorem keys_sta (s:Sta):keys (staD s) = [] := (rfl)
theorem ld_sta0 (lent:Bool) (s:Sta):ldO (some ⟨false,1,staC s,lent⟩) 1 false 0 = some (.int .i64 s.pc) := (rfl)
theorem ld_sta1 (lent:Bool) (s:Sta):ldO (some ⟨false,1,staC s,lent⟩) 1 false 1 = some (.int .i64 s.fuel) := (rfl)
theorem ld_sta2 (lent:Bool) (s:Sta):ldO (some ⟨false,1,staC s,lent⟩) 1 false 2 = some (.int .i64 s.status) := (rfl)
theorem ld_sta3 (lent:Bool) (s:Sta):ldO (some ⟨false,1,staC s,lent⟩) 1 false 3 = some (.int .i64 s.clause) := (rfl)
theorem ld_sta4 (lent:Bool) (s:Sta):ldO (some ⟨false,1,staC s,lent⟩) 1 false 4 = some (intsO s.stack) := (rfl)
theorem ld_sta (lent:Bool) (s:Sta):ldO (some ⟨false,1,staC s,lent⟩) 5 true 0 = some (staD s) := (rfl)
theorem st_sta0 (s:Sta):stO (some ⟨false,1,[.int .i64 0,.int .i64 0,.int .i64 0,.int .i64 0,.slc 0 [] true],false⟩) 5 0 (staD s) = some ⟨false,1,staC s,false⟩ := (rfl)
theorem st_sta (s s':Sta):stO (some ⟨false,1,staC s,false⟩) 5 0 (staD s') = some ⟨false,1,staC s',false⟩ := (rfl)
theorem ints_eq (l:List Int):intsO l = .slc (nz 1 (l.map nI)) (l.map nI) false := (rfl)
def opC (a b c d:Int) (t:D) (k:Int) (r:Dig):List D := .int .i64 a :: .int .i64 b :: .int .i64 c :: .int .i64 d :: t :: .int .i64 k :: digC r
theorem opn_eq (o:Opn):opnC o = opC o.pc o.fuel o.status o.clause (intsO o.top) o.depth o.rest := (rfl)
theorem opC_length (a b c d:Int) (t:D) (k:Int) (r:Dig):(opC a b c d t k r).length = 38 := by simp [opC,digC_length]
theorem opC_cell (a b c d:Int) {t:D} (ht:t.isCell = true) (k:Int) (r:Dig):(opC a b c d t k r).all D.isCell = true := by
 simp only [opC,List.all_cons,ht,isCell_int,Bool.true_and]
 exact digC_all (fun _ => rfl) r
theorem opn0_eq:(D.int .i64 0 :: .int .i64 0 :: .int .i64 0 :: .int .i64 0 :: .slc 0 [] true :: .int .i64 0 :: digC zeroDig) = opC 0 0 0 0 (.slc 0 [] true) 0 zeroDig := (rfl)
theorem box_op (a b c d:Int) {t:D} (ht:t.isCell = true) (k:Int) (r:Dig):boxD (.agg (opC a b c d t k r)) = some (opC a b c d t k r) := by
 rw [show boxD (.agg (opC a b c d t k r)) = if (opC a b c d t k r).all D.isCell then some (opC a b c d t k r) else none from rfl,if_pos (opC_cell a b c d ht k r)]
theorem box_opn (o:Opn):boxD (opnD o) = some (opnC o) := by
 rw [opnD,opn_eq,box_op _ _ _ _ rfl]
theorem st_op (a b c d a' b' c' d':Int) (t:D) {t':D} (ht:t'.isCell = true) (k k':Int) (r r':Dig):stO (some ⟨false,1,opC a b c d t k r,false⟩) 38 0 (.agg (opC a' b' c' d' t' k' r')) = some ⟨false,1,opC a' b' c' d' t' k' r',false⟩ :=
 stO_all 1 _ _ 38 (opC_length ..) (opC_length ..) (opC_cell _ _ _ _ ht _ _)
theorem ld_op (lent:Bool) (a b c d:Int) (t:D) (k:Int) (r:Dig):ldO (some ⟨false,1,opC a b c d t k r,lent⟩) 38 true 0 = some (.agg (opC a b c d t k r)) := ldO_all 1 lent _ 38 (opC_length ..)
theorem ld_op0 (lent:Bool) (a b c d:Int) (t:D) (k:Int) (r:Dig):ldO (some ⟨false,1,opC a b c d t k r,lent⟩) 1 false 0 = some (.int .i64 a) := ldO_mid1 (A := []) rfl rfl
theorem ld_op1 (lent:Bool) (a b c d:Int) (t:D) (k:Int) (r:Dig):ldO (some ⟨false,1,opC a b c d t k r,lent⟩) 1 false 1 = some (.int .i64 b) := ldO_mid1 (A := [.int .i64 a]) rfl rfl
theorem ld_op2 (lent:Bool) (a b c d:Int) (t:D) (k:Int) (r:Dig):ldO (some ⟨false,1,opC a b c d t k r,lent⟩) 1 false 2 = some (.int .i64 c) := ldO_mid1 (A := [.int .i64 a,.int .i64 b]) rfl rfl
theorem ld_op3 (lent:Bool) (a b c d:Int) (t:D) (k:Int) (r:Dig):ldO (some ⟨false,1,opC a b c d t k r,lent⟩) 1 false 3 = some (.int .i64 d) := ldO_mid1 (A := [.int .i64 a,.int .i64 b,.int .i64 c]) rfl rfl
theorem ld_op4 (lent:Bool) (a b c d:Int) (t:D) (k:Int) (r:Dig):ldO (some ⟨false,1,opC a b c d t k r,lent⟩) 1 false 4 = some t := ldO_mid1 (A := [.int .i64 a,.int .i64 b,.int .i64 c,.int .i64 d]) rfl rfl
theorem ld_op5 (lent:Bool) (a b c d:Int) (t:D) (k:Int) (r:Dig):ldO (some ⟨false,1,opC a b c d t k r,lent⟩) 1 false 5 = some (.int .i64 k) := ldO_mid1 (A := [.int .i64 a,.int .i64 b,.int .i64 c,.int .i64 d,t]) rfl rfl
theorem ld_op6 (lent:Bool) (a b c d:Int) (t:D) (k:Int) (r:Dig):ldO (some ⟨false,1,opC a b c d t k r,lent⟩) 32 true 6 = some (digD r) := ldO_mid (A := [.int .i64 a,.int .i64 b,.int .i64 c,.int .i64 d,t,.int .i64 k]) (B := digC r) (C := []) (by simp [opC]) rfl (digC_length r)
theorem fill_op (a b c d:Int) {t:D} (ht:t.cells = [t]) (hc:t.isCell = true) (k:Int) (r:Dig):fillD (opC 0 0 0 0 (.slc 0 [] true) 0 zeroDig) [(0,1,.int .i64 a),(1,1,.int .i64 b),(2,1,.int .i64 c),(3,1,.int .i64 d),(4,1,t),(5,1,.int .i64 k),(6,32,digD r)] = some (opC a b c d t k r) := by
 refine (fill_mid (cs := opC 0 0 0 0 (.slc 0 [] true) 0 zeroDig) (cs' := opC a 0 0 0 (.slc 0 [] true) 0 zeroDig) (A := []) (B := [.int .i64 0]) (xs := [.int .i64 a]) rfl rfl rfl rfl rfl rfl rfl).trans ?_
 refine (fill_mid (cs := opC a 0 0 0 (.slc 0 [] true) 0 zeroDig) (cs' := opC a b 0 0 (.slc 0 [] true) 0 zeroDig) (A := [.int .i64 a]) (B := [.int .i64 0]) (xs := [.int .i64 b]) rfl rfl rfl rfl rfl rfl rfl).trans ?_
 refine (fill_mid (cs := opC a b 0 0 (.slc 0 [] true) 0 zeroDig) (cs' := opC a b c 0 (.slc 0 [] true) 0 zeroDig) (A := [.int .i64 a,.int .i64 b]) (B := [.int .i64 0]) (xs := [.int .i64 c]) rfl rfl rfl rfl rfl rfl rfl).trans ?_
 refine (fill_mid (cs := opC a b c 0 (.slc 0 [] true) 0 zeroDig) (cs' := opC a b c d (.slc 0 [] true) 0 zeroDig) (A := [.int .i64 a,.int .i64 b,.int .i64 c]) (B := [.int .i64 0]) (xs := [.int .i64 d]) rfl rfl rfl rfl rfl rfl rfl).trans ?_
 refine (fill_mid (cs := opC a b c d (.slc 0 [] true) 0 zeroDig) (cs' := opC a b c d t 0 zeroDig) (A := [.int .i64 a,.int .i64 b,.int .i64 c,.int .i64 d]) (B := [.slc 0 [] true]) (xs := [t]) rfl rfl rfl rfl ht rfl (by simp [hc])).trans ?_
 refine (fill_mid (cs := opC a b c d t 0 zeroDig) (cs' := opC a b c d t k zeroDig) (A := [.int .i64 a,.int .i64 b,.int .i64 c,.int .i64 d,t]) (B := [.int .i64 0]) (xs := [.int .i64 k]) rfl rfl rfl rfl rfl rfl rfl).trans ?_
 refine (fill_mid (cs := opC a b c d t k zeroDig) (cs' := opC a b c d t k r) (A := [.int .i64 a,.int .i64 b,.int .i64 c,.int .i64 d,t,.int .i64 k]) (B := digC zeroDig) (C := []) (xs := digC r) (by simp [opC]) (by simp [opC]) rfl (digC_length _) rfl (digC_length _) (digC_all (fun _ => rfl) r)).trans ?_
 rfl
theorem fill_opS (a b c d:Int) (sz:Nat) (els:List D) (tt:Bool) (k:Int) (r:Dig):fillD (opC 0 0 0 0 (.slc 0 [] true) 0 zeroDig) [(0,1,.int .i64 a),(1,1,.int .i64 b),(2,1,.int .i64 c),(3,1,.int .i64 d),(4,1,.slc sz els tt),(5,1,.int .i64 k),(6,32,digD r)] = some (opC a b c d (.slc sz els tt) k r) := fill_op a b c d rfl rfl k r
theorem box_opS (a b c d:Int) (sz:Nat) (els:List D) (tt:Bool) (k:Int) (r:Dig):boxD (.agg (opC a b c d (.slc sz els tt) k r)) = some (opC a b c d (.slc sz els tt) k r) := box_op a b c d rfl k r
theorem st_opS (a b c d a' b' c' d':Int) (t:D) (sz:Nat) (els:List D) (tt:Bool) (k k':Int) (r r':Dig):stO (some ⟨false,1,opC a b c d t k r,false⟩) 38 0 (.agg (opC a' b' c' d' (.slc sz els tt) k' r')) = some ⟨false,1,opC a' b' c' d' (.slc sz els tt) k' r',false⟩ := st_op a b c d a' b' c' d' t rfl k k' r r'
theorem imm_op (st:St) (a b c d:Int) (sz:Nat) (els:List D) (tt:Bool) (k:Int) (r:Dig):imm st (.agg (opC a b c d (.slc sz els tt) k r)) = some (.agg (opC a b c d (.slc (nz sz els) els false) k r)) := by
 simp only [opC,imm,immL_cons,imm1_int,imm1_slc,immL_dig,Option.bind_some,Option.map_some]
theorem imm_opn (st:St) (o:Opn):imm st (opnD o) = some (opnD o) := by
 rw [opnD,opn_eq,ints_eq,imm_op,nz_nz]
theorem keys_opn (o:Opn):keys (opnD o) = [] := by
 simp only [opnD,opnC,keys,List.flatMap_cons]
 show [] ++ ([] ++ ([] ++ ([] ++ ([] ++ ([] ++ _))))) = []
 have:(digC o.rest).flatMap key1 = [] := keys_dig o.rest
 rw [this]
 rfl
theorem wholeF_ok (c:List Ins) (v:Int × List Int) (o:Opn):tSta.length ≤ 1000 ∧ depV (.list [.bytes (progF c).bs,.bytes (inpF v).bs,.int o.pc,.int o.fuel,.int o.status,.int o.clause,.int (o.depth + o.top.length),.bytes (ontoF o.rest o.top).bs]) ≤ 16 ∧
  (encV (.list [.bytes (progF c).bs,.bytes (inpF v).bs,.int o.pc,.int o.fuel,.int o.status,.int o.clause,.int (o.depth + o.top.length),.bytes (ontoF o.rest o.top).bs])).length ≤ 4294967000 := by
 have h1 := encD_len (progF c)
 have h2 := encD_len (inpF v)
 have h3 := encD_len (ontoF o.rest o.top)
 have h4 := encI_len o.pc
 have h5 := encI_len o.fuel
 have h6 := encI_len o.status
 have h7 := encI_len o.clause
 have h8 := encI_len (o.depth + o.top.length)
 refine ⟨by decide,by simp [depV,depVs],?_⟩
 rw [encV_list]
 simp only [List.length_cons,List.length_append,List.length_nil,List.flatMap_cons,List.flatMap_nil]
 omega
noncomputable def sp_vWho:List D → Option D := spOf (α := List Ins × (Int × List Int) × Opn) (fun a => [.slc (nz 3 (a.1.map insD)) (a.1.map insD) false,evD a.2.1,opnD a.2.2]) (fun a => a.1.length ≤ 4294967296 ∧ a.2.1.2.length = 16 ∧ a.2.2.top.length ≤ 4294967296 ∧ 0 ≤ a.2.2.depth ∧ a.2.2.depth ≤ 4294967296) (fun a => digD (wholeF a.1 a.2.1 a.2.2))
theorem call_vWho (c:List Ins) (v:Int × List Int) (o:Opn) (h:c.length ≤ 4294967296 ∧ v.2.length = 16 ∧ o.top.length ≤ 4294967296 ∧ 0 ≤ o.depth ∧ o.depth ≤ 4294967296):sp_vWho [.slc (nz 3 (c.map insD)) (c.map insD) false,evD v,opnD o] = some (digD (wholeF c v o)) :=
 spOf_enc (fun ⟨a0,a1,a2⟩ ⟨b0,b1,b2⟩ h => by simp only [List.cons.injEq,D.slc.injEq,and_true,code_iff,opnD_iff,evD_iff] at h; simp [h]) (c,v,o) h
theorem w_vWho (c:List Ins) (v:Int × List Int) (o:Opn) (h:c.length ≤ 4294967296 ∧ v.2.length = 16 ∧ o.top.length ≤ 4294967296 ∧ 0 ≤ o.depth ∧ o.depth ≤ 4294967296):@wW GG (tb [(68,sp_vPrg),(69,sp_vInp),(64,sp_vOnto),(70,sp_vNum),(67,sp_vByt),(66,sp_vLst),(65,sp_vHsh)] []) F_tvm_whole.code (argF [.slc (nz 3 (c.map insD)) (c.map insD) false,evD v,opnD o]) [] ⟨retQ F_tvm_whole.res (digD (wholeF c v o))⟩ := by
 obtain ⟨hc,hv,ht,hd0,hd1⟩ := h
 unfold F_tvm_whole
 have hh := call_vHsh tSta _ (wholeF_ok c v o)
 simp only [tSta] at hh
 have h1 := call_vPrg c hc
 have h2 := call_vInp v hv
 have h3 := call_vOnto o.rest o.top ht
 simp (disch:=first|omega|decide) only [push_cast,↓reduceIte,Nat.reduceEqDiff,Nat.reduceAdd,box_ev,box_opn,opn_eq,ints_eq,ld_ev hv,imm_ev,ld_op0,ld_op1,ld_op2,ld_op3,ld_op4,ld_op5,ld_op6,h1,h2,h3,call_vNum,call_vByt,imm_val,keys_val,add_i,lit_8,lst_8,hh]
 rfl
theorem c_vWho:Contract Tryd.prog GG 45 sp_vWho :=
 contract_of tr_tvm_whole (tb_ok (all_cons c_vPrg (all_cons c_vInp (all_cons c_vOnto (all_cons c_vNum (all_cons c_vByt (all_cons c_vLst (all_cons c_vHsh all_nil))))))) all_nil) (fun a h => w_vWho a.1 a.2.1 a.2.2 h)
theorem sl_loI (st:St) (l:List Int) (t:Bool) {k:Nat} (h:k ≤ l.length):pslice st 1 (.slc (nz 1 (l.map nI)) (l.map nI) t) (some (.int .i64 (k:Int))) none none = some (.slc (nz 1 (l.map nI)) ((l.drop k).map nI) t) := by
 rw [sl_lo st (by decide) (l.map nI) t (by simpa using h),List.map_drop]
theorem sl_hiI (st:St) (l:List Int) {k:Nat} (h:k ≤ l.length):pslice st 1 (.slc (nz 1 (l.map nI)) (l.map nI) false) none (some (.int .i64 (k:Int))) none = some (.slc (nz 1 (l.map nI)) ((l.take k).map nI) false) := by
 rw [sl_hi st (by decide) (l.map nI) false (by simpa using h),List.map_take]; rfl
theorem sl_hhI (st:St) (l:List Int) (t:Bool) {k:Nat} (h:k ≤ l.length):pslice st 1 (.slc (nz 1 (l.map nI)) (l.map nI) t) none (some (.int .i64 (k:Int))) (some (.int .i64 (k:Int))) = some (.slc (nz 1 (l.map nI)) ((l.take k).map nI) true) := by
 rw [sl_hh st (by decide) (l.map nI) t (by simpa using h),List.map_take]
theorem openK_le (s:Sta) (n:Int):openK s n ≤ s.stack.length := Nat.sub_le _ _
theorem openK_eq (s:Sta) (n:Int):(s.stack.length:Int) - min (max n 0) (s.stack.length:Int) = (openK s n:Int) := by unfold openK; omega
noncomputable def sp_vOpen:List D → Option D := spOf (α := Sta × Int) (fun a => [staD a.1,.int .i64 a.2]) (fun a => a.1.stack.length ≤ 4294967296) (fun a => opnD (openF a.1 a.2))
theorem call_vOpen (s:Sta) (n:Int) (h:s.stack.length ≤ 4294967296):sp_vOpen [staD s,.int .i64 n] = some (opnD (openF s n)) :=
 spOf_enc (fun ⟨a0,a1⟩ ⟨b0,b1⟩ h => by simp only [List.cons.injEq,D.int.injEq,true_and,and_true,staD_iff] at h; simp [h]) (s,n) h
theorem w_vOpen (s:Sta) (n:Int) (h:s.stack.length ≤ 4294967296):@wW GG (tb [(43,sp_vStk)] []) F_tvm_Open.code (argF [staD s,.int .i64 n]) [] ⟨retQ F_tvm_Open.res (opnD (openF s n))⟩ := by
 unfold F_tvm_Open
 have hk := openK_le s n
 have hs := call_vStk (s.stack.take (openK s n)) (by rw [List.length_take]; omega)
 have hm1:min (max n 0) (s.stack.length:Int) ≤ s.stack.length := Int.min_le_right _ _
 have hm2:0 ≤ min (max n 0) (s.stack.length:Int) := by omega
 simp (disch:=first|omega|decide) only [push_cast,↓reduceIte,Nat.reduceEqDiff,box_sta,opn0_eq,box_opS,ld_sta0,ld_sta1,ld_sta2,ld_sta3,ld_sta4,ints_eq,sub_i,openK_eq,sl_loI,sl_hiI,hs,fill_opS,st_opS,ld_op,imm_op,nz_drop,nz_take]
 rfl
theorem c_vOpen:Contract Tryd.prog GG 18 sp_vOpen :=
 contract_of tr_tvm_Open (tb_ok (all_cons c_vStk all_nil) all_nil) (fun a h => w_vOpen a.1 a.2 h)
noncomputable def sp_vDig:List D → Option D := spOf (α := List Ins × (Int × List Int) × Sta) (fun a => [.slc (nz 3 (a.1.map insD)) (a.1.map insD) false,evD a.2.1,staD a.2.2]) (fun a => a.1.length ≤ 4294967296 ∧ a.2.1.2.length = 16 ∧ a.2.2.stack.length ≤ 4294967296) (fun a => digD (digF a.1 a.2.1 a.2.2))
theorem call_vDig (c:List Ins) (v:Int × List Int) (s:Sta) (h:c.length ≤ 4294967296 ∧ v.2.length = 16 ∧ s.stack.length ≤ 4294967296):sp_vDig [.slc (nz 3 (c.map insD)) (c.map insD) false,evD v,staD s] = some (digD (digF c v s)) :=
 spOf_enc (fun ⟨a0,a1,a2⟩ ⟨b0,b1,b2⟩ h => by simp only [List.cons.injEq,D.slc.injEq,and_true,code_iff,staD_iff,evD_iff] at h; simp [h]) (c,v,s) h
theorem w_vDig (c:List Ins) (v:Int × List Int) (s:Sta) (h:c.length ≤ 4294967296 ∧ v.2.length = 16 ∧ s.stack.length ≤ 4294967296):@wW GG (tb [(18,sp_vOpen),(45,sp_vWho)] []) F_tvm_Digest.code (argF [.slc (nz 3 (c.map insD)) (c.map insD) false,evD v,staD s]) [] ⟨retQ F_tvm_Digest.res (digD (digF c v s))⟩ := by
 obtain ⟨hc,hv,hs⟩ := h
 unfold F_tvm_Digest
 have ho := call_vOpen s s.stack.length hs
 have hk:openK s s.stack.length = 0 := by unfold openK; omega
 have hw := call_vWho c v (openF s s.stack.length) ⟨hc,hv,by simp only [openF,List.length_drop]; omega,by simp only [openF,hk]; omega,by simp only [openF,hk]; omega⟩
 simp (disch:=first|omega|decide) only [push_cast,↓reduceIte,Nat.reduceEqDiff,Nat.reduceAdd,box_ev,ld_ev hv,imm_ev,box_sta,ld_sta,ld_sta4,ints_eq,imm_sta,keys_sta,ho,imm_opn,hw]
 rfl
theorem c_vDig:Contract Tryd.prog GG 22 sp_vDig :=
 contract_of tr_tvm_Digest (tb_ok (all_cons c_vOpen (all_cons c_vWho all_nil)) all_nil) (fun a h => w_vDig a.1 a.2.1 a.2.2 h)
theorem closeF_in {c:List Ins} {v:Int × List Int} {o:Opn} (h0:0 ≤ o.depth) (h1:o.depth ≤ 64):closeF c v o = wholeF c v o := if_neg (by omega)
theorem closeF_lo {c:List Ins} {v:Int × List Int} {o:Opn} (h0:o.depth < 0):closeF c v o = zeroDig := if_pos (.inl h0)
theorem closeF_hi {c:List Ins} {v:Int × List Int} {o:Opn} (h0:64 < o.depth):closeF c v o = zeroDig := if_pos (.inr h0)
noncomputable def sp_vCls:List D → Option D := spOf (α := List Ins × (Int × List Int) × Opn) (fun a => [.slc (nz 3 (a.1.map insD)) (a.1.map insD) false,evD a.2.1,opnD a.2.2]) (fun a => a.1.length ≤ 4294967296 ∧ a.2.1.2.length = 16 ∧ a.2.2.top.length ≤ 4294967296) (fun a => digD (closeF a.1 a.2.1 a.2.2))
theorem call_vCls (c:List Ins) (v:Int × List Int) (o:Opn) (h:c.length ≤ 4294967296 ∧ v.2.length = 16 ∧ o.top.length ≤ 4294967296):sp_vCls [.slc (nz 3 (c.map insD)) (c.map insD) false,evD v,opnD o] = some (digD (closeF c v o)) :=
 spOf_enc (fun ⟨a0,a1,a2⟩ ⟨b0,b1,b2⟩ h => by simp only [List.cons.injEq,D.slc.injEq,and_true,code_iff,opnD_iff,evD_iff] at h; simp [h]) (c,v,o) h
theorem w_vCls (c:List Ins) (v:Int × List Int) (o:Opn) (h:c.length ≤ 4294967296 ∧ v.2.length = 16 ∧ o.top.length ≤ 4294967296):@wW GG (tb [(45,sp_vWho)] []) F_tvm_Close.code (argF [.slc (nz 3 (c.map insD)) (c.map insD) false,evD v,opnD o]) [] ⟨retQ F_tvm_Close.res (digD (closeF c v o))⟩ := by
 obtain ⟨hc,hv,ht⟩ := h
 unfold F_tvm_Close
 by_cases h0:o.depth < 0
 ·rw [closeF_lo h0]
  simp (disch:=first|omega|decide) only [push_cast,↓reduceIte,Nat.reduceEqDiff,Nat.reduceAdd,box_ev,box_opn,opn_eq,ld_op5,h0]
 ·by_cases h1:64 < o.depth
  ·rw [closeF_hi h1]
   simp (disch:=first|omega|decide) only [push_cast,↓reduceIte,Nat.reduceEqDiff,Nat.reduceAdd,box_ev,box_opn,opn_eq,ld_op5,h0,h1]
  ·rw [closeF_in (by omega) (by omega)]
   have hw := call_vWho c v o ⟨hc,hv,ht,by omega,by omega⟩
   have hi := fun st => imm_opn st o
   have hk := keys_opn o
   rw [opnD,opn_eq] at hw hi hk
   simp (disch:=first|omega|decide) only [push_cast,↓reduceIte,Nat.reduceEqDiff,Nat.reduceAdd,box_ev,box_opn,opn_eq,ld_op5,h0,h1,ld_ev hv,imm_ev,ld_op,hi,hw]
theorem c_vCls:Contract Tryd.prog GG 41 sp_vCls :=
 contract_of tr_tvm_Close (tb_ok (all_cons c_vWho all_nil) all_nil) (fun a h => w_vCls a.1 a.2.1 a.2.2 h)
end Go.Proofs.YtlleccmnjpcogaaDoor.PI
namespace Go.Proofs.YtlleccmnjpcogaaDoor.PI
open Go
set_option linter.unusedSimpArgs false
set_option maxHeartbeats 8000000
set_option maxRecDepth 20000
set_option linter.unusedVariables false
def argsF (op:Int):Int × Int := if op = 1 ∨ op = 13 ∨ op = 14 ∨ op = 15 then (1,9007199254740992) else if op = 2 then (1,15) else if op = 12 then (2,9007199254740992) else (0,0)
def effF (op:Int):Int × Int := if op = 1 ∨ op = 2 then (0,1) else if op = 12 then (1,1) else if op = 13 ∨ op = 15 then (1,0) else if op = 14 ∨ op = 16 then (0,0) else (2,1)
def formedB (x:Ins):Bool := decide (1 ≤ x.op ∧ x.op ≤ 16 ∧ ((argsF x.op).1 ≤ 0 → x.n = 0) ∧ ((argsF x.op).1 ≤ 1 → x.m = 0) ∧ 0 ≤ min x.n x.m ∧ max x.n x.m ≤ (argsF x.op).2)
theorem argsF_cases (op:Int):argsF op = (1,9007199254740992) ∨ argsF op = (1,15) ∨ argsF op = (2,9007199254740992) ∨ argsF op = (0,0) := by
 unfold argsF
 split
 ·exact .inl rfl
 ·split
  ·exact .inr (.inl rfl)
  ·split
   ·exact .inr (.inr (.inl rfl))
   ·exact .inr (.inr (.inr rfl))
theorem effF_cases (op:Int):0 ≤ (effF op).1 ∧ (effF op).1 ≤ 2 ∧ 0 ≤ (effF op).2 ∧ (effF op).2 ≤ 1 := by
 unfold effF
 split
 ·decide
 ·split
  ·decide
  ·split
   ·decide
   ·split <;> decide
noncomputable def sp_tArg:List D → Option D := spOf (α := Int) (fun a => [.int .i64 a]) (fun a => True) (fun a => .tup [.int .i64 (argsF a).1,.int .i64 (argsF a).2])
theorem call_tArg (op:Int):sp_tArg [.int .i64 op] = some (.tup [.int .i64 (argsF op).1,.int .i64 (argsF op).2]) :=
 spOf_enc (fun a b h => by simp only [List.cons.injEq,D.int.injEq,true_and,and_true] at h; simp [h]) (op) trivial
theorem w_tArg (op:Int):@wW GG (tb [] []) F_tcode_arguments.code (argF [.int .i64 op]) [] ⟨retQ F_tcode_arguments.res (.tup [.int .i64 (argsF op).1,.int .i64 (argsF op).2])⟩ := by
 unfold F_tcode_arguments argsF
 by_cases h1:op = 1
 ·subst h1; simp (disch:=first|omega|decide) only [push_cast,↓reduceIte,Nat.reduceEqDiff,true_or]
 ·by_cases h2:op = 13
  ·subst h2; simp (disch:=first|omega|decide) only [push_cast,↓reduceIte,Nat.reduceEqDiff,h1,true_or,or_true]
  ·by_cases h3:op = 14
   ·subst h3; simp (disch:=first|omega|decide) only [push_cast,↓reduceIte,Nat.reduceEqDiff,h1,h2,true_or,or_true]
   ·by_cases h4:op = 15
    ·subst h4; simp (disch:=first|omega|decide) only [push_cast,↓reduceIte,Nat.reduceEqDiff,h1,h2,h3,or_true]
    ·by_cases h5:op = 2
     ·subst h5; simp (disch:=first|omega|decide) only [push_cast,↓reduceIte,Nat.reduceEqDiff,h1,h2,h3,h4,or_self]
     ·by_cases h6:op = 12
      ·subst h6; simp (disch:=first|omega|decide) only [push_cast,↓reduceIte,Nat.reduceEqDiff,h1,h2,h3,h4,h5,or_self]
      ·simp (disch:=first|omega|decide) only [push_cast,↓reduceIte,Nat.reduceEqDiff,h1,h2,h3,h4,h5,h6,or_self]
theorem c_tArg:Contract Tryd.prog GG 72 sp_tArg :=
 contract_of tr_tcode_arguments (tb_ok all_nil all_nil) (fun a h => w_tArg a)
noncomputable def sp_tEff:List D → Option D := spOf (α := Int) (fun a => [.int .i64 a]) (fun a => True) (fun a => .tup [.int .i64 (effF a).1,.int .i64 (effF a).2])
theorem call_tEff (op:Int):sp_tEff [.int .i64 op] = some (.tup [.int .i64 (effF op).1,.int .i64 (effF op).2]) :=
 spOf_enc (fun a b h => by simp only [List.cons.injEq,D.int.injEq,true_and,and_true] at h; simp [h]) (op) trivial
theorem w_tEff (op:Int):@wW GG (tb [] []) F_tcode_effect.code (argF [.int .i64 op]) [] ⟨retQ F_tcode_effect.res (.tup [.int .i64 (effF op).1,.int .i64 (effF op).2])⟩ := by
 unfold F_tcode_effect effF
 by_cases h1:op = 1
 ·subst h1; simp (disch:=first|omega|decide) only [push_cast,↓reduceIte,Nat.reduceEqDiff,true_or]
 ·by_cases h2:op = 2
  ·subst h2; simp (disch:=first|omega|decide) only [push_cast,↓reduceIte,Nat.reduceEqDiff,h1,or_true]
  ·by_cases h3:op = 12
   ·subst h3; simp (disch:=first|omega|decide) only [push_cast,↓reduceIte,Nat.reduceEqDiff,h1,h2,or_self]
   ·by_cases h4:op = 13
    ·subst h4; simp (disch:=first|omega|decide) only [push_cast,↓reduceIte,Nat.reduceEqDiff,h1,h2,h3,or_self,true_or]
    ·by_cases h5:op = 15
     ·subst h5; simp (disch:=first|omega|decide) only [push_cast,↓reduceIte,Nat.reduceEqDiff,h1,h2,h3,h4,or_self,or_true]
     ·by_cases h6:op = 14
      ·subst h6; simp (disch:=first|omega|decide) only [push_cast,↓reduceIte,Nat.reduceEqDiff,h1,h2,h3,h4,h5,or_self,true_or]
      ·by_cases h7:op = 16
       ·subst h7; simp (disch:=first|omega|decide) only [push_cast,↓reduceIte,Nat.reduceEqDiff,h1,h2,h3,h4,h5,h6,or_self,or_true]
       ·simp (disch:=first|omega|decide) only [push_cast,↓reduceIte,Nat.reduceEqDiff,h1,h2,h3,h4,h5,h6,h7,or_self]
theorem c_tEff:Contract Tryd.prog GG 50 sp_tEff :=
 contract_of tr_tcode_effect (tb_ok all_nil all_nil) (fun a h => w_tEff a)
theorem st_ins1 (a b c d:Int):stO (some ⟨false,1,[.int .i64 a,.int .i64 b,.int .i64 c],false⟩) 1 1 (.int .i64 d) = some ⟨false,1,[.int .i64 a,.int .i64 d,.int .i64 c],false⟩ := (rfl)
theorem st_ins2 (a b c d:Int):stO (some ⟨false,1,[.int .i64 a,.int .i64 b,.int .i64 c],false⟩) 1 2 (.int .i64 d) = some ⟨false,1,[.int .i64 a,.int .i64 b,.int .i64 d],false⟩ := (rfl)
theorem ld_3 (lent:Bool) (a b c:D):ldO (some ⟨false,1,[a,b,c],lent⟩) 3 true 0 = some (.agg [a,b,c]) := (rfl)
theorem st_3 (a b c:Int):stO (some ⟨false,1,[.int .i64 0,.int .i64 0,.int .i64 0],false⟩) 3 0 (.agg [.int .i64 a,.int .i64 b,.int .i64 c]) = some ⟨false,1,[.int .i64 a,.int .i64 b,.int .i64 c],false⟩ := (rfl)
theorem fill_i1 (a:Int):fillD [.int .i64 0,.int .i64 0,.int .i64 0] [(0,1,.int .i64 a)] = some [.int .i64 a,.int .i64 0,.int .i64 0] := (rfl)
theorem insC_eq (x:Ins):insC x = [.int .i64 x.op,.int .i64 x.n,.int .i64 x.m] := (rfl)
theorem aeq_ins (a b c a' b' c':Int):paeq [0,0,0] false (.agg [.int .i64 a,.int .i64 b,.int .i64 c]) (.agg [.int .i64 a',.int .i64 b',.int .i64 c']) = some (.bool (decide (a = a' ∧ b = b' ∧ c = c'))) := by
 simp only [paeq,flatEq,flatEq1,if_true,Option.map_some,Bool.bne_false]
 congr 2
 by_cases h1:a = a' <;> by_cases h2:b = b' <;> by_cases h3:c = c' <;> simp [h1,h2,h3]
noncomputable def sp_tFor:List D → Option D := spOf (α := Ins) (fun a => [insD a]) (fun a => True) (fun a => .bool (formedB a))
theorem call_tFor (x:Ins):sp_tFor [insD x] = some (.bool (formedB x)) :=
 spOf_enc (fun a b h => by simp only [List.cons.injEq,and_true,insD_iff] at h; simp [h]) (x) trivial
theorem w_tFor (x:Ins):@wW GG (tb [(72,sp_tArg)] []) F_tcode_formed.code (argF [insD x]) [] ⟨retQ F_tcode_formed.res (.bool (formedB x))⟩ := by
 unfold F_tcode_formed
 obtain ⟨op,n,m⟩ := x
 by_cases h1:op < 1
 ·rw [show formedB ⟨op,n,m⟩ = false from decide_eq_false (by dsimp only; omega)]
  simp (disch:=first|omega|decide) only [push_cast,↓reduceIte,Nat.reduceEqDiff,box_ins,ld_ins0,h1]
 ·by_cases h2:17 ≤ op
  ·rw [show formedB ⟨op,n,m⟩ = false from decide_eq_false (by dsimp only; omega)]
   simp (disch:=first|omega|decide) only [push_cast,↓reduceIte,Nat.reduceEqDiff,box_ins,ld_ins0,h1,h2]
  ·have hc := call_tArg op
   have fin:∀ (a b:Int) (n' m':Int),argsF op = (a,b) → (a ≤ 0 → n' = n) → (0 < a → n' = 0) → (a ≤ 1 → m' = m) → (1 < a → m' = 0) → formedB ⟨op,n,m⟩ = (decide (op = op ∧ n' = 0 ∧ m' = 0) && (decide (0 ≤ min n m) && decide (max n m ≤ b))) := by
    intro a b n' m' e e1 e2 e3 e4
    unfold formedB
    dsimp only
    rw [e]
    rw [Bool.eq_iff_iff]
    simp only [Bool.and_eq_true,decide_eq_true_eq]
    refine ⟨fun ⟨_,_,p1,p2,p3,p4⟩ => ⟨⟨trivial,?_,?_⟩,p3,p4⟩,fun ⟨⟨_,p1,p2⟩,p3,p4⟩ => ⟨by omega,by omega,?_,?_,p3,p4⟩⟩
    ·by_cases ha:a ≤ 0
     ·rw [e1 ha]; exact p1 ha
     ·exact e2 (by omega)
    ·by_cases ha:a ≤ 1
     ·rw [e3 ha]; exact p2 ha
     ·exact e4 (by omega)
    ·intro ha; rw [← e1 ha]; exact p1
    ·intro ha; rw [← e3 ha]; exact p2
   rcases argsF_cases op with e | e | e | e
   ·rw [fin 1 _ 0 m e (by omega) (by omega) (by omega) (by omega)]
    rw [e] at hc
    rcases Classical.propComplete (m = 0) with q0 | q0 <;> rcases Classical.propComplete (0 ≤ min n m) with r1 | r1 <;> rcases Classical.propComplete (max n m ≤ 9007199254740992) with r2 | r2 <;>
     simp (disch:=first|omega|decide) only [push_cast,↓reduceIte,Nat.reduceEqDiff,Int.reduceLT,box_ins,box_ins0,h1,h2,hc,st_3,insC_eq,st_ins1,ld_3,fill_i1,aeq_ins,q0,r1,r2,and_self,and_false]
   ·rw [fin 1 _ 0 m e (by omega) (by omega) (by omega) (by omega)]
    rw [e] at hc
    rcases Classical.propComplete (m = 0) with q0 | q0 <;> rcases Classical.propComplete (0 ≤ min n m) with r1 | r1 <;> rcases Classical.propComplete (max n m ≤ 15) with r2 | r2 <;>
     simp (disch:=first|omega|decide) only [push_cast,↓reduceIte,Nat.reduceEqDiff,Int.reduceLT,box_ins,box_ins0,h1,h2,hc,st_3,insC_eq,st_ins1,ld_3,fill_i1,aeq_ins,q0,r1,r2,and_self,and_false]
   ·rw [fin 2 _ 0 0 e (by omega) (by omega) (by omega) (by omega)]
    rw [e] at hc
    rcases Classical.propComplete (0 ≤ min n m) with r1 | r1 <;> rcases Classical.propComplete (max n m ≤ 9007199254740992) with r2 | r2 <;>
     simp (disch:=first|omega|decide) only [push_cast,↓reduceIte,Nat.reduceEqDiff,Int.reduceLT,box_ins,box_ins0,h1,h2,hc,st_3,insC_eq,st_ins1,st_ins2,ld_3,fill_i1,aeq_ins,r1,r2,and_self]
   ·rw [fin 0 _ n m e (by omega) (by omega) (by omega) (by omega)]
    rw [e] at hc
    rcases Classical.propComplete (n = 0) with q0 | q0 <;> rcases Classical.propComplete (m = 0) with q1 | q1 <;> rcases Classical.propComplete (0 ≤ min n m) with r1 | r1 <;> rcases Classical.propComplete (max n m ≤ 0) with r2 | r2 <;>
     simp (disch:=first|omega|decide) only [push_cast,↓reduceIte,Nat.reduceEqDiff,Int.reduceLT,box_ins,box_ins0,h1,h2,hc,st_3,insC_eq,ld_3,fill_i1,aeq_ins,q0,q1,r1,r2,and_true,and_self,and_false]
theorem c_tFor:Contract Tryd.prog GG 48 sp_tFor :=
 contract_of tr_tcode_formed (tb_ok (all_cons c_tArg all_nil) all_nil) (fun a h => w_tFor a)
end Go.Proofs.YtlleccmnjpcogaaDoor.PI
namespace Go.Proofs.YtlleccmnjpcogaaDoor.PI
open Go
set_option linter.unusedSimpArgs false
set_option maxHeartbeats 8000000
set_option maxRecDepth 20000
set_option linter.unusedVariables false
noncomputable def si_ver1:List D → St → Option (D × St) := siOf (α := Ins) (fun x => ([insD x],[])) (fun _ => True) (fun x => (.bool (!formedB x),[]))
theorem call_ver1 (x:Ins):si_ver1 [insD x] [] = some (.bool (!formedB x),[]) :=
 siOf_enc (fun a b e => by simp only [Prod.mk.injEq,List.cons.injEq,and_true,insD_iff] at e; rw [e]) x trivial rfl
theorem ci_ver1:IContract Tryd.prog GG 47 si_ver1 := by
 refine icontract_of (T := tb [(48,sp_tFor)] []) tr_tcode_Verify_1 (tb_ok (all_cons c_tFor all_nil) all_nil) ?_
 intro x _
 unfold F_tcode_Verify_1
 simp (disch:=first|omega|decide) only [push_cast,↓reduceIte,Nat.reduceEqDiff,box_ins,ld_ins,imm_ins,call_tFor]
 rfl
def badI:List Ins → Nat → Int
 | [],_ => -1
 | x :: l,i => if formedB x then badI l (i + 1) else i
theorem badI_ge:∀ (l:List Ins) (i:Nat),0 ≤ badI l i ↔ l.all formedB = false
 | [],i => by simp [badI]
 | x :: l,i => by
  have := badI_ge l (i + 1)
  unfold badI
  cases h:formedB x <;> simp [h]
  simpa using this
noncomputable def si_idx:List D → St → Option (D × St) := siOf (α := List Ins) (fun c => ([.slc (nz 3 (c.map insD)) (c.map insD) false,.clo 47 []],[])) (fun c => c.length ≤ 9223372036854775807) (fun c => (.int .i64 (badI c 0),[]))
theorem call_idx (c:List Ins) (h:c.length ≤ 9223372036854775807):si_idx [.slc (nz 3 (c.map insD)) (c.map insD) false,.clo 47 []] [] = some (.int .i64 (badI c 0),[]) :=
 siOf_enc (fun a b e => by simp only [Prod.mk.injEq,List.cons.injEq,D.slc.injEq,and_true,code_iff] at e; rw [e.2]) c h rfl
theorem drop_cons {α:Type} [Inhabited α] (l:List α) {i:Nat} (h:i < l.length):l.drop i = l.getD i default :: l.drop (i + 1) := by
 rw [List.drop_eq_getElem_cons h,List.getD_eq_getElem?_getD,List.getElem?_eq_getElem h]; rfl
theorem ci_idx:IContract Tryd.prog GG 71 si_idx := by
 refine icontract_of (T := tb [] [(47,si_ver1)]) tr_slices_IndexFunc_api_Code_api_Ins (tb_ok all_nil (all_cons ci_ver1 all_nil)) ?_
 intro c hc
 unfold F_slices_IndexFunc_api_Code_api_Ins
 simp (disch:=first|omega|decide) only [push_cast,↓reduceIte,Nat.reduceEqDiff,Int.reduceNeg]
 refine W_while (fun i:Nat => [(0,.slc (nz 3 (c.map insD)) (c.map insD) false),(1,.clo 47 []),(7,.int .i64 (c.length:Int)),(8,.int .i64 (i:Int))])
  (fun i => []) (fun i => i ≤ c.length ∧ badI (c.drop i) i = badI c 0) (fun i => c.length - i) 0 (by simp only [push_cast,↓reduceIte,Nat.reduceEqDiff,↓Int.reduceNatCast'] <;> rfl) ⟨by omega,rfl⟩ ?_
 rintro i ⟨hi,hb⟩
 unfold F_slices_IndexFunc_api_Code_api_Ins_L0
 simp (disch:=first|omega|decide) only [push_cast,↓reduceIte,Nat.reduceEqDiff]
 refine ifD_split (fun h2 => ?_) (fun h2 => ?_)
 ·have hil:i < c.length := by omega
  have hx := idx_ins [] c false i hil
  have hdr := drop_cons c hil
  obtain ⟨x,hxe⟩:∃ x,c.getD i default = x := ⟨_,rfl⟩
  rw [hxe] at hx hdr
  rw [hdr,badI] at hb
  cases hf:formedB x with
  | false =>
   rw [hf] at hb
   have hv := call_ver1 x
   rw [hf] at hv
   simp (disch:=first|omega|decide) only [push_cast,↓reduceIte,Nat.reduceEqDiff,Int.reduceNeg,hx,pld_ins,hv]
   simp only [Bool.false_eq_true,if_false] at hb
   rw [← hb]
   rfl
  | true =>
   rw [hf] at hb
   have hv := call_ver1 x
   rw [hf] at hv
   simp (disch:=first|omega|decide) only [push_cast,↓reduceIte,Nat.reduceEqDiff,hx,pld_ins,hv,add_i]
   refine next_head (i + 1) ⟨by omega,hb⟩ (by omega) ?_
   simp only [push_cast] <;> rfl
 ·obtain rfl:i = c.length := by omega
  rw [List.drop_length,badI] at hb
  simp (disch:=first|omega|decide) only [push_cast,↓reduceIte,Int.reduceNeg]
  rw [← hb]
  rfl
noncomputable def si_con:List D → St → Option (D × St) := siOf (α := List Ins) (fun c => ([.slc (nz 3 (c.map insD)) (c.map insD) false,.clo 47 []],[])) (fun c => c.length ≤ 9223372036854775807) (fun c => (.bool (!c.all formedB),[]))
theorem call_con (c:List Ins) (h:c.length ≤ 9223372036854775807):si_con [.slc (nz 3 (c.map insD)) (c.map insD) false,.clo 47 []] [] = some (.bool (!c.all formedB),[]) :=
 siOf_enc (fun a b e => by simp only [Prod.mk.injEq,List.cons.injEq,D.slc.injEq,and_true,code_iff] at e; rw [e.2]) c h rfl
theorem ci_con:IContract Tryd.prog GG 46 si_con := by
 refine icontract_of (T := tb [] [(71,si_idx)]) tr_slices_ContainsFunc_api_Code_api_Ins (tb_ok all_nil (all_cons ci_idx all_nil)) ?_
 intro c hc
 unfold F_slices_ContainsFunc_api_Code_api_Ins
 have hx := call_idx c hc
 have hb:decide (0 ≤ badI c 0) = !c.all formedB := by
  have := badI_ge c 0
  cases h:c.all formedB with
  | true => rw [h] at this; simp at this ⊢; omega
  | false => rw [h] at this; simp at this ⊢; exact this
 simp (disch:=first|omega|decide) only [push_cast,↓reduceIte,Nat.reduceEqDiff,hx,hb]
 rfl
theorem icontract_keepS {P:Program} {G:Glob} {T:Tbl} {il:List Nat} {f:Nat} {hints:List (List Nat)} {F:PF} (ht:trF P il f hints = some F) (hT:TblOK P G T) {α:Type} {enc:α → List D × St} {pre:α → Prop} {r:α → D × St}
  (h:∀ a,pre a → @wW G T F.code (argF (enc a).1) (enc a).2 ⟨@retI F.res ⟨fun d st' => (d,st') = r a⟩⟩) (hy:T.y = fun _ _ _ => none := by rfl):IContract P G f (siOf enc pre r) :=
 icontract_keep' ht hT (fun ds st x hx => by
  obtain ⟨a,ha,hp,rfl⟩ := siOf_inv hx
  have := h a hp
  rw [ha] at this
  exact this) hy
noncomputable def sp_bitMul:List D → Option D := spOf (α := Int × Int) (fun a => [.int .u64 a.1,.int .u64 a.2]) (fun a => 0 ≤ a.1 ∧ a.1 < 18446744073709551616 ∧ 0 ≤ a.2 ∧ a.2 < 18446744073709551616) (fun a => .tup [.int .u64 (a.1 * a.2 / 18446744073709551616),.int .u64 (a.1 * a.2 % 18446744073709551616)])
theorem call_bitMul (x:Int) (y:Int) (h:0 ≤ x ∧ x < 18446744073709551616 ∧ 0 ≤ y ∧ y < 18446744073709551616):sp_bitMul [.int .u64 x,.int .u64 y] = some (.tup [.int .u64 (x * y / 18446744073709551616),.int .u64 (x * y % 18446744073709551616)]) :=
 spOf_enc (fun ⟨a0,a1⟩ ⟨b0,b1⟩ h => by simp only [List.cons.injEq,D.int.injEq,true_and,and_true] at h; simp [h]) (x,y) h
theorem w_bitMul (x:Int) (y:Int) (h:0 ≤ x ∧ x < 18446744073709551616 ∧ 0 ≤ y ∧ y < 18446744073709551616):@wW GG (tb [(78,sp_bMul)] []) F_math_bits_Mul.code (argF [.int .u64 x,.int .u64 y]) [] ⟨retQ F_math_bits_Mul.res (.tup [.int .u64 (x * y / 18446744073709551616),.int .u64 (x * y % 18446744073709551616)])⟩ := by
 unfold F_math_bits_Mul
 simp (disch:=first|omega|decide) only [push_cast,↓reduceIte,Nat.reduceEqDiff,call_bMul x y h]
theorem c_bitMul:Contract Tryd.prog GG 73 sp_bitMul :=
 contract_of tr_math_bits_Mul (tb_ok (all_cons c_bMul all_nil) all_nil) (fun a h => w_bitMul a.1 a.2 h)
noncomputable def si_rep:List D → St → Option (D × St) := siOf (α := Nat × Int) (fun a => ([.slc 1 [.int .i64 a.2] true,.int .i64 (a.1:Int)],[])) (fun a => 0 < a.1 ∧ a.1 ≤ 100000) (fun a => (.row 0 a.1 0 a.1,[⟨true,1,(List.replicate a.1 a.2).map nI,false⟩]))
theorem call_rep (n:Nat) (a:Int) (h:0 < n ∧ n ≤ 100000):si_rep [.slc 1 [.int .i64 a] true,.int .i64 (n:Int)] [] = some (.row 0 n 0 n,[⟨true,1,(List.replicate n a).map nI,false⟩]) :=
 siOf_enc (fun ⟨a,b⟩ ⟨a',b'⟩ e => by
  simp only [Prod.mk.injEq,List.cons.injEq,D.slc.injEq,D.int.injEq,and_true,true_and,Int.ofNat_inj] at e
  obtain ⟨rfl,rfl⟩ := e
  rfl) ((n,a):Nat × Int) h rfl
def repL (n j:Nat) (a:Int):List D := (List.replicate j a ++ List.replicate (n - j) 0).map nI
theorem repL_length {n j:Nat} {a:Int} (h:j ≤ n):(repL n j a).length = n := by simp [repL]; omega
theorem repL_splice {n j m:Nat} {a:Int} (h:j + m ≤ n):splice (repL n j a) j ((List.replicate m a).map nI) = repL n (j + m) a := by
 have e:List.replicate (n - j) (0:Int) = List.replicate m 0 ++ List.replicate (n - (j + m)) 0 := by
  rw [List.replicate_append_replicate]; congr 1; omega
 unfold repL
 rw [e,List.map_append,List.map_append,splice_mid (by simp) (by simp),← List.map_append,← List.map_append,← List.append_assoc,List.replicate_append_replicate]
theorem cpy_rep {n j:Nat} {a:Int} (h0:0 < j) (h1:j < n):pcpy [⟨true,1,repL n j a,false⟩] 1 (.row 0 n j (n - j)) (.row 0 n 0 j) = some (.int .i64 (min (n - j) j:Nat),[⟨true,1,repL n (j + min (n - j) j) a,false⟩]) := by
 have hl := repL_length (a := a) (Nat.le_of_lt h1)
 have he:rowEls [⟨true,1,repL n j a,false⟩] 0 n 0 j = some (1,(List.replicate j a).map nI) := by
  simp only [rowEls,List.getElem?_cons_zero,hl]
  rw [if_pos (by simp; omega),List.drop_zero]
  congr 2
  simp [repL]
 simp only [pcpy,pcpyR,List.getElem?_cons_zero,elsOf,he,hl,isStr]
 rw [if_pos (by simp; omega)]
 simp only [List.length_map,List.length_replicate,List.set_cons_zero]
 congr 3
 rw [← List.map_take,List.take_replicate,show min (min (n - j) j) j = min (n - j) j by omega,repL_splice (by omega)]
theorem cpy_rep0 {n:Nat} {a:Int} (h1:0 < n):pcpy [⟨true,1,List.replicate n (.int .i64 0),false⟩] 1 (.row 0 n 0 n) (.slc 1 [.int .i64 a] true) = some (.int .i64 1,[⟨true,1,repL n 1 a,false⟩]) := by
 have h0:(List.replicate n (D.int .i64 0)) = repL n 0 a := by simp [repL,nI]
 rw [h0]
 have hl := repL_length (a := a) (Nat.zero_le n)
 simp only [pcpy,pcpyR,List.getElem?_cons_zero,elsOf,hl,isStr]
 rw [if_pos (by simp; omega)]
 have hm:min n [D.int IntKind.i64 a].length = 1 := by simp; omega
 simp only [hm,List.set_cons_zero]
 have := repL_splice (n := n) (j := 0) (m := 1) (a := a) (by omega)
 rw [Nat.zero_add] at this
 rw [← this]
 rfl
theorem mk_n {n:Nat} (h:n ≤ 100000):mkslcD 1 8 (.int .i64 0) (.int .i64 (n:Int)) (.int .i64 (n:Int)) = some (n,⟨true,1,List.replicate n (.int .i64 0),false⟩) := by
 have h1:natOf (.int .i64 (n:Int)) = some n := by simp [natOf]
 simp only [mkslcD,h1]
 rw [if_pos ⟨Nat.le_refl _,by omega,by omega,by decide,rfl,rfl⟩]
theorem ci_rep:IContract Tryd.prog GG 49 si_rep := by
 refine icontract_keepS (T := tb [(73,sp_bitMul)] []) tr_slices_Repeat_int_int (tb_ok (all_cons c_bitMul all_nil) all_nil) ?_
 rintro ⟨n,a⟩ ⟨hn0,hn1⟩
 dsimp only at hn0 hn1
 unfold F_slices_Repeat_int_int
 have hm := call_bitMul 1 (n:Int) ⟨by omega,by omega,by omega,by omega⟩
 rw [show (1 * (n:Int) / 18446744073709551616) = 0 by omega,show (1 * (n:Int) % 18446744073709551616) = n by omega] at hm
 have hc := cpy_rep0 (n := n) (a := a) hn0
 have h0:¬ ((n:Int) < 0) := by omega
 have h1:¬ ((9223372036854775807:Int) < (n:Int)) := by omega
 simp (disch:=first|omega|decide) only [push_cast,↓reduceIte,Nat.reduceEqDiff,Int.reduceLT,Int.reduceAdd,↓Int.reduceNatCast',h0,conv_iu,conv_ui,hm,h1,mk_n hn1,hc]
 refine W_while (fun j:Nat => [(7,.row 0 n 0 n),(8,.int .i64 (j:Int))]) (fun j => [⟨true,1,repL n j a,false⟩]) (fun j => 0 < j ∧ j ≤ n) (fun j => n - j) 1 (by simp only [push_cast,↓reduceIte,Nat.reduceEqDiff,Nat.reduceLT,Nat.reduceLeDiff,↓Int.reduceNatCast'] <;> rfl) ⟨by omega,by omega⟩ ?_
 rintro j ⟨hj0,hj1⟩
 have hl := repL_length (a := a) hj1
 have hli:liR (some ⟨true,1,repL n j a,false⟩) n = true := by simp [liR,hl]
 unfold F_slices_Repeat_int_int_L0
 simp (disch:=first|omega|decide) only [push_cast,↓reduceIte,Nat.reduceEqDiff,hli]
 refine ifD_split (fun h2 => ?_) (fun h2 => ?_)
 ·have hc2 := cpy_rep (a := a) hj0 (show j < n by omega)
  have s1:slR (some ⟨true,1,repL n j a,false⟩) 1 (.row 0 n 0 n) 0 n 0 n j n = some (.row 0 n j (n - j)) := by
   simp [slR,hl,show j ≤ n from hj1,show ¬ j = 0 by omega,show ¬ j = n by omega]
  have s2:slR (some ⟨true,1,repL n j a,false⟩) 1 (.row 0 n 0 n) 0 n 0 n 0 j = some (.row 0 n 0 j) := by
   simp [slR,hl,show j ≤ n from hj1,show ¬ j = 0 by omega,show ¬ j = n by omega,show ¬ 0 = j by omega]
  simp (disch:=first|omega|decide) only [push_cast,↓reduceIte,Nat.reduceEqDiff,Nat.reduceLT,Nat.reduceLeDiff,s1,s2,hc2,add_i]
  refine next_head (j + min (n - j) j) ⟨by omega,by omega⟩ (by omega) ?_
  simp only [push_cast] <;> rfl
 ·obtain rfl:j = n := by omega
  simp (disch:=first|omega|decide) only [push_cast,↓reduceIte,Nat.reduceEqDiff]
  simp [repL]
end Go.Proofs.YtlleccmnjpcogaaDoor.PI
namespace Go.Proofs.YtlleccmnjpcogaaDoor.PI
open Go
set_option linter.unusedSimpArgs false
set_option linter.unusedVariables false
abbrev at' (x:List Int) (i:Nat):Int := x.getD i default
theorem at_mem {x:List Int} {i:Nat} (h:i < x.length):at' x i ∈ x := by
 unfold at'
 rw [List.getD_eq_getElem?_getD,List.getElem?_eq_getElem h]
 exact List.getElem_mem h
theorem ldR_nI (A:List Int) (lent:Bool) (tot i:Nat) (ht:A.length = tot) (h:i < tot):ldR (some ⟨true,1,A.map nI,lent⟩) 1 false tot i 0 = some (.int .i64 (at' A i)) := by
 subst ht; exact ldR_cell nI (fun _ => rfl) 1 A lent i h
theorem ixR_nI (A:List Int) (lent:Bool) (key tot:Nat) (j:Int) (ht:A.length = tot) (h0:0 ≤ j) (h1:j < (tot:Int)):ixR (some ⟨true,1,A.map nI,lent⟩) 1 key tot 0 tot j = some (.rptr key tot j.toNat 0) := by
 subst ht
 have := ixR_row nI 1 A lent key 0 A.length j h0 h1
 rwa [Nat.zero_add] at this
def stRI (o:Option PI.Obj) (tot i:Nat) (v:Int):Option PI.Obj := o.bind fun o => if o.row && !o.lent && o.els.length == tot then (o.els[i]?).bind fun el => (setEl el 0 [.int .i64 v]).map fun el' => { o with els := o.els.set i el' } else none
theorem pstor_ri (st:St) (key tot i:Nat) (v:Int):pstor st 1 (.rptr key tot i 0) (.int .i64 v) = (stRI st[key]? tot i v).map fun o => st.set key o := by
 simp only [pstor,stRI,imm_int,keys_int,List.isEmpty_nil,Bool.and_true]
 cases st[key]? with
 | none => rfl
 | some o =>
  simp only [Option.bind_some]
  split
  ·cases o.els[i]? with
   | none => rfl
   | some el =>
    have hc:(D.int .i64 v).cells = [.int .i64 v] := rfl
    rw [hc]
    simp only [Option.bind_some]
    cases setEl el 0 [.int .i64 v] <;> rfl
  ·rfl
theorem stRI_row (A:List Int) (tot i:Nat) (v:Int) (ht:A.length = tot) (h:i < tot):stRI (some ⟨true,1,A.map nI,false⟩) tot i v = some ⟨true,1,(A.set i v).map nI,false⟩ := by
 subst ht
 have h1:setEl (nI A[i]) 0 [.int .i64 v] = some (nI v) := rfl
 simp [stRI,h,h1,List.map_set]
def nextBad (len i after n:Int) (dep:List Int):Prop := n ≤ i ∨ len ≤ n ∨ (0 ≤ at' dep n.toNat ∧ at' dep n.toNat ≠ after)
instance (len i after n:Int) (dep:List Int):Decidable (nextBad len i after n dep) := by unfold nextBad; infer_instance
def nextL (len i after:Int):List Int → List Int → Option (List Int)
 | [],dep => some dep
 | n :: l,dep => if nextBad len i after n dep then none else nextL len i after l (dep.set n.toNat after)
def nexts (x:Ins) (i:Int):List Int := (if x.op = 13 ∨ x.op = 14 then [x.n] else []) ++ (if x.op ≠ 14 ∧ x.op ≠ 15 ∧ x.op ≠ 16 then [i + 1] else [])
def verBad (x:Ins) (d:Int):Prop := d < (effF x.op).1 ∨ (x.op = 15 ∧ d ≠ 1) ∨ (x.op = 16 ∧ d ≠ 0)
instance (x:Ins) (d:Int):Decidable (verBad x d) := by unfold verBad; infer_instance
def afterF (x:Ins) (d:Int):Int := d - (effF x.op).1 + (effF x.op).2
def verL (len:Int):List Ins → Nat → List Int → Int → Option Int
 | [],_,_,s => some s
 | x :: r,i,dep,s => if at' dep i < 0 then verL len r (i + 1) dep s else if verBad x (at' dep i) then none else
  match nextL len i (afterF x (at' dep i)) (nexts x i) dep with
  | none => none
  | some dep' => verL len r (i + 1) dep' (max (max s (at' dep i)) (afterF x (at' dep i)))
def verEnd:Option Int → Int × Int
 | none => (0,200)
 | some s => if 64 < s then (0,2) else (s,0)
def dep0 (n:Nat):List Int := (List.replicate n (-1)).set 0 0
def verifyF (c:List Ins):Int × Int := if 4096 < c.length then (0,2) else if c.length = 0 ∨ c.all formedB = false then (0,200) else verEnd (verL c.length c 0 (dep0 c.length) 0)
theorem li1 (sz:Nat) (a:D) (l:Bool):liR (some ⟨true,sz,[a],l⟩) 1 = true := (rfl)
theorem li2 (sz:Nat) (a b:D) (l:Bool):liR (some ⟨true,sz,[a,b],l⟩) 2 = true := (rfl)
theorem wW_st {G:Glob} {T:Tbl} {c:PC} {fr:Frame} {st st':St} {Q:QC} (e:st = st') (h:@wW G T c fr st' Q):@wW G T c fr st Q := by rw [e]; exact h
/- what follows an instruction -/
def depOK (N:Nat) (i:Int) (dp:List Int):Prop := dp.length = N ∧ ∀ y ∈ dp,-1 ≤ y ∧ y ≤ i
theorem depOK_set {N:Nat} {i:Int} {dp:List Int} (h:depOK N i dp) (k:Nat) {v:Int} (h0:-1 ≤ v) (h1:v ≤ i):depOK N i (dp.set k v) := by
 refine ⟨by rw [List.length_set]; exact h.1,fun y hy => ?_⟩
 rcases List.mem_or_eq_of_mem_set hy with hy | rfl
 ·exact h.2 y hy
 ·exact ⟨h0,h1⟩
set_option maxHeartbeats 4000000 in
set_option maxRecDepth 20000 in
theorem w_verL0 (T:Tbl) (c:List Ins) (x:Ins) (i:Nat) (hi:i < c.length) (hc:c.length ≤ 4096) (s after:Int) (ha0:-1 ≤ after) (ha1:after ≤ (i:Int) + 1) (nx:List Int) (hnx:nx.length ≤ 2) (dep:List Int) (hdep:depOK c.length ((i:Int) + 1) dep) (fr:Frame) (Q:Ex → Frame → St → Prop)
  (f0:fr 0 = .slc (nz 3 (c.map insD)) (c.map insD) false) (f2:fr 2 = .int .i64 s) (f4:fr 4 = .row 0 c.length 0 c.length) (f5:fr 5 = .int .i64 (i:Int)) (f10:fr 10 = .int .i64 after)
  (f30:fr 30 = .slc (nz 3 (c.map insD)) (c.map insD) false) (f31:fr 31 = .int .i64 (c.length:Int)) (f32:fr 32 = .int .i64 (i:Int)) (f110:fr 110 = bufD 0 2 (nx.map nI)) (f111:fr 111 = .int .i64 (nx.length:Int)) (f112:fr 112 = .int .i64 0)
  (hret:nextL c.length i after nx dep = none → ∀ fr' st',fr' 2 = .int .i64 0 → fr' 3 = .int .i64 200 → Q .ret fr' st')
  (hext:∀ dp,nextL c.length i after nx dep = some dp → depOK c.length ((i:Int) + 1) dp → ∀ fr',fr' 0 = .slc (nz 3 (c.map insD)) (c.map insD) false → fr' 2 = .int .i64 s → fr' 4 = .row 0 c.length 0 c.length → fr' 30 = .slc (nz 3 (c.map insD)) (c.map insD) false → fr' 31 = .int .i64 (c.length:Int) → fr' 32 = .int .i64 (i:Int) →
   Q (.exit 2) fr' (⟨true,1,dp.map nI,false⟩ :: ⟨false,1,insC x,false⟩ :: bufS 1 (nx.map nI))) :
  @wW GG T (.loop [0,2,4,5,10,30,31,32,110,111,112] F_tcode_Verify_L0) fr (⟨true,1,dep.map nI,false⟩ :: ⟨false,1,insC x,false⟩ :: bufS 1 (nx.map nI)) ⟨Q⟩ := by
 have hB:ren ((bufS 1 (nx.map nI)).length + 1 + 1) [] (bufD 0 2 (nx.map nI)) = bufD 0 2 (nx.map nI) := by
  cases nx <;> rfl
 have hok:∀ dp:List Int,StOK (⟨true,1,dp.map nI,false⟩ :: ⟨false,1,insC x,false⟩ :: bufS 1 (nx.map nI)) := by
  intro dp o ho hr y hy
  simp only [List.mem_cons] at ho
  rcases ho with rfl | rfl | ho
  ·cases hr
  ·simp only [insC,List.mem_cons,List.not_mem_nil,or_false] at hy
   rcases hy with rfl | rfl | rfl <;> rfl
  ·cases nx with
   | nil => cases ho
   | cons a l =>
    rw [show bufS 1 ((a :: l).map nI) = [⟨true,1,(a :: l).map nI,false⟩] from rfl,List.mem_singleton] at ho
    subst ho; cases hr
 have hR:∀ (fr:Frame) (dp:List Int),restrict [0,2,4,5,10,30,31,32,110,111,112] ((bufS 1 (nx.map nI)).length + 1 + 1) ⟨fr,⟨true,1,dp.map nI,false⟩ :: ⟨false,1,insC x,false⟩ :: bufS 1 (nx.map nI)⟩ =
   ⟨mkF (headF fr ((bufS 1 (nx.map nI)).length + 1 + 1) [] [0,2,4,5,10,30,31,32,110,111,112]),⟨true,1,dp.map nI,false⟩ :: ⟨false,1,insC x,false⟩ :: bufS 1 (nx.map nI)⟩ := fun fr dp => restrict_okl (hok dp) rfl
 have hr0:renK ((bufS 1 (nx.map nI)).length + 1 + 1) [] 0 = some 0 := renK_lt (by omega)
 refine W_while (fun p:Nat × List Int => [(0,.slc (nz 3 (c.map insD)) (c.map insD) false),(2,.int .i64 s),(4,.row 0 c.length 0 c.length),(5,.int .i64 (i:Int)),(10,.int .i64 after),(30,.slc (nz 3 (c.map insD)) (c.map insD) false),(31,.int .i64 (c.length:Int)),(32,.int .i64 (i:Int)),
   (110,bufD 0 2 (nx.map nI)),(111,.int .i64 (nx.length:Int)),(112,.int .i64 (p.1:Int))])
  (fun p => ⟨true,1,p.2.map nI,false⟩ :: ⟨false,1,insC x,false⟩ :: bufS 1 (nx.map nI)) (fun p => p.1 ≤ nx.length ∧ depOK c.length ((i:Int) + 1) p.2 ∧ nextL c.length i after (nx.drop p.1) p.2 = nextL c.length i after nx dep) (fun p => nx.length - p.1) (0,dep)
  ((hR fr dep).trans (by simp only [push_cast,f0,f2,f4,f5,f10,f30,f31,f32,f110,f111,f112,hB,↓hr0] <;> rfl)) ⟨Nat.zero_le _,hdep,rfl⟩ ?_
 rintro ⟨j,dp⟩ ⟨hj,hdp,hn⟩
 dsimp only at hj hdp hn
 unfold F_tcode_Verify_L0
 simp (disch:=first|omega|decide) only [push_cast,↓reduceIte,Nat.reduceEqDiff]
 refine ifD_split (fun h2 => ?_) (fun h2 => ?_)
 ·have hjl:j < nx.length := by omega
  have hdr := drop_cons nx hjl
  have hne:nx.map nI ≠ [] := by
   intro e
   have := congrArg List.length e
   simp at this
   subst this
   simp at hjl
  obtain ⟨n,hne'⟩:∃ n,nx.getD j default = n := ⟨_,rfl⟩
  have hx0:ixR (some ⟨true,1,nx.map nI,false⟩) 1 2 nx.length 0 nx.length (j:Int) = some (.rptr 2 nx.length j 0) := ixR_nI nx false 2 nx.length j rfl (by omega) (by omega)
  have hx1:ldR (some ⟨true,1,nx.map nI,false⟩) 1 false nx.length j 0 = some (.int .i64 n) := by rw [← hne']; exact ldR_nI nx false nx.length j rfl hjl
  have hxx:∀ dp:List Int,pidxS (⟨true,1,dp.map nI,false⟩ :: ⟨false,1,insC x,false⟩ :: bufS 1 (nx.map nI)) 1 (bufD 0 2 (nx.map nI)) (.int .i64 (j:Int)) = some (.rptr 2 nx.length j 0) := by
   intro dp
   rw [bufD_ne _ _ _ hne,bufS_ne _ _ hne,List.length_map,idxS_row]
   exact hx0
  have hx1':∀ dp:List Int,pload (⟨true,1,dp.map nI,false⟩ :: ⟨false,1,insC x,false⟩ :: bufS 1 (nx.map nI)) 1 false (.rptr 2 nx.length j 0) = some (.int .i64 n) := by
   intro dp
   rw [bufS_ne _ _ hne,pload_rptrE]
   exact hx1
  rw [hdr,hne',nextL] at hn
  by_cases b1:n ≤ (i:Int)
  ·rw [if_pos (.inl b1)] at hn
   simp (disch:=first|omega|decide) only [push_cast,↓reduceIte,Nat.reduceEqDiff,hxx,hx1',  b1]
   exact hret hn.symm _ _ rfl rfl
  ·by_cases b2:(c.length:Int) ≤ n
   ·rw [if_pos (.inr (.inl b2))] at hn
    simp (disch:=first|omega|decide) only [push_cast,↓reduceIte,Nat.reduceEqDiff,hxx,hx1',  b1,b2]
    exact hret hn.symm _ _ rfl rfl
   ·have hd0 := ixR_nI dp false 0 c.length n hdp.1 (by omega) (by omega)
    have hd1 := ldR_nI dp false c.length n.toNat hdp.1 (by omega)
    have hdm := hdp.2 _ (at_mem (x := dp) (i := n.toNat) (by rw [hdp.1]; omega))
    have hs := stRI_row dp c.length n.toNat after hdp.1 (by omega)
    by_cases b3:0 ≤ at' dp n.toNat
    ·by_cases b4:at' dp n.toNat = after
     ·have b4':(at' dp n.toNat = after) = True := eq_true b4
      rw [if_neg (by unfold nextBad; omega)] at hn
      simp (disch:=first|omega|decide) only [push_cast,↓reduceIte,Nat.reduceEqDiff,hxx,hx1',  b1,b2,hd0,hd1,b3,b4',pstor_ri,hs,add_i,↓hR,↓hr0,hB]
      refine next_head (j + 1,dp.set n.toNat after) ⟨by dsimp only; omega,depOK_set hdp _ ha0 ha1,hn⟩ (by dsimp only; omega) ?_
      simp only [push_cast] <;> rfl
     ·rw [if_pos (.inr (.inr ⟨b3,b4⟩))] at hn
      simp (disch:=first|omega|decide) only [push_cast,↓reduceIte,Nat.reduceEqDiff,hxx,hx1',  b1,b2,hd0,hd1,b3,b4]
      exact hret hn.symm _ _ rfl rfl
    ·rw [if_neg (by unfold nextBad; omega)] at hn
     simp (disch:=first|omega|decide) only [push_cast,↓reduceIte,Nat.reduceEqDiff,hxx,hx1',  b1,b2,hd0,hd1,b3,pstor_ri,hs,add_i,↓hR,↓hr0,hB]
     refine next_head (j + 1,dp.set n.toNat after) ⟨by dsimp only; omega,depOK_set hdp _ ha0 ha1,hn⟩ (by dsimp only; omega) ?_
     simp only [push_cast] <;> rfl
 ·obtain rfl:j = nx.length := by omega
  rw [List.drop_length,nextL] at hn
  simp (disch:=first|omega|decide) only [push_cast]
  exact hext dp hn.symm hdp _ rfl rfl rfl rfl rfl rfl
noncomputable def sp_tVer:List D → Option D := spOf (α := List Ins) (fun a => [.slc (nz 3 (a.map insD)) (a.map insD) false]) (fun a => a.length ≤ 9223372036854775807) (fun a => .tup [.int .i64 (verifyF a).1,.int .i64 (verifyF a).2])
theorem call_tVer (c:List Ins) (h:c.length ≤ 9223372036854775807):sp_tVer [.slc (nz 3 (c.map insD)) (c.map insD) false] = some (.tup [.int .i64 (verifyF c).1,.int .i64 (verifyF c).2]) :=
 spOf_enc (fun a b h => by simp only [List.cons.injEq,D.slc.injEq,and_true,code_iff] at h; simp [h]) (c) h
set_option maxHeartbeats 4000000 in
set_option maxRecDepth 20000 in
theorem w_tVer (c:List Ins) (h:c.length ≤ 9223372036854775807):@wW GG (tb [(50,sp_tEff)] [(46,si_con),(49,si_rep)]) F_tcode_Verify.code (argF [.slc (nz 3 (c.map insD)) (c.map insD) false]) [] ⟨retQ F_tcode_Verify.res (.tup [.int .i64 (verifyF c).1,.int .i64 (verifyF c).2])⟩ := by
 unfold F_tcode_Verify
 by_cases h1:4096 < c.length
 ·rw [show verifyF c = (0,2) from if_pos h1]
  simp (disch:=first|omega|decide) only [push_cast,↓reduceIte,Nat.reduceEqDiff,Int.reduceNeg,show ((4096:Int) < (c.length:Int)) by omega]
 by_cases h2:c.length = 0
 ·rw [show verifyF c = (0,200) by unfold verifyF; rw [if_neg h1,if_pos (.inl h2)]]
  simp (disch:=first|omega|decide) only [push_cast,↓reduceIte,Nat.reduceEqDiff,Int.reduceLT,Int.reduceNeg,show ¬ ((4096:Int) < (c.length:Int)) by omega,show ((c.length:Int) = 0) by omega]
 have hcn := call_con c h
 have h3:¬ ((4096:Int) < (c.length:Int)) := by omega
 have h4:¬ ((c.length:Int) = 0) := by omega
 cases hall:c.all formedB with
 | false =>
  rw [hall] at hcn
  rw [show verifyF c = (0,200) by unfold verifyF; rw [if_neg h1,if_pos (.inr hall)]]
  simp (disch:=first|omega|decide) only [push_cast,↓reduceIte,Nat.reduceEqDiff,Int.reduceNeg,h3,h4,hcn]
 | true =>
  rw [hall] at hcn
  rw [show verifyF c = verEnd (verL c.length c 0 (dep0 c.length) 0) by unfold verifyF; rw [if_neg h1,if_neg (by rw [hall]; simp [h2])]]
  have hrp := call_rep c.length (-1) ⟨by omega,by omega⟩
  have hx0:ixR (some ⟨true,1,(List.replicate c.length (-1)).map nI,false⟩) 1 0 c.length 0 c.length 0 = some (.rptr 0 c.length 0 0) := ixR_nI _ false 0 c.length 0 (by simp) (by omega) (by omega)
  have hs0:stRI (some ⟨true,1,(List.replicate c.length (-1)).map nI,false⟩) c.length 0 0 = some ⟨true,1,(dep0 c.length).map nI,false⟩ := stRI_row _ c.length 0 0 (by simp) (by omega)
  simp (disch:=first|omega|decide) only [push_cast,↓reduceIte,Nat.reduceEqDiff,Int.reduceNeg,h3,h4,hcn,lit1,hrp,hx0,pstor_ri,hs0]
  refine W_while (fun p:Nat × List Int × Int => [(0,.slc (nz 3 (c.map insD)) (c.map insD) false),(2,.int .i64 p.2.2),(4,.row 0 c.length 0 c.length),(30,.slc (nz 3 (c.map insD)) (c.map insD) false),(31,.int .i64 (c.length:Int)),(32,.int .i64 (p.1:Int))])
   (fun p => [⟨true,1,p.2.1.map nI,false⟩]) (fun p => p.1 ≤ c.length ∧ depOK c.length p.1 p.2.1 ∧ verEnd (verL c.length (c.drop p.1) p.1 p.2.1 p.2.2) = verEnd (verL c.length c 0 (dep0 c.length) 0)) (fun p => c.length - p.1) (0,dep0 c.length,0)
   (by simp only [push_cast,↓reduceIte,Nat.reduceEqDiff,Nat.reduceLT,Nat.reduceLeDiff,Int.reduceNeg] <;> rfl) ⟨Nat.zero_le _,?_,rfl⟩ ?_
  ·refine ⟨by simp [dep0],fun y hy => ?_⟩
   rcases List.mem_or_eq_of_mem_set hy with hy | rfl
   ·have := (List.mem_replicate.1 hy).2
    subst this; dsimp only; omega
   ·dsimp only; omega
  rintro ⟨i,dep,s⟩ ⟨hi,hdk0,hv⟩
  dsimp only at hi hdk0 hv
  unfold F_tcode_Verify_L1
  simp (disch:=first|omega|decide) only [push_cast,↓reduceIte,Nat.reduceEqDiff]
  refine ifD_split (fun h5 => ?_) (fun h5 => ?_)
  ·have hil:i < c.length := by omega
   have hc4:c.length ≤ 4096 := by omega
   have hdk:depOK c.length ((i:Int) + 1) dep := ⟨hdk0.1,fun y hy => ⟨(hdk0.2 y hy).1,by have := (hdk0.2 y hy).2; omega⟩⟩
   have hx := fun st => idx_ins st c false i hil
   have hdr := drop_cons c hil
   obtain ⟨x,hxe⟩:∃ x,c.getD i default = x := ⟨_,rfl⟩
   rw [hxe] at hx hdr
   rw [hdr,verL] at hv
   have hd0:ixR (some ⟨true,1,dep.map nI,false⟩) 1 0 c.length 0 c.length (i:Int) = some (.rptr 0 c.length i 0) := ixR_nI dep false 0 c.length i hdk.1 (by omega) (by omega)
   have hd1 := ldR_nI dep false c.length i hdk.1 hil
   have hdm := hdk0.2 _ (at_mem (x := dep) (i := i) (by rw [hdk0.1]; omega))
   have he := call_tEff x.op
   have hef := effF_cases x.op
   by_cases h0:at' dep i < 0
   ·rw [if_pos h0] at hv
    simp (disch:=first|omega|decide) only [push_cast,↓reduceIte,Nat.reduceEqDiff,Nat.reduceLT,Nat.reduceLeDiff,Nat.reduceAdd,hx,pld_ins,box_ins0,st_ins,hd0,hd1,h0,add_i]
    refine next_head (i + 1,dep,s) ⟨by dsimp only; omega,hdk,hv⟩ (by dsimp only; omega) ?_
    simp only [push_cast] <;> rfl
   rw [if_neg h0] at hv
   have haf:afterF x (at' dep i) = at' dep i - (effF x.op).1 + (effF x.op).2 := rfl
   by_cases hbad0:at' dep i < (effF x.op).1
   ·rw [if_pos (.inl hbad0)] at hv
    simp (disch:=first|omega|decide) only [push_cast,↓reduceIte,Nat.reduceEqDiff,hx,pld_ins,box_ins0,st_ins,hd0,hd1,h0,ld_ins0,he,sub_i,add_i,hbad0]
    rw [← hv]
    rfl
   have hbad0':(at' dep i < (effF x.op).1) = False := eq_false hbad0
   by_cases h15:x.op = 15
   ·have e15:(x.op = 15) = True := eq_true h15
    have e14:(x.op = 14) = False := eq_false (by omega)
    have e13:(x.op = 13) = False := eq_false (by omega)
    have hef15:effF x.op = (1,0) := by rw [h15]; rfl
    by_cases hd:at' dep i = 1
    ·have ed:(at' dep i = 1) = True := eq_true hd
     have e16:(x.op = 16) = False := eq_false (by omega)
     have hb1:¬ at' dep i < (effF x.op).1 := hbad0
     have hnx:nexts x (i:Int) = [] := by simp [nexts,h15]
     have hbad:¬ verBad x (at' dep i) := by unfold verBad; omega
     rw [if_neg hbad,hnx] at hv
     simp (disch:=first|omega|decide) only [push_cast,↓reduceIte,Nat.reduceEqDiff,hx,pld_ins,box_ins0,st_ins,hd0,hd1,h0,ld_ins0,he,sub_i,add_i,hbad0,e15,e14,e13,e16,ed,haf.symm]
     have hl := w_verL0 (tb [(50,sp_tEff)] [(46,si_con),(49,si_rep)]) c x i hil hc4 (max (max s (at' dep i)) (afterF x (at' dep i))) (afterF x (at' dep i)) (by omega) (by omega) [] (by simp) dep hdk
     refine hl _ _ rfl rfl rfl rfl rfl rfl rfl rfl rfl rfl rfl (fun hn fr' st' g2 g3 => ?_) (fun dp hn hdp fr' g0 g2 g4 g30 g31 g32 => ?_)
     ·rw [hn] at hv
      have hv':((0,200):Int × Int) = verEnd (verL c.length c 0 (dep0 c.length) 0) := hv
      simp (disch:=first|omega|decide) only [push_cast,g2,g3]
      rw [← hv']
     ·rw [hn] at hv
      simp (disch:=first|omega|decide) only [push_cast,↓reduceIte,Nat.reduceEqDiff,g32,add_i]
      refine next_head (i + 1,dp,max (max s (at' dep i)) (afterF x (at' dep i))) ⟨by dsimp only; omega,hdp,hv⟩ (by dsimp only; omega) ?_
      simp only [push_cast,↓reduceIte,Nat.reduceLT,Nat.reduceLeDiff,g0,g2,g4,g30,g31] <;> rfl
    ·have ed:(at' dep i = 1) = False := eq_false hd
     rw [if_pos (.inr (.inl ⟨h15,hd⟩))] at hv
     simp (disch:=first|omega|decide) only [push_cast,↓reduceIte,Nat.reduceEqDiff,hx,pld_ins,box_ins0,st_ins,hd0,hd1,h0,ld_ins0,he,sub_i,add_i,hbad0,e15,ed]
     rw [← hv]
     rfl
   by_cases h16:x.op = 16
   ·have e16:(x.op = 16) = True := eq_true h16
    have e15:(x.op = 15) = False := eq_false h15
    have e14:(x.op = 14) = False := eq_false (by omega)
    have e13:(x.op = 13) = False := eq_false (by omega)
    have hef16:effF x.op = (0,0) := by rw [h16]; rfl
    by_cases hd:at' dep i = 0
    ·have ed:(at' dep i = 0) = True := eq_true hd
     have hnx:nexts x (i:Int) = [] := by simp [nexts,h16]
     have hbad:¬ verBad x (at' dep i) := by unfold verBad; omega
     rw [if_neg hbad,hnx] at hv
     simp (disch:=first|omega|decide) only [push_cast,↓reduceIte,Nat.reduceEqDiff,hx,pld_ins,box_ins0,st_ins,hd0,hd1,h0,ld_ins0,he,sub_i,add_i,hbad0,e15,e14,e13,e16,ed,haf.symm]
     have hl := w_verL0 (tb [(50,sp_tEff)] [(46,si_con),(49,si_rep)]) c x i hil hc4 (max (max s (at' dep i)) (afterF x (at' dep i))) (afterF x (at' dep i)) (by omega) (by omega) [] (by simp) dep hdk
     refine hl _ _ rfl rfl rfl rfl rfl rfl rfl rfl rfl rfl rfl (fun hn fr' st' g2 g3 => ?_) (fun dp hn hdp fr' g0 g2 g4 g30 g31 g32 => ?_)
     ·rw [hn] at hv
      have hv':((0,200):Int × Int) = verEnd (verL c.length c 0 (dep0 c.length) 0) := hv
      simp (disch:=first|omega|decide) only [push_cast,g2,g3]
      rw [← hv']
     ·rw [hn] at hv
      simp (disch:=first|omega|decide) only [push_cast,↓reduceIte,Nat.reduceEqDiff,g32,add_i]
      refine next_head (i + 1,dp,max (max s (at' dep i)) (afterF x (at' dep i))) ⟨by dsimp only; omega,hdp,hv⟩ (by dsimp only; omega) ?_
      simp only [push_cast,↓reduceIte,Nat.reduceLT,Nat.reduceLeDiff,g0,g2,g4,g30,g31] <;> rfl
    ·have ed:(at' dep i = 0) = False := eq_false hd
     rw [if_pos (.inr (.inr ⟨h16,hd⟩))] at hv
     simp (disch:=first|omega|decide) only [push_cast,↓reduceIte,Nat.reduceEqDiff,hx,pld_ins,box_ins0,st_ins,hd0,hd1,h0,ld_ins0,he,sub_i,add_i,hbad0,e15,e16,ed]
     rw [← hv]
     rfl
   have e15:(x.op = 15) = False := eq_false h15
   have e16:(x.op = 16) = False := eq_false h16
   by_cases h14:x.op = 14
   ·have e14:(x.op = 14) = True := eq_true h14
    have e13:(x.op = 13) = False := eq_false (by omega)
    have hnx:nexts x (i:Int) = [x.n] := by simp [nexts,h14]
    have hbad:¬ verBad x (at' dep i) := by unfold verBad; omega
    rw [if_neg hbad,hnx] at hv
    have hp0:papp [⟨true,1,dep.map nI,false⟩,⟨false,1,insC x,false⟩] 1 8 (.slc 0 [] true) (.slc 1 [.int .i64 x.n] true) = some (.row 2 1 0 1,[⟨true,1,dep.map nI,false⟩,⟨false,1,insC x,false⟩,⟨true,1,[.int .i64 x.n],false⟩]) := (rfl)
    simp (disch:=first|omega|decide) only [push_cast,↓reduceIte,Nat.reduceEqDiff,↓Int.reduceNatCast',hx,pld_ins,box_ins0,st_ins,hd0,hd1,h0,ld_ins0,ld_ins1,he,sub_i,add_i,hbad0,lit1,e15,e14,e13,e16,haf.symm,hp0,li1]
    have hl := w_verL0 (tb [(50,sp_tEff)] [(46,si_con),(49,si_rep)]) c x i hil hc4 (max (max s (at' dep i)) (afterF x (at' dep i))) (afterF x (at' dep i)) (by omega) (by omega) [x.n] (by simp) dep hdk
    refine wW_st (st' := (⟨true,1,dep.map nI,false⟩ :: ⟨false,1,insC x,false⟩ :: bufS 1 (([x.n]:List Int).map nI))) rfl ?_
    refine hl _ _ rfl rfl rfl rfl rfl rfl rfl rfl rfl rfl rfl (fun hn fr' st' g2 g3 => ?_) (fun dp hn hdp fr' g0 g2 g4 g30 g31 g32 => ?_)
    ·rw [hn] at hv
     have hv':((0,200):Int × Int) = verEnd (verL c.length c 0 (dep0 c.length) 0) := hv
     simp (disch:=first|omega|decide) only [push_cast,g2,g3]
     rw [← hv']
    ·rw [hn] at hv
     simp (disch:=first|omega|decide) only [push_cast,↓reduceIte,Nat.reduceEqDiff,g32,add_i]
     refine next_head (i + 1,dp,max (max s (at' dep i)) (afterF x (at' dep i))) ⟨by dsimp only; omega,hdp,hv⟩ (by dsimp only; omega) ?_
     simp only [push_cast,↓reduceIte,Nat.reduceLT,Nat.reduceLeDiff,g0,g2,g4,g30,g31] <;> rfl
   have e14:(x.op = 14) = False := eq_false h14
   by_cases h13:x.op = 13
   ·have e13:(x.op = 13) = True := eq_true h13
    have hnx:nexts x (i:Int) = [x.n,(i:Int) + 1] := by simp [nexts,h13]
    have hbad:¬ verBad x (at' dep i) := by unfold verBad; omega
    rw [if_neg hbad,hnx] at hv
    have hp0:papp [⟨true,1,dep.map nI,false⟩,⟨false,1,insC x,false⟩] 1 8 (.slc 0 [] true) (.slc 1 [.int .i64 x.n] true) = some (.row 2 1 0 1,[⟨true,1,dep.map nI,false⟩,⟨false,1,insC x,false⟩,⟨true,1,[.int .i64 x.n],false⟩]) := (rfl)
    have hp1:papp [⟨true,1,dep.map nI,false⟩,⟨false,1,insC x,false⟩,⟨true,1,[.int .i64 x.n],false⟩] 1 8 (.row 2 1 0 1) (.slc 1 [.int .i64 ((i:Int) + 1)] true) = some (.row 2 2 0 2,[⟨true,1,dep.map nI,false⟩,⟨false,1,insC x,false⟩,⟨true,1,[.int .i64 x.n,.int .i64 ((i:Int) + 1)],false⟩]) := (rfl)
    simp (disch:=first|omega|decide) only [push_cast,↓reduceIte,Nat.reduceEqDiff,↓Int.reduceNatCast',hx,pld_ins,box_ins0,st_ins,hd0,hd1,h0,ld_ins0,ld_ins1,he,sub_i,add_i,hbad0,lit1,e15,e14,e13,e16,haf.symm,hp0,hp1,li2]
    have hl := w_verL0 (tb [(50,sp_tEff)] [(46,si_con),(49,si_rep)]) c x i hil hc4 (max (max s (at' dep i)) (afterF x (at' dep i))) (afterF x (at' dep i)) (by omega) (by omega) [x.n,(i:Int) + 1] (by simp) dep hdk
    refine wW_st (st' := (⟨true,1,dep.map nI,false⟩ :: ⟨false,1,insC x,false⟩ :: bufS 1 (([x.n,(i:Int) + 1]:List Int).map nI))) rfl ?_
    refine hl _ _ rfl rfl rfl rfl rfl rfl rfl rfl rfl rfl rfl (fun hn fr' st' g2 g3 => ?_) (fun dp hn hdp fr' g0 g2 g4 g30 g31 g32 => ?_)
    ·rw [hn] at hv
     have hv':((0,200):Int × Int) = verEnd (verL c.length c 0 (dep0 c.length) 0) := hv
     simp (disch:=first|omega|decide) only [push_cast,g2,g3]
     rw [← hv']
    ·rw [hn] at hv
     simp (disch:=first|omega|decide) only [push_cast,↓reduceIte,Nat.reduceEqDiff,g32,add_i]
     refine next_head (i + 1,dp,max (max s (at' dep i)) (afterF x (at' dep i))) ⟨by dsimp only; omega,hdp,hv⟩ (by dsimp only; omega) ?_
     simp only [push_cast,↓reduceIte,Nat.reduceLT,Nat.reduceLeDiff,g0,g2,g4,g30,g31] <;> rfl
   ·have e13:(x.op = 13) = False := eq_false h13
    have hnx:nexts x (i:Int) = [(i:Int) + 1] := by simp [nexts,h13,h14,h15,h16]
    have hbad:¬ verBad x (at' dep i) := by unfold verBad; omega
    rw [if_neg hbad,hnx] at hv
    have hp0:papp [⟨true,1,dep.map nI,false⟩,⟨false,1,insC x,false⟩] 1 8 (.slc 0 [] true) (.slc 1 [.int .i64 ((i:Int) + 1)] true) = some (.row 2 1 0 1,[⟨true,1,dep.map nI,false⟩,⟨false,1,insC x,false⟩,⟨true,1,[.int .i64 ((i:Int) + 1)],false⟩]) := (rfl)
    simp (disch:=first|omega|decide) only [push_cast,↓reduceIte,Nat.reduceEqDiff,↓Int.reduceNatCast',hx,pld_ins,box_ins0,st_ins,hd0,hd1,h0,ld_ins0,he,sub_i,add_i,hbad0,lit1,e15,e14,e13,e16,haf.symm,hp0,li1]
    have hl := w_verL0 (tb [(50,sp_tEff)] [(46,si_con),(49,si_rep)]) c x i hil hc4 (max (max s (at' dep i)) (afterF x (at' dep i))) (afterF x (at' dep i)) (by omega) (by omega) [(i:Int) + 1] (by simp) dep hdk
    refine wW_st (st' := (⟨true,1,dep.map nI,false⟩ :: ⟨false,1,insC x,false⟩ :: bufS 1 (([(i:Int) + 1]:List Int).map nI))) rfl ?_
    refine hl _ _ rfl rfl rfl rfl rfl rfl rfl rfl rfl rfl rfl (fun hn fr' st' g2 g3 => ?_) (fun dp hn hdp fr' g0 g2 g4 g30 g31 g32 => ?_)
    ·rw [hn] at hv
     have hv':((0,200):Int × Int) = verEnd (verL c.length c 0 (dep0 c.length) 0) := hv
     simp (disch:=first|omega|decide) only [push_cast,g2,g3]
     rw [← hv']
    ·rw [hn] at hv
     simp (disch:=first|omega|decide) only [push_cast,↓reduceIte,Nat.reduceEqDiff,g32,add_i]
     refine next_head (i + 1,dp,max (max s (at' dep i)) (afterF x (at' dep i))) ⟨by dsimp only; omega,hdp,hv⟩ (by dsimp only; omega) ?_
     simp only [push_cast,↓reduceIte,Nat.reduceLT,Nat.reduceLeDiff,g0,g2,g4,g30,g31] <;> rfl
  ·obtain rfl:i = c.length := by omega
   rw [List.drop_length,verL] at hv
   rw [← hv]
   by_cases h6:64 < s
   ·rw [show verEnd (some s) = (0,2) from if_pos h6]
    simp (disch:=first|omega|decide) only [push_cast,↓reduceIte,Nat.reduceEqDiff,h6]
   ·rw [show verEnd (some s) = (s,0) from if_neg h6]
    simp (disch:=first|omega|decide) only [push_cast,↓reduceIte,Nat.reduceEqDiff,h6]
set_option maxRecDepth 20000 in
theorem c_tVer:Contract Tryd.prog GG 24 sp_tVer :=
 contract_of (T := tb [(50,sp_tEff)] [(46,si_con),(49,si_rep)]) tr_tcode_Verify (tb_ok (all_cons c_tEff all_nil) (all_cons ci_con (all_cons ci_rep all_nil))) (fun a h => w_tVer a h)
end Go.Proofs.YtlleccmnjpcogaaDoor.PI
namespace Go.Proofs.YtlleccmnjpcogaaDoor.PI
open Go
set_option linter.unusedSimpArgs false
set_option linter.unusedVariables false
def machC (v:Int × List Int) (p f t c:Int) (S:D) (b:Int):List D := evC v ++ [.int .i64 p,.int .i64 f,.int .i64 t,.int .i64 c,S,.int .i64 b]
def vOK (v:Int × List Int):Prop := v.2.length = 16
theorem evC_length {v:Int × List Int} (hv:vOK v):(evC v).length = 17 := by simp [evC,show v.2.length = 16 from hv]
section
variable {v:Int × List Int} (hv:vOK v) (lent:Bool) (p f t c:Int) (S:D) (b:Int)
include hv
theorem ldm_17:ldO (some ⟨false,1,machC v p f t c S b,lent⟩) 1 false 17 = some (.int .i64 p) := ldO_mid1 (A := evC v) rfl (evC_length hv)
theorem ldm_21:ldO (some ⟨false,1,machC v p f t c S b,lent⟩) 1 false 21 = some S := ldO_mid1 (A := evC v ++ [.int .i64 p,.int .i64 f,.int .i64 t,.int .i64 c]) (by simp [machC]; rfl) (by simp [evC_length hv])
theorem ldm_22:ldO (some ⟨false,1,machC v p f t c S b,lent⟩) 1 false 22 = some (.int .i64 b) := ldO_mid1 (A := evC v ++ [.int .i64 p,.int .i64 f,.int .i64 t,.int .i64 c,S]) (C := []) (by simp [machC]) (by simp [evC_length hv])
omit hv in
theorem ldm_0:ldO (some ⟨false,1,machC v p f t c S b,lent⟩) 1 false 0 = some (.int .i64 v.1) := ldO_mid1 (A := []) (C := v.2.map nI ++ [.int .i64 p,.int .i64 f,.int .i64 t,.int .i64 c,S,.int .i64 b]) (by simp [machC,evC]) rfl
theorem ldm_v (i:Nat) (h:i < 16):ldO (some ⟨false,1,machC v p f t c S b,lent⟩) 1 false (1 + i) = some (.int .i64 (at' v.2 i)) := by
 have hi:i < v.2.length := by rw [show v.2.length = 16 from hv]; exact h
 have e:v.2 = v.2.take i ++ (at' v.2 i :: v.2.drop (i + 1)) := by
  rw [at',← drop_cons v.2 hi,List.take_append_drop]
 refine ldO_mid1 (A := .int .i64 v.1 :: (v.2.take i).map nI) (C := (v.2.drop (i + 1)).map nI ++ [.int .i64 p,.int .i64 f,.int .i64 t,.int .i64 c,S,.int .i64 b]) ?_ (by simp; omega)
 have e2 := congrArg (List.map nI) e
 rw [List.map_append,List.map_cons] at e2
 simp only [machC,evC]
 rw [e2]
 simp [nI]
theorem ldm_s:ldO (some ⟨false,1,machC v p f t c S b,lent⟩) 5 true 17 = some (.agg [.int .i64 p,.int .i64 f,.int .i64 t,.int .i64 c,S]) := ldO_mid (A := evC v) (B := [.int .i64 p,.int .i64 f,.int .i64 t,.int .i64 c,S]) (C := [.int .i64 b]) (by simp [machC]) (evC_length hv) rfl
theorem stm_17 (p':Int):stO (some ⟨false,1,machC v p f t c S b,false⟩) 1 17 (.int .i64 p') = some ⟨false,1,machC v p' f t c S b,false⟩ := stO_mid (A := evC v) (B := [.int .i64 p]) (C := [.int .i64 f,.int .i64 t,.int .i64 c,S,.int .i64 b]) (xs := [.int .i64 p']) rfl rfl (evC_length hv) rfl rfl rfl rfl
theorem stm_19 (t':Int):stO (some ⟨false,1,machC v p f t c S b,false⟩) 1 19 (.int .i64 t') = some ⟨false,1,machC v p f t' c S b,false⟩ := stO_mid (A := evC v ++ [.int .i64 p,.int .i64 f]) (B := [.int .i64 t]) (C := [.int .i64 c,S,.int .i64 b]) (xs := [.int .i64 t']) (by simp [machC]) (by simp [machC]) (by simp [evC_length hv]) rfl rfl rfl rfl
theorem stm_20 (c':Int):stO (some ⟨false,1,machC v p f t c S b,false⟩) 1 20 (.int .i64 c') = some ⟨false,1,machC v p f t c' S b,false⟩ := stO_mid (A := evC v ++ [.int .i64 p,.int .i64 f,.int .i64 t]) (B := [.int .i64 c]) (C := [S,.int .i64 b]) (xs := [.int .i64 c']) (by simp [machC]) (by simp [machC]) (by simp [evC_length hv]) rfl rfl rfl rfl
theorem stm_21s (sz:Nat) (els:List D) (tt:Bool):stO (some ⟨false,1,machC v p f t c S b,false⟩) 1 21 (.slc sz els tt) = some ⟨false,1,machC v p f t c (.slc sz els tt) b,false⟩ := stO_mid (A := evC v ++ [.int .i64 p,.int .i64 f,.int .i64 t,.int .i64 c]) (B := [S]) (C := [.int .i64 b]) (xs := [.slc sz els tt]) (by simp [machC]) (by simp [machC]) (by simp [evC_length hv]) rfl rfl rfl rfl
theorem stm_21r (k to of ln:Nat):stO (some ⟨false,1,machC v p f t c S b,false⟩) 1 21 (.row k to of ln) = some ⟨false,1,machC v p f t c (.row k to of ln) b,false⟩ := stO_mid (A := evC v ++ [.int .i64 p,.int .i64 f,.int .i64 t,.int .i64 c]) (B := [S]) (C := [.int .i64 b]) (xs := [.row k to of ln]) (by simp [machC]) (by simp [machC]) (by simp [evC_length hv]) rfl rfl rfl rfl
end
theorem machC_inj {v v':Int × List Int} (hv:vOK v) (hv':vOK v') {p f t c b p' f' t' c' b':Int} {S S':D} (h:machC v p f t c S b = machC v' p' f' t' c' S' b'):v = v' ∧ p = p' ∧ f = f' ∧ t = t' ∧ c = c' ∧ S = S' ∧ b = b' := by
 unfold machC at h
 obtain ⟨h1,h2⟩ := List.append_inj h ((evC_length hv).trans (evC_length hv').symm)
 simp only [List.cons.injEq,D.int.injEq,true_and,and_true] at h2
 refine ⟨?_,h2⟩
 have:evD v = evD v' := by rw [evD,evD,h1]
 exact evD_iff.1 this
def mset (st:St) (key:Nat) (C:List D):St := st.set key ⟨false,1,C,false⟩
theorem mset_length (st:St) (key:Nat) (C:List D):(mset st key C).length = st.length := List.length_set
theorem mset_get {st:St} {key:Nat} (h:key < st.length) (C:List D):(mset st key C)[key]? = some ⟨false,1,C,false⟩ := by simp [mset,h]
theorem set_fold (st:St) (key:Nat) (C:List D):List.set st key (⟨false,1,C,false⟩:PI.Obj) = mset st key C := (rfl)
theorem mset_mset (st:St) (key:Nat) (C C':List D):mset (mset st key C) key C' = mset st key C' := by simp [mset]
theorem mset_app {st:St} {key:Nat} (h:key < st.length) (m:St) (C:List D):mset (st ++ m) key C = mset st key C ++ m := by
 unfold mset; exact List.set_append_left _ _ h
theorem get_app {st:St} {key:Nat} (h:key < st.length) (m:St):(st ++ m)[key]? = st[key]? := List.getElem?_append_left h
theorem mget_app {st:St} {key:Nat} (h:key < st.length) (C:List D) (m:St):(mset st key C ++ m)[key]? = some ⟨false,1,C,false⟩ := by
 rw [get_app (by rw [mset_length]; exact h),mset_get h]
theorem mset_app2 {st:St} {key:Nat} (h:key < st.length) (m:St) (C C':List D):mset (mset st key C ++ m) key C' = mset st key C' ++ m := by
 rw [mset_app (by rw [mset_length]; exact h),mset_mset]
theorem len_app (st:St) (o:PI.Obj):(st ++ [o]).length = st.length + 1 := by simp
def machAt (st:St) (key:Nat) (v:Int × List Int) (p f t c:Int) (S:D) (b:Int):Prop := st[key]? = some ⟨false,1,machC v p f t c S b,false⟩
theorem machAt_lt {st:St} {key:Nat} {v:Int × List Int} {p f t c:Int} {S:D} {b:Int} (h:machAt st key v p f t c S b):key < st.length := (List.getElem?_eq_some_iff.1 h).1
theorem machAt_app {st:St} {key:Nat} {v:Int × List Int} {p f t c:Int} {S:D} {b:Int} (h:machAt st key v p f t c S b) (m:St):machAt (st ++ m) key v p f t c S b := by
 unfold machAt; rw [get_app (machAt_lt h)]; exact h
theorem machAt_fun {st:St} {key:Nat} {v v':Int × List Int} {p f t c b p' f' t' c' b':Int} {S S':D} (hv:vOK v) (hv':vOK v') (h:machAt st key v p f t c S b) (h':machAt st key v' p' f' t' c' S' b'):v = v' ∧ p = p' ∧ f = f' ∧ t = t' ∧ c = c' ∧ S = S' ∧ b = b' := by
 unfold machAt at h h'
 rw [h] at h'
 simp only [Option.some.injEq,PI.Obj.mk.injEq,true_and,and_true] at h'
 exact machC_inj hv hv' h'
theorem nilc_ptr (st:St) (key off:Nat):nilcD st (.ptr key off) = some (.ptr key off) := (rfl)
def topF (l:List Int) (i:Nat):Int := at' l (l.length - 1 - i)
def topR (ds:List D) (os:List (Option (Bool × Nat × List D))) (d:D):Prop := ∃ (key:Nat) (v:Int × List Int) (p f t c:Int) (l:List Int) (b:Int) (i:Nat),vOK v ∧ i < l.length ∧ l.length ≤ 4294967296 ∧ ds = [.ptr key 0,.int .i64 (i:Int)] ∧ os = [some (false,1,machC v p f t c (intsO l) b)] ∧ d = .int .i64 (topF l i)
noncomputable def sq_top:List D → List (Option (Bool × Nat × List D)) → Option D := fun ds os => @dite _ (∃ d,topR ds os d) (Classical.propDecidable _) (fun h => some h.choose) (fun _ => none)
theorem topR_fun {ds:List D} {os:List (Option (Bool × Nat × List D))} {d d':D} (h:topR ds os d) (h':topR ds os d'):d = d' := by
 obtain ⟨key,v,p,f,t,c,l,b,i,hv,_,_,rfl,rfl,rfl⟩ := h
 obtain ⟨key',v',p',f',t',c',l',b',i',hv',_,_,h1,h2,rfl⟩ := h'
 simp only [List.cons.injEq,D.int.injEq,true_and,and_true,Int.ofNat_inj,Option.some.injEq,Prod.mk.injEq] at h1 h2
 obtain ⟨_,rfl⟩ := h1
 obtain ⟨_,_,_,_,_,h3,_⟩ := machC_inj hv hv' h2
 rw [intsO_iff.1 h3]
theorem sq_top_eq {ds:List D} {os:List (Option (Bool × Nat × List D))} {d:D} (h:topR ds os d):sq_top ds os = some d := by
 have hx:∃ d,topR ds os d := ⟨d,h⟩
 unfold sq_top
 rw [dif_pos hx,topR_fun hx.choose_spec h]
theorem sq_top_inv {ds:List D} {os:List (Option (Bool × Nat × List D))} {d:D} (h:sq_top ds os = some d):topR ds os d := by
 unfold sq_top at h
 split at h
 ·rename_i hx
  simp only [Option.some.injEq] at h
  rw [← h]; exact hx.choose_spec
 ·cases h
theorem call_top {st:St} {key:Nat} {v:Int × List Int} {p f t c:Int} {l:List Int} {b:Int} (hv:vOK v) (h:machAt st key v p f t c (intsO l) b) (i:Nat) (hi:i < l.length) (hl:l.length ≤ 4294967296):reads1 sq_top [.ptr key 0,.int .i64 (i:Int)] st = some (.int .i64 (topF l i)) := by
 unfold reads1
 have e:([D.ptr key 0,.int .i64 (i:Int)]).flatMap hk = [key] := rfl
 unfold machAt at h
 rw [e]
 simp only [List.all_cons,List.all_nil,Bool.and_true,h,Option.isSome_some,if_true,sees,Option.map_some,PI.Obj.see]
 exact sq_top_eq ⟨key,v,p,f,t,c,l,b,i,hv,hi,hl,rfl,rfl,rfl⟩
theorem sees_one {st:St} {key:Nat} {r:Bool × Nat × List D} (h:sees st [key] = [some r]):∃ lent,st[key]? = some ⟨r.1,r.2.1,r.2.2,lent⟩ := by
 simp only [sees,List.cons.injEq,and_true] at h
 cases hk:st[key]? with
 | none => simp [hk] at h
 | some o =>
  rw [hk] at h
  simp only [Option.map_some,Option.some.injEq,PI.Obj.see] at h
  subst h
  exact ⟨o.lent,rfl⟩
set_option maxHeartbeats 4000000 in
set_option maxRecDepth 20000 in
theorem ci_top:IContract Tryd.prog GG 92 (fun ds st => (reads1 sq_top ds st).map (·,st)) := by
 refine icontract_keep' (T := tb [] []) tr_tvm_machine_top (tb_ok all_nil all_nil) ?_
 intro ds st r hr
 simp only [Option.map_eq_some_iff] at hr
 obtain ⟨d,hd,rfl⟩ := hr
 unfold reads1 at hd
 split at hd
 case isFalse => cases hd
 obtain ⟨key,v,p,f,t,c,l,b,i,hv,hi,hl,rfl,h2,rfl⟩ := sq_top_inv hd
 obtain ⟨lent,hk⟩ := sees_one h2
 dsimp only at hk
 have hx:pidxS st 1 (intsO l) (.int .i64 ((l.length:Int) - 1 - (i:Int))) = some (.eptr (nI (topF l i)) 0) := by
  have := idx_nI st l false (l.length - 1 - i) (by omega)
  rw [show ((l.length - 1 - i:Nat):Int) = (l.length:Int) - 1 - (i:Int) by omega] at this
  exact this
 have hle:lenD st false (intsO l) = some (.int .i64 (l.length:Int)) := by simp [lenD,isStr,intsO,sLen]
 unfold F_tvm_machine_top
 simp (disch:=first|omega|decide) only [push_cast,↓reduceIte,Nat.reduceEqDiff,Nat.reduceAdd,nilc_ptr,hk,ldm_21 hv,hle,sub_i,hx,pld_nI]
def pushD:Option Int → D
 | none => .slc 0 [] true
 | some a => .slc 1 [.int .i64 a] true
def stkD (n:Nat) (l:List Int) (k:Nat):Option Int → D
 | none => .slc (nz 1 (l.map nI)) ((l.take (l.length - k)).map nI) true
 | some _ => .row n (l.length - k + 1) 0 (l.length - k + 1)
def stkO (l:List Int) (k:Nat):Option Int → St
 | none => []
 | some a => [⟨true,1,(l.take (l.length - k) ++ [a]).map nI,false⟩]
def popR (ds:List D) (st:St) (r:D × St):Prop := ∃ (key:Nat) (v:Int × List Int) (p f t c:Int) (l:List Int) (b:Int) (k:Nat) (push:Option Int),vOK v ∧ machAt st key v p f t c (intsO l) b ∧ k ≤ l.length ∧ l.length ≤ 100000 ∧ -1000000 ≤ p ∧ p ≤ 1000000 ∧
 ds = [.ptr key 0,.int .i64 (k:Int),pushD push] ∧ r = (.int .i64 0,mset st key (machC v (p + 1) f t c (stkD st.length l k push) b) ++ stkO l k push)
noncomputable def si_pop:List D → St → Option (D × St) := relI popR
theorem pushD_inj {a b:Option Int} (h:pushD a = pushD b):a = b := by
 cases a <;> cases b <;> simp_all [pushD]
theorem pop_fun:Fun1 popR := by
 rintro ds st r r' ⟨key,v,p,f,t,c,l,b,k,push,hv,hm,_,_,_,_,rfl,rfl⟩ ⟨key',v',p',f',t',c',l',b',k',push',hv',hm',_,_,_,_,h,rfl⟩
 simp only [List.cons.injEq,D.ptr.injEq,D.int.injEq,true_and,and_true,Int.ofNat_inj] at h
 obtain ⟨rfl,rfl,h3⟩ := h
 obtain rfl := pushD_inj h3
 obtain ⟨rfl,rfl,rfl,rfl,rfl,h4,rfl⟩ := machAt_fun hv hv' hm hm'
 rw [intsO_iff.1 h4]
theorem call_pop {st:St} {key:Nat} {v:Int × List Int} {p f t c:Int} {l:List Int} {b:Int} (hv:vOK v) (hm:machAt st key v p f t c (intsO l) b) (k:Nat) (push:Option Int) (hk:k ≤ l.length) (hl:l.length ≤ 100000) (hp0:-1000000 ≤ p) (hp1:p ≤ 1000000) :
  si_pop [.ptr key 0,.int .i64 (k:Int),pushD push] st = some (.int .i64 0,mset st key (machC v (p + 1) f t c (stkD st.length l k push) b) ++ stkO l k push) :=
 relI_of pop_fun ⟨key,v,p,f,t,c,l,b,k,push,hv,hm,hk,hl,hp0,hp1,rfl,rfl⟩
set_option maxHeartbeats 4000000 in
set_option maxRecDepth 20000 in
theorem ci_pop:IContract Tryd.prog GG 90 si_pop := by
 refine icontract_keep' (T := tb [] []) tr_tvm_machine_pop (tb_ok all_nil all_nil) ?_
 intro ds st r hr
 obtain ⟨key,v,p,f,t,c,l,b,k,push,hv,hm,hk,hl,hp0,hp1,rfl,rfl⟩ := relI_inv hr
 have hlt := machAt_lt hm
 unfold machAt at hm
 have hle:lenD st false (intsO l) = some (.int .i64 (l.length:Int)) := by simp [lenD,isStr,intsO,sLen]
 have hsl:pslice st 1 (intsO l) none (some (.int .i64 ((l.length:Int) - (k:Int)))) (some (.int .i64 ((l.length:Int) - (k:Int)))) = some (.slc (nz 1 (l.map nI)) ((l.take (l.length - k)).map nI) true) := by
  have := sl_hhI st l false (k := l.length - k) (by omega)
  rwa [show ((l.length - k:Nat):Int) = (l.length:Int) - (k:Int) by omega] at this
 have htl:(l.take (l.length - k)).length = l.length - k := by rw [List.length_take]; omega
 unfold F_tvm_machine_pop
 cases push with
 | none =>
  have happ:papp st 1 8 (.slc (nz 1 (l.map nI)) ((l.take (l.length - k)).map nI) true) (.slc 0 [] true) = some (.slc (nz 1 (l.map nI)) ((l.take (l.length - k)).map nI) true,st) := papp_keep st 1 8 _ 0 _ true (by decide)
  simp (disch:=first|omega|decide) only [push_cast,↓reduceIte,Nat.reduceEqDiff,Nat.reduceAdd,pushD,nilc_ptr,hm,ldm_21 hv,ldm_17 hv,hle,sub_i,hsl,happ,stm_21s hv,stm_17 hv,set_fold,mset_get hlt,mset_mset,add_i,stkD,stkO]
 | some a =>
  have happ:papp st 1 8 (.slc (nz 1 (l.map nI)) ((l.take (l.length - k)).map nI) true) (.slc 1 [.int .i64 a] true) = some (.row st.length (l.length - k + 1) 0 (l.length - k + 1),st ++ [⟨true,1,(l.take (l.length - k) ++ [a]).map nI,false⟩]) := by
   have := papp_new st 1 8 (nz 1 (l.map nI)) ((l.take (l.length - k)).map nI) (.slc 1 [.int .i64 a] true) [.int .i64 a] 1 rfl (.inl rfl) (by
    cases l with
    | nil => right; simp
    | cons x r => left; rfl) (by decide) (by simp) (by simp [htl]; omega) (by simp [htl]; omega)
   rw [this]
   simp [nI]
  simp (disch:=first|omega|decide) only [push_cast,↓reduceIte,Nat.reduceEqDiff,Nat.reduceAdd,pushD,nilc_ptr,hm,ldm_21 hv,ldm_17 hv,hle,sub_i,hsl,happ,get_app hlt,stm_21r hv,stm_17 hv,set_fold,mset_app hlt,mget_app hlt,mset_app2 hlt,add_i,stkD,stkO]
end Go.Proofs.YtlleccmnjpcogaaDoor.PI
namespace Go.Proofs.YtlleccmnjpcogaaDoor.PI
open Go
set_option linter.unusedSimpArgs false
set_option maxHeartbeats 8000000
set_option maxRecDepth 20000
set_option linter.unusedVariables false
def binF (op a b:Int):Int × Int :=
 if op = 3 then addF a b else if op = 4 then subF a b else if op = 5 then mulF a b else if op = 6 then (min a b,0) else if op = 7 then (max a b,0) else
 if op = 8 then divF a b 8 else if op = 9 then divF a b 9 else if op = 10 then divF a b 10 else if op = 11 then (if a < b then 1 else 0,0) else (0,0)
noncomputable def sp_truth:List D → Option D := spOf (α := Bool) (fun a => [.bool a]) (fun a => True) (fun a => .int .i64 (if a = true then 1 else 0))
theorem call_truth (x:Bool):sp_truth [.bool x] = some (.int .i64 (if x = true then 1 else 0)) :=
 spOf_enc (fun a b h => by simp only [List.cons.injEq,D.bool.injEq,and_true] at h; simp [h]) (x) trivial
theorem w_truth (x:Bool):@wW GG (tb [] []) F_tvm_truth.code (argF [.bool x]) [] ⟨retQ F_tvm_truth.res (.int .i64 (if x = true then 1 else 0))⟩ := by
 unfold F_tvm_truth
 cases x <;> simp (disch:=first|omega|decide) only [push_cast,↓reduceIte,Nat.reduceEqDiff]
theorem c_truth:Contract Tryd.prog GG 91 sp_truth :=
 contract_of tr_tvm_truth (tb_ok all_nil all_nil) (fun a h => w_truth a)
noncomputable def sp_bin1:List D → Option D := spOf (α := Int × Int) (fun a => [.int .i64 a.1,.int .i64 a.2]) (fun a => True) (fun a => .tup [.int .i64 (min a.1 a.2),.int .i64 0])
theorem call_bin1 (a:Int) (b:Int):sp_bin1 [.int .i64 a,.int .i64 b] = some (.tup [.int .i64 (min a b),.int .i64 0]) :=
 spOf_enc (fun ⟨a0,a1⟩ ⟨b0,b1⟩ h => by simp only [List.cons.injEq,D.int.injEq,true_and,and_true] at h; simp [h]) (a,b) trivial
theorem w_bin1 (a:Int) (b:Int):@wW GG (tb [] []) F_tvm_binaries_1.code (argF [.int .i64 a,.int .i64 b]) [] ⟨retQ F_tvm_binaries_1.res (.tup [.int .i64 (min a b),.int .i64 0])⟩ := by
 unfold F_tvm_binaries_1
 simp (disch:=first|omega|decide) only [push_cast,↓reduceIte,Nat.reduceEqDiff]
theorem c_bin1:Contract Tryd.prog GG 115 sp_bin1 :=
 contract_of tr_tvm_binaries_1 (tb_ok all_nil all_nil) (fun a h => w_bin1 a.1 a.2)
noncomputable def sp_bin2:List D → Option D := spOf (α := Int × Int) (fun a => [.int .i64 a.1,.int .i64 a.2]) (fun a => True) (fun a => .tup [.int .i64 (max a.1 a.2),.int .i64 0])
theorem call_bin2 (a:Int) (b:Int):sp_bin2 [.int .i64 a,.int .i64 b] = some (.tup [.int .i64 (max a b),.int .i64 0]) :=
 spOf_enc (fun ⟨a0,a1⟩ ⟨b0,b1⟩ h => by simp only [List.cons.injEq,D.int.injEq,true_and,and_true] at h; simp [h]) (a,b) trivial
theorem w_bin2 (a:Int) (b:Int):@wW GG (tb [] []) F_tvm_binaries_2.code (argF [.int .i64 a,.int .i64 b]) [] ⟨retQ F_tvm_binaries_2.res (.tup [.int .i64 (max a b),.int .i64 0])⟩ := by
 unfold F_tvm_binaries_2
 simp (disch:=first|omega|decide) only [push_cast,↓reduceIte,Nat.reduceEqDiff]
theorem c_bin2:Contract Tryd.prog GG 116 sp_bin2 :=
 contract_of tr_tvm_binaries_2 (tb_ok all_nil all_nil) (fun a h => w_bin2 a.1 a.2)
noncomputable def sp_bin3:List D → Option D := spOf (α := Int × Int) (fun a => [.int .i64 a.1,.int .i64 a.2]) (fun a => True) (fun a => .tup [.int .i64 (divF a.1 a.2 8).1,.int .i64 (divF a.1 a.2 8).2])
theorem call_bin3 (a:Int) (b:Int):sp_bin3 [.int .i64 a,.int .i64 b] = some (.tup [.int .i64 (divF a b 8).1,.int .i64 (divF a b 8).2]) :=
 spOf_enc (fun ⟨a0,a1⟩ ⟨b0,b1⟩ h => by simp only [List.cons.injEq,D.int.injEq,true_and,and_true] at h; simp [h]) (a,b) trivial
theorem w_bin3 (a:Int) (b:Int):@wW GG (tb [(118,sp_mnDiv)] []) F_tvm_binaries_3.code (argF [.int .i64 a,.int .i64 b]) [] ⟨retQ F_tvm_binaries_3.res (.tup [.int .i64 (divF a b 8).1,.int .i64 (divF a b 8).2])⟩ := by
 unfold F_tvm_binaries_3
 simp (disch:=first|omega|decide) only [push_cast,↓reduceIte,Nat.reduceEqDiff,call_mnDiv a b 8 (.inl rfl)]
theorem c_bin3:Contract Tryd.prog GG 117 sp_bin3 :=
 contract_of tr_tvm_binaries_3 (tb_ok (all_cons c_mnDiv all_nil) all_nil) (fun a h => w_bin3 a.1 a.2)
noncomputable def sp_bin4:List D → Option D := spOf (α := Int × Int) (fun a => [.int .i64 a.1,.int .i64 a.2]) (fun a => True) (fun a => .tup [.int .i64 (divF a.1 a.2 9).1,.int .i64 (divF a.1 a.2 9).2])
theorem call_bin4 (a:Int) (b:Int):sp_bin4 [.int .i64 a,.int .i64 b] = some (.tup [.int .i64 (divF a b 9).1,.int .i64 (divF a b 9).2]) :=
 spOf_enc (fun ⟨a0,a1⟩ ⟨b0,b1⟩ h => by simp only [List.cons.injEq,D.int.injEq,true_and,and_true] at h; simp [h]) (a,b) trivial
theorem w_bin4 (a:Int) (b:Int):@wW GG (tb [(118,sp_mnDiv)] []) F_tvm_binaries_4.code (argF [.int .i64 a,.int .i64 b]) [] ⟨retQ F_tvm_binaries_4.res (.tup [.int .i64 (divF a b 9).1,.int .i64 (divF a b 9).2])⟩ := by
 unfold F_tvm_binaries_4
 simp (disch:=first|omega|decide) only [push_cast,↓reduceIte,Nat.reduceEqDiff,call_mnDiv a b 9 (.inr (.inl rfl))]
theorem c_bin4:Contract Tryd.prog GG 119 sp_bin4 :=
 contract_of tr_tvm_binaries_4 (tb_ok (all_cons c_mnDiv all_nil) all_nil) (fun a h => w_bin4 a.1 a.2)
noncomputable def sp_bin5:List D → Option D := spOf (α := Int × Int) (fun a => [.int .i64 a.1,.int .i64 a.2]) (fun a => True) (fun a => .tup [.int .i64 (divF a.1 a.2 10).1,.int .i64 (divF a.1 a.2 10).2])
theorem call_bin5 (a:Int) (b:Int):sp_bin5 [.int .i64 a,.int .i64 b] = some (.tup [.int .i64 (divF a b 10).1,.int .i64 (divF a b 10).2]) :=
 spOf_enc (fun ⟨a0,a1⟩ ⟨b0,b1⟩ h => by simp only [List.cons.injEq,D.int.injEq,true_and,and_true] at h; simp [h]) (a,b) trivial
theorem w_bin5 (a:Int) (b:Int):@wW GG (tb [(118,sp_mnDiv)] []) F_tvm_binaries_5.code (argF [.int .i64 a,.int .i64 b]) [] ⟨retQ F_tvm_binaries_5.res (.tup [.int .i64 (divF a b 10).1,.int .i64 (divF a b 10).2])⟩ := by
 unfold F_tvm_binaries_5
 simp (disch:=first|omega|decide) only [push_cast,↓reduceIte,Nat.reduceEqDiff,call_mnDiv a b 10 (.inr (.inr rfl))]
theorem c_bin5:Contract Tryd.prog GG 120 sp_bin5 :=
 contract_of tr_tvm_binaries_5 (tb_ok (all_cons c_mnDiv all_nil) all_nil) (fun a h => w_bin5 a.1 a.2)
noncomputable def sp_bin6:List D → Option D := spOf (α := Int × Int) (fun a => [.int .i64 a.1,.int .i64 a.2]) (fun a => True) (fun a => .tup [.int .i64 (if a.1 < a.2 then 1 else 0),.int .i64 0])
theorem call_bin6 (a:Int) (b:Int):sp_bin6 [.int .i64 a,.int .i64 b] = some (.tup [.int .i64 (if a < b then 1 else 0),.int .i64 0]) :=
 spOf_enc (fun ⟨a0,a1⟩ ⟨b0,b1⟩ h => by simp only [List.cons.injEq,D.int.injEq,true_and,and_true] at h; simp [h]) (a,b) trivial
theorem w_bin6 (a:Int) (b:Int):@wW GG (tb [(91,sp_truth)] []) F_tvm_binaries_6.code (argF [.int .i64 a,.int .i64 b]) [] ⟨retQ F_tvm_binaries_6.res (.tup [.int .i64 (if a < b then 1 else 0),.int .i64 0])⟩ := by
 unfold F_tvm_binaries_6
 have hc := call_truth (decide (a < b))
 by_cases h:a < b
 ·rw [decide_eq_true h] at hc
  simp (disch:=first|omega|decide) only [push_cast,↓reduceIte,Nat.reduceEqDiff,h,hc]
 ·rw [decide_eq_false h] at hc
  simp (disch:=first|omega|decide) only [push_cast,↓reduceIte,Nat.reduceEqDiff,h,hc]
theorem c_bin6:Contract Tryd.prog GG 121 sp_bin6 :=
 contract_of tr_tvm_binaries_6 (tb_ok (all_cons c_truth all_nil) all_nil) (fun a h => w_bin6 a.1 a.2)
theorem over_ints {sp:List D → Option D} {a b x y:Int} (h:sp [.int .i64 a,.int .i64 b] = some (.tup [.int .i64 x,.int .i64 y])) (st:St):overSt sp [.int .i64 a,.int .i64 b] st = some (.tup [.int .i64 x,.int .i64 y],st) := by
 have h1:imms st [.int .i64 a,.int .i64 b] = some [.int .i64 a,.int .i64 b] := (rfl)
 simp only [overSt,h1,h]
 rfl
def needF (op:Int):Int := if op = 12 ∨ op = 13 ∨ op = 15 then 1 else if 3 ≤ op ∧ op ≤ 11 then 2 else 0
theorem gf_bin (op:Int) (h:3 ≤ op ∧ op ≤ 11):∃ f,gfind op binA = some f := by
 obtain ⟨h1,h2⟩ := h
 have:op = 3 ∨ op = 4 ∨ op = 5 ∨ op = 6 ∨ op = 7 ∨ op = 8 ∨ op = 9 ∨ op = 10 ∨ op = 11 := by omega
 rcases this with rfl | rfl | rfl | rfl | rfl | rfl | rfl | rfl | rfl <;> exact ⟨_,rfl⟩
theorem gf_none (op:Int) (h:¬ (3 ≤ op ∧ op ≤ 11)):gfind op binA = none := by
 simp only [binA,gfind]
 rw [if_neg (by omega),if_neg (by omega),if_neg (by omega),if_neg (by omega),if_neg (by omega),if_neg (by omega),if_neg (by omega),if_neg (by omega),if_neg (by omega)]
theorem mapget_g (st:St) (op:Int) (ok:Bool) (zero:D):pmapget st 0 [] ok zero (.gmap binA) (.int .i64 op) = some (match gfind op binA with
  | some f => if ok then .tup [.agg [.clo f []],.bool true] else .agg [.clo f []]
  | none => if ok then .tup [zero,.bool false] else zero) := (rfl)
theorem box_nf:boxD (.agg [.nilf]) = some [.nilf] := (rfl)
theorem st_nf (f:Nat):stO (some ⟨false,1,[.nilf],false⟩) 1 0 (.agg [.clo f []]) = some ⟨false,1,[.clo f []],false⟩ := (rfl)
theorem st_nn:stO (some ⟨false,1,[.nilf],false⟩) 1 0 (.agg [.nilf]) = some ⟨false,1,[.nilf],false⟩ := (rfl)
theorem pld_g (st:St):pload st 1 false (.eptr (.gmap binA) 0) = some (.gmap binA) := (rfl)
noncomputable def sp_needs:List D → Option D := spOf (α := Int) (fun a => [.int .i64 a]) (fun a => True) (fun a => .int .i64 (needF a))
theorem call_needs (op:Int):sp_needs [.int .i64 op] = some (.int .i64 (needF op)) :=
 spOf_enc (fun a b h => by simp only [List.cons.injEq,D.int.injEq,true_and,and_true] at h; simp [h]) (op) trivial
theorem w_needs (op:Int):@wW GG (tb [] []) F_tvm_needs.code (argF [.int .i64 op]) [] ⟨retQ F_tvm_needs.res (.int .i64 (needF op))⟩ := by
 unfold F_tvm_needs needF
 by_cases h1:op = 12
 ·subst h1; simp (disch:=first|omega|decide) only [push_cast,↓reduceIte,Nat.reduceEqDiff,true_or]
 ·by_cases h2:op = 13
  ·subst h2; simp (disch:=first|omega|decide) only [push_cast,↓reduceIte,Nat.reduceEqDiff,h1,true_or,or_true]
  ·by_cases h3:op = 15
   ·subst h3; simp (disch:=first|omega|decide) only [push_cast,↓reduceIte,Nat.reduceEqDiff,h1,h2,or_true]
   ·have hn:¬ (op = 12 ∨ op = 13 ∨ op = 15) := by omega
    rw [if_neg hn]
    by_cases h4:3 ≤ op ∧ op ≤ 11
    ·obtain ⟨f,hf⟩ := gf_bin op h4
     have hg := mapget_g [] op true (.agg [.nilf])
     rw [hf] at hg
     simp (disch:=first|omega|decide) only [push_cast,↓reduceIte,Nat.reduceEqDiff,h1,h2,h3,h4,rho_g _ _ _ _ GG_b,pld_g,hg,box_nf,st_nf]
    ·have hf := gf_none op h4
     have hg := mapget_g [] op true (.agg [.nilf])
     rw [hf] at hg
     simp (disch:=first|omega|decide) only [push_cast,↓reduceIte,Nat.reduceEqDiff,h1,h2,h3,h4,rho_g _ _ _ _ GG_b,pld_g,hg,box_nf,st_nn]
theorem c_needs:Contract Tryd.prog GG 62 sp_needs :=
 contract_of tr_tvm_needs (tb_ok all_nil all_nil) (fun a h => w_needs a)
end Go.Proofs.YtlleccmnjpcogaaDoor.PI
namespace Go.Proofs.YtlleccmnjpcogaaDoor.PI
open Go
set_option linter.unusedSimpArgs false
set_option maxHeartbeats 8000000
set_option maxRecDepth 20000
set_option linter.unusedVariables false
inductive Out where
 | err (e:Int)
 | pop (k:Nat) (push:Option Int) (pc:Option Int)
 | set (p t c:Int)
def andI (a b:Int):Int := IntKind.wrap .i64 ((BitVec.ofInt 64 a &&& BitVec.ofInt 64 b).toNat:Int)
def bitI (n:Int):Int := IntKind.wrap .i64 (1 * 2 ^ (min n.toNat 64))
def topS (s:Sta) (i:Nat):Int := topF s.stack i
def outF (v:Int × List Int) (b:Int) (s:Sta) (x:Ins):Out :=
 if x.op = 1 then (if 64 ≤ b + s.stack.length then .err 200 else .pop 0 (some x.n) none)
 else if x.op = 2 then (if 64 ≤ b + s.stack.length then .err 200 else if andI v.1 (bitI x.n) = 0 then .err 181 else if at' v.2 x.n.toNat < -9007199254740992 ∨ 9007199254740992 < at' v.2 x.n.toNat then .err 3 else .pop 0 (some (at' v.2 x.n.toNat)) none)
 else if x.op = 12 then .pop 1 (some (if x.n ≤ topS s 0 ∧ topS s 0 ≤ x.m then 1 else 0)) none
 else if x.op = 13 then .pop 1 none (if topS s 0 = 0 then some x.n else none)
 else if x.op = 14 then .set x.n s.status s.clause
 else if x.op = 15 then .set s.pc 1 x.n
 else if x.op = 16 then .err 180
 else if (binF x.op (topS s 1) (topS s 0)).2 = 0 then .pop 2 (some (binF x.op (topS s 1) (topS s 0)).1) none else .err (binF x.op (topS s 1) (topS s 0)).2
def outR (st:St) (key:Nat) (v:Int × List Int) (b:Int) (s:Sta) (x:Ins):Out → D × St
 | .err e => (.int .i64 e,st ++ [⟨false,1,insC x,false⟩])
 | .pop k push pc => (.int .i64 0,mset st key (machC v (pc.getD (s.pc + 1)) s.fuel s.status s.clause (stkD (st.length + 1) s.stack k push) b) ++ [⟨false,1,insC x,false⟩] ++ stkO s.stack k push)
 | .set p t c => (.int .i64 0,mset st key (machC v p s.fuel t c (intsO s.stack) b) ++ [⟨false,1,insC x,false⟩])
structure mOK (v:Int × List Int) (b:Int) (s:Sta) (x:Ins):Prop where
 v:vOK v
 b0:0 ≤ b
 b1:b ≤ 64
 l:s.stack.length ≤ 64
 p0:0 ≤ s.pc
 p1:s.pc ≤ 100000
 f:formedB x = true
 n:needF x.op ≤ s.stack.length
def mthR (P:Int → Prop) (ds:List D) (st:St) (r:D × St):Prop := ∃ (key:Nat) (v:Int × List Int) (b:Int) (s:Sta) (x:Ins),mOK v b s x ∧ P x.op ∧ machAt st key v s.pc s.fuel s.status s.clause (intsO s.stack) b ∧ ds = [.ptr key 0,insD x] ∧ r = outR st key v b s x (outF v b s x)
noncomputable def si_mth (P:Int → Prop):List D → St → Option (D × St) := relI (mthR P)
theorem mth_fun (P:Int → Prop):Fun1 (mthR P) := by
 rintro ds st r r' ⟨key,v,b,s,x,hm,_,hk,rfl,rfl⟩ ⟨key',v',b',s',x',hm',_,hk',h,rfl⟩
 simp only [List.cons.injEq,D.ptr.injEq,and_true,insD_iff] at h
 obtain ⟨rfl,rfl⟩ := h
 obtain ⟨rfl,h1,h2,h3,h4,h5,rfl⟩ := machAt_fun hm.v hm'.v hk hk'
 have h6 := intsO_iff.1 h5
 obtain ⟨a1,a2,a3,a4,a5⟩ := s
 obtain ⟨b1,b2,b3,b4,b5⟩ := s'
 dsimp only at h1 h2 h3 h4 h6
 subst h1; subst h2; subst h3; subst h4; subst h6
 rfl
theorem call_mth {P:Int → Prop} {st:St} {key:Nat} {v:Int × List Int} {b:Int} {s:Sta} {x:Ins} (hm:mOK v b s x) (hp:P x.op) (hk:machAt st key v s.pc s.fuel s.status s.clause (intsO s.stack) b):si_mth P [.ptr key 0,insD x] st = some (outR st key v b s x (outF v b s x)) :=
 relI_of (mth_fun P) ⟨key,v,b,s,x,hm,hp,hk,rfl,rfl⟩
theorem formed_n {x:Ins} (h:formedB x = true):0 ≤ x.n ∧ x.n ≤ 9007199254740992 ∧ (x.op = 2 → x.n < 16) := by
 have := of_decide_eq_true h
 obtain ⟨h1,h2,h3,h4,h5,h6⟩ := this
 have hm:(argsF x.op).2 ≤ 9007199254740992 := by rcases argsF_cases x.op with e | e | e | e <;> rw [e] <;> decide
 refine ⟨by omega,by omega,fun h7 => ?_⟩
 have:argsF x.op = (1,15) := by rw [h7]; rfl
 rw [this] at h6
 dsimp only at h6
 omega
theorem formed_op {x:Ins} (h:formedB x = true):1 ≤ x.op ∧ x.op ≤ 16 := ⟨(of_decide_eq_true h).1,(of_decide_eq_true h).2.1⟩
theorem and_i64 (a b:Int):pbin .and (.int .i64 a) (.int .i64 b) = some (.int .i64 (andI a b)) := (rfl)
theorem shl_1 {n:Int} (h:0 ≤ n):pbin .shl (.int .i64 1) (.int .i64 n) = some (.int .i64 (bitI n)) := by
 simp only [pbin,ishift,show ¬ n < 0 by omega,if_false,Option.map_some,bitI]
 rfl
theorem len_ints (st:St) (l:List Int):lenD st false (intsO l) = some (.int .i64 (l.length:Int)) := by simp [lenD,isStr,intsO,sLen]
theorem call_popB {st:St} {key:Nat} {v:Int × List Int} {p f t c:Int} {l:List Int} {b:Int} (hv:vOK v) (hm:machAt st key v p f t c (intsO l) b) (x:Ins) (k:Nat) (kI:Int) (hkI:kI = (k:Int)) (push:Option Int) (hk:k ≤ l.length) (hl:l.length ≤ 64) (hp0:0 ≤ p) (hp1:p ≤ 100000) :
  si_pop [.ptr key 0,.int .i64 kI,pushD push] (st ++ [⟨false,1,insC x,false⟩]) = some (.int .i64 0,mset st key (machC v (p + 1) f t c (stkD (st.length + 1) l k push) b) ++ [⟨false,1,insC x,false⟩] ++ stkO l k push) := by
 subst hkI
 have := call_pop hv (machAt_app hm [⟨false,1,insC x,false⟩]) k push hk (by omega) (by omega) (by omega)
 rwa [mset_app (machAt_lt hm),len_app] at this
theorem ci_push:IContract Tryd.prog GG 80 (si_mth (· = 1)) := by
 refine icontract_keep' (T := tb [] [(90,si_pop)]) tr_tvm_machine_push (tb_ok all_nil (all_cons ci_pop all_nil)) ?_
 intro ds st r hr
 obtain ⟨key,v,b,s,x,hm,hop,hk,rfl,rfl⟩ := relI_inv hr
 obtain ⟨hv,hb0,hb1,hl,hp0,hp1,hf,hn⟩ := hm
 have hlt := machAt_lt hk
 have hcp := call_popB hv hk x 0 0 rfl (some x.n) (Nat.zero_le _) hl hp0 hp1
 simp only [pushD] at hcp
 have hk' := hk
 unfold machAt at hk'
 unfold F_tvm_machine_push
 by_cases h1:64 ≤ b + (s.stack.length:Int)
 ·rw [show outF v b s x = .err 200 by unfold outF; rw [if_pos hop,if_pos h1]]
  simp (disch:=first|omega|decide) only [push_cast,↓reduceIte,Nat.reduceEqDiff,Nat.reduceAdd,box_ins,nilc_ptr,get_app hlt,hk',ldm_22 hv,ldm_21 hv,len_ints,add_i,h1,outR]
 ·rw [show outF v b s x = .pop 0 (some x.n) none by unfold outF; rw [if_pos hop,if_neg h1]]
  simp (disch:=first|omega|decide) only [push_cast,↓reduceIte,Nat.reduceEqDiff,Nat.reduceAdd,box_ins,nilc_ptr,get_app hlt,hk',ldm_22 hv,ldm_21 hv,len_ints,add_i,h1,get_len,ld_ins1,lit1,hcp,outR,Option.getD_none]
theorem ci_load:IContract Tryd.prog GG 81 (si_mth (· = 2)) := by
 refine icontract_keep' (T := tb [] [(90,si_pop)]) tr_tvm_machine_load (tb_ok all_nil (all_cons ci_pop all_nil)) ?_
 intro ds st r hr
 obtain ⟨key,v,b,s,x,hm,hop,hk,rfl,rfl⟩ := relI_inv hr
 obtain ⟨hv,hb0,hb1,hl,hp0,hp1,hf,hn⟩ := hm
 have hlt := machAt_lt hk
 have hk' := hk
 unfold machAt at hk'
 obtain ⟨hn0,_,hn16⟩ := formed_n hf
 have hn16 := hn16 hop
 have hv2:v.2.length = 16 := hv
 have hld := fun lent => ldm_v hv lent s.pc s.fuel s.status s.clause (intsO s.stack) b x.n.toNat (by omega)
 have hcp := call_popB hv hk x 0 0 rfl (some (at' v.2 x.n.toNat)) (Nat.zero_le _) hl hp0 hp1
 simp only [pushD] at hcp
 have e1:¬ x.op = 1 := by omega
 unfold F_tvm_machine_load
 by_cases h1:64 ≤ b + (s.stack.length:Int)
 ·rw [show outF v b s x = .err 200 by unfold outF; rw [if_neg e1,if_pos hop,if_pos h1]]
  simp (disch:=first|omega|decide) only [push_cast,↓reduceIte,Nat.reduceEqDiff,Nat.reduceAdd,Int.reduceNeg,box_ins,nilc_ptr,get_app hlt,hk',ldm_22 hv,ldm_21 hv,len_ints,add_i,outR,h1]
 ·by_cases h2:andI v.1 (bitI x.n) = 0
  ·rw [show outF v b s x = .err 181 by unfold outF; rw [if_neg e1,if_pos hop,if_neg h1,if_pos h2]]
   simp (disch:=first|omega|decide) only [push_cast,↓reduceIte,Nat.reduceEqDiff,Nat.reduceAdd,Int.reduceNeg,box_ins,nilc_ptr,get_app hlt,hk',ldm_22 hv,ldm_21 hv,ldm_0,len_ints,add_i,get_len,ld_ins1,outR,h1,shl_1 hn0,and_i64,h2]
  ·by_cases h3:at' v.2 x.n.toNat < -9007199254740992
   ·rw [show outF v b s x = .err 3 by unfold outF; rw [if_neg e1,if_pos hop,if_neg h1,if_neg h2,if_pos (.inl h3)]]
    simp (disch:=first|omega|decide) only [push_cast,↓reduceIte,Nat.reduceEqDiff,Nat.reduceAdd,Int.reduceNeg,box_ins,nilc_ptr,get_app hlt,hk',ldm_22 hv,ldm_21 hv,ldm_0,len_ints,add_i,get_len,ld_ins1,outR,h1,shl_1 hn0,and_i64,h2,idxA_ptr,hld,h3]
   ·by_cases h4:9007199254740992 < at' v.2 x.n.toNat
    ·rw [show outF v b s x = .err 3 by unfold outF; rw [if_neg e1,if_pos hop,if_neg h1,if_neg h2,if_pos (.inr h4)]]
     simp (disch:=first|omega|decide) only [push_cast,↓reduceIte,Nat.reduceEqDiff,Nat.reduceAdd,Int.reduceNeg,box_ins,nilc_ptr,get_app hlt,hk',ldm_22 hv,ldm_21 hv,ldm_0,len_ints,add_i,get_len,ld_ins1,outR,h1,shl_1 hn0,and_i64,h2,idxA_ptr,hld,h3,h4]
    ·rw [show outF v b s x = .pop 0 (some (at' v.2 x.n.toNat)) none by unfold outF; rw [if_neg e1,if_pos hop,if_neg h1,if_neg h2,if_neg (by omega)]]
     simp (disch:=first|omega|decide) only [push_cast,↓reduceIte,Nat.reduceEqDiff,Nat.reduceAdd,Int.reduceNeg,box_ins,nilc_ptr,get_app hlt,hk',ldm_22 hv,ldm_21 hv,ldm_0,len_ints,add_i,get_len,ld_ins1,lit1,outR,Option.getD_none,h1,shl_1 hn0,and_i64,h2,idxA_ptr,hld,h3,h4,hcp]
theorem ci_inRange:IContract Tryd.prog GG 82 (si_mth (· = 12)) := by
 refine icontract_keep' (T := tbq [(91,sp_truth)] [(90,si_pop)] [(92,sq_top)]) tr_tvm_machine_inRange (tbq_ok (all_cons c_truth all_nil) (all_cons ci_pop all_nil) (all_cons ci_top all_nil)) ?_
 intro ds st r hr
 obtain ⟨key,v,b,s,x,hm,hop,hk,rfl,rfl⟩ := relI_inv hr
 obtain ⟨hv,hb0,hb1,hl,hp0,hp1,hf,hn⟩ := hm
 have hlt := machAt_lt hk
 have hk' := hk
 unfold machAt at hk'
 have hn1:needF x.op = 1 := by rw [hop]; rfl
 have ht:reads1 sq_top [.ptr key 0,.int .i64 0] (st ++ [⟨false,1,insC x,false⟩]) = some (.int .i64 (topS s 0)) := call_top hv (machAt_app hk _) 0 (by omega) (by omega)
 have hcp := call_popB hv hk x 1 1 rfl (some (if x.n ≤ topS s 0 ∧ topS s 0 ≤ x.m then 1 else 0)) (by omega) hl hp0 hp1
 simp only [pushD] at hcp
 rw [show outF v b s x = .pop 1 (some (if x.n ≤ topS s 0 ∧ topS s 0 ≤ x.m then 1 else 0)) none by unfold outF; rw [if_neg (by omega),if_neg (by omega),if_pos hop]]
 have hc := call_truth (decide (x.n ≤ topS s 0 ∧ topS s 0 ≤ x.m))
 simp only [decide_eq_true_eq] at hc
 unfold F_tvm_machine_inRange
 by_cases h1:x.n ≤ topS s 0
 ·by_cases h2:topS s 0 ≤ x.m
  ·have hw:(if x.n ≤ topS s 0 ∧ topS s 0 ≤ x.m then (1:Int) else 0) = 1 := if_pos ⟨h1,h2⟩
   rw [hw] at hcp ⊢
   rw [decide_eq_true ⟨h1,h2⟩] at hc
   simp (disch:=first|omega|decide) only [push_cast,↓reduceIte,Nat.reduceEqDiff,box_ins,get_len,ld_ins1,ld_ins2,lit1,outR,Option.getD_none,h1,h2,ht,hc,hcp]
  ·have hw:(if x.n ≤ topS s 0 ∧ topS s 0 ≤ x.m then (1:Int) else 0) = 0 := if_neg (by omega)
   rw [hw] at hcp ⊢
   rw [decide_eq_false (by omega)] at hc
   simp (disch:=first|omega|decide) only [push_cast,↓reduceIte,Nat.reduceEqDiff,box_ins,get_len,ld_ins1,ld_ins2,lit1,outR,Option.getD_none,h1,h2,ht,hc,hcp]
 ·have hw:(if x.n ≤ topS s 0 ∧ topS s 0 ≤ x.m then (1:Int) else 0) = 0 := if_neg (by omega)
  rw [hw] at hcp ⊢
  rw [decide_eq_false (by omega)] at hc
  simp (disch:=first|omega|decide) only [push_cast,↓reduceIte,Nat.reduceEqDiff,box_ins,get_len,ld_ins1,lit1,outR,Option.getD_none,h1,ht,hc,hcp]
theorem ci_jump:IContract Tryd.prog GG 84 (si_mth (· = 14)) := by
 refine icontract_keep' (T := tb [] []) tr_tvm_machine_jump (tb_ok all_nil all_nil) ?_
 intro ds st r hr
 obtain ⟨key,v,b,s,x,hm,hop,hk,rfl,rfl⟩ := relI_inv hr
 obtain ⟨hv,hb0,hb1,hl,hp0,hp1,hf,hn⟩ := hm
 have hlt := machAt_lt hk
 have hk' := hk
 unfold machAt at hk'
 rw [show outF v b s x = .set x.n s.status s.clause by unfold outF; rw [if_neg (by omega),if_neg (by omega),if_neg (by omega),if_neg (by omega),if_pos hop]]
 unfold F_tvm_machine_jump
 simp (disch:=first|omega|decide) only [push_cast,↓reduceIte,Nat.reduceEqDiff,box_ins,nilc_ptr,get_app hlt,hk',get_len,ld_ins1,outR,stm_17 hv,set_fold,mset_app hlt]
theorem ci_none:IContract Tryd.prog GG 86 (si_mth (· = 16)) := by
 refine icontract_keep' (T := tb [] []) tr_tvm_machine_none (tb_ok all_nil all_nil) ?_
 intro ds st r hr
 obtain ⟨key,v,b,s,x,hm,hop,hk,rfl,rfl⟩ := relI_inv hr
 obtain ⟨hv,hb0,hb1,hl,hp0,hp1,hf,hn⟩ := hm
 have hlt := machAt_lt hk
 have hk' := hk
 unfold machAt at hk'
 rw [show outF v b s x = .err 180 by unfold outF; rw [if_neg (by omega),if_neg (by omega),if_neg (by omega),if_neg (by omega),if_neg (by omega),if_neg (by omega),if_pos hop]]
 unfold F_tvm_machine_none
 simp (disch:=first|omega|decide) only [push_cast,↓reduceIte,box_ins,outR]
theorem get_lenM (st:St) (key:Nat) (C:List D) (o:PI.Obj):(mset st key C ++ [o])[st.length]? = some o := by
 have := get_len (mset st key C) o
 rwa [mset_length] at this
theorem ci_zero:IContract Tryd.prog GG 83 (si_mth (· = 13)) := by
 refine icontract_keep' (T := tbq [] [(90,si_pop)] [(92,sq_top)]) tr_tvm_machine_zero (tbq_ok all_nil (all_cons ci_pop all_nil) (all_cons ci_top all_nil)) ?_
 intro ds st r hr
 obtain ⟨key,v,b,s,x,hm,hop,hk,rfl,rfl⟩ := relI_inv hr
 obtain ⟨hv,hb0,hb1,hl,hp0,hp1,hf,hn⟩ := hm
 have hlt := machAt_lt hk
 have hk' := hk
 unfold machAt at hk'
 have hn1:needF x.op = 1 := by rw [hop]; rfl
 have ht:reads1 sq_top [.ptr key 0,.int .i64 0] (st ++ [⟨false,1,insC x,false⟩]) = some (.int .i64 (topS s 0)) := call_top hv (machAt_app hk _) 0 (by omega) (by omega)
 have hcp := call_popB hv hk x 1 1 rfl none (by omega) hl hp0 hp1
 simp only [pushD,stkO,List.append_nil] at hcp
 unfold F_tvm_machine_zero
 by_cases h1:topS s 0 = 0
 ·rw [show outF v b s x = .pop 1 none (some x.n) by unfold outF; rw [if_neg (by omega),if_neg (by omega),if_neg (by omega),if_pos hop,if_pos h1]]
  simp (disch:=first|omega|decide) only [push_cast,↓reduceIte,Nat.reduceEqDiff,box_ins,nilc_ptr,ld_ins1,outR,Option.getD_some,ht,h1,hcp,get_lenM,mget_app hlt,stm_17 hv,set_fold,mset_app2 hlt,stkO]
 ·rw [show outF v b s x = .pop 1 none none by unfold outF; rw [if_neg (by omega),if_neg (by omega),if_neg (by omega),if_pos hop,if_neg h1]]
  simp (disch:=first|omega|decide) only [push_cast,↓reduceIte,Nat.reduceEqDiff,box_ins,outR,Option.getD_none,ht,h1,hcp,stkO]
theorem ci_pay:IContract Tryd.prog GG 85 (si_mth (· = 15)) := by
 refine icontract_keep' (T := tb [] []) tr_tvm_machine_pay (tb_ok all_nil all_nil) ?_
 intro ds st r hr
 obtain ⟨key,v,b,s,x,hm,hop,hk,rfl,rfl⟩ := relI_inv hr
 obtain ⟨hv,hb0,hb1,hl,hp0,hp1,hf,hn⟩ := hm
 have hlt := machAt_lt hk
 have hk' := hk
 unfold machAt at hk'
 rw [show outF v b s x = .set s.pc 1 x.n by unfold outF; rw [if_neg (by omega),if_neg (by omega),if_neg (by omega),if_neg (by omega),if_neg (by omega),if_pos hop]]
 have hne:(key == st.length) = false := by rw [beq_eq_false_iff_ne]; omega
 unfold F_tvm_machine_pay
 simp (disch:=first|omega|decide) only [push_cast,↓wF_free,↓reduceIte,Nat.reduceEqDiff,Nat.reduceAdd,box_ins,nilc_ptr,get_app hlt,hk',get_len,ld_ins1,outR,stm_19 hv,stm_20 hv,set_fold,mset_app hlt,mget_app hlt,mset_app2 hlt,hne]
theorem ti_mnAdd:IContract Tryd.prog GG 112 (overSt sp_mnAdd) := c_mnAdd.toI Tryd.func112 (by kernel_rfl) (by kernel_rfl)
theorem ti_mnSub:IContract Tryd.prog GG 113 (overSt sp_mnSub) := c_mnSub.toI Tryd.func113 (by kernel_rfl) (by kernel_rfl)
theorem ti_mnMul:IContract Tryd.prog GG 114 (overSt sp_mnMul) := c_mnMul.toI Tryd.func114 (by kernel_rfl) (by kernel_rfl)
theorem ti_bin1:IContract Tryd.prog GG 115 (overSt sp_bin1) := c_bin1.toI Tryd.func115 (by kernel_rfl) (by kernel_rfl)
theorem ti_bin2:IContract Tryd.prog GG 116 (overSt sp_bin2) := c_bin2.toI Tryd.func116 (by kernel_rfl) (by kernel_rfl)
theorem ti_bin3:IContract Tryd.prog GG 117 (overSt sp_bin3) := c_bin3.toI Tryd.func117 (by kernel_rfl) (by kernel_rfl)
theorem ti_bin4:IContract Tryd.prog GG 119 (overSt sp_bin4) := c_bin4.toI Tryd.func119 (by kernel_rfl) (by kernel_rfl)
theorem ti_bin5:IContract Tryd.prog GG 120 (overSt sp_bin5) := c_bin5.toI Tryd.func120 (by kernel_rfl) (by kernel_rfl)
theorem ti_bin6:IContract Tryd.prog GG 121 (overSt sp_bin6) := c_bin6.toI Tryd.func121 (by kernel_rfl) (by kernel_rfl)
theorem ci_combine:IContract Tryd.prog GG 87 (si_mth (fun o => 3 ≤ o ∧ o ≤ 11)) := by
 refine icontract_keep' (T := tbq [] [(90,si_pop),(112,overSt sp_mnAdd),(113,overSt sp_mnSub),(114,overSt sp_mnMul),(115,overSt sp_bin1),(116,overSt sp_bin2),(117,overSt sp_bin3),(119,overSt sp_bin4),(120,overSt sp_bin5),(121,overSt sp_bin6)] [(92,sq_top)]) tr_tvm_machine_combine (tbq_ok all_nil (all_cons ci_pop (all_cons ti_mnAdd (all_cons ti_mnSub (all_cons ti_mnMul (all_cons ti_bin1 (all_cons ti_bin2 (all_cons ti_bin3 (all_cons ti_bin4 (all_cons ti_bin5 (all_cons ti_bin6 all_nil)))))))))) (all_cons ci_top all_nil)) ?_
 intro ds st r hr
 obtain ⟨key,v,b,s,x,hm,hop,hk,rfl,rfl⟩ := relI_inv hr
 obtain ⟨hv,hb0,hb1,hl,hp0,hp1,hf,hn⟩ := hm
 have hlt := machAt_lt hk
 have hk' := hk
 unfold machAt at hk'
 have hn2:needF x.op = 2 := by unfold needF; rw [if_neg (by omega),if_pos hop]
 have ht0:reads1 sq_top [.ptr key 0,.int .i64 0] (st ++ [⟨false,1,insC x,false⟩]) = some (.int .i64 (topS s 0)) := call_top hv (machAt_app hk _) 0 (by omega) (by omega)
 have ht1:reads1 sq_top [.ptr key 0,.int .i64 1] (st ++ [⟨false,1,insC x,false⟩]) = some (.int .i64 (topS s 1)) := call_top hv (machAt_app hk _) 1 (by omega) (by omega)
 have hcp := call_popB hv hk x 2 2 rfl (some (binF x.op (topS s 1) (topS s 0)).1) (by omega) hl hp0 hp1
 simp only [pushD] at hcp
 have hfl:∀ f:Nat,pfldv 0 1 false (.agg [.clo f []]) = some (.clo f []) := fun f => (rfl)
 have hno:outF v b s x = if (binF x.op (topS s 1) (topS s 0)).2 = 0 then .pop 2 (some (binF x.op (topS s 1) (topS s 0)).1) none else .err (binF x.op (topS s 1) (topS s 0)).2 := by
  unfold outF; rw [if_neg (by omega),if_neg (by omega),if_neg (by omega),if_neg (by omega),if_neg (by omega),if_neg (by omega),if_neg (by omega)]
 have hg := mapget_g (st ++ [⟨false,1,insC x,false⟩]) x.op false (.agg [.nilf])
 have hops:x.op = 3 ∨ x.op = 4 ∨ x.op = 5 ∨ x.op = 6 ∨ x.op = 7 ∨ x.op = 8 ∨ x.op = 9 ∨ x.op = 10 ∨ x.op = 11 := by omega
 unfold F_tvm_machine_combine
 rcases hops with e | e | e | e | e | e | e | e | e
 ·have hb := over_ints (call_mnAdd (topS s 1) (topS s 0)) (st ++ [⟨false,1,insC x,false⟩])
  have hbe:binF x.op (topS s 1) (topS s 0) = addF (topS s 1) (topS s 0) := by unfold binF; rw [if_pos e]
  rw [show gfind x.op binA = some 112 by rw [e]; rfl] at hg
  by_cases he:(binF x.op (topS s 1) (topS s 0)).2 = 0
  ·rw [hno,if_pos he]
   rw [hbe] at he hcp
   rw [hbe]
   simp (disch:=first|omega|decide) only [push_cast,↓reduceIte,Nat.reduceEqDiff,box_ins,get_len,lit1,outR,Option.getD_none,rho_g _ _ _ _ GG_b,pld_g,ld_ins0,hg,hfl,ht0,ht1,hb,he,hcp]
  ·rw [hno,if_neg he]
   rw [hbe] at he
   rw [hbe]
   simp (disch:=first|omega|decide) only [push_cast,↓reduceIte,Nat.reduceEqDiff,box_ins,get_len,outR,rho_g _ _ _ _ GG_b,pld_g,ld_ins0,hg,hfl,ht0,ht1,hb,he]
 ·have hb := over_ints (call_mnSub (topS s 1) (topS s 0)) (st ++ [⟨false,1,insC x,false⟩])
  have hbe:binF x.op (topS s 1) (topS s 0) = subF (topS s 1) (topS s 0) := by unfold binF; rw [if_neg (by omega),if_pos e]
  rw [show gfind x.op binA = some 113 by rw [e]; rfl] at hg
  by_cases he:(binF x.op (topS s 1) (topS s 0)).2 = 0
  ·rw [hno,if_pos he]
   rw [hbe] at he hcp
   rw [hbe]
   simp (disch:=first|omega|decide) only [push_cast,↓reduceIte,Nat.reduceEqDiff,box_ins,get_len,lit1,outR,Option.getD_none,rho_g _ _ _ _ GG_b,pld_g,ld_ins0,hg,hfl,ht0,ht1,hb,he,hcp]
  ·rw [hno,if_neg he]
   rw [hbe] at he
   rw [hbe]
   simp (disch:=first|omega|decide) only [push_cast,↓reduceIte,Nat.reduceEqDiff,box_ins,get_len,outR,rho_g _ _ _ _ GG_b,pld_g,ld_ins0,hg,hfl,ht0,ht1,hb,he]
 ·have hb := over_ints (call_mnMul (topS s 1) (topS s 0)) (st ++ [⟨false,1,insC x,false⟩])
  have hbe:binF x.op (topS s 1) (topS s 0) = mulF (topS s 1) (topS s 0) := by unfold binF; rw [if_neg (by omega),if_neg (by omega),if_pos e]
  rw [show gfind x.op binA = some 114 by rw [e]; rfl] at hg
  by_cases he:(binF x.op (topS s 1) (topS s 0)).2 = 0
  ·rw [hno,if_pos he]
   rw [hbe] at he hcp
   rw [hbe]
   simp (disch:=first|omega|decide) only [push_cast,↓reduceIte,Nat.reduceEqDiff,box_ins,get_len,lit1,outR,Option.getD_none,rho_g _ _ _ _ GG_b,pld_g,ld_ins0,hg,hfl,ht0,ht1,hb,he,hcp]
  ·rw [hno,if_neg he]
   rw [hbe] at he
   rw [hbe]
   simp (disch:=first|omega|decide) only [push_cast,↓reduceIte,Nat.reduceEqDiff,box_ins,get_len,outR,rho_g _ _ _ _ GG_b,pld_g,ld_ins0,hg,hfl,ht0,ht1,hb,he]
 ·have hb := over_ints (call_bin1 (topS s 1) (topS s 0)) (st ++ [⟨false,1,insC x,false⟩])
  have hbe:binF x.op (topS s 1) (topS s 0) = (min (topS s 1) (topS s 0),0) := by unfold binF; rw [if_neg (by omega),if_neg (by omega),if_neg (by omega),if_pos e]
  rw [show gfind x.op binA = some 115 by rw [e]; rfl] at hg
  by_cases he:(binF x.op (topS s 1) (topS s 0)).2 = 0
  ·rw [hno,if_pos he]
   rw [hbe] at he hcp
   rw [hbe]
   simp (disch:=first|omega|decide) only [push_cast,↓reduceIte,Nat.reduceEqDiff,box_ins,get_len,lit1,outR,Option.getD_none,rho_g _ _ _ _ GG_b,pld_g,ld_ins0,hg,hfl,ht0,ht1,hb,hcp]
  ·rw [hbe] at he
   exact absurd rfl he
 ·have hb := over_ints (call_bin2 (topS s 1) (topS s 0)) (st ++ [⟨false,1,insC x,false⟩])
  have hbe:binF x.op (topS s 1) (topS s 0) = (max (topS s 1) (topS s 0),0) := by unfold binF; rw [if_neg (by omega),if_neg (by omega),if_neg (by omega),if_neg (by omega),if_pos e]
  rw [show gfind x.op binA = some 116 by rw [e]; rfl] at hg
  by_cases he:(binF x.op (topS s 1) (topS s 0)).2 = 0
  ·rw [hno,if_pos he]
   rw [hbe] at he hcp
   rw [hbe]
   simp (disch:=first|omega|decide) only [push_cast,↓reduceIte,Nat.reduceEqDiff,box_ins,get_len,lit1,outR,Option.getD_none,rho_g _ _ _ _ GG_b,pld_g,ld_ins0,hg,hfl,ht0,ht1,hb,hcp]
  ·rw [hbe] at he
   exact absurd rfl he
 ·have hb := over_ints (call_bin3 (topS s 1) (topS s 0)) (st ++ [⟨false,1,insC x,false⟩])
  have hbe:binF x.op (topS s 1) (topS s 0) = divF (topS s 1) (topS s 0) 8 := by unfold binF; rw [if_neg (by omega),if_neg (by omega),if_neg (by omega),if_neg (by omega),if_neg (by omega),if_pos e]
  rw [show gfind x.op binA = some 117 by rw [e]; rfl] at hg
  by_cases he:(binF x.op (topS s 1) (topS s 0)).2 = 0
  ·rw [hno,if_pos he]
   rw [hbe] at he hcp
   rw [hbe]
   simp (disch:=first|omega|decide) only [push_cast,↓reduceIte,Nat.reduceEqDiff,box_ins,get_len,lit1,outR,Option.getD_none,rho_g _ _ _ _ GG_b,pld_g,ld_ins0,hg,hfl,ht0,ht1,hb,he,hcp]
  ·rw [hno,if_neg he]
   rw [hbe] at he
   rw [hbe]
   simp (disch:=first|omega|decide) only [push_cast,↓reduceIte,Nat.reduceEqDiff,box_ins,get_len,outR,rho_g _ _ _ _ GG_b,pld_g,ld_ins0,hg,hfl,ht0,ht1,hb,he]
 ·have hb := over_ints (call_bin4 (topS s 1) (topS s 0)) (st ++ [⟨false,1,insC x,false⟩])
  have hbe:binF x.op (topS s 1) (topS s 0) = divF (topS s 1) (topS s 0) 9 := by unfold binF; rw [if_neg (by omega),if_neg (by omega),if_neg (by omega),if_neg (by omega),if_neg (by omega),if_neg (by omega),if_pos e]
  rw [show gfind x.op binA = some 119 by rw [e]; rfl] at hg
  by_cases he:(binF x.op (topS s 1) (topS s 0)).2 = 0
  ·rw [hno,if_pos he]
   rw [hbe] at he hcp
   rw [hbe]
   simp (disch:=first|omega|decide) only [push_cast,↓reduceIte,Nat.reduceEqDiff,box_ins,get_len,lit1,outR,Option.getD_none,rho_g _ _ _ _ GG_b,pld_g,ld_ins0,hg,hfl,ht0,ht1,hb,he,hcp]
  ·rw [hno,if_neg he]
   rw [hbe] at he
   rw [hbe]
   simp (disch:=first|omega|decide) only [push_cast,↓reduceIte,Nat.reduceEqDiff,box_ins,get_len,outR,rho_g _ _ _ _ GG_b,pld_g,ld_ins0,hg,hfl,ht0,ht1,hb,he]
 ·have hb := over_ints (call_bin5 (topS s 1) (topS s 0)) (st ++ [⟨false,1,insC x,false⟩])
  have hbe:binF x.op (topS s 1) (topS s 0) = divF (topS s 1) (topS s 0) 10 := by unfold binF; rw [if_neg (by omega),if_neg (by omega),if_neg (by omega),if_neg (by omega),if_neg (by omega),if_neg (by omega),if_neg (by omega),if_pos e]
  rw [show gfind x.op binA = some 120 by rw [e]; rfl] at hg
  by_cases he:(binF x.op (topS s 1) (topS s 0)).2 = 0
  ·rw [hno,if_pos he]
   rw [hbe] at he hcp
   rw [hbe]
   simp (disch:=first|omega|decide) only [push_cast,↓reduceIte,Nat.reduceEqDiff,box_ins,get_len,lit1,outR,Option.getD_none,rho_g _ _ _ _ GG_b,pld_g,ld_ins0,hg,hfl,ht0,ht1,hb,he,hcp]
  ·rw [hno,if_neg he]
   rw [hbe] at he
   rw [hbe]
   simp (disch:=first|omega|decide) only [push_cast,↓reduceIte,Nat.reduceEqDiff,box_ins,get_len,outR,rho_g _ _ _ _ GG_b,pld_g,ld_ins0,hg,hfl,ht0,ht1,hb,he]
 ·have hb := over_ints (call_bin6 (topS s 1) (topS s 0)) (st ++ [⟨false,1,insC x,false⟩])
  have hbe:binF x.op (topS s 1) (topS s 0) = (if topS s 1 < topS s 0 then 1 else 0,0) := by unfold binF; rw [if_neg (by omega),if_neg (by omega),if_neg (by omega),if_neg (by omega),if_neg (by omega),if_neg (by omega),if_neg (by omega),if_neg (by omega),if_pos e]
  rw [show gfind x.op binA = some 121 by rw [e]; rfl] at hg
  by_cases he:(binF x.op (topS s 1) (topS s 0)).2 = 0
  ·rw [hno,if_pos he]
   rw [hbe] at he hcp
   rw [hbe]
   simp (disch:=first|omega|decide) only [push_cast,↓reduceIte,Nat.reduceEqDiff,box_ins,get_len,lit1,outR,Option.getD_none,rho_g _ _ _ _ GG_b,pld_g,ld_ins0,hg,hfl,ht0,ht1,hb,hcp]
  ·rw [hbe] at he
   exact absurd rfl he
end Go.Proofs.YtlleccmnjpcogaaDoor.PI
