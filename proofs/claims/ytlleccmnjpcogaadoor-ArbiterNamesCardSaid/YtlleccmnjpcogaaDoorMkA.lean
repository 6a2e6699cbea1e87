/-
  merkle: what the small functions of the program and of the reference compute.
  Conditions: none; these are lemmas.
-/
import Derived.Test.YtlleccmnjpcogaaDoorFns
import Derived.Test.YtlleccmnjpcogaaDoorEngU
import Derived.Test.YtlleccmnjpcogaaDoorSha
import Derived.WideKeyElems2
import Derived.LaidMore
import Derived.LaidHandle
import Derived.FnData
import Derived.KernelRfl
import Derived.Test.YtlleccmnjpcogaaDoorEngB2
import Derived.Test.YtlleccmnjpcogaaDoorEngC2
import Derived.Test.YtlleccmnjpcogaaDoorEngLaw
import Derived.Test.YtlleccmnjpcogaaDoorEngHe
set_option linter.unusedVariables false
set_option linter.unusedSimpArgs false
namespace Go.Proofs.YtlleccmnjpcogaaDoor.PI
open Go
set_option linter.unusedSimpArgs false
set_option linter.unusedVariables false
def binA:List (Int × Nat) := [(3,112),(4,113),(5,114),(6,115),(7,116),(8,117),(9,119),(10,120),(11,121)]
def GG:Glob := fun n => if n = 0 then some (.gmap binA) else tabG 1 .u32 (Sha.K.map fun x => (x.toNat:Int)) n
theorem GG_b:GG 0 = some (.gmap binA) := rfl
theorem GG_k:GG 1 = some (.agg (Sha.K.map wD)) := rfl
theorem and31 (k:Int):pbin .and (.int .u64 (IntKind.wrap .u64 k)) (.int .u64 31) = some (.int .u64 ((k % 32).toNat:Int)) := by
 have h:(BitVec.ofInt (IntKind.bits .u64) (IntKind.wrap .u64 k) &&& BitVec.ofInt (IntKind.bits .u64) 31).toNat = (k % 32).toNat := by
  show (BitVec.ofInt 64 (IntKind.wrap .u64 k) &&& BitVec.ofInt 64 31).toNat = _
  rw [BitVec.toNat_and,show (BitVec.ofInt 64 31).toNat = 2 ^ 5 - 1 from rfl,Nat.and_two_pow_sub_one_eq_mod,BitVec.toNat_ofInt]
  simp [IntKind.wrap,IntKind.signed,IntKind.bits]
  omega
 simp only [pbin,if_true,ibits,Option.map_some,h,wrap_u64]
 congr 2
 omega
noncomputable def sp_rotl:List D → Option D := spOf (α := UInt32 × Int) (fun a => [wD a.1,.int .i64 a.2]) (fun a => -31 ≤ a.2 ∧ a.2 ≤ -1) (fun a => wD (Sha.rotr a.1 (-a.2).toNat))
theorem call_rotl (x:UInt32) (k:Int) (h:-31 ≤ k ∧ k ≤ -1):sp_rotl [wD x,.int .i64 k] = some (wD (Sha.rotr x (-k).toNat)) :=
 spOf_enc (fun ⟨a0,a1⟩ ⟨b0,b1⟩ h => by simp only [List.cons.injEq,D.int.injEq,word_iff,true_and,and_true] at h; simp [h]) (x,k) h
set_option maxHeartbeats 4000000 in
set_option maxRecDepth 20000 in
theorem w_rotl (x:UInt32) (k:Int) (h:-31 ≤ k ∧ k ≤ -1):@wW GG (tb [] []) F_math_bits_RotateLeft32.code (argF [wD x,.int .i64 k]) [] ⟨retQ F_math_bits_RotateLeft32.res (wD (Sha.rotr x (-k).toNat))⟩ := by
 obtain ⟨h1,h2⟩ := h
 have hs:∃ s:Nat,(k % 32).toNat = s ∧ 0 < s ∧ s < 32 ∧ (-k).toNat = 32 - s := ⟨(k % 32).toNat,rfl,by omega,by omega,by omega⟩
 obtain ⟨s,e1,e2,e3,e4⟩ := hs
 have e:pbin .sub (.int .u64 32) (.int .u64 (s:Int)) = some (.int .u64 ((32 - s:Nat):Int)) := by
  simp only [pbin,if_true,iarith,Option.map_some]
  rw [show (32 - (s:Int)) = ((32 - s:Nat):Int) by omega,wrap_u64,Nat.mod_eq_of_lt (by omega)]
 have hc:∀ st,pconv st (.int .u64) (.int .i64 k) = some (.int .u64 (IntKind.wrap .u64 k)) := fun _ => rfl
 have e5:Sha.rotr x (32 - s) = x <<< UInt32.ofNat s ||| x >>> UInt32.ofNat (32 - s) := by
  unfold Sha.rotr
  rw [show 32 - (32 - s) = s by omega,UInt32.or_comm]
 unfold F_math_bits_RotateLeft32
 simp only [push_cast,↓reduceIte,Nat.reduceEqDiff,hc,and31,e1,e,shl_w _ _ _ e3,shr_w x .u64 (32 - s) (by omega),or_w,e4,e5]
theorem c_rotl:Contract Tryd.prog GG 79 sp_rotl :=
 contract_of tr_math_bits_RotateLeft32 (tb_ok all_nil all_nil) (fun a h => w_rotl a.1 a.2 h)
def schZ (b:List UInt8) (i:Nat):List UInt32 := Sha.sch b i ++ List.replicate (64 - i) 0
theorem schZ_length (b:List UInt8) (i:Nat) (h:i ≤ 64):(schZ b i).length = 64 := by
 simp [schZ,Sha.sch_length]; omega
theorem schZ_get (b:List UInt8) (i j:Nat) (h:j < i):(schZ b i).getD j default = (Sha.sch b i).getD j 0 := by
 have h2:j < (Sha.sch b i).length := by rw [Sha.sch_length]; exact h
 simp [schZ,List.getD_eq_getElem?_getD,List.getElem?_append_left h2,h2]
theorem schZ_set (b:List UInt8) (i:Nat) (v:UInt32) (h:i < 64) (hv:Sha.sch b (i + 1) = Sha.sch b i ++ [v]):(schZ b i).set i v = schZ b (i + 1) := by
 have h2:(Sha.sch b i).length = i := Sha.sch_length b i
 unfold schZ
 rw [hv,List.set_append_right _ _ (by omega),h2,Nat.sub_self,show 64 - i = (64 - (i + 1)) + 1 by omega,List.replicate_succ,List.set_cons_zero,List.append_assoc]
 rfl
theorem sch_lo (b:List UInt8) (i:Nat) (h:i < 16):Sha.sch b (i + 1) = Sha.sch b i ++ [Sha.word b i] := by
 simp [Sha.sch,h]
theorem sch_hi (b:List UInt8) (i:Nat) (h:16 ≤ i):Sha.sch b (i + 1) = Sha.sch b i ++ [(Sha.sch b i).getD (i - 16) 0 + Sha.sig0 ((Sha.sch b i).getD (i - 15) 0) + (Sha.sch b i).getD (i - 7) 0 + Sha.sig1 ((Sha.sch b i).getD (i - 2) 0)] := by
 simp [Sha.sch,Nat.not_lt.2 h]
theorem add8 (s t:Sha.St8) (i:Nat) (h:i < 8):(((s.add t).list.take i ++ s.list.drop i).set i (((s.add t).list.take i ++ s.list.drop i).getD i default + t.list.getD i default)) = (s.add t).list.take (i + 1) ++ s.list.drop (i + 1) := by
 rcases i with _ | _ | _ | _ | _ | _ | _ | _ | i <;> first | rfl | omega
noncomputable def sp_block:List D → Option D := spOf (α := Sha.St8 × List UInt8) (fun a => [.agg (Sha.St8.list a.1 |>.map wD),.slc (nz 1 (a.2.map byteD)) (a.2.map byteD) false]) (fun a => a.2.length = 64) (fun a => .agg ((Sha.block a.1 a.2).list.map wD))
theorem call_block (s:Sha.St8) (b:List UInt8) (h:b.length = 64):sp_block [.agg (Sha.St8.list s |>.map wD),.slc (nz 1 (b.map byteD)) (b.map byteD) false] = some (.agg ((Sha.block s b).list.map wD)) :=
 spOf_enc (fun ⟨a0,a1⟩ ⟨b0,b1⟩ h => by simp only [List.cons.injEq,D.slc.injEq,D.agg.injEq,bytes_iff,words_iff,Sha.St8.list_iff,and_true] at h; simp [h]) (s,b) h
set_option maxHeartbeats 4000000 in
set_option maxRecDepth 20000 in
theorem w_block (s:Sha.St8) (b:List UInt8) (h:b.length = 64):@wW GG (tb [(79,sp_rotl)] []) F_digest_block.code (argF [.agg (Sha.St8.list s |>.map wD),.slc (nz 1 (b.map byteD)) (b.map byteD) false]) [] ⟨retQ F_digest_block.res (.agg ((Sha.block s b).list.map wD))⟩ := by
 unfold F_digest_block
 simp only [push_cast,Nat.reduceAdd]
 refine W_while (fun i:Nat => [(1,.slc (nz 1 (b.map byteD)) (b.map byteD) false),(2,.ptr 0 0),(4,.ptr 1 0),(5,.ptr 2 0),(19,.int .i64 (i:Int))])
  (fun i => [⟨false,1,s.list.map wD,false⟩,⟨false,1,(zW 8).map wD,false⟩,⟨false,1,(schZ b i).map wD,false⟩]) (fun i => i ≤ 16) (fun i => 16 - i) 0 (by simp only [push_cast,↓reduceIte,Nat.reduceEqDiff,Nat.reduceLT,Nat.reduceLeDiff,Nat.reduceAdd,↓Int.reduceNatCast'] <;> rfl) (by omega) ?_
 intro i hi
 unfold F_digest_block_L0
 simp only [push_cast,↓reduceIte,Nat.reduceEqDiff]
 refine ifD_split (fun h1 => ?_) (fun h1 => ?_)
 ·have h1':i < 16 := by omega
  have e0:(4 * (i:Int)).toNat = 4 * i := by omega
  have e1:(4 * (i:Int) + 1).toNat = 4 * i + 1 := by omega
  have e2:(4 * (i:Int) + 2).toNat = 4 * i + 2 := by omega
  have e3:(4 * (i:Int) + 3).toNat = 4 * i + 3 := by omega
  have hl:(schZ b i).length = 64 := schZ_length b i (by omega)
  have hw := schZ_set b i (Sha.word b i) (by omega) (sch_lo b i h1')
  simp (disch := omega) only [push_cast,↓reduceIte,Nat.reduceEqDiff,Nat.reduceLT,Nat.reduceLeDiff,Nat.reduceAdd,Int.reduceToNat,mul_i,add_i,idxS_nz,conv_bw,shl_wi,or_w,idxA_ptr,e0,e1,e2,e3]
  refine next_head (i + 1) (by omega) (by omega) ?_
  rw [← hw]
  simp only [push_cast] <;> rfl
 ·obtain rfl:i = 16 := by omega
  simp only [push_cast,↓reduceIte,Nat.reduceAdd,Int.reduceLT,↓Int.reduceNatCast']
  refine W_while (fun i:Nat => [(2,.ptr 0 0),(4,.ptr 1 0),(5,.ptr 2 0),(7,.int .i64 (i:Int))])
   (fun i => [⟨false,1,s.list.map wD,false⟩,⟨false,1,(zW 8).map wD,false⟩,⟨false,1,(schZ b i).map wD,false⟩]) (fun i => 16 ≤ i ∧ i ≤ 64) (fun i => 64 - i) 16 (by simp only [push_cast,↓reduceIte,Nat.reduceEqDiff,Nat.reduceLT,Nat.reduceLeDiff,Nat.reduceAdd,↓Int.reduceNatCast'] <;> rfl) (by omega) ?_
  intro i hi
  unfold F_digest_block_L1
  simp only [push_cast,↓reduceIte,Nat.reduceEqDiff,Int.reduceNeg]
  refine ifD_split (fun h2 => ?_) (fun h2 => ?_)
  ·have hl:(schZ b i).length = 64 := schZ_length b i (by omega)
   have hw := schZ_set b i _ (by omega) (sch_hi b i (by omega))
   have e0:((i:Int) - 15).toNat = i - 15 := by omega
   have e1:((i:Int) - 2).toNat = i - 2 := by omega
   have e2:((i:Int) - 16).toNat = i - 16 := by omega
   have e3:((i:Int) - 7).toNat = i - 7 := by omega
   simp (disch := omega) only [push_cast,↓reduceIte,Nat.reduceEqDiff,Nat.reduceLT,Nat.reduceLeDiff,Nat.reduceAdd,Int.reduceToNat,Int.reduceNeg,sub_i,add_i,idxA_ptr,call_rotl,xor_w,shr_wi,add_w,e0,e1,e2,e3,schZ_get]
   refine next_head (i + 1) (by omega) (by omega) ?_
   rw [← hw]
   simp only [push_cast] <;> rfl
  ·obtain rfl:i = 64 := by omega
   have hs64:schZ b 64 = Sha.sch b 64 := by simp [schZ]
   have hl:(Sha.sch b 64).length = 64 := Sha.sch_length b 64
   have hs8:s.list.length = 8 := rfl
   have hz8:(zW 8).length = 8 := rfl
   simp (disch := first | omega | rfl) only [push_cast,↓reduceIte,Nat.reduceEqDiff,Nat.reduceAdd,Int.reduceLT,Int.reduceNeg,↓Int.reduceNatCast',hs64]
   refine W_while (fun i:Nat => [(2,.ptr 0 0),(4,.ptr 1 0),(5,.ptr 2 0),(12,.ptr 3 0),(102,.int .i64 (i:Int))])
    (fun i => [⟨false,1,s.list.map wD,false⟩,⟨false,1,(zW 8).map wD,false⟩,⟨false,1,(Sha.sch b 64).map wD,false⟩,⟨false,1,(Sha.rounds (Sha.sch b 64) s i).list.map wD,false⟩]) (fun i => i ≤ 64) (fun i => 64 - i) 0 (by simp only [push_cast,↓reduceIte,Nat.reduceEqDiff,Nat.reduceLT,Nat.reduceLeDiff,Nat.reduceAdd,↓Int.reduceNatCast'] <;> rfl) (by omega) ?_
   intro i hi
   unfold F_digest_block_L2
   simp only [push_cast,↓reduceIte,Nat.reduceEqDiff,Int.reduceNeg]
   refine ifD_split (fun h3 => ?_) (fun h3 => ?_)
   ·have hK:Sha.K.length = 64 := rfl
    have hn:Sha.rounds (Sha.sch b 64) s (i + 1) = Sha.round (Sha.rounds (Sha.sch b 64) s i) (Sha.K.getD i 0) ((Sha.sch b 64).getD i 0) := rfl
    generalize Sha.rounds (Sha.sch b 64) s i = r at hn
    simp (disch := omega) only [push_cast,↓reduceIte,Nat.reduceEqDiff,Nat.reduceLT,Nat.reduceLeDiff,Nat.reduceAdd,Int.reduceToNat,Int.reduceNeg,Sha.St8.list,idxA_ptr,idxA_eptr,rho_g _ _ _ _ GG_k,call_rotl,xor_w,and_w,not_w,add_w,add_i]
    refine next_head (i + 1) (by omega) (by omega) ?_
    rw [hn]
    rfl
   ·obtain rfl:i = 64 := by omega
    have hb:Sha.block s b = s.add (Sha.rounds (Sha.sch b 64) s 64) := rfl
    rw [hb]
    generalize Sha.rounds (Sha.sch b 64) s 64 = r
    simp only [push_cast,↓reduceIte,Nat.reduceAdd,Int.reduceLT,Int.reduceNeg,↓Int.reduceNatCast']
    refine W_while (fun i:Nat => [(2,.ptr 0 0),(4,.ptr 1 0),(12,.ptr 3 0),(182,.int .i64 (i:Int))])
     (fun i => [⟨false,1,((s.add r).list.take i ++ s.list.drop i).map wD,false⟩,⟨false,1,(zW 8).map wD,false⟩,⟨false,1,(Sha.sch b 64).map wD,false⟩,⟨false,1,r.list.map wD,false⟩]) (fun i => i ≤ 8) (fun i => 8 - i) 0 (by simp only [push_cast,↓reduceIte,Nat.reduceEqDiff,Nat.reduceLT,Nat.reduceLeDiff,Nat.reduceAdd,↓Int.reduceNatCast'] <;> rfl) (by omega) ?_
    intro i hi
    have hl1:((s.add r).list.take i ++ s.list.drop i).length = 8 := by
     simp only [List.length_append,List.length_take,List.length_drop,Sha.St8.list_length]; omega
    have hl2:r.list.length = 8 := rfl
    unfold F_digest_block_L3
    simp only [push_cast,↓reduceIte,Nat.reduceEqDiff]
    refine ifD_split (fun h4 => ?_) (fun h4 => ?_)
    ·have ha := add8 s r i (by omega)
     simp (disch := omega) only [push_cast,↓reduceIte,Nat.reduceEqDiff,Nat.reduceLT,Nat.reduceLeDiff,Nat.reduceAdd,idxA_ptr,add_w,add_i]
     refine next_head (i + 1) (by omega) (by omega) ?_
     rw [← ha]
     simp only [push_cast] <;> rfl
    ·obtain rfl:i = 8 := by omega
     have e8:(s.add r).list.take 8 ++ s.list.drop 8 = (s.add r).list := rfl
     have hl3:(s.add r).list.length = 8 := rfl
     simp (disch := first | omega | rfl) only [push_cast,↓reduceIte,Nat.reduceEqDiff,Nat.reduceAdd,Int.reduceLT,↓Int.reduceNatCast',e8]
theorem c_block:Contract Tryd.prog GG 74 sp_block :=
 contract_of tr_digest_block (tb_ok (all_cons c_rotl all_nil) all_nil) (fun a h => w_block a.1 a.2 h)
end Go.Proofs.YtlleccmnjpcogaaDoor.PI
namespace Go.Proofs.YtlleccmnjpcogaaDoor.PI
open Go Go.WideElems
set_option linter.unusedSimpArgs false
set_option linter.unusedVariables false
def binsD:DataW Unit := .map [(.int .i64 3,.agg [.iface "func" (.lit (.string [119,97,103,111,110,112,111,111,108,47,109,111,110,101,121,46,65,100,100]))]),(.int .i64 4,.agg [.iface "func" (.lit (.string [119,97,103,111,110,112,111,111,108,47,109,111,110,101,121,46,83,117,98]))]),(.int .i64 5,.agg [.iface "func" (.lit (.string [119,97,103,111,110,112,111,111,108,47,109,111,110,101,121,46,77,117,108]))]),(.int .i64 6,.agg [.iface "func" (.lit (.string [119,97,103,111,110,112,111,111,108,47,116,118,109,46,98,105,110,97,114,105,101,115,36,49]))]),(.int .i64 7,.agg [.iface "func" (.lit (.string [119,97,103,111,110,112,111,111,108,47,116,118,109,46,98,105,110,97,114,105,101,115,36,50]))]),(.int .i64 8,.agg [.iface "func" (.lit (.string [119,97,103,111,110,112,111,111,108,47,116,118,109,46,98,105,110,97,114,105,101,115,36,51]))]),(.int .i64 9,.agg [.iface "func" (.lit (.string [119,97,103,111,110,112,111,111,108,47,116,118,109,46,98,105,110,97,114,105,101,115,36,52]))]),(.int .i64 10,.agg [.iface "func" (.lit (.string [119,97,103,111,110,112,111,111,108,47,116,118,109,46,98,105,110,97,114,105,101,115,36,53]))]),(.int .i64 11,.agg [.iface "func" (.lit (.string [119,97,103,111,110,112,111,111,108,47,116,118,109,46,98,105,110,97,114,105,101,115,36,54]))])]
theorem gB:Tryd.prog.globalNamed "wagonpool/tvm.binaries" = some 0 := by kernel_rfl
theorem tB:(Tryd.prog.globals[0]?).map (·.type) = some 144 := by kernel_rfl
theorem u144:Tryd.prog.underlying 144 = some (.map 3 142) := by kernel_rfl
theorem u3:Tryd.prog.underlying 3 = some (.int .i64) := by kernel_rfl
def stB1:Option TypeDesc → Bool
 | some (.struct fs) => match fs.toList with
  | [f] => f.offset == 0 && f.type == 140
  | _ => false
 | _ => false
def fnB1:Option TypeDesc → Bool
 | some (.func _ _ _) => true
 | _ => false
theorem u142b:stB1 (Tryd.prog.underlying 142) = true := by kernel_rfl
theorem u140b:fnB1 (Tryd.prog.underlying 140) = true := by kernel_rfl
theorem u142:∃ f,Tryd.prog.underlying 142 = some (.struct #[f]) ∧ f.offset = 0 ∧ f.type = 140 := by
 have h := u142b
 unfold stB1 at h
 split at h
 ·rename_i fs hu
  split at h
  ·rename_i f hf
   simp only [Bool.and_eq_true,beq_iff_eq] at h
   have e:fs = #[f] := Array.ext' hf
   subst e
   exact ⟨f,hu,h.1,h.2⟩
  ·cases h
 ·cases h
theorem c142:Tryd.prog.cellsOf 142 = 1 := by kernel_rfl
theorem c140:Tryd.prog.cellsOf 140 = 1 := by kernel_rfl
theorem u140:∃ ps rs va,Tryd.prog.underlying 140 = some (.func ps rs va) := by
 have h := u140b
 unfold fnB1 at h
 split at h
 ·rename_i ps rs va hu; exact ⟨ps,rs,va,hu⟩
 ·cases h
theorem key_of {P:Program} {t:TypeId} {v:Value} {k:Int} {kd:IntKind} (hu:P.underlying t = some (.int kd)) (h:keyOf P t v = some (.int kd k)):v = .int kd k := by
 unfold keyOf mapKey at h
 rw [hu] at h
 simp only at h
 split at h
 ·rename_i h1; cases h1
 ·rename_i h1; simp only [Option.some.injEq,TypeDesc.int.injEq] at h1; subst h1
  split at h
  ·simp only [Option.some.injEq,Lit.int.injEq] at h
   rename_i hq
   rw [← hq.1,h.2]
  ·cases h
 ·rename_i h1; cases h1
 ·cases h
theorem key_i64 {v:Value} {k:Int} (h:keyOf Tryd.prog 3 v = some (.int .i64 k)):v = .int .i64 k := key_of u3 h
theorem gfind_mem {k:Int} {f:Nat}:∀ {l:List (Int × Nat)},gfind k l = some f → k ∈ l.map (·.1)
 | [],h => by cases h
 | p :: r,h => by
  unfold gfind at h
  split at h
  ·rename_i e; simp [e]
  ·exact List.mem_cons_of_mem _ (gfind_mem h)
set_option maxRecDepth 20000 in
theorem bin_ent {W:World} {n:Nat} {e:MapEntry} {k:Int} {b:UInt8} {r:List UInt8} {f0:FuncId} (hone:((List.range Tryd.prog.funcs.size).filter fun f => (Tryd.prog.funcs[f]?).any (·.name.toUTF8.data.toList == b :: r)) = [f0])
  (h:rd Tryd.prog 3 (elemAt (funcToken Tryd.prog) Tryd.prog W 0 (fun _ => true) true n 142) e = some (.int .i64 k,.agg [.held (b :: r)])):e.key = .int .i64 k ∧ e.val = .agg #[.func (.func f0) #[] #[]] := by
 constructor
 ·exact key_i64 (rd_key h)
 ·obtain ⟨z,hz,hz2⟩ := rd_val h
  obtain ⟨z1,z2⟩ := z
  dsimp only at hz2
  subst hz2
  unfold elemAt at hz
  split at hz
  case isFalse => cases hz
  rename_i hfm
  obtain ⟨f,hu,ho,ht⟩ := u142
  obtain ⟨ps,rs,va,hu4⟩ := u140
  cases n with
  | zero => simp [DataW.trod] at hz
  | succ n =>
   unfold Value.formed at hfm
   rw [hu,c142] at hfm
   cases hv:e.val with
   | agg cs =>
    rw [hv] at hz hfm
    simp only [beq_iff_eq] at hfm
    obtain ⟨v,rfl⟩:∃ v,cs = #[v] := by
     obtain ⟨l⟩ := cs
     match l,hfm with
     | [v],_ => exact ⟨v,rfl⟩
    have hz':DataW.trod (funcToken Tryd.prog) Tryd.prog W 0 (fun _ => true) true (n + 1) 142 [v] = some (.agg [.held (b :: r)],z2) := hz
    rw [DataW.trod_step] at hz'
    unfold DataW.trodStep at hz'
    rw [hu] at hz'
    simp [c142,ho,ht,c140] at hz'
    obtain ⟨q,hq⟩:∃ q,DataW.trod (funcToken Tryd.prog) Tryd.prog W 0 (fun _ => true) true n 140 [v] = some (.held (b :: r),q) := by
     rw [Option.bind_eq_some_iff] at hz'
     obtain ⟨⟨y1,y2⟩,h1,h2⟩ := hz'
     simp at h2
     exact ⟨y2,by rw [h1,h2.1]⟩
    rw [func_of_trod hu4 hone hq]
   | _ => rw [hv] at hfm; simp at hfm
def binsL:List (Lit × DataW (List UInt8)) := [(.int .i64 3,.agg [.held [119,97,103,111,110,112,111,111,108,47,109,111,110,101,121,46,65,100,100]]),(.int .i64 4,.agg [.held [119,97,103,111,110,112,111,111,108,47,109,111,110,101,121,46,83,117,98]]),(.int .i64 5,.agg [.held [119,97,103,111,110,112,111,111,108,47,109,111,110,101,121,46,77,117,108]]),(.int .i64 6,.agg [.held [119,97,103,111,110,112,111,111,108,47,116,118,109,46,98,105,110,97,114,105,101,115,36,49]]),(.int .i64 7,.agg [.held [119,97,103,111,110,112,111,111,108,47,116,118,109,46,98,105,110,97,114,105,101,115,36,50]]),(.int .i64 8,.agg [.held [119,97,103,111,110,112,111,111,108,47,116,118,109,46,98,105,110,97,114,105,101,115,36,51]]),(.int .i64 9,.agg [.held [119,97,103,111,110,112,111,111,108,47,116,118,109,46,98,105,110,97,114,105,101,115,36,52]]),(.int .i64 10,.agg [.held [119,97,103,111,110,112,111,111,108,47,116,118,109,46,98,105,110,97,114,105,101,115,36,53]]),(.int .i64 11,.agg [.held [119,97,103,111,110,112,111,111,108,47,116,118,109,46,98,105,110,97,114,105,101,115,36,54]])]
set_option maxRecDepth 20000 in
theorem glob_bin {W:World} (h:funcsAt Tryd.prog W "wagonpool/tvm.binaries" binsD):∃ b es clock,W.cell? ⟨0,0,none⟩ = some (.map (some b)) ∧ W.heap[b]? = some (.map es clock) ∧ spM (.map es clock) = true ∧ MapFits es binA := by
 obtain ⟨g,t,cs,fuel,p,hg,ht,hv,hd⟩ := h
 obtain rfl := Option.some.inj (gB.symm.trans hg)
 obtain rfl := Option.some.inj (tB.symm.trans ht)
 have hd':DataW.trod (funcToken Tryd.prog) Tryd.prog W 0 (fun _ => true) true fuel 144 cs.toList = some (.map binsL,p) := hd
 rcases open_map u144 hd' with ⟨_,hx⟩ | ⟨b,es,clock,n,rfl,hcs,hb,_,F,hx⟩
 ·cases hx
 simp only [Prod.mk.injEq,DataW.map.injEq] at hx
 have mem:∀ y,y ∈ binsL ↔ y ∈ es.toList.map (rg Tryd.prog 3 (elemAt (funcToken Tryd.prog) Tryd.prog W 0 (fun _ => true) true n 142)) := fun y => by
  rw [hx.1]; exact (Go.WideShapes.sorted_perm _).mem_iff
 have ent:∀ e ∈ es.toList,∃ k f,e.key = .int .i64 k ∧ e.val = .agg #[.func (.func f) #[] #[]] ∧ f < 5000000 ∧ gfind k binA = some f := by
  intro e he
  obtain ⟨y,hy⟩ := F.reads e he
  have hm:y ∈ binsL := (mem y).2 (List.mem_map.2 ⟨e,he,rg_of hy⟩)
  simp only [binsL,List.mem_cons,List.not_mem_nil,or_false] at hm
  rcases hm with rfl | rfl | rfl | rfl | rfl | rfl | rfl | rfl | rfl
  ·obtain ⟨h1,h2⟩ := bin_ent (f0 := 112) (by kernel_rfl) hy; exact ⟨_,_,h1,h2,by decide,rfl⟩
  ·obtain ⟨h1,h2⟩ := bin_ent (f0 := 113) (by kernel_rfl) hy; exact ⟨_,_,h1,h2,by decide,rfl⟩
  ·obtain ⟨h1,h2⟩ := bin_ent (f0 := 114) (by kernel_rfl) hy; exact ⟨_,_,h1,h2,by decide,rfl⟩
  ·obtain ⟨h1,h2⟩ := bin_ent (f0 := 115) (by kernel_rfl) hy; exact ⟨_,_,h1,h2,by decide,rfl⟩
  ·obtain ⟨h1,h2⟩ := bin_ent (f0 := 116) (by kernel_rfl) hy; exact ⟨_,_,h1,h2,by decide,rfl⟩
  ·obtain ⟨h1,h2⟩ := bin_ent (f0 := 117) (by kernel_rfl) hy; exact ⟨_,_,h1,h2,by decide,rfl⟩
  ·obtain ⟨h1,h2⟩ := bin_ent (f0 := 119) (by kernel_rfl) hy; exact ⟨_,_,h1,h2,by decide,rfl⟩
  ·obtain ⟨h1,h2⟩ := bin_ent (f0 := 120) (by kernel_rfl) hy; exact ⟨_,_,h1,h2,by decide,rfl⟩
  ·obtain ⟨h1,h2⟩ := bin_ent (f0 := 121) (by kernel_rfl) hy; exact ⟨_,_,h1,h2,by decide,rfl⟩
 have all:∀ k ∈ binA.map (·.1),∃ e ∈ es.toList,e.key = .int .i64 k := by
  intro k hk
  have hkL:∃ d,(Lit.int .i64 k,d) ∈ binsL := by
   simp only [binA,List.map_cons,List.map_nil,List.mem_cons,List.not_mem_nil,or_false] at hk
   rcases hk with rfl | rfl | rfl | rfl | rfl | rfl | rfl | rfl | rfl
   ·exact ⟨_,List.mem_cons_self⟩
   ·exact ⟨_,List.mem_cons_of_mem _ (List.mem_cons_self)⟩
   ·exact ⟨_,List.mem_cons_of_mem _ (List.mem_cons_of_mem _ (List.mem_cons_self))⟩
   ·exact ⟨_,List.mem_cons_of_mem _ (List.mem_cons_of_mem _ (List.mem_cons_of_mem _ (List.mem_cons_self)))⟩
   ·exact ⟨_,List.mem_cons_of_mem _ (List.mem_cons_of_mem _ (List.mem_cons_of_mem _ (List.mem_cons_of_mem _ (List.mem_cons_self))))⟩
   ·exact ⟨_,List.mem_cons_of_mem _ (List.mem_cons_of_mem _ (List.mem_cons_of_mem _ (List.mem_cons_of_mem _ (List.mem_cons_of_mem _ (List.mem_cons_self)))))⟩
   ·exact ⟨_,List.mem_cons_of_mem _ (List.mem_cons_of_mem _ (List.mem_cons_of_mem _ (List.mem_cons_of_mem _ (List.mem_cons_of_mem _ (List.mem_cons_of_mem _ (List.mem_cons_self))))))⟩
   ·exact ⟨_,List.mem_cons_of_mem _ (List.mem_cons_of_mem _ (List.mem_cons_of_mem _ (List.mem_cons_of_mem _ (List.mem_cons_of_mem _ (List.mem_cons_of_mem _ (List.mem_cons_of_mem _ (List.mem_cons_self)))))))⟩
   ·exact ⟨_,List.mem_cons_of_mem _ (List.mem_cons_of_mem _ (List.mem_cons_of_mem _ (List.mem_cons_of_mem _ (List.mem_cons_of_mem _ (List.mem_cons_of_mem _ (List.mem_cons_of_mem _ (List.mem_cons_of_mem _ (List.mem_cons_self))))))))⟩
  obtain ⟨d,hd⟩ := hkL
  obtain ⟨e,he,hre⟩ := List.mem_map.1 ((mem _).1 hd)
  obtain ⟨y,hy⟩ := F.reads e he
  obtain ⟨k',f,h1,h2,_⟩ := ent e he
  rw [rg_of hy] at hre
  subst hre
  have hk := key_i64 (rd_key hy)
  exact ⟨e,he,hk⟩
 have hc0:W.cell? ⟨0,0,none⟩ = some (.map (some b)) := by
  rw [World.var?_cell hg hv 0]
  obtain ⟨l⟩ := cs
  have:l = [.map (some b)] := hcs
  rw [this]; rfl
 have hsp:spM (.map es clock) = true := by
  rw [spM_map]
  obtain ⟨e,he,_⟩ := all 3 (by decide)
  have hlt:0 < es.size := by
   have := List.length_pos_of_mem he
   simpa using this
  rw [Array.getElem?_eq_getElem hlt]
  obtain ⟨k,f,_,h2,_⟩ := ent es[0] (by simp)
  simp only [h2]
  rfl
 refine ⟨b,es,clock,hc0,hb,hsp,fun e he => ?_,fun k f hf => ?_⟩
 ·exact ent e he
 ·exact all k (gfind_mem hf)
theorem globGG {W:World} (hk:Lib.TabIs Tryd.prog W "wagonpool/digest.k" .u32 (Sha.K.map fun x => (x.toNat:Int))) (gk:Tryd.prog.globalNamed "wagonpool/digest.k" = some 1) (h:funcsAt Tryd.prog W "wagonpool/tvm.binaries" binsD):GlobOK GG W (ghost0 W) := by
 intro n d hd
 unfold GG at hd
 split at hd
 ·rename_i e
  subst e
  simp only [Option.some.injEq] at hd
  subst hd
  obtain ⟨b,es,clock,h1,h2,h3,h4⟩ := glob_bin h
  have hj:∀ (j:Nat) (d:D),(D.gmap binA).cells[j]? = some d → j = 0 ∧ d = .gmap binA := fun j d hd => by
   cases j with
   | zero => exact ⟨rfl,(Option.some.inj hd).symm⟩
   | succ j => cases hd
  refine .eptr _ 0 _ 0 (fun _ => .map (some b)) (fun j d hd => ?_) (fun j d hd => ?_) (fun j d hd => ?_)
  ·obtain ⟨rfl,rfl⟩ := hj j d hd; rfl
  ·obtain ⟨rfl,rfl⟩ := hj j d hd
   exact ⟨by show (W.cell? ⟨_,0,none⟩).isSome = true; rw [h1]; rfl,h1⟩
  ·obtain ⟨rfl,rfl⟩ := hj j d hd
   exact .gmap _ b es clock h2 h3 h4
 ·exact globTab hk gk n d hd
end Go.Proofs.YtlleccmnjpcogaaDoor.PI
namespace Go.Proofs.YtlleccmnjpcogaaDoor.PI
open Go
set_option linter.unusedSimpArgs false
set_option linter.unusedVariables false
theorem mul_q8 (n:Nat):pbin .mul (.int .u64 (n:Int)) (.int .u64 8) = some (qD (UInt64.ofNat n * 8)) := by
 have e:(n:Int) * 8 = ((n * 8:Nat):Int) := by omega
 simp only [pbin,if_true,iarith,Option.map_some,e,wrap_u64,qD]
 congr 3
 simp
theorem b128:D.int .u8 128 = byteD 128 := rfl
theorem b0:D.int .u8 0 = byteD 0 := rfl
theorem qD_ren (n:Nat) (σ:List Nat) (x:UInt64):ren n σ (qD x) = qD x := rfl
theorem qD_hk (x:UInt64):hk (qD x) = [] := rfl
theorem flatten_take_le {α:Type} (l:List (List α)) (i:Nat):(l.take i).flatten.length ≤ l.flatten.length := by
 have:l.flatten = (l.take i).flatten ++ (l.drop i).flatten := by rw [← List.flatten_append,List.take_append_drop]
 rw [this,List.length_append]
 omega
theorem blocks_succ (s:Sha.St8):∀ (i:Nat) (m:List UInt8),Sha.blocks s (i + 1) m = Sha.block (Sha.blocks s i m) ((m.drop (64 * i)).take 64)
 | 0,m => by simp [Sha.blocks]
 | i + 1,m => by
  rw [Sha.blocks,blocks_succ (Sha.block s (m.take 64)) i (m.drop 64),Sha.blocks,List.drop_drop,show 64 + 64 * i = 64 * (i + 1) by omega]
theorem padded_mod (m:List UInt8):(Sha.padded m).length = m.length + 1 + Sha.zeros m.length + 8 ∧ (Sha.padded m).length % 64 = 0 := by
 have h:(Sha.padded m).length = m.length + 1 + Sha.zeros m.length + 8 := by
  simp [Sha.padded,Sha.lenB_length]; omega
 refine ⟨h,?_⟩
 rw [h]; unfold Sha.zeros; omega
def outZ (l:List UInt32) (i:Nat):List UInt8 := Sha.outB l i ++ List.replicate (32 - i) 0
theorem outZ_length (l:List UInt32) (i:Nat) (h:i ≤ 32):(outZ l i).length = 32 := by
 simp [outZ,Sha.outB_length]; omega
theorem outZ_set (l:List UInt32) (i:Nat) (h:i < 32):(outZ l i).set i ((l.getD (i / 4) 0 >>> UInt32.ofNat (24 - 8 * (i % 4))).toUInt8) = outZ l (i + 1) := by
 have h2:(Sha.outB l i).length = i := Sha.outB_length l i
 unfold outZ
 rw [Sha.outB,List.set_append_right _ _ (by omega),h2,Nat.sub_self,show 32 - i = (32 - (i + 1)) + 1 by omega,List.replicate_succ,List.set_cons_zero,List.append_assoc]
 rfl
def viewD (sz key tot off:Nat):D := if off < tot then .row key tot off (tot - off) else .slc sz [] false
theorem viewD_lt {sz key tot off:Nat} (h:off < tot):viewD sz key tot off = .row key tot off (tot - off) := if_pos h
theorem viewD_ge {sz key tot off:Nat} (h:¬ off < tot):viewD sz key tot off = .slc sz [] false := if_neg h
noncomputable def sp_sum:List D → Option D := spOf (α := List (List UInt8)) (fun a => [.slc (nz 1 (a.map bsD)) (a.map bsD) false]) (fun a => a.flatten.length ≤ 4294960000 ∧ a.length ≤ 4294960000) (fun a => digD (shaL a.flatten))
theorem call_sum (ps:List (List UInt8)) (h:ps.flatten.length ≤ 4294960000 ∧ ps.length ≤ 4294960000):sp_sum [.slc (nz 1 (ps.map bsD)) (ps.map bsD) false] = some (digD (shaL ps.flatten)) :=
 spOf_enc (fun a b h => by simp only [List.cons.injEq,D.slc.injEq,bsl_iff,and_true] at h; simp [h]) (ps) h
set_option maxHeartbeats 4000000 in
set_option maxRecDepth 20000 in
theorem w_sum (ps:List (List UInt8)) (h:ps.flatten.length ≤ 4294960000 ∧ ps.length ≤ 4294960000):@wW GG (tb [(74,sp_block)] []) F_digest_sum.code (argF [.slc (nz 1 (ps.map bsD)) (ps.map bsD) false]) [] ⟨retQ F_digest_sum.res (digD (shaL ps.flatten))⟩ := by
 obtain ⟨h,hps⟩ := h
 generalize hm:ps.flatten = m at h
 unfold F_digest_sum
 simp only [push_cast,↓reduceIte,Nat.reduceEqDiff,nil_bufD 1]
 refine W_while (fun i:Nat => [(2,.ptr 0 0),(3,bufD 0 1 ((ps.take i).flatten.map byteD)),(10,.slc (nz 1 (ps.map bsD)) (ps.map bsD) false),(11,.int .i64 (ps.length:Int)),(12,.int .i64 (i:Int))])
  (fun i => ⟨false,1,digC zeroDig,false⟩ :: bufS 1 ((ps.take i).flatten.map byteD)) (fun i => i ≤ ps.length) (fun i => ps.length - i) 0 (by simp only [push_cast,↓reduceIte,Nat.reduceEqDiff,Nat.reduceLT,Nat.reduceLeDiff,↓Int.reduceNatCast'] <;> rfl) (by omega) ?_
 intro i hi
 unfold F_digest_sum_L0
 simp only [push_cast,↓reduceIte,Nat.reduceEqDiff]
 refine ifD_split (fun h1 => ?_) (fun h1 => ?_)
 ·have e:(ps.take (i + 1)).flatten = (ps.take i).flatten ++ ps.getD i default := by
   rw [take_getD ps i (by omega),List.flatten_append]; simp
  have hl := flatten_take_le ps (i + 1)
  rw [e,List.length_append,hm] at hl
  simp (disch:=first|omega|decide) only [push_cast,↓reduceIte,Nat.reduceEqDiff,Nat.reduceLT,Nat.reduceLeDiff,idxS_nz,add_i]
  refine next_head (i + 1) (by omega) (by omega) ?_
  rw [e]
  simp only [push_cast] <;> rfl
 ·obtain rfl:i = ps.length := by omega
  rw [List.take_length,hm]
  have hne:(m ++ [128]).map byteD ≠ [] := by simp
  simp (disch:=first|omega|decide) only [push_cast,↓reduceIte,Nat.reduceEqDiff,conv_iu,mul_q8,b128,bufD_ne _ _ _ hne,bufS_ne _ _ hne]
  generalize hq:UInt64.ofNat m.length * 8 = q
  refine W_while (fun j:Nat => [(2,.ptr 0 0),(3,.row 1 (m ++ [128] ++ List.replicate j 0).length 0 (m ++ [128] ++ List.replicate j 0).length),(6,qD q)])
   (fun j => [⟨false,1,digC zeroDig,false⟩,⟨true,1,(m ++ [128] ++ List.replicate j 0).map byteD,false⟩]) (fun j => j ≤ Sha.zeros m.length) (fun j => Sha.zeros m.length - j) 0 (by simp only [push_cast,↓reduceIte,Nat.reduceEqDiff,Nat.reduceLT,Nat.reduceLeDiff,Nat.reduceAdd,List.replicate_zero,List.append_nil] <;> rfl) (by omega) ?_
  intro j hj
  have hlen:(m ++ [128] ++ List.replicate j 0).length = m.length + 1 + j := by simp; omega
  have hz2:(m.length + 1 + Sha.zeros m.length) % 64 = 56 := by unfold Sha.zeros; omega
  have hz:Sha.zeros m.length < 64 := by unfold Sha.zeros; omega
  unfold F_digest_sum_L1
  simp (disch:=first|omega|decide) only [push_cast,↓reduceIte,Nat.reduceEqDiff,rem_i]
  refine ifD_split (fun h2 => ?_) (fun h2 => ?_)
  ·obtain rfl:j = Sha.zeros m.length := by
    unfold Sha.zeros at hj ⊢; omega
   simp only [push_cast,↓reduceIte,Nat.reduceAdd]
   have hmz:(m ++ [128] ++ List.replicate (Sha.zeros m.length) 0) = (m ++ [128] ++ List.replicate (Sha.zeros m.length) 0) ++ Sha.lenB q 0 := (List.append_nil _).symm
   generalize hM:m ++ [128] ++ List.replicate (Sha.zeros m.length) 0 = M at hlen hmz h2
   refine W_while (fun j:Nat => [(2,.ptr 0 0),(3,.row 1 (M ++ Sha.lenB q j).length 0 (M ++ Sha.lenB q j).length),(6,qD q),(7,.int .i64 (56 - 8 * (j:Int)))])
    (fun j => [⟨false,1,digC zeroDig,false⟩,⟨true,1,(M ++ Sha.lenB q j).map byteD,false⟩]) (fun j => j ≤ 8) (fun j => 8 - j) 0 (by rw [← hmz]; simp only [push_cast,↓reduceIte,Nat.reduceEqDiff,Nat.reduceLT,Nat.reduceLeDiff,Nat.reduceAdd,Int.reduceMul,Int.reduceSub,↓Int.reduceNatCast'] <;> rfl) (by omega) ?_
   intro j hj
   have hl2:(M ++ Sha.lenB q j).length = M.length + j := by rw [List.length_append,Sha.lenB_length]
   unfold F_digest_sum_L2
   simp only [push_cast,↓reduceIte,Nat.reduceEqDiff]
   refine ifD_split (fun h3 => ?_) (fun h3 => ?_)
   ·have e:(56 - 8 * (j:Int)).toNat = 56 - 8 * j := by omega
    have e2:M ++ Sha.lenB q (j + 1) = (M ++ Sha.lenB q j) ++ [(q >>> UInt64.ofNat (56 - 8 * j)).toUInt8] := by rw [Sha.lenB,List.append_assoc]
    simp (disch:=first|omega|decide) only [push_cast,↓reduceIte,Nat.reduceEqDiff,Nat.reduceLT,Nat.reduceLeDiff,Nat.reduceAdd,shr_qi,conv_qb,e,sub_i]
    refine next_head (j + 1) (by omega) (by omega) ?_
    rw [e2]
    have e4:(56 - 8 * (j:Int) - 8) = 56 - 8 * ((j + 1:Nat):Int) := by omega
    simp only [push_cast,qD_ren,qD_hk,e4] <;> rfl
   ·obtain rfl:j = 8 := by omega
    have hP:M ++ Sha.lenB q 8 = Sha.padded m := by rw [← hM,← hq]; rfl
    rw [hP]
    rw [hP] at hl2
    obtain ⟨hp1,hp2⟩ := padded_mod m
    have hsh:shaL m = ⟨Sha.outB (Sha.blocks Sha.H0 ((Sha.padded m).length / 64) (Sha.padded m)).list 32,Sha.outB_length _ 32⟩ := rfl
    rw [hsh]
    generalize Sha.padded m = PM at hl2 hp1 hp2
    have hH:Sha.H0.list.length = 8 := rfl
    have hz8:(zW 8).length = 8 := rfl
    simp (disch := omega) only [push_cast,↓reduceIte,Nat.reduceEqDiff,Nat.reduceAdd,Int.reduceLE,Int.reduceNeg,Int.reduceMul,Int.reduceSub,↓Int.reduceNatCast',fillH0]
    refine W_while (fun j:Nat => [(2,.ptr 0 0),(3,viewD 1 1 PM.length (64 * j)),(8,.ptr 2 0)])
     (fun j => [⟨false,1,digC zeroDig,false⟩,⟨true,1,PM.map byteD,false⟩,⟨false,1,(Sha.blocks Sha.H0 j PM).list.map wD,false⟩]) (fun j => j ≤ PM.length / 64) (fun j => PM.length / 64 - j) 0 (by rw [viewD_lt (by omega)]; simp only [push_cast,↓reduceIte,Nat.reduceEqDiff,Nat.reduceLT,Nat.reduceLeDiff,Nat.reduceAdd,Nat.reduceMul,Int.reduceNeg] <;> rfl) (by omega) ?_
    intro j hj
    unfold F_digest_sum_L3
    rcases Nat.lt_or_ge (64 * j) PM.length with h4 | h4
    ·have hbl:((PM.drop (64 * j)).take 64).length = 64 := by simp; omega
     have hbs := blocks_succ Sha.H0 j PM
     generalize Sha.blocks Sha.H0 j PM = sj at hbs
     have hl8:sj.list.length = 8 := rfl
     have hl9:(Sha.block sj ((PM.drop (64 * j)).take 64)).list.length = 8 := rfl
     have c1:((0:Int) < ((PM.length - 64 * j:Nat):Int)) := by omega
     have c2:((0:Int) < (PM.length:Int) - 64 * (j:Int)) := by omega
     have c3:¬ (64 = PM.length - 64 * j) ∨ PM.length - 64 * j = 64 := by omega
     rw [viewD_lt h4]
     by_cases h5:PM.length - 64 * j = 64
     ·simp (disch := omega) only [push_cast,↓reduceIte,Nat.reduceEqDiff,Nat.reduceLT,Nat.reduceLeDiff,Nat.reduceAdd,Int.reduceLT,Int.reduceToNat,↓Int.reduceNatCast',slR_row,call_block,h5]
      refine next_head (j + 1) (by omega) (by omega) ?_
      rw [viewD_ge (by omega),hbs]
     ·have h6:¬ 64 = PM.length - 64 * j := fun e => h5 e.symm
      simp (disch := omega) only [push_cast,↓reduceIte,Nat.reduceEqDiff,Nat.reduceLT,Nat.reduceLeDiff,Nat.reduceAdd,Nat.reduceSub,Int.reduceToNat,↓Int.reduceNatCast',c2,slR_row,call_block,h6]
      refine next_head (j + 1) (by omega) (by omega) ?_
      rw [viewD_lt (by omega),hbs]
      simp only [Nat.mul_add,Nat.mul_one,Nat.sub_sub]
    ·obtain rfl:j = PM.length / 64 := by omega
     rw [viewD_ge (by omega)]
     generalize Sha.blocks Sha.H0 (PM.length / 64) PM = sj
     have hl8:sj.list.length = 8 := rfl
     simp only [push_cast,↓reduceIte,Nat.reduceEqDiff,Nat.reduceAdd,Int.reduceLT]
     refine W_while (fun j:Nat => [(2,.ptr 0 0),(8,.ptr 2 0),(55,.int .i64 (j:Int))])
      (fun j => [⟨false,1,(outZ sj.list j).map byteD,false⟩,⟨true,1,PM.map byteD,false⟩,⟨false,1,sj.list.map wD,false⟩]) (fun j => j ≤ 32) (fun j => 32 - j) 0 (by simp only [push_cast,↓reduceIte,Nat.reduceEqDiff,Nat.reduceLT,Nat.reduceLeDiff,Nat.reduceAdd,↓Int.reduceNatCast'] <;> rfl) (by omega) ?_
     intro j hj
     unfold F_digest_sum_L4
     simp only [push_cast,↓reduceIte,Nat.reduceEqDiff]
     refine ifD_split (fun h6 => ?_) (fun h6 => ?_)
     ·have hz3 := outZ_length sj.list j (by omega)
      have hz4 := outZ_set sj.list j (by omega)
      have e1:((j:Int) / 4).toNat = j / 4 := by omega
      have e2:(24 - 8 * ((j:Int) % 4)).toNat = 24 - 8 * (j % 4) := by omega
      simp (disch := omega) only [push_cast,↓reduceIte,Nat.reduceEqDiff,Nat.reduceLT,Nat.reduceLeDiff,Nat.reduceAdd,quo_i,rem_i,mul_i,sub_i,add_i,idxA_ptr,shr_wi,conv_wb,e1,e2]
      refine next_head (j + 1) (by omega) (by omega) ?_
      rw [← hz4]
      simp only [push_cast] <;> rfl
     ·obtain rfl:j = 32 := by omega
      have hz3 := outZ_length sj.list 32 (by omega)
      simp (disch := omega) only [push_cast,↓reduceIte,Nat.reduceEqDiff,Nat.reduceAdd,Int.reduceLT,↓Int.reduceNatCast']
      rw [show outZ sj.list 32 = Sha.outB sj.list 32 from List.append_nil _]
      rfl
  ·simp (disch:=first|omega|decide) only [push_cast,↓reduceIte,Nat.reduceEqDiff,Nat.reduceLT,Nat.reduceLeDiff,Nat.reduceAdd,b0]
   have h9:j < Sha.zeros m.length := by
    rcases Nat.lt_or_ge j (Sha.zeros m.length) with h3 | h3
    ·exact h3
    ·exfalso
     obtain rfl:j = Sha.zeros m.length := by omega
     omega
   refine next_head (j + 1) (by omega) (by omega) ?_
   have e:m ++ [128] ++ List.replicate (j + 1) 0 = (m ++ [128] ++ List.replicate j 0) ++ [0] := by
    rw [List.replicate_succ',List.append_assoc,List.append_assoc,List.append_assoc]
   rw [e]
   simp only [push_cast,qD_ren,qD_hk] <;> rfl
theorem c_sum:Contract Tryd.prog GG 60 sp_sum :=
 contract_of tr_digest_sum (tb_ok (all_cons c_block all_nil) all_nil) (fun a h => w_sum a h)
noncomputable def sp_tagged:List D → Option D := spOf (α := List UInt8 × List UInt8) (fun a => [.str a.1,.slc (nz 1 (a.2.map byteD)) (a.2.map byteD) false]) (fun a => a.1.length + a.2.length ≤ 4294900000) (fun a => digD (taggedL a.1 a.2))
theorem call_tagged (t:List UInt8) (b:List UInt8) (h:t.length + b.length ≤ 4294900000):sp_tagged [.str t,.slc (nz 1 (b.map byteD)) (b.map byteD) false] = some (digD (taggedL t b)) :=
 spOf_enc (fun ⟨a0,a1⟩ ⟨b0,b1⟩ h => by simp only [List.cons.injEq,D.slc.injEq,D.str.injEq,bytes_iff,and_true] at h; simp [h]) (t,b) h
theorem call_sum3 (x:UInt8) (t b:List UInt8) (h:t.length + b.length ≤ 4294950000) :
  sp_sum [.slc 1 [.slc 1 [byteD x] false,.slc (nz 1 (t.map byteD)) (t.map byteD) false,.slc (nz 1 (b.map byteD)) (b.map byteD) false] false] = some (digD (shaL (x :: (t ++ b)))) := by
 have := call_sum [[x],t,b] ⟨by simp; omega,by simp⟩
 rw [show ([[x],t,b]:List (List UInt8)).flatten = x :: (t ++ b) by simp] at this
 exact this
set_option maxHeartbeats 4000000 in
set_option maxRecDepth 20000 in
theorem w_tagged (t:List UInt8) (b:List UInt8) (h:t.length + b.length ≤ 4294900000):@wW GG (tb [(60,sp_sum)] []) F_digest_Tagged.code (argF [.str t,.slc (nz 1 (b.map byteD)) (b.map byteD) false]) [] ⟨retQ F_digest_Tagged.res (digD (taggedL t b))⟩ := by
 unfold F_digest_Tagged
 have e1:(min (t.length:Int) 255).toNat = min t.length 255 := by omega
 have e2:t.take (min t.length 255) = t.take 255 := by
  rcases Nat.le_total t.length 255 with h1 | h1
  ·rw [Nat.min_eq_left h1,List.take_length,List.take_of_length_le h1]
  ·rw [Nat.min_eq_right h1]
 have hl:(t.take 255).length ≤ 255 := by simp; omega
 have hl2:(t.take 255).length ≤ t.length := by simp; omega
 simp (disch := omega) only [push_cast,↓reduceIte,Nat.reduceEqDiff,pslice_str,e1,e2,conv_ub,call_sum3]
 rfl
theorem c_tagged:Contract Tryd.prog GG 36 sp_tagged :=
 contract_of tr_digest_Tagged (tb_ok (all_cons c_sum all_nil) all_nil) (fun a h => w_tagged a.1 a.2 h)
end Go.Proofs.YtlleccmnjpcogaaDoor.PI
namespace Go.Proofs.YtlleccmnjpcogaaDoor.PI
open Go
set_option linter.unusedSimpArgs false
set_option linter.unusedVariables false
end Go.Proofs.YtlleccmnjpcogaaDoor.PI
namespace Go.Proofs.YtlleccmnjpcogaaDoor.PI
open Go
set_option linter.unusedSimpArgs false
set_option maxHeartbeats 8000000
set_option maxRecDepth 20000
set_option linter.unusedVariables false
def nI (n:Int):D := .int .i64 n
theorem nI_iff {a b:Int}:nI a = nI b ↔ a = b := by simp [nI]
theorem ints_iff {a b:List Int}:a.map nI = b.map nI ↔ a = b := ⟨map_inj fun _ _ => nI_iff.1,fun h => by rw [h]⟩
theorem wrapU (n:Int):IntKind.wrap .u64 n = n % 18446744073709551616 := rfl
theorem wrapU_id {n:Int} (h0:0 ≤ n) (h1:n < 18446744073709551616):IntKind.wrap .u64 n = n := by rw [wrapU]; omega
theorem add_u {a b:Int} (h0:0 ≤ a + b) (h1:a + b < 18446744073709551616):pbin .add (.int .u64 a) (.int .u64 b) = some (.int .u64 (a + b)) := by
 simp only [pbin,if_true,iarith,Option.map_some,wrapU_id h0 h1]
theorem mul_u {a b:Int} (h0:0 ≤ a * b) (h1:a * b < 18446744073709551616):pbin .mul (.int .u64 a) (.int .u64 b) = some (.int .u64 (a * b)) := by
 simp only [pbin,if_true,iarith,Option.map_some,wrapU_id h0 h1]
theorem mul_uw (a b:Int):pbin .mul (.int .u64 a) (.int .u64 b) = some (.int .u64 ((a * b) % 18446744073709551616)) := by
 simp only [pbin,if_true,iarith,Option.map_some,wrapU]
theorem toNat_ofIntU {a:Int} (h0:0 ≤ a) (h1:a < 18446744073709551616):(BitVec.ofInt 64 a).toNat = a.toNat := by
 rw [BitVec.toNat_ofInt]
 omega
theorem and_mask {a:Int} (h0:0 ≤ a) (h1:a < 18446744073709551616):pbin .and (.int .u64 a) (.int .u64 4294967295) = some (.int .u64 (a % 4294967296)) := by
 have h:(BitVec.ofInt (IntKind.bits .u64) a &&& BitVec.ofInt (IntKind.bits .u64) 4294967295).toNat = (a % 4294967296).toNat := by
  show (BitVec.ofInt 64 a &&& BitVec.ofInt 64 4294967295).toNat = _
  rw [BitVec.toNat_and,toNat_ofIntU h0 h1,show (BitVec.ofInt 64 4294967295).toNat = 2 ^ 32 - 1 from rfl,Nat.and_two_pow_sub_one_eq_mod]
  omega
 simp only [pbin,if_true,ibits,Option.map_some,h]
 rw [wrapU_id (by omega) (by omega)]
 congr 2
 omega
theorem half_mul {a b:Int} (ha:0 ≤ a) (hb:0 ≤ b) (ha2:a ≤ 4294967295) (hb2:b ≤ 4294967295):0 ≤ a * b ∧ a * b ≤ 18446744065119617025 := by
 refine ⟨Int.mul_nonneg ha hb,?_⟩
 have h1:a * b ≤ 4294967295 * b := Int.mul_le_mul_of_nonneg_right ha2 hb
 omega
theorem mul4 (a b c d:Int):a * b * (c * d) = a * c * (b * d) := by rw [Int.mul_assoc,Int.mul_left_comm b,← Int.mul_assoc]
theorem mul_split (x y:Int):x * y = (x / 4294967296) * (y / 4294967296) * 18446744073709551616 + ((x / 4294967296) * (y % 4294967296) + (x % 4294967296) * (y / 4294967296)) * 4294967296 + (x % 4294967296) * (y % 4294967296) := by
 have e1:x = (x / 4294967296) * 4294967296 + x % 4294967296 := (Int.ediv_mul_add_emod x 4294967296).symm
 have e2:y = (y / 4294967296) * 4294967296 + y % 4294967296 := (Int.ediv_mul_add_emod y 4294967296).symm
 conv => lhs; rw [e1,e2]
 rw [Int.add_mul,Int.mul_add,Int.mul_add,mul4,Int.mul_right_comm (x / 4294967296) 4294967296,← Int.mul_assoc (x % 4294967296),Int.add_mul]
 omega
noncomputable def sp_bMul:List D → Option D := spOf (α := Int × Int) (fun a => [.int .u64 a.1,.int .u64 a.2]) (fun a => 0 ≤ a.1 ∧ a.1 < 18446744073709551616 ∧ 0 ≤ a.2 ∧ a.2 < 18446744073709551616) (fun a => .tup [.int .u64 (a.1 * a.2 / 18446744073709551616),.int .u64 (a.1 * a.2 % 18446744073709551616)])
theorem call_bMul (x:Int) (y:Int) (h:0 ≤ x ∧ x < 18446744073709551616 ∧ 0 ≤ y ∧ y < 18446744073709551616):sp_bMul [.int .u64 x,.int .u64 y] = some (.tup [.int .u64 (x * y / 18446744073709551616),.int .u64 (x * y % 18446744073709551616)]) :=
 spOf_enc (fun ⟨a0,a1⟩ ⟨b0,b1⟩ h => by simp only [List.cons.injEq,D.int.injEq,true_and,and_true] at h; simp [h]) (x,y) h
theorem w_bMul (x:Int) (y:Int) (h:0 ≤ x ∧ x < 18446744073709551616 ∧ 0 ≤ y ∧ y < 18446744073709551616):@wW GG (tb [] []) F_math_bits_Mul64.code (argF [.int .u64 x,.int .u64 y]) [] ⟨retQ F_math_bits_Mul64.res (.tup [.int .u64 (x * y / 18446744073709551616),.int .u64 (x * y % 18446744073709551616)])⟩ := by
 obtain ⟨hx0,hx1,hy0,hy1⟩ := h
 have e := mul_split x y
 have ha := half_mul (a := x / 4294967296) (b := y / 4294967296) (by omega) (by omega) (by omega) (by omega)
 have hb := half_mul (a := x / 4294967296) (b := y % 4294967296) (by omega) (by omega) (by omega) (by omega)
 have hc := half_mul (a := x % 4294967296) (b := y / 4294967296) (by omega) (by omega) (by omega) (by omega)
 have hd := half_mul (a := x % 4294967296) (b := y % 4294967296) (by omega) (by omega) (by omega) (by omega)
 unfold F_math_bits_Mul64
 simp (disch := omega) only [push_cast,↓reduceIte,Nat.reduceEqDiff,Int.reduceToNat,Int.reducePow,and_mask,shr_u,mul_u,add_u,mul_uw x y]
 rw [e]
 generalize (x / 4294967296) * (y / 4294967296) = a at *
 generalize (x / 4294967296) * (y % 4294967296) = b at *
 generalize (x % 4294967296) * (y / 4294967296) = c at *
 generalize (x % 4294967296) * (y % 4294967296) = d at *
 have e9:a + (b + d / 4294967296) / 4294967296 + ((b + d / 4294967296) % 4294967296 + c) / 4294967296 = (a * 18446744073709551616 + (b + c) * 4294967296 + d) / 18446744073709551616 := by omega
 rw [e9]
theorem c_bMul:Contract Tryd.prog GG 78 sp_bMul :=
 contract_of tr_math_bits_Mul64 (tb_ok all_nil all_nil) (fun a h => w_bMul a.1 a.2 h)
def inI (x:Int):Bool := decide (-9007199254740992 ≤ x) && decide (x ≤ 9007199254740992)
theorem inI_iff {x:Int}:inI x = true ↔ -9007199254740992 ≤ x ∧ x ≤ 9007199254740992 := by simp [inI]
theorem inI_not {x:Int}:inI x = false ↔ x < -9007199254740992 ∨ 9007199254740992 < x := by
 rw [← Bool.not_eq_true,inI_iff]; omega
theorem drop_all {l:List Int} {i:Nat} (h:i < l.length):(l.drop i).all inI = (inI (l.getD i default) && (l.drop (i + 1)).all inI) := by
 rw [List.drop_eq_getElem_cons h,List.all_cons]
 simp [List.getD_eq_getElem?_getD,h]
noncomputable def sp_mnIn:List D → Option D := spOf (α := List Int) (fun a => [.slc (nz 1 (a.map nI)) (a.map nI) false]) (fun a => a.length ≤ 65536) (fun a => .bool (a.all inI))
theorem call_mnIn (l:List Int) (h:l.length ≤ 65536):sp_mnIn [.slc (nz 1 (l.map nI)) (l.map nI) false] = some (.bool (l.all inI)) :=
 spOf_enc (fun a b h => by simp only [List.cons.injEq,D.slc.injEq,and_true,ints_iff] at h; simp [h]) (l) h
theorem w_mnIn (l:List Int) (h:l.length ≤ 65536):@wW GG (tb [] []) F_money_in.code (argF [.slc (nz 1 (l.map nI)) (l.map nI) false]) [] ⟨retQ F_money_in.res (.bool (l.all inI))⟩ := by
 unfold F_money_in
 simp (disch:=first|omega|decide) only [push_cast,↓reduceIte,Nat.reduceEqDiff]
 refine W_while (fun i:Nat => [(5,.slc (nz 1 (l.map nI)) (l.map nI) false),(6,.int .i64 (l.length:Int)),(7,.int .i64 (i:Int))]) (fun _ => []) (fun i => i ≤ l.length ∧ l.all inI = (l.drop i).all inI) (fun i => l.length - i) 0 (by simp only [push_cast,↓reduceIte,Nat.reduceEqDiff,↓Int.reduceNatCast'] <;> rfl) ⟨Nat.zero_le _,rfl⟩ ?_
 rintro i ⟨hi,hh⟩
 unfold F_money_in_L0
 simp (disch:=first|omega|decide) only [push_cast,↓reduceIte,Nat.reduceEqDiff,Int.reduceNeg]
 refine ifD_split (fun h2 => ?_) (fun h2 => ?_)
 ·have hlt:i < l.length := by omega
  rw [drop_all hlt] at hh
  have hix:∀ st:St,pidxS st 1 (.slc (nz 1 (l.map nI)) (l.map nI) false) (.int .i64 (i:Int)) = some (.eptr (nI (l.getD i default)) 0) := fun st => by
   have := idxS_nz st 1 nI l false .i64 (i:Int) (by omega) (by omega)
   rwa [Int.toNat_natCast] at this
  generalize l.getD i default = x at *
  cases hx:inI x with
  | true =>
   obtain ⟨h5,h6⟩ := inI_iff.1 hx
   rw [hx,Bool.true_and] at hh
   have h7:¬ (x < -9007199254740992) := by omega
   have h8:¬ (9007199254740992 < x) := by omega
   simp (disch:=first|omega|decide) only [push_cast,↓reduceIte,Nat.reduceEqDiff,Int.reduceNeg,hix,nI,h7,h8,add_i]
   refine next_head (i + 1) (by exact ⟨by omega,hh⟩) (by omega) ?_
   simp only [push_cast] <;> rfl
  | false =>
   rw [hx,Bool.false_and] at hh
   by_cases h7:x < -9007199254740992
   ·simp (disch:=first|omega|decide) only [push_cast,↓reduceIte,Nat.reduceEqDiff,Int.reduceNeg,hix,nI,h7,hh]
   ·have h8:9007199254740992 < x := by have := inI_not.1 hx; omega
    simp (disch:=first|omega|decide) only [push_cast,↓reduceIte,Nat.reduceEqDiff,Int.reduceNeg,hix,nI,h7,h8,hh]
 ·obtain rfl:i = l.length := by omega
  rw [List.drop_length] at hh
  simp (disch:=first|omega|decide) only [push_cast,↓reduceIte,Int.reduceNeg,hh,List.all_nil]
theorem c_mnIn:Contract Tryd.prog GG 122 sp_mnIn :=
 contract_of tr_money_in (tb_ok all_nil all_nil) (fun a h => w_mnIn a h)
def rgF (c:Int):Int × Int := if inI c then (c,0) else (0,3)
theorem lit1 (a:Int):litD 1 [.int .i64 a] = some (.slc 1 [.int .i64 a] true) := (rfl)
theorem lit2 (a b:Int):litD 1 [.int .i64 a,.int .i64 b] = some (.slc 1 [.int .i64 a,.int .i64 b] true) := (rfl)
theorem e98:((9:Int) = 8) = False := by decide
theorem e108:((10:Int) = 8) = False := by decide
theorem e109:((10:Int) = 9) = False := by decide
theorem e810:((8:Int) = 10) = False := by decide
theorem e910:((9:Int) = 10) = False := by decide
theorem call_in1 (a:Int):sp_mnIn [.slc 1 [.int .i64 a] false] = some (.bool (inI a)) := by
 have := call_mnIn [a] (by simp)
 simpa [nI,nz] using this
theorem call_in2 (a b:Int):sp_mnIn [.slc 1 [.int .i64 a,.int .i64 b] false] = some (.bool (inI a && inI b)) := by
 have := call_mnIn [a,b] (by simp)
 simpa [nI,nz] using this
noncomputable def sp_mnRg:List D → Option D := spOf (α := Int) (fun a => [.int .i64 a]) (fun a => True) (fun a => .tup [.int .i64 (rgF a).1,.int .i64 (rgF a).2])
theorem call_mnRg (c:Int):sp_mnRg [.int .i64 c] = some (.tup [.int .i64 (rgF c).1,.int .i64 (rgF c).2]) :=
 spOf_enc (fun a b h => by simp only [List.cons.injEq,D.int.injEq,true_and,and_true] at h; simp [h]) (c) trivial
theorem w_mnRg (c:Int):@wW GG (tb [(122,sp_mnIn)] []) F_money_ranged.code (argF [.int .i64 c]) [] ⟨retQ F_money_ranged.res (.tup [.int .i64 (rgF c).1,.int .i64 (rgF c).2])⟩ := by
 unfold F_money_ranged rgF
 have := call_in1 c
 cases hc:inI c <;> rw [hc] at this <;> simp (disch:=first|omega|decide) only [push_cast,↓reduceIte,Nat.reduceEqDiff,lit1,this]
theorem c_mnRg:Contract Tryd.prog GG 123 sp_mnRg :=
 contract_of tr_money_ranged (tb_ok (all_cons c_mnIn all_nil) all_nil) (fun a h => w_mnRg a)
def addF (a b:Int):Int × Int := if inI a && inI b then rgF (a + b) else (0,3)
def subF (a b:Int):Int × Int := if inI a && inI b then rgF (a - b) else (0,3)
noncomputable def sp_mnAdd:List D → Option D := spOf (α := Int × Int) (fun a => [.int .i64 a.1,.int .i64 a.2]) (fun a => True) (fun a => .tup [.int .i64 (addF a.1 a.2).1,.int .i64 (addF a.1 a.2).2])
theorem call_mnAdd (a:Int) (b:Int):sp_mnAdd [.int .i64 a,.int .i64 b] = some (.tup [.int .i64 (addF a b).1,.int .i64 (addF a b).2]) :=
 spOf_enc (fun ⟨a0,a1⟩ ⟨b0,b1⟩ h => by simp only [List.cons.injEq,D.int.injEq,true_and,and_true] at h; simp [h]) (a,b) trivial
theorem w_mnAdd (a:Int) (b:Int):@wW GG (tb [(122,sp_mnIn),(123,sp_mnRg)] []) F_money_Add.code (argF [.int .i64 a,.int .i64 b]) [] ⟨retQ F_money_Add.res (.tup [.int .i64 (addF a b).1,.int .i64 (addF a b).2])⟩ := by
 unfold F_money_Add addF
 have h2 := call_in2 a b
 have h3 := call_mnRg (a + b)
 cases hc:inI a && inI b with
 | false => rw [hc] at h2; simp (disch:=first|omega|decide) only [push_cast,↓reduceIte,Nat.reduceEqDiff,lit2,h2]
 | true =>
  rw [hc] at h2
  simp only [Bool.and_eq_true,inI_iff] at hc
  simp (disch:=first|omega|decide) only [push_cast,↓reduceIte,Nat.reduceEqDiff,lit2,h2,h3,add_i]
theorem c_mnAdd:Contract Tryd.prog GG 112 sp_mnAdd :=
 contract_of tr_money_Add (tb_ok (all_cons c_mnIn (all_cons c_mnRg all_nil)) all_nil) (fun a h => w_mnAdd a.1 a.2)
noncomputable def sp_mnSub:List D → Option D := spOf (α := Int × Int) (fun a => [.int .i64 a.1,.int .i64 a.2]) (fun a => True) (fun a => .tup [.int .i64 (subF a.1 a.2).1,.int .i64 (subF a.1 a.2).2])
theorem call_mnSub (a:Int) (b:Int):sp_mnSub [.int .i64 a,.int .i64 b] = some (.tup [.int .i64 (subF a b).1,.int .i64 (subF a b).2]) :=
 spOf_enc (fun ⟨a0,a1⟩ ⟨b0,b1⟩ h => by simp only [List.cons.injEq,D.int.injEq,true_and,and_true] at h; simp [h]) (a,b) trivial
theorem w_mnSub (a:Int) (b:Int):@wW GG (tb [(122,sp_mnIn),(123,sp_mnRg)] []) F_money_Sub.code (argF [.int .i64 a,.int .i64 b]) [] ⟨retQ F_money_Sub.res (.tup [.int .i64 (subF a b).1,.int .i64 (subF a b).2])⟩ := by
 unfold F_money_Sub subF
 have h2 := call_in2 a b
 have h3 := call_mnRg (a - b)
 cases hc:inI a && inI b with
 | false => rw [hc] at h2; simp (disch:=first|omega|decide) only [push_cast,↓reduceIte,Nat.reduceEqDiff,lit2,h2]
 | true =>
  rw [hc] at h2
  simp only [Bool.and_eq_true,inI_iff] at hc
  simp (disch:=first|omega|decide) only [push_cast,↓reduceIte,Nat.reduceEqDiff,lit2,h2,h3,sub_i]
theorem c_mnSub:Contract Tryd.prog GG 113 sp_mnSub :=
 contract_of tr_money_Sub (tb_ok (all_cons c_mnIn (all_cons c_mnRg all_nil)) all_nil) (fun a h => w_mnSub a.1 a.2)
theorem neg_u {a:Int} (h0:0 < a) (h1:a < 18446744073709551616):pun .neg (.int .u64 a) = some (.int .u64 (18446744073709551616 - a)) := by
 have e:(0 - a) % 18446744073709551616 = 18446744073709551616 - a := by omega
 simp only [pun,wrapU,e]
theorem conv_iuw (st:St) {a:Int}:pconv st (.int .u64) (.int .i64 a) = some (.int .u64 (a % 18446744073709551616)) := by
 simp only [pconv,wrapU]
noncomputable def sp_mnAbs:List D → Option D := spOf (α := Int) (fun a => [.int .i64 a]) (fun a => inI a = true) (fun a => .int .u64 (if a < 0 then -a else a))
theorem call_mnAbs (a:Int) (h:inI a = true):sp_mnAbs [.int .i64 a] = some (.int .u64 (if a < 0 then -a else a)) :=
 spOf_enc (fun a b h => by simp only [List.cons.injEq,D.int.injEq,true_and,and_true] at h; simp [h]) (a) h
theorem w_mnAbs (a:Int) (h:inI a = true):@wW GG (tb [] []) F_money_abs.code (argF [.int .i64 a]) [] ⟨retQ F_money_abs.res (.int .u64 (if a < 0 then -a else a))⟩ := by
 obtain ⟨h1,h2⟩ := inI_iff.1 h
 unfold F_money_abs
 by_cases h0:a < 0
 ·have e1:(a % 18446744073709551616) = 18446744073709551616 + a := by omega
  have e2:18446744073709551616 - (18446744073709551616 + a) = -a := by omega
  simp (disch:=first|omega|decide) only [push_cast,↓reduceIte,Nat.reduceEqDiff,h0,conv_iuw,e1,neg_u,e2]
 ·simp (disch:=first|omega|decide) only [push_cast,↓reduceIte,Nat.reduceEqDiff,h0,conv_iu]
theorem c_mnAbs:Contract Tryd.prog GG 124 sp_mnAbs :=
 contract_of tr_money_abs (tb_ok all_nil all_nil) (fun a h => w_mnAbs a h)
def abI (a:Int):Int := if a < 0 then -a else a
def mulF (a b:Int):Int × Int := if inI a && inI b then rgF (a * b) else (0,3)
theorem ab_mul (a b:Int):abI a * abI b = abI (a * b) := by
 unfold abI
 rcases Int.lt_or_le a 0 with h1 | h1 <;> rcases Int.lt_or_le b 0 with h2 | h2
 ·have := Int.mul_pos_of_neg_of_neg h1 h2
  rw [if_pos h1,if_pos h2,if_neg (by omega),Int.neg_mul_neg]
 ·have := Int.mul_nonpos_of_nonpos_of_nonneg (Int.le_of_lt h1) h2
  rw [if_pos h1,if_neg (by omega),Int.neg_mul]
  split <;> omega
 ·have := Int.mul_nonpos_of_nonneg_of_nonpos h1 (Int.le_of_lt h2)
  rw [if_neg (by omega),if_pos h2,Int.mul_neg]
  split <;> omega
 ·have := Int.mul_nonneg h1 h2
  rw [if_neg (by omega),if_neg (by omega),if_neg (by omega)]
theorem ab_le {a:Int} (h:inI a = true):0 ≤ abI a ∧ abI a ≤ 9007199254740992 := by
 have := inI_iff.1 h
 unfold abI; split <;> omega
theorem ab_in (a:Int):inI a = decide (abI a ≤ 9007199254740992) := by
 cases h:inI a with
 | true => simp [(ab_le h).2]
 | false =>
  have := inI_not.1 h
  symm
  rw [decide_eq_false_iff_not]
  unfold abI; split <;> omega
noncomputable def sp_mnMul:List D → Option D := spOf (α := Int × Int) (fun a => [.int .i64 a.1,.int .i64 a.2]) (fun a => True) (fun a => .tup [.int .i64 (mulF a.1 a.2).1,.int .i64 (mulF a.1 a.2).2])
theorem call_mnMul (a:Int) (b:Int):sp_mnMul [.int .i64 a,.int .i64 b] = some (.tup [.int .i64 (mulF a b).1,.int .i64 (mulF a b).2]) :=
 spOf_enc (fun ⟨a0,a1⟩ ⟨b0,b1⟩ h => by simp only [List.cons.injEq,D.int.injEq,true_and,and_true] at h; simp [h]) (a,b) trivial
theorem w_mnMul (a:Int) (b:Int):@wW GG (tb [(122,sp_mnIn),(124,sp_mnAbs),(78,sp_bMul)] []) F_money_Mul.code (argF [.int .i64 a,.int .i64 b]) [] ⟨retQ F_money_Mul.res (.tup [.int .i64 (mulF a b).1,.int .i64 (mulF a b).2])⟩ := by
 unfold F_money_Mul mulF
 have h2 := call_in2 a b
 cases hc:inI a && inI b with
 | false => rw [hc] at h2; simp (disch:=first|omega|decide) only [push_cast,↓reduceIte,Nat.reduceEqDiff,lit2,h2]
 | true =>
  rw [hc] at h2
  simp only [Bool.and_eq_true] at hc
  have c1:sp_mnAbs [.int .i64 a] = some (.int .u64 (abI a)) := call_mnAbs a hc.1
  have c2:sp_mnAbs [.int .i64 b] = some (.int .u64 (abI b)) := call_mnAbs b hc.2
  have l1 := ab_le hc.1
  have l2 := ab_le hc.2
  have c3 := call_bMul (abI a) (abI b) (by omega)
  have e := ab_mul a b
  have ei := ab_in (a * b)
  have hn:0 ≤ abI a * abI b := Int.mul_nonneg l1.1 l2.1
  have hb:abI a * abI b ≤ 9007199254740992 * 9007199254740992 := Int.le_trans (Int.mul_le_mul_of_nonneg_right l1.2 l2.1) (by omega)
  rw [e] at c3 hn hb
  have hm:abI (a * b) ≤ 9007199254740992 → -9007199254740992 ≤ a * b ∧ a * b ≤ 9007199254740992 := fun h => by
   unfold abI at h; split at h <;> omega
  have hmul:-9007199254740992 ≤ a * b → a * b ≤ 9007199254740992 → pbin .mul (.int .i64 a) (.int .i64 b) = some (.int .i64 (a * b)) := fun h1 h2 => mul_i (by omega) (by omega)
  unfold rgF
  rw [ei]
  generalize a * b = m at *
  generalize abI m = z at *
  by_cases h0:z / 18446744073709551616 = 0
  ·have h9:z % 18446744073709551616 = z := by omega
   rw [h0,h9] at c3
   by_cases h8:9007199254740992 < z
   ·have h7:¬ z ≤ 9007199254740992 := by omega
    simp (disch:=first|omega|decide) only [push_cast,↓reduceIte,Nat.reduceEqDiff,lit2,h2,c1,c2,c3,h8,h7]
   ·have h7:z ≤ 9007199254740992 := by omega
    have h6 := hm h7
    have c4:pbin .mul (.int .i64 a) (.int .i64 b) = some (.int .i64 m) := hmul h6.1 h6.2
    simp (disch:=first|omega|decide) only [push_cast,↓reduceIte,Nat.reduceEqDiff,lit2,h2,c1,c2,c3,h8,h7,c4]
  ·have h7:¬ z ≤ 9007199254740992 := by omega
   simp (disch:=first|omega|decide) only [push_cast,↓reduceIte,Nat.reduceEqDiff,lit2,h2,c1,c2,c3,h0,h7]
theorem c_mnMul:Contract Tryd.prog GG 114 sp_mnMul :=
 contract_of tr_money_Mul (tb_ok (all_cons c_mnIn (all_cons c_mnAbs (all_cons c_bMul all_nil))) all_nil) (fun a h => w_mnMul a.1 a.2)
theorem tdiv_le (a:Int) {b:Int} (hb:0 < b):-(abI a) ≤ a.tdiv b ∧ a.tdiv b ≤ abI a := by
 unfold abI
 rcases Int.lt_or_le a 0 with h | h
 ·have e:a.tdiv b = -((-a) / b) := by
   rw [← Int.tdiv_eq_ediv_of_nonneg (by omega),Int.neg_tdiv,Int.neg_neg]
  have h1 := Int.ediv_le_self b (show 0 ≤ -a by omega)
  have h2 := Int.ediv_nonneg (show 0 ≤ -a by omega) (show 0 ≤ b by omega)
  rw [if_pos h,e]; omega
 ·have e:a.tdiv b = a / b := Int.tdiv_eq_ediv_of_nonneg h
  have h1 := Int.ediv_le_self b h
  have h2 := Int.ediv_nonneg h (show 0 ≤ b by omega)
  rw [if_neg (by omega),e]; omega
theorem quo_t {a b:Int} (hb:0 < b) (h1:-9223372036854775808 < a) (h2:a < 9223372036854775808):pbin .quo (.int .i64 a) (.int .i64 b) = some (.int .i64 (a.tdiv b)) := by
 have h3 := tdiv_le a hb
 have h4:abI a < 9223372036854775808 := by unfold abI; split <;> omega
 simp only [pbin,if_true,iarith,show ¬ b = 0 by omega,if_false,Option.map_some,wrap_i64 (show -9223372036854775808 ≤ a.tdiv b by omega) (show a.tdiv b < 9223372036854775808 by omega)]
theorem rem_t {a b:Int} (hb:0 < b):pbin .rem (.int .i64 a) (.int .i64 b) = some (.int .i64 (a.tmod b)) := by
 simp only [pbin,if_true,iarith,show ¬ b = 0 by omega,if_false,Option.map_some]
def dnF (a b:Int):Int := (if a.tmod b < 0 then a - b else a).tdiv b
def upF (a b:Int):Int := (if 0 < a.tmod b then a + b else a).tdiv b
def divF (a b m:Int):Int × Int := if inI a && inI b then (if b ≤ 0 then (0,70) else (if m = 10 then dnF (2 * a + b) (2 * b) else if m = 8 then dnF a b else upF a b,0)) else (0,3)
noncomputable def sp_mnDiv:List D → Option D := spOf (α := Int × Int × Int) (fun a => [.int .i64 a.1,.int .i64 a.2.1,.int .i64 a.2.2]) (fun a => a.2.2 = 8 ∨ a.2.2 = 9 ∨ a.2.2 = 10) (fun a => .tup [.int .i64 (divF a.1 a.2.1 a.2.2).1,.int .i64 (divF a.1 a.2.1 a.2.2).2])
theorem call_mnDiv (a:Int) (b:Int) (m:Int) (h:m = 8 ∨ m = 9 ∨ m = 10):sp_mnDiv [.int .i64 a,.int .i64 b,.int .i64 m] = some (.tup [.int .i64 (divF a b m).1,.int .i64 (divF a b m).2]) :=
 spOf_enc (fun ⟨a0,a1,a2⟩ ⟨b0,b1,b2⟩ h => by simp only [List.cons.injEq,D.int.injEq,true_and,and_true] at h; simp [h]) (a,b,m) h
theorem w_mnDiv (a:Int) (b:Int) (m:Int) (h:m = 8 ∨ m = 9 ∨ m = 10):@wW GG (tb [(122,sp_mnIn)] []) F_money_Div.code (argF [.int .i64 a,.int .i64 b,.int .i64 m]) [] ⟨retQ F_money_Div.res (.tup [.int .i64 (divF a b m).1,.int .i64 (divF a b m).2])⟩ := by
 unfold F_money_Div divF
 have h2 := call_in2 a b
 cases hc:inI a && inI b with
 | false =>
  rw [hc] at h2
  rcases h with rfl | rfl | rfl <;> simp (disch:=first|omega|decide) only [push_cast,↓reduceIte,Nat.reduceEqDiff,lit2,e98,e108,e109,h2]
 | true =>
  rw [hc] at h2
  simp only [Bool.and_eq_true,inI_iff] at hc
  obtain ⟨⟨a1,a2⟩,b1,b2⟩ := hc
  by_cases hb:b ≤ 0
  ·rcases h with rfl | rfl | rfl <;> simp (disch:=first|omega|decide) only [push_cast,↓reduceIte,Nat.reduceEqDiff,lit2,e98,e108,e109,h2,hb]
  ·unfold dnF upF
   rcases h with rfl | rfl | rfl
   ·by_cases hr:a.tmod b < 0
    ·simp (disch:=first|omega|decide) only [push_cast,↓reduceIte,Nat.reduceEqDiff,lit2,e810,h2,hb,rem_t,hr,sub_i,quo_t]
    ·simp (disch:=first|omega|decide) only [push_cast,↓reduceIte,Nat.reduceEqDiff,lit2,e810,h2,hb,rem_t,hr,quo_t]
   ·by_cases hr:0 < a.tmod b
    ·simp (disch:=first|omega|decide) only [push_cast,↓reduceIte,Nat.reduceEqDiff,lit2,e98,e910,h2,hb,rem_t,hr,add_i,quo_t]
    ·simp (disch:=first|omega|decide) only [push_cast,↓reduceIte,Nat.reduceEqDiff,lit2,e98,e910,h2,hb,rem_t,hr,quo_t]
   ·by_cases hr:(2 * a + b).tmod (2 * b) < 0
    ·simp (disch:=first|omega|decide) only [push_cast,↓reduceIte,Nat.reduceEqDiff,lit2,e108,e109,h2,hb,mul_i,add_i,rem_t,hr,sub_i,quo_t]
    ·simp (disch:=first|omega|decide) only [push_cast,↓reduceIte,Nat.reduceEqDiff,lit2,e108,e109,h2,hb,mul_i,add_i,rem_t,hr,quo_t]
theorem c_mnDiv:Contract Tryd.prog GG 118 sp_mnDiv :=
 contract_of tr_money_Div (tb_ok (all_cons c_mnIn all_nil) all_nil) (fun a h => w_mnDiv a.1 a.2.1 a.2.2 h)
end Go.Proofs.YtlleccmnjpcogaaDoor.PI
namespace Go.Proofs.YtlleccmnjpcogaaDoor.PI
open Go
noncomputable def relI (R:List D → St → D × St → Prop):List D → St → Option (D × St) := fun ds st => @dite _ (∃ r,R ds st r) (Classical.propDecidable _) (fun h => some h.choose) (fun _ => none)
theorem relI_inv {R:List D → St → D × St → Prop} {ds:List D} {st:St} {r:D × St} (h:relI R ds st = some r):R ds st r := by
 unfold relI at h
 split at h
 ·rename_i hx
  simp only [Option.some.injEq] at h
  rw [← h]; exact hx.choose_spec
 ·cases h
theorem relI_eq {R:List D → St → D × St → Prop} {ds:List D} {st:St} {r:D × St} (h:R ds st r) (hu:∀ r',R ds st r' → r' = r):relI R ds st = some r := by
 have hx:∃ r,R ds st r := ⟨r,h⟩
 unfold relI
 rw [dif_pos hx,hu _ hx.choose_spec]
def Fun1 (R:List D → St → D × St → Prop):Prop := ∀ ds st r r',R ds st r → R ds st r' → r = r'
theorem relI_of {R:List D → St → D × St → Prop} (hf:Fun1 R) {ds:List D} {st:St} {r:D × St} (h:R ds st r):relI R ds st = some r := relI_eq h fun r' h' => hf ds st r' r h' h
def StOK (st:St):Prop := ∀ o ∈ st,o.row = false → ∀ x ∈ o.els,ren st.length [] x = x
theorem uniq_same (n:Nat):∀ (l acc:List Nat),uniq n n l acc = acc
 | [],acc => rfl
 | k :: r,acc => by
  rw [uniq,if_neg (by omega)]
  exact uniq_same n r acc
theorem map_same {α:Type} {f:α → α}:∀ {l:List α},(∀ x ∈ l,f x = x) → l.map f = l
 | [],_ => rfl
 | a :: l,h => by rw [List.map_cons,h a (by simp),map_same fun x hx => h x (by simp [hx])]
theorem renS_ok {st:St} (h:StOK st):st.map (renO st.length []) = st := by
 refine map_same fun o ho => ?_
 obtain ⟨row,sz,els,lent⟩ := o
 cases row with
 | true => rfl
 | false =>
  show (⟨false,sz,els.map (ren st.length []),lent⟩:Obj) = _
  rw [map_same (h _ ho rfl)]
theorem restrict_ok {keep:List Nat} {fr:Frame} {st:St} (h:StOK st):restrict keep st.length ⟨fr,st⟩ = ⟨mkF (headF fr st.length [] keep),st⟩ := by
 unfold restrict
 simp only [Nat.le_refl,if_true,uniq_same]
 unfold restrictAt
 rw [headF_eq]
 simp only [picked,List.map_nil,List.append_nil,List.take_length,renS_ok h]
theorem renK_same {n m key:Nat} (f:Nat → D) (hf:∀ k,f k ≠ .junk) (hnm:n ≤ m) (h:orJunk f (renK n [] key) = f key):orJunk f (renK m [] key) = f key := by
 unfold renK at h ⊢
 by_cases hk:key < n
 ·rw [if_pos (Nat.lt_of_lt_of_le hk hnm)]; rfl
 ·rw [if_neg hk] at h
  exact absurd h.symm (hf key)
theorem ren0_mono {n m:Nat} (hnm:n ≤ m) {x:D} (h:ren0 n [] x = x):ren0 m [] x = x := by
 cases x with
 | row key tot off len => exact renK_same (fun k => .row k tot off len) (fun k e => by cases e) hnm h
 | bsl key off j sz ag => exact renK_same (fun k => .bsl k off j sz ag) (fun k e => by cases e) hnm h
 | ptr key off => exact renK_same (fun k => .ptr k off) (fun k e => by cases e) hnm h
 | rptr key tot i off => exact renK_same (fun k => .rptr k tot i off) (fun k e => by cases e) hnm h
 | mapv key => exact renK_same .mapv (fun k e => by cases e) hnm h
 | _ => exact h
theorem map_same_inv {f:D → D}:∀ {l:List D},l.map f = l → ∀ x ∈ l,f x = x
 | [],_,x,hx => by cases hx
 | a :: l,h,x,hx => by
  simp only [List.map_cons,List.cons.injEq] at h
  rcases List.mem_cons.1 hx with rfl | hx
  ·exact h.1
  ·exact map_same_inv h.2 x hx
theorem ren1_mono {n m:Nat} (hnm:n ≤ m) {x:D} (h:ren1 n [] x = x):ren1 m [] x = x := by
 cases x with
 | clo f l =>
  simp only [ren1,D.clo.injEq,true_and] at h ⊢
  exact map_same fun y hy => ren0_mono hnm (map_same_inv h y hy)
 | _ => unfold ren1 at h ⊢; exact ren0_mono hnm h
theorem ren_mono {n m:Nat} (hnm:n ≤ m) {x:D} (h:ren n [] x = x):ren m [] x = x := by
 cases x with
 | agg l =>
  simp only [ren,D.agg.injEq] at h ⊢
  exact map_same fun y hy => ren1_mono hnm (map_same_inv h y hy)
 | tup l => unfold ren at h ⊢; exact h
 | _ => unfold ren at h ⊢; exact ren1_mono hnm h
theorem StOK.nil:StOK [] := fun _ h => by cases h
theorem StOK.app {st:St} (h:StOK st) (l:St) (hl:∀ o ∈ l,o.row = false → ∀ x ∈ o.els,ren (st.length + l.length) [] x = x):StOK (st ++ l) := by
 intro o ho hr x hx
 rw [List.length_append]
 rcases List.mem_append.1 ho with ho | ho
 ·exact ren_mono (Nat.le_add_right _ _) (h o ho hr x hx)
 ·exact hl o ho hr x hx
theorem StOK.set {st:St} (h:StOK st) (k:Nat) (o:Obj) (ho:o.row = false → ∀ x ∈ o.els,ren st.length [] x = x):StOK (st.set k o) := by
 intro q hq hr x hx
 rw [List.length_set]
 rcases List.mem_or_eq_of_mem_set hq with hq | rfl
 ·exact h q hq hr x hx
 ·exact ho hr x hx
theorem uniq_low (n m:Nat):∀ (l acc:List Nat),(∀ k ∈ l,k < n) → uniq n m l acc = acc
 | [],acc,_ => rfl
 | k :: r,acc,h => by
  have := h k (by simp)
  rw [uniq,if_neg (by omega)]
  exact uniq_low n m r acc fun x hx => h x (by simp [hx])
theorem restrict_drop {keep:List Nat} {fr:Frame} {st l:St} (h:StOK st) (hks:∀ o ∈ st,o.row = false → ∀ x ∈ o.els,∀ k ∈ hk x,k < st.length) (hf:∀ s ∈ keep,∀ k ∈ hk (fr s),k < st.length) :
  restrict keep st.length ⟨fr,st ++ l⟩ = ⟨mkF (headF fr st.length [] keep),st⟩ := by
 have hle:st.length ≤ (st ++ l).length := by simp
 have ht:(st ++ l).take st.length = st := by simp
 unfold restrict
 simp only [hle,if_true]
 rw [uniq_low _ _ _ _ (fun k hk' => by
  simp only [keysIn,ht,List.mem_append,List.mem_flatMap] at hk'
  rcases hk' with ⟨s,hs,hs2⟩ | ⟨o,ho,ho2⟩
  ·exact hf s hs k hs2
  ·cases hr:o.row with
   | true => rw [hr] at ho2; simp at ho2
   | false =>
    rw [hr] at ho2
    simp only [Bool.false_eq_true,if_false,List.mem_flatMap] at ho2
    obtain ⟨x,hx,hxk⟩ := ho2
    exact hks o ho hr x hx k hxk)]
 unfold restrictAt
 rw [headF_eq]
 simp only [picked,List.map_nil,List.append_nil,ht,renS_ok h]
end Go.Proofs.YtlleccmnjpcogaaDoor.PI
namespace Go.Proofs.YtlleccmnjpcogaaDoor.PI
open Go
set_option linter.unusedSimpArgs false
set_option maxHeartbeats 8000000
set_option maxRecDepth 20000
set_option linter.unusedVariables false
def sizeF:Nat → Nat → Nat
 | 0,_ => 0
 | n + 1,u => if u = 0 then 0 else sizeF n (u / 256) + 1
theorem sizeF_0 (n:Nat):sizeF n 0 = 0 := by cases n <;> rfl
theorem sizeF_s (n u:Nat):sizeF (n + 1) u = if u = 0 then 0 else sizeF n (u / 256) + 1 := (rfl)
theorem sizeF_more:∀ (n u:Nat),u < 256 ^ n → sizeF (n + 1) u = sizeF n u
 | 0,u,h => by
  have:u = 0 := by simpa using h
  subst this; rfl
 | n + 1,u,h => by
  rw [sizeF_s (n + 1) u,sizeF_s n u]
  split
  ·rfl
  ·rw [sizeF_more n (u / 256) (by rw [Nat.pow_succ] at h; omega)]
theorem sizeF_le:∀ (n u:Nat),sizeF n u ≤ n
 | 0,_ => Nat.le_refl _
 | n + 1,u => by
  rw [sizeF]
  split
  ·omega
  ·have := sizeF_le n (u / 256); omega
def sizeR (ds:List D) (st:St) (r:D × St):Prop := ∃ u:Nat,StOK st ∧ u < 18446744073709551616 ∧ ds = [.int .u64 (u:Int)] ∧ r = (.int .i64 (sizeF 8 u:Int),st)
noncomputable def si_size:List D → St → Option (D × St) := relI sizeR
theorem size_fun:Fun1 sizeR := by
 rintro ds st r r' ⟨u,_,_,rfl,rfl⟩ ⟨u',_,_,h,rfl⟩
 simp only [List.cons.injEq,D.int.injEq,true_and,and_true] at h
 obtain rfl:u = u' := by omega
 rfl
theorem sizeF_step {n u:Nat} (h:u ≠ 0) (hu:u < 256 ^ n):sizeF n u = sizeF n (u / 256) + 1 := by
 cases n with
 | zero => simp at hu; omega
 | succ n =>
  rw [sizeF_s n u,if_neg h,sizeF_more n (u / 256) (by rw [Nat.pow_succ] at hu; omega)]
theorem ci_size:IContract Tryd.prog GG 94 si_size := by
 refine icontract_keep' (T := tb [] []) tr_codec_appendInt_1 (tb_ok all_nil all_nil) ?_
 intro ds st r hr
 obtain ⟨u,hok,hu,rfl,rfl⟩ := relI_inv hr
 unfold F_codec_appendInt_1
 simp (disch:=first|omega|decide) only [push_cast]
 refine W_while (fun p:Nat × Nat => [(0,.int .u64 (p.1:Int)),(2,.int .i64 (p.2:Int))]) (fun _ => st) (fun p => p.1 < 18446744073709551616 ∧ sizeF 8 u = sizeF 8 p.1 + p.2) (fun p => p.1) (u,0) (by simp only [push_cast,↓reduceIte,Nat.reduceEqDiff,↓restrict_ok hok] <;> rfl) ⟨hu,rfl⟩ ?_
 rintro ⟨w,k⟩ ⟨hw,hk⟩
 have hk8 := sizeF_le 8 u
 dsimp only at hw hk
 unfold F_codec_appendInt_1_L0
 simp (disch:=first|omega|decide) only [push_cast,↓reduceIte]
 refine ifD_split (fun h2 => ?_) (fun h2 => ?_)
 ·have hw0:w ≠ 0 := by omega
  have hs := sizeF_step (n := 8) hw0 (by omega)
  have hsh:pbin .shr (.int .u64 (w:Int)) (.int .u64 8) = some (.int .u64 ((w / 256:Nat):Int)) := by
   rw [shr_u (by omega) (by omega)]; rfl
  simp (disch:=first|omega|decide) only [push_cast,↓reduceIte,Nat.reduceEqDiff,↓Int.reduceNatCast',↓restrict_ok hok,hsh,add_i]
  refine next_head (w / 256,k + 1) (by dsimp only; omega) (by dsimp only; omega) ?_
  simp only [push_cast,↓Int.reduceNatCast'] <;> rfl
 ·obtain rfl:w = 0 := by omega
  rw [sizeF_0] at hk
  have hk':sizeF 8 u = k := by omega
  rw [hk']
  simp (disch:=first|omega|decide) only [push_cast,↓reduceIte,Nat.reduceEqDiff,Int.reduceLT,↓Int.reduceNatCast']
def bufAt (st:St) (b:D) (l:List UInt8):Prop := (b = .slc 0 [] true ∧ l = []) ∨ ∃ key,b = .row key l.length 0 l.length ∧ l ≠ [] ∧ st[key]? = some ⟨true,1,l.map byteD,false⟩
def bufPut (st:St) (b:D) (l m:List UInt8):D × St := match b with
 | .row key _ _ _ => (.row key (l ++ m).length 0 (l ++ m).length,st.set key ⟨true,1,(l ++ m).map byteD,false⟩)
 | _ => (.row st.length m.length 0 m.length,st ++ [⟨true,1,m.map byteD,false⟩])
theorem bufAt_fun {st:St} {b:D} {l l':List UInt8} (h:bufAt st b l) (h':bufAt st b l'):l = l' := by
 rcases h with ⟨rfl,rfl⟩ | ⟨key,rfl,hl,hk⟩
 ·rcases h' with ⟨_,rfl⟩ | ⟨key,h,_⟩
  ·rfl
  ·cases h
 ·rcases h' with ⟨h,_⟩ | ⟨key',h,_,hk'⟩
  ·cases h
  ·simp only [D.row.injEq] at h
   obtain ⟨rfl,_⟩ := h
   rw [hk] at hk'
   simp only [Option.some.injEq,Obj.mk.injEq,true_and,and_true] at hk'
   exact bytes_inj hk'
theorem papp_put {st:St} {b:D} {l m:List UInt8} (h:bufAt st b l) (hm:m ≠ []) (hl:l.length + m.length ≤ 4294967296) (t:Bool):papp st 1 1 b (.slc 1 (m.map byteD) t) = some (bufPut st b l m) := by
 have hne:m.map byteD ≠ [] := by simpa using hm
 have hz:nz 1 (m.map byteD) = 1 := by
  cases hc:m.map byteD with
  | nil => exact absurd hc hne
  | cons a r => rfl
 rcases h with ⟨rfl,rfl⟩ | ⟨key,rfl,hl',hk⟩
 ·have := papp_first byteD st 1 0 1 m t (by decide) (by omega) (by simp at hl; omega)
  rw [hz,bufD_ne _ _ _ hne,bufS_ne _ _ hne,List.length_map] at this
  exact this
 ·rw [papp_rowE,hk]
  have he:elsOf st (.slc 1 (m.map byteD) t) = some (1,m.map byteD) := (rfl)
  rw [he,apR_b l m false hl]
  simp only [Option.map_some,bufPut,List.length_map]
def bufW (st:St) (key:Nat) (l:List UInt8):St := st.set key ⟨true,1,l.map byteD,false⟩
theorem bufW_length (st:St) (key:Nat) (l:List UInt8):(bufW st key l).length = st.length := List.length_set
theorem bufW_get {st:St} {key:Nat} (h:key < st.length) (l:List UInt8):(bufW st key l)[key]? = some ⟨true,1,l.map byteD,false⟩ := by simp [bufW,h]
theorem bufW_bufW (st:St) (key:Nat) (l m:List UInt8):bufW (bufW st key l) key m = bufW st key m := by simp [bufW]
theorem bufW_ok {st:St} (h:StOK st) (key:Nat) (l:List UInt8):StOK (bufW st key l) := h.set _ _ fun e => by cases e
theorem bufW_app {st:St} {key:Nat} (h:key < st.length) (l m:List UInt8) (hm:m ≠ []) (hl:l.length + m.length ≤ 4294967296) (t:Bool) :
  papp (bufW st key l) 1 1 (.row key l.length 0 l.length) (.slc 1 (m.map byteD) t) = some (.row key (l ++ m).length 0 (l ++ m).length,bufW st key (l ++ m)) := by
 by_cases hl0:l = []
 ·subst hl0
  rw [papp_rowE,bufW_get h]
  have he:elsOf (bufW st key []) (.slc 1 (m.map byteD) t) = some (1,m.map byteD) := (rfl)
  rw [he,apR_b [] m false hl]
  simp only [Option.map_some,List.length_map]
  simp only [bufW,List.set_set]
 ·rw [papp_put (.inr ⟨key,rfl,hl0,bufW_get h l⟩) hm hl t]
  simp only [bufPut]
  simp only [bufW,List.set_set]
theorem bufW_app1 {st:St} {key:Nat} (h:key < st.length) (l:List UInt8) (x:UInt8) (hl:l.length < 4294967296) (t:Bool) :
  papp (bufW st key l) 1 1 (.row key l.length 0 l.length) (.slc 1 [byteD x] t) = some (.row key (l ++ [x]).length 0 (l ++ [x]).length,bufW st key (l ++ [x])) :=
 bufW_app h l [x] (by simp) (by simp; omega) t
theorem bufPut_row {st:St} {b:D} {l m:List UInt8} (h:bufAt st b l) (hm:m ≠ []):∃ key st1,key < st1.length ∧ bufPut st b l m = (.row key (l ++ m).length 0 (l ++ m).length,bufW st1 key (l ++ m)) ∧ (StOK st → StOK st1) ∧
  ∀ n,bufPut st b l (m ++ n) = (.row key (l ++ (m ++ n)).length 0 (l ++ (m ++ n)).length,bufW st1 key (l ++ (m ++ n))) := by
 rcases h with ⟨rfl,rfl⟩ | ⟨key,rfl,hl,hk⟩
 ·refine ⟨st.length,st ++ [⟨true,1,[],false⟩],by simp,?_,fun h => h.app _ fun o ho hr => ?_,fun n => ?_⟩
  ·simp [bufPut,bufW]
  ·simp only [List.mem_singleton] at ho
   subst ho; cases hr
  ·simp [bufPut,bufW]
 ·have hlt := (List.getElem?_eq_some_iff.1 hk).1
  exact ⟨key,st,hlt,rfl,id,fun n => rfl⟩
theorem restrict_okl {keep:List Nat} {fr:Frame} {st:St} {n:Nat} (h:StOK st) (hn:n = st.length):restrict keep n ⟨fr,st⟩ = ⟨mkF (headF fr n [] keep),st⟩ := by
 subst hn; exact restrict_ok h
def bytesK (u k:Nat):List UInt8 := (List.range k).map fun i => UInt8.ofNat (u / 2 ^ (8 * (k - 1 - i)))
theorem bytesK_length (u k:Nat):(bytesK u k).length = k := by simp [bytesK]
theorem bytesK_take {u k i:Nat} (h:i < k):(bytesK u k).take (i + 1) = (bytesK u k).take i ++ [UInt8.ofNat (u / 2 ^ (8 * (k - 1 - i)))] := by
 rw [List.take_add_one]
 congr 1
 simp [bytesK,h]
def u64N (n:Int):Nat := (n % 18446744073709551616).toNat
def inv64 (a:Nat):Nat := 18446744073709551615 - a
theorem inv64_lt (a:Nat):inv64 a < 18446744073709551616 := by unfold inv64; omega
def intB (n:Int):List UInt8 :=
 if 0 ≤ n then UInt8.ofNat (32 + sizeF 8 (u64N n)) :: bytesK (u64N n) (sizeF 8 (u64N n))
 else UInt8.ofNat (31 - sizeF 8 (inv64 (u64N n))) :: bytesK (u64N n) (sizeF 8 (inv64 (u64N n)))
theorem un_xor64 {a:Nat} (h:a < 18446744073709551616):pun .xor (.int .u64 (a:Int)) = some (.int .u64 (inv64 a:Int)) := by
 unfold inv64
 have e1:ibits .xor .u64 (if IntKind.u64.signed then -1 else IntKind.u64.max) (a:Int) = some ((18446744073709551615 - a:Nat):Int) := by
  unfold ibits
  have h64:IntKind.u64.bits = 64 := rfl
  have hs:(if IntKind.u64.signed then (-1:Int) else IntKind.u64.max) = 18446744073709551615 := by decide
  rw [hs]
  simp only
  have:(BitVec.ofInt IntKind.u64.bits 18446744073709551615 ^^^ BitVec.ofInt IntKind.u64.bits (a:Int)) = ~~~ (BitVec.ofNat 64 a) := by
   show (BitVec.ofInt 64 18446744073709551615 ^^^ BitVec.ofInt 64 (a:Int)) = _
   rw [show (BitVec.ofInt 64 18446744073709551615) = BitVec.allOnes 64 by decide,show (BitVec.ofInt 64 (a:Int)) = BitVec.ofNat 64 a from BitVec.ofInt_natCast 64 a,BitVec.allOnes_xor]
  rw [this]
  show some (IntKind.wrap .u64 (((~~~ (BitVec.ofNat 64 a):BitVec 64).toNat:Nat):Int)) = _
  rw [BitVec.toNat_not,BitVec.toNat_ofNat,Nat.mod_eq_of_lt (by omega)]
  show some (IntKind.wrap .u64 ((2 ^ 64 - 1 - a:Nat):Int)) = _
  congr 1
  rw [wrapU]
  omega
 simp only [pun,e1,Option.map_some]
def intR (ds:List D) (st:St) (r:D × St):Prop := ∃ (b:D) (l:List UInt8) (n:Int),StOK st ∧ bufAt st b l ∧ l.length ≤ 4294967000 ∧ ds = [b,.int .i64 n] ∧ r = bufPut st b l (intB n)
noncomputable def si_aint:List D → St → Option (D × St) := relI intR
theorem aint_fun:Fun1 intR := by
 rintro ds st r r' ⟨b,l,n,_,hb,_,rfl,rfl⟩ ⟨b',l',n',_,hb',_,h,rfl⟩
 simp only [List.cons.injEq,D.int.injEq,true_and,and_true] at h
 obtain ⟨rfl,rfl⟩ := h
 rw [bufAt_fun hb hb']
theorem call_aint {st:St} {b:D} {l:List UInt8} (n:Int) (h1:StOK st) (h2:bufAt st b l) (h3:l.length ≤ 4294967000):si_aint [b,.int .i64 n] st = some (bufPut st b l (intB n)) := relI_of aint_fun ⟨b,l,n,h1,h2,h3,rfl,rfl⟩
theorem call_size {st:St} (u:Nat) (h1:StOK st) (h2:u < 18446744073709551616):si_size [.int .u64 (u:Int)] st = some (.int .i64 (sizeF 8 u:Int),st) := relI_of size_fun ⟨u,h1,h2,rfl,rfl⟩
theorem renK_lt {n key:Nat} (h:key < n):renK n [] key = some key := if_pos h
theorem u64N_lt (n:Int):u64N n < 18446744073709551616 := by unfold u64N; omega
theorem u64N_eq (n:Int):n % 18446744073709551616 = (u64N n:Int) := by unfold u64N; omega
theorem lit_b1 (x:UInt8):litD 1 [byteD x] = some (.slc 1 [byteD x] true) := (rfl)
theorem imm_b (st:St) (x:UInt8):imm st (byteD x) = some (byteD x) := (rfl)
theorem keys_b (x:UInt8):keys (byteD x) = [] := (rfl)
theorem conv_tag2 (st:St) (k:Nat):pconv st (.int .u8) (.int .i64 (32 + (k:Int))) = some (byteD (UInt8.ofNat (32 + k))) := by
 rw [conv_ub st (by omega),show (32 + (k:Int)).toNat = 32 + k by omega]
theorem conv_tag1 (st:St) {k:Nat} (h:k ≤ 31):pconv st (.int .u8) (.int .i64 (31 - (k:Int))) = some (byteD (UInt8.ofNat (31 - k))) := by
 rw [conv_ub st (by omega),show (31 - (k:Int)).toNat = 31 - k by omega]
theorem conv_shift (st:St) (u m:Nat):pconv st (.int .u8) (.int .u64 ((u:Int) / 2 ^ m)) = some (byteD (UInt8.ofNat (u / 2 ^ m))) := by
 have e:((u:Int) / 2 ^ m) = ((u / 2 ^ m:Nat):Int) := by simp
 rw [e,conv_ub st (Int.natCast_nonneg _)]; rfl
/- the loop's part: the tag is laid -/
theorem w_aintL (T:Tbl) (st1:St) (key:Nat) (hkey:key < st1.length) (hok:StOK st1) (l0:List UInt8) (n:Int) (k:Nat) (hk:k ≤ 8) (hl:l0.length ≤ 4294967200) (fr:Frame) (Q:Ex → Frame → St → Prop)
  (h0:fr 0 = .row key l0.length 0 l0.length) (h1:fr 1 = .int .i64 n) (h6:fr 6 = .int .i64 (k:Int)) (h30:fr 30 = .int .i64 (k:Int)) (h31:fr 31 = .int .i64 0)
  (hQ:∀ fr',fr' 0 = .row key (l0 ++ bytesK (u64N n) k).length 0 (l0 ++ bytesK (u64N n) k).length → Q (.exit 0) fr' (bufW st1 key (l0 ++ bytesK (u64N n) k))) :
  @wW GG T (.loop [0,1,6,30,31] F_codec_appendInt_L0) fr (bufW st1 key l0) ⟨Q⟩ := by
 have hlen := bufW_length st1 key
 have hR:∀ (fr:Frame) (m:List UInt8),restrict [0,1,6,30,31] (bufW st1 key l0).length ⟨fr,bufW st1 key m⟩ = ⟨mkF (headF fr st1.length [] [0,1,6,30,31]),bufW st1 key m⟩ := fun fr m => by rw [restrict_okl (bufW_ok hok key m) (by rw [hlen,hlen]),hlen]
 refine W_while (fun i:Nat => [(0,.row key (l0 ++ (bytesK (u64N n) k).take i).length 0 (l0 ++ (bytesK (u64N n) k).take i).length),(1,.int .i64 n),(6,.int .i64 (k:Int)),(30,.int .i64 (k:Int)),(31,.int .i64 (i:Int))])
  (fun i => bufW st1 key (l0 ++ (bytesK (u64N n) k).take i)) (fun i => i ≤ k) (fun i => k - i) 0 ?_ (by omega) ?_
 ·rw [hR]
  simp (disch := omega) only [push_cast,↓Int.reduceNatCast',h0,h1,h6,h30,h31,renK_lt] <;> rfl
 intro i hi
 unfold F_codec_appendInt_L0
 have hb := bytesK_length (u64N n) k
 have ht:((bytesK (u64N n) k).take i).length = i := by rw [List.length_take]; omega
 simp (disch:=first|omega|decide) only [push_cast,↓reduceIte,Nat.reduceEqDiff]
 refine ifD_split (fun h2 => ?_) (fun h2 => ?_)
 ·have e1:((8 * ((k:Int) - 1 - (i:Int)))).toNat = 8 * (k - 1 - i) := by omega
  have happ := fun x => bufW_app1 (st := st1) hkey (l0 ++ (bytesK (u64N n) k).take i) x (by rw [List.length_append]; omega) true
  simp (disch:=first|omega|decide) only [push_cast,↓reduceIte,Nat.reduceEqDiff,conv_iuw,u64N_eq,sub_i,mul_i,add_i,shr_u,e1,conv_shift,imm_b,keys_b,lit_b1,happ,↓hR,hkey]
  refine next_head (i + 1) (by omega) (by omega) ?_
  rw [bytesK_take (by omega),← List.append_assoc]
  simp (disch := omega) only [push_cast] <;> rfl
 ·obtain rfl:i = k := by omega
  have e2:(bytesK (u64N n) i).take i = bytesK (u64N n) i := List.take_of_length_le (by omega)
  rw [e2]
  simp (disch:=first|omega|decide) only [push_cast]
  exact hQ _ rfl
theorem ci_aint:IContract Tryd.prog GG 93 si_aint := by
 refine icontract_keep' (T := tb [] [(94,si_size)]) tr_codec_appendInt (tb_ok all_nil (all_cons ci_size all_nil)) ?_
 intro ds st r hr
 obtain ⟨b,l,n,hok,hb,hl,rfl,rfl⟩ := relI_inv hr
 unfold F_codec_appendInt
 have hs := call_size (st := st) (u64N n) hok (u64N_lt n)
 have hs8 := sizeF_le 8 (u64N n)
 have hu := u64N_lt n
 by_cases hn:n < 0
 ·have hs' := call_size (st := st) (inv64 (u64N n)) hok (inv64_lt _)
  have hs9 := sizeF_le 8 (inv64 (u64N n))
  have hI:intB n = [UInt8.ofNat (31 - sizeF 8 (inv64 (u64N n)))] ++ bytesK (u64N n) (sizeF 8 (inv64 (u64N n))) := if_neg (by omega)
  rw [hI]
  generalize sizeF 8 (inv64 (u64N n)) = k at *
  obtain ⟨key,st1,hkey,hput,hok1,hmore⟩ := bufPut_row hb (m := [UInt8.ofNat (31 - k)]) (by simp)
  have happ := papp_put hb (m := [UInt8.ofNat (31 - k)]) (by simp) (by simp; omega) true
  rw [hput] at happ
  have hm := hmore (bytesK (u64N n) k)
  simp only [List.map_cons,List.map_nil] at happ
  rw [hm,← List.append_assoc]
  simp (disch:=first|omega|decide) only [push_cast,↓reduceIte,Nat.reduceEqDiff,hn,conv_iuw,u64N_eq,hs,un_xor64,hs',add_i,sub_i,conv_tag1,conv_tag2,imm_b,keys_b,lit_b1,happ]
  refine w_aintL _ st1 key hkey (hok1 hok) (l ++ [UInt8.ofNat (31 - k)]) n k hs9 (by simp; omega) _ _ (by simp only [push_cast,↓reduceIte,Nat.reduceEqDiff]) (by simp only [push_cast,↓reduceIte,Nat.reduceEqDiff]) (by simp only [push_cast,↓reduceIte,Nat.reduceEqDiff]) (by simp only [push_cast,↓reduceIte,Nat.reduceEqDiff]) (by simp only [push_cast,↓reduceIte]) fun fr' hf => ?_
  simp (disch:=first|omega|decide) only [push_cast,↓reduceIte,hf]
 ·have hI:intB n = [UInt8.ofNat (32 + sizeF 8 (u64N n))] ++ bytesK (u64N n) (sizeF 8 (u64N n)) := if_pos (by omega)
  rw [hI]
  generalize sizeF 8 (u64N n) = k at *
  obtain ⟨key,st1,hkey,hput,hok1,hmore⟩ := bufPut_row hb (m := [UInt8.ofNat (32 + k)]) (by simp)
  have happ := papp_put hb (m := [UInt8.ofNat (32 + k)]) (by simp) (by simp; omega) true
  rw [hput] at happ
  have hm := hmore (bytesK (u64N n) k)
  simp only [List.map_cons,List.map_nil] at happ
  rw [hm,← List.append_assoc]
  simp (disch:=first|omega|decide) only [push_cast,↓reduceIte,Nat.reduceEqDiff,hn,conv_iuw,u64N_eq,hs,add_i,conv_tag2,imm_b,keys_b,lit_b1,happ]
  refine w_aintL _ st1 key hkey (hok1 hok) (l ++ [UInt8.ofNat (32 + k)]) n k hs8 (by simp; omega) _ _ (by simp only [push_cast,↓reduceIte,Nat.reduceEqDiff]) (by simp only [push_cast,↓reduceIte,Nat.reduceEqDiff]) (by simp only [push_cast,↓reduceIte,Nat.reduceEqDiff]) (by simp only [push_cast,↓reduceIte,Nat.reduceEqDiff]) (by simp only [push_cast,↓reduceIte]) fun fr' hf => ?_
  simp (disch:=first|omega|decide) only [push_cast,↓reduceIte,hf]
end Go.Proofs.YtlleccmnjpcogaaDoor.PI
namespace Go.Proofs.YtlleccmnjpcogaaDoor.PI
open Go
set_option linter.unusedSimpArgs false
set_option linter.unusedVariables false
inductive Val where
 | int (n:Int)
 | bytes (b:List UInt8)
 | list (l:List Val)
instance:Inhabited Val := ⟨.int 0⟩
def vC (k n:Int) (B L:List D):List D := [.int .i64 k,.int .i64 n,.slc (nz 1 B) B false,.slc (nz 4 L) L false]
def vD (k n:Int) (B L:List D):D := .agg (vC k n B L)
mutual
def valD:Val → D
 | .int n => vD 1 n [] []
 | .bytes b => vD 2 0 (b.map byteD) []
 | .list l => vD 3 0 [] (valsD l)
def valsD:List Val → List D
 | [] => []
 | v :: l => valD v :: valsD l
end
mutual
def depV:Val → Nat
 | .int _ => 0
 | .bytes _ => 0
 | .list l => depVs l + 1
def depVs:List Val → Nat
 | [] => 0
 | v :: l => max (depV v) (depVs l)
end
def escB (c:UInt8):List UInt8 := if c = 0 then [0,255] else [c]
mutual
def encV:Val → List UInt8
 | .int n => intB n
 | .bytes b => 48 :: (b.flatMap escB ++ [0,0])
 | .list l => 64 :: (encVs l ++ [0])
def encVs:List Val → List UInt8
 | [] => []
 | v :: l => encV v ++ encVs l
end
theorem valsD_eq:∀ l:List Val,valsD l = l.map valD
 | [] => by simp [valsD]
 | v :: l => by simp [valsD,valsD_eq l]
theorem encVs_eq:∀ l:List Val,encVs l = l.flatMap encV
 | [] => by simp [encVs]
 | v :: l => by simp [encVs,encVs_eq l]
theorem depVs_le:∀ {l:List Val} {v:Val},v ∈ l → depV v ≤ depVs l
 | a :: l,v,h => by
  rw [depVs]
  rcases List.mem_cons.1 h with rfl | h
  ·exact Nat.le_max_left _ _
  ·exact Nat.le_trans (depVs_le h) (Nat.le_max_right _ _)
theorem valD_int (n:Int):valD (.int n) = vD 1 n [] [] := by simp [valD]
theorem valD_bytes (b:List UInt8):valD (.bytes b) = vD 2 0 (b.map byteD) [] := by simp [valD]
theorem valD_list (l:List Val):valD (.list l) = vD 3 0 [] (l.map valD) := by simp [valD,valsD_eq]
theorem encV_int (n:Int):encV (.int n) = intB n := by simp [encV]
theorem encV_bytes (b:List UInt8):encV (.bytes b) = 48 :: (b.flatMap escB ++ [0,0]) := by simp [encV]
theorem encV_list (l:List Val):encV (.list l) = 64 :: (l.flatMap encV ++ [0]) := by simp [encV,encVs_eq]
theorem depV_int (n:Int):depV (.int n) = 0 := by simp [depV]
theorem depV_bytes (b:List UInt8):depV (.bytes b) = 0 := by simp [depV]
theorem depV_list (l:List Val):depV (.list l) = depVs l + 1 := by simp [depV]
def valC (v:Val):List D := match v with
 | .int n => vC 1 n [] []
 | .bytes b => vC 2 0 (b.map byteD) []
 | .list l => vC 3 0 [] (valsD l)
theorem valC_form (v:Val):∃ k n B L,valC v = vC k n B L ∧ valD v = vD k n B L := by
 cases v
 ·exact ⟨_,_,_,_,rfl,by simp [valD]⟩
 ·exact ⟨_,_,_,_,rfl,by simp [valD]⟩
 ·exact ⟨_,_,_,_,rfl,by simp [valD]⟩
theorem vD_inj {k n k' n':Int} {B L B' L':List D} (h:vD k n B L = vD k' n' B' L'):k = k' ∧ n = n' ∧ B = B' ∧ L = L' := by
 simp only [vD,vC,D.agg.injEq,List.cons.injEq,D.int.injEq,D.slc.injEq,true_and,and_true] at h
 exact ⟨h.1,h.2.1,h.2.2.1.2,h.2.2.2.2⟩
mutual
theorem valD_inj:∀ {v v':Val},valD v = valD v' → v = v'
 | .int n,.int n',h => by rw [valD_int,valD_int] at h; rw [(vD_inj h).2.1]
 | .bytes b,.bytes b',h => by rw [valD_bytes,valD_bytes] at h; rw [bytes_inj (vD_inj h).2.2.1]
 | .list l,.list l',h => by
  have := h
  simp only [valD] at this
  rw [valsD_inj (vD_inj this).2.2.2]
 | .int n,.bytes b,h => by rw [valD_int,valD_bytes] at h; exact absurd (vD_inj h).1 (by decide)
 | .int n,.list b,h => by rw [valD_int,valD_list] at h; exact absurd (vD_inj h).1 (by decide)
 | .bytes n,.int b,h => by rw [valD_int,valD_bytes] at h; exact absurd (vD_inj h).1 (by decide)
 | .bytes n,.list b,h => by rw [valD_bytes,valD_list] at h; exact absurd (vD_inj h).1 (by decide)
 | .list n,.int b,h => by rw [valD_int,valD_list] at h; exact absurd (vD_inj h).1 (by decide)
 | .list n,.bytes b,h => by rw [valD_bytes,valD_list] at h; exact absurd (vD_inj h).1 (by decide)
theorem valsD_inj:∀ {l l':List Val},valsD l = valsD l' → l = l'
 | [],[],_ => rfl
 | [],_ :: _,h => by simp [valsD] at h
 | _ :: _,[],h => by simp [valsD] at h
 | a :: l,b :: l',h => by
  simp only [valsD,List.cons.injEq] at h
  rw [valD_inj h.1,valsD_inj h.2]
end
theorem valD_iff {v v':Val}:valD v = valD v' ↔ v = v' := ⟨valD_inj,fun h => by rw [h]⟩
theorem vals_iff {l l':List Val}:l.map valD = l'.map valD ↔ l = l' := ⟨map_inj fun _ _ => valD_inj,fun h => by rw [h]⟩
theorem box_v (k n:Int) (B L:List D):boxD (vD k n B L) = some (vC k n B L) := (rfl)
theorem box_v0:boxD (.agg [.int .i64 0,.int .i64 0,.slc 0 [] true,.slc 0 [] true]) = some [.int .i64 0,.int .i64 0,.slc 0 [] true,.slc 0 [] true] := (rfl)
theorem ld_v0 (lent:Bool) (k n:Int) (B L:List D):ldO (some ⟨false,1,vC k n B L,lent⟩) 1 false 0 = some (.int .i64 k) := (rfl)
theorem ld_v1 (lent:Bool) (k n:Int) (B L:List D):ldO (some ⟨false,1,vC k n B L,lent⟩) 1 false 1 = some (.int .i64 n) := (rfl)
theorem ld_v2 (lent:Bool) (k n:Int) (B L:List D):ldO (some ⟨false,1,vC k n B L,lent⟩) 1 false 2 = some (.slc (nz 1 B) B false) := (rfl)
theorem ld_v3 (lent:Bool) (k n:Int) (B L:List D):ldO (some ⟨false,1,vC k n B L,lent⟩) 1 false 3 = some (.slc (nz 4 L) L false) := (rfl)
theorem ld_v (lent:Bool) (k n:Int) (B L:List D):ldO (some ⟨false,1,vC k n B L,lent⟩) 4 true 0 = some (vD k n B L) := (rfl)
theorem st_v (k n:Int) (B L:List D):stO (some ⟨false,1,[.int .i64 0,.int .i64 0,.slc 0 [] true,.slc 0 [] true],false⟩) 4 0 (vD k n B L) = some ⟨false,1,vC k n B L,false⟩ := (rfl)
theorem pld_v (st:St) (k n:Int) (B L:List D):pload st 4 true (.eptr (vD k n B L) 0) = some (vD k n B L) := (rfl)
theorem imm_v (st:St) (k n:Int) (B L:List D):imm st (vD k n B L) = some (vD k n B L) := by
 simp only [vD,vC,imm,immL,imm1,nz_nz]
 rfl
theorem keys_v (k n:Int) (B L:List D):keys (vD k n B L) = [] := (rfl)
theorem hkC_v (k n:Int) (B L:List D):(vC k n B L).flatMap hk = [] := (rfl)
theorem ren_v (m:Nat) (k n:Int) (B L:List D):∀ x ∈ vC k n B L,ren m [] x = x := by
 intro x hx
 simp only [vC,List.mem_cons,List.not_mem_nil,or_false] at hx
 rcases hx with rfl | rfl | rfl | rfl <;> rfl
theorem renC_v (m:Nat) (σ:List Nat) (k n:Int) (B L:List D):(vC k n B L).map (ren m σ) = vC k n B L := (rfl)
theorem idx_v (st:St) (l:List Val) (t:Bool) (i:Nat) (h:i < l.length):pidxS st 4 (.slc (nz 4 (l.map valD)) (l.map valD) t) (.int .i64 (i:Int)) = some (.eptr (valD (l.getD i default)) 0) := by
 have := idxS_nz st 4 valD l t .i64 (i:Int) (by omega) (by omega)
 simpa using this
theorem i21:((2:Int) = 1) = False := by simp
theorem i31:((3:Int) = 1) = False := by simp
theorem i32:((3:Int) = 2) = False := by simp
noncomputable def sp_shape (N:Nat):List D → Option D := spOf (α := Val) (fun v => [valD v]) (fun v => depV v < N ∧ (encV v).length ≤ 4294967000) (fun v => .tup [.int .i64 (depV v:Int),.bool true])
theorem call_shape (N:Nat) (v:Val) (h:depV v < N ∧ (encV v).length ≤ 4294967000):sp_shape N [valD v] = some (.tup [.int .i64 (depV v:Int),.bool true]) :=
 spOf_enc (fun a b h => by simp only [List.cons.injEq,and_true,valD_iff] at h; rw [h]) v h
theorem encB_len:∀ b:List UInt8,b.length ≤ (b.flatMap escB).length
 | [] => by simp
 | c :: b => by
  have := encB_len b
  have h1:1 ≤ (escB c).length := by unfold escB; split <;> simp
  simp only [List.flatMap_cons,List.length_append,List.length_cons]
  omega
theorem intB_len (n:Int):1 ≤ (intB n).length := by unfold intB; split <;> simp
theorem encV_len:∀ v:Val,1 ≤ (encV v).length
 | .int n => by rw [encV_int]; exact intB_len n
 | .bytes b => by rw [encV_bytes]; simp
 | .list l => by rw [encV_list]; simp
theorem encVs_len:∀ l:List Val,l.length ≤ (l.flatMap encV).length
 | [] => by simp
 | v :: l => by
  have := encVs_len l
  have := encV_len v
  simp only [List.flatMap_cons,List.length_append,List.length_cons]
  omega
theorem encV_mem:∀ {l:List Val} {v:Val},v ∈ l → (encV v).length ≤ (l.flatMap encV).length
 | a :: l,v,h => by
  simp only [List.flatMap_cons,List.length_append]
  rcases List.mem_cons.1 h with rfl | h
  ·omega
  ·have := encV_mem h; omega
mutual
theorem depV_len:∀ v:Val,depV v ≤ (encV v).length
 | .int n => by simp [depV]
 | .bytes b => by simp [depV]
 | .list l => by
  have := depVs_len l
  simp only [depV,encV,List.length_cons,List.length_append,List.length_nil]
  omega
theorem depVs_len:∀ l:List Val,depVs l ≤ (encVs l).length
 | [] => by simp [depVs]
 | v :: l => by
  have := depV_len v
  have := depVs_len l
  simp only [depVs,encVs,List.length_append]
  omega
end
def depT:List Val → Nat
 | [] => 0
 | v :: l => max (depT l) (depV v)
theorem depT_rev:∀ l:List Val,depT l.reverse = depVs l := by
 have h:∀ (l m:List Val),depT (l ++ m) = max (depT l) (depT m) := by
  intro l m
  induction l with
  | nil => simp [depT]
  | cons a l ih => simp only [List.cons_append,depT,ih]; omega
 intro l
 induction l with
 | nil => simp [depT,depVs]
 | cons a l ih => rw [List.reverse_cons,h,ih]; simp only [depT,depVs]; omega
theorem depVs_snoc (l:List Val) (v:Val):depVs (l ++ [v]) = max (depVs l) (depV v) := by
 rw [← depT_rev,← depT_rev l,List.reverse_append]
 rfl
theorem take_snoc {α:Type} [Inhabited α] (l:List α) {i:Nat} (h:i < l.length):l.take (i + 1) = l.take i ++ [l.getD i default] := by
 rw [List.take_add_one]
 simp [h]
set_option maxHeartbeats 4000000 in
set_option maxRecDepth 20000 in
theorem c_shape:∀ N:Nat,Contract Tryd.prog GG 88 (sp_shape N)
 | 0 => by
  intro w g ds vs d hd
  obtain ⟨a,_,hp,_⟩ := spOf_inv hd
  exact absurd hp.1 (by omega)
 | N + 1 => by
  refine contract_of (T := tb [(88,sp_shape N)] []) tr_codec_shape (tb_ok (all_cons (c_shape N) all_nil) all_nil) ?_
  rintro v ⟨hN,hl⟩
  unfold F_codec_shape
  cases v with
  | int n =>
   rw [valD_int,depV_int]
   simp (disch:=first|omega|decide) only [push_cast,↓reduceIte,Nat.reduceEqDiff,↓Int.reduceNatCast',box_v,ld_v0,ld_v2,ld_v3]
  | bytes b =>
   rw [valD_bytes,depV_bytes]
   simp (disch:=first|omega|decide) only [push_cast,↓reduceIte,Nat.reduceEqDiff,↓Int.reduceNatCast',box_v,ld_v0,ld_v1,ld_v3,i21]
  | list l =>
   rw [valD_list,depV_list]
   rw [depV_list] at hN
   rw [encV_list] at hl
   have hll := encVs_len l
   have hdl := depVs_len l
   rw [encVs_eq] at hdl
   simp only [List.length_cons,List.length_append,List.length_nil] at hl
   simp (disch:=first|omega|decide) only [push_cast,↓reduceIte,Nat.reduceEqDiff,box_v,ld_v0,ld_v1,ld_v2,ld_v3,i31,i32]
   refine W_while (fun i:Nat => [(2,.int .i64 (depVs (l.take i):Int)),(45,.slc (nz 4 (l.map valD)) (l.map valD) false),(46,.int .i64 (l.length:Int)),(47,.int .i64 (i:Int))])
    (fun _ => [⟨false,1,vC 3 0 [] (l.map valD),false⟩]) (fun i => i ≤ l.length) (fun i => l.length - i) 0 (by simp only [push_cast,↓reduceIte,Nat.reduceEqDiff,↓Int.reduceNatCast',hkC_v,renC_v] <;> rfl) (by omega) ?_
   intro i hi
   unfold F_codec_shape_L0
   simp (disch:=first|omega|decide) only [push_cast,↓reduceIte,Nat.reduceEqDiff]
   refine ifD_split (fun h2 => ?_) (fun h2 => ?_)
   ·have hil:i < l.length := by omega
    have hx := idx_v [⟨false,1,vC 3 0 [] (l.map valD),false⟩] l false i hil
    have hmem:l.getD i default ∈ l := by rw [List.getD_eq_getElem?_getD,List.getElem?_eq_getElem hil]; exact List.getElem_mem hil
    have hd1 := depVs_le hmem
    have he1 := encV_mem hmem
    have hc := call_shape N (l.getD i default) ⟨by omega,by omega⟩
    have hts := take_snoc l hil
    obtain ⟨x,hxe⟩:∃ x,l.getD i default = x := ⟨_,rfl⟩
    rw [hxe] at hx hc hts hd1 he1
    have hds := depVs_snoc (l.take i) x
    rw [← hts] at hds
    obtain ⟨k,n,B,L,hC,hD⟩ := valC_form x
    rw [hD] at hx hc
    simp (disch:=first|omega|decide) only [push_cast,↓reduceIte,Nat.reduceEqDiff,Nat.reduceLeDiff,Nat.reduceAdd,hx,pld_v,box_v0,st_v,ld_v,imm_v,keys_v,hc,add_i]
    refine next_head (i + 1) (by omega) (by omega) ?_
    rw [show ((depVs (l.take (i + 1)):Nat):Int) = max (depVs (l.take i):Int) (depV x:Int) by rw [hds]; omega]
    simp only [push_cast,hkC_v,renC_v] <;> rfl
   ·obtain rfl:i = l.length := by omega
    have e2:l.take l.length = l := List.take_length
    rw [e2]
    simp (disch:=first|omega|decide) only [push_cast,↓reduceIte,Nat.reduceEqDiff,add_i]
end Go.Proofs.YtlleccmnjpcogaaDoor.PI
namespace Go.Proofs.YtlleccmnjpcogaaDoor.PI
open Go
set_option linter.unusedSimpArgs false
set_option maxHeartbeats 8000000
set_option maxRecDepth 20000
set_option linter.unusedVariables false
theorem get_len (st:St) (o:Obj):(st ++ [o])[st.length]? = some o := List.getElem?_concat_length
theorem set_len (st:St) (o o':Obj):(st ++ [o]).set st.length o' = st ++ [o'] := by simp
theorem ren_low (n:Nat) (d:D):ren n [] d = low n d := by
 have rk:∀ (f:Nat → D) (key:Nat),orJunk f (renK n [] key) = if key < n then f key else .junk := by
  intro f key; unfold renK; split <;> rfl
 have h0:∀ d,ren0 n [] d = low0 n d := by
  intro d
  cases d <;> simp only [ren0,low0,rk]
 have h1:∀ d,ren1 n [] d = low1 n d := by
  intro d
  cases d with
  | clo f l => simp only [ren1,low1,D.clo.injEq,true_and]; exact List.map_congr_left fun x _ => h0 x
  | _ => simp only [ren1,low1]; exact h0 _
 cases d with
 | agg l => simp only [ren,low,D.agg.injEq]; exact List.map_congr_left fun x _ => h1 x
 | tup l => rfl
 | _ => simp only [ren,low]; exact h1 _
theorem hk_low {n:Nat} {x:D} (h:ren n [] x = x):∀ k ∈ hk x,k < n := by
 have rk:∀ (f:Nat → D) (key:Nat),(∀ k,f k ≠ .junk) → orJunk f (renK n [] key) = f key → key < n := by
  intro f key hf h
  unfold renK at h
  split at h
  ·assumption
  ·exact absurd h.symm (hf key)
 have h0:∀ x,ren0 n [] x = x → ∀ k ∈ hk0 x,k < n := by
  intro x h k hk
  cases x with
  | row key tot off len => simp only [hk0,List.mem_singleton] at hk; subst hk; exact rk (fun k => .row k tot off len) _ (fun k e => by cases e) h
  | bsl key off j sz ag => simp only [hk0,List.mem_singleton] at hk; subst hk; exact rk (fun k => .bsl k off j sz ag) _ (fun k e => by cases e) h
  | ptr key off => simp only [hk0,List.mem_singleton] at hk; subst hk; exact rk (fun k => .ptr k off) _ (fun k e => by cases e) h
  | rptr key tot i off => simp only [hk0,List.mem_singleton] at hk; subst hk; exact rk (fun k => .rptr k tot i off) _ (fun k e => by cases e) h
  | mapv key => simp only [hk0,List.mem_singleton] at hk; subst hk; exact rk .mapv _ (fun k e => by cases e) h
  | _ => simp [hk0] at hk
 have h1:∀ x,ren1 n [] x = x → ∀ k ∈ hk1 x,k < n := by
  intro x h k hk
  cases x with
  | clo f l =>
   simp only [hk1,List.mem_flatMap] at hk
   obtain ⟨y,hy,hk⟩ := hk
   simp only [ren1,D.clo.injEq,true_and] at h
   exact h0 y (map_same_inv h y hy) k hk
  | _ => unfold ren1 at h; unfold hk1 at hk; exact h0 _ h k hk
 intro k hk
 cases x with
 | agg l =>
  simp only [PI.hk,List.mem_flatMap] at hk
  obtain ⟨y,hy,hk⟩ := hk
  simp only [ren,D.agg.injEq] at h
  exact h1 y (map_same_inv h y hy) k hk
 | tup l => simp [PI.hk,hk1,hk0] at hk
 | _ => unfold ren at h; unfold PI.hk at hk; exact h1 _ h k hk
theorem StOK.keys {st:St} (h:StOK st):∀ o ∈ st,o.row = false → ∀ x ∈ o.els,∀ k ∈ hk x,k < st.length := fun o ho hr x hx => hk_low (h o ho hr x hx)
theorem restrict_dropl {keep:List Nat} {fr:Frame} {st l:St} {n:Nat} (h:StOK st) (hn:n = st.length) (hf:∀ k ∈ headK fr keep,k < n):restrict keep n ⟨fr,st ++ l⟩ = ⟨mkF (headF fr n [] keep),st⟩ := by
 subst hn
 refine restrict_drop h h.keys fun s hs k hk => hf k ?_
 rw [headK_eq,List.mem_flatMap]
 exact ⟨s,hs,hk⟩
theorem cut_ok {st l:St} {n:Nat} (h:StOK st) (hn:n = st.length):cut n (st ++ l) = st := by
 subst hn
 unfold cut
 rw [show (st ++ l).take st.length = st by simp]
 refine map_same fun o ho => ?_
 obtain ⟨row,sz,els,lent⟩ := o
 cases row with
 | true => rfl
 | false =>
  show (⟨false,sz,els.map (low st.length),lent⟩:Obj) = _
  rw [map_same fun x hx => (ren_low st.length x).symm.trans (h _ ho rfl x hx)]
theorem stOK_box {st:St} (h:StOK st) (k n:Int) (B L:List D) (lent:Bool):StOK (st ++ [⟨false,1,vC k n B L,lent⟩]) := h.app _ fun o ho hr x hx => by
 simp only [List.mem_singleton] at ho
 subst ho
 exact ren_v _ _ _ _ _ x hx
theorem bufAt_more {st:St} {b:D} {l:List UInt8} (h:bufAt st b l) (m:St):bufAt (st ++ m) b l := by
 rcases h with ⟨rfl,rfl⟩ | ⟨key,rfl,hl,hk⟩
 ·exact .inl ⟨rfl,rfl⟩
 ·exact .inr ⟨key,rfl,hl,by rw [List.getElem?_append_left (List.getElem?_eq_some_iff.1 hk).1]; exact hk⟩
theorem bufW_other {st:St} {key:Nat} {sz:Nat} {els:List D} {lent:Bool} (hk:st[key]? = some ⟨true,sz,els,lent⟩) {j:Nat} {o:PI.Obj} (hj:st[j]? = some o) (hr:o.row = false) (m:List UInt8):(bufW st key m)[j]? = some o := by
 have hne:key ≠ j := by
  rintro rfl
  rw [hk] at hj
  simp only [Option.some.injEq] at hj
  subst hj; cases hr
 rw [bufW,List.getElem?_set_ne hne]
 exact hj
theorem bufPut_row' {st:St} {b:D} {l m:List UInt8} (h:bufAt st b l) (hm:m ≠ []):∃ key st1,key < st1.length ∧ bufPut st b l m = (.row key (l ++ m).length 0 (l ++ m).length,bufW st1 key (l ++ m)) ∧ (StOK st → StOK st1) ∧
  (∀ n,bufPut st b l (m ++ n) = (.row key (l ++ (m ++ n)).length 0 (l ++ (m ++ n)).length,bufW st1 key (l ++ (m ++ n)))) ∧ ∀ (j:Nat) (o:PI.Obj),st[j]? = some o → o.row = false → ∀ n,(bufW st1 key n)[j]? = some o := by
 rcases h with ⟨rfl,rfl⟩ | ⟨key,rfl,hl,hk⟩
 ·refine ⟨st.length,st ++ [⟨true,1,[],false⟩],by simp,?_,fun h => h.app _ fun o ho hr => ?_,fun n => ?_,fun j o hj hr n => ?_⟩
  ·simp [bufPut,bufW]
  ·simp only [List.mem_singleton] at ho
   subst ho; cases hr
  ·simp [bufPut,bufW]
  ·exact bufW_other (get_len st ⟨true,1,[],false⟩) (by rw [List.getElem?_append_left (List.getElem?_eq_some_iff.1 hj).1]; exact hj) hr n
 ·have hlt := (List.getElem?_eq_some_iff.1 hk).1
  exact ⟨key,st,hlt,rfl,id,fun n => rfl,fun j o hj hr n => bufW_other hk hj hr n⟩
def valRes (st:St) (b:D) (l:List UInt8) (v:Val):D × St := bufPut (st ++ [⟨false,1,valC v,false⟩]) b l (encV v)
def valR0 (N:Nat) (ds:List D) (st:St) (r:D × St):Prop := ∃ (v:Val),StOK st ∧ depV v < N ∧ (encV v).length ≤ 4294967000 ∧ ds = [.slc 0 [] true,valD v] ∧ r = valRes st (.slc 0 [] true) [] v
def valR1 (N:Nat) (ds:List D) (st:St) (r:D × St):Prop := ∃ (key:Nat) (l:List UInt8) (v:Val),StOK st ∧ depV v < N ∧ l.length + (encV v).length ≤ 4294967000 ∧ l ≠ [] ∧ st[key]? = some ⟨true,1,l.map byteD,false⟩ ∧ ds = [.row key l.length 0 l.length,valD v] ∧ r = bufPut st (.row key l.length 0 l.length) l (encV v)
noncomputable def si_aval0 (N:Nat):List D → St → Option (D × St) := relI (valR0 N)
noncomputable def si_aval1 (N:Nat):List D → St → Option (D × St) := relI (valR1 N)
theorem aval1_fun (N:Nat):Fun1 (valR1 N) := by
 rintro ds st r r' ⟨key,l,v,_,_,_,_,hk,rfl,rfl⟩ ⟨key',l',v',_,_,_,_,hk',h,rfl⟩
 simp only [List.cons.injEq,D.row.injEq,and_true,valD_iff] at h
 obtain ⟨⟨rfl,_⟩,rfl⟩ := h
 rw [hk] at hk'
 simp only [Option.some.injEq,Obj.mk.injEq,true_and,and_true] at hk'
 rw [bytes_inj hk']
theorem aval0_fun (N:Nat):Fun1 (valR0 N) := by
 rintro ds st r r' ⟨v,_,_,_,rfl,rfl⟩ ⟨v',_,_,_,h,rfl⟩
 simp only [List.cons.injEq,and_true,true_and,valD_iff] at h
 rw [h]
theorem retI_mono {G:Glob} {T:Tbl} {c:PC} {fr:Frame} {st:St} {res:List PRes} {K K':D → St → Prop} (h:@wW G T c fr st ⟨@retI res ⟨K⟩⟩) (hk:∀ d st,K d st → K' d st):@wW G T c fr st ⟨@retI res ⟨K'⟩⟩ := by
 refine wW_mk (W_mono _ _ _ _ _ (W_of h) fun e fr' st' h => ?_)
 have fin:@on _ (raws ⟨fr',st'⟩ res) ⟨fun l => K (pack l) st'⟩ → @on _ (raws ⟨fr',st'⟩ res) ⟨fun l => K' (pack l) st'⟩ := by
  unfold on
  split
  ·exact hk _ _
  ·exact id
 cases e with
 | next => rw [retI_next] at h ⊢; exact fin h
 | ret => rw [retI_ret] at h ⊢; exact fin h
 | exit id => unfold retI at h; exact h.elim
 | panic t d => unfold retI at h; exact h.elim
theorem bin_b0 (c:UInt8):pbin .eql (byteD c) (.int .u8 0) = some (.bool (decide (c = 0))) := by
 unfold byteD
 rw [bin_eql]
 congr 2
 rw [decide_eq_decide]
 refine ⟨fun h => ?_,fun h => by subst h; rfl⟩
 apply UInt8.toNat_inj.1
 have:c.toNat = 0 := by omega
 rw [this]; rfl
theorem lit_b2:litD 1 [.int .u8 0,.int .u8 0] = some (.slc 1 [.int .u8 0,.int .u8 0] true) := (rfl)
theorem lit_c (n:Int):litD 1 [.int .u8 n] = some (.slc 1 [.int .u8 n] true) := (rfl)
theorem by48:byteD 48 = .int .u8 48 := (rfl)
theorem by64:byteD 64 = .int .u8 64 := (rfl)
theorem by0:byteD 0 = .int .u8 0 := (rfl)
theorem by255:byteD 255 = .int .u8 255 := (rfl)
/- the bytes of a string,laid behind what is there -/
theorem w_avalL0 (T:Tbl) (st1:St) (key:Nat) (hkey:key < st1.length) (hok:StOK st1) (l0 B:List UInt8) (hl:l0.length + (B.flatMap escB).length ≤ 4294967100) (fr:Frame) (Q:Ex → Frame → St → Prop)
  (h0:fr 0 = .row key l0.length 0 l0.length) (h1:fr 23 = .slc (nz 1 (B.map byteD)) (B.map byteD) false) (h6:fr 24 = .int .i64 (B.length:Int)) (h31:fr 25 = .int .i64 0)
  (hQ:∀ fr',fr' 0 = .row key (l0 ++ B.flatMap escB).length 0 (l0 ++ B.flatMap escB).length → Q (.exit 1) fr' (bufW st1 key (l0 ++ B.flatMap escB))) :
  @wW GG T (.loop [0,23,24,25] F_codec_appendValue_L0) fr (bufW st1 key l0) ⟨Q⟩ := by
 have hlen := bufW_length st1 key
 have hR:∀ (fr:Frame) (m:List UInt8),restrict [0,23,24,25] (bufW st1 key l0).length ⟨fr,bufW st1 key m⟩ = ⟨mkF (headF fr st1.length [] [0,23,24,25]),bufW st1 key m⟩ := fun fr m => by rw [restrict_okl (bufW_ok hok key m) (by rw [hlen,hlen]),hlen]
 have hB := encB_len B
 refine W_while (fun i:Nat => [(0,.row key (l0 ++ (B.take i).flatMap escB).length 0 (l0 ++ (B.take i).flatMap escB).length),(23,.slc (nz 1 (B.map byteD)) (B.map byteD) false),(24,.int .i64 (B.length:Int)),(25,.int .i64 (i:Int))])
  (fun i => bufW st1 key (l0 ++ (B.take i).flatMap escB)) (fun i => i ≤ B.length) (fun i => B.length - i) 0 ?_ (by omega) ?_
 ·rw [hR]
  simp (disch := omega) only [push_cast,↓Int.reduceNatCast',h0,h1,h6,h31,renK_lt] <;> rfl
 intro i hi
 unfold F_codec_appendValue_L0
 simp (disch:=first|omega|decide) only [push_cast,↓reduceIte,Nat.reduceEqDiff]
 refine ifD_split (fun h2 => ?_) (fun h2 => ?_)
 ·have hil:i < B.length := by omega
  have hx:pidxS (bufW st1 key (l0 ++ (B.take i).flatMap escB)) 1 (.slc (nz 1 (B.map byteD)) (B.map byteD) false) (.int .i64 (i:Int)) = some (.eptr (byteD (B.getD i default)) 0) := by
   have := idxS_nz (bufW st1 key (l0 ++ (B.take i).flatMap escB)) 1 byteD B false .i64 (i:Int) (by omega) (by omega)
   simpa using this
  have hts := take_snoc B hil
  have hple:((B.take i).flatMap escB).length + (escB (B.getD i default)).length ≤ (B.flatMap escB).length := by
   have e:B = B.take (i + 1) ++ B.drop (i + 1) := (List.take_append_drop _ _).symm
   have := congrArg (fun l => (l.flatMap escB).length) e
   simp only [List.flatMap_append,List.length_append,hts,List.flatMap_cons,List.flatMap_nil,List.append_nil] at this
   omega
  generalize hxe:B.getD i default = c at *
  have hesc1:1 ≤ (escB c).length := by unfold escB; split <;> simp
  have happ := fun x => bufW_app1 (st := st1) hkey (l0 ++ (B.take i).flatMap escB) x (by rw [List.length_append]; omega) true
  have hnx:l0 ++ (B.take (i + 1)).flatMap escB = l0 ++ (B.take i).flatMap escB ++ escB c := by
   rw [hts]; simp
  by_cases hc:c = 0
  ·subst hc
   have hb0:pbin .eql (byteD 0) (.int .u8 0) = some (.bool true) := (rfl)
   have h3 := bufW_app1 (st := st1) hkey (l0 ++ (B.take i).flatMap escB ++ [0]) 255 (by
    have:(escB 0).length = 2 := by simp [escB]
    simp only [List.length_append,List.length_cons,List.length_nil]; omega) true
   rw [by255] at h3
   simp (disch:=first|omega|decide) only [push_cast,↓reduceIte,Nat.reduceEqDiff,hx,pload_ebyte,imm_b,keys_b,lit_b1,lit_c,happ,hb0,h3,add_i,↓hR,hkey]
   refine next_head (i + 1) (by omega) (by omega) ?_
   rw [hnx,show l0 ++ (B.take i).flatMap escB ++ escB 0 = l0 ++ (B.take i).flatMap escB ++ [0] ++ [255] by simp [escB]]
   first | rfl | (simp only [push_cast,↓wF_free,↓reduceIte,Nat.reduceEqDiff,Nat.reduceLT,Nat.reduceLeDiff,Nat.reduceAdd,Nat.reduceSub,Nat.reduceMul,Nat.reduceBEq,Int.reduceLT,Int.reduceLE,Int.reduceToNat,Int.reduceNeg,Int.reducePow,Int.reduceAdd,Int.reduceMul,Int.reduceSub,↓Int.reduceNatCast'] <;> rfl)
  ·simp (disch:=first|omega|decide) only [push_cast,↓reduceIte,Nat.reduceEqDiff,hx,pload_ebyte,imm_b,keys_b,lit_b1,happ,bin_b0,hc,decide_false,add_i,↓hR,hkey]
   refine next_head (i + 1) (by omega) (by omega) ?_
   rw [hnx,show l0 ++ (B.take i).flatMap escB ++ escB c = l0 ++ (B.take i).flatMap escB ++ [c] by simp [escB,hc]]
   first | rfl | (simp only [push_cast,↓wF_free,↓reduceIte,Nat.reduceEqDiff,Nat.reduceLT,Nat.reduceLeDiff,Nat.reduceAdd,Nat.reduceSub,Nat.reduceMul,Nat.reduceBEq,Int.reduceLT,Int.reduceLE,Int.reduceToNat,Int.reduceNeg,Int.reducePow,Int.reduceAdd,Int.reduceMul,Int.reduceSub,↓Int.reduceNatCast'] <;> rfl)
 ·obtain rfl:i = B.length := by omega
  rw [List.take_length]
  simp (disch:=first|omega|decide) only [push_cast]
  exact hQ _ rfl
theorem call_aval1 {st:St} {key:Nat} {l:List UInt8} {v:Val} {N:Nat} (h1:StOK st) (h2:depV v < N) (h3:l.length + (encV v).length ≤ 4294967000) (h4:l ≠ []) (h5:st[key]? = some ⟨true,1,l.map byteD,false⟩) :
  si_aval1 N [.row key l.length 0 l.length,valD v] st = some (.row key (l ++ encV v).length 0 (l ++ encV v).length,st.set key ⟨true,1,(l ++ encV v).map byteD,false⟩) := relI_of (aval1_fun N) ⟨key,l,v,h1,h2,h3,h4,h5,rfl,rfl⟩
theorem flat_take {α:Type} [Inhabited α] (f:α → List UInt8) (L:List α) {i:Nat} (h:i < L.length):((L.take i).flatMap f).length + (f (L.getD i default)).length ≤ (L.flatMap f).length := by
 have e:L = L.take (i + 1) ++ L.drop (i + 1) := (List.take_append_drop _ _).symm
 have := congrArg (fun l => (l.flatMap f).length) e
 simp only [List.flatMap_append,List.length_append,take_snoc L h,List.flatMap_cons,List.flatMap_nil,List.append_nil] at this
 omega
/- the values of a list,laid behind what is there -/
theorem w_avalL1 (N:Nat) (st1:St) (key:Nat) (hkey:key < st1.length) (hok:StOK st1) (l0:List UInt8) (hl0:l0 ≠ []) (L:List Val) (hd:depVs L < N) (hl:l0.length + (L.flatMap encV).length ≤ 4294967000) (fr:Frame) (Q:Ex → Frame → St → Prop)
  (h0:fr 0 = .row key l0.length 0 l0.length) (h1:fr 46 = .slc (nz 4 (L.map valD)) (L.map valD) false) (h6:fr 47 = .int .i64 (L.length:Int)) (h31:fr 48 = .int .i64 0)
  (hQ:∀ fr',fr' 0 = .row key (l0 ++ L.flatMap encV).length 0 (l0 ++ L.flatMap encV).length → Q (.exit 3) fr' (bufW st1 key (l0 ++ L.flatMap encV))) :
  @wW GG (tb [] [(93,si_aint),(89,si_aval1 N)]) (.loop [0,46,47,48] F_codec_appendValue_L1) fr (bufW st1 key l0) ⟨Q⟩ := by
 have hlen := bufW_length st1 key
 have hB := encVs_len L
 have hR:∀ (fr:Frame) (m:List UInt8),restrict [0,46,47,48] (bufW st1 key l0).length ⟨fr,bufW st1 key m⟩ = ⟨mkF (headF fr st1.length [] [0,46,47,48]),bufW st1 key m⟩ := fun fr m => by rw [restrict_okl (bufW_ok hok key m) (by rw [hlen,hlen]),hlen]
 refine W_while (fun i:Nat => [(0,.row key (l0 ++ (L.take i).flatMap encV).length 0 (l0 ++ (L.take i).flatMap encV).length),(46,.slc (nz 4 (L.map valD)) (L.map valD) false),(47,.int .i64 (L.length:Int)),(48,.int .i64 (i:Int))])
  (fun i => bufW st1 key (l0 ++ (L.take i).flatMap encV)) (fun i => i ≤ L.length) (fun i => L.length - i) 0 ?_ (by omega) ?_
 ·rw [hR]
  simp (disch := omega) only [push_cast,↓Int.reduceNatCast',h0,h1,h6,h31,renK_lt] <;> rfl
 intro i hi
 unfold F_codec_appendValue_L1
 simp (disch:=first|omega|decide) only [push_cast,↓reduceIte,Nat.reduceEqDiff]
 refine ifD_split (fun h2 => ?_) (fun h2 => ?_)
 ·have hil:i < L.length := by omega
  have hx := idx_v (bufW st1 key (l0 ++ (L.take i).flatMap encV)) L false i hil
  have hmem:L.getD i default ∈ L := by rw [List.getD_eq_getElem?_getD,List.getElem?_eq_getElem hil]; exact List.getElem_mem hil
  have hd1 := depVs_le hmem
  have hft := flat_take encV L hil
  have hts := take_snoc L hil
  obtain ⟨x,hxe⟩:∃ x,L.getD i default = x := ⟨_,rfl⟩
  rw [hxe] at hx hts hd1 hft
  have hnx:l0 ++ (L.take (i + 1)).flatMap encV = l0 ++ (L.take i).flatMap encV ++ encV x := by
   rw [hts]; simp
  obtain ⟨k,n,B,M,hC,hD⟩ := valC_form x
  have hbox := stOK_box (bufW_ok hok key (l0 ++ (L.take i).flatMap encV)) k n B M false
  have hc := call_aval1 (N := N) (v := x) (l := l0 ++ (L.take i).flatMap encV) (key := key) hbox (by omega) (by rw [List.length_append]; omega) (by simp [hl0]) (by
   rw [List.getElem?_append_left (by rw [hlen]; exact hkey)]; exact bufW_get hkey _)
  rw [List.set_append_left _ _ (by rw [hlen]; exact hkey),show (bufW st1 key (l0 ++ (L.take i).flatMap encV)).set key ⟨true,1,(l0 ++ (L.take i).flatMap encV ++ encV x).map byteD,false⟩ = bufW st1 key (l0 ++ (L.take i).flatMap encV ++ encV x) from bufW_bufW st1 key _ _,hD] at hc
  rw [hD] at hx
  have hR':∀ (fr:Frame) (m:List UInt8) (o:PI.Obj),(headK fr [0,46,47,48]).all (fun k => decide (k < st1.length)) = true → restrict [0,46,47,48] (bufW st1 key l0).length ⟨fr,bufW st1 key m ++ [o]⟩ = ⟨mkF (headF fr st1.length [] [0,46,47,48]),bufW st1 key m⟩ := fun fr m o h => by
   rw [restrict_dropl (bufW_ok hok key m) (by rw [hlen,hlen]) (fun k hk => by rw [hlen]; exact of_decide_eq_true (List.all_eq_true.1 h k hk)),hlen]
  simp (disch := first | omega | decide | (simp only [push_cast,↓wF_free,↓reduceIte,Nat.reduceEqDiff,Nat.reduceLT,Nat.reduceLeDiff,Nat.reduceAdd,Nat.reduceSub,Nat.reduceMul,Nat.reduceBEq,Int.reduceLT,Int.reduceLE,Int.reduceToNat,Int.reduceNeg,Int.reducePow,Int.reduceAdd,Int.reduceMul,Int.reduceSub,↓Int.reduceNatCast',hkey]; done)) only [push_cast,↓reduceIte,Nat.reduceEqDiff,↓hR',hx,pld_v,box_v0,get_len,set_len,st_v,ld_v,hc,add_i,hkey]
  refine next_head (i + 1) (by omega) (by omega) ?_
  rw [hnx]
  first | rfl | (simp only [push_cast,↓wF_free,↓reduceIte,Nat.reduceEqDiff,Nat.reduceLT,Nat.reduceLeDiff,Nat.reduceAdd,Nat.reduceSub,Nat.reduceMul,Nat.reduceBEq,Int.reduceLT,Int.reduceLE,Int.reduceToNat,Int.reduceNeg,Int.reducePow,Int.reduceAdd,Int.reduceMul,Int.reduceSub,↓Int.reduceNatCast'] <;> rfl)
 ·obtain rfl:i = L.length := by omega
  rw [List.take_length]
  simp (disch:=first|omega|decide) only [push_cast]
  exact hQ _ rfl
/- the whole -/
theorem w_aval (N:Nat) (st:St) (b:D) (l:List UInt8) (v:Val) (hok:StOK st) (hb:bufAt st b l) (hN:depV v < N + 1) (hl:l.length + (encV v).length ≤ 4294967000) :
  @wW GG (tb [] [(93,si_aint),(89,si_aval1 N)]) F_codec_appendValue.code (argF [b,valD v]) st ⟨@retI F_codec_appendValue.res ⟨fun d st' => (d,st') = valRes st b l v⟩⟩ := by
 unfold F_codec_appendValue valRes
 obtain ⟨k,n,B,M,hC,hD⟩ := valC_form v
 have hok2 := stOK_box hok k n B M false
 have hb2 := bufAt_more hb [⟨false,1,vC k n B M,false⟩]
 have hbx := get_len st ⟨false,1,vC k n B M,false⟩
 cases v with
 | int m =>
  obtain ⟨rfl,rfl,rfl,rfl⟩ := vD_inj ((valD_int m).symm.trans hD)
  have hc := call_aint m hok2 hb2 (by omega)
  rw [hD,hC,encV_int]
  generalize bufPut (st ++ [⟨false,1,vC 1 m [] [],false⟩]) b l (intB m) = r at *
  obtain ⟨r1,r2⟩ := r
  simp (disch:=first|omega|decide) only [push_cast,↓reduceIte,Nat.reduceEqDiff,box_v,ld_v0,ld_v1,get_len,hc]
 | bytes m =>
  obtain ⟨rfl,rfl,rfl,rfl⟩ := vD_inj ((valD_bytes m).symm.trans hD)
  rw [encV_bytes] at hl
  simp only [List.length_cons,List.length_append,List.length_nil] at hl
  rw [hD,hC,encV_bytes]
  obtain ⟨key,st1,hkey,hput,hok1,hmore,hoth⟩ := bufPut_row' hb2 (m := [48]) (by simp)
  have happ := papp_put hb2 (m := [48]) (by simp) (by simp; omega) true
  rw [hput] at happ
  simp only [List.map_cons,List.map_nil,by48] at happ
  have hm := hmore (m.flatMap escB ++ [0,0])
  rw [show (48 :: (m.flatMap escB ++ [0,0]):List UInt8) = [48] ++ (m.flatMap escB ++ [0,0]) from rfl,hm]
  have hld := hoth _ _ hbx rfl (l ++ [48])
  simp (disch:=first|omega|decide) only [push_cast,↓reduceIte,Nat.reduceEqDiff,box_v,ld_v0,ld_v2,get_len,i21,lit_c,happ,hld]
  refine w_avalL0 _ st1 key hkey (hok1 hok2) (l ++ [48]) m (by simp only [List.length_append,List.length_cons,List.length_nil]; omega) _ _ (by simp only [push_cast,↓reduceIte,Nat.reduceEqDiff]) (by simp only [push_cast,↓reduceIte,Nat.reduceEqDiff]) (by simp only [push_cast,↓reduceIte,Nat.reduceEqDiff]) (by simp only [push_cast,↓reduceIte]) fun fr' hf => ?_
  have happ2 := bufW_app (st := st1) hkey (l ++ [48] ++ m.flatMap escB) [0,0] (by simp) (by simp only [List.length_append,List.length_cons,List.length_nil]; omega) true
  simp only [List.map_cons,List.map_nil,by0] at happ2
  simp (disch:=first|omega|decide) only [push_cast,↓reduceIte,Nat.reduceEqDiff,hf,lit_b2,happ2]
  simp only [List.append_assoc,List.cons_append,List.nil_append]
 | list m =>
  obtain ⟨rfl,rfl,rfl,rfl⟩ := vD_inj ((valD_list m).symm.trans hD)
  rw [encV_list] at hl
  rw [depV_list] at hN
  simp only [List.length_cons,List.length_append,List.length_nil] at hl
  rw [hD,hC,encV_list]
  obtain ⟨key,st1,hkey,hput,hok1,hmore,hoth⟩ := bufPut_row' hb2 (m := [64]) (by simp)
  have happ := papp_put hb2 (m := [64]) (by simp) (by simp; omega) true
  rw [hput] at happ
  simp only [List.map_cons,List.map_nil,by64] at happ
  have hm := hmore (m.flatMap encV ++ [0])
  rw [show (64 :: (m.flatMap encV ++ [0]):List UInt8) = [64] ++ (m.flatMap encV ++ [0]) from rfl,hm]
  have hld := hoth _ _ hbx rfl (l ++ [64])
  simp (disch:=first|omega|decide) only [push_cast,↓reduceIte,Nat.reduceEqDiff,box_v,ld_v0,ld_v3,get_len,i31,i32,lit_c,happ,hld]
  refine w_avalL1 N st1 key hkey (hok1 hok2) (l ++ [64]) (by simp) m (by omega) (by simp only [List.length_append,List.length_cons,List.length_nil]; omega) _ _ (by simp only [push_cast,↓reduceIte,Nat.reduceEqDiff]) (by simp only [push_cast,↓reduceIte,Nat.reduceEqDiff]) (by simp only [push_cast,↓reduceIte,Nat.reduceEqDiff]) (by simp only [push_cast,↓reduceIte]) fun fr' hf => ?_
  have happ2 := bufW_app1 (st := st1) hkey (l ++ [64] ++ m.flatMap encV) 0 (by simp only [List.length_append,List.length_cons,List.length_nil]; omega) true
  simp only [by0] at happ2
  simp (disch:=first|omega|decide) only [push_cast,↓reduceIte,Nat.reduceEqDiff,hf,lit_c,happ2]
  simp only [List.append_assoc,List.cons_append,List.nil_append]
theorem ci_aval:∀ N:Nat,IContract Tryd.prog GG 89 (si_aval0 N) ∧ IContract Tryd.prog GG 89 (si_aval1 N)
 | 0 => by
  have hT:TblOK Tryd.prog GG (tb [] []) := tb_ok all_nil all_nil
  refine ⟨icontract_keep' tr_codec_appendValue hT fun ds st r hr => ?_,icontract_keep' tr_codec_appendValue hT fun ds st r hr => ?_⟩
  ·obtain ⟨v,_,h,_⟩ := relI_inv hr
   omega
  ·obtain ⟨key,l,v,_,h,_⟩ := relI_inv hr
   omega
 | N + 1 => by
  have hT:TblOK Tryd.prog GG (tb [] [(93,si_aint),(89,si_aval1 N)]) := tb_ok all_nil (all_cons ci_aint (all_cons (ci_aval N).2 all_nil))
  refine ⟨icontract_keep' tr_codec_appendValue hT fun ds st r hr => ?_,icontract_on tr_codec_appendValue hT fun ds st r hr => ?_⟩
  ·obtain ⟨v,hok,hd,hl,rfl,rfl⟩ := relI_inv hr
   exact w_aval N st _ [] v hok (.inl ⟨rfl,rfl⟩) hd (by simpa using hl)
  ·obtain ⟨key,l,v,hok,hd,hl,hl0,hk,rfl,rfl⟩ := relI_inv hr
   have hlt := (List.getElem?_eq_some_iff.1 hk).1
   refine retI_mono (w_aval N st _ l v hok (.inr ⟨key,rfl,hl0,hk⟩) hd hl) fun d st' h => ?_
   simp only [valRes,bufPut,Prod.mk.injEq] at h ⊢
   obtain ⟨rfl,rfl⟩ := h
   refine ⟨?_,?_⟩
   ·show lowR st.length (.row key _ 0 _) = _
    simp only [lowR,low,low1,low0,hlt,if_true]
   ·rw [List.set_append_left _ _ hlt]
    exact cut_ok (hok.set _ _ fun e => by cases e) (by rw [List.length_set])
theorem call_aval0 {v:Val} {N:Nat} {st:St} (h1:StOK st) (h2:depV v < N) (h3:(encV v).length ≤ 4294967000):si_aval0 N [.slc 0 [] true,valD v] st = some (valRes st (.slc 0 [] true) [] v) := relI_of (aval0_fun N) ⟨v,h1,h2,h3,rfl,rfl⟩
def bsO (b:List UInt8):D := .slc (nz 1 (b.map byteD)) (b.map byteD) false
def encF (v:Val):List UInt8 := if (encV v).length ≤ 65536 then encV v else []
def encE (v:Val):Int := if (encV v).length ≤ 65536 then 0 else 2
noncomputable def sp_Encode:List D → Option D := spOf (α := Val) (fun v => [valD v]) (fun v => depV v ≤ 16 ∧ (encV v).length ≤ 4294967000) (fun v => .tup [bsO (encF v),.int .i64 (encE v)])
theorem call_Encode (v:Val) (h:depV v ≤ 16 ∧ (encV v).length ≤ 4294967000):sp_Encode [valD v] = some (.tup [bsO (encF v),.int .i64 (encE v)]) :=
 spOf_enc (fun a b h => by simp only [List.cons.injEq,and_true,valD_iff] at h; rw [h]) v h
theorem c_Encode:Contract Tryd.prog GG 76 sp_Encode := by
 refine contract_of (T := tb [(88,sp_shape 17)] [(89,si_aval0 17)]) tr_codec_Encode (tb_ok (all_cons (c_shape 17) all_nil) (all_cons (ci_aval 17).1 all_nil)) ?_
 rintro v ⟨hd,hl⟩
 unfold F_codec_Encode encF encE
 obtain ⟨k,n,B,M,hC,hD⟩ := valC_form v
 have h1 := call_shape 17 v ⟨by omega,hl⟩
 have h2 := call_aval0 (N := 17) (st := [⟨false,1,vC k n B M,false⟩]) (v := v) (by have := stOK_box StOK.nil k n B M false; simpa using this) (by omega) hl
 have hne:encV v ≠ [] := by
  intro e; have := encV_len v; rw [e] at this; simp at this
 have hz:nz 1 ((encV v).map byteD) = 1 := by
  cases he:encV v with
  | nil => exact absurd he hne
  | cons a r => rfl
 simp only [valRes,bufPut,List.cons_append,List.nil_append,List.length_cons,List.length_nil] at h2
 rw [hD] at h1 h2
 rw [hD]
 simp (disch:=first|omega|decide) only [push_cast,↓reduceIte,Nat.reduceEqDiff,box_v,ld_v,imm_v,keys_v,h1]
 have h16:¬ ((16:Int) < (depV v:Int)) := by omega
 simp (disch:=first|omega|decide) only [push_cast,↓reduceIte,Nat.reduceEqDiff,Nat.reduceAdd,h16,decide_false,ld_v,h2]
 by_cases h3:(encV v).length ≤ 65536
 ·rw [if_pos h3,if_pos h3]
  have h4:¬ ((65536:Int) < ((encV v).length:Int)) := by omega
  simp (disch:=first|omega|decide) only [push_cast,↓reduceIte,Nat.reduceEqDiff,h4,decide_false,bsO]
 ·rw [if_neg h3,if_neg h3]
  have h4:((65536:Int) < ((encV v).length:Int)) := by omega
  simp (disch:=first|omega|decide) only [push_cast,↓reduceIte,Nat.reduceEqDiff,h4,decide_true,bsO]
end Go.Proofs.YtlleccmnjpcogaaDoor.PI
namespace Go.Proofs.YtlleccmnjpcogaaDoor.PI
open Go
def padL:Dig := taggedL [112,97,100] []
def atL (l:List Dig) (k:Int) (pad:Dig):Dig := if k < (l.length:Int) then l.getD k.toNat default else pad
def firstF (a b:List Dig):Nat → Nat → Int
 | 0,_ => -1
 | n + 1,i => if atL a i padL ≠ atL b i padL then i else firstF a b n (i + 1)
def firstL (a b:List Dig):Int := firstF a b (max a.length b.length) 0
theorem firstF_end (a b:List Dig) (i:Nat):firstF a b 0 i = -1 := rfl
theorem firstF_ne {a b:List Dig} {n i:Nat} (h:atL a i padL ≠ atL b i padL):firstF a b (n + 1) i = i := by simp [firstF,h]
theorem firstF_eq {a b:List Dig} {n i:Nat} (h:atL a i padL = atL b i padL):firstF a b (n + 1) i = firstF a b n (i + 1) := by simp [firstF,h]
end Go.Proofs.YtlleccmnjpcogaaDoor.PI
namespace Go.Proofs.YtlleccmnjpcogaaDoor.PI
open Go
set_option linter.unusedSimpArgs false
set_option linter.unusedVariables false
noncomputable def sp_at:List D → Option D := spOf (α := List Dig × Int × Dig) (fun a => [.slc (nz 32 (a.1.map digD)) (a.1.map digD) false,.int .i64 a.2.1,digD a.2.2]) (fun a => 0 ≤ a.2.1) (fun a => digD (atL a.1 a.2.1 a.2.2))
theorem call_at (l:List Dig) (k:Int) (pad:Dig) (h:0 ≤ k):sp_at [.slc (nz 32 (l.map digD)) (l.map digD) false,.int .i64 k,digD pad] = some (digD (atL l k pad)) :=
 spOf_enc (fun ⟨a0,a1,a2⟩ ⟨b0,b1,b2⟩ h => by simp only [List.cons.injEq,D.slc.injEq,D.int.injEq,digs_iff,dig_iff,true_and,and_true] at h; simp [h]) (l,k,pad) h
set_option maxHeartbeats 4000000 in
set_option maxRecDepth 20000 in
theorem w_at (l:List Dig) (k:Int) (pad:Dig) (h:0 ≤ k):@wW GG (tb [] []) F_merkle_at.code (argF [.slc (nz 32 (l.map digD)) (l.map digD) false,.int .i64 k,digD pad]) [] ⟨retQ F_merkle_at.res (digD (atL l k pad))⟩ := by
 unfold F_merkle_at
 simp only [push_cast,↓reduceIte,Nat.reduceEqDiff]
 refine ifD_split (fun h1 => ?_) (fun h1 => ?_)
 ·simp only [push_cast,↓reduceIte,Nat.reduceEqDiff,idxS_nz _ _ _ _ _ _ _ h h1,atL,h1]
 ·simp only [push_cast,↓reduceIte,Nat.reduceEqDiff,atL,h1]
theorem c_at:Contract Tryd.prog GG 44 sp_at :=
 contract_of tr_merkle_at (tb_ok all_nil all_nil) (fun a h => w_at a.1 a.2.1 a.2.2 h)
noncomputable def sp_mPad:List D → Option D := spOf (α := Unit) (fun _ => []) (fun _ => True) (fun _ => digD padL)
theorem call_mPad:sp_mPad [] = some (digD padL) :=
 spOf_enc (fun _ _ _ => rfl) () trivial
set_option maxHeartbeats 4000000 in
set_option maxRecDepth 20000 in
theorem w_mPad:@wW GG (tb [(36,sp_tagged)] []) F_merkle_Pad.code (argF []) [] ⟨retQ F_merkle_Pad.res (digD padL)⟩ := by
 unfold F_merkle_Pad
 have c:sp_tagged [.str [112,97,100],.slc 0 [] false] = some (digD padL) := call_tagged [112,97,100] [] (by decide)
 simp (disch := omega) only [push_cast,↓reduceIte,Nat.reduceEqDiff,c]
theorem c_mPad:Contract Tryd.prog GG 14 sp_mPad :=
 contract_of tr_merkle_Pad (tb_ok (all_cons c_tagged all_nil) all_nil) (fun a h => w_mPad )
end Go.Proofs.YtlleccmnjpcogaaDoor.PI
