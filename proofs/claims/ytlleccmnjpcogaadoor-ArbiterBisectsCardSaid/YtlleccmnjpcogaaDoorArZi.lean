/-
  The law: two parties are led to the first index at which they differ, and there the arbiter decides for the true one.
  Conditions: none; these are lemmas.
-/
import Derived.Test.YtlleccmnjpcogaaDoorArX
import Derived.Test.YtlleccmnjpcogaaDoorEngLaw
import Derived.Test.YtlleccmnjpcogaaDoorMkA
import Derived.Test.YtlleccmnjpcogaaDoorEngV2
import Derived.Test.YtlleccmnjpcogaaDoorSha
namespace Go.Proofs.YtlleccmnjpcogaaDoor.PI
open Go
theorem agg_bis (x:Bis):D.agg (bisC x) = bisD x := rfl
theorem zD2_eq:zD2 = d2C yac yac := rfl
attribute [push_cast] agg_bis zD2_eq
set_option linter.unusedSimpArgs false
set_option linter.unusedVariables false
def tyIns:Ty := .agg [.int .i64,.int .i64,.int .i64]
def tyEv:Ty := .agg [.int .i64,.agg (List.replicate 16 (.int .i64))]
theorem has_nI {d:D} (h:Has (.int .i64) d):∃ n:Int,d = nI n := by
 obtain ⟨n,rfl,_⟩ := has_i64 h
 exact ⟨n,rfl⟩
theorem has_ins {d:D} (h:Has tyIns d):∃ x:Ins,d = insD x := by
 obtain ⟨x,y,z,rfl,h1,h2,h3⟩ := has_agg3 h
 obtain ⟨a,rfl,_⟩ := has_i64 h1
 obtain ⟨b,rfl,_⟩ := has_i64 h2
 obtain ⟨c,rfl,_⟩ := has_i64 h3
 exact ⟨⟨a,b,c⟩,rfl⟩
theorem has_code {d:D} (h:Has (.slc tyIns) d):∃ l:List Ins,d = .slc (nz 3 (l.map insD)) (l.map insD) false ∧ l.length ≤ maxLen :=
 has_slc (f := insD) (fun _ => has_ins) h
theorem has_ints16 {d:D} (h:Has (.agg (List.replicate 16 (.int .i64))) d):∃ l:List Int,d = .agg (l.map nI) ∧ l.length = 16 := by
 cases h with
 | agg _ xs h1 h2 =>
  obtain ⟨l,rfl⟩ := lift_map (f := nI) (els := xs) fun x hx => by
   obtain ⟨i,hi⟩ := List.getElem?_of_mem hx
   have hlt:i < 16 := by
    have := (List.getElem?_eq_some_iff.1 hi).1
    rw [← h1,List.length_replicate] at this
    exact this
   exact has_nI (h2 i (.int .i64) x (by rw [List.getElem?_replicate,if_pos hlt]) hi)
  rw [List.length_replicate,List.length_map] at h1
  refine ⟨l,?_,h1.symm⟩
  have:∀ l:List Int,(l.map nI).flatMap D.cells = l.map nI := by
   intro l
   induction l with
   | nil => rfl
   | cons a r ih => simp only [List.map_cons,List.flatMap_cons,ih]; rfl
  rw [this]
theorem has_ev {d:D} (h:Has tyEv d):∃ v:Int × List Int,d = evD v ∧ v.2.length = 16 := by
 obtain ⟨x,y,rfl,h1,h2⟩ := has_agg2 h
 obtain ⟨n,rfl,_⟩ := has_i64 h1
 obtain ⟨l,rfl,hl⟩ := has_ints16 h2
 exact ⟨(n,l),rfl,hl⟩
theorem maxL:maxLen ≤ 9223372036854775807 := by decide
end Go.Proofs.YtlleccmnjpcogaaDoor.PI
namespace Go.Proofs.YtlleccmnjpcogaaDoor.PI
open Go
set_option linter.unusedSimpArgs false
set_option linter.unusedVariables false
theorem step_of_open {c:List Ins} {v:Int × List Int} {s:Sta} {b:Dig} (n:Int) (hl:s.stack.length ≤ 64) (hb:b = digF c v s) (hp:¬ b = padL) :
  stepD c v b (openF s n) = if s.status ≠ 0 then (padL,0) else (closeF c v (stepOF c v (openF s n)),stepOE c (openF s n)) := by
 unfold stepD
 rw [if_neg hp,if_neg (by rw [close_of (openOf s n) hl,hb]; simp)]
 rfl
theorem step_ok {c:List Ins} {v:Int × List Int} {s:Sta} {b:Dig} (n:Int) (hl:s.stack.length ≤ 64) (hb:b = digF c v s) (hp:¬ b = padL) (hs:s.status = 0) (hr:ybv c s 0 = 0) (hk:¬ lackO c (openF s n)) :
  stepD c v b (openF s n) = (digF c v (stepF c v s),0) := by
 obtain ⟨h1,h2⟩ := step_of (v := v) (openOf s n) hl hr hk
 rw [step_of_open n hl hb hp,if_neg (by simp [hs]),h1,h2]
theorem lack_n {c:List Ins} {s:Sta} {n:Int} (h:lackO c (openF s n)):max n 0 < needF (insAt c s).op := by
 obtain ⟨_,h2,h3⟩ := h
 rw [ins_of c (openOf s n)] at h3
 have ht:((openF s n).top.length:Int) = s.stack.length - openK s n := by
  have := openK_le s n
  simp only [openF,List.length_drop]
  omega
 have hd:(openF s n).depth = (openK s n:Int) := rfl
 rw [ht] at h3
 rw [hd] at h2
 unfold openK at h2 h3
 omega
end Go.Proofs.YtlleccmnjpcogaaDoor.PI
namespace Go.Proofs.YtlleccmnjpcogaaDoor.PI
open Go
set_option linter.unusedSimpArgs false
set_option linter.unusedVariables false
def padB (l:List Dig):Bool := l.any fun d => decide (d = padL)
theorem padB_drop (l:List Dig) {i:Nat} (h:i < l.length):padB (l.drop i) = (decide (l.getD i default = padL) || padB (l.drop (i + 1))) := by
 rw [drop_cons l h]; rfl
theorem padB_no {l:List Dig} (h:padB l = false):∀ d ∈ l,¬ d = padL := by
 intro d hd e
 have := List.any_eq_false.1 h d hd
 simp [e] at this
noncomputable def sp_padded39:List D → Option D := spOf (α := List Dig) (fun a => [.slc (nz 32 (a.map digD)) (a.map digD) false]) (fun a => a.length ≤ 4294967296) (fun a => .bool (padB a))
theorem call_padded39 (l:List Dig) (h:l.length ≤ 4294967296):sp_padded39 [.slc (nz 32 (l.map digD)) (l.map digD) false] = some (.bool (padB l)) :=
 yad (fun a b h => by simp only [List.cons.injEq,D.slc.injEq,ydv,and_true] at h; simp [h]) (l) h
set_option maxHeartbeats 4000000 in
set_option maxRecDepth 20000 in
theorem w_padded39 (l:List Dig) (h:l.length ≤ 4294967296):@wW GG (tb [(14,sp_mPad)] []) ybo.code (argF [.slc (nz 32 (l.map digD)) (l.map digD) false]) [] ⟨retQ ybo.res (.bool (padB l))⟩ := by
 have cp := call_mPad
 unfold ybo
 simp (disch:=first|omega|decide) only [push_cast]
 refine yax (fun i:Nat => [(0,.slc (nz 32 (l.map digD)) (l.map digD) false),(3,.int .i64 (i:Int))]) (fun i => []) (fun i => i ≤ l.length ∧ padB l = padB (l.drop i)) (fun i => l.length - i) 0 (by simp only [push_cast,↓reduceIte,Nat.reduceEqDiff,↓Int.reduceNatCast'] <;> rfl) ⟨by omega,rfl⟩ ?_
 rintro i ⟨hi,hb⟩
 unfold ydi
 simp (disch:=first|omega|decide) only [push_cast,↓reduceIte,Nat.reduceEqDiff]
 refine yaf (fun h2 => ?_) (fun h2 => ?_)
 ·have hil:i < l.length := by omega
  rw [padB_drop l hil] at hb
  by_cases q:l.getD i default = padL
  ·simp only [q,decide_true,Bool.true_or] at hb
   rw [hb]
   simp (disch:=first|omega|decide) only [push_cast,↓reduceIte,Nat.reduceEqDiff,ydm,cp,q]
  ·simp only [q,decide_false,Bool.false_or] at hb
   simp (disch:=first|omega|decide) only [push_cast,↓reduceIte,Nat.reduceEqDiff,ydm,cp,q,add_i]
   refine yae (i + 1) (by exact ⟨by omega,hb⟩) (by omega) ?_
   simp only [push_cast] <;> rfl
 ·obtain rfl:i = l.length := by omega
  rw [hb,List.drop_length]
  simp (disch:=first|omega|decide) only [push_cast,↓reduceIte]
  rfl
theorem c_padded39:Contract Tryd.prog GG 19 sp_padded39 :=
 yab tr_wagonpoollaw39_padded (tb_ok (all_cons c_mPad all_nil) all_nil) (fun a h => w_padded39 a h)
theorem RunOK.get {c:List Ins} {v:Int × List Int}:∀ {l:List Sta} {i:Nat} {s:Sta},RunOK c v l → l[i]? = some s → (i + 1 < l.length → s.status = 0 ∧ ybv c s 0 = 0 ∧ l[i + 1]? = some (stepF c v s)) ∧ (i + 1 = l.length → s.status ≠ 0)
 | [],i,s,h,_ => h.elim
 | [x],i,s,h,hi => by
  cases i with
  | zero =>
   obtain rfl := Option.some.inj hi
   exact ⟨fun q => by simp at q,fun _ => h⟩
  | succ i => simp at hi
 | x :: y :: l,i,s,h,hi => by
  obtain ⟨h1,h2,h3,h4⟩ := h
  cases i with
  | zero =>
   obtain rfl := Option.some.inj hi
   exact ⟨fun _ => ⟨h1,h2,by rw [h3]; rfl⟩,fun q => by simp at q⟩
  | succ i =>
   have := RunOK.get h4 (i := i) (s := s) (by simpa using hi)
   refine ⟨fun q => ?_,fun q => this.2 (by simpa using q)⟩
   obtain ⟨a,b,d⟩ := this.1 (by simpa using q)
   exact ⟨a,b,by simpa using d⟩
theorem need_2 (op:Int):needF op ≤ 2 := by
 unfold needF
 split
 ·decide
 ·split <;> decide
theorem next_mine {c:List Ins} {v:Int × List Int} {t:List Sta} (hr:RunOK c v t) (hl:∀ x ∈ t,x.stack.length ≤ 64) {i:Nat} {s:Sta} (hi:t[i]? = some s) (hp:¬ digF c v s = padL) :
  stepD c v (digF c v s) (openF s 2) = (((t.map (digF c v))[i + 1]?).getD padL,0) := by
 have hs := hl s (List.mem_of_getElem? hi)
 obtain ⟨g1,g2⟩ := hr.get hi
 have hlt:i < t.length := (List.getElem?_eq_some_iff.1 hi).1
 rw [List.getElem?_map]
 by_cases q:i + 1 < t.length
 ·obtain ⟨h1,h2,h3⟩ := g1 q
  rw [step_ok 2 hs rfl hp h1 h2 (fun lk => by have := lack_n lk; have := need_2 (insAt c s).op; omega),h3]
  rfl
 ·have h1 := g2 (by omega)
  rw [step_of_open 2 hs rfl hp,if_pos h1,List.getElem?_eq_none (by omega)]
  rfl
theorem trace_len {c:List Ins} {v:Int × List Int} (hv:(yam c).2 = 0):∀ x ∈ traceL c v,x.stack.length ≤ 64 := by
 obtain ⟨D,l,hD,ht,_,_,hg⟩ := trace_ok (v := v) hv
 rw [ht]
 intro x hx
 rcases hg x hx with h | h
 ·exact h.len hD
 ·exact h.l
theorem judge_mine (m o:Dig) (second:Bool):judgeF (if second = true then (o,m) else (m,o)) m = if o = m then 0 else if second = true then 1 else 0 := by
 unfold judgeF
 cases second <;> by_cases h:o = m <;> simp [h]
end Go.Proofs.YtlleccmnjpcogaaDoor.PI
namespace Go.Proofs.YtlleccmnjpcogaaDoor.PI
open Go
set_option linter.unusedSimpArgs false
set_option linter.unusedVariables false
theorem conv_kU (st:St) (k:Int):pconv st (.int .u64) (.int .i64 k) = some (.int .u64 (k % 18446744073709551616)) := (rfl)
theorem rem_uA {a b:Int} (hb:0 < b) (ha:0 ≤ a):pbin .rem (.int .u64 a) (.int .u64 b) = some (.int .u64 (a % b)) := by
 have h3:a.tmod b = a % b := Int.tmod_eq_emod_of_nonneg ha
 simp only [pbin,if_true,yei,show ¬ b = 0 by omega,if_false,Option.map_some,h3]
theorem box_cl0:boxD (.agg (.int .u8 0 :: .int .u8 0 :: .int .u8 0 :: .int .u8 0 :: .int .u8 0 :: .int .u8 0 :: .int .u8 0 :: .int .u8 0 :: .int .u8 0 :: .int .u8 0 :: .int .u8 0 :: .int .u8 0 :: .int .u8 0 :: .int .u8 0 :: .int .u8 0 :: .int .u8 0 :: .int .u8 0 :: .int .u8 0 :: .int .u8 0 :: .int .u8 0 :: .int .u8 0 :: .int .u8 0 :: .int .u8 0 :: .int .u8 0 :: .int .u8 0 :: .int .u8 0 :: .int .u8 0 :: .int .u8 0 :: .int .u8 0 :: .int .u8 0 :: .int .u8 0 :: .int .u8 0 :: digC yac)) = some (digC yac ++ digC yac) := (rfl)
theorem st_clA (a b a' b':Dig):stO (some ⟨false,1,digC a ++ digC b,false⟩) 64 0 (.agg (digC a' ++ digC b')) = some ⟨false,1,digC a' ++ digC b',false⟩ := stO_all 1 _ _ 64 (cl_length (a,b)) (cl_length (a',b')) (cl_cell (a',b'))
theorem ld_clA (lent:Bool) (a b:Dig):ldO (some ⟨false,1,digC a ++ digC b,lent⟩) 64 true 0 = some (.agg (digC a ++ digC b)) := ld_cl lent (a,b)
end Go.Proofs.YtlleccmnjpcogaaDoor.PI
namespace Go.Proofs.YtlleccmnjpcogaaDoor.PI
open Go
set_option linter.unusedSimpArgs false
set_option linter.unusedVariables false
theorem derC_solid (d:Der):(derC (cdD d.code) d.env d.am d.er (lvD d.lv)).all yat = true := der_solid d
theorem renC_der (m:Nat) (σ:List Nat) (d:Der):(derC (cdD d.code) d.env d.am d.er (lvD d.lv)).map (ren m σ) = derC (cdD d.code) d.env d.am d.er (lvD d.lv) := yd5 m σ (derC_solid d)
theorem hkC_der (d:Der):(derC (cdD d.code) d.env d.am d.er (lvD d.lv)).flatMap hk = [] := by
 have h := derC_solid d
 generalize derC (cdD d.code) d.env d.am d.er (lvD d.lv) = l at h
 induction l with
 | nil => rfl
 | cons a l ih =>
  simp only [List.all_cons,Bool.and_eq_true] at h
  rw [List.flatMap_cons,ih h.2,solid_hk (solid1_solid h.1)]; rfl
end Go.Proofs.YtlleccmnjpcogaaDoor.PI
namespace Go.Proofs.YtlleccmnjpcogaaDoor.PI
open Go
set_option linter.unusedSimpArgs false
set_option linter.unusedVariables false
theorem xor_b (x y:UInt8):pbin .xor (byteD x) (byteD y) = some (byteD (x ^^^ y)) := by
 have h:(BitVec.ofInt (IntKind.bits .u8) (x.toNat:Int) ^^^ BitVec.ofInt (IntKind.bits .u8) (y.toNat:Int)).toNat = (x ^^^ y).toNat := by
  show (BitVec.ofInt 8 (x.toNat:Int) ^^^ BitVec.ofInt 8 (y.toNat:Int)).toNat = _
  rw [bv_b,bv_b]; rfl
 have hm:(x ^^^ y).toNat % 2 ^ 8 = (x ^^^ y).toNat := Nat.mod_eq_of_lt (x ^^^ y).toNat_lt
 simp only [pbin,byteD,if_true,ibits,Option.map_some,h,wrap_u8,hm]
def flipD (d:Dig) (p:Nat) (x:UInt8):Dig := ⟨d.bs.set p (d.bs.getD p 0 ^^^ x),by rw [List.length_set]; exact d.len⟩
theorem flip_ne (d:Dig) {p:Nat} (hp:p < 32) {x:UInt8} (hx:x ≠ 0):flipD d p x ≠ d := by
 intro e
 have h1:(flipD d p x).bs.getD p 0 = d.bs.getD p 0 := by rw [e]
 have hl:p < d.bs.length := by rw [d.len]; exact hp
 simp only [flipD,List.getD_eq_getElem?_getD,List.getElem?_set_self hl,Option.getD_some] at h1
 have h2:d.bs.getD p 0 ^^^ (d.bs.getD p 0 ^^^ x) = d.bs.getD p 0 ^^^ d.bs.getD p 0 := by
  rw [List.getD_eq_getElem?_getD,h1]
 rw [← UInt8.xor_assoc,UInt8.xor_self,UInt8.zero_xor] at h2
 exact hx h2
def stRB (o:Option PI.Obj) (tot i p:Nat) (v:UInt8):Option PI.Obj := o.bind fun o => if o.row && !o.lent && o.els.length == tot then (o.els[i]?).bind fun el => (setEl el p [byteD v]).map fun el' => { o with els := o.els.set i el' } else none
theorem pstor_rb (st:St) (key tot i p:Nat) (v:UInt8):pstor st 1 (.rptr key tot i p) (byteD v) = (stRB st[key]? tot i p v).map fun o => st.set key o := by
 have h1:imm st (byteD v) = some (byteD v) := imm_int ..
 have h2:keys (byteD v) = [] := keys_int ..
 simp only [pstor,stRB,h1,h2,List.isEmpty_nil,Bool.and_true]
 cases st[key]? with
 | none => rfl
 | some o =>
  simp only [Option.bind_some]
  split
  ·cases o.els[i]? with
   | none => rfl
   | some el =>
    have hc:(byteD v).cells = [byteD v] := rfl
    rw [hc]
    simp only [Option.bind_some]
    cases setEl el p [byteD v] <;> rfl
  ·rfl
theorem splice_set (l:List UInt8) (p:Nat) (v:UInt8) (h:p < l.length):yaz (l.map byteD) p [byteD v] = (l.set p v).map byteD := by
 rw [yaz,List.set_eq_take_append_cons_drop,if_pos h]
 simp
theorem stRB_row (A:List Dig) (i p:Nat) (v:UInt8) (h:i < A.length) (hp:p < 32):stRB (some ⟨true,32,A.map digD,false⟩) A.length i p v = some ⟨true,32,(A.set i ⟨(A.getD i default).bs.set p v,by rw [List.length_set]; exact Dig.len _⟩).map digD,false⟩ := by
 have hl:p < (A[i]).bs.length := by rw [(A[i]).len]; exact hp
 have e1:A.getD i default = A[i] := by rw [List.getD_eq_getElem?_getD,List.getElem?_eq_getElem h]; rfl
 have h1:setEl (digD A[i]) p [byteD v] = some (digD ⟨A[i].bs.set p v,by rw [List.length_set]; exact Dig.len _⟩) := by
  show (if p + 1 ≤ (digC A[i]).length then some (D.agg (yaz (digC A[i]) p [byteD v])) else none) = _
  rw [if_pos (by rw [yaa]; omega)]
  exact congrArg (fun x => some (D.agg x)) (splice_set _ p v hl)
 simp only [e1]
 simp [stRB,h,h1,List.map_set]
theorem ldR_b (A:List Dig) (lent:Bool) (i p:Nat) (h:i < A.length) (hp:p < 32):ldR (some ⟨true,32,A.map digD,lent⟩) 1 false A.length i p = some (byteD ((A.getD i default).bs.getD p 0)) := by
 have hl:p < (A[i]).bs.length := by rw [(A[i]).len]; exact hp
 have e1:A.getD i default = A[i] := by rw [List.getD_eq_getElem?_getD,List.getElem?_eq_getElem h]; rfl
 have e2:((digC A[i]).drop p).take 1 = [byteD (A[i].bs.getD p 0)] := by
  show ((A[i].bs.map byteD).drop p).take 1 = _
  rw [← List.map_drop,List.drop_eq_getElem_cons hl,List.map_cons,List.take_succ_cons,List.take_zero,List.getD_eq_getElem?_getD,List.getElem?_eq_getElem hl]
  rfl
 rw [e1]
 have h3:(digD A[i]).cells = digC A[i] := rfl
 have h4:p + 1 ≤ (digC A[i]).length := by rw [yaa]; omega
 simp [ldR,h,h3,h4,e2,D.mk]
end Go.Proofs.YtlleccmnjpcogaaDoor.PI
namespace Go.Proofs.YtlleccmnjpcogaaDoor.PI
open Go
set_option linter.unusedSimpArgs false
set_option linter.unusedVariables false
theorem getD_ext {a b:List Dig} (hl:a.length = b.length) (h:∀ j,j < a.length → a.getD j default = b.getD j default):a = b := by
 apply List.ext_getElem hl
 intro j h1 h2
 have := h j h1
 rwa [List.getD_eq_getElem?_getD,List.getD_eq_getElem?_getD,List.getElem?_eq_getElem h1,List.getElem?_eq_getElem h2] at this
theorem atL_nat {l:List Dig} {i:Nat} (h:i < l.length):atL l (i:Int) padL = l.getD i default := by
 unfold atL; rw [if_pos (by omega),Int.toNat_natCast]
end Go.Proofs.YtlleccmnjpcogaaDoor.PI
namespace Go.Proofs.YtlleccmnjpcogaaDoor.PI
open Go
set_option linter.unusedSimpArgs false
set_option linter.unusedVariables false
end Go.Proofs.YtlleccmnjpcogaaDoor.PI
namespace Go.Proofs.YtlleccmnjpcogaaDoor.PI
open Go
set_option linter.unusedSimpArgs false
set_option linter.unusedVariables false
def yd7 (l:List Dig) (level k:Int):Bool := decide ((l.length:Int) ≤ 65536 ∧ 0 ≤ level ∧ level ≤ 16 ∧ 0 ≤ k ∧ k < 2 ^ (16 - level).toNat)
def nodeR (l:List Dig) (level k:Int):Dig := if yd7 l level k then nodeL l level.toNat k else yac
def rootL (l:List Dig):Int × Dig := if (l.length:Int) ≤ 65536 then (l.length,nodeL l (yag l.length).toNat 0) else emptyC
def errL (l:List Dig):Int := if (l.length:Int) ≤ 65536 then 0 else 2
end Go.Proofs.YtlleccmnjpcogaaDoor.PI
namespace Go.Proofs.YtlleccmnjpcogaaDoor.PI
open Go
set_option linter.unusedSimpArgs false
set_option linter.unusedVariables false
def rowH (r:Bool) (key:Nat) (row:List Dig):D := if r then .row key row.length 0 row.length else .slc (nz 32 (row.map digD)) (row.map digD) false
def rowS (r:Bool) (row:List Dig):St := if r then [⟨true,32,row.map digD,false⟩] else []
theorem rowH_f (key:Nat) (row:List Dig):rowH false key row = .slc (nz 32 (row.map digD)) (row.map digD) false := rfl
theorem rowH_t (key:Nat) (row:List Dig):rowH true key row = .row key row.length 0 row.length := rfl
theorem rowS_f (row:List Dig):rowS false row = [] := rfl
theorem rowS_t (row:List Dig):rowS true row = [⟨true,32,row.map digD,false⟩] := rfl
noncomputable def si_node1:List D → St → Option (D × St) := siOf (α := Int × Int × Dig × Dig × List Dig × Bool × Int × Dig)
 (fun ⟨lv,k,d,pz,row,r,j,pad⟩ => ([.int .i64 j,rowH r 4 row,digD pad,.ptr 0 0,.ptr 1 0,.ptr 2 0],[⟨false,1,[.int .i64 lv],false⟩,⟨false,1,[.int .i64 k],false⟩,⟨false,1,digC d,false⟩,⟨false,1,digC pz,false⟩] ++ rowS r row))
 (fun ⟨_,k,_,_,_,_,_,_⟩ => 0 ≤ k)
 (fun ⟨lv,k,d,pz,row,r,j,pad⟩ => (.tup [],[⟨false,1,[.int .i64 lv],false⟩,⟨false,1,[.int .i64 k],false⟩,⟨false,1,digC (if j = lv then atL row k pad else d),false⟩,⟨false,1,digC pz,false⟩] ++ rowS r row))
theorem call_node1f (lv k:Int) (d pz:Dig) (row:List Dig) (j:Int) (pad:Dig) (h:0 ≤ k) :
  si_node1 [.int .i64 j,.slc (nz 32 (row.map digD)) (row.map digD) false,digD pad,.ptr 0 0,.ptr 1 0,.ptr 2 0] [⟨false,1,[.int .i64 lv],false⟩,⟨false,1,[.int .i64 k],false⟩,⟨false,1,digC d,false⟩,⟨false,1,digC pz,false⟩] =
   some (.tup [],[⟨false,1,[.int .i64 lv],false⟩,⟨false,1,[.int .i64 k],false⟩,⟨false,1,digC (if j = lv then atL row k pad else d),false⟩,⟨false,1,digC pz,false⟩]) := by
 refine siOf_enc ?_ (lv,k,d,pz,row,false,j,pad) h rfl
 rintro ⟨lv,k,d,pz,row,r,j,pad⟩ ⟨lv',k',d',pz',row',r',j',pad'⟩ h
 cases r <;> cases r' <;> simp [rowH,rowS,ydv,dig_iff,digC_iff] at h
 all_goals simp [h]
theorem call_node1t (lv k:Int) (d pz:Dig) (row:List Dig) (j:Int) (pad:Dig) (h:0 ≤ k) :
  si_node1 [.int .i64 j,.row 4 row.length 0 row.length,digD pad,.ptr 0 0,.ptr 1 0,.ptr 2 0] [⟨false,1,[.int .i64 lv],false⟩,⟨false,1,[.int .i64 k],false⟩,⟨false,1,digC d,false⟩,⟨false,1,digC pz,false⟩,⟨true,32,row.map digD,false⟩] =
   some (.tup [],[⟨false,1,[.int .i64 lv],false⟩,⟨false,1,[.int .i64 k],false⟩,⟨false,1,digC (if j = lv then atL row k pad else d),false⟩,⟨false,1,digC pz,false⟩,⟨true,32,row.map digD,false⟩]) := by
 refine siOf_enc ?_ (lv,k,d,pz,row,true,j,pad) h rfl
 rintro ⟨lv,k,d,pz,row,r,j,pad⟩ ⟨lv',k',d',pz',row',r',j',pad'⟩ h
 cases r <;> cases r' <;> simp [rowH,rowS,ydv,dig_iff,digC_iff] at h
 all_goals simp [h]
set_option maxHeartbeats 4000000 in
theorem ci_node1:IContract Tryd.prog GG 54 si_node1 := by
 refine icontract_of (T := tb [(44,sp_at)] []) tr_merkle_Node_1 (tb_ok (all_cons c_at all_nil) all_nil) ?_
 rintro ⟨lv,k,d,pz,row,r,j,pad⟩ h
 simp only at h
 unfold F_merkle_Node_1
 cases r
 ·simp only [push_cast,↓reduceIte,Nat.reduceEqDiff,Nat.reduceAdd,rowH_f,rowS_f]
  refine yaf (fun h1 => ?_) (fun h1 => ?_)
  ·simp only [push_cast,↓reduceIte,Nat.reduceEqDiff,Nat.reduceAdd,h1,call_at _ _ _ h,rowS_f]
  ·simp only [push_cast,↓reduceIte,Nat.reduceAdd,h1,rowS_f]
 ·simp only [push_cast,↓reduceIte,Nat.reduceEqDiff,Nat.reduceAdd,rowH_t,rowS_t]
  refine yaf (fun h1 => ?_) (fun h1 => ?_)
  ·simp only [push_cast,↓reduceIte,Nat.reduceEqDiff,Nat.reduceAdd,h1,call_at _ _ _ h,rowS_t]
  ·simp only [push_cast,↓reduceIte,Nat.reduceAdd,h1,rowS_t]
def seenL (l:List Dig) (lv k:Int) (d:Dig) (j:Nat):Dig := if 0 ≤ lv ∧ lv < (j:Int) then nodeL l lv.toNat k else d
theorem seen_step (l:List Dig) (lv k:Int) (d:Dig) (j:Nat):(if (j:Int) = lv then atL (rowN l j) k (padN j) else seenL l lv k d j) = seenL l lv k d (j + 1) := by
 unfold seenL
 by_cases h:(j:Int) = lv
 ·rw [if_pos h,if_pos (by omega)]
  have:lv.toNat = j := by omega
  rw [this]; rfl
 ·rw [if_neg h]
  by_cases h2:0 ≤ lv ∧ lv < (j:Int)
  ·rw [if_pos h2,if_pos (by omega)]
  ·rw [if_neg h2,if_neg (by omega)]
noncomputable def si_levelsN:List D → St → Option (D × St) := siOf (α := List Dig × Int × Int × Int × Dig)
 (fun ⟨l,last,lv,k,d⟩ => ([.slc (nz 32 (l.map digD)) (l.map digD) false,.int .i64 last,.clo 54 [.ptr 0 0,.ptr 1 0,.ptr 2 0]],[⟨false,1,[.int .i64 lv],false⟩,⟨false,1,[.int .i64 k],false⟩,⟨false,1,digC d,false⟩]))
 (fun ⟨l,last,_,k,_⟩ => 0 ≤ k ∧ 0 ≤ last ∧ last ≤ 16 ∧ l.length ≤ 65536)
 (fun ⟨l,last,lv,k,d⟩ => (.tup [],[⟨false,1,[.int .i64 lv],false⟩,⟨false,1,[.int .i64 k],false⟩,⟨false,1,digC (seenL l lv k d (last.toNat + 1)),false⟩]))
theorem call_levelsN (l:List Dig) (last lv k:Int) (d:Dig) (h:0 ≤ k ∧ 0 ≤ last ∧ last ≤ 16 ∧ l.length ≤ 65536) :
  si_levelsN [.slc (nz 32 (l.map digD)) (l.map digD) false,.int .i64 last,.clo 54 [.ptr 0 0,.ptr 1 0,.ptr 2 0]] [⟨false,1,[.int .i64 lv],false⟩,⟨false,1,[.int .i64 k],false⟩,⟨false,1,digC d,false⟩] =
   some (.tup [],[⟨false,1,[.int .i64 lv],false⟩,⟨false,1,[.int .i64 k],false⟩,⟨false,1,digC (seenL l lv k d (last.toNat + 1)),false⟩]) := by
 refine siOf_enc ?_ (l,last,lv,k,d) h rfl
 rintro ⟨l,last,lv,k,d⟩ ⟨l',last',lv',k',d'⟩ h
 simp [ydv,digC_iff] at h
 simp [h]
set_option maxHeartbeats 8000000 in
set_option maxRecDepth 20000 in
theorem ci_levelsN:IContract Tryd.prog GG 53 si_levelsN := by
 refine icontract_of (T := tb [(14,sp_mPad),(44,sp_at),(57,sp_mParent)] [(54,si_node1)]) tr_merkle_levels
  (tb_ok (all_cons c_mPad (all_cons c_at (all_cons c_mParent all_nil))) (all_cons ci_node1 all_nil)) ?_
 rintro ⟨l,last,lv,k,d⟩ ⟨hk,hl0,hl1,hll⟩
 unfold F_merkle_levels
 have hs0:seenL l lv k d 0 = d := by unfold seenL; rw [if_neg (by omega)]
 simp (disch := omega) only [push_cast,↓reduceIte,Nat.reduceEqDiff,Nat.reduceAdd,call_mPad,add_i]
 refine yax (fun j:Nat => [(2,.clo 54 [.ptr 0 0,.ptr 1 0,.ptr 2 0]),(6,rowH (decide (0 < j)) 4 (rowN l j)),(7,.ptr 3 0),(14,.int .i64 (last + 1)),(15,.int .i64 (j:Int))])
  (fun j => [⟨false,1,[.int .i64 lv],false⟩,⟨false,1,[.int .i64 k],false⟩,⟨false,1,digC (seenL l lv k d j),false⟩,⟨false,1,digC (padN j),false⟩] ++ rowS (decide (0 < j)) (rowN l j))
  (fun j => (j:Int) ≤ last + 1) (fun j => (last + 1).toNat - j) 0 (by rw [hs0]; simp only [push_cast,↓reduceIte,Nat.reduceEqDiff,Nat.reduceLT,Nat.reduceLeDiff,Nat.reduceAdd,↓Int.reduceNatCast'] <;> rfl) (by omega) ?_
 intro j hj
 have hr := rowN_length l j
 have hul := upL_length (padN j) (rowN l j)
 have hn:rowN l (j + 1) = upL (padN j) (rowN l j) := rfl
 have hp:padN (j + 1) = ybx (padN j) (padN j) := rfl
 have hst := seen_step l lv k d j
 unfold F_merkle_levels_L1
 by_cases h1:(j:Int) < last + 1
 ·by_cases hz:j = 0
  ·subst hz
   have hj0:decide (0 < 0) = false := rfl
   have h1':(0:Int) < last + 1 := by omega
   have e0:rowN l 0 = l := rfl
   have e1:padN 0 = padL := rfl
   have hst':(if (0:Int) = lv then atL l k padL else d) = seenL l lv k d 1 := by rw [← hst,hs0]; rfl
   rw [e0] at hr hul hn
   rw [e1] at hul hn hp
   rw [e0,e1,hs0]
   simp (disch := omega) only [push_cast,↓reduceIte,Nat.reduceEqDiff,Nat.reduceAdd,↓Int.reduceNatCast',rowH_f,rowS_f,h1',hst',call_node1f,mk0_dig,add_i,quo_i]
   refine yax (fun i:Nat => [(2,.clo 54 [.ptr 0 0,.ptr 1 0,.ptr 2 0]),(6,.slc (nz 32 (l.map digD)) (l.map digD) false),(7,.ptr 3 0),(9,.row 4 ((upL padL l).take i).length 0 ((upL padL l).take i).length),(10,.int .i64 (2 * (i:Int))),(14,.int .i64 (last + 1)),(15,.int .i64 0)])
    (fun i => [⟨false,1,[.int .i64 lv],false⟩,⟨false,1,[.int .i64 k],false⟩,⟨false,1,digC (seenL l lv k d 1),false⟩,⟨false,1,digC padL,false⟩,⟨true,32,((upL padL l).take i).map digD,false⟩]) (fun i => 2 * i ≤ l.length + 1) (fun i => l.length + 1 - i) 0 (by simp only [push_cast,↓reduceIte,Nat.reduceEqDiff,Nat.reduceLT,Nat.reduceLeDiff,Nat.reduceAdd,Int.reduceMul,↓Int.reduceNatCast'] <;> rfl) (by omega) ?_
   intro i hi
   unfold yeq
   have f0:(2 * (i:Int)).toNat = 2 * i := by omega
   have f1:(2 * (i:Int) + 2) = 2 * ((i + 1:Nat):Int) := by omega
   by_cases h2:2 * (i:Int) < (l.length:Int)
   ·have e := upL_take padL l i (by omega)
    have hl:((upL padL l).take i).length ≤ 65536 := by rw [List.length_take]; omega
    simp (disch := omega) only [push_cast,↓reduceIte,Nat.reduceEqDiff,Nat.reduceLT,Nat.reduceLeDiff,Nat.reduceAdd,h2,ydm,add_i,call_at,yaw,f0]
    refine yae (i + 1) (by omega) (by omega) ?_
    rw [e,← f1]
   ·have e:(upL padL l).take i = upL padL l := List.take_of_length_le (by omega)
    simp (disch := omega) only [push_cast,↓reduceIte,Nat.reduceEqDiff,Nat.reduceLT,Nat.reduceLeDiff,Nat.reduceAdd,Nat.reduceBEq,Int.reduceAdd,h2,e,yaw,add_i]
    refine yae 1 (by omega) (by omega) ?_
    rfl
  ·have hj0:decide (0 < j) = true := by simp; omega
   have hj1:decide (0 < j + 1) = true := by simp
   generalize rowN l j = R at hr hul hn hst
   generalize padN j = pj at hul hn hp hst
   simp (disch := omega) only [push_cast,↓reduceIte,Nat.reduceEqDiff,Nat.reduceAdd,hj0,rowH_t,rowS_t,h1,hst,call_node1t,mk0_dig,add_i,quo_i]
   refine yax (fun i:Nat => [(2,.clo 54 [.ptr 0 0,.ptr 1 0,.ptr 2 0]),(6,.row 4 R.length 0 R.length),(7,.ptr 3 0),(9,.row 5 ((upL pj R).take i).length 0 ((upL pj R).take i).length),(10,.int .i64 (2 * (i:Int))),(14,.int .i64 (last + 1)),(15,.int .i64 j)])
    (fun i => [⟨false,1,[.int .i64 lv],false⟩,⟨false,1,[.int .i64 k],false⟩,⟨false,1,digC (seenL l lv k d (j + 1)),false⟩,⟨false,1,digC pj,false⟩,⟨true,32,R.map digD,false⟩,⟨true,32,((upL pj R).take i).map digD,false⟩]) (fun i => 2 * i ≤ R.length + 1) (fun i => R.length + 1 - i) 0 (by simp only [push_cast,↓reduceIte,Nat.reduceEqDiff,Nat.reduceLT,Nat.reduceLeDiff,Nat.reduceAdd,Int.reduceMul,↓Int.reduceNatCast'] <;> rfl) (by omega) ?_
   intro i hi
   unfold yeq
   have f0:(2 * (i:Int)).toNat = 2 * i := by omega
   have f1:(2 * (i:Int) + 2) = 2 * ((i + 1:Nat):Int) := by omega
   by_cases h2:2 * (i:Int) < (R.length:Int)
   ·have e := upL_take pj R i (by omega)
    have hl:((upL pj R).take i).length ≤ 65536 := by rw [List.length_take]; omega
    simp (disch := omega) only [push_cast,↓reduceIte,Nat.reduceEqDiff,Nat.reduceLT,Nat.reduceLeDiff,Nat.reduceAdd,h2,add_i,call_at,yaw,f0]
    refine yae (i + 1) (by omega) (by omega) ?_
    rw [e,← f1]
   ·have e:(upL pj R).take i = upL pj R := List.take_of_length_le (by omega)
    simp (disch := omega) only [push_cast,↓reduceIte,Nat.reduceEqDiff,Nat.reduceLT,Nat.reduceLeDiff,Nat.reduceAdd,Nat.reduceBEq,h2,e,yaw,add_i]
    refine yae (j + 1) (by omega) (by omega) ?_
    rw [hn,hp,hj1]
    rfl
 ·have hj2:last.toNat + 1 = j := by omega
  have hj0:decide (0 < j) = true := by simp; omega
  simp (disch := omega) only [push_cast,↓reduceIte,Nat.reduceEqDiff,Nat.reduceAdd,h1,hj0,rowH_t,rowS_t,hj2]
end Go.Proofs.YtlleccmnjpcogaaDoor.PI
namespace Go.Proofs.YtlleccmnjpcogaaDoor.PI
open Go
set_option linter.unusedSimpArgs false
set_option linter.unusedVariables false
noncomputable def sp_mNode:List D → Option D := spOf (α := List Dig × Int × Int) (fun a => [.slc (nz 32 (a.1.map digD)) (a.1.map digD) false,.int .i64 a.2.1,.int .i64 a.2.2]) (fun a => True) (fun a => .tup [digD (nodeR a.1 a.2.1 a.2.2),.bool (yd7 a.1 a.2.1 a.2.2)])
theorem call_mNode (l:List Dig) (level:Int) (k:Int):sp_mNode [.slc (nz 32 (l.map digD)) (l.map digD) false,.int .i64 level,.int .i64 k] = some (.tup [digD (nodeR l level k),.bool (yd7 l level k)]) :=
 yad (fun ⟨a0,a1,a2⟩ ⟨b0,b1,b2⟩ h => by simp only [List.cons.injEq,D.slc.injEq,D.int.injEq,ydv,true_and,and_true] at h; simp [h]) (l,level,k) trivial
set_option maxHeartbeats 4000000 in
set_option maxRecDepth 20000 in
theorem w_mNode (l:List Dig) (level:Int) (k:Int):@wW GG (tb [] [(53,si_levelsN)]) F_merkle_Node.code (argF [.slc (nz 32 (l.map digD)) (l.map digD) false,.int .i64 level,.int .i64 k]) [] ⟨retQ F_merkle_Node.res (.tup [digD (nodeR l level k),.bool (yd7 l level k)])⟩ := by
 unfold F_merkle_Node
 simp (disch := omega) only [push_cast,↓reduceIte,Nat.reduceEqDiff,Nat.reduceAdd]
 have bad:yd7 l level k = false → nodeR l level k = yac := by intro h; unfold nodeR; simp [h]
 refine yaf (fun h1 => ?_) (fun h1 => ?_)
 ·have e:yd7 l level k = false := by unfold yd7; simp; omega
  simp (disch := omega) only [push_cast,↓reduceIte,Nat.reduceEqDiff,h1,e,bad e]
 ·simp (disch := omega) only [push_cast,↓reduceIte,Nat.reduceEqDiff,h1]
  refine yaf (fun h2 => ?_) (fun h2 => ?_)
  ·have e:yd7 l level k = false := by unfold yd7; simp; omega
   simp (disch := omega) only [push_cast,↓reduceIte,Nat.reduceEqDiff,h2,e,bad e]
  ·simp (disch := omega) only [push_cast,↓reduceIte,Nat.reduceEqDiff,h2]
   refine yaf (fun h3 => ?_) (fun h3 => ?_)
   ·have e:yd7 l level k = false := by unfold yd7; simp; omega
    simp (disch := omega) only [push_cast,↓reduceIte,Nat.reduceEqDiff,h3,e,bad e]
   ·simp (disch := omega) only [push_cast,↓reduceIte,Nat.reduceEqDiff,h3]
    refine yaf (fun h4 => ?_) (fun h4 => ?_)
    ·have e:yd7 l level k = false := by unfold yd7; simp; omega
     simp (disch := omega) only [push_cast,↓reduceIte,Nat.reduceEqDiff,h4,e,bad e]
    ·simp (disch := omega) only [push_cast,↓reduceIte,Nat.reduceEqDiff,h4,sub_i,shl_one]
     refine yaf (fun h5 => ?_) (fun h5 => ?_)
     ·have e:yd7 l level k = false := by unfold yd7; simp; omega
      simp (disch := omega) only [push_cast,↓reduceIte,Nat.reduceEqDiff,h5,e,bad e]
     ·have e:yd7 l level k = true := by unfold yd7; simp; omega
      have e2:nodeR l level k = nodeL l level.toNat k := by unfold nodeR; simp [e]
      have e3:seenL l level k yac (level.toNat + 1) = nodeL l level.toNat k := by unfold seenL; rw [if_pos (by omega)]
      have hc := call_levelsN l level level k yac ⟨by omega,by omega,by omega,by omega⟩
      rw [e3] at hc
      simp (disch := omega) only [push_cast,↓reduceIte,Nat.reduceEqDiff,h5,e,e2,hc]
theorem c_mNode:Contract Tryd.prog GG 28 sp_mNode :=
 yab (T := tb [] [(53,si_levelsN)]) tr_merkle_Node (tb_ok all_nil (all_cons ci_levelsN all_nil)) (fun a h => w_mNode a.1 a.2.1 a.2.2)
noncomputable def sp_mRoot:List D → Option D := spOf (α := List Dig) (fun a => [.slc (nz 32 (a.map digD)) (a.map digD) false]) (fun a => True) (fun a => .tup [.agg (.int .i64 (rootL a).1 :: digC (rootL a).2),.int .i64 (errL a)])
theorem call_mRoot (l:List Dig):sp_mRoot [.slc (nz 32 (l.map digD)) (l.map digD) false] = some (.tup [.agg (.int .i64 (rootL l).1 :: digC (rootL l).2),.int .i64 (errL l)]) :=
 yad (fun a b h => by simp only [List.cons.injEq,D.slc.injEq,ydv,and_true] at h; simp [h]) (l) trivial
set_option maxHeartbeats 4000000 in
set_option maxRecDepth 20000 in
theorem w_mRoot (l:List Dig):@wW GG (tb [(13,ydq),(28,sp_mNode)] []) F_merkle_Root.code (argF [.slc (nz 32 (l.map digD)) (l.map digD) false]) [] ⟨retQ F_merkle_Root.res (.tup [.agg (.int .i64 (rootL l).1 :: digC (rootL l).2),.int .i64 (errL l)])⟩ := by
 unfold F_merkle_Root
 simp (disch := omega) only [push_cast,↓reduceIte,Nat.reduceEqDiff]
 refine yaf (fun h1 => ?_) (fun h1 => ?_)
 ·have e:rootL l = emptyC := by unfold rootL; rw [if_neg (by omega)]
  have e2:errL l = 2 := by unfold errL; rw [if_neg (by omega)]
  simp (disch := omega) only [push_cast,↓reduceIte,Nat.reduceEqDiff,h1,e,e2,emptyC]
 ·have e:rootL l = ((l.length:Int),nodeL l (yag l.length).toNat 0) := by unfold rootL; rw [if_pos (by omega)]
  have e2:errL l = 0 := by unfold errL; rw [if_pos (by omega)]
  obtain ⟨d1,d2,d3⟩ := yds (n := l.length) (by omega) (by omega)
  have hp := pow_pos2 (16 - yag l.length).toNat
  have e3:yd7 l (yag l.length) 0 = true := by unfold yd7; simp; omega
  have e4:nodeR l (yag l.length) 0 = nodeL l (yag l.length).toNat 0 := by unfold nodeR; simp [e3]
  simp (disch := omega) only [push_cast,↓reduceIte,Nat.reduceEqDiff,h1,e,e2,e3,e4,yc7,call_mNode]
theorem c_mRoot:Contract Tryd.prog GG 29 sp_mRoot :=
 yab tr_merkle_Root (tb_ok (all_cons c_mDepth (all_cons c_mNode all_nil)) all_nil) (fun a h => w_mRoot a)
end Go.Proofs.YtlleccmnjpcogaaDoor.PI
namespace Go.Proofs.YtlleccmnjpcogaaDoor.PI
open Go
theorem node_succ (l:List Dig) (n:Nat) (k:Int) (hk:0 ≤ k):nodeL l (n + 1) k = ybx (nodeL l n (2 * k)) (nodeL l n (2 * k + 1)) := by
 unfold nodeL
 show atL (upL (padN n) (rowN l n)) k (padN (n + 1)) = _
 have hl := upL_length (padN n) (rowN l n)
 unfold atL
 by_cases h:k < ((upL (padN n) (rowN l n)).length:Int)
 ·rw [if_pos h,upL_get (padN n) (rowN l n) k.toNat (by omega),if_pos (show 2 * k < ((rowN l n).length:Int) by omega)]
  unfold atL
  rw [show (2 * k).toNat = 2 * k.toNat by omega,show 2 * (k.toNat:Int) + 1 = 2 * k + 1 by omega]
 ·rw [if_neg h,if_neg (show ¬ 2 * k < ((rowN l n).length:Int) by omega),if_neg (show ¬ 2 * k + 1 < ((rowN l n).length:Int) by omega)]
  rfl
theorem div_succ (j:Int) (n:Nat):j / 2 ^ (n + 1) = j / 2 ^ n / 2 := by
 have := pow_pos2 n
 rw [Int.ediv_ediv_of_nonneg (by omega),Int.pow_succ]
theorem node_congr (a b:List Dig):∀ (n:Nat) (k:Int),0 ≤ k → (∀ j:Int,0 ≤ j → j / 2 ^ n = k → atL a j padL = atL b j padL) → nodeL a n k = nodeL b n k
 | 0,k,hk,h => h k hk (by simp)
 | n + 1,k,hk,h => by
  rw [node_succ a n k hk,node_succ b n k hk,node_congr a b n (2 * k) (by omega),node_congr a b n (2 * k + 1) (by omega)]
  ·intro j hj e
   exact h j hj (by rw [div_succ,e]; omega)
  ·intro j hj e
   exact h j hj (by rw [div_succ,e]; omega)
theorem at_end (l:List Dig) (k:Int) (pad:Dig) (h:(l.length:Int) ≤ k):atL l k pad = pad := by
 unfold atL; rw [if_neg (by omega)]
end Go.Proofs.YtlleccmnjpcogaaDoor.PI
namespace Go.Proofs.YtlleccmnjpcogaaDoor.PI
open Go
set_option linter.unusedSimpArgs false
set_option linter.unusedVariables false
def ycg (x:Bis):Bool := if x.h < 0 then false else if 16 < x.h then false else if x.l < 0 then false else if x.h < x.l then false else if 0 ≤ x.i then (if x.i < 2 ^ (x.h - x.l).toNat then decide (x.r = x.h - x.l) else false) else false
theorem bvalid_spec {x:Bis} (h:ycg x = true):0 ≤ x.h ∧ x.h ≤ 16 ∧ 0 ≤ x.l ∧ x.l ≤ x.h ∧ 0 ≤ x.i ∧ x.i < 2 ^ (x.h - x.l).toNat ∧ x.r = x.h - x.l := by
 unfold ycg at h
 split at h; · cases h
 split at h; · cases h
 split at h; · cases h
 split at h; · cases h
 split at h
 ·split at h
  ·exact ⟨by omega,by omega,by omega,by omega,by assumption,by assumption,of_decide_eq_true h⟩
  ·cases h
 ·cases h
theorem bvalid_of {x:Bis} (h1:0 ≤ x.h) (h2:x.h ≤ 16) (h3:0 ≤ x.l) (h4:x.l ≤ x.h) (h5:0 ≤ x.i) (h6:x.i < 2 ^ (x.h - x.l).toNat) (h7:x.r = x.h - x.l):ycg x = true := by
 unfold ycg
 rw [if_neg (by omega),if_neg (by omega),if_neg (by omega),if_neg (by omega),if_pos h5,if_pos h6]
 exact decide_eq_true h7
theorem div_zero_iff {i:Int} {k:Nat} (h0:0 ≤ i):i / 2 ^ k = 0 ↔ i < 2 ^ k := by
 have hp:(0:Int) < 2 ^ k := Int.pow_pos (by decide)
 constructor
 ·intro h
  have := Int.emod_lt_of_pos i hp
  have e := Int.ediv_mul_add_emod i (2 ^ k)
  rw [h] at e
  omega
 ·intro h
  exact Int.ediv_eq_zero_of_lt h0 h
noncomputable def sp_bvalid:List D → Option D := spOf (α := Bis) (fun a => [bisD a]) (fun a => True) (fun a => .bool (ycg a))
theorem call_bvalid (x:Bis):sp_bvalid [bisD x] = some (.bool (ycg x)) :=
 yad (fun a b h => by simp only [List.cons.injEq,and_true,bisD_iff] at h; simp [h]) (x) trivial
set_option maxHeartbeats 4000000 in
set_option maxRecDepth 20000 in
theorem w_bvalid (x:Bis):@wW GG (tb [] []) F_bisect_valid.code (argF [bisD x]) [] ⟨retQ F_bisect_valid.res (.bool (ycg x))⟩ := by
 unfold F_bisect_valid ycg
 by_cases h1:x.h < 0
 ·simp (disch:=first|omega|decide) only [push_cast,↓reduceIte,Nat.reduceEqDiff,h1]
 by_cases h2:16 < x.h
 ·simp (disch:=first|omega|decide) only [push_cast,↓reduceIte,Nat.reduceEqDiff,h1,h2]
 by_cases h3:x.l < 0
 ·simp (disch:=first|omega|decide) only [push_cast,↓reduceIte,Nat.reduceEqDiff,h1,h2,h3]
 by_cases h4:x.h < x.l
 ·simp (disch:=first|omega|decide) only [push_cast,↓reduceIte,Nat.reduceEqDiff,h1,h2,h3,h4]
 by_cases h5:0 ≤ x.i
 ·have e := div_zero_iff (k := (x.h - x.l).toNat) h5
  by_cases h6:x.i < 2 ^ (x.h - x.l).toNat
  ·simp (disch:=first|omega|decide) only [push_cast,↓reduceIte,Nat.reduceEqDiff,h1,h2,h3,h4,h5,h6,sub_i,shr_s,e]
  ·simp (disch:=first|omega|decide) only [push_cast,↓reduceIte,Nat.reduceEqDiff,h1,h2,h3,h4,h5,h6,sub_i,shr_s,e]
 ·simp (disch:=first|omega|decide) only [push_cast,↓reduceIte,Nat.reduceEqDiff,h1,h2,h3,h4,h5]
theorem c_bvalid:Contract Tryd.prog GG 56 sp_bvalid :=
 yab tr_bisect_valid (tb_ok all_nil all_nil) (fun a h => w_bvalid a)
def padF (s:Int) (root:Dig):Nat → Dig
 | 0 => root
 | j + 1 => if yag s ≤ (j:Int) then ybx (padF s root j) (padN j) else padF s root j
theorem padF_low (s:Int) (root:Dig):∀ j:Nat,(j:Int) ≤ yag s → padF s root j = root
 | 0,_ => rfl
 | j + 1,h => by
  rw [padF,if_neg (by omega)]
  exact padF_low s root j (by omega)
noncomputable def sp_bpadded:List D → Option D := spOf (α := (Int × Dig) × Int) (fun a => [.agg (.int .i64 (Prod.fst a.1) :: digC (Prod.snd a.1)),.int .i64 a.2]) (fun a => 0 ≤ a.2 ∧ a.2 ≤ 60) (fun a => digD (padF a.1.1 a.1.2 a.2.toNat))
theorem call_bpadded (c:Int × Dig) (n:Int) (h:0 ≤ n ∧ n ≤ 60):sp_bpadded [.agg (.int .i64 (Prod.fst c) :: digC (Prod.snd c)),.int .i64 n] = some (digD (padF c.1 c.2 n.toNat)) :=
 yad (fun ⟨a0,a1⟩ ⟨b0,b1⟩ h => by simp only [List.cons.injEq,D.int.injEq,D.agg.injEq,digC_iff,true_and,and_true] at h; simp [h,Prod.ext_iff]) (c,n) h
set_option maxHeartbeats 4000000 in
set_option maxRecDepth 20000 in
theorem w_bpadded (c:Int × Dig) (n:Int) (h:0 ≤ n ∧ n ≤ 60):@wW GG (tb [(14,sp_mPad),(57,sp_mParent),(13,ydq)] []) yew.code (argF [.agg (.int .i64 (Prod.fst c) :: digC (Prod.snd c)),.int .i64 n]) [] ⟨retQ yew.res (digD (padF c.1 c.2 n.toNat))⟩ := by
 obtain ⟨s,root⟩ := c
 obtain ⟨h0,h1⟩ := h
 dsimp only
 unfold yew
 simp (disch := omega) only [push_cast,↓yb4,↓reduceIte,Nat.reduceEqDiff,Nat.reduceLT,Nat.reduceAdd,call_mPad,box_commit,ldO_succ]
 refine yax (fun i:Nat => [(2,.ptr 0 0),(4,.ptr 1 0),(5,.ptr 2 0),(6,.ptr 3 0),(11,.int .i64 n),(12,.int .i64 (i:Int))]) (fun i => [⟨false,1,.int .i64 s :: digC root,false⟩,⟨false,1,digC yac,false⟩,⟨false,1,digC (padF s root i),false⟩,⟨false,1,digC (padN i),false⟩]) (fun i => (i:Int) ≤ n) (fun i => (n - i).toNat) 0 (by simp only [push_cast,↓reduceIte,Nat.reduceEqDiff,Nat.reduceLT,Nat.reduceLeDiff,Nat.reduceAdd,↓Int.reduceNatCast'] <;> rfl) (by omega) ?_
 intro i hi
 unfold F_bisect_padded_L0
 simp (disch := omega) only [push_cast,↓reduceIte,Nat.reduceEqDiff]
 refine yaf (fun h2 => ?_) (fun h2 => ?_)
 ·simp (disch:=first|omega|decide) only [push_cast,↓reduceIte,Nat.reduceEqDiff,yc7,ldO_one,h2]
  refine yaf (fun h3 => ?_) (fun h3 => ?_)
  ·simp (disch:=first|omega|decide) only [push_cast,↓reduceIte,Nat.reduceEqDiff,Nat.reduceLT,Nat.reduceLeDiff,Nat.reduceAdd,yaw,add_i,h3]
   refine yae (i + 1) (by omega) (by omega) ?_
   rw [show padF s root (i + 1) = ybx (padF s root i) (padN i) from if_pos h3]
   simp only [push_cast] <;> rfl
  ·simp (disch:=first|omega|decide) only [push_cast,↓reduceIte,Nat.reduceEqDiff,Nat.reduceLT,Nat.reduceLeDiff,Nat.reduceAdd,yaw,add_i,h3]
   refine yae (i + 1) (by omega) (by omega) ?_
   rw [show padF s root (i + 1) = padF s root i from if_neg h3]
   simp only [push_cast] <;> rfl
 ·have e:n.toNat = i := by omega
  rw [e]
  simp (disch := omega) only [push_cast,↓reduceIte,Nat.reduceEqDiff,Nat.reduceAdd,h2]
theorem c_bpadded:Contract Tryd.prog GG 55 sp_bpadded :=
 yab tr_bisect_padded (tb_ok (all_cons c_mPad (all_cons c_mParent (all_cons c_mDepth all_nil))) all_nil) (fun a h => w_bpadded a.1 a.2 h)
end Go.Proofs.YtlleccmnjpcogaaDoor.PI
namespace Go.Proofs.YtlleccmnjpcogaaDoor.PI
open Go
set_option linter.unusedSimpArgs false
set_option linter.unusedVariables false
theorem yeh (st:St) (n sz key off:Nat) (k:IntKind) (i:Int) (h0:0 ≤ i) (h1:i < (n:Int)):pidxA st n sz (.ptr key off) (.int k i) = some (.ptr key (off + i.toNat * sz)) := by
 simp only [pidxA,natOf_int k i h0,pfld]
 rw [if_pos (by omega)]
def beginH (a b:Int × Dig):Bis := ⟨max (yag a.1) (yag b.1),max (yag a.1) (yag b.1),0,padF a.1 a.2 (max (yag a.1) (yag b.1)).toNat,padF b.1 b.2 (max (yag a.1) (yag b.1)).toNat,false,false,yac,yac,yac,yac,0⟩
def beginL (a b:Int × Dig):Bis := if yag a.1 < 0 then ybj else if yag b.1 < 0 then ybj else if (beginH a b).n0 = (beginH a b).n1 then ybj else beginH a b
def beginE (a b:Int × Dig):Int := if yag a.1 < 0 then 1 else if yag b.1 < 0 then 1 else if (beginH a b).n0 = (beginH a b).n1 then 380 else 0
theorem depthL_range (n:Int):-1 ≤ yag n ∧ yag n ≤ 16 := by
 by_cases h:n < 0 ∨ 65536 < n
 ·rw [depthL_bad h]; omega
 ·have := yds (n := n) (by omega) (by omega)
  omega
noncomputable def sp_bBegin:List D → Option D := spOf (α := (Int × Dig) × (Int × Dig)) (fun a => [.agg (.int .i64 (Prod.fst a.1) :: digC (Prod.snd a.1)),.agg (.int .i64 (Prod.fst a.2) :: digC (Prod.snd a.2))]) (fun a => True) (fun a => .tup [bisD (beginL a.1 a.2),.int .i64 (beginE a.1 a.2)])
theorem call_bBegin (a:Int × Dig) (b:Int × Dig):sp_bBegin [.agg (.int .i64 (Prod.fst a) :: digC (Prod.snd a)),.agg (.int .i64 (Prod.fst b) :: digC (Prod.snd b))] = some (.tup [bisD (beginL a b),.int .i64 (beginE a b)]) :=
 yad (fun ⟨a0,a1⟩ ⟨b0,b1⟩ h => by simp only [List.cons.injEq,D.int.injEq,D.agg.injEq,digC_iff,true_and,and_true] at h; simp [h,Prod.ext_iff]) (a,b) trivial
set_option maxHeartbeats 4000000 in
set_option maxRecDepth 20000 in
theorem w_bBegin (a:Int × Dig) (b:Int × Dig):@wW GG (tb [(13,ydq),(55,sp_bpadded)] []) F_bisect_Begin.code (argF [.agg (.int .i64 (Prod.fst a) :: digC (Prod.snd a)),.agg (.int .i64 (Prod.fst b) :: digC (Prod.snd b))]) [] ⟨retQ F_bisect_Begin.res (.tup [bisD (beginL a b),.int .i64 (beginE a b)])⟩ := by
 obtain ⟨s1,r1⟩ := a
 obtain ⟨s2,r2⟩ := b
 have d1 := depthL_range s1
 have d2 := depthL_range s2
 unfold F_bisect_Begin beginL beginE
 dsimp only
 by_cases h1:yag s1 < 0
 ·simp (disch:=first|omega|decide) only [push_cast,↓reduceIte,Nat.reduceEqDiff,Nat.reduceAdd,box_commit,ldO_one,yc7,h1]
 by_cases h2:yag s2 < 0
 ·simp (disch:=first|omega|decide) only [push_cast,↓reduceIte,Nat.reduceEqDiff,Nat.reduceAdd,box_commit,ldO_one,yc7,h1,h2]
 have c1 := call_bpadded (s1,r1) (max (yag s1) (yag s2)) ⟨by omega,by omega⟩
 have c2 := call_bpadded (s2,r2) (max (yag s1) (yag s2)) ⟨by omega,by omega⟩
 dsimp only at c1 c2
 have e1:(beginH (s1,r1) (s2,r2)).n0 = padF s1 r1 (max (yag s1) (yag s2)).toNat := rfl
 have e2:(beginH (s1,r1) (s2,r2)).n1 = padF s2 r2 (max (yag s1) (yag s2)).toNat := rfl
 have e3:beginH (s1,r1) (s2,r2) = { ybj with h := max (yag s1) (yag s2),l := max (yag s1) (yag s2),n0 := padF s1 r1 (max (yag s1) (yag s2)).toNat,n1 := padF s2 r2 (max (yag s1) (yag s2)).toNat } := rfl
 rw [e1,e2,e3]
 generalize padF s1 r1 (max (yag s1) (yag s2)).toNat = p1 at *
 generalize padF s2 r2 (max (yag s1) (yag s2)).toNat = p2 at *
 by_cases h3:p1 = p2
 ·simp (disch:=first|omega|decide) only [push_cast,↓reduceIte,Nat.reduceEqDiff,Nat.reduceAdd,Nat.reduceMul,box_commit,ldO_one,ldO_commit,yc7,h1,h2,c1,c2,h3,fill_nil,yeh]
 ·simp (disch:=first|omega|decide) only [push_cast,↓reduceIte,Nat.reduceEqDiff,Nat.reduceAdd,Nat.reduceMul,box_commit,ldO_one,ldO_commit,yc7,h1,h2,c1,c2,h3,fill_nil,yeh]
theorem c_bBegin:Contract Tryd.prog GG 30 sp_bBegin :=
 yab tr_bisect_Begin (tb_ok (all_cons c_mDepth (all_cons c_bpadded all_nil)) all_nil) (fun a h => w_bBegin a.1 a.2)
def toldB (x:Bis) (p:Int):Bool := if p = 0 then x.t0 else x.t1
def nodeB (x:Bis) (p:Int):Dig := if p = 0 then x.n0 else x.n1
def setB (x:Bis) (p:Int) (l r:Dig):Bis := if p = 0 then { x with t0 := true,l0 := l,r0 := r } else { x with t1 := true,l1 := l,r1 := r }
def stepB (x:Bis):Bis := if x.l0 = x.l1 then { ybj with h := x.h,l := x.l - 1,i := 2 * x.i + 1,n0 := x.r0,n1 := x.r1,r := x.r + 1 } else { ybj with h := x.h,l := x.l - 1,i := 2 * x.i,n0 := x.l0,n1 := x.l1,r := x.r + 1 }
def discL (x:Bis) (p:Int) (l r:Dig):Bis := if ycg x = true ∧ (p = 0 ∨ p = 1) then (if x.l = 0 ∨ toldB x p = true then ybj else if ybx l r = nodeB x p then (if toldB x (1 - p) = true then stepB (setB x p l r) else setB x p l r) else ybj) else ybj
def discE (x:Bis) (p:Int) (l r:Dig):Int := if ycg x = true ∧ (p = 0 ∨ p = 1) then (if x.l = 0 ∨ toldB x p = true then 380 else if ybx l r = nodeB x p then 0 else 381) else 1
theorem i_bound {x:Bis} (h:ycg x = true):x.i < 65536 := by
 obtain ⟨a,b,c,d,e,f,g⟩ := bvalid_spec h
 have := pow_mono (a := (x.h - x.l).toNat) (b := 16) (by omega)
 omega
noncomputable def sp_bDisc:List D → Option D := spOf (α := Bis × Int × Dig × Dig) (fun a => [bisD a.1,.int .i64 a.2.1,digD a.2.2.1,digD a.2.2.2]) (fun a => -9223372036854775808 ≤ a.2.1 ∧ a.2.1 < 9223372036854775808) (fun a => .tup [bisD (discL a.1 a.2.1 a.2.2.1 a.2.2.2),.int .i64 (discE a.1 a.2.1 a.2.2.1 a.2.2.2)])
theorem call_bDisc (x:Bis) (p:Int) (l:Dig) (r:Dig) (h:-9223372036854775808 ≤ p ∧ p < 9223372036854775808):sp_bDisc [bisD x,.int .i64 p,digD l,digD r] = some (.tup [bisD (discL x p l r),.int .i64 (discE x p l r)]) :=
 yad (fun ⟨a0,a1,a2,a3⟩ ⟨b0,b1,b2,b3⟩ h => by simp only [List.cons.injEq,D.int.injEq,dig_iff,true_and,and_true,bisD_iff] at h; simp [h]) (x,p,l,r) h
set_option maxHeartbeats 4000000 in
set_option maxRecDepth 20000 in
theorem w_bDisc (x:Bis) (p:Int) (l:Dig) (r:Dig) (h:-9223372036854775808 ≤ p ∧ p < 9223372036854775808):@wW GG (tb [(56,sp_bvalid),(57,sp_mParent)] []) yde.code (argF [bisD x,.int .i64 p,digD l,digD r]) [] ⟨retQ yde.res (.tup [bisD (discL x p l r),.int .i64 (discE x p l r)])⟩ := by
 unfold yde
 by_cases hv:ycg x = true
 ·have cv := call_bvalid x
  rw [hv] at cv
  by_cases hp:p = 0 ∨ p = 1
  ·obtain ⟨v1,v2,v3,v4,v5,v6,v7⟩ := bvalid_spec hv
   have v8 := i_bound hv
   rcases hp with rfl | rfl
   ·have q1:¬ (1:Int) = 0 := by decide
    by_cases h1:x.l = 0
    ·have e1:discL x 0 l r = ybj := by unfold discL; rw [if_pos ⟨hv,.inl rfl⟩,if_pos (.inl h1)]
     have e2:discE x 0 l r = 380 := by unfold discE; rw [if_pos ⟨hv,.inl rfl⟩,if_pos (.inl h1)]
     rw [e1,e2]
     simp (disch:=first|omega|decide) only [push_cast,↓reduceIte,Nat.reduceEqDiff,Nat.reduceAdd,cv,h1]
    by_cases h2:x.t0 = true
    ·have e1:discL x 0 l r = ybj := by unfold discL; rw [if_pos ⟨hv,.inl rfl⟩,if_pos (.inr h2)]
     have e2:discE x 0 l r = 380 := by unfold discE; rw [if_pos ⟨hv,.inl rfl⟩,if_pos (.inr h2)]
     rw [e1,e2]
     simp (disch:=first|omega|decide) only [push_cast,↓reduceIte,Nat.reduceEqDiff,Nat.reduceAdd,Nat.reduceMul,cv,h1,h2,yeh]
    have h2':x.t0 = false := by simpa using h2
    by_cases h3:ybx l r = x.n0
    ·by_cases h4:x.t1 = true
     ·have e1:discL x 0 l r = stepB (setB x 0 l r) := by unfold discL; rw [if_pos ⟨hv,.inl rfl⟩,if_neg (by intro h; rcases h with h | h; exact h1 h; exact h2 h),if_pos (show ybx l r = nodeB x 0 from h3)]; exact if_pos h4
      have e2:discE x 0 l r = 0 := by unfold discE; rw [if_pos ⟨hv,.inl rfl⟩,if_neg (by intro h; rcases h with h | h; exact h1 h; exact h2 h)]; exact if_pos h3
      rw [e1,e2,show setB x 0 l r = { x with t0 := true,l0 := l,r0 := r } from rfl]
      unfold stepB
      by_cases h5:l = x.l1
      ·simp (disch:=first|omega|decide) only [push_cast,↓yb4,↓reduceIte,Nat.reduceEqDiff,Nat.reduceAdd,Nat.reduceMul,Nat.reduceBEq,Int.reduceSub,cv,h1,h2',h3,h4,← h5,yeh,yaw,sub_i,mul_i,add_i,fill_nil]
      ·simp (disch:=first|omega|decide) only [push_cast,↓yb4,↓reduceIte,Nat.reduceEqDiff,Nat.reduceAdd,Nat.reduceMul,Nat.reduceBEq,Int.reduceSub,cv,h1,h2',h3,h4,h5,yeh,yaw,sub_i,mul_i,add_i,fill_nil]
     ·have h4':x.t1 = false := by simpa using h4
      have e1:discL x 0 l r = setB x 0 l r := by unfold discL; rw [if_pos ⟨hv,.inl rfl⟩,if_neg (by intro h; rcases h with h | h; exact h1 h; exact h2 h),if_pos (show ybx l r = nodeB x 0 from h3)]; exact if_neg h4
      have e2:discE x 0 l r = 0 := by unfold discE; rw [if_pos ⟨hv,.inl rfl⟩,if_neg (by intro h; rcases h with h | h; exact h1 h; exact h2 h)]; exact if_pos h3
      rw [e1,e2,show setB x 0 l r = { x with t0 := true,l0 := l,r0 := r } from rfl]
      simp (disch:=first|omega|decide) only [push_cast,↓yb4,↓reduceIte,Nat.reduceEqDiff,Nat.reduceAdd,Nat.reduceMul,Nat.reduceBEq,Int.reduceSub,cv,h1,h2',h3,h4',yeh,yaw,sub_i]
    ·have e1:discL x 0 l r = ybj := by unfold discL; rw [if_pos ⟨hv,.inl rfl⟩,if_neg (by intro h; rcases h with h | h; exact h1 h; exact h2 h)]; exact if_neg h3
     have e2:discE x 0 l r = 381 := by unfold discE; rw [if_pos ⟨hv,.inl rfl⟩,if_neg (by intro h; rcases h with h | h; exact h1 h; exact h2 h)]; exact if_neg h3
     rw [e1,e2]
     simp (disch:=first|omega|decide) only [push_cast,↓reduceIte,Nat.reduceEqDiff,Nat.reduceAdd,Nat.reduceMul,cv,h1,h2',h3,yeh,yaw]
   ·have q1:¬ (1:Int) = 0 := by decide
    by_cases h1:x.l = 0
    ·have e1:discL x 1 l r = ybj := by unfold discL; rw [if_pos ⟨hv,.inr rfl⟩,if_pos (.inl h1)]
     have e2:discE x 1 l r = 380 := by unfold discE; rw [if_pos ⟨hv,.inr rfl⟩,if_pos (.inl h1)]
     rw [e1,e2]
     simp (disch:=first|omega|decide) only [push_cast,↓reduceIte,Nat.reduceEqDiff,Nat.reduceAdd,cv,h1,q1]
    by_cases h2:x.t1 = true
    ·have e1:discL x 1 l r = ybj := by unfold discL; rw [if_pos ⟨hv,.inr rfl⟩,if_pos (.inr h2)]
     have e2:discE x 1 l r = 380 := by unfold discE; rw [if_pos ⟨hv,.inr rfl⟩,if_pos (.inr h2)]
     rw [e1,e2]
     simp (disch:=first|omega|decide) only [push_cast,↓reduceIte,Nat.reduceEqDiff,Nat.reduceAdd,Nat.reduceMul,cv,h1,h2,q1,yeh]
    have h2':x.t1 = false := by simpa using h2
    by_cases h3:ybx l r = x.n1
    ·by_cases h4:x.t0 = true
     ·have e1:discL x 1 l r = stepB (setB x 1 l r) := by unfold discL; rw [if_pos ⟨hv,.inr rfl⟩,if_neg (by intro h; rcases h with h | h; exact h1 h; exact h2 h),if_pos (show ybx l r = nodeB x 1 from h3)]; exact if_pos h4
      have e2:discE x 1 l r = 0 := by unfold discE; rw [if_pos ⟨hv,.inr rfl⟩,if_neg (by intro h; rcases h with h | h; exact h1 h; exact h2 h)]; exact if_pos h3
      rw [e1,e2,show setB x 1 l r = { x with t1 := true,l1 := l,r1 := r } from rfl]
      unfold stepB
      by_cases h5:l = x.l0
      ·simp (disch:=first|omega|decide) only [push_cast,↓yb4,↓reduceIte,Nat.reduceEqDiff,Nat.reduceAdd,Nat.reduceMul,Nat.reduceBEq,Int.reduceSub,cv,h1,h2',h3,h4,q1,← h5,yeh,yaw,sub_i,mul_i,add_i,fill_nil]
      ·have h6:¬ x.l0 = l := fun h => h5 h.symm
       simp (disch:=first|omega|decide) only [push_cast,↓yb4,↓reduceIte,Nat.reduceEqDiff,Nat.reduceAdd,Nat.reduceMul,Nat.reduceBEq,Int.reduceSub,cv,h1,h2',h3,h4,h5,h6,q1,yeh,yaw,sub_i,mul_i,add_i,fill_nil]
     ·have h4':x.t0 = false := by simpa using h4
      have e1:discL x 1 l r = setB x 1 l r := by unfold discL; rw [if_pos ⟨hv,.inr rfl⟩,if_neg (by intro h; rcases h with h | h; exact h1 h; exact h2 h),if_pos (show ybx l r = nodeB x 1 from h3)]; exact if_neg h4
      have e2:discE x 1 l r = 0 := by unfold discE; rw [if_pos ⟨hv,.inr rfl⟩,if_neg (by intro h; rcases h with h | h; exact h1 h; exact h2 h)]; exact if_pos h3
      rw [e1,e2,show setB x 1 l r = { x with t1 := true,l1 := l,r1 := r } from rfl]
      simp (disch:=first|omega|decide) only [push_cast,↓yb4,↓reduceIte,Nat.reduceEqDiff,Nat.reduceAdd,Nat.reduceMul,Nat.reduceBEq,Int.reduceSub,cv,h1,h2',h3,h4',q1,yeh,yaw,sub_i]
    ·have e1:discL x 1 l r = ybj := by unfold discL; rw [if_pos ⟨hv,.inr rfl⟩,if_neg (by intro h; rcases h with h | h; exact h1 h; exact h2 h)]; exact if_neg h3
     have e2:discE x 1 l r = 381 := by unfold discE; rw [if_pos ⟨hv,.inr rfl⟩,if_neg (by intro h; rcases h with h | h; exact h1 h; exact h2 h)]; exact if_neg h3
     rw [e1,e2]
     simp (disch:=first|omega|decide) only [push_cast,↓reduceIte,Nat.reduceEqDiff,Nat.reduceAdd,Nat.reduceMul,cv,h1,h2',h3,q1,yeh,yaw]
  ·have e1:discL x p l r = ybj := by unfold discL; exact if_neg fun h => hp h.2
   have e2:discE x p l r = 1 := by unfold discE; exact if_neg fun h => hp h.2
   have p0:¬ p = 0 := fun h => hp (.inl h)
   have p1:¬ p = 1 := fun h => hp (.inr h)
   rw [e1,e2]
   simp (disch:=first|omega|decide) only [push_cast,↓reduceIte,Nat.reduceEqDiff,Nat.reduceAdd,cv,p0,p1]
 ·have hv':ycg x = false := by simpa using hv
  have cv := call_bvalid x
  rw [hv'] at cv
  have e1:discL x p l r = ybj := by unfold discL; exact if_neg fun h => hv h.1
  have e2:discE x p l r = 1 := by unfold discE; exact if_neg fun h => hv h.1
  rw [e1,e2]
  simp (disch:=first|omega|decide) only [push_cast,↓reduceIte,Nat.reduceEqDiff,Nat.reduceAdd,cv]
theorem c_bDisc:Contract Tryd.prog GG 34 sp_bDisc :=
 yab tr_bisect_Disclose (tb_ok (all_cons c_bvalid (all_cons c_mParent all_nil)) all_nil) (fun a h => w_bDisc a.1 a.2.1 a.2.2.1 a.2.2.2 h)
end Go.Proofs.YtlleccmnjpcogaaDoor.PI
namespace Go.Proofs.YtlleccmnjpcogaaDoor.PI
open Go
set_option linter.unusedSimpArgs false
set_option linter.unusedVariables false
theorem immL_d2 (st:St) (a b:Dig):immL st (d2C a b) = some (d2C a b) := yd3 st (d2C_solid a b)
theorem ne20:¬ (2:Int) = 0 := by decide
theorem ne380:¬ (380:Int) = 0 := by decide
theorem ne10:¬ (1:Int) = 0 := by decide
def doneOk (x:Bis):Bool := ycg x && decide (x.l ≤ 0)
def doneI (x:Bis):Int := if doneOk x = true then x.i else 0
def doneA (x:Bis):Dig := if doneOk x = true then x.n0 else yac
def doneB (x:Bis):Dig := if doneOk x = true then x.n1 else yac
noncomputable def sp_bDone:List D → Option D := spOf (α := Bis) (fun a => [bisD a]) (fun a => True) (fun a => .tup [.int .i64 (doneI a),.agg (d2C (doneA a) (doneB a)),.bool (doneOk a)])
theorem call_bDone (x:Bis):sp_bDone [bisD x] = some (.tup [.int .i64 (doneI x),.agg (d2C (doneA x) (doneB x)),.bool (doneOk x)]) :=
 yad (fun a b h => by simp only [List.cons.injEq,and_true,bisD_iff] at h; simp [h]) (x) trivial
set_option maxHeartbeats 4000000 in
set_option maxRecDepth 20000 in
theorem w_bDone (x:Bis):@wW GG (tb [(56,sp_bvalid)] []) F_bisect_Done.code (argF [bisD x]) [] ⟨retQ F_bisect_Done.res (.tup [.int .i64 (doneI x),.agg (d2C (doneA x) (doneB x)),.bool (doneOk x)])⟩ := by
 have cv := call_bvalid x
 unfold F_bisect_Done doneI doneA doneB doneOk
 by_cases hv:ycg x = true
 ·rw [hv] at cv ⊢
  by_cases h1:0 < x.l
  ·have h2:¬ x.l ≤ 0 := by omega
   simp (disch:=first|omega|decide) only [push_cast,↓reduceIte,Nat.reduceEqDiff,immL_d2,cv,h1,h2]
  ·have h2:x.l ≤ 0 := by omega
   simp (disch:=first|omega|decide) only [push_cast,↓reduceIte,Nat.reduceEqDiff,immL_d2,cv,h1,h2]
 ·have hv':ycg x = false := by simpa using hv
  rw [hv'] at cv ⊢
  simp (disch:=first|omega|decide) only [push_cast,↓reduceIte,Nat.reduceEqDiff,immL_d2,cv]
theorem c_bDone:Contract Tryd.prog GG 31 sp_bDone :=
 yab tr_bisect_Done (tb_ok (all_cons c_bvalid all_nil) all_nil) (fun a h => w_bDone a)
def ansE (s:List Dig) (x:Bis):Int := if ycg x = true then (if 65536 < (s.length:Int) then 2 else if x.l = 0 then 380 else 0) else 1
def ansL (s:List Dig) (x:Bis):Dig := if ansE s x = 0 then nodeR s (x.l - 1) (2 * x.i) else yac
def ansR (s:List Dig) (x:Bis):Dig := if ansE s x = 0 then nodeR s (x.l - 1) (2 * x.i + 1) else yac
noncomputable def sp_bAns:List D → Option D := spOf (α := List Dig × Bis) (fun a => [.slc (nz 32 (a.1.map digD)) (a.1.map digD) false,bisD a.2]) (fun a => True) (fun a => .tup [digD (ansL a.1 a.2),digD (ansR a.1 a.2),.int .i64 (ansE a.1 a.2)])
theorem call_bAns (s:List Dig) (x:Bis):sp_bAns [.slc (nz 32 (s.map digD)) (s.map digD) false,bisD x] = some (.tup [digD (ansL s x),digD (ansR s x),.int .i64 (ansE s x)]) :=
 yad (fun ⟨a0,a1⟩ ⟨b0,b1⟩ h => by simp only [List.cons.injEq,D.slc.injEq,ydv,and_true,bisD_iff] at h; simp [h]) (s,x) trivial
set_option maxHeartbeats 4000000 in
set_option maxRecDepth 20000 in
theorem w_bAns (s:List Dig) (x:Bis):@wW GG (tb [(56,sp_bvalid),(28,sp_mNode)] []) yex.code (argF [.slc (nz 32 (s.map digD)) (s.map digD) false,bisD x]) [] ⟨retQ yex.res (.tup [digD (ansL s x),digD (ansR s x),.int .i64 (ansE s x)])⟩ := by
 have cv := call_bvalid x
 unfold yex ansL ansR
 by_cases hv:ycg x = true
 ·obtain ⟨v1,v2,v3,v4,v5,v6,v7⟩ := bvalid_spec hv
  have v8 := i_bound hv
  by_cases h1:65536 < (s.length:Int)
  ·have e:ansE s x = 2 := by unfold ansE; rw [if_pos hv,if_pos h1]
   rw [e]; rw [hv] at cv
   simp (disch:=first|omega|decide) only [push_cast,↓yb4,↓reduceIte,Nat.reduceEqDiff,Nat.reduceAdd,Nat.reduceBEq,ne20,cv,h1]
  ·by_cases h2:x.l = 0
   ·have e:ansE s x = 380 := by unfold ansE; rw [if_pos hv,if_neg h1,if_pos h2]
    rw [e]; rw [hv] at cv
    simp (disch:=first|omega|decide) only [push_cast,↓yb4,↓reduceIte,Nat.reduceEqDiff,Nat.reduceAdd,Nat.reduceBEq,ne380,cv,h1,h2]
   ·have e:ansE s x = 0 := by unfold ansE; rw [if_pos hv,if_neg h1,if_neg h2]
    rw [e]; rw [hv] at cv
    simp (disch:=first|omega|decide) only [push_cast,↓yb4,↓reduceIte,Nat.reduceEqDiff,Nat.reduceAdd,Nat.reduceBEq,cv,h1,h2,call_mNode,sub_i,mul_i,add_i]
 ·have hv':ycg x = false := by simpa using hv
  have e:ansE s x = 1 := by unfold ansE; rw [if_neg hv]
  rw [e]; rw [hv'] at cv
  simp (disch:=first|omega|decide) only [push_cast,↓yb4,↓reduceIte,Nat.reduceEqDiff,Nat.reduceAdd,Nat.reduceBEq,ne10,cv]
theorem c_bAns:Contract Tryd.prog GG 33 sp_bAns :=
 yab tr_bisect_Answer (tb_ok (all_cons c_bvalid (all_cons c_mNode all_nil)) all_nil) (fun a h => w_bAns a.1 a.2)
theorem fill_ss (k l:Nat) (a b:List D) (t u:Bool):fillD [.slc 0 [] true,.slc 0 [] true] [(0,1,.slc k a t),(1,1,.slc l b u)] = some [.slc k a t,.slc l b u] := rfl
end Go.Proofs.YtlleccmnjpcogaaDoor.PI
namespace Go.Proofs.YtlleccmnjpcogaaDoor.PI
open Go
set_option linter.unusedSimpArgs false
set_option linter.unusedVariables false
def bis0 (h l i:Int) (a b:Dig) (r:Int):Bis := ⟨h,l,i,a,b,false,false,yac,yac,yac,yac,r⟩
theorem root_small (l:List Dig) (hl:(l.length:Int) ≤ 65536):rootL l = ((l.length:Int),nodeL l (yag l.length).toNat 0) := if_pos hl
end Go.Proofs.YtlleccmnjpcogaaDoor.PI
namespace Go.Proofs.YtlleccmnjpcogaaDoor.PI
open Go
set_option linter.unusedSimpArgs false
set_option linter.unusedVariables false
theorem rowN_bound (l:List Dig):∀ (n m:Nat),l.length ≤ m * 2 ^ n → (rowN l n).length ≤ m
 | 0,m,h => by simpa [rowN] using h
 | n + 1,m,h => by
  have h1 := rowN_bound l n (2 * m) (by rw [Nat.pow_succ] at h; rw [Nat.mul_comm 2 m,Nat.mul_assoc,Nat.mul_comm 2]; exact h)
  show (upL (padN n) (rowN l n)).length ≤ m
  rw [upL_length]
  omega
theorem node_one (l:List Dig) (n:Nat) (h:l.length ≤ 2 ^ n):nodeL l n 1 = padN n := by
 have := rowN_bound l n 1 (by omega)
 exact at_end _ _ _ (by omega)
theorem depth_len (l:List Dig) (hl:(l.length:Int) ≤ 65536):l.length ≤ 2 ^ (yag l.length).toNat := by
 have := depthL_le (n := (l.length:Int)) (by omega) hl
 have h2:((2 ^ (yag l.length).toNat:Nat):Int) = 2 ^ (yag l.length).toNat := by simp
 omega
theorem padF_node (l:List Dig) (hl:(l.length:Int) ≤ 65536):∀ n:Nat,yag l.length ≤ (n:Int) → padF (rootL l).1 (rootL l).2 n = nodeL l n 0 := by
 have hd := yds (n := (l.length:Int)) (by omega) hl
 rw [root_small l hl]
 dsimp only
 intro n
 induction n with
 | zero =>
  intro h
  have:(yag l.length).toNat = 0 := by omega
  rw [this]; rfl
 | succ n ih =>
  intro h
  by_cases h1:yag l.length ≤ (n:Int)
  ·rw [padF,if_pos h1,ih h1,node_succ _ _ _ (by omega)]
   have h2:l.length ≤ 2 ^ n := by
    have a := depth_len l hl
    exact Nat.le_trans a (Nat.pow_le_pow_right (by decide) (by omega))
   rw [show (2:Int) * 0 = 0 from rfl,show (0:Int) + 1 = 1 from rfl,node_one l n h2]
  ·rw [padF,if_neg h1,padF_low _ _ _ (by omega)]
   have:(yag l.length).toNat = n + 1 := by omega
   rw [this]
theorem bitlen_mono {m n:Nat} (h:m ≤ n):ybb m ≤ ybb n := bitlen_lt (Nat.lt_of_le_of_lt h bitlen_spec)
theorem depth_mono {m n:Int} (h0:0 ≤ m) (h:m ≤ n) (hn:n ≤ 65536):yag m ≤ yag n := by
 rw [(yds h0 (by omega)).1,(yds (by omega) hn).1]
 have := bitlen_mono (m := (max m 1).toNat - 1) (n := (max n 1).toNat - 1) (by omega)
 omega
theorem depth_max {m n:Int} (hm:0 ≤ m) (hn:0 ≤ n) (hm1:m ≤ 65536) (hn1:n ≤ 65536):yag (max m n) = max (yag m) (yag n) := by
 rcases Int.le_total m n with h | h
 ·have := depth_mono hm h hn1
  rw [Int.max_eq_right h]; omega
 ·have := depth_mono hn h hm1
  rw [Int.max_eq_left h]; omega
def hgt (a b:List Dig):Int := yag (max (a.length:Int) (b.length:Int))
def stAt (a b:List Dig) (h lv i:Int):Bis := bis0 h lv i (nodeL a lv.toNat i) (nodeL b lv.toNat i) (h - lv)
theorem nodeR_in (l:List Dig) (lv i:Int) (hl:(l.length:Int) ≤ 65536) (h0:0 ≤ lv) (h1:lv ≤ 16) (hi:0 ≤ i) (h2:i < 2 ^ (16 - lv).toNat):nodeR l lv i = nodeL l lv.toNat i := by
 unfold nodeR
 rw [if_pos (by unfold yd7; exact decide_eq_true ⟨hl,h0,h1,hi,h2⟩)]
end Go.Proofs.YtlleccmnjpcogaaDoor.PI
namespace Go.Proofs.YtlleccmnjpcogaaDoor.PI
open Go
set_option linter.unusedSimpArgs false
set_option linter.unusedVariables false
theorem disc_first {x:Bis} {p:Int} {l r:Dig} (hv:ycg x = true) (hp:p = 0 ∨ p = 1) (hl:x.l ≠ 0) (ht:toldB x p = false) (hr:ybx l r = nodeB x p) (ho:toldB x (1 - p) = false):discL x p l r = setB x p l r ∧ discE x p l r = 0 := by
 have h1:¬ (x.l = 0 ∨ toldB x p = true) := by rw [ht]; intro h; rcases h with h | h; exact hl h; cases h
 refine ⟨?_,?_⟩
 ·unfold discL
  rw [if_pos ⟨hv,hp⟩,if_neg h1,if_pos hr,ho]
  rfl
 ·unfold discE
  rw [if_pos ⟨hv,hp⟩,if_neg h1,if_pos hr]
theorem disc_second {x:Bis} {p:Int} {l r:Dig} (hv:ycg x = true) (hp:p = 0 ∨ p = 1) (hl:x.l ≠ 0) (ht:toldB x p = false) (hr:ybx l r = nodeB x p) (ho:toldB x (1 - p) = true):discL x p l r = stepB (setB x p l r) ∧ discE x p l r = 0 := by
 have h1:¬ (x.l = 0 ∨ toldB x p = true) := by rw [ht]; intro h; rcases h with h | h; exact hl h; cases h
 refine ⟨?_,?_⟩
 ·unfold discL
  rw [if_pos ⟨hv,hp⟩,if_neg h1,if_pos hr,if_pos ho]
 ·unfold discE
  rw [if_pos ⟨hv,hp⟩,if_neg h1,if_pos hr]
theorem stAt_valid (a b:List Dig) {h lv i:Int} (h0:0 ≤ lv) (h1:lv ≤ h) (h2:h ≤ 16) (i0:0 ≤ i) (i1:i < 2 ^ (h - lv).toNat):ycg (stAt a b h lv i) = true :=
 bvalid_of (x := stAt a b h lv i) (by show 0 ≤ h; omega) h2 h0 h1 i0 i1 rfl
theorem bvalid_set (x:Bis) (p:Int) (l r:Dig):ycg (setB x p l r) = ycg x := by
 unfold setB
 split <;> rfl
def nextI (a b:List Dig) (lv i:Int):Int := if nodeL a (lv - 1).toNat (2 * i) = nodeL b (lv - 1).toNat (2 * i) then 2 * i + 1 else 2 * i
theorem nextI_range (a b:List Dig) {h lv i:Int} (h0:1 ≤ lv) (h1:lv ≤ h) (i0:0 ≤ i) (i1:i < 2 ^ (h - lv).toNat):0 ≤ nextI a b lv i ∧ nextI a b lv i < 2 ^ (h - (lv - 1)).toNat := by
 have e:(h - (lv - 1)).toNat = (h - lv).toNat + 1 := by omega
 rw [e,Int.pow_succ]
 unfold nextI
 split <;> omega
theorem ans_st (a b s:List Dig) {h lv i:Int} (hs:(s.length:Int) ≤ 65536) (h0:1 ≤ lv) (h1:lv ≤ h) (h2:h ≤ 16) (i0:0 ≤ i) (i1:i < 2 ^ (h - lv).toNat) :
  ansE s (stAt a b h lv i) = 0 ∧ ansL s (stAt a b h lv i) = nodeL s (lv - 1).toNat (2 * i) ∧ ansR s (stAt a b h lv i) = nodeL s (lv - 1).toNat (2 * i + 1) := by
 have hv := stAt_valid a b (by omega) h1 h2 i0 i1
 have e:ansE s (stAt a b h lv i) = 0 := by
  unfold ansE
  rw [if_pos hv,if_neg (by omega),if_neg (show ¬ (stAt a b h lv i).l = 0 from fun e => by have:lv = 0 := e; omega)]
 have hp := pow_mono (a := (h - lv).toNat) (b := (16 - lv).toNat) (by omega)
 have e2:(16 - (lv - 1)).toNat = (16 - lv).toNat + 1 := by omega
 refine ⟨e,?_,?_⟩
 ·unfold ansL
  rw [if_pos e]
  exact nodeR_in s (lv - 1) (2 * i) hs (by omega) (by omega) (by omega) (by rw [e2,Int.pow_succ]; omega)
 ·unfold ansR
  rw [if_pos e]
  exact nodeR_in s (lv - 1) (2 * i + 1) hs (by omega) (by omega) (by omega) (by rw [e2,Int.pow_succ]; omega)
theorem par_st (s:List Dig) {lv i:Int} (h0:1 ≤ lv) (i0:0 ≤ i):ybx (nodeL s (lv - 1).toNat (2 * i)) (nodeL s (lv - 1).toNat (2 * i + 1)) = nodeL s lv.toNat i := by
 have e:lv.toNat = (lv - 1).toNat + 1 := by omega
 rw [e,node_succ _ _ _ i0]
theorem two_disc (a b:List Dig) {h lv i p:Int} (hp:p = 0 ∨ p = 1) (h0:1 ≤ lv) (h1:lv ≤ h) (h2:h ≤ 16) (i0:0 ≤ i) (i1:i < 2 ^ (h - lv).toNat) :
  let la := if p = 0 then a else b
  let lb := if p = 0 then b else a
  let x := stAt a b h lv i
  let y := setB x p (nodeL la (lv - 1).toNat (2 * i)) (nodeL la (lv - 1).toNat (2 * i + 1))
  (discL x p (nodeL la (lv - 1).toNat (2 * i)) (nodeL la (lv - 1).toNat (2 * i + 1)) = y ∧ discE x p (nodeL la (lv - 1).toNat (2 * i)) (nodeL la (lv - 1).toNat (2 * i + 1)) = 0) ∧
  (discL y (1 - p) (nodeL lb (lv - 1).toNat (2 * i)) (nodeL lb (lv - 1).toNat (2 * i + 1)) = stAt a b h (lv - 1) (nextI a b lv i) ∧ discE y (1 - p) (nodeL lb (lv - 1).toNat (2 * i)) (nodeL lb (lv - 1).toNat (2 * i + 1)) = 0) := by
 have hv := stAt_valid a b (by omega) h1 h2 i0 i1
 have pa := par_st a (lv := lv) (i := i) h0 i0
 have pb := par_st b (lv := lv) (i := i) h0 i0
 have hl:lv ≠ 0 := by omega
 have en:h - lv + 1 = h - (lv - 1) := by omega
 rcases hp with rfl | rfl
 ·refine ⟨disc_first hv (.inl rfl) hl rfl pa rfl,?_⟩
  have hv2:ycg (setB (stAt a b h lv i) 0 (nodeL a (lv - 1).toNat (2 * i)) (nodeL a (lv - 1).toNat (2 * i + 1))) = true := by rw [bvalid_set]; exact hv
  obtain ⟨g1,g2⟩ := disc_second (x := setB (stAt a b h lv i) 0 (nodeL a (lv - 1).toNat (2 * i)) (nodeL a (lv - 1).toNat (2 * i + 1))) (p := 1 - 0) hv2 (.inr rfl) hl rfl pb rfl
  refine ⟨g1.trans ?_,g2⟩
  show stepB { stAt a b h lv i with t0 := true,l0 := nodeL a (lv - 1).toNat (2 * i),r0 := nodeL a (lv - 1).toNat (2 * i + 1),t1 := true,l1 := nodeL b (lv - 1).toNat (2 * i),r1 := nodeL b (lv - 1).toNat (2 * i + 1) } = _
  unfold stepB nextI stAt bis0
  dsimp only
  by_cases he:nodeL a (lv - 1).toNat (2 * i) = nodeL b (lv - 1).toNat (2 * i)
  ·rw [if_pos he,if_pos he,en]; rfl
  ·rw [if_neg he,if_neg he,en]; rfl
 ·refine ⟨disc_first hv (.inr rfl) hl rfl pb rfl,?_⟩
  have hv2:ycg (setB (stAt a b h lv i) 1 (nodeL b (lv - 1).toNat (2 * i)) (nodeL b (lv - 1).toNat (2 * i + 1))) = true := by rw [bvalid_set]; exact hv
  obtain ⟨g1,g2⟩ := disc_second (x := setB (stAt a b h lv i) 1 (nodeL b (lv - 1).toNat (2 * i)) (nodeL b (lv - 1).toNat (2 * i + 1))) (p := 1 - 1) hv2 (.inl rfl) hl rfl pa rfl
  refine ⟨g1.trans ?_,g2⟩
  show stepB { stAt a b h lv i with t0 := true,l0 := nodeL a (lv - 1).toNat (2 * i),r0 := nodeL a (lv - 1).toNat (2 * i + 1),t1 := true,l1 := nodeL b (lv - 1).toNat (2 * i),r1 := nodeL b (lv - 1).toNat (2 * i + 1) } = _
  unfold stepB nextI stAt bis0
  dsimp only
  by_cases he:nodeL a (lv - 1).toNat (2 * i) = nodeL b (lv - 1).toNat (2 * i)
  ·rw [if_pos he,if_pos he,en]; rfl
  ·rw [if_neg he,if_neg he,en]; rfl
def idxS (a b:List Dig) (h:Int):Nat → Int
 | 0 => 0
 | k + 1 => nextI a b (h - k) (idxS a b h k)
theorem idxS_range (a b:List Dig) (h:Int):∀ k:Nat,(k:Int) ≤ h → 0 ≤ idxS a b h k ∧ idxS a b h k < 2 ^ (h - (h - k)).toNat
 | 0,_ => by
  have:(h - (h - ((0:Nat):Int))).toNat = 0 := by omega
  rw [this]; exact ⟨Int.le_refl 0,by show (0:Int) < 2 ^ 0; decide⟩
 | k + 1,hk => by
  have ih := idxS_range a b h k (by omega)
  have := nextI_range a b (h := h) (lv := h - k) (i := idxS a b h k) (by omega) (by omega) ih.1 ih.2
  rw [show h - (h - (k:Int) - 1) = h - (h - ((k + 1:Nat):Int)) by omega] at this
  exact this
def stK (a b:List Dig) (h:Int) (k:Nat):Bis := stAt a b h (h - k) (idxS a b h k)
theorem stK_l (a b:List Dig) (h:Int) (k:Nat):(stK a b h k).l = h - k := rfl
theorem stK_succ (a b:List Dig) (h:Int) (k:Nat):stAt a b h (h - k - 1) (nextI a b (h - k) (idxS a b h k)) = stK a b h (k + 1) := by
 unfold stK
 rw [show h - (k:Int) - 1 = h - ((k + 1:Nat):Int) by omega]
 rfl
end Go.Proofs.YtlleccmnjpcogaaDoor.PI
namespace Go.Proofs.YtlleccmnjpcogaaDoor.PI
open Go
set_option linter.unusedSimpArgs false
set_option linter.unusedVariables false
end Go.Proofs.YtlleccmnjpcogaaDoor.PI
namespace Go.Proofs.YtlleccmnjpcogaaDoor.PI
open Go
set_option linter.unusedSimpArgs false
set_option linter.unusedVariables false
theorem stK_r (a b:List Dig) (h:Int) (k:Nat):(stK a b h k).r = (k:Int) := by
 show h - (h - (k:Int)) = (k:Int); omega
theorem stK_valid (a b:List Dig) {h:Int} {k:Nat} (hk:(k:Int) ≤ h) (h4:h ≤ 16):ycg (stK a b h k) = true := by
 have hr := idxS_range a b h k hk
 exact stAt_valid a b (by omega) (by omega) h4 hr.1 hr.2
theorem done_early (a b:List Dig) {h:Int} {k:Nat} (hk:(k:Int) < h):sp_bDone [bisD (stK a b h k)] = some (.tup [.int .i64 0,.agg (d2C yac yac),.bool false]) := by
 have := call_bDone (stK a b h k)
 have e:doneOk (stK a b h k) = false := by
  unfold doneOk
  have:decide ((stK a b h k).l ≤ 0) = false := decide_eq_false (by rw [stK_l]; omega)
  rw [this,Bool.and_false]
 simp only [doneI,doneA,doneB,e,Bool.false_eq_true,if_false] at this
 exact this
theorem stK_zero (a b:List Dig) (h:Int):stAt a b h h 0 = stK a b h 0 := by
 unfold stK; rw [show h - ((0:Nat):Int) = h by omega]; rfl
theorem load_edig (st:St) (d:Dig):pload st 32 true (.eptr (digD d) 0) = some (digD d) := by
 simp [pload,yda,yaa,take_dig,mk_dig]
end Go.Proofs.YtlleccmnjpcogaaDoor.PI
namespace Go.Proofs.YtlleccmnjpcogaaDoor.PI
open Go
set_option linter.unusedSimpArgs false
set_option linter.unusedVariables false
theorem hgt_rangeN (a b:List Dig) (ha:(a.length:Int) ≤ 65536) (hb:(b.length:Int) ≤ 65536):0 ≤ hgt a b ∧ hgt a b ≤ 16 := by
 have h2 := yds (n := max (a.length:Int) (b.length:Int)) (by omega) (by omega)
 unfold hgt
 omega
theorem begin_listsN (a b:List Dig) (ha:(a.length:Int) ≤ 65536) (hb:(b.length:Int) ≤ 65536) :
  beginL (rootL a) (rootL b) = (if nodeL a (hgt a b).toNat 0 = nodeL b (hgt a b).toNat 0 then ybj else stAt a b (hgt a b) (hgt a b) 0) ∧ beginE (rootL a) (rootL b) = (if nodeL a (hgt a b).toNat 0 = nodeL b (hgt a b).toNat 0 then 380 else 0) := by
 have hr := hgt_rangeN a b ha hb
 have d1 := yds (n := (a.length:Int)) (by omega) (by omega)
 have d2 := yds (n := (b.length:Int)) (by omega) (by omega)
 have e0:hgt a b = max (yag a.length) (yag b.length) := depth_max (by omega) (by omega) (by omega) (by omega)
 have r1:(rootL a).1 = (a.length:Int) := by rw [root_small a (by omega)]
 have r2:(rootL b).1 = (b.length:Int) := by rw [root_small b (by omega)]
 have p1 := padF_node a (by omega) (hgt a b).toNat (by omega)
 have p2 := padF_node b (by omega) (hgt a b).toNat (by omega)
 have e:beginH (rootL a) (rootL b) = stAt a b (hgt a b) (hgt a b) 0 := by
  unfold beginH stAt bis0
  rw [r1,r2,← e0,← r1,← r2,p1,p2,Int.sub_self]
 unfold beginL beginE
 have q1:¬ yag (a.length:Int) < 0 := by omega
 have q2:¬ yag (b.length:Int) < 0 := by omega
 rw [e,r1,r2,if_neg q1,if_neg q2,if_neg q1,if_neg q2]
 exact ⟨rfl,rfl⟩
theorem done_endN (a b:List Dig) {N:Nat} (h4:N ≤ 16):sp_bDone [bisD (stK a b N N)] = some (.tup [.int .i64 (idxS a b N N),.agg (d2C (atL a (idxS a b N N) padL) (atL b (idxS a b N N) padL)),.bool true]) := by
 have := call_bDone (stK a b N N)
 have e:doneOk (stK a b N N) = true := by
  unfold doneOk
  rw [stK_valid a b (by omega) (by omega),stK_l,Int.sub_self]
  rfl
 have e2:(stK a b N N).n0 = atL a (idxS a b N N) padL := by
  show nodeL a ((N:Int) - (N:Int)).toNat (idxS a b N N) = _
  rw [Int.sub_self]; rfl
 have e3:(stK a b N N).n1 = atL b (idxS a b N N) padL := by
  show nodeL b ((N:Int) - (N:Int)).toNat (idxS a b N N) = _
  rw [Int.sub_self]; rfl
 simp only [doneI,doneA,doneB,e,if_true,e2,e3] at this
 exact this
theorem idxS_path {a b:List Dig} {N:Nat} {k:Int} (hk0:0 ≤ k) (hkN:k < 2 ^ N) (hd:∀ n:Nat,n ≤ N → nodeL a n (k / 2 ^ n) ≠ nodeL b n (k / 2 ^ n)) (he:∀ j:Int,0 ≤ j → j < k → atL a j padL = atL b j padL):∀ i:Nat,i ≤ N → idxS a b N i = k / 2 ^ (N - i)
 | 0,_ => by
  rw [Nat.sub_zero,Int.ediv_eq_zero_of_lt hk0 hkN]; rfl
 | i + 1,hi => by
  have ih := idxS_path hk0 hkN hd he i (by omega)
  have e1:((N:Int) - i - 1).toNat = N - (i + 1) := by omega
  have e2:N - i = (N - (i + 1)) + 1 := by omega
  have hp:(0:Int) < 2 ^ (N - (i + 1)) := Int.pow_pos (by decide)
  show nextI a b ((N:Int) - i) (idxS a b N i) = _
  unfold nextI
  rw [e1,ih,e2,div_succ]
  have hdd := hd (N - (i + 1)) (by omega)
  have hq0:0 ≤ k / 2 ^ (N - (i + 1)) := Int.ediv_nonneg hk0 (by omega)
  obtain ⟨r,hr⟩:∃ r,k / 2 ^ (N - (i + 1)) = r := ⟨_,rfl⟩
  rw [hr] at hdd hq0
  rw [hr]
  by_cases h2:r = 2 * (r / 2)
  ·rw [if_neg (by rw [← h2]; exact hdd)]; exact h2.symm
  ·have h3:r = 2 * (r / 2) + 1 := by omega
   rw [if_pos ?_]
   ·exact h3.symm
   ·refine node_congr a b _ _ (by omega) fun j j0 j1 => he j j0 ?_
    refine Classical.byContradiction fun hge => ?_
    have := Int.ediv_le_ediv hp (show k ≤ j by omega)
    rw [hr,j1] at this
    omega
theorem idxS_end {a b:List Dig} {N:Nat} {k:Int} (hk0:0 ≤ k) (hkN:k < 2 ^ N) (hd:∀ n:Nat,n ≤ N → nodeL a n (k / 2 ^ n) ≠ nodeL b n (k / 2 ^ n)) (he:∀ j:Int,0 ≤ j → j < k → atL a j padL = atL b j padL):idxS a b N N = k := by
 have := idxS_path hk0 hkN hd he N (Nat.le_refl _)
 rwa [Nat.sub_self,Int.pow_zero,Int.ediv_one] at this
def coinU (a b:List Dig) (k:Int) (n:Nat):Bool := (List.range n).any fun i => decide (nodeL a (i + 1) (k / 2 ^ (i + 1)) = nodeL b (i + 1) (k / 2 ^ (i + 1)))
theorem coinU_succ (a b:List Dig) (k:Int) (n:Nat):coinU a b k (n + 1) = (coinU a b k n || decide (nodeL a (n + 1) (k / 2 ^ (n + 1)) = nodeL b (n + 1) (k / 2 ^ (n + 1)))) := by
 simp [coinU,List.range_succ,List.any_append]
theorem coinU_no {a b:List Dig} {k:Int} {n:Nat} (h:coinU a b k n = false):∀ i:Nat,1 ≤ i → i ≤ n → nodeL a i (k / 2 ^ i) ≠ nodeL b i (k / 2 ^ i) := by
 intro i h1 h2 e
 have := List.any_eq_false.1 h (i - 1) (List.mem_range.2 (by omega))
 rw [show i - 1 + 1 = i by omega] at this
 simp [e] at this
theorem coinU_yes {a b:List Dig} {k:Int} {n i:Nat} (h:i < n) (e:nodeL a (i + 1) (k / 2 ^ (i + 1)) = nodeL b (i + 1) (k / 2 ^ (i + 1))):coinU a b k n = true :=
 List.any_eq_true.2 ⟨i,List.mem_range.2 h,decide_eq_true e⟩
def coinB (a b:List Dig) (k:Int):Bool := padB b || coinU a b k (hgt a b).toNat
def lieZ (L:List Dig) (k i:Nat):List Dig := (List.range L.length).map fun j => if k ≤ j ∧ j < i then flipD (L.getD j default) 0 1 else L.getD j default
theorem yb8 (L:List Dig) (k i:Nat):(lieZ L k i).length = L.length := by simp [lieZ]
theorem lieZ_get (L:List Dig) (k i:Nat) {j:Nat} (h:j < L.length):(lieZ L k i).getD j default = if k ≤ j ∧ j < i then flipD (L.getD j default) 0 1 else L.getD j default := by
 rw [List.getD_eq_getElem?_getD,lieZ,List.getElem?_map,List.getElem?_range h]; rfl
theorem lieZ_0 (L:List Dig) (k:Nat):lieZ L k k = L := getD_ext (yb8 ..) fun j h => by
 rw [yb8] at h
 rw [lieZ_get L k k h,if_neg (by omega)]
theorem lieZ_step (L:List Dig) (k i:Nat) (hk:k ≤ i) (hi:i < L.length):(lieZ L k i).set i (flipD (L.getD i default) 0 1) = lieZ L k (i + 1) := by
 refine getD_ext (by rw [List.length_set,yb8,yb8]) fun j h => ?_
 rw [List.length_set,yb8] at h
 rw [lieZ_get L k (i + 1) h]
 by_cases e:j = i
 ·subst e
  rw [List.getD_eq_getElem?_getD,List.getElem?_set_self (by rw [yb8]; exact h),if_pos ⟨hk,by omega⟩]; rfl
 ·rw [List.getD_eq_getElem?_getD,List.getElem?_set_ne (by omega),← List.getD_eq_getElem?_getD,lieZ_get L k i h]
  by_cases q:k ≤ j ∧ j < i
  ·rw [if_pos q,if_pos ⟨q.1,by omega⟩]
  ·rw [if_neg q,if_neg (by omega)]
structure LieOK (A L:List Dig) (k:Nat):Prop where
 hk:k < L.length
 len:A.length ≤ L.length
 eq:∀ j:Int,0 ≤ j → j < (k:Int) → atL A j padL = atL L j padL
 ne:atL A (k:Int) padL ≠ atL L (k:Int) padL
theorem lieZ_ok (L:List Dig) {k:Nat} (hk:k < L.length):LieOK (lieZ L k L.length) L k := by
 refine ⟨hk,by rw [yb8]; exact Nat.le_refl _,fun j h0 h1 => ?_,?_⟩
 ·obtain ⟨j,rfl⟩ := Int.eq_ofNat_of_zero_le h0
  rw [atL_nat (by rw [yb8]; omega),atL_nat (by omega),lieZ_get L k _ (by omega),if_neg (by omega)]
 ·rw [atL_nat (by rw [yb8]; omega),atL_nat hk,lieZ_get L k _ hk,if_pos ⟨Nat.le_refl _,hk⟩]
  exact flip_ne _ (by decide) (by decide)
theorem take_ok (L:List Dig) {k:Nat} (hk:k < L.length) (hp:padB L = false):LieOK (L.take k) L k := by
 have hl:(L.take k).length = k := by rw [List.length_take]; omega
 refine ⟨hk,by omega,fun j h0 h1 => ?_,?_⟩
 ·obtain ⟨j,rfl⟩ := Int.eq_ofNat_of_zero_le h0
  rw [atL_nat (by omega),atL_nat (by omega),List.getD_eq_getElem?_getD,List.getElem?_take_of_lt (by omega),List.getD_eq_getElem?_getD]
 ·rw [at_end _ _ _ (by omega),atL_nat hk]
  intro h
  refine padB_no hp (L.getD k default) ?_ h.symm
  rw [List.getD_eq_getElem?_getD,List.getElem?_eq_getElem hk]
  exact List.getElem_mem _
theorem LieOK.path {A L:List Dig} {k N:Nat} (h:LieOK A L k) (hl:L.length ≤ 65536) (hN:hgt A L = (N:Int)) (hc:coinU A L (k:Int) N = false):nodeL A N 0 ≠ nodeL L N 0 ∧ idxS A L N N = (k:Int) ∧ yag (L.length:Int) = (N:Int) := by
 have hm:max (A.length:Int) (L.length:Int) = (L.length:Int) := by have := h.len; omega
 have hgl:hgt A L = yag (L.length:Int) := by unfold hgt; rw [hm]
 have hk := h.hk
 have hkN:(k:Int) < 2 ^ N := by
  have := depthL_le (n := (L.length:Int)) (by omega) (by omega)
  rw [← hgl,hN,Int.toNat_natCast] at this
  omega
 have hd:∀ n:Nat,n ≤ N → nodeL A n ((k:Int) / 2 ^ n) ≠ nodeL L n ((k:Int) / 2 ^ n) := by
  intro n hn
  by_cases h0:n = 0
  ·subst h0
   rw [Int.pow_zero,Int.ediv_one]
   exact h.ne
  ·exact coinU_no hc n (by omega) hn
 refine ⟨?_,idxS_end (by omega) hkN hd h.eq,by rw [← hgl,hN]⟩
 have := hd N (Nat.le_refl _)
 rwa [Int.ediv_eq_zero_of_lt (by omega) hkN] at this
end Go.Proofs.YtlleccmnjpcogaaDoor.PI
namespace Go.Proofs.YtlleccmnjpcogaaDoor.PI
open Go
set_option linter.unusedSimpArgs false
set_option maxHeartbeats 8000000
set_option maxRecDepth 20000
set_option linter.unusedVariables false
noncomputable def sp_at39:List D → Option D := spOf (α := List Dig × Int) (fun a => [.slc (nz 32 (a.1.map digD)) (a.1.map digD) false,.int .i64 a.2]) (fun a => 0 ≤ a.2) (fun a => digD (atL a.1 a.2 padL))
theorem call_at39 (l:List Dig) (i:Int) (h:0 ≤ i):sp_at39 [.slc (nz 32 (l.map digD)) (l.map digD) false,.int .i64 i] = some (digD (atL l i padL)) :=
 yad (fun ⟨a0,a1⟩ ⟨b0,b1⟩ h => by simp only [List.cons.injEq,D.slc.injEq,D.int.injEq,ydv,true_and,and_true] at h; simp [h]) (l,i) h
theorem w_at39 (l:List Dig) (i:Int) (h:0 ≤ i):@wW GG (tb [(14,sp_mPad)] []) ycl.code (argF [.slc (nz 32 (l.map digD)) (l.map digD) false,.int .i64 i]) [] ⟨retQ ycl.res (digD (atL l i padL))⟩ := by
 have cp := call_mPad
 have e0:¬ i < 0 := by omega
 unfold ycl
 by_cases hl:i < (l.length:Int)
 ·have e1:¬ (l.length:Int) ≤ i := by omega
  have e2:atL l i padL = l.getD i.toNat default := by unfold atL; rw [if_pos hl]
  rw [e2]
  simp (disch:=first|omega|decide) only [push_cast,↓reduceIte,Nat.reduceEqDiff,e0,e1,ydm,load_edig]
 ·have e1:(l.length:Int) ≤ i := by omega
  rw [at_end l i padL (by omega)]
  simp (disch:=first|omega|decide) only [push_cast,↓reduceIte,Nat.reduceEqDiff,e0,e1,cp]
theorem c_at39:Contract Tryd.prog GG 32 sp_at39 :=
 yab tr_wagonpoollaw39_at (tb_ok (all_cons c_mPad all_nil) all_nil) (fun a h => w_at39 a.1 a.2 h)
noncomputable def sp_coinc:List D → Option D := spOf (α := List Dig × List Dig × Int) (fun a => [.slc (nz 32 (a.1.map digD)) (a.1.map digD) false,.slc (nz 32 (a.2.1.map digD)) (a.2.1.map digD) false,.int .i64 a.2.2]) (fun a => a.1.length ≤ 64 ∧ a.2.1.length ≤ 64 ∧ 0 ≤ a.2.2 ∧ a.2.2 < 65536) (fun a => .bool (coinB a.1 a.2.1 a.2.2))
theorem call_coinc (a:List Dig) (b:List Dig) (k:Int) (h:a.length ≤ 64 ∧ b.length ≤ 64 ∧ 0 ≤ k ∧ k < 65536):sp_coinc [.slc (nz 32 (a.map digD)) (a.map digD) false,.slc (nz 32 (b.map digD)) (b.map digD) false,.int .i64 k] = some (.bool (coinB a b k)) :=
 yad (fun ⟨a0,a1,a2⟩ ⟨b0,b1,b2⟩ h => by simp only [List.cons.injEq,D.slc.injEq,D.int.injEq,ydv,true_and,and_true] at h; simp [h]) (a,b,k) h
theorem w_coinc (a:List Dig) (b:List Dig) (k:Int) (h:a.length ≤ 64 ∧ b.length ≤ 64 ∧ 0 ≤ k ∧ k < 65536):@wW GG (tb [(19,sp_padded39),(13,ydq),(28,sp_mNode)] []) ybc.code (argF [.slc (nz 32 (a.map digD)) (a.map digD) false,.slc (nz 32 (b.map digD)) (b.map digD) false,.int .i64 k]) [] ⟨retQ ybc.res (.bool (coinB a b k))⟩ := by
 obtain ⟨ha,hb,hk0,hk1⟩ := h
 have hr := hgt_rangeN a b (by omega) (by omega)
 have cpd := call_padded39 b (by omega)
 have cd:ydq [.int .i64 (max (a.length:Int) (b.length:Int))] = some (.int .i64 (hgt a b)) := yc7 _
 obtain ⟨N,hN⟩:∃ N:Nat,hgt a b = (N:Int) := ⟨(hgt a b).toNat,by omega⟩
 rw [hN] at cd
 have tn:∀ (d:Dig) (q:Bool),(D.tup [digD d,.bool q]).noRef = true := fun d q => by simp [D.noRef,digD,noRef_digA,D.noRef1]
 unfold ybc coinB
 rw [hN,Int.toNat_natCast]
 cases hpb:padB b with
 | true =>
  rw [hpb] at cpd
  simp (disch:=first|omega|decide) only [push_cast,↓reduceIte,Nat.reduceEqDiff,cpd]
 | false =>
  rw [hpb] at cpd
  rw [Bool.false_or]
  simp (disch:=first|omega|decide) only [push_cast,↓reduceIte,Nat.reduceEqDiff,cpd]
  refine yax (fun i:Nat => [(0,.slc (nz 32 (a.map digD)) (a.map digD) false),(1,.slc (nz 32 (b.map digD)) (b.map digD) false),(2,.int .i64 k),(7,.int .i64 ((i:Int) + 1))]) (fun _ => []) (fun i => i ≤ N ∧ coinU a b k i = false) (fun i => N - i) 0 (by simp only [push_cast,↓reduceIte,Nat.reduceEqDiff,Int.reduceAdd,↓Int.reduceNatCast'] <;> rfl) ⟨by omega,rfl⟩ ?_
  rintro i ⟨hi,hc⟩
  unfold ycy
  by_cases hlt:i < N
  ·have q:(i:Int) + 1 ≤ (N:Int) := by omega
   have ti:((i:Int) + 1).toNat = i + 1 := by omega
   have hp:(0:Int) < 2 ^ (i + 1) := Int.pow_pos (by decide)
   have h0:0 ≤ k / 2 ^ (i + 1) := Int.ediv_nonneg hk0 (by omega)
   have h1:k / 2 ^ (i + 1) < 2 ^ (16 - ((i:Int) + 1)).toNat := by
    refine Int.ediv_lt_of_lt_mul hp ?_
    rw [← Int.pow_add,show (16 - ((i:Int) + 1)).toNat + (i + 1) = 16 by omega]
    exact hk1
   have n1 := nodeR_in a ((i:Int) + 1) (k / 2 ^ (i + 1)) (by omega) (by omega) (by omega) h0 h1
   have n2 := nodeR_in b ((i:Int) + 1) (k / 2 ^ (i + 1)) (by omega) (by omega) (by omega) h0 h1
   rw [ti] at n1 n2
   by_cases e:nodeL a (i + 1) (k / 2 ^ (i + 1)) = nodeL b (i + 1) (k / 2 ^ (i + 1))
   ·rw [coinU_yes hlt e]
    simp (disch:=first|omega|decide) only [push_cast,↓reduceIte,Nat.reduceEqDiff,cd,q,shr_s,call_mNode,ti,n1,n2,tn,e]
   ·simp (disch:=first|omega|decide) only [push_cast,↓reduceIte,Nat.reduceEqDiff,Nat.reduceAdd,cd,q,shr_s,call_mNode,ti,n1,n2,tn,e,add_i]
    refine yae (i + 1) ⟨by omega,by rw [coinU_succ,hc]; simp [e]⟩ (by omega) ?_
    simp only [push_cast] <;> rfl
  ·obtain rfl:i = N := by omega
   have q:¬ (i:Int) + 1 ≤ (i:Int) := by omega
   rw [hc]
   simp (disch:=first|omega|decide) only [push_cast,↓reduceIte,Nat.reduceEqDiff,cd,q]
theorem c_coinc:Contract Tryd.prog GG 11 sp_coinc :=
 yab tr_wagonpoollaw39_coincide (tb_ok (all_cons c_padded39 (all_cons c_mDepth (all_cons c_mNode all_nil))) all_nil) (fun a h => w_coinc a.1 a.2.1 a.2.2 h)
theorem idxV_ss0 (x y:D):pidxV 2 1 false (.agg [x,y]) (.int .i64 0) = some x := (rfl)
theorem idxV_ss1 (x y:D):pidxV 2 1 false (.agg [x,y]) (.int .i64 1) = some y := (rfl)
theorem renB_bis (n:Nat) (σ:List Nat) (x:Bis):(bisC x).map (ren n σ) = bisC x := yd5 n σ (bisC_solid x)
theorem hkB_bis (x:Bis):(bisC x).flatMap hk = [] := hkB_solid (bisC_solid x)
theorem renB_d2 (n:Nat) (σ:List Nat) (a b:Dig):(d2C a b).map (ren n σ) = d2C a b := yd5 n σ (d2C_solid a b)
theorem hkB_d2 (a b:Dig):(d2C a b).flatMap hk = [] := hkB_solid (d2C_solid a b)
noncomputable def sp_bisn:List D → Option D := spOf (α := List Dig × List Dig) (fun a => [.slc (nz 32 (a.1.map digD)) (a.1.map digD) false,.slc (nz 32 (a.2.map digD)) (a.2.map digD) false]) (fun a => (a.1.length:Int) ≤ 65536 ∧ (a.2.length:Int) ≤ 65536 ∧ nodeL a.1 (hgt a.1 a.2).toNat 0 ≠ nodeL a.2 (hgt a.1 a.2).toNat 0) (fun a => .tup [.int .i64 (idxS a.1 a.2 (hgt a.1 a.2) (hgt a.1 a.2).toNat),.int .i64 (hgt a.1 a.2),.bool true])
theorem call_bisn (a:List Dig) (b:List Dig) (h:(a.length:Int) ≤ 65536 ∧ (b.length:Int) ≤ 65536 ∧ nodeL a (hgt a b).toNat 0 ≠ nodeL b (hgt a b).toNat 0):sp_bisn [.slc (nz 32 (a.map digD)) (a.map digD) false,.slc (nz 32 (b.map digD)) (b.map digD) false] = some (.tup [.int .i64 (idxS a b (hgt a b) (hgt a b).toNat),.int .i64 (hgt a b),.bool true]) :=
 yad (fun ⟨a0,a1⟩ ⟨b0,b1⟩ h => by simp only [List.cons.injEq,D.slc.injEq,ydv,and_true] at h; simp [h]) (a,b) h
theorem w_bisn (a:List Dig) (b:List Dig) (h:(a.length:Int) ≤ 65536 ∧ (b.length:Int) ≤ 65536 ∧ nodeL a (hgt a b).toNat 0 ≠ nodeL b (hgt a b).toNat 0):@wW GG (tb [(29,sp_mRoot),(30,sp_bBegin),(31,sp_bDone),(33,sp_bAns),(34,sp_bDisc),(32,sp_at39)] []) ya8.code (argF [.slc (nz 32 (a.map digD)) (a.map digD) false,.slc (nz 32 (b.map digD)) (b.map digD) false]) [] ⟨retQ ya8.res (.tup [.int .i64 (idxS a b (hgt a b) (hgt a b).toNat),.int .i64 (hgt a b),.bool true])⟩ := by
 obtain ⟨ha,hb,hne⟩ := h
 have hr := hgt_rangeN a b ha hb
 obtain ⟨g1,g2⟩ := begin_listsN a b ha hb
 have c1 := call_bBegin (rootL a) (rootL b)
 rw [g1,g2,if_neg hne,if_neg hne,stK_zero] at c1
 have m1 := call_mRoot a
 have m2 := call_mRoot b
 have ea:errL a = 0 := by unfold errL; rw [if_pos ha]
 have eb:errL b = 0 := by unfold errL; rw [if_pos hb]
 rw [ea] at m1
 rw [eb] at m2
 obtain ⟨N,hN⟩:∃ N:Nat,hgt a b = (N:Int) := ⟨(hgt a b).toNat,by omega⟩
 rw [hN] at c1 ⊢
 rw [Int.toNat_natCast]
 have ce := done_endN a b (N := N) (by omega)
 have hrN := idxS_range a b N N (by omega)
 have ca := call_at39 a (idxS a b N N) hrN.1
 have cb := call_at39 b (idxS a b N N) hrN.1
 have a3:∀ x y:Dig,decide (x = x ∧ y = y) = true := fun _ _ => by simp
 unfold ya8
 simp (disch:=first|omega|decide) only [push_cast,↓reduceIte,Nat.reduceEqDiff,Nat.reduceAdd,m1,m2,c1]
 refine yax (fun k:Nat => [(0,.slc (nz 32 (a.map digD)) (a.map digD) false),(1,.slc (nz 32 (b.map digD)) (b.map digD) false),(11,.ptr 2 0),(13,.int .i64 (k:Int))]) (fun k => [⟨false,1,.int .i64 (rootL a).1 :: digC (rootL a).2,false⟩,⟨false,1,.int .i64 (rootL b).1 :: digC (rootL b).2,false⟩,⟨false,1,bisC (stK a b N k),false⟩]) (fun k => k ≤ N) (fun k => N - k) 0 (by simp only [push_cast,↓reduceIte,Nat.reduceEqDiff,Nat.reduceLT,Nat.reduceLeDiff,Nat.reduceAdd,↓Int.reduceNatCast',renB_bis,hkB_bis] <;> rfl) (by omega) ?_
 intro k hk
 have hr2 := idxS_range a b N k (by omega)
 have q20:(k:Int) < 20 := by omega
 unfold ycp
 by_cases hlt:(k:Int) < (N:Int)
 ·have cd := done_early a b hlt
  obtain ⟨⟨t1,t2⟩,t3,t4⟩ := two_disc a b (h := N) (lv := (N:Int) - k) (i := idxS a b N k) (p := 0) (.inl rfl) (by omega) (by omega) (by omega) hr2.1 hr2.2
  obtain ⟨x1,x2,x3⟩ := ans_st a b a (h := N) (lv := (N:Int) - k) (i := idxS a b N k) (by omega) (by omega) (by omega) (by omega) hr2.1 hr2.2
  obtain ⟨y1,y2,y3⟩ := ans_st a b b (h := N) (lv := (N:Int) - k) (i := idxS a b N k) (by omega) (by omega) (by omega) (by omega) hr2.1 hr2.2
  simp only [if_true] at t1 t2 t3 t4
  simp (disch:=first|omega|decide) only [push_cast,↓reduceIte,Nat.reduceEqDiff,Nat.reduceAdd,q20,cd]
  have d1 := call_bAns a (stK a b N k)
  have d2 := call_bAns b (setB (stK a b N k) 0 (nodeL a ((N:Int) - k - 1).toNat (2 * idxS a b N k)) (nodeL a ((N:Int) - k - 1).toNat (2 * idxS a b N k + 1)))
  have e1:∀ (s:List Dig) (x:Bis) (l r:Dig),ansE s (setB x 0 l r) = ansE s x ∧ ansL s (setB x 0 l r) = ansL s x ∧ ansR s (setB x 0 l r) = ansR s x := fun _ _ _ _ => ⟨rfl,rfl,rfl⟩
  rw [(e1 ..).1,(e1 ..).2.1,(e1 ..).2.2] at d2
  rw [show stK a b N k = stAt a b N ((N:Int) - k) (idxS a b N k) from rfl] at d1 d2
  rw [x1,x2,x3] at d1
  rw [y1,y2,y3] at d2
  have d3 := call_bDisc (stAt a b N ((N:Int) - k) (idxS a b N k)) 0 (nodeL a ((N:Int) - k - 1).toNat (2 * idxS a b N k)) (nodeL a ((N:Int) - k - 1).toNat (2 * idxS a b N k + 1)) (by decide)
  rw [t1,t2] at d3
  have d4 := call_bDisc (setB (stAt a b N ((N:Int) - k) (idxS a b N k)) 0 (nodeL a ((N:Int) - k - 1).toNat (2 * idxS a b N k)) (nodeL a ((N:Int) - k - 1).toNat (2 * idxS a b N k + 1))) (1 - 0) (nodeL b ((N:Int) - k - 1).toNat (2 * idxS a b N k)) (nodeL b ((N:Int) - k - 1).toNat (2 * idxS a b N k + 1)) (by decide)
  rw [t3,t4,stK_succ,show (1:Int) - 0 = 1 from rfl] at d4
  rw [show stAt a b N ((N:Int) - k) (idxS a b N k) = stK a b N k from rfl] at d1 d2 d3 d4
  generalize nodeL a ((N:Int) - k - 1).toNat (2 * idxS a b N k) = al at *
  generalize nodeL a ((N:Int) - k - 1).toNat (2 * idxS a b N k + 1) = ar at *
  generalize nodeL b ((N:Int) - k - 1).toNat (2 * idxS a b N k) = bl at *
  generalize nodeL b ((N:Int) - k - 1).toNat (2 * idxS a b N k + 1) = br at *
  refine yax (fun p:Nat => [(0,.slc (nz 32 (a.map digD)) (a.map digD) false),(1,.slc (nz 32 (b.map digD)) (b.map digD) false),(11,.ptr 2 0),(13,.int .i64 (k:Int)),(17,.int .i64 (p:Int))]) (fun p => [⟨false,1,.int .i64 (rootL a).1 :: digC (rootL a).2,false⟩,⟨false,1,.int .i64 (rootL b).1 :: digC (rootL b).2,false⟩,⟨false,1,bisC (match p with | 0 => stK a b N k | 1 => setB (stK a b N k) 0 al ar | _ => stK a b N (k + 1)),false⟩,⟨false,1,d2C yac yac,false⟩]) (fun p => p ≤ 2) (fun p => 2 - p) 0 (by simp only [push_cast,↓reduceIte,Nat.reduceEqDiff,Nat.reduceLT,Nat.reduceLeDiff,Nat.reduceAdd,↓Int.reduceNatCast',renB_bis,hkB_bis,renB_d2,hkB_d2] <;> rfl) (by omega) ?_
  intro p hp
  have hp3:p = 0 ∨ p = 1 ∨ p = 2 := by omega
  unfold ycq
  rcases hp3 with rfl | rfl | rfl
  ·simp (disch:=first|omega|decide) only [push_cast,↓yb4,↓reduceIte,Nat.reduceEqDiff,Nat.reduceLT,Nat.reduceLeDiff,Nat.reduceAdd,Int.reduceLT,Int.reduceAdd,↓Int.reduceNatCast',fill_ss,idxV_ss0,d1,d3,add_i,renB_bis,hkB_bis,renB_d2,hkB_d2]
   exact yae 1 (by omega) (by omega) rfl
  ·simp (disch:=first|omega|decide) only [push_cast,↓yb4,↓reduceIte,Nat.reduceEqDiff,Nat.reduceLT,Nat.reduceLeDiff,Nat.reduceAdd,Int.reduceLT,Int.reduceAdd,↓Int.reduceNatCast',fill_ss,idxV_ss1,d2,d4,add_i,renB_bis,hkB_bis,renB_d2,hkB_d2]
   exact yae 2 (by omega) (by omega) rfl
  ·simp (disch:=first|omega|decide) only [push_cast,↓reduceIte,Nat.reduceEqDiff,Nat.reduceLT,Nat.reduceLeDiff,Nat.reduceAdd,Int.reduceLT,↓Int.reduceNatCast',add_i,renB_bis,hkB_bis]
   refine yae (k + 1) (by omega) (by omega) ?_
   simp only [push_cast] <;> rfl
 ·obtain rfl:k = N := by omega
  have er:(stK a b k k).r = (k:Int) := stK_r a b k k
  simp (disch:=first|omega|decide) only [push_cast,↓reduceIte,Nat.reduceEqDiff,Nat.reduceAdd,q20,ce,ca,cb,er]
theorem c_bisn:Contract Tryd.prog GG 12 sp_bisn :=
 yab tr_wagonpoollaw39_bisection (tb_ok (all_cons c_mRoot (all_cons c_bBegin (all_cons c_bDone (all_cons c_bAns (all_cons c_bDisc (all_cons c_at39 all_nil)))))) all_nil) (fun a h => w_bisn a.1 a.2 h)
end Go.Proofs.YtlleccmnjpcogaaDoor.PI
namespace Go.Proofs.YtlleccmnjpcogaaDoor.PI
open Go
set_option linter.unusedSimpArgs false
set_option linter.unusedVariables false
theorem xor_1b (y:UInt8):pbin .xor (byteD y) (.int .u8 1) = some (byteD (y ^^^ 1)) := xor_b y 1
theorem idxA_rp (st:St) (n sz key tot i off:Nat) (k:IntKind) (j:Int) (h0:0 ≤ j) (h1:j < (n:Int)):pidxA st n sz (.rptr key tot i off) (.int k j) = if live st key tot = true then some (.rptr key tot i (off + j.toNat * sz)) else none := by
 have:j.toNat < n := by omega
 simp [pidxA,natOf,h0,this,pfld]
theorem verdF_2 {Y M:Dig} (h:Y ≠ M):verdF (Y,M) (M,0) = (1,M) := by
 unfold verdF; rw [if_pos rfl]
 have := judge_mine M Y true
 simp only [if_true,if_neg h] at this
 exact congrArg (fun q => (q,M)) this
theorem reR_part0 {α:Type} (f:α → D) (sz:Nat) (A:List α) (lent:Bool) (len:Nat) (h:len ≤ A.length):reR (some ⟨true,sz,A.map f,lent⟩) A.length 0 len = some (sz,(A.take len).map f) := by
 rw [reR_part f sz A lent 0 len (by omega),List.drop_zero]
theorem st_cl0 (a b y:Dig):stO (some ⟨false,1,digC a ++ digC b,false⟩) 32 0 (digD y) = some ⟨false,1,digC y ++ digC b,false⟩ :=
 yc1 (A := []) (B := digC a) (C := digC b) (xs := digC y) rfl rfl rfl (yaa a) rfl (yaa y) (ybs y)
set_option maxHeartbeats 4000000 in
set_option maxRecDepth 20000 in
theorem lw_ArbiterBisects (c:List Ins) (hc:c.length ≤ maxLen) (v:Int × List Int) (hv:v.2.length = 16) (k:Int) (hk1:-9223372036854775808 ≤ k) (hk2:k < 9223372036854775808) (sh:Bool):@wW GG (tb [(8,sp_sane39),(9,sp_run),(10,sp_few39),(14,sp_mPad),(15,sp_aFirst),(16,sp_state),(18,sp_vOpen),(17,sp_aStep),(13,ydq),(11,sp_coinc),(12,sp_bisn)] []) yas.code (argF [.slc (nz 3 (c.map insD)) (c.map insD) false,evD v,.int .i64 k,.bool sh]) [] ⟨retQ yas.res (.bool true)⟩ := by
 have hc':c.length ≤ 9223372036854775807 := Nat.le_trans hc maxL
 have hvv:vOK v := hv
 have csn := call_sane39
 have cp := call_mPad
 have cf:sp_few39 [.slc (nz 3 (c.map insD)) (c.map insD) false,.slc 0 [] false] = some (.bool (decide (c.length ≤ 30 ∧ 0 ≤ 66))) := call_few39 c []
 have cr := call_run c v ⟨hc',hvv⟩
 unfold yas
 by_cases hf:c.length ≤ 30
 ·by_cases he:(yam c).2 = 0
  ·obtain ⟨hcl,hcn,hfm,_⟩ := yea he
   obtain ⟨Dm,tl,hD,ht,hr,hll,hg⟩ := trace_ok (v := v) he
   have hstk := trace_len (v := v) he
   obtain ⟨R,hR⟩:∃ R,runF c v = R := ⟨_,rfl⟩
   have hRc:R.code = c := by rw [← hR]; unfold runF; rw [if_pos he]
   have hRe:R.env = v := by rw [← hR]; unfold runF; rw [if_pos he]
   obtain ⟨L,hL⟩:∃ L,R.lv = L := ⟨_,rfl⟩
   have hLt:L = (traceL c v).map (digF c v) := by rw [← hL,← hR]; unfold runF; rw [if_pos he]
   have hn:L.length = tl.length + 1 := by rw [hLt,ht]; simp
   have hvR:vOK R.env := by rw [hRe]; exact hvv
   rw [hR,he] at cr
   have ld_lv:∀ lent,ldO (some ⟨false,1,derC (cdD R.code) R.env R.am R.er (lvD R.lv),lent⟩) 1 false 20 = some (.slc (nz 32 (L.map digD)) (L.map digD) false) := fun lent => by rw [ld_derL hvR,hL]; rfl
   have n1:¬ (L.length:Int) = 0 := by omega
   have n2:¬ (31:Int) < (L.length:Int) := by omega
   have k0:0 ≤ k % 18446744073709551616 := Int.emod_nonneg _ (by decide)
   have i0:0 ≤ (k % 18446744073709551616) % (L.length:Int) := Int.emod_nonneg _ (by omega)
   have i1:(k % 18446744073709551616) % (L.length:Int) < (L.length:Int) := Int.emod_lt_of_pos _ (by omega)
   obtain ⟨j,hj⟩ := Int.eq_ofNat_of_zero_le i0
   rw [hj] at i1
   have hjl:j < L.length := by omega
   have hI := hj
   have hm64:(L.length:Int) % 18446744073709551616 = (L.length:Int) := by omega
   have hLn:L ≠ [] := by intro e; rw [e] at hn; simp at hn
   have pa:∀ o0 o1:PI.Obj,papp [o0,o1] 32 32 (.slc 32 [] true) (.slc (nz 32 (L.map digD)) (L.map digD) false) = some (.row 2 L.length 0 L.length,[o0,o1,⟨true,32,L.map digD,false⟩]) := fun o0 o1 => by
    have := papp_bufm digD 32 32 32 [] L false (by decide) (by simp; omega) (by simp; omega) [o0,o1] _ (nz_or _ _)
    simpa [bufD,bufS,hLn] using this
   have a2:∀ x:Int,decide (x = x) = true := fun _ => by simp
   have a4:∀ x:Int,decide (x < x) = false := fun _ => by simp
   have tn3:∀ (a b:Int) (q:Bool),(D.tup [.int .i64 a,.int .i64 b,.bool q]).noRef = true := fun _ _ _ => rfl
   have hlt:(j:Int) < (L.length:Int) := by omega
   obtain ⟨M,hM⟩:∃ M,L.getD j default = M := ⟨_,rfl⟩
   -- what the arbiter says of the first leaf,and of a later one
   have F0:∀ Y,Y ≠ M → j = 0 → sp_aFirst [.slc (nz 3 (c.map insD)) (c.map insD) false,evD v,.agg (digC Y ++ digC M)] = some (.tup [verD (1,M),.int .i64 0]) := by
    intro Y hY hj0
    subst hj0
    have hfd:ydh c v = (M,0) := by
     rw [← hM]
     unfold ydh
     rw [if_neg (by omega),if_neg (by simp [he]),hLt,ht]; rfl
    have a1 := call_aFirst c v (Y,M) ⟨hc',hvv⟩
    rw [hfd,verdF_2 hY] at a1
    exact a1
   have F1:∀ i,j = i + 1 → padB L = false → ∃ s,L.getD i default = digF c v s ∧ sp_state [derD R,.int .i64 (i:Int)] = some (.tup [staD s,.int .i64 0]) ∧ sp_vOpen [staD s,.int .i64 2] = some (opnD (openF s 2)) ∧
     ∀ Y,Y ≠ M → sp_aStep [.slc (nz 3 (c.map insD)) (c.map insD) false,evD v,digD (digF c v s),.agg (digC Y ++ digC M),opnD (openF s 2)] = some (.tup [verD (1,M),.int .i64 0]) := by
    intro i hji hpb
    subst hji
    have hnp := padB_no hpb
    have htl:(traceL c v).length = L.length := by rw [hLt]; simp
    obtain ⟨s,hs⟩:∃ s,(traceL c v)[i]? = some s := ⟨_,List.getElem?_eq_getElem (by omega)⟩
    have hLi:L.getD i default = digF c v s := by rw [hLt,List.getD_eq_getElem?_getD,List.getElem?_map,hs]; rfl
    have hsl := hstk s (List.mem_of_getElem? hs)
    have hpp:¬ digF c v s = padL := by
     rw [← hLi]
     refine hnp _ ?_
     rw [List.getD_eq_getElem?_getD,List.getElem?_eq_getElem (show i < L.length by omega)]
     exact List.getElem_mem _
    have hnm := next_mine (ht ▸ hr) hstk hs hpp
    have hLj:(L[i + 1]?).getD padL = M := by rw [← hM,List.getD_eq_getElem?_getD,List.getElem?_eq_getElem hjl]; rfl
    rw [← hLt,hLj] at hnm
    have cst := call_state R (i:Int) ⟨by rw [hRc]; exact hc',hvR⟩
    rw [hRc,hRe,show staF c v (i:Int) = (s,0) by unfold staF; rw [if_pos he,if_neg (by omega),Int.toNat_natCast,hs]] at cst
    refine ⟨s,hLi,cst,call_vOpen s 2 (by omega),fun Y hY => ?_⟩
    have a1 := call_aStep c v (digF c v s) (Y,M) (openF s 2) ⟨by omega,hvv,by simp only [openF,List.length_drop]; omega⟩
    rw [hnm,verdF_2 hY] at a1
    exact a1
   -- the bisection
   have B1:∀ A:List Dig,A.length ≤ L.length → sp_coinc [.slc (nz 32 (A.map digD)) (A.map digD) false,.slc (nz 32 (L.map digD)) (L.map digD) false,.int .i64 (j:Int)] = some (.bool (coinB A L (j:Int))) := fun A hAl => call_coinc A L (j:Int) ⟨by omega,by omega,by omega,by omega⟩
   have B:∀ A,LieOK A L j → (coinB A L (j:Int) = false → padB L = false ∧ ∃ N:Nat,sp_bisn [.slc (nz 32 (A.map digD)) (A.map digD) false,.slc (nz 32 (L.map digD)) (L.map digD) false] = some (.tup [.int .i64 (j:Int),.int .i64 (N:Int),.bool true]) ∧ ydq [.int .i64 (L.length:Int)] = some (.int .i64 (N:Int))) := by
    intro A hA
    have hAl := hA.len
    intro hc
    have hcb:padB L = false ∧ coinU A L (j:Int) (hgt A L).toNat = false := by unfold coinB at hc; simpa using hc
    have hgr := hgt_rangeN A L (by omega) (by omega)
    obtain ⟨N,hN⟩:∃ N:Nat,hgt A L = (N:Int) := ⟨(hgt A L).toNat,by omega⟩
    rw [hN,Int.toNat_natCast] at hcb
    obtain ⟨p1,p2,p3⟩ := hA.path (by omega) hN hcb.2
    have cbi := call_bisn A L ⟨by omega,by omega,by rw [hN,Int.toNat_natCast]; exact p1⟩
    rw [hN,Int.toNat_natCast,p2] at cbi
    exact ⟨hcb.1,N,cbi,by rw [yc7,p3]⟩
   cases sh with
   | true =>
    have cc := B1 (L.take j) (by rw [List.length_take]; omega)
    cases hcb:coinB (L.take j) L (j:Int) with
    | true =>
     rw [hcb] at cc
     by_cases hj0:j = 0
     ·subst hj0
      have h0L:¬ 0 = L.length := by omega
      rw [List.take_zero,List.map_nil,show nz 32 ([]:List D) = 0 from rfl,show ((0:Nat):Int) = 0 from rfl] at cc
      simp (disch:=first|omega|decide) only [push_cast,↓reduceIte,Nat.reduceEqDiff,↓Int.reduceNatCast',csn,cf,cr,hf,yby,ld_ev hvv,yco,yc5,box_21,st_derX hvR,ld_lv,and_self,true_and,decide_true,n1,n2,conv_kU,hm64,rem_uA,conv_ui,hI,pa,slR_row,h0L,cc]
     ·obtain ⟨i,rfl⟩:∃ i,j = i + 1 := ⟨j - 1,by omega⟩
      have htn:((i:Int) + 1).toNat = i + 1 := by omega
      have h1L:¬ i + 1 = L.length := by omega
      have h01:¬ 0 = i + 1 := by omega
      rw [show ((i + 1:Nat):Int) = (i:Int) + 1 by omega] at cc
      simp (disch:=first|omega|decide) only [push_cast,↓reduceIte,Nat.reduceEqDiff,csn,cf,cr,hf,yby,ld_ev hvv,yco,yc5,box_21,st_derX hvR,ld_lv,and_self,true_and,decide_true,n1,n2,conv_kU,hm64,rem_uA,conv_ui,hI,pa,slR_row,htn,h1L,h01,Nat.sub_zero,reR_part0,cc]
    | false =>
     rw [hcb] at cc
     have hpb0:padB L = false := by unfold coinB at hcb; exact (by simpa using hcb:padB L = false ∧ _).1
     obtain ⟨hpb,N,cb,cdp⟩ := B _ (take_ok L hjl hpb0) hcb
     have gA:padL ≠ M := by
      intro h
      refine padB_no hpb (L.getD j default) ?_ (hM.trans h.symm)
      rw [List.getD_eq_getElem?_getD,List.getElem?_eq_getElem hjl]
      exact List.getElem_mem _
     by_cases hj0:j = 0
     ·have f0 := F0 padL gA hj0
      subst hj0
      have h0L:¬ 0 = L.length := by omega
      rw [List.take_zero,List.map_nil,show nz 32 ([]:List D) = 0 from rfl,show ((0:Nat):Int) = 0 from rfl] at cc cb
      simp (disch:=first|omega|decide) only [push_cast,↓reduceIte,Nat.reduceEqDiff,Nat.reduceAdd,↓Int.reduceNatCast',csn,cf,cr,hf,yby,ld_ev hvv,yco,yc5,box_21,st_derX hvR,ld_lv,and_self,true_and,decide_true,n1,n2,conv_kU,hm64,rem_uA,conv_ui,hI,cp,pa,fill_clT,box_cl0,st_clA,ld_clA,immL_cl,key_cl,ydm,a4,tn3,hM,cb,cdp,verD,slR_row,h0L,cc,f0]
     ·obtain ⟨i,rfl⟩:∃ i,j = i + 1 := ⟨j - 1,by omega⟩
      have hji:((i:Int) + 1) - 1 = (i:Int) := by omega
      have hj0':¬ ((i:Int) + 1) = 0 := by omega
      have htn:((i:Int) + 1).toNat = i + 1 := by omega
      have hj1:((i + 1:Nat):Int) = (i:Int) + 1 := by omega
      have hlt1:((i:Int) + 1) < (L.length:Int) := by omega
      have h1L:¬ i + 1 = L.length := by omega
      have h01:¬ 0 = i + 1 := by omega
      obtain ⟨s,hLi,cst,on,f1⟩ := F1 i rfl hpb
      have a1 := f1 padL gA
      rw [hj1] at cc cb
      simp (disch:=first|omega|decide) only [push_cast,↓reduceIte,Nat.reduceEqDiff,Nat.reduceAdd,csn,cf,cr,hf,yby,ld_ev hvv,yco,yc5,box_21,st_derX hvR,ld_derX hvR,imm_der,keys_der,ld_lv,and_self,true_and,decide_true,n1,n2,conv_kU,hm64,sub_i,rem_uA,conv_ui,hI,cp,pa,fill_clT,box_cl0,st_clA,ld_clA,immL_cl,key_cl,ydm,a4,tn3,hM,cb,cdp,verD,slR_row,h1L,h01,Nat.sub_zero,reR_part0,cc,hj0',imm_opn,keys_opn,ya5,yc0,ycw,ycs,yeg,hji,hj1,htn,hLi,cst,on,a1]
   | false =>
    simp (disch:=first|omega|decide) only [push_cast,↓reduceIte,Nat.reduceEqDiff,csn,cf,cr,hf,yby,ld_ev hvv,yco,yc5,box_21,st_derX hvR,ld_lv,and_self,decide_true,n1,n2,conv_kU,hm64,rem_uA,conv_ui,hI,pa]
    refine yax (fun i:Nat => [(0,.slc (nz 3 (c.map insD)) (c.map insD) false),(3,.bool false),(5,.ptr 0 0),(9,.ptr 1 0),(11,.int .i64 (j:Int)),(12,.row 2 L.length 0 L.length),(13,.int .i64 (i:Int))])
     (fun i => [⟨false,1,evC v,false⟩,⟨false,1,derC (cdD R.code) R.env R.am R.er (lvD R.lv),false⟩,⟨true,32,(lieZ L j i).map digD,false⟩]) (fun i => j ≤ i ∧ i ≤ L.length) (fun i => L.length - i) j
     (by rw [lieZ_0]; simp only [push_cast,↓reduceIte,Nat.reduceEqDiff,Nat.reduceLT,Nat.reduceLeDiff,Nat.reduceAdd,renC_der,hkC_der,renC_ev,hkC_ev] <;> rfl) ⟨Nat.le_refl _,by omega⟩ ?_
    rintro i ⟨hi1,hi2⟩
    obtain ⟨A,hA⟩:∃ A,lieZ L j i = A := ⟨_,rfl⟩
    have hAl:A.length = L.length := by rw [← hA,yb8]
    rw [hA]
    unfold yb3
    rw [← hAl]
    simp (disch:=first|omega|decide) only [push_cast,↓reduceIte,Nat.reduceEqDiff]
    refine yaf (fun h2 => ?_) (fun h2 => ?_)
    ·have hil:i < A.length := by omega
     have g1:A.getD i default = L.getD i default := by rw [← hA,lieZ_get L j i (by omega),if_neg (by omega)]
     have hS:A.set i ⟨(A.getD i default).bs.set 0 ((A.getD i default).bs.getD 0 0 ^^^ 1),by rw [List.length_set]; exact Dig.len _⟩ = lieZ L j (i + 1) := by
      rw [← lieZ_step L j i hi1 (by omega),hA]
      simp only [flipD,g1]
     simp (disch:=first|omega|decide) only [push_cast,↓reduceIte,Nat.reduceEqDiff,Nat.reduceLT,Nat.reduceLeDiff,Nat.reduceAdd,idxA_rp,Nat.zero_mul,ldR_b,xor_1b,pstor_rb,stRB_row,add_i,renC_der,hkC_der,renC_ev,hkC_ev]
     rw [hS]
     refine yae (i + 1) (by omega) (by omega) ?_
     simp only [push_cast] <;> rfl
    ·obtain rfl:i = L.length := by omega
     have hlo := lieZ_ok L hjl
     rw [hA] at hlo
     have hjA:j < A.length := by omega
     have gA:A.getD j default ≠ M := by
      have := hlo.ne
      rwa [atL_nat hjA,atL_nat hjl,hM] at this
     obtain ⟨Y,hY⟩:∃ Y,A.getD j default = Y := ⟨_,rfl⟩
     rw [hY] at gA
     have cc := B1 A (by omega)
     have bb := B A hlo
     cases hcb:coinB A L (j:Int) with
     | true =>
      rw [hcb] at cc
      simp (disch:=first|omega|decide) only [push_cast,↓reduceIte,Nat.reduceEqDiff,Nat.reduceAdd,ld_lv,cc]
     | false =>
      rw [hcb] at cc
      obtain ⟨hpb,N,cb,cdp⟩ := bb hcb
      by_cases hj0:j = 0
      ·have f0 := F0 Y gA hj0
       subst hj0
       rw [show ((0:Nat):Int) = 0 from rfl] at cc cb
       simp (disch:=first|omega|decide) only [push_cast,↓reduceIte,Nat.reduceEqDiff,Nat.reduceAdd,↓Int.reduceNatCast',ld_ev hvv,yco,yc5,ld_lv,decide_true,cp,fill_clT,box_cl0,st_clA,ld_clA,immL_cl,key_cl,ydm,a4,tn3,hM,cb,cdp,verD,yeh,Nat.zero_mul,st_cl0,hY,cc,f0]
      ·obtain ⟨i,rfl⟩:∃ i,j = i + 1 := ⟨j - 1,by omega⟩
       have hji:((i:Int) + 1) - 1 = (i:Int) := by omega
       have hj0':¬ ((i:Int) + 1) = 0 := by omega
       have htn:((i:Int) + 1).toNat = i + 1 := by omega
       have hj1:((i + 1:Nat):Int) = (i:Int) + 1 := by omega
       have hlt1:((i:Int) + 1) < (L.length:Int) := by omega
       obtain ⟨s,hLi,cst,on,f1⟩ := F1 i rfl hpb
       have a1 := f1 Y gA
       rw [hj1] at cc cb
       simp (disch:=first|omega|decide) only [push_cast,↓reduceIte,Nat.reduceEqDiff,Nat.reduceAdd,ld_ev hvv,yco,yc5,ld_derX hvR,imm_der,keys_der,ld_lv,decide_true,sub_i,cp,fill_clT,box_cl0,st_clA,ld_clA,immL_cl,key_cl,ydm,a4,tn3,hM,cb,cdp,verD,yeh,Nat.zero_mul,st_cl0,hY,cc,hj0',imm_opn,keys_opn,ya5,yc0,ycw,ycs,yeg,hji,hj1,htn,hLi,cst,on,a1]
  ·have hvR:vOK (runF c v).env := by rw [show runF c v = zDer from if_neg he]; rfl
   simp (disch:=first|omega|decide) only [push_cast,↓reduceIte,Nat.reduceEqDiff,csn,cf,cr,hf,he,yby,ld_ev hvv,yco,yc5,box_21,st_derX hvR,and_self,decide_true]
 ·by_cases he:(yam c).2 = 0
  ·have hvR:vOK (runF c v).env := by rw [show runF c v = _ from if_pos he]; exact hvv
   simp (disch:=first|omega|decide) only [push_cast,↓reduceIte,Nat.reduceEqDiff,csn,cf,cr,hf,he,yby,ld_ev hvv,yco,yc5,box_21,st_derX hvR,false_and,decide_false]
  ·have hvR:vOK (runF c v).env := by rw [show runF c v = zDer from if_neg he]; rfl
   simp (disch:=first|omega|decide) only [push_cast,↓reduceIte,Nat.reduceEqDiff,csn,cf,cr,hf,he,yby,ld_ev hvv,yco,yc5,box_21,st_derX hvR,false_and,decide_false]
theorem law_ArbiterBisects:Contract Tryd.prog GG 3 (lawSp [.slc tyIns,tyEv,.int .i64,.bool]) := by
 refine lawC tr_wagonpoollaw39_ArbiterBisects (T := tb [(8,sp_sane39),(9,sp_run),(10,sp_few39),(14,sp_mPad),(15,sp_aFirst),(16,sp_state),(18,sp_vOpen),(17,sp_aStep),(13,ydq),(11,sp_coinc),(12,sp_bisn)] []) (tb_ok (all_cons c_sane39 (all_cons c_run (all_cons c_few39 (all_cons c_mPad (all_cons c_aFirst (all_cons c_state (all_cons c_vOpen (all_cons c_aStep (all_cons c_mDepth (all_cons c_coinc (all_cons c_bisn all_nil))))))))))) all_nil) ?_
 intro xs h
 obtain ⟨x0,xs,rfl,h0,h⟩ := hasAll_cons h
 obtain ⟨x1,xs,rfl,h1,h⟩ := hasAll_cons h
 obtain ⟨x2,xs,rfl,h2,h⟩ := hasAll_cons h
 obtain ⟨x3,xs,rfl,h3,h⟩ := hasAll_cons h
 obtain rfl := hasAll_nil h
 obtain ⟨y0,rfl,ya0⟩ := has_code h0
 obtain ⟨y1,rfl,ya1⟩ := has_ev h1
 obtain ⟨y2,rfl,ya2,yb2⟩ := has_i64 h2
 obtain ⟨y3,rfl⟩ := has_bool h3
 exact lw_ArbiterBisects y0 ya0 y1 ya1 y2 ya2 yb2 y3
end Go.Proofs.YtlleccmnjpcogaaDoor.PI
