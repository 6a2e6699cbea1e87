/-
  The law: an honest party is right.
  Conditions: none; these are lemmas.
-/
import Derived.Test.YtlleccmnjpcogaaDoorArT
import Derived.Test.YtlleccmnjpcogaaDoorEngLaw
namespace Go.Proofs.YtlleccmnjpcogaaDoor.PI
open Go
set_option linter.unusedSimpArgs false
set_option linter.unusedVariables false
theorem adv_len (v:Int × List Int) (b:Int) (s:Sta) (x:Ins):(advF v b s x).stack.length ≤ s.stack.length + 1 := by
  have h:∀ o:Out,(outS (decS s) o).stack.length ≤ s.stack.length + 1 := by
    intro o
    cases o with
    | err e => exact Nat.le_succ _
    | set p t c => exact Nat.le_succ _
    | pop k push pc =>
      show (s.stack.take (s.stack.length - k) ++ push.toList).length ≤ _
      rw [List.length_append,List.length_take]
      have:push.toList.length ≤ 1 := by cases push <;> simp
      omega
  unfold advF
  split
  · exact Nat.le_succ _
  · exact h _
theorem stepO_len (c:List Ins) (v:Int × List Int) (o:Opn):(stepOF c v o).top.length ≤ o.top.length + 1 := by
  unfold stepOF
  split
  · exact adv_len v o.depth (opS o) _
  · simp [zOpn]
def stepD (c:List Ins) (v:Int × List Int) (b:Dig) (o:Opn):Dig × Int := if b = padL then (b,0) else if closeF c v o ≠ b then (zeroDig,390) else if o.status ≠ 0 then (padL,0) else (closeF c v (stepOF c v o),stepOE c o)
def s1R (ds:List D) (st:St) (r:D × St):Prop := ∃ (kb kc kv ko:Nat) (b:Dig) (c:List Ins) (v:Int × List Int) (o:Opn) (lb lc lv lo:Bool),StOK st ∧ ds = [.ptr kb 0,.ptr kc 0,.ptr kv 0,.ptr ko 0] ∧ st[kb]? = some ⟨false,1,digC b,lb⟩ ∧ st[kc]? = some ⟨false,1,[cdD c],lc⟩ ∧ st[kv]? = some ⟨false,1,evC v,lv⟩ ∧ st[ko]? = some ⟨false,1,opnC o,lo⟩ ∧ c.length ≤ 4294967296 ∧ vOK v ∧ o.top.length ≤ 4294967295 ∧
  r = (.tup [digD (stepD c v b o).1,.int .i64 (stepD c v b o).2],st)
theorem s1_fun:Fun1 s1R := by
  rintro ds st r r' ⟨kb,kc,kv,ko,b,c,v,o,lb,lc,lv,lo,_,rfl,h0,h1,h2,h3,_,_,_,rfl⟩ ⟨kb',kc',kv',ko',b',c',v',o',lb',lc',lv',lo',_,h,h0',h1',h2',h3',_,_,_,rfl⟩
  simp only [List.cons.injEq,D.ptr.injEq,and_true] at h
  obtain ⟨rfl,rfl,rfl,rfl⟩ := h
  rw [h0] at h0'
  rw [h1] at h1'
  rw [h2] at h2'
  rw [h3] at h3'
  simp only [Option.some.injEq,Obj.mk.injEq,List.cons.injEq,and_true,true_and,cdD_iff,digC_iff] at h0' h1' h2' h3'
  obtain ⟨rfl,_⟩ := h0'
  obtain ⟨rfl,_⟩ := h1'
  obtain rfl:v = v' := evD_iff.1 (congrArg D.agg h2'.1)
  obtain rfl:o = o' := opnD_iff.1 (congrArg D.agg h3'.1)
  rfl
noncomputable def si_s1:List D → St → Option (D × St) := relI s1R
theorem ld_dg (lent:Bool) (d:Dig):ldO (some ⟨false,1,digC d,lent⟩) 32 true 0 = some (digD d) := ldO_all 1 lent _ 32 (digC_length d)
theorem ld_opn (lent:Bool) (o:Opn):ldO (some ⟨false,1,opnC o,lent⟩) 38 true 0 = some (opnD o) := by rw [opnD,opn_eq]; exact ld_op ..
theorem ld_opn2 (lent:Bool) (o:Opn):ldO (some ⟨false,1,opnC o,lent⟩) 1 false 2 = some (.int .i64 o.status) := by rw [opn_eq]; exact ld_op2 ..
theorem st_opn (o:Opn):stO (some ⟨false,1,opC 0 0 0 0 (.slc 0 [] true) 0 zeroDig,false⟩) 38 0 (opnD o) = some ⟨false,1,opnC o,false⟩ := by rw [opnD,opn_eq]; exact st_opS ..
set_option maxHeartbeats 8000000 in
set_option maxRecDepth 20000 in
theorem ci_s1:IContract Tryd.prog GG 40 si_s1 := by
  refine icontract_on (T := tb [(14,sp_mPad),(41,sp_vCls),(42,sp_stepO)] []) tr_arbiter_Step_1 (tb_ok (all_cons c_mPad (all_cons c_vCls (all_cons c_stepO all_nil))) all_nil) ?_
  intro ds st r hr
  obtain ⟨kb,kc,kv,ko,b,c,v,o,lb,lc,lv,lo,hok,rfl,h0,h1,h2,h3,hc,hv,hto,rfl⟩ := relI_inv hr
  have hk0:∀ l:St,(st ++ l)[kb]? = some ⟨false,1,digC b,lb⟩ := fun l => by
    rw [List.getElem?_append_left (List.getElem?_eq_some_iff.1 h0).1]; exact h0
  have hk1:∀ l:St,(st ++ l)[kc]? = some ⟨false,1,[.slc (nz 3 (c.map insD)) (c.map insD) false],lc⟩ := fun l => by
    rw [List.getElem?_append_left (List.getElem?_eq_some_iff.1 h1).1]; exact h1
  have hk2:∀ l:St,(st ++ l)[kv]? = some ⟨false,1,evC v,lv⟩ := fun l => by
    rw [List.getElem?_append_left (List.getElem?_eq_some_iff.1 h2).1]; exact h2
  have hk3:∀ l:St,(st ++ l)[ko]? = some ⟨false,1,opnC o,lo⟩ := fun l => by
    rw [List.getElem?_append_left (List.getElem?_eq_some_iff.1 h3).1]; exact h3
  have cp := call_mPad
  have cc := call_vCls c v o ⟨hc,hv,by omega⟩
  have co := call_stepO c v o ⟨hc,hv⟩
  have hlo := stepO_len c v o
  have cc2 := call_vCls c v (stepOF c v o) ⟨hc,hv,by omega⟩
  unfold F_arbiter_Step_1
  by_cases q1:b = padL
  · rw [show stepD c v b o = (b,0) from if_pos q1]
    simp (disch := first|omega|decide) only [push_cast,↓reduceIte,Nat.reduceEqDiff,hk0,ld_dg,q1,cp,getR0,setR0,lowR_dig,cut_S hok,raws_cell,st_dg]
  by_cases q2:closeF c v o = b
  · by_cases q3:o.status = 0
    · rw [show stepD c v b o = (closeF c v (stepOF c v o),stepOE c o) by unfold stepD; rw [if_neg q1,if_neg (by simp [q2]),if_neg (by simp [q3])]]
      simp (disch := first|omega|decide) only [push_cast,↓reduceIte,Nat.reduceEqDiff,hk0,hk1,hk2,hk3,ld_dg,q1,q2,q3,cp,cc,cc2,co,ld_ev hv,imm_ev,keys_ev,imm_opn,keys_opn,ld_opn,ld_opn2,st_opn,opn0_eq,box_opS,List.append_assoc,List.cons_append,List.nil_append,List.length_append,List.length_cons,List.length_nil,Nat.zero_add,getR,setR,getR0,setR0,lowR_dig,cut_S hok,raws_cell,st_dg]
    · rw [show stepD c v b o = (padL,0) by unfold stepD; rw [if_neg q1,if_neg (by simp [q2]),if_pos q3]]
      simp (disch := first|omega|decide) only [push_cast,↓reduceIte,Nat.reduceEqDiff,hk0,hk1,hk2,hk3,ld_dg,q1,q2,q3,cp,cc,ld_ev hv,imm_ev,imm_opn,ld_opn,ld_opn2,Nat.zero_add,getR0,setR0,lowR_dig,cut_S hok,raws_cell,st_dg]
  · rw [show stepD c v b o = (zeroDig,390) by unfold stepD; rw [if_neg q1,if_pos q2]]
    simp (disch := first|omega|decide) only [push_cast,↓reduceIte,Nat.reduceEqDiff,hk0,hk1,hk2,hk3,ld_dg,q1,q2,cp,cc,ld_ev hv,imm_ev,imm_opn,ld_opn,getR0,setR0,lowR_dig,cut_S hok,raws_cell,st_dg,fill_o0]
noncomputable def sp_aStep:List D → Option D := spOf (α := List Ins × (Int × List Int) × Dig × (Dig × Dig) × Opn) (fun a => [.slc (nz 3 (a.1.map insD)) (a.1.map insD) false,evD a.2.1,digD a.2.2.1,clD a.2.2.2.1,opnD a.2.2.2.2]) (fun a => a.1.length ≤ 4294967296 ∧ vOK a.2.1 ∧ a.2.2.2.2.top.length ≤ 4294967295) (fun a => .tup [verD (verdF a.2.2.2.1 (stepD a.1 a.2.1 a.2.2.1 a.2.2.2.2)),.int .i64 (stepD a.1 a.2.1 a.2.2.1 a.2.2.2.2).2])
theorem call_aStep (c:List Ins) (v:Int × List Int) (b:Dig) (cl:Dig × Dig) (o:Opn) (h:c.length ≤ 4294967296 ∧ vOK v ∧ o.top.length ≤ 4294967295):sp_aStep [.slc (nz 3 (c.map insD)) (c.map insD) false,evD v,digD b,clD cl,opnD o] = some (.tup [verD (verdF cl (stepD c v b o)),.int .i64 (stepD c v b o).2]) :=
  spOf_enc (fun ⟨a0,a1,a2,a3,a4⟩ ⟨b0,b1,b2,b3,b4⟩ h => by simp only [List.cons.injEq,D.slc.injEq,dig_iff,and_true,code_iff,opnD_iff,evD_iff,clD_iff] at h; simp [h]) (c,v,b,cl,o) h
noncomputable def stpT:Tbl := tb [] [(37,si_judge 40 si_s1)]
set_option maxHeartbeats 8000000 in
set_option maxRecDepth 20000 in
theorem w_aStep (c:List Ins) (v:Int × List Int) (b:Dig) (cl:Dig × Dig) (o:Opn) (h:c.length ≤ 4294967296 ∧ vOK v ∧ o.top.length ≤ 4294967295):@wW GG stpT F_arbiter_Step.code (argF [.slc (nz 3 (c.map insD)) (c.map insD) false,evD v,digD b,clD cl,opnD o]) [] ⟨retQ F_arbiter_Step.res (.tup [verD (verdF cl (stepD c v b o)),.int .i64 (stepD c v b o).2])⟩ := by
  obtain ⟨hc,hv,hto⟩ := h
  unfold F_arbiter_Step
  have hos:(opnC o).all solid1 = true := by
    rw [opn_eq]
    simp only [opC,List.all_cons,digC_solid1]
    simp [solid1,intsO,nz_nz]
  have hok:StOK [⟨false,1,[.slc (nz 3 (c.map insD)) (c.map insD) false],false⟩,⟨false,1,evC v,false⟩,⟨false,1,digC b,false⟩,boxC cl,⟨false,1,opnC o,false⟩,boxV (0,zeroDig)] := by
    refine solidO_ok (S := []) (fun o ho => by cases ho) _ (fun x ho => ?_)
    simp only [List.mem_cons,List.not_mem_nil,or_false] at ho
    rcases ho with rfl | rfl | rfl | rfl | rfl | rfl
    · exact cd_solid c
    · exact evC_solid v
    · exact digC_solid1 b
    · exact boxC_solid cl
    · exact hos
    · exact boxV_solid _
  have hok2 := solidO_ok hok [boxC cl,boxV (0,zeroDig)] (fun o ho => by
    simp only [List.mem_cons,List.not_mem_nil,or_false] at ho
    rcases ho with rfl | rfl
    · exact boxC_solid cl
    · exact boxV_solid _)
  have hj:si_judge 40 si_s1 [clD cl,.clo 40 [.ptr 2 0,.ptr 0 0,.ptr 1 0,.ptr 4 0]] [⟨false,1,[.slc (nz 3 (c.map insD)) (c.map insD) false],false⟩,⟨false,1,evC v,false⟩,⟨false,1,digC b,false⟩,boxC cl,⟨false,1,opnC o,false⟩,boxV (0,zeroDig)] = some (.tup [verD (verdF cl (stepD c v b o)),.int .i64 (stepD c v b o).2],[⟨false,1,[.slc (nz 3 (c.map insD)) (c.map insD) false],false⟩,⟨false,1,evC v,false⟩,⟨false,1,digC b,false⟩,boxC cl,⟨false,1,opnC o,false⟩,boxV (0,zeroDig)]) :=
    relI_of (judge_fun _ _) ⟨cl,[.ptr 2 0,.ptr 0 0,.ptr 1 0,.ptr 4 0],(stepD c v b o).1,(stepD c v b o).2,hok,rfl,relI_of s1_fun ⟨2,0,1,4,b,c,v,o,false,false,false,false,hok2,rfl,rfl,rfl,rfl,rfl,hc,hv,hto,rfl⟩,rfl⟩
  have sv := st_ver (0,zeroDig)
  have lv := ld_ver
  simp only [boxC,boxV,verD] at hj sv lv
  simp (disch := first|omega|decide) only [push_cast,↓reduceIte,Nat.reduceEqDiff,Nat.reduceAdd,stpT,box_ev,box_cl,box_opn,ld_cl,hj,verD,sv,lv]
theorem c_aStep:Contract Tryd.prog GG 17 sp_aStep :=
  contract_of (T := stpT) tr_arbiter_Step (tb_ok all_nil (all_cons (ci_judge _ (by decide) _ ci_s1) all_nil)) (fun a h => w_aStep a.1 a.2.1 a.2.2.1 a.2.2.2.1 a.2.2.2.2 h)
end Go.Proofs.YtlleccmnjpcogaaDoor.PI
namespace Go.Proofs.YtlleccmnjpcogaaDoor.PI
open Go
set_option linter.unusedSimpArgs false
set_option linter.unusedVariables false
theorem whole_eq (c:List Ins) (v:Int × List Int) (o o':Opn) (h1:o.pc = o'.pc) (h2:o.fuel = o'.fuel) (h3:o.status = o'.status) (h4:o.clause = o'.clause) (h5:o.depth + o.top.length = o'.depth + o'.top.length) (h6:ontoF o.rest o.top = ontoF o'.rest o'.top):wholeF c v o = wholeF c v o' := by
  unfold wholeF
  rw [h1,h2,h3,h4,h5,h6]
/-- an opening whose parts are those of a state -/
structure OpenOf (s:Sta) (o:Opn):Prop where
  pc:o.pc = s.pc
  fuel:o.fuel = s.fuel
  status:o.status = s.status
  clause:o.clause = s.clause
  d0:0 ≤ o.depth
  d1:o.depth.toNat ≤ s.stack.length
  top:o.top = s.stack.drop o.depth.toNat
  rest:o.rest = ontoF zeroDig (s.stack.take o.depth.toNat)
theorem openOf (s:Sta) (n:Int):OpenOf s (openF s n) := ⟨rfl,rfl,rfl,rfl,by simp [openF],by simpa [openF] using openK_le s n,by simp [openF],by simp [openF]⟩
theorem whole_of {c:List Ins} {v:Int × List Int} {s:Sta} {o o':Opn} (h:OpenOf s o) (h':OpenOf s o'):wholeF c v o = wholeF c v o' := by
  refine whole_eq c v o o' (h.pc.trans h'.pc.symm) (h.fuel.trans h'.fuel.symm) (h.status.trans h'.status.symm) (h.clause.trans h'.clause.symm) ?_ ?_
  · have h1 := h.d1; have h2 := h'.d1; have h3 := h.d0; have h4 := h'.d0
    rw [h.top,h'.top,List.length_drop,List.length_drop]
    omega
  · rw [h.rest,h'.rest,h.top,h'.top,← ontoF_app,← ontoF_app,List.take_append_drop,List.take_append_drop]
theorem close_of {c:List Ins} {v:Int × List Int} {s:Sta} {o:Opn} (h:OpenOf s o) (hl:s.stack.length ≤ 64):closeF c v o = digF c v s := by
  have h1 := h.d0; have h2 := h.d1
  rw [show closeF c v o = wholeF c v o from if_neg (by omega)]
  exact whole_of h (openOf s s.stack.length)
theorem ready_of {c:List Ins} {s:Sta} {o:Opn} (h:OpenOf s o) (hl:s.stack.length ≤ 64):readyF c (opS o) o.depth = readyF c s 0 := by
  have h1 := h.d0; have h2 := h.d1
  have hlen:o.top.length = s.stack.length - o.depth.toNat := by rw [h.top,List.length_drop]
  have hb:badS c (opS o) o.depth ↔ badS c s 0 := by
    unfold badS opS
    simp only [h.pc,h.fuel,h.clause,hlen]
    omega
  unfold readyF
  rw [show (opS o).status = s.status from h.status]
  by_cases q:badS c s 0
  · rw [if_pos q,if_pos (hb.2 q)]
  · rw [if_neg q,if_neg (fun x => q (hb.1 x))]
theorem ins_of (c:List Ins) {s:Sta} {o:Opn} (h:OpenOf s o):insAt c (opS o) = insAt c s := by
  unfold insAt
  rw [show (opS o).pc = s.pc from h.pc]
theorem top_of {l:List Int} {k i:Nat} (h:k + i < l.length):topF (l.drop k) i = topF l i := by
  unfold topF at'
  rw [List.getD_eq_getElem?_getD,List.getD_eq_getElem?_getD,List.getElem?_drop,List.length_drop]
  congr 3
  omega
theorem opS_0 {s:Sta} {o:Opn} (h:OpenOf s o) (h0:o.depth = 0):opS o = s := by
  obtain ⟨a1,a2,a3,a4,a5⟩ := s
  have e:o.top = a5 := by rw [h.top,h0]; rfl
  unfold opS
  rw [show o.pc = a1 from h.pc,show o.fuel = a2 from h.fuel,show o.status = a3 from h.status,show o.clause = a4 from h.clause,e]
theorem out_of {v:Int × List Int} {s:Sta} {o:Opn} {x:Ins} (h:OpenOf s o) (hx:1 ≤ x.op ∧ x.op ≤ 16) (hn:o.depth = 0 ∨ needF x.op ≤ o.top.length):exO v o.depth (decS (opS o)) x = exO v 0 (decS s) x := by
  by_cases h0:o.depth = 0
  · rw [opS_0 h h0,h0]
  replace hn:needF x.op ≤ o.top.length := by omega
  have h1 := h.d0; have h2 := h.d1
  have hlen:o.top.length = s.stack.length - o.depth.toNat := by rw [h.top,List.length_drop]
  have e1:exO v o.depth (decS (opS o)) x = outF v o.depth (decS (opS o)) x := if_neg (show ¬ (o.top.length:Int) < needF x.op by omega)
  have e2:exO v 0 (decS s) x = outF v 0 (decS s) x := if_neg (show ¬ (s.stack.length:Int) < needF x.op by omega)
  rw [e1,e2]
  have hle:((64:Int) ≤ o.depth + ((decS (opS o)).stack.length:Nat)) = ((64:Int) ≤ 0 + ((decS s).stack.length:Nat)) := by
    show ((64:Int) ≤ o.depth + (o.top.length:Nat)) = ((64:Int) ≤ 0 + (s.stack.length:Nat))
    exact propext ⟨fun _ => by omega,fun _ => by omega⟩
  have t0:1 ≤ needF x.op → topS (decS (opS o)) 0 = topS (decS s) 0 := fun q => by
    show topF o.top 0 = topF s.stack 0
    rw [h.top]; exact top_of (by omega)
  have t1:2 ≤ needF x.op → topS (decS (opS o)) 1 = topS (decS s) 1 := fun q => by
    show topF o.top 1 = topF s.stack 1
    rw [h.top]; exact top_of (by omega)
  have hp:(decS (opS o)).pc = (decS s).pc := h.pc
  have hs:(decS (opS o)).status = (decS s).status := h.status
  have hc:(decS (opS o)).clause = (decS s).clause := h.clause
  unfold outF
  by_cases o1:x.op = 1
  · rw [if_pos o1,if_pos o1]
    simp only [hle]
  rw [if_neg o1,if_neg o1]
  by_cases o2:x.op = 2
  · rw [if_pos o2,if_pos o2]
    simp only [hle]
  rw [if_neg o2,if_neg o2]
  by_cases o3:x.op = 12
  · rw [if_pos o3,if_pos o3,t0 (by rw [o3]; decide)]
  rw [if_neg o3,if_neg o3]
  by_cases o4:x.op = 13
  · rw [if_pos o4,if_pos o4,t0 (by rw [o4]; decide)]
  rw [if_neg o4,if_neg o4]
  by_cases o5:x.op = 14
  · rw [if_pos o5,if_pos o5,hs,hc]
  rw [if_neg o5,if_neg o5]
  by_cases o6:x.op = 15
  · rw [if_pos o6,if_pos o6,hp]
  rw [if_neg o6,if_neg o6]
  by_cases o7:x.op = 16
  · rw [if_pos o7,if_pos o7]
  rw [if_neg o7,if_neg o7]
  have h2n:needF x.op = 2 := by unfold needF; rw [if_neg (by omega),if_pos (by omega)]
  rw [t0 (by omega),t1 (by omega)]
theorem pop_need {v:Int × List Int} {b:Int} {s:Sta} {x:Ins} {k:Nat} {push pc:Option Int} (hx:1 ≤ x.op ∧ x.op ≤ 16) (h:exO v b s x = .pop k push pc):(k:Int) ≤ needF x.op ∧ needF x.op ≤ s.stack.length := by
  have h1 := exO_pop h
  refine ⟨?_,by omega⟩
  unfold exO at h
  rw [if_neg h1] at h
  unfold outF at h
  have hc:x.op = 1 ∨ x.op = 2 ∨ x.op = 12 ∨ x.op = 13 ∨ x.op = 14 ∨ x.op = 15 ∨ x.op = 16 ∨ (3 ≤ x.op ∧ x.op ≤ 11) := by omega
  have hneed:needF x.op = if x.op = 12 ∨ x.op = 13 ∨ x.op = 15 then 1 else if 3 ≤ x.op ∧ x.op ≤ 11 then 2 else 0 := rfl
  split at h
  · split at h
    · cases h
    · cases h; rw [hneed]; split <;> (try split) <;> omega
  split at h
  · split at h
    · cases h
    · split at h
      · cases h
      · split at h
        · cases h
        · cases h; rw [hneed]; split <;> (try split) <;> omega
  split at h
  · cases h; rw [hneed,if_pos (by omega)]; omega
  split at h
  · cases h; rw [hneed,if_pos (by omega)]; omega
  split at h
  · cases h
  split at h
  · cases h
  split at h
  · cases h
  split at h
  · cases h; rw [hneed,if_neg (by omega),if_pos (by omega)]; omega
  · cases h
theorem adv_of {v:Int × List Int} {s:Sta} {o:Opn} {x:Ins} (h:OpenOf s o) (hx:1 ≤ x.op ∧ x.op ≤ 16) (hn:o.fuel = 0 ∨ o.depth = 0 ∨ needF x.op ≤ o.top.length):OpenOf (advF v 0 s x) (sOpn (advF v o.depth (opS o) x) o) := by
  unfold advF
  rw [show (opS o).fuel = s.fuel from h.fuel]
  by_cases hu:s.fuel = 0
  · rw [if_pos hu,if_pos hu]
    exact ⟨h.pc,rfl,rfl,h.clause,h.d0,h.d1,h.top,h.rest⟩
  rw [if_neg hu,if_neg hu]
  have hn':o.depth = 0 ∨ needF x.op ≤ o.top.length := by have := h.fuel; omega
  have ho := out_of (v := v) h hx hn'
  rw [ho]
  have h1 := h.d0; have h2 := h.d1
  have hlen:o.top.length = s.stack.length - o.depth.toNat := by rw [h.top,List.length_drop]
  have hfu:o.fuel - 1 = s.fuel - 1 := by rw [h.fuel]
  cases hE:exO v 0 (decS s) x with
  | err e => exact ⟨h.pc,hfu,rfl,h.clause,h.d0,h.d1,h.top,h.rest⟩
  | set p t c => exact ⟨rfl,hfu,rfl,rfl,h.d0,h.d1,h.top,h.rest⟩
  | pop k push pc =>
    obtain ⟨k1,k2⟩ := pop_need hx hE
    have k2:needF x.op ≤ (s.stack.length:Int) := k2
    have hk:o.depth.toNat ≤ s.stack.length - k := by omega
    refine ⟨?_,hfu,h.status,h.clause,h.d0,?_,?_,?_⟩
    · show pc.getD (o.pc + 1) = pc.getD (s.pc + 1)
      rw [h.pc]
    · show o.depth.toNat ≤ (s.stack.take (s.stack.length - k) ++ push.toList).length
      rw [List.length_append,List.length_take]; omega
    · show o.top.take (o.top.length - k) ++ push.toList = (s.stack.take (s.stack.length - k) ++ push.toList).drop o.depth.toNat
      rw [List.drop_append_of_le_length (by rw [List.length_take]; omega),List.drop_take,hlen,h.top]
      congr 2
      omega
    · show o.rest = ontoF zeroDig ((s.stack.take (s.stack.length - k) ++ push.toList).take o.depth.toNat)
      rw [List.take_append_of_le_length (by rw [List.length_take]; omega),List.take_take,Nat.min_eq_left hk,h.rest]
theorem step_of {c:List Ins} {v:Int × List Int} {s:Sta} {o:Opn} (h:OpenOf s o) (hl:s.stack.length ≤ 64) (hr:readyF c s 0 = 0) (hlk:¬ lackO c o):stepOE c o = 0 ∧ closeF c v (stepOF c v o) = digF c v (stepF c v s) := by
  have hrd := ready_of (c := c) h hl
  have e0:stepOE c o = 0 := by unfold stepOE; rw [if_pos (by rw [hrd,hr]),if_neg hlk]
  refine ⟨e0,?_⟩
  rw [show stepOF c v o = sOpn (advF v o.depth (opS o) (insAt c (opS o))) o from if_pos e0,show stepF c v s = advF v 0 s (insAt c s) from if_pos hr,ins_of c h]
  have hvf:(verifyF c).2 = 0 := by
    unfold readyF at hr
    split at hr
    · simp at hr
    split at hr
    · rename_i q; exact absurd hr q
    · rename_i q; omega
  have hbad:¬ badS c s 0 := by
    intro q
    unfold readyF at hr
    rw [if_pos q] at hr
    split at hr
    · simp at hr
    split at hr
    · rename_i q; exact absurd hr q
    · simp at hr
  have hfm := (verify_ok hvf).2.2.1
  unfold badS at hbad
  have hx := formed_opP (at_formed hfm (j := s.pc.toNat) (by omega))
  have hx:1 ≤ (insAt c s).op ∧ (insAt c s).op ≤ 16 := hx
  have hfu := h.fuel
  have hd0 := h.d0
  have hof := adv_of (v := v) (x := insAt c s) h hx (by
    unfold lackO at hlk
    rw [ins_of c h] at hlk
    omega)
  have hd1 := h.d1
  have e1:(sOpn (advF v o.depth (opS o) (insAt c s)) o).depth = o.depth := rfl
  have:closeF c v (sOpn (advF v o.depth (opS o) (insAt c s)) o) = wholeF c v (sOpn (advF v o.depth (opS o) (insAt c s)) o) := if_neg (by rw [e1]; omega)
  rw [this]
  exact whole_of hof (openOf _ _)
end Go.Proofs.YtlleccmnjpcogaaDoor.PI
namespace Go.Proofs.YtlleccmnjpcogaaDoor.PI
open Go
set_option linter.unusedSimpArgs false
set_option linter.unusedVariables false
def exC:List Ins := [⟨2,6,0⟩,⟨1,7,0⟩,⟨5,0,0⟩,⟨15,0,0⟩]
def exV:Int × List Int := (64,[0,0,0,0,0,0,30,0,0,0,0,0,0,0,0,0])
def exS (i:Nat):Sta := [(⟨0,5,0,0,[]⟩:Sta),⟨1,4,0,0,[30]⟩,⟨2,3,0,0,[30,7]⟩,⟨3,2,0,0,[210]⟩,⟨3,1,1,0,[210]⟩].getD i default
theorem ex_ver:verifyF exC = (2,0) := by decide +kernel
theorem ex_trace:traceL exC exV = [exS 0,exS 1,exS 2,exS 3,exS 4] := by decide +kernel
def exD (i:Nat):Dig := digF exC exV (exS i)
def first4 (d:Dig):List UInt8 := d.bs.take 4
theorem ex_ne {a b:Dig} (h:first4 a ≠ first4 b):¬ a = b := fun e => h (by rw [e])
theorem ex_d0:¬ exD 0 = padL := ex_ne (by decide +kernel)
theorem ex_d1:¬ exD 1 = padL := ex_ne (by decide +kernel)
theorem ex_d2:¬ exD 2 = padL := ex_ne (by decide +kernel)
theorem ex_d4:¬ exD 4 = padL := ex_ne (by decide +kernel)
theorem ex_d21:¬ exD 2 = exD 1 := ex_ne (by decide +kernel)
theorem ex_d43:¬ exD 4 = exD 3 := ex_ne (by decide +kernel)
theorem ex_run:runF exC exV = ⟨exC,exV,210,0,[exD 0,exD 1,exD 2,exD 3,exD 4]⟩ := by
  unfold runF
  rw [if_pos (by rw [ex_ver]),ex_trace]
  rfl
theorem ex_sta2:staF exC exV 2 = (exS 2,0) := by
  unfold staF
  rw [if_pos (by rw [ex_ver]),ex_trace]
  rfl
theorem ex_sta4:staF exC exV 4 = (exS 4,0) := by
  unfold staF
  rw [if_pos (by rw [ex_ver]),ex_trace]
  rfl
theorem ex_start:startF ((exC.length:Int) + 1) = exS 0 := by decide
theorem ex_first:firstD exC exV = (exD 0,0) := by
  unfold firstD
  rw [if_neg (by decide),if_neg (by rw [ex_ver]; decide),ex_start]; rfl
theorem ex_ready:readyF exC (exS 2) 0 = 0 := by decide +kernel
theorem ex_step:stepF exC exV (exS 2) = exS 3 := by decide +kernel
theorem ex_close (i:Nat) (hi:i < 5) (n:Int):closeF exC exV (openF (exS i) n) = exD i := close_of (openOf _ _) (by
  match i,hi with
  | 0,_ | 1,_ | 2,_ | 3,_ | 4,_ => decide)
theorem ex_nl2:¬ lackO exC (openF (exS 2) 2) := by
  have h:(openF (exS 2) 2).depth = 0 := by decide
  unfold lackO; rw [h]; omega
theorem ex_l1:lackO exC (openF (exS 2) 1) := ⟨by decide,by decide,by decide⟩
theorem ex_b:stepD exC exV (exD 2) (openF (exS 2) 2) = (exD 3,0) := by
  obtain ⟨h1,h2⟩ := step_of (v := exV) (openOf (exS 2) 2) (by decide) ex_ready ex_nl2
  unfold stepD
  rw [if_neg ex_d2,if_neg (by rw [ex_close 2 (by decide)]; simp),if_neg (show ¬ (openF (exS 2) 2).status ≠ 0 by decide),h1,h2,ex_step]; rfl
theorem ex_j:(stepD exC exV (exD 2) (openF (exS 2) 1)).2 = 390 := by
  have h1:stepOE exC (openF (exS 2) 1) = 390 := by
    unfold stepOE
    rw [if_pos (by rw [ready_of (openOf _ _) (by decide),ex_ready]),if_pos ex_l1]
  unfold stepD
  rw [if_neg ex_d2,if_neg (by rw [ex_close 2 (by decide)]; simp),if_neg (show ¬ (openF (exS 2) 1).status ≠ 0 by decide),h1]
theorem ex_x:stepD exC exV (exD 4) (openF (exS 4) 0) = (padL,0) := by
  unfold stepD
  rw [if_neg ex_d4,if_neg (by rw [ex_close 4 (by decide)]; simp),if_pos (show (openF (exS 4) 0).status ≠ 0 by decide)]
theorem ex_m:(stepD exC exV (exD 1) (openF (exS 2) 2)).2 = 390 := by
  unfold stepD
  rw [if_neg ex_d1,if_pos (by rw [ex_close 2 (by decide)]; exact ex_d21)]
theorem ex_o:firstD [] exV = (padL,0) := rfl
end Go.Proofs.YtlleccmnjpcogaaDoor.PI
namespace Go.Proofs.YtlleccmnjpcogaaDoor.PI
open Go
set_option linter.unusedSimpArgs false
set_option maxHeartbeats 8000000
set_option maxRecDepth 20000
set_option linter.unusedVariables false
theorem fill_ins (a b:Int):fillD [.int .i64 0,.int .i64 0,.int .i64 0] [(0,1,.int .i64 a),(1,1,.int .i64 b)] = some [.int .i64 a,.int .i64 b,.int .i64 0] := (rfl)
theorem fill_ins1 (a:Int):fillD [.int .i64 0,.int .i64 0,.int .i64 0] [(0,1,.int .i64 a)] = some [.int .i64 a,.int .i64 0,.int .i64 0] := (rfl)
theorem ex_lit:litD 3 [.agg [.int .i64 2,.int .i64 6,.int .i64 0],.agg [.int .i64 1,.int .i64 7,.int .i64 0],.agg [.int .i64 5,.int .i64 0,.int .i64 0],.agg [.int .i64 15,.int .i64 0,.int .i64 0]] = some (.slc 3 (exC.map insD) true) := (rfl)
noncomputable def sp_example:List D → Option D := spOf (α := Unit) (fun _ => []) (fun _ => True) (fun _ => .slc (nz 3 (exC.map insD)) (exC.map insD) false)
theorem call_example:sp_example [] = some (.slc (nz 3 (exC.map insD)) (exC.map insD) false) :=
  spOf_enc (fun _ _ _ => rfl) () trivial
theorem w_example:@wW GG (tb [] []) F_wagonpoollaw39_example.code (argF []) [] ⟨retQ F_wagonpoollaw39_example.res (.slc (nz 3 (exC.map insD)) (exC.map insD) false)⟩ := by
  unfold F_wagonpoollaw39_example
  simp (disch := first|omega|decide) only [push_cast,↓reduceIte,Nat.reduceEqDiff,fill_ins,fill_ins1,ex_lit]
theorem c_example:Contract Tryd.prog GG 25 sp_example :=
  contract_of tr_wagonpoollaw39_example (tb_ok all_nil all_nil) (fun a h => w_example )
noncomputable def sp_few39:List D → Option D := spOf (α := List Ins × List Int) (fun a => [.slc (nz 3 (a.1.map insD)) (a.1.map insD) false,.slc (nz 1 (a.2.map nI)) (a.2.map nI) false]) (fun a => True) (fun a => .bool (decide (a.1.length ≤ 30 ∧ a.2.length ≤ 66)))
theorem call_few39 (c:List Ins) (l:List Int):sp_few39 [.slc (nz 3 (c.map insD)) (c.map insD) false,.slc (nz 1 (l.map nI)) (l.map nI) false] = some (.bool (decide (c.length ≤ 30 ∧ l.length ≤ 66))) :=
  spOf_enc (fun ⟨a0,a1⟩ ⟨b0,b1⟩ h => by simp only [List.cons.injEq,D.slc.injEq,and_true,ints_iff,code_iff] at h; simp [h]) (c,l) trivial
theorem w_few39 (c:List Ins) (l:List Int):@wW GG (tb [] []) F_wagonpoollaw39_few.code (argF [.slc (nz 3 (c.map insD)) (c.map insD) false,.slc (nz 1 (l.map nI)) (l.map nI) false]) [] ⟨retQ F_wagonpoollaw39_few.res (.bool (decide (c.length ≤ 30 ∧ l.length ≤ 66)))⟩ := by
  unfold F_wagonpoollaw39_few
  by_cases h1:c.length ≤ 30
  · by_cases h2:l.length ≤ 66
    · simp (disch := first|omega|decide) only [push_cast,↓reduceIte,Nat.reduceEqDiff,show ((c.length:Int) ≤ 30) by omega,show ((l.length:Int) ≤ 66) by omega,h1,h2,and_self]
    · simp (disch := first|omega|decide) only [push_cast,↓reduceIte,Nat.reduceEqDiff,show ((c.length:Int) ≤ 30) by omega,show ¬ ((l.length:Int) ≤ 66) by omega,h1,h2,and_false]
  · simp (disch := first|omega|decide) only [push_cast,↓reduceIte,Nat.reduceEqDiff,show ¬ ((c.length:Int) ≤ 30) by omega,h1,false_and]
theorem c_few39:Contract Tryd.prog GG 10 sp_few39 :=
  contract_of tr_wagonpoollaw39_few (tb_ok all_nil all_nil) (fun a h => w_few39 a.1 a.2)
theorem fill_cl (a b:Dig):fillD [.int .u8 0,.int .u8 0,.int .u8 0,.int .u8 0,.int .u8 0,.int .u8 0,.int .u8 0,.int .u8 0,.int .u8 0,.int .u8 0,.int .u8 0,.int .u8 0,.int .u8 0,.int .u8 0,.int .u8 0,.int .u8 0,.int .u8 0,.int .u8 0,.int .u8 0,.int .u8 0,.int .u8 0,.int .u8 0,.int .u8 0,.int .u8 0,.int .u8 0,.int .u8 0,.int .u8 0,.int .u8 0,.int .u8 0,.int .u8 0,.int .u8 0,.int .u8 0,.int .u8 0,.int .u8 0,.int .u8 0,.int .u8 0,.int .u8 0,.int .u8 0,.int .u8 0,.int .u8 0,.int .u8 0,.int .u8 0,.int .u8 0,.int .u8 0,.int .u8 0,.int .u8 0,.int .u8 0,.int .u8 0,.int .u8 0,.int .u8 0,.int .u8 0,.int .u8 0,.int .u8 0,.int .u8 0,.int .u8 0,.int .u8 0,.int .u8 0,.int .u8 0,.int .u8 0,.int .u8 0,.int .u8 0,.int .u8 0,.int .u8 0,.int .u8 0] [(0,32,digD a),(32,32,digD b)] = some (digC a ++ digC b) := by
  refine (fill_mid (cs := [.int .u8 0,.int .u8 0,.int .u8 0,.int .u8 0,.int .u8 0,.int .u8 0,.int .u8 0,.int .u8 0,.int .u8 0,.int .u8 0,.int .u8 0,.int .u8 0,.int .u8 0,.int .u8 0,.int .u8 0,.int .u8 0,.int .u8 0,.int .u8 0,.int .u8 0,.int .u8 0,.int .u8 0,.int .u8 0,.int .u8 0,.int .u8 0,.int .u8 0,.int .u8 0,.int .u8 0,.int .u8 0,.int .u8 0,.int .u8 0,.int .u8 0,.int .u8 0,.int .u8 0,.int .u8 0,.int .u8 0,.int .u8 0,.int .u8 0,.int .u8 0,.int .u8 0,.int .u8 0,.int .u8 0,.int .u8 0,.int .u8 0,.int .u8 0,.int .u8 0,.int .u8 0,.int .u8 0,.int .u8 0,.int .u8 0,.int .u8 0,.int .u8 0,.int .u8 0,.int .u8 0,.int .u8 0,.int .u8 0,.int .u8 0,.int .u8 0,.int .u8 0,.int .u8 0,.int .u8 0,.int .u8 0,.int .u8 0,.int .u8 0,.int .u8 0]) (cs' := digC a ++ digC zeroDig) (A := []) (B := digC zeroDig) (C := digC zeroDig) (xs := digC a) rfl (by simp) rfl (digC_length _) rfl (digC_length _) (digC_all (fun _ => rfl) a)).trans ?_
  refine (fill_mid (cs := digC a ++ digC zeroDig) (cs' := digC a ++ digC b) (A := digC a) (B := digC zeroDig) (C := []) (xs := digC b) (by simp) (by simp) (digC_length _) (digC_length _) rfl (digC_length _) (digC_all (fun _ => rfl) b)).trans ?_
  rfl
theorem fill_17:fillD [.int .i64 0,.int .i64 0,.int .i64 0,.int .i64 0,.int .i64 0,.int .i64 0,.int .i64 0,.int .i64 0,.int .i64 0,.int .i64 0,.int .i64 0,.int .i64 0,.int .i64 0,.int .i64 0,.int .i64 0,.int .i64 0,.int .i64 0] [(0,1,.int .i64 64)] = some [.int .i64 64,.int .i64 0,.int .i64 0,.int .i64 0,.int .i64 0,.int .i64 0,.int .i64 0,.int .i64 0,.int .i64 0,.int .i64 0,.int .i64 0,.int .i64 0,.int .i64 0,.int .i64 0,.int .i64 0,.int .i64 0,.int .i64 0] := (rfl)
theorem box_17:boxD (.agg [.int .i64 0,.int .i64 0,.int .i64 0,.int .i64 0,.int .i64 0,.int .i64 0,.int .i64 0,.int .i64 0,.int .i64 0,.int .i64 0,.int .i64 0,.int .i64 0,.int .i64 0,.int .i64 0,.int .i64 0,.int .i64 0,.int .i64 0]) = some [.int .i64 0,.int .i64 0,.int .i64 0,.int .i64 0,.int .i64 0,.int .i64 0,.int .i64 0,.int .i64 0,.int .i64 0,.int .i64 0,.int .i64 0,.int .i64 0,.int .i64 0,.int .i64 0,.int .i64 0,.int .i64 0,.int .i64 0] := (rfl)
theorem idx_17:pidxA [⟨false,1,[.int .i64 64,.int .i64 0,.int .i64 0,.int .i64 0,.int .i64 0,.int .i64 0,.int .i64 0,.int .i64 0,.int .i64 0,.int .i64 0,.int .i64 0,.int .i64 0,.int .i64 0,.int .i64 0,.int .i64 0,.int .i64 0,.int .i64 0],false⟩] 16 1 (.ptr 0 1) (.int .i64 6) = some (.ptr 0 7) := (rfl)
theorem st_17:stO (some ⟨false,1,[.int .i64 0,.int .i64 0,.int .i64 0,.int .i64 0,.int .i64 0,.int .i64 0,.int .i64 0,.int .i64 0,.int .i64 0,.int .i64 0,.int .i64 0,.int .i64 0,.int .i64 0,.int .i64 0,.int .i64 0,.int .i64 0,.int .i64 0],false⟩) 17 0 (.agg [.int .i64 64,.int .i64 0,.int .i64 0,.int .i64 0,.int .i64 0,.int .i64 0,.int .i64 0,.int .i64 0,.int .i64 0,.int .i64 0,.int .i64 0,.int .i64 0,.int .i64 0,.int .i64 0,.int .i64 0,.int .i64 0,.int .i64 0]) = some ⟨false,1,[.int .i64 64,.int .i64 0,.int .i64 0,.int .i64 0,.int .i64 0,.int .i64 0,.int .i64 0,.int .i64 0,.int .i64 0,.int .i64 0,.int .i64 0,.int .i64 0,.int .i64 0,.int .i64 0,.int .i64 0,.int .i64 0,.int .i64 0],false⟩ := (rfl)
theorem st_6:stO (some ⟨false,1,[.int .i64 64,.int .i64 0,.int .i64 0,.int .i64 0,.int .i64 0,.int .i64 0,.int .i64 0,.int .i64 0,.int .i64 0,.int .i64 0,.int .i64 0,.int .i64 0,.int .i64 0,.int .i64 0,.int .i64 0,.int .i64 0,.int .i64 0],false⟩) 1 7 (.int .i64 30) = some ⟨false,1,evC exV,false⟩ := (rfl)
theorem der_solid (d:Der):solid (derD d) = true := by
  simp only [derD,derC,solid,List.all_cons,List.all_append,evC_solid]
  simp [solid1,cdD,lvD,nz_nz]
theorem keys_der (d:Der):keys (derD d) = [] := solid_keys (der_solid d)
theorem st_derX {d:Der} (hv:vOK d.env):stO (some ⟨false,1,derC nilS zEv 0 0 nilS,false⟩) 21 0 (derD d) = some ⟨false,1,derC (cdD d.code) d.env d.am d.er (lvD d.lv),false⟩ := st_der zEv_ok hv nilS _ rfl 0 0 _ _ nilS _ rfl
theorem ld_derX {d:Der} (hv:vOK d.env) (lent:Bool):ldO (some ⟨false,1,derC (cdD d.code) d.env d.am d.er (lvD d.lv),lent⟩) 21 true 0 = some (derD d) := ld_der hv lent _ _ _ _
theorem ld_derL {d:Der} (hv:vOK d.env) (lent:Bool):ldO (some ⟨false,1,derC (cdD d.code) d.env d.am d.er (lvD d.lv),lent⟩) 1 false 20 = some (lvD d.lv) := ld_der20 hv lent _ _ _ _
def exR:Der := ⟨exC,exV,210,0,[exD 0,exD 1,exD 2,exD 3,exD 4]⟩
theorem ld_exL (lent:Bool):ldO (some ⟨false,1,derC (cdD exR.code) exR.env exR.am exR.er (lvD exR.lv),lent⟩) 1 false 20 = some (.slc 32 [digD (exD 0),digD (exD 1),digD (exD 2),digD (exD 3),digD (exD 4)] false) := ld_derL (d := exR) rfl lent
theorem exR_x0 (st:St):pidxS st 32 (.slc 32 [digD (exD 0),digD (exD 1),digD (exD 2),digD (exD 3),digD (exD 4)] false) (.int .i64 0) = some (.eptr (digD (exD 0)) 0) := (rfl)
theorem exR_x1 (st:St):pidxS st 32 (.slc 32 [digD (exD 0),digD (exD 1),digD (exD 2),digD (exD 3),digD (exD 4)] false) (.int .i64 1) = some (.eptr (digD (exD 1)) 0) := (rfl)
theorem exR_x2 (st:St):pidxS st 32 (.slc 32 [digD (exD 0),digD (exD 1),digD (exD 2),digD (exD 3),digD (exD 4)] false) (.int .i64 2) = some (.eptr (digD (exD 2)) 0) := (rfl)
theorem exR_x3 (st:St):pidxS st 32 (.slc 32 [digD (exD 0),digD (exD 1),digD (exD 2),digD (exD 3),digD (exD 4)] false) (.int .i64 3) = some (.eptr (digD (exD 3)) 0) := (rfl)
theorem exR_x4 (st:St):pidxS st 32 (.slc 32 [digD (exD 0),digD (exD 1),digD (exD 2),digD (exD 3),digD (exD 4)] false) (.int .i64 4) = some (.eptr (digD (exD 4)) 0) := (rfl)
theorem fill_clT (a b:Dig):fillD (.int .u8 0 :: .int .u8 0 :: .int .u8 0 :: .int .u8 0 :: .int .u8 0 :: .int .u8 0 :: .int .u8 0 :: .int .u8 0 :: .int .u8 0 :: .int .u8 0 :: .int .u8 0 :: .int .u8 0 :: .int .u8 0 :: .int .u8 0 :: .int .u8 0 :: .int .u8 0 :: .int .u8 0 :: .int .u8 0 :: .int .u8 0 :: .int .u8 0 :: .int .u8 0 :: .int .u8 0 :: .int .u8 0 :: .int .u8 0 :: .int .u8 0 :: .int .u8 0 :: .int .u8 0 :: .int .u8 0 :: .int .u8 0 :: .int .u8 0 :: .int .u8 0 :: .int .u8 0 :: digC zeroDig) [(0,32,digD a),(32,32,digD b)] = some (digC a ++ digC b) := fill_cl a b
theorem immL_cl (st:St) (a b:Dig):immL st (digC a ++ digC b) = some (digC a ++ digC b) := solid1_immL st (boxC_solid (a,b))
theorem key_cl (a b:Dig):keys (.agg (digC a ++ digC b)) = [] := solid_keys (cl_solid (a,b))
noncomputable def sp_sane39:List D → Option D := spOf (α := Unit) (fun _ => []) (fun _ => True) (fun _ => .bool true)
theorem call_sane39:sp_sane39 [] = some (.bool true) :=
  spOf_enc (fun _ _ _ => rfl) () trivial
theorem w_sane39:@wW GG (tb [(25,sp_example),(9,sp_run),(16,sp_state),(15,sp_aFirst),(17,sp_aStep),(18,sp_vOpen),(14,sp_mPad)] []) F_wagonpoollaw39_sane.code (argF []) [] ⟨retQ F_wagonpoollaw39_sane.res (.bool true)⟩ := by
  have c0 := call_example
  have c1 := call_run exC exV ⟨by decide,rfl⟩
  rw [ex_run,ex_ver] at c1
  have c2 := call_state exR 2 ⟨by decide,rfl⟩
  have c3 := call_state exR 4 ⟨by decide,rfl⟩
  rw [show exR.code = exC from rfl,show exR.env = exV from rfl] at c2 c3
  rw [ex_sta2] at c2
  rw [ex_sta4] at c3
  rw [show (Der.mk exC exV 210 0 [exD 0,exD 1,exD 2,exD 3,exD 4]) = exR from rfl] at c1
  have cp := call_mPad
  have hv:vOK exV := rfl
  have hvR:vOK exR.env := rfl
  dsimp only at c1 c2 c3
  have o2 := call_vOpen (exS 2) 2 (by decide)
  have o1 := call_vOpen (exS 2) 1 (by decide)
  have o4 := call_vOpen (exS 4) 0 (by decide)
  have f1:sp_aFirst [.slc (nz 3 (exC.map insD)) (exC.map insD) false,evD exV,.agg (digC (exD 0) ++ digC (exD 1))] = some (.tup [.agg (.int .i64 0 :: digC (exD 0)),.int .i64 0]) := by
    have := call_aFirst exC exV (exD 0,exD 1) ⟨by decide,rfl⟩
    rw [ex_first,show verdF (exD 0,exD 1) (exD 0,0) = (0,exD 0) by unfold verdF judgeF; rw [if_pos rfl,if_pos rfl]] at this
    exact this
  have g1:sp_aStep [.slc (nz 3 (exC.map insD)) (exC.map insD) false,evD exV,digD (exD 2),.agg (digC (exD 4) ++ digC (exD 3)),opnD (openF (exS 2) 2)] = some (.tup [.agg (.int .i64 1 :: digC (exD 3)),.int .i64 0]) := by
    have := call_aStep exC exV (exD 2) (exD 4,exD 3) (openF (exS 2) 2) ⟨by decide,rfl,by decide⟩
    rw [ex_b,show verdF (exD 4,exD 3) (exD 3,0) = (1,exD 3) by unfold verdF judgeF; rw [if_pos rfl,if_neg ex_d43,if_pos rfl]] at this
    exact this
  have g2:∃ p d,sp_aStep [.slc (nz 3 (exC.map insD)) (exC.map insD) false,evD exV,digD (exD 2),.agg (digC (exD 4) ++ digC (exD 3)),opnD (openF (exS 2) 1)] = some (.tup [.agg (.int .i64 p :: digC d),.int .i64 390]) := by
    have := call_aStep exC exV (exD 2) (exD 4,exD 3) (openF (exS 2) 1) ⟨by decide,rfl,by decide⟩
    rw [ex_j] at this
    exact ⟨_,_,this⟩
  have g3:sp_aStep [.slc (nz 3 (exC.map insD)) (exC.map insD) false,evD exV,digD (exD 4),.agg (digC (exD 4) ++ digC padL),opnD (openF (exS 4) 0)] = some (.tup [.agg (.int .i64 1 :: digC padL),.int .i64 0]) := by
    have := call_aStep exC exV (exD 4) (exD 4,padL) (openF (exS 4) 0) ⟨by decide,rfl,by decide⟩
    rw [ex_x,show verdF (exD 4,padL) (padL,0) = (1,padL) by unfold verdF judgeF; rw [if_pos rfl,if_neg ex_d4,if_pos rfl]] at this
    exact this
  have g4:∃ p d,sp_aStep [.slc (nz 3 (exC.map insD)) (exC.map insD) false,evD exV,digD (exD 1),.agg (digC (exD 4) ++ digC (exD 3)),opnD (openF (exS 2) 2)] = some (.tup [.agg (.int .i64 p :: digC d),.int .i64 390]) := by
    have := call_aStep exC exV (exD 1) (exD 4,exD 3) (openF (exS 2) 2) ⟨by decide,rfl,by decide⟩
    rw [ex_m] at this
    exact ⟨_,_,this⟩
  have f2:sp_aFirst [.slc 0 [] false,evD exV,.agg (digC (exD 0) ++ digC (exD 1))] = some (.tup [.agg (.int .i64 (-1) :: digC padL),.int .i64 0]) := by
    have := call_aFirst [] exV (exD 0,exD 1) ⟨by decide,rfl⟩
    rw [ex_o,show verdF (exD 0,exD 1) (padL,0) = (-1,padL) by unfold verdF judgeF; rw [if_pos rfl,if_neg ex_d0,if_neg ex_d1]] at this
    exact this
  obtain ⟨p2,d2,g2⟩ := g2
  obtain ⟨p4,d4,g4⟩ := g4
  unfold F_wagonpoollaw39_sane
  simp (disch := first|omega|decide) only [push_cast,↓reduceIte,Nat.reduceEqDiff,Nat.reduceAdd,Int.reduceNeg,Int.reduceAdd,↓Int.reduceNatCast',c0,fill_17,box_17,idx_17,st_17,st_6,ld_ev hv,imm_ev,keys_ev,c1,box_21,st_derX hvR,ld_derX hvR,ld_exL,imm_der,keys_der,c2,c3,box_sta0,st_sta0,ld_sta,imm_sta,keys_sta,exR_x0,exR_x1,exR_x2,exR_x3,exR_x4,fill_clT,immL_cl,key_cl,f1,f2,g1,g2,g3,g4,o1,o2,o4,imm_opn,keys_opn,cp,fill_ver]
theorem c_sane39:Contract Tryd.prog GG 8 sp_sane39 :=
  contract_of tr_wagonpoollaw39_sane (tb_ok (all_cons c_example (all_cons c_run (all_cons c_state (all_cons c_aFirst (all_cons c_aStep (all_cons c_vOpen (all_cons c_mPad all_nil))))))) all_nil) (fun a h => w_sane39 )
end Go.Proofs.YtlleccmnjpcogaaDoor.PI
namespace Go.Proofs.YtlleccmnjpcogaaDoor.PI
open Go
set_option linter.unusedSimpArgs false
set_option linter.unusedVariables false
def tDig:Ty := .agg (List.replicate 32 (.int .u8))
def tyIns:Ty := .agg [.int .i64,.int .i64,.int .i64]
def tyEv:Ty := .agg [.int .i64,.agg (List.replicate 16 (.int .i64))]
theorem has_nI {d:D} (h:Has (.int .i64) d):∃ n:Int,d = nI n := by
  obtain ⟨n,rfl,_⟩ := has_i64 h
  exact ⟨n,rfl⟩
theorem has_ins {d:D} (h:Has tyIns d):∃ x:Ins,d = insD x := by
  obtain ⟨x,y,z,rfl,h1,h2,h3⟩ := has_agg3 h
  obtain ⟨a,rfl,_⟩ := has_i64 h1
  obtain ⟨b,rfl,_⟩ := has_i64 h2
  obtain ⟨c,rfl,_⟩ := has_i64 h3
  exact ⟨⟨a,b,c⟩,rfl⟩
theorem has_code {d:D} (h:Has (.slc tyIns) d):∃ l:List Ins,d = .slc (nz 3 (l.map insD)) (l.map insD) false ∧ l.length ≤ maxLen :=
  has_slc (f := insD) (fun _ => has_ins) h
theorem has_ints16 {d:D} (h:Has (.agg (List.replicate 16 (.int .i64))) d):∃ l:List Int,d = .agg (l.map nI) ∧ l.length = 16 := by
  cases h with
  | agg _ xs h1 h2 =>
    obtain ⟨l,rfl⟩ := lift_map (f := nI) (els := xs) fun x hx => by
      obtain ⟨i,hi⟩ := List.getElem?_of_mem hx
      have hlt:i < 16 := by
        have := (List.getElem?_eq_some_iff.1 hi).1
        rw [← h1,List.length_replicate] at this
        exact this
      exact has_nI (h2 i (.int .i64) x (by rw [List.getElem?_replicate,if_pos hlt]) hi)
    rw [List.length_replicate,List.length_map] at h1
    refine ⟨l,?_,h1.symm⟩
    have:∀ l:List Int,(l.map nI).flatMap D.cells = l.map nI := by
      intro l
      induction l with
      | nil => rfl
      | cons a r ih => simp only [List.map_cons,List.flatMap_cons,ih]; rfl
    rw [this]
theorem has_ev {d:D} (h:Has tyEv d):∃ v:Int × List Int,d = evD v ∧ v.2.length = 16 := by
  obtain ⟨x,y,rfl,h1,h2⟩ := has_agg2 h
  obtain ⟨n,rfl,_⟩ := has_i64 h1
  obtain ⟨l,rfl,hl⟩ := has_ints16 h2
  exact ⟨(n,l),rfl,hl⟩
theorem maxL:maxLen ≤ 9223372036854775807 := by decide
theorem immL_op (st:St):immL st (opC 0 0 0 0 (.slc 0 [] true) 0 zeroDig) = some (opC 0 0 0 0 (.slc 0 [] false) 0 zeroDig) := by
  have := imm_op st 0 0 0 0 0 [] true 0 zeroDig
  simp only [imm,Option.map_eq_some_iff,D.agg.injEq] at this
  obtain ⟨a,h1,rfl⟩ := this
  exact h1
theorem keys_op1:keys (.agg (opC 0 0 0 0 (.slc 0 [] true) 0 zeroDig)) = [] := (rfl)
end Go.Proofs.YtlleccmnjpcogaaDoor.PI
namespace Go.Proofs.YtlleccmnjpcogaaDoor.PI
open Go
set_option linter.unusedSimpArgs false
set_option linter.unusedVariables false
theorem step_of_open {c:List Ins} {v:Int × List Int} {s:Sta} {b:Dig} (n:Int) (hl:s.stack.length ≤ 64) (hb:b = digF c v s) (hp:¬ b = padL) :
    stepD c v b (openF s n) = if s.status ≠ 0 then (padL,0) else (closeF c v (stepOF c v (openF s n)),stepOE c (openF s n)) := by
  unfold stepD
  rw [if_neg hp,if_neg (by rw [close_of (openOf s n) hl,hb]; simp)]
  rfl
theorem step_ok {c:List Ins} {v:Int × List Int} {s:Sta} {b:Dig} (n:Int) (hl:s.stack.length ≤ 64) (hb:b = digF c v s) (hp:¬ b = padL) (hs:s.status = 0) (hr:readyF c s 0 = 0) (hk:¬ lackO c (openF s n)) :
    stepD c v b (openF s n) = (digF c v (stepF c v s),0) := by
  obtain ⟨h1,h2⟩ := step_of (v := v) (openOf s n) hl hr hk
  rw [step_of_open n hl hb hp,if_neg (by simp [hs]),h1,h2]
theorem lack_n {c:List Ins} {s:Sta} {n:Int} (h:lackO c (openF s n)):max n 0 < needF (insAt c s).op := by
  obtain ⟨_,h2,h3⟩ := h
  rw [ins_of c (openOf s n)] at h3
  have ht:((openF s n).top.length:Int) = s.stack.length - openK s n := by
    have := openK_le s n
    simp only [openF,List.length_drop]
    omega
  have hd:(openF s n).depth = (openK s n:Int) := rfl
  rw [ht] at h3
  rw [hd] at h2
  unfold openK at h2 h3
  omega
end Go.Proofs.YtlleccmnjpcogaaDoor.PI
namespace Go.Proofs.YtlleccmnjpcogaaDoor.PI
open Go
set_option linter.unusedSimpArgs false
set_option linter.unusedVariables false
def padB (l:List Dig):Bool := l.any fun d => decide (d = padL)
theorem padB_drop (l:List Dig) {i:Nat} (h:i < l.length):padB (l.drop i) = (decide (l.getD i default = padL) || padB (l.drop (i + 1))) := by
  rw [drop_cons l h]; rfl
theorem padB_no {l:List Dig} (h:padB l = false):∀ d ∈ l,¬ d = padL := by
  intro d hd e
  have := List.any_eq_false.1 h d hd
  simp [e] at this
noncomputable def sp_padded39:List D → Option D := spOf (α := List Dig) (fun a => [.slc (nz 32 (a.map digD)) (a.map digD) false]) (fun a => a.length ≤ 4294967296) (fun a => .bool (padB a))
theorem call_padded39 (l:List Dig) (h:l.length ≤ 4294967296):sp_padded39 [.slc (nz 32 (l.map digD)) (l.map digD) false] = some (.bool (padB l)) :=
  spOf_enc (fun a b h => by simp only [List.cons.injEq,D.slc.injEq,digs_iff,and_true] at h; simp [h]) (l) h
set_option maxHeartbeats 4000000 in
set_option maxRecDepth 20000 in
theorem w_padded39 (l:List Dig) (h:l.length ≤ 4294967296):@wW GG (tb [(14,sp_mPad)] []) F_wagonpoollaw39_padded.code (argF [.slc (nz 32 (l.map digD)) (l.map digD) false]) [] ⟨retQ F_wagonpoollaw39_padded.res (.bool (padB l))⟩ := by
  have cp := call_mPad
  unfold F_wagonpoollaw39_padded
  simp (disch := first|omega|decide) only [push_cast]
  refine W_while (fun i:Nat => [(0,.slc (nz 32 (l.map digD)) (l.map digD) false),(3,.int .i64 (i:Int))]) (fun i => []) (fun i => i ≤ l.length ∧ padB l = padB (l.drop i)) (fun i => l.length - i) 0 (by simp only [push_cast,↓reduceIte,Nat.reduceEqDiff,↓Int.reduceNatCast'] <;> rfl) ⟨by omega,rfl⟩ ?_
  rintro i ⟨hi,hb⟩
  unfold F_wagonpoollaw39_padded_L0
  simp (disch := first|omega|decide) only [push_cast,↓reduceIte,Nat.reduceEqDiff]
  refine ifD_split (fun h2 => ?_) (fun h2 => ?_)
  · have hil:i < l.length := by omega
    rw [padB_drop l hil] at hb
    by_cases q:l.getD i default = padL
    · simp only [q,decide_true,Bool.true_or] at hb
      rw [hb]
      simp (disch := first|omega|decide) only [push_cast,↓reduceIte,Nat.reduceEqDiff,idxS_nz,cp,q]
    · simp only [q,decide_false,Bool.false_or] at hb
      simp (disch := first|omega|decide) only [push_cast,↓reduceIte,Nat.reduceEqDiff,idxS_nz,cp,q,add_i]
      refine next_head (i + 1) (by exact ⟨by omega,hb⟩) (by omega) ?_
      simp only [push_cast] <;> rfl
  · obtain rfl:i = l.length := by omega
    rw [hb,List.drop_length]
    simp (disch := first|omega|decide) only [push_cast,↓reduceIte]
    rfl
theorem c_padded39:Contract Tryd.prog GG 19 sp_padded39 :=
  contract_of tr_wagonpoollaw39_padded (tb_ok (all_cons c_mPad all_nil) all_nil) (fun a h => w_padded39 a h)
theorem RunOK.get {c:List Ins} {v:Int × List Int}:∀ {l:List Sta} {i:Nat} {s:Sta},RunOK c v l → l[i]? = some s → (i + 1 < l.length → s.status = 0 ∧ readyF c s 0 = 0 ∧ l[i + 1]? = some (stepF c v s)) ∧ (i + 1 = l.length → s.status ≠ 0)
  | [],i,s,h,_ => h.elim
  | [x],i,s,h,hi => by
    cases i with
    | zero =>
      obtain rfl := Option.some.inj hi
      exact ⟨fun q => by simp at q,fun _ => h⟩
    | succ i => simp at hi
  | x :: y :: l,i,s,h,hi => by
    obtain ⟨h1,h2,h3,h4⟩ := h
    cases i with
    | zero =>
      obtain rfl := Option.some.inj hi
      exact ⟨fun _ => ⟨h1,h2,by rw [h3]; rfl⟩,fun q => by simp at q⟩
    | succ i =>
      have := RunOK.get h4 (i := i) (s := s) (by simpa using hi)
      refine ⟨fun q => ?_,fun q => this.2 (by simpa using q)⟩
      obtain ⟨a,b,d⟩ := this.1 (by simpa using q)
      exact ⟨a,b,by simpa using d⟩
theorem need_2 (op:Int):needF op ≤ 2 := by
  unfold needF
  split
  · decide
  · split <;> decide
theorem next_mine {c:List Ins} {v:Int × List Int} {t:List Sta} (hr:RunOK c v t) (hl:∀ x ∈ t,x.stack.length ≤ 64) {i:Nat} {s:Sta} (hi:t[i]? = some s) (hp:¬ digF c v s = padL) :
    stepD c v (digF c v s) (openF s 2) = (((t.map (digF c v))[i + 1]?).getD padL,0) := by
  have hs := hl s (List.mem_of_getElem? hi)
  obtain ⟨g1,g2⟩ := hr.get hi
  have hlt:i < t.length := (List.getElem?_eq_some_iff.1 hi).1
  rw [List.getElem?_map]
  by_cases q:i + 1 < t.length
  · obtain ⟨h1,h2,h3⟩ := g1 q
    rw [step_ok 2 hs rfl hp h1 h2 (fun lk => by have := lack_n lk; have := need_2 (insAt c s).op; omega),h3]
    rfl
  · have h1 := g2 (by omega)
    rw [step_of_open 2 hs rfl hp,if_pos h1,List.getElem?_eq_none (by omega)]
    rfl
theorem trace_len {c:List Ins} {v:Int × List Int} (hv:(verifyF c).2 = 0):∀ x ∈ traceL c v,x.stack.length ≤ 64 := by
  obtain ⟨D,l,hD,ht,_,_,hg⟩ := trace_ok (v := v) hv
  rw [ht]
  intro x hx
  rcases hg x hx with h | h
  · exact h.len hD
  · exact h.l
theorem judge_mine (m o:Dig) (second:Bool):judgeF (if second = true then (o,m) else (m,o)) m = if o = m then 0 else if second = true then 1 else 0 := by
  unfold judgeF
  cases second <;> by_cases h:o = m <;> simp [h]
end Go.Proofs.YtlleccmnjpcogaaDoor.PI
namespace Go.Proofs.YtlleccmnjpcogaaDoor.PI
open Go
set_option linter.unusedSimpArgs false
set_option linter.unusedVariables false
theorem conv_kU (st:St) (k:Int):pconv st (.int .u64) (.int .i64 k) = some (.int .u64 (k % 18446744073709551616)) := (rfl)
theorem rem_uA {a b:Int} (hb:0 < b) (ha:0 ≤ a):pbin .rem (.int .u64 a) (.int .u64 b) = some (.int .u64 (a % b)) := by
  have h3:a.tmod b = a % b := Int.tmod_eq_emod_of_nonneg ha
  simp only [pbin,if_true,iarith,show ¬ b = 0 by omega,if_false,Option.map_some,h3]
theorem box_cl0:boxD (.agg (.int .u8 0 :: .int .u8 0 :: .int .u8 0 :: .int .u8 0 :: .int .u8 0 :: .int .u8 0 :: .int .u8 0 :: .int .u8 0 :: .int .u8 0 :: .int .u8 0 :: .int .u8 0 :: .int .u8 0 :: .int .u8 0 :: .int .u8 0 :: .int .u8 0 :: .int .u8 0 :: .int .u8 0 :: .int .u8 0 :: .int .u8 0 :: .int .u8 0 :: .int .u8 0 :: .int .u8 0 :: .int .u8 0 :: .int .u8 0 :: .int .u8 0 :: .int .u8 0 :: .int .u8 0 :: .int .u8 0 :: .int .u8 0 :: .int .u8 0 :: .int .u8 0 :: .int .u8 0 :: digC zeroDig)) = some (digC zeroDig ++ digC zeroDig) := (rfl)
theorem st_clA (a b a' b':Dig):stO (some ⟨false,1,digC a ++ digC b,false⟩) 64 0 (.agg (digC a' ++ digC b')) = some ⟨false,1,digC a' ++ digC b',false⟩ := stO_all 1 _ _ 64 (cl_length (a,b)) (cl_length (a',b')) (cl_cell (a',b'))
theorem ld_clA (lent:Bool) (a b:Dig):ldO (some ⟨false,1,digC a ++ digC b,lent⟩) 64 true 0 = some (.agg (digC a ++ digC b)) := ld_cl lent (a,b)
set_option maxHeartbeats 4000000 in
set_option maxRecDepth 20000 in
theorem lw_ArbiterHonest (c:List Ins) (hc:c.length ≤ maxLen) (v:Int × List Int) (hv:v.2.length = 16) (k:Int) (hk1:-9223372036854775808 ≤ k) (hk2:k < 9223372036854775808) (other:Dig) (second:Bool):@wW GG (tb [(8,sp_sane39),(9,sp_run),(10,sp_few39),(19,sp_padded39),(14,sp_mPad),(15,sp_aFirst),(16,sp_state),(18,sp_vOpen),(17,sp_aStep)] []) F_wagonpoollaw39_ArbiterHonest.code (argF [.slc (nz 3 (c.map insD)) (c.map insD) false,evD v,.int .i64 k,digD other,.bool second]) [] ⟨retQ F_wagonpoollaw39_ArbiterHonest.res (.bool true)⟩ := by
  have hc':c.length ≤ 9223372036854775807 := Nat.le_trans hc maxL
  have hvv:vOK v := hv
  have csn := call_sane39
  have cp := call_mPad
  have cf:sp_few39 [.slc (nz 3 (c.map insD)) (c.map insD) false,.slc 0 [] false] = some (.bool (decide (c.length ≤ 30 ∧ 0 ≤ 66))) := call_few39 c []
  have cr := call_run c v ⟨hc',hvv⟩
  unfold F_wagonpoollaw39_ArbiterHonest
  by_cases hf:c.length ≤ 30
  · by_cases he:(verifyF c).2 = 0
    · obtain ⟨hcl,hcn,hfm,_⟩ := verify_ok he
      obtain ⟨Dm,tl,hD,ht,hr,hll,hg⟩ := trace_ok (v := v) he
      have hstk := trace_len (v := v) he
      obtain ⟨R,hR⟩:∃ R,runF c v = R := ⟨_,rfl⟩
      have hRc:R.code = c := by rw [← hR]; unfold runF; rw [if_pos he]
      have hRe:R.env = v := by rw [← hR]; unfold runF; rw [if_pos he]
      obtain ⟨L,hL⟩:∃ L,R.lv = L := ⟨_,rfl⟩
      have hLt:L = (traceL c v).map (digF c v) := by rw [← hL,← hR]; unfold runF; rw [if_pos he]
      have hn:L.length = tl.length + 1 := by rw [hLt,ht]; simp
      have hvR:vOK R.env := by rw [hRe]; exact hvv
      rw [hR,he] at cr
      have ld_lv:∀ lent,ldO (some ⟨false,1,derC (cdD R.code) R.env R.am R.er (lvD R.lv),lent⟩) 1 false 20 = some (.slc (nz 32 (L.map digD)) (L.map digD) false) := fun lent => by rw [ld_derL hvR,hL]; rfl
      have cpd := call_padded39 L (by omega)
      have n1:¬ (L.length:Int) = 0 := by omega
      have n2:¬ (31:Int) < (L.length:Int) := by omega
      cases hpb:padB L with
      | true =>
        rw [hpb] at cpd
        simp (disch := first|omega|decide) only [push_cast,↓reduceIte,Nat.reduceEqDiff,Nat.reduceAdd,csn,cf,cr,hf,box_ev,ld_ev hvv,imm_ev,keys_ev,box_21,st_derX hvR,ld_lv,and_self,decide_true,n1,n2,cpd]
      | false =>
        rw [hpb] at cpd
        have hnp := padB_no hpb
        have k0:0 ≤ k % 18446744073709551616 := Int.emod_nonneg _ (by decide)
        have i0:0 ≤ (k % 18446744073709551616) % ((L.length:Int) + 2) := Int.emod_nonneg _ (by omega)
        have i1:(k % 18446744073709551616) % ((L.length:Int) + 2) < (L.length:Int) + 2 := Int.emod_lt_of_pos _ (by omega)
        obtain ⟨j,hj⟩ := Int.eq_ofNat_of_zero_le i0
        rw [hj] at i1
        have hI := hj
        have hm64:((L.length:Int) + 2) % 18446744073709551616 = (L.length:Int) + 2 := by omega
        have hM:∀ (M:Dig) (sec:Bool) (e:Int),∀ q:Int,q = (if other = M then 0 else if sec = true then 1 else 0) → verdF (if sec = true then (other,M) else (M,other)) (M,0) = (q,M) := fun M sec e q hq => by
          rw [hq]; unfold verdF; rw [if_pos rfl,judge_mine]
        by_cases hj0:j = 0
        · subst hj0
          have hfd:firstD c v = (L.getD 0 default,0) := by
            unfold firstD
            rw [if_neg (by omega),if_neg (by simp [he]),hLt,ht]; rfl
          have hlt:(0:Int) < (L.length:Int) := by omega
          obtain ⟨M,hMM⟩:∃ M,L.getD 0 default = M := ⟨_,rfl⟩
          rw [hMM] at hfd
          have an:∀ sec:Bool,_ := fun sec => call_aFirst c v (if sec = true then (other,M) else (M,other)) ⟨hc',hvv⟩
          rw [hfd] at an
          cases second with
          | true =>
            have a1 := an true
            rw [hM M true 0 _ rfl] at a1
            simp only [if_true,verD,clD] at a1
            by_cases ho:other = M
            · simp only [ho,if_true] at a1
              simp (disch := first|omega|decide) only [push_cast,↓reduceIte,Nat.reduceEqDiff,Nat.reduceAdd,↓Int.reduceNatCast',csn,cf,cr,hf,box_ev,ld_ev hvv,imm_ev,keys_ev,box_21,st_derX hvR,ld_lv,and_self,decide_true,n1,n2,cpd,conv_kU,hm64,add_i,rem_uA,conv_ui,hI,cp,fill_clT,box_cl0,st_clA,ld_clA,immL_cl,key_cl,idxS_nz,hlt,hMM,ho,a1]
            · simp only [ho,if_false] at a1
              simp (disch := first|omega|decide) only [push_cast,↓reduceIte,Nat.reduceEqDiff,Nat.reduceAdd,↓Int.reduceNatCast',csn,cf,cr,hf,box_ev,ld_ev hvv,imm_ev,keys_ev,box_21,st_derX hvR,ld_lv,and_self,decide_true,n1,n2,cpd,conv_kU,hm64,add_i,rem_uA,conv_ui,hI,cp,fill_clT,box_cl0,st_clA,ld_clA,immL_cl,key_cl,idxS_nz,hlt,hMM,ho,a1]
          | false =>
            have a1 := an false
            rw [hM M false 0 _ rfl] at a1
            simp only [Bool.false_eq_true,if_false,verD,clD] at a1
            by_cases ho:other = M
            · simp only [ho,if_true] at a1
              simp (disch := first|omega|decide) only [push_cast,↓reduceIte,Nat.reduceEqDiff,Nat.reduceAdd,↓Int.reduceNatCast',csn,cf,cr,hf,box_ev,ld_ev hvv,imm_ev,keys_ev,box_21,st_derX hvR,ld_lv,and_self,decide_true,n1,n2,cpd,conv_kU,hm64,add_i,rem_uA,conv_ui,hI,cp,fill_clT,box_cl0,st_clA,ld_clA,immL_cl,key_cl,idxS_nz,hlt,hMM,ho,a1]
            · simp only [ho,if_false] at a1
              simp (disch := first|omega|decide) only [push_cast,↓reduceIte,Nat.reduceEqDiff,Nat.reduceAdd,↓Int.reduceNatCast',csn,cf,cr,hf,box_ev,ld_ev hvv,imm_ev,keys_ev,box_21,st_derX hvR,ld_lv,and_self,decide_true,n1,n2,cpd,conv_kU,hm64,add_i,rem_uA,conv_ui,hI,cp,fill_clT,box_cl0,st_clA,ld_clA,immL_cl,key_cl,idxS_nz,hlt,hMM,ho,a1]
        have hj0':¬ (j:Int) = 0 := by omega
        by_cases hjn:j ≤ L.length
        · obtain ⟨i,rfl⟩:∃ i,j = i + 1 := ⟨j - 1,by omega⟩
          have hji:((i:Int) + 1) - 1 = (i:Int) := by omega
          have hj0':¬ ((i:Int) + 1) = 0 := by omega
          have htn:((i:Int) + 1).toNat = i + 1 := by omega
          have hi':(k % 18446744073709551616) % ((L.length:Int) + 2) = (i:Int) + 1 := by rw [hI]; rfl
          have htl:(traceL c v).length = L.length := by rw [hLt]; simp
          obtain ⟨s,hs⟩:∃ s,(traceL c v)[i]? = some s := ⟨_,List.getElem?_eq_getElem (by omega)⟩
          have hLi:L.getD i default = digF c v s := by rw [hLt,List.getD_eq_getElem?_getD,List.getElem?_map,hs]; rfl
          have hsl := hstk s (List.mem_of_getElem? hs)
          have hpp:¬ digF c v s = padL := by
            rw [← hLi]
            refine hnp _ ?_
            rw [List.getD_eq_getElem?_getD,List.getElem?_eq_getElem (show i < L.length by omega)]
            exact List.getElem_mem _
          have hnm := next_mine (ht ▸ hr) hstk hs hpp
          rw [← hLt] at hnm
          have cst := call_state R (i:Int) ⟨by rw [hRc]; exact hc',hvR⟩
          rw [hRc,hRe,show staF c v (i:Int) = (s,0) by unfold staF; rw [if_pos he,if_neg (by omega),Int.toNat_natCast,hs]] at cst
          have on := call_vOpen s 2 (by omega)
          obtain ⟨M,hMM⟩:∃ M,(L[i + 1]?).getD padL = M := ⟨_,rfl⟩
          rw [hMM] at hnm
          have an:∀ sec:Bool,_ := fun sec => call_aStep c v (digF c v s) (if sec = true then (other,M) else (M,other)) (openF s 2) ⟨by omega,hvv,by simp only [openF,List.length_drop]; omega⟩
          rw [hnm] at an
          have hle:((i:Int) + 1) ≤ (L.length:Int) := by omega
          by_cases hjl:i + 1 < L.length
          · have hlt:((i:Int) + 1) < (L.length:Int) := by omega
            have hMj:L.getD (i + 1) default = M := by rw [← hMM,List.getD_eq_getElem?_getD,List.getElem?_eq_getElem hjl]; rfl
            cases second with
            | true =>
              have a1 := an true
              rw [hM M true 0 _ rfl] at a1
              simp only [if_true,verD,clD] at a1
              by_cases ho:other = M
              · simp only [ho,if_true] at a1
                simp (disch := first|omega|decide) only [push_cast,↓reduceIte,Nat.reduceEqDiff,Nat.reduceAdd,csn,cf,cr,hf,box_ev,ld_ev hvv,imm_ev,keys_ev,box_21,st_derX hvR,ld_derX hvR,imm_der,keys_der,ld_lv,and_self,decide_true,n1,n2,cpd,conv_kU,hm64,add_i,sub_i,rem_uA,conv_ui,hI,cp,fill_clT,box_cl0,st_clA,ld_clA,immL_cl,key_cl,idxS_nz,hj0',opn0_eq,fill_o0,box_opS,st_opn,st_opS,ld_opn,imm_opn,keys_opn,box_sta0,st_sta0,ld_sta,imm_sta,keys_sta,hlt,hle,hMj,hji,hLi,htn,cst,on,ho,a1]
              · simp only [ho,if_false] at a1
                simp (disch := first|omega|decide) only [push_cast,↓reduceIte,Nat.reduceEqDiff,Nat.reduceAdd,csn,cf,cr,hf,box_ev,ld_ev hvv,imm_ev,keys_ev,box_21,st_derX hvR,ld_derX hvR,imm_der,keys_der,ld_lv,and_self,decide_true,n1,n2,cpd,conv_kU,hm64,add_i,sub_i,rem_uA,conv_ui,hI,cp,fill_clT,box_cl0,st_clA,ld_clA,immL_cl,key_cl,idxS_nz,hj0',opn0_eq,fill_o0,box_opS,st_opn,st_opS,ld_opn,imm_opn,keys_opn,box_sta0,st_sta0,ld_sta,imm_sta,keys_sta,hlt,hle,hMj,hji,hLi,htn,cst,on,ho,a1]
            | false =>
              have a1 := an false
              rw [hM M false 0 _ rfl] at a1
              simp only [Bool.false_eq_true,if_false,verD,clD] at a1
              by_cases ho:other = M
              · simp only [ho,if_true] at a1
                simp (disch := first|omega|decide) only [push_cast,↓reduceIte,Nat.reduceEqDiff,Nat.reduceAdd,csn,cf,cr,hf,box_ev,ld_ev hvv,imm_ev,keys_ev,box_21,st_derX hvR,ld_derX hvR,imm_der,keys_der,ld_lv,and_self,decide_true,n1,n2,cpd,conv_kU,hm64,add_i,sub_i,rem_uA,conv_ui,hI,cp,fill_clT,box_cl0,st_clA,ld_clA,immL_cl,key_cl,idxS_nz,hj0',opn0_eq,fill_o0,box_opS,st_opn,st_opS,ld_opn,imm_opn,keys_opn,box_sta0,st_sta0,ld_sta,imm_sta,keys_sta,hlt,hle,hMj,hji,hLi,htn,cst,on,ho,a1]
              · simp only [ho,if_false] at a1
                simp (disch := first|omega|decide) only [push_cast,↓reduceIte,Nat.reduceEqDiff,Nat.reduceAdd,csn,cf,cr,hf,box_ev,ld_ev hvv,imm_ev,keys_ev,box_21,st_derX hvR,ld_derX hvR,imm_der,keys_der,ld_lv,and_self,decide_true,n1,n2,cpd,conv_kU,hm64,add_i,sub_i,rem_uA,conv_ui,hI,cp,fill_clT,box_cl0,st_clA,ld_clA,immL_cl,key_cl,idxS_nz,hj0',opn0_eq,fill_o0,box_opS,st_opn,st_opS,ld_opn,imm_opn,keys_opn,box_sta0,st_sta0,ld_sta,imm_sta,keys_sta,hlt,hle,hMj,hji,hLi,htn,cst,on,ho,a1]
          · have hlt:¬ ((i:Int) + 1) < (L.length:Int) := by omega
            have hMj:M = padL := by rw [← hMM,List.getElem?_eq_none (by omega)]; rfl
            subst hMj
            cases second with
            | true =>
              have a1 := an true
              rw [hM padL true 0 _ rfl] at a1
              simp only [if_true,verD,clD] at a1
              by_cases ho:other = padL
              · simp only [ho,if_true] at a1
                simp (disch := first|omega|decide) only [push_cast,↓reduceIte,Nat.reduceEqDiff,Nat.reduceAdd,csn,cf,cr,hf,box_ev,ld_ev hvv,imm_ev,keys_ev,box_21,st_derX hvR,ld_derX hvR,imm_der,keys_der,ld_lv,and_self,decide_true,n1,n2,cpd,conv_kU,hm64,add_i,sub_i,rem_uA,conv_ui,hI,cp,fill_clT,box_cl0,st_clA,ld_clA,immL_cl,key_cl,idxS_nz,hj0',opn0_eq,fill_o0,box_opS,st_opn,st_opS,ld_opn,imm_opn,keys_opn,box_sta0,st_sta0,ld_sta,imm_sta,keys_sta,hlt,hle,hji,hLi,cst,on,ho,a1]
              · simp only [ho,if_false] at a1
                simp (disch := first|omega|decide) only [push_cast,↓reduceIte,Nat.reduceEqDiff,Nat.reduceAdd,csn,cf,cr,hf,box_ev,ld_ev hvv,imm_ev,keys_ev,box_21,st_derX hvR,ld_derX hvR,imm_der,keys_der,ld_lv,and_self,decide_true,n1,n2,cpd,conv_kU,hm64,add_i,sub_i,rem_uA,conv_ui,hI,cp,fill_clT,box_cl0,st_clA,ld_clA,immL_cl,key_cl,idxS_nz,hj0',opn0_eq,fill_o0,box_opS,st_opn,st_opS,ld_opn,imm_opn,keys_opn,box_sta0,st_sta0,ld_sta,imm_sta,keys_sta,hlt,hle,hji,hLi,cst,on,ho,a1]
            | false =>
              have a1 := an false
              rw [hM padL false 0 _ rfl] at a1
              simp only [Bool.false_eq_true,if_false,verD,clD] at a1
              by_cases ho:other = padL
              · simp only [ho,if_true] at a1
                simp (disch := first|omega|decide) only [push_cast,↓reduceIte,Nat.reduceEqDiff,Nat.reduceAdd,csn,cf,cr,hf,box_ev,ld_ev hvv,imm_ev,keys_ev,box_21,st_derX hvR,ld_derX hvR,imm_der,keys_der,ld_lv,and_self,decide_true,n1,n2,cpd,conv_kU,hm64,add_i,sub_i,rem_uA,conv_ui,hI,cp,fill_clT,box_cl0,st_clA,ld_clA,immL_cl,key_cl,idxS_nz,hj0',opn0_eq,fill_o0,box_opS,st_opn,st_opS,ld_opn,imm_opn,keys_opn,box_sta0,st_sta0,ld_sta,imm_sta,keys_sta,hlt,hle,hji,hLi,cst,on,ho,a1]
              · simp only [ho,if_false] at a1
                simp (disch := first|omega|decide) only [push_cast,↓reduceIte,Nat.reduceEqDiff,Nat.reduceAdd,csn,cf,cr,hf,box_ev,ld_ev hvv,imm_ev,keys_ev,box_21,st_derX hvR,ld_derX hvR,imm_der,keys_der,ld_lv,and_self,decide_true,n1,n2,cpd,conv_kU,hm64,add_i,sub_i,rem_uA,conv_ui,hI,cp,fill_clT,box_cl0,st_clA,ld_clA,immL_cl,key_cl,idxS_nz,hj0',opn0_eq,fill_o0,box_opS,st_opn,st_opS,ld_opn,imm_opn,keys_opn,box_sta0,st_sta0,ld_sta,imm_sta,keys_sta,hlt,hle,hji,hLi,cst,on,ho,a1]
        · have hle:¬ (j:Int) ≤ (L.length:Int) := by omega
          have hlt:¬ (j:Int) < (L.length:Int) := by omega
          obtain ⟨M,hMM⟩:∃ M,padL = M := ⟨_,rfl⟩
          have an:∀ sec:Bool,_ := fun sec => call_aStep c v padL (if sec = true then (other,M) else (M,other)) zOpn ⟨by omega,hvv,by decide⟩
          rw [show stepD c v padL zOpn = (padL,0) from if_pos rfl,hMM] at an
          rw [show opnD zOpn = .agg (opC 0 0 0 0 (.slc 0 [] false) 0 zeroDig) from rfl] at an
          rw [hMM] at cp
          cases second with
          | true =>
            have a1 := an true
            rw [hM M true 0 _ rfl] at a1
            simp only [if_true,verD,clD] at a1
            by_cases ho:other = M
            · simp only [ho,if_true] at a1
              simp (disch := first|omega|decide) only [push_cast,↓reduceIte,Nat.reduceEqDiff,Nat.reduceAdd,csn,cf,cr,hf,box_ev,ld_ev hvv,imm_ev,keys_ev,box_21,st_derX hvR,ld_lv,and_self,decide_true,n1,n2,cpd,conv_kU,hm64,add_i,rem_uA,conv_ui,hI,cp,fill_clT,box_cl0,st_clA,ld_clA,immL_cl,key_cl,hj0',opn0_eq,fill_o0,box_opS,st_opS,ld_op,immL_op,keys_op1,hlt,hle,ho,a1]
            · simp only [ho,if_false] at a1
              simp (disch := first|omega|decide) only [push_cast,↓reduceIte,Nat.reduceEqDiff,Nat.reduceAdd,csn,cf,cr,hf,box_ev,ld_ev hvv,imm_ev,keys_ev,box_21,st_derX hvR,ld_lv,and_self,decide_true,n1,n2,cpd,conv_kU,hm64,add_i,rem_uA,conv_ui,hI,cp,fill_clT,box_cl0,st_clA,ld_clA,immL_cl,key_cl,hj0',opn0_eq,fill_o0,box_opS,st_opS,ld_op,immL_op,keys_op1,hlt,hle,ho,a1]
          | false =>
            have a1 := an false
            rw [hM M false 0 _ rfl] at a1
            simp only [Bool.false_eq_true,if_false,verD,clD] at a1
            by_cases ho:other = M
            · simp only [ho,if_true] at a1
              simp (disch := first|omega|decide) only [push_cast,↓reduceIte,Nat.reduceEqDiff,Nat.reduceAdd,csn,cf,cr,hf,box_ev,ld_ev hvv,imm_ev,keys_ev,box_21,st_derX hvR,ld_lv,and_self,decide_true,n1,n2,cpd,conv_kU,hm64,add_i,rem_uA,conv_ui,hI,cp,fill_clT,box_cl0,st_clA,ld_clA,immL_cl,key_cl,hj0',opn0_eq,fill_o0,box_opS,st_opS,ld_op,immL_op,keys_op1,hlt,hle,ho,a1]
            · simp only [ho,if_false] at a1
              simp (disch := first|omega|decide) only [push_cast,↓reduceIte,Nat.reduceEqDiff,Nat.reduceAdd,csn,cf,cr,hf,box_ev,ld_ev hvv,imm_ev,keys_ev,box_21,st_derX hvR,ld_lv,and_self,decide_true,n1,n2,cpd,conv_kU,hm64,add_i,rem_uA,conv_ui,hI,cp,fill_clT,box_cl0,st_clA,ld_clA,immL_cl,key_cl,hj0',opn0_eq,fill_o0,box_opS,st_opS,ld_op,immL_op,keys_op1,hlt,hle,ho,a1]
    · have hvR:vOK (runF c v).env := by rw [show runF c v = zDer from if_neg he]; rfl
      simp (disch := first|omega|decide) only [push_cast,↓reduceIte,Nat.reduceEqDiff,Nat.reduceAdd,csn,cf,cr,hf,he,box_ev,ld_ev hvv,imm_ev,keys_ev,box_dig,box_21,st_derX hvR,and_self,decide_true]
  · by_cases he:(verifyF c).2 = 0
    · have hvR:vOK (runF c v).env := by rw [show runF c v = _ from if_pos he]; exact hvv
      simp (disch := first|omega|decide) only [push_cast,↓reduceIte,Nat.reduceEqDiff,Nat.reduceAdd,csn,cf,cr,hf,he,box_ev,ld_ev hvv,imm_ev,keys_ev,box_dig,box_21,st_derX hvR,false_and,decide_false]
    · have hvR:vOK (runF c v).env := by rw [show runF c v = zDer from if_neg he]; rfl
      simp (disch := first|omega|decide) only [push_cast,↓reduceIte,Nat.reduceEqDiff,Nat.reduceAdd,csn,cf,cr,hf,he,box_ev,ld_ev hvv,imm_ev,keys_ev,box_dig,box_21,st_derX hvR,false_and,decide_false]
theorem law_ArbiterHonest:Contract Tryd.prog GG 4 (lawSp [.slc tyIns,tyEv,.int .i64,tDig,.bool]) := by
  refine lawC tr_wagonpoollaw39_ArbiterHonest (T := tb [(8,sp_sane39),(9,sp_run),(10,sp_few39),(19,sp_padded39),(14,sp_mPad),(15,sp_aFirst),(16,sp_state),(18,sp_vOpen),(17,sp_aStep)] []) (tb_ok (all_cons c_sane39 (all_cons c_run (all_cons c_few39 (all_cons c_padded39 (all_cons c_mPad (all_cons c_aFirst (all_cons c_state (all_cons c_vOpen (all_cons c_aStep all_nil))))))))) all_nil) ?_
  intro xs h
  obtain ⟨x0,xs,rfl,h0,h⟩ := hasAll_cons h
  obtain ⟨x1,xs,rfl,h1,h⟩ := hasAll_cons h
  obtain ⟨x2,xs,rfl,h2,h⟩ := hasAll_cons h
  obtain ⟨x3,xs,rfl,h3,h⟩ := hasAll_cons h
  obtain ⟨x4,xs,rfl,h4,h⟩ := hasAll_cons h
  obtain rfl := hasAll_nil h
  obtain ⟨y0,rfl,ya0⟩ := has_code h0
  obtain ⟨y1,rfl,ya1⟩ := has_ev h1
  obtain ⟨y2,rfl,ya2,yb2⟩ := has_i64 h2
  obtain ⟨y3,rfl⟩ := has_dig h3
  obtain ⟨y4,rfl⟩ := has_bool h4
  exact lw_ArbiterHonest y0 ya0 y1 ya1 y2 ya2 yb2 y3 y4
end Go.Proofs.YtlleccmnjpcogaaDoor.PI
