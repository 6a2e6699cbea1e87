/-
  The arbiter's example.
  Conditions: none; these are lemmas.
-/
import Derived.Test.YtlleccmnjpcogaaDoorArK
set_option linter.unusedVariables false
set_option linter.unusedSimpArgs false
namespace Go.Proofs.YtlleccmnjpcogaaDoor.PI
open Go
set_option linter.unusedSimpArgs false
set_option linter.unusedVariables false
def mgO (o:Option PI.Obj) (sz:Nat) (ks:List Nat) (ok:Bool) (zero k:D):Option D := match o with
 | some o => if o.isMap && o.sz == sz && (keyEq sz ks k k).isSome then match mfind sz ks k o.els 0 with
   | some (some i) => match o.els[i]? with
    | some el => some (if ok then .tup [entV sz el,.bool true] else entV sz el)
    | none => none
   | some none => some (if ok then .tup [zero,.bool false] else zero)
   | none => none
  else none
 | none => none
theorem pmapget_v (st:St) (sz:Nat) (ks:List Nat) (ok:Bool) (zero k:D) (key:Nat):pmapget st sz ks ok zero (.mapv key) k = mgO st[key]? sz ks ok zero k := (rfl)
def muO (o:Option PI.Obj) (sz:Nat) (ks:List Nat) (k v:D):Option PI.Obj := match o with
 | some o => if o.isMap && o.sz == sz && !o.lent && v.isCell && k.cells.length + 1 == sz && k.cells.all D.isCell && keyEq sz ks k k == some true then match mfind sz ks k o.els 0 with
   | some (some i) => some { o with els := o.els.set i (.agg (k.cells ++ [v])) }
   | some none => some { o with els := o.els ++ [.agg (k.cells ++ [v])] }
   | none => none
  else none
 | none => none
theorem pmapup_v (st:St) (sz:Nat) (ks:List Nat) (k v:D) (key:Nat):pmapup st sz ks (.mapv key) k v = (muO st[key]? sz ks k v).map fun o => st.set key o := by
 simp only [pmapup,muO]
 cases st[key]? with
 | none => rfl
 | some o =>
  simp only
  split
  ·cases mfind sz ks k o.els 0 with
   | none => rfl
   | some r => cases r <;> rfl
  ·rfl
def exA:List (Int × Nat) := [(1,5000080),(2,5000081),(12,5000082),(13,5000083),(14,5000084),(15,5000085),(16,5000086)]
def exEnt (k:Nat) (p:Int × Nat):D := .agg [.int .i64 p.1,.clo p.2 [.ptr k 0]]
def exN (k i:Nat):List D := (exA.take i).map (exEnt k)
theorem mu_0 (k:Nat):muO (some ⟨false,2,[],false⟩) 2 [0] (.int .i64 1) (.clo 5000080 [.ptr k 0]) = some ⟨false,2,exN k 1,false⟩ := (rfl)
theorem mu_1 (k:Nat):muO (some ⟨false,2,exN k 1,false⟩) 2 [0] (.int .i64 2) (.clo 5000081 [.ptr k 0]) = some ⟨false,2,exN k 2,false⟩ := (rfl)
theorem mu_2 (k:Nat):muO (some ⟨false,2,exN k 2,false⟩) 2 [0] (.int .i64 12) (.clo 5000082 [.ptr k 0]) = some ⟨false,2,exN k 3,false⟩ := (rfl)
theorem mu_3 (k:Nat):muO (some ⟨false,2,exN k 3,false⟩) 2 [0] (.int .i64 13) (.clo 5000083 [.ptr k 0]) = some ⟨false,2,exN k 4,false⟩ := (rfl)
theorem mu_4 (k:Nat):muO (some ⟨false,2,exN k 4,false⟩) 2 [0] (.int .i64 14) (.clo 5000084 [.ptr k 0]) = some ⟨false,2,exN k 5,false⟩ := (rfl)
theorem mu_5 (k:Nat):muO (some ⟨false,2,exN k 5,false⟩) 2 [0] (.int .i64 15) (.clo 5000085 [.ptr k 0]) = some ⟨false,2,exN k 6,false⟩ := (rfl)
theorem mu_6 (k:Nat):muO (some ⟨false,2,exN k 6,false⟩) 2 [0] (.int .i64 16) (.clo 5000086 [.ptr k 0]) = some ⟨false,2,exN k 7,false⟩ := (rfl)
theorem mg_hit (k:Nat) (op:Int) (f:Nat) (h:gfind op exA = some f):mgO (some ⟨false,2,exN k 7,false⟩) 2 [0] true .nilf (.int .i64 op) = some (.tup [.clo f [.ptr k 0],.bool true]) := by
 simp only [exA,gfind] at h
 split at h
 ·simp only [Option.some.injEq] at h; subst h; rename_i e; subst e; rfl
 split at h
 ·simp only [Option.some.injEq] at h; subst h; rename_i e; subst e; rfl
 split at h
 ·simp only [Option.some.injEq] at h; subst h; rename_i e; subst e; rfl
 split at h
 ·simp only [Option.some.injEq] at h; subst h; rename_i e; subst e; rfl
 split at h
 ·simp only [Option.some.injEq] at h; subst h; rename_i e; subst e; rfl
 split at h
 ·simp only [Option.some.injEq] at h; subst h; rename_i e; subst e; rfl
 split at h
 ·simp only [Option.some.injEq] at h; subst h; rename_i e; subst e; rfl
 cases h
theorem mg_miss (k:Nat) (op:Int) (h:3 ≤ op ∧ op ≤ 11):mgO (some ⟨false,2,exN k 7,false⟩) 2 [0] true .nilf (.int .i64 op) = some (.tup [.nilf,.bool false]) := by
 have:op = 3 ∨ op = 4 ∨ op = 5 ∨ op = 6 ∨ op = 7 ∨ op = 8 ∨ op = 9 ∨ op = 10 ∨ op = 11 := by omega
 rcases this with rfl | rfl | rfl | rfl | rfl | rfl | rfl | rfl | rfl <;> rfl
theorem get_l2 (st:St) (a b:PI.Obj):(st ++ [a] ++ [b])[st.length + 1]? = some b := by
 have := get_len (st ++ [a]) b
 rwa [len_app] at this
theorem get_l1 (st:St) (a b:PI.Obj):(st ++ [a] ++ [b])[st.length]? = some a := by
 rw [get_app (by rw [len_app]; omega),get_len]
theorem set_l2 (st:St) (a b b':PI.Obj):(st ++ [a] ++ [b]).set (st.length + 1) b' = st ++ [a] ++ [b'] := by
 have := set_len (st ++ [a]) b b'
 rwa [len_app] at this
structure eOK (v:Int × List Int) (b:Int) (s:Sta) (x:Ins):Prop where
 v:vOK v
 b0:0 ≤ b
 b1:b ≤ 64
 l:s.stack.length ≤ 64
 p0:0 ≤ s.pc
 p1:s.pc ≤ 100000
 f:formedB x = true
def exO (v:Int × List Int) (b:Int) (s:Sta) (x:Ins):Out := if (s.stack.length:Int) < needF x.op then .err 200 else outF v b s x
def exSt (st:St) (key:Nat) (s:Sta) (x:Ins):St := if (s.stack.length:Int) < needF x.op then st else st ++ [⟨false,1,insC x,false⟩] ++ [⟨false,2,exN key 7,false⟩]
def exeR (ds:List D) (st:St) (r:D × St):Prop := ∃ (key:Nat) (v:Int × List Int) (b:Int) (s:Sta) (x:Ins),eOK v b s x ∧ machAt st key v s.pc s.fuel s.status s.clause (intsO s.stack) b ∧ ds = [.ptr key 0,insD x] ∧ r = outR (exSt st key s x) key v b s x (exO v b s x)
noncomputable def si_exe:List D → St → Option (D × St) := relI exeR
theorem exe_fun:Fun1 exeR := by
 rintro ds st r r' ⟨key,v,b,s,x,hm,hk,rfl,rfl⟩ ⟨key',v',b',s',x',hm',hk',h,rfl⟩
 simp only [List.cons.injEq,D.ptr.injEq,and_true,insD_iff] at h
 obtain ⟨rfl,rfl⟩ := h
 obtain ⟨rfl,h1,h2,h3,h4,h5,rfl⟩ := machAt_fun hm.v hm'.v hk hk'
 have h6 := intsO_iff.1 h5
 obtain ⟨a1,a2,a3,a4,a5⟩ := s
 obtain ⟨b1,b2,b3,b4,b5⟩ := s'
 dsimp only at h1 h2 h3 h4 h6
 subst h1; subst h2; subst h3; subst h4; subst h6
 rfl
theorem call_exe {st:St} {key:Nat} {v:Int × List Int} {b:Int} {s:Sta} {x:Ins} (hm:eOK v b s x) (hk:machAt st key v s.pc s.fuel s.status s.clause (intsO s.stack) b):si_exe [.ptr key 0,insD x] st = some (outR (exSt st key s x) key v b s x (exO v b s x)) :=
 relI_of exe_fun ⟨key,v,b,s,x,hm,hk,rfl,rfl⟩
theorem mkmap2:mkmapD 2 = some ⟨false,2,[],false⟩ := (rfl)
set_option maxHeartbeats 8000000 in
set_option maxRecDepth 20000 in
theorem ci_exe:IContract Tryd.prog GG 75 si_exe := by
 refine icontract_keep' (T := tb [(62,sp_needs)] [(80,si_mth (· = 1)),(81,si_mth (· = 2)),(82,si_mth (· = 12)),(83,si_mth (· = 13)),(84,si_mth (· = 14)),(85,si_mth (· = 15)),(86,si_mth (· = 16)),(87,si_mth (fun o => 3 ≤ o ∧ o ≤ 11))])
  tr_tvm_machine_execute (tb_ok (all_cons c_needs all_nil) (all_cons ci_push (all_cons ci_load (all_cons ci_inRange (all_cons ci_zero (all_cons ci_jump (all_cons ci_pay (all_cons ci_none (all_cons ci_combine all_nil))))))))) ?_
 intro ds st r hr
 obtain ⟨key,v,b,s,x,⟨hv,hb0,hb1,hl,hp0,hp1,hf⟩,hk,rfl,rfl⟩ := relI_inv hr
 have hlt := machAt_lt hk
 have hk' := hk
 unfold machAt at hk'
 have hnd := call_needs x.op
 have hop := formed_op hf
 unfold F_tvm_machine_execute
 by_cases h1:(s.stack.length:Int) < needF x.op
 ·rw [show exO v b s x = .err 200 from if_pos h1,show exSt st key s x = st from if_pos h1]
  simp (disch:=first|omega|decide) only [push_cast,↓reduceIte,Nat.reduceEqDiff,Nat.reduceAdd,box_ins,nilc_ptr,get_app hlt,hk',ldm_21 hv,len_ints,get_len,ld_ins0,hnd,h1,outR]
 ·rw [show exO v b s x = outF v b s x from if_neg h1,show exSt st key s x = _ from if_neg h1]
  have hm:mOK v b s x := ⟨hv,hb0,hb1,hl,hp0,hp1,hf,by omega⟩
  have hk2:machAt (st ++ [⟨false,1,insC x,false⟩] ++ [⟨false,2,exN key 7,false⟩]) key v s.pc s.fuel s.status s.clause (intsO s.stack) b := machAt_app (machAt_app hk _) _
  have fin:∀ (P:Int → Prop),P x.op → ∃ d st',si_mth P [.ptr key 0,insD x] (st ++ [⟨false,1,insC x,false⟩] ++ [⟨false,2,exN key 7,false⟩]) = some (d,st') ∧ outR (st ++ [⟨false,1,insC x,false⟩] ++ [⟨false,2,exN key 7,false⟩]) key v b s x (outF v b s x) = (d,st') :=
   fun P hP => ⟨_,_,call_mth hm hP hk2,rfl⟩
  have cases8:x.op = 1 ∨ x.op = 2 ∨ x.op = 12 ∨ x.op = 13 ∨ x.op = 14 ∨ x.op = 15 ∨ x.op = 16 ∨ (3 ≤ x.op ∧ x.op ≤ 11) := by omega
  rcases cases8 with e | e | e | e | e | e | e | e
  ·obtain ⟨d,st',h2,h3⟩ := fin (· = 1) e
   have hg := mg_hit key x.op _ (show gfind x.op exA = some 5000080 by rw [e]; rfl)
   rw [h3]
   simp (disch:=first|omega|decide) only [push_cast,↓reduceIte,Nat.reduceEqDiff,Nat.reduceAdd,box_ins,nilc_ptr,get_app hlt,hk',ldm_21 hv,len_ints,get_len,ld_ins0,hnd,h1,len_app,pmapup_v,pmapget_v,get_l2,set_l2,get_l1,mkmap2,mu_0,mu_1,mu_2,mu_3,mu_4,mu_5,mu_6,hg,ld_ins,cloD_bound _ 5000080 80 _ rfl (by decide),h2]
  ·obtain ⟨d,st',h2,h3⟩ := fin (· = 2) e
   have hg := mg_hit key x.op _ (show gfind x.op exA = some 5000081 by rw [e]; rfl)
   rw [h3]
   simp (disch:=first|omega|decide) only [push_cast,↓reduceIte,Nat.reduceEqDiff,Nat.reduceAdd,box_ins,nilc_ptr,get_app hlt,hk',ldm_21 hv,len_ints,get_len,ld_ins0,hnd,h1,len_app,pmapup_v,pmapget_v,get_l2,set_l2,get_l1,mkmap2,mu_0,mu_1,mu_2,mu_3,mu_4,mu_5,mu_6,hg,ld_ins,cloD_bound _ 5000081 81 _ rfl (by decide),h2]
  ·obtain ⟨d,st',h2,h3⟩ := fin (· = 12) e
   have hg := mg_hit key x.op _ (show gfind x.op exA = some 5000082 by rw [e]; rfl)
   rw [h3]
   simp (disch:=first|omega|decide) only [push_cast,↓reduceIte,Nat.reduceEqDiff,Nat.reduceAdd,box_ins,nilc_ptr,get_app hlt,hk',ldm_21 hv,len_ints,get_len,ld_ins0,hnd,h1,len_app,pmapup_v,pmapget_v,get_l2,set_l2,get_l1,mkmap2,mu_0,mu_1,mu_2,mu_3,mu_4,mu_5,mu_6,hg,ld_ins,cloD_bound _ 5000082 82 _ rfl (by decide),h2]
  ·obtain ⟨d,st',h2,h3⟩ := fin (· = 13) e
   have hg := mg_hit key x.op _ (show gfind x.op exA = some 5000083 by rw [e]; rfl)
   rw [h3]
   simp (disch:=first|omega|decide) only [push_cast,↓reduceIte,Nat.reduceEqDiff,Nat.reduceAdd,box_ins,nilc_ptr,get_app hlt,hk',ldm_21 hv,len_ints,get_len,ld_ins0,hnd,h1,len_app,pmapup_v,pmapget_v,get_l2,set_l2,get_l1,mkmap2,mu_0,mu_1,mu_2,mu_3,mu_4,mu_5,mu_6,hg,ld_ins,cloD_bound _ 5000083 83 _ rfl (by decide),h2]
  ·obtain ⟨d,st',h2,h3⟩ := fin (· = 14) e
   have hg := mg_hit key x.op _ (show gfind x.op exA = some 5000084 by rw [e]; rfl)
   rw [h3]
   simp (disch:=first|omega|decide) only [push_cast,↓reduceIte,Nat.reduceEqDiff,Nat.reduceAdd,box_ins,nilc_ptr,get_app hlt,hk',ldm_21 hv,len_ints,get_len,ld_ins0,hnd,h1,len_app,pmapup_v,pmapget_v,get_l2,set_l2,get_l1,mkmap2,mu_0,mu_1,mu_2,mu_3,mu_4,mu_5,mu_6,hg,ld_ins,cloD_bound _ 5000084 84 _ rfl (by decide),h2]
  ·obtain ⟨d,st',h2,h3⟩ := fin (· = 15) e
   have hg := mg_hit key x.op _ (show gfind x.op exA = some 5000085 by rw [e]; rfl)
   rw [h3]
   simp (disch:=first|omega|decide) only [push_cast,↓reduceIte,Nat.reduceEqDiff,Nat.reduceAdd,box_ins,nilc_ptr,get_app hlt,hk',ldm_21 hv,len_ints,get_len,ld_ins0,hnd,h1,len_app,pmapup_v,pmapget_v,get_l2,set_l2,get_l1,mkmap2,mu_0,mu_1,mu_2,mu_3,mu_4,mu_5,mu_6,hg,ld_ins,cloD_bound _ 5000085 85 _ rfl (by decide),h2]
  ·obtain ⟨d,st',h2,h3⟩ := fin (· = 16) e
   have hg := mg_hit key x.op _ (show gfind x.op exA = some 5000086 by rw [e]; rfl)
   rw [h3]
   simp (disch:=first|omega|decide) only [push_cast,↓reduceIte,Nat.reduceEqDiff,Nat.reduceAdd,box_ins,nilc_ptr,get_app hlt,hk',ldm_21 hv,len_ints,get_len,ld_ins0,hnd,h1,len_app,pmapup_v,pmapget_v,get_l2,set_l2,get_l1,mkmap2,mu_0,mu_1,mu_2,mu_3,mu_4,mu_5,mu_6,hg,ld_ins,cloD_bound _ 5000086 86 _ rfl (by decide),h2]
  ·obtain ⟨d,st',h2,h3⟩ := fin (fun o => 3 ≤ o ∧ o ≤ 11) e
   have hg := mg_miss key x.op e
   rw [h3]
   simp (disch:=first|omega|decide) only [push_cast,↓reduceIte,Nat.reduceEqDiff,Nat.reduceAdd,box_ins,nilc_ptr,get_app hlt,hk',ldm_21 hv,len_ints,get_len,ld_ins0,hnd,h1,len_app,pmapup_v,pmapget_v,get_l2,set_l2,get_l1,mkmap2,mu_0,mu_1,mu_2,mu_3,mu_4,mu_5,mu_6,hg,ld_ins,h2]
end Go.Proofs.YtlleccmnjpcogaaDoor.PI
namespace Go.Proofs.YtlleccmnjpcogaaDoor.PI
open Go
set_option linter.unusedSimpArgs false
set_option linter.unusedVariables false
def outS (s:Sta):Out → Sta
 | .err e => { s with status := 10 + e }
 | .pop k push pc => { s with pc := pc.getD (s.pc + 1),stack := s.stack.take (s.stack.length - k) ++ push.toList }
 | .set p t c => { s with pc := p,status := t,clause := c }
def decS (s:Sta):Sta := { s with fuel := s.fuel - 1 }
def advF (v:Int × List Int) (b:Int) (s:Sta) (x:Ins):Sta := if s.fuel = 0 then { s with status := 220 } else outS (decS s) (exO v b (decS s) x)
structure aOK (c:List Ins) (v:Int × List Int) (s:Sta) (b:Int):Prop where
 v:vOK v
 b0:0 ≤ b
 b1:b ≤ 64
 l:s.stack.length ≤ 64
 p0:0 ≤ s.pc
 p1:s.pc < c.length
 cl:c.length ≤ 4096
 f:c.all formedB = true
 u0:0 ≤ s.fuel
 u1:s.fuel ≤ 32768
theorem binF_err (op a b:Int):0 ≤ (binF op a b).2 ∧ (binF op a b).2 ≤ 100 := by
 have hr:∀ c,0 ≤ (rgF c).2 ∧ (rgF c).2 ≤ 100 := fun c => by unfold rgF; split <;> exact ⟨by simp,by simp⟩
 have hd:∀ a b m,0 ≤ (divF a b m).2 ∧ (divF a b m).2 ≤ 100 := fun a b m => by
  unfold divF
  split
  ·split <;> exact ⟨by simp,by simp⟩
  ·exact ⟨by simp,by simp⟩
 have ha:0 ≤ (addF a b).2 ∧ (addF a b).2 ≤ 100 := by unfold addF; split <;> first | exact hr _ | exact ⟨by simp,by simp⟩
 have hs:0 ≤ (subF a b).2 ∧ (subF a b).2 ≤ 100 := by unfold subF; split <;> first | exact hr _ | exact ⟨by simp,by simp⟩
 have hm:0 ≤ (mulF a b).2 ∧ (mulF a b).2 ≤ 100 := by unfold mulF; split <;> first | exact hr _ | exact ⟨by simp,by simp⟩
 have hz:∀ n:Int,0 ≤ ((n,0):Int × Int).2 ∧ ((n,0):Int × Int).2 ≤ 100 := fun n => ⟨by simp,by simp⟩
 unfold binF
 split; · exact ha
 split; · exact hs
 split; · exact hm
 split; · exact hz _
 split; · exact hz _
 split; · exact hd _ _ _
 split; · exact hd _ _ _
 split; · exact hd _ _ _
 split; · exact hz _
 exact hz _
theorem exO_err {v:Int × List Int} {b:Int} {s:Sta} {x:Ins} {e:Int} (h:exO v b s x = .err e):1 ≤ e ∧ e ≤ 1000 := by
 have h2 := binF_err x.op (topS s 1) (topS s 0)
 unfold exO outF at h
 repeat' split at h
 all_goals first | (cases h; done) | (simp only [Out.err.injEq] at h; omega)
theorem exO_pop {v:Int × List Int} {b:Int} {s:Sta} {x:Ins} {k:Nat} {push pc:Option Int} (h:exO v b s x = .pop k push pc):¬ (s.stack.length:Int) < needF x.op := by
 intro h1
 unfold exO at h
 rw [if_pos h1] at h
 cases h
theorem exO_set {v:Int × List Int} {b:Int} {s:Sta} {x:Ins} {p t c:Int} (h:exO v b s x = .set p t c):¬ (s.stack.length:Int) < needF x.op := by
 intro h1
 unfold exO at h
 rw [if_pos h1] at h
 cases h
theorem fill_mach (v:Int × List Int) (hv:vOK v) (s:Sta) (b:Int):fillD [.int .i64 0,.int .i64 0,.int .i64 0,.int .i64 0,.int .i64 0,.int .i64 0,.int .i64 0,.int .i64 0,.int .i64 0,.int .i64 0,.int .i64 0,.int .i64 0,.int .i64 0,.int .i64 0,.int .i64 0,.int .i64 0,.int .i64 0,.int .i64 0,.int .i64 0,.int .i64 0,.int .i64 0,.slc 0 [] true,.int .i64 0]
  [(0,17,evD v),(17,5,staD s),(22,1,.int .i64 b)] = some (machC v s.pc s.fuel s.status s.clause (intsO s.stack) b) := by
 refine (fill_mid (cs' := evC v ++ ([.int .i64 0,.int .i64 0,.int .i64 0,.int .i64 0,.slc 0 [] true] ++ [.int .i64 0])) (A := []) (B := List.replicate 17 (.int .i64 0)) (C := [.int .i64 0,.int .i64 0,.int .i64 0,.int .i64 0,.slc 0 [] true,.int .i64 0]) (xs := evC v) rfl rfl rfl rfl rfl (evC_length hv) (ints_cell (v.1 :: v.2))).trans ?_
 refine (fill_mid (cs' := evC v ++ (staC s ++ [.int .i64 0])) (A := evC v) (B := [.int .i64 0,.int .i64 0,.int .i64 0,.int .i64 0,.slc 0 [] true]) (C := [.int .i64 0]) (xs := staC s) rfl rfl (evC_length hv) rfl rfl rfl (sta_cell s)).trans ?_
 refine (fill_mid (cs' := machC v s.pc s.fuel s.status s.clause (intsO s.stack) b) (A := evC v ++ staC s) (B := [.int .i64 0]) (C := []) (xs := [.int .i64 b]) (by simp) (by simp [machC,staC]) (by simp [evC_length hv,staC]) rfl rfl rfl rfl).trans ?_
 rfl
theorem box_mach (v:Int × List Int) (p f t c:Int) (sz:Nat) (els:List D) (tt:Bool) (b:Int):boxD (.agg (machC v p f t c (.slc sz els tt) b)) = some (machC v p f t c (.slc sz els tt) b) := by
 have h:(machC v p f t c (.slc sz els tt) b).all D.isCell = true := by
  rw [machC,List.all_append,evC_ints,ints_cell]
  rfl
 rw [show boxD (.agg (machC v p f t c (.slc sz els tt) b)) = if (machC v p f t c (.slc sz els tt) b).all D.isCell then some (machC v p f t c (.slc sz els tt) b) else none from rfl,if_pos h]
theorem box_machI (v:Int × List Int) (p f t c:Int) (l:List Int) (b:Int):boxD (.agg (machC v p f t c (intsO l) b)) = some (machC v p f t c (intsO l) b) := box_mach v p f t c _ _ _ b
theorem ints_isCell (l:List Int):(intsO l).isCell = true := (rfl)
theorem imm1_ints (st:St) (l:List Int):imm1 st (intsO l) = some (intsO l) := by simp only [intsO,imm1_slc,nz_nz]
theorem imm1_8 (o0 o1 o2 o3 o4 o5 o6:PI.Obj) (A:List Int) (m:Nat) (h:A.length = m):imm1 [o0,o1,o2,o3,o4,o5,o6,⟨true,1,A.map nI,false⟩] (.row 7 m 0 m) = some (intsO A) := by
 have h1:rowEls [o0,o1,o2,o3,o4,o5,o6,⟨true,1,A.map nI,false⟩] 7 m 0 m = some (1,A.map nI) := by
  simp only [rowEls,List.getElem?_cons_succ,List.getElem?_cons_zero]
  rw [if_pos (by simp [h]),List.drop_zero,List.take_of_length_le (by simp [h])]
 simp only [imm1,h1,Option.map_some]
 rfl
theorem st_s1 (s:Sta) (n:Int):stO (some ⟨false,1,staC s,false⟩) 1 1 (.int .i64 n) = some ⟨false,1,staC { s with fuel := n },false⟩ := (rfl)
theorem st_s2 (s:Sta) (n:Int):stO (some ⟨false,1,staC s,false⟩) 1 2 (.int .i64 n) = some ⟨false,1,staC { s with status := n },false⟩ := (rfl)
theorem st_5 (a b c d S:D):stO (some ⟨false,1,[.int .i64 0,.int .i64 0,.int .i64 0,.int .i64 0,.slc 0 [] true],false⟩) 5 0 (.agg [a,b,c,d,S]) = if [a,b,c,d,S].all D.isCell then some ⟨false,1,[a,b,c,d,S],false⟩ else none := by
 simp only [stO]; rfl
theorem ld_5 (lent:Bool) (a b c d S:D):ldO (some ⟨false,1,[a,b,c,d,S],lent⟩) 5 true 0 = some (.agg [a,b,c,d,S]) := (rfl)
noncomputable def sp_adv:List D → Option D := spOf (α := List Ins × (Int × List Int) × Sta × Int) (fun a => [.slc (nz 3 (a.1.map insD)) (a.1.map insD) false,evD a.2.1,staD a.2.2.1,.int .i64 a.2.2.2]) (fun a => aOK a.1 a.2.1 a.2.2.1 a.2.2.2) (fun a => staD (advF a.2.1 a.2.2.2 a.2.2.1 (a.1.getD a.2.2.1.pc.toNat default)))
theorem call_adv (c:List Ins) (v:Int × List Int) (s:Sta) (b:Int) (h:aOK c v s b):sp_adv [.slc (nz 3 (c.map insD)) (c.map insD) false,evD v,staD s,.int .i64 b] = some (staD (advF v b s (c.getD s.pc.toNat default))) :=
 spOf_enc (fun ⟨a0,a1,a2,a3⟩ ⟨b0,b1,b2,b3⟩ h => by simp only [List.cons.injEq,D.slc.injEq,D.int.injEq,true_and,and_true,code_iff,staD_iff,evD_iff] at h; simp [h]) (c,v,s,b) h
set_option maxHeartbeats 4000000 in
set_option maxRecDepth 20000 in
theorem w_adv (c:List Ins) (v:Int × List Int) (s:Sta) (b:Int) (h:aOK c v s b):@wW GG (tb [] [(75,si_exe)]) F_tvm_advance.code (argF [.slc (nz 3 (c.map insD)) (c.map insD) false,evD v,staD s,.int .i64 b]) [] ⟨retQ F_tvm_advance.res (staD (advF v b s (c.getD s.pc.toNat default)))⟩ := by
 obtain ⟨hv,hb0,hb1,hl,hp0,hp1,hc,hf,hu0,hu1⟩ := h
 have hpl:s.pc.toNat < c.length := by omega
 unfold F_tvm_advance
 by_cases h1:s.fuel = 0
 ·rw [show advF v b s (c.getD s.pc.toNat default) = { s with status := 220 } from if_pos h1]
  simp (disch:=first|omega|decide) only [push_cast,↓reduceIte,Nat.reduceEqDiff,Nat.reduceAdd,box_ev,box_sta,box_sta0,ld_sta1,h1,st_s2,ld_sta,st_sta0,imm_sta]
 ·rw [show advF v b s (c.getD s.pc.toNat default) = outS (decS s) (exO v b (decS s) (c.getD s.pc.toNat default)) from if_neg h1]
  have hx := fun st => idx_ins st c false s.pc.toNat hpl
  rw [show ((s.pc.toNat:Nat):Int) = s.pc by omega] at hx
  have hxf:formedB (c.getD s.pc.toNat default) = true := by
   rw [List.getD_eq_getElem?_getD,List.getElem?_eq_getElem hpl]
   exact List.all_eq_true.1 hf _ (List.getElem_mem hpl)
  obtain ⟨x,hxe⟩:∃ x,c.getD s.pc.toNat default = x := ⟨_,rfl⟩
  rw [hxe] at hx hxf ⊢
  have hx:∀ st:St,pidxS st 3 (.slc (nz 3 (c.map insD)) (c.map insD) false) (.int .i64 (decS s).pc) = some (.eptr (insD x) 0) := hx
  have he:eOK v b (decS s) x := ⟨hv,hb0,hb1,hl,hp0,by show s.pc ≤ 100000; omega,hxf⟩
  have hcx := call_exe (st := [⟨false,1,evC v,false⟩,⟨false,1,staC (decS s),false⟩,⟨false,1,[.int .i64 0,.int .i64 0,.int .i64 0,.int .i64 0,.slc 0 [] true],false⟩,⟨false,1,machC v (decS s).pc (decS s).fuel (decS s).status (decS s).clause (intsO (decS s).stack) b,false⟩]) (key := 3) he rfl
  have hfm := fill_mach v hv (decS s) b
  have hds:(⟨s.pc,s.fuel - 1,s.status,s.clause,s.stack⟩:Sta) = decS s := rfl
  cases ho:exO v b (decS s) x with
  | err e =>
   have hee := exO_err ho
   rw [ho] at hcx
   have hst:∃ l,exSt [⟨false,1,evC v,false⟩,⟨false,1,staC (decS s),false⟩,⟨false,1,[.int .i64 0,.int .i64 0,.int .i64 0,.int .i64 0,.slc 0 [] true],false⟩,⟨false,1,machC v (decS s).pc (decS s).fuel (decS s).status (decS s).clause (intsO (decS s).stack) b,false⟩] 3 (decS s) x = ⟨false,1,evC v,false⟩ :: ⟨false,1,staC (decS s),false⟩ :: ⟨false,1,[.int .i64 0,.int .i64 0,.int .i64 0,.int .i64 0,.slc 0 [] true],false⟩ :: l := by
    unfold exSt; split <;> exact ⟨_,rfl⟩
   obtain ⟨l,hst⟩ := hst
   rw [hst] at hcx
   simp only [outR,List.cons_append] at hcx
   have hne:¬ e = 0 := by omega
   simp (disch:=first|omega|decide) only [push_cast,↓reduceIte,Nat.reduceEqDiff,Nat.reduceAdd,box_ev,box_sta,box_sta0,ld_sta1,h1,sub_i,st_s1,hds,ld_ev hv,ld_sta,hfm,box_machI,ld_sta0,hx,pld_ins,hcx,hne,add_i,st_s2,st_sta0,imm_sta,outS]
  | pop k push pc =>
   rw [ho] at hcx
   have hst := exO_pop ho
   rw [show exSt [⟨false,1,evC v,false⟩,⟨false,1,staC (decS s),false⟩,⟨false,1,[.int .i64 0,.int .i64 0,.int .i64 0,.int .i64 0,.slc 0 [] true],false⟩,⟨false,1,machC v (decS s).pc (decS s).fuel (decS s).status (decS s).clause (intsO (decS s).stack) b,false⟩] 3 (decS s) x = _ from if_neg hst] at hcx
   simp only [outR] at hcx
   cases push with
   | none =>
    simp only [stkD,stkO,mset,List.cons_append,List.nil_append,List.append_nil,List.set_cons_succ,List.set_cons_zero] at hcx
    simp (disch:=first|omega|decide) only [push_cast,↓reduceIte,Nat.reduceEqDiff,Nat.reduceAdd,box_ev,box_sta,box_sta0,ld_sta1,h1,sub_i,st_s1,hds,ld_ev hv,ld_sta,hfm,box_machI,ld_sta0,hx,pld_ins,hcx,nilc_ptr,ldm_s hv,st_5,ld_5,outS]
    simp only [Option.toList_none,List.append_nil]
    rfl
   | some a =>
    have hi := fun o0 o1 o2 o3 o4 o5 o6 => imm1_8 o0 o1 o2 o3 o4 o5 o6 ((decS s).stack.take ((decS s).stack.length - k) ++ [a]) ((decS s).stack.length - k + 1) (by rw [List.length_append,List.length_take]; simp)
    simp only [stkD,stkO,mset,List.cons_append,List.nil_append,List.set_cons_succ,List.set_cons_zero,List.length_cons,List.length_nil] at hcx
    simp (disch:=first|omega|decide) only [push_cast,↓reduceIte,Nat.reduceEqDiff,Nat.reduceAdd,box_ev,box_sta,box_sta0,ld_sta1,h1,sub_i,st_s1,hds,ld_ev hv,ld_sta,hfm,box_machI,ld_sta0,hx,pld_ins,hcx,nilc_ptr,ldm_s hv,st_5,ld_5,outS,hi]
    rfl
  | set p t cl =>
   rw [ho] at hcx
   have hst := exO_set ho
   rw [show exSt [⟨false,1,evC v,false⟩,⟨false,1,staC (decS s),false⟩,⟨false,1,[.int .i64 0,.int .i64 0,.int .i64 0,.int .i64 0,.slc 0 [] true],false⟩,⟨false,1,machC v (decS s).pc (decS s).fuel (decS s).status (decS s).clause (intsO (decS s).stack) b,false⟩] 3 (decS s) x = _ from if_neg hst] at hcx
   simp only [outR,mset,List.cons_append,List.nil_append,List.set_cons_succ,List.set_cons_zero] at hcx
   simp (disch:=first|omega|decide) only [push_cast,↓reduceIte,Nat.reduceEqDiff,Nat.reduceAdd,box_ev,box_sta,box_sta0,ld_sta1,h1,sub_i,st_s1,hds,ld_ev hv,ld_sta,hfm,box_machI,ld_sta0,hx,pld_ins,hcx,nilc_ptr,ldm_s hv,st_5,ld_5,ints_isCell,imm1_ints,outS]
   rfl
theorem c_adv:Contract Tryd.prog GG 63 sp_adv :=
 contract_of (T := tb [] [(75,si_exe)]) tr_tvm_advance (tb_ok all_nil (all_cons ci_exe all_nil)) (fun a h => w_adv a.1 a.2.1 a.2.2.1 a.2.2.2 h)
end Go.Proofs.YtlleccmnjpcogaaDoor.PI
namespace Go.Proofs.YtlleccmnjpcogaaDoor.PI
open Go
set_option linter.unusedSimpArgs false
set_option maxHeartbeats 8000000
set_option maxRecDepth 20000
set_option linter.unusedVariables false
def badS (c:List Ins) (s:Sta) (b:Int):Prop := s.pc < 0 ∨ (c.length:Int) ≤ s.pc ∨ s.fuel < 0 ∨ 32768 < s.fuel ∨ s.clause ≠ 0 ∨ b < 0 ∨ 64 < b ∨ 64 - b < (s.stack.length:Int)
instance (c:List Ins) (s:Sta) (b:Int):Decidable (badS c s b) := by unfold badS; infer_instance
def readyF (c:List Ins) (s:Sta) (b:Int):Int := if s.status ≠ 0 then 211 else if (verifyF c).2 ≠ 0 then (verifyF c).2 else if badS c s b then 1 else 0
noncomputable def sp_ready:List D → Option D := spOf (α := List Ins × Sta × Int) (fun a => [.slc (nz 3 (a.1.map insD)) (a.1.map insD) false,staD a.2.1,.int .i64 a.2.2]) (fun a => a.1.length ≤ 4294967296) (fun a => .int .i64 (readyF a.1 a.2.1 a.2.2))
theorem call_ready (c:List Ins) (s:Sta) (b:Int) (h:c.length ≤ 4294967296):sp_ready [.slc (nz 3 (c.map insD)) (c.map insD) false,staD s,.int .i64 b] = some (.int .i64 (readyF c s b)) :=
 spOf_enc (fun ⟨a0,a1,a2⟩ ⟨b0,b1,b2⟩ h => by simp only [List.cons.injEq,D.slc.injEq,D.int.injEq,true_and,and_true,code_iff,staD_iff] at h; simp [h]) (c,s,b) h
theorem w_ready (c:List Ins) (s:Sta) (b:Int) (h:c.length ≤ 4294967296):@wW GG (tb [(24,sp_tVer)] []) F_tvm_ready.code (argF [.slc (nz 3 (c.map insD)) (c.map insD) false,staD s,.int .i64 b]) [] ⟨retQ F_tvm_ready.res (.int .i64 (readyF c s b))⟩ := by
 have hv := call_tVer c (by omega)
 unfold F_tvm_ready
 by_cases h1:s.status = 0
 ·by_cases h2:(verifyF c).2 = 0
  ·have e:readyF c s b = if badS c s b then 1 else 0 := by unfold readyF; rw [if_neg (by simp [h1]),if_neg (by simp [h2])]
   rw [e]
   by_cases q1:s.pc < 0
   ·rw [if_pos (.inl q1)]
    simp (disch:=first|omega|decide) only [push_cast,↓reduceIte,Nat.reduceEqDiff,box_sta,ld_sta0,ld_sta2,h1,hv,h2,q1]
   by_cases q2:(c.length:Int) ≤ s.pc
   ·rw [if_pos (.inr (.inl q2))]
    simp (disch:=first|omega|decide) only [push_cast,↓reduceIte,Nat.reduceEqDiff,box_sta,ld_sta0,ld_sta2,h1,hv,h2,q1,q2]
   by_cases q3:s.fuel < 0
   ·rw [if_pos (.inr (.inr (.inl q3)))]
    simp (disch:=first|omega|decide) only [push_cast,↓reduceIte,Nat.reduceEqDiff,box_sta,ld_sta0,ld_sta1,ld_sta2,h1,hv,h2,q1,q2,q3]
   by_cases q4:32768 < s.fuel
   ·rw [if_pos (.inr (.inr (.inr (.inl q4))))]
    simp (disch:=first|omega|decide) only [push_cast,↓reduceIte,Nat.reduceEqDiff,box_sta,ld_sta0,ld_sta1,ld_sta2,h1,hv,h2,q1,q2,q3,q4]
   by_cases q5:s.clause = 0
   ·by_cases q6:b < 0
    ·rw [if_pos (.inr (.inr (.inr (.inr (.inr (.inl q6))))))]
     simp (disch:=first|omega|decide) only [push_cast,↓reduceIte,Nat.reduceEqDiff,box_sta,ld_sta0,ld_sta1,ld_sta2,ld_sta3,h1,hv,h2,q1,q2,q3,q4,q5,q6]
    by_cases q7:64 < b
    ·rw [if_pos (.inr (.inr (.inr (.inr (.inr (.inr (.inl q7)))))))]
     simp (disch:=first|omega|decide) only [push_cast,↓reduceIte,Nat.reduceEqDiff,box_sta,ld_sta0,ld_sta1,ld_sta2,ld_sta3,h1,hv,h2,q1,q2,q3,q4,q5,q6,q7]
    by_cases q8:64 - b < (s.stack.length:Int)
    ·rw [if_pos (.inr (.inr (.inr (.inr (.inr (.inr (.inr q8)))))))]
     simp (disch:=first|omega|decide) only [push_cast,↓reduceIte,Nat.reduceEqDiff,box_sta,ld_sta0,ld_sta1,ld_sta2,ld_sta3,ld_sta4,len_ints,sub_i,h1,hv,h2,q1,q2,q3,q4,q5,q6,q7,q8]
    ·rw [if_neg (by unfold badS; omega)]
     simp (disch:=first|omega|decide) only [push_cast,↓reduceIte,Nat.reduceEqDiff,box_sta,ld_sta0,ld_sta1,ld_sta2,ld_sta3,ld_sta4,len_ints,sub_i,h1,hv,h2,q1,q2,q3,q4,q5,q6,q7,q8]
   ·rw [if_pos (.inr (.inr (.inr (.inr (.inl q5)))))]
    simp (disch:=first|omega|decide) only [push_cast,↓reduceIte,Nat.reduceEqDiff,box_sta,ld_sta0,ld_sta1,ld_sta2,ld_sta3,h1,hv,h2,q1,q2,q3,q4,q5]
  ·rw [show readyF c s b = (verifyF c).2 by unfold readyF; rw [if_neg (by simp [h1]),if_pos h2]]
   simp (disch:=first|omega|decide) only [push_cast,↓reduceIte,Nat.reduceEqDiff,box_sta,ld_sta2,h1,hv,h2]
 ·rw [show readyF c s b = 211 from if_pos h1]
  simp (disch:=first|omega|decide) only [push_cast,↓reduceIte,Nat.reduceEqDiff,box_sta,ld_sta2,h1]
theorem c_ready:Contract Tryd.prog GG 61 sp_ready :=
 contract_of tr_tvm_ready (tb_ok (all_cons c_tVer all_nil) all_nil) (fun a h => w_ready a.1 a.2.1 a.2.2 h)
theorem verify_ok {c:List Ins} (h:(verifyF c).2 = 0):c.length ≤ 4096 ∧ 0 < c.length ∧ c.all formedB = true ∧ ∃ s,verL c.length c 0 (dep0 c.length) 0 = some s ∧ s ≤ 64 := by
 unfold verifyF at h
 split at h
 ·simp at h
 split at h
 ·simp at h
 rename_i h1 h2
 have h3:¬ c.length = 0 := fun e => h2 (.inl e)
 have h4:c.all formedB = true := by
  cases hb:c.all formedB with
  | true => rfl
  | false => exact absurd (.inr hb) h2
 cases hv:verL c.length c 0 (dep0 c.length) 0 with
 | none => rw [hv] at h; simp [verEnd] at h
 | some s =>
  rw [hv] at h
  simp only [verEnd] at h
  split at h
  ·simp at h
  ·exact ⟨by omega,by omega,h4,s,rfl,by omega⟩
theorem ready_ok {c:List Ins} {v:Int × List Int} {s:Sta} {b:Int} (hv:vOK v) (h:readyF c s b = 0):aOK c v s b ∧ s.status = 0 ∧ s.clause = 0 ∧ (verifyF c).2 = 0 := by
 unfold readyF at h
 split at h
 ·simp at h
 split at h
 ·rename_i h2; exact absurd h h2
 split at h
 ·simp at h
 rename_i h1 h2 h3
 have h1':s.status = 0 := by omega
 have h2':(verifyF c).2 = 0 := by omega
 obtain ⟨a1,a2,a3,_⟩ := verify_ok h2'
 unfold badS at h3
 exact ⟨⟨hv,by omega,by omega,by omega,by omega,by omega,by omega,a3,by omega,by omega⟩,h1',by omega,h2'⟩
def zSta:Sta := ⟨0,0,0,0,[]⟩
def startF (f:Int):Sta := if f < 0 ∨ 32768 < f then zSta else { zSta with fuel := f }
def startE (f:Int):Int := if f < 0 ∨ 32768 < f then 1 else 0
theorem fill_s0:fillD [.int .i64 0,.int .i64 0,.int .i64 0,.int .i64 0,.slc 0 [] true] [] = some [.int .i64 0,.int .i64 0,.int .i64 0,.int .i64 0,.slc 0 [] true] := (rfl)
theorem fill_s1 (f:Int):fillD [.int .i64 0,.int .i64 0,.int .i64 0,.int .i64 0,.slc 0 [] true] [(1,1,.int .i64 f)] = some [.int .i64 0,.int .i64 f,.int .i64 0,.int .i64 0,.slc 0 [] true] := (rfl)
noncomputable def sp_start:List D → Option D := spOf (α := Int) (fun a => [.int .i64 a]) (fun a => True) (fun a => .tup [staD (startF a),.int .i64 (startE a)])
theorem call_start (f:Int):sp_start [.int .i64 f] = some (.tup [staD (startF f),.int .i64 (startE f)]) :=
 spOf_enc (fun a b h => by simp only [List.cons.injEq,D.int.injEq,true_and,and_true] at h; simp [h]) (f) trivial
theorem w_start (f:Int):@wW GG (tb [] []) F_tvm_Start.code (argF [.int .i64 f]) [] ⟨retQ F_tvm_Start.res (.tup [staD (startF f),.int .i64 (startE f)])⟩ := by
 unfold F_tvm_Start
 by_cases h1:f < 0
 ·rw [show startF f = zSta from if_pos (.inl h1),show startE f = 1 from if_pos (.inl h1)]
  simp (disch:=first|omega|decide) only [push_cast,↓reduceIte,Nat.reduceEqDiff,box_sta0,h1,fill_s0,st_5,ld_5]
  rfl
 ·by_cases h2:32768 < f
  ·rw [show startF f = zSta from if_pos (.inr h2),show startE f = 1 from if_pos (.inr h2)]
   simp (disch:=first|omega|decide) only [push_cast,↓reduceIte,Nat.reduceEqDiff,box_sta0,h1,h2,fill_s0,st_5,ld_5]
   rfl
  ·rw [show startF f = { zSta with fuel := f } from if_neg (by omega),show startE f = 0 from if_neg (by omega)]
   simp (disch:=first|omega|decide) only [push_cast,↓reduceIte,Nat.reduceEqDiff,box_sta0,h1,h2,fill_s1,st_5,ld_5]
   rfl
theorem c_start:Contract Tryd.prog GG 39 sp_start :=
 contract_of tr_tvm_Start (tb_ok all_nil all_nil) (fun a h => w_start a)
def insAt (c:List Ins) (s:Sta):Ins := c.getD s.pc.toNat default
def stepF (c:List Ins) (v:Int × List Int) (s:Sta):Sta := if readyF c s 0 = 0 then advF v 0 s (insAt c s) else zSta
noncomputable def sp_step:List D → Option D := spOf (α := List Ins × (Int × List Int) × Sta) (fun a => [.slc (nz 3 (a.1.map insD)) (a.1.map insD) false,evD a.2.1,staD a.2.2]) (fun a => a.1.length ≤ 4294967296 ∧ vOK a.2.1) (fun a => .tup [staD (stepF a.1 a.2.1 a.2.2),.int .i64 (readyF a.1 a.2.2 0)])
theorem call_step (c:List Ins) (v:Int × List Int) (s:Sta) (h:c.length ≤ 4294967296 ∧ vOK v):sp_step [.slc (nz 3 (c.map insD)) (c.map insD) false,evD v,staD s] = some (.tup [staD (stepF c v s),.int .i64 (readyF c s 0)]) :=
 spOf_enc (fun ⟨a0,a1,a2⟩ ⟨b0,b1,b2⟩ h => by simp only [List.cons.injEq,D.slc.injEq,and_true,code_iff,staD_iff,evD_iff] at h; simp [h]) (c,v,s) h
theorem w_step (c:List Ins) (v:Int × List Int) (s:Sta) (h:c.length ≤ 4294967296 ∧ vOK v):@wW GG (tb [(61,sp_ready),(63,sp_adv)] []) F_tvm_Step.code (argF [.slc (nz 3 (c.map insD)) (c.map insD) false,evD v,staD s]) [] ⟨retQ F_tvm_Step.res (.tup [staD (stepF c v s),.int .i64 (readyF c s 0)])⟩ := by
 obtain ⟨hc,hv⟩ := h
 have hr := call_ready c s 0 hc
 unfold F_tvm_Step
 by_cases h1:readyF c s 0 = 0
 ·have ha := call_adv c v s 0 (ready_ok hv h1).1
  rw [show stepF c v s = advF v 0 s (insAt c s) from if_pos h1]
  rw [h1] at hr ⊢
  simp (disch:=first|omega|decide) only [push_cast,↓reduceIte,Nat.reduceEqDiff,Nat.reduceAdd,box_ev,box_sta,box_sta0,ld_ev hv,imm_ev,keys_ev,ld_sta,imm_sta,keys_sta,hr,ha,st_sta0]
  rfl
 ·rw [show stepF c v s = zSta from if_neg h1]
  simp (disch:=first|omega|decide) only [push_cast,↓reduceIte,Nat.reduceEqDiff,Nat.reduceAdd,box_ev,box_sta,box_sta0,ld_sta,imm_sta,hr,h1,fill_s0,st_5,ld_5]
  rfl
theorem c_step:Contract Tryd.prog GG 52 sp_step :=
 contract_of tr_tvm_Step (tb_ok (all_cons c_ready (all_cons c_adv all_nil)) all_nil) (fun a h => w_step a.1 a.2.1 a.2.2 h)
def opS (o:Opn):Sta := ⟨o.pc,o.fuel,o.status,o.clause,o.top⟩
def zOpn:Opn := ⟨0,0,0,0,[],0,zeroDig⟩
def lackO (c:List Ins) (o:Opn):Prop := 0 < o.fuel ∧ 0 < o.depth ∧ (o.top.length:Int) < needF (insAt c (opS o)).op
instance (c:List Ins) (o:Opn):Decidable (lackO c o) := by unfold lackO; infer_instance
def sOpn (s:Sta) (o:Opn):Opn := ⟨s.pc,s.fuel,s.status,s.clause,s.stack,o.depth,o.rest⟩
def stepOE (c:List Ins) (o:Opn):Int := if readyF c (opS o) o.depth = 0 then (if lackO c o then 390 else 0) else readyF c (opS o) o.depth
def stepOF (c:List Ins) (v:Int × List Int) (o:Opn):Opn := if stepOE c o = 0 then sOpn (advF v o.depth (opS o) (insAt c (opS o))) o else zOpn
theorem fill_o0 (cs:List D):fillD cs [] = some cs := (rfl)
theorem fill_sO (o:Opn):fillD [.int .i64 0,.int .i64 0,.int .i64 0,.int .i64 0,.slc 0 [] true] [(0,1,.int .i64 o.pc),(1,1,.int .i64 o.fuel),(2,1,.int .i64 o.status),(3,1,.int .i64 o.clause),(4,1,intsO o.top)] = some (staC (opS o)) := (rfl)
theorem agg_sta (s:Sta):D.agg (staC s) = staD s := (rfl)
theorem fld_ins (x:Ins) (st:St):pfld st 0 (.eptr (insD x) 0) = some (.eptr (insD x) 0) := (rfl)
theorem pld_ins0 (st:St) (x:Ins):pload st 1 false (.eptr (insD x) 0) = some (.int .i64 x.op) := (rfl)
theorem fill_opI (s:Sta) (o:Opn):fillD (opC 0 0 0 0 (.slc 0 [] true) 0 zeroDig) [(0,1,.int .i64 s.pc),(1,1,.int .i64 s.fuel),(2,1,.int .i64 s.status),(3,1,.int .i64 s.clause),(4,1,intsO s.stack),(5,1,.int .i64 o.depth),(6,32,digD o.rest)] = some (opnC (sOpn s o)) := fill_opS ..
theorem st_opI (a b c d:Int) (t:D) (k:Int) (r:Dig) (o:Opn):stO (some ⟨false,1,opC a b c d t k r,false⟩) 38 0 (.agg (opnC o)) = some ⟨false,1,opnC o,false⟩ := st_opS ..
theorem ld_opI (lent:Bool) (o:Opn):ldO (some ⟨false,1,opnC o,lent⟩) 38 true 0 = some (opnD o) := ld_op ..
noncomputable def sp_stepO:List D → Option D := spOf (α := List Ins × (Int × List Int) × Opn) (fun a => [.slc (nz 3 (a.1.map insD)) (a.1.map insD) false,evD a.2.1,opnD a.2.2]) (fun a => a.1.length ≤ 4294967296 ∧ vOK a.2.1) (fun a => .tup [opnD (stepOF a.1 a.2.1 a.2.2),.int .i64 (stepOE a.1 a.2.2)])
theorem call_stepO (c:List Ins) (v:Int × List Int) (o:Opn) (h:c.length ≤ 4294967296 ∧ vOK v):sp_stepO [.slc (nz 3 (c.map insD)) (c.map insD) false,evD v,opnD o] = some (.tup [opnD (stepOF c v o),.int .i64 (stepOE c o)]) :=
 spOf_enc (fun ⟨a0,a1,a2⟩ ⟨b0,b1,b2⟩ h => by simp only [List.cons.injEq,D.slc.injEq,and_true,code_iff,opnD_iff,evD_iff] at h; simp [h]) (c,v,o) h
theorem w_stepO (c:List Ins) (v:Int × List Int) (o:Opn) (h:c.length ≤ 4294967296 ∧ vOK v):@wW GG (tb [(61,sp_ready),(62,sp_needs),(63,sp_adv)] []) F_tvm_StepOpen.code (argF [.slc (nz 3 (c.map insD)) (c.map insD) false,evD v,opnD o]) [] ⟨retQ F_tvm_StepOpen.res (.tup [opnD (stepOF c v o),.int .i64 (stepOE c o)])⟩ := by
 obtain ⟨hc,hv⟩ := h
 have hr := call_ready c (opS o) o.depth hc
 unfold F_tvm_StepOpen
 have l0 := ld_op0 false o.pc o.fuel o.status o.clause (intsO o.top) o.depth o.rest
 have l1 := ld_op1 false o.pc o.fuel o.status o.clause (intsO o.top) o.depth o.rest
 have l2 := ld_op2 false o.pc o.fuel o.status o.clause (intsO o.top) o.depth o.rest
 have l3 := ld_op3 false o.pc o.fuel o.status o.clause (intsO o.top) o.depth o.rest
 have l4 := ld_op4 false o.pc o.fuel o.status o.clause (intsO o.top) o.depth o.rest
 have l5 := ld_op5 false o.pc o.fuel o.status o.clause (intsO o.top) o.depth o.rest
 have l6 := ld_op6 false o.pc o.fuel o.status o.clause (intsO o.top) o.depth o.rest
 rw [← opn_eq] at l0 l1 l2 l3 l4 l5 l6
 by_cases h1:readyF c (opS o) o.depth = 0
 ·obtain ⟨ha,hs,hcl,hvf⟩ := ready_ok hv h1
  have hpl:o.pc.toNat < c.length := by have := ha.p0; have := ha.p1; simp only [opS] at *; omega
  have hx := fun st => idx_ins st c false o.pc.toNat hpl
  rw [show ((o.pc.toNat:Nat):Int) = o.pc by have := ha.p0; simp only [opS] at *; omega] at hx
  have hx:∀ st:St,pidxS st 3 (.slc (nz 3 (c.map insD)) (c.map insD) false) (.int .i64 o.pc) = some (.eptr (insD (insAt c (opS o))) 0) := hx
  have hn := call_needs (insAt c (opS o)).op
  rw [h1] at hr
  by_cases h2:lackO c o
  ·have e:stepOE c o = 390 := by unfold stepOE; rw [if_pos h1,if_pos h2]
   rw [show stepOF c v o = zOpn from if_neg (by rw [e]; decide),e]
   obtain ⟨q1,q2,q3⟩ := h2
   simp (disch:=first|omega|decide) only [push_cast,↓reduceIte,Nat.reduceEqDiff,Nat.reduceAdd,box_ev,box_opn,opn0_eq,box_opS,box_sta0,l0,l1,l2,l3,l4,l5,fill_sO,agg_sta,st_sta0,ld_sta,imm_sta,hr,q1,q2,len_ints,hx,fld_ins,pld_ins0,hn,q3,fill_o0,st_opS,ld_op,imm_op]
   rfl
  ·have e:stepOE c o = 0 := by unfold stepOE; rw [if_pos h1,if_neg h2]
   rw [show stepOF c v o = sOpn (advF v o.depth (opS o) (insAt c (opS o))) o from if_pos e,e]
   have hadv := call_adv c v (opS o) o.depth ha
   rw [show c.getD (opS o).pc.toNat default = insAt c (opS o) from rfl] at hadv
   generalize advF v o.depth (opS o) (insAt c (opS o)) = s at *
   by_cases q1:0 < o.fuel
   ·by_cases q2:0 < o.depth
    ·have q3:¬ (o.top.length:Int) < needF (insAt c (opS o)).op := fun q => h2 ⟨q1,q2,q⟩
     simp (disch:=first|omega|decide) only [push_cast,↓reduceIte,Nat.reduceEqDiff,Nat.reduceAdd,box_ev,box_opn,opn0_eq,box_opS,box_sta0,l0,l1,l2,l3,l4,l5,l6,fill_sO,agg_sta,st_sta0,ld_sta,imm_sta,keys_sta,hr,q1,q2,len_ints,hx,fld_ins,pld_ins0,hn,q3,ld_ev hv,imm_ev,keys_ev,hadv,st_sta,ld_sta0,ld_sta1,ld_sta2,ld_sta3,ld_sta4,fill_opI,st_opI,ld_opI,imm_opn]
    ·simp (disch:=first|omega|decide) only [push_cast,↓reduceIte,Nat.reduceEqDiff,Nat.reduceAdd,box_ev,box_opn,opn0_eq,box_opS,box_sta0,l0,l1,l2,l3,l4,l5,l6,fill_sO,agg_sta,st_sta0,ld_sta,imm_sta,keys_sta,hr,q1,q2,ld_ev hv,imm_ev,keys_ev,hadv,st_sta,ld_sta0,ld_sta1,ld_sta2,ld_sta3,ld_sta4,fill_opI,st_opI,ld_opI,imm_opn]
   ·simp (disch:=first|omega|decide) only [push_cast,↓reduceIte,Nat.reduceEqDiff,Nat.reduceAdd,box_ev,box_opn,opn0_eq,box_opS,box_sta0,l0,l1,l2,l3,l4,l5,l6,fill_sO,agg_sta,st_sta0,ld_sta,imm_sta,keys_sta,hr,q1,ld_ev hv,imm_ev,keys_ev,hadv,st_sta,ld_sta0,ld_sta1,ld_sta2,ld_sta3,ld_sta4,fill_opI,st_opI,ld_opI,imm_opn]
 ·have e:stepOE c o = readyF c (opS o) o.depth := if_neg h1
  rw [show stepOF c v o = zOpn from if_neg (by rw [e]; exact h1),e]
  simp (disch:=first|omega|decide) only [push_cast,↓reduceIte,Nat.reduceEqDiff,Nat.reduceAdd,box_ev,box_opn,opn0_eq,box_opS,box_sta0,l0,l1,l2,l3,l4,l5,fill_sO,agg_sta,st_sta0,ld_sta,imm_sta,hr,h1,fill_o0,st_opS,ld_op,imm_op]
  rfl
theorem c_stepO:Contract Tryd.prog GG 42 sp_stepO :=
 contract_of tr_tvm_StepOpen (tb_ok (all_cons c_ready (all_cons c_needs (all_cons c_adv all_nil))) all_nil) (fun a h => w_stepO a.1 a.2.1 a.2.2 h)
def resF (s:Sta):Int × Int × Int := if s.status = 1 ∧ 0 < s.stack.length then (topS s 0,s.clause,0) else if 10 < s.status then (0,0,s.status - 10) else (0,0,1)
noncomputable def sp_result:List D → Option D := spOf (α := Sta) (fun a => [staD a]) (fun a => a.stack.length ≤ 4294967296 ∧ a.status ≤ 1000000) (fun a => .tup [.int .i64 (resF a).1,.int .i64 (resF a).2.1,.int .i64 (resF a).2.2])
theorem call_result (s:Sta) (h:s.stack.length ≤ 4294967296 ∧ s.status ≤ 1000000):sp_result [staD s] = some (.tup [.int .i64 (resF s).1,.int .i64 (resF s).2.1,.int .i64 (resF s).2.2]) :=
 spOf_enc (fun a b h => by simp only [List.cons.injEq,and_true,staD_iff] at h; simp [h]) (s) h
theorem w_result (s:Sta) (h:s.stack.length ≤ 4294967296 ∧ s.status ≤ 1000000):@wW GG (tb [] []) F_tvm_Result.code (argF [staD s]) [] ⟨retQ F_tvm_Result.res (.tup [.int .i64 (resF s).1,.int .i64 (resF s).2.1,.int .i64 (resF s).2.2])⟩ := by
 obtain ⟨hl,hst⟩ := h
 unfold F_tvm_Result
 by_cases h1:s.status = 1
 ·by_cases h2:0 < s.stack.length
  ·rw [show resF s = (topS s 0,s.clause,0) from if_pos ⟨h1,h2⟩]
   have hx:pidxS [⟨false,1,staC s,false⟩] 1 (intsO s.stack) (.int .i64 ((s.stack.length:Int) - 1)) = some (.eptr (nI (topS s 0)) 0) := by
    have := idx_nI [⟨false,1,staC s,false⟩] s.stack false (s.stack.length - 1) (by omega)
    rw [show ((s.stack.length - 1:Nat):Int) = (s.stack.length:Int) - 1 by omega] at this
    exact this
   simp (disch:=first|omega|decide) only [push_cast,↓reduceIte,Nat.reduceEqDiff,box_sta,ld_sta2,ld_sta3,ld_sta4,h1,len_ints,show ((0:Int) < (s.stack.length:Int)) by omega,sub_i,hx,pld_nI]
  ·rw [show resF s = (0,0,1) by unfold resF; rw [if_neg (by omega),if_neg (by omega)]]
   simp (disch:=first|omega|decide) only [push_cast,↓reduceIte,Nat.reduceEqDiff,Int.reduceLT,box_sta,ld_sta2,ld_sta4,h1,len_ints,show ¬ ((0:Int) < (s.stack.length:Int)) by omega]
 ·by_cases h2:10 < s.status
  ·rw [show resF s = (0,0,s.status - 10) by unfold resF; rw [if_neg (by omega),if_pos h2]]
   simp (disch:=first|omega|decide) only [push_cast,↓reduceIte,Nat.reduceEqDiff,box_sta,ld_sta2,h1,h2,sub_i]
  ·rw [show resF s = (0,0,1) by unfold resF; rw [if_neg (by omega),if_neg h2]]
   simp (disch:=first|omega|decide) only [push_cast,↓reduceIte,Nat.reduceEqDiff,box_sta,ld_sta2,h1,h2]
theorem c_result:Contract Tryd.prog GG 27 sp_result :=
 contract_of tr_tvm_Result (tb_ok all_nil all_nil) (fun a h => w_result a h)
end Go.Proofs.YtlleccmnjpcogaaDoor.PI
namespace Go.Proofs.YtlleccmnjpcogaaDoor.PI
open Go
set_option linter.unusedSimpArgs false
set_option linter.unusedVariables false
def cdD (c:List Ins):D := .slc (nz 3 (c.map insD)) (c.map insD) false
theorem cdD_iff {a b:List Ins}:cdD a = cdD b ↔ a = b := by
 refine ⟨fun h => ?_,fun h => by rw [h]⟩
 simp only [cdD,D.slc.injEq,and_true] at h
 exact (List.map_inj_right (fun x y h => insD_iff.1 h)).1 h.2
def RunOK (c:List Ins) (v:Int × List Int):List Sta → Prop
 | [] => False
 | [s] => s.status ≠ 0
 | s :: s' :: l => s.status = 0 ∧ readyF c s 0 = 0 ∧ s' = stepF c v s ∧ RunOK c v (s' :: l)
theorem RunOK.det {c:List Ins} {v:Int × List Int}:∀ {s:Sta} {l l':List Sta},RunOK c v (s :: l) → RunOK c v (s :: l') → l = l'
 | s,[],[],_,_ => rfl
 | s,[],_ :: _,h,h' => absurd h'.1 h
 | s,_ :: _,[],h,h' => absurd h.1 h'
 | s,a :: l,b :: l',h,h' => by
  obtain ⟨_,_,rfl,h3⟩ := h
  obtain ⟨_,_,rfl,h6⟩ := h'
  rw [RunOK.det h3 h6]
def stB (s:Sta):PI.Obj := ⟨false,1,staC s,false⟩
inductive RunY (y:List D → St → Option (D × St)) (k kc kv:Nat):List Sta → Nat → St → St → Prop
 | stop {s:Sta} {l:List Sta} {i:Nat} {st st1:St} (h:y [.int .i64 (i:Int),staD s] st = some (.bool false,st1)):RunY y k kc kv (s :: l) i st st1
 | last {s:Sta} {i:Nat} {st st1:St} (h:y [.int .i64 (i:Int),staD s] st = some (.bool true,st1)) (hk:st1[k]? = some (stB s)):RunY y k kc kv [s] i st st1
 | next {s s':Sta} {l:List Sta} {i:Nat} {st st1 st2:St} (h:y [.int .i64 (i:Int),staD s] st = some (.bool true,st1)) (hk:st1[k]? = some (stB s)) (hc:st1[kc]? = st[kc]?) (hv:st1[kv]? = st[kv]?)
   (hl:RunY y k kc kv (s' :: l) (i + 1) (st1.set k (stB s')) st2):RunY y k kc kv (s :: s' :: l) i st st2
theorem RunY.det {y:List D → St → Option (D × St)} {k kc kv:Nat} {l:List Sta} {i:Nat} {st a b:St} (h:RunY y k kc kv l i st a):RunY y k kc kv l i st b → a = b := by
 induction h with
 | stop h =>
  intro h'
  cases h' with
  | stop h2 => rw [h] at h2; simp at h2; exact h2
  | last h2 => rw [h] at h2; simp at h2
  | next h2 => rw [h] at h2; simp at h2
 | last h hk =>
  intro h'
  cases h' with
  | stop h2 => rw [h] at h2; simp at h2
  | last h2 => rw [h] at h2; simp at h2; exact h2
 | next h hk hc hv hl ih =>
  intro h'
  cases h' with
  | stop h2 => rw [h] at h2; simp at h2
  | next h2 hk2 hc2 hv2 hl2 =>
   rw [h] at h2
   simp only [Option.some.injEq,Prod.mk.injEq,true_and] at h2
   subst h2
   exact ih hl2
def StatesR (y:List D → St → Option (D × St)) (ds:List D) (st:St) (r:D × St):Prop :=
 ∃ (kc kv:Nat) (c:List Ins) (v:Int × List Int) (l:List Sta) (lc lv:Bool),ds = [.ptr kc 0,.ptr kv 0] ∧ st[kc]? = some ⟨false,1,[cdD c],lc⟩ ∧ st[kv]? = some ⟨false,1,evC v,lv⟩ ∧ c.length ≤ 4096 ∧ vOK v ∧ l.length ≤ 100000 ∧
  RunOK c v (startF (c.length + 1) :: l) ∧ r.1 = .tup [] ∧ RunY y st.length kc kv (startF (c.length + 1) :: l) 0 (st ++ [stB (startF (c.length + 1))]) r.2
theorem StatesR.det {y:List D → St → Option (D × St)} {ds:List D} {st:St} {r s:D × St} (h:StatesR y ds st r) (h':StatesR y ds st s):r = s := by
 obtain ⟨kc,kv,c,v,l,lc,lv,rfl,h1,h2,_,_,_,h3,h4,h5⟩ := h
 obtain ⟨kc',kv',c',v',l',lc',lv',h6,h7,h8,_,_,_,h9,h10,h11⟩ := h'
 simp only [List.cons.injEq,D.ptr.injEq,and_true] at h6
 obtain ⟨rfl,rfl⟩ := h6
 rw [h1] at h7
 simp only [Option.some.injEq,Obj.mk.injEq,List.cons.injEq,and_true,true_and,cdD_iff] at h7
 rw [h2] at h8
 simp only [Option.some.injEq,Obj.mk.injEq,true_and] at h8
 obtain ⟨rfl,rfl⟩ := h7
 obtain rfl:v = v' := evD_iff.1 (congrArg D.agg h8.1)
 obtain rfl := h3.det h9
 exact Prod.ext (h4.trans h10.symm) (h5.det h11)
noncomputable def sy_sts (y:List D → St → Option (D × St)) (ds:List D) (st:St):Option (D × St) := @dite _ (∃ r,StatesR y ds st r) (Classical.propDecidable _) (fun h => some h.choose) (fun _ => none)
theorem sy_inv {y:List D → St → Option (D × St)} {ds:List D} {st:St} {r:D × St} (h:sy_sts y ds st = some r):StatesR y ds st r := by
 unfold sy_sts at h
 split at h
 ·rename_i hx
  simp only [Option.some.injEq] at h
  rw [← h]
  exact hx.choose_spec
 ·cases h
theorem sy_some {y:List D → St → Option (D × St)} {ds:List D} {st:St} {r:D × St} (h:StatesR y ds st r):sy_sts y ds st = some r := by
 have hx:∃ r,StatesR y ds st r := ⟨r,h⟩
 unfold sy_sts
 rw [dif_pos hx,hx.choose_spec.det h]
theorem ycontract_of {P:Program} {G:Glob} {T:Tbl} {il:List Nat} {f:Nat} {hints:List (List Nat)} {F:PF} (hT:TblOK P G T) (ht:trF P il f hints = some F) {sp:(List D → St → Option (D × St)) → List D → St → Option (D × St)}
  (h:∀ (l:Nat) y ds st r,sp y ds st = some r → @wW G (withY T l y) F.code (argF (.clo (10000000 + l) [] :: ds)) st ⟨@retI F.res ⟨fun d st' => (d,st') = r⟩⟩):YIContract P G f sp := by
 refine fun_simY hT ht fun l y ds st r hr => ?_
 obtain ⟨fuel,d,st',h1,h2⟩ := runI_of_W (W_of (h l y ds st r hr))
 exact ⟨fuel,by rw [h1 fuel (Nat.le_refl _)]; exact congrArg some h2⟩
theorem get_ne_set {st:St} {k k':Nat} {o:PI.Obj} (h:k' ≠ k):(st.set k o)[k']? = st[k']? := List.getElem?_set_ne (by omega)
theorem get_set {st:St} {k:Nat} {o o':PI.Obj} (h:st[k]? = some o):(st.set k o')[k]? = some o' := List.getElem?_set_self (List.getElem?_eq_some_iff.1 h).1
set_option maxHeartbeats 8000000 in
set_option maxRecDepth 20000 in
theorem cy_sts:YIContract Tryd.prog GG 51 sy_sts := by
 refine ycontract_of (T := tb [(39,sp_start),(52,sp_step)] []) (tb_ok (all_cons c_start (all_cons c_step all_nil)) all_nil) tr_derive_states_1 ?_
 intro lb y ds st r hr
 obtain ⟨kc,kv,c,v,l,lc,lv,rfl,h1,h2,hc,hv,hll,h3,hr1,h5⟩ := sy_inv hr
 obtain ⟨rd,stF⟩ := r
 dsimp only at hr1 h5
 subst hr1
 have hcl:kc < st.length := (List.getElem?_eq_some_iff.1 h1).1
 have hvl:kv < st.length := (List.getElem?_eq_some_iff.1 h2).1
 have cs := call_start ((c.length:Int) + 1)
 have e0:startE ((c.length:Int) + 1) = 0 := if_neg (by omega)
 rw [e0] at cs
 have h1':st[kc]? = some ⟨false,1,[.slc (nz 3 (c.map insD)) (c.map insD) false],lc⟩ := h1
 unfold F_derive_states_1
 simp (disch:=first|omega|decide) only [push_cast,↓reduceIte,Nat.reduceEqDiff,h1',add_i,cs,box_sta0,get_len,set_len,st_sta0]
 refine W_whileA (fun i:Nat × List Sta × St => [(0,.clo (10000000 + lb) []),(1,.ptr kc 0),(2,.ptr kv 0),(4,.ptr st.length 0),(5,.int .i64 0),(6,.int .i64 (i.1:Int))]) (fun i => i.2.2)
  (fun i => RunOK c v i.2.1 ∧ RunY y st.length kc kv i.2.1 i.1 i.2.2 stF ∧ i.2.2[kc]? = some ⟨false,1,[cdD c],lc⟩ ∧ i.2.2[kv]? = some ⟨false,1,evC v,lv⟩ ∧ i.2.2[st.length]? = (i.2.1.head?).map stB ∧ i.1 + i.2.1.length ≤ 100001) (fun i => i.2.1.length)
  (0,startF (c.length + 1) :: l,st ++ [stB (startF (c.length + 1))]) (by simp only [push_cast,↓reduceIte,Nat.reduceEqDiff] <;> rfl) ⟨h3,h5,by rw [get_app hcl]; exact h1,by rw [get_app hvl]; exact h2,get_len _ _,by simp; omega⟩ ?_
 rintro ⟨i,ls,s0⟩ ⟨q1,q2,q3,q4,q5,q6⟩
 dsimp only at q1 q2 q3 q4 q5 q6
 unfold F_derive_states_1_L0
 match ls,q1,q2,q5,q6 with
 | [],q1,_,_,_ => exact q1.elim
 | s :: l,q1,q2,q5,q6 =>
 have q5':s0[st.length]? = some ⟨false,1,staC s,false⟩ := q5
 have q3':s0[kc]? = some ⟨false,1,[.slc (nz 3 (c.map insD)) (c.map insD) false],lc⟩ := q3
 cases q2 with
 | stop h =>
  simp (disch:=first|omega|decide) only [push_cast,↓reduceIte,Nat.reduceEqDiff,q5',ld_sta,h]
 | last h hk =>
  rename_i s1
  have hk:stF[st.length]? = some ⟨false,1,staC s,false⟩ := hk
  have hst:¬ s.status = 0 := q1
  simp (disch:=first|omega|decide) only [push_cast,↓reduceIte,Nat.reduceEqDiff,q5',ld_sta,h,hk,ld_sta2,hst]
 | next h hk hkc hkv hl =>
  rename_i s' l' s1
  have hk':s1[st.length]? = some ⟨false,1,staC s,false⟩ := hk
  obtain ⟨hst,hrd,rfl,hok⟩ := q1
  have cst := call_step c v s ⟨by omega,hv⟩
  rw [hrd] at cst
  have hkc':s1[kc]? = some ⟨false,1,[.slc (nz 3 (c.map insD)) (c.map insD) false],lc⟩ := hkc.trans q3
  have hkv':s1[kv]? = some ⟨false,1,evC v,lv⟩ := hkv.trans q4
  simp (disch:=first|omega|decide) only [push_cast,↓reduceIte,Nat.reduceEqDiff,q5',ld_sta,h,hk',ld_sta2,hst,hkc',hkv',ld_ev hv,imm_ev,keys_ev,imm_sta,keys_sta,cst,st_sta,add_i]
  refine next_head (i + 1,stepF c v s :: l',s1.set st.length (stB (stepF c v s))) (by
   refine ⟨hok,hl,?_,?_,?_,?_⟩
   ·dsimp only; rw [get_ne_set (by omega)]; exact hkc'
   ·dsimp only; rw [get_ne_set (by omega)]; exact hkv'
   ·dsimp only; rw [get_set hk]; rfl
   ·simp only [List.length_cons] at q6 ⊢; omega) (by simp) ?_
  simp only [push_cast] <;> rfl
noncomputable def si_sts:List D → St → Option (D × St) := siOf (α := (List Ins × (Int × List Int)) × St) (fun a => ([cdD a.1.1,evD a.1.2],a.2)) (fun a => vOK a.1.2) (fun a => (.clo 51 [.ptr a.2.length 0,.ptr (a.2.length + 1) 0],a.2 ++ [⟨false,1,[cdD a.1.1],false⟩] ++ [⟨false,1,evC a.1.2,false⟩]))
theorem call_sts (c:List Ins) (v:Int × List Int) (st:St) (hv:vOK v):si_sts [cdD c,evD v] st = some (.clo 51 [.ptr st.length 0,.ptr (st.length + 1) 0],st ++ [⟨false,1,[cdD c],false⟩] ++ [⟨false,1,evC v,false⟩]) :=
 siOf_enc (fun a b e => by
  obtain ⟨⟨a1,a2⟩,a3⟩ := a
  obtain ⟨⟨b1,b2⟩,b3⟩ := b
  simp only [Prod.mk.injEq,List.cons.injEq,and_true,cdD_iff,evD_iff] at e
  obtain ⟨⟨rfl,rfl⟩,rfl⟩ := e
  rfl) (((c,v),st):(List Ins × (Int × List Int)) × St) hv rfl
theorem ci_sts:IContract Tryd.prog GG 26 si_sts := by
 refine icontract_keepS (T := tb [] []) tr_derive_states (tb_ok all_nil all_nil) ?_
 rintro ⟨⟨c,v⟩,st⟩ hv
 unfold F_derive_states
 simp (disch:=first|omega|decide) only [push_cast,↓reduceIte,Nat.reduceEqDiff,cdD,box_ev]
 rw [len_app]
end Go.Proofs.YtlleccmnjpcogaaDoor.PI
namespace Go.Proofs.YtlleccmnjpcogaaDoor.PI
open Go
set_option linter.unusedSimpArgs false
set_option linter.unusedVariables false
def DepOK (c:List Ins) (out:Int) (i:Nat) (D:Nat → Int):Prop :=
 ∀ j,i ≤ j → j < c.length → 0 ≤ D j → ¬ verBad (c.getD j default) (D j) ∧ D j ≤ out ∧ afterF (c.getD j default) (D j) ≤ out ∧
  ∀ n ∈ nexts (c.getD j default) j,(j:Int) < n ∧ n < c.length ∧ D n.toNat = afterF (c.getD j default) (D j)
theorem at_set_ne {dep:List Int} {k j:Nat} {x:Int} (h:j ≠ k):at' (dep.set k x) j = at' dep j := by
 unfold at'
 rw [List.getD_eq_getElem?_getD,List.getD_eq_getElem?_getD,List.getElem?_set_ne (by omega)]
theorem at_setS {dep:List Int} {k:Nat} {x:Int} (h:k < dep.length):at' (dep.set k x) k = x := by
 unfold at'
 rw [List.getD_eq_getElem?_getD,List.getElem?_set_self h]; rfl
theorem nextL_ok {len i after:Int} (ha:0 ≤ after) (hi:0 ≤ i):∀ {l:List Int} {dep dep':List Int},(dep.length:Int) = len → nextL len i after l dep = some dep' →
  dep'.length = dep.length ∧ (∀ j:Nat,0 ≤ at' dep j ∨ (j:Int) ≤ i → at' dep' j = at' dep j) ∧ ∀ n ∈ l,i < n ∧ n < len ∧ at' dep' n.toNat = after
 | [],dep,dep',hl,h => by
  simp only [nextL,Option.some.injEq] at h
  subst h
  exact ⟨rfl,fun _ _ => rfl,fun n hn => by cases hn⟩
 | n :: l,dep,dep',hl,h => by
  simp only [nextL] at h
  split at h
  ·cases h
  rename_i hb
  unfold nextBad at hb
  have hn0:i < n ∧ n < len := ⟨by omega,by omega⟩
  have hnl:n.toNat < dep.length := by omega
  obtain ⟨h1,h2,h3⟩ := nextL_ok ha hi (dep := dep.set n.toNat after) (by rw [List.length_set]; exact hl) h
  have hat:at' (dep.set n.toNat after) n.toNat = after := at_setS hnl
  refine ⟨by rw [h1,List.length_set],fun j hj => ?_,fun m hm => ?_⟩
  ·by_cases e:j = n.toNat
   ·subst e
    have hj':0 ≤ at' dep n.toNat := by
     rcases hj with hj | hj
     ·exact hj
     ·omega
    rw [h2 _ (.inl (by rw [hat]; exact ha)),hat]
    omega
   ·rw [h2 j (by rw [at_set_ne e]; exact hj),at_set_ne e]
  ·rcases List.mem_cons.1 hm with rfl | hm
   ·exact ⟨hn0.1,hn0.2,by rw [h2 _ (.inl (by rw [hat]; exact ha)),hat]⟩
   ·exact h3 m hm
theorem eff_nonneg (op:Int):0 ≤ (effF op).2 := by
 unfold effF
 repeat' split
 all_goals simp
theorem verL_ok (c:List Ins):∀ (r:List Ins) (i:Nat) (dep:List Int) (s out:Int),r = c.drop i → i ≤ c.length → dep.length = c.length → 0 ≤ s → verL c.length r i dep s = some out →
  s ≤ out ∧ ∃ D:Nat → Int,(∀ j:Nat,0 ≤ at' dep j ∨ j < i → D j = at' dep j) ∧ DepOK c out i D
 | [],i,dep,s,out,hr,hi,hl,hs,h => by
  simp only [verL,Option.some.injEq] at h
  subst h
  have:c.length ≤ i := List.drop_eq_nil_iff.1 hr.symm
  exact ⟨Int.le_refl _,at' dep,fun _ _ => rfl,fun j h1 h2 => absurd h2 (by omega)⟩
 | x :: r,i,dep,s,out,hr,hi,hl,hs,h => by
  have hil:i < c.length := by
   rcases Nat.lt_or_ge i c.length with h | h
   ·exact h
   ·rw [List.drop_eq_nil_iff.2 h] at hr; cases hr
  rw [List.drop_eq_getElem_cons hil] at hr
  obtain ⟨hx,hr⟩ := List.cons.inj hr
  have hg:c.getD i default = x := by rw [hx,List.getD_eq_getElem?_getD,List.getElem?_eq_getElem hil]; rfl
  simp only [verL] at h
  split at h
  ·rename_i hneg
   obtain ⟨h1,D,h2,h3⟩ := verL_ok c r (i + 1) dep s out hr hil hl hs h
   refine ⟨h1,D,fun j hj => h2 j (by omega),fun j hj hjl hD => ?_⟩
   by_cases e:j = i
   ·subst e
    rw [h2 j (.inr (by omega))] at hD
    omega
   ·exact h3 j (by omega) hjl hD
  ·rename_i hneg
   split at h
   ·cases h
   rename_i hbad
   split at h
   ·cases h
   rename_i dep' hn
   have hd0:(effF x.op).1 ≤ at' dep i := by unfold verBad at hbad; omega
   have ha:0 ≤ afterF x (at' dep i) := by have := eff_nonneg x.op; unfold afterF; omega
   obtain ⟨n1,n2,n3⟩ := nextL_ok ha (by omega) (by rw [hl]) hn
   obtain ⟨h1,D,h2,h3⟩ := verL_ok c r (i + 1) dep' _ out hr hil (by rw [n1,hl]) (by omega) h
   refine ⟨by omega,D,fun j hj => ?_,fun j hj hjl hD => ?_⟩
   ·rcases hj with hj | hj
    ·rw [h2 j (.inl (by rw [n2 j (.inl hj)]; exact hj)),n2 j (.inl hj)]
    ·rw [h2 j (.inr (by omega)),n2 j (.inr (by omega))]
   ·by_cases e:j = i
    ·subst e
     have hDj:D j = at' dep j := by rw [h2 j (.inr (by omega)),n2 j (.inr (by omega))]
     rw [hDj,hg]
     refine ⟨hbad,by omega,by omega,fun n hn => ?_⟩
     obtain ⟨m1,m2,m3⟩ := n3 n hn
     exact ⟨m1,m2,by rw [h2 _ (.inl (by rw [m3]; exact ha)),m3]⟩
    ·exact h3 j (by omega) hjl hD
theorem verify_dep {c:List Ins} (h:(verifyF c).2 = 0):∃ D:Nat → Int,D 0 = 0 ∧ DepOK c 64 0 D := by
 obtain ⟨h1,h2,h3,s,h4,h5⟩ := verify_ok h
 obtain ⟨_,D,h6,h7⟩ := verL_ok c c 0 (dep0 c.length) 0 s rfl (by omega) (by simp [dep0]) (by decide) h4
 have h0:at' (dep0 c.length) 0 = 0 := at_setS (by simp; omega)
 refine ⟨D,by rw [h6 0 (.inl (by rw [h0]; decide)),h0],fun j a b d => ?_⟩
 obtain ⟨q1,q2,q3,q4⟩ := h7 j a b d
 exact ⟨q1,by omega,by omega,q4⟩
structure Good (c:List Ins) (D:Nat → Int) (s:Sta):Prop where
 st:s.status = 0
 cl:s.clause = 0
 p0:0 ≤ s.pc
 p1:s.pc < c.length
 d:D s.pc.toNat = s.stack.length
 u0:0 ≤ s.fuel
 u1:s.fuel ≤ 32768
structure Last (s:Sta):Prop where
 st:s.status ≠ 0
 s0:0 ≤ s.status
 s1:s.status ≤ 100000
 l:s.stack.length ≤ 64
theorem Good.len {c:List Ins} {D:Nat → Int} {s:Sta} (hD:DepOK c 64 0 D) (h:Good c D s):s.stack.length ≤ 64 := by
 have h1 := h.d
 have h2 := h.p0
 have h3 := h.p1
 have := (hD s.pc.toNat (by omega) (by omega) (by omega)).2.1
 omega
theorem Good.ready {c:List Ins} {D:Nat → Int} {s:Sta} (hv:(verifyF c).2 = 0) (hD:DepOK c 64 0 D) (h:Good c D s):readyF c s 0 = 0 := by
 unfold readyF
 have hl := h.len hD
 have h1 := h.st
 have h2 := h.p0
 have h3 := h.p1
 have h4 := h.u0
 have h5 := h.u1
 have h6 := h.cl
 rw [if_neg (by omega),if_neg (by omega),if_neg (by unfold badS; omega)]
theorem at_formed {c:List Ins} (h:c.all formedB = true) {j:Nat} (hj:j < c.length):formedB (c.getD j default) = true := by
 rw [List.getD_eq_getElem?_getD,List.getElem?_eq_getElem hj]
 exact List.all_eq_true.1 h _ (List.getElem_mem hj)
theorem formed_opP {x:Ins} (h:formedB x = true):1 ≤ x.op ∧ x.op ≤ 16 := ⟨(of_decide_eq_true h).1,(of_decide_eq_true h).2.1⟩
theorem need_eff {op:Int} (h:1 ≤ op ∧ op ≤ 16):needF op = (effF op).1 := by
 have:op = 1 ∨ op = 2 ∨ op = 3 ∨ op = 4 ∨ op = 5 ∨ op = 6 ∨ op = 7 ∨ op = 8 ∨ op = 9 ∨ op = 10 ∨ op = 11 ∨ op = 12 ∨ op = 13 ∨ op = 14 ∨ op = 15 ∨ op = 16 := by omega
 rcases this with rfl | rfl | rfl | rfl | rfl | rfl | rfl | rfl | rfl | rfl | rfl | rfl | rfl | rfl | rfl | rfl <;> rfl
theorem Good.step {c:List Ins} {D:Nat → Int} {v:Int × List Int} {s:Sta} (hf:c.all formedB = true) (hD:DepOK c 64 0 D) (h:Good c D s) :
  Last (advF v 0 s (insAt c s)) ∨ (Good c D (advF v 0 s (insAt c s)) ∧ s.pc < (advF v 0 s (insAt c s)).pc ∧ (advF v 0 s (insAt c s)).fuel = s.fuel - 1) := by
 have hl := h.len hD
 obtain ⟨h1,h2,h3,h4,h5,h6,h7⟩ := h
 have hj:s.pc.toNat < c.length := by omega
 have hfx:formedB (insAt c s) = true := at_formed hf hj
 have hop := formed_opP hfx
 obtain ⟨q1,q2,q3,q4⟩ := hD s.pc.toNat (by omega) hj (by omega)
 rw [show c.getD s.pc.toNat default = insAt c s from rfl] at q1 q3 q4
 generalize insAt c s = x at *
 rw [h5] at q1 q3 q4
 have hneed := need_eff hop
 unfold advF
 by_cases hu:s.fuel = 0
 ·rw [if_pos hu]
  exact .inl ⟨by simp,by simp,by simp,hl⟩
 rw [if_neg hu]
 have hns:¬ ((decS s).stack.length:Int) < needF x.op := by
  unfold verBad at q1
  show ¬ ((s.stack.length:Int) < needF x.op)
  omega
 have hex:exO v 0 (decS s) x = outF v 0 (decS s) x := if_neg hns
 have nx:∀ (n:Int),n ∈ nexts x s.pc.toNat → s.pc < n ∧ n < c.length ∧ D n.toNat = afterF x s.stack.length := fun n hn => by
  have := q4 n hn
  exact ⟨by omega,this.2⟩
 have nx1:x.op ≠ 14 → x.op ≠ 15 → x.op ≠ 16 → s.pc < s.pc + 1 ∧ s.pc + 1 < c.length ∧ D (s.pc + 1).toNat = afterF x s.stack.length := fun a b d => by
  refine nx (s.pc + 1) ?_
  unfold nexts
  rw [if_pos (show x.op ≠ 14 ∧ x.op ≠ 15 ∧ x.op ≠ 16 from ⟨a,b,d⟩)]
  simp; omega
 have nx2:x.op = 13 ∨ x.op = 14 → s.pc < x.n ∧ x.n < c.length ∧ D x.n.toNat = afterF x s.stack.length := fun a => by
  refine nx x.n ?_
  unfold nexts
  rw [if_pos a]
  simp
 -- what each outcome comes to
 have herr:∀ e,exO v 0 (decS s) x = .err e → Last (outS (decS s) (exO v 0 (decS s) x)) := fun e he => by
  have := exO_err he
  rw [he]
  exact ⟨by simp only [outS]; omega,by simp only [outS]; omega,by simp only [outS]; omega,hl⟩
 have hpop:∀ k push pc,exO v 0 (decS s) x = .pop k push pc → k ≤ s.stack.length → ((s.stack.length - k + push.toList.length:Nat):Int) = afterF x s.stack.length → (s.pc < pc.getD (s.pc + 1) ∧ pc.getD (s.pc + 1) < c.length ∧ D (pc.getD (s.pc + 1)).toNat = afterF x s.stack.length) →
   Good c D (outS (decS s) (exO v 0 (decS s) x)) ∧ s.pc < (outS (decS s) (exO v 0 (decS s) x)).pc ∧ (outS (decS s) (exO v 0 (decS s) x)).fuel = s.fuel - 1 := fun k push pc he hk hln hpc => by
  rw [he]
  refine ⟨⟨h1,h2,?_,hpc.2.1,?_,?_,?_⟩,hpc.1,rfl⟩
  ·show 0 ≤ pc.getD (s.pc + 1); omega
  ·show D (pc.getD (s.pc + 1)).toNat = ((s.stack.take (s.stack.length - k) ++ push.toList).length:Int)
   rw [hpc.2.2,← hln]
   simp
  ·show 0 ≤ s.fuel - 1; omega
  ·show s.fuel - 1 ≤ 32768; omega
 have hd:(effF x.op).1 ≤ s.stack.length := by unfold verBad at q1; omega
 by_cases o1:x.op = 1
 ·have he:exO v 0 (decS s) x = .pop 0 (some x.n) none := by
   rw [hex]; unfold outF
   rw [if_pos o1,if_neg]
   have:afterF x s.stack.length = s.stack.length + 1 := by unfold afterF; rw [o1]; simp [effF]
   show ¬ (64:Int) ≤ 0 + s.stack.length
   omega
  refine .inr (hpop _ _ _ he (by omega) ?_ (nx1 (by omega) (by omega) (by omega)))
  unfold afterF; rw [o1]; simp [effF]
 by_cases o2:x.op = 2
 ·have hl64:¬ (64:Int) ≤ 0 + (decS s).stack.length := by
   have:afterF x s.stack.length = s.stack.length + 1 := by unfold afterF; rw [o2]; simp [effF]
   show ¬ (64:Int) ≤ 0 + s.stack.length
   omega
  by_cases b1:andI v.1 (bitI x.n) = 0
  ·have he:exO v 0 (decS s) x = .err 181 := by
    rw [hex]; unfold outF
    rw [if_neg o1,if_pos o2,if_neg hl64,if_pos b1]
   exact .inl (herr _ he)
  by_cases b2:at' v.2 x.n.toNat < -9007199254740992 ∨ 9007199254740992 < at' v.2 x.n.toNat
  ·have he:exO v 0 (decS s) x = .err 3 := by
    rw [hex]; unfold outF
    rw [if_neg o1,if_pos o2,if_neg hl64,if_neg b1,if_pos b2]
   exact .inl (herr _ he)
  have he:exO v 0 (decS s) x = .pop 0 (some (at' v.2 x.n.toNat)) none := by
   rw [hex]; unfold outF
   rw [if_neg o1,if_pos o2,if_neg hl64,if_neg b1,if_neg b2]
  refine .inr (hpop _ _ _ he (by omega) ?_ (nx1 (by omega) (by omega) (by omega)))
  unfold afterF; rw [o2]; simp [effF]
 by_cases o12:x.op = 12
 ·have he:exO v 0 (decS s) x = .pop 1 (some (if x.n ≤ topS (decS s) 0 ∧ topS (decS s) 0 ≤ x.m then 1 else 0)) none := by
   rw [hex]; unfold outF
   rw [if_neg o1,if_neg o2,if_pos o12]
  have:(effF x.op).1 = 1 := by rw [o12]; rfl
  refine .inr (hpop _ _ _ he (by omega) ?_ (nx1 (by omega) (by omega) (by omega)))
  unfold afterF; rw [o12]; simp [effF]; omega
 by_cases o13:x.op = 13
 ·have he:exO v 0 (decS s) x = .pop 1 none (if topS (decS s) 0 = 0 then some x.n else none) := by
   rw [hex]; unfold outF
   rw [if_neg o1,if_neg o2,if_neg o12,if_pos o13]
  have:(effF x.op).1 = 1 := by rw [o13]; rfl
  refine .inr (hpop _ _ _ he (by omega) ?_ ?_)
  ·unfold afterF; rw [o13]; simp [effF]; omega
  ·split
   ·exact nx2 (.inl o13)
   ·exact nx1 (by omega) (by omega) (by omega)
 by_cases o14:x.op = 14
 ·have he:exO v 0 (decS s) x = .set x.n s.status s.clause := by
   rw [hex]; unfold outF
   rw [if_neg o1,if_neg o2,if_neg o12,if_neg o13,if_pos o14]; rfl
  obtain ⟨m1,m2,m3⟩ := nx2 (.inr o14)
  right
  rw [he]
  refine ⟨⟨h1,h2,?_,m2,?_,?_,?_⟩,m1,rfl⟩
  ·show 0 ≤ x.n; omega
  ·show D x.n.toNat = (s.stack.length:Int)
   rw [m3]; unfold afterF; rw [o14]; simp [effF]
  ·show 0 ≤ s.fuel - 1; omega
  ·show s.fuel - 1 ≤ 32768; omega
 by_cases o15:x.op = 15
 ·have he:exO v 0 (decS s) x = .set s.pc 1 x.n := by
   rw [hex]; unfold outF
   rw [if_neg o1,if_neg o2,if_neg o12,if_neg o13,if_neg o14,if_pos o15]; rfl
  left
  rw [he]
  exact ⟨by simp [outS],by simp [outS],by simp [outS],hl⟩
 by_cases o16:x.op = 16
 ·have he:exO v 0 (decS s) x = .err 180 := by
   rw [hex]; unfold outF
   rw [if_neg o1,if_neg o2,if_neg o12,if_neg o13,if_neg o14,if_neg o15,if_pos o16]
  exact .inl (herr _ he)
 by_cases b1:(binF x.op (topS (decS s) 1) (topS (decS s) 0)).2 = 0
 ·have he:exO v 0 (decS s) x = .pop 2 (some (binF x.op (topS (decS s) 1) (topS (decS s) 0)).1) none := by
   rw [hex]; unfold outF
   rw [if_neg o1,if_neg o2,if_neg o12,if_neg o13,if_neg o14,if_neg o15,if_neg o16,if_pos b1]
  have e2:effF x.op = (2,1) := by
   unfold effF
   rw [if_neg (by omega),if_neg (by omega),if_neg (by omega),if_neg (by omega)]
  rw [e2] at hd
  refine .inr (hpop _ _ _ he (by omega) ?_ (nx1 (by omega) (by omega) (by omega)))
  unfold afterF; rw [e2]; simp; omega
 ·have he:exO v 0 (decS s) x = .err (binF x.op (topS (decS s) 1) (topS (decS s) 0)).2 := by
   rw [hex]; unfold outF
   rw [if_neg o1,if_neg o2,if_neg o12,if_neg o13,if_neg o14,if_neg o15,if_neg o16,if_neg b1]
  exact .inl (herr _ he)
def runL (c:List Ins) (v:Int × List Int):Nat → Sta → List Sta
 | 0,s => [s]
 | f + 1,s => s :: if s.status = 0 then runL c v f (stepF c v s) else []
def traceL (c:List Ins) (v:Int × List Int):List Sta := runL c v c.length (startF (c.length + 1))
theorem runL_ok {c:List Ins} {D:Nat → Int} {v:Int × List Int} (hv:(verifyF c).2 = 0) (hD:DepOK c 64 0 D):∀ (f:Nat) (s:Sta),Good c D s → (c.length:Int) ≤ f + s.pc →
  ∃ l,runL c v f s = s :: l ∧ RunOK c v (s :: l) ∧ l.length ≤ f ∧ (∀ x ∈ s :: l,Good c D x ∨ Last x)
 | 0,s,h,hf => absurd h.p1 (by have := h.p1; omega)
 | f + 1,s,h,hf => by
  have hr := h.ready hv hD
  have hst:stepF c v s = advF v 0 s (insAt c s) := if_pos hr
  have hfm := (verify_ok hv).2.2.1
  refine ⟨runL c v f (stepF c v s),by simp only [runL]; rw [if_pos h.st],?_⟩
  rcases h.step (v := v) hfm hD with hl | ⟨hg,hpc,_⟩
  ·rw [← hst] at hl
   have e:runL c v f (stepF c v s) = [stepF c v s] := by
    cases f with
    | zero => rfl
    | succ f => simp only [runL]; rw [if_neg hl.st]
   rw [e]
   refine ⟨⟨h.st,hr,rfl,hl.st⟩,by simp,fun x hx => ?_⟩
   simp only [List.mem_cons,List.not_mem_nil,or_false] at hx
   rcases hx with rfl | rfl
   ·exact .inl h
   ·exact .inr hl
  ·rw [← hst] at hg hpc
   obtain ⟨l,h1,h2,h3,h4⟩ := runL_ok (v := v) hv hD f (stepF c v s) hg (by omega)
   rw [h1]
   refine ⟨⟨h.st,hr,rfl,h2⟩,by simp; omega,fun x hx => ?_⟩
   rcases List.mem_cons.1 hx with rfl | hx
   ·exact .inl h
   ·exact h4 x hx
theorem trace_ok {c:List Ins} {v:Int × List Int} (hv:(verifyF c).2 = 0):∃ D l,DepOK c 64 0 D ∧ traceL c v = startF (c.length + 1) :: l ∧ RunOK c v (startF (c.length + 1) :: l) ∧ l.length ≤ c.length ∧ (∀ x ∈ startF (c.length + 1) :: l,Good c D x ∨ Last x) := by
 obtain ⟨D,hD0,hD⟩ := verify_dep hv
 obtain ⟨hc,hc0,_⟩ := verify_ok hv
 have hs:startF ((c.length:Int) + 1) = { zSta with fuel := (c.length:Int) + 1 } := if_neg (by omega)
 have hg:Good c D (startF ((c.length:Int) + 1)) := by
  rw [hs]
  exact ⟨rfl,rfl,Int.le_refl _,by simp only [zSta]; omega,hD0,by simp only []; omega,by simp only []; omega⟩
 obtain ⟨l,h1,h2,h3,h4⟩ := runL_ok (v := v) hv hD c.length _ hg (by rw [hs]; simp [zSta])
 exact ⟨D,l,hD,h1,h2,h3,h4⟩
end Go.Proofs.YtlleccmnjpcogaaDoor.PI
namespace Go.Proofs.YtlleccmnjpcogaaDoor.PI
open Go
set_option linter.unusedSimpArgs false
set_option maxHeartbeats 8000000
set_option maxRecDepth 20000
set_option linter.unusedVariables false
structure Der where
 code:List Ins
 env:Int × List Int
 am:Int
 er:Int
 lv:List Dig
 deriving Inhabited
def derC (cs:D) (v:Int × List Int) (a e:Int) (L:D):List D := cs :: (evC v ++ [.int .i64 a,.int .i64 e,L])
def lvD (l:List Dig):D := .slc (nz 32 (l.map digD)) (l.map digD) false
def derD (d:Der):D := .agg (derC (cdD d.code) d.env d.am d.er (lvD d.lv))
theorem lvD_iff {a b:List Dig}:lvD a = lvD b ↔ a = b := by
 refine ⟨fun h => ?_,fun h => by rw [h]⟩
 simp only [lvD,D.slc.injEq,and_true] at h
 exact digs_iff.1 h.2
theorem derC_inj {cs cs':D} {v v':Int × List Int} {a a' e e':Int} {L L':D} (h:derC cs v a e L = derC cs' v' a' e' L'):cs = cs' ∧ v = v' ∧ a = a' ∧ e = e' ∧ L = L' := by
 simp only [derC,List.cons.injEq] at h
 obtain ⟨h1,h2⟩ := List.append_inj' h.2 rfl
 simp only [List.cons.injEq,D.int.injEq,true_and,and_true] at h2
 exact ⟨h.1,evD_iff.1 (congrArg D.agg h1),h2.1,h2.2.1,h2.2.2⟩
theorem derD_iff {a b:Der}:derD a = derD b ↔ a = b := by
 refine ⟨fun h => ?_,fun h => by rw [h]⟩
 obtain ⟨a1,a2,a3,a4,a5⟩ := a
 obtain ⟨b1,b2,b3,b4,b5⟩ := b
 simp only [derD,D.agg.injEq] at h
 obtain ⟨h1,h2,h3,h4,h5⟩ := derC_inj h
 subst h2; subst h3; subst h4
 rw [cdD_iff.1 h1,lvD_iff.1 h5]
def nilS:D := .slc 0 [] true
def zEv:Int × List Int := (0,List.replicate 16 0)
theorem derC_length {v:Int × List Int} (hv:vOK v) (cs:D) (a e:Int) (L:D):(derC cs v a e L).length = 21 := by simp [derC,evC_length hv]
theorem derC_cell (v:Int × List Int) {cs L:D} (hc:cs.isCell = true) (hL:L.isCell = true) (a e:Int):(derC cs v a e L).all D.isCell = true := by
 have:(evC v).all D.isCell = true := by rw [evC_ints,ints_cell]
 simp only [derC,List.all_cons,List.all_append,hc,hL,this,List.all_nil,isCell_int,Bool.and_true]
theorem box_21:boxD (.agg [.slc 0 [] true,.int .i64 0,.int .i64 0,.int .i64 0,.int .i64 0,.int .i64 0,.int .i64 0,.int .i64 0,.int .i64 0,.int .i64 0,.int .i64 0,.int .i64 0,.int .i64 0,.int .i64 0,.int .i64 0,.int .i64 0,.int .i64 0,.int .i64 0,.int .i64 0,.int .i64 0,.slc 0 [] true]) = some (derC nilS zEv 0 0 nilS) := (rfl)
theorem fill_21:fillD [.slc 0 [] true,.int .i64 0,.int .i64 0,.int .i64 0,.int .i64 0,.int .i64 0,.int .i64 0,.int .i64 0,.int .i64 0,.int .i64 0,.int .i64 0,.int .i64 0,.int .i64 0,.int .i64 0,.int .i64 0,.int .i64 0,.int .i64 0,.int .i64 0,.int .i64 0,.int .i64 0,.slc 0 [] true] [] = some (derC nilS zEv 0 0 nilS) := (rfl)
theorem fill_d2 {v:Int × List Int} (hv:vOK v) (sz:Nat) (els:List D) (t:Bool):fillD [.slc 0 [] true,.int .i64 0,.int .i64 0,.int .i64 0,.int .i64 0,.int .i64 0,.int .i64 0,.int .i64 0,.int .i64 0,.int .i64 0,.int .i64 0,.int .i64 0,.int .i64 0,.int .i64 0,.int .i64 0,.int .i64 0,.int .i64 0,.int .i64 0,.int .i64 0,.int .i64 0,.slc 0 [] true] [(0,1,.slc sz els t),(1,17,evD v)] = some (derC (.slc sz els t) v 0 0 nilS) := by
 refine (fill_mid (cs := derC nilS zEv 0 0 nilS) (cs' := derC (.slc sz els t) zEv 0 0 nilS) (A := []) (B := [nilS]) (xs := [.slc sz els t]) rfl rfl rfl rfl rfl rfl rfl).trans ?_
 refine (fill_mid (cs := derC (.slc sz els t) zEv 0 0 nilS) (cs' := derC (.slc sz els t) v 0 0 nilS) (A := [.slc sz els t]) (B := evC zEv) (xs := evC v) rfl rfl rfl rfl rfl (evC_length hv) ?_).trans ?_
 ·rw [evC_ints,ints_cell]
 ·rfl
theorem st_der {v v':Int × List Int} (hv:vOK v) (hv':vOK v') (cs cs':D) (hc:cs'.isCell = true) (a e a' e':Int) (L L':D) (hL:L'.isCell = true):stO (some ⟨false,1,derC cs v a e L,false⟩) 21 0 (.agg (derC cs' v' a' e' L')) = some ⟨false,1,derC cs' v' a' e' L',false⟩ :=
 stO_all 1 _ _ 21 (derC_length hv ..) (derC_length hv' ..) (derC_cell v' hc hL a' e')
theorem zEv_ok:vOK zEv := (rfl)
section
variable {v:Int × List Int} (hv:vOK v) (lent:Bool) (cs L:D) (a e:Int)
include hv
theorem ld_der:ldO (some ⟨false,1,derC cs v a e L,lent⟩) 21 true 0 = some (.agg (derC cs v a e L)) := ldO_all 1 lent _ 21 (derC_length hv ..)
theorem ld_der1:ldO (some ⟨false,1,derC cs v a e L,lent⟩) 17 true 1 = some (evD v) := ldO_mid (A := [cs]) (B := evC v) (C := [.int .i64 a,.int .i64 e,L]) rfl rfl (evC_length hv)
theorem ld_der18:ldO (some ⟨false,1,derC cs v a e L,lent⟩) 1 false 18 = some (.int .i64 a) := ldO_mid1 (A := cs :: evC v) (C := [.int .i64 e,L]) (by simp [derC]) (by simp [evC_length hv])
theorem ld_der19:ldO (some ⟨false,1,derC cs v a e L,lent⟩) 1 false 19 = some (.int .i64 e) := ldO_mid1 (A := cs :: (evC v ++ [.int .i64 a])) (C := [L]) (by simp [derC]) (by simp [evC_length hv])
theorem ld_der20:ldO (some ⟨false,1,derC cs v a e L,lent⟩) 1 false 20 = some L := ldO_mid1 (A := cs :: (evC v ++ [.int .i64 a,.int .i64 e])) (C := []) (by simp [derC]) (by simp [evC_length hv])
theorem st_der18 (a':Int):stO (some ⟨false,1,derC cs v a e L,false⟩) 1 18 (.int .i64 a') = some ⟨false,1,derC cs v a' e L,false⟩ :=
 stO_mid (A := cs :: evC v) (B := [.int .i64 a]) (C := [.int .i64 e,L]) (xs := [.int .i64 a']) (by simp [derC]) (by simp [derC]) (by simp [evC_length hv]) rfl rfl rfl rfl
theorem st_der19 (e':Int):stO (some ⟨false,1,derC cs v a e L,false⟩) 1 19 (.int .i64 e') = some ⟨false,1,derC cs v a e' L,false⟩ :=
 stO_mid (A := cs :: (evC v ++ [.int .i64 a])) (B := [.int .i64 e]) (C := [L]) (xs := [.int .i64 e']) (by simp [derC]) (by simp [derC]) (by simp [evC_length hv]) rfl rfl rfl rfl
theorem st_der20 (L':D) (h1:L'.cells = [L']) (h2:L'.isCell = true):stO (some ⟨false,1,derC cs v a e L,false⟩) 1 20 L' = some ⟨false,1,derC cs v a e L',false⟩ :=
 stO_mid (A := cs :: (evC v ++ [.int .i64 a,.int .i64 e])) (B := [L]) (C := []) (xs := [L']) (by simp [derC]) (by simp [derC]) (by simp [evC_length hv]) rfl h1 rfl (by simp [h2])
end
theorem z0:stO (some ⟨false,1,derC nilS zEv 0 0 nilS,false⟩) 21 0 (.agg (derC nilS zEv 0 0 nilS)) = some ⟨false,1,derC nilS zEv 0 0 nilS,false⟩ := (rfl)
theorem ld_z0:ldO (some ⟨false,1,derC nilS zEv 0 0 nilS,false⟩) 21 true 0 = some (.agg (derC nilS zEv 0 0 nilS)) := (rfl)
theorem st_der20r {v:Int × List Int} (hv:vOK v) (cs L:D) (a e:Int) (k t o n:Nat):stO (some ⟨false,1,derC cs v a e L,false⟩) 1 20 (.row k t o n) = some ⟨false,1,derC cs v a e (.row k t o n),false⟩ := st_der20 hv cs L a e _ rfl rfl
theorem ld_der0 (v:Int × List Int) (lent:Bool) (cs L:D) (a e:Int):ldO (some ⟨false,1,derC cs v a e L,lent⟩) 1 false 0 = some cs := ldO_mid1 (A := []) rfl rfl
def recG (o:Option PI.Obj):Option Int := o.bind fun o => if !o.row && o.sz == 1000003 then (match o.els with
  | [.int .i64 n] => some n
  | _ => none) else none
theorem recAt_eq (st:St) (k:Nat):recAt st k = recG st[k]? := by
 unfold recAt recG
 cases st[k]? <;> rfl
theorem recG_O (n:Int):recG (some (recO n)) = some n := (rfl)
structure okS (s:Sta):Prop where
 l:s.stack.length ≤ 4294967296
 t:s.status ≤ 1000000
def rnB (c:List Ins) (v:Int × List Int) (a e:Int) (L:D) (s:Sta) (n:Int) (ex:St):St :=
 ⟨false,1,[cdD c],false⟩ :: ⟨false,1,evC v,false⟩ :: ⟨false,1,derC nilS zEv 0 0 nilS,false⟩ :: ⟨false,1,derC (cdD c) v a e L,false⟩ :: ⟨false,1,[cdD c],false⟩ :: ⟨false,1,evC v,false⟩ :: recO n :: ⟨false,1,staC s,false⟩ :: ex
noncomputable def rnT:Tbl := tbr [(22,sp_vDig),(27,sp_result),(24,sp_tVer)] [(26,si_sts)] [(51,sy_sts)]
theorem rn_first (c:List Ins) (v:Int × List Int) (hc:c.length ≤ 4096) (hv:vOK v) (s:Sta) (hs:okS s) (fr:Frame) (h2:fr 2 = .ptr 0 0) (h3:fr 3 = .ptr 1 0) (h8:fr 8 = .ptr 3 0) (m:Nat) :
  roundY (F_derive_Run_L0.exec GG rnT m) (F_derive_Run_L1.exec GG rnT m) fr [26,27] 6 [.int .i64 0,staD s] (rnB c v 0 0 nilS s 0 []) = some (.bool true,rnB c v (resF s).1 (resF s).2.2 (.row 9 1 0 1) s 0 (⟨false,1,staC s,false⟩ :: ⟨true,32,[digC (digF c v s)].map .agg,false⟩ :: [])) := by
 refine round_of rfl rfl rfl ?_ m
 have cd := call_vDig c v s ⟨by omega,hv,hs.l⟩
 have cr := call_result s ⟨hs.l,hs.t⟩
 unfold F_derive_Run_L0 rnB
 simp (disch:=first|omega|decide) only [push_cast,↓reduceIte,Nat.reduceEqDiff,Nat.reduceAdd,setP,box_sta0,st_sta0]
 unfold F_derive_Run_L1
 have pf := fun st => papp_first1 digD st 32 0 32 (digF c v s) true (by decide) (by decide)
 simp (disch:=first|omega|decide) only [push_cast,↓reduceIte,Nat.reduceEqDiff,Nat.reduceAdd,h2,h3,h8,cdD,ld_der20 hv,ld_ev hv,ld_sta,imm_ev,imm_sta,keys_sta,cd,cr,nilS,pf,st_der18 hv,st_der19 hv,st_der20r hv,recAt_eq,recG_O,roundQ,rnT]
theorem rn_next (c:List Ins) (v:Int × List Int) (hc:c.length ≤ 4096) (hv:vOK v) (s:Sta) (hs:okS s) (L:List Dig) (hL:L.length ≤ 100000) (a e:Int) (x:PI.Obj) (ex:St) (i:Nat) (fr:Frame) (h2:fr 2 = .ptr 0 0) (h3:fr 3 = .ptr 1 0) (h8:fr 8 = .ptr 3 0) (m:Nat) :
  roundY (F_derive_Run_L0.exec GG rnT m) (F_derive_Run_L1.exec GG rnT m) fr [26,27] 6 [.int .i64 (i:Int),staD s] (rnB c v a e (.row 9 L.length 0 L.length) s 0 (x :: ⟨true,32,L.map digD,false⟩ :: ex)) =
   some (.bool true,rnB c v (resF s).1 (resF s).2.2 (.row 9 (L ++ [digF c v s]).length 0 (L ++ [digF c v s]).length) s 0 (x :: ⟨true,32,(L ++ [digF c v s]).map digD,false⟩ :: (ex ++ [stB s]))) := by
 refine round_of rfl rfl rfl ?_ m
 have cd := call_vDig c v s ⟨by omega,hv,hs.l⟩
 have cr := call_result s ⟨hs.l,hs.t⟩
 unfold F_derive_Run_L0 rnB
 have pf := fun st => apR_one digD 32 32 L (digF c v s) false true st (by decide) (by omega) (by omega)
 simp (disch:=first|omega|decide) only [push_cast,↓reduceIte,Nat.reduceEqDiff,setP,box_sta0,st_sta0,get_len,set_len]
 unfold F_derive_Run_L1
 simp (disch:=first|omega|decide) only [push_cast,↓reduceIte,Nat.reduceEqDiff,h2,h3,h8,cdD,ld_der20 hv,ld_ev hv,ld_sta,imm_ev,imm_sta,keys_sta,cd,cr,nilS,pf,st_der18 hv,st_der19 hv,st_der20r hv,recAt_eq,recG_O,roundQ,rnT,get_len]
 rfl
def lastS (l:List Sta):Sta := (l.getLast?).getD zSta
theorem lastS_cons (s s':Sta) (l:List Sta):lastS (s :: s' :: l) = lastS (s' :: l) := (rfl)
theorem rn_fold (c:List Ins) (v:Int × List Int) (hc:c.length ≤ 4096) (hv:vOK v) (fr:Frame) (h2:fr 2 = .ptr 0 0) (h3:fr 3 = .ptr 1 0) (h8:fr 8 = .ptr 3 0) (m:Nat) (x:PI.Obj):∀ (l:List Sta) (s:Sta) (L:List Dig) (a e:Int) (ex:St),
  RunOK c v (s :: l) → (∀ y ∈ s :: l,okS y) → L.length + l.length ≤ 100000 →
  RunY (roundY (F_derive_Run_L0.exec GG rnT m) (F_derive_Run_L1.exec GG rnT m) fr [26,27] 6) 7 4 5 (s :: l) L.length (rnB c v a e (.row 9 L.length 0 L.length) s 0 (x :: ⟨true,32,L.map digD,false⟩ :: ex))
   (rnB c v (resF (lastS (s :: l))).1 (resF (lastS (s :: l))).2.2 (.row 9 (L ++ (s :: l).map (digF c v)).length 0 (L ++ (s :: l).map (digF c v)).length) (lastS (s :: l)) 0 (x :: ⟨true,32,(L ++ (s :: l).map (digF c v)).map digD,false⟩ :: (ex ++ (s :: l).map stB)))
 | [],s,L,a,e,ex,hr,ho,hl => .last (rn_next c v hc hv s (ho s (by simp)) L (by simpa using hl) a e x ex L.length fr h2 h3 h8 m) rfl
 | s' :: l,s,L,a,e,ex,hr,ho,hl => by
  have h := rn_fold c v hc hv fr h2 h3 h8 m x l s' (L ++ [digF c v s]) (resF s).1 (resF s).2.2 (ex ++ [stB s]) hr.2.2.2 (fun y hy => ho y (by simp [hy])) (by simp at hl ⊢; omega)
  refine .next (rn_next c v hc hv s (ho s (by simp)) L (by simp at hl; omega) a e x ex L.length fr h2 h3 h8 m) rfl rfl rfl ?_
  rw [lastS_cons]
  have e1:L ++ (s :: s' :: l).map (digF c v) = (L ++ [digF c v s]) ++ (s' :: l).map (digF c v) := by simp
  have e2:(L ++ [digF c v s]).length = L.length + 1 := by simp
  have e3:ex ++ (s :: s' :: l).map stB = (ex ++ [stB s]) ++ (s' :: l).map stB := by simp
  rw [e1,e3,← e2]
  exact h
theorem rn_all (c:List Ins) (v:Int × List Int) (hc:c.length ≤ 4096) (hv:vOK v) (fr:Frame) (h2:fr 2 = .ptr 0 0) (h3:fr 3 = .ptr 1 0) (h8:fr 8 = .ptr 3 0) (m:Nat) (l:List Sta) (s:Sta) (hr:RunOK c v (s :: l)) (ho:∀ y ∈ s :: l,okS y) (hl:l.length ≤ 90000) :
  RunY (roundY (F_derive_Run_L0.exec GG rnT m) (F_derive_Run_L1.exec GG rnT m) fr [26,27] 6) 7 4 5 (s :: l) 0 (rnB c v 0 0 nilS s 0 [])
   (rnB c v (resF (lastS (s :: l))).1 (resF (lastS (s :: l))).2.2 (.row 9 ((s :: l).map (digF c v)).length 0 ((s :: l).map (digF c v)).length) (lastS (s :: l)) 0 (⟨false,1,staC s,false⟩ :: ⟨true,32,((s :: l).map (digF c v)).map digD,false⟩ :: l.map stB)) := by
 have h1 := rn_first c v hc hv s (ho s (by simp)) fr h2 h3 h8 m
 cases l with
 | nil => exact .last h1 rfl
 | cons s' l => exact .next h1 rfl rfl rfl (rn_fold c v hc hv fr h2 h3 h8 m ⟨false,1,staC s,false⟩ l s' [digF c v s] (resF s).1 (resF s).2.2 [] hr.2.2.2 (fun y hy => ho y (by simp [hy])) (by simp at hl ⊢; omega))
def zDer:Der := ⟨[],zEv,0,0,[]⟩
def runF (c:List Ins) (v:Int × List Int):Der := if (verifyF c).2 = 0 then ⟨c,v,(resF (lastS (traceL c v))).1,(resF (lastS (traceL c v))).2.2,(traceL c v).map (digF c v)⟩ else zDer
theorem immL_solid (st:St):∀ {A:List D} (B:List D),A.all solid1 = true → immL st (A ++ B) = (immL st B).map (A ++ ·)
 | [],B,_ => by simp
 | d :: A,B,h => by
  simp only [List.all_cons,Bool.and_eq_true] at h
  rw [List.cons_append,immL,solid1_imm st h.1,immL_solid st B h.2]
  cases immL st B <;> rfl
theorem evC_solid (v:Int × List Int):(evC v).all solid1 = true := by
 rw [evC_ints]; exact ints_solid (v.1 :: v.2)
theorem imm_derL (st:St) (cs cs' L L':D) (v:Int × List Int) (a e:Int) (h1:imm1 st cs = some cs') (h2:imm1 st L = some L'):imm st (.agg (derC cs v a e L)) = some (.agg (derC cs' v a e L')) := by
 simp only [imm,derC,immL,h1,immL_solid st _ (evC_solid v),h2,imm1_int,Option.map_some]
theorem imm_derR (st:St) (c:List Ins) (v:Int × List Int) (a e:Int) (L:List Dig) (k:Nat) (lent:Bool) (hk:st[k]? = some ⟨true,32,L.map digD,lent⟩):imm st (.agg (derC (cdD c) v a e (.row k L.length 0 L.length))) = some (derD ⟨c,v,a,e,L⟩) := by
 refine imm_derL st _ _ _ _ v a e (by simp only [cdD,imm1,nz_nz]) ?_
 have h1:rowEls st k L.length 0 L.length = some (32,L.map digD) := by
  rw [rowEls_eq,hk]; exact reR_all digD 32 L lent
 simp only [imm1,h1,Option.map_some]
 rfl
theorem imm_der0 (st:St):imm st (.agg (derC nilS zEv 0 0 nilS)) = some (derD zDer) := (rfl)
theorem imm_der (st:St) (d:Der):imm st (derD d) = some (derD d) := imm_derL st _ _ _ _ _ _ _ (by simp only [cdD,imm1,nz_nz]) (by simp only [lvD,imm1,nz_nz])
theorem good_ok {c:List Ins} {D:Nat → Int} (hD:DepOK c 64 0 D) {x:Sta} (h:Good c D x ∨ Last x):okS x := by
 rcases h with h | h
 ·exact ⟨by have := h.len hD; omega,by have := h.st; omega⟩
 ·exact ⟨by have := h.l; omega,by have := h.s1; omega⟩
noncomputable def sp_run:List D → Option D := spOf (α := List Ins × (Int × List Int)) (fun a => [.slc (nz 3 (a.1.map insD)) (a.1.map insD) false,evD a.2]) (fun a => a.1.length ≤ 9223372036854775807 ∧ vOK a.2) (fun a => .tup [derD (runF a.1 a.2),.int .i64 (verifyF a.1).2])
theorem call_run (c:List Ins) (v:Int × List Int) (h:c.length ≤ 9223372036854775807 ∧ vOK v):sp_run [.slc (nz 3 (c.map insD)) (c.map insD) false,evD v] = some (.tup [derD (runF c v),.int .i64 (verifyF c).2]) :=
 spOf_enc (fun ⟨a0,a1⟩ ⟨b0,b1⟩ h => by simp only [List.cons.injEq,D.slc.injEq,and_true,code_iff,evD_iff] at h; simp [h]) (c,v) h
theorem w_run (c:List Ins) (v:Int × List Int) (h:c.length ≤ 9223372036854775807 ∧ vOK v):@wW GG rnT F_derive_Run.code (argF [cdD c,evD v]) [] ⟨retQ F_derive_Run.res (.tup [derD (runF c v),.int .i64 (verifyF c).2])⟩ := by
 obtain ⟨hc,hv⟩ := h
 have cv := call_tVer c hc
 have cs := call_sts c v [⟨false,1,[.slc (nz 3 (c.map insD)) (c.map insD) false],false⟩,⟨false,1,evC v,false⟩,⟨false,1,derC nilS zEv 0 0 nilS,false⟩,⟨false,1,derC (.slc (nz 3 (c.map insD)) (c.map insD) false) v 0 0 nilS,false⟩] hv
 simp only [cdD] at cs
 unfold F_derive_Run
 by_cases h1:(verifyF c).2 = 0
 ·obtain ⟨Dm,l,hD,ht,hr,hll,hg⟩ := trace_ok (v := v) h1
  obtain ⟨hc2,_⟩ := verify_ok h1
  rw [show runF c v = ⟨c,v,(resF (lastS (traceL c v))).1,(resF (lastS (traceL c v))).2.2,(traceL c v).map (digF c v)⟩ from if_pos h1,ht]
  have sd:∀ (sz:Nat) (els:List D) (t:Bool),stO (some ⟨false,1,derC nilS zEv 0 0 nilS,false⟩) 21 0 (.agg (derC (.slc sz els t) v 0 0 nilS)) = some ⟨false,1,derC (.slc sz els t) v 0 0 nilS,false⟩ := fun sz els t => st_der zEv_ok hv nilS _ rfl 0 0 0 0 nilS nilS rfl
  simp (disch:=first|omega|decide) only [push_cast,↓reduceIte,Nat.reduceEqDiff,Nat.reduceAdd,rnT,cdD,box_ev,box_21,cv,h1,ld_ev hv,fill_d2 hv,sd,cs]
  refine W_range (e := .next) (st' := rnB c v (resF (lastS (startF ((c.length:Int) + 1) :: l))).1 (resF (lastS (startF ((c.length:Int) + 1) :: l))).2.2 (.row 9 ((startF ((c.length:Int) + 1) :: l).map (digF c v)).length 0 ((startF ((c.length:Int) + 1) :: l).map (digF c v)).length) (lastS (startF ((c.length:Int) + 1) :: l)) 0 (⟨false,1,staC (startF ((c.length:Int) + 1)),false⟩ :: ⟨true,32,((startF ((c.length:Int) + 1) :: l).map (digF c v)).map digD,false⟩ :: l.map stB)) (d := .tup []) (by simp only [push_cast,↓reduceIte] <;> rfl) (by decide) (by rfl) (fun m => ?_) rfl ?_
  ·refine sy_some ⟨4,5,c,v,l,false,false,rfl,rfl,rfl,hc2,hv,by omega,hr,rfl,?_⟩
   exact rn_all c v hc2 hv _ rfl rfl rfl m l _ hr (fun y hy => good_ok hD (hg y hy)) (by omega)
  ·unfold rnB
   have hgo:∀ (Lv:List Dig) (o6 o7:PI.Obj) (ex:St) (a e:Int),imm (⟨false,1,[cdD c],false⟩ :: ⟨false,1,evC v,false⟩ :: ⟨false,1,derC (cdD c) v a e (.row 9 Lv.length 0 Lv.length),false⟩ :: ⟨false,1,derC (cdD c) v a e (.row 9 Lv.length 0 Lv.length),false⟩ :: ⟨false,1,[cdD c],false⟩ :: ⟨false,1,evC v,false⟩ :: recO 2 :: o6 :: o7 :: ⟨true,32,Lv.map digD,false⟩ :: ex) (.agg (derC (cdD c) v a e (.row 9 Lv.length 0 Lv.length))) = some (derD ⟨c,v,a,e,Lv⟩) :=
    fun Lv o6 o7 ex a e => imm_derR _ c v a e Lv 9 false rfl
   have sr:∀ (k t o n:Nat) (a e:Int),stO (some ⟨false,1,derC nilS zEv 0 0 nilS,false⟩) 21 0 (.agg (derC (cdD c) v a e (.row k t o n))) = some ⟨false,1,derC (cdD c) v a e (.row k t o n),false⟩ := fun k t o n a e => st_der zEv_ok hv nilS _ rfl 0 0 _ _ nilS _ rfl
   generalize (startF ((c.length:Int) + 1) :: l).map (digF c v) = Lv
   generalize resF (lastS (startF ((c.length:Int) + 1) :: l)) = R
   simp (disch:=first|omega|decide) only [push_cast,↓reduceIte,Nat.reduceEqDiff,Nat.reduceAdd,ld_der hv,sr,hgo,h1]
 ·rw [show runF c v = zDer from if_neg h1]
  simp (disch:=first|omega|decide) only [push_cast,↓reduceIte,Nat.reduceEqDiff,Nat.reduceAdd,rnT,cdD,box_ev,box_21,cv,h1,fill_21,z0,ld_z0,imm_der0]
theorem c_run:Contract Tryd.prog GG 9 sp_run :=
 contract_of (T := rnT) tr_derive_Run (tbr_ok (all_cons c_vDig (all_cons c_result (all_cons c_tVer all_nil))) (all_cons ci_sts all_nil) (all_cons cy_sts all_nil)) (fun a h => w_run a.1 a.2 h)
end Go.Proofs.YtlleccmnjpcogaaDoor.PI
namespace Go.Proofs.YtlleccmnjpcogaaDoor.PI
open Go
set_option linter.unusedSimpArgs false
set_option maxHeartbeats 8000000
set_option maxRecDepth 20000
set_option linter.unusedVariables false
theorem box_der (d:Der):boxD (derD d) = some (derC (cdD d.code) d.env d.am d.er (lvD d.lv)) := by
 rw [show boxD (derD d) = if (derC (cdD d.code) d.env d.am d.er (lvD d.lv)).all D.isCell then some (derC (cdD d.code) d.env d.am d.er (lvD d.lv)) else none from rfl,if_pos (derC_cell _ rfl rfl _ _)]
def staF (c:List Ins) (v:Int × List Int) (n:Int):Sta × Int := if (verifyF c).2 = 0 then (if n < 0 then (zSta,1) else match (traceL c v)[n.toNat]? with
 | some s => (s,0)
 | none => (zSta,1)) else (zSta,(verifyF c).2)
def stZ:List D := [.int .i64 0,.int .i64 0,.int .i64 0,.int .i64 0,.slc 0 [] true]
theorem box_stZ:boxD (.agg [.int .i64 0,.int .i64 0,.int .i64 0,.int .i64 0,.slc 0 [] true]) = some stZ := (rfl)
theorem st_stZ (s:Sta):stO (some ⟨false,1,stZ,false⟩) 5 0 (staD s) = some ⟨false,1,staC s,false⟩ := (rfl)
theorem st_stZ0:stO (some ⟨false,1,stZ,false⟩) 5 0 (.agg [.int .i64 0,.int .i64 0,.int .i64 0,.int .i64 0,.slc 0 [] true]) = some ⟨false,1,stZ,false⟩ := (rfl)
theorem ld_stZ (lent:Bool):ldO (some ⟨false,1,stZ,lent⟩) 5 true 0 = some (.agg [.int .i64 0,.int .i64 0,.int .i64 0,.int .i64 0,.slc 0 [] true]) := (rfl)
def saB (d:Der) (n:Int) (r:List D) (e:Int) (s:Sta) (k:Int) (ex:St):St :=
 ⟨false,1,derC (cdD d.code) d.env d.am d.er (lvD d.lv),false⟩ :: ⟨false,1,[.int .i64 n],false⟩ :: ⟨false,1,r,false⟩ :: ⟨false,1,[.int .i64 e],false⟩ :: ⟨false,1,[cdD d.code],false⟩ :: ⟨false,1,evC d.env,false⟩ :: recO k :: ⟨false,1,staC s,false⟩ :: ex
noncomputable def saT:Tbl := tbr [(24,sp_tVer)] [(26,si_sts)] [(51,sy_sts)]
theorem sa_no (d:Der) (n:Int) (s:Sta) (r:List D) (e:Int) (ex:St) (i:Nat) (hi:¬ (i:Int) = n) (fr:Frame) (h3:fr 3 = .ptr 1 0) (h4:fr 4 = .ptr 2 0) (h5:fr 5 = .ptr 3 0) (m:Nat) :
  roundY (F_derive_State_L0.exec GG saT m) (F_derive_State_L1.exec GG saT m) fr [25,26] 6 [.int .i64 (i:Int),staD s] (saB d n r e s 0 ex) = some (.bool true,saB d n r e s 0 (ex ++ [stB s])) := by
 refine round_of rfl rfl rfl ?_ m
 unfold F_derive_State_L0 saB
 simp (disch:=first|omega|decide) only [push_cast,↓reduceIte,Nat.reduceEqDiff,setP,box_sta0,st_sta0,get_len,set_len]
 unfold F_derive_State_L1
 simp (disch:=first|omega|decide) only [push_cast,↓reduceIte,Nat.reduceEqDiff,h3,recAt_eq,recG_O,roundQ,saT,hi]
 rfl
theorem sa_yes (d:Der) (s:Sta) (ex:St) (i:Nat) (fr:Frame) (h3:fr 3 = .ptr 1 0) (h4:fr 4 = .ptr 2 0) (h5:fr 5 = .ptr 3 0) (m:Nat) :
  roundY (F_derive_State_L0.exec GG saT m) (F_derive_State_L1.exec GG saT m) fr [25,26] 6 [.int .i64 (i:Int),staD s] (saB d (i:Int) stZ 0 s 0 ex) = some (.bool false,saB d (i:Int) (staC s) 0 s 1 (ex ++ [stB s])) := by
 refine round_of rfl rfl rfl ?_ m
 unfold F_derive_State_L0 saB
 simp (disch:=first|omega|decide) only [push_cast,↓reduceIte,Nat.reduceEqDiff,setP,box_sta0,st_sta0,get_len,set_len]
 unfold F_derive_State_L1
 simp (disch:=first|omega|decide) only [push_cast,↓reduceIte,Nat.reduceEqDiff,h3,h4,h5,recAt_eq,recG_O,roundQ,saT,get_len,ld_sta,st_stZ]
 rfl
def saEnd (d:Der) (n:Int) (l:List Sta) (i:Nat) (ex:St):St := match l with
 | [] => []
 | s :: l => if (i:Int) = n then saB d n (staC s) 0 s 1 (ex ++ [stB s]) else match l with
  | [] => saB d n stZ 0 s 0 (ex ++ [stB s])
  | s' :: l => saEnd d n (s' :: l) (i + 1) (ex ++ [stB s])
theorem sa_fold (d:Der) (hv:vOK d.env) (n:Int) (fr:Frame) (h3:fr 3 = .ptr 1 0) (h4:fr 4 = .ptr 2 0) (h5:fr 5 = .ptr 3 0) (m:Nat):∀ (l:List Sta) (s:Sta) (i:Nat) (ex:St),
  RunY (roundY (F_derive_State_L0.exec GG saT m) (F_derive_State_L1.exec GG saT m) fr [25,26] 6) 7 4 5 (s :: l) i (saB d n stZ 0 s 0 ex) (saEnd d n (s :: l) i ex)
 | l,s,i,ex => by
  by_cases hi:(i:Int) = n
  ·subst hi
   rw [show saEnd d (i:Int) (s :: l) i ex = saB d (i:Int) (staC s) 0 s 1 (ex ++ [stB s]) by unfold saEnd; rw [if_pos rfl]]
   exact .stop (sa_yes d s ex i fr h3 h4 h5 m)
  ·match l with
   | [] =>
    rw [show saEnd d n [s] i ex = saB d n stZ 0 s 0 (ex ++ [stB s]) by unfold saEnd; rw [if_neg hi]]
    exact .last (sa_no d n s stZ 0 ex i hi fr h3 h4 h5 m) rfl
   | s' :: l =>
    rw [show saEnd d n (s :: s' :: l) i ex = saEnd d n (s' :: l) (i + 1) (ex ++ [stB s]) by rw [saEnd,if_neg hi]]
    exact .next (sa_no d n s stZ 0 ex i hi fr h3 h4 h5 m) rfl rfl rfl (sa_fold d hv n fr h3 h4 h5 m l s' (i + 1) (ex ++ [stB s]))
theorem saEnd_eq (d:Der) (n:Int):∀ (l:List Sta) (s:Sta) (i:Nat) (ex:St),(∃ k s',n = (i:Int) + (k:Nat) ∧ (s :: l)[k]? = some s' ∧ ∃ ex',saEnd d n (s :: l) i ex = saB d n (staC s') 0 s' 1 ex') ∨
  ((n < i ∨ (i:Int) + ((s :: l).length:Nat) ≤ n) ∧ ∃ s' ex',saEnd d n (s :: l) i ex = saB d n stZ 0 s' 0 ex')
 | l,s,i,ex => by
  by_cases hi:(i:Int) = n
  ·exact .inl ⟨0,s,by omega,rfl,ex ++ [stB s],by unfold saEnd; rw [if_pos hi]⟩
  ·match l with
   | [] => exact .inr ⟨by simp; omega,s,ex ++ [stB s],by unfold saEnd; rw [if_neg hi]⟩
   | s' :: l =>
    rw [show saEnd d n (s :: s' :: l) i ex = saEnd d n (s' :: l) (i + 1) (ex ++ [stB s]) by rw [saEnd,if_neg hi]]
    rcases saEnd_eq d n l s' (i + 1) (ex ++ [stB s]) with ⟨k,x,h1,h2,h3⟩ | ⟨h1,h2⟩
    ·exact .inl ⟨k + 1,x,by omega,by simpa using h2,h3⟩
    ·exact .inr ⟨by simp only [List.length_cons] at h1 ⊢; omega,h2⟩
noncomputable def sp_state:List D → Option D := spOf (α := Der × Int) (fun a => [derD a.1,.int .i64 a.2]) (fun a => a.1.code.length ≤ 9223372036854775807 ∧ vOK a.1.env) (fun a => .tup [staD (staF a.1.code a.1.env a.2).1,.int .i64 (staF a.1.code a.1.env a.2).2])
theorem call_state (d:Der) (n:Int) (h:d.code.length ≤ 9223372036854775807 ∧ vOK d.env):sp_state [derD d,.int .i64 n] = some (.tup [staD (staF d.code d.env n).1,.int .i64 (staF d.code d.env n).2]) :=
 spOf_enc (fun ⟨a0,a1⟩ ⟨b0,b1⟩ h => by simp only [List.cons.injEq,D.int.injEq,true_and,and_true,derD_iff] at h; simp [h]) (d,n) h
theorem w_state (d:Der) (n:Int) (h:d.code.length ≤ 9223372036854775807 ∧ vOK d.env):@wW GG saT F_derive_State.code (argF [derD d,.int .i64 n]) [] ⟨retQ F_derive_State.res (.tup [staD (staF d.code d.env n).1,.int .i64 (staF d.code d.env n).2])⟩ := by
 obtain ⟨hc,hv⟩ := h
 have cv := call_tVer d.code hc
 have cs := call_sts d.code d.env [⟨false,1,derC (cdD d.code) d.env d.am d.er (lvD d.lv),false⟩,⟨false,1,[.int .i64 n],false⟩,⟨false,1,stZ,false⟩,⟨false,1,[.int .i64 0],false⟩] hv
 have l0:∀ lent,ldO (some ⟨false,1,derC (cdD d.code) d.env d.am d.er (lvD d.lv),lent⟩) 1 false 0 = some (.slc (nz 3 (d.code.map insD)) (d.code.map insD) false) := fun lent => ld_der0 d.env lent (cdD d.code) (lvD d.lv) d.am d.er
 have l1 := fun lent => ld_der1 hv lent (cdD d.code) (lvD d.lv) d.am d.er
 rw [show si_sts [cdD d.code,evD d.env] = si_sts [.slc (nz 3 (d.code.map insD)) (d.code.map insD) false,evD d.env] from rfl] at cs
 unfold F_derive_State
 by_cases h1:(verifyF d.code).2 = 0
 ·obtain ⟨Dm,l,hD,ht,hr,hll,hg⟩ := trace_ok (v := d.env) h1
  obtain ⟨hc2,_⟩ := verify_ok h1
  simp (disch:=first|omega|decide) only [push_cast,↓reduceIte,Nat.reduceEqDiff,Nat.reduceAdd,saT,box_der,box_stZ,cv,h1,l0,l1,cs]
  have hst:∀ x,staF d.code d.env n = x ↔ (if n < 0 then (zSta,1) else match (startF ((d.code.length:Int) + 1) :: l)[n.toNat]? with
   | some s => (s,(0:Int))
   | none => (zSta,1)) = x := fun x => by unfold staF; rw [if_pos h1,ht]
  rcases saEnd_eq d n l (startF ((d.code.length:Int) + 1)) 0 [] with ⟨k,s',hn,hk,ex',he⟩ | ⟨hn,s',ex',he⟩
  ·refine W_range (e := .ret) (st' := saB d n (staC s') 0 s' 1 ex') (d := .tup []) (by simp only [push_cast,↓reduceIte] <;> rfl) (by decide) (by rfl) (fun m => ?_) rfl ?_
   ·refine sy_some ⟨4,5,d.code,d.env,l,false,false,rfl,rfl,rfl,hc2,hv,by omega,hr,rfl,?_⟩
    rw [← he]
    exact sa_fold d hv n _ rfl rfl rfl m l _ 0 []
   ·rw [(hst (s',0)).2 (by rw [if_neg (by omega),show n.toNat = k by omega,hk])]
    unfold saB
    simp (disch:=first|omega|decide) only [push_cast,↓reduceIte,Nat.reduceEqDiff,Nat.reduceAdd,ld_sta,imm_sta]
  ·refine W_range (e := .next) (st' := saB d n stZ 0 s' 0 ex') (d := .tup []) (by simp only [push_cast,↓reduceIte] <;> rfl) (by decide) (by rfl) (fun m => ?_) rfl ?_
   ·refine sy_some ⟨4,5,d.code,d.env,l,false,false,rfl,rfl,rfl,hc2,hv,by omega,hr,rfl,?_⟩
    rw [← he]
    exact sa_fold d hv n _ rfl rfl rfl m l _ 0 []
   ·have e1:staF d.code d.env n = (zSta,1) := (hst _).2 (by
     split
     ·rfl
     ·rw [List.getElem?_eq_none (by omega)])
    rw [e1]
    unfold saB
    simp (disch:=first|omega|decide) only [push_cast,↓reduceIte,Nat.reduceEqDiff,Nat.reduceAdd,fill_s0,st_stZ0,ld_stZ]
    rfl
 ·rw [show staF d.code d.env n = (zSta,(verifyF d.code).2) from if_neg h1]
  simp (disch:=first|omega|decide) only [push_cast,↓reduceIte,Nat.reduceEqDiff,Nat.reduceAdd,saT,box_der,box_stZ,cv,h1,l0,fill_s0,st_stZ0,ld_stZ]
  rfl
theorem c_state:Contract Tryd.prog GG 16 sp_state :=
 contract_of (T := saT) tr_derive_State (tbr_ok (all_cons c_tVer all_nil) (all_cons ci_sts all_nil) (all_cons cy_sts all_nil)) (fun a h => w_state a.1 a.2 h)
end Go.Proofs.YtlleccmnjpcogaaDoor.PI
namespace Go.Proofs.YtlleccmnjpcogaaDoor.PI
open Go
set_option linter.unusedSimpArgs false
set_option linter.unusedVariables false
theorem getR (S l:St) (k:Nat):(S ++ l)[S.length + k]? = l[k]? := by
 rw [List.getElem?_append_right (by omega)]; congr 1; omega
theorem getR0 (S l:St):(S ++ l)[S.length]? = l[0]? := getR S l 0
theorem setR (S l:St) (k:Nat) (x:PI.Obj):(S ++ l).set (S.length + k) x = S ++ l.set k x := by
 rw [List.set_append_right _ _ (by omega)]; congr 2; omega
theorem setR0 (S l:St) (x:PI.Obj):(S ++ l).set S.length x = S ++ l.set 0 x := setR S l 0 x
theorem raws_cell (fr:Frame) (st:St) (t n:Nat) (ag:Bool) (l:List PRes):raws ⟨fr,st⟩ (.cell t n ag :: l) = (pload st n ag (fr t)).bind fun d => (raws ⟨fr,st⟩ l).map (d :: ·) := by
 simp only [raws]
 cases pload st n ag (fr t) <;> cases raws ⟨fr,st⟩ l <;> rfl
def clD (p:Dig × Dig):D := .agg (digC p.1 ++ digC p.2)
theorem clD_iff {a b:Dig × Dig}:clD a = clD b ↔ a = b := by
 refine ⟨fun h => ?_,fun h => by rw [h]⟩
 obtain ⟨a1,a2⟩ := a
 obtain ⟨b1,b2⟩ := b
 simp only [clD,D.agg.injEq] at h
 obtain ⟨h1,h2⟩ := List.append_inj h (by rw [digC_length,digC_length])
 rw [digC_iff.1 h1,digC_iff.1 h2]
theorem cl_cell (p:Dig × Dig):(digC p.1 ++ digC p.2).all D.isCell = true := by
 rw [List.all_append,digC_all (fun _ => rfl),digC_all (fun _ => rfl)]; rfl
theorem cl_length (p:Dig × Dig):(digC p.1 ++ digC p.2).length = 64 := by simp [digC_length]
theorem box_cl (p:Dig × Dig):boxD (clD p) = some (digC p.1 ++ digC p.2) := by
 rw [show boxD (clD p) = if (digC p.1 ++ digC p.2).all D.isCell then some (digC p.1 ++ digC p.2) else none from rfl,if_pos (cl_cell p)]
theorem ld_cl (lent:Bool) (p:Dig × Dig):ldO (some ⟨false,1,digC p.1 ++ digC p.2,lent⟩) 64 true 0 = some (clD p) := ldO_all 1 lent _ 64 (cl_length p)
theorem cl_0 (p:Dig × Dig):pidxV 2 32 true (clD p) (.int .i64 0) = some (digD p.1) :=
 fldv_mid (A := []) (B := digC p.1) (C := digC p.2) rfl rfl (digC_length _)
theorem cl_1 (p:Dig × Dig):pidxV 2 32 true (clD p) (.int .i64 1) = some (digD p.2) :=
 fldv_mid (A := digC p.1) (B := digC p.2) (C := []) (by rw [List.append_nil]) (digC_length _) (digC_length _)
theorem cl_solid (p:Dig × Dig):solid (clD p) = true := by
 simp only [clD,solid,List.all_append]
 rw [show (digC p.1).all solid1 = true from digD_solid _,show (digC p.2).all solid1 = true from digD_solid _]; rfl
theorem hk_cl (p:Dig × Dig):hk (clD p) = [] := solid_hk (cl_solid p)
theorem ren_cl (n:Nat) (σ:List Nat) (p:Dig × Dig):ren n σ (clD p) = clD p := solid_ren n σ (cl_solid p)
def verD (p:Int × Dig):D := .agg (.int .i64 p.1 :: digC p.2)
def judgeF (cl:Dig × Dig) (d:Dig):Int := if cl.1 = d then 0 else if cl.2 = d then 1 else -1
def verdF (cl:Dig × Dig) (r:Dig × Int):Int × Dig := if r.2 = 0 then (judgeF cl r.1,r.1) else (0,zeroDig)
def boxC (cl:Dig × Dig):PI.Obj := ⟨false,1,digC cl.1 ++ digC cl.2,false⟩
def boxV (p:Int × Dig):PI.Obj := ⟨false,1,.int .i64 p.1 :: digC p.2,false⟩
def judgeR (f:Nat) (sp:List D → St → Option (D × St)) (ds:List D) (st:St) (r:D × St):Prop := ∃ (cl:Dig × Dig) (caps:List D) (d:Dig) (e:Int),StOK st ∧ ds = [clD cl,.clo f caps] ∧
 sp caps (st ++ [boxC cl,boxV (0,zeroDig)]) = some (.tup [digD d,.int .i64 e],st ++ [boxC cl,boxV (0,zeroDig)]) ∧ r = (.tup [verD (verdF cl (d,e)),.int .i64 e],st)
theorem judge_fun (f:Nat) (sp:List D → St → Option (D × St)):Fun1 (judgeR f sp) := by
 rintro ds st r r' ⟨cl,caps,d,e,_,rfl,h2,rfl⟩ ⟨cl',caps',d',e',_,h,h2',rfl⟩
 simp only [List.cons.injEq,D.clo.injEq,and_true,true_and,clD_iff] at h
 obtain ⟨rfl,rfl⟩ := h
 rw [h2] at h2'
 simp only [Option.some.injEq,Prod.mk.injEq,D.tup.injEq,List.cons.injEq,dig_iff,D.int.injEq,true_and,and_true] at h2'
 obtain ⟨rfl,rfl⟩ := h2'
 rfl
noncomputable def si_judge (f:Nat) (sp:List D → St → Option (D × St)):List D → St → Option (D × St) := relI (judgeR f sp)
theorem solidO_ok {S:St} (h:StOK S) (l:St) (hl:∀ o ∈ l,o.els.all solid1 = true):StOK (S ++ l) :=
 h.app _ fun o ho _ x hx => solid_ren _ _ (solid1_solid (List.all_eq_true.1 (hl o ho) x hx))
theorem digC_solid1 (d:Dig):(digC d).all solid1 = true := digD_solid d
theorem boxC_solid (cl:Dig × Dig):(boxC cl).els.all solid1 = true := by
 simp only [boxC,List.all_append,digC_solid1]; rfl
theorem boxV_solid (p:Int × Dig):(boxV p).els.all solid1 = true := by
 simp only [boxV,List.all_cons,digC_solid1]; rfl
theorem cut_S {S l:St} (h:StOK S):cut S.length (S ++ l) = S := cut_ok h rfl
theorem lowR_ver (n:Nat) (a:Int) (d:Dig) (e:Int):lowR n (.tup [.agg (.int .i64 a :: digC d),.int .i64 e]) = .tup [.agg (.int .i64 a :: digC d),.int .i64 e] := by
 have h:low n (.agg (.int .i64 a :: digC d)) = .agg (.int .i64 a :: digC d) := by
  rw [← ren_low]; exact solid_ren n [] (d := .agg (.int .i64 a :: digC d)) (by simp only [solid,List.all_cons,digC_solid1]; rfl)
 simp only [lowR,List.map_cons,List.map_nil,h]
 rfl
theorem st_ver (p:Int × Dig) (a:Int) (d:Dig):stO (some (boxV p)) 33 0 (.agg (.int .i64 a :: digC d)) = some (boxV (a,d)) :=
 stO_all 1 _ _ 33 (by simp [digC_length]) (by simp [digC_length]) (by rw [List.all_cons,digC_all (fun _ => rfl)]; rfl)
theorem ld_ver (p:Int × Dig):ldO (some (boxV p)) 33 true 0 = some (verD p) := ldO_all 1 false _ 33 (by simp [digC_length])
theorem ld_clB (cl:Dig × Dig):ldO (some (boxC cl)) 64 true 0 = some (clD cl) := ld_cl false cl
theorem fill_ver (a:Int) (d:Dig):fillD (.int .i64 0 :: digC zeroDig) [(0,1,.int .i64 a),(1,32,digD d)] = some (.int .i64 a :: digC d) := by
 refine (fill_mid (cs := .int .i64 0 :: digC zeroDig) (cs' := .int .i64 a :: digC zeroDig) (A := []) (B := [.int .i64 0]) (xs := [.int .i64 a]) rfl rfl rfl rfl rfl rfl rfl).trans ?_
 refine (fill_mid (cs := .int .i64 a :: digC zeroDig) (cs' := .int .i64 a :: digC d) (A := [.int .i64 a]) (B := digC zeroDig) (C := []) (xs := digC d) (by simp) (by simp) rfl (digC_length _) rfl (digC_length _) (digC_all (fun _ => rfl) d)).trans ?_
 rfl
theorem ver_low (n:Nat) (p:Int × Dig) (e:Int):lowR n (.tup [verD p,.int .i64 e]) = .tup [verD p,.int .i64 e] := lowR_ver n p.1 p.2 e
set_option maxHeartbeats 4000000 in
set_option maxRecDepth 20000 in
theorem ci_judge (f:Nat) (hf:f < 5000000) (sp:List D → St → Option (D × St)) (hc:IContract Tryd.prog GG f sp):IContract Tryd.prog GG 37 (si_judge f sp) := by
 refine icontract_on (T := tb [] [(f,sp)]) tr_arbiter_judge (tb_ok all_nil (all_cons hc all_nil)) ?_
 intro ds st r hr
 obtain ⟨cl,caps,d,e,hok,rfl,h2,rfl⟩ := relI_inv hr
 unfold F_arbiter_judge
 have hT:(tb [] [(f,sp)]).i f = some sp := by rw [tb_i,look_cons,if_pos rfl]
 have hcl:cloD (tb [] [(f,sp)]) (.clo f caps) = some (sp,[],caps) := by rw [cloD_fn _ _ _ hf,hT]; rfl
 have hz:(.int .i64 0 :: digC zeroDig:List D) = (.int .i64 0 :: digC zeroDig:List D) := rfl
 simp (disch:=first|omega|decide) only [push_cast,↓reduceIte,Nat.reduceEqDiff,Int.reduceNeg,box_cl,hcl,List.append_assoc,List.cons_append,List.nil_append]
 rw [show st ++ [⟨false,1,digC cl.1 ++ digC cl.2,false⟩,⟨false,1,.int .i64 0 :: digC zeroDig,false⟩] = st ++ [boxC cl,boxV (0,zeroDig)] from rfl,h2]
 simp (disch:=first|omega|decide) only [push_cast,↓reduceIte,Nat.reduceEqDiff,Nat.reduceAdd,Int.reduceNeg,List.append_assoc,List.cons_append,List.nil_append,List.length_append,List.length_cons,List.length_nil,Nat.zero_add,Nat.reduceAdd,getR,setR]
 by_cases he:e = 0
 ·subst he
  have hS3:StOK (st ++ [boxC cl,boxV (0,zeroDig),⟨false,1,digC d,false⟩]) := solidO_ok hok _ (fun o ho => by
   simp only [List.mem_cons,List.not_mem_nil,or_false] at ho
   rcases ho with rfl | rfl | rfl
   ·exact boxC_solid cl
   ·exact boxV_solid _
   ·exact digC_solid1 d)
  have hl3:(st ++ [boxC cl,boxV (0,zeroDig),⟨false,1,digC d,false⟩]).length = st.length + 3 := by simp
  have k1:st.length + 1 < st.length + 3 := by omega
  have k2:st.length + 2 < st.length + 3 := by omega
  have hR:∀ (fr:Frame) (l:St),(headK fr [4,6,19,20]).all (fun k => decide (k < st.length + 3)) = true → restrict [4,6,19,20] (st ++ [boxC cl,boxV (0,zeroDig),⟨false,1,digC d,false⟩]).length ⟨fr,st ++ boxC cl :: boxV (0,zeroDig) :: ⟨false,1,digC d,false⟩ :: l⟩ = ⟨mkF (headF fr (st.length + 3) [] [4,6,19,20]),st ++ [boxC cl,boxV (0,zeroDig),⟨false,1,digC d,false⟩]⟩ := fun fr l h => by
   have := restrict_dropl (keep := [4,6,19,20]) (fr := fr) (l := l) hS3 hl3.symm (fun k hk => of_decide_eq_true (List.all_eq_true.1 h k hk))
   rw [List.append_assoc] at this
   rw [hl3]
   exact this
  have hR' := hR
  simp only [hl3] at hR'
  simp (disch:=first|omega|decide) only [push_cast,↓reduceIte,Nat.reduceEqDiff,Int.reduceNeg,getR0,ld_clB]
  refine W_while (fun i:Nat => [(4,.ptr (st.length + 1) 0),(6,.ptr (st.length + 2) 0),(19,clD cl),(20,.int .i64 (i:Int))]) (fun _ => st ++ [boxC cl,boxV (0,zeroDig),⟨false,1,digC d,false⟩])
   (fun i => i ≤ 2 ∧ (0 < i → ¬ cl.1 = d) ∧ (1 < i → ¬ cl.2 = d)) (fun i => 2 - i) 0 ?_ ⟨by omega,fun h => absurd h (by omega),fun h => absurd h (by omega)⟩ ?_
  ·simp (disch := first | omega | decide | (simp only [push_cast,↓wF_free,↓reduceIte,Nat.reduceEqDiff,Nat.reduceLT,Nat.reduceLeDiff,Nat.reduceAdd,Nat.reduceSub,Nat.reduceMul,Nat.reduceBEq,Int.reduceLT,Int.reduceLE,Int.reduceToNat,Int.reduceNeg,Int.reducePow,Int.reduceAdd,Int.reduceMul,Int.reduceSub,↓Int.reduceNatCast',hk_cl,k1,k2,decide_true]; done)) only [push_cast,↓reduceIte,Nat.reduceEqDiff,↓Int.reduceNatCast',↓hR,ren_cl,renK_lt]
  rintro i ⟨hi,h0,h1⟩
  unfold F_arbiter_judge_L0
  match i,hi,h0,h1 with
  | 0,_,_,_ =>
   have c0 := cl_0 cl
   by_cases q:cl.1 = d
   ·rw [show verdF cl (d,0) = (0,d) by unfold verdF judgeF; rw [if_pos rfl,if_pos q]]
    simp (disch:=first|omega|decide) only [push_cast,↓reduceIte,Nat.reduceEqDiff,Nat.reduceAdd,Int.reduceLT,Int.reduceNeg,↓Int.reduceNatCast',List.append_assoc,List.cons_append,List.nil_append,List.length_append,List.length_cons,List.length_nil,Nat.zero_add,Nat.reduceAdd,getR,setR,c0,q,fill_ver,st_ver,ld_ver,ver_low,raws_cell,cut_S hok]
    trace_state
   ·simp (disch := first | omega | decide | (simp only [push_cast,↓wF_free,↓reduceIte,Nat.reduceEqDiff,Nat.reduceLT,Nat.reduceLeDiff,Nat.reduceAdd,Nat.reduceSub,Nat.reduceMul,Nat.reduceBEq,Int.reduceLT,Int.reduceLE,Int.reduceToNat,Int.reduceNeg,Int.reducePow,Int.reduceAdd,Int.reduceMul,Int.reduceSub,↓Int.reduceNatCast',hk_cl,k1,k2,decide_true]; done)) only [push_cast,↓reduceIte,Nat.reduceEqDiff,Nat.reduceAdd,Int.reduceLT,Int.reduceAdd,↓Int.reduceNatCast',↓hR',ren_cl,renK_lt,List.append_assoc,List.cons_append,List.nil_append,List.length_append,List.length_cons,List.length_nil,Nat.zero_add,Nat.reduceAdd,getR,setR,c0,q,add_i]
    refine next_head 1 (by exact ⟨by omega,fun _ => q,fun h => absurd h (by omega)⟩) (by omega) ?_
    simp (disch:=first|omega|decide) only [push_cast,↓Int.reduceNatCast'] <;> rfl
  | 1,_,h0,_ =>
   have c1 := cl_1 cl
   have q0 := h0 (by omega)
   by_cases q:cl.2 = d
   ·rw [show verdF cl (d,0) = (1,d) by unfold verdF judgeF; rw [if_pos rfl,if_neg q0,if_pos q]]
    simp (disch:=first|omega|decide) only [push_cast,↓reduceIte,Nat.reduceEqDiff,Nat.reduceAdd,Int.reduceLT,Int.reduceNeg,↓Int.reduceNatCast',List.append_assoc,List.cons_append,List.nil_append,List.length_append,List.length_cons,List.length_nil,Nat.zero_add,Nat.reduceAdd,getR,setR,c1,q,fill_ver,st_ver,ld_ver,ver_low,raws_cell,cut_S hok]
   ·simp (disch := first | omega | decide | (simp only [push_cast,↓wF_free,↓reduceIte,Nat.reduceEqDiff,Nat.reduceLT,Nat.reduceLeDiff,Nat.reduceAdd,Nat.reduceSub,Nat.reduceMul,Nat.reduceBEq,Int.reduceLT,Int.reduceLE,Int.reduceToNat,Int.reduceNeg,Int.reducePow,Int.reduceAdd,Int.reduceMul,Int.reduceSub,↓Int.reduceNatCast',hk_cl,k1,k2,decide_true]; done)) only [push_cast,↓reduceIte,Nat.reduceEqDiff,Nat.reduceAdd,Int.reduceLT,Int.reduceAdd,↓Int.reduceNatCast',↓hR',ren_cl,renK_lt,List.append_assoc,List.cons_append,List.nil_append,List.length_append,List.length_cons,List.length_nil,Nat.zero_add,Nat.reduceAdd,getR,setR,c1,q,add_i]
    refine next_head 2 (by exact ⟨by omega,fun _ => q0,fun _ => q⟩) (by omega) ?_
    simp (disch:=first|omega|decide) only [push_cast,↓Int.reduceNatCast'] <;> rfl
  | 2,_,h0,h1 =>
   rw [show verdF cl (d,0) = (-1,d) by unfold verdF judgeF; rw [if_pos rfl,if_neg (h0 (by omega)),if_neg (h1 (by omega))]]
   simp (disch:=first|omega|decide) only [push_cast,↓reduceIte,Nat.reduceEqDiff,Nat.reduceAdd,Int.reduceLT,Int.reduceNeg,↓Int.reduceNatCast',List.length_append,List.length_cons,List.length_nil,Nat.zero_add,Nat.reduceAdd,getR,setR,fill_ver,st_ver,ld_ver,ver_low,raws_cell,cut_S hok]
 ·have hv:verdF cl (d,e) = (0,zeroDig) := if_neg he
  rw [hv]
  simp (disch:=first|omega|decide) only [push_cast,↓reduceIte,Nat.reduceEqDiff,Int.reduceNeg,he,getR,setR,cut_S hok,st_ver,ld_ver,ver_low,fill_o0,raws_cell]
end Go.Proofs.YtlleccmnjpcogaaDoor.PI
namespace Go.Proofs.YtlleccmnjpcogaaDoor.PI
open Go
set_option linter.unusedSimpArgs false
set_option linter.unusedVariables false
theorem cd_solid (c:List Ins):([.slc (nz 3 (c.map insD)) (c.map insD) false]:List D).all solid1 = true := by
 simp [solid1,nz_nz]
def firstD (c:List Ins) (v:Int × List Int):Dig × Int := if c.length = 0 then (padL,0) else if (verifyF c).2 ≠ 0 then (zeroDig,(verifyF c).2) else (digF c v (startF (c.length + 1)),0)
def f1R (ds:List D) (st:St) (r:D × St):Prop := ∃ (kc kv:Nat) (c:List Ins) (v:Int × List Int) (lc lv:Bool),StOK st ∧ ds = [.ptr kc 0,.ptr kv 0] ∧ st[kc]? = some ⟨false,1,[cdD c],lc⟩ ∧ st[kv]? = some ⟨false,1,evC v,lv⟩ ∧ c.length ≤ 9223372036854775807 ∧ vOK v ∧
 r = (.tup [digD (firstD c v).1,.int .i64 (firstD c v).2],st)
theorem f1_fun:Fun1 f1R := by
 rintro ds st r r' ⟨kc,kv,c,v,lc,lv,_,rfl,h1,h2,_,_,rfl⟩ ⟨kc',kv',c',v',lc',lv',_,h,h1',h2',_,_,rfl⟩
 simp only [List.cons.injEq,D.ptr.injEq,and_true] at h
 obtain ⟨rfl,rfl⟩ := h
 rw [h1] at h1'
 rw [h2] at h2'
 simp only [Option.some.injEq,Obj.mk.injEq,List.cons.injEq,and_true,true_and,cdD_iff] at h1' h2'
 obtain ⟨rfl,_⟩ := h1'
 obtain rfl:v = v' := evD_iff.1 (congrArg D.agg h2'.1)
 rfl
noncomputable def si_f1:List D → St → Option (D × St) := relI f1R
theorem lowR_dig (n:Nat) (d:Dig) (e:Int):lowR n (.tup [digD d,.int .i64 e]) = .tup [digD d,.int .i64 e] := by
 have h:low n (digD d) = digD d := by rw [← ren_low]; exact ren_digD n [] d
 simp only [lowR,List.map_cons,List.map_nil,h]
 rfl
theorem st_dg (a d:Dig):stO (some ⟨false,1,digC a,false⟩) 32 0 (digD d) = some ⟨false,1,digC d,false⟩ := stO_all 1 _ _ 32 (digC_length _) (digC_length _) (digC_all (fun _ => rfl) d)
set_option maxHeartbeats 4000000 in
set_option maxRecDepth 20000 in
theorem ci_f1:IContract Tryd.prog GG 38 si_f1 := by
 refine icontract_on (T := tb [(14,sp_mPad),(24,sp_tVer),(39,sp_start),(22,sp_vDig)] []) tr_arbiter_First_1 (tb_ok (all_cons c_mPad (all_cons c_tVer (all_cons c_start (all_cons c_vDig all_nil)))) all_nil) ?_
 intro ds st r hr
 obtain ⟨kc,kv,c,v,lc,lv,hok,rfl,h1,h2,hc,hv,rfl⟩ := relI_inv hr
 have hk1:∀ l:St,(st ++ l)[kc]? = some ⟨false,1,[.slc (nz 3 (c.map insD)) (c.map insD) false],lc⟩ := fun l => by
  rw [List.getElem?_append_left (List.getElem?_eq_some_iff.1 h1).1]; exact h1
 have hk2:∀ l:St,(st ++ l)[kv]? = some ⟨false,1,evC v,lv⟩ := fun l => by
  rw [List.getElem?_append_left (List.getElem?_eq_some_iff.1 h2).1]; exact h2
 have cv := call_tVer c hc
 have cp := call_mPad
 unfold F_arbiter_First_1
 by_cases q1:c.length = 0
 ·rw [show firstD c v = (padL,0) from if_pos q1]
  have q1':(c.length:Int) = 0 := by omega
  simp (disch:=first|omega|decide) only [push_cast,↓reduceIte,Nat.reduceEqDiff,hk1,q1',cp,getR0,setR0,lowR_dig,cut_S hok,raws_cell,st_dg]
 by_cases q2:(verifyF c).2 = 0
 ·rw [show firstD c v = (digF c v (startF (c.length + 1)),0) by unfold firstD; rw [if_neg q1,if_neg (by simp [q2])]]
  have q1':¬ (c.length:Int) = 0 := by omega
  obtain ⟨hc2,_⟩ := verify_ok q2
  have cs := call_start ((c.length:Int) + 1)
  rw [show startE ((c.length:Int) + 1) = 0 from if_neg (by omega)] at cs
  have cd := call_vDig c v (startF ((c.length:Int) + 1)) ⟨by omega,hv,by
   rw [show startF ((c.length:Int) + 1) = { zSta with fuel := (c.length:Int) + 1 } from if_neg (by omega)]; exact Nat.zero_le _⟩
  simp (disch:=first|omega|decide) only [push_cast,↓reduceIte,Nat.reduceEqDiff,hk1,hk2,q1',q2,cv,cs,cd,add_i,box_sta0,st_sta0,ld_sta,ld_ev hv,imm_ev,imm_sta,List.append_assoc,List.cons_append,List.nil_append,List.length_append,List.length_cons,List.length_nil,Nat.zero_add,getR,setR,getR0,setR0,lowR_dig,cut_S hok,raws_cell,st_dg]
 ·rw [show firstD c v = (zeroDig,(verifyF c).2) by unfold firstD; rw [if_neg q1,if_pos q2]]
  have q1':¬ (c.length:Int) = 0 := by omega
  simp (disch:=first|omega|decide) only [push_cast,↓reduceIte,Nat.reduceEqDiff,hk1,q1',q2,cv,List.nil_append,getR0,setR0,lowR_dig,cut_S hok,raws_cell,st_dg,fill_o0]
noncomputable def sp_aFirst:List D → Option D := spOf (α := List Ins × (Int × List Int) × (Dig × Dig)) (fun a => [.slc (nz 3 (a.1.map insD)) (a.1.map insD) false,evD a.2.1,clD a.2.2]) (fun a => a.1.length ≤ 9223372036854775807 ∧ vOK a.2.1) (fun a => .tup [verD (verdF a.2.2 (firstD a.1 a.2.1)),.int .i64 (firstD a.1 a.2.1).2])
theorem call_aFirst (c:List Ins) (v:Int × List Int) (cl:Dig × Dig) (h:c.length ≤ 9223372036854775807 ∧ vOK v):sp_aFirst [.slc (nz 3 (c.map insD)) (c.map insD) false,evD v,clD cl] = some (.tup [verD (verdF cl (firstD c v)),.int .i64 (firstD c v).2]) :=
 spOf_enc (fun ⟨a0,a1,a2⟩ ⟨b0,b1,b2⟩ h => by simp only [List.cons.injEq,D.slc.injEq,and_true,code_iff,evD_iff,clD_iff] at h; simp [h]) (c,v,cl) h
set_option maxHeartbeats 4000000 in
set_option maxRecDepth 20000 in
theorem w_aFirst (c:List Ins) (v:Int × List Int) (cl:Dig × Dig) (h:c.length ≤ 9223372036854775807 ∧ vOK v):@wW GG (tb [] [(37,si_judge 38 si_f1)]) F_arbiter_First.code (argF [.slc (nz 3 (c.map insD)) (c.map insD) false,evD v,clD cl]) [] ⟨retQ F_arbiter_First.res (.tup [verD (verdF cl (firstD c v)),.int .i64 (firstD c v).2])⟩ := by
 obtain ⟨hc,hv⟩ := h
 unfold F_arbiter_First
 have hcl:(digC cl.1 ++ digC cl.2).all solid1 = true := boxC_solid cl
 have hok:StOK [⟨false,1,[.slc (nz 3 (c.map insD)) (c.map insD) false],false⟩,⟨false,1,evC v,false⟩,boxC cl,boxV (0,zeroDig)] := by
  refine solidO_ok (S := []) (fun o ho => by cases ho) _ (fun o ho => ?_)
  simp only [List.mem_cons,List.not_mem_nil,or_false] at ho
  rcases ho with rfl | rfl | rfl | rfl
  ·exact cd_solid c
  ·exact evC_solid v
  ·exact boxC_solid cl
  ·exact boxV_solid _
 have hok2 := solidO_ok hok [boxC cl,boxV (0,zeroDig)] (fun o ho => by
  simp only [List.mem_cons,List.not_mem_nil,or_false] at ho
  rcases ho with rfl | rfl
  ·exact boxC_solid cl
  ·exact boxV_solid _)
 have hj:si_judge 38 si_f1 [clD cl,.clo 38 [.ptr 0 0,.ptr 1 0]] [⟨false,1,[.slc (nz 3 (c.map insD)) (c.map insD) false],false⟩,⟨false,1,evC v,false⟩,boxC cl,boxV (0,zeroDig)] = some (.tup [verD (verdF cl (firstD c v)),.int .i64 (firstD c v).2],[⟨false,1,[.slc (nz 3 (c.map insD)) (c.map insD) false],false⟩,⟨false,1,evC v,false⟩,boxC cl,boxV (0,zeroDig)]) :=
  relI_of (judge_fun _ _) ⟨cl,[.ptr 0 0,.ptr 1 0],(firstD c v).1,(firstD c v).2,hok,rfl,relI_of f1_fun ⟨0,1,c,v,false,false,hok2,rfl,rfl,rfl,hc,hv,rfl⟩,rfl⟩
 have sv := st_ver (0,zeroDig)
 have lv := ld_ver
 simp only [boxC,boxV,verD] at hj sv lv
 simp (disch:=first|omega|decide) only [push_cast,↓reduceIte,Nat.reduceEqDiff,Nat.reduceAdd,box_ev,box_cl,ld_cl,hj,verD,sv,lv]
theorem c_aFirst:Contract Tryd.prog GG 15 sp_aFirst :=
 contract_of (T := tb [] [(37,si_judge 38 si_f1)]) tr_arbiter_First (tb_ok all_nil (all_cons (ci_judge _ (by decide) _ ci_f1) all_nil)) (fun a h => w_aFirst a.1 a.2.1 a.2.2 h)
end Go.Proofs.YtlleccmnjpcogaaDoor.PI
namespace Go.Proofs.YtlleccmnjpcogaaDoor.PI
open Go
set_option linter.unusedSimpArgs false
set_option linter.unusedVariables false
theorem adv_len (v:Int × List Int) (b:Int) (s:Sta) (x:Ins):(advF v b s x).stack.length ≤ s.stack.length + 1 := by
 have h:∀ o:Out,(outS (decS s) o).stack.length ≤ s.stack.length + 1 := by
  intro o
  cases o with
  | err e => exact Nat.le_succ _
  | set p t c => exact Nat.le_succ _
  | pop k push pc =>
   show (s.stack.take (s.stack.length - k) ++ push.toList).length ≤ _
   rw [List.length_append,List.length_take]
   have:push.toList.length ≤ 1 := by cases push <;> simp
   omega
 unfold advF
 split
 ·exact Nat.le_succ _
 ·exact h _
theorem stepO_len (c:List Ins) (v:Int × List Int) (o:Opn):(stepOF c v o).top.length ≤ o.top.length + 1 := by
 unfold stepOF
 split
 ·exact adv_len v o.depth (opS o) _
 ·simp [zOpn]
def stepD (c:List Ins) (v:Int × List Int) (b:Dig) (o:Opn):Dig × Int := if b = padL then (b,0) else if closeF c v o ≠ b then (zeroDig,390) else if o.status ≠ 0 then (padL,0) else (closeF c v (stepOF c v o),stepOE c o)
def s1R (ds:List D) (st:St) (r:D × St):Prop := ∃ (kb kc kv ko:Nat) (b:Dig) (c:List Ins) (v:Int × List Int) (o:Opn) (lb lc lv lo:Bool),StOK st ∧ ds = [.ptr kb 0,.ptr kc 0,.ptr kv 0,.ptr ko 0] ∧ st[kb]? = some ⟨false,1,digC b,lb⟩ ∧ st[kc]? = some ⟨false,1,[cdD c],lc⟩ ∧ st[kv]? = some ⟨false,1,evC v,lv⟩ ∧ st[ko]? = some ⟨false,1,opnC o,lo⟩ ∧ c.length ≤ 4294967296 ∧ vOK v ∧ o.top.length ≤ 4294967295 ∧
 r = (.tup [digD (stepD c v b o).1,.int .i64 (stepD c v b o).2],st)
theorem s1_fun:Fun1 s1R := by
 rintro ds st r r' ⟨kb,kc,kv,ko,b,c,v,o,lb,lc,lv,lo,_,rfl,h0,h1,h2,h3,_,_,_,rfl⟩ ⟨kb',kc',kv',ko',b',c',v',o',lb',lc',lv',lo',_,h,h0',h1',h2',h3',_,_,_,rfl⟩
 simp only [List.cons.injEq,D.ptr.injEq,and_true] at h
 obtain ⟨rfl,rfl,rfl,rfl⟩ := h
 rw [h0] at h0'
 rw [h1] at h1'
 rw [h2] at h2'
 rw [h3] at h3'
 simp only [Option.some.injEq,Obj.mk.injEq,List.cons.injEq,and_true,true_and,cdD_iff,digC_iff] at h0' h1' h2' h3'
 obtain ⟨rfl,_⟩ := h0'
 obtain ⟨rfl,_⟩ := h1'
 obtain rfl:v = v' := evD_iff.1 (congrArg D.agg h2'.1)
 obtain rfl:o = o' := opnD_iff.1 (congrArg D.agg h3'.1)
 rfl
noncomputable def si_s1:List D → St → Option (D × St) := relI s1R
theorem ld_dg (lent:Bool) (d:Dig):ldO (some ⟨false,1,digC d,lent⟩) 32 true 0 = some (digD d) := ldO_all 1 lent _ 32 (digC_length d)
theorem ld_opn (lent:Bool) (o:Opn):ldO (some ⟨false,1,opnC o,lent⟩) 38 true 0 = some (opnD o) := by rw [opnD,opn_eq]; exact ld_op ..
theorem ld_opn2 (lent:Bool) (o:Opn):ldO (some ⟨false,1,opnC o,lent⟩) 1 false 2 = some (.int .i64 o.status) := by rw [opn_eq]; exact ld_op2 ..
theorem st_opn (o:Opn):stO (some ⟨false,1,opC 0 0 0 0 (.slc 0 [] true) 0 zeroDig,false⟩) 38 0 (opnD o) = some ⟨false,1,opnC o,false⟩ := by rw [opnD,opn_eq]; exact st_opS ..
set_option maxHeartbeats 8000000 in
set_option maxRecDepth 20000 in
theorem ci_s1:IContract Tryd.prog GG 40 si_s1 := by
 refine icontract_on (T := tb [(14,sp_mPad),(41,sp_vCls),(42,sp_stepO)] []) tr_arbiter_Step_1 (tb_ok (all_cons c_mPad (all_cons c_vCls (all_cons c_stepO all_nil))) all_nil) ?_
 intro ds st r hr
 obtain ⟨kb,kc,kv,ko,b,c,v,o,lb,lc,lv,lo,hok,rfl,h0,h1,h2,h3,hc,hv,hto,rfl⟩ := relI_inv hr
 have hk0:∀ l:St,(st ++ l)[kb]? = some ⟨false,1,digC b,lb⟩ := fun l => by
  rw [List.getElem?_append_left (List.getElem?_eq_some_iff.1 h0).1]; exact h0
 have hk1:∀ l:St,(st ++ l)[kc]? = some ⟨false,1,[.slc (nz 3 (c.map insD)) (c.map insD) false],lc⟩ := fun l => by
  rw [List.getElem?_append_left (List.getElem?_eq_some_iff.1 h1).1]; exact h1
 have hk2:∀ l:St,(st ++ l)[kv]? = some ⟨false,1,evC v,lv⟩ := fun l => by
  rw [List.getElem?_append_left (List.getElem?_eq_some_iff.1 h2).1]; exact h2
 have hk3:∀ l:St,(st ++ l)[ko]? = some ⟨false,1,opnC o,lo⟩ := fun l => by
  rw [List.getElem?_append_left (List.getElem?_eq_some_iff.1 h3).1]; exact h3
 have cp := call_mPad
 have cc := call_vCls c v o ⟨hc,hv,by omega⟩
 have co := call_stepO c v o ⟨hc,hv⟩
 have hlo := stepO_len c v o
 have cc2 := call_vCls c v (stepOF c v o) ⟨hc,hv,by omega⟩
 unfold F_arbiter_Step_1
 by_cases q1:b = padL
 ·rw [show stepD c v b o = (b,0) from if_pos q1]
  simp (disch:=first|omega|decide) only [push_cast,↓reduceIte,Nat.reduceEqDiff,hk0,ld_dg,q1,cp,getR0,setR0,lowR_dig,cut_S hok,raws_cell,st_dg]
 by_cases q2:closeF c v o = b
 ·by_cases q3:o.status = 0
  ·rw [show stepD c v b o = (closeF c v (stepOF c v o),stepOE c o) by unfold stepD; rw [if_neg q1,if_neg (by simp [q2]),if_neg (by simp [q3])]]
   simp (disch:=first|omega|decide) only [push_cast,↓reduceIte,Nat.reduceEqDiff,hk0,hk1,hk2,hk3,ld_dg,q1,q2,q3,cp,cc,cc2,co,ld_ev hv,imm_ev,keys_ev,imm_opn,keys_opn,ld_opn,ld_opn2,st_opn,opn0_eq,box_opS,List.append_assoc,List.cons_append,List.nil_append,List.length_append,List.length_cons,List.length_nil,Nat.zero_add,getR,setR,getR0,setR0,lowR_dig,cut_S hok,raws_cell,st_dg]
  ·rw [show stepD c v b o = (padL,0) by unfold stepD; rw [if_neg q1,if_neg (by simp [q2]),if_pos q3]]
   simp (disch:=first|omega|decide) only [push_cast,↓reduceIte,Nat.reduceEqDiff,hk0,hk1,hk2,hk3,ld_dg,q1,q2,q3,cp,cc,ld_ev hv,imm_ev,imm_opn,ld_opn,ld_opn2,Nat.zero_add,getR0,setR0,lowR_dig,cut_S hok,raws_cell,st_dg]
 ·rw [show stepD c v b o = (zeroDig,390) by unfold stepD; rw [if_neg q1,if_pos q2]]
  simp (disch:=first|omega|decide) only [push_cast,↓reduceIte,Nat.reduceEqDiff,hk0,hk1,hk2,hk3,ld_dg,q1,q2,cp,cc,ld_ev hv,imm_ev,imm_opn,ld_opn,getR0,setR0,lowR_dig,cut_S hok,raws_cell,st_dg,fill_o0]
noncomputable def sp_aStep:List D → Option D := spOf (α := List Ins × (Int × List Int) × Dig × (Dig × Dig) × Opn) (fun a => [.slc (nz 3 (a.1.map insD)) (a.1.map insD) false,evD a.2.1,digD a.2.2.1,clD a.2.2.2.1,opnD a.2.2.2.2]) (fun a => a.1.length ≤ 4294967296 ∧ vOK a.2.1 ∧ a.2.2.2.2.top.length ≤ 4294967295) (fun a => .tup [verD (verdF a.2.2.2.1 (stepD a.1 a.2.1 a.2.2.1 a.2.2.2.2)),.int .i64 (stepD a.1 a.2.1 a.2.2.1 a.2.2.2.2).2])
theorem call_aStep (c:List Ins) (v:Int × List Int) (b:Dig) (cl:Dig × Dig) (o:Opn) (h:c.length ≤ 4294967296 ∧ vOK v ∧ o.top.length ≤ 4294967295):sp_aStep [.slc (nz 3 (c.map insD)) (c.map insD) false,evD v,digD b,clD cl,opnD o] = some (.tup [verD (verdF cl (stepD c v b o)),.int .i64 (stepD c v b o).2]) :=
 spOf_enc (fun ⟨a0,a1,a2,a3,a4⟩ ⟨b0,b1,b2,b3,b4⟩ h => by simp only [List.cons.injEq,D.slc.injEq,dig_iff,and_true,code_iff,opnD_iff,evD_iff,clD_iff] at h; simp [h]) (c,v,b,cl,o) h
noncomputable def stpT:Tbl := tb [] [(37,si_judge 40 si_s1)]
set_option maxHeartbeats 8000000 in
set_option maxRecDepth 20000 in
theorem w_aStep (c:List Ins) (v:Int × List Int) (b:Dig) (cl:Dig × Dig) (o:Opn) (h:c.length ≤ 4294967296 ∧ vOK v ∧ o.top.length ≤ 4294967295):@wW GG stpT F_arbiter_Step.code (argF [.slc (nz 3 (c.map insD)) (c.map insD) false,evD v,digD b,clD cl,opnD o]) [] ⟨retQ F_arbiter_Step.res (.tup [verD (verdF cl (stepD c v b o)),.int .i64 (stepD c v b o).2])⟩ := by
 obtain ⟨hc,hv,hto⟩ := h
 unfold F_arbiter_Step
 have hos:(opnC o).all solid1 = true := by
  rw [opn_eq]
  simp only [opC,List.all_cons,digC_solid1]
  simp [solid1,intsO,nz_nz]
 have hok:StOK [⟨false,1,[.slc (nz 3 (c.map insD)) (c.map insD) false],false⟩,⟨false,1,evC v,false⟩,⟨false,1,digC b,false⟩,boxC cl,⟨false,1,opnC o,false⟩,boxV (0,zeroDig)] := by
  refine solidO_ok (S := []) (fun o ho => by cases ho) _ (fun x ho => ?_)
  simp only [List.mem_cons,List.not_mem_nil,or_false] at ho
  rcases ho with rfl | rfl | rfl | rfl | rfl | rfl
  ·exact cd_solid c
  ·exact evC_solid v
  ·exact digC_solid1 b
  ·exact boxC_solid cl
  ·exact hos
  ·exact boxV_solid _
 have hok2 := solidO_ok hok [boxC cl,boxV (0,zeroDig)] (fun o ho => by
  simp only [List.mem_cons,List.not_mem_nil,or_false] at ho
  rcases ho with rfl | rfl
  ·exact boxC_solid cl
  ·exact boxV_solid _)
 have hj:si_judge 40 si_s1 [clD cl,.clo 40 [.ptr 2 0,.ptr 0 0,.ptr 1 0,.ptr 4 0]] [⟨false,1,[.slc (nz 3 (c.map insD)) (c.map insD) false],false⟩,⟨false,1,evC v,false⟩,⟨false,1,digC b,false⟩,boxC cl,⟨false,1,opnC o,false⟩,boxV (0,zeroDig)] = some (.tup [verD (verdF cl (stepD c v b o)),.int .i64 (stepD c v b o).2],[⟨false,1,[.slc (nz 3 (c.map insD)) (c.map insD) false],false⟩,⟨false,1,evC v,false⟩,⟨false,1,digC b,false⟩,boxC cl,⟨false,1,opnC o,false⟩,boxV (0,zeroDig)]) :=
  relI_of (judge_fun _ _) ⟨cl,[.ptr 2 0,.ptr 0 0,.ptr 1 0,.ptr 4 0],(stepD c v b o).1,(stepD c v b o).2,hok,rfl,relI_of s1_fun ⟨2,0,1,4,b,c,v,o,false,false,false,false,hok2,rfl,rfl,rfl,rfl,rfl,hc,hv,hto,rfl⟩,rfl⟩
 have sv := st_ver (0,zeroDig)
 have lv := ld_ver
 simp only [boxC,boxV,verD] at hj sv lv
 simp (disch:=first|omega|decide) only [push_cast,↓reduceIte,Nat.reduceEqDiff,Nat.reduceAdd,stpT,box_ev,box_cl,box_opn,ld_cl,hj,verD,sv,lv]
theorem c_aStep:Contract Tryd.prog GG 17 sp_aStep :=
 contract_of (T := stpT) tr_arbiter_Step (tb_ok all_nil (all_cons (ci_judge _ (by decide) _ ci_s1) all_nil)) (fun a h => w_aStep a.1 a.2.1 a.2.2.1 a.2.2.2.1 a.2.2.2.2 h)
end Go.Proofs.YtlleccmnjpcogaaDoor.PI
namespace Go.Proofs.YtlleccmnjpcogaaDoor.PI
open Go
set_option linter.unusedSimpArgs false
set_option linter.unusedVariables false
theorem whole_eq (c:List Ins) (v:Int × List Int) (o o':Opn) (h1:o.pc = o'.pc) (h2:o.fuel = o'.fuel) (h3:o.status = o'.status) (h4:o.clause = o'.clause) (h5:o.depth + o.top.length = o'.depth + o'.top.length) (h6:ontoF o.rest o.top = ontoF o'.rest o'.top):wholeF c v o = wholeF c v o' := by
 unfold wholeF
 rw [h1,h2,h3,h4,h5,h6]
structure OpenOf (s:Sta) (o:Opn):Prop where
 pc:o.pc = s.pc
 fuel:o.fuel = s.fuel
 status:o.status = s.status
 clause:o.clause = s.clause
 d0:0 ≤ o.depth
 d1:o.depth.toNat ≤ s.stack.length
 top:o.top = s.stack.drop o.depth.toNat
 rest:o.rest = ontoF zeroDig (s.stack.take o.depth.toNat)
theorem openOf (s:Sta) (n:Int):OpenOf s (openF s n) := ⟨rfl,rfl,rfl,rfl,by simp [openF],by simpa [openF] using openK_le s n,by simp [openF],by simp [openF]⟩
theorem whole_of {c:List Ins} {v:Int × List Int} {s:Sta} {o o':Opn} (h:OpenOf s o) (h':OpenOf s o'):wholeF c v o = wholeF c v o' := by
 refine whole_eq c v o o' (h.pc.trans h'.pc.symm) (h.fuel.trans h'.fuel.symm) (h.status.trans h'.status.symm) (h.clause.trans h'.clause.symm) ?_ ?_
 ·have h1 := h.d1; have h2 := h'.d1; have h3 := h.d0; have h4 := h'.d0
  rw [h.top,h'.top,List.length_drop,List.length_drop]
  omega
 ·rw [h.rest,h'.rest,h.top,h'.top,← ontoF_app,← ontoF_app,List.take_append_drop,List.take_append_drop]
theorem close_of {c:List Ins} {v:Int × List Int} {s:Sta} {o:Opn} (h:OpenOf s o) (hl:s.stack.length ≤ 64):closeF c v o = digF c v s := by
 have h1 := h.d0; have h2 := h.d1
 rw [show closeF c v o = wholeF c v o from if_neg (by omega)]
 exact whole_of h (openOf s s.stack.length)
theorem ready_of {c:List Ins} {s:Sta} {o:Opn} (h:OpenOf s o) (hl:s.stack.length ≤ 64):readyF c (opS o) o.depth = readyF c s 0 := by
 have h1 := h.d0; have h2 := h.d1
 have hlen:o.top.length = s.stack.length - o.depth.toNat := by rw [h.top,List.length_drop]
 have hb:badS c (opS o) o.depth ↔ badS c s 0 := by
  unfold badS opS
  simp only [h.pc,h.fuel,h.clause,hlen]
  omega
 unfold readyF
 rw [show (opS o).status = s.status from h.status]
 by_cases q:badS c s 0
 ·rw [if_pos q,if_pos (hb.2 q)]
 ·rw [if_neg q,if_neg (fun x => q (hb.1 x))]
theorem ins_of (c:List Ins) {s:Sta} {o:Opn} (h:OpenOf s o):insAt c (opS o) = insAt c s := by
 unfold insAt
 rw [show (opS o).pc = s.pc from h.pc]
theorem top_of {l:List Int} {k i:Nat} (h:k + i < l.length):topF (l.drop k) i = topF l i := by
 unfold topF at'
 rw [List.getD_eq_getElem?_getD,List.getD_eq_getElem?_getD,List.getElem?_drop,List.length_drop]
 congr 3
 omega
theorem opS_0 {s:Sta} {o:Opn} (h:OpenOf s o) (h0:o.depth = 0):opS o = s := by
 obtain ⟨a1,a2,a3,a4,a5⟩ := s
 have e:o.top = a5 := by rw [h.top,h0]; rfl
 unfold opS
 rw [show o.pc = a1 from h.pc,show o.fuel = a2 from h.fuel,show o.status = a3 from h.status,show o.clause = a4 from h.clause,e]
theorem out_of {v:Int × List Int} {s:Sta} {o:Opn} {x:Ins} (h:OpenOf s o) (hx:1 ≤ x.op ∧ x.op ≤ 16) (hn:o.depth = 0 ∨ needF x.op ≤ o.top.length):exO v o.depth (decS (opS o)) x = exO v 0 (decS s) x := by
 by_cases h0:o.depth = 0
 ·rw [opS_0 h h0,h0]
 replace hn:needF x.op ≤ o.top.length := by omega
 have h1 := h.d0; have h2 := h.d1
 have hlen:o.top.length = s.stack.length - o.depth.toNat := by rw [h.top,List.length_drop]
 have e1:exO v o.depth (decS (opS o)) x = outF v o.depth (decS (opS o)) x := if_neg (show ¬ (o.top.length:Int) < needF x.op by omega)
 have e2:exO v 0 (decS s) x = outF v 0 (decS s) x := if_neg (show ¬ (s.stack.length:Int) < needF x.op by omega)
 rw [e1,e2]
 have hle:((64:Int) ≤ o.depth + ((decS (opS o)).stack.length:Nat)) = ((64:Int) ≤ 0 + ((decS s).stack.length:Nat)) := by
  show ((64:Int) ≤ o.depth + (o.top.length:Nat)) = ((64:Int) ≤ 0 + (s.stack.length:Nat))
  exact propext ⟨fun _ => by omega,fun _ => by omega⟩
 have t0:1 ≤ needF x.op → topS (decS (opS o)) 0 = topS (decS s) 0 := fun q => by
  show topF o.top 0 = topF s.stack 0
  rw [h.top]; exact top_of (by omega)
 have t1:2 ≤ needF x.op → topS (decS (opS o)) 1 = topS (decS s) 1 := fun q => by
  show topF o.top 1 = topF s.stack 1
  rw [h.top]; exact top_of (by omega)
 have hp:(decS (opS o)).pc = (decS s).pc := h.pc
 have hs:(decS (opS o)).status = (decS s).status := h.status
 have hc:(decS (opS o)).clause = (decS s).clause := h.clause
 unfold outF
 by_cases o1:x.op = 1
 ·rw [if_pos o1,if_pos o1]
  simp only [hle]
 rw [if_neg o1,if_neg o1]
 by_cases o2:x.op = 2
 ·rw [if_pos o2,if_pos o2]
  simp only [hle]
 rw [if_neg o2,if_neg o2]
 by_cases o3:x.op = 12
 ·rw [if_pos o3,if_pos o3,t0 (by rw [o3]; decide)]
 rw [if_neg o3,if_neg o3]
 by_cases o4:x.op = 13
 ·rw [if_pos o4,if_pos o4,t0 (by rw [o4]; decide)]
 rw [if_neg o4,if_neg o4]
 by_cases o5:x.op = 14
 ·rw [if_pos o5,if_pos o5,hs,hc]
 rw [if_neg o5,if_neg o5]
 by_cases o6:x.op = 15
 ·rw [if_pos o6,if_pos o6,hp]
 rw [if_neg o6,if_neg o6]
 by_cases o7:x.op = 16
 ·rw [if_pos o7,if_pos o7]
 rw [if_neg o7,if_neg o7]
 have h2n:needF x.op = 2 := by unfold needF; rw [if_neg (by omega),if_pos (by omega)]
 rw [t0 (by omega),t1 (by omega)]
theorem pop_need {v:Int × List Int} {b:Int} {s:Sta} {x:Ins} {k:Nat} {push pc:Option Int} (hx:1 ≤ x.op ∧ x.op ≤ 16) (h:exO v b s x = .pop k push pc):(k:Int) ≤ needF x.op ∧ needF x.op ≤ s.stack.length := by
 have h1 := exO_pop h
 refine ⟨?_,by omega⟩
 unfold exO at h
 rw [if_neg h1] at h
 unfold outF at h
 have hc:x.op = 1 ∨ x.op = 2 ∨ x.op = 12 ∨ x.op = 13 ∨ x.op = 14 ∨ x.op = 15 ∨ x.op = 16 ∨ (3 ≤ x.op ∧ x.op ≤ 11) := by omega
 have hneed:needF x.op = if x.op = 12 ∨ x.op = 13 ∨ x.op = 15 then 1 else if 3 ≤ x.op ∧ x.op ≤ 11 then 2 else 0 := rfl
 split at h
 ·split at h
  ·cases h
  ·cases h; rw [hneed]; split <;> (try split) <;> omega
 split at h
 ·split at h
  ·cases h
  ·split at h
   ·cases h
   ·split at h
    ·cases h
    ·cases h; rw [hneed]; split <;> (try split) <;> omega
 split at h
 ·cases h; rw [hneed,if_pos (by omega)]; omega
 split at h
 ·cases h; rw [hneed,if_pos (by omega)]; omega
 split at h
 ·cases h
 split at h
 ·cases h
 split at h
 ·cases h
 split at h
 ·cases h; rw [hneed,if_neg (by omega),if_pos (by omega)]; omega
 ·cases h
theorem adv_of {v:Int × List Int} {s:Sta} {o:Opn} {x:Ins} (h:OpenOf s o) (hx:1 ≤ x.op ∧ x.op ≤ 16) (hn:o.fuel = 0 ∨ o.depth = 0 ∨ needF x.op ≤ o.top.length):OpenOf (advF v 0 s x) (sOpn (advF v o.depth (opS o) x) o) := by
 unfold advF
 rw [show (opS o).fuel = s.fuel from h.fuel]
 by_cases hu:s.fuel = 0
 ·rw [if_pos hu,if_pos hu]
  exact ⟨h.pc,rfl,rfl,h.clause,h.d0,h.d1,h.top,h.rest⟩
 rw [if_neg hu,if_neg hu]
 have hn':o.depth = 0 ∨ needF x.op ≤ o.top.length := by have := h.fuel; omega
 have ho := out_of (v := v) h hx hn'
 rw [ho]
 have h1 := h.d0; have h2 := h.d1
 have hlen:o.top.length = s.stack.length - o.depth.toNat := by rw [h.top,List.length_drop]
 have hfu:o.fuel - 1 = s.fuel - 1 := by rw [h.fuel]
 cases hE:exO v 0 (decS s) x with
 | err e => exact ⟨h.pc,hfu,rfl,h.clause,h.d0,h.d1,h.top,h.rest⟩
 | set p t c => exact ⟨rfl,hfu,rfl,rfl,h.d0,h.d1,h.top,h.rest⟩
 | pop k push pc =>
  obtain ⟨k1,k2⟩ := pop_need hx hE
  have k2:needF x.op ≤ (s.stack.length:Int) := k2
  have hk:o.depth.toNat ≤ s.stack.length - k := by omega
  refine ⟨?_,hfu,h.status,h.clause,h.d0,?_,?_,?_⟩
  ·show pc.getD (o.pc + 1) = pc.getD (s.pc + 1)
   rw [h.pc]
  ·show o.depth.toNat ≤ (s.stack.take (s.stack.length - k) ++ push.toList).length
   rw [List.length_append,List.length_take]; omega
  ·show o.top.take (o.top.length - k) ++ push.toList = (s.stack.take (s.stack.length - k) ++ push.toList).drop o.depth.toNat
   rw [List.drop_append_of_le_length (by rw [List.length_take]; omega),List.drop_take,hlen,h.top]
   congr 2
   omega
  ·show o.rest = ontoF zeroDig ((s.stack.take (s.stack.length - k) ++ push.toList).take o.depth.toNat)
   rw [List.take_append_of_le_length (by rw [List.length_take]; omega),List.take_take,Nat.min_eq_left hk,h.rest]
theorem step_of {c:List Ins} {v:Int × List Int} {s:Sta} {o:Opn} (h:OpenOf s o) (hl:s.stack.length ≤ 64) (hr:readyF c s 0 = 0) (hlk:¬ lackO c o):stepOE c o = 0 ∧ closeF c v (stepOF c v o) = digF c v (stepF c v s) := by
 have hrd := ready_of (c := c) h hl
 have e0:stepOE c o = 0 := by unfold stepOE; rw [if_pos (by rw [hrd,hr]),if_neg hlk]
 refine ⟨e0,?_⟩
 rw [show stepOF c v o = sOpn (advF v o.depth (opS o) (insAt c (opS o))) o from if_pos e0,show stepF c v s = advF v 0 s (insAt c s) from if_pos hr,ins_of c h]
 have hvf:(verifyF c).2 = 0 := by
  unfold readyF at hr
  split at hr
  ·simp at hr
  split at hr
  ·rename_i q; exact absurd hr q
  ·rename_i q; omega
 have hbad:¬ badS c s 0 := by
  intro q
  unfold readyF at hr
  rw [if_pos q] at hr
  split at hr
  ·simp at hr
  split at hr
  ·rename_i q; exact absurd hr q
  ·simp at hr
 have hfm := (verify_ok hvf).2.2.1
 unfold badS at hbad
 have hx := formed_opP (at_formed hfm (j := s.pc.toNat) (by omega))
 have hx:1 ≤ (insAt c s).op ∧ (insAt c s).op ≤ 16 := hx
 have hfu := h.fuel
 have hd0 := h.d0
 have hof := adv_of (v := v) (x := insAt c s) h hx (by
  unfold lackO at hlk
  rw [ins_of c h] at hlk
  omega)
 have hd1 := h.d1
 have e1:(sOpn (advF v o.depth (opS o) (insAt c s)) o).depth = o.depth := rfl
 have:closeF c v (sOpn (advF v o.depth (opS o) (insAt c s)) o) = wholeF c v (sOpn (advF v o.depth (opS o) (insAt c s)) o) := if_neg (by rw [e1]; omega)
 rw [this]
 exact whole_of hof (openOf _ _)
end Go.Proofs.YtlleccmnjpcogaaDoor.PI
namespace Go.Proofs.YtlleccmnjpcogaaDoor.PI
open Go
set_option linter.unusedSimpArgs false
set_option linter.unusedVariables false
def exC:List Ins := [⟨2,6,0⟩,⟨1,7,0⟩,⟨5,0,0⟩,⟨15,0,0⟩]
def exV:Int × List Int := (64,[0,0,0,0,0,0,30,0,0,0,0,0,0,0,0,0])
def exS (i:Nat):Sta := [(⟨0,5,0,0,[]⟩:Sta),⟨1,4,0,0,[30]⟩,⟨2,3,0,0,[30,7]⟩,⟨3,2,0,0,[210]⟩,⟨3,1,1,0,[210]⟩].getD i default
theorem ex_ver:verifyF exC = (2,0) := by decide +kernel
theorem ex_trace:traceL exC exV = [exS 0,exS 1,exS 2,exS 3,exS 4] := by decide +kernel
def exD (i:Nat):Dig := digF exC exV (exS i)
def first4 (d:Dig):List UInt8 := d.bs.take 4
theorem ex_ne {a b:Dig} (h:first4 a ≠ first4 b):¬ a = b := fun e => h (by rw [e])
theorem ex_d0:¬ exD 0 = padL := ex_ne (by decide +kernel)
theorem ex_d1:¬ exD 1 = padL := ex_ne (by decide +kernel)
theorem ex_d2:¬ exD 2 = padL := ex_ne (by decide +kernel)
theorem ex_d4:¬ exD 4 = padL := ex_ne (by decide +kernel)
theorem ex_d21:¬ exD 2 = exD 1 := ex_ne (by decide +kernel)
theorem ex_d43:¬ exD 4 = exD 3 := ex_ne (by decide +kernel)
theorem ex_run:runF exC exV = ⟨exC,exV,210,0,[exD 0,exD 1,exD 2,exD 3,exD 4]⟩ := by
 unfold runF
 rw [if_pos (by rw [ex_ver]),ex_trace]
 rfl
theorem ex_sta2:staF exC exV 2 = (exS 2,0) := by
 unfold staF
 rw [if_pos (by rw [ex_ver]),ex_trace]
 rfl
theorem ex_sta4:staF exC exV 4 = (exS 4,0) := by
 unfold staF
 rw [if_pos (by rw [ex_ver]),ex_trace]
 rfl
theorem ex_start:startF ((exC.length:Int) + 1) = exS 0 := by decide
theorem ex_first:firstD exC exV = (exD 0,0) := by
 unfold firstD
 rw [if_neg (by decide),if_neg (by rw [ex_ver]; decide),ex_start]; rfl
theorem ex_ready:readyF exC (exS 2) 0 = 0 := by decide +kernel
theorem ex_step:stepF exC exV (exS 2) = exS 3 := by decide +kernel
theorem ex_close (i:Nat) (hi:i < 5) (n:Int):closeF exC exV (openF (exS i) n) = exD i := close_of (openOf _ _) (by
 match i,hi with
 | 0,_ | 1,_ | 2,_ | 3,_ | 4,_ => decide)
theorem ex_nl2:¬ lackO exC (openF (exS 2) 2) := by
 have h:(openF (exS 2) 2).depth = 0 := by decide
 unfold lackO; rw [h]; omega
theorem ex_l1:lackO exC (openF (exS 2) 1) := ⟨by decide,by decide,by decide⟩
theorem ex_b:stepD exC exV (exD 2) (openF (exS 2) 2) = (exD 3,0) := by
 obtain ⟨h1,h2⟩ := step_of (v := exV) (openOf (exS 2) 2) (by decide) ex_ready ex_nl2
 unfold stepD
 rw [if_neg ex_d2,if_neg (by rw [ex_close 2 (by decide)]; simp),if_neg (show ¬ (openF (exS 2) 2).status ≠ 0 by decide),h1,h2,ex_step]; rfl
theorem ex_j:(stepD exC exV (exD 2) (openF (exS 2) 1)).2 = 390 := by
 have h1:stepOE exC (openF (exS 2) 1) = 390 := by
  unfold stepOE
  rw [if_pos (by rw [ready_of (openOf _ _) (by decide),ex_ready]),if_pos ex_l1]
 unfold stepD
 rw [if_neg ex_d2,if_neg (by rw [ex_close 2 (by decide)]; simp),if_neg (show ¬ (openF (exS 2) 1).status ≠ 0 by decide),h1]
theorem ex_x:stepD exC exV (exD 4) (openF (exS 4) 0) = (padL,0) := by
 unfold stepD
 rw [if_neg ex_d4,if_neg (by rw [ex_close 4 (by decide)]; simp),if_pos (show (openF (exS 4) 0).status ≠ 0 by decide)]
theorem ex_m:(stepD exC exV (exD 1) (openF (exS 2) 2)).2 = 390 := by
 unfold stepD
 rw [if_neg ex_d1,if_pos (by rw [ex_close 2 (by decide)]; exact ex_d21)]
theorem ex_o:firstD [] exV = (padL,0) := rfl
end Go.Proofs.YtlleccmnjpcogaaDoor.PI
