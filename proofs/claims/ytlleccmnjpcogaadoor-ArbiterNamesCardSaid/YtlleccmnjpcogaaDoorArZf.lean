/-
  The law: where a liar is found out, the walk.
  Conditions: none; these are lemmas.
-/
import Derived.Test.YtlleccmnjpcogaaDoorArW
import Derived.Test.YtlleccmnjpcogaaDoorEngLaw
import Derived.Test.YtlleccmnjpcogaaDoorMkA
set_option linter.unusedVariables false
set_option linter.unusedSimpArgs false
namespace Go.Proofs.YtlleccmnjpcogaaDoor.PI
open Go
set_option linter.unusedSimpArgs false
set_option maxHeartbeats 8000000
set_option maxRecDepth 20000
set_option linter.unusedVariables false
theorem fill_ins (a b:Int):fillD [.int .i64 0,.int .i64 0,.int .i64 0] [(0,1,.int .i64 a),(1,1,.int .i64 b)] = some [.int .i64 a,.int .i64 b,.int .i64 0] := (rfl)
theorem fill_ins1 (a:Int):fillD [.int .i64 0,.int .i64 0,.int .i64 0] [(0,1,.int .i64 a)] = some [.int .i64 a,.int .i64 0,.int .i64 0] := (rfl)
theorem ex_lit:litD 3 [.agg [.int .i64 2,.int .i64 6,.int .i64 0],.agg [.int .i64 1,.int .i64 7,.int .i64 0],.agg [.int .i64 5,.int .i64 0,.int .i64 0],.agg [.int .i64 15,.int .i64 0,.int .i64 0]] = some (.slc 3 (exC.map insD) true) := (rfl)
noncomputable def sp_example:List D → Option D := spOf (α := Unit) (fun _ => []) (fun _ => True) (fun _ => .slc (nz 3 (exC.map insD)) (exC.map insD) false)
theorem call_example:sp_example [] = some (.slc (nz 3 (exC.map insD)) (exC.map insD) false) :=
 spOf_enc (fun _ _ _ => rfl) () trivial
theorem w_example:@wW GG (tb [] []) F_wagonpoollaw39_example.code (argF []) [] ⟨retQ F_wagonpoollaw39_example.res (.slc (nz 3 (exC.map insD)) (exC.map insD) false)⟩ := by
 unfold F_wagonpoollaw39_example
 simp (disch:=first|omega|decide) only [push_cast,↓reduceIte,Nat.reduceEqDiff,fill_ins,fill_ins1,ex_lit]
theorem c_example:Contract Tryd.prog GG 25 sp_example :=
 contract_of tr_wagonpoollaw39_example (tb_ok all_nil all_nil) (fun a h => w_example )
noncomputable def sp_few39:List D → Option D := spOf (α := List Ins × List Int) (fun a => [.slc (nz 3 (a.1.map insD)) (a.1.map insD) false,.slc (nz 1 (a.2.map nI)) (a.2.map nI) false]) (fun a => True) (fun a => .bool (decide (a.1.length ≤ 30 ∧ a.2.length ≤ 66)))
theorem call_few39 (c:List Ins) (l:List Int):sp_few39 [.slc (nz 3 (c.map insD)) (c.map insD) false,.slc (nz 1 (l.map nI)) (l.map nI) false] = some (.bool (decide (c.length ≤ 30 ∧ l.length ≤ 66))) :=
 spOf_enc (fun ⟨a0,a1⟩ ⟨b0,b1⟩ h => by simp only [List.cons.injEq,D.slc.injEq,and_true,ints_iff,code_iff] at h; simp [h]) (c,l) trivial
theorem w_few39 (c:List Ins) (l:List Int):@wW GG (tb [] []) F_wagonpoollaw39_few.code (argF [.slc (nz 3 (c.map insD)) (c.map insD) false,.slc (nz 1 (l.map nI)) (l.map nI) false]) [] ⟨retQ F_wagonpoollaw39_few.res (.bool (decide (c.length ≤ 30 ∧ l.length ≤ 66)))⟩ := by
 unfold F_wagonpoollaw39_few
 by_cases h1:c.length ≤ 30
 ·by_cases h2:l.length ≤ 66
  ·simp (disch:=first|omega|decide) only [push_cast,↓reduceIte,Nat.reduceEqDiff,show ((c.length:Int) ≤ 30) by omega,show ((l.length:Int) ≤ 66) by omega,h1,h2,and_self]
  ·simp (disch:=first|omega|decide) only [push_cast,↓reduceIte,Nat.reduceEqDiff,show ((c.length:Int) ≤ 30) by omega,show ¬ ((l.length:Int) ≤ 66) by omega,h1,h2,and_false]
 ·simp (disch:=first|omega|decide) only [push_cast,↓reduceIte,Nat.reduceEqDiff,show ¬ ((c.length:Int) ≤ 30) by omega,h1,false_and]
theorem c_few39:Contract Tryd.prog GG 10 sp_few39 :=
 contract_of tr_wagonpoollaw39_few (tb_ok all_nil all_nil) (fun a h => w_few39 a.1 a.2)
theorem fill_cl (a b:Dig):fillD [.int .u8 0,.int .u8 0,.int .u8 0,.int .u8 0,.int .u8 0,.int .u8 0,.int .u8 0,.int .u8 0,.int .u8 0,.int .u8 0,.int .u8 0,.int .u8 0,.int .u8 0,.int .u8 0,.int .u8 0,.int .u8 0,.int .u8 0,.int .u8 0,.int .u8 0,.int .u8 0,.int .u8 0,.int .u8 0,.int .u8 0,.int .u8 0,.int .u8 0,.int .u8 0,.int .u8 0,.int .u8 0,.int .u8 0,.int .u8 0,.int .u8 0,.int .u8 0,.int .u8 0,.int .u8 0,.int .u8 0,.int .u8 0,.int .u8 0,.int .u8 0,.int .u8 0,.int .u8 0,.int .u8 0,.int .u8 0,.int .u8 0,.int .u8 0,.int .u8 0,.int .u8 0,.int .u8 0,.int .u8 0,.int .u8 0,.int .u8 0,.int .u8 0,.int .u8 0,.int .u8 0,.int .u8 0,.int .u8 0,.int .u8 0,.int .u8 0,.int .u8 0,.int .u8 0,.int .u8 0,.int .u8 0,.int .u8 0,.int .u8 0,.int .u8 0] [(0,32,digD a),(32,32,digD b)] = some (digC a ++ digC b) := by
 refine (fill_mid (cs := [.int .u8 0,.int .u8 0,.int .u8 0,.int .u8 0,.int .u8 0,.int .u8 0,.int .u8 0,.int .u8 0,.int .u8 0,.int .u8 0,.int .u8 0,.int .u8 0,.int .u8 0,.int .u8 0,.int .u8 0,.int .u8 0,.int .u8 0,.int .u8 0,.int .u8 0,.int .u8 0,.int .u8 0,.int .u8 0,.int .u8 0,.int .u8 0,.int .u8 0,.int .u8 0,.int .u8 0,.int .u8 0,.int .u8 0,.int .u8 0,.int .u8 0,.int .u8 0,.int .u8 0,.int .u8 0,.int .u8 0,.int .u8 0,.int .u8 0,.int .u8 0,.int .u8 0,.int .u8 0,.int .u8 0,.int .u8 0,.int .u8 0,.int .u8 0,.int .u8 0,.int .u8 0,.int .u8 0,.int .u8 0,.int .u8 0,.int .u8 0,.int .u8 0,.int .u8 0,.int .u8 0,.int .u8 0,.int .u8 0,.int .u8 0,.int .u8 0,.int .u8 0,.int .u8 0,.int .u8 0,.int .u8 0,.int .u8 0,.int .u8 0,.int .u8 0]) (cs' := digC a ++ digC zeroDig) (A := []) (B := digC zeroDig) (C := digC zeroDig) (xs := digC a) rfl (by simp) rfl (digC_length _) rfl (digC_length _) (digC_all (fun _ => rfl) a)).trans ?_
 refine (fill_mid (cs := digC a ++ digC zeroDig) (cs' := digC a ++ digC b) (A := digC a) (B := digC zeroDig) (C := []) (xs := digC b) (by simp) (by simp) (digC_length _) (digC_length _) rfl (digC_length _) (digC_all (fun _ => rfl) b)).trans ?_
 rfl
theorem fill_17:fillD [.int .i64 0,.int .i64 0,.int .i64 0,.int .i64 0,.int .i64 0,.int .i64 0,.int .i64 0,.int .i64 0,.int .i64 0,.int .i64 0,.int .i64 0,.int .i64 0,.int .i64 0,.int .i64 0,.int .i64 0,.int .i64 0,.int .i64 0] [(0,1,.int .i64 64)] = some [.int .i64 64,.int .i64 0,.int .i64 0,.int .i64 0,.int .i64 0,.int .i64 0,.int .i64 0,.int .i64 0,.int .i64 0,.int .i64 0,.int .i64 0,.int .i64 0,.int .i64 0,.int .i64 0,.int .i64 0,.int .i64 0,.int .i64 0] := (rfl)
theorem box_17:boxD (.agg [.int .i64 0,.int .i64 0,.int .i64 0,.int .i64 0,.int .i64 0,.int .i64 0,.int .i64 0,.int .i64 0,.int .i64 0,.int .i64 0,.int .i64 0,.int .i64 0,.int .i64 0,.int .i64 0,.int .i64 0,.int .i64 0,.int .i64 0]) = some [.int .i64 0,.int .i64 0,.int .i64 0,.int .i64 0,.int .i64 0,.int .i64 0,.int .i64 0,.int .i64 0,.int .i64 0,.int .i64 0,.int .i64 0,.int .i64 0,.int .i64 0,.int .i64 0,.int .i64 0,.int .i64 0,.int .i64 0] := (rfl)
theorem idx_17:pidxA [⟨false,1,[.int .i64 64,.int .i64 0,.int .i64 0,.int .i64 0,.int .i64 0,.int .i64 0,.int .i64 0,.int .i64 0,.int .i64 0,.int .i64 0,.int .i64 0,.int .i64 0,.int .i64 0,.int .i64 0,.int .i64 0,.int .i64 0,.int .i64 0],false⟩] 16 1 (.ptr 0 1) (.int .i64 6) = some (.ptr 0 7) := (rfl)
theorem st_17:stO (some ⟨false,1,[.int .i64 0,.int .i64 0,.int .i64 0,.int .i64 0,.int .i64 0,.int .i64 0,.int .i64 0,.int .i64 0,.int .i64 0,.int .i64 0,.int .i64 0,.int .i64 0,.int .i64 0,.int .i64 0,.int .i64 0,.int .i64 0,.int .i64 0],false⟩) 17 0 (.agg [.int .i64 64,.int .i64 0,.int .i64 0,.int .i64 0,.int .i64 0,.int .i64 0,.int .i64 0,.int .i64 0,.int .i64 0,.int .i64 0,.int .i64 0,.int .i64 0,.int .i64 0,.int .i64 0,.int .i64 0,.int .i64 0,.int .i64 0]) = some ⟨false,1,[.int .i64 64,.int .i64 0,.int .i64 0,.int .i64 0,.int .i64 0,.int .i64 0,.int .i64 0,.int .i64 0,.int .i64 0,.int .i64 0,.int .i64 0,.int .i64 0,.int .i64 0,.int .i64 0,.int .i64 0,.int .i64 0,.int .i64 0],false⟩ := (rfl)
theorem st_6:stO (some ⟨false,1,[.int .i64 64,.int .i64 0,.int .i64 0,.int .i64 0,.int .i64 0,.int .i64 0,.int .i64 0,.int .i64 0,.int .i64 0,.int .i64 0,.int .i64 0,.int .i64 0,.int .i64 0,.int .i64 0,.int .i64 0,.int .i64 0,.int .i64 0],false⟩) 1 7 (.int .i64 30) = some ⟨false,1,evC exV,false⟩ := (rfl)
theorem der_solid (d:Der):solid (derD d) = true := by
 simp only [derD,derC,solid,List.all_cons,List.all_append,evC_solid]
 simp [solid1,cdD,lvD,nz_nz]
theorem keys_der (d:Der):keys (derD d) = [] := solid_keys (der_solid d)
theorem st_derX {d:Der} (hv:vOK d.env):stO (some ⟨false,1,derC nilS zEv 0 0 nilS,false⟩) 21 0 (derD d) = some ⟨false,1,derC (cdD d.code) d.env d.am d.er (lvD d.lv),false⟩ := st_der zEv_ok hv nilS _ rfl 0 0 _ _ nilS _ rfl
theorem ld_derX {d:Der} (hv:vOK d.env) (lent:Bool):ldO (some ⟨false,1,derC (cdD d.code) d.env d.am d.er (lvD d.lv),lent⟩) 21 true 0 = some (derD d) := ld_der hv lent _ _ _ _
theorem ld_derL {d:Der} (hv:vOK d.env) (lent:Bool):ldO (some ⟨false,1,derC (cdD d.code) d.env d.am d.er (lvD d.lv),lent⟩) 1 false 20 = some (lvD d.lv) := ld_der20 hv lent _ _ _ _
def exR:Der := ⟨exC,exV,210,0,[exD 0,exD 1,exD 2,exD 3,exD 4]⟩
theorem ld_exL (lent:Bool):ldO (some ⟨false,1,derC (cdD exR.code) exR.env exR.am exR.er (lvD exR.lv),lent⟩) 1 false 20 = some (.slc 32 [digD (exD 0),digD (exD 1),digD (exD 2),digD (exD 3),digD (exD 4)] false) := ld_derL (d := exR) rfl lent
theorem exR_x0 (st:St):pidxS st 32 (.slc 32 [digD (exD 0),digD (exD 1),digD (exD 2),digD (exD 3),digD (exD 4)] false) (.int .i64 0) = some (.eptr (digD (exD 0)) 0) := (rfl)
theorem exR_x1 (st:St):pidxS st 32 (.slc 32 [digD (exD 0),digD (exD 1),digD (exD 2),digD (exD 3),digD (exD 4)] false) (.int .i64 1) = some (.eptr (digD (exD 1)) 0) := (rfl)
theorem exR_x2 (st:St):pidxS st 32 (.slc 32 [digD (exD 0),digD (exD 1),digD (exD 2),digD (exD 3),digD (exD 4)] false) (.int .i64 2) = some (.eptr (digD (exD 2)) 0) := (rfl)
theorem exR_x3 (st:St):pidxS st 32 (.slc 32 [digD (exD 0),digD (exD 1),digD (exD 2),digD (exD 3),digD (exD 4)] false) (.int .i64 3) = some (.eptr (digD (exD 3)) 0) := (rfl)
theorem exR_x4 (st:St):pidxS st 32 (.slc 32 [digD (exD 0),digD (exD 1),digD (exD 2),digD (exD 3),digD (exD 4)] false) (.int .i64 4) = some (.eptr (digD (exD 4)) 0) := (rfl)
theorem fill_clT (a b:Dig):fillD (.int .u8 0 :: .int .u8 0 :: .int .u8 0 :: .int .u8 0 :: .int .u8 0 :: .int .u8 0 :: .int .u8 0 :: .int .u8 0 :: .int .u8 0 :: .int .u8 0 :: .int .u8 0 :: .int .u8 0 :: .int .u8 0 :: .int .u8 0 :: .int .u8 0 :: .int .u8 0 :: .int .u8 0 :: .int .u8 0 :: .int .u8 0 :: .int .u8 0 :: .int .u8 0 :: .int .u8 0 :: .int .u8 0 :: .int .u8 0 :: .int .u8 0 :: .int .u8 0 :: .int .u8 0 :: .int .u8 0 :: .int .u8 0 :: .int .u8 0 :: .int .u8 0 :: .int .u8 0 :: digC zeroDig) [(0,32,digD a),(32,32,digD b)] = some (digC a ++ digC b) := fill_cl a b
theorem immL_cl (st:St) (a b:Dig):immL st (digC a ++ digC b) = some (digC a ++ digC b) := solid1_immL st (boxC_solid (a,b))
theorem key_cl (a b:Dig):keys (.agg (digC a ++ digC b)) = [] := solid_keys (cl_solid (a,b))
noncomputable def sp_sane39:List D → Option D := spOf (α := Unit) (fun _ => []) (fun _ => True) (fun _ => .bool true)
theorem call_sane39:sp_sane39 [] = some (.bool true) :=
 spOf_enc (fun _ _ _ => rfl) () trivial
theorem w_sane39:@wW GG (tb [(25,sp_example),(9,sp_run),(16,sp_state),(15,sp_aFirst),(17,sp_aStep),(18,sp_vOpen),(14,sp_mPad)] []) F_wagonpoollaw39_sane.code (argF []) [] ⟨retQ F_wagonpoollaw39_sane.res (.bool true)⟩ := by
 have c0 := call_example
 have c1 := call_run exC exV ⟨by decide,rfl⟩
 rw [ex_run,ex_ver] at c1
 have c2 := call_state exR 2 ⟨by decide,rfl⟩
 have c3 := call_state exR 4 ⟨by decide,rfl⟩
 rw [show exR.code = exC from rfl,show exR.env = exV from rfl] at c2 c3
 rw [ex_sta2] at c2
 rw [ex_sta4] at c3
 rw [show (Der.mk exC exV 210 0 [exD 0,exD 1,exD 2,exD 3,exD 4]) = exR from rfl] at c1
 have cp := call_mPad
 have hv:vOK exV := rfl
 have hvR:vOK exR.env := rfl
 dsimp only at c1 c2 c3
 have o2 := call_vOpen (exS 2) 2 (by decide)
 have o1 := call_vOpen (exS 2) 1 (by decide)
 have o4 := call_vOpen (exS 4) 0 (by decide)
 have f1:sp_aFirst [.slc (nz 3 (exC.map insD)) (exC.map insD) false,evD exV,.agg (digC (exD 0) ++ digC (exD 1))] = some (.tup [.agg (.int .i64 0 :: digC (exD 0)),.int .i64 0]) := by
  have := call_aFirst exC exV (exD 0,exD 1) ⟨by decide,rfl⟩
  rw [ex_first,show verdF (exD 0,exD 1) (exD 0,0) = (0,exD 0) by unfold verdF judgeF; rw [if_pos rfl,if_pos rfl]] at this
  exact this
 have g1:sp_aStep [.slc (nz 3 (exC.map insD)) (exC.map insD) false,evD exV,digD (exD 2),.agg (digC (exD 4) ++ digC (exD 3)),opnD (openF (exS 2) 2)] = some (.tup [.agg (.int .i64 1 :: digC (exD 3)),.int .i64 0]) := by
  have := call_aStep exC exV (exD 2) (exD 4,exD 3) (openF (exS 2) 2) ⟨by decide,rfl,by decide⟩
  rw [ex_b,show verdF (exD 4,exD 3) (exD 3,0) = (1,exD 3) by unfold verdF judgeF; rw [if_pos rfl,if_neg ex_d43,if_pos rfl]] at this
  exact this
 have g2:∃ p d,sp_aStep [.slc (nz 3 (exC.map insD)) (exC.map insD) false,evD exV,digD (exD 2),.agg (digC (exD 4) ++ digC (exD 3)),opnD (openF (exS 2) 1)] = some (.tup [.agg (.int .i64 p :: digC d),.int .i64 390]) := by
  have := call_aStep exC exV (exD 2) (exD 4,exD 3) (openF (exS 2) 1) ⟨by decide,rfl,by decide⟩
  rw [ex_j] at this
  exact ⟨_,_,this⟩
 have g3:sp_aStep [.slc (nz 3 (exC.map insD)) (exC.map insD) false,evD exV,digD (exD 4),.agg (digC (exD 4) ++ digC padL),opnD (openF (exS 4) 0)] = some (.tup [.agg (.int .i64 1 :: digC padL),.int .i64 0]) := by
  have := call_aStep exC exV (exD 4) (exD 4,padL) (openF (exS 4) 0) ⟨by decide,rfl,by decide⟩
  rw [ex_x,show verdF (exD 4,padL) (padL,0) = (1,padL) by unfold verdF judgeF; rw [if_pos rfl,if_neg ex_d4,if_pos rfl]] at this
  exact this
 have g4:∃ p d,sp_aStep [.slc (nz 3 (exC.map insD)) (exC.map insD) false,evD exV,digD (exD 1),.agg (digC (exD 4) ++ digC (exD 3)),opnD (openF (exS 2) 2)] = some (.tup [.agg (.int .i64 p :: digC d),.int .i64 390]) := by
  have := call_aStep exC exV (exD 1) (exD 4,exD 3) (openF (exS 2) 2) ⟨by decide,rfl,by decide⟩
  rw [ex_m] at this
  exact ⟨_,_,this⟩
 have f2:sp_aFirst [.slc 0 [] false,evD exV,.agg (digC (exD 0) ++ digC (exD 1))] = some (.tup [.agg (.int .i64 (-1) :: digC padL),.int .i64 0]) := by
  have := call_aFirst [] exV (exD 0,exD 1) ⟨by decide,rfl⟩
  rw [ex_o,show verdF (exD 0,exD 1) (padL,0) = (-1,padL) by unfold verdF judgeF; rw [if_pos rfl,if_neg ex_d0,if_neg ex_d1]] at this
  exact this
 obtain ⟨p2,d2,g2⟩ := g2
 obtain ⟨p4,d4,g4⟩ := g4
 unfold F_wagonpoollaw39_sane
 simp (disch:=first|omega|decide) only [push_cast,↓reduceIte,Nat.reduceEqDiff,Nat.reduceAdd,Int.reduceNeg,Int.reduceAdd,↓Int.reduceNatCast',c0,fill_17,box_17,idx_17,st_17,st_6,ld_ev hv,imm_ev,keys_ev,c1,box_21,st_derX hvR,ld_derX hvR,ld_exL,imm_der,keys_der,c2,c3,box_sta0,st_sta0,ld_sta,imm_sta,keys_sta,exR_x0,exR_x1,exR_x2,exR_x3,exR_x4,fill_clT,immL_cl,key_cl,f1,f2,g1,g2,g3,g4,o1,o2,o4,imm_opn,keys_opn,cp,fill_ver]
theorem c_sane39:Contract Tryd.prog GG 8 sp_sane39 :=
 contract_of tr_wagonpoollaw39_sane (tb_ok (all_cons c_example (all_cons c_run (all_cons c_state (all_cons c_aFirst (all_cons c_aStep (all_cons c_vOpen (all_cons c_mPad all_nil))))))) all_nil) (fun a h => w_sane39 )
end Go.Proofs.YtlleccmnjpcogaaDoor.PI
namespace Go.Proofs.YtlleccmnjpcogaaDoor.PI
open Go
set_option linter.unusedSimpArgs false
set_option linter.unusedVariables false
def tDig:Ty := .agg (List.replicate 32 (.int .u8))
def tyIns:Ty := .agg [.int .i64,.int .i64,.int .i64]
def tyEv:Ty := .agg [.int .i64,.agg (List.replicate 16 (.int .i64))]
theorem has_nI {d:D} (h:Has (.int .i64) d):∃ n:Int,d = nI n := by
 obtain ⟨n,rfl,_⟩ := has_i64 h
 exact ⟨n,rfl⟩
theorem has_ins {d:D} (h:Has tyIns d):∃ x:Ins,d = insD x := by
 obtain ⟨x,y,z,rfl,h1,h2,h3⟩ := has_agg3 h
 obtain ⟨a,rfl,_⟩ := has_i64 h1
 obtain ⟨b,rfl,_⟩ := has_i64 h2
 obtain ⟨c,rfl,_⟩ := has_i64 h3
 exact ⟨⟨a,b,c⟩,rfl⟩
theorem has_code {d:D} (h:Has (.slc tyIns) d):∃ l:List Ins,d = .slc (nz 3 (l.map insD)) (l.map insD) false ∧ l.length ≤ maxLen :=
 has_slc (f := insD) (fun _ => has_ins) h
theorem has_ints16 {d:D} (h:Has (.agg (List.replicate 16 (.int .i64))) d):∃ l:List Int,d = .agg (l.map nI) ∧ l.length = 16 := by
 cases h with
 | agg _ xs h1 h2 =>
  obtain ⟨l,rfl⟩ := lift_map (f := nI) (els := xs) fun x hx => by
   obtain ⟨i,hi⟩ := List.getElem?_of_mem hx
   have hlt:i < 16 := by
    have := (List.getElem?_eq_some_iff.1 hi).1
    rw [← h1,List.length_replicate] at this
    exact this
   exact has_nI (h2 i (.int .i64) x (by rw [List.getElem?_replicate,if_pos hlt]) hi)
  rw [List.length_replicate,List.length_map] at h1
  refine ⟨l,?_,h1.symm⟩
  have:∀ l:List Int,(l.map nI).flatMap D.cells = l.map nI := by
   intro l
   induction l with
   | nil => rfl
   | cons a r ih => simp only [List.map_cons,List.flatMap_cons,ih]; rfl
  rw [this]
theorem has_ev {d:D} (h:Has tyEv d):∃ v:Int × List Int,d = evD v ∧ v.2.length = 16 := by
 obtain ⟨x,y,rfl,h1,h2⟩ := has_agg2 h
 obtain ⟨n,rfl,_⟩ := has_i64 h1
 obtain ⟨l,rfl,hl⟩ := has_ints16 h2
 exact ⟨(n,l),rfl,hl⟩
theorem maxL:maxLen ≤ 9223372036854775807 := by decide
end Go.Proofs.YtlleccmnjpcogaaDoor.PI
namespace Go.Proofs.YtlleccmnjpcogaaDoor.PI
open Go
set_option linter.unusedSimpArgs false
set_option linter.unusedVariables false
theorem step_of_open {c:List Ins} {v:Int × List Int} {s:Sta} {b:Dig} (n:Int) (hl:s.stack.length ≤ 64) (hb:b = digF c v s) (hp:¬ b = padL) :
  stepD c v b (openF s n) = if s.status ≠ 0 then (padL,0) else (closeF c v (stepOF c v (openF s n)),stepOE c (openF s n)) := by
 unfold stepD
 rw [if_neg hp,if_neg (by rw [close_of (openOf s n) hl,hb]; simp)]
 rfl
theorem step_ok {c:List Ins} {v:Int × List Int} {s:Sta} {b:Dig} (n:Int) (hl:s.stack.length ≤ 64) (hb:b = digF c v s) (hp:¬ b = padL) (hs:s.status = 0) (hr:readyF c s 0 = 0) (hk:¬ lackO c (openF s n)) :
  stepD c v b (openF s n) = (digF c v (stepF c v s),0) := by
 obtain ⟨h1,h2⟩ := step_of (v := v) (openOf s n) hl hr hk
 rw [step_of_open n hl hb hp,if_neg (by simp [hs]),h1,h2]
theorem lack_n {c:List Ins} {s:Sta} {n:Int} (h:lackO c (openF s n)):max n 0 < needF (insAt c s).op := by
 obtain ⟨_,h2,h3⟩ := h
 rw [ins_of c (openOf s n)] at h3
 have ht:((openF s n).top.length:Int) = s.stack.length - openK s n := by
  have := openK_le s n
  simp only [openF,List.length_drop]
  omega
 have hd:(openF s n).depth = (openK s n:Int) := rfl
 rw [ht] at h3
 rw [hd] at h2
 unfold openK at h2 h3
 omega
end Go.Proofs.YtlleccmnjpcogaaDoor.PI
namespace Go.Proofs.YtlleccmnjpcogaaDoor.PI
open Go
set_option linter.unusedSimpArgs false
set_option linter.unusedVariables false
def padB (l:List Dig):Bool := l.any fun d => decide (d = padL)
theorem padB_drop (l:List Dig) {i:Nat} (h:i < l.length):padB (l.drop i) = (decide (l.getD i default = padL) || padB (l.drop (i + 1))) := by
 rw [drop_cons l h]; rfl
theorem padB_no {l:List Dig} (h:padB l = false):∀ d ∈ l,¬ d = padL := by
 intro d hd e
 have := List.any_eq_false.1 h d hd
 simp [e] at this
noncomputable def sp_padded39:List D → Option D := spOf (α := List Dig) (fun a => [.slc (nz 32 (a.map digD)) (a.map digD) false]) (fun a => a.length ≤ 4294967296) (fun a => .bool (padB a))
theorem call_padded39 (l:List Dig) (h:l.length ≤ 4294967296):sp_padded39 [.slc (nz 32 (l.map digD)) (l.map digD) false] = some (.bool (padB l)) :=
 spOf_enc (fun a b h => by simp only [List.cons.injEq,D.slc.injEq,digs_iff,and_true] at h; simp [h]) (l) h
set_option maxHeartbeats 4000000 in
set_option maxRecDepth 20000 in
theorem w_padded39 (l:List Dig) (h:l.length ≤ 4294967296):@wW GG (tb [(14,sp_mPad)] []) F_wagonpoollaw39_padded.code (argF [.slc (nz 32 (l.map digD)) (l.map digD) false]) [] ⟨retQ F_wagonpoollaw39_padded.res (.bool (padB l))⟩ := by
 have cp := call_mPad
 unfold F_wagonpoollaw39_padded
 simp (disch:=first|omega|decide) only [push_cast]
 refine W_while (fun i:Nat => [(0,.slc (nz 32 (l.map digD)) (l.map digD) false),(3,.int .i64 (i:Int))]) (fun i => []) (fun i => i ≤ l.length ∧ padB l = padB (l.drop i)) (fun i => l.length - i) 0 (by simp only [push_cast,↓reduceIte,Nat.reduceEqDiff,↓Int.reduceNatCast'] <;> rfl) ⟨by omega,rfl⟩ ?_
 rintro i ⟨hi,hb⟩
 unfold F_wagonpoollaw39_padded_L0
 simp (disch:=first|omega|decide) only [push_cast,↓reduceIte,Nat.reduceEqDiff]
 refine ifD_split (fun h2 => ?_) (fun h2 => ?_)
 ·have hil:i < l.length := by omega
  rw [padB_drop l hil] at hb
  by_cases q:l.getD i default = padL
  ·simp only [q,decide_true,Bool.true_or] at hb
   rw [hb]
   simp (disch:=first|omega|decide) only [push_cast,↓reduceIte,Nat.reduceEqDiff,idxS_nz,cp,q]
  ·simp only [q,decide_false,Bool.false_or] at hb
   simp (disch:=first|omega|decide) only [push_cast,↓reduceIte,Nat.reduceEqDiff,idxS_nz,cp,q,add_i]
   refine next_head (i + 1) (by exact ⟨by omega,hb⟩) (by omega) ?_
   simp only [push_cast] <;> rfl
 ·obtain rfl:i = l.length := by omega
  rw [hb,List.drop_length]
  simp (disch:=first|omega|decide) only [push_cast,↓reduceIte]
  rfl
theorem c_padded39:Contract Tryd.prog GG 19 sp_padded39 :=
 contract_of tr_wagonpoollaw39_padded (tb_ok (all_cons c_mPad all_nil) all_nil) (fun a h => w_padded39 a h)
theorem RunOK.get {c:List Ins} {v:Int × List Int}:∀ {l:List Sta} {i:Nat} {s:Sta},RunOK c v l → l[i]? = some s → (i + 1 < l.length → s.status = 0 ∧ readyF c s 0 = 0 ∧ l[i + 1]? = some (stepF c v s)) ∧ (i + 1 = l.length → s.status ≠ 0)
 | [],i,s,h,_ => h.elim
 | [x],i,s,h,hi => by
  cases i with
  | zero =>
   obtain rfl := Option.some.inj hi
   exact ⟨fun q => by simp at q,fun _ => h⟩
  | succ i => simp at hi
 | x :: y :: l,i,s,h,hi => by
  obtain ⟨h1,h2,h3,h4⟩ := h
  cases i with
  | zero =>
   obtain rfl := Option.some.inj hi
   exact ⟨fun _ => ⟨h1,h2,by rw [h3]; rfl⟩,fun q => by simp at q⟩
  | succ i =>
   have := RunOK.get h4 (i := i) (s := s) (by simpa using hi)
   refine ⟨fun q => ?_,fun q => this.2 (by simpa using q)⟩
   obtain ⟨a,b,d⟩ := this.1 (by simpa using q)
   exact ⟨a,b,by simpa using d⟩
theorem need_2 (op:Int):needF op ≤ 2 := by
 unfold needF
 split
 ·decide
 ·split <;> decide
theorem next_mine {c:List Ins} {v:Int × List Int} {t:List Sta} (hr:RunOK c v t) (hl:∀ x ∈ t,x.stack.length ≤ 64) {i:Nat} {s:Sta} (hi:t[i]? = some s) (hp:¬ digF c v s = padL) :
  stepD c v (digF c v s) (openF s 2) = (((t.map (digF c v))[i + 1]?).getD padL,0) := by
 have hs := hl s (List.mem_of_getElem? hi)
 obtain ⟨g1,g2⟩ := hr.get hi
 have hlt:i < t.length := (List.getElem?_eq_some_iff.1 hi).1
 rw [List.getElem?_map]
 by_cases q:i + 1 < t.length
 ·obtain ⟨h1,h2,h3⟩ := g1 q
  rw [step_ok 2 hs rfl hp h1 h2 (fun lk => by have := lack_n lk; have := need_2 (insAt c s).op; omega),h3]
  rfl
 ·have h1 := g2 (by omega)
  rw [step_of_open 2 hs rfl hp,if_pos h1,List.getElem?_eq_none (by omega)]
  rfl
theorem trace_len {c:List Ins} {v:Int × List Int} (hv:(verifyF c).2 = 0):∀ x ∈ traceL c v,x.stack.length ≤ 64 := by
 obtain ⟨D,l,hD,ht,_,_,hg⟩ := trace_ok (v := v) hv
 rw [ht]
 intro x hx
 rcases hg x hx with h | h
 ·exact h.len hD
 ·exact h.l
theorem judge_mine (m o:Dig) (second:Bool):judgeF (if second = true then (o,m) else (m,o)) m = if o = m then 0 else if second = true then 1 else 0 := by
 unfold judgeF
 cases second <;> by_cases h:o = m <;> simp [h]
end Go.Proofs.YtlleccmnjpcogaaDoor.PI
namespace Go.Proofs.YtlleccmnjpcogaaDoor.PI
open Go
set_option linter.unusedSimpArgs false
set_option linter.unusedVariables false
theorem conv_kU (st:St) (k:Int):pconv st (.int .u64) (.int .i64 k) = some (.int .u64 (k % 18446744073709551616)) := (rfl)
theorem rem_uA {a b:Int} (hb:0 < b) (ha:0 ≤ a):pbin .rem (.int .u64 a) (.int .u64 b) = some (.int .u64 (a % b)) := by
 have h3:a.tmod b = a % b := Int.tmod_eq_emod_of_nonneg ha
 simp only [pbin,if_true,iarith,show ¬ b = 0 by omega,if_false,Option.map_some,h3]
theorem box_cl0:boxD (.agg (.int .u8 0 :: .int .u8 0 :: .int .u8 0 :: .int .u8 0 :: .int .u8 0 :: .int .u8 0 :: .int .u8 0 :: .int .u8 0 :: .int .u8 0 :: .int .u8 0 :: .int .u8 0 :: .int .u8 0 :: .int .u8 0 :: .int .u8 0 :: .int .u8 0 :: .int .u8 0 :: .int .u8 0 :: .int .u8 0 :: .int .u8 0 :: .int .u8 0 :: .int .u8 0 :: .int .u8 0 :: .int .u8 0 :: .int .u8 0 :: .int .u8 0 :: .int .u8 0 :: .int .u8 0 :: .int .u8 0 :: .int .u8 0 :: .int .u8 0 :: .int .u8 0 :: .int .u8 0 :: digC zeroDig)) = some (digC zeroDig ++ digC zeroDig) := (rfl)
theorem st_clA (a b a' b':Dig):stO (some ⟨false,1,digC a ++ digC b,false⟩) 64 0 (.agg (digC a' ++ digC b')) = some ⟨false,1,digC a' ++ digC b',false⟩ := stO_all 1 _ _ 64 (cl_length (a,b)) (cl_length (a',b')) (cl_cell (a',b'))
theorem ld_clA (lent:Bool) (a b:Dig):ldO (some ⟨false,1,digC a ++ digC b,lent⟩) 64 true 0 = some (.agg (digC a ++ digC b)) := ld_cl lent (a,b)
end Go.Proofs.YtlleccmnjpcogaaDoor.PI
namespace Go.Proofs.YtlleccmnjpcogaaDoor.PI
open Go
set_option linter.unusedSimpArgs false
set_option linter.unusedVariables false
def badL (l:List Dig):List Dig → Nat → Option Nat
 | [],_ => none
 | x :: r,i => if i < l.length ∧ l.getD i default = x then badL l r (i + 1) else some i
theorem badL_drop (l t:List Dig) {i:Nat} (h:i < t.length):badL l (t.drop i) i = if i < l.length ∧ l.getD i default = t.getD i default then badL l (t.drop (i + 1)) (i + 1) else some i := by
 rw [drop_cons t h]; rfl
theorem derC_solid (d:Der):(derC (cdD d.code) d.env d.am d.er (lvD d.lv)).all solid1 = true := der_solid d
theorem renC_der (m:Nat) (σ:List Nat) (d:Der):(derC (cdD d.code) d.env d.am d.er (lvD d.lv)).map (ren m σ) = derC (cdD d.code) d.env d.am d.er (lvD d.lv) := renB_solid m σ (derC_solid d)
theorem hkC_der (d:Der):(derC (cdD d.code) d.env d.am d.er (lvD d.lv)).flatMap hk = [] := by
 have h := derC_solid d
 generalize derC (cdD d.code) d.env d.am d.er (lvD d.lv) = l at h
 induction l with
 | nil => rfl
 | cons a l ih =>
  simp only [List.all_cons,Bool.and_eq_true] at h
  rw [List.flatMap_cons,ih h.2,solid_hk (solid1_solid h.1)]; rfl
def checkE (d:Der) (R:Der):Int × Int := match badL d.lv R.lv 0 with
 | some i => (i,300)
 | none => if R.lv.length < d.lv.length then (R.lv.length,300) else if d.am = R.am ∧ d.er = R.er then (0,0) else ((R.lv.length:Int) - 1,300)
noncomputable def sp_check:List D → Option D := spOf (α := Der) (fun a => [derD a]) (fun a => (verifyF a.code).2 = 0 ∧ vOK a.env ∧ a.lv.length ≤ 4294967296) (fun a => .tup [.int .i64 (checkE a (runF a.code a.env)).1,.int .i64 (checkE a (runF a.code a.env)).2])
theorem call_check (d:Der) (h:(verifyF d.code).2 = 0 ∧ vOK d.env ∧ d.lv.length ≤ 4294967296):sp_check [derD d] = some (.tup [.int .i64 (checkE d (runF d.code d.env)).1,.int .i64 (checkE d (runF d.code d.env)).2]) :=
 spOf_enc (fun a b h => by simp only [List.cons.injEq,and_true,derD_iff] at h; simp [h]) (d) h
set_option maxHeartbeats 4000000 in
set_option maxRecDepth 20000 in
theorem w_check (d:Der) (h:(verifyF d.code).2 = 0 ∧ vOK d.env ∧ d.lv.length ≤ 4294967296):@wW GG (tb [(9,sp_run)] []) F_derive_Check.code (argF [derD d]) [] ⟨retQ F_derive_Check.res (.tup [.int .i64 (checkE d (runF d.code d.env)).1,.int .i64 (checkE d (runF d.code d.env)).2])⟩ := by
 obtain ⟨he,hv,hlv⟩ := h
 obtain ⟨hcl,hcn,hfm,_⟩ := verify_ok he
 obtain ⟨Dm,tl,hD,ht,hr,hll,hg⟩ := trace_ok (v := d.env) he
 have cr := call_run d.code d.env ⟨by omega,hv⟩
 obtain ⟨R,hR⟩:∃ R,runF d.code d.env = R := ⟨_,rfl⟩
 have hvR:vOK R.env := by rw [← hR]; unfold runF; rw [if_pos he]; exact hv
 have hLR:R.lv.length = tl.length + 1 := by rw [← hR]; unfold runF; rw [if_pos he,ht]; simp
 rw [hR,he] at cr
 rw [hR]
 have n0:¬ (d.code.length:Int) = 0 := by omega
 have l0:∀ lent,ldO (some ⟨false,1,derC (cdD d.code) d.env d.am d.er (lvD d.lv),lent⟩) 1 false 0 = some (.slc (nz 3 (d.code.map insD)) (d.code.map insD) false) := fun lent => ld_der0 d.env lent (cdD d.code) (lvD d.lv) d.am d.er
 have l1 := fun lent => ld_der1 hv lent (cdD d.code) (lvD d.lv) d.am d.er
 have lR:∀ lent,ldO (some ⟨false,1,derC (cdD R.code) R.env R.am R.er (lvD R.lv),lent⟩) 1 false 20 = some (.slc (nz 32 (R.lv.map digD)) (R.lv.map digD) false) := fun lent => ld_derL hvR lent
 have ld:∀ lent,ldO (some ⟨false,1,derC (cdD d.code) d.env d.am d.er (lvD d.lv),lent⟩) 1 false 20 = some (.slc (nz 32 (d.lv.map digD)) (d.lv.map digD) false) := fun lent => ld_derL hv lent
 unfold F_derive_Check
 simp (disch:=first|omega|decide) only [push_cast,↓reduceIte,Nat.reduceEqDiff,box_der,box_21,n0,l0,l1,imm_ev,keys_ev,cr,st_derX hvR,lR]
 refine W_while (fun i:Nat => [(1,.ptr 0 0),(4,.ptr 1 0),(39,.slc (nz 32 (R.lv.map digD)) (R.lv.map digD) false),(40,.int .i64 (R.lv.length:Int)),(41,.int .i64 (i:Int))]) (fun i => [⟨false,1,derC (cdD d.code) d.env d.am d.er (lvD d.lv),false⟩,⟨false,1,derC (cdD R.code) R.env R.am R.er (lvD R.lv),false⟩])
  (fun i => i ≤ R.lv.length ∧ badL d.lv R.lv 0 = badL d.lv (R.lv.drop i) i) (fun i => R.lv.length - i) 0 (by simp only [push_cast,↓reduceIte,Nat.reduceEqDiff,Nat.reduceLT,Nat.reduceLeDiff,Nat.reduceAdd,↓Int.reduceNatCast',renC_der,hkC_der] <;> rfl) ⟨by omega,rfl⟩ ?_
 rintro i ⟨hi,hb⟩
 unfold F_derive_Check_L0
 simp (disch:=first|omega|decide) only [push_cast,↓reduceIte,Nat.reduceEqDiff]
 refine ifD_split (fun h2 => ?_) (fun h2 => ?_)
 ·have hil:i < R.lv.length := by omega
  rw [badL_drop _ _ hil] at hb
  by_cases q1:i < d.lv.length
  ·have q1':¬ (d.lv.length:Int) ≤ (i:Int) := by omega
   by_cases q2:d.lv.getD i default = R.lv.getD i default
   ·rw [if_pos ⟨q1,q2⟩] at hb
    simp (disch:=first|omega|decide) only [push_cast,↓reduceIte,Nat.reduceEqDiff,Nat.reduceLT,Nat.reduceLeDiff,Nat.reduceAdd,idxS_nz,ld,q1',q2,add_i,renC_der,hkC_der]
    refine next_head (i + 1) (by exact ⟨by omega,hb⟩) (by omega) ?_
    simp only [push_cast] <;> rfl
   ·rw [if_neg (fun x => q2 x.2)] at hb
    rw [show checkE d R = ((i:Int),300) by unfold checkE; rw [hb]]
    simp (disch:=first|omega|decide) only [push_cast,↓reduceIte,Nat.reduceEqDiff,Nat.reduceAdd,idxS_nz,ld,q1',q2]
  ·have q1':(d.lv.length:Int) ≤ (i:Int) := by omega
   rw [if_neg (fun x => q1 x.1)] at hb
   rw [show checkE d R = ((i:Int),300) by unfold checkE; rw [hb]]
   simp (disch:=first|omega|decide) only [push_cast,↓reduceIte,Nat.reduceEqDiff,Nat.reduceAdd,idxS_nz,ld,q1']
 ·obtain rfl:i = R.lv.length := by omega
  rw [List.drop_length,badL] at hb
  have dR:∀ lent,ldO (some ⟨false,1,derC (cdD R.code) R.env R.am R.er (lvD R.lv),lent⟩) 1 false 18 = some (.int .i64 R.am) := fun lent => ld_der18 hvR lent _ _ _ _
  have eR:∀ lent,ldO (some ⟨false,1,derC (cdD R.code) R.env R.am R.er (lvD R.lv),lent⟩) 1 false 19 = some (.int .i64 R.er) := fun lent => ld_der19 hvR lent _ _ _ _
  have dd:∀ lent,ldO (some ⟨false,1,derC (cdD d.code) d.env d.am d.er (lvD d.lv),lent⟩) 1 false 18 = some (.int .i64 d.am) := fun lent => ld_der18 hv lent _ _ _ _
  have ed:∀ lent,ldO (some ⟨false,1,derC (cdD d.code) d.env d.am d.er (lvD d.lv),lent⟩) 1 false 19 = some (.int .i64 d.er) := fun lent => ld_der19 hv lent _ _ _ _
  by_cases q1:R.lv.length < d.lv.length
  ·have q1':(R.lv.length:Int) < (d.lv.length:Int) := by omega
   rw [show checkE d R = ((R.lv.length:Int),300) by unfold checkE; rw [hb]; simp only [if_pos q1]]
   simp (disch:=first|omega|decide) only [push_cast,↓reduceIte,Nat.reduceEqDiff,Nat.reduceAdd,lR,ld,q1']
  ·have q1':¬ (R.lv.length:Int) < (d.lv.length:Int) := by omega
   by_cases q2:d.am = R.am
   ·by_cases q3:d.er = R.er
    ·rw [show checkE d R = (0,0) by unfold checkE; rw [hb]; simp only [if_neg q1,if_pos (And.intro q2 q3)]]
     simp (disch:=first|omega|decide) only [push_cast,↓reduceIte,Nat.reduceEqDiff,Nat.reduceAdd,lR,ld,q1',dR,eR,dd,ed,eq_true q2,eq_true q3]
    ·rw [show checkE d R = ((R.lv.length:Int) - 1,300) by unfold checkE; rw [hb]; simp only [if_neg q1,if_neg (fun x:d.am = R.am ∧ d.er = R.er => q3 x.2)]]
     simp (disch:=first|omega|decide) only [push_cast,↓reduceIte,Nat.reduceEqDiff,Nat.reduceAdd,lR,ld,q1',dR,eR,dd,ed,eq_true q2,eq_false q3,sub_i]
   ·rw [show checkE d R = ((R.lv.length:Int) - 1,300) by unfold checkE; rw [hb]; simp only [if_neg q1,if_neg (fun x:d.am = R.am ∧ d.er = R.er => q2 x.1)]]
    simp (disch:=first|omega|decide) only [push_cast,↓reduceIte,Nat.reduceEqDiff,Nat.reduceAdd,lR,ld,q1',dR,dd,eq_false q2,sub_i]
theorem c_check:Contract Tryd.prog GG 21 sp_check :=
 contract_of tr_derive_Check (tb_ok (all_cons c_run all_nil) all_nil) (fun a h => w_check a h)
end Go.Proofs.YtlleccmnjpcogaaDoor.PI
namespace Go.Proofs.YtlleccmnjpcogaaDoor.PI
open Go
set_option linter.unusedSimpArgs false
set_option linter.unusedVariables false
theorem or_b (x y:UInt8):pbin .or (byteD x) (byteD y) = some (byteD (x ||| y)) := by
 have h:(BitVec.ofInt (IntKind.bits .u8) (x.toNat:Int) ||| BitVec.ofInt (IntKind.bits .u8) (y.toNat:Int)).toNat = (x ||| y).toNat := by
  show (BitVec.ofInt 8 (x.toNat:Int) ||| BitVec.ofInt 8 (y.toNat:Int)).toNat = _
  rw [bv_b,bv_b]; rfl
 have hm:(x ||| y).toNat % 2 ^ 8 = (x ||| y).toNat := Nat.mod_eq_of_lt (x ||| y).toNat_lt
 simp only [pbin,byteD,if_true,ibits,Option.map_some,h,wrap_u8,hm]
theorem xor_b (x y:UInt8):pbin .xor (byteD x) (byteD y) = some (byteD (x ^^^ y)) := by
 have h:(BitVec.ofInt (IntKind.bits .u8) (x.toNat:Int) ^^^ BitVec.ofInt (IntKind.bits .u8) (y.toNat:Int)).toNat = (x ^^^ y).toNat := by
  show (BitVec.ofInt 8 (x.toNat:Int) ^^^ BitVec.ofInt 8 (y.toNat:Int)).toNat = _
  rw [bv_b,bv_b]; rfl
 have hm:(x ^^^ y).toNat % 2 ^ 8 = (x ^^^ y).toNat := Nat.mod_eq_of_lt (x ^^^ y).toNat_lt
 simp only [pbin,byteD,if_true,ibits,Option.map_some,h,wrap_u8,hm]
def flipD (d:Dig) (p:Nat) (x:UInt8):Dig := ⟨d.bs.set p (d.bs.getD p 0 ^^^ x),by rw [List.length_set]; exact d.len⟩
theorem flip_ne (d:Dig) {p:Nat} (hp:p < 32) {x:UInt8} (hx:x ≠ 0):flipD d p x ≠ d := by
 intro e
 have h1:(flipD d p x).bs.getD p 0 = d.bs.getD p 0 := by rw [e]
 have hl:p < d.bs.length := by rw [d.len]; exact hp
 simp only [flipD,List.getD_eq_getElem?_getD,List.getElem?_set_self hl,Option.getD_some] at h1
 have h2:d.bs.getD p 0 ^^^ (d.bs.getD p 0 ^^^ x) = d.bs.getD p 0 ^^^ d.bs.getD p 0 := by
  rw [List.getD_eq_getElem?_getD,h1]
 rw [← UInt8.xor_assoc,UInt8.xor_self,UInt8.zero_xor] at h2
 exact hx h2
theorem or1_ne (x:UInt8):(1:UInt8) ||| x ≠ 0 := by
 intro e
 have h1:((1:UInt8) ||| x) &&& 1 = 1 := by
  apply UInt8.eq_of_toBitVec_eq
  show ((1#8 ||| x.toBitVec) &&& 1#8) = 1#8
  ext i hi
  simp
  intro h
  exact .inl h
 rw [e] at h1
 exact absurd h1 (by decide)
def stRB (o:Option PI.Obj) (tot i p:Nat) (v:UInt8):Option PI.Obj := o.bind fun o => if o.row && !o.lent && o.els.length == tot then (o.els[i]?).bind fun el => (setEl el p [byteD v]).map fun el' => { o with els := o.els.set i el' } else none
theorem pstor_rb (st:St) (key tot i p:Nat) (v:UInt8):pstor st 1 (.rptr key tot i p) (byteD v) = (stRB st[key]? tot i p v).map fun o => st.set key o := by
 have h1:imm st (byteD v) = some (byteD v) := imm_int ..
 have h2:keys (byteD v) = [] := keys_int ..
 simp only [pstor,stRB,h1,h2,List.isEmpty_nil,Bool.and_true]
 cases st[key]? with
 | none => rfl
 | some o =>
  simp only [Option.bind_some]
  split
  ·cases o.els[i]? with
   | none => rfl
   | some el =>
    have hc:(byteD v).cells = [byteD v] := rfl
    rw [hc]
    simp only [Option.bind_some]
    cases setEl el p [byteD v] <;> rfl
  ·rfl
theorem splice_set (l:List UInt8) (p:Nat) (v:UInt8) (h:p < l.length):splice (l.map byteD) p [byteD v] = (l.set p v).map byteD := by
 rw [splice,List.set_eq_take_append_cons_drop,if_pos h]
 simp
theorem stRB_row (A:List Dig) (i p:Nat) (v:UInt8) (h:i < A.length) (hp:p < 32):stRB (some ⟨true,32,A.map digD,false⟩) A.length i p v = some ⟨true,32,(A.set i ⟨(A.getD i default).bs.set p v,by rw [List.length_set]; exact Dig.len _⟩).map digD,false⟩ := by
 have hl:p < (A[i]).bs.length := by rw [(A[i]).len]; exact hp
 have e1:A.getD i default = A[i] := by rw [List.getD_eq_getElem?_getD,List.getElem?_eq_getElem h]; rfl
 have h1:setEl (digD A[i]) p [byteD v] = some (digD ⟨A[i].bs.set p v,by rw [List.length_set]; exact Dig.len _⟩) := by
  show (if p + 1 ≤ (digC A[i]).length then some (D.agg (splice (digC A[i]) p [byteD v])) else none) = _
  rw [if_pos (by rw [digC_length]; omega)]
  exact congrArg (fun x => some (D.agg x)) (splice_set _ p v hl)
 simp only [e1]
 simp [stRB,h,h1,List.map_set]
theorem ldR_b (A:List Dig) (lent:Bool) (i p:Nat) (h:i < A.length) (hp:p < 32):ldR (some ⟨true,32,A.map digD,lent⟩) 1 false A.length i p = some (byteD ((A.getD i default).bs.getD p 0)) := by
 have hl:p < (A[i]).bs.length := by rw [(A[i]).len]; exact hp
 have e1:A.getD i default = A[i] := by rw [List.getD_eq_getElem?_getD,List.getElem?_eq_getElem h]; rfl
 have e2:((digC A[i]).drop p).take 1 = [byteD (A[i].bs.getD p 0)] := by
  show ((A[i].bs.map byteD).drop p).take 1 = _
  rw [← List.map_drop,List.drop_eq_getElem_cons hl,List.map_cons,List.take_succ_cons,List.take_zero,List.getD_eq_getElem?_getD,List.getElem?_eq_getElem hl]
  rfl
 rw [e1]
 have h3:(digD A[i]).cells = digC A[i] := rfl
 have h4:p + 1 ≤ (digC A[i]).length := by rw [digC_length]; omega
 simp [ldR,h,h3,h4,e2,D.mk]
end Go.Proofs.YtlleccmnjpcogaaDoor.PI
namespace Go.Proofs.YtlleccmnjpcogaaDoor.PI
open Go
set_option linter.unusedSimpArgs false
set_option linter.unusedVariables false
def lieD (lie:Dig) (d:Dig) (j:Nat):Dig := flipD d (j % 32) (1 ||| lie.bs.getD (j % 32) 0)
theorem lieD_ne (lie d:Dig) (j:Nat):lieD lie d j ≠ d := flip_ne d (Nat.mod_lt _ (by decide)) (or1_ne _)
def lieL (L:List Dig) (lie:Dig) (k i:Nat):List Dig := (List.range L.length).map fun j => if k ≤ j ∧ j < i then lieD lie (L.getD j default) j else L.getD j default
theorem lieL_length (L:List Dig) (lie:Dig) (k i:Nat):(lieL L lie k i).length = L.length := by simp [lieL]
theorem lieL_get (L:List Dig) (lie:Dig) (k i:Nat) {j:Nat} (h:j < L.length):(lieL L lie k i).getD j default = if k ≤ j ∧ j < i then lieD lie (L.getD j default) j else L.getD j default := by
 rw [List.getD_eq_getElem?_getD,lieL,List.getElem?_map,List.getElem?_range h]; rfl
theorem getD_ext {a b:List Dig} (hl:a.length = b.length) (h:∀ j,j < a.length → a.getD j default = b.getD j default):a = b := by
 apply List.ext_getElem hl
 intro j h1 h2
 have := h j h1
 rwa [List.getD_eq_getElem?_getD,List.getD_eq_getElem?_getD,List.getElem?_eq_getElem h1,List.getElem?_eq_getElem h2] at this
theorem lieL_0 (L:List Dig) (lie:Dig) (k:Nat):lieL L lie k k = L := getD_ext (lieL_length ..) fun j h => by
 rw [lieL_length] at h
 rw [lieL_get L lie k k h,if_neg (by omega)]
theorem lieL_step (L:List Dig) (lie:Dig) (k i:Nat) (hk:k ≤ i) (hi:i < L.length):(lieL L lie k i).set i (lieD lie (L.getD i default) i) = lieL L lie k (i + 1) := by
 refine getD_ext (by rw [List.length_set,lieL_length,lieL_length]) fun j h => ?_
 rw [List.length_set,lieL_length] at h
 rw [lieL_get L lie k (i + 1) h]
 by_cases e:j = i
 ·subst e
  rw [List.getD_eq_getElem?_getD,List.getElem?_set_self (by rw [lieL_length]; exact h),if_pos ⟨hk,by omega⟩]; rfl
 ·rw [List.getD_eq_getElem?_getD,List.getElem?_set_ne (by omega),← List.getD_eq_getElem?_getD,lieL_get L lie k i h]
  by_cases q:k ≤ j ∧ j < i
  ·rw [if_pos q,if_pos ⟨q.1,by omega⟩]
  ·rw [if_neg q,if_neg (by omega)]
theorem bad_lie (L:List Dig) (lie:Dig) {k:Nat} (hk:k < L.length):∀ n i,n = k - i → i ≤ k → badL (lieL L lie k L.length) (L.drop i) i = some k
 | n,i,hn,hi => by
  rw [badL_drop _ _ (by omega)]
  by_cases e:i = k
  ·subst e
   rw [if_neg]
   intro h
   rw [lieL_get L lie i L.length hk,if_pos ⟨Nat.le_refl _,hk⟩] at h
   exact lieD_ne _ _ _ h.2
  ·rw [if_pos ⟨by rw [lieL_length]; omega,by rw [lieL_get L lie k L.length (by omega),if_neg (by omega)]⟩]
   match n,hn with
   | 0,hn => exact absurd hn (by omega)
   | n + 1,hn => exact bad_lie L lie hk n (i + 1) (by omega) (by omega)
theorem atL_nat {l:List Dig} {i:Nat} (h:i < l.length):atL l (i:Int) padL = l.getD i default := by
 unfold atL; rw [if_pos (by omega),Int.toNat_natCast]
theorem first_lie (L:List Dig) (lie:Dig) {k:Nat} (hk:k < L.length):∀ n i,i ≤ k → k < n + i → firstF L (lieL L lie k L.length) n i = k
 | 0,i,hi,hn => absurd hn (by omega)
 | n + 1,i,hi,hn => by
  by_cases e:i = k
  ·subst e
   refine firstF_ne ?_
   rw [atL_nat hk,atL_nat (by rw [lieL_length]; exact hk),lieL_get L lie i L.length hk,if_pos ⟨Nat.le_refl _,hk⟩]
   exact fun h => lieD_ne _ _ _ h.symm
  ·rw [firstF_eq (by rw [atL_nat (by omega),atL_nat (by rw [lieL_length]; omega),lieL_get L lie k L.length (by omega),if_neg (by omega)])]
   exact first_lie L lie hk n (i + 1) (by omega) (by omega)
theorem firstL_lie (L:List Dig) (lie:Dig) {k:Nat} (hk:k < L.length):firstL L (lieL L lie k L.length) = k := first_lie L lie hk _ 0 (by omega) (by rw [lieL_length]; omega)
end Go.Proofs.YtlleccmnjpcogaaDoor.PI
namespace Go.Proofs.YtlleccmnjpcogaaDoor.PI
open Go
set_option linter.unusedSimpArgs false
set_option linter.unusedVariables false
noncomputable def sp_mFirst:List D → Option D := spOf (α := List Dig × List Dig) (fun a => [.slc (nz 32 (a.1.map digD)) (a.1.map digD) false,.slc (nz 32 (a.2.map digD)) (a.2.map digD) false]) (fun a => a.1.length ≤ 4294967296 ∧ a.2.length ≤ 4294967296) (fun a => .int .i64 (firstL a.1 a.2))
theorem call_mFirst (a:List Dig) (b:List Dig) (h:a.length ≤ 4294967296 ∧ b.length ≤ 4294967296):sp_mFirst [.slc (nz 32 (a.map digD)) (a.map digD) false,.slc (nz 32 (b.map digD)) (b.map digD) false] = some (.int .i64 (firstL a b)) :=
 spOf_enc (fun ⟨a0,a1⟩ ⟨b0,b1⟩ h => by simp only [List.cons.injEq,D.slc.injEq,digs_iff,and_true] at h; simp [h]) (a,b) h
set_option maxHeartbeats 4000000 in
set_option maxRecDepth 20000 in
theorem w_mFirst (a:List Dig) (b:List Dig) (h:a.length ≤ 4294967296 ∧ b.length ≤ 4294967296):@wW GG (tb [(14,sp_mPad),(44,sp_at)] []) F_merkle_First.code (argF [.slc (nz 32 (a.map digD)) (a.map digD) false,.slc (nz 32 (b.map digD)) (b.map digD) false]) [] ⟨retQ F_merkle_First.res (.int .i64 (firstL a b))⟩ := by
 unfold F_merkle_First
 simp (disch := omega) only [push_cast,↓reduceIte,Nat.reduceEqDiff,Int.reduceNeg,call_mPad]
 have hf:firstL a b = firstF a b (max a.length b.length - 0) 0 := rfl
 refine W_while (fun i:Nat => [(0,.slc (nz 32 (a.map digD)) (a.map digD) false),(1,.slc (nz 32 (b.map digD)) (b.map digD) false),(5,.ptr 0 0),(12,.int .i64 (max (a.length:Int) (b.length:Int))),(13,.int .i64 (i:Int))])
  (fun i => [⟨false,1,digC padL,false⟩]) (fun i => i ≤ max a.length b.length ∧ firstL a b = firstF a b (max a.length b.length - i) i) (fun i => max a.length b.length - i) 0 (by simp only [push_cast,↓reduceIte,Nat.reduceEqDiff,Nat.reduceLT,Nat.reduceLeDiff,↓Int.reduceNatCast'] <;> rfl) ⟨by omega,hf⟩ ?_
 rintro i ⟨hi,hf⟩
 unfold F_merkle_First_L0
 simp only [push_cast,↓reduceIte,Nat.reduceEqDiff]
 refine ifD_split (fun h1 => ?_) (fun h1 => ?_)
 ·rw [show max a.length b.length - i = (max a.length b.length - (i + 1)) + 1 by omega] at hf
  simp (disch := omega) only [push_cast,↓reduceIte,Nat.reduceEqDiff,call_at]
  refine ifD_split (fun h2 => ?_) (fun h2 => ?_)
  ·rw [firstF_eq h2] at hf
   simp (disch := omega) only [push_cast,↓reduceIte,Nat.reduceEqDiff,Nat.reduceLT,Nat.reduceLeDiff,add_i]
   refine next_head (i + 1) ⟨by omega,hf⟩ (by omega) ?_
   rfl
  ·rw [firstF_ne h2] at hf
   simp (disch := omega) only [push_cast,↓reduceIte,Nat.reduceEqDiff,Int.reduceNeg,hf]
 ·rw [show max a.length b.length - i = 0 by omega,firstF_end] at hf
  simp (disch := omega) only [push_cast,↓reduceIte,Int.reduceNeg,hf]
theorem c_mFirst:Contract Tryd.prog GG 20 sp_mFirst :=
 contract_of tr_merkle_First (tb_ok (all_cons c_mPad (all_cons c_at all_nil)) all_nil) (fun a h => w_mFirst a.1 a.2 h)
end Go.Proofs.YtlleccmnjpcogaaDoor.PI
namespace Go.Proofs.YtlleccmnjpcogaaDoor.PI
open Go
set_option linter.unusedSimpArgs false
set_option linter.unusedVariables false
theorem or_1b (y:UInt8):pbin .or (.int .u8 1) (byteD y) = some (byteD (1 ||| y)) := or_b 1 y
theorem ld_db (lent:Bool) (d:Dig) (p:Nat) (hp:p < 32):ldO (some ⟨false,1,digC d,lent⟩) 1 false p = some (byteD (d.bs.getD p 0)) := by
 have hl:p < d.bs.length := by rw [d.len]; exact hp
 have e2:((digC d).drop p).take 1 = [byteD (d.bs.getD p 0)] := by
  show ((d.bs.map byteD).drop p).take 1 = _
  rw [← List.map_drop,List.drop_eq_getElem_cons hl,List.map_cons,List.take_succ_cons,List.take_zero,List.getD_eq_getElem?_getD,List.getElem?_eq_getElem hl]
  rfl
 have h4:p + 1 ≤ (digC d).length := by rw [digC_length]; omega
 simp [ldO,h4,e2,D.mk]
theorem idxA_rp (st:St) (n sz key tot i off:Nat) (k:IntKind) (j:Int) (h0:0 ≤ j) (h1:j < (n:Int)):pidxA st n sz (.rptr key tot i off) (.int k j) = if live st key tot = true then some (.rptr key tot i (off + j.toNat * sz)) else none := by
 have:j.toNat < n := by omega
 simp [pidxA,natOf,h0,this,pfld]
theorem fill_dr {v:Int × List Int} (hv:vOK v) (sz:Nat) (els:List D) (t:Bool) (a e:Int) (key tot off len:Nat):fillD [.slc 0 [] true,.int .i64 0,.int .i64 0,.int .i64 0,.int .i64 0,.int .i64 0,.int .i64 0,.int .i64 0,.int .i64 0,.int .i64 0,.int .i64 0,.int .i64 0,.int .i64 0,.int .i64 0,.int .i64 0,.int .i64 0,.int .i64 0,.int .i64 0,.int .i64 0,.int .i64 0,.slc 0 [] true] [(0,1,.slc sz els t),(1,17,evD v),(18,1,.int .i64 a),(19,1,.int .i64 e),(20,1,.row key tot off len)] = some (derC (.slc sz els t) v a e (.row key tot off len)) := by
 refine (fill_mid (cs := derC nilS zEv 0 0 nilS) (cs' := derC (.slc sz els t) zEv 0 0 nilS) (A := []) (B := [nilS]) (xs := [.slc sz els t]) rfl rfl rfl rfl rfl rfl rfl).trans ?_
 refine (fill_mid (cs := derC (.slc sz els t) zEv 0 0 nilS) (cs' := derC (.slc sz els t) v 0 0 nilS) (A := [.slc sz els t]) (B := evC zEv) (xs := evC v) rfl rfl rfl rfl rfl (evC_length hv) ?_).trans ?_
 ·rw [evC_ints,ints_cell]
 have hl:(D.slc sz els t :: evC v).length = 18 := by simp [evC_length hv]
 refine (fill_mid (cs := derC (.slc sz els t) v 0 0 nilS) (cs' := derC (.slc sz els t) v a 0 nilS) (A := .slc sz els t :: evC v) (B := [.int .i64 0]) (C := [.int .i64 0,nilS]) (xs := [.int .i64 a]) rfl rfl hl rfl rfl rfl rfl).trans ?_
 have hl:(D.slc sz els t :: (evC v ++ [.int .i64 a])).length = 19 := by simp [evC_length hv]
 refine (fill_mid (cs := derC (.slc sz els t) v a 0 nilS) (cs' := derC (.slc sz els t) v a e nilS) (A := .slc sz els t :: (evC v ++ [.int .i64 a])) (B := [.int .i64 0]) (C := [nilS]) (xs := [.int .i64 e]) (by simp [derC]) (by simp [derC]) hl rfl rfl rfl rfl).trans ?_
 have hl:(D.slc sz els t :: (evC v ++ [.int .i64 a,.int .i64 e])).length = 20 := by simp [evC_length hv]
 exact (fill_mid (cs := derC (.slc sz els t) v a e nilS) (cs' := derC (.slc sz els t) v a e (.row key tot off len)) (A := .slc sz els t :: (evC v ++ [.int .i64 a,.int .i64 e])) (B := [nilS]) (C := []) (xs := [.row key tot off len]) (by simp [derC]) (by simp [derC]) hl rfl rfl rfl rfl).trans rfl
theorem immL_derR (o0 o1 o2:PI.Obj) (c:List Ins) (v:Int × List Int) (a e:Int) (L:List Dig) (lent:Bool) (r:St):immL (o0 :: o1 :: o2 :: ⟨true,32,L.map digD,lent⟩ :: r) (derC (.slc (nz 3 (c.map insD)) (c.map insD) false) v a e (.row 3 L.length 0 L.length)) = some (derC (cdD c) v a e (lvD L)) := by
 have h := imm_derR (o0 :: o1 :: o2 :: ⟨true,32,L.map digD,lent⟩ :: r) c v a e L 3 lent rfl
 change (immL _ (derC (cdD c) v a e (.row 3 L.length 0 L.length))).map D.agg = _ at h
 obtain ⟨x,h1,h2⟩ := Option.map_eq_some_iff.1 h
 rw [show (.slc (nz 3 (c.map insD)) (c.map insD) false:D) = cdD c from rfl,h1]
 exact congrArg some (D.agg.inj h2)
set_option maxHeartbeats 4000000 in
set_option maxRecDepth 20000 in
theorem lw_ArbiterNames (c:List Ins) (hc:c.length ≤ maxLen) (v:Int × List Int) (hv:v.2.length = 16) (k:Int) (hk1:-9223372036854775808 ≤ k) (hk2:k < 9223372036854775808) (lie:Dig):@wW GG (tb [(8,sp_sane39),(9,sp_run),(10,sp_few39),(19,sp_padded39),(14,sp_mPad),(15,sp_aFirst),(16,sp_state),(18,sp_vOpen),(17,sp_aStep),(20,sp_mFirst),(21,sp_check)] []) F_wagonpoollaw39_ArbiterNames.code (argF [.slc (nz 3 (c.map insD)) (c.map insD) false,evD v,.int .i64 k,digD lie]) [] ⟨retQ F_wagonpoollaw39_ArbiterNames.res (.bool true)⟩ := by
 have hc':c.length ≤ 9223372036854775807 := Nat.le_trans hc maxL
 have hvv:vOK v := hv
 have csn := call_sane39
 have cp := call_mPad
 have cf:sp_few39 [.slc (nz 3 (c.map insD)) (c.map insD) false,.slc 0 [] false] = some (.bool (decide (c.length ≤ 30 ∧ 0 ≤ 66))) := call_few39 c []
 have cr := call_run c v ⟨hc',hvv⟩
 unfold F_wagonpoollaw39_ArbiterNames
 by_cases hf:c.length ≤ 30
 ·by_cases he:(verifyF c).2 = 0
  ·obtain ⟨hcl,hcn,hfm,_⟩ := verify_ok he
   obtain ⟨Dm,tl,hD,ht,hr,hll,hg⟩ := trace_ok (v := v) he
   have hstk := trace_len (v := v) he
   obtain ⟨R,hR⟩:∃ R,runF c v = R := ⟨_,rfl⟩
   have hRc:R.code = c := by rw [← hR]; unfold runF; rw [if_pos he]
   have hRe:R.env = v := by rw [← hR]; unfold runF; rw [if_pos he]
   obtain ⟨L,hL⟩:∃ L,R.lv = L := ⟨_,rfl⟩
   have hLt:L = (traceL c v).map (digF c v) := by rw [← hL,← hR]; unfold runF; rw [if_pos he]
   have hn:L.length = tl.length + 1 := by rw [hLt,ht]; simp
   have hvR:vOK R.env := by rw [hRe]; exact hvv
   rw [hR,he] at cr
   have ld_lv:∀ lent,ldO (some ⟨false,1,derC (cdD R.code) R.env R.am R.er (lvD R.lv),lent⟩) 1 false 20 = some (.slc (nz 32 (L.map digD)) (L.map digD) false) := fun lent => by rw [ld_derL hvR,hL]; rfl
   have cpd := call_padded39 L (by omega)
   have n1:¬ (L.length:Int) = 0 := by omega
   have n2:¬ (31:Int) < (L.length:Int) := by omega
   have k0:0 ≤ k % 18446744073709551616 := Int.emod_nonneg _ (by decide)
   have i0:0 ≤ (k % 18446744073709551616) % (L.length:Int) := Int.emod_nonneg _ (by omega)
   have i1:(k % 18446744073709551616) % (L.length:Int) < (L.length:Int) := Int.emod_lt_of_pos _ (by omega)
   obtain ⟨j,hj⟩ := Int.eq_ofNat_of_zero_le i0
   rw [hj] at i1
   have hjl:j < L.length := by omega
   have hI := hj
   have hm64:(L.length:Int) % 18446744073709551616 = (L.length:Int) := by omega
   have hLn:L ≠ [] := by intro e; rw [e] at hn; simp at hn
   have pa:∀ o0 o1 o2:PI.Obj,papp [o0,o1,o2] 32 32 (.slc 32 [] true) (.slc (nz 32 (L.map digD)) (L.map digD) false) = some (.row 3 L.length 0 L.length,[o0,o1,o2,⟨true,32,L.map digD,false⟩]) := fun o0 o1 o2 => by
    have := papp_bufm digD 32 32 32 [] L false (by decide) (by simp; omega) (by simp; omega) [o0,o1,o2] _ (nz_or _ _)
    simpa [bufD,bufS,hLn] using this
   simp (disch:=first|omega|decide) only [push_cast,↓reduceIte,Nat.reduceEqDiff,Nat.reduceAdd,csn,cf,cr,hf,box_ev,ld_ev hvv,imm_ev,keys_ev,box_21,st_derX hvR,ld_lv,and_self,decide_true,n1,n2,conv_kU,hm64,rem_uA,conv_ui,hI,pa]
   refine W_while (fun i:Nat => [(0,.slc (nz 3 (c.map insD)) (c.map insD) false),(5,.ptr 0 0),(7,.ptr 1 0),(9,.ptr 2 0),(11,.int .i64 (j:Int)),(12,.row 3 L.length 0 L.length),(13,.int .i64 (i:Int))])
    (fun i => [⟨false,1,evC v,false⟩,⟨false,1,digC lie,false⟩,⟨false,1,derC (cdD R.code) R.env R.am R.er (lvD R.lv),false⟩,⟨true,32,(lieL L lie j i).map digD,false⟩]) (fun i => j ≤ i ∧ i ≤ L.length) (fun i => L.length - i) j
    (by rw [lieL_0]; simp only [push_cast,↓reduceIte,Nat.reduceEqDiff,Nat.reduceLT,Nat.reduceLeDiff,Nat.reduceAdd,renC_der,hkC_der,renC_ev,hkC_ev] <;> rfl) ⟨Nat.le_refl _,by omega⟩ ?_
   rintro i ⟨hi1,hi2⟩
   obtain ⟨A,hA⟩:∃ A,lieL L lie j i = A := ⟨_,rfl⟩
   have hAl:A.length = L.length := by rw [← hA,lieL_length]
   rw [hA]
   unfold F_wagonpoollaw39_ArbiterNames_L0
   rw [← hAl]
   simp (disch:=first|omega|decide) only [push_cast,↓reduceIte,Nat.reduceEqDiff]
   refine ifD_split (fun h2 => ?_) (fun h2 => ?_)
   ·have hil:i < A.length := by omega
    obtain ⟨p,hp⟩:∃ p,i % 32 = p := ⟨_,rfl⟩
    have hmi:((i:Int) % 32) = (p:Int) := by omega
    have hp32:p < 32 := by omega
    have g1:A.getD i default = L.getD i default := by rw [← hA,lieL_get L lie j i (by omega),if_neg (by omega)]
    have hS:A.set i ⟨(A.getD i default).bs.set p ((A.getD i default).bs.getD p 0 ^^^ (1 ||| lie.bs.getD p 0)),by rw [List.length_set]; exact Dig.len _⟩ = lieL L lie j (i + 1) := by
     rw [← lieL_step L lie j i hi1 (by omega),hA]
     simp only [lieD,flipD,hp,g1]
    simp (disch:=first|omega|decide) only [push_cast,↓reduceIte,Nat.reduceEqDiff,Nat.reduceLT,Nat.reduceLeDiff,Nat.reduceAdd,rem_i,hmi,idxA_rp,idxA_ptr,Nat.mul_one,ldR_b,ld_db,or_1b,xor_b,pstor_rb,stRB_row,add_i,renC_der,hkC_der,renC_ev,hkC_ev]
    rw [hS]
    refine next_head (i + 1) (by omega) (by omega) ?_
    simp only [push_cast] <;> rfl
   ·obtain rfl:i = L.length := by omega
    have hjA:j < A.length := by omega
    have cfi := call_mFirst L A ⟨by omega,by omega⟩
    have hfl:firstL L A = (j:Int) := by rw [← hA]; exact firstL_lie L lie hjl
    have hbad:badL A L 0 = some j := by
     have := bad_lie L lie hjl (j - 0) 0 rfl (by omega)
     rwa [List.drop_zero,hA] at this
    have cck := call_check ⟨c,v,R.am,R.er,A⟩ ⟨he,hvv,by show A.length ≤ _; omega⟩
    have hck:checkE ⟨c,v,R.am,R.er,A⟩ R = ((j:Int),300) := by unfold checkE; rw [hL]; dsimp only; rw [hbad]
    dsimp only at cck
    rw [hR,hck] at cck
    change sp_check [.agg (derC (cdD c) v R.am R.er (lvD A))] = _ at cck
    have gA:A.getD j default ≠ L.getD j default := by
     rw [← hA,lieL_get L lie j L.length hjl,if_pos ⟨Nat.le_refl _,hjl⟩]; exact lieD_ne _ _ _
    have dR:∀ lent,ldO (some ⟨false,1,derC (cdD R.code) R.env R.am R.er (lvD R.lv),lent⟩) 1 false 18 = some (.int .i64 R.am) := fun lent => ld_der18 hvR lent _ _ _ _
    have eR:∀ lent,ldO (some ⟨false,1,derC (cdD R.code) R.env R.am R.er (lvD R.lv),lent⟩) 1 false 19 = some (.int .i64 R.er) := fun lent => ld_der19 hvR lent _ _ _ _
    have tn2:∀ a b:Int,(D.tup [.int .i64 a,.int .i64 b]).noRef = true := fun _ _ => rfl
    have a2:∀ x:Int,decide (x = x) = true := fun _ => by simp
    have hlt:(j:Int) < (L.length:Int) := by omega
    have hM':verdF (A.getD j default,L.getD j default) (L.getD j default,0) = (1,L.getD j default) := by
     unfold verdF; rw [if_pos rfl]
     have := judge_mine (L.getD j default) (A.getD j default) true
     simp only [if_true,if_neg gA] at this
     exact congrArg (fun q => (q,L.getD j default)) this
    obtain ⟨Y,hY⟩:∃ Y,A.getD j default = Y := ⟨_,rfl⟩
    obtain ⟨M,hM⟩:∃ M,L.getD j default = M := ⟨_,rfl⟩
    rw [hY,hM] at hM'
    cases hpb:padB L with
    | true =>
     rw [hpb] at cpd
     simp (disch:=first|omega|decide) only [push_cast,↓reduceIte,Nat.reduceEqDiff,Nat.reduceAdd,cfi,hfl,ld_ev hvv,ld_lv,fill_dr hvv,dR,eR,immL_derR,cck,tn2,decide_true,cpd,fill_clT,box_cl0,st_clA,idxS_nz,hY,hM]
    | false =>
     rw [hpb] at cpd
     have hnp := padB_no hpb
     by_cases hj0:j = 0
     ·subst hj0
      have hfd:firstD c v = (M,0) := by
       rw [← hM]
       unfold firstD
       rw [if_neg (by omega),if_neg (by simp [he]),hLt,ht]; rfl
      have a1 := call_aFirst c v (Y,M) ⟨hc',hvv⟩
      rw [hfd,hM'] at a1
      simp only [verD,clD] at a1
      simp (disch:=first|omega|decide) only [push_cast,↓reduceIte,Nat.reduceEqDiff,Nat.reduceAdd,↓Int.reduceNatCast',cfi,hfl,ld_ev hvv,imm_ev,keys_ev,ld_lv,fill_dr hvv,dR,eR,immL_derR,cck,tn2,decide_true,cpd,fill_clT,box_cl0,st_clA,ld_clA,immL_cl,key_cl,idxS_nz,hY,hM,a1]
     ·obtain ⟨i,rfl⟩:∃ i,j = i + 1 := ⟨j - 1,by omega⟩
      have hji:((i:Int) + 1) - 1 = (i:Int) := by omega
      have hj0':¬ ((i:Int) + 1) = 0 := by omega
      have htn:((i:Int) + 1).toNat = i + 1 := by omega
      have htl:(traceL c v).length = L.length := by rw [hLt]; simp
      obtain ⟨s,hs⟩:∃ s,(traceL c v)[i]? = some s := ⟨_,List.getElem?_eq_getElem (by omega)⟩
      have hLi:L.getD i default = digF c v s := by rw [hLt,List.getD_eq_getElem?_getD,List.getElem?_map,hs]; rfl
      have hYi:A.getD i default = digF c v s := by rw [← hLi,← hA,lieL_get L lie (i + 1) L.length (by omega),if_neg (by omega)]
      have hsl := hstk s (List.mem_of_getElem? hs)
      have hpp:¬ digF c v s = padL := by
       rw [← hLi]
       refine hnp _ ?_
       rw [List.getD_eq_getElem?_getD,List.getElem?_eq_getElem (show i < L.length by omega)]
       exact List.getElem_mem _
      have hnm := next_mine (ht ▸ hr) hstk hs hpp
      have hLj:(L[i + 1]?).getD padL = M := by rw [← hM,List.getD_eq_getElem?_getD,List.getElem?_eq_getElem hjl]; rfl
      rw [← hLt,hLj] at hnm
      have cst := call_state R (i:Int) ⟨by rw [hRc]; exact hc',hvR⟩
      rw [hRc,hRe,show staF c v (i:Int) = (s,0) by unfold staF; rw [if_pos he,if_neg (by omega),Int.toNat_natCast,hs]] at cst
      have on := call_vOpen s 2 (by omega)
      have a1 := call_aStep c v (digF c v s) (Y,M) (openF s 2) ⟨by omega,hvv,by simp only [openF,List.length_drop]; omega⟩
      rw [hnm,hM'] at a1
      simp only [verD,clD] at a1
      have hj1:((i + 1:Nat):Int) = (i:Int) + 1 := by omega
      have hlt1:((i:Int) + 1) < (L.length:Int) := by omega
      simp (disch:=first|omega|decide) only [push_cast,↓reduceIte,Nat.reduceEqDiff,Nat.reduceAdd,cfi,hfl,ld_ev hvv,imm_ev,keys_ev,ld_derX hvR,imm_der,keys_der,ld_lv,fill_dr hvv,dR,eR,immL_derR,cck,tn2,decide_true,cpd,sub_i,fill_clT,box_cl0,st_clA,ld_clA,immL_cl,key_cl,idxS_nz,hY,hM,hj0',imm_opn,keys_opn,box_sta0,st_sta0,ld_sta,imm_sta,keys_sta,hji,hj1,htn,hYi,cst,on,a1]
  ·have hvR:vOK (runF c v).env := by rw [show runF c v = zDer from if_neg he]; rfl
   simp (disch:=first|omega|decide) only [push_cast,↓reduceIte,Nat.reduceEqDiff,Nat.reduceAdd,csn,cf,cr,hf,he,box_ev,ld_ev hvv,imm_ev,keys_ev,box_dig,box_21,st_derX hvR,and_self,decide_true]
 ·by_cases he:(verifyF c).2 = 0
  ·have hvR:vOK (runF c v).env := by rw [show runF c v = _ from if_pos he]; exact hvv
   simp (disch:=first|omega|decide) only [push_cast,↓reduceIte,Nat.reduceEqDiff,Nat.reduceAdd,csn,cf,cr,hf,he,box_ev,ld_ev hvv,imm_ev,keys_ev,box_dig,box_21,st_derX hvR,false_and,decide_false]
  ·have hvR:vOK (runF c v).env := by rw [show runF c v = zDer from if_neg he]; rfl
   simp (disch:=first|omega|decide) only [push_cast,↓reduceIte,Nat.reduceEqDiff,Nat.reduceAdd,csn,cf,cr,hf,he,box_ev,ld_ev hvv,imm_ev,keys_ev,box_dig,box_21,st_derX hvR,false_and,decide_false]
theorem law_ArbiterNames:Contract Tryd.prog GG 5 (lawSp [.slc tyIns,tyEv,.int .i64,tDig]) := by
 refine lawC tr_wagonpoollaw39_ArbiterNames (T := tb [(8,sp_sane39),(9,sp_run),(10,sp_few39),(19,sp_padded39),(14,sp_mPad),(15,sp_aFirst),(16,sp_state),(18,sp_vOpen),(17,sp_aStep),(20,sp_mFirst),(21,sp_check)] []) (tb_ok (all_cons c_sane39 (all_cons c_run (all_cons c_few39 (all_cons c_padded39 (all_cons c_mPad (all_cons c_aFirst (all_cons c_state (all_cons c_vOpen (all_cons c_aStep (all_cons c_mFirst (all_cons c_check all_nil))))))))))) all_nil) ?_
 intro xs h
 obtain ⟨x0,xs,rfl,h0,h⟩ := hasAll_cons h
 obtain ⟨x1,xs,rfl,h1,h⟩ := hasAll_cons h
 obtain ⟨x2,xs,rfl,h2,h⟩ := hasAll_cons h
 obtain ⟨x3,xs,rfl,h3,h⟩ := hasAll_cons h
 obtain rfl := hasAll_nil h
 obtain ⟨y0,rfl,ya0⟩ := has_code h0
 obtain ⟨y1,rfl,ya1⟩ := has_ev h1
 obtain ⟨y2,rfl,ya2,yb2⟩ := has_i64 h2
 obtain ⟨y3,rfl⟩ := has_dig h3
 exact lw_ArbiterNames y0 ya0 y1 ya1 y2 ya2 yb2 y3
end Go.Proofs.YtlleccmnjpcogaaDoor.PI
