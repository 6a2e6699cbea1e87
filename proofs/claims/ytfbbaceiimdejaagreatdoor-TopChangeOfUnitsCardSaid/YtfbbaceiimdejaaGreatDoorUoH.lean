/-
  ttype.power: the rule itself.
  Conditions: none; these are lemmas.
-/
import Derived.Test.YtfbbaceiimdejaaGreatDoorUnY
import Derived.Test.YtfbbaceiimdejaaGreatDoorFnsQ
import Derived.Test.YtfbbaceiimdejaaGreatDoorFnsP
import Derived.Test.YtfbbaceiimdejaaGreatDoorEngHd
import Derived.KernelRfl
import Derived.Test.YtfbbaceiimdejaaGreatDoorEngHf
import Derived.Test.YtfbbaceiimdejaaGreatDoorFnsS
import Derived.Test.YtfbbaceiimdejaaGreatDoorFnsT
import Derived.Test.YtfbbaceiimdejaaGreatDoorFnsR
set_option linter.unusedVariables false
set_option linter.unusedSimpArgs false
namespace Go.Proofs.YtfbbaceiimdejaaGreatDoor.PI
open Go
set_option linter.unusedSimpArgs false
set_option linter.unusedVariables false
noncomputable def sp_ropers:List D→Option D:=spOf (α:=Int) (fun a=>[.int .i64 a]) (fun a=>1≤a∧a≤11) (fun a=>.int .i64 (opsF a))
theorem call_ropers(op:Int)(h:1≤op∧op≤11):sp_ropers [.int .i64 op]=some (.int .i64 (opsF op)):=
 spOf_enc (fun a b h=>by simp only[List.cons.injEq,D.int.injEq,true_and,and_true]at h; simp[h]) (op) h
set_option maxHeartbeats 4000000 in
set_option maxRecDepth 20000 in
theorem w_ropers(op:Int)(h:1≤op∧op≤11):@wW GG (tb [] []) F_wagonpoolref16_operands.code (argF [.int .i64 op]) [] ⟨retQ F_wagonpoolref16_operands.res (.int .i64 (opsF op))⟩:=by
 obtain⟨h1,h2⟩:=h
 unfold F_wagonpoolref16_operands
 rcases(show op=1∨op=2∨op=3∨op=4∨op=5∨op=6∨op=7∨op=8∨op=9∨op=10∨op=11 by omega)with rfl | rfl | rfl | rfl | rfl | rfl | rfl | rfl | rfl | rfl | rfl <;>
  simp (disch:=first|omega|decide) only[push_cast,↓reduceIte,Nat.reduceEqDiff,Int.reduceEq] <;> rfl
theorem c_ropers:Contract Tryz.prog GG 61 sp_ropers:=
 contract_of tr_wagonpoolref16_operands (tb_ok all_nil all_nil) (fun a h=>w_ropers a h)
def cntI(u:List Int)(i:Nat)(n:Int):Int:=((u.take i).count n:Int)
theorem cnt_step{u:List Int}{i:Nat}(h:i<u.length)(n:Int):cntI u (i+1) n=cntI u i n+if u.getD i default=n then 1 else 0:=by
 unfold cntI
 have e:u.getD i default=u[i]:=by simp[List.getD_eq_getElem?_getD,h]
 rw[List.take_succ_eq_append_getElem h,List.count_append,e]
 simp only[List.count_cons,List.count_nil,beq_iff_eq,Nat.zero_add]
 split <;> simp
theorem cnt_le(u:List Int)(i:Nat)(n:Int):0≤cntI u i n∧cntI u i n≤i:=by
 unfold cntI
 have h1:=List.count_le_length (a:=n) (l:=u.take i)
 have h2:(u.take i).length≤i:=by simp; omega
 omega
noncomputable def sp_unitary:List D→Option D:=spOf (α:=List Int) (fun a=>[.agg (a.map nI)]) (fun a=>a.length=4) (fun a=>.bool (unU a))
theorem call_unitary(u:List Int)(h:u.length=4):sp_unitary [.agg (u.map nI)]=some (.bool (unU u)):=
 spOf_enc (fun a b h=>by simp only[List.cons.injEq,D.agg.injEq,and_true,ints_iff]at h; simp[h]) (u) h
set_option maxHeartbeats 4000000 in
set_option maxRecDepth 20000 in
theorem w_unitary(u:List Int)(h:u.length=4):@wW GG (tb [] []) F_wagonpoolref16_unitary.code (argF [.agg (u.map nI)]) [] ⟨retQ F_wagonpoolref16_unitary.res (.bool (unU u))⟩:=by
 have hl:=h
 unfold F_wagonpoolref16_unitary
 have hb:boxD (.agg (u.map nI))=some (u.map nI):=by
  simp only[boxD,D.cells,ints_cell,if_true]
 simp (disch:=first|omega|decide) only[push_cast,hb]
 refine W_while (fun i:Nat=>[(1,.ptr 0 0),(3,.int .i64 (cntI u i 1)),(4,.int .i64 (cntI u i (-1))),(5,.int .i64 (i:Int))]) (fun _=>[⟨false,1,u.map nI,false⟩]) (fun i=>i≤4∧u.all (fun n=>decide (-1≤n) && decide (n≤1))=(u.drop i).all (fun n=>decide (-1≤n) && decide (n≤1))) (fun i=>4 - i) 0 (by simp only[push_cast,↓reduceIte,Nat.reduceEqDiff,Nat.reduceLT,Nat.reduceLeDiff,Int.reduceNeg,↓Int.reduceNatCast',hkB_solid (ints_solid u),renB_solid _ _ (ints_solid u)] <;> rfl) ⟨by omega,rfl⟩ ?_
 rintro i ⟨hi,hh⟩
 unfold F_wagonpoolref16_unitary_L0
 have g1:=cnt_le u i 1
 have g2:=cnt_le u i (-1)
 by_cases hi4:i<4
 ·have hlt:i<u.length:=by omega
  have lx:=fun sz lent=>ldO_map sz lent nI u i hlt
  have hk:((i:Int)<4)=True:=by simp; omega
  have s1:=cnt_step hlt 1
  have s2:=cnt_step hlt (-1)
  have hd:(u.drop i).all (fun n=>decide (-1≤n) && decide (n≤1))=((decide (-1≤u.getD i default) && decide (u.getD i default≤1)) && (u.drop (i+1)).all (fun n=>decide (-1≤n) && decide (n≤1))):=by
   rw[List.drop_eq_getElem_cons hlt,List.all_cons]
   simp[List.getD_eq_getElem?_getD,hlt]
  rw[hd]at hh
  generalize u.getD i default=n at*
  have lx:∀ sz lent,ldO (some ⟨false,sz,u.map nI,lent⟩) 1 false i=some (.int .i64 n):=lx
  by_cases x1:n < -1
  ·have hu:unU u=false:=by
    unfold unU
    rw[hh]
    simp; omega
   simp (disch:=first|omega|decide) only[push_cast,↓reduceIte,Nat.reduceEqDiff,Int.reduceNeg,idxA_ptr,hk,lx,x1,hu,Int.toNat_natCast,Nat.zero_add]
  ·by_cases x2:1<n
   ·have hu:unU u=false:=by
     unfold unU
     rw[hh]
     simp; omega
    simp (disch:=first|omega|decide) only[push_cast,↓reduceIte,Nat.reduceEqDiff,Int.reduceNeg,idxA_ptr,hk,lx,x1,x2,hu,Int.toNat_natCast,Nat.zero_add]
   ·have hh2:u.all (fun n=>decide (-1≤n) && decide (n≤1))=(u.drop (i+1)).all (fun n=>decide (-1≤n) && decide (n≤1)):=by
     rw[hh,show decide (-1≤n)=true by simp; omega,show decide (n≤1)=true by simp; omega]; rfl
    rcases(show n=0∨n=1∨n=-1 by omega)with rfl | rfl | rfl
    ·simp (disch:=first|omega|decide) only[push_cast,↓reduceIte,Nat.reduceEqDiff,Nat.reduceLT,Nat.reduceLeDiff,Int.reduceLT,Int.reduceNeg,idxA_ptr,hk,lx,Int.toNat_natCast,Nat.zero_add,add_i,Int.reduceEq]
     refine next_head (i+1) (by exact⟨by omega,hh2⟩) (by omega) ?_
     rw[s1,s2]
     simp only[push_cast,↓reduceIte,Int.reduceNeg,Int.reduceEq,Int.add_zero,hkB_solid (ints_solid u),renB_solid _ _ (ints_solid u)] <;> rfl
    ·simp (disch:=first|omega|decide) only[push_cast,↓reduceIte,Nat.reduceEqDiff,Nat.reduceLT,Nat.reduceLeDiff,Int.reduceLT,Int.reduceNeg,idxA_ptr,hk,lx,Int.toNat_natCast,Nat.zero_add,add_i,Int.reduceEq]
     refine next_head (i+1) (by exact⟨by omega,hh2⟩) (by omega) ?_
     rw[s1,s2]
     simp only[push_cast,↓reduceIte,Int.reduceNeg,Int.reduceEq,Int.add_zero,hkB_solid (ints_solid u),renB_solid _ _ (ints_solid u)] <;> rfl
    ·simp (disch:=first|omega|decide) only[push_cast,↓reduceIte,Nat.reduceEqDiff,Nat.reduceLT,Nat.reduceLeDiff,Int.reduceLT,Int.reduceNeg,idxA_ptr,hk,lx,Int.toNat_natCast,Nat.zero_add,add_i,Int.reduceEq]
     refine next_head (i+1) (by exact⟨by omega,hh2⟩) (by omega) ?_
     rw[s1,s2]
     simp only[push_cast,↓reduceIte,Int.reduceNeg,Int.reduceEq,Int.add_zero,hkB_solid (ints_solid u),renB_solid _ _ (ints_solid u)] <;> rfl
 ·obtain rfl:i=4:=by omega
  have hu:unU u=(decide (cntI u 4 1≤1) && decide (cntI u 4 (-1)≤1)):=by
   unfold unU
   rw[hh,List.drop_eq_nil_of_le (by omega)]
   have e:u.take 4=u:=List.take_of_length_le (by omega)
   simp only[List.all_nil,Bool.true_and,cntI,e]
   congr 1 <;> (congr 1; simp; omega)
  by_cases y1:cntI u 4 1≤1
  ·by_cases y2:cntI u 4 (-1)≤1 <;> simp (disch:=first|omega|decide) only[push_cast,↓reduceIte,Nat.reduceEqDiff,Int.reduceLT,Int.reduceNeg,↓Int.reduceNatCast',hu,y1,y2]
  ·simp (disch:=first|omega|decide) only[push_cast,↓reduceIte,Nat.reduceEqDiff,Int.reduceLT,Int.reduceNeg,↓Int.reduceNatCast',hu,y1]
theorem c_unitary:Contract Tryz.prog GG 62 sp_unitary:=
 contract_of tr_wagonpoolref16_unitary (tb_ok all_nil all_nil) (fun a h=>w_unitary a h)
def hgt:Nat→D→Bool
 |0,_=>false
 |n+1,.agg [_,_,_,_,_,_,.slc _ els _]=>els.all (hgt n)
 |_+1,_=>false
theorem hgt_ex(n:Nat)(op k u0 u1 u2 u3:Int)(els:List D):hgt (n+1) (exD op k u0 u1 u2 u3 els)=els.all (hgt n):=(rfl)
theorem aeq_d4(neg:Bool)(a b c d a' b' c' d':Int):paeq [0,0,0,0] neg (.agg (d4 a b c d)) (.agg (d4 a' b' c' d'))=some (.bool (decide (a=a'∧b=b'∧c=c'∧d=d') != neg)):=by
 simp only[paeq,flatEq,flatEq1,if_true,Option.map_some]
 congr 2
 simp[Bool.decide_and]
 rfl
theorem ld_un(lent:Bool)(op k u0 u1 u2 u3:Int)(els:List D):ldO (some ⟨false,1,exC op k u0 u1 u2 u3 els,lent⟩) 4 true 2=some (.agg (d4 u0 u1 u2 u3)):=(rfl)
attribute [push_cast] ld_un
theorem imm_exP{x:D}(h:ExP x)(st:St):imm st x=some x:=by
 obtain⟨op,k,u0,u1,u2,u3,els,_,_⟩:=h
 exact imm_ex ..
theorem keys_exP{x:D}(h:ExP x):keys x=[]:=by
 obtain⟨op,k,u0,u1,u2,u3,els,_,_⟩:=h
 exact keys_ex ..
theorem formR_iff(n:Nat)(op k u0 u1 u2 u3:Int)(els:List D):formR (n+1) (exD op k u0 u1 u2 u3 els)=true↔(1≤op∧op≤11∧(els.length:Int)=opsF op∧unU [u0,u1,u2,u3]=true∧0≤k∧(op=1→k≤1099511627776)∧(op=2→k<16)∧(op≠1→op≠2→k=0)
  ∧ (op≠1→u0=0∧u1=0∧u2=0∧u3=0))∧els.all (formR n)=true:=by
 rw[formR_ex]
 simp only[Bool.and_eq_true,decide_eq_true_eq,and_assoc]
theorem formR_all{n:Nat}{op k u0 u1 u2 u3:Int}{els:List D}(h:1≤op∧op≤11∧(els.length:Int)=opsF op∧unU [u0,u1,u2,u3]=true∧0≤k∧(op=1→k≤1099511627776)∧(op=2→k<16)∧(op≠1→op≠2→k=0)
  ∧ (op≠1→u0=0∧u1=0∧u2=0∧u3=0)):formR (n+1) (exD op k u0 u1 u2 u3 els)=els.all (formR n):=by
 cases hb:els.all (formR n)with
 |true=>exact(formR_iff ..).2 ⟨h,hb⟩
 |false=>exact Bool.eq_false_iff.2 fun hc=>by have:=((formR_iff ..).1 hc).2; rw[hb]at this; cases this
noncomputable def sp_rform(N:Nat):List D→Option D:=spOf (α:=D) (fun a=>[a]) (fun a=>ExP a∧hgt N a=true) (fun a=>.bool (formR N a))
theorem call_rform(N:Nat)(x:D)(h:ExP x∧hgt N x=true):sp_rform N [x]=some (.bool (formR N x)):=
 spOf_enc (fun a b h=>by simp only[List.cons.injEq,and_true]at h; exact h) x h
noncomputable abbrev TRF(N:Nat):Tbl:=tb [(61,sp_ropers),(62,sp_unitary),(32,sp_rform N)] []
set_option maxHeartbeats 8000000 in
set_option maxRecDepth 20000 in
theorem w_rform(N:Nat)(x:D)(hx:ExP x)(hh:hgt (N+1) x=true):@wW GG (TRF N) F_wagonpoolref16_Formed.code (argF [x]) [] ⟨retQ F_wagonpoolref16_Formed.res (.bool (formR (N+1) x))⟩:=by
 obtain⟨op,k,u0,u1,u2,u3,els,hl,hel⟩:=hx
 rw[hgt_ex]at hh
 have cu:=call_unitary [u0,u1,u2,u3] rfl
 have bad:¬ (1≤op∧op≤11∧(els.length:Int)=opsF op∧unU [u0,u1,u2,u3]=true∧0≤k∧(op=1→k≤1099511627776)∧(op=2→k<16)∧(op≠1→op≠2→k=0)∧(op≠1→u0=0∧u1=0∧u2=0∧u3=0))→formR (N+1) (exD op k u0 u1 u2 u3 els)=false:=
  fun h=>Bool.eq_false_iff.2 fun hc=>h ((formR_iff ..).1 hc).1
 have hg:=@formR_all N op k u0 u1 u2 u3 els
 generalize formR (N+1) (exD op k u0 u1 u2 u3 els)=r at*
 simp only[List.map_cons,List.map_nil,nI]at cu
 unfold F_wagonpoolref16_Formed
 by_cases c1:op<1
 ·obtain rfl:=bad (by omega)
  simp (disch:=first|omega|decide) only[push_cast,↓reduceIte,Nat.reduceEqDiff,c1]
 by_cases c2:11<op
 ·obtain rfl:=bad (by omega)
  simp (disch:=first|omega|decide) only[push_cast,↓reduceIte,Nat.reduceEqDiff,c1,c2]
 have co:=call_ropers op ⟨by omega,by omega⟩
 by_cases c3:(els.length:Int)=opsF op
 case neg=>
  obtain rfl:=bad (fun h=>c3 h.2.2.1)
  simp (disch:=first|omega|decide) only[push_cast,↓reduceIte,Nat.reduceEqDiff,c1,c2,co,c3]
 cases c4:unU [u0,u1,u2,u3]with
 |false=>
  rw[c4]at cu
  obtain rfl:=bad (fun h=>by rw[c4]at h; exact absurd h.2.2.2.1 (by decide))
  simp (disch:=first|omega|decide) only[push_cast,↓reduceIte,Nat.reduceEqDiff,c1,c2,co,c3,cu]
 |true=>
 rw[c4]at cu bad hg
 by_cases c5:k<0
 ·obtain rfl:=bad (by omega)
  simp (disch:=first|omega|decide) only[push_cast,↓reduceIte,Nat.reduceEqDiff,c1,c2,co,c3,cu,c5]
 by_cases o1:op=1
 ·subst o1
  obtain rfl:els=[]:=List.length_eq_zero_iff.1 (by have:=opsF_1; omega)
  have e0:=opsF_1
  rw[e0]at co
  by_cases k1:1099511627776<k
  ·obtain rfl:=bad (by omega)
   simp (disch:=first|omega|decide) only[push_cast,↓reduceIte,Nat.reduceEqDiff,Int.reduceLT,co,cu,c5,k1]
  ·obtain rfl:r=true:=by rw[hg ⟨by omega,by omega,by omega,rfl,by omega,by omega,by omega,by omega,by omega⟩]; rfl
   simp (disch:=first|omega|decide) only[push_cast,↓reduceIte,Nat.reduceEqDiff,Int.reduceLT,co,cu,c5,k1,Int.reduceEq]
   refine W_while (fun i:Nat=>[(1,.ptr 0 0),(3,.int .i64 0)]) (fun _=>[⟨false,1,exC 1 k u0 u1 u2 u3 [],false⟩]) (fun i=>True) (fun i=>i) 0 (by simp only[push_cast,↓reduceIte,Nat.reduceEqDiff,Nat.reduceLT,Nat.reduceLeDiff] <;> rfl) trivial ?_
   intro i _
   unfold F_wagonpoolref16_Formed_L0
   simp (disch:=first|omega|decide) only[push_cast,↓reduceIte,Nat.reduceEqDiff,Int.reduceLT,List.length_nil,Int.cast_ofNat_Int]
 by_cases d0:u0=0∧u1=0∧u2=0∧u3=0
 case neg=>
  obtain rfl:=bad (by omega)
  by_cases o2:op=2
  ·subst o2
   by_cases k1:16≤k
   ·simp (disch:=first|omega|decide) only[push_cast,↓reduceIte,Nat.reduceEqDiff,Int.reduceLT,co,c3,cu,c5,k1,Int.reduceEq]
   ·simp (disch:=first|omega|decide) only[push_cast,↓reduceIte,Nat.reduceEqDiff,Int.reduceLT,co,c3,cu,c5,k1,Int.reduceEq,aeq_d4,d0]
  ·by_cases k1:k=0
   ·simp (disch:=first|omega|decide) only[push_cast,↓reduceIte,Nat.reduceEqDiff,Int.reduceLT,c1,c2,co,c3,cu,k1,o1,o2,aeq_d4,d0]
   ·simp (disch:=first|omega|decide) only[push_cast,↓reduceIte,Nat.reduceEqDiff,c1,c2,co,c3,cu,c5,k1,o1,o2]
 obtain⟨rfl,rfl,rfl,rfl⟩:=d0
 by_cases o2:op=2
 ·subst o2
  obtain rfl:els=[]:=List.length_eq_zero_iff.1 (by have:=opsF_2; omega)
  have e0:=opsF_2
  rw[e0]at co
  by_cases k1:16≤k
  ·obtain rfl:=bad (by omega)
   simp (disch:=first|omega|decide) only[push_cast,↓reduceIte,Nat.reduceEqDiff,Int.reduceLT,co,cu,c5,k1,Int.reduceEq]
  ·obtain rfl:r=true:=by rw[hg ⟨by omega,by omega,by omega,rfl,by omega,by omega,by omega,by omega,by omega⟩]; rfl
   simp (disch:=first|omega|decide) only[push_cast,↓reduceIte,Nat.reduceEqDiff,Int.reduceLT,co,cu,c5,k1,Int.reduceEq,aeq_d4]
   refine W_while (fun i:Nat=>[(1,.ptr 0 0),(3,.int .i64 0)]) (fun _=>[⟨false,1,exC 2 k 0 0 0 0 [],false⟩]) (fun i=>True) (fun i=>i) 0 (by simp only[push_cast,↓reduceIte,Nat.reduceEqDiff,Nat.reduceLT,Nat.reduceLeDiff] <;> rfl) trivial ?_
   intro i _
   unfold F_wagonpoolref16_Formed_L0
   simp (disch:=first|omega|decide) only[push_cast,↓reduceIte,Nat.reduceEqDiff,Int.reduceLT,List.length_nil,Int.cast_ofNat_Int]
 by_cases k1:k=0
 case neg=>
  obtain rfl:=bad (by omega)
  simp (disch:=first|omega|decide) only[push_cast,↓reduceIte,Nat.reduceEqDiff,c1,c2,co,c3,cu,c5,k1,o1,o2]
 subst k1
 obtain rfl:r=els.all (formR N):=hg ⟨by omega,by omega,by omega,rfl,by omega,by omega,by omega,by omega,by omega⟩
 simp (disch:=first|omega|decide) only[push_cast,↓reduceIte,Nat.reduceEqDiff,c1,c2,co,c3,cu,c5,o1,o2,aeq_d4]
 refine W_while (fun i:Nat=>[(1,.ptr 0 0),(3,.int .i64 (i:Int))]) (fun _=>[⟨false,1,exC op 0 0 0 0 0 els,false⟩]) (fun i=>i≤els.length∧els.all (formR N)=(els.drop i).all (formR N)) (fun i=>els.length - i) 0 (by simp only[push_cast,↓reduceIte,Nat.reduceEqDiff,Nat.reduceLT,Nat.reduceLeDiff,↓Int.reduceNatCast'] <;> rfl) ⟨Nat.zero_le _,rfl⟩ ?_
 rintro i ⟨hi,hd⟩
 unfold F_wagonpoolref16_Formed_L0
 simp (disch:=first|omega|decide) only[push_cast,↓reduceIte,Nat.reduceEqDiff]
 refine ifD_split (fun h2=>?_) (fun h2=>?_)
 ·have hlt:i<els.length:=by omega
  rw[drop_allD hlt]at hd
  have hix:=fun st t=>idx_ex st els t i hlt
  have hm:=getD_memD hlt
  have hy:=hel _ hm
  have cf:=call_rform N (els.getD i default) ⟨hy,List.all_eq_true.1 hh _ hm⟩
  have hp:=pld_exP hy
  have him:=imm_exP hy
  have hke:=keys_exP hy
  generalize els.getD i default=y at*
  cases hf:formR N y with
  |false=>
   rw[hf]at cf hd
   rw[Bool.false_and]at hd
   simp (disch:=first|omega|decide) only[push_cast,↓reduceIte,Nat.reduceEqDiff,hix,hp,him,cf,hd]
  |true=>
   rw[hf]at cf hd
   rw[Bool.true_and]at hd
   simp (disch:=first|omega|decide) only[push_cast,↓reduceIte,Nat.reduceEqDiff,Nat.reduceLT,Nat.reduceLeDiff,hix,hp,him,cf,add_i]
   refine next_head (i+1) (by exact⟨by omega,hd⟩) (by omega) ?_
   simp only[push_cast] <;> rfl
 ·obtain rfl:i=els.length:=by omega
  rw[List.drop_length]at hd
  simp (disch:=first|omega|decide) only[push_cast,↓reduceIte,hd,List.all_nil]
theorem c_rform:∀ N,Contract Tryz.prog GG 32 (sp_rform N)
 |0=>fun w g ds vs d h=>by
  obtain⟨a,_,⟨_,h2⟩,_⟩:=spOf_inv h
  cases h2
 |N+1=>contract_of (T:=TRF N) tr_wagonpoolref16_Formed (tb_ok (all_cons c_ropers (all_cons c_unitary (all_cons (c_rform N) all_nil))) all_nil) (fun a h=>w_rform N a h.1 h.2)
theorem attU_dim(a:Int):dimB (attU a):=by
 refine⟨attU_len a,fun n hn=>?_⟩
 unfold attU at hn
 split at hn <;> (try split at hn) <;> (try split at hn) <;> (try split at hn) <;> (simp only[List.mem_cons,List.not_mem_nil,or_false]at hn; omega)
theorem unU_dim{u0 u1 u2 u3:Int}(h:unU [u0,u1,u2,u3]=true):dimB [u0,u1,u2,u3]:=by
 unfold unU at h
 simp only[Bool.and_eq_true]at h
 have h1:=List.all_eq_true.1 h.1.1
 refine⟨rfl,fun n hn=>?_⟩
 have h2:=h1 n hn
 simp only[Bool.and_eq_true,decide_eq_true_eq]at h2
 omega
theorem combU_dim{s:Int}{a b d:List Int}(h:combU s a b=some d)(ha:dimB a)(hb:dimB b):dimB d:=by
 have hl:=combU_len h ha.1 hb.1
 unfold combU at h
 split at h
 case isFalse=>cases h
 rename_i h2
 simp only[Option.some.injEq]at h
 subst h
 refine⟨hl,fun n hn=>?_⟩
 have h3:=List.all_eq_true.1 h2 n hn
 simp only[Bool.and_eq_true,decide_eq_true_eq]at h3
 exact h3
theorem ruleU_dim{op:Int}{l:List (Option (List Int))}{d:List Int}(h:ruleU op l=some d)(hl:∀ u,some u∈l→dimB u):dimB d:=by
 unfold ruleU at h
 split at h
 ·rename_i a b
  have ha:=hl a (by simp); have hb:=hl b (by simp)
  split at h
  ·exact combU_dim h ha hb
  ·split at h
   ·exact combU_dim h ha hb
   ·split at h
    ·simp only[Option.some.injEq]at h; subst h; exact ha
    ·cases h
 ·rename_i a b c e
  split at h
  ·simp only[Option.some.injEq]at h; subst h; exact hl c (by simp)
  ·cases h
 ·cases h
theorem unitU_dim:∀ (n:Nat) {x:D} {d:List Int},ExP x→formR n x=true→unitU n x=some d→dimB d
 |0,_,_,_,_,h=>by cases h
 |n+1,_,d,.mk op k u0 u1 u2 u3 els _ hel,hf,h=>by
  obtain⟨⟨_,_,_,hu,_⟩,ha⟩:=(formR_iff ..).1 hf
  rw[unitU_ex]at h
  split at h
  ·simp only[Option.some.injEq]at h; subst h; exact unU_dim hu
  ·split at h
   ·simp only[Option.some.injEq]at h; subst h; exact attU_dim k
   ·refine ruleU_dim h fun u hu=>?_
    obtain⟨x,hx,hxu⟩:=List.mem_map.1 hu
    exact unitU_dim n (hel x hx) (List.all_eq_true.1 ha x hx) hxu
theorem ruleU_2(op:Int)(a b:List Int):ruleU op [some a,some b]=if op=5 then combU 1 a b else if op=8∨op=9∨op=10 then combU (-1) a b else if a=b then some a else none:=(rfl)
theorem ruleU_n1(op:Int)(b:Option (List Int)):ruleU op [none,b]=none:=by cases b <;> rfl
theorem ruleU_n2(op:Int)(a:List Int):ruleU op [some a,none]=none:=(rfl)
theorem ruleU_4(op:Int)(a b c d:List Int):ruleU op [some a,some b,some c,some d]=if a=b∧c=d then some c else none:=(rfl)
theorem comb_or(s a0 a1 a2 a3 b0 b1 b2 b3:Int):combU s [a0,a1,a2,a3] [b0,b1,b2,b3]=none∨∃ e0 e1 e2 e3,combU s [a0,a1,a2,a3] [b0,b1,b2,b3]=some [e0,e1,e2,e3]:=by
 rw[comb_4]
 split
 ·exact .inr ⟨_,_,_,_,rfl⟩
 ·exact .inl rfl
noncomputable def sp_runit(N:Nat):List D→Option D:=spOf (α:=D) (fun a=>[a]) (fun a=>ExP a∧formR N a=true) (fun a=>.tup [oD (unitU N a),.bool (unitU N a).isSome])
theorem call_runit(N:Nat)(x:D)(h:ExP x∧formR N x=true):sp_runit N [x]=some (.tup [oD (unitU N x),.bool (unitU N x).isSome]):=
 spOf_enc (fun a b h=>by simp only[List.cons.injEq,and_true]at h; exact h) x h
noncomputable abbrev TRU(N:Nat):Tbl:=tb [(14,sp_att),(63,sp_comb),(33,sp_runit N)] []
theorem ix0(st:St)(x:D)(l:List D)(t:Bool):pidxS st 7 (.slc 7 (x::l) t) (.int .i64 0)=some (.eptr x 0):=idx_ex st (x::l) t 0 (by simp)
theorem ix1(st:St)(x y:D)(l:List D)(t:Bool):pidxS st 7 (.slc 7 (x::y::l) t) (.int .i64 1)=some (.eptr y 0):=idx_ex st (x::y::l) t 1 (by simp)
theorem ix2(st:St)(x y z:D)(l:List D)(t:Bool):pidxS st 7 (.slc 7 (x::y::z::l) t) (.int .i64 2)=some (.eptr z 0):=idx_ex st (x::y::z::l) t 2 (by simp)
theorem ix3(st:St)(x y z w:D)(l:List D)(t:Bool):pidxS st 7 (.slc 7 (x::y::z::w::l) t) (.int .i64 3)=some (.eptr w 0):=idx_ex st (x::y::z::w::l) t 3 (by simp)
attribute [push_cast] ix0 ix1 ix2 ix3
set_option maxHeartbeats 16000000 in
set_option maxRecDepth 20000 in
theorem w_runit(N:Nat)(x:D)(hx:ExP x)(hf:formR (N+1) x=true):@wW GG (TRU N) F_wagonpoolref17_unit.code (argF [x]) [] ⟨retQ F_wagonpoolref17_unit.res (.tup [oD (unitU (N+1) x),.bool (unitU (N+1) x).isSome])⟩:=by
 obtain⟨op,k,u0,u1,u2,u3,els,hl,hel⟩:=hx
 obtain⟨⟨g1,g2,g3,g4,g5,g6,g7,g8,g9⟩,ga⟩:=(formR_iff ..).1 hf
 rw[unitU_ex]
 unfold F_wagonpoolref17_unit
 by_cases o1:op=1
 ·subst o1
  rw[if_pos rfl]
  simp (disch:=first|omega|decide) only[push_cast,↓reduceIte,Nat.reduceEqDiff,Int.reduceNeg,oD_some,Option.isSome_some]
 rw[if_neg o1]
 by_cases o2:op=2
 ·subst o2
  rw[if_pos rfl]
  have ca:=call_att k ⟨g5,g7 rfl⟩
  obtain⟨a,b,c,d,ea,_⟩:=dimB_of (attU_dim k)
  rw[ea]at ca ⊢
  simp only[List.map_cons,List.map_nil,nI]at ca
  simp (disch:=first|omega|decide) only[push_cast,↓reduceIte,Nat.reduceEqDiff,Nat.reduceAdd,Int.reduceNeg,ca,oD_some,Option.isSome_some,Int.reduceEq]
 rw[if_neg o2]
 have hch:∀ y∈els,ExP y∧formR N y=true:=fun y hy=>⟨hel y hy,List.all_eq_true.1 ga y hy⟩
 have hun:∀ y∈els,unitU N y=none∨∃ a b c d,unitU N y=some [a,b,c,d]∧dimB [a,b,c,d]:=by
  intro y hy
  cases e:unitU N y with
  |none=>exact .inl rfl
  |some u=>
   have hd:=unitU_dim N (hch y hy).1 (hch y hy).2 e
   obtain⟨a,b,c,d,rfl,_⟩:=dimB_of hd
   exact .inr ⟨a,b,c,d,rfl,hd⟩
 by_cases o11:op=11
 ·subst o11
  have h4:els.length=4:=by have:opsF 11=4:=rfl; omega
  match els,h4 with
  |[x0,x1,x2,x3],_=>
   obtain⟨m0,f0⟩:=hch x0 (by simp)
   obtain⟨m1,f1⟩:=hch x1 (by simp)
   obtain⟨m2,f2⟩:=hch x2 (by simp)
   obtain⟨m3,f3⟩:=hch x3 (by simp)
   have c0:=call_runit N x0 ⟨m0,f0⟩
   have c1:=call_runit N x1 ⟨m1,f1⟩
   have c2:=call_runit N x2 ⟨m2,f2⟩
   have c3:=call_runit N x3 ⟨m3,f3⟩
   have p0:=pld_exP m0
   have p1:=pld_exP m1
   have p2:=pld_exP m2
   have p3:=pld_exP m3
   have i0:=imm_exP m0
   have i1:=imm_exP m1
   have i2:=imm_exP m2
   have i3:=imm_exP m3
   have k0:=keys_exP m0
   have k1:=keys_exP m1
   have k2:=keys_exP m2
   have k3:=keys_exP m3
   rw[show([x0,x1,x2,x3]:List D).map (unitU N)=[unitU N x0,unitU N x1,unitU N x2,unitU N x3]from rfl]
   have hu0:=hun x0 (by simp)
   have hu1:=hun x1 (by simp)
   have hu2:=hun x2 (by simp)
   have hu3:=hun x3 (by simp)
   have hn:∀ a b c d,(a=none∨b=none∨c=none∨d=none)→ruleU 11 [a,b,c,d]=none:=by
    intro a b c d h
    cases a <;> cases b <;> cases c <;> cases d <;> first | rfl | simp at h
   rcases hu0 with e0 | ⟨a0,a1,a2,a3,e0,da⟩
   ·rw[e0,oD_none]at c0
    rw[hn _ _ _ _ (.inl e0)]
    rcases hu1 with e1 | ⟨b0,b1,b2,b3,e1,db⟩
    ·rw[e1,oD_none]at c1
     simp (disch:=first|omega|decide) only[push_cast,↓reduceIte,Nat.reduceEqDiff,Nat.reduceAdd,Int.reduceNeg,c0,c1,p0,p1,i0,i1,k0,k1,oD_none,Option.isSome_none,Int.reduceEq]
    ·rw[e1,oD_some]at c1
     simp (disch:=first|omega|decide) only[push_cast,↓reduceIte,Nat.reduceEqDiff,Nat.reduceAdd,Int.reduceNeg,c0,c1,p0,p1,i0,i1,k0,k1,oD_none,Option.isSome_none,Int.reduceEq]
   rw[e0,oD_some]at c0
   rcases hu1 with e1 | ⟨b0,b1,b2,b3,e1,db⟩
   ·rw[e1,oD_none]at c1
    rw[hn _ _ _ _ (.inr (.inl e1))]
    simp (disch:=first|omega|decide) only[push_cast,↓reduceIte,Nat.reduceEqDiff,Nat.reduceAdd,Int.reduceNeg,c0,c1,p0,p1,i0,i1,k0,k1,oD_none,Option.isSome_none,Option.isSome_some,Int.reduceEq]
   rw[e1,oD_some]at c1
   rcases hu2 with e2 | ⟨y0,y1,y2,y3,e2,dy⟩
   ·rw[e2,oD_none]at c2
    rw[hn _ _ _ _ (.inr (.inr (.inl e2)))]
    rcases hu3 with e3 | ⟨z0,z1,z2,z3,e3,dz⟩
    ·rw[e3,oD_none]at c3
     simp (disch:=first|omega|decide) only[push_cast,↓reduceIte,Nat.reduceEqDiff,Nat.reduceAdd,Int.reduceNeg,c0,c1,c2,c3,p0,p1,p2,p3,i0,i1,i2,i3,k0,k1,k2,k3,oD_none,Option.isSome_none,Option.isSome_some,Int.reduceEq]
    ·rw[e3,oD_some]at c3
     simp (disch:=first|omega|decide) only[push_cast,↓reduceIte,Nat.reduceEqDiff,Nat.reduceAdd,Int.reduceNeg,c0,c1,c2,c3,p0,p1,p2,p3,i0,i1,i2,i3,k0,k1,k2,k3,oD_none,Option.isSome_none,Option.isSome_some,Int.reduceEq]
   rw[e2,oD_some]at c2
   rcases hu3 with e3 | ⟨z0,z1,z2,z3,e3,dz⟩
   ·rw[e3,oD_none]at c3
    rw[hn _ _ _ _ (.inr (.inr (.inr e3)))]
    simp (disch:=first|omega|decide) only[push_cast,↓reduceIte,Nat.reduceEqDiff,Nat.reduceAdd,Int.reduceNeg,c0,c1,c2,c3,p0,p1,p2,p3,i0,i1,i2,i3,k0,k1,k2,k3,oD_none,Option.isSome_none,Option.isSome_some,Int.reduceEq]
   rw[e3,oD_some]at c3
   rw[e0,e1,e2,e3,ruleU_4]
   by_cases he:a0=b0∧a1=b1∧a2=b2∧a3=b3
   ·by_cases hf:y0=z0∧y1=z1∧y2=z2∧y3=z3
    ·rw[if_pos (by simpa using⟨he,hf⟩)]
     simp (disch:=first|omega|decide) only[push_cast,↓reduceIte,Nat.reduceEqDiff,Nat.reduceAdd,Int.reduceNeg,c0,c1,c2,c3,p0,p1,p2,p3,i0,i1,i2,i3,k0,k1,k2,k3,aeq_d4,he,hf,oD_some,Option.isSome_some,Int.reduceEq]
    ·rw[if_neg (by simpa using fun _ _ _ _=>by simpa using hf)]
     simp (disch:=first|omega|decide) only[push_cast,↓reduceIte,Nat.reduceEqDiff,Nat.reduceAdd,Int.reduceNeg,c0,c1,c2,c3,p0,p1,p2,p3,i0,i1,i2,i3,k0,k1,k2,k3,aeq_d4,he,hf,oD_none,Option.isSome_none,Option.isSome_some,Int.reduceEq]
   ·rw[if_neg (fun h=>he (by simpa using h.1))]
    simp (disch:=first|omega|decide) only[push_cast,↓reduceIte,Nat.reduceEqDiff,Nat.reduceAdd,Int.reduceNeg,c0,c1,c2,c3,p0,p1,p2,p3,i0,i1,i2,i3,k0,k1,k2,k3,aeq_d4,he,oD_none,Option.isSome_none,Option.isSome_some,Int.reduceEq]
 ·have h2:els.length=2:=by
   have:opsF op=2:=by
    unfold opsF
    rw[if_neg (by omega),if_neg (by omega),if_neg o11]
   omega
  match els,h2 with
  |[x0,x1],_=>
   obtain⟨m0,f0⟩:=hch x0 (by simp)
   obtain⟨m1,f1⟩:=hch x1 (by simp)
   have c0:=call_runit N x0 ⟨m0,f0⟩
   have c1:=call_runit N x1 ⟨m1,f1⟩
   have p0:=pld_exP m0
   have p1:=pld_exP m1
   have i0:=imm_exP m0
   have i1:=imm_exP m1
   have k0:=keys_exP m0
   have k1:=keys_exP m1
   rw[show([x0,x1]:List D).map (unitU N)=[unitU N x0,unitU N x1]from rfl]
   have hu0:=hun x0 (by simp)
   have hu1:=hun x1 (by simp)
   rcases hu0 with e0 | ⟨a0,a1,a2,a3,e0,da⟩
   ·rw[e0,oD_none]at c0
    rw[e0,ruleU_n1]
    rcases hu1 with e1 | ⟨b0,b1,b2,b3,e1,db⟩
    ·rw[e1,oD_none]at c1
     simp (disch:=first|omega|decide) only[push_cast,↓reduceIte,Nat.reduceEqDiff,Nat.reduceAdd,Int.reduceNeg,c0,c1,p0,p1,i0,i1,k0,k1,o1,o2,oD_none,Option.isSome_none]
    ·rw[e1,oD_some]at c1
     simp (disch:=first|omega|decide) only[push_cast,↓reduceIte,Nat.reduceEqDiff,Nat.reduceAdd,Int.reduceNeg,c0,c1,p0,p1,i0,i1,k0,k1,o1,o2,oD_none,Option.isSome_none]
   rw[e0,oD_some]at c0
   rw[e0]
   rcases hu1 with e1 | ⟨b0,b1,b2,b3,e1,db⟩
   ·rw[e1,oD_none]at c1
    rw[e1,ruleU_n2]
    simp (disch:=first|omega|decide) only[push_cast,↓reduceIte,Nat.reduceEqDiff,Nat.reduceAdd,Int.reduceNeg,c0,c1,p0,p1,i0,i1,k0,k1,o1,o2,oD_none,Option.isSome_none,Option.isSome_some]
   rw[e1,oD_some]at c1
   rw[e1,ruleU_2]
   by_cases o5:op=5
   ·subst o5
    have cc:=call_comb [a0,a1,a2,a3] [b0,b1,b2,b3] 1 ⟨da,db,.inl rfl⟩
    simp only[List.map_cons,List.map_nil,nI]at cc
    rw[if_pos rfl]
    rcases comb_or 1 a0 a1 a2 a3 b0 b1 b2 b3 with hn | ⟨e0,e1,e2,e3,hn⟩
    ·rw[hn,oD_none]at cc
     rw[hn]
     simp (disch:=first|omega|decide) only[push_cast,↓reduceIte,Nat.reduceEqDiff,Nat.reduceAdd,Int.reduceNeg,c0,c1,p0,p1,i0,i1,k0,k1,o1,o2,cc,oD_none,Option.isSome_none,Option.isSome_some]
    ·rw[hn,oD_some]at cc
     rw[hn]
     simp (disch:=first|omega|decide) only[push_cast,↓reduceIte,Nat.reduceEqDiff,Nat.reduceAdd,Int.reduceNeg,c0,c1,p0,p1,i0,i1,k0,k1,o1,o2,cc,oD_some,Option.isSome_some]
   rw[if_neg o5]
   by_cases o8:op=8∨op=9∨op=10
   ·rw[if_pos o8]
    have cc:=call_comb [a0,a1,a2,a3] [b0,b1,b2,b3] (-1) ⟨da,db,.inr rfl⟩
    simp only[List.map_cons,List.map_nil,nI]at cc
    rcases comb_or (-1) a0 a1 a2 a3 b0 b1 b2 b3 with hn | ⟨e0,e1,e2,e3,hn⟩
    ·rw[hn,oD_none]at cc
     rw[hn]
     rcases o8 with rfl | rfl | rfl <;> simp (disch:=first|omega|decide) only[push_cast,↓reduceIte,Nat.reduceEqDiff,Nat.reduceAdd,Int.reduceNeg,c0,c1,p0,p1,i0,i1,k0,k1,o1,o2,cc,oD_none,Option.isSome_none,Option.isSome_some,Int.reduceEq]
    ·rw[hn,oD_some]at cc
     rw[hn]
     rcases o8 with rfl | rfl | rfl <;> simp (disch:=first|omega|decide) only[push_cast,↓reduceIte,Nat.reduceEqDiff,Nat.reduceAdd,Int.reduceNeg,c0,c1,p0,p1,i0,i1,k0,k1,o1,o2,cc,oD_some,Option.isSome_some,Int.reduceEq]
   rw[if_neg o8]
   have x8:¬ op=8:=by omega
   have x9:¬ op=9:=by omega
   have x10:¬ op=10:=by omega
   by_cases he:a0=b0∧a1=b1∧a2=b2∧a3=b3
   ·rw[if_pos (by simpa using he)]
    simp (disch:=first|omega|decide) only[push_cast,↓reduceIte,Nat.reduceEqDiff,Nat.reduceAdd,Int.reduceNeg,c0,c1,p0,p1,i0,i1,k0,k1,o1,o2,o5,x8,x9,x10,o11,aeq_d4,he,oD_some,Option.isSome_some]
   ·rw[if_neg (by simpa using he)]
    simp (disch:=first|omega|decide) only[push_cast,↓reduceIte,Nat.reduceEqDiff,Nat.reduceAdd,Int.reduceNeg,c0,c1,p0,p1,i0,i1,k0,k1,o1,o2,o5,x8,x9,x10,o11,aeq_d4,he,oD_none,Option.isSome_none,Option.isSome_some]
theorem c_runit:∀ N,Contract Tryz.prog GG 33 (sp_runit N)
 |0=>fun w g ds vs d h=>by
  obtain⟨a,_,⟨_,h2⟩,_⟩:=spOf_inv h
  cases h2
 |N+1=>contract_of (T:=TRU N) tr_wagonpoolref17_unit (tb_ok (all_cons c_att (all_cons c_comb (all_cons (c_runit N) all_nil))) all_nil) (fun a h=>w_runit N a h.1 h.2)
def rU(N:Nat)(x:D):Option (List Int)×Int:=if formR N x then(unitU N x,if(unitU N x).isSome then 0 else 170)else(none,1)
noncomputable def sp_rUnit(N:Nat):List D→Option D:=spOf (α:=D) (fun a=>[a]) (fun a=>ExP a∧hgt N a=true) (fun a=>.tup [oD (rU N a).1,.int .i64 (rU N a).2])
theorem call_rUnit(N:Nat)(x:D)(h:ExP x∧hgt N x=true):sp_rUnit N [x]=some (.tup [oD (rU N x).1,.int .i64 (rU N x).2]):=
 spOf_enc (fun a b h=>by simp only[List.cons.injEq,and_true]at h; exact h) x h
set_option maxHeartbeats 8000000 in
set_option maxRecDepth 20000 in
theorem w_rUnit(N:Nat)(x:D)(hx:ExP x)(hh:hgt N x=true):@wW GG (tb [(32,sp_rform N),(33,sp_runit N)] []) F_wagonpoolref17_Unit.code (argF [x]) [] ⟨retQ F_wagonpoolref17_Unit.res (.tup [oD (rU N x).1,.int .i64 (rU N x).2])⟩:=by
 have cf:=call_rform N x ⟨hx,hh⟩
 unfold rU
 cases hf:formR N x with
 |false=>
  rw[hf]at cf
  rw[if_neg (by decide)]
  obtain⟨op,k,u0,u1,u2,u3,els,hl,hel⟩:=hx
  unfold F_wagonpoolref17_Unit
  simp (disch:=first|omega|decide) only[push_cast,↓reduceIte,Nat.reduceEqDiff,cf,oD_none]
 |true=>
  rw[hf]at cf
  rw[if_pos rfl]
  have cu:=call_runit N x ⟨hx,hf⟩
  cases hu:unitU N x with
  |none=>
   rw[hu,oD_none]at cu
   obtain⟨op,k,u0,u1,u2,u3,els,hl,hel⟩:=hx
   unfold F_wagonpoolref17_Unit
   simp (disch:=first|omega|decide) only[push_cast,↓reduceIte,Nat.reduceEqDiff,Nat.reduceAdd,cf,cu,oD_none,Option.isSome_none,Bool.false_eq_true]
  |some d=>
   obtain⟨a,b,c,d,rfl,_⟩:=dimB_of (unitU_dim N hx hf hu)
   rw[hu,oD_some]at cu
   obtain⟨op,k,u0,u1,u2,u3,els,hl,hel⟩:=hx
   unfold F_wagonpoolref17_Unit
   simp (disch:=first|omega|decide) only[push_cast,↓reduceIte,Nat.reduceEqDiff,Nat.reduceAdd,cf,cu,oD_some,Option.isSome_some]
theorem c_rUnit(N:Nat):Contract Tryz.prog GG 13 (sp_rUnit N):=
 contract_of tr_wagonpoolref17_Unit (tb_ok (all_cons (c_rform N) (all_cons (c_runit N) all_nil)) all_nil) (fun a h=>w_rUnit N a h.1 h.2)
def sizeL(f:Nat→D→Nat)(L:Nat):List D→Nat→Nat
 |[],n=>n
 |x::l,n=>if n<L then sizeL f L l (n+f (L - n) x)else n
def exL:D→List D
 |.agg [_,_,_,_,_,_,.slc _ els _]=>els
 |_=>[]
def sizeF:Nat→Nat→D→Nat
 |0,_,_=>0
 |N+1,L,x=>sizeL (sizeF N) L (exL x) 1
theorem sizeF_ex(N L:Nat)(op k u0 u1 u2 u3:Int)(els:List D):sizeF (N+1) L (exD op k u0 u1 u2 u3 els)=sizeL (sizeF N) L els 1:=(rfl)
theorem sizeL_le{f:Nat→D→Nat}{L:Nat}(hf:∀ m x,1≤m→f m x≤m):∀ (l:List D) (n:Nat),n≤L→sizeL f L l n≤L∧n≤sizeL f L l n
 |[],n,h=>⟨h,Nat.le_refl _⟩
 |x::l,n,h=>by
  rw[sizeL]
  split
  ·have h1:=hf (L - n) x (by omega)
   have h2:=sizeL_le (L:=L) hf l (n+f (L - n) x) (by omega)
   omega
  ·omega
theorem sizeF_le:∀ (N L:Nat) (x:D),1≤L→sizeF N L x≤L
 |0,_,_,_=>Nat.zero_le _
 |N+1,L,x,h=>(sizeL_le (fun m x hm=>sizeF_le N m x hm) (exL x) 1 h).1
theorem sizeL_all{f:Nat→D→Nat}{L:Nat}{p:Nat→D→Prop}(hf:∀ m x,1≤m→f m x≤m)(hp:∀ (m:Nat) x,1≤m→m<L→f m x<m→∀ k,f m x≤k→p k x):∀ (l:List D) (n:Nat),1≤n→sizeL f L l n<L→∀ x∈l,∀ k,sizeL f L l n≤k+n→p k x
 |y::l,n,h1,h,x,hx,k,hk=>by
  rw[sizeL]at h hk
  by_cases hn:n<L
  ·rw[if_pos hn]at h hk
   have h2:=hf (L - n) y (by omega)
   have h3:n+f (L - n) y≤sizeL f L l (n+f (L - n) y):=(sizeL_le hf l _ (by omega)).2
   rcases List.mem_cons.1 hx with rfl | hx
   ·exact hp (L - n) x (by omega) (by omega) (by omega) k (by omega)
   ·exact sizeL_all hf hp l (n+f (L - n) y) (by omega) h x hx k (by omega)
  ·rw[if_neg hn]at h
   omega
theorem sizeF_hgt:∀ (N L:Nat) (x:D),ExP x→1≤L→L≤N→sizeF N L x<L→∀ k,sizeF N L x≤k→hgt k x=true
 |0,L,x,_,h1,h2,_,_,_=>by omega
 |N+1,L,_,.mk op k0 u0 u1 u2 u3 els _ hel,h1,h2,h3,k,hk=>by
  rw[sizeF_ex]at h3 hk
  have hb:=(sizeL_le (L:=L) (fun m x hm=>sizeF_le N m x hm) els 1 h1).2
  obtain⟨m,rfl⟩:∃ m,k=m+1:=⟨k - 1,by omega⟩
  rw[hgt_ex]
  refine List.all_eq_true.2 fun x hx=>?_
  exact sizeL_all (L:=L) (p:=fun k x=>ExP x→hgt k x=true) (fun m x hm=>sizeF_le N m x hm) (fun m x hm hml hlt k hk hx=>sizeF_hgt N m x hx hm (by omega) hlt k hk) els 1 (Nat.le_refl _) h3 x hx m hk (hel x hx)
noncomputable def sp_size(N:Nat):List D→Option D:=spOf (α:=D×Nat) (fun a=>[a.1,.int .i64 (a.2:Int)]) (fun a=>1≤a.2∧a.2≤N∧N≤100∧ExP a.1) (fun a=>.int .i64 (sizeF N a.2 a.1:Int))
theorem call_size(N L:Nat)(x:D)(h:1≤L∧L≤N∧N≤100∧ExP x):sp_size N [x,.int .i64 (L:Int)]=some (.int .i64 (sizeF N L x:Int)):=
 spOf_enc (fun⟨a0,a1⟩ ⟨b0,b1⟩ h=>by simp only[List.cons.injEq,D.int.injEq,true_and,and_true,Int.ofNat_inj]at h; simp[h]) (x,L) h
set_option maxHeartbeats 8000000 in
set_option maxRecDepth 20000 in
theorem w_size(N L:Nat)(x:D)(h1:1≤L)(h2:L≤N+1)(h3:N+1≤100)(hx:ExP x):@wW GG (tb [(5,sp_size N)] []) F_wagonpoolref17_Size.code (argF [x,.int .i64 (L:Int)]) [] ⟨retQ F_wagonpoolref17_Size.res (.int .i64 (sizeF (N+1) L x:Int))⟩:=by
 obtain⟨op,k,u0,u1,u2,u3,els,hl,hel⟩:=hx
 rw[sizeF_ex]
 generalize hr:sizeL (sizeF N) L els 1=r
 unfold F_wagonpoolref17_Size
 simp (disch:=first|omega|decide) only[push_cast]
 refine W_while (fun i:Nat×Nat=>[(1,.int .i64 (L:Int)),(2,.ptr 0 0),(5,.int .i64 (i.2:Int)),(6,.int .i64 (i.1:Int))]) (fun _=>[⟨false,1,exC op k u0 u1 u2 u3 els,false⟩]) (fun i=>i.1≤els.length∧1≤i.2∧i.2≤L∧sizeL (sizeF N) L (els.drop i.1) i.2=r) (fun i=>els.length - i.1) (0,1) (by simp only[push_cast,↓reduceIte,Nat.reduceEqDiff,Nat.reduceLT,Nat.reduceLeDiff,Int.reduceAdd,↓Int.reduceNatCast'] <;> rfl) ⟨Nat.zero_le _,Nat.le_refl _,h1,hr⟩ ?_
 rintro⟨i,n⟩ ⟨hi,hn1,hn2,hd⟩
 dsimp only at hi hn1 hn2 hd
 unfold F_wagonpoolref17_Size_L0
 simp (disch:=first|omega|decide) only[push_cast,↓reduceIte,Nat.reduceEqDiff]
 by_cases c1:(i:Int)<(els.length:Int)
 ·have hlt:i<els.length:=by omega
  rw[List.drop_eq_getElem_cons hlt,sizeL,show els[i]=els.getD i default by simp[List.getD_eq_getElem?_getD,hlt]]at hd
  by_cases c2:(n:Int)<(L:Int)
  ·rw[if_pos (by omega)]at hd
   have hix:=fun st t=>idx_ex st els t i hlt
   have hm:=getD_memD hlt
   have hy:=hel _ hm
   have cs:=call_size N (L - n) (els.getD i default) ⟨by omega,by omega,by omega,hy⟩
   have hle:=sizeF_le N (L - n) (els.getD i default) (by omega)
   have hp:=pld_exP hy
   have him:=imm_exP hy
   have hke:=keys_exP hy
   rw[show((L - n:Nat):Int)=(L:Int) - (n:Int) by omega]at cs
   generalize els.getD i default=y at*
   generalize sizeF N (L - n) y=q at*
   simp (disch:=first|omega|decide) only[push_cast,↓reduceIte,Nat.reduceEqDiff,Nat.reduceLT,Nat.reduceLeDiff,c1,c2,hix,hp,him,sub_i,cs,add_i]
   refine next_head (i+1,n+q) (by exact⟨by omega,by omega,by omega,hd⟩) (by show els.length - (i+1)<els.length - i; omega) ?_
   simp only[push_cast] <;> rfl
  ·rw[if_neg (by omega)]at hd
   subst hd
   simp (disch:=first|omega|decide) only[push_cast,↓reduceIte,Nat.reduceEqDiff,c1,c2]
 ·obtain rfl:i=els.length:=by omega
  rw[List.drop_length,sizeL]at hd
  simp (disch:=first|omega|decide) only[push_cast,↓reduceIte,Nat.reduceEqDiff,c1,hd]
theorem c_size:∀ N,Contract Tryz.prog GG 5 (sp_size N)
 |0=>fun w g ds vs d h=>by
  obtain⟨a,_,⟨h1,h2,_⟩,_⟩:=spOf_inv h
  omega
 |N+1=>contract_of tr_wagonpoolref17_Size (tb_ok (all_cons (c_size N) all_nil) all_nil) (fun a h=>w_size N a.2 a.1 h.1 h.2.1 h.2.2.1 h.2.2.2)
def mixV(k:Nat)(f:Int)(v:List Int)(i:Nat):List Int:=(scV k f v).take i++v.drop i
theorem scV_len(k:Nat)(f:Int)(v:List Int):(scV k f v).length=v.length:=by simp[scV]
theorem scV_get(k:Nat)(f:Int)(v:List Int)(i:Nat)(h:i<v.length):(scV k f v)[i]'(by rw[scV_len]; exact h)=v[i]*powU f ((attU (i:Int)).getD k 0):=by
 simp[scV]
theorem mix_len(k:Nat)(f:Int)(v:List Int)(i:Nat)(h:i≤v.length):(mixV k f v i).length=v.length:=by
 simp[mixV,scV_len]; omega
theorem mix_at(k:Nat)(f:Int)(v:List Int)(i:Nat)(h:i<v.length):at' (mixV k f v i) i=at' v i:=by
 have hl:=scV_len k f v
 unfold at' mixV
 rw[List.getD_eq_getElem?_getD,List.getD_eq_getElem?_getD,List.getElem?_append_right (by simp[hl]; omega)]
 simp[hl,Nat.min_eq_left (Nat.le_of_lt h)]
theorem mix_set(k:Nat)(f:Int)(v:List Int)(i:Nat)(h:i<v.length):(mixV k f v i).set i (at' v i*powU f ((attU (i:Int)).getD k 0))=mixV k f v (i+1):=by
 have hl:=scV_len k f v
 have e:at' v i=v[i]:=by simp[at',List.getD_eq_getElem?_getD,h]
 unfold mixV
 rw[List.set_append_right _ _ (by simp[hl]; omega),List.take_succ_eq_append_getElem (by rw[hl]; exact h),scV_get k f v i h,e,List.drop_eq_getElem_cons h,show i - ((scV k f v).take i).length=0 by simp[hl]; omega,List.set_cons_zero,List.append_assoc]
 rfl
theorem mix_0(k:Nat)(f:Int)(v:List Int):mixV k f v 0=v:=by simp[mixV]
theorem mix_end(k:Nat)(f:Int)(v:List Int):mixV k f v v.length=scV k f v:=by
 unfold mixV
 rw[List.drop_length,List.append_nil,List.take_of_length_le (by rw[scV_len]; exact Nat.le_refl _)]
theorem st_dim{l:List Int}(h:l.length=4):stO (some ⟨false,1,d4 0 0 0 0,false⟩) 4 0 (.agg (l.map nI))=some ⟨false,1,l.map nI,false⟩:=stO_all 1 (d4 0 0 0 0) (l.map nI) 4 rfl (by simp[h]) (ints_cell _)
theorem stEv(sz:Nat)(h:Int)(w:List Int)(i:Nat)(n:Int)(hi:i<w.length):stO (some ⟨false,sz,envC h w,false⟩) 1 (1+i) (.int .i64 n)=some ⟨false,sz,envC h (w.set i n),false⟩:=by
 have:=stO_set sz nI (fun _=>rfl) (h::w) (1+i) n (by simp; omega)
 rw[show(h::w).set (1+i) n=h::w.set i n by rw[Nat.add_comm]; rfl]at this
 exact this
def inM(v:List Int):Bool:=v.all fun n=>decide (-1048576≤n) && decide (n≤1048576)
def scE(k:Nat)(f:Int)(v:Int×List Int):Int×List Int:=if inM v.2 then(v.1,scV k f v.2)else(0,z16)
noncomputable def sp_scE:List D→Option D:=spOf (α:=(Int×List Int)×Nat×Int) (fun a=>[envD (Prod.fst a.1) (Prod.snd a.1),.int .i64 (a.2.1:Int),.int .i64 a.2.2]) (fun a=>a.1.2.length=16∧a.2.1<4∧1≤a.2.2∧a.2.2≤4) (fun a=>.tup [envD (scE a.2.1 a.2.2 a.1).1 (scE a.2.1 a.2.2 a.1).2,.bool (inM a.1.2)])
theorem call_scE(v:Int×List Int)(k:Nat)(f:Int)(h:v.2.length=16∧k<4∧1≤f∧f≤4):sp_scE [envD (Prod.fst v) (Prod.snd v),.int .i64 (k:Int),.int .i64 f]=some (.tup [envD (scE k f v).1 (scE k f v).2,.bool (inM v.2)]):=
 spOf_enc (fun⟨a0,a1,a2⟩ ⟨b0,b1,b2⟩ h=>by simp only[List.cons.injEq,D.int.injEq,true_and,and_true,Int.ofNat_inj,env_iff]at h; simp[h,Prod.ext_iff]) (v,k,f) h
set_option maxHeartbeats 4000000 in
set_option maxRecDepth 20000 in
theorem w_scE(v:Int×List Int)(k:Nat)(f:Int)(h:v.2.length=16∧k<4∧1≤f∧f≤4):@wW GG (tb [(14,sp_att),(10,sp_pow)] []) F_wagonpoolref17_ScaledEnv.code (argF [envD (Prod.fst v) (Prod.snd v),.int .i64 (k:Int),.int .i64 f]) [] ⟨retQ F_wagonpoolref17_ScaledEnv.res (.tup [envD (scE k f v).1 (scE k f v).2,.bool (inM v.2)])⟩:=by
 obtain⟨z,v⟩:=v
 obtain⟨hv,hk,f1,f2⟩:=h
 dsimp only at hv ⊢
 unfold scE
 generalize hr:inM v=r
 unfold F_wagonpoolref17_ScaledEnv
 simp (disch:=first|omega|decide) only[push_cast]
 refine W_while (fun i:Nat=>[(1,.int .i64 (k:Int)),(2,.int .i64 f),(3,.ptr 0 0),(6,.ptr 1 0),(8,.int .i64 (i:Int))]) (fun i=>[⟨false,1,envC z (mixV k f v i),false⟩,⟨false,1,envC 0 z16,false⟩]) (fun i=>i≤16∧inM v=inM (v.drop i)) (fun i=>16 - i) 0 (by rw[mix_0]; simp only[push_cast,↓reduceIte,Nat.reduceEqDiff,Nat.reduceLT,Nat.reduceLeDiff,Nat.reduceAdd,↓Int.reduceNatCast'] <;> rfl) ⟨by omega,rfl⟩ ?_
 rintro i ⟨hi,hh⟩
 unfold F_wagonpoolref17_ScaledEnv_L0
 by_cases hi4:i<16
 ·have hlt:i<v.length:=by omega
  have hki:((i:Int)<16)=True:=by simp; omega
  have hm:=mix_at k f v i hlt
  have hml:=mix_len k f v i (by omega)
  have hs:=mix_set k f v i hlt
  have lx:=fun sz lent=>ldEv sz lent z (mixV k f v i) (by omega) i hi4
  have sx:=fun n=>stEv 1 z (mixV k f v i) i n (by omega)
  rw[hm]at lx
  have hd:inM (v.drop i)=((decide (-1048576≤at' v i) && decide (at' v i≤1048576)) && inM (v.drop (i+1))):=by
   unfold inM
   rw[List.drop_eq_getElem_cons hlt,List.all_cons]
   simp[at',List.getD_eq_getElem?_getD,hlt]
  rw[hd]at hh
  have ca:=call_att (i:Int) ⟨by omega,by omega⟩
  have hal:=attU_len (i:Int)
  have sd:=st_dim hal
  have ld:=fun sz lent=>ldO_map sz lent nI (attU (i:Int)) k (by omega)
  have hag:=attU_get (i:Int) k
  have cp:=call_pow f ((attU (i:Int)).getD k 0) ⟨f1,f2⟩
  have hp:=powU_pos (d:=(attU (i:Int)).getD k 0) f1 f2
  rw[show(attU (i:Int)).getD k default=(attU (i:Int)).getD k 0 from rfl]at ld
  have imd:∀ st,imm st (.agg ((attU (i:Int)).map nI))=some (.agg ((attU (i:Int)).map nI)):=fun st=>solid_imm st (ints_solid _)
  have kyd:keys (.agg ((attU (i:Int)).map nI))=[]:=solid_keys (ints_solid _)
  generalize attU (i:Int)=u at*
  generalize u.getD k 0=g at*
  generalize at' v i=n at*
  generalize powU f g=p at*
  have ld:∀ sz lent,ldO (some ⟨false,sz,u.map nI,lent⟩) 1 false k=some (.int .i64 g):=ld
  by_cases x1:n < -1048576
  ·obtain rfl:r=false:=by rw[← hr,hh]; simp; omega
   simp (disch:=first|omega|decide) only[push_cast,↓reduceIte,Nat.reduceEqDiff,Nat.reduceAdd,Int.reduceNeg,idxA_ptr,hki,ca,sd,lx,x1,Int.toNat_natCast,Nat.zero_add,stE 1 z16_length z16_length,ldE _ _ z16_length,Bool.false_eq_true]
  ·by_cases x2:1048576<n
   ·obtain rfl:r=false:=by rw[← hr,hh]; simp; omega
    simp (disch:=first|omega|decide) only[push_cast,↓reduceIte,Nat.reduceEqDiff,Nat.reduceAdd,Int.reduceNeg,idxA_ptr,hki,ca,sd,lx,x1,x2,Int.toNat_natCast,Nat.zero_add,stE 1 z16_length z16_length,ldE _ _ z16_length,Bool.false_eq_true]
   ·have hh2:inM v=inM (v.drop (i+1)):=by
     rw[hh,show decide (-1048576≤n)=true by simp; omega,show decide (n≤1048576)=true by simp; omega]; rfl
    have hmul:pbin .mul (.int .i64 n) (.int .i64 p)=some (.int .i64 (n*p)):=by
     have h1:-1048576*p≤n*p:=Int.mul_le_mul_of_nonneg_right (by omega) (by omega)
     have h2:n*p≤1048576*p:=Int.mul_le_mul_of_nonneg_right (by omega) (by omega)
     exact mul_i (by omega) (by omega)
    simp (disch:=first|omega|decide) only[push_cast,↓reduceIte,Nat.reduceEqDiff,Nat.reduceLT,Nat.reduceLeDiff,Nat.reduceAdd,Int.reduceNeg,idxA_ptr,hki,ca,sd,lx,x1,x2,Int.toNat_natCast,Nat.zero_add,ld,cp,hmul,sx,add_i]
    refine next_head (i+1) (by exact⟨by omega,hh2⟩) (by omega) ?_
    rw[← hs]
    simp only[push_cast] <;> rfl
 ·obtain rfl:i=16:=by omega
  have e16:mixV k f v 16=scV k f v:=by rw[← hv]; exact mix_end k f v
  obtain rfl:r=true:=by rw[← hr,hh,List.drop_eq_nil_of_le (by omega)]; rfl
  have hsl:(scV k f v).length=16:=by rw[scV_len]; exact hv
  simp (disch:=first|omega|decide) only[push_cast,↓reduceIte,Nat.reduceEqDiff,Nat.reduceAdd,Int.reduceLT,Int.reduceNeg,↓Int.reduceNatCast',e16,ldE _ _ hsl,stE _ z16_length hsl]
theorem c_scE:Contract Tryz.prog GG 7 sp_scE:=
 contract_of tr_wagonpoolref17_ScaledEnv (tb_ok (all_cons c_att (all_cons c_pow all_nil)) all_nil) (fun a h=>w_scE a.1 a.2.1 a.2.2 h)
section
variable (op m u0 u1 u2 u3:Int) (s:D)
def yC:List D:=[.int .i64 op,.int .i64 m,.int .i64 u0,.int .i64 u1,.int .i64 u2,.int .i64 u3,s]
def yZ:List D:=yC 0 0 0 0 0 0 (.slc 0 [] true)
theorem zero_y:[D.int .i64 0,.int .i64 0,.int .i64 0,.int .i64 0,.int .i64 0,.int .i64 0,.slc 0 [] true]=yZ:=(rfl)
theorem fill_y:fillD yZ [(0,1,.int .i64 op),(1,1,.int .i64 m),(2,4,.agg (d4 u0 u1 u2 u3))]=some (yC op m u0 u1 u2 u3 (.slc 0 [] true)):=(rfl)
theorem fill_yZ:fillD yZ []=some yZ:=(rfl)
theorem box_yZ:boxD (.agg yZ)=some yZ:=(rfl)
theorem st_yZ:stO (some ⟨false,1,yZ,false⟩) 7 0 (.agg yZ)=some ⟨false,1,yZ,false⟩:=(rfl)
theorem st_yE(op' m' a b c d:Int)(els:List D):stO (some ⟨false,1,yZ,false⟩) 7 0 (exD op' m' a b c d els)=some ⟨false,1,exC op' m' a b c d els,false⟩:=(rfl)
theorem st_ys(z:Nat)(els:List D)(t:Bool):stO (some ⟨false,1,yZ,false⟩) 7 0 (.agg (yC op m u0 u1 u2 u3 (.slc z els t)))=some ⟨false,1,yC op m u0 u1 u2 u3 (.slc z els t),false⟩:=(rfl)
theorem st_yr(k a b c:Nat):stO (some ⟨false,1,yZ,false⟩) 7 0 (.agg (yC op m u0 u1 u2 u3 (.row k a b c)))=some ⟨false,1,yC op m u0 u1 u2 u3 (.row k a b c),false⟩:=(rfl)
theorem st_yk(n:Int):stO (some ⟨false,1,yC op m u0 u1 u2 u3 s,false⟩) 1 1 (.int .i64 n)=some ⟨false,1,yC op n u0 u1 u2 u3 s,false⟩:=(rfl)
theorem st_yR(k a b c:Nat):stO (some ⟨false,1,yC op m u0 u1 u2 u3 s,false⟩) 1 6 (.row k a b c)=some ⟨false,1,yC op m u0 u1 u2 u3 (.row k a b c),false⟩:=(rfl)
theorem ld_ys(lent:Bool):ldO (some ⟨false,1,yC op m u0 u1 u2 u3 s,lent⟩) 1 false 6=some s:=(rfl)
theorem ld_y(lent:Bool):ldO (some ⟨false,1,yC op m u0 u1 u2 u3 s,lent⟩) 7 true 0=some (.agg (yC op m u0 u1 u2 u3 s)):=(rfl)
theorem ld_yZ(lent:Bool):ldO (some ⟨false,1,yZ,lent⟩) 7 true 0=some (.agg yZ):=(rfl)
theorem imm_yZ(st:St):imm st (.agg yZ)=some (exD 0 0 0 0 0 0 []):=(rfl)
theorem hkB_yZ:yZ.flatMap hk=[]:=(rfl)
theorem renB_yZ(n:Nat)(σ:List Nat):yZ.map (ren n σ)=yZ:=(rfl)
theorem hkB_ys(z:Nat)(els:List D)(t:Bool):(yC op m u0 u1 u2 u3 (.slc z els t)).flatMap hk=[]:=(rfl)
theorem renB_ys(n:Nat)(σ:List Nat)(z:Nat)(els:List D)(t:Bool):(yC op m u0 u1 u2 u3 (.slc z els t)).map (ren n σ)=yC op m u0 u1 u2 u3 (.slc z els t):=(rfl)
theorem hkB_yr(k a b c:Nat):(yC op m u0 u1 u2 u3 (.row k a b c)).flatMap hk=[k]:=(rfl)
theorem renB_yr(n:Nat)(σ:List Nat)(k a b c:Nat):(yC op m u0 u1 u2 u3 (.row k a b c)).map (ren n σ)=yC op m u0 u1 u2 u3 (ren n σ (.row k a b c)):=(rfl)
theorem imm_y0(st:St)(z:Nat)(t:Bool):imm st (.agg (yC op m u0 u1 u2 u3 (.slc z [] t)))=some (exD op m u0 u1 u2 u3 []):=(rfl)
end
theorem immL_yZ(st:St):immL st yZ=some (exC 0 0 0 0 0 0 []):=(rfl)
theorem immL_y0(op m u0 u1 u2 u3:Int)(st:St)(z:Nat)(t:Bool):immL st (yC op m u0 u1 u2 u3 (.slc z [] t))=some (exC op m u0 u1 u2 u3 []):=(rfl)
attribute [push_cast] immL_y0
theorem immL_yr(op m u0 u1 u2 u3:Int)(st:St)(k:Nat)(A:List D)(lent:Bool)(h:st[k]?=some ⟨true,7,A,lent⟩):immL st (yC op m u0 u1 u2 u3 (.row k A.length 0 A.length))=some (exC op m u0 u1 u2 u3 A):=by
 have e:rowEls st k A.length 0 A.length=some (7,A):=by
  rw[rowEls_eq,h]
  have:=reR_all (fun x:D=>x) 7 A lent
  simpa using this
 simp only[yC,immL,imm1,e,Option.map_some]
 rfl
theorem agg_exC(op m u0 u1 u2 u3:Int)(els:List D):D.agg (exC op m u0 u1 u2 u3 els)=exD op m u0 u1 u2 u3 els:=(rfl)
theorem immL_yr4(op m u0 u1 u2 u3:Int)(o1 o2 o3 o4:Obj)(A:List D)(lent:Bool):immL [o1,o2,o3,o4,⟨true,7,A,lent⟩] (yC op m u0 u1 u2 u3 (.row 4 A.length 0 A.length))=some (exC op m u0 u1 u2 u3 A):=immL_yr op m u0 u1 u2 u3 _ 4 A lent rfl
theorem litD_ex(op m u0 u1 u2 u3:Int)(els:List D):litD 7 [exD op m u0 u1 u2 u3 els]=some (.slc 7 [exD op m u0 u1 u2 u3 els] true):=(rfl)
attribute [push_cast] immL_yZ immL_yr4 litD_ex agg_exC zero_y fill_y fill_yZ box_yZ st_yZ st_yE st_ys st_yr st_yk st_yR ld_ys ld_y ld_yZ imm_yZ hkB_yZ renB_yZ hkB_ys renB_ys hkB_yr renB_yr imm_y0
theorem papp_fex(st:St)(sz0:Nat)(x:D)(t:Bool):papp st 7 72 (.slc sz0 [] true) (.slc 7 [x] t)=some (.row st.length 1 0 1,st++[⟨true,7,[x],false⟩]):=papp_first1 (fun x:D=>x) st 7 sz0 72 x t (by decide) (by decide)
theorem apR_ex(st:St)(A:List D)(x:D)(lent t:Bool)(hl:A.length≤1000000000):apR (some ⟨true,7,A,lent⟩) 7 72 A.length (elsOf st (.slc 7 [x] t))=some ⟨true,7,A++[x],lent⟩:=by
 have:=apR_one (fun x:D=>x) 7 72 A x lent t st (by decide) (by omega) (by omega)
 simpa using this
theorem allS_all(l:List D):allS (l.map some)=some l:=by
 induction l with
 |nil=>rfl
 |cons a l ih=>simp[allS,ih]
theorem allS_none{l:List (Option D)}(h:none∈l):allS l=none:=by
 induction l with
 |nil=>cases h
 |cons a l ih=>
  cases a with
  |none=>rfl
  |some a=>
   simp only[List.mem_cons,reduceCtorEq,false_or]at h
   simp[allS,ih h]
theorem scU_exP(k:Nat)(f:Int):∀ (n:Nat) {x y:D},ExP x→scU k f n x=some y→ExP y
 |0,_,_,_,h=>by cases h
 |n+1,_,y,.mk op m u0 u1 u2 u3 els hl hel,h=>by
  rw[scU_ex]at h
  split at h
  case isFalse=>cases h
  split at h
  case h_2=>cases h
  split at h
  case isTrue=>cases h
  simp only[Option.map_eq_some_iff]at h
  obtain⟨els',hs,rfl⟩:=h
  have hall:=allS_some hs
  refine .mk _ _ _ _ _ _ els' (by have:=congrArg List.length hall; simp at this; omega) fun z hz=>?_
  have:some z∈els.map (scU k f n):=by rw[hall]; exact List.mem_map_of_mem hz
  obtain⟨x,hx,hxz⟩:=List.mem_map.1 this
  exact scU_exP k f n (hel x hx) hxz
def oE(o:Option D):D:=o.getD (exD 0 0 0 0 0 0 [])
noncomputable def sp_scaled(N:Nat):List D→Option D:=spOf (α:=D×Nat×Int) (fun a=>[a.1,.int .i64 (a.2.1:Int),.int .i64 a.2.2]) (fun a=>ExP a.1∧hgt N a.1=true∧a.2.1<4∧1≤a.2.2∧a.2.2≤4∧N≤100) (fun a=>.tup [oE (scU a.2.1 a.2.2 N a.1),.bool (scU a.2.1 a.2.2 N a.1).isSome])
theorem call_scaled(N:Nat)(x:D)(k:Nat)(f:Int)(h:ExP x∧hgt N x=true∧k<4∧1≤f∧f≤4∧N≤100):sp_scaled N [x,.int .i64 (k:Int),.int .i64 f]=some (.tup [oE (scU k f N x),.bool (scU k f N x).isSome]):=
 spOf_enc (fun⟨a0,a1,a2⟩ ⟨b0,b1,b2⟩ h=>by simp only[List.cons.injEq,D.int.injEq,true_and,and_true,Int.ofNat_inj]at h; simp[h]) (x,k,f) h
theorem scU_f{k:Nat}{f:Int}{n:Nat}{x:D}(h:formR (n+1) x=false)(hx:ExP x):scU k f (n+1) x=none:=by
 obtain⟨op,m,u0,u1,u2,u3,els,_,_⟩:=hx
 rw[scU_ex,if_neg (by rw[h]; decide)]
theorem scU_u{k:Nat}{f:Int}{n:Nat}{x:D}(h:unitU (n+1) x=none)(hx:ExP x):scU k f (n+1) x=none:=by
 obtain⟨op,m,u0,u1,u2,u3,els,_,_⟩:=hx
 rw[scU_ex,h]
 split <;> rfl
theorem scU_b{k:Nat}{f:Int}{n:Nat}{op m u0 u1 u2 u3:Int}{els:List D}{d:List Int}(h:unitU (n+1) (exD op m u0 u1 u2 u3 els)=some d)(hc:d.getD k 0<0∨op=8∨op=9∨op=10∨(op=1∧1048576<m)):scU k f (n+1) (exD op m u0 u1 u2 u3 els)=none:=by
 rw[scU_ex,h]
 split
 ·exact if_pos hc
 ·rfl
theorem scU_g{k:Nat}{f:Int}{n:Nat}{op m u0 u1 u2 u3:Int}{els:List D}{d:List Int}(hf:formR (n+1) (exD op m u0 u1 u2 u3 els)=true)(h:unitU (n+1) (exD op m u0 u1 u2 u3 els)=some d)(hc:¬ (d.getD k 0<0∨op=8∨op=9∨op=10∨(op=1∧1048576<m))):scU k f (n+1) (exD op m u0 u1 u2 u3 els)=(allS (els.map (scU k f n))).map (exD op (if op=1 then m*powU f (d.getD k 0)else m) u0 u1 u2 u3):=by
 rw[scU_ex,h,if_pos hf]
 exact if_neg hc
theorem opsF_le(op:Int):opsF op≤4:=by
 unfold opsF
 split <;> (try split) <;> (try split) <;> omega
noncomputable abbrev TSC(N:Nat):Tbl:=tb [(13,sp_rUnit (N+1)),(10,sp_pow),(6,sp_scaled N)] []
set_option maxHeartbeats 16000000 in
set_option maxRecDepth 20000 in
theorem w_scaled(N:Nat)(x:D)(k:Nat)(f:Int)(hx:ExP x)(hh:hgt (N+1) x=true)(hk:k<4)(f1:1≤f)(f2:f≤4)(hN:N+1≤100):@wW GG (TSC N) F_wagonpoolref17_Scaled.code (argF [x,.int .i64 (k:Int),.int .i64 f]) [] ⟨retQ F_wagonpoolref17_Scaled.res (.tup [oE (scU k f (N+1) x),.bool (scU k f (N+1) x).isSome])⟩:=by
 have cu:=call_rUnit (N+1) x ⟨hx,hh⟩
 unfold rU at cu
 cases hf:formR (N+1) x with
 |false=>
  rw[hf,if_neg (by decide)]at cu
  dsimp only at cu
  rw[oD_none]at cu
  rw[scU_f hf hx]
  obtain⟨op,m,u0,u1,u2,u3,els,hl,hel⟩:=hx
  unfold F_wagonpoolref17_Scaled
  simp (disch:=first|omega|decide) only[push_cast,↓reduceIte,Nat.reduceEqDiff,Nat.reduceAdd,cu,Int.reduceEq,oE,Option.getD_none,Option.isSome_none]
 |true=>
  rw[hf,if_pos rfl]at cu
  dsimp only at cu
  cases hu:unitU (N+1) x with
  |none=>
   rw[hu,oD_none,Option.isSome_none,if_neg (by decide)]at cu
   rw[scU_u hu hx]
   obtain⟨op,m,u0,u1,u2,u3,els,hl,hel⟩:=hx
   unfold F_wagonpoolref17_Scaled
   simp (disch:=first|omega|decide) only[push_cast,↓reduceIte,Nat.reduceEqDiff,Nat.reduceAdd,cu,Int.reduceEq,oE,Option.getD_none,Option.isSome_none]
  |some d=>
   obtain⟨a,b,c,e,rfl,ba,bb,bc,be⟩:=dimB_of (unitU_dim (N+1) hx hf hu)
   rw[hu,oD_some,Option.isSome_some,if_pos rfl]at cu
   obtain⟨op,m,u0,u1,u2,u3,els,hl,hel⟩:=hx
   obtain⟨⟨g1,g2,g3,g4,g5,g6,g7,g8,g9⟩,ga⟩:=(formR_iff ..).1 hf
   rw[hgt_ex]at hh
   have ld:∀ lent,ldO (some ⟨false,1,d4 a b c e,lent⟩) 1 false k=some (.int .i64 (List.getD [a,b,c,e] k 0)):=fun lent=>ldO_map 1 lent nI [a,b,c,e] k (by simpa using hk)
   have sb:=@scU_b k f N op m u0 u1 u2 u3 els _ hu
   have sg:=@scU_g k f N op m u0 u1 u2 u3 els _ hf hu
   have hl4:=opsF_le op
   generalize List.getD [a,b,c,e] k 0=g at*
   generalize hr:scU k f (N+1) (exD op m u0 u1 u2 u3 els)=r at*
   unfold F_wagonpoolref17_Scaled
   by_cases c1:g<0
   ·obtain rfl:=sb (.inl c1)
    simp (disch:=first|omega|decide) only[push_cast,↓reduceIte,Nat.reduceEqDiff,Nat.reduceAdd,cu,idxA_ptr,Int.toNat_natCast,Nat.zero_add,ld,c1,oE,Option.getD_none,Option.isSome_none]
   by_cases o8:op=8
   ·subst o8
    obtain rfl:=sb (.inr (.inl rfl))
    simp (disch:=first|omega|decide) only[push_cast,↓reduceIte,Nat.reduceEqDiff,Nat.reduceAdd,cu,idxA_ptr,Int.toNat_natCast,Nat.zero_add,ld,c1,oE,Option.getD_none,Option.isSome_none]
   by_cases o9:op=9
   ·subst o9
    obtain rfl:=sb (.inr (.inr (.inl rfl)))
    simp (disch:=first|omega|decide) only[push_cast,↓reduceIte,Nat.reduceEqDiff,Nat.reduceAdd,cu,idxA_ptr,Int.toNat_natCast,Nat.zero_add,ld,Int.reduceEq,c1,oE,Option.getD_none,Option.isSome_none]
   by_cases o10:op=10
   ·subst o10
    obtain rfl:=sb (.inr (.inr (.inr (.inl rfl))))
    simp (disch:=first|omega|decide) only[push_cast,↓reduceIte,Nat.reduceEqDiff,Nat.reduceAdd,cu,idxA_ptr,Int.toNat_natCast,Nat.zero_add,ld,Int.reduceEq,c1,oE,Option.getD_none,Option.isSome_none]
   by_cases o1:op=1
   ·subst o1
    obtain rfl:els=[]:=List.length_eq_zero_iff.1 (by have:=opsF_1; omega)
    by_cases m1:1048576<m
    ·obtain rfl:=sb (.inr (.inr (.inr (.inr ⟨rfl,m1⟩))))
     simp (disch:=first|omega|decide) only[push_cast,↓reduceIte,Nat.reduceEqDiff,Nat.reduceAdd,cu,idxA_ptr,Int.toNat_natCast,Nat.zero_add,ld,Int.reduceEq,c1,m1,oE,Option.getD_none,Option.isSome_none]
    have hg:=sg (by omega)
    rw[if_pos rfl]at hg
    obtain rfl:r=some (exD 1 (m*powU f g) u0 u1 u2 u3 []):=hg
    have cp:=call_pow f g ⟨f1,f2⟩
    have hp:=powU_pos (d:=g) f1 f2
    generalize powU f g=p at*
    have hmul:pbin .mul (.int .i64 m) (.int .i64 p)=some (.int .i64 (m*p)):=by
     have h1:0*p≤m*p:=Int.mul_le_mul_of_nonneg_right (by omega) (by omega)
     have h2:m*p≤1048576*p:=Int.mul_le_mul_of_nonneg_right (by omega) (by omega)
     exact mul_i (by omega) (by omega)
    simp (disch:=first|omega|decide) only[push_cast,↓reduceIte,Nat.reduceEqDiff,Nat.reduceAdd,cu,idxA_ptr,Int.toNat_natCast,Nat.zero_add,ld,Int.reduceEq,c1,m1,cp,hmul]
    refine W_while (fun i:Nat=>[(1,.int .i64 (k:Int)),(2,.int .i64 f),(3,.ptr 0 0),(6,.ptr 1 0),(10,.ptr 3 0),(11,.int .i64 0)]) (fun _=>[⟨false,1,exC 1 m u0 u1 u2 u3 [],false⟩,⟨false,1,yZ,false⟩,⟨false,1,d4 a b c e,false⟩,⟨false,1,yC 1 (m*p) u0 u1 u2 u3 (.slc 0 [] true),false⟩]) (fun i=>True) (fun i=>i) 0 (by simp only[push_cast,↓reduceIte,Nat.reduceEqDiff,Nat.reduceLT,Nat.reduceLeDiff,Nat.reduceAdd] <;> rfl) trivial ?_
    intro i _
    unfold F_wagonpoolref17_Scaled_L0
    simp (disch:=first|omega|decide) only[push_cast,↓reduceIte,Nat.reduceEqDiff,Nat.reduceAdd,Int.reduceLT,List.length_nil,Int.cast_ofNat_Int,oE,Option.getD_some,Option.isSome_some]
   have hg:=sg (by omega)
   rw[if_neg o1]at hg
   simp (disch:=first|omega|decide) only[push_cast,↓reduceIte,Nat.reduceEqDiff,Nat.reduceAdd,cu,idxA_ptr,Int.toNat_natCast,Nat.zero_add,ld,c1,o8,o9,o10,o1]
   have hlen:els.length≤4:=by omega
   refine W_while (fun i:Nat×List D=>[(1,.int .i64 (k:Int)),(2,.int .i64 f),(3,.ptr 0 0),(6,.ptr 1 0),(10,.ptr 3 0),(11,.int .i64 (i.1:Int))])
    (fun i=>⟨false,1,exC op m u0 u1 u2 u3 els,false⟩::⟨false,1,yZ,false⟩::⟨false,1,d4 a b c e,false⟩::⟨false,1,yC op m u0 u1 u2 u3 (bufD 0 4 i.2),false⟩::bufS 7 i.2)
    (fun i=>i.1≤els.length∧(els.take i.1).map (scU k f N)=i.2.map some) (fun i=>els.length - i.1) (0,[]) (by simp only[push_cast,↓reduceIte,Nat.reduceEqDiff,Nat.reduceLT,Nat.reduceLeDiff,Nat.reduceAdd,bufD_nil,bufS_nil] <;> rfl) ⟨Nat.zero_le _,rfl⟩ ?_
   rintro⟨i,A⟩ ⟨hi,hA⟩
   dsimp only at hi hA
   have hAl:A.length=i:=by have:=congrArg List.length hA; simp at this; omega
   dsimp only
   unfold F_wagonpoolref17_Scaled_L0
   by_cases hlt:i<els.length
   ·have hki:((i:Int)<(els.length:Int))=True:=by simp; omega
    have hix:=fun st t=>idx_ex st els t i hlt
    have hm:=getD_memD hlt
    have hy:=hel _ hm
    have hp:=pld_exP hy
    have him:=imm_exP hy
    have hke:=keys_exP hy
    have cs:=call_scaled N (els.getD i default) k f ⟨hy,List.all_eq_true.1 hh _ hm,hk,f1,f2,by omega⟩
    have hin:scU k f N (els.getD i default)∈els.map (scU k f N):=List.mem_map_of_mem hm
    have htk:(els.take (i+1)).map (scU k f N)=(els.take i).map (scU k f N)++[scU k f N (els.getD i default)]:=by
     rw[List.take_succ_eq_append_getElem hlt,List.map_append]
     simp[List.getD_eq_getElem?_getD,hlt]
    have hex:=@scU_exP k f N (els.getD i default)
    generalize els.getD i default=y at*
    cases hz:scU k f N y with
    |none=>
     rw[hz]at cs hin
     simp only[oE,Option.getD_none,Option.isSome_none]at cs
     rw[allS_none hin]at hg
     obtain rfl:r=none:=hg
     by_cases hn:A=[]
     ·subst hn
      simp (disch:=first|omega|decide) only[push_cast,↓reduceIte,Nat.reduceEqDiff,Nat.reduceAdd,bufD_nil,bufS_nil,hki,hix,hp,him,hke,cs,oE,Option.getD_none,Option.isSome_none]
     ·simp (disch:=first|omega|decide) only[push_cast,↓reduceIte,Nat.reduceEqDiff,Nat.reduceAdd,bufD_ne _ _ _ hn,bufS_ne _ _ hn,hki,hix,hp,him,hke,cs,oE,Option.getD_none,Option.isSome_none]
    |some z=>
     rw[hz]at cs htk
     simp only[oE,Option.getD_some,Option.isSome_some]at cs
     have hzP:=hex hy hz
     have hA2:(els.take (i+1)).map (scU k f N)=(A++[z]).map some:=by rw[htk,hA,List.map_append]; rfl
     obtain⟨p0,p1,p2,p3,p4,p5,p6,_,_⟩:=hzP
     by_cases hn:A=[]
     ·subst hn
      simp (disch:=first|omega|decide) only[push_cast,↓reduceIte,Nat.reduceEqDiff,Nat.reduceLT,Nat.reduceLeDiff,Nat.reduceAdd,bufD_nil,bufS_nil,hki,hix,hp,him,hke,cs,papp_fex,add_i]
      refine next_head (i+1,[exD p0 p1 p2 p3 p4 p5 p6]) (by exact⟨by omega,hA2⟩) (by show els.length - (i+1)<els.length - i; omega) ?_
      simp only[push_cast] <;> rfl
     ·have hn2:A++[exD p0 p1 p2 p3 p4 p5 p6]≠[]:=by simp
      have ap:=fun st lent t=>apR_ex st A (exD p0 p1 p2 p3 p4 p5 p6) lent t (by omega)
      simp (disch:=first|omega|decide) only[push_cast,↓reduceIte,Nat.reduceEqDiff,Nat.reduceLT,Nat.reduceLeDiff,Nat.reduceAdd,bufD_ne _ _ _ hn,bufS_ne _ _ hn,hki,hix,hp,him,hke,cs,ap,add_i]
      refine next_head (i+1,A++[exD p0 p1 p2 p3 p4 p5 p6]) (by exact⟨by omega,hA2⟩) (by show els.length - (i+1)<els.length - i; omega) ?_
      simp only[push_cast,bufD_ne _ _ _ hn2,bufS_ne _ _ hn2] <;> rfl
   ·have hie:i=els.length:=by omega
    have hki:((i:Int)<(els.length:Int))=False:=by simp; omega
    rw[hie,List.take_length]at hA
    rw[hA,allS_all]at hg
    obtain rfl:r=some (exD op m u0 u1 u2 u3 A):=hg
    by_cases hn:A=[]
    ·subst hn
     simp (disch:=first|omega|decide) only[push_cast,↓reduceIte,Nat.reduceEqDiff,Nat.reduceAdd,bufD_nil,bufS_nil,hki,oE,Option.getD_some,Option.isSome_some]
    ·simp (disch:=first|omega|decide) only[push_cast,↓reduceIte,Nat.reduceEqDiff,Nat.reduceAdd,bufD_ne _ _ _ hn,bufS_ne _ _ hn,hki,oE,Option.getD_some,Option.isSome_some]
theorem c_scaled:∀ N,Contract Tryz.prog GG 6 (sp_scaled N)
 |0=>fun w g ds vs d h=>by
  obtain⟨a,_,⟨_,h2,_⟩,_⟩:=spOf_inv h
  cases h2
 |N+1=>contract_of (T:=TSC N) tr_wagonpoolref17_Scaled (tb_ok (all_cons (c_rUnit (N+1)) (all_cons c_pow (all_cons (c_scaled N) all_nil))) all_nil) (fun a h=>w_scaled N a.1 a.2.1 a.2.2 h.1 h.2.1 h.2.2.1 h.2.2.2.1 h.2.2.2.2.1 h.2.2.2.2.2)
theorem sub_con{f:Nat}{sp sp':List D→Option D}(h:Contract Tryz.prog GG f sp)(hs:∀ ds r,sp' ds=some r→sp ds=some r):Contract Tryz.prog GG f sp':=
 fun w g ds vs d hd=>h w g ds vs d (hs ds d hd)
noncomputable def rp_letter:List D→Option D:=F_tlex_letter.run GG (tb [] []) 400
theorem cp_letter:Contract Tryz.prog GG 74 rp_letter:=fun_sim (T:=tb [] []) (tb_ok all_nil all_nil) rfl tr_tlex_letter 400
noncomputable def rp_digit:List D→Option D:=F_tlex_digit.run GG (tb [] []) 400
theorem cp_digit:Contract Tryz.prog GG 77 rp_digit:=fun_sim (T:=tb [] []) (tb_ok all_nil all_nil) rfl tr_tlex_digit 400
noncomputable def ri_tok1:List D→St→Option (D×St):=F_tlex_token_1.runI GG (tb [(74,rp_letter),(77,rp_digit)] []) 400
theorem cj_tok1:IContract Tryz.prog GG 76 ri_tok1:=fun_simI (T:=tb [(74,rp_letter),(77,rp_digit)] []) (tb_ok (all_cons cp_letter (all_cons cp_digit all_nil)) all_nil) rfl tr_tlex_token_1 400
noncomputable def ri_digitI:List D→St→Option (D×St):=F_tlex_digit.runI GG (tb [] []) 400
theorem cj_digitI:IContract Tryz.prog GG 77 ri_digitI:=fun_simI (T:=tb [] []) (tb_ok all_nil all_nil) rfl tr_tlex_digit 400
noncomputable def rp_span:List D→Option D:=F_tlex_span.run GG (tb [] [(76,ri_tok1),(77,ri_digitI)]) 400
theorem cp_span:Contract Tryz.prog GG 75 rp_span:=fun_sim (T:=tb [] [(76,ri_tok1),(77,ri_digitI)]) (tb_ok all_nil (all_cons cj_tok1 (all_cons cj_digitI all_nil))) rfl tr_tlex_span 400
noncomputable def rp_number:List D→Option D:=F_tlex_number.run GG (tb [] []) 400
theorem cp_number:Contract Tryz.prog GG 78 rp_number:=fun_sim (T:=tb [] []) (tb_ok all_nil all_nil) rfl tr_tlex_number 400
noncomputable def rp_hasP0:List D→Option D:=F_internal_stringslite_HasPrefix.run GG (tb [] []) 400
theorem cp_hasP0:Contract Tryz.prog GG 99 rp_hasP0:=fun_sim (T:=tb [] []) (tb_ok all_nil all_nil) rfl tr_internal_stringslite_HasPrefix 400
noncomputable def rp_hasP:List D→Option D:=F_strings_HasPrefix.run GG (tb [(99,rp_hasP0)] []) 400
theorem cp_hasP:Contract Tryz.prog GG 79 rp_hasP:=fun_sim (T:=tb [(99,rp_hasP0)] []) (tb_ok (all_cons cp_hasP0 all_nil) all_nil) rfl tr_strings_HasPrefix 400
noncomputable def rp_token:List D→Option D:=F_tlex_token.run GG (tb [(74,rp_letter),(75,rp_span),(77,rp_digit),(78,rp_number),(79,rp_hasP)] []) 400
theorem cp_token:Contract Tryz.prog GG 52 rp_token:=fun_sim (T:=tb [(74,rp_letter),(75,rp_span),(77,rp_digit),(78,rp_number),(79,rp_hasP)] []) (tb_ok (all_cons cp_letter (all_cons cp_span (all_cons cp_digit (all_cons cp_number (all_cons cp_hasP all_nil))))) all_nil) rfl tr_tlex_token 400
noncomputable def rp_tokens:List D→Option D:=F_tlex_Tokens.run GG (tb [(52,rp_token)] []) 400
theorem cp_tokens:Contract Tryz.prog GG 22 rp_tokens:=fun_sim (T:=tb [(52,rp_token)] []) (tb_ok (all_cons cp_token all_nil) all_nil) rfl tr_tlex_Tokens 400
noncomputable def rp_fields:List D→Option D:=F_strings_Fields.run GG (tb [] []) 400
theorem cp_fields:Contract Tryz.prog GG 81 rp_fields:=fun_sim (T:=tb [] []) (tb_ok all_nil all_nil) rfl tr_strings_Fields 400
noncomputable def rp_index:List D→Option D:=F_slices_Index_string_string.run GG (tb [] []) 400
theorem cp_index:Contract Tryz.prog GG 80 rp_index:=fun_sim (T:=tb [] []) (tb_ok all_nil all_nil) rfl tr_slices_Index_string_string 400
noncomputable def rp_reserved:List D→Option D:=F_tlex_Reserved.run GG (tb [] []) 400
theorem cp_reserved:Contract Tryz.prog GG 54 rp_reserved:=fun_sim (T:=tb [] []) (tb_ok all_nil all_nil) rfl tr_tlex_Reserved 400
def w_attr:List UInt8:=[116,121,112,101,32,111,119,110,101,114,32,114,97,105,108,119,97,121,32,115,104,105,112,112,101,114,32,99,108,97,115,115,32,119,101,105,103,104,116,32,107,109,32,109,105,110,117,116,101,115,32,119,111,114,107,105,110,103,32,99,111,100,101,32,119,111,114,116,104,32,99,111,115,116,32,109,111,110,116,104,32,98,101,103,105,110,32,112,97,114,116,115,32,112,97,114,116]
def f_attr:List D:=[.str [116,121,112,101],.str [111,119,110,101,114],.str [114,97,105,108,119,97,121],.str [115,104,105,112,112,101,114],.str [99,108,97,115,115],.str [119,101,105,103,104,116],.str [107,109],.str [109,105,110,117,116,101,115],.str [119,111,114,107,105,110,103],.str [99,111,100,101],.str [119,111,114,116,104],.str [99,111,115,116],.str [109,111,110,116,104],.str [98,101,103,105,110],.str [112,97,114,116,115],.str [112,97,114,116]]
theorem e_attr:rp_fields [.str w_attr]=some (.slc 1 f_attr false):=by kernel_rfl
def w_kind:List UInt8:=[104,105,114,101,32,100,101,109,117,114,114,97,103,101,32,102,114,101,105,103,104,116,32,114,101,112,97,105,114,32,108,111,115,115,32,99,108,101,97,110,105,110,103]
def f_kind:List D:=[.str [104,105,114,101],.str [100,101,109,117,114,114,97,103,101],.str [102,114,101,105,103,104,116],.str [114,101,112,97,105,114],.str [108,111,115,115],.str [99,108,101,97,110,105,110,103]]
theorem e_kind:rp_fields [.str w_kind]=some (.slc 1 f_kind false):=by kernel_rfl
def w_unit:List UInt8:=[109,111,110,101,121,32,109,105,110,117,116,101,32,107,109,32,107,103]
def f_unit:List D:=[.str [109,111,110,101,121],.str [109,105,110,117,116,101],.str [107,109],.str [107,103]]
theorem e_unit:rp_fields [.str w_unit]=some (.slc 1 f_unit false):=by kernel_rfl
def w_call:List UInt8:=[109,105,110,32,109,97,120,32,100,111,119,110,32,117,112,32,104,97,108,102]
def f_call:List D:=[.str [109,105,110],.str [109,97,120],.str [100,111,119,110],.str [117,112],.str [104,97,108,102]]
theorem e_call:rp_fields [.str w_call]=some (.slc 1 f_call false):=by kernel_rfl
def rp_fieldsM:List D→Option D:=fun ds=>match ds with
 |[.str s]=>if s=w_attr then some (.slc 1 f_attr false)else if s=w_kind then some (.slc 1 f_kind false)else if s=w_unit then some (.slc 1 f_unit false)else if s=w_call then some (.slc 1 f_call false)else none
 |_=>none
theorem cp_fieldsM:Contract Tryz.prog GG 81 rp_fieldsM:=sub_con cp_fields fun ds r h=>by
 unfold rp_fieldsM at h
 split at h
 case h_2=>cases h
 split at h
 ·rename_i s e; subst e; rw[← h]; exact e_attr
 ·split at h
  ·rename_i s _ e; subst e; rw[← h]; exact e_kind
  ·split at h
   ·rename_i s _ _ e; subst e; rw[← h]; exact e_unit
   ·split at h
    ·rename_i s _ _ _ e; subst e; rw[← h]; exact e_call
    ·cases h
noncomputable def rp_nest:Nat→List D→Option D
 |0=>fun _=>none
 |n+1=>F_tparse_nesting.run GG (tb [(60,rp_nest n)] []) 100
theorem cp_nestN:∀ n,Contract Tryz.prog GG 60 (rp_nest n)
 |0=>fun w g ds vs d h=>by cases h
 |n+1=>fun_sim (T:=tb [(60,rp_nest n)] []) (tb_ok (all_cons (cp_nestN n) all_nil) all_nil) rfl tr_tparse_nesting 100
noncomputable def rp_nest3:List D→Option D:=rp_nest 3
theorem cp_nest3:Contract Tryz.prog GG 60 rp_nest3:=cp_nestN 3
noncomputable def ri_next:List D→St→Option (D×St):=F_tparse_parser_next.runI GG (tb [] []) 400
theorem cj_next:IContract Tryz.prog GG 53 ri_next:=fun_simI (T:=tb [] []) (tb_ok all_nil all_nil) rfl tr_tparse_parser_next 400
noncomputable def ri_accept:List D→St→Option (D×St):=F_tparse_parser_accept.runI GG (tb [] []) 400
theorem cj_accept:IContract Tryz.prog GG 28 ri_accept:=fun_simI (T:=tb [] []) (tb_ok all_nil all_nil) rfl tr_tparse_parser_accept 400
noncomputable def ri_here:List D→St→Option (D×St):=F_tparse_parser_here.runI GG (tb [] []) 400
theorem cj_here:IContract Tryz.prog GG 27 ri_here:=fun_simI (T:=tb [] []) (tb_ok all_nil all_nil) rfl tr_tparse_parser_here 400
noncomputable def ri_expect:List D→St→Option (D×St):=F_tparse_parser_expect.runI GG (tb [] [(28,ri_accept)]) 400
theorem cj_expect:IContract Tryz.prog GG 24 ri_expect:=fun_simI (T:=tb [] [(28,ri_accept)]) (tb_ok all_nil (all_cons cj_accept all_nil)) rfl tr_tparse_parser_expect 400
noncomputable def ri_choose:List D→St→Option (D×St):=F_tparse_parser_choose.runI GG (tb [(81,rp_fieldsM),(80,rp_index)] [(53,ri_next)]) 400
theorem cj_choose:IContract Tryz.prog GG 55 ri_choose:=fun_simI (T:=tb [(81,rp_fieldsM),(80,rp_index)] [(53,ri_next)]) (tb_ok (all_cons cp_fieldsM (all_cons cp_index all_nil)) (all_cons cj_next all_nil)) rfl tr_tparse_parser_choose 400
noncomputable def ri_must:List D→St→Option (D×St):=F_tparse_parser_must.runI GG (tb [] [(55,ri_choose)]) 400
theorem cj_must:IContract Tryz.prog GG 26 ri_must:=fun_simI (T:=tb [] [(55,ri_choose)]) (tb_ok all_nil (all_cons cj_choose all_nil)) rfl tr_tparse_parser_must 400
noncomputable def ri_integer:List D→St→Option (D×St):=F_tparse_parser_integer.runI GG (tb [] [(53,ri_next)]) 400
theorem cj_integer:IContract Tryz.prog GG 83 ri_integer:=fun_simI (T:=tb [] [(53,ri_next)]) (tb_ok all_nil (all_cons cj_next all_nil)) rfl tr_tparse_parser_integer 400
noncomputable def ri_name:List D→St→Option (D×St):=F_tparse_parser_name.runI GG (tb [(54,rp_reserved)] [(53,ri_next)]) 400
theorem cj_name:IContract Tryz.prog GG 25 ri_name:=fun_simI (T:=tb [(54,rp_reserved)] [(53,ri_next)]) (tb_ok (all_cons cp_reserved all_nil) (all_cons cj_next all_nil)) rfl tr_tparse_parser_name 400
noncomputable def ri_unit:List D→St→Option (D×St):=F_tparse_parser_unit.runI GG (tb [] [(55,ri_choose),(28,ri_accept),(26,ri_must)]) 400
theorem cj_unit:IContract Tryz.prog GG 102 ri_unit:=fun_simI (T:=tb [] [(55,ri_choose),(28,ri_accept),(26,ri_must)]) (tb_ok all_nil (all_cons cj_choose (all_cons cj_accept (all_cons cj_must all_nil)))) rfl tr_tparse_parser_unit 400
noncomputable def ri_factor:List D→St→Option (D×St):=F_tparse_parser_factor.runI GG (tb [] [(53,ri_next),(83,ri_integer),(102,ri_unit),(28,ri_accept),(55,ri_choose),(26,ri_must)]) 400
theorem cj_factor:IContract Tryz.prog GG 86 ri_factor:=fun_simI (T:=tb [] [(53,ri_next),(83,ri_integer),(102,ri_unit),(28,ri_accept),(55,ri_choose),(26,ri_must)]) (tb_ok all_nil (all_cons cj_next (all_cons cj_integer (all_cons cj_unit (all_cons cj_accept (all_cons cj_choose (all_cons cj_must all_nil))))))) rfl tr_tparse_parser_factor 400
noncomputable def ri_ex11:List D→St→Option (D×St):=F_tparse_parser_expr_1_1.runI GG (tb [] [(28,ri_accept)]) 400
theorem cj_ex11:IContract Tryz.prog GG 87 ri_ex11:=fun_simI (T:=tb [] [(28,ri_accept)]) (tb_ok all_nil (all_cons cj_accept all_nil)) rfl tr_tparse_parser_expr_1_1 400
noncomputable def ri_ex2:List D→St→Option (D×St):=F_tparse_parser_expr_2.runI GG (tb [] [(28,ri_accept)]) 400
theorem cj_ex2:IContract Tryz.prog GG 88 ri_ex2:=fun_simI (T:=tb [] [(28,ri_accept)]) (tb_ok all_nil (all_cons cj_accept all_nil)) rfl tr_tparse_parser_expr_2 400
noncomputable def ri_chain0:List D→St→Option (D×St):=F_tparse_parser_chain.runI GG (tb [] [(86,ri_factor),(87,ri_ex11)]) 400
theorem cj_chain0:IContract Tryz.prog GG 85 ri_chain0:=fun_simI (T:=tb [] [(86,ri_factor),(87,ri_ex11)]) (tb_ok all_nil (all_cons cj_factor (all_cons cj_ex11 all_nil))) rfl tr_tparse_parser_chain 400
noncomputable def ri_ex1:List D→St→Option (D×St):=F_tparse_parser_expr_1.runI GG (tb [] [(85,ri_chain0)]) 400
theorem cj_ex1:IContract Tryz.prog GG 84 ri_ex1:=fun_simI (T:=tb [] [(85,ri_chain0)]) (tb_ok all_nil (all_cons cj_chain0 all_nil)) rfl tr_tparse_parser_expr_1 400
noncomputable def ri_chain1:List D→St→Option (D×St):=F_tparse_parser_chain.runI GG (tb [] [(84,ri_ex1),(88,ri_ex2)]) 400
theorem cj_chain1:IContract Tryz.prog GG 85 ri_chain1:=fun_simI (T:=tb [] [(84,ri_ex1),(88,ri_ex2)]) (tb_ok all_nil (all_cons cj_ex1 (all_cons cj_ex2 all_nil))) rfl tr_tparse_parser_chain 400
noncomputable def ri_expr:List D→St→Option (D×St):=F_tparse_parser_expr.runI GG (tb [] [(85,ri_chain1)]) 400
theorem cj_expr:IContract Tryz.prog GG 59 ri_expr:=fun_simI (T:=tb [] [(85,ri_chain1)]) (tb_ok all_nil (all_cons cj_chain1 all_nil)) rfl tr_tparse_parser_expr 400
noncomputable def ri_cl1:List D→St→Option (D×St):=F_tparse_parser_clause_1.runI GG (tb [] []) 400
theorem cj_cl1:IContract Tryz.prog GG 57 ri_cl1:=fun_simI (T:=tb [] []) (tb_ok all_nil all_nil) rfl tr_tparse_parser_clause_1 400
noncomputable def ri_indexF:List D→St→Option (D×St):=F_slices_IndexFunc_api_Clause_api_Clause.runI GG (tb [] [(57,ri_cl1)]) 400
theorem cj_indexF:IContract Tryz.prog GG 82 ri_indexF:=fun_simI (T:=tb [] [(57,ri_cl1)]) (tb_ok all_nil (all_cons cj_cl1 all_nil)) rfl tr_slices_IndexFunc_api_Clause_api_Clause 400
noncomputable def ri_contF:List D→St→Option (D×St):=F_slices_ContainsFunc_api_Clause_api_Clause.runI GG (tb [] [(82,ri_indexF)]) 400
theorem cj_contF:IContract Tryz.prog GG 56 ri_contF:=fun_simI (T:=tb [] [(82,ri_indexF)]) (tb_ok all_nil (all_cons cj_indexF all_nil)) rfl tr_slices_ContainsFunc_api_Clause_api_Clause 400
noncomputable def ri_clause:List D→St→Option (D×St):=F_tparse_parser_clause.runI GG (tb [(60,rp_nest3)] [(27,ri_here),(25,ri_name),(56,ri_contF),(28,ri_accept),(24,ri_expect),(59,ri_expr)]) 400
theorem cj_clause:IContract Tryz.prog GG 29 ri_clause:=fun_simI (T:=tb [(60,rp_nest3)] [(27,ri_here),(25,ri_name),(56,ri_contF),(28,ri_accept),(24,ri_expect),(59,ri_expr)]) (tb_ok (all_cons cp_nest3 all_nil) (all_cons cj_here (all_cons cj_name (all_cons cj_contF (all_cons cj_accept (all_cons cj_expect (all_cons cj_expr all_nil))))))) rfl tr_tparse_parser_clause 400
def srcS:List UInt8:=[116,97,114,105,102,102,32,116,32,102,111,114,32,104,105,114,101,32,123,32,99,108,97,117,115,101,32,97,32,112,97,121,32,50,32,109,111,110,101,121,32,112,101,114,32,109,105,110,117,116,101,32,42,32,109,105,110,117,116,101,115,59,32,125]
def tokD(k:Int)(s:List UInt8)(n a:Int):D:=.agg [.int .i64 k,.str s,.int .i64 n,.int .i64 a]
def tokL:List D:=[tokD 1 [116,97,114,105,102,102] 0 0,tokD 1 [116] 0 7,tokD 1 [102,111,114] 0 9,tokD 1 [104,105,114,101] 0 13,tokD 3 [123] 0 18,tokD 1 [99,108,97,117,115,101] 0 20,tokD 1 [97] 0 27,tokD 1 [112,97,121] 0 29,tokD 2 [50] 2 33,tokD 1 [109,111,110,101,121] 0 35,tokD 1 [112,101,114] 0 41,tokD 1 [109,105,110,117,116,101] 0 45,tokD 3 [42] 0 52,tokD 1 [109,105,110,117,116,101,115] 0 54,tokD 3 [59] 0 61,tokD 3 [125] 0 63]
theorem e_tokens:rp_tokens [.str srcS]=some (.tup [.slc 4 tokL false,.int .i64 0,.int .i64 0]):=by kernel_rfl
def rp_tokensM:List D→Option D:=fun ds=>match ds with
 |[.str s]=>if s=srcS then some (.tup [.slc 4 tokL false,.int .i64 0,.int .i64 0])else none
 |_=>none
theorem cp_tokensM:Contract Tryz.prog GG 22 rp_tokensM:=sub_con cp_tokens fun ds r h=>by
 unfold rp_tokensM at h
 split at h
 case h_2=>cases h
 split at h
 ·rename_i s e; subst e; rw[← h]; exact e_tokens
 ·cases h
end Go.Proofs.YtfbbaceiimdejaaGreatDoor.PI
namespace Go.Proofs.YtfbbaceiimdejaaGreatDoor.PI
open Go Go.RowKit
set_option linter.unusedSimpArgs false
set_option linter.unusedVariables false
section
variable {P:Program} {G:Glob}
section
variable {n:Nat} {ops:Array Oper} {Q:Exit→Act→List Go.Frame→World→Prop} {i:Nat} {rest:List Nat} {a:Act} {cs:List Go.Frame} {w w':World} {o:Oper}
theorem opsS_val{v:Value}(ho:ops[i]?=some o)(hg:o.guard=none)(hr:(execOp a.eval o).run P w=.ok (.value v) w')(h:wpOpsSIn Fence.wide n P ops Q rest (a.put o.dst v) cs w'):wpOpsSIn Fence.wide n P ops Q (i::rest) a cs w:=by
 have hw:Region.wanted o (yielded ops a.tmps)=true:=by simp[Region.wanted,hg]
 simp only[wpOpsSIn,ho,hw,if_true,hr]
 exact⟨fun _ _=>trivial,h⟩
theorem opsS_skip(ho:ops[i]?=some o)(hg:o.guard=none)(hr:(execOp a.eval o).run P w=.ok .skip w')(h:wpOpsSIn Fence.wide n P ops Q rest (a.put o.dst undef) cs w'):wpOpsSIn Fence.wide n P ops Q (i::rest) a cs w:=by
 have hw:Region.wanted o (yielded ops a.tmps)=true:=by simp[Region.wanted,hg]
 simp only[wpOpsSIn,ho,hw,if_true,hr]
 exact⟨fun _ _=>trivial,h⟩
theorem opsS_none(ho:ops[i]?=some o)(hg:o.guard=none)(hr:(execOp a.eval o).run P w=.ok .recover w)(hc:recoverD cs=none)(h:wpOpsSIn Fence.wide n P ops Q rest (a.put o.dst .nilIface) cs w):wpOpsSIn Fence.wide n P ops Q (i::rest) a cs w:=by
 have hw:Region.wanted o (yielded ops a.tmps)=true:=by simp[Region.wanted,hg]
 simp only[wpOpsSIn,ho,hw,if_true,hr,hc]
 exact⟨fun _ _=>trivial,h⟩
end
theorem run_mov{o:Oper}{a:Act}{w:World}{x:Operand}(h:o.op=.move x∨o.op=.assign x):(execOp a.eval o).run P w=.ok (.value (a.eval x)) w:=by
 rcases h with h | h
 ·simp only[execOp,h]; rfl
 ·simp only[execOp,h]; rfl
theorem run_ext0{o:Oper}{a:Act}{w:World}{x:Operand}{u v:Value}(h:o.op=.extract x 0)(hx:a.eval x=.tuple #[u,v]):(execOp a.eval o).run P w=.ok (.value u) w:=by
 simp only[execOp,h,hx]; rfl
theorem run_ext1{o:Oper}{a:Act}{w:World}{x:Operand}{u v:Value}(h:o.op=.extract x 1)(hx:a.eval x=.tuple #[u,v]):(execOp a.eval o).run P w=.ok (.value v) w:=by
 simp only[execOp,h,hx]; rfl
theorem handlerN{f i0 i1 r d d2 v k pa ok c t1 xt n:Nat}{fn:Func}{o0 o1 o2 o3 o4 o5 o6 o7 o8:Oper}{body:Code}{z:Value}{zd:D}
  (hfn:P.funcs[f]?=some fn) (hname:(fn.name == "runtime.NumGoroutine")=false) (hres:fn.results=#[])
  (hc:fn.body=some (.seq (.region i0 #[o0,o1,o2,o3,o4,o5,o6,o7] false) (.seq (.region i1 #[o8] false) (.cond (.tmp c) body .skip))))
  (h0:o0.op=.call {callee:=.builtin .recover,args:=#[],argTypes:=#[]}∧o0.dst=some r∧o0.guard=none)
  (h1:o1.op=.typeAssert (.tmp r) xt t1 true∧o1.dst=some d∧o1.guard=none)
  (h2:o2.op=.move (.tmp d)∧o2.dst=some d2∧o2.guard=none)
  (h3:o3.op=.extract (.tmp d2) 0∧o3.dst=some v∧o3.guard=none)
  (h4:o4.op=.extract (.tmp d2) 1∧o4.dst=some k∧o4.guard=none)
  (h5:o5.op=.alloc t1∧o5.dst=some pa∧o5.guard=none)
  (h6:o6.op=.store t1 (.tmp pa) (.tmp v)∧o6.dst=none∧o6.guard=none)
  (h7:o7.op=.assign (.tmp k)∧o7.dst=some ok∧o7.guard=none)
  (h8:o8.op=.move (.tmp ok)∧o8.dst=some c∧o8.guard=none)
  (hlt:(r<fn.ntmps∧d<fn.ntmps∧d2<fn.ntmps∧v<fn.ntmps)∧k<fn.ntmps∧pa<fn.ntmps∧ok<fn.ntmps∧c<fn.ntmps)
  (hne:d2≠v∧v≠k∧k≠pa∧v≠pa)
  (ht1:isConc P t1=true) (hiz:((P.info? t1).bind fun i=>i.zero)=some z) (hzd:constD z=some zd) (hcl:zd.cells.all D.isCell=true) (hsz:szOf P t1=some n) (hn:zd.cells.length=n) :
  HContract P G f (fun _ _ _ _=>none):=by
 refine⟨⟨fn,hfn,by rw[hc]; rfl,hname⟩,?_⟩
 obtain⟨u,ht1,hu1⟩:=isConc_spec ht1
 obtain⟨zi,hi,hz⟩:=Option.bind_eq_some_iff.1 hiz
 intro base w g st das ws hS hG hlen hrep
 obtain⟨hF0,hs0⟩:=start_FR (m:=fn.ntmps) hlen hrep
 obtain⟨h0a,h0b,h0c⟩:=h0
 obtain⟨h1a,h1b,h1c⟩:=h1
 obtain⟨h2a,h2b,h2c⟩:=h2
 obtain⟨h3a,h3b,h3c⟩:=h3
 obtain⟨h4a,h4b,h4c⟩:=h4
 obtain⟨h5a,h5b,h5c⟩:=h5
 obtain⟨h6a,h6b,h6c⟩:=h6
 obtain⟨h7a,h7b,h7c⟩:=h7
 obtain⟨h8a,h8b,h8c⟩:=h8
 obtain⟨⟨l1,l2,l3,l4⟩,l5,l6,l7,l8⟩:=hlt
 obtain⟨n1,n2,n3,n4⟩:=hne
 have hresults:∀ (tm:Array Value) (w':World),(results fn tm).run P w'=.ok (.tuple #[]) w':=by
  intro tm w'
  simp[results,hres]
 generalize ha0:({tmps:=ws.toArray++Array.replicate (fn.ntmps - ws.toArray.size) undef,defers:=[]}:Act)=a0 at*
 have hd0:a0.defers=[]:=by rw[← ha0]
 have hs0':fn.ntmps≤a0.tmps.size:=by rw[← ha0]; exact hs0
 have ho1:({dst:=o1.dst,op:=.typeAssert (.tmp r) xt t1 true,type:=o1.type,pos:=o1.pos,after:=o1.after,guard:=o1.guard}:Oper)=o1:=by rw[← h1a]
 refine⟨?_,fun t d st' h=>by cases h⟩
 refine callsDIn_of_wpSIn hfn hc trivial fun c₀ cs hu=>?_
 rw[ha0]
 refine wpSIn_seq (wpSIn_region ?_)
 have hr:recoverD (c₀::cs)=none:=by simp[recoverD,hu]
 show wpOpsSIn _ _ _ _ _ [0,1,2,3,4,5,6,7] _ _ _
 refine opsS_none (o:=o0) rfl h0c (run_recover h0a) hr ?_
 rw[h0b]
 have e1:(a0.put (some r) .nilIface).eval (.tmp r)=.nilIface:=eval_put (by omega)
 have he1:=run_taNil (P:=P) ht1 hu1 hi hz (x:=.tmp r) e1 (dst:=o1.dst) (ty:=o1.type) (xt:=xt) (pos:=o1.pos) (after:=o1.after) (guard:=o1.guard) w
 rw[ho1]at he1
 generalize hA1:a0.put (some r) .nilIface=a1 at*
 have s1:fn.ntmps≤a1.tmps.size:=by rw[← hA1,put_size']; exact hs0'
 have f1:a1.defers=[]:=by rw[← hA1]; simp[Act.put,hd0]
 refine opsS_val (o:=o1) rfl h1c he1 ?_
 rw[h1b]
 have e2:(a1.put (some d) (.tuple #[z,.bool false])).eval (.tmp d)=.tuple #[z,.bool false]:=eval_put (by omega)
 generalize hA2:a1.put (some d) (.tuple #[z,.bool false])=a2 at*
 have s2:fn.ntmps≤a2.tmps.size:=by rw[← hA2,put_size']; exact s1
 have f2:a2.defers=[]:=by rw[← hA2]; simp[Act.put,f1]
 refine opsS_val (o:=o2) rfl h2c (run_mov (.inl h2a)) ?_
 rw[h2b,e2]
 have e3:(a2.put (some d2) (.tuple #[z,.bool false])).eval (.tmp d2)=.tuple #[z,.bool false]:=eval_put (by omega)
 generalize hA3:a2.put (some d2) (.tuple #[z,.bool false])=a3 at*
 have s3:fn.ntmps≤a3.tmps.size:=by rw[← hA3,put_size']; exact s2
 have f3:a3.defers=[]:=by rw[← hA3]; simp[Act.put,f2]
 refine opsS_val (o:=o3) rfl h3c (run_ext0 h3a e3) ?_
 rw[h3b]
 have e4:(a3.put (some v) z).eval (.tmp d2)=.tuple #[z,.bool false]:=by rw[eval_put_ne n1]; exact e3
 have e4v:(a3.put (some v) z).eval (.tmp v)=z:=eval_put (by omega)
 generalize hA4:a3.put (some v) z=a4 at*
 have s4:fn.ntmps≤a4.tmps.size:=by rw[← hA4,put_size']; exact s3
 have f4:a4.defers=[]:=by rw[← hA4]; simp[Act.put,f3]
 refine opsS_val (o:=o4) rfl h4c (run_ext1 h4a e4) ?_
 rw[h4b]
 have e5:(a4.put (some k) (.bool false)).eval (.tmp k)=.bool false:=eval_put (by omega)
 have e5v:(a4.put (some k) (.bool false)).eval (.tmp v)=z:=by rw[eval_put_ne n2]; exact e4v
 generalize hA5:a4.put (some k) (.bool false)=a5 at*
 have s5:fn.ntmps≤a5.tmps.size:=by rw[← hA5,put_size']; exact s4
 have f5:a5.defers=[]:=by rw[← hA5]; simp[Act.put,f4]
 -- a box of its own
 have hS0:SR w.heap.size w g []:=⟨fun k o h=>by simp at h,fun k o h=>by simp at h,fun k k' o o' h=>by simp at h,hS.im,fun k o x h=>by simp at h,Nat.le_refl _⟩
 obtain⟨va,w1,g1,q1,q2,q3⟩:RunsTo P w.heap.size w g [] (Instr.alloc t1 true (.tuple #[])) (.ptr ([]:St).length 0) ([]++[{row:=false,sz:=1,els:=zd.cells,lent:=false}]):=
  RunsTo.congr (by simp[Instr.alloc,zeroValue,typeInfo,hi,hz]) (box_run (t:=t1) hS0 hcl (constD_rep hzd))
 have q5:(execOp a5.eval o5).run P w=.ok (.value va) w1:=by
  have e:execOp a5.eval o5=(do pure (.value (← Instr.alloc t1 true (.tuple #[])))):=by simp only[execOp,h5a]
  rw[e]
  simp only[Sem.run_bind,q1,Result.andThen_ok,Sem.run_pure]
 refine opsS_val (o:=o5) rfl h5c q5 ?_
 rw[h5b]
 have e6p:(a5.put (some pa) va).eval (.tmp pa)=va:=eval_put (by omega)
 have e6v:(a5.put (some pa) va).eval (.tmp v)=z:=by rw[eval_put_ne n4]; exact e5v
 have e6k:(a5.put (some pa) va).eval (.tmp k)=.bool false:=by rw[eval_put_ne n3]; exact e5
 generalize hA6:a5.put (some pa) va=a6 at*
 have s6:fn.ntmps≤a6.tmps.size:=by rw[← hA6,put_size']; exact s5
 have f6:a6.defers=[]:=by rw[← hA6]; simp[Act.put,f5]
 have hps:pstor ([]++[{row:=false,sz:=1,els:=zd.cells,lent:=false}]) n (.ptr ([]:St).length 0) zd=some ([({row:=false,sz:=1,els:=splice zd.cells 0 zd.cells,lent:=false}:PI.Obj)]):=by
  simp[pstor,hn,hcl]
 obtain⟨w2,g2,q6,q7⟩:=pstor_run (P:=P) q2.sr hsz hps q3 (constD_rep hzd)
 have q8:(execOp a6.eval o6).run P w1=.ok .skip w2:=by
  simp only[execOp,h6a,e6p,e6v,Sem.run_bind,q6,Result.andThen_ok,Sem.run_pure]
 refine opsS_skip (o:=o6) rfl h6c q8 ?_
 rw[h6b]
 have e7k:(a6.put none undef).eval (.tmp k)=.bool false:=by simpa[Act.put]using e6k
 generalize hA7:a6.put none undef=a7 at*
 have s7:fn.ntmps≤a7.tmps.size:=by rw[← hA7]; simpa[Act.put]using s6
 have f7:a7.defers=[]:=by rw[← hA7]; simp[Act.put,f6]
 refine opsS_val (o:=o7) rfl h7c (run_mov (.inr h7a)) ?_
 rw[h7b,e7k]
 have e8:(a7.put (some ok) (.bool false)).eval (.tmp ok)=.bool false:=eval_put (by omega)
 generalize hA8:a7.put (some ok) (.bool false)=a8 at*
 have s8:fn.ntmps≤a8.tmps.size:=by rw[← hA8,put_size']; exact s7
 have f8:a8.defers=[]:=by rw[← hA8]; simp[Act.put,f7]
 refine wpSIn_of_wpIn rfl (wpIn_seq (wpIn_region_list ?_))
 simp only[wpListIn,Region.wanted,h8c,if_true]
 refine⟨fun _ _=>trivial,?_⟩
 show o8.uponIn _ _ _ _ _ _ ((execOp a8.eval o8).run P w2)
 rw[run_mov (.inl h8a),Oper.uponIn_value,h8b,e8]
 show Code.wpIn _ _ _ _ _ _ _
 refine wpIn_cond_false (eval_put (by omega)) (wpIn_skip ?_)
 have hall:=q2.trans q7
 have hb:=hall.below
 exact⟨by simp[Act.put,f8],.returning,by rw[← hu],_,hresults _ _,rfl,rfl,_,hS.more (Im':=g.Im) ⟨hb.os,hb.tape,hb.output,hb.size⟩ (fun b hlt=>hb.block b hlt) (fun _ _ h=>h) (fun _ _ h=>.inl h) (fun b o h=>by rw[(hall.im.im b o h).2]; exact hS.im b o h)⟩
end
end Go.Proofs.YtfbbaceiimdejaaGreatDoor.PI
namespace Go.Proofs.YtfbbaceiimdejaaGreatDoor.PI
open Go
set_option linter.unusedSimpArgs false
set_option linter.unusedVariables false
theorem c_hq:HContract Tryz.prog GG 23 (fun _ _ _ _=>none):=
 handlerN (fn:=Tryz.f23) (z:=.agg #[.int .i64 0,.int .i64 0]) (zd:=.agg [.int .i64 0,.int .i64 0]) (n:=2) (by kernel_rfl) rfl rfl rfl ⟨rfl,rfl,rfl⟩ ⟨rfl,rfl,rfl⟩ ⟨rfl,rfl,rfl⟩ ⟨rfl,rfl,rfl⟩ ⟨rfl,rfl,rfl⟩ ⟨rfl,rfl,rfl⟩ ⟨rfl,rfl,rfl⟩ ⟨rfl,rfl,rfl⟩ ⟨rfl,rfl,rfl⟩ (by decide) (by decide) (by kernel_rfl) (by kernel_rfl) rfl rfl (by kernel_rfl) rfl
def hQ:HTbl:=fun f=>if f=23 then some (fun _ _ _ _=>none)else none
theorem hQ_ok:∀ f h,hQ f=some h→HContract Tryz.prog GG f h:=by
 intro f h e
 unfold hQ at e
 split at e
 ·rename_i hf
  simp only[Option.some.injEq]at e
  subst e; subst hf
  exact c_hq
 ·cases e
noncomputable def TPA:Tbl:=tb [(22,rp_tokensM)] [(24,ri_expect),(25,ri_name),(26,ri_must),(27,ri_here),(28,ri_accept),(29,ri_clause)]
noncomputable def ri_parse:List D→St→Option (D×St):=F_tparse_Parse.runI GG TPA hQ 100
theorem cj_parse:IContract Tryz.prog GG 11 ri_parse:=
 fun_simE3 (T:=TPA) (tb_ok (all_cons cp_tokensM all_nil) (all_cons cj_expect (all_cons cj_name (all_cons cj_must (all_cons cj_here (all_cons cj_accept (all_cons cj_clause all_nil))))))) rfl tr_tparse_Parse hQ_ok 100
def srcX:D:=exD 5 0 0 0 0 0 [exD 1 2 1 (-1) 0 0 [],exD 2 7 0 0 0 0 []]
def srcC:List D:=[.str [97],.slc 0 [] false]++exC 5 0 0 0 0 0 [exD 1 2 1 (-1) 0 0 [],exD 2 7 0 0 0 0 []]
def srcT:D:=.agg [.str [116],.int .i64 1,.slc 9 [.agg srcC] false]
def ptS(ds0:List D)(d0:D):List D→Option D:=fun ds=>if D.beqL ds ds0 then some d0 else none
theorem ptS_inv{ds0 ds:List D}{d0 d:D}(h:ptS ds0 d0 ds=some d):ds=ds0∧d=d0:=by
 unfold ptS at h
 split at h
 ·rename_i hb
  simp only[Option.some.injEq]at h
  exact⟨D.beqL_eq _ _ hb,h.symm⟩
 ·cases h
def unpL(r:D×St):Option (List D):=match r.1 with
 |.tup (a::b::l)=>imms r.2 (a::b::l)
 |_=>none
theorem pt_of{f:Nat}{sp:List D→St→Option (D×St)}(h:IContract Tryz.prog GG f sp){ds0 ys:List D}(e:(sp ds0 []).bind unpL=some ys):Contract Tryz.prog GG f (ptS ds0 (pack ys)):=by
 intro w g ds vs d hd hG hIm hlen hrep _
 obtain⟨rfl,rfl⟩:=ptS_inv hd
 simp only[Option.bind_eq_some_iff]at e
 obtain⟨⟨r,st'⟩,e1,e2⟩:=e
 unfold unpL at e2
 dsimp only at e2
 split at e2
 ·rename_i a b l
  exact contract_at h (xs:=a::b::l) e1 e2 w g vs hG hIm hlen hrep
 ·cases e2
theorem pt_con{f:Nat}{sp:List D→Option D}(h:Contract Tryz.prog GG f sp){ds0:List D}{d0:D}(e:sp ds0=some d0):Contract Tryz.prog GG f (ptS ds0 d0):=
 sub_con h fun ds r hr=>by
  obtain⟨rfl,rfl⟩:=ptS_inv hr
  exact e
def vS:List Int:=[0,0,0,0,0,0,0,21,0,0,0,0,0,0,0,0]
def envS:D:=envD 128 vS
theorem e_parse':(ri_parse [.str srcS] []).bind unpL=some [srcT,.int .i64 0,.int .i64 0]:=by kernel_rfl
theorem c_parse1:Contract Tryz.prog GG 11 (ptS [.str srcS] (.tup [srcT,.int .i64 0,.int .i64 0])):=pt_of cj_parse e_parse'
def mk1:List D→Option ((Nat→D)×(Nat→List Obj)):=fun ds=>if D.beqL ds [envS]then some (fun n=>.ptr (n+1) 0,fun n=>[⟨false,1,envC 128 vS,false⟩,⟨false,1,evC 128 vS (.mapv (n+2)),false⟩,⟨false,2,evN (n+1) 9,false⟩])else none
theorem cm_1:IContract Tryz.prog GG 20 (fun ds st=>(mk1 ds).map fun r=>(r.1 st.length,st++r.2 st.length)):=
 ⟨cm_newEv.1,fun base w g st st' ds vs d h=>cm_newEv.2 base w g st st' ds vs d (by
  rw[← h]
  unfold mk1 at h ⊢
  dsimp only at h ⊢
  split at h
  ·rename_i hb
   obtain rfl:=D.beqL_eq _ _ hb
   rw[if_pos hb]
   unfold envS
   rw[mk_ev 128 vS rfl]
  ·cases h)⟩
noncomputable def TB1:Tbl:={p:=fun _=>none,i:=fun _=>none,m:=look [(20,mk1)]}
theorem tb1_ok:TblOK Tryz.prog GG TB1:=
 ⟨fun _ _ hs=>(by cases hs),fun _ _ hs=>(by cases hs),fun _ _ hs=>(by
   have:=look_mem hs
   simp only[List.mem_singleton,Prod.mk.injEq]at this
   obtain⟨rfl,rfl⟩:=this
   exact cm_1),fun _ _ hs=>(by cases hs),fun _ _ hs=>(by cases hs),fun _ _ hs=>(by cases hs)⟩
noncomputable def ri_hold:List D→St→Option (D×St):=F_teval_Holds.runI GG TB1 hT 20
theorem cj_hold:IContract Tryz.prog GG 31 ri_hold:=fun_simD tb1_ok rfl tr_teval_Holds hT_ok 20
theorem e_hold:(ri_hold [.agg srcC,envS] []).bind unpL=some [.bool true,.int .i64 0]:=by kernel_rfl
theorem c_hold1:Contract Tryz.prog GG 31 (ptS [.agg srcC,envS] (.tup [.bool true,.int .i64 0])):=pt_of cj_hold e_hold
theorem srcX_exP:ExP srcX:=by
 refine .mk _ _ _ _ _ _ _ (by decide) fun x hx=>?_
 simp only[List.mem_cons,List.not_mem_nil,or_false]at hx
 rcases hx with rfl | rfl
 ·exact .mk _ _ _ _ _ _ _ (by decide) fun x hx=>by cases hx
 ·exact .mk _ _ _ _ _ _ _ (by decide) fun x hx=>by cases hx
theorem e_eval:evalU 128 vS srcX=(42,0):=by kernel_rfl
theorem c_eval1:Contract Tryz.prog GG 9 (ptS [srcX,envS] (.tup [.int .i64 42,.int .i64 0])):=pt_con c_peval (by
 have:=call_peval srcX (128,vS) ⟨rfl,srcX_exP⟩
 rw[e_eval]at this
 exact this)
noncomputable def TA1:Tbl:=tb [(31,ptS [.agg srcC,envS] (.tup [.bool true,.int .i64 0])),(9,ptS [srcX,envS] (.tup [.int .i64 42,.int .i64 0]))] []
noncomputable def rp_amt:List D→Option D:=F_teval_Amount.run GG TA1 50
theorem cp_amt:Contract Tryz.prog GG 12 rp_amt:=fun_sim (T:=TA1) (tb_ok (all_cons c_hold1 (all_cons c_eval1 all_nil)) all_nil) rfl tr_teval_Amount 50
theorem e_amt:rp_amt [srcT,envS]=some (.tup [.int .i64 42,.int .i64 0,.int .i64 0]):=by kernel_rfl
theorem c_amt1:Contract Tryz.prog GG 12 (ptS [srcT,envS] (.tup [.int .i64 42,.int .i64 0,.int .i64 0])):=pt_con cp_amt e_amt
noncomputable def TS1:Tbl:=tb [(11,ptS [.str srcS] (.tup [srcT,.int .i64 0,.int .i64 0])),(12,ptS [srcT,envS] (.tup [.int .i64 42,.int .i64 0,.int .i64 0]))] []
noncomputable def rp_sane:List D→Option D:=F_wagonpooltop_tariffSane.run GG TS1 50
theorem cp_sane:Contract Tryz.prog GG 4 rp_sane:=fun_sim (T:=TS1) (tb_ok (all_cons c_parse1 (all_cons c_amt1 all_nil)) all_nil) rfl tr_wagonpooltop_tariffSane 50
theorem e_sane:rp_sane []=some (.bool true):=by kernel_rfl
noncomputable def sp_sane:List D→Option D:=spOf (α:=Unit) (fun _=>[]) (fun _=>True) (fun _=>.bool true)
theorem call_sane:sp_sane []=some (.bool true):=
 spOf_enc (fun _ _ _=>rfl) () trivial
theorem c_sane:Contract Tryz.prog GG 4 sp_sane:=sub_con cp_sane fun ds r h=>by
 obtain⟨a,rfl,_,rfl⟩:=spOf_inv h
 exact e_sane
noncomputable def rp_wrt:List D→Option D:=F_tparse_writable.run GG (tb [] []) 100
theorem cp_wrt:Contract Tryz.prog GG 90 rp_wrt:=fun_sim (T:=tb [] []) (tb_ok all_nil all_nil) rfl tr_tparse_writable 100
def three:List Int:=[-1,0,1]
def dims81:List (List Int):=three.flatMap fun a=>three.flatMap fun b=>three.flatMap fun c=>three.map fun d=>[a,b,c,d]
def yesD:Option D→Bool
 |some (.bool b)=>b
 |_=>false
theorem yesD_iff{o:Option D}(h:yesD o=true):o=some (.bool true):=by
 unfold yesD at h
 split at h
 ·rw[h]
 ·cases h
theorem wrt_all:(dims81.filter unU).all (fun u=>yesD (rp_wrt [.agg (u.map nI)]))=true:=by kernel_rfl
theorem mem_three{n:Int}(h:-1≤n∧n≤1):n∈three:=by
 have:n=-1∨n=0∨n=1:=by omega
 rcases this with rfl | rfl | rfl <;> decide
theorem wrt_unU{a b c d:Int}(h:unU [a,b,c,d]=true):rp_wrt [.agg (d4 a b c d)]=some (.bool true):=by
 have h':=h
 unfold unU at h'
 simp only[Bool.and_eq_true]at h'
 have h1:=List.all_eq_true.1 h'.1.1
 have h2:∀ n∈[a,b,c,d],-1≤n∧n≤1:=fun n hn=>by simpa using h1 n hn
 have hm:[a,b,c,d]∈dims81:=by
  unfold dims81
  simp only[List.mem_flatMap,List.mem_map]
  exact⟨a,mem_three (h2 a (by simp)),b,mem_three (h2 b (by simp)),c,mem_three (h2 c (by simp)),d,mem_three (h2 d (by simp)),rfl⟩
 exact yesD_iff (List.all_eq_true.1 wrt_all _ (List.mem_filter.2 ⟨hm,h⟩))
noncomputable def sp_wrt:List D→Option D:=spOf (α:=List Int) (fun a=>[.agg (a.map nI)]) (fun a=>unU a=true∧a.length=4) (fun a=>.bool true)
theorem call_wrt(u:List Int)(h:unU u=true∧u.length=4):sp_wrt [.agg (u.map nI)]=some (.bool true):=
 spOf_enc (fun a b h=>by simp only[List.cons.injEq,D.agg.injEq,and_true,ints_iff]at h; simp[h]) (u) h
theorem c_wrt:Contract Tryz.prog GG 90 sp_wrt:=sub_con cp_wrt fun ds r h=>by
 obtain⟨u,rfl,⟨h1,h2⟩,rfl⟩:=spOf_inv h
 match u,h2 with
 |[a,b,c,d],_=>exact wrt_unU h1
def zX:D:=exD 1 0 0 0 0 0 []
noncomputable def rp_idx0:List D→Option D:=F_slices_IndexFunc_api_Expr_api_Expr.run GG (tb [] []) 100
theorem cp_idx0:Contract Tryz.prog GG 111 rp_idx0:=fun_sim (T:=tb [] []) (tb_ok all_nil all_nil) rfl tr_slices_IndexFunc_api_Expr_api_Expr 100
noncomputable def rp_cont0:List D→Option D:=F_slices_ContainsFunc_api_Expr_api_Expr.run GG (tb [(111,rp_idx0)] []) 100
theorem cp_cont0:Contract Tryz.prog GG 91 rp_cont0:=fun_sim (T:=tb [(111,rp_idx0)] []) (tb_ok (all_cons cp_idx0 all_nil) all_nil) rfl tr_slices_ContainsFunc_api_Expr_api_Expr 100
noncomputable def TF0:Tbl:=tb [(90,rp_wrt),(91,rp_cont0)] []
noncomputable def rp_f65:List D→Option D:=F_tparse_formed.run GG TF0 100
theorem cp_f65:Contract Tryz.prog GG 65 rp_f65:=fun_sim (T:=TF0) (tb_ok (all_cons cp_wrt (all_cons cp_cont0 all_nil)) all_nil) rfl tr_tparse_formed 100
noncomputable def ri_f92:List D→St→Option (D×St):=F_tparse_formed_1.runI GG (tb [(65,rp_f65)] []) 100
theorem cj_f92:IContract Tryz.prog GG 92 ri_f92:=fun_simI (T:=tb [(65,rp_f65)] []) (tb_ok (all_cons cp_f65 all_nil) all_nil) rfl tr_tparse_formed_1 100
noncomputable def rp_idx1:List D→Option D:=F_slices_IndexFunc_api_Expr_api_Expr.run GG (tb [] [(92,ri_f92)]) 100
theorem cp_idx1:Contract Tryz.prog GG 111 rp_idx1:=fun_sim (T:=tb [] [(92,ri_f92)]) (tb_ok all_nil (all_cons cj_f92 all_nil)) rfl tr_slices_IndexFunc_api_Expr_api_Expr 100
noncomputable def rp_cont1:List D→Option D:=F_slices_ContainsFunc_api_Expr_api_Expr.run GG (tb [(111,rp_idx1)] []) 100
theorem cp_cont1:Contract Tryz.prog GG 91 rp_cont1:=fun_sim (T:=tb [(111,rp_idx1)] []) (tb_ok (all_cons cp_idx1 all_nil) all_nil) rfl tr_slices_ContainsFunc_api_Expr_api_Expr 100
theorem e_cont0:rp_cont1 [.slc 0 [] false,.clo 92 []]=some (.bool false):=by kernel_rfl
theorem e_cont2:rp_cont1 [.slc 7 [zX,zX] false,.clo 92 []]=some (.bool false):=by kernel_rfl
theorem e_cont4:rp_cont1 [.slc 7 [zX,zX,zX,zX] false,.clo 92 []]=some (.bool false):=by kernel_rfl
noncomputable def rp_ascii:List D→Option D:=F_strings_makeASCIISet.run GG (tb [] []) 400
theorem cp_ascii:Contract Tryz.prog GG 106 rp_ascii:=fun_sim (T:=tb [] []) (tb_ok all_nil all_nil) rfl tr_strings_makeASCIISet 400
noncomputable def ri_has:List D→St→Option (D×St):=F2_strings_asciiSet_contains.runI GG (tb [] []) 400
theorem cj_has:IContract Tryz.prog GG 113 ri_has:=fun_simI (T:=tb [] []) (tb_ok all_nil all_nil) rfl tr2_strings_asciiSet_contains 400
noncomputable def ri_trl:List D→St→Option (D×St):=F2_strings_trimLeftASCII.runI GG (tb [] [(113,ri_has)]) 400
theorem cj_trl:IContract Tryz.prog GG 107 ri_trl:=fun_simI (T:=tb [] [(113,ri_has)]) (tb_ok all_nil (all_cons cj_has all_nil)) rfl tr2_strings_trimLeftASCII 400
noncomputable def ri_trr:List D→St→Option (D×St):=F2_strings_trimRightASCII.runI GG (tb [] [(113,ri_has)]) 400
theorem cj_trr:IContract Tryz.prog GG 108 ri_trr:=fun_simI (T:=tb [] [(113,ri_has)]) (tb_ok all_nil (all_cons cj_has all_nil)) rfl tr2_strings_trimRightASCII 400
noncomputable def TTR:Tbl:=tb [(106,rp_ascii)] [(107,ri_trl),(108,ri_trr)]
noncomputable def rp_trim:List D→Option D:=F2_strings_Trim.run GG TTR 400
set_option maxRecDepth 20000 in
theorem cp_trim:Contract Tryz.prog GG 89 rp_trim:=fun_sim (T:=TTR) (tb_ok (all_cons cp_ascii all_nil) (all_cons cj_trl (all_cons cj_trr all_nil))) rfl tr2_strings_Trim 400
noncomputable def rp_word:List D→Option D:=F_tparse_word.run GG (tb [(89,rp_trim)] []) 400
theorem cp_word:Contract Tryz.prog GG 64 rp_word:=fun_sim (T:=tb [(89,rp_trim)] []) (tb_ok (all_cons cp_trim all_nil) all_nil) rfl tr_tparse_word 400
theorem e_worda:rp_word [.str [97]]=some (.bool true):=by kernel_rfl
theorem e_wordb:rp_word [.str [98]]=some (.bool true):=by kernel_rfl
theorem e_resa:rp_reserved [.str [97]]=some (.bool false):=by kernel_rfl
theorem e_resb:rp_reserved [.str [98]]=some (.bool false):=by kernel_rfl
theorem e_nest0(op k u0 u1 u2 u3:Int):rp_nest3 [exD op k u0 u1 u2 u3 []]=some (.int .i64 1):=by kernel_rfl
theorem e_nest2(op k u0 u1 u2 u3:Int):rp_nest3 [exD op k u0 u1 u2 u3 [zX,zX]]=some (.int .i64 2):=by kernel_rfl
theorem e_nest4(op k u0 u1 u2 u3:Int):rp_nest3 [exD op k u0 u1 u2 u3 [zX,zX,zX,zX]]=some (.int .i64 2):=by kernel_rfl
theorem imm_clo0(st:St)(f:Nat):imm st (.clo f [])=some (.clo f []):=(rfl)
theorem keys_clo0(f:Nat):keys (.clo f [])=[]:=(rfl)
attribute [push_cast] imm_clo0 keys_clo0
def zs(op:Int):List D:=List.replicate (opsF op).toNat zX
def hdOK(op k u0 u1 u2 u3:Int):Prop:=1≤op∧op≤11∧unU [u0,u1,u2,u3]=true∧0≤k∧(op=1→k≤1099511627776)∧(op=2→k<16)∧(op≠1→op≠2→k=0)∧(op≠1→u0=0∧u1=0∧u2=0∧u3=0)
def HeadP(x:D):Prop:=∃ op k u0 u1 u2 u3:Int,hdOK op k u0 u1 u2 u3∧x=exD op k u0 u1 u2 u3 (zs op)
theorem zs_1:zs 1=[]:=(rfl)
theorem zs_2:zs 2=[]:=(rfl)
theorem zs_11:zs 11=[zX,zX,zX,zX]:=(rfl)
theorem zs_m{op:Int}(h1:1≤op)(h2:op≤11)(o1:op≠1)(o2:op≠2)(o11:op≠11):zs op=[zX,zX]:=by
 have:opsF op=2:=by
  unfold opsF
  rw[if_neg (by omega),if_neg (by omega),if_neg o11]
 unfold zs
 rw[this]; rfl
noncomputable def sp_hform:List D→Option D:=spOf (α:=D) (fun a=>[a]) HeadP (fun _=>.bool true)
theorem call_hform(x:D)(h:HeadP x):sp_hform [x]=some (.bool true):=
 spOf_enc (fun a b h=>by simp only[List.cons.injEq,and_true]at h; exact h) x h
noncomputable abbrev THF:Tbl:=tb [(90,sp_wrt),(91,rp_cont1)] []
set_option maxHeartbeats 8000000 in
set_option maxRecDepth 20000 in
theorem w_hform(x:D)(h:HeadP x):@wW GG THF F_tparse_formed.code (argF [x]) [] ⟨retQ F_tparse_formed.res (.bool true)⟩:=by
 obtain⟨op,k,u0,u1,u2,u3,⟨g1,g2,g4,g5,g6,g7,g8,g9⟩,rfl⟩:=h
 have cw:=call_wrt [u0,u1,u2,u3] ⟨g4,rfl⟩
 simp only[List.map_cons,List.map_nil,nI]at cw
 have e0:=e_cont0
 have e2:=e_cont2
 have e4:=e_cont4
 have k5:¬ k<0:=by omega
 have a1:¬ op<1:=by omega
 have a2:¬ 11<op:=by omega
 unfold F_tparse_formed
 by_cases o1:op=1
 ·subst o1
  have k2:¬ 1099511627776<k:=by omega
  rw[zs_1]
  simp (disch:=first|omega|decide) only[push_cast,↓reduceIte,Nat.reduceEqDiff,cw,e0,k2,k5,List.length_nil,Int.cast_ofNat_Int]
 obtain⟨rfl,rfl,rfl,rfl⟩:=g9 o1
 by_cases o2:op=2
 ·subst o2
  have k2:¬ 15<k:=by omega
  rw[zs_2]
  simp (disch:=first|omega|decide) only[push_cast,↓reduceIte,Nat.reduceEqDiff,cw,e0,k2,k5,Int.reduceEq,List.length_nil,Int.cast_ofNat_Int,aeq_d4]
 obtain rfl:=g8 o1 o2
 by_cases o11:op=11
 ·subst o11
  rw[zs_11]
  simp (disch:=first|omega|decide) only[push_cast,↓reduceIte,Nat.reduceEqDiff,Nat.reduceAdd,Int.reduceLT,cw,e4,Int.reduceEq,List.length_cons,List.length_nil,Int.cast_ofNat_Int,aeq_d4]
 ·rw[zs_m g1 g2 o1 o2 o11]
  simp (disch:=first|omega|decide) only[push_cast,↓reduceIte,Nat.reduceEqDiff,Nat.reduceAdd,Int.reduceLT,cw,e2,a1,a2,o1,o2,o11,List.length_cons,List.length_nil,Int.cast_ofNat_Int,aeq_d4]
theorem c_hform:Contract Tryz.prog GG 65 sp_hform:=
 contract_of (T:=THF) tr_tparse_formed (tb_ok (all_cons c_wrt (all_cons cp_cont1 all_nil)) all_nil) (fun a h=>w_hform a h)
section
variable (op k u0 u1 u2 u3:Int) (els:List D) (s:D)
def clC:List D:=[.str [98],.slc 0 [] false]++exC op k u0 u1 u2 u3 els
def taC:List D:=[.str [97],.int .i64 1,.slc 9 [.agg (clC op k u0 u1 u2 u3 els)] false]
def clZ:List D:=[.str [],.slc 0 [] true,.int .i64 0,.int .i64 0,.int .i64 0,.int .i64 0,.int .i64 0,.int .i64 0,.slc 0 [] true]
theorem zero_cl':D.str []::D.slc 0 [] true::yZ=clZ:=(rfl)
theorem box_ta:boxD (.agg (taC op k u0 u1 u2 u3 els))=some (taC op k u0 u1 u2 u3 els):=(rfl)
theorem ld_ta0(lent:Bool):ldO (some ⟨false,1,taC op k u0 u1 u2 u3 els,lent⟩) 1 false 0=some (.str [97]):=(rfl)
theorem ld_ta1(lent:Bool):ldO (some ⟨false,1,taC op k u0 u1 u2 u3 els,lent⟩) 1 false 1=some (.int .i64 1):=(rfl)
theorem ld_ta2(lent:Bool):ldO (some ⟨false,1,taC op k u0 u1 u2 u3 els,lent⟩) 1 false 2=some (.slc 9 [.agg (clC op k u0 u1 u2 u3 els)] false):=(rfl)
theorem box_clZ:boxD (.agg clZ)=some clZ:=(rfl)
theorem st_cl:stO (some ⟨false,1,clZ,false⟩) 9 0 (.agg (clC op k u0 u1 u2 u3 els))=some ⟨false,1,clC op k u0 u1 u2 u3 els,false⟩:=(rfl)
theorem ld_cl0(lent:Bool):ldO (some ⟨false,1,clC op k u0 u1 u2 u3 els,lent⟩) 1 false 0=some (.str [98]):=(rfl)
theorem ld_cl1(lent:Bool):ldO (some ⟨false,1,clC op k u0 u1 u2 u3 els,lent⟩) 1 false 1=some (.slc 0 [] false):=(rfl)
theorem ld_cl2(lent:Bool):ldO (some ⟨false,1,clC op k u0 u1 u2 u3 els,lent⟩) 7 true 2=some (exD op k u0 u1 u2 u3 els):=(rfl)
theorem pld_cl(st:St):pload st 9 true (.eptr (.agg (clC op k u0 u1 u2 u3 els)) 0)=some (.agg (clC op k u0 u1 u2 u3 els)):=(rfl)
theorem idx_cl(st:St):pidxS st 9 (.slc 9 [.agg (clC op k u0 u1 u2 u3 els)] false) (.int .i64 0)=some (.eptr (.agg (clC op k u0 u1 u2 u3 els)) 0):=(rfl)
theorem hkB_ta:(taC op k u0 u1 u2 u3 els).flatMap hk=[]:=(rfl)
theorem renB_ta(n:Nat)(σ:List Nat):(taC op k u0 u1 u2 u3 els).map (ren n σ)=taC op k u0 u1 u2 u3 els:=(rfl)
theorem hkB_cl:(clC op k u0 u1 u2 u3 els).flatMap hk=[]:=(rfl)
theorem renB_cl(n:Nat)(σ:List Nat):(clC op k u0 u1 u2 u3 els).map (ren n σ)=clC op k u0 u1 u2 u3 els:=(rfl)
end
def seenE(i:Nat):List D:=if i=0 then []else [.agg [.str [98],.bool true]]
theorem mg_b0:mgO (some ⟨false,2,seenE 0,false⟩) 2 [2] false (.bool false) (.str [98])=some (.bool false):=(rfl)
theorem mu_b0:muO (some ⟨false,2,seenE 0,false⟩) 2 [2] (.str [98]) (.bool true)=some ⟨false,2,seenE 1,false⟩:=(rfl)
theorem hkB_seen(i:Nat):(seenE i).flatMap hk=[]:=by unfold seenE; split <;> rfl
theorem renB_seen(i n:Nat)(σ:List Nat):(seenE i).map (ren n σ)=seenE i:=by unfold seenE; split <;> rfl
attribute [push_cast] zero_cl' box_ta ld_ta0 ld_ta1 ld_ta2 box_clZ st_cl ld_cl0 ld_cl1 ld_cl2 pld_cl idx_cl hkB_ta renB_ta hkB_cl renB_cl mg_b0 mu_b0 hkB_seen renB_seen mkmap_2
def hdT(x:D):D:=.agg [.str [97],.int .i64 1,.slc 9 [.agg ([.str [98],.slc 0 [] false]++x.cells)] false]
theorem hdT_ex(op k u0 u1 u2 u3:Int)(els:List D):hdT (exD op k u0 u1 u2 u3 els)=.agg (taC op k u0 u1 u2 u3 els):=(rfl)
theorem hdT_inj{x y:D}(h:hdT x=hdT y)(hx:HeadP x)(hy:HeadP y):x=y:=by
 obtain⟨op,k,u0,u1,u2,u3,_,rfl⟩:=hx
 obtain⟨op',k',v0,v1,v2,v3,_,rfl⟩:=hy
 rw[hdT_ex,hdT_ex]at h
 simp only[taC,clC,List.cons_append,List.nil_append,D.agg.injEq,List.cons.injEq,D.slc.injEq,and_true,true_and]at h
 unfold exD
 rw[h]
noncomputable def sp_hchk:List D→Option D:=spOf (α:={x:D // HeadP x}) (fun a=>[hdT a.1]) (fun _=>True) (fun _=>.int .i64 0)
theorem call_hchk(x:D)(h:HeadP x):sp_hchk [hdT x]=some (.int .i64 0):=
 spOf_enc (α:={x:D // HeadP x}) (fun a b h=>by
  simp only[List.cons.injEq,and_true]at h
  exact Subtype.ext (hdT_inj h a.2 b.2)) ⟨x,h⟩ trivial
theorem nest_head{x:D}(h:HeadP x):∃ n:Int,rp_nest3 [x]=some (.int .i64 n)∧n≤24:=by
 obtain⟨op,k,u0,u1,u2,u3,⟨g1,g2,_⟩,rfl⟩:=h
 by_cases o1:op=1
 ·subst o1; exact⟨1,e_nest0 ..,by decide⟩
 by_cases o2:op=2
 ·subst o2; exact⟨1,e_nest0 ..,by decide⟩
 by_cases o11:op=11
 ·subst o11; exact⟨2,e_nest4 ..,by decide⟩
 rw[zs_m g1 g2 o1 o2 o11]
 exact⟨2,e_nest2 ..,by decide⟩
noncomputable abbrev TCH:Tbl:=tb [(64,rp_word),(65,sp_hform),(54,rp_reserved),(60,rp_nest3)] []
set_option maxHeartbeats 8000000 in
set_option maxRecDepth 20000 in
theorem w_hchk(x:D)(h:HeadP x):@wW GG TCH F_tparse_Check.code (argF [hdT x]) [] ⟨retQ F_tparse_Check.res (.int .i64 0)⟩:=by
 have cf:=call_hform x h
 obtain⟨n,cn,hn⟩:=nest_head h
 have hn':¬ 24<n:=by omega
 obtain⟨op,k,u0,u1,u2,u3,_,rfl⟩:=h
 rw[hdT_ex]
 generalize zs op=els at*
 have ea:=e_worda
 have eb:=e_wordb
 have ra:=e_resa
 have rb:=e_resb
 unfold F_tparse_Check
 simp (disch:=first|omega|decide) only[push_cast,↓reduceIte,Nat.reduceEqDiff,Int.reduceLT,Int.reduceAdd,↓Int.reduceNatCast',ea,ra]
 refine W_while (fun i:Nat=>[(3,.bool false),(4,.bool false),(5,.mapv 1),(33,.slc 9 [.agg (clC op k u0 u1 u2 u3 els)] false),(34,.int .i64 1),(35,.int .i64 (i:Int))]) (fun i=>[⟨false,1,taC op k u0 u1 u2 u3 els,false⟩,⟨false,2,seenE i,false⟩]) (fun i=>i≤1) (fun i=>1 - i) 0 (by simp only[push_cast,↓reduceIte,Nat.reduceEqDiff,Nat.reduceLT,Nat.reduceLeDiff,Nat.reduceAdd,↓Int.reduceNatCast'] <;> rfl) (by omega) ?_
 intro i hi
 unfold F_tparse_Check_L1
 rcases(show i=0∨i=1 by omega)with rfl | rfl
 ·simp (disch:=first|omega|decide) only[push_cast,↓reduceIte,Nat.reduceEqDiff,Nat.reduceAdd,Int.reduceLT,↓Int.reduceNatCast',eb,cf,Int.cast_ofNat_Int]
  refine W_while (fun j:Nat=>[(3,.bool false),(4,.bool false),(5,.mapv 1),(7,.ptr 2 0),(33,.slc 9 [.agg (clC op k u0 u1 u2 u3 els)] false),(34,.int .i64 1),(35,.int .i64 0),(50,.slc 0 [] false),(51,.int .i64 0),(52,.int .i64 0)]) (fun _=>[⟨false,1,taC op k u0 u1 u2 u3 els,false⟩,⟨false,2,seenE 0,false⟩,⟨false,1,clC op k u0 u1 u2 u3 els,false⟩]) (fun j=>True) (fun j=>j) 0 (by simp only[push_cast,↓reduceIte,Nat.reduceEqDiff,Nat.reduceLT,Nat.reduceLeDiff,Nat.reduceAdd] <;> rfl) trivial ?_
  intro j _
  unfold F_tparse_Check_L0
  simp (disch:=first|omega|decide) only[push_cast,↓reduceIte,Nat.reduceEqDiff,Nat.reduceLT,Nat.reduceLeDiff,Nat.reduceAdd,Int.reduceLT,Int.reduceAdd,rb,cn,hn',List.length_nil,Int.cast_ofNat_Int,add_i]
  refine next_head (1:Nat) (by omega) (by omega) ?_
  simp only[push_cast,↓Int.reduceNatCast'] <;> rfl
 ·simp (disch:=first|omega|decide) only[push_cast,↓reduceIte,Nat.reduceEqDiff,Nat.reduceAdd,Int.reduceLT,↓Int.reduceNatCast']
theorem c_hchk:Contract Tryz.prog GG 35 sp_hchk:=
 contract_of (T:=TCH) tr_tparse_Check (tb_ok (all_cons cp_word (all_cons c_hform (all_cons cp_reserved (all_cons cp_nest3 all_nil)))) all_nil) (fun a _=>w_hchk a.1 a.2)
section
variable (op k u0 u1 u2 u3:Int)
abbrev zE:D:=exD 1 0 0 0 0 0 []
def zr(i:Nat):List D:=List.replicate i zE
theorem zr_0:zr 0=[]:=(rfl)
theorem zr_succ(i:Nat):zr i++[zE]=zr (i+1):=by unfold zr; rw[List.replicate_succ']
theorem zr_len(i:Nat):(zr i).length=i:=by simp[zr]
theorem fill_y1:fillD yZ [(0,1,.int .i64 1)]=some (yC 1 0 0 0 0 0 (.slc 0 [] true)):=(rfl)
theorem fill_cs(z:Nat)(t:Bool):fillD clZ [(0,1,.str [98]),(2,7,.agg (yC op k u0 u1 u2 u3 (.slc z [] t)))]=some (.str [98]::.slc 0 [] true::yC op k u0 u1 u2 u3 (.slc z [] t)):=(rfl)
theorem fill_cr(a b c d:Nat):fillD clZ [(0,1,.str [98]),(2,7,.agg (yC op k u0 u1 u2 u3 (.row a b c d)))]=some (.str [98]::.slc 0 [] true::yC op k u0 u1 u2 u3 (.row a b c d)):=(rfl)
theorem immL_cs(st:St)(z:Nat)(t:Bool):immL st (.str [98]::.slc 0 [] true::yC op k u0 u1 u2 u3 (.slc z [] t))=some (clC op k u0 u1 u2 u3 []):=(rfl)
theorem immL_yr3(o1 o2:Obj)(A:List D)(lent:Bool):immL [o1,o2,⟨true,7,A,lent⟩] (yC op k u0 u1 u2 u3 (.row 2 A.length 0 A.length))=some (exC op k u0 u1 u2 u3 A):=immL_yr op k u0 u1 u2 u3 _ 2 A lent rfl
theorem keys_ys(z:Nat)(l:List D)(t:Bool):keys (.agg (yC op k u0 u1 u2 u3 (.slc z l t)))=[]:=(rfl)
theorem agg_clC(els:List D):litD 9 [.agg (clC op k u0 u1 u2 u3 els)]=some (.slc 9 [.agg (clC op k u0 u1 u2 u3 els)] true):=(rfl)
theorem agg_clC'(els:List D):litD 9 [.agg (.str [98]::.slc 0 [] false::exC op k u0 u1 u2 u3 els)]=some (.slc 9 [.agg (clC op k u0 u1 u2 u3 els)] true):=(rfl)
theorem fill_ta(els:List D):fillD [.str [],.int .i64 0,.slc 0 [] true] [(0,1,.str [97]),(1,1,.int .i64 1),(2,1,.slc 9 [.agg (clC op k u0 u1 u2 u3 els)] true)]=some [.str [97],.int .i64 1,.slc 9 [.agg (clC op k u0 u1 u2 u3 els)] true]:=(rfl)
theorem immL_ta(st:St)(els:List D):immL st [.str [97],.int .i64 1,.slc 9 [.agg (clC op k u0 u1 u2 u3 els)] true]=some (taC op k u0 u1 u2 u3 els):=(rfl)
end
attribute [push_cast] fill_y1 fill_cs fill_cr immL_cs immL_yr3 keys_ys agg_clC agg_clC' fill_ta immL_ta
noncomputable def sp_tform(N:Nat):List D→Option D:=spOf (α:=D) (fun a=>[a]) (fun a=>ExP a∧formR N a=true) (fun _=>.bool true)
theorem call_tform(N:Nat)(x:D)(h:ExP x∧formR N x=true):sp_tform N [x]=some (.bool true):=
 spOf_enc (fun a b h=>by simp only[List.cons.injEq,and_true]at h; exact h) x h
noncomputable abbrev TTF(N:Nat):Tbl:=tb [(15,sp_tform N),(35,sp_hchk)] []
set_option maxHeartbeats 8000000 in
set_option maxRecDepth 20000 in
theorem w_tform(N:Nat)(x:D)(hx:ExP x)(hf:formR (N+1) x=true):@wW GG (TTF N) F_ttype_formed.code (argF [x]) [] ⟨retQ F_ttype_formed.res (.bool true)⟩:=by
 obtain⟨op,k,u0,u1,u2,u3,els,hl,hel⟩:=hx
 obtain⟨⟨g1,g2,g3,g4,g5,g6,g7,g8,g9⟩,ga⟩:=(formR_iff ..).1 hf
 have hz:zs op=zr els.length:=by
  unfold zs zr zX
  rw[← g3]; rfl
 have hl4:els.length≤4:=by
  have:opsF op≤4:=by unfold opsF; split <;> (try split) <;> (try split) <;> omega
  omega
 have hH:HeadP (exD op k u0 u1 u2 u3 (zr els.length)):=⟨op,k,u0,u1,u2,u3,⟨g1,g2,g4,g5,g6,g7,g8,g9⟩,by rw[hz]⟩
 have cc:=call_hchk _ hH
 rw[hdT_ex]at cc
 unfold taC at cc
 unfold F_ttype_formed
 simp (disch:=first|omega|decide) only[push_cast,↓reduceIte,Nat.reduceEqDiff]
 refine W_while (fun i:Nat=>[(3,.ptr 1 0),(14,.slc (nz 7 els) els false),(15,.int .i64 (els.length:Int)),(16,.int .i64 (i:Int))])
  (fun i=>⟨false,1,exC op k u0 u1 u2 u3 els,false⟩::⟨false,1,yC op k u0 u1 u2 u3 (bufD 0 2 (zr i)),false⟩::bufS 7 (zr i))
  (fun i=>i≤els.length) (fun i=>els.length - i) 0 (by rw[zr_0]; simp only[push_cast,↓reduceIte,Nat.reduceEqDiff,Nat.reduceLT,Nat.reduceLeDiff,Nat.reduceAdd,↓Int.reduceNatCast',bufD_nil,bufS_nil] <;> rfl) (Nat.zero_le _) ?_
 intro i hi
 have hAl:=zr_len i
 have hzs:=zr_succ i
 have hz0:=zr_0
 unfold F_ttype_formed_L0
 by_cases hlt:i<els.length
 ·have hki:((i:Int)<(els.length:Int))=True:=by simp; omega
  have hix:=fun st t=>idx_ex st els t i hlt
  have hm:=getD_memD hlt
  have hy:=hel _ hm
  have hp:=pld_exP hy
  have ct:=call_tform N (els.getD i default) ⟨hy,List.all_eq_true.1 ga _ hm⟩
  generalize els.getD i default=y at*
  obtain⟨p0,p1,p2,p3,p4,p5,p6,_,_⟩:=hy
  by_cases hn:i=0
  ·subst hn
   rw[zr_0]at*
   have hki:((0:Int)<(els.length:Int))=True:=by simp; omega
   have hix:∀ (st:St) (t:Bool),pidxS st 7 (.slc (nz 7 els) els t) (.int .i64 0)=some (.eptr (exD p0 p1 p2 p3 p4 p5 p6) 0):=hix
   simp (disch:=first|omega|decide) only[push_cast,↓reduceIte,Nat.reduceEqDiff,Nat.reduceLT,Nat.reduceLeDiff,Nat.reduceAdd,Int.reduceAdd,↓Int.reduceNatCast',bufD_nil,bufS_nil,hki,hix,hp,ct,papp_fex,add_i]
   refine next_head (1:Nat) (show 1≤els.length by omega) (show els.length - 1<els.length - 0 by omega) ?_
   rw[← hzs]
   have hn2:[]++[zE]≠[]:=by simp
   simp only[push_cast,↓Int.reduceNatCast'] <;> rfl
  ·have hne:zr i≠[]:=fun e=>by rw[e]at hAl; simp at hAl; omega
   have hn2:zr i++[zE]≠[]:=by simp
   generalize zr i=A at*
   have ap:=fun st lent t=>apR_ex st A zE lent t (by omega)
   simp (disch:=first|omega|decide) only[push_cast,↓reduceIte,Nat.reduceEqDiff,Nat.reduceLT,Nat.reduceLeDiff,Nat.reduceAdd,bufD_ne _ _ _ hne,bufS_ne _ _ hne,hki,hix,hp,ct,ap,add_i]
   refine next_head (i+1) (show i+1≤els.length by omega) (show els.length - (i+1)<els.length - i by omega) ?_
   rw[← hzs]
   simp only[push_cast,bufD_ne _ _ _ hn2,bufS_ne _ _ hn2] <;> rfl
 ·obtain rfl:i=els.length:=by omega
  by_cases hn:els.length=0
  ·rw[hn,zr_0]at cc
   simp (disch:=first|omega|decide) only[push_cast,↓reduceIte,Nat.reduceEqDiff,Nat.reduceAdd,Int.reduceLT,hn,zr_0,bufD_nil,bufS_nil,cc,Int.cast_ofNat_Int] <;> rfl
  ·have hne:zr els.length≠[]:=fun e=>by rw[e]at hAl; simp at hAl; omega
   generalize zr els.length=A at*
   have hki:((els.length:Int)<(els.length:Int))=False:=by simp
   simp (disch:=first|omega|decide) only[push_cast,↓reduceIte,Nat.reduceEqDiff,Nat.reduceAdd,bufD_ne _ _ _ hne,bufS_ne _ _ hne,hki,cc] <;> rfl
theorem c_tform:∀ N,Contract Tryz.prog GG 15 (sp_tform N)
 |0=>fun w g ds vs d h=>by
  obtain⟨a,_,⟨_,h2⟩,_⟩:=spOf_inv h
  cases h2
 |N+1=>contract_of (T:=TTF N) tr_ttype_formed (tb_ok (all_cons (c_tform N) (all_cons c_hchk all_nil)) all_nil) (fun a h=>w_tform N a h.1 h.2)
theorem box_fz:boxD (.agg [.nilf])=some [.nilf]:=(rfl)
theorem fill_f1(f:Nat)(l:List D):fillD [.nilf] [(0,1,.clo f l)]=some [.clo f l]:=(rfl)
theorem st_f1(f:Nat)(l:List D):stO (some ⟨false,1,[.nilf],false⟩) 1 0 (.agg [.clo f l])=some ⟨false,1,[.clo f l],false⟩:=(rfl)
theorem ld_f1(d:D)(lent:Bool):ldO (some ⟨false,1,[d],lent⟩) 1 true 0=some (.agg [d]):=(rfl)
theorem raws_cell(fr:Frame)(st:St)(t n:Nat)(ag:Bool)(l:List PRes):raws ⟨fr,st⟩ (.cell t n ag::l)=(pload st n ag (fr t)).bind fun d=>(raws ⟨fr,st⟩ l).map (d::·):=by
 simp only[raws]
 cases pload st n ag (fr t) <;> cases raws ⟨fr,st⟩ l <;> rfl
attribute [push_cast] raws_cell box_fz fill_f1 st_f1 ld_f1
def s0_pow:List D→St→Option (D×St):=fun ds st=>match ds,st with
 |[.int .i64 n],[]=>some (.agg [.clo 66 [.ptr 0 0]],[⟨false,1,[.int .i64 n],false⟩,⟨false,1,[.clo 66 [.ptr 0 0]],false⟩])
 |_,_=>none
theorem c0_pow:IContract Tryz.prog GG 39 s0_pow:=by
 refine icontract_keep' (T:=tb [] []) tr_ttype_power (tb_ok all_nil all_nil) ?_
 intro ds st r h
 unfold s0_pow at h
 split at h
 case h_2=>cases h
 rename_i n
 simp only[Option.some.injEq]at h
 subst h
 unfold F_ttype_power
 simp (disch:=first|omega|decide) only[push_cast,↓reduceIte,Nat.reduceEqDiff]
def sq_pow:List D→List (Option (Bool×Nat×List D))→Option D:=fun ds _=>match ds with
 |[.int .i64 n]=>some (.agg [.clo 66 [.eptr (.int .i64 n) 0]])
 |_=>none
theorem call_qpow(n:Int)(st:St):reads1 sq_pow [.int .i64 n] st=some (.agg [.clo 66 [.eptr (.int .i64 n) 0]]):=(rfl)
theorem ci_qpow:IContract Tryz.prog GG 39 (fun ds st=>(reads1 sq_pow ds st).map (·,st)):=by
 refine⟨c0_pow.1,?_⟩
 intro base w g st st' ds vs d hsp hS hG hl hrep
 obtain⟨n,rfl,rfl,rfl⟩:∃ n:Int,ds=[.int .i64 n]∧d=.agg [.clo 66 [.eptr (.int .i64 n) 0]]∧st'=st:=by
  simp only[Option.map_eq_some_iff,Prod.mk.injEq]at hsp
  obtain⟨r,h1,rfl,rfl⟩:=hsp
  unfold reads1 at h1
  split at h1
  case isFalse=>cases h1
  unfold sq_pow at h1
  split at h1
  ·simp only[Option.some.injEq]at h1
   exact⟨_,rfl,h1.symm,rfl⟩
  ·cases h1
 have hS0:SR w.heap.size w g []:=⟨fun k o h=>by simp at h,fun k o h=>by simp at h,fun k k' o o' h=>by simp at h,hS.im,fun k o x h=>by simp at h,Nat.le_refl _⟩
 have hrep0:∀ (i:Nat) d v,[D.int .i64 n][i]?=some d→vs[i]?=some v→RepV w g [] d v:=by
  intro i d v hd hv
  have h0:=hrep i d v hd hv
  cases i with
  |zero=>
   simp only[List.getElem?_cons_zero,Option.some.injEq]at hd
   subst hd
   cases h0
   exact .int .i64 n
  |succ i=>simp at hd
 refine(c0_pow.2 w.heap.size w g [] _ _ vs _ rfl hS0 hG hl hrep0).mono ?_
 rintro e w' ⟨v,g',rfl,hgo,hv⟩
 have h6:=hgo.below
 have hbes:Beside w w':=⟨h6.os,h6.tape,h6.output,h6.size⟩
 obtain⟨C,e,q1,q2,_,_,q3,q4⟩:=hgo.sr.blk 0 ⟨false,1,[.int .i64 n],false⟩ rfl rfl
 obtain⟨_,v1,q5,q6⟩:=q4 0 0 (.int .i64 n) rfl
 have hcell:w'.cell? ⟨g'.β 0,0,none⟩=some v1:=by
  have q5:C[0]?=some v1:=q5
  simp only[World.cell?,q1]
  exact q5
 cases q6
 have hf:∃ f:Value,v=.agg #[f]∧RepV w' g' [⟨false,1,[.int .i64 n],false⟩,⟨false,1,[.clo 66 [.ptr 0 0]],false⟩] (.clo 66 [.ptr 0 0]) f:=by
  cases hv with
  |agg _ us h1 h2=>
   match us,h1 with
   |[f],_=>exact⟨f,rfl,h2 0 _ f rfl rfl⟩
 obtain⟨f,rfl,hf⟩:=hf
 have hu:f=.func (fnOf 66) (firstOf 66 [.pointer (some ⟨g'.β 0,0,none⟩)]) (capsOf 66 [.pointer (some ⟨g'.β 0,0,none⟩)]):=by
  cases hf with
  |clo _ _ us h1 h2=>
   match us,h1 with
   |[u],_=>
    have h3:=h2 0 _ u rfl rfl
    cases h3
    rfl
 subst hu
 refine⟨_,{g with Im:=fun b o=>g'.Im b o∨(b=g'.β 0∧o=0)},rfl,?_,?_⟩
 ·refine hS.more hbes h6.block (fun b o h=>.inl (hgo.im.im b o h).1) (fun b o h=>?_) (fun b o h=>?_)
  ·rcases h with h | ⟨rfl,_⟩
   ·exact hgo.new b o h
   ·exact .inr q2
  ·rcases h with h | ⟨rfl,rfl⟩
   ·exact hgo.sr.im b o h
   ·rw[hcell]; rfl
 ·refine .agg _ [_] rfl fun i d v hd hv=>?_
  cases i with
  |succ i=>simp at hd
  |zero=>
   simp only[List.getElem?_cons_zero,Option.some.injEq]at hd hv
   subst hd; subst hv
   refine .clo _ _ [_] rfl fun i d v hd hv=>?_
   cases i with
   |succ i=>simp at hd
   |zero=>
    simp only[List.getElem?_cons_zero,Option.some.injEq]at hd hv
    subst hd; subst hv
    refine .eptr (.int .i64 n) 0 (g'.β 0) 0 (fun _=>.int .i64 n) (fun j d hd=>?_) (fun j d hd=>?_) (fun j d hd=>?_)
    ·cases j with
     |zero=>simp only[D.cells,List.getElem?_cons_zero,Option.some.injEq]at hd; subst hd; rfl
     |succ j=>simp[D.cells]at hd
    ·cases j with
     |zero=>exact⟨.inr ⟨rfl,rfl⟩,hcell⟩
     |succ j=>simp[D.cells]at hd
    ·cases j with
     |zero=>simp only[D.cells,List.getElem?_cons_zero,Option.some.injEq]at hd; subst hd; exact .int .i64 n
     |succ j=>simp[D.cells]at hd
def eqR:D:=.clo 37 []
def chR:D:=.clo 38 []
def pwR(n:Int):D:=.clo 66 [.eptr (.int .i64 n) 0]
def rulO:List (Int×D):=[(3,eqR),(4,eqR),(6,eqR),(7,eqR),(5,pwR 1),(8,pwR (-1)),(9,pwR (-1)),(10,pwR (-1)),(11,chR)]
def rul(i:Nat):List D:=(rulO.take i).foldl (fun l p=>insE 2 p.1 (.agg [.int .i64 p.1,p.2]) l) []
def rulM:Obj:=⟨false,2000002,rul 9,false⟩
theorem mr_0:muO (some ⟨false,2000002,[],false⟩) 2000002 [0] (.int .i64 3) (.agg [.clo 37 []])=some ⟨false,2000002,rul 1,false⟩:=by kernel_rfl
theorem mr_1:muO (some ⟨false,2000002,rul 1,false⟩) 2000002 [0] (.int .i64 4) (.agg [.clo 37 []])=some ⟨false,2000002,rul 2,false⟩:=by kernel_rfl
theorem mr_2:muO (some ⟨false,2000002,rul 2,false⟩) 2000002 [0] (.int .i64 6) (.agg [.clo 37 []])=some ⟨false,2000002,rul 3,false⟩:=by kernel_rfl
theorem mr_3:muO (some ⟨false,2000002,rul 3,false⟩) 2000002 [0] (.int .i64 7) (.agg [.clo 37 []])=some ⟨false,2000002,rul 4,false⟩:=by kernel_rfl
theorem mr_4:muO (some ⟨false,2000002,rul 4,false⟩) 2000002 [0] (.int .i64 5) (.agg [.clo 66 [.eptr (.int .i64 1) 0]])=some ⟨false,2000002,rul 5,false⟩:=by kernel_rfl
theorem mr_5:muO (some ⟨false,2000002,rul 5,false⟩) 2000002 [0] (.int .i64 8) (.agg [.clo 66 [.eptr (.int .i64 (-1)) 0]])=some ⟨false,2000002,rul 6,false⟩:=by kernel_rfl
theorem mr_6:muO (some ⟨false,2000002,rul 6,false⟩) 2000002 [0] (.int .i64 9) (.agg [.clo 66 [.eptr (.int .i64 (-1)) 0]])=some ⟨false,2000002,rul 7,false⟩:=by kernel_rfl
theorem mr_7:muO (some ⟨false,2000002,rul 7,false⟩) 2000002 [0] (.int .i64 10) (.agg [.clo 66 [.eptr (.int .i64 (-1)) 0]])=some ⟨false,2000002,rul 8,false⟩:=by kernel_rfl
theorem mr_8:muO (some ⟨false,2000002,rul 8,false⟩) 2000002 [0] (.int .i64 11) (.agg [.clo 38 []])=some ⟨false,2000002,rul 9,false⟩:=by kernel_rfl
theorem mkmap_r:mkmapD 2000002=some ⟨false,2000002,[],false⟩:=(rfl)
theorem foot_rcall(ρ:PA→D)(st:St)(f:Nat)(l:List PA):POp.foot ρ st (.rcall f l)=some ⟨(l.map ρ).flatMap hk,[],none⟩:=(rfl)
attribute [push_cast] foot_rcall mr_0 mr_1 mr_2 mr_3 mr_4 mr_5 mr_6 mr_7 mr_8
def mk_rules:List D→Option ((Nat→D)×(Nat→List Obj)):=fun ds=>match ds with
 |[]=>some (fun n=>.mapv (n+2),fun _=>[⟨false,1,[eqR],false⟩,⟨false,1,[chR],false⟩,rulM])
 |_=>none
theorem call_mrul:mk_rules []=some (fun n=>.mapv (n+2),fun _=>[⟨false,1,[eqR],false⟩,⟨false,1,[chR],false⟩,rulM]):=(rfl)
theorem sp0(st l:St)(o x:Obj):(st++o::l).set st.length x=st++x::l:=by
 rw[List.set_append_right _ _ (by omega)]; simp
set_option maxHeartbeats 4000000 in
set_option maxRecDepth 20000 in
theorem cm_rules:IContract Tryz.prog GG 17 (fun ds st=>(mk_rules ds).map fun r=>(r.1 st.length,st++r.2 st.length)):=by
 refine icontract_keep' (T:=tbq [] [] [(39,sq_pow)]) tr_ttype_rules (tbq_ok all_nil all_nil (all_cons ci_qpow all_nil)) ?_
 intro ds st r hr
 simp only[Option.map_eq_some_iff]at hr
 obtain⟨r0,h0,rfl⟩:=hr
 obtain rfl:ds=[]:=by
  unfold mk_rules at h0
  split at h0
  ·rfl
  ·cases h0
 rw[call_mrul]at h0
 simp only[Option.some.injEq]at h0
 subst h0
 have q1:=fun st=>call_qpow 1 st
 have q2:=fun st=>call_qpow (-1) st
 have l1:(st.length<st.length+2)=True:=by simp
 have l2:(st.length+1<st.length+2)=True:=by simp
 have e1:(st.length == st.length+2)=false:=by simp
 have e2:(st.length+1 == st.length+2)=false:=by simp
 have e3:(st.length+2 == st.length)=false:=by simp
 have e4:(st.length+2 == st.length+1)=false:=by simp
 unfold F_ttype_rules rulM eqR chR
 simp (disch:=first|omega|decide) only[push_cast,↓wF_free,↓reduceIte,Nat.reduceEqDiff,Nat.reduceAdd,Int.reduceNeg,mkmap_r,q1,q2,l1,l2,e3,e4,List.append_assoc,List.cons_append,List.nil_append,List.length_append,List.length_cons,List.length_nil,ap0,ap1,ap2,sp0,sp1,sp2]
theorem at_app{st ob:St}{k:Nat}{o:PI.Obj}(h:st[k]?=some o):(st++ob)[k]?=some o:=by
 rw[List.getElem?_append_left (List.getElem?_eq_some_iff.1 h).1]; exact h
theorem at_napp{st ob:St}{k:Nat}{o o':PI.Obj}(h:st[k]?=some o)(h':(st++ob)[k]?=some o'):st[k]?=some o':=by
 rw[at_app h]at h'; rw[h]; exact h'
theorem RepV.narrow{w0 w:World}{g0 g:Ghost}{st ob:St}{d:D}{v0:Value}(h0:RepV w0 g0 st d v0):∀ {v:Value},RepV w g (st++ob) d v→RepV w g st d v:=by
 induction h0 with
 |int k n=>intro v h; cases h; exact .int k n
 |bool b=>intro v h; cases h; exact .bool b
 |str s=>intro v h; cases h; exact .str s
 |nilp=>intro v h; cases h; exact .nilp
 |nilm=>intro v h; cases h; exact .nilm
 |nilf=>intro v h; cases h; exact .nilf
 |junk v=>intro v h; exact .junk v
 |gmap t b ents clock h1 h2 h3=>
  intro v h
  cases h with
  |gmap _ b ents clock q1 q2 q3=>exact .gmap t b ents clock q1 q2 q3
 |slcE sz t a cap h1=>
  intro v h
  cases h with
  |slcE _ _ a cap q=>exact .slcE sz t a cap q
  |slc _ _ b off cap _ val q1=>exact absurd rfl q1
 |slc els t b off cap sz val h1 h2 h3 h4 h5 h6 h7 h8 ih=>
  intro v h
  cases h with
  |slcE _ _ a cap q=>exact absurd rfl h1
  |slc _ _ b off cap _ val q1 q2 q3 q4 q5 q6 q7 q8=>exact .slc els t b off cap sz val q1 q2 q3 q4 q5 q6 q7 (fun i j d hd=>ih i j d hd (q8 i j d hd))
 |row key tot off len o v h1 h2 h3 h4 h5=>
  intro v h
  cases h with
  |row _ _ _ _ o' _ q1 q2 q3 q4 q5=>exact .row key tot off len o' v q1 (at_napp h2 q2) q3 q4 q5
 |bsl key off n sz ag o cap h1 h2 h3 h4=>
  intro v h
  cases h with
  |bsl _ _ _ _ _ o' cap q1 q2 q3 q4=>exact .bsl key off n sz ag o' cap (at_napp h1 q1) q2 q3 q4
 |mapv key o h1 h2=>
  intro v h
  cases h with
  |mapv _ o' q1 q2=>exact .mapv key o' (at_napp h1 q1) q2
 |ptr key off o h1 h2 h3=>
  intro v h
  cases h with
  |ptr _ _ o' q1 q2 q3=>exact .ptr key off o' (at_napp h1 q1) q2 q3
 |rptr key tot i off o v h1 h2 h3 h4 h5=>
  intro v h
  cases h with
  |rptr _ _ _ _ o' _ q1 q2 q3 q4 q5=>exact .rptr key tot i off o' v q1 (at_napp h2 q2) q3 q4 q5
 |eptr el off b o val h1 h2 h3 ih=>
  intro v h
  cases h with
  |eptr _ _ b o val q1 q2 q3=>exact .eptr el off b o val q1 q2 (fun j d hd=>ih j d hd (q3 j d hd))
 |agg ds vs h1 h2 ih=>
  intro v h
  cases h with
  |agg _ us q1 q2=>
   refine .agg ds us q1 fun i d u hd hu=>?_
   have hi:i<vs.length:=by have:=(List.getElem?_eq_some_iff.1 hd).1; omega
   exact ih i d vs[i] hd (List.getElem?_eq_getElem hi) (q2 i d u hd hu)
 |tup ds vs h1 h2 ih=>
  intro v h
  cases h with
  |tup _ us q1 q2=>
   refine .tup ds us q1 fun i d u hd hu=>?_
   have hi:i<vs.length:=by have:=(List.getElem?_eq_some_iff.1 hd).1; omega
   exact ih i d vs[i] hd (List.getElem?_eq_getElem hi) (q2 i d u hd hu)
 |clo f ds vs h1 h2 ih=>
  intro v h
  cases h with
  |clo _ _ us q1 q2=>
   refine .clo f ds us q1 fun i d u hd hu=>?_
   have hi:i<vs.length:=by have:=(List.getElem?_eq_some_iff.1 hd).1; omega
   exact ih i d vs[i] hd (List.getElem?_eq_getElem hi) (q2 i d u hd hu)
theorem SR.narrow{base:Nat}{w0 w:World}{g0 g:Ghost}{st ob:St}(h0:SR base w0 g0 st)(h:SR base w g (st++ob)):SR base w g st:=by
 refine⟨fun k o hk hm=>?_,fun k o hk hm=>?_,fun k k' o o' h1 h2=>h.inj k k' o o' (at_app h1) (at_app h2),h.im,fun k o x hk=>h.dis k o x (at_app hk),h.size⟩
 ·have h1:=h0.mp k o hk hm
  have h2:=h.mp k o (at_app hk) hm
  unfold MapAt at h1 h2 ⊢
  split at h2
  ·rename_i hs; rw[if_pos hs]; exact h2
  ·rename_i hs
   rw[if_neg hs]at h1
   rw[if_neg hs]
   obtain⟨es0,c0,_,_,⟨p0,hp0,hl0,hr0⟩,_⟩:=h1
   obtain⟨es,c,q1,q2,⟨p,hp,q3,q4⟩,q5⟩:=h2
   refine⟨es,c,q1,q2,⟨p,hp,q3,fun i e el he hel=>?_⟩,q5⟩
   have hmem:el∈p0:=hp0.mem_iff.2 (hp.mem_iff.1 (List.mem_of_getElem? hel))
   obtain⟨j,hj⟩:=List.getElem?_of_mem hmem
   have hjl:j<es0.size:=by have:=(List.getElem?_eq_some_iff.1 hj).1; omega
   obtain⟨r1,r2⟩:=hr0 j es0[j] el (Array.getElem?_eq_getElem hjl) hj
   exact⟨r1.narrow (q4 i e el he hel).1,r2.narrow (q4 i e el he hel).2⟩
 ·obtain⟨C0,e0,_,_,_,_,_,hr0⟩:=h0.blk k o hk hm
  obtain⟨C,e,q1,q2,q3,q4,q5,q6⟩:=h.blk k o (at_app hk) hm
  refine⟨C,e,q1,q2,q3,q4,q5,fun i j d hd=>?_⟩
  obtain⟨_,v0,_,r0⟩:=hr0 i j d hd
  obtain⟨r1,v,r2,r3⟩:=q6 i j d hd
  exact⟨r1,v,r2,r0.narrow r3⟩
theorem Go1.narrow{base:Nat}{w0 w:World}{g0 g:Ghost}{st ob:St}(h0:SR base w0 g0 st)(h:Go1 base w0 g0 st w g (st++ob)):Go1 base w0 g0 st w g st:=by
 refine⟨h0.narrow h.sr,fun k o hk=>?_,h.im,h.new,h.below,h.kp⟩
 obtain⟨o',h1,h2,h3,h4,h5,h6⟩:=h.evo k o hk
 exact⟨o',at_napp hk h1,h2,h3,h4,h5,h6⟩
theorem icontract_cl{P:Program}{G:Glob}{T:Tbl}{il:List Nat}{f:Nat}{hints:List (List Nat)}{F:PF}(ht:trF P il f hints=some F)(hT:TblOK P G T){sp:List D→St→Option D}
  (hn:∀ ds st d,sp ds st=some d→d.noRef=true)
  (h:∀ ds st d,sp ds st=some d→@wW G T F.code (argF ds) st ⟨@retI F.res ⟨fun d' st'=>d'=d∧∃ ob,st'=st++ob⟩⟩) (hy:T.y=fun _ _ _=>none:=by rfl):IContract P G f (fun ds st=>(sp ds st).map (·,st)):=by
 refine⟨(fun_simI hT hy ht 0).1,?_⟩
 intro base w g st st' ds vs d hsp hS hG hl hrep
 simp only[Option.map_eq_some_iff,Prod.mk.injEq]at hsp
 obtain⟨d',hd,rfl,rfl⟩:=hsp
 obtain⟨k,d1,st1,h1,rfl,ob,rfl⟩:=runI_of_W (W_of (h ds st _ hd))
 refine((fun_simI hT hy ht k).2 base w g st _ ds vs _ (h1 k (Nat.le_refl _)) hS hG hl hrep).mono ?_
 rintro e w' ⟨v,g',rfl,q1,q2⟩
 exact⟨v,g',rfl,Go1.narrow hS q1,noRef_rep q2 (hn ds st _ hd)⟩
noncomputable def skOf{α:Type}(enc:α→List D)(pre:α→St→Prop)(f:α→D):List D→St→Option D:=
 fun ds st=>@dite _ (∃ a,enc a=ds∧pre a st) (Classical.propDecidable _) (fun h=>some (f h.choose)) (fun _=>none)
theorem skOf_inv{α:Type}{enc:α→List D}{pre:α→St→Prop}{f:α→D}{ds:List D}{st:St}{d:D}(h:skOf enc pre f ds st=some d):∃ a,enc a=ds∧pre a st∧f a=d:=by
 unfold skOf at h
 split at h
 ·rename_i hx
  simp only[Option.some.injEq]at h
  exact⟨hx.choose,hx.choose_spec.1,hx.choose_spec.2,h⟩
 ·cases h
theorem skOf_enc{α:Type}{enc:α→List D}{pre:α→St→Prop}{f:α→D}{st:St}(hinj:∀ a b,enc a=enc b→pre a st→pre b st→f a=f b)(a:α)(hp:pre a st):skOf enc pre f (enc a) st=some (f a):=by
 have hx:∃ b,enc b=enc a∧pre b st:=⟨a,rfl,hp⟩
 unfold skOf
 rw[dif_pos hx]
 rw[hinj _ _ hx.choose_spec.1 hx.choose_spec.2 hp]
noncomputable def keepS(sp:List D→St→Option D):List D→St→Option (D×St):=fun ds st=>(sp ds st).map (·,st)
theorem keepS_of{sp:List D→St→Option D}{ds:List D}{st:St}{d:D}(h:sp ds st=some d):keepS sp ds st=some (d,st):=by
 unfold keepS; rw[h]; rfl
def dD(u:List Int):D:=.agg (u.map nI)
theorem dD_4(a b c d:Int):dD [a,b,c,d]=.agg (d4 a b c d):=(rfl)
theorem dD_inj{a b:List Int}(h:dD a=dD b):a=b:=by
 unfold dD at h
 simpa only[D.agg.injEq,ints_iff]using h
def rowD(l:List (List Int)):PI.Obj:=⟨true,4,l.map dD,false⟩
theorem rowD_inj{a b:List (List Int)}(h:rowD a=rowD b):a=b:=by
 unfold rowD at h
 simp only[Obj.mk.injEq,true_and,and_true]at h
 exact map_inj (fun _ _=>dD_inj) h
theorem row_get{st:St}{k:Nat}{l l':List (List Int)}(h:st[k]?=some (rowD l))(h':st[k]?=some (rowD l')):l=l':=by
 rw[h]at h'
 exact rowD_inj (Option.some.inj h')
section
variable (x y z w:D) (lent:Bool) (k:Nat) (a b c d:Int) (o:Nat)
theorem ix2_0:ixR (some ⟨true,4,[x,y],lent⟩) 4 k 2 0 2 0=some (.rptr k 2 0 0):=(rfl)
theorem ix2_1:ixR (some ⟨true,4,[x,y],lent⟩) 4 k 2 0 2 1=some (.rptr k 2 1 0):=(rfl)
theorem ix4_0:ixR (some ⟨true,4,[x,y,z,w],lent⟩) 4 k 4 0 4 0=some (.rptr k 4 0 0):=(rfl)
theorem ix4_1:ixR (some ⟨true,4,[x,y,z,w],lent⟩) 4 k 4 0 4 1=some (.rptr k 4 1 0):=(rfl)
theorem ix4_2:ixR (some ⟨true,4,[x,y,z,w],lent⟩) 4 k 4 0 4 2=some (.rptr k 4 2 0):=(rfl)
theorem ix4_3:ixR (some ⟨true,4,[x,y,z,w],lent⟩) 4 k 4 0 4 3=some (.rptr k 4 3 0):=(rfl)
theorem lr2_0:ldR (some ⟨true,4,[.agg (d4 a b c d),y],lent⟩) 4 true 2 0 0=some (.agg (d4 a b c d)):=(rfl)
theorem lr2_1:ldR (some ⟨true,4,[x,.agg (d4 a b c d)],lent⟩) 4 true 2 1 0=some (.agg (d4 a b c d)):=(rfl)
theorem lr4_0:ldR (some ⟨true,4,[.agg (d4 a b c d),y,z,w],lent⟩) 4 true 4 0 0=some (.agg (d4 a b c d)):=(rfl)
theorem lr4_1:ldR (some ⟨true,4,[x,.agg (d4 a b c d),z,w],lent⟩) 4 true 4 1 0=some (.agg (d4 a b c d)):=(rfl)
theorem lr4_2:ldR (some ⟨true,4,[x,y,.agg (d4 a b c d),w],lent⟩) 4 true 4 2 0=some (.agg (d4 a b c d)):=(rfl)
theorem lr4_3:ldR (some ⟨true,4,[x,y,z,.agg (d4 a b c d)],lent⟩) 4 true 4 3 0=some (.agg (d4 a b c d)):=(rfl)
end
attribute [push_cast] ix2_0 ix2_1 ix4_0 ix4_1 ix4_2 ix4_3 lr2_0 lr2_1 lr4_0 lr4_1 lr4_2 lr4_3
noncomputable def sk_eq:List D→St→Option D:=skOf (α:=Nat×List Int×List Int) (fun a=>[.row a.1 2 0 2]) (fun a st=>dimB a.2.1∧dimB a.2.2∧st[a.1]?=some (rowD [a.2.1,a.2.2])) (fun a=>.tup [dD a.2.1,.bool (decide (a.2.1=a.2.2))])
theorem call_req(k:Nat)(a b:List Int)(st:St)(h:dimB a∧dimB b∧st[k]?=some (rowD [a,b])):keepS sk_eq [.row k 2 0 2] st=some (.tup [dD a,.bool (decide (a=b))],st):=
 keepS_of (skOf_enc (fun⟨k,a,b⟩ ⟨k',a',b'⟩ h p p'=>by
  simp only[List.cons.injEq,D.row.injEq,and_true]at h
  subst h
  have:=row_get p.2.2 p'.2.2
  simp only[List.cons.injEq,and_true]at this
  obtain⟨rfl,rfl⟩:=this
  rfl) (k,a,b) h)
set_option maxHeartbeats 4000000 in
set_option maxRecDepth 20000 in
theorem ci_req:IContract Tryz.prog GG 37 (keepS sk_eq):=by
 refine icontract_cl (T:=tb [] []) tr_ttype_rules_1 (tb_ok all_nil all_nil) (fun ds st d h=>?_) (fun ds st d h=>?_)
 ·obtain⟨⟨k,a,b⟩,rfl,⟨ha,hb,_⟩,rfl⟩:=skOf_inv h
  obtain⟨a0,a1,a2,a3,rfl,_⟩:=dimB_of ha
  rfl
 ·obtain⟨⟨k,a,b⟩,rfl,⟨ha,hb,hk⟩,rfl⟩:=skOf_inv h
  dsimp only at ha hb hk ⊢
  obtain⟨a0,a1,a2,a3,rfl,_⟩:=dimB_of ha
  obtain⟨b0,b1,b2,b3,rfl,_⟩:=dimB_of hb
  have hlt:k<st.length:=(List.getElem?_eq_some_iff.1 hk).1
  have hg:∀ l:St,(st++l)[k]?=some ⟨true,4,[.agg (d4 a0 a1 a2 a3),.agg (d4 b0 b1 b2 b3)],false⟩:=fun l=>at_app hk
  have e1:(k == st.length)=false:=by simp; omega
  have e2:(st.length == k)=false:=by simp; omega
  unfold F_ttype_rules_1
  simp (disch:=first|omega|decide) only[push_cast,↓wF_free,↓reduceIte,Nat.reduceEqDiff,hg,e2,ap0,sp0,dD_4,aeq_d4]
  exact⟨by simp,_,rfl⟩
noncomputable def sk_ch:List D→St→Option D:=skOf (α:=Nat×List Int×List Int×List Int×List Int) (fun a=>[.row a.1 4 0 4]) (fun a st=>dimB a.2.1∧dimB a.2.2.1∧dimB a.2.2.2.1∧dimB a.2.2.2.2∧st[a.1]?=some (rowD [a.2.1,a.2.2.1,a.2.2.2.1,a.2.2.2.2])) (fun a=>.tup [dD a.2.2.2.1,.bool (decide (a.2.1=a.2.2.1∧a.2.2.2.1=a.2.2.2.2))])
theorem call_rch(k:Nat)(a b c d:List Int)(st:St)(h:dimB a∧dimB b∧dimB c∧dimB d∧st[k]?=some (rowD [a,b,c,d])):keepS sk_ch [.row k 4 0 4] st=some (.tup [dD c,.bool (decide (a=b∧c=d))],st):=
 keepS_of (skOf_enc (fun⟨k,a,b,c,d⟩ ⟨k',a',b',c',d'⟩ h p p'=>by
  simp only[List.cons.injEq,D.row.injEq,and_true]at h
  subst h
  have:=row_get p.2.2.2.2 p'.2.2.2.2
  simp only[List.cons.injEq,and_true]at this
  obtain⟨rfl,rfl,rfl,rfl⟩:=this
  rfl) (k,a,b,c,d) h)
set_option maxHeartbeats 4000000 in
set_option maxRecDepth 20000 in
theorem ci_rch:IContract Tryz.prog GG 38 (keepS sk_ch):=by
 refine icontract_cl (T:=tb [] []) tr_ttype_rules_2 (tb_ok all_nil all_nil) (fun ds st d h=>?_) (fun ds st d h=>?_)
 ·obtain⟨⟨k,a,b,c,d⟩,rfl,⟨_,_,hc,_⟩,rfl⟩:=skOf_inv h
  obtain⟨a0,a1,a2,a3,rfl,_⟩:=dimB_of hc
  rfl
 ·obtain⟨⟨k,a,b,c,e⟩,rfl,⟨ha,hb,hc,he,hk⟩,rfl⟩:=skOf_inv h
  dsimp only at ha hb hc he hk ⊢
  obtain⟨a0,a1,a2,a3,rfl,_⟩:=dimB_of ha
  obtain⟨b0,b1,b2,b3,rfl,_⟩:=dimB_of hb
  obtain⟨c0,c1,c2,c3,rfl,_⟩:=dimB_of hc
  obtain⟨f0,f1,f2,f3,rfl,_⟩:=dimB_of he
  have hlt:k<st.length:=(List.getElem?_eq_some_iff.1 hk).1
  have hg:∀ l:St,(st++l)[k]?=some ⟨true,4,[.agg (d4 a0 a1 a2 a3),.agg (d4 b0 b1 b2 b3),.agg (d4 c0 c1 c2 c3),.agg (d4 f0 f1 f2 f3)],false⟩:=fun l=>at_app hk
  have e1:(k == st.length)=false:=by simp; omega
  have e2:(st.length == k)=false:=by simp; omega
  by_cases h1:a0=b0∧a1=b1∧a2=b2∧a3=b3
  ·obtain⟨rfl,rfl,rfl,rfl⟩:=h1
   have hd:decide ([a0,a1,a2,a3]=[a0,a1,a2,a3]∧[c0,c1,c2,c3]=[f0,f1,f2,f3])=decide (c0=f0∧c1=f1∧c2=f2∧c3=f3):=by simp
   rw[hd]
   unfold F_ttype_rules_2
   simp (disch:=first|omega|decide) only[push_cast,↓wF_free,↓reduceIte,Nat.reduceEqDiff,hg,e2,ap0,sp0,dD_4,aeq_d4]
   exact⟨_,rfl⟩
  ·have hd:decide ([a0,a1,a2,a3]=[b0,b1,b2,b3]∧[c0,c1,c2,c3]=[f0,f1,f2,f3])=false:=by simp; intro e; exact fun e1 e2 e3=>absurd ⟨e,e1,e2,e3⟩ h1
   rw[hd]
   unfold F_ttype_rules_2
   simp (disch:=first|omega|decide) only[push_cast,↓wF_free,↓reduceIte,Nat.reduceEqDiff,hg,ap0,sp0,dD_4,aeq_d4,h1]
   exact⟨_,rfl⟩
section
variable (x y:D) (lent:Bool) (a b c d:Int)
theorem l1_00:ldR (some ⟨true,4,[.agg (d4 a b c d),y],lent⟩) 1 false 2 0 0=some (.int .i64 a):=(rfl)
theorem l1_01:ldR (some ⟨true,4,[.agg (d4 a b c d),y],lent⟩) 1 false 2 0 1=some (.int .i64 b):=(rfl)
theorem l1_02:ldR (some ⟨true,4,[.agg (d4 a b c d),y],lent⟩) 1 false 2 0 2=some (.int .i64 c):=(rfl)
theorem l1_03:ldR (some ⟨true,4,[.agg (d4 a b c d),y],lent⟩) 1 false 2 0 3=some (.int .i64 d):=(rfl)
theorem l1_10:ldR (some ⟨true,4,[x,.agg (d4 a b c d)],lent⟩) 1 false 2 1 0=some (.int .i64 a):=(rfl)
theorem l1_11:ldR (some ⟨true,4,[x,.agg (d4 a b c d)],lent⟩) 1 false 2 1 1=some (.int .i64 b):=(rfl)
theorem l1_12:ldR (some ⟨true,4,[x,.agg (d4 a b c d)],lent⟩) 1 false 2 1 2=some (.int .i64 c):=(rfl)
theorem l1_13:ldR (some ⟨true,4,[x,.agg (d4 a b c d)],lent⟩) 1 false 2 1 3=some (.int .i64 d):=(rfl)
theorem pld_e1(st:St)(n:Int):pload st 1 false (.eptr (.int .i64 n) 0)=some (.int .i64 n):=(rfl)
theorem idxA_rp{st:St}{k:Nat}(h:st[k]?=some ⟨true,4,[x,y],lent⟩)(i:Nat)(n:Int)(h0:0≤n)(h4:n<4):pidxA st 4 1 (.rptr k 2 i 0) (.int .i64 n)=some (.rptr k 2 i n.toNat):=by
 have hlv:live st k 2=true:=by unfold live; rw[h]; rfl
 simp only[pidxA,natOf,h0,if_true]
 rw[if_pos (by omega)]
 simp only[pfld,hlv,if_true,Nat.mul_one,Nat.zero_add]
end
attribute [push_cast] l1_00 l1_01 l1_02 l1_03 l1_10 l1_11 l1_12 l1_13 pld_e1
noncomputable def sk_pw:List D→St→Option D:=skOf (α:=Nat×Int×List Int×List Int) (fun a=>[.row a.1 2 0 2,.eptr (.int .i64 a.2.1) 0]) (fun a st=>dimB a.2.2.1∧dimB a.2.2.2∧(a.2.1=1∨a.2.1=-1)∧st[a.1]?=some (rowD [a.2.2.1,a.2.2.2])) (fun a=>.tup [oD (combU a.2.1 a.2.2.1 a.2.2.2),.bool (combU a.2.1 a.2.2.1 a.2.2.2).isSome])
theorem call_rpw(k:Nat)(s:Int)(a b:List Int)(st:St)(h:dimB a∧dimB b∧(s=1∨s=-1)∧st[k]?=some (rowD [a,b])):keepS sk_pw [.row k 2 0 2,.eptr (.int .i64 s) 0] st=some (.tup [oD (combU s a b),.bool (combU s a b).isSome],st):=
 keepS_of (skOf_enc (fun⟨k,s,a,b⟩ ⟨k',s',a',b'⟩ h p p'=>by
  simp only[List.cons.injEq,D.row.injEq,D.eptr.injEq,D.int.injEq,true_and,and_true]at h
  obtain⟨rfl,rfl⟩:=h
  have:=row_get p.2.2.2 p'.2.2.2
  simp only[List.cons.injEq,and_true]at this
  obtain⟨rfl,rfl⟩:=this
  rfl) (k,s,a,b) h)
theorem comb_ref(s:Int){a b:List Int}(ha:dimB a)(hb:dimB b):(D.tup [oD (combU s a b),.bool (combU s a b).isSome]).noRef=true:=by
 obtain⟨a0,a1,a2,a3,rfl,_⟩:=dimB_of ha
 obtain⟨b0,b1,b2,b3,rfl,_⟩:=dimB_of hb
 rcases comb_or s a0 a1 a2 a3 b0 b1 b2 b3 with h | ⟨e0,e1,e2,e3,h⟩ <;> rw[h] <;> rfl
set_option maxHeartbeats 16000000 in
set_option maxRecDepth 20000 in
theorem ci_rpw:IContract Tryz.prog GG 66 (keepS sk_pw):=by
 refine icontract_cl (T:=tb [] []) tr_ttype_power_1 (tb_ok all_nil all_nil) (fun ds st d h=>?_) (fun ds st d h=>?_)
 ·obtain⟨⟨k,s,a,b⟩,rfl,⟨ha,hb,_⟩,rfl⟩:=skOf_inv h
  exact comb_ref s ha hb
 ·obtain⟨⟨k,s,a,b⟩,rfl,⟨ha,hb,hs,hk⟩,rfl⟩:=skOf_inv h
  dsimp only at ha hb hs hk ⊢
  obtain⟨a0,a1,a2,a3,rfl,p0,p1,p2,p3⟩:=dimB_of ha
  obtain⟨b0,b1,b2,b3,rfl,q0,q1,q2,q3⟩:=dimB_of hb
  have hlt:k<st.length:=(List.getElem?_eq_some_iff.1 hk).1
  have hg:∀ l:St,(st++l)[k]?=some ⟨true,4,[.agg (d4 a0 a1 a2 a3),.agg (d4 b0 b1 b2 b3)],false⟩:=fun l=>at_app hk
  have hxA:=fun l=>idxA_rp (.agg (d4 a0 a1 a2 a3)) (.agg (d4 b0 b1 b2 b3)) false (hg l)
  have e1:(k == st.length)=false:=by simp; omega
  have e2:(st.length == k)=false:=by simp; omega
  rw[comb_4]
  have m0:pbin .mul (.int .i64 s) (.int .i64 b0)=some (.int .i64 (s*b0)):=mul_i (by rcases hs with rfl | rfl <;> omega) (by rcases hs with rfl | rfl <;> omega)
  have m1:pbin .mul (.int .i64 s) (.int .i64 b1)=some (.int .i64 (s*b1)):=mul_i (by rcases hs with rfl | rfl <;> omega) (by rcases hs with rfl | rfl <;> omega)
  have m2:pbin .mul (.int .i64 s) (.int .i64 b2)=some (.int .i64 (s*b2)):=mul_i (by rcases hs with rfl | rfl <;> omega) (by rcases hs with rfl | rfl <;> omega)
  have m3:pbin .mul (.int .i64 s) (.int .i64 b3)=some (.int .i64 (s*b3)):=mul_i (by rcases hs with rfl | rfl <;> omega) (by rcases hs with rfl | rfl <;> omega)
  have n0:pbin .add (.int .i64 a0) (.int .i64 (s*b0))=some (.int .i64 (a0+s*b0)):=add_i (by rcases hs with rfl | rfl <;> omega) (by rcases hs with rfl | rfl <;> omega)
  have n1:pbin .add (.int .i64 a1) (.int .i64 (s*b1))=some (.int .i64 (a1+s*b1)):=add_i (by rcases hs with rfl | rfl <;> omega) (by rcases hs with rfl | rfl <;> omega)
  have n2:pbin .add (.int .i64 a2) (.int .i64 (s*b2))=some (.int .i64 (a2+s*b2)):=add_i (by rcases hs with rfl | rfl <;> omega) (by rcases hs with rfl | rfl <;> omega)
  have n3:pbin .add (.int .i64 a3) (.int .i64 (s*b3))=some (.int .i64 (a3+s*b3)):=add_i (by rcases hs with rfl | rfl <;> omega) (by rcases hs with rfl | rfl <;> omega)
  generalize s*b0=f0 at*
  generalize s*b1=f1 at*
  generalize s*b2=f2 at*
  generalize s*b3=f3 at*
  generalize a0+f0=c0 at*
  generalize a1+f1=c1 at*
  generalize a2+f2=c2 at*
  generalize a3+f3=c3 at*
  generalize hr:(if(-3≤c0∧c0≤3)∧(-3≤c1∧c1≤3)∧(-3≤c2∧c2≤3)∧-3≤c3∧c3≤3 then some [c0,c1,c2,c3]else none)=r
  unfold F_ttype_power_1
  simp (disch:=first|omega|decide) only[push_cast]
  refine W_whileA (fun i:Nat=>[(0,.row k 2 0 2),(1,.eptr (.int .i64 s) 0),(3,.ptr st.length 0),(6,.int .i64 (i:Int))]) (fun i=>st++[⟨false,1,d4 (if 0<i then c0 else 0) (if 1<i then c1 else 0) (if 2<i then c2 else 0) (if 3<i then c3 else 0),false⟩])
   (fun i=>i≤4∧(0<i→-3≤c0∧c0≤3)∧(1<i→-3≤c1∧c1≤3)∧(2<i→-3≤c2∧c2≤3)∧(3<i→-3≤c3∧c3≤3)) (fun i=>4 - i) 0 (by simp only[push_cast,↓reduceIte,Nat.reduceEqDiff,Nat.reduceLT,↓Int.reduceNatCast'] <;> rfl) (by omega) ?_
  rintro i ⟨hi,h0,h1,h2,h3⟩
  unfold F_ttype_power_1_L0
  rcases(show i=0∨i=1∨i=2∨i=3∨i=4 by omega)with rfl | rfl | rfl | rfl | rfl
  ·by_cases x1:c0 < -3
   ·obtain rfl:r=none:=by rw[← hr]; exact if_neg (by omega)
    simp (disch:=first|omega|decide) only[push_cast,↓reduceIte,Nat.reduceEqDiff,Nat.reduceLT,Int.reduceLT,Int.reduceNeg,↓Int.reduceNatCast',hg,hxA,idxA_ptr,ap0,sp0,m0,n0,x1,oD_none,Option.isSome_none]
    exact⟨_,rfl⟩
   ·by_cases x2:3<c0
    ·obtain rfl:r=none:=by rw[← hr]; exact if_neg (by omega)
     simp (disch:=first|omega|decide) only[push_cast,↓reduceIte,Nat.reduceEqDiff,Nat.reduceLT,Int.reduceLT,Int.reduceNeg,↓Int.reduceNatCast',hg,hxA,idxA_ptr,ap0,sp0,m0,n0,x1,x2,oD_none,Option.isSome_none]
     exact⟨_,rfl⟩
    ·simp (disch:=first|omega|decide) only[push_cast,↓reduceIte,Nat.reduceEqDiff,Nat.reduceLT,Int.reduceLT,Int.reduceNeg,Int.reduceAdd,↓Int.reduceNatCast',hg,hxA,idxA_ptr,ap0,sp0,m0,n0,x1,x2,add_i]
     refine next_head (1:Nat) (by exact⟨by omega,by omega,by omega,by omega,by omega⟩) (by omega) ?_
     simp only[push_cast,↓reduceIte,Nat.reduceLT,↓Int.reduceNatCast'] <;> rfl
  ·by_cases x1:c1 < -3
   ·obtain rfl:r=none:=by rw[← hr]; exact if_neg (by omega)
    simp (disch:=first|omega|decide) only[push_cast,↓reduceIte,Nat.reduceEqDiff,Nat.reduceLT,Int.reduceLT,Int.reduceNeg,↓Int.reduceNatCast',hg,hxA,idxA_ptr,ap0,sp0,m1,n1,x1,oD_none,Option.isSome_none]
    exact⟨_,rfl⟩
   ·by_cases x2:3<c1
    ·obtain rfl:r=none:=by rw[← hr]; exact if_neg (by omega)
     simp (disch:=first|omega|decide) only[push_cast,↓reduceIte,Nat.reduceEqDiff,Nat.reduceLT,Int.reduceLT,Int.reduceNeg,↓Int.reduceNatCast',hg,hxA,idxA_ptr,ap0,sp0,m1,n1,x1,x2,oD_none,Option.isSome_none]
     exact⟨_,rfl⟩
    ·simp (disch:=first|omega|decide) only[push_cast,↓reduceIte,Nat.reduceEqDiff,Nat.reduceLT,Int.reduceLT,Int.reduceNeg,Int.reduceAdd,↓Int.reduceNatCast',hg,hxA,idxA_ptr,ap0,sp0,m1,n1,x1,x2,add_i]
     refine next_head (2:Nat) (by exact⟨by omega,by omega,by omega,by omega,by omega⟩) (by omega) ?_
     simp only[push_cast,↓reduceIte,Nat.reduceLT,↓Int.reduceNatCast'] <;> rfl
  ·by_cases x1:c2 < -3
   ·obtain rfl:r=none:=by rw[← hr]; exact if_neg (by omega)
    simp (disch:=first|omega|decide) only[push_cast,↓reduceIte,Nat.reduceEqDiff,Nat.reduceLT,Int.reduceLT,Int.reduceToNat,Int.reduceNeg,↓Int.reduceNatCast',hg,hxA,idxA_ptr,ap0,sp0,m2,n2,x1,oD_none,Option.isSome_none]
    exact⟨_,rfl⟩
   ·by_cases x2:3<c2
    ·obtain rfl:r=none:=by rw[← hr]; exact if_neg (by omega)
     simp (disch:=first|omega|decide) only[push_cast,↓reduceIte,Nat.reduceEqDiff,Nat.reduceLT,Int.reduceLT,Int.reduceToNat,Int.reduceNeg,↓Int.reduceNatCast',hg,hxA,idxA_ptr,ap0,sp0,m2,n2,x1,x2,oD_none,Option.isSome_none]
     exact⟨_,rfl⟩
    ·simp (disch:=first|omega|decide) only[push_cast,↓reduceIte,Nat.reduceEqDiff,Nat.reduceLT,Int.reduceLT,Int.reduceToNat,Int.reduceNeg,Int.reduceAdd,↓Int.reduceNatCast',hg,hxA,idxA_ptr,ap0,sp0,m2,n2,x1,x2,add_i]
     refine next_head (3:Nat) (by exact⟨by omega,by omega,by omega,by omega,by omega⟩) (by omega) ?_
     simp only[push_cast,↓reduceIte,Nat.reduceLT,↓Int.reduceNatCast'] <;> rfl
  ·by_cases x1:c3 < -3
   ·obtain rfl:r=none:=by rw[← hr]; exact if_neg (by omega)
    simp (disch:=first|omega|decide) only[push_cast,↓reduceIte,Nat.reduceEqDiff,Nat.reduceLT,Int.reduceLT,Int.reduceToNat,Int.reduceNeg,↓Int.reduceNatCast',hg,hxA,idxA_ptr,ap0,sp0,m3,n3,x1,oD_none,Option.isSome_none]
    exact⟨_,rfl⟩
   ·by_cases x2:3<c3
    ·obtain rfl:r=none:=by rw[← hr]; exact if_neg (by omega)
     simp (disch:=first|omega|decide) only[push_cast,↓reduceIte,Nat.reduceEqDiff,Nat.reduceLT,Int.reduceLT,Int.reduceToNat,Int.reduceNeg,↓Int.reduceNatCast',hg,hxA,idxA_ptr,ap0,sp0,m3,n3,x1,x2,oD_none,Option.isSome_none]
     exact⟨_,rfl⟩
    ·simp (disch:=first|omega|decide) only[push_cast,↓reduceIte,Nat.reduceEqDiff,Nat.reduceLT,Int.reduceLT,Int.reduceToNat,Int.reduceNeg,Int.reduceAdd,↓Int.reduceNatCast',hg,hxA,idxA_ptr,ap0,sp0,m3,n3,x1,x2,add_i]
     refine next_head (4:Nat) (by exact⟨by omega,by omega,by omega,by omega,by omega⟩) (by omega) ?_
     simp only[push_cast,↓reduceIte,Nat.reduceLT,↓Int.reduceNatCast'] <;> rfl
  ·obtain rfl:r=some [c0,c1,c2,c3]:=by rw[← hr]; exact if_pos (by omega)
   simp (disch:=first|omega|decide) only[push_cast,↓reduceIte,Nat.reduceEqDiff,Nat.reduceLT,Int.reduceLT,Int.reduceNeg,↓Int.reduceNatCast',ap0,sp0,oD_some,Option.isSome_some]
   exact⟨_,rfl⟩
end Go.Proofs.YtfbbaceiimdejaaGreatDoor.PI
