/-
  The change of units: what its arguments are; the law.
  Conditions: none.
-/
import Derived.Test.YtfbbaceiimdejaaGreatDoorUoH
import Derived.Test.YtfbbaceiimdejaaGreatDoorUnY
import Derived.Test.YtfbbaceiimdejaaGreatDoorEngHf
set_option linter.unusedVariables false
set_option linter.unusedSimpArgs false
namespace Go.Proofs.YtfbbaceiimdejaaGreatDoor.PI
open Go
set_option linter.unusedSimpArgs false
set_option linter.unusedVariables false
noncomputable def rp_atts:List D→Option D:=F_ttype_attributes.run GG (tb [] []) 50
theorem cp_atts:Contract Tryz.prog GG 36 rp_atts:=fun_sim (T:=tb [] []) (tb_ok all_nil all_nil) rfl tr_ttype_attributes 50
def attsD:D:=.agg (([0,1,2,3,4,5,6,7,8,9,10,11,12,13,14,15]:List Int).flatMap fun a=>(attU a).map nI)
theorem e_atts:rp_atts []=some attsD:=by kernel_rfl
noncomputable def sp_atts:List D→Option D:=spOf (α:=Unit) (fun _=>[]) (fun _=>True) (fun _=>attsD)
theorem call_atts:sp_atts []=some (attsD):=
 spOf_enc (fun _ _ _=>rfl) () trivial
theorem c_atts:Contract Tryz.prog GG 36 sp_atts:=sub_con cp_atts fun ds r h=>by
 obtain⟨a,rfl,_,rfl⟩:=spOf_inv h
 exact e_atts
theorem att_at{a:Int}(h1:0≤a)(h2:a<16):pidxV 16 4 true attsD (.int .i64 a)=some (dD (attU a)):=by
 rcases(show a=0∨a=1∨a=2∨a=3∨a=4∨a=5∨a=6∨a=7∨a=8∨a=9∨a=10∨a=11∨a=12∨a=13∨a=14∨a=15 by omega)with rfl | rfl | rfl | rfl | rfl | rfl | rfl | rfl | rfl | rfl | rfl | rfl | rfl | rfl | rfl | rfl <;> rfl
theorem mg_eq{op:Int}(h:op=3∨op=4∨op=6∨op=7):mgO (some rulM) 2000002 [0] false (.agg [.nilf]) (.int .i64 op)=some (.agg [.clo 37 []]):=by
 rcases h with rfl | rfl | rfl | rfl <;> kernel_rfl
theorem mg_p1:mgO (some rulM) 2000002 [0] false (.agg [.nilf]) (.int .i64 5)=some (.agg [.clo 66 [.eptr (.int .i64 1) 0]]):=by kernel_rfl
theorem mg_pm{op:Int}(h:op=8∨op=9∨op=10):mgO (some rulM) 2000002 [0] false (.agg [.nilf]) (.int .i64 op)=some (.agg [.clo 66 [.eptr (.int .i64 (-1)) 0]]):=by
 rcases h with rfl | rfl | rfl <;> kernel_rfl
theorem mg_ch:mgO (some rulM) 2000002 [0] false (.agg [.nilf]) (.int .i64 11)=some (.agg [.clo 38 []]):=by kernel_rfl
theorem ref_oD{o:Option (List Int)}(h:∀ u,o=some u→dimB u):(D.tup [oD o,.bool o.isSome]).noRef=true:=by
 cases o with
 |none=>rfl
 |some u=>
  obtain⟨a,b,c,d,rfl,_⟩:=dimB_of (h u rfl)
  rfl
noncomputable def sk_tun(N:Nat):List D→St→Option D:=skOf (α:=Nat×D) (fun a=>[.mapv a.1,a.2]) (fun a st=>st[a.1]?=some rulM∧ExP a.2∧formR N a.2=true) (fun a=>.tup [oD (unitU N a.2),.bool (unitU N a.2).isSome])
theorem call_tun(N m:Nat)(x:D)(st:St)(h:st[m]?=some rulM∧ExP x∧formR N x=true):keepS (sk_tun N) [.mapv m,x] st=some (.tup [oD (unitU N x),.bool (unitU N x).isSome],st):=
 keepS_of (skOf_enc (fun⟨m,x⟩ ⟨m',x'⟩ h _ _=>by
  simp only[List.cons.injEq,D.mapv.injEq,and_true]at h
  obtain⟨rfl,rfl⟩:=h
  rfl) (m,x) h)
theorem c0_unit_fn:∃ fn,Tryz.prog.funcs[(16:Nat)]?=some fn∧fn.body.isSome=true∧(fn.name == "runtime.NumGoroutine")=false:=(fun_simI (T:=tb [] []) (tb_ok all_nil all_nil:TblOK Tryz.prog GG (tb [] [])) rfl tr_ttype_unit 0).1
noncomputable abbrev TUN(N:Nat):Tbl:=tb [(36,sp_atts)] [(16,keepS (sk_tun N)),(37,keepS sk_eq),(38,keepS sk_ch),(66,keepS sk_pw)]
theorem papp_d1(st:St)(x:D)(t:Bool):papp st 4 32 (.slc 0 [] true) (.slc 4 [x] t)=some (.row st.length 1 0 1,st++[⟨true,4,[x],false⟩]):=papp_first1 (fun x:D=>x) st 4 0 32 x t (by decide) (by decide)
theorem apR_d(st:St)(A:List D)(x:D)(lent t:Bool)(hl:A.length≤1000000000):apR (some ⟨true,4,A,lent⟩) 4 32 A.length (elsOf st (.slc 4 [x] t))=some ⟨true,4,A++[x],lent⟩:=by
 have:=apR_one (fun x:D=>x) 4 32 A x lent t st (by decide) (by omega) (by omega)
 simpa using this
theorem litD_d(a b c d:Int):litD 4 [.agg (d4 a b c d)]=some (.slc 4 [.agg (d4 a b c d)] true):=(rfl)
theorem fv_1(f:Nat)(l:List D):pfldv 0 1 false (.agg [.clo f l])=some (.clo f l):=(rfl)
attribute [push_cast] litD_d fv_1
def bufU(k:Nat)(A:List (List Int)):D:=if A=[]then .slc 0 [] true else .row k A.length 0 A.length
theorem bufU_nil(k:Nat):bufU k []=.slc 0 [] true:=(rfl)
theorem bufU_ne(k:Nat){A:List (List Int)}(h:A≠[]):bufU k A=.row k A.length 0 A.length:=if_neg h
theorem set2(st l:St)(o p q:PI.Obj)(j:Nat):(st++(o::p::l)).set (st.length+(j+2)) q=st++(o::p::l.set j q):=by
 rw[List.set_append_right _ _ (by omega),Nat.add_sub_cancel_left]
 rfl
set_option maxHeartbeats 16000000 in
set_option maxRecDepth 20000 in
theorem w_tun(N m:Nat)(x:D)(st:St)(hm:st[m]?=some rulM)(hx:ExP x)(hf:formR (N+1) x=true):@wW GG (TUN N) F_ttype_unit.code (argF [.mapv m,x]) st ⟨@retI F_ttype_unit.res ⟨fun d' st'=>d'=.tup [oD (unitU (N+1) x),.bool (unitU (N+1) x).isSome]∧∃ ob,st'=st++ob⟩⟩:=by
 obtain⟨op,k,u0,u1,u2,u3,els,hl,hel⟩:=hx
 obtain⟨⟨g1,g2,g3,g4,g5,g6,g7,g8,g9⟩,ga⟩:=(formR_iff ..).1 hf
 rw[unitU_ex]
 unfold F_ttype_unit
 by_cases o1:op=1
 ·subst o1
  rw[if_pos rfl]
  simp (disch:=first|omega|decide) only[push_cast,↓reduceIte,Nat.reduceEqDiff,ap0,ap1,sp1,List.append_assoc,List.cons_append,List.nil_append,List.length_append,List.length_cons,List.length_nil,oD_some,Option.isSome_some]
  exact⟨_,rfl⟩
 rw[if_neg o1]
 by_cases o2:op=2
 ·subst o2
  rw[if_pos rfl]
  have ca:=call_atts
  have cx:=att_at g5 (g7 rfl)
  obtain⟨a,b,c,d,ea,_⟩:=dimB_of (attU_dim k)
  rw[ea]at cx ⊢
  rw[dD_4]at cx
  simp (disch:=first|omega|decide) only[push_cast,↓reduceIte,Nat.reduceEqDiff,ca,cx,ap0,ap1,sp1,List.append_assoc,List.cons_append,List.nil_append,List.length_append,List.length_cons,List.length_nil,oD_some,Option.isSome_some,Int.reduceEq]
  exact⟨_,rfl⟩
 rw[if_neg o2]
 simp (disch:=first|omega|decide) only[push_cast,↓reduceIte,Nat.reduceEqDiff,o1,o2,ap0,List.append_assoc,List.cons_append,List.nil_append,List.length_append,List.length_cons,List.length_nil]
 have hm4:els.length≤4:=by
  have:opsF op≤4:=by unfold opsF; split <;> (try split) <;> (try split) <;> omega
  omega
 have hmlt:m<st.length:=(List.getElem?_eq_some_iff.1 hm).1
 have hun:∀ y∈els,unitU N y=none∨∃ a b c d,unitU N y=some [a,b,c,d]∧dimB [a,b,c,d]:=by
  intro y hy
  cases e:unitU N y with
  |none=>exact .inl rfl
  |some u=>
   have hd:=unitU_dim N (hel y hy) (List.all_eq_true.1 ga y hy) e
   obtain⟨a,b,c,d,rfl,_⟩:=dimB_of hd
   exact .inr ⟨a,b,c,d,rfl,hd⟩
 have hrn:∀ y∈els,unitU N y=none→ruleU op (els.map (unitU N))=none:=by
  intro y hy he
  have h2:none∈els.map (unitU N):=by rw[← he]; exact List.mem_map_of_mem hy
  generalize els.map (unitU N)=L at*
  unfold ruleU
  split
  ·simp at h2
  ·simp at h2
  ·rfl
 generalize hR:ruleU op (els.map (unitU N))=R at*
 refine W_whileA (ι:=Nat×List (List Int)×St) (fun i=>[(0,.mapv m),(3,.ptr st.length 0),(4,.ptr (st.length+1) 0),(6,bufU (st.length+4) i.2.1),(24,.slc (nz 7 els) els false),(25,.int .i64 (els.length:Int)),(26,.int .i64 (i.1:Int))]) (fun i=>i.2.2)
  (fun i=>i.1≤els.length∧(els.take i.1).map (unitU N)=i.2.1.map some∧(∀ u∈i.2.1,dimB u)∧∃ l,i.2.2=st++(⟨false,1,exC op k u0 u1 u2 u3 els,false⟩::⟨false,1,d4 0 0 0 0,false⟩::l)∧(i.2.1=[]→l=[])∧(i.2.1≠[]→i.2.2[st.length+4]?=some (rowD i.2.1)))
  (fun i=>els.length - i.1) (0,[],st++[⟨false,1,exC op k u0 u1 u2 u3 els,false⟩,⟨false,1,d4 0 0 0 0,false⟩]) (by simp only[push_cast,↓reduceIte,Nat.reduceEqDiff,bufU_nil] <;> rfl) ⟨Nat.zero_le _,rfl,fun u h=>(by cases h),[],rfl,fun _=>rfl,fun h=>absurd rfl h⟩ ?_
 rintro⟨i,A,S⟩ ⟨hi,hA,hD,l,hS,hl0,hlA⟩
 dsimp only at hi hA hD hS hl0 hlA ⊢
 have hAl:A.length=i:=by have:=congrArg List.length hA; simp at this; omega
 unfold F_ttype_unit_L0
 by_cases hlt:i<els.length
 ·have hki:((i:Int)<(els.length:Int))=True:=by simp; omega
  have hix:=fun st t=>idx_ex st els t i hlt
  have hmem:=getD_memD hlt
  have hy:=hel _ hmem
  have hfy:=List.all_eq_true.1 ga _ hmem
  have hp:=pld_exP hy
  have hS1:∀ q:St,(S++q)[st.length+1]?=some ⟨false,1,d4 0 0 0 0,false⟩:=fun q=>by rw[hS,List.append_assoc,List.cons_append,List.cons_append]; exact ap1 ..
  have hT1:∀ (q:St) (o:PI.Obj),(S++q).set (st.length+1) o=st++(⟨false,1,exC op k u0 u1 u2 u3 els,false⟩::o::(l++q)):=fun q o=>by rw[hS,List.append_assoc,List.cons_append,List.cons_append]; exact sp1 ..
  have hSm:∀ q:St,(S++q)[m]?=some rulM:=fun q=>by rw[hS,List.append_assoc]; exact at_app hm
  have ct:=fun q=>call_tun N m (els.getD i default) (S++q) ⟨hSm q,hy,hfy⟩
  have huy:=hun _ hmem
  have hrny:=hrn _ hmem
  have htk:(els.take (i+1)).map (unitU N)=(els.take i).map (unitU N)++[unitU N (els.getD i default)]:=by
   rw[List.take_succ_eq_append_getElem hlt,List.map_append]
   simp[List.getD_eq_getElem?_getD,hlt]
  generalize els.getD i default=y at*
  obtain⟨p0,p1,p2,p3,p4,p5,p6,_,_⟩:=hy
  rcases huy with e | ⟨a,b,c,d,e,hd⟩
  ·obtain rfl:=hrny e
   rw[e,oD_none,Option.isSome_none]at ct
   simp (disch:=first|omega|decide) only[push_cast,↓reduceIte,Nat.reduceEqDiff,hki,hix,hp,ct,ap0,ap1,sp0,sp1,hS1,hT1,List.append_assoc,List.cons_append,List.nil_append,List.length_append,List.length_cons,List.length_nil]
   exact⟨by rw[oD_none,Option.isSome_none],_,rfl⟩
  ·rw[e]at htk
   rw[e,oD_some,Option.isSome_some]at ct
   have hA2:(els.take (i+1)).map (unitU N)=(A++[[a,b,c,d]]).map some:=by rw[htk,hA,List.map_append]; rfl
   have hD2:∀ u∈A++[[a,b,c,d]],dimB u:=by
    intro u hu
    rcases List.mem_append.1 hu with hu | hu
    ·exact hD u hu
    ·simp only[List.mem_singleton]at hu; subst hu; exact hd
   by_cases hn:A=[]
   ·subst hn
    obtain rfl:=hl0 rfl
    have hSl:S.length=st.length+2:=by rw[hS]; simp
    simp (disch:=first|omega|decide) only[push_cast,↓reduceIte,Nat.reduceEqDiff,Nat.reduceAdd,hki,hix,hp,ct,ap0,ap1,sp0,sp1,bufU_nil,papp_d1,List.append_assoc,List.cons_append,List.nil_append,List.length_append,List.length_cons,List.length_nil,add_i]
    refine next_head (i+1,[[a,b,c,d]],S++[(⟨false,1,exC p0 p1 p2 p3 p4 p5 p6,false⟩:PI.Obj),⟨false,1,d4 a b c d,false⟩,rowD [[a,b,c,d]]]) (by exact⟨by omega,hA2,hD2,[⟨false,1,exC p0 p1 p2 p3 p4 p5 p6,false⟩,⟨false,1,d4 a b c d,false⟩,rowD [[a,b,c,d]]],by rw[hS]; simp,fun h=>(by cases h),fun _=>by rw[List.getElem?_append_right (by omega),hSl]; simp⟩) (by show els.length - (i+1)<els.length - i; omega) ?_
    rw[bufU_ne _ (by simp)]
    simp only[push_cast,Nat.reduceAdd,hSl,Nat.add_assoc,Nat.reduceAdd] <;> rfl
   ·have hrow:∀ q:St,(S++q)[st.length+4]?=some ⟨true,4,A.map dD,false⟩:=fun q=>at_app (hlA hn)
    have ap:∀ (st':St) (lent t:Bool),apR (some ⟨true,4,A.map dD,lent⟩) 4 32 A.length (elsOf st' (.slc 4 [.agg (d4 a b c d)] t))=some ⟨true,4,(A++[[a,b,c,d]]).map dD,lent⟩:=fun st' lent t=>by
     have:=apR_d st' (A.map dD) (.agg (d4 a b c d)) lent t (by simp; omega)
     simpa[dD_4]using this
    have hlt4:st.length+4<S.length:=(List.getElem?_eq_some_iff.1 (hlA hn)).1
    simp (disch:=first|omega|decide) only[push_cast,↓reduceIte,Nat.reduceEqDiff,hki,hix,hp,ct,ap0,ap1,sp0,sp1,bufU_ne _ hn,hrow,ap,List.append_assoc,List.cons_append,List.nil_append,List.length_append,List.length_cons,List.length_nil,List.length_map,add_i]
    refine next_head (i+1,A++[[a,b,c,d]],(S++[(⟨false,1,exC p0 p1 p2 p3 p4 p5 p6,false⟩:PI.Obj),⟨false,1,d4 a b c d,false⟩]).set (st.length+4) (rowD (A++[[a,b,c,d]]))) (by exact⟨by omega,hA2,hD2,(l++[(⟨false,1,exC p0 p1 p2 p3 p4 p5 p6,false⟩:PI.Obj),⟨false,1,d4 a b c d,false⟩]).set 2 (rowD (A++[[a,b,c,d]])),by rw[hS,List.append_assoc,List.cons_append,List.cons_append]; exact set2 ..,fun h=>by simp at h,fun _=>List.getElem?_set_self (by simp; omega)⟩) (by show els.length - (i+1)<els.length - i; omega) ?_
    rw[bufU_ne _ (by simp)]
    simp only[push_cast,List.length_append,List.length_cons,List.length_nil,Nat.zero_add] <;> rfl
 ·have hie:i=els.length:=by omega
  have hki:((i:Int)<(els.length:Int))=False:=by simp; omega
  rw[hie,List.take_length]at hA
  rw[hA]at hR
  subst hS
  have hmS:(st++((⟨false,1,exC op k u0 u1 u2 u3 els,false⟩:PI.Obj)::⟨false,1,d4 0 0 0 0,false⟩::l))[m]?=some rulM:=at_app hm
  by_cases o11:op=11
  ·subst o11
   have h4:A.length=4:=by have:opsF 11=4:=rfl; omega
   match A,h4 with
   |[a,b,c,e],_=>
    have hne:[a,b,c,e]≠[]:=by simp
    have hk:=hlA hne
    have ha:=hD a (by simp); have hb:=hD b (by simp); have hc:=hD c (by simp); have he:=hD e (by simp)
    have mm:=mg_ch
    have cc:=call_rch _ a b c e _ ⟨ha,hb,hc,he,hk⟩
    simp only[List.map_cons,List.map_nil,ruleU_4]at hR
    obtain⟨c0,c1,c2,c3,rfl,_⟩:=dimB_of hc
    by_cases hh:a=b∧[c0,c1,c2,c3]=e
    ·rw[if_pos hh]at hR
     rw[decide_eq_true hh,dD_4]at cc
     subst hR
     simp (disch:=first|omega|decide) only[push_cast,↓reduceIte,Nat.reduceEqDiff,Nat.reduceAdd,hki,bufU_ne _ hne,ap0,ap1,sp1,hmS,mm,cc,cloD_fn,List.cons_append,List.nil_append,List.length_cons,List.length_nil,oD_some,Option.isSome_some]
     exact⟨_,rfl⟩
    ·rw[if_neg hh]at hR
     rw[decide_eq_false hh,dD_4]at cc
     subst hR
     simp (disch:=first|omega|decide) only[push_cast,↓reduceIte,Nat.reduceEqDiff,Nat.reduceAdd,hki,bufU_ne _ hne,ap0,ap1,sp1,hmS,mm,cc,cloD_fn,List.cons_append,List.nil_append,List.length_cons,List.length_nil,oD_none,Option.isSome_none]
     exact⟨_,rfl⟩
  have h2:A.length=2:=by
   have:opsF op=2:=by
    unfold opsF
    rw[if_neg (by omega),if_neg (by omega),if_neg o11]
   omega
  match A,h2 with
  |[a,b],_=>
   have hne:[a,b]≠[]:=by simp
   have hk:=hlA hne
   have ha:=hD a (by simp); have hb:=hD b (by simp)
   simp only[List.map_cons,List.map_nil,ruleU_2]at hR
   by_cases o5:op=5
   ·subst o5
    have mm:=mg_p1
    have cc:=call_rpw _ 1 a b _ ⟨ha,hb,.inl rfl,hk⟩
    rw[if_pos rfl]at hR
    obtain⟨a0,a1,a2,a3,rfl,_⟩:=dimB_of ha
    obtain⟨b0,b1,b2,b3,rfl,_⟩:=dimB_of hb
    rcases comb_or 1 a0 a1 a2 a3 b0 b1 b2 b3 with hn | ⟨e0,e1,e2,e3,hn⟩
    ·rw[hn]at hR cc
     rw[oD_none,Option.isSome_none]at cc
     subst hR
     simp (disch:=first|omega|decide) only[push_cast,↓reduceIte,Nat.reduceEqDiff,Nat.reduceAdd,hki,bufU_ne _ hne,ap0,ap1,sp1,hmS,mm,cc,cloD_fn,List.cons_append,List.nil_append,List.length_cons,List.length_nil,oD_none,Option.isSome_none]
     exact⟨_,rfl⟩
    ·rw[hn]at hR cc
     rw[oD_some,Option.isSome_some]at cc
     subst hR
     simp (disch:=first|omega|decide) only[push_cast,↓reduceIte,Nat.reduceEqDiff,Nat.reduceAdd,hki,bufU_ne _ hne,ap0,ap1,sp1,hmS,mm,cc,cloD_fn,List.cons_append,List.nil_append,List.length_cons,List.length_nil,oD_some,Option.isSome_some]
     exact⟨_,rfl⟩
   rw[if_neg o5]at hR
   by_cases o8:op=8∨op=9∨op=10
   ·rw[if_pos o8]at hR
    have mm:=mg_pm o8
    have cc:=call_rpw _ (-1) a b _ ⟨ha,hb,.inr rfl,hk⟩
    obtain⟨a0,a1,a2,a3,rfl,_⟩:=dimB_of ha
    obtain⟨b0,b1,b2,b3,rfl,_⟩:=dimB_of hb
    rcases comb_or (-1) a0 a1 a2 a3 b0 b1 b2 b3 with hn | ⟨e0,e1,e2,e3,hn⟩
    ·rw[hn]at hR cc
     rw[oD_none,Option.isSome_none]at cc
     subst hR
     simp (disch:=first|omega|decide) only[push_cast,↓reduceIte,Nat.reduceEqDiff,Nat.reduceAdd,Int.reduceNeg,hki,bufU_ne _ hne,ap0,ap1,sp1,hmS,mm,cc,cloD_fn,List.cons_append,List.nil_append,List.length_cons,List.length_nil,oD_none,Option.isSome_none]
     exact⟨_,rfl⟩
    ·rw[hn]at hR cc
     rw[oD_some,Option.isSome_some]at cc
     subst hR
     simp (disch:=first|omega|decide) only[push_cast,↓reduceIte,Nat.reduceEqDiff,Nat.reduceAdd,Int.reduceNeg,hki,bufU_ne _ hne,ap0,ap1,sp1,hmS,mm,cc,cloD_fn,List.cons_append,List.nil_append,List.length_cons,List.length_nil,oD_some,Option.isSome_some]
     exact⟨_,rfl⟩
   rw[if_neg o8]at hR
   have mm:=mg_eq (op:=op) (by omega)
   have cc:=call_req _ a b _ ⟨ha,hb,hk⟩
   obtain⟨a0,a1,a2,a3,rfl,_⟩:=dimB_of ha
   by_cases hh:[a0,a1,a2,a3]=b
   ·rw[if_pos hh]at hR
    rw[decide_eq_true hh,dD_4]at cc
    subst hR
    simp (disch:=first|omega|decide) only[push_cast,↓reduceIte,Nat.reduceEqDiff,Nat.reduceAdd,hki,bufU_ne _ hne,ap0,ap1,sp1,hmS,mm,cc,cloD_fn,List.cons_append,List.nil_append,List.length_cons,List.length_nil,oD_some,Option.isSome_some]
    exact⟨_,rfl⟩
   ·rw[if_neg hh]at hR
    rw[decide_eq_false hh,dD_4]at cc
    subst hR
    simp (disch:=first|omega|decide) only[push_cast,↓reduceIte,Nat.reduceEqDiff,Nat.reduceAdd,hki,bufU_ne _ hne,ap0,ap1,sp1,hmS,mm,cc,cloD_fn,List.cons_append,List.nil_append,List.length_cons,List.length_nil,oD_none,Option.isSome_none]
    exact⟨_,rfl⟩
theorem tun_ok(N:Nat)(h:IContract Tryz.prog GG 16 (keepS (sk_tun N))):TblOK Tryz.prog GG (TUN N):=
 tb_ok (all_cons c_atts all_nil) (all_cons h (all_cons ci_req (all_cons ci_rch (all_cons ci_rpw all_nil))))
theorem ci_tun:∀ N,IContract Tryz.prog GG 16 (keepS (sk_tun N))
 |0=>⟨c0_unit_fn,fun base w g st st' ds vs d h=>by
  unfold keepS at h
  simp only[Option.map_eq_some_iff,Prod.mk.injEq]at h
  obtain⟨d',hd,_⟩:=h
  obtain⟨⟨m,x⟩,_,⟨_,_,h2⟩,_⟩:=skOf_inv hd
  cases h2⟩
 |N+1=>icontract_cl (T:=TUN N) (sp:=sk_tun (N+1)) tr_ttype_unit (tun_ok N (ci_tun N))
   (fun ds st d h=>by
    obtain⟨⟨m,x⟩,rfl,⟨_,hx,hf⟩,rfl⟩:=skOf_inv h
    exact ref_oD fun u hu=>unitU_dim _ hx hf hu)
   (fun ds st d h=>by
    obtain⟨⟨m,x⟩,rfl,⟨hm,hx,hf⟩,rfl⟩:=skOf_inv h
    exact w_tun N m x st hm hx hf)
noncomputable def sp_tUnit(N:Nat):List D→Option D:=spOf (α:=D) (fun a=>[a]) (fun a=>ExP a∧formR N a=true∧(unitU N a).isSome=true) (fun a=>.tup [oD (unitU N a),.int .i64 0])
theorem call_tUnit(N:Nat)(x:D)(h:ExP x∧formR N x=true∧(unitU N x).isSome=true):sp_tUnit N [x]=some (.tup [oD (unitU N x),.int .i64 0]):=
 spOf_enc (fun a b h=>by simp only[List.cons.injEq,and_true]at h; exact h) x h
noncomputable abbrev TTU(N:Nat):Tbl:=tb [(15,sp_tform N)] [(16,keepS (sk_tun N))] [(17,mk_rules)]
theorem ttu_ok(N:Nat):TblOK Tryz.prog GG (TTU N):=tb_okm (all_cons (c_tform N) all_nil) (all_cons (ci_tun N) all_nil) (all_cons cm_rules all_nil)
set_option maxHeartbeats 8000000 in
set_option maxRecDepth 20000 in
theorem w_tUnit(N:Nat)(x:D)(hx:ExP x)(hf:formR N x=true)(hs:(unitU N x).isSome=true):@wW GG (TTU N) F_ttype_Unit.code (argF [x]) [] ⟨retQ F_ttype_Unit.res (.tup [oD (unitU N x),.int .i64 0])⟩:=by
 have cf:=call_tform N x ⟨hx,hf⟩
 have cu:=call_tun N 4 x
 cases hu:unitU N x with
 |none=>rw[hu]at hs; cases hs
 |some u=>
  obtain⟨a,b,c,d,rfl,_⟩:=dimB_of (unitU_dim N hx hf hu)
  rw[hu,oD_some,Option.isSome_some]at cu
  have hx2:=hx
  obtain⟨op,k,u0,u1,u2,u3,els,hl,hel⟩:=hx
  have cu:=cu [⟨false,1,exC op k u0 u1 u2 u3 els,false⟩,⟨false,1,d4 0 0 0 0,false⟩,⟨false,1,[eqR],false⟩,⟨false,1,[chR],false⟩,rulM] ⟨rfl,hx2,hf⟩
  have cr:=call_mrul
  unfold F_ttype_Unit
  simp (disch:=first|omega|decide) only[push_cast,↓wF_free,↓reduceIte,Nat.reduceEqDiff,Nat.reduceLT,Nat.reduceAdd,cf,cr,cu,oD_some]
theorem c_tUnit(N:Nat):Contract Tryz.prog GG 8 (sp_tUnit N):=
 contract_of (T:=TTU N) tr_ttype_Unit (ttu_ok N) (fun a h=>w_tUnit N a h.1 h.2.1 h.2.2)
theorem scU_inv{k:Nat}{f:Int}{n:Nat}{op m u0 u1 u2 u3:Int}{els:List D}{y:D}(h:scU k f (n+1) (exD op m u0 u1 u2 u3 els)=some y) :
  ∃ d els',formR (n+1) (exD op m u0 u1 u2 u3 els)=true∧unitU (n+1) (exD op m u0 u1 u2 u3 els)=some d∧0≤d.getD k 0∧op≠8∧op≠9∧op≠10∧(op=1→m≤1048576)∧els.map (scU k f n)=els'.map some∧y=exD op (if op=1 then m*powU f (d.getD k 0)else m) u0 u1 u2 u3 els':=by
 rw[scU_ex]at h
 split at h
 case isFalse=>cases h
 rename_i hf
 cases hu:unitU (n+1) (exD op m u0 u1 u2 u3 els)with
 |none=>rw[hu]at h; cases h
 |some d=>
  rw[hu]at h
  simp only at h
  split at h
  case isTrue=>cases h
  rename_i hc
  simp only[Option.map_eq_some_iff]at h
  obtain⟨els',hs,rfl⟩:=h
  exact⟨d,els',hf,rfl,by omega,by omega,by omega,by omega,by omega,allS_some hs,rfl⟩
theorem scU_f1{k:Nat}{f:Int}{n:Nat}{x y:D}(hx:ExP x)(h:scU k f n x=some y):formR n x=true∧(unitU n x).isSome=true:=by
 cases n with
 |zero=>cases h
 |succ n=>
  obtain⟨op,m,u0,u1,u2,u3,els,_,_⟩:=hx
  obtain⟨d,els',h1,h2,_⟩:=scU_inv h
  exact⟨h1,by rw[h2]; rfl⟩
theorem formR_num{n:Nat}{op m u0 u1 u2 u3:Int}{els:List D}(h:formR (n+1) (exD op m u0 u1 u2 u3 els)=true):0≤m:=by
 rw[formR_ex]at h
 simp only[Bool.and_eq_true,decide_eq_true_eq]at h
 exact h.1.1.1.1.1.2
theorem formF_sc{k:Nat}{f:Int}(hf:1≤f)(hf4:f≤4):∀ (N n:Nat) {x y:D},ExP x→scU k f n x=some y→formF N x=true→formF N y=true
 |0,_,_,_,_,_,h=>by cases h
 |_+1,0,_,_,_,h,_=>by cases h
 |N+1,n+1,_,_,.mk op m u0 u1 u2 u3 els _ hel,hs,h=>by
  obtain⟨d,els',h1,_,h0,_,_,_,hm,hall,rfl⟩:=scU_inv hs
  have hlen:els.length=els'.length:=by simpa using congrArg List.length hall
  have hm0:=formR_num h1
  rw[formF_ex]at h ⊢
  rw[← hlen]
  split at h
  case isFalse=>cases h
  rename_i hl
  rw[if_pos hl]
  by_cases o1:op=1
  ·subst o1
   simp only[if_true]
   have hp:=powU_pos (d:=d.getD k 0) hf hf4
   have hm:=hm rfl
   generalize powU f (d.getD k 0)=p at*
   have e1:0*p≤m*p:=Int.mul_le_mul_of_nonneg_right (by omega) (by omega)
   have e2:m*p≤1048576*p:=Int.mul_le_mul_of_nonneg_right (by omega) (by omega)
   simp; omega
  ·rw[if_neg o1]at h
   rw[if_neg o1,if_neg o1]
   by_cases o2:op=2
   ·rw[if_pos o2]at h ⊢; exact h
   ·rw[if_neg o2]at h ⊢
    rw[List.all_eq_true]at h ⊢
    intro z hz
    have:some z∈els.map (scU k f n):=by rw[hall]; exact List.mem_map_of_mem hz
    obtain⟨x,hx,hxz⟩:=List.mem_map.1 this
    exact formF_sc hf hf4 N n (hel x hx) hxz (h x hx)
theorem rgF_in{c:Int}(h:(rgF c).2=0):inI (rgF c).1=true:=by
 unfold rgF at*
 split at h
 ·rename_i hc; rw[if_pos hc]; exact hc
 ·cases h
theorem bin_in{op a b:Int}(ha:inI a=true)(hb:inI b=true)(ho:op≠8∧op≠9∧op≠10∧3≤op∧op≤10)(h:(binU op a b).2=0):inI (binU op a b).1=true:=by
 have:op=3∨op=4∨op=5∨op=6∨op=7:=by omega
 have hab:(inI a && inI b)=true:=by rw[ha,hb]; rfl
 rcases this with rfl | rfl | rfl | rfl | rfl
 ·have e:binU 3 a b=rgF (a+b):=by simp[binU,addF,hab]
  rw[e]at h ⊢; exact rgF_in h
 ·have e:binU 4 a b=rgF (a - b):=by simp[binU,subF,hab]
  rw[e]at h ⊢; exact rgF_in h
 ·have e:binU 5 a b=rgF (a*b):=by simp[binU,mulF,hab]
  rw[e]at h ⊢; exact rgF_in h
 ·have e:(binU 6 a b).1=min a b:=by simp[binU]
  rw[e,Int.min_def]; split <;> assumption
 ·have e:(binU 7 a b).1=max a b:=by simp[binU]
  rw[e,Int.max_def]; split <;> assumption
theorem in_zero:inI 0=true:=by decide
theorem evU_in{k:Nat}{f:Int}(h:Int)(v:List Int):∀ (N n:Nat) {x y:D},ExP x→scU k f n x=some y→(evU N h v x).2=0→inI (evU N h v x).1=true
 |0,_,_,_,_,_,_=>in_zero
 |_+1,0,_,_,_,hs,_=>by cases hs
 |N+1,n+1,_,_,.mk op m u0 u1 u2 u3 els _ hel,hs,he=>by
  obtain⟨d,els',h1,_,h0,o8,o9,o10,hm,hall,rfl⟩:=scU_inv hs
  have hm0:=formR_num h1
  have h1':=h1
  rw[formR_ex]at h1'
  simp only[Bool.and_eq_true,decide_eq_true_eq]at h1'
  obtain⟨⟨⟨⟨⟨⟨⟨⟨⟨g1,g2⟩,g3⟩,g4⟩,g5⟩,g6⟩,g7⟩,g8⟩,g9⟩,g10⟩:=h1'
  have hch:∀ i,i<els.length→(evU N h v (els.getD i default)).2=0→inI (evU N h v (els.getD i default)).1=true:=by
   intro i hi
   have hmem:els.getD i default∈els:=by
    rw[List.getD_eq_getElem?_getD,List.getElem?_eq_getElem hi]; exact List.getElem_mem hi
   have:scU k f n (els.getD i default)∈els'.map some:=by rw[← hall]; exact List.mem_map_of_mem hmem
   obtain⟨z,_,hz⟩:=List.mem_map.1 this
   exact evU_in h v N n (hel _ hmem) hz.symm
  rw[evU_ex]at he ⊢
  by_cases o1:op=1
  ·subst o1
   rw[if_pos rfl]
   exact inI_iff.2 (by have:=hm rfl; dsimp only; omega)
  rw[if_neg o1]at he ⊢
  by_cases o2:op=2
  ·rw[if_pos o2]at he ⊢
   unfold ldU at he ⊢
   split at he
   ·cases he
   rename_i hr
   rw[if_neg hr]
   split at he
   ·cases he
   rename_i hb
   rw[if_neg hb]
   split at he
   ·rename_i hi; rw[if_pos hi]; exact hi
   ·cases he
  rw[if_neg o2]at he ⊢
  have hl:2≤els.length:=by
   unfold opsF at g3
   rw[if_neg (by omega),if_neg (by omega)]at g3
   split at g3 <;> omega
  have h4:op=11→els.length=4:=fun o=>by
   subst o
   have:opsF 11=4:=rfl
   omega
  unfold opU bothU at he ⊢
  have c0:=hch 0 (by omega)
  have c1:=hch 1 (by omega)
  by_cases z0:(evU N h v (els.getD 0 default)).2=0
  ·simp only[z0,if_true]at he ⊢
   by_cases z1:(evU N h v (els.getD 1 default)).2=0
   ·simp only[z1,if_true]at he ⊢
    by_cases o11:op=11
    ·rw[if_pos o11]at he ⊢
     have h4:=h4 o11
     split at he
     ·rename_i hlt; rw[if_pos hlt]; exact hch 2 (by omega) he
     ·rename_i hlt; rw[if_neg hlt]; exact hch 3 (by omega) he
    ·rw[if_neg o11]at he ⊢
     exact bin_in (c0 z0) (c1 z1) ⟨o8,o9,o10,by omega,by omega⟩ he
   ·simp only[z1,if_false]at he
  ·simp only[z0,if_false]at he
theorem units_law{k:Nat}(hk:k<4){f:Int}(hf:1≤f)(hf4:f≤4)(h:Int)(v:List Int)(hv:v.length=16)(hvb:∀ i,-1048576≤v.getD i 0∧v.getD i 0≤1048576){n:Nat}{x y:D}{d:List Int}(hx:ExP x)(hs:scU k f n x=some y)(hu:unitU n x=some d) :
  0≤d.getD k 0∧d.getD k 0≤3∧((evalU h v x).2=0→(evalU h (scV k f v) y).2≠0→(evalU h (scV k f v) y).2=3)∧
   ((evalU h v x).2=0→(evalU h (scV k f v) y).2=0→(evalU h (scV k f v) y).1=(evalU h v x).1*powU f (d.getD k 0)∧inI (evalU h v x).1=true):=by
 obtain⟨h1,h2,h3⟩:=scale_law hk hf hf4 h v hv hvb 24 n x y d hx hs hu
 have hin:=evU_in (k:=k) (f:=f) h v 24 n hx hs
 have hff:=formF_sc hf hf4 24 n hx hs
 refine⟨h1,h2,fun he hne=>?_,fun he hz=>?_⟩
 ·unfold evalU at he hne ⊢
  split at he
  case isFalse=>cases he
  rename_i hfx
  rw[if_pos (hff hfx)]at hne ⊢
  split at he
  case isFalse=>rename_i hh; exact absurd he hh
  rename_i hh
  split at hne
  ·exact absurd rfl hne
  rename_i hh2
  rw[if_neg hh2]
  rcases h3 hh with e | ⟨e,_⟩
  ·exact e
  ·exact absurd e hh2
 ·unfold evalU at he hz ⊢
  split at he
  case isFalse=>cases he
  rename_i hfx
  rw[if_pos hfx]
  rw[if_pos (hff hfx)]at hz ⊢
  split at he
  case isFalse=>rename_i hh; exact absurd he hh
  rename_i hh
  rw[if_pos hh]
  split at hz
  case isFalse=>rename_i hh2; exact absurd hz hh2
  rename_i hh2
  rw[if_pos hh2]
  rcases h3 hh with e | ⟨_,e⟩
  ·omega
  ·exact⟨e,hin hh⟩
def tyO:Ty:=.opq (TyD Tryz.prog 24)
def tyEx:Ty:=.agg [.int .i64,.int .i64,.agg (List.replicate 4 (.int .i64)),tyO]
def tyEnv:Ty:=.agg [.int .i64,.agg (List.replicate 16 (.int .i64))]
theorem maxLen_le:maxLen≤9223372036854775807:=by decide
theorem has_ints{n:Nat}{d:D}(h:Has (.agg (List.replicate n (.int .i64))) d):∃ l:List Int,d=.agg (l.map nI)∧l.length=n:=by
 cases h with
 |agg _ xs h1 h2=>
  obtain⟨l,rfl⟩:=lift_map (f:=nI) (els:=xs) fun x hx=>by
   obtain⟨i,hi⟩:=List.getElem?_of_mem hx
   have hlt:i<n:=by
    have:=(List.getElem?_eq_some_iff.1 hi).1
    rw[← h1,List.length_replicate]at this
    exact this
   obtain⟨a,rfl,_,_⟩:=has_i64 (h2 i (.int .i64) x (by rw[List.getElem?_replicate,if_pos hlt]) hi)
   exact⟨a,rfl⟩
  refine⟨l,?_,by simpa using h1.symm⟩
  congr 1
  clear h1 h2
  induction l with
  |nil=>rfl
  |cons a l ih=>simp only[List.map_cons,List.flatMap_cons,ih]; rfl
theorem has_env{d:D}(h:Has tyEnv d):∃ v:Int×List Int,d=envD v.1 v.2∧v.2.length=16:=by
 obtain⟨x,y,rfl,h1,h2⟩:=has_agg2 h
 obtain⟨n,rfl,_,_⟩:=has_i64 h1
 obtain⟨l,rfl,hl⟩:=has_ints h2
 exact⟨(n,l),rfl,hl⟩
theorem ty_int{d:D}(h:TyD Tryz.prog 3 d):∃ n,d=.int .i64 n:=by
 have he:Tryz.prog.underlying 3=some (.int .i64):=by kernel_rfl
 cases h with
 |int _ k n hu _=>rw[he]at hu; simp only[Option.some.injEq,TypeDesc.int.injEq]at hu; subst hu; exact⟨n,rfl⟩
 |bool _ b hu=>rw[he]at hu; cases hu
 |str _ s hu _=>rw[he]at hu; cases hu
 |slc _ e els hu _ _=>rw[he]at hu; cases hu
 |agg _ fs xs hu _ _=>rw[he]at hu; cases hu
 |arr _ m e xs hu _ _=>rw[he]at hu; cases hu
theorem ty_dim{d:D}(h:TyD Tryz.prog 23 d):∃ a b c e:Int,d=.agg [.int .i64 a,.int .i64 b,.int .i64 c,.int .i64 e]:=by
 have he:Tryz.prog.underlying 23=some (.array 4 3):=by kernel_rfl
 cases h with
 |int _ k n hu _=>rw[he]at hu; cases hu
 |bool _ b hu=>rw[he]at hu; cases hu
 |str _ s hu _=>rw[he]at hu; cases hu
 |slc _ e els hu _ _=>rw[he]at hu; cases hu
 |agg _ fs xs hu _ _=>rw[he]at hu; cases hu
 |arr _ m e xs hu hl hx=>
  rw[he]at hu
  simp only[Option.some.injEq,TypeDesc.array.injEq]at hu
  obtain⟨rfl,rfl⟩:=hu
  match xs,hl with
  |[w,x,y,z],_=>
   obtain⟨a,rfl⟩:=ty_int (hx w (by simp))
   obtain⟨b,rfl⟩:=ty_int (hx x (by simp))
   obtain⟨c,rfl⟩:=ty_int (hx y (by simp))
   obtain⟨e,rfl⟩:=ty_int (hx z (by simp))
   exact⟨a,b,c,e,rfl⟩
theorem ty_ex{t:TypeId}{d:D}(h:TyD Tryz.prog t d):(t=26→ExP d)∧(t=24→∃ l,d=.slc (nz 7 l) l false∧l.length≤maxLen∧∀ x∈l,ExP x):=by
 have he:(Tryz.prog.underlying 26).map (fun | .struct fs=>fs.toList.map (·.type) | _=>[])=some [3,3,23,24]:=by kernel_rfl
 have hs:Tryz.prog.underlying 24=some (.slice 26):=by kernel_rfl
 have hc:Tryz.prog.cellsOf 26=7:=by kernel_rfl
 induction h with
 |bool t b hu=>
  refine⟨fun e=>?_,fun e=>?_⟩ <;> subst e
  ·rw[hu]at he; simp at he
  ·rw[hs]at hu; cases hu
 |int t k n hu _=>
  refine⟨fun e=>?_,fun e=>?_⟩ <;> subst e
  ·rw[hu]at he; simp at he
  ·rw[hs]at hu; cases hu
 |str t s hu _=>
  refine⟨fun e=>?_,fun e=>?_⟩ <;> subst e
  ·rw[hu]at he; simp at he
  ·rw[hs]at hu; cases hu
 |arr t m e xs hu _ _ _=>
  refine⟨fun e=>?_,fun e=>?_⟩ <;> subst e
  ·rw[hu]at he; simp at he
  ·rw[hs]at hu; cases hu
 |slc t e els hu hx hl ih=>
  refine⟨fun e=>?_,fun e=>?_⟩ <;> subst e
  ·rw[hu]at he; simp at he
  ·rw[hs]at hu
   simp only[Option.some.injEq,TypeDesc.slice.injEq]at hu
   subst hu
   rw[hc]
   exact⟨els,rfl,hl,fun x hx=>(ih x hx).1 rfl⟩
 |agg t fs xs hu hlen hf ih=>
  refine⟨fun e=>?_,fun e=>?_⟩ <;> subst e
  ·rw[hu]at he
   simp only[Option.map_some,Option.some.injEq]at he
   generalize fs.toList=F at*
   rcases F with _ | ⟨f0,_ | ⟨f1,_ | ⟨f2,_ | ⟨f3,_ | ⟨f4,F⟩⟩⟩⟩⟩ <;> simp only[List.map_cons,List.map_nil,List.cons.injEq,and_true,and_false,reduceCtorEq]at he
   obtain⟨e0,e1,e2,e3⟩:=he
   match xs,hlen with
   |[a,b,u,l],_=>
    obtain⟨n0,rfl⟩:=ty_int (e0 ▸ hf 0 f0 a rfl rfl)
    obtain⟨n1,rfl⟩:=ty_int (e1 ▸ hf 1 f1 b rfl rfl)
    obtain⟨u0,u1,u2,u3,rfl⟩:=ty_dim (e2 ▸ hf 2 f2 u rfl rfl)
    obtain⟨els,rfl,h1,h2⟩:=(ih 3 f3 l rfl rfl).2 e3
    exact ExP.mk n0 n1 u0 u1 u2 u3 els (Nat.le_trans h1 maxLen_le) h2
  ·rw[hs]at hu; cases hu
theorem has_OX{d:D}(h:Has tyO d):∃ l,d=.slc (nz 7 l) l false∧l.length≤maxLen∧∀ x∈l,ExP x:=by
 cases h with
 |opq Q sz els hq=>exact(ty_ex hq).2 rfl
theorem has_ex{d:D}(h:Has tyEx d):ExP d:=by
 cases h with
 |agg _ xs g1 g2=>
  match xs,g1 with
  |[a,b,u,e],_=>
   obtain⟨a,rfl,_,_⟩:=has_i64 (g2 0 _ a rfl rfl)
   obtain⟨b,rfl,_,_⟩:=has_i64 (g2 1 _ b rfl rfl)
   obtain⟨l,rfl,hl⟩:=has_ints (g2 2 _ u rfl rfl)
   obtain⟨m,rfl,k1,k2⟩:=has_OX (g2 3 _ e rfl rfl)
   match l,hl with
   |[u0,u1,u2,u3],_=>exact ExP.mk a b u0 u1 u2 u3 m (Nat.le_trans k1 maxLen_le) k2
noncomputable abbrev TLW:Tbl:=tb [(4,sp_sane),(5,sp_size 31),(6,sp_scaled 30),(7,sp_scE),(8,sp_tUnit 30),(9,sp_peval),(10,sp_pow)] []
theorem rem_4(b:UInt8):pbin .rem (byteD b) (.int .u8 4)=some (.int .u8 ((b.toNat:Int) % 4)):=by
 unfold byteD
 simp only[pbin,if_true,iarith]
 rw[if_neg (by decide)]
 simp only[Option.map_some,Option.some.injEq,D.int.injEq,true_and]
 rw[Int.tmod_eq_emod_of_nonneg (by omega)]
theorem conv_8(st:St)(n:Int)(h0:0≤n)(h4:n<4):pconv st (.int .i64) (.int .u8 n)=some (.int .i64 n):=by
 simp only[pconv,Option.some.injEq,D.int.injEq,true_and]
 exact wrap_i64 (by omega) (by omega)
set_option maxHeartbeats 16000000 in
set_option maxRecDepth 20000 in
theorem lw_TopChangeOfUnits(x:D)(hx:ExP x)(v:Int×List Int)(hv:v.2.length=16)(base factor:UInt8):@wW GG TLW F_wagonpooltop_TopChangeOfUnits.code (argF [x,envD v.1 v.2,byteD base,byteD factor]) [] ⟨retQ F_wagonpooltop_TopChangeOfUnits.res (.bool true)⟩:=by
 obtain⟨z,v⟩:=v
 dsimp only at hv ⊢
 have cs:=call_sane
 have cz:sp_size 31 [x,.int .i64 31]=some (.int .i64 (sizeF 31 31 x:Int)):=call_size 31 31 x ⟨by omega,by omega,by omega,hx⟩
 have hz:(30:Int)<(sizeF 31 31 x:Int)∨hgt 30 x=true:=by
  by_cases h:30<sizeF 31 31 x
  ·exact .inl (by omega)
  ·exact .inr (sizeF_hgt 31 31 x hx (by omega) (by omega) (by omega) 30 (by omega))
 have hb:=rem_4 base
 have hf:=rem_4 factor
 generalize hk:(base.toNat:Int) % 4=k at*
 generalize hg:(factor.toNat:Int) % 4=g at*
 have k1:0≤k:=by omega
 have k2:k<4:=by omega
 have f1:0≤g:=by omega
 have f2:g<4:=by omega
 have hcb:=fun st=>conv_8 st k k1 k2
 have hcf:=fun st=>conv_8 st g f1 f2
 obtain⟨n,rfl⟩:∃ n:Nat,k=(n:Int):=⟨k.toNat,by omega⟩
 have hx2:=hx
 obtain⟨op,m,u0,u1,u2,u3,els,hl,hel⟩:=hx
 generalize sizeF 31 31 (exD op m u0 u1 u2 u3 els)=s at*
 unfold F_wagonpooltop_TopChangeOfUnits
 by_cases c1:(30:Int)<(s:Int)
 ·simp (disch:=first|omega|decide) only[push_cast,↓reduceIte,Nat.reduceEqDiff,cs,hb,hf,hcb,hcf,add_i,cz,c1]
 have hh:hgt 30 (exD op m u0 u1 u2 u3 els)=true:=hz.resolve_left c1
 have ca:=call_scaled 30 _ n (1+g) ⟨hx2,hh,by omega,by omega,by omega,by omega⟩
 have ce:=call_scE (z,v) n (1+g) ⟨hv,by omega,by omega,by omega⟩
 have hvl:(scV n (1+g) v).length=16:=by rw[scV_len]; exact hv
 cases hs:scU n (1+g) 30 (exD op m u0 u1 u2 u3 els)with
 |none=>
  rw[hs]at ca
  have ca:sp_scaled 30 [exD op m u0 u1 u2 u3 els,.int .i64 (n:Int),.int .i64 (1+g)]=some (.tup [exD 0 0 0 0 0 0 [],.bool false]):=ca
  cases hi:inM v with
  |false=>
   rw[show scE n (1+g) (z,v)=(0,z16)from by unfold scE; rw[hi]; rfl,hi]at ce
   simp (disch:=first|omega|decide) only[push_cast,↓reduceIte,Nat.reduceEqDiff,Nat.reduceAdd,cs,hb,hf,hcb,hcf,add_i,cz,c1,ca,ce,ldE _ _ hv,stE 1 z16_length z16_length]
  |true=>
   rw[show scE n (1+g) (z,v)=(z,scV n (1+g) v)from by unfold scE; rw[hi]; rfl,hi]at ce
   simp (disch:=first|omega|decide) only[push_cast,↓reduceIte,Nat.reduceEqDiff,Nat.reduceAdd,cs,hb,hf,hcb,hcf,add_i,cz,c1,ca,ce,ldE _ _ hv,stE 1 z16_length hvl]
 |some y=>
  have hyP:=scU_exP n (1+g) 30 hx2 hs
  rw[hs]at ca
  have ca:sp_scaled 30 [exD op m u0 u1 u2 u3 els,.int .i64 (n:Int),.int .i64 (1+g)]=some (.tup [y,.bool true]):=ca
  cases hi:inM v with
  |false=>
   rw[show scE n (1+g) (z,v)=(0,z16)from by unfold scE; rw[hi]; rfl,hi]at ce
   obtain⟨p0,p1,p2,p3,p4,p5,p6,_,_⟩:=hyP
   simp (disch:=first|omega|decide) only[push_cast,↓reduceIte,Nat.reduceEqDiff,Nat.reduceAdd,cs,hb,hf,hcb,hcf,add_i,cz,c1,ca,ce,ldE _ _ hv,stE 1 z16_length z16_length]
  |true=>
   rw[show scE n (1+g) (z,v)=(z,scV n (1+g) v)from by unfold scE; rw[hi]; rfl,hi]at ce
   obtain⟨hfr,hus⟩:=scU_f1 hx2 hs
   have cu:=call_tUnit 30 _ ⟨hx2,hfr,hus⟩
   cases hu:unitU 30 (exD op m u0 u1 u2 u3 els)with
   |none=>rw[hu]at hus; cases hus
   |some d=>
   have hvb:∀ i,-1048576≤v.getD i 0∧v.getD i 0≤1048576:=by
    intro i
    unfold inM at hi
    rw[List.all_eq_true]at hi
    by_cases hl:i<v.length
    ·have:=hi _ (List.getElem_mem hl)
     simp only[Bool.and_eq_true,decide_eq_true_eq]at this
     rw[List.getD_eq_getElem?_getD,List.getElem?_eq_getElem hl]
     exact this
    ·rw[List.getD_eq_getElem?_getD,List.getElem?_eq_none (by omega)]
     simp
   obtain⟨l1,l2,l3,l4⟩:=units_law (k:=n) (by omega) (f:=1+g) (by omega) (by omega) z v hv hvb hx2 hs hu
   have hdl:=(unitU_dim 30 hx2 hfr hu).1
   have ld:=fun sz lent=>ldO_map sz lent nI d n (by omega)
   rw[show d.getD n default=d.getD n 0 from rfl]at ld
   have cp:=call_pow (1+g) (d.getD n 0) ⟨by omega,by omega⟩
   have hp:=powU_pos (f:=1+g) (d:=d.getD n 0) (by omega) (by omega)
   obtain⟨a,b,c,e,rfl,_⟩:=dimB_of (unitU_dim 30 hx2 hfr hu)
   rw[hu,oD_some]at cu
   have cx:sp_peval [exD op m u0 u1 u2 u3 els,envD z v]=some (.tup [.int .i64 (evalU z v (exD op m u0 u1 u2 u3 els)).1,.int .i64 (evalU z v (exD op m u0 u1 u2 u3 els)).2]):=call_peval _ (z,v) ⟨hv,hx2⟩
   have cy:sp_peval [y,envD z (scV n (1+g) v)]=some (.tup [.int .i64 (evalU z (scV n (1+g) v) y).1,.int .i64 (evalU z (scV n (1+g) v) y).2]):=call_peval _ (z,scV n (1+g) v) ⟨hvl,hyP⟩
   have ld:∀ sz lent,ldO (some ⟨false,sz,d4 a b c e,lent⟩) 1 false n=some (.int .i64 ([a,b,c,e].getD n 0)):=ld
   generalize evalU z v (exD op m u0 u1 u2 u3 els)=r at*
   generalize evalU z (scV n (1+g) v) y=t at*
   generalize [a,b,c,e].getD n 0=q at*
   generalize powU (1+g) q=P at*
   obtain⟨r1,r2⟩:=r
   obtain⟨t1,t2⟩:=t
   dsimp only at cx cy l3 l4
   have w1:¬ q<0:=by omega
   have w2:¬ 3<q:=by omega
   obtain⟨p0,p1,p2,p3,p4,p5,p6,_,_⟩:=hyP
   by_cases hr:r2=0
   ·by_cases ht:t2=0
    ·obtain⟨e1,e2⟩:=l4 hr ht
     subst e1
     have hin:=inI_iff.1 e2
     have hmul:pbin .mul (.int .i64 r1) (.int .i64 P)=some (.int .i64 (r1*P)):=by
      have h1:-9007199254740992*P≤r1*P:=Int.mul_le_mul_of_nonneg_right (by omega) (by omega)
      have h2:r1*P≤9007199254740992*P:=Int.mul_le_mul_of_nonneg_right (by omega) (by omega)
      exact mul_i (by omega) (by omega)
     subst hr; subst ht
     simp (disch:=first|omega|decide) only[push_cast,↓reduceIte,Nat.reduceEqDiff,Nat.reduceAdd,cs,hb,hf,hcb,hcf,add_i,cz,c1,ca,ce,ldE _ _ hv,ldE _ _ hvl,stE 1 z16_length hvl,cu,cx,cy,cp,hmul,idxA_ptr,Int.toNat_natCast,Nat.zero_add,ld,w1,w2]
    ·have e3:=l3 hr ht
     subst hr; subst e3
     simp (disch:=first|omega|decide) only[push_cast,↓reduceIte,Nat.reduceEqDiff,Nat.reduceAdd,cs,hb,hf,hcb,hcf,add_i,cz,c1,ca,ce,ldE _ _ hv,ldE _ _ hvl,stE 1 z16_length hvl,cu,cx,cy,idxA_ptr,Int.toNat_natCast,Nat.zero_add,ld,w1,w2,Int.reduceEq]
   ·simp (disch:=first|omega|decide) only[push_cast,↓reduceIte,Nat.reduceEqDiff,Nat.reduceAdd,cs,hb,hf,hcb,hcf,add_i,cz,c1,ca,ce,ldE _ _ hv,ldE _ _ hvl,stE 1 z16_length hvl,cu,cx,cy,idxA_ptr,Int.toNat_natCast,Nat.zero_add,ld,w1,w2,hr]
theorem tlw_ok:TblOK Tryz.prog GG TLW:=tb_ok (all_cons c_sane (all_cons (c_size 31) (all_cons (c_scaled 30) (all_cons c_scE (all_cons (c_tUnit 30) (all_cons c_peval (all_cons c_pow all_nil))))))) all_nil
theorem law_TopChangeOfUnits:Contract Tryz.prog GG 3 (lawSp [tyEx,tyEnv,.int .u8,.int .u8]):=by
 refine lawC (T:=TLW) tr_wagonpooltop_TopChangeOfUnits tlw_ok ?_
 intro xs h
 obtain⟨x0,xs,rfl,h0,h⟩:=hasAll_cons h
 obtain⟨x1,xs,rfl,h1,h⟩:=hasAll_cons h
 obtain⟨x2,xs,rfl,h2,h⟩:=hasAll_cons h
 obtain⟨x3,xs,rfl,h3,h⟩:=hasAll_cons h
 obtain rfl:=hasAll_nil h
 obtain⟨v,rfl,hv⟩:=has_env h1
 obtain⟨b,rfl⟩:=has_u8 h2
 obtain⟨f,rfl⟩:=has_u8 h3
 exact lw_TopChangeOfUnits x0 (has_ex h0) v hv b f
end Go.Proofs.YtfbbaceiimdejaaGreatDoor.PI
