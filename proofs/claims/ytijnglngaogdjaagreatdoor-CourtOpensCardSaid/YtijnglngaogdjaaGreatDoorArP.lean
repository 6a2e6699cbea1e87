/-
  The plain law of runs: a valid program's states.
  Conditions: none; these are lemmas.
-/
import Derived.Test.YtijnglngaogdjaaGreatDoorArD
import Derived.Test.YtijnglngaogdjaaGreatDoorEngHe
set_option linter.unusedVariables false
set_option linter.unusedSimpArgs false
namespace Go.Proofs.YtijnglngaogdjaaGreatDoor.PI
open Go
set_option linter.unusedSimpArgs false
set_option maxHeartbeats 8000000
set_option maxRecDepth 20000
set_option linter.unusedVariables false
theorem sl_lo(st:St){sz:Nat}(h0:sz≠0)(els:List D)(t:Bool){k:Nat}(h:k≤els.length):yc6 st sz (.slc (nz sz els) els t) (some (.int .i64 (k:Int))) none none=some (.slc (nz sz els) (els.drop k) t):=by
 have h1:((nz sz els == sz || els.isEmpty) && sz != 0)=true:=by
  cases els <;> simp[nz,h0]
 have h2:yd5 (.int .i64 (k:Int))=some k:=by simp[yd5]
 simp only[yc6,h1,if_true,bnd,h2]
 rw[if_pos ⟨h,Nat.le_refl _⟩,List.take_length,beq_self_eq_true,Bool.and_true]
theorem sl_hi(st:St){sz:Nat}(h0:sz≠0)(els:List D)(t:Bool){k:Nat}(h:k≤els.length):yc6 st sz (.slc (nz sz els) els t) none (some (.int .i64 (k:Int))) none=some (.slc (nz sz els) (els.take k) (t && k == els.length)):=by
 have h1:((nz sz els == sz || els.isEmpty) && sz != 0)=true:=by
  cases els <;> simp[nz,h0]
 have h2:bnd (some (.int .i64 (k:Int))) els.length=some k:=by simp[bnd,yd5]
 simp only[yc6,h1,if_true,h2]
 simp only[bnd]
 rw[if_pos ⟨Nat.zero_le _,h⟩,List.drop_zero]
theorem sl_hh(st:St){sz:Nat}(h0:sz≠0)(els:List D)(t:Bool){k:Nat}(h:k≤els.length):yc6 st sz (.slc (nz sz els) els t) none (some (.int .i64 (k:Int))) (some (.int .i64 (k:Int)))=some (.slc (nz sz els) (els.take k) true):=by
 have h1:((nz sz els == sz || els.isEmpty) && sz != 0)=true:=by
  cases els <;> simp[nz,h0]
 have h2:bnd (some (.int .i64 (k:Int))) els.length=some k:=by simp[bnd,yd5]
 have h3:yd5 (.int .i64 (k:Int))=some k:=by simp[yd5]
 simp only[yc6,h1,if_true,h2,h3]
 simp only[bnd]
 rw[if_pos (by simp[h]),List.drop_zero]
theorem Ydi(s:Sta):(staC s).all D.isCell=true:=(rfl)
theorem yeo(s:Sta):boxD (staD s)=some (staC s):=(rfl)
theorem yeu:boxD (.agg [.int .i64 0,.int .i64 0,.int .i64 0,.int .i64 0,.slc 0 [] true])=some [.int .i64 0,.int .i64 0,.int .i64 0,.int .i64 0,.slc 0 [] true]:=(rfl)
theorem yn3(st:St)(s:Sta):imm st (staD s)=some (staD s):=by
 simp only[staD,staC,ybq,imm,immL,imm1,yuk]
 rfl
theorem yx2(s:Sta):keys (staD s)=[]:=(rfl)
theorem ye6(lent:Bool)(s:Sta):ldO (some ⟨false,1,staC s,lent⟩) 1 false 0=some (.int .i64 s.pc):=(rfl)
theorem yfx(lent:Bool)(s:Sta):ldO (some ⟨false,1,staC s,lent⟩) 1 false 1=some (.int .i64 s.fuel):=(rfl)
theorem ygi(lent:Bool)(s:Sta):ldO (some ⟨false,1,staC s,lent⟩) 1 false 2=some (.int .i64 s.status):=(rfl)
theorem ynz(lent:Bool)(s:Sta):ldO (some ⟨false,1,staC s,lent⟩) 1 false 3=some (.int .i64 s.clause):=(rfl)
theorem ysr(lent:Bool)(s:Sta):ldO (some ⟨false,1,staC s,lent⟩) 1 false 4=some (ybq s.stack):=(rfl)
theorem yos(lent:Bool)(s:Sta):ldO (some ⟨false,1,staC s,lent⟩) 5 true 0=some (staD s):=(rfl)
theorem ypm(s:Sta):stO (some ⟨false,1,[.int .i64 0,.int .i64 0,.int .i64 0,.int .i64 0,.slc 0 [] true],false⟩) 5 0 (staD s)=some ⟨false,1,staC s,false⟩:=(rfl)
theorem yVm(s s':Sta):stO (some ⟨false,1,staC s,false⟩) 5 0 (staD s')=some ⟨false,1,staC s',false⟩:=(rfl)
theorem yF1(l:List Int):ybq l=.slc (nz 1 (l.map nI)) (l.map nI) false:=(rfl)
def opC(a b c d:Int)(t:D)(k:Int)(r:Dig):List D:=.int .i64 a::.int .i64 b::.int .i64 c::.int .i64 d::t::.int .i64 k::digC r
theorem yj5(o:Opn):opnC o=opC o.pc o.fuel o.status o.clause (ybq o.top) o.depth o.rest:=(rfl)
theorem yq1(a b c d:Int)(t:D)(k:Int)(r:Dig):(opC a b c d t k r).length=38:=by simp[opC,yaa]
theorem yO2(a b c d:Int){t:D}(ht:t.isCell=true)(k:Int)(r:Dig):(opC a b c d t k r).all D.isCell=true:=by
 simp only[opC,List.all_cons,ht,yCu,Bool.true_and]
 exact yet (fun _=>rfl) r
theorem ysl:(D.int .i64 0::.int .i64 0::.int .i64 0::.int .i64 0::.slc 0 [] true::.int .i64 0::digC yab)=opC 0 0 0 0 (.slc 0 [] true) 0 yab:=(rfl)
theorem Yj0(a b c d:Int){t:D}(ht:t.isCell=true)(k:Int)(r:Dig):boxD (.agg (opC a b c d t k r))=some (opC a b c d t k r):=by
 rw[show boxD (.agg (opC a b c d t k r))=if(opC a b c d t k r).all D.isCell then some (opC a b c d t k r)else none from rfl,if_pos (yO2 a b c d ht k r)]
theorem yma(o:Opn):boxD (opnD o)=some (opnC o):=by
 rw[opnD,yj5,Yj0 _ _ _ _ rfl]
theorem st_op(a b c d a' b' c' d':Int)(t:D){t':D}(ht:t'.isCell=true)(k k':Int)(r r':Dig):stO (some ⟨false,1,opC a b c d t k r,false⟩) 38 0 (.agg (opC a' b' c' d' t' k' r'))=some ⟨false,1,opC a' b' c' d' t' k' r',false⟩:=
 yi2 1 _ _ 38 (yq1 ..) (yq1 ..) (yO2 _ _ _ _ ht _ _)
theorem yS1(lent:Bool)(a b c d:Int)(t:D)(k:Int)(r:Dig):ldO (some ⟨false,1,opC a b c d t k r,lent⟩) 38 true 0=some (.agg (opC a b c d t k r)):=yh0 1 lent _ 38 (yq1 ..)
theorem Yjm(lent:Bool)(a b c d:Int)(t:D)(k:Int)(r:Dig):ldO (some ⟨false,1,opC a b c d t k r,lent⟩) 1 false 0=some (.int .i64 a):=ycs (A:=[]) rfl rfl
theorem Yjl(lent:Bool)(a b c d:Int)(t:D)(k:Int)(r:Dig):ldO (some ⟨false,1,opC a b c d t k r,lent⟩) 1 false 1=some (.int .i64 b):=ycs (A:=[.int .i64 a]) rfl rfl
theorem yYl(lent:Bool)(a b c d:Int)(t:D)(k:Int)(r:Dig):ldO (some ⟨false,1,opC a b c d t k r,lent⟩) 1 false 2=some (.int .i64 c):=ycs (A:=[.int .i64 a,.int .i64 b]) rfl rfl
theorem Yjk(lent:Bool)(a b c d:Int)(t:D)(k:Int)(r:Dig):ldO (some ⟨false,1,opC a b c d t k r,lent⟩) 1 false 3=some (.int .i64 d):=ycs (A:=[.int .i64 a,.int .i64 b,.int .i64 c]) rfl rfl
theorem yYk(lent:Bool)(a b c d:Int)(t:D)(k:Int)(r:Dig):ldO (some ⟨false,1,opC a b c d t k r,lent⟩) 1 false 4=some t:=ycs (A:=[.int .i64 a,.int .i64 b,.int .i64 c,.int .i64 d]) rfl rfl
theorem yI2(lent:Bool)(a b c d:Int)(t:D)(k:Int)(r:Dig):ldO (some ⟨false,1,opC a b c d t k r,lent⟩) 1 false 5=some (.int .i64 k):=ycs (A:=[.int .i64 a,.int .i64 b,.int .i64 c,.int .i64 d,t]) rfl rfl
theorem Yjj(lent:Bool)(a b c d:Int)(t:D)(k:Int)(r:Dig):ldO (some ⟨false,1,opC a b c d t k r,lent⟩) 32 true 6=some (digD r):=yj9 (A:=[.int .i64 a,.int .i64 b,.int .i64 c,.int .i64 d,t,.int .i64 k]) (B:=digC r) (C:=[]) (by simp[opC]) rfl (yaa r)
theorem Yoq(a b c d:Int){t:D}(ht:t.cells=[t])(hc:t.isCell=true)(k:Int)(r:Dig):yar (opC 0 0 0 0 (.slc 0 [] true) 0 yab) [(0,1,.int .i64 a),(1,1,.int .i64 b),(2,1,.int .i64 c),(3,1,.int .i64 d),(4,1,t),(5,1,.int .i64 k),(6,32,digD r)]=some (opC a b c d t k r):=by
 refine(ych (cs:=opC 0 0 0 0 (.slc 0 [] true) 0 yab) (cs':=opC a 0 0 0 (.slc 0 [] true) 0 yab) (A:=[]) (B:=[.int .i64 0]) (xs:=[.int .i64 a]) rfl rfl rfl rfl rfl rfl rfl).trans ?_
 refine(ych (cs:=opC a 0 0 0 (.slc 0 [] true) 0 yab) (cs':=opC a b 0 0 (.slc 0 [] true) 0 yab) (A:=[.int .i64 a]) (B:=[.int .i64 0]) (xs:=[.int .i64 b]) rfl rfl rfl rfl rfl rfl rfl).trans ?_
 refine(ych (cs:=opC a b 0 0 (.slc 0 [] true) 0 yab) (cs':=opC a b c 0 (.slc 0 [] true) 0 yab) (A:=[.int .i64 a,.int .i64 b]) (B:=[.int .i64 0]) (xs:=[.int .i64 c]) rfl rfl rfl rfl rfl rfl rfl).trans ?_
 refine(ych (cs:=opC a b c 0 (.slc 0 [] true) 0 yab) (cs':=opC a b c d (.slc 0 [] true) 0 yab) (A:=[.int .i64 a,.int .i64 b,.int .i64 c]) (B:=[.int .i64 0]) (xs:=[.int .i64 d]) rfl rfl rfl rfl rfl rfl rfl).trans ?_
 refine(ych (cs:=opC a b c d (.slc 0 [] true) 0 yab) (cs':=opC a b c d t 0 yab) (A:=[.int .i64 a,.int .i64 b,.int .i64 c,.int .i64 d]) (B:=[.slc 0 [] true]) (xs:=[t]) rfl rfl rfl rfl ht rfl (by simp[hc])).trans ?_
 refine(ych (cs:=opC a b c d t 0 yab) (cs':=opC a b c d t k yab) (A:=[.int .i64 a,.int .i64 b,.int .i64 c,.int .i64 d,t]) (B:=[.int .i64 0]) (xs:=[.int .i64 k]) rfl rfl rfl rfl rfl rfl rfl).trans ?_
 refine(ych (cs:=opC a b c d t k yab) (cs':=opC a b c d t k r) (A:=[.int .i64 a,.int .i64 b,.int .i64 c,.int .i64 d,t,.int .i64 k]) (B:=digC yab) (C:=[]) (xs:=digC r) (by simp[opC]) (by simp[opC]) rfl (yaa _) rfl (yaa _) (yet (fun _=>rfl) r)).trans ?_
 rfl
theorem yP3(a b c d:Int)(sz:Nat)(els:List D)(tt:Bool)(k:Int)(r:Dig):yar (opC 0 0 0 0 (.slc 0 [] true) 0 yab) [(0,1,.int .i64 a),(1,1,.int .i64 b),(2,1,.int .i64 c),(3,1,.int .i64 d),(4,1,.slc sz els tt),(5,1,.int .i64 k),(6,32,digD r)]=some (opC a b c d (.slc sz els tt) k r):=Yoq a b c d rfl rfl k r
theorem yba(a b c d:Int)(sz:Nat)(els:List D)(tt:Bool)(k:Int)(r:Dig):boxD (.agg (opC a b c d (.slc sz els tt) k r))=some (opC a b c d (.slc sz els tt) k r):=Yj0 a b c d rfl k r
theorem yHp(a b c d a' b' c' d':Int)(t:D)(sz:Nat)(els:List D)(tt:Bool)(k k':Int)(r r':Dig):stO (some ⟨false,1,opC a b c d t k r,false⟩) 38 0 (.agg (opC a' b' c' d' (.slc sz els tt) k' r'))=some ⟨false,1,opC a' b' c' d' (.slc sz els tt) k' r',false⟩:=st_op a b c d a' b' c' d' t rfl k k' r r'
theorem yPo(st:St)(a b c d:Int)(sz:Nat)(els:List D)(tt:Bool)(k:Int)(r:Dig):imm st (.agg (opC a b c d (.slc sz els tt) k r))=some (.agg (opC a b c d (.slc (nz sz els) els false) k r)):=by
 simp only[opC,imm,yJf,yPs,yF4,yPq,Option.bind_some,Option.map_some]
theorem ya7(st:St)(o:Opn):imm st (opnD o)=some (opnD o):=by
 rw[opnD,yj5,yF1,yPo,yuk]
theorem yda(o:Opn):keys (opnD o)=[]:=by
 simp only[opnD,opnC,keys,List.flatMap_cons]
 show []++([]++([]++([]++([]++([]++_)))))=[]
 have:(digC o.rest).flatMap key1=[]:=yPk o.rest
 rw[this]
 rfl
theorem yUv(c:List Ins)(v:Int×List Int)(o:Opn):tSta.length≤1000∧depV (.list [.bytes (yvz c).bs,.bytes (inpF v).bs,.int o.pc,.int o.fuel,.int o.status,.int o.clause,.int (o.depth+o.top.length),.bytes (ypd o.rest o.top).bs])≤16∧
  (encV (.list [.bytes (yvz c).bs,.bytes (inpF v).bs,.int o.pc,.int o.fuel,.int o.status,.int o.clause,.int (o.depth+o.top.length),.bytes (ypd o.rest o.top).bs])).length≤4294967000:=by
 have h1:=yuy (yvz c)
 have h2:=yuy (inpF v)
 have h3:=yuy (ypd o.rest o.top)
 have h4:=yg6 o.pc
 have h5:=yg6 o.fuel
 have h6:=yg6 o.status
 have h7:=yg6 o.clause
 have h8:=yg6 (o.depth+o.top.length)
 refine⟨by decide,by simp[depV,yjn],?_⟩
 rw[yg5]
 simp only[List.length_cons,List.length_append,List.length_nil,List.flatMap_cons,List.flatMap_nil]
 omega
noncomputable def yD9:List D→Option D:=spOf (α:=List Ins×(Int×List Int)×Opn) (fun a=>[.slc (nz 3 (a.1.map insD)) (a.1.map insD) false,evD a.2.1,opnD a.2.2]) (fun a=>a.1.length≤4294967296∧a.2.1.2.length=16∧a.2.2.top.length≤4294967296∧0≤a.2.2.depth∧a.2.2.depth≤4294967296) (fun a=>digD (yBx a.1 a.2.1 a.2.2))
theorem yJ5(c:List Ins)(v:Int×List Int)(o:Opn)(h:c.length≤4294967296∧v.2.length=16∧o.top.length≤4294967296∧0≤o.depth∧o.depth≤4294967296):yD9 [.slc (nz 3 (c.map insD)) (c.map insD) false,evD v,opnD o]=some (digD (yBx c v o)):=
 yae (fun⟨a0,a1,a2⟩ ⟨b0,b1,b2⟩ h=>by simp only[List.cons.injEq,D.slc.injEq,and_true,yea,yq0,yh2]at h; simp[h]) (c,v,o) h
theorem Yqz(c:List Ins)(v:Int×List Int)(o:Opn)(h:c.length≤4294967296∧v.2.length=16∧o.top.length≤4294967296∧0≤o.depth∧o.depth≤4294967296):@wW GG (tb [(143,yLa),(144,yLb),(146,yxo),(145,yvr),(142,yy2),(141,ynk),(140,yvs)] []) yoe.code (argF [.slc (nz 3 (c.map insD)) (c.map insD) false,evD v,opnD o]) [] ⟨retQ yoe.res (digD (yBx c v o))⟩:=by
 obtain⟨hc,hv,ht,hd0,hd1⟩:=h
 unfold yoe
 have hh:=yu5 tSta _ (yUv c v o)
 simp only[tSta]at hh
 have h1:=Ya2 c hc
 have h2:=Ya3 v hv
 have h3:=yDc o.rest o.top ht
 simp (disch:=first|omega|decide) only[push_cast,↓reduceIte,Nat.reduceEqDiff,Nat.reduceAdd,ydo,yma,yj5,yF1,ypf hv,ybg,Yjm,Yjl,yYl,Yjk,yYk,yI2,Yjj,h1,h2,h3,yqc,yA7,yz9,yuq,yaz,lit_8,lst_8,hh]
 rfl
theorem Yjv:Contract Tryz.prog GG 94 yD9:=
 yac yG6 (yan (all_cons Yvf (all_cons Yvg (all_cons Ybi (all_cons yQj (all_cons Ybj (all_cons yQk (all_cons yQl all_nil))))))) all_nil) (fun a h=>Yqz a.1 a.2.1 a.2.2 h)
theorem Ysd(st:St)(l:List Int)(t:Bool){k:Nat}(h:k≤l.length):yc6 st 1 (.slc (nz 1 (l.map nI)) (l.map nI) t) (some (.int .i64 (k:Int))) none none=some (.slc (nz 1 (l.map nI)) ((l.drop k).map nI) t):=by
 rw[sl_lo st (by decide) (l.map nI) t (by simpa using h),List.map_drop]
theorem Yse(st:St)(l:List Int){k:Nat}(h:k≤l.length):yc6 st 1 (.slc (nz 1 (l.map nI)) (l.map nI) false) none (some (.int .i64 (k:Int))) none=some (.slc (nz 1 (l.map nI)) ((l.take k).map nI) false):=by
 rw[sl_hi st (by decide) (l.map nI) false (by simpa using h),List.map_take]; rfl
theorem Ysf(st:St)(l:List Int)(t:Bool){k:Nat}(h:k≤l.length):yc6 st 1 (.slc (nz 1 (l.map nI)) (l.map nI) t) none (some (.int .i64 (k:Int))) (some (.int .i64 (k:Int)))=some (.slc (nz 1 (l.map nI)) ((l.take k).map nI) true):=by
 rw[sl_hh st (by decide) (l.map nI) t (by simpa using h),List.map_take]
theorem Yfa(s:Sta)(n:Int):yFg s n≤s.stack.length:=Nat.sub_le _ _
theorem Yfb(s:Sta)(n:Int):(s.stack.length:Int) - min (max n 0) (s.stack.length:Int)=(yFg s n:Int):=by unfold yFg; omega
noncomputable def yEa:List D→Option D:=spOf (α:=Sta×Int) (fun a=>[staD a.1,.int .i64 a.2]) (fun a=>a.1.stack.length≤4294967296) (fun a=>opnD (yIk a.1 a.2))
theorem yT4(s:Sta)(n:Int)(h:s.stack.length≤4294967296):yEa [staD s,.int .i64 n]=some (opnD (yIk s n)):=
 yae (fun⟨a0,a1⟩ ⟨b0,b1⟩ h=>by simp only[List.cons.injEq,D.int.injEq,true_and,and_true,yxn]at h; simp[h]) (s,n) h
theorem Yj7(s:Sta)(n:Int)(h:s.stack.length≤4294967296):@wW GG (tb [(96,yK9)] []) yri.code (argF [staD s,.int .i64 n]) [] ⟨retQ yri.res (opnD (yIk s n))⟩:=by
 unfold yri
 have hk:=Yfa s n
 have hs:=Ya1 (s.stack.take (yFg s n)) (by rw[List.length_take]; omega)
 have hm1:min (max n 0) (s.stack.length:Int)≤s.stack.length:=Int.min_le_right _ _
 have hm2:0≤min (max n 0) (s.stack.length:Int):=by omega
 simp (disch:=first|omega|decide) only[push_cast,↓reduceIte,Nat.reduceEqDiff,yeo,ysl,yba,ye6,yfx,ygi,ynz,ysr,yF1,ydy,Yfb,Ysd,Yse,hs,yP3,yHp,yS1,yPo,yXs,yXr]
 rfl
theorem Ypk:Contract Tryz.prog GG 42 yEa:=
 yac yK2 (yan (all_cons Yve all_nil) all_nil) (fun a h=>Yj7 a.1 a.2 h)
noncomputable def yLc:List D→Option D:=spOf (α:=List Ins×(Int×List Int)×Sta) (fun a=>[.slc (nz 3 (a.1.map insD)) (a.1.map insD) false,evD a.2.1,staD a.2.2]) (fun a=>a.1.length≤4294967296∧a.2.1.2.length=16∧a.2.2.stack.length≤4294967296) (fun a=>digD (digF a.1 a.2.1 a.2.2))
theorem Ya4(c:List Ins)(v:Int×List Int)(s:Sta)(h:c.length≤4294967296∧v.2.length=16∧s.stack.length≤4294967296):yLc [.slc (nz 3 (c.map insD)) (c.map insD) false,evD v,staD s]=some (digD (digF c v s)):=
 yae (fun⟨a0,a1,a2⟩ ⟨b0,b1,b2⟩ h=>by simp only[List.cons.injEq,D.slc.injEq,and_true,yea,yxn,yh2]at h; simp[h]) (c,v,s) h
theorem Yq6(c:List Ins)(v:Int×List Int)(s:Sta)(h:c.length≤4294967296∧v.2.length=16∧s.stack.length≤4294967296):@wW GG (tb [(42,yEa),(94,yD9)] []) ylq.code (argF [.slc (nz 3 (c.map insD)) (c.map insD) false,evD v,staD s]) [] ⟨retQ ylq.res (digD (digF c v s))⟩:=by
 obtain⟨hc,hv,hs⟩:=h
 unfold ylq
 have ho:=yT4 s s.stack.length hs
 have hk:yFg s s.stack.length=0:=by unfold yFg; omega
 have hw:=yJ5 c v (yIk s s.stack.length) ⟨hc,hv,by simp only[yIk,List.length_drop]; omega,by simp only[yIk,hk]; omega,by simp only[yIk,hk]; omega⟩
 simp (disch:=first|omega|decide) only[push_cast,↓reduceIte,Nat.reduceEqDiff,Nat.reduceAdd,ydo,ypf hv,ybg,yeo,yos,ysr,yF1,yn3,yx2,ho,ya7,hw]
 rfl
theorem Yvh:Contract Tryz.prog GG 49 yLc:=
 yac yDv (yan (all_cons Ypk (all_cons Yjv all_nil)) all_nil) (fun a h=>Yq6 a.1 a.2.1 a.2.2 h)
theorem Yak{c:List Ins}{v:Int×List Int}{o:Opn}(h0:0≤o.depth)(h1:o.depth≤64):ycx c v o=yBx c v o:=if_neg (by omega)
theorem Yaj{c:List Ins}{v:Int×List Int}{o:Opn}(h0:o.depth<0):ycx c v o=yab:=if_pos (.inl h0)
theorem Yal{c:List Ins}{v:Int×List Int}{o:Opn}(h0:64<o.depth):ycx c v o=yab:=if_pos (.inr h0)
noncomputable def yy1:List D→Option D:=spOf (α:=List Ins×(Int×List Int)×Opn) (fun a=>[.slc (nz 3 (a.1.map insD)) (a.1.map insD) false,evD a.2.1,opnD a.2.2]) (fun a=>a.1.length≤4294967296∧a.2.1.2.length=16∧a.2.2.top.length≤4294967296) (fun a=>digD (ycx a.1 a.2.1 a.2.2))
theorem yA6(c:List Ins)(v:Int×List Int)(o:Opn)(h:c.length≤4294967296∧v.2.length=16∧o.top.length≤4294967296):yy1 [.slc (nz 3 (c.map insD)) (c.map insD) false,evD v,opnD o]=some (digD (ycx c v o)):=
 yae (fun⟨a0,a1,a2⟩ ⟨b0,b1,b2⟩ h=>by simp only[List.cons.injEq,D.slc.injEq,and_true,yea,yq0,yh2]at h; simp[h]) (c,v,o) h
theorem Yq7(c:List Ins)(v:Int×List Int)(o:Opn)(h:c.length≤4294967296∧v.2.length=16∧o.top.length≤4294967296):@wW GG (tb [(94,yD9)] []) yol.code (argF [.slc (nz 3 (c.map insD)) (c.map insD) false,evD v,opnD o]) [] ⟨retQ yol.res (digD (ycx c v o))⟩:=by
 obtain⟨hc,hv,ht⟩:=h
 unfold yol
 by_cases h0:o.depth<0
 ·rw[Yaj h0]
  simp (disch:=first|omega|decide) only[push_cast,↓reduceIte,Nat.reduceEqDiff,Nat.reduceAdd,ydo,yma,yj5,yI2,h0]
 ·by_cases h1:64<o.depth
  ·rw[Yal h1]
   simp (disch:=first|omega|decide) only[push_cast,↓reduceIte,Nat.reduceEqDiff,Nat.reduceAdd,ydo,yma,yj5,yI2,h0,h1]
  ·rw[Yak (by omega) (by omega)]
   have hw:=yJ5 c v o ⟨hc,hv,ht,by omega,by omega⟩
   have hi:=fun st=>ya7 st o
   have hk:=yda o
   rw[opnD,yj5]at hw hi hk
   simp (disch:=first|omega|decide) only[push_cast,↓reduceIte,Nat.reduceEqDiff,Nat.reduceAdd,ydo,yma,yj5,yI2,h0,h1,ypf hv,ybg,yS1,hi,hw]
theorem Yjw:Contract Tryz.prog GG 40 yy1:=
 yac yHd (yan (all_cons Yjv all_nil) all_nil) (fun a h=>Yq7 a.1 a.2.1 a.2.2 h)
def yph(op:Int):Int×Int:=if op=1∨op=13∨op=14∨op=15 then(1,9007199254740992)else if op=2 then(1,15)else if op=12 then(2,9007199254740992)else(0,0)
def effF(op:Int):Int×Int:=if op=1∨op=2 then(0,1)else if op=12 then(1,1)else if op=13∨op=15 then(1,0)else if op=14∨op=16 then(0,0)else(2,1)
def ybi(x:Ins):Bool:=decide (1≤x.op∧x.op≤16∧((yph x.op).1≤0→x.n=0)∧((yph x.op).1≤1→x.m=0)∧0≤min x.n x.m∧max x.n x.m≤(yph x.op).2)
theorem yBh(op:Int):yph op=(1,9007199254740992)∨yph op=(1,15)∨yph op=(2,9007199254740992)∨yph op=(0,0):=by
 unfold yph
 split
 ·exact .inl rfl
 ·split
  ·exact .inr (.inl rfl)
  ·split
   ·exact .inr (.inr (.inl rfl))
   ·exact .inr (.inr (.inr rfl))
theorem yTu(op:Int):0≤(effF op).1∧(effF op).1≤2∧0≤(effF op).2∧(effF op).2≤1:=by
 unfold effF
 split
 ·decide
 ·split
  ·decide
  ·split
   ·decide
   ·split <;> decide
noncomputable def yLe:List D→Option D:=spOf (α:=Int) (fun a=>[.int .i64 a]) (fun a=>True) (fun a=>.tup [.int .i64 (yph a).1,.int .i64 (yph a).2])
theorem Ya7(op:Int):yLe [.int .i64 op]=some (.tup [.int .i64 (yph op).1,.int .i64 (yph op).2]):=
 yae (fun a b h=>by simp only[List.cons.injEq,D.int.injEq,true_and,and_true]at h; simp[h]) (op) trivial
theorem Yrc(op:Int):@wW GG (tb [] []) yfm.code (argF [.int .i64 op]) [] ⟨retQ yfm.res (.tup [.int .i64 (yph op).1,.int .i64 (yph op).2])⟩:=by
 unfold yfm yph
 by_cases h1:op=1
 ·subst h1; simp (disch:=first|omega|decide) only[push_cast,↓reduceIte,Nat.reduceEqDiff,true_or]
 ·by_cases h2:op=13
  ·subst h2; simp (disch:=first|omega|decide) only[push_cast,↓reduceIte,Nat.reduceEqDiff,h1,true_or,or_true]
  ·by_cases h3:op=14
   ·subst h3; simp (disch:=first|omega|decide) only[push_cast,↓reduceIte,Nat.reduceEqDiff,h1,h2,true_or,or_true]
   ·by_cases h4:op=15
    ·subst h4; simp (disch:=first|omega|decide) only[push_cast,↓reduceIte,Nat.reduceEqDiff,h1,h2,h3,or_true]
    ·by_cases h5:op=2
     ·subst h5; simp (disch:=first|omega|decide) only[push_cast,↓reduceIte,Nat.reduceEqDiff,h1,h2,h3,h4,or_self]
     ·by_cases h6:op=12
      ·subst h6; simp (disch:=first|omega|decide) only[push_cast,↓reduceIte,Nat.reduceEqDiff,h1,h2,h3,h4,h5,or_self]
      ·simp (disch:=first|omega|decide) only[push_cast,↓reduceIte,Nat.reduceEqDiff,h1,h2,h3,h4,h5,h6,or_self]
theorem Yvk:Contract Tryz.prog GG 148 yLe:=
 yac yti (yan all_nil all_nil) (fun a h=>Yrc a)
noncomputable def ynl:List D→Option D:=spOf (α:=Int) (fun a=>[.int .i64 a]) (fun a=>True) (fun a=>.tup [.int .i64 (effF a).1,.int .i64 (effF a).2])
theorem Ya6(op:Int):ynl [.int .i64 op]=some (.tup [.int .i64 (effF op).1,.int .i64 (effF op).2]):=
 yae (fun a b h=>by simp only[List.cons.injEq,D.int.injEq,true_and,and_true]at h; simp[h]) (op) trivial
theorem Yrb(op:Int):@wW GG (tb [] []) yif.code (argF [.int .i64 op]) [] ⟨retQ yif.res (.tup [.int .i64 (effF op).1,.int .i64 (effF op).2])⟩:=by
 unfold yif effF
 by_cases h1:op=1
 ·subst h1; simp (disch:=first|omega|decide) only[push_cast,↓reduceIte,Nat.reduceEqDiff,true_or]
 ·by_cases h2:op=2
  ·subst h2; simp (disch:=first|omega|decide) only[push_cast,↓reduceIte,Nat.reduceEqDiff,h1,or_true]
  ·by_cases h3:op=12
   ·subst h3; simp (disch:=first|omega|decide) only[push_cast,↓reduceIte,Nat.reduceEqDiff,h1,h2,or_self]
   ·by_cases h4:op=13
    ·subst h4; simp (disch:=first|omega|decide) only[push_cast,↓reduceIte,Nat.reduceEqDiff,h1,h2,h3,or_self,true_or]
    ·by_cases h5:op=15
     ·subst h5; simp (disch:=first|omega|decide) only[push_cast,↓reduceIte,Nat.reduceEqDiff,h1,h2,h3,h4,or_self,or_true]
     ·by_cases h6:op=14
      ·subst h6; simp (disch:=first|omega|decide) only[push_cast,↓reduceIte,Nat.reduceEqDiff,h1,h2,h3,h4,h5,or_self,true_or]
      ·by_cases h7:op=16
       ·subst h7; simp (disch:=first|omega|decide) only[push_cast,↓reduceIte,Nat.reduceEqDiff,h1,h2,h3,h4,h5,h6,or_self,or_true]
       ·simp (disch:=first|omega|decide) only[push_cast,↓reduceIte,Nat.reduceEqDiff,h1,h2,h3,h4,h5,h6,h7,or_self]
theorem Yvj:Contract Tryz.prog GG 101 ynl:=
 yac yyk (yan all_nil all_nil) (fun a h=>Yrb a)
theorem yK5(a b c d:Int):stO (some ⟨false,1,[.int .i64 a,.int .i64 b,.int .i64 c],false⟩) 1 1 (.int .i64 d)=some ⟨false,1,[.int .i64 a,.int .i64 d,.int .i64 c],false⟩:=(rfl)
theorem Ylh(a b c d:Int):stO (some ⟨false,1,[.int .i64 a,.int .i64 b,.int .i64 c],false⟩) 1 2 (.int .i64 d)=some ⟨false,1,[.int .i64 a,.int .i64 b,.int .i64 d],false⟩:=(rfl)
theorem ld_3(lent:Bool)(a b c:D):ldO (some ⟨false,1,[a,b,c],lent⟩) 3 true 0=some (.agg [a,b,c]):=(rfl)
theorem st_3(a b c:Int):stO (some ⟨false,1,[.int .i64 0,.int .i64 0,.int .i64 0],false⟩) 3 0 (.agg [.int .i64 a,.int .i64 b,.int .i64 c])=some ⟨false,1,[.int .i64 a,.int .i64 b,.int .i64 c],false⟩:=(rfl)
theorem yGa(a:Int):yar [.int .i64 0,.int .i64 0,.int .i64 0] [(0,1,.int .i64 a)]=some [.int .i64 a,.int .i64 0,.int .i64 0]:=(rfl)
theorem yF2(x:Ins):insC x=[.int .i64 x.op,.int .i64 x.n,.int .i64 x.m]:=(rfl)
theorem yGv(a b c a' b' c':Int):paeq [0,0,0] false (.agg [.int .i64 a,.int .i64 b,.int .i64 c]) (.agg [.int .i64 a',.int .i64 b',.int .i64 c'])=some (.bool (decide (a=a'∧b=b'∧c=c'))):=by
 simp only[paeq,ya0,ydk,if_true,Option.map_some,Bool.bne_false]
 congr 2
 by_cases h1:a=a' <;> by_cases h2:b=b' <;> by_cases h3:c=c' <;> simp[h1,h2,h3]
noncomputable def yLd:List D→Option D:=spOf (α:=Ins) (fun a=>[insD a]) (fun a=>True) (fun a=>.bool (ybi a))
theorem Ya5(x:Ins):yLd [insD x]=some (.bool (ybi x)):=
 yae (fun a b h=>by simp only[List.cons.injEq,and_true,yq6]at h; simp[h]) (x) trivial
theorem Yra(x:Ins):@wW GG (tb [(148,yLe)] []) yie.code (argF [insD x]) [] ⟨retQ yie.res (.bool (ybi x))⟩:=by
 unfold yie
 obtain⟨op,n,m⟩:=x
 by_cases h1:op<1
 ·rw[show ybi ⟨op,n,m⟩=false from decide_eq_false (by dsimp only; omega)]
  simp (disch:=first|omega|decide) only[push_cast,↓reduceIte,Nat.reduceEqDiff,yav,ybe,h1]
 ·by_cases h2:17≤op
  ·rw[show ybi ⟨op,n,m⟩=false from decide_eq_false (by dsimp only; omega)]
   simp (disch:=first|omega|decide) only[push_cast,↓reduceIte,Nat.reduceEqDiff,yav,ybe,h1,h2]
  ·have hc:=Ya7 op
   have fin:∀ (a b:Int) (n' m':Int),yph op=(a,b)→(a≤0→n'=n)→(0<a→n'=0)→(a≤1→m'=m)→(1<a→m'=0)→ybi ⟨op,n,m⟩=(decide (op=op∧n'=0∧m'=0) && (decide (0≤min n m) && decide (max n m≤b))):=by
    intro a b n' m' e e1 e2 e3 e4
    unfold ybi
    dsimp only
    rw[e]
    rw[Bool.eq_iff_iff]
    simp only[Bool.and_eq_true,decide_eq_true_eq]
    refine⟨fun⟨_,_,p1,p2,p3,p4⟩=>⟨⟨trivial,?_,?_⟩,p3,p4⟩,fun⟨⟨_,p1,p2⟩,p3,p4⟩=>⟨by omega,by omega,?_,?_,p3,p4⟩⟩
    ·by_cases ha:a≤0
     ·rw[e1 ha]; exact p1 ha
     ·exact e2 (by omega)
    ·by_cases ha:a≤1
     ·rw[e3 ha]; exact p2 ha
     ·exact e4 (by omega)
    ·intro ha; rw[← e1 ha]; exact p1
    ·intro ha; rw[← e3 ha]; exact p2
   rcases yBh op with e | e | e | e
   ·rw[fin 1 _ 0 m e (by omega) (by omega) (by omega) (by omega)]
    rw[e]at hc
    rcases Classical.propComplete (m=0)with q0 | q0 <;> rcases Classical.propComplete (0≤min n m)with r1 | r1 <;> rcases Classical.propComplete (max n m≤9007199254740992)with r2 | r2 <;>
     simp (disch:=first|omega|decide) only[push_cast,↓reduceIte,Nat.reduceEqDiff,Int.reduceLT,yav,yew,h1,h2,hc,st_3,yF2,yK5,ld_3,yGa,yGv,q0,r1,r2,and_self,and_false]
   ·rw[fin 1 _ 0 m e (by omega) (by omega) (by omega) (by omega)]
    rw[e]at hc
    rcases Classical.propComplete (m=0)with q0 | q0 <;> rcases Classical.propComplete (0≤min n m)with r1 | r1 <;> rcases Classical.propComplete (max n m≤15)with r2 | r2 <;>
     simp (disch:=first|omega|decide) only[push_cast,↓reduceIte,Nat.reduceEqDiff,Int.reduceLT,yav,yew,h1,h2,hc,st_3,yF2,yK5,ld_3,yGa,yGv,q0,r1,r2,and_self,and_false]
   ·rw[fin 2 _ 0 0 e (by omega) (by omega) (by omega) (by omega)]
    rw[e]at hc
    rcases Classical.propComplete (0≤min n m)with r1 | r1 <;> rcases Classical.propComplete (max n m≤9007199254740992)with r2 | r2 <;>
     simp (disch:=first|omega|decide) only[push_cast,↓reduceIte,Nat.reduceEqDiff,Int.reduceLT,yav,yew,h1,h2,hc,st_3,yF2,yK5,Ylh,ld_3,yGa,yGv,r1,r2,and_self]
   ·rw[fin 0 _ n m e (by omega) (by omega) (by omega) (by omega)]
    rw[e]at hc
    rcases Classical.propComplete (n=0)with q0 | q0 <;> rcases Classical.propComplete (m=0)with q1 | q1 <;> rcases Classical.propComplete (0≤min n m)with r1 | r1 <;> rcases Classical.propComplete (max n m≤0)with r2 | r2 <;>
     simp (disch:=first|omega|decide) only[push_cast,↓reduceIte,Nat.reduceEqDiff,Int.reduceLT,yav,yew,h1,h2,hc,st_3,yF2,ld_3,yGa,yGv,q0,q1,r1,r2,and_true,and_self,and_false]
theorem Yvi:Contract Tryz.prog GG 99 yLd:=
 yac yyj (yan (all_cons Yvk all_nil) all_nil) (fun a h=>Yra a)
noncomputable def yLo:List D→St→Option (D×St):=siOf (α:=Ins) (fun x=>([insD x],[])) (fun _=>True) (fun x=>(.bool (!ybi x),[]))
theorem yJ4(x:Ins):yLo [insD x] []=some (.bool (!ybi x),[]):=
 yua (fun a b e=>by simp only[Ywj,List.cons.injEq,and_true,yq6]at e; rw[e]) x trivial rfl
theorem Ypd:IContract Tryz.prog GG 98 yLo:=by
 refine yp4 (T:=tb [(99,yLd)] []) yvl (yan (all_cons Yvi all_nil) all_nil) ?_
 intro x _
 unfold yo0
 simp (disch:=first|omega|decide) only[push_cast,↓reduceIte,Nat.reduceEqDiff,yav,yuo,Ynv,Ya5]
 rfl
def badI:List Ins→Nat→Int
 |[],_=>-1
 |x::l,i=>if ybi x then badI l (i+1)else i
theorem Ycb:∀ (l:List Ins) (i:Nat),0≤badI l i↔l.all ybi=false
 |[],i=>by simp[badI]
 |x::l,i=>by
  have:=Ycb l (i+1)
  unfold badI
  cases h:ybi x <;> simp[h]
  simpa using this
noncomputable def yV1:List D→St→Option (D×St):=siOf (α:=List Ins) (fun c=>([.slc (nz 3 (c.map insD)) (c.map insD) false,.clo 98 []],[])) (fun c=>c.length≤9223372036854775807) (fun c=>(.int .i64 (badI c 0),[]))
theorem Yhy(c:List Ins)(h:c.length≤9223372036854775807):yV1 [.slc (nz 3 (c.map insD)) (c.map insD) false,.clo 98 []] []=some (.int .i64 (badI c 0),[]):=
 yua (fun a b e=>by simp only[Ywj,List.cons.injEq,D.slc.injEq,and_true,yea]at e; rw[e.2]) c h rfl
theorem yuz{α:Type}[Inhabited α](l:List α){i:Nat}(h:i<l.length):l.drop i=l.getD i default::l.drop (i+1):=by
 rw[List.drop_eq_getElem_cons h,List.getD_eq_getElem?_getD,List.getElem?_eq_getElem h]; rfl
theorem Yva:IContract Tryz.prog GG 147 yV1:=by
 refine yp4 (T:=tb [] [(98,yLo)]) yf1 (yan all_nil (all_cons Ypd all_nil)) ?_
 intro c hc
 unfold yc9
 simp (disch:=first|omega|decide) only[push_cast,↓reduceIte,Nat.reduceEqDiff,Int.reduceNeg]
 refine ybr (fun i:Nat=>[(0,.slc (nz 3 (c.map insD)) (c.map insD) false),(1,.clo 98 []),(7,.int .i64 (c.length:Int)),(8,.int .i64 (i:Int))])
  (fun i=>[]) (fun i=>i≤c.length∧badI (c.drop i) i=badI c 0) (fun i=>c.length - i) 0 (by simp only[push_cast,↓reduceIte,Nat.reduceEqDiff,↓Int.reduceNatCast'] <;> rfl) ⟨by omega,rfl⟩ ?_
 rintro i ⟨hi,hb⟩
 unfold ycj
 simp (disch:=first|omega|decide) only[push_cast,↓reduceIte,Nat.reduceEqDiff]
 refine yai (fun h2=>?_) (fun h2=>?_)
 ·have hil:i<c.length:=by omega
  have hx:=yAb [] c false i hil
  have hdr:=yuz c hil
  obtain⟨x,hxe⟩:∃ x,c.getD i default=x:=⟨_,rfl⟩
  rw[hxe]at hx hdr
  rw[hdr,badI]at hb
  cases hf:ybi x with
  |false=>
   rw[hf]at hb
   have hv:=yJ4 x
   rw[hf]at hv
   simp (disch:=first|omega|decide) only[push_cast,↓reduceIte,Nat.reduceEqDiff,Int.reduceNeg,hx,yfv,hv]
   simp only[Bool.false_eq_true,if_false]at hb
   rw[← hb]
   rfl
  |true=>
   rw[hf]at hb
   have hv:=yJ4 x
   rw[hf]at hv
   simp (disch:=first|omega|decide) only[push_cast,↓reduceIte,Nat.reduceEqDiff,hx,yfv,hv,yaz]
   refine yaj (i+1) ⟨by omega,hb⟩ (by omega) ?_
   simp only[push_cast] <;> rfl
 ·obtain rfl:i=c.length:=by omega
  rw[List.drop_length,badI]at hb
  simp (disch:=first|omega|decide) only[push_cast,↓reduceIte,Int.reduceNeg]
  rw[← hb]
  rfl
noncomputable def yt8:List D→St→Option (D×St):=siOf (α:=List Ins) (fun c=>([.slc (nz 3 (c.map insD)) (c.map insD) false,.clo 98 []],[])) (fun c=>c.length≤9223372036854775807) (fun c=>(.bool (!c.all ybi),[]))
theorem Yh1(c:List Ins)(h:c.length≤9223372036854775807):yt8 [.slc (nz 3 (c.map insD)) (c.map insD) false,.clo 98 []] []=some (.bool (!c.all ybi),[]):=
 yua (fun a b e=>by simp only[Ywj,List.cons.injEq,D.slc.injEq,and_true,yea]at e; rw[e.2]) c h rfl
theorem Yvc:IContract Tryz.prog GG 97 yt8:=by
 refine yp4 (T:=tb [] [(147,yV1)]) yex (yan all_nil (all_cons Yva all_nil)) ?_
 intro c hc
 unfold yck
 have hx:=Yhy c hc
 have hb:decide (0≤badI c 0)=!c.all ybi:=by
  have:=Ycb c 0
  cases h:c.all ybi with
  |true=>rw[h]at this; simp at this ⊢; omega
  |false=>rw[h]at this; simp at this ⊢; exact this
 simp (disch:=first|omega|decide) only[push_cast,↓reduceIte,Nat.reduceEqDiff,hx,hb]
 rfl
theorem yAc{P:Program}{G:Glob}{T:Tbl}{il:List Nat}{f:Nat}{hints:List (List Nat)}{F:PF}(ht:trF P il f hints=some F)(hT:TblOK P G T){α:Type}{enc:α→List D×St}{pre:α→Prop}{r:α→D×St}
  (h:∀ a,pre a→@wW G T F.code (argF (enc a).1) (enc a).2 ⟨@retI F.res ⟨fun d st'=>(d,st')=r a⟩⟩) (hy:T.y=fun _ _ _=>none:=by rfl):IContract P G f (siOf enc pre r):=
 yak ht hT (fun ds st x hx=>by
  obtain⟨a,ha,hp,rfl⟩:=yEy hx
  have:=h a hp
  rw[ha]at this
  exact this) hy
noncomputable def yy4:List D→Option D:=spOf (α:=Int×Int) (fun a=>[.int .u64 a.1,.int .u64 a.2]) (fun a=>0≤a.1∧a.1<18446744073709551616∧0≤a.2∧a.2<18446744073709551616) (fun a=>.tup [.int .u64 (a.1*a.2 / 18446744073709551616),.int .u64 (a.1*a.2 % 18446744073709551616)])
theorem yNf(x:Int)(y:Int)(h:0≤x∧x<18446744073709551616∧0≤y∧y<18446744073709551616):yy4 [.int .u64 x,.int .u64 y]=some (.tup [.int .u64 (x*y / 18446744073709551616),.int .u64 (x*y % 18446744073709551616)]):=
 yae (fun⟨a0,a1⟩ ⟨b0,b1⟩ h=>by simp only[List.cons.injEq,D.int.injEq,true_and,and_true]at h; simp[h]) (x,y) h
theorem Ycu(x:Int)(y:Int)(h:0≤x∧x<18446744073709551616∧0≤y∧y<18446744073709551616):@wW GG (tb [(169,yEq)] []) yhc.code (argF [.int .u64 x,.int .u64 y]) [] ⟨retQ yhc.res (.tup [.int .u64 (x*y / 18446744073709551616),.int .u64 (x*y % 18446744073709551616)])⟩:=by
 unfold yhc
 simp (disch:=first|omega|decide) only[push_cast,↓reduceIte,Nat.reduceEqDiff,yKf x y h]
theorem Yh5:Contract Tryz.prog GG 149 yy4:=
 yac yw9 (yan (all_cons Yjz all_nil) all_nil) (fun a h=>Ycu a.1 a.2 h)
noncomputable def yt7:List D→St→Option (D×St):=siOf (α:=Nat×Int) (fun a=>([.slc 1 [.int .i64 a.2] true,.int .i64 (a.1:Int)],[])) (fun a=>0<a.1∧a.1≤100000) (fun a=>(.row 0 a.1 0 a.1,[⟨true,1,(List.replicate a.1 a.2).map nI,false⟩]))
theorem Yhr(n:Nat)(a:Int)(h:0<n∧n≤100000):yt7 [.slc 1 [.int .i64 a] true,.int .i64 (n:Int)] []=some (.row 0 n 0 n,[⟨true,1,(List.replicate n a).map nI,false⟩]):=
 yua (fun⟨a,b⟩ ⟨a',b'⟩ e=>by
  simp only[Ywj,List.cons.injEq,D.slc.injEq,D.int.injEq,and_true,true_and,Int.ofNat_inj]at e
  obtain⟨rfl,rfl⟩:=e
  rfl) ((n,a):Nat×Int) h rfl
def repL(n j:Nat)(a:Int):List D:=(List.replicate j a++List.replicate (n - j) 0).map nI
theorem ysh{n j:Nat}{a:Int}(h:j≤n):(repL n j a).length=n:=by simp[repL]; omega
theorem yzf{n j m:Nat}{a:Int}(h:j+m≤n):ybl (repL n j a) j ((List.replicate m a).map nI)=repL n (j+m) a:=by
 have e:List.replicate (n - j) (0:Int)=List.replicate m 0++List.replicate (n - (j+m)) 0:=by
  rw[List.replicate_append_replicate]; congr 1; omega
 unfold repL
 rw[e,List.map_append,List.map_append,yvq (by simp) (by simp),← List.map_append,← List.map_append,← List.append_assoc,List.replicate_append_replicate]
theorem Yo6{n j:Nat}{a:Int}(h0:0<j)(h1:j<n):pcpy [⟨true,1,repL n j a,false⟩] 1 (.row 0 n j (n - j)) (.row 0 n 0 j)=some (.int .i64 (min (n - j) j:Nat),[⟨true,1,repL n (j+min (n - j) j) a,false⟩]):=by
 have hl:=ysh (a:=a) (Nat.le_of_lt h1)
 have he:yec [⟨true,1,repL n j a,false⟩] 0 n 0 j=some (1,(List.replicate j a).map nI):=by
  simp only[yec,List.getElem?_cons_zero,hl]
  rw[if_pos (by simp; omega),List.drop_zero]
  congr 2
  simp[repL]
 simp only[pcpy,yXc,List.getElem?_cons_zero,ygl,he,hl,yp1]
 rw[if_pos (by simp; omega)]
 simp only[List.length_map,List.length_replicate,List.set_cons_zero]
 congr 3
 rw[← List.map_take,List.take_replicate,show min (min (n - j) j) j=min (n - j) j by omega,yzf (by omega)]
theorem Yhi{n:Nat}{a:Int}(h1:0<n):pcpy [⟨true,1,List.replicate n (.int .i64 0),false⟩] 1 (.row 0 n 0 n) (.slc 1 [.int .i64 a] true)=some (.int .i64 1,[⟨true,1,repL n 1 a,false⟩]):=by
 have h0:(List.replicate n (D.int .i64 0))=repL n 0 a:=by simp[repL,nI]
 rw[h0]
 have hl:=ysh (a:=a) (Nat.zero_le n)
 simp only[pcpy,yXc,List.getElem?_cons_zero,ygl,hl,yp1]
 rw[if_pos (by simp; omega)]
 have hm:min n [D.int IntKind.i64 a].length=1:=by simp; omega
 simp only[hm,List.set_cons_zero]
 have:=yzf (n:=n) (j:=0) (m:=1) (a:=a) (by omega)
 rw[Nat.zero_add]at this
 rw[← this]
 rfl
theorem mk_n{n:Nat}(h:n≤100000):yzr 1 8 (.int .i64 0) (.int .i64 (n:Int)) (.int .i64 (n:Int))=some (n,⟨true,1,List.replicate n (.int .i64 0),false⟩):=by
 have h1:yd5 (.int .i64 (n:Int))=some n:=by simp[yd5]
 simp only[yzr,h1]
 rw[if_pos ⟨Nat.le_refl _,by omega,by omega,by decide,rfl,rfl⟩]
theorem Yu8:IContract Tryz.prog GG 100 yt7:=by
 refine yAc (T:=tb [(149,yy4)] []) yme (yan (all_cons Yh5 all_nil) all_nil) ?_
 rintro⟨n,a⟩ ⟨hn0,hn1⟩
 dsimp only at hn0 hn1
 unfold yha
 have hm:=yNf 1 (n:Int) ⟨by omega,by omega,by omega,by omega⟩
 rw[show(1*(n:Int) / 18446744073709551616)=0 by omega,show(1*(n:Int) % 18446744073709551616)=n by omega]at hm
 have hc:=Yhi (n:=n) (a:=a) hn0
 have h0:¬ ((n:Int)<0):=by omega
 have h1:¬ ((9223372036854775807:Int)<(n:Int)):=by omega
 simp (disch:=first|omega|decide) only[push_cast,↓reduceIte,Nat.reduceEqDiff,Int.reduceLT,Int.reduceAdd,↓Int.reduceNatCast',h0,yGj,Yah,hm,h1,mk_n hn1,hc]
 refine ybr (fun j:Nat=>[(7,.row 0 n 0 n),(8,.int .i64 (j:Int))]) (fun j=>[⟨true,1,repL n j a,false⟩]) (fun j=>0<j∧j≤n) (fun j=>n - j) 1 (by simp only[push_cast,↓reduceIte,Nat.reduceEqDiff,Nat.reduceLT,Nat.reduceLeDiff,↓Int.reduceNatCast'] <;> rfl) ⟨by omega,by omega⟩ ?_
 rintro j ⟨hj0,hj1⟩
 have hl:=ysh (a:=a) hj1
 have hli:liR (some ⟨true,1,repL n j a,false⟩) n=true:=by simp[liR,hl]
 unfold yfu
 simp (disch:=first|omega|decide) only[push_cast,↓reduceIte,Nat.reduceEqDiff,hli]
 refine yai (fun h2=>?_) (fun h2=>?_)
 ·have hc2:=Yo6 (a:=a) hj0 (show j<n by omega)
  have s1:slR (some ⟨true,1,repL n j a,false⟩) 1 (.row 0 n 0 n) 0 n 0 n j n=some (.row 0 n j (n - j)):=by
   simp[slR,hl,show j≤n from hj1,show ¬ j=0 by omega,show ¬ j=n by omega]
  have s2:slR (some ⟨true,1,repL n j a,false⟩) 1 (.row 0 n 0 n) 0 n 0 n 0 j=some (.row 0 n 0 j):=by
   simp[slR,hl,show j≤n from hj1,show ¬ j=0 by omega,show ¬ j=n by omega,show ¬ 0=j by omega]
  simp (disch:=first|omega|decide) only[push_cast,↓reduceIte,Nat.reduceEqDiff,Nat.reduceLT,Nat.reduceLeDiff,s1,s2,hc2,yaz]
  refine yaj (j+min (n - j) j) ⟨by omega,by omega⟩ (by omega) ?_
  simp only[push_cast] <;> rfl
 ·obtain rfl:j=n:=by omega
  simp (disch:=first|omega|decide) only[push_cast,↓reduceIte,Nat.reduceEqDiff]
  simp[repL]
abbrev at'(x:List Int)(i:Nat):Int:=x.getD i default
theorem Yj2{x:List Int}{i:Nat}(h:i<x.length):at' x i∈x:=by
 unfold at'
 rw[List.getD_eq_getElem?_getD,List.getElem?_eq_getElem h]
 exact List.getElem_mem h
theorem yYm(A:List Int)(lent:Bool)(tot i:Nat)(ht:A.length=tot)(h:i<tot):ldR (some ⟨true,1,A.map nI,lent⟩) 1 false tot i 0=some (.int .i64 (at' A i)):=by
 subst ht; exact Yf2 nI (fun _=>rfl) 1 A lent i h
theorem yPm(A:List Int)(lent:Bool)(key tot:Nat)(j:Int)(ht:A.length=tot)(h0:0≤j)(h1:j<(tot:Int)):ixR (some ⟨true,1,A.map nI,lent⟩) 1 key tot 0 tot j=some (.rptr key tot j.toNat 0):=by
 subst ht
 have:=yYy nI 1 A lent key 0 A.length j h0 h1
 rwa [Nat.zero_add]at this
def stRI(o:Option PI.Obj)(tot i:Nat)(v:Int):Option PI.Obj:=o.bind fun o=>if o.row && !o.lent && o.els.length == tot then(o.els[i]?).bind fun el=>(yRg el 0 [.int .i64 v]).map fun el'=>{o with els:=o.els.set i el'} else none
theorem yE8(st:St)(key tot i:Nat)(v:Int):yxh st 1 (.rptr key tot i 0) (.int .i64 v)=(stRI st[key]? tot i v).map fun o=>st.set key o:=by
 simp only[yxh,stRI,yY7,yPj,List.isEmpty_nil,Bool.and_true]
 cases st[key]? with
 |none=>rfl
 |some o=>
  simp only[Option.bind_some]
  split
  ·cases o.els[i]? with
   |none=>rfl
   |some el=>
    have hc:(D.int .i64 v).cells=[.int .i64 v]:=rfl
    rw[hc]
    simp only[Option.bind_some]
    cases yRg el 0 [.int .i64 v] <;> rfl
  ·rfl
theorem yN6(A:List Int)(tot i:Nat)(v:Int)(ht:A.length=tot)(h:i<tot):stRI (some ⟨true,1,A.map nI,false⟩) tot i v=some ⟨true,1,(A.set i v).map nI,false⟩:=by
 subst ht
 have h1:yRg (nI A[i]) 0 [.int .i64 v]=some (nI v):=rfl
 simp[stRI,h,h1,List.map_set]
def yzq(len i after n:Int)(dep:List Int):Prop:=n≤i∨len≤n∨(0≤at' dep n.toNat∧at' dep n.toNat≠after)
instance (len i after n:Int) (dep:List Int):Decidable (yzq len i after n dep):=by unfold yzq; infer_instance
def yIn(len i after:Int):List Int→List Int→Option (List Int)
 |[],dep=>some dep
 |n::l,dep=>if yzq len i after n dep then none else yIn len i after l (dep.set n.toNat after)
def ysm(x:Ins)(i:Int):List Int:=(if x.op=13∨x.op=14 then [x.n]else [])++(if x.op≠14∧x.op≠15∧x.op≠16 then [i+1]else [])
def yi8(x:Ins)(d:Int):Prop:=d<(effF x.op).1∨(x.op=15∧d≠1)∨(x.op=16∧d≠0)
instance (x:Ins) (d:Int):Decidable (yi8 x d):=by unfold yi8; infer_instance
def ycd(x:Ins)(d:Int):Int:=d - (effF x.op).1+(effF x.op).2
def verL(len:Int):List Ins→Nat→List Int→Int→Option Int
 |[],_,_,s=>some s
 |x::r,i,dep,s=>if at' dep i<0 then verL len r (i+1) dep s else if yi8 x (at' dep i)then none else
  match yIn len i (ycd x (at' dep i)) (ysm x i) dep with
  |none=>none
  |some dep'=>verL len r (i+1) dep' (max (max s (at' dep i)) (ycd x (at' dep i)))
def ymc:Option Int→Int×Int
 |none=>(0,200)
 |some s=>if 64<s then(0,2)else(s,0)
def dep0(n:Nat):List Int:=(List.replicate n (-1)).set 0 0
def ycb(c:List Ins):Int×Int:=if 4096<c.length then(0,2)else if c.length=0∨c.all ybi=false then(0,200)else ymc (verL c.length c 0 (dep0 c.length) 0)
theorem li1(sz:Nat)(a:D)(l:Bool):liR (some ⟨true,sz,[a],l⟩) 1=true:=(rfl)
theorem li2(sz:Nat)(a b:D)(l:Bool):liR (some ⟨true,sz,[a,b],l⟩) 2=true:=(rfl)
theorem Ykv{G:Glob}{T:Tbl}{c:PC}{fr:Frame}{st st':St}{Q:QC}(e:st=st')(h:@wW G T c fr st' Q):@wW G T c fr st Q:=by rw[e]; exact h
/- what follows an instruction -/
def yM8(N:Nat)(i:Int)(dp:List Int):Prop:=dp.length=N∧∀ y∈dp,-1≤y∧y≤i
theorem yJv{N:Nat}{i:Int}{dp:List Int}(h:yM8 N i dp)(k:Nat){v:Int}(h0:-1≤v)(h1:v≤i):yM8 N i (dp.set k v):=by
 refine⟨by rw[List.length_set]; exact h.1,fun y hy=>?_⟩
 rcases List.mem_or_eq_of_mem_set hy with hy | rfl
 ·exact h.2 y hy
 ·exact⟨h0,h1⟩
set_option maxHeartbeats 4000000 in
set_option maxRecDepth 20000 in
theorem yyg(T:Tbl)(c:List Ins)(x:Ins)(i:Nat)(hi:i<c.length)(hc:c.length≤4096)(s after:Int)(ha0:-1≤after)(ha1:after≤(i:Int)+1)(nx:List Int)(hnx:nx.length≤2)(dep:List Int)(hdep:yM8 c.length ((i:Int)+1) dep)(fr:Frame)(Q:Ex→Frame→St→Prop)
  (f0:fr 0=.slc (nz 3 (c.map insD)) (c.map insD) false) (f2:fr 2=.int .i64 s) (f4:fr 4=.row 0 c.length 0 c.length) (f5:fr 5=.int .i64 (i:Int)) (f10:fr 10=.int .i64 after)
  (f30:fr 30=.slc (nz 3 (c.map insD)) (c.map insD) false) (f31:fr 31=.int .i64 (c.length:Int)) (f32:fr 32=.int .i64 (i:Int)) (f110:fr 110=bufD 0 2 (nx.map nI)) (f111:fr 111=.int .i64 (nx.length:Int)) (f112:fr 112=.int .i64 0)
  (hret:yIn c.length i after nx dep=none→∀ fr' st',fr' 2=.int .i64 0→fr' 3=.int .i64 200→Q .ret fr' st')
  (hext:∀ dp,yIn c.length i after nx dep=some dp→yM8 c.length ((i:Int)+1) dp→∀ fr',fr' 0=.slc (nz 3 (c.map insD)) (c.map insD) false→fr' 2=.int .i64 s→fr' 4=.row 0 c.length 0 c.length→fr' 30=.slc (nz 3 (c.map insD)) (c.map insD) false→fr' 31=.int .i64 (c.length:Int)→fr' 32=.int .i64 (i:Int)→
   Q (.exit 2) fr' (⟨true,1,dp.map nI,false⟩::⟨false,1,insC x,false⟩::bufS 1 (nx.map nI))) :
  @wW GG T (.loop [0,2,4,5,10,30,31,32,110,111,112] yh8) fr (⟨true,1,dep.map nI,false⟩::⟨false,1,insC x,false⟩::bufS 1 (nx.map nI)) ⟨Q⟩:=by
 have hB:ren ((bufS 1 (nx.map nI)).length+1+1) [] (bufD 0 2 (nx.map nI))=bufD 0 2 (nx.map nI):=by
  cases nx <;> rfl
 have hok:∀ dp:List Int,StOK (⟨true,1,dp.map nI,false⟩::⟨false,1,insC x,false⟩::bufS 1 (nx.map nI)):=by
  intro dp o ho hr y hy
  simp only[List.mem_cons]at ho
  rcases ho with rfl | rfl | ho
  ·cases hr
  ·simp only[insC,List.mem_cons,List.not_mem_nil,or_false]at hy
   rcases hy with rfl | rfl | rfl <;> rfl
  ·cases nx with
   |nil=>cases ho
   |cons a l=>
    rw[show bufS 1 ((a::l).map nI)=[⟨true,1,(a::l).map nI,false⟩]from rfl,List.mem_singleton]at ho
    subst ho; cases hr
 have hR:∀ (fr:Frame) (dp:List Int),restrict [0,2,4,5,10,30,31,32,110,111,112] ((bufS 1 (nx.map nI)).length+1+1) ⟨fr,⟨true,1,dp.map nI,false⟩::⟨false,1,insC x,false⟩::bufS 1 (nx.map nI)⟩=
   ⟨mkF (ypg fr ((bufS 1 (nx.map nI)).length+1+1) [] [0,2,4,5,10,30,31,32,110,111,112]),⟨true,1,dp.map nI,false⟩::⟨false,1,insC x,false⟩::bufS 1 (nx.map nI)⟩:=fun fr dp=>ykz (hok dp) rfl
 have hr0:renK ((bufS 1 (nx.map nI)).length+1+1) [] 0=some 0:=ysi (by omega)
 refine ybr (fun p:Nat×List Int=>[(0,.slc (nz 3 (c.map insD)) (c.map insD) false),(2,.int .i64 s),(4,.row 0 c.length 0 c.length),(5,.int .i64 (i:Int)),(10,.int .i64 after),(30,.slc (nz 3 (c.map insD)) (c.map insD) false),(31,.int .i64 (c.length:Int)),(32,.int .i64 (i:Int)),
   (110,bufD 0 2 (nx.map nI)),(111,.int .i64 (nx.length:Int)),(112,.int .i64 (p.1:Int))])
  (fun p=>⟨true,1,p.2.map nI,false⟩::⟨false,1,insC x,false⟩::bufS 1 (nx.map nI)) (fun p=>p.1≤nx.length∧yM8 c.length ((i:Int)+1) p.2∧yIn c.length i after (nx.drop p.1) p.2=yIn c.length i after nx dep) (fun p=>nx.length - p.1) (0,dep)
  ((hR fr dep).trans (by simp only[push_cast,f0,f2,f4,f5,f10,f30,f31,f32,f110,f111,f112,hB,↓hr0] <;> rfl)) ⟨Nat.zero_le _,hdep,rfl⟩ ?_
 rintro⟨j,dp⟩ ⟨hj,hdp,hn⟩
 dsimp only at hj hdp hn
 unfold yh8
 simp (disch:=first|omega|decide) only[push_cast,↓reduceIte,Nat.reduceEqDiff]
 refine yai (fun h2=>?_) (fun h2=>?_)
 ·have hjl:j<nx.length:=by omega
  have hdr:=yuz nx hjl
  have hne:nx.map nI≠[]:=by
   intro e
   have:=congrArg List.length e
   simp at this
   subst this
   simp at hjl
  obtain⟨n,hne'⟩:∃ n,nx.getD j default=n:=⟨_,rfl⟩
  have hx0:ixR (some ⟨true,1,nx.map nI,false⟩) 1 2 nx.length 0 nx.length (j:Int)=some (.rptr 2 nx.length j 0):=yPm nx false 2 nx.length j rfl (by omega) (by omega)
  have hx1:ldR (some ⟨true,1,nx.map nI,false⟩) 1 false nx.length j 0=some (.int .i64 n):=by rw[← hne']; exact yYm nx false nx.length j rfl hjl
  have hxx:∀ dp:List Int,yfw (⟨true,1,dp.map nI,false⟩::⟨false,1,insC x,false⟩::bufS 1 (nx.map nI)) 1 (bufD 0 2 (nx.map nI)) (.int .i64 (j:Int))=some (.rptr 2 nx.length j 0):=by
   intro dp
   rw[ywk _ _ _ hne,ys7 _ _ hne,List.length_map,yPu]
   exact hx0
  have hx1':∀ dp:List Int,ydd (⟨true,1,dp.map nI,false⟩::⟨false,1,insC x,false⟩::bufS 1 (nx.map nI)) 1 false (.rptr 2 nx.length j 0)=some (.int .i64 n):=by
   intro dp
   rw[ys7 _ _ hne,yzh]
   exact hx1
  rw[hdr,hne',yIn]at hn
  by_cases b1:n≤(i:Int)
  ·rw[if_pos (.inl b1)]at hn
   simp (disch:=first|omega|decide) only[push_cast,↓reduceIte,Nat.reduceEqDiff,hxx,hx1',  b1]
   exact hret hn.symm _ _ rfl rfl
  ·by_cases b2:(c.length:Int)≤n
   ·rw[if_pos (.inr (.inl b2))]at hn
    simp (disch:=first|omega|decide) only[push_cast,↓reduceIte,Nat.reduceEqDiff,hxx,hx1',  b1,b2]
    exact hret hn.symm _ _ rfl rfl
   ·have hd0:=yPm dp false 0 c.length n hdp.1 (by omega) (by omega)
    have hd1:=yYm dp false c.length n.toNat hdp.1 (by omega)
    have hdm:=hdp.2 _ (Yj2 (x:=dp) (i:=n.toNat) (by rw[hdp.1]; omega))
    have hs:=yN6 dp c.length n.toNat after hdp.1 (by omega)
    by_cases b3:0≤at' dp n.toNat
    ·by_cases b4:at' dp n.toNat=after
     ·have b4':(at' dp n.toNat=after)=True:=eq_true b4
      rw[if_neg (by unfold yzq; omega)]at hn
      simp (disch:=first|omega|decide) only[push_cast,↓reduceIte,Nat.reduceEqDiff,hxx,hx1',  b1,b2,hd0,hd1,b3,b4',yE8,hs,yaz,↓hR,↓hr0,hB]
      refine yaj (j+1,dp.set n.toNat after) ⟨by dsimp only; omega,yJv hdp _ ha0 ha1,hn⟩ (by dsimp only; omega) ?_
      simp only[push_cast] <;> rfl
     ·rw[if_pos (.inr (.inr ⟨b3,b4⟩))]at hn
      simp (disch:=first|omega|decide) only[push_cast,↓reduceIte,Nat.reduceEqDiff,hxx,hx1',  b1,b2,hd0,hd1,b3,b4]
      exact hret hn.symm _ _ rfl rfl
    ·rw[if_neg (by unfold yzq; omega)]at hn
     simp (disch:=first|omega|decide) only[push_cast,↓reduceIte,Nat.reduceEqDiff,hxx,hx1',  b1,b2,hd0,hd1,b3,yE8,hs,yaz,↓hR,↓hr0,hB]
     refine yaj (j+1,dp.set n.toNat after) ⟨by dsimp only; omega,yJv hdp _ ha0 ha1,hn⟩ (by dsimp only; omega) ?_
     simp only[push_cast] <;> rfl
 ·obtain rfl:j=nx.length:=by omega
  rw[List.drop_length,yIn]at hn
  simp (disch:=first|omega|decide) only[push_cast]
  exact hext dp hn.symm hdp _ rfl rfl rfl rfl rfl rfl
noncomputable def yEb:List D→Option D:=spOf (α:=List Ins) (fun a=>[.slc (nz 3 (a.map insD)) (a.map insD) false]) (fun a=>a.length≤9223372036854775807) (fun a=>.tup [.int .i64 (ycb a).1,.int .i64 (ycb a).2])
theorem yJ6(c:List Ins)(h:c.length≤9223372036854775807):yEb [.slc (nz 3 (c.map insD)) (c.map insD) false]=some (.tup [.int .i64 (ycb c).1,.int .i64 (ycb c).2]):=
 yae (fun a b h=>by simp only[List.cons.injEq,D.slc.injEq,and_true,yea]at h; simp[h]) (c) h
set_option maxHeartbeats 4000000 in
set_option maxRecDepth 20000 in
theorem Yq9(c:List Ins)(h:c.length≤9223372036854775807):@wW GG (tb [(101,ynl)] [(97,yt8),(100,yt7)]) yig.code (argF [.slc (nz 3 (c.map insD)) (c.map insD) false]) [] ⟨retQ yig.res (.tup [.int .i64 (ycb c).1,.int .i64 (ycb c).2])⟩:=by
 unfold yig
 by_cases h1:4096<c.length
 ·rw[show ycb c=(0,2)from if_pos h1]
  simp (disch:=first|omega|decide) only[push_cast,↓reduceIte,Nat.reduceEqDiff,Int.reduceNeg,show((4096:Int)<(c.length:Int)) by omega]
 by_cases h2:c.length=0
 ·rw[show ycb c=(0,200) by unfold ycb; rw[if_neg h1,if_pos (.inl h2)]]
  simp (disch:=first|omega|decide) only[push_cast,↓reduceIte,Nat.reduceEqDiff,Int.reduceLT,Int.reduceNeg,show ¬ ((4096:Int)<(c.length:Int)) by omega,show((c.length:Int)=0) by omega]
 have hcn:=Yh1 c h
 have h3:¬ ((4096:Int)<(c.length:Int)):=by omega
 have h4:¬ ((c.length:Int)=0):=by omega
 cases hall:c.all ybi with
 |false=>
  rw[hall]at hcn
  rw[show ycb c=(0,200) by unfold ycb; rw[if_neg h1,if_pos (.inr hall)]]
  simp (disch:=first|omega|decide) only[push_cast,↓reduceIte,Nat.reduceEqDiff,Int.reduceNeg,h3,h4,hcn]
 |true=>
  rw[hall]at hcn
  rw[show ycb c=ymc (verL c.length c 0 (dep0 c.length) 0) by unfold ycb; rw[if_neg h1,if_neg (by rw[hall]; simp[h2])]]
  have hrp:=Yhr c.length (-1) ⟨by omega,by omega⟩
  have hx0:ixR (some ⟨true,1,(List.replicate c.length (-1)).map nI,false⟩) 1 0 c.length 0 c.length 0=some (.rptr 0 c.length 0 0):=yPm _ false 0 c.length 0 (by simp) (by omega) (by omega)
  have hs0:stRI (some ⟨true,1,(List.replicate c.length (-1)).map nI,false⟩) c.length 0 0=some ⟨true,1,(dep0 c.length).map nI,false⟩:=yN6 _ c.length 0 0 (by simp) (by omega)
  simp (disch:=first|omega|decide) only[push_cast,↓reduceIte,Nat.reduceEqDiff,Int.reduceNeg,h3,h4,hcn,lit1,hrp,hx0,yE8,hs0]
  refine ybr (fun p:Nat×List Int×Int=>[(0,.slc (nz 3 (c.map insD)) (c.map insD) false),(2,.int .i64 p.2.2),(4,.row 0 c.length 0 c.length),(30,.slc (nz 3 (c.map insD)) (c.map insD) false),(31,.int .i64 (c.length:Int)),(32,.int .i64 (p.1:Int))])
   (fun p=>[⟨true,1,p.2.1.map nI,false⟩]) (fun p=>p.1≤c.length∧yM8 c.length p.1 p.2.1∧ymc (verL c.length (c.drop p.1) p.1 p.2.1 p.2.2)=ymc (verL c.length c 0 (dep0 c.length) 0)) (fun p=>c.length - p.1) (0,dep0 c.length,0)
   (by simp only[push_cast,↓reduceIte,Nat.reduceEqDiff,Nat.reduceLT,Nat.reduceLeDiff,Int.reduceNeg] <;> rfl) ⟨Nat.zero_le _,?_,rfl⟩ ?_
  ·refine⟨by simp[dep0],fun y hy=>?_⟩
   rcases List.mem_or_eq_of_mem_set hy with hy | rfl
   ·have:=(List.mem_replicate.1 hy).2
    subst this; dsimp only; omega
   ·dsimp only; omega
  rintro⟨i,dep,s⟩ ⟨hi,hdk0,hv⟩
  dsimp only at hi hdk0 hv
  unfold ym8
  simp (disch:=first|omega|decide) only[push_cast,↓reduceIte,Nat.reduceEqDiff]
  refine yai (fun h5=>?_) (fun h5=>?_)
  ·have hil:i<c.length:=by omega
   have hc4:c.length≤4096:=by omega
   have hdk:yM8 c.length ((i:Int)+1) dep:=⟨hdk0.1,fun y hy=>⟨(hdk0.2 y hy).1,by have:=(hdk0.2 y hy).2; omega⟩⟩
   have hx:=fun st=>yAb st c false i hil
   have hdr:=yuz c hil
   obtain⟨x,hxe⟩:∃ x,c.getD i default=x:=⟨_,rfl⟩
   rw[hxe]at hx hdr
   rw[hdr,verL]at hv
   have hd0:ixR (some ⟨true,1,dep.map nI,false⟩) 1 0 c.length 0 c.length (i:Int)=some (.rptr 0 c.length i 0):=yPm dep false 0 c.length i hdk.1 (by omega) (by omega)
   have hd1:=yYm dep false c.length i hdk.1 hil
   have hdm:=hdk0.2 _ (Yj2 (x:=dep) (i:=i) (by rw[hdk0.1]; omega))
   have he:=Ya6 x.op
   have hef:=yTu x.op
   by_cases h0:at' dep i<0
   ·rw[if_pos h0]at hv
    simp (disch:=first|omega|decide) only[push_cast,↓reduceIte,Nat.reduceEqDiff,Nat.reduceLT,Nat.reduceLeDiff,Nat.reduceAdd,hx,yfv,yew,yrq,hd0,hd1,h0,yaz]
    refine yaj (i+1,dep,s) ⟨by dsimp only; omega,hdk,hv⟩ (by dsimp only; omega) ?_
    simp only[push_cast] <;> rfl
   rw[if_neg h0]at hv
   have haf:ycd x (at' dep i)=at' dep i - (effF x.op).1+(effF x.op).2:=rfl
   by_cases hbad0:at' dep i<(effF x.op).1
   ·rw[if_pos (.inl hbad0)]at hv
    simp (disch:=first|omega|decide) only[push_cast,↓reduceIte,Nat.reduceEqDiff,hx,yfv,yew,yrq,hd0,hd1,h0,ybe,he,ydy,yaz,hbad0]
    rw[← hv]
    rfl
   have hbad0':(at' dep i<(effF x.op).1)=False:=eq_false hbad0
   by_cases h15:x.op=15
   ·have e15:(x.op=15)=True:=eq_true h15
    have e14:(x.op=14)=False:=eq_false (by omega)
    have e13:(x.op=13)=False:=eq_false (by omega)
    have hef15:effF x.op=(1,0):=by rw[h15]; rfl
    by_cases hd:at' dep i=1
    ·have ed:(at' dep i=1)=True:=eq_true hd
     have e16:(x.op=16)=False:=eq_false (by omega)
     have hb1:¬ at' dep i<(effF x.op).1:=hbad0
     have hnx:ysm x (i:Int)=[]:=by simp[ysm,h15]
     have hbad:¬ yi8 x (at' dep i):=by unfold yi8; omega
     rw[if_neg hbad,hnx]at hv
     simp (disch:=first|omega|decide) only[push_cast,↓reduceIte,Nat.reduceEqDiff,hx,yfv,yew,yrq,hd0,hd1,h0,ybe,he,ydy,yaz,hbad0,e15,e14,e13,e16,ed,haf.symm]
     have hl:=yyg (tb [(101,ynl)] [(97,yt8),(100,yt7)]) c x i hil hc4 (max (max s (at' dep i)) (ycd x (at' dep i))) (ycd x (at' dep i)) (by omega) (by omega) [] (by simp) dep hdk
     refine hl _ _ rfl rfl rfl rfl rfl rfl rfl rfl rfl rfl rfl (fun hn fr' st' g2 g3=>?_) (fun dp hn hdp fr' g0 g2 g4 g30 g31 g32=>?_)
     ·rw[hn]at hv
      have hv':((0,200):Int×Int)=ymc (verL c.length c 0 (dep0 c.length) 0):=hv
      simp (disch:=first|omega|decide) only[push_cast,g2,g3]
      rw[← hv']
     ·rw[hn]at hv
      simp (disch:=first|omega|decide) only[push_cast,↓reduceIte,Nat.reduceEqDiff,g32,yaz]
      refine yaj (i+1,dp,max (max s (at' dep i)) (ycd x (at' dep i))) ⟨by dsimp only; omega,hdp,hv⟩ (by dsimp only; omega) ?_
      simp only[push_cast,↓reduceIte,Nat.reduceLT,Nat.reduceLeDiff,g0,g2,g4,g30,g31] <;> rfl
    ·have ed:(at' dep i=1)=False:=eq_false hd
     rw[if_pos (.inr (.inl ⟨h15,hd⟩))]at hv
     simp (disch:=first|omega|decide) only[push_cast,↓reduceIte,Nat.reduceEqDiff,hx,yfv,yew,yrq,hd0,hd1,h0,ybe,he,ydy,yaz,hbad0,e15,ed]
     rw[← hv]
     rfl
   by_cases h16:x.op=16
   ·have e16:(x.op=16)=True:=eq_true h16
    have e15:(x.op=15)=False:=eq_false h15
    have e14:(x.op=14)=False:=eq_false (by omega)
    have e13:(x.op=13)=False:=eq_false (by omega)
    have hef16:effF x.op=(0,0):=by rw[h16]; rfl
    by_cases hd:at' dep i=0
    ·have ed:(at' dep i=0)=True:=eq_true hd
     have hnx:ysm x (i:Int)=[]:=by simp[ysm,h16]
     have hbad:¬ yi8 x (at' dep i):=by unfold yi8; omega
     rw[if_neg hbad,hnx]at hv
     simp (disch:=first|omega|decide) only[push_cast,↓reduceIte,Nat.reduceEqDiff,hx,yfv,yew,yrq,hd0,hd1,h0,ybe,he,ydy,yaz,hbad0,e15,e14,e13,e16,ed,haf.symm]
     have hl:=yyg (tb [(101,ynl)] [(97,yt8),(100,yt7)]) c x i hil hc4 (max (max s (at' dep i)) (ycd x (at' dep i))) (ycd x (at' dep i)) (by omega) (by omega) [] (by simp) dep hdk
     refine hl _ _ rfl rfl rfl rfl rfl rfl rfl rfl rfl rfl rfl (fun hn fr' st' g2 g3=>?_) (fun dp hn hdp fr' g0 g2 g4 g30 g31 g32=>?_)
     ·rw[hn]at hv
      have hv':((0,200):Int×Int)=ymc (verL c.length c 0 (dep0 c.length) 0):=hv
      simp (disch:=first|omega|decide) only[push_cast,g2,g3]
      rw[← hv']
     ·rw[hn]at hv
      simp (disch:=first|omega|decide) only[push_cast,↓reduceIte,Nat.reduceEqDiff,g32,yaz]
      refine yaj (i+1,dp,max (max s (at' dep i)) (ycd x (at' dep i))) ⟨by dsimp only; omega,hdp,hv⟩ (by dsimp only; omega) ?_
      simp only[push_cast,↓reduceIte,Nat.reduceLT,Nat.reduceLeDiff,g0,g2,g4,g30,g31] <;> rfl
    ·have ed:(at' dep i=0)=False:=eq_false hd
     rw[if_pos (.inr (.inr ⟨h16,hd⟩))]at hv
     simp (disch:=first|omega|decide) only[push_cast,↓reduceIte,Nat.reduceEqDiff,hx,yfv,yew,yrq,hd0,hd1,h0,ybe,he,ydy,yaz,hbad0,e15,e16,ed]
     rw[← hv]
     rfl
   have e15:(x.op=15)=False:=eq_false h15
   have e16:(x.op=16)=False:=eq_false h16
   by_cases h14:x.op=14
   ·have e14:(x.op=14)=True:=eq_true h14
    have e13:(x.op=13)=False:=eq_false (by omega)
    have hnx:ysm x (i:Int)=[x.n]:=by simp[ysm,h14]
    have hbad:¬ yi8 x (at' dep i):=by unfold yi8; omega
    rw[if_neg hbad,hnx]at hv
    have hp0:papp [⟨true,1,dep.map nI,false⟩,⟨false,1,insC x,false⟩] 1 8 (.slc 0 [] true) (.slc 1 [.int .i64 x.n] true)=some (.row 2 1 0 1,[⟨true,1,dep.map nI,false⟩,⟨false,1,insC x,false⟩,⟨true,1,[.int .i64 x.n],false⟩]):=(rfl)
    simp (disch:=first|omega|decide) only[push_cast,↓reduceIte,Nat.reduceEqDiff,↓Int.reduceNatCast',hx,yfv,yew,yrq,hd0,hd1,h0,ybe,yg2,he,ydy,yaz,hbad0,lit1,e15,e14,e13,e16,haf.symm,hp0,li1]
    have hl:=yyg (tb [(101,ynl)] [(97,yt8),(100,yt7)]) c x i hil hc4 (max (max s (at' dep i)) (ycd x (at' dep i))) (ycd x (at' dep i)) (by omega) (by omega) [x.n] (by simp) dep hdk
    refine Ykv (st':=(⟨true,1,dep.map nI,false⟩::⟨false,1,insC x,false⟩::bufS 1 (([x.n]:List Int).map nI))) rfl ?_
    refine hl _ _ rfl rfl rfl rfl rfl rfl rfl rfl rfl rfl rfl (fun hn fr' st' g2 g3=>?_) (fun dp hn hdp fr' g0 g2 g4 g30 g31 g32=>?_)
    ·rw[hn]at hv
     have hv':((0,200):Int×Int)=ymc (verL c.length c 0 (dep0 c.length) 0):=hv
     simp (disch:=first|omega|decide) only[push_cast,g2,g3]
     rw[← hv']
    ·rw[hn]at hv
     simp (disch:=first|omega|decide) only[push_cast,↓reduceIte,Nat.reduceEqDiff,g32,yaz]
     refine yaj (i+1,dp,max (max s (at' dep i)) (ycd x (at' dep i))) ⟨by dsimp only; omega,hdp,hv⟩ (by dsimp only; omega) ?_
     simp only[push_cast,↓reduceIte,Nat.reduceLT,Nat.reduceLeDiff,g0,g2,g4,g30,g31] <;> rfl
   have e14:(x.op=14)=False:=eq_false h14
   by_cases h13:x.op=13
   ·have e13:(x.op=13)=True:=eq_true h13
    have hnx:ysm x (i:Int)=[x.n,(i:Int)+1]:=by simp[ysm,h13]
    have hbad:¬ yi8 x (at' dep i):=by unfold yi8; omega
    rw[if_neg hbad,hnx]at hv
    have hp0:papp [⟨true,1,dep.map nI,false⟩,⟨false,1,insC x,false⟩] 1 8 (.slc 0 [] true) (.slc 1 [.int .i64 x.n] true)=some (.row 2 1 0 1,[⟨true,1,dep.map nI,false⟩,⟨false,1,insC x,false⟩,⟨true,1,[.int .i64 x.n],false⟩]):=(rfl)
    have hp1:papp [⟨true,1,dep.map nI,false⟩,⟨false,1,insC x,false⟩,⟨true,1,[.int .i64 x.n],false⟩] 1 8 (.row 2 1 0 1) (.slc 1 [.int .i64 ((i:Int)+1)] true)=some (.row 2 2 0 2,[⟨true,1,dep.map nI,false⟩,⟨false,1,insC x,false⟩,⟨true,1,[.int .i64 x.n,.int .i64 ((i:Int)+1)],false⟩]):=(rfl)
    simp (disch:=first|omega|decide) only[push_cast,↓reduceIte,Nat.reduceEqDiff,↓Int.reduceNatCast',hx,yfv,yew,yrq,hd0,hd1,h0,ybe,yg2,he,ydy,yaz,hbad0,lit1,e15,e14,e13,e16,haf.symm,hp0,hp1,li2]
    have hl:=yyg (tb [(101,ynl)] [(97,yt8),(100,yt7)]) c x i hil hc4 (max (max s (at' dep i)) (ycd x (at' dep i))) (ycd x (at' dep i)) (by omega) (by omega) [x.n,(i:Int)+1] (by simp) dep hdk
    refine Ykv (st':=(⟨true,1,dep.map nI,false⟩::⟨false,1,insC x,false⟩::bufS 1 (([x.n,(i:Int)+1]:List Int).map nI))) rfl ?_
    refine hl _ _ rfl rfl rfl rfl rfl rfl rfl rfl rfl rfl rfl (fun hn fr' st' g2 g3=>?_) (fun dp hn hdp fr' g0 g2 g4 g30 g31 g32=>?_)
    ·rw[hn]at hv
     have hv':((0,200):Int×Int)=ymc (verL c.length c 0 (dep0 c.length) 0):=hv
     simp (disch:=first|omega|decide) only[push_cast,g2,g3]
     rw[← hv']
    ·rw[hn]at hv
     simp (disch:=first|omega|decide) only[push_cast,↓reduceIte,Nat.reduceEqDiff,g32,yaz]
     refine yaj (i+1,dp,max (max s (at' dep i)) (ycd x (at' dep i))) ⟨by dsimp only; omega,hdp,hv⟩ (by dsimp only; omega) ?_
     simp only[push_cast,↓reduceIte,Nat.reduceLT,Nat.reduceLeDiff,g0,g2,g4,g30,g31] <;> rfl
   ·have e13:(x.op=13)=False:=eq_false h13
    have hnx:ysm x (i:Int)=[(i:Int)+1]:=by simp[ysm,h13,h14,h15,h16]
    have hbad:¬ yi8 x (at' dep i):=by unfold yi8; omega
    rw[if_neg hbad,hnx]at hv
    have hp0:papp [⟨true,1,dep.map nI,false⟩,⟨false,1,insC x,false⟩] 1 8 (.slc 0 [] true) (.slc 1 [.int .i64 ((i:Int)+1)] true)=some (.row 2 1 0 1,[⟨true,1,dep.map nI,false⟩,⟨false,1,insC x,false⟩,⟨true,1,[.int .i64 ((i:Int)+1)],false⟩]):=(rfl)
    simp (disch:=first|omega|decide) only[push_cast,↓reduceIte,Nat.reduceEqDiff,↓Int.reduceNatCast',hx,yfv,yew,yrq,hd0,hd1,h0,ybe,he,ydy,yaz,hbad0,lit1,e15,e14,e13,e16,haf.symm,hp0,li1]
    have hl:=yyg (tb [(101,ynl)] [(97,yt8),(100,yt7)]) c x i hil hc4 (max (max s (at' dep i)) (ycd x (at' dep i))) (ycd x (at' dep i)) (by omega) (by omega) [(i:Int)+1] (by simp) dep hdk
    refine Ykv (st':=(⟨true,1,dep.map nI,false⟩::⟨false,1,insC x,false⟩::bufS 1 (([(i:Int)+1]:List Int).map nI))) rfl ?_
    refine hl _ _ rfl rfl rfl rfl rfl rfl rfl rfl rfl rfl rfl (fun hn fr' st' g2 g3=>?_) (fun dp hn hdp fr' g0 g2 g4 g30 g31 g32=>?_)
    ·rw[hn]at hv
     have hv':((0,200):Int×Int)=ymc (verL c.length c 0 (dep0 c.length) 0):=hv
     simp (disch:=first|omega|decide) only[push_cast,g2,g3]
     rw[← hv']
    ·rw[hn]at hv
     simp (disch:=first|omega|decide) only[push_cast,↓reduceIte,Nat.reduceEqDiff,g32,yaz]
     refine yaj (i+1,dp,max (max s (at' dep i)) (ycd x (at' dep i))) ⟨by dsimp only; omega,hdp,hv⟩ (by dsimp only; omega) ?_
     simp only[push_cast,↓reduceIte,Nat.reduceLT,Nat.reduceLeDiff,g0,g2,g4,g30,g31] <;> rfl
  ·obtain rfl:i=c.length:=by omega
   rw[List.drop_length,verL]at hv
   rw[← hv]
   by_cases h6:64<s
   ·rw[show ymc (some s)=(0,2)from if_pos h6]
    simp (disch:=first|omega|decide) only[push_cast,↓reduceIte,Nat.reduceEqDiff,h6]
   ·rw[show ymc (some s)=(s,0)from if_neg h6]
    simp (disch:=first|omega|decide) only[push_cast,↓reduceIte,Nat.reduceEqDiff,h6]
set_option maxRecDepth 20000 in
theorem Yjx:Contract Tryz.prog GG 47 yEb:=
 yac (T:=tb [(101,ynl)] [(97,yt8),(100,yt7)]) yyl (yan (all_cons Yvj all_nil) (all_cons Yvc (all_cons Yu8 all_nil))) (fun a h=>Yq9 a h)
def yb3(v:Int×List Int)(p f t c:Int)(S:D)(b:Int):List D:=evC v++[.int .i64 p,.int .i64 f,.int .i64 t,.int .i64 c,S,.int .i64 b]
def vOK(v:Int×List Int):Prop:=v.2.length=16
theorem ybk{v:Int×List Int}(hv:vOK v):(evC v).length=17:=by simp[evC,show v.2.length=16 from hv]
section
variable {v:Int×List Int} (hv:vOK v) (lent:Bool) (p f t c:Int) (S:D) (b:Int)
include hv
theorem Yjf:ldO (some ⟨false,1,yb3 v p f t c S b,lent⟩) 1 false 17=some (.int .i64 p):=ycs (A:=evC v) rfl (ybk hv)
theorem yg0:ldO (some ⟨false,1,yb3 v p f t c S b,lent⟩) 1 false 21=some S:=ycs (A:=evC v++[.int .i64 p,.int .i64 f,.int .i64 t,.int .i64 c]) (by simp[yb3]; rfl) (by simp[ybk hv])
theorem yz1:ldO (some ⟨false,1,yb3 v p f t c S b,lent⟩) 1 false 22=some (.int .i64 b):=ycs (A:=evC v++[.int .i64 p,.int .i64 f,.int .i64 t,.int .i64 c,S]) (C:=[]) (by simp[yb3]) (by simp[ybk hv])
omit hv in
theorem Yfy:ldO (some ⟨false,1,yb3 v p f t c S b,lent⟩) 1 false 0=some (.int .i64 v.1):=ycs (A:=[]) (C:=v.2.map nI++[.int .i64 p,.int .i64 f,.int .i64 t,.int .i64 c,S,.int .i64 b]) (by simp[yb3,evC]) rfl
theorem ldm_v(i:Nat)(h:i<16):ldO (some ⟨false,1,yb3 v p f t c S b,lent⟩) 1 false (1+i)=some (.int .i64 (at' v.2 i)):=by
 have hi:i<v.2.length:=by rw[show v.2.length=16 from hv]; exact h
 have e:v.2=v.2.take i++(at' v.2 i::v.2.drop (i+1)):=by
  rw[at',← yuz v.2 hi,List.take_append_drop]
 refine ycs (A:=.int .i64 v.1::(v.2.take i).map nI) (C:=(v.2.drop (i+1)).map nI++[.int .i64 p,.int .i64 f,.int .i64 t,.int .i64 c,S,.int .i64 b]) ?_ (by simp; omega)
 have e2:=congrArg (List.map nI) e
 rw[List.map_append,List.map_cons]at e2
 simp only[yb3,evC]
 rw[e2]
 simp[nI]
theorem Ym3:ldO (some ⟨false,1,yb3 v p f t c S b,lent⟩) 5 true 17=some (.agg [.int .i64 p,.int .i64 f,.int .i64 t,.int .i64 c,S]):=yj9 (A:=evC v) (B:=[.int .i64 p,.int .i64 f,.int .i64 t,.int .i64 c,S]) (C:=[.int .i64 b]) (by simp[yb3]) (ybk hv) rfl
theorem yN5(p':Int):stO (some ⟨false,1,yb3 v p f t c S b,false⟩) 1 17 (.int .i64 p')=some ⟨false,1,yb3 v p' f t c S b,false⟩:=ygt (A:=evC v) (B:=[.int .i64 p]) (C:=[.int .i64 f,.int .i64 t,.int .i64 c,S,.int .i64 b]) (xs:=[.int .i64 p']) rfl rfl (ybk hv) rfl rfl rfl rfl
theorem Yr3(t':Int):stO (some ⟨false,1,yb3 v p f t c S b,false⟩) 1 19 (.int .i64 t')=some ⟨false,1,yb3 v p f t' c S b,false⟩:=ygt (A:=evC v++[.int .i64 p,.int .i64 f]) (B:=[.int .i64 t]) (C:=[.int .i64 c,S,.int .i64 b]) (xs:=[.int .i64 t']) (by simp[yb3]) (by simp[yb3]) (by simp[ybk hv]) rfl rfl rfl rfl
theorem Yr2(c':Int):stO (some ⟨false,1,yb3 v p f t c S b,false⟩) 1 20 (.int .i64 c')=some ⟨false,1,yb3 v p f t c' S b,false⟩:=ygt (A:=evC v++[.int .i64 p,.int .i64 f,.int .i64 t]) (B:=[.int .i64 c]) (C:=[S,.int .i64 b]) (xs:=[.int .i64 c']) (by simp[yb3]) (by simp[yb3]) (by simp[ybk hv]) rfl rfl rfl rfl
theorem Ylf(sz:Nat)(els:List D)(tt:Bool):stO (some ⟨false,1,yb3 v p f t c S b,false⟩) 1 21 (.slc sz els tt)=some ⟨false,1,yb3 v p f t c (.slc sz els tt) b,false⟩:=ygt (A:=evC v++[.int .i64 p,.int .i64 f,.int .i64 t,.int .i64 c]) (B:=[S]) (C:=[.int .i64 b]) (xs:=[.slc sz els tt]) (by simp[yb3]) (by simp[yb3]) (by simp[ybk hv]) rfl rfl rfl rfl
theorem Ylg(k to of ln:Nat):stO (some ⟨false,1,yb3 v p f t c S b,false⟩) 1 21 (.row k to of ln)=some ⟨false,1,yb3 v p f t c (.row k to of ln) b,false⟩:=ygt (A:=evC v++[.int .i64 p,.int .i64 f,.int .i64 t,.int .i64 c]) (B:=[S]) (C:=[.int .i64 b]) (xs:=[.row k to of ln]) (by simp[yb3]) (by simp[yb3]) (by simp[ybk hv]) rfl rfl rfl rfl
end
theorem yIr{v v':Int×List Int}(hv:vOK v)(hv':vOK v'){p f t c b p' f' t' c' b':Int}{S S':D}(h:yb3 v p f t c S b=yb3 v' p' f' t' c' S' b'):v=v'∧p=p'∧f=f'∧t=t'∧c=c'∧S=S'∧b=b':=by
 unfold yb3 at h
 obtain⟨h1,h2⟩:=List.append_inj h ((ybk hv).trans (ybk hv').symm)
 simp only[List.cons.injEq,D.int.injEq,true_and,and_true]at h2
 refine⟨?_,h2⟩
 have:evD v=evD v':=by rw[evD,evD,h1]
 exact yh2.1 this
def mset(st:St)(key:Nat)(C:List D):St:=st.set key ⟨false,1,C,false⟩
theorem yso(st:St)(key:Nat)(C:List D):(mset st key C).length=st.length:=List.length_set
theorem ygx{st:St}{key:Nat}(h:key<st.length)(C:List D):(mset st key C)[key]?=some ⟨false,1,C,false⟩:=by simp[mset,h]
theorem yby(st:St)(key:Nat)(C:List D):List.set st key (⟨false,1,C,false⟩:PI.Obj)=mset st key C:=(rfl)
theorem yd0(st:St)(key:Nat)(C C':List D):mset (mset st key C) key C'=mset st key C':=by simp[mset]
theorem ybo{st:St}{key:Nat}(h:key<st.length)(m:St)(C:List D):mset (st++m) key C=mset st key C++m:=by
 unfold mset; exact List.set_append_left _ _ h
theorem yc7{st:St}{key:Nat}(h:key<st.length)(m:St):(st++m)[key]?=st[key]?:=List.getElem?_append_left h
theorem ynu{st:St}{key:Nat}(h:key<st.length)(C:List D)(m:St):(mset st key C++m)[key]?=some ⟨false,1,C,false⟩:=by
 rw[yc7 (by rw[yso]; exact h),ygx h]
theorem yf4{st:St}{key:Nat}(h:key<st.length)(m:St)(C C':List D):mset (mset st key C++m) key C'=mset st key C'++m:=by
 rw[ybo (by rw[yso]; exact h),yd0]
theorem yi5(st:St)(o:PI.Obj):(st++[o]).length=st.length+1:=by simp
def yd2(st:St)(key:Nat)(v:Int×List Int)(p f t c:Int)(S:D)(b:Int):Prop:=st[key]?=some ⟨false,1,yb3 v p f t c S b,false⟩
theorem yed{st:St}{key:Nat}{v:Int×List Int}{p f t c:Int}{S:D}{b:Int}(h:yd2 st key v p f t c S b):key<st.length:=(List.getElem?_eq_some_iff.1 h).1
theorem yhz{st:St}{key:Nat}{v:Int×List Int}{p f t c:Int}{S:D}{b:Int}(h:yd2 st key v p f t c S b)(m:St):yd2 (st++m) key v p f t c S b:=by
 unfold yd2; rw[yc7 (yed h)]; exact h
theorem yv3{st:St}{key:Nat}{v v':Int×List Int}{p f t c b p' f' t' c' b':Int}{S S':D}(hv:vOK v)(hv':vOK v')(h:yd2 st key v p f t c S b)(h':yd2 st key v' p' f' t' c' S' b'):v=v'∧p=p'∧f=f'∧t=t'∧c=c'∧S=S'∧b=b':=by
 unfold yd2 at h h'
 rw[h]at h'
 simp only[Ywh,PI.Obj.mk.injEq,true_and,and_true]at h'
 exact yIr hv hv' h'
theorem yad(st:St)(key off:Nat):Ymm st (.ptr key off)=some (.ptr key off):=(rfl)
def topF(l:List Int)(i:Nat):Int:=at' l (l.length - 1 - i)
def topR(ds:List D)(os:List (Option (Bool×Nat×List D)))(d:D):Prop:=∃ (key:Nat) (v:Int×List Int) (p f t c:Int) (l:List Int) (b:Int) (i:Nat),vOK v∧i<l.length∧l.length≤4294967296∧ds=[.ptr key 0,.int .i64 (i:Int)]∧os=[some (false,1,yb3 v p f t c (ybq l) b)]∧d=.int .i64 (topF l i)
noncomputable def ymf:List D→List (Option (Bool×Nat×List D))→Option D:=fun ds os=>@dite _ (∃ d,topR ds os d) (Classical.propDecidable _) (fun h=>some h.choose) (fun _=>none)
theorem Yda{ds:List D}{os:List (Option (Bool×Nat×List D))}{d d':D}(h:topR ds os d)(h':topR ds os d'):d=d':=by
 obtain⟨key,v,p,f,t,c,l,b,i,hv,_,_,rfl,rfl,rfl⟩:=h
 obtain⟨key',v',p',f',t',c',l',b',i',hv',_,_,h1,h2,rfl⟩:=h'
 simp only[List.cons.injEq,D.int.injEq,true_and,and_true,Int.ofNat_inj,Ywh,Ywj]at h1 h2
 obtain⟨_,rfl⟩:=h1
 obtain⟨_,_,_,_,_,h3,_⟩:=yIr hv hv' h2
 rw[ymu.1 h3]
theorem yVp{ds:List D}{os:List (Option (Bool×Nat×List D))}{d:D}(h:topR ds os d):ymf ds os=some d:=by
 have hx:∃ d,topR ds os d:=⟨d,h⟩
 unfold ymf
 rw[dif_pos hx,Yda hx.choose_spec h]
theorem yRa{ds:List D}{os:List (Option (Bool×Nat×List D))}{d:D}(h:ymf ds os=some d):topR ds os d:=by
 unfold ymf at h
 split at h
 ·rename_i hx
  simp only[Ywh]at h
  rw[← h]; exact hx.choose_spec
 ·cases h
theorem yya{st:St}{key:Nat}{v:Int×List Int}{p f t c:Int}{l:List Int}{b:Int}(hv:vOK v)(h:yd2 st key v p f t c (ybq l) b)(i:Nat)(hi:i<l.length)(hl:l.length≤4294967296):yfr ymf [.ptr key 0,.int .i64 (i:Int)] st=some (.int .i64 (topF l i)):=by
 unfold yfr
 have e:([D.ptr key 0,.int .i64 (i:Int)]).flatMap hk=[key]:=rfl
 unfold yd2 at h
 rw[e]
 simp only[List.all_cons,List.all_nil,Bool.and_true,h,Option.isSome_some,if_true,sees,Option.map_some,PI.Obj.see]
 exact yVp ⟨key,v,p,f,t,c,l,b,i,hv,hi,hl,rfl,rfl,rfl⟩
theorem Ydy{st:St}{key:Nat}{r:Bool×Nat×List D}(h:sees st [key]=[some r]):∃ lent,st[key]?=some ⟨r.1,r.2.1,r.2.2,lent⟩:=by
 simp only[sees,List.cons.injEq,and_true]at h
 cases hk:st[key]? with
 |none=>simp[hk]at h
 |some o=>
  rw[hk]at h
  simp only[Option.map_some,Ywh,PI.Obj.see]at h
  subst h
  exact⟨o.lent,rfl⟩
set_option maxHeartbeats 4000000 in
set_option maxRecDepth 20000 in
theorem Yao:IContract Tryz.prog GG 197 (fun ds st=>(yfr ymf ds st).map (·,st)):=by
 refine yak (T:=tb [] []) ytf (yan all_nil all_nil) ?_
 intro ds st r hr
 simp only[Ywi]at hr
 obtain⟨d,hd,rfl⟩:=hr
 unfold yfr at hd
 split at hd
 case isFalse=>cases hd
 obtain⟨key,v,p,f,t,c,l,b,i,hv,hi,hl,rfl,h2,rfl⟩:=yRa hd
 obtain⟨lent,hk⟩:=Ydy h2
 dsimp only at hk
 have hx:yfw st 1 (ybq l) (.int .i64 ((l.length:Int) - 1 - (i:Int)))=some (.eptr (nI (topF l i)) 0):=by
  have:=yPt st l false (l.length - 1 - i) (by omega)
  rw[show((l.length - 1 - i:Nat):Int)=(l.length:Int) - 1 - (i:Int) by omega]at this
  exact this
 have hle:lenD st false (ybq l)=some (.int .i64 (l.length:Int)):=by simp[lenD,yp1,ybq,sLen]
 unfold ym5
 simp (disch:=first|omega|decide) only[push_cast,↓reduceIte,Nat.reduceEqDiff,Nat.reduceAdd,yad,hk,yg0 hv,hle,ydy,hx,yOr]
def yvy:Option Int→D
 |none=>.slc 0 [] true
 |some a=>.slc 1 [.int .i64 a] true
def stkD(n:Nat)(l:List Int)(k:Nat):Option Int→D
 |none=>.slc (nz 1 (l.map nI)) ((l.take (l.length - k)).map nI) true
 |some _=>.row n (l.length - k+1) 0 (l.length - k+1)
def stkO(l:List Int)(k:Nat):Option Int→St
 |none=>[]
 |some a=>[⟨true,1,(l.take (l.length - k)++[a]).map nI,false⟩]
def popR(ds:List D)(st:St)(r:D×St):Prop:=∃ (key:Nat) (v:Int×List Int) (p f t c:Int) (l:List Int) (b:Int) (k:Nat) (push:Option Int),vOK v∧yd2 st key v p f t c (ybq l) b∧k≤l.length∧l.length≤100000∧-1000000≤p∧p≤1000000∧
 ds=[.ptr key 0,.int .i64 (k:Int),yvy push]∧r=(.int .i64 0,mset st key (yb3 v (p+1) f t c (stkD st.length l k push) b)++stkO l k push)
noncomputable def ywq:List D→St→Option (D×St):=relI popR
theorem yWu{a b:Option Int}(h:yvy a=yvy b):a=b:=by
 cases a <;> cases b <;> simp_all [yvy]
theorem Yma:Fun1 popR:=by
 rintro ds st r r' ⟨key,v,p,f,t,c,l,b,k,push,hv,hm,_,_,_,_,rfl,rfl⟩ ⟨key',v',p',f',t',c',l',b',k',push',hv',hm',_,_,_,_,h,rfl⟩
 simp only[List.cons.injEq,D.ptr.injEq,D.int.injEq,true_and,and_true,Int.ofNat_inj]at h
 obtain⟨rfl,rfl,h3⟩:=h
 obtain rfl:=yWu h3
 obtain⟨rfl,rfl,rfl,rfl,rfl,h4,rfl⟩:=yv3 hv hv' hm hm'
 rw[ymu.1 h4]
theorem Yhs{st:St}{key:Nat}{v:Int×List Int}{p f t c:Int}{l:List Int}{b:Int}(hv:vOK v)(hm:yd2 st key v p f t c (ybq l) b)(k:Nat)(push:Option Int)(hk:k≤l.length)(hl:l.length≤100000)(hp0:-1000000≤p)(hp1:p≤1000000) :
  ywq [.ptr key 0,.int .i64 (k:Int),yvy push] st=some (.int .i64 0,mset st key (yb3 v (p+1) f t c (stkD st.length l k push) b)++stkO l k push):=
 yhw Yma ⟨key,v,p,f,t,c,l,b,k,push,hv,hm,hk,hl,hp0,hp1,rfl,rfl⟩
set_option maxHeartbeats 4000000 in
set_option maxRecDepth 20000 in
theorem yJ1:IContract Tryz.prog GG 195 ywq:=by
 refine yak (T:=tb [] []) ytg (yan all_nil all_nil) ?_
 intro ds st r hr
 obtain⟨key,v,p,f,t,c,l,b,k,push,hv,hm,hk,hl,hp0,hp1,rfl,rfl⟩:=yb9 hr
 have hlt:=yed hm
 unfold yd2 at hm
 have hle:lenD st false (ybq l)=some (.int .i64 (l.length:Int)):=by simp[lenD,yp1,ybq,sLen]
 have hsl:yc6 st 1 (ybq l) none (some (.int .i64 ((l.length:Int) - (k:Int)))) (some (.int .i64 ((l.length:Int) - (k:Int))))=some (.slc (nz 1 (l.map nI)) ((l.take (l.length - k)).map nI) true):=by
  have:=Ysf st l false (k:=l.length - k) (by omega)
  rwa [show((l.length - k:Nat):Int)=(l.length:Int) - (k:Int) by omega]at this
 have htl:(l.take (l.length - k)).length=l.length - k:=by rw[List.length_take]; omega
 unfold ym6
 cases push with
 |none=>
  have happ:papp st 1 8 (.slc (nz 1 (l.map nI)) ((l.take (l.length - k)).map nI) true) (.slc 0 [] true)=some (.slc (nz 1 (l.map nI)) ((l.take (l.length - k)).map nI) true,st):=yIi st 1 8 _ 0 _ true (by decide)
  simp (disch:=first|omega|decide) only[push_cast,↓reduceIte,Nat.reduceEqDiff,Nat.reduceAdd,yvy,yad,hm,yg0 hv,Yjf hv,hle,ydy,hsl,happ,Ylf hv,yN5 hv,yby,ygx hlt,yd0,yaz,stkD,stkO]
 |some a=>
  have happ:papp st 1 8 (.slc (nz 1 (l.map nI)) ((l.take (l.length - k)).map nI) true) (.slc 1 [.int .i64 a] true)=some (.row st.length (l.length - k+1) 0 (l.length - k+1),st++[⟨true,1,(l.take (l.length - k)++[a]).map nI,false⟩]):=by
   have:=yO0 st 1 8 (nz 1 (l.map nI)) ((l.take (l.length - k)).map nI) (.slc 1 [.int .i64 a] true) [.int .i64 a] 1 rfl (.inl rfl) (by
    cases l with
    |nil=>right; simp
    |cons x r=>left; rfl) (by decide) (by simp) (by simp[htl]; omega) (by simp[htl]; omega)
   rw[this]
   simp[nI]
  simp (disch:=first|omega|decide) only[push_cast,↓reduceIte,Nat.reduceEqDiff,Nat.reduceAdd,yvy,yad,hm,yg0 hv,Yjf hv,hle,ydy,hsl,happ,yc7 hlt,Ylg hv,yN5 hv,yby,ybo hlt,ynu hlt,yf4 hlt,yaz,stkD,stkO]
def binF(op a b:Int):Int×Int:=
 if op=3 then addF a b else if op=4 then subF a b else if op=5 then mulF a b else if op=6 then(min a b,0)else if op=7 then(max a b,0)else
 if op=8 then divF a b 8 else if op=9 then divF a b 9 else if op=10 then divF a b 10 else if op=11 then(if a<b then 1 else 0,0)else(0,0)
noncomputable def yxp:List D→Option D:=spOf (α:=Bool) (fun a=>[.bool a]) (fun a=>True) (fun a=>.int .i64 (if a=true then 1 else 0))
theorem yDd(x:Bool):yxp [.bool x]=some (.int .i64 (if x=true then 1 else 0)):=
 yae (fun a b h=>by simp only[List.cons.injEq,D.bool.injEq,and_true]at h; simp[h]) (x) trivial
theorem Yj9(x:Bool):@wW GG (tb [] []) yof.code (argF [.bool x]) [] ⟨retQ yof.res (.int .i64 (if x=true then 1 else 0))⟩:=by
 unfold yof
 cases x <;> simp (disch:=first|omega|decide) only[push_cast,↓reduceIte,Nat.reduceEqDiff]
theorem Ybk:Contract Tryz.prog GG 196 yxp:=
 yac yG7 (yan all_nil all_nil) (fun a h=>Yj9 a)
noncomputable def yEp:List D→Option D:=spOf (α:=Int×Int) (fun a=>[.int .i64 a.1,.int .i64 a.2]) (fun a=>True) (fun a=>.tup [.int .i64 (min a.1 a.2),.int .i64 0])
theorem Ybf(a:Int)(b:Int):yEp [.int .i64 a,.int .i64 b]=some (.tup [.int .i64 (min a b),.int .i64 0]):=
 yae (fun⟨a0,a1⟩ ⟨b0,b1⟩ h=>by simp only[List.cons.injEq,D.int.injEq,true_and,and_true]at h; simp[h]) (a,b) trivial
theorem Yrm(a:Int)(b:Int):@wW GG (tb [] []) ygg.code (argF [.int .i64 a,.int .i64 b]) [] ⟨retQ ygg.res (.tup [.int .i64 (min a b),.int .i64 0])⟩:=by
 unfold ygg
 simp (disch:=first|omega|decide) only[push_cast,↓reduceIte,Nat.reduceEqDiff]
theorem Yvr:Contract Tryz.prog GG 234 yEp:=
 yac yvk (yan all_nil all_nil) (fun a h=>Yrm a.1 a.2)
noncomputable def yEo:List D→Option D:=spOf (α:=Int×Int) (fun a=>[.int .i64 a.1,.int .i64 a.2]) (fun a=>True) (fun a=>.tup [.int .i64 (max a.1 a.2),.int .i64 0])
theorem Ybe(a:Int)(b:Int):yEo [.int .i64 a,.int .i64 b]=some (.tup [.int .i64 (max a b),.int .i64 0]):=
 yae (fun⟨a0,a1⟩ ⟨b0,b1⟩ h=>by simp only[List.cons.injEq,D.int.injEq,true_and,and_true]at h; simp[h]) (a,b) trivial
theorem Yrl(a:Int)(b:Int):@wW GG (tb [] []) ygf.code (argF [.int .i64 a,.int .i64 b]) [] ⟨retQ ygf.res (.tup [.int .i64 (max a b),.int .i64 0])⟩:=by
 unfold ygf
 simp (disch:=first|omega|decide) only[push_cast,↓reduceIte,Nat.reduceEqDiff]
theorem Yvq:Contract Tryz.prog GG 235 yEo:=
 yac yvj (yan all_nil all_nil) (fun a h=>Yrl a.1 a.2)
noncomputable def yEn:List D→Option D:=spOf (α:=Int×Int) (fun a=>[.int .i64 a.1,.int .i64 a.2]) (fun a=>True) (fun a=>.tup [.int .i64 (divF a.1 a.2 8).1,.int .i64 (divF a.1 a.2 8).2])
theorem Ybd(a:Int)(b:Int):yEn [.int .i64 a,.int .i64 b]=some (.tup [.int .i64 (divF a b 8).1,.int .i64 (divF a b 8).2]):=
 yae (fun⟨a0,a1⟩ ⟨b0,b1⟩ h=>by simp only[List.cons.injEq,D.int.injEq,true_and,and_true]at h; simp[h]) (a,b) trivial
theorem Yrk(a:Int)(b:Int):@wW GG (tb [(237,ytw)] []) yge.code (argF [.int .i64 a,.int .i64 b]) [] ⟨retQ yge.res (.tup [.int .i64 (divF a b 8).1,.int .i64 (divF a b 8).2])⟩:=by
 unfold yge
 simp (disch:=first|omega|decide) only[push_cast,↓reduceIte,Nat.reduceEqDiff,ywg a b 8 (.inl rfl)]
theorem Yvp:Contract Tryz.prog GG 236 yEn:=
 yac yvi (yan (all_cons yNj all_nil) all_nil) (fun a h=>Yrk a.1 a.2)
noncomputable def yEm:List D→Option D:=spOf (α:=Int×Int) (fun a=>[.int .i64 a.1,.int .i64 a.2]) (fun a=>True) (fun a=>.tup [.int .i64 (divF a.1 a.2 9).1,.int .i64 (divF a.1 a.2 9).2])
theorem Ybc(a:Int)(b:Int):yEm [.int .i64 a,.int .i64 b]=some (.tup [.int .i64 (divF a b 9).1,.int .i64 (divF a b 9).2]):=
 yae (fun⟨a0,a1⟩ ⟨b0,b1⟩ h=>by simp only[List.cons.injEq,D.int.injEq,true_and,and_true]at h; simp[h]) (a,b) trivial
theorem Yrj(a:Int)(b:Int):@wW GG (tb [(237,ytw)] []) ygd.code (argF [.int .i64 a,.int .i64 b]) [] ⟨retQ ygd.res (.tup [.int .i64 (divF a b 9).1,.int .i64 (divF a b 9).2])⟩:=by
 unfold ygd
 simp (disch:=first|omega|decide) only[push_cast,↓reduceIte,Nat.reduceEqDiff,ywg a b 9 (.inr (.inl rfl))]
theorem Yvo:Contract Tryz.prog GG 238 yEm:=
 yac yvh (yan (all_cons yNj all_nil) all_nil) (fun a h=>Yrj a.1 a.2)
noncomputable def yEl:List D→Option D:=spOf (α:=Int×Int) (fun a=>[.int .i64 a.1,.int .i64 a.2]) (fun a=>True) (fun a=>.tup [.int .i64 (divF a.1 a.2 10).1,.int .i64 (divF a.1 a.2 10).2])
theorem Ybb(a:Int)(b:Int):yEl [.int .i64 a,.int .i64 b]=some (.tup [.int .i64 (divF a b 10).1,.int .i64 (divF a b 10).2]):=
 yae (fun⟨a0,a1⟩ ⟨b0,b1⟩ h=>by simp only[List.cons.injEq,D.int.injEq,true_and,and_true]at h; simp[h]) (a,b) trivial
theorem Yri(a:Int)(b:Int):@wW GG (tb [(237,ytw)] []) ygc.code (argF [.int .i64 a,.int .i64 b]) [] ⟨retQ ygc.res (.tup [.int .i64 (divF a b 10).1,.int .i64 (divF a b 10).2])⟩:=by
 unfold ygc
 simp (disch:=first|omega|decide) only[push_cast,↓reduceIte,Nat.reduceEqDiff,ywg a b 10 (.inr (.inr rfl))]
theorem Yvn:Contract Tryz.prog GG 239 yEl:=
 yac yvg (yan (all_cons yNj all_nil) all_nil) (fun a h=>Yri a.1 a.2)
noncomputable def yEk:List D→Option D:=spOf (α:=Int×Int) (fun a=>[.int .i64 a.1,.int .i64 a.2]) (fun a=>True) (fun a=>.tup [.int .i64 (if a.1<a.2 then 1 else 0),.int .i64 0])
theorem Yba(a:Int)(b:Int):yEk [.int .i64 a,.int .i64 b]=some (.tup [.int .i64 (if a<b then 1 else 0),.int .i64 0]):=
 yae (fun⟨a0,a1⟩ ⟨b0,b1⟩ h=>by simp only[List.cons.injEq,D.int.injEq,true_and,and_true]at h; simp[h]) (a,b) trivial
theorem Yrh(a:Int)(b:Int):@wW GG (tb [(196,yxp)] []) ygb.code (argF [.int .i64 a,.int .i64 b]) [] ⟨retQ ygb.res (.tup [.int .i64 (if a<b then 1 else 0),.int .i64 0])⟩:=by
 unfold ygb
 have hc:=yDd (decide (a<b))
 by_cases h:a<b
 ·rw[decide_eq_true h]at hc
  simp (disch:=first|omega|decide) only[push_cast,↓reduceIte,Nat.reduceEqDiff,h,hc]
 ·rw[decide_eq_false h]at hc
  simp (disch:=first|omega|decide) only[push_cast,↓reduceIte,Nat.reduceEqDiff,h,hc]
theorem Yvm:Contract Tryz.prog GG 240 yEk:=
 yac yvf (yan (all_cons Ybk all_nil) all_nil) (fun a h=>Yrh a.1 a.2)
theorem ygw{sp:List D→Option D}{a b x y:Int}(h:sp [.int .i64 a,.int .i64 b]=some (.tup [.int .i64 x,.int .i64 y]))(st:St):yfs sp [.int .i64 a,.int .i64 b] st=some (.tup [.int .i64 x,.int .i64 y],st):=by
 have h1:imms st [.int .i64 a,.int .i64 b]=some [.int .i64 a,.int .i64 b]:=(rfl)
 simp only[yfs,h1,h]
 rfl
def ynt(op:Int):Int:=if op=12∨op=13∨op=15 then 1 else if 3≤op∧op≤11 then 2 else 0
theorem Yut(op:Int)(h:3≤op∧op≤11):∃ f,yel op binA=some f:=by
 obtain⟨h1,h2⟩:=h
 have:op=3∨op=4∨op=5∨op=6∨op=7∨op=8∨op=9∨op=10∨op=11:=by omega
 rcases this with rfl | rfl | rfl | rfl | rfl | rfl | rfl | rfl | rfl <;> exact⟨_,rfl⟩
theorem Yok(op:Int)(h:¬ (3≤op∧op≤11)):yel op binA=none:=by
 simp only[binA,yel]
 rw[if_neg (by omega),if_neg (by omega),if_neg (by omega),if_neg (by omega),if_neg (by omega),if_neg (by omega),if_neg (by omega),if_neg (by omega),if_neg (by omega)]
theorem yFi(st:St)(op:Int)(ok:Bool)(zero:D):ydz st 0 [] ok zero (.gmap binA) (.int .i64 op)=some (match yel op binA with
  |some f=>if ok then .tup [.agg [.clo f []],.bool true]else .agg [.clo f []]
  |none=>if ok then .tup [zero,.bool false]else zero):=(rfl)
theorem Yj1:boxD (.agg [.nilf])=some [.nilf]:=(rfl)
theorem st_nf(f:Nat):stO (some ⟨false,1,[.nilf],false⟩) 1 0 (.agg [.clo f []])=some ⟨false,1,[.clo f []],false⟩:=(rfl)
theorem st_nn:stO (some ⟨false,1,[.nilf],false⟩) 1 0 (.agg [.nilf])=some ⟨false,1,[.nilf],false⟩:=(rfl)
theorem ypu(st:St):ydd st 1 false (.eptr (.gmap binA) 0)=some (.gmap binA):=(rfl)
noncomputable def yxr:List D→Option D:=spOf (α:=Int) (fun a=>[.int .i64 a]) (fun a=>True) (fun a=>.int .i64 (ynt a))
theorem yDf(op:Int):yxr [.int .i64 op]=some (.int .i64 (ynt op)):=
 yae (fun a b h=>by simp only[List.cons.injEq,D.int.injEq,true_and,and_true]at h; simp[h]) (op) trivial
theorem Ykd(op:Int):@wW GG (tb [] []) yoh.code (argF [.int .i64 op]) [] ⟨retQ yoh.res (.int .i64 (ynt op))⟩:=by
 unfold yoh ynt
 by_cases h1:op=12
 ·subst h1; simp (disch:=first|omega|decide) only[push_cast,↓reduceIte,Nat.reduceEqDiff,true_or]
 ·by_cases h2:op=13
  ·subst h2; simp (disch:=first|omega|decide) only[push_cast,↓reduceIte,Nat.reduceEqDiff,h1,true_or,or_true]
  ·by_cases h3:op=15
   ·subst h3; simp (disch:=first|omega|decide) only[push_cast,↓reduceIte,Nat.reduceEqDiff,h1,h2,or_true]
   ·have hn:¬ (op=12∨op=13∨op=15):=by omega
    rw[if_neg hn]
    by_cases h4:3≤op∧op≤11
    ·obtain⟨f,hf⟩:=Yut op h4
     have hg:=yFi [] op true (.agg [.nilf])
     rw[hf]at hg
     simp (disch:=first|omega|decide) only[push_cast,↓reduceIte,Nat.reduceEqDiff,h1,h2,h3,h4,ypb _ _ _ _ GG_b,ypu,hg,Yj1,st_nf]
    ·have hf:=Yok op h4
     have hg:=yFi [] op true (.agg [.nilf])
     rw[hf]at hg
     simp (disch:=first|omega|decide) only[push_cast,↓reduceIte,Nat.reduceEqDiff,h1,h2,h3,h4,ypb _ _ _ _ GG_b,ypu,hg,Yj1,st_nn]
theorem Ybm:Contract Tryz.prog GG 109 yxr:=
 yac yG9 (yan all_nil all_nil) (fun a h=>Ykd a)
inductive Out where
 |err (e:Int)
 |pop (k:Nat) (push:Option Int) (pc:Option Int)
 |set (p t c:Int)
def andI(a b:Int):Int:=IntKind.wrap .i64 ((BitVec.ofInt 64 a &&& BitVec.ofInt 64 b).toNat:Int)
def bitI(n:Int):Int:=IntKind.wrap .i64 (1*2 ^ (min n.toNat 64))
def topS(s:Sta)(i:Nat):Int:=topF s.stack i
def outF(v:Int×List Int)(b:Int)(s:Sta)(x:Ins):Out:=
 if x.op=1 then(if 64≤b+s.stack.length then .err 200 else .pop 0 (some x.n) none)
 else if x.op=2 then(if 64≤b+s.stack.length then .err 200 else if andI v.1 (bitI x.n)=0 then .err 181 else if at' v.2 x.n.toNat < -9007199254740992∨9007199254740992<at' v.2 x.n.toNat then .err 3 else .pop 0 (some (at' v.2 x.n.toNat)) none)
 else if x.op=12 then .pop 1 (some (if x.n≤topS s 0∧topS s 0≤x.m then 1 else 0)) none
 else if x.op=13 then .pop 1 none (if topS s 0=0 then some x.n else none)
 else if x.op=14 then .set x.n s.status s.clause
 else if x.op=15 then .set s.pc 1 x.n
 else if x.op=16 then .err 180
 else if(binF x.op (topS s 1) (topS s 0)).2=0 then .pop 2 (some (binF x.op (topS s 1) (topS s 0)).1) none else .err (binF x.op (topS s 1) (topS s 0)).2
def outR(st:St)(key:Nat)(v:Int×List Int)(b:Int)(s:Sta)(x:Ins):Out→D×St
 |.err e=>(.int .i64 e,st++[⟨false,1,insC x,false⟩])
 |.pop k push pc=>(.int .i64 0,mset st key (yb3 v (pc.getD (s.pc+1)) s.fuel s.status s.clause (stkD (st.length+1) s.stack k push) b)++[⟨false,1,insC x,false⟩]++stkO s.stack k push)
 |.set p t c=>(.int .i64 0,mset st key (yb3 v p s.fuel t c (ybq s.stack) b)++[⟨false,1,insC x,false⟩])
structure mOK (v:Int×List Int) (b:Int) (s:Sta) (x:Ins):Prop where
 v:vOK v
 b0:0≤b
 b1:b≤64
 l:s.stack.length≤64
 p0:0≤s.pc
 p1:s.pc≤100000
 f:ybi x=true
 n:ynt x.op≤s.stack.length
def mthR(P:Int→Prop)(ds:List D)(st:St)(r:D×St):Prop:=∃ (key:Nat) (v:Int×List Int) (b:Int) (s:Sta) (x:Ins),mOK v b s x∧P x.op∧yd2 st key v s.pc s.fuel s.status s.clause (ybq s.stack) b∧ds=[.ptr key 0,insD x]∧r=outR st key v b s x (outF v b s x)
noncomputable def yhk(P:Int→Prop):List D→St→Option (D×St):=relI (mthR P)
theorem Ymp(P:Int→Prop):Fun1 (mthR P):=by
 rintro ds st r r' ⟨key,v,b,s,x,hm,_,hk,rfl,rfl⟩ ⟨key',v',b',s',x',hm',_,hk',h,rfl⟩
 simp only[List.cons.injEq,D.ptr.injEq,and_true,yq6]at h
 obtain⟨rfl,rfl⟩:=h
 obtain⟨rfl,h1,h2,h3,h4,h5,rfl⟩:=yv3 hm.v hm'.v hk hk'
 have h6:=ymu.1 h5
 obtain⟨a1,a2,a3,a4,a5⟩:=s
 obtain⟨b1,b2,b3,b4,b5⟩:=s'
 dsimp only at h1 h2 h3 h4 h6
 subst h1; subst h2; subst h3; subst h4; subst h6
 rfl
theorem Yht{P:Int→Prop}{st:St}{key:Nat}{v:Int×List Int}{b:Int}{s:Sta}{x:Ins}(hm:mOK v b s x)(hp:P x.op)(hk:yd2 st key v s.pc s.fuel s.status s.clause (ybq s.stack) b):yhk P [.ptr key 0,insD x] st=some (outR st key v b s x (outF v b s x)):=
 yhw (Ymp P) ⟨key,v,b,s,x,hm,hp,hk,rfl,rfl⟩
theorem Yg0{x:Ins}(h:ybi x=true):0≤x.n∧x.n≤9007199254740992∧(x.op=2→x.n<16):=by
 have:=of_decide_eq_true h
 obtain⟨h1,h2,h3,h4,h5,h6⟩:=this
 have hm:(yph x.op).2≤9007199254740992:=by rcases yBh x.op with e | e | e | e <;> rw[e] <;> decide
 refine⟨by omega,by omega,fun h7=>?_⟩
 have:yph x.op=(1,15):=by rw[h7]; rfl
 rw[this]at h6
 dsimp only at h6
 omega
theorem yZq{x:Ins}(h:ybi x=true):1≤x.op∧x.op≤16:=⟨(of_decide_eq_true h).1,(of_decide_eq_true h).2.1⟩
theorem yGu(a b:Int):pbin .and (.int .i64 a) (.int .i64 b)=some (.int .i64 (andI a b)):=(rfl)
theorem yV2{n:Int}(h:0≤n):pbin .shl (.int .i64 1) (.int .i64 n)=some (.int .i64 (bitI n)):=by
 simp only[pbin,yov,show ¬ n<0 by omega,if_false,Option.map_some,bitI]
 rfl
theorem ybp(st:St)(l:List Int):lenD st false (ybq l)=some (.int .i64 (l.length:Int)):=by simp[lenD,yp1,ybq,sLen]
theorem yqe{st:St}{key:Nat}{v:Int×List Int}{p f t c:Int}{l:List Int}{b:Int}(hv:vOK v)(hm:yd2 st key v p f t c (ybq l) b)(x:Ins)(k:Nat)(kI:Int)(hkI:kI=(k:Int))(push:Option Int)(hk:k≤l.length)(hl:l.length≤64)(hp0:0≤p)(hp1:p≤100000) :
  ywq [.ptr key 0,.int .i64 kI,yvy push] (st++[⟨false,1,insC x,false⟩])=some (.int .i64 0,mset st key (yb3 v (p+1) f t c (stkD (st.length+1) l k push) b)++[⟨false,1,insC x,false⟩]++stkO l k push):=by
 subst hkI
 have:=Yhs hv (yhz hm [⟨false,1,insC x,false⟩]) k push hk (by omega) (by omega) (by omega)
 rwa [ybo (yed hm),yi5]at this
theorem Ypf:IContract Tryz.prog GG 177 (yhk (·=1)):=by
 refine yak (T:=tb [] [(195,ywq)]) yr6 (yan all_nil (all_cons yJ1 all_nil)) ?_
 intro ds st r hr
 obtain⟨key,v,b,s,x,hm,hop,hk,rfl,rfl⟩:=yb9 hr
 obtain⟨hv,hb0,hb1,hl,hp0,hp1,hf,hn⟩:=hm
 have hlt:=yed hk
 have hcp:=yqe hv hk x 0 0 rfl (some x.n) (Nat.zero_le _) hl hp0 hp1
 simp only[yvy]at hcp
 have hk':=hk
 unfold yd2 at hk'
 unfold ylk
 by_cases h1:64≤b+(s.stack.length:Int)
 ·rw[show outF v b s x=.err 200 by unfold outF; rw[if_pos hop,if_pos h1]]
  simp (disch:=first|omega|decide) only[push_cast,↓reduceIte,Nat.reduceEqDiff,Nat.reduceAdd,yav,yad,yc7 hlt,hk',yz1 hv,yg0 hv,ybp,yaz,h1,outR]
 ·rw[show outF v b s x=.pop 0 (some x.n) none by unfold outF; rw[if_pos hop,if_neg h1]]
  simp (disch:=first|omega|decide) only[push_cast,↓reduceIte,Nat.reduceEqDiff,Nat.reduceAdd,yav,yad,yc7 hlt,hk',yz1 hv,yg0 hv,ybp,yaz,h1,yax,yg2,lit1,hcp,outR,Option.getD_none]
theorem Yph:IContract Tryz.prog GG 178 (yhk (·=2)):=by
 refine yak (T:=tb [] [(195,ywq)]) yr8 (yan all_nil (all_cons yJ1 all_nil)) ?_
 intro ds st r hr
 obtain⟨key,v,b,s,x,hm,hop,hk,rfl,rfl⟩:=yb9 hr
 obtain⟨hv,hb0,hb1,hl,hp0,hp1,hf,hn⟩:=hm
 have hlt:=yed hk
 have hk':=hk
 unfold yd2 at hk'
 obtain⟨hn0,_,hn16⟩:=Yg0 hf
 have hn16:=hn16 hop
 have hv2:v.2.length=16:=hv
 have hld:=fun lent=>ldm_v hv lent s.pc s.fuel s.status s.clause (ybq s.stack) b x.n.toNat (by omega)
 have hcp:=yqe hv hk x 0 0 rfl (some (at' v.2 x.n.toNat)) (Nat.zero_le _) hl hp0 hp1
 simp only[yvy]at hcp
 have e1:¬ x.op=1:=by omega
 unfold ylm
 by_cases h1:64≤b+(s.stack.length:Int)
 ·rw[show outF v b s x=.err 200 by unfold outF; rw[if_neg e1,if_pos hop,if_pos h1]]
  simp (disch:=first|omega|decide) only[push_cast,↓reduceIte,Nat.reduceEqDiff,Nat.reduceAdd,Int.reduceNeg,yav,yad,yc7 hlt,hk',yz1 hv,yg0 hv,ybp,yaz,outR,h1]
 ·by_cases h2:andI v.1 (bitI x.n)=0
  ·rw[show outF v b s x=.err 181 by unfold outF; rw[if_neg e1,if_pos hop,if_neg h1,if_pos h2]]
   simp (disch:=first|omega|decide) only[push_cast,↓reduceIte,Nat.reduceEqDiff,Nat.reduceAdd,Int.reduceNeg,yav,yad,yc7 hlt,hk',yz1 hv,yg0 hv,Yfy,ybp,yaz,yax,yg2,outR,h1,yV2 hn0,yGu,h2]
  ·by_cases h3:at' v.2 x.n.toNat < -9007199254740992
   ·rw[show outF v b s x=.err 3 by unfold outF; rw[if_neg e1,if_pos hop,if_neg h1,if_neg h2,if_pos (.inl h3)]]
    simp (disch:=first|omega|decide) only[push_cast,↓reduceIte,Nat.reduceEqDiff,Nat.reduceAdd,Int.reduceNeg,yav,yad,yc7 hlt,hk',yz1 hv,yg0 hv,Yfy,ybp,yaz,yax,yg2,outR,h1,yV2 hn0,yGu,h2,yk9,hld,h3]
   ·by_cases h4:9007199254740992<at' v.2 x.n.toNat
    ·rw[show outF v b s x=.err 3 by unfold outF; rw[if_neg e1,if_pos hop,if_neg h1,if_neg h2,if_pos (.inr h4)]]
     simp (disch:=first|omega|decide) only[push_cast,↓reduceIte,Nat.reduceEqDiff,Nat.reduceAdd,Int.reduceNeg,yav,yad,yc7 hlt,hk',yz1 hv,yg0 hv,Yfy,ybp,yaz,yax,yg2,outR,h1,yV2 hn0,yGu,h2,yk9,hld,h3,h4]
    ·rw[show outF v b s x=.pop 0 (some (at' v.2 x.n.toNat)) none by unfold outF; rw[if_neg e1,if_pos hop,if_neg h1,if_neg h2,if_neg (by omega)]]
     simp (disch:=first|omega|decide) only[push_cast,↓reduceIte,Nat.reduceEqDiff,Nat.reduceAdd,Int.reduceNeg,yav,yad,yc7 hlt,hk',yz1 hv,yg0 hv,Yfy,ybp,yaz,yax,yg2,lit1,outR,Option.getD_none,h1,yV2 hn0,yGu,h2,yk9,hld,h3,h4,hcp]
theorem yT1:IContract Tryz.prog GG 179 (yhk (·=12)):=by
 refine yak (T:=tbq [(196,yxp)] [(195,ywq)] [(197,ymf)]) yo6 (yVd (all_cons Ybk all_nil) (all_cons yJ1 all_nil) (all_cons Yao all_nil)) ?_
 intro ds st r hr
 obtain⟨key,v,b,s,x,hm,hop,hk,rfl,rfl⟩:=yb9 hr
 obtain⟨hv,hb0,hb1,hl,hp0,hp1,hf,hn⟩:=hm
 have hlt:=yed hk
 have hk':=hk
 unfold yd2 at hk'
 have hn1:ynt x.op=1:=by rw[hop]; rfl
 have ht:yfr ymf [.ptr key 0,.int .i64 0] (st++[⟨false,1,insC x,false⟩])=some (.int .i64 (topS s 0)):=yya hv (yhz hk _) 0 (by omega) (by omega)
 have hcp:=yqe hv hk x 1 1 rfl (some (if x.n≤topS s 0∧topS s 0≤x.m then 1 else 0)) (by omega) hl hp0 hp1
 simp only[yvy]at hcp
 rw[show outF v b s x=.pop 1 (some (if x.n≤topS s 0∧topS s 0≤x.m then 1 else 0)) none by unfold outF; rw[if_neg (by omega),if_neg (by omega),if_pos hop]]
 have hc:=yDd (decide (x.n≤topS s 0∧topS s 0≤x.m))
 simp only[decide_eq_true_eq]at hc
 unfold yiv
 by_cases h1:x.n≤topS s 0
 ·by_cases h2:topS s 0≤x.m
  ·have hw:(if x.n≤topS s 0∧topS s 0≤x.m then(1:Int)else 0)=1:=if_pos ⟨h1,h2⟩
   rw[hw]at hcp ⊢
   rw[decide_eq_true ⟨h1,h2⟩]at hc
   simp (disch:=first|omega|decide) only[push_cast,↓reduceIte,Nat.reduceEqDiff,yav,yax,yg2,yMr,lit1,outR,Option.getD_none,h1,h2,ht,hc,hcp]
  ·have hw:(if x.n≤topS s 0∧topS s 0≤x.m then(1:Int)else 0)=0:=if_neg (by omega)
   rw[hw]at hcp ⊢
   rw[decide_eq_false (by omega)]at hc
   simp (disch:=first|omega|decide) only[push_cast,↓reduceIte,Nat.reduceEqDiff,yav,yax,yg2,yMr,lit1,outR,Option.getD_none,h1,h2,ht,hc,hcp]
 ·have hw:(if x.n≤topS s 0∧topS s 0≤x.m then(1:Int)else 0)=0:=if_neg (by omega)
  rw[hw]at hcp ⊢
  rw[decide_eq_false (by omega)]at hc
  simp (disch:=first|omega|decide) only[push_cast,↓reduceIte,Nat.reduceEqDiff,yav,yax,yg2,lit1,outR,Option.getD_none,h1,ht,hc,hcp]
theorem Ypi:IContract Tryz.prog GG 181 (yhk (·=14)):=by
 refine yak (T:=tb [] []) yr9 (yan all_nil all_nil) ?_
 intro ds st r hr
 obtain⟨key,v,b,s,x,hm,hop,hk,rfl,rfl⟩:=yb9 hr
 obtain⟨hv,hb0,hb1,hl,hp0,hp1,hf,hn⟩:=hm
 have hlt:=yed hk
 have hk':=hk
 unfold yd2 at hk'
 rw[show outF v b s x=.set x.n s.status s.clause by unfold outF; rw[if_neg (by omega),if_neg (by omega),if_neg (by omega),if_neg (by omega),if_pos hop]]
 unfold yln
 simp (disch:=first|omega|decide) only[push_cast,↓reduceIte,Nat.reduceEqDiff,yav,yad,yc7 hlt,hk',yax,yg2,outR,yN5 hv,yby,ybo hlt]
theorem Ypg:IContract Tryz.prog GG 183 (yhk (·=16)):=by
 refine yak (T:=tb [] []) yr7 (yan all_nil all_nil) ?_
 intro ds st r hr
 obtain⟨key,v,b,s,x,hm,hop,hk,rfl,rfl⟩:=yb9 hr
 obtain⟨hv,hb0,hb1,hl,hp0,hp1,hf,hn⟩:=hm
 have hlt:=yed hk
 have hk':=hk
 unfold yd2 at hk'
 rw[show outF v b s x=.err 180 by unfold outF; rw[if_neg (by omega),if_neg (by omega),if_neg (by omega),if_neg (by omega),if_neg (by omega),if_neg (by omega),if_pos hop]]
 unfold yll
 simp (disch:=first|omega|decide) only[push_cast,↓reduceIte,yav,outR]
theorem Ygx(st:St)(key:Nat)(C:List D)(o:PI.Obj):(mset st key C++[o])[st.length]?=some o:=by
 have:=yax (mset st key C) o
 rwa [yso]at this
theorem Ypc:IContract Tryz.prog GG 180 (yhk (·=13)):=by
 refine yak (T:=tbq [] [(195,ywq)] [(197,ymf)]) yr5 (yVd all_nil (all_cons yJ1 all_nil) (all_cons Yao all_nil)) ?_
 intro ds st r hr
 obtain⟨key,v,b,s,x,hm,hop,hk,rfl,rfl⟩:=yb9 hr
 obtain⟨hv,hb0,hb1,hl,hp0,hp1,hf,hn⟩:=hm
 have hlt:=yed hk
 have hk':=hk
 unfold yd2 at hk'
 have hn1:ynt x.op=1:=by rw[hop]; rfl
 have ht:yfr ymf [.ptr key 0,.int .i64 0] (st++[⟨false,1,insC x,false⟩])=some (.int .i64 (topS s 0)):=yya hv (yhz hk _) 0 (by omega) (by omega)
 have hcp:=yqe hv hk x 1 1 rfl none (by omega) hl hp0 hp1
 simp only[yvy,stkO,List.append_nil]at hcp
 unfold ylj
 by_cases h1:topS s 0=0
 ·rw[show outF v b s x=.pop 1 none (some x.n) by unfold outF; rw[if_neg (by omega),if_neg (by omega),if_neg (by omega),if_pos hop,if_pos h1]]
  simp (disch:=first|omega|decide) only[push_cast,↓reduceIte,Nat.reduceEqDiff,yav,yad,yg2,outR,Option.getD_some,ht,h1,hcp,Ygx,ynu hlt,yN5 hv,yby,yf4 hlt,stkO]
 ·rw[show outF v b s x=.pop 1 none none by unfold outF; rw[if_neg (by omega),if_neg (by omega),if_neg (by omega),if_pos hop,if_neg h1]]
  simp (disch:=first|omega|decide) only[push_cast,↓reduceIte,Nat.reduceEqDiff,yav,outR,Option.getD_none,ht,h1,hcp,stkO]
theorem Yu9:IContract Tryz.prog GG 182 (yhk (·=15)):=by
 refine yak (T:=tb [] []) yth (yan all_nil all_nil) ?_
 intro ds st r hr
 obtain⟨key,v,b,s,x,hm,hop,hk,rfl,rfl⟩:=yb9 hr
 obtain⟨hv,hb0,hb1,hl,hp0,hp1,hf,hn⟩:=hm
 have hlt:=yed hk
 have hk':=hk
 unfold yd2 at hk'
 rw[show outF v b s x=.set s.pc 1 x.n by unfold outF; rw[if_neg (by omega),if_neg (by omega),if_neg (by omega),if_neg (by omega),if_neg (by omega),if_pos hop]]
 have hne:(key == st.length)=false:=by rw[beq_eq_false_iff_ne]; omega
 unfold ym7
 simp (disch:=first|omega|decide) only[push_cast,↓yal,↓reduceIte,Nat.reduceEqDiff,Nat.reduceAdd,yav,yad,yc7 hlt,hk',yax,yg2,outR,Yr3 hv,Yr2 hv,yby,ybo hlt,ynu hlt,yf4 hlt,hne]
theorem Ydd:IContract Tryz.prog GG 231 (yfs yxu):=Ypq.toI Tryz.func231 (by kernel_rfl) (by kernel_rfl)
theorem Ydb:IContract Tryz.prog GG 232 (yfs yxs):=Ypo.toI Tryz.func232 (by kernel_rfl) (by kernel_rfl)
theorem Ydc:IContract Tryz.prog GG 233 (yfs yxt):=Ypp.toI Tryz.func233 (by kernel_rfl) (by kernel_rfl)
theorem Ylc:IContract Tryz.prog GG 234 (yfs yEp):=Yvr.toI Tryz.func234 (by kernel_rfl) (by kernel_rfl)
theorem Ylb:IContract Tryz.prog GG 235 (yfs yEo):=Yvq.toI Tryz.func235 (by kernel_rfl) (by kernel_rfl)
theorem Yla:IContract Tryz.prog GG 236 (yfs yEn):=Yvp.toI Tryz.func236 (by kernel_rfl) (by kernel_rfl)
theorem Yk9:IContract Tryz.prog GG 238 (yfs yEm):=Yvo.toI Tryz.func238 (by kernel_rfl) (by kernel_rfl)
theorem Yk8:IContract Tryz.prog GG 239 (yfs yEl):=Yvn.toI Tryz.func239 (by kernel_rfl) (by kernel_rfl)
theorem Yk7:IContract Tryz.prog GG 240 (yfs yEk):=Yvm.toI Tryz.func240 (by kernel_rfl) (by kernel_rfl)
theorem yT2:IContract Tryz.prog GG 184 (yhk (fun o=>3≤o∧o≤11)):=by
 refine yak (T:=tbq [] [(195,ywq),(231,yfs yxu),(232,yfs yxs),(233,yfs yxt),(234,yfs yEp),(235,yfs yEo),(236,yfs yEn),(238,yfs yEm),(239,yfs yEl),(240,yfs yEk)] [(197,ymf)]) yo8 (yVd all_nil (all_cons yJ1 (all_cons Ydd (all_cons Ydb (all_cons Ydc (all_cons Ylc (all_cons Ylb (all_cons Yla (all_cons Yk9 (all_cons Yk8 (all_cons Yk7 all_nil)))))))))) (all_cons Yao all_nil)) ?_
 intro ds st r hr
 obtain⟨key,v,b,s,x,hm,hop,hk,rfl,rfl⟩:=yb9 hr
 obtain⟨hv,hb0,hb1,hl,hp0,hp1,hf,hn⟩:=hm
 have hlt:=yed hk
 have hk':=hk
 unfold yd2 at hk'
 have hn2:ynt x.op=2:=by unfold ynt; rw[if_neg (by omega),if_pos hop]
 have ht0:yfr ymf [.ptr key 0,.int .i64 0] (st++[⟨false,1,insC x,false⟩])=some (.int .i64 (topS s 0)):=yya hv (yhz hk _) 0 (by omega) (by omega)
 have ht1:yfr ymf [.ptr key 0,.int .i64 1] (st++[⟨false,1,insC x,false⟩])=some (.int .i64 (topS s 1)):=yya hv (yhz hk _) 1 (by omega) (by omega)
 have hcp:=yqe hv hk x 2 2 rfl (some (binF x.op (topS s 1) (topS s 0)).1) (by omega) hl hp0 hp1
 simp only[yvy]at hcp
 have hfl:∀ f:Nat,yzj 0 1 false (.agg [.clo f []])=some (.clo f []):=fun f=>(rfl)
 have hno:outF v b s x=if(binF x.op (topS s 1) (topS s 0)).2=0 then .pop 2 (some (binF x.op (topS s 1) (topS s 0)).1) none else .err (binF x.op (topS s 1) (topS s 0)).2:=by
  unfold outF; rw[if_neg (by omega),if_neg (by omega),if_neg (by omega),if_neg (by omega),if_neg (by omega),if_neg (by omega),if_neg (by omega)]
 have hg:=yFi (st++[⟨false,1,insC x,false⟩]) x.op false (.agg [.nilf])
 have hops:x.op=3∨x.op=4∨x.op=5∨x.op=6∨x.op=7∨x.op=8∨x.op=9∨x.op=10∨x.op=11:=by omega
 unfold yix
 rcases hops with e | e | e | e | e | e | e | e | e
 ·have hb:=ygw (yUb (topS s 1) (topS s 0)) (st++[⟨false,1,insC x,false⟩])
  have hbe:binF x.op (topS s 1) (topS s 0)=addF (topS s 1) (topS s 0):=by unfold binF; rw[if_pos e]
  rw[show yel x.op binA=some 231 by rw[e]; rfl]at hg
  by_cases he:(binF x.op (topS s 1) (topS s 0)).2=0
  ·rw[hno,if_pos he]
   rw[hbe]at he hcp
   rw[hbe]
   simp (disch:=first|omega|decide) only[push_cast,↓reduceIte,Nat.reduceEqDiff,yav,yax,lit1,outR,Option.getD_none,ypb _ _ _ _ GG_b,ypu,ybe,hg,hfl,ht0,ht1,hb,he,hcp]
  ·rw[hno,if_neg he]
   rw[hbe]at he
   rw[hbe]
   simp (disch:=first|omega|decide) only[push_cast,↓reduceIte,Nat.reduceEqDiff,yav,yax,outR,ypb _ _ _ _ GG_b,ypu,ybe,hg,hfl,ht0,ht1,hb,he]
 ·have hb:=ygw (yT9 (topS s 1) (topS s 0)) (st++[⟨false,1,insC x,false⟩])
  have hbe:binF x.op (topS s 1) (topS s 0)=subF (topS s 1) (topS s 0):=by unfold binF; rw[if_neg (by omega),if_pos e]
  rw[show yel x.op binA=some 232 by rw[e]; rfl]at hg
  by_cases he:(binF x.op (topS s 1) (topS s 0)).2=0
  ·rw[hno,if_pos he]
   rw[hbe]at he hcp
   rw[hbe]
   simp (disch:=first|omega|decide) only[push_cast,↓reduceIte,Nat.reduceEqDiff,yav,yax,lit1,outR,Option.getD_none,ypb _ _ _ _ GG_b,ypu,ybe,hg,hfl,ht0,ht1,hb,he,hcp]
  ·rw[hno,if_neg he]
   rw[hbe]at he
   rw[hbe]
   simp (disch:=first|omega|decide) only[push_cast,↓reduceIte,Nat.reduceEqDiff,yav,yax,outR,ypb _ _ _ _ GG_b,ypu,ybe,hg,hfl,ht0,ht1,hb,he]
 ·have hb:=ygw (yUa (topS s 1) (topS s 0)) (st++[⟨false,1,insC x,false⟩])
  have hbe:binF x.op (topS s 1) (topS s 0)=mulF (topS s 1) (topS s 0):=by unfold binF; rw[if_neg (by omega),if_neg (by omega),if_pos e]
  rw[show yel x.op binA=some 233 by rw[e]; rfl]at hg
  by_cases he:(binF x.op (topS s 1) (topS s 0)).2=0
  ·rw[hno,if_pos he]
   rw[hbe]at he hcp
   rw[hbe]
   simp (disch:=first|omega|decide) only[push_cast,↓reduceIte,Nat.reduceEqDiff,yav,yax,lit1,outR,Option.getD_none,ypb _ _ _ _ GG_b,ypu,ybe,hg,hfl,ht0,ht1,hb,he,hcp]
  ·rw[hno,if_neg he]
   rw[hbe]at he
   rw[hbe]
   simp (disch:=first|omega|decide) only[push_cast,↓reduceIte,Nat.reduceEqDiff,yav,yax,outR,ypb _ _ _ _ GG_b,ypu,ybe,hg,hfl,ht0,ht1,hb,he]
 ·have hb:=ygw (Ybf (topS s 1) (topS s 0)) (st++[⟨false,1,insC x,false⟩])
  have hbe:binF x.op (topS s 1) (topS s 0)=(min (topS s 1) (topS s 0),0):=by unfold binF; rw[if_neg (by omega),if_neg (by omega),if_neg (by omega),if_pos e]
  rw[show yel x.op binA=some 234 by rw[e]; rfl]at hg
  by_cases he:(binF x.op (topS s 1) (topS s 0)).2=0
  ·rw[hno,if_pos he]
   rw[hbe]at he hcp
   rw[hbe]
   simp (disch:=first|omega|decide) only[push_cast,↓reduceIte,Nat.reduceEqDiff,yav,yax,lit1,outR,Option.getD_none,ypb _ _ _ _ GG_b,ypu,ybe,hg,hfl,ht0,ht1,hb,hcp]
  ·rw[hbe]at he
   exact absurd rfl he
 ·have hb:=ygw (Ybe (topS s 1) (topS s 0)) (st++[⟨false,1,insC x,false⟩])
  have hbe:binF x.op (topS s 1) (topS s 0)=(max (topS s 1) (topS s 0),0):=by unfold binF; rw[if_neg (by omega),if_neg (by omega),if_neg (by omega),if_neg (by omega),if_pos e]
  rw[show yel x.op binA=some 235 by rw[e]; rfl]at hg
  by_cases he:(binF x.op (topS s 1) (topS s 0)).2=0
  ·rw[hno,if_pos he]
   rw[hbe]at he hcp
   rw[hbe]
   simp (disch:=first|omega|decide) only[push_cast,↓reduceIte,Nat.reduceEqDiff,yav,yax,lit1,outR,Option.getD_none,ypb _ _ _ _ GG_b,ypu,ybe,hg,hfl,ht0,ht1,hb,hcp]
  ·rw[hbe]at he
   exact absurd rfl he
 ·have hb:=ygw (Ybd (topS s 1) (topS s 0)) (st++[⟨false,1,insC x,false⟩])
  have hbe:binF x.op (topS s 1) (topS s 0)=divF (topS s 1) (topS s 0) 8:=by unfold binF; rw[if_neg (by omega),if_neg (by omega),if_neg (by omega),if_neg (by omega),if_neg (by omega),if_pos e]
  rw[show yel x.op binA=some 236 by rw[e]; rfl]at hg
  by_cases he:(binF x.op (topS s 1) (topS s 0)).2=0
  ·rw[hno,if_pos he]
   rw[hbe]at he hcp
   rw[hbe]
   simp (disch:=first|omega|decide) only[push_cast,↓reduceIte,Nat.reduceEqDiff,yav,yax,lit1,outR,Option.getD_none,ypb _ _ _ _ GG_b,ypu,ybe,hg,hfl,ht0,ht1,hb,he,hcp]
  ·rw[hno,if_neg he]
   rw[hbe]at he
   rw[hbe]
   simp (disch:=first|omega|decide) only[push_cast,↓reduceIte,Nat.reduceEqDiff,yav,yax,outR,ypb _ _ _ _ GG_b,ypu,ybe,hg,hfl,ht0,ht1,hb,he]
 ·have hb:=ygw (Ybc (topS s 1) (topS s 0)) (st++[⟨false,1,insC x,false⟩])
  have hbe:binF x.op (topS s 1) (topS s 0)=divF (topS s 1) (topS s 0) 9:=by unfold binF; rw[if_neg (by omega),if_neg (by omega),if_neg (by omega),if_neg (by omega),if_neg (by omega),if_neg (by omega),if_pos e]
  rw[show yel x.op binA=some 238 by rw[e]; rfl]at hg
  by_cases he:(binF x.op (topS s 1) (topS s 0)).2=0
  ·rw[hno,if_pos he]
   rw[hbe]at he hcp
   rw[hbe]
   simp (disch:=first|omega|decide) only[push_cast,↓reduceIte,Nat.reduceEqDiff,yav,yax,lit1,outR,Option.getD_none,ypb _ _ _ _ GG_b,ypu,ybe,hg,hfl,ht0,ht1,hb,he,hcp]
  ·rw[hno,if_neg he]
   rw[hbe]at he
   rw[hbe]
   simp (disch:=first|omega|decide) only[push_cast,↓reduceIte,Nat.reduceEqDiff,yav,yax,outR,ypb _ _ _ _ GG_b,ypu,ybe,hg,hfl,ht0,ht1,hb,he]
 ·have hb:=ygw (Ybb (topS s 1) (topS s 0)) (st++[⟨false,1,insC x,false⟩])
  have hbe:binF x.op (topS s 1) (topS s 0)=divF (topS s 1) (topS s 0) 10:=by unfold binF; rw[if_neg (by omega),if_neg (by omega),if_neg (by omega),if_neg (by omega),if_neg (by omega),if_neg (by omega),if_neg (by omega),if_pos e]
  rw[show yel x.op binA=some 239 by rw[e]; rfl]at hg
  by_cases he:(binF x.op (topS s 1) (topS s 0)).2=0
  ·rw[hno,if_pos he]
   rw[hbe]at he hcp
   rw[hbe]
   simp (disch:=first|omega|decide) only[push_cast,↓reduceIte,Nat.reduceEqDiff,yav,yax,lit1,outR,Option.getD_none,ypb _ _ _ _ GG_b,ypu,ybe,hg,hfl,ht0,ht1,hb,he,hcp]
  ·rw[hno,if_neg he]
   rw[hbe]at he
   rw[hbe]
   simp (disch:=first|omega|decide) only[push_cast,↓reduceIte,Nat.reduceEqDiff,yav,yax,outR,ypb _ _ _ _ GG_b,ypu,ybe,hg,hfl,ht0,ht1,hb,he]
 ·have hb:=ygw (Yba (topS s 1) (topS s 0)) (st++[⟨false,1,insC x,false⟩])
  have hbe:binF x.op (topS s 1) (topS s 0)=(if topS s 1<topS s 0 then 1 else 0,0):=by unfold binF; rw[if_neg (by omega),if_neg (by omega),if_neg (by omega),if_neg (by omega),if_neg (by omega),if_neg (by omega),if_neg (by omega),if_neg (by omega),if_pos e]
  rw[show yel x.op binA=some 240 by rw[e]; rfl]at hg
  by_cases he:(binF x.op (topS s 1) (topS s 0)).2=0
  ·rw[hno,if_pos he]
   rw[hbe]at he hcp
   rw[hbe]
   simp (disch:=first|omega|decide) only[push_cast,↓reduceIte,Nat.reduceEqDiff,yav,yax,lit1,outR,Option.getD_none,ypb _ _ _ _ GG_b,ypu,ybe,hg,hfl,ht0,ht1,hb,hcp]
  ·rw[hbe]at he
   exact absurd rfl he
def mgO(o:Option PI.Obj)(sz:Nat)(ks:List Nat)(ok:Bool)(zero k:D):Option D:=match o with
 |some o=>if o.isMap && o.sz == sz && (yka sz ks k k).isSome then match yul sz ks k o.els 0 with
   |some (some i)=>match o.els[i]? with
    |some el=>some (if ok then .tup [entV sz el,.bool true]else entV sz el)
    |none=>none
   |some none=>some (if ok then .tup [zero,.bool false]else zero)
   |none=>none
  else none
 |none=>none
theorem ybz(st:St)(sz:Nat)(ks:List Nat)(ok:Bool)(zero k:D)(key:Nat):ydz st sz ks ok zero (.mapv key) k=mgO st[key]? sz ks ok zero k:=(rfl)
def muO(o:Option PI.Obj)(sz:Nat)(ks:List Nat)(k v:D):Option PI.Obj:=match o with
 |some o=>if o.isMap && o.sz == sz && !o.lent && v.isCell && k.cells.length+1 == sz && k.cells.all D.isCell && yka sz ks k k == some true then match yul sz ks k o.els 0 with
   |some (some i)=>some {o with els:=o.els.set i (.agg (k.cells++[v]))}
   |some none=>some {o with els:=o.els++[.agg (k.cells++[v])]}
   |none=>none
  else none
 |none=>none
theorem ycq(st:St)(sz:Nat)(ks:List Nat)(k v:D)(key:Nat):yCg st sz ks (.mapv key) k v=(muO st[key]? sz ks k v).map fun o=>st.set key o:=by
 simp only[yCg,muO]
 cases st[key]? with
 |none=>rfl
 |some o=>
  simp only
  split
  ·cases yul sz ks k o.els 0 with
   |none=>rfl
   |some r=>cases r <;> rfl
  ·rfl
def exA:List (Int×Nat):=[(1,5000177),(2,5000178),(12,5000179),(13,5000180),(14,5000181),(15,5000182),(16,5000183)]
def exEnt(k:Nat)(p:Int×Nat):D:=.agg [.int .i64 p.1,.clo p.2 [.ptr k 0]]
def exN(k i:Nat):List D:=(exA.take i).map (exEnt k)
theorem mu_0(k:Nat):muO (some ⟨false,2,[],false⟩) 2 [0] (.int .i64 1) (.clo 5000177 [.ptr k 0])=some ⟨false,2,exN k 1,false⟩:=(rfl)
theorem mu_1(k:Nat):muO (some ⟨false,2,exN k 1,false⟩) 2 [0] (.int .i64 2) (.clo 5000178 [.ptr k 0])=some ⟨false,2,exN k 2,false⟩:=(rfl)
theorem mu_2(k:Nat):muO (some ⟨false,2,exN k 2,false⟩) 2 [0] (.int .i64 12) (.clo 5000179 [.ptr k 0])=some ⟨false,2,exN k 3,false⟩:=(rfl)
theorem mu_3(k:Nat):muO (some ⟨false,2,exN k 3,false⟩) 2 [0] (.int .i64 13) (.clo 5000180 [.ptr k 0])=some ⟨false,2,exN k 4,false⟩:=(rfl)
theorem mu_4(k:Nat):muO (some ⟨false,2,exN k 4,false⟩) 2 [0] (.int .i64 14) (.clo 5000181 [.ptr k 0])=some ⟨false,2,exN k 5,false⟩:=(rfl)
theorem mu_5(k:Nat):muO (some ⟨false,2,exN k 5,false⟩) 2 [0] (.int .i64 15) (.clo 5000182 [.ptr k 0])=some ⟨false,2,exN k 6,false⟩:=(rfl)
theorem mu_6(k:Nat):muO (some ⟨false,2,exN k 6,false⟩) 2 [0] (.int .i64 16) (.clo 5000183 [.ptr k 0])=some ⟨false,2,exN k 7,false⟩:=(rfl)
theorem yzs(k:Nat)(op:Int)(f:Nat)(h:yel op exA=some f):mgO (some ⟨false,2,exN k 7,false⟩) 2 [0] true .nilf (.int .i64 op)=some (.tup [.clo f [.ptr k 0],.bool true]):=by
 simp only[exA,yel]at h
 split at h
 ·simp only[Ywh]at h; subst h; rename_i e; subst e; rfl
 split at h
 ·simp only[Ywh]at h; subst h; rename_i e; subst e; rfl
 split at h
 ·simp only[Ywh]at h; subst h; rename_i e; subst e; rfl
 split at h
 ·simp only[Ywh]at h; subst h; rename_i e; subst e; rfl
 split at h
 ·simp only[Ywh]at h; subst h; rename_i e; subst e; rfl
 split at h
 ·simp only[Ywh]at h; subst h; rename_i e; subst e; rfl
 split at h
 ·simp only[Ywh]at h; subst h; rename_i e; subst e; rfl
 cases h
theorem Yms(k:Nat)(op:Int)(h:3≤op∧op≤11):mgO (some ⟨false,2,exN k 7,false⟩) 2 [0] true .nilf (.int .i64 op)=some (.tup [.nilf,.bool false]):=by
 have:op=3∨op=4∨op=5∨op=6∨op=7∨op=8∨op=9∨op=10∨op=11:=by omega
 rcases this with rfl | rfl | rfl | rfl | rfl | rfl | rfl | rfl | rfl <;> rfl
theorem ywv(st:St)(a b:PI.Obj):(st++[a]++[b])[st.length+1]?=some b:=by
 have:=yax (st++[a]) b
 rwa [yi5]at this
theorem yww(st:St)(a b:PI.Obj):(st++[a]++[b])[st.length]?=some a:=by
 rw[yc7 (by rw[yi5]; omega),yax]
theorem ywr(st:St)(a b b':PI.Obj):(st++[a]++[b]).set (st.length+1) b'=st++[a]++[b']:=by
 have:=yV4 (st++[a]) b b'
 rwa [yi5]at this
structure eOK (v:Int×List Int) (b:Int) (s:Sta) (x:Ins):Prop where
 v:vOK v
 b0:0≤b
 b1:b≤64
 l:s.stack.length≤64
 p0:0≤s.pc
 p1:s.pc≤100000
 f:ybi x=true
def exO(v:Int×List Int)(b:Int)(s:Sta)(x:Ins):Out:=if(s.stack.length:Int)<ynt x.op then .err 200 else outF v b s x
def exSt(st:St)(key:Nat)(s:Sta)(x:Ins):St:=if(s.stack.length:Int)<ynt x.op then st else st++[⟨false,1,insC x,false⟩]++[⟨false,2,exN key 7,false⟩]
def exeR(ds:List D)(st:St)(r:D×St):Prop:=∃ (key:Nat) (v:Int×List Int) (b:Int) (s:Sta) (x:Ins),eOK v b s x∧yd2 st key v s.pc s.fuel s.status s.clause (ybq s.stack) b∧ds=[.ptr key 0,insD x]∧r=outR (exSt st key s x) key v b s x (exO v b s x)
noncomputable def yOb:List D→St→Option (D×St):=relI exeR
theorem Yoz:Fun1 exeR:=by
 rintro ds st r r' ⟨key,v,b,s,x,hm,hk,rfl,rfl⟩ ⟨key',v',b',s',x',hm',hk',h,rfl⟩
 simp only[List.cons.injEq,D.ptr.injEq,and_true,yq6]at h
 obtain⟨rfl,rfl⟩:=h
 obtain⟨rfl,h1,h2,h3,h4,h5,rfl⟩:=yv3 hm.v hm'.v hk hk'
 have h6:=ymu.1 h5
 obtain⟨a1,a2,a3,a4,a5⟩:=s
 obtain⟨b1,b2,b3,b4,b5⟩:=s'
 dsimp only at h1 h2 h3 h4 h6
 subst h1; subst h2; subst h3; subst h4; subst h6
 rfl
theorem Yhz{st:St}{key:Nat}{v:Int×List Int}{b:Int}{s:Sta}{x:Ins}(hm:eOK v b s x)(hk:yd2 st key v s.pc s.fuel s.status s.clause (ybq s.stack) b):yOb [.ptr key 0,insD x] st=some (outR (exSt st key s x) key v b s x (exO v b s x)):=
 yhw Yoz ⟨key,v,b,s,x,hm,hk,rfl,rfl⟩
theorem ygy:yX2 2=some ⟨false,2,[],false⟩:=(rfl)
set_option maxHeartbeats 8000000 in
set_option maxRecDepth 20000 in
theorem Yvb:IContract Tryz.prog GG 157 yOb:=by
 refine yak (T:=tb [(109,yxr)] [(177,yhk (·=1)),(178,yhk (·=2)),(179,yhk (·=12)),(180,yhk (·=13)),(181,yhk (·=14)),(182,yhk (·=15)),(183,yhk (·=16)),(184,yhk (fun o=>3≤o∧o≤11))])
  yo7 (yan (all_cons Ybm all_nil) (all_cons Ypf (all_cons Yph (all_cons yT1 (all_cons Ypc (all_cons Ypi (all_cons Yu9 (all_cons Ypg (all_cons yT2 all_nil))))))))) ?_
 intro ds st r hr
 obtain⟨key,v,b,s,x,⟨hv,hb0,hb1,hl,hp0,hp1,hf⟩,hk,rfl,rfl⟩:=yb9 hr
 have hlt:=yed hk
 have hk':=hk
 unfold yd2 at hk'
 have hnd:=yDf x.op
 have hop:=yZq hf
 unfold yiw
 by_cases h1:(s.stack.length:Int)<ynt x.op
 ·rw[show exO v b s x=.err 200 from if_pos h1,show exSt st key s x=st from if_pos h1]
  simp (disch:=first|omega|decide) only[push_cast,↓reduceIte,Nat.reduceEqDiff,Nat.reduceAdd,yav,yad,yc7 hlt,hk',yg0 hv,ybp,yax,ybe,hnd,h1,outR]
 ·rw[show exO v b s x=outF v b s x from if_neg h1,show exSt st key s x=_ from if_neg h1]
  have hm:mOK v b s x:=⟨hv,hb0,hb1,hl,hp0,hp1,hf,by omega⟩
  have hk2:yd2 (st++[⟨false,1,insC x,false⟩]++[⟨false,2,exN key 7,false⟩]) key v s.pc s.fuel s.status s.clause (ybq s.stack) b:=yhz (yhz hk _) _
  have fin:∀ (P:Int→Prop),P x.op→∃ d st',yhk P [.ptr key 0,insD x] (st++[⟨false,1,insC x,false⟩]++[⟨false,2,exN key 7,false⟩])=some (d,st')∧outR (st++[⟨false,1,insC x,false⟩]++[⟨false,2,exN key 7,false⟩]) key v b s x (outF v b s x)=(d,st'):=
   fun P hP=>⟨_,_,Yht hm hP hk2,rfl⟩
  have cases8:x.op=1∨x.op=2∨x.op=12∨x.op=13∨x.op=14∨x.op=15∨x.op=16∨(3≤x.op∧x.op≤11):=by omega
  rcases cases8 with e | e | e | e | e | e | e | e
  ·obtain⟨d,st',h2,h3⟩:=fin (·=1) e
   have hg:=yzs key x.op _ (show yel x.op exA=some 5000177 by rw[e]; rfl)
   rw[h3]
   simp (disch:=first|omega|decide) only[push_cast,↓reduceIte,Nat.reduceEqDiff,Nat.reduceAdd,yav,yad,yc7 hlt,hk',yg0 hv,ybp,yax,ybe,hnd,h1,yi5,ycq,ybz,ywv,ywr,yww,ygy,mu_0,mu_1,mu_2,mu_3,mu_4,mu_5,mu_6,hg,yuo,ygo _ 5000177 177 _ rfl (by decide),h2]
  ·obtain⟨d,st',h2,h3⟩:=fin (·=2) e
   have hg:=yzs key x.op _ (show yel x.op exA=some 5000178 by rw[e]; rfl)
   rw[h3]
   simp (disch:=first|omega|decide) only[push_cast,↓reduceIte,Nat.reduceEqDiff,Nat.reduceAdd,yav,yad,yc7 hlt,hk',yg0 hv,ybp,yax,ybe,hnd,h1,yi5,ycq,ybz,ywv,ywr,yww,ygy,mu_0,mu_1,mu_2,mu_3,mu_4,mu_5,mu_6,hg,yuo,ygo _ 5000178 178 _ rfl (by decide),h2]
  ·obtain⟨d,st',h2,h3⟩:=fin (·=12) e
   have hg:=yzs key x.op _ (show yel x.op exA=some 5000179 by rw[e]; rfl)
   rw[h3]
   simp (disch:=first|omega|decide) only[push_cast,↓reduceIte,Nat.reduceEqDiff,Nat.reduceAdd,yav,yad,yc7 hlt,hk',yg0 hv,ybp,yax,ybe,hnd,h1,yi5,ycq,ybz,ywv,ywr,yww,ygy,mu_0,mu_1,mu_2,mu_3,mu_4,mu_5,mu_6,hg,yuo,ygo _ 5000179 179 _ rfl (by decide),h2]
  ·obtain⟨d,st',h2,h3⟩:=fin (·=13) e
   have hg:=yzs key x.op _ (show yel x.op exA=some 5000180 by rw[e]; rfl)
   rw[h3]
   simp (disch:=first|omega|decide) only[push_cast,↓reduceIte,Nat.reduceEqDiff,Nat.reduceAdd,yav,yad,yc7 hlt,hk',yg0 hv,ybp,yax,ybe,hnd,h1,yi5,ycq,ybz,ywv,ywr,yww,ygy,mu_0,mu_1,mu_2,mu_3,mu_4,mu_5,mu_6,hg,yuo,ygo _ 5000180 180 _ rfl (by decide),h2]
  ·obtain⟨d,st',h2,h3⟩:=fin (·=14) e
   have hg:=yzs key x.op _ (show yel x.op exA=some 5000181 by rw[e]; rfl)
   rw[h3]
   simp (disch:=first|omega|decide) only[push_cast,↓reduceIte,Nat.reduceEqDiff,Nat.reduceAdd,yav,yad,yc7 hlt,hk',yg0 hv,ybp,yax,ybe,hnd,h1,yi5,ycq,ybz,ywv,ywr,yww,ygy,mu_0,mu_1,mu_2,mu_3,mu_4,mu_5,mu_6,hg,yuo,ygo _ 5000181 181 _ rfl (by decide),h2]
  ·obtain⟨d,st',h2,h3⟩:=fin (·=15) e
   have hg:=yzs key x.op _ (show yel x.op exA=some 5000182 by rw[e]; rfl)
   rw[h3]
   simp (disch:=first|omega|decide) only[push_cast,↓reduceIte,Nat.reduceEqDiff,Nat.reduceAdd,yav,yad,yc7 hlt,hk',yg0 hv,ybp,yax,ybe,hnd,h1,yi5,ycq,ybz,ywv,ywr,yww,ygy,mu_0,mu_1,mu_2,mu_3,mu_4,mu_5,mu_6,hg,yuo,ygo _ 5000182 182 _ rfl (by decide),h2]
  ·obtain⟨d,st',h2,h3⟩:=fin (·=16) e
   have hg:=yzs key x.op _ (show yel x.op exA=some 5000183 by rw[e]; rfl)
   rw[h3]
   simp (disch:=first|omega|decide) only[push_cast,↓reduceIte,Nat.reduceEqDiff,Nat.reduceAdd,yav,yad,yc7 hlt,hk',yg0 hv,ybp,yax,ybe,hnd,h1,yi5,ycq,ybz,ywv,ywr,yww,ygy,mu_0,mu_1,mu_2,mu_3,mu_4,mu_5,mu_6,hg,yuo,ygo _ 5000183 183 _ rfl (by decide),h2]
  ·obtain⟨d,st',h2,h3⟩:=fin (fun o=>3≤o∧o≤11) e
   have hg:=Yms key x.op e
   rw[h3]
   simp (disch:=first|omega|decide) only[push_cast,↓reduceIte,Nat.reduceEqDiff,Nat.reduceAdd,yav,yad,yc7 hlt,hk',yg0 hv,ybp,yax,ybe,hnd,h1,yi5,ycq,ybz,ywv,ywr,yww,ygy,mu_0,mu_1,mu_2,mu_3,mu_4,mu_5,mu_6,hg,yuo,h2]
def outS(s:Sta):Out→Sta
 |.err e=>{s with status:=10+e}
 |.pop k push pc=>{s with pc:=pc.getD (s.pc+1),stack:=s.stack.take (s.stack.length - k)++push.toList}
 |.set p t c=>{s with pc:=p,status:=t,clause:=c}
def decS(s:Sta):Sta:={s with fuel:=s.fuel - 1}
def advF(v:Int×List Int)(b:Int)(s:Sta)(x:Ins):Sta:=if s.fuel=0 then {s with status:=220} else outS (decS s) (exO v b (decS s) x)
structure aOK (c:List Ins) (v:Int×List Int) (s:Sta) (b:Int):Prop where
 v:vOK v
 b0:0≤b
 b1:b≤64
 l:s.stack.length≤64
 p0:0≤s.pc
 p1:s.pc<c.length
 cl:c.length≤4096
 f:c.all ybi=true
 u0:0≤s.fuel
 u1:s.fuel≤32768
theorem Yii(op a b:Int):0≤(binF op a b).2∧(binF op a b).2≤100:=by
 have hr:∀ c,0≤(rgF c).2∧(rgF c).2≤100:=fun c=>by unfold rgF; split <;> exact⟨by simp,by simp⟩
 have hd:∀ a b m,0≤(divF a b m).2∧(divF a b m).2≤100:=fun a b m=>by
  unfold divF
  split
  ·split <;> exact⟨by simp,by simp⟩
  ·exact⟨by simp,by simp⟩
 have ha:0≤(addF a b).2∧(addF a b).2≤100:=by unfold addF; split <;> first | exact hr _ | exact⟨by simp,by simp⟩
 have hs:0≤(subF a b).2∧(subF a b).2≤100:=by unfold subF; split <;> first | exact hr _ | exact⟨by simp,by simp⟩
 have hm:0≤(mulF a b).2∧(mulF a b).2≤100:=by unfold mulF; split <;> first | exact hr _ | exact⟨by simp,by simp⟩
 have hz:∀ n:Int,0≤((n,0):Int×Int).2∧((n,0):Int×Int).2≤100:=fun n=>⟨by simp,by simp⟩
 unfold binF
 split; · exact ha
 split; · exact hs
 split; · exact hm
 split; · exact hz _
 split; · exact hz _
 split; · exact hd _ _ _
 split; · exact hd _ _ _
 split; · exact hd _ _ _
 split; · exact hz _
 exact hz _
theorem Yaa{v:Int×List Int}{b:Int}{s:Sta}{x:Ins}{e:Int}(h:exO v b s x=.err e):1≤e∧e≤1000:=by
 have h2:=Yii x.op (topS s 1) (topS s 0)
 unfold exO outF at h
 repeat' split at h
 all_goals first | (cases h; done) | (simp only[Out.err.injEq]at h; omega)
theorem Yo1{v:Int×List Int}{b:Int}{s:Sta}{x:Ins}{k:Nat}{push pc:Option Int}(h:exO v b s x=.pop k push pc):¬ (s.stack.length:Int)<ynt x.op:=by
 intro h1
 unfold exO at h
 rw[if_pos h1]at h
 cases h
theorem Yo0{v:Int×List Int}{b:Int}{s:Sta}{x:Ins}{p t c:Int}(h:exO v b s x=.set p t c):¬ (s.stack.length:Int)<ynt x.op:=by
 intro h1
 unfold exO at h
 rw[if_pos h1]at h
 cases h
theorem yZ5(v:Int×List Int)(hv:vOK v)(s:Sta)(b:Int):yar [.int .i64 0,.int .i64 0,.int .i64 0,.int .i64 0,.int .i64 0,.int .i64 0,.int .i64 0,.int .i64 0,.int .i64 0,.int .i64 0,.int .i64 0,.int .i64 0,.int .i64 0,.int .i64 0,.int .i64 0,.int .i64 0,.int .i64 0,.int .i64 0,.int .i64 0,.int .i64 0,.int .i64 0,.slc 0 [] true,.int .i64 0]
  [(0,17,evD v),(17,5,staD s),(22,1,.int .i64 b)]=some (yb3 v s.pc s.fuel s.status s.clause (ybq s.stack) b):=by
 refine(ych (cs':=evC v++([.int .i64 0,.int .i64 0,.int .i64 0,.int .i64 0,.slc 0 [] true]++[.int .i64 0])) (A:=[]) (B:=List.replicate 17 (.int .i64 0)) (C:=[.int .i64 0,.int .i64 0,.int .i64 0,.int .i64 0,.slc 0 [] true,.int .i64 0]) (xs:=evC v) rfl rfl rfl rfl rfl (ybk hv) (yz5 (v.1::v.2))).trans ?_
 refine(ych (cs':=evC v++(staC s++[.int .i64 0])) (A:=evC v) (B:=[.int .i64 0,.int .i64 0,.int .i64 0,.int .i64 0,.slc 0 [] true]) (C:=[.int .i64 0]) (xs:=staC s) rfl rfl (ybk hv) rfl rfl rfl (Ydi s)).trans ?_
 refine(ych (cs':=yb3 v s.pc s.fuel s.status s.clause (ybq s.stack) b) (A:=evC v++staC s) (B:=[.int .i64 0]) (C:=[]) (xs:=[.int .i64 b]) (by simp) (by simp[yb3,staC]) (by simp[ybk hv,staC]) rfl rfl rfl rfl).trans ?_
 rfl
theorem Yib(v:Int×List Int)(p f t c:Int)(sz:Nat)(els:List D)(tt:Bool)(b:Int):boxD (.agg (yb3 v p f t c (.slc sz els tt) b))=some (yb3 v p f t c (.slc sz els tt) b):=by
 have h:(yb3 v p f t c (.slc sz els tt) b).all D.isCell=true:=by
  rw[yb3,List.all_append,yGc,yz5]
  rfl
 rw[show boxD (.agg (yb3 v p f t c (.slc sz els tt) b))=if(yb3 v p f t c (.slc sz els tt) b).all D.isCell then some (yb3 v p f t c (.slc sz els tt) b)else none from rfl,if_pos h]
theorem yu7(v:Int×List Int)(p f t c:Int)(l:List Int)(b:Int):boxD (.agg (yb3 v p f t c (ybq l) b))=some (yb3 v p f t c (ybq l) b):=Yib v p f t c _ _ _ b
theorem yMz(l:List Int):(ybq l).isCell=true:=(rfl)
theorem yZb(st:St)(l:List Int):imm1 st (ybq l)=some (ybq l):=by simp only[ybq,yF4,yuk]
theorem Yuc(o0 o1 o2 o3 o4 o5 o6:PI.Obj)(A:List Int)(m:Nat)(h:A.length=m):imm1 [o0,o1,o2,o3,o4,o5,o6,⟨true,1,A.map nI,false⟩] (.row 7 m 0 m)=some (ybq A):=by
 have h1:yec [o0,o1,o2,o3,o4,o5,o6,⟨true,1,A.map nI,false⟩] 7 m 0 m=some (1,A.map nI):=by
  simp only[yec,List.getElem?_cons_succ,List.getElem?_cons_zero]
  rw[if_pos (by simp[h]),List.drop_zero,List.take_of_length_le (by simp[h])]
 simp only[imm1,h1,Option.map_some]
 rfl
theorem Ydj(s:Sta)(n:Int):stO (some ⟨false,1,staC s,false⟩) 1 1 (.int .i64 n)=some ⟨false,1,staC {s with fuel:=n},false⟩:=(rfl)
theorem Yr4(s:Sta)(n:Int):stO (some ⟨false,1,staC s,false⟩) 1 2 (.int .i64 n)=some ⟨false,1,staC {s with status:=n},false⟩:=(rfl)
theorem st_5(a b c d S:D):stO (some ⟨false,1,[.int .i64 0,.int .i64 0,.int .i64 0,.int .i64 0,.slc 0 [] true],false⟩) 5 0 (.agg [a,b,c,d,S])=if [a,b,c,d,S].all D.isCell then some ⟨false,1,[a,b,c,d,S],false⟩else none:=by
 simp only[stO]; rfl
theorem ld_5(lent:Bool)(a b c d S:D):ldO (some ⟨false,1,[a,b,c,d,S],lent⟩) 5 true 0=some (.agg [a,b,c,d,S]):=(rfl)
noncomputable def yVs:List D→Option D:=spOf (α:=List Ins×(Int×List Int)×Sta×Int) (fun a=>[.slc (nz 3 (a.1.map insD)) (a.1.map insD) false,evD a.2.1,staD a.2.2.1,.int .i64 a.2.2.2]) (fun a=>aOK a.1 a.2.1 a.2.2.1 a.2.2.2) (fun a=>staD (advF a.2.1 a.2.2.2 a.2.2.1 (a.1.getD a.2.2.1.pc.toNat default)))
theorem Yh3(c:List Ins)(v:Int×List Int)(s:Sta)(b:Int)(h:aOK c v s b):yVs [.slc (nz 3 (c.map insD)) (c.map insD) false,evD v,staD s,.int .i64 b]=some (staD (advF v b s (c.getD s.pc.toNat default))):=
 yae (fun⟨a0,a1,a2,a3⟩ ⟨b0,b1,b2,b3⟩ h=>by simp only[List.cons.injEq,D.slc.injEq,D.int.injEq,true_and,and_true,yea,yxn,yh2]at h; simp[h]) (c,v,s,b) h
set_option maxHeartbeats 4000000 in
set_option maxRecDepth 20000 in
theorem w_adv(c:List Ins)(v:Int×List Int)(s:Sta)(b:Int)(h:aOK c v s b):@wW GG (tb [] [(157,yOb)]) yjr.code (argF [.slc (nz 3 (c.map insD)) (c.map insD) false,evD v,staD s,.int .i64 b]) [] ⟨retQ yjr.res (staD (advF v b s (c.getD s.pc.toNat default)))⟩:=by
 obtain⟨hv,hb0,hb1,hl,hp0,hp1,hc,hf,hu0,hu1⟩:=h
 have hpl:s.pc.toNat<c.length:=by omega
 unfold yjr
 by_cases h1:s.fuel=0
 ·rw[show advF v b s (c.getD s.pc.toNat default)={s with status:=220} from if_pos h1]
  simp (disch:=first|omega|decide) only[push_cast,↓reduceIte,Nat.reduceEqDiff,Nat.reduceAdd,ydo,yeo,yeu,yfx,h1,Yr4,yos,ypm,yn3]
 ·rw[show advF v b s (c.getD s.pc.toNat default)=outS (decS s) (exO v b (decS s) (c.getD s.pc.toNat default))from if_neg h1]
  have hx:=fun st=>yAb st c false s.pc.toNat hpl
  rw[show((s.pc.toNat:Nat):Int)=s.pc by omega]at hx
  have hxf:ybi (c.getD s.pc.toNat default)=true:=by
   rw[List.getD_eq_getElem?_getD,List.getElem?_eq_getElem hpl]
   exact List.all_eq_true.1 hf _ (List.getElem_mem hpl)
  obtain⟨x,hxe⟩:∃ x,c.getD s.pc.toNat default=x:=⟨_,rfl⟩
  rw[hxe]at hx hxf ⊢
  have hx:∀ st:St,yfw st 3 (.slc (nz 3 (c.map insD)) (c.map insD) false) (.int .i64 (decS s).pc)=some (.eptr (insD x) 0):=hx
  have he:eOK v b (decS s) x:=⟨hv,hb0,hb1,hl,hp0,by show s.pc≤100000; omega,hxf⟩
  have hcx:=Yhz (st:=[⟨false,1,evC v,false⟩,⟨false,1,staC (decS s),false⟩,⟨false,1,[.int .i64 0,.int .i64 0,.int .i64 0,.int .i64 0,.slc 0 [] true],false⟩,⟨false,1,yb3 v (decS s).pc (decS s).fuel (decS s).status (decS s).clause (ybq (decS s).stack) b,false⟩]) (key:=3) he rfl
  have hfm:=yZ5 v hv (decS s) b
  have hds:(⟨s.pc,s.fuel - 1,s.status,s.clause,s.stack⟩:Sta)=decS s:=rfl
  cases ho:exO v b (decS s) x with
  |err e=>
   have hee:=Yaa ho
   rw[ho]at hcx
   have hst:∃ l,exSt [⟨false,1,evC v,false⟩,⟨false,1,staC (decS s),false⟩,⟨false,1,[.int .i64 0,.int .i64 0,.int .i64 0,.int .i64 0,.slc 0 [] true],false⟩,⟨false,1,yb3 v (decS s).pc (decS s).fuel (decS s).status (decS s).clause (ybq (decS s).stack) b,false⟩] 3 (decS s) x=⟨false,1,evC v,false⟩::⟨false,1,staC (decS s),false⟩::⟨false,1,[.int .i64 0,.int .i64 0,.int .i64 0,.int .i64 0,.slc 0 [] true],false⟩::l:=by
    unfold exSt; split <;> exact⟨_,rfl⟩
   obtain⟨l,hst⟩:=hst
   rw[hst]at hcx
   simp only[outR,List.cons_append]at hcx
   have hne:¬ e=0:=by omega
   simp (disch:=first|omega|decide) only[push_cast,↓reduceIte,Nat.reduceEqDiff,Nat.reduceAdd,ydo,yeo,yeu,yfx,h1,ydy,Ydj,hds,ypf hv,yos,hfm,yu7,ye6,hx,yfv,hcx,hne,yaz,Yr4,ypm,yn3,outS]
  |pop k push pc=>
   rw[ho]at hcx
   have hst:=Yo1 ho
   rw[show exSt [⟨false,1,evC v,false⟩,⟨false,1,staC (decS s),false⟩,⟨false,1,[.int .i64 0,.int .i64 0,.int .i64 0,.int .i64 0,.slc 0 [] true],false⟩,⟨false,1,yb3 v (decS s).pc (decS s).fuel (decS s).status (decS s).clause (ybq (decS s).stack) b,false⟩] 3 (decS s) x=_ from if_neg hst]at hcx
   simp only[outR]at hcx
   cases push with
   |none=>
    simp only[stkD,stkO,mset,List.cons_append,List.nil_append,List.append_nil,List.set_cons_succ,List.set_cons_zero]at hcx
    simp (disch:=first|omega|decide) only[push_cast,↓reduceIte,Nat.reduceEqDiff,Nat.reduceAdd,ydo,yeo,yeu,yfx,h1,ydy,Ydj,hds,ypf hv,yos,hfm,yu7,ye6,hx,yfv,hcx,yad,Ym3 hv,st_5,ld_5,outS]
    simp only[Option.toList_none,List.append_nil]
    rfl
   |some a=>
    have hi:=fun o0 o1 o2 o3 o4 o5 o6=>Yuc o0 o1 o2 o3 o4 o5 o6 ((decS s).stack.take ((decS s).stack.length - k)++[a]) ((decS s).stack.length - k+1) (by rw[List.length_append,List.length_take]; simp)
    simp only[stkD,stkO,mset,List.cons_append,List.nil_append,List.set_cons_succ,List.set_cons_zero,List.length_cons,List.length_nil]at hcx
    simp (disch:=first|omega|decide) only[push_cast,↓reduceIte,Nat.reduceEqDiff,Nat.reduceAdd,ydo,yeo,yeu,yfx,h1,ydy,Ydj,hds,ypf hv,yos,hfm,yu7,ye6,hx,yfv,hcx,yad,Ym3 hv,st_5,ld_5,outS,hi]
    rfl
  |set p t cl=>
   rw[ho]at hcx
   have hst:=Yo0 ho
   rw[show exSt [⟨false,1,evC v,false⟩,⟨false,1,staC (decS s),false⟩,⟨false,1,[.int .i64 0,.int .i64 0,.int .i64 0,.int .i64 0,.slc 0 [] true],false⟩,⟨false,1,yb3 v (decS s).pc (decS s).fuel (decS s).status (decS s).clause (ybq (decS s).stack) b,false⟩] 3 (decS s) x=_ from if_neg hst]at hcx
   simp only[outR,mset,List.cons_append,List.nil_append,List.set_cons_succ,List.set_cons_zero]at hcx
   simp (disch:=first|omega|decide) only[push_cast,↓reduceIte,Nat.reduceEqDiff,Nat.reduceAdd,ydo,yeo,yeu,yfx,h1,ydy,Ydj,hds,ypf hv,yos,hfm,yu7,ye6,hx,yfv,hcx,yad,Ym3 hv,st_5,ld_5,yMz,yZb,outS]
   rfl
theorem c_adv:Contract Tryz.prog GG 110 yVs:=
 yac (T:=tb [] [(157,yOb)]) yBm (yan all_nil (all_cons Yvb all_nil)) (fun a h=>w_adv a.1 a.2.1 a.2.2.1 a.2.2.2 h)
def badS(c:List Ins)(s:Sta)(b:Int):Prop:=s.pc<0∨(c.length:Int)≤s.pc∨s.fuel<0∨32768<s.fuel∨s.clause≠0∨b<0∨64<b∨64 - b<(s.stack.length:Int)
instance (c:List Ins) (s:Sta) (b:Int):Decidable (badS c s b):=by unfold badS; infer_instance
def yi9(c:List Ins)(s:Sta)(b:Int):Int:=if s.status≠0 then 211 else if(ycb c).2≠0 then(ycb c).2 else if badS c s b then 1 else 0
noncomputable def yEe:List D→Option D:=spOf (α:=List Ins×Sta×Int) (fun a=>[.slc (nz 3 (a.1.map insD)) (a.1.map insD) false,staD a.2.1,.int .i64 a.2.2]) (fun a=>a.1.length≤4294967296) (fun a=>.int .i64 (yi9 a.1 a.2.1 a.2.2))
theorem yT8(c:List Ins)(s:Sta)(b:Int)(h:c.length≤4294967296):yEe [.slc (nz 3 (c.map insD)) (c.map insD) false,staD s,.int .i64 b]=some (.int .i64 (yi9 c s b)):=
 yae (fun⟨a0,a1,a2⟩ ⟨b0,b1,b2⟩ h=>by simp only[List.cons.injEq,D.slc.injEq,D.int.injEq,true_and,and_true,yea,yxn]at h; simp[h]) (c,s,b) h
theorem Ykc(c:List Ins)(s:Sta)(b:Int)(h:c.length≤4294967296):@wW GG (tb [(47,yEb)] []) yog.code (argF [.slc (nz 3 (c.map insD)) (c.map insD) false,staD s,.int .i64 b]) [] ⟨retQ yog.res (.int .i64 (yi9 c s b))⟩:=by
 have hv:=yJ6 c (by omega)
 unfold yog
 by_cases h1:s.status=0
 ·by_cases h2:(ycb c).2=0
  ·have e:yi9 c s b=if badS c s b then 1 else 0:=by unfold yi9; rw[if_neg (by simp[h1]),if_neg (by simp[h2])]
   rw[e]
   by_cases q1:s.pc<0
   ·rw[if_pos (.inl q1)]
    simp (disch:=first|omega|decide) only[push_cast,↓reduceIte,Nat.reduceEqDiff,yeo,ye6,ygi,h1,hv,h2,q1]
   by_cases q2:(c.length:Int)≤s.pc
   ·rw[if_pos (.inr (.inl q2))]
    simp (disch:=first|omega|decide) only[push_cast,↓reduceIte,Nat.reduceEqDiff,yeo,ye6,ygi,h1,hv,h2,q1,q2]
   by_cases q3:s.fuel<0
   ·rw[if_pos (.inr (.inr (.inl q3)))]
    simp (disch:=first|omega|decide) only[push_cast,↓reduceIte,Nat.reduceEqDiff,yeo,ye6,yfx,ygi,h1,hv,h2,q1,q2,q3]
   by_cases q4:32768<s.fuel
   ·rw[if_pos (.inr (.inr (.inr (.inl q4))))]
    simp (disch:=first|omega|decide) only[push_cast,↓reduceIte,Nat.reduceEqDiff,yeo,ye6,yfx,ygi,h1,hv,h2,q1,q2,q3,q4]
   by_cases q5:s.clause=0
   ·by_cases q6:b<0
    ·rw[if_pos (.inr (.inr (.inr (.inr (.inr (.inl q6))))))]
     simp (disch:=first|omega|decide) only[push_cast,↓reduceIte,Nat.reduceEqDiff,yeo,ye6,yfx,ygi,ynz,h1,hv,h2,q1,q2,q3,q4,q5,q6]
    by_cases q7:64<b
    ·rw[if_pos (.inr (.inr (.inr (.inr (.inr (.inr (.inl q7)))))))]
     simp (disch:=first|omega|decide) only[push_cast,↓reduceIte,Nat.reduceEqDiff,yeo,ye6,yfx,ygi,ynz,h1,hv,h2,q1,q2,q3,q4,q5,q6,q7]
    by_cases q8:64 - b<(s.stack.length:Int)
    ·rw[if_pos (.inr (.inr (.inr (.inr (.inr (.inr (.inr q8)))))))]
     simp (disch:=first|omega|decide) only[push_cast,↓reduceIte,Nat.reduceEqDiff,yeo,ye6,yfx,ygi,ynz,ysr,ybp,ydy,h1,hv,h2,q1,q2,q3,q4,q5,q6,q7,q8]
    ·rw[if_neg (by unfold badS; omega)]
     simp (disch:=first|omega|decide) only[push_cast,↓reduceIte,Nat.reduceEqDiff,yeo,ye6,yfx,ygi,ynz,ysr,ybp,ydy,h1,hv,h2,q1,q2,q3,q4,q5,q6,q7,q8]
   ·rw[if_pos (.inr (.inr (.inr (.inr (.inl q5)))))]
    simp (disch:=first|omega|decide) only[push_cast,↓reduceIte,Nat.reduceEqDiff,yeo,ye6,yfx,ygi,ynz,h1,hv,h2,q1,q2,q3,q4,q5]
  ·rw[show yi9 c s b=(ycb c).2 by unfold yi9; rw[if_neg (by simp[h1]),if_pos h2]]
   simp (disch:=first|omega|decide) only[push_cast,↓reduceIte,Nat.reduceEqDiff,yeo,ygi,h1,hv,h2]
 ·rw[show yi9 c s b=211 from if_pos h1]
  simp (disch:=first|omega|decide) only[push_cast,↓reduceIte,Nat.reduceEqDiff,yeo,ygi,h1]
theorem Ypn:Contract Tryz.prog GG 108 yEe:=
 yac yG8 (yan (all_cons Yjx all_nil) all_nil) (fun a h=>Ykc a.1 a.2.1 a.2.2 h)
theorem yG1{c:List Ins}(h:(ycb c).2=0):c.length≤4096∧0<c.length∧c.all ybi=true∧∃ s,verL c.length c 0 (dep0 c.length) 0=some s∧s≤64:=by
 unfold ycb at h
 split at h
 ·simp at h
 split at h
 ·simp at h
 rename_i h1 h2
 have h3:¬ c.length=0:=fun e=>h2 (.inl e)
 have h4:c.all ybi=true:=by
  cases hb:c.all ybi with
  |true=>rfl
  |false=>exact absurd (.inr hb) h2
 cases hv:verL c.length c 0 (dep0 c.length) 0 with
 |none=>rw[hv]at h; simp[ymc]at h
 |some s=>
  rw[hv]at h
  simp only[ymc]at h
  split at h
  ·simp at h
  ·exact⟨by omega,by omega,h4,s,rfl,by omega⟩
theorem Yem{c:List Ins}{v:Int×List Int}{s:Sta}{b:Int}(hv:vOK v)(h:yi9 c s b=0):aOK c v s b∧s.status=0∧s.clause=0∧(ycb c).2=0:=by
 unfold yi9 at h
 split at h
 ·simp at h
 split at h
 ·rename_i h2; exact absurd h h2
 split at h
 ·simp at h
 rename_i h1 h2 h3
 have h1':s.status=0:=by omega
 have h2':(ycb c).2=0:=by omega
 obtain⟨a1,a2,a3,_⟩:=yG1 h2'
 unfold badS at h3
 exact⟨⟨hv,by omega,by omega,by omega,by omega,by omega,by omega,a3,by omega,by omega⟩,h1',by omega,h2'⟩
def zSta:Sta:=⟨0,0,0,0,[]⟩
def yrp(f:Int):Sta:=if f<0∨32768<f then zSta else {zSta with fuel:=f}
def yy0(f:Int):Int:=if f<0∨32768<f then 1 else 0
theorem yZ4:yar [.int .i64 0,.int .i64 0,.int .i64 0,.int .i64 0,.slc 0 [] true] []=some [.int .i64 0,.int .i64 0,.int .i64 0,.int .i64 0,.slc 0 [] true]:=(rfl)
theorem Yop(f:Int):yar [.int .i64 0,.int .i64 0,.int .i64 0,.int .i64 0,.slc 0 [] true] [(1,1,.int .i64 f)]=some [.int .i64 0,.int .i64 f,.int .i64 0,.int .i64 0,.slc 0 [] true]:=(rfl)
noncomputable def yEd:List D→Option D:=spOf (α:=Int) (fun a=>[.int .i64 a]) (fun a=>True) (fun a=>.tup [staD (yrp a),.int .i64 (yy0 a)])
theorem yT6(f:Int):yEd [.int .i64 f]=some (.tup [staD (yrp f),.int .i64 (yy0 f)]):=
 yae (fun a b h=>by simp only[List.cons.injEq,D.int.injEq,true_and,and_true]at h; simp[h]) (f) trivial
theorem Ykb(f:Int):@wW GG (tb [] []) yoj.code (argF [.int .i64 f]) [] ⟨retQ yoj.res (.tup [staD (yrp f),.int .i64 (yy0 f)])⟩:=by
 unfold yoj
 by_cases h1:f<0
 ·rw[show yrp f=zSta from if_pos (.inl h1),show yy0 f=1 from if_pos (.inl h1)]
  simp (disch:=first|omega|decide) only[push_cast,↓reduceIte,Nat.reduceEqDiff,yeu,h1,yZ4,st_5,ld_5]
  rfl
 ·by_cases h2:32768<f
  ·rw[show yrp f=zSta from if_pos (.inr h2),show yy0 f=1 from if_pos (.inr h2)]
   simp (disch:=first|omega|decide) only[push_cast,↓reduceIte,Nat.reduceEqDiff,yeu,h1,h2,yZ4,st_5,ld_5]
   rfl
  ·rw[show yrp f={zSta with fuel:=f} from if_neg (by omega),show yy0 f=0 from if_neg (by omega)]
   simp (disch:=first|omega|decide) only[push_cast,↓reduceIte,Nat.reduceEqDiff,yeu,h1,h2,Yop,st_5,ld_5]
   rfl
theorem Ypm:Contract Tryz.prog GG 48 yEd:=
 yac yHb (yan all_nil all_nil) (fun a h=>Ykb a)
def yst(c:List Ins)(s:Sta):Ins:=c.getD s.pc.toNat default
def opS(o:Opn):Sta:=⟨o.pc,o.fuel,o.status,o.clause,o.top⟩
def zOpn:Opn:=⟨0,0,0,0,[],0,yab⟩
def Yf3(c:List Ins)(o:Opn):Prop:=0<o.fuel∧0<o.depth∧(o.top.length:Int)<ynt (yst c (opS o)).op
instance (c:List Ins) (o:Opn):Decidable (Yf3 c o):=by unfold Yf3; infer_instance
def sOpn(s:Sta)(o:Opn):Opn:=⟨s.pc,s.fuel,s.status,s.clause,s.stack,o.depth,o.rest⟩
def ypl(c:List Ins)(o:Opn):Int:=if yi9 c (opS o) o.depth=0 then(if Yf3 c o then 390 else 0)else yi9 c (opS o) o.depth
def ypk(c:List Ins)(v:Int×List Int)(o:Opn):Opn:=if ypl c o=0 then sOpn (advF v o.depth (opS o) (yst c (opS o))) o else zOpn
theorem yAo(cs:List D):yar cs []=some cs:=(rfl)
theorem yAn(o:Opn):yar [.int .i64 0,.int .i64 0,.int .i64 0,.int .i64 0,.slc 0 [] true] [(0,1,.int .i64 o.pc),(1,1,.int .i64 o.fuel),(2,1,.int .i64 o.status),(3,1,.int .i64 o.clause),(4,1,ybq o.top)]=some (staC (opS o)):=(rfl)
theorem yBi(s:Sta):D.agg (staC s)=staD s:=(rfl)
theorem yZz(x:Ins)(st:St):pfld st 0 (.eptr (insD x) 0)=some (.eptr (insD x) 0):=(rfl)
theorem yOt(st:St)(x:Ins):ydd st 1 false (.eptr (insD x) 0)=some (.int .i64 x.op):=(rfl)
theorem yF9(s:Sta)(o:Opn):yar (opC 0 0 0 0 (.slc 0 [] true) 0 yab) [(0,1,.int .i64 s.pc),(1,1,.int .i64 s.fuel),(2,1,.int .i64 s.status),(3,1,.int .i64 s.clause),(4,1,ybq s.stack),(5,1,.int .i64 o.depth),(6,32,digD o.rest)]=some (opnC (sOpn s o)):=yP3 ..
theorem yVn(a b c d:Int)(t:D)(k:Int)(r:Dig)(o:Opn):stO (some ⟨false,1,opC a b c d t k r,false⟩) 38 0 (.agg (opnC o))=some ⟨false,1,opnC o,false⟩:=yHp ..
theorem yYj(lent:Bool)(o:Opn):ldO (some ⟨false,1,opnC o,lent⟩) 38 true 0=some (opnD o):=yS1 ..
noncomputable def yEc:List D→Option D:=spOf (α:=List Ins×(Int×List Int)×Opn) (fun a=>[.slc (nz 3 (a.1.map insD)) (a.1.map insD) false,evD a.2.1,opnD a.2.2]) (fun a=>a.1.length≤4294967296∧vOK a.2.1) (fun a=>.tup [opnD (ypk a.1 a.2.1 a.2.2),.int .i64 (ypl a.1 a.2.2)])
theorem yT5(c:List Ins)(v:Int×List Int)(o:Opn)(h:c.length≤4294967296∧vOK v):yEc [.slc (nz 3 (c.map insD)) (c.map insD) false,evD v,opnD o]=some (.tup [opnD (ypk c v o),.int .i64 (ypl c o)]):=
 yae (fun⟨a0,a1,a2⟩ ⟨b0,b1,b2⟩ h=>by simp only[List.cons.injEq,D.slc.injEq,and_true,yea,yq0,yh2]at h; simp[h]) (c,v,o) h
theorem Yka(c:List Ins)(v:Int×List Int)(o:Opn)(h:c.length≤4294967296∧vOK v):@wW GG (tb [(108,yEe),(109,yxr),(110,yVs)] []) yid.code (argF [.slc (nz 3 (c.map insD)) (c.map insD) false,evD v,opnD o]) [] ⟨retQ yid.res (.tup [opnD (ypk c v o),.int .i64 (ypl c o)])⟩:=by
 obtain⟨hc,hv⟩:=h
 have hr:=yT8 c (opS o) o.depth hc
 unfold yid
 have l0:=Yjm false o.pc o.fuel o.status o.clause (ybq o.top) o.depth o.rest
 have l1:=Yjl false o.pc o.fuel o.status o.clause (ybq o.top) o.depth o.rest
 have l2:=yYl false o.pc o.fuel o.status o.clause (ybq o.top) o.depth o.rest
 have l3:=Yjk false o.pc o.fuel o.status o.clause (ybq o.top) o.depth o.rest
 have l4:=yYk false o.pc o.fuel o.status o.clause (ybq o.top) o.depth o.rest
 have l5:=yI2 false o.pc o.fuel o.status o.clause (ybq o.top) o.depth o.rest
 have l6:=Yjj false o.pc o.fuel o.status o.clause (ybq o.top) o.depth o.rest
 rw[← yj5]at l0 l1 l2 l3 l4 l5 l6
 by_cases h1:yi9 c (opS o) o.depth=0
 ·obtain⟨ha,hs,hcl,hvf⟩:=Yem hv h1
  have hpl:o.pc.toNat<c.length:=by have:=ha.p0; have:=ha.p1; simp only[opS]at *; omega
  have hx:=fun st=>yAb st c false o.pc.toNat hpl
  rw[show((o.pc.toNat:Nat):Int)=o.pc by have:=ha.p0; simp only[opS]at *; omega]at hx
  have hx:∀ st:St,yfw st 3 (.slc (nz 3 (c.map insD)) (c.map insD) false) (.int .i64 o.pc)=some (.eptr (insD (yst c (opS o))) 0):=hx
  have hn:=yDf (yst c (opS o)).op
  rw[h1]at hr
  by_cases h2:Yf3 c o
  ·have e:ypl c o=390:=by unfold ypl; rw[if_pos h1,if_pos h2]
   rw[show ypk c v o=zOpn from if_neg (by rw[e]; decide),e]
   obtain⟨q1,q2,q3⟩:=h2
   simp (disch:=first|omega|decide) only[push_cast,↓reduceIte,Nat.reduceEqDiff,Nat.reduceAdd,ydo,yma,ysl,yba,yeu,l0,l1,l2,l3,l4,l5,yAn,yBi,ypm,yos,yn3,hr,q1,q2,ybp,hx,yZz,yOt,hn,q3,yAo,yHp,yS1,yPo]
   rfl
  ·have e:ypl c o=0:=by unfold ypl; rw[if_pos h1,if_neg h2]
   rw[show ypk c v o=sOpn (advF v o.depth (opS o) (yst c (opS o))) o from if_pos e,e]
   have hadv:=Yh3 c v (opS o) o.depth ha
   rw[show c.getD (opS o).pc.toNat default=yst c (opS o)from rfl]at hadv
   generalize advF v o.depth (opS o) (yst c (opS o))=s at*
   by_cases q1:0<o.fuel
   ·by_cases q2:0<o.depth
    ·have q3:¬ (o.top.length:Int)<ynt (yst c (opS o)).op:=fun q=>h2 ⟨q1,q2,q⟩
     simp (disch:=first|omega|decide) only[push_cast,↓reduceIte,Nat.reduceEqDiff,Nat.reduceAdd,ydo,yma,ysl,yba,yeu,l0,l1,l2,l3,l4,l5,l6,yAn,yBi,ypm,yos,yn3,yx2,hr,q1,q2,ybp,hx,yZz,yOt,hn,q3,ypf hv,ybg,ycn,hadv,yVm,ye6,yfx,ygi,ynz,ysr,yF9,yVn,yYj,ya7]
    ·simp (disch:=first|omega|decide) only[push_cast,↓reduceIte,Nat.reduceEqDiff,Nat.reduceAdd,ydo,yma,ysl,yba,yeu,l0,l1,l2,l3,l4,l5,l6,yAn,yBi,ypm,yos,yn3,yx2,hr,q1,q2,ypf hv,ybg,ycn,hadv,yVm,ye6,yfx,ygi,ynz,ysr,yF9,yVn,yYj,ya7]
   ·simp (disch:=first|omega|decide) only[push_cast,↓reduceIte,Nat.reduceEqDiff,Nat.reduceAdd,ydo,yma,ysl,yba,yeu,l0,l1,l2,l3,l4,l5,l6,yAn,yBi,ypm,yos,yn3,yx2,hr,q1,ypf hv,ybg,ycn,hadv,yVm,ye6,yfx,ygi,ynz,ysr,yF9,yVn,yYj,ya7]
 ·have e:ypl c o=yi9 c (opS o) o.depth:=if_neg h1
  rw[show ypk c v o=zOpn from if_neg (by rw[e]; exact h1),e]
  simp (disch:=first|omega|decide) only[push_cast,↓reduceIte,Nat.reduceEqDiff,Nat.reduceAdd,ydo,yma,ysl,yba,yeu,l0,l1,l2,l3,l4,l5,yAn,yBi,ypm,yos,yn3,hr,h1,yAo,yHp,yS1,yPo]
  rfl
theorem Ypl:Contract Tryz.prog GG 55 yEc:=
 yac yyi (yan (all_cons Ypn (all_cons Ybm (all_cons c_adv all_nil))) all_nil) (fun a h=>Yka a.1 a.2.1 a.2.2 h)
def cdD(c:List Ins):D:=.slc (nz 3 (c.map insD)) (c.map insD) false
theorem Yax{a b:List Ins}:cdD a=cdD b↔a=b:=by
 refine⟨fun h=>?_,fun h=>by rw[h]⟩
 simp only[cdD,D.slc.injEq,and_true]at h
 exact(List.map_inj_right (fun x y h=>yq6.1 h)).1 h.2
def stB(s:Sta):PI.Obj:=⟨false,1,staC s,false⟩
inductive RunY (y:List D→St→Option (D×St)) (k kc kv:Nat):List Sta→Nat→St→St→Prop
 |stop {s:Sta} {l:List Sta} {i:Nat} {st st1:St} (h:y [.int .i64 (i:Int),staD s] st=some (.bool false,st1)):RunY y k kc kv (s::l) i st st1
 |last {s:Sta} {i:Nat} {st st1:St} (h:y [.int .i64 (i:Int),staD s] st=some (.bool true,st1)) (hk:st1[k]?=some (stB s)):RunY y k kc kv [s] i st st1
 |next {s s':Sta} {l:List Sta} {i:Nat} {st st1 st2:St} (h:y [.int .i64 (i:Int),staD s] st=some (.bool true,st1)) (hk:st1[k]?=some (stB s)) (hc:st1[kc]?=st[kc]?) (hv:st1[kv]?=st[kv]?)
   (hl:RunY y k kc kv (s'::l) (i+1) (st1.set k (stB s')) st2):RunY y k kc kv (s::s'::l) i st st2
def Yqs(c:List Ins)(out:Int)(i:Nat)(D:Nat→Int):Prop:=
 ∀ j,i≤j→j<c.length→0≤D j→¬ yi8 (c.getD j default) (D j)∧D j≤out∧ycd (c.getD j default) (D j)≤out∧
  ∀ n∈ysm (c.getD j default) j,(j:Int)<n∧n<c.length∧D n.toNat=ycd (c.getD j default) (D j)
structure Good (c:List Ins) (D:Nat→Int) (s:Sta):Prop where
 st:s.status=0
 cl:s.clause=0
 p0:0≤s.pc
 p1:s.pc<c.length
 d:D s.pc.toNat=s.stack.length
 u0:0≤s.fuel
 u1:s.fuel≤32768
structure Last (s:Sta):Prop where
 st:s.status≠0
 s0:0≤s.status
 s1:s.status≤100000
 l:s.stack.length≤64
theorem Good.len{c:List Ins}{D:Nat→Int}{s:Sta}(hD:Yqs c 64 0 D)(h:Good c D s):s.stack.length≤64:=by
 have h1:=h.d
 have h2:=h.p0
 have h3:=h.p1
 have:=(hD s.pc.toNat (by omega) (by omega) (by omega)).2.1
 omega
theorem Good.ready{c:List Ins}{D:Nat→Int}{s:Sta}(hv:(ycb c).2=0)(hD:Yqs c 64 0 D)(h:Good c D s):yi9 c s 0=0:=by
 unfold yi9
 have hl:=h.len hD
 have h1:=h.st
 have h2:=h.p0
 have h3:=h.p1
 have h4:=h.u0
 have h5:=h.u1
 have h6:=h.cl
 rw[if_neg (by omega),if_neg (by omega),if_neg (by unfold badS; omega)]
theorem Ycf{c:List Ins}(h:c.all ybi=true){j:Nat}(hj:j<c.length):ybi (c.getD j default)=true:=by
 rw[List.getD_eq_getElem?_getD,List.getElem?_eq_getElem hj]
 exact List.all_eq_true.1 h _ (List.getElem_mem hj)
theorem yTk{x:Ins}(h:ybi x=true):1≤x.op∧x.op≤16:=⟨(of_decide_eq_true h).1,(of_decide_eq_true h).2.1⟩
theorem Yfh{op:Int}(h:1≤op∧op≤16):ynt op=(effF op).1:=by
 have:op=1∨op=2∨op=3∨op=4∨op=5∨op=6∨op=7∨op=8∨op=9∨op=10∨op=11∨op=12∨op=13∨op=14∨op=15∨op=16:=by omega
 rcases this with rfl | rfl | rfl | rfl | rfl | rfl | rfl | rfl | rfl | rfl | rfl | rfl | rfl | rfl | rfl | rfl <;> rfl
theorem Good.step{c:List Ins}{D:Nat→Int}{v:Int×List Int}{s:Sta}(hf:c.all ybi=true)(hD:Yqs c 64 0 D)(h:Good c D s) :
  Last (advF v 0 s (yst c s))∨(Good c D (advF v 0 s (yst c s))∧s.pc<(advF v 0 s (yst c s)).pc∧(advF v 0 s (yst c s)).fuel=s.fuel - 1):=by
 have hl:=h.len hD
 obtain⟨h1,h2,h3,h4,h5,h6,h7⟩:=h
 have hj:s.pc.toNat<c.length:=by omega
 have hfx:ybi (yst c s)=true:=Ycf hf hj
 have hop:=yTk hfx
 obtain⟨q1,q2,q3,q4⟩:=hD s.pc.toNat (by omega) hj (by omega)
 rw[show c.getD s.pc.toNat default=yst c s from rfl]at q1 q3 q4
 generalize yst c s=x at*
 rw[h5]at q1 q3 q4
 have hneed:=Yfh hop
 unfold advF
 by_cases hu:s.fuel=0
 ·rw[if_pos hu]
  exact .inl ⟨by simp,by simp,by simp,hl⟩
 rw[if_neg hu]
 have hns:¬ ((decS s).stack.length:Int)<ynt x.op:=by
  unfold yi8 at q1
  show ¬ ((s.stack.length:Int)<ynt x.op)
  omega
 have hex:exO v 0 (decS s) x=outF v 0 (decS s) x:=if_neg hns
 have nx:∀ (n:Int),n∈ysm x s.pc.toNat→s.pc<n∧n<c.length∧D n.toNat=ycd x s.stack.length:=fun n hn=>by
  have:=q4 n hn
  exact⟨by omega,this.2⟩
 have nx1:x.op≠14→x.op≠15→x.op≠16→s.pc<s.pc+1∧s.pc+1<c.length∧D (s.pc+1).toNat=ycd x s.stack.length:=fun a b d=>by
  refine nx (s.pc+1) ?_
  unfold ysm
  rw[if_pos (show x.op≠14∧x.op≠15∧x.op≠16 from⟨a,b,d⟩)]
  simp; omega
 have nx2:x.op=13∨x.op=14→s.pc<x.n∧x.n<c.length∧D x.n.toNat=ycd x s.stack.length:=fun a=>by
  refine nx x.n ?_
  unfold ysm
  rw[if_pos a]
  simp
 -- what each outcome comes to
 have herr:∀ e,exO v 0 (decS s) x=.err e→Last (outS (decS s) (exO v 0 (decS s) x)):=fun e he=>by
  have:=Yaa he
  rw[he]
  exact⟨by simp only[outS]; omega,by simp only[outS]; omega,by simp only[outS]; omega,hl⟩
 have hpop:∀ k push pc,exO v 0 (decS s) x=.pop k push pc→k≤s.stack.length→((s.stack.length - k+push.toList.length:Nat):Int)=ycd x s.stack.length→(s.pc<pc.getD (s.pc+1)∧pc.getD (s.pc+1)<c.length∧D (pc.getD (s.pc+1)).toNat=ycd x s.stack.length)→
   Good c D (outS (decS s) (exO v 0 (decS s) x))∧s.pc<(outS (decS s) (exO v 0 (decS s) x)).pc∧(outS (decS s) (exO v 0 (decS s) x)).fuel=s.fuel - 1:=fun k push pc he hk hln hpc=>by
  rw[he]
  refine⟨⟨h1,h2,?_,hpc.2.1,?_,?_,?_⟩,hpc.1,rfl⟩
  ·show 0≤pc.getD (s.pc+1); omega
  ·show D (pc.getD (s.pc+1)).toNat=((s.stack.take (s.stack.length - k)++push.toList).length:Int)
   rw[hpc.2.2,← hln]
   simp
  ·show 0≤s.fuel - 1; omega
  ·show s.fuel - 1≤32768; omega
 have hd:(effF x.op).1≤s.stack.length:=by unfold yi8 at q1; omega
 by_cases o1:x.op=1
 ·have he:exO v 0 (decS s) x=.pop 0 (some x.n) none:=by
   rw[hex]; unfold outF
   rw[if_pos o1,if_neg]
   have:ycd x s.stack.length=s.stack.length+1:=by unfold ycd; rw[o1]; simp[effF]
   show ¬ (64:Int)≤0+s.stack.length
   omega
  refine .inr (hpop _ _ _ he (by omega) ?_ (nx1 (by omega) (by omega) (by omega)))
  unfold ycd; rw[o1]; simp[effF]
 by_cases o2:x.op=2
 ·have hl64:¬ (64:Int)≤0+(decS s).stack.length:=by
   have:ycd x s.stack.length=s.stack.length+1:=by unfold ycd; rw[o2]; simp[effF]
   show ¬ (64:Int)≤0+s.stack.length
   omega
  by_cases b1:andI v.1 (bitI x.n)=0
  ·have he:exO v 0 (decS s) x=.err 181:=by
    rw[hex]; unfold outF
    rw[if_neg o1,if_pos o2,if_neg hl64,if_pos b1]
   exact .inl (herr _ he)
  by_cases b2:at' v.2 x.n.toNat < -9007199254740992∨9007199254740992<at' v.2 x.n.toNat
  ·have he:exO v 0 (decS s) x=.err 3:=by
    rw[hex]; unfold outF
    rw[if_neg o1,if_pos o2,if_neg hl64,if_neg b1,if_pos b2]
   exact .inl (herr _ he)
  have he:exO v 0 (decS s) x=.pop 0 (some (at' v.2 x.n.toNat)) none:=by
   rw[hex]; unfold outF
   rw[if_neg o1,if_pos o2,if_neg hl64,if_neg b1,if_neg b2]
  refine .inr (hpop _ _ _ he (by omega) ?_ (nx1 (by omega) (by omega) (by omega)))
  unfold ycd; rw[o2]; simp[effF]
 by_cases o12:x.op=12
 ·have he:exO v 0 (decS s) x=.pop 1 (some (if x.n≤topS (decS s) 0∧topS (decS s) 0≤x.m then 1 else 0)) none:=by
   rw[hex]; unfold outF
   rw[if_neg o1,if_neg o2,if_pos o12]
  have:(effF x.op).1=1:=by rw[o12]; rfl
  refine .inr (hpop _ _ _ he (by omega) ?_ (nx1 (by omega) (by omega) (by omega)))
  unfold ycd; rw[o12]; simp[effF]; omega
 by_cases o13:x.op=13
 ·have he:exO v 0 (decS s) x=.pop 1 none (if topS (decS s) 0=0 then some x.n else none):=by
   rw[hex]; unfold outF
   rw[if_neg o1,if_neg o2,if_neg o12,if_pos o13]
  have:(effF x.op).1=1:=by rw[o13]; rfl
  refine .inr (hpop _ _ _ he (by omega) ?_ ?_)
  ·unfold ycd; rw[o13]; simp[effF]; omega
  ·split
   ·exact nx2 (.inl o13)
   ·exact nx1 (by omega) (by omega) (by omega)
 by_cases o14:x.op=14
 ·have he:exO v 0 (decS s) x=.set x.n s.status s.clause:=by
   rw[hex]; unfold outF
   rw[if_neg o1,if_neg o2,if_neg o12,if_neg o13,if_pos o14]; rfl
  obtain⟨m1,m2,m3⟩:=nx2 (.inr o14)
  right
  rw[he]
  refine⟨⟨h1,h2,?_,m2,?_,?_,?_⟩,m1,rfl⟩
  ·show 0≤x.n; omega
  ·show D x.n.toNat=(s.stack.length:Int)
   rw[m3]; unfold ycd; rw[o14]; simp[effF]
  ·show 0≤s.fuel - 1; omega
  ·show s.fuel - 1≤32768; omega
 by_cases o15:x.op=15
 ·have he:exO v 0 (decS s) x=.set s.pc 1 x.n:=by
   rw[hex]; unfold outF
   rw[if_neg o1,if_neg o2,if_neg o12,if_neg o13,if_neg o14,if_pos o15]; rfl
  left
  rw[he]
  exact⟨by simp[outS],by simp[outS],by simp[outS],hl⟩
 by_cases o16:x.op=16
 ·have he:exO v 0 (decS s) x=.err 180:=by
   rw[hex]; unfold outF
   rw[if_neg o1,if_neg o2,if_neg o12,if_neg o13,if_neg o14,if_neg o15,if_pos o16]
  exact .inl (herr _ he)
 by_cases b1:(binF x.op (topS (decS s) 1) (topS (decS s) 0)).2=0
 ·have he:exO v 0 (decS s) x=.pop 2 (some (binF x.op (topS (decS s) 1) (topS (decS s) 0)).1) none:=by
   rw[hex]; unfold outF
   rw[if_neg o1,if_neg o2,if_neg o12,if_neg o13,if_neg o14,if_neg o15,if_neg o16,if_pos b1]
  have e2:effF x.op=(2,1):=by
   unfold effF
   rw[if_neg (by omega),if_neg (by omega),if_neg (by omega),if_neg (by omega)]
  rw[e2]at hd
  refine .inr (hpop _ _ _ he (by omega) ?_ (nx1 (by omega) (by omega) (by omega)))
  unfold ycd; rw[e2]; simp; omega
 ·have he:exO v 0 (decS s) x=.err (binF x.op (topS (decS s) 1) (topS (decS s) 0)).2:=by
   rw[hex]; unfold outF
   rw[if_neg o1,if_neg o2,if_neg o12,if_neg o13,if_neg o14,if_neg o15,if_neg o16,if_neg b1]
  exact .inl (herr _ he)
end Go.Proofs.YtijnglngaogdjaaGreatDoor.PI
