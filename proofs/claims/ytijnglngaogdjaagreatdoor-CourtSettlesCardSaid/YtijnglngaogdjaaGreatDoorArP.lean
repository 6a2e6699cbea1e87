/-
  The plain law of runs: a valid program's states.
  Conditions: none; these are lemmas.
-/
import Derived.Test.YtijnglngaogdjaaGreatDoorArD
import Derived.Test.YtijnglngaogdjaaGreatDoorEngHe
set_option linter.unusedVariables false
set_option linter.unusedSimpArgs false
namespace Go.Proofs.YtijnglngaogdjaaGreatDoor.PI
open Go
set_option linter.unusedSimpArgs false
set_option maxHeartbeats 8000000
set_option maxRecDepth 20000
set_option linter.unusedVariables false
theorem sl_lo(st:St){sz:Nat}(h0:sz≠0)(els:List D)(t:Bool){k:Nat}(h:k≤els.length):yc6 st sz (.slc (nz sz els) els t) (some (.int .i64 (k:Int))) none none=some (.slc (nz sz els) (els.drop k) t):=by
 have h1:((nz sz els == sz || els.isEmpty) && sz != 0)=true:=by
  cases els <;> simp[nz,h0]
 have h2:yd6 (.int .i64 (k:Int))=some k:=by simp[yd6]
 simp only[yc6,h1,if_true,bnd,h2]
 rw[if_pos ⟨h,Nat.le_refl _⟩,List.take_length,beq_self_eq_true,Bool.and_true]
theorem sl_hi(st:St){sz:Nat}(h0:sz≠0)(els:List D)(t:Bool){k:Nat}(h:k≤els.length):yc6 st sz (.slc (nz sz els) els t) none (some (.int .i64 (k:Int))) none=some (.slc (nz sz els) (els.take k) (t && k == els.length)):=by
 have h1:((nz sz els == sz || els.isEmpty) && sz != 0)=true:=by
  cases els <;> simp[nz,h0]
 have h2:bnd (some (.int .i64 (k:Int))) els.length=some k:=by simp[bnd,yd6]
 simp only[yc6,h1,if_true,h2]
 simp only[bnd]
 rw[if_pos ⟨Nat.zero_le _,h⟩,List.drop_zero]
theorem sl_hh(st:St){sz:Nat}(h0:sz≠0)(els:List D)(t:Bool){k:Nat}(h:k≤els.length):yc6 st sz (.slc (nz sz els) els t) none (some (.int .i64 (k:Int))) (some (.int .i64 (k:Int)))=some (.slc (nz sz els) (els.take k) true):=by
 have h1:((nz sz els == sz || els.isEmpty) && sz != 0)=true:=by
  cases els <;> simp[nz,h0]
 have h2:bnd (some (.int .i64 (k:Int))) els.length=some k:=by simp[bnd,yd6]
 have h3:yd6 (.int .i64 (k:Int))=some k:=by simp[yd6]
 simp only[yc6,h1,if_true,h2,h3]
 simp only[bnd]
 rw[if_pos (by simp[h]),List.drop_zero]
theorem Ydh(s:Sta):(staC s).all D.isCell=true:=(rfl)
theorem yep(s:Sta):boxD (staD s)=some (staC s):=(rfl)
theorem yev:boxD (.agg [.int .i64 0,.int .i64 0,.int .i64 0,.int .i64 0,.slc 0 [] true])=some [.int .i64 0,.int .i64 0,.int .i64 0,.int .i64 0,.slc 0 [] true]:=(rfl)
theorem ynx(st:St)(s:Sta):imm st (staD s)=some (staD s):=by
 simp only[staD,staC,ybq,imm,immL,imm1,yuc]
 rfl
theorem yxy(s:Sta):keys (staD s)=[]:=(rfl)
theorem ye5(lent:Bool)(s:Sta):ldO (some ⟨false,1,staC s,lent⟩) 1 false 0=some (.int .i64 s.pc):=(rfl)
theorem yfy(lent:Bool)(s:Sta):ldO (some ⟨false,1,staC s,lent⟩) 1 false 1=some (.int .i64 s.fuel):=(rfl)
theorem ygj(lent:Bool)(s:Sta):ldO (some ⟨false,1,staC s,lent⟩) 1 false 2=some (.int .i64 s.status):=(rfl)
theorem ynv(lent:Bool)(s:Sta):ldO (some ⟨false,1,staC s,lent⟩) 1 false 3=some (.int .i64 s.clause):=(rfl)
theorem ysi(lent:Bool)(s:Sta):ldO (some ⟨false,1,staC s,lent⟩) 1 false 4=some (ybq s.stack):=(rfl)
theorem yop(lent:Bool)(s:Sta):ldO (some ⟨false,1,staC s,lent⟩) 5 true 0=some (staD s):=(rfl)
theorem yph(s:Sta):stO (some ⟨false,1,[.int .i64 0,.int .i64 0,.int .i64 0,.int .i64 0,.slc 0 [] true],false⟩) 5 0 (staD s)=some ⟨false,1,staC s,false⟩:=(rfl)
theorem yVj(s s':Sta):stO (some ⟨false,1,staC s,false⟩) 5 0 (staD s')=some ⟨false,1,staC s',false⟩:=(rfl)
theorem yF0(l:List Int):ybq l=.slc (nz 1 (l.map nI)) (l.map nI) false:=(rfl)
def opC(a b c d:Int)(t:D)(k:Int)(r:Dig):List D:=.int .i64 a::.int .i64 b::.int .i64 c::.int .i64 d::t::.int .i64 k::digC r
theorem yj3(o:Opn):opnC o=opC o.pc o.fuel o.status o.clause (ybq o.top) o.depth o.rest:=(rfl)
theorem yqu(a b c d:Int)(t:D)(k:Int)(r:Dig):(opC a b c d t k r).length=38:=by simp[opC,yaa]
theorem yOy(a b c d:Int){t:D}(ht:t.isCell=true)(k:Int)(r:Dig):(opC a b c d t k r).all D.isCell=true:=by
 simp only[opC,List.all_cons,ht,yCs,Bool.true_and]
 exact yeu (fun _=>rfl) r
theorem ysc:(D.int .i64 0::.int .i64 0::.int .i64 0::.int .i64 0::.slc 0 [] true::.int .i64 0::digC yab)=opC 0 0 0 0 (.slc 0 [] true) 0 yab:=(rfl)
theorem Yj2(a b c d:Int){t:D}(ht:t.isCell=true)(k:Int)(r:Dig):boxD (.agg (opC a b c d t k r))=some (opC a b c d t k r):=by
 rw[show boxD (.agg (opC a b c d t k r))=if(opC a b c d t k r).all D.isCell then some (opC a b c d t k r)else none from rfl,if_pos (yOy a b c d ht k r)]
theorem yl6(o:Opn):boxD (opnD o)=some (opnC o):=by
 rw[opnD,yj3,Yj2 _ _ _ _ rfl]
theorem st_op(a b c d a' b' c' d':Int)(t:D){t':D}(ht:t'.isCell=true)(k k':Int)(r r':Dig):stO (some ⟨false,1,opC a b c d t k r,false⟩) 38 0 (.agg (opC a' b' c' d' t' k' r'))=some ⟨false,1,opC a' b' c' d' t' k' r',false⟩:=
 yi1 1 _ _ 38 (yqu ..) (yqu ..) (yOy _ _ _ _ ht _ _)
theorem ySw(lent:Bool)(a b c d:Int)(t:D)(k:Int)(r:Dig):ldO (some ⟨false,1,opC a b c d t k r,lent⟩) 38 true 0=some (.agg (opC a b c d t k r)):=yh0 1 lent _ 38 (yqu ..)
theorem Yjn(lent:Bool)(a b c d:Int)(t:D)(k:Int)(r:Dig):ldO (some ⟨false,1,opC a b c d t k r,lent⟩) 1 false 0=some (.int .i64 a):=ycs (A:=[]) rfl rfl
theorem Yjm(lent:Bool)(a b c d:Int)(t:D)(k:Int)(r:Dig):ldO (some ⟨false,1,opC a b c d t k r,lent⟩) 1 false 1=some (.int .i64 b):=ycs (A:=[.int .i64 a]) rfl rfl
theorem yYj(lent:Bool)(a b c d:Int)(t:D)(k:Int)(r:Dig):ldO (some ⟨false,1,opC a b c d t k r,lent⟩) 1 false 2=some (.int .i64 c):=ycs (A:=[.int .i64 a,.int .i64 b]) rfl rfl
theorem Yjl(lent:Bool)(a b c d:Int)(t:D)(k:Int)(r:Dig):ldO (some ⟨false,1,opC a b c d t k r,lent⟩) 1 false 3=some (.int .i64 d):=ycs (A:=[.int .i64 a,.int .i64 b,.int .i64 c]) rfl rfl
theorem yYi(lent:Bool)(a b c d:Int)(t:D)(k:Int)(r:Dig):ldO (some ⟨false,1,opC a b c d t k r,lent⟩) 1 false 4=some t:=ycs (A:=[.int .i64 a,.int .i64 b,.int .i64 c,.int .i64 d]) rfl rfl
theorem yI1(lent:Bool)(a b c d:Int)(t:D)(k:Int)(r:Dig):ldO (some ⟨false,1,opC a b c d t k r,lent⟩) 1 false 5=some (.int .i64 k):=ycs (A:=[.int .i64 a,.int .i64 b,.int .i64 c,.int .i64 d,t]) rfl rfl
theorem Yjk(lent:Bool)(a b c d:Int)(t:D)(k:Int)(r:Dig):ldO (some ⟨false,1,opC a b c d t k r,lent⟩) 32 true 6=some (digD r):=yj7 (A:=[.int .i64 a,.int .i64 b,.int .i64 c,.int .i64 d,t,.int .i64 k]) (B:=digC r) (C:=[]) (by simp[opC]) rfl (yaa r)
theorem Yor(a b c d:Int){t:D}(ht:t.cells=[t])(hc:t.isCell=true)(k:Int)(r:Dig):yam (opC 0 0 0 0 (.slc 0 [] true) 0 yab) [(0,1,.int .i64 a),(1,1,.int .i64 b),(2,1,.int .i64 c),(3,1,.int .i64 d),(4,1,t),(5,1,.int .i64 k),(6,32,digD r)]=some (opC a b c d t k r):=by
 refine(yci (cs:=opC 0 0 0 0 (.slc 0 [] true) 0 yab) (cs':=opC a 0 0 0 (.slc 0 [] true) 0 yab) (A:=[]) (B:=[.int .i64 0]) (xs:=[.int .i64 a]) rfl rfl rfl rfl rfl rfl rfl).trans ?_
 refine(yci (cs:=opC a 0 0 0 (.slc 0 [] true) 0 yab) (cs':=opC a b 0 0 (.slc 0 [] true) 0 yab) (A:=[.int .i64 a]) (B:=[.int .i64 0]) (xs:=[.int .i64 b]) rfl rfl rfl rfl rfl rfl rfl).trans ?_
 refine(yci (cs:=opC a b 0 0 (.slc 0 [] true) 0 yab) (cs':=opC a b c 0 (.slc 0 [] true) 0 yab) (A:=[.int .i64 a,.int .i64 b]) (B:=[.int .i64 0]) (xs:=[.int .i64 c]) rfl rfl rfl rfl rfl rfl rfl).trans ?_
 refine(yci (cs:=opC a b c 0 (.slc 0 [] true) 0 yab) (cs':=opC a b c d (.slc 0 [] true) 0 yab) (A:=[.int .i64 a,.int .i64 b,.int .i64 c]) (B:=[.int .i64 0]) (xs:=[.int .i64 d]) rfl rfl rfl rfl rfl rfl rfl).trans ?_
 refine(yci (cs:=opC a b c d (.slc 0 [] true) 0 yab) (cs':=opC a b c d t 0 yab) (A:=[.int .i64 a,.int .i64 b,.int .i64 c,.int .i64 d]) (B:=[.slc 0 [] true]) (xs:=[t]) rfl rfl rfl rfl ht rfl (by simp[hc])).trans ?_
 refine(yci (cs:=opC a b c d t 0 yab) (cs':=opC a b c d t k yab) (A:=[.int .i64 a,.int .i64 b,.int .i64 c,.int .i64 d,t]) (B:=[.int .i64 0]) (xs:=[.int .i64 k]) rfl rfl rfl rfl rfl rfl rfl).trans ?_
 refine(yci (cs:=opC a b c d t k yab) (cs':=opC a b c d t k r) (A:=[.int .i64 a,.int .i64 b,.int .i64 c,.int .i64 d,t,.int .i64 k]) (B:=digC yab) (C:=[]) (xs:=digC r) (by simp[opC]) (by simp[opC]) rfl (yaa _) rfl (yaa _) (yeu (fun _=>rfl) r)).trans ?_
 rfl
theorem yPy(a b c d:Int)(sz:Nat)(els:List D)(tt:Bool)(k:Int)(r:Dig):yam (opC 0 0 0 0 (.slc 0 [] true) 0 yab) [(0,1,.int .i64 a),(1,1,.int .i64 b),(2,1,.int .i64 c),(3,1,.int .i64 d),(4,1,.slc sz els tt),(5,1,.int .i64 k),(6,32,digD r)]=some (opC a b c d (.slc sz els tt) k r):=Yor a b c d rfl rfl k r
theorem ya8(a b c d:Int)(sz:Nat)(els:List D)(tt:Bool)(k:Int)(r:Dig):boxD (.agg (opC a b c d (.slc sz els tt) k r))=some (opC a b c d (.slc sz els tt) k r):=Yj2 a b c d rfl k r
theorem yHn(a b c d a' b' c' d':Int)(t:D)(sz:Nat)(els:List D)(tt:Bool)(k k':Int)(r r':Dig):stO (some ⟨false,1,opC a b c d t k r,false⟩) 38 0 (.agg (opC a' b' c' d' (.slc sz els tt) k' r'))=some ⟨false,1,opC a' b' c' d' (.slc sz els tt) k' r',false⟩:=st_op a b c d a' b' c' d' t rfl k k' r r'
theorem yPk(st:St)(a b c d:Int)(sz:Nat)(els:List D)(tt:Bool)(k:Int)(r:Dig):imm st (.agg (opC a b c d (.slc sz els tt) k r))=some (.agg (opC a b c d (.slc (nz sz els) els false) k r)):=by
 simp only[opC,imm,yJe,yPo,yF3,yPm,Option.bind_some,Option.map_some]
theorem ya5(st:St)(o:Opn):imm st (opnD o)=some (opnD o):=by
 rw[opnD,yj3,yF0,yPk,yuc]
theorem ydb(o:Opn):keys (opnD o)=[]:=by
 simp only[opnD,opnC,keys,List.flatMap_cons]
 show []++([]++([]++([]++([]++([]++_)))))=[]
 have:(digC o.rest).flatMap key1=[]:=yPg o.rest
 rw[this]
 rfl
theorem yUs(c:List Ins)(v:Int×List Int)(o:Opn):tSta.length≤1000∧depV (.list [.bytes (yvt c).bs,.bytes (inpF v).bs,.int o.pc,.int o.fuel,.int o.status,.int o.clause,.int (o.depth+o.top.length),.bytes (yo9 o.rest o.top).bs])≤16∧
  (encV (.list [.bytes (yvt c).bs,.bytes (inpF v).bs,.int o.pc,.int o.fuel,.int o.status,.int o.clause,.int (o.depth+o.top.length),.bytes (yo9 o.rest o.top).bs])).length≤4294967000:=by
 have h1:=yur (yvt c)
 have h2:=yur (inpF v)
 have h3:=yur (yo9 o.rest o.top)
 have h4:=yg8 o.pc
 have h5:=yg8 o.fuel
 have h6:=yg8 o.status
 have h7:=yg8 o.clause
 have h8:=yg8 (o.depth+o.top.length)
 refine⟨by decide,by simp[depV,yjl],?_⟩
 rw[yg7]
 simp only[List.length_cons,List.length_append,List.length_nil,List.flatMap_cons,List.flatMap_nil]
 omega
noncomputable def yEb:List D→Option D:=spOf (α:=List Ins×(Int×List Int)×Opn) (fun a=>[.slc (nz 3 (a.1.map insD)) (a.1.map insD) false,evD a.2.1,opnD a.2.2]) (fun a=>a.1.length≤4294967296∧a.2.1.2.length=16∧a.2.2.top.length≤4294967296∧0≤a.2.2.depth∧a.2.2.depth≤4294967296) (fun a=>digD (yBv a.1 a.2.1 a.2.2))
theorem yJ4(c:List Ins)(v:Int×List Int)(o:Opn)(h:c.length≤4294967296∧v.2.length=16∧o.top.length≤4294967296∧0≤o.depth∧o.depth≤4294967296):yEb [.slc (nz 3 (c.map insD)) (c.map insD) false,evD v,opnD o]=some (digD (yBv c v o)):=
 yae (fun⟨a0,a1,a2⟩ ⟨b0,b1,b2⟩ h=>by simp only[List.cons.injEq,D.slc.injEq,and_true,yea,yqt,yh2]at h; simp[h]) (c,v,o) h
theorem Yqv(c:List Ins)(v:Int×List Int)(o:Opn)(h:c.length≤4294967296∧v.2.length=16∧o.top.length≤4294967296∧0≤o.depth∧o.depth≤4294967296):@wW GG (tb [(143,yLb),(144,yLc),(146,yxj),(145,yvl),(142,yyy),(141,yng),(140,yvm)] []) yob.code (argF [.slc (nz 3 (c.map insD)) (c.map insD) false,evD v,opnD o]) [] ⟨retQ yob.res (digD (yBv c v o))⟩:=by
 obtain⟨hc,hv,ht,hd0,hd1⟩:=h
 unfold yob
 have hh:=yuz tSta _ (yUs c v o)
 simp only[tSta]at hh
 have h1:=Ya0 c hc
 have h2:=Ya1 v hv
 have h3:=yDa o.rest o.top ht
 simp (disch:=first|omega|decide) only[push_cast,↓reduceIte,Nat.reduceEqDiff,Nat.reduceAdd,ydp,yl6,yj3,yF0,ypa hv,yba,Yjn,Yjm,yYj,Yjl,yYi,yI1,Yjk,h1,h2,h3,yp8,yA3,yz6,yui,yax,lit_8,lst_8,hh]
 rfl
theorem Yjx:Contract Tryz.prog GG 94 yEb:=
 yac yG4 (yao (all_cons Yvd (all_cons Yve (all_cons Ybg (all_cons yQf (all_cons Ybh (all_cons yQg (all_cons yQh all_nil))))))) all_nil) (fun a h=>Yqv a.1 a.2.1 a.2.2 h)
theorem Yr9(st:St)(l:List Int)(t:Bool){k:Nat}(h:k≤l.length):yc6 st 1 (.slc (nz 1 (l.map nI)) (l.map nI) t) (some (.int .i64 (k:Int))) none none=some (.slc (nz 1 (l.map nI)) ((l.drop k).map nI) t):=by
 rw[sl_lo st (by decide) (l.map nI) t (by simpa using h),List.map_drop]
theorem Ysa(st:St)(l:List Int){k:Nat}(h:k≤l.length):yc6 st 1 (.slc (nz 1 (l.map nI)) (l.map nI) false) none (some (.int .i64 (k:Int))) none=some (.slc (nz 1 (l.map nI)) ((l.take k).map nI) false):=by
 rw[sl_hi st (by decide) (l.map nI) false (by simpa using h),List.map_take]; rfl
theorem Ysb(st:St)(l:List Int)(t:Bool){k:Nat}(h:k≤l.length):yc6 st 1 (.slc (nz 1 (l.map nI)) (l.map nI) t) none (some (.int .i64 (k:Int))) (some (.int .i64 (k:Int)))=some (.slc (nz 1 (l.map nI)) ((l.take k).map nI) true):=by
 rw[sl_hh st (by decide) (l.map nI) t (by simpa using h),List.map_take]
theorem Yfa(s:Sta)(n:Int):yFh s n≤s.stack.length:=Nat.sub_le _ _
theorem Yfb(s:Sta)(n:Int):(s.stack.length:Int) - min (max n 0) (s.stack.length:Int)=(yFh s n:Int):=by unfold yFh; omega
noncomputable def yEc:List D→Option D:=spOf (α:=Sta×Int) (fun a=>[staD a.1,.int .i64 a.2]) (fun a=>a.1.stack.length≤4294967296) (fun a=>opnD (yIj a.1 a.2))
theorem yT1(s:Sta)(n:Int)(h:s.stack.length≤4294967296):yEc [staD s,.int .i64 n]=some (opnD (yIj s n)):=
 yae (fun⟨a0,a1⟩ ⟨b0,b1⟩ h=>by simp only[List.cons.injEq,D.int.injEq,true_and,and_true,yxi]at h; simp[h]) (s,n) h
theorem Yj9(s:Sta)(n:Int)(h:s.stack.length≤4294967296):@wW GG (tb [(96,yLa)] []) yra.code (argF [staD s,.int .i64 n]) [] ⟨retQ yra.res (opnD (yIj s n))⟩:=by
 unfold yra
 have hk:=Yfa s n
 have hs:=Yaz (s.stack.take (yFh s n)) (by rw[List.length_take]; omega)
 have hm1:min (max n 0) (s.stack.length:Int)≤s.stack.length:=Int.min_le_right _ _
 have hm2:0≤min (max n 0) (s.stack.length:Int):=by omega
 simp (disch:=first|omega|decide) only[push_cast,↓reduceIte,Nat.reduceEqDiff,yep,ysc,ya8,ye5,yfy,ygj,ynv,ysi,yF0,ydz,Yfb,Yr9,Ysa,hs,yPy,yHn,ySw,yPk,yXp,yXo]
 rfl
theorem Yph:Contract Tryz.prog GG 42 yEc:=
 yac yK3 (yao (all_cons Yvc all_nil) all_nil) (fun a h=>Yj9 a.1 a.2 h)
noncomputable def yLd:List D→Option D:=spOf (α:=List Ins×(Int×List Int)×Sta) (fun a=>[.slc (nz 3 (a.1.map insD)) (a.1.map insD) false,evD a.2.1,staD a.2.2]) (fun a=>a.1.length≤4294967296∧a.2.1.2.length=16∧a.2.2.stack.length≤4294967296) (fun a=>digD (digF a.1 a.2.1 a.2.2))
theorem Ya2(c:List Ins)(v:Int×List Int)(s:Sta)(h:c.length≤4294967296∧v.2.length=16∧s.stack.length≤4294967296):yLd [.slc (nz 3 (c.map insD)) (c.map insD) false,evD v,staD s]=some (digD (digF c v s)):=
 yae (fun⟨a0,a1,a2⟩ ⟨b0,b1,b2⟩ h=>by simp only[List.cons.injEq,D.slc.injEq,and_true,yea,yxi,yh2]at h; simp[h]) (c,v,s) h
theorem Yq2(c:List Ins)(v:Int×List Int)(s:Sta)(h:c.length≤4294967296∧v.2.length=16∧s.stack.length≤4294967296):@wW GG (tb [(42,yEc),(94,yEb)] []) ylm.code (argF [.slc (nz 3 (c.map insD)) (c.map insD) false,evD v,staD s]) [] ⟨retQ ylm.res (digD (digF c v s))⟩:=by
 obtain⟨hc,hv,hs⟩:=h
 unfold ylm
 have ho:=yT1 s s.stack.length hs
 have hk:yFh s s.stack.length=0:=by unfold yFh; omega
 have hw:=yJ4 c v (yIj s s.stack.length) ⟨hc,hv,by simp only[yIj,List.length_drop]; omega,by simp only[yIj,hk]; omega,by simp only[yIj,hk]; omega⟩
 simp (disch:=first|omega|decide) only[push_cast,↓reduceIte,Nat.reduceEqDiff,Nat.reduceAdd,ydp,ypa hv,yba,yep,yop,ysi,yF0,ynx,yxy,ho,ya5,hw]
 rfl
theorem Yvf:Contract Tryz.prog GG 49 yLd:=
 yac yDx (yao (all_cons Yph (all_cons Yjx all_nil)) all_nil) (fun a h=>Yq2 a.1 a.2.1 a.2.2 h)
theorem Yai{c:List Ins}{v:Int×List Int}{o:Opn}(h0:0≤o.depth)(h1:o.depth≤64):ycx c v o=yBv c v o:=if_neg (by omega)
theorem Yah{c:List Ins}{v:Int×List Int}{o:Opn}(h0:o.depth<0):ycx c v o=yab:=if_pos (.inl h0)
theorem Yaj{c:List Ins}{v:Int×List Int}{o:Opn}(h0:64<o.depth):ycx c v o=yab:=if_pos (.inr h0)
noncomputable def yyx:List D→Option D:=spOf (α:=List Ins×(Int×List Int)×Opn) (fun a=>[.slc (nz 3 (a.1.map insD)) (a.1.map insD) false,evD a.2.1,opnD a.2.2]) (fun a=>a.1.length≤4294967296∧a.2.1.2.length=16∧a.2.2.top.length≤4294967296) (fun a=>digD (ycx a.1 a.2.1 a.2.2))
theorem yA2(c:List Ins)(v:Int×List Int)(o:Opn)(h:c.length≤4294967296∧v.2.length=16∧o.top.length≤4294967296):yyx [.slc (nz 3 (c.map insD)) (c.map insD) false,evD v,opnD o]=some (digD (ycx c v o)):=
 yae (fun⟨a0,a1,a2⟩ ⟨b0,b1,b2⟩ h=>by simp only[List.cons.injEq,D.slc.injEq,and_true,yea,yqt,yh2]at h; simp[h]) (c,v,o) h
theorem Yq3(c:List Ins)(v:Int×List Int)(o:Opn)(h:c.length≤4294967296∧v.2.length=16∧o.top.length≤4294967296):@wW GG (tb [(94,yEb)] []) yoi.code (argF [.slc (nz 3 (c.map insD)) (c.map insD) false,evD v,opnD o]) [] ⟨retQ yoi.res (digD (ycx c v o))⟩:=by
 obtain⟨hc,hv,ht⟩:=h
 unfold yoi
 by_cases h0:o.depth<0
 ·rw[Yah h0]
  simp (disch:=first|omega|decide) only[push_cast,↓reduceIte,Nat.reduceEqDiff,Nat.reduceAdd,ydp,yl6,yj3,yI1,h0]
 ·by_cases h1:64<o.depth
  ·rw[Yaj h1]
   simp (disch:=first|omega|decide) only[push_cast,↓reduceIte,Nat.reduceEqDiff,Nat.reduceAdd,ydp,yl6,yj3,yI1,h0,h1]
  ·rw[Yai (by omega) (by omega)]
   have hw:=yJ4 c v o ⟨hc,hv,ht,by omega,by omega⟩
   have hi:=fun st=>ya5 st o
   have hk:=ydb o
   rw[opnD,yj3]at hw hi hk
   simp (disch:=first|omega|decide) only[push_cast,↓reduceIte,Nat.reduceEqDiff,Nat.reduceAdd,ydp,yl6,yj3,yI1,h0,h1,ypa hv,yba,ySw,hi,hw]
theorem Yjy:Contract Tryz.prog GG 40 yyx:=
 yac yHb (yao (all_cons Yjx all_nil) all_nil) (fun a h=>Yq3 a.1 a.2.1 a.2.2 h)
def ypc(op:Int):Int×Int:=if op=1∨op=13∨op=14∨op=15 then(1,9007199254740992)else if op=2 then(1,15)else if op=12 then(2,9007199254740992)else(0,0)
def effF(op:Int):Int×Int:=if op=1∨op=2 then(0,1)else if op=12 then(1,1)else if op=13∨op=15 then(1,0)else if op=14∨op=16 then(0,0)else(2,1)
def ybg(x:Ins):Bool:=decide (1≤x.op∧x.op≤16∧((ypc x.op).1≤0→x.n=0)∧((ypc x.op).1≤1→x.m=0)∧0≤min x.n x.m∧max x.n x.m≤(ypc x.op).2)
theorem yBd(op:Int):ypc op=(1,9007199254740992)∨ypc op=(1,15)∨ypc op=(2,9007199254740992)∨ypc op=(0,0):=by
 unfold ypc
 split
 ·exact .inl rfl
 ·split
  ·exact .inr (.inl rfl)
  ·split
   ·exact .inr (.inr (.inl rfl))
   ·exact .inr (.inr (.inr rfl))
theorem yTr(op:Int):0≤(effF op).1∧(effF op).1≤2∧0≤(effF op).2∧(effF op).2≤1:=by
 unfold effF
 split
 ·decide
 ·split
  ·decide
  ·split
   ·decide
   ·split <;> decide
noncomputable def yLf:List D→Option D:=spOf (α:=Int) (fun a=>[.int .i64 a]) (fun a=>True) (fun a=>.tup [.int .i64 (ypc a).1,.int .i64 (ypc a).2])
theorem Ya5(op:Int):yLf [.int .i64 op]=some (.tup [.int .i64 (ypc op).1,.int .i64 (ypc op).2]):=
 yae (fun a b h=>by simp only[List.cons.injEq,D.int.injEq,true_and,and_true]at h; simp[h]) (op) trivial
theorem Yq8(op:Int):@wW GG (tb [] []) yfm.code (argF [.int .i64 op]) [] ⟨retQ yfm.res (.tup [.int .i64 (ypc op).1,.int .i64 (ypc op).2])⟩:=by
 unfold yfm ypc
 by_cases h1:op=1
 ·subst h1; simp (disch:=first|omega|decide) only[push_cast,↓reduceIte,Nat.reduceEqDiff,true_or]
 ·by_cases h2:op=13
  ·subst h2; simp (disch:=first|omega|decide) only[push_cast,↓reduceIte,Nat.reduceEqDiff,h1,true_or,or_true]
  ·by_cases h3:op=14
   ·subst h3; simp (disch:=first|omega|decide) only[push_cast,↓reduceIte,Nat.reduceEqDiff,h1,h2,true_or,or_true]
   ·by_cases h4:op=15
    ·subst h4; simp (disch:=first|omega|decide) only[push_cast,↓reduceIte,Nat.reduceEqDiff,h1,h2,h3,or_true]
    ·by_cases h5:op=2
     ·subst h5; simp (disch:=first|omega|decide) only[push_cast,↓reduceIte,Nat.reduceEqDiff,h1,h2,h3,h4,or_self]
     ·by_cases h6:op=12
      ·subst h6; simp (disch:=first|omega|decide) only[push_cast,↓reduceIte,Nat.reduceEqDiff,h1,h2,h3,h4,h5,or_self]
      ·simp (disch:=first|omega|decide) only[push_cast,↓reduceIte,Nat.reduceEqDiff,h1,h2,h3,h4,h5,h6,or_self]
theorem Yvi:Contract Tryz.prog GG 148 yLf:=
 yac ys9 (yao all_nil all_nil) (fun a h=>Yq8 a)
noncomputable def ynh:List D→Option D:=spOf (α:=Int) (fun a=>[.int .i64 a]) (fun a=>True) (fun a=>.tup [.int .i64 (effF a).1,.int .i64 (effF a).2])
theorem Ya4(op:Int):ynh [.int .i64 op]=some (.tup [.int .i64 (effF op).1,.int .i64 (effF op).2]):=
 yae (fun a b h=>by simp only[List.cons.injEq,D.int.injEq,true_and,and_true]at h; simp[h]) (op) trivial
theorem Yq7(op:Int):@wW GG (tb [] []) yif.code (argF [.int .i64 op]) [] ⟨retQ yif.res (.tup [.int .i64 (effF op).1,.int .i64 (effF op).2])⟩:=by
 unfold yif effF
 by_cases h1:op=1
 ·subst h1; simp (disch:=first|omega|decide) only[push_cast,↓reduceIte,Nat.reduceEqDiff,true_or]
 ·by_cases h2:op=2
  ·subst h2; simp (disch:=first|omega|decide) only[push_cast,↓reduceIte,Nat.reduceEqDiff,h1,or_true]
  ·by_cases h3:op=12
   ·subst h3; simp (disch:=first|omega|decide) only[push_cast,↓reduceIte,Nat.reduceEqDiff,h1,h2,or_self]
   ·by_cases h4:op=13
    ·subst h4; simp (disch:=first|omega|decide) only[push_cast,↓reduceIte,Nat.reduceEqDiff,h1,h2,h3,or_self,true_or]
    ·by_cases h5:op=15
     ·subst h5; simp (disch:=first|omega|decide) only[push_cast,↓reduceIte,Nat.reduceEqDiff,h1,h2,h3,h4,or_self,or_true]
     ·by_cases h6:op=14
      ·subst h6; simp (disch:=first|omega|decide) only[push_cast,↓reduceIte,Nat.reduceEqDiff,h1,h2,h3,h4,h5,or_self,true_or]
      ·by_cases h7:op=16
       ·subst h7; simp (disch:=first|omega|decide) only[push_cast,↓reduceIte,Nat.reduceEqDiff,h1,h2,h3,h4,h5,h6,or_self,or_true]
       ·simp (disch:=first|omega|decide) only[push_cast,↓reduceIte,Nat.reduceEqDiff,h1,h2,h3,h4,h5,h6,h7,or_self]
theorem Yvh:Contract Tryz.prog GG 101 ynh:=
 yac yyg (yao all_nil all_nil) (fun a h=>Yq7 a)
theorem yK6(a b c d:Int):stO (some ⟨false,1,[.int .i64 a,.int .i64 b,.int .i64 c],false⟩) 1 1 (.int .i64 d)=some ⟨false,1,[.int .i64 a,.int .i64 d,.int .i64 c],false⟩:=(rfl)
theorem Ylj(a b c d:Int):stO (some ⟨false,1,[.int .i64 a,.int .i64 b,.int .i64 c],false⟩) 1 2 (.int .i64 d)=some ⟨false,1,[.int .i64 a,.int .i64 b,.int .i64 d],false⟩:=(rfl)
theorem ld_3(lent:Bool)(a b c:D):ldO (some ⟨false,1,[a,b,c],lent⟩) 3 true 0=some (.agg [a,b,c]):=(rfl)
theorem st_3(a b c:Int):stO (some ⟨false,1,[.int .i64 0,.int .i64 0,.int .i64 0],false⟩) 3 0 (.agg [.int .i64 a,.int .i64 b,.int .i64 c])=some ⟨false,1,[.int .i64 a,.int .i64 b,.int .i64 c],false⟩:=(rfl)
theorem yGa(a:Int):yam [.int .i64 0,.int .i64 0,.int .i64 0] [(0,1,.int .i64 a)]=some [.int .i64 a,.int .i64 0,.int .i64 0]:=(rfl)
theorem yF1(x:Ins):insC x=[.int .i64 x.op,.int .i64 x.n,.int .i64 x.m]:=(rfl)
theorem yGu(a b c a' b' c':Int):paeq [0,0,0] false (.agg [.int .i64 a,.int .i64 b,.int .i64 c]) (.agg [.int .i64 a',.int .i64 b',.int .i64 c'])=some (.bool (decide (a=a'∧b=b'∧c=c'))):=by
 simp only[paeq,yay,ydl,if_true,Option.map_some,Bool.bne_false]
 congr 2
 by_cases h1:a=a' <;> by_cases h2:b=b' <;> by_cases h3:c=c' <;> simp[h1,h2,h3]
noncomputable def yLe:List D→Option D:=spOf (α:=Ins) (fun a=>[insD a]) (fun a=>True) (fun a=>.bool (ybg a))
theorem Ya3(x:Ins):yLe [insD x]=some (.bool (ybg x)):=
 yae (fun a b h=>by simp only[List.cons.injEq,and_true,yq0]at h; simp[h]) (x) trivial
theorem Yq6(x:Ins):@wW GG (tb [(148,yLf)] []) yie.code (argF [insD x]) [] ⟨retQ yie.res (.bool (ybg x))⟩:=by
 unfold yie
 obtain⟨op,n,m⟩:=x
 by_cases h1:op<1
 ·rw[show ybg ⟨op,n,m⟩=false from decide_eq_false (by dsimp only; omega)]
  simp (disch:=first|omega|decide) only[push_cast,↓reduceIte,Nat.reduceEqDiff,yau,ybd,h1]
 ·by_cases h2:17≤op
  ·rw[show ybg ⟨op,n,m⟩=false from decide_eq_false (by dsimp only; omega)]
   simp (disch:=first|omega|decide) only[push_cast,↓reduceIte,Nat.reduceEqDiff,yau,ybd,h1,h2]
  ·have hc:=Ya5 op
   have fin:∀ (a b:Int) (n' m':Int),ypc op=(a,b)→(a≤0→n'=n)→(0<a→n'=0)→(a≤1→m'=m)→(1<a→m'=0)→ybg ⟨op,n,m⟩=(decide (op=op∧n'=0∧m'=0) && (decide (0≤min n m) && decide (max n m≤b))):=by
    intro a b n' m' e e1 e2 e3 e4
    unfold ybg
    dsimp only
    rw[e]
    rw[Bool.eq_iff_iff]
    simp only[Bool.and_eq_true,decide_eq_true_eq]
    refine⟨fun⟨_,_,p1,p2,p3,p4⟩=>⟨⟨trivial,?_,?_⟩,p3,p4⟩,fun⟨⟨_,p1,p2⟩,p3,p4⟩=>⟨by omega,by omega,?_,?_,p3,p4⟩⟩
    ·by_cases ha:a≤0
     ·rw[e1 ha]; exact p1 ha
     ·exact e2 (by omega)
    ·by_cases ha:a≤1
     ·rw[e3 ha]; exact p2 ha
     ·exact e4 (by omega)
    ·intro ha; rw[← e1 ha]; exact p1
    ·intro ha; rw[← e3 ha]; exact p2
   rcases yBd op with e | e | e | e
   ·rw[fin 1 _ 0 m e (by omega) (by omega) (by omega) (by omega)]
    rw[e]at hc
    rcases Classical.propComplete (m=0)with q0 | q0 <;> rcases Classical.propComplete (0≤min n m)with r1 | r1 <;> rcases Classical.propComplete (max n m≤9007199254740992)with r2 | r2 <;>
     simp (disch:=first|omega|decide) only[push_cast,↓reduceIte,Nat.reduceEqDiff,Int.reduceLT,yau,yew,h1,h2,hc,st_3,yF1,yK6,ld_3,yGa,yGu,q0,r1,r2,and_self,and_false]
   ·rw[fin 1 _ 0 m e (by omega) (by omega) (by omega) (by omega)]
    rw[e]at hc
    rcases Classical.propComplete (m=0)with q0 | q0 <;> rcases Classical.propComplete (0≤min n m)with r1 | r1 <;> rcases Classical.propComplete (max n m≤15)with r2 | r2 <;>
     simp (disch:=first|omega|decide) only[push_cast,↓reduceIte,Nat.reduceEqDiff,Int.reduceLT,yau,yew,h1,h2,hc,st_3,yF1,yK6,ld_3,yGa,yGu,q0,r1,r2,and_self,and_false]
   ·rw[fin 2 _ 0 0 e (by omega) (by omega) (by omega) (by omega)]
    rw[e]at hc
    rcases Classical.propComplete (0≤min n m)with r1 | r1 <;> rcases Classical.propComplete (max n m≤9007199254740992)with r2 | r2 <;>
     simp (disch:=first|omega|decide) only[push_cast,↓reduceIte,Nat.reduceEqDiff,Int.reduceLT,yau,yew,h1,h2,hc,st_3,yF1,yK6,Ylj,ld_3,yGa,yGu,r1,r2,and_self]
   ·rw[fin 0 _ n m e (by omega) (by omega) (by omega) (by omega)]
    rw[e]at hc
    rcases Classical.propComplete (n=0)with q0 | q0 <;> rcases Classical.propComplete (m=0)with q1 | q1 <;> rcases Classical.propComplete (0≤min n m)with r1 | r1 <;> rcases Classical.propComplete (max n m≤0)with r2 | r2 <;>
     simp (disch:=first|omega|decide) only[push_cast,↓reduceIte,Nat.reduceEqDiff,Int.reduceLT,yau,yew,h1,h2,hc,st_3,yF1,ld_3,yGa,yGu,q0,q1,r1,r2,and_true,and_self,and_false]
theorem Yvg:Contract Tryz.prog GG 99 yLe:=
 yac yyf (yao (all_cons Yvi all_nil) all_nil) (fun a h=>Yq6 a)
noncomputable def yLp:List D→St→Option (D×St):=siOf (α:=Ins) (fun x=>([insD x],[])) (fun _=>True) (fun x=>(.bool (!ybg x),[]))
theorem yJ3(x:Ins):yLp [insD x] []=some (.bool (!ybg x),[]):=
 yt2 (fun a b e=>by simp only[Ywg,List.cons.injEq,and_true,yq0]at e; rw[e]) x trivial rfl
theorem Ypa:IContract Tryz.prog GG 98 yLp:=by
 refine yp0 (T:=tb [(99,yLe)] []) yvf (yao (all_cons Yvg all_nil) all_nil) ?_
 intro x _
 unfold yow
 simp (disch:=first|omega|decide) only[push_cast,↓reduceIte,Nat.reduceEqDiff,yau,yug,Ynx,Ya3]
 rfl
def badI:List Ins→Nat→Int
 |[],_=>-1
 |x::l,i=>if ybg x then badI l (i+1)else i
theorem Ycb:∀ (l:List Ins) (i:Nat),0≤badI l i↔l.all ybg=false
 |[],i=>by simp[badI]
 |x::l,i=>by
  have:=Ycb l (i+1)
  unfold badI
  cases h:ybg x <;> simp[h]
  simpa using this
noncomputable def yVy:List D→St→Option (D×St):=siOf (α:=List Ins) (fun c=>([.slc (nz 3 (c.map insD)) (c.map insD) false,.clo 98 []],[])) (fun c=>c.length≤9223372036854775807) (fun c=>(.int .i64 (badI c 0),[]))
theorem Yhz(c:List Ins)(h:c.length≤9223372036854775807):yVy [.slc (nz 3 (c.map insD)) (c.map insD) false,.clo 98 []] []=some (.int .i64 (badI c 0),[]):=
 yt2 (fun a b e=>by simp only[Ywg,List.cons.injEq,D.slc.injEq,and_true,yea]at e; rw[e.2]) c h rfl
theorem yus{α:Type}[Inhabited α](l:List α){i:Nat}(h:i<l.length):l.drop i=l.getD i default::l.drop (i+1):=by
 rw[List.drop_eq_getElem_cons h,List.getD_eq_getElem?_getD,List.getElem?_eq_getElem h]; rfl
theorem Yu8:IContract Tryz.prog GG 147 yVy:=by
 refine yp0 (T:=tb [] [(98,yLp)]) yf2 (yao all_nil (all_cons Ypa all_nil)) ?_
 intro c hc
 unfold yc9
 simp (disch:=first|omega|decide) only[push_cast,↓reduceIte,Nat.reduceEqDiff,Int.reduceNeg]
 refine ybs (fun i:Nat=>[(0,.slc (nz 3 (c.map insD)) (c.map insD) false),(1,.clo 98 []),(7,.int .i64 (c.length:Int)),(8,.int .i64 (i:Int))])
  (fun i=>[]) (fun i=>i≤c.length∧badI (c.drop i) i=badI c 0) (fun i=>c.length - i) 0 (by simp only[push_cast,↓reduceIte,Nat.reduceEqDiff,↓Int.reduceNatCast'] <;> rfl) ⟨by omega,rfl⟩ ?_
 rintro i ⟨hi,hb⟩
 unfold yck
 simp (disch:=first|omega|decide) only[push_cast,↓reduceIte,Nat.reduceEqDiff]
 refine yag (fun h2=>?_) (fun h2=>?_)
 ·have hil:i<c.length:=by omega
  have hx:=yz7 [] c false i hil
  have hdr:=yus c hil
  obtain⟨x,hxe⟩:∃ x,c.getD i default=x:=⟨_,rfl⟩
  rw[hxe]at hx hdr
  rw[hdr,badI]at hb
  cases hf:ybg x with
  |false=>
   rw[hf]at hb
   have hv:=yJ3 x
   rw[hf]at hv
   simp (disch:=first|omega|decide) only[push_cast,↓reduceIte,Nat.reduceEqDiff,Int.reduceNeg,hx,yfv,hv]
   simp only[Bool.false_eq_true,if_false]at hb
   rw[← hb]
   rfl
  |true=>
   rw[hf]at hb
   have hv:=yJ3 x
   rw[hf]at hv
   simp (disch:=first|omega|decide) only[push_cast,↓reduceIte,Nat.reduceEqDiff,hx,yfv,hv,yax]
   refine yai (i+1) ⟨by omega,hb⟩ (by omega) ?_
   simp only[push_cast] <;> rfl
 ·obtain rfl:i=c.length:=by omega
  rw[List.drop_length,badI]at hb
  simp (disch:=first|omega|decide) only[push_cast,↓reduceIte,Int.reduceNeg]
  rw[← hb]
  rfl
noncomputable def yty:List D→St→Option (D×St):=siOf (α:=List Ins) (fun c=>([.slc (nz 3 (c.map insD)) (c.map insD) false,.clo 98 []],[])) (fun c=>c.length≤9223372036854775807) (fun c=>(.bool (!c.all ybg),[]))
theorem Yh2(c:List Ins)(h:c.length≤9223372036854775807):yty [.slc (nz 3 (c.map insD)) (c.map insD) false,.clo 98 []] []=some (.bool (!c.all ybg),[]):=
 yt2 (fun a b e=>by simp only[Ywg,List.cons.injEq,D.slc.injEq,and_true,yea]at e; rw[e.2]) c h rfl
theorem Yva:IContract Tryz.prog GG 97 yty:=by
 refine yp0 (T:=tb [] [(147,yVy)]) yex (yao all_nil (all_cons Yu8 all_nil)) ?_
 intro c hc
 unfold ycl
 have hx:=Yhz c hc
 have hb:decide (0≤badI c 0)=!c.all ybg:=by
  have:=Ycb c 0
  cases h:c.all ybg with
  |true=>rw[h]at this; simp at this ⊢; omega
  |false=>rw[h]at this; simp at this ⊢; exact this
 simp (disch:=first|omega|decide) only[push_cast,↓reduceIte,Nat.reduceEqDiff,hx,hb]
 rfl
theorem yz8{P:Program}{G:Glob}{T:Tbl}{il:List Nat}{f:Nat}{hints:List (List Nat)}{F:PF}(ht:trF P il f hints=some F)(hT:TblOK P G T){α:Type}{enc:α→List D×St}{pre:α→Prop}{r:α→D×St}
  (h:∀ a,pre a→@wW G T F.code (argF (enc a).1) (enc a).2 ⟨@retI F.res ⟨fun d st'=>(d,st')=r a⟩⟩) (hy:T.y=fun _ _ _=>none:=by rfl):IContract P G f (siOf enc pre r):=
 yaj ht hT (fun ds st x hx=>by
  obtain⟨a,ha,hp,rfl⟩:=yEz hx
  have:=h a hp
  rw[ha]at this
  exact this) hy
noncomputable def yy0:List D→Option D:=spOf (α:=Int×Int) (fun a=>[.int .u64 a.1,.int .u64 a.2]) (fun a=>0≤a.1∧a.1<18446744073709551616∧0≤a.2∧a.2<18446744073709551616) (fun a=>.tup [.int .u64 (a.1*a.2 / 18446744073709551616),.int .u64 (a.1*a.2 % 18446744073709551616)])
theorem yNb(x:Int)(y:Int)(h:0≤x∧x<18446744073709551616∧0≤y∧y<18446744073709551616):yy0 [.int .u64 x,.int .u64 y]=some (.tup [.int .u64 (x*y / 18446744073709551616),.int .u64 (x*y % 18446744073709551616)]):=
 yae (fun⟨a0,a1⟩ ⟨b0,b1⟩ h=>by simp only[List.cons.injEq,D.int.injEq,true_and,and_true]at h; simp[h]) (x,y) h
theorem Yct(x:Int)(y:Int)(h:0≤x∧x<18446744073709551616∧0≤y∧y<18446744073709551616):@wW GG (tb [(169,yEr)] []) yhe.code (argF [.int .u64 x,.int .u64 y]) [] ⟨retQ yhe.res (.tup [.int .u64 (x*y / 18446744073709551616),.int .u64 (x*y % 18446744073709551616)])⟩:=by
 unfold yhe
 simp (disch:=first|omega|decide) only[push_cast,↓reduceIte,Nat.reduceEqDiff,yKe x y h]
theorem Yh6:Contract Tryz.prog GG 149 yy0:=
 yac yw4 (yao (all_cons Yj1 all_nil) all_nil) (fun a h=>Yct a.1 a.2 h)
noncomputable def ytx:List D→St→Option (D×St):=siOf (α:=Nat×Int) (fun a=>([.slc 1 [.int .i64 a.2] true,.int .i64 (a.1:Int)],[])) (fun a=>0<a.1∧a.1≤100000) (fun a=>(.row 0 a.1 0 a.1,[⟨true,1,(List.replicate a.1 a.2).map nI,false⟩]))
theorem Yhs(n:Nat)(a:Int)(h:0<n∧n≤100000):ytx [.slc 1 [.int .i64 a] true,.int .i64 (n:Int)] []=some (.row 0 n 0 n,[⟨true,1,(List.replicate n a).map nI,false⟩]):=
 yt2 (fun⟨a,b⟩ ⟨a',b'⟩ e=>by
  simp only[Ywg,List.cons.injEq,D.slc.injEq,D.int.injEq,and_true,true_and,Int.ofNat_inj]at e
  obtain⟨rfl,rfl⟩:=e
  rfl) ((n,a):Nat×Int) h rfl
def repL(n j:Nat)(a:Int):List D:=(List.replicate j a++List.replicate (n - j) 0).map nI
theorem yr7{n j:Nat}{a:Int}(h:j≤n):(repL n j a).length=n:=by simp[repL]; omega
theorem yzb{n j m:Nat}{a:Int}(h:j+m≤n):ybl (repL n j a) j ((List.replicate m a).map nI)=repL n (j+m) a:=by
 have e:List.replicate (n - j) (0:Int)=List.replicate m 0++List.replicate (n - (j+m)) 0:=by
  rw[List.replicate_append_replicate]; congr 1; omega
 unfold repL
 rw[e,List.map_append,List.map_append,yvk (by simp) (by simp),← List.map_append,← List.map_append,← List.append_assoc,List.replicate_append_replicate]
theorem Yo3{n j:Nat}{a:Int}(h0:0<j)(h1:j<n):pcpy [⟨true,1,repL n j a,false⟩] 1 (.row 0 n j (n - j)) (.row 0 n 0 j)=some (.int .i64 (min (n - j) j:Nat),[⟨true,1,repL n (j+min (n - j) j) a,false⟩]):=by
 have hl:=yr7 (a:=a) (Nat.le_of_lt h1)
 have he:yec [⟨true,1,repL n j a,false⟩] 0 n 0 j=some (1,(List.replicate j a).map nI):=by
  simp only[yec,List.getElem?_cons_zero,hl]
  rw[if_pos (by simp; omega),List.drop_zero]
  congr 2
  simp[repL]
 simp only[pcpy,yW9,List.getElem?_cons_zero,ygl,he,hl,ypx]
 rw[if_pos (by simp; omega)]
 simp only[List.length_map,List.length_replicate,List.set_cons_zero]
 congr 3
 rw[← List.map_take,List.take_replicate,show min (min (n - j) j) j=min (n - j) j by omega,yzb (by omega)]
theorem Yhj{n:Nat}{a:Int}(h1:0<n):pcpy [⟨true,1,List.replicate n (.int .i64 0),false⟩] 1 (.row 0 n 0 n) (.slc 1 [.int .i64 a] true)=some (.int .i64 1,[⟨true,1,repL n 1 a,false⟩]):=by
 have h0:(List.replicate n (D.int .i64 0))=repL n 0 a:=by simp[repL,nI]
 rw[h0]
 have hl:=yr7 (a:=a) (Nat.zero_le n)
 simp only[pcpy,yW9,List.getElem?_cons_zero,ygl,hl,ypx]
 rw[if_pos (by simp; omega)]
 have hm:min n [D.int IntKind.i64 a].length=1:=by simp; omega
 simp only[hm,List.set_cons_zero]
 have:=yzb (n:=n) (j:=0) (m:=1) (a:=a) (by omega)
 rw[Nat.zero_add]at this
 rw[← this]
 rfl
theorem mk_n{n:Nat}(h:n≤100000):yzn 1 8 (.int .i64 0) (.int .i64 (n:Int)) (.int .i64 (n:Int))=some (n,⟨true,1,List.replicate n (.int .i64 0),false⟩):=by
 have h1:yd6 (.int .i64 (n:Int))=some n:=by simp[yd6]
 simp only[yzn,h1]
 rw[if_pos ⟨Nat.le_refl _,by omega,by omega,by decide,rfl,rfl⟩]
theorem Yu6:IContract Tryz.prog GG 100 ytx:=by
 refine yz8 (T:=tb [(149,yy0)] []) yma (yao (all_cons Yh6 all_nil) all_nil) ?_
 rintro⟨n,a⟩ ⟨hn0,hn1⟩
 dsimp only at hn0 hn1
 unfold yhc
 have hm:=yNb 1 (n:Int) ⟨by omega,by omega,by omega,by omega⟩
 rw[show(1*(n:Int) / 18446744073709551616)=0 by omega,show(1*(n:Int) % 18446744073709551616)=n by omega]at hm
 have hc:=Yhj (n:=n) (a:=a) hn0
 have h0:¬ ((n:Int)<0):=by omega
 have h1:¬ ((9223372036854775807:Int)<(n:Int)):=by omega
 simp (disch:=first|omega|decide) only[push_cast,↓reduceIte,Nat.reduceEqDiff,Int.reduceLT,Int.reduceAdd,↓Int.reduceNatCast',h0,yGi,Yaf,hm,h1,mk_n hn1,hc]
 refine ybs (fun j:Nat=>[(7,.row 0 n 0 n),(8,.int .i64 (j:Int))]) (fun j=>[⟨true,1,repL n j a,false⟩]) (fun j=>0<j∧j≤n) (fun j=>n - j) 1 (by simp only[push_cast,↓reduceIte,Nat.reduceEqDiff,Nat.reduceLT,Nat.reduceLeDiff,↓Int.reduceNatCast'] <;> rfl) ⟨by omega,by omega⟩ ?_
 rintro j ⟨hj0,hj1⟩
 have hl:=yr7 (a:=a) hj1
 have hli:liR (some ⟨true,1,repL n j a,false⟩) n=true:=by simp[liR,hl]
 unfold yfu
 simp (disch:=first|omega|decide) only[push_cast,↓reduceIte,Nat.reduceEqDiff,hli]
 refine yag (fun h2=>?_) (fun h2=>?_)
 ·have hc2:=Yo3 (a:=a) hj0 (show j<n by omega)
  have s1:slR (some ⟨true,1,repL n j a,false⟩) 1 (.row 0 n 0 n) 0 n 0 n j n=some (.row 0 n j (n - j)):=by
   simp[slR,hl,show j≤n from hj1,show ¬ j=0 by omega,show ¬ j=n by omega]
  have s2:slR (some ⟨true,1,repL n j a,false⟩) 1 (.row 0 n 0 n) 0 n 0 n 0 j=some (.row 0 n 0 j):=by
   simp[slR,hl,show j≤n from hj1,show ¬ j=0 by omega,show ¬ j=n by omega,show ¬ 0=j by omega]
  simp (disch:=first|omega|decide) only[push_cast,↓reduceIte,Nat.reduceEqDiff,Nat.reduceLT,Nat.reduceLeDiff,s1,s2,hc2,yax]
  refine yai (j+min (n - j) j) ⟨by omega,by omega⟩ (by omega) ?_
  simp only[push_cast] <;> rfl
 ·obtain rfl:j=n:=by omega
  simp (disch:=first|omega|decide) only[push_cast,↓reduceIte,Nat.reduceEqDiff]
  simp[repL]
abbrev at'(x:List Int)(i:Nat):Int:=x.getD i default
theorem Yj4{x:List Int}{i:Nat}(h:i<x.length):at' x i∈x:=by
 unfold at'
 rw[List.getD_eq_getElem?_getD,List.getElem?_eq_getElem h]
 exact List.getElem_mem h
theorem yYk(A:List Int)(lent:Bool)(tot i:Nat)(ht:A.length=tot)(h:i<tot):ldR (some ⟨true,1,A.map nI,lent⟩) 1 false tot i 0=some (.int .i64 (at' A i)):=by
 subst ht; exact Yf2 nI (fun _=>rfl) 1 A lent i h
theorem yPi(A:List Int)(lent:Bool)(key tot:Nat)(j:Int)(ht:A.length=tot)(h0:0≤j)(h1:j<(tot:Int)):ixR (some ⟨true,1,A.map nI,lent⟩) 1 key tot 0 tot j=some (.rptr key tot j.toNat 0):=by
 subst ht
 have:=yYw nI 1 A lent key 0 A.length j h0 h1
 rwa [Nat.zero_add]at this
def stRI(o:Option PI.Obj)(tot i:Nat)(v:Int):Option PI.Obj:=o.bind fun o=>if o.row && !o.lent && o.els.length == tot then(o.els[i]?).bind fun el=>(yRb el 0 [.int .i64 v]).map fun el'=>{o with els:=o.els.set i el'} else none
theorem yE9(st:St)(key tot i:Nat)(v:Int):yxc st 1 (.rptr key tot i 0) (.int .i64 v)=(stRI st[key]? tot i v).map fun o=>st.set key o:=by
 simp only[yxc,stRI,yY5,yPf,List.isEmpty_nil,Bool.and_true]
 cases st[key]? with
 |none=>rfl
 |some o=>
  simp only[Option.bind_some]
  split
  ·cases o.els[i]? with
   |none=>rfl
   |some el=>
    have hc:(D.int .i64 v).cells=[.int .i64 v]:=rfl
    rw[hc]
    simp only[Option.bind_some]
    cases yRb el 0 [.int .i64 v] <;> rfl
  ·rfl
theorem yN2(A:List Int)(tot i:Nat)(v:Int)(ht:A.length=tot)(h:i<tot):stRI (some ⟨true,1,A.map nI,false⟩) tot i v=some ⟨true,1,(A.set i v).map nI,false⟩:=by
 subst ht
 have h1:yRb (nI A[i]) 0 [.int .i64 v]=some (nI v):=rfl
 simp[stRI,h,h1,List.map_set]
def yzm(len i after n:Int)(dep:List Int):Prop:=n≤i∨len≤n∨(0≤at' dep n.toNat∧at' dep n.toNat≠after)
instance (len i after n:Int) (dep:List Int):Decidable (yzm len i after n dep):=by unfold yzm; infer_instance
def yIm(len i after:Int):List Int→List Int→Option (List Int)
 |[],dep=>some dep
 |n::l,dep=>if yzm len i after n dep then none else yIm len i after l (dep.set n.toNat after)
def ysd(x:Ins)(i:Int):List Int:=(if x.op=13∨x.op=14 then [x.n]else [])++(if x.op≠14∧x.op≠15∧x.op≠16 then [i+1]else [])
def yi7(x:Ins)(d:Int):Prop:=d<(effF x.op).1∨(x.op=15∧d≠1)∨(x.op=16∧d≠0)
instance (x:Ins) (d:Int):Decidable (yi7 x d):=by unfold yi7; infer_instance
def yce(x:Ins)(d:Int):Int:=d - (effF x.op).1+(effF x.op).2
def verL(len:Int):List Ins→Nat→List Int→Int→Option Int
 |[],_,_,s=>some s
 |x::r,i,dep,s=>if at' dep i<0 then verL len r (i+1) dep s else if yi7 x (at' dep i)then none else
  match yIm len i (yce x (at' dep i)) (ysd x i) dep with
  |none=>none
  |some dep'=>verL len r (i+1) dep' (max (max s (at' dep i)) (yce x (at' dep i)))
def yl8:Option Int→Int×Int
 |none=>(0,200)
 |some s=>if 64<s then(0,2)else(s,0)
def dep0(n:Nat):List Int:=(List.replicate n (-1)).set 0 0
def ycc(c:List Ins):Int×Int:=if 4096<c.length then(0,2)else if c.length=0∨c.all ybg=false then(0,200)else yl8 (verL c.length c 0 (dep0 c.length) 0)
theorem li1(sz:Nat)(a:D)(l:Bool):liR (some ⟨true,sz,[a],l⟩) 1=true:=(rfl)
theorem li2(sz:Nat)(a b:D)(l:Bool):liR (some ⟨true,sz,[a,b],l⟩) 2=true:=(rfl)
theorem Ykx{G:Glob}{T:Tbl}{c:PC}{fr:Frame}{st st':St}{Q:QC}(e:st=st')(h:@wW G T c fr st' Q):@wW G T c fr st Q:=by rw[e]; exact h
/- what follows an instruction -/
def yM6(N:Nat)(i:Int)(dp:List Int):Prop:=dp.length=N∧∀ y∈dp,-1≤y∧y≤i
theorem yJu{N:Nat}{i:Int}{dp:List Int}(h:yM6 N i dp)(k:Nat){v:Int}(h0:-1≤v)(h1:v≤i):yM6 N i (dp.set k v):=by
 refine⟨by rw[List.length_set]; exact h.1,fun y hy=>?_⟩
 rcases List.mem_or_eq_of_mem_set hy with hy | rfl
 ·exact h.2 y hy
 ·exact⟨h0,h1⟩
set_option maxHeartbeats 4000000 in
set_option maxRecDepth 20000 in
theorem yyc(T:Tbl)(c:List Ins)(x:Ins)(i:Nat)(hi:i<c.length)(hc:c.length≤4096)(s after:Int)(ha0:-1≤after)(ha1:after≤(i:Int)+1)(nx:List Int)(hnx:nx.length≤2)(dep:List Int)(hdep:yM6 c.length ((i:Int)+1) dep)(fr:Frame)(Q:Ex→Frame→St→Prop)
  (f0:fr 0=.slc (nz 3 (c.map insD)) (c.map insD) false) (f2:fr 2=.int .i64 s) (f4:fr 4=.row 0 c.length 0 c.length) (f5:fr 5=.int .i64 (i:Int)) (f10:fr 10=.int .i64 after)
  (f30:fr 30=.slc (nz 3 (c.map insD)) (c.map insD) false) (f31:fr 31=.int .i64 (c.length:Int)) (f32:fr 32=.int .i64 (i:Int)) (f110:fr 110=bufD 0 2 (nx.map nI)) (f111:fr 111=.int .i64 (nx.length:Int)) (f112:fr 112=.int .i64 0)
  (hret:yIm c.length i after nx dep=none→∀ fr' st',fr' 2=.int .i64 0→fr' 3=.int .i64 200→Q .ret fr' st')
  (hext:∀ dp,yIm c.length i after nx dep=some dp→yM6 c.length ((i:Int)+1) dp→∀ fr',fr' 0=.slc (nz 3 (c.map insD)) (c.map insD) false→fr' 2=.int .i64 s→fr' 4=.row 0 c.length 0 c.length→fr' 30=.slc (nz 3 (c.map insD)) (c.map insD) false→fr' 31=.int .i64 (c.length:Int)→fr' 32=.int .i64 (i:Int)→
   Q (.exit 2) fr' (⟨true,1,dp.map nI,false⟩::⟨false,1,insC x,false⟩::bufS 1 (nx.map nI))) :
  @wW GG T (.loop [0,2,4,5,10,30,31,32,110,111,112] yh9) fr (⟨true,1,dep.map nI,false⟩::⟨false,1,insC x,false⟩::bufS 1 (nx.map nI)) ⟨Q⟩:=by
 have hB:ren ((bufS 1 (nx.map nI)).length+1+1) [] (bufD 0 2 (nx.map nI))=bufD 0 2 (nx.map nI):=by
  cases nx <;> rfl
 have hok:∀ dp:List Int,StOK (⟨true,1,dp.map nI,false⟩::⟨false,1,insC x,false⟩::bufS 1 (nx.map nI)):=by
  intro dp o ho hr y hy
  simp only[List.mem_cons]at ho
  rcases ho with rfl | rfl | ho
  ·cases hr
  ·simp only[insC,List.mem_cons,List.not_mem_nil,or_false]at hy
   rcases hy with rfl | rfl | rfl <;> rfl
  ·cases nx with
   |nil=>cases ho
   |cons a l=>
    rw[show bufS 1 ((a::l).map nI)=[⟨true,1,(a::l).map nI,false⟩]from rfl,List.mem_singleton]at ho
    subst ho; cases hr
 have hR:∀ (fr:Frame) (dp:List Int),restrict [0,2,4,5,10,30,31,32,110,111,112] ((bufS 1 (nx.map nI)).length+1+1) ⟨fr,⟨true,1,dp.map nI,false⟩::⟨false,1,insC x,false⟩::bufS 1 (nx.map nI)⟩=
   ⟨mkF (ypb fr ((bufS 1 (nx.map nI)).length+1+1) [] [0,2,4,5,10,30,31,32,110,111,112]),⟨true,1,dp.map nI,false⟩::⟨false,1,insC x,false⟩::bufS 1 (nx.map nI)⟩:=fun fr dp=>yku (hok dp) rfl
 have hr0:renK ((bufS 1 (nx.map nI)).length+1+1) [] 0=some 0:=yr8 (by omega)
 refine ybs (fun p:Nat×List Int=>[(0,.slc (nz 3 (c.map insD)) (c.map insD) false),(2,.int .i64 s),(4,.row 0 c.length 0 c.length),(5,.int .i64 (i:Int)),(10,.int .i64 after),(30,.slc (nz 3 (c.map insD)) (c.map insD) false),(31,.int .i64 (c.length:Int)),(32,.int .i64 (i:Int)),
   (110,bufD 0 2 (nx.map nI)),(111,.int .i64 (nx.length:Int)),(112,.int .i64 (p.1:Int))])
  (fun p=>⟨true,1,p.2.map nI,false⟩::⟨false,1,insC x,false⟩::bufS 1 (nx.map nI)) (fun p=>p.1≤nx.length∧yM6 c.length ((i:Int)+1) p.2∧yIm c.length i after (nx.drop p.1) p.2=yIm c.length i after nx dep) (fun p=>nx.length - p.1) (0,dep)
  ((hR fr dep).trans (by simp only[push_cast,f0,f2,f4,f5,f10,f30,f31,f32,f110,f111,f112,hB,↓hr0] <;> rfl)) ⟨Nat.zero_le _,hdep,rfl⟩ ?_
 rintro⟨j,dp⟩ ⟨hj,hdp,hn⟩
 dsimp only at hj hdp hn
 unfold yh9
 simp (disch:=first|omega|decide) only[push_cast,↓reduceIte,Nat.reduceEqDiff]
 refine yag (fun h2=>?_) (fun h2=>?_)
 ·have hjl:j<nx.length:=by omega
  have hdr:=yus nx hjl
  have hne:nx.map nI≠[]:=by
   intro e
   have:=congrArg List.length e
   simp at this
   subst this
   simp at hjl
  obtain⟨n,hne'⟩:∃ n,nx.getD j default=n:=⟨_,rfl⟩
  have hx0:ixR (some ⟨true,1,nx.map nI,false⟩) 1 2 nx.length 0 nx.length (j:Int)=some (.rptr 2 nx.length j 0):=yPi nx false 2 nx.length j rfl (by omega) (by omega)
  have hx1:ldR (some ⟨true,1,nx.map nI,false⟩) 1 false nx.length j 0=some (.int .i64 n):=by rw[← hne']; exact yYk nx false nx.length j rfl hjl
  have hxx:∀ dp:List Int,yfx (⟨true,1,dp.map nI,false⟩::⟨false,1,insC x,false⟩::bufS 1 (nx.map nI)) 1 (bufD 0 2 (nx.map nI)) (.int .i64 (j:Int))=some (.rptr 2 nx.length j 0):=by
   intro dp
   rw[ywf _ _ _ hne,ysy _ _ hne,List.length_map,yPq]
   exact hx0
  have hx1':∀ dp:List Int,yde (⟨true,1,dp.map nI,false⟩::⟨false,1,insC x,false⟩::bufS 1 (nx.map nI)) 1 false (.rptr 2 nx.length j 0)=some (.int .i64 n):=by
   intro dp
   rw[ysy _ _ hne,yzd]
   exact hx1
  rw[hdr,hne',yIm]at hn
  by_cases b1:n≤(i:Int)
  ·rw[if_pos (.inl b1)]at hn
   simp (disch:=first|omega|decide) only[push_cast,↓reduceIte,Nat.reduceEqDiff,hxx,hx1',  b1]
   exact hret hn.symm _ _ rfl rfl
  ·by_cases b2:(c.length:Int)≤n
   ·rw[if_pos (.inr (.inl b2))]at hn
    simp (disch:=first|omega|decide) only[push_cast,↓reduceIte,Nat.reduceEqDiff,hxx,hx1',  b1,b2]
    exact hret hn.symm _ _ rfl rfl
   ·have hd0:=yPi dp false 0 c.length n hdp.1 (by omega) (by omega)
    have hd1:=yYk dp false c.length n.toNat hdp.1 (by omega)
    have hdm:=hdp.2 _ (Yj4 (x:=dp) (i:=n.toNat) (by rw[hdp.1]; omega))
    have hs:=yN2 dp c.length n.toNat after hdp.1 (by omega)
    by_cases b3:0≤at' dp n.toNat
    ·by_cases b4:at' dp n.toNat=after
     ·have b4':(at' dp n.toNat=after)=True:=eq_true b4
      rw[if_neg (by unfold yzm; omega)]at hn
      simp (disch:=first|omega|decide) only[push_cast,↓reduceIte,Nat.reduceEqDiff,hxx,hx1',  b1,b2,hd0,hd1,b3,b4',yE9,hs,yax,↓hR,↓hr0,hB]
      refine yai (j+1,dp.set n.toNat after) ⟨by dsimp only; omega,yJu hdp _ ha0 ha1,hn⟩ (by dsimp only; omega) ?_
      simp only[push_cast] <;> rfl
     ·rw[if_pos (.inr (.inr ⟨b3,b4⟩))]at hn
      simp (disch:=first|omega|decide) only[push_cast,↓reduceIte,Nat.reduceEqDiff,hxx,hx1',  b1,b2,hd0,hd1,b3,b4]
      exact hret hn.symm _ _ rfl rfl
    ·rw[if_neg (by unfold yzm; omega)]at hn
     simp (disch:=first|omega|decide) only[push_cast,↓reduceIte,Nat.reduceEqDiff,hxx,hx1',  b1,b2,hd0,hd1,b3,yE9,hs,yax,↓hR,↓hr0,hB]
     refine yai (j+1,dp.set n.toNat after) ⟨by dsimp only; omega,yJu hdp _ ha0 ha1,hn⟩ (by dsimp only; omega) ?_
     simp only[push_cast] <;> rfl
 ·obtain rfl:j=nx.length:=by omega
  rw[List.drop_length,yIm]at hn
  simp (disch:=first|omega|decide) only[push_cast]
  exact hext dp hn.symm hdp _ rfl rfl rfl rfl rfl rfl
noncomputable def yEd:List D→Option D:=spOf (α:=List Ins) (fun a=>[.slc (nz 3 (a.map insD)) (a.map insD) false]) (fun a=>a.length≤9223372036854775807) (fun a=>.tup [.int .i64 (ycc a).1,.int .i64 (ycc a).2])
theorem yJ5(c:List Ins)(h:c.length≤9223372036854775807):yEd [.slc (nz 3 (c.map insD)) (c.map insD) false]=some (.tup [.int .i64 (ycc c).1,.int .i64 (ycc c).2]):=
 yae (fun a b h=>by simp only[List.cons.injEq,D.slc.injEq,and_true,yea]at h; simp[h]) (c) h
set_option maxHeartbeats 4000000 in
set_option maxRecDepth 20000 in
theorem Yq5(c:List Ins)(h:c.length≤9223372036854775807):@wW GG (tb [(101,ynh)] [(97,yty),(100,ytx)]) yig.code (argF [.slc (nz 3 (c.map insD)) (c.map insD) false]) [] ⟨retQ yig.res (.tup [.int .i64 (ycc c).1,.int .i64 (ycc c).2])⟩:=by
 unfold yig
 by_cases h1:4096<c.length
 ·rw[show ycc c=(0,2)from if_pos h1]
  simp (disch:=first|omega|decide) only[push_cast,↓reduceIte,Nat.reduceEqDiff,Int.reduceNeg,show((4096:Int)<(c.length:Int)) by omega]
 by_cases h2:c.length=0
 ·rw[show ycc c=(0,200) by unfold ycc; rw[if_neg h1,if_pos (.inl h2)]]
  simp (disch:=first|omega|decide) only[push_cast,↓reduceIte,Nat.reduceEqDiff,Int.reduceLT,Int.reduceNeg,show ¬ ((4096:Int)<(c.length:Int)) by omega,show((c.length:Int)=0) by omega]
 have hcn:=Yh2 c h
 have h3:¬ ((4096:Int)<(c.length:Int)):=by omega
 have h4:¬ ((c.length:Int)=0):=by omega
 cases hall:c.all ybg with
 |false=>
  rw[hall]at hcn
  rw[show ycc c=(0,200) by unfold ycc; rw[if_neg h1,if_pos (.inr hall)]]
  simp (disch:=first|omega|decide) only[push_cast,↓reduceIte,Nat.reduceEqDiff,Int.reduceNeg,h3,h4,hcn]
 |true=>
  rw[hall]at hcn
  rw[show ycc c=yl8 (verL c.length c 0 (dep0 c.length) 0) by unfold ycc; rw[if_neg h1,if_neg (by rw[hall]; simp[h2])]]
  have hrp:=Yhs c.length (-1) ⟨by omega,by omega⟩
  have hx0:ixR (some ⟨true,1,(List.replicate c.length (-1)).map nI,false⟩) 1 0 c.length 0 c.length 0=some (.rptr 0 c.length 0 0):=yPi _ false 0 c.length 0 (by simp) (by omega) (by omega)
  have hs0:stRI (some ⟨true,1,(List.replicate c.length (-1)).map nI,false⟩) c.length 0 0=some ⟨true,1,(dep0 c.length).map nI,false⟩:=yN2 _ c.length 0 0 (by simp) (by omega)
  simp (disch:=first|omega|decide) only[push_cast,↓reduceIte,Nat.reduceEqDiff,Int.reduceNeg,h3,h4,hcn,lit1,hrp,hx0,yE9,hs0]
  refine ybs (fun p:Nat×List Int×Int=>[(0,.slc (nz 3 (c.map insD)) (c.map insD) false),(2,.int .i64 p.2.2),(4,.row 0 c.length 0 c.length),(30,.slc (nz 3 (c.map insD)) (c.map insD) false),(31,.int .i64 (c.length:Int)),(32,.int .i64 (p.1:Int))])
   (fun p=>[⟨true,1,p.2.1.map nI,false⟩]) (fun p=>p.1≤c.length∧yM6 c.length p.1 p.2.1∧yl8 (verL c.length (c.drop p.1) p.1 p.2.1 p.2.2)=yl8 (verL c.length c 0 (dep0 c.length) 0)) (fun p=>c.length - p.1) (0,dep0 c.length,0)
   (by simp only[push_cast,↓reduceIte,Nat.reduceEqDiff,Nat.reduceLT,Nat.reduceLeDiff,Int.reduceNeg] <;> rfl) ⟨Nat.zero_le _,?_,rfl⟩ ?_
  ·refine⟨by simp[dep0],fun y hy=>?_⟩
   rcases List.mem_or_eq_of_mem_set hy with hy | rfl
   ·have:=(List.mem_replicate.1 hy).2
    subst this; dsimp only; omega
   ·dsimp only; omega
  rintro⟨i,dep,s⟩ ⟨hi,hdk0,hv⟩
  dsimp only at hi hdk0 hv
  unfold ym4
  simp (disch:=first|omega|decide) only[push_cast,↓reduceIte,Nat.reduceEqDiff]
  refine yag (fun h5=>?_) (fun h5=>?_)
  ·have hil:i<c.length:=by omega
   have hc4:c.length≤4096:=by omega
   have hdk:yM6 c.length ((i:Int)+1) dep:=⟨hdk0.1,fun y hy=>⟨(hdk0.2 y hy).1,by have:=(hdk0.2 y hy).2; omega⟩⟩
   have hx:=fun st=>yz7 st c false i hil
   have hdr:=yus c hil
   obtain⟨x,hxe⟩:∃ x,c.getD i default=x:=⟨_,rfl⟩
   rw[hxe]at hx hdr
   rw[hdr,verL]at hv
   have hd0:ixR (some ⟨true,1,dep.map nI,false⟩) 1 0 c.length 0 c.length (i:Int)=some (.rptr 0 c.length i 0):=yPi dep false 0 c.length i hdk.1 (by omega) (by omega)
   have hd1:=yYk dep false c.length i hdk.1 hil
   have hdm:=hdk0.2 _ (Yj4 (x:=dep) (i:=i) (by rw[hdk0.1]; omega))
   have he:=Ya4 x.op
   have hef:=yTr x.op
   by_cases h0:at' dep i<0
   ·rw[if_pos h0]at hv
    simp (disch:=first|omega|decide) only[push_cast,↓reduceIte,Nat.reduceEqDiff,Nat.reduceLT,Nat.reduceLeDiff,Nat.reduceAdd,hx,yfv,yew,yri,hd0,hd1,h0,yax]
    refine yai (i+1,dep,s) ⟨by dsimp only; omega,hdk,hv⟩ (by dsimp only; omega) ?_
    simp only[push_cast] <;> rfl
   rw[if_neg h0]at hv
   have haf:yce x (at' dep i)=at' dep i - (effF x.op).1+(effF x.op).2:=rfl
   by_cases hbad0:at' dep i<(effF x.op).1
   ·rw[if_pos (.inl hbad0)]at hv
    simp (disch:=first|omega|decide) only[push_cast,↓reduceIte,Nat.reduceEqDiff,hx,yfv,yew,yri,hd0,hd1,h0,ybd,he,ydz,yax,hbad0]
    rw[← hv]
    rfl
   have hbad0':(at' dep i<(effF x.op).1)=False:=eq_false hbad0
   by_cases h15:x.op=15
   ·have e15:(x.op=15)=True:=eq_true h15
    have e14:(x.op=14)=False:=eq_false (by omega)
    have e13:(x.op=13)=False:=eq_false (by omega)
    have hef15:effF x.op=(1,0):=by rw[h15]; rfl
    by_cases hd:at' dep i=1
    ·have ed:(at' dep i=1)=True:=eq_true hd
     have e16:(x.op=16)=False:=eq_false (by omega)
     have hb1:¬ at' dep i<(effF x.op).1:=hbad0
     have hnx:ysd x (i:Int)=[]:=by simp[ysd,h15]
     have hbad:¬ yi7 x (at' dep i):=by unfold yi7; omega
     rw[if_neg hbad,hnx]at hv
     simp (disch:=first|omega|decide) only[push_cast,↓reduceIte,Nat.reduceEqDiff,hx,yfv,yew,yri,hd0,hd1,h0,ybd,he,ydz,yax,hbad0,e15,e14,e13,e16,ed,haf.symm]
     have hl:=yyc (tb [(101,ynh)] [(97,yty),(100,ytx)]) c x i hil hc4 (max (max s (at' dep i)) (yce x (at' dep i))) (yce x (at' dep i)) (by omega) (by omega) [] (by simp) dep hdk
     refine hl _ _ rfl rfl rfl rfl rfl rfl rfl rfl rfl rfl rfl (fun hn fr' st' g2 g3=>?_) (fun dp hn hdp fr' g0 g2 g4 g30 g31 g32=>?_)
     ·rw[hn]at hv
      have hv':((0,200):Int×Int)=yl8 (verL c.length c 0 (dep0 c.length) 0):=hv
      simp (disch:=first|omega|decide) only[push_cast,g2,g3]
      rw[← hv']
     ·rw[hn]at hv
      simp (disch:=first|omega|decide) only[push_cast,↓reduceIte,Nat.reduceEqDiff,g32,yax]
      refine yai (i+1,dp,max (max s (at' dep i)) (yce x (at' dep i))) ⟨by dsimp only; omega,hdp,hv⟩ (by dsimp only; omega) ?_
      simp only[push_cast,↓reduceIte,Nat.reduceLT,Nat.reduceLeDiff,g0,g2,g4,g30,g31] <;> rfl
    ·have ed:(at' dep i=1)=False:=eq_false hd
     rw[if_pos (.inr (.inl ⟨h15,hd⟩))]at hv
     simp (disch:=first|omega|decide) only[push_cast,↓reduceIte,Nat.reduceEqDiff,hx,yfv,yew,yri,hd0,hd1,h0,ybd,he,ydz,yax,hbad0,e15,ed]
     rw[← hv]
     rfl
   by_cases h16:x.op=16
   ·have e16:(x.op=16)=True:=eq_true h16
    have e15:(x.op=15)=False:=eq_false h15
    have e14:(x.op=14)=False:=eq_false (by omega)
    have e13:(x.op=13)=False:=eq_false (by omega)
    have hef16:effF x.op=(0,0):=by rw[h16]; rfl
    by_cases hd:at' dep i=0
    ·have ed:(at' dep i=0)=True:=eq_true hd
     have hnx:ysd x (i:Int)=[]:=by simp[ysd,h16]
     have hbad:¬ yi7 x (at' dep i):=by unfold yi7; omega
     rw[if_neg hbad,hnx]at hv
     simp (disch:=first|omega|decide) only[push_cast,↓reduceIte,Nat.reduceEqDiff,hx,yfv,yew,yri,hd0,hd1,h0,ybd,he,ydz,yax,hbad0,e15,e14,e13,e16,ed,haf.symm]
     have hl:=yyc (tb [(101,ynh)] [(97,yty),(100,ytx)]) c x i hil hc4 (max (max s (at' dep i)) (yce x (at' dep i))) (yce x (at' dep i)) (by omega) (by omega) [] (by simp) dep hdk
     refine hl _ _ rfl rfl rfl rfl rfl rfl rfl rfl rfl rfl rfl (fun hn fr' st' g2 g3=>?_) (fun dp hn hdp fr' g0 g2 g4 g30 g31 g32=>?_)
     ·rw[hn]at hv
      have hv':((0,200):Int×Int)=yl8 (verL c.length c 0 (dep0 c.length) 0):=hv
      simp (disch:=first|omega|decide) only[push_cast,g2,g3]
      rw[← hv']
     ·rw[hn]at hv
      simp (disch:=first|omega|decide) only[push_cast,↓reduceIte,Nat.reduceEqDiff,g32,yax]
      refine yai (i+1,dp,max (max s (at' dep i)) (yce x (at' dep i))) ⟨by dsimp only; omega,hdp,hv⟩ (by dsimp only; omega) ?_
      simp only[push_cast,↓reduceIte,Nat.reduceLT,Nat.reduceLeDiff,g0,g2,g4,g30,g31] <;> rfl
    ·have ed:(at' dep i=0)=False:=eq_false hd
     rw[if_pos (.inr (.inr ⟨h16,hd⟩))]at hv
     simp (disch:=first|omega|decide) only[push_cast,↓reduceIte,Nat.reduceEqDiff,hx,yfv,yew,yri,hd0,hd1,h0,ybd,he,ydz,yax,hbad0,e15,e16,ed]
     rw[← hv]
     rfl
   have e15:(x.op=15)=False:=eq_false h15
   have e16:(x.op=16)=False:=eq_false h16
   by_cases h14:x.op=14
   ·have e14:(x.op=14)=True:=eq_true h14
    have e13:(x.op=13)=False:=eq_false (by omega)
    have hnx:ysd x (i:Int)=[x.n]:=by simp[ysd,h14]
    have hbad:¬ yi7 x (at' dep i):=by unfold yi7; omega
    rw[if_neg hbad,hnx]at hv
    have hp0:papp [⟨true,1,dep.map nI,false⟩,⟨false,1,insC x,false⟩] 1 8 (.slc 0 [] true) (.slc 1 [.int .i64 x.n] true)=some (.row 2 1 0 1,[⟨true,1,dep.map nI,false⟩,⟨false,1,insC x,false⟩,⟨true,1,[.int .i64 x.n],false⟩]):=(rfl)
    simp (disch:=first|omega|decide) only[push_cast,↓reduceIte,Nat.reduceEqDiff,↓Int.reduceNatCast',hx,yfv,yew,yri,hd0,hd1,h0,ybd,yg4,he,ydz,yax,hbad0,lit1,e15,e14,e13,e16,haf.symm,hp0,li1]
    have hl:=yyc (tb [(101,ynh)] [(97,yty),(100,ytx)]) c x i hil hc4 (max (max s (at' dep i)) (yce x (at' dep i))) (yce x (at' dep i)) (by omega) (by omega) [x.n] (by simp) dep hdk
    refine Ykx (st':=(⟨true,1,dep.map nI,false⟩::⟨false,1,insC x,false⟩::bufS 1 (([x.n]:List Int).map nI))) rfl ?_
    refine hl _ _ rfl rfl rfl rfl rfl rfl rfl rfl rfl rfl rfl (fun hn fr' st' g2 g3=>?_) (fun dp hn hdp fr' g0 g2 g4 g30 g31 g32=>?_)
    ·rw[hn]at hv
     have hv':((0,200):Int×Int)=yl8 (verL c.length c 0 (dep0 c.length) 0):=hv
     simp (disch:=first|omega|decide) only[push_cast,g2,g3]
     rw[← hv']
    ·rw[hn]at hv
     simp (disch:=first|omega|decide) only[push_cast,↓reduceIte,Nat.reduceEqDiff,g32,yax]
     refine yai (i+1,dp,max (max s (at' dep i)) (yce x (at' dep i))) ⟨by dsimp only; omega,hdp,hv⟩ (by dsimp only; omega) ?_
     simp only[push_cast,↓reduceIte,Nat.reduceLT,Nat.reduceLeDiff,g0,g2,g4,g30,g31] <;> rfl
   have e14:(x.op=14)=False:=eq_false h14
   by_cases h13:x.op=13
   ·have e13:(x.op=13)=True:=eq_true h13
    have hnx:ysd x (i:Int)=[x.n,(i:Int)+1]:=by simp[ysd,h13]
    have hbad:¬ yi7 x (at' dep i):=by unfold yi7; omega
    rw[if_neg hbad,hnx]at hv
    have hp0:papp [⟨true,1,dep.map nI,false⟩,⟨false,1,insC x,false⟩] 1 8 (.slc 0 [] true) (.slc 1 [.int .i64 x.n] true)=some (.row 2 1 0 1,[⟨true,1,dep.map nI,false⟩,⟨false,1,insC x,false⟩,⟨true,1,[.int .i64 x.n],false⟩]):=(rfl)
    have hp1:papp [⟨true,1,dep.map nI,false⟩,⟨false,1,insC x,false⟩,⟨true,1,[.int .i64 x.n],false⟩] 1 8 (.row 2 1 0 1) (.slc 1 [.int .i64 ((i:Int)+1)] true)=some (.row 2 2 0 2,[⟨true,1,dep.map nI,false⟩,⟨false,1,insC x,false⟩,⟨true,1,[.int .i64 x.n,.int .i64 ((i:Int)+1)],false⟩]):=(rfl)
    simp (disch:=first|omega|decide) only[push_cast,↓reduceIte,Nat.reduceEqDiff,↓Int.reduceNatCast',hx,yfv,yew,yri,hd0,hd1,h0,ybd,yg4,he,ydz,yax,hbad0,lit1,e15,e14,e13,e16,haf.symm,hp0,hp1,li2]
    have hl:=yyc (tb [(101,ynh)] [(97,yty),(100,ytx)]) c x i hil hc4 (max (max s (at' dep i)) (yce x (at' dep i))) (yce x (at' dep i)) (by omega) (by omega) [x.n,(i:Int)+1] (by simp) dep hdk
    refine Ykx (st':=(⟨true,1,dep.map nI,false⟩::⟨false,1,insC x,false⟩::bufS 1 (([x.n,(i:Int)+1]:List Int).map nI))) rfl ?_
    refine hl _ _ rfl rfl rfl rfl rfl rfl rfl rfl rfl rfl rfl (fun hn fr' st' g2 g3=>?_) (fun dp hn hdp fr' g0 g2 g4 g30 g31 g32=>?_)
    ·rw[hn]at hv
     have hv':((0,200):Int×Int)=yl8 (verL c.length c 0 (dep0 c.length) 0):=hv
     simp (disch:=first|omega|decide) only[push_cast,g2,g3]
     rw[← hv']
    ·rw[hn]at hv
     simp (disch:=first|omega|decide) only[push_cast,↓reduceIte,Nat.reduceEqDiff,g32,yax]
     refine yai (i+1,dp,max (max s (at' dep i)) (yce x (at' dep i))) ⟨by dsimp only; omega,hdp,hv⟩ (by dsimp only; omega) ?_
     simp only[push_cast,↓reduceIte,Nat.reduceLT,Nat.reduceLeDiff,g0,g2,g4,g30,g31] <;> rfl
   ·have e13:(x.op=13)=False:=eq_false h13
    have hnx:ysd x (i:Int)=[(i:Int)+1]:=by simp[ysd,h13,h14,h15,h16]
    have hbad:¬ yi7 x (at' dep i):=by unfold yi7; omega
    rw[if_neg hbad,hnx]at hv
    have hp0:papp [⟨true,1,dep.map nI,false⟩,⟨false,1,insC x,false⟩] 1 8 (.slc 0 [] true) (.slc 1 [.int .i64 ((i:Int)+1)] true)=some (.row 2 1 0 1,[⟨true,1,dep.map nI,false⟩,⟨false,1,insC x,false⟩,⟨true,1,[.int .i64 ((i:Int)+1)],false⟩]):=(rfl)
    simp (disch:=first|omega|decide) only[push_cast,↓reduceIte,Nat.reduceEqDiff,↓Int.reduceNatCast',hx,yfv,yew,yri,hd0,hd1,h0,ybd,he,ydz,yax,hbad0,lit1,e15,e14,e13,e16,haf.symm,hp0,li1]
    have hl:=yyc (tb [(101,ynh)] [(97,yty),(100,ytx)]) c x i hil hc4 (max (max s (at' dep i)) (yce x (at' dep i))) (yce x (at' dep i)) (by omega) (by omega) [(i:Int)+1] (by simp) dep hdk
    refine Ykx (st':=(⟨true,1,dep.map nI,false⟩::⟨false,1,insC x,false⟩::bufS 1 (([(i:Int)+1]:List Int).map nI))) rfl ?_
    refine hl _ _ rfl rfl rfl rfl rfl rfl rfl rfl rfl rfl rfl (fun hn fr' st' g2 g3=>?_) (fun dp hn hdp fr' g0 g2 g4 g30 g31 g32=>?_)
    ·rw[hn]at hv
     have hv':((0,200):Int×Int)=yl8 (verL c.length c 0 (dep0 c.length) 0):=hv
     simp (disch:=first|omega|decide) only[push_cast,g2,g3]
     rw[← hv']
    ·rw[hn]at hv
     simp (disch:=first|omega|decide) only[push_cast,↓reduceIte,Nat.reduceEqDiff,g32,yax]
     refine yai (i+1,dp,max (max s (at' dep i)) (yce x (at' dep i))) ⟨by dsimp only; omega,hdp,hv⟩ (by dsimp only; omega) ?_
     simp only[push_cast,↓reduceIte,Nat.reduceLT,Nat.reduceLeDiff,g0,g2,g4,g30,g31] <;> rfl
  ·obtain rfl:i=c.length:=by omega
   rw[List.drop_length,verL]at hv
   rw[← hv]
   by_cases h6:64<s
   ·rw[show yl8 (some s)=(0,2)from if_pos h6]
    simp (disch:=first|omega|decide) only[push_cast,↓reduceIte,Nat.reduceEqDiff,h6]
   ·rw[show yl8 (some s)=(s,0)from if_neg h6]
    simp (disch:=first|omega|decide) only[push_cast,↓reduceIte,Nat.reduceEqDiff,h6]
set_option maxRecDepth 20000 in
theorem Yjz:Contract Tryz.prog GG 47 yEd:=
 yac (T:=tb [(101,ynh)] [(97,yty),(100,ytx)]) yyh (yao (all_cons Yvh all_nil) (all_cons Yva (all_cons Yu6 all_nil))) (fun a h=>Yq5 a h)
def yb5(v:Int×List Int)(p f t c:Int)(S:D)(b:Int):List D:=evC v++[.int .i64 p,.int .i64 f,.int .i64 t,.int .i64 c,S,.int .i64 b]
def vOK(v:Int×List Int):Prop:=v.2.length=16
theorem ybi{v:Int×List Int}(hv:vOK v):(evC v).length=17:=by simp[evC,show v.2.length=16 from hv]
section
variable {v:Int×List Int} (hv:vOK v) (lent:Bool) (p f t c:Int) (S:D) (b:Int)
include hv
theorem Yjh:ldO (some ⟨false,1,yb5 v p f t c S b,lent⟩) 1 false 17=some (.int .i64 p):=ycs (A:=evC v) rfl (ybi hv)
theorem yg3:ldO (some ⟨false,1,yb5 v p f t c S b,lent⟩) 1 false 21=some S:=ycs (A:=evC v++[.int .i64 p,.int .i64 f,.int .i64 t,.int .i64 c]) (by simp[yb5]; rfl) (by simp[ybi hv])
theorem yzy:ldO (some ⟨false,1,yb5 v p f t c S b,lent⟩) 1 false 22=some (.int .i64 b):=ycs (A:=evC v++[.int .i64 p,.int .i64 f,.int .i64 t,.int .i64 c,S]) (C:=[]) (by simp[yb5]) (by simp[ybi hv])
omit hv in
theorem Yfy:ldO (some ⟨false,1,yb5 v p f t c S b,lent⟩) 1 false 0=some (.int .i64 v.1):=ycs (A:=[]) (C:=v.2.map nI++[.int .i64 p,.int .i64 f,.int .i64 t,.int .i64 c,S,.int .i64 b]) (by simp[yb5,evC]) rfl
theorem ldm_v(i:Nat)(h:i<16):ldO (some ⟨false,1,yb5 v p f t c S b,lent⟩) 1 false (1+i)=some (.int .i64 (at' v.2 i)):=by
 have hi:i<v.2.length:=by rw[show v.2.length=16 from hv]; exact h
 have e:v.2=v.2.take i++(at' v.2 i::v.2.drop (i+1)):=by
  rw[at',← yus v.2 hi,List.take_append_drop]
 refine ycs (A:=.int .i64 v.1::(v.2.take i).map nI) (C:=(v.2.drop (i+1)).map nI++[.int .i64 p,.int .i64 f,.int .i64 t,.int .i64 c,S,.int .i64 b]) ?_ (by simp; omega)
 have e2:=congrArg (List.map nI) e
 rw[List.map_append,List.map_cons]at e2
 simp only[yb5,evC]
 rw[e2]
 simp[nI]
theorem Ym5:ldO (some ⟨false,1,yb5 v p f t c S b,lent⟩) 5 true 17=some (.agg [.int .i64 p,.int .i64 f,.int .i64 t,.int .i64 c,S]):=yj7 (A:=evC v) (B:=[.int .i64 p,.int .i64 f,.int .i64 t,.int .i64 c,S]) (C:=[.int .i64 b]) (by simp[yb5]) (ybi hv) rfl
theorem yN1(p':Int):stO (some ⟨false,1,yb5 v p f t c S b,false⟩) 1 17 (.int .i64 p')=some ⟨false,1,yb5 v p' f t c S b,false⟩:=ygx (A:=evC v) (B:=[.int .i64 p]) (C:=[.int .i64 f,.int .i64 t,.int .i64 c,S,.int .i64 b]) (xs:=[.int .i64 p']) rfl rfl (ybi hv) rfl rfl rfl rfl
theorem Yrz(t':Int):stO (some ⟨false,1,yb5 v p f t c S b,false⟩) 1 19 (.int .i64 t')=some ⟨false,1,yb5 v p f t' c S b,false⟩:=ygx (A:=evC v++[.int .i64 p,.int .i64 f]) (B:=[.int .i64 t]) (C:=[.int .i64 c,S,.int .i64 b]) (xs:=[.int .i64 t']) (by simp[yb5]) (by simp[yb5]) (by simp[ybi hv]) rfl rfl rfl rfl
theorem Yry(c':Int):stO (some ⟨false,1,yb5 v p f t c S b,false⟩) 1 20 (.int .i64 c')=some ⟨false,1,yb5 v p f t c' S b,false⟩:=ygx (A:=evC v++[.int .i64 p,.int .i64 f,.int .i64 t]) (B:=[.int .i64 c]) (C:=[S,.int .i64 b]) (xs:=[.int .i64 c']) (by simp[yb5]) (by simp[yb5]) (by simp[ybi hv]) rfl rfl rfl rfl
theorem Ylh(sz:Nat)(els:List D)(tt:Bool):stO (some ⟨false,1,yb5 v p f t c S b,false⟩) 1 21 (.slc sz els tt)=some ⟨false,1,yb5 v p f t c (.slc sz els tt) b,false⟩:=ygx (A:=evC v++[.int .i64 p,.int .i64 f,.int .i64 t,.int .i64 c]) (B:=[S]) (C:=[.int .i64 b]) (xs:=[.slc sz els tt]) (by simp[yb5]) (by simp[yb5]) (by simp[ybi hv]) rfl rfl rfl rfl
theorem Yli(k to of ln:Nat):stO (some ⟨false,1,yb5 v p f t c S b,false⟩) 1 21 (.row k to of ln)=some ⟨false,1,yb5 v p f t c (.row k to of ln) b,false⟩:=ygx (A:=evC v++[.int .i64 p,.int .i64 f,.int .i64 t,.int .i64 c]) (B:=[S]) (C:=[.int .i64 b]) (xs:=[.row k to of ln]) (by simp[yb5]) (by simp[yb5]) (by simp[ybi hv]) rfl rfl rfl rfl
end
theorem yIq{v v':Int×List Int}(hv:vOK v)(hv':vOK v'){p f t c b p' f' t' c' b':Int}{S S':D}(h:yb5 v p f t c S b=yb5 v' p' f' t' c' S' b'):v=v'∧p=p'∧f=f'∧t=t'∧c=c'∧S=S'∧b=b':=by
 unfold yb5 at h
 obtain⟨h1,h2⟩:=List.append_inj h ((ybi hv).trans (ybi hv').symm)
 simp only[List.cons.injEq,D.int.injEq,true_and,and_true]at h2
 refine⟨?_,h2⟩
 have:evD v=evD v':=by rw[evD,evD,h1]
 exact yh2.1 this
def mset(st:St)(key:Nat)(C:List D):St:=st.set key ⟨false,1,C,false⟩
theorem ysf(st:St)(key:Nat)(C:List D):(mset st key C).length=st.length:=List.length_set
theorem yg0{st:St}{key:Nat}(h:key<st.length)(C:List D):(mset st key C)[key]?=some ⟨false,1,C,false⟩:=by simp[mset,h]
theorem ybz(st:St)(key:Nat)(C:List D):List.set st key (⟨false,1,C,false⟩:PI.Obj)=mset st key C:=(rfl)
theorem yd1(st:St)(key:Nat)(C C':List D):mset (mset st key C) key C'=mset st key C':=by simp[mset]
theorem ybo{st:St}{key:Nat}(h:key<st.length)(m:St)(C:List D):mset (st++m) key C=mset st key C++m:=by
 unfold mset; exact List.set_append_left _ _ h
theorem yc7{st:St}{key:Nat}(h:key<st.length)(m:St):(st++m)[key]?=st[key]?:=List.getElem?_append_left h
theorem ynq{st:St}{key:Nat}(h:key<st.length)(C:List D)(m:St):(mset st key C++m)[key]?=some ⟨false,1,C,false⟩:=by
 rw[yc7 (by rw[ysf]; exact h),yg0 h]
theorem yf5{st:St}{key:Nat}(h:key<st.length)(m:St)(C C':List D):mset (mset st key C++m) key C'=mset st key C'++m:=by
 rw[ybo (by rw[ysf]; exact h),yd1]
theorem yi4(st:St)(o:PI.Obj):(st++[o]).length=st.length+1:=by simp
def yd2(st:St)(key:Nat)(v:Int×List Int)(p f t c:Int)(S:D)(b:Int):Prop:=st[key]?=some ⟨false,1,yb5 v p f t c S b,false⟩
theorem yee{st:St}{key:Nat}{v:Int×List Int}{p f t c:Int}{S:D}{b:Int}(h:yd2 st key v p f t c S b):key<st.length:=(List.getElem?_eq_some_iff.1 h).1
theorem yhz{st:St}{key:Nat}{v:Int×List Int}{p f t c:Int}{S:D}{b:Int}(h:yd2 st key v p f t c S b)(m:St):yd2 (st++m) key v p f t c S b:=by
 unfold yd2; rw[yc7 (yee h)]; exact h
theorem yvx{st:St}{key:Nat}{v v':Int×List Int}{p f t c b p' f' t' c' b':Int}{S S':D}(hv:vOK v)(hv':vOK v')(h:yd2 st key v p f t c S b)(h':yd2 st key v' p' f' t' c' S' b'):v=v'∧p=p'∧f=f'∧t=t'∧c=c'∧S=S'∧b=b':=by
 unfold yd2 at h h'
 rw[h]at h'
 simp only[Ywe,PI.Obj.mk.injEq,true_and,and_true]at h'
 exact yIq hv hv' h'
theorem yad(st:St)(key off:Nat):Ymo st (.ptr key off)=some (.ptr key off):=(rfl)
def topF(l:List Int)(i:Nat):Int:=at' l (l.length - 1 - i)
def topR(ds:List D)(os:List (Option (Bool×Nat×List D)))(d:D):Prop:=∃ (key:Nat) (v:Int×List Int) (p f t c:Int) (l:List Int) (b:Int) (i:Nat),vOK v∧i<l.length∧l.length≤4294967296∧ds=[.ptr key 0,.int .i64 (i:Int)]∧os=[some (false,1,yb5 v p f t c (ybq l) b)]∧d=.int .i64 (topF l i)
noncomputable def ymb:List D→List (Option (Bool×Nat×List D))→Option D:=fun ds os=>@dite _ (∃ d,topR ds os d) (Classical.propDecidable _) (fun h=>some h.choose) (fun _=>none)
theorem Yc9{ds:List D}{os:List (Option (Bool×Nat×List D))}{d d':D}(h:topR ds os d)(h':topR ds os d'):d=d':=by
 obtain⟨key,v,p,f,t,c,l,b,i,hv,_,_,rfl,rfl,rfl⟩:=h
 obtain⟨key',v',p',f',t',c',l',b',i',hv',_,_,h1,h2,rfl⟩:=h'
 simp only[List.cons.injEq,D.int.injEq,true_and,and_true,Int.ofNat_inj,Ywe,Ywg]at h1 h2
 obtain⟨_,rfl⟩:=h1
 obtain⟨_,_,_,_,_,h3,_⟩:=yIq hv hv' h2
 rw[ymq.1 h3]
theorem yVm{ds:List D}{os:List (Option (Bool×Nat×List D))}{d:D}(h:topR ds os d):ymb ds os=some d:=by
 have hx:∃ d,topR ds os d:=⟨d,h⟩
 unfold ymb
 rw[dif_pos hx,Yc9 hx.choose_spec h]
theorem yQ5{ds:List D}{os:List (Option (Bool×Nat×List D))}{d:D}(h:ymb ds os=some d):topR ds os d:=by
 unfold ymb at h
 split at h
 ·rename_i hx
  simp only[Ywe]at h
  rw[← h]; exact hx.choose_spec
 ·cases h
theorem yx6{st:St}{key:Nat}{v:Int×List Int}{p f t c:Int}{l:List Int}{b:Int}(hv:vOK v)(h:yd2 st key v p f t c (ybq l) b)(i:Nat)(hi:i<l.length)(hl:l.length≤4294967296):yfr ymb [.ptr key 0,.int .i64 (i:Int)] st=some (.int .i64 (topF l i)):=by
 unfold yfr
 have e:([D.ptr key 0,.int .i64 (i:Int)]).flatMap hk=[key]:=rfl
 unfold yd2 at h
 rw[e]
 simp only[List.all_cons,List.all_nil,Bool.and_true,h,Option.isSome_some,if_true,sees,Option.map_some,PI.Obj.see]
 exact yVm ⟨key,v,p,f,t,c,l,b,i,hv,hi,hl,rfl,rfl,rfl⟩
theorem Ydx{st:St}{key:Nat}{r:Bool×Nat×List D}(h:sees st [key]=[some r]):∃ lent,st[key]?=some ⟨r.1,r.2.1,r.2.2,lent⟩:=by
 simp only[sees,List.cons.injEq,and_true]at h
 cases hk:st[key]? with
 |none=>simp[hk]at h
 |some o=>
  rw[hk]at h
  simp only[Option.map_some,Ywe,PI.Obj.see]at h
  subst h
  exact⟨o.lent,rfl⟩
set_option maxHeartbeats 4000000 in
set_option maxRecDepth 20000 in
theorem Yam:IContract Tryz.prog GG 197 (fun ds st=>(yfr ymb ds st).map (·,st)):=by
 refine yaj (T:=tb [] []) ys6 (yao all_nil all_nil) ?_
 intro ds st r hr
 simp only[Ywf]at hr
 obtain⟨d,hd,rfl⟩:=hr
 unfold yfr at hd
 split at hd
 case isFalse=>cases hd
 obtain⟨key,v,p,f,t,c,l,b,i,hv,hi,hl,rfl,h2,rfl⟩:=yQ5 hd
 obtain⟨lent,hk⟩:=Ydx h2
 dsimp only at hk
 have hx:yfx st 1 (ybq l) (.int .i64 ((l.length:Int) - 1 - (i:Int)))=some (.eptr (nI (topF l i)) 0):=by
  have:=yPp st l false (l.length - 1 - i) (by omega)
  rw[show((l.length - 1 - i:Nat):Int)=(l.length:Int) - 1 - (i:Int) by omega]at this
  exact this
 have hle:lenD st false (ybq l)=some (.int .i64 (l.length:Int)):=by simp[lenD,ypx,ybq,sLen]
 unfold ym1
 simp (disch:=first|omega|decide) only[push_cast,↓reduceIte,Nat.reduceEqDiff,Nat.reduceAdd,yad,hk,yg3 hv,hle,ydz,hx,yOn]
def yvs:Option Int→D
 |none=>.slc 0 [] true
 |some a=>.slc 1 [.int .i64 a] true
def stkD(n:Nat)(l:List Int)(k:Nat):Option Int→D
 |none=>.slc (nz 1 (l.map nI)) ((l.take (l.length - k)).map nI) true
 |some _=>.row n (l.length - k+1) 0 (l.length - k+1)
def stkO(l:List Int)(k:Nat):Option Int→St
 |none=>[]
 |some a=>[⟨true,1,(l.take (l.length - k)++[a]).map nI,false⟩]
def popR(ds:List D)(st:St)(r:D×St):Prop:=∃ (key:Nat) (v:Int×List Int) (p f t c:Int) (l:List Int) (b:Int) (k:Nat) (push:Option Int),vOK v∧yd2 st key v p f t c (ybq l) b∧k≤l.length∧l.length≤100000∧-1000000≤p∧p≤1000000∧
 ds=[.ptr key 0,.int .i64 (k:Int),yvs push]∧r=(.int .i64 0,mset st key (yb5 v (p+1) f t c (stkD st.length l k push) b)++stkO l k push)
noncomputable def ywl:List D→St→Option (D×St):=relI popR
theorem yWr{a b:Option Int}(h:yvs a=yvs b):a=b:=by
 cases a <;> cases b <;> simp_all [yvs]
theorem Ymc:Fun1 popR:=by
 rintro ds st r r' ⟨key,v,p,f,t,c,l,b,k,push,hv,hm,_,_,_,_,rfl,rfl⟩ ⟨key',v',p',f',t',c',l',b',k',push',hv',hm',_,_,_,_,h,rfl⟩
 simp only[List.cons.injEq,D.ptr.injEq,D.int.injEq,true_and,and_true,Int.ofNat_inj]at h
 obtain⟨rfl,rfl,h3⟩:=h
 obtain rfl:=yWr h3
 obtain⟨rfl,rfl,rfl,rfl,rfl,h4,rfl⟩:=yvx hv hv' hm hm'
 rw[ymq.1 h4]
theorem Yht{st:St}{key:Nat}{v:Int×List Int}{p f t c:Int}{l:List Int}{b:Int}(hv:vOK v)(hm:yd2 st key v p f t c (ybq l) b)(k:Nat)(push:Option Int)(hk:k≤l.length)(hl:l.length≤100000)(hp0:-1000000≤p)(hp1:p≤1000000) :
  ywl [.ptr key 0,.int .i64 (k:Int),yvs push] st=some (.int .i64 0,mset st key (yb5 v (p+1) f t c (stkD st.length l k push) b)++stkO l k push):=
 yhx Ymc ⟨key,v,p,f,t,c,l,b,k,push,hv,hm,hk,hl,hp0,hp1,rfl,rfl⟩
set_option maxHeartbeats 4000000 in
set_option maxRecDepth 20000 in
theorem yJ0:IContract Tryz.prog GG 195 ywl:=by
 refine yaj (T:=tb [] []) ys7 (yao all_nil all_nil) ?_
 intro ds st r hr
 obtain⟨key,v,p,f,t,c,l,b,k,push,hv,hm,hk,hl,hp0,hp1,rfl,rfl⟩:=yca hr
 have hlt:=yee hm
 unfold yd2 at hm
 have hle:lenD st false (ybq l)=some (.int .i64 (l.length:Int)):=by simp[lenD,ypx,ybq,sLen]
 have hsl:yc6 st 1 (ybq l) none (some (.int .i64 ((l.length:Int) - (k:Int)))) (some (.int .i64 ((l.length:Int) - (k:Int))))=some (.slc (nz 1 (l.map nI)) ((l.take (l.length - k)).map nI) true):=by
  have:=Ysb st l false (k:=l.length - k) (by omega)
  rwa [show((l.length - k:Nat):Int)=(l.length:Int) - (k:Int) by omega]at this
 have htl:(l.take (l.length - k)).length=l.length - k:=by rw[List.length_take]; omega
 unfold ym2
 cases push with
 |none=>
  have happ:papp st 1 8 (.slc (nz 1 (l.map nI)) ((l.take (l.length - k)).map nI) true) (.slc 0 [] true)=some (.slc (nz 1 (l.map nI)) ((l.take (l.length - k)).map nI) true,st):=yIi st 1 8 _ 0 _ true (by decide)
  simp (disch:=first|omega|decide) only[push_cast,↓reduceIte,Nat.reduceEqDiff,Nat.reduceAdd,yvs,yad,hm,yg3 hv,Yjh hv,hle,ydz,hsl,happ,Ylh hv,yN1 hv,ybz,yg0 hlt,yd1,yax,stkD,stkO]
 |some a=>
  have happ:papp st 1 8 (.slc (nz 1 (l.map nI)) ((l.take (l.length - k)).map nI) true) (.slc 1 [.int .i64 a] true)=some (.row st.length (l.length - k+1) 0 (l.length - k+1),st++[⟨true,1,(l.take (l.length - k)++[a]).map nI,false⟩]):=by
   have:=yOw st 1 8 (nz 1 (l.map nI)) ((l.take (l.length - k)).map nI) (.slc 1 [.int .i64 a] true) [.int .i64 a] 1 rfl (.inl rfl) (by
    cases l with
    |nil=>right; simp
    |cons x r=>left; rfl) (by decide) (by simp) (by simp[htl]; omega) (by simp[htl]; omega)
   rw[this]
   simp[nI]
  simp (disch:=first|omega|decide) only[push_cast,↓reduceIte,Nat.reduceEqDiff,Nat.reduceAdd,yvs,yad,hm,yg3 hv,Yjh hv,hle,ydz,hsl,happ,yc7 hlt,Yli hv,yN1 hv,ybz,ybo hlt,ynq hlt,yf5 hlt,yax,stkD,stkO]
def binF(op a b:Int):Int×Int:=
 if op=3 then addF a b else if op=4 then subF a b else if op=5 then mulF a b else if op=6 then(min a b,0)else if op=7 then(max a b,0)else
 if op=8 then divF a b 8 else if op=9 then divF a b 9 else if op=10 then divF a b 10 else if op=11 then(if a<b then 1 else 0,0)else(0,0)
noncomputable def yxk:List D→Option D:=spOf (α:=Bool) (fun a=>[.bool a]) (fun a=>True) (fun a=>.int .i64 (if a=true then 1 else 0))
theorem yDb(x:Bool):yxk [.bool x]=some (.int .i64 (if x=true then 1 else 0)):=
 yae (fun a b h=>by simp only[List.cons.injEq,D.bool.injEq,and_true]at h; simp[h]) (x) trivial
theorem Ykb(x:Bool):@wW GG (tb [] []) yoc.code (argF [.bool x]) [] ⟨retQ yoc.res (.int .i64 (if x=true then 1 else 0))⟩:=by
 unfold yoc
 cases x <;> simp (disch:=first|omega|decide) only[push_cast,↓reduceIte,Nat.reduceEqDiff]
theorem Ybi:Contract Tryz.prog GG 196 yxk:=
 yac yG5 (yao all_nil all_nil) (fun a h=>Ykb a)
noncomputable def yEq:List D→Option D:=spOf (α:=Int×Int) (fun a=>[.int .i64 a.1,.int .i64 a.2]) (fun a=>True) (fun a=>.tup [.int .i64 (min a.1 a.2),.int .i64 0])
theorem Ybd(a:Int)(b:Int):yEq [.int .i64 a,.int .i64 b]=some (.tup [.int .i64 (min a b),.int .i64 0]):=
 yae (fun⟨a0,a1⟩ ⟨b0,b1⟩ h=>by simp only[List.cons.injEq,D.int.injEq,true_and,and_true]at h; simp[h]) (a,b) trivial
theorem Yri(a:Int)(b:Int):@wW GG (tb [] []) ygi.code (argF [.int .i64 a,.int .i64 b]) [] ⟨retQ ygi.res (.tup [.int .i64 (min a b),.int .i64 0])⟩:=by
 unfold ygi
 simp (disch:=first|omega|decide) only[push_cast,↓reduceIte,Nat.reduceEqDiff]
theorem Yvp:Contract Tryz.prog GG 234 yEq:=
 yac yve (yao all_nil all_nil) (fun a h=>Yri a.1 a.2)
noncomputable def yEp:List D→Option D:=spOf (α:=Int×Int) (fun a=>[.int .i64 a.1,.int .i64 a.2]) (fun a=>True) (fun a=>.tup [.int .i64 (max a.1 a.2),.int .i64 0])
theorem Ybc(a:Int)(b:Int):yEp [.int .i64 a,.int .i64 b]=some (.tup [.int .i64 (max a b),.int .i64 0]):=
 yae (fun⟨a0,a1⟩ ⟨b0,b1⟩ h=>by simp only[List.cons.injEq,D.int.injEq,true_and,and_true]at h; simp[h]) (a,b) trivial
theorem Yrh(a:Int)(b:Int):@wW GG (tb [] []) ygh.code (argF [.int .i64 a,.int .i64 b]) [] ⟨retQ ygh.res (.tup [.int .i64 (max a b),.int .i64 0])⟩:=by
 unfold ygh
 simp (disch:=first|omega|decide) only[push_cast,↓reduceIte,Nat.reduceEqDiff]
theorem Yvo:Contract Tryz.prog GG 235 yEp:=
 yac yvd (yao all_nil all_nil) (fun a h=>Yrh a.1 a.2)
noncomputable def yEo:List D→Option D:=spOf (α:=Int×Int) (fun a=>[.int .i64 a.1,.int .i64 a.2]) (fun a=>True) (fun a=>.tup [.int .i64 (divF a.1 a.2 8).1,.int .i64 (divF a.1 a.2 8).2])
theorem Ybb(a:Int)(b:Int):yEo [.int .i64 a,.int .i64 b]=some (.tup [.int .i64 (divF a b 8).1,.int .i64 (divF a b 8).2]):=
 yae (fun⟨a0,a1⟩ ⟨b0,b1⟩ h=>by simp only[List.cons.injEq,D.int.injEq,true_and,and_true]at h; simp[h]) (a,b) trivial
theorem Yrg(a:Int)(b:Int):@wW GG (tb [(237,ytn)] []) ygg.code (argF [.int .i64 a,.int .i64 b]) [] ⟨retQ ygg.res (.tup [.int .i64 (divF a b 8).1,.int .i64 (divF a b 8).2])⟩:=by
 unfold ygg
 simp (disch:=first|omega|decide) only[push_cast,↓reduceIte,Nat.reduceEqDiff,ywc a b 8 (.inl rfl)]
theorem Yvn:Contract Tryz.prog GG 236 yEo:=
 yac yvc (yao (all_cons yNf all_nil) all_nil) (fun a h=>Yrg a.1 a.2)
noncomputable def yEn:List D→Option D:=spOf (α:=Int×Int) (fun a=>[.int .i64 a.1,.int .i64 a.2]) (fun a=>True) (fun a=>.tup [.int .i64 (divF a.1 a.2 9).1,.int .i64 (divF a.1 a.2 9).2])
theorem Yba(a:Int)(b:Int):yEn [.int .i64 a,.int .i64 b]=some (.tup [.int .i64 (divF a b 9).1,.int .i64 (divF a b 9).2]):=
 yae (fun⟨a0,a1⟩ ⟨b0,b1⟩ h=>by simp only[List.cons.injEq,D.int.injEq,true_and,and_true]at h; simp[h]) (a,b) trivial
theorem Yrf(a:Int)(b:Int):@wW GG (tb [(237,ytn)] []) ygf.code (argF [.int .i64 a,.int .i64 b]) [] ⟨retQ ygf.res (.tup [.int .i64 (divF a b 9).1,.int .i64 (divF a b 9).2])⟩:=by
 unfold ygf
 simp (disch:=first|omega|decide) only[push_cast,↓reduceIte,Nat.reduceEqDiff,ywc a b 9 (.inr (.inl rfl))]
theorem Yvm:Contract Tryz.prog GG 238 yEn:=
 yac yvb (yao (all_cons yNf all_nil) all_nil) (fun a h=>Yrf a.1 a.2)
noncomputable def yEm:List D→Option D:=spOf (α:=Int×Int) (fun a=>[.int .i64 a.1,.int .i64 a.2]) (fun a=>True) (fun a=>.tup [.int .i64 (divF a.1 a.2 10).1,.int .i64 (divF a.1 a.2 10).2])
theorem Ya9(a:Int)(b:Int):yEm [.int .i64 a,.int .i64 b]=some (.tup [.int .i64 (divF a b 10).1,.int .i64 (divF a b 10).2]):=
 yae (fun⟨a0,a1⟩ ⟨b0,b1⟩ h=>by simp only[List.cons.injEq,D.int.injEq,true_and,and_true]at h; simp[h]) (a,b) trivial
theorem Yre(a:Int)(b:Int):@wW GG (tb [(237,ytn)] []) yge.code (argF [.int .i64 a,.int .i64 b]) [] ⟨retQ yge.res (.tup [.int .i64 (divF a b 10).1,.int .i64 (divF a b 10).2])⟩:=by
 unfold yge
 simp (disch:=first|omega|decide) only[push_cast,↓reduceIte,Nat.reduceEqDiff,ywc a b 10 (.inr (.inr rfl))]
theorem Yvl:Contract Tryz.prog GG 239 yEm:=
 yac yva (yao (all_cons yNf all_nil) all_nil) (fun a h=>Yre a.1 a.2)
noncomputable def yEl:List D→Option D:=spOf (α:=Int×Int) (fun a=>[.int .i64 a.1,.int .i64 a.2]) (fun a=>True) (fun a=>.tup [.int .i64 (if a.1<a.2 then 1 else 0),.int .i64 0])
theorem Ya8(a:Int)(b:Int):yEl [.int .i64 a,.int .i64 b]=some (.tup [.int .i64 (if a<b then 1 else 0),.int .i64 0]):=
 yae (fun⟨a0,a1⟩ ⟨b0,b1⟩ h=>by simp only[List.cons.injEq,D.int.injEq,true_and,and_true]at h; simp[h]) (a,b) trivial
theorem Yrd(a:Int)(b:Int):@wW GG (tb [(196,yxk)] []) ygd.code (argF [.int .i64 a,.int .i64 b]) [] ⟨retQ ygd.res (.tup [.int .i64 (if a<b then 1 else 0),.int .i64 0])⟩:=by
 unfold ygd
 have hc:=yDb (decide (a<b))
 by_cases h:a<b
 ·rw[decide_eq_true h]at hc
  simp (disch:=first|omega|decide) only[push_cast,↓reduceIte,Nat.reduceEqDiff,h,hc]
 ·rw[decide_eq_false h]at hc
  simp (disch:=first|omega|decide) only[push_cast,↓reduceIte,Nat.reduceEqDiff,h,hc]
theorem Yvk:Contract Tryz.prog GG 240 yEl:=
 yac yu9 (yao (all_cons Ybi all_nil) all_nil) (fun a h=>Yrd a.1 a.2)
theorem ygz{sp:List D→Option D}{a b x y:Int}(h:sp [.int .i64 a,.int .i64 b]=some (.tup [.int .i64 x,.int .i64 y]))(st:St):yfs sp [.int .i64 a,.int .i64 b] st=some (.tup [.int .i64 x,.int .i64 y],st):=by
 have h1:imms st [.int .i64 a,.int .i64 b]=some [.int .i64 a,.int .i64 b]:=(rfl)
 simp only[yfs,h1,h]
 rfl
def ynp(op:Int):Int:=if op=12∨op=13∨op=15 then 1 else if 3≤op∧op≤11 then 2 else 0
theorem Yun(op:Int)(h:3≤op∧op≤11):∃ f,yem op binA=some f:=by
 obtain⟨h1,h2⟩:=h
 have:op=3∨op=4∨op=5∨op=6∨op=7∨op=8∨op=9∨op=10∨op=11:=by omega
 rcases this with rfl | rfl | rfl | rfl | rfl | rfl | rfl | rfl | rfl <;> exact⟨_,rfl⟩
theorem Yol(op:Int)(h:¬ (3≤op∧op≤11)):yem op binA=none:=by
 simp only[binA,yem]
 rw[if_neg (by omega),if_neg (by omega),if_neg (by omega),if_neg (by omega),if_neg (by omega),if_neg (by omega),if_neg (by omega),if_neg (by omega),if_neg (by omega)]
theorem yFj(st:St)(op:Int)(ok:Bool)(zero:D):yd0 st 0 [] ok zero (.gmap binA) (.int .i64 op)=some (match yem op binA with
  |some f=>if ok then .tup [.agg [.clo f []],.bool true]else .agg [.clo f []]
  |none=>if ok then .tup [zero,.bool false]else zero):=(rfl)
theorem Yj3:boxD (.agg [.nilf])=some [.nilf]:=(rfl)
theorem st_nf(f:Nat):stO (some ⟨false,1,[.nilf],false⟩) 1 0 (.agg [.clo f []])=some ⟨false,1,[.clo f []],false⟩:=(rfl)
theorem st_nn:stO (some ⟨false,1,[.nilf],false⟩) 1 0 (.agg [.nilf])=some ⟨false,1,[.nilf],false⟩:=(rfl)
theorem ypp(st:St):yde st 1 false (.eptr (.gmap binA) 0)=some (.gmap binA):=(rfl)
noncomputable def yxm:List D→Option D:=spOf (α:=Int) (fun a=>[.int .i64 a]) (fun a=>True) (fun a=>.int .i64 (ynp a))
theorem yDd(op:Int):yxm [.int .i64 op]=some (.int .i64 (ynp op)):=
 yae (fun a b h=>by simp only[List.cons.injEq,D.int.injEq,true_and,and_true]at h; simp[h]) (op) trivial
theorem Ykf(op:Int):@wW GG (tb [] []) yoe.code (argF [.int .i64 op]) [] ⟨retQ yoe.res (.int .i64 (ynp op))⟩:=by
 unfold yoe ynp
 by_cases h1:op=12
 ·subst h1; simp (disch:=first|omega|decide) only[push_cast,↓reduceIte,Nat.reduceEqDiff,true_or]
 ·by_cases h2:op=13
  ·subst h2; simp (disch:=first|omega|decide) only[push_cast,↓reduceIte,Nat.reduceEqDiff,h1,true_or,or_true]
  ·by_cases h3:op=15
   ·subst h3; simp (disch:=first|omega|decide) only[push_cast,↓reduceIte,Nat.reduceEqDiff,h1,h2,or_true]
   ·have hn:¬ (op=12∨op=13∨op=15):=by omega
    rw[if_neg hn]
    by_cases h4:3≤op∧op≤11
    ·obtain⟨f,hf⟩:=Yun op h4
     have hg:=yFj [] op true (.agg [.nilf])
     rw[hf]at hg
     simp (disch:=first|omega|decide) only[push_cast,↓reduceIte,Nat.reduceEqDiff,h1,h2,h3,h4,yo7 _ _ _ _ GG_b,ypp,hg,Yj3,st_nf]
    ·have hf:=Yol op h4
     have hg:=yFj [] op true (.agg [.nilf])
     rw[hf]at hg
     simp (disch:=first|omega|decide) only[push_cast,↓reduceIte,Nat.reduceEqDiff,h1,h2,h3,h4,yo7 _ _ _ _ GG_b,ypp,hg,Yj3,st_nn]
theorem Ybk:Contract Tryz.prog GG 109 yxm:=
 yac yG7 (yao all_nil all_nil) (fun a h=>Ykf a)
inductive Out where
 |err (e:Int)
 |pop (k:Nat) (push:Option Int) (pc:Option Int)
 |set (p t c:Int)
def andI(a b:Int):Int:=IntKind.wrap .i64 ((BitVec.ofInt 64 a &&& BitVec.ofInt 64 b).toNat:Int)
def bitI(n:Int):Int:=IntKind.wrap .i64 (1*2 ^ (min n.toNat 64))
def topS(s:Sta)(i:Nat):Int:=topF s.stack i
def outF(v:Int×List Int)(b:Int)(s:Sta)(x:Ins):Out:=
 if x.op=1 then(if 64≤b+s.stack.length then .err 200 else .pop 0 (some x.n) none)
 else if x.op=2 then(if 64≤b+s.stack.length then .err 200 else if andI v.1 (bitI x.n)=0 then .err 181 else if at' v.2 x.n.toNat < -9007199254740992∨9007199254740992<at' v.2 x.n.toNat then .err 3 else .pop 0 (some (at' v.2 x.n.toNat)) none)
 else if x.op=12 then .pop 1 (some (if x.n≤topS s 0∧topS s 0≤x.m then 1 else 0)) none
 else if x.op=13 then .pop 1 none (if topS s 0=0 then some x.n else none)
 else if x.op=14 then .set x.n s.status s.clause
 else if x.op=15 then .set s.pc 1 x.n
 else if x.op=16 then .err 180
 else if(binF x.op (topS s 1) (topS s 0)).2=0 then .pop 2 (some (binF x.op (topS s 1) (topS s 0)).1) none else .err (binF x.op (topS s 1) (topS s 0)).2
def outR(st:St)(key:Nat)(v:Int×List Int)(b:Int)(s:Sta)(x:Ins):Out→D×St
 |.err e=>(.int .i64 e,st++[⟨false,1,insC x,false⟩])
 |.pop k push pc=>(.int .i64 0,mset st key (yb5 v (pc.getD (s.pc+1)) s.fuel s.status s.clause (stkD (st.length+1) s.stack k push) b)++[⟨false,1,insC x,false⟩]++stkO s.stack k push)
 |.set p t c=>(.int .i64 0,mset st key (yb5 v p s.fuel t c (ybq s.stack) b)++[⟨false,1,insC x,false⟩])
structure mOK (v:Int×List Int) (b:Int) (s:Sta) (x:Ins):Prop where
 v:vOK v
 b0:0≤b
 b1:b≤64
 l:s.stack.length≤64
 p0:0≤s.pc
 p1:s.pc≤100000
 f:ybg x=true
 n:ynp x.op≤s.stack.length
def mthR(P:Int→Prop)(ds:List D)(st:St)(r:D×St):Prop:=∃ (key:Nat) (v:Int×List Int) (b:Int) (s:Sta) (x:Ins),mOK v b s x∧P x.op∧yd2 st key v s.pc s.fuel s.status s.clause (ybq s.stack) b∧ds=[.ptr key 0,insD x]∧r=outR st key v b s x (outF v b s x)
noncomputable def yhm(P:Int→Prop):List D→St→Option (D×St):=relI (mthR P)
theorem Ymr(P:Int→Prop):Fun1 (mthR P):=by
 rintro ds st r r' ⟨key,v,b,s,x,hm,_,hk,rfl,rfl⟩ ⟨key',v',b',s',x',hm',_,hk',h,rfl⟩
 simp only[List.cons.injEq,D.ptr.injEq,and_true,yq0]at h
 obtain⟨rfl,rfl⟩:=h
 obtain⟨rfl,h1,h2,h3,h4,h5,rfl⟩:=yvx hm.v hm'.v hk hk'
 have h6:=ymq.1 h5
 obtain⟨a1,a2,a3,a4,a5⟩:=s
 obtain⟨b1,b2,b3,b4,b5⟩:=s'
 dsimp only at h1 h2 h3 h4 h6
 subst h1; subst h2; subst h3; subst h4; subst h6
 rfl
theorem Yhu{P:Int→Prop}{st:St}{key:Nat}{v:Int×List Int}{b:Int}{s:Sta}{x:Ins}(hm:mOK v b s x)(hp:P x.op)(hk:yd2 st key v s.pc s.fuel s.status s.clause (ybq s.stack) b):yhm P [.ptr key 0,insD x] st=some (outR st key v b s x (outF v b s x)):=
 yhx (Ymr P) ⟨key,v,b,s,x,hm,hp,hk,rfl,rfl⟩
theorem Yg1{x:Ins}(h:ybg x=true):0≤x.n∧x.n≤9007199254740992∧(x.op=2→x.n<16):=by
 have:=of_decide_eq_true h
 obtain⟨h1,h2,h3,h4,h5,h6⟩:=this
 have hm:(ypc x.op).2≤9007199254740992:=by rcases yBd x.op with e | e | e | e <;> rw[e] <;> decide
 refine⟨by omega,by omega,fun h7=>?_⟩
 have:ypc x.op=(1,15):=by rw[h7]; rfl
 rw[this]at h6
 dsimp only at h6
 omega
theorem yZo{x:Ins}(h:ybg x=true):1≤x.op∧x.op≤16:=⟨(of_decide_eq_true h).1,(of_decide_eq_true h).2.1⟩
theorem yGt(a b:Int):pbin .and (.int .i64 a) (.int .i64 b)=some (.int .i64 (andI a b)):=(rfl)
theorem yVz{n:Int}(h:0≤n):pbin .shl (.int .i64 1) (.int .i64 n)=some (.int .i64 (bitI n)):=by
 simp only[pbin,yoq,show ¬ n<0 by omega,if_false,Option.map_some,bitI]
 rfl
theorem ybp(st:St)(l:List Int):lenD st false (ybq l)=some (.int .i64 (l.length:Int)):=by simp[lenD,ypx,ybq,sLen]
theorem yqa{st:St}{key:Nat}{v:Int×List Int}{p f t c:Int}{l:List Int}{b:Int}(hv:vOK v)(hm:yd2 st key v p f t c (ybq l) b)(x:Ins)(k:Nat)(kI:Int)(hkI:kI=(k:Int))(push:Option Int)(hk:k≤l.length)(hl:l.length≤64)(hp0:0≤p)(hp1:p≤100000) :
  ywl [.ptr key 0,.int .i64 kI,yvs push] (st++[⟨false,1,insC x,false⟩])=some (.int .i64 0,mset st key (yb5 v (p+1) f t c (stkD (st.length+1) l k push) b)++[⟨false,1,insC x,false⟩]++stkO l k push):=by
 subst hkI
 have:=Yht hv (yhz hm [⟨false,1,insC x,false⟩]) k push hk (by omega) (by omega) (by omega)
 rwa [ybo (yee hm),yi4]at this
theorem Ypc:IContract Tryz.prog GG 177 (yhm (·=1)):=by
 refine yaj (T:=tb [] [(195,ywl)]) yrv (yao all_nil (all_cons yJ0 all_nil)) ?_
 intro ds st r hr
 obtain⟨key,v,b,s,x,hm,hop,hk,rfl,rfl⟩:=yca hr
 obtain⟨hv,hb0,hb1,hl,hp0,hp1,hf,hn⟩:=hm
 have hlt:=yee hk
 have hcp:=yqa hv hk x 0 0 rfl (some x.n) (Nat.zero_le _) hl hp0 hp1
 simp only[yvs]at hcp
 have hk':=hk
 unfold yd2 at hk'
 unfold ylg
 by_cases h1:64≤b+(s.stack.length:Int)
 ·rw[show outF v b s x=.err 200 by unfold outF; rw[if_pos hop,if_pos h1]]
  simp (disch:=first|omega|decide) only[push_cast,↓reduceIte,Nat.reduceEqDiff,Nat.reduceAdd,yau,yad,yc7 hlt,hk',yzy hv,yg3 hv,ybp,yax,h1,outR]
 ·rw[show outF v b s x=.pop 0 (some x.n) none by unfold outF; rw[if_pos hop,if_neg h1]]
  simp (disch:=first|omega|decide) only[push_cast,↓reduceIte,Nat.reduceEqDiff,Nat.reduceAdd,yau,yad,yc7 hlt,hk',yzy hv,yg3 hv,ybp,yax,h1,yaw,yg4,lit1,hcp,outR,Option.getD_none]
theorem Ype:IContract Tryz.prog GG 178 (yhm (·=2)):=by
 refine yaj (T:=tb [] [(195,ywl)]) yrx (yao all_nil (all_cons yJ0 all_nil)) ?_
 intro ds st r hr
 obtain⟨key,v,b,s,x,hm,hop,hk,rfl,rfl⟩:=yca hr
 obtain⟨hv,hb0,hb1,hl,hp0,hp1,hf,hn⟩:=hm
 have hlt:=yee hk
 have hk':=hk
 unfold yd2 at hk'
 obtain⟨hn0,_,hn16⟩:=Yg1 hf
 have hn16:=hn16 hop
 have hv2:v.2.length=16:=hv
 have hld:=fun lent=>ldm_v hv lent s.pc s.fuel s.status s.clause (ybq s.stack) b x.n.toNat (by omega)
 have hcp:=yqa hv hk x 0 0 rfl (some (at' v.2 x.n.toNat)) (Nat.zero_le _) hl hp0 hp1
 simp only[yvs]at hcp
 have e1:¬ x.op=1:=by omega
 unfold yli
 by_cases h1:64≤b+(s.stack.length:Int)
 ·rw[show outF v b s x=.err 200 by unfold outF; rw[if_neg e1,if_pos hop,if_pos h1]]
  simp (disch:=first|omega|decide) only[push_cast,↓reduceIte,Nat.reduceEqDiff,Nat.reduceAdd,Int.reduceNeg,yau,yad,yc7 hlt,hk',yzy hv,yg3 hv,ybp,yax,outR,h1]
 ·by_cases h2:andI v.1 (bitI x.n)=0
  ·rw[show outF v b s x=.err 181 by unfold outF; rw[if_neg e1,if_pos hop,if_neg h1,if_pos h2]]
   simp (disch:=first|omega|decide) only[push_cast,↓reduceIte,Nat.reduceEqDiff,Nat.reduceAdd,Int.reduceNeg,yau,yad,yc7 hlt,hk',yzy hv,yg3 hv,Yfy,ybp,yax,yaw,yg4,outR,h1,yVz hn0,yGt,h2]
  ·by_cases h3:at' v.2 x.n.toNat < -9007199254740992
   ·rw[show outF v b s x=.err 3 by unfold outF; rw[if_neg e1,if_pos hop,if_neg h1,if_neg h2,if_pos (.inl h3)]]
    simp (disch:=first|omega|decide) only[push_cast,↓reduceIte,Nat.reduceEqDiff,Nat.reduceAdd,Int.reduceNeg,yau,yad,yc7 hlt,hk',yzy hv,yg3 hv,Yfy,ybp,yax,yaw,yg4,outR,h1,yVz hn0,yGt,h2,yk0,hld,h3]
   ·by_cases h4:9007199254740992<at' v.2 x.n.toNat
    ·rw[show outF v b s x=.err 3 by unfold outF; rw[if_neg e1,if_pos hop,if_neg h1,if_neg h2,if_pos (.inr h4)]]
     simp (disch:=first|omega|decide) only[push_cast,↓reduceIte,Nat.reduceEqDiff,Nat.reduceAdd,Int.reduceNeg,yau,yad,yc7 hlt,hk',yzy hv,yg3 hv,Yfy,ybp,yax,yaw,yg4,outR,h1,yVz hn0,yGt,h2,yk0,hld,h3,h4]
    ·rw[show outF v b s x=.pop 0 (some (at' v.2 x.n.toNat)) none by unfold outF; rw[if_neg e1,if_pos hop,if_neg h1,if_neg h2,if_neg (by omega)]]
     simp (disch:=first|omega|decide) only[push_cast,↓reduceIte,Nat.reduceEqDiff,Nat.reduceAdd,Int.reduceNeg,yau,yad,yc7 hlt,hk',yzy hv,yg3 hv,Yfy,ybp,yax,yaw,yg4,lit1,outR,Option.getD_none,h1,yVz hn0,yGt,h2,yk0,hld,h3,h4,hcp]
theorem yTy:IContract Tryz.prog GG 179 (yhm (·=12)):=by
 refine yaj (T:=tbq [(196,yxk)] [(195,ywl)] [(197,ymb)]) yo2 (yVa (all_cons Ybi all_nil) (all_cons yJ0 all_nil) (all_cons Yam all_nil)) ?_
 intro ds st r hr
 obtain⟨key,v,b,s,x,hm,hop,hk,rfl,rfl⟩:=yca hr
 obtain⟨hv,hb0,hb1,hl,hp0,hp1,hf,hn⟩:=hm
 have hlt:=yee hk
 have hk':=hk
 unfold yd2 at hk'
 have hn1:ynp x.op=1:=by rw[hop]; rfl
 have ht:yfr ymb [.ptr key 0,.int .i64 0] (st++[⟨false,1,insC x,false⟩])=some (.int .i64 (topS s 0)):=yx6 hv (yhz hk _) 0 (by omega) (by omega)
 have hcp:=yqa hv hk x 1 1 rfl (some (if x.n≤topS s 0∧topS s 0≤x.m then 1 else 0)) (by omega) hl hp0 hp1
 simp only[yvs]at hcp
 rw[show outF v b s x=.pop 1 (some (if x.n≤topS s 0∧topS s 0≤x.m then 1 else 0)) none by unfold outF; rw[if_neg (by omega),if_neg (by omega),if_pos hop]]
 have hc:=yDb (decide (x.n≤topS s 0∧topS s 0≤x.m))
 simp only[decide_eq_true_eq]at hc
 unfold yiv
 by_cases h1:x.n≤topS s 0
 ·by_cases h2:topS s 0≤x.m
  ·have hw:(if x.n≤topS s 0∧topS s 0≤x.m then(1:Int)else 0)=1:=if_pos ⟨h1,h2⟩
   rw[hw]at hcp ⊢
   rw[decide_eq_true ⟨h1,h2⟩]at hc
   simp (disch:=first|omega|decide) only[push_cast,↓reduceIte,Nat.reduceEqDiff,yau,yaw,yg4,yMs,lit1,outR,Option.getD_none,h1,h2,ht,hc,hcp]
  ·have hw:(if x.n≤topS s 0∧topS s 0≤x.m then(1:Int)else 0)=0:=if_neg (by omega)
   rw[hw]at hcp ⊢
   rw[decide_eq_false (by omega)]at hc
   simp (disch:=first|omega|decide) only[push_cast,↓reduceIte,Nat.reduceEqDiff,yau,yaw,yg4,yMs,lit1,outR,Option.getD_none,h1,h2,ht,hc,hcp]
 ·have hw:(if x.n≤topS s 0∧topS s 0≤x.m then(1:Int)else 0)=0:=if_neg (by omega)
  rw[hw]at hcp ⊢
  rw[decide_eq_false (by omega)]at hc
  simp (disch:=first|omega|decide) only[push_cast,↓reduceIte,Nat.reduceEqDiff,yau,yaw,yg4,lit1,outR,Option.getD_none,h1,ht,hc,hcp]
theorem Ypf:IContract Tryz.prog GG 181 (yhm (·=14)):=by
 refine yaj (T:=tb [] []) yry (yao all_nil all_nil) ?_
 intro ds st r hr
 obtain⟨key,v,b,s,x,hm,hop,hk,rfl,rfl⟩:=yca hr
 obtain⟨hv,hb0,hb1,hl,hp0,hp1,hf,hn⟩:=hm
 have hlt:=yee hk
 have hk':=hk
 unfold yd2 at hk'
 rw[show outF v b s x=.set x.n s.status s.clause by unfold outF; rw[if_neg (by omega),if_neg (by omega),if_neg (by omega),if_neg (by omega),if_pos hop]]
 unfold ylj
 simp (disch:=first|omega|decide) only[push_cast,↓reduceIte,Nat.reduceEqDiff,yau,yad,yc7 hlt,hk',yaw,yg4,outR,yN1 hv,ybz,ybo hlt]
theorem Ypd:IContract Tryz.prog GG 183 (yhm (·=16)):=by
 refine yaj (T:=tb [] []) yrw (yao all_nil all_nil) ?_
 intro ds st r hr
 obtain⟨key,v,b,s,x,hm,hop,hk,rfl,rfl⟩:=yca hr
 obtain⟨hv,hb0,hb1,hl,hp0,hp1,hf,hn⟩:=hm
 have hlt:=yee hk
 have hk':=hk
 unfold yd2 at hk'
 rw[show outF v b s x=.err 180 by unfold outF; rw[if_neg (by omega),if_neg (by omega),if_neg (by omega),if_neg (by omega),if_neg (by omega),if_neg (by omega),if_pos hop]]
 unfold ylh
 simp (disch:=first|omega|decide) only[push_cast,↓reduceIte,yau,outR]
theorem Ygy(st:St)(key:Nat)(C:List D)(o:PI.Obj):(mset st key C++[o])[st.length]?=some o:=by
 have:=yaw (mset st key C) o
 rwa [ysf]at this
theorem Yo9:IContract Tryz.prog GG 180 (yhm (·=13)):=by
 refine yaj (T:=tbq [] [(195,ywl)] [(197,ymb)]) yru (yVa all_nil (all_cons yJ0 all_nil) (all_cons Yam all_nil)) ?_
 intro ds st r hr
 obtain⟨key,v,b,s,x,hm,hop,hk,rfl,rfl⟩:=yca hr
 obtain⟨hv,hb0,hb1,hl,hp0,hp1,hf,hn⟩:=hm
 have hlt:=yee hk
 have hk':=hk
 unfold yd2 at hk'
 have hn1:ynp x.op=1:=by rw[hop]; rfl
 have ht:yfr ymb [.ptr key 0,.int .i64 0] (st++[⟨false,1,insC x,false⟩])=some (.int .i64 (topS s 0)):=yx6 hv (yhz hk _) 0 (by omega) (by omega)
 have hcp:=yqa hv hk x 1 1 rfl none (by omega) hl hp0 hp1
 simp only[yvs,stkO,List.append_nil]at hcp
 unfold ylf
 by_cases h1:topS s 0=0
 ·rw[show outF v b s x=.pop 1 none (some x.n) by unfold outF; rw[if_neg (by omega),if_neg (by omega),if_neg (by omega),if_pos hop,if_pos h1]]
  simp (disch:=first|omega|decide) only[push_cast,↓reduceIte,Nat.reduceEqDiff,yau,yad,yg4,outR,Option.getD_some,ht,h1,hcp,Ygy,ynq hlt,yN1 hv,ybz,yf5 hlt,stkO]
 ·rw[show outF v b s x=.pop 1 none none by unfold outF; rw[if_neg (by omega),if_neg (by omega),if_neg (by omega),if_pos hop,if_neg h1]]
  simp (disch:=first|omega|decide) only[push_cast,↓reduceIte,Nat.reduceEqDiff,yau,outR,Option.getD_none,ht,h1,hcp,stkO]
theorem Yu7:IContract Tryz.prog GG 182 (yhm (·=15)):=by
 refine yaj (T:=tb [] []) ys8 (yao all_nil all_nil) ?_
 intro ds st r hr
 obtain⟨key,v,b,s,x,hm,hop,hk,rfl,rfl⟩:=yca hr
 obtain⟨hv,hb0,hb1,hl,hp0,hp1,hf,hn⟩:=hm
 have hlt:=yee hk
 have hk':=hk
 unfold yd2 at hk'
 rw[show outF v b s x=.set s.pc 1 x.n by unfold outF; rw[if_neg (by omega),if_neg (by omega),if_neg (by omega),if_neg (by omega),if_neg (by omega),if_pos hop]]
 have hne:(key == st.length)=false:=by rw[beq_eq_false_iff_ne]; omega
 unfold ym3
 simp (disch:=first|omega|decide) only[push_cast,↓yal,↓reduceIte,Nat.reduceEqDiff,Nat.reduceAdd,yau,yad,yc7 hlt,hk',yaw,yg4,outR,Yrz hv,Yry hv,ybz,ybo hlt,ynq hlt,yf5 hlt,hne]
theorem Ydc:IContract Tryz.prog GG 231 (yfs yxp):=Ypn.toI Tryz.func231 (by kernel_rfl) (by kernel_rfl)
theorem Yda:IContract Tryz.prog GG 232 (yfs yxn):=Ypl.toI Tryz.func232 (by kernel_rfl) (by kernel_rfl)
theorem Ydb:IContract Tryz.prog GG 233 (yfs yxo):=Ypm.toI Tryz.func233 (by kernel_rfl) (by kernel_rfl)
theorem Yle:IContract Tryz.prog GG 234 (yfs yEq):=Yvp.toI Tryz.func234 (by kernel_rfl) (by kernel_rfl)
theorem Yld:IContract Tryz.prog GG 235 (yfs yEp):=Yvo.toI Tryz.func235 (by kernel_rfl) (by kernel_rfl)
theorem Ylc:IContract Tryz.prog GG 236 (yfs yEo):=Yvn.toI Tryz.func236 (by kernel_rfl) (by kernel_rfl)
theorem Ylb:IContract Tryz.prog GG 238 (yfs yEn):=Yvm.toI Tryz.func238 (by kernel_rfl) (by kernel_rfl)
theorem Yla:IContract Tryz.prog GG 239 (yfs yEm):=Yvl.toI Tryz.func239 (by kernel_rfl) (by kernel_rfl)
theorem Yk9:IContract Tryz.prog GG 240 (yfs yEl):=Yvk.toI Tryz.func240 (by kernel_rfl) (by kernel_rfl)
theorem yTz:IContract Tryz.prog GG 184 (yhm (fun o=>3≤o∧o≤11)):=by
 refine yaj (T:=tbq [] [(195,ywl),(231,yfs yxp),(232,yfs yxn),(233,yfs yxo),(234,yfs yEq),(235,yfs yEp),(236,yfs yEo),(238,yfs yEn),(239,yfs yEm),(240,yfs yEl)] [(197,ymb)]) yo4 (yVa all_nil (all_cons yJ0 (all_cons Ydc (all_cons Yda (all_cons Ydb (all_cons Yle (all_cons Yld (all_cons Ylc (all_cons Ylb (all_cons Yla (all_cons Yk9 all_nil)))))))))) (all_cons Yam all_nil)) ?_
 intro ds st r hr
 obtain⟨key,v,b,s,x,hm,hop,hk,rfl,rfl⟩:=yca hr
 obtain⟨hv,hb0,hb1,hl,hp0,hp1,hf,hn⟩:=hm
 have hlt:=yee hk
 have hk':=hk
 unfold yd2 at hk'
 have hn2:ynp x.op=2:=by unfold ynp; rw[if_neg (by omega),if_pos hop]
 have ht0:yfr ymb [.ptr key 0,.int .i64 0] (st++[⟨false,1,insC x,false⟩])=some (.int .i64 (topS s 0)):=yx6 hv (yhz hk _) 0 (by omega) (by omega)
 have ht1:yfr ymb [.ptr key 0,.int .i64 1] (st++[⟨false,1,insC x,false⟩])=some (.int .i64 (topS s 1)):=yx6 hv (yhz hk _) 1 (by omega) (by omega)
 have hcp:=yqa hv hk x 2 2 rfl (some (binF x.op (topS s 1) (topS s 0)).1) (by omega) hl hp0 hp1
 simp only[yvs]at hcp
 have hfl:∀ f:Nat,yzf 0 1 false (.agg [.clo f []])=some (.clo f []):=fun f=>(rfl)
 have hno:outF v b s x=if(binF x.op (topS s 1) (topS s 0)).2=0 then .pop 2 (some (binF x.op (topS s 1) (topS s 0)).1) none else .err (binF x.op (topS s 1) (topS s 0)).2:=by
  unfold outF; rw[if_neg (by omega),if_neg (by omega),if_neg (by omega),if_neg (by omega),if_neg (by omega),if_neg (by omega),if_neg (by omega)]
 have hg:=yFj (st++[⟨false,1,insC x,false⟩]) x.op false (.agg [.nilf])
 have hops:x.op=3∨x.op=4∨x.op=5∨x.op=6∨x.op=7∨x.op=8∨x.op=9∨x.op=10∨x.op=11:=by omega
 unfold yix
 rcases hops with e | e | e | e | e | e | e | e | e
 ·have hb:=ygz (yT8 (topS s 1) (topS s 0)) (st++[⟨false,1,insC x,false⟩])
  have hbe:binF x.op (topS s 1) (topS s 0)=addF (topS s 1) (topS s 0):=by unfold binF; rw[if_pos e]
  rw[show yem x.op binA=some 231 by rw[e]; rfl]at hg
  by_cases he:(binF x.op (topS s 1) (topS s 0)).2=0
  ·rw[hno,if_pos he]
   rw[hbe]at he hcp
   rw[hbe]
   simp (disch:=first|omega|decide) only[push_cast,↓reduceIte,Nat.reduceEqDiff,yau,yaw,lit1,outR,Option.getD_none,yo7 _ _ _ _ GG_b,ypp,ybd,hg,hfl,ht0,ht1,hb,he,hcp]
  ·rw[hno,if_neg he]
   rw[hbe]at he
   rw[hbe]
   simp (disch:=first|omega|decide) only[push_cast,↓reduceIte,Nat.reduceEqDiff,yau,yaw,outR,yo7 _ _ _ _ GG_b,ypp,ybd,hg,hfl,ht0,ht1,hb,he]
 ·have hb:=ygz (yT6 (topS s 1) (topS s 0)) (st++[⟨false,1,insC x,false⟩])
  have hbe:binF x.op (topS s 1) (topS s 0)=subF (topS s 1) (topS s 0):=by unfold binF; rw[if_neg (by omega),if_pos e]
  rw[show yem x.op binA=some 232 by rw[e]; rfl]at hg
  by_cases he:(binF x.op (topS s 1) (topS s 0)).2=0
  ·rw[hno,if_pos he]
   rw[hbe]at he hcp
   rw[hbe]
   simp (disch:=first|omega|decide) only[push_cast,↓reduceIte,Nat.reduceEqDiff,yau,yaw,lit1,outR,Option.getD_none,yo7 _ _ _ _ GG_b,ypp,ybd,hg,hfl,ht0,ht1,hb,he,hcp]
  ·rw[hno,if_neg he]
   rw[hbe]at he
   rw[hbe]
   simp (disch:=first|omega|decide) only[push_cast,↓reduceIte,Nat.reduceEqDiff,yau,yaw,outR,yo7 _ _ _ _ GG_b,ypp,ybd,hg,hfl,ht0,ht1,hb,he]
 ·have hb:=ygz (yT7 (topS s 1) (topS s 0)) (st++[⟨false,1,insC x,false⟩])
  have hbe:binF x.op (topS s 1) (topS s 0)=mulF (topS s 1) (topS s 0):=by unfold binF; rw[if_neg (by omega),if_neg (by omega),if_pos e]
  rw[show yem x.op binA=some 233 by rw[e]; rfl]at hg
  by_cases he:(binF x.op (topS s 1) (topS s 0)).2=0
  ·rw[hno,if_pos he]
   rw[hbe]at he hcp
   rw[hbe]
   simp (disch:=first|omega|decide) only[push_cast,↓reduceIte,Nat.reduceEqDiff,yau,yaw,lit1,outR,Option.getD_none,yo7 _ _ _ _ GG_b,ypp,ybd,hg,hfl,ht0,ht1,hb,he,hcp]
  ·rw[hno,if_neg he]
   rw[hbe]at he
   rw[hbe]
   simp (disch:=first|omega|decide) only[push_cast,↓reduceIte,Nat.reduceEqDiff,yau,yaw,outR,yo7 _ _ _ _ GG_b,ypp,ybd,hg,hfl,ht0,ht1,hb,he]
 ·have hb:=ygz (Ybd (topS s 1) (topS s 0)) (st++[⟨false,1,insC x,false⟩])
  have hbe:binF x.op (topS s 1) (topS s 0)=(min (topS s 1) (topS s 0),0):=by unfold binF; rw[if_neg (by omega),if_neg (by omega),if_neg (by omega),if_pos e]
  rw[show yem x.op binA=some 234 by rw[e]; rfl]at hg
  by_cases he:(binF x.op (topS s 1) (topS s 0)).2=0
  ·rw[hno,if_pos he]
   rw[hbe]at he hcp
   rw[hbe]
   simp (disch:=first|omega|decide) only[push_cast,↓reduceIte,Nat.reduceEqDiff,yau,yaw,lit1,outR,Option.getD_none,yo7 _ _ _ _ GG_b,ypp,ybd,hg,hfl,ht0,ht1,hb,hcp]
  ·rw[hbe]at he
   exact absurd rfl he
 ·have hb:=ygz (Ybc (topS s 1) (topS s 0)) (st++[⟨false,1,insC x,false⟩])
  have hbe:binF x.op (topS s 1) (topS s 0)=(max (topS s 1) (topS s 0),0):=by unfold binF; rw[if_neg (by omega),if_neg (by omega),if_neg (by omega),if_neg (by omega),if_pos e]
  rw[show yem x.op binA=some 235 by rw[e]; rfl]at hg
  by_cases he:(binF x.op (topS s 1) (topS s 0)).2=0
  ·rw[hno,if_pos he]
   rw[hbe]at he hcp
   rw[hbe]
   simp (disch:=first|omega|decide) only[push_cast,↓reduceIte,Nat.reduceEqDiff,yau,yaw,lit1,outR,Option.getD_none,yo7 _ _ _ _ GG_b,ypp,ybd,hg,hfl,ht0,ht1,hb,hcp]
  ·rw[hbe]at he
   exact absurd rfl he
 ·have hb:=ygz (Ybb (topS s 1) (topS s 0)) (st++[⟨false,1,insC x,false⟩])
  have hbe:binF x.op (topS s 1) (topS s 0)=divF (topS s 1) (topS s 0) 8:=by unfold binF; rw[if_neg (by omega),if_neg (by omega),if_neg (by omega),if_neg (by omega),if_neg (by omega),if_pos e]
  rw[show yem x.op binA=some 236 by rw[e]; rfl]at hg
  by_cases he:(binF x.op (topS s 1) (topS s 0)).2=0
  ·rw[hno,if_pos he]
   rw[hbe]at he hcp
   rw[hbe]
   simp (disch:=first|omega|decide) only[push_cast,↓reduceIte,Nat.reduceEqDiff,yau,yaw,lit1,outR,Option.getD_none,yo7 _ _ _ _ GG_b,ypp,ybd,hg,hfl,ht0,ht1,hb,he,hcp]
  ·rw[hno,if_neg he]
   rw[hbe]at he
   rw[hbe]
   simp (disch:=first|omega|decide) only[push_cast,↓reduceIte,Nat.reduceEqDiff,yau,yaw,outR,yo7 _ _ _ _ GG_b,ypp,ybd,hg,hfl,ht0,ht1,hb,he]
 ·have hb:=ygz (Yba (topS s 1) (topS s 0)) (st++[⟨false,1,insC x,false⟩])
  have hbe:binF x.op (topS s 1) (topS s 0)=divF (topS s 1) (topS s 0) 9:=by unfold binF; rw[if_neg (by omega),if_neg (by omega),if_neg (by omega),if_neg (by omega),if_neg (by omega),if_neg (by omega),if_pos e]
  rw[show yem x.op binA=some 238 by rw[e]; rfl]at hg
  by_cases he:(binF x.op (topS s 1) (topS s 0)).2=0
  ·rw[hno,if_pos he]
   rw[hbe]at he hcp
   rw[hbe]
   simp (disch:=first|omega|decide) only[push_cast,↓reduceIte,Nat.reduceEqDiff,yau,yaw,lit1,outR,Option.getD_none,yo7 _ _ _ _ GG_b,ypp,ybd,hg,hfl,ht0,ht1,hb,he,hcp]
  ·rw[hno,if_neg he]
   rw[hbe]at he
   rw[hbe]
   simp (disch:=first|omega|decide) only[push_cast,↓reduceIte,Nat.reduceEqDiff,yau,yaw,outR,yo7 _ _ _ _ GG_b,ypp,ybd,hg,hfl,ht0,ht1,hb,he]
 ·have hb:=ygz (Ya9 (topS s 1) (topS s 0)) (st++[⟨false,1,insC x,false⟩])
  have hbe:binF x.op (topS s 1) (topS s 0)=divF (topS s 1) (topS s 0) 10:=by unfold binF; rw[if_neg (by omega),if_neg (by omega),if_neg (by omega),if_neg (by omega),if_neg (by omega),if_neg (by omega),if_neg (by omega),if_pos e]
  rw[show yem x.op binA=some 239 by rw[e]; rfl]at hg
  by_cases he:(binF x.op (topS s 1) (topS s 0)).2=0
  ·rw[hno,if_pos he]
   rw[hbe]at he hcp
   rw[hbe]
   simp (disch:=first|omega|decide) only[push_cast,↓reduceIte,Nat.reduceEqDiff,yau,yaw,lit1,outR,Option.getD_none,yo7 _ _ _ _ GG_b,ypp,ybd,hg,hfl,ht0,ht1,hb,he,hcp]
  ·rw[hno,if_neg he]
   rw[hbe]at he
   rw[hbe]
   simp (disch:=first|omega|decide) only[push_cast,↓reduceIte,Nat.reduceEqDiff,yau,yaw,outR,yo7 _ _ _ _ GG_b,ypp,ybd,hg,hfl,ht0,ht1,hb,he]
 ·have hb:=ygz (Ya8 (topS s 1) (topS s 0)) (st++[⟨false,1,insC x,false⟩])
  have hbe:binF x.op (topS s 1) (topS s 0)=(if topS s 1<topS s 0 then 1 else 0,0):=by unfold binF; rw[if_neg (by omega),if_neg (by omega),if_neg (by omega),if_neg (by omega),if_neg (by omega),if_neg (by omega),if_neg (by omega),if_neg (by omega),if_pos e]
  rw[show yem x.op binA=some 240 by rw[e]; rfl]at hg
  by_cases he:(binF x.op (topS s 1) (topS s 0)).2=0
  ·rw[hno,if_pos he]
   rw[hbe]at he hcp
   rw[hbe]
   simp (disch:=first|omega|decide) only[push_cast,↓reduceIte,Nat.reduceEqDiff,yau,yaw,lit1,outR,Option.getD_none,yo7 _ _ _ _ GG_b,ypp,ybd,hg,hfl,ht0,ht1,hb,hcp]
  ·rw[hbe]at he
   exact absurd rfl he
def mgO(o:Option PI.Obj)(sz:Nat)(ks:List Nat)(ok:Bool)(zero k:D):Option D:=match o with
 |some o=>if o.isMap && o.sz == sz && (yj8 sz ks k k).isSome then match yud sz ks k o.els 0 with
   |some (some i)=>match o.els[i]? with
    |some el=>some (if ok then .tup [entV sz el,.bool true]else entV sz el)
    |none=>none
   |some none=>some (if ok then .tup [zero,.bool false]else zero)
   |none=>none
  else none
 |none=>none
theorem yb1(st:St)(sz:Nat)(ks:List Nat)(ok:Bool)(zero k:D)(key:Nat):yd0 st sz ks ok zero (.mapv key) k=mgO st[key]? sz ks ok zero k:=(rfl)
def muO(o:Option PI.Obj)(sz:Nat)(ks:List Nat)(k v:D):Option PI.Obj:=match o with
 |some o=>if o.isMap && o.sz == sz && !o.lent && v.isCell && k.cells.length+1 == sz && k.cells.all D.isCell && yj8 sz ks k k == some true then match yud sz ks k o.els 0 with
   |some (some i)=>some {o with els:=o.els.set i (.agg (k.cells++[v]))}
   |some none=>some {o with els:=o.els++[.agg (k.cells++[v])]}
   |none=>none
  else none
 |none=>none
theorem ycq(st:St)(sz:Nat)(ks:List Nat)(k v:D)(key:Nat):yCe st sz ks (.mapv key) k v=(muO st[key]? sz ks k v).map fun o=>st.set key o:=by
 simp only[yCe,muO]
 cases st[key]? with
 |none=>rfl
 |some o=>
  simp only
  split
  ·cases yud sz ks k o.els 0 with
   |none=>rfl
   |some r=>cases r <;> rfl
  ·rfl
def exA:List (Int×Nat):=[(1,5000177),(2,5000178),(12,5000179),(13,5000180),(14,5000181),(15,5000182),(16,5000183)]
def exEnt(k:Nat)(p:Int×Nat):D:=.agg [.int .i64 p.1,.clo p.2 [.ptr k 0]]
def exN(k i:Nat):List D:=(exA.take i).map (exEnt k)
theorem mu_0(k:Nat):muO (some ⟨false,2,[],false⟩) 2 [0] (.int .i64 1) (.clo 5000177 [.ptr k 0])=some ⟨false,2,exN k 1,false⟩:=(rfl)
theorem mu_1(k:Nat):muO (some ⟨false,2,exN k 1,false⟩) 2 [0] (.int .i64 2) (.clo 5000178 [.ptr k 0])=some ⟨false,2,exN k 2,false⟩:=(rfl)
theorem mu_2(k:Nat):muO (some ⟨false,2,exN k 2,false⟩) 2 [0] (.int .i64 12) (.clo 5000179 [.ptr k 0])=some ⟨false,2,exN k 3,false⟩:=(rfl)
theorem mu_3(k:Nat):muO (some ⟨false,2,exN k 3,false⟩) 2 [0] (.int .i64 13) (.clo 5000180 [.ptr k 0])=some ⟨false,2,exN k 4,false⟩:=(rfl)
theorem mu_4(k:Nat):muO (some ⟨false,2,exN k 4,false⟩) 2 [0] (.int .i64 14) (.clo 5000181 [.ptr k 0])=some ⟨false,2,exN k 5,false⟩:=(rfl)
theorem mu_5(k:Nat):muO (some ⟨false,2,exN k 5,false⟩) 2 [0] (.int .i64 15) (.clo 5000182 [.ptr k 0])=some ⟨false,2,exN k 6,false⟩:=(rfl)
theorem mu_6(k:Nat):muO (some ⟨false,2,exN k 6,false⟩) 2 [0] (.int .i64 16) (.clo 5000183 [.ptr k 0])=some ⟨false,2,exN k 7,false⟩:=(rfl)
theorem yzo(k:Nat)(op:Int)(f:Nat)(h:yem op exA=some f):mgO (some ⟨false,2,exN k 7,false⟩) 2 [0] true .nilf (.int .i64 op)=some (.tup [.clo f [.ptr k 0],.bool true]):=by
 simp only[exA,yem]at h
 split at h
 ·simp only[Ywe]at h; subst h; rename_i e; subst e; rfl
 split at h
 ·simp only[Ywe]at h; subst h; rename_i e; subst e; rfl
 split at h
 ·simp only[Ywe]at h; subst h; rename_i e; subst e; rfl
 split at h
 ·simp only[Ywe]at h; subst h; rename_i e; subst e; rfl
 split at h
 ·simp only[Ywe]at h; subst h; rename_i e; subst e; rfl
 split at h
 ·simp only[Ywe]at h; subst h; rename_i e; subst e; rfl
 split at h
 ·simp only[Ywe]at h; subst h; rename_i e; subst e; rfl
 cases h
theorem Ymu(k:Nat)(op:Int)(h:3≤op∧op≤11):mgO (some ⟨false,2,exN k 7,false⟩) 2 [0] true .nilf (.int .i64 op)=some (.tup [.nilf,.bool false]):=by
 have:op=3∨op=4∨op=5∨op=6∨op=7∨op=8∨op=9∨op=10∨op=11:=by omega
 rcases this with rfl | rfl | rfl | rfl | rfl | rfl | rfl | rfl | rfl <;> rfl
theorem ywq(st:St)(a b:PI.Obj):(st++[a]++[b])[st.length+1]?=some b:=by
 have:=yaw (st++[a]) b
 rwa [yi4]at this
theorem ywr(st:St)(a b:PI.Obj):(st++[a]++[b])[st.length]?=some a:=by
 rw[yc7 (by rw[yi4]; omega),yaw]
theorem ywm(st:St)(a b b':PI.Obj):(st++[a]++[b]).set (st.length+1) b'=st++[a]++[b']:=by
 have:=yV1 (st++[a]) b b'
 rwa [yi4]at this
structure eOK (v:Int×List Int) (b:Int) (s:Sta) (x:Ins):Prop where
 v:vOK v
 b0:0≤b
 b1:b≤64
 l:s.stack.length≤64
 p0:0≤s.pc
 p1:s.pc≤100000
 f:ybg x=true
def exO(v:Int×List Int)(b:Int)(s:Sta)(x:Ins):Out:=if(s.stack.length:Int)<ynp x.op then .err 200 else outF v b s x
def exSt(st:St)(key:Nat)(s:Sta)(x:Ins):St:=if(s.stack.length:Int)<ynp x.op then st else st++[⟨false,1,insC x,false⟩]++[⟨false,2,exN key 7,false⟩]
def exeR(ds:List D)(st:St)(r:D×St):Prop:=∃ (key:Nat) (v:Int×List Int) (b:Int) (s:Sta) (x:Ins),eOK v b s x∧yd2 st key v s.pc s.fuel s.status s.clause (ybq s.stack) b∧ds=[.ptr key 0,insD x]∧r=outR (exSt st key s x) key v b s x (exO v b s x)
noncomputable def yN7:List D→St→Option (D×St):=relI exeR
theorem Yow:Fun1 exeR:=by
 rintro ds st r r' ⟨key,v,b,s,x,hm,hk,rfl,rfl⟩ ⟨key',v',b',s',x',hm',hk',h,rfl⟩
 simp only[List.cons.injEq,D.ptr.injEq,and_true,yq0]at h
 obtain⟨rfl,rfl⟩:=h
 obtain⟨rfl,h1,h2,h3,h4,h5,rfl⟩:=yvx hm.v hm'.v hk hk'
 have h6:=ymq.1 h5
 obtain⟨a1,a2,a3,a4,a5⟩:=s
 obtain⟨b1,b2,b3,b4,b5⟩:=s'
 dsimp only at h1 h2 h3 h4 h6
 subst h1; subst h2; subst h3; subst h4; subst h6
 rfl
theorem Yh0{st:St}{key:Nat}{v:Int×List Int}{b:Int}{s:Sta}{x:Ins}(hm:eOK v b s x)(hk:yd2 st key v s.pc s.fuel s.status s.clause (ybq s.stack) b):yN7 [.ptr key 0,insD x] st=some (outR (exSt st key s x) key v b s x (exO v b s x)):=
 yhx Yow ⟨key,v,b,s,x,hm,hk,rfl,rfl⟩
theorem yg1:yXz 2=some ⟨false,2,[],false⟩:=(rfl)
set_option maxHeartbeats 8000000 in
set_option maxRecDepth 20000 in
theorem Yu9:IContract Tryz.prog GG 157 yN7:=by
 refine yaj (T:=tb [(109,yxm)] [(177,yhm (·=1)),(178,yhm (·=2)),(179,yhm (·=12)),(180,yhm (·=13)),(181,yhm (·=14)),(182,yhm (·=15)),(183,yhm (·=16)),(184,yhm (fun o=>3≤o∧o≤11))])
  yo3 (yao (all_cons Ybk all_nil) (all_cons Ypc (all_cons Ype (all_cons yTy (all_cons Yo9 (all_cons Ypf (all_cons Yu7 (all_cons Ypd (all_cons yTz all_nil))))))))) ?_
 intro ds st r hr
 obtain⟨key,v,b,s,x,⟨hv,hb0,hb1,hl,hp0,hp1,hf⟩,hk,rfl,rfl⟩:=yca hr
 have hlt:=yee hk
 have hk':=hk
 unfold yd2 at hk'
 have hnd:=yDd x.op
 have hop:=yZo hf
 unfold yiw
 by_cases h1:(s.stack.length:Int)<ynp x.op
 ·rw[show exO v b s x=.err 200 from if_pos h1,show exSt st key s x=st from if_pos h1]
  simp (disch:=first|omega|decide) only[push_cast,↓reduceIte,Nat.reduceEqDiff,Nat.reduceAdd,yau,yad,yc7 hlt,hk',yg3 hv,ybp,yaw,ybd,hnd,h1,outR]
 ·rw[show exO v b s x=outF v b s x from if_neg h1,show exSt st key s x=_ from if_neg h1]
  have hm:mOK v b s x:=⟨hv,hb0,hb1,hl,hp0,hp1,hf,by omega⟩
  have hk2:yd2 (st++[⟨false,1,insC x,false⟩]++[⟨false,2,exN key 7,false⟩]) key v s.pc s.fuel s.status s.clause (ybq s.stack) b:=yhz (yhz hk _) _
  have fin:∀ (P:Int→Prop),P x.op→∃ d st',yhm P [.ptr key 0,insD x] (st++[⟨false,1,insC x,false⟩]++[⟨false,2,exN key 7,false⟩])=some (d,st')∧outR (st++[⟨false,1,insC x,false⟩]++[⟨false,2,exN key 7,false⟩]) key v b s x (outF v b s x)=(d,st'):=
   fun P hP=>⟨_,_,Yhu hm hP hk2,rfl⟩
  have cases8:x.op=1∨x.op=2∨x.op=12∨x.op=13∨x.op=14∨x.op=15∨x.op=16∨(3≤x.op∧x.op≤11):=by omega
  rcases cases8 with e | e | e | e | e | e | e | e
  ·obtain⟨d,st',h2,h3⟩:=fin (·=1) e
   have hg:=yzo key x.op _ (show yem x.op exA=some 5000177 by rw[e]; rfl)
   rw[h3]
   simp (disch:=first|omega|decide) only[push_cast,↓reduceIte,Nat.reduceEqDiff,Nat.reduceAdd,yau,yad,yc7 hlt,hk',yg3 hv,ybp,yaw,ybd,hnd,h1,yi4,ycq,yb1,ywq,ywm,ywr,yg1,mu_0,mu_1,mu_2,mu_3,mu_4,mu_5,mu_6,hg,yug,ygq _ 5000177 177 _ rfl (by decide),h2]
  ·obtain⟨d,st',h2,h3⟩:=fin (·=2) e
   have hg:=yzo key x.op _ (show yem x.op exA=some 5000178 by rw[e]; rfl)
   rw[h3]
   simp (disch:=first|omega|decide) only[push_cast,↓reduceIte,Nat.reduceEqDiff,Nat.reduceAdd,yau,yad,yc7 hlt,hk',yg3 hv,ybp,yaw,ybd,hnd,h1,yi4,ycq,yb1,ywq,ywm,ywr,yg1,mu_0,mu_1,mu_2,mu_3,mu_4,mu_5,mu_6,hg,yug,ygq _ 5000178 178 _ rfl (by decide),h2]
  ·obtain⟨d,st',h2,h3⟩:=fin (·=12) e
   have hg:=yzo key x.op _ (show yem x.op exA=some 5000179 by rw[e]; rfl)
   rw[h3]
   simp (disch:=first|omega|decide) only[push_cast,↓reduceIte,Nat.reduceEqDiff,Nat.reduceAdd,yau,yad,yc7 hlt,hk',yg3 hv,ybp,yaw,ybd,hnd,h1,yi4,ycq,yb1,ywq,ywm,ywr,yg1,mu_0,mu_1,mu_2,mu_3,mu_4,mu_5,mu_6,hg,yug,ygq _ 5000179 179 _ rfl (by decide),h2]
  ·obtain⟨d,st',h2,h3⟩:=fin (·=13) e
   have hg:=yzo key x.op _ (show yem x.op exA=some 5000180 by rw[e]; rfl)
   rw[h3]
   simp (disch:=first|omega|decide) only[push_cast,↓reduceIte,Nat.reduceEqDiff,Nat.reduceAdd,yau,yad,yc7 hlt,hk',yg3 hv,ybp,yaw,ybd,hnd,h1,yi4,ycq,yb1,ywq,ywm,ywr,yg1,mu_0,mu_1,mu_2,mu_3,mu_4,mu_5,mu_6,hg,yug,ygq _ 5000180 180 _ rfl (by decide),h2]
  ·obtain⟨d,st',h2,h3⟩:=fin (·=14) e
   have hg:=yzo key x.op _ (show yem x.op exA=some 5000181 by rw[e]; rfl)
   rw[h3]
   simp (disch:=first|omega|decide) only[push_cast,↓reduceIte,Nat.reduceEqDiff,Nat.reduceAdd,yau,yad,yc7 hlt,hk',yg3 hv,ybp,yaw,ybd,hnd,h1,yi4,ycq,yb1,ywq,ywm,ywr,yg1,mu_0,mu_1,mu_2,mu_3,mu_4,mu_5,mu_6,hg,yug,ygq _ 5000181 181 _ rfl (by decide),h2]
  ·obtain⟨d,st',h2,h3⟩:=fin (·=15) e
   have hg:=yzo key x.op _ (show yem x.op exA=some 5000182 by rw[e]; rfl)
   rw[h3]
   simp (disch:=first|omega|decide) only[push_cast,↓reduceIte,Nat.reduceEqDiff,Nat.reduceAdd,yau,yad,yc7 hlt,hk',yg3 hv,ybp,yaw,ybd,hnd,h1,yi4,ycq,yb1,ywq,ywm,ywr,yg1,mu_0,mu_1,mu_2,mu_3,mu_4,mu_5,mu_6,hg,yug,ygq _ 5000182 182 _ rfl (by decide),h2]
  ·obtain⟨d,st',h2,h3⟩:=fin (·=16) e
   have hg:=yzo key x.op _ (show yem x.op exA=some 5000183 by rw[e]; rfl)
   rw[h3]
   simp (disch:=first|omega|decide) only[push_cast,↓reduceIte,Nat.reduceEqDiff,Nat.reduceAdd,yau,yad,yc7 hlt,hk',yg3 hv,ybp,yaw,ybd,hnd,h1,yi4,ycq,yb1,ywq,ywm,ywr,yg1,mu_0,mu_1,mu_2,mu_3,mu_4,mu_5,mu_6,hg,yug,ygq _ 5000183 183 _ rfl (by decide),h2]
  ·obtain⟨d,st',h2,h3⟩:=fin (fun o=>3≤o∧o≤11) e
   have hg:=Ymu key x.op e
   rw[h3]
   simp (disch:=first|omega|decide) only[push_cast,↓reduceIte,Nat.reduceEqDiff,Nat.reduceAdd,yau,yad,yc7 hlt,hk',yg3 hv,ybp,yaw,ybd,hnd,h1,yi4,ycq,yb1,ywq,ywm,ywr,yg1,mu_0,mu_1,mu_2,mu_3,mu_4,mu_5,mu_6,hg,yug,h2]
def outS(s:Sta):Out→Sta
 |.err e=>{s with status:=10+e}
 |.pop k push pc=>{s with pc:=pc.getD (s.pc+1),stack:=s.stack.take (s.stack.length - k)++push.toList}
 |.set p t c=>{s with pc:=p,status:=t,clause:=c}
def decS(s:Sta):Sta:={s with fuel:=s.fuel - 1}
def advF(v:Int×List Int)(b:Int)(s:Sta)(x:Ins):Sta:=if s.fuel=0 then {s with status:=220} else outS (decS s) (exO v b (decS s) x)
structure aOK (c:List Ins) (v:Int×List Int) (s:Sta) (b:Int):Prop where
 v:vOK v
 b0:0≤b
 b1:b≤64
 l:s.stack.length≤64
 p0:0≤s.pc
 p1:s.pc<c.length
 cl:c.length≤4096
 f:c.all ybg=true
 u0:0≤s.fuel
 u1:s.fuel≤32768
theorem Yij(op a b:Int):0≤(binF op a b).2∧(binF op a b).2≤100:=by
 have hr:∀ c,0≤(rgF c).2∧(rgF c).2≤100:=fun c=>by unfold rgF; split <;> exact⟨by simp,by simp⟩
 have hd:∀ a b m,0≤(divF a b m).2∧(divF a b m).2≤100:=fun a b m=>by
  unfold divF
  split
  ·split <;> exact⟨by simp,by simp⟩
  ·exact⟨by simp,by simp⟩
 have ha:0≤(addF a b).2∧(addF a b).2≤100:=by unfold addF; split <;> first | exact hr _ | exact⟨by simp,by simp⟩
 have hs:0≤(subF a b).2∧(subF a b).2≤100:=by unfold subF; split <;> first | exact hr _ | exact⟨by simp,by simp⟩
 have hm:0≤(mulF a b).2∧(mulF a b).2≤100:=by unfold mulF; split <;> first | exact hr _ | exact⟨by simp,by simp⟩
 have hz:∀ n:Int,0≤((n,0):Int×Int).2∧((n,0):Int×Int).2≤100:=fun n=>⟨by simp,by simp⟩
 unfold binF
 split; · exact ha
 split; · exact hs
 split; · exact hm
 split; · exact hz _
 split; · exact hz _
 split; · exact hd _ _ _
 split; · exact hd _ _ _
 split; · exact hd _ _ _
 split; · exact hz _
 exact hz _
theorem yZ8{v:Int×List Int}{b:Int}{s:Sta}{x:Ins}{e:Int}(h:exO v b s x=.err e):1≤e∧e≤1000:=by
 have h2:=Yij x.op (topS s 1) (topS s 0)
 unfold exO outF at h
 repeat' split at h
 all_goals first | (cases h; done) | (simp only[Out.err.injEq]at h; omega)
theorem Yoy{v:Int×List Int}{b:Int}{s:Sta}{x:Ins}{k:Nat}{push pc:Option Int}(h:exO v b s x=.pop k push pc):¬ (s.stack.length:Int)<ynp x.op:=by
 intro h1
 unfold exO at h
 rw[if_pos h1]at h
 cases h
theorem Yox{v:Int×List Int}{b:Int}{s:Sta}{x:Ins}{p t c:Int}(h:exO v b s x=.set p t c):¬ (s.stack.length:Int)<ynp x.op:=by
 intro h1
 unfold exO at h
 rw[if_pos h1]at h
 cases h
theorem yZ2(v:Int×List Int)(hv:vOK v)(s:Sta)(b:Int):yam [.int .i64 0,.int .i64 0,.int .i64 0,.int .i64 0,.int .i64 0,.int .i64 0,.int .i64 0,.int .i64 0,.int .i64 0,.int .i64 0,.int .i64 0,.int .i64 0,.int .i64 0,.int .i64 0,.int .i64 0,.int .i64 0,.int .i64 0,.int .i64 0,.int .i64 0,.int .i64 0,.int .i64 0,.slc 0 [] true,.int .i64 0]
  [(0,17,evD v),(17,5,staD s),(22,1,.int .i64 b)]=some (yb5 v s.pc s.fuel s.status s.clause (ybq s.stack) b):=by
 refine(yci (cs':=evC v++([.int .i64 0,.int .i64 0,.int .i64 0,.int .i64 0,.slc 0 [] true]++[.int .i64 0])) (A:=[]) (B:=List.replicate 17 (.int .i64 0)) (C:=[.int .i64 0,.int .i64 0,.int .i64 0,.int .i64 0,.slc 0 [] true,.int .i64 0]) (xs:=evC v) rfl rfl rfl rfl rfl (ybi hv) (yz2 (v.1::v.2))).trans ?_
 refine(yci (cs':=evC v++(staC s++[.int .i64 0])) (A:=evC v) (B:=[.int .i64 0,.int .i64 0,.int .i64 0,.int .i64 0,.slc 0 [] true]) (C:=[.int .i64 0]) (xs:=staC s) rfl rfl (ybi hv) rfl rfl rfl (Ydh s)).trans ?_
 refine(yci (cs':=yb5 v s.pc s.fuel s.status s.clause (ybq s.stack) b) (A:=evC v++staC s) (B:=[.int .i64 0]) (C:=[]) (xs:=[.int .i64 b]) (by simp) (by simp[yb5,staC]) (by simp[ybi hv,staC]) rfl rfl rfl rfl).trans ?_
 rfl
theorem Yic(v:Int×List Int)(p f t c:Int)(sz:Nat)(els:List D)(tt:Bool)(b:Int):boxD (.agg (yb5 v p f t c (.slc sz els tt) b))=some (yb5 v p f t c (.slc sz els tt) b):=by
 have h:(yb5 v p f t c (.slc sz els tt) b).all D.isCell=true:=by
  rw[yb5,List.all_append,yGb,yz2]
  rfl
 rw[show boxD (.agg (yb5 v p f t c (.slc sz els tt) b))=if(yb5 v p f t c (.slc sz els tt) b).all D.isCell then some (yb5 v p f t c (.slc sz els tt) b)else none from rfl,if_pos h]
theorem yu1(v:Int×List Int)(p f t c:Int)(l:List Int)(b:Int):boxD (.agg (yb5 v p f t c (ybq l) b))=some (yb5 v p f t c (ybq l) b):=Yic v p f t c _ _ _ b
theorem yM0(l:List Int):(ybq l).isCell=true:=(rfl)
theorem yY9(st:St)(l:List Int):imm1 st (ybq l)=some (ybq l):=by simp only[ybq,yF3,yuc]
theorem Yt7(o0 o1 o2 o3 o4 o5 o6:PI.Obj)(A:List Int)(m:Nat)(h:A.length=m):imm1 [o0,o1,o2,o3,o4,o5,o6,⟨true,1,A.map nI,false⟩] (.row 7 m 0 m)=some (ybq A):=by
 have h1:yec [o0,o1,o2,o3,o4,o5,o6,⟨true,1,A.map nI,false⟩] 7 m 0 m=some (1,A.map nI):=by
  simp only[yec,List.getElem?_cons_succ,List.getElem?_cons_zero]
  rw[if_pos (by simp[h]),List.drop_zero,List.take_of_length_le (by simp[h])]
 simp only[imm1,h1,Option.map_some]
 rfl
theorem Ydi(s:Sta)(n:Int):stO (some ⟨false,1,staC s,false⟩) 1 1 (.int .i64 n)=some ⟨false,1,staC {s with fuel:=n},false⟩:=(rfl)
theorem Yr0(s:Sta)(n:Int):stO (some ⟨false,1,staC s,false⟩) 1 2 (.int .i64 n)=some ⟨false,1,staC {s with status:=n},false⟩:=(rfl)
theorem st_5(a b c d S:D):stO (some ⟨false,1,[.int .i64 0,.int .i64 0,.int .i64 0,.int .i64 0,.slc 0 [] true],false⟩) 5 0 (.agg [a,b,c,d,S])=if [a,b,c,d,S].all D.isCell then some ⟨false,1,[a,b,c,d,S],false⟩else none:=by
 simp only[stO]; rfl
theorem ld_5(lent:Bool)(a b c d S:D):ldO (some ⟨false,1,[a,b,c,d,S],lent⟩) 5 true 0=some (.agg [a,b,c,d,S]):=(rfl)
noncomputable def yVp:List D→Option D:=spOf (α:=List Ins×(Int×List Int)×Sta×Int) (fun a=>[.slc (nz 3 (a.1.map insD)) (a.1.map insD) false,evD a.2.1,staD a.2.2.1,.int .i64 a.2.2.2]) (fun a=>aOK a.1 a.2.1 a.2.2.1 a.2.2.2) (fun a=>staD (advF a.2.1 a.2.2.2 a.2.2.1 (a.1.getD a.2.2.1.pc.toNat default)))
theorem Yh4(c:List Ins)(v:Int×List Int)(s:Sta)(b:Int)(h:aOK c v s b):yVp [.slc (nz 3 (c.map insD)) (c.map insD) false,evD v,staD s,.int .i64 b]=some (staD (advF v b s (c.getD s.pc.toNat default))):=
 yae (fun⟨a0,a1,a2,a3⟩ ⟨b0,b1,b2,b3⟩ h=>by simp only[List.cons.injEq,D.slc.injEq,D.int.injEq,true_and,and_true,yea,yxi,yh2]at h; simp[h]) (c,v,s,b) h
set_option maxHeartbeats 4000000 in
set_option maxRecDepth 20000 in
theorem w_adv(c:List Ins)(v:Int×List Int)(s:Sta)(b:Int)(h:aOK c v s b):@wW GG (tb [] [(157,yN7)]) yjp.code (argF [.slc (nz 3 (c.map insD)) (c.map insD) false,evD v,staD s,.int .i64 b]) [] ⟨retQ yjp.res (staD (advF v b s (c.getD s.pc.toNat default)))⟩:=by
 obtain⟨hv,hb0,hb1,hl,hp0,hp1,hc,hf,hu0,hu1⟩:=h
 have hpl:s.pc.toNat<c.length:=by omega
 unfold yjp
 by_cases h1:s.fuel=0
 ·rw[show advF v b s (c.getD s.pc.toNat default)={s with status:=220} from if_pos h1]
  simp (disch:=first|omega|decide) only[push_cast,↓reduceIte,Nat.reduceEqDiff,Nat.reduceAdd,ydp,yep,yev,yfy,h1,Yr0,yop,yph,ynx]
 ·rw[show advF v b s (c.getD s.pc.toNat default)=outS (decS s) (exO v b (decS s) (c.getD s.pc.toNat default))from if_neg h1]
  have hx:=fun st=>yz7 st c false s.pc.toNat hpl
  rw[show((s.pc.toNat:Nat):Int)=s.pc by omega]at hx
  have hxf:ybg (c.getD s.pc.toNat default)=true:=by
   rw[List.getD_eq_getElem?_getD,List.getElem?_eq_getElem hpl]
   exact List.all_eq_true.1 hf _ (List.getElem_mem hpl)
  obtain⟨x,hxe⟩:∃ x,c.getD s.pc.toNat default=x:=⟨_,rfl⟩
  rw[hxe]at hx hxf ⊢
  have hx:∀ st:St,yfx st 3 (.slc (nz 3 (c.map insD)) (c.map insD) false) (.int .i64 (decS s).pc)=some (.eptr (insD x) 0):=hx
  have he:eOK v b (decS s) x:=⟨hv,hb0,hb1,hl,hp0,by show s.pc≤100000; omega,hxf⟩
  have hcx:=Yh0 (st:=[⟨false,1,evC v,false⟩,⟨false,1,staC (decS s),false⟩,⟨false,1,[.int .i64 0,.int .i64 0,.int .i64 0,.int .i64 0,.slc 0 [] true],false⟩,⟨false,1,yb5 v (decS s).pc (decS s).fuel (decS s).status (decS s).clause (ybq (decS s).stack) b,false⟩]) (key:=3) he rfl
  have hfm:=yZ2 v hv (decS s) b
  have hds:(⟨s.pc,s.fuel - 1,s.status,s.clause,s.stack⟩:Sta)=decS s:=rfl
  cases ho:exO v b (decS s) x with
  |err e=>
   have hee:=yZ8 ho
   rw[ho]at hcx
   have hst:∃ l,exSt [⟨false,1,evC v,false⟩,⟨false,1,staC (decS s),false⟩,⟨false,1,[.int .i64 0,.int .i64 0,.int .i64 0,.int .i64 0,.slc 0 [] true],false⟩,⟨false,1,yb5 v (decS s).pc (decS s).fuel (decS s).status (decS s).clause (ybq (decS s).stack) b,false⟩] 3 (decS s) x=⟨false,1,evC v,false⟩::⟨false,1,staC (decS s),false⟩::⟨false,1,[.int .i64 0,.int .i64 0,.int .i64 0,.int .i64 0,.slc 0 [] true],false⟩::l:=by
    unfold exSt; split <;> exact⟨_,rfl⟩
   obtain⟨l,hst⟩:=hst
   rw[hst]at hcx
   simp only[outR,List.cons_append]at hcx
   have hne:¬ e=0:=by omega
   simp (disch:=first|omega|decide) only[push_cast,↓reduceIte,Nat.reduceEqDiff,Nat.reduceAdd,ydp,yep,yev,yfy,h1,ydz,Ydi,hds,ypa hv,yop,hfm,yu1,ye5,hx,yfv,hcx,hne,yax,Yr0,yph,ynx,outS]
  |pop k push pc=>
   rw[ho]at hcx
   have hst:=Yoy ho
   rw[show exSt [⟨false,1,evC v,false⟩,⟨false,1,staC (decS s),false⟩,⟨false,1,[.int .i64 0,.int .i64 0,.int .i64 0,.int .i64 0,.slc 0 [] true],false⟩,⟨false,1,yb5 v (decS s).pc (decS s).fuel (decS s).status (decS s).clause (ybq (decS s).stack) b,false⟩] 3 (decS s) x=_ from if_neg hst]at hcx
   simp only[outR]at hcx
   cases push with
   |none=>
    simp only[stkD,stkO,mset,List.cons_append,List.nil_append,List.append_nil,List.set_cons_succ,List.set_cons_zero]at hcx
    simp (disch:=first|omega|decide) only[push_cast,↓reduceIte,Nat.reduceEqDiff,Nat.reduceAdd,ydp,yep,yev,yfy,h1,ydz,Ydi,hds,ypa hv,yop,hfm,yu1,ye5,hx,yfv,hcx,yad,Ym5 hv,st_5,ld_5,outS]
    simp only[Option.toList_none,List.append_nil]
    rfl
   |some a=>
    have hi:=fun o0 o1 o2 o3 o4 o5 o6=>Yt7 o0 o1 o2 o3 o4 o5 o6 ((decS s).stack.take ((decS s).stack.length - k)++[a]) ((decS s).stack.length - k+1) (by rw[List.length_append,List.length_take]; simp)
    simp only[stkD,stkO,mset,List.cons_append,List.nil_append,List.set_cons_succ,List.set_cons_zero,List.length_cons,List.length_nil]at hcx
    simp (disch:=first|omega|decide) only[push_cast,↓reduceIte,Nat.reduceEqDiff,Nat.reduceAdd,ydp,yep,yev,yfy,h1,ydz,Ydi,hds,ypa hv,yop,hfm,yu1,ye5,hx,yfv,hcx,yad,Ym5 hv,st_5,ld_5,outS,hi]
    rfl
  |set p t cl=>
   rw[ho]at hcx
   have hst:=Yox ho
   rw[show exSt [⟨false,1,evC v,false⟩,⟨false,1,staC (decS s),false⟩,⟨false,1,[.int .i64 0,.int .i64 0,.int .i64 0,.int .i64 0,.slc 0 [] true],false⟩,⟨false,1,yb5 v (decS s).pc (decS s).fuel (decS s).status (decS s).clause (ybq (decS s).stack) b,false⟩] 3 (decS s) x=_ from if_neg hst]at hcx
   simp only[outR,mset,List.cons_append,List.nil_append,List.set_cons_succ,List.set_cons_zero]at hcx
   simp (disch:=first|omega|decide) only[push_cast,↓reduceIte,Nat.reduceEqDiff,Nat.reduceAdd,ydp,yep,yev,yfy,h1,ydz,Ydi,hds,ypa hv,yop,hfm,yu1,ye5,hx,yfv,hcx,yad,Ym5 hv,st_5,ld_5,yM0,yY9,outS]
   rfl
theorem c_adv:Contract Tryz.prog GG 110 yVp:=
 yac (T:=tb [] [(157,yN7)]) yBi (yao all_nil (all_cons Yu9 all_nil)) (fun a h=>w_adv a.1 a.2.1 a.2.2.1 a.2.2.2 h)
def badS(c:List Ins)(s:Sta)(b:Int):Prop:=s.pc<0∨(c.length:Int)≤s.pc∨s.fuel<0∨32768<s.fuel∨s.clause≠0∨b<0∨64<b∨64 - b<(s.stack.length:Int)
instance (c:List Ins) (s:Sta) (b:Int):Decidable (badS c s b):=by unfold badS; infer_instance
def yi8(c:List Ins)(s:Sta)(b:Int):Int:=if s.status≠0 then 211 else if(ycc c).2≠0 then(ycc c).2 else if badS c s b then 1 else 0
noncomputable def yEg:List D→Option D:=spOf (α:=List Ins×Sta×Int) (fun a=>[.slc (nz 3 (a.1.map insD)) (a.1.map insD) false,staD a.2.1,.int .i64 a.2.2]) (fun a=>a.1.length≤4294967296) (fun a=>.int .i64 (yi8 a.1 a.2.1 a.2.2))
theorem yT5(c:List Ins)(s:Sta)(b:Int)(h:c.length≤4294967296):yEg [.slc (nz 3 (c.map insD)) (c.map insD) false,staD s,.int .i64 b]=some (.int .i64 (yi8 c s b)):=
 yae (fun⟨a0,a1,a2⟩ ⟨b0,b1,b2⟩ h=>by simp only[List.cons.injEq,D.slc.injEq,D.int.injEq,true_and,and_true,yea,yxi]at h; simp[h]) (c,s,b) h
theorem Yke(c:List Ins)(s:Sta)(b:Int)(h:c.length≤4294967296):@wW GG (tb [(47,yEd)] []) yod.code (argF [.slc (nz 3 (c.map insD)) (c.map insD) false,staD s,.int .i64 b]) [] ⟨retQ yod.res (.int .i64 (yi8 c s b))⟩:=by
 have hv:=yJ5 c (by omega)
 unfold yod
 by_cases h1:s.status=0
 ·by_cases h2:(ycc c).2=0
  ·have e:yi8 c s b=if badS c s b then 1 else 0:=by unfold yi8; rw[if_neg (by simp[h1]),if_neg (by simp[h2])]
   rw[e]
   by_cases q1:s.pc<0
   ·rw[if_pos (.inl q1)]
    simp (disch:=first|omega|decide) only[push_cast,↓reduceIte,Nat.reduceEqDiff,yep,ye5,ygj,h1,hv,h2,q1]
   by_cases q2:(c.length:Int)≤s.pc
   ·rw[if_pos (.inr (.inl q2))]
    simp (disch:=first|omega|decide) only[push_cast,↓reduceIte,Nat.reduceEqDiff,yep,ye5,ygj,h1,hv,h2,q1,q2]
   by_cases q3:s.fuel<0
   ·rw[if_pos (.inr (.inr (.inl q3)))]
    simp (disch:=first|omega|decide) only[push_cast,↓reduceIte,Nat.reduceEqDiff,yep,ye5,yfy,ygj,h1,hv,h2,q1,q2,q3]
   by_cases q4:32768<s.fuel
   ·rw[if_pos (.inr (.inr (.inr (.inl q4))))]
    simp (disch:=first|omega|decide) only[push_cast,↓reduceIte,Nat.reduceEqDiff,yep,ye5,yfy,ygj,h1,hv,h2,q1,q2,q3,q4]
   by_cases q5:s.clause=0
   ·by_cases q6:b<0
    ·rw[if_pos (.inr (.inr (.inr (.inr (.inr (.inl q6))))))]
     simp (disch:=first|omega|decide) only[push_cast,↓reduceIte,Nat.reduceEqDiff,yep,ye5,yfy,ygj,ynv,h1,hv,h2,q1,q2,q3,q4,q5,q6]
    by_cases q7:64<b
    ·rw[if_pos (.inr (.inr (.inr (.inr (.inr (.inr (.inl q7)))))))]
     simp (disch:=first|omega|decide) only[push_cast,↓reduceIte,Nat.reduceEqDiff,yep,ye5,yfy,ygj,ynv,h1,hv,h2,q1,q2,q3,q4,q5,q6,q7]
    by_cases q8:64 - b<(s.stack.length:Int)
    ·rw[if_pos (.inr (.inr (.inr (.inr (.inr (.inr (.inr q8)))))))]
     simp (disch:=first|omega|decide) only[push_cast,↓reduceIte,Nat.reduceEqDiff,yep,ye5,yfy,ygj,ynv,ysi,ybp,ydz,h1,hv,h2,q1,q2,q3,q4,q5,q6,q7,q8]
    ·rw[if_neg (by unfold badS; omega)]
     simp (disch:=first|omega|decide) only[push_cast,↓reduceIte,Nat.reduceEqDiff,yep,ye5,yfy,ygj,ynv,ysi,ybp,ydz,h1,hv,h2,q1,q2,q3,q4,q5,q6,q7,q8]
   ·rw[if_pos (.inr (.inr (.inr (.inr (.inl q5)))))]
    simp (disch:=first|omega|decide) only[push_cast,↓reduceIte,Nat.reduceEqDiff,yep,ye5,yfy,ygj,ynv,h1,hv,h2,q1,q2,q3,q4,q5]
  ·rw[show yi8 c s b=(ycc c).2 by unfold yi8; rw[if_neg (by simp[h1]),if_pos h2]]
   simp (disch:=first|omega|decide) only[push_cast,↓reduceIte,Nat.reduceEqDiff,yep,ygj,h1,hv,h2]
 ·rw[show yi8 c s b=211 from if_pos h1]
  simp (disch:=first|omega|decide) only[push_cast,↓reduceIte,Nat.reduceEqDiff,yep,ygj,h1]
theorem Ypk:Contract Tryz.prog GG 108 yEg:=
 yac yG6 (yao (all_cons Yjz all_nil) all_nil) (fun a h=>Yke a.1 a.2.1 a.2.2 h)
theorem yGz{c:List Ins}(h:(ycc c).2=0):c.length≤4096∧0<c.length∧c.all ybg=true∧∃ s,verL c.length c 0 (dep0 c.length) 0=some s∧s≤64:=by
 unfold ycc at h
 split at h
 ·simp at h
 split at h
 ·simp at h
 rename_i h1 h2
 have h3:¬ c.length=0:=fun e=>h2 (.inl e)
 have h4:c.all ybg=true:=by
  cases hb:c.all ybg with
  |true=>rfl
  |false=>exact absurd (.inr hb) h2
 cases hv:verL c.length c 0 (dep0 c.length) 0 with
 |none=>rw[hv]at h; simp[yl8]at h
 |some s=>
  rw[hv]at h
  simp only[yl8]at h
  split at h
  ·simp at h
  ·exact⟨by omega,by omega,h4,s,rfl,by omega⟩
theorem Yel{c:List Ins}{v:Int×List Int}{s:Sta}{b:Int}(hv:vOK v)(h:yi8 c s b=0):aOK c v s b∧s.status=0∧s.clause=0∧(ycc c).2=0:=by
 unfold yi8 at h
 split at h
 ·simp at h
 split at h
 ·rename_i h2; exact absurd h h2
 split at h
 ·simp at h
 rename_i h1 h2 h3
 have h1':s.status=0:=by omega
 have h2':(ycc c).2=0:=by omega
 obtain⟨a1,a2,a3,_⟩:=yGz h2'
 unfold badS at h3
 exact⟨⟨hv,by omega,by omega,by omega,by omega,by omega,by omega,a3,by omega,by omega⟩,h1',by omega,h2'⟩
def zSta:Sta:=⟨0,0,0,0,[]⟩
def yrh(f:Int):Sta:=if f<0∨32768<f then zSta else {zSta with fuel:=f}
def yyw(f:Int):Int:=if f<0∨32768<f then 1 else 0
theorem yZ1:yam [.int .i64 0,.int .i64 0,.int .i64 0,.int .i64 0,.slc 0 [] true] []=some [.int .i64 0,.int .i64 0,.int .i64 0,.int .i64 0,.slc 0 [] true]:=(rfl)
theorem Yoq(f:Int):yam [.int .i64 0,.int .i64 0,.int .i64 0,.int .i64 0,.slc 0 [] true] [(1,1,.int .i64 f)]=some [.int .i64 0,.int .i64 f,.int .i64 0,.int .i64 0,.slc 0 [] true]:=(rfl)
noncomputable def yEf:List D→Option D:=spOf (α:=Int) (fun a=>[.int .i64 a]) (fun a=>True) (fun a=>.tup [staD (yrh a),.int .i64 (yyw a)])
theorem yT3(f:Int):yEf [.int .i64 f]=some (.tup [staD (yrh f),.int .i64 (yyw f)]):=
 yae (fun a b h=>by simp only[List.cons.injEq,D.int.injEq,true_and,and_true]at h; simp[h]) (f) trivial
theorem Ykd(f:Int):@wW GG (tb [] []) yog.code (argF [.int .i64 f]) [] ⟨retQ yog.res (.tup [staD (yrh f),.int .i64 (yyw f)])⟩:=by
 unfold yog
 by_cases h1:f<0
 ·rw[show yrh f=zSta from if_pos (.inl h1),show yyw f=1 from if_pos (.inl h1)]
  simp (disch:=first|omega|decide) only[push_cast,↓reduceIte,Nat.reduceEqDiff,yev,h1,yZ1,st_5,ld_5]
  rfl
 ·by_cases h2:32768<f
  ·rw[show yrh f=zSta from if_pos (.inr h2),show yyw f=1 from if_pos (.inr h2)]
   simp (disch:=first|omega|decide) only[push_cast,↓reduceIte,Nat.reduceEqDiff,yev,h1,h2,yZ1,st_5,ld_5]
   rfl
  ·rw[show yrh f={zSta with fuel:=f} from if_neg (by omega),show yyw f=0 from if_neg (by omega)]
   simp (disch:=first|omega|decide) only[push_cast,↓reduceIte,Nat.reduceEqDiff,yev,h1,h2,Yoq,st_5,ld_5]
   rfl
theorem Ypj:Contract Tryz.prog GG 48 yEf:=
 yac yG9 (yao all_nil all_nil) (fun a h=>Ykd a)
def ysk(c:List Ins)(s:Sta):Ins:=c.getD s.pc.toNat default
def opS(o:Opn):Sta:=⟨o.pc,o.fuel,o.status,o.clause,o.top⟩
def zOpn:Opn:=⟨0,0,0,0,[],0,yab⟩
def Yf3(c:List Ins)(o:Opn):Prop:=0<o.fuel∧0<o.depth∧(o.top.length:Int)<ynp (ysk c (opS o)).op
instance (c:List Ins) (o:Opn):Decidable (Yf3 c o):=by unfold Yf3; infer_instance
def sOpn(s:Sta)(o:Opn):Opn:=⟨s.pc,s.fuel,s.status,s.clause,s.stack,o.depth,o.rest⟩
def ypg(c:List Ins)(o:Opn):Int:=if yi8 c (opS o) o.depth=0 then(if Yf3 c o then 390 else 0)else yi8 c (opS o) o.depth
def ypf(c:List Ins)(v:Int×List Int)(o:Opn):Opn:=if ypg c o=0 then sOpn (advF v o.depth (opS o) (ysk c (opS o))) o else zOpn
theorem yAk(cs:List D):yam cs []=some cs:=(rfl)
theorem yAj(o:Opn):yam [.int .i64 0,.int .i64 0,.int .i64 0,.int .i64 0,.slc 0 [] true] [(0,1,.int .i64 o.pc),(1,1,.int .i64 o.fuel),(2,1,.int .i64 o.status),(3,1,.int .i64 o.clause),(4,1,ybq o.top)]=some (staC (opS o)):=(rfl)
theorem yBe(s:Sta):D.agg (staC s)=staD s:=(rfl)
theorem yZx(x:Ins)(st:St):pfld st 0 (.eptr (insD x) 0)=some (.eptr (insD x) 0):=(rfl)
theorem yOp(st:St)(x:Ins):yde st 1 false (.eptr (insD x) 0)=some (.int .i64 x.op):=(rfl)
theorem yF9(s:Sta)(o:Opn):yam (opC 0 0 0 0 (.slc 0 [] true) 0 yab) [(0,1,.int .i64 s.pc),(1,1,.int .i64 s.fuel),(2,1,.int .i64 s.status),(3,1,.int .i64 s.clause),(4,1,ybq s.stack),(5,1,.int .i64 o.depth),(6,32,digD o.rest)]=some (opnC (sOpn s o)):=yPy ..
theorem yVk(a b c d:Int)(t:D)(k:Int)(r:Dig)(o:Opn):stO (some ⟨false,1,opC a b c d t k r,false⟩) 38 0 (.agg (opnC o))=some ⟨false,1,opnC o,false⟩:=yHn ..
theorem yYh(lent:Bool)(o:Opn):ldO (some ⟨false,1,opnC o,lent⟩) 38 true 0=some (opnD o):=ySw ..
noncomputable def yEe:List D→Option D:=spOf (α:=List Ins×(Int×List Int)×Opn) (fun a=>[.slc (nz 3 (a.1.map insD)) (a.1.map insD) false,evD a.2.1,opnD a.2.2]) (fun a=>a.1.length≤4294967296∧vOK a.2.1) (fun a=>.tup [opnD (ypf a.1 a.2.1 a.2.2),.int .i64 (ypg a.1 a.2.2)])
theorem yT2(c:List Ins)(v:Int×List Int)(o:Opn)(h:c.length≤4294967296∧vOK v):yEe [.slc (nz 3 (c.map insD)) (c.map insD) false,evD v,opnD o]=some (.tup [opnD (ypf c v o),.int .i64 (ypg c o)]):=
 yae (fun⟨a0,a1,a2⟩ ⟨b0,b1,b2⟩ h=>by simp only[List.cons.injEq,D.slc.injEq,and_true,yea,yqt,yh2]at h; simp[h]) (c,v,o) h
theorem Ykc(c:List Ins)(v:Int×List Int)(o:Opn)(h:c.length≤4294967296∧vOK v):@wW GG (tb [(108,yEg),(109,yxm),(110,yVp)] []) yid.code (argF [.slc (nz 3 (c.map insD)) (c.map insD) false,evD v,opnD o]) [] ⟨retQ yid.res (.tup [opnD (ypf c v o),.int .i64 (ypg c o)])⟩:=by
 obtain⟨hc,hv⟩:=h
 have hr:=yT5 c (opS o) o.depth hc
 unfold yid
 have l0:=Yjn false o.pc o.fuel o.status o.clause (ybq o.top) o.depth o.rest
 have l1:=Yjm false o.pc o.fuel o.status o.clause (ybq o.top) o.depth o.rest
 have l2:=yYj false o.pc o.fuel o.status o.clause (ybq o.top) o.depth o.rest
 have l3:=Yjl false o.pc o.fuel o.status o.clause (ybq o.top) o.depth o.rest
 have l4:=yYi false o.pc o.fuel o.status o.clause (ybq o.top) o.depth o.rest
 have l5:=yI1 false o.pc o.fuel o.status o.clause (ybq o.top) o.depth o.rest
 have l6:=Yjk false o.pc o.fuel o.status o.clause (ybq o.top) o.depth o.rest
 rw[← yj3]at l0 l1 l2 l3 l4 l5 l6
 by_cases h1:yi8 c (opS o) o.depth=0
 ·obtain⟨ha,hs,hcl,hvf⟩:=Yel hv h1
  have hpl:o.pc.toNat<c.length:=by have:=ha.p0; have:=ha.p1; simp only[opS]at *; omega
  have hx:=fun st=>yz7 st c false o.pc.toNat hpl
  rw[show((o.pc.toNat:Nat):Int)=o.pc by have:=ha.p0; simp only[opS]at *; omega]at hx
  have hx:∀ st:St,yfx st 3 (.slc (nz 3 (c.map insD)) (c.map insD) false) (.int .i64 o.pc)=some (.eptr (insD (ysk c (opS o))) 0):=hx
  have hn:=yDd (ysk c (opS o)).op
  rw[h1]at hr
  by_cases h2:Yf3 c o
  ·have e:ypg c o=390:=by unfold ypg; rw[if_pos h1,if_pos h2]
   rw[show ypf c v o=zOpn from if_neg (by rw[e]; decide),e]
   obtain⟨q1,q2,q3⟩:=h2
   simp (disch:=first|omega|decide) only[push_cast,↓reduceIte,Nat.reduceEqDiff,Nat.reduceAdd,ydp,yl6,ysc,ya8,yev,l0,l1,l2,l3,l4,l5,yAj,yBe,yph,yop,ynx,hr,q1,q2,ybp,hx,yZx,yOp,hn,q3,yAk,yHn,ySw,yPk]
   rfl
  ·have e:ypg c o=0:=by unfold ypg; rw[if_pos h1,if_neg h2]
   rw[show ypf c v o=sOpn (advF v o.depth (opS o) (ysk c (opS o))) o from if_pos e,e]
   have hadv:=Yh4 c v (opS o) o.depth ha
   rw[show c.getD (opS o).pc.toNat default=ysk c (opS o)from rfl]at hadv
   generalize advF v o.depth (opS o) (ysk c (opS o))=s at*
   by_cases q1:0<o.fuel
   ·by_cases q2:0<o.depth
    ·have q3:¬ (o.top.length:Int)<ynp (ysk c (opS o)).op:=fun q=>h2 ⟨q1,q2,q⟩
     simp (disch:=first|omega|decide) only[push_cast,↓reduceIte,Nat.reduceEqDiff,Nat.reduceAdd,ydp,yl6,ysc,ya8,yev,l0,l1,l2,l3,l4,l5,l6,yAj,yBe,yph,yop,ynx,yxy,hr,q1,q2,ybp,hx,yZx,yOp,hn,q3,ypa hv,yba,yby,hadv,yVj,ye5,yfy,ygj,ynv,ysi,yF9,yVk,yYh,ya5]
    ·simp (disch:=first|omega|decide) only[push_cast,↓reduceIte,Nat.reduceEqDiff,Nat.reduceAdd,ydp,yl6,ysc,ya8,yev,l0,l1,l2,l3,l4,l5,l6,yAj,yBe,yph,yop,ynx,yxy,hr,q1,q2,ypa hv,yba,yby,hadv,yVj,ye5,yfy,ygj,ynv,ysi,yF9,yVk,yYh,ya5]
   ·simp (disch:=first|omega|decide) only[push_cast,↓reduceIte,Nat.reduceEqDiff,Nat.reduceAdd,ydp,yl6,ysc,ya8,yev,l0,l1,l2,l3,l4,l5,l6,yAj,yBe,yph,yop,ynx,yxy,hr,q1,ypa hv,yba,yby,hadv,yVj,ye5,yfy,ygj,ynv,ysi,yF9,yVk,yYh,ya5]
 ·have e:ypg c o=yi8 c (opS o) o.depth:=if_neg h1
  rw[show ypf c v o=zOpn from if_neg (by rw[e]; exact h1),e]
  simp (disch:=first|omega|decide) only[push_cast,↓reduceIte,Nat.reduceEqDiff,Nat.reduceAdd,ydp,yl6,ysc,ya8,yev,l0,l1,l2,l3,l4,l5,yAj,yBe,yph,yop,ynx,hr,h1,yAk,yHn,ySw,yPk]
  rfl
theorem Ypi:Contract Tryz.prog GG 55 yEe:=
 yac yye (yao (all_cons Ypk (all_cons Ybk (all_cons c_adv all_nil))) all_nil) (fun a h=>Ykc a.1 a.2.1 a.2.2 h)
def cdD(c:List Ins):D:=.slc (nz 3 (c.map insD)) (c.map insD) false
theorem Yav{a b:List Ins}:cdD a=cdD b↔a=b:=by
 refine⟨fun h=>?_,fun h=>by rw[h]⟩
 simp only[cdD,D.slc.injEq,and_true]at h
 exact(List.map_inj_right (fun x y h=>yq0.1 h)).1 h.2
def stB(s:Sta):PI.Obj:=⟨false,1,staC s,false⟩
inductive RunY (y:List D→St→Option (D×St)) (k kc kv:Nat):List Sta→Nat→St→St→Prop
 |stop {s:Sta} {l:List Sta} {i:Nat} {st st1:St} (h:y [.int .i64 (i:Int),staD s] st=some (.bool false,st1)):RunY y k kc kv (s::l) i st st1
 |last {s:Sta} {i:Nat} {st st1:St} (h:y [.int .i64 (i:Int),staD s] st=some (.bool true,st1)) (hk:st1[k]?=some (stB s)):RunY y k kc kv [s] i st st1
 |next {s s':Sta} {l:List Sta} {i:Nat} {st st1 st2:St} (h:y [.int .i64 (i:Int),staD s] st=some (.bool true,st1)) (hk:st1[k]?=some (stB s)) (hc:st1[kc]?=st[kc]?) (hv:st1[kv]?=st[kv]?)
   (hl:RunY y k kc kv (s'::l) (i+1) (st1.set k (stB s')) st2):RunY y k kc kv (s::s'::l) i st st2
def Yqo(c:List Ins)(out:Int)(i:Nat)(D:Nat→Int):Prop:=
 ∀ j,i≤j→j<c.length→0≤D j→¬ yi7 (c.getD j default) (D j)∧D j≤out∧yce (c.getD j default) (D j)≤out∧
  ∀ n∈ysd (c.getD j default) j,(j:Int)<n∧n<c.length∧D n.toNat=yce (c.getD j default) (D j)
structure Good (c:List Ins) (D:Nat→Int) (s:Sta):Prop where
 st:s.status=0
 cl:s.clause=0
 p0:0≤s.pc
 p1:s.pc<c.length
 d:D s.pc.toNat=s.stack.length
 u0:0≤s.fuel
 u1:s.fuel≤32768
structure Last (s:Sta):Prop where
 st:s.status≠0
 s0:0≤s.status
 s1:s.status≤100000
 l:s.stack.length≤64
theorem Good.len{c:List Ins}{D:Nat→Int}{s:Sta}(hD:Yqo c 64 0 D)(h:Good c D s):s.stack.length≤64:=by
 have h1:=h.d
 have h2:=h.p0
 have h3:=h.p1
 have:=(hD s.pc.toNat (by omega) (by omega) (by omega)).2.1
 omega
theorem Good.ready{c:List Ins}{D:Nat→Int}{s:Sta}(hv:(ycc c).2=0)(hD:Yqo c 64 0 D)(h:Good c D s):yi8 c s 0=0:=by
 unfold yi8
 have hl:=h.len hD
 have h1:=h.st
 have h2:=h.p0
 have h3:=h.p1
 have h4:=h.u0
 have h5:=h.u1
 have h6:=h.cl
 rw[if_neg (by omega),if_neg (by omega),if_neg (by unfold badS; omega)]
theorem Ycf{c:List Ins}(h:c.all ybg=true){j:Nat}(hj:j<c.length):ybg (c.getD j default)=true:=by
 rw[List.getD_eq_getElem?_getD,List.getElem?_eq_getElem hj]
 exact List.all_eq_true.1 h _ (List.getElem_mem hj)
theorem yTg{x:Ins}(h:ybg x=true):1≤x.op∧x.op≤16:=⟨(of_decide_eq_true h).1,(of_decide_eq_true h).2.1⟩
theorem Yfh{op:Int}(h:1≤op∧op≤16):ynp op=(effF op).1:=by
 have:op=1∨op=2∨op=3∨op=4∨op=5∨op=6∨op=7∨op=8∨op=9∨op=10∨op=11∨op=12∨op=13∨op=14∨op=15∨op=16:=by omega
 rcases this with rfl | rfl | rfl | rfl | rfl | rfl | rfl | rfl | rfl | rfl | rfl | rfl | rfl | rfl | rfl | rfl <;> rfl
theorem Good.step{c:List Ins}{D:Nat→Int}{v:Int×List Int}{s:Sta}(hf:c.all ybg=true)(hD:Yqo c 64 0 D)(h:Good c D s) :
  Last (advF v 0 s (ysk c s))∨(Good c D (advF v 0 s (ysk c s))∧s.pc<(advF v 0 s (ysk c s)).pc∧(advF v 0 s (ysk c s)).fuel=s.fuel - 1):=by
 have hl:=h.len hD
 obtain⟨h1,h2,h3,h4,h5,h6,h7⟩:=h
 have hj:s.pc.toNat<c.length:=by omega
 have hfx:ybg (ysk c s)=true:=Ycf hf hj
 have hop:=yTg hfx
 obtain⟨q1,q2,q3,q4⟩:=hD s.pc.toNat (by omega) hj (by omega)
 rw[show c.getD s.pc.toNat default=ysk c s from rfl]at q1 q3 q4
 generalize ysk c s=x at*
 rw[h5]at q1 q3 q4
 have hneed:=Yfh hop
 unfold advF
 by_cases hu:s.fuel=0
 ·rw[if_pos hu]
  exact .inl ⟨by simp,by simp,by simp,hl⟩
 rw[if_neg hu]
 have hns:¬ ((decS s).stack.length:Int)<ynp x.op:=by
  unfold yi7 at q1
  show ¬ ((s.stack.length:Int)<ynp x.op)
  omega
 have hex:exO v 0 (decS s) x=outF v 0 (decS s) x:=if_neg hns
 have nx:∀ (n:Int),n∈ysd x s.pc.toNat→s.pc<n∧n<c.length∧D n.toNat=yce x s.stack.length:=fun n hn=>by
  have:=q4 n hn
  exact⟨by omega,this.2⟩
 have nx1:x.op≠14→x.op≠15→x.op≠16→s.pc<s.pc+1∧s.pc+1<c.length∧D (s.pc+1).toNat=yce x s.stack.length:=fun a b d=>by
  refine nx (s.pc+1) ?_
  unfold ysd
  rw[if_pos (show x.op≠14∧x.op≠15∧x.op≠16 from⟨a,b,d⟩)]
  simp; omega
 have nx2:x.op=13∨x.op=14→s.pc<x.n∧x.n<c.length∧D x.n.toNat=yce x s.stack.length:=fun a=>by
  refine nx x.n ?_
  unfold ysd
  rw[if_pos a]
  simp
 -- what each outcome comes to
 have herr:∀ e,exO v 0 (decS s) x=.err e→Last (outS (decS s) (exO v 0 (decS s) x)):=fun e he=>by
  have:=yZ8 he
  rw[he]
  exact⟨by simp only[outS]; omega,by simp only[outS]; omega,by simp only[outS]; omega,hl⟩
 have hpop:∀ k push pc,exO v 0 (decS s) x=.pop k push pc→k≤s.stack.length→((s.stack.length - k+push.toList.length:Nat):Int)=yce x s.stack.length→(s.pc<pc.getD (s.pc+1)∧pc.getD (s.pc+1)<c.length∧D (pc.getD (s.pc+1)).toNat=yce x s.stack.length)→
   Good c D (outS (decS s) (exO v 0 (decS s) x))∧s.pc<(outS (decS s) (exO v 0 (decS s) x)).pc∧(outS (decS s) (exO v 0 (decS s) x)).fuel=s.fuel - 1:=fun k push pc he hk hln hpc=>by
  rw[he]
  refine⟨⟨h1,h2,?_,hpc.2.1,?_,?_,?_⟩,hpc.1,rfl⟩
  ·show 0≤pc.getD (s.pc+1); omega
  ·show D (pc.getD (s.pc+1)).toNat=((s.stack.take (s.stack.length - k)++push.toList).length:Int)
   rw[hpc.2.2,← hln]
   simp
  ·show 0≤s.fuel - 1; omega
  ·show s.fuel - 1≤32768; omega
 have hd:(effF x.op).1≤s.stack.length:=by unfold yi7 at q1; omega
 by_cases o1:x.op=1
 ·have he:exO v 0 (decS s) x=.pop 0 (some x.n) none:=by
   rw[hex]; unfold outF
   rw[if_pos o1,if_neg]
   have:yce x s.stack.length=s.stack.length+1:=by unfold yce; rw[o1]; simp[effF]
   show ¬ (64:Int)≤0+s.stack.length
   omega
  refine .inr (hpop _ _ _ he (by omega) ?_ (nx1 (by omega) (by omega) (by omega)))
  unfold yce; rw[o1]; simp[effF]
 by_cases o2:x.op=2
 ·have hl64:¬ (64:Int)≤0+(decS s).stack.length:=by
   have:yce x s.stack.length=s.stack.length+1:=by unfold yce; rw[o2]; simp[effF]
   show ¬ (64:Int)≤0+s.stack.length
   omega
  by_cases b1:andI v.1 (bitI x.n)=0
  ·have he:exO v 0 (decS s) x=.err 181:=by
    rw[hex]; unfold outF
    rw[if_neg o1,if_pos o2,if_neg hl64,if_pos b1]
   exact .inl (herr _ he)
  by_cases b2:at' v.2 x.n.toNat < -9007199254740992∨9007199254740992<at' v.2 x.n.toNat
  ·have he:exO v 0 (decS s) x=.err 3:=by
    rw[hex]; unfold outF
    rw[if_neg o1,if_pos o2,if_neg hl64,if_neg b1,if_pos b2]
   exact .inl (herr _ he)
  have he:exO v 0 (decS s) x=.pop 0 (some (at' v.2 x.n.toNat)) none:=by
   rw[hex]; unfold outF
   rw[if_neg o1,if_pos o2,if_neg hl64,if_neg b1,if_neg b2]
  refine .inr (hpop _ _ _ he (by omega) ?_ (nx1 (by omega) (by omega) (by omega)))
  unfold yce; rw[o2]; simp[effF]
 by_cases o12:x.op=12
 ·have he:exO v 0 (decS s) x=.pop 1 (some (if x.n≤topS (decS s) 0∧topS (decS s) 0≤x.m then 1 else 0)) none:=by
   rw[hex]; unfold outF
   rw[if_neg o1,if_neg o2,if_pos o12]
  have:(effF x.op).1=1:=by rw[o12]; rfl
  refine .inr (hpop _ _ _ he (by omega) ?_ (nx1 (by omega) (by omega) (by omega)))
  unfold yce; rw[o12]; simp[effF]; omega
 by_cases o13:x.op=13
 ·have he:exO v 0 (decS s) x=.pop 1 none (if topS (decS s) 0=0 then some x.n else none):=by
   rw[hex]; unfold outF
   rw[if_neg o1,if_neg o2,if_neg o12,if_pos o13]
  have:(effF x.op).1=1:=by rw[o13]; rfl
  refine .inr (hpop _ _ _ he (by omega) ?_ ?_)
  ·unfold yce; rw[o13]; simp[effF]; omega
  ·split
   ·exact nx2 (.inl o13)
   ·exact nx1 (by omega) (by omega) (by omega)
 by_cases o14:x.op=14
 ·have he:exO v 0 (decS s) x=.set x.n s.status s.clause:=by
   rw[hex]; unfold outF
   rw[if_neg o1,if_neg o2,if_neg o12,if_neg o13,if_pos o14]; rfl
  obtain⟨m1,m2,m3⟩:=nx2 (.inr o14)
  right
  rw[he]
  refine⟨⟨h1,h2,?_,m2,?_,?_,?_⟩,m1,rfl⟩
  ·show 0≤x.n; omega
  ·show D x.n.toNat=(s.stack.length:Int)
   rw[m3]; unfold yce; rw[o14]; simp[effF]
  ·show 0≤s.fuel - 1; omega
  ·show s.fuel - 1≤32768; omega
 by_cases o15:x.op=15
 ·have he:exO v 0 (decS s) x=.set s.pc 1 x.n:=by
   rw[hex]; unfold outF
   rw[if_neg o1,if_neg o2,if_neg o12,if_neg o13,if_neg o14,if_pos o15]; rfl
  left
  rw[he]
  exact⟨by simp[outS],by simp[outS],by simp[outS],hl⟩
 by_cases o16:x.op=16
 ·have he:exO v 0 (decS s) x=.err 180:=by
   rw[hex]; unfold outF
   rw[if_neg o1,if_neg o2,if_neg o12,if_neg o13,if_neg o14,if_neg o15,if_pos o16]
  exact .inl (herr _ he)
 by_cases b1:(binF x.op (topS (decS s) 1) (topS (decS s) 0)).2=0
 ·have he:exO v 0 (decS s) x=.pop 2 (some (binF x.op (topS (decS s) 1) (topS (decS s) 0)).1) none:=by
   rw[hex]; unfold outF
   rw[if_neg o1,if_neg o2,if_neg o12,if_neg o13,if_neg o14,if_neg o15,if_neg o16,if_pos b1]
  have e2:effF x.op=(2,1):=by
   unfold effF
   rw[if_neg (by omega),if_neg (by omega),if_neg (by omega),if_neg (by omega)]
  rw[e2]at hd
  refine .inr (hpop _ _ _ he (by omega) ?_ (nx1 (by omega) (by omega) (by omega)))
  unfold yce; rw[e2]; simp; omega
 ·have he:exO v 0 (decS s) x=.err (binF x.op (topS (decS s) 1) (topS (decS s) 0)).2:=by
   rw[hex]; unfold outF
   rw[if_neg o1,if_neg o2,if_neg o12,if_neg o13,if_neg o14,if_neg o15,if_neg o16,if_neg b1]
  exact .inl (herr _ he)
end Go.Proofs.YtijnglngaogdjaaGreatDoor.PI
