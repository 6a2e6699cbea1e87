/-
  teval: Eval.
  Conditions: none; these are lemmas.
-/
import Derived.Test.YtfbbaceiimdejaaGreatDoorEngW
import Derived.Test.YtfbbaceiimdejaaGreatDoorEngHd
import Derived.WideKeyElems2
import Derived.LaidMore
import Derived.LaidHandle
import Derived.Lib.LaidTab
import Derived.KernelRfl
import Derived.Test.YtfbbaceiimdejaaGreatDoorFnsA
import Derived.Test.YtfbbaceiimdejaaGreatDoorEngHf
import Derived.Test.YtfbbaceiimdejaaGreatDoorFnsE
set_option linter.unusedVariables false
set_option linter.unusedSimpArgs false
namespace Go.Proofs.YtfbbaceiimdejaaGreatDoor.PI
open Go
def sigT:List (Int×List UInt8):=[(40,[40]),(41,[41]),(42,[42]),(43,[43]),(44,[44]),(45,[45]),(46,[46,46]),(59,[59]),(60,[60]),(123,[123]),(125,[125])]
def resT:List (List UInt8):=[[97,110,100],[98,101,103,105,110],[99,108,97,115,115],[99,108,97,117,115,101],[99,108,101,97,110,105,110,103],[99,111,100,101],[99,111,115,116],[100,101,109,117,114,114,97,103,101],[100,111,119,110],[102,111,114],[102,114,101,105,103,104,116],[104,97,108,102],[104,105,114,101],[105,102],[105,110],[105,115],[107,103],[107,109],[108,111,115,115],[109,97,120],[109,105,110],[109,105,110,117,116,101],[109,105,110,117,116,101,115],[109,111,110,101,121],[109,111,110,116,104],[111,119,110,101,114],[112,97,114,116],[112,97,114,116,115],[112,97,121],[112,101,114],[114,97,105,108,119,97,121],[114,101,112,97,105,114],[115,104,105,112,112,101,114],[116,97,114,105,102,102],[116,121,112,101],[117,112],[119,101,105,103,104,116],[119,104,101,110],[119,111,114,107,105,110,103],[119,111,114,116,104]]
def spcT:List Int:=List.replicate 9 0++(List.replicate 5 1++(List.replicate 18 0++(1::List.replicate 223 0)))
def GG:Glob:=fun n=>if n=0 then some (.gmap (.s sigT))else if n=1 then some (.gmap (.b resT))else tabG 2 .u8 spcT n
end Go.Proofs.YtfbbaceiimdejaaGreatDoor.PI
namespace Go.Proofs.YtfbbaceiimdejaaGreatDoor.PI
open Go Go.WideElems
set_option linter.unusedSimpArgs false
set_option linter.unusedVariables false
def varAt(P:Program)(W:World)(n:String)(d:DataW Unit):Prop:=
 ∃ g t cs fuel p,P.globalNamed n=some g∧(P.globals[g]?).map (·.type)=some t∧W.var? P n=some cs∧DataW.trod (fun _=>()) P W 0 (fun _=>true) false fuel t cs.toList=some (d,p)
theorem laid_var{P:Program}{W:World}{n:String}{d:DataW Unit}:∀ {l:List (String×DataW Unit)} {ps:List MemPlace},DataW.LaidVars P W l ps→(n,d)∈l→varAt P W n d
 |[],_,_,h=>by cases h
 |(n',d')::r,ps,h,hm=>by
  obtain⟨g,t,cs,fuel,p,q,h1,h2,h3,h4,h5,_⟩:=h
  rcases List.mem_cons.1 hm with e | hm
  ·simp only[Prod.mk.injEq]at e
   obtain⟨rfl,rfl⟩:=e
   exact⟨g,t,cs,fuel,p,h1,h2,h3,h4⟩
  ·exact laid_var h5 hm
theorem strV_of{P:Program}{W:World}{n:Nat}{e:TypeId}{v:Value}{z:DataW Unit×List MemPlace}{s:List UInt8}(he:P.underlying e=some .string)(h:elemAt (fun _=>()) P W 0 (fun _=>true) false n e v=some z)(hz:.lit (.string s)=z.1):v=.string ⟨s.toArray⟩:=by
 unfold elemAt at h
 split at h
 case isFalse=>cases h
 rename_i hf
 obtain⟨b,h1,rfl,_⟩:=DataW.trod_string he h
 simp only[DataW.lit.injEq,Lit.string.injEq]at hz
 subst hz
 unfold Value.formed at hf
 rw[he]at hf
 cases v <;> simp_all [Value.cells]
theorem boolV_of{P:Program}{W:World}{n:Nat}{e:TypeId}{v:Value}{z:DataW Unit×List MemPlace}{b:Bool}(he:P.underlying e=some .bool)(h:elemAt (fun _=>()) P W 0 (fun _=>true) false n e v=some z)(hz:.lit (.bool b)=z.1):v=.bool b:=by
 unfold elemAt at h
 split at h
 case isFalse=>cases h
 rename_i hf
 obtain⟨b',h1,rfl⟩:=DataW.trod_bool he h
 simp only[DataW.lit.injEq,Lit.bool.injEq]at hz
 subst hz
 unfold Value.formed at hf
 rw[he]at hf
 cases v <;> simp_all [Value.cells]
theorem key_int{P:Program}{k:TypeId}{v:Value}{n:Int}{kd:IntKind}(hu:P.underlying k=some (.int kd))(h:keyOf P k v=some (.int kd n)):v=.int kd n:=by
 unfold keyOf mapKey at h
 rw[hu]at h
 simp only at h
 split at h
 ·rename_i h1; cases h1
 ·rename_i h1; simp only[Option.some.injEq,TypeDesc.int.injEq]at h1; subst h1
  split at h
  ·simp only[Option.some.injEq,Lit.int.injEq]at h
   rename_i hq
   rw[← hq.1,h.2]
  ·cases h
 ·rename_i h1; cases h1
 ·cases h
theorem key_str{P:Program}{k:TypeId}{v:Value}{s:List UInt8}(hu:P.underlying k=some .string)(h:keyOf P k v=some (.string s)):v=.string ⟨s.toArray⟩:=by
 unfold keyOf mapKey at h
 rw[hu]at h
 simp only at h
 split at h
 ·rename_i h1; cases h1
 ·rename_i h1; cases h1
 ·split at h
  ·simp only[Option.some.injEq,Lit.string.injEq]at h
   subst h
   simp
  ·cases h
 ·cases h
def datS(es:List (Int×List UInt8)):List (Lit×DataW Unit):=es.map fun p=>(.int .u8 p.1,.lit (.string p.2))
def datB(es:List (List UInt8)):List (Lit×DataW Unit):=es.map fun s=>(.string s,.lit (.bool true))
def entD:Lit×DataW Unit→D
 |(.int .u8 n,.lit (.string s))=>.agg [.int .u8 n,.str s]
 |(.string s,.lit (.bool b))=>.agg [.str s,.bool b]
 |_=>.junk
theorem entD_s(es:List (Int×List UInt8)):(datS es).map entD=(GT.s es).els:=by
 simp only[datS,GT.els,List.map_map]
 exact List.map_congr_left fun _ _=>rfl
theorem entD_b(es:List (List UInt8)):(datB es).map entD=(GT.b es).els:=by
 simp only[datB,GT.els,List.map_map]
 exact List.map_congr_left fun _ _=>rfl
theorem fits_of{R:MapEntry→Lit×DataW Unit}{es:Array MapEntry}{l:List (Lit×DataW Unit)}{t:GT}(hp:(es.toList.map R).Perm l)(ht:l.map entD=t.els)(hnd:(t.els.map (entK 2)).Nodup)
  (he:∀ e∈es.toList,e.key=vOf (entK 2 (entD (R e)))∧e.val=vOf (entV 2 (entD (R e)))):MapFits es t:=by
 refine⟨(es.toList.map R).map entD,by rw[← ht]; exact hp.map _,by simp,fun i e el h1 h2=>?_,hnd⟩
 have h3:es.toList[i]?=some e:=by simpa using h1
 rw[List.getElem?_map,List.getElem?_map,h3]at h2
 simp only[Option.map_some,Option.some.injEq]at h2
 subst h2
 exact he e (List.mem_of_getElem? h3)
set_option maxRecDepth 20000 in
theorem mapS_at{P:Program}{W:World}{n:String}{g t k e:Nat}{es:List (Int×List UInt8)}(hg:P.globalNamed n=some g)(ht:(P.globals[g]?).map (·.type)=some t)(hu:P.underlying t=some (.map k e))(hk:P.underlying k=some (.int .u8))(he:P.underlying e=some .string)
  (hnd:((GT.s es).els.map (entK 2)).Nodup) (hne:es≠[]) (h:varAt P W n (.map (datS es))):∃ b ents clock,W.cell? ⟨g,0,none⟩=some (.map (some b))∧W.heap[b]?=some (.map ents clock)∧spM (.map ents clock)=true∧MapFits ents (.s es):=by
 obtain⟨g',t',cs,fuel,p,hg',ht',hv,hd⟩:=h
 obtain rfl:=Option.some.inj (hg.symm.trans hg')
 obtain rfl:=Option.some.inj (ht.symm.trans ht')
 rcases open_map hu hd with⟨_,hx⟩ | ⟨b,ents,clock,m,rfl,hcs,hb,_,F,hx⟩
 ·cases hx
 simp only[Prod.mk.injEq,DataW.map.injEq]at hx
 have hp:(ents.toList.map (rg P k (elemAt (fun _=>()) P W 0 (fun _=>true) false m e))).Perm (datS es):=by
  rw[hx.1]; exact(Go.WideShapes.sorted_perm _).symm
 have hent:∀ x∈ents.toList,∃ q:Int×List UInt8,x.key=.int .u8 q.1∧x.val=.string ⟨q.2.toArray⟩∧rg P k (elemAt (fun _=>()) P W 0 (fun _=>true) false m e) x=(.int .u8 q.1,.lit (.string q.2)):=by
  intro x hx2
  obtain⟨y,hy⟩:=F.reads x hx2
  have hm:y∈datS es:=hp.mem_iff.1 (List.mem_map.2 ⟨x,hx2,rg_of hy⟩)
  obtain⟨q,_,rfl⟩:=List.mem_map.1 hm
  obtain⟨z,hz,hz2⟩:=rd_val hy
  exact⟨q,key_int hk (rd_key hy),strV_of he hz hz2,rg_of hy⟩
 refine⟨b,ents,clock,?_,hb,?_,fits_of hp (entD_s es) hnd fun x hx2=>?_⟩
 ·rw[World.var?_cell hg hv 0]
  obtain⟨l⟩:=cs
  have:l=[.map (some b)]:=hcs
  rw[this]; rfl
 ·have hlen:ents.size=es.length:=by have:=hp.length_eq; simpa[datS]using this
  have hlt:0<ents.size:=by
   rw[hlen]; exact List.length_pos_iff.2 hne
  rw[spM_map,Array.getElem?_eq_getElem hlt]
  obtain⟨q,h1,_⟩:=hent ents[0] (by simp)
  simp only[h1]
  rfl
 ·obtain⟨q,h1,h2,h3⟩:=hent x hx2
  rw[h3]
  exact⟨h1,h2⟩
set_option maxRecDepth 20000 in
theorem mapB_at{P:Program}{W:World}{n:String}{g t k e:Nat}{es:List (List UInt8)}(hg:P.globalNamed n=some g)(ht:(P.globals[g]?).map (·.type)=some t)(hu:P.underlying t=some (.map k e))(hk:P.underlying k=some .string)(he:P.underlying e=some .bool)
  (hnd:((GT.b es).els.map (entK 2)).Nodup) (hne:16≤es.length) (h:varAt P W n (.map (datB es))):∃ b ents clock,W.cell? ⟨g,0,none⟩=some (.map (some b))∧W.heap[b]?=some (.map ents clock)∧spM (.map ents clock)=true∧MapFits ents (.b es):=by
 obtain⟨g',t',cs,fuel,p,hg',ht',hv,hd⟩:=h
 obtain rfl:=Option.some.inj (hg.symm.trans hg')
 obtain rfl:=Option.some.inj (ht.symm.trans ht')
 rcases open_map hu hd with⟨_,hx⟩ | ⟨b,ents,clock,m,rfl,hcs,hb,_,F,hx⟩
 ·cases hx
 simp only[Prod.mk.injEq,DataW.map.injEq]at hx
 have hp:(ents.toList.map (rg P k (elemAt (fun _=>()) P W 0 (fun _=>true) false m e))).Perm (datB es):=by
  rw[hx.1]; exact(Go.WideShapes.sorted_perm _).symm
 have hent:∀ x∈ents.toList,∃ s:List UInt8,x.key=.string ⟨s.toArray⟩∧x.val=.bool true∧rg P k (elemAt (fun _=>()) P W 0 (fun _=>true) false m e) x=(.string s,.lit (.bool true)):=by
  intro x hx2
  obtain⟨y,hy⟩:=F.reads x hx2
  have hm:y∈datB es:=hp.mem_iff.1 (List.mem_map.2 ⟨x,hx2,rg_of hy⟩)
  obtain⟨s,_,rfl⟩:=List.mem_map.1 hm
  obtain⟨z,hz,hz2⟩:=rd_val hy
  exact⟨s,key_str hk (rd_key hy),boolV_of he hz hz2,rg_of hy⟩
 refine⟨b,ents,clock,?_,hb,?_,fits_of hp (entD_b es) hnd fun x hx2=>?_⟩
 ·rw[World.var?_cell hg hv 0]
  obtain⟨l⟩:=cs
  have:l=[.map (some b)]:=hcs
  rw[this]; rfl
 ·have hlen:ents.size=es.length:=by have:=hp.length_eq; simpa[datB]using this
  have hlt:0<ents.size:=by omega
  rw[spM_map,Array.getElem?_eq_getElem hlt]
  obtain⟨s,h1,_⟩:=hent ents[0] (by simp)
  simp only[h1,spK,decide_eq_true_eq]
  omega
 ·obtain⟨s,h1,h2,h3⟩:=hent x hx2
  rw[h3]
  exact⟨h1,h2⟩
theorem nd_s{es:List (Int×List UInt8)}(h:(es.map (·.1)).Nodup):((GT.s es).els.map (entK 2)).Nodup:=by
 have e:(GT.s es).els.map (entK 2)=(es.map (·.1)).map fun n=>D.int .u8 n:=by
  simp only[GT.els,List.map_map]
  exact List.map_congr_left fun _ _=>rfl
 rw[e]
 unfold List.Nodup at h ⊢
 rw[List.pairwise_map]
 exact h.imp fun hne e=>hne (by simpa using e)
theorem nd_b{es:List (List UInt8)}(h:es.Nodup):((GT.b es).els.map (entK 2)).Nodup:=by
 have e:(GT.b es).els.map (entK 2)=es.map fun s=>D.str s:=by
  simp only[GT.els,List.map_map]
  exact List.map_congr_left fun _ _=>rfl
 rw[e]
 unfold List.Nodup at h ⊢
 rw[List.pairwise_map]
 exact h.imp fun hne e=>hne (by simpa using e)
theorem gmap_glob{W:World}{t:GT}{n:Nat}(h:∃ b ents clock,W.cell? ⟨n,0,none⟩=some (.map (some b))∧W.heap[b]?=some (.map ents clock)∧spM (.map ents clock)=true∧MapFits ents t):RepV W (ghost0 W) [] (.eptr (.gmap t) 0) (.pointer (some ⟨n,0,none⟩)):=by
 obtain⟨b,ents,clock,h1,h2,h3,h4⟩:=h
 have hj:∀ (j:Nat) (d:D),(D.gmap t).cells[j]?=some d→j=0∧d=.gmap t:=fun j d hd=>by
  cases j with
  |zero=>exact⟨rfl,(Option.some.inj hd).symm⟩
  |succ j=>cases hd
 refine .eptr _ 0 _ 0 (fun _=>.map (some b)) (fun j d hd=>?_) (fun j d hd=>?_) (fun j d hd=>?_)
 ·obtain⟨rfl,rfl⟩:=hj j d hd; rfl
 ·obtain⟨rfl,rfl⟩:=hj j d hd
  exact⟨by show(W.cell? ⟨_,0,none⟩).isSome=true; rw[h1]; rfl,h1⟩
 ·obtain⟨rfl,rfl⟩:=hj j d hd
  exact .gmap _ b ents clock h2 h3 h4
theorem gS:Tryz.prog.globalNamed "wagonpool/tlex.signs"=some 0:=by kernel_rfl
theorem tS:(Tryz.prog.globals[0]?).map (·.type)=some 125:=by kernel_rfl
theorem gR:Tryz.prog.globalNamed "wagonpool/tlex.reserved"=some 1:=by kernel_rfl
theorem tR:(Tryz.prog.globals[1]?).map (·.type)=some 116:=by kernel_rfl
theorem gA:Tryz.prog.globalNamed "strings.asciiSpace"=some 2:=by kernel_rfl
theorem tA:(Tryz.prog.globals[2]?).map (·.type)=some 141:=by kernel_rfl
theorem globGG{W:World}(hs:varAt Tryz.prog W "wagonpool/tlex.signs" (.map (datS sigT)))(hr:varAt Tryz.prog W "wagonpool/tlex.reserved" (.map (datB resT)))(ha:varAt Tryz.prog W "strings.asciiSpace" (Lib.tabData .u8 spcT)):GlobOK GG W (ghost0 W):=by
 intro n d hd
 unfold GG at hd
 split at hd
 ·rename_i e
  subst e
  obtain rfl:=Option.some.inj hd
  exact gmap_glob (mapS_at (k:=5) (e:=9) gS tS (by kernel_rfl) (by kernel_rfl) (by kernel_rfl) (nd_s (by decide +kernel)) (by decide) hs)
 ·split at hd
  ·rename_i e
   subst e
   obtain rfl:=Option.some.inj hd
   exact gmap_glob (mapB_at (k:=9) (e:=4) gR tR (by kernel_rfl) (by kernel_rfl) (by kernel_rfl) (nd_b (by decide +kernel)) (by decide) hr)
  ·refine globTab (name:= "strings.asciiSpace") ?_ gA n d hd
   obtain⟨g,t,cs,fuel,p,h1,h2,h3,h4⟩:=ha
   obtain rfl:=Option.some.inj (gA.symm.trans h1)
   obtain rfl:=Option.some.inj (tA.symm.trans h2)
   unfold Lib.TabIs
   rw[h3,← Lib.cells_of_tab (e:=5) (n:=256) (by kernel_rfl) (by kernel_rfl) (by kernel_rfl) (by kernel_rfl) h4]
end Go.Proofs.YtfbbaceiimdejaaGreatDoor.PI
namespace Go.Proofs.YtfbbaceiimdejaaGreatDoor.PI
open Go
set_option linter.unusedSimpArgs false
set_option maxHeartbeats 8000000
set_option maxRecDepth 20000
set_option linter.unusedVariables false
def nI(n:Int):D:=.int .i64 n
theorem nI_iff{a b:Int}:nI a=nI b↔a=b:=by simp[nI]
theorem ints_iff{a b:List Int}:a.map nI=b.map nI↔a=b:=⟨map_inj fun _ _=>nI_iff.1,fun h=>by rw[h]⟩
theorem wrapU(n:Int):IntKind.wrap .u64 n=n % 18446744073709551616:=rfl
theorem wrapU_id{n:Int}(h0:0≤n)(h1:n<18446744073709551616):IntKind.wrap .u64 n=n:=by rw[wrapU]; omega
theorem add_u{a b:Int}(h0:0≤a+b)(h1:a+b<18446744073709551616):pbin .add (.int .u64 a) (.int .u64 b)=some (.int .u64 (a+b)):=by
 simp only[pbin,if_true,iarith,Option.map_some,wrapU_id h0 h1]
theorem mul_u{a b:Int}(h0:0≤a*b)(h1:a*b<18446744073709551616):pbin .mul (.int .u64 a) (.int .u64 b)=some (.int .u64 (a*b)):=by
 simp only[pbin,if_true,iarith,Option.map_some,wrapU_id h0 h1]
theorem mul_uw(a b:Int):pbin .mul (.int .u64 a) (.int .u64 b)=some (.int .u64 ((a*b) % 18446744073709551616)):=by
 simp only[pbin,if_true,iarith,Option.map_some,wrapU]
theorem toNat_ofIntU{a:Int}(h0:0≤a)(h1:a<18446744073709551616):(BitVec.ofInt 64 a).toNat=a.toNat:=by
 rw[BitVec.toNat_ofInt]
 omega
theorem and_mask{a:Int}(h0:0≤a)(h1:a<18446744073709551616):pbin .and (.int .u64 a) (.int .u64 4294967295)=some (.int .u64 (a % 4294967296)):=by
 have h:(BitVec.ofInt (IntKind.bits .u64) a &&& BitVec.ofInt (IntKind.bits .u64) 4294967295).toNat=(a % 4294967296).toNat:=by
  show(BitVec.ofInt 64 a &&& BitVec.ofInt 64 4294967295).toNat=_
  rw[BitVec.toNat_and,toNat_ofIntU h0 h1,show(BitVec.ofInt 64 4294967295).toNat=2 ^ 32 - 1 from rfl,Nat.and_two_pow_sub_one_eq_mod]
  omega
 simp only[pbin,if_true,ibits,Option.map_some,h]
 rw[wrapU_id (by omega) (by omega)]
 congr 2
 omega
theorem half_mul{a b:Int}(ha:0≤a)(hb:0≤b)(ha2:a≤4294967295)(hb2:b≤4294967295):0≤a*b∧a*b≤18446744065119617025:=by
 refine⟨Int.mul_nonneg ha hb,?_⟩
 have h1:a*b≤4294967295*b:=Int.mul_le_mul_of_nonneg_right ha2 hb
 omega
theorem mul4(a b c d:Int):a*b*(c*d)=a*c*(b*d):=by rw[Int.mul_assoc,Int.mul_left_comm b,← Int.mul_assoc]
theorem mul_split(x y:Int):x*y=(x / 4294967296)*(y / 4294967296)*18446744073709551616+((x / 4294967296)*(y % 4294967296)+(x % 4294967296)*(y / 4294967296))*4294967296+(x % 4294967296)*(y % 4294967296):=by
 have e1:x=(x / 4294967296)*4294967296+x % 4294967296:=(Int.ediv_mul_add_emod x 4294967296).symm
 have e2:y=(y / 4294967296)*4294967296+y % 4294967296:=(Int.ediv_mul_add_emod y 4294967296).symm
 conv=>lhs; rw[e1,e2]
 rw[Int.add_mul,Int.mul_add,Int.mul_add,mul4,Int.mul_right_comm (x / 4294967296) 4294967296,← Int.mul_assoc (x % 4294967296),Int.add_mul]
 omega
noncomputable def sp_bMul:List D→Option D:=spOf (α:=Int×Int) (fun a=>[.int .u64 a.1,.int .u64 a.2]) (fun a=>0≤a.1∧a.1<18446744073709551616∧0≤a.2∧a.2<18446744073709551616) (fun a=>.tup [.int .u64 (a.1*a.2 / 18446744073709551616),.int .u64 (a.1*a.2 % 18446744073709551616)])
theorem call_bMul(x:Int)(y:Int)(h:0≤x∧x<18446744073709551616∧0≤y∧y<18446744073709551616):sp_bMul [.int .u64 x,.int .u64 y]=some (.tup [.int .u64 (x*y / 18446744073709551616),.int .u64 (x*y % 18446744073709551616)]):=
 spOf_enc (fun⟨a0,a1⟩ ⟨b0,b1⟩ h=>by simp only[List.cons.injEq,D.int.injEq,true_and,and_true]at h; simp[h]) (x,y) h
theorem w_bMul(x:Int)(y:Int)(h:0≤x∧x<18446744073709551616∧0≤y∧y<18446744073709551616):@wW GG (tb [] []) F_math_bits_Mul64.code (argF [.int .u64 x,.int .u64 y]) [] ⟨retQ F_math_bits_Mul64.res (.tup [.int .u64 (x*y / 18446744073709551616),.int .u64 (x*y % 18446744073709551616)])⟩:=by
 obtain⟨hx0,hx1,hy0,hy1⟩:=h
 have e:=mul_split x y
 have ha:=half_mul (a:=x / 4294967296) (b:=y / 4294967296) (by omega) (by omega) (by omega) (by omega)
 have hb:=half_mul (a:=x / 4294967296) (b:=y % 4294967296) (by omega) (by omega) (by omega) (by omega)
 have hc:=half_mul (a:=x % 4294967296) (b:=y / 4294967296) (by omega) (by omega) (by omega) (by omega)
 have hd:=half_mul (a:=x % 4294967296) (b:=y % 4294967296) (by omega) (by omega) (by omega) (by omega)
 unfold F_math_bits_Mul64
 simp (disch:=omega) only[push_cast,↓reduceIte,Nat.reduceEqDiff,Int.reduceToNat,Int.reducePow,and_mask,shr_u,mul_u,add_u,mul_uw x y]
 rw[e]
 generalize (x / 4294967296)*(y / 4294967296)=a at*
 generalize (x / 4294967296)*(y % 4294967296)=b at*
 generalize (x % 4294967296)*(y / 4294967296)=c at*
 generalize (x % 4294967296)*(y % 4294967296)=d at*
 have e9:a+(b+d / 4294967296) / 4294967296+((b+d / 4294967296) % 4294967296+c) / 4294967296=(a*18446744073709551616+(b+c)*4294967296+d) / 18446744073709551616:=by omega
 rw[e9]
theorem c_bMul:Contract Tryz.prog GG 95 sp_bMul:=
 contract_of tr_math_bits_Mul64 (tb_ok all_nil all_nil) (fun a h=>w_bMul a.1 a.2 h)
def inI(x:Int):Bool:=decide (-9007199254740992≤x) && decide (x≤9007199254740992)
theorem inI_iff{x:Int}:inI x=true↔-9007199254740992≤x∧x≤9007199254740992:=by simp[inI]
theorem inI_not{x:Int}:inI x=false↔x < -9007199254740992∨9007199254740992<x:=by
 rw[← Bool.not_eq_true,inI_iff]; omega
theorem drop_all{l:List Int}{i:Nat}(h:i<l.length):(l.drop i).all inI=(inI (l.getD i default) && (l.drop (i+1)).all inI):=by
 rw[List.drop_eq_getElem_cons h,List.all_cons]
 simp[List.getD_eq_getElem?_getD,h]
noncomputable def sp_mnIn:List D→Option D:=spOf (α:=List Int) (fun a=>[.slc (nz 1 (a.map nI)) (a.map nI) false]) (fun a=>a.length≤65536) (fun a=>.bool (a.all inI))
theorem call_mnIn(l:List Int)(h:l.length≤65536):sp_mnIn [.slc (nz 1 (l.map nI)) (l.map nI) false]=some (.bool (l.all inI)):=
 spOf_enc (fun a b h=>by simp only[List.cons.injEq,D.slc.injEq,and_true,ints_iff]at h; simp[h]) (l) h
theorem w_mnIn(l:List Int)(h:l.length≤65536):@wW GG (tb [] []) F_money_in.code (argF [.slc (nz 1 (l.map nI)) (l.map nI) false]) [] ⟨retQ F_money_in.res (.bool (l.all inI))⟩:=by
 unfold F_money_in
 simp (disch:=first|omega|decide) only[push_cast,↓reduceIte,Nat.reduceEqDiff]
 refine W_while (fun i:Nat=>[(5,.slc (nz 1 (l.map nI)) (l.map nI) false),(6,.int .i64 (l.length:Int)),(7,.int .i64 (i:Int))]) (fun _=>[]) (fun i=>i≤l.length∧l.all inI=(l.drop i).all inI) (fun i=>l.length - i) 0 (by simp only[push_cast,↓reduceIte,Nat.reduceEqDiff,↓Int.reduceNatCast'] <;> rfl) ⟨Nat.zero_le _,rfl⟩ ?_
 rintro i ⟨hi,hh⟩
 unfold F_money_in_L0
 simp (disch:=first|omega|decide) only[push_cast,↓reduceIte,Nat.reduceEqDiff,Int.reduceNeg]
 refine ifD_split (fun h2=>?_) (fun h2=>?_)
 ·have hlt:i<l.length:=by omega
  rw[drop_all hlt]at hh
  have hix:∀ st:St,pidxS st 1 (.slc (nz 1 (l.map nI)) (l.map nI) false) (.int .i64 (i:Int))=some (.eptr (nI (l.getD i default)) 0):=fun st=>by
   have:=idxS_nz st 1 nI l false .i64 (i:Int) (by omega) (by omega)
   rwa [Int.toNat_natCast]at this
  generalize l.getD i default=x at*
  cases hx:inI x with
  |true=>
   obtain⟨h5,h6⟩:=inI_iff.1 hx
   rw[hx,Bool.true_and]at hh
   have h7:¬ (x < -9007199254740992):=by omega
   have h8:¬ (9007199254740992<x):=by omega
   simp (disch:=first|omega|decide) only[push_cast,↓reduceIte,Nat.reduceEqDiff,Int.reduceNeg,hix,nI,h7,h8,add_i]
   refine next_head (i+1) (by exact⟨by omega,hh⟩) (by omega) ?_
   simp only[push_cast] <;> rfl
  |false=>
   rw[hx,Bool.false_and]at hh
   by_cases h7:x < -9007199254740992
   ·simp (disch:=first|omega|decide) only[push_cast,↓reduceIte,Nat.reduceEqDiff,Int.reduceNeg,hix,nI,h7,hh]
   ·have h8:9007199254740992<x:=by have:=inI_not.1 hx; omega
    simp (disch:=first|omega|decide) only[push_cast,↓reduceIte,Nat.reduceEqDiff,Int.reduceNeg,hix,nI,h7,h8,hh]
 ·obtain rfl:i=l.length:=by omega
  rw[List.drop_length]at hh
  simp (disch:=first|omega|decide) only[push_cast,↓reduceIte,Int.reduceNeg,hh,List.all_nil]
theorem c_mnIn:Contract Tryz.prog GG 93 sp_mnIn:=
 contract_of tr_money_in (tb_ok all_nil all_nil) (fun a h=>w_mnIn a h)
def rgF(c:Int):Int×Int:=if inI c then(c,0)else(0,3)
theorem lit1(a:Int):litD 1 [.int .i64 a]=some (.slc 1 [.int .i64 a] true):=(rfl)
theorem lit2(a b:Int):litD 1 [.int .i64 a,.int .i64 b]=some (.slc 1 [.int .i64 a,.int .i64 b] true):=(rfl)
theorem e98:((9:Int)=8)=False:=by decide
theorem e108:((10:Int)=8)=False:=by decide
theorem e109:((10:Int)=9)=False:=by decide
theorem e810:((8:Int)=10)=False:=by decide
theorem e910:((9:Int)=10)=False:=by decide
theorem call_in1(a:Int):sp_mnIn [.slc 1 [.int .i64 a] false]=some (.bool (inI a)):=by
 have:=call_mnIn [a] (by simp)
 simpa[nI,nz]using this
theorem call_in2(a b:Int):sp_mnIn [.slc 1 [.int .i64 a,.int .i64 b] false]=some (.bool (inI a && inI b)):=by
 have:=call_mnIn [a,b] (by simp)
 simpa[nI,nz]using this
noncomputable def sp_mnRg:List D→Option D:=spOf (α:=Int) (fun a=>[.int .i64 a]) (fun a=>True) (fun a=>.tup [.int .i64 (rgF a).1,.int .i64 (rgF a).2])
theorem call_mnRg(c:Int):sp_mnRg [.int .i64 c]=some (.tup [.int .i64 (rgF c).1,.int .i64 (rgF c).2]):=
 spOf_enc (fun a b h=>by simp only[List.cons.injEq,D.int.injEq,true_and,and_true]at h; simp[h]) (c) trivial
theorem w_mnRg(c:Int):@wW GG (tb [(93,sp_mnIn)] []) F_money_ranged.code (argF [.int .i64 c]) [] ⟨retQ F_money_ranged.res (.tup [.int .i64 (rgF c).1,.int .i64 (rgF c).2])⟩:=by
 unfold F_money_ranged rgF
 have:=call_in1 c
 cases hc:inI c <;> rw[hc]at this <;> simp (disch:=first|omega|decide) only[push_cast,↓reduceIte,Nat.reduceEqDiff,lit1,this]
theorem c_mnRg:Contract Tryz.prog GG 94 sp_mnRg:=
 contract_of tr_money_ranged (tb_ok (all_cons c_mnIn all_nil) all_nil) (fun a h=>w_mnRg a)
def addF(a b:Int):Int×Int:=if inI a && inI b then rgF (a+b)else(0,3)
def subF(a b:Int):Int×Int:=if inI a && inI b then rgF (a - b)else(0,3)
noncomputable def sp_mnAdd:List D→Option D:=spOf (α:=Int×Int) (fun a=>[.int .i64 a.1,.int .i64 a.2]) (fun a=>True) (fun a=>.tup [.int .i64 (addF a.1 a.2).1,.int .i64 (addF a.1 a.2).2])
theorem call_mnAdd(a:Int)(b:Int):sp_mnAdd [.int .i64 a,.int .i64 b]=some (.tup [.int .i64 (addF a b).1,.int .i64 (addF a b).2]):=
 spOf_enc (fun⟨a0,a1⟩ ⟨b0,b1⟩ h=>by simp only[List.cons.injEq,D.int.injEq,true_and,and_true]at h; simp[h]) (a,b) trivial
theorem w_mnAdd(a:Int)(b:Int):@wW GG (tb [(93,sp_mnIn),(94,sp_mnRg)] []) F_money_Add.code (argF [.int .i64 a,.int .i64 b]) [] ⟨retQ F_money_Add.res (.tup [.int .i64 (addF a b).1,.int .i64 (addF a b).2])⟩:=by
 unfold F_money_Add addF
 have h2:=call_in2 a b
 have h3:=call_mnRg (a+b)
 cases hc:inI a && inI b with
 |false=>rw[hc]at h2; simp (disch:=first|omega|decide) only[push_cast,↓reduceIte,Nat.reduceEqDiff,lit2,h2]
 |true=>
  rw[hc]at h2
  simp only[Bool.and_eq_true,inI_iff]at hc
  simp (disch:=first|omega|decide) only[push_cast,↓reduceIte,Nat.reduceEqDiff,lit2,h2,h3,add_i]
theorem c_mnAdd:Contract Tryz.prog GG 68 sp_mnAdd:=
 contract_of tr_money_Add (tb_ok (all_cons c_mnIn (all_cons c_mnRg all_nil)) all_nil) (fun a h=>w_mnAdd a.1 a.2)
noncomputable def sp_mnSub:List D→Option D:=spOf (α:=Int×Int) (fun a=>[.int .i64 a.1,.int .i64 a.2]) (fun a=>True) (fun a=>.tup [.int .i64 (subF a.1 a.2).1,.int .i64 (subF a.1 a.2).2])
theorem call_mnSub(a:Int)(b:Int):sp_mnSub [.int .i64 a,.int .i64 b]=some (.tup [.int .i64 (subF a b).1,.int .i64 (subF a b).2]):=
 spOf_enc (fun⟨a0,a1⟩ ⟨b0,b1⟩ h=>by simp only[List.cons.injEq,D.int.injEq,true_and,and_true]at h; simp[h]) (a,b) trivial
theorem w_mnSub(a:Int)(b:Int):@wW GG (tb [(93,sp_mnIn),(94,sp_mnRg)] []) F_money_Sub.code (argF [.int .i64 a,.int .i64 b]) [] ⟨retQ F_money_Sub.res (.tup [.int .i64 (subF a b).1,.int .i64 (subF a b).2])⟩:=by
 unfold F_money_Sub subF
 have h2:=call_in2 a b
 have h3:=call_mnRg (a - b)
 cases hc:inI a && inI b with
 |false=>rw[hc]at h2; simp (disch:=first|omega|decide) only[push_cast,↓reduceIte,Nat.reduceEqDiff,lit2,h2]
 |true=>
  rw[hc]at h2
  simp only[Bool.and_eq_true,inI_iff]at hc
  simp (disch:=first|omega|decide) only[push_cast,↓reduceIte,Nat.reduceEqDiff,lit2,h2,h3,sub_i]
theorem c_mnSub:Contract Tryz.prog GG 70 sp_mnSub:=
 contract_of tr_money_Sub (tb_ok (all_cons c_mnIn (all_cons c_mnRg all_nil)) all_nil) (fun a h=>w_mnSub a.1 a.2)
theorem neg_u{a:Int}(h0:0<a)(h1:a<18446744073709551616):pun .neg (.int .u64 a)=some (.int .u64 (18446744073709551616 - a)):=by
 have e:(0 - a) % 18446744073709551616=18446744073709551616 - a:=by omega
 simp only[pun,wrapU,e]
theorem conv_iuw(st:St){a:Int}:pconv st (.int .u64) (.int .i64 a)=some (.int .u64 (a % 18446744073709551616)):=by
 simp only[pconv,wrapU]
noncomputable def sp_mnAbs:List D→Option D:=spOf (α:=Int) (fun a=>[.int .i64 a]) (fun a=>inI a=true) (fun a=>.int .u64 (if a<0 then -a else a))
theorem call_mnAbs(a:Int)(h:inI a=true):sp_mnAbs [.int .i64 a]=some (.int .u64 (if a<0 then -a else a)):=
 spOf_enc (fun a b h=>by simp only[List.cons.injEq,D.int.injEq,true_and,and_true]at h; simp[h]) (a) h
theorem w_mnAbs(a:Int)(h:inI a=true):@wW GG (tb [] []) F_money_abs.code (argF [.int .i64 a]) [] ⟨retQ F_money_abs.res (.int .u64 (if a<0 then -a else a))⟩:=by
 obtain⟨h1,h2⟩:=inI_iff.1 h
 unfold F_money_abs
 by_cases h0:a<0
 ·have e1:(a % 18446744073709551616)=18446744073709551616+a:=by omega
  have e2:18446744073709551616 - (18446744073709551616+a)=-a:=by omega
  simp (disch:=first|omega|decide) only[push_cast,↓reduceIte,Nat.reduceEqDiff,h0,conv_iuw,e1,neg_u,e2]
 ·simp (disch:=first|omega|decide) only[push_cast,↓reduceIte,Nat.reduceEqDiff,h0,conv_iu]
theorem c_mnAbs:Contract Tryz.prog GG 96 sp_mnAbs:=
 contract_of tr_money_abs (tb_ok all_nil all_nil) (fun a h=>w_mnAbs a h)
def abI(a:Int):Int:=if a<0 then -a else a
def mulF(a b:Int):Int×Int:=if inI a && inI b then rgF (a*b)else(0,3)
theorem ab_mul(a b:Int):abI a*abI b=abI (a*b):=by
 unfold abI
 rcases Int.lt_or_le a 0 with h1 | h1 <;> rcases Int.lt_or_le b 0 with h2 | h2
 ·have:=Int.mul_pos_of_neg_of_neg h1 h2
  rw[if_pos h1,if_pos h2,if_neg (by omega),Int.neg_mul_neg]
 ·have:=Int.mul_nonpos_of_nonpos_of_nonneg (Int.le_of_lt h1) h2
  rw[if_pos h1,if_neg (by omega),Int.neg_mul]
  split <;> omega
 ·have:=Int.mul_nonpos_of_nonneg_of_nonpos h1 (Int.le_of_lt h2)
  rw[if_neg (by omega),if_pos h2,Int.mul_neg]
  split <;> omega
 ·have:=Int.mul_nonneg h1 h2
  rw[if_neg (by omega),if_neg (by omega),if_neg (by omega)]
theorem ab_le{a:Int}(h:inI a=true):0≤abI a∧abI a≤9007199254740992:=by
 have:=inI_iff.1 h
 unfold abI; split <;> omega
theorem ab_in(a:Int):inI a=decide (abI a≤9007199254740992):=by
 cases h:inI a with
 |true=>simp[(ab_le h).2]
 |false=>
  have:=inI_not.1 h
  symm
  rw[decide_eq_false_iff_not]
  unfold abI; split <;> omega
noncomputable def sp_mnMul:List D→Option D:=spOf (α:=Int×Int) (fun a=>[.int .i64 a.1,.int .i64 a.2]) (fun a=>True) (fun a=>.tup [.int .i64 (mulF a.1 a.2).1,.int .i64 (mulF a.1 a.2).2])
theorem call_mnMul(a:Int)(b:Int):sp_mnMul [.int .i64 a,.int .i64 b]=some (.tup [.int .i64 (mulF a b).1,.int .i64 (mulF a b).2]):=
 spOf_enc (fun⟨a0,a1⟩ ⟨b0,b1⟩ h=>by simp only[List.cons.injEq,D.int.injEq,true_and,and_true]at h; simp[h]) (a,b) trivial
theorem w_mnMul(a:Int)(b:Int):@wW GG (tb [(93,sp_mnIn),(96,sp_mnAbs),(95,sp_bMul)] []) F_money_Mul.code (argF [.int .i64 a,.int .i64 b]) [] ⟨retQ F_money_Mul.res (.tup [.int .i64 (mulF a b).1,.int .i64 (mulF a b).2])⟩:=by
 unfold F_money_Mul mulF
 have h2:=call_in2 a b
 cases hc:inI a && inI b with
 |false=>rw[hc]at h2; simp (disch:=first|omega|decide) only[push_cast,↓reduceIte,Nat.reduceEqDiff,lit2,h2]
 |true=>
  rw[hc]at h2
  simp only[Bool.and_eq_true]at hc
  have c1:sp_mnAbs [.int .i64 a]=some (.int .u64 (abI a)):=call_mnAbs a hc.1
  have c2:sp_mnAbs [.int .i64 b]=some (.int .u64 (abI b)):=call_mnAbs b hc.2
  have l1:=ab_le hc.1
  have l2:=ab_le hc.2
  have c3:=call_bMul (abI a) (abI b) (by omega)
  have e:=ab_mul a b
  have ei:=ab_in (a*b)
  have hn:0≤abI a*abI b:=Int.mul_nonneg l1.1 l2.1
  have hb:abI a*abI b≤9007199254740992*9007199254740992:=Int.le_trans (Int.mul_le_mul_of_nonneg_right l1.2 l2.1) (by omega)
  rw[e]at c3 hn hb
  have hm:abI (a*b)≤9007199254740992→-9007199254740992≤a*b∧a*b≤9007199254740992:=fun h=>by
   unfold abI at h; split at h <;> omega
  have hmul:-9007199254740992≤a*b→a*b≤9007199254740992→pbin .mul (.int .i64 a) (.int .i64 b)=some (.int .i64 (a*b)):=fun h1 h2=>mul_i (by omega) (by omega)
  unfold rgF
  rw[ei]
  generalize a*b=m at*
  generalize abI m=z at*
  by_cases h0:z / 18446744073709551616=0
  ·have h9:z % 18446744073709551616=z:=by omega
   rw[h0,h9]at c3
   by_cases h8:9007199254740992<z
   ·have h7:¬ z≤9007199254740992:=by omega
    simp (disch:=first|omega|decide) only[push_cast,↓reduceIte,Nat.reduceEqDiff,lit2,h2,c1,c2,c3,h8,h7]
   ·have h7:z≤9007199254740992:=by omega
    have h6:=hm h7
    have c4:pbin .mul (.int .i64 a) (.int .i64 b)=some (.int .i64 m):=hmul h6.1 h6.2
    simp (disch:=first|omega|decide) only[push_cast,↓reduceIte,Nat.reduceEqDiff,lit2,h2,c1,c2,c3,h8,h7,c4]
  ·have h7:¬ z≤9007199254740992:=by omega
   simp (disch:=first|omega|decide) only[push_cast,↓reduceIte,Nat.reduceEqDiff,lit2,h2,c1,c2,c3,h0,h7]
theorem c_mnMul:Contract Tryz.prog GG 71 sp_mnMul:=
 contract_of tr_money_Mul (tb_ok (all_cons c_mnIn (all_cons c_mnAbs (all_cons c_bMul all_nil))) all_nil) (fun a h=>w_mnMul a.1 a.2)
theorem tdiv_le(a:Int){b:Int}(hb:0<b):-(abI a)≤a.tdiv b∧a.tdiv b≤abI a:=by
 unfold abI
 rcases Int.lt_or_le a 0 with h | h
 ·have e:a.tdiv b=-((-a) / b):=by
   rw[← Int.tdiv_eq_ediv_of_nonneg (by omega),Int.neg_tdiv,Int.neg_neg]
  have h1:=Int.ediv_le_self b (show 0≤-a by omega)
  have h2:=Int.ediv_nonneg (show 0≤-a by omega) (show 0≤b by omega)
  rw[if_pos h,e]; omega
 ·have e:a.tdiv b=a / b:=Int.tdiv_eq_ediv_of_nonneg h
  have h1:=Int.ediv_le_self b h
  have h2:=Int.ediv_nonneg h (show 0≤b by omega)
  rw[if_neg (by omega),e]; omega
theorem quo_t{a b:Int}(hb:0<b)(h1:-9223372036854775808<a)(h2:a<9223372036854775808):pbin .quo (.int .i64 a) (.int .i64 b)=some (.int .i64 (a.tdiv b)):=by
 have h3:=tdiv_le a hb
 have h4:abI a<9223372036854775808:=by unfold abI; split <;> omega
 simp only[pbin,if_true,iarith,show ¬ b=0 by omega,if_false,Option.map_some,wrap_i64 (show -9223372036854775808≤a.tdiv b by omega) (show a.tdiv b<9223372036854775808 by omega)]
theorem rem_t{a b:Int}(hb:0<b):pbin .rem (.int .i64 a) (.int .i64 b)=some (.int .i64 (a.tmod b)):=by
 simp only[pbin,if_true,iarith,show ¬ b=0 by omega,if_false,Option.map_some]
def dnF(a b:Int):Int:=(if a.tmod b<0 then a - b else a).tdiv b
def upF(a b:Int):Int:=(if 0<a.tmod b then a+b else a).tdiv b
def divF(a b m:Int):Int×Int:=if inI a && inI b then(if b≤0 then(0,70)else(if m=10 then dnF (2*a+b) (2*b)else if m=8 then dnF a b else upF a b,0))else(0,3)
noncomputable def sp_mnDiv:List D→Option D:=spOf (α:=Int×Int×Int) (fun a=>[.int .i64 a.1,.int .i64 a.2.1,.int .i64 a.2.2]) (fun a=>a.2.2=8∨a.2.2=9∨a.2.2=10) (fun a=>.tup [.int .i64 (divF a.1 a.2.1 a.2.2).1,.int .i64 (divF a.1 a.2.1 a.2.2).2])
theorem call_mnDiv(a:Int)(b:Int)(m:Int)(h:m=8∨m=9∨m=10):sp_mnDiv [.int .i64 a,.int .i64 b,.int .i64 m]=some (.tup [.int .i64 (divF a b m).1,.int .i64 (divF a b m).2]):=
 spOf_enc (fun⟨a0,a1,a2⟩ ⟨b0,b1,b2⟩ h=>by simp only[List.cons.injEq,D.int.injEq,true_and,and_true]at h; simp[h]) (a,b,m) h
theorem w_mnDiv(a:Int)(b:Int)(m:Int)(h:m=8∨m=9∨m=10):@wW GG (tb [(93,sp_mnIn)] []) F_money_Div.code (argF [.int .i64 a,.int .i64 b,.int .i64 m]) [] ⟨retQ F_money_Div.res (.tup [.int .i64 (divF a b m).1,.int .i64 (divF a b m).2])⟩:=by
 unfold F_money_Div divF
 have h2:=call_in2 a b
 cases hc:inI a && inI b with
 |false=>
  rw[hc]at h2
  rcases h with rfl | rfl | rfl <;> simp (disch:=first|omega|decide) only[push_cast,↓reduceIte,Nat.reduceEqDiff,lit2,e98,e108,e109,h2]
 |true=>
  rw[hc]at h2
  simp only[Bool.and_eq_true,inI_iff]at hc
  obtain⟨⟨a1,a2⟩,b1,b2⟩:=hc
  by_cases hb:b≤0
  ·rcases h with rfl | rfl | rfl <;> simp (disch:=first|omega|decide) only[push_cast,↓reduceIte,Nat.reduceEqDiff,lit2,e98,e108,e109,h2,hb]
  ·unfold dnF upF
   rcases h with rfl | rfl | rfl
   ·by_cases hr:a.tmod b<0
    ·simp (disch:=first|omega|decide) only[push_cast,↓reduceIte,Nat.reduceEqDiff,lit2,e810,h2,hb,rem_t,hr,sub_i,quo_t]
    ·simp (disch:=first|omega|decide) only[push_cast,↓reduceIte,Nat.reduceEqDiff,lit2,e810,h2,hb,rem_t,hr,quo_t]
   ·by_cases hr:0<a.tmod b
    ·simp (disch:=first|omega|decide) only[push_cast,↓reduceIte,Nat.reduceEqDiff,lit2,e98,e910,h2,hb,rem_t,hr,add_i,quo_t]
    ·simp (disch:=first|omega|decide) only[push_cast,↓reduceIte,Nat.reduceEqDiff,lit2,e98,e910,h2,hb,rem_t,hr,quo_t]
   ·by_cases hr:(2*a+b).tmod (2*b)<0
    ·simp (disch:=first|omega|decide) only[push_cast,↓reduceIte,Nat.reduceEqDiff,lit2,e108,e109,h2,hb,mul_i,add_i,rem_t,hr,sub_i,quo_t]
    ·simp (disch:=first|omega|decide) only[push_cast,↓reduceIte,Nat.reduceEqDiff,lit2,e108,e109,h2,hb,mul_i,add_i,rem_t,hr,quo_t]
theorem c_mnDiv:Contract Tryz.prog GG 97 sp_mnDiv:=
 contract_of tr_money_Div (tb_ok (all_cons c_mnIn all_nil) all_nil) (fun a h=>w_mnDiv a.1 a.2.1 a.2.2 h)
def exC(op k u0 u1 u2 u3:Int)(els:List D):List D:=[.int .i64 op,.int .i64 k,.int .i64 u0,.int .i64 u1,.int .i64 u2,.int .i64 u3,.slc (nz 7 els) els false]
def exD(op k u0 u1 u2 u3:Int)(els:List D):D:=.agg (exC op k u0 u1 u2 u3 els)
inductive ExP:D→Prop
 |mk (op k u0 u1 u2 u3:Int) (els:List D):els.length≤9223372036854775807→(∀ x∈els,ExP x)→ExP (exD op k u0 u1 u2 u3 els)
def opsF(op:Int):Int:=if op<1∨11<op then -1 else if op=1∨op=2 then 0 else if op=11 then 4 else 2
theorem opsF_1:opsF 1=0:=(rfl)
theorem opsF_2:opsF 2=0:=(rfl)
def formF:Nat→D→Bool
 |0,_=>false
 |n+1,.agg [.int .i64 op,.int .i64 k,_,_,_,_,.slc _ els _]=>if(els.length:Int)=opsF op then(if op=1 then decide (0≤k) && decide (k≤1099511627776)else if op=2 then decide (0≤k) && decide (k<16)else els.all (formF n))else false
 |_+1,_=>false
theorem formF_ex(n:Nat)(op k u0 u1 u2 u3:Int)(els:List D):formF (n+1) (exD op k u0 u1 u2 u3 els)=if(els.length:Int)=opsF op then(if op=1 then decide (0≤k) && decide (k≤1099511627776)else if op=2 then decide (0≤k) && decide (k<16)else els.all (formF n))else false:=by
 simp only[exD,exC,formF]
def unU(u:List Int):Bool:=u.all (fun n=>decide (-1≤n) && decide (n≤1)) && decide (u.count 1≤1) && decide (u.count (-1)≤1)
def formR:Nat→D→Bool
 |0,_=>false
 |n+1,.agg [.int .i64 op,.int .i64 k,.int .i64 u0,.int .i64 u1,.int .i64 u2,.int .i64 u3,.slc _ els _]=>
  decide (1≤op) && decide (op≤11) && decide ((els.length:Int)=opsF op) && unU [u0,u1,u2,u3] && decide (0≤k) && decide (op=1→k≤1099511627776) && decide (op=2→k<16) && decide (op≠1→op≠2→k=0)
   && decide (op≠1→u0=0∧u1=0∧u2=0∧u3=0) && els.all (formR n)
 |_+1,_=>false
theorem formR_ex(n:Nat)(op k u0 u1 u2 u3:Int)(els:List D):formR (n+1) (exD op k u0 u1 u2 u3 els)=(decide (1≤op) && decide (op≤11) && decide ((els.length:Int)=opsF op) && unU [u0,u1,u2,u3] && decide (0≤k) && decide (op=1→k≤1099511627776) && decide (op=2→k<16) && decide (op≠1→op≠2→k=0)
   && decide (op≠1→u0=0∧u1=0∧u2=0∧u3=0) && els.all (formR n)):=by
 simp only[exD,exC,formR]
def attU(a:Int):List Int:=if a=5 then [0,0,0,1]else if a=6 then [0,0,1,0]else if a=7∨a=8 then [0,1,0,0]else if a=10∨a=11 then [1,0,0,0]else [0,0,0,0]
def combU(s:Int)(a b:List Int):Option (List Int):=if(List.zipWith (fun x y=>x+s*y) a b).all (fun n=>decide (-3≤n) && decide (n≤3))then some (List.zipWith (fun x y=>x+s*y) a b)else none
def ruleU(op:Int):List (Option (List Int))→Option (List Int)
 |[some a,some b]=>if op=5 then combU 1 a b else if op=8∨op=9∨op=10 then combU (-1) a b else if a=b then some a else none
 |[some a,some b,some c,some d]=>if a=b∧c=d then some c else none
 |_=>none
def unitU:Nat→D→Option (List Int)
 |0,_=>none
 |n+1,.agg [.int .i64 op,.int .i64 k,.int .i64 u0,.int .i64 u1,.int .i64 u2,.int .i64 u3,.slc _ els _]=>if op=1 then some [u0,u1,u2,u3]else if op=2 then some (attU k)else ruleU op (els.map (unitU n))
 |_+1,_=>none
theorem unitU_ex(n:Nat)(op k u0 u1 u2 u3:Int)(els:List D):unitU (n+1) (exD op k u0 u1 u2 u3 els)=if op=1 then some [u0,u1,u2,u3]else if op=2 then some (attU k)else ruleU op (els.map (unitU n)):=by
 simp only[exD,exC,unitU]
def powU(f:Int)(d:Int):Int:=if d≤0 then 1 else if d=1 then f else if d=2 then f*f else f*f*f
def allS:List (Option D)→Option (List D)
 |[]=>some []
 |some x::l=>(allS l).map (x::·)
 |none::_=>none
def scU(k:Nat)(f:Int):Nat→D→Option D
 |0,_=>none
 |n+1,.agg [.int .i64 op,.int .i64 m,.int .i64 u0,.int .i64 u1,.int .i64 u2,.int .i64 u3,.slc z els t]=>
  if formR (n+1) (.agg [.int .i64 op,.int .i64 m,.int .i64 u0,.int .i64 u1,.int .i64 u2,.int .i64 u3,.slc z els t])then
   match unitU (n+1) (.agg [.int .i64 op,.int .i64 m,.int .i64 u0,.int .i64 u1,.int .i64 u2,.int .i64 u3,.slc z els t])with
   |some d=>if d.getD k 0<0∨op=8∨op=9∨op=10∨(op=1∧1048576<m)then none
    else(allS (els.map (scU k f n))).map (exD op (if op=1 then m*powU f (d.getD k 0)else m) u0 u1 u2 u3)
   |none=>none
  else none
 |_+1,_=>none
theorem scU_ex(k:Nat)(f:Int)(n:Nat)(op m u0 u1 u2 u3:Int)(els:List D):scU k f (n+1) (exD op m u0 u1 u2 u3 els)=if formR (n+1) (exD op m u0 u1 u2 u3 els)then
   match unitU (n+1) (exD op m u0 u1 u2 u3 els)with
   |some d=>if d.getD k 0<0∨op=8∨op=9∨op=10∨(op=1∧1048576<m)then none
    else(allS (els.map (scU k f n))).map (exD op (if op=1 then m*powU f (d.getD k 0)else m) u0 u1 u2 u3)
   |none=>none
  else none:=by
 rfl
def andI(a b:Int):Int:=IntKind.wrap .i64 ((BitVec.ofInt 64 a &&& BitVec.ofInt 64 b).toNat:Int)
def bitI(n:Int):Int:=IntKind.wrap .i64 (1*2 ^ (min n.toNat 64))
def ldU(h:Int)(v:List Int)(k:Int):Int×Int:=if k<0∨16≤k then(0,1)else if andI h (bitI k)=0 then(0,181)else if inI (v.getD k.toNat 0)then(v.getD k.toNat 0,0)else(0,3)
def binU(op a b:Int):Int×Int:=if op=3 then addF a b else if op=4 then subF a b else if op=5 then mulF a b else if op=6 then(min a b,0)else if op=7 then(max a b,0)else divF a b op
def bothU(ev:D→Int×Int)(els:List D):Int×Int×Int:=
 if(ev (els.getD 0 default)).2=0 then((ev (els.getD 0 default)).1,(ev (els.getD 1 default)).1,(ev (els.getD 1 default)).2)else(0,0,(ev (els.getD 0 default)).2)
def opU(ev:D→Int×Int)(op:Int)(els:List D):Int×Int:=
 if(bothU ev els).2.2=0 then(if op=11 then ev (els.getD (if(bothU ev els).1<(bothU ev els).2.1 then 2 else 3) default)else binU op (bothU ev els).1 (bothU ev els).2.1)else(0,(bothU ev els).2.2)
def evU:Nat→Int→List Int→D→Int×Int
 |0,_,_,_=>(0,0)
 |n+1,h,v,.agg [.int .i64 op,.int .i64 k,_,_,_,_,.slc _ els _]=>if op=1 then(k,0)else if op=2 then ldU h v k else opU (evU n h v) op els
 |_+1,_,_,_=>(0,0)
theorem evU_ex(n:Nat)(h:Int)(v:List Int)(op k u0 u1 u2 u3:Int)(els:List D):evU (n+1) h v (exD op k u0 u1 u2 u3 els)=if op=1 then(k,0)else if op=2 then ldU h v k else opU (evU n h v) op els:=by
 simp only[exD,exC,evU]
def evalU(h:Int)(v:List Int)(x:D):Int×Int:=if formF 24 x then(if(evU 24 h v x).2=0 then((evU 24 h v x).1,0)else(0,(evU 24 h v x).2))else(0,1)
theorem powU_pos{f d:Int}(hf:1≤f)(hf4:f≤4):1≤powU f d∧powU f d≤64:=by
 unfold powU
 have h:f=1∨f=2∨f=3∨f=4:=by omega
 rcases h with rfl | rfl | rfl | rfl <;> split <;> (try split) <;> (try split) <;> omega
theorem powU_add{f a b:Int}(ha:0≤a)(hb:0≤b)(h:a+b≤3):powU f (a+b)=powU f a*powU f b:=by
 have h:(a=0∨a=1∨a=2∨a=3)∧(b=0∨b=1∨b=2∨b=3):=by omega
 obtain⟨h1,h2⟩:=h
 rcases h1 with rfl | rfl | rfl | rfl <;> rcases h2 with rfl | rfl | rfl | rfl <;> first | omega | (simp[powU]; try grind)
theorem allS_some{l:List (Option D)}{r:List D}(h:allS l=some r):l=r.map some:=by
 induction l generalizing r with
 |nil=>simp only[allS,Option.some.injEq]at h; subst h; rfl
 |cons o l ih=>
  cases o with
  |none=>cases h
  |some x=>
   simp only[allS,Option.map_eq_some_iff]at h
   obtain⟨r',h1,rfl⟩:=h
   rw[ih h1]; rfl
theorem addF_ok{a b:Int}(h:(addF a b).2=0):(addF a b).1=a+b:=by
 unfold addF rgF at*
 split at h
 ·split at h <;> simp_all
 ·cases h
theorem subF_ok{a b:Int}(h:(subF a b).2=0):(subF a b).1=a - b:=by
 unfold subF rgF at*
 split at h
 ·split at h <;> simp_all
 ·cases h
theorem mulF_ok{a b:Int}(h:(mulF a b).2=0):(mulF a b).1=a*b:=by
 unfold mulF rgF at*
 split at h
 ·split at h <;> simp_all
 ·cases h
theorem addF_e(a b:Int):(addF a b).2=0∨(addF a b).2=3:=by
 unfold addF rgF; split <;> (try split) <;> simp
theorem subF_e(a b:Int):(subF a b).2=0∨(subF a b).2=3:=by
 unfold subF rgF; split <;> (try split) <;> simp
theorem mulF_e(a b:Int):(mulF a b).2=0∨(mulF a b).2=3:=by
 unfold mulF rgF; split <;> (try split) <;> simp
theorem combU_get{a b d:List Int}(h:combU 1 a b=some d)(k:Nat)(hk:k<a.length)(hk2:k<b.length):d.getD k 0=a.getD k 0+b.getD k 0∧d.getD k 0≤3:=by
 unfold combU at h
 split at h
 case isFalse=>cases h
 rename_i h2
 simp only[Option.some.injEq]at h
 subst h
 have hl:k<(List.zipWith (fun x y=>x+1*y) a b).length:=by simp; omega
 have h3:=List.all_eq_true.1 h2 _ (List.getElem_mem hl)
 simp only[List.getElem_zipWith,Bool.and_eq_true,decide_eq_true_eq]at h3
 simp only[List.getD_eq_getElem?_getD,List.getElem?_eq_getElem hk,List.getElem?_eq_getElem hk2,List.getElem?_eq_getElem hl,Option.getD_some,List.getElem_zipWith]
 omega
def scV(k:Nat)(f:Int)(v:List Int):List Int:=v.zipIdx.map fun p=>p.1*powU f ((attU (p.2:Int)).getD k 0)
theorem attU_len(a:Int):(attU a).length=4:=by unfold attU; split <;> (try split) <;> (try split) <;> (try split) <;> rfl
theorem attU_get(a:Int)(k:Nat):0≤(attU a).getD k 0∧(attU a).getD k 0≤1:=by
 unfold attU
 split <;> (try split) <;> (try split) <;> (try split) <;> (match k with | 0 | 1 | 2 | 3 | k+4=>simp)
theorem combU_len{s:Int}{a b d:List Int}(h:combU s a b=some d)(ha:a.length=4)(hb:b.length=4):d.length=4:=by
 unfold combU at h
 split at h
 ·simp only[Option.some.injEq]at h; subst h; simp[ha,hb]
 ·cases h
theorem ruleU_len{op:Int}{l:List (Option (List Int))}{d:List Int}(h:ruleU op l=some d)(hl:∀ u,some u∈l→u.length=4):d.length=4:=by
 unfold ruleU at h
 split at h
 ·rename_i a b
  have ha:=hl a (by simp); have hb:=hl b (by simp)
  split at h
  ·exact combU_len h ha hb
  ·split at h
   ·exact combU_len h ha hb
   ·split at h
    ·simp only[Option.some.injEq]at h; subst h; exact ha
    ·cases h
 ·rename_i a b c e
  split at h
  ·simp only[Option.some.injEq]at h; subst h; exact hl c (by simp)
  ·cases h
 ·cases h
theorem unitU_len:∀ (n:Nat) {x:D} {d:List Int},ExP x→unitU n x=some d→d.length=4
 |0,_,_,_,h=>by cases h
 |n+1,_,d,.mk op k u0 u1 u2 u3 els _ hel,h=>by
  rw[unitU_ex]at h
  split at h
  ·simp only[Option.some.injEq]at h; subst h; rfl
  ·split at h
   ·simp only[Option.some.injEq]at h; subst h; exact attU_len k
   ·refine ruleU_len h fun u hu=>?_
    obtain⟨x,hx,hxu⟩:=List.mem_map.1 hu
    exact unitU_len n (hel x hx) hxu
def Sc(F:Int)(r s:Int×Int):Prop:=r.2=0→s.2=3∨(s.2=0∧s.1=r.1*F)
theorem sc_bin{op:Int}(hop:op=3∨op=4∨op=6∨op=7){F a b:Int}(hF:1≤F):Sc F (binU op a b) (binU op (a*F) (b*F)):=by
 intro h
 rcases hop with rfl | rfl | rfl | rfl
 ·have e1:∀ x y,binU 3 x y=addF x y:=fun x y=>by simp[binU]
  rw[e1]at h ⊢; rw[e1]
  rcases addF_e (a*F) (b*F)with he | he
  ·exact .inr ⟨he,by rw[addF_ok he,addF_ok h,Int.add_mul]⟩
  ·exact .inl he
 ·have e1:∀ x y,binU 4 x y=subF x y:=fun x y=>by simp[binU]
  rw[e1]at h ⊢; rw[e1]
  rcases subF_e (a*F) (b*F)with he | he
  ·exact .inr ⟨he,by rw[subF_ok he,subF_ok h,Int.sub_mul]⟩
  ·exact .inl he
 ·have e1:∀ x y,binU 6 x y=(min x y,0):=fun x y=>by simp[binU]
  rw[e1,e1]
  refine .inr ⟨rfl,?_⟩
  have hm:a*F≤b*F↔a≤b:=Int.mul_le_mul_right (by omega)
  show min (a*F) (b*F)=min a b*F
  rw[Int.min_def,Int.min_def]
  split <;> split <;> simp_all
 ·have e1:∀ x y,binU 7 x y=(max x y,0):=fun x y=>by simp[binU]
  rw[e1,e1]
  refine .inr ⟨rfl,?_⟩
  have hm:a*F≤b*F↔a≤b:=Int.mul_le_mul_right (by omega)
  show max (a*F) (b*F)=max a b*F
  rw[Int.max_def,Int.max_def]
  split <;> split <;> simp_all
theorem sc_mul{F G a b:Int}:Sc (F*G) (binU 5 a b) (binU 5 (a*F) (b*G)):=by
 intro h
 have e1:∀ x y,binU 5 x y=mulF x y:=fun x y=>by simp[binU]
 rw[e1]at h ⊢; rw[e1]
 rcases mulF_e (a*F) (b*G)with he | he
 ·exact .inr ⟨he,by rw[mulF_ok he,mulF_ok h]; grind⟩
 ·exact .inl he
theorem sc_op{ev ev':D→Int×Int}{op F G H:Int}{els els':List D}(h0:Sc F (ev (els.getD 0 default)) (ev' (els'.getD 0 default)))(h1:Sc G (ev (els.getD 1 default)) (ev' (els'.getD 1 default)))
  (hb:op≠11→∀ a b,Sc H (binU op a b) (binU op (a*F) (b*G)))
  (hi:op=11→1≤F∧F=G∧Sc H (ev (els.getD 2 default)) (ev' (els'.getD 2 default))∧Sc H (ev (els.getD 3 default)) (ev' (els'.getD 3 default))):Sc H (opU ev op els) (opU ev' op els'):=by
 intro h
 unfold opU bothU at*
 generalize ev (els.getD 0 default)=a at*
 generalize ev (els.getD 1 default)=b at*
 generalize ev' (els'.getD 0 default)=a' at*
 generalize ev' (els'.getD 1 default)=b' at*
 obtain⟨a1,a2⟩:=a; obtain⟨b1,b2⟩:=b; obtain⟨c1,c2⟩:=a'; obtain⟨d1,d2⟩:=b'
 by_cases ha:a2=0
 ·subst ha
  simp only[if_true]at h
  by_cases hb2:b2=0
  ·subst hb2
   simp only[if_true]at h
   rcases h0 rfl with e | ⟨e,e'⟩
   ·simp only at e; subst e; simp
   ·simp only at e e'; subst e; subst e'
    rcases h1 rfl with e | ⟨e,e'⟩
    ·simp only at e; subst e; simp
    ·simp only at e e'; subst e; subst e'
     simp only[if_true]
     by_cases ho:op=11
     ·obtain⟨hF,rfl,s2,s3⟩:=hi ho
      subst ho
      simp only[if_true]at h ⊢
      have hm:a1*F<b1*F↔a1<b1:=Int.mul_lt_mul_right (by omega)
      by_cases hlt:a1<b1
      ·simp only[hlt,hm.2 hlt,if_true]at h ⊢; exact s2 h
      ·have hn:¬ (a1*F<b1*F):=fun x=>hlt (hm.1 x)
       simp only[hlt,hn,if_false]at h ⊢; exact s3 h
     ·simp only[ho,if_false]at h ⊢
      exact hb ho _ _ h
  ·simp only[hb2,if_false]at h
 ·simp only[ha,if_false]at h
theorem scale_law{k:Nat}(hk:k<4){f:Int}(hf:1≤f)(hf4:f≤4)(h:Int)(v:List Int)(hv:v.length=16)(hvb:∀ i,-1048576≤v.getD i 0∧v.getD i 0≤1048576) :
  ∀ (N n:Nat) (x y:D) (d:List Int),ExP x→scU k f n x=some y→unitU n x=some d→0≤d.getD k 0∧d.getD k 0≤3∧Sc (powU f (d.getD k 0)) (evU N h v x) (evU N h (scV k f v) y):=by
 intro N n
 induction n generalizing N with
 |zero=>intro x y d _ hs; cases hs
 |succ n ih=>
  intro x y d hx hs hu
  obtain⟨op,m,u0,u1,u2,u3,els,hl,hel⟩:=hx
  rw[scU_ex]at hs
  split at hs
  case isFalse=>cases hs
  rename_i hfr
  rw[hu]at hs
  simp only at hs
  split at hs
  case isTrue=>cases hs
  rename_i hc
  simp only[Option.map_eq_some_iff]at hs
  obtain⟨els',hs,rfl⟩:=hs
  have hall:=allS_some hs
  have hlen:els.length=els'.length:=by simpa using congrArg List.length hall
  have hd0:0≤d.getD k 0:=by omega
  have hchild:∀ (i:Nat),i<els.length→scU k f n (els.getD i default)=some (els'.getD i default):=by
   intro i hi
   have h1:(els.map (scU k f n))[i]?=(els'.map some)[i]?:=by rw[hall]
   rw[List.getElem?_map,List.getElem?_map,List.getElem?_eq_getElem hi,List.getElem?_eq_getElem (by omega)]at h1
   simp only[Option.map_some,Option.some.injEq]at h1
   simp only[List.getD_eq_getElem?_getD,List.getElem?_eq_getElem hi,List.getElem?_eq_getElem (show i<els'.length by omega),Option.getD_some,h1]
  have hmem:∀ (i:Nat),i<els.length→ExP (els.getD i default):=fun i hi=>hel _ (by
   rw[List.getD_eq_getElem?_getD,List.getElem?_eq_getElem hi]; exact List.getElem_mem hi)
  rw[formR_ex]at hfr
  simp only[Bool.and_eq_true,decide_eq_true_eq]at hfr
  obtain⟨⟨⟨⟨⟨⟨⟨⟨⟨g1,g2⟩,g3⟩,g4⟩,g5⟩,g6⟩,g7⟩,g8⟩,g9⟩,g10⟩:=hfr
  rw[unitU_ex]at hu
  have hev:∀ (v':List Int) (m':Int) (e':List D),evU 0 h v' (exD op m' u0 u1 u2 u3 e')=(0,0):=fun _ _ _=>rfl
  by_cases o1:op=1
  ·subst o1
   simp only[if_true,Option.some.injEq]at hu
   subst hu
   have hu1:List.getD [u0,u1,u2,u3] k 0≤1:=by
    have h4:=g4
    unfold unU at h4
    simp only[Bool.and_eq_true]at h4
    have h5:=List.all_eq_true.1 h4.1.1
    rcases(show k=0∨k=1∨k=2∨k=3 by omega)with rfl | rfl | rfl | rfl
    ·have:=h5 u0 (by simp); simp at this ⊢; omega
    ·have:=h5 u1 (by simp); simp at this ⊢; omega
    ·have:=h5 u2 (by simp); simp at this ⊢; omega
    ·have:=h5 u3 (by simp); simp at this ⊢; omega
   refine⟨hd0,by omega,?_⟩
   cases N with
   |zero=>rw[hev,hev]; intro _; exact .inr ⟨rfl,by simp⟩
   |succ N=>rw[evU_ex,evU_ex]; simp only[if_true]; intro _; exact .inr ⟨rfl,rfl⟩
  ·simp only[o1,if_false]at hu ⊢
   by_cases o2:op=2
   ·subst o2
    simp only[if_true,Option.some.injEq]at hu
    subst hu
    have ha:=attU_get m k
    refine⟨ha.1,by omega,?_⟩
    cases N with
    |zero=>rw[hev,hev]; intro _; exact .inr ⟨rfl,by simp⟩
    |succ N=>
     rw[evU_ex,evU_ex]
     simp only[o1,if_false,if_true]
     intro hz
     have hm16:m.toNat<16:=by have:=g7 rfl; omega
     have hsv:(scV k f v).getD m.toNat 0=v.getD m.toNat 0*powU f ((attU m).getD k 0):=by
      unfold scV
      have h1:m.toNat<v.zipIdx.length:=by simp; omega
      have h2:m.toNat<v.length:=by omega
      simp only[List.getD_eq_getElem?_getD,List.getElem?_map,List.getElem?_eq_getElem h1,List.getElem?_eq_getElem h2,Option.map_some,Option.getD_some,List.getElem_zipIdx,Nat.zero_add,Int.toNat_of_nonneg g5]
     have hb:=hvb m.toNat
     have hp:=powU_pos (d:=(attU m).getD k 0) hf hf4
     unfold ldU at hz ⊢
     have hr:¬ (m<0∨16≤m):=by have:=g7 rfl; omega
     rw[if_neg hr]at hz ⊢
     rw[if_neg hr]
     split at hz
     ·cases hz
     rename_i hbit
     rw[if_neg hbit,if_neg hbit]
     have hin:inI (v.getD m.toNat 0)=true:=inI_iff.2 (by omega)
     have hb1:-67108864≤v.getD m.toNat 0*powU f ((attU m).getD k 0)∧v.getD m.toNat 0*powU f ((attU m).getD k 0)≤67108864:=by
      generalize v.getD m.toNat 0=a at*
      generalize powU f ((attU m).getD k 0)=b at*
      constructor
      ·have h1:-1048576*b≤a*b:=Int.mul_le_mul_of_nonneg_right (by omega) (by omega)
       omega
      ·have h1:a*b≤1048576*b:=Int.mul_le_mul_of_nonneg_right (by omega) (by omega)
       omega
     have hin2:inI ((scV k f v).getD m.toNat 0)=true:=inI_iff.2 (by rw[hsv]; omega)
     rw[if_pos hin,if_pos hin2]
     exact .inr ⟨rfl,hsv⟩
   ·simp only[o2,if_false]at hu ⊢
    by_cases o11:op=11
    ·subst o11
     have h4:els.length=4:=by have:opsF 11=4:=rfl; omega
     match els,els',h4,hlen with
     |[x0,x1,x2,x3],[y0,y1,y2,y3],_,_=>
      have c0:=hchild 0 (by simp); have c1:=hchild 1 (by simp); have c2:=hchild 2 (by simp); have c3:=hchild 3 (by simp)
      have m0:=hmem 0 (by simp); have m1:=hmem 1 (by simp); have m2:=hmem 2 (by simp); have m3:=hmem 3 (by simp)
      simp only[List.getD_cons_zero,List.getD_cons_succ]at c0 c1 c2 c3 m0 m1 m2 m3
      simp only[List.map_cons,List.map_nil]at hu
      cases e0:unitU n x0 with
      |none=>rw[e0]at hu; cases hu
      |some d0=>
      cases e1:unitU n x1 with
      |none=>rw[e0,e1]at hu; cases hu
      |some d1=>
      cases e2:unitU n x2 with
      |none=>rw[e0,e1,e2]at hu; cases hu
      |some d2=>
      cases e3:unitU n x3 with
      |none=>rw[e0,e1,e2,e3]at hu; cases hu
      |some d3=>
      rw[e0,e1,e2,e3]at hu
      simp only[ruleU]at hu
      split at hu
      case isFalse=>cases hu
      rename_i heq
      obtain⟨rfl,rfl⟩:=heq
      simp only[Option.some.injEq]at hu
      subst hu
      have i2:=ih N x2 y2 _ m2 c2 e2
      refine⟨i2.1,i2.2.1,?_⟩
      cases N with
      |zero=>rw[hev,hev]; intro _; exact .inr ⟨rfl,by simp⟩
      |succ N=>
       have i0:=ih N x0 y0 _ m0 c0 e0
       have i1:=ih N x1 y1 _ m1 c1 e1
       have i2:=ih N x2 y2 _ m2 c2 e2
       have i3:=ih N x3 y3 _ m3 c3 e3
       rw[evU_ex,evU_ex]
       simp only[show((11:Int)=1)=False by decide,show((11:Int)=2)=False by decide,if_false]
       exact sc_op (F:=powU f (d0.getD k 0)) (G:=powU f (d0.getD k 0)) i0.2.2 i1.2.2 (fun h=>absurd rfl h) (fun _=>⟨(powU_pos hf hf4).1,rfl,i2.2.2,i3.2.2⟩)
    ·have h2:els.length=2:=by
      have:opsF op=2:=by
       unfold opsF
       rw[if_neg (by omega),if_neg (by omega),if_neg o11]
      omega
     match els,els',h2,hlen with
     |[x0,x1],[y0,y1],_,_=>
      have c0:=hchild 0 (by simp); have c1:=hchild 1 (by simp)
      have m0:=hmem 0 (by simp); have m1:=hmem 1 (by simp)
      simp only[List.getD_cons_zero,List.getD_cons_succ]at c0 c1 m0 m1
      simp only[List.map_cons,List.map_nil]at hu
      cases e0:unitU n x0 with
      |none=>rw[e0]at hu; cases hu
      |some d0=>
      cases e1:unitU n x1 with
      |none=>rw[e0,e1]at hu; cases hu
      |some d1=>
      rw[e0,e1]at hu
      simp only[ruleU]at hu
      have l0:=unitU_len n m0 e0
      have l1:=unitU_len n m1 e1
      have i0:=ih N x0 y0 _ m0 c0 e0
      have i1:=ih N x1 y1 _ m1 c1 e1
      by_cases o5:op=5
      ·subst o5
       simp only[if_true]at hu
       obtain⟨q1,q2⟩:=combU_get hu k (by omega) (by omega)
       refine⟨by omega,q2,?_⟩
       rw[q1,powU_add i0.1 i1.1 (by omega)]
       cases N with
       |zero=>rw[hev,hev]; intro _; exact .inr ⟨rfl,by simp⟩
       |succ N=>
        have i0:=ih N x0 y0 _ m0 c0 e0
        have i1:=ih N x1 y1 _ m1 c1 e1
        rw[evU_ex,evU_ex]
        simp only[show((5:Int)=1)=False by decide,show((5:Int)=2)=False by decide,if_false]
        exact sc_op i0.2.2 i1.2.2 (fun _ a b=>sc_mul) (fun h=>absurd h (by decide))
      ·simp only[o5,if_false]at hu
       rw[if_neg (by omega)]at hu
       split at hu
       case isFalse=>cases hu
       rename_i heq
       subst heq
       simp only[Option.some.injEq]at hu
       subst hu
       refine⟨i0.1,i0.2.1,?_⟩
       cases N with
       |zero=>rw[hev,hev]; intro _; exact .inr ⟨rfl,by simp⟩
       |succ N=>
        have i0:=ih N x0 y0 _ m0 c0 e0
        have i1:=ih N x1 y1 _ m1 c1 e1
        rw[evU_ex,evU_ex]
        simp only[o1,o2,if_false]
        exact sc_op i0.2.2 i1.2.2 (fun _ a b=>sc_bin (by omega) (powU_pos hf hf4).1) (fun h=>absurd h o11)
section
variable (a b c d:Int) (x y z w:D)
abbrev d4(a b c d:Int):List D:=[.int .i64 a,.int .i64 b,.int .i64 c,.int .i64 d]
theorem box_d4:boxD (.agg (d4 a b c d))=some (d4 a b c d):=(rfl)
theorem ld_d4(lent:Bool):ldO (some ⟨false,1,d4 a b c d,lent⟩) 4 true 0=some (.agg (d4 a b c d)):=(rfl)
theorem ld_d40(lent:Bool):ldO (some ⟨false,1,d4 a b c d,lent⟩) 1 false 0=some (.int .i64 a):=(rfl)
theorem ld_d41(lent:Bool):ldO (some ⟨false,1,d4 a b c d,lent⟩) 1 false 1=some (.int .i64 b):=(rfl)
theorem ld_d42(lent:Bool):ldO (some ⟨false,1,d4 a b c d,lent⟩) 1 false 2=some (.int .i64 c):=(rfl)
theorem ld_d43(lent:Bool):ldO (some ⟨false,1,d4 a b c d,lent⟩) 1 false 3=some (.int .i64 d):=(rfl)
theorem st_d4:stO (some ⟨false,1,[x,y,z,w],false⟩) 4 0 (.agg (d4 a b c d))=some ⟨false,1,d4 a b c d,false⟩:=(rfl)
theorem st_d40:stO (some ⟨false,1,[x,y,z,w],false⟩) 1 0 (.int .i64 a)=some ⟨false,1,[.int .i64 a,y,z,w],false⟩:=(rfl)
theorem st_d41:stO (some ⟨false,1,[x,y,z,w],false⟩) 1 1 (.int .i64 a)=some ⟨false,1,[x,.int .i64 a,z,w],false⟩:=(rfl)
theorem st_d42:stO (some ⟨false,1,[x,y,z,w],false⟩) 1 2 (.int .i64 a)=some ⟨false,1,[x,y,.int .i64 a,w],false⟩:=(rfl)
theorem st_d43:stO (some ⟨false,1,[x,y,z,w],false⟩) 1 3 (.int .i64 a)=some ⟨false,1,[x,y,z,.int .i64 a],false⟩:=(rfl)
theorem fill_d40:fillD (d4 0 0 0 0) []=some (d4 0 0 0 0):=(rfl)
theorem fill_d44:fillD (d4 0 0 0 0) [(0,1,.int .i64 a),(1,1,.int .i64 b),(2,1,.int .i64 c),(3,1,.int .i64 d)]=some (d4 a b c d):=(rfl)
theorem imm_d4(st:St):imm st (.agg (d4 a b c d))=some (.agg (d4 a b c d)):=(rfl)
theorem keys_d4:keys (.agg (d4 a b c d))=[]:=(rfl)
theorem hk_d4:hk (.agg (d4 a b c d))=[]:=(rfl)
theorem ren_d4(n:Nat)(σ:List Nat):ren n σ (.agg (d4 a b c d))=.agg (d4 a b c d):=(rfl)
theorem hkB_d4:(d4 a b c d).flatMap hk=[]:=(rfl)
theorem renB_d4(n:Nat)(σ:List Nat):(d4 a b c d).map (ren n σ)=d4 a b c d:=(rfl)
end
attribute [push_cast] box_d4 ld_d4 ld_d40 ld_d41 ld_d42 ld_d43 st_d4 st_d40 st_d41 st_d42 st_d43 fill_d40 fill_d44 imm_d4 keys_d4 hk_d4 ren_d4 hkB_d4 renB_d4
theorem pow_step{f:Int}{i:Nat}(hi:i<3):powU f ((i+1:Nat):Int)=powU f (i:Int)*f:=by
 rcases(show i=0∨i=1∨i=2 by omega)with rfl | rfl | rfl <;> simp[powU]
theorem pow_big{f d:Int}(h:3≤d):powU f d=powU f 3:=by
 unfold powU
 rw[if_neg (by omega),if_neg (by omega),if_neg (by omega)]
 rfl
theorem pow_small{f d:Int}(h:d≤0):powU f d=1:=by
 unfold powU
 rw[if_pos h]
noncomputable def sp_pow:List D→Option D:=spOf (α:=Int×Int) (fun a=>[.int .i64 a.1,.int .i64 a.2]) (fun a=>1≤a.1∧a.1≤4) (fun a=>.int .i64 (powU a.1 a.2))
theorem call_pow(f:Int)(k:Int)(h:1≤f∧f≤4):sp_pow [.int .i64 f,.int .i64 k]=some (.int .i64 (powU f k)):=
 spOf_enc (fun⟨a0,a1⟩ ⟨b0,b1⟩ h=>by simp only[List.cons.injEq,D.int.injEq,true_and,and_true]at h; simp[h]) (f,k) h
theorem w_pow(f:Int)(k:Int)(h:1≤f∧f≤4):@wW GG (tb [] []) F_wagonpoolref17_Power.code (argF [.int .i64 f,.int .i64 k]) [] ⟨retQ F_wagonpoolref17_Power.res (.int .i64 (powU f k))⟩:=by
 obtain⟨f1,f2⟩:=h
 unfold F_wagonpoolref17_Power
 simp (disch:=first|omega|decide) only[push_cast]
 refine W_while (fun i:Nat=>[(0,.int .i64 f),(1,.int .i64 k),(5,.int .i64 (powU f (i:Int))),(6,.int .i64 (i:Int))]) (fun _=>[]) (fun i=>i≤3∧(i=0∨(i:Int)≤k)) (fun i=>3 - i) 0 (by simp only[push_cast,↓reduceIte,Nat.reduceEqDiff,↓Int.reduceNatCast'] <;> rfl) ⟨by omega,.inl rfl⟩ ?_
 rintro i ⟨hi,hik⟩
 have hp:=powU_pos (d:=(i:Int)) f1 f2
 unfold F_wagonpoolref17_Power_L0
 by_cases c1:(i:Int)<k
 ·by_cases c2:(i:Int)<3
  ·have hs:=pow_step (f:=f) (i:=i) (by omega)
   have hp2:=powU_pos (d:=((i+1:Nat):Int)) f1 f2
   rw[hs]at hp2
   have hm:pbin .mul (.int .i64 (powU f (i:Int))) (.int .i64 f)=some (.int .i64 (powU f (i:Int)*f)):=mul_i (by omega) (by omega)
   simp (disch:=first|omega|decide) only[push_cast,↓reduceIte,Nat.reduceEqDiff,c1,c2,hm,add_i]
   refine next_head (i+1) (by omega) (by omega) ?_
   rw[hs]
   simp only[push_cast] <;> rfl
  ·have he:powU f (i:Int)=powU f k:=by
    rw[pow_big (d:=k) (by omega),show(i:Int)=3 by omega]
   simp (disch:=first|omega|decide) only[push_cast,↓reduceIte,Nat.reduceEqDiff,c1,c2,he]
 ·have he:powU f (i:Int)=powU f k:=by
   rcases hik with rfl | hik
   ·rw[pow_small (d:=k) (by omega)]; rfl
   ·rw[show(i:Int)=k by omega]
  simp (disch:=first|omega|decide) only[push_cast,↓reduceIte,Nat.reduceEqDiff,c1,he]
theorem c_pow:Contract Tryz.prog GG 10 sp_pow:=
 contract_of tr_wagonpoolref17_Power (tb_ok all_nil all_nil) (fun a h=>w_pow a.1 a.2 h)
def z4:List Int:=[0,0,0,0]
noncomputable def sp_mon:List D→Option D:=spOf (α:=Unit) (fun _=>[]) (fun _=>True) (fun _=>.agg [.int .i64 1,.int .i64 0,.int .i64 0,.int .i64 0])
theorem call_mon:sp_mon []=some (.agg [.int .i64 1,.int .i64 0,.int .i64 0,.int .i64 0]):=
 spOf_enc (fun _ _ _=>rfl) () trivial
theorem w_mon:@wW GG (tb [] []) F_wagonpoolref17_Money.code (argF []) [] ⟨retQ F_wagonpoolref17_Money.res (.agg [.int .i64 1,.int .i64 0,.int .i64 0,.int .i64 0])⟩:=by
 unfold F_wagonpoolref17_Money
 simp (disch:=first|omega|decide) only[push_cast,↓reduceIte,Nat.reduceEqDiff]
theorem c_mon:Contract Tryz.prog GG 34 sp_mon:=
 contract_of tr_wagonpoolref17_Money (tb_ok all_nil all_nil) (fun a h=>w_mon )
noncomputable def sp_att:List D→Option D:=spOf (α:=Int) (fun a=>[.int .i64 a]) (fun a=>0≤a∧a<16) (fun a=>.tup [.agg ((attU a).map nI),.int .i64 0])
theorem call_att(a:Int)(h:0≤a∧a<16):sp_att [.int .i64 a]=some (.tup [.agg ((attU a).map nI),.int .i64 0]):=
 spOf_enc (fun a b h=>by simp only[List.cons.injEq,D.int.injEq,true_and,and_true]at h; simp[h]) (a) h
theorem w_att(a:Int)(h:0≤a∧a<16):@wW GG (tb [(34,sp_mon)] []) F_wagonpoolref17_Attr.code (argF [.int .i64 a]) [] ⟨retQ F_wagonpoolref17_Attr.res (.tup [.agg ((attU a).map nI),.int .i64 0])⟩:=by
 obtain⟨h1,h2⟩:=h
 have hm:=call_mon
 unfold F_wagonpoolref17_Attr
 rcases(show a=0∨a=1∨a=2∨a=3∨a=4∨a=5∨a=6∨a=7∨a=8∨a=9∨a=10∨a=11∨a=12∨a=13∨a=14∨a=15 by omega)with rfl | rfl | rfl | rfl | rfl | rfl | rfl | rfl | rfl | rfl | rfl | rfl | rfl | rfl | rfl | rfl <;>
  simp (disch:=first|omega|decide) only[push_cast,↓reduceIte,Nat.reduceEqDiff,Int.reduceLT,Int.reduceLE,hm,Int.reduceEq] <;> rfl
theorem c_att:Contract Tryz.prog GG 14 sp_att:=
 contract_of tr_wagonpoolref17_Attr (tb_ok (all_cons c_mon all_nil) all_nil) (fun a h=>w_att a h)
def dimB(u:List Int):Prop:=u.length=4∧∀ n∈u,-3≤n∧n≤3
theorem dimB_of{u:List Int}(h:dimB u):∃ a b c d,u=[a,b,c,d]∧(-3≤a∧a≤3)∧(-3≤b∧b≤3)∧(-3≤c∧c≤3)∧-3≤d∧d≤3:=by
 obtain⟨h1,h2⟩:=h
 match u,h1 with
 |[a,b,c,d],_=>exact⟨a,b,c,d,rfl,h2 a (by simp),h2 b (by simp),h2 c (by simp),h2 d (by simp)⟩
theorem comb_4(s a0 a1 a2 a3 b0 b1 b2 b3:Int):combU s [a0,a1,a2,a3] [b0,b1,b2,b3]=if((-3≤a0+s*b0∧a0+s*b0≤3)∧(-3≤a1+s*b1∧a1+s*b1≤3)∧(-3≤a2+s*b2∧a2+s*b2≤3)∧-3≤a3+s*b3∧a3+s*b3≤3)then some [a0+s*b0,a1+s*b1,a2+s*b2,a3+s*b3]else none:=by
 unfold combU
 simp only[List.zipWith_cons_cons,List.zipWith_nil_right,List.all_cons,List.all_nil,Bool.and_eq_true,decide_eq_true_eq,and_true]
def oD(o:Option (List Int)):D:=.agg ((o.getD z4).map nI)
theorem oD_some(a b c d:Int):oD (some [a,b,c,d])=.agg (d4 a b c d):=(rfl)
theorem oD_none:oD none=.agg (d4 0 0 0 0):=(rfl)
noncomputable def sp_comb:List D→Option D:=spOf (α:=List Int×List Int×Int) (fun a=>[.agg (a.1.map nI),.agg (a.2.1.map nI),.int .i64 a.2.2]) (fun a=>dimB a.1∧dimB a.2.1∧(a.2.2=1∨a.2.2=-1)) (fun a=>.tup [oD (combU a.2.2 a.1 a.2.1),.bool (combU a.2.2 a.1 a.2.1).isSome])
theorem call_comb(a:List Int)(b:List Int)(s:Int)(h:dimB a∧dimB b∧(s=1∨s=-1)):sp_comb [.agg (a.map nI),.agg (b.map nI),.int .i64 s]=some (.tup [oD (combU s a b),.bool (combU s a b).isSome]):=
 spOf_enc (fun⟨a0,a1,a2⟩ ⟨b0,b1,b2⟩ h=>by simp only[List.cons.injEq,D.int.injEq,D.agg.injEq,true_and,and_true,ints_iff]at h; simp[h]) (a,b,s) h
set_option maxHeartbeats 4000000 in
set_option maxRecDepth 20000 in
theorem w_comb(a:List Int)(b:List Int)(s:Int)(h:dimB a∧dimB b∧(s=1∨s=-1)):@wW GG (tb [] []) F_wagonpoolref17_Combine.code (argF [.agg (a.map nI),.agg (b.map nI),.int .i64 s]) [] ⟨retQ F_wagonpoolref17_Combine.res (.tup [oD (combU s a b),.bool (combU s a b).isSome])⟩:=by
 obtain⟨ha,hb,hs⟩:=h
 obtain⟨a0,a1,a2,a3,rfl,p0,p1,p2,p3⟩:=dimB_of ha
 obtain⟨b0,b1,b2,b3,rfl,q0,q1,q2,q3⟩:=dimB_of hb
 rw[comb_4]
 have m0:pbin .mul (.int .i64 s) (.int .i64 b0)=some (.int .i64 (s*b0)):=mul_i (by rcases hs with rfl | rfl <;> omega) (by rcases hs with rfl | rfl <;> omega)
 have m1:pbin .mul (.int .i64 s) (.int .i64 b1)=some (.int .i64 (s*b1)):=mul_i (by rcases hs with rfl | rfl <;> omega) (by rcases hs with rfl | rfl <;> omega)
 have m2:pbin .mul (.int .i64 s) (.int .i64 b2)=some (.int .i64 (s*b2)):=mul_i (by rcases hs with rfl | rfl <;> omega) (by rcases hs with rfl | rfl <;> omega)
 have m3:pbin .mul (.int .i64 s) (.int .i64 b3)=some (.int .i64 (s*b3)):=mul_i (by rcases hs with rfl | rfl <;> omega) (by rcases hs with rfl | rfl <;> omega)
 have n0:pbin .add (.int .i64 a0) (.int .i64 (s*b0))=some (.int .i64 (a0+s*b0)):=add_i (by rcases hs with rfl | rfl <;> omega) (by rcases hs with rfl | rfl <;> omega)
 have n1:pbin .add (.int .i64 a1) (.int .i64 (s*b1))=some (.int .i64 (a1+s*b1)):=add_i (by rcases hs with rfl | rfl <;> omega) (by rcases hs with rfl | rfl <;> omega)
 have n2:pbin .add (.int .i64 a2) (.int .i64 (s*b2))=some (.int .i64 (a2+s*b2)):=add_i (by rcases hs with rfl | rfl <;> omega) (by rcases hs with rfl | rfl <;> omega)
 have n3:pbin .add (.int .i64 a3) (.int .i64 (s*b3))=some (.int .i64 (a3+s*b3)):=add_i (by rcases hs with rfl | rfl <;> omega) (by rcases hs with rfl | rfl <;> omega)
 generalize s*b0=e0 at*
 generalize s*b1=e1 at*
 generalize s*b2=e2 at*
 generalize s*b3=e3 at*
 generalize a0+e0=c0 at*
 generalize a1+e1=c1 at*
 generalize a2+e2=c2 at*
 generalize a3+e3=c3 at*
 generalize hr:(if(-3≤c0∧c0≤3)∧(-3≤c1∧c1≤3)∧(-3≤c2∧c2≤3)∧-3≤c3∧c3≤3 then some [c0,c1,c2,c3]else none)=r
 unfold F_wagonpoolref17_Combine
 simp (disch:=first|omega|decide) only[push_cast,↓reduceIte,Nat.reduceEqDiff,Nat.reduceAdd,List.map_cons,List.map_nil,nI]
 refine W_while (fun i:Nat=>[(2,.int .i64 s),(3,.ptr 0 0),(4,.ptr 1 0),(6,.ptr 2 0),(8,.ptr 3 0),(9,.int .i64 (i:Int))]) (fun i=>[⟨false,1,d4 a0 a1 a2 a3,false⟩,⟨false,1,d4 b0 b1 b2 b3,false⟩,⟨false,1,d4 0 0 0 0,false⟩,⟨false,1,d4 (if 0<i then c0 else 0) (if 1<i then c1 else 0) (if 2<i then c2 else 0) (if 3<i then c3 else 0),false⟩])
  (fun i=>i≤4∧(0<i→-3≤c0∧c0≤3)∧(1<i→-3≤c1∧c1≤3)∧(2<i→-3≤c2∧c2≤3)∧(3<i→-3≤c3∧c3≤3)) (fun i=>4 - i) 0 (by simp only[push_cast,↓reduceIte,Nat.reduceEqDiff,Nat.reduceLT,Nat.reduceLeDiff,Nat.reduceAdd,↓Int.reduceNatCast'] <;> rfl) (by omega) ?_
 rintro i ⟨hi,h0,h1,h2,h3⟩
 unfold F_wagonpoolref17_Combine_L0
 rcases(show i=0∨i=1∨i=2∨i=3∨i=4 by omega)with rfl | rfl | rfl | rfl | rfl
 ·by_cases x1:c0 < -3
  ·obtain rfl:r=none:=by rw[← hr]; exact if_neg (by omega)
   simp (disch:=first|omega|decide) only[push_cast,↓reduceIte,Nat.reduceEqDiff,Nat.reduceLT,Nat.reduceAdd,Int.reduceLT,Int.reduceNeg,↓Int.reduceNatCast',idxA_ptr,m0,n0,x1,oD_none,Option.isSome_none]
  ·by_cases x2:3<c0
   ·obtain rfl:r=none:=by rw[← hr]; exact if_neg (by omega)
    simp (disch:=first|omega|decide) only[push_cast,↓reduceIte,Nat.reduceEqDiff,Nat.reduceLT,Nat.reduceAdd,Int.reduceLT,Int.reduceNeg,↓Int.reduceNatCast',idxA_ptr,m0,n0,x1,x2,oD_none,Option.isSome_none]
   ·simp (disch:=first|omega|decide) only[push_cast,↓reduceIte,Nat.reduceEqDiff,Nat.reduceLT,Nat.reduceLeDiff,Nat.reduceAdd,Int.reduceLT,Int.reduceNeg,Int.reduceAdd,↓Int.reduceNatCast',idxA_ptr,m0,n0,x1,x2,add_i]
    refine next_head (1:Nat) (by exact⟨by omega,by omega,by omega,by omega,by omega⟩) (by omega) ?_
    simp only[push_cast,↓reduceIte,Nat.reduceLT,↓Int.reduceNatCast'] <;> rfl
 ·by_cases x1:c1 < -3
  ·obtain rfl:r=none:=by rw[← hr]; exact if_neg (by omega)
   simp (disch:=first|omega|decide) only[push_cast,↓reduceIte,Nat.reduceEqDiff,Nat.reduceLT,Nat.reduceAdd,Int.reduceLT,Int.reduceNeg,↓Int.reduceNatCast',idxA_ptr,m1,n1,x1,oD_none,Option.isSome_none]
  ·by_cases x2:3<c1
   ·obtain rfl:r=none:=by rw[← hr]; exact if_neg (by omega)
    simp (disch:=first|omega|decide) only[push_cast,↓reduceIte,Nat.reduceEqDiff,Nat.reduceLT,Nat.reduceAdd,Int.reduceLT,Int.reduceNeg,↓Int.reduceNatCast',idxA_ptr,m1,n1,x1,x2,oD_none,Option.isSome_none]
   ·simp (disch:=first|omega|decide) only[push_cast,↓reduceIte,Nat.reduceEqDiff,Nat.reduceLT,Nat.reduceLeDiff,Nat.reduceAdd,Int.reduceLT,Int.reduceNeg,Int.reduceAdd,↓Int.reduceNatCast',idxA_ptr,m1,n1,x1,x2,add_i]
    refine next_head (2:Nat) (by exact⟨by omega,by omega,by omega,by omega,by omega⟩) (by omega) ?_
    simp only[push_cast,↓reduceIte,Nat.reduceLT,↓Int.reduceNatCast'] <;> rfl
 ·by_cases x1:c2 < -3
  ·obtain rfl:r=none:=by rw[← hr]; exact if_neg (by omega)
   simp (disch:=first|omega|decide) only[push_cast,↓reduceIte,Nat.reduceEqDiff,Nat.reduceLT,Nat.reduceAdd,Int.reduceLT,Int.reduceToNat,Int.reduceNeg,↓Int.reduceNatCast',idxA_ptr,m2,n2,x1,oD_none,Option.isSome_none]
  ·by_cases x2:3<c2
   ·obtain rfl:r=none:=by rw[← hr]; exact if_neg (by omega)
    simp (disch:=first|omega|decide) only[push_cast,↓reduceIte,Nat.reduceEqDiff,Nat.reduceLT,Nat.reduceAdd,Int.reduceLT,Int.reduceToNat,Int.reduceNeg,↓Int.reduceNatCast',idxA_ptr,m2,n2,x1,x2,oD_none,Option.isSome_none]
   ·simp (disch:=first|omega|decide) only[push_cast,↓reduceIte,Nat.reduceEqDiff,Nat.reduceLT,Nat.reduceLeDiff,Nat.reduceAdd,Int.reduceLT,Int.reduceToNat,Int.reduceNeg,Int.reduceAdd,↓Int.reduceNatCast',idxA_ptr,m2,n2,x1,x2,add_i]
    refine next_head (3:Nat) (by exact⟨by omega,by omega,by omega,by omega,by omega⟩) (by omega) ?_
    simp only[push_cast,↓reduceIte,Nat.reduceLT,↓Int.reduceNatCast'] <;> rfl
 ·by_cases x1:c3 < -3
  ·obtain rfl:r=none:=by rw[← hr]; exact if_neg (by omega)
   simp (disch:=first|omega|decide) only[push_cast,↓reduceIte,Nat.reduceEqDiff,Nat.reduceLT,Nat.reduceAdd,Int.reduceLT,Int.reduceToNat,Int.reduceNeg,↓Int.reduceNatCast',idxA_ptr,m3,n3,x1,oD_none,Option.isSome_none]
  ·by_cases x2:3<c3
   ·obtain rfl:r=none:=by rw[← hr]; exact if_neg (by omega)
    simp (disch:=first|omega|decide) only[push_cast,↓reduceIte,Nat.reduceEqDiff,Nat.reduceLT,Nat.reduceAdd,Int.reduceLT,Int.reduceToNat,Int.reduceNeg,↓Int.reduceNatCast',idxA_ptr,m3,n3,x1,x2,oD_none,Option.isSome_none]
   ·simp (disch:=first|omega|decide) only[push_cast,↓reduceIte,Nat.reduceEqDiff,Nat.reduceLT,Nat.reduceLeDiff,Nat.reduceAdd,Int.reduceLT,Int.reduceToNat,Int.reduceNeg,Int.reduceAdd,↓Int.reduceNatCast',idxA_ptr,m3,n3,x1,x2,add_i]
    refine next_head (4:Nat) (by exact⟨by omega,by omega,by omega,by omega,by omega⟩) (by omega) ?_
    simp only[push_cast,↓reduceIte,Nat.reduceLT,↓Int.reduceNatCast'] <;> rfl
 ·obtain rfl:r=some [c0,c1,c2,c3]:=by rw[← hr]; exact if_pos (by omega)
  simp (disch:=first|omega|decide) only[push_cast,↓reduceIte,Nat.reduceEqDiff,Nat.reduceLT,Nat.reduceAdd,Int.reduceLT,Int.reduceNeg,↓Int.reduceNatCast',oD_some,Option.isSome_some]
theorem c_comb:Contract Tryz.prog GG 63 sp_comb:=
 contract_of tr_wagonpoolref17_Combine (tb_ok all_nil all_nil) (fun a h=>w_comb a.1 a.2.1 a.2.2 h)
def at'(v:List Int)(i:Nat):Int:=v.getD i 0
theorem ints_solid(l:List Int):(l.map nI).all solid1=true:=map_solid nI (fun _=>rfl) l
theorem ints_cell(l:List Int):(l.map nI).all D.isCell=true:=map_cells nI (fun _=>rfl) l
def z16:List Int:=List.replicate 16 0
def envC(h:Int)(v:List Int):List D:=(h::v).map nI
def envD(h:Int)(v:List Int):D:=.agg (envC h v)
theorem zero_env:D.agg [.int .i64 0,.int .i64 0,.int .i64 0,.int .i64 0,.int .i64 0,.int .i64 0,.int .i64 0,.int .i64 0,.int .i64 0,.int .i64 0,.int .i64 0,.int .i64 0,.int .i64 0,.int .i64 0,.int .i64 0,.int .i64 0,.int .i64 0]=envD 0 z16:=(rfl)
theorem z16_length:z16.length=16:=rfl
section
variable (st:St) (n:Nat) (σ:List Nat)
theorem box_env(h:Int)(v:List Int):boxD (envD h v)=some (envC h v):=by
 simp only[boxD,envD,D.cells,envC,ints_cell,if_true]
theorem imm_env(h:Int)(v:List Int):imm st (envD h v)=some (envD h v):=solid_imm st (ints_solid _)
theorem keys_env(h:Int)(v:List Int):keys (envD h v)=[]:=solid_keys (ints_solid _)
theorem hkB_env(h:Int)(v:List Int):(envC h v).flatMap hk=[]:=hkB_solid (ints_solid _)
theorem renB_env(h:Int)(v:List Int):(envC h v).map (ren n σ)=envC h v:=renB_solid n σ (ints_solid _)
theorem ldE(sz:Nat)(lent:Bool){h:Int}{p:List Int}(hp:p.length=16):ldO (some ⟨false,sz,envC h p,lent⟩) 17 true 0=some (envD h p):=ldO_all sz lent _ 17 (by simp[envC,hp])
theorem stE(sz:Nat){h k:Int}{p q:List Int}(hp:p.length=16)(hq:q.length=16):stO (some ⟨false,sz,envC h p,false⟩) 17 0 (envD k q)=some ⟨false,sz,envC k q,false⟩:=stO_all sz _ _ 17 (by simp[envC,hp]) (by simp[envC,hq]) (ints_cell _)
end
theorem envD_inj'{h h':Int}{v v':List Int}(e:envD h v=envD h' v'):h=h'∧v=v':=by
 simp only[envD,envC,D.agg.injEq,ints_iff,List.cons.injEq]at e
 exact e
theorem ldEv(sz:Nat)(lent:Bool)(k:Int)(v:List Int)(hv:v.length=16)(i:Nat)(h:i<16):ldO (some ⟨false,sz,envC k v,lent⟩) 1 false (1+i)=some (.int .i64 (at' v i)):=by
 have:=ldO_map sz lent nI (k::v) (1+i) (by simp[hv]; omega)
 rw[show(k::v).getD (1+i) default=at' v i by rw[Nat.add_comm,List.getD_cons_succ]; rfl]at this
 exact this
def mgO(o:Option Obj)(sz:Nat)(ks:List Nat)(ok:Bool)(zero k:D):Option D:=match o with
 |some o=>if o.isMap && o.sz == sz then mgetE sz ks ok zero k o.els else none
 |none=>none
theorem pmapget_v(st:St)(sz:Nat)(ks:List Nat)(ok:Bool)(zero k:D)(key:Nat):pmapget st sz ks ok zero (.mapv key) k=mgO st[key]? sz ks ok zero k:=(rfl)
def muO(o:Option Obj)(sz:Nat)(ks:List Nat)(k v:D):Option Obj:=match o,mval sz v with
 |some o,some v=>if o.isMap && o.sz == sz && !o.lent && v.isCell && k.cells.length+1 == mS sz && k.cells.all D.isCell && keyEq (mS sz) ks k k == some true && mokK k && mokE (mS sz) ks k o.els then(upE (mS sz) ks k v o.els).map fun els=>{o with els} else none
 |_,_=>none
theorem pmapup_v(st:St)(sz:Nat)(ks:List Nat)(k v:D)(key:Nat):pmapup st sz ks (.mapv key) k v=(muO st[key]? sz ks k v).map fun o=>st.set key o:=by
 simp only[pmapup,muO]
 cases st[key]? with
 |none=>cases mval sz v <;> rfl
 |some o=>
  cases mval sz v with
  |none=>rfl
  |some v'=>
   simp only
   split
   ·cases upE (mS sz) ks k v' o.els <;> rfl
   ·rfl
theorem nilc_ptr(st:St)(key off:Nat):nilcD st (.ptr key off)=some (.ptr key off):=(rfl)
theorem box_nilm:boxD .nilm=some [.nilm]:=(rfl)
theorem box_nilf:boxD .nilf=some [.nilf]:=(rfl)
theorem box_ptr(k o:Nat):boxD (.ptr k o)=some [.ptr k o]:=(rfl)
theorem mkmap_2:mkmapD 2=some ⟨false,2,[],false⟩:=(rfl)
attribute [push_cast] zero_env box_env imm_env keys_env hkB_env renB_env pmapget_v pmapup_v nilc_ptr box_nilm box_nilf box_ptr
def evA:List (Int×Nat):=[(3,5000041),(4,5000042),(5,5000043),(6,5000044),(7,5000045),(8,5000046),(9,5000047),(10,5000048),(11,5000049)]
def evEnt(k:Nat)(p:Int×Nat):D:=.agg [.int .i64 p.1,.clo p.2 [.ptr k 0]]
def evN(k i:Nat):List D:=(evA.take i).map (evEnt k)
def evC(h:Int)(v:List Int)(m:D):List D:=envC h v++[m]
theorem evC_length{h:Int}{v:List Int}{m:D}(hv:v.length=16):(evC h v m).length=18:=by simp[evC,envC,hv]
theorem mu_0(k:Nat):muO (some ⟨false,2,[],false⟩) 2 [0] (.int .i64 3) (.clo 5000041 [.ptr k 0])=some ⟨false,2,evN k 1,false⟩:=(rfl)
theorem mu_1(k:Nat):muO (some ⟨false,2,evN k 1,false⟩) 2 [0] (.int .i64 4) (.clo 5000042 [.ptr k 0])=some ⟨false,2,evN k 2,false⟩:=(rfl)
theorem mu_2(k:Nat):muO (some ⟨false,2,evN k 2,false⟩) 2 [0] (.int .i64 5) (.clo 5000043 [.ptr k 0])=some ⟨false,2,evN k 3,false⟩:=(rfl)
theorem mu_3(k:Nat):muO (some ⟨false,2,evN k 3,false⟩) 2 [0] (.int .i64 6) (.clo 5000044 [.ptr k 0])=some ⟨false,2,evN k 4,false⟩:=(rfl)
theorem mu_4(k:Nat):muO (some ⟨false,2,evN k 4,false⟩) 2 [0] (.int .i64 7) (.clo 5000045 [.ptr k 0])=some ⟨false,2,evN k 5,false⟩:=(rfl)
theorem mu_5(k:Nat):muO (some ⟨false,2,evN k 5,false⟩) 2 [0] (.int .i64 8) (.clo 5000046 [.ptr k 0])=some ⟨false,2,evN k 6,false⟩:=(rfl)
theorem mu_6(k:Nat):muO (some ⟨false,2,evN k 6,false⟩) 2 [0] (.int .i64 9) (.clo 5000047 [.ptr k 0])=some ⟨false,2,evN k 7,false⟩:=(rfl)
theorem mu_7(k:Nat):muO (some ⟨false,2,evN k 7,false⟩) 2 [0] (.int .i64 10) (.clo 5000048 [.ptr k 0])=some ⟨false,2,evN k 8,false⟩:=(rfl)
theorem mu_8(k:Nat):muO (some ⟨false,2,evN k 8,false⟩) 2 [0] (.int .i64 11) (.clo 5000049 [.ptr k 0])=some ⟨false,2,evN k 9,false⟩:=(rfl)
theorem hkB_ev(k:Nat):(evN k 9).flatMap hk=[k,k,k,k,k,k,k,k,k]:=(rfl)
theorem fill_ev(h:Int){p:List Int}(hp:p.length=16):fillD [D.int .i64 0,.int .i64 0,.int .i64 0,.int .i64 0,.int .i64 0,.int .i64 0,.int .i64 0,.int .i64 0,.int .i64 0,.int .i64 0,.int .i64 0,.int .i64 0,.int .i64 0,.int .i64 0,.int .i64 0,.int .i64 0,.int .i64 0,.nilm] [(0,17,envD h p)]=some (evC h p .nilm):=by
 have hl:(envC h p).length=17:=by simp[envC,hp]
 have hc:(envC h p).all D.isCell=true:=ints_cell _
 have hs:splice [D.int .i64 0,.int .i64 0,.int .i64 0,.int .i64 0,.int .i64 0,.int .i64 0,.int .i64 0,.int .i64 0,.int .i64 0,.int .i64 0,.int .i64 0,.int .i64 0,.int .i64 0,.int .i64 0,.int .i64 0,.int .i64 0,.int .i64 0,.nilm] 0 (envC h p)=evC h p .nilm:=by
  rw[splice,hl]; rfl
 have hcl:(envD h p).cells=envC h p:=rfl
 simp only[fillD,hcl,hl,hc,hs]
 rfl
theorem box_ev(h:Int)(p:List Int):boxD (.agg (evC h p .nilm))=some (evC h p .nilm):=by
 have hc:(evC h p .nilm).all D.isCell=true:=by
  unfold evC
  rw[List.all_append,show(envC h p).all D.isCell=true from ints_cell _]
  rfl
 simp only[boxD,D.cells,hc,if_true]
theorem st_ev(h:Int){p:List Int}(hp:p.length=16)(k:Nat):stO (some ⟨false,1,evC h p .nilm,false⟩) 1 17 (.mapv k)=some ⟨false,1,evC h p (.mapv k),false⟩:=by
 have hl:(envC h p).length=17:=by simp[envC,hp]
 have hs:splice (evC h p .nilm) 17 [.mapv k]=evC h p (.mapv k):=by
  unfold evC
  rw[splice,← hl]
  simp
 simp[stO,evC_length hp,D.cells,D.isCell,hs]
theorem ldV_h(lent:Bool)(h:Int)(v:List Int)(m:D):ldO (some ⟨false,1,evC h v m,lent⟩) 1 false 0=some (.int .i64 h):=by
 simp[ldO,evC,envC,D.mk,nI]
theorem ldV(lent:Bool)(h:Int){v:List Int}(m:D)(hv:v.length=16)(i:Nat)(hi:i<16):ldO (some ⟨false,1,evC h v m,lent⟩) 1 false (1+i)=some (.int .i64 (at' v i)):=by
 have hl:=evC_length (h:=h) (m:=m) hv
 have e:(evC h v m).drop (1+i)=nI v[i]::(evC h v m).drop (2+i):=by
  have h1:1+i<(evC h v m).length:=by omega
  rw[List.drop_eq_getElem_cons h1,show 1+i+1=2+i by omega]
  congr 1
  have h2:(evC h v m)[1+i]?=some (nI v[i]):=by
   unfold evC envC
   rw[List.getElem?_append_left (by simp[hv]; omega),List.getElem?_map,show 1+i=i+1 by omega,List.getElem?_cons_succ,List.getElem?_eq_getElem (by omega)]
   rfl
  rw[List.getElem?_eq_getElem h1]at h2
  exact Option.some.inj h2
 have e2:at' v i=v[i]:=by simp[at',List.getD_eq_getElem?_getD,hv,hi]
 simp only[ldO,Option.bind_some,e,List.take_succ_cons,List.take_zero,e2]
 rw[if_neg (by decide),if_pos (by simp[hl]; omega)]
 rfl
theorem ldV_m(lent:Bool)(h:Int){v:List Int}(m:D)(hv:v.length=16):ldO (some ⟨false,1,evC h v m,lent⟩) 1 false 17=some m:=by
 have hl:(envC h v).length=17:=by simp[envC,hv]
 have e:(evC h v m).drop 17=[m]:=by
  unfold evC
  rw[← hl]
  simp
 simp only[ldO,Option.bind_some,e]
 rw[if_neg (by decide),if_pos (by simp[evC_length hv])]
 rfl
theorem evC_inj{h h':Int}{v v':List Int}{m m':D}(hv:v.length=16)(hv':v'.length=16)(e:evC h v m=evC h' v' m'):h=h'∧v=v'∧m=m':=by
 unfold evC envC at e
 obtain⟨e1,e2⟩:=List.append_inj e (by simp[hv,hv'])
 simp only[ints_iff,List.cons.injEq,and_true]at e1 e2
 exact⟨e1.1,e1.2,e2⟩
attribute [push_cast] mu_0 mu_1 mu_2 mu_3 mu_4 mu_5 mu_6 mu_7 mu_8 hkB_ev box_ev ldV_h
noncomputable def relG(R:List D→St→D×Int×St→Prop):List D→St→Option (D×Int×St):=fun ds st=>@dite _ (∃ r,R ds st r) (Classical.propDecidable _) (fun h=>some h.choose) (fun _=>none)
theorem relG_inv{R:List D→St→D×Int×St→Prop}{ds:List D}{st:St}{r:D×Int×St}(h:relG R ds st=some r):R ds st r:=by
 unfold relG at h
 split at h
 ·rename_i hx
  simp only[Option.some.injEq]at h
  rw[← h]; exact hx.choose_spec
 ·cases h
def Fnl(R:List D→St→D×Int×St→Prop):Prop:=∀ ds st r r',R ds st r→R ds st r'→r=r'
theorem relG_eq{R:List D→St→D×Int×St→Prop}(hf:Fnl R){ds:List D}{st:St}{r:D×Int×St}(h:R ds st r):relG R ds st=some r:=by
 have hx:∃ r,R ds st r:=⟨r,h⟩
 unfold relG
 rw[dif_pos hx,hf _ _ _ _ hx.choose_spec h]
noncomputable def siG(R:List D→St→D×Int×St→Prop):List D→St→Option (D×St):=fun ds st=>match relG R ds st with
 |some (d,e,st')=>if e=0 then some (d,st')else none
 |none=>none
noncomputable def sxG(R:List D→St→D×Int×St→Prop):List D→St→Option (Nat×D×St):=fun ds st=>match relG R ds st with
 |some (_,e,st')=>if e=0 then none else some (94,.agg [.int .i64 e],st')
 |none=>none
theorem si_val{R:List D→St→D×Int×St→Prop}(hf:Fnl R){ds:List D}{st st':St}{d:D}(h:R ds st (d,0,st')):siG R ds st=some (d,st'):=by
 simp only[siG,relG_eq hf h,if_true]
theorem si_bad{R:List D→St→D×Int×St→Prop}(hf:Fnl R){ds:List D}{st st':St}{d:D}{e:Int}(h:R ds st (d,e,st'))(he:e≠0):siG R ds st=none:=by
 simp only[siG,relG_eq hf h,if_neg he]
theorem sx_bad{R:List D→St→D×Int×St→Prop}(hf:Fnl R){ds:List D}{st st':St}{d:D}{e:Int}(h:R ds st (d,e,st'))(he:e≠0):sxG R ds st=some (94,.agg [.int .i64 e],st'):=by
 simp only[sxG,relG_eq hf h,if_neg he]
def retJ(res:List PRes)(d:D)(e:Int)(st':St)(x:Ex)(fr:Frame)(st:St):Prop:=match x with
 |.exit _=>False
 |.panic t y=>¬ e=0∧t=94∧y=.agg [.int .i64 e]∧st=st'
 |_=>e=0∧@on _ (raws ⟨fr,st⟩ res) ⟨fun l=>(pack l,st)=(d,st')⟩
theorem retJ_ret(res:List PRes)(d:D)(e:Int)(st':St)(fr:Frame)(st:St):retJ res d e st' .ret fr st=(e=0∧@on _ (raws ⟨fr,st⟩ res) ⟨fun l=>(pack l,st)=(d,st')⟩):=(rfl)
theorem retJ_panic(res:List PRes)(d:D)(e:Int)(st':St)(t:Nat)(y:D)(fr:Frame)(st:St):retJ res d e st' (.panic t y) fr st=(¬ e=0∧t=94∧y=.agg [.int .i64 e]∧st=st'):=(rfl)
theorem joint{T:Tbl}{il:List Nat}{f:Nat}{hints:List (List Nat)}{F:PF}{R:List D→St→D×Int×St→Prop}(ht:trF Tryz.prog il f hints=some F)(hT:TblOK Tryz.prog GG T)
  (h:∀ ds st d e st',R ds st (d,e,st')→@wW GG T F.code (argF ds) st ⟨retJ F.res d e st'⟩) (hy:T.y=fun _ _ _=>none:=by rfl):IContract Tryz.prog GG f (siG R)∧XIContract Tryz.prog GG f (sxG R):=by
 constructor
 ·refine icontract_keep' ht hT (fun ds st r hr=>?_) hy
  unfold siG at hr
  split at hr
  case h_2=>cases hr
  rename_i d e st' hg
  split at hr
  case isFalse=>cases hr
  rename_i he
  simp only[Option.some.injEq]at hr
  subst hr; subst he
  refine wW_mk (W_mono _ _ _ _ _ (W_of (h _ _ _ _ _ (relG_inv hg))) fun x fr st hq=>?_)
  cases x with
  |exit i=>exact hq.elim
  |panic t y=>exact absurd rfl hq.1
  |next=>unfold retI; exact hq.2
  |ret=>unfold retI; exact hq.2
 ·refine xcontract_of ht hT (fun ds st r hr=>?_) hy
  unfold sxG at hr
  split at hr
  case h_2=>cases hr
  rename_i d e st' hg
  split at hr
  case isTrue=>cases hr
  rename_i he
  simp only[Option.some.injEq]at hr
  subst hr
  refine wW_mk (W_mono _ _ _ _ _ (W_of (h _ _ _ _ _ (relG_inv hg))) fun x fr st hq=>?_)
  cases x with
  |exit i=>exact hq.elim
  |panic t y=>obtain⟨_,rfl,rfl,rfl⟩:=hq; unfold retX; rfl
  |next=>exact absurd hq.1 he
  |ret=>exact absurd hq.1 he
attribute [irreducible] retJ
attribute [push_cast] retJ_ret retJ_panic
def loadRel(ds:List D)(st:St)(r:D×Int×St):Prop:=∃ (k:Nat) (a h:Int) (v:List Int) (m:D) (lent:Bool),ds=[.ptr k 0,.int .i64 a]∧v.length=16∧st[k]?=some ⟨false,1,evC h v m,lent⟩∧r=(.int .i64 (ldU h v a).1,(ldU h v a).2,st)
theorem load_fnl:Fnl loadRel:=by
 rintro ds st r r' ⟨k,a,h,v,m,l,rfl,hv,h1,rfl⟩ ⟨k',a',h',v',m',l',h2,hv',h3,rfl⟩
 simp only[List.cons.injEq,D.ptr.injEq,D.int.injEq,and_true,true_and]at h2
 obtain⟨rfl,rfl⟩:=h2
 rw[h1]at h3
 simp only[Option.some.injEq,Obj.mk.injEq,true_and]at h3
 obtain⟨rfl,rfl,_⟩:=evC_inj hv hv' h3.1
 rfl
theorem and_i64(a b:Int):pbin .and (.int .i64 a) (.int .i64 b)=some (.int .i64 (andI a b)):=(rfl)
theorem shl_1{n:Int}(h:0≤n):pbin .shl (.int .i64 1) (.int .i64 n)=some (.int .i64 (bitI n)):=by
 simp only[pbin,ishift,if_neg (show ¬ n<0 by omega),Option.map_some]
 rfl
theorem fill_1(n:Int):fillD [.int .i64 0] [(0,1,.int .i64 n)]=some [.int .i64 n]:=(rfl)
set_option maxHeartbeats 4000000 in
set_option maxRecDepth 20000 in
theorem cc_load:IContract Tryz.prog GG 50 (siG loadRel)∧XIContract Tryz.prog GG 50 (sxG loadRel):=by
 refine joint (T:=tb [] []) tr_teval_evaluator_load (tb_ok all_nil all_nil) ?_
 rintro ds st d e st' ⟨k,a,h,v,m,lent,rfl,hv,hk,hr⟩
 simp only[Prod.mk.injEq]at hr
 obtain⟨rfl,rfl,rfl⟩:=hr
 unfold F_teval_evaluator_load ldU
 by_cases h0:a<0
 ·rw[if_pos (Or.inl h0)]
  simp (disch:=first|omega|decide) only[push_cast,↓reduceIte,Nat.reduceEqDiff,Int.reduceNeg,h0,fill_1,and_true]; decide
 ·by_cases h1:16≤a
  ·rw[if_pos (Or.inr h1)]
   simp (disch:=first|omega|decide) only[push_cast,↓reduceIte,Nat.reduceEqDiff,Int.reduceNeg,h0,h1,fill_1,and_true]; decide
  ·rw[if_neg (by omega)]
   obtain⟨n,rfl⟩:∃ n:Nat,a=n:=⟨a.toNat,by omega⟩
   rw[Int.toNat_natCast]
   have l1:=ldV lent h m hv n (by omega)
   have e0:at' v n=v.getD n 0:=rfl
   rw[e0]at l1
   have b1:pbin .shl (.int .i64 1) (.int .i64 (n:Int))=some (.int .i64 (bitI (n:Int))):=shl_1 (by omega)
   have b2:=and_i64 h (bitI (n:Int))
   generalize andI h (bitI (n:Int))=q at*
   by_cases hq:q=0
   ·subst hq
    rw[if_pos rfl]
    simp (disch:=first|omega|decide) only[push_cast,↓reduceIte,Nat.reduceEqDiff,Int.reduceNeg,h0,h1,hk,b1,b2,fill_1,and_true]; decide
   ·rw[if_neg hq]
    generalize v.getD n 0=z at*
    by_cases hz1:z < -9007199254740992
    ·rw[if_neg (by rw[inI_iff]; omega)]
     simp (disch:=first|omega|decide) only[push_cast,↓reduceIte,Nat.reduceEqDiff,Int.reduceNeg,h0,h1,hk,b1,b2,hq,l1,hz1,idxA_ptr,fill_1,and_true]; decide
    ·by_cases hz2:9007199254740992<z
     ·rw[if_neg (by rw[inI_iff]; omega)]
      simp (disch:=first|omega|decide) only[push_cast,↓reduceIte,Nat.reduceEqDiff,Int.reduceNeg,h0,h1,hk,b1,b2,hq,l1,hz1,hz2,idxA_ptr,fill_1,and_true]; decide
     ·rw[if_pos (inI_iff.2 (by omega))]
      simp (disch:=first|omega|decide) only[push_cast,↓reduceIte,Nat.reduceEqDiff,Int.reduceNeg,h0,h1,hk,b1,b2,hq,l1,hz1,hz2,idxA_ptr,and_true]
noncomputable def sp_opers:List D→Option D:=spOf (α:=Int) (fun a=>[.int .i64 a]) (fun a=>True) (fun a=>.int .i64 (opsF a))
theorem call_opers(op:Int):sp_opers [.int .i64 op]=some (.int .i64 (opsF op)):=
 spOf_enc (fun a b h=>by simp only[List.cons.injEq,D.int.injEq,true_and,and_true]at h; simp[h]) (op) trivial
set_option maxHeartbeats 4000000 in
set_option maxRecDepth 20000 in
theorem w_opers(op:Int):@wW GG (tb [] []) F_teval_operands.code (argF [.int .i64 op]) [] ⟨retQ F_teval_operands.res (.int .i64 (opsF op))⟩:=by
 unfold F_teval_operands opsF
 by_cases h1:op<1
 ·simp (disch:=first|omega|decide) only[push_cast,↓reduceIte,Nat.reduceEqDiff,Int.reduceNeg,h1,true_or]
 ·by_cases h2:11<op
  ·simp (disch:=first|omega|decide) only[push_cast,↓reduceIte,Nat.reduceEqDiff,Int.reduceNeg,h1,h2,or_true]
  ·by_cases h3:op=1
   ·simp (disch:=first|omega|decide) only[push_cast,↓reduceIte,Nat.reduceEqDiff,Int.reduceLT,Int.reduceNeg,h3,or_self,true_or]
   ·by_cases h4:op=2
    ·subst h4
     simp (disch:=first|omega|decide) only[push_cast,↓reduceIte,Nat.reduceEqDiff,Int.reduceNeg,h1,h2,h3,or_self,or_true]
    ·by_cases h5:op=11
     ·subst h5
      simp (disch:=first|omega|decide) only[push_cast,↓reduceIte,Nat.reduceEqDiff,Int.reduceNeg,h1,h2,h3,h4,or_self]
     ·simp (disch:=first|omega|decide) only[push_cast,↓reduceIte,Nat.reduceEqDiff,Int.reduceNeg,h1,h2,h3,h4,h5,or_self]
theorem c_opers:Contract Tryz.prog GG 40 sp_opers:=
 contract_of tr_teval_operands (tb_ok all_nil all_nil) (fun a h=>w_opers a)
noncomputable def sp_form(N:Nat):List D→Option D:=spOf (α:=D×Nat) (fun a=>[a.1,.int .i64 (a.2:Int)]) (fun a=>a.2≤N∧N≤100∧ExP a.1) (fun a=>.bool (formF a.2 a.1))
theorem call_form(N n:Nat)(x:D)(h:n≤N∧N≤100∧ExP x):sp_form N [x,.int .i64 (n:Int)]=some (.bool (formF n x)):=
 spOf_enc (fun⟨a0,a1⟩ ⟨b0,b1⟩ h=>by simp only[List.cons.injEq,D.int.injEq,true_and,and_true,Int.ofNat_inj]at h; simp[h]) (x,n) h
theorem box_ex(op k u0 u1 u2 u3:Int)(els:List D):boxD (exD op k u0 u1 u2 u3 els)=some (exC op k u0 u1 u2 u3 els):=(rfl)
theorem ld_op(lent:Bool)(op k u0 u1 u2 u3:Int)(els:List D):ldO (some ⟨false,1,exC op k u0 u1 u2 u3 els,lent⟩) 1 false 0=some (.int .i64 op):=(rfl)
theorem ld_k(lent:Bool)(op k u0 u1 u2 u3:Int)(els:List D):ldO (some ⟨false,1,exC op k u0 u1 u2 u3 els,lent⟩) 1 false 1=some (.int .i64 k):=(rfl)
theorem ld_l(lent:Bool)(op k u0 u1 u2 u3:Int)(els:List D):ldO (some ⟨false,1,exC op k u0 u1 u2 u3 els,lent⟩) 1 false 6=some (.slc (nz 7 els) els false):=(rfl)
theorem ld_ex(lent:Bool)(op k u0 u1 u2 u3:Int)(els:List D):ldO (some ⟨false,1,exC op k u0 u1 u2 u3 els,lent⟩) 7 true 0=some (exD op k u0 u1 u2 u3 els):=(rfl)
theorem st_ex(op k u0 u1 u2 u3:Int)(els:List D):stO (some ⟨false,1,[.int .i64 0,.int .i64 0,.int .i64 0,.int .i64 0,.int .i64 0,.int .i64 0,.slc 0 [] true],false⟩) 7 0 (exD op k u0 u1 u2 u3 els)=some ⟨false,1,exC op k u0 u1 u2 u3 els,false⟩:=(rfl)
theorem pld_ex(st:St)(op k u0 u1 u2 u3:Int)(els:List D):pload st 7 true (.eptr (exD op k u0 u1 u2 u3 els) 0)=some (exD op k u0 u1 u2 u3 els):=(rfl)
theorem imm_ex(st:St)(op k u0 u1 u2 u3:Int)(els:List D):imm st (exD op k u0 u1 u2 u3 els)=some (exD op k u0 u1 u2 u3 els):=by
 simp only[exD,exC,imm,immL,imm1,nz_nz]
 rfl
theorem keys_ex(op k u0 u1 u2 u3:Int)(els:List D):keys (exD op k u0 u1 u2 u3 els)=[]:=(rfl)
theorem idx_ex(st:St)(els:List D)(t:Bool)(i:Nat)(h:i<els.length):pidxS st 7 (.slc (nz 7 els) els t) (.int .i64 (i:Int))=some (.eptr (els.getD i default) 0):=by
 have:=idxS_nz st 7 (id:D→D) els t .i64 (i:Int) (by omega) (by omega)
 rwa [Int.toNat_natCast,List.map_id]at this
theorem box_ex0:boxD (.agg [.int .i64 0,.int .i64 0,.int .i64 0,.int .i64 0,.int .i64 0,.int .i64 0,.slc 0 [] true])=some [.int .i64 0,.int .i64 0,.int .i64 0,.int .i64 0,.int .i64 0,.int .i64 0,.slc 0 [] true]:=(rfl)
theorem hkB_ex(op k u0 u1 u2 u3:Int)(els:List D):(exC op k u0 u1 u2 u3 els).flatMap hk=[]:=(rfl)
theorem renB_ex(n:Nat)(σ:List Nat)(op k u0 u1 u2 u3:Int)(els:List D):(exC op k u0 u1 u2 u3 els).map (ren n σ)=exC op k u0 u1 u2 u3 els:=(rfl)
attribute [push_cast] box_ex0 hkB_ex renB_ex box_ex ld_op ld_k ld_l ld_ex st_ex pld_ex imm_ex keys_ex
theorem drop_allD{p:D→Bool}{l:List D}{i:Nat}(h:i<l.length):(l.drop i).all p=(p (l.getD i default) && (l.drop (i+1)).all p):=by
 rw[List.drop_eq_getElem_cons h,List.all_cons]
 simp[List.getD_eq_getElem?_getD,h]
theorem getD_memD{l:List D}{i:Nat}(h:i<l.length):l.getD i default∈l:=by
 rw[List.getD_eq_getElem?_getD,List.getElem?_eq_getElem h]
 exact List.getElem_mem h
noncomputable abbrev TBF(N:Nat):Tbl:=tb [(40,sp_opers),(18,sp_form N)] []
set_option maxHeartbeats 4000000 in
set_option maxRecDepth 20000 in
theorem w_form(N n:Nat)(x:D)(h:n≤N+1∧N+1≤100∧ExP x):@wW GG (TBF N) F_teval_formed.code (argF [x,.int .i64 (n:Int)]) [] ⟨retQ F_teval_formed.res (.bool (formF n x))⟩:=by
 obtain⟨h1,h2,hx⟩:=h
 obtain⟨op,k,u0,u1,u2,u3,els,hl,hel⟩:=hx
 unfold F_teval_formed
 cases n with
 |zero=>simp (disch:=first|omega|decide) only[push_cast,↓reduceIte,Nat.reduceEqDiff,↓Int.reduceNatCast',formF]
 |succ m=>
  have n0:((m:Int)+1=0)=False:=by simp; omega
  have co:=call_opers op
  rw[formF_ex]
  by_cases ho:(els.length:Int)=opsF op
  ·rw[if_pos ho]
   replace ho:=eq_true ho
   by_cases o1:op=1
   ·subst o1
    rw[if_pos rfl]
    by_cases k1:0≤k
    ·by_cases k2:k≤1099511627776 <;> simp (disch:=first|omega|decide) only[push_cast,↓reduceIte,Nat.reduceEqDiff,n0,co,ho,k1,k2]
    ·simp (disch:=first|omega|decide) only[push_cast,↓reduceIte,Nat.reduceEqDiff,n0,co,ho,k1]
   ·rw[if_neg o1]
    by_cases o2:op=2
    ·subst o2
     rw[if_pos rfl]
     by_cases k1:0≤k
     ·by_cases k2:k<16 <;> simp (disch:=first|omega|decide) only[push_cast,↓reduceIte,Nat.reduceEqDiff,n0,co,ho,o1,k1,k2]
     ·simp (disch:=first|omega|decide) only[push_cast,↓reduceIte,Nat.reduceEqDiff,n0,co,ho,o1,k1]
    ·rw[if_neg o2]
     simp (disch:=first|omega|decide) only[push_cast,↓reduceIte,Nat.reduceEqDiff,n0,co,ho,o1,o2]
     refine W_while (fun i:Nat=>[(1,.int .i64 (((m+1:Nat)):Int)),(41,.slc (nz 7 els) els false),(42,.int .i64 (els.length:Int)),(43,.int .i64 (i:Int))]) (fun _=>[⟨false,1,exC op k u0 u1 u2 u3 els,false⟩]) (fun i=>i≤els.length∧els.all (formF m)=(els.drop i).all (formF m)) (fun i=>els.length - i) 0 (by simp only[push_cast,↓reduceIte,Nat.reduceEqDiff,↓Int.reduceNatCast'] <;> rfl) ⟨Nat.zero_le _,rfl⟩ ?_
     rintro i ⟨hi,hh⟩
     unfold F_teval_formed_L0
     simp (disch:=first|omega|decide) only[push_cast,↓reduceIte,Nat.reduceEqDiff]
     refine ifD_split (fun h2=>?_) (fun h2=>?_)
     ·have hlt:i<els.length:=by omega
      rw[drop_allD hlt]at hh
      have hix:=fun st t=>idx_ex st els t i hlt
      have hy:=hel _ (getD_memD hlt)
      have cf:=call_form N m (els.getD i default) ⟨by omega,by omega,hy⟩
      generalize els.getD i default=y at*
      obtain⟨op',k',v0,v1,v2,v3,els',hl',hel'⟩:=hy
      have hs:pbin .sub (.int .i64 ((m:Int)+1)) (.int .i64 1)=some (.int .i64 (m:Int)):=by
       rw[sub_i (by omega) (by omega)]; congr 2; omega
      cases hf:formF m (exD op' k' v0 v1 v2 v3 els')with
      |false=>
       rw[hf]at cf hh
       rw[Bool.false_and]at hh
       simp (disch:=first|omega|decide) only[push_cast,↓reduceIte,Nat.reduceEqDiff,hix,hs,cf,hh]
      |true=>
       rw[hf]at cf hh
       rw[Bool.true_and]at hh
       simp (disch:=first|omega|decide) only[push_cast,↓reduceIte,Nat.reduceEqDiff,Nat.reduceLeDiff,Nat.reduceAdd,hix,hs,cf,add_i]
       refine next_head (i+1) (by exact⟨by omega,hh⟩) (by omega) ?_
       simp only[push_cast] <;> rfl
     ·obtain rfl:i=els.length:=by omega
      rw[List.drop_length]at hh
      simp (disch:=first|omega|decide) only[push_cast,↓reduceIte,hh,List.all_nil]
  ·rw[if_neg ho]
   replace ho:=eq_false ho
   simp (disch:=first|omega|decide) only[push_cast,↓reduceIte,Nat.reduceEqDiff,n0,co,ho]
theorem c_form:∀ N,Contract Tryz.prog GG 18 (sp_form N)
 |0=>contract_of tr_teval_formed (T:=tb [(40,sp_opers),(18,fun _=>none)] []) (tb_ok (all_cons c_opers (all_cons (fun w g ds vs d h=>by cases h) all_nil)) all_nil) (fun a h=>by
  obtain⟨x,n⟩:=a
  obtain⟨h1,h2,hx⟩:=h
  dsimp only at h1 hx
  obtain rfl:n=0:=by omega
  obtain⟨op,k,u0,u1,u2,u3,els,hl,hel⟩:=hx
  unfold F_teval_formed
  simp (disch:=first|omega|decide) only[push_cast,↓reduceIte,Nat.reduceEqDiff,formF,Int.cast_ofNat_Int])
 |N+1=>contract_of tr_teval_formed (T:=TBF N) (tb_ok (all_cons c_opers (all_cons (c_form N) all_nil)) all_nil) (fun a h=>w_form N a.2 a.1 h)
def bothR(ev:D→(Int×Int)×St)(els:List D):(Int×Int×Int)×St:=
 if(ev (els.getD 0 default)).1.2=0 then(((ev (els.getD 0 default)).1.1,(ev (els.getD 1 default)).1.1,(ev (els.getD 1 default)).1.2),(ev (els.getD 0 default)).2++(ev (els.getD 1 default)).2)
 else((0,0,(ev (els.getD 0 default)).1.2),(ev (els.getD 0 default)).2)
def opR(ev:D→(Int×Int)×St)(op:Int)(els:List D):(Int×Int)×St:=
 if(bothR ev els).1.2.2=0 then
  if op=11 then((ev (els.getD (if(bothR ev els).1.1<(bothR ev els).1.2.1 then 2 else 3) default)).1,(bothR ev els).2++(ev (els.getD (if(bothR ev els).1.1<(bothR ev els).1.2.1 then 2 else 3) default)).2)
  else(binU op (bothR ev els).1.1 (bothR ev els).1.2.1,(bothR ev els).2)
 else((0,(bothR ev els).1.2.2),(bothR ev els).2)
def evS:Nat→Int×List Int→D→(Int×Int)×St
 |0,_,_=>((0,0),[])
 |n+1,v,.agg [.int .i64 op,.int .i64 k,a,b,c,d,.slc z els t]=>
  if op=1 then((k,0),[⟨false,1,[.int .i64 op,.int .i64 k,a,b,c,d,.slc z els t],false⟩])
  else if op=2 then(ldU v.1 v.2 k,[⟨false,1,[.int .i64 op,.int .i64 k,a,b,c,d,.slc z els t],false⟩])
  else((opR (evS n v) op els).1,⟨false,1,[.int .i64 op,.int .i64 k,a,b,c,d,.slc z els t],false⟩::(opR (evS n v) op els).2)
 |_+1,_,_=>((0,0),[])
theorem evS_ex(n:Nat)(v:Int×List Int)(op k u0 u1 u2 u3:Int)(els:List D):evS (n+1) v (exD op k u0 u1 u2 u3 els)=
  if op=1 then((k,0),[⟨false,1,exC op k u0 u1 u2 u3 els,false⟩])else if op=2 then(ldU v.1 v.2 k,[⟨false,1,exC op k u0 u1 u2 u3 els,false⟩])
  else((opR (evS n v) op els).1,⟨false,1,exC op k u0 u1 u2 u3 els,false⟩::(opR (evS n v) op els).2):=by
 simp only[exD,exC,evS]
structure EvAt (st:St) (k m:Nat) (v:Int×List Int):Prop where
 cs:v.2.length=16
 ev:st[k]?=some ⟨false,1,evC v.1 v.2 (.mapv m),false⟩
 mp:st[m]?=some ⟨false,2,evN k 9,false⟩
theorem EvAt.app{st:St}{k m:Nat}{v:Int×List Int}(h:EvAt st k m v)(l:St):EvAt (st++l) k m v:=by
 have h1:=(List.getElem?_eq_some_iff.1 h.ev).1
 have h2:=(List.getElem?_eq_some_iff.1 h.mp).1
 exact⟨h.cs,by rw[List.getElem?_append_left h1]; exact h.ev,by rw[List.getElem?_append_left h2]; exact h.mp⟩
theorem EvAt.same{st:St}{k m m':Nat}{v v':Int×List Int}(h:EvAt st k m v)(h':EvAt st k m' v'):v=v':=by
 have:=h.ev.symm.trans h'.ev
 simp only[Option.some.injEq,Obj.mk.injEq,true_and,and_true]at this
 have e:=evC_inj h.cs h'.cs this
 exact Prod.ext e.1 e.2.1
def opsOK(N:Nat)(els:List D):Prop:=∀ x∈els,ExP x∧formF N x=true
def evRel(N:Nat)(ds:List D)(st:St)(r:D×Int×St):Prop:=∃ (k m:Nat) (v:Int×List Int) (e:D),ds=[.ptr k 0,e]∧EvAt st k m v∧ExP e∧formF N e=true∧r=(.int .i64 (evS N v e).1.1,(evS N v e).1.2,st++(evS N v e).2)
def bothRel(N:Nat)(ds:List D)(st:St)(r:D×Int×St):Prop:=∃ (k m:Nat) (v:Int×List Int) (els:List D),ds=[.ptr k 0,.slc (nz 7 els) els false]∧EvAt st k m v∧opsOK N els∧2≤els.length∧
 r=(.tup [.int .i64 (bothR (evS N v) els).1.1,.int .i64 (bothR (evS N v) els).1.2.1],(bothR (evS N v) els).1.2.2,st++(bothR (evS N v) els).2)
def opRel(N:Nat)(op:Int)(ds:List D)(st:St)(r:D×Int×St):Prop:=∃ (k m:Nat) (v:Int×List Int) (els:List D),ds=[.ptr k 0,.slc (nz 7 els) els false]∧EvAt st k m v∧opsOK N els∧(els.length:Int)=opsF op∧
 r=(.int .i64 (opR (evS N v) op els).1.1,(opR (evS N v) op els).1.2,st++(opR (evS N v) op els).2)
def divRel(N:Nat)(ds:List D)(st:St)(r:D×Int×St):Prop:=∃ (k m:Nat) (v:Int×List Int) (els:List D) (op:Int),ds=[.ptr k 0,.slc (nz 7 els) els false,.int .i64 op]∧EvAt st k m v∧opsOK N els∧els.length=2∧(op=8∨op=9∨op=10)∧
 r=(.int .i64 (opR (evS N v) op els).1.1,(opR (evS N v) op els).1.2,st++(opR (evS N v) op els).2)
def mustRel(ds:List D)(st:St)(r:D×Int×St):Prop:=∃ (n e:Int),ds=[.int .i64 n,.int .i64 e]∧r=(.int .i64 n,e,st)
theorem ev_fnl(N:Nat):Fnl (evRel N):=by
 rintro ds st r r' ⟨k,m,v,e,rfl,h1,_,_,rfl⟩ ⟨k',m',v',e',h2,h3,_,_,rfl⟩
 simp only[List.cons.injEq,D.ptr.injEq,and_true]at h2
 obtain⟨rfl,rfl⟩:=h2
 obtain rfl:=h1.same h3
 rfl
theorem both_fnl(N:Nat):Fnl (bothRel N):=by
 rintro ds st r r' ⟨k,m,v,e,rfl,h1,_,_,rfl⟩ ⟨k',m',v',e',h2,h3,_,_,rfl⟩
 simp only[List.cons.injEq,D.ptr.injEq,D.slc.injEq,and_true]at h2
 obtain⟨rfl,_,rfl⟩:=h2
 obtain rfl:=h1.same h3
 rfl
theorem op_fnl(N:Nat)(op:Int):Fnl (opRel N op):=by
 rintro ds st r r' ⟨k,m,v,e,rfl,h1,_,_,rfl⟩ ⟨k',m',v',e',h2,h3,_,_,rfl⟩
 simp only[List.cons.injEq,D.ptr.injEq,D.slc.injEq,and_true]at h2
 obtain⟨rfl,_,rfl⟩:=h2
 obtain rfl:=h1.same h3
 rfl
theorem div_fnl(N:Nat):Fnl (divRel N):=by
 rintro ds st r r' ⟨k,m,v,e,o,rfl,h1,_,_,_,rfl⟩ ⟨k',m',v',e',o',h2,h3,_,_,_,rfl⟩
 simp only[List.cons.injEq,D.ptr.injEq,D.slc.injEq,D.int.injEq,and_true,true_and]at h2
 obtain⟨rfl,⟨_,rfl⟩,rfl⟩:=h2
 obtain rfl:=h1.same h3
 rfl
theorem must_fnl:Fnl mustRel:=by
 rintro ds st r r' ⟨n,e,rfl,rfl⟩ ⟨n',e',h2,rfl⟩
 simp only[List.cons.injEq,D.int.injEq,and_true,true_and]at h2
 obtain⟨rfl,rfl⟩:=h2
 rfl
theorem pld_exP{x:D}(h:ExP x)(st:St):pload st 7 true (.eptr x 0)=some x:=by
 obtain⟨op,k,u0,u1,u2,u3,els,_,_⟩:=h
 exact pld_ex ..
theorem cc_must:IContract Tryz.prog GG 67 (siG mustRel)∧XIContract Tryz.prog GG 67 (sxG mustRel):=by
 refine joint (T:=tb [] []) tr_teval_must (tb_ok all_nil all_nil) ?_
 rintro ds st d e st' ⟨n,e',rfl,h⟩
 simp only[Prod.mk.injEq]at h
 obtain⟨rfl,rfl,rfl⟩:=h
 unfold F_teval_must
 by_cases he:e=0
 ·simp (disch:=first|omega|decide) only[push_cast,↓reduceIte,Nat.reduceEqDiff,he,and_true]
 ·simp (disch:=first|omega|decide) only[push_cast,↓reduceIte,Nat.reduceEqDiff,fill_1,he,and_true,not_false_eq_true]
noncomputable abbrev TEV(N:Nat):Tbl:=tbx [] [(21,siG (evRel N))] [(21,sxG (evRel N))]
theorem cc_both(N:Nat)(h:IContract Tryz.prog GG 21 (siG (evRel N))∧XIContract Tryz.prog GG 21 (sxG (evRel N))):IContract Tryz.prog GG 69 (siG (bothRel N))∧XIContract Tryz.prog GG 69 (sxG (bothRel N)):=by
 refine joint (T:=TEV N) tr_teval_evaluator_both (tbx_ok all_nil (all_cons h.1 all_nil) (all_cons h.2 all_nil)) ?_
 rintro ds st d e st' ⟨k,m,v,els,rfl,hev,hok,hl,h⟩
 simp only[Prod.mk.injEq]at h
 obtain⟨rfl,rfl,rfl⟩:=h
 have i0:=fun st t=>idx_ex st els t 0 (by omega)
 have i1:=fun st t=>idx_ex st els t 1 (by omega)
 obtain⟨a1,a2⟩:=hok _ (getD_memD (l:=els) (i:=0) (by omega))
 obtain⟨b1,b2⟩:=hok _ (getD_memD (l:=els) (i:=1) (by omega))
 have r0:evRel N [.ptr k 0,els.getD 0 default] st _:=⟨k,m,v,_,rfl,hev,a1,a2,rfl⟩
 have r1:evRel N [.ptr k 0,els.getD 1 default] (st++(evS N v (els.getD 0 default)).2) _:=⟨k,m,v,_,rfl,hev.app _,b1,b2,rfl⟩
 have p0:=pld_exP a1
 have p1:=pld_exP b1
 unfold bothR
 simp only[Int.cast_ofNat_Int]at i0 i1
 generalize els.getD 0 default=x at*
 generalize els.getD 1 default=y at*
 generalize evS N v x=rx at*
 generalize evS N v y=ry at*
 obtain⟨⟨vx,ex⟩,ox⟩:=rx
 obtain⟨⟨vy,ey⟩,oy⟩:=ry
 dsimp only at r0 r1 ⊢
 unfold F_teval_evaluator_both
 by_cases hx:ex=0
 ·subst hx
  have c0:=si_val (ev_fnl N) r0
  by_cases hy:ey=0
  ·subst hy
   have c1:=si_val (ev_fnl N) r1
   simp (disch:=first|omega|decide) only[push_cast,↓reduceIte,Nat.reduceEqDiff,i0,i1,p0,p1,c0,c1,List.append_assoc,and_true]
  ·have c1:=si_bad (ev_fnl N) r1 hy
   have c2:=sx_bad (ev_fnl N) r1 hy
   simp (disch:=first|omega|decide) only[push_cast,↓reduceIte,Nat.reduceEqDiff,i0,i1,p0,p1,c0,c1,c2,hy,List.append_assoc,and_true,not_false_eq_true]
 ·have c0:=si_bad (ev_fnl N) r0 hx
  have c1:=sx_bad (ev_fnl N) r0 hx
  simp (disch:=first|omega|decide) only[push_cast,↓reduceIte,Nat.reduceEqDiff,i0,p0,c0,c1,hx,and_true,not_false_eq_true]
theorem opR_bin(ev:D→(Int×Int)×St){op:Int}(h:op≠11)(els:List D):opR ev op els=if(bothR ev els).1.2.2=0 then(binU op (bothR ev els).1.1 (bothR ev els).1.2.1,(bothR ev els).2)else((0,(bothR ev els).1.2.2),(bothR ev els).2):=by
 unfold opR
 simp only[h,if_false]
theorem opR_if(ev:D→(Int×Int)×St)(els:List D):opR ev 11 els=if(bothR ev els).1.2.2=0 then((ev (els.getD (if(bothR ev els).1.1<(bothR ev els).1.2.1 then 2 else 3) default)).1,(bothR ev els).2++(ev (els.getD (if(bothR ev els).1.1<(bothR ev els).1.2.1 then 2 else 3) default)).2)
  else((0,(bothR ev els).1.2.2),(bothR ev els).2):=by
 unfold opR
 simp only[eq_self,if_true]
abbrev CC(f:Nat)(R:List D→St→D×Int×St→Prop):Prop:=IContract Tryz.prog GG f (siG R)∧XIContract Tryz.prog GG f (sxG R)
noncomputable abbrev TOP(N:Nat):Tbl:=tbx [(68,sp_mnAdd),(70,sp_mnSub),(71,sp_mnMul),(97,sp_mnDiv)]
 [(21,siG (evRel N)),(69,siG (bothRel N)),(67,siG mustRel)]
 [(21,sxG (evRel N)),(69,sxG (bothRel N)),(67,sxG mustRel)]
theorem top_ok{N:Nat}(h:CC 21 (evRel N)):TblOK Tryz.prog GG (TOP N):=
 tbx_ok (all_cons c_mnAdd (all_cons c_mnSub (all_cons c_mnMul (all_cons c_mnDiv all_nil)))) (all_cons h.1 (all_cons (cc_both N h).1 (all_cons cc_must.1 all_nil))) (all_cons h.2 (all_cons (cc_both N h).2 (all_cons cc_must.2 all_nil)))
theorem cc_add(N:Nat)(h:CC 21 (evRel N)):CC 41 (opRel N 3):=by
 refine joint (T:=TOP N) tr_teval_evaluator_add (top_ok h) ?_
 rintro ds st d e st' ⟨k,m,v,els,rfl,hev,hok,hl,h⟩
 simp only[Prod.mk.injEq]at h
 obtain⟨rfl,rfl,rfl⟩:=h
 have hl2:els.length=2:=by have e:opsF 3=2:=rfl; omega
 have rb:bothRel N [.ptr k 0,.slc (nz 7 els) els false] st _:=⟨k,m,v,els,rfl,hev,hok,by omega,rfl⟩
 rw[opR_bin _ (by decide)]
 generalize bothR (evS N v) els=r at*
 obtain⟨⟨a,b,eb⟩,ob⟩:=r
 dsimp only at rb ⊢
 unfold F_teval_evaluator_add
 by_cases hb:eb=0
 ·subst hb
  have c0:=si_val (both_fnl N) rb
  have ca:=call_mnAdd a b
  have hop:binU 3 a b=addF a b:=(rfl)
  rw[if_pos rfl,hop]
  generalize addF a b=q at*
  obtain⟨n,e⟩:=q
  dsimp only at ca ⊢
  have rm:mustRel [.int .i64 n,.int .i64 e] (st++ob) (.int .i64 n,e,st++ob):=⟨n,e,rfl,rfl⟩
  by_cases he:e=0
  ·subst he
   have cm:=si_val must_fnl rm
   simp (disch:=first|omega|decide) only[push_cast,↓reduceIte,Nat.reduceEqDiff,c0,ca,cm,and_true]
  ·have cm:=si_bad must_fnl rm he
   have cx:=sx_bad must_fnl rm he
   simp (disch:=first|omega|decide) only[push_cast,↓reduceIte,Nat.reduceEqDiff,c0,ca,cm,cx,he,and_true,not_false_eq_true]
 ·have c0:=si_bad (both_fnl N) rb hb
  have c1:=sx_bad (both_fnl N) rb hb
  rw[if_neg hb]
  simp (disch:=first|omega|decide) only[push_cast,↓reduceIte,Nat.reduceEqDiff,c0,c1,hb,and_true,not_false_eq_true]
theorem cc_sub(N:Nat)(h:CC 21 (evRel N)):CC 42 (opRel N 4):=by
 refine joint (T:=TOP N) tr_teval_evaluator_sub (top_ok h) ?_
 rintro ds st d e st' ⟨k,m,v,els,rfl,hev,hok,hl,h⟩
 simp only[Prod.mk.injEq]at h
 obtain⟨rfl,rfl,rfl⟩:=h
 have hl2:els.length=2:=by have e:opsF 4=2:=rfl; omega
 have rb:bothRel N [.ptr k 0,.slc (nz 7 els) els false] st _:=⟨k,m,v,els,rfl,hev,hok,by omega,rfl⟩
 rw[opR_bin _ (by decide)]
 generalize bothR (evS N v) els=r at*
 obtain⟨⟨a,b,eb⟩,ob⟩:=r
 dsimp only at rb ⊢
 unfold F_teval_evaluator_sub
 by_cases hb:eb=0
 ·subst hb
  have c0:=si_val (both_fnl N) rb
  have ca:=call_mnSub a b
  have hop:binU 4 a b=subF a b:=(rfl)
  rw[if_pos rfl,hop]
  generalize subF a b=q at*
  obtain⟨n,e⟩:=q
  dsimp only at ca ⊢
  have rm:mustRel [.int .i64 n,.int .i64 e] (st++ob) (.int .i64 n,e,st++ob):=⟨n,e,rfl,rfl⟩
  by_cases he:e=0
  ·subst he
   have cm:=si_val must_fnl rm
   simp (disch:=first|omega|decide) only[push_cast,↓reduceIte,Nat.reduceEqDiff,c0,ca,cm,and_true]
  ·have cm:=si_bad must_fnl rm he
   have cx:=sx_bad must_fnl rm he
   simp (disch:=first|omega|decide) only[push_cast,↓reduceIte,Nat.reduceEqDiff,c0,ca,cm,cx,he,and_true,not_false_eq_true]
 ·have c0:=si_bad (both_fnl N) rb hb
  have c1:=sx_bad (both_fnl N) rb hb
  rw[if_neg hb]
  simp (disch:=first|omega|decide) only[push_cast,↓reduceIte,Nat.reduceEqDiff,c0,c1,hb,and_true,not_false_eq_true]
theorem cc_mul(N:Nat)(h:CC 21 (evRel N)):CC 43 (opRel N 5):=by
 refine joint (T:=TOP N) tr_teval_evaluator_mul (top_ok h) ?_
 rintro ds st d e st' ⟨k,m,v,els,rfl,hev,hok,hl,h⟩
 simp only[Prod.mk.injEq]at h
 obtain⟨rfl,rfl,rfl⟩:=h
 have hl2:els.length=2:=by have e:opsF 5=2:=rfl; omega
 have rb:bothRel N [.ptr k 0,.slc (nz 7 els) els false] st _:=⟨k,m,v,els,rfl,hev,hok,by omega,rfl⟩
 rw[opR_bin _ (by decide)]
 generalize bothR (evS N v) els=r at*
 obtain⟨⟨a,b,eb⟩,ob⟩:=r
 dsimp only at rb ⊢
 unfold F_teval_evaluator_mul
 by_cases hb:eb=0
 ·subst hb
  have c0:=si_val (both_fnl N) rb
  have ca:=call_mnMul a b
  have hop:binU 5 a b=mulF a b:=(rfl)
  rw[if_pos rfl,hop]
  generalize mulF a b=q at*
  obtain⟨n,e⟩:=q
  dsimp only at ca ⊢
  have rm:mustRel [.int .i64 n,.int .i64 e] (st++ob) (.int .i64 n,e,st++ob):=⟨n,e,rfl,rfl⟩
  by_cases he:e=0
  ·subst he
   have cm:=si_val must_fnl rm
   simp (disch:=first|omega|decide) only[push_cast,↓reduceIte,Nat.reduceEqDiff,c0,ca,cm,and_true]
  ·have cm:=si_bad must_fnl rm he
   have cx:=sx_bad must_fnl rm he
   simp (disch:=first|omega|decide) only[push_cast,↓reduceIte,Nat.reduceEqDiff,c0,ca,cm,cx,he,and_true,not_false_eq_true]
 ·have c0:=si_bad (both_fnl N) rb hb
  have c1:=sx_bad (both_fnl N) rb hb
  rw[if_neg hb]
  simp (disch:=first|omega|decide) only[push_cast,↓reduceIte,Nat.reduceEqDiff,c0,c1,hb,and_true,not_false_eq_true]
theorem cc_least(N:Nat)(h:CC 21 (evRel N)):CC 44 (opRel N 6):=by
 refine joint (T:=TOP N) tr_teval_evaluator_least (top_ok h) ?_
 rintro ds st d e st' ⟨k,m,v,els,rfl,hev,hok,hl,h⟩
 simp only[Prod.mk.injEq]at h
 obtain⟨rfl,rfl,rfl⟩:=h
 have hl2:els.length=2:=by have e:opsF 6=2:=rfl; omega
 have rb:bothRel N [.ptr k 0,.slc (nz 7 els) els false] st _:=⟨k,m,v,els,rfl,hev,hok,by omega,rfl⟩
 rw[opR_bin _ (by decide)]
 generalize bothR (evS N v) els=r at*
 obtain⟨⟨a,b,eb⟩,ob⟩:=r
 dsimp only at rb ⊢
 unfold F_teval_evaluator_least
 by_cases hb:eb=0
 ·subst hb
  have c0:=si_val (both_fnl N) rb
  have hop:binU 6 a b=(min a b,0):=(rfl)
  rw[if_pos rfl,hop]
  simp (disch:=first|omega|decide) only[push_cast,↓reduceIte,Nat.reduceEqDiff,c0,and_true]
 ·have c0:=si_bad (both_fnl N) rb hb
  have c1:=sx_bad (both_fnl N) rb hb
  rw[if_neg hb]
  simp (disch:=first|omega|decide) only[push_cast,↓reduceIte,Nat.reduceEqDiff,c0,c1,hb,and_true,not_false_eq_true]
theorem cc_greatest(N:Nat)(h:CC 21 (evRel N)):CC 45 (opRel N 7):=by
 refine joint (T:=TOP N) tr_teval_evaluator_greatest (top_ok h) ?_
 rintro ds st d e st' ⟨k,m,v,els,rfl,hev,hok,hl,h⟩
 simp only[Prod.mk.injEq]at h
 obtain⟨rfl,rfl,rfl⟩:=h
 have hl2:els.length=2:=by have e:opsF 7=2:=rfl; omega
 have rb:bothRel N [.ptr k 0,.slc (nz 7 els) els false] st _:=⟨k,m,v,els,rfl,hev,hok,by omega,rfl⟩
 rw[opR_bin _ (by decide)]
 generalize bothR (evS N v) els=r at*
 obtain⟨⟨a,b,eb⟩,ob⟩:=r
 dsimp only at rb ⊢
 unfold F_teval_evaluator_greatest
 by_cases hb:eb=0
 ·subst hb
  have c0:=si_val (both_fnl N) rb
  have hop:binU 7 a b=(max a b,0):=(rfl)
  rw[if_pos rfl,hop]
  simp (disch:=first|omega|decide) only[push_cast,↓reduceIte,Nat.reduceEqDiff,c0,and_true]
 ·have c0:=si_bad (both_fnl N) rb hb
  have c1:=sx_bad (both_fnl N) rb hb
  rw[if_neg hb]
  simp (disch:=first|omega|decide) only[push_cast,↓reduceIte,Nat.reduceEqDiff,c0,c1,hb,and_true,not_false_eq_true]
theorem cc_divide(N:Nat)(h:CC 21 (evRel N)):CC 72 (divRel N):=by
 refine joint (T:=TOP N) tr_teval_evaluator_divide (top_ok h) ?_
 rintro ds st d e st' ⟨k,m,v,els,op,rfl,hev,hok,hl2,ho,h⟩
 simp only[Prod.mk.injEq]at h
 obtain⟨rfl,rfl,rfl⟩:=h
 have rb:bothRel N [.ptr k 0,.slc (nz 7 els) els false] st _:=⟨k,m,v,els,rfl,hev,hok,by omega,rfl⟩
 rw[opR_bin _ (by omega)]
 generalize bothR (evS N v) els=r at*
 obtain⟨⟨a,b,eb⟩,ob⟩:=r
 dsimp only at rb ⊢
 unfold F_teval_evaluator_divide
 by_cases hb:eb=0
 ·subst hb
  have c0:=si_val (both_fnl N) rb
  have ca:=call_mnDiv a b op ho
  have hop:binU op a b=divF a b op:=by
   unfold binU
   rw[if_neg (by omega),if_neg (by omega),if_neg (by omega),if_neg (by omega),if_neg (by omega)]
  rw[if_pos rfl,hop]
  generalize divF a b op=q at*
  obtain⟨n,e⟩:=q
  dsimp only at ca ⊢
  have rm:mustRel [.int .i64 n,.int .i64 e] (st++ob) (.int .i64 n,e,st++ob):=⟨n,e,rfl,rfl⟩
  by_cases he:e=0
  ·subst he
   have cm:=si_val must_fnl rm
   simp (disch:=first|omega|decide) only[push_cast,↓reduceIte,Nat.reduceEqDiff,c0,ca,cm,and_true]
  ·have cm:=si_bad must_fnl rm he
   have cx:=sx_bad must_fnl rm he
   simp (disch:=first|omega|decide) only[push_cast,↓reduceIte,Nat.reduceEqDiff,c0,ca,cm,cx,he,and_true,not_false_eq_true]
 ·have c0:=si_bad (both_fnl N) rb hb
  have c1:=sx_bad (both_fnl N) rb hb
  rw[if_neg hb]
  simp (disch:=first|omega|decide) only[push_cast,↓reduceIte,Nat.reduceEqDiff,c0,c1,hb,and_true,not_false_eq_true]
noncomputable abbrev TDV(N:Nat):Tbl:=tbx [] [(72,siG (divRel N))] [(72,sxG (divRel N))]
theorem cc_down(N:Nat)(h:CC 21 (evRel N)):CC 46 (opRel N 8):=by
 refine joint (T:=TDV N) tr_teval_evaluator_down (tbx_ok all_nil (all_cons (cc_divide N h).1 all_nil) (all_cons (cc_divide N h).2 all_nil)) ?_
 rintro ds st d e st' ⟨k,m,v,els,rfl,hev,hok,hl,h⟩
 simp only[Prod.mk.injEq]at h
 obtain⟨rfl,rfl,rfl⟩:=h
 have hl2:els.length=2:=by have e:opsF 8=2:=rfl; omega
 have rb:divRel N [.ptr k 0,.slc (nz 7 els) els false,.int .i64 8] st _:=⟨k,m,v,els,8,rfl,hev,hok,hl2,by decide,rfl⟩
 generalize opR (evS N v) 8 els=r at*
 obtain⟨⟨a,eb⟩,ob⟩:=r
 dsimp only at rb ⊢
 unfold F_teval_evaluator_down
 by_cases hb:eb=0
 ·subst hb
  have c0:=si_val (div_fnl N) rb
  simp (disch:=first|omega|decide) only[push_cast,↓reduceIte,Nat.reduceEqDiff,c0,and_true]
 ·have c0:=si_bad (div_fnl N) rb hb
  have c1:=sx_bad (div_fnl N) rb hb
  simp (disch:=first|omega|decide) only[push_cast,↓reduceIte,Nat.reduceEqDiff,c0,c1,hb,and_true,not_false_eq_true]
theorem cc_up(N:Nat)(h:CC 21 (evRel N)):CC 47 (opRel N 9):=by
 refine joint (T:=TDV N) tr_teval_evaluator_up (tbx_ok all_nil (all_cons (cc_divide N h).1 all_nil) (all_cons (cc_divide N h).2 all_nil)) ?_
 rintro ds st d e st' ⟨k,m,v,els,rfl,hev,hok,hl,h⟩
 simp only[Prod.mk.injEq]at h
 obtain⟨rfl,rfl,rfl⟩:=h
 have hl2:els.length=2:=by have e:opsF 9=2:=rfl; omega
 have rb:divRel N [.ptr k 0,.slc (nz 7 els) els false,.int .i64 9] st _:=⟨k,m,v,els,9,rfl,hev,hok,hl2,by decide,rfl⟩
 generalize opR (evS N v) 9 els=r at*
 obtain⟨⟨a,eb⟩,ob⟩:=r
 dsimp only at rb ⊢
 unfold F_teval_evaluator_up
 by_cases hb:eb=0
 ·subst hb
  have c0:=si_val (div_fnl N) rb
  simp (disch:=first|omega|decide) only[push_cast,↓reduceIte,Nat.reduceEqDiff,c0,and_true]
 ·have c0:=si_bad (div_fnl N) rb hb
  have c1:=sx_bad (div_fnl N) rb hb
  simp (disch:=first|omega|decide) only[push_cast,↓reduceIte,Nat.reduceEqDiff,c0,c1,hb,and_true,not_false_eq_true]
theorem cc_half(N:Nat)(h:CC 21 (evRel N)):CC 48 (opRel N 10):=by
 refine joint (T:=TDV N) tr_teval_evaluator_half (tbx_ok all_nil (all_cons (cc_divide N h).1 all_nil) (all_cons (cc_divide N h).2 all_nil)) ?_
 rintro ds st d e st' ⟨k,m,v,els,rfl,hev,hok,hl,h⟩
 simp only[Prod.mk.injEq]at h
 obtain⟨rfl,rfl,rfl⟩:=h
 have hl2:els.length=2:=by have e:opsF 10=2:=rfl; omega
 have rb:divRel N [.ptr k 0,.slc (nz 7 els) els false,.int .i64 10] st _:=⟨k,m,v,els,10,rfl,hev,hok,hl2,by decide,rfl⟩
 generalize opR (evS N v) 10 els=r at*
 obtain⟨⟨a,eb⟩,ob⟩:=r
 dsimp only at rb ⊢
 unfold F_teval_evaluator_half
 by_cases hb:eb=0
 ·subst hb
  have c0:=si_val (div_fnl N) rb
  simp (disch:=first|omega|decide) only[push_cast,↓reduceIte,Nat.reduceEqDiff,c0,and_true]
 ·have c0:=si_bad (div_fnl N) rb hb
  have c1:=sx_bad (div_fnl N) rb hb
  simp (disch:=first|omega|decide) only[push_cast,↓reduceIte,Nat.reduceEqDiff,c0,c1,hb,and_true,not_false_eq_true]
theorem cc_choose(N:Nat)(h:CC 21 (evRel N)):CC 49 (opRel N 11):=by
 refine joint (T:=TOP N) tr_teval_evaluator_choose (top_ok h) ?_
 rintro ds st d e st' ⟨k,m,v,els,rfl,hev,hok,hl,h⟩
 simp only[Prod.mk.injEq]at h
 obtain⟨rfl,rfl,rfl⟩:=h
 have hl2:els.length=4:=by have e:opsF 11=4:=rfl; omega
 have rb:bothRel N [.ptr k 0,.slc (nz 7 els) els false] st _:=⟨k,m,v,els,rfl,hev,hok,by omega,rfl⟩
 have rc:∀ j,j<4→evRel N [.ptr k 0,els.getD j default] (st++(bothR (evS N v) els).2) _:=fun j hj=>⟨k,m,v,_,rfl,hev.app _,(hok _ (getD_memD (by omega))).1,(hok _ (getD_memD (by omega))).2,rfl⟩
 have ij:=fun st t j (hj:j<4)=>idx_ex st els t j (by omega)
 have pj:=fun j (hj:j<4)=>pld_exP (hok _ (getD_memD (l:=els) (i:=j) (by omega))).1
 have i2:∀ st t,pidxS st 7 (.slc (nz 7 els) els t) (.int .i64 2)=some (.eptr (els.getD 2 default) 0):=fun st t=>ij st t 2 (by omega)
 have i3:∀ st t,pidxS st 7 (.slc (nz 7 els) els t) (.int .i64 3)=some (.eptr (els.getD 3 default) 0):=fun st t=>ij st t 3 (by omega)
 have p2:=pj 2 (by omega)
 have p3:=pj 3 (by omega)
 have r2:=rc 2 (by omega)
 have r3:=rc 3 (by omega)
 clear rc ij pj
 rw[opR_if]
 generalize bothR (evS N v) els=r at*
 obtain⟨⟨a,b,eb⟩,ob⟩:=r
 dsimp only at rb r2 r3 ⊢
 unfold F_teval_evaluator_choose
 by_cases hb:eb=0
 ·subst hb
  have c0:=si_val (both_fnl N) rb
  by_cases hab:a<b
  ·rw[if_pos rfl,if_pos hab]
   generalize els.getD 2 default=x at*
   generalize evS N v x=rx at*
   obtain⟨⟨vx,ex⟩,ox⟩:=rx
   dsimp only at r2 ⊢
   by_cases hx:ex=0
   ·subst hx
    have c1:=si_val (ev_fnl N) r2
    simp (disch:=first|omega|decide) only[push_cast,↓reduceIte,Nat.reduceEqDiff,c0,hab,i2,p2,c1,List.append_assoc,and_true]
   ·have c1:=si_bad (ev_fnl N) r2 hx
    have c2:=sx_bad (ev_fnl N) r2 hx
    simp (disch:=first|omega|decide) only[push_cast,↓reduceIte,Nat.reduceEqDiff,c0,hab,i2,p2,c1,c2,hx,List.append_assoc,and_true,not_false_eq_true]
  ·rw[if_pos rfl,if_neg hab]
   generalize els.getD 3 default=x at*
   generalize evS N v x=rx at*
   obtain⟨⟨vx,ex⟩,ox⟩:=rx
   dsimp only at r3 ⊢
   by_cases hx:ex=0
   ·subst hx
    have c1:=si_val (ev_fnl N) r3
    simp (disch:=first|omega|decide) only[push_cast,↓reduceIte,Nat.reduceEqDiff,c0,hab,i3,p3,c1,List.append_assoc,and_true]
   ·have c1:=si_bad (ev_fnl N) r3 hx
    have c2:=sx_bad (ev_fnl N) r3 hx
    simp (disch:=first|omega|decide) only[push_cast,↓reduceIte,Nat.reduceEqDiff,c0,hab,i3,p3,c1,c2,hx,List.append_assoc,and_true,not_false_eq_true]
 ·have c0:=si_bad (both_fnl N) rb hb
  have c1:=sx_bad (both_fnl N) rb hb
  rw[if_neg hb]
  simp (disch:=first|omega|decide) only[push_cast,↓reduceIte,Nat.reduceEqDiff,c0,c1,hb,and_true,not_false_eq_true]
theorem mg_add{st:St}{m k:Nat}(h:st[m]?=some ⟨false,2,evN k 9,false⟩):pmapget st 2 [0] false .nilf (.mapv m) (.int .i64 3)=some (.clo 5000041 [.ptr k 0]):=by
 simp only[pmapget,h]
 rfl
theorem mg_sub{st:St}{m k:Nat}(h:st[m]?=some ⟨false,2,evN k 9,false⟩):pmapget st 2 [0] false .nilf (.mapv m) (.int .i64 4)=some (.clo 5000042 [.ptr k 0]):=by
 simp only[pmapget,h]
 rfl
theorem mg_mul{st:St}{m k:Nat}(h:st[m]?=some ⟨false,2,evN k 9,false⟩):pmapget st 2 [0] false .nilf (.mapv m) (.int .i64 5)=some (.clo 5000043 [.ptr k 0]):=by
 simp only[pmapget,h]
 rfl
theorem mg_least{st:St}{m k:Nat}(h:st[m]?=some ⟨false,2,evN k 9,false⟩):pmapget st 2 [0] false .nilf (.mapv m) (.int .i64 6)=some (.clo 5000044 [.ptr k 0]):=by
 simp only[pmapget,h]
 rfl
theorem mg_greatest{st:St}{m k:Nat}(h:st[m]?=some ⟨false,2,evN k 9,false⟩):pmapget st 2 [0] false .nilf (.mapv m) (.int .i64 7)=some (.clo 5000045 [.ptr k 0]):=by
 simp only[pmapget,h]
 rfl
theorem mg_down{st:St}{m k:Nat}(h:st[m]?=some ⟨false,2,evN k 9,false⟩):pmapget st 2 [0] false .nilf (.mapv m) (.int .i64 8)=some (.clo 5000046 [.ptr k 0]):=by
 simp only[pmapget,h]
 rfl
theorem mg_up{st:St}{m k:Nat}(h:st[m]?=some ⟨false,2,evN k 9,false⟩):pmapget st 2 [0] false .nilf (.mapv m) (.int .i64 9)=some (.clo 5000047 [.ptr k 0]):=by
 simp only[pmapget,h]
 rfl
theorem mg_half{st:St}{m k:Nat}(h:st[m]?=some ⟨false,2,evN k 9,false⟩):pmapget st 2 [0] false .nilf (.mapv m) (.int .i64 10)=some (.clo 5000048 [.ptr k 0]):=by
 simp only[pmapget,h]
 rfl
theorem mg_choose{st:St}{m k:Nat}(h:st[m]?=some ⟨false,2,evN k 9,false⟩):pmapget st 2 [0] false .nilf (.mapv m) (.int .i64 11)=some (.clo 5000049 [.ptr k 0]):=by
 simp only[pmapget,h]
 rfl
noncomputable abbrev TE(N:Nat):Tbl:=tbx [] [(50,siG loadRel),(41,siG (opRel N 3)),(42,siG (opRel N 4)),(43,siG (opRel N 5)),(44,siG (opRel N 6)),(45,siG (opRel N 7)),(46,siG (opRel N 8)),(47,siG (opRel N 9)),(48,siG (opRel N 10)),(49,siG (opRel N 11))]
 [(50,sxG loadRel),(41,sxG (opRel N 3)),(42,sxG (opRel N 4)),(43,sxG (opRel N 5)),(44,sxG (opRel N 6)),(45,sxG (opRel N 7)),(46,sxG (opRel N 8)),(47,sxG (opRel N 9)),(48,sxG (opRel N 10)),(49,sxG (opRel N 11))]
theorem te_ok{N:Nat}(h:CC 21 (evRel N)):TblOK Tryz.prog GG (TE N):=
 tbx_ok all_nil (all_cons cc_load.1 (all_cons (cc_add N h).1 (all_cons (cc_sub N h).1 (all_cons (cc_mul N h).1 (all_cons (cc_least N h).1 (all_cons (cc_greatest N h).1 (all_cons (cc_down N h).1 (all_cons (cc_up N h).1 (all_cons (cc_half N h).1 (all_cons (cc_choose N h).1 all_nil)))))))))) (all_cons cc_load.2 (all_cons (cc_add N h).2 (all_cons (cc_sub N h).2 (all_cons (cc_mul N h).2 (all_cons (cc_least N h).2 (all_cons (cc_greatest N h).2 (all_cons (cc_down N h).2 (all_cons (cc_up N h).2 (all_cons (cc_half N h).2 (all_cons (cc_choose N h).2 all_nil))))))))))
theorem opsF_ge{op:Int}(h:0≤opsF op):1≤op∧op≤11:=by
 unfold opsF at h
 split at h <;> omega
set_option maxHeartbeats 8000000 in
set_option maxRecDepth 20000 in
theorem cc_evS(N:Nat)(h:CC 21 (evRel N)):CC 21 (evRel (N+1)):=by
 refine joint (T:=TE N) tr_teval_evaluator_eval (te_ok h) ?_
 rintro ds st d e st' ⟨k,m,v,x,rfl,hev,hx,hf,h⟩
 simp only[Prod.mk.injEq]at h
 obtain⟨rfl,rfl,rfl⟩:=h
 obtain⟨op,k0,u0,u1,u2,u3,els,hl,hel⟩:=hx
 rw[formF_ex]at hf
 split at hf
 case isFalse=>cases hf
 rename_i ho
 have hb:(st++[(⟨false,1,exC op k0 u0 u1 u2 u3 els,false⟩:Obj)])[st.length]?=some ⟨false,1,exC op k0 u0 u1 u2 u3 els,false⟩:=by simp
 have hev1:=hev.app [(⟨false,1,exC op k0 u0 u1 u2 u3 els,false⟩:Obj)]
 rw[evS_ex]
 unfold F_teval_evaluator_eval
 by_cases o1:op=1
 ·subst o1
  rw[if_pos rfl]
  simp (disch:=first|omega|decide) only[push_cast,↓reduceIte,Nat.reduceEqDiff,hb,and_true]
 ·rw[if_neg o1]at hf ⊢
  by_cases o2:op=2
  ·subst o2
   rw[if_pos rfl]at hf ⊢
   simp only[Bool.and_eq_true,decide_eq_true_eq]at hf
   have rl:loadRel [.ptr k 0,.int .i64 k0] (st++[(⟨false,1,exC 2 k0 u0 u1 u2 u3 els,false⟩:Obj)]) _:=⟨k,k0,v.1,v.2,_,false,rfl,hev1.cs,hev1.ev,rfl⟩
   generalize ldU v.1 v.2 k0=r at rl ⊢
   obtain⟨n,er⟩:=r
   dsimp only at rl ⊢
   by_cases hz:er=0
   ·subst hz
    have c1:=si_val load_fnl rl
    simp (disch:=first|omega|decide) only[push_cast,↓reduceIte,Nat.reduceEqDiff,hb,o1,c1,and_true]
   ·have c1:=si_bad load_fnl rl hz
    have c2:=sx_bad load_fnl rl hz
    simp (disch:=first|omega|decide) only[push_cast,↓reduceIte,Nat.reduceEqDiff,hb,o1,c1,c2,hz,and_true,not_false_eq_true]
  ·rw[if_neg o2]at hf ⊢
   have hok:opsOK N els:=fun x hx=>⟨hel x hx,List.all_eq_true.1 hf x hx⟩
   have hr:=opsF_ge (op:=op) (by omega)
   have lm:=ldV_m false v.1 (.mapv m) hev1.cs
   have he:=hev1.ev
   have rr:opRel N op [.ptr k 0,.slc (nz 7 els) els false] (st++[(⟨false,1,exC op k0 u0 u1 u2 u3 els,false⟩:Obj)]) _:=⟨k,m,v,els,rfl,hev1,hok,ho,rfl⟩
   rw[List.append_cons]
   generalize hre:opR (evS N v) op els=r at rr ⊢
   obtain⟨⟨n,er⟩,ob⟩:=r
   dsimp only at rr ⊢
   rcases(show op=3∨op≠3 by omega)with rfl | o3
   ·have mg:=mg_add hev1.mp
    by_cases hz:er=0
    ·subst hz
     have c0:=si_val (op_fnl N 3) rr
     simp (disch:=first|omega|decide) only[push_cast,↓reduceIte,Nat.reduceEqDiff,hb,o1,o2,he,lm,mg]
     rw[wOpX_callv (f:=41) (ds:=[.ptr k 0,.slc (nz 7 els) els false]) (h:=by simp (disch:=first|omega|decide) only[push_cast,↓reduceIte,Nat.reduceEqDiff,Nat.reduceSub])]
     simp (disch:=first|omega|decide) only[push_cast,↓reduceIte,Nat.reduceEqDiff,c0,and_true]
    ·have c0:=si_bad (op_fnl N 3) rr hz
     have c1:=sx_bad (op_fnl N 3) rr hz
     simp (disch:=first|omega|decide) only[push_cast,↓reduceIte,Nat.reduceEqDiff,hb,o1,o2,he,lm,mg]
     rw[wOpX_callv (f:=41) (ds:=[.ptr k 0,.slc (nz 7 els) els false]) (h:=by simp (disch:=first|omega|decide) only[push_cast,↓reduceIte,Nat.reduceEqDiff,Nat.reduceSub])]
     simp (disch:=first|omega|decide) only[push_cast,↓reduceIte,Nat.reduceEqDiff,c0,c1,hz,and_true,not_false_eq_true]
   rcases(show op=4∨op≠4 by omega)with rfl | o4
   ·have mg:=mg_sub hev1.mp
    by_cases hz:er=0
    ·subst hz
     have c0:=si_val (op_fnl N 4) rr
     simp (disch:=first|omega|decide) only[push_cast,↓reduceIte,Nat.reduceEqDiff,hb,o1,o2,he,lm,mg]
     rw[wOpX_callv (f:=42) (ds:=[.ptr k 0,.slc (nz 7 els) els false]) (h:=by simp (disch:=first|omega|decide) only[push_cast,↓reduceIte,Nat.reduceEqDiff,Nat.reduceSub])]
     simp (disch:=first|omega|decide) only[push_cast,↓reduceIte,Nat.reduceEqDiff,c0,and_true]
    ·have c0:=si_bad (op_fnl N 4) rr hz
     have c1:=sx_bad (op_fnl N 4) rr hz
     simp (disch:=first|omega|decide) only[push_cast,↓reduceIte,Nat.reduceEqDiff,hb,o1,o2,he,lm,mg]
     rw[wOpX_callv (f:=42) (ds:=[.ptr k 0,.slc (nz 7 els) els false]) (h:=by simp (disch:=first|omega|decide) only[push_cast,↓reduceIte,Nat.reduceEqDiff,Nat.reduceSub])]
     simp (disch:=first|omega|decide) only[push_cast,↓reduceIte,Nat.reduceEqDiff,c0,c1,hz,and_true,not_false_eq_true]
   rcases(show op=5∨op≠5 by omega)with rfl | o5
   ·have mg:=mg_mul hev1.mp
    by_cases hz:er=0
    ·subst hz
     have c0:=si_val (op_fnl N 5) rr
     simp (disch:=first|omega|decide) only[push_cast,↓reduceIte,Nat.reduceEqDiff,hb,o1,o2,he,lm,mg]
     rw[wOpX_callv (f:=43) (ds:=[.ptr k 0,.slc (nz 7 els) els false]) (h:=by simp (disch:=first|omega|decide) only[push_cast,↓reduceIte,Nat.reduceEqDiff,Nat.reduceSub])]
     simp (disch:=first|omega|decide) only[push_cast,↓reduceIte,Nat.reduceEqDiff,c0,and_true]
    ·have c0:=si_bad (op_fnl N 5) rr hz
     have c1:=sx_bad (op_fnl N 5) rr hz
     simp (disch:=first|omega|decide) only[push_cast,↓reduceIte,Nat.reduceEqDiff,hb,o1,o2,he,lm,mg]
     rw[wOpX_callv (f:=43) (ds:=[.ptr k 0,.slc (nz 7 els) els false]) (h:=by simp (disch:=first|omega|decide) only[push_cast,↓reduceIte,Nat.reduceEqDiff,Nat.reduceSub])]
     simp (disch:=first|omega|decide) only[push_cast,↓reduceIte,Nat.reduceEqDiff,c0,c1,hz,and_true,not_false_eq_true]
   rcases(show op=6∨op≠6 by omega)with rfl | o6
   ·have mg:=mg_least hev1.mp
    by_cases hz:er=0
    ·subst hz
     have c0:=si_val (op_fnl N 6) rr
     simp (disch:=first|omega|decide) only[push_cast,↓reduceIte,Nat.reduceEqDiff,hb,o1,o2,he,lm,mg]
     rw[wOpX_callv (f:=44) (ds:=[.ptr k 0,.slc (nz 7 els) els false]) (h:=by simp (disch:=first|omega|decide) only[push_cast,↓reduceIte,Nat.reduceEqDiff,Nat.reduceSub])]
     simp (disch:=first|omega|decide) only[push_cast,↓reduceIte,Nat.reduceEqDiff,c0,and_true]
    ·have c0:=si_bad (op_fnl N 6) rr hz
     have c1:=sx_bad (op_fnl N 6) rr hz
     simp (disch:=first|omega|decide) only[push_cast,↓reduceIte,Nat.reduceEqDiff,hb,o1,o2,he,lm,mg]
     rw[wOpX_callv (f:=44) (ds:=[.ptr k 0,.slc (nz 7 els) els false]) (h:=by simp (disch:=first|omega|decide) only[push_cast,↓reduceIte,Nat.reduceEqDiff,Nat.reduceSub])]
     simp (disch:=first|omega|decide) only[push_cast,↓reduceIte,Nat.reduceEqDiff,c0,c1,hz,and_true,not_false_eq_true]
   rcases(show op=7∨op≠7 by omega)with rfl | o7
   ·have mg:=mg_greatest hev1.mp
    by_cases hz:er=0
    ·subst hz
     have c0:=si_val (op_fnl N 7) rr
     simp (disch:=first|omega|decide) only[push_cast,↓reduceIte,Nat.reduceEqDiff,hb,o1,o2,he,lm,mg]
     rw[wOpX_callv (f:=45) (ds:=[.ptr k 0,.slc (nz 7 els) els false]) (h:=by simp (disch:=first|omega|decide) only[push_cast,↓reduceIte,Nat.reduceEqDiff,Nat.reduceSub])]
     simp (disch:=first|omega|decide) only[push_cast,↓reduceIte,Nat.reduceEqDiff,c0,and_true]
    ·have c0:=si_bad (op_fnl N 7) rr hz
     have c1:=sx_bad (op_fnl N 7) rr hz
     simp (disch:=first|omega|decide) only[push_cast,↓reduceIte,Nat.reduceEqDiff,hb,o1,o2,he,lm,mg]
     rw[wOpX_callv (f:=45) (ds:=[.ptr k 0,.slc (nz 7 els) els false]) (h:=by simp (disch:=first|omega|decide) only[push_cast,↓reduceIte,Nat.reduceEqDiff,Nat.reduceSub])]
     simp (disch:=first|omega|decide) only[push_cast,↓reduceIte,Nat.reduceEqDiff,c0,c1,hz,and_true,not_false_eq_true]
   rcases(show op=8∨op≠8 by omega)with rfl | o8
   ·have mg:=mg_down hev1.mp
    by_cases hz:er=0
    ·subst hz
     have c0:=si_val (op_fnl N 8) rr
     simp (disch:=first|omega|decide) only[push_cast,↓reduceIte,Nat.reduceEqDiff,hb,o1,o2,he,lm,mg]
     rw[wOpX_callv (f:=46) (ds:=[.ptr k 0,.slc (nz 7 els) els false]) (h:=by simp (disch:=first|omega|decide) only[push_cast,↓reduceIte,Nat.reduceEqDiff,Nat.reduceSub])]
     simp (disch:=first|omega|decide) only[push_cast,↓reduceIte,Nat.reduceEqDiff,c0,and_true]
    ·have c0:=si_bad (op_fnl N 8) rr hz
     have c1:=sx_bad (op_fnl N 8) rr hz
     simp (disch:=first|omega|decide) only[push_cast,↓reduceIte,Nat.reduceEqDiff,hb,o1,o2,he,lm,mg]
     rw[wOpX_callv (f:=46) (ds:=[.ptr k 0,.slc (nz 7 els) els false]) (h:=by simp (disch:=first|omega|decide) only[push_cast,↓reduceIte,Nat.reduceEqDiff,Nat.reduceSub])]
     simp (disch:=first|omega|decide) only[push_cast,↓reduceIte,Nat.reduceEqDiff,c0,c1,hz,and_true,not_false_eq_true]
   rcases(show op=9∨op≠9 by omega)with rfl | o9
   ·have mg:=mg_up hev1.mp
    by_cases hz:er=0
    ·subst hz
     have c0:=si_val (op_fnl N 9) rr
     simp (disch:=first|omega|decide) only[push_cast,↓reduceIte,Nat.reduceEqDiff,hb,o1,o2,he,lm,mg]
     rw[wOpX_callv (f:=47) (ds:=[.ptr k 0,.slc (nz 7 els) els false]) (h:=by simp (disch:=first|omega|decide) only[push_cast,↓reduceIte,Nat.reduceEqDiff,Nat.reduceSub])]
     simp (disch:=first|omega|decide) only[push_cast,↓reduceIte,Nat.reduceEqDiff,c0,and_true]
    ·have c0:=si_bad (op_fnl N 9) rr hz
     have c1:=sx_bad (op_fnl N 9) rr hz
     simp (disch:=first|omega|decide) only[push_cast,↓reduceIte,Nat.reduceEqDiff,hb,o1,o2,he,lm,mg]
     rw[wOpX_callv (f:=47) (ds:=[.ptr k 0,.slc (nz 7 els) els false]) (h:=by simp (disch:=first|omega|decide) only[push_cast,↓reduceIte,Nat.reduceEqDiff,Nat.reduceSub])]
     simp (disch:=first|omega|decide) only[push_cast,↓reduceIte,Nat.reduceEqDiff,c0,c1,hz,and_true,not_false_eq_true]
   rcases(show op=10∨op≠10 by omega)with rfl | o10
   ·have mg:=mg_half hev1.mp
    by_cases hz:er=0
    ·subst hz
     have c0:=si_val (op_fnl N 10) rr
     simp (disch:=first|omega|decide) only[push_cast,↓reduceIte,Nat.reduceEqDiff,hb,o1,o2,he,lm,mg]
     rw[wOpX_callv (f:=48) (ds:=[.ptr k 0,.slc (nz 7 els) els false]) (h:=by simp (disch:=first|omega|decide) only[push_cast,↓reduceIte,Nat.reduceEqDiff,Nat.reduceSub])]
     simp (disch:=first|omega|decide) only[push_cast,↓reduceIte,Nat.reduceEqDiff,c0,and_true]
    ·have c0:=si_bad (op_fnl N 10) rr hz
     have c1:=sx_bad (op_fnl N 10) rr hz
     simp (disch:=first|omega|decide) only[push_cast,↓reduceIte,Nat.reduceEqDiff,hb,o1,o2,he,lm,mg]
     rw[wOpX_callv (f:=48) (ds:=[.ptr k 0,.slc (nz 7 els) els false]) (h:=by simp (disch:=first|omega|decide) only[push_cast,↓reduceIte,Nat.reduceEqDiff,Nat.reduceSub])]
     simp (disch:=first|omega|decide) only[push_cast,↓reduceIte,Nat.reduceEqDiff,c0,c1,hz,and_true,not_false_eq_true]
   ·obtain rfl:op=11:=by omega
    have mg:=mg_choose hev1.mp
    by_cases hz:er=0
    ·subst hz
     have c0:=si_val (op_fnl N 11) rr
     simp (disch:=first|omega|decide) only[push_cast,↓reduceIte,Nat.reduceEqDiff,hb,o1,o2,he,lm,mg]
     rw[wOpX_callv (f:=49) (ds:=[.ptr k 0,.slc (nz 7 els) els false]) (h:=by simp (disch:=first|omega|decide) only[push_cast,↓reduceIte,Nat.reduceEqDiff,Nat.reduceSub])]
     simp (disch:=first|omega|decide) only[push_cast,↓reduceIte,Nat.reduceEqDiff,c0,and_true]
    ·have c0:=si_bad (op_fnl N 11) rr hz
     have c1:=sx_bad (op_fnl N 11) rr hz
     simp (disch:=first|omega|decide) only[push_cast,↓reduceIte,Nat.reduceEqDiff,hb,o1,o2,he,lm,mg]
     rw[wOpX_callv (f:=49) (ds:=[.ptr k 0,.slc (nz 7 els) els false]) (h:=by simp (disch:=first|omega|decide) only[push_cast,↓reduceIte,Nat.reduceEqDiff,Nat.reduceSub])]
     simp (disch:=first|omega|decide) only[push_cast,↓reduceIte,Nat.reduceEqDiff,c0,c1,hz,and_true,not_false_eq_true]
theorem cc_ev:∀ N,CC 21 (evRel N)
 |0=>joint (T:=tb [] []) tr_teval_evaluator_eval (tb_ok all_nil all_nil) (by
  rintro ds st d e st' ⟨k,m,v,x,_,_,_,hf,_⟩
  cases hf)
 |N+1=>cc_evS N (cc_ev N)
noncomputable def mk_newEv:List D→Option ((Nat→D)×(Nat→List Obj)):=fun ds=>@dite _ (∃ p:Int×List Int,p.2.length=16∧ds=[envD p.1 p.2]) (Classical.propDecidable _)
 (fun h=>some (fun n=>.ptr (n+1) 0,fun n=>[⟨false,1,envC h.choose.1 h.choose.2,false⟩,⟨false,1,evC h.choose.1 h.choose.2 (.mapv (n+2)),false⟩,⟨false,2,evN (n+1) 9,false⟩])) (fun _=>none)
theorem mk_ev(h:Int)(v:List Int)(hv:v.length=16):mk_newEv [envD h v]=some (fun n=>.ptr (n+1) 0,fun n=>[⟨false,1,envC h v,false⟩,⟨false,1,evC h v (.mapv (n+2)),false⟩,⟨false,2,evN (n+1) 9,false⟩]):=by
 have hx:∃ p:Int×List Int,p.2.length=16∧[envD h v]=[envD p.1 p.2]:=⟨(h,v),hv,rfl⟩
 unfold mk_newEv
 rw[dif_pos hx]
 have h2:=hx.choose_spec.2
 generalize hx.choose=p at*
 obtain⟨p1,p2⟩:=p
 simp only[List.cons.injEq,and_true]at h2
 obtain⟨rfl,rfl⟩:=envD_inj' h2
 rfl
theorem mk_inv{ds:List D}{r:(Nat→D)×(Nat→List Obj)}(h:mk_newEv ds=some r):∃ (k:Int) (v:List Int),v.length=16∧ds=[envD k v]∧r=(fun n=>.ptr (n+1) 0,fun n=>[⟨false,1,envC k v,false⟩,⟨false,1,evC k v (.mapv (n+2)),false⟩,⟨false,2,evN (n+1) 9,false⟩]):=by
 unfold mk_newEv at h
 split at h
 ·rename_i hx
  simp only[Option.some.injEq]at h
  exact⟨_,_,hx.choose_spec.1,hx.choose_spec.2,h.symm⟩
 ·cases h
theorem ap0(st l:St)(o:Obj):(st++o::l)[st.length]?=some o:=by simp
theorem ap1(st l:St)(o p:Obj):(st++o::p::l)[st.length+1]?=some p:=by
 rw[List.getElem?_append_right (by omega)]; simp
theorem ap2(st l:St)(o p q:Obj):(st++o::p::q::l)[st.length+2]?=some q:=by
 rw[List.getElem?_append_right (by omega)]; simp
theorem sp1(st l:St)(o p x:Obj):(st++o::p::l).set (st.length+1) x=st++o::x::l:=by
 rw[List.set_append_right _ _ (by omega)]; simp
theorem sp2(st l:St)(o p q x:Obj):(st++o::p::q::l).set (st.length+2) x=st++o::p::x::l:=by
 rw[List.set_append_right _ _ (by omega)]; simp
set_option maxHeartbeats 4000000 in
set_option maxRecDepth 20000 in
theorem cm_newEv:IContract Tryz.prog GG 20 (fun ds st=>(mk_newEv ds).map fun r=>(r.1 st.length,st++r.2 st.length)):=by
 refine icontract_keep' (T:=tb [] []) tr_teval_newEvaluator (tb_ok all_nil all_nil) ?_
 intro ds st r hr
 simp only[Option.map_eq_some_iff]at hr
 obtain⟨r0,h0,rfl⟩:=hr
 obtain⟨h,v,hv,rfl,rfl⟩:=mk_inv h0
 unfold F_teval_newEvaluator
 simp (disch:=first|omega|decide) only[push_cast,↓reduceIte,Nat.reduceEqDiff,Nat.reduceAdd,ldE _ _ hv,fill_ev h hv,st_ev h hv,mkmap_2,List.append_assoc,List.cons_append,List.nil_append,List.length_append,List.length_cons,List.length_nil,ap0,ap1,ap2,sp1,sp2]
def ph_caught:PH:=⟨94,[5,7,8,9],10,[{dst:=some 3,op:=.box (.c (.agg [.int .i64 0]))},{dst:=none,op:=.stor 1 (.s 3) (.s 10)},{dst:=some 11,op:=.mov (.s 0)},{dst:=some 12,op:=.fld 0 (.s 3)},{dst:=some 13,op:=.load 1 false (.s 12)},{dst:=some 14,op:=.nilc (.s 11)},{dst:=none,op:=.stor 1 (.s 14) (.s 13)}]⟩
theorem c_caught:HContract Tryz.prog GG 19 (PH.run GG ph_caught):=
 handlerA (fn:=Tryz.f19) (by kernel_rfl) rfl rfl rfl ⟨rfl,rfl,rfl⟩ ⟨rfl,rfl,rfl⟩ ⟨rfl,rfl⟩ ⟨rfl,rfl,rfl⟩ ⟨rfl,rfl,rfl⟩ ⟨rfl,rfl,rfl⟩ (by decide) (by decide) (by kernel_rfl) (by kernel_rfl) (by kernel_rfl)
theorem run_caught(k:Nat)(st:St)(e n:Int)(hk:st[k]?=some ⟨false,1,[.int .i64 n],false⟩):PH.run GG ph_caught 94 (.agg [.int .i64 e]) [.ptr k 0] st=some ((st++[(⟨false,1,[.int .i64 e],false⟩:Obj)]).set k ⟨false,1,[.int .i64 e],false⟩):=by
 have hlt:k<st.length:=(List.getElem?_eq_some_iff.1 hk).1
 have h1:(st++[(⟨false,1,[.int .i64 0],false⟩:Obj)])[st.length]?=some ⟨false,1,[.int .i64 0],false⟩:=by simp
 have h2:((st++[(⟨false,1,[.int .i64 0],false⟩:Obj)]).set st.length ⟨false,1,[.int .i64 e],false⟩)=st++[⟨false,1,[.int .i64 e],false⟩]:=by simp
 have h3:(st++[(⟨false,1,[.int .i64 e],false⟩:Obj)])[st.length]?=some ⟨false,1,[.int .i64 e],false⟩:=by simp
 have h4:(st++[(⟨false,1,[.int .i64 e],false⟩:Obj)])[k]?=some ⟨false,1,[.int .i64 n],false⟩:=by rw[List.getElem?_append_left hlt]; exact hk
 unfold PH.run
 have hc:94=ph_caught.t∧intsD (.agg [.int .i64 e])=true:=⟨rfl,rfl⟩
 rw[if_pos hc]
 simp[ph_caught,execs,PI.exec,PI.wanted,POp.exec,junks,Frame.set,Frame.put,rho,argF,D.cells,D.isCell,pstor,splice,h2,pfld,pload,D.mk,h4,noT]
theorem putOff_clo(f:Nat)(caps ds:List D)(h:f<5000000):putOff (.clo f caps) ds=some (f,ds++caps):=by simp only[putOff,if_pos h]
def hT:HTbl:=fun f=>if f=19 then some (PH.run GG ph_caught)else none
theorem hT_eq:hT 19=some (PH.run GG ph_caught):=(rfl)
theorem hT_ok:∀ f h,hT f=some h→HContract Tryz.prog GG f h:=by
 intro f h e
 unfold hT at e
 split at e
 ·rename_i hf
  simp only[Option.some.injEq]at e
  subst e; subst hf
  exact c_caught
 ·cases e
theorem bothR_fst(ev:D→(Int×Int)×St)(els:List D):(bothR ev els).1=bothU (fun x=>(ev x).1) els:=by
 unfold bothR bothU
 split <;> rfl
theorem opR_fst(ev:D→(Int×Int)×St)(op:Int)(els:List D):(opR ev op els).1=opU (fun x=>(ev x).1) op els:=by
 unfold opR opU
 rw[bothR_fst]
 split
 ·split <;> rfl
 ·rfl
theorem evS_eq(n:Nat)(v:Int×List Int)(op k:Int)(a b c d:D)(z:Nat)(els:List D)(t:Bool):evS (n+1) v (.agg [.int .i64 op,.int .i64 k,a,b,c,d,.slc z els t])=if op=1 then((k,0),[⟨false,1,[.int .i64 op,.int .i64 k,a,b,c,d,.slc z els t],false⟩])
  else if op=2 then(ldU v.1 v.2 k,[⟨false,1,[.int .i64 op,.int .i64 k,a,b,c,d,.slc z els t],false⟩])
  else((opR (evS n v) op els).1,⟨false,1,[.int .i64 op,.int .i64 k,a,b,c,d,.slc z els t],false⟩::(opR (evS n v) op els).2):=(rfl)
theorem evU_eq(n:Nat)(h:Int)(v:List Int)(op k:Int)(a b c d:D)(z:Nat)(els:List D)(t:Bool):evU (n+1) h v (.agg [.int .i64 op,.int .i64 k,a,b,c,d,.slc z els t])=if op=1 then(k,0)else if op=2 then ldU h v k else opU (evU n h v) op els:=(rfl)
theorem evS_fst:∀ (n:Nat) (v:Int×List Int),(fun x=>(evS n v x).1)=evU n v.1 v.2
 |0,_=>rfl
 |n+1,v=>by
  funext x
  by_cases hx:∃ op k a b c d z els t,x=.agg [.int .i64 op,.int .i64 k,a,b,c,d,.slc z els t]
  ·obtain⟨op,k,a,b,c,d,z,els,t,rfl⟩:=hx
   rw[evS_eq,evU_eq]
   split
   ·rfl
   ·split
    ·rfl
    ·rw[opR_fst,evS_fst n v]
  ·have h1:evS (n+1) v x=((0,0),[]):=by
    generalize hn:n+1=m
    unfold evS
    split
    ·omega
    ·exact absurd ⟨_,_,_,_,_,_,_,_,_,rfl⟩ hx
    ·rfl
   have h2:evU (n+1) v.1 v.2 x=(0,0):=by
    generalize hn:n+1=m
    unfold evU
    split
    ·omega
    ·exact absurd ⟨_,_,_,_,_,_,_,_,_,rfl⟩ hx
    ·rfl
   rw[h1,h2]
theorem env_iff{a b:Int}{x y:List Int}:envD a x=envD b y↔a=b∧x=y:=by
 constructor
 ·exact envD_inj'
 ·rintro⟨rfl,rfl⟩; rfl
noncomputable def TBE:Tbl:={p:=look [(18,sp_form 24)],i:=look [(21,siG (evRel 24))],m:=look [(20,mk_newEv)],x:=look [(21,sxG (evRel 24))]}
theorem tbe_p(n:Nat):TBE.p n=look [(18,sp_form 24)] n:=(rfl)
theorem tbe_i(n:Nat):TBE.i n=look [(21,siG (evRel 24))] n:=(rfl)
theorem tbe_m(n:Nat):TBE.m n=look [(20,mk_newEv)] n:=(rfl)
theorem tbe_x(n:Nat):TBE.x n=look [(21,sxG (evRel 24))] n:=(rfl)
attribute [push_cast] tbe_p tbe_i tbe_m tbe_x
theorem tbe_ok:TblOK Tryz.prog GG TBE:=
 ⟨fun _ _ hs=>.inl (by
   have:=look_mem hs
   simp only[List.mem_singleton,Prod.mk.injEq]at this
   obtain⟨rfl,rfl⟩:=this
   exact⟨by decide,c_form 24⟩),fun _ _ hs=>(by
   have:=look_mem hs
   simp only[List.mem_singleton,Prod.mk.injEq]at this
   obtain⟨rfl,rfl⟩:=this
   exact(cc_ev 24).1),fun _ _ hs=>(by
   have:=look_mem hs
   simp only[List.mem_singleton,Prod.mk.injEq]at this
   obtain⟨rfl,rfl⟩:=this
   exact cm_newEv),fun _ _ hs=>(by cases hs),fun _ _ hs=>(by
   have:=look_mem hs
   simp only[List.mem_singleton,Prod.mk.injEq]at this
   obtain⟨rfl,rfl⟩:=this
   exact(cc_ev 24).2),fun _ _ hs=>(by cases hs)⟩
noncomputable def sp_peval:List D→Option D:=spOf (α:=D×(Int×List Int)) (fun a=>[a.1,envD (Prod.fst a.2) (Prod.snd a.2)]) (fun a=>a.2.2.length=16∧ExP a.1) (fun a=>.tup [.int .i64 (evalU a.2.1 a.2.2 a.1).1,.int .i64 (evalU a.2.1 a.2.2 a.1).2])
theorem call_peval(x:D)(v:Int×List Int)(h:v.2.length=16∧ExP x):sp_peval [x,envD (Prod.fst v) (Prod.snd v)]=some (.tup [.int .i64 (evalU v.1 v.2 x).1,.int .i64 (evalU v.1 v.2 x).2]):=
 spOf_enc (fun⟨a0,a1⟩ ⟨b0,b1⟩ h=>by simp only[List.cons.injEq,and_true,env_iff]at h; simp[h,Prod.ext_iff]) (x,v) h
set_option maxHeartbeats 8000000 in
set_option maxRecDepth 20000 in
theorem wd_peval(x:D)(z:Int)(v:List Int)(hv:v.length=16)(hx:ExP x):wEf GG TBE F_teval_Eval hT [x,envD z v] [] (fun fr st=>(gets ⟨fr,st⟩ F_teval_Eval.tail.res).map pack=some (.tup [.int .i64 (evalU z v x).1,.int .i64 (evalU z v x).2])) fun h das=>retDQ h das F_teval_Eval.tail.res (.tup [.int .i64 (evalU z v x).1,.int .i64 (evalU z v x).2]):=by
 have hvl:=hv
 have cf:sp_form 24 [x,.int .i64 24]=some (.bool (formF 24 x)):=call_form 24 24 x ⟨Nat.le_refl _,by omega,hx⟩
 have hx2:=hx
 obtain⟨op,k0,u0,u1,u2,u3,els,hl,hel⟩:=hx2
 unfold wEf F_teval_Eval evalU
 cases hf:formF 24 (exD op k0 u0 u1 u2 u3 els)with
 |false=>
  rw[hf]at cf
  simp (disch:=first|omega|decide) only[push_cast,↓reduceIte,Nat.reduceEqDiff,Nat.reduceAdd,cf,Bool.false_eq_true]
 |true=>
  rw[hf]at cf
  have hev:EvAt [⟨false,1,exC op k0 u0 u1 u2 u3 els,false⟩,⟨false,1,envC z v,false⟩,⟨false,1,[.int .i64 0],false⟩,⟨false,1,envC z v,false⟩,⟨false,1,evC z v (.mapv 5),false⟩,⟨false,2,evN 4 9,false⟩] 4 5 (z,v):=⟨hv,rfl,rfl⟩
  have rr:evRel 24 [.ptr 4 0,exD op k0 u0 u1 u2 u3 els] _ _:=⟨4,5,(z,v),_,rfl,hev,hx,hf,rfl⟩
  rw[if_pos rfl]
  rw[← congrFun (evS_fst 24 (z,v)) (exD op k0 u0 u1 u2 u3 els)]
  generalize evS 24 (z,v) (exD op k0 u0 u1 u2 u3 els)=r at*
  obtain⟨⟨n,e⟩,ob⟩:=r
  dsimp only at rr ⊢
  simp (disch:=first|omega|decide) only[push_cast,↓reduceIte,Nat.reduceEqDiff,Nat.reduceAdd,cf,putOff_clo,hT_eq]
  by_cases he:e=0
  ·subst he
   have c0:=si_val (ev_fnl 24) rr
   rw[if_pos rfl]
   refine W_altL ?_
   simp (disch:=first|omega|decide) only[push_cast,↓wF_free,↓reduceIte,Nat.reduceEqDiff,Nat.reduceLT,Nat.reduceAdd,ldE _ _ hvl,mk_ev _ _ hvl,c0]
  ·have c0:=si_bad (ev_fnl 24) rr he
   have c1:=sx_bad (ev_fnl 24) rr he
   rw[if_neg he]
   refine W_altR1 (by simp (disch:=first|omega|decide) only[push_cast,↓wF_free,↓reduceIte,Nat.reduceEqDiff,Nat.reduceLT,Nat.reduceAdd,ldE _ _ hvl,mk_ev _ _ hvl,c0,not_false_eq_true]) ?_
   have c2:=run_caught 2 (⟨false,1,exC op k0 u0 u1 u2 u3 els,false⟩::⟨false,1,envC z v,false⟩::⟨false,1,[.int .i64 0],false⟩::⟨false,1,envC z v,false⟩::⟨false,1,evC z v (.mapv 5),false⟩::⟨false,2,evN 4 9,false⟩::ob) e 0 rfl
   simp (disch:=first|omega|decide) only[push_cast,↓wF_free,↓reduceIte,Nat.reduceEqDiff,Nat.reduceLT,Nat.reduceAdd,ldE _ _ hvl,mk_ev _ _ hvl,c0,c1,c2]
theorem c_peval:Contract Tryz.prog GG 9 sp_peval:=
 econtract_of tr_teval_Eval tbe_ok hT_ok (fun a h=>by
  obtain⟨x,⟨n,v⟩⟩:=a
  exact wd_peval x n v h.1 h.2)
end Go.Proofs.YtfbbaceiimdejaaGreatDoor.PI
