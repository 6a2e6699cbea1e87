/-
  The rewriting rules by which pure code is carried out.
  Conditions: none; these are lemmas.
-/
import Derived.Test.YtlleccmnjpcogaaDoorEngZ
set_option linter.unusedVariables false
set_option linter.unusedSimpArgs false
namespace Go.Proofs.YtlleccmnjpcogaaDoor.PI
open Go
theorem set_eq (fr:Frame) (s t:Nat) (d:D):(fr.set s d) t = if t = s then d else fr t := (rfl)
theorem mkF_eq (s t:Nat) (d:D) (r:List (Nat × D)):mkF ((s,d) :: r) t = if t = s then d else mkF r t := (rfl)
attribute [push_cast] W_any2 sameP_refl W_any wAny_nil wAny_plain wAny_guard wF_free wF_true wF_ck fsE_eq k_mcall ckF_nil ckF_cons ck1_eq ok_eq away_nil away_cons awayM_none awayM_snil awayM_scons emptyF_eq optL_none optL_some foot_stor foot_box foot_mkslc foot_mcall appF_row appF_slc appN_nil appN_cons appN_row appN_bsl appN_str awayM_appN foot_app foot_load foot_nilc foot_conv foot_fld footI_len foot_idxS foot_idxA foot_slice foot_call foot_bslc foot_mapget rpK_ptr rpK_eptr rpK_rptr Option.isNone_none Option.isNone_some
attribute [push_cast] on_some on_none onB_bool ifB_true ifB_false wOps_nil wOps_plain wOps_guard kV_true kV_false kV_tup k_mkmap k_mapup k_mapget k_cpy k_mov k_pick k_box k_bld k_bslc k_load k_stor k_nilc k_bin k_beq k_aeq k_un k_conv k_mkslc k_slice k_sliceA k_fld k_fldv k_idxS k_idxA k_idx k_idxV k_len k_lenA k_app k_mm k_mm3 k_rcall k_icall k_callv k_mkclo k_call k_ext put_some put_none set_eq rho_s rho_c mkF_eq argF_0 argF_1 argF_2 argF_3 argF_4 argF_5 argF_6 argF_7 W_skip W_ops W_seq then_next then_exit then_ret W_cond W_block out_next out_ret out_eq W_exit W_ret retQ_ret retQ_next retI_ret retI_next zero_dig
attribute [push_cast] ifB_not ev_eq ev2_eq pickD_true pickD_false pickD_bool extD_0 extD_1 extD_2 imm_dig keys_dig hk_dig ren_digD ren_dig hk_digC digC_length digC_cells digD_cells digD_noRef mk_dig agg_dig mk_cons mk_one take_dig box_dig aeq_dig pload_edig pload_ptr pstor_ptr ldO_one ldO_succ ldO_dig ldO_commit ldO_map ldO_mapall stO_int stO_bool stO_str stO_slc stO_row stO_succ stO_dig stO_commit stO_setb stO_setw stO_allw stO_allb pload_ebyte pload_eint pload_eslc pload_estr pload_emap lenD_slc lenD_str
theorem imm_int (st:St) (k:IntKind) (n:Int):imm st (.int k n) = some (.int k n) := (rfl)
theorem imm_bool (st:St) (b:Bool):imm st (.bool b) = some (.bool b) := (rfl)
theorem imm_str (st:St) (s:List UInt8):imm st (.str s) = some (.str s) := (rfl)
theorem imm_slc (st:St) (sz:Nat) (els:List D) (t:Bool):imm st (.slc sz els t) = some (.slc (nz sz els) els false) := (rfl)
theorem imm_row (st:St) (key tot off len:Nat):imm st (.row key tot off len) = (rowEls st key tot off len).map fun p => .slc (nz p.1 p.2) p.2 false := (rfl)
theorem imm_agg (st:St) (l:List D):imm st (.agg l) = (immL st l).map .agg := (rfl)
theorem immL_nil (st:St):immL st [] = some [] := (rfl)
theorem immL_cons (st:St) (d:D) (l:List D):immL st (d :: l) = (imm1 st d).bind fun x => (immL st l).map (x :: ·) := by
 simp only [immL]
 cases imm1 st d with
 | none => rfl
 | some x => cases immL st l <;> rfl
theorem imms_nil (st:St):imms st [] = some [] := (rfl)
theorem imms_cons (st:St) (d:D) (l:List D):imms st (d :: l) = (imm st d).bind fun x => (imms st l).map (x :: ·) := by
 simp only [imms]
 cases imm st d with
 | none => rfl
 | some x => cases imms st l <;> rfl
theorem immL_dig (st:St) (d:Dig):immL st (digC d) = some (digC d) := solid1_immL st (digC_solid d)
theorem gets_nil (s:PS):gets s [] = some [] := (rfl)
theorem gets_cons (s:PS) (r:PRes) (l:List PRes):gets s (r :: l) = (r.get s).bind fun x => (gets s l).map (x :: ·) := by
 simp only [gets]
 cases r.get s with
 | none => rfl
 | some x => cases gets s l <;> rfl
theorem get_tmp (fr:Frame) (st:St) (t:Nat):PRes.get ⟨fr,st⟩ (.tmp t) = imm st (fr t) := (rfl)
theorem get_cell (fr:Frame) (st:St) (t n:Nat) (ag:Bool):PRes.get ⟨fr,st⟩ (.cell t n ag) = (pload st n ag (fr t)).bind fun d => imm st d := by
 simp only [PRes.get]
 cases pload st n ag (fr t) <;> rfl
theorem raws_nil (s:PS):raws s [] = some [] := (rfl)
theorem raws_tmp (fr:Frame) (st:St) (t:Nat) (l:List PRes):raws ⟨fr,st⟩ (.tmp t :: l) = (raws ⟨fr,st⟩ l).map (fr t :: ·) := (rfl)
theorem pack_one (d:D):pack [d] = d := (rfl)
theorem pack_two (a b:D) (l:List D):pack (a :: b :: l) = .tup (a :: b :: l) := (rfl)
theorem pack_nil:pack [] = .tup [] := (rfl)
theorem noRef_int (k:IntKind) (n:Int):(D.int k n).noRef = true := (rfl)
theorem noRef_bool (b:Bool):(D.bool b).noRef = true := (rfl)
theorem noRef_slc (sz:Nat) (els:List D) (t:Bool):(D.slc sz els t).noRef = false := (rfl)
theorem keys_int (k:IntKind) (n:Int):keys (.int k n) = [] := (rfl)
theorem keys_bool (b:Bool):keys (.bool b) = [] := (rfl)
theorem keys_str (s:List UInt8):keys (.str s) = [] := (rfl)
theorem keys_slc (sz:Nat) (els:List D) (t:Bool):keys (.slc sz els t) = [] := (rfl)
theorem keys_row (key tot off len:Nat):keys (.row key tot off len) = [key] := (rfl)
theorem hk_int (k:IntKind) (n:Int):hk (.int k n) = [] := (rfl)
theorem hk_bool (b:Bool):hk (.bool b) = [] := (rfl)
theorem hk_str (s:List UInt8):hk (.str s) = [] := (rfl)
theorem hk_slc (sz:Nat) (els:List D) (t:Bool):hk (.slc sz els t) = [] := (rfl)
theorem hk_row (key tot off len:Nat):hk (.row key tot off len) = [key] := (rfl)
theorem hk_ptr (key off:Nat):hk (.ptr key off) = [key] := (rfl)
theorem hk_tup (l:List D):hk (.tup l) = [] := (rfl)
theorem hk_junk:hk .junk = [] := (rfl)
theorem ren_int (n:Nat) (σ:List Nat) (k:IntKind) (m:Int):ren n σ (.int k m) = .int k m := (rfl)
theorem ren_bool (n:Nat) (σ:List Nat) (b:Bool):ren n σ (.bool b) = .bool b := (rfl)
theorem ren_str (n:Nat) (σ:List Nat) (s:List UInt8):ren n σ (.str s) = .str s := (rfl)
theorem ren_slc (n:Nat) (σ:List Nat) (sz:Nat) (els:List D) (t:Bool):ren n σ (.slc sz els t) = .slc sz els t := (rfl)
theorem ren_row (n:Nat) (σ:List Nat) (key tot off len:Nat):ren n σ (.row key tot off len) = orJunk (fun k => .row k tot off len) (renK n σ key) := (rfl)
theorem ren_ptr (n:Nat) (σ:List Nat) (key off:Nat):ren n σ (.ptr key off) = orJunk (fun k => .ptr k off) (renK n σ key) := (rfl)
theorem orJunk_some (f:Nat → D) (k:Nat):orJunk f (some k) = f k := (rfl)
theorem boxD_int (k:IntKind) (n:Int):boxD (.int k n) = some [.int k n] := (rfl)
theorem boxD_bool (b:Bool):boxD (.bool b) = some [.bool b] := (rfl)
theorem boxD_slc (sz:Nat) (els:List D) (t:Bool):boxD (.slc sz els t) = some [.slc sz els t] := (rfl)
theorem cells_int (k:IntKind) (n:Int):(D.int k n).cells = [.int k n] := (rfl)
theorem cells_bool (b:Bool):(D.bool b).cells = [.bool b] := (rfl)
theorem cells_slc (sz:Nat) (els:List D) (t:Bool):(D.slc sz els t).cells = [.slc sz els t] := (rfl)
theorem cells_row (key tot off len:Nat):(D.row key tot off len).cells = [.row key tot off len] := (rfl)
theorem cells_agg (l:List D):(D.agg l).cells = l := (rfl)
theorem isCell_int (k:IntKind) (n:Int):(D.int k n).isCell = true := (rfl)
theorem isCell_bool (b:Bool):(D.bool b).isCell = true := (rfl)
theorem isCell_slc (sz:Nat) (els:List D) (t:Bool):(D.slc sz els t).isCell = true := (rfl)
theorem isCell_row (key tot off len:Nat):(D.row key tot off len).isCell = true := (rfl)
theorem un_not (b:Bool):pun .not (.bool b) = some (.bool !b) := (rfl)
theorem bin_lss (k:IntKind) (a b:Int):pbin .lss (.int k a) (.int k b) = some (.bool (decide (a < b))) := by simp only [pbin,if_true,icmp,Option.map_some]
theorem bin_leq (k:IntKind) (a b:Int):pbin .leq (.int k a) (.int k b) = some (.bool (decide (a ≤ b))) := by simp only [pbin,if_true,icmp,Option.map_some]
theorem bin_gtr (k:IntKind) (a b:Int):pbin .gtr (.int k a) (.int k b) = some (.bool (decide (b < a))) := by simp only [pbin,if_true,icmp,Option.map_some,gt_iff_lt]
theorem bin_geq (k:IntKind) (a b:Int):pbin .geq (.int k a) (.int k b) = some (.bool (decide (b ≤ a))) := by simp only [pbin,if_true,icmp,Option.map_some,ge_iff_le]
theorem bin_eql (k:IntKind) (a b:Int):pbin .eql (.int k a) (.int k b) = some (.bool (decide (a = b))) := by
 simp only [pbin,if_true,icmp,Option.map_some]
 by_cases h:a = b <;> simp [h]
theorem bin_neq (k:IntKind) (a b:Int):pbin .neq (.int k a) (.int k b) = some (.bool (!decide (a = b))) := by
 simp only [pbin,if_true,icmp,Option.map_some]
 by_cases h:a = b <;> simp [h]
theorem beq_bool (neg a b:Bool):pbeq neg (.bool a) (.bool b) = some (.bool ((a == b) != neg)) := (rfl)
theorem mm_max (k k':IntKind) (a b:Int):mmD true (.int k a) (.int k' b) = some (.int k (max a b)) := by
 simp only [mmD,if_true]
 congr 2
 split <;> omega
theorem mm_min (k k':IntKind) (a b:Int):mmD false (.int k a) (.int k' b) = some (.int k (min a b)) := by
 simp only [mmD,Bool.false_eq_true,if_false]
 congr 2
 split <;> omega
theorem mm3_max (k k' k2:IntKind) (a b c:Int):mm3D true (.int k a) (.int k' b) (.int k2 c) = some (.int k (max (max a b) c)) := by
 simp only [mm3D,mm1,if_true]
 congr 2
 split <;> split <;> omega
theorem mm3_min (k k' k2:IntKind) (a b c:Int):mm3D false (.int k a) (.int k' b) (.int k2 c) = some (.int k (min (min a b) c)) := by
 simp only [mm3D,mm1,Bool.false_eq_true,if_false]
 congr 2
 split <;> split <;> omega
theorem pfld_ptr (st:St) (off key o:Nat):pfld st off (.ptr key o) = some (.ptr key (o + off)) := (rfl)
theorem pfld_eptr (st:St) (off:Nat) (el:D) (o:Nat):pfld st off (.eptr el o) = some (.eptr el (o + off)) := (rfl)
theorem lend_nil (st:St):lend [] st = st := (rfl)
theorem lend_cons (k:Nat) (r:List Nat) (st:St):lend (k :: r) st = lend r (st.modify k fun o => { o with lent := true }) := (rfl)
theorem ite_same_st (b:Bool) (x:St):(if b = true then x else x) = x := by cases b <;> rfl
theorem sliceA_ptr (n sz:Nat) (ag:Bool) (key off:Nat) (h:0 < n):psliceA n sz ag (.ptr key off) none none = some (.bsl key off n sz ag) := by
 have:¬ 0 = n := by omega
 simp [psliceA,bnd,this]
attribute [push_cast] imm_int imm_bool imm_str imm_slc imm_row imm_agg immL_nil immL_cons imms_nil imms_cons immL_dig gets_nil gets_cons get_tmp get_cell raws_nil raws_tmp pack_one pack_two pack_nil noRef_int noRef_bool noRef_slc keys_int keys_bool keys_str keys_slc keys_row hk_int hk_bool hk_str hk_slc hk_row hk_ptr hk_tup hk_junk ren_int ren_bool ren_str ren_slc ren_row ren_ptr orJunk_some boxD_int boxD_bool boxD_slc cells_int cells_bool cells_slc cells_row cells_agg isCell_int isCell_bool isCell_slc isCell_row un_not bin_lss bin_leq bin_gtr bin_geq bin_eql bin_neq beq_bool mm_max mm_min mm3_max mm3_min pfld_ptr pfld_eptr lend_nil lend_cons ite_same_st Option.map_some Option.map_none Option.bind_some Option.bind_none List.map_cons List.map_nil List.flatMap_cons List.flatMap_nil List.append_nil List.nil_append List.cons_append List.getElem?_cons_zero List.getElem?_cons_succ List.set_cons_zero List.set_cons_succ List.modify_zero_cons List.modify_succ_cons List.length_cons List.length_nil List.length_map List.take_zero List.take_succ_cons List.all_cons List.all_nil Nat.zero_add Nat.add_zero Bool.not_true Bool.not_false Bool.and_self Bool.true_and Bool.and_true Bool.false_and Bool.and_false Bool.or_false Bool.false_or Bool.true_or Bool.or_true Bool.not_not if_true if_false decide_true decide_false beq_self_eq_true Bool.false_eq_true Bool.true_eq_false ne_eq bne_self_eq_false Bool.bne_false Bool.bne_true Nat.lt_irrefl Nat.le_refl
def headK (fr:Frame):List Nat → List Nat
 | [] => []
 | k :: r => hk (fr k) ++ headK fr r
def headF (fr:Frame) (n:Nat) (σ:List Nat):List Nat → List (Nat × D)
 | [] => []
 | k :: r => (k,ren n σ (fr k)) :: headF fr n σ r
def boxK:St → List Nat
 | [] => []
 | o :: r => (if o.row then [] else o.els.flatMap hk) ++ boxK r
def pickL (n:Nat) (σ:List Nat) (st:St):List Nat → St
 | [] => []
 | k :: r => renO n σ (st.getD k default) :: pickL n σ st r
def renS (n:Nat) (σ:List Nat):St → St
 | [] => []
 | o :: r => renO n σ o :: renS n σ r
def restrictL (keep:List Nat) (n m:Nat) (l:List Nat) (fr:Frame) (st:St):PS := restrictAt keep n (uniq n m l []) ⟨fr,st⟩
theorem headK_eq (fr:Frame):∀ keep:List Nat,headK fr keep = keep.flatMap fun k => hk (fr k)
 | [] => rfl
 | k :: r => by rw [headK,List.flatMap_cons,headK_eq fr r]
theorem boxK_eq:∀ st:St,boxK st = st.flatMap fun o => if o.row then [] else o.els.flatMap hk
 | [] => rfl
 | k :: r => by rw [boxK,List.flatMap_cons,boxK_eq r]
theorem headF_eq (fr:Frame) (n:Nat) (σ:List Nat):∀ keep:List Nat,headF fr n σ keep = keep.map fun k => (k,ren n σ (fr k))
 | [] => rfl
 | k :: r => by rw [headF,List.map_cons,headF_eq fr n σ r]
theorem pickL_eq (n:Nat) (σ:List Nat) (st:St):∀ l:List Nat,pickL n σ st l = l.map fun k => renO n σ (st.getD k default)
 | [] => rfl
 | k :: r => by rw [pickL,List.map_cons,pickL_eq n σ st r]
theorem renS_eq (n:Nat) (σ:List Nat):∀ st:St,renS n σ st = st.map (renO n σ)
 | [] => rfl
 | k :: r => by rw [renS,List.map_cons,renS_eq n σ r]
def restrictM (keep:List Nat) (n:Nat) (fr:Frame) (st:St):PS := restrictL keep n st.length (headK fr keep ++ boxK (st.take n)) fr st
theorem restrict_eq (keep:List Nat) (n:Nat) (fr:Frame) (st:St):restrict keep n ⟨fr,st⟩ = restrictM keep (if n ≤ st.length then n else st.length) fr st := by
 simp only [restrict,restrictM,restrictL,keysIn,headK_eq,boxK_eq]
theorem restrictM_eq (keep:List Nat) (n:Nat) (fr:Frame) (st:St):restrictM keep n fr st = restrictL keep n st.length (headK fr keep ++ boxK (st.take n)) fr st := (rfl)
def restrictN (keep:List Nat) (n:Nat) (σ:List Nat) (fr:Frame) (st:St):PS := ⟨mkF (headF fr n σ keep),renS n σ (st.take n) ++ pickL n σ st σ⟩
theorem restrictL_eq (keep:List Nat) (n m:Nat) (l:List Nat) (fr:Frame) (st:St):restrictL keep n m l fr st = restrictN keep n (uniq n m l []) fr st := by
 simp only [restrictL,restrictAt,restrictN,headF_eq,picked,renS_eq,pickL_eq]
theorem restrictAt_eq (keep:List Nat) (n:Nat) (σ:List Nat) (fr:Frame) (st:St):restrictAt keep n σ ⟨fr,st⟩ = restrictN keep n σ fr st := by
 simp only [restrictAt,restrictN,headF_eq,picked,renS_eq,pickL_eq]
theorem restrictN_eq (keep:List Nat) (n:Nat) (σ:List Nat) (fr:Frame) (st:St):restrictN keep n σ fr st = ⟨mkF (headF fr n σ keep),renS n σ (st.take n) ++ pickL n σ st σ⟩ := (rfl)
theorem headK_nil (fr:Frame):headK fr [] = [] := (rfl)
theorem headK_cons (fr:Frame) (k:Nat) (r:List Nat):headK fr (k :: r) = hk (fr k) ++ headK fr r := (rfl)
theorem headF_nil (fr:Frame) (n:Nat) (σ:List Nat):headF fr n σ [] = [] := (rfl)
theorem headF_cons (fr:Frame) (n:Nat) (σ:List Nat) (k:Nat) (r:List Nat):headF fr n σ (k :: r) = (k,ren n σ (fr k)) :: headF fr n σ r := (rfl)
theorem boxK_nil:boxK [] = [] := (rfl)
theorem boxK_row (sz:Nat) (els:List D) (lent:Bool) (r:St):boxK ({ row := true,sz,els,lent } :: r) = boxK r := (rfl)
theorem boxK_box (sz:Nat) (els:List D) (lent:Bool) (r:St):boxK ({ row := false,sz,els,lent } :: r) = els.flatMap hk ++ boxK r := (rfl)
theorem pickL_nil (n:Nat) (σ:List Nat) (st:St):pickL n σ st [] = [] := (rfl)
theorem pickL_cons (n:Nat) (σ:List Nat) (st:St) (k:Nat) (r:List Nat):pickL n σ st (k :: r) = renO n σ (st.getD k default) :: pickL n σ st r := (rfl)
theorem renS_nil (n:Nat) (σ:List Nat):renS n σ [] = [] := (rfl)
theorem renS_cons (n:Nat) (σ:List Nat) (o:Obj) (r:St):renS n σ (o :: r) = renO n σ o :: renS n σ r := (rfl)
theorem uniq_nil (lo hi:Nat) (acc:List Nat):uniq lo hi [] acc = acc := (rfl)
theorem uniq_cons (lo hi k:Nat) (r acc:List Nat):uniq lo hi (k :: r) acc = uniq lo hi r (if lo ≤ k ∧ k < hi ∧ acc.contains k = false then acc ++ [k] else acc) := (rfl)
theorem renK_eq (n:Nat) (σ:List Nat) (key:Nat):renK n σ key = if key < n then some key else posIn σ n key := (rfl)
theorem posIn_eq (k k':Nat) (r:List Nat) (b:Nat):posIn (k :: r) b k' = if k' = k then some b else posIn r (b + 1) k' := (rfl)
theorem renO_row (n:Nat) (σ:List Nat) (sz:Nat) (els:List D) (lent:Bool):renO n σ { row := true,sz,els,lent } = { row := true,sz,els,lent } := (rfl)
theorem renO_box (n:Nat) (σ:List Nat) (sz:Nat) (els:List D) (lent:Bool):renO n σ { row := false,sz,els,lent } = { row := false,sz,els := els.map (ren n σ),lent } := (rfl)
theorem ren1_int (n:Nat) (σ:List Nat) (k:IntKind) (m:Int):ren1 n σ (.int k m) = .int k m := (rfl)
theorem ren1_bool (n:Nat) (σ:List Nat) (b:Bool):ren1 n σ (.bool b) = .bool b := (rfl)
theorem ren1_slc (n:Nat) (σ:List Nat) (sz:Nat) (els:List D) (t:Bool):ren1 n σ (.slc sz els t) = .slc sz els t := (rfl)
theorem ren1_str (n:Nat) (σ:List Nat) (s:List UInt8):ren1 n σ (.str s) = .str s := (rfl)
theorem ren1_row (n:Nat) (σ:List Nat) (key tot off len:Nat):ren1 n σ (.row key tot off len) = orJunk (fun k => .row k tot off len) (renK n σ key) := (rfl)
theorem hk1_int (k:IntKind) (m:Int):hk1 (.int k m) = [] := (rfl)
theorem hk1_bool (b:Bool):hk1 (.bool b) = [] := (rfl)
theorem hk1_slc (sz:Nat) (els:List D) (t:Bool):hk1 (.slc sz els t) = [] := (rfl)
theorem hk1_str (s:List UInt8):hk1 (.str s) = [] := (rfl)
theorem hk1_row (key tot off len:Nat):hk1 (.row key tot off len) = [key] := (rfl)
theorem hk_bsl (key off m sz:Nat) (ag:Bool):hk (.bsl key off m sz ag) = [key] := (rfl)
theorem hk_rptr (key tot i off:Nat):hk (.rptr key tot i off) = [key] := (rfl)
theorem hk_mapv (key:Nat):hk (.mapv key) = [key] := (rfl)
theorem hk_nilf:hk .nilf = [] := (rfl)
theorem hk_nilp:hk .nilp = [] := (rfl)
theorem hk_nilm:hk .nilm = [] := (rfl)
theorem hk_gmap (l:List (Int × Nat)):hk (.gmap l) = [] := (rfl)
theorem ren_gmap (n:Nat) (σ:List Nat) (l:List (Int × Nat)):ren n σ (.gmap l) = .gmap l := (rfl)
theorem ren_nilm (n:Nat) (σ:List Nat):ren n σ .nilm = .nilm := (rfl)
theorem ren_mapv (n:Nat) (σ:List Nat) (key:Nat):ren n σ (.mapv key) = orJunk .mapv (renK n σ key) := (rfl)
theorem ren_nilf (n:Nat) (σ:List Nat):ren n σ .nilf = .nilf := (rfl)
theorem ren_nilp (n:Nat) (σ:List Nat):ren n σ .nilp = .nilp := (rfl)
def loopQ (keep:List Nat) (n:Nat) [Inv:InvC] [Q:QC] (e:Ex) (fr:Frame) (st:St):Prop := match e with
 | .next => Inv.run (restrict keep n ⟨fr,st⟩)
 | e => Q.run e fr st
def atHead (s:PS) [Inv:InvC]:Prop := Inv.run s
theorem loopQ_next (keep:List Nat) (n:Nat) (Inv:PS → Prop) (Q:QC) (fr:Frame) (st:St):@loopQ keep n ⟨Inv⟩ Q .next fr st = @atHead (restrict keep n ⟨fr,st⟩) ⟨Inv⟩ := (rfl)
theorem loopQ_exit (keep:List Nat) (n:Nat) (Inv:InvC) (Q:Ex → Frame → St → Prop) (id:Nat) (fr:Frame) (st:St):@loopQ keep n Inv ⟨Q⟩ (.exit id) fr st = Q (.exit id) fr st := (rfl)
theorem loopQ_ret (keep:List Nat) (n:Nat) (Inv:InvC) (Q:Ex → Frame → St → Prop) (fr:Frame) (st:St):@loopQ keep n Inv ⟨Q⟩ .ret fr st = Q .ret fr st := (rfl)
theorem loopQ_panic (keep:List Nat) (n:Nat) (Inv:InvC) (Q:Ex → Frame → St → Prop) (t:Nat) (d:D) (fr:Frame) (st:St):@loopQ keep n Inv ⟨Q⟩ (.panic t d) fr st = Q (.panic t d) fr st := (rfl)
theorem W_while {G:Glob} {T:Tbl} {ι:Type} (hd:ι → List (Nat × D)) (hs:ι → St) (P:ι → Prop) (μ:ι → Nat) (i0:ι) {keep:List Nat} {c:PC} {fr:Frame} {st:St} {Q:Ex → Frame → St → Prop}
  (h0:restrict keep st.length ⟨fr,st⟩ = ⟨mkF (hd i0),hs i0⟩) (hP:P i0)
  (hstep:∀ i,P i → @wW G T c (mkF (hd i)) (hs i) ⟨@loopQ keep st.length ⟨fun s => ∃ j,(P j ∧ μ j < μ i) ∧ s = ⟨mkF (hd j),hs j⟩⟩ ⟨Q⟩⟩):@wW G T (.loop keep c) fr st ⟨Q⟩ := by
 refine wW_mk (W_loop hd hs P μ i0 h0 hP fun i hi => W_mono c _ _ _ _ (W_of (hstep i hi)) fun e fr' st' h => ?_)
 cases e with
 | next =>
  obtain ⟨j,⟨h1,h2⟩,h3⟩ := h
  exact ⟨j,h1,h2,h3⟩
 | exit id => exact h
 | ret => exact h
 | panic t d => exact h
theorem next_head {ι:Type} {hd:ι → List (Nat × D)} {hs:ι → St} {P m:ι → Prop} {s:PS} (j:ι) (h1:P j) (h2:m j) (h3:s = ⟨mkF (hd j),hs j⟩):@atHead s ⟨fun s => ∃ j,(P j ∧ m j) ∧ s = ⟨mkF (hd j),hs j⟩⟩ := ⟨j,⟨h1,h2⟩,h3⟩
def loopQA (keep:List Nat) [Inv:InvC] [Q:QC] (e:Ex) (fr:Frame) (st:St):Prop := match e with
 | .next => Inv.run (keepAll keep ⟨fr,st⟩)
 | e => Q.run e fr st
theorem loopQA_next (keep:List Nat) (Inv:PS → Prop) (Q:QC) (fr:Frame) (st:St):@loopQA keep ⟨Inv⟩ Q .next fr st = @atHead (keepAll keep ⟨fr,st⟩) ⟨Inv⟩ := (rfl)
theorem loopQA_exit (keep:List Nat) (Inv:InvC) (Q:Ex → Frame → St → Prop) (id:Nat) (fr:Frame) (st:St):@loopQA keep Inv ⟨Q⟩ (.exit id) fr st = Q (.exit id) fr st := (rfl)
theorem loopQA_ret (keep:List Nat) (Inv:InvC) (Q:Ex → Frame → St → Prop) (fr:Frame) (st:St):@loopQA keep Inv ⟨Q⟩ .ret fr st = Q .ret fr st := (rfl)
theorem loopQA_panic (keep:List Nat) (Inv:InvC) (Q:Ex → Frame → St → Prop) (t:Nat) (d:D) (fr:Frame) (st:St):@loopQA keep Inv ⟨Q⟩ (.panic t d) fr st = Q (.panic t d) fr st := (rfl)
def keepF (fr:Frame):List Nat → List (Nat × D)
 | [] => []
 | k :: l => (k,fr k) :: keepF fr l
theorem keepF_nil (fr:Frame):keepF fr [] = [] := (rfl)
theorem keepF_cons (fr:Frame) (k:Nat) (l:List Nat):keepF fr (k :: l) = (k,fr k) :: keepF fr l := (rfl)
theorem keepF_eq (fr:Frame):∀ l,l.map (fun k => (k,fr k)) = keepF fr l
 | [] => rfl
 | k :: l => by rw [List.map_cons,keepF_eq fr l]; rfl
theorem keepAll_eq (keep:List Nat) (fr:Frame) (st:St):keepAll keep ⟨fr,st⟩ = ⟨mkF (keepF fr keep),st⟩ := by
 rw [← keepF_eq]; rfl
theorem W_whileA {G:Glob} {T:Tbl} {ι:Type} (hd:ι → List (Nat × D)) (hs:ι → St) (P:ι → Prop) (μ:ι → Nat) (i0:ι) {keep:List Nat} {c:PC} {fr:Frame} {st:St} {Q:Ex → Frame → St → Prop}
  (h0:keepAll keep ⟨fr,st⟩ = ⟨mkF (hd i0),hs i0⟩) (hP:P i0)
  (hstep:∀ i,P i → @wW G T c (mkF (hd i)) (hs i) ⟨@loopQA keep ⟨fun s => ∃ j,(P j ∧ μ j < μ i) ∧ s = ⟨mkF (hd j),hs j⟩⟩ ⟨Q⟩⟩):@wW G T (.loopA keep c) fr st ⟨Q⟩ := by
 refine wW_mk (W_loopA hd hs P μ i0 h0 hP fun i hi => W_mono c _ _ _ _ (W_of (hstep i hi)) fun e fr' st' h => ?_)
 cases e with
 | next =>
  obtain ⟨j,⟨h1,h2⟩,h3⟩ := h
  exact ⟨j,h1,h2,h3⟩
 | exit id => exact h
 | ret => exact h
 | panic t d => exact h
def noLoop:PC → Bool
 | .seq a b | .cond _ a b => noLoop a && noLoop b
 | .block _ c => noLoop c
 | .loop _ _ | .loopA _ _ | .range _ _ _ _ | .alt _ _ => false
 | _ => true
theorem exec_noLoop {G:Glob} {T:Tbl} (m m':Nat):∀ (c:PC),noLoop c = true → ∀ s,c.exec G T m s = c.exec G T m' s := by
 intro c
 induction c with
 | seq a b iha ihb =>
  intro h s
  simp only [noLoop,Bool.and_eq_true] at h
  simp only [PC.exec,iha h.1 s]
  split
  ·exact ihb h.2 _
  ·rfl
  ·rfl
 | cond x a b iha ihb =>
  intro h s
  simp only [noLoop,Bool.and_eq_true] at h
  simp only [PC.exec,iha h.1 s,ihb h.2 s]
 | block id c ih =>
  intro h s
  simp only [noLoop] at h
  simp only [PC.exec,ih h s]
 | loop => intro h; simp [noLoop] at h
 | loopA => intro h; simp [noLoop] at h
 | range => intro h; simp [noLoop] at h
 | alt => intro h; simp [noLoop] at h
 | _ => intro _ s; rfl
def roundQ (k:Nat) (r:D) (st':St):Ex → St → Prop
 | .next,st2 => r = .bool true ∧ st' = st2.set k (recO 0)
 | .ret,st2 => r = .bool false ∧ st' = st2.set k (recO 1)
 | _,_ => False
theorem round_of {G:Glob} {T:Tbl} {a b:PC} (ha:noLoop a = true) (hb:noLoop b = true) {fr:Frame} {ps:List Nat} {k:Nat} {ds:List D} {st st':St} {r:D} (hl:ds.length = ps.length)
  (h:@wW G T a (setP fr ps ds) st ⟨fun e fr1 st1 => e = .next ∧ recAt st1 k = some 0 ∧ @wW G T b fr1 (st1.set k (recO 2)) ⟨fun e _ st2 => roundQ k r st' e st2⟩⟩) (m:Nat) :
  roundY (a.exec G T m) (b.exec G T m) fr ps k ds st = some (r,st') := by
 obtain ⟨n,e,fr1,st1,h1,rfl,h0,h2⟩ := W_sound _ _ _ _ (W_of h)
 obtain ⟨n2,e2,fr2,st2,h3,h4⟩ := W_sound _ _ _ _ (W_of h2)
 unfold roundY
 rw [if_pos hl,exec_noLoop m n a ha,h1 n (Nat.le_refl _)]
 simp only
 rw [if_pos h0,exec_noLoop m n2 b hb,h3 n2 (Nat.le_refl _)]
 cases e2 with
 | next => obtain ⟨rfl,rfl⟩ := h4; rfl
 | ret => obtain ⟨rfl,rfl⟩ := h4; rfl
 | exit id => exact h4.elim
 | panic t d => exact h4.elim
theorem W_range {G:Glob} {T:Tbl} {x:PA} {ps:List Nat} {a b:PC} {fr:Frame} {st st':St} {Q:Ex → Frame → St → Prop} {f:Nat} {caps:List D} {sp:(List D → St → Option (D × St)) → List D → St → Option (D × St)} {d:D} {e:Ex}
  (hx:rho G fr x = .clo f caps) (hf:f < 5000000) (hT:T.r f = some sp) (h:∀ m,sp (roundY (a.exec G T m) (b.exec G T m) fr ps st.length) caps (st ++ [recO 0]) = some (d,st')) (he:recEx st' st.length = some e) (hQ:Q e fr (st'.set st.length (recO 2))):@wW G T (.range x ps a b) fr st ⟨Q⟩ := by
 refine wW_mk (W_rangeX (fun m => ?_) he hQ)
 simp only [rangeRun,hx,if_pos hf,hT,h m,Option.map_some]
theorem wy_p (T:Tbl) (l:Nat) (y:List D → St → Option (D × St)):(withY T l y).p = T.p := (rfl)
theorem wy_i (T:Tbl) (l:Nat) (y:List D → St → Option (D × St)):(withY T l y).i = T.i := (rfl)
theorem wy_m (T:Tbl) (l:Nat) (y:List D → St → Option (D × St)):(withY T l y).m = T.m := (rfl)
theorem cloD_fn (T:Tbl) (f:Nat) (caps:List D) (h:f < 5000000):cloD T (.clo f caps) = (T.i f).map fun sp => (sp,[],caps) := by
 simp only [cloD,if_pos h]
theorem cloD_bound (T:Tbl) (f f':Nat) (caps:List D) (h:f = f' + 5000000) (h':f' < 5000000):cloD T (.clo f caps) = (T.i f').map fun sp => (sp,caps,[]) := by
 subst h
 simp only [cloD,if_neg (show ¬ f' + 5000000 < 5000000 by omega),if_pos (show f' + 5000000 < 10000000 by omega),Nat.add_sub_cancel]
theorem calD_fn (f:Nat) (caps ds:List D) (h:f < 5000000):calD (.clo f caps) ds = some (f,ds ++ caps) := by
 simp only [calD,if_pos h]
theorem calD_bound (f:Nat) (caps ds:List D) (h:f < 10000000) (h':5000000 ≤ f):calD (.clo f caps) ds = some (f - 5000000,caps ++ ds) := by
 simp only [calD,if_neg (show ¬ f < 5000000 by omega),if_pos h]
theorem cloD_yield (T:Tbl) (l:Nat) (y:List D → St → Option (D × St)):cloD (withY T l y) (.clo (10000000 + l) []) = some (y,[],[]) := by
 unfold cloD
 have h1:¬ 10000000 + l < 5000000 := by omega
 simp only [h1,Nat.not_lt.2 (Nat.le_add_right 10000000 l),if_false,List.isEmpty_nil,if_true,Nat.add_sub_cancel_left,withY]
theorem intsD_int (k:IntKind) (n:Int):intsD (.int k n) = true := (rfl)
theorem intsD_agg1 (k:IntKind) (n:Int):intsD (.agg [.int k n]) = true := (rfl)
attribute [push_cast] then_panic W_opsX W_pan out_panic wOpsX_nil wOpsX_plain wOpsX_guard wOpX_icall onX_some onX_panic maySp_some maySp_none maySx_some maySx_none retX_panic retD_ret retD_next retD_panic retDQ_ret retDQ_next retDQ_panic intsD_int intsD_agg1
attribute [irreducible] loopQA
attribute [push_cast] loopQA_next loopQA_exit loopQA_ret keepF_nil keepF_cons keepAll_eq wy_p wy_i wy_m cloD_fn cloD_bound cloD_yield calD_fn calD_bound wOpX_op
attribute [irreducible] loopQ atHead
attribute [push_cast] loopQ_next loopQ_exit loopQ_ret loopQ_panic loopQA_panic
attribute [push_cast] hk_bsl hk_rptr hk_mapv hk_nilf hk_nilp hk_nilm hk_gmap ren_gmap ren_nilm ren_mapv ren_nilf ren_nilp renB_dig hkB_digC
attribute [push_cast] restrictAt_eq restrict_eq restrictM_eq restrictL_eq restrictN_eq headK_nil headK_cons headF_nil headF_cons boxK_nil boxK_row boxK_box pickL_nil pickL_cons renS_nil renS_cons uniq_nil uniq_cons renK_eq posIn_eq renO_row renO_box ren1_int ren1_bool ren1_slc ren1_str ren1_row hk1_int hk1_bool hk1_slc hk1_str hk1_row List.getD_cons_zero List.getD_cons_succ List.contains_nil List.contains_cons false_and and_false and_true true_and and_self Int.toNat_natCast Int.cast_ofNat_Int Int.toNat_zero Int.toNat_one
end Go.Proofs.YtlleccmnjpcogaaDoor.PI
