/-
  Slices that are made by appending, from nothing: laid out for rewriting.
  Conditions: none; these are lemmas.
-/
import Derived.Test.YtlleccmnjpcogaaDoorEngI2
set_option linter.unusedVariables false
set_option linter.unusedSimpArgs false
namespace Go.Proofs.YtlleccmnjpcogaaDoor.PI
set_option linter.unusedSimpArgs false
open Go
def bufK (n:Nat) (els:List D):List Nat := if els.isEmpty then [] else [n]
theorem bufD_ne (sz key:Nat) (els:List D) (h:els ≠ []):bufD sz key els = .row key els.length 0 els.length := by
 cases els with
 | nil => exact absurd rfl h
 | cons a l => rfl
theorem bufS_ne (sz:Nat) (els:List D) (h:els ≠ []):bufS sz els = [{ row := true,sz,els,lent := false }] := by
 cases els with
 | nil => exact absurd rfl h
 | cons a l => rfl
theorem hk_buf (sz n:Nat) (els:List D):hk (bufD sz n els) = bufK n els := by cases els <;> rfl
theorem ren_buf (sz n:Nat) (els:List D):ren n (bufK n els) (bufD sz n els) = bufD sz n els := by
 cases els with
 | nil => rfl
 | cons a l => simp [bufK,bufD,ren,ren1,ren0,renK,posIn,orJunk]
theorem uniq_buf (n hi sz:Nat) (els:List D) (r:List Nat) (h:hi = (bufS sz els).length + n):uniq n hi (bufK n els ++ r) [] = uniq n hi r (bufK n els) := by
 cases els with
 | nil => rfl
 | cons a l =>
  have:n < hi := by rw [h]; simp [bufS]
  simp [bufK,uniq,this]
theorem uniq_b0 (sz:Nat) (els:List D) (r:List Nat):uniq 0 ((bufS sz els).length) (bufK 0 els ++ r) [] = uniq 0 ((bufS sz els).length) r (bufK 0 els) := uniq_buf 0 _ sz els r (by simp)
theorem uniq_c0 (sz:Nat) (els:List D):uniq 0 ((bufS sz els).length) (bufK 0 els) [] = bufK 0 els := by
 have := uniq_b0 sz els []
 rwa [List.append_nil] at this
theorem uniq_b1 (sz:Nat) (els:List D) (r:List Nat):uniq 1 ((bufS sz els).length + 1) (bufK 1 els ++ r) [] = uniq 1 ((bufS sz els).length + 1) r (bufK 1 els) := uniq_buf 1 _ sz els r (by simp)
theorem uniq_c1 (sz:Nat) (els:List D):uniq 1 ((bufS sz els).length + 1) (bufK 1 els) [] = bufK 1 els := by
 have := uniq_b1 sz els []
 rwa [List.append_nil] at this
theorem uniq_b2 (sz:Nat) (els:List D) (r:List Nat):uniq 2 ((bufS sz els).length + 1 + 1) (bufK 2 els ++ r) [] = uniq 2 ((bufS sz els).length + 1 + 1) r (bufK 2 els) := uniq_buf 2 _ sz els r (by simp)
theorem uniq_c2 (sz:Nat) (els:List D):uniq 2 ((bufS sz els).length + 1 + 1) (bufK 2 els) [] = bufK 2 els := by
 have := uniq_b2 sz els []
 rwa [List.append_nil] at this
theorem uniq_b3 (sz:Nat) (els:List D) (r:List Nat):uniq 3 ((bufS sz els).length + 1 + 1 + 1) (bufK 3 els ++ r) [] = uniq 3 ((bufS sz els).length + 1 + 1 + 1) r (bufK 3 els) := uniq_buf 3 _ sz els r (by simp)
theorem uniq_c3 (sz:Nat) (els:List D):uniq 3 ((bufS sz els).length + 1 + 1 + 1) (bufK 3 els) [] = bufK 3 els := by
 have := uniq_b3 sz els []
 rwa [List.append_nil] at this
theorem uniq_b4 (sz:Nat) (els:List D) (r:List Nat):uniq 4 ((bufS sz els).length + 1 + 1 + 1 + 1) (bufK 4 els ++ r) [] = uniq 4 ((bufS sz els).length + 1 + 1 + 1 + 1) r (bufK 4 els) := uniq_buf 4 _ sz els r (by simp)
theorem uniq_c4 (sz:Nat) (els:List D):uniq 4 ((bufS sz els).length + 1 + 1 + 1 + 1) (bufK 4 els) [] = bufK 4 els := by
 have := uniq_b4 sz els []
 rwa [List.append_nil] at this
theorem pick_buf (l:St) (sz:Nat) (els:List D):pickL l.length (bufK l.length els) (l ++ bufS sz els) (bufK l.length els) = bufS sz els := by
 cases els with
 | nil => rfl
 | cons a r => simp [bufK,bufS,pickL,renO]
theorem pick_buf0 (sz:Nat) (els:List D):pickL 0 (bufK 0 els) (bufS sz els) (bufK 0 els) = bufS sz els := pick_buf [] sz els
theorem pick_buf1 (a:Obj) (sz:Nat) (els:List D):pickL 1 (bufK 1 els) (a :: bufS sz els) (bufK 1 els) = bufS sz els := pick_buf [a] sz els
theorem pick_buf2 (a b:Obj) (sz:Nat) (els:List D):pickL 2 (bufK 2 els) (a :: b :: bufS sz els) (bufK 2 els) = bufS sz els := pick_buf [a,b] sz els
theorem pick_buf3 (a b c:Obj) (sz:Nat) (els:List D):pickL 3 (bufK 3 els) (a :: b :: c :: bufS sz els) (bufK 3 els) = bufS sz els := pick_buf [a,b,c] sz els
theorem pick_buf4 (a b c d:Obj) (sz:Nat) (els:List D):pickL 4 (bufK 4 els) (a :: b :: c :: d :: bufS sz els) (bufK 4 els) = bufS sz els := pick_buf [a,b,c,d] sz els
theorem papp_bufg (l:St) (sz sz0 szx bytes:Nat) (els xs:List D) (t:Bool) (hs:szx = sz ∨ xs = []) (hs0:sz ≠ 0) (hb:(els.length + xs.length) * bytes ≤ 140737488355328) (hl:els.length + xs.length ≤ 4294967296) :
  papp (l ++ bufS sz els) sz bytes (bufD sz0 l.length els) (.slc szx xs t) = some (bufD sz0 l.length (els ++ xs),l ++ bufS sz (els ++ xs)) :=
 papp_buf l sz sz0 bytes els xs _ szx rfl hs hs0 hb hl
section
variable {α:Type} (f:α → D) (a b c d:Obj) (sz sz0 bytes:Nat) (A B:List α) (t:Bool) (hs0:sz ≠ 0) (hb:(A.length + B.length) * bytes ≤ 140737488355328) (hl:A.length + B.length ≤ 4294967296)
include hs0 hb hl
theorem papp_bufm (l:St) (szx:Nat) (hs:szx = sz ∨ B.map f = []):papp (l ++ bufS sz (A.map f)) sz bytes (bufD sz0 l.length (A.map f)) (.slc szx (B.map f) t) = some (bufD sz0 l.length ((A ++ B).map f),l ++ bufS sz ((A ++ B).map f)) := by
 rw [papp_bufg l sz sz0 szx bytes (A.map f) (B.map f) t hs hs0 (by simpa using hb) (by simpa using hl),List.map_append]
theorem papp_b0:papp (bufS sz (A.map f)) sz bytes (bufD sz0 0 (A.map f)) (.slc (nz sz (B.map f)) (B.map f) t) = some (bufD sz0 0 ((A ++ B).map f),bufS sz ((A ++ B).map f)) := papp_bufm f sz sz0 bytes A B t hs0 hb hl [] _ (nz_or _ _)
theorem papp_b1:papp (a :: bufS sz (A.map f)) sz bytes (bufD sz0 1 (A.map f)) (.slc (nz sz (B.map f)) (B.map f) t) = some (bufD sz0 1 ((A ++ B).map f),a :: bufS sz ((A ++ B).map f)) := papp_bufm f sz sz0 bytes A B t hs0 hb hl [a] _ (nz_or _ _)
theorem papp_b2:papp (a :: b :: bufS sz (A.map f)) sz bytes (bufD sz0 2 (A.map f)) (.slc (nz sz (B.map f)) (B.map f) t) = some (bufD sz0 2 ((A ++ B).map f),a :: b :: bufS sz ((A ++ B).map f)) := papp_bufm f sz sz0 bytes A B t hs0 hb hl [a,b] _ (nz_or _ _)
theorem papp_b3:papp (a :: b :: c :: bufS sz (A.map f)) sz bytes (bufD sz0 3 (A.map f)) (.slc (nz sz (B.map f)) (B.map f) t) = some (bufD sz0 3 ((A ++ B).map f),a :: b :: c :: bufS sz ((A ++ B).map f)) := papp_bufm f sz sz0 bytes A B t hs0 hb hl [a,b,c] _ (nz_or _ _)
end
section
variable {α:Type} (f:α → D) (a b c d:Obj) (sz sz0 bytes:Nat) (A:List α) (x:α) (t:Bool) (hs0:sz ≠ 0) (hb:(A.length + 1) * bytes ≤ 140737488355328) (hl:A.length + 1 ≤ 4294967296)
include hs0 hb hl
theorem papp_one (l:St):papp (l ++ bufS sz (A.map f)) sz bytes (bufD sz0 l.length (A.map f)) (.slc sz [f x] t) = some (bufD sz0 l.length ((A ++ [x]).map f),l ++ bufS sz ((A ++ [x]).map f)) :=
 papp_bufm f sz sz0 bytes A [x] t hs0 hb hl l sz (.inl rfl)
theorem papp_o0:papp (bufS sz (A.map f)) sz bytes (bufD sz0 0 (A.map f)) (.slc sz [f x] t) = some (bufD sz0 0 ((A ++ [x]).map f),bufS sz ((A ++ [x]).map f)) := papp_one f sz sz0 bytes A x t hs0 hb hl []
theorem papp_o1:papp (a :: bufS sz (A.map f)) sz bytes (bufD sz0 1 (A.map f)) (.slc sz [f x] t) = some (bufD sz0 1 ((A ++ [x]).map f),a :: bufS sz ((A ++ [x]).map f)) := papp_one f sz sz0 bytes A x t hs0 hb hl [a]
theorem papp_o2:papp (a :: b :: bufS sz (A.map f)) sz bytes (bufD sz0 2 (A.map f)) (.slc sz [f x] t) = some (bufD sz0 2 ((A ++ [x]).map f),a :: b :: bufS sz ((A ++ [x]).map f)) := papp_one f sz sz0 bytes A x t hs0 hb hl [a,b]
theorem papp_o3:papp (a :: b :: c :: bufS sz (A.map f)) sz bytes (bufD sz0 3 (A.map f)) (.slc sz [f x] t) = some (bufD sz0 3 ((A ++ [x]).map f),a :: b :: c :: bufS sz ((A ++ [x]).map f)) := papp_one f sz sz0 bytes A x t hs0 hb hl [a,b,c]
end
theorem papp_first {α:Type} (f:α → D) (st:St) (sz sz0 bytes:Nat) (B:List α) (t:Bool) (hs0:sz ≠ 0) (hb:B.length * bytes ≤ 140737488355328) (hl:B.length ≤ 4294967296) :
  papp st sz bytes (.slc sz0 [] true) (.slc (nz sz (B.map f)) (B.map f) t) = some (bufD sz0 st.length (B.map f),st ++ bufS sz (B.map f)) := by
 have := papp_bufm f sz sz0 bytes [] B t hs0 (by simpa using hb) (by simpa using hl) st _ (nz_or _ _)
 simpa [bufS,bufD] using this
theorem papp_first1 {α:Type} (f:α → D) (st:St) (sz sz0 bytes:Nat) (x:α) (t:Bool) (hs0:sz ≠ 0) (hb:bytes ≤ 140737488355328) :
  papp st sz bytes (.slc sz0 [] true) (.slc sz [f x] t) = some (.row st.length 1 0 1,st ++ [⟨true,sz,[f x],false⟩]) := by
 have := papp_bufm f sz sz0 bytes [] [x] t hs0 (by simpa using hb) (by simp) st sz (.inl rfl)
 simpa [bufS,bufD] using this
theorem nz_part {α:Type} (f:α → D) (sz:Nat) (A:List α) (h l:Nat):nz (nz sz (A.map f)) (((A.take h).drop l).map f) = nz sz (((A.take h).drop l).map f) := by
 cases A with
 | nil => simp [nz]
 | cons a r => rfl
theorem nz_take {α:Type} (f:α → D) (sz:Nat) (A:List α) (h:Nat):nz (nz sz (A.map f)) ((A.take h).map f) = nz sz ((A.take h).map f) := by
 cases A with
 | nil => simp [nz]
 | cons a r => rfl
theorem nz_drop {α:Type} (f:α → D) (sz:Nat) (A:List α) (l:Nat):nz (nz sz (A.map f)) ((A.drop l).map f) = nz sz ((A.drop l).map f) := by
 cases A with
 | nil => simp [nz]
 | cons a r => rfl
theorem nz_td {α:Type} (f:α → D) (sz:Nat) (A:List α) (h l:Nat):nz (nz sz (A.map f)) (((A.drop l).take h).map f) = nz sz (((A.drop l).take h).map f) := by
 cases A with
 | nil => simp [nz]
 | cons a r => rfl
theorem papp_keep (st:St) (sz bytes sz' szx:Nat) (els:List D) (t:Bool) (hs0:sz ≠ 0):papp st sz bytes (.slc sz' els true) (.slc szx [] t) = some (.slc sz' els true,st) := papp_nil st sz bytes sz' els _ szx rfl hs0
attribute [push_cast] nz_part nz_take nz_drop nz_td
theorem imm_buf (l:St) (sz sz0:Nat) (els:List D):imm (l ++ bufS sz els) (bufD sz0 l.length els) = some (.slc (nz sz els) els false) := by
 cases els with
 | nil => rfl
 | cons a r => simp [bufD,bufS,imm,imm1,rowEls]
theorem imm_b0 (sz sz0:Nat) (els:List D):imm (bufS sz els) (bufD sz0 0 els) = some (.slc (nz sz els) els false) := imm_buf [] sz sz0 els
theorem imm_b1 (a:Obj) (sz sz0:Nat) (els:List D):imm (a :: bufS sz els) (bufD sz0 1 els) = some (.slc (nz sz els) els false) := imm_buf [a] sz sz0 els
theorem imm_b2 (a b:Obj) (sz sz0:Nat) (els:List D):imm (a :: b :: bufS sz els) (bufD sz0 2 els) = some (.slc (nz sz els) els false) := imm_buf [a,b] sz sz0 els
theorem imm_b3 (a b c:Obj) (sz sz0:Nat) (els:List D):imm (a :: b :: c :: bufS sz els) (bufD sz0 3 els) = some (.slc (nz sz els) els false) := imm_buf [a,b,c] sz sz0 els
theorem lenD_buf (l:St) (sz sz0:Nat) (els:List D):lenD (l ++ bufS sz els) false (bufD sz0 l.length els) = some (.int .i64 (els.length:Int)) := by
 cases els with
 | nil => rfl
 | cons a r => simp [bufD,bufS,lenD,isStr,sLen,live]
theorem lenD_b0 (sz sz0:Nat) (els:List D):lenD (bufS sz els) false (bufD sz0 0 els) = some (.int .i64 (els.length:Int)) := lenD_buf [] sz sz0 els
theorem lenD_b1 (a:Obj) (sz sz0:Nat) (els:List D):lenD (a :: bufS sz els) false (bufD sz0 1 els) = some (.int .i64 (els.length:Int)) := lenD_buf [a] sz sz0 els
theorem lenD_b2 (a b:Obj) (sz sz0:Nat) (els:List D):lenD (a :: b :: bufS sz els) false (bufD sz0 2 els) = some (.int .i64 (els.length:Int)) := lenD_buf [a,b] sz sz0 els
theorem lenD_b3 (a b c:Obj) (sz sz0:Nat) (els:List D):lenD (a :: b :: c :: bufS sz els) false (bufD sz0 3 els) = some (.int .i64 (els.length:Int)) := lenD_buf [a,b,c] sz sz0 els
theorem le_len (n m:Nat):n ≤ m + n := Nat.le_add_left n m
theorem nil_bufD (key:Nat):D.slc 0 [] true = bufD 0 key [] := (rfl)
def apR (o:Option Obj) (sz bytes tot:Nat) (xs:Option (Nat × List D)):Option Obj := match o,xs with
 | some o,some (szx,xs) => if !(szx == sz || xs.isEmpty) || sz == 0 then none
  else if o.row && o.sz == sz && o.els.length == tot && decide ((tot + xs.length) * bytes ≤ 140737488355328) && decide (tot + xs.length ≤ 4294967296) then some { o with els := o.els ++ xs } else none
 | _,_ => none
theorem papp_rowE (st:St) (sz bytes key tot:Nat) (x:D):papp st sz bytes (.row key tot 0 tot) x = (apR st[key]? sz bytes tot (elsOf st x)).map fun o => (.row key o.els.length 0 o.els.length,st.set key o) := by
 simp only [papp,apR]
 cases hx:elsOf st x with
 | none => cases st[key]? <;> rfl
 | some p =>
  obtain ⟨szx,xs⟩ := p
  cases ho:st[key]? with
  | none =>
   simp only
   split <;> rfl
  | some o =>
   simp only
   split
   ·rfl
   ·by_cases h:(o.row && o.sz == sz && o.els.length == tot && decide ((tot + xs.length) * bytes ≤ 140737488355328) && decide (tot + xs.length ≤ 4294967296)) = true
    ·have h' := h
     simp only [Bool.and_eq_true,beq_iff_eq,decide_eq_true_eq] at h'
     obtain ⟨⟨⟨⟨h1,h2⟩,h3⟩,h4⟩,h5⟩ := h'
     simp [h1,h2,h3,h4,h5]
    ·simp only [h]
     simp only [Bool.not_eq_true] at h
     simp
     intro h1 h2 h3 h4
     simp [h1,h2,h3,h4] at h
     omega
theorem apR_map {α:Type} (f:α → D) (sz bytes:Nat) (A B:List α) (lent:Bool) (hs0:sz ≠ 0) (hb:(A.length + B.length) * bytes ≤ 140737488355328) (hl:A.length + B.length ≤ 4294967296) (szx:Nat) (hs:szx = sz ∨ B.map f = []) :
  apR (some ⟨true,sz,A.map f,lent⟩) sz bytes A.length (some (szx,B.map f)) = some ⟨true,sz,(A ++ B).map f,lent⟩ := by
 have e:(!(szx == sz || (B.map f).isEmpty) || sz == 0) = false := by
  rcases hs with h | h <;> simp [h,hs0]
 simp only [apR,e,Bool.false_eq_true,if_false]
 simp [hb,hl]
theorem apR_nz {α:Type} (f:α → D) (sz bytes:Nat) (A B:List α) (lent t:Bool) (st:St) (hs0:sz ≠ 0) (hb:(A.length + B.length) * bytes ≤ 140737488355328) (hl:A.length + B.length ≤ 4294967296) :
  apR (some ⟨true,sz,A.map f,lent⟩) sz bytes A.length (elsOf st (.slc (nz sz (B.map f)) (B.map f) t)) = some ⟨true,sz,(A ++ B).map f,lent⟩ := apR_map f sz bytes A B lent hs0 hb hl _ (nz_or _ _)
theorem apR_one {α:Type} (f:α → D) (sz bytes:Nat) (A:List α) (x:α) (lent t:Bool) (st:St) (hs0:sz ≠ 0) (hb:(A.length + 1) * bytes ≤ 140737488355328) (hl:A.length + 1 ≤ 4294967296) :
  apR (some ⟨true,sz,A.map f,lent⟩) sz bytes A.length (elsOf st (.slc sz [f x] t)) = some ⟨true,sz,(A ++ [x]).map f,lent⟩ := apR_map f sz bytes A [x] lent hs0 hb hl _ (.inl rfl)
def reR (o:Option Obj) (tot off len:Nat):Option (Nat × List D) := o.bind fun o => if o.row && o.els.length == tot && decide (off + len ≤ tot) then some (o.sz,(o.els.drop off).take len) else none
theorem rowEls_eq (st:St) (key tot off len:Nat):rowEls st key tot off len = reR st[key]? tot off len := by
 unfold rowEls reR; cases st[key]? <;> rfl
theorem reR_all {α:Type} (f:α → D) (sz:Nat) (A:List α) (lent:Bool):reR (some ⟨true,sz,A.map f,lent⟩) A.length 0 A.length = some (sz,A.map f) := by
 simp [reR]
 rw [List.take_of_length_le (by simp)]
theorem reR_part {α:Type} (f:α → D) (sz:Nat) (A:List α) (lent:Bool) (off len:Nat) (h:off + len ≤ A.length):reR (some ⟨true,sz,A.map f,lent⟩) A.length off len = some (sz,((A.drop off).take len).map f) := by
 simp [reR,h,List.map_drop,List.map_take]
def liR (o:Option Obj) (tot:Nat):Bool := match o with
 | some o => o.row && o.els.length == tot
 | none => false
theorem live_eq (st:St) (key tot:Nat):live st key tot = liR st[key]? tot := (rfl)
theorem liR_row {α:Type} (f:α → D) (sz:Nat) (A:List α) (lent:Bool):liR (some ⟨true,sz,A.map f,lent⟩) A.length = true := by simp [liR]
def ixR (o:Option Obj) (sz key tot off len:Nat) (j:Int):Option D := if 0 ≤ j then o.bind fun o => if o.row && o.sz == sz && o.els.length == tot && decide (j.toNat < len) then some (.rptr key tot (off + j.toNat) 0) else none else none
theorem idxS_row (st:St) (sz key tot off len:Nat) (k:IntKind) (j:Int):pidxS st sz (.row key tot off len) (.int k j) = ixR st[key]? sz key tot off len j := by
 simp only [pidxS,ixR,natOf]
 by_cases h:0 ≤ j
 ·simp only [h,if_true]; cases st[key]? <;> rfl
 ·simp only [h,if_false]
theorem ixR_row {α:Type} (f:α → D) (sz:Nat) (A:List α) (lent:Bool) (key off len:Nat) (j:Int) (h0:0 ≤ j) (h1:j < (len:Int)):ixR (some ⟨true,sz,A.map f,lent⟩) sz key A.length off len j = some (.rptr key A.length (off + j.toNat) 0) := by
 have:j.toNat < len := by omega
 simp [ixR,h0,this]
def ldR (o:Option Obj) (n:Nat) (ag:Bool) (tot i off:Nat):Option D := if !ag && n != 1 then none else o.bind fun o => if o.row && o.els.length == tot then (o.els[i]?).bind fun el => if off + n ≤ el.cells.length then some (.mk ag ((el.cells.drop off).take n)) else none else none
theorem pload_rptrE (st:St) (n:Nat) (ag:Bool) (key tot i off:Nat):pload st n ag (.rptr key tot i off) = ldR st[key]? n ag tot i off := pload_rptr st n ag key tot i off
theorem ldR_dig (sz:Nat) (A:List Dig) (lent:Bool) (i:Nat) (h:i < A.length):ldR (some ⟨true,sz,A.map digD,lent⟩) 32 true A.length i 0 = some (digD (A.getD i default)) := by
 simp [ldR,h,digD_cells,digC_length,take_dig,mk_dig,List.getD_eq_getElem?_getD]
theorem ldR_cell {α:Type} [Inhabited α] (f:α → D) (hf:∀ a,(f a).isCell = true) (sz:Nat) (A:List α) (lent:Bool) (i:Nat) (h:i < A.length):ldR (some ⟨true,sz,A.map f,lent⟩) 1 false A.length i 0 = some (f (A.getD i default)) := by
 have:(f A[i]).cells = [f A[i]] := isCell_cells (hf _)
 simp [ldR,h,this,D.mk,List.getD_eq_getElem?_getD]
theorem ldR_byte (sz:Nat) (A:List UInt8) (lent:Bool) (i:Nat) (h:i < A.length):ldR (some ⟨true,sz,A.map byteD,lent⟩) 1 false A.length i 0 = some (byteD (A.getD i default)) := ldR_cell byteD (fun _ => rfl) sz A lent i h
def slR (o:Option Obj) (sz:Nat) (x:D) (key tot off len l h:Nat):Option D := o.bind fun o => if o.row && o.sz == sz && o.els.length == tot && sz != 0 then (if l ≤ h ∧ h ≤ len then (if l = 0 ∧ h = len then some x else if l = h then some (.slc sz [] false) else some (.row key tot (off + l) (h - l))) else none) else none
theorem pslice_row (st:St) (sz key tot off len:Nat) (lo hi:Option D):pslice st sz (.row key tot off len) lo hi none = (bnd lo 0).bind fun l => (bnd hi len).bind fun h => slR st[key]? sz (.row key tot off len) key tot off len l h := by
 simp only [pslice,slR]
 cases st[key]? with
 | none => cases bnd lo 0 <;> cases bnd hi len <;> rfl
 | some o =>
  simp only [Option.bind_some]
  split
  ·cases bnd lo 0 <;> cases bnd hi len <;> rfl
  ·cases bnd lo 0 <;> cases bnd hi len <;> rfl
theorem slR_row {α:Type} (f:α → D) (sz:Nat) (A:List α) (lent:Bool) (x:D) (key off len l h:Nat) (h0:sz ≠ 0) (h1:l ≤ h) (h2:h ≤ len):slR (some ⟨true,sz,A.map f,lent⟩) sz x key A.length off len l h = (if l = 0 ∧ h = len then some x else if l = h then some (.slc sz [] false) else some (.row key A.length (off + l) (h - l))) := by
 simp [slR,h0,h1,h2]
theorem bnd_none (d:Nat):bnd none d = some d := (rfl)
theorem bnd_int (k:IntKind) (n:Int) (d:Nat) (h:0 ≤ n):bnd (some (.int k n)) d = some n.toNat := by simp [bnd,natOf,h]
theorem apR_e {α:Type} (f:α → D) (sz bytes szx:Nat) (B:List α) (lent:Bool) (hs:szx = sz ∨ B.map f = []) (hs0:sz ≠ 0) (hb:B.length * bytes ≤ 140737488355328) (hl:B.length ≤ 4294967296) :
  apR (some ⟨true,sz,[],lent⟩) sz bytes 0 (some (szx,B.map f)) = some ⟨true,sz,B.map f,lent⟩ := apR_map f sz bytes [] B lent hs0 (by simpa using hb) (by simpa using hl) szx hs
theorem apR_enz {α:Type} (f:α → D) (st:St) (sz bytes:Nat) (B:List α) (lent t:Bool) (hs0:sz ≠ 0) (hb:B.length * bytes ≤ 140737488355328) (hl:B.length ≤ 4294967296) :
  apR (some ⟨true,sz,[],lent⟩) sz bytes 0 (elsOf st (.slc (nz sz (B.map f)) (B.map f) t)) = some ⟨true,sz,B.map f,lent⟩ := apR_e f sz bytes _ B lent (nz_or _ _) hs0 hb hl
theorem apR_eb (B:List UInt8) (lent:Bool) (hl:B.length ≤ 4294967296):apR (some ⟨true,1,[],lent⟩) 1 1 0 (some (1,B.map byteD)) = some ⟨true,1,B.map byteD,lent⟩ := apR_e byteD 1 1 1 B lent (.inl rfl) (by decide) (by omega) hl
theorem apR_b (A B:List UInt8) (lent:Bool) (hl:A.length + B.length ≤ 4294967296):apR (some ⟨true,1,A.map byteD,lent⟩) 1 1 A.length (some (1,B.map byteD)) = some ⟨true,1,(A ++ B).map byteD,lent⟩ := apR_map byteD 1 1 A B lent (by decide) (by omega) hl 1 (.inl rfl)
def elB (o:Option Obj):Option (Nat × List D) := o.bind fun o => if !o.row && decide (32 ≤ o.els.length) && (chunk 1 false o.els 32).all purA then some (1,chunk 1 false o.els 32) else none
theorem elsOf_bsl32 (st:St) (key:Nat):elsOf st (.bsl key 0 32 1 false) = elB st[key]? := by
 simp only [elsOf,bslEls,elB]
 cases st[key]? with
 | none => rfl
 | some o =>
  simp only [Option.bind_some,Nat.zero_add,Nat.mul_one,List.drop_zero]
  by_cases h:(!o.row && decide (32 ≤ o.els.length)) = true
  ·have h2:(decide (0 < 1) && (false || 1 == 1)) = true := rfl
   simp only [Bool.and_assoc] at h ⊢
   simp only [← Bool.and_assoc] at h ⊢
   simp only [h,Bool.true_and]
   rfl
  ·simp only [Bool.not_eq_true] at h
   have h2:(!o.row && decide (32 ≤ o.els.length) && decide (0 < 1) && (false || 1 == 1)) = false := by simpa using h
   simp only [h2,h,Bool.false_and,Bool.false_eq_true,if_false]
theorem elB_dig (sz:Nat) (d:Dig) (lent:Bool):elB (some ⟨false,sz,digC d,lent⟩) = some (1,d.bs.map byteD) := by
 have h1:chunk 1 false (digC d) 32 = digC d := by
  have := chunk_bytes (digC d)
  rwa [digC_length] at this
 have h2:(digC d).all purA = true := digC_all (fun _ => rfl) d
 simp only [elB,Option.bind_some,digC_length,h1,h2]
 rfl
attribute [push_cast] elsOf_bsl32 elB_dig apR_eb apR_b apR_enz
attribute [push_cast] List.drop_zero List.take_length
attribute [push_cast] papp_rowE apR_nz apR_one rowEls_eq reR_all reR_part lenD_row live_eq liR_row idxS_row ixR_row pload_rptrE ldR_dig ldR_byte pslice_row bnd_none bnd_int
attribute [push_cast] hk_buf ren_buf uniq_b0 uniq_c0 uniq_b1 uniq_c1 uniq_b2 uniq_c2 uniq_b3 uniq_c3 uniq_b4 uniq_c4 pick_buf0 pick_buf1 pick_buf2 pick_buf3 pick_buf4 papp_b0 papp_b1 papp_b2 papp_b3 papp_o0 papp_o1 papp_o2 papp_o3 imm_b0 imm_b1 imm_b2 imm_b3 lenD_b0 lenD_b1 lenD_b2 lenD_b3 le_len
end Go.Proofs.YtlleccmnjpcogaaDoor.PI
