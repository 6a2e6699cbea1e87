/-
  What the pure operations do on values of the shapes that occur: laid out for rewriting.
  Conditions: none; these are definitions and lemmas.
-/
import Derived.Test.YtlleccmnjpcogaaDoorEngY
set_option linter.unusedVariables false
set_option linter.unusedSimpArgs false
namespace Go.Proofs.YtlleccmnjpcogaaDoor.PI
open Go
def solid1:D → Bool
 | .int _ _ | .bool _ | .str _ | .clo _ [] | .nilf | .nilp => true
 | .slc sz els t => !t && nz sz els == sz
 | _ => false
def solid:D → Bool
 | .agg l => l.all solid1
 | d => solid1 d
theorem solid1_imm (st:St) {d:D} (h:solid1 d = true):imm1 st d = some d := by
 cases d with
 | clo f l => cases l <;> simp_all [solid1,imm1,D.pure1]
 | slc sz els t => simp_all [solid1,imm1]
 | _ => simp_all [solid1,imm1,D.pure1]
theorem solid1_immL (st:St):∀ {l:List D},l.all solid1 = true → immL st l = some l
 | [],_ => rfl
 | d :: l,h => by
  simp only [List.all_cons,Bool.and_eq_true] at h
  simp only [immL,solid1_imm st h.1,solid1_immL st h.2]
theorem solid_imm (st:St) {d:D} (h:solid d = true):imm st d = some d := by
 cases d with
 | agg l => simp only [imm,solid1_immL st h,Option.map_some]
 | tup l => simp [solid,solid1] at h
 | _ => exact solid1_imm st (by simpa only [solid] using h)
theorem solid1_key {d:D} (h:solid1 d = true):key1 d = [] := by
 cases d <;> simp_all [solid1,key1]
theorem solid_keys {d:D} (h:solid d = true):keys d = [] := by
 cases d with
 | agg l =>
  simp only [keys,List.flatMap_eq_nil_iff]
  simp only [solid,List.all_eq_true] at h
  exact fun d hd => solid1_key (h d hd)
 | _ => exact solid1_key (by simpa only [solid] using h)
theorem solid1_hk {d:D} (h:solid1 d = true):hk1 d = [] := by
 cases d with
 | clo f l => cases l <;> simp_all [solid1,hk1]
 | _ => simp_all [solid1,hk1,hk0]
theorem solid_hk {d:D} (h:solid d = true):hk d = [] := by
 cases d with
 | agg l =>
  simp only [hk,List.flatMap_eq_nil_iff]
  simp only [solid,List.all_eq_true] at h
  exact fun d hd => solid1_hk (h d hd)
 | _ => exact solid1_hk (by simpa only [solid] using h)
theorem solid1_ren (n:Nat) (σ:List Nat) {d:D} (h:solid1 d = true):ren1 n σ d = d := by
 cases d with
 | clo f l => cases l <;> simp_all [solid1,ren1]
 | _ => simp_all [solid1,ren1,ren0]
theorem solid_ren (n:Nat) (σ:List Nat) {d:D} (h:solid d = true):ren n σ d = d := by
 cases d with
 | agg l =>
  simp only [ren,D.agg.injEq]
  simp only [solid,List.all_eq_true] at h
  have:∀ l:List D,(∀ d ∈ l,solid1 d = true) → l.map (ren1 n σ) = l := by
   intro l
   induction l with
   | nil => intro _; rfl
   | cons a l ih => intro h; simp only [List.map_cons,solid1_ren n σ (h a (by simp)),ih fun d hd => h d (by simp [hd])]
  exact this l h
 | tup l => simp [solid,solid1] at h
 | _ => exact solid1_ren n σ (by simpa only [solid] using h)
structure Dig where
 bs:List UInt8
 len:bs.length = 32
 deriving DecidableEq
def zeroDig:Dig := ⟨List.replicate 32 0,by simp⟩
instance:Inhabited Dig := ⟨zeroDig⟩
theorem Dig.ext' {a b:Dig} (h:a.bs = b.bs):a = b := by
 cases a; cases b; simp_all
def digC (d:Dig):List D := d.bs.map byteD
def digD (d:Dig):D := .agg (digC d)
theorem digC_length (d:Dig):(digC d).length = 32 := by simp [digC,d.len]
theorem byteD_inj {a b:UInt8} (h:byteD a = byteD b):a = b := by
 simp only [byteD,D.int.injEq,true_and] at h
 exact UInt8.toNat_inj.1 (by omega)
theorem map_inj {α β:Type} {f:α → β} (hf:∀ a b,f a = f b → a = b):∀ {l l':List α},l.map f = l'.map f → l = l'
 | [],[],_ => rfl
 | [],_ :: _,h => by cases h
 | _ :: _,[],h => by cases h
 | a :: l,b :: l',h => by
  simp only [List.map_cons,List.cons.injEq] at h
  rw [hf _ _ h.1,map_inj hf h.2]
theorem bytes_inj {a b:List UInt8} (h:a.map byteD = b.map byteD):a = b := map_inj (fun _ _ => byteD_inj) h
theorem digD_inj {a b:Dig} (h:digD a = digD b):a = b := by
 simp only [digD,digC,D.agg.injEq] at h
 exact Dig.ext' (bytes_inj h)
theorem digC_inj {a b:Dig} (h:digC a = digC b):a = b := Dig.ext' (bytes_inj h)
theorem digC_all {p:D → Bool} (hp:∀ b,p (byteD b) = true) (d:Dig):(digC d).all p = true := by
 simp only [digC,List.all_eq_true,List.mem_map]
 rintro x ⟨b,_,rfl⟩
 exact hp b
theorem digC_cells (d:Dig):(digC d).all D.isCell = true := digC_all (fun _ => rfl) d
theorem digC_solid (d:Dig):(digC d).all solid1 = true := digC_all (fun _ => rfl) d
theorem digD_solid (d:Dig):solid (digD d) = true := digC_solid d
theorem digD_cells (d:Dig):(digD d).cells = digC d := (rfl)
theorem digD_noRef (d:Dig):(digD d).noRef = true := digC_all (fun _ => rfl) d
theorem mk_dig (d:Dig):D.mk true (digC d) = digD d := (rfl)
theorem mk_cons (x:D) (l:List D):D.mk true (x :: l) = .agg (x :: l) := (rfl)
theorem mk_one (x:D) (l:List D):D.mk false (x :: l) = x := (rfl)
theorem agg_dig (d:Dig):D.agg (digC d) = digD d := (rfl)
theorem zero_dig:[D.int .u8 0,.int .u8 0,.int .u8 0,.int .u8 0,.int .u8 0,.int .u8 0,.int .u8 0,.int .u8 0,.int .u8 0,.int .u8 0,.int .u8 0,.int .u8 0,.int .u8 0,.int .u8 0,.int .u8 0,.int .u8 0,.int .u8 0,.int .u8 0,.int .u8 0,.int .u8 0,.int .u8 0,.int .u8 0,.int .u8 0,.int .u8 0,.int .u8 0,.int .u8 0,.int .u8 0,.int .u8 0,.int .u8 0,.int .u8 0,.int .u8 0,.int .u8 0] = digC zeroDig := (rfl)
theorem take_dig (d:Dig):(digC d).take 32 = digC d := List.take_of_length_le (by rw [digC_length]; exact Nat.le_refl _)
theorem renL_solid (n:Nat) (σ:List Nat):∀ {l:List D},l.all solid1 = true → l.map (ren1 n σ) = l
 | [],_ => rfl
 | d :: l,h => by
  simp only [List.all_cons,Bool.and_eq_true] at h
  simp only [List.map_cons,solid1_ren n σ h.1,renL_solid n σ h.2]
theorem ren_dig (n:Nat) (σ:List Nat) (d:Dig):(digC d).map (ren1 n σ) = digC d := renL_solid n σ (digC_solid d)
theorem hkL_solid:∀ {l:List D},l.all solid1 = true → l.flatMap hk1 = []
 | [],_ => rfl
 | d :: l,h => by
  simp only [List.all_cons,Bool.and_eq_true] at h
  simp only [List.flatMap_cons,solid1_hk h.1,hkL_solid h.2,List.append_nil]
theorem hk_digC (d:Dig):(digC d).flatMap hk1 = [] := hkL_solid (digC_solid d)
theorem solid1_solid {d:D} (h:solid1 d = true):solid d = true := by
 cases d with
 | agg l => simp [solid1] at h
 | _ => exact h
theorem renB_solid (n:Nat) (σ:List Nat):∀ {l:List D},l.all solid1 = true → l.map (ren n σ) = l
 | [],_ => rfl
 | d :: l,h => by
  simp only [List.all_cons,Bool.and_eq_true] at h
  simp only [List.map_cons,solid_ren n σ (solid1_solid h.1),renB_solid n σ h.2]
theorem hkB_solid:∀ {l:List D},l.all solid1 = true → l.flatMap hk = []
 | [],_ => rfl
 | d :: l,h => by
  simp only [List.all_cons,Bool.and_eq_true] at h
  simp only [List.flatMap_cons,solid_hk (solid1_solid h.1),hkB_solid h.2,List.append_nil]
theorem renB_dig (n:Nat) (σ:List Nat) (d:Dig):(digC d).map (ren n σ) = digC d := renB_solid n σ (digC_solid d)
theorem hkB_digC (d:Dig):(digC d).flatMap hk = [] := hkB_solid (digC_solid d)
theorem imm_dig (st:St) (d:Dig):imm st (digD d) = some (digD d) := solid_imm st (digD_solid d)
theorem keys_dig (d:Dig):keys (digD d) = [] := solid_keys (digD_solid d)
theorem hk_dig (d:Dig):hk (digD d) = [] := solid_hk (digD_solid d)
theorem ren_digD (n:Nat) (σ:List Nat) (d:Dig):ren n σ (digD d) = digD d := solid_ren n σ (digD_solid d)
theorem box_dig (d:Dig):boxD (digD d) = some (digC d) := by
 simp only [boxD,digD_cells,digC_cells,if_true]
theorem flatEq_bytes:∀ (n:Nat) (a b:List UInt8),a.length = n → b.length = n → flatEq (List.replicate n 0) (a.map byteD) (b.map byteD) = some (decide (a = b))
 | 0,[],[],_,_ => rfl
 | 0,_ :: _,_,h,_ => by cases h
 | 0,[],_ :: _,_,h => by cases h
 | n + 1,[],_,h,_ => by cases h
 | n + 1,_ :: _,[],_,h => by cases h
 | n + 1,a :: l,b :: l',h,h' => by
  simp only [List.length_cons,Nat.add_right_cancel_iff] at h h'
  simp only [List.replicate_succ,List.map_cons,flatEq,flatEq_bytes n l l' h h']
  simp only [flatEq1,byteD,if_true]
  congr 1
  by_cases e:a = b
  ·subst e; simp
  ·have:¬ ((a.toNat:Int) = (b.toNat:Int)) := fun h => e (UInt8.toNat_inj.1 (by omega))
   simp [e,this]
theorem flatEq_dig (a b:Dig):flatEq (List.replicate 32 0) (digC a) (digC b) = some (decide (a = b)) := by
 rw [digC,digC,flatEq_bytes 32 a.bs b.bs a.len b.len]
 congr 1
 by_cases e:a = b
 ·subst e; simp
 ·have e2:¬ a.bs = b.bs := fun h => e (Dig.ext' h)
  simp [e,e2]
theorem aeq_dig (neg:Bool) (a b:Dig):paeq [0,0,0,0,0,0,0,0,0,0,0,0,0,0,0,0,0,0,0,0,0,0,0,0,0,0,0,0,0,0,0,0] neg (digD a) (digD b) = some (.bool (decide (a = b) != neg)) := by
 show (flatEq (List.replicate 32 0) (digC a) (digC b)).map _ = _
 rw [flatEq_dig]; rfl
theorem getElem?_getD {α:Type} [Inhabited α] (l:List α) (i:Nat) (h:i < l.length):l[i]? = some (l.getD i default) := by
 simp [List.getD_eq_getElem?_getD,h]
theorem take_getD {α:Type} [Inhabited α] (l:List α) (i:Nat) (h:i < l.length):l.take (i + 1) = l.take i ++ [l.getD i default] := by
 rw [List.take_add_one,getElem?_getD l i h]; rfl
theorem drop_getD {α:Type} [Inhabited α] (l:List α) (i:Nat) (h:i < l.length):l.drop i = l.getD i default :: l.drop (i + 1) := by
 rw [List.drop_eq_getElem_cons h]
 simp [List.getD_eq_getElem?_getD,h]
theorem splice_all (l xs:List D) (h:l.length = xs.length):splice l 0 xs = xs := by
 simp [splice,h]
theorem splice_dig (a b:Dig):splice (digC a) 0 (digC b) = digC b := splice_all _ _ (by rw [digC_length,digC_length])
theorem splice_cons (x:D) (l ys:List D) (n:Nat):splice (x :: l) (n + 1) ys = x :: splice l n ys := by
 simp [splice,Nat.add_right_comm]
def ldO (o:Option Obj) (n:Nat) (ag:Bool) (off:Nat):Option D := if !ag && n != 1 then none else o.bind fun o => if !o.row && decide (off + n ≤ o.els.length) then some (.mk ag ((o.els.drop off).take n)) else none
def stO (o:Option Obj) (n:Nat) (off:Nat) (x:D):Option Obj := o.bind fun o => if !o.row && !o.lent && decide (off + n ≤ o.els.length) && x.cells.length == n && x.cells.all D.isCell then some { o with els := splice o.els off x.cells } else none
theorem pload_ptr (st:St) (n:Nat) (ag:Bool) (key off:Nat):pload st n ag (.ptr key off) = ldO st[key]? n ag off := by
 simp only [pload,ldO]
 split
 ·rfl
 ·cases st[key]? <;> rfl
theorem pstor_ptr (st:St) (n:Nat) (key off:Nat) (x:D):pstor st n (.ptr key off) x = (stO st[key]? n off x).map fun o => st.set key o := by
 simp only [pstor,stO]
 cases st[key]? with
 | none => rfl
 | some o =>
  simp only [Option.bind_some]
  split <;> simp_all
section
variable {α:Type} (sz:Nat) (lent:Bool)
theorem ldO_one (x:D) (l:List D):ldO (some ⟨false,sz,x :: l,lent⟩) 1 false 0 = some x := by
 simp [ldO,D.mk]
theorem ldO_succ (x:D) (l:List D) (n:Nat) (ag:Bool) (off:Nat):ldO (some ⟨false,sz,x :: l,lent⟩) n ag (off + 1) = ldO (some ⟨false,sz,l,lent⟩) n ag off := by
 simp only [ldO,Option.bind_some,List.drop_succ_cons,List.length_cons]
 have:decide (off + 1 + n ≤ l.length + 1) = decide (off + n ≤ l.length) := by
  apply decide_eq_decide.2; omega
 rw [this]
theorem ldO_dig (d:Dig):ldO (some ⟨false,sz,digC d,lent⟩) 32 true 0 = some (digD d) := by
 simp [ldO,digC_length,take_dig,mk_dig]
theorem ldO_commit (x:D) (d:Dig):ldO (some ⟨false,sz,x :: digC d,lent⟩) 33 true 0 = some (.agg (x :: digC d)) := by
 simp [ldO,digC_length,take_dig,D.mk]
theorem ldO_map {α:Type} [Inhabited α] (f:α → D) (ws:List α) (i:Nat) (h:i < ws.length):ldO (some ⟨false,sz,ws.map f,lent⟩) 1 false i = some (f (ws.getD i default)) := by
 have h2:i + 1 ≤ ws.length := h
 have:(ws.map f).drop i = f (ws.getD i default) :: (ws.map f).drop (i + 1) := by
  rw [← List.map_drop,drop_getD ws i h,List.map_cons,List.map_drop]
 simp [ldO,this,D.mk,h2]
theorem ldO_all (cs:List D) (n:Nat) (h:cs.length = n):ldO (some ⟨false,sz,cs,lent⟩) n true 0 = some (.agg cs) := by
 subst h; simp [ldO,D.mk]
theorem ldO_mapall {α:Type} (f:α → D) (ws:List α) (n:Nat) (h:ws.length = n):ldO (some ⟨false,sz,ws.map f,lent⟩) n true 0 = some (.agg (ws.map f)) :=
 ldO_all sz lent _ n (by simpa using h)
theorem stO_one (x v:D) (l:List D) (hv:v.isCell = true):stO (some ⟨false,sz,x :: l,false⟩) 1 0 v = some ⟨false,sz,v :: l,false⟩ := by
 simp [stO,isCell_cells hv,hv,splice]
theorem stO_int (x:D) (k:IntKind) (n:Int) (l:List D):stO (some ⟨false,sz,x :: l,false⟩) 1 0 (.int k n) = some ⟨false,sz,.int k n :: l,false⟩ := stO_one sz _ _ _ rfl
theorem stO_bool (x:D) (b:Bool) (l:List D):stO (some ⟨false,sz,x :: l,false⟩) 1 0 (.bool b) = some ⟨false,sz,.bool b :: l,false⟩ := stO_one sz _ _ _ rfl
theorem stO_str (x:D) (s:List UInt8) (l:List D):stO (some ⟨false,sz,x :: l,false⟩) 1 0 (.str s) = some ⟨false,sz,.str s :: l,false⟩ := stO_one sz _ _ _ rfl
theorem stO_slc (x:D) (z:Nat) (els:List D) (t:Bool) (l:List D):stO (some ⟨false,sz,x :: l,false⟩) 1 0 (.slc z els t) = some ⟨false,sz,.slc z els t :: l,false⟩ := stO_one sz _ _ _ rfl
theorem stO_row (x:D) (key tot off len:Nat) (l:List D):stO (some ⟨false,sz,x :: l,false⟩) 1 0 (.row key tot off len) = some ⟨false,sz,.row key tot off len :: l,false⟩ := stO_one sz _ _ _ rfl
theorem stO_succ (x v:D) (l:List D) (n off:Nat):stO (some ⟨false,sz,x :: l,false⟩) n (off + 1) v = (stO (some ⟨false,sz,l,false⟩) n off v).map fun o => { o with els := x :: o.els } := by
 simp only [stO,Option.bind_some,List.length_cons,splice_cons]
 have:decide (off + 1 + n ≤ l.length + 1) = decide (off + n ≤ l.length) := by
  apply decide_eq_decide.2; omega
 rw [this]
 split <;> rfl
theorem stO_dig (d e:Dig):stO (some ⟨false,sz,digC d,false⟩) 32 0 (digD e) = some ⟨false,sz,digC e,false⟩ := by
 simp [stO,digC_length,digD_cells,digC_cells,splice_dig]
theorem stO_all (cs ds:List D) (n:Nat) (h:cs.length = n) (h':ds.length = n) (hc:ds.all D.isCell = true):stO (some ⟨false,sz,cs,false⟩) n 0 (.agg ds) = some ⟨false,sz,ds,false⟩ := by
 subst h
 simp [stO,D.cells,h',hc,splice_all _ _ h'.symm]
theorem stO_commit (x:D) (k:IntKind) (m:Int) (d e:Dig):stO (some ⟨false,sz,x :: digC d,false⟩) 33 0 (.agg (.int k m :: digC e)) = some ⟨false,sz,.int k m :: digC e,false⟩ :=
 stO_all sz _ _ 33 (by simp [digC_length]) (by simp [digC_length]) (by simp [digC_cells,D.isCell])
theorem stO_set (f:α → D) (hf:∀ a,(f a).isCell = true) (ws:List α) (i:Nat) (v:α) (h:i < ws.length):stO (some ⟨false,sz,ws.map f,false⟩) 1 i (f v) = some ⟨false,sz,(ws.set i v).map f,false⟩ := by
 have h2:i + 1 ≤ ws.length := h
 have h3:splice (ws.map f) i [f v] = (ws.set i v).map f := by
  rw [List.map_set,splice,List.set_eq_take_append_cons_drop]
  simp [h]
 simp [stO,isCell_cells (hf v),hf v,h2,h3]
theorem stO_setb (ws:List UInt8) (i:Nat) (v:UInt8) (h:i < ws.length):stO (some ⟨false,sz,ws.map byteD,false⟩) 1 i (byteD v) = some ⟨false,sz,(ws.set i v).map byteD,false⟩ := stO_set sz byteD (fun _ => rfl) ws i v h
theorem stO_setw (ws:List UInt32) (i:Nat) (v:UInt32) (h:i < ws.length):stO (some ⟨false,sz,ws.map wD,false⟩) 1 i (wD v) = some ⟨false,sz,(ws.set i v).map wD,false⟩ := stO_set sz wD (fun _ => rfl) ws i v h
theorem map_cells {α:Type} (f:α → D) (hf:∀ a,(f a).isCell = true) (ws:List α):(ws.map f).all D.isCell = true := by
 simp only [List.all_eq_true,List.mem_map]
 rintro x ⟨a,_,rfl⟩
 exact hf a
theorem stO_allw (ws vs:List UInt32) (n:Nat) (h:ws.length = n) (h':vs.length = n):stO (some ⟨false,sz,ws.map wD,false⟩) n 0 (.agg (vs.map wD)) = some ⟨false,sz,vs.map wD,false⟩ :=
 stO_all sz _ _ n (by simpa using h) (by simpa using h') (map_cells wD (fun _ => rfl) vs)
theorem stO_allb (ws vs:List UInt8) (n:Nat) (h:ws.length = n) (h':vs.length = n):stO (some ⟨false,sz,ws.map byteD,false⟩) n 0 (.agg (vs.map byteD)) = some ⟨false,sz,vs.map byteD,false⟩ :=
 stO_all sz _ _ n (by simpa using h) (by simpa using h') (map_cells byteD (fun _ => rfl) vs)
end
theorem pload_rptr (st:St) (n:Nat) (ag:Bool) (key tot i off:Nat):pload st n ag (.rptr key tot i off) = if !ag && n != 1 then none else (st[key]?).bind fun o => if o.row && o.els.length == tot then (o.els[i]?).bind fun el => if off + n ≤ el.cells.length then some (.mk ag ((el.cells.drop off).take n)) else none else none := by
 simp only [pload]
 split
 ·rfl
 ·cases st[key]? with
  | none => rfl
  | some o =>
   simp only [Option.bind_some]
   split
   ·cases o.els[i]? <;> rfl
   ·rfl
theorem pload_edig (st:St) (d:Dig):pload st 32 true (.eptr (digD d) 0) = some (digD d) := by
 simp [pload,digD_cells,digC_length,take_dig,mk_dig]
theorem natOf_int (k:IntKind) (n:Int) (h:0 ≤ n):natOf (.int k n) = some n.toNat := by simp [natOf,h]
theorem idxA_ptr (st:St) (n key off:Nat) (k:IntKind) (i:Int) (h0:0 ≤ i) (h1:i < (n:Int)):pidxA st n 1 (.ptr key off) (.int k i) = some (.ptr key (off + i.toNat)) := by
 have h2:i.toNat < n := by omega
 simp [pidxA,natOf_int k i h0,h2,pfld]
theorem idxA_eptr (st:St) (n off:Nat) (el:D) (k:IntKind) (i:Int) (h0:0 ≤ i) (h1:i < (n:Int)):pidxA st n 1 (.eptr el off) (.int k i) = some (.eptr el (off + i.toNat)) := by
 have h2:i.toNat < n := by omega
 simp [pidxA,natOf_int k i h0,h2,pfld]
theorem pload_emap {α:Type} [Inhabited α] (st:St) (f:α → D) (ws:List α) (i:Nat) (h:i < ws.length):pload st 1 false (.eptr (.agg (ws.map f)) i) = some (f (ws.getD i default)) := by
 have := ldO_map 1 false f ws i h
 simpa [pload,ldO,D.cells] using this
theorem pload_e1 (st:St) (x:D) (h:x.isCell = true):pload st 1 false (.eptr x 0) = some x := by
 simp [pload,isCell_cells h,D.mk]
theorem pload_ebyte (st:St) (b:UInt8):pload st 1 false (.eptr (byteD b) 0) = some (byteD b) := pload_e1 st _ rfl
theorem pload_eint (st:St) (k:IntKind) (n:Int):pload st 1 false (.eptr (.int k n) 0) = some (.int k n) := pload_e1 st _ rfl
theorem pload_eslc (st:St) (sz:Nat) (els:List D) (t:Bool):pload st 1 false (.eptr (.slc sz els t) 0) = some (.slc sz els t) := pload_e1 st _ rfl
theorem pload_estr (st:St) (s:List UInt8):pload st 1 false (.eptr (.str s) 0) = some (.str s) := pload_e1 st _ rfl
theorem idxS_slc {α:Type} [Inhabited α] (st:St) (sz:Nat) (f:α → D) (l:List α) (t:Bool) (k:IntKind) (i:Int) (h0:0 ≤ i) (h1:i < (l.length:Int)) :
  pidxS st sz (.slc sz (l.map f) t) (.int k i) = some (.eptr (f (l.getD i.toNat default)) 0) := by
 have h2:i.toNat < l.length := by omega
 simp only [pidxS,natOf_int k i h0,List.getElem?_map,getElem?_getD l i.toNat h2,Option.map_some,beq_self_eq_true,if_true]
theorem lenD_slc (st:St) (sz:Nat) (els:List D) (t:Bool):lenD st false (.slc sz els t) = some (.int .i64 (els.length:Int)) := (rfl)
theorem lenD_str (st:St) (s:List UInt8):lenD st true (.str s) = some (.int .i64 (s.length:Int)) := (rfl)
theorem lenD_row (st:St) (key tot off len:Nat):lenD st false (.row key tot off len) = if live st key tot then some (.int .i64 (len:Int)) else none := by
 simp only [lenD,isStr,sLen,beq_self_eq_true,if_true]
 cases live st key tot <;> rfl
theorem papp_row (st:St) (sz bytes key tot:Nat) (x:D) (o:Obj) (xs:List D) (szx:Nat) (ho:st[key]? = some o) (hr:o.row = true) (hz:o.sz = sz) (ht:o.els.length = tot)
  (hx:elsOf st x = some (szx,xs)) (hs:szx = sz ∨ xs = []) (h0:sz ≠ 0) (hb:(tot + xs.length) * bytes ≤ 140737488355328) (hl:tot + xs.length ≤ 4294967296) :
  papp st sz bytes (.row key tot 0 tot) x = some (.row key (tot + xs.length) 0 (tot + xs.length),st.set key { o with els := o.els ++ xs }) := by
 have e:(!(szx == sz || xs.isEmpty) || sz == 0) = false := by
  rcases hs with h | h <;> simp [h,h0]
 simp only [papp,hx,e,ho,hr,hz,ht,hb,hl,beq_self_eq_true,Bool.and_self,decide_true,if_true,Bool.false_eq_true,if_false]
theorem papp_new (st:St) (sz bytes sz':Nat) (els:List D) (x:D) (xs:List D) (szx:Nat) (hx:elsOf st x = some (szx,xs)) (hs:szx = sz ∨ xs = []) (hs':sz' = sz ∨ els = []) (h0:sz ≠ 0) (hne:xs ≠ [])
  (hb:(els.length + xs.length) * bytes ≤ 140737488355328) (hl:els.length + xs.length ≤ 4294967296) :
  papp st sz bytes (.slc sz' els true) x = some (.row st.length (els.length + xs.length) 0 (els.length + xs.length),st ++ [{ row := true,sz,els := els ++ xs,lent := false }]) := by
 have e2:xs.isEmpty = false := by cases xs <;> simp_all
 have e:(!(szx == sz || false) || sz == 0) = false := by
  rcases hs with h | h
  ·simp [h,h0]
  ·exact absurd h hne
 have e3:(sz' == sz || els.isEmpty) = true := by
  rcases hs' with h | h <;> simp [h]
 simp only [papp,hx,e,e2,e3,hb,hl,Bool.and_self,decide_true,if_true,Bool.false_eq_true,if_false]
theorem papp_nil (st:St) (sz bytes sz':Nat) (els:List D) (x:D) (szx:Nat) (hx:elsOf st x = some (szx,[])) (h0:sz ≠ 0) :
  papp st sz bytes (.slc sz' els true) x = some (.slc sz' els true,st) := by
 simp [papp,hx,h0]
theorem chunk_bytes:∀ (l:List D),chunk 1 false l l.length = l
 | [] => rfl
 | a :: l => by simp [chunk,D.mk,chunk_bytes l]
def bufD (sz key:Nat) (els:List D):D := if els.isEmpty then .slc sz [] true else .row key els.length 0 els.length
def bufS (sz:Nat) (els:List D):St := if els.isEmpty then [] else [{ row := true,sz,els,lent := false }]
theorem bufD_nil (sz key:Nat):bufD sz key [] = .slc sz [] true := (rfl)
theorem papp_buf (st:St) (sz sz0 bytes:Nat) (els xs:List D) (x:D) (szx:Nat) (hx:elsOf (st ++ bufS sz els) x = some (szx,xs)) (hs:szx = sz ∨ xs = []) (hs0:sz ≠ 0)
  (hb:(els.length + xs.length) * bytes ≤ 140737488355328) (hl:els.length + xs.length ≤ 4294967296) :
  papp (st ++ bufS sz els) sz bytes (bufD sz0 st.length els) x = some (bufD sz0 st.length (els ++ xs),st ++ bufS sz (els ++ xs)) := by
 cases els with
 | nil =>
  cases xs with
  | nil =>
   rw [bufD_nil,papp_nil _ _ _ _ _ _ szx hx hs0]
   rfl
  | cons a l =>
   rw [bufD_nil,papp_new _ _ _ _ _ _ (a :: l) szx hx hs (.inr rfl) hs0 (by simp) (by simpa using hb) (by simpa using hl)]
   simp [bufD,bufS]
 | cons e r =>
  have hg:(st ++ bufS sz (e :: r))[st.length]? = some { row := true,sz,els := e :: r,lent := false } := by simp [bufS]
  have := papp_row (st ++ bufS sz (e :: r)) sz bytes st.length (e :: r).length x _ xs szx hg rfl rfl rfl hx hs hs0 hb hl
  simp only [bufD,List.isEmpty_cons,Bool.false_eq_true,if_false,List.cons_append] at this ⊢
  rw [this]
  simp [bufS,Nat.add_right_comm]
end Go.Proofs.YtlleccmnjpcogaaDoor.PI
