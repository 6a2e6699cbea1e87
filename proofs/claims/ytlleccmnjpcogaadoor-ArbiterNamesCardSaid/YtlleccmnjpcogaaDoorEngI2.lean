/-
  Integers: what the pure operations do within their bounds.
  Conditions: none; these are lemmas.
-/
import Derived.Test.YtlleccmnjpcogaaDoorEngV
set_option linter.unusedVariables false
set_option linter.unusedSimpArgs false
namespace Go.Proofs.YtlleccmnjpcogaaDoor.PI
open Go
theorem min_bits {n:Int} (h:n ≤ 64):min n.toNat 64 = n.toNat := by omega
theorem shr_i {k k':IntKind} {x n:Int} (hk:k = .i64 ∨ k = .u64) (h0:0 ≤ n) (h1:n ≤ 64):pbin .shr (.int k x) (.int k' n) = some (.int k (x / 2 ^ n.toNat)) := by
 have hb:k.bits = 64 := by rcases hk with rfl | rfl <;> rfl
 simp only [pbin,ishift,show ¬ n < 0 by omega,if_false,Option.map_some,hb,min_bits h1]
 rw [Int.fdiv_eq_ediv_of_nonneg _ (Int.pow_nonneg (by decide))]
theorem shr_u {k':IntKind} {x n:Int} (h0:0 ≤ n) (h1:n ≤ 64):pbin .shr (.int .u64 x) (.int k' n) = some (.int .u64 (x / 2 ^ n.toNat)) := shr_i (.inr rfl) h0 h1
theorem quo_i {a b:Int} (hb:0 < b) (ha:0 ≤ a) (h2:a < 9223372036854775808):pbin .quo (.int .i64 a) (.int .i64 b) = some (.int .i64 (a / b)) := by
 have h3:a.tdiv b = a / b := Int.tdiv_eq_ediv_of_nonneg ha
 have h4:a / b ≤ a := Int.ediv_le_self b ha
 have h5:0 ≤ a / b := Int.ediv_nonneg ha (by omega)
 simp only [pbin,if_true,iarith,show ¬ b = 0 by omega,if_false,Option.map_some,h3,wrap_i64 (show -9223372036854775808 ≤ a / b by omega) (show a / b < 9223372036854775808 by omega)]
theorem rem_i {a b:Int} (hb:0 < b) (ha:0 ≤ a):pbin .rem (.int .i64 a) (.int .i64 b) = some (.int .i64 (a % b)) := by
 have h3:a.tmod b = a % b := Int.tmod_eq_emod_of_nonneg ha
 simp only [pbin,if_true,iarith,show ¬ b = 0 by omega,if_false,Option.map_some,h3]
theorem toNat_ofInt {a:Int} (h0:0 ≤ a) (h1:a < 9223372036854775808):(BitVec.ofInt 64 a).toNat = a.toNat := by
 rw [BitVec.toNat_ofInt]
 omega
theorem conv_iu (st:St) {a:Int} (h0:0 ≤ a) (h1:a < 9223372036854775808):pconv st (.int .u64) (.int .i64 a) = some (.int .u64 a) := by
 obtain ⟨n,rfl⟩ := Int.eq_ofNat_of_zero_le h0
 simp only [pconv,wrap_u64]
 congr 2
 have:n % 2 ^ 64 = n := Nat.mod_eq_of_lt (by omega)
 rw [this]
theorem conv_ui (st:St) {k:IntKind} {a:Int} (h0:0 ≤ a) (h1:a < 9223372036854775808):pconv st (.int .i64) (.int k a) = some (.int .i64 a) := by
 simp only [pconv,wrap_i64 (show -9223372036854775808 ≤ a by omega) h1]
theorem conv_ub (st:St) {k:IntKind} {a:Int} (h0:0 ≤ a):pconv st (.int .u8) (.int k a) = some (byteD (UInt8.ofNat a.toNat)) := by
 obtain ⟨n,rfl⟩ := Int.eq_ofNat_of_zero_le h0
 simp only [pconv,wrap_u8,byteD]
 congr 2
theorem pslice_str {s:List UInt8} {st:St} {k:IntKind} {h:Int} (h0:0 ≤ h) (h1:h ≤ (s.length:Int)):pslice st 0 (.str s) none (some (.int k h)) none = some (.str (s.take h.toNat)) := by
 simp [pslice,bnd,natOf_int k h h0]
 omega
theorem byteD_imm (st:St) (b:UInt8):imm st (byteD b) = some (byteD b) := (rfl)
theorem byteD_keys (b:UInt8):keys (byteD b) = [] := (rfl)
theorem byteD_hk (b:UInt8):hk (byteD b) = [] := (rfl)
theorem byteD_ren (n:Nat) (σ:List Nat) (b:UInt8):ren n σ (byteD b) = byteD b := (rfl)
theorem byteD_cells (b:UInt8):(byteD b).cells = [byteD b] := (rfl)
theorem byteD_isCell (b:UInt8):(byteD b).isCell = true := (rfl)
theorem byteD_noRef (b:UInt8):(byteD b).noRef = true := (rfl)
theorem byteD_box (b:UInt8):boxD (byteD b) = some [byteD b] := (rfl)
theorem byte_eql (a b:UInt8):pbin .eql (byteD a) (byteD b) = some (.bool (decide (a = b))) := by
 simp only [byteD,bin_eql]
 congr 2
 by_cases h:a = b
 ·subst h; simp
 ·have:¬ ((a.toNat:Int) = (b.toNat:Int)) := fun e => h (UInt8.toNat_inj.1 (by omega))
  simp [h,this]
theorem litD_one_byte (b:UInt8):litD 1 [byteD b] = some (.slc 1 [byteD b] true) := (rfl)
theorem litD_one_dig (d:Dig):litD 32 [digD d] = some (.slc 32 [digD d] true) := by
 simp [litD,digD_cells,digC_length]
theorem conv_bytes (st:St) (s:List UInt8):pconv st .bytes (.str s) = some (.slc 1 (s.map byteD) false) := (rfl)
theorem litD_slc1 (a:Nat) (l:List D) (t:Bool):litD 1 [.slc a l t] = some (.slc 1 [.slc a l t] true) := (rfl)
theorem litD_slc2 (a b:Nat) (l m:List D) (t u:Bool):litD 1 [.slc a l t,.slc b m u] = some (.slc 1 [.slc a l t,.slc b m u] true) := (rfl)
theorem litD_slc3 (a b c:Nat) (l m n:List D) (t u v:Bool):litD 1 [.slc a l t,.slc b m u,.slc c n v] = some (.slc 1 [.slc a l t,.slc b m u,.slc c n v] true) := (rfl)
theorem litD_nil1:litD 1 [] = some (.slc 1 [] true) := (rfl)
theorem litD_nil32:litD 32 [] = some (.slc 32 [] true) := (rfl)
theorem box_commit (k:IntKind) (n:Int) (d:Dig):boxD (.agg (.int k n :: digC d)) = some (.int k n :: digC d) := by
 simp [boxD,D.cells,digC_cells,D.isCell]
theorem commit_noRef (k:IntKind) (n:Int) (d:Dig):(D.agg (.int k n :: digC d)).noRef = true := by
 have := digD_noRef d
 simp only [digD,D.noRef] at this
 simp [D.noRef,D.noRef1,this]
theorem imm_commit (st:St) (k:IntKind) (n:Int) (d:Dig):imm st (.agg (.int k n :: digC d)) = some (.agg (.int k n :: digC d)) := solid_imm st (by simp [solid,solid1,digC_solid])
theorem keys_commit (k:IntKind) (n:Int) (d:Dig):keys (.agg (.int k n :: digC d)) = [] := solid_keys (by simp [solid,solid1,digC_solid])
theorem flatEq_cons (q:Nat) (qs:List Nat) (x y:D) (xs ys:List D):flatEq (q :: qs) (x :: xs) (y :: ys) = match flatEq1 q x y,flatEq qs xs ys with | some a,some b => some (a && b) | _,_ => none := (rfl)
theorem aeq_commit (neg:Bool) (k:IntKind) (m n:Int) (a b:Dig):paeq [0,0,0,0,0,0,0,0,0,0,0,0,0,0,0,0,0,0,0,0,0,0,0,0,0,0,0,0,0,0,0,0,0] neg (.agg (.int k m :: digC a)) (.agg (.int k n :: digC b)) = some (.bool ((decide (m = n) && decide (a = b)) != neg)) := by
 show (flatEq (0 :: List.replicate 32 0) _ _).map _ = _
 rw [flatEq_cons,flatEq_dig]
 simp only [flatEq1,if_true,Option.map_some]
 have:(m == n) = decide (m = n) := by
  by_cases h:m = n <;> simp [h]
 rw [this]
theorem fill_commit (k k':IntKind) (n m:Int) (z d:Dig):fillD (.int k n :: digC z) [(0,1,.int k' m),(1,32,digD d)] = some (.int k' m :: digC d) := by
 have h1:splice (.int k n :: digC z) 0 [.int k' m] = .int k' m :: digC z := rfl
 have h2:splice (.int k' m :: digC z) 1 (digC d) = .int k' m :: digC d := by
  rw [show (1:Nat) = 0 + 1 from rfl,splice_cons,splice_dig]
 have h3:(digC d).length = 32 := digC_length d
 have h4:(digC z).length = 32 := digC_length z
 simp only [fillD,digD_cells,digC_cells,h3]
 have e1:(D.int k' m).cells = [.int k' m] := rfl
 have e2:(([D.int k' m].length == 1) && decide (0 + 1 ≤ (D.int k n :: digC z).length) && [D.int k' m].all D.isCell) = true := by simp [D.isCell]
 rw [e1,e2]
 simp only [if_true,h1,h2,List.length_cons,h4]
 rfl
attribute [push_cast] box_commit commit_noRef imm_commit keys_commit aeq_commit fill_commit
theorem imm1_int (st:St) (k:IntKind) (n:Int):imm1 st (.int k n) = some (.int k n) := (rfl)
theorem imm1_bool (st:St) (b:Bool):imm1 st (.bool b) = some (.bool b) := (rfl)
theorem imm1_str (st:St) (s:List UInt8):imm1 st (.str s) = some (.str s) := (rfl)
theorem imm1_slc (st:St) (sz:Nat) (els:List D) (t:Bool):imm1 st (.slc sz els t) = some (.slc (nz sz els) els false) := (rfl)
attribute [push_cast] imm1_int imm1_bool imm1_str imm1_slc Nat.zero_le
attribute [push_cast] litD_nil1 litD_nil32 conv_bytes litD_slc1 litD_slc2 litD_slc3
theorem map_solid {α:Type} (f:α → D) (hf:∀ a,solid1 (f a) = true) (l:List α):(l.map f).all solid1 = true := by
 simp only [List.all_eq_true,List.mem_map]
 rintro x ⟨a,_,rfl⟩
 exact hf a
theorem bytes_solid (l:List UInt8):(l.map byteD).all solid1 = true := map_solid byteD (fun _ => rfl) l
theorem words_solid (l:List UInt32):(l.map wD).all solid1 = true := map_solid wD (fun _ => rfl) l
theorem imm_words (st:St) (l:List UInt32):imm st (.agg (l.map wD)) = some (.agg (l.map wD)) := solid_imm st (words_solid l)
theorem immL_words (st:St) (l:List UInt32):immL st (l.map wD) = some (l.map wD) := solid1_immL st (words_solid l)
theorem immL_bytes (st:St) (l:List UInt8):immL st (l.map byteD) = some (l.map byteD) := solid1_immL st (bytes_solid l)
theorem keys_words (l:List UInt32):keys (.agg (l.map wD)) = [] := solid_keys (words_solid l)
theorem ren_words (n:Nat) (σ:List Nat) (l:List UInt32):(l.map wD).map (ren1 n σ) = l.map wD := renL_solid n σ (words_solid l)
theorem ren_bytes (n:Nat) (σ:List Nat) (l:List UInt8):(l.map byteD).map (ren1 n σ) = l.map byteD := renL_solid n σ (bytes_solid l)
theorem renB_words (n:Nat) (σ:List Nat) (l:List UInt32):(l.map wD).map (ren n σ) = l.map wD := renB_solid n σ (words_solid l)
theorem renB_bytes (n:Nat) (σ:List Nat) (l:List UInt8):(l.map byteD).map (ren n σ) = l.map byteD := renB_solid n σ (bytes_solid l)
theorem hkB_words (l:List UInt32):(l.map wD).flatMap hk = [] := hkB_solid (words_solid l)
theorem hkB_bytes (l:List UInt8):(l.map byteD).flatMap hk = [] := hkB_solid (bytes_solid l)
attribute [push_cast] renB_words renB_bytes hkB_words hkB_bytes
theorem hk_words (l:List UInt32):(l.map wD).flatMap hk1 = [] := hkL_solid (words_solid l)
theorem hk_bytes (l:List UInt8):(l.map byteD).flatMap hk1 = [] := hkL_solid (bytes_solid l)
theorem noRef_words (l:List UInt32):(D.agg (l.map wD)).noRef = true := by
 simp only [D.noRef,List.all_eq_true,List.mem_map]
 rintro x ⟨a,_,rfl⟩
 rfl
theorem box_words (l:List UInt32):boxD (.agg (l.map wD)) = some (l.map wD) := by
 simp only [boxD,D.cells,map_cells wD (fun _ => rfl),if_true]
theorem wD_inj {a b:UInt32} (h:wD a = wD b):a = b := by
 simp only [wD,D.int.injEq,true_and] at h
 exact UInt32.toNat_inj.1 (by omega)
theorem word_iff {a b:UInt32}:wD a = wD b ↔ a = b := ⟨wD_inj,fun h => by rw [h]⟩
theorem words_iff {a b:List UInt32}:a.map wD = b.map wD ↔ a = b := ⟨map_inj fun _ _ => wD_inj,fun h => by rw [h]⟩
theorem wD_imm (st:St) (b:UInt32):imm st (wD b) = some (wD b) := (rfl)
theorem wD_keys (b:UInt32):keys (wD b) = [] := (rfl)
theorem wD_noRef (b:UInt32):(wD b).noRef = true := (rfl)
theorem wD_hk (b:UInt32):hk (wD b) = [] := (rfl)
theorem wD_ren (n:Nat) (σ:List Nat) (b:UInt32):ren n σ (wD b) = wD b := (rfl)
def zW (n:Nat):List UInt32 := List.replicate n 0
theorem zW_length (n:Nat):(zW n).length = n := List.length_replicate
theorem zero_wc (n:Nat):D.int .u32 0 :: (zW n).map wD = (zW (n + 1)).map wD := (rfl)
theorem zero_w8:[D.int .u32 0,.int .u32 0,.int .u32 0,.int .u32 0,.int .u32 0,.int .u32 0,.int .u32 0,.int .u32 0] = (zW 8).map wD := (rfl)
theorem fill_cons {α:Type} (f:α → D) (hf:∀ a,(f a).isCell = true) (ws:List α) (i:Nat) (v:α) (r:List (Nat × Nat × D)) (h:i < ws.length):fillD (ws.map f) ((i,1,f v) :: r) = fillD ((ws.set i v).map f) r := by
 have h2:i + 1 ≤ ws.length := h
 have h3:splice (ws.map f) i [f v] = (ws.set i v).map f := by
  rw [List.map_set,splice,List.set_eq_take_append_cons_drop]
  simp [h]
 simp [fillD,isCell_cells (hf v),hf v,h2,h3]
theorem fill_nil (cs:List D):fillD cs [] = some cs := (rfl)
theorem fill8 (a b c d e f g h:UInt32):fillD ((zW 8).map wD) [(0,1,wD a),(1,1,wD b),(2,1,wD c),(3,1,wD d),(4,1,wD e),(5,1,wD f),(6,1,wD g),(7,1,wD h)] = some ([a,b,c,d,e,f,g,h].map wD) := by
 have hf:∀ a,(wD a).isCell = true := fun _ => rfl
 rw [fill_cons wD hf _ _ _ _ (by simp [zW]),fill_cons wD hf _ _ _ _ (by simp [zW]),fill_cons wD hf _ _ _ _ (by simp [zW]),fill_cons wD hf _ _ _ _ (by simp [zW]),fill_cons wD hf _ _ _ _ (by simp [zW]),fill_cons wD hf _ _ _ _ (by simp [zW]),fill_cons wD hf _ _ _ _ (by simp [zW]),fill_cons wD hf _ _ _ _ (by simp [zW]),fill_nil]
 rfl
theorem shl_wi (x:UInt32) (k:IntKind) (z:Int) (h0:0 ≤ z) (h:z < 32):pbin .shl (wD x) (.int k z) = some (wD (x <<< UInt32.ofNat z.toNat)) := by
 obtain ⟨n,rfl⟩ := Int.eq_ofNat_of_zero_le h0
 exact shl_w x k n (by omega)
theorem shr_wi (x:UInt32) (k:IntKind) (z:Int) (h0:0 ≤ z) (h:z < 32):pbin .shr (wD x) (.int k z) = some (wD (x >>> UInt32.ofNat z.toNat)) := by
 obtain ⟨n,rfl⟩ := Int.eq_ofNat_of_zero_le h0
 exact shr_w x k n (by omega)
theorem shr_qi (x:UInt64) (k:IntKind) (z:Int) (h0:0 ≤ z) (h:z < 64):pbin .shr (qD x) (.int k z) = some (qD (x >>> UInt64.ofNat z.toNat)) := by
 obtain ⟨n,rfl⟩ := Int.eq_ofNat_of_zero_le h0
 exact shr_q x k n (by omega)
def bsD (s:List UInt8):D := .slc (nz 1 (s.map byteD)) (s.map byteD) false
theorem bsD_inj {a b:List UInt8} (h:bsD a = bsD b):a = b := by
 simp only [bsD,D.slc.injEq] at h
 exact bytes_inj h.2.1
theorem bsl_iff {a b:List (List UInt8)}:a.map bsD = b.map bsD ↔ a = b := ⟨map_inj fun _ _ => bsD_inj,fun h => by rw [h]⟩
theorem pload_ebs (st:St) (s:List UInt8):pload st 1 false (.eptr (bsD s) 0) = some (.slc (nz 1 (s.map byteD)) (s.map byteD) false) := pload_e1 st _ rfl
theorem stO_8 (sz:Nat) (x0 x1 x2 x3 x4 x5 x6 x7:D) (a b c d e f g h:UInt32):stO (some ⟨false,sz,[x0,x1,x2,x3,x4,x5,x6,x7],false⟩) 8 0 (.agg [wD a,wD b,wD c,wD d,wD e,wD f,wD g,wD h]) = some ⟨false,sz,[wD a,wD b,wD c,wD d,wD e,wD f,wD g,wD h],false⟩ := stO_all sz _ _ 8 rfl rfl rfl
attribute [push_cast] stO_8 imm_words immL_words immL_bytes keys_words ren_words ren_bytes hk_words hk_bytes noRef_words box_words wD_imm wD_keys wD_noRef wD_hk wD_ren zW_length zero_wc zero_w8 fill8 fill_nil pload_ebs
attribute [push_cast] byteD_imm byteD_keys byteD_hk byteD_ren byteD_cells byteD_isCell byteD_noRef byteD_box byte_eql litD_one_byte litD_one_dig
end Go.Proofs.YtlleccmnjpcogaaDoor.PI
