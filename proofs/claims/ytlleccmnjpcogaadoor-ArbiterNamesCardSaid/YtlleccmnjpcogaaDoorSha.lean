/-
  SHA-256 and tagged digests over lists of bytes, in plain Lean.
  Conditions: none; these are definitions and lemmas.
-/
import Derived.Test.YtlleccmnjpcogaaDoorEngLaw
import Derived.Test.YtlleccmnjpcogaaDoorEngV2
import Derived.Test.YtlleccmnjpcogaaDoorEngI2
import Derived.KernelRfl
set_option linter.unusedVariables false
set_option linter.unusedSimpArgs false
namespace Go.Proofs.YtlleccmnjpcogaaDoor.PI
open Go
set_option linter.unusedSimpArgs false
set_option linter.unusedVariables false
theorem splice_mid {A B C xs:List D} {off:Nat} (hA:A.length = off) (hB:B.length = xs.length):splice (A ++ (B ++ C)) off xs = A ++ (xs ++ C) := by
 subst hA
 rw [splice,List.take_append_of_le_length (Nat.le_refl _),List.take_length,← hB,List.drop_append,List.drop_eq_nil_of_le (by omega),List.nil_append,List.append_assoc]
 congr 2
 rw [show A.length + B.length - A.length = B.length by omega,List.drop_append,List.drop_length,Nat.sub_self]
 rfl
theorem take_mid {A B C:List D} {off n:Nat} (hA:A.length = off) (hB:B.length = n):((A ++ (B ++ C)).drop off).take n = B := by
 subst hA; subst hB
 rw [List.drop_append,List.drop_length,Nat.sub_self]
 simp
theorem ldO_mid {cs A B C:List D} {off n:Nat} {sz:Nat} {lent:Bool} (h:cs = A ++ (B ++ C)) (hA:A.length = off) (hB:B.length = n):ldO (some ⟨false,sz,cs,lent⟩) n true off = some (.agg B) := by
 subst h
 simp only [ldO,Option.bind_some,take_mid hA hB,Bool.not_true,Bool.false_and,Bool.false_eq_true,if_false,Bool.not_false,Bool.true_and]
 rw [if_pos (by simp [hA,hB])]
 rfl
theorem ldO_mid1 {cs A C:List D} {d:D} {off:Nat} {sz:Nat} {lent:Bool} (h:cs = A ++ (d :: C)) (hA:A.length = off):ldO (some ⟨false,sz,cs,lent⟩) 1 false off = some d := by
 subst h
 have := take_mid (A := A) (B := [d]) (C := C) (off := off) (n := 1) hA rfl
 simp only [List.cons_append,List.nil_append] at this
 simp only [ldO,Option.bind_some,this,Bool.not_false,Bool.true_and,bne_self_eq_false,Bool.false_eq_true,if_false]
 rw [if_pos (by simp [hA])]
 rfl
theorem stO_mid {cs cs' A B C xs:List D} {off n:Nat} {sz:Nat} {v:D} (h:cs = A ++ (B ++ C)) (h':cs' = A ++ (xs ++ C)) (hA:A.length = off) (hB:B.length = n) (hv:v.cells = xs) (hx:xs.length = n) (hc:xs.all D.isCell = true) :
  stO (some ⟨false,sz,cs,false⟩) n off v = some ⟨false,sz,cs',false⟩ := by
 subst h; subst h'
 simp only [stO,Option.bind_some,hv,hc,splice_mid hA (hB.trans hx.symm)]
 rw [if_pos (by simp [hA,hB,hx])]
theorem fill_mid {cs cs' A B C xs:List D} {off n:Nat} {v:D} {r:List (Nat × Nat × D)} (h:cs = A ++ (B ++ C)) (h':cs' = A ++ (xs ++ C)) (hA:A.length = off) (hB:B.length = n) (hv:v.cells = xs) (hx:xs.length = n) (hc:xs.all D.isCell = true) :
  fillD cs ((off,n,v) :: r) = fillD cs' r := by
 subst h; subst h'
 simp only [fillD,hv,hc,splice_mid hA (hB.trans hx.symm)]
 rw [if_pos (by simp [hA,hB,hx])]
theorem fldv_mid {cs A B C:List D} {off n:Nat} (h:cs = A ++ (B ++ C)) (hA:A.length = off) (hB:B.length = n):pfldv off n true (.agg cs) = some (.agg B) := by
 subst h
 simp only [pfldv,take_mid hA hB]
 rw [if_pos (by simp [hA,hB])]
 rfl
theorem fldv_mid1 {cs A C:List D} {d:D} {off:Nat} (h:cs = A ++ (d :: C)) (hA:A.length = off):pfldv off 1 false (.agg cs) = some d := by
 subst h
 have := take_mid (A := A) (B := [d]) (C := C) (off := off) (n := 1) hA rfl
 simp only [List.cons_append,List.nil_append] at this
 simp only [pfldv,this]
 rw [if_pos (by simp [hA])]
 rfl
theorem flatEq_app:∀ (k1 k2:List Nat) (a1 a2 b1 b2:List D) (x y:Bool),a1.length = k1.length → b1.length = k1.length → flatEq k1 a1 b1 = some x → flatEq k2 a2 b2 = some y → flatEq (k1 ++ k2) (a1 ++ a2) (b1 ++ b2) = some (x && y)
 | [],k2,[],a2,[],b2,x,y,_,_,h1,h2 => by
  simp only [flatEq,Option.some.injEq] at h1
  subst h1
  simpa using h2
 | [],_,_ :: _,_,_,_,_,_,h,_,_,_ => by cases h
 | [],_,[],_,_ :: _,_,_,_,_,h,_,_ => by cases h
 | k :: k1,k2,[],a2,b1,b2,x,y,h,_,_,_ => by cases h
 | k :: k1,k2,a :: a1,a2,[],b2,x,y,_,h,_,_ => by cases h
 | k :: k1,k2,a :: a1,a2,b :: b1,b2,x,y,h,h',h1,h2 => by
  simp only [flatEq] at h1
  split at h1
  ·rename_i u v hu hv
   simp only [Option.some.injEq] at h1
   subst h1
   have := flatEq_app k1 k2 a1 a2 b1 b2 v y (by simpa using h) (by simpa using h') hv h2
   simp only [List.cons_append,flatEq,hu,this,Bool.and_assoc]
  ·cases h1
theorem flatEq_int (k:IntKind) (a b:Int):flatEq [0] [.int k a] [.int k b] = some (decide (a = b)) := by
 simp only [flatEq,flatEq1,if_true,Bool.and_true]
 by_cases h:a = b <;> simp [h]
theorem flatEq_bool (a b:Bool):flatEq [1] [.bool a] [.bool b] = some (decide (a = b)) := by
 cases a <;> cases b <;> rfl
structure Bis where
 h:Int
 l:Int
 i:Int
 n0:Dig
 n1:Dig
 t0:Bool
 t1:Bool
 l0:Dig
 l1:Dig
 r0:Dig
 r1:Dig
 r:Int
 deriving DecidableEq
def bisC (x:Bis):List D := [.int .i64 x.h] ++ ([.int .i64 x.l] ++ ([.int .i64 x.i] ++ (digC x.n0 ++ (digC x.n1 ++ ([.bool x.t0] ++ ([.bool x.t1] ++ (digC x.l0 ++ (digC x.l1 ++ (digC x.r0 ++ (digC x.r1 ++ [.int .i64 x.r]))))))))))
def bisD (x:Bis):D := .agg (bisC x)
def d2C (a b:Dig):List D := digC a ++ digC b
def zD2:List D := d2C zeroDig zeroDig
theorem zD2_eq:zD2 = d2C zeroDig zeroDig := rfl
def ks32:List Nat := List.replicate 32 0
def ks64:List Nat := ks32 ++ ks32
def ksBis:List Nat := [0] ++ ([0] ++ ([0] ++ (ks32 ++ (ks32 ++ ([1] ++ ([1] ++ (ks32 ++ (ks32 ++ (ks32 ++ (ks32 ++ [0]))))))))))
theorem bisC_length (x:Bis):(bisC x).length = 198 := by simp [bisC,digC_length]
theorem d2C_length (a b:Dig):(d2C a b).length = 64 := by simp [d2C,digC_length]
theorem bisC_all {p:D → Bool} (h1:∀ k n,p (.int k n) = true) (h2:∀ b,p (.bool b) = true) (x:Bis):(bisC x).all p = true := by
 have:∀ d,(digC d).all p = true := fun d => digC_all (fun b => h1 _ _) d
 simp only [bisC,List.all_append,List.all_cons,List.all_nil,h1,h2,this,Bool.and_self]
theorem d2C_all {p:D → Bool} (h1:∀ k n,p (.int k n) = true) (a b:Dig):(d2C a b).all p = true := by
 have:∀ d,(digC d).all p = true := fun d => digC_all (fun b => h1 _ _) d
 simp only [d2C,List.all_append,this,Bool.and_self]
theorem bisC_solid (x:Bis):(bisC x).all solid1 = true := bisC_all (fun _ _ => rfl) (fun _ => rfl) x
theorem bisC_cell (x:Bis):(bisC x).all D.isCell = true := bisC_all (fun _ _ => rfl) (fun _ => rfl) x
theorem d2C_solid (a b:Dig):(d2C a b).all solid1 = true := d2C_all (fun _ _ => rfl) a b
theorem d2C_cell (a b:Dig):(d2C a b).all D.isCell = true := d2C_all (fun _ _ => rfl) a b
section
variable (x:Bis) (sz:Nat) (lent:Bool)
theorem ldB_h:ldO (some ⟨false,sz,bisC x,lent⟩) 1 false 0 = some (.int .i64 x.h) := ldO_mid1 (A := []) rfl rfl
theorem ldB_l:ldO (some ⟨false,sz,bisC x,lent⟩) 1 false 1 = some (.int .i64 x.l) := ldO_mid1 (A := [.int .i64 x.h]) rfl rfl
theorem ldB_i:ldO (some ⟨false,sz,bisC x,lent⟩) 1 false 2 = some (.int .i64 x.i) := ldO_mid1 (A := [.int .i64 x.h,.int .i64 x.l]) rfl rfl
theorem ldB_n0:ldO (some ⟨false,sz,bisC x,lent⟩) 32 true 3 = some (digD x.n0) := ldO_mid (A := [.int .i64 x.h,.int .i64 x.l,.int .i64 x.i]) (B := digC x.n0) rfl rfl (digC_length _)
theorem ldB_n1:ldO (some ⟨false,sz,bisC x,lent⟩) 32 true 35 = some (digD x.n1) := ldO_mid (A := [.int .i64 x.h,.int .i64 x.l,.int .i64 x.i] ++ digC x.n0) (B := digC x.n1) (by simp [bisC]; rfl) (by simp [digC_length]) (digC_length _)
theorem ldB_n:ldO (some ⟨false,sz,bisC x,lent⟩) 64 true 3 = some (.agg (d2C x.n0 x.n1)) := ldO_mid (A := [.int .i64 x.h,.int .i64 x.l,.int .i64 x.i]) (B := d2C x.n0 x.n1) (by simp [bisC,d2C]; rfl) rfl (d2C_length _ _)
theorem ldB_t0:ldO (some ⟨false,sz,bisC x,lent⟩) 1 false 67 = some (.bool x.t0) := ldO_mid1 (A := [.int .i64 x.h,.int .i64 x.l,.int .i64 x.i] ++ (digC x.n0 ++ digC x.n1)) (by simp [bisC]; rfl) (by simp [digC_length])
theorem ldB_t1:ldO (some ⟨false,sz,bisC x,lent⟩) 1 false 68 = some (.bool x.t1) := ldO_mid1 (A := [.int .i64 x.h,.int .i64 x.l,.int .i64 x.i] ++ (digC x.n0 ++ (digC x.n1 ++ [.bool x.t0]))) (by simp [bisC]; rfl) (by simp [digC_length])
theorem ldB_t:ldO (some ⟨false,sz,bisC x,lent⟩) 2 true 67 = some (.agg [.bool x.t0,.bool x.t1]) := ldO_mid (A := [.int .i64 x.h,.int .i64 x.l,.int .i64 x.i] ++ (digC x.n0 ++ digC x.n1)) (B := [.bool x.t0,.bool x.t1]) (by simp [bisC]; rfl) (by simp [digC_length]) rfl
theorem ldB_l0:ldO (some ⟨false,sz,bisC x,lent⟩) 32 true 69 = some (digD x.l0) := ldO_mid (A := [.int .i64 x.h,.int .i64 x.l,.int .i64 x.i] ++ (digC x.n0 ++ (digC x.n1 ++ [.bool x.t0,.bool x.t1]))) (B := digC x.l0) (by simp [bisC]; rfl) (by simp [digC_length]) (digC_length _)
theorem ldB_l1:ldO (some ⟨false,sz,bisC x,lent⟩) 32 true 101 = some (digD x.l1) := ldO_mid (A := [.int .i64 x.h,.int .i64 x.l,.int .i64 x.i] ++ (digC x.n0 ++ (digC x.n1 ++ ([.bool x.t0,.bool x.t1] ++ digC x.l0)))) (B := digC x.l1) (by simp [bisC]; rfl) (by simp [digC_length]) (digC_length _)
theorem ldB_L:ldO (some ⟨false,sz,bisC x,lent⟩) 64 true 69 = some (.agg (d2C x.l0 x.l1)) := ldO_mid (A := [.int .i64 x.h,.int .i64 x.l,.int .i64 x.i] ++ (digC x.n0 ++ (digC x.n1 ++ [.bool x.t0,.bool x.t1]))) (B := d2C x.l0 x.l1) (by simp [bisC,d2C]; rfl) (by simp [digC_length]) (d2C_length _ _)
theorem ldB_r0:ldO (some ⟨false,sz,bisC x,lent⟩) 32 true 133 = some (digD x.r0) := ldO_mid (A := [.int .i64 x.h,.int .i64 x.l,.int .i64 x.i] ++ (digC x.n0 ++ (digC x.n1 ++ ([.bool x.t0,.bool x.t1] ++ (digC x.l0 ++ digC x.l1))))) (B := digC x.r0) (by simp [bisC]; rfl) (by simp [digC_length]) (digC_length _)
theorem ldB_r1:ldO (some ⟨false,sz,bisC x,lent⟩) 32 true 165 = some (digD x.r1) := ldO_mid (A := [.int .i64 x.h,.int .i64 x.l,.int .i64 x.i] ++ (digC x.n0 ++ (digC x.n1 ++ ([.bool x.t0,.bool x.t1] ++ (digC x.l0 ++ (digC x.l1 ++ digC x.r0)))))) (B := digC x.r1) (C := [.int .i64 x.r]) (by simp [bisC]) (by simp [digC_length]) (digC_length _)
theorem ldB_R:ldO (some ⟨false,sz,bisC x,lent⟩) 64 true 133 = some (.agg (d2C x.r0 x.r1)) := ldO_mid (A := [.int .i64 x.h,.int .i64 x.l,.int .i64 x.i] ++ (digC x.n0 ++ (digC x.n1 ++ ([.bool x.t0,.bool x.t1] ++ (digC x.l0 ++ digC x.l1))))) (B := d2C x.r0 x.r1) (C := [.int .i64 x.r]) (by simp [bisC,d2C]) (by simp [digC_length]) (d2C_length _ _)
theorem ldB_r:ldO (some ⟨false,sz,bisC x,lent⟩) 1 false 197 = some (.int .i64 x.r) := ldO_mid1 (A := [.int .i64 x.h,.int .i64 x.l,.int .i64 x.i] ++ (digC x.n0 ++ (digC x.n1 ++ ([.bool x.t0,.bool x.t1] ++ (digC x.l0 ++ (digC x.l1 ++ (digC x.r0 ++ digC x.r1))))))) (C := []) (by simp [bisC]) (by simp [digC_length])
theorem ldB_all:ldO (some ⟨false,sz,bisC x,lent⟩) 198 true 0 = some (bisD x) := ldO_all sz lent _ 198 (bisC_length x)
theorem stB_all (y:Bis):stO (some ⟨false,sz,bisC x,false⟩) 198 0 (bisD y) = some ⟨false,sz,bisC y,false⟩ := stO_all sz _ _ 198 (bisC_length x) (bisC_length y) (bisC_cell y)
theorem stB_h (v:Int):stO (some ⟨false,sz,bisC x,false⟩) 1 0 (.int .i64 v) = some ⟨false,sz,bisC { x with h := v },false⟩ := stO_mid (A := []) (B := [.int .i64 x.h]) (xs := [.int .i64 v]) rfl rfl rfl rfl rfl rfl rfl
theorem stB_l (v:Int):stO (some ⟨false,sz,bisC x,false⟩) 1 1 (.int .i64 v) = some ⟨false,sz,bisC { x with l := v },false⟩ := stO_mid (A := [.int .i64 x.h]) (B := [.int .i64 x.l]) (xs := [.int .i64 v]) rfl rfl rfl rfl rfl rfl rfl
theorem stB_i (v:Int):stO (some ⟨false,sz,bisC x,false⟩) 1 2 (.int .i64 v) = some ⟨false,sz,bisC { x with i := v },false⟩ := stO_mid (A := [.int .i64 x.h,.int .i64 x.l]) (B := [.int .i64 x.i]) (xs := [.int .i64 v]) rfl rfl rfl rfl rfl rfl rfl
theorem stB_n0 (v:Dig):stO (some ⟨false,sz,bisC x,false⟩) 32 3 (digD v) = some ⟨false,sz,bisC { x with n0 := v },false⟩ := stO_mid (A := [.int .i64 x.h,.int .i64 x.l,.int .i64 x.i]) (B := digC x.n0) (xs := digC v) rfl rfl rfl (digC_length _) rfl (digC_length _) (digC_cells v)
theorem stB_n1 (v:Dig):stO (some ⟨false,sz,bisC x,false⟩) 32 35 (digD v) = some ⟨false,sz,bisC { x with n1 := v },false⟩ := stO_mid (A := [.int .i64 x.h,.int .i64 x.l,.int .i64 x.i] ++ digC x.n0) (B := digC x.n1) (xs := digC v) (by simp [bisC]; rfl) (by simp [bisC]) (by simp [digC_length]) (digC_length _) rfl (digC_length _) (digC_cells v)
theorem stB_n (a b:Dig):stO (some ⟨false,sz,bisC x,false⟩) 64 3 (.agg (d2C a b)) = some ⟨false,sz,bisC { x with n0 := a,n1 := b },false⟩ := stO_mid (A := [.int .i64 x.h,.int .i64 x.l,.int .i64 x.i]) (B := d2C x.n0 x.n1) (xs := d2C a b) (by simp [bisC,d2C]; rfl) (by simp [bisC,d2C]) rfl (d2C_length _ _) rfl (d2C_length _ _) (d2C_cell a b)
theorem stB_t0 (v:Bool):stO (some ⟨false,sz,bisC x,false⟩) 1 67 (.bool v) = some ⟨false,sz,bisC { x with t0 := v },false⟩ := stO_mid (A := [.int .i64 x.h,.int .i64 x.l,.int .i64 x.i] ++ (digC x.n0 ++ digC x.n1)) (B := [.bool x.t0]) (xs := [.bool v]) (by simp [bisC]; rfl) (by simp [bisC]) (by simp [digC_length]) rfl rfl rfl rfl
theorem stB_t1 (v:Bool):stO (some ⟨false,sz,bisC x,false⟩) 1 68 (.bool v) = some ⟨false,sz,bisC { x with t1 := v },false⟩ := stO_mid (A := [.int .i64 x.h,.int .i64 x.l,.int .i64 x.i] ++ (digC x.n0 ++ (digC x.n1 ++ [.bool x.t0]))) (B := [.bool x.t1]) (xs := [.bool v]) (by simp [bisC]; rfl) (by simp [bisC]) (by simp [digC_length]) rfl rfl rfl rfl
theorem stB_l0 (v:Dig):stO (some ⟨false,sz,bisC x,false⟩) 32 69 (digD v) = some ⟨false,sz,bisC { x with l0 := v },false⟩ := stO_mid (A := [.int .i64 x.h,.int .i64 x.l,.int .i64 x.i] ++ (digC x.n0 ++ (digC x.n1 ++ [.bool x.t0,.bool x.t1]))) (B := digC x.l0) (xs := digC v) (by simp [bisC]; rfl) (by simp [bisC]) (by simp [digC_length]) (digC_length _) rfl (digC_length _) (digC_cells v)
theorem stB_l1 (v:Dig):stO (some ⟨false,sz,bisC x,false⟩) 32 101 (digD v) = some ⟨false,sz,bisC { x with l1 := v },false⟩ := stO_mid (A := [.int .i64 x.h,.int .i64 x.l,.int .i64 x.i] ++ (digC x.n0 ++ (digC x.n1 ++ ([.bool x.t0,.bool x.t1] ++ digC x.l0)))) (B := digC x.l1) (xs := digC v) (by simp [bisC]; rfl) (by simp [bisC]) (by simp [digC_length]) (digC_length _) rfl (digC_length _) (digC_cells v)
theorem stB_r0 (v:Dig):stO (some ⟨false,sz,bisC x,false⟩) 32 133 (digD v) = some ⟨false,sz,bisC { x with r0 := v },false⟩ := stO_mid (A := [.int .i64 x.h,.int .i64 x.l,.int .i64 x.i] ++ (digC x.n0 ++ (digC x.n1 ++ ([.bool x.t0,.bool x.t1] ++ (digC x.l0 ++ digC x.l1))))) (B := digC x.r0) (xs := digC v) (by simp [bisC]; rfl) (by simp [bisC]) (by simp [digC_length]) (digC_length _) rfl (digC_length _) (digC_cells v)
theorem stB_r1 (v:Dig):stO (some ⟨false,sz,bisC x,false⟩) 32 165 (digD v) = some ⟨false,sz,bisC { x with r1 := v },false⟩ := stO_mid (A := [.int .i64 x.h,.int .i64 x.l,.int .i64 x.i] ++ (digC x.n0 ++ (digC x.n1 ++ ([.bool x.t0,.bool x.t1] ++ (digC x.l0 ++ (digC x.l1 ++ digC x.r0)))))) (B := digC x.r1) (C := [.int .i64 x.r]) (xs := digC v) (by simp [bisC]) (by simp [bisC]) (by simp [digC_length]) (digC_length _) rfl (digC_length _) (digC_cells v)
theorem fiB_h (v:Int) (r:List (Nat × Nat × D)):fillD (bisC x) ((0,1,.int .i64 v) :: r) = fillD (bisC { x with h := v }) r := fill_mid (A := []) (B := [.int .i64 x.h]) (xs := [.int .i64 v]) rfl rfl rfl rfl rfl rfl rfl
theorem fiB_l (v:Int) (r:List (Nat × Nat × D)):fillD (bisC x) ((1,1,.int .i64 v) :: r) = fillD (bisC { x with l := v }) r := fill_mid (A := [.int .i64 x.h]) (B := [.int .i64 x.l]) (xs := [.int .i64 v]) rfl rfl rfl rfl rfl rfl rfl
theorem fiB_i (v:Int) (r:List (Nat × Nat × D)):fillD (bisC x) ((2,1,.int .i64 v) :: r) = fillD (bisC { x with i := v }) r := fill_mid (A := [.int .i64 x.h,.int .i64 x.l]) (B := [.int .i64 x.i]) (xs := [.int .i64 v]) rfl rfl rfl rfl rfl rfl rfl
theorem fiB_n (a b:Dig) (r:List (Nat × Nat × D)):fillD (bisC x) ((3,64,.agg (d2C a b)) :: r) = fillD (bisC { x with n0 := a,n1 := b }) r := fill_mid (A := [.int .i64 x.h,.int .i64 x.l,.int .i64 x.i]) (B := d2C x.n0 x.n1) (xs := d2C a b) (by simp [bisC,d2C]; rfl) (by simp [bisC,d2C]) rfl (d2C_length _ _) rfl (d2C_length _ _) (d2C_cell a b)
theorem fiB_r (v:Int) (r:List (Nat × Nat × D)):fillD (bisC x) ((197,1,.int .i64 v) :: r) = fillD (bisC { x with r := v }) r := fill_mid (A := [.int .i64 x.h,.int .i64 x.l,.int .i64 x.i] ++ (digC x.n0 ++ (digC x.n1 ++ ([.bool x.t0,.bool x.t1] ++ (digC x.l0 ++ (digC x.l1 ++ (digC x.r0 ++ digC x.r1))))))) (B := [.int .i64 x.r]) (C := []) (xs := [.int .i64 v]) (by simp [bisC]) (by simp [bisC]) (by simp [digC_length]) rfl rfl rfl rfl
end
theorem fi2_0 (a b v:Dig) (r:List (Nat × Nat × D)):fillD (d2C a b) ((0,32,digD v) :: r) = fillD (d2C v b) r := fill_mid (A := []) (B := digC a) (xs := digC v) rfl rfl rfl (digC_length _) rfl (digC_length _) (digC_cells v)
theorem fi2_1 (a b v:Dig) (r:List (Nat × Nat × D)):fillD (d2C a b) ((32,32,digD v) :: r) = fillD (d2C a v) r := fill_mid (A := digC a) (B := digC b) (C := []) (xs := digC v) (by simp [d2C]) (by simp [d2C]) (digC_length _) (digC_length _) rfl (digC_length _) (digC_cells v)
theorem ld2_0 (sz:Nat) (lent:Bool) (a b:Dig):ldO (some ⟨false,sz,d2C a b,lent⟩) 32 true 0 = some (digD a) := ldO_mid (A := []) (B := digC a) rfl rfl (digC_length _)
theorem ld2_1 (sz:Nat) (lent:Bool) (a b:Dig):ldO (some ⟨false,sz,d2C a b,lent⟩) 32 true 32 = some (digD b) := ldO_mid (A := digC a) (B := digC b) (C := []) (by simp [d2C]) (digC_length _) (digC_length _)
theorem ld2_all (sz:Nat) (lent:Bool) (a b:Dig):ldO (some ⟨false,sz,d2C a b,lent⟩) 64 true 0 = some (.agg (d2C a b)) := ldO_all sz lent _ 64 (d2C_length _ _)
theorem st2_all (sz:Nat) (a b c d:Dig):stO (some ⟨false,sz,d2C a b,false⟩) 64 0 (.agg (d2C c d)) = some ⟨false,sz,d2C c d,false⟩ := stO_all sz _ _ 64 (d2C_length _ _) (d2C_length _ _) (d2C_cell _ _)
theorem box_bis (x:Bis):boxD (bisD x) = some (bisC x) := by
 simp only [boxD,bisD,D.cells,bisC_cell,if_true]
theorem box_bisA (x:Bis):boxD (.agg (bisC x)) = some (bisC x) := box_bis x
theorem box_d2 (a b:Dig):boxD (.agg (d2C a b)) = some (d2C a b) := by
 simp only [boxD,D.cells,d2C_cell,if_true]
theorem agg_bis (x:Bis):D.agg (bisC x) = bisD x := rfl
theorem imm_bis (st:St) (x:Bis):imm st (bisD x) = some (bisD x) := solid_imm st (bisC_solid x)
theorem imm_d2 (st:St) (a b:Dig):imm st (.agg (d2C a b)) = some (.agg (d2C a b)) := solid_imm st (d2C_solid a b)
theorem keys_bis (x:Bis):keys (bisD x) = [] := solid_keys (bisC_solid x)
theorem keys_d2 (a b:Dig):keys (.agg (d2C a b)) = [] := solid_keys (d2C_solid a b)
theorem hk_bis (x:Bis):hk (bisD x) = [] := solid_hk (bisC_solid x)
theorem hk_d2 (a b:Dig):hk (.agg (d2C a b)) = [] := solid_hk (d2C_solid a b)
theorem ren_bis (n:Nat) (σ:List Nat) (x:Bis):ren n σ (bisD x) = bisD x := solid_ren n σ (bisC_solid x)
theorem ren_d2 (n:Nat) (σ:List Nat) (a b:Dig):ren n σ (.agg (d2C a b)) = .agg (d2C a b) := solid_ren n σ (d2C_solid a b)
theorem renC_bis (n:Nat) (σ:List Nat) (x:Bis):(bisC x).map (ren1 n σ) = bisC x := renL_solid n σ (bisC_solid x)
theorem renC_d2 (n:Nat) (σ:List Nat) (a b:Dig):(d2C a b).map (ren1 n σ) = d2C a b := renL_solid n σ (d2C_solid a b)
theorem hkC_bis (x:Bis):(bisC x).flatMap hk1 = [] := hkL_solid (bisC_solid x)
theorem hkC_d2 (a b:Dig):(d2C a b).flatMap hk1 = [] := hkL_solid (d2C_solid a b)
theorem noRef_bis (x:Bis):(bisD x).noRef = true := bisC_all (fun _ _ => rfl) (fun _ => rfl) x
theorem noRef_bisA (x:Bis):((bisC x).all D.noRef1) = true := bisC_all (fun _ _ => rfl) (fun _ => rfl) x
theorem noRef_d2A (a b:Dig):((d2C a b).all D.noRef1) = true := d2C_all (fun _ _ => rfl) a b
theorem noRef_digA (a:Dig):((digC a).all D.noRef1) = true := digC_all (fun _ => rfl) a
theorem noRef_d2 (a b:Dig):(D.agg (d2C a b)).noRef = true := noRef_d2A a b
theorem tupN_bi (x:Bis) (k:IntKind) (n:Int):(D.tup [bisD x,.int k n]).noRef = true := by
 simp [D.noRef,bisD,noRef_bisA,D.noRef1]
theorem tupN_bb (x:Bis) (b:Bool):(D.tup [bisD x,.bool b]).noRef = true := by
 simp [D.noRef,bisD,noRef_bisA,D.noRef1]
theorem tupN_id2b (k:IntKind) (n:Int) (a c:Dig) (b:Bool):(D.tup [.int k n,.agg (d2C a c),.bool b]).noRef = true := by
 simp [D.noRef,noRef_d2A,D.noRef1]
theorem tupN_ddi (a b:Dig) (k:IntKind) (n:Int):(D.tup [digD a,digD b,.int k n]).noRef = true := by
 simp [D.noRef,digD,noRef_digA,D.noRef1]
theorem flat_dig (a b:Dig):flatEq ks32 (digC a) (digC b) = some (decide (a = b)) := flatEq_dig a b
theorem aeq_d2 (neg:Bool) (a b c d:Dig):paeq ks64 neg (.agg (d2C a b)) (.agg (d2C c d)) = some (.bool (decide (a = c ∧ b = d) != neg)) := by
 have := flatEq_app ks32 ks32 (digC a) (digC b) (digC c) (digC d) _ _ (by rw [digC_length]; rfl) (by rw [digC_length]; rfl) (flat_dig a c) (flat_dig b d)
 simp only [paeq,ks64,d2C,this,Option.map_some]
 congr 3
 by_cases h1:a = c <;> by_cases h2:b = d <;> simp [h1,h2]
theorem flat_bis (x y:Bis):flatEq ksBis (bisC x) (bisC y) = some (decide (x = y)) := by
 have l1:∀ d:Dig,(digC d).length = ks32.length := fun d => by rw [digC_length]; rfl
 have e11 := flatEq_int .i64 x.r y.r
 have e10 := flatEq_app ks32 _ _ _ _ _ _ _ (l1 x.r1) (l1 y.r1) (flat_dig x.r1 y.r1) e11
 have e9 := flatEq_app ks32 _ _ _ _ _ _ _ (l1 x.r0) (l1 y.r0) (flat_dig x.r0 y.r0) e10
 have e8 := flatEq_app ks32 _ _ _ _ _ _ _ (l1 x.l1) (l1 y.l1) (flat_dig x.l1 y.l1) e9
 have e7 := flatEq_app ks32 _ _ _ _ _ _ _ (l1 x.l0) (l1 y.l0) (flat_dig x.l0 y.l0) e8
 have e6 := flatEq_app [1] _ _ _ _ _ _ _ rfl rfl (flatEq_bool x.t1 y.t1) e7
 have e5 := flatEq_app [1] _ _ _ _ _ _ _ rfl rfl (flatEq_bool x.t0 y.t0) e6
 have e4 := flatEq_app ks32 _ _ _ _ _ _ _ (l1 x.n1) (l1 y.n1) (flat_dig x.n1 y.n1) e5
 have e3 := flatEq_app ks32 _ _ _ _ _ _ _ (l1 x.n0) (l1 y.n0) (flat_dig x.n0 y.n0) e4
 have e2 := flatEq_app [0] _ _ _ _ _ _ _ rfl rfl (flatEq_int .i64 x.i y.i) e3
 have e1 := flatEq_app [0] _ _ _ _ _ _ _ rfl rfl (flatEq_int .i64 x.l y.l) e2
 have e0 := flatEq_app [0] _ _ _ _ _ _ _ rfl rfl (flatEq_int .i64 x.h y.h) e1
 refine e0.trans (congrArg some ?_)
 rw [Bool.eq_iff_iff]
 simp only [Bool.and_eq_true,decide_eq_true_eq]
 constructor
 ·rintro ⟨a,b,c,d,e,f,g,h,i,j,k,l⟩
  cases x; cases y; simp_all
 ·rintro rfl; simp
theorem aeq_bis (neg:Bool) (x y:Bis):paeq ksBis neg (bisD x) (bisD y) = some (.bool (decide (x = y) != neg)) := by
 simp only [paeq,bisD,flat_bis,Option.map_some]
attribute [push_cast] ldB_h ldB_l ldB_i ldB_n0 ldB_n1 ldB_n ldB_t0 ldB_t1 ldB_t ldB_l0 ldB_l1 ldB_L ldB_r0 ldB_r1 ldB_R ldB_r ldB_all stB_all stB_h stB_l stB_i stB_n0 stB_n1 stB_n stB_t0 stB_t1 stB_l0 stB_l1 stB_r0 stB_r1 fiB_h fiB_l fiB_i fiB_n fiB_r fi2_0 fi2_1 ld2_0 ld2_1 ld2_all st2_all box_bis box_bisA box_d2 agg_bis imm_bis imm_d2 keys_bis keys_d2 hk_bis hk_d2 ren_bis ren_d2 renC_bis renC_d2 hkC_bis hkC_d2 noRef_bis noRef_d2 tupN_bi tupN_bb tupN_id2b tupN_ddi aeq_d2 aeq_bis zD2_eq
end Go.Proofs.YtlleccmnjpcogaaDoor.PI
namespace Go.Proofs.YtlleccmnjpcogaaDoor.PI
open Go
namespace Sha
def rotr (x:UInt32) (n:Nat):UInt32 := x >>> UInt32.ofNat n ||| x <<< UInt32.ofNat (32 - n)
def word (b:List UInt8) (i:Nat):UInt32 :=
 (b.getD (4 * i) 0).toUInt32 <<< UInt32.ofNat 24 ||| (b.getD (4 * i + 1) 0).toUInt32 <<< UInt32.ofNat 16 ||| (b.getD (4 * i + 2) 0).toUInt32 <<< UInt32.ofNat 8 ||| (b.getD (4 * i + 3) 0).toUInt32
def sig0 (x:UInt32):UInt32 := rotr x 7 ^^^ rotr x 18 ^^^ x >>> UInt32.ofNat 3
def sig1 (x:UInt32):UInt32 := rotr x 17 ^^^ rotr x 19 ^^^ x >>> UInt32.ofNat 10
def sch (b:List UInt8):Nat → List UInt32
 | 0 => []
 | n + 1 => let w := sch b n
  w ++ [if n < 16 then word b n else w.getD (n - 16) 0 + sig0 (w.getD (n - 15) 0) + w.getD (n - 7) 0 + sig1 (w.getD (n - 2) 0)]
theorem sch_length (b:List UInt8):∀ n,(sch b n).length = n
 | 0 => rfl
 | n + 1 => by simp [sch,sch_length b n]
structure St8 where
 a:UInt32
 b:UInt32
 c:UInt32
 d:UInt32
 e:UInt32
 f:UInt32
 g:UInt32
 h:UInt32
def St8.list (s:St8):List UInt32 := [s.a,s.b,s.c,s.d,s.e,s.f,s.g,s.h]
def round (s:St8) (k w:UInt32):St8 :=
 let t := s.h + (rotr s.e 6 ^^^ rotr s.e 11 ^^^ rotr s.e 25) + (s.e &&& s.f ^^^ ~~~s.e &&& s.g) + k + w
 let u := (rotr s.a 2 ^^^ rotr s.a 13 ^^^ rotr s.a 22) + (s.a &&& s.b ^^^ s.a &&& s.c ^^^ s.b &&& s.c)
 { a := t + u,b := s.a,c := s.b,d := s.c,e := s.d + t,f := s.e,g := s.f,h := s.g }
def K:List UInt32 := [
 0x428a2f98,0x71374491,0xb5c0fbcf,0xe9b5dba5,0x3956c25b,0x59f111f1,0x923f82a4,0xab1c5ed5,
 0xd807aa98,0x12835b01,0x243185be,0x550c7dc3,0x72be5d74,0x80deb1fe,0x9bdc06a7,0xc19bf174,
 0xe49b69c1,0xefbe4786,0x0fc19dc6,0x240ca1cc,0x2de92c6f,0x4a7484aa,0x5cb0a9dc,0x76f988da,
 0x983e5152,0xa831c66d,0xb00327c8,0xbf597fc7,0xc6e00bf3,0xd5a79147,0x06ca6351,0x14292967,
 0x27b70a85,0x2e1b2138,0x4d2c6dfc,0x53380d13,0x650a7354,0x766a0abb,0x81c2c92e,0x92722c85,
 0xa2bfe8a1,0xa81a664b,0xc24b8b70,0xc76c51a3,0xd192e819,0xd6990624,0xf40e3585,0x106aa070,
 0x19a4c116,0x1e376c08,0x2748774c,0x34b0bcb5,0x391c0cb3,0x4ed8aa4a,0x5b9cca4f,0x682e6ff3,
 0x748f82ee,0x78a5636f,0x84c87814,0x8cc70208,0x90befffa,0xa4506ceb,0xbef9a3f7,0xc67178f2]
def rounds (w:List UInt32) (s:St8):Nat → St8
 | 0 => s
 | n + 1 => round (rounds w s n) (K.getD n 0) (w.getD n 0)
def St8.add (s t:St8):St8 := { a := s.a + t.a,b := s.b + t.b,c := s.c + t.c,d := s.d + t.d,e := s.e + t.e,f := s.f + t.f,g := s.g + t.g,h := s.h + t.h }
def block (s:St8) (b:List UInt8):St8 := s.add (rounds (sch b 64) s 64)
def H0:St8 := ⟨0x6a09e667,0xbb67ae85,0x3c6ef372,0xa54ff53a,0x510e527f,0x9b05688c,0x1f83d9ab,0x5be0cd19⟩
def lenB (q:UInt64):Nat → List UInt8
 | 0 => []
 | n + 1 => lenB q n ++ [(q >>> UInt64.ofNat (56 - 8 * n)).toUInt8]
def zeros (n:Nat):Nat := (119 - n % 64) % 64
def padded (m:List UInt8):List UInt8 := m ++ [128] ++ List.replicate (zeros m.length) 0 ++ lenB (UInt64.ofNat m.length * 8) 8
def blocks (s:St8):Nat → List UInt8 → St8
 | 0,_ => s
 | n + 1,m => blocks (block s (m.take 64)) n (m.drop 64)
def outB (l:List UInt32):Nat → List UInt8
 | 0 => []
 | n + 1 => outB l n ++ [(l.getD (n / 4) 0 >>> UInt32.ofNat (24 - 8 * (n % 4))).toUInt8]
theorem outB_length (l:List UInt32):∀ n,(outB l n).length = n
 | 0 => rfl
 | n + 1 => by simp [outB,outB_length l n]
theorem lenB_length (q:UInt64):∀ n,(lenB q n).length = n
 | 0 => rfl
 | n + 1 => by simp [lenB,lenB_length q n]
theorem St8.list_inj {s t:St8} (h:s.list = t.list):s = t := by
 cases s; cases t
 simpa [St8.list] using h
theorem St8.list_iff {s t:St8}:s.list = t.list ↔ s = t := ⟨St8.list_inj,fun h => by rw [h]⟩
theorem St8.list_length (s:St8):s.list.length = 8 := rfl
end Sha
theorem fillH0:fillD ((zW 8).map wD) [(0,1,.int .u32 1779033703),(1,1,.int .u32 3144134277),(2,1,.int .u32 1013904242),(3,1,.int .u32 2773480762),(4,1,.int .u32 1359893119),(5,1,.int .u32 2600822924),(6,1,.int .u32 528734635),(7,1,.int .u32 1541459225)] = some (Sha.H0.list.map wD) := by kernel_rfl
def shaL (m:List UInt8):Dig := ⟨Sha.outB (Sha.blocks Sha.H0 ((Sha.padded m).length / 64) (Sha.padded m)).list 32,Sha.outB_length _ 32⟩
def hashedL (t b:List UInt8):List UInt8 := UInt8.ofNat (t.take 255).length :: (t.take 255 ++ b)
def taggedL (t b:List UInt8):Dig := shaL (hashedL t b)
end Go.Proofs.YtlleccmnjpcogaaDoor.PI
