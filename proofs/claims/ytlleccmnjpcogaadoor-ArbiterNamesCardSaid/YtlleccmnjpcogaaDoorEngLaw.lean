/-
  From the arguments of a law, as their types allow them, to plain data.
  Conditions: none; these are definitions and lemmas.
-/
import Derived.Test.YtlleccmnjpcogaaDoorEngU
import Derived.Test.YtlleccmnjpcogaaDoorEngB2
set_option linter.unusedVariables false
set_option linter.unusedSimpArgs false
namespace Go.Proofs.YtlleccmnjpcogaaDoor.PI
open Go
noncomputable def lawSp (tys:List Ty):List D → Option D := fun xs => @ite _ (HasAll tys xs) (Classical.propDecidable _) (some (.bool true)) none
theorem lawSp_true {tys:List Ty} {xs:List D} (h:HasAll tys xs):lawSp tys xs = some (.bool true) := by
 unfold lawSp; rw [if_pos h]
theorem lawSp_inv {tys:List Ty} {xs:List D} {d:D} (h:lawSp tys xs = some d):HasAll tys xs ∧ d = .bool true := by
 unfold lawSp at h
 split at h
 ·rename_i hx
  simp only [Option.some.injEq] at h
  exact ⟨hx,h.symm⟩
 ·cases h
theorem lawC {P:Program} {G:Glob} {T:Tbl} {il:List Nat} {f:Nat} {hints:List (List Nat)} {F:PF} (ht:trF P il f hints = some F) (hT:TblOK P G T) {tys:List Ty}
  (h:∀ xs,HasAll tys xs → @wW G T F.code (argF xs) [] ⟨retQ F.res (.bool true)⟩) (hy:T.y = fun _ _ _ => none := by rfl):Contract P G f (lawSp tys) := by
 refine fun_spec hT hy ht fun ds d hd => ?_
 obtain ⟨hx,rfl⟩ := lawSp_inv hd
 exact run_of_W (W_of (h ds hx))
theorem hasAll_cons {t:Ty} {ts:List Ty} {xs:List D} (h:HasAll (t :: ts) xs):∃ x r,xs = x :: r ∧ Has t x ∧ HasAll ts r := by
 cases h with
 | cons h1 h2 => exact ⟨_,_,rfl,h1,h2⟩
theorem hasAll_nil {xs:List D} (h:HasAll [] xs):xs = [] := by
 cases h; rfl
theorem has_i64 {d:D} (h:Has (.int .i64) d):∃ n:Int,d = .int .i64 n ∧ -9223372036854775808 ≤ n ∧ n < 9223372036854775808 := by
 cases h with
 | int k n hw =>
  refine ⟨n,rfl,?_⟩
  simp [Lit.wf,IntKind.min,IntKind.max,IntKind.signed,IntKind.bits] at hw
  omega
theorem has_u8 {d:D} (h:Has (.int .u8) d):∃ b:UInt8,d = byteD b := by
 cases h with
 | int k n hw =>
  simp [Lit.wf,IntKind.min,IntKind.max,IntKind.signed,IntKind.bits] at hw
  refine ⟨UInt8.ofNat n.toNat,?_⟩
  simp [byteD]
  omega
theorem lift_map {α:Type} {f:α → D}:∀ {els:List D},(∀ x ∈ els,∃ a,x = f a) → ∃ l:List α,els = l.map f
 | [],_ => ⟨[],rfl⟩
 | e :: r,h => by
  obtain ⟨a,ha⟩ := h e (by simp)
  obtain ⟨l,hl⟩ := lift_map (f := f) (els := r) fun x hx => h x (by simp [hx])
  exact ⟨a :: l,by rw [ha,hl]; rfl⟩
theorem has_slc {α:Type} {f:α → D} {e:Ty} {d:D} (hf:∀ x,Has e x → ∃ a,x = f a) (h:Has (.slc e) d):∃ l:List α,d = .slc (nz e.size (l.map f)) (l.map f) false ∧ l.length ≤ maxLen := by
 cases h with
 | slc _ els h1 h2 =>
  obtain ⟨l,rfl⟩ := lift_map (f := f) (els := els) fun x hx => by
   obtain ⟨i,hi⟩ := List.getElem?_of_mem hx
   exact hf x (h1 i x hi)
  exact ⟨l,rfl,by simpa using h2⟩
theorem has_dig {d:D} (h:Has (.agg (List.replicate 32 (.int .u8))) d):∃ x,d = digD x := by
 cases h with
 | agg _ xs h1 h2 =>
  obtain ⟨l,rfl⟩ := lift_map (f := byteD) (els := xs) fun x hx => by
   obtain ⟨i,hi⟩ := List.getElem?_of_mem hx
   have hlt:i < 32 := by
    have := (List.getElem?_eq_some_iff.1 hi).1
    rw [← h1,List.length_replicate] at this
    exact this
   exact has_u8 (h2 i (.int .u8) x (by rw [List.getElem?_replicate,if_pos hlt]) hi)
  have hl:l.length = 32 := by
   rw [List.length_replicate,List.length_map] at h1
   exact h1.symm
  refine ⟨⟨l,hl⟩,?_⟩
  have:∀ l:List UInt8,(l.map byteD).flatMap D.cells = l.map byteD := by
   intro l
   induction l with
   | nil => rfl
   | cons a r ih => simp only [List.map_cons,List.flatMap_cons,ih]; rfl
  rw [this]
  rfl
theorem has_agg2 {t u:Ty} {d:D} (h:Has (.agg [t,u]) d):∃ x y,d = .agg (x.cells ++ y.cells) ∧ Has t x ∧ Has u y := by
 cases h with
 | agg _ xs h1 h2 =>
  match xs,h1 with
  | [x,y],_ => exact ⟨x,y,by simp,h2 0 t x rfl rfl,h2 1 u y rfl rfl⟩
theorem has_agg3 {t u v:Ty} {d:D} (h:Has (.agg [t,u,v]) d):∃ x y z,d = .agg (x.cells ++ (y.cells ++ z.cells)) ∧ Has t x ∧ Has u y ∧ Has v z := by
 cases h with
 | agg _ xs h1 h2 =>
  match xs,h1 with
  | [x,y,z],_ => exact ⟨x,y,z,by simp,h2 0 t x rfl rfl,h2 1 u y rfl rfl,h2 2 v z rfl rfl⟩
end Go.Proofs.YtlleccmnjpcogaaDoor.PI
