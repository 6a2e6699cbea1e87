/-
  Specs of functions that are carried out over their caller's store.
  Conditions: none; these are definitions and lemmas.
-/
import Derived.Test.YtlleccmnjpcogaaDoorEngB2
set_option linter.unusedVariables false
set_option linter.unusedSimpArgs false
namespace Go.Proofs.YtlleccmnjpcogaaDoor.PI
open Go
noncomputable def siOf {α:Type} (enc:α → List D × St) (pre:α → Prop) (f:α → D × St):List D → St → Option (D × St) :=
 fun ds st => @dite _ (∃ a,enc a = (ds,st) ∧ pre a) (Classical.propDecidable _) (fun h => some (f h.choose)) (fun _ => none)
theorem siOf_inv {α:Type} {enc:α → List D × St} {pre:α → Prop} {f:α → D × St} {ds:List D} {st:St} {r:D × St} (h:siOf enc pre f ds st = some r):∃ a,enc a = (ds,st) ∧ pre a ∧ f a = r := by
 unfold siOf at h
 split at h
 ·rename_i hx
  simp only [Option.some.injEq] at h
  exact ⟨hx.choose,hx.choose_spec.1,hx.choose_spec.2,h⟩
 ·cases h
theorem siOf_enc {α:Type} {enc:α → List D × St} {pre:α → Prop} {f:α → D × St} (hinj:∀ a b,enc a = enc b → f a = f b) (a:α) (hp:pre a) {ds:List D} {st:St} (he:enc a = (ds,st)):siOf enc pre f ds st = some (f a) := by
 have hx:∃ b,enc b = (ds,st) ∧ pre b := ⟨a,he,hp⟩
 unfold siOf
 rw [dif_pos hx]
 rw [hinj _ _ (hx.choose_spec.1.trans he.symm)]
theorem fun_specI {P:Program} {G:Glob} {T:Tbl} {il:List Nat} {f:Nat} {hints:List (List Nat)} {F:PF} (hT:TblOK P G T) (ht:trF P il f hints = some F) {sp:List D → St → Option (D × St)}
  (h:∀ ds st r,sp ds st = some r → ∃ fuel,dropped (F.runI G T fuel) ds st = some r) (hy:T.y = fun _ _ _ => none := by rfl):IContract P G f sp := by
 refine ⟨(fun_simI hT hy ht 0).1,?_⟩
 intro base w g st st' ds vs d hsp hS hG hl hrep
 obtain ⟨fuel,hf⟩ := h ds st _ hsp
 exact (fun_simI hT hy ht fuel).dropped.2 base w g st st' ds vs d hf hS hG hl hrep
theorem icontract_of {P:Program} {G:Glob} {T:Tbl} {il:List Nat} {f:Nat} {hints:List (List Nat)} {F:PF} (ht:trF P il f hints = some F) (hT:TblOK P G T) {α:Type} {enc:α → List D × St} {pre:α → Prop} {r:α → D × St}
  (h:∀ a,pre a → @wW G T F.code (argF (enc a).1) (enc a).2 ⟨@retI F.res ⟨fun d st' => (lowR (enc a).2.length d,cut (enc a).2.length st') = r a⟩⟩) (hy:T.y = fun _ _ _ => none := by rfl):IContract P G f (siOf enc pre r) := by
 refine fun_specI hT ht (fun ds st x hx => ?_) hy
 obtain ⟨a,ha,hp,rfl⟩ := siOf_inv hx
 obtain ⟨fuel,d,st',h1,h2⟩ := runI_of_W (W_of (h a hp))
 rw [ha] at h1 h2
 refine ⟨fuel,?_⟩
 unfold dropped
 rw [h1 fuel (Nat.le_refl _)]
 exact congrArg some h2
def cutO (k:Nat) (o:Obj):Obj := { o with els := if o.row then o.els else o.els.map (low k) }
def cutL (k:Nat):Nat → St → St
 | 0,_ => []
 | _ + 1,[] => []
 | n + 1,o :: st => cutO k o :: cutL k n st
theorem cutL_eq (k:Nat):∀ (n:Nat) (st:St),cutL k n st = (st.take n).map (cutO k)
 | 0,_ => by simp [cutL]
 | n + 1,[] => by simp [cutL]
 | n + 1,o :: st => by simp [cutL,cutL_eq k n st]
theorem cut_eq (k:Nat) (st:St):cut k st = cutL k k st := by
 rw [cutL_eq]; rfl
theorem cutL_zero (k:Nat) (st:St):cutL k 0 st = [] := by simp [cutL]
theorem cutL_succ (k n:Nat) (o:Obj) (st:St):cutL k (n + 1) (o :: st) = cutO k o :: cutL k n st := (rfl)
theorem cutO_row (k sz:Nat) (els:List D) (lent:Bool):cutO k ⟨true,sz,els,lent⟩ = ⟨true,sz,els,lent⟩ := (rfl)
theorem cutO_box (k sz:Nat) (els:List D) (lent:Bool):cutO k ⟨false,sz,els,lent⟩ = ⟨false,sz,els.map (low k),lent⟩ := (rfl)
theorem low1_int (n:Nat) (k:IntKind) (m:Int):low1 n (.int k m) = .int k m := (rfl)
theorem low1_bool (n:Nat) (b:Bool):low1 n (.bool b) = .bool b := (rfl)
theorem low1_slc (n sz:Nat) (els:List D) (t:Bool):low1 n (.slc sz els t) = .slc sz els t := (rfl)
theorem low1_row (n key tot off len:Nat):low1 n (.row key tot off len) = if key < n then .row key tot off len else .junk := (rfl)
theorem low_int (n:Nat) (k:IntKind) (m:Int):low n (.int k m) = .int k m := (rfl)
theorem low_bool (n:Nat) (b:Bool):low n (.bool b) = .bool b := (rfl)
theorem low_slc (n sz:Nat) (els:List D) (t:Bool):low n (.slc sz els t) = .slc sz els t := (rfl)
theorem low_row (n key tot off len:Nat):low n (.row key tot off len) = if key < n then .row key tot off len else .junk := (rfl)
theorem low_ptr (n key off:Nat):low n (.ptr key off) = if key < n then .ptr key off else .junk := (rfl)
theorem low_mapv (n key:Nat):low n (.mapv key) = if key < n then .mapv key else .junk := (rfl)
theorem low1_dig (n:Nat) (d:Dig):(digC d).map (low1 n) = digC d := by
 simp only [digC,List.map_map]
 apply List.map_congr_left
 intro b _
 rfl
theorem lowB_dig (n:Nat) (d:Dig):(digC d).map (low n) = digC d := by
 simp only [digC,List.map_map]
 apply List.map_congr_left
 intro b _
 rfl
theorem lowR_tup0 (n:Nat):lowR n (.tup []) = .tup [] := (rfl)
theorem hk_clo (f:Nat) (l:List D):hk (.clo f l) = l.flatMap hk0 := (rfl)
theorem hk0_ptr (key off:Nat):hk0 (.ptr key off) = [key] := (rfl)
theorem ren_clo (n:Nat) (σ:List Nat) (f:Nat) (l:List D):ren n σ (.clo f l) = .clo f (l.map (ren0 n σ)) := (rfl)
theorem ren0_ptr (n:Nat) (σ:List Nat) (key off:Nat):ren0 n σ (.ptr key off) = orJunk (fun k => .ptr k off) (renK n σ key) := (rfl)
attribute [push_cast] low_int low_bool low_slc low_row low_ptr low_mapv lowB_dig
attribute [push_cast] cut_eq cutL_zero cutL_succ cutO_row cutO_box low1_int low1_bool low1_slc low1_row low1_dig lowR_tup0 hk_clo hk0_ptr ren_clo ren0_ptr
end Go.Proofs.YtlleccmnjpcogaaDoor.PI
