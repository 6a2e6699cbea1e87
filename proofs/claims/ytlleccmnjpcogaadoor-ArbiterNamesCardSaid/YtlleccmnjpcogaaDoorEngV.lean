/-
  From what a function computes to its contract: specs over encodings, tables of specs.
  Conditions: none; these are definitions and lemmas.
-/
import Derived.Test.YtlleccmnjpcogaaDoorEngS
set_option linter.unusedVariables false
set_option linter.unusedSimpArgs false
namespace Go.Proofs.YtlleccmnjpcogaaDoor.PI
open Go
noncomputable def spOf {α:Type} (enc:α → List D) (pre:α → Prop) (f:α → D):List D → Option D :=
 fun ds => @dite _ (∃ a,enc a = ds ∧ pre a) (Classical.propDecidable _) (fun h => some (f h.choose)) (fun _ => none)
theorem spOf_inv {α:Type} {enc:α → List D} {pre:α → Prop} {f:α → D} {ds:List D} {d:D} (h:spOf enc pre f ds = some d):∃ a,enc a = ds ∧ pre a ∧ f a = d := by
 unfold spOf at h
 split at h
 ·rename_i hx
  simp only [Option.some.injEq] at h
  exact ⟨hx.choose,hx.choose_spec.1,hx.choose_spec.2,h⟩
 ·cases h
theorem spOf_enc {α:Type} {enc:α → List D} {pre:α → Prop} {f:α → D} (hinj:∀ a b,enc a = enc b → a = b) (a:α) (hp:pre a):spOf enc pre f (enc a) = some (f a) := by
 have hx:∃ b,enc b = enc a ∧ pre b := ⟨a,rfl,hp⟩
 unfold spOf
 rw [dif_pos hx]
 rw [hinj _ _ hx.choose_spec.1]
def look {α:Type}:List (Nat × α) → Nat → Option α
 | [],_ => none
 | (k,a) :: r,n => if n = k then some a else look r n
def tb (l:List (Nat × (List D → Option D))) (li:List (Nat × (List D → St → Option (D × St)))) (lm:List (Nat × (List D → Option ((Nat → D) × (Nat → List Obj)))) := []):Tbl := { p := look l,i := look li,m := look lm }
theorem tb_p (l:List (Nat × (List D → Option D))) (li:List (Nat × (List D → St → Option (D × St)))) (lm:List (Nat × (List D → Option ((Nat → D) × (Nat → List Obj))))) (n:Nat):(tb l li lm).p n = look l n := (rfl)
theorem tb_i (l:List (Nat × (List D → Option D))) (li:List (Nat × (List D → St → Option (D × St)))) (lm:List (Nat × (List D → Option ((Nat → D) × (Nat → List Obj))))) (n:Nat):(tb l li lm).i n = look li n := (rfl)
theorem tb_m (l:List (Nat × (List D → Option D))) (li:List (Nat × (List D → St → Option (D × St)))) (lm:List (Nat × (List D → Option ((Nat → D) × (Nat → List Obj))))) (n:Nat):(tb l li lm).m n = look lm n := (rfl)
theorem look_nil {α:Type} (n:Nat):look ([]:List (Nat × α)) n = none := (rfl)
theorem look_cons {α:Type} (k:Nat) (a:α) (r:List (Nat × α)) (n:Nat):look ((k,a) :: r) n = if n = k then some a else look r n := (rfl)
theorem look_mem {α:Type}:∀ {l:List (Nat × α)} {n:Nat} {a:α},look l n = some a → (n,a) ∈ l
 | [],_,_,h => by cases h
 | (k,b) :: r,n,a,h => by
  simp only [look] at h
  split at h
  ·rename_i e
   simp only [Option.some.injEq] at h
   subst h; subst e
   simp
  ·exact List.mem_cons_of_mem _ (look_mem h)
theorem tb_ok {P:Program} {G:Glob} {l:List (Nat × (List D → Option D))} {li:List (Nat × (List D → St → Option (D × St)))} (h:∀ x ∈ l,Contract P G x.1 x.2) (hi:∀ x ∈ li,IContract P G x.1 x.2) (hlt:l.all (fun x => decide (x.1 < 50000000)) = true := by rfl):TblOK P G (tb l li) :=
 ⟨fun _ _ hs => .inl ⟨of_decide_eq_true (List.all_eq_true.1 hlt _ (look_mem hs)),h _ (look_mem hs)⟩,fun _ _ hs => hi _ (look_mem hs),fun _ _ hs => (by cases hs),fun _ _ hs => (by cases hs),fun _ _ hs => (by cases hs),fun _ _ hs => (by cases hs)⟩
def tbr (l:List (Nat × (List D → Option D))) (li:List (Nat × (List D → St → Option (D × St)))) (lr:List (Nat × ((List D → St → Option (D × St)) → List D → St → Option (D × St)))):Tbl := { p := look l,i := look li,m := fun _ => none,r := look lr }
theorem tbr_p (l:List (Nat × (List D → Option D))) (li:List (Nat × (List D → St → Option (D × St)))) (lr:List (Nat × ((List D → St → Option (D × St)) → List D → St → Option (D × St)))) (n:Nat):(tbr l li lr).p n = look l n := (rfl)
theorem tbr_i (l:List (Nat × (List D → Option D))) (li:List (Nat × (List D → St → Option (D × St)))) (lr:List (Nat × ((List D → St → Option (D × St)) → List D → St → Option (D × St)))) (n:Nat):(tbr l li lr).i n = look li n := (rfl)
theorem tbr_r (l:List (Nat × (List D → Option D))) (li:List (Nat × (List D → St → Option (D × St)))) (lr:List (Nat × ((List D → St → Option (D × St)) → List D → St → Option (D × St)))) (n:Nat):(tbr l li lr).r n = look lr n := (rfl)
theorem tbr_ok {P:Program} {G:Glob} {l:List (Nat × (List D → Option D))} {li:List (Nat × (List D → St → Option (D × St)))} {lr:List (Nat × ((List D → St → Option (D × St)) → List D → St → Option (D × St)))} (h:∀ x ∈ l,Contract P G x.1 x.2) (hi:∀ x ∈ li,IContract P G x.1 x.2)
  (hr:∀ x ∈ lr,YIContract P G x.1 x.2) (hlt:l.all (fun x => decide (x.1 < 50000000)) = true := by rfl):TblOK P G (tbr l li lr) :=
 ⟨fun _ _ hs => .inl ⟨of_decide_eq_true (List.all_eq_true.1 hlt _ (look_mem hs)),h _ (look_mem hs)⟩,fun _ _ hs => hi _ (look_mem hs),fun _ _ hs => (by cases hs),fun _ _ hs => hr _ (look_mem hs),fun _ _ hs => (by cases hs),fun _ _ hs => (by cases hs)⟩
def tbx (l:List (Nat × (List D → Option D))) (li:List (Nat × (List D → St → Option (D × St)))) (lx:List (Nat × (List D → St → Option (Nat × D × St)))):Tbl := { p := look l,i := look li,m := fun _ => none,x := look lx }
theorem tbx_p (l:List (Nat × (List D → Option D))) (li:List (Nat × (List D → St → Option (D × St)))) (lx:List (Nat × (List D → St → Option (Nat × D × St)))) (n:Nat):(tbx l li lx).p n = look l n := (rfl)
theorem tbx_i (l:List (Nat × (List D → Option D))) (li:List (Nat × (List D → St → Option (D × St)))) (lx:List (Nat × (List D → St → Option (Nat × D × St)))) (n:Nat):(tbx l li lx).i n = look li n := (rfl)
theorem tbx_x (l:List (Nat × (List D → Option D))) (li:List (Nat × (List D → St → Option (D × St)))) (lx:List (Nat × (List D → St → Option (Nat × D × St)))) (n:Nat):(tbx l li lx).x n = look lx n := (rfl)
def tbq (l:List (Nat × (List D → Option D))) (li:List (Nat × (List D → St → Option (D × St)))) (lq:List (Nat × (List D → List (Option (Bool × Nat × List D)) → Option D))):Tbl := { p := look l,i := look li,m := fun _ => none,q := look lq }
theorem tbq_p (l:List (Nat × (List D → Option D))) (li:List (Nat × (List D → St → Option (D × St)))) (lq:List (Nat × (List D → List (Option (Bool × Nat × List D)) → Option D))) (n:Nat):(tbq l li lq).p n = look l n := (rfl)
theorem tbq_i (l:List (Nat × (List D → Option D))) (li:List (Nat × (List D → St → Option (D × St)))) (lq:List (Nat × (List D → List (Option (Bool × Nat × List D)) → Option D))) (n:Nat):(tbq l li lq).i n = look li n := (rfl)
theorem tbq_q (l:List (Nat × (List D → Option D))) (li:List (Nat × (List D → St → Option (D × St)))) (lq:List (Nat × (List D → List (Option (Bool × Nat × List D)) → Option D))) (n:Nat):(tbq l li lq).q n = look lq n := (rfl)
theorem tbq_ok {P:Program} {G:Glob} {l:List (Nat × (List D → Option D))} {li:List (Nat × (List D → St → Option (D × St)))} {lq:List (Nat × (List D → List (Option (Bool × Nat × List D)) → Option D))} (h:∀ x ∈ l,Contract P G x.1 x.2) (hi:∀ x ∈ li,IContract P G x.1 x.2)
  (hq:∀ x ∈ lq,IContract P G x.1 (fun ds st => (reads1 x.2 ds st).map (·,st))) (hlt:l.all (fun x => decide (x.1 < 50000000)) = true := by rfl):TblOK P G (tbq l li lq) :=
 ⟨fun _ _ hs => .inl ⟨of_decide_eq_true (List.all_eq_true.1 hlt _ (look_mem hs)),h _ (look_mem hs)⟩,fun _ _ hs => hi _ (look_mem hs),fun _ _ hs => (by cases hs),fun _ _ hs => (by cases hs),fun _ _ hs => (by cases hs),fun _ _ hs => hq _ (look_mem hs)⟩
theorem all_nil {α:Type} {p:α → Prop}:∀ x ∈ ([]:List α),p x := fun _ h => by cases h
theorem all_cons {α:Type} {p:α → Prop} {a:α} {l:List α} (h:p a) (hl:∀ x ∈ l,p x):∀ x ∈ a :: l,p x := by
 intro x hx
 rcases List.mem_cons.1 hx with rfl | hx
 ·exact h
 ·exact hl x hx
theorem contract_of {P:Program} {G:Glob} {T:Tbl} {il:List Nat} {f:Nat} {hints:List (List Nat)} {F:PF} (ht:trF P il f hints = some F) (hT:TblOK P G T) {α:Type} {enc:α → List D} {pre:α → Prop} {r:α → D}
  (h:∀ a,pre a → @wW G T F.code (argF (enc a)) [] ⟨retQ F.res (r a)⟩) (hy:T.y = fun _ _ _ => none := by rfl):Contract P G f (spOf enc pre r) := by
 refine fun_spec hT hy ht fun ds d hd => ?_
 obtain ⟨a,rfl,hp,rfl⟩ := spOf_inv hd
 exact run_of_W (W_of (h a hp))
theorem digs_iff {a b:List Dig}:a.map digD = b.map digD ↔ a = b := ⟨map_inj fun _ _ => digD_inj,fun h => by rw [h]⟩
theorem dig_iff {a b:Dig}:digD a = digD b ↔ a = b := ⟨digD_inj,fun h => by rw [h]⟩
theorem digC_iff {a b:Dig}:digC a = digC b ↔ a = b := ⟨digC_inj,fun h => by rw [h]⟩
theorem bytes_iff {a b:List UInt8}:a.map byteD = b.map byteD ↔ a = b := ⟨bytes_inj,fun h => by rw [h]⟩
theorem nz_nz (sz:Nat) (els:List D):nz (nz sz els) els = nz sz els := by cases els <;> rfl
theorem nz_nil (sz:Nat):nz sz [] = 0 := (rfl)
theorem nz_cons (sz:Nat) (a:D) (l:List D):nz sz (a :: l) = sz := (rfl)
theorem nz_zero (els:List D):nz 0 els = 0 := by cases els <;> rfl
theorem nz_or (sz:Nat) (els:List D):nz sz els = sz ∨ els = [] := by cases els <;> simp [nz]
theorem idxS_nz {α:Type} [Inhabited α] (st:St) (sz:Nat) (f:α → D) (l:List α) (t:Bool) (k:IntKind) (i:Int) (h0:0 ≤ i) (h1:i < (l.length:Int)) :
  pidxS st sz (.slc (nz sz (l.map f)) (l.map f) t) (.int k i) = some (.eptr (f (l.getD i.toNat default)) 0) := by
 have:nz sz (l.map f) = sz := by
  rcases nz_or sz (l.map f) with h | h
  ·exact h
  ·have:l.length = 0 := by simpa using congrArg List.length h
   omega
 rw [this]
 exact idxS_slc st sz f l t k i h0 h1
attribute [push_cast] nz_nz nz_nil nz_cons nz_zero tb_p tb_i tb_m tbr_p tbr_i tbr_r tbx_p tbx_i tbx_x tbq_p tbq_i tbq_q look_nil look_cons List.map_nil
end Go.Proofs.YtlleccmnjpcogaaDoor.PI
