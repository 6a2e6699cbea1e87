/-
  From what a function computes to its contract: specs over encodings, tables of specs.
  Conditions: none; these are definitions and lemmas.
-/
import Derived.Test.YtlleccmnjpcogaaDoorEngS
namespace Go.Proofs.YtlleccmnjpcogaaDoor.PI
open Go
noncomputable def spOf {α:Type} (enc:α → List D) (pre:α → Prop) (f:α → D):List D → Option D :=
 fun ds => @dite _ (∃ a,enc a = ds ∧ pre a) (Classical.propDecidable _) (fun h => some (f h.choose)) (fun _ => none)
theorem spOf_inv {α:Type} {enc:α → List D} {pre:α → Prop} {f:α → D} {ds:List D} {d:D} (h:spOf enc pre f ds = some d):∃ a,enc a = ds ∧ pre a ∧ f a = d := by
 unfold spOf at h
 split at h
 ·rename_i hx
  simp only [yez] at h
  exact ⟨hx.choose,hx.choose_spec.1,hx.choose_spec.2,h⟩
 ·cases h
theorem yad {α:Type} {enc:α → List D} {pre:α → Prop} {f:α → D} (hinj:∀ a b,enc a = enc b → a = b) (a:α) (hp:pre a):spOf enc pre f (enc a) = some (f a) := by
 have hx:∃ b,enc b = enc a ∧ pre b := ⟨a,rfl,hp⟩
 unfold spOf
 rw [dif_pos hx]
 rw [hinj _ _ hx.choose_spec.1]
def look {α:Type}:List (Nat × α) → Nat → Option α
 | [],_ => none
 | (k,a) :: r,n => if n = k then some a else look r n
def tb (l:List (Nat × (List D → Option D))) (li:List (Nat × (List D → St → Option (D × St)))) (lm:List (Nat × (List D → Option ((Nat → D) × (Nat → List Obj)))) := []):Tbl := { p := look l,i := look li,m := look lm }
theorem tb_p (l:List (Nat × (List D → Option D))) (li:List (Nat × (List D → St → Option (D × St)))) (lm:List (Nat × (List D → Option ((Nat → D) × (Nat → List Obj))))) (n:Nat):(tb l li lm).p n = look l n := (rfl)
theorem tb_i (l:List (Nat × (List D → Option D))) (li:List (Nat × (List D → St → Option (D × St)))) (lm:List (Nat × (List D → Option ((Nat → D) × (Nat → List Obj))))) (n:Nat):(tb l li lm).i n = look li n := (rfl)
theorem look_cons {α:Type} (k:Nat) (a:α) (r:List (Nat × α)) (n:Nat):look ((k,a) :: r) n = if n = k then some a else look r n := (rfl)
theorem ydu {α:Type}:∀ {l:List (Nat × α)} {n:Nat} {a:α},look l n = some a → (n,a) ∈ l
 | [],_,_,h => by cases h
 | (k,b) :: r,n,a,h => by
  simp only [look] at h
  split at h
  ·rename_i e
   simp only [yez] at h
   subst h; subst e
   simp
  ·exact List.mem_cons_of_mem _ (ydu h)
theorem tb_ok {P:Program} {G:Glob} {l:List (Nat × (List D → Option D))} {li:List (Nat × (List D → St → Option (D × St)))} (h:∀ x ∈ l,Contract P G x.1 x.2) (hi:∀ x ∈ li,IContract P G x.1 x.2) (hlt:l.all (fun x => decide (x.1 < 50000000)) = true := by rfl):TblOK P G (tb l li) :=
 ⟨fun _ _ hs => .inl ⟨of_decide_eq_true (List.all_eq_true.1 hlt _ (ydu hs)),h _ (ydu hs)⟩,fun _ _ hs => hi _ (ydu hs),fun _ _ hs => (by cases hs),fun _ _ hs => (by cases hs),fun _ _ hs => (by cases hs),fun _ _ hs => (by cases hs)⟩
def tbr (l:List (Nat × (List D → Option D))) (li:List (Nat × (List D → St → Option (D × St)))) (lr:List (Nat × ((List D → St → Option (D × St)) → List D → St → Option (D × St)))):Tbl := { p := look l,i := look li,m := fun _ => none,r := look lr }
theorem tbr_p (l:List (Nat × (List D → Option D))) (li:List (Nat × (List D → St → Option (D × St)))) (lr:List (Nat × ((List D → St → Option (D × St)) → List D → St → Option (D × St)))) (n:Nat):(tbr l li lr).p n = look l n := (rfl)
theorem tbr_i (l:List (Nat × (List D → Option D))) (li:List (Nat × (List D → St → Option (D × St)))) (lr:List (Nat × ((List D → St → Option (D × St)) → List D → St → Option (D × St)))) (n:Nat):(tbr l li lr).i n = look li n := (rfl)
theorem tbr_ok {P:Program} {G:Glob} {l:List (Nat × (List D → Option D))} {li:List (Nat × (List D → St → Option (D × St)))} {lr:List (Nat × ((List D → St → Option (D × St)) → List D → St → Option (D × St)))} (h:∀ x ∈ l,Contract P G x.1 x.2) (hi:∀ x ∈ li,IContract P G x.1 x.2)
  (hr:∀ x ∈ lr,YIContract P G x.1 x.2) (hlt:l.all (fun x => decide (x.1 < 50000000)) = true := by rfl):TblOK P G (tbr l li lr) :=
 ⟨fun _ _ hs => .inl ⟨of_decide_eq_true (List.all_eq_true.1 hlt _ (ydu hs)),h _ (ydu hs)⟩,fun _ _ hs => hi _ (ydu hs),fun _ _ hs => (by cases hs),fun _ _ hs => hr _ (ydu hs),fun _ _ hs => (by cases hs),fun _ _ hs => (by cases hs)⟩
def tbq (l:List (Nat × (List D → Option D))) (li:List (Nat × (List D → St → Option (D × St)))) (lq:List (Nat × (List D → List (Option (Bool × Nat × List D)) → Option D))):Tbl := { p := look l,i := look li,m := fun _ => none,q := look lq }
theorem tbq_p (l:List (Nat × (List D → Option D))) (li:List (Nat × (List D → St → Option (D × St)))) (lq:List (Nat × (List D → List (Option (Bool × Nat × List D)) → Option D))) (n:Nat):(tbq l li lq).p n = look l n := (rfl)
theorem tbq_i (l:List (Nat × (List D → Option D))) (li:List (Nat × (List D → St → Option (D × St)))) (lq:List (Nat × (List D → List (Option (Bool × Nat × List D)) → Option D))) (n:Nat):(tbq l li lq).i n = look li n := (rfl)
theorem tbq_q (l:List (Nat × (List D → Option D))) (li:List (Nat × (List D → St → Option (D × St)))) (lq:List (Nat × (List D → List (Option (Bool × Nat × List D)) → Option D))) (n:Nat):(tbq l li lq).q n = look lq n := (rfl)
theorem tbq_ok {P:Program} {G:Glob} {l:List (Nat × (List D → Option D))} {li:List (Nat × (List D → St → Option (D × St)))} {lq:List (Nat × (List D → List (Option (Bool × Nat × List D)) → Option D))} (h:∀ x ∈ l,Contract P G x.1 x.2) (hi:∀ x ∈ li,IContract P G x.1 x.2)
  (hq:∀ x ∈ lq,IContract P G x.1 (fun ds st => (ydf x.2 ds st).map (·,st))) (hlt:l.all (fun x => decide (x.1 < 50000000)) = true := by rfl):TblOK P G (tbq l li lq) :=
 ⟨fun _ _ hs => .inl ⟨of_decide_eq_true (List.all_eq_true.1 hlt _ (ydu hs)),h _ (ydu hs)⟩,fun _ _ hs => hi _ (ydu hs),fun _ _ hs => (by cases hs),fun _ _ hs => (by cases hs),fun _ _ hs => (by cases hs),fun _ _ hs => hq _ (ydu hs)⟩
theorem all_nil {α:Type} {p:α → Prop}:∀ x ∈ ([]:List α),p x := fun _ h => by cases h
theorem all_cons {α:Type} {p:α → Prop} {a:α} {l:List α} (h:p a) (hl:∀ x ∈ l,p x):∀ x ∈ a :: l,p x := by
 intro x hx
 rcases List.mem_cons.1 hx with rfl | hx
 ·exact h
 ·exact hl x hx
theorem yab {P:Program} {G:Glob} {T:Tbl} {il:List Nat} {f:Nat} {hints:List (List Nat)} {F:PF} (ht:trF P il f hints = some F) (hT:TblOK P G T) {α:Type} {enc:α → List D} {pre:α → Prop} {r:α → D}
  (h:∀ a,pre a → @wW G T F.code (argF (enc a)) [] ⟨retQ F.res (r a)⟩) (hy:T.y = fun _ _ _ => none := by rfl):Contract P G f (spOf enc pre r) := by
 refine fun_spec hT hy ht fun ds d hd => ?_
 obtain ⟨a,rfl,hp,rfl⟩ := spOf_inv hd
 exact run_of_W (W_of (h a hp))
theorem ydv {a b:List Dig}:a.map digD = b.map digD ↔ a = b := ⟨map_inj fun _ _ => digD_inj,fun h => by rw [h]⟩
theorem dig_iff {a b:Dig}:digD a = digD b ↔ a = b := ⟨digD_inj,fun h => by rw [h]⟩
theorem digC_iff {a b:Dig}:digC a = digC b ↔ a = b := ⟨digC_inj,fun h => by rw [h]⟩
theorem bytes_iff {a b:List UInt8}:a.map byteD = b.map byteD ↔ a = b := ⟨bytes_inj,fun h => by rw [h]⟩
theorem nz_nz (sz:Nat) (els:List D):nz (nz sz els) els = nz sz els := by cases els <;> rfl
theorem nz_nil (sz:Nat):nz sz [] = 0 := (rfl)
theorem nz_cons (sz:Nat) (a:D) (l:List D):nz sz (a :: l) = sz := (rfl)
theorem nz_or (sz:Nat) (els:List D):nz sz els = sz ∨ els = [] := by cases els <;> simp [nz]
theorem ydm {α:Type} [Inhabited α] (st:St) (sz:Nat) (f:α → D) (l:List α) (t:Bool) (k:IntKind) (i:Int) (h0:0 ≤ i) (h1:i < (l.length:Int)) :
  pidxS st sz (.slc (nz sz (l.map f)) (l.map f) t) (.int k i) = some (.eptr (f (l.getD i.toNat default)) 0) := by
 have:nz sz (l.map f) = sz := by
  rcases nz_or sz (l.map f) with h | h
  ·exact h
  ·have:l.length = 0 := by simpa using congrArg List.length h
   omega
 rw [this]
 exact idxS_slc st sz f l t k i h0 h1
attribute [push_cast] nz_nz nz_nil nz_cons tb_p tb_i tbr_p tbr_i tbq_p tbq_i tbq_q look_cons List.map_nil
end Go.Proofs.YtlleccmnjpcogaaDoor.PI
