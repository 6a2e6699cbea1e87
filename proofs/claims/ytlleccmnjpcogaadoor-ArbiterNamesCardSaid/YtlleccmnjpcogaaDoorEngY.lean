/-
  A predicate transformer over the pure code, laid out for rewriting; and that what it says is what the code comes to.
  Conditions: none; these are definitions and lemmas.
-/
import Derived.Test.YtlleccmnjpcogaaDoorEngW
set_option linter.unusedVariables false
set_option linter.unusedSimpArgs false
namespace Go.Proofs.YtlleccmnjpcogaaDoor.PI
open Go
class Cont (α:Type):Type where
 mk ::
 run:α → Prop
class Cont2 (α β:Type):Type where
 mk ::
 run:α → β → Prop
class QC:Type where
 mk ::
 run:Ex → Frame → St → Prop
class InvC:Type where
 mk ::
 run:PS → Prop
class Br:Type where
 mk ::
 run:Prop
def on {α:Type} (o:Option α) [k:Cont α]:Prop := match o with
 | some a => k.run a
 | none => False
theorem on_some {α:Type} (a:α) (K:α → Prop):@on α (some a) ⟨K⟩ = K a := (rfl)
theorem on_none {α:Type} (k:Cont α):@on α none k = False := (rfl)
def onB (d:D) [k:Cont Bool]:Prop := match d with
 | .bool b => k.run b
 | _ => False
theorem onB_bool (b:Bool) (K:Bool → Prop):@onB (.bool b) ⟨K⟩ = K b := (rfl)
def ifB (b:Bool) [x:Br] [y:Br]:Prop := if b = true then x.run else y.run
theorem ifB_true (x:Prop) (y:Br):@ifB true ⟨x⟩ y = x := (rfl)
theorem ifB_false (x:Br) (y:Prop):@ifB false x ⟨y⟩ = y := (rfl)
theorem ifB_not (b:Bool) (x y:Br):@ifB (!b) x y = @ifB b y x := by cases b <;> rfl
theorem ifD_split {p:Prop} [Decidable p] {x y:Prop} (h1:p → x) (h2:¬ p → y):@ifB (decide p) ⟨x⟩ ⟨y⟩ := by
 by_cases h:p
 ·rw [show decide p = true by simpa using h]; exact h1 h
 ·rw [show decide p = false by simpa using h]; exact h2 h
def ev (d:D) [k:Cont D]:Prop := k.run d
theorem ev_eq (d:D) (K:D → Prop):@ev d ⟨K⟩ = K d := (rfl)
def ev2 (d:D) (st:St) [k:Cont2 D St]:Prop := k.run d st
theorem ev2_eq (d:D) (st:St) (K:D → St → Prop):@ev2 d st ⟨K⟩ = K d st := (rfl)
def kOp (T:Tbl) (op:POp) (ρ:PA → D) (st:St) (K:D → St → Prop):Prop := @on _ (op.exec T ρ st) ⟨fun p => K p.1 p.2⟩
def kG (fr:Frame) (g:Option (Nat × Bool)) (x y:Prop):Prop := match g with
 | none => x
 | some (s,want) => match fr s with
  | .bool b => @ifB (b == want) ⟨x⟩ ⟨y⟩
  | .tup [] => y
  | _ => False
def kOps (G:Glob) (T:Tbl):List PI → Frame → St → (Frame → St → Prop) → Prop
 | [],fr,st,K => K fr st
 | i :: l,fr,st,K => kG fr i.guard (kOp T i.op (rho G fr) st fun d st' => kOps G T l (fr.put i.dst d) st' K) (kOps G T l (fr.put i.dst (.tup [])) st K)
theorem kOps_sound {G:Glob} {T:Tbl}:∀ (l:List PI) (fr:Frame) (st:St) (K:Frame → St → Prop),kOps G T l fr st K → ∃ fr' st',execs G T l ⟨fr,st⟩ = some ⟨fr',st'⟩ ∧ K fr' st'
 | [],fr,st,K,h => ⟨fr,st,rfl,h⟩
 | i :: l,fr,st,K,h => by
  have yes:kOp T i.op (rho G fr) st (fun d st' => kOps G T l (fr.put i.dst d) st' K) → i.wanted fr = some true → ∃ fr' st',execs G T (i :: l) ⟨fr,st⟩ = some ⟨fr',st'⟩ ∧ K fr' st' := by
   intro h hw
   unfold kOp on at h
   split at h
   ·rename_i p hp
    obtain ⟨fr',st',h1,h2⟩ := kOps_sound l _ _ K h
    exact ⟨fr',st',by simp only [execs,PI.exec,hw,hp,h1],h2⟩
   ·exact h.elim
  have no:kOps G T l (fr.put i.dst (.tup [])) st K → i.wanted fr = some false → ∃ fr' st',execs G T (i :: l) ⟨fr,st⟩ = some ⟨fr',st'⟩ ∧ K fr' st' := by
   intro h hw
   obtain ⟨fr',st',h1,h2⟩ := kOps_sound l _ _ K h
   exact ⟨fr',st',by simp only [execs,PI.exec,hw,h1],h2⟩
  rw [kOps] at h
  unfold kG at h
  split at h
  ·rename_i hg
   exact yes h (by simp [PI.wanted,hg])
  ·rename_i s want hg
   split at h
   ·rename_i b hb
    have hw:i.wanted fr = some (b == want) := by simp [PI.wanted,hg,hb]
    cases hbw:(b == want) with
    | true => rw [hbw] at h hw; exact yes h hw
    | false => rw [hbw] at h hw; exact no h hw
   ·rename_i hb
    exact no h (by simp [PI.wanted,hg,hb])
   ·exact h.elim
def kOpX (T:Tbl) (op:POp) (ρ:PA → D) (st:St) (K:D → St → Prop) (X:Nat → D → St → Prop):Prop := match op.exec T ρ st with
 | some p => K p.1 p.2
 | none => match op.execX T ρ st with
  | some r => X r.1 r.2.1 r.2.2
  | none => False
def kOpsX (G:Glob) (T:Tbl):List PI → Frame → St → (Frame → St → Prop) → (Nat → D → Frame → St → Prop) → Prop
 | [],fr,st,K,_ => K fr st
 | i :: l,fr,st,K,X => kG fr i.guard (kOpX T i.op (rho G fr) st (fun d st' => kOpsX G T l (fr.put i.dst d) st' K X) (fun t d st' => X t d fr st')) (kOpsX G T l (fr.put i.dst (.tup [])) st K X)
theorem kOpsX_sound {G:Glob} {T:Tbl}:∀ (l:List PI) (fr:Frame) (st:St) (K:Frame → St → Prop) (X:Nat → D → Frame → St → Prop),kOpsX G T l fr st K X →
  (∃ fr' st',execs G T l ⟨fr,st⟩ = some ⟨fr',st'⟩ ∧ K fr' st') ∨ ∃ t d fr' st',execs G T l ⟨fr,st⟩ = none ∧ execsX G T l ⟨fr,st⟩ = some (t,d,⟨fr',st'⟩) ∧ X t d fr' st'
 | [],fr,st,K,X,h => .inl ⟨fr,st,rfl,h⟩
 | i :: l,fr,st,K,X,h => by
  have yes:kOpX T i.op (rho G fr) st (fun d st' => kOpsX G T l (fr.put i.dst d) st' K X) (fun t d st' => X t d fr st') → i.wanted fr = some true →
    (∃ fr' st',execs G T (i :: l) ⟨fr,st⟩ = some ⟨fr',st'⟩ ∧ K fr' st') ∨ ∃ t d fr' st',execs G T (i :: l) ⟨fr,st⟩ = none ∧ execsX G T (i :: l) ⟨fr,st⟩ = some (t,d,⟨fr',st'⟩) ∧ X t d fr' st' := by
   intro h hw
   unfold kOpX at h
   split at h
   ·rename_i p hp
    rcases kOpsX_sound l _ _ K X h with ⟨fr',st',h1,h2⟩ | ⟨t,d,fr',st',h1,h2,h3⟩
    ·exact .inl ⟨fr',st',by simp only [execs,PI.exec,hw,hp,h1],h2⟩
    ·exact .inr ⟨t,d,fr',st',by simp only [execs,PI.exec,hw,hp,h1],by simp only [execsX,PI.exec,hw,hp,h2],h3⟩
   ·rename_i hn
    split at h
    ·rename_i r hr
     exact .inr ⟨r.1,r.2.1,fr,r.2.2,by simp only [execs,PI.exec,hw,hn],by simp only [execsX,PI.exec,PI.execX,hw,hn,hr,Option.map_some],h⟩
    ·exact h.elim
  have no:kOpsX G T l (fr.put i.dst (.tup [])) st K X → i.wanted fr = some false →
    (∃ fr' st',execs G T (i :: l) ⟨fr,st⟩ = some ⟨fr',st'⟩ ∧ K fr' st') ∨ ∃ t d fr' st',execs G T (i :: l) ⟨fr,st⟩ = none ∧ execsX G T (i :: l) ⟨fr,st⟩ = some (t,d,⟨fr',st'⟩) ∧ X t d fr' st' := by
   intro h hw
   rcases kOpsX_sound l _ _ K X h with ⟨fr',st',h1,h2⟩ | ⟨t,d,fr',st',h1,h2,h3⟩
   ·exact .inl ⟨fr',st',by simp only [execs,PI.exec,hw,h1],h2⟩
   ·exact .inr ⟨t,d,fr',st',by simp only [execs,PI.exec,hw,h1],by simp only [execsX,PI.exec,hw,h2],h3⟩
  rw [kOpsX] at h
  unfold kG at h
  split at h
  ·rename_i hg
   exact yes h (by simp [PI.wanted,hg])
  ·rename_i s want hg
   split at h
   ·rename_i b hb
    have hw:i.wanted fr = some (b == want) := by simp [PI.wanted,hg,hb]
    cases hbw:(b == want) with
    | true => rw [hbw] at h hw; exact yes h hw
    | false => rw [hbw] at h hw; exact no h hw
   ·rename_i hb
    exact no h (by simp [PI.wanted,hg,hb])
   ·exact h.elim
theorem kOpX_mono {T:Tbl} {op:POp} {ρ:PA → D} {st:St} {K K':D → St → Prop} {X X':Nat → D → St → Prop} (h:kOpX T op ρ st K X) (hk:∀ d st,K d st → K' d st) (hx:∀ t d st,X t d st → X' t d st):kOpX T op ρ st K' X' := by
 unfold kOpX at h ⊢
 cases h1:op.exec T ρ st with
 | some p => rw [h1] at h; exact hk _ _ h
 | none =>
  rw [h1] at h
  cases h2:op.execX T ρ st with
  | some r => rw [h2] at h; exact hx _ _ _ h
  | none => rw [h2] at h; exact h
theorem kG_mono {fr:Frame} {g:Option (Nat × Bool)} {x y x' y':Prop} (h:kG fr g x y) (hx:x → x') (hy:y → y'):kG fr g x' y' := by
 unfold kG at h ⊢
 revert h
 split
 ·exact hx
 ·split
  ·unfold ifB
   split
   ·exact hx
   ·exact hy
  ·exact hy
  ·exact id
theorem kOpsX_mono {G:Glob} {T:Tbl}:∀ (l:List PI) (fr:Frame) (st:St) (K K':Frame → St → Prop) (X X':Nat → D → Frame → St → Prop),kOpsX G T l fr st K X → (∀ fr st,K fr st → K' fr st) → (∀ t d fr st,X t d fr st → X' t d fr st) → kOpsX G T l fr st K' X'
 | [],_,_,_,_,_,_,h,hk,_ => hk _ _ h
 | i :: l,fr,st,K,K',X,X',h,hk,hx => by
  rw [kOpsX] at h ⊢
  exact kG_mono h (fun h => kOpX_mono h (fun _ _ h => kOpsX_mono l _ _ _ _ _ _ h hk hx) fun _ _ _ h => hx _ _ _ _ h) fun h => kOpsX_mono l _ _ _ _ _ _ h hk hx
class XC:Type where
 mk ::
 run:Nat → D → Frame → St → Prop
class XC0:Type where
 mk ::
 run:Nat → D → St → Prop
def wOpsX (G:Glob) (T:Tbl) (l:List PI) (fr:Frame) (st:St) [K:Cont2 Frame St] [X:XC]:Prop := kOpsX G T l fr st K.run X.run
def wOpX (T:Tbl) (op:POp) (ρ:PA → D) (st:St) [K:Cont2 D St] [X:XC0]:Prop := kOpX T op ρ st K.run X.run
theorem wOpsX_nil (G:Glob) (T:Tbl) (fr:Frame) (st:St) (K:Frame → St → Prop) (X:XC):@wOpsX G T [] fr st ⟨K⟩ X = K fr st := (rfl)
def onX (o:Option (D × St)) (p:Option (Nat × D × St)) [K:Cont2 D St] [X:XC0]:Prop := match o with
 | some r => K.run r.1 r.2
 | none => match p with
  | some r => X.run r.1 r.2.1 r.2.2
  | none => False
theorem onX_some (d:D) (st:St) (p:Option (Nat × D × St)) (K:D → St → Prop) (X:XC0):@onX (some (d,st)) p ⟨K⟩ X = K d st := (rfl)
theorem onX_panic (t:Nat) (d:D) (st:St) (K:Cont2 D St) (X:Nat → D → St → Prop):@onX none (some (t,d,st)) K ⟨X⟩ = X t d st := (rfl)
def maySp (o:Option (List D → St → Option (D × St))) (ds:List D) (st:St):Option (D × St) := match o with
 | some sp => sp ds st
 | none => none
theorem maySp_some (sp:List D → St → Option (D × St)) (ds:List D) (st:St):maySp (some sp) ds st = sp ds st := (rfl)
theorem maySp_none (ds:List D) (st:St):maySp none ds st = none := (rfl)
def maySx (o:Option (List D → St → Option (Nat × D × St))) (ds:List D) (st:St):Option (Nat × D × St) := match o with
 | some sp => sp ds st
 | none => none
theorem maySx_some (sp:List D → St → Option (Nat × D × St)) (ds:List D) (st:St):maySx (some sp) ds st = sp ds st := (rfl)
theorem maySx_none (ds:List D) (st:St):maySx none ds st = none := (rfl)
theorem wOpX_icall (T:Tbl) (f:Nat) (args:List PA) (ρ:PA → D) (st:St) (K:Cont2 D St) (X:XC0):@wOpX T (.icall f args) ρ st K X = @onX (maySp (T.i f) (args.map ρ) st) (maySx (T.x f) (args.map ρ) st) K X := by
 simp only [wOpX,kOpX,POp.exec,onX,maySp,maySx,POp.execX,POp.callee]
 cases T.i f <;> cases T.x f <;> rfl
def calD (d:D) (ds:List D):Option (Nat × List D) := match d with
 | .clo f caps => if f < 5000000 then some (f,ds ++ caps) else if f < 10000000 then some (f - 5000000,caps ++ ds) else none
 | _ => none
def POp.tame:POp → Bool
 | .icall _ _ | .callv _ _ => false
 | _ => true
theorem wOpX_tame (T:Tbl) (op:POp) (ρ:PA → D) (st:St) (K:Cont2 D St) (X:XC0) (h:op.tame = true):@wOpX T op ρ st K X = kOp T op ρ st K.run := by
 have:op.execX T ρ st = none := by
  cases op <;> first | rfl | (simp [POp.tame] at h; done)
 simp only [wOpX,kOpX,kOp,on,this]
 cases op.exec T ρ st <;> rfl
def kF (fs:List (Option Foot)) (b:Bool) (cs:List Nat) (f:Option Foot) (K:List (Option Foot) → Prop):Prop := @ifB (ckF fs f cs) ⟨K (fs ++ [if b then f else none])⟩ ⟨False⟩
theorem kF_spec {fs:List (Option Foot)} {b:Bool} {cs:List Nat} {f:Option Foot} {K:List (Option Foot) → Prop} (h:kF fs b cs f K):ckF fs f cs = true ∧ K (fs ++ [if b then f else none]) := by
 unfold kF ifB at h
 split at h
 ·exact ⟨by assumption,h⟩
 ·exact h.elim
theorem kF_mono {fs:List (Option Foot)} {b:Bool} {cs:List Nat} {f:Option Foot} {K K':List (Option Foot) → Prop} (h:kF fs b cs f K) (hk:∀ fs,K fs → K' fs):kF fs b cs f K' := by
 obtain ⟨h1,h2⟩ := kF_spec h
 unfold kF ifB
 rw [if_pos h1]
 exact hk _ h2
def kAny (G:Glob) (T:Tbl):List (PI × Bool × List Nat) → List (Option Foot) → Frame → St → (Frame → St → Prop) → Prop
 | [],_,fr,st,K => K fr st
 | i :: l,fs,fr,st,K => kG fr i.1.guard (kF fs i.2.1 i.2.2 (i.1.op.foot (rho G fr) st) fun fs' => kOp T i.1.op (rho G fr) st fun d st' => kAny G T l fs' (fr.put i.1.dst d) st' K)
   (kF fs i.2.1 i.2.2 (some emptyF) fun fs' => kAny G T l fs' (fr.put i.1.dst (.tup [])) st K)
theorem kAny_sound {G:Glob} {T:Tbl}:∀ (l:List (PI × Bool × List Nat)) (fs:List (Option Foot)) (fr:Frame) (st:St) (K:Frame → St → Prop),kAny G T l fs fr st K → ∃ fr' st',anys G T l fs ⟨fr,st⟩ = some ⟨fr',st'⟩ ∧ K fr' st'
 | [],_,fr,st,K,h => ⟨fr,st,rfl,h⟩
 | (i,b,cs) :: l,fs,fr,st,K,h => by
  have yes:kF fs b cs (i.op.foot (rho G fr) st) (fun fs' => kOp T i.op (rho G fr) st fun d st' => kAny G T l fs' (fr.put i.dst d) st' K) → i.wanted fr = some true → ∃ fr' st',anys G T ((i,b,cs) :: l) fs ⟨fr,st⟩ = some ⟨fr',st'⟩ ∧ K fr' st' := by
   intro h hw
   obtain ⟨h1,h⟩ := kF_spec h
   unfold kOp on at h
   split at h
   ·rename_i p hp
    obtain ⟨fr',st',h2,h3⟩ := kAny_sound l _ _ _ K h
    have hf:i.foot G ⟨fr,st⟩ = i.op.foot (rho G fr) st := by simp [PI.foot,hw]
    have hx:i.exec G T ⟨fr,st⟩ = some ⟨fr.put i.dst p.1,p.2⟩ := by simp only [PI.exec,hw,hp]
    exact ⟨fr',st',by simp only [anys,hf,h1,if_true,hx,h2],h3⟩
   ·exact h.elim
  have no:kF fs b cs (some emptyF) (fun fs' => kAny G T l fs' (fr.put i.dst (.tup [])) st K) → i.wanted fr = some false → ∃ fr' st',anys G T ((i,b,cs) :: l) fs ⟨fr,st⟩ = some ⟨fr',st'⟩ ∧ K fr' st' := by
   intro h hw
   obtain ⟨h1,h⟩ := kF_spec h
   obtain ⟨fr',st',h2,h3⟩ := kAny_sound l _ _ _ K h
   have hf:i.foot G ⟨fr,st⟩ = some emptyF := by simp [PI.foot,hw]
   have hx:i.exec G T ⟨fr,st⟩ = some ⟨fr.put i.dst (.tup []),st⟩ := by simp only [PI.exec,hw]
   exact ⟨fr',st',by simp only [anys,hf,h1,if_true,hx,h2],h3⟩
  rw [kAny] at h
  unfold kG at h
  split at h
  ·rename_i hg
   exact yes h (by simp only at hg; simp [PI.wanted,hg])
  ·rename_i s want hg
   simp only at hg
   split at h
   ·rename_i b hb
    have hw:i.wanted fr = some (b == want) := by simp [PI.wanted,hg,hb]
    cases hbw:(b == want) with
    | true => rw [hbw] at h hw; exact yes h hw
    | false => rw [hbw] at h hw; exact no h hw
   ·rename_i hb
    exact no h (by simp [PI.wanted,hg,hb])
   ·exact h.elim
theorem kAny_mono {G:Glob} {T:Tbl}:∀ (l:List (PI × Bool × List Nat)) (fs:List (Option Foot)) (fr:Frame) (st:St) (K K':Frame → St → Prop),kAny G T l fs fr st K → (∀ fr st,K fr st → K' fr st) → kAny G T l fs fr st K'
 | [],_,_,_,_,_,h,hk => hk _ _ h
 | i :: l,fs,fr,st,K,K',h,hk => by
  have h1:kF fs i.2.1 i.2.2 (i.1.op.foot (rho G fr) st) (fun fs' => kOp T i.1.op (rho G fr) st fun d st' => kAny G T l fs' (fr.put i.1.dst d) st' K) → kF fs i.2.1 i.2.2 (i.1.op.foot (rho G fr) st) (fun fs' => kOp T i.1.op (rho G fr) st fun d st' => kAny G T l fs' (fr.put i.1.dst d) st' K') := by
   refine fun h => kF_mono h fun fs' => ?_
   unfold kOp on
   split
   ·exact fun h => kAny_mono l _ _ _ _ _ h hk
   ·exact id
  have h2:kF fs i.2.1 i.2.2 (some emptyF) (fun fs' => kAny G T l fs' (fr.put i.1.dst (.tup [])) st K) → kF fs i.2.1 i.2.2 (some emptyF) (fun fs' => kAny G T l fs' (fr.put i.1.dst (.tup [])) st K') := fun h => kF_mono h fun fs' h => kAny_mono l _ _ _ _ _ h hk
  rw [kAny] at h ⊢
  unfold kG at h ⊢
  revert h
  split
  ·exact h1
  ·split
   ·unfold ifB
    split
    ·exact fun h => h1 h
    ·exact fun h => h2 h
   ·exact h2
   ·exact id
class FsC:Type where
 mk ::
 run:List (Option Foot) → Prop
def wF (fs:List (Option Foot)) (b:Bool) (cs:List Nat) (f:Option Foot) [K:FsC]:Prop := kF fs b cs f K.run
theorem wF_free (fs:List (Option Foot)) (f:Option Foot) (K:List (Option Foot) → Prop):@wF fs false [] f ⟨K⟩ = K (fs ++ [none]) := (rfl)
def fsE (l:List (Option Foot)) [K:FsC]:Prop := K.run l
theorem fsE_eq (l:List (Option Foot)) (K:List (Option Foot) → Prop):@fsE l ⟨K⟩ = K l := (rfl)
theorem wF_true (fs:List (Option Foot)) (f:Foot) (K:FsC):@wF fs true [] (some f) K = @fsE (fs ++ [some f]) K := (rfl)
theorem wF_ck (fs:List (Option Foot)) (b:Bool) (j:Nat) (cs:List Nat) (f:Foot) (K:FsC):@wF fs b (j :: cs) (some f) K = @ifB (ckF fs (some f) (j :: cs)) ⟨@fsE (fs ++ [if b then some f else none]) K⟩ ⟨False⟩ := (rfl)
def sameP (a b:PS) [k:Cont PS]:Prop := a = b ∧ k.run a
theorem sameP_refl (a:PS) (K:PS → Prop):@sameP a a ⟨K⟩ = K a := by simp [sameP]
def W2 (keep:List Nat) (n:Nat) (fr1:Frame) (st1:St) (fr2:Frame) (st2:St) (K:PS → Prop):Prop :=
 @ifB (st1.length == n + 2 && st2.length == n + 2) ⟨@sameP (restrictAt keep n [n,n + 1] ⟨fr1,st1⟩) (restrictAt keep n [n + 1,n] ⟨fr2,st2⟩) ⟨K⟩⟩ ⟨False⟩
theorem W2_spec {keep:List Nat} {n:Nat} {fr1 fr2:Frame} {st1 st2:St} {K:PS → Prop} (h:W2 keep n fr1 st1 fr2 st2 K):same2 keep n ⟨fr1,st1⟩ ⟨fr2,st2⟩ = some (restrictAt keep n [n,n + 1] ⟨fr1,st1⟩) ∧ K (restrictAt keep n [n,n + 1] ⟨fr1,st1⟩) := by
 unfold W2 ifB at h
 split at h
 ·rename_i hl
  simp only [Bool.and_eq_true,beq_iff_eq] at hl
  obtain ⟨h1,h2⟩ := h
  refine ⟨?_,h2⟩
  unfold same2
  rw [if_pos ⟨hl.1,hl.2,h1.symm⟩]
 ·exact h.elim
theorem W2_mono {keep:List Nat} {n:Nat} {fr1 fr2:Frame} {st1 st2:St} {K K':PS → Prop} (h:W2 keep n fr1 st1 fr2 st2 K) (hk:∀ s,K s → K' s):W2 keep n fr1 st1 fr2 st2 K' := by
 unfold W2 ifB at h ⊢
 split at h
 ·rename_i hl
  rw [if_pos hl]
  exact ⟨h.1,hk _ h.2⟩
 ·exact h.elim
def wAny (G:Glob) (T:Tbl) (l:List (PI × Bool × List Nat)) (fs:List (Option Foot)) (fr:Frame) (st:St) [K:Cont2 Frame St]:Prop := kAny G T l fs fr st K.run
def wOps (G:Glob) (T:Tbl) (l:List PI) (fr:Frame) (st:St) [K:Cont2 Frame St]:Prop := kOps G T l fr st K.run
def wOp (T:Tbl) (op:POp) (ρ:PA → D) (st:St) [K:Cont2 D St]:Prop := kOp T op ρ st K.run
def wG (fr:Frame) (g:Option (Nat × Bool)) [x:Br] [y:Br]:Prop := kG fr g x.run y.run
def kV (d:D) (want:Bool) [x:Br] [y:Br]:Prop := match d with
 | .bool b => @ifB (b == want) x y
 | .tup [] => y.run
 | _ => False
theorem wOps_nil (G:Glob) (T:Tbl) (fr:Frame) (st:St) (K:Frame → St → Prop):@wOps G T [] fr st ⟨K⟩ = K fr st := (rfl)
theorem wOps_plain (G:Glob) (T:Tbl) (dst:Option Nat) (op:POp) (l:List PI) (fr:Frame) (st:St) (K:Cont2 Frame St) :
  @wOps G T ({ dst,op,guard := none } :: l) fr st K = @wOp T op (rho G fr) st ⟨fun d st' => @wOps G T l (fr.put dst d) st' K⟩ := (rfl)
theorem wOps_guard (G:Glob) (T:Tbl) (dst:Option Nat) (op:POp) (s:Nat) (want:Bool) (l:List PI) (fr:Frame) (st:St) (K:Cont2 Frame St) :
  @wOps G T ({ dst,op,guard := some (s,want) } :: l) fr st K = @kV (fr s) want ⟨@wOp T op (rho G fr) st ⟨fun d st' => @wOps G T l (fr.put dst d) st' K⟩⟩ ⟨@wOps G T l (fr.put dst (.tup [])) st K⟩ := (rfl)
theorem wOpsX_plain (G:Glob) (T:Tbl) (dst:Option Nat) (op:POp) (l:List PI) (fr:Frame) (st:St) (K:Cont2 Frame St) (X:XC) :
  @wOpsX G T ({ dst,op,guard := none } :: l) fr st K X = @wOpX T op (rho G fr) st ⟨fun d st' => @wOpsX G T l (fr.put dst d) st' K X⟩ ⟨fun t d st' => X.run t d fr st'⟩ := (rfl)
theorem wOpsX_guard (G:Glob) (T:Tbl) (dst:Option Nat) (op:POp) (s:Nat) (want:Bool) (l:List PI) (fr:Frame) (st:St) (K:Cont2 Frame St) (X:XC) :
  @wOpsX G T ({ dst,op,guard := some (s,want) } :: l) fr st K X = @kV (fr s) want ⟨@wOpX T op (rho G fr) st ⟨fun d st' => @wOpsX G T l (fr.put dst d) st' K X⟩ ⟨fun t d st' => X.run t d fr st'⟩⟩ ⟨@wOpsX G T l (fr.put dst (.tup [])) st K X⟩ := (rfl)
theorem wOpX_op (T:Tbl) (op:POp) (ρ:PA → D) (st:St) (K:D → St → Prop) (X:XC0) (h:op.tame = true):@wOpX T op ρ st ⟨K⟩ X = @wOp T op ρ st ⟨K⟩ := wOpX_tame T op ρ st ⟨K⟩ X h
theorem wAny_nil (G:Glob) (T:Tbl) (fs:List (Option Foot)) (fr:Frame) (st:St) (K:Frame → St → Prop):@wAny G T [] fs fr st ⟨K⟩ = K fr st := (rfl)
theorem wAny_plain (G:Glob) (T:Tbl) (dst:Option Nat) (op:POp) (b:Bool) (cs:List Nat) (l:List (PI × Bool × List Nat)) (fs:List (Option Foot)) (fr:Frame) (st:St) (K:Cont2 Frame St) :
  @wAny G T (({ dst,op,guard := none },b,cs) :: l) fs fr st K = @wF fs b cs (op.foot (rho G fr) st) ⟨fun fs' => @wOp T op (rho G fr) st ⟨fun d st' => @wAny G T l fs' (fr.put dst d) st' K⟩⟩ := (rfl)
theorem wAny_guard (G:Glob) (T:Tbl) (dst:Option Nat) (op:POp) (s:Nat) (want:Bool) (b:Bool) (cs:List Nat) (l:List (PI × Bool × List Nat)) (fs:List (Option Foot)) (fr:Frame) (st:St) (K:Cont2 Frame St) :
  @wAny G T (({ dst,op,guard := some (s,want) },b,cs) :: l) fs fr st K = @kV (fr s) want ⟨@wF fs b cs (op.foot (rho G fr) st) ⟨fun fs' => @wOp T op (rho G fr) st ⟨fun d st' => @wAny G T l fs' (fr.put dst d) st' K⟩⟩⟩ ⟨@wF fs b cs (some emptyF) ⟨fun fs' => @wAny G T l fs' (fr.put dst (.tup [])) st K⟩⟩ := (rfl)
theorem kV_true (b:Bool) (x y:Br):@kV (.bool b) true x y = @ifB b x y := by cases b <;> rfl
theorem kV_false (b:Bool) (x y:Br):@kV (.bool b) false x y = @ifB b y x := by cases b <;> rfl
theorem kV_tup (want:Bool) (x:Br) (y:Prop):@kV (.tup []) want x ⟨y⟩ = y := (rfl)
section
variable (T:Tbl) (ρ:PA → D) (st:St) (K:D → St → Prop)
theorem on_map {α β:Type} (o:Option α) (f:α → β) (K:β → Prop):@on β (o.map f) ⟨K⟩ = @on α o ⟨fun a => K (f a)⟩ := by cases o <;> rfl
theorem k_mov (x:PA):@wOp T (.mov x) ρ st ⟨K⟩ = @ev (ρ x) ⟨fun d => K d st⟩ := (rfl)
def pickD (c x y:D):Option D := match c with
 | .bool b => some (if b then x else y)
 | _ => none
theorem pickD_true (x y:D):pickD (.bool true) x y = some x := (rfl)
theorem pickD_false (x y:D):pickD (.bool false) x y = some y := (rfl)
theorem pickD_bool (b c e:Bool):pickD (.bool b) (.bool c) (.bool e) = some (.bool (if b then c else e)) := by cases b <;> rfl
theorem k_pick (c x y:PA):@wOp T (.pick c x y) ρ st ⟨K⟩ = @on _ (pickD (ρ c) (ρ x) (ρ y)) ⟨fun d => K d st⟩ := by
 simp only [wOp,kOp,POp.exec,pickD]
 cases ρ c <;> rfl
def boxD (d:D):Option (List D) := if d.cells.all D.isCell then some d.cells else none
theorem k_box (x:PA):@wOp T (.box x) ρ st ⟨K⟩ = @on _ (boxD (ρ x)) ⟨fun cs => @ev2 (.ptr st.length 0) (st ++ [{ row := false,sz := 1,els := cs,lent := false }]) ⟨K⟩⟩ := by
 simp only [wOp,kOp,POp.exec,boxD]
 split <;> rfl
theorem k_bld (zero:List D) (parts:List (Nat × Nat × PA)):@wOp T (.bld zero parts) ρ st ⟨K⟩ = @on _ (fillD zero (parts.map fun p => (p.1,p.2.1,ρ p.2.2))) ⟨fun cs => K (.agg cs) st⟩ := by
 simp only [wOp,kOp,POp.exec,on_map]
def litD (sz:Nat) (els:List D):Option D := if (els.all fun e => e.cells.length == sz) && decide (0 < sz) && decide (els.length * sz ≤ 16777216) then some (.slc sz els true) else none
theorem k_bslc (sz:Nat) (parts:List PA):@wOp T (.bslc sz parts) ρ st ⟨K⟩ = @on _ (imms st (parts.map ρ)) ⟨fun els => @on _ (litD sz els) ⟨fun d => @ev2 d (lend ((parts.map ρ).flatMap keys) st) ⟨K⟩⟩⟩ := by
 simp only [wOp,kOp,POp.exec]
 cases imms st (parts.map ρ) with
 | none => rfl
 | some els =>
  simp only [on]
  by_cases h:((els.all fun e => e.cells.length == sz) && decide (0 < sz) && decide (els.length * sz ≤ 16777216)) = true
  ·simp only [litD,h,if_true]; rfl
  ·simp only [litD,h,Bool.false_eq_true,if_false]
theorem k_load (n:Nat) (ag:Bool) (p:PA):@wOp T (.load n ag p) ρ st ⟨K⟩ = @on _ (pload st n ag (ρ p)) ⟨fun d => K d st⟩ := by
 simp only [wOp,kOp,POp.exec,on_map]
theorem k_stor (n:Nat) (p x:PA):@wOp T (.stor n p x) ρ st ⟨K⟩ = @on _ (pstor st n (ρ p) (ρ x)) ⟨fun st' => K (.tup []) st'⟩ := by
 simp only [wOp,kOp,POp.exec,on_map]
def nilcD (st:St) (d:D):Option D := match d with
 | .ptr _ _ | .eptr _ _ => some d
 | .rptr key tot _ _ => if live st key tot then some d else none
 | _ => none
theorem k_nilc (x:PA):@wOp T (.nilc x) ρ st ⟨K⟩ = @on _ (nilcD st (ρ x)) ⟨fun d => K d st⟩ := by
 simp only [wOp,kOp,POp.exec,nilcD]
 cases ρ x with
 | rptr key tot i off =>
  simp only
  split <;> rfl
 | _ => rfl
theorem k_bin (op:BinOp) (x y:PA):@wOp T (.bin op x y) ρ st ⟨K⟩ = @on _ (pbin op (ρ x) (ρ y)) ⟨fun d => K d st⟩ := by
 simp only [wOp,kOp,POp.exec,on_map]
theorem k_beq (neg:Bool) (x y:PA):@wOp T (.beq neg x y) ρ st ⟨K⟩ = @on _ (pbeq neg (ρ x) (ρ y)) ⟨fun d => K d st⟩ := by
 simp only [wOp,kOp,POp.exec,on_map]
theorem k_aeq (ks:List Nat) (neg:Bool) (x y:PA):@wOp T (.aeq ks neg x y) ρ st ⟨K⟩ = @on _ (paeq ks neg (ρ x) (ρ y)) ⟨fun d => K d st⟩ := by
 simp only [wOp,kOp,POp.exec,on_map]
theorem k_un (op:UnOp) (x:PA):@wOp T (.un op x) ρ st ⟨K⟩ = @on _ (pun op (ρ x)) ⟨fun d => K d st⟩ := by
 simp only [wOp,kOp,POp.exec,on_map]
theorem k_conv (c:PConv) (x:PA):@wOp T (.conv c x) ρ st ⟨K⟩ = @on _ (pconv st c (ρ x)) ⟨fun d => K d st⟩ := by
 simp only [wOp,kOp,POp.exec,on_map]
def mkslcD (sz bytes:Nat) (zero ln cp:D):Option (Nat × Obj) := match natOf ln,natOf cp with
 | some l,some c => if l ≤ c ∧ c ≤ 4294967296 ∧ c * bytes ≤ 140737488355328 ∧ 0 < sz ∧ zero.cells.length = sz ∧ zero.cells.all D.pure1 = true then
   some (l,{ row := true,sz,els := List.replicate l zero,lent := false }) else none
 | _,_ => none
theorem k_mkslc (sz bytes:Nat) (zero:D) (ln cp:PA):@wOp T (.mkslc sz bytes zero ln cp) ρ st ⟨K⟩ = @on _ (mkslcD sz bytes zero (ρ ln) (ρ cp)) ⟨fun r => @ev2 (.row st.length r.1 0 r.1) (st ++ [r.2]) ⟨K⟩⟩ := by
 simp only [wOp,kOp,POp.exec,mkslcD]
 cases natOf (ρ ln) with
 | none => rfl
 | some l =>
  cases natOf (ρ cp) with
  | none => rfl
  | some c =>
   simp only
   split <;> rfl
theorem k_slice (sz:Nat) (x:PA) (lo hi mx:Option PA):@wOp T (.slice sz x lo hi mx) ρ st ⟨K⟩ = @on _ (pslice st sz (ρ x) (lo.map ρ) (hi.map ρ) (mx.map ρ)) ⟨fun d => K d st⟩ := by
 simp only [wOp,kOp,POp.exec,on_map]
theorem k_sliceA (n sz:Nat) (ag:Bool) (x:PA) (lo hi:Option PA):@wOp T (.sliceA n sz ag x lo hi) ρ st ⟨K⟩ = @on _ (psliceA n sz ag (ρ x) (lo.map ρ) (hi.map ρ)) ⟨fun d => K d st⟩ := by
 simp only [wOp,kOp,POp.exec,on_map]
theorem k_fld (off:Nat) (p:PA):@wOp T (.fld off p) ρ st ⟨K⟩ = @on _ (pfld st off (ρ p)) ⟨fun d => K d st⟩ := by
 simp only [wOp,kOp,POp.exec,on_map]
theorem k_fldv (off n:Nat) (ag:Bool) (x:PA):@wOp T (.fldv off n ag x) ρ st ⟨K⟩ = @on _ (pfldv off n ag (ρ x)) ⟨fun d => K d st⟩ := by
 simp only [wOp,kOp,POp.exec,on_map]
theorem k_idxS (sz:Nat) (x i:PA):@wOp T (.idxS sz x i) ρ st ⟨K⟩ = @on _ (pidxS st sz (ρ x) (ρ i)) ⟨fun d => K d st⟩ := by
 simp only [wOp,kOp,POp.exec,on_map]
theorem k_idxA (n sz:Nat) (p i:PA):@wOp T (.idxA n sz p i) ρ st ⟨K⟩ = @on _ (pidxA st n sz (ρ p) (ρ i)) ⟨fun d => K d st⟩ := by
 simp only [wOp,kOp,POp.exec,on_map]
theorem k_idx (x i:PA):@wOp T (.idx x i) ρ st ⟨K⟩ = @on _ (pidx (ρ x) (ρ i)) ⟨fun d => K d st⟩ := by
 simp only [wOp,kOp,POp.exec,on_map]
theorem k_idxV (ln sz:Nat) (ag:Bool) (x i:PA):@wOp T (.idxV ln sz ag x i) ρ st ⟨K⟩ = @on _ (pidxV ln sz ag (ρ x) (ρ i)) ⟨fun d => K d st⟩ := by
 simp only [wOp,kOp,POp.exec,on_map]
def lenD (st:St) (str:Bool) (d:D):Option D := if isStr d == str then (sLen st d).map fun (n:Nat) => D.int .i64 (n:Int) else none
theorem k_len (str:Bool) (x:PA):@wOp T (.len str x) ρ st ⟨K⟩ = @on _ (lenD st str (ρ x)) ⟨fun d => K d st⟩ := by
 simp only [wOp,kOp,POp.exec,lenD]
 split
 ·simp only [on_map]
 ·rfl
theorem k_lenA (n:Nat):@wOp T (.lenA n) ρ st ⟨K⟩ = @ev (.int .i64 (n:Int)) ⟨fun d => K d st⟩ := (rfl)
theorem k_app (sz bytes:Nat) (s x:PA):@wOp T (.app sz bytes s x) ρ st ⟨K⟩ = @on _ (papp st sz bytes (ρ s) (ρ x)) ⟨fun r => K r.1 r.2⟩ := (rfl)
def mkmapD (sz:Nat):Option Obj := if 1 < sz ∧ sz ≠ 1000003 then some { row := false,sz,els := [],lent := false } else none
theorem k_mkmap (sz:Nat):@wOp T (.mkmap sz) ρ st ⟨K⟩ = @on _ (mkmapD sz) ⟨fun o => @ev2 (.mapv st.length) (st ++ [o]) ⟨K⟩⟩ := by
 simp only [wOp,kOp,POp.exec,mkmapD]
 split <;> rfl
theorem k_mapup (sz:Nat) (ks:List Nat) (m k v:PA):@wOp T (.mapup sz ks m k v) ρ st ⟨K⟩ = @on _ (pmapup st sz ks (ρ m) (ρ k) (ρ v)) ⟨fun st' => K (.tup []) st'⟩ := by
 simp only [wOp,kOp,POp.exec,on_map]
theorem k_mapget (sz:Nat) (ks:List Nat) (ok:Bool) (zero:D) (m k:PA):@wOp T (.mapget sz ks ok zero m k) ρ st ⟨K⟩ = @on _ (pmapget st sz ks ok zero (ρ m) (ρ k)) ⟨fun d => K d st⟩ := by
 simp only [wOp,kOp,POp.exec,on_map]
theorem k_cpy (sz:Nat) (d s:PA):@wOp T (.cpy sz d s) ρ st ⟨K⟩ = @on _ (pcpy st sz (ρ d) (ρ s)) ⟨fun r => K r.1 r.2⟩ := (rfl)
def mmD (isMax:Bool) (x y:D):Option D := match x,y with
 | .int k a,.int _ b => some (.int k (if isMax then (if b > a then b else a) else (if b < a then b else a)))
 | _,_ => none
theorem k_mm (isMax:Bool) (x y:PA):@wOp T (.mm isMax x y) ρ st ⟨K⟩ = @on _ (mmD isMax (ρ x) (ρ y)) ⟨fun d => K d st⟩ := by
 simp only [wOp,kOp,POp.exec,mmD]
 cases ρ x with
 | int k a => cases ρ y <;> rfl
 | _ => rfl
def mm3D (isMax:Bool) (x y z:D):Option D := match x,y,z with
 | .int k a,.int _ b,.int _ c => some (.int k (mm1 isMax (mm1 isMax a b) c))
 | _,_,_ => none
theorem k_mm3 (isMax:Bool) (x y z:PA):@wOp T (.mm3 isMax x y z) ρ st ⟨K⟩ = @on _ (mm3D isMax (ρ x) (ρ y) (ρ z)) ⟨fun d => K d st⟩ := by
 simp only [wOp,kOp,POp.exec,mm3D]
 cases ρ x with
 | int k a => cases ρ y <;> first | rfl | (cases ρ z <;> rfl)
 | _ => rfl
theorem k_rcall (f:Nat) (args:List PA):@wOp T (.rcall f args) ρ st ⟨K⟩ = @on _ (T.q f) ⟨fun sp => @on _ (reads1 sp (args.map ρ) st) ⟨fun d => K d st⟩⟩ := by
 simp only [wOp,kOp,POp.exec]
 cases T.q f with
 | none => rfl
 | some sp => simp only [on_some,on_map]
theorem k_icall (f:Nat) (args:List PA):@wOp T (.icall f args) ρ st ⟨K⟩ = @on _ (T.i f) ⟨fun sp => @on _ (sp (args.map ρ) st) ⟨fun r => K r.1 r.2⟩⟩ := by
 simp only [wOp,kOp,POp.exec]
 cases T.i f <;> rfl
def cloD (T:Tbl) (d:D):Option ((List D → St → Option (D × St)) × List D × List D) := match d with
 | .clo f caps => if f < 5000000 then (T.i f).map fun sp => (sp,[],caps) else if f < 10000000 then (T.i (f - 5000000)).map fun sp => (sp,caps,[]) else if caps.isEmpty then some (T.y (f - 10000000),[],[]) else none
 | _ => none
theorem k_mcall (f:Nat) (args:List PA):@wOp T (.mcall f args) ρ st ⟨K⟩ = @on _ (T.m f) ⟨fun sp => @on _ (sp (args.map ρ)) ⟨fun r => @ev2 (r.1 st.length) (st ++ r.2 st.length) ⟨K⟩⟩⟩ := by
 simp only [wOp,kOp,POp.exec]
 cases T.m f with
 | none => rfl
 | some sp =>
  simp only [on]
  cases sp (args.map ρ) <;> rfl
theorem k_callv (x:PA) (args:List PA):@wOp T (.callv x args) ρ st ⟨K⟩ = @on _ (cloD T (ρ x)) ⟨fun p => @on _ (p.1 (p.2.1 ++ (args.map ρ ++ p.2.2)) st) ⟨fun r => K r.1 r.2⟩⟩ := by
 simp only [wOp,kOp,POp.exec,cloD]
 cases ρ x with
 | clo f caps =>
  simp only
  by_cases h5:f < 5000000
  ·simp only [if_pos h5]
   cases T.i f <;> rfl
  ·by_cases h:f < 10000000
   ·simp only [if_neg h5,if_pos h]
    cases T.i (f - 5000000) with
    | none => rfl
    | some sp => simp only [Option.map_some,on,List.append_nil]
   ·simp only [if_neg h5,if_neg h]
    cases caps with
    | nil => simp only [List.isEmpty_nil,if_true,on,List.append_nil,List.nil_append]
    | cons a l => rfl
 | _ => rfl
theorem k_mkclo (f:Nat) (caps:List PA):@wOp T (.mkclo f caps) ρ st ⟨K⟩ = @ev (.clo f (caps.map ρ)) ⟨fun d => K d st⟩ := (rfl)
theorem k_call (f:Nat) (args:List PA):@wOp T (.call f args) ρ st ⟨K⟩ = @on _ (T.p f) ⟨fun sp => @on _ (imms st (args.map ρ)) ⟨fun vs => @on _ (sp vs) ⟨fun r => @ev2 r (if r.noRef then st else lend ((args.map ρ).flatMap keys) st) ⟨K⟩⟩⟩⟩ := by
 simp only [wOp,kOp,POp.exec]
 cases T.p f with
 | none => rfl
 | some sp =>
  cases imms st (args.map ρ) with
  | none => rfl
  | some vs =>
   simp only [on]
   cases sp vs <;> rfl
def extD (d:D) (i:Nat):Option D := match d with
 | .tup vs => vs[i]?
 | _ => none
theorem k_ext (x:PA) (i:Nat):@wOp T (.ext x i) ρ st ⟨K⟩ = @on _ (extD (ρ x) i) ⟨fun d => K d st⟩ := by
 simp only [wOp,kOp,POp.exec,extD]
 cases ρ x with
 | tup vs => simp only [on_map]
 | _ => rfl
theorem extD_0 (a:D) (l:List D):extD (.tup (a :: l)) 0 = some a := (rfl)
theorem extD_1 (a b:D) (l:List D):extD (.tup (a :: b :: l)) 1 = some b := (rfl)
theorem extD_2 (a b c:D) (l:List D):extD (.tup (a :: b :: c :: l)) 2 = some c := (rfl)
end
theorem put_some (fr:Frame) (s:Nat) (d:D):fr.put (some s) d = fr.set s d := (rfl)
theorem put_none (fr:Frame) (d:D):fr.put none d = fr := (rfl)
theorem rho_s (G:Glob) (fr:Frame) (n:Nat):rho G fr (.s n) = fr n := (rfl)
theorem rho_c (G:Glob) (fr:Frame) (d:D):rho G fr (.c d) = d := (rfl)
theorem rho_g (G:Glob) (fr:Frame) (n:Nat) (d:D) (h:G n = some d):rho G fr (.g n) = .eptr d 0 := by simp [rho,h]
theorem argF_0 (a:D) (l:List D):argF (a :: l) 0 = a := (rfl)
theorem argF_1 (a b:D) (l:List D):argF (a :: b :: l) 1 = b := (rfl)
theorem argF_2 (a b c:D) (l:List D):argF (a :: b :: c :: l) 2 = c := (rfl)
theorem argF_3 (a b c d:D) (l:List D):argF (a :: b :: c :: d :: l) 3 = d := (rfl)
theorem argF_4 (a b c d e:D) (l:List D):argF (a :: b :: c :: d :: e :: l) 4 = e := (rfl)
theorem argF_5 (a b c d e f:D) (l:List D):argF (a :: b :: c :: d :: e :: f :: l) 5 = f := (rfl)
theorem argF_6 (a b c d e f g:D) (l:List D):argF (a :: b :: c :: d :: e :: f :: g :: l) 6 = g := (rfl)
theorem argF_7 (a b c d e f g h:D) (l:List D):argF (a :: b :: c :: d :: e :: f :: g :: h :: l) 7 = h := (rfl)
def LoopN (B:Frame → St → (Ex → Frame → St → Prop) → Prop) (cut:PS → PS):Nat → PS → (Ex → Frame → St → Prop) → Prop
 | 0,_,_ => False
 | n + 1,s,Q => B (cut s).fr (cut s).st fun e fr st => match e with
  | .next => LoopN B cut n ⟨fr,st⟩ Q
  | e => Q e fr st
def W (G:Glob) (T:Tbl):PC → Frame → St → (Ex → Frame → St → Prop) → Prop
 | .skip,fr,st,Q => Q .next fr st
 | .ops l,fr,st,Q => kOps G T l fr st (Q .next)
 | .any l,fr,st,Q => kAny G T l [] fr st (Q .next)
 | .any2 keep l1 l2,fr,st,Q => kAny G T l1 [] fr st fun fr1 st1 => kAny G T l2 [] fr st fun fr2 st2 => W2 keep st.length fr1 st1 fr2 st2 fun s => Q .next s.fr s.st
 | .seq a b,fr,st,Q => W G T a fr st fun e fr' st' => match e with
  | .next => W G T b fr' st' Q
  | e => Q e fr' st'
 | .cond c a b,fr,st,Q => @onB (rho G fr c) ⟨fun v => @ifB v ⟨W G T a fr st Q⟩ ⟨W G T b fr st Q⟩⟩
 | .block id c,fr,st,Q => W G T c fr st fun e fr' st' => match e with
  | .exit id' => if id' = id then Q .next fr' st' else Q (.exit id') fr' st'
  | e => Q e fr' st'
 | .loop keep c,fr,st,Q => ∃ n,LoopN (W G T c) (restrict keep st.length) n ⟨fr,st⟩ Q
 | .loopA keep c,fr,st,Q => ∃ n,LoopN (W G T c) (keepAll keep) n ⟨fr,st⟩ Q
 | .opsX l,fr,st,Q => kOpsX G T l fr st (Q .next) (fun t d => Q (.panic t d))
 | .pan l d1 t x,fr,st,Q => kOps G T l fr st fun fr' st' => @ifB (intsD (rho G fr' x)) ⟨Q (.panic t (rho G fr' x)) (fr'.set d1 .junk) st'⟩ ⟨False⟩
 | .alt a b,fr,st,Q => W G T a fr st Q ∨ (a.exec G T 0 ⟨fr,st⟩ = none ∧ (∀ m,a.exec G T m ⟨fr,st⟩ = none) ∧ W G T b fr st Q)
 | .range x ps a b,fr,st,Q => ∃ (n:Nat) (st':St) (e:Ex),(∀ m,n ≤ m → rangeRun T (rho G fr x) (roundY (a.exec G T m) (b.exec G T m) fr ps st.length) (st ++ [recO 0]) = some st') ∧ recEx st' st.length = some e ∧ Q e fr (st'.set st.length (recO 2))
 | .exit id,fr,st,Q => Q (.exit id) fr st
 | .ret,fr,st,Q => Q .ret fr st
 | .fail,_,_,_ => False
theorem W_sound {G:Glob} {T:Tbl}:∀ (c:PC) (fr:Frame) (st:St) (Q:Ex → Frame → St → Prop),W G T c fr st Q →
  ∃ (n:Nat) (e:Ex) (fr':Frame) (st':St),(∀ m,n ≤ m → c.exec G T m ⟨fr,st⟩ = some (e,⟨fr',st'⟩)) ∧ Q e fr' st'
 | .skip,fr,st,Q,h => ⟨0,.next,fr,st,fun _ _ => rfl,h⟩
 | .ops l,fr,st,Q,h => by
  obtain ⟨fr',st',h1,h2⟩ := kOps_sound l fr st _ h
  exact ⟨0,.next,fr',st',fun m _ => by simp only [PC.exec,h1],h2⟩
 | .any l,fr,st,Q,h => by
  obtain ⟨fr',st',h1,h2⟩ := kAny_sound l [] fr st _ h
  exact ⟨0,.next,fr',st',fun m _ => by simp only [PC.exec,h1],h2⟩
 | .any2 keep l1 l2,fr,st,Q,h => by
  obtain ⟨fr1,st1,h1,h2⟩ := kAny_sound l1 [] fr st _ h
  obtain ⟨fr2,st2,h3,h4⟩ := kAny_sound l2 [] fr st _ h2
  obtain ⟨h5,h6⟩ := W2_spec h4
  exact ⟨0,.next,_,_,fun m _ => by simp only [PC.exec,h1,h3,h5,Option.map_some],h6⟩
 | .seq a b,fr,st,Q,h => by
  obtain ⟨n,e,fr',st',h1,h2⟩ := W_sound a fr st _ h
  cases e with
  | next =>
   obtain ⟨n',e',fr'',st'',h3,h4⟩ := W_sound b fr' st' _ h2
   exact ⟨n + n',e',fr'',st'',fun m hm => by simp only [PC.exec,h1 m (by omega),h3 m (by omega)],h4⟩
  | exit id => exact ⟨n,.exit id,fr',st',fun m hm => by simp only [PC.exec,h1 m hm],h2⟩
  | ret => exact ⟨n,.ret,fr',st',fun m hm => by simp only [PC.exec,h1 m hm],h2⟩
  | panic t d => exact ⟨n,.panic t d,fr',st',fun m hm => by simp only [PC.exec,h1 m hm],h2⟩
 | .cond c a b,fr,st,Q,h => by
  simp only [W,onB] at h
  split at h
  ·rename_i v hv
   cases v with
   | true =>
    obtain ⟨n,e,fr',st',h1,h2⟩ := W_sound a fr st _ h
    exact ⟨n,e,fr',st',fun m hm => by simp only [PC.exec,hv,h1 m hm],h2⟩
   | false =>
    obtain ⟨n,e,fr',st',h1,h2⟩ := W_sound b fr st _ h
    exact ⟨n,e,fr',st',fun m hm => by simp only [PC.exec,hv,h1 m hm],h2⟩
  ·exact h.elim
 | .block id c,fr,st,Q,h => by
  obtain ⟨n,e,fr',st',h1,h2⟩ := W_sound c fr st _ h
  cases e with
  | next => exact ⟨n,.next,fr',st',fun m hm => by simp only [PC.exec,h1 m hm],h2⟩
  | ret => exact ⟨n,.ret,fr',st',fun m hm => by simp only [PC.exec,h1 m hm],h2⟩
  | panic t d => exact ⟨n,.panic t d,fr',st',fun m hm => by simp only [PC.exec,h1 m hm],h2⟩
  | exit id' =>
   simp only at h2
   split at h2
   ·rename_i hi
    exact ⟨n,.next,fr',st',fun m hm => by simp only [PC.exec,h1 m hm,hi,if_true],h2⟩
   ·rename_i hi
    exact ⟨n,.exit id',fr',st',fun m hm => by simp only [PC.exec,h1 m hm,hi,if_false],h2⟩
 | .loop keep c,fr,st,Q,h => by
  obtain ⟨k,h⟩ := h
  have key:∀ (k:Nat) (s:PS),LoopN (W G T c) (restrict keep st.length) k s Q → ∃ (n:Nat) (e:Ex) (fr':Frame) (st':St),(∀ m q,n ≤ m → k ≤ q → loopx (c.exec G T m) (restrict keep st.length) q s = some (e,⟨fr',st'⟩)) ∧ Q e fr' st' := by
   intro k
   induction k with
   | zero => intro s h; exact h.elim
   | succ k ih =>
    intro s h
    obtain ⟨n,e,fr',st',h1,h2⟩ := W_sound c _ _ _ h
    have h1':∀ m,n ≤ m → c.exec G T m (restrict keep st.length s) = some (e,⟨fr',st'⟩) := h1
    cases e with
    | next =>
     obtain ⟨n',e',fr'',st'',h3,h4⟩ := ih _ h2
     refine ⟨n + n',e',fr'',st'',fun m q hm hq => ?_,h4⟩
     obtain ⟨q,rfl⟩:∃ q',q = q' + 1 := ⟨q - 1,by omega⟩
     simp only [loopx,h1' m (by omega)]
     exact h3 m q (by omega) (by omega)
    | exit id =>
     refine ⟨n,.exit id,fr',st',fun m q hm hq => ?_,h2⟩
     obtain ⟨q,rfl⟩:∃ q',q = q' + 1 := ⟨q - 1,by omega⟩
     simp only [loopx,h1' m hm]
    | ret =>
     refine ⟨n,.ret,fr',st',fun m q hm hq => ?_,h2⟩
     obtain ⟨q,rfl⟩:∃ q',q = q' + 1 := ⟨q - 1,by omega⟩
     simp only [loopx,h1' m hm]
    | panic t d =>
     refine ⟨n,.panic t d,fr',st',fun m q hm hq => ?_,h2⟩
     obtain ⟨q,rfl⟩:∃ q',q = q' + 1 := ⟨q - 1,by omega⟩
     simp only [loopx,h1' m hm]
  obtain ⟨n,e,fr',st',h1,h2⟩ := key k _ h
  exact ⟨n + k,e,fr',st',fun m hm => by simp only [PC.exec]; exact h1 m m (by omega) (by omega),h2⟩
 | .loopA keep c,fr,st,Q,h => by
  obtain ⟨k,h⟩ := h
  have key:∀ (k:Nat) (s:PS),LoopN (W G T c) (keepAll keep) k s Q → ∃ (n:Nat) (e:Ex) (fr':Frame) (st':St),(∀ m q,n ≤ m → k ≤ q → loopx (c.exec G T m) (keepAll keep) q s = some (e,⟨fr',st'⟩)) ∧ Q e fr' st' := by
   intro k
   induction k with
   | zero => intro s h; exact h.elim
   | succ k ih =>
    intro s h
    obtain ⟨n,e,fr',st',h1,h2⟩ := W_sound c _ _ _ h
    have h1':∀ m,n ≤ m → c.exec G T m (keepAll keep s) = some (e,⟨fr',st'⟩) := h1
    cases e with
    | next =>
     obtain ⟨n',e',fr'',st'',h3,h4⟩ := ih _ h2
     refine ⟨n + n',e',fr'',st'',fun m q hm hq => ?_,h4⟩
     obtain ⟨q,rfl⟩:∃ q',q = q' + 1 := ⟨q - 1,by omega⟩
     simp only [loopx,h1' m (by omega)]
     exact h3 m q (by omega) (by omega)
    | exit id =>
     refine ⟨n,.exit id,fr',st',fun m q hm hq => ?_,h2⟩
     obtain ⟨q,rfl⟩:∃ q',q = q' + 1 := ⟨q - 1,by omega⟩
     simp only [loopx,h1' m hm]
    | ret =>
     refine ⟨n,.ret,fr',st',fun m q hm hq => ?_,h2⟩
     obtain ⟨q,rfl⟩:∃ q',q = q' + 1 := ⟨q - 1,by omega⟩
     simp only [loopx,h1' m hm]
    | panic t d =>
     refine ⟨n,.panic t d,fr',st',fun m q hm hq => ?_,h2⟩
     obtain ⟨q,rfl⟩:∃ q',q = q' + 1 := ⟨q - 1,by omega⟩
     simp only [loopx,h1' m hm]
  obtain ⟨n,e,fr',st',h1,h2⟩ := key k _ h
  exact ⟨n + k,e,fr',st',fun m hm => by simp only [PC.exec]; exact h1 m m (by omega) (by omega),h2⟩
 | .range x ps a b,fr,st,Q,h => by
  obtain ⟨n,st',e,h1,h3,h2⟩ := h
  exact ⟨n,e,fr,_,fun m hm => by simp only [PC.exec,h1 m hm,Option.bind_some,h3,Option.map_some],h2⟩
 | .opsX l,fr,st,Q,h => by
  rcases kOpsX_sound l fr st _ _ h with ⟨fr',st',h1,h2⟩ | ⟨t,d,fr',st',h1,h2,h3⟩
  ·exact ⟨0,.next,fr',st',fun m _ => by simp only [PC.exec,h1],h2⟩
  ·exact ⟨0,.panic t d,fr',st',fun m _ => by simp only [PC.exec,h1,h2,Option.map_some],h3⟩
 | .pan l d1 t x,fr,st,Q,h => by
  obtain ⟨fr',st',h1,h2⟩ := kOps_sound l fr st _ h
  unfold ifB at h2
  split at h2
  ·rename_i hi
   exact ⟨0,.panic t (rho G fr' x),fr'.set d1 .junk,st',fun m _ => by simp only [PC.exec,h1,hi,if_true],h2⟩
  ·exact h2.elim
 | .alt a b,fr,st,Q,h => by
  rcases h with h | ⟨_,h1,h⟩
  ·obtain ⟨n,e,fr',st',h1,h2⟩ := W_sound a fr st _ h
   exact ⟨n,e,fr',st',fun m hm => by simp only [PC.exec,h1 m hm],h2⟩
  ·obtain ⟨n,e,fr',st',h2,h3⟩ := W_sound b fr st _ h
   exact ⟨n,e,fr',st',fun m hm => by simp only [PC.exec,h1 m,h2 m hm],h3⟩
 | .exit id,fr,st,Q,h => ⟨0,.exit id,fr,st,fun _ _ => rfl,h⟩
 | .ret,fr,st,Q,h => ⟨0,.ret,fr,st,fun _ _ => rfl,h⟩
 | .fail,_,_,_,h => h.elim
theorem kOps_mono {G:Glob} {T:Tbl}:∀ (l:List PI) (fr:Frame) (st:St) (K K':Frame → St → Prop),kOps G T l fr st K → (∀ fr st,K fr st → K' fr st) → kOps G T l fr st K'
 | [],_,_,_,_,h,hk => hk _ _ h
 | i :: l,fr,st,K,K',h,hk => by
  have h1:kOp T i.op (rho G fr) st (fun d st' => kOps G T l (fr.put i.dst d) st' K) → kOp T i.op (rho G fr) st (fun d st' => kOps G T l (fr.put i.dst d) st' K') := by
   unfold kOp on
   split
   ·exact fun h => kOps_mono l _ _ _ _ h hk
   ·exact id
  have h2:kOps G T l (fr.put i.dst (.tup [])) st K → kOps G T l (fr.put i.dst (.tup [])) st K' := fun h => kOps_mono l _ _ _ _ h hk
  rw [kOps] at h ⊢
  unfold kG at h ⊢
  split
  ·simp_all
  ·simp_all
   split
   ·simp_all
    rename_i b hb
    rename_i want _ _
    revert h
    unfold ifB
    split
    ·exact fun h => h1 h
    ·exact fun h => h2 h
   ·simp_all
   ·simp_all
theorem W_mono {G:Glob} {T:Tbl}:∀ (c:PC) (fr:Frame) (st:St) (Q Q':Ex → Frame → St → Prop),W G T c fr st Q → (∀ e fr st,Q e fr st → Q' e fr st) → W G T c fr st Q'
 | .skip,fr,st,Q,Q',h,hq => hq _ _ _ h
 | .ops l,fr,st,Q,Q',h,hq => kOps_mono l fr st _ _ h fun fr st h => hq _ _ _ h
 | .any l,fr,st,Q,Q',h,hq => kAny_mono l [] fr st _ _ h fun fr st h => hq _ _ _ h
 | .any2 keep l1 l2,fr,st,Q,Q',h,hq => kAny_mono l1 [] fr st _ _ h fun fr1 st1 h => kAny_mono l2 [] fr st _ _ h fun fr2 st2 h => W2_mono h fun s h => hq _ _ _ h
 | .seq a b,fr,st,Q,Q',h,hq => by
  refine W_mono a fr st _ _ h fun e fr' st' h => ?_
  cases e with
  | next => exact W_mono b _ _ _ _ h hq
  | exit id => exact hq _ _ _ h
  | ret => exact hq _ _ _ h
  | panic t d => exact hq _ _ _ h
 | .cond c a b,fr,st,Q,Q',h,hq => by
  simp only [W,onB] at h ⊢
  split
  ·rename_i v hv
   rw [hv] at h
   simp only at h
   cases v with
   | true => exact W_mono a _ _ _ _ h hq
   | false => exact W_mono b _ _ _ _ h hq
  ·rename_i hv
   split at h
   ·rename_i v hv'; exact absurd hv' (hv v)
   ·exact h
 | .block id c,fr,st,Q,Q',h,hq => by
  refine W_mono c fr st _ _ h fun e fr' st' h => ?_
  cases e with
  | next => exact hq _ _ _ h
  | ret => exact hq _ _ _ h
  | panic t d => exact hq _ _ _ h
  | exit id' =>
   simp only at h ⊢
   split at h
   ·rename_i hi; simp only [hi,if_true]; exact hq _ _ _ h
   ·rename_i hi; simp only [hi,if_false]; exact hq _ _ _ h
 | .loop keep c,fr,st,Q,Q',h,hq => by
  obtain ⟨k,h⟩ := h
  refine ⟨k,?_⟩
  have key:∀ (k:Nat) (s:PS),LoopN (W G T c) (restrict keep st.length) k s Q → LoopN (W G T c) (restrict keep st.length) k s Q' := by
   intro k
   induction k with
   | zero => intro s h; exact h
   | succ k ih =>
    intro s h
    refine W_mono c _ _ _ _ h fun e fr' st' h => ?_
    cases e with
    | next => exact ih _ h
    | exit id => exact hq _ _ _ h
    | ret => exact hq _ _ _ h
    | panic t d => exact hq _ _ _ h
  exact key k _ h
 | .loopA keep c,fr,st,Q,Q',h,hq => by
  obtain ⟨k,h⟩ := h
  refine ⟨k,?_⟩
  have key:∀ (k:Nat) (s:PS),LoopN (W G T c) (keepAll keep) k s Q → LoopN (W G T c) (keepAll keep) k s Q' := by
   intro k
   induction k with
   | zero => intro s h; exact h
   | succ k ih =>
    intro s h
    refine W_mono c _ _ _ _ h fun e fr' st' h => ?_
    cases e with
    | next => exact ih _ h
    | exit id => exact hq _ _ _ h
    | ret => exact hq _ _ _ h
    | panic t d => exact hq _ _ _ h
  exact key k _ h
 | .range x ps a b,fr,st,Q,Q',h,hq => by
  obtain ⟨n,st',e,h1,h3,h2⟩ := h
  exact ⟨n,st',e,h1,h3,hq _ _ _ h2⟩
 | .opsX l,fr,st,Q,Q',h,hq => kOpsX_mono l fr st _ _ _ _ h (fun _ _ h => hq _ _ _ h) fun _ _ _ _ h => hq _ _ _ h
 | .pan l d1 t x,fr,st,Q,Q',h,hq => kOps_mono l fr st _ _ h fun fr' st' h => by
  unfold ifB at h ⊢
  split
  ·rename_i hi
   rw [if_pos hi] at h
   exact hq _ _ _ h
  ·rename_i hi
   rw [if_neg hi] at h
   exact h
 | .alt a b,fr,st,Q,Q',h,hq => h.imp (fun h => W_mono a _ _ _ _ h hq) fun h => ⟨h.1,h.2.1,W_mono b _ _ _ _ h.2.2 hq⟩
 | .exit id,fr,st,Q,Q',h,hq => hq _ _ _ h
 | .ret,fr,st,Q,Q',h,hq => hq _ _ _ h
 | .fail,_,_,_,_,h,_ => h.elim
theorem W_loop {G:Glob} {T:Tbl} {ι:Type} (hd:ι → List (Nat × D)) (hs:ι → St) (P:ι → Prop) (μ:ι → Nat) (i0:ι) {keep:List Nat} {c:PC} {fr:Frame} {st:St} {Q:Ex → Frame → St → Prop}
  (h0:restrict keep st.length ⟨fr,st⟩ = ⟨mkF (hd i0),hs i0⟩) (hP:P i0)
  (hstep:∀ i,P i → W G T c (mkF (hd i)) (hs i) fun e fr' st' => match e with
   | .next => ∃ j,P j ∧ μ j < μ i ∧ restrict keep st.length ⟨fr',st'⟩ = ⟨mkF (hd j),hs j⟩
   | e => Q e fr' st'):W G T (.loop keep c) fr st Q := by
 have key:∀ (n:Nat) (i:ι) (s:PS),μ i < n → P i → restrict keep st.length s = ⟨mkF (hd i),hs i⟩ → LoopN (W G T c) (restrict keep st.length) n s Q := by
  intro n
  induction n with
  | zero => intro i s h _ _; exact absurd h (Nat.not_lt_zero _)
  | succ n ih =>
   intro i s hi hPi hr
   simp only [LoopN,hr]
   refine W_mono c _ _ _ _ (hstep i hPi) fun e fr' st' h => ?_
   cases e with
   | next =>
    obtain ⟨j,h1,h2,h3⟩ := h
    exact ih j _ (by omega) h1 h3
   | exit id => exact h
   | ret => exact h
   | panic t d => exact h
 exact ⟨μ i0 + 1,key _ i0 _ (Nat.lt_succ_self _) hP h0⟩
theorem W_loopA {G:Glob} {T:Tbl} {ι:Type} (hd:ι → List (Nat × D)) (hs:ι → St) (P:ι → Prop) (μ:ι → Nat) (i0:ι) {keep:List Nat} {c:PC} {fr:Frame} {st:St} {Q:Ex → Frame → St → Prop}
  (h0:keepAll keep ⟨fr,st⟩ = ⟨mkF (hd i0),hs i0⟩) (hP:P i0)
  (hstep:∀ i,P i → W G T c (mkF (hd i)) (hs i) fun e fr' st' => match e with
   | .next => ∃ j,P j ∧ μ j < μ i ∧ keepAll keep ⟨fr',st'⟩ = ⟨mkF (hd j),hs j⟩
   | e => Q e fr' st'):W G T (.loopA keep c) fr st Q := by
 have key:∀ (n:Nat) (i:ι) (s:PS),μ i < n → P i → keepAll keep s = ⟨mkF (hd i),hs i⟩ → LoopN (W G T c) (keepAll keep) n s Q := by
  intro n
  induction n with
  | zero => intro i s h _ _; exact absurd h (Nat.not_lt_zero _)
  | succ n ih =>
   intro i s hi hPi hr
   simp only [LoopN,hr]
   refine W_mono c _ _ _ _ (hstep i hPi) fun e fr' st' h => ?_
   cases e with
   | next =>
    obtain ⟨j,h1,h2,h3⟩ := h
    exact ih j _ (by omega) h1 h3
   | exit id => exact h
   | ret => exact h
   | panic t d => exact h
 exact ⟨μ i0 + 1,key _ i0 _ (Nat.lt_succ_self _) hP h0⟩
theorem W_rangeX {G:Glob} {T:Tbl} {x:PA} {ps:List Nat} {a b:PC} {fr:Frame} {st st':St} {Q:Ex → Frame → St → Prop} {e:Ex} (h:∀ m,rangeRun T (rho G fr x) (roundY (a.exec G T m) (b.exec G T m) fr ps st.length) (st ++ [recO 0]) = some st') (he:recEx st' st.length = some e) (hQ:Q e fr (st'.set st.length (recO 2))):W G T (.range x ps a b) fr st Q :=
 ⟨0,st',e,fun m _ => h m,he,hQ⟩
def wW (G:Glob) (T:Tbl) (c:PC) (fr:Frame) (st:St) [Q:QC]:Prop := W G T c fr st Q.run
theorem W_of {G:Glob} {T:Tbl} {c:PC} {fr:Frame} {st:St} {Q:Ex → Frame → St → Prop} (h:@wW G T c fr st ⟨Q⟩):W G T c fr st Q := h
theorem wW_mk {G:Glob} {T:Tbl} {c:PC} {fr:Frame} {st:St} {Q:Ex → Frame → St → Prop} (h:W G T c fr st Q):@wW G T c fr st ⟨Q⟩ := h
theorem W_skip (G:Glob) (T:Tbl) (fr:Frame) (st:St) (Q:Ex → Frame → St → Prop):@wW G T .skip fr st ⟨Q⟩ = Q .next fr st := (rfl)
theorem W_ops (G:Glob) (T:Tbl) (l:List PI) (fr:Frame) (st:St) (Q:Ex → Frame → St → Prop):@wW G T (.ops l) fr st ⟨Q⟩ = @wOps G T l fr st ⟨Q .next⟩ := (rfl)
theorem W_any (G:Glob) (T:Tbl) (l:List (PI × Bool × List Nat)) (fr:Frame) (st:St) (Q:Ex → Frame → St → Prop):@wW G T (.any l) fr st ⟨Q⟩ = @wAny G T l [] fr st ⟨Q .next⟩ := (rfl)
theorem W_any2 (G:Glob) (T:Tbl) (keep:List Nat) (l1 l2:List (PI × Bool × List Nat)) (fr:Frame) (st:St) (Q:Ex → Frame → St → Prop):@wW G T (.any2 keep l1 l2) fr st ⟨Q⟩ =
  @wAny G T l1 [] fr st ⟨fun fr1 st1 => @wAny G T l2 [] fr st ⟨fun fr2 st2 => @ifB (st1.length == st.length + 2 && st2.length == st.length + 2) ⟨@sameP (restrictAt keep st.length [st.length,st.length + 1] ⟨fr1,st1⟩) (restrictAt keep st.length [st.length + 1,st.length] ⟨fr2,st2⟩) ⟨fun s => Q .next s.fr s.st⟩⟩ ⟨False⟩⟩⟩ := (rfl)
def thenW (G:Glob) (T:Tbl) (b:PC) [Q:QC] (e:Ex) (fr:Frame) (st:St):Prop := match e with
 | .next => W G T b fr st Q.run
 | e => Q.run e fr st
theorem W_seq (G:Glob) (T:Tbl) (a b:PC) (fr:Frame) (st:St) (Q:QC):@wW G T (.seq a b) fr st Q = @wW G T a fr st ⟨@thenW G T b Q⟩ := (rfl)
theorem then_next (G:Glob) (T:Tbl) (b:PC) (Q:QC) (fr:Frame) (st:St):@thenW G T b Q .next fr st = @wW G T b fr st Q := (rfl)
theorem then_exit (G:Glob) (T:Tbl) (b:PC) (Q:Ex → Frame → St → Prop) (id:Nat) (fr:Frame) (st:St):@thenW G T b ⟨Q⟩ (.exit id) fr st = Q (.exit id) fr st := (rfl)
theorem then_ret (G:Glob) (T:Tbl) (b:PC) (Q:Ex → Frame → St → Prop) (fr:Frame) (st:St):@thenW G T b ⟨Q⟩ .ret fr st = Q .ret fr st := (rfl)
theorem then_panic (G:Glob) (T:Tbl) (b:PC) (Q:Ex → Frame → St → Prop) (t:Nat) (d:D) (fr:Frame) (st:St):@thenW G T b ⟨Q⟩ (.panic t d) fr st = Q (.panic t d) fr st := (rfl)
theorem W_opsX (G:Glob) (T:Tbl) (l:List PI) (fr:Frame) (st:St) (Q:Ex → Frame → St → Prop):@wW G T (.opsX l) fr st ⟨Q⟩ = @wOpsX G T l fr st ⟨Q .next⟩ ⟨fun t d => Q (.panic t d)⟩ := (rfl)
theorem W_pan (G:Glob) (T:Tbl) (l:List PI) (d1 t:Nat) (x:PA) (fr:Frame) (st:St) (Q:Ex → Frame → St → Prop):@wW G T (.pan l d1 t x) fr st ⟨Q⟩ = @wOps G T l fr st ⟨fun fr' st' => @ifB (intsD (rho G fr' x)) ⟨Q (.panic t (rho G fr' x)) (fr'.set d1 .junk) st'⟩ ⟨False⟩⟩ := (rfl)
theorem W_cond (G:Glob) (T:Tbl) (c:PA) (a b:PC) (fr:Frame) (st:St) (Q:QC):@wW G T (.cond c a b) fr st Q = @onB (rho G fr c) ⟨fun v => @ifB v ⟨@wW G T a fr st Q⟩ ⟨@wW G T b fr st Q⟩⟩ := (rfl)
def outW (id:Nat) [Q:QC] (e:Ex) (fr:Frame) (st:St):Prop := match e with
 | .exit id' => if id' = id then Q.run .next fr st else Q.run (.exit id') fr st
 | e => Q.run e fr st
theorem W_block (G:Glob) (T:Tbl) (id:Nat) (c:PC) (fr:Frame) (st:St) (Q:QC):@wW G T (.block id c) fr st Q = @wW G T c fr st ⟨@outW id Q⟩ := (rfl)
theorem out_next (id:Nat) (Q:Ex → Frame → St → Prop) (fr:Frame) (st:St):@outW id ⟨Q⟩ .next fr st = Q .next fr st := (rfl)
theorem out_ret (id:Nat) (Q:Ex → Frame → St → Prop) (fr:Frame) (st:St):@outW id ⟨Q⟩ .ret fr st = Q .ret fr st := (rfl)
theorem out_panic (id:Nat) (Q:Ex → Frame → St → Prop) (t:Nat) (d:D) (fr:Frame) (st:St):@outW id ⟨Q⟩ (.panic t d) fr st = Q (.panic t d) fr st := (rfl)
theorem out_eq (id id':Nat) (Q:Ex → Frame → St → Prop) (fr:Frame) (st:St):@outW id ⟨Q⟩ (.exit id') fr st = if id' = id then Q .next fr st else Q (.exit id') fr st := (rfl)
theorem W_exit (G:Glob) (T:Tbl) (id:Nat) (fr:Frame) (st:St) (Q:Ex → Frame → St → Prop):@wW G T (.exit id) fr st ⟨Q⟩ = Q (.exit id) fr st := (rfl)
theorem W_ret (G:Glob) (T:Tbl) (fr:Frame) (st:St) (Q:Ex → Frame → St → Prop):@wW G T .ret fr st ⟨Q⟩ = Q .ret fr st := (rfl)
def retQ (res:List PRes) (r:D) (e:Ex) (fr:Frame) (st:St):Prop := match e with
 | .exit _ | .panic _ _ => False
 | _ => (gets ⟨fr,st⟩ res).map pack = some r
theorem retQ_ret (res:List PRes) (r:D) (fr:Frame) (st:St):retQ res r .ret fr st = ((gets ⟨fr,st⟩ res).map pack = some r) := (rfl)
theorem retQ_next (res:List PRes) (r:D) (fr:Frame) (st:St):retQ res r .next fr st = ((gets ⟨fr,st⟩ res).map pack = some r) := (rfl)
def retI (res:List PRes) [R:Cont2 D St] (e:Ex) (fr:Frame) (st:St):Prop := match e with
 | .exit _ | .panic _ _ => False
 | _ => @on _ (raws ⟨fr,st⟩ res) ⟨fun l => R.run (pack l) st⟩
theorem retI_ret (res:List PRes) (R:D → St → Prop) (fr:Frame) (st:St):@retI res ⟨R⟩ .ret fr st = @on _ (raws ⟨fr,st⟩ res) ⟨fun l => R (pack l) st⟩ := (rfl)
theorem retI_next (res:List PRes) (R:D → St → Prop) (fr:Frame) (st:St):@retI res ⟨R⟩ .next fr st = @on _ (raws ⟨fr,st⟩ res) ⟨fun l => R (pack l) st⟩ := (rfl)
theorem run_of_W {G:Glob} {T:Tbl} {F:PF} {ds:List D} {r:D} (h:W G T F.code (argF ds) [] (retQ F.res r)):∃ fuel,F.run G T fuel ds = some r := by
 obtain ⟨n,e,fr',st',h1,h2⟩ := W_sound _ _ _ _ h
 refine ⟨n,?_⟩
 unfold PF.run
 rw [h1 n (Nat.le_refl _)]
 cases e with
 | next => exact h2
 | ret => exact h2
 | exit id => exact h2.elim
 | panic t d => exact h2.elim
theorem runI_of_W {G:Glob} {T:Tbl} {F:PF} {ds:List D} {st:St} {R:D → St → Prop} (h:W G T F.code (argF ds) st (@retI F.res ⟨R⟩)):∃ fuel r st',(∀ m,fuel ≤ m → F.runI G T m ds st = some (r,st')) ∧ R r st' := by
 obtain ⟨n,e,fr',st',h1,h2⟩ := W_sound _ _ _ _ h
 have key:∀ (h2:@on _ (raws ⟨fr',st'⟩ F.res) ⟨fun l => R (pack l) st'⟩) (he:e = .next ∨ e = .ret),∃ fuel r st',(∀ m,fuel ≤ m → F.runI G T m ds st = some (r,st')) ∧ R r st' := by
  intro h2 he
  unfold on at h2
  split at h2
  ·rename_i l hl
   refine ⟨n,pack l,st',fun m hm => ?_,h2⟩
   unfold PF.runI
   rw [h1 m hm]
   rcases he with rfl | rfl <;> simp [hl]
  ·exact h2.elim
 cases e with
 | next => exact key h2 (.inl rfl)
 | ret => exact key h2 (.inr rfl)
 | exit id => exact h2.elim
 | panic t d => exact h2.elim
def retX [X:XC0] (e:Ex) (_:Frame) (st:St):Prop := match e with
 | .panic t d => X.run t d st
 | _ => False
theorem retX_panic (X:Nat → D → St → Prop) (t:Nat) (d:D) (fr:Frame) (st:St):@retX ⟨X⟩ (.panic t d) fr st = X t d st := (rfl)
def retD (h:Nat → D → List D → St → Option St) (das:List D) (res:List PRes) [R:Cont2 D St] (e:Ex) (fr:Frame) (st:St):Prop := match e with
 | .exit _ => False
 | .panic t d => @on _ (h t d das st) ⟨fun st3 => @on _ (raws ⟨fr,st3⟩ res) ⟨fun l => R.run (pack l) st3⟩⟩
 | _ => @on _ (raws ⟨fr,st⟩ res) ⟨fun l => R.run (pack l) st⟩
theorem retD_ret (h:Nat → D → List D → St → Option St) (das:List D) (res:List PRes) (R:D → St → Prop) (fr:Frame) (st:St):@retD h das res ⟨R⟩ .ret fr st = @on _ (raws ⟨fr,st⟩ res) ⟨fun l => R (pack l) st⟩ := (rfl)
theorem retD_next (h:Nat → D → List D → St → Option St) (das:List D) (res:List PRes) (R:D → St → Prop) (fr:Frame) (st:St):@retD h das res ⟨R⟩ .next fr st = @on _ (raws ⟨fr,st⟩ res) ⟨fun l => R (pack l) st⟩ := (rfl)
theorem retD_panic (h:Nat → D → List D → St → Option St) (das:List D) (res:List PRes) (R:D → St → Prop) (t:Nat) (d:D) (fr:Frame) (st:St) :
  @retD h das res ⟨R⟩ (.panic t d) fr st = @on _ (h t d das st) ⟨fun st3 => @on _ (raws ⟨fr,st3⟩ res) ⟨fun l => R (pack l) st3⟩⟩ := (rfl)
def retDQ (h:Nat → D → List D → St → Option St) (das:List D) (res:List PRes) (r:D) (e:Ex) (fr:Frame) (st:St):Prop := match e with
 | .exit _ => False
 | .panic t d => @on _ (h t d das st) ⟨fun st3 => (gets ⟨fr,st3⟩ res).map pack = some r⟩
 | _ => (gets ⟨fr,st⟩ res).map pack = some r
theorem retDQ_ret (h:Nat → D → List D → St → Option St) (das:List D) (res:List PRes) (r:D) (fr:Frame) (st:St):retDQ h das res r .ret fr st = ((gets ⟨fr,st⟩ res).map pack = some r) := (rfl)
theorem retDQ_next (h:Nat → D → List D → St → Option St) (das:List D) (res:List PRes) (r:D) (fr:Frame) (st:St):retDQ h das res r .next fr st = ((gets ⟨fr,st⟩ res).map pack = some r) := (rfl)
theorem retDQ_panic (h:Nat → D → List D → St → Option St) (das:List D) (res:List PRes) (r:D) (t:Nat) (d:D) (fr:Frame) (st:St):retDQ h das res r (.panic t d) fr st = @on _ (h t d das st) ⟨fun st3 => (gets ⟨fr,st3⟩ res).map pack = some r⟩ := (rfl)
theorem ckF_nil (fs:List (Option Foot)) (g:Option Foot):ckF fs g [] = true := (rfl)
theorem ckF_cons (fs:List (Option Foot)) (g:Option Foot) (j:Nat) (r:List Nat):ckF fs g (j :: r) = (ck1 fs[j]? g && ckF fs g r) := (rfl)
theorem ck1_eq (f g:Foot):ck1 (some (some f)) (some g) = f.ok g := (rfl)
theorem ok_eq (r w r' w':List Nat) (m m':Option Nat):Foot.ok ⟨r,w,m⟩ ⟨r',w',m'⟩ = (away w' r && away w' w && away w r' && awayM m r' && awayM m w' && awayM m' r && awayM m' w && (m.isNone || m'.isNone)) := (rfl)
theorem away_nil (b:List Nat):away [] b = true := (rfl)
theorem away_cons (k:Nat) (a b:List Nat):away (k :: a) b = (!b.contains k && away a b) := by simp [away]
theorem awayM_none (a:List Nat):awayM none a = true := (rfl)
theorem awayM_snil (n:Nat):awayM (some n) [] = true := (rfl)
theorem awayM_scons (n k:Nat) (a:List Nat):awayM (some n) (k :: a) = (decide (k < n) && awayM (some n) a) := (rfl)
theorem emptyF_eq:emptyF = ⟨[],[],none⟩ := (rfl)
theorem optL_none {α:Type}:optL (none:Option α) = [] := (rfl)
theorem optL_some {α:Type} (x:α):optL (some x) = [x] := (rfl)
section
variable (ρ:PA → D) (st:St)
theorem foot_stor (n:Nat) (p x:PA):POp.foot ρ st (.stor n p x) = some ⟨hk (ρ x),hk (ρ p),none⟩ := (rfl)
theorem foot_box (x:PA):POp.foot ρ st (.box x) = some ⟨[],[],some st.length⟩ := (rfl)
theorem foot_mkslc (a b:Nat) (z:D) (l c:PA):POp.foot ρ st (.mkslc a b z l c) = some ⟨[],[],some st.length⟩ := (rfl)
theorem foot_mcall (f:Nat) (l:List PA):POp.foot ρ st (.mcall f l) = some ⟨[],[],some st.length⟩ := (rfl)
def appF (st:St) (s x:D):Option Foot := match s with
 | .row key _ _ _ => some ⟨hk x,[key],none⟩
 | _ => some ⟨hk x,[],appN x st.length⟩
theorem appF_row (key tot off len:Nat) (x:D):appF st (.row key tot off len) x = some ⟨hk x,[key],none⟩ := (rfl)
theorem appF_slc (sz:Nat) (els:List D) (t:Bool) (x:D):appF st (.slc sz els t) x = some ⟨hk x,[],appN x st.length⟩ := (rfl)
theorem appN_nil (sz:Nat) (t:Bool) (n:Nat):appN (.slc sz [] t) n = none := (rfl)
theorem appN_cons (sz:Nat) (a:D) (l:List D) (t:Bool) (n:Nat):appN (.slc sz (a :: l) t) n = some n := (rfl)
theorem appN_row (key tot off len n:Nat):appN (.row key tot off len) n = some n := (rfl)
theorem appN_bsl (key off m sz:Nat) (ag:Bool) (n:Nat):appN (.bsl key off m sz ag) n = some n := (rfl)
theorem appN_str (s:List UInt8) (n:Nat):appN (.str s) n = some n := (rfl)
theorem awayM_appN (x:D) (n:Nat) (a:List Nat) (h:(a.all fun k => decide (k < n)) = true):awayM (appN x n) a = true := by
 unfold appN
 split
 ·rfl
 ·simp only [awayM,h]
theorem foot_app (a b:Nat) (s x:PA):POp.foot ρ st (.app a b s x) = appF st (ρ s) (ρ x) := (rfl)
theorem foot_load (n:Nat) (ag:Bool) (x:PA):POp.foot ρ st (.load n ag x) = some ⟨hk (ρ x),[],none⟩ := by simp [POp.foot,POp.args]
theorem foot_nilc (x:PA):POp.foot ρ st (.nilc x) = some ⟨rpK (ρ x),[],none⟩ := (rfl)
theorem rpK_ptr (key off:Nat):rpK (.ptr key off) = [] := (rfl)
theorem rpK_eptr (el:D) (off:Nat):rpK (.eptr el off) = [] := (rfl)
theorem rpK_rptr (key tot i off:Nat):rpK (.rptr key tot i off) = [key] := (rfl)
theorem foot_conv (c:PConv) (x:PA):POp.foot ρ st (.conv c x) = some ⟨hk (ρ x),[],none⟩ := by simp [POp.foot,POp.args]
theorem foot_fld (n:Nat) (x:PA):POp.foot ρ st (.fld n x) = some ⟨rpK (ρ x),[],none⟩ := (rfl)
theorem footI_len (b:Bool) (x:PA):POp.foot ρ st (.len b x) = some ⟨hk (ρ x),[],none⟩ := by simp [POp.foot,POp.args]
theorem foot_idxS (n:Nat) (x i:PA):POp.foot ρ st (.idxS n x i) = some ⟨hk (ρ x) ++ hk (ρ i),[],none⟩ := by simp [POp.foot,POp.args]
theorem foot_idxA (n m:Nat) (x i:PA):POp.foot ρ st (.idxA n m x i) = some ⟨rpK (ρ x),[],none⟩ := (rfl)
theorem foot_slice (n:Nat) (x:PA) (a b c:Option PA):POp.foot ρ st (.slice n x a b c) = some ⟨((x :: (optL a ++ optL b ++ optL c)).map ρ).flatMap hk,[],none⟩ := (rfl)
theorem foot_mapget (sz:Nat) (ks:List Nat) (ok:Bool) (zero:D) (m k:PA):POp.foot ρ st (.mapget sz ks ok zero m k) = some ⟨hk (ρ m) ++ hk (ρ k),[],none⟩ := by simp [POp.foot,POp.args]
theorem foot_call (f:Nat) (l:List PA):POp.foot ρ st (.call f l) = some ⟨(l.map ρ).flatMap hk,[],none⟩ := (rfl)
theorem foot_bslc (n:Nat) (l:List PA):POp.foot ρ st (.bslc n l) = some ⟨(l.map ρ).flatMap hk,[],none⟩ := (rfl)
end
attribute [irreducible] kF kAny wF wAny fsE sameP on onB ifB ev ev2 kOp kG kV kOps W thenW outW retQ retI wW wOps wOp wG kOpX kOpsX wOpsX wOpX onX retX retD retDQ
end Go.Proofs.YtlleccmnjpcogaaDoor.PI
