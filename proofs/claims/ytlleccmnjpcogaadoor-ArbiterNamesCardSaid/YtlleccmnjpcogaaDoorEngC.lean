/-
  Steps of the store: a new object, an object that is written or that moves, new immutable memory, a draw.
  Conditions: none; these are lemmas.
-/
import Derived.Test.YtlleccmnjpcogaaDoorEngB
set_option linter.unusedVariables false
set_option linter.unusedSimpArgs false
namespace Go.Proofs.YtlleccmnjpcogaaDoor.PI
open Go Go.RowKit
def upd (f:Nat → Nat) (k v:Nat):Nat → Nat := fun i => if i = k then v else f i
theorem upd_same (f:Nat → Nat) (k v:Nat):upd f k v k = v := by simp [upd]
theorem upd_ne (f:Nat → Nat) (k v i:Nat) (h:i ≠ k):upd f k v i = f i := by simp [upd,h]
theorem SR.lt {base:Nat} {w:World} {g:Ghost} {st:St} (h:SR base w g st) {k:Nat} {o:Obj} (hk:st[k]? = some o):g.β k < w.heap.size := by
 cases hm:o.isMap with
 | false =>
  obtain ⟨C,e,hb,_⟩ := h.blk k o hk hm
  exact (Array.getElem?_eq_some_iff.1 hb).1
 | true =>
  obtain ⟨x,hb,_⟩ := (h.mp k o hk hm).at
  exact (Array.getElem?_eq_some_iff.1 hb).1
theorem SR.based {base:Nat} {w:World} {g:Ghost} {st:St} (h:SR base w g st) {k:Nat} {o:Obj} (hk:st[k]? = some o):base ≤ g.β k := by
 cases hm:o.isMap with
 | false =>
  obtain ⟨C,e,hb,h1,_⟩ := h.blk k o hk hm
  exact h1
 | true =>
  obtain ⟨x,hb,h1,_⟩ := (h.mp k o hk hm).at
  exact h1
theorem SR.im_lt {base:Nat} {w:World} {g:Ghost} {st:St} (h:SR base w g st) {b o:Nat} (hi:g.Im b o):b < w.heap.size := by
 have := h.im b o hi
 cases hc:w.cell? ⟨b,o,none⟩ with
 | none => simp [hc] at this
 | some v => exact World.block_lt_of_cell? w _ hc
theorem cellAt_append_l {a b:List D} {i j:Nat} (h:i < a.length):cellAt (a ++ b) i j = cellAt a i j := by
 simp [cellAt,List.getElem?_append_left h]
structure Beside (w w':World):Prop where
 os:w'.os = w.os
 tape:w'.tape = w.tape
 output:w'.output = w.output
 size:w.heap.size ≤ w'.heap.size
theorem SR.update {base:Nat} {w w':World} {g:Ghost} {st:St} (h:SR base w g st) {k:Nat} {o o':Obj} {B c:Nat} {C C':Array Value} {e e':TypeId}
  (hk:st[k]? = some o) (hm:o.isMap = false) (hC0:w.heap[g.β k]? = some (.cells C e (0,0)))
  (hB:(B = g.β k ∧ c = g.γ k) ∨ (w.heap.size ≤ B ∧ o.els.length < o'.els.length ∧ o.row = true))
  (hrow:o'.row = o.row) (hsz:o'.sz = o.sz) (hle:o.els.length ≤ o'.els.length) (hlent:o'.lent = o.lent)
  (hx:∀ x ∈ o'.els,x.cells.length = o.sz)
  (hbes:Beside w w') (hsame:∀ b,b < w.heap.size → b ≠ B → w'.heap[b]? = w.heap[b]?)
  (hblk:w'.heap[B]? = some (.cells C' e' (0,0)))
  (hIm:B = g.β k → ∀ x,g.Im (g.β k) x → C'[x]? = C[x]?)
  (hC:if o.row then C'.size = c * o.sz ∧ o'.els.length ≤ c ∧ c ≤ maxLen else C'.size = o'.els.length ∧ o.sz = 1 ∧ ∀ x ∈ o'.els,x.cells = [x])
  (hrep:∀ i j d,cellAt o'.els i j = some d → (o.row = true → d.pure1 = true) ∧ ∃ v,C'[i * o.sz + j]? = some v ∧ RepV w g st d v) :
  Go1 base w g st w' { g with β := upd g.β k B,γ := upd g.γ k c } (st.set k o') := by
 have hklt:k < st.length := (List.getElem?_eq_some_iff.1 hk).1
 obtain ⟨C1,e1,hb1,hbase1,hszp,hx1,hC1,hrep1⟩ := h.blk k o hk hm
 have hbB:base ≤ B := by
  rcases hB with ⟨rfl,_⟩ | ⟨hB,_⟩
  ·exact hbase1
  ·exact Nat.le_trans h.size hB
 have hImLe:ImLe w g w' { g with β := upd g.β k B,γ := upd g.γ k c } := by
  refine ⟨?_,fun b x hb hs => ?_⟩
  case refine_2 =>
   have hlt:b < w.heap.size := (Array.getElem?_eq_some_iff.1 hb).1
   have hne:b ≠ B := by
    intro e
    rcases hB with ⟨rfl,_⟩ | ⟨hB,_⟩
    ·rw [e,hC0] at hb
     obtain rfl := Option.some.inj hb
     simp [spM] at hs
    ·omega
   rw [hsame b hlt hne]; exact hb
  intro b x hb
  refine ⟨hb,?_⟩
  have hlt := h.im_lt hb
  by_cases e0:b = B
  ·subst e0
   rcases hB with ⟨e2,_⟩ | ⟨hB,_⟩
   ·subst e2
    simp only [World.cell?,hblk,hC0]
    simpa using hIm rfl x hb
   ·omega
  ·simp only [World.cell?,hsame b hlt e0]
 have hEvo:Evo g st { g with β := upd g.β k B,γ := upd g.γ k c } (st.set k o') := by
  intro k1 o1 hk1
  by_cases e0:k1 = k
  ·subst e0
   obtain rfl:o1 = o := Option.some.inj (hk1.symm.trans hk)
   refine ⟨o',by simp [hklt],hrow,hsz,hle,fun hl => ?_,fun hr => ?_⟩
   ·rcases hB with ⟨rfl,rfl⟩ | ⟨_,hl',_⟩
    ·simp [upd_same]
    ·omega
   ·rcases hB with ⟨rfl,rfl⟩ | ⟨_,_,hr'⟩
    ·simp [upd_same]
    ·rw [hr] at hr'; cases hr'
  ·refine ⟨o1,by rw [List.getElem?_set_ne (by omega)]; exact hk1,rfl,rfl,Nat.le_refl _,fun _ => ?_,fun _ => ?_⟩
   ·simp [upd_ne _ _ _ _ e0]
   ·simp [upd_ne _ _ _ _ e0]
 have hKp:∀ (b:Nat) (o:Go.Obj),w.heap[b]? = some o → special o = true → w'.heap[b]? = some o := by
  intro b x hb hs
  have hlt:b < w.heap.size := (Array.getElem?_eq_some_iff.1 hb).1
  have hne:b ≠ B := by
   intro e
   rcases hB with ⟨rfl,_⟩ | ⟨hB,_⟩
   ·rw [e,hC0] at hb
    obtain rfl := Option.some.inj hb
    simp [special] at hs
   ·omega
  rw [hsame b hlt hne]; exact hb
 refine ⟨⟨?_,?_,?_,?_,?_,Nat.le_trans h.size hbes.size⟩,hEvo,hImLe,fun b x hb => .inl hb,?_,fun b x hb hs => .same (hKp b x hb hs)⟩
 ·intro k1 o1 hk1 hm1
  by_cases e0:k1 = k
  ·subst e0
   obtain rfl:o1 = o' := by rw [List.getElem?_set_self hklt] at hk1; exact (Option.some.inj hk1).symm
   rw [isMap_eq hrow hsz,hm] at hm1; cases hm1
  ·rw [List.getElem?_set_ne (by omega)] at hk1
   have hne:g.β k1 ≠ B := by
    rcases hB with ⟨rfl,_⟩ | ⟨hB,_⟩
    ·exact fun e3 => e0 (h.inj _ _ _ _ hk1 hk e3)
    ·have := h.lt hk1; omega
   exact (h.mp k1 o1 hk1 hm1).mono hImLe hEvo (upd_ne _ _ _ _ e0) (hsame _ (h.lt hk1) hne)
 ·intro k1 o1 hk1 hm1
  by_cases e0:k1 = k
  ·subst e0
   obtain rfl:o1 = o' := by rw [List.getElem?_set_self hklt] at hk1; exact (Option.some.inj hk1).symm
   refine ⟨C',e',by simpa [upd_same] using hblk,by simpa [upd_same] using hbB,by omega,fun x hxx => (hx x hxx).trans hsz.symm,?_,?_⟩
   ·rw [hrow,hsz]
    simpa [upd_same] using hC
   ·intro i j d hd
    obtain ⟨h1',v,h2,h3⟩ := hrep i j d hd
    exact ⟨fun e => h1' (hrow.symm.trans e),v,by rw [hsz]; exact h2,h3.mono hImLe hEvo⟩
  ·rw [List.getElem?_set_ne (by omega)] at hk1
   obtain ⟨C2,e2,hb2,hbase2,hszp2,hx2,hC2,hrep2⟩ := h.blk k1 o1 hk1 hm1
   have hne:g.β k1 ≠ B := by
    rcases hB with ⟨rfl,_⟩ | ⟨hB,_⟩
    ·exact fun e3 => e0 (h.inj _ _ _ _ hk1 hk e3)
    ·have := h.lt hk1; omega
   refine ⟨C2,e2,?_,?_,hszp2,hx2,?_,?_⟩
   ·show w'.heap[upd g.β k B k1]? = _
    rw [upd_ne _ _ _ _ e0,hsame _ (h.lt hk1) hne]; exact hb2
   ·show base ≤ upd g.β k B k1
    rw [upd_ne _ _ _ _ e0]; exact hbase2
   ·simpa [upd_ne _ _ _ _ e0] using hC2
   ·intro i j d hd
    obtain ⟨h1',v,h2,h3⟩ := hrep2 i j d hd
    exact ⟨h1',v,h2,h3.mono hImLe hEvo⟩
 ·intro k1 k2 o1 o2 hk1 hk2 he
  simp only at he
  by_cases e1:k1 = k <;> by_cases e2:k2 = k
  ·omega
  ·exfalso
   subst e1
   rw [upd_same,upd_ne _ _ _ _ e2] at he
   rw [List.getElem?_set_ne (by omega)] at hk2
   rcases hB with ⟨rfl,_⟩ | ⟨hB,_⟩
   ·exact e2 (h.inj _ _ _ _ hk hk2 he).symm
   ·have := h.lt hk2; omega
  ·exfalso
   subst e2
   rw [upd_same,upd_ne _ _ _ _ e1] at he
   rw [List.getElem?_set_ne (by omega)] at hk1
   rcases hB with ⟨rfl,_⟩ | ⟨hB,_⟩
   ·exact e1 (h.inj _ _ _ _ hk1 hk he)
   ·have := h.lt hk1; omega
  ·rw [upd_ne _ _ _ _ e1,upd_ne _ _ _ _ e2] at he
   rw [List.getElem?_set_ne (by omega)] at hk1 hk2
   exact h.inj _ _ _ _ hk1 hk2 he
 ·intro b x hb
  rw [(hImLe.im b x hb).2]
  exact h.im b x hb
 ·intro k1 o1 x hk1 hi
  simp only at hi
  by_cases e0:k1 = k
  ·subst e0
   obtain rfl:o1 = o' := by rw [List.getElem?_set_self hklt] at hk1; exact (Option.some.inj hk1).symm
   rw [upd_same] at hi
   rcases hB with ⟨rfl,_⟩ | ⟨hB,_⟩
   ·obtain ⟨h1,h2⟩ := h.dis _ _ _ hk hi
    refine ⟨by rw [hlent]; exact h1,Nat.lt_of_lt_of_le h2 ?_⟩
    rw [hsz]
    exact Nat.mul_le_mul_right _ hle
   ·have := h.im_lt hi; omega
  ·rw [List.getElem?_set_ne (by omega)] at hk1
   rw [upd_ne _ _ _ _ e0] at hi
   exact h.dis _ _ _ hk1 hi
 ·refine ⟨hbes.os,hbes.tape,hbes.output,hbes.size,fun b hb => ?_⟩
  exact hsame b (Nat.lt_of_lt_of_le hb h.size) (by omega)
theorem SR.push {base:Nat} {w w':World} {g:Ghost} {st:St} (h:SR base w g st) {o:Obj} {c:Nat} {C:Array Value} {e:TypeId}
  (hbes:Beside w w') (hsame:∀ b,b < w.heap.size → w'.heap[b]? = w.heap[b]?)
  (hblk:w'.heap[w.heap.size]? = some (.cells C e (0,0)))
  (hm:o.isMap = false) (hszp:0 < o.sz) (hx:∀ x ∈ o.els,x.cells.length = o.sz)
  (hC:if o.row then C.size = c * o.sz ∧ o.els.length ≤ c ∧ c ≤ maxLen else C.size = o.els.length ∧ o.sz = 1 ∧ ∀ x ∈ o.els,x.cells = [x])
  (hrep:∀ i j d,cellAt o.els i j = some d → (o.row = true → d.pure1 = true) ∧ ∃ v,C[i * o.sz + j]? = some v ∧ RepV w g st d v) :
  Go1 base w g st w' { g with β := upd g.β st.length w.heap.size,γ := upd g.γ st.length c } (st ++ [o]) := by
 have hImLe:ImLe w g w' { g with β := upd g.β st.length w.heap.size,γ := upd g.γ st.length c } := by
  refine ⟨?_,fun b o hb _ => by rw [hsame b (Array.getElem?_eq_some_iff.1 hb).1]; exact hb⟩
  intro b x hb
  refine ⟨hb,?_⟩
  have hlt := h.im_lt hb
  simp only [World.cell?,hsame b hlt]
 have hlt:∀ (k1:Nat) (o1:Obj),st[k1]? = some o1 → k1 < st.length := fun k1 o1 h1 => (List.getElem?_eq_some_iff.1 h1).1
 have hEvo:Evo g st { g with β := upd g.β st.length w.heap.size,γ := upd g.γ st.length c } (st ++ [o]) := by
  intro k1 o1 hk1
  have := hlt _ _ hk1
  refine ⟨o1,by rw [List.getElem?_append_left this]; exact hk1,rfl,rfl,Nat.le_refl _,fun _ => ?_,fun _ => ?_⟩
  ·simp [upd_ne _ _ _ _ (show k1 ≠ st.length by omega)]
  ·simp [upd_ne _ _ _ _ (show k1 ≠ st.length by omega)]
 have cases':∀ (k1:Nat) (o1:Obj),(st ++ [o])[k1]? = some o1 → (k1 < st.length ∧ st[k1]? = some o1) ∨ (k1 = st.length ∧ o1 = o) := by
  intro k1 o1 h1
  by_cases h2:k1 < st.length
  ·rw [List.getElem?_append_left h2] at h1; exact .inl ⟨h2,h1⟩
  ·rw [List.getElem?_append_right (by omega)] at h1
   by_cases h3:k1 - st.length = 0
   ·rw [h3] at h1; simp at h1; exact .inr ⟨by omega,h1.symm⟩
   ·rw [List.getElem?_eq_none (by simp; omega)] at h1; cases h1
 refine ⟨⟨?_,?_,?_,?_,?_,Nat.le_trans h.size hbes.size⟩,hEvo,hImLe,fun b x hb => .inl hb,?_,fun b o hb _ => .same (by rw [hsame b (Array.getElem?_eq_some_iff.1 hb).1]; exact hb)⟩
 ·intro k1 o1 hk1 hm1
  rcases cases' k1 o1 hk1 with ⟨h1,h2⟩ | ⟨rfl,rfl⟩
  ·exact (h.mp k1 o1 h2 hm1).mono hImLe hEvo (upd_ne _ _ _ _ (by omega)) (hsame _ (h.lt h2))
  ·rw [hm] at hm1; cases hm1
 ·intro k1 o1 hk1 hm1
  rcases cases' k1 o1 hk1 with ⟨h1,h2⟩ | ⟨rfl,rfl⟩
  ·obtain ⟨C2,e2,hb2,hbase2,hszp2,hx2,hC2,hrep2⟩ := h.blk k1 o1 h2 hm1
   have e0:k1 ≠ st.length := by omega
   refine ⟨C2,e2,?_,?_,hszp2,hx2,?_,?_⟩
   ·show w'.heap[upd g.β st.length w.heap.size k1]? = _
    rw [upd_ne _ _ _ _ e0,hsame _ (h.lt h2)]; exact hb2
   ·show base ≤ upd g.β st.length w.heap.size k1
    rw [upd_ne _ _ _ _ e0]; exact hbase2
   ·simpa [upd_ne _ _ _ _ e0] using hC2
   ·intro i j d hd
    obtain ⟨h1',v,h2,h3⟩ := hrep2 i j d hd
    exact ⟨h1',v,h2,h3.mono hImLe hEvo⟩
  ·refine ⟨C,e,by simpa [upd_same] using hblk,by simpa [upd_same] using h.size,hszp,hx,by simpa [upd_same] using hC,?_⟩
   intro i j d hd
   obtain ⟨h1',v,h2,h3⟩ := hrep i j d hd
   exact ⟨h1',v,h2,h3.mono hImLe hEvo⟩
 ·intro k1 k2 o1 o2 hk1 hk2 he
  simp only at he
  rcases cases' k1 o1 hk1 with ⟨h1,h1'⟩ | ⟨rfl,_⟩ <;> rcases cases' k2 o2 hk2 with ⟨h2,h2'⟩ | ⟨rfl,_⟩
  ·rw [upd_ne _ _ _ _ (by omega),upd_ne _ _ _ _ (by omega)] at he
   exact h.inj _ _ _ _ h1' h2' he
  ·rw [upd_ne _ _ _ _ (by omega),upd_same] at he
   have := h.lt h1'; omega
  ·rw [upd_same,upd_ne _ _ _ _ (by omega)] at he
   have := h.lt h2'; omega
  ·rfl
 ·intro b x hb
  rw [(hImLe.im b x hb).2]
  exact h.im b x hb
 ·intro k1 o1 x hk1 hi
  simp only at hi
  rcases cases' k1 o1 hk1 with ⟨h1,h1'⟩ | ⟨rfl,rfl⟩
  ·rw [upd_ne _ _ _ _ (by omega)] at hi
   exact h.dis _ _ _ h1' hi
  ·rw [upd_same] at hi
   have := h.im_lt hi; omega
 ·exact ⟨hbes.os,hbes.tape,hbes.output,hbes.size,fun b hb => hsame b (Nat.lt_of_lt_of_le hb h.size)⟩
theorem SR.updM {base:Nat} {w w':World} {g:Ghost} {st:St} (h:SR base w g st) {k:Nat} {o o':Obj}
  (hk:st[k]? = some o) (hm:o.isMap = true) (hrow:o'.row = o.row) (hsz:o'.sz = o.sz) (hle:o.els.length ≤ o'.els.length)
  (hbes:Beside w w') (hsame:∀ b,b ≠ g.β k → w'.heap[b]? = w.heap[b]?) 
  (hat:∀ st',ImLe w g w' g → Evo g st g st' → MapAt base w' g st' (g.β k) o') (hkept:∀ x,w.heap[g.β k]? = some x → special x = true → Kept w' (g.β k) x) :
  Go1 base w g st w' g (st.set k o') := by
 have hklt:k < st.length := (List.getElem?_eq_some_iff.1 hk).1
 obtain ⟨x0,hb1,hbase1,hsp0,_,_,hc0⟩ := (h.mp k o hk hm).at
 have hnim:∀ x,¬ g.Im (g.β k) x := fun x hi => by
  have := h.im _ _ hi
  rw [hc0] at this
  cases this
 have hImLe:ImLe w g w' g := by
  refine ⟨?_,fun b x hb hs => ?_⟩
  case refine_2 =>
   have hne:b ≠ g.β k := by
    intro e
    rw [e,hb1] at hb
    obtain rfl := Option.some.inj hb
    rw [hsp0] at hs; cases hs
   rw [hsame b hne]; exact hb
  intro b x hb
  refine ⟨hb,?_⟩
  by_cases e0:b = g.β k
  ·subst e0; exact absurd hb (hnim x)
  ·simp only [World.cell?,hsame b e0]
 have hEvo:Evo g st g (st.set k o') := by
  intro k1 o1 hk1
  by_cases e0:k1 = k
  ·subst e0
   obtain rfl:o1 = o := Option.some.inj (hk1.symm.trans hk)
   exact ⟨o',by simp [hklt],hrow,hsz,hle,fun _ => ⟨rfl,rfl⟩,fun _ => rfl⟩
  ·exact ⟨o1,by rw [List.getElem?_set_ne (by omega)]; exact hk1,rfl,rfl,Nat.le_refl _,fun _ => ⟨rfl,rfl⟩,fun _ => rfl⟩
 refine ⟨⟨?_,?_,?_,?_,?_,Nat.le_trans h.size hbes.size⟩,hEvo,hImLe,fun b x hb => .inl hb,?_,?_⟩
 ·intro k1 o1 hk1 hm1
  by_cases e0:k1 = k
  ·subst e0
   obtain rfl:o1 = o' := by rw [List.getElem?_set_self hklt] at hk1; exact (Option.some.inj hk1).symm
   exact hat _ hImLe hEvo
  ·rw [List.getElem?_set_ne (by omega)] at hk1
   exact (h.mp k1 o1 hk1 hm1).mono hImLe hEvo rfl (hsame _ (fun e3 => e0 (h.inj _ _ _ _ hk1 hk e3)))
 ·intro k1 o1 hk1 hm1
  by_cases e0:k1 = k
  ·subst e0
   obtain rfl:o1 = o' := by rw [List.getElem?_set_self hklt] at hk1; exact (Option.some.inj hk1).symm
   rw [isMap_eq hrow hsz,hm] at hm1; cases hm1
  ·rw [List.getElem?_set_ne (by omega)] at hk1
   obtain ⟨C2,e2,hb2,hbase2,hszp2,hx2,hC2,hrep2⟩ := h.blk k1 o1 hk1 hm1
   refine ⟨C2,e2,(hsame _ (fun e3 => e0 (h.inj _ _ _ _ hk1 hk e3))).trans hb2,hbase2,hszp2,hx2,hC2,?_⟩
   intro i j d hd
   obtain ⟨h1',v,h2,h3⟩ := hrep2 i j d hd
   exact ⟨h1',v,h2,h3.mono hImLe hEvo⟩
 ·intro k1 k2 o1 o2 hk1 hk2 he
  by_cases e1:k1 = k <;> by_cases e2:k2 = k
  ·omega
  ·subst e1
   rw [List.getElem?_set_ne (by omega)] at hk2
   exact h.inj _ _ _ _ hk hk2 he
  ·subst e2
   rw [List.getElem?_set_ne (by omega)] at hk1
   exact h.inj _ _ _ _ hk1 hk he
  ·rw [List.getElem?_set_ne (by omega)] at hk1 hk2
   exact h.inj _ _ _ _ hk1 hk2 he
 ·intro b x hb
  rw [(hImLe.im b x hb).2]
  exact h.im b x hb
 ·intro k1 o1 x hk1 hi
  by_cases e0:k1 = k
  ·subst e0; exact absurd hi (hnim x)
  ·rw [List.getElem?_set_ne (by omega)] at hk1
   exact h.dis _ _ _ hk1 hi
 ·exact ⟨hbes.os,hbes.tape,hbes.output,hbes.size,fun b hb => hsame b (by omega)⟩
 ·intro b x hb hs
  by_cases hne:b = g.β k
  ·subst hne; exact hkept x hb hs
  ·exact .same (by rw [hsame b hne]; exact hb)
theorem SR.updMap {base:Nat} {w w':World} {g:Ghost} {st:St} (h:SR base w g st) {k:Nat} {o o':Obj} {es':Array MapEntry} {clock':Nat}
  (hk:st[k]? = some o) (hm:o.isMap = true) (hns:o.sz ≠ 1000003) (hrow:o'.row = o.row) (hsz:o'.sz = o.sz) (hle:o.els.length ≤ o'.els.length) (_:o'.lent = o.lent)
  (hbes:Beside w w') (hsame:∀ b,b ≠ g.β k → w'.heap[b]? = w.heap[b]?) (hblk:w'.heap[g.β k]? = some (.map es' clock'))
  (hlen:es'.size = o'.els.length) (hx:∀ x ∈ o'.els,∃ l,x = .agg l ∧ l.length = o.sz)
  (hrep:∀ (i:Nat) (e:MapEntry) (el:D),es'[i]? = some e → o'.els[i]? = some el → RepV w g st (entK o.sz el) e.key ∧ RepV w g st (entV o.sz el) e.val) (hsp:spM (.map es' clock') = false) :
  Go1 base w g st w' g (st.set k o') := by
 obtain ⟨es,clock,hb1,hbase1,_⟩ := (h.mp k o hk hm).old hns
 refine h.updM hk hm hrow hsz hle hbes hsame (fun st' hI hE => ?_) (fun x hb hs => ?_)
 ·unfold MapAt
  rw [if_neg (by rw [hsz]; exact hns)]
  refine ⟨es',clock',hblk,hbase1,hlen,by rw [hsz]; exact hx,?_,hsp⟩
  rw [hsz]
  exact fun i e el he hel => ⟨(hrep i e el he hel).1.mono hI hE,(hrep i e el he hel).2.mono hI hE⟩
 ·rw [hb1] at hb
  obtain rfl := Option.some.inj hb
  simp [special] at hs
theorem SR.updRec {base:Nat} {w w':World} {g:Ghost} {st:St} (h:SR base w g st) {k:Nat} {o:Obj} {r:Loop} {n:Int} {s:_} {p:Option Code}
  (hk:st[k]? = some o) (hrow:o.row = false) (hsz:o.sz = 1000003)
  (hbes:Beside w w') (hsame:∀ b,b ≠ g.β k → w'.heap[b]? = w.heap[b]?) (hr:w.heap[g.β k]? = some (.loop r)) (hblk:w'.heap[g.β k]? = some (.loop { r with state := s,pending := p }))
  (h0:n = 0 → s = .ready ∧ p = none) (h1:n = 1 → s = .done ∧ p = some .ret) :
  Go1 base w g st w' g (st.set k (recO n)) := by
 have hm:o.isMap = true := by simp [Obj.isMap,hrow,hsz]
 obtain ⟨r0,n0,hb1,hbase1,hels,_⟩ := (h.mp k o hk hm).rec' hsz
 refine h.updM hk hm (by rw [hrow]; rfl) (by rw [hsz]; rfl) (by rw [hels]; exact Nat.le_refl _) hbes hsame (fun st' hI hE => ?_) (fun x hb hs => ?_)
 ·unfold MapAt
  rw [if_pos (show (recO n).sz = 1000003 from rfl)]
  exact ⟨_,n,hblk,hbase1,rfl,h0,h1⟩
 ·rw [hr] at hb
  obtain rfl := Option.some.inj hb
  exact ⟨_,hblk,_,_,rfl⟩
theorem SR.pushM {base:Nat} {w w':World} {g:Ghost} {st:St} (h:SR base w g st) {o:Obj} {B:Nat} (hB:w.heap.size ≤ B)
  (hbes:Beside w w') (hsame:∀ b,b < w.heap.size → w'.heap[b]? = w.heap[b]?) (hm:o.isMap = true)
  (hat:∀ g' st',MapAt base w' g' st' B o) :
  Go1 base w g st w' { g with β := upd g.β st.length B } (st ++ [o]) := by
 have hImLe:ImLe w g w' { g with β := upd g.β st.length B } := by
  refine ⟨?_,fun b o hb _ => by rw [hsame b (Array.getElem?_eq_some_iff.1 hb).1]; exact hb⟩
  intro b x hb
  refine ⟨hb,?_⟩
  have hlt := h.im_lt hb
  simp only [World.cell?,hsame b hlt]
 have hlt:∀ (k1:Nat) (o1:Obj),st[k1]? = some o1 → k1 < st.length := fun k1 o1 h1 => (List.getElem?_eq_some_iff.1 h1).1
 have hEvo:Evo g st { g with β := upd g.β st.length B } (st ++ [o]) := by
  intro k1 o1 hk1
  have := hlt _ _ hk1
  refine ⟨o1,by rw [List.getElem?_append_left this]; exact hk1,rfl,rfl,Nat.le_refl _,fun _ => ?_,fun _ => ?_⟩
  ·simp [upd_ne _ _ _ _ (show k1 ≠ st.length by omega)]
  ·simp [upd_ne _ _ _ _ (show k1 ≠ st.length by omega)]
 have cases':∀ (k1:Nat) (o1:Obj),(st ++ [o])[k1]? = some o1 → (k1 < st.length ∧ st[k1]? = some o1) ∨ (k1 = st.length ∧ o1 = o) := by
  intro k1 o1 h1
  by_cases h2:k1 < st.length
  ·rw [List.getElem?_append_left h2] at h1; exact .inl ⟨h2,h1⟩
  ·rw [List.getElem?_append_right (by omega)] at h1
   by_cases h3:k1 - st.length = 0
   ·rw [h3] at h1; simp at h1; exact .inr ⟨by omega,h1.symm⟩
   ·rw [List.getElem?_eq_none (by simp; omega)] at h1; cases h1
 refine ⟨⟨?_,?_,?_,?_,?_,Nat.le_trans h.size hbes.size⟩,hEvo,hImLe,fun b x hb => .inl hb,?_,fun b o hb _ => .same (by rw [hsame b (Array.getElem?_eq_some_iff.1 hb).1]; exact hb)⟩
 ·intro k1 o1 hk1 hm1
  rcases cases' k1 o1 hk1 with ⟨h1,h2⟩ | ⟨rfl,rfl⟩
  ·exact (h.mp k1 o1 h2 hm1).mono hImLe hEvo (upd_ne _ _ _ _ (by omega)) (hsame _ (h.lt h2))
  ·show MapAt base w' _ _ (upd g.β st.length B st.length) _
   rw [upd_same]; exact hat _ _
 ·intro k1 o1 hk1 hm1
  rcases cases' k1 o1 hk1 with ⟨h1,h2⟩ | ⟨rfl,rfl⟩
  ·obtain ⟨C2,e2,hb2,hbase2,hszp2,hx2,hC2,hrep2⟩ := h.blk k1 o1 h2 hm1
   have e0:k1 ≠ st.length := by omega
   refine ⟨C2,e2,?_,?_,hszp2,hx2,hC2,?_⟩
   ·show w'.heap[upd g.β st.length B k1]? = _
    rw [upd_ne _ _ _ _ e0,hsame _ (h.lt h2)]; exact hb2
   ·show base ≤ upd g.β st.length B k1
    rw [upd_ne _ _ _ _ e0]; exact hbase2
   ·intro i j d hd
    obtain ⟨h1',v,h2,h3⟩ := hrep2 i j d hd
    exact ⟨h1',v,h2,h3.mono hImLe hEvo⟩
  ·rw [hm] at hm1; cases hm1
 ·intro k1 k2 o1 o2 hk1 hk2 he
  simp only at he
  rcases cases' k1 o1 hk1 with ⟨h1,h1'⟩ | ⟨rfl,_⟩ <;> rcases cases' k2 o2 hk2 with ⟨h2,h2'⟩ | ⟨rfl,_⟩
  ·rw [upd_ne _ _ _ _ (by omega),upd_ne _ _ _ _ (by omega)] at he
   exact h.inj _ _ _ _ h1' h2' he
  ·rw [upd_ne _ _ _ _ (by omega),upd_same] at he
   have := h.lt h1'; omega
  ·rw [upd_same,upd_ne _ _ _ _ (by omega)] at he
   have := h.lt h2'; omega
  ·rfl
 ·intro b x hb
  rw [(hImLe.im b x hb).2]
  exact h.im b x hb
 ·intro k1 o1 x hk1 hi
  simp only at hi
  rcases cases' k1 o1 hk1 with ⟨h1,h1'⟩ | ⟨rfl,rfl⟩
  ·rw [upd_ne _ _ _ _ (by omega)] at hi
   exact h.dis _ _ _ h1' hi
  ·rw [upd_same] at hi
   have := h.im_lt hi; omega
 ·exact ⟨hbes.os,hbes.tape,hbes.output,hbes.size,fun b hb => hsame b (Nat.lt_of_lt_of_le hb h.size)⟩
theorem SR.pushMap {base:Nat} {w w':World} {g:Ghost} {st:St} (h:SR base w g st) {o:Obj} {clock:Nat}
  (hbes:Beside w w') (hsame:∀ b,b < w.heap.size → w'.heap[b]? = w.heap[b]?) (hblk:w'.heap[w.heap.size]? = some (.map #[] clock)) (hm:o.isMap = true) (hns:o.sz ≠ 1000003) (hels:o.els = []) :
  Go1 base w g st w' { g with β := upd g.β st.length w.heap.size } (st ++ [o]) := by
 refine h.pushM (Nat.le_refl _) hbes hsame hm fun g' st' => ?_
 unfold MapAt
 rw [if_neg hns]
 refine ⟨#[],clock,hblk,h.size,by rw [hels]; rfl,(by rw [hels]; exact fun x hx => (by cases hx)),?_,rfl⟩
 intro i e el he
 simp at he
theorem SR.pushRec {base:Nat} {w w':World} {g:Ghost} {st:St} (h:SR base w g st) {B:Nat} {r:Loop} (hB:w.heap.size ≤ B)
  (hbes:Beside w w') (hsame:∀ b,b < w.heap.size → w'.heap[b]? = w.heap[b]?) (hblk:w'.heap[B]? = some (.loop r)) (h0:r.state = .ready ∧ r.pending = none) :
  Go1 base w g st w' { g with β := upd g.β st.length B } (st ++ [recO 0]) := by
 refine h.pushM hB hbes hsame rfl fun g' st' => ?_
 unfold MapAt
 rw [if_pos (show (recO 0).sz = 1000003 from rfl)]
 exact ⟨r,0,hblk,Nat.le_trans h.size hB,rfl,fun _ => h0,fun e => by cases e⟩
theorem SR.more {base:Nat} {w w':World} {g:Ghost} {st:St} (h:SR base w g st) {Im':Nat → Nat → Prop}
  (hbes:Beside w w') (hsame:∀ b,b < w.heap.size → w'.heap[b]? = w.heap[b]?)
  (hle:∀ b o,g.Im b o → Im' b o) (hnew:∀ b o,Im' b o → g.Im b o ∨ w.heap.size ≤ b) (him:∀ b o,Im' b o → (w'.cell? ⟨b,o,none⟩).isSome = true) :
  Go1 base w g st w' { g with Im := Im' } st := by
 have hImLe:ImLe w g w' { g with Im := Im' } := by
  refine ⟨?_,fun b o hb _ => by rw [hsame b (Array.getElem?_eq_some_iff.1 hb).1]; exact hb⟩
  intro b x hb
  refine ⟨hle b x hb,?_⟩
  have hlt := h.im_lt hb
  simp only [World.cell?,hsame b hlt]
 have hEvo:Evo g st { g with Im := Im' } st := fun k o hk => ⟨o,hk,rfl,rfl,Nat.le_refl _,fun _ => ⟨rfl,rfl⟩,fun _ => rfl⟩
 refine ⟨⟨fun k1 o1 hk1 hm1 => (h.mp k1 o1 hk1 hm1).mono hImLe hEvo rfl (hsame _ (h.lt hk1)),?_,h.inj,him,?_,Nat.le_trans h.size hbes.size⟩,hEvo,hImLe,fun b x hb => ?_,?_,fun b o hb _ => .same (by rw [hsame b (Array.getElem?_eq_some_iff.1 hb).1]; exact hb)⟩
 ·intro k1 o1 hk1 hm1
  obtain ⟨C2,e2,hb2,hbase2,hszp2,hx2,hC2,hrep2⟩ := h.blk k1 o1 hk1 hm1
  refine ⟨C2,e2,(hsame _ (h.lt hk1)).trans hb2,hbase2,hszp2,hx2,hC2,?_⟩
  intro i j d hd
  obtain ⟨h1',v,h2,h3⟩ := hrep2 i j d hd
  exact ⟨h1',v,h2,h3.mono hImLe hEvo⟩
 ·intro k1 o1 x hk1 hi
  rcases hnew _ _ hi with h1 | h1
  ·exact h.dis _ _ _ hk1 h1
  ·have := h.lt hk1; simp only at h1; omega
 ·rcases hnew _ _ hb with h1 | h1
  ·exact .inl h1
  ·exact .inr (Nat.le_trans h.size h1)
 ·exact ⟨hbes.os,hbes.tape,hbes.output,hbes.size,fun b hb => hsame b (Nat.lt_of_lt_of_le hb h.size)⟩
theorem SR.lend1 {base:Nat} {w:World} {g:Ghost} {st:St} (h:SR base w g st) (k:Nat) :
  Go1 base w g st w { g with Im := fun b x => g.Im b x ∨ ∃ o,st[k]? = some o ∧ o.isMap = false ∧ b = g.β k ∧ x < o.els.length * o.sz } (st.modify k fun o => { o with lent := true }) := by
 have hImLe:ImLe w g w { g with Im := fun b x => g.Im b x ∨ ∃ o,st[k]? = some o ∧ o.isMap = false ∧ b = g.β k ∧ x < o.els.length * o.sz } := ⟨fun b x hb => ⟨.inl hb,rfl⟩,fun _ _ h _ => h⟩
 have get:∀ (k1:Nat) (o1:Obj),(st.modify k fun o => { o with lent := true })[k1]? = some o1 → ∃ o0,st[k1]? = some o0 ∧ o1 = (if k1 = k then { o0 with lent := true } else o0) := by
  intro k1 o1 h1
  rw [List.getElem?_modify] at h1
  cases h0:st[k1]? with
  | none => simp [h0] at h1
  | some o0 =>
   refine ⟨o0,rfl,?_⟩
   simp [h0] at h1
   rw [← h1]
   by_cases e:k1 = k
   ·simp [e]
   ·simp [e,show ¬ k = k1 by omega]
 have hEvo:Evo g st { g with Im := fun b x => g.Im b x ∨ ∃ o,st[k]? = some o ∧ o.isMap = false ∧ b = g.β k ∧ x < o.els.length * o.sz } (st.modify k fun o => { o with lent := true }) := by
  intro k1 o1 hk1
  refine ⟨if k = k1 then { o1 with lent := true } else o1,by rw [List.getElem?_modify,hk1]; split <;> simp_all,?_,?_,?_,fun _ => ⟨rfl,rfl⟩,fun _ => rfl⟩ <;> split <;> simp
 refine ⟨⟨?_,?_,?_,?_,?_,h.size⟩,hEvo,hImLe,fun b x hb => ?_,Below.refl _ _,fun _ _ h _ => .same h⟩
 ·intro k1 o1 hk1 hm1
  obtain ⟨o0,h0,he⟩ := get k1 o1 hk1
  have f1:o1.sz = o0.sz := by rw [he]; split <;> rfl
  have f2:o1.els = o0.els := by rw [he]; split <;> rfl
  have f3:o1.row = o0.row := by rw [he]; split <;> rfl
  have hmp := h.mp k1 o0 h0 ((isMap_eq f3 f1).symm.trans hm1)
  unfold MapAt at hmp ⊢
  rw [f1]
  split
  ·rename_i hs
   rw [if_pos hs] at hmp
   obtain ⟨r,n,a1,a2,a3,a4⟩ := hmp
   exact ⟨r,n,a1,a2,by rw [f2]; exact a3,a4⟩
  rename_i hs
  rw [if_neg hs] at hmp
  obtain ⟨es,clock,a1,a2,a3,a4,a5,a6⟩ := hmp
  refine ⟨es,clock,a1,a2,by rw [f2]; exact a3,by rw [f1,f2]; exact a4,?_,a6⟩
  rw [f1,f2]
  exact fun i e el he hel => ⟨(a5 i e el he hel).1.mono hImLe hEvo,(a5 i e el he hel).2.mono hImLe hEvo⟩
 ·intro k1 o1 hk1 hm1
  obtain ⟨o0,h0,he⟩ := get k1 o1 hk1
  have f1:o1.sz = o0.sz := by rw [he]; split <;> rfl
  have f2:o1.els = o0.els := by rw [he]; split <;> rfl
  have f3:o1.row = o0.row := by rw [he]; split <;> rfl
  obtain ⟨C2,e2,hb2,hbase2,hszp2,hx2,hC2,hrep2⟩ := h.blk k1 o0 h0 ((isMap_eq f3 f1).symm.trans hm1)
  refine ⟨C2,e2,hb2,hbase2,by rw [f1]; exact hszp2,by rw [f1,f2]; exact hx2,by rw [f1,f2,f3]; exact hC2,?_⟩
  intro i j d hd
  rw [f2] at hd
  obtain ⟨h1',v,h2,h3⟩ := hrep2 i j d hd
  exact ⟨fun e => h1' (f3.symm.trans e),v,by rw [f1]; exact h2,h3.mono hImLe hEvo⟩
 ·intro k1 k2 o1 o2 hk1 hk2 he
  obtain ⟨p1,q1,_⟩ := get k1 o1 hk1
  obtain ⟨p2,q2,_⟩ := get k2 o2 hk2
  exact h.inj _ _ _ _ q1 q2 he
 ·intro b x hb
  rcases hb with hb | ⟨o,ho,hm,rfl,hx⟩
  ·exact h.im b x hb
  ·obtain ⟨C2,e2,hb2,hbase2,hszp2,hx2,hC2,hrep2⟩ := h.blk k o ho hm
   simp only [World.cell?,hb2]
   have:x < C2.size := by
    split at hC2
    ·rw [hC2.1]; exact Nat.lt_of_lt_of_le hx (Nat.mul_le_mul_right _ hC2.2.1)
    ·rw [hC2.1]; rw [hC2.2.1] at hx; simpa using hx
   simp [this]
 ·intro k1 o1 x hk1 hi
  obtain ⟨o0,h0,he⟩ := get k1 o1 hk1
  have f1:o1.sz = o0.sz := by rw [he]; split <;> rfl
  have f2:o1.els = o0.els := by rw [he]; split <;> rfl
  rw [f1,f2]
  rcases hi with hi | ⟨o,ho,_,he2,hx⟩
  ·have := h.dis _ _ _ h0 hi
   refine ⟨?_,this.2⟩
   rw [he]; split
   ·rfl
   ·exact this.1
  ·obtain rfl:k1 = k := h.inj _ _ _ _ h0 ho he2
   obtain rfl:o0 = o := Option.some.inj (h0.symm.trans ho)
   exact ⟨by rw [he]; simp,hx⟩
 ·rcases hb with hb | ⟨o,ho,_,rfl,hx⟩
  ·exact .inl hb
  ·exact .inr (h.based ho)
theorem SR.lend {base:Nat} {w:World}:∀ (ks:List Nat) {g:Ghost} {st:St},SR base w g st →
  ∃ g',Go1 base w g st w g' (PI.lend ks st) ∧ g'.β = g.β ∧ g'.γ = g.γ ∧
   (∀ k ∈ ks,∀ o,st[k]? = some o → o.isMap = false → ∀ x,x < o.els.length * o.sz → g'.Im (g.β k) x)
 | [],g,st,h => ⟨g,Go1.refl h,rfl,rfl,fun _ hk => by cases hk⟩
 | k :: r,g,st,h => by
  have h1 := h.lend1 k
  obtain ⟨g',h2,hb,hc,hi⟩ := SR.lend r h1.sr
  refine ⟨g',h1.trans h2,hb,hc,?_⟩
  intro k1 hk1 o ho hm x hx
  rcases List.mem_cons.1 hk1 with rfl | hk1
  ·exact (h2.im.im _ _ (.inr ⟨o,ho,hm,rfl,hx⟩)).1
  ·obtain ⟨o',ho',e1,e2,e3,_⟩ := h1.evo k1 o ho
   refine hi k1 hk1 o' ho' ((isMap_eq e1 e2).trans hm) x ?_
   have:o'.els = o.els := by
    rw [List.getElem?_modify,ho] at ho'
    simp at ho'
    rw [← ho']; split <;> rfl
   rw [this,e2]; exact hx
theorem SR.drew {base:Nat} {w:World} {g:Ghost} {st:St} (h:SR base w g st) (n:Nat):Go1 base w g st { w with drawn := n } g st := by
 have := h.more (w' := { w with drawn := n }) (Im' := g.Im) ⟨rfl,rfl,rfl,Nat.le_refl _⟩ (fun _ _ => rfl) (fun _ _ h => h) (fun _ _ h => .inl h) (fun b o hb => h.im b o hb)
 exact this
end Go.Proofs.YtlleccmnjpcogaaDoor.PI
