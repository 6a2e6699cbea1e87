/-
  Each operation of the model does what its pure counterpart does: what only computes or reads.
  Conditions: none; these are lemmas.
-/
import Derived.Test.YtlleccmnjpcogaaDoorEngD
set_option linter.unusedVariables false
set_option linter.unusedSimpArgs false
namespace Go.Proofs.YtlleccmnjpcogaaDoor.PI
open Go Go.RowKit
def RunsTo (P:Program) (base:Nat) (w:World) (g:Ghost) (st:St) (s:Sem Value) (d:D) (st':St):Prop :=
 ∃ v w' g',s.run P w = .ok v w' ∧ Go1 base w g st w' g' st' ∧ RepV w' g' st' d v
section
variable {P:Program} {base:Nat} {w:World} {g:Ghost} {st:St}
theorem RunsTo.still (h:SR base w g st) {s:Sem Value} {d:D} {v:Value} (hr:s.run P w = .ok v w) (hd:RepV w g st d v):RunsTo P base w g st s d st :=
 ⟨v,w,g,hr,Go1.refl h,hd⟩
theorem int_inv {k:IntKind} {n:Int} {v:Value} (h:RepV w g st (.int k n) v):v = .int k n := by cases h; rfl
theorem bool_inv {b:Bool} {v:Value} (h:RepV w g st (.bool b) v):v = .bool b := by cases h; rfl
theorem str_inv {s:List UInt8} {v:Value} (h:RepV w g st (.str s) v):v = .string ⟨s.toArray⟩ := by cases h; rfl
theorem toList_mk (s:List UInt8):ByteArray.toList ⟨s.toArray⟩ = s := by
 rw [ByteArray.toList_eq]
theorem str_rep (s:ByteArray) (l:List UInt8) (h:s.data.toList = l):RepV w g st (.str l) (.string s) := by
 subst h
 have:s = ⟨s.data.toList.toArray⟩ := by rw [Array.toArray_toList]
 conv => rhs; rw [this]
 exact .str _
theorem strop_run (op:BinOp) (x y:List UInt8) (d:D) (h:strop op x y = some d):∃ v,(Op.stringOp op ⟨x.toArray⟩ ⟨y.toArray⟩).run P w = .ok v w ∧ RepV w g st d v := by
 unfold strop at h
 unfold Op.stringOp
 simp only [toList_mk]
 cases op <;> simp only [reduceCtorEq] at h <;> try (injection h with h; subst h; exact ⟨_,rfl,.bool _⟩)
 split at h
 ·rename_i hl
  simp at h; subst h
  have:¬ (((ByteArray.size ⟨x.toArray⟩ + ByteArray.size ⟨y.toArray⟩:Nat):Int) > IntKind.i64.max) := by
   have e:IntKind.i64.max = 9223372036854775807 := by decide
   rw [e]
   simp only [ByteArray.size,List.size_toArray]
   omega
  simp only [this,if_false]
  exact ⟨_,rfl,str_rep _ _ (by simp)⟩
 ·cases h
theorem eqGuard_flat (op:BinOp) (t:TypeId) (x y:Operand) (a b:Value) (h:∀ u,a ≠ .agg u) (h':a ≠ .nilIface):(eqGuard op t x y a b).run P w = .ok () w := by
 unfold eqGuard
 cases a <;> first
  | exact absurd rfl (h _)
  | exact absurd rfl h'
  | (split <;> rfl)
theorem pbin_run (op:BinOp) (t:TypeId) (x y:D) (d:D) (vx vy:Value) (h:pbin op x y = some d) (hx:RepV w g st x vx) (hy:RepV w g st y vy) :
  (∃ v,(binOp op t vx vy).run P w = .ok v w ∧ RepV w g st d v) ∧ (∀ u,vx ≠ .agg u) ∧ vx ≠ .nilIface := by
 unfold pbin at h
 split at h
 ·rename_i k a k' b
  obtain rfl := int_inv hx
  obtain rfl := int_inv hy
  refine ⟨?_,(by intro u e; cases e),(by intro e; cases e)⟩
  have arith:∀ q,iarith op k a b = some q → (op = .add ∨ op = .sub ∨ op = .mul) → (Op.intArith op k a b).run P w = .ok (.int k q) w := by
   intro q hq ho
   rcases ho with rfl | rfl | rfl <;> simp [iarith] at hq <;> subst hq <;> rfl
  have div:∀ q,iarith op k a b = some q → (op = .quo ∨ op = .rem) → (Op.intDiv op k a b).run P w = .ok (.int k q) w := by
   intro q hq ho
   rcases ho with rfl | rfl <;> simp [iarith] at hq <;> obtain ⟨h0,rfl⟩ := hq <;> simp [Op.intDiv,h0]
  have bits:∀ q,ibits op k a b = some q → (Op.intBits op k a b).run P w = .ok (.int k q) w := by
   intro q hq
   cases op <;> simp only [ibits,Option.some.injEq,reduceCtorEq] at hq <;> subst hq <;> rfl
  have cmp:∀ q,icmp op a b = some q → (Op.intCmp op a b).run P w = .ok (.bool q) w := by
   intro q hq
   cases op <;> simp [icmp] at hq <;> subst hq <;> rfl
  have shf:∀ q,ishift op k a b = some q → (Op.shift op k a k' b).run P w = .ok (.int k q) w := by
   intro q hq
   unfold ishift at hq
   split at hq
   ·cases hq
   ·rename_i hb
    cases op <;> simp at hq <;> subst hq <;> simp [Op.shift,hb]
  cases op
  case shl => 
   simp only [] at h
   cases hs:ishift .shl k a b with
   | none => simp [hs] at h
   | some q => simp [hs] at h; subst h; exact ⟨_,by simp only [binOp]; exact shf q hs,.int _ _⟩
  case shr => 
   simp only [] at h
   cases hs:ishift .shr k a b with
   | none => simp [hs] at h
   | some q => simp [hs] at h; subst h; exact ⟨_,by simp only [binOp]; exact shf q hs,.int _ _⟩
  all_goals
   simp only [] at h
   split at h
   case isFalse => cases h
   rename_i hk
   subst hk
   simp only [Option.map_eq_some_iff] at h
   obtain ⟨q,hq,rfl⟩ := h
   first
    | exact ⟨_,by simp only [binOp,ne_eq,not_true_eq_false,if_false]; exact arith q hq (by simp),.int _ _⟩
    | exact ⟨_,by simp only [binOp,ne_eq,not_true_eq_false,if_false]; exact div q hq (by simp),.int _ _⟩
    | exact ⟨_,by simp only [binOp,ne_eq,not_true_eq_false,if_false]; exact bits q hq,.int _ _⟩
    | exact ⟨_,by simp only [binOp,ne_eq,not_true_eq_false,if_false]; exact cmp q hq,.bool _⟩
 ·rename_i a b
  obtain rfl := str_inv hx
  obtain rfl := str_inv hy
  refine ⟨?_,(by intro u e; cases e),(by intro e; cases e)⟩
  obtain ⟨v,h1,h2⟩ := strop_run (P := P) (w := w) (g := g) (st := st) op a b d h
  refine ⟨v,?_,h2⟩
  cases op <;> first | exact h1 | (simp [strop] at h; done)
 ·cases h
theorem pbeq_run (neg:Bool) (t:TypeId) (ht:P.underlying t = some .bool) (x y:D) (d:D) (vx vy:Value) (h:pbeq neg x y = some d) (hx:RepV w g st x vx) (hy:RepV w g st y vy) :
  (∃ v,(binOp (if neg then .neq else .eql) t vx vy).run P w = .ok v w ∧ RepV w g st d v) ∧ (∀ u,vx ≠ .agg u) ∧ vx ≠ .nilIface := by
 unfold pbeq at h
 split at h
 ·rename_i a b
  obtain rfl := bool_inv hx
  obtain rfl := bool_inv hy
  refine ⟨?_,(by intro u e; cases e),(by intro e; cases e)⟩
  simp at h; subst h
  have he:(Op.equal t (.bool a) (.bool b)).run P w = .ok (a == b) w := run_equalIn_bool w 9999 t a b ht
  refine ⟨_,?_,.bool _⟩
  cases neg <;> simp [binOp,he]
 ·cases h
theorem pun_run (op:UnOp) (x:D) (d:D) (vx:Value) (h:pun op x = some d) (hx:RepV w g st x vx):∃ v,(Op.unary op vx).run P w = .ok v w ∧ RepV w g st d v := by
 unfold pun at h
 split at h
 ·obtain rfl := int_inv hx
  simp only [Option.some.injEq] at h; subst h
  exact ⟨_,rfl,.int _ _⟩
 ·obtain rfl := int_inv hx
  simp only [Option.map_eq_some_iff] at h
  obtain ⟨q,hq,rfl⟩ := h
  simp only [ibits,Option.some.injEq] at hq; subst hq
  exact ⟨_,rfl,.int _ _⟩
 ·obtain rfl := bool_inv hx
  simp at h; subst h
  exact ⟨_,rfl,.bool _⟩
 ·cases h
theorem natOf_inv {x:D} {n:Nat} {v:Value} (h:natOf x = some n) (hx:RepV w g st x v):∃ k,v = .int k (n:Int) := by
 unfold natOf at h
 split at h
 ·obtain rfl := int_inv hx
  split at h
  ·simp at h; subst h
   rename_i k q hq
   exact ⟨k,by rw [Int.toNat_of_nonneg hq]⟩
  ·cases h
 ·cases h
theorem cellAt_some {els:List D} {i j:Nat} {d:D} (h:cellAt els i j = some d):∃ e,els[i]? = some e ∧ e.cells[j]? = some d := by
 unfold cellAt at h
 cases he:els[i]? with
 | none => simp [he] at h
 | some e => simp [he] at h; exact ⟨e,rfl,h⟩
theorem cellAt_mk {els:List D} {i j:Nat} {e d:D} (he:els[i]? = some e) (hd:e.cells[j]? = some d):cellAt els i j = some d := by
 simp [cellAt,he,hd]
theorem RepV.slc_mk {els:List D} {t:Bool} {b off cap sz:Nat} (h0:0 < sz) (hl:∀ e ∈ els,e.cells.length = sz) (hcap:els.length ≤ cap) (ht:t = true → cap = els.length)
  (h:∀ i j d,cellAt els i j = some d → d.pure1 = true ∧ g.Im b (off + i * sz + j) ∧ ∃ v,w.cell? ⟨b,off + i * sz + j,none⟩ = some v ∧ RepV w g st d v) :
  RepV w g st (.slc sz els t) (.slice (some ⟨b,off,none⟩) els.length cap) := by
 by_cases he:els = []
 ·subst he
  exact .slcE sz t _ cap ht
 ·refine .slc els t b off cap sz (fun i j => (w.cell? ⟨b,off + i * sz + j,none⟩).getD undef) he h0 hl (fun i j d hd => (h i j d hd).1) hcap ht ?_ ?_
  ·intro i j d hd
   obtain ⟨_,h2,v,h3,_⟩ := h i j d hd
   exact ⟨h2,by simp [h3]⟩
  ·intro i j d hd
   obtain ⟨_,h2,v,h3,h4⟩ := h i j d hd
   simpa [h3] using h4
structure Els (w:World) (g:Ghost) (st:St) (v:Value) (sz:Nat) (els:List D):Prop where
 shape:∃ a cap,v = .slice a els.length cap ∧ (els ≠ [] → ∃ b off,a = some ⟨b,off,none⟩ ∧ 0 < sz ∧
  ∀ i j d,cellAt els i j = some d → ∃ u,w.cell? ⟨b,off + i * sz + j,none⟩ = some u ∧ RepV w g st d u ∧ u.oneCell' = true)
 pure:∀ i j d,cellAt els i j = some d → d.pure1 = true
 len:∀ e ∈ els,e.cells.length = sz
theorem slc_els {sz:Nat} {els:List D} {t:Bool} {v:Value} (h:RepV w g st (.slc sz els t) v):Els w g st v sz els := by
 cases h with
 | slcE _ _ a cap h => exact ⟨⟨a,cap,rfl,fun h => absurd rfl h⟩,fun i j d hd => by simp [cellAt] at hd,fun e he => by cases he⟩
 | slc _ _ b off cap _ val h1 h2 h3 h3' h4 h5 h6 h7 =>
  exact ⟨⟨_,cap,rfl,fun _ => ⟨b,off,rfl,h2,fun i j d hd => ⟨_,(h6 i j d hd).2,h7 i j d hd,(h7 i j d hd).oneCell (pure1_cell (h3' i j d hd))⟩⟩⟩,h3',h3⟩
theorem cellAt_part {els:List D} {off len i j:Nat} {d:D} (h:cellAt ((els.drop off).take len) i j = some d):cellAt els (off + i) j = some d ∧ i < len := by
 obtain ⟨e,he,hd⟩ := cellAt_some h
 rw [List.getElem?_take] at he
 split at he
 ·rename_i hi
  rw [List.getElem?_drop] at he
  exact ⟨cellAt_mk he hd,hi⟩
 ·cases he
theorem row_els (hS:SR base w g st) {key tot off len sz:Nat} {els:List D} {v:Value} (he:rowEls st key tot off len = some (sz,els)) (h:RepV w g st (.row key tot off len) v) :
  Els w g st v sz els ∧ ∃ o,st[key]? = some o ∧ o.row = true ∧ o.sz = sz ∧ tot = o.els.length ∧ off + len ≤ tot ∧ els = (o.els.drop off).take len ∧ els.length = len ∧ v = .slice (some ⟨g.β key,off * o.sz,none⟩) len (g.γ key - off) := by
 unfold rowEls at he
 cases h with
 | row _ _ _ _ o _ h0 h1 h2 h3 h4 =>
  rw [h1] at he
  simp only at he
  split at he
  ·rename_i hc
   simp only [Bool.and_eq_true,beq_iff_eq,decide_eq_true_eq] at hc
   simp only [Option.some.injEq,Prod.mk.injEq] at he
   obtain ⟨rfl,rfl⟩ := he
   obtain ⟨rfl,hle⟩ := h4 hc.1.2.symm
   obtain ⟨C,e,hb,_,hsz,hx,hC,hrep⟩ := hS.blk key o h1 (isMap_no_row h2)
   have hl:((o.els.drop off).take len).length = len := by rw [List.length_take,List.length_drop]; omega
   refine ⟨⟨⟨_,_,by rw [hl],fun _ => ⟨_,_,rfl,hsz,?_⟩⟩,?_,?_⟩,o,h1,h2,rfl,hc.1.2.symm,hle,rfl,hl,rfl⟩
   ·intro i j d hd
    obtain ⟨h5,h6⟩ := cellAt_part hd
    obtain ⟨h8,u,h9,h10⟩ := hrep _ _ _ h5
    refine ⟨u,?_,h10,h10.oneCell (pure1_cell (h8 h2))⟩
    simp only [World.cell?,hb]
    rw [show off * o.sz + i * o.sz + j = (off + i) * o.sz + j by rw [Nat.add_mul]]
    simpa using h9
   ·intro i j d hd
    obtain ⟨h5,_⟩ := cellAt_part hd
    exact (hrep _ _ _ h5).1 h2
   ·intro x hxm
    exact hx x (List.mem_of_mem_drop (List.mem_of_mem_take hxm))
  ·cases he
theorem pure1_cells {d:D} (h:d.pure1 = true):d.cells = [d] := by
 cases d <;> simp_all [D.pure1,D.cells]
theorem chunk_spec {sz:Nat} {ag:Bool} (h0:0 < sz) (ha:ag = true ∨ sz = 1):∀ (n:Nat) (cs:List D),n * sz ≤ cs.length → (∀ x ∈ cs,x.cells = [x]) →
  (chunk sz ag cs n).length = n ∧ (∀ e ∈ chunk sz ag cs n,e.cells.length = sz) ∧ ∀ i j d,cellAt (chunk sz ag cs n) i j = some d → cs[i * sz + j]? = some d ∧ i < n ∧ j < sz
 | 0,cs,_,_ => ⟨rfl,fun e he => by simp [chunk] at he,fun i j d hd => by simp [chunk,cellAt] at hd⟩
 | n + 1,cs,hl,hc => by
  rw [Nat.add_mul,Nat.one_mul] at hl
  obtain ⟨h1,h2,h3⟩ := chunk_spec h0 ha n (cs.drop sz) (by rw [List.length_drop]; omega) (fun x hx => hc x (List.mem_of_mem_drop hx))
  have hcell:(D.mk ag (cs.take sz)).cells = cs.take sz := by
   rcases ha with rfl | rfl
   ·simp [D.mk,D.cells]
   ·cases ag
    ·cases cs with
     | nil => simp at hl
     | cons x r => simp [D.mk]; exact hc x (by simp)
    ·simp [D.mk,D.cells]
  refine ⟨by simp [chunk,h1],?_,?_⟩
  ·intro e he
   simp only [chunk,List.mem_cons] at he
   rcases he with rfl | he
   ·rw [hcell,List.length_take]; omega
   ·exact h2 e he
  ·intro i j d hd
   obtain ⟨e,he,hd'⟩ := cellAt_some hd
   cases i with
   | zero =>
    simp only [chunk,List.getElem?_cons_zero,Option.some.injEq] at he
    subst he
    rw [hcell,List.getElem?_take] at hd'
    split at hd'
    ·rename_i hj; exact ⟨by simpa using hd',by omega,hj⟩
    ·cases hd'
   | succ i =>
    simp only [chunk,List.getElem?_cons_succ] at he
    obtain ⟨h4,h5,h6⟩ := h3 i j d (cellAt_mk he hd')
    rw [List.getElem?_drop] at h4
    exact ⟨by rw [Nat.add_mul,Nat.one_mul]; rwa [show i * sz + sz + j = sz + (i * sz + j) by omega],by omega,h6⟩
theorem bsl_els (hS:SR base w g st) {key off n sz:Nat} {ag:Bool} {els:List D} {v:Value} (he:bslEls st key off n sz ag = some els) (hr:RepV w g st (.bsl key off n sz ag) v)
  (hpe:∀ d ∈ els,purA d = true):Els w g st v sz els ∧ els.length = n ∧ ∃ o cap,st[key]? = some o ∧ o.row = false ∧ o.sz = 1 ∧ off + n * sz ≤ o.els.length ∧ n ≤ cap ∧ v = .slice (some ⟨g.β key,off,none⟩) n cap ∧ 0 < sz ∧ ∀ i j d,cellAt els i j = some d → i < n ∧ j < sz := by
 unfold bslEls at he
 cases hr with
 | bsl _ _ _ _ _ o cap ho hrow hone hcp =>
  rw [ho] at he
  simp only [Option.ite_none_right_eq_some,Option.some.injEq,Bool.and_eq_true,decide_eq_true_eq,Bool.or_eq_true,beq_iff_eq,Bool.not_eq_true'] at he
  obtain ⟨⟨⟨⟨_,h1⟩,h2⟩,h3⟩,rfl⟩ := he
  obtain ⟨C,e,hb,_,hszp,hx,hC,hrep⟩ := hS.blk key o ho (isMap_no_one hone)
  rw [hrow] at hC
  simp only [Bool.false_eq_true,if_false] at hC
  obtain ⟨c1,c2,c3⟩ := chunk_spec h2 h3 n (o.els.drop off) (by rw [List.length_drop]; omega) (fun x hx => hC.2.2 x (List.mem_of_mem_drop hx))
  have hpc:∀ i j d,cellAt (chunk sz ag (o.els.drop off) n) i j = some d → d.pure1 = true := by
   intro i j d hd
   obtain ⟨h6,_⟩ := c3 i j d hd
   rw [List.getElem?_drop] at h6
   obtain ⟨e0,he0,hd0⟩ := cellAt_some hd
   have h7 := hpe e0 (List.mem_of_getElem? he0)
   cases e0 with
   | agg l =>
    simp only [purA,List.all_eq_true] at h7
    exact h7 d (List.mem_of_getElem? hd0)
   | _ =>
    simp only [D.cells] at hd0
    have := List.mem_of_getElem? hd0
    simp only [List.mem_singleton] at this
    rw [this]
    exact h7
  refine ⟨⟨⟨_,cap,by rw [c1],fun _ => ⟨_,_,rfl,h2,?_⟩⟩,hpc,c2⟩,c1,o,cap,ho,hrow,hone,h1,hcp,rfl,h2,fun i j d hd => (c3 i j d hd).2⟩
  intro i j d hd
  obtain ⟨h6,_⟩ := c3 i j d hd
  rw [List.getElem?_drop] at h6
  have h7 := hC.2.2 d (List.mem_of_getElem? h6)
  obtain ⟨_,u,h8,h9⟩ := hrep (off + (i * sz + j)) 0 d (cellAt_mk h6 (by rw [h7]; rfl))
  refine ⟨u,?_,h9,h9.oneCell (pure1_cell (hpc i j d hd))⟩
  rw [hC.2.1] at h8
  simp only [World.cell?,hb]
  simpa [Nat.add_assoc] using h8
end
end Go.Proofs.YtlleccmnjpcogaaDoor.PI
