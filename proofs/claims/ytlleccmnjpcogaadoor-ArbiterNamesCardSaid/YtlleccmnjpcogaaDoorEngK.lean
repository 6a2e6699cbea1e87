/-
  Each operation of the model does what its pure counterpart does: make, append, the bytes of a string.
  Conditions: none; these are lemmas.
-/
import Derived.Test.YtlleccmnjpcogaaDoorEngJ
set_option linter.unusedVariables false
set_option linter.unusedSimpArgs false
namespace Go.Proofs.YtlleccmnjpcogaaDoor.PI
open Go Go.RowKit
section
variable {P:Program} {base:Nat} {w:World} {g:Ghost} {st:St}
theorem alloc_new (w:World) (o:Go.Obj):(w.alloc o).heap[w.heap.size]? = some o := by
 show (w.heap.push o)[w.heap.size]? = _
 simp
theorem mkslc_run (hS:SR base w g st) {t elem:TypeId} {i:TypeInfo} {z:Value} {zd:D} {sz bytes:Nat} {dl dc:D} {vl vc:Value} {l c:Nat} (hu:P.underlying t = some (.slice elem)) (hi:P.info? elem = some i) (hz:i.zero = some z) (hzd:constD z = some zd)
  (hsz:i.size = sz) (hby:i.bytes = bytes) (h0:0 < sz) (hzl:zd.cells.length = sz) (hzp:zd.cells.all D.pure1 = true) (hl:natOf dl = some l) (hc:natOf dc = some c) (hrl:RepV w g st dl vl) (hrc:RepV w g st dc vc)
  (hlc:l ≤ c) (hc1:c ≤ 4294967296) (hc2:c * bytes ≤ 140737488355328) :
  RunsTo P base w g st (Instr.makeSlice t vl vc) (.row st.length l 0 l) (st ++ [{ row := true,sz,els := List.replicate l zd,lent := false }]) := by
 obtain ⟨kl,rfl⟩ := natOf_inv hl hrl
 obtain ⟨kc,rfl⟩ := natOf_inv hc hrc
 subst hsz; subst hby
 have hb:((i.bytes:Int) * (c:Int)) ≤ 281474976710656 := by
  have:((c * i.bytes:Nat):Int) ≤ 140737488355328 := by omega
  rw [Int.natCast_mul,Int.mul_comm] at this
  omega
 have hrun := run_make (P := P) w t elem i z hu hi hz kl kc (l:Int) (c:Int) (by omega) (by omega) hb (by omega)
 simp only [Int.toNat_natCast] at hrun
 have hzall:zd.cells.all D.isCell = true := List.all_eq_true.2 fun x hx => pure1_cell (List.all_eq_true.1 hzp x hx)
 have hzr := constD_rep (w := w) (g := g) (st := st) hzd
 obtain ⟨c1,c2,_⟩ := cells_rep hzall hzr
 have hzsz:z.cells.size = i.size := by rw [c1,hzl]
 have hlt:∀ i' j,i' < c → j < i.size → i' * i.size + j < c * i.size := by
  intro i' j h1 h2
  calc i' * i.size + j < i' * i.size + i.size := by omega
   _ = (i' + 1) * i.size := by rw [Nat.add_mul,Nat.one_mul]
   _ ≤ c * i.size := Nat.mul_le_mul_right _ h1
 have hcell:∀ i' j u,i' < c → j < i.size → z.cells[j]? = some u → (madeCells z.cells (c * i.size))[i' * i.size + j]? = some u := by
  intro i' j u h1 h2 h3
  have h4 := hlt i' j h1 h2
  have h5:(i' * i.size + j) % z.cells.size = j := by rw [hzsz,Nat.mul_comm,Nat.mul_add_mod,Nat.mod_eq_of_lt h2]
  have h6:z.cells[j]! = u := by rw [getElem!_def,h3]
  simp [madeCells,h4,h5,h6]
 have hmax:c ≤ maxLen := by unfold maxLen; omega
 have hgo := SR.push (o := { row := true,sz := i.size,els := List.replicate l zd,lent := false }) (c := c) (C := madeCells z.cells (c * i.size)) (e := elem) (w' := w.alloc (.cells (madeCells z.cells (c * i.size)) elem)) hS
  ⟨rfl,rfl,rfl,by simp⟩ (fun b hb => push_old w _ b hb) (alloc_new w _) rfl h0 (fun x hx => by rw [List.eq_of_mem_replicate hx]; exact hzl)
  (by simp [size_madeCells]; exact ⟨hlc,hmax⟩) (by
   intro i' j d hd
   obtain ⟨e,he,hdj⟩ := cellAt_some hd
   obtain rfl:e = zd := List.eq_of_mem_replicate (List.mem_of_getElem? he)
   refine ⟨fun _ => List.all_eq_true.1 hzp d (List.mem_of_getElem? hdj),?_⟩
   have h1:i' < l := by simpa using (List.getElem?_eq_some_iff.1 he).1
   have h2:j < i.size := by rw [← hzl]; exact (List.getElem?_eq_some_iff.1 hdj).1
   obtain ⟨u,h3,h4⟩ := c2 j d hdj
   exact ⟨u,hcell i' j u (by omega) h2 h3,h4⟩)
 refine ⟨_,_,_,hrun,hgo,?_⟩
 refine .row _ _ _ _ { row := true,sz := i.size,els := List.replicate l zd,lent := false } _ rfl (by simp) rfl (by simp) fun _ => ⟨?_,by omega⟩
 simp [upd_same]
structure News (w:World) (g:Ghost) (st:St) (P:Program) (x:Value) (size:Nat) (els:List D) (ns:List Value):Prop where
 len:ns.length = els.length * size
 one:∀ u ∈ ns,u.oneCell' = true
 rep:∀ (i j:Nat) d,cellAt els i j = some d → ∃ u,ns[i * size + j]? = some u ∧ RepV w g st d u
 lenOf:(Builtin.lenOf x).run P w = .ok els.length w ∧ (Builtin.lenOf x).run P w.drew = .ok els.length w.drew
 first:(Builtin.firstCells size els.length x).run P w = .ok ns.toArray w ∧ (Builtin.firstCells size els.length x).run P w.drew = .ok ns.toArray w.drew
theorem news_of_els {x:Value} {size:Nat} {els:List D} (hE:Els w g st x size els):∃ ns,News w g st P x size els ns := by
 obtain ⟨⟨a,cap,rfl,hsh⟩,hpure,hlen⟩ := hE
 by_cases hn:els = []
 ·subst hn
  refine ⟨[],by simp,by simp,fun i j d h => by simp [cellAt] at h,⟨by simp [Builtin.lenOf],by simp [Builtin.lenOf]⟩,?_⟩
  cases a <;> simp [Builtin.firstCells,loadCells,loadCellsFrom]
 ·obtain ⟨b,off,rfl,h0,hc⟩ := hsh hn
  -- the cells themselves
  let f:Nat → Value := fun p => (w.cell? ⟨b,off + p,none⟩).getD undef
  have hdm:∀ p,p < els.length * size → ∃ d,cellAt els (p / size) (p % size) = some d ∧ p = p / size * size + p % size := by
   intro p hp
   have h1:p / size < els.length := Nat.div_lt_of_lt_mul (by rw [Nat.mul_comm]; exact hp)
   have h2:p % size < size := Nat.mod_lt _ h0
   have he:els[p / size]? = some els[p / size] := List.getElem?_eq_getElem h1
   have hj:p % size < els[p / size].cells.length := by rw [hlen _ (List.getElem_mem h1)]; exact h2
   exact ⟨_,cellAt_mk he (List.getElem?_eq_getElem hj),by rw [Nat.mul_comm]; exact (Nat.div_add_mod p size).symm⟩
  have hcell:∀ p,p < els.length * size → w.cell? ((⟨b,off,none⟩:Addr).add p) = some (f p) ∧ (f p).oneCell' = true := by
   intro p hp
   obtain ⟨d,hd,hp'⟩ := hdm p hp
   obtain ⟨u,h1,_,h3⟩ := hc _ _ d hd
   rw [cell?_add]
   rw [Nat.add_assoc,← hp'] at h1
   simp only [f,h1,Option.getD_some]
   exact ⟨trivial,h3⟩
  have hrun:∀ w',(∀ b o,w'.cell? ⟨b,o,none⟩ = w.cell? ⟨b,o,none⟩) → (Builtin.firstCells size els.length (.slice (some ⟨b,off,none⟩) els.length cap)).run P w' = .ok ((List.range (els.length * size)).map f).toArray w' := by
   intro w' hw'
   have := run_loadCells (P := P) w' ⟨b,off,none⟩ (els.length * size) f (fun j hj => by rw [cell?_add,hw',← cell?_add]; exact (hcell j hj).1)
   simpa [Builtin.firstCells] using this
  refine ⟨(List.range (els.length * size)).map f,by simp,?_,?_,⟨by simp [Builtin.lenOf],by simp [Builtin.lenOf]⟩,hrun w (fun _ _ => rfl),hrun w.drew (fun _ _ => rfl)⟩
  ·intro u hu
   simp only [List.mem_map,List.mem_range] at hu
   obtain ⟨p,hp,rfl⟩ := hu
   exact (hcell p hp).2
  ·intro i j d hd
   obtain ⟨e,he,hdj⟩ := cellAt_some hd
   have h1:i < els.length := (List.getElem?_eq_some_iff.1 he).1
   have h2:j < size := by rw [← hlen e (List.mem_of_getElem? he)]; exact (List.getElem?_eq_some_iff.1 hdj).1
   have h3:i * size + j < els.length * size := by
    calc i * size + j < i * size + size := by omega
     _ = (i + 1) * size := by rw [Nat.add_mul,Nat.one_mul]
     _ ≤ els.length * size := Nat.mul_le_mul_right _ h1
   obtain ⟨u,h4,h5,_⟩ := hc i j d hd
   rw [Nat.add_assoc] at h4
   exact ⟨u,by simp [h3,f,h4],h5⟩
theorem news_of_str (s:List UInt8):∃ ns,News w g st P (.string ⟨s.toArray⟩) 1 (s.map byteD) ns := by
 have e:ByteArray.size ⟨s.toArray⟩ = s.length := by simp [ByteArray.size]
 have hx:∀ w':World,(Builtin.firstCells 1 (s.map byteD).length (.string ⟨s.toArray⟩)).run P w' = .ok ((s.map fun b => Value.int .u8 b.toNat)).toArray w' := by
  intro w'
  simp [Builtin.firstCells]
 refine ⟨s.map fun b => Value.int .u8 b.toNat,by simp,?_,?_,⟨by simp [Builtin.lenOf,e],by simp [Builtin.lenOf,e]⟩,hx w,hx w.drew⟩
 ·intro u hu
  simp only [List.mem_map] at hu
  obtain ⟨b,_,rfl⟩ := hu
  rfl
 ·intro i j d hd
  obtain ⟨e,he,hdj⟩ := cellAt_some hd
  simp only [List.getElem?_map,Option.map_eq_some_iff] at he
  obtain ⟨b,hb,rfl⟩ := he
  cases j with
  | zero =>
   simp [byteD,D.cells] at hdj
   subst hdj
   exact ⟨.int .u8 b.toNat,by simp [hb],.int _ _⟩
  | succ j => simp [byteD,D.cells] at hdj
theorem app_room {t tx ty e:TypeId} {i:TypeInfo} (ht:P.underlying t = some (.slice e)) (htx:(∃ e',P.underlying tx = some (.slice e')) ∨ P.underlying tx = some .string) (hi:P.info? e = some i)
  {b sLen sCap:Nat} {C:Array Value} {e0:TypeId} (hb:w.heap[b]? = some (.cells C e0 (0,0))) {x:Value} {els:List D} {ns:List Value} (hN:News w g st P x i.size els ns) (hroom:sLen + els.length ≤ sCap) (hfit:sLen * i.size + ns.length ≤ C.size) :
  (Builtin.append_ #[t,tx] ty #[.slice (some ⟨b,0,none⟩) sLen sCap,x]).run P w =
   .ok (.slice (some ⟨b,0,none⟩) (sLen + els.length) sCap) (w.setRow b (C.toList.take (sLen * i.size) ++ ns ++ C.toList.drop (sLen * i.size + ns.length)).toArray) := by
 have hst := run_storeCells_at P b (sLen * i.size) e0 ns 0 C w hb (by simpa using hfit) hN.one
 simp only [Nat.add_zero] at hst
 have h1 := hN.lenOf.1
 have h2 := hN.first.1
 rcases htx with ⟨e',hd⟩ | hd
 ·simp [Builtin.append_,run_underlying ht,sizeOf,typeInfo,hi,run_underlying hd,h1,hroom,h2,add_lit,hst]
 ·simp [Builtin.append_,run_underlying ht,sizeOf,typeInfo,hi,run_underlying hd,h1,hroom,h2,add_lit,hst]
theorem app_grow {t tx ty e:TypeId} {i:TypeInfo} {z:Value} (ht:P.underlying t = some (.slice e)) (htx:(∃ e',P.underlying tx = some (.slice e')) ∨ P.underlying tx = some .string) (hi:P.info? e = some i) (hz:i.zero = some z)
  {a:Option Addr} {sLen sCap:Nat} {x:Value} {els old:List D} {ns os:List Value} (hN:News w g st P x i.size els ns) (hO:News w g st P (.slice a sLen sCap) i.size old os) (hol:old.length = sLen)
  (hg:sCap < sLen + els.length) (h63:sLen + els.length ≤ 9223372036854775807) (hfit:Builtin.nextslicecap (sLen + els.length) sCap * i.bytes ≤ 281474976710656) :
  (Builtin.append_ #[t,tx] ty #[.slice a sLen sCap,x]).run P w =
   .ok (.slice (some ⟨w.heap.size,0,none⟩) (sLen + els.length) (grownCap w (sLen + els.length) sCap e))
    (w.drew.alloc (.cells (os.toArray ++ ns.toArray ++ Builtin.zeroCells z.cells (grownCap w (sLen + els.length) sCap e - (sLen + els.length))) e)) := by
 subst hol
 have h1 := hN.lenOf.1
 have h2 := hN.first.2
 have h3 := hO.first.2
 have hn:¬ (old.length + els.length ≤ sCap) := by omega
 have h63':¬ (9223372036854775807 < ((old.length:Int) + (els.length:Int))) := by omega
 have h48':¬ (281474976710656 < Builtin.nextslicecap (old.length + els.length) sCap * i.bytes) := by omega
 rcases htx with ⟨e',hd⟩ | hd
 ·simp [Builtin.append_,run_underlying ht,sizeOf,typeInfo,zeroValue,hi,hz,run_underlying hd,h1,hn,h63',h48',Question.forced,h2,h3,newRow,grownCap]
  congr 2
  apply Array.ext'
  simp [List.append_assoc]
 ·simp [Builtin.append_,run_underlying ht,sizeOf,typeInfo,zeroValue,hi,hz,run_underlying hd,h1,hn,h63',h48',Question.forced,h2,h3,newRow,grownCap]
  congr 2
  apply Array.ext'
  simp [List.append_assoc]
theorem grow_fits {n cap bytes:Nat} (h:cap < n) (hb:n * bytes ≤ 140737488355328):Builtin.nextslicecap n cap * bytes ≤ 281474976710656 := by
 exact growslice_fits h hb
end
end Go.Proofs.YtlleccmnjpcogaaDoor.PI
