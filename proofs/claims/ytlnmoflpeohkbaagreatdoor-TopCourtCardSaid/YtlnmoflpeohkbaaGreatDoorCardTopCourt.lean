/-
  'TopCourt' holds for every input: the function returns true, and the input reads as it did.
  Conditions: the row's own: the tables among the package variables read as their initialisers lay them (the card ties them).
-/
import Derived.Test.YtlnmoflpeohkbaaGreatDoorCards
import Derived.Test.YtlnmoflpeohkbaaGreatDoorTie
import Derived.WalkKit
import Derived.ProofKit
import Derived.OpenShut
import Derived.Deep.DeepHandedRow
import Derived.Deep.DeepWitnessRowRef
import Derived.LaidMore
import Derived.LaidHandle
import Derived.Lib.LaidTab
import Derived.Test.YtlnmoflpeohkbaaGreatDoorCtA
import Derived.Test.YtlnmoflpeohkbaaGreatDoorTeR
namespace Go.Proofs.YtlnmoflpeohkbaaGreatDoor.cTopCourt
open Go.ChangeShapes Go.WideShapes Go.ChangeAt Go.RowKit
set_option linter.unusedVariables false
theorem own : ownKnob Tryz.prog.godebug = none := by kernel_rfl
theorem k_eq : (Rows.laid_wagonpool_digest_k : DataW Unit) = Lib.tabData .u32 (PI.Sha.K.map fun x => (x.toNat : Int)) := by kernel_rfl
theorem signs_eq : (Rows.laid_wagonpool_tlex_signs : DataW Unit) = .map (PI.datS PI.sigT) := by kernel_rfl
theorem res_eq : (Rows.laid_wagonpool_tlex_reserved : DataW Unit) = .map (PI.datB PI.resT) := by kernel_rfl
theorem spc_eq : (Rows.laid_strings_asciiSpace : DataW Unit) = Lib.tabData .u8 PI.spcT := by kernel_rfl
theorem bins_eq : (Rows.laid_wagonpool_tvm_binaries : DataW Unit) = .iface "func table" PI.binsD := by kernel_rfl
theorem globs {W : World} (h : laidMetH Tryz.prog Rows.topCourtRow.laid W) : PI.GlobOK PI.GG W (PI.ghost0 W) := by
  obtain ⟨ps, hv, _⟩ : laidMet Tryz.prog (Rows.topCourtRow.laid.filter fun x => x.2.handleName?.isNone) W := (show _ /\ _ from h).1
  have h0 := PI.laid_var (n := "wagonpool/digest.k") (d := Rows.laid_wagonpool_digest_k) hv (List.mem_filter.2 ⟨List.mem_cons_of_mem _ (List.mem_cons_of_mem _ (List.mem_cons_of_mem _ (List.mem_cons_self))), rfl⟩)
  have h1 := PI.laid_var (n := "wagonpool/tlex.signs") (d := Rows.laid_wagonpool_tlex_signs) hv (List.mem_filter.2 ⟨List.mem_cons_of_mem _ (List.mem_cons_of_mem _ (List.mem_cons_of_mem _ (List.mem_cons_of_mem _ (List.mem_cons_self)))), rfl⟩)
  have h2 := PI.laid_var (n := "wagonpool/tlex.reserved") (d := Rows.laid_wagonpool_tlex_reserved) hv (List.mem_filter.2 ⟨List.mem_cons_of_mem _ (List.mem_cons_of_mem _ (List.mem_cons_of_mem _ (List.mem_cons_of_mem _ (List.mem_cons_of_mem _ (List.mem_cons_self))))), rfl⟩)
  have h3 := PI.laid_var (n := "strings.asciiSpace") (d := Rows.laid_strings_asciiSpace) hv (List.mem_filter.2 ⟨List.mem_cons_of_mem _ (List.mem_cons_of_mem _ (List.mem_cons_self)), rfl⟩)
  have h4 : funcsAt Tryz.prog W "wagonpool/tvm.binaries" PI.binsD := h.funcs (by rw [<- bins_eq]; exact List.mem_cons_of_mem _ (List.mem_cons_of_mem _ (List.mem_cons_of_mem _ (List.mem_cons_of_mem _ (List.mem_cons_of_mem _ (List.mem_cons_of_mem _ (List.mem_cons_self)))))))
  rw [k_eq] at h0
  rw [signs_eq] at h1
  rw [res_eq] at h2
  rw [spc_eq] at h3
  exact PI.globGG h0 h4 h1 h2 h3
set_option maxRecDepth 100000 in
theorem contract (H : Type) (enc : TypeId × Value -> H) (W : World) (args : Array Value) (ds gs : List (DataW H)) (before : List MemPlace)
    (hval : ∀ (j : Nat) t v, Tryz.f3.params[j]? = some t -> args[j]? = some v -> Value.okWide Tryz.prog W .any 0 t v)
    (hW : DataW.Whole enc Tryz.prog Tryz.f3.params.toList Rows.topCourtSpec.vars false W args.toList ds gs before) (hL : laidMetH Tryz.prog Rows.topCourtRow.laid W) :
    Calls Tryz.prog 3 args W fun e W' => ∃ v, e = .returned v /\ Rows.topCourtSpec.post enc Tryz.prog Tryz.f3 false true false false W args v W' := by
  refine PI.law_contract (tys := [.str, PI.tyEv, .int .i64, .int .i64, PI.tCommit, .slc PI.tyTn]) (n := 20) PI.law_TopCourt (by kernel_rfl) rfl ⟨_, rfl, by kernel_rfl⟩ ?_ (fun _ h => PI.lawSp_true h) (globs hL) hval hW
  intro H ds hd
  match ds, hd with
  | [_, _, _, _, _, _], _ => exact ⟨rfl, rfl, rfl⟩
/-- the cells of a datum of integers -/
def cellsD : Nat -> DataW Unit -> List Value
  | 0, _ => []
  | n + 1, .agg l => l.flatMap (cellsD n)
  | _ + 1, .lit (.int k z) => [.int k z]
  | _ + 1, _ => []
def lay (h : Array Obj) (g : Nat) (cs : List Value) : Array Obj := h.modify g fun | .cells _ t frozen => .cells cs.toArray t frozen | o => o
def rngs : List Int := [9, 13, 1, 32, 133, 101, 160, 5760, 5600, 8192, 8202, 1, 8232, 8233, 1, 8239, 8287, 48, 12288, 12288, 1]
noncomputable def heapOf (h : Array Obj) : Array Obj :=
  (((((lay (lay (lay (lay (lay (lay (lay (lay h 8 (cellsD 5 Rows.laid_unicode_utf8_acceptRanges)) 7 (cellsD 5 Rows.laid_unicode_utf8_first)) 2 (cellsD 5 Rows.laid_strings_asciiSpace)) 3 (cellsD 5 Rows.laid_wagonpool_digest_k)) 0 [.map (some h.size)]) 1 [.map (some (h.size + 1))]) 6 [.pointer (some ⟨h.size + 2, 0, none⟩)]) 4 [.map (some (h.size + 4))]).push
    (.map (PI.sigT.zipIdx.map fun p => ⟨.int .u8 p.1.1, .string ⟨p.1.2.toArray⟩, p.2⟩).toArray 11)).push (.map (PI.resT.zipIdx.map fun p => ⟨.string ⟨p.1.toArray⟩, .bool true, p.2⟩).toArray 40)).push
    (.cells #[.slice (some ⟨h.size + 3, 0, none⟩) 7 7, .slice none 0 0, .int .i64 2] 299 (0, 0))).push (.cells (rngs.map fun z => .int .u16 z).toArray 302 (0, 0))).push
    (.map (PI.binA.zipIdx.map fun p => ⟨.int .i64 p.1.1, .agg #[.func (.func p.1.2) #[] #[]], p.2⟩).toArray 9)
noncomputable def laidWorld (os : Os) : World := { World.holding Tryz.prog os ⟨#[], #[], []⟩ with heap := heapOf (World.holding Tryz.prog os ⟨#[], #[], []⟩).heap }
def wit : Array Value := #[.string ByteArray.empty, .agg ⟨List.replicate 17 (.int .i64 0)⟩, .int .i64 0, .int .i64 0, .agg ⟨[.int .i64 0] ++ List.replicate 32 (.int .u8 0)⟩, .slice none 0 0]
def srt : List Nat -> Bool
  | a :: b :: r => Nat.blt a b && srt (b :: r)
  | _ => true
theorem srt_lt : ∀ {l : List Nat} {a : Nat}, srt (a :: l) = true -> ∀ b ∈ l, a < b
  | [], _, _, _, hb => by cases hb
  | c :: r, a, h, b, hb => by
    simp only [srt, Bool.and_eq_true, Nat.blt_eq] at h
    rcases List.mem_cons.1 hb with rfl | hb
    · exact h.1
    · exact Nat.lt_trans h.1 (srt_lt h.2 b hb)
theorem srt_nodup : ∀ {l : List Nat}, srt l = true -> l.Nodup
  | [], _ => List.nodup_nil
  | a :: l, h => List.nodup_cons.2 ⟨fun hm => Nat.lt_irrefl _ (srt_lt h a hm), srt_nodup (by cases l with | nil => rfl | cons b r => simp only [srt, Bool.and_eq_true] at h; exact h.2)⟩
def rnk (b : Nat) : Nat := 1000 * [6, 8, 4, 5, 0, 0, 1, 10, 0, 0, 0, 0, 0, 0, 0, 7, 9, 2, 3].getD b 0
def cod : MemPlace -> Nat
  | .cell b off => rnk b + off
  | .map b => rnk b
noncomputable abbrev mem (os : Os) : World := ((laidWorld os).forCall (fun _ _ => 0) ⟨#[], wit, []⟩).memory
abbrev lst : List (String × DataW Unit) := Rows.topCourtRow.laid.filter fun x => x.2.handleName?.isNone
noncomputable abbrev lrun (os : Os) := DataW.laidRun Tryz.prog (mem os) 8 (lst.map (·.1))
theorem lm1 (os : Os) : (lrun os).map (·.1) = some lst := by kernel_rfl
theorem lm2 (os : Os) : (lrun os).map (fun x => srt (x.2.map cod)) = some true := by kernel_rfl
theorem lm3 (os : Os) : (lrun os).map (fun x => laidRowsB Tryz.prog (mem os) x.2) = some true := by kernel_rfl
theorem lm4 (os : Os) : funcsRun Tryz.prog (mem os) 8 ((funcsListed Rows.topCourtRow.laid).map (·.1)) = some ((funcsListed Rows.topCourtRow.laid).map (·.2.funcsOut)) := by kernel_rfl
theorem laid_met (os : Os) : laidMetH Tryz.prog Rows.topCourtRow.laid (mem os) := by
  refine laidMetH_of_parts3 (fuel := 8) (laidMet_of_run' 8 (lm1 os) ?_) (by kernel_rfl) (lm4 os)
  have h2 := lm2 os
  have h3 := lm3 os
  change (lrun os).map _ = _
  generalize lrun os = y at h2 h3 ⊢
  cases y with
  | none => cases h2
  | some x =>
    simp only [Option.map_some, Option.some.injEq] at h2 h3 ⊢
    have hn : x.2.Nodup := List.Pairwise.of_map cod (fun a b h e => h (congrArg cod e)) (srt_nodup h2)
    rw [h3, decide_eq_true hn]
    rfl
theorem reads (os : Os) {H : Type} (enc : TypeId × Value -> H) : ∃ places, DataW.whole enc Tryz.prog ((laidWorld os).forCall (fun _ _ => 0) ⟨#[], wit, []⟩).memory Tryz.f3.params.toList Rows.topCourtSpec.vars false wit.toList 8 = some ([.lit (.string []), .agg [.lit (.int .i64 0), .agg (List.replicate 16 (.lit (.int .i64 0)))], .lit (.int .i64 0), .lit (.int .i64 0), .agg [.lit (.int .i64 0), .agg (List.replicate 32 (.lit (.int .u8 0)))], .nil], [], places) :=
  ⟨[], by kernel_rfl⟩
set_option maxRecDepth 100000 in
theorem lifted (os : Os) (started : os.Started) (H : Type) (enc : TypeId × Value -> H) (F : Stop.Interp) :
    ReturnsInHanded {} Tryz.checked os 3 .any ((OpenSpec.ofChange Rows.topCourtSpec).preRow enc Tryz.prog Tryz.f3 Rows.topCourtRow.domain false Rows.topCourtRow.laid) (((OpenSpec.ofChange Rows.topCourtSpec).at F).post enc Tryz.prog Tryz.f3 false true false false) := by
  obtain ⟨places, hx⟩ := reads os enc
  refine returnsInHanded_of_row (C := Tryz.checked) (s := OpenSpec.ofChange Rows.topCourtSpec) own started (by kernel_rfl) Tryz.func3
    (witness_row_atRef (enc := enc) (C := Tryz.checked) false (laidWorld os) wit rfl (by kernel_rfl) (by kernel_rfl) (by kernel_rfl)
      (OpenSpec.preRow_of_cond 8 hx (by kernel_rfl) (fun k hk => by cases hk) (by kernel_rfl) (laid_met os))) ?_
  intro W base args ds gs before hval hW _ _ _ hL _ _
  exact contract H enc W args ds gs before (fun j t v h1 h2 => hval j t v h1 h2) hW hL
theorem fa0 : (Rows.topCourtRow.inPlace == Tryz.pinned.checked.prog.inPlace 3) = true := by kernel_rfl
theorem fa1 : (Rows.topCourtRow.unfollowed == Tryz.pinned.checked.prog.unfollowed 3) = true := by kernel_rfl
theorem fa2 : (Rows.topCourtRow.recurses == Tryz.pinned.checked.prog.recurses 3) = true := by kernel_rfl
theorem fa3 : (Rows.topCourtRow.named == Tryz.pinned.checked.prog.varsNamed 3) = true := by kernel_rfl
theorem fa4 : (Rows.topCourtRow.lifted == Tryz.pinned.checked.prog.liftsFinal) = true := by kernel_rfl
theorem fa5 : laidOutB Tryz.pinned.checked.prog = true := by kernel_rfl
theorem fa6 : mapsRowed Tryz.pinned.checked.prog = true := by kernel_rfl
theorem fa7 : (Tryz.pinned.checked.prog.make == some Rows.topCourtRow.make) = true := by kernel_rfl
theorem fa8 : Tryz.pinned.checked.prog.stopsHeard = true := by kernel_rfl
theorem fa9 : Tryz.pinned.checked.prog.mayEnter = true := by kernel_rfl
theorem fa10 : (Rows.topCourtRow.plainKeys == Tryz.pinned.checked.prog.plainKeys) = true := by kernel_rfl
theorem facts : joinedFacts Tryz.pinned.checked.prog 3 Tryz.f3 (OpenSpec.ofChange Rows.topCourtSpec).bare Rows.topCourtRow = true := by
  unfold joinedFacts
  simp only [fa0, fa1, fa2, fa3, fa4, fa5, fa6, fa7, fa8, fa9, fa10, Bool.and_true]
  kernel_rfl
theorem said : Rows.TopCourtSaid :=
  OpenClaim.holds_of_cond 3 Tryz.f3 rfl rfl rfl rfl rfl rfl rfl ⟨rfl, rfl, rfl, rfl, rfl⟩ rfl rfl rfl rfl rfl (by kernel_rfl) Tryz.func3 facts
    (of_decide_eq_true (by kernel_rfl)) (by unfold Func.isWrapper; first | (rw [if_pos (by decide +kernel)]; kernel_rfl) | (rw [if_neg (by decide +kernel)]; exact ⟨rfl, rfl⟩))
    (fun os started H enc _ F => by rw [OpenClaim.pre_eq_preRow]; exact lifted os started H enc F)
theorem plain (f : FuncId) (fn : Func) (hf : Tryz.pinned.checked.prog.funcNamed "wagonpool/wagonpooltop.TopCourt" = some f) (hfn : Tryz.pinned.checked.prog.funcs[f]? = some fn) :
    true = Tryz.pinned.checked.prog.looks [] /\ ∀ (j : Nat) t, fn.params[j]? = some t -> Tryz.pinned.checked.prog.wantsStandIn t = false := by
  obtain rfl : f = 3 := Option.some.inj ((show Tryz.prog.funcNamed "wagonpool/wagonpooltop.TopCourt" = some 3 by kernel_rfl).symm.trans hf) |>.symm
  obtain rfl : fn = Tryz.f3 := (Option.some.inj (Tryz.func3.symm.trans hfn)).symm
  refine ⟨by kernel_rfl, fun j t ht => ?_⟩
  have hall : ∀ t ∈ Tryz.f3.params.toList, Tryz.prog.wantsStandIn t = false := by
    have : Tryz.f3.params.toList.all (fun t => Tryz.prog.wantsStandIn t == false) = true := by kernel_rfl
    intro t ht
    have h := List.all_eq_true.1 this t ht
    simpa using h
  exact hall t (by simpa using Array.mem_of_getElem? ht)
theorem card : Rows.TopCourtCardSaid :=
  Claim7.holds_tied_plain_at .later [] _ _ _ _ said (fun _ h => by cases h) (by kernel_rfl) (fun _ h => by cases h) topCourt_row_tie rfl ⟨rfl, rfl⟩ (by kernel_rfl) rfl plain (by kernel_rfl)
end Go.Proofs.YtlnmoflpeohkbaaGreatDoor.cTopCourt
