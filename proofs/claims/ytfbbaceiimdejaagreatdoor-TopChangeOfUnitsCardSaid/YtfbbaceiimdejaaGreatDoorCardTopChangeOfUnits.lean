/-
  'TopChangeOfUnits' holds for every input: the function returns true, and the input reads as it did.
  Conditions: the row's own: the tables among the package variables read as their initialisers lay them (the card ties them).
-/
import Derived.Test.YtfbbaceiimdejaaGreatDoorCards
import Derived.Test.YtfbbaceiimdejaaGreatDoorTie
import Derived.WalkKit
import Derived.ProofKit
import Derived.OpenShut
import Derived.Deep.DeepHandedRow
import Derived.Deep.DeepWitnessRowRef
import Derived.Lib.LaidTab
import Derived.Test.YtfbbaceiimdejaaGreatDoorUnY
import Derived.Test.YtfbbaceiimdejaaGreatDoorUoK
set_option linter.unusedVariables false
set_option linter.unusedSimpArgs false
namespace Go.Proofs.YtfbbaceiimdejaaGreatDoor.cTopChangeOfUnits
open Go.ChangeShapes Go.WideShapes Go.ChangeAt Go.RowKit
set_option linter.unusedVariables false
theorem own : ownKnob Tryz.prog.godebug = none := by kernel_rfl
theorem signs_eq : (Rows.laid_wagonpool_tlex_signs : DataW Unit) = .map (PI.datS PI.sigT) := by kernel_rfl
theorem res_eq : (Rows.laid_wagonpool_tlex_reserved : DataW Unit) = .map (PI.datB PI.resT) := by kernel_rfl
theorem spc_eq : (Rows.laid_strings_asciiSpace : DataW Unit) = Lib.tabData .u8 PI.spcT := by kernel_rfl
theorem globs {W : World} (h : laidMetH Tryz.prog Rows.topChangeOfUnitsRow.laid W) : PI.GlobOK PI.GG W (PI.ghost0 W) := by
  obtain ⟨ps, hv, _⟩ : laidMet Tryz.prog Rows.topChangeOfUnitsRow.laid W := h
  have h1 := PI.laid_var (n := "wagonpool/tlex.signs") (d := Rows.laid_wagonpool_tlex_signs) hv (List.mem_cons_of_mem _ (List.mem_cons_of_mem _ (List.mem_cons_of_mem _ (List.mem_cons_self))))
  have h2 := PI.laid_var (n := "wagonpool/tlex.reserved") (d := Rows.laid_wagonpool_tlex_reserved) hv (List.mem_cons_of_mem _ (List.mem_cons_of_mem _ (List.mem_cons_of_mem _ (List.mem_cons_of_mem _ (List.mem_cons_self)))))
  have h3 := PI.laid_var (n := "strings.asciiSpace") (d := Rows.laid_strings_asciiSpace) hv (List.mem_cons_of_mem _ (List.mem_cons_of_mem _ (List.mem_cons_self)))
  rw [signs_eq] at h1
  rw [res_eq] at h2
  rw [spc_eq] at h3
  exact PI.globGG h1 h2 h3
set_option maxRecDepth 100000 in
theorem contract (H : Type) (enc : TypeId × Value → H) (W : World) (args : Array Value) (ds gs : List (DataW H)) (before : List MemPlace)
    (hval : ∀ (j : Nat) t v, Tryz.f3.params[j]? = some t → args[j]? = some v → Value.okWide Tryz.prog W .any 0 t v)
    (hW : DataW.Whole enc Tryz.prog Tryz.f3.params.toList Rows.topChangeOfUnitsSpec.vars false W args.toList ds gs before) (hL : laidMetH Tryz.prog Rows.topChangeOfUnitsRow.laid W) :
    Calls Tryz.prog 3 args W fun e W' => ∃ v, e = .returned v ∧ Rows.topChangeOfUnitsSpec.post enc Tryz.prog Tryz.f3 false true false false W args v W' := by
  refine PI.law_contract (tys := [PI.tyEx, PI.tyEnv, .int .u8, .int .u8]) (n := 3) PI.law_TopChangeOfUnits (by kernel_rfl) rfl ⟨_, rfl, by kernel_rfl⟩ ?_ (fun _ h => PI.lawSp_true h) (globs hL) hval hW
  intro H ds hd
  match ds, hd with
  | [_, _, _, _], _ => exact ⟨rfl, rfl, rfl⟩
/-- the cells of a datum of integers -/
def cellsD : Nat → DataW Unit → List Value
  | 0, _ => []
  | n + 1, .agg l => l.flatMap (cellsD n)
  | _ + 1, .lit (.int k z) => [.int k z]
  | _ + 1, _ => []
def lay (h : Array Obj) (g : Nat) (cs : List Value) : Array Obj := h.modify g fun | .cells _ t frozen => .cells cs.toArray t frozen | o => o
def rngs : List Int := [9, 13, 1, 32, 133, 101, 160, 5760, 5600, 8192, 8202, 1, 8232, 8233, 1, 8239, 8287, 48, 12288, 12288, 1]
noncomputable def heapOf (h : Array Obj) : Array Obj :=
  ((((lay (lay (lay (lay (lay (lay h 6 (cellsD 5 Rows.laid_unicode_utf8_acceptRanges)) 5 (cellsD 5 Rows.laid_unicode_utf8_first)) 2 (cellsD 5 Rows.laid_strings_asciiSpace)) 0 [.map (some h.size)]) 1 [.map (some (h.size + 1))]) 4 [.pointer (some ⟨h.size + 2, 0, none⟩)]).push
    (.map (PI.sigT.zipIdx.map fun p => ⟨.int .u8 p.1.1, .string ⟨p.1.2.toArray⟩, p.2⟩).toArray 11)).push (.map (PI.resT.zipIdx.map fun p => ⟨.string ⟨p.1.toArray⟩, .bool true, p.2⟩).toArray 40)).push
    (.cells #[.slice (some ⟨h.size + 3, 0, none⟩) 7 7, .slice none 0 0, .int .i64 2] 168 (0, 0))).push (.cells (rngs.map fun z => .int .u16 z).toArray 171 (0, 0))
noncomputable def laidWorld (os : Os) : World := { World.holding Tryz.prog os ⟨#[], #[], []⟩ with heap := heapOf (World.holding Tryz.prog os ⟨#[], #[], []⟩).heap }
def wit : Array Value := #[.agg #[.int .i64 0, .int .i64 0, .int .i64 0, .int .i64 0, .int .i64 0, .int .i64 0, .slice none 0 0], .agg #[.int .i64 0, .int .i64 0, .int .i64 0, .int .i64 0, .int .i64 0, .int .i64 0, .int .i64 0, .int .i64 0, .int .i64 0, .int .i64 0, .int .i64 0, .int .i64 0, .int .i64 0, .int .i64 0, .int .i64 0, .int .i64 0, .int .i64 0], .int .u8 0, .int .u8 0]
theorem laid_met (os : Os) : laidMet Tryz.prog Rows.topChangeOfUnitsRow.laid ((laidWorld os).forCall (fun _ _ => 0) ⟨#[], wit, []⟩).memory :=
  laidMet_of_run' 8 (by kernel_rfl) (by kernel_rfl)
theorem reads (os : Os) {H : Type} (enc : TypeId × Value → H) : ∃ places, DataW.whole enc Tryz.prog ((laidWorld os).forCall (fun _ _ => 0) ⟨#[], wit, []⟩).memory Tryz.f3.params.toList Rows.topChangeOfUnitsSpec.vars false wit.toList 8 = some ([.agg [.lit (.int .i64 0), .lit (.int .i64 0), .agg [.lit (.int .i64 0), .lit (.int .i64 0), .lit (.int .i64 0), .lit (.int .i64 0)], .nil], .agg [.lit (.int .i64 0), .agg [.lit (.int .i64 0), .lit (.int .i64 0), .lit (.int .i64 0), .lit (.int .i64 0), .lit (.int .i64 0), .lit (.int .i64 0), .lit (.int .i64 0), .lit (.int .i64 0), .lit (.int .i64 0), .lit (.int .i64 0), .lit (.int .i64 0), .lit (.int .i64 0), .lit (.int .i64 0), .lit (.int .i64 0), .lit (.int .i64 0), .lit (.int .i64 0)]], .lit (.int .u8 0), .lit (.int .u8 0)], [], places) :=
  ⟨[], by kernel_rfl⟩
set_option maxRecDepth 100000 in
theorem lifted (os : Os) (started : os.Started) (H : Type) (enc : TypeId × Value → H) (F : Stop.Interp) :
    ReturnsInHanded {} Tryz.checked os 3 .any ((OpenSpec.ofChange Rows.topChangeOfUnitsSpec).preRow enc Tryz.prog Tryz.f3 Rows.topChangeOfUnitsRow.domain false Rows.topChangeOfUnitsRow.laid) (((OpenSpec.ofChange Rows.topChangeOfUnitsSpec).at F).post enc Tryz.prog Tryz.f3 false true false false) := by
  obtain ⟨places, hx⟩ := reads os enc
  refine returnsInHanded_of_row (C := Tryz.checked) (s := OpenSpec.ofChange Rows.topChangeOfUnitsSpec) own started (by kernel_rfl) Tryz.func3
    (witness_row_atRef (enc := enc) (C := Tryz.checked) false (laidWorld os) wit rfl (by kernel_rfl) (by kernel_rfl) (by kernel_rfl)
      (OpenSpec.preRow_of_cond 8 hx (by kernel_rfl) (fun k hk => by cases hk) (by kernel_rfl) (laid_met os))) ?_
  intro W base args ds gs before hval hW _ _ _ hL _ _
  exact contract H enc W args ds gs before (fun j t v h1 h2 => hval j t v h1 h2) hW hL
theorem fa0 : (Rows.topChangeOfUnitsRow.inPlace == Tryz.pinned.checked.prog.inPlace 3) = true := by kernel_rfl
theorem fa1 : (Rows.topChangeOfUnitsRow.unfollowed == Tryz.pinned.checked.prog.unfollowed 3) = true := by kernel_rfl
theorem fa2 : (Rows.topChangeOfUnitsRow.recurses == Tryz.pinned.checked.prog.recurses 3) = true := by kernel_rfl
theorem fa3 : (Rows.topChangeOfUnitsRow.named == Tryz.pinned.checked.prog.varsNamed 3) = true := by kernel_rfl
theorem fa4 : (Rows.topChangeOfUnitsRow.lifted == Tryz.pinned.checked.prog.liftsFinal) = true := by kernel_rfl
theorem fa5 : laidOutB Tryz.pinned.checked.prog = true := by kernel_rfl
theorem fa6 : mapsRowed Tryz.pinned.checked.prog = true := by kernel_rfl
theorem fa7 : (Tryz.pinned.checked.prog.make == some Rows.topChangeOfUnitsRow.make) = true := by kernel_rfl
theorem fa8 : Tryz.pinned.checked.prog.stopsHeard = true := by kernel_rfl
theorem fa9 : Tryz.pinned.checked.prog.mayEnter = true := by kernel_rfl
theorem fa10 : (Rows.topChangeOfUnitsRow.plainKeys == Tryz.pinned.checked.prog.plainKeys) = true := by kernel_rfl
theorem facts : joinedFacts Tryz.pinned.checked.prog 3 Tryz.f3 (OpenSpec.ofChange Rows.topChangeOfUnitsSpec).bare Rows.topChangeOfUnitsRow = true := by
  unfold joinedFacts
  simp only [fa0, fa1, fa2, fa3, fa4, fa5, fa6, fa7, fa8, fa9, fa10, Bool.and_true]
  kernel_rfl
theorem said : Rows.TopChangeOfUnitsSaid :=
  OpenClaim.holds_of_cond 3 Tryz.f3 rfl rfl rfl rfl rfl rfl rfl ⟨rfl, rfl, rfl, rfl, rfl⟩ rfl rfl rfl rfl rfl (by kernel_rfl) Tryz.func3 facts
    (of_decide_eq_true (by kernel_rfl)) (by unfold Func.isWrapper; first | (rw [if_pos (by decide +kernel)]; kernel_rfl) | (rw [if_neg (by decide +kernel)]; exact ⟨rfl, rfl⟩))
    (fun os started H enc _ F => by rw [OpenClaim.pre_eq_preRow]; exact lifted os started H enc F)
theorem plain (f : FuncId) (fn : Func) (hf : Tryz.pinned.checked.prog.funcNamed "wagonpool/wagonpooltop.TopChangeOfUnits" = some f) (hfn : Tryz.pinned.checked.prog.funcs[f]? = some fn) :
    true = Tryz.pinned.checked.prog.looks [] ∧ ∀ (j : Nat) t, fn.params[j]? = some t → Tryz.pinned.checked.prog.wantsStandIn t = false := by
  obtain rfl : f = 3 := Option.some.inj ((show Tryz.prog.funcNamed "wagonpool/wagonpooltop.TopChangeOfUnits" = some 3 by kernel_rfl).symm.trans hf) |>.symm
  obtain rfl : fn = Tryz.f3 := (Option.some.inj (Tryz.func3.symm.trans hfn)).symm
  refine ⟨by kernel_rfl, fun j t ht => ?_⟩
  have hall : ∀ t ∈ Tryz.f3.params.toList, Tryz.prog.wantsStandIn t = false := by
    have : Tryz.f3.params.toList.all (fun t => Tryz.prog.wantsStandIn t == false) = true := by kernel_rfl
    intro t ht
    have h := List.all_eq_true.1 this t ht
    simpa using h
  exact hall t (by simpa using Array.mem_of_getElem? ht)
theorem card : Rows.TopChangeOfUnitsCardSaid :=
  Claim7.holds_tied_plain_at .later [] _ _ _ _ said (fun _ h => by cases h) (by kernel_rfl) (fun _ h => by cases h) topChangeOfUnits_row_tie rfl ⟨rfl, rfl⟩ (by kernel_rfl) rfl plain (by kernel_rfl)
end Go.Proofs.YtfbbaceiimdejaaGreatDoor.cTopChangeOfUnits
