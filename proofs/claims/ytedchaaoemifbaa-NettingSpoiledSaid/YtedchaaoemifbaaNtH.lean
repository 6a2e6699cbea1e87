/-
  netting: payments that settle balances, of the program (over its iterator).
  Conditions: none; these are lemmas.
-/
import Derived.Test.YtedchaaoemifbaaNtG
namespace Go.Proofs.Ytedchaaoemifbaa.PI
open Go
set_option linter.unusedSimpArgs false
set_option linter.unusedVariables false

theorem un_neg {a : Int} (h0 : -9223372036854775808 < a) (h1 : a < 9223372036854775808) : pun .neg (.int .i64 a) = some (.int .i64 (-a)) := by
  simp only [pun]
  rw [wrap_i64 (by omega) (by omega), Int.zero_sub]
def rowI (x : List Int) : Obj := ⟨true, 1, x.map nI, false⟩
theorem rowI_inj {a b : List Int} (h : rowI a = rowI b) : a = b := by
  simp only [rowI, Obj.mk.injEq, ints_iff, and_true, true_and] at h
  exact h
inductive FoldN (y : List D → St → Option (D × St)) (k : Nat) : List (Pay × List Int) → St → St → Prop
  | nil (st : St) : FoldN y k [] st st
  | cons {p : Pay} {x : List Int} {l : List (Pay × List Int)} {st st1 st2 : St} (h : y [payD p] (st.set k (rowI x)) = some (.bool true, st1)) (hk : st1[k]? = some (rowI x)) (hl : FoldN y k l st1 st2) : FoldN y k ((p, x) :: l) st st2
theorem FoldN.det {y : List D → St → Option (D × St)} {k : Nat} {l : List (Pay × List Int)} {st a b : St} (h : FoldN y k l st a) : FoldN y k l st b → a = b := by
  induction h with
  | nil => intro h'; cases h'; rfl
  | cons h hk hl ih =>
    intro h'
    cases h' with
    | cons h2 hk2 hl2 =>
      rw [h] at h2
      simp only [Option.some.injEq, Prod.mk.injEq, true_and] at h2
      subst h2
      exact ih hl2
def paysX (b : List Int) : List (Pay × List Int) := netF (b.length + 1) b 0 0
def PayR (y : List D → St → Option (D × St)) (ds : List D) (st : St) (r : D × St) : Prop :=
  ∃ (kb : Nat) (b : List Int) (lent : Bool), ds = [.ptr kb 0] ∧ st[kb]? = some (boxB b lent) ∧ b.length ≤ 336 ∧ (∀ v ∈ b, inR v) ∧ r.1 = .tup [] ∧ (if b = [] then r.2 = st else FoldN y st.length (paysX b) (st ++ [rowI b]) r.2)
theorem PayR.det {y : List D → St → Option (D × St)} {ds : List D} {st : St} {r s : D × St} (h : PayR y ds st r) (h' : PayR y ds st s) : r = s := by
  obtain ⟨k, b, le, rfl, h1, _, _, h2, h3⟩ := h
  obtain ⟨k', b', le', h4, h5, _, _, h6, h7⟩ := h'
  simp only [List.cons.injEq, D.ptr.injEq, and_true] at h4
  subst h4
  rw [h1] at h5
  obtain ⟨rfl, rfl⟩ := boxB_inj (Option.some.inj h5)
  refine Prod.ext (h2.trans h6.symm) ?_
  split at h3
  · rw [if_pos (by assumption)] at h7; exact h3.trans h7.symm
  · rw [if_neg (by assumption)] at h7; exact h3.det h7
noncomputable def sy_pays (y : List D → St → Option (D × St)) (ds : List D) (st : St) : Option (D × St) := @dite _ (∃ r, PayR y ds st r) (Classical.propDecidable _) (fun h => some h.choose) (fun _ => none)
theorem syp_inv {y : List D → St → Option (D × St)} {ds : List D} {st : St} {r : D × St} (h : sy_pays y ds st = some r) : PayR y ds st r := by
  unfold sy_pays at h
  split at h
  · rename_i hx
    simp only [Option.some.injEq] at h
    rw [← h]
    exact hx.choose_spec
  · cases h
theorem syp_some {y : List D → St → Option (D × St)} {ds : List D} {st : St} {r : D × St} (h : PayR y ds st r) : sy_pays y ds st = some r := by
  have hx : ∃ r, PayR y ds st r := ⟨r, h⟩
  unfold sy_pays
  rw [dif_pos hx, hx.choose_spec.det h]
theorem ycontract_of {P : Program} {G : Glob} {T : Tbl} {il : List Nat} {f : Nat} {hints : List (List Nat)} {F : PF} (hT : TblOK P G T) (ht : trF P il f hints = some F) {sp : (List D → St → Option (D × St)) → List D → St → Option (D × St)}
    (h : ∀ (l : Nat) y ds st r, sp y ds st = some r → @wW G (withY T l y) F.code (argF (.clo (10000000 + l) [] :: ds)) st ⟨@retI F.res ⟨fun d st' => (d, st') = r⟩⟩) : YIContract P G f sp := by
  refine fun_simY hT ht fun l y ds st r hr => ?_
  obtain ⟨fuel, d, st', h1, h2⟩ := runI_of_W (W_of (h l y ds st r hr))
  exact ⟨fuel, by rw [h1 fuel (Nat.le_refl _)]; exact congrArg some h2⟩
theorem netF_fuel1 {x : List Int} {f t : Nat} (h : NetI x f t) (hs : nx neg' x f < x.length ∧ nx pos' x t < x.length) :
    netF (x.length + 1) x f t = (payF x (nx neg' x f) (nx pos' x t), movP x (payF x (nx neg' x f) (nx pos' x t))) :: netF ((movP x (payF x (nx neg' x f) (nx pos' x t))).length + 1) (movP x (payF x (nx neg' x f) (nx pos' x t))) (nx neg' x f) (nx pos' x t) := by
  have hp := net_pay h hs.1 hs.2
  have hc := (net_cnt hp).1
  have hc2 : cnt x ≤ x.length := List.countP_le_length
  rw [netF_go hs, movP_length]
  congr 1
  exact netF_fuel _ _ _ _ _ (net_next h hs.1 hs.2) (by omega) (by omega)
theorem netI0 (b : List Int) : NetI b 0 0 := ⟨Nat.zero_le _, Nat.zero_le _, fun i h => by omega, fun i h => by omega⟩

set_option maxHeartbeats 8000000 in
set_option maxRecDepth 20000 in
theorem cy_pays : YIContract Try.prog GG 40 sy_pays := by
  refine ycontract_of (T := tb [] [(22, si_clone)]) (tb_ok all_nil (all_cons ci_clone all_nil)) tr_netting_payments_1 ?_
  intro l y ds st r hr
  obtain ⟨kb, b, le, rfl, hk, hb, hin, hr1, hf⟩ := syp_inv hr
  obtain ⟨rd, stF⟩ := r
  dsimp only at hr1 hf
  subst hr1
  have hk' : st[kb]? = some ⟨false, 1, [.slc (nz 1 (b.map nI)) (b.map nI) false], le⟩ := hk
  have ccl := call_clone b st (by omega)
  unfold F_netting_payments_1
  by_cases hb0 : b = []
  · subst hb0
    rw [if_pos rfl] at hf ccl
    subst hf
    simp only [List.map_nil, nz_nil] at ccl hk'
    simp (disch := first | omega | decide) only [push_cast, ↓wF_free, ↓reduceIte, Nat.reduceEqDiff, Nat.reduceLT, Nat.reduceLeDiff, Nat.reduceAdd, Nat.reduceSub, Nat.reduceMul, Nat.reduceBEq, Int.reduceLT, Int.reduceLE, Int.reduceToNat, Int.reduceNeg, Int.reducePow, Int.reduceAdd, Int.reduceMul, Int.reduceSub, ↓Int.reduceNatCast', hk', ccl]
    refine W_whileA (fun i : Nat => [(0, .clo (10000000 + l) []), (3, .slc 0 [] false), (4, .int .i64 0), (5, .int .i64 0)]) (fun i => stF) (fun i => i = 0) (fun i => 0) 0 (by simp only [push_cast, ↓wF_free, ↓reduceIte, Nat.reduceEqDiff, Nat.reduceLT, Nat.reduceLeDiff, Nat.reduceAdd, Nat.reduceSub, Nat.reduceMul, Nat.reduceBEq, Int.reduceLT, Int.reduceLE, Int.reduceToNat, Int.reduceNeg, Int.reducePow, Int.reduceAdd, Int.reduceMul, Int.reduceSub, ↓Int.reduceNatCast'] <;> rfl) rfl ?_
    rintro i rfl
    unfold F_netting_payments_1_L2
    simp (disch := first | omega | decide) only [push_cast, ↓wF_free, ↓reduceIte, Nat.reduceEqDiff, Nat.reduceLT, Nat.reduceLeDiff, Nat.reduceAdd, Nat.reduceSub, Nat.reduceMul, Nat.reduceBEq, Int.reduceLT, Int.reduceLE, Int.reduceToNat, Int.reduceNeg, Int.reducePow, Int.reduceAdd, Int.reduceMul, Int.reduceSub, ↓Int.reduceNatCast']
    refine W_whileA (fun i : Nat => [(0, .clo (10000000 + l) []), (3, .slc 0 [] false), (4, .int .i64 0), (5, .int .i64 0)]) (fun i => stF) (fun i => i = 0) (fun i => 0) 0 (by simp only [push_cast, ↓wF_free, ↓reduceIte, Nat.reduceEqDiff, Nat.reduceLT, Nat.reduceLeDiff, Nat.reduceAdd, Nat.reduceSub, Nat.reduceMul, Nat.reduceBEq, Int.reduceLT, Int.reduceLE, Int.reduceToNat, Int.reduceNeg, Int.reducePow, Int.reduceAdd, Int.reduceMul, Int.reduceSub, ↓Int.reduceNatCast'] <;> rfl) rfl ?_
    rintro i rfl
    unfold F_netting_payments_1_L0
    simp (disch := first | omega | decide) only [push_cast, ↓wF_free, ↓reduceIte, Nat.reduceEqDiff, Nat.reduceLT, Nat.reduceLeDiff, Nat.reduceAdd, Nat.reduceSub, Nat.reduceMul, Nat.reduceBEq, Int.reduceLT, Int.reduceLE, Int.reduceToNat, Int.reduceNeg, Int.reducePow, Int.reduceAdd, Int.reduceMul, Int.reduceSub, ↓Int.reduceNatCast']
    refine W_whileA (fun i : Nat => [(0, .clo (10000000 + l) []), (3, .slc 0 [] false), (4, .int .i64 0), (5, .int .i64 0)]) (fun i => stF) (fun i => i = 0) (fun i => 0) 0 (by simp only [push_cast, ↓wF_free, ↓reduceIte, Nat.reduceEqDiff, Nat.reduceLT, Nat.reduceLeDiff, Nat.reduceAdd, Nat.reduceSub, Nat.reduceMul, Nat.reduceBEq, Int.reduceLT, Int.reduceLE, Int.reduceToNat, Int.reduceNeg, Int.reducePow, Int.reduceAdd, Int.reduceMul, Int.reduceSub, ↓Int.reduceNatCast'] <;> rfl) rfl ?_
    rintro i rfl
    unfold F_netting_payments_1_L1
    simp (disch := first | omega | decide) only [push_cast, ↓wF_free, ↓reduceIte, Nat.reduceEqDiff, Nat.reduceLT, Nat.reduceLeDiff, Nat.reduceAdd, Nat.reduceSub, Nat.reduceMul, Nat.reduceBEq, Int.reduceLT, Int.reduceLE, Int.reduceToNat, Int.reduceNeg, Int.reducePow, Int.reduceAdd, Int.reduceMul, Int.reduceSub, ↓Int.reduceNatCast']
  · rw [if_neg hb0] at hf ccl
    simp (disch := first | omega | decide) only [push_cast, ↓wF_free, ↓reduceIte, Nat.reduceEqDiff, Nat.reduceLT, Nat.reduceLeDiff, Nat.reduceAdd, Nat.reduceSub, Nat.reduceMul, Nat.reduceBEq, Int.reduceLT, Int.reduceLE, Int.reduceToNat, Int.reduceNeg, Int.reducePow, Int.reduceAdd, Int.reduceMul, Int.reduceSub, ↓Int.reduceNatCast', hk', ccl]
    generalize hK : st.length = k at *
    refine W_whileA (fun i : List Int × Nat × Nat × St => [(0, .clo (10000000 + l) []), (3, .row k b.length 0 b.length), (4, .int .i64 (i.2.1 : Int)), (5, .int .i64 (i.2.2.1 : Int))]) (fun i => i.2.2.2)
      (fun i => i.1.length = b.length ∧ NetI i.1 i.2.1 i.2.2.1 ∧ (∀ v ∈ i.1, inR v) ∧ i.2.2.2[k]? = some (rowI i.1) ∧ FoldN y k (netF (i.1.length + 1) i.1 i.2.1 i.2.2.1) i.2.2.2 stF) (fun i => cnt i.1) (b, 0, 0, st ++ [rowI b]) (by simp only [push_cast, ↓wF_free, ↓reduceIte, Nat.reduceEqDiff, Nat.reduceLT, Nat.reduceLeDiff, Nat.reduceAdd, Nat.reduceSub, Nat.reduceMul, Nat.reduceBEq, Int.reduceLT, Int.reduceLE, Int.reduceToNat, Int.reduceNeg, Int.reducePow, Int.reduceAdd, Int.reduceMul, Int.reduceSub, ↓Int.reduceNatCast'] <;> rfl) ⟨rfl, netI0 b, hin, by rw [← hK]; exact st_last st _, hf⟩ ?_
    rintro ⟨x, f, t, s⟩ ⟨hxl, hni, hxr, hs, hF⟩
    dsimp only at hxl hni hxr hs hF
    have hs' : s[k]? = some ⟨true, 1, x.map nI, false⟩ := hs
    have hli := liR_nI x false b.length hxl
    have hix : ∀ j : Nat, j < b.length → ixR (some ⟨true, 1, x.map nI, false⟩) 1 k b.length 0 b.length (j : Int) = some (.rptr k b.length j 0) := fun j hj => by
      have := ixR_nI x false k b.length (j : Int) hxl (by omega) (by omega)
      rwa [Int.toNat_natCast] at this
    have hld : ∀ j : Nat, j < b.length → ldR (some ⟨true, 1, x.map nI, false⟩) 1 false b.length j 0 = some (.int .i64 (at' x j)) := fun j hj => ldR_nI x false b.length j hxl hj
    unfold F_netting_payments_1_L2
    simp (disch := first | omega | decide) only [push_cast, ↓wF_free, ↓reduceIte, Nat.reduceEqDiff, Nat.reduceLT, Nat.reduceLeDiff, Nat.reduceAdd, Nat.reduceSub, Nat.reduceMul, Nat.reduceBEq, Int.reduceLT, Int.reduceLE, Int.reduceToNat, Int.reduceNeg, Int.reducePow, Int.reduceAdd, Int.reduceMul, Int.reduceSub, ↓Int.reduceNatCast']
    refine W_whileA (fun i : Nat => [(0, .clo (10000000 + l) []), (3, .row k b.length 0 b.length), (4, .int .i64 (i : Int)), (5, .int .i64 (t : Int))]) (fun i => s) (fun i => i ≤ b.length ∧ nx neg' x i = nx neg' x f) (fun i => b.length - i) f (by simp only [push_cast, ↓wF_free, ↓reduceIte, Nat.reduceEqDiff, Nat.reduceLT, Nat.reduceLeDiff, Nat.reduceAdd, Nat.reduceSub, Nat.reduceMul, Nat.reduceBEq, Int.reduceLT, Int.reduceLE, Int.reduceToNat, Int.reduceNeg, Int.reducePow, Int.reduceAdd, Int.reduceMul, Int.reduceSub, ↓Int.reduceNatCast'] <;> rfl) ⟨by have := hni.ff; omega, rfl⟩ ?_
    rintro i ⟨hi, hn⟩
    unfold F_netting_payments_1_L0
    by_cases q1 : (i : Int) < (b.length : Int)
    · have hy := nx_yes neg' x i (by omega)
      have hno := nx_no neg' x i (by omega)
      by_cases q2 : 0 ≤ at' x i
      · simp (disch := first | omega | decide) only [push_cast, ↓wF_free, ↓reduceIte, Nat.reduceEqDiff, Nat.reduceLT, Nat.reduceLeDiff, Nat.reduceAdd, Nat.reduceSub, Nat.reduceMul, Nat.reduceBEq, Int.reduceLT, Int.reduceLE, Int.reduceToNat, Int.reduceNeg, Int.reducePow, Int.reduceAdd, Int.reduceMul, Int.reduceSub, ↓Int.reduceNatCast', hs', hli, q1, hix i (by omega), hld i (by omega), q2, add_i]
        refine next_head (i + 1) (by exact ⟨by omega, by rw [← hno (by unfold neg'; exact decide_eq_false (by omega))]; exact hn⟩) (by omega) ?_
        simp only [push_cast, ↓wF_free, ↓reduceIte, Nat.reduceEqDiff, Nat.reduceLT, Nat.reduceLeDiff, Nat.reduceAdd, Nat.reduceSub, Nat.reduceMul, Nat.reduceBEq, Int.reduceLT, Int.reduceLE, Int.reduceToNat, Int.reduceNeg, Int.reducePow, Int.reduceAdd, Int.reduceMul, Int.reduceSub, ↓Int.reduceNatCast'] <;> rfl
      · have hF1 : nx neg' x f = i := by rw [← hn]; exact hy (by unfold neg'; exact decide_eq_true (by omega))
        simp (disch := first | omega | decide) only [push_cast, ↓wF_free, ↓reduceIte, Nat.reduceEqDiff, Nat.reduceLT, Nat.reduceLeDiff, Nat.reduceAdd, Nat.reduceSub, Nat.reduceMul, Nat.reduceBEq, Int.reduceLT, Int.reduceLE, Int.reduceToNat, Int.reduceNeg, Int.reducePow, Int.reduceAdd, Int.reduceMul, Int.reduceSub, ↓Int.reduceNatCast', hs', hli, q1, hix i (by omega), hld i (by omega), q2]
        refine W_whileA (fun j : Nat => [(0, .clo (10000000 + l) []), (3, .row k b.length 0 b.length), (4, .int .i64 (i : Int)), (5, .int .i64 (j : Int))]) (fun j => s) (fun j => j ≤ b.length ∧ nx pos' x j = nx pos' x t) (fun j => b.length - j) t (by simp only [push_cast, ↓wF_free, ↓reduceIte, Nat.reduceEqDiff, Nat.reduceLT, Nat.reduceLeDiff, Nat.reduceAdd, Nat.reduceSub, Nat.reduceMul, Nat.reduceBEq, Int.reduceLT, Int.reduceLE, Int.reduceToNat, Int.reduceNeg, Int.reducePow, Int.reduceAdd, Int.reduceMul, Int.reduceSub, ↓Int.reduceNatCast'] <;> rfl) ⟨by have := hni.tt; omega, rfl⟩ ?_
        rintro j ⟨hj, hn2⟩
        unfold F_netting_payments_1_L1
        by_cases w1 : (j : Int) < (b.length : Int)
        · have hy2 := nx_yes pos' x j (by omega)
          have hno2 := nx_no pos' x j (by omega)
          by_cases w2 : at' x j ≤ 0
          · simp (disch := first | omega | decide) only [push_cast, ↓wF_free, ↓reduceIte, Nat.reduceEqDiff, Nat.reduceLT, Nat.reduceLeDiff, Nat.reduceAdd, Nat.reduceSub, Nat.reduceMul, Nat.reduceBEq, Int.reduceLT, Int.reduceLE, Int.reduceToNat, Int.reduceNeg, Int.reducePow, Int.reduceAdd, Int.reduceMul, Int.reduceSub, ↓Int.reduceNatCast', hs', hli, w1, hix j (by omega), hld j (by omega), w2, add_i]
            refine next_head (j + 1) (by exact ⟨by omega, by rw [← hno2 (by unfold pos'; exact decide_eq_false (by omega))]; exact hn2⟩) (by omega) ?_
            simp only [push_cast, ↓wF_free, ↓reduceIte, Nat.reduceEqDiff, Nat.reduceLT, Nat.reduceLeDiff, Nat.reduceAdd, Nat.reduceSub, Nat.reduceMul, Nat.reduceBEq, Int.reduceLT, Int.reduceLE, Int.reduceToNat, Int.reduceNeg, Int.reducePow, Int.reduceAdd, Int.reduceMul, Int.reduceSub, ↓Int.reduceNatCast'] <;> rfl
          · have hT : nx pos' x t = j := by rw [← hn2]; exact hy2 (by unfold pos'; exact decide_eq_true (by omega))
            have q3 : ¬ (i : Int) = (b.length : Int) := by omega
            have w3 : ¬ (j : Int) = (b.length : Int) := by omega
            have hgo : nx neg' x f < x.length ∧ nx pos' x t < x.length := by rw [hF1, hT]; omega
            have hpay := net_pay hni hgo.1 hgo.2
            have hnext := net_next hni hgo.1 hgo.2
            have hcnt := (net_cnt hpay).1
            rw [netF_fuel1 hni hgo] at hF
            rw [hF1, hT] at hF hpay hnext hcnt
            obtain ⟨n1, n2, n3, n4⟩ := hpay.n
            have r1 := hxr _ (at_mem hpay.a1)
            have r2 := hxr _ (at_mem hpay.a2)
            have hne : i ≠ j := by rintro rfl; have := hpay.v1; have := hpay.v2; omega
            have hnn : min (-(at' x i)) (at' x j) = (payF x i j).n := rfl
            have hma : moreA x (payF x i j) = at' x i + (payF x i j).n := rfl
            have hla : lessA x (payF x i j) = at' x j - (payF x i j).n := rfl
            have e1 : (payF x i j).f.toNat = i := rfl
            have e2 : (payF x i j).t.toNat = j := rfl
            have e3 : payD (payF x i j) = .agg [.int .i64 (i : Int), .int .i64 (j : Int), .int .i64 (payF x i j).n] := rfl
            have hmv : movP x (payF x i j) = (x.set i (moreA x (payF x i j))).set j (lessA x (payF x i j)) := rfl
            have hxr2 : ∀ v ∈ movP x (payF x i j), inR v := fun v hv => by
              rw [hmv] at hv
              unfold inR at r1 r2
              rcases List.mem_or_eq_of_mem_set hv with hv | rfl
              · rcases List.mem_or_eq_of_mem_set hv with hv | rfl
                · exact hxr v hv
                · rw [hma]; unfold inR; omega
              · rw [hla]; unfold inR; omega
            have hml := movP_length x (payF x i j)
            unfold inR at r1 r2
            have hx2 : (x.set i (moreA x (payF x i j))).length = b.length := by rw [List.length_set]; exact hxl
            have s1 := stRI_row x b.length i (moreA x (payF x i j)) hxl (by omega)
            have s2 := stRI_row (x.set i (moreA x (payF x i j))) b.length j (lessA x (payF x i j)) hx2 (by omega)
            have hat2 : at' (x.set i (moreA x (payF x i j))) j = at' x j := by rw [at_set _ _ _ _ (by omega), if_neg hne]
            have i2 := ixR_nI (x.set i (moreA x (payF x i j))) false k b.length (j : Int) hx2 (by omega) (by omega)
            rw [Int.toNat_natCast] at i2
            have l2 := ldR_nI (x.set i (moreA x (payF x i j))) false b.length j hx2 (by omega)
            rw [hat2] at l2
            have hks : k < s.length := (List.getElem?_eq_some_iff.1 hs).1
            have g1 : ∀ o : Obj, (s.set k o)[k]? = some o := fun o => by simp [hks]
            have g2 : ∀ o o' : Obj, (s.set k o).set k o' = s.set k o' := fun o o' => by simp
            rw [← hmv] at s2
            generalize hpp : payF x i j = p at *
            cases hF with
            | cons hyy hk1 hl1 =>
              rename_i s3
              rw [e3] at hyy
              unfold rowI at hyy
              simp (disch := first | omega | decide) only [push_cast, ↓wF_free, ↓reduceIte, Nat.reduceEqDiff, Nat.reduceLT, Nat.reduceLeDiff, Nat.reduceAdd, Nat.reduceSub, Nat.reduceMul, Nat.reduceBEq, Int.reduceLT, Int.reduceLE, Int.reduceToNat, Int.reduceNeg, Int.reducePow, Int.reduceAdd, Int.reduceMul, Int.reduceSub, ↓Int.reduceNatCast', hs', hli, w1, hix i (by omega), hld i (by omega), hix j (by omega), hld j (by omega), w2, q3, w3, un_neg, hnn, add_i, sub_i, ← hma, ← hla, pstor_ri, s1, g1, i2, l2, s2, g2, fill_i3, hyy]
              refine next_head (movP x p, i, j, s3) (by exact ⟨hml.trans hxl, hnext, hxr2, hk1, hl1⟩) (by dsimp only; omega) ?_
              simp only [push_cast, ↓wF_free, ↓reduceIte, Nat.reduceEqDiff, Nat.reduceLT, Nat.reduceLeDiff, Nat.reduceAdd, Nat.reduceSub, Nat.reduceMul, Nat.reduceBEq, Int.reduceLT, Int.reduceLE, Int.reduceToNat, Int.reduceNeg, Int.reducePow, Int.reduceAdd, Int.reduceMul, Int.reduceSub, ↓Int.reduceNatCast'] <;> rfl
        · have hT : nx pos' x t = j := by rw [← hn2]; exact nx_end _ _ _ (by omega)
          have hstop := netF_stop (k := x.length + 1) (x := x) (f := f) (t := t) (by rw [hF1, hT]; omega)
          rw [hstop] at hF
          cases hF
          have w3 : decide ((j : Int) = (b.length : Int)) = true := decide_eq_true (by omega)
          have q3 : ¬ (i : Int) = (b.length : Int) := by omega
          simp (disch := first | omega | decide) only [push_cast, ↓wF_free, ↓reduceIte, Nat.reduceEqDiff, Nat.reduceLT, Nat.reduceLeDiff, Nat.reduceAdd, Nat.reduceSub, Nat.reduceMul, Nat.reduceBEq, Int.reduceLT, Int.reduceLE, Int.reduceToNat, Int.reduceNeg, Int.reducePow, Int.reduceAdd, Int.reduceMul, Int.reduceSub, ↓Int.reduceNatCast', hs', hli, w1, q3, w3]
    · have hF1 : nx neg' x f = i := by rw [← hn]; exact nx_end _ _ _ (by omega)
      simp (disch := first | omega | decide) only [push_cast, ↓wF_free, ↓reduceIte, Nat.reduceEqDiff, Nat.reduceLT, Nat.reduceLeDiff, Nat.reduceAdd, Nat.reduceSub, Nat.reduceMul, Nat.reduceBEq, Int.reduceLT, Int.reduceLE, Int.reduceToNat, Int.reduceNeg, Int.reducePow, Int.reduceAdd, Int.reduceMul, Int.reduceSub, ↓Int.reduceNatCast', hs', hli, q1]
      refine W_whileA (fun j : Nat => [(0, .clo (10000000 + l) []), (3, .row k b.length 0 b.length), (4, .int .i64 (i : Int)), (5, .int .i64 (j : Int))]) (fun j => s) (fun j => j ≤ b.length ∧ nx pos' x j = nx pos' x t) (fun j => b.length - j) t (by simp only [push_cast, ↓wF_free, ↓reduceIte, Nat.reduceEqDiff, Nat.reduceLT, Nat.reduceLeDiff, Nat.reduceAdd, Nat.reduceSub, Nat.reduceMul, Nat.reduceBEq, Int.reduceLT, Int.reduceLE, Int.reduceToNat, Int.reduceNeg, Int.reducePow, Int.reduceAdd, Int.reduceMul, Int.reduceSub, ↓Int.reduceNatCast'] <;> rfl) ⟨by have := hni.tt; omega, rfl⟩ ?_
      rintro j ⟨hj, hn2⟩
      unfold F_netting_payments_1_L1
      by_cases w1 : (j : Int) < (b.length : Int)
      · have hy2 := nx_yes pos' x j (by omega)
        have hno2 := nx_no pos' x j (by omega)
        by_cases w2 : at' x j ≤ 0
        · simp (disch := first | omega | decide) only [push_cast, ↓wF_free, ↓reduceIte, Nat.reduceEqDiff, Nat.reduceLT, Nat.reduceLeDiff, Nat.reduceAdd, Nat.reduceSub, Nat.reduceMul, Nat.reduceBEq, Int.reduceLT, Int.reduceLE, Int.reduceToNat, Int.reduceNeg, Int.reducePow, Int.reduceAdd, Int.reduceMul, Int.reduceSub, ↓Int.reduceNatCast', hs', hli, w1, hix j (by omega), hld j (by omega), w2, add_i]
          refine next_head (j + 1) (by exact ⟨by omega, by rw [← hno2 (by unfold pos'; exact decide_eq_false (by omega))]; exact hn2⟩) (by omega) ?_
          simp only [push_cast, ↓wF_free, ↓reduceIte, Nat.reduceEqDiff, Nat.reduceLT, Nat.reduceLeDiff, Nat.reduceAdd, Nat.reduceSub, Nat.reduceMul, Nat.reduceBEq, Int.reduceLT, Int.reduceLE, Int.reduceToNat, Int.reduceNeg, Int.reducePow, Int.reduceAdd, Int.reduceMul, Int.reduceSub, ↓Int.reduceNatCast'] <;> rfl
        · have hT : nx pos' x t = j := by rw [← hn2]; exact hy2 (by unfold pos'; exact decide_eq_true (by omega))
          have hstop := netF_stop (k := x.length + 1) (x := x) (f := f) (t := t) (by rw [hF1, hT]; omega)
          rw [hstop] at hF
          cases hF
          have q3 : decide ((i : Int) = (b.length : Int)) = true := decide_eq_true (by omega)
          simp (disch := first | omega | decide) only [push_cast, ↓wF_free, ↓reduceIte, Nat.reduceEqDiff, Nat.reduceLT, Nat.reduceLeDiff, Nat.reduceAdd, Nat.reduceSub, Nat.reduceMul, Nat.reduceBEq, Int.reduceLT, Int.reduceLE, Int.reduceToNat, Int.reduceNeg, Int.reducePow, Int.reduceAdd, Int.reduceMul, Int.reduceSub, ↓Int.reduceNatCast', hs', hli, w1, hix j (by omega), hld j (by omega), w2, q3]
      · have hT : nx pos' x t = j := by rw [← hn2]; exact nx_end _ _ _ (by omega)
        have hstop := netF_stop (k := x.length + 1) (x := x) (f := f) (t := t) (by rw [hF1, hT]; omega)
        rw [hstop] at hF
        cases hF
        have q3 : decide ((i : Int) = (b.length : Int)) = true := decide_eq_true (by omega)
        simp (disch := first | omega | decide) only [push_cast, ↓wF_free, ↓reduceIte, Nat.reduceEqDiff, Nat.reduceLT, Nat.reduceLeDiff, Nat.reduceAdd, Nat.reduceSub, Nat.reduceMul, Nat.reduceBEq, Int.reduceLT, Int.reduceLE, Int.reduceToNat, Int.reduceNeg, Int.reducePow, Int.reduceAdd, Int.reduceMul, Int.reduceSub, ↓Int.reduceNatCast', hs', hli, w1, q3]
end Go.Proofs.Ytedchaaoemifbaa.PI
