/- The reference for labels: what is the same, what is few. -/
import Derived.Test.YtickejlolpoboaaFc
set_option linter.all false
namespace Go.Proofs.Ytickejlolpoboaa.AM
open Go Go.Proofs

theorem aeqPair (a b c d : ByteArray) : aeq Try.prog 9 29 (.agg [.v (.string a), .v (.string b)]) (.agg [.v (.string c), .v (.string d)]) = some (decide (a = c) && (decide (b = d) && true)) := by
  kernel_rfl
theorem eqgPair : Try.prog.eqGuardType Try.prog.depth 29 = false := by kernel_rfl

theorem en_same_any : enters Try.prog 15 = true := by kernel_rfl
set_option maxRecDepth 20000 in
set_option maxHeartbeats 4000000 in
theorem same_any (a b : List Pr) (ha : a.length ≤ 1000000) : Fun Try.prog 15 [.sl (encPs a) .none, .sl (encPs b) .none] (.v (.bool (decide (a = b)))) [] := by
  refine Fun.of_awpO Try.func15 rfl (Nat.le_of_ble_eq_true (by kernel_rfl)) ?_
  simp only [Try.ntmps15, Try.results15, argsO, Nat.reduceAdd]
  repeat' (first | (with_reducible refine awp_seq fun _ _ => ?_) | (with_reducible refine awp_block ?_) | (with_reducible refine kapp (by assumption) ?_) | (with_reducible refine awp_region ?_) | ((with_reducible first | refine aops_step fun _ _ => ?_ | refine aopsQ_step fun _ _ => ?_); simp (config := { maxSteps := 1000000 }) +contextual (disch := omega) only [go_sem, ↓reduceIte, Nat.reduceAdd, Nat.reduceMul, Nat.reduceLeDiff, Nat.reduceEqDiff, Nat.reduceLT, Nat.reduceSub]) | (with_reducible first | refine aops_nil ?_ | refine kapp2 (by assumption) ?_ | refine aopsQ_nil ?_ | refine kapp3 (by assumption) ?_) | (with_reducible first | refine kQ_n ?_ | refine kQ_e ?_ | refine kQ_r ?_ | refine bQ_n ?_ | refine bQ_r ?_ | refine bQ_e ?_ | refine bQ_x rfl ?_ | refine lQ_e ?_ | refine lQ_r ?_) | (with_reducible refine awp_regionQ (by kernel_rfl) (by kernel_rfl) ?_) | ((with_reducible refine awp_condg ?_); (with_reducible refine awp_cond (by simp only [go_sem, ↓reduceIte, Nat.reduceEqDiff, Nat.reduceLT, and_true]; rfl) ?_ ?_) <;> (with_reducible intro hb) <;> (try simp only [decide_eq_true_eq, decide_eq_false_iff_not, Bool.true_eq_false, Bool.false_eq_true, reduceCtorEq, Bool.or_eq_true, Bool.or_eq_false_iff, Bool.and_eq_true, Bool.not_eq_true', Bool.not_eq_false', Bool.and_eq_false_iff, Bool.not_true, Bool.not_false] at hb) <;> (try omega)) | (with_reducible refine awp_ret ?_) | (with_reducible refine awp_skip ?_) | (with_reducible refine awp_exit ?_) | (with_reducible refine And.intro ?_ ?_) | (with_reducible intro _) | omega)
  · exact ret_fun (by simp only [go_sem, resAV, resL, resO, oneOf, loadO, ↓reduceIte, Nat.reduceEqDiff, Nat.reduceLT, Nat.reduceAdd, Nat.reduceLeDiff] <;> exact rfl) _ (le_v (by
      have : a ≠ b := by rintro rfl; omega
      simp [this])) rfl rfl rfl
  refine awp_loopO [0, 1] (by simp only [osel, og_oc, og_onil, ↓reduceIte, Nat.reduceEqDiff] <;> exact rfl) (fun k : Nat => [(5, .v (.int .i64 (k : Int)))]) (fun _ => []) (fun k => (k ≤ a.length ∧ a.length = b.length) ∧ ∀ i, i < k → pr a i = pr b i) (fun k => a.length - k) 0 ⟨⟨Nat.zero_le _, by omega⟩, fun i hi => by omega⟩ (by (try simp only [go_sem]); exact Weak.ov [] (by simp (config := { maxSteps := 1000000 }) +contextual (disch := omega) only [go_sem, leO_oc, leO_onil, ↓reduceIte, Nat.reduceEqDiff, Nat.reduceLT, Nat.reduceAdd, le_any', le_refl', Int.natCast_add, Int.cast_ofNat_Int, Int.natCast_one]) rfl (Nat.zero_le _) (by kernel_rfl) (by kernel_rfl)) ?_
  rintro k ⟨⟨hk1, hk3⟩, hk2⟩
  simp only [ol]
  repeat' (first | (with_reducible refine awp_seq fun _ _ => ?_) | (with_reducible refine awp_block ?_) | (with_reducible refine kapp (by assumption) ?_) | (with_reducible refine awp_region ?_) | ((with_reducible first | refine aops_step fun _ _ => ?_ | refine aopsQ_step fun _ _ => ?_); simp (config := { maxSteps := 1000000 }) +contextual (disch := omega) only [go_sem, ↓reduceIte, Nat.reduceAdd, Nat.reduceMul, Nat.reduceLeDiff, Nat.reduceEqDiff, Nat.reduceLT, Nat.reduceSub, aeqPair, eqgPair]) | (with_reducible first | refine aops_nil ?_ | refine kapp2 (by assumption) ?_ | refine aopsQ_nil ?_ | refine kapp3 (by assumption) ?_) | (with_reducible first | refine kQ_n ?_ | refine kQ_e ?_ | refine kQ_r ?_ | refine bQ_n ?_ | refine bQ_r ?_ | refine bQ_e ?_ | refine bQ_x rfl ?_ | refine lQ_e ?_ | refine lQ_r ?_) | (with_reducible refine awp_regionQ (by kernel_rfl) (by kernel_rfl) ?_) | ((with_reducible refine awp_condg ?_); (with_reducible refine awp_cond (by simp only [go_sem, ↓reduceIte, Nat.reduceEqDiff, Nat.reduceLT, aeqPair, eqgPair]; rfl) ?_ ?_) <;> (with_reducible intro hb) <;> (try simp only [decide_eq_true_eq, decide_eq_false_iff_not, Bool.true_eq_false, Bool.false_eq_true, reduceCtorEq, Bool.or_eq_true, Bool.or_eq_false_iff, Bool.and_eq_true, Bool.not_eq_true', Bool.not_eq_false', Bool.and_eq_false_iff, Bool.not_true, Bool.not_false] at hb) <;> (try omega)) | (with_reducible refine awp_ret ?_) | (with_reducible refine awp_skip ?_) | (with_reducible refine awp_exit ?_) | (with_reducible refine And.intro ?_ ?_) | (with_reducible intro _) | omega)
  · have hbad := ‹¬ (pr a k).fst = (pr b k).fst ∨ ¬ (pr a k).snd = (pr b k).snd›
    exact ret_fun (by simp only [go_sem, resAV, resL, resO, oneOf, loadO, ↓reduceIte, Nat.reduceEqDiff, Nat.reduceLT, Nat.reduceAdd, Nat.reduceLeDiff] <;> exact rfl) _ (le_v (by
      have : a ≠ b := by
        rintro rfl
        rcases hbad with h | h <;> exact h rfl
      simp [this])) rfl rfl rfl
  · have hg := ‹(pr a k).fst = (pr b k).fst ∧ (pr a k).snd = (pr b k).snd›
    refine loop_next (k + 1) ?_ ?_ (by (try simp only [go_sem]); exact Weak.ov _ (by simp (config := { maxSteps := 1000000 }) +contextual (disch := omega) only [go_sem, leO_oc, leO_onil, ↓reduceIte, Nat.reduceEqDiff, Nat.reduceLT, Nat.reduceAdd, le_any', le_refl', Int.natCast_add, Int.cast_ofNat_Int, Int.natCast_one]) rfl (Nat.zero_le _) (by kernel_rfl) (by kernel_rfl))
    · refine ⟨⟨by omega, hk3⟩, fun i hi => ?_⟩
      by_cases hik : i = k
      · subst hik
        exact Prod.ext hg.1 hg.2
      · exact hk2 i (by omega)
    · omega
  · exact ret_fun (by simp only [go_sem, resAV, resL, resO, oneOf, loadO, ↓reduceIte, Nat.reduceEqDiff, Nat.reduceLT, Nat.reduceAdd, Nat.reduceLeDiff] <;> exact rfl) _ (le_v (by
      have : a = b := by
        apply List.ext_getElem?
        intro i
        rcases Nat.lt_or_ge i a.length with h | h
        · rw [pr_get h, pr_get (by omega), hk2 i (by omega)]
        · rw [List.getElem?_eq_none h, List.getElem?_eq_none (by omega)]
      simp [this])) rfl rfl rfl

theorem en_few_any : enters Try.prog 11 = true := by kernel_rfl
set_option maxRecDepth 20000 in
set_option maxHeartbeats 4000000 in
theorem few_any (l : List Pr) : Fun Try.prog 11 [.sl (encPs l) .none] (.v (.bool (fewB l))) [] := by
  refine Fun.of_awpO Try.func11 rfl (Nat.le_of_ble_eq_true (by kernel_rfl)) ?_
  simp only [Try.ntmps11, Try.results11, argsO, Nat.reduceAdd]
  repeat' (first | (with_reducible refine awp_seq fun _ _ => ?_) | (with_reducible refine awp_block ?_) | (with_reducible refine kapp (by assumption) ?_) | (with_reducible refine awp_region ?_) | ((with_reducible first | refine aops_step fun _ _ => ?_ | refine aopsQ_step fun _ _ => ?_); simp (config := { maxSteps := 1000000 }) +contextual (disch := omega) only [go_sem, ↓reduceIte, Nat.reduceAdd, Nat.reduceMul, Nat.reduceLeDiff, Nat.reduceEqDiff, Nat.reduceLT, Nat.reduceSub]) | (with_reducible first | refine aops_nil ?_ | refine kapp2 (by assumption) ?_ | refine aopsQ_nil ?_ | refine kapp3 (by assumption) ?_) | (with_reducible first | refine kQ_n ?_ | refine kQ_e ?_ | refine kQ_r ?_ | refine bQ_n ?_ | refine bQ_r ?_ | refine bQ_e ?_ | refine bQ_x rfl ?_ | refine lQ_e ?_ | refine lQ_r ?_) | (with_reducible refine awp_regionQ (by kernel_rfl) (by kernel_rfl) ?_) | ((with_reducible refine awp_condg ?_); (with_reducible refine awp_cond (by simp only [go_sem, ↓reduceIte, Nat.reduceEqDiff, Nat.reduceLT, and_true]; rfl) ?_ ?_) <;> (with_reducible intro hb) <;> (try simp only [decide_eq_true_eq, decide_eq_false_iff_not, Bool.true_eq_false, Bool.false_eq_true, reduceCtorEq, Bool.or_eq_true, Bool.or_eq_false_iff, Bool.and_eq_true, Bool.not_eq_true', Bool.not_eq_false', Bool.and_eq_false_iff, Bool.not_true, Bool.not_false] at hb) <;> (try omega)) | (with_reducible refine awp_ret ?_) | (with_reducible refine awp_skip ?_) | (with_reducible refine awp_exit ?_) | (with_reducible refine And.intro ?_ ?_) | (with_reducible intro _) | omega)
  refine awp_loopO [0, 30, 31] (by simp only [osel, og_oc, og_onil, ↓reduceIte, Nat.reduceEqDiff] <;> exact rfl) (fun k : Nat => [(4, .v (.int .i64 (k : Int))), (3, .v (.int .i64 (sumW l k)))]) (fun _ => []) (fun k => k ≤ l.length ∧ (0 < k → l.length ≤ maxLen)) (fun k => l.length - k) 0 ⟨Nat.zero_le _, fun h => by omega⟩ (by (try simp only [go_sem, sumW]); exact Weak.ov [] (by simp (config := { maxSteps := 1000000 }) +contextual (disch := omega) only [go_sem, leO_oc, leO_onil, ↓reduceIte, Nat.reduceEqDiff, Nat.reduceLT, Nat.reduceAdd, le_any', le_refl', Int.natCast_add, Int.cast_ofNat_Int, Int.natCast_one, sumW]) rfl (Nat.zero_le _) (by kernel_rfl) (by kernel_rfl)) ?_
  rintro k ⟨hk1, hk2⟩
  simp only [ol]
  repeat' (first | (with_reducible refine awp_seq fun _ _ => ?_) | (with_reducible refine awp_block ?_) | (with_reducible refine kapp (by assumption) ?_) | (with_reducible refine awp_region ?_) | ((with_reducible first | refine aops_step fun _ _ => ?_ | refine aopsQ_step fun _ _ => ?_); simp (config := { maxSteps := 1000000 }) +contextual (disch := omega) only [go_sem, ↓reduceIte, Nat.reduceAdd, Nat.reduceMul, Nat.reduceLeDiff, Nat.reduceEqDiff, Nat.reduceLT, Nat.reduceSub]) | (with_reducible first | refine aops_nil ?_ | refine kapp2 (by assumption) ?_ | refine aopsQ_nil ?_ | refine kapp3 (by assumption) ?_) | (with_reducible first | refine kQ_n ?_ | refine kQ_e ?_ | refine kQ_r ?_ | refine bQ_n ?_ | refine bQ_r ?_ | refine bQ_e ?_ | refine bQ_x rfl ?_ | refine lQ_e ?_ | refine lQ_r ?_) | (with_reducible refine awp_regionQ (by kernel_rfl) (by kernel_rfl) ?_) | ((with_reducible refine awp_condg ?_); (with_reducible refine awp_cond (by simp only [go_sem, ↓reduceIte, Nat.reduceEqDiff, Nat.reduceLT, and_true]; rfl) ?_ ?_) <;> (with_reducible intro hb) <;> (try simp only [decide_eq_true_eq, decide_eq_false_iff_not, Bool.true_eq_false, Bool.false_eq_true, reduceCtorEq, Bool.or_eq_true, Bool.or_eq_false_iff, Bool.and_eq_true, Bool.not_eq_true', Bool.not_eq_false', Bool.and_eq_false_iff, Bool.not_true, Bool.not_false] at hb) <;> (try omega)) | (with_reducible refine awp_ret ?_) | (with_reducible refine awp_skip ?_) | (with_reducible refine awp_exit ?_) | (with_reducible refine And.intro ?_ ?_) | (with_reducible intro _) | omega)
  · have hmx : l.length ≤ 9223372036854775807 := by have h := ‹l.length ≤ maxLen›; simpa [maxLen] using h
    have hw : IntKind.i64.wrap ((k : Int) + 1) = ((k + 1 : Nat) : Int) := by rw [w64 (by omega)]; rfl
    refine loop_next (k + 1) ?_ ?_ (by (try simp only [go_sem, sumW, hw]); exact Weak.ov _ (by simp (config := { maxSteps := 1000000 }) +contextual (disch := omega) only [go_sem, leO_oc, leO_onil, ↓reduceIte, Nat.reduceEqDiff, Nat.reduceLT, Nat.reduceAdd, le_any', le_refl', Int.natCast_add, Int.cast_ofNat_Int, Int.natCast_one, sumW, hw]) rfl (Nat.zero_le _) (by kernel_rfl) (by kernel_rfl))
    · exact ⟨by omega, fun _ => by assumption⟩
    · omega
  · have hk : k = l.length := by omega
    exact ret_fun (by simp only [go_sem, resAV, resL, resO, oneOf, loadO, ↓reduceIte, Nat.reduceEqDiff, Nat.reduceLT, Nat.reduceAdd, Nat.reduceLeDiff] <;> exact rfl) _ (le_v (by subst hk; simp only [fewB]; rw [show decide ((l.length : Int) ≤ 40) = decide (l.length ≤ 40) from by rw [decide_eq_decide]; omega]))  rfl rfl rfl
end Go.Proofs.Ytickejlolpoboaa.AM
