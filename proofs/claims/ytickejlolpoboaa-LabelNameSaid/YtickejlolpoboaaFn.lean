/- LabelName: names are letter by letter. -/
import Derived.Test.YtickejlolpoboaaFe
set_option linter.all false
namespace Go.Proofs.Ytickejlolpoboaa.AM
open Go Go.Proofs

def paB (s : ByteArray) (i : Nat) : ByteArray := ⟨#[97]⟩ ++ s.extract i (i + 1)
def letB (s : ByteArray) (i : Nat) : Bool := letterI (s.get! i).toNat || digitI (s.get! i).toNat
theorem ext_size (s : ByteArray) {i : Nat} (h : i < s.size) : (s.extract i (i + 1)).size = 1 := by
  rw [ByteArray.size_extract]; omega
theorem paB_size {s : ByteArray} {i : Nat} (h : i < s.size) : (paB s i).size = 2 := by
  rw [paB, ByteArray.size_append, ext_size s h]; rfl
theorem get!_of {s : ByteArray} {i : Nat} (h : i < s.size) : s.get! i = s[i] := AM.get!_eq s i h
theorem paB_0 {s : ByteArray} {i : Nat} (h : i < s.size) : (paB s i).get! 0 = 97 := by
  have hs := paB_size h
  rw [get!_of (by omega)]
  simp only [paB]
  rw [ByteArray.getElem_append_left (by decide)]; rfl
theorem paB_1 {s : ByteArray} {i : Nat} (h : i < s.size) : (paB s i).get! 1 = s.get! i := by
  have hs := paB_size h
  rw [get!_of (by omega), get!_of h]
  simp only [paB]
  rw [ByteArray.getElem_append_right (by decide)]
  have e : (1 : Nat) - (ByteArray.mk #[97]).size = 0 := rfl
  simp only [e, ByteArray.getElem_extract, Nat.add_zero]
theorem nameB_paB {s : ByteArray} {i : Nat} (h : i < s.size) : nameB (paB s i) = letB s i := by
  simp only [nameB, paB_size h]
  rw [show List.range 2 = [0, 1] from rfl]
  simp only [List.all_cons, List.all_nil, okAt, paB_0 h, paB_1 h, letB]
  simp [letterI]
theorem nameB_first {s : ByteArray} (h : 1 ≤ s.size) : nameB (s.extract 0 1) = letterI (s.get! 0).toNat := by
  have hs : (s.extract 0 1).size = 1 := by rw [ByteArray.size_extract]; omega
  simp only [nameB, hs]
  rw [show List.range 1 = [0] from rfl]
  have e : (s.extract 0 1).get! 0 = s.get! 0 := by
    rw [get!_of (by omega), get!_of (by omega), ByteArray.getElem_extract]
  simp only [List.all_cons, List.all_nil, okAt, e]
  simp
def goodB (s : ByteArray) (k : Nat) : Bool := (!decide (s = { data := #[] }) && decide ((s.size : Int) ≤ 64)) && (List.range k).all fun i => nameB (paB s i)
theorem goodB_succ (s : ByteArray) (k : Nat) : goodB s (k + 1) = (goodB s k && nameB (paB s k)) := by
  simp only [goodB, List.range_succ, List.all_append, List.all_cons, List.all_nil, Bool.and_true, Bool.and_assoc]
theorem size_empty {s : ByteArray} : s = { data := #[] } ↔ s.size = 0 := by
  constructor
  · rintro rfl; rfl
  · intro h
    cases s with | mk d => 
      have : d = #[] := Array.eq_empty_of_size_eq_zero h
      rw [this]
theorem nameB_iff {s : ByteArray} : nameB s = true ↔ (1 ≤ s.size ∧ s.size ≤ 64) ∧ ∀ i, i < s.size → okAt s i = true := by
  simp only [nameB, Bool.and_eq_true, decide_eq_true_eq, List.all_eq_true, List.mem_range]
theorem nameB_good_iff (s : ByteArray) : nameB s = (goodB s s.size && nameB (s.extract 0 1)) := by
  rw [Bool.eq_iff_iff, Bool.and_eq_true, nameB_iff]
  simp only [goodB, Bool.and_eq_true, decide_eq_true_eq, List.all_eq_true, List.mem_range, Bool.not_eq_true', decide_eq_false_iff_not, size_empty]
  constructor
  · rintro ⟨⟨h1, h2⟩, h3⟩
    refine ⟨⟨⟨by omega, by omega⟩, fun i hi => ?_⟩, ?_⟩
    · rw [nameB_paB hi, letB]
      have := h3 i hi
      simp only [okAt, Bool.or_eq_true, Bool.and_eq_true] at this ⊢
      rcases this with h | h
      · exact .inl h
      · exact .inr h.1
    · rw [nameB_first h1]
      have h0 := h3 0 (by omega)
      simp only [okAt] at h0
      simpa using h0
  · rintro ⟨⟨⟨h1, h2⟩, h3⟩, h4⟩
    refine ⟨⟨by omega, by omega⟩, fun i hi => ?_⟩
    have hf := nameB_first (s := s) (by omega)
    rw [h4] at hf
    have := h3 i hi
    rw [nameB_paB hi, letB] at this
    simp only [okAt, Bool.or_eq_true, Bool.and_eq_true] at this ⊢
    by_cases hz : i = 0
    · subst hz; exact .inl hf.symm
    · rcases this with h | h
      · exact .inl h
      · exact .inr ⟨h, by simpa using hz⟩

theorem en_labelName_any : enters Try.prog 7 = true := by kernel_rfl
set_option maxRecDepth 20000 in
set_option maxHeartbeats 4000000 in
theorem labelName_any (s : ByteArray) : Fun Try.prog 7 [.v (.string s)] (.v (.bool true)) [] := by
  refine Fun.of_awpO Try.func7 rfl (Nat.le_of_ble_eq_true (by kernel_rfl)) ?_
  simp only [Try.ntmps7, Try.results7, argsO, Nat.reduceAdd]
  repeat' (first | (with_reducible refine awp_seq fun _ _ => ?_) | (with_reducible refine awp_block ?_) | (with_reducible refine kapp (by assumption) ?_) | (with_reducible refine awp_region ?_) | ((with_reducible first | refine aops_step fun _ _ => ?_ | refine aopsQ_step fun _ _ => ?_); simp (config := { maxSteps := 1000000 }) +contextual (disch := omega) only [go_sem, ↓reduceIte, Nat.reduceAdd, Nat.reduceMul, Nat.reduceLeDiff, Nat.reduceEqDiff, Nat.reduceLT, Nat.reduceSub, Int.cast_ofNat_Int]) | (with_reducible first | refine aops_nil ?_ | refine kapp2 (by assumption) ?_ | refine aopsQ_nil ?_ | refine kapp3 (by assumption) ?_) | (with_reducible first | refine kQ_n ?_ | refine kQ_e ?_ | refine kQ_r ?_ | refine bQ_n ?_ | refine bQ_r ?_ | refine bQ_e ?_ | refine bQ_x rfl ?_ | refine lQ_e ?_ | refine lQ_r ?_) | (with_reducible refine awp_regionQ (by kernel_rfl) (by kernel_rfl) ?_) | ((with_reducible refine awp_condg ?_); (with_reducible refine awp_cond (by simp only [go_sem, ↓reduceIte, Nat.reduceEqDiff, Nat.reduceLT, Int.cast_ofNat_Int]; rfl) ?_ ?_) <;> (with_reducible intro hb) <;> (try simp only [decide_eq_true_eq, decide_eq_false_iff_not, Bool.true_eq_false, Bool.false_eq_true, reduceCtorEq, Bool.or_eq_true, Bool.or_eq_false_iff, Bool.and_eq_true, Bool.not_eq_true', Bool.not_eq_false', Bool.and_eq_false_iff, Bool.not_true, Bool.not_false] at hb) <;> (try omega)) | (with_reducible refine awp_ret ?_) | (with_reducible refine awp_skip ?_) | (with_reducible refine awp_exit ?_) | ((with_reducible refine callg ?_); (first | (with_reducible refine call_at en_awake_any (by (repeat' (first | with_reducible exact sl_nil | with_reducible refine sl_cons ?_ ?_ | with_reducible exact st_v _ | with_reducible exact st_sl _ _ | with_reducible exact st_nil | with_reducible exact st_any _ | with_reducible exact st_ptr _ _ | with_reducible exact st_fn _ _ _ | with_reducible refine st_agg ?_ | with_reducible exact sm_nil | with_reducible refine sm_cons ?_ ?_ | with_reducible exact su_v _ | with_reducible exact su_sl _ _ | with_reducible exact su_nil | with_reducible exact su_any _))) (awake_any ) rfl ?_) | (with_reducible refine call_at en_name_any (by (repeat' (first | with_reducible exact sl_nil | with_reducible refine sl_cons ?_ ?_ | with_reducible exact st_v _ | with_reducible exact st_sl _ _ | with_reducible exact st_nil | with_reducible exact st_any _ | with_reducible exact st_ptr _ _ | with_reducible exact st_fn _ _ _ | with_reducible refine st_agg ?_ | with_reducible exact sm_nil | with_reducible refine sm_cons ?_ ?_ | with_reducible exact su_v _ | with_reducible exact su_sl _ _ | with_reducible exact su_nil | with_reducible exact su_any _))) (name_any _) rfl ?_)); try simp (config := { maxSteps := 1000000 }) +contextual (disch := omega) only [go_sem, ↓reduceIte, Nat.reduceAdd, Nat.reduceMul, Nat.reduceLeDiff, Nat.reduceEqDiff, Nat.reduceLT, Nat.reduceSub, Int.cast_ofNat_Int]) | (with_reducible refine And.intro ?_ ?_) | (with_reducible intro _) | omega)
  · exact ret_fun (by simp only [go_sem, resAV, resL, resO, oneOf, loadO, ↓reduceIte, Nat.reduceEqDiff, Nat.reduceLT, Nat.reduceAdd, Nat.reduceLeDiff] <;> exact rfl) _ (AV.le_refl _) rfl rfl rfl
  have hlen : s.size ≤ 200 := by omega
  refine awp_loopO [0, 3, 40, 41, 42, 43] (by simp only [osel, og_oc, og_onil, ↓reduceIte, Nat.reduceEqDiff] <;> exact rfl) (fun k : Nat => [(5, .v (.int .i64 (k : Int))), (4, .v (.bool (goodB s k)))]) (fun _ => []) (fun k => k ≤ s.size) (fun k => s.size - k) 0 (Nat.zero_le _) (by (try simp only [go_sem, goodB, List.range_zero, List.all_nil]); exact Weak.ov [] (by simp (config := { maxSteps := 1000000 }) +contextual (disch := omega) only [go_sem, leO_oc, leO_onil, ↓reduceIte, Nat.reduceEqDiff, Nat.reduceLT, Nat.reduceAdd, le_any', le_refl', Int.natCast_add, Int.cast_ofNat_Int, Int.natCast_one, goodB, List.range_zero, List.all_nil]) rfl (Nat.zero_le _) (by kernel_rfl) (by kernel_rfl)) ?_
  rintro k hk
  simp only [ol]
  rcases Nat.lt_or_ge k s.size with hlt | hge
  · have hs := goodB_succ s k
    have hw : IntKind.i64.wrap ((k : Int) + 1) = ((k + 1 : Nat) : Int) := by rw [w64 (by omega)]; rfl
    rcases hg : goodB s k with _ | _
    · rw [hg] at hs
      repeat' (first | (with_reducible refine awp_seq fun _ _ => ?_) | (with_reducible refine awp_block ?_) | (with_reducible refine kapp (by assumption) ?_) | (with_reducible refine awp_region ?_) | ((with_reducible first | refine aops_step fun _ _ => ?_ | refine aopsQ_step fun _ _ => ?_); simp (config := { maxSteps := 1000000 }) +contextual (disch := omega) only [go_sem, ↓reduceIte, Nat.reduceAdd, Nat.reduceMul, Nat.reduceLeDiff, Nat.reduceEqDiff, Nat.reduceLT, Nat.reduceSub, hg, hw]) | (with_reducible first | refine aops_nil ?_ | refine kapp2 (by assumption) ?_ | refine aopsQ_nil ?_ | refine kapp3 (by assumption) ?_) | (with_reducible first | refine kQ_n ?_ | refine kQ_e ?_ | refine kQ_r ?_ | refine bQ_n ?_ | refine bQ_r ?_ | refine bQ_e ?_ | refine bQ_x rfl ?_ | refine lQ_e ?_ | refine lQ_r ?_) | (with_reducible refine awp_regionQ (by kernel_rfl) (by kernel_rfl) ?_) | ((with_reducible refine awp_condg ?_); (with_reducible refine awp_cond (by simp only [go_sem, ↓reduceIte, Nat.reduceEqDiff, Nat.reduceLT, hg, hw]; rfl) ?_ ?_) <;> (with_reducible intro hb) <;> (try simp only [decide_eq_true_eq, decide_eq_false_iff_not, Bool.true_eq_false, Bool.false_eq_true, reduceCtorEq, Bool.or_eq_true, Bool.or_eq_false_iff, Bool.and_eq_true, Bool.not_eq_true', Bool.not_eq_false', Bool.and_eq_false_iff, Bool.not_true, Bool.not_false] at hb) <;> (try omega)) | (with_reducible refine awp_ret ?_) | (with_reducible refine awp_skip ?_) | (with_reducible refine awp_exit ?_) | ((with_reducible refine callg ?_); (first | (with_reducible refine call_at en_awake_any (by (repeat' (first | with_reducible exact sl_nil | with_reducible refine sl_cons ?_ ?_ | with_reducible exact st_v _ | with_reducible exact st_sl _ _ | with_reducible exact st_nil | with_reducible exact st_any _ | with_reducible exact st_ptr _ _ | with_reducible exact st_fn _ _ _ | with_reducible refine st_agg ?_ | with_reducible exact sm_nil | with_reducible refine sm_cons ?_ ?_ | with_reducible exact su_v _ | with_reducible exact su_sl _ _ | with_reducible exact su_nil | with_reducible exact su_any _))) (awake_any ) rfl ?_) | (with_reducible refine call_at en_name_any (by (repeat' (first | with_reducible exact sl_nil | with_reducible refine sl_cons ?_ ?_ | with_reducible exact st_v _ | with_reducible exact st_sl _ _ | with_reducible exact st_nil | with_reducible exact st_any _ | with_reducible exact st_ptr _ _ | with_reducible exact st_fn _ _ _ | with_reducible refine st_agg ?_ | with_reducible exact sm_nil | with_reducible refine sm_cons ?_ ?_ | with_reducible exact su_v _ | with_reducible exact su_sl _ _ | with_reducible exact su_nil | with_reducible exact su_any _))) (name_any _) rfl ?_)); try simp (config := { maxSteps := 1000000 }) +contextual (disch := omega) only [go_sem, ↓reduceIte, Nat.reduceAdd, Nat.reduceMul, Nat.reduceLeDiff, Nat.reduceEqDiff, Nat.reduceLT, Nat.reduceSub, hg, hw]) | (with_reducible refine And.intro ?_ ?_) | (with_reducible intro _) | omega)
      refine loop_next (k + 1) ?_ ?_ (by (try simp only [go_sem, hs, Bool.false_and]); exact Weak.ov _ (by simp (config := { maxSteps := 1000000 }) +contextual (disch := omega) only [go_sem, leO_oc, leO_onil, ↓reduceIte, Nat.reduceEqDiff, Nat.reduceLT, Nat.reduceAdd, le_any', le_refl', Int.natCast_add, Int.cast_ofNat_Int, Int.natCast_one, hs, Bool.false_and]) rfl (Nat.zero_le _) (by kernel_rfl) (by kernel_rfl))
      · omega
      · omega
    · rw [hg] at hs
      have hx := ext_size s hlt
      have hp : ({ data := #[97] } : ByteArray) ++ s.extract k (k + 1) = paB s k := rfl
      have h1 : (#[97] : Array UInt8).size = 1 := rfl
      have h2 : ({ data := #[97] } : ByteArray).size = 1 := rfl
      repeat' (first | (with_reducible refine awp_seq fun _ _ => ?_) | (with_reducible refine awp_block ?_) | (with_reducible refine kapp (by assumption) ?_) | (with_reducible refine awp_region ?_) | ((with_reducible first | refine aops_step fun _ _ => ?_ | refine aopsQ_step fun _ _ => ?_); simp (config := { maxSteps := 1000000 }) +contextual (disch := omega) only [go_sem, ↓reduceIte, Nat.reduceAdd, Nat.reduceMul, Nat.reduceLeDiff, Nat.reduceEqDiff, Nat.reduceLT, Nat.reduceSub, hg, hw, hx, hp, h1, h2]) | (with_reducible first | refine aops_nil ?_ | refine kapp2 (by assumption) ?_ | refine aopsQ_nil ?_ | refine kapp3 (by assumption) ?_) | (with_reducible first | refine kQ_n ?_ | refine kQ_e ?_ | refine kQ_r ?_ | refine bQ_n ?_ | refine bQ_r ?_ | refine bQ_e ?_ | refine bQ_x rfl ?_ | refine lQ_e ?_ | refine lQ_r ?_) | (with_reducible refine awp_regionQ (by kernel_rfl) (by kernel_rfl) ?_) | ((with_reducible refine awp_condg ?_); (with_reducible refine awp_cond (by simp only [go_sem, ↓reduceIte, Nat.reduceEqDiff, Nat.reduceLT, hg, hw, hx, hp, h1, h2]; rfl) ?_ ?_) <;> (with_reducible intro hb) <;> (try simp only [decide_eq_true_eq, decide_eq_false_iff_not, Bool.true_eq_false, Bool.false_eq_true, reduceCtorEq, Bool.or_eq_true, Bool.or_eq_false_iff, Bool.and_eq_true, Bool.not_eq_true', Bool.not_eq_false', Bool.and_eq_false_iff, Bool.not_true, Bool.not_false] at hb) <;> (try omega)) | (with_reducible refine awp_ret ?_) | (with_reducible refine awp_skip ?_) | (with_reducible refine awp_exit ?_) | ((with_reducible refine callg ?_); (first | (with_reducible refine call_at en_awake_any (by (repeat' (first | with_reducible exact sl_nil | with_reducible refine sl_cons ?_ ?_ | with_reducible exact st_v _ | with_reducible exact st_sl _ _ | with_reducible exact st_nil | with_reducible exact st_any _ | with_reducible exact st_ptr _ _ | with_reducible exact st_fn _ _ _ | with_reducible refine st_agg ?_ | with_reducible exact sm_nil | with_reducible refine sm_cons ?_ ?_ | with_reducible exact su_v _ | with_reducible exact su_sl _ _ | with_reducible exact su_nil | with_reducible exact su_any _))) (awake_any ) rfl ?_) | (with_reducible refine call_at en_name_any (by (repeat' (first | with_reducible exact sl_nil | with_reducible refine sl_cons ?_ ?_ | with_reducible exact st_v _ | with_reducible exact st_sl _ _ | with_reducible exact st_nil | with_reducible exact st_any _ | with_reducible exact st_ptr _ _ | with_reducible exact st_fn _ _ _ | with_reducible refine st_agg ?_ | with_reducible exact sm_nil | with_reducible refine sm_cons ?_ ?_ | with_reducible exact su_v _ | with_reducible exact su_sl _ _ | with_reducible exact su_nil | with_reducible exact su_any _))) (name_any _) rfl ?_)); try simp (config := { maxSteps := 1000000 }) +contextual (disch := omega) only [go_sem, ↓reduceIte, Nat.reduceAdd, Nat.reduceMul, Nat.reduceLeDiff, Nat.reduceEqDiff, Nat.reduceLT, Nat.reduceSub, hg, hw, hx, hp, h1, h2]) | (with_reducible refine And.intro ?_ ?_) | (with_reducible intro _) | omega)
      refine loop_next (k + 1) ?_ ?_ (by (try simp only [go_sem, hs, Bool.true_and]); exact Weak.ov _ (by simp (config := { maxSteps := 1000000 }) +contextual (disch := omega) only [go_sem, leO_oc, leO_onil, ↓reduceIte, Nat.reduceEqDiff, Nat.reduceLT, Nat.reduceAdd, le_any', le_refl', Int.natCast_add, Int.cast_ofNat_Int, Int.natCast_one, hs, Bool.true_and]) rfl (Nat.zero_le _) (by kernel_rfl) (by kernel_rfl))
      · omega
      · omega
  · have hk' : k = s.size := by omega
    subst hk'
    have hn := nameB_good_iff s
    rcases hg : goodB s s.size with _ | _
    · rw [hg, Bool.false_and] at hn
      repeat' (first | (with_reducible refine awp_seq fun _ _ => ?_) | (with_reducible refine awp_block ?_) | (with_reducible refine kapp (by assumption) ?_) | (with_reducible refine awp_region ?_) | ((with_reducible first | refine aops_step fun _ _ => ?_ | refine aopsQ_step fun _ _ => ?_); simp (config := { maxSteps := 1000000 }) +contextual (disch := omega) only [go_sem, ↓reduceIte, Nat.reduceAdd, Nat.reduceMul, Nat.reduceLeDiff, Nat.reduceEqDiff, Nat.reduceLT, Nat.reduceSub, hg, hn]) | (with_reducible first | refine aops_nil ?_ | refine kapp2 (by assumption) ?_ | refine aopsQ_nil ?_ | refine kapp3 (by assumption) ?_) | (with_reducible first | refine kQ_n ?_ | refine kQ_e ?_ | refine kQ_r ?_ | refine bQ_n ?_ | refine bQ_r ?_ | refine bQ_e ?_ | refine bQ_x rfl ?_ | refine lQ_e ?_ | refine lQ_r ?_) | (with_reducible refine awp_regionQ (by kernel_rfl) (by kernel_rfl) ?_) | ((with_reducible refine awp_condg ?_); (with_reducible refine awp_cond (by simp only [go_sem, ↓reduceIte, Nat.reduceEqDiff, Nat.reduceLT, hg, hn]; rfl) ?_ ?_) <;> (with_reducible intro hb) <;> (try simp only [decide_eq_true_eq, decide_eq_false_iff_not, Bool.true_eq_false, Bool.false_eq_true, reduceCtorEq, Bool.or_eq_true, Bool.or_eq_false_iff, Bool.and_eq_true, Bool.not_eq_true', Bool.not_eq_false', Bool.and_eq_false_iff, Bool.not_true, Bool.not_false] at hb) <;> (try omega)) | (with_reducible refine awp_ret ?_) | (with_reducible refine awp_skip ?_) | (with_reducible refine awp_exit ?_) | ((with_reducible refine callg ?_); (first | (with_reducible refine call_at en_awake_any (by (repeat' (first | with_reducible exact sl_nil | with_reducible refine sl_cons ?_ ?_ | with_reducible exact st_v _ | with_reducible exact st_sl _ _ | with_reducible exact st_nil | with_reducible exact st_any _ | with_reducible exact st_ptr _ _ | with_reducible exact st_fn _ _ _ | with_reducible refine st_agg ?_ | with_reducible exact sm_nil | with_reducible refine sm_cons ?_ ?_ | with_reducible exact su_v _ | with_reducible exact su_sl _ _ | with_reducible exact su_nil | with_reducible exact su_any _))) (awake_any ) rfl ?_) | (with_reducible refine call_at en_name_any (by (repeat' (first | with_reducible exact sl_nil | with_reducible refine sl_cons ?_ ?_ | with_reducible exact st_v _ | with_reducible exact st_sl _ _ | with_reducible exact st_nil | with_reducible exact st_any _ | with_reducible exact st_ptr _ _ | with_reducible exact st_fn _ _ _ | with_reducible refine st_agg ?_ | with_reducible exact sm_nil | with_reducible refine sm_cons ?_ ?_ | with_reducible exact su_v _ | with_reducible exact su_sl _ _ | with_reducible exact su_nil | with_reducible exact su_any _))) (name_any _) rfl ?_)); try simp (config := { maxSteps := 1000000 }) +contextual (disch := omega) only [go_sem, ↓reduceIte, Nat.reduceAdd, Nat.reduceMul, Nat.reduceLeDiff, Nat.reduceEqDiff, Nat.reduceLT, Nat.reduceSub, hg, hn]) | (with_reducible refine And.intro ?_ ?_) | (with_reducible intro _) | omega)
      exact ret_fun (by simp only [go_sem, resAV, resL, resO, oneOf, loadO, ↓reduceIte, Nat.reduceEqDiff, Nat.reduceLT, Nat.reduceAdd, Nat.reduceLeDiff] <;> exact rfl) _ (AV.le_refl _) rfl rfl rfl
    · rw [hg, Bool.true_and] at hn
      have hz : 1 ≤ s.size := by
        have h0 := hg
        simp only [goodB, Bool.and_eq_true, Bool.not_eq_true', decide_eq_false_iff_not, size_empty] at h0
        omega
      repeat' (first | (with_reducible refine awp_seq fun _ _ => ?_) | (with_reducible refine awp_block ?_) | (with_reducible refine kapp (by assumption) ?_) | (with_reducible refine awp_region ?_) | ((with_reducible first | refine aops_step fun _ _ => ?_ | refine aopsQ_step fun _ _ => ?_); simp (config := { maxSteps := 1000000 }) +contextual (disch := omega) only [go_sem, ↓reduceIte, Nat.reduceAdd, Nat.reduceMul, Nat.reduceLeDiff, Nat.reduceEqDiff, Nat.reduceLT, Nat.reduceSub, hg, hn, Int.toNat_one, Int.toNat_zero]) | (with_reducible first | refine aops_nil ?_ | refine kapp2 (by assumption) ?_ | refine aopsQ_nil ?_ | refine kapp3 (by assumption) ?_) | (with_reducible first | refine kQ_n ?_ | refine kQ_e ?_ | refine kQ_r ?_ | refine bQ_n ?_ | refine bQ_r ?_ | refine bQ_e ?_ | refine bQ_x rfl ?_ | refine lQ_e ?_ | refine lQ_r ?_) | (with_reducible refine awp_regionQ (by kernel_rfl) (by kernel_rfl) ?_) | ((with_reducible refine awp_condg ?_); (with_reducible refine awp_cond (by simp only [go_sem, ↓reduceIte, Nat.reduceEqDiff, Nat.reduceLT, hg, hn, Int.toNat_one, Int.toNat_zero]; rfl) ?_ ?_) <;> (with_reducible intro hb) <;> (try simp only [decide_eq_true_eq, decide_eq_false_iff_not, Bool.true_eq_false, Bool.false_eq_true, reduceCtorEq, Bool.or_eq_true, Bool.or_eq_false_iff, Bool.and_eq_true, Bool.not_eq_true', Bool.not_eq_false', Bool.and_eq_false_iff, Bool.not_true, Bool.not_false] at hb) <;> (try omega)) | (with_reducible refine awp_ret ?_) | (with_reducible refine awp_skip ?_) | (with_reducible refine awp_exit ?_) | ((with_reducible refine callg ?_); (first | (with_reducible refine call_at en_awake_any (by (repeat' (first | with_reducible exact sl_nil | with_reducible refine sl_cons ?_ ?_ | with_reducible exact st_v _ | with_reducible exact st_sl _ _ | with_reducible exact st_nil | with_reducible exact st_any _ | with_reducible exact st_ptr _ _ | with_reducible exact st_fn _ _ _ | with_reducible refine st_agg ?_ | with_reducible exact sm_nil | with_reducible refine sm_cons ?_ ?_ | with_reducible exact su_v _ | with_reducible exact su_sl _ _ | with_reducible exact su_nil | with_reducible exact su_any _))) (awake_any ) rfl ?_) | (with_reducible refine call_at en_name_any (by (repeat' (first | with_reducible exact sl_nil | with_reducible refine sl_cons ?_ ?_ | with_reducible exact st_v _ | with_reducible exact st_sl _ _ | with_reducible exact st_nil | with_reducible exact st_any _ | with_reducible exact st_ptr _ _ | with_reducible exact st_fn _ _ _ | with_reducible refine st_agg ?_ | with_reducible exact sm_nil | with_reducible refine sm_cons ?_ ?_ | with_reducible exact su_v _ | with_reducible exact su_sl _ _ | with_reducible exact su_nil | with_reducible exact su_any _))) (name_any _) rfl ?_)); try simp (config := { maxSteps := 1000000 }) +contextual (disch := omega) only [go_sem, ↓reduceIte, Nat.reduceAdd, Nat.reduceMul, Nat.reduceLeDiff, Nat.reduceEqDiff, Nat.reduceLT, Nat.reduceSub, hg, hn, Int.toNat_one, Int.toNat_zero]) | (with_reducible refine And.intro ?_ ?_) | (with_reducible intro _) | omega)
      exact ret_fun (by simp only [go_sem, resAV, resL, resO, oneOf, loadO, ↓reduceIte, Nat.reduceEqDiff, Nat.reduceLT, Nat.reduceAdd, Nat.reduceLeDiff] <;> exact rfl) _ (le_v (by simp [])) rfl rfl rfl
end Go.Proofs.Ytickejlolpoboaa.AM
