/- What the rows' arguments are. -/
import Derived.Test.YtickejlolpoboaaFd
import Derived.Test.YtickejlolpoboaaAm25
import Derived.WalkKit
import Derived.JoinedOf
import Derived.Test.YtickejlolpoboaaRows
set_option linter.all false
namespace Go.Proofs.Ytickejlolpoboaa.AM
open Go Go.Proofs

theorem rowOwn : ownKnob Try.prog.godebug = none := by kernel_rfl
theorem rowLaid : laidOutB Try.prog = true := by kernel_rfl
theorem open_pair {n : Nat} {r : List D} (h : shD Try.prog (n + 2) 29 r) : ∃ p : Pr, r = encP p := by
  obtain ⟨a, b, rfl, ha, c, d, rfl, hc, rfl⟩ := shD_st (ti_spec ti29).1 h
  obtain ⟨s, rfl, _⟩ := shD_str (ti_spec ti9).1 ha
  obtain ⟨s2, rfl, _⟩ := shD_str (ti_spec ti9).1 hc
  exact ⟨(s, s2), rfl⟩
theorem open_pairs {n : Nat} {ds : List D} (h : shD Try.prog (n + 3) 22 ds) : ∃ l : List Pr, argAV Try.prog 22 ds = .sl (encPs l) .none := by
  obtain ⟨rows, rfl, _, hr⟩ := shD_sl (ti_spec ti22).1 h
  obtain ⟨l, rfl⟩ := rows_enc (fun r hr => open_pair hr) hr
  exact ⟨l, by simp [argAV, (ti_spec ti22).1, AV.ofD, encPs]⟩
theorem open_str {n : Nat} {ds : List D} (h : shD Try.prog (n + 1) 9 ds) : ∃ s : ByteArray, argAV Try.prog 9 ds = .v (.string s) ∧ s.size ≤ maxLen := by
  obtain ⟨s, rfl, hs⟩ := shD_str (ti_spec ti9).1 h
  exact ⟨s, by simp [argAV, (ti_spec ti9).1, AV.ofD], hs⟩
theorem open_int {n : Nat} {ds : List D} (h : shD Try.prog (n + 1) 3 ds) : ∃ i : Int, argAV Try.prog 3 ds = .v (.int .i64 i) ∧ IntKind.i64.min ≤ i ∧ i ≤ IntKind.i64.max := by
  obtain ⟨i, rfl, hs⟩ := shD_int (ti_spec ti3).1 h
  exact ⟨i, by simp [argAV, (ti_spec ti3).1, AV.ofD], hs⟩
end Go.Proofs.Ytickejlolpoboaa.AM
