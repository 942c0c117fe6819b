/- A part of the proof: Zl. -/
import Derived.Test.YtoekflobllmeeaaGreatDoorP1
import Derived.Test.YtoekflobllmeeaaGreatDoorOk
set_option linter.all false
/- The laws of saves, but for the document's answer. -/
namespace Go.Proofs.YtoekflobllmeeaaGreatDoor.AM
open Go

theorem bAnd_range (a : Int) : 0 ≤ bAnd .i64 a 65535 ∧ bAnd .i64 a 65535 ≤ 65535 := by
  unfold bAnd
  have hb : IntKind.i64.bits = 64 := rfl
  rw [hb]
  have e2 : (BitVec.ofInt 64 (65535 : Int)).toNat = 65535 := by decide
  have : (BitVec.ofInt 64 a &&& BitVec.ofInt 64 65535).toNat ≤ 65535 := by
    rw [BitVec.toNat_and, e2]; exact Nat.and_le_right
  rw [show IntKind.i64.wrap (((BitVec.ofInt 64 a &&& BitVec.ofInt 64 65535).toNat : Nat) : Int) = _ from wI_of (by omega)]
  omega
theorem encD_len {l : List GSaved} (h : svB l = true) : (encD l).length ≤ 10000000 := by
  have hs := svB_iff.1 h
  have h256 := hs.len
  have := encN_len (enc := encS) (m := 36000) (l := l) (fun s hs' => encS_len (SvGood.of (hs.each s hs')))
  have := putU_len9 (n := l.length) (by omega)
  unfold encD
  rw [List.length_append]; omega
theorem encD_pos (l : List GSaved) : 0 < (encD l).length := by
  have := List.length_pos_iff.2 (putU_ne l.length)
  unfold encD
  rw [List.length_append]; omega
theorem inner_loop {β : Type} {ph : Int → List (Nat × AV)} {ob : Int → List Obj} {step : Int → Option (Int ⊕ (Int ⊕ β))} (A : List GAlert) (bad : GAlert → Bool) (i : Nat) (r : β)
    (h1 : ∀ k, k < A.length → step (k : Int) = if bad (nth A k) then some (.inr (.inr r)) else some (.inl ((k + 1 : Nat) : Int))) (h2 : step (A.length : Int) = some (.inr (.inl ((i + 1 : Nat) : Int)))) :
    loopM ph ob step 0 = some (if A.any bad then .inr r else .inl ((i + 1 : Nat) : Int)) := by
  refine (loopM_nat A.length (fun k => if (A.drop k).any bad then (.inr r : Int ⊕ β) else .inl ((i + 1 : Nat) : Int)) ?_ ?_).trans (by simp)
  · intro k hk
    rw [h1 k hk, drop_nth hk, List.any_cons]
    cases bad (nth A k)
    · right; exact ⟨by simp, by simp⟩
    · left; simp
  · rw [h2]; simp
def big59 (a : GAlert) : Bool := decide (576460752303423488 < a.V) || decide (a.V < -576460752303423488)
theorem big59_iff {a : GAlert} : big59 a = false ↔ okI59 a.V := by
  unfold big59 okI59
  simp only [Bool.or_eq_false_iff, decide_eq_false_iff_not]; omega
theorem Bd.of {l : List GSaved} (h : okL okGSaved l) : Bd l := by
  have e : maxLen = BIG := rfl
  exact ⟨h.1, fun s hs => (h.2 s hs).2.1.1, fun s hs a ha => ((h.2 s hs).2.1.2 a ha).1.1⟩
theorem law20_SnapBack_eq (l : List GSaved) (cut more : Int) (b0 : okL okGSaved l) (b1 : okI .i64 cut) (b2 : okI .u8 more) : law20_SnapBack l cut more = some true := by
  have hb := Bd.of b0
  have hlen := hb.len
  unfold BIG at hlen
  have hmore : 0 ≤ more ∧ more < 256 := by
    obtain ⟨h1, h2⟩ := b2
    have e1 : IntKind.u8.min = 0 := rfl
    have e2 : IntKind.u8.max = 255 := rfl
    rw [e1] at h1; rw [e2] at h2; omega
  unfold law20_SnapBack
  rw [awake_eq, callM_some, ref20_Few_eq hb, callM_some]
  simp only [letE_eq, iteM_not, retM_eq, snap_Put_eq, snap_Sane_eq, callM_some]
  cases fewD l
  · rfl
  rw [iteM_true]
  cases hs : svB l
  · simp
  rw [iteM_true, if_pos rfl]
  refine (loopM_natJ l.length (fun i => ∀ s ∈ l.take i, ∀ a ∈ s.X.A, okI59 a.V) (fun _ => true) ?_ ?_ (by simp)).trans rfl
  · intro i hi hJ
    have hA := hb.tab _ (nth_mem hi)
    unfold BIG at hA
    rw [iteM_dec, if_pos (by omega)]
    rw [inner_loop (nth l i).X.A big59 i true ?_ ?_]
    · cases hany : (nth l i).X.A.any big59
      · right
        refine ⟨rfl, fun s hs' a ha => ?_, rfl⟩
        rw [take_nth hi, List.mem_append, List.mem_singleton] at hs'
        rcases hs' with h | rfl
        · exact hJ s h a ha
        · rw [← big59_iff]
          have := List.any_eq_false.1 hany a ha
          simpa using this
      · left; rfl
    · intro k hk
      simp only [idxM_get (nth_get hi), iteM_dec, idxM_get (nth_get hk), exitM_some, nextM_eq, bif_or]
      rw [if_pos (by omega)]
      show iteM (big59 (nth (nth l i).X.A k)) _ _ = _
      cases big59 (nth (nth l i).X.A k)
      · rw [iteM_false, wI_of (by omega)]; rfl
      · rfl
    · simp only [idxM_get (nth_get hi), iteM_dec, exitM_some, nextM_eq]
      rw [if_neg (by omega), wI_of (by omega)]; rfl
  · intro hJ
    have hv : small l := fun s hs' a ha => hJ s (by rw [List.take_length]; exact hs') a ha
    have hpos := encD_pos l
    have hle := encD_len hs
    rw [iteM_dec, if_neg (by omega)]
    obtain ⟨hr1, hr2⟩ := bAnd_range cut
    have hm : Int.tmod (bAnd .i64 cut 65535) ((encD l).length : Int) = bAnd .i64 cut 65535 % ((encD l).length : Int) := Int.tmod_eq_emod_of_nonneg hr1
    have hm0 := Int.emod_nonneg (bAnd .i64 cut 65535) (show ((encD l).length : Int) ≠ 0 by omega)
    have hm1 := Int.emod_lt_of_pos (bAnd .i64 cut 65535) (show 0 < ((encD l).length : Int) by omega)
    rw [iteM_dec, if_neg (by omega), snap_Get_eq (encD_oct l), callM_some, get_put hs hv, gdM_pos (by omega), hm]
    generalize bAnd .i64 cut 65535 % ((encD l).length : Int) = k at hm0 hm1
    rw [gdM_pos (by omega)]
    have hcut : getD' (((encD l).take k.toNat).drop (0 : Int).toNat) = ([], 3) := by
      refine get_cut hs hv (q := (encD l).drop k.toNat) (by simp) ?_
      intro h
      have := congrArg List.length h
      rw [List.length_drop] at this
      simp at this; omega
    rw [snap_Get_eq (fun c hc => encD_oct l c (List.mem_of_mem_take (by simpa using hc))), callM_some, hcut]
    simp only [bs0M_eq, letO_eq, List.nil_append]
    rw [gdM_pos (by simp; omega), gdM_pos (by simp; omega), snap_Get_eq ((encD_oct l).append (by intro c hc; simp at hc; subst hc; exact hmore)), callM_some, get_more hs hv]
    simp only [decide_true, ref20_Same_eq l hb, callM_some]
    rfl

theorem key_unique {l : List GSaved} (h : SvOk l) {s s' : GSaved} (hs : s ∈ l) (hs' : s' ∈ l) (hk : s.K = s'.K) : s = s' := by
  obtain ⟨i, hi, rfl⟩ := mem_nth hs
  obtain ⟨j, hj, rfl⟩ := mem_nth hs'
  have o := cmpK_ord
  rcases Nat.lt_trichotomy i j with h1 | rfl | h1
  · have := pairwise_nth h.asc h1 hj
    rw [hk, (o.zero _ _).2 rfl] at this; omega
  · rfl
  · have := pairwise_nth h.asc h1 hi
    rw [hk, (o.zero _ _).2 rfl] at this; omega
theorem findD_own {l : List GSaved} (h : SvOk l) {s : GSaved} (hs : s ∈ l) : findD l s.K = s.X := by
  unfold findD
  split
  · rename_i s' h'
    have h1 := List.mem_of_find?_eq_some h'
    have h2 := List.find?_some h'
    rw [key_unique h h1 hs (keyB_iff.1 h2)]
  · rename_i h'
    have := List.find?_eq_none.1 h' s hs
    exact absurd (keyB_iff.2 rfl) this
theorem law20_SnapFinds_eq (l : List GSaved) (k : GKey) (b0 : okL okGSaved l) (b1 : okGKey k) : law20_SnapFinds l k = some true := by
  have hb := Bd.of b0
  have hlen := hb.len
  unfold BIG at hlen
  unfold law20_SnapFinds
  rw [awake_eq, callM_some, ref20_Few_eq hb, callM_some]
  simp only [letE_eq, iteM_not, retM_eq, snap_Sane_eq, callM_some]
  cases fewD l
  · rfl
  rw [iteM_true, iteM_dec]
  split
  · rfl
  cases hs : svB l
  · rfl
  rw [iteM_true]
  have hok := svB_iff.1 hs
  have hfe : ∀ i, i < l.length → (snap_Find l (nth l i).K) = some (nth l i).X := by
    intro i hi
    rw [snap_Find_eq l _ (.inl hok.len), if_pos hs, findD_own hok (nth_mem hi)]
  have hsame : ∀ i, i < l.length → ref17_Same (nth l i).X (nth l i).X = some true := by
    intro i hi
    rw [ref17_Same_eq _ _ (hb.tab _ (nth_mem hi)) (hb.lab _ (nth_mem hi))]; simp
  refine (loopM_natB l.length (fun i t => t = (l.take i).any fun s => keyB s.K k) (fun _ _ => true) ?_ ?_ (by simp)).trans rfl
  · rintro i t hi rfl
    right
    rw [iteM_dec, if_pos (by omega)]
    have hn : (l.take (i + 1)).any (fun s => keyB s.K k) = ((l.take i).any (fun s => keyB s.K k) || keyB (nth l i).K k) := by rw [take_nth hi, List.any_append]; simp
    cases ht : (l.take i).any fun s => keyB s.K k
    · rw [iteM_false]
      simp only [idxM_get (nth_get hi), drawM_eq, hfe i hi, callM_some, hsame i hi, iteM_true, nextM_eq]
      rw [wI_of (by omega)]
      refine ⟨_, rfl, ?_, trivial⟩
      rw [hn, ht, Bool.false_or]; rfl
    · rw [iteM_true]
      simp only [idxM_get (nth_get hi), drawM_eq, hfe i hi, callM_some, hsame i hi, iteM_true, nextM_eq]
      rw [wI_of (by omega)]
      refine ⟨_, rfl, ?_, trivial⟩
      rw [hn, ht, Bool.true_or]
  · rintro t rfl
    rw [iteM_dec, if_neg (by omega), List.take_length, iteM_true]
    cases ht : l.any fun s => keyB s.K k
    · rw [iteM_false, snap_Find_eq l _ (.inl hok.len), if_pos hs, callM_some]
      have : findD l k = t0 := by
        unfold findD
        split
        · rename_i s h'
          have h1 := List.mem_of_find?_eq_some h'
          have h2 := List.find?_some h'
          have := List.any_eq_false.1 ht s h1
          exact absurd h2 this
        · rfl
      rw [this, ref17_Same_eq t0 _ (by simp [t0, BIG]) (by simp [t0])]
      rfl
    · rfl

def big53 (a : GAlert) : Bool := decide (9007199254740992 < a.V) || decide (a.V < -9007199254740992)
theorem within_eq {l : List GSaved} (hb : Bd l) : law20_within l = some (!l.any fun s => s.X.A.any big53) := by
  have hlen := hb.len
  unfold BIG at hlen
  unfold law20_within
  simp only [letE_eq]
  refine (loopM_nat l.length (fun i => !(l.drop i).any fun s => s.X.A.any big53) ?_ ?_).trans (by simp)
  · intro i hi
    have hA := hb.tab _ (nth_mem hi)
    unfold BIG at hA
    rw [iteM_dec, if_pos (by omega), drop_nth hi, List.any_cons]
    rw [inner_loop (nth l i).X.A big53 i false ?_ ?_]
    · cases (nth l i).X.A.any big53
      · right; exact ⟨by simp, by simp⟩
      · left; simp
    · intro k hk
      simp only [idxM_get (nth_get hi), iteM_dec, idxM_get (nth_get hk), retM_eq, exitM_some, nextM_eq]
      rw [if_pos (by omega), wI_of (by omega)]
      unfold big53
      by_cases h1 : 9007199254740992 < (nth (nth l i).X.A k).V
      · rw [if_pos h1]; simp [h1]
      · rw [if_neg h1]
        by_cases h2 : (nth (nth l i).X.A k).V < -9007199254740992
        · rw [if_pos h2]; simp [h2]
        · rw [if_neg h2]; simp [h1, h2]
    · simp only [idxM_get (nth_get hi), iteM_dec, exitM_some, nextM_eq]
      rw [if_neg (by omega), wI_of (by omega)]; rfl
  · rw [iteM_dec, if_neg (by omega)]; simp
theorem small_of {l : List GSaved} (h : (l.any fun s => s.X.A.any big53) = false) : small l := by
  intro s hs a ha
  have h1 := List.any_eq_false.1 h s hs
  simp only [Bool.not_eq_true] at h1
  have := List.any_eq_false.1 h1 a ha
  simp only [big53, Bool.or_eq_true, decide_eq_true_eq, not_or] at this
  unfold okI59; omega
theorem strOf_inj {a b : List Int} (ha : Oct a) (hb : Oct b) (h : strOf a = strOf b) : a = b := by rw [← octs_strOf ha, ← octs_strOf hb, h]
theorem law20_SnapApart_eq (a b : List GSaved) (b0 : okL okGSaved a) (b1 : okL okGSaved b) : law20_SnapApart a b = some true := by
  have ha := Bd.of b0
  have hb := Bd.of b1
  unfold law20_SnapApart
  rw [awake_eq, callM_some, ref20_Few_eq ha, callM_some]
  simp only [letE_eq, iteM_not, retM_eq, snap_Sane_eq, callM_some, ref20_Few_eq hb, within_eq ha, within_eq hb, drawM_eq, snap_Put_eq, ref20_Same_eq b ha]
  cases fewD a
  · rfl
  cases fewD b
  · rfl
  cases hs : svB a
  · rfl
  cases ht : svB b
  · rfl
  cases hx : a.any fun s => s.X.A.any big53
  · cases hy : b.any fun s => s.X.A.any big53
    · simp only [iteM_true, iteM_false, if_true]
      have hva := small_of hx
      have hvb := small_of hy
      congr 1
      by_cases e : a = b
      · subst e; simp
      · have : ¬ strOf (encD a) = strOf (encD b) := by
          intro h
          have h1 := strOf_inj (encD_oct a) (encD_oct b) h
          have h2 := get_put hs hva
          rw [h1, get_put ht hvb] at h2
          cases h2
          exact e rfl
        simp [e, this]
    · rfl
  · rfl
end Go.Proofs.YtoekflobllmeeaaGreatDoor.AM
