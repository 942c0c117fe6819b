/- A part of the proof: Zl, Zn, Zo, Zp. -/
import Derived.Test.YtoekflobllmeeaaGreatDoorP1
import Derived.Test.YtoekflobllmeeaaGreatDoorOk
import Derived.Test.YtoekflobllmeeaaGreatDoorP2
set_option linter.all false
/- The laws of saves, but for the document's answer. -/
namespace Go.Proofs.YtoekflobllmeeaaGreatDoor.AM
open Go

theorem bAnd_range (a : Int) : 0 ≤ bAnd .i64 a 65535 ∧ bAnd .i64 a 65535 ≤ 65535 := by
  unfold bAnd
  have hb : IntKind.i64.bits = 64 := rfl
  rw [hb]
  have e2 : (BitVec.ofInt 64 (65535 : Int)).toNat = 65535 := by decide
  have : (BitVec.ofInt 64 a &&& BitVec.ofInt 64 65535).toNat ≤ 65535 := by
    rw [BitVec.toNat_and, e2]; exact Nat.and_le_right
  rw [show IntKind.i64.wrap (((BitVec.ofInt 64 a &&& BitVec.ofInt 64 65535).toNat : Nat) : Int) = _ from wI_of (by omega)]
  omega
theorem encD_len {l : List GSaved} (h : svB l = true) : (encD l).length ≤ 10000000 := by
  have hs := svB_iff.1 h
  have h256 := hs.len
  have := encN_len (enc := encS) (m := 36000) (l := l) (fun s hs' => encS_len (SvGood.of (hs.each s hs')))
  have := putU_len9 (n := l.length) (by omega)
  unfold encD
  rw [List.length_append]; omega
theorem encD_pos (l : List GSaved) : 0 < (encD l).length := by
  have := List.length_pos_iff.2 (putU_ne l.length)
  unfold encD
  rw [List.length_append]; omega
theorem inner_loop {β : Type} {ph : Int → List (Nat × AV)} {ob : Int → List Obj} {step : Int → Option (Int ⊕ (Int ⊕ β))} (A : List GAlert) (bad : GAlert → Bool) (i : Nat) (r : β)
    (h1 : ∀ k, k < A.length → step (k : Int) = if bad (nth A k) then some (.inr (.inr r)) else some (.inl ((k + 1 : Nat) : Int))) (h2 : step (A.length : Int) = some (.inr (.inl ((i + 1 : Nat) : Int)))) :
    loopM ph ob step 0 = some (if A.any bad then .inr r else .inl ((i + 1 : Nat) : Int)) := by
  refine (loopM_nat A.length (fun k => if (A.drop k).any bad then (.inr r : Int ⊕ β) else .inl ((i + 1 : Nat) : Int)) ?_ ?_).trans (by simp)
  · intro k hk
    rw [h1 k hk, drop_nth hk, List.any_cons]
    cases bad (nth A k)
    · right; exact ⟨by simp, by simp⟩
    · left; simp
  · rw [h2]; simp
def big59 (a : GAlert) : Bool := decide (576460752303423488 < a.V) || decide (a.V < -576460752303423488)
theorem big59_iff {a : GAlert} : big59 a = false ↔ okI59 a.V := by
  unfold big59 okI59
  simp only [Bool.or_eq_false_iff, decide_eq_false_iff_not]; omega
theorem Bd.of {l : List GSaved} (h : okL okGSaved l) : Bd l := by
  have e : maxLen = BIG := rfl
  exact ⟨h.1, fun s hs => (h.2 s hs).2.1.1, fun s hs a ha => ((h.2 s hs).2.1.2 a ha).1.1⟩
theorem law20_SnapBack_eq (l : List GSaved) (cut more : Int) (b0 : okL okGSaved l) (b1 : okI .i64 cut) (b2 : okI .u8 more) : law20_SnapBack l cut more = some true := by
  have hb := Bd.of b0
  have hlen := hb.len
  unfold BIG at hlen
  have hmore : 0 ≤ more ∧ more < 256 := by
    obtain ⟨h1, h2⟩ := b2
    have e1 : IntKind.u8.min = 0 := rfl
    have e2 : IntKind.u8.max = 255 := rfl
    rw [e1] at h1; rw [e2] at h2; omega
  unfold law20_SnapBack
  rw [awake_eq, callM_some, ref20_Few_eq hb, callM_some]
  simp only [letE_eq, iteM_not, retM_eq, snap_Put_eq, snap_Sane_eq, callM_some]
  cases fewD l
  · rfl
  rw [iteM_true]
  cases hs : svB l
  · simp
  rw [iteM_true, if_pos rfl]
  refine (loopM_natJ l.length (fun i => ∀ s ∈ l.take i, ∀ a ∈ s.X.A, okI59 a.V) (fun _ => true) ?_ ?_ (by simp)).trans rfl
  · intro i hi hJ
    have hA := hb.tab _ (nth_mem hi)
    unfold BIG at hA
    rw [iteM_dec, if_pos (by omega)]
    rw [inner_loop (nth l i).X.A big59 i true ?_ ?_]
    · cases hany : (nth l i).X.A.any big59
      · right
        refine ⟨rfl, fun s hs' a ha => ?_, rfl⟩
        rw [take_nth hi, List.mem_append, List.mem_singleton] at hs'
        rcases hs' with h | rfl
        · exact hJ s h a ha
        · rw [← big59_iff]
          have := List.any_eq_false.1 hany a ha
          simpa using this
      · left; rfl
    · intro k hk
      simp only [idxM_get (nth_get hi), iteM_dec, idxM_get (nth_get hk), exitM_some, nextM_eq, bif_or]
      rw [if_pos (by omega)]
      show iteM (big59 (nth (nth l i).X.A k)) _ _ = _
      cases big59 (nth (nth l i).X.A k)
      · rw [iteM_false, wI_of (by omega)]; rfl
      · rfl
    · simp only [idxM_get (nth_get hi), iteM_dec, exitM_some, nextM_eq]
      rw [if_neg (by omega), wI_of (by omega)]; rfl
  · intro hJ
    have hv : small l := fun s hs' a ha => hJ s (by rw [List.take_length]; exact hs') a ha
    have hpos := encD_pos l
    have hle := encD_len hs
    rw [iteM_dec, if_neg (by omega)]
    obtain ⟨hr1, hr2⟩ := bAnd_range cut
    have hm : Int.tmod (bAnd .i64 cut 65535) ((encD l).length : Int) = bAnd .i64 cut 65535 % ((encD l).length : Int) := Int.tmod_eq_emod_of_nonneg hr1
    have hm0 := Int.emod_nonneg (bAnd .i64 cut 65535) (show ((encD l).length : Int) ≠ 0 by omega)
    have hm1 := Int.emod_lt_of_pos (bAnd .i64 cut 65535) (show 0 < ((encD l).length : Int) by omega)
    rw [iteM_dec, if_neg (by omega), snap_Get_eq (encD_oct l), callM_some, get_put hs hv, gdM_pos (by omega), hm]
    generalize bAnd .i64 cut 65535 % ((encD l).length : Int) = k at hm0 hm1
    rw [gdM_pos (by omega)]
    have hcut : getD' (((encD l).take k.toNat).drop (0 : Int).toNat) = ([], 3) := by
      refine get_cut hs hv (q := (encD l).drop k.toNat) (by simp) ?_
      intro h
      have := congrArg List.length h
      rw [List.length_drop] at this
      simp at this; omega
    rw [snap_Get_eq (fun c hc => encD_oct l c (List.mem_of_mem_take (by simpa using hc))), callM_some, hcut]
    simp only [bs0M_eq, letO_eq, List.nil_append]
    rw [gdM_pos (by simp; omega), gdM_pos (by simp; omega), snap_Get_eq ((encD_oct l).append (by intro c hc; simp at hc; subst hc; exact hmore)), callM_some, get_more hs hv]
    simp only [decide_true, ref20_Same_eq l hb, callM_some]
    rfl

theorem key_unique {l : List GSaved} (h : SvOk l) {s s' : GSaved} (hs : s ∈ l) (hs' : s' ∈ l) (hk : s.K = s'.K) : s = s' := by
  obtain ⟨i, hi, rfl⟩ := mem_nth hs
  obtain ⟨j, hj, rfl⟩ := mem_nth hs'
  have o := cmpK_ord
  rcases Nat.lt_trichotomy i j with h1 | rfl | h1
  · have := pairwise_nth h.asc h1 hj
    rw [hk, (o.zero _ _).2 rfl] at this; omega
  · rfl
  · have := pairwise_nth h.asc h1 hi
    rw [hk, (o.zero _ _).2 rfl] at this; omega
theorem findD_own {l : List GSaved} (h : SvOk l) {s : GSaved} (hs : s ∈ l) : findD l s.K = s.X := by
  unfold findD
  split
  · rename_i s' h'
    have h1 := List.mem_of_find?_eq_some h'
    have h2 := List.find?_some h'
    rw [key_unique h h1 hs (keyB_iff.1 h2)]
  · rename_i h'
    have := List.find?_eq_none.1 h' s hs
    exact absurd (keyB_iff.2 rfl) this
theorem law20_SnapFinds_eq (l : List GSaved) (k : GKey) (b0 : okL okGSaved l) (b1 : okGKey k) : law20_SnapFinds l k = some true := by
  have hb := Bd.of b0
  have hlen := hb.len
  unfold BIG at hlen
  unfold law20_SnapFinds
  rw [awake_eq, callM_some, ref20_Few_eq hb, callM_some]
  simp only [letE_eq, iteM_not, retM_eq, snap_Sane_eq, callM_some]
  cases fewD l
  · rfl
  rw [iteM_true, iteM_dec]
  split
  · rfl
  cases hs : svB l
  · rfl
  rw [iteM_true]
  have hok := svB_iff.1 hs
  have hfe : ∀ i, i < l.length → (snap_Find l (nth l i).K) = some (nth l i).X := by
    intro i hi
    rw [snap_Find_eq l _ (.inl hok.len), if_pos hs, findD_own hok (nth_mem hi)]
  have hsame : ∀ i, i < l.length → ref17_Same (nth l i).X (nth l i).X = some true := by
    intro i hi
    rw [ref17_Same_eq _ _ (hb.tab _ (nth_mem hi)) (hb.lab _ (nth_mem hi))]; simp
  refine (loopM_natB l.length (fun i t => t = (l.take i).any fun s => keyB s.K k) (fun _ _ => true) ?_ ?_ (by simp)).trans rfl
  · rintro i t hi rfl
    right
    rw [iteM_dec, if_pos (by omega)]
    have hn : (l.take (i + 1)).any (fun s => keyB s.K k) = ((l.take i).any (fun s => keyB s.K k) || keyB (nth l i).K k) := by rw [take_nth hi, List.any_append]; simp
    cases ht : (l.take i).any fun s => keyB s.K k
    · rw [iteM_false]
      simp only [idxM_get (nth_get hi), drawM_eq, hfe i hi, callM_some, hsame i hi, iteM_true, nextM_eq]
      rw [wI_of (by omega)]
      refine ⟨_, rfl, ?_, trivial⟩
      rw [hn, ht, Bool.false_or]; rfl
    · rw [iteM_true]
      simp only [idxM_get (nth_get hi), drawM_eq, hfe i hi, callM_some, hsame i hi, iteM_true, nextM_eq]
      rw [wI_of (by omega)]
      refine ⟨_, rfl, ?_, trivial⟩
      rw [hn, ht, Bool.true_or]
  · rintro t rfl
    rw [iteM_dec, if_neg (by omega), List.take_length, iteM_true]
    cases ht : l.any fun s => keyB s.K k
    · rw [iteM_false, snap_Find_eq l _ (.inl hok.len), if_pos hs, callM_some]
      have : findD l k = t0 := by
        unfold findD
        split
        · rename_i s h'
          have h1 := List.mem_of_find?_eq_some h'
          have h2 := List.find?_some h'
          have := List.any_eq_false.1 ht s h1
          exact absurd h2 this
        · rfl
      rw [this, ref17_Same_eq t0 _ (by simp [t0, BIG]) (by simp [t0])]
      rfl
    · rfl

def big53 (a : GAlert) : Bool := decide (9007199254740992 < a.V) || decide (a.V < -9007199254740992)
theorem within_eq {l : List GSaved} (hb : Bd l) : law20_within l = some (!l.any fun s => s.X.A.any big53) := by
  have hlen := hb.len
  unfold BIG at hlen
  unfold law20_within
  simp only [letE_eq]
  refine (loopM_nat l.length (fun i => !(l.drop i).any fun s => s.X.A.any big53) ?_ ?_).trans (by simp)
  · intro i hi
    have hA := hb.tab _ (nth_mem hi)
    unfold BIG at hA
    rw [iteM_dec, if_pos (by omega), drop_nth hi, List.any_cons]
    rw [inner_loop (nth l i).X.A big53 i false ?_ ?_]
    · cases (nth l i).X.A.any big53
      · right; exact ⟨by simp, by simp⟩
      · left; simp
    · intro k hk
      simp only [idxM_get (nth_get hi), iteM_dec, idxM_get (nth_get hk), retM_eq, exitM_some, nextM_eq]
      rw [if_pos (by omega), wI_of (by omega)]
      unfold big53
      by_cases h1 : 9007199254740992 < (nth (nth l i).X.A k).V
      · rw [if_pos h1]; simp [h1]
      · rw [if_neg h1]
        by_cases h2 : (nth (nth l i).X.A k).V < -9007199254740992
        · rw [if_pos h2]; simp [h2]
        · rw [if_neg h2]; simp [h1, h2]
    · simp only [idxM_get (nth_get hi), iteM_dec, exitM_some, nextM_eq]
      rw [if_neg (by omega), wI_of (by omega)]; rfl
  · rw [iteM_dec, if_neg (by omega)]; simp
theorem small_of {l : List GSaved} (h : (l.any fun s => s.X.A.any big53) = false) : small l := by
  intro s hs a ha
  have h1 := List.any_eq_false.1 h s hs
  simp only [Bool.not_eq_true] at h1
  have := List.any_eq_false.1 h1 a ha
  simp only [big53, Bool.or_eq_true, decide_eq_true_eq, not_or] at this
  unfold okI59; omega
theorem strOf_inj {a b : List Int} (ha : Oct a) (hb : Oct b) (h : strOf a = strOf b) : a = b := by rw [← octs_strOf ha, ← octs_strOf hb, h]
theorem law20_SnapApart_eq (a b : List GSaved) (b0 : okL okGSaved a) (b1 : okL okGSaved b) : law20_SnapApart a b = some true := by
  have ha := Bd.of b0
  have hb := Bd.of b1
  unfold law20_SnapApart
  rw [awake_eq, callM_some, ref20_Few_eq ha, callM_some]
  simp only [letE_eq, iteM_not, retM_eq, snap_Sane_eq, callM_some, ref20_Few_eq hb, within_eq ha, within_eq hb, drawM_eq, snap_Put_eq, ref20_Same_eq b ha]
  cases fewD a
  · rfl
  cases fewD b
  · rfl
  cases hs : svB a
  · rfl
  cases ht : svB b
  · rfl
  cases hx : a.any fun s => s.X.A.any big53
  · cases hy : b.any fun s => s.X.A.any big53
    · simp only [iteM_true, iteM_false, if_true]
      have hva := small_of hx
      have hvb := small_of hy
      congr 1
      by_cases e : a = b
      · subst e; simp
      · have : ¬ strOf (encD a) = strOf (encD b) := by
          intro h
          have h1 := strOf_inj (encD_oct a) (encD_oct b) h
          have h2 := get_put hs hva
          rw [h1, get_put ht hvb] at h2
          cases h2
          exact e rfl
        simp [e, this]
    · rfl
  · rfl
end Go.Proofs.YtoekflobllmeeaaGreatDoor.AM

/- The document's answer: sane tables and saves, found tables; octets put. -/
namespace Go.Proofs.YtoekflobllmeeaaGreatDoor.AM
open Go

theorem ref13_Time_eq (x : Int) : ref13_Time x = some (tmB x) := by
  unfold ref13_Time tmB
  simp only [letE_eq, bif_and, retM_eq]
theorem ref15_Sane_eq (h : GHold) : ref15_Sane h = some (holdB h) := by
  unfold ref15_Sane holdB
  simp only [letE_eq, ref13_Time_eq, callM_some, retM_eq]
  obtain ⟨o, s, t, f⟩ := h
  simp only
  cases tmB s <;> cases tmB f <;> cases o <;> cases t <;> simp [iteM] <;> (try (by_cases h0 : s = 0 <;> by_cases h1 : f = 0 <;> simp [h0, h1]))
structure SmT (t : GTable) : Prop where
  len : t.A.length ≤ 1000000
  lab : ∀ a ∈ t.A, Sml a.L
theorem Sml.names {l : List GPair} (h : Sml l) : ∀ p ∈ l, p.1.length ≤ 9223372036854775807 := h.2
theorem ref17_Sane_eq {t : GTable} (h : SmT t) : ref17_Sane t = some (tabB t) := by
  obtain ⟨h1, h2⟩ := h
  unfold ref17_Sane
  have hb : tabB t = ((List.range t.A.length).all (fun j => decide (j < 0) || tabAt t.A j) && (decide (t.A.length ≤ 16) && tmB t.Full)) := by
    unfold tabB tmB cap
    simp only [Nat.not_lt_zero, decide_false, Bool.false_or]
    cases decide (t.A.length ≤ 16) <;> cases decide (0 ≤ t.Full) <;> cases decide (t.Full ≤ 9007199254740992) <;> simp
  rw [hb]
  refine loopM_nat t.A.length (fun i => (List.range t.A.length).all (fun j => decide (j < i) || tabAt t.A j) && (decide (t.A.length ≤ 16) && tmB t.Full)) ?_ ?_
  · intro i hi
    have hs := h2 _ (nth_mem hi)
    simp only [letE_eq, iteM_dec, idxM_get (nth_get hi), drawM_eq, ref03_Sane_eq _ hs.len hs.names, callM_some, ref15_Sane_eq, iteM_not, retM_eq, exitM_some, nextM_eq]
    rw [if_pos (by omega)]
    cases k1 : saneB (nth t.A i).L
    · left; rw [all_bad hi (by simp [tabAt, alOk, k1])]; rfl
    rw [iteM_true]
    cases k2 : holdB (nth t.A i).H
    · left; rw [all_bad hi (by simp [tabAt, alOk, k2])]; rfl
    rw [iteM_true]
    by_cases k3 : (nth t.A i).State < 0
    · left; rw [if_pos k3, all_bad hi (by simp [tabAt, alOk]; omega)]; rfl
    rw [if_neg k3]
    by_cases k4 : 2 < (nth t.A i).State
    · left; rw [if_pos k4, all_bad hi (by simp [tabAt, alOk]; omega)]; rfl
    rw [if_neg k4]
    have hal : alOk (nth t.A i) = true := by simp [alOk, k1, k2]; omega
    by_cases h0 : i = 0
    · right
      rw [if_neg (by omega), wI_of (by omega)]
      refine ⟨rfl, ?_⟩
      rw [all_lt]
      simp only [tabAt, hal, Bool.true_and, Bool.or_eq_true, decide_eq_true_eq]; exact .inl h0
    · have hi1 : i - 1 < t.A.length := by omega
      rw [if_pos (by omega), wI_of (by omega), show (i : Int) - 1 = ((i - 1 : Nat) : Int) by omega, idxM_get (nth_get hi1), ref03_Compare_eq _ _ (h2 _ (nth_mem hi1)) hs, callM_some]
      simp only [bif_and, Bool.true_and, iteM_dec]
      by_cases hc : compareL (nth t.A (i - 1)).L (nth t.A i).L < 0
      · right
        rw [if_neg (by omega), wI_of (by omega)]
        refine ⟨rfl, ?_⟩
        rw [all_lt]
        simp [tabAt, hal, hc]
      · left
        rw [if_pos (by omega), all_bad hi (by simp [tabAt, hc, h0])]; rfl
  · simp only [letE_eq, iteM_dec, ref13_Time_eq, callM_some, retM_eq]
    rw [if_neg (by omega), all_end, Bool.true_and]
    by_cases h16 : t.A.length ≤ 16
    · rw [if_pos (by omega)]; simp [h16]
    · rw [if_neg (by omega)]; simp [h16]
theorem ahead_eq (a b : GKey) : ref20_ahead a b = some (decide (cmpK a b < 0)) := by
  unfold ref20_ahead cmpK
  simp only [letE_eq, retM_eq, bif_and, Bool.true_and, iteM_dec, Bool.false_and]
  cases h : ltS a.Group b.Group
  · rw [iteM_false]
    by_cases e : a.Group = b.Group
    · rw [if_pos e, (cmpS_ord.zero _ _).2 e, if_neg (by simp)]
      congr 1
      rw [eq_comm, Bool.eq_iff_iff, decide_eq_true_eq, cmpS_neg]
    · rw [if_neg e]
      have hne : cmpS a.Group b.Group ≠ 0 := fun k => e ((cmpS_ord.zero _ _).1 k)
      rw [if_pos hne]
      congr 1
      have : ¬ cmpS a.Group b.Group < 0 := fun k => by rw [cmpS_neg, h] at k; cases k
      simp [this]
  · rw [iteM_true]
    have := cmpS_neg.2 h
    rw [if_pos (by omega)]
    simp [this]
structure SmD (l : List GSaved) : Prop where
  len : l.length ≤ 9223372036854775807
  tab : ∀ s ∈ l, SmT s.X
  key : ∀ s ∈ l, s.K.Group.length ≤ 9223372036854775807 ∧ s.K.Rule.length ≤ 9223372036854775807
theorem ref20_Sane_eq {l : List GSaved} (h : SmD l) : ref20_Sane l = some (svB l) := by
  obtain ⟨h1, h2, h3⟩ := h
  unfold ref20_Sane
  have hb : svB l = ((List.range l.length).all (fun j => decide (j < 0) || svAt l j) && decide (l.length ≤ 256)) := by
    unfold svB
    simp only [Nat.not_lt_zero, decide_false, Bool.false_or]
    rw [Bool.and_comm]
  rw [hb]
  refine loopM_nat l.length (fun i => (List.range l.length).all (fun j => decide (j < i) || svAt l j) && decide (l.length ≤ 256)) ?_ ?_
  · intro i hi
    have hk := h3 _ (nth_mem hi)
    simp only [letE_eq, iteM_dec, idxM_get (nth_get hi), drawM_eq, ref03_Name_eq _ hk.1, ref03_Name_eq _ hk.2, ref17_Sane_eq (h2 _ (nth_mem hi)), callM_some, iteM_not, retM_eq, exitM_some, nextM_eq]
    rw [if_pos (by omega)]
    cases k1 : nameB (nth l i).K.Group
    · left; rw [all_bad hi (by simp [svAt, svOk, k1])]; rfl
    rw [iteM_true]
    cases k2 : nameB (nth l i).K.Rule
    · left; rw [all_bad hi (by simp [svAt, svOk, k2])]; rfl
    rw [iteM_true]
    cases k3 : tabB (nth l i).X
    · left; rw [all_bad hi (by simp [svAt, svOk, k3])]; rfl
    rw [iteM_true]
    have hok : svOk (nth l i) = true := by simp [svOk, k1, k2, k3]
    by_cases h0 : i = 0
    · right
      rw [if_neg (by omega), wI_of (by omega)]
      refine ⟨rfl, ?_⟩
      rw [all_lt]
      simp only [svAt, hok, Bool.true_and, Bool.or_eq_true, decide_eq_true_eq]; exact .inl h0
    · have hi1 : i - 1 < l.length := by omega
      rw [if_pos (by omega), wI_of (by omega), show (i : Int) - 1 = ((i - 1 : Nat) : Int) by omega, idxM_get (nth_get hi1), ahead_eq, callM_some]
      simp only [bif_and, Bool.true_and]
      by_cases hc : cmpK (nth l (i - 1)).K (nth l i).K < 0
      · right
        rw [show (!decide (cmpK (nth l (i - 1)).K (nth l i).K < 0)) = false from by simp [hc], iteM_false, wI_of (by omega)]
        refine ⟨rfl, ?_⟩
        rw [all_lt]
        simp [svAt, hok, hc]
      · left
        rw [show (!decide (cmpK (nth l (i - 1)).K (nth l i).K < 0)) = true from by simp [hc], iteM_true, all_bad hi (by simp [svAt, hc, h0])]; rfl
  · simp only [letE_eq, iteM_dec, retM_eq]
    rw [if_neg (by omega), all_end, Bool.true_and]
    simp only [exitM_some]
    rw [show decide ((l.length : Int) ≤ 256) = decide (l.length ≤ 256) from by rw [decide_eq_decide]; omega]
theorem ref20_Find_eq {l : List GSaved} (k : GKey) (h : SmD l) : ref20_Find l k = some (if svB l then findD l k else t0) := by
  have hlen := h.len
  unfold ref20_Find
  simp only [letE_eq, ref20_Sane_eq h, callM_some, retM_eq]
  cases hs : svB l
  · refine (loopM_nat l.length (fun _ => t0) ?_ ?_).trans rfl
    · intro i hi
      left
      rw [iteM_dec, if_pos (by omega)]; rfl
    · rw [iteM_dec, if_neg (by omega)]; rfl
  · rw [if_pos rfl]
    refine (loopM_nat l.length (fun i => findD (l.drop i) k) ?_ ?_).trans (by simp)
    · intro i hi
      simp only [iteM_dec, idxM_get (nth_get hi), exitM_some, nextM_eq, iteM_true]
      rw [if_pos (by omega), drop_nth hi]
      show iteM (keyB (nth l i).K k) _ _ = _ ∨ iteM (keyB (nth l i).K k) _ _ = _ ∧ _
      cases hk : keyB (nth l i).K k
      · right
        rw [iteM_false, wI_of (by omega)]
        exact ⟨by simp, by simp [findD, hk]⟩
      · left
        rw [iteM_true]; simp [findD, hk]
    · simp only [iteM_dec]
      rw [if_neg (by omega)]
      simp [findD]; rfl
end Go.Proofs.YtoekflobllmeeaaGreatDoor.AM

/- The document's answer: octets put and got. -/
namespace Go.Proofs.YtoekflobllmeeaaGreatDoor.AM
open Go

theorem putUint5_eq {n : Int} {b : List Int} (hb : b.length + 10 ≤ LIM) : ref05_PutUint b n = some (if okU n then b ++ putU n.toNat else b) := by
  unfold ref05_PutUint LIM at *
  simp only [letE_eq, bif_or, retM_eq, letO_eq, exitM_some, nextM_eq, bs0M_eq, List.nil_append]
  rw [gdM_pos (by simp; omega)]
  by_cases h : okU n
  · rw [if_pos h]
    obtain ⟨h1, h2⟩ := h
    rw [show (decide (n < 0) || decide (1152921504606846976 < n)) = false from by simp; omega]
    rw [iteM_false]
    refine loopM_rec (fun s : Int × List Int => (0 ≤ s.1 ∧ s.1 ≤ 1152921504606846976) ∧ s.2.length + (putU s.1.toNat).length ≤ 140737488355328) (fun s => s.1.toNat) (fun s => s.2 ++ putU s.1.toNat) ?_ ?_
    · rintro ⟨m, a⟩ ⟨⟨h0, hm⟩, hl⟩
      simp only at h0 hm hl ⊢
      simp only [iteM_dec]
      by_cases h128 : 128 ≤ m
      · right
        have hp := putU_ge (n := m.toNat) (by omega)
        have e1 : Int.tmod m 128 = m % 128 := by rw [Int.tmod_eq_emod_of_nonneg h0]
        have e2 : Int.tdiv m 128 = m / 128 := by rw [Int.tdiv_eq_ediv_of_nonneg h0]
        rw [hp, List.length_cons] at hl
        rw [if_pos h128, e1, e2, wI_of (by omega), u8_of (by omega), gdM_pos (by simp; omega), wI_of (by omega)]
        refine ⟨_, rfl, ⟨⟨by simp only; omega, by simp only; omega⟩, ?_⟩, by simp only; omega, ?_⟩
        · have e3 : (m / 128).toNat = m.toNat / 128 := by omega
          simp only [e3, List.length_append, List.length_cons, List.length_nil]; omega
        · have e3 : (m / 128).toNat = m.toNat / 128 := by omega
          have e4 : ((m.toNat % 128 + 128 : Nat) : Int) = 128 + m % 128 := by omega
          simp only [e3, hp, e4, List.append_assoc]; rfl
      · left
        have hp := putU_lt (n := m.toNat) (by omega)
        rw [hp] at hl
        have e4 : ((m.toNat : Nat) : Int) = m := by omega
        rw [if_neg h128, u8_of (by omega), gdM_pos (by simp at hl ⊢; omega), hp, e4, exitM_some]
    · have := putU_len9 (n := n.toNat) (by omega)
      exact ⟨⟨h1, h2⟩, by simp only; omega⟩
  · rw [if_neg h]
    rw [show (decide (n < 0) || decide (1152921504606846976 < n)) = true from by simp [okU] at h ⊢; omega]
    rfl
theorem putText5_eq {s : Str} {b : List Int} (hb : b.length + s.length + 10 ≤ LIM) : ref05_PutText b s = some (b ++ putT s) := by
  unfold ref05_PutText putT
  simp only [letE_eq, iteM_dec, retM_eq, letO_eq, bs0M_eq, List.nil_append]
  have := octs_length s
  by_cases h : s.length ≤ 65536
  · rw [if_neg (by omega), putUint5_eq (by omega), callM_some, if_pos ⟨by omega, by omega⟩, if_pos h, Int.toNat_natCast]
    have := putU_len9 (n := s.length) (by omega)
    unfold LIM at hb
    rw [gdM_pos (by omega), gdM_pos (by simp; omega), List.append_assoc]
  · unfold LIM at hb
    rw [if_pos (by omega), if_neg h, List.append_nil, gdM_pos (by simp; omega)]
theorem Sml.sane {l : List GPair} (h : saneB l = true) : Sml l := by
  refine ⟨by have := (saneB_iff.1 h).1; omega, fun p hp => ?_⟩
  have := sane_mem h hp
  have h1 := this.1
  show p.Name.length ≤ _
  omega
theorem putLabels5_eq {b : List Int} {l : List GPair} (hb : b.length + 10000 ≤ LIM) (hs : saneB l = true) : ref05_PutLabels b l = some (b ++ encL l) := by
  unfold ref05_PutLabels
  rw [ref03_As_eq l (Sml.sane hs), callM_some, countsL_sane hs]
  simp only [letE_eq, putUint5_eq (show b.length + 10 ≤ LIM by omega), callM_some, permM_eq, nextM_eq, retM_eq, exitM_some, shM_eq, swapM_eq]
  have hl16 := (saneB_iff.1 hs).1
  rw [if_pos ⟨by omega, by omega⟩, Int.toNat_natCast]
  have hm := fun p hp => sane_mem hs (p := p) hp
  have hu := putU_lt (n := l.length) (by omega)
  refine (loopM_natB l.length (fun i a => a = b ++ putU l.length ++ encP (l.take i)) (fun i a => a ++ encP (l.drop i)) ?_ ?_ (by simp [encP])).trans (by simp [encL])
  · rintro i a hi rfl
    right
    have hp := hm _ (List.getElem_mem hi)
    have hpl : (encP (l.take i)).length ≤ 130 * 16 := by
      have := encP_len (l := l.take i) (fun p hp => hm p (List.mem_of_mem_take hp))
      have : (l.take i).length ≤ 16 := by rw [List.length_take]; omega
      omega
    have e : pr l i = l[i] := by simp [pr, List.getD_eq_getElem?_getD, List.getElem?_eq_getElem hi]
    simp only [iteM_dec, idxM_get (pr_get hi)]
    rw [if_pos (by omega), e, putText5_eq (by simp [hu]; omega), callM_some, putText5_eq (by have := putT_len hp.1; simp [hu]; omega), callM_some, wI_of (by omega)]
    refine ⟨_, rfl, ?_, ?_⟩
    · rw [take_pr hi, encP_append, e]; simp [encP, List.append_assoc]
    · rw [drop_pr hi, e]; simp [encP, List.append_assoc]
  · rintro a rfl
    simp only [iteM_dec]
    rw [if_neg (by omega)]
    simp [encP]
theorem putInt5_eq {v : Int} {b : List Int} (hb : b.length + 10 ≤ LIM) (h : okI59 v) : ref05_PutInt b v = some (b ++ putU (zig v).toNat) := by
  unfold ref05_PutInt
  have hz := zig_ok h
  obtain ⟨h1, h2⟩ := h
  simp only [letE_eq, bif_or]
  rw [show (decide (v < -576460752303423488) || decide (576460752303423488 < v)) = false from by simp; omega]
  simp only [iteM_false, iteM_dec]
  by_cases h0 : v < 0
  · rw [if_pos h0, wI_of (x := -2 * v) (by omega), wI_of (by omega)]
    have e : zig v = -2 * v - 1 := by unfold zig; rw [if_pos h0]
    rw [← e, putUint5_eq hb, callM_some, if_pos hz]; rfl
  · rw [if_neg h0, wI_of (by omega)]
    have e : zig v = 2 * v := by unfold zig; rw [if_neg h0]
    rw [← e, putUint5_eq hb, callM_some, if_pos hz]; rfl
theorem putAlert20_eq {b : List Int} {a : GAlert} (hb : b.length + 20000 ≤ LIM) (h : AlOk a) : ref20_putAlert b a = some (b ++ encA a) := by
  have hl := encL_len h.lab
  have hc := h.code
  have h3 := h.since
  have h4 := h.fired
  have h5 := h.st
  have u3 := putU_len9 (n := a.H.Since.toNat) (by omega)
  have u4 := putU_len9 (n := a.H.Fired.toNat) (by omega)
  have key : ∀ c : Int, c = code a → (callM (so 1 (cK .u8)) (fun _ => []) (ref05_PutLabels b a.L) fun x3 => callM (so 2 (cK .u8)) (fun _ => []) (ref05_PutUint x3 c) fun x4 => callM (so 3 (cK .u8)) (fun _ => []) (ref05_PutUint x4 a.H.Since) fun x5 =>
      callM (so 4 (cK .u8)) (fun _ => []) (ref05_PutUint x5 a.H.Fired) fun x6 => callM (so 5 (cK .u8)) (fun _ => []) (ref05_PutInt x6 (clampV a.V)) fun x9 => some x9) = some (b ++ encA a) := by
    rintro c rfl
    have uc := putU_lt (n := (code a).toNat) (by omega)
    rw [putLabels5_eq (by omega) h.lab, callM_some, putUint5_eq (by simp; omega), callM_some, if_pos ⟨by omega, by omega⟩, putUint5_eq (by simp [uc]; omega), callM_some, if_pos ⟨by omega, by omega⟩,
      putUint5_eq (by simp [uc]; omega), callM_some, if_pos ⟨by omega, by omega⟩, putInt5_eq (by simp [uc]; omega) (clampV_ok _), callM_some]
    simp [encA, List.append_assoc]
  unfold ref20_putAlert
  simp only [letE_eq, retM_eq, permM_eq]
  cases hOn : a.H.On <;> cases hHit : a.H.Hit <;> simp only [iteM_true, iteM_false]
  · exact key _ (by simp [code, hOn, hHit])
  · rw [wI_of (by omega)]; exact key _ (by simp [code, hOn, hHit])
  · rw [wI_of (by omega)]; exact key _ (by simp [code, hOn, hHit])
  · rw [wI_of (x := a.State + 4) (by omega), wI_of (by omega)]; exact key _ (by simp [code, hOn, hHit])
theorem ref20_Put_eq {l : List GSaved} (hd : SmD l) : ref20_Put l = some (if svB l then encD l else []) := by
  unfold ref20_Put
  rw [ref20_Sane_eq hd, callM_some]
  simp only [letE_eq, iteM_not, retM_eq, pubM_eq, exitM_some, nextM_eq, permM_eq]
  by_cases h : svB l = true
  · rw [h, iteM_true, if_pos rfl]
    have hs := svB_iff.1 h
    have hg := fun s hs' => SvGood.of (hs.each s hs')
    have h256 := hs.len
    have hu := putU_len9 (n := l.length) (by omega)
    rw [putUint5_eq (by simp [LIM]), callM_some, if_pos ⟨by omega, by omega⟩, List.nil_append, Int.toNat_natCast]
    refine (loopM_natB l.length (fun i a => a = putU l.length ++ encN encS (l.take i)) (fun i a => a ++ encN encS (l.drop i)) ?_ ?_ (by simp [encN])).trans (by simp [encD])
    · rintro i a hi rfl
      right
      have hsg := hg _ (nth_mem hi)
      have hpl : (encN encS (l.take i)).length ≤ 36000 * 256 := by
        have := encN_len (enc := encS) (m := 36000) (l := l.take i) (fun s hs' => encS_len (hg s (List.mem_of_mem_take hs')))
        have : (l.take i).length ≤ 256 := by rw [List.length_take]; omega
        omega
      simp only [iteM_dec, idxM_get (nth_get hi)]
      rw [if_pos (by omega), take_nth hi, drop_nth hi]
      generalize nth l i = s at hsg
      have t1 := putT_len hsg.grp
      have t2 := putT_len hsg.rul
      have := hsg.grp
      have := hsg.rul
      have hf := hsg.full
      have h16 := hsg.tab.len
      have uf := putU_len9 (n := s.X.Full.toNat) (by omega)
      have ua := putU_lt (n := s.X.A.length) (by omega)
      have hL : LIM = 140737488355328 := rfl
      rw [putText5_eq (by simp only [List.length_append]; omega), callM_some, putText5_eq (by simp only [List.length_append]; omega), callM_some, putUint5_eq (by simp only [List.length_append]; omega), callM_some, if_pos ⟨by omega, by omega⟩,
        putUint5_eq (by simp only [List.length_append]; omega), callM_some, if_pos ⟨by omega, by omega⟩, Int.toNat_natCast]
      have hin : ∀ (step : List Int × Int → Option (List Int × Int ⊕ (List Int × Int ⊕ List Int))) ph ob (B : List Int), B.length ≤ 36000 * 257 + 1000 →
          (∀ (k : Nat) a, k < s.X.A.length → step (a, (k : Int)) = (ref20_putAlert a (nth s.X.A k)).bind fun x => some (.inl (x, wI ((k : Int) + 1)))) →
          (∀ a, step (a, (s.X.A.length : Int)) = some (.inr (.inl (a, wI ((i : Int) + 1))))) →
          loopM ph ob step (B, 0) = some (.inl (B ++ encN encA s.X.A, wI ((i : Int) + 1))) := by
        intro step ph ob B hB hst hen
        refine (loopM_natB s.X.A.length (fun k a => a = B ++ encN encA (s.X.A.take k)) (fun k a => (.inl (a ++ encN encA (s.X.A.drop k), wI ((i : Int) + 1)) : List Int × Int ⊕ List Int)) ?_ ?_ (by simp [encN])).trans (by simp)
        · rintro k a hk rfl
          right
          have ha := hsg.al (nth_mem hk)
          have := encAs_len hsg (l := s.X.A.take k) (fun a ha => List.mem_of_mem_take ha) (by rw [List.length_take]; omega)
          rw [hst k _ hk, putAlert20_eq (by rw [List.length_append]; omega) ha]
          refine ⟨_, by simp only [Option.bind_some]; rw [wI_of (by omega)]; rfl, ?_, ?_⟩
          · rw [take_nth hk, encN_append]; simp [encN, List.append_assoc]
          · rw [drop_nth hk]; simp [encN, List.append_assoc]
        · rintro a rfl
          rw [hen]
          simp [encN]
      rw [hin _ _ _ _ (by simp only [List.length_append, ua, List.length_singleton]; omega) ?_ ?_]
      · rw [wI_of (by omega)]
        refine ⟨_, rfl, ?_, ?_⟩
        · rw [encN_append]; simp [encN, encS, List.append_assoc]
        · simp [encN, encS, List.append_assoc]
      · intro k a hk
        rw [if_pos (by omega), idxM_get (nth_get hk)]
        cases ref20_putAlert a (nth s.X.A k) <;> rfl
      · intro a
        rw [if_neg (by omega)]
    · rintro a rfl
      rw [iteM_dec, if_neg (by omega)]
      simp [encN]
  · simp only [Bool.not_eq_true] at h
    rw [h]; rfl
end Go.Proofs.YtoekflobllmeeaaGreatDoor.AM

/- The document's answer: octets got; the law SnapIs. -/
namespace Go.Proofs.YtoekflobllmeeaaGreatDoor.AM
open Go

theorem wI_mul {q : Int} (h0 : 0 ≤ q) (h1 : q ≤ 562949953421312) : wI (q * 128) = q * 128 := wI_of (by omega)
theorem getUint5_eq {b : List Int} (ho : Oct b) : ref05_GetUint b = some (getU b) := by
  unfold ref05_GetUint
  simp only [letE_eq, retM_eq, exitM_some, nextM_eq, iteM_dec, bif_and]
  refine (loopM_rec (fun s : Int × Int × Int => ((0 ≤ s.2.2 ∧ s.2.2 ≤ 9) ∧ (0 ≤ s.1 ∧ s.1.toNat < 128 ^ s.2.2.toNat)) ∧ s.2.1 = ((128 ^ min s.2.2.toNat 8 : Nat) : Int) ∧ s.2.2.toNat ≤ b.length) (fun s => (9 - s.2.2).toNat) (fun s => getF (9 - s.2.2.toNat) s.2.2.toNat s.1.toNat (b.drop s.2.2.toNat)) ?_ ⟨⟨⟨by simp, by simp⟩, by simp, by simp⟩, by simp, by simp⟩).trans (by simp [getU])
  rintro ⟨a, z, j⟩ ⟨⟨⟨hj0, hj9⟩, h0, ha⟩, hz, hl⟩
  obtain ⟨i, rfl⟩ := Int.eq_ofNat_of_zero_le hj0
  simp only [Int.toNat_natCast] at hj9 h0 ha hz hl ⊢
  by_cases hi : i < 9
  · rw [if_pos (by omega)]
    obtain ⟨k, hk⟩ : ∃ k, 9 - i = k + 1 := ⟨8 - i, by omega⟩
    by_cases he : i = b.length
    · left
      rw [if_pos (by omega), hk, List.drop_eq_nil_of_le (by omega)]; rfl
    · rw [if_neg (by omega)]
      have hil : i < b.length := by omega
      have hc := nthI_oct ho hil
      rw [idxM_get (nth_get hil), drop_nth hil, hk]
      generalize nth b i = c at hc
      have e1 : Int.tmod c 128 = c % 128 := Int.tmod_eq_emod_of_nonneg hc.1
      have hm8 : min i 8 = i := by omega
      rw [hm8] at hz
      subst hz
      have hp : 128 ^ i ≤ 128 ^ 8 := Nat.pow_le_pow_right (by omega) (by omega)
      have hm : c.toNat % 128 * 128 ^ i ≤ 127 * 128 ^ 8 := Nat.mul_le_mul (by omega) hp
      have hp8 : (128 : Nat) ^ 8 = 72057594037927936 := by decide
      have e2 : (c % 128) * ((128 ^ i : Nat) : Int) = ((c.toNat % 128 * 128 ^ i : Nat) : Int) := by
        have : ((c.toNat % 128 : Nat) : Int) = c % 128 := by omega
        rw [← this]; push_cast; rfl
      have e3 : a + ((c.toNat % 128 * 128 ^ i : Nat) : Int) = ((a.toNat + c.toNat % 128 * 128 ^ i : Nat) : Int) := by omega
      rw [wI_of (x := c) (by omega), e1, e2, wI_of (x := ((c.toNat % 128 * 128 ^ i : Nat) : Int)) (by omega), e3, wI_of (x := ((a.toNat + c.toNat % 128 * 128 ^ i : Nat) : Int)) (by omega)]
      have hn : ((a.toNat + c.toNat % 128 * 128 ^ i : Nat) : Int).toNat = a.toNat + c.toNat % 128 * 128 ^ i := Int.toNat_natCast _
      rw [getF]
      by_cases h128 : 128 ≤ c
      · right
        have hlt : a.toNat + c.toNat % 128 * 128 ^ i < 128 ^ (i + 1) := by
          rw [Nat.pow_succ]
          have : c.toNat % 128 * 128 ^ i ≤ 127 * 128 ^ i := Nat.mul_le_mul_right _ (by omega)
          omega
        rw [if_pos h128, if_neg (by omega)]
        by_cases h8 : i < 8
        · rw [if_pos (by omega), wI_mul (Int.natCast_nonneg _) (Int.ofNat_le.2 (Nat.le_trans (Nat.pow_le_pow_right (by omega) (by omega : i ≤ 7)) (by decide))), wI_of (by omega)]
          refine ⟨_, rfl, ?_, by simp only; omega, ?_⟩
          · simp only [hn]
            rw [show ((i : Int) + 1).toNat = i + 1 by omega, show min (i + 1) 8 = i + 1 by omega]
            refine ⟨⟨⟨by omega, by omega⟩, by omega, hlt⟩, ?_, by omega⟩
            rw [Nat.pow_succ]; push_cast; rfl
          · simp only [hn, show ((i : Int) + 1).toNat = i + 1 by omega, show 9 - (i + 1) = k by omega]
        · rw [if_neg (by omega), wI_of (by omega)]
          refine ⟨_, rfl, ?_, by simp only; omega, ?_⟩
          · simp only [hn]
            rw [show ((i : Int) + 1).toNat = i + 1 by omega, show min (i + 1) 8 = i by omega]
            exact ⟨⟨⟨by omega, by omega⟩, by omega, hlt⟩, rfl, by omega⟩
          · simp only [hn, show ((i : Int) + 1).toNat = i + 1 by omega, show 9 - (i + 1) = k by omega]
      · left
        have e4 : c.toNat % 128 = c.toNat := by omega
        rw [if_neg h128, if_pos (by omega), e4]
        by_cases hr : 1152921504606846976 < a.toNat + c.toNat * 128 ^ i
        · rw [if_pos hr, if_pos (by omega)]
        · rw [if_neg hr, if_neg (by omega)]
          by_cases hz : c = 0 ∧ 0 < i
          · rw [if_pos hz, show (decide (c = 0) && decide ((0 : Int) < (i : Int))) = true from by simp only [Bool.and_eq_true, decide_eq_true_eq]; omega]; rfl
          · rw [if_neg hz, show (decide (c = 0) && decide ((0 : Int) < (i : Int))) = false from by simp only [Bool.and_eq_false_iff, decide_eq_false_iff_not]; omega]
            rw [iteM_false, wI_of (by omega), gdM_pos (by omega)]
            simp only [Int.toNat_natCast, List.take_length, show ((i : Int) + 1).toNat = i + 1 by omega]
  · left
    have : i = 9 := by omega
    subst this
    rw [if_neg (by omega)]; rfl
theorem getInt5_eq {b : List Int} (ho : Oct b) : ref05_GetInt b = some (getI b) := by
  have h : ref05_GetInt b = codec_GetInt b := by
    unfold ref05_GetInt codec_GetInt
    rw [getUint5_eq ho, GetUint_eq ho]
  rw [h, GetInt_eq ho]
theorem getText5_eq {b : List Int} (ho : Oct b) : ref05_GetText b = some (getT b) := by
  have h : ref05_GetText b = codec_GetText b := by
    unfold ref05_GetText codec_GetText
    rw [getUint5_eq ho, GetUint_eq ho]
  rw [h, GetText_eq ho]

theorem loop_get {σ α β : Type} {p : P α} {Q : α → Prop} {ph : σ → List (Nat × AV)} {ob : σ → List Obj} {step : σ → Option (σ ⊕ β)} (St : List Int → List α → Int → σ) (fin : List α → List Int → β) (bad : Int → β) (n : Nat)
    (hq : ∀ b x r, Oct b → p b = .ok (x, r) → Oct r ∧ Q x)
    (hst : ∀ b l (i : Nat), Oct b → i < n → l.length = i → step (St b l (i : Int)) = match p b with | .ok (x, r) => some (.inl (St r (l ++ [x]) ((i + 1 : Nat) : Int))) | .error e => some (.inr (bad e)))
    (hen : ∀ b l, Oct b → l.length = n → (∀ x ∈ l, Q x) → step (St b l (n : Int)) = some (.inr (fin l b))) :
    ∀ (k i : Nat) (b : List Int) (l : List α), Oct b → i + k = n → l.length = i → (∀ x ∈ l, Q x) → loopM ph ob step (St b l (i : Int)) = some (match pMany p k b with | .ok (l', r) => fin (l ++ l') r | .error e => bad e)
  | 0, i, b, l, ho, hi, hl, hQ => by
    have : i = n := by omega
    subst this
    rw [loopM_unf, hen b l ho hl hQ]
    simp [pMany]
  | k + 1, i, b, l, ho, hi, hl, hQ => by
    rw [loopM_unf, hst b l i ho (by omega) hl]
    cases hp : p b with
    | error e => rw [pMany_err hp]; rfl
    | ok x =>
      obtain ⟨x, r⟩ := x
      obtain ⟨h1, h2⟩ := hq b x r ho hp
      have ih := loop_get (ph := ph) (ob := ob) St fin bad n hq hst hen k (i + 1) r (l ++ [x]) h1 (by omega) (by simp [hl]) (fun y hy => by
        rcases List.mem_append.1 hy with hy | hy
        · exact hQ y hy
        · simp at hy; subst hy; exact h2)
      simp only [Option.bind_some, Sum.elim_inl]
      rw [ih, pMany_ok hp]
      cases pMany p k r with
      | error e => rfl
      | ok z => simp

theorem pU5 {b : List Int} (ho : Oct b) : ref05_GetUint b = some (toT 0 (pU b)) := by rw [getUint5_eq ho, pU_eq]
theorem pT5 {b : List Int} (ho : Oct b) : ref05_GetText b = some (toT [] (pT b)) := by rw [getText5_eq ho, pT_eq]
theorem pI5 {b : List Int} (ho : Oct b) : ref05_GetInt b = some (toT 0 (pI b)) := by rw [getInt5_eq ho, pI_eq]
theorem pL5 {b : List Int} (ho : Oct b) : ref05_GetLabels b = some (toT [] (pL b)) := by
  unfold ref05_GetLabels
  rw [pU5 ho, callM_some]
  simp only [letE_eq, iteM_not, iteM_dec, retM_eq, tokM_eq, letO_eq, exitM_some, nextM_eq]
  cases hp : pU b with
  | error e =>
    have hne := pU_safe _ _ hp
    simp only [toT, hne, if_false, pL, pChk, pCount, hp]
  | ok x =>
    obtain ⟨n, r⟩ := x
    have hor : Oct r := pU_cd.rest ho hp
    obtain ⟨_, hn0, _⟩ := pU_cd.inv b n r ho hp
    simp only [toT, if_true]
    by_cases h16 : 16 < n
    · simp only [h16, if_true, pL, pChk, pCount, hp]
    · simp only [h16, if_false]
      refine (loop_get (p := pPair) (Q := okPair) (fun b l i => (b, l, i)) (fun l b => if saneB l then (l, b, 0) else (([] : List GPair), ([] : List Int), (1 : Int))) (fun e => ([], [], e)) n.toNat
        (fun b x r ho h => ⟨pPair_cd.rest ho h, (pPair_cd.inv b x r ho h).2⟩) ?_ ?_ n.toNat 0 r [] hor (by omega) rfl (fun x hx => by cases hx)).trans ?_
      · intro b l i hob hi hl
        simp only
        rw [if_pos (by omega), pT5 hob, callM_some]
        cases h1 : pT b with
        | error e =>
          have hne := pT_safe _ _ h1
          simp only [toT, hne, if_false, pPair_err1 h1]
        | ok y =>
          obtain ⟨s, r1⟩ := y
          have o1 : Oct r1 := pT_cd.rest hob h1
          simp only [toT, if_true]
          rw [pT5 o1, callM_some]
          cases h2 : pT r1 with
          | error e =>
            have hne := pT_safe _ _ h2
            simp only [toT, hne, if_false, pPair_err2 h1 h2]
          | ok y2 =>
            obtain ⟨t, r2⟩ := y2
            simp only [toT, if_true]
            rw [gdM_pos (by simp; omega), wI_of (by omega), pPair_ok h1 h2]
            rfl
      · intro b l hob hl hQ
        simp only
        rw [if_neg (by omega)]
        have : ref03_Sane l = some (saneB l) := ref03_Sane_eq l (by omega) (fun p hp => by have := (hQ p hp).1; unfold okT at this; show p.Name.length ≤ _; omega)
        rw [this, callM_some]
        cases saneB l <;> rfl
      · simp only [pL, pChk, pCount, hp, h16, if_false]
        cases pMany pPair n.toNat r with
        | error e => rfl
        | ok z => simp only [List.nil_append]; split <;> rfl

theorem and3 : ∀ n : Nat, n ≤ 15 → bAnd .i64 (n : Int) 3 = Int.tmod (n : Int) 4 := by decide +kernel
theorem getAlert20_eq {b : List Int} (ho : Oct b) : ref20_getAlert b = some (toT zA (pA b)) := by
  have hz : (⟨([] : (List GPair)), (⟨false, (0 : Int), false, (0 : Int)⟩ : GHold), (0 : Int), (0 : Int)⟩ : GAlert) = zA := rfl
  unfold ref20_getAlert pA pMap pRaw pSeq pChk
  rw [pL5 ho, callM_some]
  simp only [letE_eq, iteM_not, iteM_dec, retM_eq]
  cases k1 : pL b with
  | error e => have hne := pL_safe _ _ k1; simp only [toT, hne, if_false] <;> rfl
  | ok y1 =>
    obtain ⟨x1, r1⟩ := y1
    have o1 : Oct r1 := pL_cd.rest ho k1
    simp only [toT, if_true]
    rw [pU5 o1, callM_some]
    cases k2 : pU r1 with
    | error e => have hne := pU_safe _ _ k2; simp only [toT, hne, if_false] <;> rfl
    | ok y2 =>
      obtain ⟨x2, r2⟩ := y2
      have o2 : Oct r2 := pU_cd.rest o1 k2
      obtain ⟨_, hn0, _⟩ := pU_cd.inv r1 x2 r2 o1 k2
      simp only [toT, if_true]
      by_cases hle : 15 < x2
      · have hl : le15 x2 = false := by simp only [le15, decide_eq_false_iff_not]; omega
        simp only [hle, hl, if_true] <;> rfl
      · have hl : le15 x2 = true := by simp only [le15, decide_eq_true_eq]; omega
        simp only [hle, hl, if_false, if_true, pU5 o2, callM_some]
        cases k3 : pU r2 with
        | error e => have hne := pU_safe _ _ k3; simp only [toT, hne, if_false] <;> rfl
        | ok y3 =>
          obtain ⟨x3, r3⟩ := y3
          have o3 : Oct r3 := pU_cd.rest o2 k3
          simp only [toT, if_true]
          rw [pU5 o3, callM_some]
          cases k4 : pU r3 with
          | error e => have hne := pU_safe _ _ k4; simp only [toT, hne, if_false] <;> rfl
          | ok y4 =>
            obtain ⟨x4, r4⟩ := y4
            have o4 : Oct r4 := pU_cd.rest o3 k4
            simp only [toT, if_true]
            rw [pI5 o4, callM_some]
            cases k5 : pI r4 with
            | error e => have hne := pI_safe _ _ k5; simp only [toT, hne, if_false] <;> rfl
            | ok y5 =>
              simp only [toT, if_true]
              have := and3 x2.toNat (by omega)
              rw [show ((x2.toNat : Nat) : Int) = x2 by omega] at this
              rw [this]; rfl
def zS : GSaved := ⟨⟨[], []⟩, ⟨[], 0⟩⟩
theorem getTable20_eq {b : List Int} (ho : Oct b) : ref20_getTable b = some (toT zS (pS b)) := by
  unfold ref20_getTable pS pMap pS0 pSeq
  rw [pT5 ho, callM_some]
  simp only [letE_eq, iteM_not, iteM_dec, retM_eq, bif_and, tokB_eq, letO_eq, exitM_some, nextM_eq]
  cases k1 : pT b with
  | error e => have hne := pT_safe _ _ k1; simp only [toT, hne, if_false] <;> rfl
  | ok y1 =>
    obtain ⟨x1, r1⟩ := y1
    have o1 : Oct r1 := pT_cd.rest ho k1
    simp only [toT, if_true]
    rw [pT5 o1, callM_some]
    cases k2 : pT r1 with
    | error e => have hne := pT_safe _ _ k2; simp only [toT, hne, if_false] <;> rfl
    | ok y2 =>
      obtain ⟨x2, r2⟩ := y2
      have o2 : Oct r2 := pT_cd.rest o1 k2
      simp only [toT, if_true]
      rw [pU5 o2, callM_some]
      cases k3 : pU r2 with
      | error e => have hne := pU_safe _ _ k3; simp only [toT, hne, if_false] <;> rfl
      | ok y3 =>
        obtain ⟨x3, r3⟩ := y3
        have o3 : Oct r3 := pU_cd.rest o2 k3
        simp only [toT, if_true]
        rw [pU5 o3, callM_some]
        unfold pCount
        cases k4 : pU r3 with
        | error e =>
          have hne := pU_safe _ _ k4
          simp only [toT, hne, decide_false, Bool.false_and, iteM_false, if_false] <;> rfl
        | ok y4 =>
          obtain ⟨n, r4⟩ := y4
          have o4 : Oct r4 := pU_cd.rest o3 k4
          obtain ⟨_, hn0, _⟩ := pU_cd.inv r3 n r4 o3 k4
          simp only [toT, if_true, decide_true, Bool.true_and, iteM_dec]
          by_cases h16 : 16 < n
          · simp [h16]; rfl
          · simp only [h16, decide_false, iteM_false, if_false]
            refine (loop_get (p := pA) (Q := fun _ => True) (fun b l i => (l, b, i)) (fun l b => ((⟨⟨x1, x2⟩, ⟨l, x3⟩⟩ : GSaved), b, (0 : Int))) (fun e => (zS, [], e)) n.toNat
              (fun b x r ho h => ⟨pA_cd.rest ho h, trivial⟩) ?_ ?_ n.toNat 0 r4 [] o4 (by omega) rfl (fun x hx => by cases hx)).trans ?_
            · intro b l i hob hi hl
              simp only
              rw [if_pos (by omega), getAlert20_eq hob, callM_some]
              cases h1 : pA b with
              | error e =>
                have hne := pA_safe _ _ h1
                simp only [toT, hne, if_false] <;> rfl
              | ok y =>
                obtain ⟨s, r1⟩ := y
                simp only [toT, if_true]
                rw [gdM_pos (by simp; omega), wI_of (by omega)]; rfl
            · intro b l hob hl hQ
              simp only
              rw [if_neg (by omega)]
            · cases pMany pA n.toNat r4 with
              | error e => rfl
              | ok z => rfl
theorem SmD.ok {l : List GSaved} (hl : l.length ≤ 256) (h : ∀ s ∈ l, okS' s) : SmD l := by
  refine ⟨by omega, fun s hs => ⟨by have := (h s hs).2.2.2.1; omega, fun a ha => Sml.sane ((h s hs).2.2.2.2 a ha).1.lab⟩, fun s hs => ?_⟩
  have h1 := (h s hs).1
  have h2 := (h s hs).2.1
  unfold okT at h1 h2
  constructor <;> omega
theorem ref20_Get_eq {b : List Int} (ho : Oct b) : ref20_Get b = some (getD' b) := by
  unfold ref20_Get getD' pCount
  rw [pU5 ho, callM_some]
  simp only [letE_eq, iteM_not, iteM_dec, retM_eq, tokM_eq, letO_eq, exitM_some, nextM_eq]
  cases hp : pU b with
  | error e =>
    have hne := pU_safe _ _ hp
    simp only [toT, hne, if_false]
  | ok x =>
    obtain ⟨n, r⟩ := x
    have hor : Oct r := pU_cd.rest ho hp
    obtain ⟨_, hn0, _⟩ := pU_cd.inv b n r ho hp
    simp only [toT, if_true]
    by_cases h16 : 256 < n
    · simp only [h16, if_true]
    · simp only [h16, if_false]
      refine (loop_get (p := pS) (Q := okS') (fun b l i => (b, l, i)) (fun l r => if 0 < r.length then (([] : List GSaved), (1 : Int)) else if svB l then (l, 0) else ([], 1)) (fun e => ([], e)) n.toNat
        (fun b x r ho h => ⟨pS_cd.rest ho h, (pS_cd.inv b x r ho h).2⟩) ?_ ?_ n.toNat 0 r [] hor (by omega) rfl (fun x hx => by cases hx)).trans ?_
      · intro b l i hob hi hl
        simp only
        rw [if_pos (by omega), getTable20_eq hob, callM_some]
        cases h1 : pS b with
        | error e =>
          have hne := pS_safe _ _ h1
          simp only [toT, hne, if_false]
        | ok y =>
          obtain ⟨s, r1⟩ := y
          simp only [toT, if_true]
          rw [gdM_pos (by simp; omega), wI_of (by omega)]; rfl
      · intro b l hob hl hQ
        simp only
        rw [if_neg (by omega), ref20_Sane_eq (SmD.ok (by omega) hQ), callM_some]
        by_cases hr : 0 < b.length
        · rw [if_pos (by omega), if_pos hr]; rfl
        · rw [if_neg (by omega), if_neg hr]
          cases svB l <;> rfl
      · cases pMany pS n.toNat r with
        | error e => rfl
        | ok z => rfl

theorem few_len {l : List GPair} (h : fewB l = true) : l.length ≤ 40 := fewB_len h
theorem SmD.few {l : List GSaved} (h : fewD l = true) (b0 : okL okGSaved l) : SmD l := by
  have e : maxLen = 9223372036854775807 := rfl
  simp only [fewD, Bool.and_eq_true, decide_eq_true_eq] at h
  refine ⟨by have := h.2; omega, fun s hs => ?_, fun s hs => ?_⟩
  · have h1 := List.all_eq_true.1 h.1 s hs
    simp only [fewS, fewT, Bool.and_eq_true, decide_eq_true_eq] at h1
    refine ⟨by have := h1.1.2; omega, fun a ha => ⟨?_, fun p hp => ?_⟩⟩
    · have := fewB_len (List.all_eq_true.1 h1.1.1 a ha); omega
    · have := (((b0.2 s hs).2.1.2 a ha).1.2 p hp).1
      rw [← e]; exact this
  · have h1 := (b0.2 s hs).1
    rw [← e]
    exact ⟨h1.1, h1.2⟩
theorem getD_bd (b : List Int) (ho : Oct b) : Bd (getD' b).1 := by
  unfold getD'
  cases h : pCount 256 pS b with
  | error e => exact ⟨by simp [BIG], by simp, by simp⟩
  | ok x =>
    obtain ⟨l, r⟩ := x
    obtain ⟨_, k1, k2⟩ := pD_cd.inv b l r ho h
    have hz : Bd ([] : List GSaved) := ⟨by simp [BIG], by simp, by simp⟩
    have hb : Bd l := ⟨by unfold BIG; omega, fun s hs => by have := (k2 s hs).2.2.2.1; unfold BIG; omega, fun s hs a ha => by
      have := (saneB_iff.1 ((k2 s hs).2.2.2.2 a ha).1.lab).1
      unfold BIG
      show (unA a).1.length ≤ _
      omega⟩
    simp only
    split
    · exact hz
    · split
      · exact hb
      · exact hz
theorem law20_SnapIs_eq (l : List GSaved) (b : List Int) (k : GKey) (b0 : okL okGSaved l) (b1 : okL (okI .u8) b) (b2 : okGKey k) : law20_SnapIs l b k = some true := by
  have hb := Bd.of b0
  have ho : Oct b := by
    intro c hc
    obtain ⟨h1, h2⟩ := b1.2 c hc
    have e1 : IntKind.u8.min = 0 := rfl
    have e2 : IntKind.u8.max = 255 := rfl
    rw [e1] at h1; rw [e2] at h2; omega
  unfold law20_SnapIs
  rw [awake_eq, callM_some, ref20_Few_eq hb, callM_some]
  simp only [letE_eq, retM_eq, bif_or]
  cases hf : fewD l
  · rfl
  have hd := SmD.few hf b0
  simp only [Bool.not_true, Bool.false_or, iteM_dec]
  split
  · rfl
  split
  · rfl
  rw [snap_Get_eq ho, callM_some, ref20_Get_eq ho, callM_some]
  simp only [drawM_eq, iteM_true, ref20_Same_eq _ (getD_bd b ho), callM_some, decide_true, bif_and, Bool.true_and, snap_Sane_eq, ref20_Sane_eq hd, beq_self_eq_true, snap_Put_eq, ref20_Put_eq hd]
  have hl : l.length ≤ 256 ∨ svB l = false := by
    simp only [fewD, Bool.and_eq_true, decide_eq_true_eq] at hf
    exact .inl (by have := hf.2; omega)
  rw [snap_Find_eq l k hl, callM_some, ref20_Find_eq k hd, callM_some]
  have hx : (if svB l then findD l k else t0).A.length ≤ BIG ∧ ∀ a ∈ (if svB l then findD l k else t0).A, a.L.length ≤ BIG := by
    split
    · unfold findD
      split
      · rename_i s h'
        have := List.mem_of_find?_eq_some h'
        exact ⟨hb.tab s this, hb.lab s this⟩
      · exact ⟨by simp [t0, BIG], by simp [t0]⟩
    · exact ⟨by simp [t0, BIG], by simp [t0]⟩
  rw [ref17_Same_eq _ _ hx.1 hx.2, callM_some]
  simp
end Go.Proofs.YtoekflobllmeeaaGreatDoor.AM
