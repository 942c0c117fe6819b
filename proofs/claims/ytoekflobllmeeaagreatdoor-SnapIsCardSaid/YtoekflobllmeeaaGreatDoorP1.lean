/- A part of the proof: Lb, Yt, La, Lm, Ya, Yb, Za, Zb, Yc, Yd, Zc, Zd, Ze, Zf, Zg, Zh, Zi, Zj, Ye, Yf, Zk. -/
import Derived.Test.YtoekflobllmeeaaGreatDoorTy
import Derived.Test.YtoekflobllmeeaaGreatDoorA3
import Derived.Test.YtoekflobllmeeaaGreatDoorX2
import Derived.Test.YtoekflobllmeeaaGreatDoorMd
set_option linter.all false
/- Labels: what is computed, in plain words. -/
namespace Go.Proofs.YtoekflobllmeeaaGreatDoor.AM
open Go

theorem ltS_irrefl (a : Str) : ltS a a = false := bl_irrefl _
theorem ltS_trans {a b c : Str} (h : ltS a b = true) (k : ltS b c = true) : ltS a c = true := bl_trans h k
theorem ltS_total {a b : Str} (h : ltS a b = false) (k : ltS b a = false) : a = b := bl_total h k
theorem ltS_asymm {a b : Str} (h : ltS a b = true) : ltS b a = false := by
  cases hb : ltS b a
  · rfl
  · have := ltS_trans h hb; rw [ltS_irrefl] at this; cases this
theorem ltS_ntrans {a b c : Str} (h : ltS a b = false) (k : ltS b c = false) : ltS a c = false := by
  cases hac : ltS a c
  · rfl
  · cases hba : ltS b a
    · have := ltS_total h hba; subst this; rw [hac] at k; cases k
    · have := ltS_trans hba hac; rw [this] at k; cases k
def pr (l : List GPair) (k : Nat) : GPair := l.getD k default
theorem pr_get {l : List GPair} {k : Nat} (h : k < l.length) : l[k]? = some (pr l k) := by
  rw [pr, List.getD_eq_getElem?_getD, List.getElem?_eq_getElem h]; rfl
def letterI (c : Int) : Bool := (decide (97 ≤ c) && decide (c ≤ 122)) || (decide (65 ≤ c) && decide (c ≤ 90)) || decide (c = 95)
def digitI (c : Int) : Bool := decide (48 ≤ c) && decide (c ≤ 57)
def okAt (s : Str) (i : Nat) : Bool := letterI (s.getD i 0).toNat || (digitI (s.getD i 0).toNat && decide (i ≠ 0))
def nameB (s : Str) : Bool := decide (1 ≤ s.length) && decide (s.length ≤ 64) && (List.range s.length).all (okAt s)

theorem nameB_bad {s : Str} {k : Nat} (hk : k < s.length) (h : okAt s k = false) : nameB s = false := by
  simp only [nameB, Bool.and_eq_false_iff, List.all_eq_false, List.mem_range]
  exact .inr ⟨k, hk, by simp [h]⟩
theorem nameB_good {s : Str} (h1 : 1 ≤ s.length) (h2 : s.length ≤ 64) (h : ∀ i, i < s.length → okAt s i = true) : nameB s = true := by
  simp only [nameB, h1, h2, decide_true, Bool.true_and, List.all_eq_true, List.mem_range]
  exact h
theorem nameB_len {s : Str} (h : s.length < 1 ∨ 64 < s.length) : nameB s = false := by
  simp only [nameB, Bool.and_eq_false_iff, decide_eq_false_iff_not]
  omega
theorem okAt_def {s : Str} {k : Nat} : (okAt s k = true) ↔ ((((97 ≤ ((s.getD k 0).toNat : Int) ∧ ((s.getD k 0).toNat : Int) ≤ 122) ∨ (65 ≤ ((s.getD k 0).toNat : Int) ∧ ((s.getD k 0).toNat : Int) ≤ 90)) ∨ ((s.getD k 0).toNat : Int) = 95) ∨ ((48 ≤ ((s.getD k 0).toNat : Int) ∧ ((s.getD k 0).toNat : Int) ≤ 57) ∧ ¬ (k = 0))) := by
  simp only [okAt, letterI, digitI, Bool.or_eq_true, Bool.and_eq_true, decide_eq_true_eq, ne_eq]

def saneAt (l : List GPair) (i : Nat) : Bool := nameB (pr l i).1 && decide ((pr l i).2.length ≤ 64) && (decide (i = 0) || ltS (pr l (i - 1)).1 (pr l i).1)
def saneB (l : List GPair) : Bool := decide (l.length ≤ 16) && (List.range l.length).all (saneAt l)
theorem saneB_bad {l : List GPair} {k : Nat} (hk : k < l.length) (h : saneAt l k = false) : saneB l = false := by
  simp only [saneB, Bool.and_eq_false_iff, List.all_eq_false, List.mem_range]
  exact .inr ⟨k, hk, by simp [h]⟩
theorem saneB_good {l : List GPair} (h1 : l.length ≤ 16) (h : ∀ i, i < l.length → saneAt l i = true) : saneB l = true := by
  simp only [saneB, h1, decide_true, Bool.true_and, List.all_eq_true, List.mem_range]
  exact h
theorem saneB_len {l : List GPair} (h : 16 < l.length) : saneB l = false := by
  simp only [saneB, Bool.and_eq_false_iff, decide_eq_false_iff_not]; left; omega

def countsL (l : List GPair) : List GPair := if saneB l then l else []
def getFrom (n : Str) : List GPair → Str × Bool
  | [] => ([], false)
  | p :: l => if p.1 = n then (p.2, true) else getFrom n l
def getL (l : List GPair) (n : Str) : Str × Bool := getFrom n (countsL l)
def withoutL (l : List GPair) (n : Str) : List GPair := (countsL l).filter fun p => !decide (p.1 = n)

theorem getFrom_take {n : Str} {l : List GPair} : ∀ {k : Nat}, k ≤ l.length → (∀ i, i < k → (pr l i).1 ≠ n) → getFrom n l = getFrom n (l.drop k)
  | 0, _, _ => by simp
  | k + 1, hk, h => by
    rw [getFrom_take (k := k) (by omega) (fun i hi => h i (by omega))]
    have hk' : k < l.length := by omega
    have hp := pr_get hk'
    have : l.drop k = pr l k :: l.drop (k + 1) := by
      rw [List.drop_eq_getElem_cons hk']
      congr 1
      rw [List.getElem?_eq_getElem hk'] at hp
      exact Option.some.inj hp
    rw [this, getFrom, if_neg (h k (by omega))]
theorem drop_pr {l : List GPair} {k : Nat} (hk : k < l.length) : l.drop k = pr l k :: l.drop (k + 1) := by
  have hp := pr_get hk
  rw [List.drop_eq_getElem_cons hk]
  congr 1
  rw [List.getElem?_eq_getElem hk] at hp
  exact Option.some.inj hp
theorem take_pr {l : List GPair} {k : Nat} (hk : k < l.length) : l.take (k + 1) = l.take k ++ [pr l k] := by
  have hp := pr_get hk
  rw [List.take_add_one, hp]; rfl

theorem countsL_len (l : List GPair) : (countsL l).length ≤ 16 := by
  unfold countsL
  split
  · rename_i h
    simp only [saneB, Bool.and_eq_true, decide_eq_true_eq] at h
    exact h.1
  · simp

def cmpS (a b : Str) : Int := if ltS a b then -1 else if ltS b a then 1 else 0
theorem cmpS_neg {a b : Str} : cmpS a b < 0 ↔ ltS a b = true := by
  unfold cmpS
  split
  · simp [*]
  · split <;> simp [*]

def tooLong (p : GPair) : Bool := decide (64 < p.2.length)
def twice : List GPair → Bool
  | [] => false
  | p :: l => l.any (fun q => decide (q.1 = p.1)) || twice l
def insP (p : GPair) : List GPair → List GPair
  | [] => [p]
  | q :: l => if ltS p.1 q.1 then p :: q :: l else q :: insP p l
def sortP : List GPair → List GPair
  | [] => []
  | p :: l => insP p (sortP l)
def wrongE (l : List GPair) : Int :=
  if 16 < l.length then 4 else if l.any tooLong then 4 else if l.all (fun p => nameB p.1) then (if twice l then 6 else 0) else 7
def makeL (l : List GPair) : List GPair × Int := if wrongE l = 0 then (sortP l, 0) else ([], wrongE l)

theorem insP_perm (p : GPair) : ∀ l, (insP p l).Perm (p :: l)
  | [] => .refl _
  | q :: l => by
    unfold insP
    split
    · exact .refl _
    · exact ((insP_perm p l).cons q).trans (.swap p q l)
theorem sortP_perm : ∀ l, (sortP l).Perm l
  | [] => .refl _
  | p :: l => (insP_perm p _).trans ((sortP_perm l).cons p)

def Asc (l : List GPair) : Prop := l.Pairwise (fun p q => ltS q.1 p.1 = false)
theorem insP_asc (p : GPair) : ∀ {l : List GPair}, Asc l → Asc (insP p l)
  | [], _ => by simp [insP, Asc]
  | q :: l, h => by
    obtain ⟨h1, h2⟩ := List.pairwise_cons.1 h
    unfold insP
    split
    · rename_i hl
      refine List.pairwise_cons.2 ⟨?_, h⟩
      intro r hr
      rcases List.mem_cons.1 hr with rfl | hr
      · exact ltS_asymm hl
      · have := h1 r hr
        cases hc : ltS r.1 p.1
        · rfl
        · have := ltS_trans hc hl; rw [h1 r hr] at this; cases this
    · rename_i hl
      refine List.pairwise_cons.2 ⟨?_, insP_asc p h2⟩
      intro r hr
      rcases List.mem_cons.1 ((insP_perm p l).mem_iff.1 hr) with rfl | hr
      · simpa using hl
      · exact h1 r hr
theorem sortP_asc : ∀ l, Asc (sortP l)
  | [] => .nil
  | p :: l => insP_asc p (sortP_asc l)

theorem twice_nodup : ∀ {l : List GPair}, twice l = false → (l.map (·.1)).Nodup
  | [], _ => .nil
  | p :: l, h => by
    simp only [twice, Bool.or_eq_false_iff, List.any_eq_false, decide_eq_true_eq] at h
    simp only [List.map_cons, List.nodup_cons, List.mem_map, not_exists, not_and]
    exact ⟨fun q hq => h.1 q hq, twice_nodup h.2⟩

/-- Sorted, with no name twice: only one way. -/
theorem asc_unique : ∀ {l m : List GPair}, Asc l → Asc m → l.Perm m → (l.map (·.1)).Nodup → l = m
  | [], m, _, _, h, _ => (List.nil_perm.1 h).symm
  | p :: l, [], _, _, h, _ => absurd h.length_eq (by simp)
  | p :: l, q :: m, h1, h2, h3, h4 => by
    obtain ⟨a1, a2⟩ := List.pairwise_cons.1 h1
    obtain ⟨b1, b2⟩ := List.pairwise_cons.1 h2
    have hpq : p = q := by
      have hp : p ∈ q :: m := h3.mem_iff.1 List.mem_cons_self
      have hq : q ∈ p :: l := h3.mem_iff.2 List.mem_cons_self
      rcases List.mem_cons.1 hp with h | hp
      · exact h
      rcases List.mem_cons.1 hq with h | hq
      · exact h.symm
      have e := ltS_total (a1 q hq) (b1 p hp)
      have hn := (List.nodup_cons.1 h4).1
      exact (hn (List.mem_map.2 ⟨q, hq, e⟩)).elim
    subst hpq
    rw [asc_unique a2 b2 (h3.cons_inv) (List.nodup_cons.1 h4).2]

theorem sortP_eq {l m : List GPair} (h : twice l = false) (hp : m.Perm l) (ha : Asc m) : m = sortP l :=
  asc_unique ha (sortP_asc l) (hp.trans (sortP_perm l).symm) ((hp.map (·.1)).nodup_iff.2 (twice_nodup h))

theorem twice_take {l : List GPair} {k : Nat} (hk : k < l.length) (h : (l.take k).any (fun q => decide (q.1 = (pr l k).1)) = true) : twice l = true := by
  induction l generalizing k with
  | nil => simp at hk
  | cons p l ih =>
    cases k with
    | zero => simp at h
    | succ k =>
      have hp : pr (p :: l) (k + 1) = pr l k := rfl
      rw [hp] at h
      simp only [List.take_succ_cons, List.any_cons, Bool.or_eq_true, decide_eq_true_eq] at h
      simp only [twice, Bool.or_eq_true, List.any_eq_true, decide_eq_true_eq]
      simp only [List.length_cons] at hk
      rcases h with h | h
      · left; exact ⟨pr l k, List.mem_of_getElem? (pr_get (by omega)), h.symm⟩
      · right; exact ih (by omega) h
theorem twice_none {l : List GPair} (h : ∀ k, k < l.length → (l.take k).any (fun q => decide (q.1 = (pr l k).1)) = false) : twice l = false := by
  induction l with
  | nil => rfl
  | cons p l ih =>
    simp only [twice, Bool.or_eq_false_iff]
    constructor
    · rw [List.any_eq_false]
      intro q hq
      obtain ⟨j, hj, rfl⟩ := List.mem_iff_getElem.1 hq
      have := h (j + 1) (by simp; omega)
      simp only [List.take_succ_cons, List.any_cons, Bool.or_eq_false_iff] at this
      have e : pr (p :: l) (j + 1) = l[j] := by
        have := pr_get (l := p :: l) (k := j + 1) (by simp; omega)
        simp only [List.getElem?_cons_succ, List.getElem?_eq_getElem hj] at this
        exact (Option.some.inj this).symm
      rw [e] at this
      simp only [decide_eq_true_eq, decide_eq_false_iff_not] at this ⊢
      exact fun e => this.1 e.symm
    · refine ih fun k hk => ?_
      have := h (k + 1) (by simp; omega)
      simp only [List.take_succ_cons, List.any_cons, Bool.or_eq_false_iff] at this
      exact this.2

theorem makeL_of {l : List GPair} {e : Int} (h : wrongE l = e) (he : e ≠ 0) : makeL l = ([], e) := by rw [makeL, h, if_neg he]
theorem makeL_ok {l : List GPair} (h : wrongE l = 0) : makeL l = (sortP l, 0) := by rw [makeL, if_pos h]
def withL (l : List GPair) (n v : Str) : List GPair × Int := makeL (withoutL l n ++ [⟨n, v⟩])
theorem withoutL_len (l : List GPair) (n : Str) : (withoutL l n).length ≤ 16 := Nat.le_trans (List.length_filter_le _ _) (countsL_len l)
def mergeLL (a b : List GPair) : List GPair × Int := makeL ((countsL a).filter (fun p => !(getL (countsL b) p.1).2) ++ countsL b)
def cmpP (p q : GPair) : Int := if cmpS p.1 q.1 ≠ 0 then cmpS p.1 q.1 else cmpS p.2 q.2
def cmpLs : List GPair → List GPair → Int
  | [], [] => 0
  | [], _ :: _ => -1
  | _ :: _, [] => 1
  | p :: a, q :: b => if cmpP p q ≠ 0 then cmpP p q else cmpLs a b
theorem cmpLs_drop {a b : List GPair} : ∀ {k : Nat}, k ≤ a.length → k ≤ b.length → (∀ i, i < k → cmpP (pr a i) (pr b i) = 0) → cmpLs a b = cmpLs (a.drop k) (b.drop k)
  | 0, _, _, _ => by simp
  | k + 1, h1, h2, h => by
    rw [cmpLs_drop (k := k) (by omega) (by omega) (fun i hi => h i (by omega)), drop_pr (l := a) (by omega), drop_pr (l := b) (by omega), cmpLs, if_neg (by simp [h k (by omega)])]

def compareL (a b : List GPair) : Int := cmpLs (countsL a) (countsL b)
def sumW (l : List GPair) : Nat → Int
  | 0 => 0
  | k + 1 => IntKind.i64.wrap (IntKind.i64.wrap (sumW l k + (pr l k).1.length) + (pr l k).2.length)
def fewB (l : List GPair) : Bool := decide (l.length ≤ 40) && decide (sumW l l.length ≤ 3000)
theorem fewB_len {l : List GPair} (h : fewB l = true) : l.length ≤ 40 := by
  simp only [fewB, Bool.and_eq_true, decide_eq_true_eq] at h; exact h.1

/-- The four conditions. -/
structure Good (l : List GPair) : Prop where
  len : l.length ≤ 16
  short : ∀ p ∈ l, tooLong p = false
  name : ∀ p ∈ l, nameB p.1 = true
  once : twice l = false

theorem wrongE_zero {l : List GPair} : wrongE l = 0 ↔ Good l := by
  unfold wrongE
  constructor
  · intro h
    split at h
    · cases h
    · rename_i h1
      split at h
      · cases h
      · rename_i h2
        split at h
        · rename_i h3
          split at h
          · cases h
          · rename_i h4
            exact ⟨by omega, by simpa using h2, by simpa using h3, by simpa using h4⟩
        · cases h
  · rintro ⟨h1, h2, h3, h4⟩
    rw [if_neg (by omega), if_neg (by simpa using h2), if_pos (by simpa using h3), if_neg (by simp [h4])]

theorem twice_iff {l : List GPair} : twice l = false ↔ (l.map (·.1)).Nodup := by
  constructor
  · exact twice_nodup
  · intro h
    induction l with
    | nil => rfl
    | cons p l ih =>
      obtain ⟨h1, h2⟩ := List.nodup_cons.1 h
      simp only [twice, Bool.or_eq_false_iff, List.any_eq_false, decide_eq_true_eq]
      exact ⟨fun q hq e => h1 (List.mem_map.2 ⟨q, hq, e⟩), ih h2⟩

theorem Good.perm {l m : List GPair} (h : Good l) (hp : m.Perm l) : Good m :=
  ⟨by rw [hp.length_eq]; exact h.len, fun p hm => h.short p (hp.mem_iff.1 hm), fun p hm => h.name p (hp.mem_iff.1 hm),
    twice_iff.2 (((hp.map (·.1)).nodup_iff).2 (twice_iff.1 h.once))⟩

theorem makeL_good {l : List GPair} (h : Good l) : makeL l = (sortP l, 0) := makeL_ok (wrongE_zero.2 h)
theorem makeL_perm {l m : List GPair} (h : Good l) (hp : m.Perm l) : makeL m = (sortP l, 0) := by
  rw [makeL_good (h.perm hp)]
  rw [sortP_eq h.once ((sortP_perm m).trans hp) (sortP_asc m)]
theorem sortP_sorted {l : List GPair} (h : Good l) (ha : Asc l) : sortP l = l := (sortP_eq h.once (.refl l) ha).symm


/-- Ascending, no name twice: strictly ascending. -/
theorem saneB_iff {l : List GPair} : saneB l = true ↔ l.length ≤ 16 ∧ (∀ p ∈ l, nameB p.1 = true) ∧ (∀ p ∈ l, p.2.length ≤ 64) ∧ l.Pairwise (fun p q => ltS p.1 q.1 = true) := by
  have hpr : ∀ p ∈ l, ∃ i, i < l.length ∧ pr l i = p := by
    intro p hp
    obtain ⟨i, hi, rfl⟩ := List.mem_iff_getElem.1 hp
    have e := pr_get hi
    rw [List.getElem?_eq_getElem hi] at e
    exact ⟨i, hi, (Option.some.inj e).symm⟩
  constructor
  · intro h
    simp only [saneB, Bool.and_eq_true, decide_eq_true_eq, List.all_eq_true, List.mem_range] at h
    obtain ⟨h1, h2⟩ := h
    have h3 : ∀ i, i < l.length → nameB (pr l i).1 = true ∧ (pr l i).2.length ≤ 64 ∧ (i = 0 ∨ ltS (pr l (i - 1)).1 (pr l i).1 = true) := by
      intro i hi
      have := h2 i hi
      simp only [saneAt, Bool.and_eq_true, decide_eq_true_eq, Bool.or_eq_true] at this
      exact ⟨this.1.1, this.1.2, this.2⟩
    refine ⟨h1, ?_, ?_, ?_⟩
    · intro p hp; obtain ⟨i, hi, rfl⟩ := hpr p hp; exact (h3 i hi).1
    · intro p hp; obtain ⟨i, hi, rfl⟩ := hpr p hp; exact (h3 i hi).2.1
    · rw [List.pairwise_iff_getElem]
      have key : ∀ (d i : Nat), i + d + 1 < l.length → ltS (pr l i).1 (pr l (i + d + 1)).1 = true := by
        intro d
        induction d with
        | zero =>
          intro i hi
          rcases (h3 (i + 0 + 1) hi).2.2 with h | h
          · omega
          · simpa using h
        | succ d ih =>
          intro i hi
          have a := ih i (by omega)
          rcases (h3 (i + (d + 1) + 1) hi).2.2 with h | h
          · omega
          · exact ltS_trans a (by simpa [Nat.add_assoc] using h)
      intro i j hi hj hij
      have e1 := pr_get hi
      have e2 := pr_get hj
      rw [List.getElem?_eq_getElem hi] at e1
      rw [List.getElem?_eq_getElem hj] at e2
      rw [Option.some.inj e1, Option.some.inj e2]
      have := key (j - i - 1) i (by omega)
      rwa [show i + (j - i - 1) + 1 = j from by omega] at this
  · rintro ⟨h1, h2, h3, h4⟩
    refine saneB_good h1 fun i hi => ?_
    have hm : pr l i ∈ l := List.mem_of_getElem? (pr_get hi)
    simp only [saneAt, h2 _ hm, h3 _ hm, decide_true, Bool.true_and, Bool.or_eq_true, decide_eq_true_eq]
    rcases Nat.eq_zero_or_pos i with h | h
    · exact .inl h
    · right
      have := List.pairwise_iff_getElem.1 h4 (i - 1) i (by omega) hi (by omega)
      have e1 := pr_get (l := l) (k := i - 1) (by omega)
      have e2 := pr_get hi
      rw [List.getElem?_eq_getElem (by omega)] at e1
      rw [List.getElem?_eq_getElem hi] at e2
      rw [Option.some.inj e1, Option.some.inj e2] at this
      exact this

theorem saneB_good' {l : List GPair} (h : saneB l = true) : Good l ∧ Asc l := by
  obtain ⟨h1, h2, h3, h4⟩ := saneB_iff.1 h
  refine ⟨⟨h1, fun p hp => by have := h3 p hp; simp only [tooLong, decide_eq_false_iff_not]; omega, h2, twice_iff.2 ?_⟩, h4.imp fun h => ltS_asymm h⟩
  rw [List.Nodup, List.pairwise_map]
  exact h4.imp fun {a b} hab he => by rw [he, ltS_irrefl] at hab; cases hab

theorem sane_of_good {l : List GPair} (h : Good l) (ha : Asc l) : saneB l = true := by
  refine saneB_iff.2 ⟨h.len, h.name, fun p hp => by have := h.short p hp; simp only [tooLong, decide_eq_false_iff_not] at this; omega, ?_⟩
  have hn := twice_iff.1 h.once
  rw [List.Nodup, List.pairwise_map] at hn
  refine (ha.and hn).imp ?_
  rintro a b ⟨h1, h2⟩
  cases hc : ltS a.1 b.1
  · exact (h2 (ltS_total hc h1)).elim
  · rfl

theorem getFrom_mem {l : List GPair} (h : (l.map (·.1)).Nodup) {p : GPair} (hp : p ∈ l) : getFrom p.1 l = (p.2, true) := by
  induction l with
  | nil => cases hp
  | cons q l ih =>
    obtain ⟨h1, h2⟩ := List.nodup_cons.1 h
    unfold getFrom
    rcases List.mem_cons.1 hp with rfl | hp
    · rw [if_pos rfl]
    · rw [if_neg (fun e => h1 (List.mem_map.2 ⟨p, hp, e.symm⟩))]
      exact ih h2 hp
theorem getL_mem {l : List GPair} (hs : saneB l = true) {p : GPair} (hp : p ∈ l) : getL l p.1 = (p.2, true) := by
  rw [getL, countsL, if_pos hs]
  exact getFrom_mem (twice_iff.1 (saneB_good' hs).1.once) hp
theorem sane_sortP {l : List GPair} (h : Good l) : saneB (sortP l) = true := sane_of_good (h.perm (sortP_perm l)) (sortP_asc l)
theorem getL_sortP {l : List GPair} (h : Good l) {p : GPair} (hp : p ∈ l) : getL (sortP l) p.1 = (p.2, true) := getL_mem (sane_sortP h) ((sortP_perm l).mem_iff.2 hp)
theorem makeL_sortP {l : List GPair} (h : Good l) : makeL (sortP l) = (sortP l, 0) := makeL_perm h (sortP_perm l)
theorem makeL_reverse {l : List GPair} (h : Good l) : makeL l.reverse = (sortP l, 0) := makeL_perm h (List.reverse_perm l)
theorem makeL_bad {l : List GPair} (h : ¬ Good l) : (makeL l).1 = [] ∧ (makeL l).2 ≠ 0 ∧ saneB l = false := by
  have hw : wrongE l ≠ 0 := fun e => h (wrongE_zero.1 e)
  rw [makeL_of rfl hw]
  refine ⟨rfl, hw, ?_⟩
  cases hs : saneB l
  · rfl
  · exact (h (saneB_good' hs).1).elim


structure Ord3 {α : Type} (f : α → α → Int) : Prop where
  rng : ∀ a b, f a b = -1 ∨ f a b = 0 ∨ f a b = 1
  anti : ∀ a b, f b a = - f a b
  zero : ∀ a b, f a b = 0 ↔ a = b
  trans : ∀ a b c, f a b ≤ 0 → f b c ≤ 0 → f a c ≤ 0

theorem cmpS_ord : Ord3 cmpS := by
  refine ⟨fun a b => ?_, fun a b => ?_, fun a b => ?_, fun a b c => ?_⟩
  · unfold cmpS; split
    · exact .inl rfl
    · split
      · exact .inr (.inr rfl)
      · exact .inr (.inl rfl)
  · unfold cmpS
    cases h : ltS a b
    · cases h2 : ltS b a <;> simp
    · rw [ltS_asymm h]; simp
  · unfold cmpS
    cases h : ltS a b
    · cases h2 : ltS b a
      · simp [ltS_total h h2]
      · simp only [Bool.false_eq_true, if_false, if_true]
        constructor
        · intro h; cases h
        · rintro rfl; rw [ltS_irrefl] at h2; cases h2
    · simp only [if_true]
      constructor
      · intro h; cases h
      · rintro rfl; rw [ltS_irrefl] at h; cases h
  · have key : ∀ a b, cmpS a b ≤ 0 ↔ ltS b a = false := by
      intro a b
      unfold cmpS
      cases h : ltS a b
      · cases h2 : ltS b a <;> simp
      · simp [ltS_asymm h]
    rw [key, key, key]
    intro h1 h2
    exact ltS_ntrans h2 h1

theorem cmpP_ord : Ord3 cmpP := by
  refine ⟨fun a b => ?_, fun a b => ?_, fun a b => ?_, fun a b c => ?_⟩
  · unfold cmpP; split
    · exact cmpS_ord.rng _ _
    · exact cmpS_ord.rng _ _
  · unfold cmpP
    rw [cmpS_ord.anti a.1 b.1, cmpS_ord.anti a.2 b.2]
    by_cases h : cmpS a.1 b.1 = 0
    · simp [h]
    · rw [if_pos (by omega), if_pos h]
  · unfold cmpP
    by_cases h : cmpS a.1 b.1 = 0
    · rw [if_neg (by simp [h]), cmpS_ord.zero]
      rw [cmpS_ord.zero] at h
      exact ⟨fun e => by cases a; cases b; simp only at h e; subst h; subst e; rfl, fun e => by rw [e]⟩
    · rw [if_pos h]
      refine ⟨fun e => absurd e h, fun e => ?_⟩
      subst e
      exact absurd ((cmpS_ord.zero _ _).2 rfl) h
  · unfold cmpP
    intro h1 h2
    have t1 := cmpS_ord.trans a.1 b.1 c.1
    have t2 := cmpS_ord.trans a.2 b.2 c.2
    have u1 := cmpS_ord.trans c.1 b.1 a.1
    have n1 := cmpS_ord.anti a.1 b.1
    have n2 := cmpS_ord.anti b.1 c.1
    have n3 := cmpS_ord.anti a.1 c.1
    split at h1
    · split at h2
      · rename_i g1 g2
        have h3 := t1 h1 h2
        rw [if_pos]
        · exact h3
        · intro h0
          have e := (cmpS_ord.zero a.1 c.1).1 h0
          rw [e] at h1 g1 n1
          omega
      · rename_i g1 g2
        have e : b.1 = c.1 := (cmpS_ord.zero _ _).1 (by omega)
        rw [← e, if_pos g1]; exact h1
    · rename_i g1
      have e : a.1 = b.1 := (cmpS_ord.zero _ _).1 (by omega)
      split at h2
      · rename_i g2
        rw [e, if_pos g2]; exact h2
      · rename_i g2
        rw [e, if_neg g2]
        exact t2 h1 h2

theorem cmpLs_ord : Ord3 cmpLs := by
  refine ⟨fun a b => ?_, fun a b => ?_, fun a b => ?_, fun a b c => ?_⟩
  · induction a generalizing b with
    | nil => cases b <;> simp [cmpLs]
    | cons p a ih =>
      cases b with
      | nil => simp [cmpLs]
      | cons q b =>
        simp only [cmpLs]
        split
        · exact cmpP_ord.rng _ _
        · exact ih b
  · induction a generalizing b with
    | nil => cases b <;> simp [cmpLs]
    | cons p a ih =>
      cases b with
      | nil => simp [cmpLs]
      | cons q b =>
        simp only [cmpLs]
        rw [cmpP_ord.anti p q, ih b]
        by_cases h : cmpP p q = 0
        · simp [h]
        · rw [if_pos (by omega), if_pos h]
  · induction a generalizing b with
    | nil => cases b <;> simp [cmpLs]
    | cons p a ih =>
      cases b with
      | nil => simp [cmpLs]
      | cons q b =>
        simp only [cmpLs]
        by_cases h : cmpP p q = 0
        · rw [if_neg (by simp [h]), ih b]
          rw [cmpP_ord.zero] at h
          subst h; simp
        · rw [if_pos h]
          refine ⟨fun e => absurd e h, fun e => ?_⟩
          simp only [List.cons.injEq] at e
          exact absurd ((cmpP_ord.zero _ _).2 e.1) h
  · induction a generalizing b c with
    | nil => cases b <;> cases c <;> simp [cmpLs]
    | cons p a ih =>
      cases b with
      | nil => simp [cmpLs]
      | cons q b =>
        cases c with
        | nil => simp [cmpLs]
        | cons r c =>
          simp only [cmpLs]
          intro h1 h2
          have t := cmpP_ord.trans p q r
          have n1 := cmpP_ord.anti p q
          have n2 := cmpP_ord.anti q r
          split at h1
          · rename_i g1
            split at h2
            · rename_i g2
              rw [if_pos]
              · exact t h1 h2
              · intro h0
                have e := (cmpP_ord.zero p r).1 h0
                subst e
                omega
            · rename_i g2
              have e : q = r := (cmpP_ord.zero _ _).1 (by omega)
              subst e
              rw [if_pos g1]; exact h1
          · rename_i g1
            have e : p = q := (cmpP_ord.zero _ _).1 (by omega)
            subst e
            split at h2
            · rename_i g2
              rw [if_pos g2]; exact h2
            · rename_i g2
              rw [if_neg g2]
              exact ih b c h1 h2
end Go.Proofs.YtoekflobllmeeaaGreatDoor.AM

/- Tools for models. -/
namespace Go.Proofs.YtoekflobllmeeaaGreatDoor.AM
open Go

section
variable {α β σ : Type}
@[simp] theorem letE_eq (enc : α → AV) (e : α) (m : α → Option β) : letE enc e m = m e := rfl
@[simp] theorem letO_eq (enc : α → AV) (ob : α → List Obj) (e : α) (m : α → Option β) : letO enc ob e m = m e := rfl
@[simp] theorem retM_eq (x : β) : retM x = some x := rfl
@[simp] theorem tokM_eq (a b c : Nat) (m : Option β) : tokM a b c m = m := rfl
@[simp] theorem pubM_eq (a b : Nat) (m : Option β) : pubM a b m = m := rfl
@[simp] theorem shM_eq (a : Nat) (m : Option β) : shM a m = m := rfl
@[simp] theorem swapM_eq (a b : Nat) (m : Option β) : swapM a b m = m := rfl
@[simp] theorem unboxM_eq (a : Nat) (m : Option β) : unboxM a m = m := rfl
@[simp] theorem pubbM_eq (a : Nat) (m : Option β) : pubbM a m = m := rfl
@[simp] theorem drawM_eq (m : Option β) : drawM m = m := rfl
@[simp] theorem iteM_true (x y : Option β) : iteM true x y = x := rfl
@[simp] theorem iteM_false (x y : Option β) : iteM false x y = y := rfl
theorem iteM_if (b : Bool) (x y : Option β) : iteM b x y = if b = true then x else y := rfl
@[simp] theorem iteM_dec (p : Prop) [Decidable p] (x y : Option β) : iteM (decide p) x y = if p then x else y := by
  unfold iteM; by_cases h : p <;> simp [h]
@[simp] theorem iteM_not (b : Bool) (x y : Option β) : iteM (!b) x y = iteM b y x := by cases b <;> rfl
@[simp] theorem callM_some (enc : α → AV) (ob : α → List Obj) (a : α) (m : α → Option β) : callM enc ob (some a) m = m a := rfl
@[simp] theorem exitM_some (r : β) : exitM (σ := σ) (some r) = some (.inr r) := rfl
@[simp] theorem nextM_eq (x : σ) : nextM (β := β) x = some (.inl x) := rfl
@[simp] theorem joinM_eq (ph : σ → List (Nat × AV)) (ob : σ → List Obj) (rest : σ → Option β) (m : Option (σ ⊕ β)) : joinM ph ob rest m = m.bind (Sum.elim rest some) := rfl
theorem gdM_pos {p : Prop} [Decidable p] (h : p) (m : Option β) : gdM p m = m := if_pos h
theorem idxM_get {l : List α} {i : Nat} {x : α} (h : l[i]? = some x) (m : α → Option β) : idxM l (i : Int) m = m x := by
  unfold idxM; rw [if_pos (by omega), Int.toNat_natCast, h]; rfl
theorem idxM_of {l : List α} {i : Int} {x : α} (h0 : 0 ≤ i) (h : l[i.toNat]? = some x) (m : α → Option β) : idxM l i m = m x := by
  unfold idxM; rw [if_pos h0, h]; rfl
theorem wI_of {x : Int} (h : -9223372036854775808 ≤ x ∧ x ≤ 9223372036854775807) : wI x = x := IntWalk.i64_in x h
theorem loopM_rec {ph : σ → List (Nat × AV)} {ob : σ → List Obj} {step : σ → Option (σ ⊕ β)} (I : σ → Prop) (μ : σ → Nat) (F : σ → β)
    (h : ∀ s, I s → step s = some (.inr (F s)) ∨ ∃ s', step s = some (.inl s') ∧ I s' ∧ μ s' < μ s ∧ F s' = F s) {s : σ} (hs : I s) : loopM ph ob step s = some (F s) := iter_rec I μ F h s hs
/-- A loop over the numbers below n. -/
theorem loopM_nat {ph : Int → List (Nat × AV)} {ob : Int → List Obj} {step : Int → Option (Int ⊕ β)} (n : Nat) (F : Nat → β)
    (h1 : ∀ i, i < n → step (i : Int) = some (.inr (F i)) ∨ (step (i : Int) = some (.inl ((i + 1 : Nat) : Int)) ∧ F (i + 1) = F i)) (h2 : step (n : Int) = some (.inr (F n))) : loopM ph ob step 0 = some (F 0) := by
  have := loopM_rec (ph := ph) (ob := ob) (step := step) (fun i : Int => 0 ≤ i ∧ i ≤ n) (fun i => (n - i).toNat) (fun i => F i.toNat) (by
    rintro i ⟨h0, hn⟩
    obtain ⟨k, rfl⟩ := Int.eq_ofNat_of_zero_le h0
    rcases Nat.lt_or_ge k n with hk | hk
    · rcases h1 k hk with h | ⟨h, he⟩
      · exact .inl (by simpa using h)
      · exact .inr ⟨_, h, ⟨by omega, by omega⟩, by omega, by simp only [Int.toNat_natCast]; exact he⟩
    · have : k = n := by omega
      subst this
      exact .inl (by simpa using h2)) (s := 0) ⟨by omega, by omega⟩
  simpa using this
/-- .. with what is known by then. -/
theorem loopM_natJ {ph : Int → List (Nat × AV)} {ob : Int → List Obj} {step : Int → Option (Int ⊕ β)} (n : Nat) (J : Nat → Prop) (F : Nat → β)
    (h1 : ∀ i, i < n → J i → step (i : Int) = some (.inr (F i)) ∨ (step (i : Int) = some (.inl ((i + 1 : Nat) : Int)) ∧ J (i + 1) ∧ F (i + 1) = F i)) (h2 : J n → step (n : Int) = some (.inr (F n))) (h0 : J 0) : loopM ph ob step 0 = some (F 0) := by
  have := loopM_rec (ph := ph) (ob := ob) (step := step) (fun i : Int => (0 ≤ i ∧ i ≤ n) ∧ J i.toNat) (fun i => (n - i).toNat) (fun i => F i.toNat) (by
    rintro i ⟨⟨h0, hn⟩, hj⟩
    obtain ⟨k, rfl⟩ := Int.eq_ofNat_of_zero_le h0
    simp only [Int.toNat_natCast] at hj
    rcases Nat.lt_or_ge k n with hk | hk
    · rcases h1 k hk hj with h | ⟨h, hj', he⟩
      · exact .inl (by simpa using h)
      · exact .inr ⟨_, h, ⟨⟨by omega, by omega⟩, by simpa using hj'⟩, by omega, by simp only [Int.toNat_natCast]; exact he⟩
    · have : k = n := by omega
      subst this
      exact .inl (by simpa using h2 hj)) (s := 0) ⟨⟨by omega, by omega⟩, by simpa using h0⟩
  simpa using this
/-- .. downwards. -/
theorem loopM_down {ph : Int → List (Nat × AV)} {ob : Int → List Obj} {step : Int → Option (Int ⊕ β)} (F : Nat → β)
    (h0 : step 0 = some (.inr (F 0))) (n : Nat) (h1 : ∀ i, i < n → step ((i + 1 : Nat) : Int) = some (.inr (F (i + 1))) ∨ (step ((i + 1 : Nat) : Int) = some (.inl (i : Int)) ∧ F i = F (i + 1))) : loopM ph ob step (n : Int) = some (F n) := by
  have := loopM_rec (ph := ph) (ob := ob) (step := step) (fun i : Int => 0 ≤ i ∧ i ≤ n) (fun i => i.toNat) (fun i => F i.toNat) (by
    rintro i ⟨h0', hn⟩
    obtain ⟨k, rfl⟩ := Int.eq_ofNat_of_zero_le h0'
    cases k with
    | zero => exact .inl (by simpa using h0)
    | succ k =>
      rcases h1 k (by omega) with h | ⟨h, he⟩
      · exact .inl (by simpa using h)
      · exact .inr ⟨_, h, ⟨by omega, by omega⟩, by omega, by simp only [Int.toNat_natCast]; exact he⟩) (s := (n : Int)) ⟨by omega, by omega⟩
  simpa using this
/-- .. with what is gathered. -/
theorem loopM_natA {A : Type} {ph : Int × A → List (Nat × AV)} {ob : Int × A → List Obj} {step : Int × A → Option (Int × A ⊕ β)} (n : Nat) (J : Nat → A → Prop) (F : Nat → A → β)
    (h1 : ∀ i a, i < n → J i a → step ((i : Int), a) = some (.inr (F i a)) ∨ ∃ a', step ((i : Int), a) = some (.inl (((i + 1 : Nat) : Int), a')) ∧ J (i + 1) a' ∧ F (i + 1) a' = F i a) (h2 : ∀ a, J n a → step ((n : Int), a) = some (.inr (F n a))) {a : A} (h0 : J 0 a) : loopM ph ob step (0, a) = some (F 0 a) := by
  have := loopM_rec (ph := ph) (ob := ob) (step := step) (fun s : Int × A => (0 ≤ s.1 ∧ s.1 ≤ n) ∧ J s.1.toNat s.2) (fun s => (n - s.1).toNat) (fun s => F s.1.toNat s.2) (by
    rintro ⟨i, a⟩ ⟨⟨h0, hn⟩, hj⟩
    simp only at h0 hn hj
    obtain ⟨k, rfl⟩ := Int.eq_ofNat_of_zero_le h0
    simp only [Int.toNat_natCast] at hj ⊢
    rcases Nat.lt_or_ge k n with hk | hk
    · rcases h1 k a hk hj with h | ⟨a', h, hj', he⟩
      · exact .inl h
      · exact .inr ⟨_, h, ⟨⟨by simp only; omega, by simp only; omega⟩, by simpa using hj'⟩, by simp only; omega, by simpa using he⟩
    · have : k = n := by omega
      subst this
      exact .inl (h2 a hj)) (s := (0, a)) ⟨⟨by simp, by simp⟩, by simpa using h0⟩
  simpa using this
/-- .. what is gathered first. -/
theorem loopM_natB {A : Type} {ph : A × Int → List (Nat × AV)} {ob : A × Int → List Obj} {step : A × Int → Option (A × Int ⊕ β)} (n : Nat) (J : Nat → A → Prop) (F : Nat → A → β)
    (h1 : ∀ i a, i < n → J i a → step (a, (i : Int)) = some (.inr (F i a)) ∨ ∃ a', step (a, (i : Int)) = some (.inl (a', ((i + 1 : Nat) : Int))) ∧ J (i + 1) a' ∧ F (i + 1) a' = F i a) (h2 : ∀ a, J n a → step (a, (n : Int)) = some (.inr (F n a))) {a : A} (h0 : J 0 a) : loopM ph ob step (a, 0) = some (F 0 a) := by
  have := loopM_rec (ph := ph) (ob := ob) (step := step) (fun s : A × Int => (0 ≤ s.2 ∧ s.2 ≤ n) ∧ J s.2.toNat s.1) (fun s => (n - s.2).toNat) (fun s => F s.2.toNat s.1) (by
    rintro ⟨a, i⟩ ⟨⟨h0, hn⟩, hj⟩
    simp only at h0 hn hj
    obtain ⟨k, rfl⟩ := Int.eq_ofNat_of_zero_le h0
    simp only [Int.toNat_natCast] at hj ⊢
    rcases Nat.lt_or_ge k n with hk | hk
    · rcases h1 k a hk hj with h | ⟨a', h, hj', he⟩
      · exact .inl h
      · exact .inr ⟨_, h, ⟨⟨by simp only; omega, by simp only; omega⟩, by simpa using hj'⟩, by simp only; omega, by simpa using he⟩
    · have : k = n := by omega
      subst this
      exact .inl (h2 a hj)) (s := (a, 0)) ⟨⟨by simp, by simp⟩, by simpa using h0⟩
  simpa using this
end
end Go.Proofs.YtoekflobllmeeaaGreatDoor.AM

/- The models of package label, told in plain words: names, what is sane, got, taken away. -/
namespace Go.Proofs.YtoekflobllmeeaaGreatDoor.AM
open Go

theorem str_get {s : Str} {k : Nat} (h : k < s.length) : s[k]? = some (s.getD k 0) := by
  rw [List.getD_eq_getElem?_getD, List.getElem?_eq_getElem h]; rfl
theorem bif_or (a b : Bool) : (bif a then true else b) = (a || b) := by cases a <;> rfl
theorem bif_and (a b : Bool) : (bif a then b else false) = (a && b) := by cases a <;> rfl

theorem label_Name_eq (s : Str) : label_Name s = some (nameB s) := by
  unfold label_Name
  simp only [letE_eq, bif_or, bif_and]
  by_cases h : s.length < 1 ∨ 64 < s.length
  · rw [show (decide ((s.length : Int) < 1) || decide ((64 : Int) < s.length)) = true from by simp; omega]
    simp [nameB_len h]
  · rw [show (decide ((s.length : Int) < 1) || decide ((64 : Int) < s.length)) = false from by simp; omega]
    simp only [iteM_false]
    refine (loopM_nat s.length (fun i => (List.range s.length).all fun j => decide (j < i) || okAt s j) ?_ ?_).trans ?_
    rotate_right
    · congr 1
      rw [nameB, decide_eq_true (show 1 ≤ s.length by omega), decide_eq_true (show s.length ≤ 64 by omega)]
      simp
    · intro i hi
      simp only [iteM_dec, idxM_get (str_get hi)]
      rw [if_pos (by omega)]
      have e : ((!((decide ((97 : Int) ≤ ((s.getD i 0).toNat : Int)) && decide (((s.getD i 0).toNat : Int) ≤ 122) || (decide ((65 : Int) ≤ ((s.getD i 0).toNat : Int)) && decide (((s.getD i 0).toNat : Int) ≤ 90))) || decide (((s.getD i 0).toNat : Int) = 95))) && ((!(decide ((48 : Int) ≤ ((s.getD i 0).toNat : Int)) && decide (((s.getD i 0).toNat : Int) ≤ 57))) || decide ((i : Int) = 0))) = !okAt s i := by
        simp only [okAt, letterI, digitI]
        rw [show decide ((i : Int) = 0) = !decide (i ≠ 0) from by by_cases h : i = 0 <;> simp [h]]
        simp [Bool.not_or, Bool.not_and]
      rw [e, iteM_not]
      cases ho : okAt s i
      · left
        simp only [iteM_false, retM_eq, exitM_some, Option.some.injEq, Sum.inr.injEq]
        symm
        rw [List.all_eq_false]
        exact ⟨i, List.mem_range.2 hi, by simp [ho]⟩
      · right
        rw [wI_of (by omega)]
        refine ⟨by simp, ?_⟩
        congr 1
        funext j
        by_cases hj : j = i
        · subst hj; simp [ho]
        · rw [show decide (j < i + 1) = decide (j < i) from by rw [decide_eq_decide]; omega]
    · simp only [iteM_dec]
      rw [if_neg (by omega)]
      simp only [retM_eq, exitM_some, Option.some.injEq, Sum.inr.injEq]
      symm
      rw [List.all_eq_true]
      intro j hj
      rw [List.mem_range] at hj
      simp [hj]

theorem all_lt {n : Nat} {f : Nat → Bool} {i : Nat} (h : f i = true) : ((List.range n).all fun j => decide (j < i + 1) || f j) = ((List.range n).all fun j => decide (j < i) || f j) := by
  congr 1
  funext j
  by_cases hj : j = i
  · subst hj; simp [h]
  · rw [show decide (j < i + 1) = decide (j < i) from by rw [decide_eq_decide]; omega]
theorem all_bad {n : Nat} {f : Nat → Bool} {i : Nat} (hi : i < n) (h : f i = false) : ((List.range n).all fun j => decide (j < i) || f j) = false := by
  rw [List.all_eq_false]; exact ⟨i, List.mem_range.2 hi, by simp [h]⟩
theorem all_end {n : Nat} {f : Nat → Bool} : ((List.range n).all fun j => decide (j < n) || f j) = true := by
  rw [List.all_eq_true]; intro j hj; rw [List.mem_range] at hj; simp [hj]
theorem all_zero {n : Nat} {f : Nat → Bool} : ((List.range n).all fun j => decide (j < 0) || f j) = (List.range n).all f := by simp

theorem label_Sane_eq (l : List GPair) : label_Sane l = some (saneB l) := by
  unfold label_Sane
  simp only [letE_eq, iteM_dec]
  by_cases h : 16 < l.length
  · rw [if_pos (by omega), saneB_len h]; rfl
  · rw [if_neg (by omega)]
    refine (loopM_nat l.length (fun i => (List.range l.length).all fun j => decide (j < i) || saneAt l j) ?_ ?_).trans ?_
    rotate_right
    · rw [all_zero, saneB, decide_eq_true (by omega)]; rfl
    · intro i hi
      simp only [iteM_dec, idxM_get (pr_get hi), label_Name_eq, callM_some, iteM_not]
      rw [if_pos (by omega)]
      cases h1 : nameB (pr l i).1
      · left; simp [all_bad hi (show saneAt l i = false by simp [saneAt, h1])]
      · simp only [iteM_true]
        by_cases h2 : 64 < (pr l i).2.length
        · left; rw [if_pos (by omega)]
          simp [all_bad hi (show saneAt l i = false by simp [saneAt, h1]; omega)]
        · rw [if_neg (by omega)]
          by_cases h3 : i = 0
          · subst h3
            right
            rw [if_neg (by omega), wI_of (by omega)]
            exact ⟨by simp, all_lt (by simp [saneAt, h1]; omega)⟩
          · rw [if_pos (by omega), wI_of (by omega), idxM_of (x := pr l (i - 1)) (by omega) (by rw [show ((i : Int) - 1).toNat = i - 1 from by omega]; exact pr_get (by omega))]
            cases h4 : ltS (pr l (i - 1)).1 (pr l i).1
            · left; simp [all_bad hi (show saneAt l i = false by simp [saneAt, h1, h3, h4]), h4]
            · right
              rw [wI_of (by omega)]
              exact ⟨by simp, all_lt (by simp [saneAt, h1, h3, h4]; omega)⟩
    · rw [if_neg (by omega)]
      simp [all_end]

theorem label_counts_eq (l : List GPair) : label_counts l = some (countsL l) := by
  unfold label_counts countsL
  rw [label_Sane_eq, callM_some]
  cases saneB l <;> rfl

end Go.Proofs.YtoekflobllmeeaaGreatDoor.AM

/- Labels: the order, what is few. -/
namespace Go.Proofs.YtoekflobllmeeaaGreatDoor.AM
open Go

theorem cmp_eq (a b : Str) : cmp_Compare_string a b = some (cmpS a b) := by
  unfold cmp_Compare_string cmp_isNaN_string cmpS
  simp only [letE_eq, retM_eq, decide_true, Bool.not_true, callM_some, iteM_false, iteM_if, Bool.false_eq_true, if_false]
  split
  · rfl
  · split <;> rfl
theorem cmp_Or_eq (a b : Int) : cmp_Or_int [a, b] = some (if a ≠ 0 then a else b) := by
  unfold cmp_Or_int
  simp only [letE_eq]
  refine (loopM_nat 2 (fun i => if i = 0 then (if a ≠ 0 then a else b) else if i = 1 then b else 0) ?_ ?_).trans (by simp)
  · intro i hi
    have h2 : i = 0 ∨ i = 1 := by omega
    rcases h2 with rfl | rfl
    · simp only [iteM_dec, iteM_not, idxM_get (show ([a, b] : List Int)[0]? = some a from rfl)]
      by_cases h : a = 0
      · right; simp [h, wI_of]
      · left; simp [h]
    · simp only [iteM_dec, iteM_not, idxM_get (show ([a, b] : List Int)[1]? = some b from rfl)]
      by_cases h : b = 0
      · right; simp [h, wI_of]
      · left; simp [h]
  · simp
theorem label_Compare_1_eq (p q : GPair) : label_Compare_1 p q = some (cmpP p q) := by
  unfold label_Compare_1
  simp only [drawM_eq, letE_eq]
  rw [cmp_eq, callM_some, cmp_eq, callM_some, cmp_Or_eq, callM_some]
  rfl
theorem cmpf_eq (a b : List GPair) (ha : a.length ≤ 16) (hb : b.length ≤ 16) : slices_CompareFunc_Pair_Pair_Pair_Pair_label_Compare_1 a b = some (cmpLs a b) := by
  unfold slices_CompareFunc_Pair_Pair_Pair_Pair_label_Compare_1
  simp only [letE_eq]
  refine (loopM_nat a.length (fun i => cmpLs (a.drop i) (b.drop i)) ?_ ?_).trans (by simp)
  · intro i hi
    simp only [iteM_dec, iteM_not, idxM_get (pr_get hi), label_Compare_1_eq, callM_some]
    rw [if_pos (by omega), drop_pr hi]
    by_cases hib : b.length ≤ i
    · left; rw [if_pos (by omega), List.drop_eq_nil_of_le hib]; simp [cmpLs]
    · rw [if_neg (by omega), idxM_get (pr_get (l := b) (by omega)), drop_pr (l := b) (by omega)]
      try simp only [iteM_dec]
      by_cases hc : cmpP (pr a i) (pr b i) = 0
      · right; rw [if_pos hc, wI_of (by omega)]; exact ⟨by simp, by simp [cmpLs, hc]⟩
      · left; rw [if_neg hc]; simp [cmpLs, hc]
  · try simp only [iteM_dec]
    rw [if_neg (by omega), List.drop_length]
    by_cases h : a.length < b.length
    · rw [if_pos (by omega), drop_pr (l := b) h]; simp [cmpLs]
    · rw [if_neg (by omega), List.drop_eq_nil_of_le (by omega)]; simp [cmpLs]
theorem label_Compare_eq (a b : List GPair) : label_Compare a b = some (compareL a b) := by
  unfold label_Compare
  rw [label_counts_eq, callM_some, label_counts_eq, callM_some, cmpf_eq _ _ (countsL_len _) (countsL_len _), callM_some]
  rfl

theorem ref03_Same_eq (a b : List GPair) (h : a.length ≤ 9223372036854775807) : ref03_Same a b = some (decide (a = b)) := by
  unfold ref03_Same
  simp only [letE_eq, iteM_not, iteM_dec]
  by_cases hl : a.length = b.length
  · rw [if_pos (by omega)]
    refine (loopM_nat a.length (fun i => decide (a.drop i = b.drop i)) ?_ ?_).trans (by simp)
    · intro i hi
      simp only [iteM_dec, idxM_get (pr_get hi), iteM_not]
      rw [if_pos (by omega), idxM_get (pr_get (l := b) (by omega)), drop_pr hi, drop_pr (l := b) (by omega)]
      by_cases e : pr a i = pr b i
      · right
        rw [e]
        rw [wI_of (by omega)]
        exact ⟨by simp, by simp⟩
      · left
        rw [show (decide ((pr a i).Name = (pr b i).Name) && (decide ((pr a i).Value = (pr b i).Value) && true)) = false from by
          rw [Bool.eq_false_iff]; intro h; simp at h; exact e (by cases hp : pr a i; cases hq : pr b i; rw [hp, hq] at h; simp at h; simp [h])]
        simp [e]
    · try simp only [iteM_dec]
      rw [if_neg (by omega)]
      simp [hl]
  · rw [if_neg (by omega)]
    have : a ≠ b := by rintro rfl; exact hl rfl
    simp [this]

theorem ref03_Few_eq (l : List GPair) (h : l.length ≤ 9223372036854775807) : ref03_Few l = some (fewB l) := by
  unfold ref03_Few
  simp only [letE_eq]
  refine (loopM_natB l.length (fun i a => a = sumW l i) (fun _ _ => fewB l) ?_ ?_ rfl).trans rfl
  · rintro i a hi rfl
    right
    simp only [iteM_dec, idxM_get (pr_get hi)]
    rw [if_pos (by omega), wI_of (x := (i : Int) + 1) (by omega)]
    exact ⟨_, by simp; rfl, rfl, trivial⟩
  · rintro a rfl
    simp only [iteM_dec, bif_and]
    rw [if_neg (by omega), fewB, show decide ((l.length : Int) ≤ 40) = decide (l.length ≤ 40) from by rw [decide_eq_decide]; omega]
    rfl
end Go.Proofs.YtoekflobllmeeaaGreatDoor.AM

/- Keys of labels. -/
namespace Go.Proofs.YtoekflobllmeeaaGreatDoor.AM
open Go

def itoa (n : Nat) : Str := if n < 10 then [UInt8.ofNat (48 + n)] else [UInt8.ofNat (48 + n / 10), UInt8.ofNat (48 + n % 10)]
set_option maxRecDepth 100000 in
theorem itoa_all : (List.range 100).all (fun n => decide (strconv_Itoa1 (n : Int) = some (itoa n))) = true := by kernel_rfl
theorem itoa_eq {n : Nat} (h : n < 100) : strconv_Itoa1 (n : Int) = some (itoa n) := by
  have := List.all_eq_true.1 itoa_all n (List.mem_range.2 h)
  simpa using this
def part (s : Str) : Str := itoa s.length ++ ([32] ++ s)
def keyS : List GPair → Str
  | [] => []
  | p :: l => part p.Name ++ (part p.Value ++ keyS l)
theorem octs_append (a b : Str) : octs (a ++ b) = octs a ++ octs b := by simp [octs]

set_option maxRecDepth 100000 in
theorem itoa_nosp : (List.range 100).all (fun n => (itoa n).all fun b => b != 32) = true := by kernel_rfl
set_option maxRecDepth 100000 in
theorem itoa_injB : (List.range 100).all (fun n => (List.range 100).all fun m => decide (itoa n = itoa m → n = m)) = true := by kernel_rfl
theorem itoa_inj {n m : Nat} (hn : n < 100) (hm : m < 100) (h : itoa n = itoa m) : n = m := by
  have := List.all_eq_true.1 (List.all_eq_true.1 itoa_injB n (List.mem_range.2 hn)) m (List.mem_range.2 hm)
  exact (of_decide_eq_true this) h
theorem split_sp : ∀ {a b u v : Str}, (∀ x ∈ a, x ≠ 32) → (∀ x ∈ b, x ≠ 32) → a ++ 32 :: u = b ++ 32 :: v → a = b ∧ u = v
  | [], [], u, v, _, _, h => by simpa using h
  | [], y :: b, u, v, _, hb, h => by
    simp only [List.nil_append, List.cons_append, List.cons.injEq] at h
    exact absurd h.1.symm (hb y (by simp))
  | x :: a, [], u, v, ha, _, h => by
    simp only [List.nil_append, List.cons_append, List.cons.injEq] at h
    exact absurd h.1 (ha x (by simp))
  | x :: a, y :: b, u, v, ha, hb, h => by
    simp only [List.cons_append, List.cons.injEq] at h
    obtain ⟨e1, e2⟩ := split_sp (fun z hz => ha z (by simp [hz])) (fun z hz => hb z (by simp [hz])) h.2
    exact ⟨by rw [h.1, e1], e2⟩
theorem nosp {n : Nat} (h : n < 100) : ∀ x ∈ itoa n, x ≠ 32 := by
  have := List.all_eq_true.1 itoa_nosp n (List.mem_range.2 h)
  intro x hx
  have := List.all_eq_true.1 this x hx
  simpa using this
theorem part_inj {s t u v : Str} (hs : s.length < 100) (ht : t.length < 100) (h : part s ++ u = part t ++ v) : s = t ∧ u = v := by
  simp only [part, List.append_assoc, List.cons_append, List.nil_append] at h
  obtain ⟨e1, e2⟩ := split_sp (nosp hs) (nosp ht) h
  have e3 := itoa_inj hs ht e1
  exact List.append_inj e2 e3
theorem part_ne {s u : Str} : part s ++ u ≠ [] := by simp [part]
def Shorts (l : List GPair) : Prop := ∀ p ∈ l, p.Name.length < 100 ∧ p.Value.length < 100
theorem keyS_inj : ∀ {a b : List GPair}, Shorts a → Shorts b → keyS a = keyS b → a = b
  | [], [], _, _, _ => rfl
  | [], q :: b, _, _, h => absurd h.symm part_ne
  | p :: a, [], _, _, h => absurd h part_ne
  | p :: a, q :: b, ha, hb, h => by
    simp only [keyS] at h
    obtain ⟨e1, e2⟩ := part_inj (ha p (by simp)).1 (hb q (by simp)).1 h
    obtain ⟨e3, e4⟩ := part_inj (ha p (by simp)).2 (hb q (by simp)).2 e2
    have e5 := keyS_inj (fun x hx => ha x (by simp [hx])) (fun x hx => hb x (by simp [hx])) e4
    obtain ⟨n, v⟩ := p
    obtain ⟨n', v'⟩ := q
    simp only at e1 e3
    rw [e1, e3, e5]
theorem saneB_shorts {l : List GPair} (h : saneB l = true) : Shorts l := by
  obtain ⟨_, h2, h3, _⟩ := saneB_iff.1 h
  intro p hp
  have a := h2 p hp
  have b := h3 p hp
  constructor
  · by_cases hl : 64 < p.1.length
    · rw [nameB_len (.inr hl)] at a; cases a
    · show p.1.length < 100
      omega
  · show p.2.length < 100
    omega
theorem bldCheck_eq (l : List Int) : bldCheck l = some () := by rfl
end Go.Proofs.YtoekflobllmeeaaGreatDoor.AM

/- Keys: the model. -/
namespace Go.Proofs.YtoekflobllmeeaaGreatDoor.AM
open Go

@[simp] theorem callO_some {α β : Type} (ks : List Nat) (w : List Obj) (enc : α → AV) (ob : α → List Obj) (a : α) (m : α → Option β) : callO ks w enc ob (some a) m = m a := rfl
@[simp] theorem bldM_eq {β : Type} (b : Nat) (m : Option β) : bldM b m = m := rfl
@[simp] theorem tailM_eq {β : Type} (b : Nat) (m : Option β) : tailM b m = m := rfl
@[simp] theorem tailA_eq {β : Type} (a b c : Nat) (m : Option β) : tailA a b c m = m := rfl
@[simp] theorem exitM_inl {σ β : Type} (m : Option β) : exitM (σ := σ) m = m.map .inr := rfl
theorem ws_eq (s : Str) (a : List Int) (h : a.length + s.length ≤ 100000) : strings_Builder_WriteString_o s a = some ((s.length : Int), (), a ++ octs s) := by
  unfold strings_Builder_WriteString_o
  rw [bldCheck_eq, callO_some, gdM_pos (by rw [octs_length]; omega)]
  rfl
theorem wb_eq (c : Int) (a : List Int) (h : a.length ≤ 100000) : strings_Builder_WriteByte_o c a = some ((), a ++ [c]) := by
  unfold strings_Builder_WriteByte_o
  rw [bldCheck_eq, callO_some, letE_eq, gdM_pos (by simp; omega)]
  rfl
theorem itoa_len (n : Nat) : (itoa n).length ≤ 2 := by unfold itoa; split <;> simp
theorem part_len (s : Str) : (part s).length ≤ s.length + 3 := by
  have := itoa_len s.length
  simp only [part, List.length_append, List.length_cons, List.length_nil]; omega
theorem keyS_len {l : List GPair} (h : Shorts l) : (keyS l).length ≤ 206 * l.length := by
  induction l with
  | nil => simp [keyS]
  | cons p l ih =>
    have := ih (fun q hq => h q (by simp [hq]))
    have h1 := h p (by simp)
    have h2 := part_len p.Name
    have h3 := part_len p.Value
    simp only [keyS, List.length_append, List.length_cons]
    omega
theorem keyS_append (a b : List GPair) : keyS (a ++ b) = keyS a ++ keyS b := by
  induction a with
  | nil => simp [keyS]
  | cons p a ih => simp [keyS, ih]
theorem octs_part (s : Str) : octs (part s) = octs (itoa s.length) ++ [32] ++ octs s := by
  simp only [part, octs_append]
  simp [octs]

def prV (p : GPair) (j : Nat) : Str := if j = 0 then p.Name else p.Value
theorem table_key_eq {l : List GPair} (hs : Shorts l) (hl : l.length ≤ 40) : table_key l = some (keyS l) := by
  unfold table_key
  simp only [bldM_eq, letE_eq]
  refine (loopM_natB l.length (fun i a => a = octs (keyS (l.take i))) (fun _ _ => keyS l) ?_ ?_ rfl).trans rfl
  · rintro i a hi rfl
    right
    refine ⟨octs (keyS (l.take (i + 1))), ?_, rfl, rfl⟩
    simp only [iteM_dec, idxM_get (pr_get hi)]
    rw [if_pos (by omega)]
    have hp := hs (pr l i) (by rw [pr, List.getD_eq_getElem?_getD, List.getElem?_eq_getElem hi]; exact List.getElem_mem hi)
    have hk : (keyS (l.take i)).length ≤ 206 * 40 := by
      have := keyS_len (l := l.take i) (fun q hq => hs q (List.mem_of_mem_take hq))
      rw [List.length_take] at this
      omega
    have e : octs (keyS (l.take (i + 1))) = octs (keyS (l.take i)) ++ octs (part (pr l i).Name) ++ octs (part (pr l i).Value) := by
      rw [take_pr hi, keyS_append, octs_append]; simp [keyS, octs_append]
    rw [e]
    generalize keyS (l.take i) = k at *
    generalize pr l i = p at *
    obtain ⟨h1, h2⟩ := hp
    refine (loopM_natB 2 (fun j b => b = octs k ++ (if 1 ≤ j then octs (part p.Name) else []) ++ (if 2 ≤ j then octs (part p.Value) else [])) (fun _ _ => Sum.inl (octs k ++ octs (part p.Name) ++ octs (part p.Value), ((i + 1 : Nat) : Int))) ?_ ?_ (by simp)).trans ?_
    · rintro j b hj rfl
      right
      have hj2 : j = 0 ∨ j = 1 := by omega
      rcases hj2 with rfl | rfl
      · refine ⟨octs k ++ octs (part p.Name), ?_, by simp, rfl⟩
        have n1 := itoa_len p.Name.length
        simp only [iteM_dec]
        rw [if_pos (by omega), idxM_get (x := p.Name) rfl, itoa_eq h1, callM_some, ws_eq _ _ (by simp [octs_length]; omega), callO_some, wb_eq _ _ (by simp [octs_length]; omega), callO_some, ws_eq _ _ (by simp [octs_length]; omega), callO_some, wI_of (by omega), octs_part]
        simp
      · refine ⟨octs k ++ octs (part p.Name) ++ octs (part p.Value), ?_, by simp, rfl⟩
        have n1 := part_len p.Name
        have n2 := itoa_len p.Value.length
        simp only [iteM_dec]
        rw [if_pos (by omega), idxM_get (x := p.Value) rfl, itoa_eq h2, callM_some, ws_eq _ _ (by simp [octs_length]; omega), callO_some, wb_eq _ _ (by simp [octs_length]; omega), callO_some, ws_eq _ _ (by simp [octs_length]; omega), callO_some, wI_of (by omega), octs_part p.Value]
        simp
    · rintro b rfl
      simp only [iteM_dec]
      rw [if_neg (by omega), wI_of (by omega)]
      simp
    · rfl
  · rintro a rfl
    simp only [iteM_dec]
    rw [if_neg (by omega), List.take_length]
    have : bldStr (octs (keyS l)) = some (keyS l) := by
      unfold bldStr
      rw [gdM_pos, retM_eq, strOf_octs]
      intro x hx
      simp only [octs, List.mem_map] at hx
      obtain ⟨b, _, rfl⟩ := hx
      have := b.toNat_lt
      omega
    rw [this]; rfl
theorem key_eq {l : List GPair} (h : saneB l = true) : table_key l = some (keyS l) := table_key_eq (saneB_shorts h) (by have := (saneB_iff.1 h).1; omega)
theorem key_inj {a b : List GPair} (ha : saneB a = true) (hb : saneB b = true) : keyS a = keyS b ↔ a = b := ⟨keyS_inj (saneB_shorts ha) (saneB_shorts hb), fun h => by rw [h]⟩
end Go.Proofs.YtoekflobllmeeaaGreatDoor.AM

/- Numbers as octets: how they are put and got. -/
namespace Go.Proofs.YtoekflobllmeeaaGreatDoor.AM
open Go

@[simp] theorem callP_some {α β : Type} (ks : List Nat) (enc : α → AV) (ob : α → List Obj) (a : α) (m : α → Option β) : callP ks enc ob (some a) m = m a := rfl
@[simp] theorem permM_eq {β : Type} (r : List (Bool × Nat)) (m : Option β) : permM r m = m := rfl
@[simp] theorem exoM_eq {β : Type} (d k : Nat) (m : Option β) : exoM d k m = m := rfl
@[simp] theorem bs0M_eq {β : Type} (m : Option β) : bs0M m = m := rfl
@[simp] theorem tokB_eq {β : Type} (a b c d : Nat) (m : Option β) : tokB a b c d m = m := rfl

def Oct (b : List Int) : Prop := ∀ c ∈ b, 0 ≤ c ∧ c < 256
theorem Oct.tail {c : Int} {b : List Int} (h : Oct (c :: b)) : Oct b := fun x hx => h x (List.mem_cons_of_mem _ hx)
theorem Oct.right {a b : List Int} (h : Oct (a ++ b)) : Oct b := fun x hx => h x (List.mem_append_right _ hx)
theorem Oct.left {a b : List Int} (h : Oct (a ++ b)) : Oct a := fun x hx => h x (List.mem_append_left _ hx)
theorem Oct.append {a b : List Int} (h : Oct a) (k : Oct b) : Oct (a ++ b) := fun x hx => (List.mem_append.1 hx).elim (h x) (k x)

/-- A number's octets. -/
def putU (n : Nat) : List Int := if n < 128 then [(n : Int)] else ((n % 128 + 128 : Nat) : Int) :: putU (n / 128)
theorem putU_lt {n : Nat} (h : n < 128) : putU n = [(n : Int)] := by rw [putU, if_pos h]
theorem putU_ge {n : Nat} (h : ¬ n < 128) : putU n = ((n % 128 + 128 : Nat) : Int) :: putU (n / 128) := by rw [putU, if_neg h]
theorem putU_ne (n : Nat) : putU n ≠ [] := by rw [putU]; split <;> simp
theorem putU_oct (n : Nat) : Oct (putU n) := by
  induction n using Nat.strongRecOn with
  | ind n ih =>
    by_cases h : n < 128
    · rw [putU_lt h]; intro c hc; simp at hc; omega
    · rw [putU_ge h]
      intro c hc
      rcases List.mem_cons.1 hc with rfl | hc
      · omega
      · exact ih (n / 128) (by omega) c hc
theorem putU_len : ∀ (k n : Nat), n < 128 ^ (k + 1) → (putU n).length ≤ k + 1
  | 0, n, h => by rw [putU_lt (by simpa using h)]; simp
  | k + 1, n, h => by
    by_cases h' : n < 128
    · rw [putU_lt h']; simp
    · rw [putU_ge h', List.length_cons]
      have := putU_len k (n / 128) (by rw [Nat.div_lt_iff_lt_mul (by omega)]; rw [Nat.pow_succ] at h; exact h)
      omega
theorem putU_len9 {n : Nat} (h : n ≤ 1152921504606846976) : (putU n).length ≤ 9 := putU_len 8 n (by omega)

/-- The number that stands first: k octets may come, i came, their number is n. -/
def getF : Nat → Nat → Nat → List Int → Int × List Int × Int
  | 0, _, _, _ => (0, [], 2)
  | _ + 1, _, _, [] => (0, [], 3)
  | k + 1, i, n, c :: r =>
    if 128 ≤ c then getF k (i + 1) (n + (c.toNat % 128) * 128 ^ i) r
    else if 1152921504606846976 < n + c.toNat * 128 ^ i then (0, [], 2)
    else if c = 0 ∧ 0 < i then (0, [], 1)
    else (((n + c.toNat * 128 ^ i : Nat) : Int), r, 0)
def getU (b : List Int) : Int × List Int × Int := getF 9 0 0 b

theorem getF_put : ∀ (n k i acc : Nat) (r : List Int), (putU n).length ≤ k → acc + n * 128 ^ i ≤ 1152921504606846976 → (0 < n ∨ i = 0) → getF k i acc (putU n ++ r) = (((acc + n * 128 ^ i : Nat) : Int), r, 0) := by
  intro n
  induction n using Nat.strongRecOn with
  | ind n ih =>
    intro k i acc r hk hn hz
    by_cases h : n < 128
    · rw [putU_lt h] at hk ⊢
      cases k with
      | zero => simp at hk
      | succ k =>
        show getF (k + 1) i acc ((n : Int) :: r) = _
        rw [getF, if_neg (by omega), Int.toNat_natCast, if_neg (by omega), if_neg (by omega)]
    · rw [putU_ge h] at hk ⊢
      cases k with
      | zero => simp at hk
      | succ k =>
        show getF (k + 1) i acc (((n % 128 + 128 : Nat) : Int) :: (putU (n / 128) ++ r)) = _
        rw [getF, if_pos (by omega), Int.toNat_natCast]
        have e1 : (n % 128 + 128) % 128 = n % 128 := by omega
        rw [e1]
        have e2 : acc + n % 128 * 128 ^ i + n / 128 * 128 ^ (i + 1) = acc + n * 128 ^ i := by
          rw [Nat.pow_succ]
          have := Nat.div_add_mod n 128
          generalize 128 ^ i = p at *
          have : n * p = (128 * (n / 128) + n % 128) * p := by rw [this]
          rw [this, Nat.add_mul]
          have : n / 128 * (p * 128) = 128 * (n / 128) * p := by rw [Nat.mul_comm p 128, ← Nat.mul_assoc, Nat.mul_comm (n / 128) 128]
          omega
        rw [ih (n / 128) (by omega) k (i + 1) _ r (by simpa using hk) (by rw [e2]; exact hn) (.inl (by omega)), e2]
theorem getU_put {n : Nat} (h : n ≤ 1152921504606846976) (r : List Int) : getU (putU n ++ r) = ((n : Int), r, 0) := by
  have := getF_put n 9 0 0 r (putU_len9 h) (by omega) (.inr rfl)
  simpa [getU] using this

theorem getF_short : ∀ (n k i acc : Nat) (p q : List Int), (putU n).length ≤ k → putU n = p ++ q → q ≠ [] → getF k i acc p = (0, [], 3) := by
  intro n
  induction n using Nat.strongRecOn with
  | ind n ih =>
    intro k i acc p q hk he hq
    cases k with
    | zero => have := putU_ne n; rw [List.length_eq_zero_iff.1 (by omega : (putU n).length = 0)] at this; exact absurd rfl this
    | succ k =>
      cases p with
      | nil => rfl
      | cons c p =>
        by_cases h : n < 128
        · rw [putU_lt h] at he
          simp at he
          exact absurd he.2.2 hq
        · rw [putU_ge h] at he hk
          simp only [List.cons_append, List.cons.injEq] at he
          rw [getF, if_pos (by rw [← he.1]; omega)]
          exact ih (n / 128) (by omega) k _ _ p q (by simpa using hk) he.2 hq
theorem getU_short {n : Nat} (h : n ≤ 1152921504606846976) {p q : List Int} (he : putU n = p ++ q) (hq : q ≠ []) : getU p = (0, [], 3) := getF_short n 9 0 0 p q (putU_len9 h) he hq

theorem getF_inv : ∀ (k i acc : Nat) (b : List Int) (x : Int) (r : List Int), Oct b → getF k i acc b = (x, r, 0) → ∃ m : Nat, b = putU m ++ r ∧ x = ((acc + m * 128 ^ i : Nat) : Int) ∧ acc + m * 128 ^ i ≤ 1152921504606846976 ∧ (0 < i → 0 < m)
  | 0, i, acc, b, x, r, _, h => by simp [getF] at h
  | k + 1, i, acc, [], x, r, _, h => by simp [getF] at h
  | k + 1, i, acc, c :: b, x, r, ho, h => by
    have hc := ho c List.mem_cons_self
    rw [getF] at h
    split at h
    · rename_i h1
      obtain ⟨m, h2, h3, h4, h5⟩ := getF_inv k (i + 1) _ b x r ho.tail h
      have hm := h5 (by omega)
      have e1 : c.toNat % 128 + m * 128 = (c.toNat % 128 + m * 128) := rfl
      have e2 : acc + c.toNat % 128 * 128 ^ i + m * 128 ^ (i + 1) = acc + (c.toNat % 128 + m * 128) * 128 ^ i := by
        rw [Nat.pow_succ, Nat.add_mul, Nat.mul_assoc m 128, Nat.mul_comm 128 (128 ^ i)]; omega
      refine ⟨c.toNat % 128 + m * 128, ?_, by rw [h3, e2], by rw [← e2]; exact h4, fun _ => by omega⟩
      rw [putU_ge (by omega), h2]
      have e3 : (c.toNat % 128 + m * 128) / 128 = m := by omega
      have e4 : ((((c.toNat % 128 + m * 128) % 128 + 128 : Nat)) : Int) = c := by omega
      rw [e3, e4]; rfl
    · split at h
      · simp at h
      · split at h
        · simp at h
        · rename_i h1 h2 h3
          simp only [Prod.mk.injEq] at h
          obtain ⟨rfl, rfl, _⟩ := h
          refine ⟨c.toNat, ?_, rfl, by omega, fun hi => ?_⟩
          · rw [putU_lt (by omega)]
            have : ((c.toNat : Nat) : Int) = c := by omega
            rw [this]; rfl
          · rcases Nat.eq_zero_or_pos c.toNat with h0 | h0
            · exact absurd ⟨by omega, hi⟩ h3
            · exact h0
theorem getU_inv {b : List Int} {x : Int} {r : List Int} (ho : Oct b) (h : getU b = (x, r, 0)) : ∃ m : Nat, b = putU m ++ r ∧ x = (m : Int) ∧ m ≤ 1152921504606846976 := by
  obtain ⟨m, h1, h2, h3, _⟩ := getF_inv 9 0 0 b x r ho h
  exact ⟨m, h1, by simpa using h2, by simpa using h3⟩
theorem getF_zero : ∀ (k i acc : Nat) (b : List Int), (getF k i acc b).2.2 ≠ 0 → getF k i acc b = (0, [], (getF k i acc b).2.2)
  | 0, i, acc, b, _ => rfl
  | k + 1, i, acc, [], _ => rfl
  | k + 1, i, acc, c :: b, h => by
    rw [getF] at h ⊢
    split
    · rename_i h1; rw [if_pos h1] at h; exact getF_zero k _ _ b h
    · rename_i h1
      rw [if_neg h1] at h
      split
      · rfl
      · rename_i h2
        rw [if_neg h2] at h
        split
        · rfl
        · rename_i h3; rw [if_neg h3] at h; exact absurd rfl h
theorem getU_zero {b : List Int} (h : (getU b).2.2 ≠ 0) : getU b = (0, [], (getU b).2.2) := getF_zero _ _ _ _ h
theorem getF_ge : ∀ (k i acc : Nat) (b : List Int), 0 ≤ (getF k i acc b).1
  | 0, i, acc, b => by simp [getF]
  | k + 1, i, acc, [] => by simp [getF]
  | k + 1, i, acc, c :: b => by
    rw [getF]
    split
    · exact getF_ge k _ _ b
    · split
      · simp
      · split
        · simp
        · simp only; omega
end Go.Proofs.YtoekflobllmeeaaGreatDoor.AM

/- The codec's numbers and texts: what its functions answer. -/
namespace Go.Proofs.YtoekflobllmeeaaGreatDoor.AM
open Go

def LIM : Nat := 140737488355328
theorem u8_of {x : Int} (h : 0 ≤ x ∧ x < 256) : IntKind.u8.wrap x = x := by
  have : IntKind.u8.wrap x = x % 256 := by simp [IntKind.wrap, IntKind.signed, IntKind.bits]
  rw [this]; omega

theorem clone_eq {l : List Int} (h : l.length ≤ LIM) : slices_Clone_byte_byte l = some l := by
  unfold slices_Clone_byte_byte LIM at *
  simp only [letO_eq, retM_eq, List.nil_append, bs0M_eq]
  rw [gdM_pos (by simp; omega)]
  unfold nilM
  rw [if_pos (by rintro rfl; rfl)]

def okU (n : Int) : Prop := 0 ≤ n ∧ n ≤ 1152921504606846976
instance (n : Int) : Decidable (okU n) := by unfold okU; exact inferInstance
theorem addUint_eq {n : Int} {b : List Int} {ex : Bool} (hb : b.length + 10 ≤ LIM) : codec_addUint_o n b ex = some (if okU n then b ++ putU n.toNat else b) := by
  unfold codec_addUint_o LIM at *
  simp only [letE_eq, bif_or, retM_eq, letO_eq, exitM_some, nextM_eq]
  by_cases h : okU n
  · rw [if_pos h]
    obtain ⟨h1, h2⟩ := h
    rw [show (decide (n < 0) || decide (1152921504606846976 < n)) = false from by simp; omega]
    rw [iteM_false]
    refine loopM_rec (fun s : List Int × Int => (0 ≤ s.2 ∧ s.2 ≤ 1152921504606846976) ∧ s.1.length + (putU s.2.toNat).length ≤ 140737488355328) (fun s => s.2.toNat) (fun s => s.1 ++ putU s.2.toNat) ?_ ?_
    · rintro ⟨a, m⟩ ⟨⟨h0, hm⟩, hl⟩
      simp only at h0 hm hl ⊢
      simp only [iteM_dec]
      by_cases h128 : 128 ≤ m
      · right
        have hp := putU_ge (n := m.toNat) (by omega)
        have e1 : Int.tmod m 128 = m % 128 := by rw [Int.tmod_eq_emod_of_nonneg h0]
        have e2 : Int.tdiv m 128 = m / 128 := by rw [Int.tdiv_eq_ediv_of_nonneg h0]
        rw [hp, List.length_cons] at hl
        rw [if_pos h128, e1, e2, wI_of (by omega), u8_of (by omega), gdM_pos (by simp; omega), wI_of (by omega)]
        refine ⟨_, rfl, ⟨⟨by simp only; omega, by simp only; omega⟩, ?_⟩, by simp only; omega, ?_⟩
        · have e3 : (m / 128).toNat = m.toNat / 128 := by omega
          simp only [e3, List.length_append, List.length_cons, List.length_nil]; omega
        · have e3 : (m / 128).toNat = m.toNat / 128 := by omega
          have e4 : ((m.toNat % 128 + 128 : Nat) : Int) = m % 128 + 128 := by omega
          simp only [e3, hp, e4, List.append_assoc]; rfl
      · left
        have hp := putU_lt (n := m.toNat) (by omega)
        rw [hp] at hl
        have e4 : ((m.toNat : Nat) : Int) = m := by omega
        rw [if_neg h128, u8_of (by omega), gdM_pos (by simp at hl ⊢; omega), hp, e4, exitM_some]
    · have := putU_len9 (n := n.toNat) (by omega)
      exact ⟨⟨h1, h2⟩, by simp only; omega⟩
  · rw [if_neg h]
    rw [show (decide (n < 0) || decide (1152921504606846976 < n)) = true from by simp [okU] at h ⊢; omega]
    rfl
theorem PutUint_eq {n : Int} {b : List Int} (hb : b.length + 10 ≤ LIM) : codec_PutUint b n = some (if okU n then b ++ putU n.toNat else b) := by
  unfold codec_PutUint
  rw [clone_eq (by omega), callM_some, addUint_eq hb, callP_some]; rfl

def putT (s : Str) : List Int := if s.length ≤ 65536 then putU s.length ++ octs s else []
theorem addText_eq {s : Str} {b : List Int} {ex : Bool} (hb : b.length + s.length + 10 ≤ LIM) : codec_addText_o s b ex = some (b ++ putT s) := by
  unfold codec_addText_o putT
  simp only [letE_eq, iteM_dec, retM_eq, letO_eq]
  have := octs_length s
  by_cases h : s.length ≤ 65536
  · rw [if_neg (by omega), addUint_eq (by omega), callP_some, if_pos ⟨by omega, by omega⟩, if_pos h, Int.toNat_natCast]
    have := putU_len9 (n := s.length) (by omega)
    unfold LIM at hb
    rw [gdM_pos (by simp; omega), List.append_assoc]
  · rw [if_pos (by omega), if_neg h, List.append_nil]
theorem PutText_eq {s : Str} {b : List Int} (hb : b.length + s.length + 10 ≤ LIM) : codec_PutText b s = some (b ++ putT s) := by
  unfold codec_PutText
  rw [clone_eq (by omega), callM_some, addText_eq hb, callP_some]; rfl
theorem Clip_eq {b : List Int} (h : 0 < b.length) : slices_Clip_byte_byte b = some b := by
  unfold slices_Clip_byte_byte
  simp only [letE_eq, exoM_eq, retM_eq]
  rw [gdM_pos (by omega), gdM_pos trivial, gdM_pos (by simpa using h)]
  simp

def encP : List GPair → List Int
  | [] => []
  | p :: l => putT p.Name ++ putT p.Value ++ encP l
def encL (l : List GPair) : List Int := putU l.length ++ encP l
theorem encP_append (a b : List GPair) : encP (a ++ b) = encP a ++ encP b := by
  induction a with
  | nil => rfl
  | cons p a ih => simp [encP, ih, List.append_assoc]
theorem putT_len {s : Str} (h : s.length ≤ 64) : (putT s).length ≤ s.length + 1 := by
  unfold putT
  rw [if_pos (by omega), List.length_append, octs_length, putU_lt (by omega), List.length_singleton]; omega
theorem sane_mem {l : List GPair} (h : saneB l = true) {p : GPair} (hp : p ∈ l) : p.Name.length ≤ 64 ∧ p.Value.length ≤ 64 := by
  obtain ⟨h1, h2, h3, _⟩ := saneB_iff.1 h
  refine ⟨?_, h3 p hp⟩
  have := h2 p hp
  unfold nameB at this
  simp only [Bool.and_eq_true, decide_eq_true_eq] at this
  exact this.1.2
theorem encP_len : ∀ {l : List GPair}, (∀ p ∈ l, p.Name.length ≤ 64 ∧ p.Value.length ≤ 64) → (encP l).length ≤ 130 * l.length
  | [], _ => by simp [encP]
  | p :: l, h => by
    have h1 := h p List.mem_cons_self
    have := encP_len (l := l) fun q hq => h q (List.mem_cons_of_mem _ hq)
    have := putT_len h1.1
    have := putT_len h1.2
    simp only [encP, List.length_append, List.length_cons]; omega
theorem PutLabels_eq {b : List Int} {l : List GPair} (h0 : 0 < b.length) (hb : b.length + 10000 ≤ LIM) (hs : saneB l = true) : codec_PutLabels b l = some (b ++ encL l) := by
  unfold codec_PutLabels
  rw [label_Sane_eq, callM_some, hs]
  simp only [letE_eq, iteM_not, iteM_true, callM_some, Clip_eq h0, addUint_eq (show b.length + 10 ≤ LIM by omega), callP_some, permM_eq, nextM_eq, retM_eq, exitM_some]
  have hl16 := (saneB_iff.1 hs).1
  rw [if_pos ⟨by omega, by omega⟩, Int.toNat_natCast]
  have hm := fun p hp => sane_mem hs (p := p) hp
  have hu := putU_lt (n := l.length) (by omega)
  refine (loopM_natB l.length (fun i a => a = b ++ putU l.length ++ encP (l.take i)) (fun i a => a ++ encP (l.drop i)) ?_ ?_ (by simp [encP])).trans (by simp [encL])
  · rintro i a hi rfl
    right
    have hp := hm _ (List.getElem_mem hi)
    have hpl : (encP (l.take i)).length ≤ 130 * 16 := by
      have := encP_len (l := l.take i) (fun p hp => hm p (List.mem_of_mem_take hp))
      have : (l.take i).length ≤ 16 := by rw [List.length_take]; omega
      omega
    have e : pr l i = l[i] := by simp [pr, List.getD_eq_getElem?_getD, List.getElem?_eq_getElem hi]
    simp only [iteM_dec, idxM_get (pr_get hi)]
    rw [if_pos (by omega), e, addText_eq (by simp [hu]; omega), callP_some, addText_eq (by have := putT_len hp.1; simp [hu]; omega), callP_some, wI_of (by omega)]
    refine ⟨_, rfl, ?_, ?_⟩
    · rw [take_pr hi, encP_append, e]; simp [encP, List.append_assoc]
    · rw [drop_pr hi, e]; simp [encP, List.append_assoc]
  · rintro a rfl
    simp only [iteM_dec]
    rw [if_neg (by omega)]
    simp [encP]

def zig (v : Int) : Int := if v < 0 then -2 * v - 1 else 2 * v
def okI59 (v : Int) : Prop := -576460752303423488 ≤ v ∧ v ≤ 576460752303423488
theorem zig_ok {v : Int} (h : okI59 v) : okU (zig v) := by
  obtain ⟨h1, h2⟩ := h
  unfold zig okU; split <;> omega
theorem PutInt_eq {v : Int} {b : List Int} (hb : b.length + 10 ≤ LIM) (h : okI59 v) : codec_PutInt b v = some (b ++ putU (zig v).toNat) := by
  unfold codec_PutInt
  have hz := zig_ok h
  obtain ⟨h1, h2⟩ := h
  simp only [letE_eq, bif_or]
  rw [show (decide (v < -576460752303423488) || decide (576460752303423488 < v)) = false from by simp; omega]
  simp only [iteM_false, iteM_dec]
  by_cases h0 : v < 0
  · rw [if_pos h0, wI_of (x := -2 * v) (by omega), wI_of (by omega)]
    have e : zig v = -2 * v - 1 := by unfold zig; rw [if_pos h0]
    rw [← e, PutUint_eq hb, callM_some, if_pos hz]; rfl
  · rw [if_neg h0, wI_of (by omega)]
    have e : zig v = 2 * v := by unfold zig; rw [if_neg h0]
    rw [← e, PutUint_eq hb, callM_some, if_pos hz]; rfl
end Go.Proofs.YtoekflobllmeeaaGreatDoor.AM

/- Holds: the models in plain words. -/
namespace Go.Proofs.YtoekflobllmeeaaGreatDoor.AM
open Go

def bd (x : Int) : Int := min (max x 0) 9007199254740992
theorem bd_ge (x : Int) : 0 ≤ bd x := by unfold bd; omega
theorem bd_le (x : Int) : bd x ≤ 9007199254740992 := by unfold bd; omega
@[simp] theorem bd_bd (x : Int) : bd (bd x) = bd x := by unfold bd; omega
def tmB (x : Int) : Bool := decide (0 ≤ x) && decide (x ≤ 9007199254740992)
theorem tmB_iff {x : Int} : tmB x = true ↔ 0 ≤ x ∧ x ≤ 9007199254740992 := by simp [tmB]
theorem tmB_bd (x : Int) : tmB (bd x) = true := tmB_iff.2 ⟨bd_ge x, bd_le x⟩
def holdB (h : GHold) : Bool := tmB h.Since && tmB h.Fired && (h.On || decide (h.Since = 0)) && (h.Hit || decide (h.Fired = 0))
def h0 : GHold := ⟨false, 0, false, 0⟩
def cntH (h : GHold) : GHold := if holdB h then h else h0

theorem hold_time_eq (x : Int) : hold_time x = some (tmB x) := by
  unfold hold_time
  simp only [letE_eq, bif_and]; rfl
theorem hold_Sane_eq (h : GHold) : hold_Sane h = some (holdB h) := by
  unfold hold_Sane holdB
  simp only [hold_time_eq, callM_some, letE_eq, iteM_not]
  cases tmB h.Since
  · rfl
  cases tmB h.Fired
  · rfl
  cases h.On <;> cases h.Hit <;> simp [iteM_if]
  · split <;> simp [*]
  · split <;> simp [*]
theorem hold_counted_eq (h : GHold) : hold_counted h = some (cntH h) := by
  unfold hold_counted cntH
  simp only [hold_Sane_eq, callM_some, letE_eq, iteM_not]
  cases holdB h <;> rfl
theorem cntH_ok (h : GHold) : holdB (cntH h) = true := by
  unfold cntH; split
  · assumption
  · rfl
theorem cntH_of {h : GHold} (hh : holdB h = true) : cntH h = h := if_pos hh
@[simp] theorem cntH_cntH (h : GHold) : cntH (cntH h) = cntH h := cntH_of (cntH_ok h)

theorem hold_bounded_eq {l : List Int} (h : l.length ≤ 1000) : hold_bounded l = some (l.map bd) := by
  unfold hold_bounded
  simp only [letE_eq]
  rw [gdM_pos (by omega)]
  simp only [letO_eq, Int.toNat_natCast]
  have hl : (List.replicate l.length (0 : Int)).length = l.length := by simp
  refine (loopM_natB l.length (fun i a => a = (l.take i).map bd ++ List.replicate (l.length - i) 0) (fun _ _ => l.map bd) ?_ ?_ (by simp)).trans rfl
  · rintro i a hi rfl
    right
    refine ⟨(l.take (i + 1)).map bd ++ List.replicate (l.length - (i + 1)) 0, ?_, rfl, rfl⟩
    simp only [iteM_dec]
    have hg : l[i]? = some l[i] := List.getElem?_eq_getElem hi
    have hlen : ((l.take i).map bd ++ List.replicate (l.length - i) (0 : Int)).length = l.length := by simp; omega
    rw [if_pos (by omega), idxM_get hg, gdM_pos (by rw [hl]; omega), gdM_pos (by rw [hlen]; omega), wI_of (by omega)]
    simp only [nextM_eq, Int.toNat_natCast]
    congr 3
    have e1 : l.length - i = (l.length - (i + 1)) + 1 := by omega
    have e2 : ((l.take i).map bd).length = i := by simp; omega
    rw [List.set_append, if_neg (by rw [e2]; omega), e1, List.replicate_succ, e2, Nat.sub_self, List.set_cons_zero, List.take_add_one, hg, List.map_append, List.append_assoc]
    rfl
  · rintro a rfl
    simp only [iteM_dec]
    rw [if_neg (by omega), List.take_length, Nat.sub_self, gdM_pos (by simp)]
    simp
def nowH (h : GHold) (n u : Int) : Int :=
  if h.Hit = true ∧ (h.Fired = n ∨ (0 < u ∧ h.Fired < n ∧ n - h.Fired < u)) then 2 else if h.On = true then 1 else 0
theorem holdB_iff {h : GHold} : holdB h = true ↔ (0 ≤ h.Since ∧ h.Since ≤ 9007199254740992) ∧ (0 ≤ h.Fired ∧ h.Fired ≤ 9007199254740992) ∧ (h.On = true ∨ h.Since = 0) ∧ (h.Hit = true ∨ h.Fired = 0) := by
  simp [holdB, tmB_iff, and_assoc]
theorem hold_Now_eq (h : GHold) (a u : Int) : hold_Now h a u = some (nowH (cntH h) (bd a) (bd u)) := by
  unfold hold_Now
  rw [hold_counted_eq, callM_some, letE_eq, hold_bounded_eq (by simp), callM_some, idxM_of (x := bd a) (by omega) rfl, idxM_of (x := bd u) (by omega) rfl]
  have hk := holdB_iff.1 (cntH_ok h)
  have b1 := bd_ge a; have b2 := bd_le a; have b3 := bd_ge u; have b4 := bd_le u
  generalize cntH h = k at *
  generalize bd a = n at *
  generalize bd u = w at *
  rw [wI_of (by omega)]
  simp only [letE_eq, retM_eq]
  unfold nowH
  cases hH : k.Hit <;> cases hO : k.On <;> by_cases e1 : 0 < w <;> by_cases e2 : k.Fired < n <;> by_cases e3 : k.Fired = n <;> by_cases e4 : n - k.Fired < w <;> simp [e1, e2, e3, e4, iteM_if] <;> omega

def stepG (h : GHold) (hit : Bool) (n d : Int) : GHold :=
  if hit = false then ⟨false, 0, h.Hit, h.Fired⟩
  else if h.On = false ∨ n < h.Since then (if d ≤ 0 then ⟨true, n, true, n⟩ else ⟨true, n, h.Hit, h.Fired⟩)
  else if d ≤ n - h.Since then ⟨true, h.Since, true, n⟩ else ⟨true, h.Since, h.Hit, h.Fired⟩
def stepH (h : GHold) (hit : Bool) (now d u : Int) : GHold × Int :=
  let g := stepG (cntH h) hit (bd now) (bd d)
  (g, nowH g (bd now) (bd u))
theorem stepG_ok {h : GHold} {hit : Bool} {n d : Int} (hh : holdB h = true) (hn : tmB n = true) : holdB (stepG h hit n d) = true := by
  have a := holdB_iff.1 hh
  have b := tmB_iff.1 hn
  apply holdB_iff.2
  unfold stepG
  obtain ⟨a1, a2, a3, a4⟩ := a
  repeat' split
  all_goals (refine ⟨?_, ?_, ?_, ?_⟩ <;> first | exact a4 | exact a2 | exact a1 | exact b | (simp; done) | (simp only []; omega))
theorem hold_Step_eq (h : GHold) (hit : Bool) (now d u : Int) : hold_Step h hit now d u = some (stepH h hit now d u) := by
  unfold hold_Step
  rw [hold_counted_eq, callM_some, letE_eq, hold_bounded_eq (by simp), callM_some, idxM_of (x := bd now) (by omega) rfl, idxM_of (x := bd d) (by omega) rfl, idxM_of (x := bd u) (by omega) rfl]
  have hk := holdB_iff.1 (cntH_ok h)
  have b1 := bd_ge now; have b2 := bd_le now
  have hok := fun t => stepG_ok (h := cntH h) (hit := t) (n := bd now) (d := bd d) (cntH_ok h) (tmB_bd now)
  unfold stepH
  simp only [letE_eq, tailM_eq, hold_Now_eq, callM_some, retM_eq, bd_bd, iteM_not]
  generalize cntH h = k at *
  have hok' := hok hit
  have e0 : wI (bd now - bd now) = 0 := by rw [wI_of (by omega)]; omega
  have e1 : wI (bd now - k.Since) = bd now - k.Since := wI_of (by omega)
  rw [e0, e1]
  unfold stepG at hok' ⊢
  cases hit with
  | false =>
    simp only [if_true] at hok'
    simp only [iteM_false, if_true, cntH_of hok']
  | true =>
    cases hO : k.On with
    | false =>
      by_cases e2 : bd d ≤ 0
      · simp [hO, e2] at hok'
        simp [e2, cntH_of hok']
      · simp [hO, e2] at hok'
        simp [e2, cntH_of hok']
    | true =>
      by_cases e3 : bd now < k.Since
      · by_cases e2 : bd d ≤ 0
        · simp [hO, e2, e3] at hok'
          simp [e2, e3, cntH_of hok']
        · simp [hO, e2, e3] at hok'
          simp [e2, e3, cntH_of hok']
      · by_cases e2 : bd d ≤ bd now - k.Since
        · simp [hO, e2, e3] at hok'
          simp [e2, e3, cntH_of hok']
        · simp [hO, e2, e3] at hok'
          simp [e2, e3, cntH_of hok']
def goneH (h : GHold) (n u : Int) : Bool := decide (nowH h n u = 0) && !h.On && (!h.Hit || (decide (h.Fired < n) && decide (u ≤ n - h.Fired)))
theorem hold_Gone_eq (h : GHold) (a u : Int) : hold_Gone h a u = some (goneH (cntH h) (bd a) (bd u)) := by
  unfold hold_Gone
  rw [hold_counted_eq, callM_some, letE_eq, hold_bounded_eq (by simp), callM_some, idxM_of (x := bd a) (by omega) rfl, idxM_of (x := bd u) (by omega) rfl]
  have hk := holdB_iff.1 (cntH_ok h)
  have b1 := bd_ge a; have b2 := bd_le a
  rw [hold_Now_eq, callM_some, cntH_cntH, bd_bd, bd_bd]
  have e1 : wI (bd a - (cntH h).Fired) = bd a - (cntH h).Fired := wI_of (by omega)
  simp only [letE_eq, retM_eq, iteM_not, iteM_dec, e1]
  unfold goneH
  generalize cntH h = k at *
  by_cases e2 : nowH k (bd a) (bd u) = 0
  · rw [if_pos e2]
    cases hO : k.On <;> cases hH : k.Hit <;> by_cases e3 : k.Fired < bd a <;> simp [e2, e3]
  · rw [if_neg e2]; simp [e2]
end Go.Proofs.YtoekflobllmeeaaGreatDoor.AM

/- Tables: what is sane, found, active. -/
namespace Go.Proofs.YtoekflobllmeeaaGreatDoor.AM
open Go

section
variable {α : Type} [Inhabited α]
def nth (l : List α) (k : Nat) : α := l.getD k default
theorem nth_get {l : List α} {k : Nat} (h : k < l.length) : l[k]? = some (nth l k) := by
  rw [nth, List.getD_eq_getElem?_getD, List.getElem?_eq_getElem h]; rfl
theorem nth_mem {l : List α} {k : Nat} (h : k < l.length) : nth l k ∈ l := by
  rw [nth, List.getD_eq_getElem?_getD, List.getElem?_eq_getElem h]; exact List.getElem_mem h
theorem drop_nth {l : List α} {k : Nat} (hk : k < l.length) : l.drop k = nth l k :: l.drop (k + 1) := by
  have hp := nth_get hk
  rw [List.drop_eq_getElem_cons hk]
  congr 1
  rw [List.getElem?_eq_getElem hk] at hp
  exact Option.some.inj hp
theorem take_nth {l : List α} {k : Nat} (hk : k < l.length) : l.take (k + 1) = l.take k ++ [nth l k] := by
  rw [List.take_add_one, nth_get hk]; rfl
end
theorem countsL_sane {l : List GPair} (h : saneB l = true) : countsL l = l := by rw [countsL, if_pos h]
theorem compareL_sane {a b : List GPair} (ha : saneB a = true) (hb : saneB b = true) : compareL a b = cmpLs a b := by rw [compareL, countsL_sane ha, countsL_sane hb]

def alOk (a : GAlert) : Bool := saneB a.L && holdB a.H && decide (0 ≤ a.State) && decide (a.State ≤ 2)
def tabAt (l : List GAlert) (i : Nat) : Bool := alOk (nth l i) && (decide (i = 0) || decide (compareL (nth l (i - 1)).L (nth l i).L < 0))
def cap : Int := 9007199254740992
def tabB (t : GTable) : Bool := decide (t.A.length ≤ 16) && decide (0 ≤ t.Full) && decide (t.Full ≤ cap) && (List.range t.A.length).all (tabAt t.A)
def t0 : GTable := ⟨[], 0⟩
def cntT (t : GTable) : GTable := if tabB t then t else t0
theorem table_Sane_eq (t : GTable) : table_Sane t = some (tabB t) := by
  unfold table_Sane tabB
  simp only [letE_eq, iteM_dec]
  by_cases h1 : 16 < t.A.length
  · rw [if_pos (by omega), decide_eq_false (by omega)]; rfl
  rw [if_neg (by omega), decide_eq_true (show t.A.length ≤ 16 by omega)]
  by_cases h2 : t.Full < 0
  · rw [if_pos h2, decide_eq_false (show ¬ 0 ≤ t.Full by omega)]; rfl
  rw [if_neg h2, decide_eq_true (show 0 ≤ t.Full by omega)]
  by_cases h3 : 9007199254740992 < t.Full
  · rw [if_pos h3, decide_eq_false (show ¬ t.Full ≤ cap by unfold cap; omega)]; rfl
  rw [if_neg h3, decide_eq_true (show t.Full ≤ cap by unfold cap; omega)]
  refine (loopM_nat t.A.length (fun i => (List.range t.A.length).all fun j => decide (j < i) || tabAt t.A j) ?_ ?_).trans ?_
  rotate_right
  · rw [all_zero]; rfl
  · intro i hi
    simp only [iteM_dec, idxM_get (nth_get hi), label_Sane_eq, callM_some, iteM_not, hold_Sane_eq, drawM_eq]
    rw [if_pos (by omega)]
    cases e1 : saneB (nth t.A i).L
    · left; simp [all_bad hi (show tabAt t.A i = false by simp [tabAt, alOk, e1])]
    cases e2 : holdB (nth t.A i).H
    · left; simp [all_bad hi (show tabAt t.A i = false by simp [tabAt, alOk, e2])]
    simp only [iteM_true]
    by_cases e3 : (nth t.A i).State < 0
    · left; rw [if_pos e3]; simp [all_bad hi (show tabAt t.A i = false by simp [tabAt, alOk, show ¬ 0 ≤ (nth t.A i).State by omega])]
    rw [if_neg e3]
    by_cases e4 : 2 < (nth t.A i).State
    · left; rw [if_pos e4]; simp [all_bad hi (show tabAt t.A i = false by simp [tabAt, alOk, show ¬ (nth t.A i).State ≤ 2 by omega])]
    rw [if_neg e4]
    have e5 : alOk (nth t.A i) = true := by simp [alOk, e1, e2]; omega
    by_cases h0 : i = 0
    · right
      subst h0
      rw [if_neg (by omega), wI_of (by omega)]
      exact ⟨by simp [wI_of], all_lt (by simp [tabAt, e5])⟩
    · rw [if_pos (by omega), wI_of (x := (i : Int) - 1) (by omega), idxM_of (x := nth t.A (i - 1)) (by omega) (by rw [show ((i : Int) - 1).toNat = i - 1 from by omega]; exact nth_get (by omega)), label_Compare_eq, callM_some]
      by_cases e6 : 0 ≤ compareL (nth t.A (i - 1)).L (nth t.A i).L
      · left; rw [if_pos e6]; simp [all_bad hi (show tabAt t.A i = false by simp [tabAt, h0, e6])]
      · right; rw [if_neg e6, wI_of (by omega)]
        exact ⟨by simp, all_lt (by simp [tabAt, e5]; omega)⟩
  · try simp only [iteM_dec]
    rw [if_neg (by omega)]
    simp [all_end]
theorem table_counted_eq (t : GTable) : table_counted t = some (cntT t) := by
  unfold table_counted cntT
  simp only [table_Sane_eq, callM_some, letE_eq, iteM_not]
  cases tabB t <;> rfl
theorem cntT_ok (t : GTable) : tabB (cntT t) = true := by
  unfold cntT; split
  · assumption
  · rfl
theorem cntT_of {t : GTable} (h : tabB t = true) : cntT t = t := if_pos h

structure TabOk (t : GTable) : Prop where
  len : t.A.length ≤ 16
  full : 0 ≤ t.Full ∧ t.Full ≤ cap
  each : ∀ a ∈ t.A, alOk a = true
  asc : t.A.Pairwise fun p q => cmpLs p.L q.L < 0
theorem alOk_sane {a : GAlert} (h : alOk a = true) : saneB a.L = true := by
  simp only [alOk, Bool.and_eq_true] at h; exact h.1.1.1
theorem cmpLs_lt {a b c : List GPair} (h : cmpLs a b < 0) (k : cmpLs b c < 0) : cmpLs a c < 0 := by
  have o := cmpLs_ord
  rcases Int.lt_or_eq_of_le (o.trans a b c (by omega) (by omega)) with h' | h'
  · exact h'
  · have := (o.zero a c).1 h'
    subst this
    have := o.anti a b
    omega
theorem pairwise_of_adj {α : Type} [Inhabited α] {R : α → α → Prop} (ht : ∀ a b c, R a b → R b c → R a c) : ∀ {l : List α}, (∀ i, i + 1 < l.length → R (nth l i) (nth l (i + 1))) → l.Pairwise R
  | [], _ => .nil
  | [a], _ => List.pairwise_singleton R a
  | a :: b :: l, h => by
    have ih := pairwise_of_adj ht (l := b :: l) fun i hi => h (i + 1) (by simpa using hi)
    rw [List.pairwise_cons]
    refine ⟨fun x hx => ?_, ih⟩
    have hab : R a b := h 0 (by simp)
    rcases List.mem_cons.1 hx with rfl | hx
    · exact hab
    · exact ht a b x hab ((List.pairwise_cons.1 ih).1 x hx)
theorem pairwise_nth {α : Type} [Inhabited α] {R : α → α → Prop} {l : List α} (h : l.Pairwise R) {i j : Nat} (hij : i < j) (hj : j < l.length) : R (nth l i) (nth l j) := by
  have := List.pairwise_iff_getElem.1 h i j (by omega) hj hij
  simpa [nth, List.getD_eq_getElem?_getD, List.getElem?_eq_getElem hj, List.getElem?_eq_getElem (show i < l.length by omega)] using this
theorem mem_nth {α : Type} [Inhabited α] {l : List α} {x : α} (h : x ∈ l) : ∃ i, i < l.length ∧ nth l i = x := by
  obtain ⟨i, hi, rfl⟩ := List.getElem_of_mem h
  exact ⟨i, hi, by simp [nth, List.getD_eq_getElem?_getD, List.getElem?_eq_getElem hi]⟩
theorem tabB_iff {t : GTable} : tabB t = true ↔ TabOk t := by
  constructor
  · intro h
    simp only [tabB, Bool.and_eq_true, decide_eq_true_eq, List.all_eq_true, List.mem_range] at h
    obtain ⟨⟨⟨h1, h2⟩, h3⟩, h4⟩ := h
    have he : ∀ a ∈ t.A, alOk a = true := by
      intro a ha
      obtain ⟨i, hi, rfl⟩ := mem_nth ha
      have := h4 i hi
      simp only [tabAt, Bool.and_eq_true] at this
      exact this.1
    refine ⟨h1, ⟨h2, h3⟩, he, pairwise_of_adj (R := fun p q : GAlert => cmpLs p.L q.L < 0) (fun _ _ _ h k => cmpLs_lt h k) fun i hi => ?_⟩
    have := h4 (i + 1) hi
    simp only [tabAt, Bool.and_eq_true, Bool.or_eq_true, decide_eq_true_eq, Nat.add_sub_cancel, Nat.add_eq_zero_iff, Nat.one_ne_zero, and_false, false_or] at this
    rw [compareL_sane (alOk_sane (he _ (nth_mem (by omega)))) (alOk_sane (he _ (nth_mem hi)))] at this
    exact this.2
  · rintro ⟨h1, ⟨h2, h3⟩, h4, h5⟩
    simp only [tabB, Bool.and_eq_true, decide_eq_true_eq, List.all_eq_true, List.mem_range]
    refine ⟨⟨⟨h1, h2⟩, h3⟩, fun i hi => ?_⟩
    simp only [tabAt, Bool.and_eq_true, Bool.or_eq_true, decide_eq_true_eq]
    refine ⟨h4 _ (nth_mem hi), ?_⟩
    by_cases h0 : i = 0
    · exact .inl h0
    · right
      rw [compareL_sane (alOk_sane (h4 _ (nth_mem (by omega)))) (alOk_sane (h4 _ (nth_mem hi)))]
      exact pairwise_nth h5 (by omega) hi

def zA : GAlert := ⟨[], h0, 0, 0⟩
def findA (A : List GAlert) (l : List GPair) : GAlert × Bool := match A.find? (fun a => decide (a.L = l)) with | some a => (a, true) | none => (zA, false)
theorem compareL_zero {a b : List GPair} (ha : saneB a = true) (hb : saneB b = true) : compareL a b = 0 ↔ a = b := by rw [compareL_sane ha hb]; exact cmpLs_ord.zero a b
end Go.Proofs.YtoekflobllmeeaaGreatDoor.AM

/- The codec's numbers, texts and labels: how they are got. -/
namespace Go.Proofs.YtoekflobllmeeaaGreatDoor.AM
open Go

theorem bOr_add {a m i : Nat} (ha : a < 2 ^ i) (h : a + m * 2 ^ i < 9223372036854775808) : bOr .i64 (a : Int) ((m * 2 ^ i : Nat) : Int) = ((a + m * 2 ^ i : Nat) : Int) := by
  unfold bOr
  have hb : IntKind.i64.bits = 64 := rfl
  rw [hb]
  have e1 : (BitVec.ofInt 64 (a : Int)).toNat = a := by
    rw [BitVec.toNat_ofInt]
    omega
  have e2 : (BitVec.ofInt 64 ((m * 2 ^ i : Nat) : Int)).toNat = m * 2 ^ i := by
    rw [BitVec.toNat_ofInt]
    omega
  rw [BitVec.toNat_or, e1, e2]
  have e3 : a ||| m * 2 ^ i = a + m * 2 ^ i := by
    rw [Nat.or_comm, Nat.mul_comm, ← Nat.two_pow_add_eq_or_of_lt ha]
    omega
  rw [e3]
  exact wI_of ⟨by omega, by omega⟩
theorem pow7 (i : Nat) : 128 ^ i = 2 ^ (7 * i) := by rw [Nat.pow_mul]

theorem nthI_oct {b : List Int} (h : Oct b) {i : Nat} (hi : i < b.length) : 0 ≤ nth b i ∧ nth b i < 256 := h _ (nth_mem hi)
theorem GetUint_eq {b : List Int} (ho : Oct b) : codec_GetUint b = some (getU b) := by
  unfold codec_GetUint
  simp only [letE_eq, retM_eq, exitM_some, nextM_eq, iteM_dec, bif_and]
  refine (loopM_natB 9 (fun i a => (0 ≤ a ∧ a.toNat < 128 ^ i) ∧ i ≤ b.length) (fun i a => getF (9 - i) i a.toNat (b.drop i)) ?_ ?_ ⟨by simp, by omega⟩).trans (by simp [getU])
  · rintro i a hi ⟨⟨h0, ha⟩, hl⟩
    rw [if_pos (by omega)]
    obtain ⟨k, hk⟩ : ∃ k, 9 - i = k + 1 := ⟨8 - i, by omega⟩
    by_cases he : i = b.length
    · left
      rw [if_pos (by omega), hk, List.drop_eq_nil_of_le (by omega)]; rfl
    · rw [if_neg (by omega)]
      have hil : i < b.length := by omega
      have hc := nthI_oct ho hil
      rw [idxM_get (nth_get hil), drop_nth hil, hk]
      generalize nth b i = c at hc
      have e1 : Int.tmod c 128 = c % 128 := Int.tmod_eq_emod_of_nonneg hc.1
      have hp : 128 ^ i ≤ 128 ^ 8 := Nat.pow_le_pow_right (by omega) (by omega)
      have hs : min (7 * (i : Int)).toNat 64 = 7 * i := by omega
      have hm : c.toNat % 128 * 128 ^ i ≤ 127 * 128 ^ 8 := Nat.mul_le_mul (by omega) hp
      have hp8 : (128 : Nat) ^ 8 = 72057594037927936 := by decide
      have e2 : (c % 128) * 2 ^ (7 * i) = ((c.toNat % 128 * 128 ^ i : Nat) : Int) := by
        rw [pow7]
        have : ((c.toNat % 128 : Nat) : Int) = c % 128 := by omega
        push_cast
        rw [← this]; push_cast; rfl
      have e3 : bOr .i64 a ((c.toNat % 128 * 128 ^ i : Nat) : Int) = ((a.toNat + c.toNat % 128 * 128 ^ i : Nat) : Int) := by
        have : a = (a.toNat : Int) := by omega
        rw [this, pow7, Int.toNat_natCast]
        rw [pow7] at ha hm
        rw [pow7, hp8] at hp
        exact bOr_add ha (by omega)
      rw [e1, wI_of (x := c % 128) (by omega), wI_of (x := 7 * (i : Int)) (by omega), gdM_pos (by omega), hs, e2, wI_of (by omega), e3]
      have hn : ((a.toNat + c.toNat % 128 * 128 ^ i : Nat) : Int).toNat = a.toNat + c.toNat % 128 * 128 ^ i := Int.toNat_natCast _
      rw [getF]
      by_cases h128 : 128 ≤ c
      · right
        rw [if_pos h128, if_pos h128, wI_of (by omega)]
        refine ⟨((a.toNat + c.toNat % 128 * 128 ^ i : Nat) : Int), by rw [show ((i : Int) + 1) = ((i + 1 : Nat) : Int) by omega], ⟨⟨by omega, ?_⟩, by omega⟩, ?_⟩
        · rw [hn, Nat.pow_succ]
          have : c.toNat % 128 * 128 ^ i ≤ 127 * 128 ^ i := Nat.mul_le_mul_right _ (by omega)
          omega
        · rw [hn, show 9 - (i + 1) = k by omega]
      · left
        have e4 : c.toNat % 128 = c.toNat := by omega
        rw [if_neg h128, if_neg h128, e4]
        by_cases hr : 1152921504606846976 < a.toNat + c.toNat * 128 ^ i
        · rw [if_pos hr, if_pos (by omega)]
        · rw [if_neg hr, if_neg (by omega)]
          by_cases hz : c = 0 ∧ 0 < i
          · rw [if_pos hz, show (decide (c = 0) && decide ((0 : Int) < (i : Int))) = true from by simp only [Bool.and_eq_true, decide_eq_true_eq]; omega]; rfl
          · rw [if_neg hz, show (decide (c = 0) && decide ((0 : Int) < (i : Int))) = false from by simp only [Bool.and_eq_false_iff, decide_eq_false_iff_not]; omega]
            rw [iteM_false, wI_of (by omega), gdM_pos (by omega)]
            rw [show ((b.length : Int)).toNat = b.length by omega, List.take_length, show ((i : Int) + 1).toNat = i + 1 by omega]
  · rintro a ⟨_, _⟩
    rw [if_neg (by omega)]; rfl

/-- A signed number. -/
def getI (b : List Int) : Int × List Int × Int :=
  if (getU b).2.2 = 0 then (if (getU b).1 % 2 = 1 then -(((getU b).1 + 1) / 2) else (getU b).1 / 2, (getU b).2.1, 0)
  else (0, [], (getU b).2.2)
theorem getF_le : ∀ (k i acc : Nat) (b : List Int), (getF k i acc b).1 ≤ 1152921504606846976
  | 0, i, acc, b => by simp [getF]
  | k + 1, i, acc, [] => by simp [getF]
  | k + 1, i, acc, c :: b => by
    rw [getF]
    split
    · exact getF_le k _ _ b
    · split
      · simp
      · split
        · simp
        · simp only; omega
theorem getU_ok (b : List Int) : okU (getU b).1 := ⟨getF_ge 9 0 0 b, getF_le 9 0 0 b⟩
theorem GetInt_eq {b : List Int} (ho : Oct b) : codec_GetInt b = some (getI b) := by
  unfold codec_GetInt getI
  rw [GetUint_eq ho, callM_some]
  simp only [letE_eq, iteM_not, iteM_dec, retM_eq]
  obtain ⟨h0, h1⟩ := getU_ok b
  generalize getU b = u at *
  by_cases he : u.2.2 = 0
  · rw [if_pos he, if_pos he]
    have e1 : Int.tmod u.1 2 = u.1 % 2 := Int.tmod_eq_emod_of_nonneg h0
    rw [e1]
    by_cases h2 : u.1 % 2 = 1
    · rw [if_pos h2, if_pos h2, wI_of (x := u.1 + 1) (by omega), wI_of (x := 0 - (u.1 + 1)) (by omega)]
      have e2 : Int.tdiv (0 - (u.1 + 1)) 2 = -((u.1 + 1) / 2) := by
        rw [show 0 - (u.1 + 1) = -(u.1 + 1) by omega, Int.neg_tdiv, Int.tdiv_eq_ediv_of_nonneg (by omega)]
      rw [e2, wI_of (by omega)]
    · rw [if_neg h2, if_neg h2, Int.tdiv_eq_ediv_of_nonneg h0, wI_of (by omega)]
  · rw [if_neg he, if_neg he]

/-- A text. -/
def getT (b : List Int) : Str × List Int × Int :=
  if (getU b).2.2 = 0 then
    if 65536 < (getU b).1 then ([], [], 4)
    else if ((getU b).2.1.length : Int) < (getU b).1 then ([], [], 3)
    else (strOf ((getU b).2.1.take (getU b).1.toNat), (getU b).2.1.drop (getU b).1.toNat, 0)
  else ([], [], (getU b).2.2)
theorem GetText_eq {b : List Int} (ho : Oct b) : codec_GetText b = some (getT b) := by
  unfold codec_GetText getT
  rw [GetUint_eq ho, callM_some]
  simp only [letE_eq, iteM_not, iteM_dec, retM_eq, drawM_eq]
  obtain ⟨h0, h1⟩ := getU_ok b
  generalize getU b = u at *
  by_cases he : u.2.2 = 0
  · rw [if_pos he, if_pos he]
    by_cases h2 : 65536 < u.1
    · rw [if_pos h2, if_pos h2]
    · rw [if_neg h2, if_neg h2]
      by_cases h3 : (u.2.1.length : Int) < u.1
      · rw [if_pos h3, if_pos h3]
      · rw [if_neg h3, if_neg h3, gdM_pos (by omega), gdM_pos (by omega)]
        rw [show ((u.2.1.length : Int)).toNat = u.2.1.length by omega, List.take_length]; rfl
  · rw [if_neg he, if_neg he]
end Go.Proofs.YtoekflobllmeeaaGreatDoor.AM

/- Readers of octets: what is put is got, what is cut is short, what is got was put. -/
namespace Go.Proofs.YtoekflobllmeeaaGreatDoor.AM
open Go

abbrev P (α : Type) := List Int → Except Int (α × List Int)
def toT {α : Type} (z : α) : Except Int (α × List Int) → α × List Int × Int
  | .ok (x, r) => (x, r, 0)
  | .error e => (z, [], e)
structure Cd {α : Type} (p : P α) (enc : α → List Int) (ok : α → Prop) : Prop where
  full : ∀ x r, ok x → p (enc x ++ r) = .ok (x, r)
  short : ∀ x a q, ok x → enc x = a ++ q → q ≠ [] → p a = .error 3
  inv : ∀ b x r, Oct b → p b = .ok (x, r) → b = enc x ++ r ∧ ok x
def Safe {α : Type} (p : P α) : Prop := ∀ b e, p b = .error e → e ≠ 0

section
variable {α β : Type} {p : P α} {q : P β} {enc : α → List Int} {enc' : β → List Int} {ok : α → Prop} {ok' : β → Prop}
theorem Cd.rest (h : Cd p enc ok) {b : List Int} {x : α} {r : List Int} (ho : Oct b) (hp : p b = .ok (x, r)) : Oct r := by
  obtain ⟨rfl, _⟩ := h.inv b x r ho hp; exact ho.right

def pSeq (p : P α) (q : P β) : P (α × β) := fun b => match p b with
  | .ok (x, r) => (match q r with | .ok (y, r') => .ok ((x, y), r') | .error e => .error e)
  | .error e => .error e
theorem pSeq_ok {b : List Int} {x : α} {y : β} {r : List Int} (h : pSeq p q b = .ok ((x, y), r)) : ∃ r1, p b = .ok (x, r1) ∧ q r1 = .ok (y, r) := by
  unfold pSeq at h
  split at h
  · rename_i x1 r1 h1
    split at h
    · rename_i y1 r2 h2; cases h; exact ⟨r1, h1, h2⟩
    · cases h
  · cases h
theorem Safe.seq (h : Safe p) (k : Safe q) : Safe (pSeq p q) := by
  intro b e he
  unfold pSeq at he
  split at he
  · split at he
    · cases he
    · rename_i e1 h2; cases he; exact k _ _ h2
  · rename_i e1 h1; cases he; exact h _ _ h1
theorem Cd.seq (h : Cd p enc ok) (k : Cd q enc' ok') : Cd (pSeq p q) (fun x => enc x.1 ++ enc' x.2) (fun x => ok x.1 ∧ ok' x.2) := by
  refine ⟨?_, ?_, ?_⟩
  · rintro ⟨x, y⟩ r ⟨h1, h2⟩
    simp only [pSeq, List.append_assoc, h.full x _ h1, k.full y r h2]
  · rintro ⟨x, y⟩ a c ⟨h1, h2⟩ he hc
    simp only at he h1 h2
    rcases List.append_eq_append_iff.1 he with ⟨a', k1, k2⟩ | ⟨c', k1, k2⟩
    · subst k1
      simp only [pSeq, h.full x _ h1, k.short y a' c h2 k2 hc]
    · by_cases h0 : c' = []
      · subst h0
        simp only [List.append_nil, List.nil_append] at k1 k2
        have := h.full x [] h1
        rw [List.append_nil, k1] at this
        simp only [pSeq, this, k.short y [] c h2 (by rw [k2]; rfl) hc]
      · simp only [pSeq, h.short x a c' h1 k1 h0]
  · rintro b ⟨x, y⟩ r ho hp
    obtain ⟨r1, h1, h2⟩ := pSeq_ok hp
    obtain ⟨rfl, k1⟩ := h.inv b x r1 ho h1
    obtain ⟨rfl, k2⟩ := k.inv r1 y r ho.right h2
    exact ⟨by simp, k1, k2⟩

def pMap (f : α → β) (p : P α) : P β := fun b => match p b with
  | .ok (x, r) => .ok (f x, r)
  | .error e => .error e
theorem Safe.map {f : α → β} (h : Safe p) : Safe (pMap f p) := by
  intro b e he
  unfold pMap at he
  split at he
  · cases he
  · rename_i h1; cases he; exact h _ _ h1
theorem Cd.map {f : α → β} {g : β → α} (h : Cd p enc ok) (hg : ∀ x, ok x → g (f x) = x) : Cd (pMap f p) (fun y => enc (g y)) (fun y => ok (g y) ∧ f (g y) = y) := by
  refine ⟨?_, ?_, ?_⟩
  · rintro y r ⟨h1, h2⟩
    simp only [pMap, h.full _ r h1, h2]
  · rintro y a c ⟨h1, h2⟩ he hc
    simp only [pMap, h.short _ a c h1 he hc]
  · rintro b y r ho hp
    unfold pMap at hp
    split at hp
    · rename_i x r1 h1
      cases hp
      obtain ⟨rfl, k⟩ := h.inv b x r ho h1
      rw [hg x k]
      exact ⟨rfl, k, rfl⟩
    · cases hp

def pChk (c : α → Bool) (e : Int) (p : P α) : P α := fun b => match p b with
  | .ok (x, r) => if c x then .ok (x, r) else .error e
  | .error e => .error e
theorem Safe.chk {c : α → Bool} {e : Int} (he : e ≠ 0) (h : Safe p) : Safe (pChk c e p) := by
  intro b e' he'
  unfold pChk at he'
  split at he'
  · split at he'
    · cases he'
    · cases he'; exact he
  · rename_i h1; cases he'; exact h _ _ h1
theorem Cd.chk {c : α → Bool} {e : Int} (h : Cd p enc ok) : Cd (pChk c e p) enc (fun x => ok x ∧ c x = true) := by
  refine ⟨?_, ?_, ?_⟩
  · rintro x r ⟨h1, h2⟩
    simp only [pChk, h.full _ r h1, h2, if_true]
  · rintro x a q ⟨h1, h2⟩ he hc
    simp only [pChk, h.short _ a q h1 he hc]
  · rintro b y r ho hp
    unfold pChk at hp
    split at hp
    · rename_i x r1 h1
      split at hp
      · rename_i hc
        cases hp
        obtain ⟨rfl, k⟩ := h.inv b y r ho h1
        exact ⟨rfl, k, hc⟩
      · cases hp
    · cases hp

def encN (enc : α → List Int) : List α → List Int
  | [] => []
  | x :: l => enc x ++ encN enc l
def pMany (p : P α) : Nat → P (List α)
  | 0 => fun b => .ok ([], b)
  | n + 1 => pMap (fun x : α × List α => x.1 :: x.2) (pSeq p (pMany p n))
theorem Safe.many (h : Safe p) : ∀ n, Safe (pMany p n)
  | 0 => fun b e he => by cases he
  | n + 1 => (h.seq (Safe.many h n)).map
theorem pMany_full (h : Cd p enc ok) : ∀ (l : List α) (r : List Int), (∀ x ∈ l, ok x) → pMany p l.length (encN enc l ++ r) = .ok (l, r)
  | [], r, _ => rfl
  | x :: l, r, hl => by
    simp only [List.length_cons, pMany, encN, pMap, pSeq, List.append_assoc, h.full x _ (hl x List.mem_cons_self), pMany_full h l r (fun y hy => hl y (List.mem_cons_of_mem _ hy))]
theorem pMany_short (h : Cd p enc ok) : ∀ (l : List α) (a q : List Int), (∀ x ∈ l, ok x) → encN enc l = a ++ q → q ≠ [] → pMany p l.length a = .error 3
  | [], a, q, _, he, hq => by
    simp [encN] at he
    exact absurd he.2 hq
  | x :: l, a, c, hl, he, hc => by
    have h1 := hl x List.mem_cons_self
    have h2 : ∀ y ∈ l, ok y := fun y hy => hl y (List.mem_cons_of_mem _ hy)
    rw [encN] at he
    simp only [List.length_cons, pMany]
    rcases List.append_eq_append_iff.1 he with ⟨a', k1, k2⟩ | ⟨c', k1, k2⟩
    · subst k1
      simp only [pMap, pSeq, h.full x _ h1, pMany_short h l a' c h2 k2 hc]
    · by_cases h0 : c' = []
      · subst h0
        simp only [List.append_nil, List.nil_append] at k1 k2
        have := h.full x [] h1
        rw [List.append_nil, k1] at this
        simp only [pMap, pSeq, this, pMany_short h l [] c h2 (by rw [k2]; rfl) hc]
      · simp only [pMap, pSeq, h.short x a c' h1 k1 h0]
theorem pMany_inv (h : Cd p enc ok) : ∀ (n : Nat) (b : List Int) (l : List α) (r : List Int), Oct b → pMany p n b = .ok (l, r) → b = encN enc l ++ r ∧ l.length = n ∧ ∀ x ∈ l, ok x
  | 0, b, l, r, _, hp => by cases hp; exact ⟨rfl, rfl, fun x hx => by cases hx⟩
  | n + 1, b, l, r, ho, hp => by
    simp only [pMany, pMap] at hp
    split at hp
    · rename_i x r1 h1
      cases hp
      obtain ⟨x1, x2⟩ := x
      obtain ⟨r2, k1, k2⟩ := pSeq_ok h1
      obtain ⟨rfl, k3⟩ := h.inv b x1 r2 ho k1
      obtain ⟨rfl, k4, k5⟩ := pMany_inv h n r2 x2 r ho.right k2
      refine ⟨by simp [encN], by simp [k4], fun y hy => ?_⟩
      rcases List.mem_cons.1 hy with rfl | hy
      · exact k3
      · exact k5 y hy
    · cases hp

def pU : P Int := fun b => if (getU b).2.2 = 0 then .ok ((getU b).1, (getU b).2.1) else .error (getU b).2.2
theorem pU_eq (b : List Int) : toT 0 (pU b) = getU b := by
  unfold pU
  by_cases h : (getU b).2.2 = 0
  · rw [if_pos h]; simp only [toT]
    conv => rhs; rw [show getU b = ((getU b).1, (getU b).2.1, (getU b).2.2) from rfl, h]
  · rw [if_neg h]; exact (getU_zero h).symm
theorem pU_safe : Safe pU := by
  intro b e h
  unfold pU at h
  split at h
  · cases h
  · rename_i h1; cases h; exact h1
theorem pU_cd : Cd pU (fun n => putU n.toNat) okU := by
  refine ⟨?_, ?_, ?_⟩
  · rintro n r ⟨h1, h2⟩
    have := getU_put (n := n.toNat) (by omega) r
    simp only [pU, this, if_true]
    rw [show ((n.toNat : Nat) : Int) = n by omega]
  · rintro n a q ⟨h1, h2⟩ he hq
    have := getU_short (n := n.toNat) (by omega) he hq
    simp only [pU, this]; rfl
  · intro b n r ho h
    unfold pU at h
    split at h
    · rename_i h1
      cases h
      obtain ⟨m, k1, k2, k3⟩ := getU_inv ho (show getU b = ((getU b).1, (getU b).2.1, 0) by rw [← h1])
      refine ⟨?_, ?_⟩
      · rw [k2, Int.toNat_natCast]; exact k1
      · exact getU_ok b
    · cases h

/-- A count, and as many. -/
def pCount (most : Int) (p : P α) : P (List α) := fun b => match pU b with
  | .ok (n, r) => if most < n then .error 4 else pMany p n.toNat r
  | .error e => .error e
theorem Safe.count {most : Int} (h : Safe p) : Safe (pCount most p) := by
  intro b e he
  unfold pCount at he
  split at he
  · split at he
    · cases he; decide
    · exact h.many _ _ _ he
  · rename_i h1; cases he; exact pU_safe _ _ h1
theorem Cd.count {most : Nat} (hm : most ≤ 1000000) (h : Cd p enc ok) : Cd (pCount (most : Int) p) (fun l => putU l.length ++ encN enc l) (fun l => l.length ≤ most ∧ ∀ x ∈ l, ok x) := by
  have hu : ∀ l : List α, l.length ≤ most → okU (l.length : Int) := fun l hl => ⟨by omega, by omega⟩
  refine ⟨?_, ?_, ?_⟩
  · rintro l r ⟨h1, h2⟩
    have := pU_cd.full (l.length : Int) (encN enc l ++ r) (hu l h1)
    rw [Int.toNat_natCast] at this
    simp only [pCount, List.append_assoc, this]
    rw [if_neg (by omega), Int.toNat_natCast]
    exact pMany_full h l r h2
  · rintro l a c ⟨h1, h2⟩ he hc
    have hf := fun r => pU_cd.full (l.length : Int) r (hu l h1)
    simp only [Int.toNat_natCast] at hf
    rcases List.append_eq_append_iff.1 he with ⟨a', k1, k2⟩ | ⟨c', k1, k2⟩
    · subst k1
      simp only [pCount, hf]
      rw [if_neg (by omega), Int.toNat_natCast]
      exact pMany_short h l a' c h2 k2 hc
    · by_cases h0 : c' = []
      · subst h0
        simp only [List.append_nil, List.nil_append] at k1 k2
        have := hf []
        rw [List.append_nil, k1] at this
        simp only [pCount, this]
        rw [if_neg (by omega), Int.toNat_natCast]
        exact pMany_short h l [] c h2 (by rw [k2]; rfl) hc
      · have := pU_cd.short (l.length : Int) a c' (hu l h1) (by rw [Int.toNat_natCast]; exact k1) h0
        simp only [pCount, this]
  · intro b l r ho hp
    unfold pCount at hp
    split at hp
    · rename_i n r1 h1
      split at hp
      · cases hp
      · rename_i hn
        obtain ⟨rfl, k1, k2⟩ := pU_cd.inv b n r1 ho h1
        obtain ⟨rfl, k3, k4⟩ := pMany_inv h n.toNat r1 l r ho.right hp
        refine ⟨by rw [k3]; simp, by omega, k4⟩
    · cases hp
end

/-! ### Numbers with a sign, texts, labels -/
def unzig (n : Int) : Int := if n % 2 = 1 then -((n + 1) / 2) else n / 2
def pI : P Int := pMap unzig pU
theorem pI_cd : Cd pI (fun v => putU (zig v).toNat) okI59 := by
  have := pU_cd.map (f := unzig) (g := zig) (by
    rintro n ⟨h1, h2⟩
    unfold unzig zig
    split <;> split <;> omega)
  refine ⟨fun x r h => this.full x r ⟨zig_ok h, ?_⟩, fun x a q h => this.short x a q ⟨zig_ok h, ?_⟩, fun b x r ho hp => ?_⟩
  · unfold unzig zig; split <;> split <;> omega
  · unfold unzig zig; split <;> split <;> omega
  · obtain ⟨h1, ⟨h2, h3⟩, h4⟩ := this.inv b x r ho hp
    refine ⟨h1, ?_⟩
    unfold zig at h2 h3
    constructor <;> split at h2 <;> split at h3 <;> omega
theorem pI_eq (b : List Int) : toT 0 (pI b) = getI b := by
  unfold pI pMap pU getI
  by_cases h : (getU b).2.2 = 0
  · rw [if_pos h, if_pos h]; rfl
  · rw [if_neg h, if_neg h]; rfl
theorem pI_safe : Safe pI := pU_safe.map

def pT : P Str := fun b => match pU b with
  | .ok (n, r) => if 65536 < n then .error 4 else if (r.length : Int) < n then .error 3 else .ok (strOf (r.take n.toNat), r.drop n.toNat)
  | .error e => .error e
theorem pT_eq (b : List Int) : toT [] (pT b) = getT b := by
  unfold pT pU getT
  by_cases h : (getU b).2.2 = 0
  · rw [if_pos h, if_pos h]
    simp only
    split
    · rfl
    · split <;> rfl
  · rw [if_neg h, if_neg h]; rfl
theorem pT_safe : Safe pT := by
  intro b e h
  unfold pT at h
  split at h
  · split at h
    · cases h; decide
    · split at h
      · cases h; decide
      · cases h
  · rename_i h1; cases h; exact pU_safe _ _ h1
theorem octs_strOf : ∀ {l : List Int}, Oct l → octs (strOf l) = l
  | [], _ => rfl
  | c :: l, h => by
    have hc := h c List.mem_cons_self
    have := octs_strOf h.tail
    simp only [octs, strOf, List.map_cons] at this ⊢
    rw [this]
    congr 1
    rw [UInt8.toNat_ofNat']
    omega
theorem octs_oct (s : Str) : Oct (octs s) := by
  intro c hc
  simp only [octs, List.mem_map] at hc
  obtain ⟨b, _, rfl⟩ := hc
  have := b.toNat_lt
  omega
theorem strOf_len (l : List Int) : (strOf l).length = l.length := by simp [strOf]
def okT (s : Str) : Prop := s.length ≤ 65536
theorem putT_of {s : Str} (h : okT s) : putT s = putU s.length ++ octs s := if_pos h
theorem pT_cd : Cd pT putT okT := by
  have hf : ∀ (s : Str) r, okT s → pU (putU s.length ++ r) = .ok ((s.length : Int), r) := by
    intro s r h
    have := pU_cd.full (s.length : Int) r ⟨by omega, by unfold okT at h; omega⟩
    rwa [Int.toNat_natCast] at this
  refine ⟨?_, ?_, ?_⟩
  · intro s r h
    rw [putT_of h]
    simp only [pT, List.append_assoc, hf s _ h]
    unfold okT at h
    have hl := octs_length s
    rw [if_neg (by omega), if_neg (by rw [List.length_append]; omega), Int.toNat_natCast]
    rw [← hl, List.take_left, List.drop_left, strOf_octs]
  · intro s a c h he hc
    rw [putT_of h] at he
    rcases List.append_eq_append_iff.1 he with ⟨a', k1, k2⟩ | ⟨c', k1, k2⟩
    · subst k1
      simp only [pT, hf s _ h]
      unfold okT at h
      have hl := octs_length s
      have : a'.length < s.length := by
        rw [← hl, k2, List.length_append]
        have := List.length_pos_iff.2 hc
        omega
      rw [if_neg (by omega), if_pos (by omega)]
    · by_cases h0 : c' = []
      · subst h0
        simp only [List.append_nil, List.nil_append] at k1 k2
        have := hf s [] h
        rw [List.append_nil, k1] at this
        simp only [pT, this]
        unfold okT at h
        have hl := octs_length s
        have : 0 < s.length := by
          rw [← hl, ← k2]; exact List.length_pos_iff.2 hc
        rw [if_neg (by omega), if_pos (by simp; omega)]
      · have := pU_cd.short (s.length : Int) a c' ⟨by omega, by unfold okT at h; omega⟩ (by rw [Int.toNat_natCast]; exact k1) h0
        simp only [pT, this]
  · intro b s r ho hp
    unfold pT at hp
    split at hp
    · rename_i n r1 h1
      split at hp
      · cases hp
      · rename_i h2
        split at hp
        · cases hp
        · rename_i h3
          cases hp
          obtain ⟨rfl, k1, k2⟩ := pU_cd.inv b n r1 ho h1
          have hl : (r1.take n.toNat).length = n.toNat := by rw [List.length_take]; omega
          have hk : okT (strOf (r1.take n.toNat)) := by unfold okT; rw [strOf_len, hl]; omega
          refine ⟨?_, hk⟩
          rw [putT_of hk, strOf_len, hl, octs_strOf (fun x hx => ho.right x (List.mem_of_mem_take hx)), List.append_assoc, List.take_append_drop]
    · cases hp

def pPair : P GPair := pMap (fun x : Str × Str => ⟨x.1, x.2⟩) (pSeq pT pT)
def okPair (p : GPair) : Prop := okT p.Name ∧ okT p.Value
def putP (p : GPair) : List Int := putT p.Name ++ putT p.Value
theorem pPair_cd : Cd pPair putP okPair := by
  have := (pT_cd.seq pT_cd).map (f := fun x : Str × Str => (⟨x.1, x.2⟩ : GPair)) (g := fun p => (p.Name, p.Value)) (fun _ _ => rfl)
  exact ⟨fun x r h => this.full x r ⟨h, rfl⟩, fun x a q h => this.short x a q ⟨h, rfl⟩, fun b x r ho hp => by
    obtain ⟨h1, h2, _⟩ := this.inv b x r ho hp; exact ⟨h1, h2⟩⟩
theorem pPair_safe : Safe pPair := (pT_safe.seq pT_safe).map
def pL : P (List GPair) := pChk saneB 1 (pCount 16 pPair)
theorem pL_safe : Safe pL := Safe.chk (by decide) pPair_safe.count
theorem encN_P : ∀ l : List GPair, encN putP l = encP l
  | [] => rfl
  | p :: l => by rw [encN, encN_P l, encP]; rfl
theorem pL_cd : Cd pL encL (fun l => saneB l = true) := by
  have := (pPair_cd.count (most := 16) (by omega)).chk (c := saneB) (e := 1)
  have hs : ∀ l : List GPair, saneB l = true → (l.length ≤ 16 ∧ ∀ x ∈ l, okPair x) := by
    intro l h
    refine ⟨(saneB_iff.1 h).1, fun p hp => ?_⟩
    have := sane_mem h hp
    unfold okPair okT; omega
  refine ⟨fun l r h => ?_, fun l a q h he => ?_, fun b l r ho hp => ?_⟩
  · rw [encL, ← encN_P]; exact this.full l r ⟨hs l h, h⟩
  · rw [encL, ← encN_P] at he; exact this.short l a q ⟨hs l h, h⟩ he
  · obtain ⟨h1, _, h2⟩ := this.inv b l r ho hp
    rw [encL, ← encN_P]; exact ⟨h1, h2⟩
end Go.Proofs.YtoekflobllmeeaaGreatDoor.AM

/- Saves: when they are sane, how they are put. -/
namespace Go.Proofs.YtoekflobllmeeaaGreatDoor.AM
open Go

theorem cmpB_eq : ∀ (a b : Str), Go.Lib.compareBytes a b = cmpS a b
  | [], [] => by simp [Go.Lib.compareBytes, cmpS, ltS, Op.bytesLess]
  | [], _ :: _ => by simp [Go.Lib.compareBytes, cmpS, ltS, Op.bytesLess]
  | _ :: _, [] => by simp [Go.Lib.compareBytes, cmpS, ltS, Op.bytesLess]
  | a :: x, b :: y => by
    have ih := cmpB_eq x y
    unfold cmpS ltS at ih
    unfold Go.Lib.compareBytes cmpS ltS
    simp only [Op.bytesLess, Bool.or_eq_true, Bool.and_eq_true, decide_eq_true_eq, beq_iff_eq]
    by_cases h1 : a < b
    · simp [h1]
    · by_cases h2 : b < a
      · have : a ≠ b := fun e => by subst e; exact h1 h2
        simp [h1, h2, this]
      · have : a = b := UInt8.le_antisymm (UInt8.not_lt.1 h2) (UInt8.not_lt.1 h1)
        subst this
        simp only [h1, false_or, true_and, if_false]
        exact ih
theorem strings_Compare_eq (a b : Str) : strings_Compare a b = some (cmpS a b) := by
  unfold strings_Compare bytealg_CompareString
  rw [callM_some, retM_eq]
  rw [← cmpB_eq]
  simp [bs]
def cmpK (a b : GKey) : Int := if cmpS a.Group b.Group ≠ 0 then cmpS a.Group b.Group else cmpS a.Rule b.Rule
theorem compare_eq (a b : GKey) : snap_compare a b = some (cmpK a b) := by
  unfold snap_compare
  simp only [drawM_eq, strings_Compare_eq, callM_some, letE_eq, cmp_Or_eq, retM_eq]; rfl
def kP (k : GKey) : GPair := ⟨k.Group, k.Rule⟩
theorem cmpK_P (a b : GKey) : cmpK a b = cmpP (kP a) (kP b) := rfl
theorem kP_inj {a b : GKey} (h : kP a = kP b) : a = b := by
  obtain ⟨a1, a2⟩ := a
  obtain ⟨b1, b2⟩ := b
  simp only [kP, GPair.mk.injEq] at h
  obtain ⟨rfl, rfl⟩ := h; rfl
theorem cmpK_ord : Ord3 cmpK := by
  have o := cmpP_ord
  exact ⟨fun a b => o.rng (kP a) (kP b), fun a b => o.anti (kP a) (kP b), fun a b => (o.zero (kP a) (kP b)).trans ⟨kP_inj, fun h => by rw [h]⟩, fun a b c => o.trans (kP a) (kP b) (kP c)⟩
theorem cmpK_lt {a b c : GKey} (h : cmpK a b < 0) (k : cmpK b c < 0) : cmpK a c < 0 := by
  have o := cmpK_ord
  have h1 := o.trans a b c (by omega) (by omega)
  rcases Int.lt_or_eq_of_le h1 with h2 | h2
  · exact h2
  · have := (o.zero a c).1 h2
    subst this
    have := o.anti a b
    omega

def svOk (s : GSaved) : Bool := nameB s.K.Group && nameB s.K.Rule && tabB s.X
def svAt (l : List GSaved) (i : Nat) : Bool := svOk (nth l i) && (decide (i = 0) || decide (cmpK (nth l (i - 1)).K (nth l i).K < 0))
def svB (l : List GSaved) : Bool := decide (l.length ≤ 256) && (List.range l.length).all (svAt l)
theorem snap_Sane_eq (l : List GSaved) : snap_Sane l = some (svB l) := by
  unfold snap_Sane
  simp only [letE_eq, iteM_dec, retM_eq]
  by_cases h : l.length ≤ 256
  · rw [if_neg (by omega)]
    have hb : svB l = (List.range l.length).all fun j => decide (j < 0) || svAt l j := by unfold svB; simp [h]
    rw [hb]
    refine loopM_nat l.length (fun i => (List.range l.length).all fun j => decide (j < i) || svAt l j) ?_ ?_
    · intro i hi
      simp only [iteM_dec, idxM_get (nth_get hi), label_Name_eq, table_Sane_eq, callM_some, iteM_not, exitM_some, nextM_eq, drawM_eq, compare_eq]
      rw [if_pos (by omega)]
      by_cases h1 : nameB (nth l i).K.Group = true
      · by_cases h2 : nameB (nth l i).K.Rule = true
        · by_cases h3 : tabB (nth l i).X = true
          · rw [h1, h2, h3]
            simp only [iteM_true]
            have hok : svOk (nth l i) = true := by simp [svOk, h1, h2, h3]
            by_cases h0 : i = 0
            · right
              rw [if_neg (by omega), wI_of (by omega)]
              refine ⟨rfl, all_lt ?_⟩
              simp only [svAt, hok, Bool.true_and, Bool.or_eq_true, decide_eq_true_eq]; exact .inl h0
            · have hi1 : i - 1 < l.length := by omega
              rw [if_pos (by omega), wI_of (by omega), show (i : Int) - 1 = ((i - 1 : Nat) : Int) by omega, idxM_get (nth_get hi1)]
              by_cases hc : cmpK (nth l (i - 1)).K (nth l i).K < 0
              · right
                rw [if_neg (by omega), wI_of (by omega)]
                refine ⟨rfl, all_lt ?_⟩
                simp [svAt, hok, hc]
              · left
                rw [if_pos (by omega), all_bad hi (by simp [svAt, hc, h0])]
          · left
            simp only [Bool.not_eq_true] at h3
            rw [h1, h2, h3, all_bad hi (by simp [svAt, svOk, h3])]; rfl
        · left
          simp only [Bool.not_eq_true] at h2
          rw [h1, h2, all_bad hi (by simp [svAt, svOk, h2])]; rfl
      · left
        simp only [Bool.not_eq_true] at h1
        rw [h1, all_bad hi (by simp [svAt, svOk, h1])]; rfl
    · rw [if_neg (by omega), all_end]; rfl
  · rw [if_pos (by omega)]
    simp [svB, h]
structure SvOk (l : List GSaved) : Prop where
  len : l.length ≤ 256
  each : ∀ s ∈ l, svOk s = true
  asc : l.Pairwise (fun a b => cmpK a.K b.K < 0)
theorem svB_iff {l : List GSaved} : svB l = true ↔ SvOk l := by
  constructor
  · intro h
    simp only [svB, Bool.and_eq_true, decide_eq_true_eq, List.all_eq_true, List.mem_range] at h
    obtain ⟨h1, h4⟩ := h
    refine ⟨h1, fun a ha => ?_, pairwise_of_adj (R := fun a b : GSaved => cmpK a.K b.K < 0) (fun _ _ _ h k => cmpK_lt h k) fun i hi => ?_⟩
    · obtain ⟨i, hi, rfl⟩ := mem_nth ha
      have := h4 i hi
      simp only [svAt, Bool.and_eq_true] at this
      exact this.1
    · have := h4 (i + 1) hi
      simp only [svAt, Bool.and_eq_true, Bool.or_eq_true, decide_eq_true_eq, Nat.add_sub_cancel, Nat.add_eq_zero_iff, Nat.one_ne_zero, and_false, false_or] at this
      exact this.2
  · rintro ⟨h1, h4, h5⟩
    simp only [svB, Bool.and_eq_true, decide_eq_true_eq, List.all_eq_true, List.mem_range]
    refine ⟨h1, fun i hi => ?_⟩
    simp only [svAt, Bool.and_eq_true, Bool.or_eq_true, decide_eq_true_eq]
    refine ⟨h4 _ (nth_mem hi), ?_⟩
    by_cases h0 : i = 0
    · exact .inl h0
    · exact .inr (pairwise_nth h5 (by omega) hi)

/-! ### What is put -/
def code (a : GAlert) : Int := a.State + (if a.H.On then 4 else 0) + (if a.H.Hit then 8 else 0)
def clampV (v : Int) : Int := min (max v (-576460752303423488)) 576460752303423488
theorem clampV_ok (v : Int) : okI59 (clampV v) := by unfold clampV okI59; omega
theorem clampV_of {v : Int} (h : okI59 v) : clampV v = v := by unfold clampV okI59 at *; omega
def encA (a : GAlert) : List Int := encL a.L ++ (putU (code a).toNat ++ (putU a.H.Since.toNat ++ (putU a.H.Fired.toNat ++ putU (zig (clampV a.V)).toNat)))
def encS (s : GSaved) : List Int := putT s.K.Group ++ (putT s.K.Rule ++ (putU s.X.Full.toNat ++ (putU s.X.A.length ++ encN encA s.X.A)))
def encD (l : List GSaved) : List Int := putU l.length ++ encN encS l
structure AlOk (a : GAlert) : Prop where
  lab : saneB a.L = true
  st : 0 ≤ a.State ∧ a.State ≤ 2
  since : 0 ≤ a.H.Since ∧ a.H.Since ≤ 9007199254740992
  fired : 0 ≤ a.H.Fired ∧ a.H.Fired ≤ 9007199254740992
theorem AlOk.of {a : GAlert} (h : alOk a = true) : AlOk a := by
  simp only [alOk, Bool.and_eq_true, decide_eq_true_eq] at h
  obtain ⟨⟨⟨h1, h2⟩, h3⟩, h4⟩ := h
  have := holdB_iff.1 h2
  exact ⟨h1, ⟨h3, h4⟩, this.1, this.2.1⟩
theorem AlOk.code {a : GAlert} (h : AlOk a) : 0 ≤ code a ∧ code a ≤ 14 := by
  have := h.st
  unfold AM.code
  split <;> split <;> omega
theorem encL_len {l : List GPair} (h : saneB l = true) : (encL l).length ≤ 2100 := by
  have h16 := (saneB_iff.1 h).1
  have := encP_len (l := l) (fun p hp => sane_mem h hp)
  unfold encL
  rw [List.length_append, putU_lt (by omega), List.length_singleton]
  omega
theorem putI_len (v : Int) : (putU (zig (clampV v)).toNat).length ≤ 9 := putU_len9 (by have := zig_ok (clampV_ok v); obtain ⟨_, h⟩ := this; omega)
theorem encA_len {a : GAlert} (h : AlOk a) : (encA a).length ≤ 2200 := by
  have h1 := encL_len h.lab
  have h2 := putI_len a.V
  have h3 := h.since
  have h4 := h.fired
  have h5 := h.code
  have := putU_len9 (n := a.H.Since.toNat) (by omega)
  have := putU_len9 (n := a.H.Fired.toNat) (by omega)
  unfold encA
  simp only [List.length_append, putU_lt (show (code a).toNat < 128 by omega), List.length_singleton]
  omega
theorem putAlert_eq {b : List Int} {a : GAlert} (h0 : 0 < b.length) (hb : b.length + 20000 ≤ LIM) (h : AlOk a) : snap_putAlert b a = some (b ++ encA a) := by
  have hl := encL_len h.lab
  have hc := h.code
  have h3 := h.since
  have h4 := h.fired
  have h5 := h.st
  have u3 := putU_len9 (n := a.H.Since.toNat) (by omega)
  have u4 := putU_len9 (n := a.H.Fired.toNat) (by omega)
  have key : ∀ c : Int, c = code a → (callM (so 1 (cK .u8)) (fun _ => []) (codec_PutLabels b a.L) fun x3 => callM (so 2 (cK .u8)) (fun _ => []) (codec_PutUint x3 c) fun x4 => callM (so 3 (cK .u8)) (fun _ => []) (codec_PutUint x4 a.H.Since) fun x5 =>
      callM (so 4 (cK .u8)) (fun _ => []) (codec_PutUint x5 a.H.Fired) fun x6 => callM (so 5 (cK .u8)) (fun _ => []) (codec_PutInt x6 (clampV a.V)) fun x9 => some x9) = some (b ++ encA a) := by
    rintro c rfl
    have uc := putU_lt (n := (code a).toNat) (by omega)
    rw [PutLabels_eq h0 (by omega) h.lab, callM_some, PutUint_eq (by simp; omega), callM_some, if_pos ⟨by omega, by omega⟩, PutUint_eq (by simp [uc]; omega), callM_some, if_pos ⟨by omega, by omega⟩,
      PutUint_eq (by simp [uc]; omega), callM_some, if_pos ⟨by omega, by omega⟩, PutInt_eq (by simp [uc]; omega) (clampV_ok _), callM_some]
    simp [encA, List.append_assoc]
  unfold snap_putAlert
  simp only [letE_eq, retM_eq]
  cases hOn : a.H.On <;> cases hHit : a.H.Hit <;> simp only [iteM_true, iteM_false]
  · exact key _ (by simp [code, hOn, hHit])
  · rw [wI_of (by omega)]; exact key _ (by simp [code, hOn, hHit])
  · rw [wI_of (by omega)]; exact key _ (by simp [code, hOn, hHit])
  · rw [wI_of (x := a.State + 4) (by omega), wI_of (by omega)]; exact key _ (by simp [code, hOn, hHit])
end Go.Proofs.YtoekflobllmeeaaGreatDoor.AM

/- Saves: what Put answers; labels got; fields read one by one. -/
namespace Go.Proofs.YtoekflobllmeeaaGreatDoor.AM
open Go

theorem encN_append {α : Type} (enc : α → List Int) (a b : List α) : encN enc (a ++ b) = encN enc a ++ encN enc b := by
  induction a with
  | nil => rfl
  | cons x a ih => simp [encN, ih, List.append_assoc]
theorem encN_len {α : Type} {enc : α → List Int} {m : Nat} : ∀ {l : List α}, (∀ x ∈ l, (enc x).length ≤ m) → (encN enc l).length ≤ m * l.length
  | [], _ => by simp [encN]
  | x :: l, h => by
    have h1 := h x List.mem_cons_self
    have := encN_len (l := l) fun y hy => h y (List.mem_cons_of_mem _ hy)
    simp only [encN, List.length_append, List.length_cons, Nat.mul_add]; omega
structure SvGood (s : GSaved) : Prop where
  grp : s.K.Group.length ≤ 64
  rul : s.K.Rule.length ≤ 64
  tab : TabOk s.X
theorem name_len {s : Str} (h : nameB s = true) : s.length ≤ 64 := by
  unfold nameB at h
  simp only [Bool.and_eq_true, decide_eq_true_eq] at h
  exact h.1.2
theorem SvGood.of {s : GSaved} (h : svOk s = true) : SvGood s := by
  simp only [svOk, Bool.and_eq_true] at h
  obtain ⟨⟨h1, h2⟩, h3⟩ := h
  exact ⟨name_len h1, name_len h2, tabB_iff.1 h3⟩
theorem SvGood.al {s : GSaved} (h : SvGood s) {a : GAlert} (ha : a ∈ s.X.A) : AlOk a := AlOk.of (h.tab.each a ha)
theorem SvGood.full {s : GSaved} (h : SvGood s) : 0 ≤ s.X.Full ∧ s.X.Full ≤ 9007199254740992 := h.tab.full
theorem encAs_len {s : GSaved} (h : SvGood s) {l : List GAlert} (hl : ∀ a ∈ l, a ∈ s.X.A) (h16 : l.length ≤ 16) : (encN encA l).length ≤ 35200 := by
  have := encN_len (enc := encA) (m := 2200) (l := l) fun a ha => encA_len (h.al (hl a ha))
  omega
theorem encS_len {s : GSaved} (h : SvGood s) : (encS s).length ≤ 36000 := by
  have h1 := putT_len h.grp
  have h2 := putT_len h.rul
  have h3 := h.full
  have h4 := h.tab.len
  have h5 := encAs_len h (l := s.X.A) (fun _ h => h) h4
  have := putU_len9 (n := s.X.Full.toNat) (by omega)
  have := h.grp
  have := h.rul
  unfold encS
  simp only [List.length_append, putU_lt (show s.X.A.length < 128 by omega), List.length_singleton]
  omega
theorem snap_Put_eq (l : List GSaved) : snap_Put l = some (if svB l then encD l else []) := by
  unfold snap_Put
  rw [snap_Sane_eq, callM_some]
  simp only [letE_eq, iteM_not, retM_eq, pubM_eq, exitM_some, nextM_eq]
  by_cases h : svB l = true
  · rw [h, iteM_true, if_pos rfl]
    have hs := svB_iff.1 h
    have hg := fun s hs' => SvGood.of (hs.each s hs')
    have h256 := hs.len
    have hu := putU_len9 (n := l.length) (by omega)
    rw [PutUint_eq (by simp [LIM]), callM_some, if_pos ⟨by omega, by omega⟩, List.nil_append, Int.toNat_natCast]
    refine (loopM_natA l.length (fun i a => a = putU l.length ++ encN encS (l.take i)) (fun i a => a ++ encN encS (l.drop i)) ?_ ?_ (by simp [encN])).trans (by simp [encD])
    · rintro i a hi rfl
      right
      have hsg := hg _ (nth_mem hi)
      have hpl : (encN encS (l.take i)).length ≤ 36000 * 256 := by
        have := encN_len (enc := encS) (m := 36000) (l := l.take i) (fun s hs' => encS_len (hg s (List.mem_of_mem_take hs')))
        have : (l.take i).length ≤ 256 := by rw [List.length_take]; omega
        omega
      have hp0 := List.length_pos_iff.2 (putU_ne l.length)
      simp only [iteM_dec, idxM_get (nth_get hi)]
      rw [if_pos (by omega), take_nth hi, drop_nth hi]
      generalize nth l i = s at hsg
      have t1 := putT_len hsg.grp
      have t2 := putT_len hsg.rul
      have := hsg.grp
      have := hsg.rul
      have hf := hsg.full
      have h16 := hsg.tab.len
      have uf := putU_len9 (n := s.X.Full.toNat) (by omega)
      have ua := putU_lt (n := s.X.A.length) (by omega)
      have hL : LIM = 140737488355328 := rfl
      rw [PutText_eq (by simp only [List.length_append]; omega), callM_some, PutText_eq (by simp only [List.length_append]; omega), callM_some, PutUint_eq (by simp only [List.length_append]; omega), callM_some, if_pos ⟨by omega, by omega⟩,
        PutUint_eq (by simp only [List.length_append]; omega), callM_some, if_pos ⟨by omega, by omega⟩, Int.toNat_natCast]
      have hin : ∀ (step : List Int × Int → Option (List Int × Int ⊕ (Int × List Int ⊕ List Int))) ph ob (B : List Int), 0 < B.length → B.length ≤ 36000 * 257 + 1000 →
          (∀ (k : Nat) a, k < s.X.A.length → step (a, (k : Int)) = (snap_putAlert a (nth s.X.A k)).bind fun x => some (.inl (x, wI ((k : Int) + 1)))) →
          (∀ a, step (a, (s.X.A.length : Int)) = some (.inr (.inl (wI ((i : Int) + 1), a)))) →
          loopM ph ob step (B, 0) = some (.inl (wI ((i : Int) + 1), B ++ encN encA s.X.A)) := by
        intro step ph ob B hB0 hB hst hen
        refine (loopM_natB s.X.A.length (fun k a => a = B ++ encN encA (s.X.A.take k)) (fun k a => (.inl (wI ((i : Int) + 1), a ++ encN encA (s.X.A.drop k)) : Int × List Int ⊕ List Int)) ?_ ?_ (by simp [encN])).trans (by simp)
        · rintro k a hk rfl
          right
          have ha := hsg.al (nth_mem hk)
          have := encAs_len hsg (l := s.X.A.take k) (fun a ha => List.mem_of_mem_take ha) (by rw [List.length_take]; omega)
          rw [hst k _ hk, putAlert_eq (by rw [List.length_append]; omega) (by rw [List.length_append]; omega) ha]
          refine ⟨_, by simp only [Option.bind_some]; rw [wI_of (by omega)]; rfl, ?_, ?_⟩
          · rw [take_nth hk, encN_append]; simp [encN, List.append_assoc]
          · rw [drop_nth hk]; simp [encN, List.append_assoc]
        · rintro a rfl
          rw [hen]
          simp [encN]
      rw [hin _ _ _ _ (by simp only [List.length_append]; omega) (by simp only [List.length_append, ua, List.length_singleton]; omega) ?_ ?_]
      · rw [wI_of (by omega)]
        refine ⟨_, rfl, ?_, ?_⟩
        · rw [encN_append]; simp [encN, encS, List.append_assoc]
        · simp [encN, encS, List.append_assoc]
      · intro k a hk
        rw [if_pos (by omega), idxM_get (nth_get hk)]
        cases snap_putAlert a (nth s.X.A k) <;> rfl
      · intro a
        rw [if_neg (by omega)]
    · rintro a rfl
      rw [iteM_dec, if_neg (by omega)]
      simp [encN]
  · simp only [Bool.not_eq_true] at h
    rw [h]; rfl
end Go.Proofs.YtoekflobllmeeaaGreatDoor.AM

/- Fields read one by one; labels got. -/
namespace Go.Proofs.YtoekflobllmeeaaGreatDoor.AM
open Go

theorem pU_get {b : List Int} (ho : Oct b) : codec_GetUint b = some (toT 0 (pU b)) := by rw [GetUint_eq ho, pU_eq]
theorem pT_get {b : List Int} (ho : Oct b) : codec_GetText b = some (toT [] (pT b)) := by rw [GetText_eq ho, pT_eq]
theorem pI_get {b : List Int} (ho : Oct b) : codec_GetInt b = some (toT 0 (pI b)) := by rw [GetInt_eq ho, pI_eq]

/-! ### Labels -/
theorem got_int_ok {b : List Int} (ho : Oct b) : codec_got_int_o ⟨b, 0⟩ = some ((toT 0 (pU b)).1, ⟨(toT 0 (pU b)).2.1, (toT 0 (pU b)).2.2⟩) := by
  unfold codec_got_int_o
  simp only [letE_eq, iteM_dec, if_true, pU_get ho, callM_some, retM_eq]
theorem got_str_ok {b : List Int} (ho : Oct b) : codec_got_string_o ⟨b, 0⟩ = some ((toT [] (pT b)).1, ⟨(toT [] (pT b)).2.1, (toT [] (pT b)).2.2⟩) := by
  unfold codec_got_string_o
  simp only [letE_eq, iteM_dec, if_true, pT_get ho, callM_some, retM_eq]
theorem got_str_err {b : List Int} {e : Int} (he : e ≠ 0) : codec_got_string_o ⟨b, e⟩ = some ([], ⟨b, e⟩) := by
  unfold codec_got_string_o
  simp only [letE_eq, iteM_dec, retM_eq]
  rw [if_neg he]
theorem pPair_err1 {b : List Int} {e : Int} (h : pT b = .error e) : pPair b = .error e := by simp only [pPair, pMap, pSeq, h]
theorem pPair_err2 {b r : List Int} {s : Str} {e : Int} (h : pT b = .ok (s, r)) (k : pT r = .error e) : pPair b = .error e := by simp only [pPair, pMap, pSeq, h, k]
theorem pPair_ok {b r r' : List Int} {s t : Str} (h : pT b = .ok (s, r)) (k : pT r = .ok (t, r')) : pPair b = .ok (⟨s, t⟩, r') := by simp only [pPair, pMap, pSeq, h, k]
theorem pMany_err {α : Type} {p : P α} {b : List Int} {e : Int} (h : p b = .error e) (k : Nat) : pMany p (k + 1) b = .error e := by simp only [pMany, pMap, pSeq, h]
theorem pMany_ok {α : Type} {p : P α} {b r : List Int} {x : α} (h : p b = .ok (x, r)) (k : Nat) : pMany p (k + 1) b = match pMany p k r with | .ok (l, r') => .ok (x :: l, r') | .error e => .error e := by
  simp only [pMany, pMap, pSeq, h]
  cases pMany p k r <;> rfl
def endL (l : List GPair) : Except Int (List GPair × List Int) → List GPair × List Int × Int
  | .ok (l', r) => if saneB (l ++ l') then (l ++ l', r, 0) else ([], [], 1)
  | .error e => ([], [], e)
theorem GetLabels_eq {b : List Int} (ho : Oct b) : codec_GetLabels b = some (toT [] (pL b)) := by
  unfold codec_GetLabels
  rw [got_int_ok ho, callO_some]
  simp only [letE_eq, bif_and, tokM_eq, letO_eq, retM_eq, exitM_some, nextM_eq]
  have hloop : ∀ (n : Int) (ph : List Int × Int × List GPair → List (Nat × AV)) (ob : List Int × Int × List GPair → List Obj) (step : List Int × Int × List GPair → Option (List Int × Int × List GPair ⊕ (List GPair × List Int × Int))),
      (∀ b e l, step (b, e, l) = iteM (decide (e = 0) && decide ((l.length : Int) < n))
        ((codec_got_string_o ⟨b, e⟩).bind fun x => (codec_got_string_o x.2).bind fun y => gdM ((l.length + 1) * 32 ≤ 140737488355328) (some (.inl (y.2.b, y.2.e, l ++ [⟨x.1, y.1⟩]))))
        (some (.inr (if e = 0 then (if saneB l then (l, b, 0) else ([], [], 1)) else ([], [], e))))) →
      ∀ (b : List Int) (e : Int), Oct b → (e = 0 → n ≤ 16) → loopM ph ob step (b, e, []) = some (if e = 0 then endL [] (pMany pPair n.toNat b) else ([], [], e)) := by
    intro n ph ob step hst b e hob hn
    refine loopM_rec (fun s : List Int × Int × List GPair => Oct s.1 ∧ (s.2.1 = 0 → n ≤ 16) ∧ (s.2.1 = 0 → s.2.2.length ≤ n.toNat) ∧ (s.2.1 = 0 → s.2.2.length ≤ 16)) (fun s => if s.2.1 = 0 then n.toNat + 1 - s.2.2.length else 0) (fun s => if s.2.1 = 0 then endL s.2.2 (pMany pPair (n.toNat - s.2.2.length) s.1) else ([], [], s.2.1)) ?_ ⟨hob, hn, fun _ => by simp, fun _ => by simp⟩
    rintro ⟨b, e, l⟩ ⟨h1, h2, h3, h4⟩
    simp only at h1 h2 h3 h4 ⊢
    rw [hst]
    by_cases he : e = 0
    · subst he
      simp only [decide_true, Bool.true_and, if_true, iteM_dec]
      have h2 := h2 rfl; have h3 := h3 rfl; have h4 := h4 rfl
      by_cases hl : (l.length : Int) < n
      · right
        rw [if_pos hl, got_str_ok h1]
        obtain ⟨k, hk⟩ : ∃ k, n.toNat - l.length = k + 1 := ⟨n.toNat - l.length - 1, by omega⟩
        have hgd : (l.length + 1) * 32 ≤ 140737488355328 := by omega
        rw [hk]
        cases hp : pT b with
        | error e1 =>
          have hne := pT_safe _ _ hp
          simp only [toT, Option.bind_some, got_str_err hne, gdM_pos hgd]
          refine ⟨_, rfl, ⟨(fun c hc => by cases hc), fun h => absurd h hne, fun h => absurd h hne, fun h => absurd h hne⟩, ?_, ?_⟩
          · rw [if_neg hne]; omega
          · rw [if_neg hne]
            rw [pMany_err (pPair_err1 hp)]; rfl
        | ok x =>
          obtain ⟨s, r1⟩ := x
          have ho1 : Oct r1 := pT_cd.rest h1 hp
          simp only [toT, Option.bind_some, got_str_ok ho1, gdM_pos hgd]
          cases hq : pT r1 with
          | error e2 =>
            have hne := pT_safe _ _ hq
            simp only [toT]
            refine ⟨_, rfl, ⟨(fun c hc => by cases hc), fun h => absurd h hne, fun h => absurd h hne, fun h => absurd h hne⟩, ?_, ?_⟩
            · rw [if_neg hne]; omega
            · rw [if_neg hne]
              rw [pMany_err (pPair_err2 hp hq)]; rfl
          | ok y =>
            obtain ⟨t, r2⟩ := y
            have ho2 : Oct r2 := pT_cd.rest ho1 hq
            simp only [toT]
            refine ⟨_, rfl, ⟨ho2, fun _ => h2, fun _ => by simp; omega, fun _ => by simp; omega⟩, ?_, ?_⟩
            · simp; omega
            · simp only [if_true, List.length_append, List.length_singleton, show n.toNat - (l.length + 1) = k by omega]
              rw [pMany_ok (pPair_ok hp hq)]
              cases pMany pPair k r2 with
              | error e => rfl
              | ok z => simp [endL]
      · left
        rw [if_neg hl]
        have : n.toNat - l.length = 0 := by omega
        rw [this]
        simp [pMany, endL]
    · left
      rw [show (decide (e = 0) && decide ((l.length : Int) < n)) = false from by simp [he], iteM_false, if_neg he, if_neg he]
  have hf : ((toT 0 (pU b)).2.2 = 0 ∧ pU b = .ok ((toT 0 (pU b)).1, (toT 0 (pU b)).2.1) ∧ Oct (toT 0 (pU b)).2.1) ∨ ((toT 0 (pU b)).2.2 ≠ 0 ∧ pU b = .error (toT 0 (pU b)).2.2 ∧ Oct (toT 0 (pU b)).2.1) := by
    cases hp : pU b with
    | error e => exact .inr ⟨pU_safe _ _ hp, rfl, fun c hc => by cases hc⟩
    | ok x => exact .inl ⟨rfl, rfl, pU_cd.rest ho hp⟩
  generalize toT 0 (pU b) = u at hf ⊢
  obtain ⟨n, r, e⟩ := u
  simp only at hf ⊢
  have hor : Oct r := hf.elim (fun h => h.2.2) (fun h => h.2.2)
  have hend : ∀ (e : Int) (l : List GPair) (b : List Int) (ob : Bool → List Obj), exitM (σ := List Int × Int × List GPair) (iteM (decide (e = 0)) (callM vB ob (label_Sane l) fun x15 => iteM (!x15) (iteM (!decide ((1 : Int) = 0)) (some ([], [], 1)) (some (l, b, 0))) (iteM (!decide (e = 0)) (some ([], [], e)) (some (l, b, 0)))) (iteM (!decide (e = 0)) (some ([], [], e)) (some (l, b, 0))))
      = some (.inr (if e = 0 then (if saneB l then (l, b, 0) else ([], [], 1)) else ([], [], e))) := by
    intro e l b ob
    rw [label_Sane_eq, callM_some]
    simp only [iteM_dec, iteM_not]
    by_cases he : e = 0
    · rw [if_pos he, if_pos he]
      cases saneB l <;> simp [he] <;> rfl
    · rw [if_neg he, if_neg he]; simp [he]
  by_cases hc : e = 0 ∧ 16 < n
  · rw [show (decide (e = 0) && decide (16 < n)) = true from by simp [hc.1, hc.2], iteM_true]
    rw [hloop n _ _ _ ?_ r 4 hor (fun h => by cases h)]
    · rcases hf with ⟨_, h2, _⟩ | ⟨h1, _⟩
      · simp only [pL, pChk, pCount, h2]
        rw [if_pos hc.2]; rfl
      · exact absurd hc.1 h1
    · intro b e l
      simp only [hend]
      congr 1
  · rw [show (decide (e = 0) && decide (16 < n)) = false from by simp only [Bool.and_eq_false_iff, decide_eq_false_iff_not]; omega, iteM_false]
    rw [hloop n _ _ _ ?_ r e hor (fun h => by omega)]
    · rcases hf with ⟨h1, h2, _⟩ | ⟨h1, h2, _⟩
      · rw [if_pos h1]
        simp only [pL, pChk, pCount, h2]
        rw [if_neg (by omega)]
        cases pMany pPair n.toNat r with
        | error e => rfl
        | ok z =>
          simp only [endL, List.nil_append]
          split <;> rfl
      · rw [if_neg h1]
        simp only [pL, pChk, pCount, h2]; rfl
    · intro b e l
      simp only [hend]
      congr 1
end Go.Proofs.YtoekflobllmeeaaGreatDoor.AM

/- The reader of saves: field by field, as the readers of octets. -/
namespace Go.Proofs.YtoekflobllmeeaaGreatDoor.AM
open Go

abbrev Rdr := Gsnap_reader
/-- A field's reader is a reader of octets; behind an error it reads nothing more. -/
structure Rel {α : Type} (z : α) (rd : Rdr → Option (α × Rdr)) (p : P α) : Prop where
  ok : ∀ b x r, Oct b → p b = .ok (x, r) → rd ⟨b, 0⟩ = some (x, ⟨r, 0⟩)
  err : ∀ b e, Oct b → p b = .error e → rd ⟨b, 0⟩ = some (z, ⟨b, e⟩)
  stick : ∀ r, r.e ≠ 0 → rd r = some (z, r)

theorem fail_eq {b : List Int} {e : Int} : snap_reader_fail_o e ⟨b, 0⟩ = some ⟨b, e⟩ := by
  unfold snap_reader_fail_o
  simp only [letE_eq, iteM_dec, if_true, retM_eq]
theorem fail_stick {r : Rdr} {e : Int} (h : r.e ≠ 0) : snap_reader_fail_o e r = some r := by
  unfold snap_reader_fail_o
  simp only [letE_eq, iteM_dec, retM_eq]
  rw [if_neg h]
theorem rel_U : Rel 0 snap_read_int_o pU := by
  refine ⟨fun b x r ho h => ?_, fun b e ho h => ?_, fun r h => ?_⟩
  · unfold snap_read_int_o
    simp only [letE_eq, iteM_dec, iteM_not, if_true, pU_get ho, h, toT, callM_some, retM_eq]
  · have := pU_safe _ _ h
    unfold snap_read_int_o
    simp only [letE_eq, iteM_dec, iteM_not, if_true, pU_get ho, h, toT, callM_some, retM_eq]
    rw [if_neg this, fail_eq, callO_some]
  · unfold snap_read_int_o
    simp only [letE_eq, iteM_dec, iteM_not, retM_eq]
    rw [if_neg h]
theorem rel_I : Rel 0 snap_read_int_o1 pI := by
  refine ⟨fun b x r ho h => ?_, fun b e ho h => ?_, fun r h => ?_⟩
  · unfold snap_read_int_o1
    simp only [letE_eq, iteM_dec, iteM_not, if_true, pI_get ho, h, toT, callM_some, retM_eq]
  · have := pI_safe _ _ h
    unfold snap_read_int_o1
    simp only [letE_eq, iteM_dec, iteM_not, if_true, pI_get ho, h, toT, callM_some, retM_eq]
    rw [if_neg this, fail_eq, callO_some]
  · unfold snap_read_int_o1
    simp only [letE_eq, iteM_dec, iteM_not, retM_eq]
    rw [if_neg h]
theorem rel_T : Rel [] snap_read_string_o pT := by
  refine ⟨fun b x r ho h => ?_, fun b e ho h => ?_, fun r h => ?_⟩
  · unfold snap_read_string_o
    simp only [letE_eq, iteM_dec, iteM_not, if_true, pT_get ho, h, toT, callM_some, retM_eq]
  · have := pT_safe _ _ h
    unfold snap_read_string_o
    simp only [letE_eq, iteM_dec, iteM_not, if_true, pT_get ho, h, toT, callM_some, retM_eq]
    rw [if_neg this, fail_eq, callO_some]
  · unfold snap_read_string_o
    simp only [letE_eq, iteM_dec, iteM_not, retM_eq]
    rw [if_neg h]
theorem rel_L : Rel [] snap_read_Pair_o pL := by
  refine ⟨fun b x r ho h => ?_, fun b e ho h => ?_, fun r h => ?_⟩
  · unfold snap_read_Pair_o
    simp only [letE_eq, iteM_dec, iteM_not, if_true, GetLabels_eq ho, h, toT, callM_some, retM_eq]
  · have := pL_safe _ _ h
    unfold snap_read_Pair_o
    simp only [letE_eq, iteM_dec, iteM_not, if_true, GetLabels_eq ho, h, toT, callM_some, retM_eq]
    rw [if_neg this, fail_eq, callO_some]
  · unfold snap_read_Pair_o
    simp only [letE_eq, iteM_dec, iteM_not, retM_eq]
    rw [if_neg h]

/-! ### Alerts -/
def on4 (n : Int) : Bool := !decide (bAnd .i64 n 4 = 0)
def on8 (n : Int) : Bool := !decide (bAnd .i64 n 8 = 0)
abbrev Raw := List GPair × Int × Int × Int × Int
def mkA (x : Raw) : GAlert := ⟨x.1, ⟨on4 x.2.1, x.2.2.1, on8 x.2.1, x.2.2.2.1⟩, Int.tmod x.2.1 4, x.2.2.2.2⟩
def unA (a : GAlert) : Raw := (a.L, code a, a.H.Since, a.H.Fired, a.V)
def le15 (n : Int) : Bool := decide (n ≤ 15)
def pRaw : P Raw := pSeq pL (pSeq (pChk le15 1 pU) (pSeq pU (pSeq pU pI)))
def pA : P GAlert := pMap mkA pRaw
theorem pRaw_safe : Safe pRaw := pL_safe.seq ((Safe.chk (by decide) pU_safe).seq (pU_safe.seq (pU_safe.seq pI_safe)))
theorem pA_safe : Safe pA := pRaw_safe.map
theorem bits16 : ∀ n : Nat, n ≤ 15 → code (mkA ([], (n : Int), 0, 0, 0)) = n ∧ (mkA ([], (n : Int), 0, 0, 0)).State = (n : Int) % 4 := by decide +kernel
theorem code_mkA {x : Raw} (h : okU x.2.1 ∧ le15 x.2.1 = true) : code (mkA x) = x.2.1 := by
  obtain ⟨⟨h0, _⟩, h1⟩ := h
  simp only [le15, decide_eq_true_eq] at h1
  have := (bits16 x.2.1.toNat (by omega)).1
  rw [show ((x.2.1.toNat : Nat) : Int) = x.2.1 by omega] at this
  exact this
structure RawOk (x : Raw) : Prop where
  lab : saneB x.1 = true
  st : okU x.2.1 ∧ le15 x.2.1 = true
  since : okU x.2.2.1
  fired : okU x.2.2.2.1
  val : okI59 x.2.2.2.2
def encRaw (x : Raw) : List Int := encL x.1 ++ (putU x.2.1.toNat ++ (putU x.2.2.1.toNat ++ (putU x.2.2.2.1.toNat ++ putU (zig x.2.2.2.2).toNat)))
theorem pRaw_cd : Cd pRaw encRaw RawOk := by
  have := pL_cd.seq ((pU_cd.chk (c := le15) (e := 1)).seq (pU_cd.seq (pU_cd.seq pI_cd)))
  refine ⟨fun x r h => this.full x r ⟨h.1, h.2, h.3, h.4, h.5⟩, fun x a q h => this.short x a q ⟨h.1, h.2, h.3, h.4, h.5⟩, fun b x r ho hp => ?_⟩
  obtain ⟨h1, h2, h3, h4, h5, h6⟩ := this.inv b x r ho hp
  exact ⟨h1, h2, h3, h4, h5, h6⟩
theorem unA_mkA {x : Raw} (h : RawOk x) : unA (mkA x) = x := by
  unfold unA
  rw [code_mkA h.st]; rfl
/-- What of an alert can be got back. -/
def okA (a : GAlert) : Prop := RawOk (unA a) ∧ mkA (unA a) = a
theorem pA_cd : Cd pA (fun a => encRaw (unA a)) okA := pRaw_cd.map fun _ h => unA_mkA h
theorem bits12 : ∀ s : Nat, s ≤ 2 → ∀ (a b : Bool), mkA ([], code ⟨[], ⟨a, 0, b, 0⟩, (s : Int), 0⟩, 0, 0, 0) = ⟨[], ⟨a, 0, b, 0⟩, (s : Int), 0⟩ := by decide +kernel
theorem okA_of {a : GAlert} (h : AlOk a) (hv : okI59 a.V) : okA a := by
  have hc := h.code
  refine ⟨⟨h.lab, ⟨⟨hc.1, by show code a ≤ 1152921504606846976; omega⟩, by show le15 (code a) = true; simp only [le15, decide_eq_true_eq]; omega⟩, ⟨h.since.1, by have := h.since.2; show a.H.Since ≤ 1152921504606846976; omega⟩, ⟨h.fired.1, by have := h.fired.2; show a.H.Fired ≤ 1152921504606846976; omega⟩, hv⟩, ?_⟩
  obtain ⟨L, ⟨o, s, t, f⟩, st, v⟩ := a
  have hs := h.st
  simp only at hs
  have := bits12 st.toNat (by omega) o t
  rw [show ((st.toNat : Nat) : Int) = st by omega] at this
  have e : code ⟨L, ⟨o, s, t, f⟩, st, v⟩ = code ⟨[], ⟨o, 0, t, 0⟩, st, 0⟩ := rfl
  simp only [unA, mkA, e] at this ⊢
  simp only [GAlert.mk.injEq, GHold.mk.injEq] at this
  simp only [GAlert.mk.injEq, GHold.mk.injEq]
  exact ⟨trivial, ⟨this.2.1.1, trivial, this.2.1.2.2.1, trivial⟩, this.2.2.1, trivial⟩
theorem encA_of {a : GAlert} (hv : okI59 a.V) : encA a = encRaw (unA a) := by
  unfold encA encRaw unA; rw [clampV_of hv]
end Go.Proofs.YtoekflobllmeeaaGreatDoor.AM

/- The reader of saves: alerts, tables, saves. -/
namespace Go.Proofs.YtoekflobllmeeaaGreatDoor.AM
open Go

structure RelW {α : Type} (rd : Rdr → Option (α × Rdr)) (p : P α) : Prop where
  ok : ∀ b x r, Oct b → p b = .ok (x, r) → rd ⟨b, 0⟩ = some (x, ⟨r, 0⟩)
  err : ∀ b e, Oct b → p b = .error e → ∃ x r', rd ⟨b, 0⟩ = some (x, r') ∧ r'.e = e
  stick : ∀ r, r.e ≠ 0 → ∃ x, rd r = some (x, r)

theorem alert_tail (x1 : List GPair) (n : Int) (h : ¬ 15 < n) (r : Rdr) : (callO [0] [] (fun x => vI x.1) (fun _ => []) (snap_read_int_o r) fun x18 => callO [0] [] (fun x => vI x.1) (fun _ => []) (snap_read_int_o x18.2) fun x19 => callO [0] [] (fun x => vI x.1) (fun _ => []) (snap_read_int_o1 x19.2) fun x20 =>
    some ((⟨x1, ⟨on4 n, x18.1, on8 n, x19.1⟩, Int.tmod n 4, x20.1⟩ : GAlert), x20.2)) = ((snap_read_int_o r).bind fun x18 => (snap_read_int_o x18.2).bind fun x19 => (snap_read_int_o1 x19.2).bind fun x20 => some (mkA (x1, n, x18.1, x19.1, x20.1), x20.2)) := rfl
theorem alert_eq (r : Rdr) : snap_reader_alert_o r = (snap_read_Pair_o r).bind fun x1 => (snap_read_int_o x1.2).bind fun x2 =>
    (if 15 < x2.1 then snap_reader_fail_o 1 x2.2 else some x2.2).bind fun r4 => (snap_read_int_o r4).bind fun x18 => (snap_read_int_o x18.2).bind fun x19 => (snap_read_int_o1 x19.2).bind fun x20 => some (mkA (x1.1, x2.1, x18.1, x19.1, x20.1), x20.2) := by
  unfold snap_reader_alert_o
  cases snap_read_Pair_o r with
  | none => rfl
  | some x1 =>
    rw [callO_some]
    cases h2 : snap_read_int_o x1.2 with
    | none => simp only [Option.bind_some, h2]; rfl
    | some x2 =>
      rw [callO_some]
      simp only [Option.bind_some, h2, letE_eq, iteM_dec, retM_eq]
      by_cases h : 15 < x2.1
      · rw [if_pos h, if_pos h]
        cases snap_reader_fail_o 1 x2.2 <;> rfl
      · rw [if_neg h, if_neg h]; rfl
theorem rel_A : RelW snap_reader_alert_o pA := by
  have stick : ∀ (x1 : List GPair) (r : Rdr), r.e ≠ 0 → ∃ x, ((snap_read_int_o r).bind fun x2 => (if 15 < x2.1 then snap_reader_fail_o 1 x2.2 else some x2.2).bind fun r4 => (snap_read_int_o r4).bind fun x18 => (snap_read_int_o x18.2).bind fun x19 => (snap_read_int_o1 x19.2).bind fun x20 => some (mkA (x1, x2.1, x18.1, x19.1, x20.1), x20.2)) = some (x, r) := by
    intro x1 r h
    rw [rel_U.stick r h]
    simp only [Option.bind_some]
    rw [if_neg (by decide)]
    simp only [Option.bind_some, rel_U.stick r h, rel_I.stick r h]
    exact ⟨_, rfl⟩
  have stick2 : ∀ (x1 : List GPair) (n : Int) (r : Rdr), r.e ≠ 0 → ∃ x, ((snap_read_int_o r).bind fun x18 => (snap_read_int_o x18.2).bind fun x19 => (snap_read_int_o1 x19.2).bind fun x20 => some (mkA (x1, n, x18.1, x19.1, x20.1), x20.2)) = some (x, r) := by
    intro x1 n r h
    simp only [rel_U.stick r h, rel_I.stick r h, Option.bind_some]
    exact ⟨_, rfl⟩
  refine ⟨?_, ?_, ?_⟩
  · intro b x r ho h
    rw [alert_eq]
    unfold pA pMap at h
    split at h
    · rename_i x0 r0 h0
      cases h
      obtain ⟨x1, x2, x3, x4, x5⟩ := x0
      obtain ⟨r1, k1, h0⟩ := pSeq_ok h0
      obtain ⟨r2, k2, h0⟩ := pSeq_ok h0
      obtain ⟨r3, k3, h0⟩ := pSeq_ok h0
      obtain ⟨r4, k4, k5⟩ := pSeq_ok h0
      have o1 : Oct r1 := pL_cd.rest ho k1
      unfold pChk at k2
      split at k2
      · rename_i y2 s2 k2'
        split at k2
        · rename_i hle
          cases k2
          have o2 : Oct r2 := pU_cd.rest o1 k2'
          have o3 : Oct r3 := pU_cd.rest o2 k3
          have o4 : Oct r4 := pU_cd.rest o3 k4
          simp only [le15, decide_eq_true_eq] at hle
          simp only [rel_L.ok _ _ _ ho k1, Option.bind_some, rel_U.ok _ _ _ o1 k2']
          rw [if_neg (by omega)]
          simp only [Option.bind_some, rel_U.ok _ _ _ o2 k3, rel_U.ok _ _ _ o3 k4, rel_I.ok _ _ _ o4 k5]
        · cases k2
      · cases k2
    · cases h
  · intro b e ho h
    rw [alert_eq]
    have hs := pA_safe b e h
    unfold pA pMap at h
    split at h
    · cases h
    · rename_i e0 h0
      cases h
      unfold pRaw pSeq at h0
      cases k1 : pL b with
      | error e1 =>
        simp only [k1, Except.error.injEq] at h0
        subst h0
        rw [rel_L.err _ _ ho k1]
        obtain ⟨x, hx⟩ := stick [] ⟨b, e1⟩ hs
        exact ⟨x, _, hx, rfl⟩
      | ok y1 =>
        obtain ⟨x1, r1⟩ := y1
        have o1 : Oct r1 := pL_cd.rest ho k1
        simp only [k1] at h0
        rw [rel_L.ok _ _ _ ho k1]
        simp only [Option.bind_some]
        unfold pChk at h0
        cases k2 : pU r1 with
        | error e1 =>
          simp only [k2, Except.error.injEq] at h0
          subst h0
          rw [rel_U.err _ _ o1 k2]
          simp only [Option.bind_some]
          rw [if_neg (by decide)]
          obtain ⟨x, hx⟩ := stick2 x1 0 ⟨r1, e1⟩ hs
          exact ⟨x, _, hx, rfl⟩
        | ok y2 =>
          obtain ⟨x2, r2⟩ := y2
          have o2 : Oct r2 := pU_cd.rest o1 k2
          simp only [k2] at h0
          rw [rel_U.ok _ _ _ o1 k2]
          simp only [Option.bind_some]
          by_cases hle : 15 < x2
          · have hl : le15 x2 = false := by simp only [le15, decide_eq_false_iff_not]; omega
            rw [hl] at h0
            simp only [Bool.false_eq_true, if_false, Except.error.injEq] at h0
            subst h0
            rw [if_pos hle, fail_eq]
            obtain ⟨x, hx⟩ := stick2 x1 x2 ⟨r2, 1⟩ hs
            exact ⟨x, _, hx, rfl⟩
          · have hl : le15 x2 = true := by simp only [le15, decide_eq_true_eq]; omega
            rw [hl] at h0
            simp only [if_true] at h0
            rw [if_neg hle]
            simp only [Option.bind_some]
            cases k3 : pU r2 with
            | error e1 =>
              simp only [k3, Except.error.injEq] at h0
              subst h0
              rw [rel_U.err _ _ o2 k3]
              simp only [Option.bind_some, rel_U.stick ⟨r2, e1⟩ hs, rel_I.stick ⟨r2, e1⟩ hs]
              exact ⟨_, _, rfl, rfl⟩
            | ok y3 =>
              obtain ⟨x3, r3⟩ := y3
              have o3 : Oct r3 := pU_cd.rest o2 k3
              simp only [k3] at h0
              rw [rel_U.ok _ _ _ o2 k3]
              simp only [Option.bind_some]
              cases k4 : pU r3 with
              | error e1 =>
                simp only [k4, Except.error.injEq] at h0
                subst h0
                rw [rel_U.err _ _ o3 k4]
                simp only [Option.bind_some, rel_I.stick ⟨r3, e1⟩ hs]
                exact ⟨_, _, rfl, rfl⟩
              | ok y4 =>
                obtain ⟨x4, r4⟩ := y4
                have o4 : Oct r4 := pU_cd.rest o3 k4
                simp only [k4] at h0
                rw [rel_U.ok _ _ _ o3 k4]
                simp only [Option.bind_some]
                cases k5 : pI r4 with
                | error e1 =>
                  simp only [k5, Except.error.injEq] at h0
                  subst h0
                  rw [rel_I.err _ _ o4 k5]
                  exact ⟨_, _, rfl, rfl⟩
                | ok y5 => simp only [k5] at h0; cases h0
  · intro r h
    rw [alert_eq, rel_L.stick r h]
    exact stick [] r h

/-! ### Many -/
theorem loopM_unf {σ β : Type} (ph : σ → List (Nat × AV)) (ob : σ → List Obj) (step : σ → Option (σ ⊕ β)) (s : σ) : loopM ph ob step s = (step s).bind (Sum.elim (loopM ph ob step) some) := iter_eq step s
section
variable {α : Type} {one : Rdr → Option (α × Rdr)} {p : P α} {ph : List Int × Int × List α × Int → List (Nat × AV)} {ob : List Int × Int × List α × Int → List Obj} {step : List Int × Int × List α × Int → Option (List Int × Int × List α × Int ⊕ (List α × Rdr))} {n : Int} {sz : Nat}
def StepIs (one : Rdr → Option (α × Rdr)) (n : Int) (sz : Nat) (step : List Int × Int × List α × Int → Option (List Int × Int × List α × Int ⊕ (List α × Rdr))) : Prop :=
  ∀ b e l i, step (b, e, l, i) = if i < n then (if e = 0 then ((one ⟨b, e⟩).bind fun x => gdM ((l.length + 1) * sz ≤ 140737488355328) (some (.inl (x.2.b, x.2.e, l ++ [x.1], wI (i + 1))))) else some (.inr (l, ⟨b, e⟩))) else some (.inr (l, ⟨b, e⟩))
theorem loop_err (hst : StepIs one n sz step) {b : List Int} {e : Int} {l : List α} {i : Int} (he : e ≠ 0) : loopM ph ob step (b, e, l, i) = some (l, ⟨b, e⟩) := by
  rw [loopM_unf, hst, if_neg he]
  split <;> rfl
theorem loop_many (hst : StepIs one n sz step) (hr : RelW one p) (hs : Safe p) (hrest : ∀ b x r, Oct b → p b = .ok (x, r) → Oct r) (hsz : sz ≤ 1000) :
    ∀ (k : Nat) (b : List Int) (l : List α) (i : Nat), Oct b → (i : Int) + k = n → n ≤ 1000 → l.length = i →
      (∀ l' r, pMany p k b = .ok (l', r) → loopM ph ob step (b, 0, l, (i : Int)) = some (l ++ l', ⟨r, 0⟩)) ∧
      (∀ e, pMany p k b = .error e → ∃ l' r', loopM ph ob step (b, 0, l, (i : Int)) = some (l', r') ∧ r'.e = e)
  | 0, b, l, i, ho, hi, hn, hl => by
    have : loopM ph ob step (b, 0, l, (i : Int)) = some (l, ⟨b, 0⟩) := by
      rw [loopM_unf, hst, if_neg (by omega)]; rfl
    refine ⟨fun l' r h => ?_, fun e h => by cases h⟩
    cases h
    rw [this, List.append_nil]
  | k + 1, b, l, i, ho, hi, hn, hl => by
    have hgd : (l.length + 1) * sz ≤ 140737488355328 := by
      have : (l.length + 1) * sz ≤ 1001 * 1000 := Nat.mul_le_mul (by omega) hsz
      omega
    have hrun : loopM ph ob step (b, 0, l, (i : Int)) = (one ⟨b, 0⟩).bind fun x => loopM ph ob step (x.2.b, x.2.e, l ++ [x.1], ((i + 1 : Nat) : Int)) := by
      rw [loopM_unf, hst, if_pos (by omega), if_pos rfl, wI_of (by omega)]
      cases one ⟨b, 0⟩ with
      | none => rfl
      | some x =>
        simp only [Option.bind_some, gdM_pos hgd]; rfl
    cases hp : p b with
    | error e1 =>
      have hne := hs _ _ hp
      refine ⟨fun l' r h => (by rw [pMany_err hp] at h; cases h), fun e h => ?_⟩
      rw [pMany_err hp] at h
      cases h
      obtain ⟨x, r', h1, h2⟩ := hr.err b e1 ho hp
      rw [hrun, h1, Option.bind_some, loop_err hst (by rw [h2]; exact hne)]
      exact ⟨_, _, rfl, h2⟩
    | ok y =>
      obtain ⟨x, r1⟩ := y
      have o1 := hrest b x r1 ho hp
      have ih := loop_many hst hr hs hrest hsz k r1 (l ++ [x]) (i + 1) o1 (by omega) hn (by simp [hl])
      rw [hrun, hr.ok b x r1 ho hp, Option.bind_some]
      rw [pMany_ok hp]
      refine ⟨fun l' r h => ?_, fun e h => ?_⟩
      · split at h
        · rename_i l1 r2 h1
          cases h
          rw [ih.1 l1 _ h1, List.append_assoc]; rfl
        · cases h
      · split at h
        · cases h
        · rename_i e1 h1
          cases h
          exact ih.2 _ h1
theorem rel_count {most : Int} (h : RelW one p) (hs : Safe p) (hrest : ∀ b x r, Oct b → p b = .ok (x, r) → Oct r) (hm : most ≤ 1000) (hsz : sz ≤ 1000) {rd : Rdr → Option (List α × Rdr)}
    (hrd : ∀ r, ∃ step step' : Int → List Int × Int × List α × Int → Option (List Int × Int × List α × Int ⊕ (List α × Rdr)), (∀ n, StepIs one n sz (step n)) ∧ (∀ n, StepIs one n sz (step' n)) ∧
      rd r = (snap_read_int_o r).bind fun x1 => if most < x1.1 then (snap_reader_fail_o 4 x1.2).bind fun x3 => loopM (fun _ => []) (fun _ => []) (step x1.1) (x3.b, x3.e, [], 0) else loopM (fun _ => []) (fun _ => []) (step' x1.1) (x1.2.b, x1.2.e, [], 0)) : RelW rd (pCount most p) := by
  refine ⟨fun b l r ho hp => ?_, fun b e ho hp => ?_, fun r hr => ?_⟩
  · obtain ⟨step, step', h1, h2, h3⟩ := hrd ⟨b, 0⟩
    rw [h3]
    unfold pCount at hp
    split at hp
    · rename_i n r1 k1
      split at hp
      · cases hp
      · rename_i hn
        have o1 := pU_cd.rest ho k1
        rw [rel_U.ok _ _ _ ho k1, Option.bind_some]
        simp only
        rw [if_neg hn]
        obtain ⟨_, k2, _⟩ := pU_cd.inv b n r1 ho k1
        exact (loop_many (h2 n) h hs hrest hsz n.toNat r1 [] 0 o1 (by omega) (by omega) rfl).1 l r hp
    · cases hp
  · obtain ⟨step, step', h1, h2, h3⟩ := hrd ⟨b, 0⟩
    rw [h3]
    unfold pCount at hp
    split at hp
    · rename_i n r1 k1
      have o1 := pU_cd.rest ho k1
      rw [rel_U.ok _ _ _ ho k1, Option.bind_some]
      simp only
      split at hp
      · rename_i hn
        cases hp
        rw [if_pos hn, fail_eq, Option.bind_some, loop_err (h1 n) (show (4 : Int) ≠ 0 by decide)]
        exact ⟨_, _, rfl, rfl⟩
      · rename_i hn
        rw [if_neg hn]
        obtain ⟨_, k2, _⟩ := pU_cd.inv b n r1 ho k1
        exact (loop_many (h2 n) h hs hrest hsz n.toNat r1 [] 0 o1 (by omega) (by omega) rfl).2 e hp
    · rename_i e1 k1
      cases hp
      have hne := pU_safe _ _ k1
      rw [rel_U.err _ _ ho k1, Option.bind_some]
      simp only
      by_cases h0 : most < 0
      · rw [if_pos h0, fail_stick (r := ⟨b, e⟩) hne, Option.bind_some, loop_err (h1 0) hne]; exact ⟨_, _, rfl, rfl⟩
      · rw [if_neg h0, loop_err (h2 0) hne]; exact ⟨_, _, rfl, rfl⟩
  · obtain ⟨step, step', h1, h2, h3⟩ := hrd r
    rw [h3, rel_U.stick r hr, Option.bind_some]
    simp only
    by_cases h0 : most < 0
    · rw [if_pos h0, fail_stick hr, Option.bind_some, loop_err (h1 0) hr]; exact ⟨_, rfl⟩
    · rw [if_neg h0, loop_err (h2 0) hr]; exact ⟨_, rfl⟩
end
end Go.Proofs.YtoekflobllmeeaaGreatDoor.AM

/- The reader of saves, whole. -/
namespace Go.Proofs.YtoekflobllmeeaaGreatDoor.AM
open Go

theorem rel_manyA : RelW (snap_many_Alert_o 16) (pCount 16 pA) := by
  refine rel_count (sz := 72) rel_A pA_safe (fun b x r => pA_cd.rest) (by omega) (by omega) fun r => ?_
  refine ⟨fun n s => iteM (decide (s.2.2.2 < n)) (iteM (decide (s.2.1 = 0)) ((snap_reader_alert_o ⟨s.1, s.2.1⟩).bind fun x => gdM ((s.2.2.1.length + 1) * 72 ≤ 140737488355328) (some (.inl (x.2.b, x.2.e, s.2.2.1 ++ [x.1], wI (s.2.2.2 + 1))))) (some (.inr (s.2.2.1, ⟨s.1, s.2.1⟩)))) (some (.inr (s.2.2.1, ⟨s.1, s.2.1⟩))),
    fun n s => iteM (decide (s.2.2.2 < n)) (iteM (decide (s.2.1 = 0)) ((snap_reader_alert_o ⟨s.1, s.2.1⟩).bind fun x => gdM ((s.2.2.1.length + 1) * 72 ≤ 140737488355328) (some (.inl (x.2.b, x.2.e, s.2.2.1 ++ [x.1], wI (s.2.2.2 + 1))))) (some (.inr (s.2.2.1, ⟨s.1, s.2.1⟩)))) (some (.inr (s.2.2.1, ⟨s.1, s.2.1⟩))), ?_, ?_, ?_⟩
  · intro n b e l i; simp only [iteM_dec]
  · intro n b e l i; simp only [iteM_dec]
  · unfold snap_many_Alert_o
    cases snap_read_int_o r with
    | none => rfl
    | some x1 =>
      rw [callO_some, Option.bind_some]
      simp only [letE_eq]
      rw [iteM_dec]
      split
      · cases snap_reader_fail_o 4 x1.2 <;> rfl
      · rfl
def mkS (x : Str × Str × Int × List GAlert) : GSaved := ⟨⟨x.1, x.2.1⟩, ⟨x.2.2.2, x.2.2.1⟩⟩
def unS (s : GSaved) : Str × Str × Int × List GAlert := (s.K.Group, s.K.Rule, s.X.Full, s.X.A)
def pS0 : P (Str × Str × Int × List GAlert) := pSeq pT (pSeq pT (pSeq pU (pCount 16 pA)))
def pS : P GSaved := pMap mkS pS0
theorem pS0_safe : Safe pS0 := pT_safe.seq (pT_safe.seq (pU_safe.seq pA_safe.count))
theorem pS_safe : Safe pS := pS0_safe.map
def okS' (s : GSaved) : Prop := okT s.K.Group ∧ okT s.K.Rule ∧ okU s.X.Full ∧ s.X.A.length ≤ 16 ∧ ∀ a ∈ s.X.A, okA a
def encS' (s : GSaved) : List Int := putT s.K.Group ++ (putT s.K.Rule ++ (putU s.X.Full.toNat ++ (putU s.X.A.length ++ encN (fun a => encRaw (unA a)) s.X.A)))
theorem pS_cd : Cd pS encS' okS' := by
  have := (pT_cd.seq (pT_cd.seq (pU_cd.seq (pA_cd.count (most := 16) (by omega))))).map (f := mkS) (g := unS) (fun _ _ => rfl)
  refine ⟨fun x r h => this.full x r ⟨h, rfl⟩, fun x a q h => this.short x a q ⟨h, rfl⟩, fun b x r ho hp => ?_⟩
  obtain ⟨h1, h2, _⟩ := this.inv b x r ho hp
  exact ⟨h1, h2⟩
theorem saved_eq (r : Rdr) : snap_reader_saved_o r = (snap_read_string_o r).bind fun x1 => (snap_read_string_o x1.2).bind fun x2 => (snap_read_int_o x2.2).bind fun x3 => (snap_many_Alert_o 16 x3.2).bind fun x4 => some (mkS (x1.1, x2.1, x3.1, x4.1), x4.2) := by
  unfold snap_reader_saved_o; rfl
theorem rel_S : RelW snap_reader_saved_o pS := by
  refine ⟨?_, ?_, ?_⟩
  · intro b x r ho h
    rw [saved_eq]
    unfold pS pMap at h
    split at h
    · rename_i x0 r0 h0
      cases h
      obtain ⟨x1, x2, x3, x4⟩ := x0
      obtain ⟨r1, k1, h0⟩ := pSeq_ok h0
      obtain ⟨r2, k2, h0⟩ := pSeq_ok h0
      obtain ⟨r3, k3, k4⟩ := pSeq_ok h0
      have o1 : Oct r1 := pT_cd.rest ho k1
      have o2 : Oct r2 := pT_cd.rest o1 k2
      have o3 : Oct r3 := pU_cd.rest o2 k3
      simp only [rel_T.ok _ _ _ ho k1, Option.bind_some, rel_T.ok _ _ _ o1 k2, rel_U.ok _ _ _ o2 k3, rel_manyA.ok _ _ _ o3 k4]
    · cases h
  · intro b e ho h
    rw [saved_eq]
    have hs := pS_safe b e h
    unfold pS pMap at h
    split at h
    · cases h
    · rename_i e0 h0
      cases h
      unfold pS0 pSeq at h0
      cases k1 : pT b with
      | error e1 =>
        simp only [k1, Except.error.injEq] at h0
        subst h0
        rw [rel_T.err _ _ ho k1]
        obtain ⟨x, hx⟩ := rel_manyA.stick ⟨b, e1⟩ hs
        simp only [Option.bind_some, rel_T.stick ⟨b, e1⟩ hs, rel_U.stick ⟨b, e1⟩ hs, hx]
        exact ⟨_, _, rfl, rfl⟩
      | ok y1 =>
        obtain ⟨x1, r1⟩ := y1
        have o1 : Oct r1 := pT_cd.rest ho k1
        simp only [k1] at h0
        rw [rel_T.ok _ _ _ ho k1]
        simp only [Option.bind_some]
        cases k2 : pT r1 with
        | error e1 =>
          simp only [k2, Except.error.injEq] at h0
          subst h0
          obtain ⟨x, hx⟩ := rel_manyA.stick ⟨r1, e1⟩ hs
          simp only [rel_T.err _ _ o1 k2, Option.bind_some, rel_U.stick ⟨r1, e1⟩ hs, hx]
          exact ⟨_, _, rfl, rfl⟩
        | ok y2 =>
          obtain ⟨x2, r2⟩ := y2
          have o2 : Oct r2 := pT_cd.rest o1 k2
          simp only [k2] at h0
          rw [rel_T.ok _ _ _ o1 k2]
          simp only [Option.bind_some]
          cases k3 : pU r2 with
          | error e1 =>
            simp only [k3, Except.error.injEq] at h0
            subst h0
            obtain ⟨x, hx⟩ := rel_manyA.stick ⟨r2, e1⟩ hs
            simp only [rel_U.err _ _ o2 k3, Option.bind_some, hx]
            exact ⟨_, _, rfl, rfl⟩
          | ok y3 =>
            obtain ⟨x3, r3⟩ := y3
            have o3 : Oct r3 := pU_cd.rest o2 k3
            simp only [k3] at h0
            rw [rel_U.ok _ _ _ o2 k3]
            simp only [Option.bind_some]
            cases k4 : pCount 16 pA r3 with
            | error e1 =>
              simp only [k4, Except.error.injEq] at h0
              subst h0
              obtain ⟨x, r', hx, he⟩ := rel_manyA.err _ _ o3 k4
              rw [hx]
              exact ⟨_, _, rfl, he⟩
            | ok y4 => simp only [k4] at h0; cases h0
  · intro r h
    obtain ⟨x, hx⟩ := rel_manyA.stick r h
    rw [saved_eq, rel_T.stick r h]
    simp only [Option.bind_some, rel_T.stick r h, rel_U.stick r h, hx]
    exact ⟨_, rfl⟩
theorem rel_manyS : RelW (snap_many_Saved_o 256) (pCount 256 pS) := by
  refine rel_count (sz := 64) rel_S pS_safe (fun b x r => pS_cd.rest) (by omega) (by omega) fun r => ?_
  refine ⟨fun n s => iteM (decide (s.2.2.2 < n)) (iteM (decide (s.2.1 = 0)) ((snap_reader_saved_o ⟨s.1, s.2.1⟩).bind fun x => gdM ((s.2.2.1.length + 1) * 64 ≤ 140737488355328) (some (.inl (x.2.b, x.2.e, s.2.2.1 ++ [x.1], wI (s.2.2.2 + 1))))) (some (.inr (s.2.2.1, ⟨s.1, s.2.1⟩)))) (some (.inr (s.2.2.1, ⟨s.1, s.2.1⟩))),
    fun n s => iteM (decide (s.2.2.2 < n)) (iteM (decide (s.2.1 = 0)) ((snap_reader_saved_o ⟨s.1, s.2.1⟩).bind fun x => gdM ((s.2.2.1.length + 1) * 64 ≤ 140737488355328) (some (.inl (x.2.b, x.2.e, s.2.2.1 ++ [x.1], wI (s.2.2.2 + 1))))) (some (.inr (s.2.2.1, ⟨s.1, s.2.1⟩)))) (some (.inr (s.2.2.1, ⟨s.1, s.2.1⟩))), ?_, ?_, ?_⟩
  · intro n b e l i; simp only [iteM_dec]
  · intro n b e l i; simp only [iteM_dec]
  · unfold snap_many_Saved_o
    cases snap_read_int_o r with
    | none => rfl
    | some x1 =>
      rw [callO_some, Option.bind_some]
      simp only [letE_eq]
      rw [iteM_dec]
      split
      · cases snap_reader_fail_o 4 x1.2 <;> rfl
      · rfl
/-- What Get answers. -/
def getD' (b : List Int) : List GSaved × Int :=
  match pCount 256 pS b with
  | .ok (l, r) => if 0 < r.length then ([], 1) else if svB l then (l, 0) else ([], 1)
  | .error e => ([], e)
theorem snap_Get_eq {b : List Int} (ho : Oct b) : snap_Get b = some (getD' b) := by
  unfold snap_Get getD'
  cases h : pCount 256 pS b with
  | ok x =>
    obtain ⟨l, r⟩ := x
    rw [rel_manyS.ok _ _ _ ho h, callO_some]
    simp only [letE_eq, iteM_not, iteM_dec, if_true, snap_Sane_eq, callM_some, retM_eq]
    by_cases hr : 0 < r.length
    · rw [if_pos hr, if_pos (by omega)]
    · rw [if_neg hr, if_neg (by omega)]
      cases svB l <;> rfl
  | error e =>
    have hne := Safe.count (most := 256) pS_safe b e h
    obtain ⟨x, r', hx, he⟩ := rel_manyS.err _ _ ho h
    rw [hx, callO_some]
    simp only [letE_eq, iteM_not, iteM_dec, retM_eq]
    rw [if_neg (by rw [he]; exact hne), he]

/-! ### Put and got -/
def small (l : List GSaved) : Prop := ∀ s ∈ l, ∀ a ∈ s.X.A, okI59 a.V
theorem encN_congr {α : Type} {f g : α → List Int} : ∀ {l : List α}, (∀ x ∈ l, f x = g x) → encN f l = encN g l
  | [], _ => rfl
  | x :: l, h => by rw [encN, encN, h x List.mem_cons_self, encN_congr (fun y hy => h y (List.mem_cons_of_mem _ hy))]
theorem encS_eq {s : GSaved} (h : ∀ a ∈ s.X.A, okI59 a.V) : encS s = encS' s := by
  unfold encS encS'
  rw [encN_congr fun a ha => encA_of (h a ha)]
theorem encD_eq {l : List GSaved} (h : small l) : encD l = putU l.length ++ encN encS' l := by
  unfold encD
  rw [encN_congr fun s hs => encS_eq (h s hs)]
theorem pD_cd : Cd (pCount 256 pS) (fun l => putU l.length ++ encN encS' l) (fun l => l.length ≤ 256 ∧ ∀ x ∈ l, okS' x) := pS_cd.count (most := 256) (by omega)
theorem okS_of {s : GSaved} (h : SvGood s) (hv : ∀ a ∈ s.X.A, okI59 a.V) : okS' s := by
  have h1 := h.grp
  have h2 := h.rul
  have h3 := h.full
  refine ⟨by unfold okT; omega, by unfold okT; omega, ⟨h3.1, by omega⟩, h.tab.len, fun a ha => okA_of (h.al ha) (hv a ha)⟩
theorem okD_of {l : List GSaved} (h : svB l = true) (hv : small l) : l.length ≤ 256 ∧ ∀ x ∈ l, okS' x := by
  have hs := svB_iff.1 h
  exact ⟨hs.len, fun s hs' => okS_of (SvGood.of (hs.each s hs')) (hv s hs')⟩
theorem get_put {l : List GSaved} (h : svB l = true) (hv : small l) : getD' (encD l) = (l, 0) := by
  have := pD_cd.full l [] (okD_of h hv)
  rw [List.append_nil, ← encD_eq hv] at this
  unfold getD'
  rw [this]
  simp only [List.length_nil, Nat.lt_irrefl, if_false, h, if_true]
theorem get_more {l : List GSaved} (h : svB l = true) (hv : small l) (c : Int) : getD' (encD l ++ [c]) = ([], 1) := by
  have := pD_cd.full l [c] (okD_of h hv)
  rw [← encD_eq hv] at this
  unfold getD'
  rw [this]
  simp
theorem get_cut {l : List GSaved} (h : svB l = true) (hv : small l) {p q : List Int} (he : encD l = p ++ q) (hq : q ≠ []) : getD' p = ([], 3) := by
  have := pD_cd.short l p q (okD_of h hv) (by rw [← encD_eq hv]; exact he) hq
  unfold getD'
  rw [this]
theorem get_only {b : List Int} {l : List GSaved} (ho : Oct b) (h : getD' b = (l, 0)) : svB l = true ∧ small l ∧ encD l = b := by
  unfold getD' at h
  split at h
  · rename_i l1 r h1
    split at h
    · cases h
    · rename_i hr
      split at h
      · rename_i hs
        cases h
        obtain ⟨rfl, k1, k2⟩ := pD_cd.inv b l r ho h1
        have hv : small l := fun s hs a ha => ((k2 s hs).2.2.2.2 a ha).1.val
        have : r = [] := List.length_eq_zero_iff.1 (by omega)
        subst this
        refine ⟨hs, hv, ?_⟩
        rw [encD_eq hv, List.append_nil]
      · cases h
  · rename_i e h1
    cases h
    exact absurd rfl (Safe.count (most := 256) pS_safe b 0 h1)
theorem get_bad {b : List Int} (h : (getD' b).2 ≠ 0) : (getD' b).1 = [] := by
  unfold getD' at *
  split at h
  · split at h
    · rename_i h1 h2; rw [if_pos h2]
    · rename_i h1 h2
      rw [if_neg h2]
      split
      · rename_i h3; rw [if_pos h3] at h; exact absurd rfl h
      · rfl
  · rfl
theorem encRaw_oct (x : Raw) : Oct (encRaw x) := by
  have hP : ∀ l : List GPair, Oct (encP l) := by
    intro l
    have hT : ∀ s, Oct (putT s) := by
      intro s
      unfold putT
      split
      · exact (putU_oct _).append (octs_oct s)
      · intro c hc; cases hc
    induction l with
    | nil => intro c hc; cases hc
    | cons p l ih => exact ((hT _).append (hT _)).append ih
  exact ((putU_oct _).append (hP _)).append ((putU_oct _).append ((putU_oct _).append ((putU_oct _).append (putU_oct _))))
theorem encD_oct (l : List GSaved) : Oct (encD l) := by
  have hT : ∀ s, Oct (putT s) := by
    intro s
    unfold putT
    split
    · exact (putU_oct _).append (octs_oct s)
    · intro c hc; cases hc
  have hN : ∀ {α : Type} (enc : α → List Int) (l : List α), (∀ x, Oct (enc x)) → Oct (encN enc l) := by
    intro α enc l h
    induction l with
    | nil => intro c hc; cases hc
    | cons x l ih => exact (h x).append ih
  have hA : ∀ a, Oct (encA a) := fun a => encRaw_oct (a.L, code a, a.H.Since, a.H.Fired, clampV a.V)
  exact (putU_oct _).append (hN _ _ fun s => (hT _).append ((hT _).append ((putU_oct _).append ((putU_oct _).append (hN _ _ hA)))))
end Go.Proofs.YtoekflobllmeeaaGreatDoor.AM

/- Maps by key; what is found, once each; the sort. -/
namespace Go.Proofs.YtoekflobllmeeaaGreatDoor.AM
open Go

theorem loopM_ix {σ β : Type} {ph : σ → List (Nat × AV)} {ob : σ → List Obj} {step : σ → Option (σ ⊕ β)} (ix : σ → Int) (St : Nat → σ) (n : Nat) (r : β) (hix : ∀ i, ix (St i) = (i : Int))
    (h1 : ∀ i, i < n → step (St i) = some (.inl (St (i + 1)))) (h2 : step (St n) = some (.inr r)) {s : σ} (hs : s = St 0) : loopM ph ob step s = some r := by
  subst hs
  refine loopM_rec (ph := ph) (ob := ob) (step := step) (fun s => ∃ i, i ≤ n ∧ s = St i) (fun s => (n - ix s).toNat) (fun _ => r) ?_ ⟨0, Nat.zero_le _, rfl⟩
  rintro s ⟨i, hi, rfl⟩
  rcases Nat.lt_or_ge i n with hk | hk
  · right
    refine ⟨St (i + 1), h1 i hk, ⟨i + 1, by omega, rfl⟩, ?_, rfl⟩
    simp only [hix]; omega
  · have : i = n := by omega
    subst this
    exact .inl h2

section
variable {α : Type} {lab : α → List GPair}
def enk (lab : α → List GPair) (acc : List α) : List (Str × α) := acc.map fun x => (keyS (lab x), x)
def Sanes (lab : α → List GPair) (acc : List α) : Prop := ∀ x ∈ acc, saneB (lab x) = true
theorem mlk_enk {acc : List α} {l : List GPair} (hs : Sanes lab acc) (hl : saneB l = true) : mlk (enk lab acc) (keyS l) = acc.find? fun x => decide (lab x = l) := by
  induction acc with
  | nil => rfl
  | cons a acc ih =>
    have hk := key_inj hl (hs a (by simp))
    simp only [enk, List.map_cons, mlk, List.find?_cons]
    by_cases e : lab a = l
    · rw [if_pos (by rw [e]), decide_eq_true e]
    · rw [if_neg (fun h => e (hk.1 h).symm), decide_eq_false e]
      exact ih fun x hx => hs x (by simp [hx])
theorem mst_enk {acc : List α} {l : List GPair} {y : α} (hs : Sanes lab acc) (hl : saneB l = true) (hn : ∀ x ∈ acc, lab x ≠ l) : mst (enk lab acc) (keyS l) y = enk lab acc ++ [(keyS l, y)] := by
  induction acc with
  | nil => rfl
  | cons a acc ih =>
    have hk := key_inj hl (hs a (by simp))
    have e := hn a (by simp)
    simp only [enk, List.map_cons, mst]
    rw [if_neg (fun h => e (hk.1 h).symm)]
    simp only [List.cons_append]
    congr 1
    exact ih (fun x hx => hs x (by simp [hx])) fun x hx => hn x (by simp [hx])
theorem mdl_enk {acc : List α} {l : List GPair} {y : α} (hs : Sanes lab acc) (hl : saneB l = true) (hn : ∀ x ∈ acc, lab x ≠ l) : mdl (enk lab acc ++ [(keyS l, y)]) (keyS l) = enk lab acc := by
  induction acc with
  | nil => simp [enk, mdl]
  | cons a acc ih =>
    have hk := key_inj hl (hs a (by simp))
    have e := hn a (by simp)
    simp only [enk, List.map_cons, List.cons_append, mdl]
    rw [if_neg (fun h => e (hk.1 h).symm)]
    congr 1
    exact ih (fun x hx => hs x (by simp [hx])) fun x hx => hn x (by simp [hx])
theorem enk_snoc {acc : List α} {y : α} {l : List GPair} (h : lab y = l) : enk lab acc ++ [(keyS l, y)] = enk lab (acc ++ [y]) := by simp [enk, h]
theorem enk_length (acc : List α) : (enk lab acc).length = acc.length := by simp [enk]
theorem Sanes.snoc {acc : List α} {y : α} (hs : Sanes lab acc) (h : saneB (lab y) = true) : Sanes lab (acc ++ [y]) := by
  intro x hx
  rcases List.mem_append.1 hx with hx | hx
  · exact hs x hx
  · rw [List.mem_singleton] at hx; subst hx; exact h
theorem find_none {acc : List α} {l : List GPair} (h : acc.find? (fun x => decide (lab x = l)) = none) : ∀ x ∈ acc, lab x ≠ l := by
  intro x hx e
  have := List.find?_eq_none.1 h x hx
  simp [e] at this
end

def addD (acc : List GFound) (x : GFound) : List GFound := if saneB x.L then (if (acc.find? fun y => decide (y.L = x.L)).isSome then acc else acc ++ [x]) else acc
def dist (f : List GFound) : List GFound := f.foldl addD []
theorem foldl_take {α β : Type} [Inhabited α] {f : β → α → β} {b : β} {l : List α} {i : Nat} (h : i < l.length) : (l.take (i + 1)).foldl f b = f ((l.take i).foldl f b) (nth l i) := by
  rw [take_nth h, List.foldl_append]; rfl
theorem addD_sane {acc : List GFound} (h : Sanes GFound.L acc) (x : GFound) : Sanes GFound.L (addD acc x) := by
  unfold addD
  split
  · split
    · exact h
    · exact h.snoc (by assumption)
  · exact h
theorem foldl_sane : ∀ (f : List GFound) {acc : List GFound}, Sanes GFound.L acc → Sanes GFound.L (f.foldl addD acc)
  | [], _, h => h
  | x :: f, _, h => foldl_sane f (addD_sane h x)
theorem dist_sane (f : List GFound) : Sanes GFound.L (dist f) := foldl_sane f (fun x hx => by cases hx)
theorem addD_len (acc : List GFound) (x : GFound) : (addD acc x).length ≤ acc.length + 1 := by
  unfold addD
  repeat' split
  all_goals simp
theorem foldl_len : ∀ (f : List GFound) (acc : List GFound), (f.foldl addD acc).length ≤ acc.length + f.length
  | [], _ => by simp
  | x :: f, acc => by
    have := foldl_len f (addD acc x)
    have := addD_len acc x
    simp only [List.foldl_cons, List.length_cons]; omega
theorem table_distinct_eq {f : List GFound} (h : f.length ≤ 1000) : table_distinct f = some (dist f, enk GFound.L (dist f)) := by
  unfold table_distinct
  simp only [letO_eq, letE_eq, tokM_eq]
  refine loopM_ix (fun s => s.2.1) (fun i => (enk GFound.L (dist (f.take i)), (i : Int), dist (f.take i))) f.length _ (fun _ => rfl) ?_ ?_ (by simp [dist, enk])
  · intro i hi
    simp only [iteM_dec, idxM_get (nth_get hi), label_Sane_eq, callM_some, iteM_not]
    rw [if_pos (by omega), show dist (f.take (i + 1)) = addD (dist (f.take i)) (nth f i) from foldl_take hi, wI_of (by omega)]
    have hs := dist_sane (f.take i)
    have hlen : (dist (f.take i)).length ≤ i := by
      have := foldl_len (f.take i) []
      rw [List.length_take] at this
      simp only [List.length_nil] at this
      unfold dist; omega
    generalize dist (f.take i) = a at *
    generalize nth f i = x at *
    unfold addD
    cases e : saneB x.L
    · simp
    · simp only [iteM_true, if_true]
      rw [key_eq e, callM_some]
      unfold lookM
      rw [mlk_enk hs e]
      cases e2 : a.find? (fun y => decide (y.L = x.L)) with
      | some y => simp
      | none =>
        have hn := find_none e2
        simp only [Bool.not_false, iteM_true]
        rw [mst_enk hs e hn, enk_snoc rfl, gdM_pos (by simp; omega)]
        simp
  · simp only [iteM_dec]
    rw [if_neg (by omega), List.take_length]
    simp

def altB (p q : GAlert) : Bool := decide (cmpLs p.L q.L < 0)
def insA (p : GAlert) : List GAlert → List GAlert
  | [] => [p]
  | q :: l => if altB p q then p :: q :: l else q :: insA p l
def sortA : List GAlert → List GAlert
  | [] => []
  | p :: l => insA p (sortA l)
theorem insA_perm (p : GAlert) : ∀ l, (insA p l).Perm (p :: l)
  | [] => .refl _
  | q :: l => by
    unfold insA
    split
    · exact .refl _
    · exact ((insA_perm p l).cons q).trans (.swap p q l)
theorem sortA_perm : ∀ l, (sortA l).Perm l
  | [] => .refl _
  | p :: l => (insA_perm p _).trans ((sortA_perm l).cons p)
def AscA (l : List GAlert) : Prop := l.Pairwise fun p q => cmpLs p.L q.L < 0
def Apart (l : List GAlert) : Prop := l.Pairwise fun p q => p.L ≠ q.L
theorem Apart.perm {l m : List GAlert} (h : Apart l) (hp : m.Perm l) : Apart m := by
  refine List.Pairwise.perm h hp.symm fun h => ?_
  exact fun e => h e.symm
theorem cmp_flip {p q : List GPair} (h : ¬ cmpLs p q < 0) (hn : p ≠ q) : cmpLs q p < 0 := by
  have o := cmpLs_ord
  have a := o.anti p q
  have z := o.zero p q
  have : cmpLs p q ≠ 0 := fun h => hn (z.1 h)
  omega
theorem insA_asc {p : GAlert} : ∀ {l : List GAlert}, AscA l → (∀ q ∈ l, p.L ≠ q.L) → AscA (insA p l)
  | [], _, _ => List.pairwise_singleton _ _
  | q :: l, h, hn => by
    obtain ⟨h1, h2⟩ := List.pairwise_cons.1 h
    unfold insA
    split
    · rename_i hb
      have hb : cmpLs p.L q.L < 0 := of_decide_eq_true hb
      exact List.pairwise_cons.2 ⟨fun x hx => by
        rcases List.mem_cons.1 hx with rfl | hx
        · exact hb
        · exact cmpLs_lt hb (h1 x hx), h⟩
    · rename_i hb
      have hb : ¬ cmpLs p.L q.L < 0 := fun h => hb (decide_eq_true h)
      refine List.pairwise_cons.2 ⟨fun x hx => ?_, insA_asc h2 fun x hx => hn x (by simp [hx])⟩
      rcases List.mem_cons.1 ((insA_perm p l).mem_iff.1 hx) with rfl | hx
      · exact cmp_flip hb (hn q (by simp))
      · exact h1 x hx
theorem sortA_asc : ∀ {l : List GAlert}, Apart l → AscA (sortA l)
  | [], _ => List.Pairwise.nil
  | p :: l, h => by
    obtain ⟨h1, h2⟩ := List.pairwise_cons.1 h
    exact insA_asc (sortA_asc h2) fun q hq => h1 q ((sortA_perm l).mem_iff.1 hq)
theorem asc_eq {l m : List GAlert} (hl : AscA l) (hm : AscA m) (hp : l.Perm m) : l = m :=
  hp.eq_of_pairwise (fun a b _ _ h k => by
    have := cmpLs_ord.anti a.L b.L
    omega) hl hm
theorem sortA_eq {l m : List GAlert} (hl : Apart l) (hp : m.Perm l) : sortA m = sortA l :=
  asc_eq (sortA_asc (hl.perm hp)) (sortA_asc hl) ((sortA_perm m).trans (hp.trans (sortA_perm l).symm))
theorem sortA_of {l : List GAlert} (h : AscA l) : sortA l = l := by
  refine asc_eq (sortA_asc (h.imp fun {a b} hab e => ?_)) h (sortA_perm l)
  have := (cmpLs_ord.zero a.L b.L).2 e
  omega
end Go.Proofs.YtoekflobllmeeaaGreatDoor.AM

/- The table's step. -/
namespace Go.Proofs.YtoekflobllmeeaaGreatDoor.AM
open Go

theorem table_sorted_1_eq (p q : GAlert) : table_sorted_1 p q = some (compareL p.L q.L) := by
  unfold table_sorted_1
  rw [label_Compare_eq, callM_some]; rfl
theorem sorted_eq {l : List GAlert} (hs : Sanes GAlert.L l) (ha : Apart l) (hl : l.length ≤ 1000) {β : Type} {m : List GAlert → Option β} : sortM table_sorted_1 l m = m (sortA l) ∨ m (sortA l) = none := by
  cases hm : m (sortA l) with
  | none => exact .inr rfl
  | some y =>
    left
    have o := cmpLs_ord
    refine sortM_eq (fun p q => compareL p.L q.L) ⟨fun p _ q _ => table_sorted_1_eq p q, fun p _ => ?_, fun p _ q _ r _ h1 h2 => cmpLs_lt h1 h2, fun p _ q _ r _ h1 h2 => ?_, by omega⟩ ?_
    · have := (o.zero (countsL p.L) (countsL p.L)).2 rfl
      simp only [compareL]; omega
    · simp only [compareL] at *
      have e1 := o.anti (countsL p.L) (countsL q.L)
      have e2 := o.anti (countsL q.L) (countsL r.L)
      have e3 := o.anti (countsL p.L) (countsL r.L)
      have := o.trans (countsL r.L) (countsL q.L) (countsL p.L) (by omega) (by omega)
      omega
    · intro l' hp hp'
      have : l' = sortA l := by
        refine asc_eq ?_ (sortA_asc ha) (hp.trans (sortA_perm l).symm)
        have h2 := (ha.perm hp)
        refine (List.Pairwise.and hp' h2).imp_of_mem fun {a b} hma hmb hab => ?_
        rw [compareL_sane (hs b (hp.mem_iff.1 hmb)) (hs a (hp.mem_iff.1 hma))] at hab
        exact cmp_flip hab.1 (fun e => hab.2 e.symm) |> fun h => h
      rw [this, hm]
theorem rng_eq {β : Type} {step : List GAlert → ((Str × GAlert) → Option (List GAlert ⊕ β)) × Option (List GAlert ⊕ β)} (n : Nat) (h : ∀ a e, a.length < n → (step a).1 e = some (.inl (a ++ [e.2]))) : ∀ (es : List (Str × GAlert)) (a : List GAlert), a.length + es.length ≤ n → rngIter step es a = (step (a ++ es.map (·.2))).2.bind (Sum.elim (fun _ => none) some)
  | [], a, _ => by simp [rngIter]
  | e :: es, a, hl => by
    simp only [List.length_cons] at hl
    simp only [rngIter, h a e (by omega), Option.bind_some, Sum.elim_inl]
    rw [rng_eq n h es (a ++ [e.2]) (by simp; omega)]
    simp
theorem table_sorted_eq {l : List GAlert} (hs : Sanes GAlert.L l) (ha : Apart l) (hl : l.length ≤ 1000) : table_sorted_o (enk GAlert.L l) = some (sortA l) := by
  unfold table_sorted_o
  rw [tokM_eq]
  refine rangeM_eq ⟨fun _ _ _ _ _ _ => rfl, fun _ _ _ _ => rfl⟩ fun es' hp => ?_
  have hlen : es'.length = l.length := by rw [hp.length_eq, enk_length]
  have hp2 : (es'.map (·.2)).Perm l := by
    have := hp.map (·.2)
    simpa [enk, Function.comp_def] using this
  rw [rng_eq 1000 ?_ es' [] (by simp; omega)]
  · have hs' : Sanes GAlert.L (es'.map (·.2)) := fun x hx => hs x (hp2.mem_iff.1 hx)
    have := sorted_eq hs' (ha.perm hp2) (by simp; omega) (m := fun x => some x)
    simp only [bareR, List.nil_append]
    have e : sortM table_sorted_1 (es'.map (·.2)) (fun x5 => pubbM 3 <| retM x5) = some (sortA l) := by
      rcases sorted_eq hs' (ha.perm hp2) (by simp; omega) (m := fun x5 => pubbM 3 <| retM x5) with h | h
      · rw [h, sortA_eq ha hp2]; rfl
      · cases h
    show ((exitM (sortM table_sorted_1 (es'.map (·.2)) (fun x5 => pubbM 3 <| retM x5))).bind _) = _
    rw [e]; rfl
  · intro a e hlt
    simp only [bareR, letE_eq, letO_eq]
    rw [gdM_pos (by simp; omega)]; rfl

/-! ### the step -/
def keepA (D : List GFound) (now d u : Int) (a : GAlert) : Option GAlert :=
  let hit := D.find? fun x => decide (x.L = a.L)
  let s := stepH a.H hit.isSome now d u
  if goneH s.1 (bd now) (bd u) then none else some ⟨a.L, s.1, s.2, match hit with | some x => x.X.V | none => a.V⟩
def fresh (now d u : Int) (x : GFound) : GAlert := ⟨x.L, (stepH h0 true now d u).1, (stepH h0 true now d u).2, x.X.V⟩
def addS (now d u : Int) (s : Int × List GAlert) (x : GFound) : Int × List GAlert :=
  if (s.2.find? fun y => decide (y.L = x.L)).isSome then s else if 16 ≤ s.2.length then (min (s.1 + 1) cap, s.2) else (s.1, s.2 ++ [fresh now d u x])
def keptL (D : List GFound) (now d u : Int) (A : List GAlert) : List GAlert := A.filterMap (keepA D now d u)
def stepS (T : GTable) (D : List GFound) (now d u : Int) : Int × List GAlert := D.foldl (addS now d u) (T.Full, keptL D now d u T.A)
def stepT (t : GTable) (f : List GFound) (now d u : Int) : GTable := ⟨sortA (stepS (cntT t) (dist f) now d u).2, (stepS (cntT t) (dist f) now d u).1⟩

theorem stepH_ok (h : GHold) (hit : Bool) (now d u : Int) : holdB (stepH h hit now d u).1 = true := stepG_ok (cntH_ok h) (tmB_bd now)
theorem Gone_step (h : GHold) (hit : Bool) (now d u : Int) : hold_Gone (stepH h hit now d u).1 now u = some (goneH (stepH h hit now d u).1 (bd now) (bd u)) := by rw [hold_Gone_eq, cntH_of (stepH_ok h hit now d u)]
theorem keepA_L {D : List GFound} {now d u : Int} {a b : GAlert} (h : keepA D now d u a = some b) : b.L = a.L := by
  unfold keepA at h
  simp only at h
  split at h
  · cases h
  · cases h; rfl
theorem keptL_mem {D : List GFound} {now d u : Int} {A : List GAlert} {b : GAlert} (h : b ∈ keptL D now d u A) : ∃ a ∈ A, keepA D now d u a = some b ∧ b.L = a.L := by
  obtain ⟨a, ha, hb⟩ := List.mem_filterMap.1 h
  exact ⟨a, ha, hb, keepA_L hb⟩
theorem asc_apart {A : List GAlert} (h : AscA A) : Apart A := h.imp fun {a b} hab e => by
  have := (cmpLs_ord.zero a.L b.L).2 e
  omega
theorem keptL_asc {D : List GFound} {now d u : Int} {A : List GAlert} (h : AscA A) : AscA (keptL D now d u A) := by
  unfold keptL AscA
  rw [List.pairwise_filterMap]
  refine h.imp fun {a b} hab x hx y hy => ?_
  rw [keepA_L hx, keepA_L hy]; exact hab
theorem keptL_sane {D : List GFound} {now d u : Int} {A : List GAlert} (h : Sanes GAlert.L A) : Sanes GAlert.L (keptL D now d u A) := by
  intro b hb
  obtain ⟨a, ha, _, e⟩ := keptL_mem hb
  rw [e]; exact h a ha
structure InvS (s : Int × List GAlert) : Prop where
  sane : Sanes GAlert.L s.2
  apart : Apart s.2
  len : s.2.length ≤ 16
  full : 0 ≤ s.1 ∧ s.1 ≤ cap
theorem addS_inv {now d u : Int} {s : Int × List GAlert} {x : GFound} (h : InvS s) (hx : saneB x.L = true) : InvS (addS now d u s x) := by
  unfold addS
  cases e : s.2.find? (fun y => decide (y.L = x.L)) with
  | some y => simpa using h
  | none =>
    simp only [Option.isSome_none, Bool.false_eq_true, if_false]
    have hn := find_none e
    have hf := h.full
    split
    · exact ⟨h.sane, h.apart, h.len, by simp only; unfold cap at *; omega⟩
    · refine ⟨h.sane.snoc hx, ?_, by simp; omega, hf⟩
      refine List.pairwise_append.2 ⟨h.apart, List.pairwise_singleton _ _, fun a ha b hb => ?_⟩
      rw [List.mem_singleton] at hb; subst hb
      exact hn a ha
theorem foldS_inv {now d u : Int} : ∀ (D : List GFound) {s : Int × List GAlert}, Sanes GFound.L D → InvS s → InvS (D.foldl (addS now d u) s)
  | [], _, _, h => h
  | x :: D, _, hD, h => foldS_inv D (fun y hy => hD y (by simp [hy])) (addS_inv h (hD x (by simp)))
theorem inv0 {T : GTable} (hT : TabOk T) (D : List GFound) (now d u : Int) : InvS (T.Full, keptL D now d u T.A) :=
  ⟨keptL_sane fun a ha => alOk_sane (hT.each a ha), asc_apart (keptL_asc hT.asc), Nat.le_trans (List.length_filterMap_le _ _) hT.len, hT.full⟩
theorem stepS_inv {T : GTable} (hT : TabOk T) (f : List GFound) (now d u : Int) : InvS (stepS T (dist f) now d u) := foldS_inv _ (dist_sane f) (inv0 hT _ now d u)
theorem keptL_take {D : List GFound} {now d u : Int} {A : List GAlert} {i : Nat} (hi : i < A.length) : keptL D now d u (A.take (i + 1)) = keptL D now d u (A.take i) ++ (keepA D now d u (nth A i)).toList := by
  unfold keptL
  rw [take_nth hi, List.filterMap_append]
  congr 1
set_option maxHeartbeats 1000000 in
theorem table_Step_eq (t : GTable) {f : List GFound} (now d u : Int) (hf : f.length ≤ 1000) : table_Step t f now d u = some (stepT t f now d u) := by
  unfold table_Step
  rw [table_counted_eq, callM_some, table_distinct_eq hf, callM_some]
  simp only [letO_eq, letE_eq]
  unfold stepT
  have hT := tabB_iff.1 (cntT_ok t)
  have hD := dist_sane f
  have hDl : (dist f).length ≤ 1000 := by
    have := foldl_len f []
    simp only [List.length_nil] at this
    unfold dist; omega
  have hi0 := stepS_inv hT f now d u
  unfold stepS at hi0 ⊢
  generalize dist f = D at *
  generalize cntT t = T at *
  refine loopM_ix (fun s => s.2) (fun i => (enk GAlert.L (keptL D now d u (T.A.take i)), (i : Int))) T.A.length _ (fun _ => rfl) ?_ ?_ (by simp [keptL, enk])
  · intro i hi
    have ha := alOk_sane (hT.each _ (nth_mem hi))
    have hs : Sanes GAlert.L (keptL D now d u (T.A.take i)) := keptL_sane fun a h => alOk_sane (hT.each a (List.mem_of_mem_take h))
    have hn : ∀ x ∈ keptL D now d u (T.A.take i), x.L ≠ (nth T.A i).L := by
      intro x hx e
      obtain ⟨a, hm, _, e2⟩ := keptL_mem hx
      obtain ⟨j, hj, rfl⟩ := mem_nth hm
      rw [List.length_take] at hj
      have e3 : nth (T.A.take i) j = nth T.A j := by
        simp only [nth, List.getD_eq_getElem?_getD]
        rw [List.getElem?_take_of_lt (by omega)]
      rw [e3] at e2
      have := pairwise_nth hT.asc (i := j) (j := i) (by omega) hi
      rw [← e2, e] at this
      have := (cmpLs_ord.zero (nth T.A i).L _).2 rfl
      omega
    simp only [iteM_dec, idxM_get (nth_get hi), key_eq ha, callM_some]
    rw [if_pos (by omega), keptL_take hi, wI_of (by have := hT.len; omega)]
    generalize keptL D now d u (T.A.take i) = m at *
    unfold lookM
    rw [mlk_enk hD ha]
    unfold keepA
    cases e : D.find? (fun x => decide (x.L = (nth T.A i).L)) with
    | some x =>
      simp only [hold_Step_eq, callM_some, Option.isSome_some, Gone_step]
      rw [mst_enk hs ha hn]
      cases hg : goneH (stepH (nth T.A i).H true now d u).1 (bd now) (bd u)
      · simp only [iteM_false]
        rw [enk_snoc (lab := GAlert.L)] <;> rfl
      · simp only [iteM_true]
        rw [mdl_enk hs ha hn]; simp
    | none =>
      simp only [hold_Step_eq, callM_some, Option.isSome_none, Gone_step]
      rw [mst_enk hs ha hn]
      cases hg : goneH (stepH (nth T.A i).H false now d u).1 (bd now) (bd u)
      · simp only [iteM_false]
        rw [enk_snoc (lab := GAlert.L)] <;> rfl
      · simp only [iteM_true]
        rw [mdl_enk hs ha hn]; simp
  · simp only [iteM_dec]
    rw [if_neg (by omega), List.take_length]
    have hI := inv0 hT D now d u
    generalize keptL D now d u T.A = K at *
    rw [show ∀ r : GTable, (some (Sum.inr r) : Option ((List (Str × GAlert) × Int) ⊕ GTable)) = exitM (some r) from fun _ => rfl]
    congr 1
    refine loopM_ix (fun s => s.2.2) (fun i => (((D.take i).foldl (addS now d u) (T.Full, K)).1, enk GAlert.L ((D.take i).foldl (addS now d u) (T.Full, K)).2, (i : Int))) D.length _ (fun _ => rfl) ?_ ?_ (by simp)
    · intro i hi
      have hx := hD _ (nth_mem hi)
      have hs := foldS_inv (now := now) (d := d) (u := u) (D.take i) (fun y hy => hD y (List.mem_of_mem_take hy)) hI
      simp only [iteM_dec, idxM_get (nth_get hi), key_eq hx, callM_some]
      rw [if_pos (by omega), foldl_take hi, wI_of (x := (i : Int) + 1) (by omega)]
      generalize (D.take i).foldl (addS now d u) (T.Full, K) = s at *
      unfold lookM
      rw [mlk_enk hs.sane hx]
      unfold addS
      cases e : s.2.find? (fun y => decide (y.L = (nth D i).L)) with
      | some y => simp
      | none =>
        have hn := find_none e
        simp only [Option.isSome_none, Bool.false_eq_true, if_false, enk_length]
        have hf2 := hs.full
        unfold cap at hf2
        by_cases h16 : 16 ≤ s.2.length
        · rw [if_pos (by omega), if_pos h16, wI_of (by omega)]; rfl
        · rw [if_neg (by omega), if_neg h16, hold_Step_eq, callM_some, mst_enk hs.sane hx hn, enk_snoc (lab := GAlert.L)] <;> rfl
    · simp only [iteM_dec]
      rw [if_neg (by omega), List.take_length, tailM_eq, table_sorted_eq hi0.sane hi0.apart (by have := hi0.len; omega), callO_some]
      rfl
end Go.Proofs.YtoekflobllmeeaaGreatDoor.AM

/- What the laws ask besides: few, the same, awake. -/
namespace Go.Proofs.YtoekflobllmeeaaGreatDoor.AM
open Go

def BIG : Nat := 9223372036854775807
def fewT (A : List GAlert) : Bool := A.all (fun a => fewB a.L) && decide (A.length ≤ 40)
theorem all_drop {α : Type} [Inhabited α] {p : α → Bool} {l : List α} {i : Nat} (hi : i < l.length) : (l.drop i).all p = (p (nth l i) && (l.drop (i + 1)).all p) := by
  rw [drop_nth hi, List.all_cons]
theorem ref17_Few_eq (t : GTable) (h : t.A.length ≤ BIG) (hl : ∀ a ∈ t.A, a.L.length ≤ BIG) : ref17_Few t = some (fewT t.A) := by
  unfold BIG at *
  unfold ref17_Few
  refine (loopM_nat t.A.length (fun i => (t.A.drop i).all (fun a => fewB a.L) && decide (t.A.length ≤ 40)) ?_ ?_).trans (by simp [fewT])
  · intro i hi
    simp only [letE_eq, iteM_dec, idxM_get (nth_get hi), iteM_not]
    rw [if_pos (by omega), ref03_Few_eq _ (hl _ (nth_mem hi)), callM_some, all_drop hi]
    cases fewB (nth t.A i).L
    · left; simp
    · right; rw [wI_of (by omega)]; exact ⟨by simp, by simp⟩
  · simp only [letE_eq, iteM_dec]
    rw [if_neg (by omega)]
    simp only [List.drop_length, List.all_nil, Bool.true_and, retM_eq, exitM_some]
    rw [show decide ((t.A.length : Int) ≤ 40) = decide (t.A.length ≤ 40) from by rw [decide_eq_decide]; omega]
/-- Bounds that every input keeps. -/
structure Bd (l : List GSaved) : Prop where
  len : l.length ≤ BIG
  tab : ∀ s ∈ l, s.X.A.length ≤ BIG
  lab : ∀ s ∈ l, ∀ a ∈ s.X.A, a.L.length ≤ BIG
def fewS (s : GSaved) : Bool := fewT s.X.A && !decide (400 < wI ((s.K.Group.length : Int) + (s.K.Rule.length : Int)))
def fewD (l : List GSaved) : Bool := l.all fewS && decide (l.length ≤ 40)
theorem ref20_Few_eq {l : List GSaved} (h : Bd l) : ref20_Few l = some (fewD l) := by
  obtain ⟨h1, h2, h3⟩ := h
  unfold ref20_Few
  have h1' : l.length ≤ 9223372036854775807 := h1
  refine (loopM_nat l.length (fun i => (l.drop i).all fewS && decide (l.length ≤ 40)) ?_ ?_).trans (by simp [fewD])
  · intro i hi
    simp only [letE_eq, iteM_dec, idxM_get (nth_get hi), iteM_not, drawM_eq]
    rw [if_pos (by omega), ref17_Few_eq _ (h2 _ (nth_mem hi)) (h3 _ (nth_mem hi)), callM_some, all_drop hi]
    unfold fewS
    cases fewT (nth l i).X.A
    · left; simp
    · simp only [iteM_true, Bool.true_and]
      by_cases hk : 400 < wI (((nth l i).K.Group.length : Int) + ((nth l i).K.Rule.length : Int))
      · left; rw [if_pos hk]; simp [hk]
      · right; rw [if_neg hk, wI_of (by omega)]; exact ⟨by simp, by simp [hk]⟩
  · simp only [letE_eq, iteM_dec]
    rw [if_neg (by omega)]
    simp only [List.drop_length, List.all_nil, Bool.true_and, retM_eq, exitM_some]
    rw [show decide ((l.length : Int) ≤ 40) = decide (l.length ≤ 40) from by rw [decide_eq_decide]; omega]

theorem SameAlert_eq (a b : GAlert) (h : a.L.length ≤ BIG) : ref17_SameAlert a b = some (decide (a = b)) := by
  unfold ref17_SameAlert
  rw [ref03_Same_eq _ _ h, callM_some]
  simp only [letE_eq, iteM_dec, retM_eq]
  obtain ⟨aL, ⟨a1, a2, a3, a4⟩, a5, a6⟩ := a
  obtain ⟨bL, ⟨b1, b2, b3, b4⟩, b5, b6⟩ := b
  simp only [GAlert.mk.injEq, GHold.mk.injEq, Bool.and_true]
  by_cases e1 : aL = bL
  · rw [if_pos e1]
    by_cases e2 : a1 = b1 ∧ a2 = b2 ∧ a3 = b3 ∧ a4 = b4
    · obtain ⟨rfl, rfl, rfl, rfl⟩ := e2
      simp only [beq_self_eq_true, decide_true, Bool.and_true, iteM_true]
      by_cases e3 : a5 = b5
      · rw [if_pos e3]; simp [e1, e3]
      · rw [if_neg e3]; simp [e3]
    · rw [show ((a1 == b1) && (decide (a2 = b2) && ((a3 == b3) && decide (a4 = b4)))) = false from by
        simp only [Bool.and_eq_false_iff, beq_eq_false_iff_ne, decide_eq_false_iff_not]
        by_cases k1 : a1 = b1
        · by_cases k2 : a2 = b2
          · by_cases k3 : a3 = b3
            · by_cases k4 : a4 = b4
              · exact absurd ⟨k1, k2, k3, k4⟩ e2
              · exact .inr (.inr (.inr k4))
            · exact .inr (.inr (.inl k3))
          · exact .inr (.inl k2)
        · exact .inl k1]
      simp only [iteM_false]
      rw [decide_eq_false (fun k => e2 k.2.1)]
  · rw [if_neg e1]; simp [e1]
theorem drop_eq_iff {α : Type} [Inhabited α] {a b : List α} (h : a.length = b.length) {i : Nat} (hi : i < a.length) : a.drop i = b.drop i ↔ nth a i = nth b i ∧ a.drop (i + 1) = b.drop (i + 1) := by
  have e1 := drop_nth hi
  have e2 := drop_nth (l := b) (show i < b.length by omega)
  rw [e1, e2, List.cons.injEq]
theorem SameAlerts_eq (a b : List GAlert) (h : a.length ≤ BIG) (hl : ∀ x ∈ a, x.L.length ≤ BIG) : ref17_SameAlerts a b = some (decide (a = b)) := by
  unfold ref17_SameAlerts
  have h' : a.length ≤ 9223372036854775807 := h
  simp only [letE_eq, iteM_not, iteM_dec]
  by_cases hlen : a.length = b.length
  · rw [if_pos (by omega)]
    refine (loopM_nat a.length (fun i => decide (a.drop i = b.drop i)) ?_ ?_).trans (by simp)
    · intro i hi
      simp only [iteM_dec, idxM_get (nth_get hi), idxM_get (nth_get (show i < b.length by omega)), drawM_eq, SameAlert_eq _ _ (hl _ (nth_mem hi)), callM_some, iteM_not]
      rw [if_pos (by omega)]
      by_cases e : nth a i = nth b i
      · right
        rw [if_pos e, wI_of (by omega)]
        refine ⟨by simp, ?_⟩
        rw [decide_eq_decide, drop_eq_iff hlen hi]
        simp [e]
      · left
        rw [if_neg e, decide_eq_false (fun k => e ((drop_eq_iff hlen hi).1 k).1)]; simp
    · rw [if_neg (by omega), List.drop_length, hlen, List.drop_length]; simp
  · rw [if_neg (by omega), decide_eq_false (fun k => hlen (by rw [k]))]; rfl
theorem ref17_Same_eq (a b : GTable) (h : a.A.length ≤ BIG) (hl : ∀ x ∈ a.A, x.L.length ≤ BIG) : ref17_Same a b = some (decide (a = b)) := by
  unfold ref17_Same
  obtain ⟨aA, aF⟩ := a
  obtain ⟨bA, bF⟩ := b
  simp only [letE_eq, iteM_dec, SameAlerts_eq _ _ h hl, callM_some, retM_eq, GTable.mk.injEq]
  by_cases e : aF = bF
  · rw [if_pos e]; simp [e]
  · rw [if_neg e]; simp [e]
theorem ref20_Same_eq {a : List GSaved} (b : List GSaved) (h : Bd a) : ref20_Same a b = some (decide (a = b)) := by
  obtain ⟨h1, h2, h3⟩ := h
  have h' : a.length ≤ 9223372036854775807 := h1
  unfold ref20_Same
  simp only [letE_eq, iteM_not, iteM_dec]
  by_cases hlen : a.length = b.length
  · rw [if_pos (by omega)]
    refine (loopM_nat a.length (fun i => decide (a.drop i = b.drop i)) ?_ ?_).trans (by simp)
    · intro i hi
      simp only [iteM_dec, idxM_get (nth_get hi), idxM_get (nth_get (show i < b.length by omega)), drawM_eq, ref17_Same_eq _ _ (h2 _ (nth_mem hi)) (h3 _ (nth_mem hi)), callM_some, iteM_not]
      rw [if_pos (by omega)]
      have hd := drop_eq_iff hlen hi
      generalize nth a i = x at hd
      generalize nth b i = y at hd
      obtain ⟨⟨x1, x2⟩, x3⟩ := x
      obtain ⟨⟨y1, y2⟩, y3⟩ := y
      simp only [GSaved.mk.injEq, GKey.mk.injEq] at hd
      simp only [Bool.and_true]
      by_cases e1 : x1 = y1 ∧ x2 = y2
      · rw [show (decide (x1 = y1) && decide (x2 = y2)) = true from by simp [e1.1, e1.2], iteM_true]
        by_cases e : x3 = y3
        · right
          rw [if_pos e, wI_of (by omega)]
          refine ⟨by simp, ?_⟩
          rw [decide_eq_decide, hd]
          exact ⟨fun k => ⟨⟨e1, e⟩, k⟩, fun k => k.2⟩
        · left
          rw [if_neg e, decide_eq_false (fun k => e (hd.1 k).1.2)]; simp
      · left
        rw [show (decide (x1 = y1) && decide (x2 = y2)) = false from by simp only [Bool.and_eq_false_iff, decide_eq_false_iff_not]; by_cases k : x1 = y1; exact .inr (fun k2 => e1 ⟨k, k2⟩); exact .inl k, iteM_false, decide_eq_false (fun k => e1 (hd.1 k).1.1)]; simp
    · rw [if_neg (by omega), List.drop_length, hlen, List.drop_length]; simp
  · rw [if_neg (by omega), decide_eq_false (fun k => hlen (by rw [k]))]; rfl

def keyB (x k : GKey) : Bool := decide (x.Group = k.Group) && (decide (x.Rule = k.Rule) && true)
theorem keyB_iff {x k : GKey} : keyB x k = true ↔ x = k := by
  obtain ⟨x1, x2⟩ := x
  obtain ⟨k1, k2⟩ := k
  simp [keyB]
def findD (l : List GSaved) (k : GKey) : GTable := match l.find? (fun s => keyB s.K k) with | some s => s.X | none => t0
theorem snap_Find_eq (l : List GSaved) (k : GKey) (hl : l.length ≤ 256 ∨ svB l = false) : snap_Find l k = some (if svB l then findD l k else t0) := by
  unfold snap_Find
  rw [snap_Sane_eq, callM_some]
  simp only [letE_eq, iteM_not, retM_eq]
  cases hs : svB l
  · rfl
  · rw [iteM_true, if_pos rfl]
    have h256 := (svB_iff.1 hs).len
    refine (loopM_nat l.length (fun i => findD (l.drop i) k) ?_ ?_).trans (by simp)
    · intro i hi
      simp only [iteM_dec, idxM_get (nth_get hi), exitM_some, nextM_eq]
      rw [if_pos (by omega), drop_nth hi]
      show iteM (keyB (nth l i).K k) _ _ = _ ∨ iteM (keyB (nth l i).K k) _ _ = _ ∧ _
      cases hk : keyB (nth l i).K k
      · right
        rw [iteM_false, wI_of (by omega)]
        exact ⟨by simp, by simp [findD, hk]⟩
      · left
        rw [iteM_true]; simp [findD, hk]
    · simp only [iteM_dec]
      rw [if_neg (by omega)]
      simp [findD]; rfl

/-! ### The document's example -/
def aw3 : GTable := stepT t0 [⟨[⟨[97], [49]⟩], ⟨0, -3⟩⟩] 5 9 0
def aw4 : List GSaved := [⟨⟨[103], [114]⟩, aw3⟩]
theorem aw_ok : svB aw4 = true ∧ aw3.A.length = 1 ∧ (aw3.A.all fun a => decide (a.V = -3)) = true ∧ (aw3.A.all fun a => decide (a.L.length ≤ 16)) = true := by
  refine ⟨?_, ?_, ?_, ?_⟩ <;> kernel_rfl
theorem aw_small : small aw4 := by
  intro s hs a ha
  simp only [aw4, List.mem_singleton] at hs
  subst hs
  have := List.all_eq_true.1 aw_ok.2.2.1 a ha
  simp only [decide_eq_true_eq] at this
  rw [this]; unfold okI59; omega
theorem aw_bd : Bd aw4 := by
  refine ⟨by simp [aw4, BIG], fun s hs => ?_, fun s hs a ha => ?_⟩
  · simp only [aw4, List.mem_singleton] at hs
    subst hs
    have := aw_ok.2.1
    unfold BIG; simp only; omega
  · simp only [aw4, List.mem_singleton] at hs
    subst hs
    have := List.all_eq_true.1 aw_ok.2.2.2 a ha
    simp only [decide_eq_true_eq] at this
    unfold BIG; omega
theorem awake_eq : law20_awake = some true := by
  unfold law20_awake
  simp only [letE_eq]
  rw [show (⟨([] : List GAlert), (0 : Int)⟩ : GTable) = t0 from rfl, table_Step_eq _ _ _ _ (by simp), callM_some]
  rw [show stepT t0 [⟨[⟨[97], [49]⟩], ⟨0, -3⟩⟩] 5 9 0 = aw3 from rfl]
  rw [show ([⟨⟨[103], [114]⟩, aw3⟩] : List GSaved) = aw4 from rfl]
  have hg0 : getD' [0, 0] = ([], 1) := by decide +kernel
  have hp0 : snap_Put [] = some [0] := by
    rw [snap_Put_eq, if_pos (by decide)]
    simp [encD, encN, putU_lt (show 0 < 128 by omega)]
  rw [snap_Put_eq, callM_some, if_pos aw_ok.1, snap_Get_eq (encD_oct _), callM_some, get_put aw_ok.1 aw_small, snap_Get_eq (by intro c hc; simp at hc; omega), callM_some, hg0, hp0, callM_some]
  have hx : idxM aw4 (0 : Int) = fun m : GSaved → Option Bool => m ⟨⟨[103], [114]⟩, aw3⟩ := rfl
  simp only [ref20_Same_eq aw4 aw_bd, callM_some, hx, aw_ok.2.1, snap_Sane_eq, aw_ok.1, snap_Find_eq aw4 _ (.inl (by simp [aw4])), decide_true, if_true]
  rw [show findD aw4 ⟨[103], [114]⟩ = aw3 from by unfold findD aw4; rfl, aw_ok.2.1]
  rfl
end Go.Proofs.YtoekflobllmeeaaGreatDoor.AM
