/- A part of the proof: Lb, Yt, La, Lm, Ya, Yb, Yc, Yd, Ye, Yf, Yg, Yh, Lw, E0, Ea, Eb, Ec, Ed, Ee, Ef, Eg, Eh, Ei, Lg, Ej, Ek. -/
import Derived.Test.YtcpjmkbcefmldaaGreatDoorTy
import Derived.Test.YtcpjmkbcefmldaaGreatDoorA3
import Derived.Test.YtcpjmkbcefmldaaGreatDoorX2
import Derived.Test.YtcpjmkbcefmldaaGreatDoorMd
set_option linter.all false
/- Labels: what is computed, in plain words. -/
namespace Go.Proofs.YtcpjmkbcefmldaaGreatDoor.AM
open Go

theorem ltS_irrefl (a : Str) : ltS a a = false := bl_irrefl _
theorem ltS_trans {a b c : Str} (h : ltS a b = true) (k : ltS b c = true) : ltS a c = true := bl_trans h k
theorem ltS_total {a b : Str} (h : ltS a b = false) (k : ltS b a = false) : a = b := bl_total h k
theorem ltS_asymm {a b : Str} (h : ltS a b = true) : ltS b a = false := by
  cases hb : ltS b a
  · rfl
  · have := ltS_trans h hb; rw [ltS_irrefl] at this; cases this
theorem ltS_ntrans {a b c : Str} (h : ltS a b = false) (k : ltS b c = false) : ltS a c = false := by
  cases hac : ltS a c
  · rfl
  · cases hba : ltS b a
    · have := ltS_total h hba; subst this; rw [hac] at k; cases k
    · have := ltS_trans hba hac; rw [this] at k; cases k
def pr (l : List GPair) (k : Nat) : GPair := l.getD k default
theorem pr_get {l : List GPair} {k : Nat} (h : k < l.length) : l[k]? = some (pr l k) := by
  rw [pr, List.getD_eq_getElem?_getD, List.getElem?_eq_getElem h]; rfl
def letterI (c : Int) : Bool := (decide (97 ≤ c) && decide (c ≤ 122)) || (decide (65 ≤ c) && decide (c ≤ 90)) || decide (c = 95)
def digitI (c : Int) : Bool := decide (48 ≤ c) && decide (c ≤ 57)
def okAt (s : Str) (i : Nat) : Bool := letterI (s.getD i 0).toNat || (digitI (s.getD i 0).toNat && decide (i ≠ 0))
def nameB (s : Str) : Bool := decide (1 ≤ s.length) && decide (s.length ≤ 64) && (List.range s.length).all (okAt s)

theorem nameB_bad {s : Str} {k : Nat} (hk : k < s.length) (h : okAt s k = false) : nameB s = false := by
  simp only [nameB, Bool.and_eq_false_iff, List.all_eq_false, List.mem_range]
  exact .inr ⟨k, hk, by simp [h]⟩
theorem nameB_good {s : Str} (h1 : 1 ≤ s.length) (h2 : s.length ≤ 64) (h : ∀ i, i < s.length → okAt s i = true) : nameB s = true := by
  simp only [nameB, h1, h2, decide_true, Bool.true_and, List.all_eq_true, List.mem_range]
  exact h
theorem nameB_len {s : Str} (h : s.length < 1 ∨ 64 < s.length) : nameB s = false := by
  simp only [nameB, Bool.and_eq_false_iff, decide_eq_false_iff_not]
  omega
def saneAt (l : List GPair) (i : Nat) : Bool := nameB (pr l i).1 && decide ((pr l i).2.length ≤ 64) && (decide (i = 0) || ltS (pr l (i - 1)).1 (pr l i).1)
def saneB (l : List GPair) : Bool := decide (l.length ≤ 16) && (List.range l.length).all (saneAt l)
theorem saneB_good {l : List GPair} (h1 : l.length ≤ 16) (h : ∀ i, i < l.length → saneAt l i = true) : saneB l = true := by
  simp only [saneB, h1, decide_true, Bool.true_and, List.all_eq_true, List.mem_range]
  exact h
theorem saneB_len {l : List GPair} (h : 16 < l.length) : saneB l = false := by
  simp only [saneB, Bool.and_eq_false_iff, decide_eq_false_iff_not]; left; omega

def countsL (l : List GPair) : List GPair := if saneB l then l else []
def getFrom (n : Str) : List GPair → Str × Bool
  | [] => ([], false)
  | p :: l => if p.1 = n then (p.2, true) else getFrom n l
def getL (l : List GPair) (n : Str) : Str × Bool := getFrom n (countsL l)
def withoutL (l : List GPair) (n : Str) : List GPair := (countsL l).filter fun p => !decide (p.1 = n)

theorem drop_pr {l : List GPair} {k : Nat} (hk : k < l.length) : l.drop k = pr l k :: l.drop (k + 1) := by
  have hp := pr_get hk
  rw [List.drop_eq_getElem_cons hk]
  congr 1
  rw [List.getElem?_eq_getElem hk] at hp
  exact Option.some.inj hp
theorem take_pr {l : List GPair} {k : Nat} (hk : k < l.length) : l.take (k + 1) = l.take k ++ [pr l k] := by
  have hp := pr_get hk
  rw [List.take_add_one, hp]; rfl

theorem countsL_len (l : List GPair) : (countsL l).length ≤ 16 := by
  unfold countsL
  split
  · rename_i h
    simp only [saneB, Bool.and_eq_true, decide_eq_true_eq] at h
    exact h.1
  · simp

def cmpS (a b : Str) : Int := if ltS a b then -1 else if ltS b a then 1 else 0
theorem cmpS_neg {a b : Str} : cmpS a b < 0 ↔ ltS a b = true := by
  unfold cmpS
  split
  · simp [*]
  · split <;> simp [*]

def tooLong (p : GPair) : Bool := decide (64 < p.2.length)
def twice : List GPair → Bool
  | [] => false
  | p :: l => l.any (fun q => decide (q.1 = p.1)) || twice l
def insP (p : GPair) : List GPair → List GPair
  | [] => [p]
  | q :: l => if ltS p.1 q.1 then p :: q :: l else q :: insP p l
def sortP : List GPair → List GPair
  | [] => []
  | p :: l => insP p (sortP l)
def wrongE (l : List GPair) : Int :=
  if 16 < l.length then 4 else if l.any tooLong then 4 else if l.all (fun p => nameB p.1) then (if twice l then 6 else 0) else 7
def makeL (l : List GPair) : List GPair × Int := if wrongE l = 0 then (sortP l, 0) else ([], wrongE l)

theorem insP_perm (p : GPair) : ∀ l, (insP p l).Perm (p :: l)
  | [] => .refl _
  | q :: l => by
    unfold insP
    split
    · exact .refl _
    · exact ((insP_perm p l).cons q).trans (.swap p q l)
theorem sortP_perm : ∀ l, (sortP l).Perm l
  | [] => .refl _
  | p :: l => (insP_perm p _).trans ((sortP_perm l).cons p)

def Asc (l : List GPair) : Prop := l.Pairwise (fun p q => ltS q.1 p.1 = false)
theorem insP_asc (p : GPair) : ∀ {l : List GPair}, Asc l → Asc (insP p l)
  | [], _ => by simp [insP, Asc]
  | q :: l, h => by
    obtain ⟨h1, h2⟩ := List.pairwise_cons.1 h
    unfold insP
    split
    · rename_i hl
      refine List.pairwise_cons.2 ⟨?_, h⟩
      intro r hr
      rcases List.mem_cons.1 hr with rfl | hr
      · exact ltS_asymm hl
      · have := h1 r hr
        cases hc : ltS r.1 p.1
        · rfl
        · have := ltS_trans hc hl; rw [h1 r hr] at this; cases this
    · rename_i hl
      refine List.pairwise_cons.2 ⟨?_, insP_asc p h2⟩
      intro r hr
      rcases List.mem_cons.1 ((insP_perm p l).mem_iff.1 hr) with rfl | hr
      · simpa using hl
      · exact h1 r hr
theorem sortP_asc : ∀ l, Asc (sortP l)
  | [] => .nil
  | p :: l => insP_asc p (sortP_asc l)

theorem twice_nodup : ∀ {l : List GPair}, twice l = false → (l.map (·.1)).Nodup
  | [], _ => .nil
  | p :: l, h => by
    simp only [twice, Bool.or_eq_false_iff, List.any_eq_false, decide_eq_true_eq] at h
    simp only [List.map_cons, List.nodup_cons, List.mem_map, not_exists, not_and]
    exact ⟨fun q hq => h.1 q hq, twice_nodup h.2⟩

theorem asc_unique : ∀ {l m : List GPair}, Asc l → Asc m → l.Perm m → (l.map (·.1)).Nodup → l = m
  | [], m, _, _, h, _ => (List.nil_perm.1 h).symm
  | p :: l, [], _, _, h, _ => absurd h.length_eq (by simp)
  | p :: l, q :: m, h1, h2, h3, h4 => by
    obtain ⟨a1, a2⟩ := List.pairwise_cons.1 h1
    obtain ⟨b1, b2⟩ := List.pairwise_cons.1 h2
    have hpq : p = q := by
      have hp : p ∈ q :: m := h3.mem_iff.1 List.mem_cons_self
      have hq : q ∈ p :: l := h3.mem_iff.2 List.mem_cons_self
      rcases List.mem_cons.1 hp with h | hp
      · exact h
      rcases List.mem_cons.1 hq with h | hq
      · exact h.symm
      have e := ltS_total (a1 q hq) (b1 p hp)
      have hn := (List.nodup_cons.1 h4).1
      exact (hn (List.mem_map.2 ⟨q, hq, e⟩)).elim
    subst hpq
    rw [asc_unique a2 b2 (h3.cons_inv) (List.nodup_cons.1 h4).2]

theorem sortP_eq {l m : List GPair} (h : twice l = false) (hp : m.Perm l) (ha : Asc m) : m = sortP l :=
  asc_unique ha (sortP_asc l) (hp.trans (sortP_perm l).symm) ((hp.map (·.1)).nodup_iff.2 (twice_nodup h))

theorem twice_take {l : List GPair} {k : Nat} (hk : k < l.length) (h : (l.take k).any (fun q => decide (q.1 = (pr l k).1)) = true) : twice l = true := by
  induction l generalizing k with
  | nil => simp at hk
  | cons p l ih =>
    cases k with
    | zero => simp at h
    | succ k =>
      have hp : pr (p :: l) (k + 1) = pr l k := rfl
      rw [hp] at h
      simp only [List.take_succ_cons, List.any_cons, Bool.or_eq_true, decide_eq_true_eq] at h
      simp only [twice, Bool.or_eq_true, List.any_eq_true, decide_eq_true_eq]
      simp only [List.length_cons] at hk
      rcases h with h | h
      · left; exact ⟨pr l k, List.mem_of_getElem? (pr_get (by omega)), h.symm⟩
      · right; exact ih (by omega) h
theorem twice_none {l : List GPair} (h : ∀ k, k < l.length → (l.take k).any (fun q => decide (q.1 = (pr l k).1)) = false) : twice l = false := by
  induction l with
  | nil => rfl
  | cons p l ih =>
    simp only [twice, Bool.or_eq_false_iff]
    constructor
    · rw [List.any_eq_false]
      intro q hq
      obtain ⟨j, hj, rfl⟩ := List.mem_iff_getElem.1 hq
      have := h (j + 1) (by simp; omega)
      simp only [List.take_succ_cons, List.any_cons, Bool.or_eq_false_iff] at this
      have e : pr (p :: l) (j + 1) = l[j] := by
        have := pr_get (l := p :: l) (k := j + 1) (by simp; omega)
        simp only [List.getElem?_cons_succ, List.getElem?_eq_getElem hj] at this
        exact (Option.some.inj this).symm
      rw [e] at this
      simp only [decide_eq_true_eq, decide_eq_false_iff_not] at this ⊢
      exact fun e => this.1 e.symm
    · refine ih fun k hk => ?_
      have := h (k + 1) (by simp; omega)
      simp only [List.take_succ_cons, List.any_cons, Bool.or_eq_false_iff] at this
      exact this.2

theorem makeL_of {l : List GPair} {e : Int} (h : wrongE l = e) (he : e ≠ 0) : makeL l = ([], e) := by rw [makeL, h, if_neg he]
theorem makeL_ok {l : List GPair} (h : wrongE l = 0) : makeL l = (sortP l, 0) := by rw [makeL, if_pos h]
def withL (l : List GPair) (n v : Str) : List GPair × Int := makeL (withoutL l n ++ [⟨n, v⟩])
theorem withoutL_len (l : List GPair) (n : Str) : (withoutL l n).length ≤ 16 := Nat.le_trans (List.length_filter_le _ _) (countsL_len l)
def mergeLL (a b : List GPair) : List GPair × Int := makeL ((countsL a).filter (fun p => !(getL (countsL b) p.1).2) ++ countsL b)
def cmpP (p q : GPair) : Int := if cmpS p.1 q.1 ≠ 0 then cmpS p.1 q.1 else cmpS p.2 q.2
def cmpLs : List GPair → List GPair → Int
  | [], [] => 0
  | [], _ :: _ => -1
  | _ :: _, [] => 1
  | p :: a, q :: b => if cmpP p q ≠ 0 then cmpP p q else cmpLs a b
def compareL (a b : List GPair) : Int := cmpLs (countsL a) (countsL b)
def sumW (l : List GPair) : Nat → Int
  | 0 => 0
  | k + 1 => IntKind.i64.wrap (IntKind.i64.wrap (sumW l k + (pr l k).1.length) + (pr l k).2.length)
def fewB (l : List GPair) : Bool := decide (l.length ≤ 40) && decide (sumW l l.length ≤ 3000)
structure Good (l : List GPair) : Prop where
  len : l.length ≤ 16
  short : ∀ p ∈ l, tooLong p = false
  name : ∀ p ∈ l, nameB p.1 = true
  once : twice l = false

theorem wrongE_zero {l : List GPair} : wrongE l = 0 ↔ Good l := by
  unfold wrongE
  constructor
  · intro h
    split at h
    · cases h
    · rename_i h1
      split at h
      · cases h
      · rename_i h2
        split at h
        · rename_i h3
          split at h
          · cases h
          · rename_i h4
            exact ⟨by omega, by simpa using h2, by simpa using h3, by simpa using h4⟩
        · cases h
  · rintro ⟨h1, h2, h3, h4⟩
    rw [if_neg (by omega), if_neg (by simpa using h2), if_pos (by simpa using h3), if_neg (by simp [h4])]

theorem twice_iff {l : List GPair} : twice l = false ↔ (l.map (·.1)).Nodup := by
  constructor
  · exact twice_nodup
  · intro h
    induction l with
    | nil => rfl
    | cons p l ih =>
      obtain ⟨h1, h2⟩ := List.nodup_cons.1 h
      simp only [twice, Bool.or_eq_false_iff, List.any_eq_false, decide_eq_true_eq]
      exact ⟨fun q hq e => h1 (List.mem_map.2 ⟨q, hq, e⟩), ih h2⟩

theorem Good.perm {l m : List GPair} (h : Good l) (hp : m.Perm l) : Good m :=
  ⟨by rw [hp.length_eq]; exact h.len, fun p hm => h.short p (hp.mem_iff.1 hm), fun p hm => h.name p (hp.mem_iff.1 hm),
    twice_iff.2 (((hp.map (·.1)).nodup_iff).2 (twice_iff.1 h.once))⟩

theorem makeL_good {l : List GPair} (h : Good l) : makeL l = (sortP l, 0) := makeL_ok (wrongE_zero.2 h)
theorem makeL_perm {l m : List GPair} (h : Good l) (hp : m.Perm l) : makeL m = (sortP l, 0) := by
  rw [makeL_good (h.perm hp)]
  rw [sortP_eq h.once ((sortP_perm m).trans hp) (sortP_asc m)]
theorem sortP_sorted {l : List GPair} (h : Good l) (ha : Asc l) : sortP l = l := (sortP_eq h.once (.refl l) ha).symm


theorem saneB_iff {l : List GPair} : saneB l = true ↔ l.length ≤ 16 ∧ (∀ p ∈ l, nameB p.1 = true) ∧ (∀ p ∈ l, p.2.length ≤ 64) ∧ l.Pairwise (fun p q => ltS p.1 q.1 = true) := by
  have hpr : ∀ p ∈ l, ∃ i, i < l.length ∧ pr l i = p := by
    intro p hp
    obtain ⟨i, hi, rfl⟩ := List.mem_iff_getElem.1 hp
    have e := pr_get hi
    rw [List.getElem?_eq_getElem hi] at e
    exact ⟨i, hi, (Option.some.inj e).symm⟩
  constructor
  · intro h
    simp only [saneB, Bool.and_eq_true, decide_eq_true_eq, List.all_eq_true, List.mem_range] at h
    obtain ⟨h1, h2⟩ := h
    have h3 : ∀ i, i < l.length → nameB (pr l i).1 = true ∧ (pr l i).2.length ≤ 64 ∧ (i = 0 ∨ ltS (pr l (i - 1)).1 (pr l i).1 = true) := by
      intro i hi
      have := h2 i hi
      simp only [saneAt, Bool.and_eq_true, decide_eq_true_eq, Bool.or_eq_true] at this
      exact ⟨this.1.1, this.1.2, this.2⟩
    refine ⟨h1, ?_, ?_, ?_⟩
    · intro p hp; obtain ⟨i, hi, rfl⟩ := hpr p hp; exact (h3 i hi).1
    · intro p hp; obtain ⟨i, hi, rfl⟩ := hpr p hp; exact (h3 i hi).2.1
    · rw [List.pairwise_iff_getElem]
      have key : ∀ (d i : Nat), i + d + 1 < l.length → ltS (pr l i).1 (pr l (i + d + 1)).1 = true := by
        intro d
        induction d with
        | zero =>
          intro i hi
          rcases (h3 (i + 0 + 1) hi).2.2 with h | h
          · omega
          · simpa using h
        | succ d ih =>
          intro i hi
          have a := ih i (by omega)
          rcases (h3 (i + (d + 1) + 1) hi).2.2 with h | h
          · omega
          · exact ltS_trans a (by simpa [Nat.add_assoc] using h)
      intro i j hi hj hij
      have e1 := pr_get hi
      have e2 := pr_get hj
      rw [List.getElem?_eq_getElem hi] at e1
      rw [List.getElem?_eq_getElem hj] at e2
      rw [Option.some.inj e1, Option.some.inj e2]
      have := key (j - i - 1) i (by omega)
      rwa [show i + (j - i - 1) + 1 = j from by omega] at this
  · rintro ⟨h1, h2, h3, h4⟩
    refine saneB_good h1 fun i hi => ?_
    have hm : pr l i ∈ l := List.mem_of_getElem? (pr_get hi)
    simp only [saneAt, h2 _ hm, h3 _ hm, decide_true, Bool.true_and, Bool.or_eq_true, decide_eq_true_eq]
    rcases Nat.eq_zero_or_pos i with h | h
    · exact .inl h
    · right
      have := List.pairwise_iff_getElem.1 h4 (i - 1) i (by omega) hi (by omega)
      have e1 := pr_get (l := l) (k := i - 1) (by omega)
      have e2 := pr_get hi
      rw [List.getElem?_eq_getElem (by omega)] at e1
      rw [List.getElem?_eq_getElem hi] at e2
      rw [Option.some.inj e1, Option.some.inj e2] at this
      exact this

theorem saneB_good' {l : List GPair} (h : saneB l = true) : Good l ∧ Asc l := by
  obtain ⟨h1, h2, h3, h4⟩ := saneB_iff.1 h
  refine ⟨⟨h1, fun p hp => by have := h3 p hp; simp only [tooLong, decide_eq_false_iff_not]; omega, h2, twice_iff.2 ?_⟩, h4.imp fun h => ltS_asymm h⟩
  rw [List.Nodup, List.pairwise_map]
  exact h4.imp fun {a b} hab he => by rw [he, ltS_irrefl] at hab; cases hab

theorem sane_of_good {l : List GPair} (h : Good l) (ha : Asc l) : saneB l = true := by
  refine saneB_iff.2 ⟨h.len, h.name, fun p hp => by have := h.short p hp; simp only [tooLong, decide_eq_false_iff_not] at this; omega, ?_⟩
  have hn := twice_iff.1 h.once
  rw [List.Nodup, List.pairwise_map] at hn
  refine (ha.and hn).imp ?_
  rintro a b ⟨h1, h2⟩
  cases hc : ltS a.1 b.1
  · exact (h2 (ltS_total hc h1)).elim
  · rfl

theorem getFrom_mem {l : List GPair} (h : (l.map (·.1)).Nodup) {p : GPair} (hp : p ∈ l) : getFrom p.1 l = (p.2, true) := by
  induction l with
  | nil => cases hp
  | cons q l ih =>
    obtain ⟨h1, h2⟩ := List.nodup_cons.1 h
    unfold getFrom
    rcases List.mem_cons.1 hp with rfl | hp
    · rw [if_pos rfl]
    · rw [if_neg (fun e => h1 (List.mem_map.2 ⟨p, hp, e.symm⟩))]
      exact ih h2 hp
theorem getL_mem {l : List GPair} (hs : saneB l = true) {p : GPair} (hp : p ∈ l) : getL l p.1 = (p.2, true) := by
  rw [getL, countsL, if_pos hs]
  exact getFrom_mem (twice_iff.1 (saneB_good' hs).1.once) hp
theorem sane_sortP {l : List GPair} (h : Good l) : saneB (sortP l) = true := sane_of_good (h.perm (sortP_perm l)) (sortP_asc l)
structure Ord3 {α : Type} (f : α → α → Int) : Prop where
  rng : ∀ a b, f a b = -1 ∨ f a b = 0 ∨ f a b = 1
  anti : ∀ a b, f b a = - f a b
  zero : ∀ a b, f a b = 0 ↔ a = b
  trans : ∀ a b c, f a b ≤ 0 → f b c ≤ 0 → f a c ≤ 0

theorem cmpS_ord : Ord3 cmpS := by
  refine ⟨fun a b => ?_, fun a b => ?_, fun a b => ?_, fun a b c => ?_⟩
  · unfold cmpS; split
    · exact .inl rfl
    · split
      · exact .inr (.inr rfl)
      · exact .inr (.inl rfl)
  · unfold cmpS
    cases h : ltS a b
    · cases h2 : ltS b a <;> simp
    · rw [ltS_asymm h]; simp
  · unfold cmpS
    cases h : ltS a b
    · cases h2 : ltS b a
      · simp [ltS_total h h2]
      · simp only [Bool.false_eq_true, if_false, if_true]
        constructor
        · intro h; cases h
        · rintro rfl; rw [ltS_irrefl] at h2; cases h2
    · simp only [if_true]
      constructor
      · intro h; cases h
      · rintro rfl; rw [ltS_irrefl] at h; cases h
  · have key : ∀ a b, cmpS a b ≤ 0 ↔ ltS b a = false := by
      intro a b
      unfold cmpS
      cases h : ltS a b
      · cases h2 : ltS b a <;> simp
      · simp [ltS_asymm h]
    rw [key, key, key]
    intro h1 h2
    exact ltS_ntrans h2 h1

theorem cmpP_ord : Ord3 cmpP := by
  refine ⟨fun a b => ?_, fun a b => ?_, fun a b => ?_, fun a b c => ?_⟩
  · unfold cmpP; split
    · exact cmpS_ord.rng _ _
    · exact cmpS_ord.rng _ _
  · unfold cmpP
    rw [cmpS_ord.anti a.1 b.1, cmpS_ord.anti a.2 b.2]
    by_cases h : cmpS a.1 b.1 = 0
    · simp [h]
    · rw [if_pos (by omega), if_pos h]
  · unfold cmpP
    by_cases h : cmpS a.1 b.1 = 0
    · rw [if_neg (by simp [h]), cmpS_ord.zero]
      rw [cmpS_ord.zero] at h
      exact ⟨fun e => by cases a; cases b; simp only at h e; subst h; subst e; rfl, fun e => by rw [e]⟩
    · rw [if_pos h]
      refine ⟨fun e => absurd e h, fun e => ?_⟩
      subst e
      exact absurd ((cmpS_ord.zero _ _).2 rfl) h
  · unfold cmpP
    intro h1 h2
    have t1 := cmpS_ord.trans a.1 b.1 c.1
    have t2 := cmpS_ord.trans a.2 b.2 c.2
    have u1 := cmpS_ord.trans c.1 b.1 a.1
    have n1 := cmpS_ord.anti a.1 b.1
    have n2 := cmpS_ord.anti b.1 c.1
    have n3 := cmpS_ord.anti a.1 c.1
    split at h1
    · split at h2
      · rename_i g1 g2
        have h3 := t1 h1 h2
        rw [if_pos]
        · exact h3
        · intro h0
          have e := (cmpS_ord.zero a.1 c.1).1 h0
          rw [e] at h1 g1 n1
          omega
      · rename_i g1 g2
        have e : b.1 = c.1 := (cmpS_ord.zero _ _).1 (by omega)
        rw [← e, if_pos g1]; exact h1
    · rename_i g1
      have e : a.1 = b.1 := (cmpS_ord.zero _ _).1 (by omega)
      split at h2
      · rename_i g2
        rw [e, if_pos g2]; exact h2
      · rename_i g2
        rw [e, if_neg g2]
        exact t2 h1 h2

theorem cmpLs_ord : Ord3 cmpLs := by
  refine ⟨fun a b => ?_, fun a b => ?_, fun a b => ?_, fun a b c => ?_⟩
  · induction a generalizing b with
    | nil => cases b <;> simp [cmpLs]
    | cons p a ih =>
      cases b with
      | nil => simp [cmpLs]
      | cons q b =>
        simp only [cmpLs]
        split
        · exact cmpP_ord.rng _ _
        · exact ih b
  · induction a generalizing b with
    | nil => cases b <;> simp [cmpLs]
    | cons p a ih =>
      cases b with
      | nil => simp [cmpLs]
      | cons q b =>
        simp only [cmpLs]
        rw [cmpP_ord.anti p q, ih b]
        by_cases h : cmpP p q = 0
        · simp [h]
        · rw [if_pos (by omega), if_pos h]
  · induction a generalizing b with
    | nil => cases b <;> simp [cmpLs]
    | cons p a ih =>
      cases b with
      | nil => simp [cmpLs]
      | cons q b =>
        simp only [cmpLs]
        by_cases h : cmpP p q = 0
        · rw [if_neg (by simp [h]), ih b]
          rw [cmpP_ord.zero] at h
          subst h; simp
        · rw [if_pos h]
          refine ⟨fun e => absurd e h, fun e => ?_⟩
          simp only [List.cons.injEq] at e
          exact absurd ((cmpP_ord.zero _ _).2 e.1) h
  · induction a generalizing b c with
    | nil => cases b <;> cases c <;> simp [cmpLs]
    | cons p a ih =>
      cases b with
      | nil => simp [cmpLs]
      | cons q b =>
        cases c with
        | nil => simp [cmpLs]
        | cons r c =>
          simp only [cmpLs]
          intro h1 h2
          have t := cmpP_ord.trans p q r
          have n1 := cmpP_ord.anti p q
          have n2 := cmpP_ord.anti q r
          split at h1
          · rename_i g1
            split at h2
            · rename_i g2
              rw [if_pos]
              · exact t h1 h2
              · intro h0
                have e := (cmpP_ord.zero p r).1 h0
                subst e
                omega
            · rename_i g2
              have e : q = r := (cmpP_ord.zero _ _).1 (by omega)
              subst e
              rw [if_pos g1]; exact h1
          · rename_i g1
            have e : p = q := (cmpP_ord.zero _ _).1 (by omega)
            subst e
            split at h2
            · rename_i g2
              rw [if_pos g2]; exact h2
            · rename_i g2
              rw [if_neg g2]
              exact ih b c h1 h2
end Go.Proofs.YtcpjmkbcefmldaaGreatDoor.AM

/- Tools for models. -/
namespace Go.Proofs.YtcpjmkbcefmldaaGreatDoor.AM
open Go

section
variable {α β σ : Type}
@[simp] theorem letE_eq (enc : α → AV) (e : α) (m : α → Option β) : letE enc e m = m e := rfl
@[simp] theorem letO_eq (enc : α → AV) (ob : α → List Obj) (e : α) (m : α → Option β) : letO enc ob e m = m e := rfl
@[simp] theorem retM_eq (x : β) : retM x = some x := rfl
@[simp] theorem tokM_eq (a b c : Nat) (m : Option β) : tokM a b c m = m := rfl
@[simp] theorem shM_eq (a : Nat) (m : Option β) : shM a m = m := rfl
@[simp] theorem unboxM_eq (a : Nat) (m : Option β) : unboxM a m = m := rfl
@[simp] theorem pubbM_eq (a : Nat) (m : Option β) : pubbM a m = m := rfl
@[simp] theorem bs0M_eq (m : Option β) : bs0M m = m := rfl
@[simp] theorem linM_eq (d : Nat) (m : Option β) : linM d m = m := rfl
@[simp] theorem ownM_eq (d : Nat) (m : Option β) : ownM d m = m := rfl
@[simp] theorem regW_eq (d : Nat) (m : Option β) : regW d m = m := rfl
@[simp] theorem permM_eq (d : List (Bool × Nat)) (m : Option β) : permM d m = m := rfl
@[simp] theorem drawM_eq (m : Option β) : drawM m = m := rfl
@[simp] theorem iteM_true (x y : Option β) : iteM true x y = x := rfl
@[simp] theorem iteM_false (x y : Option β) : iteM false x y = y := rfl
theorem iteM_if (b : Bool) (x y : Option β) : iteM b x y = if b = true then x else y := rfl
@[simp] theorem iteM_dec (p : Prop) [Decidable p] (x y : Option β) : iteM (decide p) x y = if p then x else y := by
  unfold iteM; by_cases h : p <;> simp [h]
@[simp] theorem iteM_not (b : Bool) (x y : Option β) : iteM (!b) x y = iteM b y x := by cases b <;> rfl
@[simp] theorem callM_some (enc : α → AV) (ob : α → List Obj) (a : α) (m : α → Option β) : callM enc ob (some a) m = m a := rfl
@[simp] theorem exitM_some (r : β) : exitM (σ := σ) (some r) = some (.inr r) := rfl
@[simp] theorem nextM_eq (x : σ) : nextM (β := β) x = some (.inl x) := rfl
@[simp] theorem joinM_eq (ph : σ → List (Nat × AV)) (ob : σ → List Obj) (rest : σ → Option β) (m : Option (σ ⊕ β)) : joinM ph ob rest m = m.bind (Sum.elim rest some) := rfl
theorem gdM_pos {p : Prop} [Decidable p] (h : p) (m : Option β) : gdM p m = m := if_pos h
theorem idxM_get {l : List α} {i : Nat} {x : α} (h : l[i]? = some x) (m : α → Option β) : idxM l (i : Int) m = m x := by
  unfold idxM; rw [if_pos (by omega), Int.toNat_natCast, h]; rfl
theorem idxM_of {l : List α} {i : Int} {x : α} (h0 : 0 ≤ i) (h : l[i.toNat]? = some x) (m : α → Option β) : idxM l i m = m x := by
  unfold idxM; rw [if_pos h0, h]; rfl
theorem wI_of {x : Int} (h : -9223372036854775808 ≤ x ∧ x ≤ 9223372036854775807) : wI x = x := IntWalk.i64_in x h
theorem loopM_rec {ph : σ → List (Nat × AV)} {ob : σ → List Obj} {step : σ → Option (σ ⊕ β)} (I : σ → Prop) (μ : σ → Nat) (F : σ → β)
    (h : ∀ s, I s → step s = some (.inr (F s)) ∨ ∃ s', step s = some (.inl s') ∧ I s' ∧ μ s' < μ s ∧ F s' = F s) {s : σ} (hs : I s) : loopM ph ob step s = some (F s) := iter_rec I μ F h s hs
theorem loopM_nat {ph : Int → List (Nat × AV)} {ob : Int → List Obj} {step : Int → Option (Int ⊕ β)} (n : Nat) (F : Nat → β)
    (h1 : ∀ i, i < n → step (i : Int) = some (.inr (F i)) ∨ (step (i : Int) = some (.inl ((i + 1 : Nat) : Int)) ∧ F (i + 1) = F i)) (h2 : step (n : Int) = some (.inr (F n))) : loopM ph ob step 0 = some (F 0) := by
  have := loopM_rec (ph := ph) (ob := ob) (step := step) (fun i : Int => 0 ≤ i ∧ i ≤ n) (fun i => (n - i).toNat) (fun i => F i.toNat) (by
    rintro i ⟨h0, hn⟩
    obtain ⟨k, rfl⟩ := Int.eq_ofNat_of_zero_le h0
    rcases Nat.lt_or_ge k n with hk | hk
    · rcases h1 k hk with h | ⟨h, he⟩
      · exact .inl (by simpa using h)
      · exact .inr ⟨_, h, ⟨by omega, by omega⟩, by omega, by simp only [Int.toNat_natCast]; exact he⟩
    · have : k = n := by omega
      subst this
      exact .inl (by simpa using h2)) (s := 0) ⟨by omega, by omega⟩
  simpa using this
theorem loopM_natJ {ph : Int → List (Nat × AV)} {ob : Int → List Obj} {step : Int → Option (Int ⊕ β)} (n : Nat) (J : Nat → Prop) (F : Nat → β)
    (h1 : ∀ i, i < n → J i → step (i : Int) = some (.inr (F i)) ∨ (step (i : Int) = some (.inl ((i + 1 : Nat) : Int)) ∧ J (i + 1) ∧ F (i + 1) = F i)) (h2 : J n → step (n : Int) = some (.inr (F n))) (h0 : J 0) : loopM ph ob step 0 = some (F 0) := by
  have := loopM_rec (ph := ph) (ob := ob) (step := step) (fun i : Int => (0 ≤ i ∧ i ≤ n) ∧ J i.toNat) (fun i => (n - i).toNat) (fun i => F i.toNat) (by
    rintro i ⟨⟨h0, hn⟩, hj⟩
    obtain ⟨k, rfl⟩ := Int.eq_ofNat_of_zero_le h0
    simp only [Int.toNat_natCast] at hj
    rcases Nat.lt_or_ge k n with hk | hk
    · rcases h1 k hk hj with h | ⟨h, hj', he⟩
      · exact .inl (by simpa using h)
      · exact .inr ⟨_, h, ⟨⟨by omega, by omega⟩, by simpa using hj'⟩, by omega, by simp only [Int.toNat_natCast]; exact he⟩
    · have : k = n := by omega
      subst this
      exact .inl (by simpa using h2 hj)) (s := 0) ⟨⟨by omega, by omega⟩, by simpa using h0⟩
  simpa using this
theorem loopM_natA {A : Type} {ph : Int × A → List (Nat × AV)} {ob : Int × A → List Obj} {step : Int × A → Option (Int × A ⊕ β)} (n : Nat) (J : Nat → A → Prop) (F : Nat → A → β)
    (h1 : ∀ i a, i < n → J i a → step ((i : Int), a) = some (.inr (F i a)) ∨ ∃ a', step ((i : Int), a) = some (.inl (((i + 1 : Nat) : Int), a')) ∧ J (i + 1) a' ∧ F (i + 1) a' = F i a) (h2 : ∀ a, J n a → step ((n : Int), a) = some (.inr (F n a))) {a : A} (h0 : J 0 a) : loopM ph ob step (0, a) = some (F 0 a) := by
  have := loopM_rec (ph := ph) (ob := ob) (step := step) (fun s : Int × A => (0 ≤ s.1 ∧ s.1 ≤ n) ∧ J s.1.toNat s.2) (fun s => (n - s.1).toNat) (fun s => F s.1.toNat s.2) (by
    rintro ⟨i, a⟩ ⟨⟨h0, hn⟩, hj⟩
    simp only at h0 hn hj
    obtain ⟨k, rfl⟩ := Int.eq_ofNat_of_zero_le h0
    simp only [Int.toNat_natCast] at hj ⊢
    rcases Nat.lt_or_ge k n with hk | hk
    · rcases h1 k a hk hj with h | ⟨a', h, hj', he⟩
      · exact .inl h
      · exact .inr ⟨_, h, ⟨⟨by simp only; omega, by simp only; omega⟩, by simpa using hj'⟩, by simp only; omega, by simpa using he⟩
    · have : k = n := by omega
      subst this
      exact .inl (h2 a hj)) (s := (0, a)) ⟨⟨by simp, by simp⟩, by simpa using h0⟩
  simpa using this
theorem loopM_natB {A : Type} {ph : A × Int → List (Nat × AV)} {ob : A × Int → List Obj} {step : A × Int → Option (A × Int ⊕ β)} (n : Nat) (J : Nat → A → Prop) (F : Nat → A → β)
    (h1 : ∀ i a, i < n → J i a → step (a, (i : Int)) = some (.inr (F i a)) ∨ ∃ a', step (a, (i : Int)) = some (.inl (a', ((i + 1 : Nat) : Int))) ∧ J (i + 1) a' ∧ F (i + 1) a' = F i a) (h2 : ∀ a, J n a → step (a, (n : Int)) = some (.inr (F n a))) {a : A} (h0 : J 0 a) : loopM ph ob step (a, 0) = some (F 0 a) := by
  have := loopM_rec (ph := ph) (ob := ob) (step := step) (fun s : A × Int => (0 ≤ s.2 ∧ s.2 ≤ n) ∧ J s.2.toNat s.1) (fun s => (n - s.2).toNat) (fun s => F s.2.toNat s.1) (by
    rintro ⟨a, i⟩ ⟨⟨h0, hn⟩, hj⟩
    simp only at h0 hn hj
    obtain ⟨k, rfl⟩ := Int.eq_ofNat_of_zero_le h0
    simp only [Int.toNat_natCast] at hj ⊢
    rcases Nat.lt_or_ge k n with hk | hk
    · rcases h1 k a hk hj with h | ⟨a', h, hj', he⟩
      · exact .inl h
      · exact .inr ⟨_, h, ⟨⟨by simp only; omega, by simp only; omega⟩, by simpa using hj'⟩, by simp only; omega, by simpa using he⟩
    · have : k = n := by omega
      subst this
      exact .inl (h2 a hj)) (s := (a, 0)) ⟨⟨by simp, by simp⟩, by simpa using h0⟩
  simpa using this
end
end Go.Proofs.YtcpjmkbcefmldaaGreatDoor.AM

/- The models of package label, told in plain words: names, what is sane, got, taken away. -/
namespace Go.Proofs.YtcpjmkbcefmldaaGreatDoor.AM
open Go

theorem str_get {s : Str} {k : Nat} (h : k < s.length) : s[k]? = some (s.getD k 0) := by
  rw [List.getD_eq_getElem?_getD, List.getElem?_eq_getElem h]; rfl
theorem bif_or (a b : Bool) : (bif a then true else b) = (a || b) := by cases a <;> rfl
theorem bif_and (a b : Bool) : (bif a then b else false) = (a && b) := by cases a <;> rfl

theorem label_Name_eq (s : Str) : label_Name s = some (nameB s) := by
  unfold label_Name
  simp only [letE_eq, bif_or, bif_and]
  by_cases h : s.length < 1 ∨ 64 < s.length
  · rw [show (decide ((s.length : Int) < 1) || decide ((64 : Int) < s.length)) = true from by simp; omega]
    simp [nameB_len h]
  · rw [show (decide ((s.length : Int) < 1) || decide ((64 : Int) < s.length)) = false from by simp; omega]
    simp only [iteM_false]
    refine (loopM_nat s.length (fun i => (List.range s.length).all fun j => decide (j < i) || okAt s j) ?_ ?_).trans ?_
    rotate_right
    · congr 1
      rw [nameB, decide_eq_true (show 1 ≤ s.length by omega), decide_eq_true (show s.length ≤ 64 by omega)]
      simp
    · intro i hi
      simp only [iteM_dec, idxM_get (str_get hi)]
      rw [if_pos (by omega)]
      have e : ((!((decide ((97 : Int) ≤ ((s.getD i 0).toNat : Int)) && decide (((s.getD i 0).toNat : Int) ≤ 122) || (decide ((65 : Int) ≤ ((s.getD i 0).toNat : Int)) && decide (((s.getD i 0).toNat : Int) ≤ 90))) || decide (((s.getD i 0).toNat : Int) = 95))) && ((!(decide ((48 : Int) ≤ ((s.getD i 0).toNat : Int)) && decide (((s.getD i 0).toNat : Int) ≤ 57))) || decide ((i : Int) = 0))) = !okAt s i := by
        simp only [okAt, letterI, digitI]
        rw [show decide ((i : Int) = 0) = !decide (i ≠ 0) from by by_cases h : i = 0 <;> simp [h]]
        simp [Bool.not_or, Bool.not_and]
      rw [e, iteM_not]
      cases ho : okAt s i
      · left
        simp only [iteM_false, retM_eq, exitM_some, Option.some.injEq, Sum.inr.injEq]
        symm
        rw [List.all_eq_false]
        exact ⟨i, List.mem_range.2 hi, by simp [ho]⟩
      · right
        rw [wI_of (by omega)]
        refine ⟨by simp, ?_⟩
        congr 1
        funext j
        by_cases hj : j = i
        · subst hj; simp [ho]
        · rw [show decide (j < i + 1) = decide (j < i) from by rw [decide_eq_decide]; omega]
    · simp only [iteM_dec]
      rw [if_neg (by omega)]
      simp only [retM_eq, exitM_some, Option.some.injEq, Sum.inr.injEq]
      symm
      rw [List.all_eq_true]
      intro j hj
      rw [List.mem_range] at hj
      simp [hj]

theorem all_lt {n : Nat} {f : Nat → Bool} {i : Nat} (h : f i = true) : ((List.range n).all fun j => decide (j < i + 1) || f j) = ((List.range n).all fun j => decide (j < i) || f j) := by
  congr 1
  funext j
  by_cases hj : j = i
  · subst hj; simp [h]
  · rw [show decide (j < i + 1) = decide (j < i) from by rw [decide_eq_decide]; omega]
theorem all_bad {n : Nat} {f : Nat → Bool} {i : Nat} (hi : i < n) (h : f i = false) : ((List.range n).all fun j => decide (j < i) || f j) = false := by
  rw [List.all_eq_false]; exact ⟨i, List.mem_range.2 hi, by simp [h]⟩
theorem all_end {n : Nat} {f : Nat → Bool} : ((List.range n).all fun j => decide (j < n) || f j) = true := by
  rw [List.all_eq_true]; intro j hj; rw [List.mem_range] at hj; simp [hj]
theorem all_zero {n : Nat} {f : Nat → Bool} : ((List.range n).all fun j => decide (j < 0) || f j) = (List.range n).all f := by simp

theorem label_Sane_eq (l : List GPair) : label_Sane l = some (saneB l) := by
  unfold label_Sane
  simp only [letE_eq, iteM_dec]
  by_cases h : 16 < l.length
  · rw [if_pos (by omega), saneB_len h]; rfl
  · rw [if_neg (by omega)]
    refine (loopM_nat l.length (fun i => (List.range l.length).all fun j => decide (j < i) || saneAt l j) ?_ ?_).trans ?_
    rotate_right
    · rw [all_zero, saneB, decide_eq_true (by omega)]; rfl
    · intro i hi
      simp only [iteM_dec, idxM_get (pr_get hi), label_Name_eq, callM_some, iteM_not]
      rw [if_pos (by omega)]
      cases h1 : nameB (pr l i).1
      · left; simp [all_bad hi (show saneAt l i = false by simp [saneAt, h1])]
      · simp only [iteM_true]
        by_cases h2 : 64 < (pr l i).2.length
        · left; rw [if_pos (by omega)]
          simp [all_bad hi (show saneAt l i = false by simp [saneAt, h1]; omega)]
        · rw [if_neg (by omega)]
          by_cases h3 : i = 0
          · subst h3
            right
            rw [if_neg (by omega), wI_of (by omega)]
            exact ⟨by simp, all_lt (by simp [saneAt, h1]; omega)⟩
          · rw [if_pos (by omega), wI_of (by omega), idxM_of (x := pr l (i - 1)) (by omega) (by rw [show ((i : Int) - 1).toNat = i - 1 from by omega]; exact pr_get (by omega))]
            cases h4 : ltS (pr l (i - 1)).1 (pr l i).1
            · left; simp [all_bad hi (show saneAt l i = false by simp [saneAt, h1, h3, h4]), h4]
            · right
              rw [wI_of (by omega)]
              exact ⟨by simp, all_lt (by simp [saneAt, h1, h3, h4]; omega)⟩
    · rw [if_neg (by omega)]
      simp [all_end]

theorem label_counts_eq (l : List GPair) : label_counts l = some (countsL l) := by
  unfold label_counts countsL
  rw [label_Sane_eq, callM_some]
  cases saneB l <;> rfl

theorem label_Get_eq (l : List GPair) (n : Str) : label_Get l n = some (getL l n) := by
  unfold label_Get
  rw [label_counts_eq, callM_some]
  simp only [letE_eq]
  have hl := countsL_len l
  unfold getL
  generalize countsL l = m at *
  refine (loopM_nat m.length (fun i => getFrom n (m.drop i)) ?_ ?_).trans (by simp)
  · intro i hi
    simp only [iteM_dec, idxM_get (pr_get hi)]
    rw [if_pos (by omega), drop_pr hi]
    by_cases hn : (pr m i).1 = n
    · left; rw [if_pos hn]; simp [getFrom, hn]
    · right; rw [if_neg hn, wI_of (by omega)]; exact ⟨by simp, by simp [getFrom, hn]⟩
  · simp only [iteM_dec]
    rw [if_neg (by omega)]
    simp [getFrom]

theorem label_Without_eq (l : List GPair) (n : Str) : label_Without l n = some (withoutL l n) := by
  unfold label_Without
  rw [label_counts_eq, callM_some]
  simp only [letE_eq, tokM_eq]
  have hl := countsL_len l
  unfold withoutL
  generalize countsL l = m at *
  refine (loopM_natA m.length (fun i a => a.length ≤ i) (fun i a => a ++ (m.drop i).filter fun p => !decide (p.1 = n)) ?_ ?_ (Nat.le_refl _)).trans (by simp)
  · intro i a hi ha
    right
    simp only [iteM_dec, idxM_get (pr_get hi), iteM_not, letO_eq]
    rw [if_pos (by omega), drop_pr hi]
    by_cases hn : (pr m i).1 = n
    · rw [if_pos hn, wI_of (by omega)]
      exact ⟨a, by simp, by omega, by simp [hn]⟩
    · rw [if_neg hn, gdM_pos (by simp; omega), wI_of (by omega)]
      exact ⟨a ++ [pr m i], by simp, by simp; omega, by simp [hn]⟩
  · intro a ha
    simp only [iteM_dec]
    rw [if_neg (by omega)]
    simp
end Go.Proofs.YtcpjmkbcefmldaaGreatDoor.AM

/- The models of package label: made, with, merged, compared; the same, few. -/
namespace Go.Proofs.YtcpjmkbcefmldaaGreatDoor.AM
open Go

theorem cmp_eq (a b : Str) : cmp_Compare_string a b = some (cmpS a b) := by
  unfold cmp_Compare_string cmp_isNaN_string cmpS
  simp only [letE_eq, retM_eq, decide_true, Bool.not_true, callM_some, iteM_false, iteM_if, Bool.false_eq_true, if_false]
  split
  · rfl
  · split <;> rfl
theorem label_Make_1_eq (p q : GPair) : label_Make_1 p q = some (cmpS p.1 q.1) := by
  unfold label_Make_1; rw [cmp_eq]; rfl
theorem clone_eq (l : List GPair) (h : l.length ≤ 1000) : slices_Clone_Pair_Pair l = some l := by
  unfold slices_Clone_Pair_Pair
  simp only [letO_eq, retM_eq, List.nil_append, bs0M_eq]
  rw [gdM_pos (by simp; omega)]
  unfold nilM
  rw [if_pos (by rintro rfl; rfl)]

def seenM (l : List GPair) : List (Str × Bool) := l.map fun p => (p.1, true)
theorem mlk_seen (n : Str) : ∀ l : List GPair, (mlk (seenM l) n).getD false = l.any (fun q => decide (q.1 = n))
  | [] => rfl
  | p :: l => by
    have ih := mlk_seen n l
    simp only [seenM, List.map_cons, mlk, List.any_cons] at ih ⊢
    by_cases h : n = p.1
    · simp [h]
    · have e : decide (p.Name = n) = false := by simp; exact fun e => h e.symm
      rw [if_neg h, ih, e, Bool.false_or]
theorem mst_seen {p : GPair} : ∀ {l : List GPair}, l.any (fun q => decide (q.1 = p.1)) = false → mst (seenM l) p.1 true = seenM (l ++ [p])
  | [], _ => rfl
  | q :: l, h => by
    simp only [List.any_cons, Bool.or_eq_false_iff, decide_eq_false_iff_not] at h
    have ih := mst_seen (p := p) h.2
    simp only [seenM, List.map_cons, mst, List.cons_append] at ih ⊢
    rw [if_neg (fun e => h.1 e.symm), ih]

theorem label_Make_eq (l : List GPair) : label_Make l = some (makeL l) := by
  unfold label_Make
  simp only [letE_eq, iteM_dec]
  by_cases h16 : 16 < l.length
  · rw [if_pos (by omega), makeL_of (e := 4) (by rw [wrongE, if_pos h16]) (by decide)]; rfl
  rw [if_neg (by omega)]
  -- what follows, each loop by what is known
  have fin : ∀ (i : Nat), i ≤ l.length → True := fun _ _ => trivial
  refine (loopM_nat l.length (fun i => if (l.drop i).any tooLong then ([], 4) else if l.all (fun p => nameB p.1) then (if twice l then ([], 6) else (sortP l, 0)) else ([], 7)) ?_ ?_).trans ?_
  · intro i hi
    simp only [iteM_dec, idxM_get (pr_get hi)]
    rw [if_pos (by omega), drop_pr hi]
    by_cases ht : 64 < (pr l i).2.length
    · left; rw [if_pos (by omega)]; simp [tooLong, ht]
    · right; rw [if_neg (by omega), wI_of (by omega)]
      refine ⟨by simp, ?_⟩
      have : tooLong (pr l i) = false := by simp only [tooLong, decide_eq_false_iff_not]; omega
      simp [this]
  · try simp only [iteM_dec]
    rw [if_neg (by omega)]
    simp only [List.drop_length, List.any_nil, Bool.false_eq_true, if_false]
    rw [loopM_nat l.length (fun i => if (l.drop i).all (fun p => nameB p.1) then (if twice l then ([], 6) else (sortP l, 0)) else ([], 7)) ?_ ?_]
    · rfl
    · intro i hi
      simp only [iteM_dec, idxM_get (pr_get hi), label_Name_eq, callM_some, iteM_not]
      rw [if_pos (by omega), drop_pr hi]
      cases hn : nameB (pr l i).1
      · left; simp [hn]
      · right; rw [wI_of (by omega)]
        exact ⟨by simp, by simp [hn]⟩
    · try simp only [iteM_dec]
      rw [if_neg (by omega)]
      simp only [List.drop_length, List.all_nil, if_true, letO_eq]
      rw [loopM_natB l.length (fun i m => m = seenM (l.take i) ∧ ∀ j, j < i → (l.take j).any (fun q => decide (q.1 = (pr l j).1)) = false) (fun _ _ => if twice l then ([], 6) else (sortP l, 0)) ?_ ?_ ⟨by simp [seenM], fun j hj => by omega⟩]
      · rfl
      · rintro i m hi ⟨rfl, hj⟩
        simp only [iteM_dec, idxM_get (pr_get hi), letO_eq, mlk_seen]
        rw [if_pos (by omega)]
        cases hs : (l.take i).any (fun q => decide (q.1 = (pr l i).1))
        · right
          rw [wI_of (by omega), iteM_false, mst_seen hs, ← take_pr hi]
          refine ⟨_, by simp, ⟨rfl, fun j hj' => ?_⟩, trivial⟩
          by_cases e : j = i
          · subst e; exact hs
          · exact hj j (by omega)
        · left
          rw [twice_take hi hs]
          rfl
      · rintro m ⟨rfl, hj⟩
        simp only [iteM_dec, unboxM_eq, pubbM_eq]
        rw [if_neg (by omega), clone_eq l (by omega), callM_some]
        have htw : twice l = false := twice_none hj
        rw [sortM_eq (y := (sortP l, 0)) (fun p q => cmpS p.1 q.1) ⟨fun p _ q _ => label_Make_1_eq p q, fun p _ => by rw [cmpS_neg, ltS_irrefl]; simp, fun p _ q _ r _ h1 h2 => by rw [cmpS_neg] at *; exact ltS_trans h1 h2, fun p _ q _ r _ h1 h2 => by rw [cmpS_neg] at *; rw [Bool.not_eq_true] at *; exact ltS_ntrans h1 h2, by omega⟩ ?_]
        · simp [htw]
        · intro l' hp hs
          rw [sortP_eq htw hp (hs.imp fun {a b} hab => by rw [cmpS_neg] at hab; simpa using hab)]
          rfl
  · simp only [List.drop_zero, makeL, wrongE, h16, if_false, Option.some.injEq]
    split
    · rfl
    · split
      · split <;> simp
      · simp

theorem label_With_eq (l : List GPair) (n v : Str) : label_With l n v = some (withL l n v) := by
  unfold label_With
  have h := withoutL_len l n
  rw [label_Without_eq, callM_some]
  simp only [letE_eq, letO_eq]
  rw [gdM_pos (by simp; omega), label_Make_eq, callM_some]
  rfl

theorem label_Merge_eq (a b : List GPair) : label_Merge a b = some (mergeLL a b) := by
  unfold label_Merge
  rw [label_counts_eq, callM_some, label_counts_eq, callM_some]
  have hl := countsL_len a
  have hlb := countsL_len b
  simp only [letE_eq, tokM_eq]
  unfold mergeLL
  have hcc : ∀ n, label_Get (countsL b) n = some (getL (countsL b) n) := fun n => label_Get_eq _ _
  generalize countsL a = m at *
  generalize countsL b = c at *
  refine (loopM_natA m.length (fun i r => r.length ≤ i) (fun i r => makeL ((r ++ (m.drop i).filter fun p => !(getL c p.1).2) ++ c)) ?_ ?_ (Nat.le_refl _)).trans (by simp)
  · intro i r hi hr
    right
    simp only [iteM_dec, idxM_get (pr_get hi), iteM_not, letO_eq, hcc, callM_some]
    rw [if_pos (by omega), drop_pr hi]
    cases hg : (getL c (pr m i).1).2
    · rw [iteM_false, gdM_pos (by simp; omega), wI_of (by omega)]
      exact ⟨r ++ [pr m i], by simp, by simp; omega, by simp [hg]⟩
    · rw [iteM_true, wI_of (by omega)]
      exact ⟨r, by simp, by omega, by simp [hg]⟩
  · intro r hr
    simp only [iteM_dec, letO_eq]
    rw [if_neg (by omega), gdM_pos (by omega), label_Make_eq, callM_some]
    simp

theorem cmp_Or_eq (a b : Int) : cmp_Or_int [a, b] = some (if a ≠ 0 then a else b) := by
  unfold cmp_Or_int
  simp only [letE_eq]
  refine (loopM_nat 2 (fun i => if i = 0 then (if a ≠ 0 then a else b) else if i = 1 then b else 0) ?_ ?_).trans (by simp)
  · intro i hi
    have h2 : i = 0 ∨ i = 1 := by omega
    rcases h2 with rfl | rfl
    · simp only [iteM_dec, iteM_not, idxM_get (show ([a, b] : List Int)[0]? = some a from rfl)]
      by_cases h : a = 0
      · right; simp [h, wI_of]
      · left; simp [h]
    · simp only [iteM_dec, iteM_not, idxM_get (show ([a, b] : List Int)[1]? = some b from rfl)]
      by_cases h : b = 0
      · right; simp [h, wI_of]
      · left; simp [h]
  · simp
theorem label_Compare_1_eq (p q : GPair) : label_Compare_1 p q = some (cmpP p q) := by
  unfold label_Compare_1
  simp only [drawM_eq, letE_eq]
  rw [cmp_eq, callM_some, cmp_eq, callM_some, cmp_Or_eq, callM_some]
  rfl
theorem cmpf_eq (a b : List GPair) (ha : a.length ≤ 16) (hb : b.length ≤ 16) : slices_CompareFunc_Pair_Pair_Pair_Pair_label_Compare_1 a b = some (cmpLs a b) := by
  unfold slices_CompareFunc_Pair_Pair_Pair_Pair_label_Compare_1
  simp only [letE_eq]
  refine (loopM_nat a.length (fun i => cmpLs (a.drop i) (b.drop i)) ?_ ?_).trans (by simp)
  · intro i hi
    simp only [iteM_dec, iteM_not, idxM_get (pr_get hi), label_Compare_1_eq, callM_some]
    rw [if_pos (by omega), drop_pr hi]
    by_cases hib : b.length ≤ i
    · left; rw [if_pos (by omega), List.drop_eq_nil_of_le hib]; simp [cmpLs]
    · rw [if_neg (by omega), idxM_get (pr_get (l := b) (by omega)), drop_pr (l := b) (by omega)]
      try simp only [iteM_dec]
      by_cases hc : cmpP (pr a i) (pr b i) = 0
      · right; rw [if_pos hc, wI_of (by omega)]; exact ⟨by simp, by simp [cmpLs, hc]⟩
      · left; rw [if_neg hc]; simp [cmpLs, hc]
  · try simp only [iteM_dec]
    rw [if_neg (by omega), List.drop_length]
    by_cases h : a.length < b.length
    · rw [if_pos (by omega), drop_pr (l := b) h]; simp [cmpLs]
    · rw [if_neg (by omega), List.drop_eq_nil_of_le (by omega)]; simp [cmpLs]
theorem label_Compare_eq (a b : List GPair) : label_Compare a b = some (compareL a b) := by
  unfold label_Compare
  rw [label_counts_eq, callM_some, label_counts_eq, callM_some, cmpf_eq _ _ (countsL_len _) (countsL_len _), callM_some]
  rfl

theorem ref03_Same_eq (a b : List GPair) (h : a.length ≤ 9223372036854775807) : ref03_Same a b = some (decide (a = b)) := by
  unfold ref03_Same
  simp only [letE_eq, iteM_not, iteM_dec]
  by_cases hl : a.length = b.length
  · rw [if_pos (by omega)]
    refine (loopM_nat a.length (fun i => decide (a.drop i = b.drop i)) ?_ ?_).trans (by simp)
    · intro i hi
      simp only [iteM_dec, idxM_get (pr_get hi), iteM_not]
      rw [if_pos (by omega), idxM_get (pr_get (l := b) (by omega)), drop_pr hi, drop_pr (l := b) (by omega)]
      by_cases e : pr a i = pr b i
      · right
        rw [e]
        rw [wI_of (by omega)]
        exact ⟨by simp, by simp⟩
      · left
        rw [show (decide ((pr a i).Name = (pr b i).Name) && (decide ((pr a i).Value = (pr b i).Value) && true)) = false from by
          rw [Bool.eq_false_iff]; intro h; simp at h; exact e (by cases hp : pr a i; cases hq : pr b i; rw [hp, hq] at h; simp at h; simp [h])]
        simp [e]
    · try simp only [iteM_dec]
      rw [if_neg (by omega)]
      simp [hl]
  · rw [if_neg (by omega)]
    have : a ≠ b := by rintro rfl; exact hl rfl
    simp [this]

theorem ref03_Few_eq (l : List GPair) (h : l.length ≤ 9223372036854775807) : ref03_Few l = some (fewB l) := by
  unfold ref03_Few
  simp only [letE_eq]
  refine (loopM_natB l.length (fun i a => a = sumW l i) (fun _ _ => fewB l) ?_ ?_ rfl).trans rfl
  · rintro i a hi rfl
    right
    simp only [iteM_dec, idxM_get (pr_get hi)]
    rw [if_pos (by omega), wI_of (x := (i : Int) + 1) (by omega)]
    exact ⟨_, by simp; rfl, rfl, trivial⟩
  · rintro a rfl
    simp only [iteM_dec, bif_and]
    rw [if_neg (by omega), fewB, show decide ((l.length : Int) ≤ 40) = decide (l.length ≤ 40) from by rw [decide_eq_decide]; omega]
    rfl
end Go.Proofs.YtcpjmkbcefmldaaGreatDoor.AM

/- Keys of labels. -/
namespace Go.Proofs.YtcpjmkbcefmldaaGreatDoor.AM
open Go

def itoa (n : Nat) : Str := if n < 10 then [UInt8.ofNat (48 + n)] else [UInt8.ofNat (48 + n / 10), UInt8.ofNat (48 + n % 10)]
set_option maxRecDepth 100000 in
theorem itoa_all : (List.range 100).all (fun n => decide (strconv_Itoa1 (n : Int) = some (itoa n))) = true := by kernel_rfl
theorem itoa_eq {n : Nat} (h : n < 100) : strconv_Itoa1 (n : Int) = some (itoa n) := by
  have := List.all_eq_true.1 itoa_all n (List.mem_range.2 h)
  simpa using this
def part (s : Str) : Str := itoa s.length ++ ([32] ++ s)
def keyS : List GPair → Str
  | [] => []
  | p :: l => part p.Name ++ (part p.Value ++ keyS l)
theorem octs_append (a b : Str) : octs (a ++ b) = octs a ++ octs b := by simp [octs]

set_option maxRecDepth 100000 in
theorem itoa_nosp : (List.range 100).all (fun n => (itoa n).all fun b => b != 32) = true := by kernel_rfl
set_option maxRecDepth 100000 in
theorem itoa_injB : (List.range 100).all (fun n => (List.range 100).all fun m => decide (itoa n = itoa m → n = m)) = true := by kernel_rfl
theorem itoa_inj {n m : Nat} (hn : n < 100) (hm : m < 100) (h : itoa n = itoa m) : n = m := by
  have := List.all_eq_true.1 (List.all_eq_true.1 itoa_injB n (List.mem_range.2 hn)) m (List.mem_range.2 hm)
  exact (of_decide_eq_true this) h
theorem split_sp : ∀ {a b u v : Str}, (∀ x ∈ a, x ≠ 32) → (∀ x ∈ b, x ≠ 32) → a ++ 32 :: u = b ++ 32 :: v → a = b ∧ u = v
  | [], [], u, v, _, _, h => by simpa using h
  | [], y :: b, u, v, _, hb, h => by
    simp only [List.nil_append, List.cons_append, List.cons.injEq] at h
    exact absurd h.1.symm (hb y (by simp))
  | x :: a, [], u, v, ha, _, h => by
    simp only [List.nil_append, List.cons_append, List.cons.injEq] at h
    exact absurd h.1 (ha x (by simp))
  | x :: a, y :: b, u, v, ha, hb, h => by
    simp only [List.cons_append, List.cons.injEq] at h
    obtain ⟨e1, e2⟩ := split_sp (fun z hz => ha z (by simp [hz])) (fun z hz => hb z (by simp [hz])) h.2
    exact ⟨by rw [h.1, e1], e2⟩
theorem nosp {n : Nat} (h : n < 100) : ∀ x ∈ itoa n, x ≠ 32 := by
  have := List.all_eq_true.1 itoa_nosp n (List.mem_range.2 h)
  intro x hx
  have := List.all_eq_true.1 this x hx
  simpa using this
theorem part_inj {s t u v : Str} (hs : s.length < 100) (ht : t.length < 100) (h : part s ++ u = part t ++ v) : s = t ∧ u = v := by
  simp only [part, List.append_assoc, List.cons_append, List.nil_append] at h
  obtain ⟨e1, e2⟩ := split_sp (nosp hs) (nosp ht) h
  have e3 := itoa_inj hs ht e1
  exact List.append_inj e2 e3
theorem part_ne {s u : Str} : part s ++ u ≠ [] := by simp [part]
def Shorts (l : List GPair) : Prop := ∀ p ∈ l, p.Name.length < 100 ∧ p.Value.length < 100
theorem keyS_inj : ∀ {a b : List GPair}, Shorts a → Shorts b → keyS a = keyS b → a = b
  | [], [], _, _, _ => rfl
  | [], q :: b, _, _, h => absurd h.symm part_ne
  | p :: a, [], _, _, h => absurd h part_ne
  | p :: a, q :: b, ha, hb, h => by
    simp only [keyS] at h
    obtain ⟨e1, e2⟩ := part_inj (ha p (by simp)).1 (hb q (by simp)).1 h
    obtain ⟨e3, e4⟩ := part_inj (ha p (by simp)).2 (hb q (by simp)).2 e2
    have e5 := keyS_inj (fun x hx => ha x (by simp [hx])) (fun x hx => hb x (by simp [hx])) e4
    obtain ⟨n, v⟩ := p
    obtain ⟨n', v'⟩ := q
    simp only at e1 e3
    rw [e1, e3, e5]
theorem saneB_shorts {l : List GPair} (h : saneB l = true) : Shorts l := by
  obtain ⟨_, h2, h3, _⟩ := saneB_iff.1 h
  intro p hp
  have a := h2 p hp
  have b := h3 p hp
  constructor
  · by_cases hl : 64 < p.1.length
    · rw [nameB_len (.inr hl)] at a; cases a
    · show p.1.length < 100
      omega
  · show p.2.length < 100
    omega
theorem bldCheck_eq (l : List Int) : bldCheck l = some () := by rfl
end Go.Proofs.YtcpjmkbcefmldaaGreatDoor.AM

/- Keys: the model. -/
namespace Go.Proofs.YtcpjmkbcefmldaaGreatDoor.AM
open Go

@[simp] theorem callO_some {α β : Type} (ks : List Nat) (w : List Obj) (enc : α → AV) (ob : α → List Obj) (a : α) (m : α → Option β) : callO ks w enc ob (some a) m = m a := rfl
@[simp] theorem bldM_eq {β : Type} (b : Nat) (m : Option β) : bldM b m = m := rfl
@[simp] theorem tailM_eq {β : Type} (b : Nat) (m : Option β) : tailM b m = m := rfl
@[simp] theorem tailA_eq {β : Type} (a b c : Nat) (m : Option β) : tailA a b c m = m := rfl
theorem ws_eq (s : Str) (a : List Int) (h : a.length + s.length ≤ 100000) : strings_Builder_WriteString_o s a = some ((s.length : Int), (), a ++ octs s) := by
  unfold strings_Builder_WriteString_o
  rw [bldCheck_eq, callO_some, gdM_pos (by rw [octs_length]; omega)]
  rfl
theorem wb_eq (c : Int) (a : List Int) (h : a.length ≤ 100000) : strings_Builder_WriteByte_o c a = some ((), a ++ [c]) := by
  unfold strings_Builder_WriteByte_o
  rw [bldCheck_eq, callO_some, letE_eq, gdM_pos (by simp; omega)]
  rfl
theorem itoa_len (n : Nat) : (itoa n).length ≤ 2 := by unfold itoa; split <;> simp
theorem part_len (s : Str) : (part s).length ≤ s.length + 3 := by
  have := itoa_len s.length
  simp only [part, List.length_append, List.length_cons, List.length_nil]; omega
theorem keyS_len {l : List GPair} (h : Shorts l) : (keyS l).length ≤ 206 * l.length := by
  induction l with
  | nil => simp [keyS]
  | cons p l ih =>
    have := ih (fun q hq => h q (by simp [hq]))
    have h1 := h p (by simp)
    have h2 := part_len p.Name
    have h3 := part_len p.Value
    simp only [keyS, List.length_append, List.length_cons]
    omega
theorem keyS_append (a b : List GPair) : keyS (a ++ b) = keyS a ++ keyS b := by
  induction a with
  | nil => simp [keyS]
  | cons p a ih => simp [keyS, ih]
theorem octs_part (s : Str) : octs (part s) = octs (itoa s.length) ++ [32] ++ octs s := by
  simp only [part, octs_append]
  simp [octs]

theorem table_key_eq {l : List GPair} (hs : Shorts l) (hl : l.length ≤ 40) : table_key l = some (keyS l) := by
  unfold table_key
  simp only [bldM_eq, letE_eq]
  refine (loopM_natB l.length (fun i a => a = octs (keyS (l.take i))) (fun _ _ => keyS l) ?_ ?_ rfl).trans rfl
  · rintro i a hi rfl
    right
    refine ⟨octs (keyS (l.take (i + 1))), ?_, rfl, rfl⟩
    simp only [iteM_dec, idxM_get (pr_get hi)]
    rw [if_pos (by omega)]
    have hp := hs (pr l i) (by rw [pr, List.getD_eq_getElem?_getD, List.getElem?_eq_getElem hi]; exact List.getElem_mem hi)
    have hk : (keyS (l.take i)).length ≤ 206 * 40 := by
      have := keyS_len (l := l.take i) (fun q hq => hs q (List.mem_of_mem_take hq))
      rw [List.length_take] at this
      omega
    have e : octs (keyS (l.take (i + 1))) = octs (keyS (l.take i)) ++ octs (part (pr l i).Name) ++ octs (part (pr l i).Value) := by
      rw [take_pr hi, keyS_append, octs_append]; simp [keyS, octs_append]
    rw [e]
    generalize keyS (l.take i) = k at *
    generalize pr l i = p at *
    obtain ⟨h1, h2⟩ := hp
    refine (loopM_natB 2 (fun j b => b = octs k ++ (if 1 ≤ j then octs (part p.Name) else []) ++ (if 2 ≤ j then octs (part p.Value) else [])) (fun _ _ => Sum.inl (octs k ++ octs (part p.Name) ++ octs (part p.Value), ((i + 1 : Nat) : Int))) ?_ ?_ (by simp)).trans ?_
    · rintro j b hj rfl
      right
      have hj2 : j = 0 ∨ j = 1 := by omega
      rcases hj2 with rfl | rfl
      · refine ⟨octs k ++ octs (part p.Name), ?_, by simp, rfl⟩
        have n1 := itoa_len p.Name.length
        simp only [iteM_dec]
        rw [if_pos (by omega), idxM_get (x := p.Name) rfl, itoa_eq h1, callM_some, ws_eq _ _ (by simp [octs_length]; omega), callO_some, wb_eq _ _ (by simp [octs_length]; omega), callO_some, ws_eq _ _ (by simp [octs_length]; omega), callO_some, wI_of (by omega), octs_part]
        simp
      · refine ⟨octs k ++ octs (part p.Name) ++ octs (part p.Value), ?_, by simp, rfl⟩
        have n1 := part_len p.Name
        have n2 := itoa_len p.Value.length
        simp only [iteM_dec]
        rw [if_pos (by omega), idxM_get (x := p.Value) rfl, itoa_eq h2, callM_some, ws_eq _ _ (by simp [octs_length]; omega), callO_some, wb_eq _ _ (by simp [octs_length]; omega), callO_some, ws_eq _ _ (by simp [octs_length]; omega), callO_some, wI_of (by omega), octs_part p.Value]
        simp
    · rintro b rfl
      simp only [iteM_dec]
      rw [if_neg (by omega), wI_of (by omega)]
      simp
    · rfl
  · rintro a rfl
    simp only [iteM_dec]
    rw [if_neg (by omega), List.take_length]
    have : bldStr (octs (keyS l)) = some (keyS l) := by
      unfold bldStr
      rw [gdM_pos, retM_eq, strOf_octs]
      intro x hx
      simp only [octs, List.mem_map] at hx
      obtain ⟨b, _, rfl⟩ := hx
      have := b.toNat_lt
      omega
    rw [this]; rfl
theorem key_eq {l : List GPair} (h : saneB l = true) : table_key l = some (keyS l) := table_key_eq (saneB_shorts h) (by have := (saneB_iff.1 h).1; omega)
theorem key_inj {a b : List GPair} (ha : saneB a = true) (hb : saneB b = true) : keyS a = keyS b ↔ a = b := ⟨keyS_inj (saneB_shorts ha) (saneB_shorts hb), fun h => by rw [h]⟩
end Go.Proofs.YtcpjmkbcefmldaaGreatDoor.AM

/- Holds: the models in plain words. -/
namespace Go.Proofs.YtcpjmkbcefmldaaGreatDoor.AM
open Go

def bd (x : Int) : Int := min (max x 0) 9007199254740992
theorem bd_ge (x : Int) : 0 ≤ bd x := by unfold bd; omega
theorem bd_le (x : Int) : bd x ≤ 9007199254740992 := by unfold bd; omega
@[simp] theorem bd_bd (x : Int) : bd (bd x) = bd x := by unfold bd; omega
def tmB (x : Int) : Bool := decide (0 ≤ x) && decide (x ≤ 9007199254740992)
theorem tmB_iff {x : Int} : tmB x = true ↔ 0 ≤ x ∧ x ≤ 9007199254740992 := by simp [tmB]
theorem tmB_bd (x : Int) : tmB (bd x) = true := tmB_iff.2 ⟨bd_ge x, bd_le x⟩
def holdB (h : GHold) : Bool := tmB h.Since && tmB h.Fired && (h.On || decide (h.Since = 0)) && (h.Hit || decide (h.Fired = 0))
def h0 : GHold := ⟨false, 0, false, 0⟩
def cntH (h : GHold) : GHold := if holdB h then h else h0

theorem hold_time_eq (x : Int) : hold_time x = some (tmB x) := by
  unfold hold_time
  simp only [letE_eq, bif_and]; rfl
theorem hold_Sane_eq (h : GHold) : hold_Sane h = some (holdB h) := by
  unfold hold_Sane holdB
  simp only [hold_time_eq, callM_some, letE_eq, iteM_not]
  cases tmB h.Since
  · rfl
  cases tmB h.Fired
  · rfl
  cases h.On <;> cases h.Hit <;> simp [iteM_if]
  · split <;> simp [*]
  · split <;> simp [*]
theorem hold_counted_eq (h : GHold) : hold_counted h = some (cntH h) := by
  unfold hold_counted cntH
  simp only [hold_Sane_eq, callM_some, letE_eq, iteM_not]
  cases holdB h <;> rfl
theorem cntH_ok (h : GHold) : holdB (cntH h) = true := by
  unfold cntH; split
  · assumption
  · rfl
theorem cntH_of {h : GHold} (hh : holdB h = true) : cntH h = h := if_pos hh
@[simp] theorem cntH_cntH (h : GHold) : cntH (cntH h) = cntH h := cntH_of (cntH_ok h)

theorem hold_bounded_eq {l : List Int} (h : l.length ≤ 1000) : hold_bounded l = some (l.map bd) := by
  unfold hold_bounded
  simp only [letE_eq]
  rw [gdM_pos (by omega)]
  simp only [letO_eq, Int.toNat_natCast]
  have hl : (List.replicate l.length (0 : Int)).length = l.length := by simp
  refine (loopM_natB l.length (fun i a => a = (l.take i).map bd ++ List.replicate (l.length - i) 0) (fun _ _ => l.map bd) ?_ ?_ (by simp)).trans rfl
  · rintro i a hi rfl
    right
    refine ⟨(l.take (i + 1)).map bd ++ List.replicate (l.length - (i + 1)) 0, ?_, rfl, rfl⟩
    simp only [iteM_dec]
    have hg : l[i]? = some l[i] := List.getElem?_eq_getElem hi
    have hlen : ((l.take i).map bd ++ List.replicate (l.length - i) (0 : Int)).length = l.length := by simp; omega
    rw [if_pos (by omega), idxM_get hg, gdM_pos (by rw [hl]; omega), gdM_pos (by rw [hlen]; omega), wI_of (by omega)]
    simp only [nextM_eq, Int.toNat_natCast]
    congr 3
    have e1 : l.length - i = (l.length - (i + 1)) + 1 := by omega
    have e2 : ((l.take i).map bd).length = i := by simp; omega
    rw [List.set_append, if_neg (by rw [e2]; omega), e1, List.replicate_succ, e2, Nat.sub_self, List.set_cons_zero, List.take_add_one, hg, List.map_append, List.append_assoc]
    rfl
  · rintro a rfl
    simp only [iteM_dec]
    rw [if_neg (by omega), List.take_length, Nat.sub_self, gdM_pos (by simp)]
    simp
def nowH (h : GHold) (n u : Int) : Int :=
  if h.Hit = true ∧ (h.Fired = n ∨ (0 < u ∧ h.Fired < n ∧ n - h.Fired < u)) then 2 else if h.On = true then 1 else 0
theorem holdB_iff {h : GHold} : holdB h = true ↔ (0 ≤ h.Since ∧ h.Since ≤ 9007199254740992) ∧ (0 ≤ h.Fired ∧ h.Fired ≤ 9007199254740992) ∧ (h.On = true ∨ h.Since = 0) ∧ (h.Hit = true ∨ h.Fired = 0) := by
  simp [holdB, tmB_iff, and_assoc]
theorem hold_Now_eq (h : GHold) (a u : Int) : hold_Now h a u = some (nowH (cntH h) (bd a) (bd u)) := by
  unfold hold_Now
  rw [hold_counted_eq, callM_some, letE_eq, hold_bounded_eq (by simp), callM_some, idxM_of (x := bd a) (by omega) rfl, idxM_of (x := bd u) (by omega) rfl]
  have hk := holdB_iff.1 (cntH_ok h)
  have b1 := bd_ge a; have b2 := bd_le a; have b3 := bd_ge u; have b4 := bd_le u
  generalize cntH h = k at *
  generalize bd a = n at *
  generalize bd u = w at *
  rw [wI_of (by omega)]
  simp only [letE_eq, retM_eq]
  unfold nowH
  cases hH : k.Hit <;> cases hO : k.On <;> by_cases e1 : 0 < w <;> by_cases e2 : k.Fired < n <;> by_cases e3 : k.Fired = n <;> by_cases e4 : n - k.Fired < w <;> simp [e1, e2, e3, e4, iteM_if] <;> omega

def stepG (h : GHold) (hit : Bool) (n d : Int) : GHold :=
  if hit = false then ⟨false, 0, h.Hit, h.Fired⟩
  else if h.On = false ∨ n < h.Since then (if d ≤ 0 then ⟨true, n, true, n⟩ else ⟨true, n, h.Hit, h.Fired⟩)
  else if d ≤ n - h.Since then ⟨true, h.Since, true, n⟩ else ⟨true, h.Since, h.Hit, h.Fired⟩
def stepH (h : GHold) (hit : Bool) (now d u : Int) : GHold × Int :=
  let g := stepG (cntH h) hit (bd now) (bd d)
  (g, nowH g (bd now) (bd u))
theorem stepG_ok {h : GHold} {hit : Bool} {n d : Int} (hh : holdB h = true) (hn : tmB n = true) : holdB (stepG h hit n d) = true := by
  have a := holdB_iff.1 hh
  have b := tmB_iff.1 hn
  apply holdB_iff.2
  unfold stepG
  obtain ⟨a1, a2, a3, a4⟩ := a
  repeat' split
  all_goals (refine ⟨?_, ?_, ?_, ?_⟩ <;> first | exact a4 | exact a2 | exact a1 | exact b | (simp; done) | (simp only []; omega))
theorem hold_Step_eq (h : GHold) (hit : Bool) (now d u : Int) : hold_Step h hit now d u = some (stepH h hit now d u) := by
  unfold hold_Step
  rw [hold_counted_eq, callM_some, letE_eq, hold_bounded_eq (by simp), callM_some, idxM_of (x := bd now) (by omega) rfl, idxM_of (x := bd d) (by omega) rfl, idxM_of (x := bd u) (by omega) rfl]
  have hk := holdB_iff.1 (cntH_ok h)
  have b1 := bd_ge now; have b2 := bd_le now
  have hok := fun t => stepG_ok (h := cntH h) (hit := t) (n := bd now) (d := bd d) (cntH_ok h) (tmB_bd now)
  unfold stepH
  simp only [letE_eq, tailM_eq, hold_Now_eq, callM_some, retM_eq, bd_bd, iteM_not]
  generalize cntH h = k at *
  have hok' := hok hit
  have e0 : wI (bd now - bd now) = 0 := by rw [wI_of (by omega)]; omega
  have e1 : wI (bd now - k.Since) = bd now - k.Since := wI_of (by omega)
  rw [e0, e1]
  unfold stepG at hok' ⊢
  cases hit with
  | false =>
    simp only [if_true] at hok'
    simp only [iteM_false, if_true, cntH_of hok']
  | true =>
    cases hO : k.On with
    | false =>
      by_cases e2 : bd d ≤ 0
      · simp [hO, e2] at hok'
        simp [e2, cntH_of hok']
      · simp [hO, e2] at hok'
        simp [e2, cntH_of hok']
    | true =>
      by_cases e3 : bd now < k.Since
      · by_cases e2 : bd d ≤ 0
        · simp [hO, e2, e3] at hok'
          simp [e2, e3, cntH_of hok']
        · simp [hO, e2, e3] at hok'
          simp [e2, e3, cntH_of hok']
      · by_cases e2 : bd d ≤ bd now - k.Since
        · simp [hO, e2, e3] at hok'
          simp [e2, e3, cntH_of hok']
        · simp [hO, e2, e3] at hok'
          simp [e2, e3, cntH_of hok']
def goneH (h : GHold) (n u : Int) : Bool := decide (nowH h n u = 0) && !h.On && (!h.Hit || (decide (h.Fired < n) && decide (u ≤ n - h.Fired)))
theorem hold_Gone_eq (h : GHold) (a u : Int) : hold_Gone h a u = some (goneH (cntH h) (bd a) (bd u)) := by
  unfold hold_Gone
  rw [hold_counted_eq, callM_some, letE_eq, hold_bounded_eq (by simp), callM_some, idxM_of (x := bd a) (by omega) rfl, idxM_of (x := bd u) (by omega) rfl]
  have hk := holdB_iff.1 (cntH_ok h)
  have b1 := bd_ge a; have b2 := bd_le a
  rw [hold_Now_eq, callM_some, cntH_cntH, bd_bd, bd_bd]
  have e1 : wI (bd a - (cntH h).Fired) = bd a - (cntH h).Fired := wI_of (by omega)
  simp only [letE_eq, retM_eq, iteM_not, iteM_dec, e1]
  unfold goneH
  generalize cntH h = k at *
  by_cases e2 : nowH k (bd a) (bd u) = 0
  · rw [if_pos e2]
    cases hO : k.On <;> cases hH : k.Hit <;> by_cases e3 : k.Fired < bd a <;> simp [e2, e3]
  · rw [if_neg e2]; simp [e2]
end Go.Proofs.YtcpjmkbcefmldaaGreatDoor.AM

/- Tables: what is sane, found, active. -/
namespace Go.Proofs.YtcpjmkbcefmldaaGreatDoor.AM
open Go

section
variable {α : Type} [Inhabited α]
def nth (l : List α) (k : Nat) : α := l.getD k default
theorem nth_get {l : List α} {k : Nat} (h : k < l.length) : l[k]? = some (nth l k) := by
  rw [nth, List.getD_eq_getElem?_getD, List.getElem?_eq_getElem h]; rfl
theorem nth_mem {l : List α} {k : Nat} (h : k < l.length) : nth l k ∈ l := by
  rw [nth, List.getD_eq_getElem?_getD, List.getElem?_eq_getElem h]; exact List.getElem_mem h
theorem drop_nth {l : List α} {k : Nat} (hk : k < l.length) : l.drop k = nth l k :: l.drop (k + 1) := by
  have hp := nth_get hk
  rw [List.drop_eq_getElem_cons hk]
  congr 1
  rw [List.getElem?_eq_getElem hk] at hp
  exact Option.some.inj hp
theorem take_nth {l : List α} {k : Nat} (hk : k < l.length) : l.take (k + 1) = l.take k ++ [nth l k] := by
  rw [List.take_add_one, nth_get hk]; rfl
end
theorem countsL_sane {l : List GPair} (h : saneB l = true) : countsL l = l := by rw [countsL, if_pos h]
theorem compareL_sane {a b : List GPair} (ha : saneB a = true) (hb : saneB b = true) : compareL a b = cmpLs a b := by rw [compareL, countsL_sane ha, countsL_sane hb]

def alOk (a : GAlert) : Bool := saneB a.L && holdB a.H && decide (0 ≤ a.State) && decide (a.State ≤ 2)
def tabAt (l : List GAlert) (i : Nat) : Bool := alOk (nth l i) && (decide (i = 0) || decide (compareL (nth l (i - 1)).L (nth l i).L < 0))
def cap : Int := 9007199254740992
def tabB (t : GTable) : Bool := decide (t.A.length ≤ 16) && decide (0 ≤ t.Full) && decide (t.Full ≤ cap) && (List.range t.A.length).all (tabAt t.A)
def t0 : GTable := ⟨[], 0⟩
def cntT (t : GTable) : GTable := if tabB t then t else t0
theorem table_Sane_eq (t : GTable) : table_Sane t = some (tabB t) := by
  unfold table_Sane tabB
  simp only [letE_eq, iteM_dec]
  by_cases h1 : 16 < t.A.length
  · rw [if_pos (by omega), decide_eq_false (by omega)]; rfl
  rw [if_neg (by omega), decide_eq_true (show t.A.length ≤ 16 by omega)]
  by_cases h2 : t.Full < 0
  · rw [if_pos h2, decide_eq_false (show ¬ 0 ≤ t.Full by omega)]; rfl
  rw [if_neg h2, decide_eq_true (show 0 ≤ t.Full by omega)]
  by_cases h3 : 9007199254740992 < t.Full
  · rw [if_pos h3, decide_eq_false (show ¬ t.Full ≤ cap by unfold cap; omega)]; rfl
  rw [if_neg h3, decide_eq_true (show t.Full ≤ cap by unfold cap; omega)]
  refine (loopM_nat t.A.length (fun i => (List.range t.A.length).all fun j => decide (j < i) || tabAt t.A j) ?_ ?_).trans ?_
  rotate_right
  · rw [all_zero]; rfl
  · intro i hi
    simp only [iteM_dec, idxM_get (nth_get hi), label_Sane_eq, callM_some, iteM_not, hold_Sane_eq, drawM_eq]
    rw [if_pos (by omega)]
    cases e1 : saneB (nth t.A i).L
    · left; simp [all_bad hi (show tabAt t.A i = false by simp [tabAt, alOk, e1])]
    cases e2 : holdB (nth t.A i).H
    · left; simp [all_bad hi (show tabAt t.A i = false by simp [tabAt, alOk, e2])]
    simp only [iteM_true]
    by_cases e3 : (nth t.A i).State < 0
    · left; rw [if_pos e3]; simp [all_bad hi (show tabAt t.A i = false by simp [tabAt, alOk, show ¬ 0 ≤ (nth t.A i).State by omega])]
    rw [if_neg e3]
    by_cases e4 : 2 < (nth t.A i).State
    · left; rw [if_pos e4]; simp [all_bad hi (show tabAt t.A i = false by simp [tabAt, alOk, show ¬ (nth t.A i).State ≤ 2 by omega])]
    rw [if_neg e4]
    have e5 : alOk (nth t.A i) = true := by simp [alOk, e1, e2]; omega
    by_cases h0 : i = 0
    · right
      subst h0
      rw [if_neg (by omega), wI_of (by omega)]
      exact ⟨by simp [wI_of], all_lt (by simp [tabAt, e5])⟩
    · rw [if_pos (by omega), wI_of (x := (i : Int) - 1) (by omega), idxM_of (x := nth t.A (i - 1)) (by omega) (by rw [show ((i : Int) - 1).toNat = i - 1 from by omega]; exact nth_get (by omega)), label_Compare_eq, callM_some]
      by_cases e6 : 0 ≤ compareL (nth t.A (i - 1)).L (nth t.A i).L
      · left; rw [if_pos e6]; simp [all_bad hi (show tabAt t.A i = false by simp [tabAt, h0, e6])]
      · right; rw [if_neg e6, wI_of (by omega)]
        exact ⟨by simp, all_lt (by simp [tabAt, e5]; omega)⟩
  · try simp only [iteM_dec]
    rw [if_neg (by omega)]
    simp [all_end]
theorem table_counted_eq (t : GTable) : table_counted t = some (cntT t) := by
  unfold table_counted cntT
  simp only [table_Sane_eq, callM_some, letE_eq, iteM_not]
  cases tabB t <;> rfl
theorem cntT_ok (t : GTable) : tabB (cntT t) = true := by
  unfold cntT; split
  · assumption
  · rfl
structure TabOk (t : GTable) : Prop where
  len : t.A.length ≤ 16
  full : 0 ≤ t.Full ∧ t.Full ≤ cap
  each : ∀ a ∈ t.A, alOk a = true
  asc : t.A.Pairwise fun p q => cmpLs p.L q.L < 0
theorem alOk_sane {a : GAlert} (h : alOk a = true) : saneB a.L = true := by
  simp only [alOk, Bool.and_eq_true] at h; exact h.1.1.1
theorem cmpLs_lt {a b c : List GPair} (h : cmpLs a b < 0) (k : cmpLs b c < 0) : cmpLs a c < 0 := by
  have o := cmpLs_ord
  rcases Int.lt_or_eq_of_le (o.trans a b c (by omega) (by omega)) with h' | h'
  · exact h'
  · have := (o.zero a c).1 h'
    subst this
    have := o.anti a b
    omega
theorem pairwise_of_adj {α : Type} [Inhabited α] {R : α → α → Prop} (ht : ∀ a b c, R a b → R b c → R a c) : ∀ {l : List α}, (∀ i, i + 1 < l.length → R (nth l i) (nth l (i + 1))) → l.Pairwise R
  | [], _ => .nil
  | [a], _ => List.pairwise_singleton R a
  | a :: b :: l, h => by
    have ih := pairwise_of_adj ht (l := b :: l) fun i hi => h (i + 1) (by simpa using hi)
    rw [List.pairwise_cons]
    refine ⟨fun x hx => ?_, ih⟩
    have hab : R a b := h 0 (by simp)
    rcases List.mem_cons.1 hx with rfl | hx
    · exact hab
    · exact ht a b x hab ((List.pairwise_cons.1 ih).1 x hx)
theorem pairwise_nth {α : Type} [Inhabited α] {R : α → α → Prop} {l : List α} (h : l.Pairwise R) {i j : Nat} (hij : i < j) (hj : j < l.length) : R (nth l i) (nth l j) := by
  have := List.pairwise_iff_getElem.1 h i j (by omega) hj hij
  simpa [nth, List.getD_eq_getElem?_getD, List.getElem?_eq_getElem hj, List.getElem?_eq_getElem (show i < l.length by omega)] using this
theorem mem_nth {α : Type} [Inhabited α] {l : List α} {x : α} (h : x ∈ l) : ∃ i, i < l.length ∧ nth l i = x := by
  obtain ⟨i, hi, rfl⟩ := List.getElem_of_mem h
  exact ⟨i, hi, by simp [nth, List.getD_eq_getElem?_getD, List.getElem?_eq_getElem hi]⟩
theorem tabB_iff {t : GTable} : tabB t = true ↔ TabOk t := by
  constructor
  · intro h
    simp only [tabB, Bool.and_eq_true, decide_eq_true_eq, List.all_eq_true, List.mem_range] at h
    obtain ⟨⟨⟨h1, h2⟩, h3⟩, h4⟩ := h
    have he : ∀ a ∈ t.A, alOk a = true := by
      intro a ha
      obtain ⟨i, hi, rfl⟩ := mem_nth ha
      have := h4 i hi
      simp only [tabAt, Bool.and_eq_true] at this
      exact this.1
    refine ⟨h1, ⟨h2, h3⟩, he, pairwise_of_adj (R := fun p q : GAlert => cmpLs p.L q.L < 0) (fun _ _ _ h k => cmpLs_lt h k) fun i hi => ?_⟩
    have := h4 (i + 1) hi
    simp only [tabAt, Bool.and_eq_true, Bool.or_eq_true, decide_eq_true_eq, Nat.add_sub_cancel, Nat.add_eq_zero_iff, Nat.one_ne_zero, and_false, false_or] at this
    rw [compareL_sane (alOk_sane (he _ (nth_mem (by omega)))) (alOk_sane (he _ (nth_mem hi)))] at this
    exact this.2
  · rintro ⟨h1, ⟨h2, h3⟩, h4, h5⟩
    simp only [tabB, Bool.and_eq_true, decide_eq_true_eq, List.all_eq_true, List.mem_range]
    refine ⟨⟨⟨h1, h2⟩, h3⟩, fun i hi => ?_⟩
    simp only [tabAt, Bool.and_eq_true, Bool.or_eq_true, decide_eq_true_eq]
    refine ⟨h4 _ (nth_mem hi), ?_⟩
    by_cases h0 : i = 0
    · exact .inl h0
    · right
      rw [compareL_sane (alOk_sane (h4 _ (nth_mem (by omega)))) (alOk_sane (h4 _ (nth_mem hi)))]
      exact pairwise_nth h5 (by omega) hi

theorem compareL_zero {a b : List GPair} (ha : saneB a = true) (hb : saneB b = true) : compareL a b = 0 ↔ a = b := by rw [compareL_sane ha hb]; exact cmpLs_ord.zero a b
end Go.Proofs.YtcpjmkbcefmldaaGreatDoor.AM

/- Maps by key; what is found, once each; the sort. -/
namespace Go.Proofs.YtcpjmkbcefmldaaGreatDoor.AM
open Go

theorem loopM_ix {σ β : Type} {ph : σ → List (Nat × AV)} {ob : σ → List Obj} {step : σ → Option (σ ⊕ β)} (ix : σ → Int) (St : Nat → σ) (n : Nat) (r : β) (hix : ∀ i, ix (St i) = (i : Int))
    (h1 : ∀ i, i < n → step (St i) = some (.inl (St (i + 1)))) (h2 : step (St n) = some (.inr r)) {s : σ} (hs : s = St 0) : loopM ph ob step s = some r := by
  subst hs
  refine loopM_rec (ph := ph) (ob := ob) (step := step) (fun s => ∃ i, i ≤ n ∧ s = St i) (fun s => (n - ix s).toNat) (fun _ => r) ?_ ⟨0, Nat.zero_le _, rfl⟩
  rintro s ⟨i, hi, rfl⟩
  rcases Nat.lt_or_ge i n with hk | hk
  · right
    refine ⟨St (i + 1), h1 i hk, ⟨i + 1, by omega, rfl⟩, ?_, rfl⟩
    simp only [hix]; omega
  · have : i = n := by omega
    subst this
    exact .inl h2

section
variable {α : Type} {lab : α → List GPair}
def enk (lab : α → List GPair) (acc : List α) : List (Str × α) := acc.map fun x => (keyS (lab x), x)
def Sanes (lab : α → List GPair) (acc : List α) : Prop := ∀ x ∈ acc, saneB (lab x) = true
theorem mlk_enk {acc : List α} {l : List GPair} (hs : Sanes lab acc) (hl : saneB l = true) : mlk (enk lab acc) (keyS l) = acc.find? fun x => decide (lab x = l) := by
  induction acc with
  | nil => rfl
  | cons a acc ih =>
    have hk := key_inj hl (hs a (by simp))
    simp only [enk, List.map_cons, mlk, List.find?_cons]
    by_cases e : lab a = l
    · rw [if_pos (by rw [e]), decide_eq_true e]
    · rw [if_neg (fun h => e (hk.1 h).symm), decide_eq_false e]
      exact ih fun x hx => hs x (by simp [hx])
theorem mst_enk {acc : List α} {l : List GPair} {y : α} (hs : Sanes lab acc) (hl : saneB l = true) (hn : ∀ x ∈ acc, lab x ≠ l) : mst (enk lab acc) (keyS l) y = enk lab acc ++ [(keyS l, y)] := by
  induction acc with
  | nil => rfl
  | cons a acc ih =>
    have hk := key_inj hl (hs a (by simp))
    have e := hn a (by simp)
    simp only [enk, List.map_cons, mst]
    rw [if_neg (fun h => e (hk.1 h).symm)]
    simp only [List.cons_append]
    congr 1
    exact ih (fun x hx => hs x (by simp [hx])) fun x hx => hn x (by simp [hx])
theorem mdl_enk {acc : List α} {l : List GPair} {y : α} (hs : Sanes lab acc) (hl : saneB l = true) (hn : ∀ x ∈ acc, lab x ≠ l) : mdl (enk lab acc ++ [(keyS l, y)]) (keyS l) = enk lab acc := by
  induction acc with
  | nil => simp [enk, mdl]
  | cons a acc ih =>
    have hk := key_inj hl (hs a (by simp))
    have e := hn a (by simp)
    simp only [enk, List.map_cons, List.cons_append, mdl]
    rw [if_neg (fun h => e (hk.1 h).symm)]
    congr 1
    exact ih (fun x hx => hs x (by simp [hx])) fun x hx => hn x (by simp [hx])
theorem enk_snoc {acc : List α} {y : α} {l : List GPair} (h : lab y = l) : enk lab acc ++ [(keyS l, y)] = enk lab (acc ++ [y]) := by simp [enk, h]
theorem enk_length (acc : List α) : (enk lab acc).length = acc.length := by simp [enk]
theorem Sanes.snoc {acc : List α} {y : α} (hs : Sanes lab acc) (h : saneB (lab y) = true) : Sanes lab (acc ++ [y]) := by
  intro x hx
  rcases List.mem_append.1 hx with hx | hx
  · exact hs x hx
  · rw [List.mem_singleton] at hx; subst hx; exact h
theorem find_none {acc : List α} {l : List GPair} (h : acc.find? (fun x => decide (lab x = l)) = none) : ∀ x ∈ acc, lab x ≠ l := by
  intro x hx e
  have := List.find?_eq_none.1 h x hx
  simp [e] at this
end

def addD (acc : List GFound) (x : GFound) : List GFound := if saneB x.L then (if (acc.find? fun y => decide (y.L = x.L)).isSome then acc else acc ++ [x]) else acc
def dist (f : List GFound) : List GFound := f.foldl addD []
theorem foldl_take {α β : Type} [Inhabited α] {f : β → α → β} {b : β} {l : List α} {i : Nat} (h : i < l.length) : (l.take (i + 1)).foldl f b = f ((l.take i).foldl f b) (nth l i) := by
  rw [take_nth h, List.foldl_append]; rfl
theorem addD_sane {acc : List GFound} (h : Sanes GFound.L acc) (x : GFound) : Sanes GFound.L (addD acc x) := by
  unfold addD
  split
  · split
    · exact h
    · exact h.snoc (by assumption)
  · exact h
theorem foldl_sane : ∀ (f : List GFound) {acc : List GFound}, Sanes GFound.L acc → Sanes GFound.L (f.foldl addD acc)
  | [], _, h => h
  | x :: f, _, h => foldl_sane f (addD_sane h x)
theorem dist_sane (f : List GFound) : Sanes GFound.L (dist f) := foldl_sane f (fun x hx => by cases hx)
theorem addD_len (acc : List GFound) (x : GFound) : (addD acc x).length ≤ acc.length + 1 := by
  unfold addD
  repeat' split
  all_goals simp
theorem foldl_len : ∀ (f : List GFound) (acc : List GFound), (f.foldl addD acc).length ≤ acc.length + f.length
  | [], _ => by simp
  | x :: f, acc => by
    have := foldl_len f (addD acc x)
    have := addD_len acc x
    simp only [List.foldl_cons, List.length_cons]; omega
theorem table_distinct_eq {f : List GFound} (h : f.length ≤ 1000) : table_distinct f = some (dist f, enk GFound.L (dist f)) := by
  unfold table_distinct
  simp only [letO_eq, letE_eq, tokM_eq]
  refine loopM_ix (fun s => s.2.1) (fun i => (enk GFound.L (dist (f.take i)), (i : Int), dist (f.take i))) f.length _ (fun _ => rfl) ?_ ?_ (by simp [dist, enk])
  · intro i hi
    simp only [iteM_dec, idxM_get (nth_get hi), label_Sane_eq, callM_some, iteM_not]
    rw [if_pos (by omega), show dist (f.take (i + 1)) = addD (dist (f.take i)) (nth f i) from foldl_take hi, wI_of (by omega)]
    have hs := dist_sane (f.take i)
    have hlen : (dist (f.take i)).length ≤ i := by
      have := foldl_len (f.take i) []
      rw [List.length_take] at this
      simp only [List.length_nil] at this
      unfold dist; omega
    generalize dist (f.take i) = a at *
    generalize nth f i = x at *
    unfold addD
    cases e : saneB x.L
    · simp
    · simp only [iteM_true, if_true]
      rw [key_eq e, callM_some]
      unfold lookM
      rw [mlk_enk hs e]
      cases e2 : a.find? (fun y => decide (y.L = x.L)) with
      | some y => simp
      | none =>
        have hn := find_none e2
        simp only [Bool.not_false, iteM_true]
        rw [mst_enk hs e hn, enk_snoc rfl, gdM_pos (by simp; omega)]
        simp
  · simp only [iteM_dec]
    rw [if_neg (by omega), List.take_length]
    simp

def altB (p q : GAlert) : Bool := decide (cmpLs p.L q.L < 0)
def insAl (p : GAlert) : List GAlert → List GAlert
  | [] => [p]
  | q :: l => if altB p q then p :: q :: l else q :: insAl p l
def sortA : List GAlert → List GAlert
  | [] => []
  | p :: l => insAl p (sortA l)
theorem insA_perm (p : GAlert) : ∀ l, (insAl p l).Perm (p :: l)
  | [] => .refl _
  | q :: l => by
    unfold insAl
    split
    · exact .refl _
    · exact ((insA_perm p l).cons q).trans (.swap p q l)
theorem sortA_perm : ∀ l, (sortA l).Perm l
  | [] => .refl _
  | p :: l => (insA_perm p _).trans ((sortA_perm l).cons p)
def AscA (l : List GAlert) : Prop := l.Pairwise fun p q => cmpLs p.L q.L < 0
def Apart (l : List GAlert) : Prop := l.Pairwise fun p q => p.L ≠ q.L
theorem Apart.perm {l m : List GAlert} (h : Apart l) (hp : m.Perm l) : Apart m := by
  refine List.Pairwise.perm h hp.symm fun h => ?_
  exact fun e => h e.symm
theorem cmp_flip {p q : List GPair} (h : ¬ cmpLs p q < 0) (hn : p ≠ q) : cmpLs q p < 0 := by
  have o := cmpLs_ord
  have a := o.anti p q
  have z := o.zero p q
  have : cmpLs p q ≠ 0 := fun h => hn (z.1 h)
  omega
theorem insA_asc {p : GAlert} : ∀ {l : List GAlert}, AscA l → (∀ q ∈ l, p.L ≠ q.L) → AscA (insAl p l)
  | [], _, _ => List.pairwise_singleton _ _
  | q :: l, h, hn => by
    obtain ⟨h1, h2⟩ := List.pairwise_cons.1 h
    unfold insAl
    split
    · rename_i hb
      have hb : cmpLs p.L q.L < 0 := of_decide_eq_true hb
      exact List.pairwise_cons.2 ⟨fun x hx => by
        rcases List.mem_cons.1 hx with rfl | hx
        · exact hb
        · exact cmpLs_lt hb (h1 x hx), h⟩
    · rename_i hb
      have hb : ¬ cmpLs p.L q.L < 0 := fun h => hb (decide_eq_true h)
      refine List.pairwise_cons.2 ⟨fun x hx => ?_, insA_asc h2 fun x hx => hn x (by simp [hx])⟩
      rcases List.mem_cons.1 ((insA_perm p l).mem_iff.1 hx) with rfl | hx
      · exact cmp_flip hb (hn q (by simp))
      · exact h1 x hx
theorem sortA_asc : ∀ {l : List GAlert}, Apart l → AscA (sortA l)
  | [], _ => List.Pairwise.nil
  | p :: l, h => by
    obtain ⟨h1, h2⟩ := List.pairwise_cons.1 h
    exact insA_asc (sortA_asc h2) fun q hq => h1 q ((sortA_perm l).mem_iff.1 hq)
theorem asc_eq {l m : List GAlert} (hl : AscA l) (hm : AscA m) (hp : l.Perm m) : l = m :=
  hp.eq_of_pairwise (fun a b _ _ h k => by
    have := cmpLs_ord.anti a.L b.L
    omega) hl hm
theorem sortA_eq {l m : List GAlert} (hl : Apart l) (hp : m.Perm l) : sortA m = sortA l :=
  asc_eq (sortA_asc (hl.perm hp)) (sortA_asc hl) ((sortA_perm m).trans (hp.trans (sortA_perm l).symm))
end Go.Proofs.YtcpjmkbcefmldaaGreatDoor.AM

/- The table's step. -/
namespace Go.Proofs.YtcpjmkbcefmldaaGreatDoor.AM
open Go

theorem table_sorted_1_eq (p q : GAlert) : table_sorted_1 p q = some (compareL p.L q.L) := by
  unfold table_sorted_1
  rw [label_Compare_eq, callM_some]; rfl
theorem sorted_eq {l : List GAlert} (hs : Sanes GAlert.L l) (ha : Apart l) (hl : l.length ≤ 1000) {β : Type} {m : List GAlert → Option β} : sortM table_sorted_1 l m = m (sortA l) ∨ m (sortA l) = none := by
  cases hm : m (sortA l) with
  | none => exact .inr rfl
  | some y =>
    left
    have o := cmpLs_ord
    refine sortM_eq (fun p q => compareL p.L q.L) ⟨fun p _ q _ => table_sorted_1_eq p q, fun p _ => ?_, fun p _ q _ r _ h1 h2 => cmpLs_lt h1 h2, fun p _ q _ r _ h1 h2 => ?_, by omega⟩ ?_
    · have := (o.zero (countsL p.L) (countsL p.L)).2 rfl
      simp only [compareL]; omega
    · simp only [compareL] at *
      have e1 := o.anti (countsL p.L) (countsL q.L)
      have e2 := o.anti (countsL q.L) (countsL r.L)
      have e3 := o.anti (countsL p.L) (countsL r.L)
      have := o.trans (countsL r.L) (countsL q.L) (countsL p.L) (by omega) (by omega)
      omega
    · intro l' hp hp'
      have : l' = sortA l := by
        refine asc_eq ?_ (sortA_asc ha) (hp.trans (sortA_perm l).symm)
        have h2 := (ha.perm hp)
        refine (List.Pairwise.and hp' h2).imp_of_mem fun {a b} hma hmb hab => ?_
        rw [compareL_sane (hs b (hp.mem_iff.1 hmb)) (hs a (hp.mem_iff.1 hma))] at hab
        exact cmp_flip hab.1 (fun e => hab.2 e.symm) |> fun h => h
      rw [this, hm]
theorem rng_eq {β : Type} {step : List GAlert → ((Str × GAlert) → Option (List GAlert ⊕ β)) × Option (List GAlert ⊕ β)} (n : Nat) (h : ∀ a e, a.length < n → (step a).1 e = some (.inl (a ++ [e.2]))) : ∀ (es : List (Str × GAlert)) (a : List GAlert), a.length + es.length ≤ n → rngIter step es a = (step (a ++ es.map (·.2))).2.bind (Sum.elim (fun _ => none) some)
  | [], a, _ => by simp [rngIter]
  | e :: es, a, hl => by
    simp only [List.length_cons] at hl
    simp only [rngIter, h a e (by omega), Option.bind_some, Sum.elim_inl]
    rw [rng_eq n h es (a ++ [e.2]) (by simp; omega)]
    simp
theorem table_sorted_eq {l : List GAlert} (hs : Sanes GAlert.L l) (ha : Apart l) (hl : l.length ≤ 1000) : table_sorted_o (enk GAlert.L l) = some (sortA l) := by
  unfold table_sorted_o
  rw [tokM_eq]
  refine rangeM_eq ⟨fun _ _ _ _ _ _ => rfl, fun _ _ _ _ => rfl⟩ fun es' hp => ?_
  have hlen : es'.length = l.length := by rw [hp.length_eq, enk_length]
  have hp2 : (es'.map (·.2)).Perm l := by
    have := hp.map (·.2)
    simpa [enk, Function.comp_def] using this
  rw [rng_eq 1000 ?_ es' [] (by simp; omega)]
  · have hs' : Sanes GAlert.L (es'.map (·.2)) := fun x hx => hs x (hp2.mem_iff.1 hx)
    have := sorted_eq hs' (ha.perm hp2) (by simp; omega) (m := fun x => some x)
    simp only [bareR, List.nil_append]
    have e : sortM table_sorted_1 (es'.map (·.2)) (fun x5 => pubbM 3 <| retM x5) = some (sortA l) := by
      rcases sorted_eq hs' (ha.perm hp2) (by simp; omega) (m := fun x5 => pubbM 3 <| retM x5) with h | h
      · rw [h, sortA_eq ha hp2]; rfl
      · cases h
    show ((exitM (sortM table_sorted_1 (es'.map (·.2)) (fun x5 => pubbM 3 <| retM x5))).bind _) = _
    rw [e]; rfl
  · intro a e hlt
    simp only [bareR, letE_eq, letO_eq]
    rw [gdM_pos (by simp; omega)]; rfl

/-! ### the step -/
def keepA (D : List GFound) (now d u : Int) (a : GAlert) : Option GAlert :=
  let hit := D.find? fun x => decide (x.L = a.L)
  let s := stepH a.H hit.isSome now d u
  if goneH s.1 (bd now) (bd u) then none else some ⟨a.L, s.1, s.2, match hit with | some x => x.X.V | none => a.V⟩
def fresh (now d u : Int) (x : GFound) : GAlert := ⟨x.L, (stepH h0 true now d u).1, (stepH h0 true now d u).2, x.X.V⟩
def addS (now d u : Int) (s : Int × List GAlert) (x : GFound) : Int × List GAlert :=
  if (s.2.find? fun y => decide (y.L = x.L)).isSome then s else if 16 ≤ s.2.length then (min (s.1 + 1) cap, s.2) else (s.1, s.2 ++ [fresh now d u x])
def keptL (D : List GFound) (now d u : Int) (A : List GAlert) : List GAlert := A.filterMap (keepA D now d u)
def stepS (T : GTable) (D : List GFound) (now d u : Int) : Int × List GAlert := D.foldl (addS now d u) (T.Full, keptL D now d u T.A)
def stepT (t : GTable) (f : List GFound) (now d u : Int) : GTable := ⟨sortA (stepS (cntT t) (dist f) now d u).2, (stepS (cntT t) (dist f) now d u).1⟩

theorem stepH_ok (h : GHold) (hit : Bool) (now d u : Int) : holdB (stepH h hit now d u).1 = true := stepG_ok (cntH_ok h) (tmB_bd now)
theorem Gone_step (h : GHold) (hit : Bool) (now d u : Int) : hold_Gone (stepH h hit now d u).1 now u = some (goneH (stepH h hit now d u).1 (bd now) (bd u)) := by rw [hold_Gone_eq, cntH_of (stepH_ok h hit now d u)]
theorem keepA_L {D : List GFound} {now d u : Int} {a b : GAlert} (h : keepA D now d u a = some b) : b.L = a.L := by
  unfold keepA at h
  simp only at h
  split at h
  · cases h
  · cases h; rfl
theorem keptL_mem {D : List GFound} {now d u : Int} {A : List GAlert} {b : GAlert} (h : b ∈ keptL D now d u A) : ∃ a ∈ A, keepA D now d u a = some b ∧ b.L = a.L := by
  obtain ⟨a, ha, hb⟩ := List.mem_filterMap.1 h
  exact ⟨a, ha, hb, keepA_L hb⟩
theorem asc_apart {A : List GAlert} (h : AscA A) : Apart A := h.imp fun {a b} hab e => by
  have := (cmpLs_ord.zero a.L b.L).2 e
  omega
theorem keptL_asc {D : List GFound} {now d u : Int} {A : List GAlert} (h : AscA A) : AscA (keptL D now d u A) := by
  unfold keptL AscA
  rw [List.pairwise_filterMap]
  refine h.imp fun {a b} hab x hx y hy => ?_
  rw [keepA_L hx, keepA_L hy]; exact hab
theorem keptL_sane {D : List GFound} {now d u : Int} {A : List GAlert} (h : Sanes GAlert.L A) : Sanes GAlert.L (keptL D now d u A) := by
  intro b hb
  obtain ⟨a, ha, _, e⟩ := keptL_mem hb
  rw [e]; exact h a ha
structure InvS (s : Int × List GAlert) : Prop where
  sane : Sanes GAlert.L s.2
  apart : Apart s.2
  len : s.2.length ≤ 16
  full : 0 ≤ s.1 ∧ s.1 ≤ cap
theorem addS_inv {now d u : Int} {s : Int × List GAlert} {x : GFound} (h : InvS s) (hx : saneB x.L = true) : InvS (addS now d u s x) := by
  unfold addS
  cases e : s.2.find? (fun y => decide (y.L = x.L)) with
  | some y => simpa using h
  | none =>
    simp only [Option.isSome_none, Bool.false_eq_true, if_false]
    have hn := find_none e
    have hf := h.full
    split
    · exact ⟨h.sane, h.apart, h.len, by simp only; unfold cap at *; omega⟩
    · refine ⟨h.sane.snoc hx, ?_, by simp; omega, hf⟩
      refine List.pairwise_append.2 ⟨h.apart, List.pairwise_singleton _ _, fun a ha b hb => ?_⟩
      rw [List.mem_singleton] at hb; subst hb
      exact hn a ha
theorem foldS_inv {now d u : Int} : ∀ (D : List GFound) {s : Int × List GAlert}, Sanes GFound.L D → InvS s → InvS (D.foldl (addS now d u) s)
  | [], _, _, h => h
  | x :: D, _, hD, h => foldS_inv D (fun y hy => hD y (by simp [hy])) (addS_inv h (hD x (by simp)))
theorem inv0 {T : GTable} (hT : TabOk T) (D : List GFound) (now d u : Int) : InvS (T.Full, keptL D now d u T.A) :=
  ⟨keptL_sane fun a ha => alOk_sane (hT.each a ha), asc_apart (keptL_asc hT.asc), Nat.le_trans (List.length_filterMap_le _ _) hT.len, hT.full⟩
theorem stepS_inv {T : GTable} (hT : TabOk T) (f : List GFound) (now d u : Int) : InvS (stepS T (dist f) now d u) := foldS_inv _ (dist_sane f) (inv0 hT _ now d u)
theorem keptL_take {D : List GFound} {now d u : Int} {A : List GAlert} {i : Nat} (hi : i < A.length) : keptL D now d u (A.take (i + 1)) = keptL D now d u (A.take i) ++ (keepA D now d u (nth A i)).toList := by
  unfold keptL
  rw [take_nth hi, List.filterMap_append]
  congr 1
set_option maxHeartbeats 1000000 in
theorem table_Step_eq (t : GTable) {f : List GFound} (now d u : Int) (hf : f.length ≤ 1000) : table_Step t f now d u = some (stepT t f now d u) := by
  unfold table_Step
  rw [table_counted_eq, callM_some, table_distinct_eq hf, callM_some]
  simp only [letO_eq, letE_eq]
  unfold stepT
  have hT := tabB_iff.1 (cntT_ok t)
  have hD := dist_sane f
  have hDl : (dist f).length ≤ 1000 := by
    have := foldl_len f []
    simp only [List.length_nil] at this
    unfold dist; omega
  have hi0 := stepS_inv hT f now d u
  unfold stepS at hi0 ⊢
  generalize dist f = D at *
  generalize cntT t = T at *
  refine loopM_ix (fun s => s.2) (fun i => (enk GAlert.L (keptL D now d u (T.A.take i)), (i : Int))) T.A.length _ (fun _ => rfl) ?_ ?_ (by simp [keptL, enk])
  · intro i hi
    have ha := alOk_sane (hT.each _ (nth_mem hi))
    have hs : Sanes GAlert.L (keptL D now d u (T.A.take i)) := keptL_sane fun a h => alOk_sane (hT.each a (List.mem_of_mem_take h))
    have hn : ∀ x ∈ keptL D now d u (T.A.take i), x.L ≠ (nth T.A i).L := by
      intro x hx e
      obtain ⟨a, hm, _, e2⟩ := keptL_mem hx
      obtain ⟨j, hj, rfl⟩ := mem_nth hm
      rw [List.length_take] at hj
      have e3 : nth (T.A.take i) j = nth T.A j := by
        simp only [nth, List.getD_eq_getElem?_getD]
        rw [List.getElem?_take_of_lt (by omega)]
      rw [e3] at e2
      have := pairwise_nth hT.asc (i := j) (j := i) (by omega) hi
      rw [← e2, e] at this
      have := (cmpLs_ord.zero (nth T.A i).L _).2 rfl
      omega
    simp only [iteM_dec, idxM_get (nth_get hi), key_eq ha, callM_some]
    rw [if_pos (by omega), keptL_take hi, wI_of (by have := hT.len; omega)]
    generalize keptL D now d u (T.A.take i) = m at *
    unfold lookM
    rw [mlk_enk hD ha]
    unfold keepA
    cases e : D.find? (fun x => decide (x.L = (nth T.A i).L)) with
    | some x =>
      simp only [hold_Step_eq, callM_some, Option.isSome_some, Gone_step]
      rw [mst_enk hs ha hn]
      cases hg : goneH (stepH (nth T.A i).H true now d u).1 (bd now) (bd u)
      · simp only [iteM_false]
        rw [enk_snoc (lab := GAlert.L)] <;> rfl
      · simp only [iteM_true]
        rw [mdl_enk hs ha hn]; simp
    | none =>
      simp only [hold_Step_eq, callM_some, Option.isSome_none, Gone_step]
      rw [mst_enk hs ha hn]
      cases hg : goneH (stepH (nth T.A i).H false now d u).1 (bd now) (bd u)
      · simp only [iteM_false]
        rw [enk_snoc (lab := GAlert.L)] <;> rfl
      · simp only [iteM_true]
        rw [mdl_enk hs ha hn]; simp
  · simp only [iteM_dec]
    rw [if_neg (by omega), List.take_length]
    have hI := inv0 hT D now d u
    generalize keptL D now d u T.A = K at *
    rw [show ∀ r : GTable, (some (Sum.inr r) : Option ((List (Str × GAlert) × Int) ⊕ GTable)) = exitM (some r) from fun _ => rfl]
    congr 1
    refine loopM_ix (fun s => s.2.2) (fun i => (((D.take i).foldl (addS now d u) (T.Full, K)).1, enk GAlert.L ((D.take i).foldl (addS now d u) (T.Full, K)).2, (i : Int))) D.length _ (fun _ => rfl) ?_ ?_ (by simp)
    · intro i hi
      have hx := hD _ (nth_mem hi)
      have hs := foldS_inv (now := now) (d := d) (u := u) (D.take i) (fun y hy => hD y (List.mem_of_mem_take hy)) hI
      simp only [iteM_dec, idxM_get (nth_get hi), key_eq hx, callM_some]
      rw [if_pos (by omega), foldl_take hi, wI_of (x := (i : Int) + 1) (by omega)]
      generalize (D.take i).foldl (addS now d u) (T.Full, K) = s at *
      unfold lookM
      rw [mlk_enk hs.sane hx]
      unfold addS
      cases e : s.2.find? (fun y => decide (y.L = (nth D i).L)) with
      | some y => simp
      | none =>
        have hn := find_none e
        simp only [Option.isSome_none, Bool.false_eq_true, if_false, enk_length]
        have hf2 := hs.full
        unfold cap at hf2
        by_cases h16 : 16 ≤ s.2.length
        · rw [if_pos (by omega), if_pos h16, wI_of (by omega)]; rfl
        · rw [if_neg (by omega), if_neg h16, hold_Step_eq, callM_some, mst_enk hs.sane hx hn, enk_snoc (lab := GAlert.L)] <;> rfl
    · simp only [iteM_dec]
      rw [if_neg (by omega), List.take_length, tailM_eq, table_sorted_eq hi0.sane hi0.apart (by have := hi0.len; omega), callO_some]
      rfl
end Go.Proofs.YtcpjmkbcefmldaaGreatDoor.AM

/- What the laws ask besides: few, the same, has, awake. -/
namespace Go.Proofs.YtcpjmkbcefmldaaGreatDoor.AM
open Go

def fewT (A : List GAlert) : Bool := A.all (fun a => fewB a.L) && decide (A.length ≤ 40)
theorem all_drop {α : Type} [Inhabited α] {p : α → Bool} {l : List α} {i : Nat} (hi : i < l.length) : (l.drop i).all p = (p (nth l i) && (l.drop (i + 1)).all p) := by
  rw [drop_nth hi, List.all_cons]
theorem ref17_Few_eq (t : GTable) (h : t.A.length ≤ 9223372036854775807) (hl : ∀ a ∈ t.A, a.L.length ≤ 9223372036854775807) : ref17_Few t = some (fewT t.A) := by
  unfold ref17_Few
  refine (loopM_nat t.A.length (fun i => (t.A.drop i).all (fun a => fewB a.L) && decide (t.A.length ≤ 40)) ?_ ?_).trans (by simp [fewT])
  · intro i hi
    simp only [letE_eq, iteM_dec, idxM_get (nth_get hi), iteM_not]
    rw [if_pos (by omega), ref03_Few_eq _ (hl _ (nth_mem hi)), callM_some, all_drop hi]
    cases fewB (nth t.A i).L
    · left; simp
    · right; rw [wI_of (by omega)]; exact ⟨by simp, by simp⟩
  · simp only [letE_eq, iteM_dec]
    rw [if_neg (by omega)]
    simp only [List.drop_length, List.all_nil, Bool.true_and, retM_eq, exitM_some]
    rw [show decide ((t.A.length : Int) ≤ 40) = decide (t.A.length ≤ 40) from by rw [decide_eq_decide]; omega]
theorem SameAlert_self (a : GAlert) (h : a.L.length ≤ 16) : ref17_SameAlert a a = some true := by
  unfold ref17_SameAlert
  rw [ref03_Same_eq _ _ (by omega), callM_some]
  simp
theorem Same_self {t : GTable} (h : TabOk t) : ref17_Same t t = some true := by
  unfold ref17_Same
  simp only [letE_eq, decide_true, iteM_true]
  have : ref17_SameAlerts t.A t.A = some true := by
    unfold ref17_SameAlerts
    simp only [letE_eq, iteM_not, decide_true, iteM_true]
    have hl := h.len
    refine (loopM_nat t.A.length (fun _ => true) ?_ ?_).trans rfl
    · intro i hi
      right
      have ha := (saneB_iff.1 (alOk_sane (h.each _ (nth_mem hi)))).1
      simp only [letE_eq, iteM_dec, idxM_get (nth_get hi), iteM_not, drawM_eq, SameAlert_self _ ha, callM_some]
      rw [if_pos (by omega), wI_of (by omega)]
      exact ⟨by simp, trivial⟩
    · simp only [letE_eq, iteM_dec]
      rw [if_neg (by omega)]; simp
  rw [this, callM_some]; rfl

end Go.Proofs.YtcpjmkbcefmldaaGreatDoor.AM

/- What the step keeps. -/
namespace Go.Proofs.YtcpjmkbcefmldaaGreatDoor.AM
open Go

theorem nowH_rng (h : GHold) (n u : Int) : 0 ≤ nowH h n u ∧ nowH h n u ≤ 2 := by
  unfold nowH
  repeat' split
  all_goals omega
theorem keepA_ok {D : List GFound} {now d u : Int} {a b : GAlert} (ha : saneB a.L = true) (h : keepA D now d u a = some b) : alOk b = true := by
  unfold keepA at h
  simp only at h
  split at h
  · cases h
  · cases h
    have h1 := stepH_ok a.H (D.find? fun x => decide (x.L = a.L)).isSome now d u
    have h2 : 0 ≤ (stepH a.H (D.find? fun x => decide (x.L = a.L)).isSome now d u).2 ∧ (stepH a.H (D.find? fun x => decide (x.L = a.L)).isSome now d u).2 ≤ 2 := nowH_rng _ _ _
    simp only [alOk, Bool.and_eq_true, decide_eq_true_eq]
    exact ⟨⟨⟨ha, h1⟩, h2.1⟩, h2.2⟩
theorem fresh_ok {now d u : Int} {x : GFound} (hx : saneB x.L = true) : alOk (fresh now d u x) = true := by
  have h1 := stepH_ok h0 true now d u
  have h2 : 0 ≤ (stepH h0 true now d u).2 ∧ (stepH h0 true now d u).2 ≤ 2 := nowH_rng _ _ _
  have e : alOk (fresh now d u x) = (saneB x.L && holdB (stepH h0 true now d u).1 && decide (0 ≤ (stepH h0 true now d u).2) && decide ((stepH h0 true now d u).2 ≤ 2)) := rfl
  rw [e, hx, h1, decide_eq_true h2.1, decide_eq_true h2.2]; rfl
theorem addS_each {now d u : Int} {s : Int × List GAlert} {x : GFound} (h : ∀ a ∈ s.2, alOk a = true) (hx : saneB x.L = true) : ∀ a ∈ (addS now d u s x).2, alOk a = true := by
  unfold addS
  repeat' split
  · exact h
  · exact h
  · intro a ha
    rcases List.mem_append.1 ha with ha | ha
    · exact h a ha
    · rw [List.mem_singleton] at ha; subst ha; exact fresh_ok hx
theorem foldS_each {now d u : Int} : ∀ (D : List GFound) {s : Int × List GAlert}, Sanes GFound.L D → (∀ a ∈ s.2, alOk a = true) → ∀ a ∈ (D.foldl (addS now d u) s).2, alOk a = true
  | [], _, _, h => h
  | x :: D, _, hD, h => foldS_each D (fun y hy => hD y (by simp [hy])) (addS_each h (hD x (by simp)))
theorem keptL_each {D : List GFound} {now d u : Int} {A : List GAlert} (h : ∀ a ∈ A, alOk a = true) : ∀ a ∈ keptL D now d u A, alOk a = true := by
  intro b hb
  obtain ⟨a, ha, hk, _⟩ := keptL_mem hb
  exact keepA_ok (alOk_sane (h a ha)) hk
theorem stepT_ok (t : GTable) (f : List GFound) (now d u : Int) : TabOk (stepT t f now d u) := by
  have hT := tabB_iff.1 (cntT_ok t)
  have hi := stepS_inv hT f now d u
  have hp := sortA_perm (stepS (cntT t) (dist f) now d u).2
  refine ⟨by simp only [stepT]; rw [hp.length_eq]; exact hi.len, hi.full, fun a ha => ?_, sortA_asc hi.apart⟩
  exact foldS_each _ (dist_sane f) (keptL_each hT.each) a (hp.mem_iff.1 ha)

/-! ### what is new -/
end Go.Proofs.YtcpjmkbcefmldaaGreatDoor.AM

/- Labels with one more: what is laid is got. -/
namespace Go.Proofs.YtcpjmkbcefmldaaGreatDoor.AM
open Go

theorem sane_of_make {l : List GPair} {m : List GPair} (h : makeL l = (m, 0)) : Good l ∧ m = sortP l ∧ saneB m = true := by
  have hw : wrongE l = 0 := by
    rcases Decidable.em (wrongE l = 0) with h' | h'
    · exact h'
    · rw [makeL_of rfl h'] at h; exact absurd (Prod.mk.inj h).2 h'
  have hg := wrongE_zero.1 hw
  rw [makeL_good hg] at h
  have e := (Prod.mk.inj h).1
  exact ⟨hg, e.symm, by rw [← e]; exact sane_sortP hg⟩
theorem getFrom_perm {l m : List GPair} (hn : (l.map (·.1)).Nodup) (hp : m.Perm l) (n : Str) : getFrom n m = getFrom n l := by
  have hm : (m.map (·.1)).Nodup := ((hp.map (·.1)).nodup_iff).2 hn
  by_cases h : ∃ p ∈ l, p.1 = n
  · obtain ⟨p, hpl, rfl⟩ := h
    rw [getFrom_mem hn hpl, getFrom_mem hm (hp.mem_iff.2 hpl)]
  · have none : ∀ {k : List GPair}, (¬ ∃ p ∈ k, p.1 = n) → getFrom n k = (([] : Str), false) := by
      intro k
      induction k with
      | nil => intro _; rfl
      | cons q k ih =>
        intro hk
        rw [getFrom, if_neg (fun e => hk ⟨q, List.mem_cons_self, e⟩)]
        exact ih fun ⟨p, hp', e⟩ => hk ⟨p, List.mem_cons_of_mem _ hp', e⟩
    rw [none h, none (fun ⟨p, hp', e⟩ => h ⟨p, hp.mem_iff.1 hp', e⟩)]
theorem getFrom_append {l m : List GPair} {n : Str} : getFrom n (l ++ m) = if (getFrom n l).2 then getFrom n l else getFrom n m := by
  induction l with
  | nil => simp [getFrom]
  | cons p l ih =>
    simp only [List.cons_append, getFrom]
    split
    · simp
    · exact ih
theorem withoutL_sane {l : List GPair} (h : saneB l = true) (n : Str) : withoutL l n = l.filter fun p => !decide (p.1 = n) := by rw [withoutL, countsL, if_pos h]
theorem getL_sane {l : List GPair} (h : saneB l = true) (n : Str) : getL l n = getFrom n l := by rw [getL, countsL, if_pos h]
theorem sane_sub {l m : List GPair} (h : saneB l = true) (hs : m.Sublist l) : saneB m = true := by
  obtain ⟨h1, h2, h3, h4⟩ := saneB_iff.1 h
  exact saneB_iff.2 ⟨Nat.le_trans hs.length_le h1, fun p hp => h2 p (hs.subset hp), fun p hp => h3 p (hs.subset hp), h4.sublist hs⟩
end Go.Proofs.YtcpjmkbcefmldaaGreatDoor.AM

/- Loops that keep a property. -/
namespace Go.Proofs.YtcpjmkbcefmldaaGreatDoor.AM
open Go

theorem loopM_post {σ β : Type} {ph : σ → List (Nat × AV)} {ob : σ → List Obj} {step : σ → Option (σ ⊕ β)} (I : σ → Prop) (μ : σ → Nat) (Q : β → Prop)
    (h : ∀ s, I s → (∃ r, step s = some (.inr r) ∧ Q r) ∨ ∃ s', step s = some (.inl s') ∧ I s' ∧ μ s' < μ s) : ∀ {s : σ}, I s → ∃ r, loopM ph ob step s = some r ∧ Q r := by
  have key : ∀ n s, μ s = n → I s → ∃ r, loopM ph ob step s = some r ∧ Q r := by
    intro n
    induction n using Nat.strongRecOn with
    | ind n ih =>
      intro s hn hs
      unfold loopM
      rw [iter_eq]
      rcases h s hs with ⟨r, e, hq⟩ | ⟨s', e, hi, hm⟩
      · exact ⟨r, by rw [e]; rfl, hq⟩
      · obtain ⟨r, e2, hq⟩ := ih (μ s') (by omega) s' rfl hi
        exact ⟨r, by rw [e]; exact e2, hq⟩
  intro s hs
  exact key _ s rfl hs
end Go.Proofs.YtcpjmkbcefmldaaGreatDoor.AM

/- Series and stores: what is sane. -/
namespace Go.Proofs.YtcpjmkbcefmldaaGreatDoor.AM
open Go

def numB (v : Int) : Bool := decide (-9007199254740992 ≤ v) && decide (v ≤ 9007199254740992)
theorem num_Sane_eq (v : Int) : num_Sane v = some (numB v) := by
  unfold num_Sane
  simp only [letE_eq, bif_and]; rfl
theorem series_time_eq (v : Int) : series_time v = some (tmB v) := by
  unfold series_time
  simp only [letE_eq, bif_and]; rfl
def serAt (s : List GSample) (i : Nat) : Bool := tmB (nth s i).T && numB (nth s i).V && (decide (i = 0) || decide ((nth s (i - 1)).T < (nth s i).T))
def serB (s : List GSample) : Bool := decide (s.length ≤ 64) && (List.range s.length).all (serAt s)
theorem series_Sane_eq (s : List GSample) : series_Sane s = some (serB s) := by
  unfold series_Sane serB
  simp only [letE_eq, iteM_dec]
  by_cases h : 64 < s.length
  · rw [if_pos (by omega), decide_eq_false (by omega)]; rfl
  rw [if_neg (by omega), decide_eq_true (show s.length ≤ 64 by omega)]
  refine (loopM_nat s.length (fun i => (List.range s.length).all fun j => decide (j < i) || serAt s j) ?_ ?_).trans ?_
  rotate_right
  · rw [all_zero]; rfl
  · intro i hi
    simp only [iteM_dec, idxM_get (nth_get hi), series_time_eq, num_Sane_eq, callM_some, iteM_not]
    rw [if_pos (by omega)]
    cases e1 : tmB (nth s i).T
    · left; simp [all_bad hi (show serAt s i = false by simp [serAt, e1])]
    cases e2 : numB (nth s i).V
    · left; simp [all_bad hi (show serAt s i = false by simp [serAt, e2])]
    simp only [iteM_true]
    by_cases h0 : i = 0
    · right
      subst h0
      rw [if_neg (by omega), wI_of (by omega)]
      exact ⟨by simp [wI_of], all_lt (by simp [serAt, e1, e2])⟩
    · rw [if_pos (by omega), wI_of (x := (i : Int) - 1) (by omega), idxM_of (x := nth s (i - 1)) (by omega) (by rw [show ((i : Int) - 1).toNat = i - 1 from by omega]; exact nth_get (by omega))]
      by_cases e6 : (nth s i).T ≤ (nth s (i - 1)).T
      · left; rw [if_pos e6]; simp [all_bad hi (show serAt s i = false by simp [serAt, h0, e6])]
      · right; rw [if_neg e6, wI_of (by omega)]
        exact ⟨by simp, all_lt (by simp [serAt, e1, e2]; omega)⟩
  · try simp only [iteM_dec]
    rw [if_neg (by omega)]
    simp [all_end]
structure SerOk (s : List GSample) : Prop where
  len : s.length ≤ 64
  each : ∀ x ∈ s, tmB x.T = true ∧ numB x.V = true
  asc : s.Pairwise fun x y => x.T < y.T
theorem serB_iff {s : List GSample} : serB s = true ↔ SerOk s := by
  constructor
  · intro h
    simp only [serB, Bool.and_eq_true, decide_eq_true_eq, List.all_eq_true, List.mem_range] at h
    obtain ⟨h1, h4⟩ := h
    refine ⟨h1, fun a ha => ?_, pairwise_of_adj (R := fun p q : GSample => p.T < q.T) (fun _ _ _ h k => Int.lt_trans h k) fun i hi => ?_⟩
    · obtain ⟨i, hi, rfl⟩ := mem_nth ha
      have := h4 i hi
      simp only [serAt, Bool.and_eq_true] at this
      exact this.1
    · have := h4 (i + 1) hi
      simp only [serAt, Bool.and_eq_true, Bool.or_eq_true, decide_eq_true_eq, Nat.add_sub_cancel, Nat.add_eq_zero_iff, Nat.one_ne_zero, and_false, false_or] at this
      exact this.2
  · rintro ⟨h1, h4, h5⟩
    simp only [serB, Bool.and_eq_true, decide_eq_true_eq, List.all_eq_true, List.mem_range]
    refine ⟨h1, fun i hi => ?_⟩
    simp only [serAt, Bool.and_eq_true, Bool.or_eq_true, decide_eq_true_eq]
    refine ⟨h4 _ (nth_mem hi), ?_⟩
    by_cases h0 : i = 0
    · exact .inl h0
    · exact .inr (pairwise_nth h5 (by omega) hi)
def cntS (s : List GSample) : List GSample := if serB s then s else []
theorem series_counted_eq (s : List GSample) : series_counted s = some (cntS s) := by
  unfold series_counted cntS
  simp only [series_Sane_eq, callM_some, letE_eq, iteM_not]
  cases serB s <;> rfl
theorem cntS_ok (s : List GSample) : SerOk (cntS s) := by
  unfold cntS
  split
  · rename_i h; exact serB_iff.1 h
  · exact ⟨by simp, fun x hx => by simp at hx, List.Pairwise.nil⟩
theorem cntS_of {s : List GSample} (h : SerOk s) : cntS s = s := if_pos (serB_iff.2 h)

def nmL : Str := [95, 95, 110, 97, 109, 101, 95, 95]
def namedB (l : List GPair) : Bool := (getL l nmL).2 && saneB l
theorem store_named_eq (l : List GPair) : store_named l = some (namedB l) := by
  unfold store_named namedB
  rw [show ([95, 95, 110, 97, 109, 101, 95, 95] : Str) = nmL from rfl]
  simp only [label_Get_eq, callM_some, label_Sane_eq, retM_eq]
  cases (getL l nmL).2 <;> rfl
def stAt (st : List GSeries) (i : Nat) : Bool := namedB (nth st i).L && decide ((nth st i).S ≠ []) && serB (nth st i).S && (decide (i = 0) || decide (compareL (nth st (i - 1)).L (nth st i).L < 0))
def stB (st : List GSeries) : Bool := decide (st.length ≤ 32) && (List.range st.length).all (stAt st)
theorem store_Sane_eq (st : List GSeries) : store_Sane st = some (stB st) := by
  unfold store_Sane stB
  simp only [letE_eq, iteM_dec]
  by_cases h : 32 < st.length
  · rw [if_pos (by omega), decide_eq_false (by omega)]; rfl
  rw [if_neg (by omega), decide_eq_true (show st.length ≤ 32 by omega)]
  refine (loopM_nat st.length (fun i => (List.range st.length).all fun j => decide (j < i) || stAt st j) ?_ ?_).trans ?_
  rotate_right
  · rw [all_zero]; rfl
  · intro i hi
    simp only [iteM_dec, idxM_get (nth_get hi), store_named_eq, series_Sane_eq, callM_some, iteM_not, drawM_eq]
    rw [if_pos (by omega)]
    cases e1 : namedB (nth st i).L
    · left; simp [all_bad hi (show stAt st i = false by simp [stAt, e1])]
    simp only [iteM_true]
    by_cases e2 : (nth st i).S = []
    · left; rw [e2]; simp [all_bad hi (show stAt st i = false by simp [stAt, e2])]
    rw [if_neg (by have := List.length_pos_iff.2 e2; omega)]
    cases e3 : serB (nth st i).S
    · left; simp [all_bad hi (show stAt st i = false by simp [stAt, e3])]
    simp only [iteM_true]
    by_cases h0 : i = 0
    · right
      subst h0
      rw [if_neg (by omega), wI_of (by omega)]
      exact ⟨by simp, all_lt (by simp [stAt, e1, e2, e3])⟩
    · rw [if_pos (by omega), wI_of (x := (i : Int) - 1) (by omega), idxM_of (x := nth st (i - 1)) (by omega) (by rw [show ((i : Int) - 1).toNat = i - 1 from by omega]; exact nth_get (by omega)), label_Compare_eq, callM_some]
      by_cases e6 : 0 ≤ compareL (nth st (i - 1)).L (nth st i).L
      · left; rw [if_pos e6]; simp [all_bad hi (show stAt st i = false by simp [stAt, h0, e6])]
      · right; rw [if_neg e6, wI_of (by omega)]
        exact ⟨by simp, all_lt (by simp [stAt, e1, e2, e3]; omega)⟩
  · try simp only [iteM_dec]
    rw [if_neg (by omega)]
    simp [all_end]
theorem namedB_sane {l : List GPair} (h : namedB l = true) : saneB l = true := by
  simp only [namedB, Bool.and_eq_true] at h; exact h.2
structure StOk (st : List GSeries) : Prop where
  len : st.length ≤ 32
  each : ∀ x ∈ st, namedB x.L = true ∧ x.S ≠ [] ∧ SerOk x.S
  asc : st.Pairwise fun x y => cmpLs x.L y.L < 0
theorem StOk.sane {st : List GSeries} (h : StOk st) {x : GSeries} (hx : x ∈ st) : saneB x.L = true := namedB_sane (h.each x hx).1
theorem stB_iff {st : List GSeries} : stB st = true ↔ StOk st := by
  constructor
  · intro h
    simp only [stB, Bool.and_eq_true, decide_eq_true_eq, List.all_eq_true, List.mem_range] at h
    obtain ⟨h1, h4⟩ := h
    have he : ∀ a ∈ st, namedB a.L = true ∧ a.S ≠ [] ∧ SerOk a.S := fun a ha => by
      obtain ⟨i, hi, rfl⟩ := mem_nth ha
      have := h4 i hi
      simp only [stAt, Bool.and_eq_true, decide_eq_true_eq] at this
      exact ⟨this.1.1.1, this.1.1.2, serB_iff.1 this.1.2⟩
    refine ⟨h1, he, pairwise_of_adj (R := fun p q : GSeries => cmpLs p.L q.L < 0) (fun _ _ _ h k => cmpLs_lt h k) fun i hi => ?_⟩
    have := h4 (i + 1) hi
    simp only [stAt, Bool.and_eq_true, Bool.or_eq_true, decide_eq_true_eq, Nat.add_sub_cancel, Nat.add_eq_zero_iff, Nat.one_ne_zero, and_false, false_or] at this
    rw [compareL_sane (namedB_sane (he _ (nth_mem (by omega))).1) (namedB_sane (he _ (nth_mem hi)).1)] at this
    exact this.2
  · rintro ⟨h1, h4, h5⟩
    simp only [stB, Bool.and_eq_true, decide_eq_true_eq, List.all_eq_true, List.mem_range]
    refine ⟨h1, fun i hi => ?_⟩
    simp only [stAt, Bool.and_eq_true, Bool.or_eq_true, decide_eq_true_eq]
    obtain ⟨k1, k2, k3⟩ := h4 _ (nth_mem hi)
    refine ⟨⟨⟨k1, k2⟩, serB_iff.2 k3⟩, ?_⟩
    by_cases h0 : i = 0
    · exact .inl h0
    · right
      rw [compareL_sane (namedB_sane (h4 _ (nth_mem (by omega))).1) (namedB_sane k1)]
      exact pairwise_nth h5 (by omega) hi
def cntSt (st : List GSeries) : List GSeries := if stB st then st else []
theorem store_counted_eq (st : List GSeries) : store_counted st = some (cntSt st) := by
  unfold store_counted cntSt
  simp only [store_Sane_eq, callM_some, letE_eq, iteM_not]
  cases stB st <;> rfl
theorem eval_counted_eq (st : List GSeries) : eval_counted st = some (cntSt st) := by
  unfold eval_counted cntSt
  simp only [store_Sane_eq, callM_some, letE_eq, iteM_not]
  cases stB st <;> rfl
theorem cntSt_ok (st : List GSeries) : StOk (cntSt st) := by
  unfold cntSt
  split
  · rename_i h; exact stB_iff.1 h
  · exact ⟨by simp, fun x hx => by simp at hx, List.Pairwise.nil⟩
theorem cntSt_of {st : List GSeries} (h : StOk st) : cntSt st = st := if_pos (stB_iff.2 h)
end Go.Proofs.YtcpjmkbcefmldaaGreatDoor.AM

/- The store's search, and one sample more. -/
namespace Go.Proofs.YtcpjmkbcefmldaaGreatDoor.AM
open Go

def AscG (st : List GSeries) : Prop := st.Pairwise fun x y => cmpLs x.L y.L < 0
def cntL (x : List GSeries) (l : List GPair) : Nat := (x.takeWhile fun y => decide (cmpLs y.L l < 0)).length
theorem cntL_le (x : List GSeries) (l : List GPair) : cntL x l ≤ x.length := by
  unfold cntL
  exact (List.takeWhile_sublist _).length_le
theorem takeWhile_nth {α : Type} [Inhabited α] {p : α → Bool} : ∀ {l : List α} {k : Nat}, k < (l.takeWhile p).length → p (nth l k) = true
  | [], k, h => by simp at h
  | a :: l, k, h => by
    rw [List.takeWhile_cons] at h
    split at h
    · rename_i ha
      cases k with
      | zero => exact ha
      | succ k => exact takeWhile_nth (l := l) (by simpa using h)
    · simp at h
theorem takeWhile_end {α : Type} [Inhabited α] {p : α → Bool} : ∀ {l : List α}, (l.takeWhile p).length < l.length → p (nth l (l.takeWhile p).length) = false
  | [], h => by simp at h
  | a :: l, h => by
    rw [List.takeWhile_cons] at h ⊢
    split
    · rename_i ha
      rw [if_pos ha] at h
      exact takeWhile_end (l := l) (by simpa using h)
    · rename_i ha
      simpa [nth] using ha
theorem cntL_lt {x : List GSeries} {l : List GPair} (ha : AscG x) {k : Nat} (hk : k < x.length) : cmpLs (nth x k).L l < 0 ↔ k < cntL x l := by
  constructor
  · intro h
    rcases Nat.lt_or_ge k (cntL x l) with h1 | h1
    · exact h1
    · have hc : cntL x l < x.length := by omega
      have h2 := takeWhile_end hc
      have h3 : ¬ cmpLs (nth x (cntL x l)).L l < 0 := of_decide_eq_false h2
      rcases Nat.lt_or_eq_of_le h1 with h4 | h4
      · exact absurd (cmpLs_lt (pairwise_nth ha h4 hk) h) h3
      · rw [h4] at h3; exact absurd h h3
  · intro h
    exact of_decide_eq_true (takeWhile_nth (p := fun y : GSeries => decide (cmpLs y.L l < 0)) h)
def wasB (x : List GSeries) (l : List GPair) : Bool := decide (cntL x l < x.length) && decide ((nth x (cntL x l)).L = l)
theorem wasB_at {x : List GSeries} {l : List GPair} (h : wasB x l = true) : cntL x l < x.length ∧ (nth x (cntL x l)).L = l := by
  simpa [wasB] using h
theorem cntL_self {x : List GSeries} (ha : AscG x) {k : Nat} (hk : k < x.length) : cntL x (nth x k).L = k := by
  have h0 : ¬ cmpLs (nth x k).L (nth x k).L < 0 := by
    have := (cmpLs_ord.zero (nth x k).L (nth x k).L).2 rfl
    omega
  have h1 : ¬ k < cntL x (nth x k).L := fun h => h0 ((cntL_lt ha hk).2 h)
  have h2 : ∀ j, j < k → j < cntL x (nth x k).L := fun j hj => (cntL_lt ha (by omega)).1 (pairwise_nth ha hj hk)
  rcases Nat.lt_trichotomy (cntL x (nth x k).L) k with h | h | h
  · exact absurd (h2 _ h) (by omega)
  · exact h
  · exact absurd h h1
theorem wasB_iff {x : List GSeries} {l : List GPair} (ha : AscG x) : wasB x l = true ↔ ∃ y ∈ x, y.L = l := by
  unfold wasB
  simp only [Bool.and_eq_true, decide_eq_true_eq]
  constructor
  · rintro ⟨h1, h2⟩
    exact ⟨_, nth_mem h1, h2⟩
  · rintro ⟨y, hy, rfl⟩
    obtain ⟨k, hk, rfl⟩ := mem_nth hy
    rw [cntL_self ha hk]; exact ⟨hk, rfl⟩
theorem seeker_eq {st : List GSeries} {l : List GPair} {k : Nat} (hk : k < st.length) : store_seeker_compare ⟨st, l⟩ (k : Int) = some (compareL l (nth st k).L) := by
  unfold store_seeker_compare
  simp only [drawM_eq, idxM_get (nth_get hk), label_Compare_eq, callM_some, retM_eq]
theorem find_eq {st : List GSeries} {l : List GPair} (h : StOk st) (hl : saneB l = true) : store_find st l = some ((cntL st l : Int), wasB st l) := by
  have ha : AscG st := h.asc
  have hlen := h.len
  unfold store_find
  simp only [letE_eq]
  have key : sort_Find_o (st.length : Int) ⟨st, l⟩ = some ((cntL st l : Int), wasB st l) := by
    unfold sort_Find_o
    refine loopM_rec (fun s => ∃ i j : Nat, s = ((i : Int), (j : Int)) ∧ i ≤ cntL st l ∧ cntL st l ≤ j ∧ j ≤ st.length) (fun s => (s.2 - s.1).toNat) (fun _ => ((cntL st l : Int), wasB st l)) ?_ ⟨0, st.length, rfl, Nat.zero_le _, cntL_le st l, Nat.le_refl _⟩
    rintro s ⟨i, j, rfl, h1, h2, h3⟩
    simp only [letE_eq, iteM_dec]
    by_cases hij : i < j
    · right
      have e1 : wI ((i : Int) + (j : Int)) = (i : Int) + (j : Int) := wI_of (by omega)
      have e2 : IntKind.u64.wrap ((i : Int) + (j : Int)) = (i : Int) + (j : Int) := IntWalk.u64_in _ (by omega)
      have e3 : ((i : Int) + (j : Int)) / 2 ^ min (1 : Int).toNat 64 = (((i + j) / 2 : Nat) : Int) := by
        show ((i : Int) + (j : Int)) / 2 = _
        omega
      have e4 : wI (((i + j) / 2 : Nat) : Int) = (((i + j) / 2 : Nat) : Int) := wI_of (by omega)
      have hh : (i + j) / 2 < st.length := by omega
      rw [if_pos (by omega), e1, e2, e3, e4, seeker_eq hh, callM_some, compareL_sane hl (h.sane (nth_mem hh))]
      have hfl := cmpLs_ord.anti l (nth st ((i + j) / 2)).L
      by_cases hc : cmpLs (nth st ((i + j) / 2)).L l < 0
      · have := (cntL_lt ha hh).1 hc
        rw [if_pos (by omega), wI_of (by omega)]
        exact ⟨_, rfl, ⟨(i + j) / 2 + 1, j, by simp, by omega, h2, h3⟩, by simp only; omega, trivial⟩
      · have : ¬ (i + j) / 2 < cntL st l := fun h => hc ((cntL_lt ha hh).2 h)
        rw [if_neg (by omega)]
        exact ⟨_, rfl, ⟨i, (i + j) / 2, rfl, h1, by omega, by omega⟩, by simp only; omega, trivial⟩
    · left
      have : i = cntL st l := by omega
      subst this
      rw [if_neg (by omega)]
      unfold wasB
      by_cases hn : cntL st l < st.length
      · rw [if_pos (by omega), seeker_eq hn, callM_some]
        have := compareL_zero hl (h.sane (nth_mem hn))
        simp [hn, this, eq_comm]
      · rw [if_neg (by omega)]
        simp [hn]
  rw [key]
  rfl

/-! ### one sample more -/
def lateB (s : List GSample) (x : GSample) : Bool := (s.getLast?.map fun y => decide (x.T ≤ y.T)).getD false
def appS (s : List GSample) (x : GSample) : List GSample × Int :=
  if tmB x.T && numB x.V then (if lateB (cntS s) x then (cntS s, 9) else ((if 64 ≤ (cntS s).length then (cntS s).drop 1 else cntS s) ++ [x], 0)) else (cntS s, 2)
theorem cloneSm_eq (s : List GSample) (h : s.length ≤ 1000) : slices_Clone_Sample_Sample s = some s := by
  unfold slices_Clone_Sample_Sample
  simp only [letO_eq, retM_eq, List.nil_append, bs0M_eq]
  rw [gdM_pos (by simp; omega)]
  unfold nilM
  rw [if_pos (by rintro rfl; rfl)]
theorem cloneSr_eq (s : List GSeries) (h : s.length ≤ 1000) : slices_Clone_Series_Series s = some s := by
  unfold slices_Clone_Series_Series
  simp only [letO_eq, retM_eq, List.nil_append, bs0M_eq]
  rw [gdM_pos (by simp; omega)]
  unfold nilM
  rw [if_pos (by rintro rfl; rfl)]
theorem append_eq (s : List GSample) (x : GSample) : series_Append s x = some (appS s x) := by
  have hl := (cntS_ok s).len
  unfold series_Append appS lateB
  rw [series_counted_eq, series_time_eq, num_Sane_eq]
  simp only [Option.bind_some]
  cases h1 : (tmB x.T && numB x.V)
  · rfl
  · simp only [if_true]
    cases h2 : ((cntS s).getLast?.map fun y => decide (x.T ≤ y.T)).getD false
    · simp only [Bool.false_eq_true, if_false]
      have hd : (if 64 ≤ (cntS s).length then (cntS s).drop 1 else cntS s).length ≤ 64 := by
        split
        · rw [List.length_drop]; omega
        · exact hl
      rw [cloneSm_eq _ (by omega)]
      simp only [Option.bind_some]
      rw [gdM_pos (by omega)]
    · rfl
theorem appS_ok {s t : List GSample} {x : GSample} (h : SerOk s) (ha : appS s x = (t, 0)) : SerOk t ∧ t ≠ [] ∧ t.getLast? = some x ∧ (∀ y ∈ s, y.T < x.T) ∧ tmB x.T = true ∧ numB x.V = true := by
  unfold appS at ha
  rw [cntS_of h] at ha
  cases h1 : (tmB x.T && numB x.V)
  · rw [h1] at ha; simp at ha
  · rw [h1] at ha
    simp only [if_true] at ha
    have h1' : tmB x.T = true ∧ numB x.V = true := by simpa using h1
    cases h2 : lateB s x
    · rw [h2] at ha
      simp only [Bool.false_eq_true, if_false, Prod.mk.injEq, and_true] at ha
      have hlast : ∀ y ∈ s, y.T < x.T := by
        intro y hy
        have hne : s ≠ [] := List.ne_nil_of_mem hy
        have hl := List.getLast?_eq_some_getLast hne
        unfold lateB at h2
        rw [hl] at h2
        simp only [Option.map_some, Option.getD_some, decide_eq_false_iff_not] at h2
        obtain ⟨k, hk, rfl⟩ := mem_nth hy
        by_cases hk1 : k = s.length - 1
        · have : nth s k = s.getLast hne := by
            rw [List.getLast_eq_getElem]
            have := nth_get hk
            rw [List.getElem?_eq_getElem hk] at this
            simp only [Option.some.injEq] at this
            rw [← this]
            congr 1
          rw [this]; omega
        · have h3 := pairwise_nth h.asc (i := k) (j := s.length - 1) (by omega) (by omega)
          have : nth s (s.length - 1) = s.getLast hne := by
            rw [List.getLast_eq_getElem]
            have := nth_get (l := s) (k := s.length - 1) (by omega)
            rw [List.getElem?_eq_getElem (by omega)] at this
            simp only [Option.some.injEq] at this
            exact this.symm
          rw [this] at h3; omega
      subst ha
      have hsub : (if 64 ≤ s.length then s.drop 1 else s).Sublist s := by
        split
        · exact List.drop_sublist _ _
        · exact List.Sublist.refl _
      refine ⟨⟨?_, ?_, ?_⟩, by simp, by simp, hlast, h1'⟩
      · have := h.len
        rw [List.length_append, List.length_singleton]
        split
        · rw [List.length_drop]; omega
        · omega
      · intro y hy
        rcases List.mem_append.1 hy with hy | hy
        · exact h.each y (hsub.subset hy)
        · rw [List.mem_singleton.1 hy]; exact h1'
      · rw [List.pairwise_append]
        refine ⟨h.asc.sublist hsub, List.pairwise_singleton _ _, fun a ha b hb => ?_⟩
        rw [List.mem_singleton.1 hb]
        exact hlast a (hsub.subset ha)
    · rw [h2] at ha; simp at ha
end Go.Proofs.YtcpjmkbcefmldaaGreatDoor.AM

/- One sample more in a store. -/
namespace Go.Proofs.YtcpjmkbcefmldaaGreatDoor.AM
open Go

@[simp] theorem callP_some {α β : Type} (ks : List Nat) (enc : α → AV) (ob : α → List Obj) (a : α) (m : α → Option β) : callP ks enc ob (some a) m = m a := rfl
def oldS (st : List GSeries) (l : List GPair) : List GSample := if wasB st l then (nth st (cntL st l)).S else []
def putSt (st : List GSeries) (l : List GPair) (s : List GSample) : List GSeries :=
  if wasB st l then st.set (cntL st l) ⟨(nth st (cntL st l)).L, s⟩ else st.take (cntL st l) ++ [⟨l, s⟩] ++ st.drop (cntL st l)
def addSt (st0 : List GSeries) (l : List GPair) (x : GSample) : List GSeries × Int :=
  if namedB l then
    (if (appS (oldS (cntSt st0) l) x).2 = 0 then
      (if wasB (cntSt st0) l = false ∧ 32 ≤ (cntSt st0).length then (cntSt st0, 10) else (putSt (cntSt st0) l (appS (oldS (cntSt st0) l) x).1, 0))
     else (cntSt st0, (appS (oldS (cntSt st0) l) x).2))
  else (cntSt st0, 7)
theorem add_eq (st : List GSeries) (l : List GPair) (x : GSample) : store_Add st l x = some (addSt st l x) := by
  have hc := cntSt_ok st
  have hlen := hc.len
  unfold store_Add addSt
  rw [store_counted_eq, callM_some, store_named_eq, callM_some]
  generalize cntSt st = c at *
  simp only [letE_eq, iteM_not]
  cases hn : namedB l
  · rfl
  simp only [iteM_true, if_true]
  rw [find_eq hc (namedB_sane hn), callM_some]
  simp only [joinM_eq, cloneSr_eq c (by omega), callM_some, append_eq, bs0M_eq, letO_eq, regW_eq, ownM_eq, linM_eq, nextM_eq, iteM_not]
  unfold oldS putSt
  cases hw : wasB c l
  · simp only [iteM_false, Option.bind_some, Sum.elim_inl, iteM_dec, bif_and, Bool.false_eq_true, if_false, Bool.not_false, Bool.true_and, true_and]
    by_cases h0 : (appS [] x).2 = 0
    · rw [if_pos h0, if_pos h0]
      by_cases h32 : 32 ≤ c.length
      · rw [if_pos (by omega), if_pos h32]; rfl
      · rw [if_neg (by omega), if_neg h32]
        have hle := cntL_le c l
        unfold slicesInsert_GSeries slicesInsert
        rw [gdM_pos ⟨by omega, by omega, rfl, by omega⟩, callP_some]
        simp
    · rw [if_neg h0, if_neg h0]; rfl
  · obtain ⟨h1, h2⟩ := wasB_at hw
    simp only [iteM_true, idxM_get (nth_get h1), Option.bind_some, Sum.elim_inl, iteM_dec, bif_and, Bool.not_true, Bool.false_and, iteM_false, if_true, Bool.true_eq_false, false_and, if_false]
    by_cases h0 : (appS (nth c (cntL c l)).S x).2 = 0
    · rw [if_pos h0, if_pos h0]; simp
    · rw [if_neg h0, if_neg h0]; rfl

theorem addSt_ok {st st' : List GSeries} {l : List GPair} {x : GSample} (h : StOk st) (ha : addSt st l x = (st', 0)) :
    ∃ (A B : List GSeries) (S : List GSample) (o : Option GSeries), st' = A ++ ⟨l, S⟩ :: B ∧ st = A ++ o.toList ++ B ∧ (∀ s, o = some s → s.L = l ∧ ∀ y ∈ s.S, y.T < x.T) ∧ S.getLast? = some x ∧ (∀ s ∈ A ++ B, s.L ≠ l) ∧ StOk st' := by
  unfold addSt at ha
  rw [cntSt_of h] at ha
  cases hn : namedB l
  · rw [hn] at ha; simp at ha
  rw [hn] at ha
  simp only [if_true] at ha
  by_cases h0 : (appS (oldS st l) x).2 = 0
  · rw [if_pos h0] at ha
    by_cases hf : wasB st l = false ∧ 32 ≤ st.length
    · rw [if_pos hf] at ha; simp at ha
    rw [if_neg hf] at ha
    simp only [Prod.mk.injEq, and_true] at ha
    have hso : SerOk (oldS st l) := by
      unfold oldS
      split
      · rename_i hw
        exact (h.each _ (nth_mem (wasB_at hw).1)).2.2
      · exact ⟨by simp, fun y hy => by simp at hy, List.Pairwise.nil⟩
    obtain ⟨k1, k2, k3, k4, _, _⟩ := appS_ok hso (show appS (oldS st l) x = ((appS (oldS st l) x).1, 0) from Prod.ext rfl h0)
    generalize (appS (oldS st l) x).1 = S at *
    subst ha
    unfold putSt oldS at *
    have hascL : (st.map (·.L)).Pairwise (fun p q => cmpLs p q < 0) := List.pairwise_map.2 h.asc
    cases hw : wasB st l
    · rw [hw] at hf
      simp only [hw, Bool.false_eq_true, if_false] at hso k4 h0 ⊢
      have hno : ∀ y ∈ st, y.L ≠ l := fun y hy e => by
        have := (wasB_iff h.asc).2 ⟨y, hy, e⟩
        rw [hw] at this; cases this
      have hA : ∀ a ∈ st.take (cntL st l), cmpLs a.L l < 0 := by
        intro a ha
        obtain ⟨k, hk, rfl⟩ := List.getElem_of_mem ha
        rw [List.length_take] at hk
        have := (cntL_lt h.asc (k := k) (l := l) (by omega)).2 (by omega)
        rw [List.getElem_take]
        have e := nth_get (l := st) (k := k) (by omega)
        rw [List.getElem?_eq_getElem (by omega)] at e
        simp only [Option.some.injEq] at e
        rw [e]; exact this
      have hB : ∀ b ∈ st.drop (cntL st l), cmpLs l b.L < 0 := by
        intro b hb
        obtain ⟨k, hk, rfl⟩ := List.getElem_of_mem hb
        rw [List.length_drop] at hk
        rw [List.getElem_drop]
        have e := nth_get (l := st) (k := cntL st l + k) (by omega)
        rw [List.getElem?_eq_getElem (by omega)] at e
        simp only [Option.some.injEq] at e
        rw [e]
        refine cmp_flip (fun hlt => ?_) (hno _ (nth_mem (by omega)))
        have := (cntL_lt h.asc (l := l) (k := cntL st l + k) (by omega)).1 hlt
        omega
      refine ⟨st.take (cntL st l), st.drop (cntL st l), S, none, by simp, by simp, (fun s hs => by cases hs), k3, (fun s hs => hno s (by rwa [List.take_append_drop] at hs)), ?_, fun s hs => ?_, ?_⟩
      · simp only [List.length_append, List.length_take, List.length_drop, List.length_singleton]
        have := cntL_le st l
        have hl := h.len
        simp only [true_and] at hf
        omega
      · rcases List.mem_append.1 hs with hs | hs
        · rcases List.mem_append.1 hs with hs | hs
          · exact h.each s (List.mem_of_mem_take hs)
          · rw [List.mem_singleton.1 hs]; exact ⟨hn, k2, k1⟩
        · exact h.each s (List.mem_of_mem_drop hs)
      · rw [List.append_assoc, List.pairwise_append]
        refine ⟨h.asc.sublist (List.take_sublist _ _), ?_, ?_⟩
        · rw [List.singleton_append, List.pairwise_cons]
          exact ⟨hB, h.asc.sublist (List.drop_sublist _ _)⟩
        · intro a ha b hb
          rcases List.mem_append.1 hb with hb | hb
          · rw [List.mem_singleton.1 hb]; exact hA a ha
          · exact cmpLs_lt (hA a ha) (hB b hb)
    · obtain ⟨h1, h2⟩ := wasB_at hw
      simp only [hw, if_true] at hso k4 h0 ⊢
      have hsp : st = st.take (cntL st l) ++ nth st (cntL st l) :: st.drop (cntL st l + 1) := by
        conv => lhs; rw [← List.take_append_drop (cntL st l) st]
        rw [drop_nth h1]
      have hset : st.set (cntL st l) ⟨(nth st (cntL st l)).L, S⟩ = st.take (cntL st l) ++ ⟨l, S⟩ :: st.drop (cntL st l + 1) := by
        rw [List.set_eq_take_append_cons_drop, if_pos h1, h2]
      rw [hset]
      have hmap : (st.take (cntL st l) ++ (⟨l, S⟩ : GSeries) :: st.drop (cntL st l + 1)).map (·.L) = st.map (·.L) := by
        conv => rhs; rw [hsp]
        simp [h2]
      refine ⟨st.take (cntL st l), st.drop (cntL st l + 1), S, some (nth st (cntL st l)), rfl, by simpa using hsp, fun s hs => ?_, k3, fun s hs e => ?_, ?_, fun s hs => ?_, List.pairwise_map.1 (by rw [hmap]; exact hascL)⟩
      · cases hs; exact ⟨h2, k4⟩
      · have hsp2 := h.asc
        rw [hsp, List.pairwise_append] at hsp2
        obtain ⟨_, q2, q3⟩ := hsp2
        have hz : ¬ cmpLs l l < 0 := by have := (cmpLs_ord.zero l l).2 rfl; omega
        rcases List.mem_append.1 hs with hs | hs
        · have := q3 s hs _ List.mem_cons_self
          rw [e, h2] at this; exact hz this
        · have := (List.pairwise_cons.1 q2).1 s hs
          rw [e, h2] at this; exact hz this
      · have := congrArg List.length hmap
        simp only [List.length_map] at this
        rw [this]; exact h.len
      · rcases List.mem_append.1 hs with hs | hs
        · exact h.each s (List.mem_of_mem_take hs)
        · rcases List.mem_cons.1 hs with hs | hs
          · rw [hs]; exact ⟨hn, k2, k1⟩
          · exact h.each s (List.mem_of_mem_drop hs)
  · rw [if_neg h0] at ha
    simp only [Prod.mk.injEq] at ha
    exact absurd ha.2 h0
theorem addSt_bad {st st' : List GSeries} {l : List GPair} {x : GSample} {e : Int} (ha : addSt st l x = (st', e)) (he : e ≠ 0) : st' = cntSt st := by
  unfold addSt at ha
  split at ha
  · split at ha
    · split at ha
      · cases ha; rfl
      · cases ha; exact absurd rfl he
    · cases ha; rfl
  · cases ha; rfl
theorem addSt_sane {st st' : List GSeries} {l : List GPair} {x : GSample} {e : Int} (ha : addSt st l x = (st', e)) (h : StOk st) : StOk st' := by
  by_cases he : e = 0
  · subst he
    obtain ⟨_, _, _, _, _, _, _, _, _, h⟩ := addSt_ok h ha
    exact h
  · rw [addSt_bad ha he, cntSt_of h]; exact h
end Go.Proofs.YtcpjmkbcefmldaaGreatDoor.AM

/- Rules: what is sane, what fits, what holds. -/
namespace Go.Proofs.YtcpjmkbcefmldaaGreatDoor.AM
open Go

def anL : Str := [97, 108, 101, 114, 116, 110, 97, 109, 101]
def asL : Str := [97, 108, 101, 114, 116, 115, 116, 97, 116, 101]
def mOk (m : GMatch) : Bool := nameB m.Name && decide (m.Value.length ≤ 64)
def selB (s : GSel) : Bool := nameB s.Name && decide (s.M.length ≤ 8) && s.M.all mOk
theorem sel_Sane_eq (s : GSel) : sel_Sane s = some (selB s) := by
  unfold sel_Sane selB
  simp only [label_Name_eq, callM_some, letE_eq, iteM_not, iteM_dec]
  cases nameB s.Name
  · rfl
  simp only [iteM_true, Bool.true_and]
  by_cases h : 8 < s.M.length
  · rw [if_pos (by omega), decide_eq_false (by omega)]; rfl
  rw [if_neg (by omega), decide_eq_true (show s.M.length ≤ 8 by omega), Bool.true_and]
  refine (loopM_nat s.M.length (fun i => (s.M.drop i).all mOk) ?_ ?_).trans (by simp)
  · intro i hi
    simp only [iteM_dec, idxM_get (nth_get hi)]
    rw [if_pos (by omega), drop_nth hi, List.all_cons]
    cases h1 : nameB (nth s.M i).Name
    · left; simp [mOk, h1]
    · simp only [iteM_true]
      by_cases h2 : 64 < (nth s.M i).Value.length
      · left; rw [if_pos (by omega)]; simp [mOk, show ¬ (nth s.M i).Value.length ≤ 64 from by omega]
      · right; rw [if_neg (by omega), wI_of (by omega)]
        exact ⟨by simp, by simp [mOk, h1]; omega⟩
  · try simp only [iteM_dec]
    rw [if_neg (by omega)]
    simp
def exprB (e : GExpr) : Bool := selB e.S && (decide (1 ≤ e.Op) && decide (e.Op ≤ 6)) && numB e.V
theorem cond_Sane_eq (e : GExpr) : cond_Sane e = some (exprB e) := by
  unfold cond_Sane cond_isOp exprB
  simp only [sel_Sane_eq, callM_some, letE_eq, num_Sane_eq, bif_and, retM_eq]
  cases selB e.S
  · rfl
  cases (decide (1 ≤ e.Op) && decide (e.Op ≤ 6)) <;> rfl
theorem dur_Sane_eq (v : Int) : dur_Sane v = some (tmB v) := by
  unfold dur_Sane
  simp only [letE_eq, bif_and]; rfl
def resB (n : Str) : Bool := decide (n = nmL) || decide (n = anL) || decide (n = asL)
theorem rule_Reserved_eq (n : Str) : rule_Reserved n = some (resB n) := by
  unfold rule_Reserved resB
  simp only [letE_eq, bif_or, retM_eq]; rfl
theorem rule_reserved_eq (l : List GPair) (h : l.length ≤ 1000000) : rule_reserved l = some (l.any fun p => resB p.1) := by
  unfold rule_reserved
  simp only [letE_eq]
  refine (loopM_nat l.length (fun i => (l.drop i).any fun p => resB p.1) ?_ ?_).trans (by simp)
  · intro i hi
    simp only [iteM_dec, idxM_get (pr_get hi), rule_Reserved_eq, callM_some]
    rw [if_pos (by omega), drop_pr hi, List.any_cons]
    cases h1 : resB (pr l i).1
    · right; rw [wI_of (by omega)]; exact ⟨by simp, by simp⟩
    · left; simp
  · try simp only [iteM_dec]
    rw [if_neg (by omega)]
    simp
def ruleB (r : GRule) : Bool := nameB r.Name && exprB r.E && tmB r.For && tmB r.Keep && saneB r.Labels && !r.Labels.any fun p => resB p.1
theorem rule_Sane_eq (r : GRule) : rule_Sane r = some (ruleB r) := by
  unfold rule_Sane ruleB
  simp only [label_Name_eq, callM_some, letE_eq, cond_Sane_eq, dur_Sane_eq, label_Sane_eq, retM_eq]
  cases nameB r.Name
  · rfl
  cases exprB r.E
  · rfl
  cases tmB r.For
  · rfl
  cases tmB r.Keep
  · rfl
  cases h : saneB r.Labels
  · rfl
  simp only [iteM_true]
  rw [rule_reserved_eq _ (by have := (saneB_iff.1 h).1; omega)]
  rfl
def fitsB (s : GSel) (l : List GPair) : Bool := selB s && saneB l && (getL l nmL).2 && decide ((getL l nmL).1 = s.Name) && s.M.all fun m => !(decide ((getL l m.Name).1 = m.Value) == m.Not)
theorem sel_Fits_eq (s : GSel) (l : List GPair) : sel_Fits s l = some (fitsB s l) := by
  unfold sel_Fits fitsB
  rw [show ([95, 95, 110, 97, 109, 101, 95, 95] : Str) = nmL from rfl]
  simp only [sel_Sane_eq, callM_some, letE_eq, iteM_not, iteM_dec, label_Sane_eq, label_Get_eq]
  cases h1 : selB s
  · rfl
  cases saneB l
  · rfl
  cases (getL l nmL).2
  · rfl
  simp only [iteM_true, Bool.true_and]
  by_cases h : ¬ (getL l nmL).1 = s.Name
  · rw [if_neg h, decide_eq_false h]; rfl
  have h := Decidable.not_not.1 h
  rw [if_pos h, decide_eq_true h, Bool.true_and]
  have h8 : s.M.length ≤ 8 := by simp [selB] at h1; omega
  refine (loopM_nat s.M.length (fun i => (s.M.drop i).all fun m => !(decide ((getL l m.Name).1 = m.Value) == m.Not)) ?_ ?_).trans (by simp)
  · intro i hi
    simp only [iteM_dec, idxM_get (nth_get hi), label_Get_eq, callM_some]
    rw [if_pos (by omega), drop_nth hi, List.all_cons]
    cases h1 : (decide ((getL l (nth s.M i).Name).1 = (nth s.M i).Value) == (nth s.M i).Not)
    · right; rw [wI_of (by omega)]; exact ⟨by simp, by simp [h1]⟩
    · left; simp [h1]
  · try simp only [iteM_dec]
    rw [if_neg (by omega)]
    simp
def meanR (sel : GSel) (t w : Int) (g : GSeries) : Option GFound := if fitsB sel g.L then (if (atR t w (cntS g.S).reverse).2 then some ⟨g.L, (atR t w (cntS g.S).reverse).1⟩ else none) else none
def selectF (st : List GSeries) (sel : GSel) (t w : Int) : List GFound := (cntSt st).filterMap (meanR sel t w)
theorem select_eq (st : List GSeries) (sel : GSel) (t w : Int) : store_Select st sel t w = some (selectF st sel t w) := by
  have hlen := (cntSt_ok st).len
  unfold store_Select selectF
  rw [store_counted_eq, callM_some]
  generalize cntSt st = c at *
  simp only [letE_eq, tokM_eq]
  refine (loopM_natA c.length (fun i a => a.length ≤ i) (fun i a => a ++ (c.drop i).filterMap (meanR sel t w)) ?_ ?_ (Nat.le_refl _)).trans (by simp)
  · intro i a hi ha
    right
    simp only [iteM_dec, idxM_get (nth_get hi), iteM_not, letO_eq, sel_Fits_eq, callM_some, series_At, series_counted_eq, Option.bind_some]
    rw [if_pos (by omega), drop_nth hi, wI_of (by omega)]
    cases h1 : fitsB sel (nth c i).L
    · exact ⟨a, by simp, by omega, by simp [meanR, h1]⟩
    · cases h2 : (atR t w (cntS (nth c i).S).reverse).2
      · exact ⟨a, by simp, by omega, by simp [meanR, h1, h2]⟩
      · rw [gdM_pos (by simp; omega)]
        exact ⟨a ++ [⟨(nth c i).L, (atR t w (cntS (nth c i).S).reverse).1⟩], by simp, by simp; omega, by simp [meanR, h1, h2]⟩
  · intro a ha
    simp only [iteM_dec]
    rw [if_neg (by omega)]
    simp
theorem select_len (st : List GSeries) (sel : GSel) (t w : Int) : (selectF st sel t w).length ≤ 32 := Nat.le_trans (List.length_filterMap_le _ _) (cntSt_ok st).len
def holdsB (op x v : Int) : Bool :=
  if op = 1 then decide (v < x) else if op = 2 then decide (v ≤ x) else if op = 3 then decide (x < v) else if op = 4 then decide (x ≤ v) else if op = 5 then decide (x = v) else if op = 6 then !decide (x = v) else false
theorem cond_Holds_eq (op x v : Int) : cond_Holds op x v = some (holdsB op x v) := by
  unfold cond_Holds holdsB
  simp only [letE_eq, iteM_dec, retM_eq]
  (repeat' split) <;> rfl
def alertL (r : GRule) (l : List GPair) : List GPair × Bool :=
  if (mergeLL (withoutL l nmL) r.Labels).2 = 0 then
    (if (mergeLL (mergeLL (withoutL l nmL) r.Labels).1 [⟨anL, r.Name⟩]).2 = 0 then ((mergeLL (mergeLL (withoutL l nmL) r.Labels).1 [⟨anL, r.Name⟩]).1, true) else ([], false))
  else ([], false)
theorem alert_eq (r : GRule) (l : List GPair) : eval_alert r l = some (alertL r l) := by
  unfold eval_alert alertL
  rw [show ([95, 95, 110, 97, 109, 101, 95, 95] : Str) = nmL from rfl, show ([97, 108, 101, 114, 116, 110, 97, 109, 101] : Str) = anL from rfl]
  simp only [permM_eq, label_Without_eq, callM_some, label_Merge_eq, letE_eq, iteM_not, iteM_dec, retM_eq]
  (repeat' split) <;> rfl
def amongB (f : List GFound) (l : List GPair) : Bool := f.any fun y => decide (compareL y.L l = 0)
theorem among_eq (f : List GFound) (l : List GPair) (h : f.length ≤ 1000000) : eval_among f l = some (amongB f l) := by
  unfold eval_among amongB
  simp only [letE_eq]
  refine (loopM_nat f.length (fun i => (f.drop i).any fun y => decide (compareL y.L l = 0)) ?_ ?_).trans (by simp)
  · intro i hi
    simp only [iteM_dec, idxM_get (nth_get hi), label_Compare_eq, callM_some]
    rw [if_pos (by omega), drop_nth hi, List.any_cons]
    by_cases h1 : compareL (nth f i).L l = 0
    · left; rw [if_pos h1]; simp [h1]
    · right; rw [if_neg h1, wI_of (by omega)]; exact ⟨by simp, by simp [h1]⟩
  · try simp only [iteM_dec]
    rw [if_neg (by omega)]
    simp
def candR (r : GRule) (f : GFound) : Option GFound := if holdsB r.E.Op f.X.V r.E.V then (if (alertL r f.L).2 then some ⟨(alertL r f.L).1, f.X⟩ else none) else none
def addU (acc : List GFound) (x : GFound) : List GFound := if amongB acc x.L then acc else acc ++ [x]
def ruleF (st : List GSeries) (r : GRule) (t : Int) : List GFound := if ruleB r then ((selectF st r.E.S t 300000).filterMap (candR r)).foldl addU [] else []
theorem rule_eq (st : List GSeries) (r : GRule) (t : Int) : eval_Rule st r t = some (ruleF st r t) := by
  unfold eval_Rule ruleF
  rw [rule_Sane_eq, callM_some]
  simp only [letE_eq, iteM_not]
  cases ruleB r
  · rfl
  simp only [iteM_true, if_true]
  rw [select_eq, callM_some]
  have hlen := select_len st r.E.S t 300000
  generalize selectF st r.E.S t 300000 = c at *
  simp only [tokM_eq, shM_eq]
  refine (loopM_natA c.length (fun i a => a.length ≤ i) (fun i a => ((c.drop i).filterMap (candR r)).foldl addU a) ?_ ?_ (Nat.le_refl _)).trans (by simp)
  · intro i a hi ha
    right
    simp only [iteM_dec, idxM_get (nth_get hi), iteM_not, letO_eq, cond_Holds_eq, callM_some, alert_eq]
    rw [if_pos (by omega), drop_nth hi, wI_of (by omega)]
    cases h1 : holdsB r.E.Op (nth c i).X.V r.E.V
    · exact ⟨a, by simp, by omega, by simp [candR, h1]⟩
    · cases h2 : (alertL r (nth c i).L).2
      · exact ⟨a, by simp, by omega, by simp [candR, h1, h2]⟩
      · rw [among_eq _ _ (by omega), callM_some]
        cases h3 : amongB a (alertL r (nth c i).L).1
        · rw [gdM_pos (by simp; omega)]
          exact ⟨a ++ [⟨(alertL r (nth c i).L).1, (nth c i).X⟩], by simp, by simp; omega, by simp [candR, h1, h2, addU, h3]⟩
        · exact ⟨a, by simp, by omega, by simp [candR, h1, h2, addU, h3]⟩
  · intro a ha
    simp only [iteM_dec]
    rw [if_neg (by omega)]
    simp
end Go.Proofs.YtcpjmkbcefmldaaGreatDoor.AM

/- What is written, and groups. -/
namespace Go.Proofs.YtcpjmkbcefmldaaGreatDoor.AM
open Go

def activeF (x : GTable) : List GAlert := (cntT x).A.filter fun a => !decide (a.State = 0)
theorem active_eq (x : GTable) : table_Active x = some (activeF x) := by
  have hlen := (tabB_iff.1 (cntT_ok x)).len
  unfold table_Active activeF
  rw [table_counted_eq, callM_some]
  generalize (cntT x).A = c at *
  simp only [letE_eq, tokM_eq]
  refine (loopM_natA c.length (fun i a => a.length ≤ i) (fun i a => a ++ (c.drop i).filter fun a => !decide (a.State = 0)) ?_ ?_ (Nat.le_refl _)).trans (by simp)
  · intro i a hi ha
    right
    simp only [iteM_dec, idxM_get (nth_get hi), iteM_not, letO_eq]
    rw [if_pos (by omega), drop_nth hi, wI_of (by omega)]
    by_cases h1 : (nth c i).State = 0
    · rw [if_pos h1]; exact ⟨a, by simp, by omega, by simp [h1]⟩
    · rw [if_neg h1, gdM_pos (by simp; omega)]
      exact ⟨a ++ [nth c i], by simp, by simp; omega, by simp [h1]⟩
  · intro a ha
    simp only [iteM_dec]
    rw [if_neg (by omega)]
    simp
theorem activeF_len (x : GTable) : (activeF x).length ≤ 16 := Nat.le_trans (List.length_filter_le _ _) (tabB_iff.1 (cntT_ok x)).len
theorem activeF_ok {x : GTable} {a : GAlert} (h : a ∈ activeF x) : alOk a = true ∧ a.State ≠ 0 := by
  unfold activeF at h
  rw [List.mem_filter] at h
  exact ⟨(tabB_iff.1 (cntT_ok x)).each a h.1, by simpa using h.2⟩
theorem activeF_state {x : GTable} {a : GAlert} (h : a ∈ activeF x) : a.State = 1 ∨ a.State = 2 := by
  obtain ⟨h1, h2⟩ := activeF_ok h
  simp only [alOk, Bool.and_eq_true, decide_eq_true_eq] at h1
  omega
def alsL : Str := [65, 76, 69, 82, 84, 83]
def stName (s : Int) : Str := if s = 1 then [112, 101, 110, 100, 105, 110, 103] else [102, 105, 114, 105, 110, 103]
def writtenL (a : GAlert) : List GPair × Int :=
  if (withL a.L nmL alsL).2 = 0 then withL (withL a.L nmL alsL).1 asL (stName a.State) else ([], (withL a.L nmL alsL).2)
theorem written_eq {a : GAlert} (h : a.State = 1 ∨ a.State = 2) : eval_written a = some (writtenL a) := by
  unfold eval_written writtenL
  rw [show ([95, 95, 110, 97, 109, 101, 95, 95] : Str) = nmL from rfl, show ([65, 76, 69, 82, 84, 83] : Str) = alsL from rfl, show ([97, 108, 101, 114, 116, 115, 116, 97, 116, 101] : Str) = asL from rfl]
  simp only [label_With_eq, callM_some, letE_eq, iteM_not, iteM_dec, retM_eq]
  have hx : ∀ {β : Type} (m : Str → Option β), idxM gl0 a.State m = m (stName a.State) := fun m => by
    rcases h with h | h <;> rw [h] <;> rfl
  rw [hx]
  split <;> rfl
def writeS (t : Int) (s : List GSeries × Int) (a : GAlert) : List GSeries × Int :=
  if (writtenL a).2 = 0 then (if (addSt s.1 (writtenL a).1 ⟨t, 1000⟩).2 = 0 then ((addSt s.1 (writtenL a).1 ⟨t, 1000⟩).1, s.2) else (s.1, s.2 + 1)) else (s.1, s.2 + 1)
def writeF (st : List GSeries) (x : GTable) (t : Int) : List GSeries × Int := (activeF x).foldl (writeS t) (cntSt st, 0)
theorem writeS_off (t : Int) (s : List GSeries × Int) (a : GAlert) : s.2 ≤ (writeS t s a).2 ∧ (writeS t s a).2 ≤ s.2 + 1 := by
  unfold writeS
  split
  · split
    · exact ⟨Int.le_refl _, by simp only; omega⟩
    · exact ⟨by simp only; omega, Int.le_refl _⟩
  · exact ⟨by simp only; omega, Int.le_refl _⟩
theorem foldW_off (t : Int) : ∀ (l : List GAlert) (s : List GSeries × Int), s.2 ≤ (l.foldl (writeS t) s).2 ∧ (l.foldl (writeS t) s).2 ≤ s.2 + l.length
  | [], s => by simp
  | a :: l, s => by
    have h := writeS_off t s a
    have k := foldW_off t l (writeS t s a)
    simp only [List.foldl_cons, List.length_cons]
    omega
theorem write_off (st : List GSeries) (x : GTable) (t : Int) : 0 ≤ (writeF st x t).2 ∧ (writeF st x t).2 ≤ 16 := by
  have h := foldW_off t (activeF x) (cntSt st, 0)
  have := activeF_len x
  simp only at h
  unfold writeF; omega
theorem write_eq (st : List GSeries) (x : GTable) (t : Int) : eval_Write st x t = some (writeF st x t) := by
  unfold eval_Write writeF
  rw [eval_counted_eq, callM_some, active_eq, callM_some]
  have hlen := activeF_len x
  have hstt : ∀ a ∈ activeF x, a.State = 1 ∨ a.State = 2 := fun a h => activeF_state h
  generalize activeF x = A at *
  simp only [letE_eq]
  refine loopM_ix (fun s => s.2.1) (fun i => (((A.take i).foldl (writeS t) (cntSt st, 0)).1, (i : Int), ((A.take i).foldl (writeS t) (cntSt st, 0)).2)) A.length _ (fun _ => rfl) ?_ ?_ (by simp)
  · intro i hi
    have ho := foldW_off t (A.take i) (cntSt st, 0)
    rw [List.length_take, Nat.min_eq_left (by omega)] at ho
    simp only at ho
    simp only [iteM_dec, idxM_get (nth_get hi), written_eq (hstt _ (nth_mem hi)), callM_some, iteM_not, add_eq]
    rw [if_pos (by omega), foldl_take hi]
    generalize (A.take i).foldl (writeS t) (cntSt st, 0) = s at *
    unfold writeS
    rw [wI_of (x := s.2 + 1) (by omega), wI_of (x := (i : Int) + 1) (by omega)]
    by_cases h1 : (writtenL (nth A i)).2 = 0
    · rw [if_pos h1, if_pos h1]
      by_cases h2 : (addSt s.1 (writtenL (nth A i)).1 ⟨t, 1000⟩).2 = 0
      · rw [if_pos h2, if_pos h2]; simp
      · rw [if_neg h2, if_neg h2]; simp
    · rw [if_neg h1, if_neg h1]; simp
  · simp only [iteM_dec]
    rw [if_neg (by omega)]
    simp
theorem writeS_sane {t : Int} {s : List GSeries × Int} (h : StOk s.1) (a : GAlert) : StOk (writeS t s a).1 := by
  unfold writeS
  split
  · split
    · exact addSt_sane (e := (addSt s.1 (writtenL a).1 ⟨t, 1000⟩).2) rfl h
    · exact h
  · exact h
theorem foldW_sane {t : Int} : ∀ (l : List GAlert) {s : List GSeries × Int}, StOk s.1 → StOk (l.foldl (writeS t) s).1
  | [], _, h => h
  | a :: l, _, h => foldW_sane l (writeS_sane h a)
theorem write_sane (st : List GSeries) (x : GTable) (t : Int) : StOk (writeF st x t).1 := foldW_sane _ (cntSt_ok st)

def gStep (t : Int) (acc : List GSeries × List GTable × Int) (r : GRule) (T : GTable) : List GSeries × List GTable × Int :=
  ((writeF acc.1 (stepT T (ruleF acc.1 r t) t r.For r.Keep) t).1, acc.2.1 ++ [stepT T (ruleF acc.1 r t) t r.For r.Keep], acc.2.2 + (writeF acc.1 (stepT T (ruleF acc.1 r t) t r.For r.Keep) t).2)
abbrev GAcc := List GSeries × List GTable × Int
def groupR (t : Int) (acc : GAcc) (rs : List GRule) (T : List GTable) : GAcc := (rs.foldl (fun (s : GAcc × List GTable) r => (gStep t s.1 r (s.2.headD t0), s.2.tail)) (acc, T)).1
theorem groupR_nil (t : Int) (acc : GAcc) (T : List GTable) : groupR t acc [] T = acc := by unfold groupR; rw [List.foldl_nil]
theorem groupR_cons (t : Int) (acc : GAcc) (r : GRule) (rs : List GRule) (T : List GTable) : groupR t acc (r :: rs) T = groupR t (gStep t acc r (T.headD t0)) rs T.tail := by unfold groupR; rw [List.foldl_cons]
theorem groupR_append (t : Int) (b : List GRule) : ∀ (a : List GRule) (acc : GAcc) (T : List GTable), groupR t acc (a ++ b) T = groupR t (groupR t acc a T) b (T.drop a.length) := by
  intro a
  induction a with
  | nil => intro acc T; rw [groupR_nil, List.nil_append, List.length_nil, List.drop_zero]
  | cons r a ih =>
    intro acc T
    rw [List.cons_append, groupR_cons, groupR_cons, ih, List.length_cons]
    cases T <;> simp
theorem groupR_off (t : Int) (rs : List GRule) : ∀ (acc : GAcc) (T : List GTable), acc.2.2 ≤ (groupR t acc rs T).2.2 ∧ (groupR t acc rs T).2.2 ≤ acc.2.2 + 16 * rs.length ∧ (groupR t acc rs T).2.1.length = acc.2.1.length + rs.length := by
  induction rs with
  | nil => intro acc T; rw [groupR_nil]; simp
  | cons r rs ih =>
    intro acc T
    have h := ih (gStep t acc r (T.headD t0)) T.tail
    have k := write_off acc.1 (stepT (T.headD t0) (ruleF acc.1 r t) t r.For r.Keep) t
    rw [groupR_cons]
    generalize groupR t (gStep t acc r (T.headD t0)) rs T.tail = z at *
    simp only [gStep, List.length_append, List.length_cons, List.length_nil] at h ⊢
    omega
theorem groupR_sane (t : Int) (rs : List GRule) : ∀ (acc : GAcc) (T : List GTable), StOk acc.1 → StOk (groupR t acc rs T).1 := by
  induction rs with
  | nil => intro acc T h; rw [groupR_nil]; exact h
  | cons r rs ih => intro acc T h; rw [groupR_cons]; exact ih _ _ (write_sane _ _ _)
theorem groupR_lin (t : Int) (rs : List GRule) : ∀ (s : List GSeries) (o : List GTable) (n : Int) (T : List GTable), groupR t (s, o, n) rs T = ((groupR t (s, [], 0) rs T).1, o ++ (groupR t (s, [], 0) rs T).2.1, n + (groupR t (s, [], 0) rs T).2.2) := by
  induction rs with
  | nil => intro s o n T; simp [groupR_nil]
  | cons r rs ih =>
    intro s o n T
    rw [groupR_cons, groupR_cons]
    unfold gStep
    simp only
    rw [ih _ (o ++ _), ih _ ([] ++ _)]
    simp [Int.add_assoc]
theorem ruleF_len (st : List GSeries) (r : GRule) (t : Int) : (ruleF st r t).length ≤ 32 := by
  unfold ruleF
  split
  · have h1 : ∀ (l acc : List GFound), (l.foldl addU acc).length ≤ acc.length + l.length := by
      intro l
      induction l with
      | nil => intro acc; simp
      | cons x l ih =>
        intro acc
        have := ih (addU acc x)
        have h2 : (addU acc x).length ≤ acc.length + 1 := by unfold addU; split <;> simp
        simp only [List.foldl_cons, List.length_cons]; omega
    have h3 := h1 ((selectF st r.E.S t 300000).filterMap (candR r)) []
    have h4 := List.length_filterMap_le (candR r) (selectF st r.E.S t 300000)
    have h5 := select_len st r.E.S t 300000
    simp only [List.length_nil] at h3; omega
  · simp
theorem group_eq (st : List GSeries) (g : GGroup) (T : List GTable) (t : Int) (hg : g.Rules.length ≤ 1000000) : eval_Group st g T t = some (groupR t (cntSt st, [], 0) g.Rules T) := by
  unfold eval_Group
  rw [eval_counted_eq, callM_some]
  generalize cntSt st = c
  simp only [letE_eq, tokM_eq]
  refine loopM_ix (fun s => s.2.2.2) (fun i => ((groupR t (c, [], 0) (g.Rules.take i) T).1, (groupR t (c, [], 0) (g.Rules.take i) T).2.1, (groupR t (c, [], 0) (g.Rules.take i) T).2.2, (i : Int))) g.Rules.length _ (fun _ => rfl) ?_ ?_ (by simp [groupR_nil])
  · intro i hi
    obtain ⟨o1, o2, o3⟩ := groupR_off t (g.Rules.take i) (c, [], 0) T
    rw [List.length_take, Nat.min_eq_left (by omega)] at o2 o3
    simp only [List.length_nil] at o1 o2 o3
    rw [take_nth hi, groupR_append, List.length_take, Nat.min_eq_left (by omega)]
    generalize groupR t (c, [], 0) (g.Rules.take i) T = s at *
    simp only [iteM_dec, idxM_get (nth_get hi), tailM_eq, rule_eq, callM_some, table_Step_eq _ _ _ _ (Nat.le_trans (ruleF_len _ _ _) (by decide : 32 ≤ 1000)), write_eq, letO_eq]
    rw [if_pos (by omega), wI_of (x := (i : Int) + 1) (by omega)]
    have key : ∀ x : GTable, wI (s.2.2 + (writeF s.1 x t).2) = s.2.2 + (writeF s.1 x t).2 := fun x => wI_of (by have := write_off s.1 x t; omega)
    simp only [groupR_cons, groupR_nil, gStep, key]
    by_cases hT : i < T.length
    · rw [if_pos (by omega), idxM_get (nth_get hT), drop_nth hT, gdM_pos (by simp; omega)]
      rfl
    · rw [if_neg (by omega), List.drop_eq_nil_of_le (by omega), gdM_pos (by simp; omega)]
      rfl
  · simp only [iteM_dec]
    rw [if_neg (by omega)]
    simp
end Go.Proofs.YtcpjmkbcefmldaaGreatDoor.AM

/- Few, the same, awake. -/
namespace Go.Proofs.YtcpjmkbcefmldaaGreatDoor.AM
open Go

theorem down_eq (w : Int) : law19_down w = some ⟨[68, 111, 119, 110], ⟨⟨[117, 112], []⟩, 5, 0⟩, w, 0, []⟩ := rfl
theorem awake_eq : law19_awake = some true := by
  unfold law19_awake
  simp only [letE_eq, add_eq, down_eq, callM_some, rule_eq, select_eq]
  rw [group_eq _ _ _ _ (by decide)]
  simp only [callM_some]
  kernel_rfl
theorem few14_len (st : List GSeries) (h : st.length ≤ 9223372036854775807) (hl : ∀ s ∈ st, s.L.length ≤ 9223372036854775807) : ∃ b, ref14_Few st = some b ∧ (b = true → st.length ≤ 40) := by
  unfold ref14_Few
  refine loopM_post (fun s : Int => 0 ≤ s ∧ s ≤ (st.length : Int)) (fun s => (st.length - s).toNat) (fun b => b = true → st.length ≤ 40) ?_ ⟨by simp, by simp⟩
  rintro s ⟨h0, h1⟩
  obtain ⟨i, rfl⟩ := Int.eq_ofNat_of_zero_le h0
  simp only [letE_eq, iteM_dec, iteM_not]
  by_cases hi : i < st.length
  · rw [if_pos (by omega), idxM_get (nth_get hi), ref03_Few_eq _ (hl _ (nth_mem hi)), callM_some]
    cases fewB (nth st i).L
    · left; exact ⟨false, rfl, by simp⟩
    · simp only [iteM_true]
      by_cases h2 : (100 : Int) < ((nth st i).S.length : Int)
      · left; rw [if_pos h2]; exact ⟨false, rfl, by simp⟩
      · right; rw [if_neg h2, wI_of (by omega)]
        exact ⟨_, rfl, ⟨by omega, by omega⟩, by omega⟩
  · left
    rw [if_neg (by omega)]
    exact ⟨_, rfl, by simp; omega⟩
theorem few08_tot (s : GSel) (h : s.M.length ≤ 9223372036854775807) : ∃ b, ref08_Few s = some b := by
  unfold ref08_Few
  obtain ⟨b, hb, _⟩ := loopM_post (ph := fun (x2 : Int × Int) => [(1, .ptr 0 0), (3, vI x2.1), (4, vI x2.2)]) (ob := fun (x2 : Int × Int) => [.box [vS s.Name, sl cGMatch s.M]]) (step := fun (x2 : Int × Int) =>
      letE vI ((s.M.length : Int)) fun x3 =>
      letE vB (decide (x2.2 < x3)) fun x4 =>
      iteM x4 (
      idxM s.M x2.2 fun x5 =>
      letE vI ((x5.Name.length : Int)) fun x6 =>
      letE vI (wI (x2.1 + x6)) fun x7 =>
      letE vI ((x5.Value.length : Int)) fun x8 =>
      letE vI (wI (x7 + x8)) fun x9 =>
      letE vI (wI (x2.2 + (1 : Int))) fun x10 =>
      nextM (x9, x10)) (
      exitM <|
      letE vI ((s.M.length : Int)) fun x11 =>
      letE vB (decide (x11 ≤ (40 : Int))) fun x12 =>
      letE vB (decide (x2.1 ≤ (3000 : Int))) fun x13 =>
      letE vB (bif x12 then x13 else false) fun x14 =>
      retM x14)) (fun s' : Int × Int => 0 ≤ s'.2 ∧ s'.2 ≤ (s.M.length : Int)) (fun s' => (s.M.length - s'.2).toNat) (fun _ => True) (s := ((s.Name.length : Int), (0 : Int))) (by
    rintro ⟨a, j⟩ ⟨h0, h1⟩
    simp only at h0 h1
    obtain ⟨i, rfl⟩ := Int.eq_ofNat_of_zero_le h0
    simp only [letE_eq, iteM_dec]
    by_cases hi : i < s.M.length
    · right
      rw [if_pos (by omega), idxM_get (nth_get hi), wI_of (x := (i : Int) + 1) (by omega)]
      exact ⟨_, rfl, ⟨by simp only; omega, by simp only; omega⟩, by simp only; omega⟩
    · left
      rw [if_neg (by omega)]
      exact ⟨_, rfl, trivial⟩) ⟨by simp, by simp⟩
  exact ⟨b, hb⟩
theorem few10_tot (r : GRule) (h1 : r.E.S.M.length ≤ 9223372036854775807) (h2 : r.Labels.length ≤ 9223372036854775807) : ∃ b, ref10_Few r = some b := by
  unfold ref10_Few
  obtain ⟨b, hb⟩ := few08_tot r.E.S h1
  rw [hb, ref03_Few_eq _ h2]
  simp only [letE_eq, callM_some, iteM_dec, retM_eq]
  split
  · cases b
    · exact ⟨_, rfl⟩
    · exact ⟨_, rfl⟩
  · exact ⟨_, rfl⟩
end Go.Proofs.YtcpjmkbcefmldaaGreatDoor.AM

/- EvalEmpty, EvalRules: the plain laws. -/
namespace Go.Proofs.YtcpjmkbcefmldaaGreatDoor.AM
open Go

theorem same13_self (s : List GSample) (h : s.length ≤ 1000000) : ref13_Same s s = some true := by
  unfold ref13_Same
  simp only [letE_eq, iteM_not, iteM_dec]
  rw [if_pos trivial]
  refine loopM_nat s.length (fun _ => true) ?_ ?_
  · intro i hi
    right
    simp only [iteM_dec, idxM_get (nth_get hi)]
    rw [if_pos (by omega), wI_of (by omega)]
    exact ⟨by simp, trivial⟩
  · try simp only [iteM_dec]
    rw [if_neg (by omega)]
    rfl
theorem same14_self {st : List GSeries} (h : StOk st) : ref14_Same st st = some true := by
  have hlen := h.len
  unfold ref14_Same
  simp only [letE_eq, iteM_not, iteM_dec]
  rw [if_pos trivial]
  refine loopM_nat st.length (fun _ => true) ?_ ?_
  · intro i hi
    right
    have hs := h.sane (nth_mem hi)
    have h16 := (saneB_iff.1 hs).1
    have h64 := (h.each _ (nth_mem hi)).2.2.len
    simp only [drawM_eq, idxM_get (nth_get hi), ref03_Same_eq _ _ (show (nth st i).L.length ≤ 9223372036854775807 by omega), callM_some, same13_self _ (show (nth st i).S.length ≤ 1000000 by omega)]
    rw [if_pos (by omega), wI_of (by omega)]
    exact ⟨by simp, trivial⟩
  · try simp only [iteM_dec]
    rw [if_neg (by omega)]
    rfl
theorem law19_EvalEmpty_pl (st : List GSeries) (T : List GTable) (t : Int) (h1 : st.length ≤ 9223372036854775807) (h2 : ∀ s ∈ st, s.L.length ≤ 9223372036854775807) : law19_EvalEmpty st T t = some true := by
  obtain ⟨b, hb, hb40⟩ := few14_len st h1 h2
  unfold law19_EvalEmpty
  rw [awake_eq, callM_some, hb, callM_some]
  simp only [letE_eq, iteM_not, store_Sane_eq, callM_some, retM_eq]
  cases b
  · rfl
  simp only [iteM_true]
  cases hs : stB st
  · rfl
  have hok := stB_iff.1 hs
  have hg : ∀ n i o, eval_Group st ⟨n, i, o, []⟩ T t = some (st, [], 0) := fun n i o => by
    rw [group_eq _ _ _ _ (by simp), groupR_nil, cntSt_of hok]
  have hw : eval_Write st ⟨[], 0⟩ t = some (st, 0) := by
    rw [write_eq]
    unfold writeF
    rw [show activeF ⟨[], 0⟩ = [] from rfl, List.foldl_nil, cntSt_of hok]
  simp only [hg, hw, callM_some, same14_self hok, iteM_true]
  rfl

theorem few11_one (g : GGroup) (h1 : g.Rules.length ≤ 9223372036854775807) (h2 : ∀ r ∈ g.Rules, r.E.S.M.length ≤ 9223372036854775807 ∧ r.Labels.length ≤ 9223372036854775807) : ∃ b, ref11_Few [g] = some b ∧ (b = true → g.Rules.length ≤ 20) := by
  unfold ref11_Few
  refine loopM_post (fun s : Int => s = 0 ∨ (s = 1 ∧ g.Rules.length ≤ 20)) (fun s => (1 - s).toNat) (fun b => b = true → g.Rules.length ≤ 20) ?_ (.inl rfl)
  rintro s hs
  simp only [letE_eq, iteM_dec, iteM_not]
  rcases hs with rfl | ⟨rfl, h20⟩
  · rw [if_pos (by simp)]
    have inner := loopM_post (ph := fun (x4 : Int) => [(0, sl cGGroup [g]), (3, vI 0), (4, vI x4)]) (ob := fun (_ : Int) => ([] : List Obj)) (step := fun (x4 : Int) =>
      idxM [g] 0 fun x5 => if x4 < (x5.Rules.length : Int) then idxM x5.Rules x4 fun x8 => callM vB (fun _ => []) (ref10_Few x8) fun x9 => iteM x9 (nextM (wI (x4 + 1))) (exitM (exitM (σ := Int) (retM false)))
        else exitM (if (20 : Int) < (x5.Rules.length : Int) then exitM (retM false) else if (200 : Int) < (x5.Name.length : Int) then exitM (retM false) else nextM (wI (0 + 1))))
      (fun s : Int => 0 ≤ s ∧ s ≤ (g.Rules.length : Int)) (fun s => (g.Rules.length - s).toNat) (fun r => r = .inr false ∨ (r = .inl 1 ∧ g.Rules.length ≤ 20)) (by
        rintro s ⟨h0, hn⟩
        obtain ⟨i, rfl⟩ := Int.eq_ofNat_of_zero_le h0
        simp only [idxM_of (l := [g]) (i := 0) (x := g) (by omega) rfl]
        by_cases hi : i < g.Rules.length
        · rw [if_pos (by omega), idxM_get (nth_get hi)]
          obtain ⟨b, hb⟩ := few10_tot (nth g.Rules i) (h2 _ (nth_mem hi)).1 (h2 _ (nth_mem hi)).2
          rw [hb, callM_some]
          cases b
          · left; exact ⟨_, rfl, .inl rfl⟩
          · right
            rw [iteM_true, wI_of (by omega)]
            exact ⟨_, rfl, ⟨by omega, by omega⟩, by omega⟩
        · left
          rw [if_neg (by omega)]
          by_cases h20 : (20 : Int) < (g.Rules.length : Int)
          · rw [if_pos h20]; exact ⟨_, rfl, .inl rfl⟩
          · rw [if_neg h20]
            by_cases h200 : (200 : Int) < (g.Name.length : Int)
            · rw [if_pos h200]; exact ⟨_, rfl, .inl rfl⟩
            · rw [if_neg h200]; exact ⟨_, rfl, .inr ⟨rfl, by omega⟩⟩) (s := 0) ⟨by omega, by omega⟩
    obtain ⟨r, hr, hq⟩ := inner
    rcases hq with rfl | ⟨rfl, h20⟩
    · left
      exact ⟨false, hr, by simp⟩
    · right
      exact ⟨1, hr, .inr ⟨rfl, h20⟩, by simp⟩
  · left
    rw [if_neg (by simp)]
    exact ⟨_, rfl, fun _ => h20⟩
theorem bAnd_le {a b : Int} (h0 : 0 ≤ b) (h : b ≤ 9223372036854775807) : 0 ≤ bAnd .i64 a b ∧ bAnd .i64 a b ≤ b := by
  unfold bAnd
  have e : (BitVec.ofInt 64 b).toNat = b.toNat := by rw [BitVec.toNat_ofInt]; omega
  have h1 : (BitVec.ofInt 64 a &&& BitVec.ofInt 64 b).toNat ≤ b.toNat := by rw [BitVec.toNat_and, e]; exact Nat.and_le_right
  have h2 : IntKind.i64.wrap ((BitVec.ofInt 64 a &&& BitVec.ofInt 64 b).toNat : Int) = ((BitVec.ofInt 64 a &&& BitVec.ofInt 64 b).toNat : Int) := wI_of (by omega)
  show 0 ≤ IntKind.i64.wrap ((BitVec.ofInt 64 a &&& BitVec.ofInt 64 b).toNat : Int) ∧ IntKind.i64.wrap ((BitVec.ofInt 64 a &&& BitVec.ofInt 64 b).toNat : Int) ≤ b
  rw [h2]; omega


structure TabBd (t : GTable) : Prop where
  len : t.A.length ≤ 9223372036854775807
  each : ∀ a ∈ t.A, a.L.length ≤ 9223372036854775807
theorem few19_tot (T : List GTable) (h1 : T.length ≤ 9223372036854775807) (h2 : ∀ t ∈ T, TabBd t) : ∃ b, ref19_Few T = some b := by
  unfold ref19_Few
  obtain ⟨b, hb, _⟩ := loopM_post (ph := fun (x1 : Int) => [(0, sl cGTable T), (3, vI x1)]) (ob := fun (_ : Int) => ([] : List Obj)) (step := fun (x1 : Int) =>
      letE vI ((T.length : Int)) fun x2 =>
      letE vB (decide (x1 < x2)) fun x3 =>
      iteM x3 (
      idxM T x1 fun x4 =>
      callM vB (fun x5 => []) (ref17_Few x4) fun x5 =>
      letE vB (!x5) fun x6 =>
      iteM x6 (
      exitM <|
      retM false) (
      letE vI (wI (x1 + (1 : Int))) fun x7 =>
      nextM x7)) (
      exitM <|
      letE vI ((T.length : Int)) fun x8 =>
      letE vB (decide (x8 ≤ (40 : Int))) fun x9 =>
      retM x9)) (fun s : Int => 0 ≤ s ∧ s ≤ (T.length : Int)) (fun s => (T.length - s).toNat) (fun _ => True) (s := (0 : Int)) (by
    rintro s ⟨h0, hn⟩
    obtain ⟨i, rfl⟩ := Int.eq_ofNat_of_zero_le h0
    simp only [letE_eq, iteM_dec, iteM_not]
    by_cases hi : i < T.length
    · have hb := h2 _ (nth_mem hi)
      rw [if_pos (by omega), idxM_get (nth_get hi), ref17_Few_eq _ hb.len hb.each, callM_some]
      cases fewT (nth T i).A
      · left; exact ⟨_, rfl, trivial⟩
      · right
        rw [iteM_true, wI_of (by omega)]
        exact ⟨_, rfl, ⟨by omega, by omega⟩, by omega⟩
    · left
      rw [if_neg (by omega)]
      exact ⟨_, rfl, trivial⟩) ⟨by omega, by omega⟩
  exact ⟨b, hb⟩
theorem groupR_tabs (t : Int) (rs : List GRule) : ∀ (acc : GAcc) (T : List GTable), (∀ x ∈ acc.2.1, TabOk x) → ∀ x ∈ (groupR t acc rs T).2.1, TabOk x := by
  induction rs with
  | nil => intro acc T h; rw [groupR_nil]; exact h
  | cons r rs ih =>
    intro acc T h
    rw [groupR_cons]
    refine ih _ _ fun x hx => ?_
    unfold gStep at hx
    rcases List.mem_append.1 hx with hx | hx
    · exact h x hx
    · rw [List.mem_singleton.1 hx]; exact stepT_ok _ _ _ _ _
theorem sameTables_self {T : List GTable} (h : ∀ x ∈ T, TabOk x) (hl : T.length ≤ 1000000) : ref19_SameTables T T = some true := by
  unfold ref19_SameTables
  simp only [letE_eq, iteM_not, iteM_dec]
  rw [if_pos trivial]
  refine loopM_nat T.length (fun _ => true) ?_ ?_
  · intro i hi
    right
    simp only [drawM_eq, idxM_get (nth_get hi), Same_self (h _ (nth_mem hi)), callM_some]
    rw [if_pos (by omega), wI_of (by omega)]
    exact ⟨by simp, trivial⟩
  · try simp only [iteM_dec]
    rw [if_neg (by omega)]
    rfl
theorem law19_EvalRules_pl (st : List GSeries) (g : GGroup) (T : List GTable) (t k : Int) (h1 : st.length ≤ 9223372036854775807) (h2 : ∀ s ∈ st, s.L.length ≤ 9223372036854775807)
    (h3 : g.Rules.length ≤ 9223372036854775807) (h4 : ∀ r ∈ g.Rules, r.E.S.M.length ≤ 9223372036854775807 ∧ r.Labels.length ≤ 9223372036854775807) (h5 : T.length ≤ 9223372036854775807) (h6 : ∀ t ∈ T, TabBd t) : law19_EvalRules st g T t k = some true := by
  obtain ⟨b, hb, _⟩ := few14_len st h1 h2
  obtain ⟨b2, hb2, h20⟩ := few11_one g h3 h4
  obtain ⟨b3, hb3⟩ := few19_tot T h5 h6
  unfold law19_EvalRules
  rw [awake_eq, callM_some, hb, callM_some]
  simp only [letE_eq, iteM_not, hb2, hb3, callM_some, retM_eq]
  cases b
  · rfl
  cases b2
  · rfl
  cases b3
  · rfl
  simp only [iteM_true, tailM_eq]
  have h20 := h20 rfl
  obtain ⟨ka, kb⟩ := bAnd_le (a := k) (b := 65535) (by omega) (by omega)
  rw [group_eq st g T t (by omega), callM_some, wI_of (x := (g.Rules.length : Int) + 1) (by omega), gdM_pos (by omega)]
  obtain ⟨K, hK, hKn⟩ : ∃ K : Nat, Int.tmod (bAnd .i64 k 65535) ((g.Rules.length : Int) + 1) = (K : Int) ∧ K ≤ g.Rules.length := by
    rw [Int.tmod_eq_emod_of_nonneg ka]
    have e1 := Int.emod_nonneg (bAnd .i64 k 65535) (show (g.Rules.length : Int) + 1 ≠ 0 by omega)
    have e2 := Int.emod_lt_of_pos (bAnd .i64 k 65535) (show 0 < (g.Rules.length : Int) + 1 by omega)
    exact ⟨(bAnd .i64 k 65535 % ((g.Rules.length : Int) + 1)).toNat, by omega, by omega⟩
  rw [hK, gdM_pos (by omega)]
  simp only [Int.toNat_natCast, Int.toNat_zero, List.drop_zero]
  have hlen : (g.Rules.take K).length = K := by rw [List.length_take]; omega
  rw [group_eq st _ T t (by simp only; omega), callM_some]
  simp only
  have hsan := groupR_sane t (g.Rules.take K) (cntSt st, [], 0) T (cntSt_ok st)
  have hoff := groupR_off t (g.Rules.take K) (cntSt st, [], 0) T
  have htab := groupR_tabs t (g.Rules.take K) (cntSt st, [], 0) T (fun x hx => by simp at hx)
  have htab2 := groupR_tabs t (g.Rules.drop K) ((groupR t (cntSt st, [], 0) (g.Rules.take K) T).1, [], 0) (T.drop K) (fun x hx => by simp at hx)
  have hoff2 := groupR_off t (g.Rules.drop K) ((groupR t (cntSt st, [], 0) (g.Rules.take K) T).1, [], 0) (T.drop K)
  have hsp : groupR t (cntSt st, [], 0) g.Rules T = _ := (congrArg (fun l => groupR t (cntSt st, [], 0) l T) (List.take_append_drop K g.Rules).symm).trans (groupR_append t (g.Rules.drop K) (g.Rules.take K) (cntSt st, [], 0) T)
  rw [hlen] at hsp
  rw [hsp]
  generalize groupR t (cntSt st, [], 0) (g.Rules.take K) T = y at *
  obtain ⟨s, o, m⟩ := y
  rw [groupR_lin t (g.Rules.drop K) s o m]
  simp only at hsan hoff htab htab2 hoff2
  have hmin : (T.drop (min (K : Int) (T.length : Int)).toNat) = T.drop K := by
    by_cases hKT : K ≤ T.length
    · rw [show (min (K : Int) (T.length : Int)).toNat = K from by omega]
    · rw [show (min (K : Int) (T.length : Int)).toNat = T.length from by omega, List.drop_eq_nil_of_le (by omega), List.drop_eq_nil_of_le (by omega)]
  have hl2 : (g.Rules.drop K).length = g.Rules.length - K := List.length_drop
  rw [hlen] at hoff
  rw [hl2] at hoff2
  simp only [List.length_nil, Nat.zero_add] at hoff hoff2
  have e1 : (o ++ (groupR t (s, [], 0) (g.Rules.drop K) (T.drop K)).2.1).length = g.Rules.length := by
    rw [List.length_append, hoff.2.2, hoff2.2.2]; omega
  simp only [e1, hlen, hoff.2.2, List.take_length, iteM_dec, iteM_not]
  rw [if_pos trivial]
  simp only [if_true, not_true, decide_true, Bool.not_true, bif_or, Bool.false_or]
  rw [show decide (m + (groupR t (s, [], 0) (g.Rules.drop K) (T.drop K)).2.2 < m) = false from by rw [decide_eq_false_iff_not]; omega, show decide (m < 0) = false from by rw [decide_eq_false_iff_not]; omega]
  simp only [Bool.or_self, iteM_false]
  rw [gdM_pos (by omega), gdM_pos (by omega), hmin, group_eq s _ _ t (by simp only; rw [hl2]; omega), callM_some, cntSt_of hsan]
  simp only
  rw [gdM_pos (by omega), List.take_left' hoff.2.2, sameTables_self htab (by omega), callM_some, iteM_true, gdM_pos (by omega), List.take_of_length_le (Nat.le_of_eq e1), List.drop_left' hoff.2.2, sameTables_self htab2 (by omega), callM_some, wI_of (by omega)]
  simp
end Go.Proofs.YtcpjmkbcefmldaaGreatDoor.AM

/- What a rule finds: unlike labels, each one that is meant and holds. EvalMore: the plain law. -/
namespace Go.Proofs.YtcpjmkbcefmldaaGreatDoor.AM
open Go

theorem length_le_of_sub {α : Type} [DecidableEq α] : ∀ {l m : List α}, l.Nodup → (∀ x ∈ l, x ∈ m) → l.length ≤ m.length
  | [], _, _, _ => Nat.zero_le _
  | x :: l, m, hn, hs => by
    obtain ⟨h1, h2⟩ := List.nodup_cons.1 hn
    have hx := hs x List.mem_cons_self
    have := length_le_of_sub (l := l) (m := m.erase x) h2 fun y hy => by
      have hne : y ≠ x := fun e => h1 (e ▸ hy)
      exact (List.mem_erase_of_ne hne).2 (hs y (List.mem_cons_of_mem _ hy))
    rw [List.length_erase_of_mem hx] at this
    have := List.length_pos_of_mem hx
    simp only [List.length_cons]; omega
def SaneF (l : List GFound) : Prop := ∀ x ∈ l, saneB x.L = true
theorem among_iff {f : List GFound} {l : List GPair} (hf : SaneF f) (hl : saneB l = true) : amongB f l = true ↔ ∃ y ∈ f, y.L = l := by
  unfold amongB
  rw [List.any_eq_true]
  constructor
  · rintro ⟨y, hy, h⟩
    exact ⟨y, hy, (compareL_zero (hf y hy) hl).1 (of_decide_eq_true h)⟩
  · rintro ⟨y, hy, h⟩
    exact ⟨y, hy, decide_eq_true ((compareL_zero (hf y hy) hl).2 h)⟩
structure FoldU (l acc r : List GFound) : Prop where
  sane : SaneF r
  keep : ∀ y ∈ acc, y ∈ r
  all : ∀ x ∈ l, ∃ y ∈ r, y.L = x.L
  from_ : ∀ y ∈ r, y ∈ acc ∨ y ∈ l
  apart : (acc.map (·.L)).Nodup → (r.map (·.L)).Nodup
  len : r.length ≤ acc.length + l.length
theorem foldU : ∀ (l acc : List GFound), SaneF l → SaneF acc → FoldU l acc (l.foldl addU acc)
  | [], acc, _, ha => ⟨ha, fun _ h => h, (fun _ h => by cases h), fun _ h => .inl h, fun h => h, by simp⟩
  | x :: l, acc, hl, ha => by
    have hacc := ha
    have hx := hl x List.mem_cons_self
    have hl' : SaneF l := fun y hy => hl y (List.mem_cons_of_mem _ hy)
    rw [List.foldl_cons]
    by_cases hm : amongB acc x.L = true
    · have e : addU acc x = acc := by unfold addU; rw [if_pos hm]
      rw [e]
      have h := foldU l acc hl' ha
      obtain ⟨y, hy, hyx⟩ := (among_iff ha hx).1 hm
      exact ⟨h.sane, h.keep, fun z hz => by
        rcases List.mem_cons.1 hz with rfl | hz
        · exact ⟨y, h.keep y hy, hyx⟩
        · exact h.all z hz, fun y hy => (h.from_ y hy).imp id (List.mem_cons_of_mem _), h.apart, by have := h.len; simp only [List.length_cons]; omega⟩
    · have e : addU acc x = acc ++ [x] := by unfold addU; rw [if_neg hm]
      rw [e]
      have ha' : SaneF (acc ++ [x]) := fun y hy => by
        rcases List.mem_append.1 hy with hy | hy
        · exact ha y hy
        · rw [List.mem_singleton.1 hy]; exact hx
      have h := foldU l (acc ++ [x]) hl' ha'
      refine ⟨h.sane, fun y hy => h.keep y (List.mem_append_left _ hy), fun z hz => ?_, fun y hy => ?_, fun hn => h.apart ?_, by have := h.len; simp only [List.length_append, List.length_cons, List.length_nil] at this ⊢; omega⟩
      · rcases List.mem_cons.1 hz with rfl | hz
        · exact ⟨z, h.keep z (List.mem_append_right _ List.mem_cons_self), rfl⟩
        · exact h.all z hz
      · rcases h.from_ y hy with hy | hy
        · rcases List.mem_append.1 hy with hy | hy
          · exact .inl hy
          · rw [List.mem_singleton.1 hy]; exact .inr List.mem_cons_self
        · exact .inr (List.mem_cons_of_mem _ hy)
      · rw [List.map_append, List.nodup_append]
        refine ⟨hn, by simp, fun a ha b hb e => ?_⟩
        simp only [List.map_cons, List.map_nil, List.mem_singleton] at hb
        subst hb; subst e
        obtain ⟨y, hy, hye⟩ := List.mem_map.1 ha
        exact hm ((among_iff hacc hx).2 ⟨y, hy, hye⟩)
theorem mergeLL_sane {a b m : List GPair} (h : mergeLL a b = (m, 0)) : saneB m = true := (sane_of_make h).2.2
theorem mergeLL_sane' {a b : List GPair} (h : (mergeLL a b).2 = 0) : saneB (mergeLL a b).1 = true := by
  cases hq : mergeLL a b with
  | mk x y =>
    rw [hq] at h
    simp only at h
    subst h
    exact mergeLL_sane hq
theorem alertL_two {r : GRule} {l : List GPair} (h : (alertL r l).2 = true) : (mergeLL (withoutL l nmL) r.Labels).2 = 0 ∧ (mergeLL (mergeLL (withoutL l nmL) r.Labels).1 [⟨anL, r.Name⟩]).2 = 0 ∧
    (alertL r l).1 = (mergeLL (mergeLL (withoutL l nmL) r.Labels).1 [⟨anL, r.Name⟩]).1 := by
  unfold alertL at h ⊢
  generalize mergeLL (withoutL l nmL) r.Labels = p at *
  generalize mergeLL p.1 [⟨anL, r.Name⟩] = q at *
  by_cases h1 : p.2 = 0
  · by_cases h2 : q.2 = 0
    · rw [if_pos h1, if_pos h2]; exact ⟨h1, h2, rfl⟩
    · rw [if_pos h1, if_neg h2] at h; simp at h
  · rw [if_neg h1] at h; simp at h
theorem alertL_sane {r : GRule} {l : List GPair} (h : (alertL r l).2 = true) : saneB (alertL r l).1 = true := by
  obtain ⟨_, h2, h3⟩ := alertL_two h
  rw [h3]; exact mergeLL_sane' h2
theorem candR_some {r : GRule} {f x : GFound} (h : candR r f = some x) : holdsB r.E.Op f.X.V r.E.V = true ∧ (alertL r f.L).2 = true ∧ x = ⟨(alertL r f.L).1, f.X⟩ := by
  unfold candR at h
  split at h
  · rename_i h1
    split at h
    · rename_i h2
      exact ⟨h1, h2, by cases h; rfl⟩
    · cases h
  · cases h
def candsF (st : List GSeries) (r : GRule) (t : Int) : List GFound := (selectF st r.E.S t 300000).filterMap (candR r)
theorem cands_sane (st : List GSeries) (r : GRule) (t : Int) : SaneF (candsF st r t) := fun x hx => by
  obtain ⟨f, _, hf⟩ := List.mem_filterMap.1 hx
  obtain ⟨_, h2, rfl⟩ := candR_some hf
  exact alertL_sane h2
theorem ruleF_on {st : List GSeries} {r : GRule} {t : Int} (h : ruleB r = true) : ruleF st r t = (candsF st r t).foldl addU [] := by unfold ruleF candsF; rw [if_pos h]
theorem ruleF_off {st : List GSeries} {r : GRule} {t : Int} (h : ruleB r = false) : ruleF st r t = [] := by unfold ruleF; rw [if_neg (by rw [h]; simp)]
theorem ruleF_u {st : List GSeries} {r : GRule} {t : Int} (h : ruleB r = true) : FoldU (candsF st r t) [] (ruleF st r t) := by
  rw [ruleF_on h]; exact foldU _ _ (cands_sane st r t) (fun x hx => by cases hx)
structure RuleOk (r : GRule) : Prop where
  name : nameB r.Name = true
  v : numB r.E.V = true
  labels : saneB r.Labels = true
  free : ∀ p ∈ r.Labels, resB p.1 = false
theorem ruleB_ok {r : GRule} (h : ruleB r = true) : RuleOk r := by
  simp only [ruleB, exprB, Bool.and_eq_true, Bool.not_eq_true', List.any_eq_false] at h
  exact ⟨h.1.1.1.1.1, h.1.1.1.1.2.2, h.1.2, fun p hp => by simpa using h.2 p hp⟩
theorem numB_iff {v : Int} : numB v = true ↔ -9007199254740992 ≤ v ∧ v ≤ 9007199254740992 := by simp [numB]
theorem same_one (a b : List GPair) (h : a.length ≤ 9223372036854775807) : ref14_SameFound [⟨a, ⟨0, 0⟩⟩] [⟨b, ⟨0, 0⟩⟩] = some (decide (a = b)) := by
  unfold ref14_SameFound
  simp only [letE_eq, iteM_not, iteM_dec]
  rw [if_pos (by simp)]
  refine loopM_rec (fun s : Int => s = 0 ∨ (s = 1 ∧ a = b)) (fun s => (1 - s).toNat) (fun _ => decide (a = b)) ?_ (.inl rfl)
  rintro s (rfl | ⟨rfl, he⟩)
  · rw [if_pos (by simp), drawM_eq, idxM_of (x := ⟨a, ⟨0, 0⟩⟩) (by omega) rfl, idxM_of (x := ⟨b, ⟨0, 0⟩⟩) (by omega) rfl]
    simp only [ref03_Same_eq _ _ h, callM_some]
    by_cases he : a = b
    · right
      simp only [he, decide_true, iteM_true, Bool.and_self]
      exact ⟨_, rfl, .inr ⟨by rw [wI_of (by omega)]; rfl, trivial⟩, by rw [wI_of (by omega)]; simp, trivial⟩
    · left
      simp [he]
  · left
    rw [if_neg (by simp)]
    simp [he]
end Go.Proofs.YtcpjmkbcefmldaaGreatDoor.AM

/- EvalMore: the plain law. -/
namespace Go.Proofs.YtcpjmkbcefmldaaGreatDoor.AM
open Go

def moreV (r : GRule) (v : Int) : GRule := ⟨r.Name, ⟨r.E.S, r.E.Op, v⟩, r.For, r.Keep, r.Labels⟩
theorem cands_more {st : List GSeries} {r : GRule} {t v : Int} (hv : r.E.V ≤ v) (hop : r.E.Op = 1 ∨ r.E.Op = 2) : ∀ x ∈ candsF st (moreV r v) t, x ∈ candsF st r t := by
  intro x hx
  obtain ⟨f, hf, hc⟩ := List.mem_filterMap.1 hx
  refine List.mem_filterMap.2 ⟨f, hf, ?_⟩
  obtain ⟨h1, h2, rfl⟩ := candR_some hc
  have h3 : holdsB r.E.Op f.X.V r.E.V = true := by
    have h1 : holdsB r.E.Op f.X.V v = true := h1
    unfold holdsB at h1 ⊢
    rcases hop with e | e
    · rw [e] at h1 ⊢
      simp at h1 ⊢; omega
    · rw [e] at h1 ⊢
      simp at h1 ⊢; omega
  unfold candR
  rw [if_pos h3]
  have h2' : (alertL r f.L).2 = true := h2
  rw [if_pos h2']
  rfl
theorem more_sub {st : List GSeries} {r : GRule} {t v : Int} (hr : ruleB r = true) (hv : r.E.V ≤ v) (hop : r.E.Op = 1 ∨ r.E.Op = 2) :
    (∀ y ∈ ruleF st (moreV r v) t, ∃ z ∈ ruleF st r t, z.L = y.L) ∧ (ruleF st (moreV r v) t).length ≤ (ruleF st r t).length := by
  cases hh : ruleB (moreV r v)
  · rw [ruleF_off hh]; exact ⟨fun y hy => by simp at hy, Nat.zero_le _⟩
  · have ha := ruleF_u (st := st) (t := t) hr
    have hb := ruleF_u (st := st) (t := t) hh
    have h1 : ∀ y ∈ ruleF st (moreV r v) t, ∃ z ∈ ruleF st r t, z.L = y.L := fun y hy => by
      rcases hb.from_ y hy with h | h
      · cases h
      · exact ha.all y (cands_more hv hop y h)
    refine ⟨h1, ?_⟩
    have h2 := length_le_of_sub (hb.apart List.nodup_nil) (m := (ruleF st r t).map (·.L)) fun l hl => by
      obtain ⟨y, hy, rfl⟩ := List.mem_map.1 hl
      obtain ⟨z, hz, e⟩ := h1 y hy
      exact List.mem_map.2 ⟨z, hz, e⟩
    simpa using h2
theorem law19_EvalMore_pl (st : List GSeries) (r : GRule) (t more : Int) (h1 : st.length ≤ 9223372036854775807) (h2 : ∀ s ∈ st, s.L.length ≤ 9223372036854775807) (h3 : r.E.S.M.length ≤ 9223372036854775807) (h4 : r.Labels.length ≤ 9223372036854775807) :
    law19_EvalMore st r t more = some true := by
  obtain ⟨b, hb, _⟩ := few14_len st h1 h2
  obtain ⟨b2, hb2⟩ := few10_tot r h3 h4
  unfold law19_EvalMore
  rw [awake_eq, callM_some, hb, hb2]
  simp only [joinM_eq, letE_eq, iteM_not, callM_some, retM_eq, rule_Sane_eq, bif_or, bif_and]
  cases b
  · rfl
  cases b2
  · rfl
  simp only [iteM_true]
  cases hr : ruleB r
  · rfl
  by_cases hm1 : more < 0
  · rw [decide_eq_true hm1]; rfl
  by_cases hm2 : 9007199254740992 < more
  · rw [decide_eq_true hm2]; simp
  rw [decide_eq_false hm1, decide_eq_false hm2]
  by_cases hop : ¬ (r.E.Op = 1 ∨ r.E.Op = 2)
  · simp only [not_or] at hop
    rw [decide_eq_false hop.1, decide_eq_false hop.2]; rfl
  have hop := Decidable.not_not.1 hop
  have hpre : ∀ rest : Unit → Option Bool, (iteM (!true || false || false) (exitM (σ := Unit) (some true)) (iteM (decide (r.E.Op = 1)) (iteM (false && false) (exitM (some true)) (nextM ())) (iteM (true && !decide (r.E.Op = 2)) (exitM (some true)) (nextM ())))).bind (Sum.elim rest some) = rest () := by
    intro rest
    rcases hop with e | e
    · rw [e]; rfl
    · rw [e]; rfl
  rw [hpre]
  have hv := numB_iff.1 (ruleB_ok hr).v
  rw [wI_of (x := r.E.V + more) (by omega)]
  obtain ⟨v, hvd⟩ : ∃ v, v = min (r.E.V + more) 9007199254740992 := ⟨_, rfl⟩
  have hvle : r.E.V ≤ v := by omega
  rw [← hvd, rule_eq, callM_some, rule_eq, callM_some]
  show loopM _ _ _ _ = some true
  obtain ⟨hsub, hlen⟩ := more_sub (st := st) (t := t) hr hvle hop
  have hl32 := ruleF_len st r t
  have hl32' := ruleF_len st (moreV r v) t
  have hsb : SaneF (ruleF st r t) := (ruleF_u hr).sane
  have hnil : (selectF st r.E.S t 300000).length = 0 → (ruleF st r t).length = 0 := fun h0 => by
    have := (ruleF_u (st := st) (t := t) hr).len
    unfold candsF at this
    rw [List.length_eq_zero_iff.1 h0] at this
    simpa using this
  unfold moreV at hsub hlen hl32'
  generalize ruleF st r t = A at *
  generalize ruleF st ⟨r.Name, ⟨r.E.S, r.E.Op, v⟩, r.For, r.Keep, r.Labels⟩ t = B at *
  refine loopM_nat B.length (fun _ => true) ?_ ?_
  · intro i hi
    right
    refine ⟨?_, rfl⟩
    simp only [iteM_dec]
    rw [if_pos (by omega)]
    have hin := loopM_natB (ph := fun (x28 : Bool × Int) => [(0, sl cGSeries st), (2, vI t), (5, .ptr 0 0), (9, vB true), (11, sl cGFound A), (12, sl cGFound B), (13, vI (i : Int)), (14, vB x28.1), (15, vI x28.2)])
      (ob := fun (x28 : Bool × Int) => [.box [vS r.Name, vS r.E.S.Name, sl cGMatch r.E.S.M, vI r.E.Op, vI v, vI r.For, vI r.Keep, sl cGPair r.Labels]]) (A := Bool) (β := Int ⊕ Bool)
      (step := fun (x28 : Bool × Int) => if x28.2 < (A.length : Int) then iteM x28.1 (nextM (true, wI (x28.2 + 1))) (idxM A x28.2 fun x32 => idxM B (i : Int) fun x34 => callM vB (fun _ => []) (ref14_SameFound [⟨x32.L, ⟨0, 0⟩⟩] [⟨x34.L, ⟨0, 0⟩⟩]) fun x36 => nextM (x36, wI (x28.2 + 1)))
        else exitM (iteM x28.1 (nextM (wI ((i : Int) + 1))) (exitM (some false))))
      A.length (fun j a => a = (A.take j).any fun y => decide (y.L = (nth B i).L)) (fun _ _ => Sum.inl ((i + 1 : Nat) : Int)) (by
        intro j a hj ha
        right
        simp only
        rw [if_pos (by omega), take_nth hj, List.any_append]
        rw [wI_of (x := (j : Int) + 1) (by omega)]
        cases a
        · rw [iteM_false, idxM_get (nth_get hj), idxM_get (nth_get hi), same_one _ _ (by have := (saneB_iff.1 (hsb _ (nth_mem hj))).1; omega), callM_some]
          exact ⟨_, rfl, by rw [← ha]; simp, trivial⟩
        · exact ⟨true, by simp, by rw [← ha]; simp, trivial⟩) (by
        intro a ha
        simp only
        rw [if_neg (by omega)]
        obtain ⟨z, hz, e⟩ := hsub _ (nth_mem hi)
        have : a = true := by
          rw [ha, List.take_length, List.any_eq_true]
          exact ⟨z, hz, decide_eq_true e⟩
        rw [this, iteM_true, wI_of (by omega)]
        rfl) (a := false) (by simp)
    simp only [drawM_eq] at hin ⊢
    exact hin
  · try simp only [iteM_dec]
    rw [if_neg (by omega)]
    rw [select_eq, callM_some]
    have e1 : decide ((B.length : Int) ≤ (A.length : Int)) = true := decide_eq_true (by omega)
    rw [e1]
    simp only [Bool.and_self, iteM_true]
    by_cases h0 : (selectF st r.E.S t 300000).length = 0
    · have := hnil h0
      simp [this]
    · have : (0 : Int) < ((selectF st r.E.S t 300000).length : Int) := by omega
      rw [decide_eq_true this]; rfl
end Go.Proofs.YtcpjmkbcefmldaaGreatDoor.AM

/- Labels merged: the other's value counts. -/
namespace Go.Proofs.YtcpjmkbcefmldaaGreatDoor.AM
open Go

theorem getFrom_none {l : List GPair} {n : Str} (h : (getFrom n l).2 = false) : getFrom n l = ([], false) := by
  induction l with
  | nil => rfl
  | cons p l ih =>
    simp only [getFrom] at h ⊢
    split
    · rename_i e; rw [if_pos e] at h; cases h
    · rename_i e; rw [if_neg e] at h; exact ih h
theorem has_iff {l : List GPair} {n : Str} : (getFrom n l).2 = true ↔ ∃ p ∈ l, p.1 = n := by
  induction l with
  | nil => simp [getFrom]
  | cons p l ih =>
    simp only [getFrom]
    by_cases h : p.1 = n
    · simp [h]
    · rw [if_neg h, ih]; simp [h]
theorem getFrom_keep {l : List GPair} {n : Str} {f : GPair → Bool} (h : ∀ p ∈ l, p.1 = n → f p = true) : getFrom n (l.filter f) = getFrom n l := by
  induction l with
  | nil => rfl
  | cons p l ih =>
    have ih' := ih fun q hq => h q (List.mem_cons_of_mem _ hq)
    by_cases hp : p.1 = n
    · simp [h p List.mem_cons_self hp, getFrom, hp]
    · cases hf : f p
      · simp [hf, getFrom, hp, ih']
      · simp [hf, getFrom, hp, ih']

def rest (a b : List GPair) : List GPair := a.filter (fun p => !(getFrom p.1 b).2)
theorem mergeLL_sane2 {a b : List GPair} (ha : saneB a = true) (hb : saneB b = true) : mergeLL a b = makeL (rest a b ++ b) := by
  unfold mergeLL rest
  rw [countsL_sane ha, countsL_sane hb]
  simp only [getL_sane hb]
theorem merge_ok {a b : List GPair} (ha : saneB a = true) (hb : saneB b = true) {m : List GPair} (h : mergeLL a b = (m, 0)) (n : Str) :
    saneB m = true ∧ mergeLL m b = (m, 0) ∧ getL m n = (if (getL b n).2 = true then getL b n else getL a n) := by
  rw [mergeLL_sane2 ha hb] at h
  obtain ⟨hg, e, hm⟩ := sane_of_make h
  have hp : m.Perm (rest a b ++ b) := by rw [e]; exact sortP_perm _
  refine ⟨hm, ?_, ?_⟩
  · rw [mergeLL_sane2 hm hb]
    have hp2 : (rest m b ++ b).Perm m := by
      refine List.Perm.trans ?_ hp.symm
      refine List.Perm.append_right b ?_
      have h1 := hp.filter fun p => !(getFrom p.1 b).2
      rw [List.filter_append] at h1
      have h2 : b.filter (fun p => !(getFrom p.1 b).2) = [] := by
        rw [List.filter_eq_nil_iff]; intro p hpb; simp [has_iff.2 ⟨p, hpb, rfl⟩]
      have h3 : (rest a b).filter (fun p => !(getFrom p.1 b).2) = rest a b := by unfold rest; rw [List.filter_filter]; simp
      rw [h2, h3, List.append_nil] at h1
      exact h1
    obtain ⟨hgm, hsm⟩ := saneB_good' hm
    rw [makeL_perm hgm hp2, sortP_sorted hgm hsm]
  · rw [getL_sane hm, getL_sane hb, getL_sane ha, getFrom_perm (twice_iff.1 hg.once) hp, getFrom_append]
    cases hbn : (getFrom n b).2
    · have hk : getFrom n (rest a b) = getFrom n a := getFrom_keep fun p _ hpn => by subst hpn; simp [hbn]
      rw [hk]
      simp only [Bool.false_eq_true, if_false]
      split
      · rfl
      · rename_i h0
        rw [getFrom_none hbn, getFrom_none (by simpa using h0)]
    · have hno : (getFrom n (rest a b)).2 = false := by
        rw [Bool.eq_false_iff]
        intro hh
        obtain ⟨p, hp', rfl⟩ := has_iff.1 hh
        rw [rest, List.mem_filter] at hp'
        simp [hbn] at hp'
      rw [hno]; simp
end Go.Proofs.YtcpjmkbcefmldaaGreatDoor.AM

/- EvalHolds: the plain law. -/
namespace Go.Proofs.YtcpjmkbcefmldaaGreatDoor.AM
open Go

theorem without_sane (l : List GPair) (n : Str) : saneB (withoutL l n) = true := by
  unfold withoutL countsL
  split
  · rename_i h; exact sane_sub h List.filter_sublist
  · rfl
theorem one_sane {n v : Str} (hn : nameB n = true) (hv : v.length ≤ 64) : saneB [⟨n, v⟩] = true :=
  saneB_iff.2 ⟨by simp, fun p hp => by rw [List.mem_singleton.1 hp]; exact hn, fun p hp => by rw [List.mem_singleton.1 hp]; exact hv, List.pairwise_singleton _ _⟩
theorem with_merge {m : List GPair} {n v : Str} (hm : saneB m = true) (hs : saneB [⟨n, v⟩] = true) : withL m n v = mergeLL m [⟨n, v⟩] := by
  rw [mergeLL_sane2 hm hs]
  unfold withL
  rw [withoutL_sane hm]
  unfold rest
  congr 2
  apply List.filter_congr
  intro p _
  unfold getFrom
  by_cases h : p.1 = n
  · rw [h]; simp
  · have h' : ¬ n = p.1 := fun e => h e.symm
    simp [h, h', getFrom]
theorem anL_name : nameB anL = true := by kernel_rfl
theorem name_len {s : Str} (h : nameB s = true) : s.length ≤ 64 := by
  simp only [nameB, Bool.and_eq_true, decide_eq_true_eq] at h; exact h.1.2
def wantL (r : GRule) (l : List GPair) : List GPair × Int := mergeLL (withoutL l nmL) r.Labels
theorem want_alert {r : GRule} {l : List GPair} (hr : RuleOk r) (h1 : (wantL r l).2 = 0) (h2 : (withL (wantL r l).1 anL r.Name).2 = 0) : alertL r l = ((withL (wantL r l).1 anL r.Name).1, true) := by
  have hs : saneB (wantL r l).1 = true := mergeLL_sane' h1
  rw [with_merge hs (one_sane anL_name (name_len hr.name))] at h2 ⊢
  unfold wantL at h1 h2 ⊢
  unfold alertL
  rw [if_pos h1, if_pos h2]
theorem alert_want {r : GRule} {l : List GPair} (hr : RuleOk r) (h : (alertL r l).2 = true) : (wantL r l).2 = 0 ∧ (withL (wantL r l).1 anL r.Name).2 = 0 := by
  obtain ⟨h1, h2, _⟩ := alertL_two h
  have hs : saneB (wantL r l).1 = true := mergeLL_sane' h1
  refine ⟨h1, ?_⟩
  rw [with_merge hs (one_sane anL_name (name_len hr.name))]
  exact h2
theorem alert_labels {r : GRule} {l : List GPair} (hr : RuleOk r) (h : (alertL r l).2 = true) : getL (alertL r l).1 anL = (r.Name, true) ∧ ∀ p ∈ r.Labels, (getL (alertL r l).1 p.1).1 = p.2 := by
  obtain ⟨h1, h2, h3⟩ := alertL_two h
  rw [h3]
  have hone := one_sane anL_name (name_len hr.name)
  have hs : saneB (mergeLL (withoutL l nmL) r.Labels).1 = true := mergeLL_sane' h1
  have k1 := fun n => (merge_ok (without_sane l nmL) hr.labels (m := (mergeLL (withoutL l nmL) r.Labels).1) (by rw [← h1]) n).2.2
  generalize (mergeLL (withoutL l nmL) r.Labels).1 = m at *
  have k2 := fun n => (merge_ok hs hone (m := (mergeLL m [⟨anL, r.Name⟩]).1) (by rw [← h2]) n).2.2
  have g1 : getL [⟨anL, r.Name⟩] anL = (r.Name, true) := by
    rw [getL_sane hone]; unfold getFrom; rw [if_pos rfl]
  constructor
  · rw [k2, g1]; rfl
  · intro p hp
    have hne : ¬ anL = p.1 := fun e => by
      have := hr.free p hp
      unfold resB at this
      rw [← e] at this
      simp at this
    have g2 : (getL [⟨anL, r.Name⟩] p.1).2 = false := by
      rw [getL_sane hone]; unfold getFrom; rw [if_neg hne]; rfl
    rw [k2, if_neg (by rw [g2]; simp), k1, getL_mem hr.labels hp]
    rfl
theorem candR_isSome {r : GRule} (hr : RuleOk r) (f : GFound) : (candR r f).isSome = (holdsB r.E.Op f.X.V r.E.V && decide ((wantL r f.L).2 = 0) && decide ((withL (wantL r f.L).1 anL r.Name).2 = 0)) := by
  unfold candR
  cases holdsB r.E.Op f.X.V r.E.V
  · rfl
  simp only [if_true, Bool.true_and]
  cases h : (alertL r f.L).2
  · simp only [Bool.false_eq_true, if_false, Option.isSome_none]
    by_cases h1 : (wantL r f.L).2 = 0
    · by_cases h2 : (withL (wantL r f.L).1 anL r.Name).2 = 0
      · rw [want_alert hr h1 h2] at h; simp at h
      · simp [h2]
    · simp [h1]
  · obtain ⟨h1, h2⟩ := alert_want hr h
    simp [h1, h2]
theorem law19_EvalHolds_pl (st : List GSeries) (r : GRule) (t : Int) (h1 : st.length ≤ 9223372036854775807) (h2 : ∀ s ∈ st, s.L.length ≤ 9223372036854775807) (h3 : r.E.S.M.length ≤ 9223372036854775807) (h4 : r.Labels.length ≤ 9223372036854775807) :
    law19_EvalHolds st r t = some true := by
  obtain ⟨b, hb, _⟩ := few14_len st h1 h2
  obtain ⟨b2, hb2⟩ := few10_tot r h3 h4
  unfold law19_EvalHolds
  rw [awake_eq, callM_some, hb, callM_some, hb2]
  simp only [letE_eq, iteM_not, callM_some, retM_eq, rule_Sane_eq, store_Sane_eq]
  cases b
  · rfl
  cases b2
  · rfl
  cases hst : stB st
  · rfl
  cases hrb : ruleB r
  · rfl
  simp only [iteM_true]
  have hr := ruleB_ok hrb
  rw [rule_eq, callM_some, select_eq, callM_some]
  have hU := ruleF_u (st := st) (t := t) hrb
  unfold candsF at hU
  have hl32 := ruleF_len st r t
  have hs32 := select_len st r.E.S t 300000
  generalize ruleF st r t = A at *
  generalize selectF st r.E.S t 300000 = s at *
  have h16 := (saneB_iff.1 hr.labels).1
  rw [show ([95, 95, 110, 97, 109, 101, 95, 95] : Str) = nmL from rfl, show ([97, 108, 101, 114, 116, 110, 97, 109, 101] : Str) = anL from rfl]
  refine loopM_natB s.length (fun i a => a = (((s.take i).filterMap (candR r)).length : Int)) (fun _ _ => true) ?_ ?_ (by simp)
  · intro i a hi ha
    right
    have hal : ((s.take i).filterMap (candR r)).length ≤ i := Nat.le_trans (List.length_filterMap_le _ _) (by rw [List.length_take]; omega)
    simp only [iteM_dec, iteM_not, drawM_eq, permM_eq, idxM_get (nth_get hi), cond_Holds_eq, callM_some, label_Without_eq, label_Merge_eq, label_With_eq]
    rw [if_pos (by omega), wI_of (x := (i : Int) + 1) (by omega), wI_of (x := a + 1) (by omega), take_nth hi]
    have hcs := candR_isSome hr (nth s i)
    cases hh : holdsB r.E.Op (nth s i).X.V r.E.V
    · rw [hh] at hcs
      have hn : candR r (nth s i) = none := by simpa using hcs
      exact ⟨a, by simp, by rw [List.filterMap_append, ha]; simp [hn], trivial⟩
    · rw [iteM_true]
      rw [hh] at hcs
      change (candR r (nth s i)).isSome = (true && decide ((mergeLL (withoutL (nth s i).L nmL) r.Labels).2 = 0) && decide ((withL (mergeLL (withoutL (nth s i).L nmL) r.Labels).1 anL r.Name).2 = 0)) at hcs
      have hwa := want_alert (l := (nth s i).L) hr
      unfold wantL at hwa
      generalize hm : mergeLL (withoutL (nth s i).L nmL) r.Labels = m at *
      generalize hn : withL m.1 anL r.Name = n at *
      by_cases hg : m.2 = 0 ∧ n.2 = 0
      · have hal2 := hwa hg.1 hg.2
        have hc : candR r (nth s i) = some ⟨n.1, (nth s i).X⟩ := by
          unfold candR
          rw [hh, if_pos rfl, hal2]
          rfl
        have hns : saneB n.1 = true := by
          have := alertL_sane (r := r) (l := (nth s i).L) (by rw [hal2])
          rw [hal2] at this; exact this
        refine ⟨a + 1, ?_, by rw [List.filterMap_append, ha]; simp [hc], trivial⟩
        have hthere : amongB A n.1 = true := by
          obtain ⟨y, hy, e⟩ := hU.all ⟨n.1, (nth s i).X⟩ (List.mem_filterMap.2 ⟨_, nth_mem hi, hc⟩)
          exact (among_iff hU.sane hns).2 ⟨y, hy, e⟩
        refine loopM_natB A.length (fun j b => b = amongB (A.take j) n.1) (fun _ _ => (Sum.inl (a + 1, ((i + 1 : Nat) : Int)) : (Int × Int) ⊕ Bool)) ?_ ?_ (by simp [amongB])
        · intro j b hj hb
          right
          simp only [iteM_dec, idxM_get (nth_get hj), label_Compare_eq, callM_some]
          rw [if_pos (by omega), wI_of (x := (j : Int) + 1) (by omega), take_nth hj]
          unfold amongB at hb ⊢
          rw [List.any_append, ← hb]
          cases b
          · exact ⟨_, rfl, by simp, trivial⟩
          · exact ⟨true, by simp, by simp, trivial⟩
        · intro b hb
          simp only [iteM_dec, bif_and]
          rw [if_neg (by omega), hb, List.take_length, hthere, decide_eq_true hg.1, decide_eq_true hg.2]
          simp
      · have hc : candR r (nth s i) = none := by
          have : (candR r (nth s i)).isSome = false := by
            rw [hcs]
            by_cases e1 : m.2 = 0
            · have : ¬ n.2 = 0 := fun e2 => hg ⟨e1, e2⟩
              simp [this]
            · simp [e1]
          simpa using this
        refine ⟨a, ?_, by rw [List.filterMap_append, ha]; simp [hc], trivial⟩
        refine loopM_natB A.length (fun _ _ => True) (fun _ _ => (Sum.inl (a, ((i + 1 : Nat) : Int)) : (Int × Int) ⊕ Bool)) ?_ ?_ trivial
        · intro j b hj _
          right
          simp only [iteM_dec, idxM_get (nth_get hj), label_Compare_eq, callM_some]
          rw [if_pos (by omega), wI_of (x := (j : Int) + 1) (by omega)]
          cases b
          · exact ⟨_, rfl, trivial, trivial⟩
          · exact ⟨true, by simp, trivial, trivial⟩
        · intro b _
          simp only [iteM_dec, bif_and]
          rw [if_neg (by omega)]
          have hgb : (decide (m.2 = 0) && decide (n.2 = 0)) = false := by
            rw [Bool.eq_false_iff]; intro h; simp only [Bool.and_eq_true, decide_eq_true_eq] at h; exact hg h
          rw [hgb]
          simp
  · intro a ha
    simp only [iteM_dec]
    rw [if_neg (by omega)]
    rw [List.take_length] at ha
    have key : ∀ m : Option Bool, m = some true → exitM (σ := Int × Int) m = some (.inr true) := fun m h => by rw [h]; rfl
    refine key _ (loopM_nat A.length (fun _ => true) ?_ ?_)
    · intro j hj
      right
      refine ⟨?_, rfl⟩
      have hmem := hU.from_ (nth A j) (nth_mem hj)
      obtain ⟨f, _, hf⟩ := List.mem_filterMap.1 (hmem.resolve_left (by simp))
      obtain ⟨c1, c2, c3⟩ := candR_some hf
      obtain ⟨l1, l2⟩ := alert_labels hr c2
      have hsj := hU.sane _ (nth_mem hj)
      have hLj : (nth A j).L = (alertL r f.L).1 := by rw [c3]
      have hXj : (nth A j).X = f.X := by rw [c3]
      rw [← hLj] at l1 l2
      rw [← hXj] at c1
      simp only [iteM_dec, drawM_eq, idxM_get (nth_get hj), label_Get_eq, callM_some, l1]
      rw [if_pos (by omega)]
      have key2 : ∀ m : Option (Int ⊕ Bool), m = some (.inl ((j + 1 : Nat) : Int)) → m = some (.inl ((j + 1 : Nat) : Int)) := fun m h => h
      refine loopM_nat j (fun _ => (Sum.inl ((j + 1 : Nat) : Int) : Int ⊕ Bool)) ?_ ?_
      · intro i hi
        right
        refine ⟨?_, rfl⟩
        simp only [idxM_get (nth_get (show i < A.length by omega)), label_Compare_eq, callM_some]
        have hap := hU.apart List.nodup_nil
        have hne : (nth A i).L ≠ (nth A j).L := by
          have := pairwise_nth (l := A) (R := fun p q : GFound => p.L ≠ q.L) (List.pairwise_map.1 hap) hi hj
          exact this
        have hc0 : ¬ compareL (nth A i).L (nth A j).L = 0 := fun h => hne ((compareL_zero (hU.sane _ (nth_mem (by omega))) hsj).1 h)
        rw [if_pos (by omega), if_neg hc0, wI_of (by omega)]
        rfl
      · rw [if_neg (by omega)]
        have key3 : ∀ m : Option (Int ⊕ Bool), m = some (.inl ((j + 1 : Nat) : Int)) → exitM (σ := Int) m = some (.inr (.inl ((j + 1 : Nat) : Int))) := fun m h => by rw [h]; rfl
        refine key3 _ (loopM_nat r.Labels.length (fun _ => (Sum.inl ((j + 1 : Nat) : Int) : Int ⊕ Bool)) ?_ ?_)
        · intro i hi
          right
          refine ⟨?_, rfl⟩
          simp only [idxM_get (pr_get hi), label_Get_eq, callM_some]
          have hm : pr r.Labels i ∈ r.Labels := by
            have := pr_get hi
            exact List.mem_of_getElem? this
          rw [if_pos (by omega), if_pos (l2 _ hm), wI_of (by omega)]
          rfl
        · rw [if_neg (by omega)]
          simp only [label_Sane_eq, callM_some, hsj, cond_Holds_eq, c1]
          rw [wI_of (by omega)]
          simp
    · try simp only [iteM_dec]
      rw [if_neg (by omega)]
      have := hU.len
      simp only [List.length_nil] at this
      rw [ha, decide_eq_true (show (A.length : Int) ≤ _ by omega)]
      rfl
end Go.Proofs.YtcpjmkbcefmldaaGreatDoor.AM

/- EvalWrites: the plain law. -/
namespace Go.Proofs.YtcpjmkbcefmldaaGreatDoor.AM
open Go

theorem last_nth {α : Type} [Inhabited α] {S : List α} (h : S ≠ []) : S.getLast? = some (nth S (S.length - 1)) := by
  rw [List.getLast?_eq_getElem?]
  exact nth_get (by have := List.length_pos_iff.2 h; omega)
def atT (t : Int) (g : GSeries) : Bool := decide ((nth g.S (g.S.length - 1)).T = t)
structure Old (t : Int) (g : GSeries) : Prop where
  ne : g.S ≠ []
  le : (nth g.S (g.S.length - 1)).T < t ∨ ((nth g.S (g.S.length - 1)).T = t ∧ (nth g.S (g.S.length - 1)).V = 1000)
structure WI (t : Int) (n0 : Nat) (P : List GAlert) (s : List GSeries) (off : Int) : Prop where
  ok : StOk s
  old : ∀ g ∈ s, Old t g
  cnt : (s.countP (atT t) : Int) + off = P.length
  len : n0 ≤ s.length
  pos : 0 ≤ off
  each : off = 0 → ∀ a ∈ P, (writtenL a).2 = 0 ∧ ∃ g ∈ s, g.L = (writtenL a).1 ∧ atT t g = true
theorem last_of {S : List GSample} {x : GSample} (h : S.getLast? = some x) : S ≠ [] ∧ nth S (S.length - 1) = x := by
  have hne : S ≠ [] := by rintro rfl; cases h
  refine ⟨hne, ?_⟩
  rw [last_nth hne] at h
  exact Option.some.inj h
theorem WI.step {t : Int} {n0 : Nat} {P : List GAlert} {s : List GSeries} {off : Int} (h : WI t n0 P s off) (a : GAlert) : WI t n0 (P ++ [a]) (writeS t (s, off) a).1 (writeS t (s, off) a).2 := by
  have bad : WI t n0 (P ++ [a]) s (off + 1) := by
    refine ⟨h.ok, h.old, ?_, h.len, by have := h.pos; omega, fun e => ?_⟩
    · have := h.cnt; simp only [List.length_append, List.length_singleton]; omega
    · have := h.pos; omega
  unfold writeS
  by_cases h1 : ¬ (writtenL a).2 = 0
  · rw [if_neg h1]; exact bad
  have h1 := Decidable.not_not.1 h1
  rw [if_pos h1]
  simp only
  by_cases h2 : ¬ (addSt s (writtenL a).1 ⟨t, 1000⟩).2 = 0
  · rw [if_neg h2]; exact bad
  have h2 := Decidable.not_not.1 h2
  rw [if_pos h2]
  simp only
  obtain ⟨A, B, S, o, hs', hs, ho, hl, hno, hok⟩ := addSt_ok (st' := (addSt s (writtenL a).1 ⟨t, 1000⟩).1) h.ok (by rw [← h2])
  obtain ⟨hne, hlast⟩ := last_of hl
  generalize (addSt s (writtenL a).1 ⟨t, 1000⟩).1 = s' at *
  have hnew : atT t ⟨(writtenL a).1, S⟩ = true := by
    unfold atT; simp only; rw [hlast]; simp
  have hoF : ∀ g, o = some g → atT t g = false := fun g hg => by
    obtain ⟨_, hlt⟩ := ho g hg
    have hgs : g ∈ s := by rw [hs, hg]; simp
    have hgne := (h.old g hgs).ne
    have hm : nth g.S (g.S.length - 1) ∈ g.S := nth_mem (by have := List.length_pos_iff.2 hgne; omega)
    have := hlt _ hm
    unfold atT
    rw [decide_eq_false_iff_not]
    simp only at this
    omega
  have hkeep : ∀ g ∈ s, atT t g = true → g ∈ s' := fun g hg ht => by
    rw [hs] at hg
    rw [hs']
    rcases List.mem_append.1 hg with hg | hg
    · rcases List.mem_append.1 hg with hg | hg
      · exact List.mem_append_left _ hg
      · have : o = some g := by
          cases o with
          | none => simp at hg
          | some g' => simp at hg; rw [hg]
        rw [hoF g this] at ht; cases ht
    · exact List.mem_append_right _ (List.mem_cons_of_mem _ hg)
  refine ⟨hok, fun g hg => ?_, ?_, ?_, h.pos, fun e b hb => ?_⟩
  · rw [hs'] at hg
    rcases List.mem_append.1 hg with hg | hg
    · exact h.old g (by rw [hs]; simp [hg])
    · rcases List.mem_cons.1 hg with rfl | hg
      · exact ⟨hne, .inr ⟨by simp only; rw [hlast], by simp only; rw [hlast]⟩⟩
      · exact h.old g (by rw [hs]; simp [hg])
  · have hc := h.cnt
    rw [hs] at hc
    have hoc : o.toList.countP (atT t) = 0 := by
      cases o with
      | none => rfl
      | some g => simp [hoF g rfl]
    rw [List.countP_append, List.countP_append, hoc] at hc
    rw [hs', List.countP_append, List.countP_cons_of_pos hnew]
    simp only [List.length_append, List.length_singleton]
    omega
  · have := h.len
    rw [hs] at this
    rw [hs']
    simp only [List.length_append, List.length_cons] at this ⊢
    have h1 : o.toList.length ≤ 1 := by cases o <;> simp
    omega
  · rcases List.mem_append.1 hb with hb | hb
    · obtain ⟨k1, g, hg, k2, k3⟩ := h.each e b hb
      exact ⟨k1, g, hkeep g hg k3, k2, k3⟩
    · rw [List.mem_singleton.1 hb]
      exact ⟨h1, ⟨(writtenL a).1, S⟩, by rw [hs']; simp, rfl, hnew⟩
theorem WI.fold {t : Int} {n0 : Nat} : ∀ (l P : List GAlert) (s : List GSeries) (off : Int), WI t n0 P s off → WI t n0 (P ++ l) (l.foldl (writeS t) (s, off)).1 (l.foldl (writeS t) (s, off)).2
  | [], P, s, off, h => by simpa using h
  | a :: l, P, s, off, h => by
    have := WI.fold l (P ++ [a]) _ _ (h.step a)
    rw [List.append_assoc] at this
    exact this
theorem WI.all {t : Int} {st : List GSeries} (h : StOk st) (hlt : ∀ g ∈ st, (nth g.S (g.S.length - 1)).T < t) (x : GTable) : WI t st.length (activeF x) (writeF st x t).1 (writeF st x t).2 := by
  have h0 : WI t st.length [] st 0 := by
    refine ⟨h, fun g hg => ⟨(h.each g hg).2.1, .inl (hlt g hg)⟩, ?_, Nat.le_refl _, Int.le_refl _, fun _ a ha => by cases ha⟩
    have : st.countP (atT t) = 0 := by
      rw [List.countP_eq_zero]
      intro g hg
      unfold atT
      have := hlt g hg
      rw [decide_eq_true_eq]; omega
    rw [this]; rfl
  have := WI.fold (activeF x) [] st 0 h0
  unfold writeF
  rw [cntSt_of h]
  simpa using this
theorem get_eq {st : List GSeries} {l : List GPair} (h : StOk st) (hl : saneB l = true) : store_Get st l = some (if wasB st l then (nth st (cntL st l)).S else []) := by
  unfold store_Get
  rw [store_counted_eq, callM_some, cntSt_of h, find_eq h hl, callM_some]
  simp only [letE_eq, iteM_not]
  cases hw : wasB st l
  · rfl
  · rw [iteM_true, idxM_get (nth_get (wasB_at hw).1)]; rfl
theorem get_mem {st : List GSeries} {g : GSeries} (h : StOk st) (hg : g ∈ st) : store_Get st g.L = some g.S := by
  rw [get_eq h (h.sane hg), if_pos ((wasB_iff h.asc).2 ⟨g, hg, rfl⟩)]
  obtain ⟨k, hk, rfl⟩ := mem_nth hg
  rw [cntL_self h.asc hk]
end Go.Proofs.YtcpjmkbcefmldaaGreatDoor.AM
