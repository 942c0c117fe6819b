/- Labels, in plain words: names, what is sane, got, taken away, made, merged; the order. -/
import Derived.Test.YtickejlolpoboaaAm23
import Derived.Test.YtickejlolpoboaaAm26
import Derived.Test.YtickejlolpoboaaAm28
set_option linter.all false
namespace Go.Proofs.Ytickejlolpoboaa.AM
open Go

abbrev Pr := ByteArray × ByteArray
def encP (p : Pr) : List D := [.v (.string p.1), .v (.string p.2)]
def encPs (l : List Pr) : List (List D) := l.map encP
def pr (l : List Pr) (k : Nat) : Pr := l.getD k default
theorem pr_get {l : List Pr} {k : Nat} (h : k < l.length) : l[k]? = some (pr l k) := by
  rw [pr, List.getD_eq_getElem?_getD, List.getElem?_eq_getElem h]; rfl
theorem encPs_getD {l : List Pr} {k : Nat} (h : k < l.length) : (encPs l).getD k [] = [.v (.string (pr l k).1), .v (.string (pr l k).2)] := by
  rw [encPs, List.getD_eq_getElem?_getD, List.getElem?_map, pr_get h]; rfl
@[simp] theorem encPs_length (l : List Pr) : (encPs l).length = l.length := List.length_map _
theorem encPs_append (l m : List Pr) : encPs l ++ encPs m = encPs (l ++ m) := (List.map_append ..).symm
theorem encPs_snoc (l : List Pr) (a b : ByteArray) : encPs l ++ [[.v (.string a), .v (.string b)]] = encPs (l ++ [(a, b)]) := by simp [encPs, encP]

def letterI (c : Int) : Bool := (decide (97 ≤ c) && decide (c ≤ 122)) || (decide (65 ≤ c) && decide (c ≤ 90)) || decide (c = 95)
def digitI (c : Int) : Bool := decide (48 ≤ c) && decide (c ≤ 57)
def okAt (s : ByteArray) (i : Nat) : Bool := letterI (s.get! i).toNat || (digitI (s.get! i).toNat && decide (i ≠ 0))
def nameB (s : ByteArray) : Bool := decide (1 ≤ s.size) && decide (s.size ≤ 64) && (List.range s.size).all (okAt s)

theorem nameB_bad {s : ByteArray} {k : Nat} (hk : k < s.size) (h : okAt s k = false) : nameB s = false := by
  simp only [nameB, Bool.and_eq_false_iff, List.all_eq_false, List.mem_range]
  exact .inr ⟨k, hk, by simp [h]⟩
theorem nameB_good {s : ByteArray} (h1 : 1 ≤ s.size) (h2 : s.size ≤ 64) (h : ∀ i, i < s.size → okAt s i = true) : nameB s = true := by
  simp only [nameB, h1, h2, decide_true, Bool.true_and, List.all_eq_true, List.mem_range]
  exact h
theorem nameB_len {s : ByteArray} (h : s.size < 1 ∨ 64 < s.size) : nameB s = false := by
  simp only [nameB, Bool.and_eq_false_iff, decide_eq_false_iff_not]
  omega
theorem okAt_def {s : ByteArray} {k : Nat} : (okAt s k = true) ↔ ((((97 ≤ ((s.get! k).toNat : Int) ∧ ((s.get! k).toNat : Int) ≤ 122) ∨ (65 ≤ ((s.get! k).toNat : Int) ∧ ((s.get! k).toNat : Int) ≤ 90)) ∨ ((s.get! k).toNat : Int) = 95) ∨ ((48 ≤ ((s.get! k).toNat : Int) ∧ ((s.get! k).toNat : Int) ≤ 57) ∧ ¬ (k = 0))) := by
  simp only [okAt, letterI, digitI, Bool.or_eq_true, Bool.and_eq_true, decide_eq_true_eq, ne_eq]

def saneAt (l : List Pr) (i : Nat) : Bool := nameB (pr l i).1 && decide ((pr l i).2.size ≤ 64) && (decide (i = 0) || lessB (pr l (i - 1)).1 (pr l i).1)
def saneB (l : List Pr) : Bool := decide (l.length ≤ 16) && (List.range l.length).all (saneAt l)
theorem saneB_bad {l : List Pr} {k : Nat} (hk : k < l.length) (h : saneAt l k = false) : saneB l = false := by
  simp only [saneB, Bool.and_eq_false_iff, List.all_eq_false, List.mem_range]
  exact .inr ⟨k, hk, by simp [h]⟩
theorem saneB_good {l : List Pr} (h1 : l.length ≤ 16) (h : ∀ i, i < l.length → saneAt l i = true) : saneB l = true := by
  simp only [saneB, h1, decide_true, Bool.true_and, List.all_eq_true, List.mem_range]
  exact h
theorem saneB_len {l : List Pr} (h : 16 < l.length) : saneB l = false := by
  simp only [saneB, Bool.and_eq_false_iff, decide_eq_false_iff_not]; left; omega

def countsL (l : List Pr) : List Pr := if saneB l then l else []
def getFrom (n : ByteArray) : List Pr → ByteArray × Bool
  | [] => (ByteArray.empty, false)
  | p :: l => if p.1 = n then (p.2, true) else getFrom n l
def getL (l : List Pr) (n : ByteArray) : ByteArray × Bool := getFrom n (countsL l)
def withoutL (l : List Pr) (n : ByteArray) : List Pr := (countsL l).filter fun p => !decide (p.1 = n)

theorem getFrom_take {n : ByteArray} {l : List Pr} : ∀ {k : Nat}, k ≤ l.length → (∀ i, i < k → (pr l i).1 ≠ n) → getFrom n l = getFrom n (l.drop k)
  | 0, _, _ => by simp
  | k + 1, hk, h => by
    rw [getFrom_take (k := k) (by omega) (fun i hi => h i (by omega))]
    have hk' : k < l.length := by omega
    have hp := pr_get hk'
    have : l.drop k = pr l k :: l.drop (k + 1) := by
      rw [List.drop_eq_getElem_cons hk']
      congr 1
      rw [List.getElem?_eq_getElem hk'] at hp
      exact Option.some.inj hp
    rw [this, getFrom, if_neg (h k (by omega))]
theorem drop_pr {l : List Pr} {k : Nat} (hk : k < l.length) : l.drop k = pr l k :: l.drop (k + 1) := by
  have hp := pr_get hk
  rw [List.drop_eq_getElem_cons hk]
  congr 1
  rw [List.getElem?_eq_getElem hk] at hp
  exact Option.some.inj hp
theorem take_pr {l : List Pr} {k : Nat} (hk : k < l.length) : l.take (k + 1) = l.take k ++ [pr l k] := by
  have hp := pr_get hk
  rw [List.take_add_one, hp]; rfl

theorem countsL_len (l : List Pr) : (countsL l).length ≤ 16 := by
  unfold countsL
  split
  · rename_i h
    simp only [saneB, Bool.and_eq_true, decide_eq_true_eq] at h
    exact h.1
  · simp

def cmpS (a b : ByteArray) : Int := if lessB a b then -1 else if lessB b a then 1 else 0
def decP : List D → Pr
  | .v (.string a) :: .v (.string b) :: _ => (a, b)
  | _ => default
theorem decP_encP (p : Pr) : decP (encP p) = p := rfl

theorem cmpS_neg {a b : ByteArray} : cmpS a b < 0 ↔ lessB a b = true := by
  unfold cmpS
  split
  · simp [*]
  · split <;> simp [*]

def tooLong (p : Pr) : Bool := decide (64 < p.2.size)
def twice : List Pr → Bool
  | [] => false
  | p :: l => l.any (fun q => decide (q.1 = p.1)) || twice l
def insP (p : Pr) : List Pr → List Pr
  | [] => [p]
  | q :: l => if lessB p.1 q.1 then p :: q :: l else q :: insP p l
def sortP : List Pr → List Pr
  | [] => []
  | p :: l => insP p (sortP l)
def wrongE (l : List Pr) : Int :=
  if 16 < l.length then 4 else if l.any tooLong then 4 else if l.all (fun p => nameB p.1) then (if twice l then 6 else 0) else 7
def makeL (l : List Pr) : List Pr × Int := if wrongE l = 0 then (sortP l, 0) else ([], wrongE l)

theorem insP_perm (p : Pr) : ∀ l, (insP p l).Perm (p :: l)
  | [] => .refl _
  | q :: l => by
    unfold insP
    split
    · exact .refl _
    · exact ((insP_perm p l).cons q).trans (.swap p q l)
theorem sortP_perm : ∀ l, (sortP l).Perm l
  | [] => .refl _
  | p :: l => (insP_perm p _).trans ((sortP_perm l).cons p)

def Asc (l : List Pr) : Prop := l.Pairwise (fun p q => lessB q.1 p.1 = false)
theorem insP_asc (p : Pr) : ∀ {l : List Pr}, Asc l → Asc (insP p l)
  | [], _ => by simp [insP, Asc]
  | q :: l, h => by
    obtain ⟨h1, h2⟩ := List.pairwise_cons.1 h
    unfold insP
    split
    · rename_i hl
      refine List.pairwise_cons.2 ⟨?_, h⟩
      intro r hr
      rcases List.mem_cons.1 hr with rfl | hr
      · exact lessB_asymm hl
      · have := h1 r hr
        cases hc : lessB r.1 p.1
        · rfl
        · have := lessB_trans hc hl; rw [h1 r hr] at this; cases this
    · rename_i hl
      refine List.pairwise_cons.2 ⟨?_, insP_asc p h2⟩
      intro r hr
      rcases List.mem_cons.1 ((insP_perm p l).mem_iff.1 hr) with rfl | hr
      · simpa using hl
      · exact h1 r hr
theorem sortP_asc : ∀ l, Asc (sortP l)
  | [] => .nil
  | p :: l => insP_asc p (sortP_asc l)

theorem twice_nodup : ∀ {l : List Pr}, twice l = false → (l.map (·.1)).Nodup
  | [], _ => .nil
  | p :: l, h => by
    simp only [twice, Bool.or_eq_false_iff, List.any_eq_false, decide_eq_true_eq] at h
    simp only [List.map_cons, List.nodup_cons, List.mem_map, not_exists, not_and]
    exact ⟨fun q hq => h.1 q hq, twice_nodup h.2⟩

/-- Sorted, with no name twice: only one way. -/
theorem asc_unique : ∀ {l m : List Pr}, Asc l → Asc m → l.Perm m → (l.map (·.1)).Nodup → l = m
  | [], m, _, _, h, _ => (List.nil_perm.1 h).symm
  | p :: l, [], _, _, h, _ => absurd h.length_eq (by simp)
  | p :: l, q :: m, h1, h2, h3, h4 => by
    obtain ⟨a1, a2⟩ := List.pairwise_cons.1 h1
    obtain ⟨b1, b2⟩ := List.pairwise_cons.1 h2
    have hpq : p = q := by
      have hp : p ∈ q :: m := h3.mem_iff.1 List.mem_cons_self
      have hq : q ∈ p :: l := h3.mem_iff.2 List.mem_cons_self
      rcases List.mem_cons.1 hp with h | hp
      · exact h
      rcases List.mem_cons.1 hq with h | hq
      · exact h.symm
      have e := lessB_total (a1 q hq) (b1 p hp)
      have hn := (List.nodup_cons.1 h4).1
      exact (hn (List.mem_map.2 ⟨q, hq, e⟩)).elim
    subst hpq
    rw [asc_unique a2 b2 (h3.cons_inv) (List.nodup_cons.1 h4).2]

theorem sortP_eq {l m : List Pr} (h : twice l = false) (hp : m.Perm l) (ha : Asc m) : m = sortP l :=
  asc_unique ha (sortP_asc l) (hp.trans (sortP_perm l).symm) ((hp.map (·.1)).nodup_iff.2 (twice_nodup h))

def mapOf (l : List Pr) : List (Value × AV) := l.map fun p => (Value.string p.1, AV.v (.bool true))
theorem mapOf_keys (l : List Pr) : keysOk .string (mapOf l) = True := eq_true (by
  intro e he; obtain ⟨p, _, rfl⟩ := List.mem_map.1 he; rfl)
theorem mget_mapOf (n : ByteArray) : ∀ l : List Pr, mget (mapOf l) (.string n) = if l.any (fun q => decide (q.1 = n)) then some (.v (.bool true)) else none
  | [] => rfl
  | p :: l => by
    have ih := mget_mapOf n l
    simp only [mapOf] at ih
    simp only [mapOf, List.map_cons, mget, keyEq, List.any_cons, ih]
    by_cases h : p.1 = n
    · simp [h]
    · have : ¬ n = p.1 := fun e => h e.symm
      simp only [h, this, decide_false, Bool.false_or, Bool.false_eq_true, if_false]
theorem mset_mapOf {n : ByteArray} {v : ByteArray} : ∀ {l : List Pr}, l.any (fun q => decide (q.1 = n)) = false → mset (mapOf l) (.string n) (.v (.bool true)) = mapOf (l ++ [(n, v)])
  | [], _ => rfl
  | p :: l, h => by
    simp only [List.any_cons, Bool.or_eq_false_iff, decide_eq_false_iff_not] at h
    have ih := mset_mapOf (v := v) h.2
    have : ¬ n = p.1 := fun e => h.1 e.symm
    simp only [mapOf] at ih
    simp only [mapOf, List.map_cons, List.cons_append, mset, keyEq, this, decide_false, Bool.false_eq_true, if_false, ih]

theorem twice_take {l : List Pr} {k : Nat} (hk : k < l.length) (h : (l.take k).any (fun q => decide (q.1 = (pr l k).1)) = true) : twice l = true := by
  induction l generalizing k with
  | nil => simp at hk
  | cons p l ih =>
    cases k with
    | zero => simp at h
    | succ k =>
      have hp : pr (p :: l) (k + 1) = pr l k := rfl
      rw [hp] at h
      simp only [List.take_succ_cons, List.any_cons, Bool.or_eq_true, decide_eq_true_eq] at h
      simp only [twice, Bool.or_eq_true, List.any_eq_true, decide_eq_true_eq]
      simp only [List.length_cons] at hk
      rcases h with h | h
      · left; exact ⟨pr l k, List.mem_of_getElem? (pr_get (by omega)), h.symm⟩
      · right; exact ih (by omega) h
theorem twice_none {l : List Pr} (h : ∀ k, k < l.length → (l.take k).any (fun q => decide (q.1 = (pr l k).1)) = false) : twice l = false := by
  induction l with
  | nil => rfl
  | cons p l ih =>
    simp only [twice, Bool.or_eq_false_iff]
    constructor
    · rw [List.any_eq_false]
      intro q hq
      obtain ⟨j, hj, rfl⟩ := List.mem_iff_getElem.1 hq
      have := h (j + 1) (by simp; omega)
      simp only [List.take_succ_cons, List.any_cons, Bool.or_eq_false_iff] at this
      have e : pr (p :: l) (j + 1) = l[j] := by
        have := pr_get (l := p :: l) (k := j + 1) (by simp; omega)
        simp only [List.getElem?_cons_succ, List.getElem?_eq_getElem hj] at this
        exact (Option.some.inj this).symm
      rw [e] at this
      simp only [decide_eq_true_eq, decide_eq_false_iff_not] at this ⊢
      exact fun e => this.1 e.symm
    · refine ih fun k hk => ?_
      have := h (k + 1) (by simp; omega)
      simp only [List.take_succ_cons, List.any_cons, Bool.or_eq_false_iff] at this
      exact this.2

theorem makeL_of {l : List Pr} {e : Int} (h : wrongE l = e) (he : e ≠ 0) : makeL l = ([], e) := by rw [makeL, h, if_neg he]
theorem makeL_ok {l : List Pr} (h : wrongE l = 0) : makeL l = (sortP l, 0) := by rw [makeL, if_pos h]
def withL (l : List Pr) (n v : ByteArray) : List Pr × Int := makeL (withoutL l n ++ [(n, v)])
theorem withoutL_len (l : List Pr) (n : ByteArray) : (withoutL l n).length ≤ 16 := Nat.le_trans (List.length_filter_le _ _) (countsL_len l)
def mergeL (a b : List Pr) : List Pr × Int := makeL ((countsL a).filter (fun p => !(getL (countsL b) p.1).2) ++ countsL b)
def encIs (l : List Int) : List (List D) := l.map fun n => [.v (.int .i64 n)]
def it (l : List Int) (k : Nat) : Int := l.getD k 0
theorem it_get {l : List Int} {k : Nat} (h : k < l.length) : l[k]? = some (it l k) := by
  rw [it, List.getD_eq_getElem?_getD, List.getElem?_eq_getElem h]; rfl
theorem encIs_getD {l : List Int} {k : Nat} (h : k < l.length) : (encIs l).getD k [] = [.v (.int .i64 (it l k))] := by
  rw [encIs, List.getD_eq_getElem?_getD, List.getElem?_map, it_get h]; rfl
theorem encIs_length (l : List Int) : (encIs l).length = l.length := List.length_map _
def orL : List Int → Int
  | [] => 0
  | a :: l => if a ≠ 0 then a else orL l
theorem drop_it {l : List Int} {k : Nat} (hk : k < l.length) : l.drop k = it l k :: l.drop (k + 1) := by
  have hp := it_get hk
  rw [List.drop_eq_getElem_cons hk]
  congr 1
  rw [List.getElem?_eq_getElem hk] at hp
  exact Option.some.inj hp
theorem orL_drop {l : List Int} : ∀ {k : Nat}, k ≤ l.length → (∀ i, i < k → it l i = 0) → orL l = orL (l.drop k)
  | 0, _, _ => by simp
  | k + 1, hk, h => by
    rw [orL_drop (k := k) (by omega) (fun i hi => h i (by omega)), drop_it (by omega), orL, if_neg (by simp [h k (by omega)])]

def cmpP (p q : Pr) : Int := if cmpS p.1 q.1 ≠ 0 then cmpS p.1 q.1 else cmpS p.2 q.2
def cmpLs : List Pr → List Pr → Int
  | [], [] => 0
  | [], _ :: _ => -1
  | _ :: _, [] => 1
  | p :: a, q :: b => if cmpP p q ≠ 0 then cmpP p q else cmpLs a b
theorem cmpLs_drop {a b : List Pr} : ∀ {k : Nat}, k ≤ a.length → k ≤ b.length → (∀ i, i < k → cmpP (pr a i) (pr b i) = 0) → cmpLs a b = cmpLs (a.drop k) (b.drop k)
  | 0, _, _, _ => by simp
  | k + 1, h1, h2, h => by
    rw [cmpLs_drop (k := k) (by omega) (by omega) (fun i hi => h i (by omega)), drop_pr (l := a) (by omega), drop_pr (l := b) (by omega), cmpLs, if_neg (by simp [h k (by omega)])]

def compareL (a b : List Pr) : Int := cmpLs (countsL a) (countsL b)
def sumW (l : List Pr) : Nat → Int
  | 0 => 0
  | k + 1 => IntKind.i64.wrap (IntKind.i64.wrap (sumW l k + (pr l k).1.size) + (pr l k).2.size)
def fewB (l : List Pr) : Bool := decide (l.length ≤ 40) && decide (sumW l l.length ≤ 3000)
theorem fewB_len {l : List Pr} (h : fewB l = true) : l.length ≤ 40 := by
  simp only [fewB, Bool.and_eq_true, decide_eq_true_eq] at h; exact h.1

/-- The four conditions. -/
structure Good (l : List Pr) : Prop where
  len : l.length ≤ 16
  short : ∀ p ∈ l, tooLong p = false
  name : ∀ p ∈ l, nameB p.1 = true
  once : twice l = false

theorem wrongE_zero {l : List Pr} : wrongE l = 0 ↔ Good l := by
  unfold wrongE
  constructor
  · intro h
    split at h
    · cases h
    · rename_i h1
      split at h
      · cases h
      · rename_i h2
        split at h
        · rename_i h3
          split at h
          · cases h
          · rename_i h4
            exact ⟨by omega, by simpa using h2, by simpa using h3, by simpa using h4⟩
        · cases h
  · rintro ⟨h1, h2, h3, h4⟩
    rw [if_neg (by omega), if_neg (by simpa using h2), if_pos (by simpa using h3), if_neg (by simp [h4])]

theorem twice_iff {l : List Pr} : twice l = false ↔ (l.map (·.1)).Nodup := by
  constructor
  · exact twice_nodup
  · intro h
    induction l with
    | nil => rfl
    | cons p l ih =>
      obtain ⟨h1, h2⟩ := List.nodup_cons.1 h
      simp only [twice, Bool.or_eq_false_iff, List.any_eq_false, decide_eq_true_eq]
      exact ⟨fun q hq e => h1 (List.mem_map.2 ⟨q, hq, e⟩), ih h2⟩

theorem Good.perm {l m : List Pr} (h : Good l) (hp : m.Perm l) : Good m :=
  ⟨by rw [hp.length_eq]; exact h.len, fun p hm => h.short p (hp.mem_iff.1 hm), fun p hm => h.name p (hp.mem_iff.1 hm),
    twice_iff.2 (((hp.map (·.1)).nodup_iff).2 (twice_iff.1 h.once))⟩

theorem makeL_good {l : List Pr} (h : Good l) : makeL l = (sortP l, 0) := makeL_ok (wrongE_zero.2 h)
theorem makeL_perm {l m : List Pr} (h : Good l) (hp : m.Perm l) : makeL m = (sortP l, 0) := by
  rw [makeL_good (h.perm hp)]
  rw [sortP_eq h.once ((sortP_perm m).trans hp) (sortP_asc m)]
theorem sortP_sorted {l : List Pr} (h : Good l) (ha : Asc l) : sortP l = l := (sortP_eq h.once (.refl l) ha).symm


/-- Ascending, no name twice: strictly ascending. -/
theorem saneB_iff {l : List Pr} : saneB l = true ↔ l.length ≤ 16 ∧ (∀ p ∈ l, nameB p.1 = true) ∧ (∀ p ∈ l, p.2.size ≤ 64) ∧ l.Pairwise (fun p q => lessB p.1 q.1 = true) := by
  have hpr : ∀ p ∈ l, ∃ i, i < l.length ∧ pr l i = p := by
    intro p hp
    obtain ⟨i, hi, rfl⟩ := List.mem_iff_getElem.1 hp
    have e := pr_get hi
    rw [List.getElem?_eq_getElem hi] at e
    exact ⟨i, hi, (Option.some.inj e).symm⟩
  constructor
  · intro h
    simp only [saneB, Bool.and_eq_true, decide_eq_true_eq, List.all_eq_true, List.mem_range] at h
    obtain ⟨h1, h2⟩ := h
    have h3 : ∀ i, i < l.length → nameB (pr l i).1 = true ∧ (pr l i).2.size ≤ 64 ∧ (i = 0 ∨ lessB (pr l (i - 1)).1 (pr l i).1 = true) := by
      intro i hi
      have := h2 i hi
      simp only [saneAt, Bool.and_eq_true, decide_eq_true_eq, Bool.or_eq_true] at this
      exact ⟨this.1.1, this.1.2, this.2⟩
    refine ⟨h1, ?_, ?_, ?_⟩
    · intro p hp; obtain ⟨i, hi, rfl⟩ := hpr p hp; exact (h3 i hi).1
    · intro p hp; obtain ⟨i, hi, rfl⟩ := hpr p hp; exact (h3 i hi).2.1
    · rw [List.pairwise_iff_getElem]
      have key : ∀ (d i : Nat), i + d + 1 < l.length → lessB (pr l i).1 (pr l (i + d + 1)).1 = true := by
        intro d
        induction d with
        | zero =>
          intro i hi
          rcases (h3 (i + 0 + 1) hi).2.2 with h | h
          · omega
          · simpa using h
        | succ d ih =>
          intro i hi
          have a := ih i (by omega)
          rcases (h3 (i + (d + 1) + 1) hi).2.2 with h | h
          · omega
          · exact lessB_trans a (by simpa [Nat.add_assoc] using h)
      intro i j hi hj hij
      have e1 := pr_get hi
      have e2 := pr_get hj
      rw [List.getElem?_eq_getElem hi] at e1
      rw [List.getElem?_eq_getElem hj] at e2
      rw [Option.some.inj e1, Option.some.inj e2]
      have := key (j - i - 1) i (by omega)
      rwa [show i + (j - i - 1) + 1 = j from by omega] at this
  · rintro ⟨h1, h2, h3, h4⟩
    refine saneB_good h1 fun i hi => ?_
    have hm : pr l i ∈ l := List.mem_of_getElem? (pr_get hi)
    simp only [saneAt, h2 _ hm, h3 _ hm, decide_true, Bool.true_and, Bool.or_eq_true, decide_eq_true_eq]
    rcases Nat.eq_zero_or_pos i with h | h
    · exact .inl h
    · right
      have := List.pairwise_iff_getElem.1 h4 (i - 1) i (by omega) hi (by omega)
      have e1 := pr_get (l := l) (k := i - 1) (by omega)
      have e2 := pr_get hi
      rw [List.getElem?_eq_getElem (by omega)] at e1
      rw [List.getElem?_eq_getElem hi] at e2
      rw [Option.some.inj e1, Option.some.inj e2] at this
      exact this

theorem saneB_good' {l : List Pr} (h : saneB l = true) : Good l ∧ Asc l := by
  obtain ⟨h1, h2, h3, h4⟩ := saneB_iff.1 h
  refine ⟨⟨h1, fun p hp => by have := h3 p hp; simp only [tooLong, decide_eq_false_iff_not]; omega, h2, twice_iff.2 ?_⟩, h4.imp fun h => lessB_asymm h⟩
  rw [List.Nodup, List.pairwise_map]
  exact h4.imp fun {a b} hab he => by rw [he, lessB_irrefl] at hab; cases hab

theorem sane_of_good {l : List Pr} (h : Good l) (ha : Asc l) : saneB l = true := by
  refine saneB_iff.2 ⟨h.len, h.name, fun p hp => by have := h.short p hp; simp only [tooLong, decide_eq_false_iff_not] at this; omega, ?_⟩
  have hn := twice_iff.1 h.once
  rw [List.Nodup, List.pairwise_map] at hn
  refine (ha.and hn).imp ?_
  rintro a b ⟨h1, h2⟩
  cases hc : lessB a.1 b.1
  · exact (h2 (lessB_total hc h1)).elim
  · rfl

theorem getFrom_mem {l : List Pr} (h : (l.map (·.1)).Nodup) {p : Pr} (hp : p ∈ l) : getFrom p.1 l = (p.2, true) := by
  induction l with
  | nil => cases hp
  | cons q l ih =>
    obtain ⟨h1, h2⟩ := List.nodup_cons.1 h
    unfold getFrom
    rcases List.mem_cons.1 hp with rfl | hp
    · rw [if_pos rfl]
    · rw [if_neg (fun e => h1 (List.mem_map.2 ⟨p, hp, e.symm⟩))]
      exact ih h2 hp
theorem getL_mem {l : List Pr} (hs : saneB l = true) {p : Pr} (hp : p ∈ l) : getL l p.1 = (p.2, true) := by
  rw [getL, countsL, if_pos hs]
  exact getFrom_mem (twice_iff.1 (saneB_good' hs).1.once) hp
theorem sane_sortP {l : List Pr} (h : Good l) : saneB (sortP l) = true := sane_of_good (h.perm (sortP_perm l)) (sortP_asc l)
theorem getL_sortP {l : List Pr} (h : Good l) {p : Pr} (hp : p ∈ l) : getL (sortP l) p.1 = (p.2, true) := getL_mem (sane_sortP h) ((sortP_perm l).mem_iff.2 hp)
theorem makeL_sortP {l : List Pr} (h : Good l) : makeL (sortP l) = (sortP l, 0) := makeL_perm h (sortP_perm l)
theorem makeL_reverse {l : List Pr} (h : Good l) : makeL l.reverse = (sortP l, 0) := makeL_perm h (List.reverse_perm l)
theorem makeL_bad {l : List Pr} (h : ¬ Good l) : (makeL l).1 = [] ∧ (makeL l).2 ≠ 0 ∧ saneB l = false := by
  have hw : wrongE l ≠ 0 := fun e => h (wrongE_zero.1 e)
  rw [makeL_of rfl hw]
  refine ⟨rfl, hw, ?_⟩
  cases hs : saneB l
  · rfl
  · exact (h (saneB_good' hs).1).elim

theorem zr2s : zrep [Value.string ByteArray.empty, Value.string ByteArray.empty] 2 1 = [.v (.string ByteArray.empty), .v (.string ByteArray.empty)] := rfl
theorem zr2s2 : zrep [Value.string ByteArray.empty, Value.string ByteArray.empty] 2 2 = [.v (.string ByteArray.empty), .v (.string ByteArray.empty), .v (.string ByteArray.empty), .v (.string ByteArray.empty)] := rfl
theorem zr1i : zrep [Value.int .i64 0] 1 1 = [.v (.int .i64 0)] := rfl
theorem zr1i2 : zrep [Value.int .i64 0] 1 2 = [.v (.int .i64 0), .v (.int .i64 0)] := rfl
theorem encPs_row (l : List Pr) : (∀ r ∈ encPs l, r.length = 2) = True := eq_true (by
  intro r hr; obtain ⟨p, _, rfl⟩ := List.mem_map.1 hr; rfl)
theorem encPs_nil : encPs [] = [] := rfl
theorem encPs_one (a b : ByteArray) : [[D.v (.string a), D.v (.string b)]] = encPs [(a, b)] := rfl
theorem encPs_two (a b : ByteArray) (l : List Pr) : [D.v (.string a), D.v (.string b)] :: encPs l = encPs ((a, b) :: l) := rfl
attribute [go_sem] encPs_length encPs_getD encPs_row encPs_snoc zr2s zr2s2 zr1i zr1i2 encIs_length encIs_getD
end Go.Proofs.Ytickejlolpoboaa.AM
