/- Labels: what is computed, in plain words. -/
import Derived.Test.YtickejlolpoboaaAm21
set_option linter.all false
namespace Go.Proofs.Ytickejlolpoboaa.AM
open Go

abbrev Pr := ByteArray × ByteArray
def encP (p : Pr) : List D := [.v (.string p.1), .v (.string p.2)]
def encPs (l : List Pr) : List (List D) := l.map encP
def pr (l : List Pr) (k : Nat) : Pr := l.getD k default
theorem pr_get {l : List Pr} {k : Nat} (h : k < l.length) : l[k]? = some (pr l k) := by
  rw [pr, List.getD_eq_getElem?_getD, List.getElem?_eq_getElem h]; rfl
theorem encPs_getD {l : List Pr} {k : Nat} (h : k < l.length) : (encPs l).getD k [] = [.v (.string (pr l k).1), .v (.string (pr l k).2)] := by
  rw [encPs, List.getD_eq_getElem?_getD, List.getElem?_map, pr_get h]; rfl
@[simp] theorem encPs_length (l : List Pr) : (encPs l).length = l.length := List.length_map _
theorem encPs_append (l m : List Pr) : encPs l ++ encPs m = encPs (l ++ m) := (List.map_append ..).symm
theorem encPs_snoc (l : List Pr) (a b : ByteArray) : encPs l ++ [[.v (.string a), .v (.string b)]] = encPs (l ++ [(a, b)]) := by simp [encPs, encP]

def letterI (c : Int) : Bool := (decide (97 ≤ c) && decide (c ≤ 122)) || (decide (65 ≤ c) && decide (c ≤ 90)) || decide (c = 95)
def digitI (c : Int) : Bool := decide (48 ≤ c) && decide (c ≤ 57)
def okAt (s : ByteArray) (i : Nat) : Bool := letterI (s.get! i).toNat || (digitI (s.get! i).toNat && decide (i ≠ 0))
def nameB (s : ByteArray) : Bool := decide (1 ≤ s.size) && decide (s.size ≤ 64) && (List.range s.size).all (okAt s)

theorem nameB_bad {s : ByteArray} {k : Nat} (hk : k < s.size) (h : okAt s k = false) : nameB s = false := by
  simp only [nameB, Bool.and_eq_false_iff, List.all_eq_false, List.mem_range]
  exact .inr ⟨k, hk, by simp [h]⟩
theorem nameB_good {s : ByteArray} (h1 : 1 ≤ s.size) (h2 : s.size ≤ 64) (h : ∀ i, i < s.size → okAt s i = true) : nameB s = true := by
  simp only [nameB, h1, h2, decide_true, Bool.true_and, List.all_eq_true, List.mem_range]
  exact h
theorem nameB_len {s : ByteArray} (h : s.size < 1 ∨ 64 < s.size) : nameB s = false := by
  simp only [nameB, Bool.and_eq_false_iff, decide_eq_false_iff_not]
  omega
theorem okAt_def {s : ByteArray} {k : Nat} : (okAt s k = true) ↔ ((((97 ≤ ((s.get! k).toNat : Int) ∧ ((s.get! k).toNat : Int) ≤ 122) ∨ (65 ≤ ((s.get! k).toNat : Int) ∧ ((s.get! k).toNat : Int) ≤ 90)) ∨ ((s.get! k).toNat : Int) = 95) ∨ ((48 ≤ ((s.get! k).toNat : Int) ∧ ((s.get! k).toNat : Int) ≤ 57) ∧ ¬ (k = 0))) := by
  simp only [okAt, letterI, digitI, Bool.or_eq_true, Bool.and_eq_true, decide_eq_true_eq, ne_eq]

def saneAt (l : List Pr) (i : Nat) : Bool := nameB (pr l i).1 && decide ((pr l i).2.size ≤ 64) && (decide (i = 0) || lessB (pr l (i - 1)).1 (pr l i).1)
def saneB (l : List Pr) : Bool := decide (l.length ≤ 16) && (List.range l.length).all (saneAt l)
theorem saneB_bad {l : List Pr} {k : Nat} (hk : k < l.length) (h : saneAt l k = false) : saneB l = false := by
  simp only [saneB, Bool.and_eq_false_iff, List.all_eq_false, List.mem_range]
  exact .inr ⟨k, hk, by simp [h]⟩
theorem saneB_good {l : List Pr} (h1 : l.length ≤ 16) (h : ∀ i, i < l.length → saneAt l i = true) : saneB l = true := by
  simp only [saneB, h1, decide_true, Bool.true_and, List.all_eq_true, List.mem_range]
  exact h
theorem saneB_len {l : List Pr} (h : 16 < l.length) : saneB l = false := by
  simp only [saneB, Bool.and_eq_false_iff, decide_eq_false_iff_not]; left; omega

def countsL (l : List Pr) : List Pr := if saneB l then l else []
def getFrom (n : ByteArray) : List Pr → ByteArray × Bool
  | [] => (ByteArray.empty, false)
  | p :: l => if p.1 = n then (p.2, true) else getFrom n l
def getL (l : List Pr) (n : ByteArray) : ByteArray × Bool := getFrom n (countsL l)
def withoutL (l : List Pr) (n : ByteArray) : List Pr := (countsL l).filter fun p => !decide (p.1 = n)

theorem getFrom_take {n : ByteArray} {l : List Pr} : ∀ {k : Nat}, k ≤ l.length → (∀ i, i < k → (pr l i).1 ≠ n) → getFrom n l = getFrom n (l.drop k)
  | 0, _, _ => by simp
  | k + 1, hk, h => by
    rw [getFrom_take (k := k) (by omega) (fun i hi => h i (by omega))]
    have hk' : k < l.length := by omega
    have hp := pr_get hk'
    have : l.drop k = pr l k :: l.drop (k + 1) := by
      rw [List.drop_eq_getElem_cons hk']
      congr 1
      rw [List.getElem?_eq_getElem hk'] at hp
      exact Option.some.inj hp
    rw [this, getFrom, if_neg (h k (by omega))]
theorem drop_pr {l : List Pr} {k : Nat} (hk : k < l.length) : l.drop k = pr l k :: l.drop (k + 1) := by
  have hp := pr_get hk
  rw [List.drop_eq_getElem_cons hk]
  congr 1
  rw [List.getElem?_eq_getElem hk] at hp
  exact Option.some.inj hp
theorem take_pr {l : List Pr} {k : Nat} (hk : k < l.length) : l.take (k + 1) = l.take k ++ [pr l k] := by
  have hp := pr_get hk
  rw [List.take_add_one, hp]; rfl

end Go.Proofs.Ytickejlolpoboaa.AM
