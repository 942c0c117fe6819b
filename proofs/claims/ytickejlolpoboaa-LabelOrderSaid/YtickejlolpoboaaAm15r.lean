/- Regions whose order is drawn: what an operation answers hangs on the slots that it looks at alone. -/
import Derived.Test.YtickejlolpoboaaAm15q
import Derived.Deep.Quiet
set_option linter.all false
namespace Go.Proofs.Ytickejlolpoboaa.AM
open Go

def keepL : List AV → Nat → List Nat → List AV
  | [], _, _ => []
  | x :: xs, n, L => (bif L.contains n then x else .any) :: keepL xs (n + 1) L

theorem keepL_length : ∀ (xs : List AV) (n : Nat) (L : List Nat), (keepL xs n L).length = xs.length
  | [], _, _ => rfl
  | x :: xs, n, L => by simp [keepL, keepL_length xs]

theorem keepL_get : ∀ (xs : List AV) (n : Nat) (L : List Nat) (i : Nat), (keepL xs n L)[i]? = (xs[i]?).map fun x => bif L.contains (n + i) then x else .any
  | [], _, _, _ => rfl
  | x :: xs, n, L, 0 => rfl
  | x :: xs, n, L, i + 1 => by
    simp only [keepL, List.getElem?_cons_succ]
    rw [keepL_get xs (n + 1) L i]
    congr 2
    funext x
    rw [show n + 1 + i = n + (i + 1) from by omega]

def AS.keep (s : AS) (L : List Nat) : AS := { s with tmps := keepL s.tmps 0 L }

theorem keep_put {s : AS} {dst : Option Nat} {x : AV} {L : List Nat} (h : ∀ d, dst = some d → d ∉ L) : (s.put dst x).keep L = s.keep L := by
  cases dst with
  | none => rfl
  | some d =>
    simp only [AS.put, AS.keep, AS.mk.injEq, and_true]
    apply List.ext_getElem?
    intro i
    rw [keepL_get, keepL_get, List.getElem?_set]
    by_cases hd : d = i
    · subst hd
      have hn : L.contains (0 + d) = false := by simpa using h d rfl
      simp only [hn, cond_false, if_true]
      split
      · rename_i hl; simp [List.getElem?_eq_getElem hl]
      · rename_i hl; rw [List.getElem?_eq_none (by omega)]; try rfl
    · rw [if_neg hd]

theorem put_comm {s : AS} {d e : Option Nat} {x y : AV} (h : ∀ i, d = some i → e ≠ some i) : (s.put d x).put e y = (s.put e y).put d x := by
  cases d with
  | none => cases e <;> rfl
  | some i =>
    cases e with
    | none => rfl
    | some j =>
      have hne : i ≠ j := fun he => h i rfl (by rw [he])
      simp only [AS.put, AS.mk.injEq, and_true]
      exact List.set_comm _ _ hne

theorem keep_sat {G : Ghost} {s : AS} {a : Act} {w : World} (hs : Sat G s a w) (L : List Nat) : Sat G (s.keep L) a w := by
  refine ⟨hs.mem, ⟨by simp only [AS.keep, keepL_length]; exact hs.tmps.1, fun i x v hx hv => ?_⟩, hs.defers⟩
  simp only [AS.keep, keepL_get] at hx
  cases hq : s.tmps[i]? with
  | none => simp [hq] at hx
  | some z =>
    simp only [hq, Option.map_some, Option.some.injEq] at hx
    subst hx
    cases L.contains (0 + i)
    · exact .any v
    · exact hs.tmps.2 i z v hq hv

def YA (P : Program) (ops : Array Oper) (o : Oper) (s : AS) (y : AV) : Prop :=
  o.guard = none ∧ aop P o (s.keep (o.looksAt ops)) (fun s1 => s1 = (s.keep (o.looksAt ops)).put o.dst y) (fun _ _ => False)

theorem wp_put {P : Program} {o : Oper} {a : Act} {w : World} {K : Act → World → Prop} {Q : Exit → Act → World → Prop} (hK : ∀ a' w', K a' w' → a'.defers = []) (h : o.wp P a w K Q) :
    o.wp P a w (fun a' w' => (∃ v, a' = a.put o.dst v) ∧ K a' w') Q := by
  unfold Oper.wp at *
  generalize (execOp a.eval o).run P w = r at *
  cases r with
  | ok n w' =>
    cases n <;> simp only [Oper.upon] at * <;> first | exact h | skip
    case value => exact ⟨⟨_, rfl⟩, h⟩
    case skip => exact ⟨⟨_, rfl⟩, h⟩
    case defer =>
      have := hK _ _ h
      cases hd : o.dst <;> simp [Act.put, hd] at this
    case enter =>
      refine h.mono ?_
      intro e w'' he
      cases e with
      | returned v => exact ⟨⟨_, rfl⟩, he⟩
      | panicked c => exact he
      | outgrown => exact he
    case row => exact h.mono fun v w'' he => ⟨⟨_, rfl⟩, he⟩
  | halt x w' => cases x <;> simp only [Oper.upon] at * <;> exact h

theorem YA.sound {P : Program} {ops : Array Oper} {o : Oper} {G : Ghost} {s : AS} {a : Act} {w : World} {y : AV} {K' : Act → World → Prop} {Q : Exit → Act → World → Prop} (h : YA P ops o s y) (hs : Sat G s a w)
    (hK : ∀ G' a' w', Sat G' (s.put o.dst y) a' w' → Step G w G' w' → K' a' w') : o.wp P a w K' Q := by
  have h1 := aop_sound (Q := Q) h.2 (keep_sat hs _) (fun x objs' G' v w' hf => hf.elim)
  have h2 := wp_put (fun a' w' hn => by obtain ⟨s', G', _, hs', _⟩ := hn; exact hs'.defers) h1
  refine Oper.wp_mono ?_ h2
  rintro a' w' ⟨⟨v, rfl⟩, s', G', rfl, hs', hst⟩
  refine hK G' _ w' ⟨hs'.mem, ?_, hs'.defers⟩ hst
  have hm := hs.tmps.mono hst.ext
  cases hd : o.dst with
  | none => simpa [AS.put, Act.put, hd] using hm
  | some d =>
    rw [hd] at hs'
    have ht := hs'.tmps
    simp only [AS.put, Act.put, Array.toList_setIfInBounds] at ht ⊢
    refine ⟨by simpa using hm.1, fun i x u hx hu => ?_⟩
    by_cases hdi : d = i
    · subst hdi
      refine ht.2 d x u ?_ hu
      rw [List.getElem?_set] at hx ⊢
      simp only [if_true] at hx ⊢
      split at hx
      · rename_i hl
        rw [if_pos (by simpa [AS.keep, keepL_length] using hl)]; exact hx
      · cases hx
    · rw [List.getElem?_set, if_neg hdi] at hx hu
      exact hm.2 i x u hx hu

def aAny (P : Program) (ops : Array Oper) (Q : AS → Prop) : Nat → Array Bool → AS → Prop
  | 0, listed, s => Region.ready .any ops listed = [] ∧ Q s
  | fuel + 1, listed, s => (Region.ready .any ops listed = [] → Q s) ∧
      ∀ i ∈ Region.ready .any ops listed, ∃ o y, ops[i]? = some o ∧ YA P ops o s y ∧ aAny P ops Q fuel (listed.setIfInBounds i true) (s.put o.dst y)

theorem aAny_sound {P : Program} {ops : Array Oper} {Q : AS → Prop} {Q' : Exit → Act → World → Prop} {G0 : Ghost} {w0 : World} (hQ : ∀ G s a w, Q s → Step G0 w0 G w → Sat G s a w → Q' .normal a w) :
    ∀ (fuel : Nat) (listed : Array Bool) (G : Ghost) (s : AS) (a : Act) (w : World), aAny P ops Q fuel listed s → Step G0 w0 G w → Sat G s a w → wpAny P .any ops Q' fuel listed a w
  | 0, listed, G, s, a, w, h, hst, hs => ⟨h.1, hQ G s a w h.2 hst hs⟩
  | fuel + 1, listed, G, s, a, w, h, hst, hs => by
    refine ⟨fun h0 => hQ G s a w (h.1 h0) hst hs, fun i hi => ?_⟩
    obtain ⟨o, y, ho, hy, hrest⟩ := h.2 i hi
    unfold wpOp
    simp only [ho]
    rw [if_pos (by simp [Region.wanted, hy.1])]
    exact .inl (hy.sound hs fun G' a' w' hs' hst' => aAny_sound hQ fuel _ G' _ a' w' hrest (hst.trans hst') hs')

theorem aAny_first {P : Program} {ops : Array Oper} {Q : AS → Prop} {i : Nat} {oi : Oper} {v : AV} (hi : ops[i]? = some oi) :
    ∀ (fuel : Nat) (listed : Array Bool) (s : AS),
      (∀ j oj, ops[j]? = some oj → j ≠ i → listed.getD j true = false → (∀ e ∈ oj.after, Region.binds .any e = true → e.on ≠ i) → oi.apart ops oj = true) →
      i ∈ Region.ready .any ops listed → YA P ops oi s v →
      aAny P ops Q fuel (listed.setIfInBounds i true) (s.put oi.dst v) → aAny P ops Q (fuel + 1) listed s := by
  intro fuel
  induction fuel with
  | zero =>
    intro listed s _ hr hy H
    refine ⟨fun h => (by rw [h] at hr; cases hr), fun j hj => ?_⟩
    by_cases hji : j = i
    · subst hji; exact ⟨oi, v, hi, hy, H⟩
    · have := ready_mono hj hji
      rw [H.1] at this
      cases this
  | succ fuel ih =>
    intro listed s hfree hr hy H
    refine ⟨fun h => (by rw [h] at hr; cases hr), fun j hj => ?_⟩
    by_cases hji : j = i
    · subst hji; exact ⟨oi, v, hi, hy, H⟩
    · obtain ⟨oj, y, hoj', hyj, hrest⟩ := H.2 j (ready_mono hj hji)
      obtain ⟨hjun, oj2, hoj, hall⟩ := mem_ready.1 hj
      rw [hoj'] at hoj; cases hoj
      have hnot : ∀ e ∈ oj.after, Region.binds .any e = true → e.on ≠ i := fun e he hb heq => by
        have h1 := hall e he hb
        have h0 := (mem_ready.1 hr).1
        rw [heq] at h1
        rcases Nat.lt_or_ge i listed.size with h' | h'
        · simp [h'] at h0 h1; rw [h0] at h1; cases h1
        · simp [Array.getElem?_eq_none h'] at h1
      obtain ⟨h1, h2, h3⟩ := Oper.apart_spec (hfree j oj hoj' hji hjun hnot)
      have hfree' : ∀ k ok, ops[k]? = some ok → k ≠ i → (listed.setIfInBounds j true).getD k true = false →
          (∀ e ∈ ok.after, Region.binds .any e = true → e.on ≠ i) → oi.apart ops ok = true := fun k ok hk hki hun hno => by
        refine hfree k ok hk hki ?_ hno
        by_cases hjk : j = k
        · subst hjk; exact hjun
        · rw [getD_set_ne true hjk] at hun; exact hun
      have k1 : YA P ops oj s y := by
        obtain ⟨g, hh⟩ := hyj
        refine ⟨g, ?_⟩
        rw [keep_put h1] at hh
        exact hh
      have k2 : YA P ops oi (s.put oj.dst y) v := by
        obtain ⟨g, hh⟩ := hy
        refine ⟨g, ?_⟩
        rw [keep_put h3]
        exact hh
      refine ⟨oj, y, hoj', k1, ih (listed.setIfInBounds j true) (s.put oj.dst y) hfree' (ready_mono hr (Ne.symm hji)) k2 ?_⟩
      rw [Array.setIfInBounds_comm _ _ hji]
      rw [← put_comm h2]
      exact hrest

def aopsC (P : Program) (ops : Array Oper) : List Oper → AS → (AS → Prop) → Prop
  | [], s, K => K s
  | o :: rest, s, K => ∃ y, YA P ops o s y ∧ aopsC P ops rest (s.put o.dst y) K

theorem aAny_lex {P : Program} {ops : Array Oper} {Q : AS → Prop} : ∀ (l : List Oper) (k : Nat) (listed : Array Bool) (s : AS), (∀ j, l[j]? = ops[k + j]?) →
    Region.lexFrom .any ops l.length k listed = true → aopsC P ops l s Q → aAny P ops Q l.length listed s
  | [], _, _, _, _, hB, h => ⟨by simpa [Region.lexFrom] using hB, h⟩
  | o :: l, k, listed, s, hl, hB, h => by
    have h0 : ops[k]? = some o := by simpa using (hl 0).symm
    simp only [List.length_cons, Region.lexFrom, Bool.and_eq_true] at hB
    obtain ⟨⟨hr, hf⟩, hB'⟩ := hB
    obtain ⟨y, hy, hK⟩ := h
    exact aAny_first h0 l.length listed s (Region.free_spec h0 hf) (by simpa using hr) hy
      (aAny_lex l (k + 1) _ _ (fun j => by have := hl (j + 1); simpa [Nat.add_assoc, Nat.add_comm 1 j] using this) hB' hK)

theorem region_comm {P : Program} {ops : Array Oper} {Q : AS → Prop} {Q' : Exit → Act → World → Prop} {G0 G : Ghost} {w0 w : World} {s : AS} {a : Act} {id : Nat} (hm : P.follows .mixedOrders = true) (hB : Region.lexB .any ops = true)
    (hQ : ∀ G s a w, Q s → Step G0 w0 G w → Sat G s a w → Q' .normal a w) (h : aopsC P ops ops.toList s Q) (hst : Step G0 w0 G w.drew) (hs : Sat G s a w.drew) : (Code.region id ops true).wp P Q' a w := by
  simp only [Region.lexB, Bool.and_eq_true] at hB
  refine wp_region_any hm (aAny_sound hQ _ _ G s a _ ?_ hst hs)
  have := aAny_lex (P := P) (Q := Q) ops.toList 0 (Array.replicate ops.size false) s (by simp) (by simpa using hB.2) h
  simpa using this

end Go.Proofs.Ytickejlolpoboaa.AM
