/- A library's sort, as a contract: what it asks of the order, what it leaves in the row. -/
import Derived.Test.YtickejlolpoboaaAm20
set_option linter.all false
namespace Go.Proofs.Ytickejlolpoboaa.AM
open Go

/-- Only this block's row has changed; what is new lies behind. -/
structure Turned (w w' : World) (blk : Nat) : Prop where
  heap : ∀ j, j ≠ blk → j < w.heap.size → w'.heap[j]? = w.heap[j]?
  size : w.heap.size ≤ w'.heap.size
  os : w'.os = w.os
  tape : w'.tape = w.tape
  output : w'.output = w.output ∧ w.drawn ≤ w'.drawn

/-- What a sort by a closure without captures keeps. -/
def SortCon (P : Program) (f g k : Nat) : Prop :=
  ∀ (α : Type) [Inhabited α] (enc : α → List Value) (cf : α → α → Int) (blk cap : Nat) (d : Array α) (w : World),
    (∀ x, (enc x).length = k) → (∀ x, ∀ v ∈ enc x, v.oneCell' = true) →
    (∀ x, ¬ cf x x < 0) → (∀ x y z, cf x y < 0 → cf y z < 0 → cf x z < 0) → (∀ x y z, ¬ cf x y < 0 → ¬ cf y z < 0 → ¬ cf x z < 0) →
    (∀ W, Turned w W blk → ∀ x y, Calls P g #[.agg (enc x).toArray, .agg (enc y).toArray] W fun e w' =>
      e = .returned (.int .i64 (cf x y)) ∧ ∃ (q : Nat) (os' : Array Go.Obj), w' = { W with heap := W.heap ++ os', drawn := W.drawn + q }) →
    (∀ j, j < d.size * k → w.cell? ⟨blk, j, none⟩ = some ((enc d[j / k]!)[j % k]!) ∧ w.frozen? ⟨blk, j, none⟩ = false) →
    blk < w.heap.size → d.size < 4611686018427387904 →
    Calls P f #[.slice (some ⟨blk, 0, none⟩) d.size cap, .func (.func g) #[] #[]] w fun e w' =>
      e = .returned (.tuple #[]) ∧ Turned w w' blk ∧ ∃ d' : Array α, d'.toList.Perm d.toList ∧ d'.toList.Pairwise (fun x y => ¬ cf y x < 0) ∧
        ∀ c e t, w.heap[blk]? = some (.cells c e t) → ∃ c', w'.heap[blk]? = some (.cells c' e t) ∧ c'.size = c.size ∧ ∀ j, j < d.size * k → c'[j]? = some ((enc d'[j / k]!)[j % k]!)

def SortCon0 (P : Program) (f g : Nat) : Prop :=
  ∀ (a : Option Addr) (cap : Nat) (w : World), Calls P f #[.slice a 0 cap, .func (.func g) #[] #[]] w fun e w' => e = .returned (.tuple #[]) ∧ w' = w

/-- Another row in an object's block. -/
theorem box_turned {G : Ghost} {objs : List Obj} {w w' : World} (hm : Mem G objs w) {o b : Nat} {cells xs : List AV} (ho : objs[o]? = some (.box cells))
    (hb : G.bl[o]? = some (.obj b)) (ht : Turned w w' b) {c' : Array Value} {e : TypeId} (hh : w'.heap[b]? = some (.cells c' e (0, 0))) (him : ∀ off, ¬ G.imm b off)
    (hsz : xs.length ≤ c'.size) (hx : ∀ (j : Nat) (x : AV) (v : Value), xs[j]? = some x → c'[j]? = some v → v.oneCell' = true ∧ Conc G w x v) :
    Step G w G w' ∧ Mem G (objs.set o (.box xs)) w' := by
  have hext : Ext G w G w' := by
    refine ⟨fun t b' o' hi => ?_, fun _ _ _ h => h, fun _ _ h => h, fun _ _ h => .inl h, fun _ b l c sz ex h => ⟨b, l, c, sz, ex, h, .inr ⟨rfl, rfl, rfl⟩⟩⟩
    have hlt := hm.imLt t b' o' hi
    refine cell_of_heap (ht.heap b' ?_ hlt) o'
    rintro rfl
    rcases im_cases hi with hi | ⟨o2, len, cap, sz, _, h1, _⟩
    · exact him o' hi
    · have := hm.inj o o2 _ _ _ hb h1 rfl rfl
      subst this
      rw [hb] at h1; cases h1
  refine ⟨⟨hext, ?_, ht.size, ht.os, ht.tape, ht.output, fun _ _ h => .inl h, fun o g b hg hb => .inr ⟨o, g, hg, hb⟩⟩, ?_⟩
  · intro k hk hn
    refine ht.heap k ?_ hk
    rintro rfl
    exact hn o _ hb rfl
  · have hlo : o < objs.length := by
      rcases Nat.lt_or_ge o objs.length with hl | hl
      · exact hl
      · rw [List.getElem?_eq_none hl] at ho; cases ho
    refine ⟨by simp [hm.len], ?_, hm.inj, fun o g b' h1 h2 => Nat.lt_of_lt_of_le (hm.lt o g b' h1 h2) ht.size, fun b' off' h => Nat.lt_of_lt_of_le (hm.immLt b' off' h) ht.size⟩
    intro o' y g' ho' hg'
    by_cases heo : o = o'
    · subst heo
      rw [List.getElem?_set, if_pos rfl, if_pos hlo] at ho'
      cases ho'
      rw [hb] at hg'; cases hg'
      exact .inr ⟨b, c', e, rfl, hh, hsz, fun j x v hj hv => ⟨(hx j x v hj hv).1, (hx j x v hj hv).2.mono hext⟩, him⟩
    · rw [List.getElem?_set, if_neg heo] at ho'
      refine (hm.ok o' y g' ho' hg').mono hext ?_ (fun _ _ _ h => h)
      intro b' hb'
      refine ht.heap b' ?_ (hm.lt o' g' b' hg' hb')
      rintro rfl
      exact heo (hm.inj o o' _ _ _ hb hg' rfl hb')

/-- What a closure does that is called with no objects. -/
theorem calls_plain {P : Program} {g : Nat} {args : List AV} {x : AV} {o0 : List Obj} (h : Fun P g args x o0) {imm : Nat → Nat → Prop} {W : World} (himm : ∀ b off, imm b off → b < W.heap.size) {vs : List Value}
    (hc : ConcL ⟨[], imm⟩ W args vs) : Calls P g vs.toArray W fun e w' => (∃ G' v, e = .returned v ∧ Conc G' w' x v) ∧ ∃ (q : Nat) (os' : Array Go.Obj), w' = { W with heap := W.heap ++ os', drawn := W.drawn + q } := by
  have hm : Mem ⟨[], imm⟩ [] W := ⟨rfl, fun o x g h => by simp at h, fun o o' g g' b h => by simp at h, fun o g b h => by simp at h, himm⟩
  refine (h ⟨[], imm⟩ W vs hm hc).mono ?_
  rintro e w' ⟨ae, objs', G', ⟨rfl, rfl⟩, _, hst, hend⟩
  refine ⟨?_, w'.drawn - W.drawn, w'.heap.extract W.heap.size w'.heap.size, ?_⟩
  · cases e with
    | returned v => exact ⟨G', v, rfl, hend⟩
    | panicked c => exact hend.elim
    | outgrown => exact hend.elim
  · have hheap : w'.heap = W.heap ++ w'.heap.extract W.heap.size w'.heap.size := by
      apply Array.ext_getElem?
      intro j
      rcases Nat.lt_or_ge j W.heap.size with hj | hj
      · rw [Array.getElem?_append_left hj]
        exact hst.heap j hj (fun o g hg => by simp at hg)
      · rw [Array.getElem?_append_right hj]
        rw [Array.getElem?_extract]
        have hs := hst.size
        split
        · congr 1; omega
        · rw [Array.getElem?_eq_none]; omega
    have hdr : w'.drawn = W.drawn + (w'.drawn - W.drawn) := by have := hst.output.2; omega
    obtain ⟨h1, h2, h3, h4, h5⟩ : w'.heap = W.heap ++ w'.heap.extract W.heap.size w'.heap.size ∧ w'.drawn = W.drawn + (w'.drawn - W.drawn) ∧ w'.os = W.os ∧ w'.tape = W.tape ∧ w'.output = W.output := ⟨hheap, hdr, hst.os, hst.tape, hst.output.1⟩
    generalize w'.heap.extract W.heap.size w'.heap.size = os' at *
    generalize w'.drawn - W.drawn = q at *
    cases w'
    cases W
    simp only at h1 h2 h3 h4 h5
    simp [h1, h2, h3, h4, h5]

theorem sort_acall {P : Program} {f g k : Nat} (hs : SortCon P f g k) (hs0 : SortCon0 P f g) (hk : 0 < k) {objs : List Obj} {o : Nat} {rows : List (List D)} (ho : objs[o]? = some (.box (rowCells rows))) (hl : ∀ r ∈ rows, r.length = k)
    (cf : List D → List D → Int) (h1 : ∀ x ∈ rows, ¬ cf x x < 0) (h2 : ∀ x ∈ rows, ∀ y ∈ rows, ∀ z ∈ rows, cf x y < 0 → cf y z < 0 → cf x z < 0) (h3 : ∀ x ∈ rows, ∀ y ∈ rows, ∀ z ∈ rows, ¬ cf x y < 0 → ¬ cf y z < 0 → ¬ cf x z < 0)
    (hc : ∀ x ∈ rows, ∀ y ∈ rows, ∃ o0, Fun P g [.agg (x.map .ofD), .agg (y.map .ofD)] (.v (.int .i64 (cf x y))) o0) (hbig : rows.length < 4611686018427387904) :
    ACall P f [.bsl o 0 rows.length, .fn g [] []] objs (fun ae objs' => ae = .ret (.tup []) ∧ ∃ rows' : List (List D), rows'.Perm rows ∧ rows'.Pairwise (fun x y => ¬ cf y x < 0) ∧ objs' = objs.set o (.box (rowCells rows'))) := by
  intro G w vs hm hcv
  obtain ⟨hlen, hcv⟩ := hcv
  match vs, hlen, hcv with
  | [v1, v2], _, hcv =>
    have c1 := hcv 0 _ v1 rfl rfl
    have c2 := hcv 1 _ v2 rfl rfl
    obtain ⟨vf, vc, rfl, ⟨e1, _⟩, ⟨e2, _⟩⟩ := conc_fn c2
    have hvf : vf = [] := List.eq_nil_of_length_eq_zero e1
    have hvc : vc = [] := List.eq_nil_of_length_eq_zero e2
    subst hvf; subst hvc
    have hself : objs.set o (.box (rowCells rows)) = objs := list_set_self ho
    have empty : rows = [] → ∀ a cap, v1 = .slice a 0 cap → Calls P f #[v1, .func (.func g) #[] #[]] w fun e w' => ∃ ae objs' G', (ae = AEnd.ret (.tup []) ∧ ∃ rows' : List (List D), rows'.Perm rows ∧ rows'.Pairwise (fun x y => ¬ cf y x < 0) ∧ objs' = objs.set o (.box (rowCells rows'))) ∧ Mem G' objs' w' ∧ Step G w G' w' ∧ EndOk G' w' ae e := by
      rintro hr a cap rfl
      refine (hs0 a cap w).mono ?_
      rintro e w' ⟨rfl, rfl⟩
      exact ⟨_, objs, G, ⟨rfl, rows, .refl _, by rw [hr]; exact .nil, hself.symm⟩, hm, Step.refl G w', .tup [] [] rfl (fun i c v h => by simp at h)⟩
    generalize hn : rows.length = n at c1
    rcases Nat.eq_zero_or_pos n with hz | hpos
    · have hr : rows = [] := List.eq_nil_of_length_eq_zero (by omega)
      subst hz
      cases c1 with
      | bsl _ _ _ cap b h h1 h2 => exact empty hr _ _ rfl
      | bsl0 _ _ cap a h2 => exact empty hr _ _ rfl
    · cases c1 with
      | bsl0 _ _ cap a h2 => omega
      | bsl _ _ _ cap b hb hcap hmx =>
        obtain ⟨gg, hg, hok⟩ := hm.obj ho
        rw [hb] at hg; cases hg
        rcases hok with ⟨_, l, hl⟩ | ⟨b', c, e, hbe, hh, hsz, hcc, him⟩
        · cases hl
        cases hbe
        have hlr : ∀ (i : Nat) (r : List D), rows[i]? = some r → r.length = k := fun i r h => hl r (List.mem_of_getElem? h)
        have hrl := rowCells_len hlr
        rw [hrl, hn] at hsz
        let row : Fin n → List D := fun i => rows[i.1]'(by omega)
        have hrow : ∀ i : Fin n, rows[i.1]? = some (row i) := fun i => List.getElem?_eq_getElem (by have := i.2; omega)
        have hmem : ∀ i : Fin n, row i ∈ rows := fun i => List.getElem_mem _
        let enc : Fin n → List Value := fun i => (c.toList.drop (i.1 * k)).take k
        have hik : ∀ i : Fin n, i.1 * k + k ≤ n * k := fun i => by rw [← Nat.succ_mul]; exact Nat.mul_le_mul_right k i.2
        have henc : ∀ i, (enc i).length = k := fun i => by
          have := hik i
          simp only [enc, List.length_take, List.length_drop, Array.length_toList]; omega
        have hget : ∀ (i : Fin n) (j : Nat), j < k → (enc i)[j]? = c[i.1 * k + j]? := fun i j hj => by
          simp only [enc, List.getElem?_take, if_pos hj, List.getElem?_drop, Array.getElem?_toList]
        have hcell : ∀ (i : Fin n) (j : Nat) (d : D), (row i)[j]? = some d → ∃ v, (enc i)[j]? = some v ∧ v.oneCell' = true ∧ DConc w G.imm d v := by
          intro i j d hd
          have hj : j < k := by
            rw [← hl _ (hmem i)]
            rcases Nat.lt_or_ge j (row i).length with h | h
            · exact h
            · rw [List.getElem?_eq_none h] at hd; cases hd
          have hlt : i.1 * k + j < c.size := by have := hik i; omega
          have hf := flat_of_row hlr (hrow i) hd
          have hrc : (rowCells rows)[i.1 * k + j]? = some (.ofD d) := by rw [rowCells, List.getElem?_map, hf]; rfl
          obtain ⟨k1, k2⟩ := hcc _ _ _ hrc (Array.getElem?_eq_getElem hlt)
          exact ⟨c[i.1 * k + j], by rw [hget i j hj, Array.getElem?_eq_getElem hlt], k1, conc_ofD k2⟩
        have hone : ∀ x, ∀ v ∈ enc x, v.oneCell' = true := by
          intro i v hv
          obtain ⟨j, hj, hjv⟩ := List.mem_iff_getElem.1 hv
          rw [henc] at hj
          have hd := List.getElem?_eq_getElem (l := row i) (i := j) (by rw [hl _ (hmem i)]; exact hj)
          obtain ⟨v', h1', h2', _⟩ := hcell i j _ hd
          rw [List.getElem?_eq_getElem (by rw [henc]; exact hj)] at h1'
          cases h1'
          rw [← hjv]; exact h2'
        have : Inhabited (Fin n) := ⟨⟨0, hpos⟩⟩
        let d : Array (Fin n) := Array.ofFn id
        have hds : d.size = n := by simp [d]
        have hblk : b < w.heap.size := hm.lt o _ b hb rfl
        have hcon := hs (Fin n) enc (fun i j => cf (row i) (row j)) b cap d w henc hone (fun i => h1 _ (hmem i)) (fun i j l => h2 _ (hmem i) _ (hmem j) _ (hmem l)) (fun i j l => h3 _ (hmem i) _ (hmem j) _ (hmem l))
          (by
            intro W hW i j
            obtain ⟨o0, hfun⟩ := hc _ (hmem i) _ (hmem j)
            have himm : ∀ b off, G.imm b off → b < W.heap.size := fun b off h => Nat.lt_of_lt_of_le (hm.immLt b off h) hW.size
            have hcells : ∀ (b' : Nat) (off : Nat), G.imm b' off → W.cell? ⟨b', off, none⟩ = w.cell? ⟨b', off, none⟩ := by
              intro b' off h
              refine cell_of_heap (hW.heap b' ?_ (hm.immLt b' off h)) off
              rintro rfl
              exact him off h
            have hagg : ∀ i : Fin n, Conc ⟨[], G.imm⟩ W (.agg ((row i).map .ofD)) (.agg (enc i).toArray) := by
              intro i
              refine .agg _ _ (by rw [henc, List.length_map, hl _ (hmem i)]) (fun j v hv => hone i v (List.mem_of_getElem? hv)) ?_
              intro j x v hx hv
              simp only [List.getElem?_map] at hx
              cases hd : (row i)[j]? with
              | none => simp [hd] at hx
              | some dd =>
                simp only [hd, Option.map_some, Option.some.injEq] at hx
                subst hx
                obtain ⟨v', q1, _, q3⟩ := hcell i j dd hd
                rw [hv] at q1; cases q1
                exact ofD_conc (G := ⟨[], G.imm⟩) (q3.mono hcells (fun _ _ h => h))
            refine (calls_plain hfun himm (vs := [.agg (enc i).toArray, .agg (enc j).toArray]) ⟨rfl, ?_⟩).mono ?_
            · intro p x v hx hv
              match p with
              | 0 => simp at hx hv; subst hx; subst hv; exact hagg i
              | 1 => simp at hx hv; subst hx; subst hv; exact hagg j
              | p + 2 => simp at hx
            · rintro e' w' ⟨⟨G', v, rfl, hv⟩, hg'⟩
              have := conc_v hv
              subst this
              exact ⟨rfl, hg'⟩)
          (by
            intro j hj
            rw [hds] at hj
            have hdiv : j / k < n := Nat.div_lt_of_lt_mul (by rw [Nat.mul_comm]; exact hj)
            have hmod : j % k < k := Nat.mod_lt _ hk
            have hdd : d[j / k]! = ⟨j / k, hdiv⟩ := by
              rw [getElem!_pos d (j / k) (by rw [hds]; exact hdiv)]
              simp [d]
            have hjk : j / k * k + j % k = j := by rw [Nat.mul_comm]; exact Nat.div_add_mod j k
            rw [hdd]
            have hjc : j < c.size := by omega
            have he := hget ⟨j / k, hdiv⟩ (j % k) hmod
            simp only [hjk] at he
            rw [Array.getElem?_eq_getElem hjc] at he
            constructor
            · rw [cell_cells hh, Array.getElem?_eq_getElem hjc, List.getElem!_eq_getElem?_getD, he]; rfl
            · simp [World.frozen?, hh])
          hblk (by rw [hds, ← hn]; exact hbig)
        rw [hds] at hcon
        refine hcon.mono ?_
        rintro e' w' ⟨rfl, hT, d', hp, hpw, hcl⟩
        obtain ⟨c', hh', hsz', hcv'⟩ := hcl c e (0, 0) hh
        have hd's : d'.toList.length = n := by rw [hp.length_eq]; simp [d]
        have hdl : d.toList.map row = rows := by
          apply List.ext_getElem?
          intro i
          simp only [d, Array.toList_ofFn, List.getElem?_map, List.getElem?_ofFn]
          by_cases hi : i < n
          · simp only [hi, dif_pos, Option.map_some, id]
            exact (hrow ⟨i, hi⟩).symm
          · simp only [hi, dif_neg, not_false_eq_true, Option.map_none]
            rw [List.getElem?_eq_none (by omega)]
        have hrl' : ∀ (i : Nat) (r : List D), (d'.toList.map row)[i]? = some r → r.length = k := by
          intro i r hr
          obtain ⟨x, _, rfl⟩ := List.mem_map.1 (List.mem_of_getElem? hr)
          exact hl _ (hmem x)
        obtain ⟨s1, s2⟩ := box_turned hm ho hb hT hh' him (xs := rowCells (d'.toList.map row)) (by rw [rowCells_len hrl', List.length_map, hd's, hsz']; exact hsz) (by
          intro j x v hj hv
          simp only [rowCells, List.getElem?_map] at hj
          cases hfd : (d'.toList.map row).flatten[j]? with
          | none => simp [hfd] at hj
          | some dd =>
            simp only [hfd, Option.map_some, Option.some.injEq] at hj
            subst hj
            obtain ⟨p, q, r, q1, q2, rfl⟩ := flat_get hrl' hfd
            have hr := hrl' p r q1
            have hq : q < k := by
              rw [← hr]
              rcases Nat.lt_or_ge q r.length with h | h
              · exact h
              · rw [List.getElem?_eq_none h] at q2; cases q2
            simp only [List.getElem?_map] at q1
            cases hpx : d'.toList[p]? with
            | none => simp [hpx] at q1
            | some xi =>
              simp only [hpx, Option.map_some, Option.some.injEq] at q1
              subst q1
              have hpn : p < n := by
                rw [← hd's]
                rcases Nat.lt_or_ge p d'.toList.length with h | h
                · exact h
                · rw [List.getElem?_eq_none h] at hpx; cases hpx
              have hlt : p * k + q < n * k := by
                have : p * k + k ≤ n * k := by rw [← Nat.succ_mul]; exact Nat.mul_le_mul_right k hpn
                omega
              have hv' := hcv' _ hlt
              have e1 : (p * k + q) / k = p := by rw [Nat.mul_comm, Nat.mul_add_div hk, Nat.div_eq_of_lt hq]; rfl
              have e2 : (p * k + q) % k = q := by rw [Nat.mul_comm, Nat.mul_add_mod, Nat.mod_eq_of_lt hq]
              have hpd : d'[p]! = xi := by
                have hps : p < d'.size := by rw [← Array.length_toList, hd's]; exact hpn
                rw [getElem!_pos d' p hps]
                have := hpx
                rw [Array.getElem?_toList, Array.getElem?_eq_getElem hps] at this
                simpa using this
              rw [e1, e2, hpd] at hv'
              rw [hv] at hv'
              obtain ⟨v', r1, r2, r3⟩ := hcell xi q dd q2
              have : v = v' := by
                have hx := Option.some.inj hv'
                rw [hx, List.getElem!_eq_getElem?_getD, r1]; rfl
              subst this
              exact ⟨r2, ofD_conc r3⟩)
        refine ⟨_, _, G, ⟨rfl, d'.toList.map row, ?_, ?_, rfl⟩, s2, s1, .tup [] [] rfl (fun i c v h => by simp at h)⟩
        · have := hp.map row
          rw [hdl] at this
          exact this
        · exact List.pairwise_map.2 hpw

end Go.Proofs.Ytickejlolpoboaa.AM
