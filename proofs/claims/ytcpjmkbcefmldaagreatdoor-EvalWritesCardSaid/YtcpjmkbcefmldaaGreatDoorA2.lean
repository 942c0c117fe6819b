/- A part of the proof: Am14n, Am14i, Am14c, Am15, Am15q, Am15r, Am15t, Am16, Am17. -/
import Derived.Test.YtcpjmkbcefmldaaGreatDoorA1
import Derived.Maps.RangeRun
import Derived.Lib.ConvBytes
import Derived.Deep.Quiet
set_option linter.all false
/- Copy into a variable's array. -/
namespace Go.Proofs.YtcpjmkbcefmldaaGreatDoor.AM
open Go

theorem flat_get {α : Type} {sz : Nat} : ∀ {rows : List (List α)} {k : Nat} {d : α}, (∀ (i : Nat) (r : List α), rows[i]? = some r → r.length = sz) → rows.flatten[k]? = some d →
    ∃ (i j : Nat) (r : List α), rows[i]? = some r ∧ r[j]? = some d ∧ k = i * sz + j
  | [], k, d, _, h => by simp at h
  | r :: rows, k, d, hl, h => by
    have h0 := hl 0 r rfl
    rcases Nat.lt_or_ge k r.length with hk | hk
    · rw [List.flatten_cons, List.getElem?_append_left hk] at h
      exact ⟨0, k, r, rfl, h, by omega⟩
    · rw [List.flatten_cons, List.getElem?_append_right hk] at h
      obtain ⟨i, j, r', h1, h2, h3⟩ := flat_get (fun i r h => hl (i + 1) r (by simpa using h)) h
      exact ⟨i + 1, j, r', by simpa using h1, h2, by rw [Nat.succ_mul]; omega⟩

theorem flat_len {α : Type} {sz : Nat} : ∀ {rows : List (List α)}, (∀ (i : Nat) (r : List α), rows[i]? = some r → r.length = sz) → rows.flatten.length = rows.length * sz
  | [], _ => by simp
  | r :: rows, hl => by
    have h0 := hl 0 r rfl
    rw [List.flatten_cons, List.length_append, flat_len (fun i r h => hl (i + 1) r (by simpa using h)), List.length_cons, Nat.succ_mul]; omega

def copyAV (P : Program) (t : TypeId) (objs : List Obj) (d x : AV) (k : AV → List Obj → Prop) : Prop :=
  match ti P t, d, x with
  | some i, .bsl o off len, .sl rows _ =>
    match i.desc, objs[o]? with
    | .slice e, some (.box cells) =>
      match ti P e with
      | some j => 0 < j.size ∧ 0 < len ∧ (∀ r ∈ rows, r.length = j.size) ∧ off + min rows.length len * j.size ≤ cells.length ∧
          k (.v (.int .i64 (min rows.length len : Nat))) (objs.set o (.box (setFrom cells off ((rows.take (min rows.length len)).flatten.map AV.ofD))))
      | none => False
    | _, _ => False
  | _, _, _ => False

theorem copy_sound {P : Program} {G : Ghost} {objs : List Obj} {w : World} {t t2 : TypeId} {d x : AV} {u v : Value} {k : AV → List Obj → Prop} (ty : TypeId)
    (h : copyAV P t objs d x k) (hm : Mem G objs w) (hd : Conc G w d u) (hx : Conc G w x v) :
    ∃ r y objs' w', (Builtin.copy_ #[t, t2] ty #[u, v]).run P w = .ok r w' ∧ Step G w G w' ∧ Mem G objs' w' ∧ Conc G w' y r ∧ k y objs' := by
  unfold copyAV at h
  split at h
  · rename_i i o off len rows tk hi
    split at h
    · rename_i e cells hde hob
      split at h
      · rename_i j hj
        obtain ⟨h0, h1, h2, h3, hk⟩ := h
        have hu := ti_und hi w
        rw [hde] at hu
        obtain ⟨_, f, z, hf, _, hs, _⟩ := ti_spec hj
        have hsz : P.cellsOf e = j.size := by simp [Program.cellsOf, hf, hs]
        cases hx with
        | sl _ _ _ hsl ht =>
          obtain ⟨a, c, rfl, hn, hc, hor⟩ := hsl
          have hpre : SlC w (G.im tk) G.imm (rows.take (min rows.length len)) (.slice a (min rows.length len) c) := by
            refine ⟨a, c, by simp, by simp; omega, hc, ?_⟩
            rcases hor with rfl | ⟨b, st, sz, ha, hr⟩
            · exact .inl (by simp)
            · refine .inr ⟨b, st, sz, ha, fun i r hh => hr.1 i r ?_, fun i q r dd hh hq => hr.2 i q r dd ?_ hq⟩
              all_goals
                rw [List.getElem?_take] at hh
                split at hh
                · exact hh
                · cases hh
          have hs' : ∀ r ∈ rows.take (min rows.length len), r.length = j.size := fun r hr => h2 r (List.mem_of_mem_take hr)
          obtain ⟨news, hsrc⟩ := src_slice (P := P) h0 hs' hpre
          have hcells := hsrc.cells w (fun _ _ _ => rfl)
          have hlt : (rows.take (min rows.length len)).length = min rows.length len := by simp
          rw [hlt] at hcells
          have hfc : (Builtin.firstCells j.size (min rows.length len) (.slice a rows.length c)).run P w = .ok news.toArray w := by
            cases a <;> exact hcells
          have hget : ∀ (i : Nat) (r : List D), (rows.take (min rows.length len))[i]? = some r → r.length = j.size := fun i r hr => hs' r (List.mem_of_getElem? hr)
          have hcl : ConcL G w ((rows.take (min rows.length len)).flatten.map AV.ofD) news := by
            refine ⟨by rw [List.length_map, flat_len hget, hsrc.flat.1], fun q y x' hy hx' => ?_⟩
            simp only [List.getElem?_map] at hy
            cases hq : (rows.take (min rows.length len)).flatten[q]? with
            | none => simp [hq] at hy
            | some dd =>
              simp only [hq, Option.map_some, Option.some.injEq] at hy
              subst hy
              obtain ⟨p, q', r, k1, k2, rfl⟩ := flat_get hget hq
              obtain ⟨x2, hx2, hdc⟩ := hsrc.flat.2.2 p q' r dd k1 k2
              rw [hx2] at hx'; cases hx'
              exact ofD_conc hdc
          cases hd with
          | bsl0 => omega
          | bsl _ _ _ cap b hb hcap hmx =>
            obtain ⟨w', hst, hstep, hmem⟩ := store_step (P := P) hm hob hb hcl hsrc.flat.2.1 (by rw [List.length_map, flat_len hget, hlt]; exact h3)
            refine ⟨_, _, _, w', ?_, hstep, hmem, .v _ rfl, hk⟩
            have hst' : (storeCells ⟨b, off, none⟩ news).run P w = .ok () w' := hst
            simp [Builtin.copy_, hu, Builtin.lenOf, run_sizeOf w hf, hsz, hfc, hst', goInt, show Nat.min rows.length len = min rows.length len from rfl]
      · exact h.elim
    · exact h.elim
  · exact h.elim

end Go.Proofs.YtcpjmkbcefmldaaGreatDoor.AM

/- A range over a map, in abstract terms: the iterator is an object; which entry comes next is anybody's. -/
namespace Go.Proofs.YtcpjmkbcefmldaaGreatDoor.AM
open Go
open Go.ChangeMaps (setBlock)

theorem setBlock_other (w : World) (b j : Nat) (o : Go.Obj) (h : b ≠ j) : (setBlock w b o).heap[j]? = w.heap[j]? := set_other w b j o h

structure BlkW (w w' : World) (b : Nat) (h : Go.Obj) : Prop where
  at' : w'.heap[b]? = some h
  other : ∀ j, b ≠ j → w'.heap[j]? = w.heap[j]?
  size : w'.heap.size = w.heap.size
  os : w'.os = w.os
  tape : w'.tape = w.tape
  output : w'.output = w.output ∧ w.drawn ≤ w'.drawn

theorem BlkW.set {w w1 : World} (hw : w1 = w ∨ w1 = w.drew) {b : Nat} (hbl : b < w.heap.size) (h : Go.Obj) : BlkW w (setBlock w1 b h) b h := by
  have hh : w1.heap = w.heap := by rcases hw with rfl | rfl <;> rfl
  refine ⟨by simp [setBlock, hh, hbl], fun j hj => by rw [setBlock_other w1 b j h hj, hh], by simp [setBlock, hh], ?_, ?_, ?_⟩
  · rcases hw with rfl | rfl <;> rfl
  · rcases hw with rfl | rfl <;> rfl
  · rcases hw with rfl | rfl
    · exact ⟨rfl, Nat.le_refl _⟩
    · exact ⟨rfl, Nat.le_succ _⟩

theorem BlkW.step {G : Ghost} {objs : List Obj} {w w' : World} (hm : Mem G objs w) {o b : Nat} (hlo : o < objs.length) (hb : G.bl[o]? = some (.obj b)) (him : ∀ off, ¬ G.imm b off) {h : Go.Obj} (hw : BlkW w w' b h) :
    Step G w G w' ∧ ∀ x, ObjOk G w' (.obj b) x → Mem G (objs.set o x) w' := by
  have hoth := hw.other
  have hsz := hw.size
  have hext : Ext G w G w' := by
    refine ⟨fun t b' o' hi => ?_, fun _ _ _ h => h, fun _ _ h => h, fun _ _ h => .inl h, fun _ b l c sz ex h => ⟨b, l, c, sz, ex, h, .inr ⟨rfl, rfl, rfl⟩⟩⟩
    refine cell_of_heap (hoth b' ?_) o'
    rintro rfl
    rcases im_cases hi with hi | ⟨o2, len, cap, sz, _, h1, _⟩
    · exact him o' hi
    · have := hm.inj o o2 _ _ _ hb h1 rfl rfl
      subst this
      rw [hb] at h1; cases h1
  refine ⟨⟨hext, ?_, by omega, hw.os, hw.tape, hw.output, fun _ _ h => .inl h, fun o g b hg hb => .inr ⟨o, g, hg, hb⟩⟩, ?_⟩
  · intro k hk hn
    refine hoth k ?_
    rintro rfl
    exact hn o _ hb rfl
  · intro x hx
    refine ⟨by simp [hm.len], ?_, hm.inj, fun o g b' h1 h2 => by rw [hsz]; exact hm.lt o g b' h1 h2, fun b' off' h => by rw [hsz]; exact hm.immLt.1 b' off' h, hm.gl hext⟩
    intro o' y g' ho' hg'
    by_cases heo : o = o'
    · subst heo
      rw [List.getElem?_set, if_pos rfl, if_pos hlo] at ho'
      cases ho'
      rw [hb] at hg'; cases hg'
      exact hx
    · rw [List.getElem?_set, if_neg heo] at ho'
      refine (hm.ok o' y g' ho' hg').mono hext ?_ (fun _ _ _ h => h)
      intro b' hb'
      refine hoth b' ?_
      rintro rfl
      exact heo (hm.inj o o' _ _ _ hb hg' rfl hb')

theorem blk_step {G : Ghost} {objs : List Obj} {w w1 : World} (hm : Mem G objs w) (hw : w1 = w ∨ w1 = w.drew) {o b : Nat} (hlo : o < objs.length) (hb : G.bl[o]? = some (.obj b)) (him : ∀ off, ¬ G.imm b off) (h : Go.Obj) :
    Step G w G (setBlock w1 b h) ∧ (setBlock w1 b h).heap[b]? = some h ∧ ∀ x, ObjOk G (setBlock w1 b h) (.obj b) x → Mem G (objs.set o x) (setBlock w1 b h) := by
  have hs := BlkW.set hw (hm.lt o _ b hb rfl) h
  exact ⟨(hs.step hm hlo hb him).1, hs.at', (hs.step hm hlo hb him).2⟩

theorem Mem.retell {G : Ghost} {objs : List Obj} {w : World} (hm : Mem G objs w) {o : Nat} {g : GB} (hg : G.bl[o]? = some g) {x : Obj} (hx : ObjOk G w g x) : Mem G (objs.set o x) w := by
  refine ⟨by simp [hm.len], ?_, hm.inj, hm.lt, hm.immLt⟩
  intro o' y g' ho' hg'
  by_cases heo : o = o'
  · subst heo
    rw [List.getElem?_set, if_pos rfl] at ho'
    split at ho'
    · cases ho'
      rw [hg] at hg'; cases hg'; exact hx
    · cases ho'
  · rw [List.getElem?_set, if_neg heo] at ho'
    exact hm.ok o' y g' ho' hg'

def rangeAV (P : Program) (objs : List Obj) (t : TypeId) (x : AV) (K : AV → List Obj → Prop) : Prop :=
  match ti P t, x with
  | some i, .map o => (match i.desc, objs[o]? with
    | .map _ _, some (.map es) => ∀ bs c, bs.length = es.length → bs.Nodup → (∀ b ∈ bs, b < c) → K (.ptr objs.length 0) (objs.set o (.mapB bs c es) ++ [.iter o c []])
    | _, _ => False)
  | _, _ => False

theorem range_sound {P : Program} {G : Ghost} {objs : List Obj} {w : World} {t : TypeId} {x : AV} {v : Value} {K : AV → List Obj → Prop} (h : rangeAV P objs t x K) (hm : Mem G objs w) (hx : Conc G w x v) :
    ∃ r y objs' G' w', (Instr.range t v).run P w = .ok r w' ∧ Step G w G' w' ∧ Mem G' objs' w' ∧ Conc G' w' y r ∧ K y objs' := by
  unfold rangeAV at h
  split at h
  · rename_i i o hti
    split at h
    · rename_i kt et es hd ho
      obtain ⟨g, hg, hok⟩ := hm.obj ho
      obtain ⟨b, ents, clock, rfl, h1, h2, h3, h4, h5⟩ := hok
      cases hx with
      | map _ b' hb' =>
        rw [hg] at hb'; cases hb'
        have hu := ti_und hti w
        rw [hd] at hu
        have hlo : o < objs.length := (List.getElem?_eq_some_iff.1 ho).1
        have hlen : (ents.toList.map (·.born)).length = es.length := by simpa using h2
        have hlt : ∀ x ∈ ents.toList.map (·.born), x < clock := by
          intro x hx
          obtain ⟨e, he, rfl⟩ := List.mem_map.1 hx
          obtain ⟨j, hj, rfl⟩ := List.getElem_of_mem he
          have hj' : j < es.length := by simp at hj; omega
          have hej : ents[j]? = some ents.toList[j] := by simp at hj ⊢
          exact (h3 j es[j].1 es[j].2 _ (by simp [hj']) hej).2.2
        have K' := h _ clock hlen h4 hlt
        -- told with its stamps
        have hm1 : Mem G (objs.set o (.mapB (ents.toList.map (·.born)) clock es)) w := hm.retell hg ⟨b, ents, rfl, h1, h2, h3, h4, rfl, h5⟩
        -- the iterator
        obtain ⟨hs, hm'⟩ := More.step hm1 ((More.refl w).alloc (.mapIter (some b) clock #[] clock)) (imm' := G.imm) (fun _ _ h => h) (fun _ _ h => .inl h)
        have hnb : ∀ b, (GB.obj w.heap.size).blk = some b → w.heap.size ≤ b := by intro b hb; simp [GB.blk] at hb; omega
        have hbl : b < w.heap.size := hm.lt o _ b hg rfl
        have hgl : o < G.bl.length := by rw [hm.len]; exact hlo
        refine ⟨.pointer (some ⟨w.heap.size, 0, none⟩), .ptr objs.length 0, _, ⟨G.bl ++ [.obj w.heap.size], G.imm⟩, w.alloc (.mapIter (some b) clock #[] clock), ?_, hs.push _ hnb, ?_, ?_, K'⟩
        · simp [Instr.range, hu, getObj, newObj, Sem.run, h1, Sem.run_bind, Result.andThen]
        · refine Mem.push (G := ⟨G.bl, G.imm⟩) hm' ?_ ?_
          · refine ⟨w.heap.size, b, rfl, ?_, heap_alloc_new' w _, ?_⟩
            · show (G.bl ++ _)[o]? = _
              rw [List.getElem?_append_left hgl]; exact hg
            · intro off hi
              have := hm.immLt.1 _ _ hi
              omega
          · intro b' hb'
            simp [GB.blk] at hb'
            subst hb'
            refine ⟨by simp, ?_⟩
            intro o' g' hg' hb'
            have := hm.lt o' g' _ hg' hb'
            omega
        · refine .ptr _ _ _ ?_
          simp [← hm.len]
    · exact h.elim
  · exact h.elim

def nextAV (objs : List Obj) (x : AV) (isStr : Bool) (K : AV → List Obj → Prop) : Prop :=
  isStr = false ∧ match x with
  | .ptr k 0 => (match objs[k]? with
    | some (.iter m c seen) => (match objs[m]? with
      | some (.mapB bs c' es) => c' = c ∧ ((∀ b ∈ bs, b ∈ seen) → K (.tup [.v (.bool false)]) objs) ∧
          (∀ (i b : Nat) (p : Value × AV), bs[i]? = some b → es[i]? = some p → b ∉ seen → K (.tup [.v (.bool true), AV.ofValue p.1, p.2]) (objs.set k (.iter m c (seen ++ [b]))))
      | _ => False)
    | _ => False)
  | _ => False

theorem next_sound {P : Program} {G : Ghost} {objs : List Obj} {w : World} {x : AV} {v : Value} {isStr : Bool} {K : AV → List Obj → Prop} (ty : TypeId) (h : nextAV objs x isStr K) (hm : Mem G objs w) (hx : Conc G w x v) :
    ∃ r y objs' G' w', (Instr.next v isStr ty).run P w = .ok r w' ∧ Step G w G' w' ∧ Mem G' objs' w' ∧ Conc G' w' y r ∧ K y objs' := by
  unfold nextAV at h
  obtain ⟨rfl, h⟩ := h
  split at h
  · rename_i k
    split at h
    · rename_i m c seen hk
      split at h
      · rename_i bs c' es hm1
        obtain ⟨rfl, hover, hstep⟩ := h
        obtain ⟨g, hg, hok⟩ := hm.obj hk
        obtain ⟨b, mb, rfl, i1, i2, i3⟩ := hok
        obtain ⟨g2, hg2, hok2⟩ := hm.obj hm1
        obtain ⟨b2, ents, rfl, h1, h2, h3, h4, h5, h6⟩ := hok2
        rw [i1] at hg2; cases hg2
        cases hx with
        | ptr _ _ b' hb' =>
          rw [hg] at hb'; cases hb'
          have hlk : k < objs.length := (List.getElem?_eq_some_iff.1 hk).1
          have hjs : ∀ e ∈ ents.toList, ∃ j : Nat, ents[j]? = some e ∧ ∃ p, es[j]? = some p ∧ bs[j]? = some e.born ∧ e.key = p.1 ∧ Conc G w p.2 e.val ∧ e.born < c' := by
            intro e he
            obtain ⟨j, hj, rfl⟩ := List.getElem_of_mem he
            have hj' : j < es.length := by simp at hj; omega
            have hej : ents[j]? = some ents.toList[j] := by simp at hj ⊢
            have hp : es[j]? = some es[j] := List.getElem?_eq_getElem hj'
            obtain ⟨q1, q2, q3⟩ := h3 j es[j].1 es[j].2 _ hp hej
            refine ⟨j, hej, es[j], hp, ?_, q1, q2, q3⟩
            rw [← h5]; simp [hej]
          have hold : ∀ x ∈ ents.toList, x.born < c' := fun x hx => by obtain ⟨_, _, _, _, _, _, _, h⟩ := hjs x hx; exact h
          rcases run_next_at (P := P) w ty b mb c' c' seen.toArray ents c' i2 h1 hold (Nat.le_refl _) with ⟨hz, hr⟩ | ⟨e, he, w1, hw1, hr⟩
          · refine ⟨_, _, objs, G, w, hr, Step.refl G w, hm, ?_, hover ?_⟩
            · refine .tup _ [.bool false] rfl ?_
              intro i c v hc hv
              cases i with
              | zero => simp at hc hv; subst hc; subst hv; exact .v _ rfl
              | succ i => simp at hc
            · intro x hx
              rw [← h5] at hx
              obtain ⟨e, he, rfl⟩ := List.mem_map.1 hx
              have hemp : leftOf ents seen.toArray = #[] := Array.eq_empty_of_size_eq_zero hz
              unfold leftOf at hemp
              rw [Array.filter_eq_empty_iff] at hemp
              have := hemp e (by simpa using he)
              simpa using this
          · have he' : e ∈ ents.toList ∧ e.born ∉ seen := by
              unfold leftOf at he
              simp only [Array.toList_filter, List.mem_filter] at he
              refine ⟨he.1, ?_⟩
              simpa using he.2
            obtain ⟨j, hej, p, hp, hb, q1, q2, q3⟩ := hjs e he'.1
            obtain ⟨s1, s2, s3⟩ := blk_step hm hw1 hlk hg i3 (.mapIter (some mb) c' (seen.toArray.push e.born) c')
            refine ⟨_, _, _, G, _, hr, s1, s3 (.iter m c' (seen ++ [e.born])) ?_, ?_, hstep j e.born p hb hp he'.2⟩
            · refine ⟨b, mb, rfl, i1, ?_, i3⟩
              rw [s2]; simp
            · refine .tup _ [.bool true, e.key, e.val] rfl ?_
              intro i c v hc hv
              match i with
              | 0 => simp at hc hv; subst hc; subst hv; exact .v _ rfl
              | 1 => simp at hc hv; subst hc; subst hv; rw [q1]; exact Conc.ofValue _
              | 2 => simp at hc hv; subst hc; subst hv; exact q2.mono s1.ext
              | (n + 3) => simp at hc
      · exact h.elim
    · exact h.elim
  · exact h.elim

def entryAV (objs : List Obj) (x : AV) (K : AV → Prop) : Prop :=
  match x with
  | .ptr k 0 => (match objs[k]? with
    | some (.iter m c seen) => (match objs[m]? with
      | some (.mapB bs c' es) => c' = c ∧ ∃ (seen' : List Nat) (i b : Nat) (p : Value × AV), seen = seen' ++ [b] ∧ bs[i]? = some b ∧ es[i]? = some p ∧ K (.tup [AV.ofValue p.1, p.2])
      | _ => False)
    | _ => False)
  | _ => False

theorem entry_sound {P : Program} {G : Ghost} {objs : List Obj} {w : World} {x : AV} {v : Value} {K : AV → Prop} (h : entryAV objs x K) (hm : Mem G objs w) (hx : Conc G w x v) :
    ∃ r y, (Instr.entry v).run P w = .ok r w ∧ Conc G w y r ∧ K y := by
  unfold entryAV at h
  split at h
  · rename_i k
    split at h
    · rename_i m c seen hk
      split at h
      · rename_i bs c' es hm1
        obtain ⟨rfl, seen', i, sb, p, rfl, hb, hp, hK⟩ := h
        obtain ⟨g, hg, hok⟩ := hm.obj hk
        obtain ⟨b, mb, rfl, i1, i2, i3⟩ := hok
        obtain ⟨g2, hg2, hok2⟩ := hm.obj hm1
        obtain ⟨b2, ents, rfl, h1, h2, h3, h4, h5, h6⟩ := hok2
        rw [i1] at hg2; cases hg2
        cases hx with
        | ptr _ _ b' hb' =>
          rw [hg] at hb'; cases hb'
          rw [← h5, List.getElem?_map] at hb
          cases he : ents.toList[i]? with
          | none => rw [he] at hb; cases hb
          | some e =>
            rw [he] at hb
            simp only [Option.map_some, Option.some.injEq] at hb
            have hei : ents[i]? = some e := by simpa using he
            obtain ⟨q1, q2, q3⟩ := h3 i p.1 p.2 e hp hei
            have hr := run_entry_at (P := P) w b mb c' seen'.toArray ents c' e (by rw [i2, hb]; simp) h1 (List.mem_of_getElem? he) h4
            refine ⟨_, _, hr, ?_, hK⟩
            refine .tup _ [e.key, e.val] rfl ?_
            intro i c v hc hv
            match i with
            | 0 => simp at hc hv; subst hc; subst hv; rw [q1]; exact Conc.ofValue _
            | 1 => simp at hc hv; subst hc; subst hv; exact q2
            | (n + 2) => simp at hc
      · exact h.elim
    · exact h.elim
  · exact h.elim

theorem bld_step {P : Program} {G : Ghost} {objs : List Obj} {w : World} (hm : Mem G objs w) {o b : Nat} {e : Nat} {buf : AV} (ho : objs[o]? = some (.bld e buf)) (hb : G.bl[o]? = some (.obj b)) {xs : List AV} {us : List Value}
    (hx : ConcL G w xs us) (h1 : OneL us) (hl : xs.length = 1) :
    ∃ w', (storeCells ⟨b, 1, none⟩ us).run P w = .ok () w' ∧ Step G w G w' ∧ Mem G (objs.set o (.bld e (xs.getD 0 .any))) w' := by
  obtain ⟨g, hg, hok⟩ := hm.obj ho
  rw [hb] at hg; cases hg
  obtain ⟨b', c0, c1, hbe, hh, h2, h3, h4, h5⟩ := hok
  cases hbe
  have hlo : o < objs.length := (List.getElem?_eq_some_iff.1 ho).1
  match xs, us, hl, hx with
  | [x], [u], _, hx =>
    have hu := h1 0 u rfl
    have hcu := hx.2 0 x u rfl rfl
    have hrun := run_storeCells_at P b 1 e [u] 0 #[c0, c1] w hh (by simp) (fun v hv => by
      simp at hv; subst hv; exact hu)
    have hw : BlkW w (w.setRow b ((#[c0, c1].toList.take (1 + 0) ++ [u] ++ #[c0, c1].toList.drop (1 + 0 + [u].length)).toArray)) b (.cells #[c0, u] e (0, 0)) :=
      ⟨setRow_heap w b #[c0, c1] _ e (0, 0) hh, fun j hj => setRow_other w b j _ (Ne.symm hj), by simp, rfl, rfl, ⟨rfl, Nat.le_refl _⟩⟩
    obtain ⟨s1, s3⟩ := hw.step hm hlo hb h5
    exact ⟨_, hrun, s1, s3 _ ⟨b, c0, u, rfl, hw.at', h2, hu, hcu.mono s1.ext, h5⟩⟩
  | [_], [], _, hx => exact absurd hx.1 (by simp)
  | [_], _ :: _ :: _, _, hx => exact absurd hx.1 (by simp)

end Go.Proofs.YtcpjmkbcefmldaaGreatDoor.AM

/- A text as octets of its own. -/
namespace Go.Proofs.YtcpjmkbcefmldaaGreatDoor.AM
open Go

def convBAV (P : Program) (src dst : TypeId) (x : AV) (k : AV → Prop) : Prop :=
  match ti P src, ti P dst, x with
  | some _, some j, .v (.string s) =>
    match j.desc with
    | .slice e => (ti P e).map TI.desc = some (.int .u8) ∧ s.size ≤ 140737488355328 ∧ k (.sl (encB s.data.toList) .none)
    | _ => False
  | _, _, _ => False

theorem bytesWorld_more (w : World) (e : TypeId) (s : ByteArray) : More w (Lib.bytesWorld w e s) := by
  refine ⟨fun b hb => Lib.bytesWorld_at_old w e s b hb, by rw [Lib.bytesWorld_size]; omega, ?_, ?_, ?_⟩
  · simp [Lib.bytesWorld, World.freeze, World.alloc, World.drew, -World.alloc_eq, -World.drew_eq]
  · simp [Lib.bytesWorld, World.freeze, World.alloc, World.drew, -World.alloc_eq, -World.drew_eq]
  · simp [Lib.bytesWorld, World.freeze, World.alloc, World.drew, -World.alloc_eq, -World.drew_eq]

theorem convB_sound {P : Program} {G : Ghost} {objs : List Obj} {w : World} {src dst : TypeId} {x : AV} {v : Value} {k : AV → Prop}
    (h : convBAV P src dst x k) (hm : Mem G objs w) (hx : Conc G w x v) :
    ∃ r y G' w', (convert src dst v).run P w = .ok r w' ∧ Step G w G' w' ∧ Mem G' objs w' ∧ Conc G' w' y r ∧ k y := by
  unfold convBAV at h
  split at h
  · rename_i i j s hi hj
    split at h
    · rename_i e hd
      obtain ⟨he, hs, hk⟩ := h
      have := conc_v' hx
      subst this
      cases hte : ti P e with
      | none => rw [hte] at he; cases he
      | some ei =>
        rw [hte] at he
        simp only [Option.map_some, Option.some.injEq] at he
        have u1 : P.underlying src = some i.desc := (ti_spec hi).1
        have u2 : P.underlying dst = some (.slice e) := by rw [← hd]; exact (ti_spec hj).1
        have u3 : P.underlying e = some (.int .u8) := by rw [← he]; exact (ti_spec hte).1
        obtain ⟨s1, s2⟩ := More.step hm (bytesWorld_more w e s) (imm' := fun b off => G.imm b off ∨ (b = w.heap.size ∧ off < s.size)) (fun _ _ h => .inl h) (fun b off h => by
          rcases h with h | ⟨rfl, _⟩
          · exact .inl h
          · exact .inr ⟨Nat.le_refl _, by rw [Lib.bytesWorld_size]; omega⟩)
        refine ⟨_, .sl (encB s.data.toList) .none, _, _, Lib.run_convert_string_bytes w src dst e s u1 u2 u3, s1, s2, ?_, hk⟩
        have hsl : s.data.toList.length = s.size := Array.length_toList
        have hlen : (encB s.data.toList).length = s.size := by unfold encB; rw [List.length_map, hsl]
        refine .sl _ _ _ ⟨some ⟨w.heap.size, 0, none⟩, grownCap w s.size 0 e, by rw [hlen], by rw [hlen]; exact grownCap_ge w s.size 0 e, grownCap_le_maxLen w s.size 0 e (Nat.le_trans hs (by decide)), .inr ⟨w.heap.size, 0, 1, rfl, ?_, ?_⟩⟩ trivial
        · intro q r hr
          simp only [encB, List.getElem?_map] at hr
          cases hq : s.data.toList[q]? with
          | none => rw [hq] at hr; cases hr
          | some b => rw [hq] at hr; cases hr; rfl
        · intro q c r d hr hrd
          simp only [encB, List.getElem?_map] at hr
          cases hq : s.data.toList[q]? with
          | none => rw [hq] at hr; cases hr
          | some b =>
            rw [hq] at hr
            cases hr
            have hc : c = 0 := by
              cases c with
              | zero => rfl
              | succ c => simp at hrd
            subst hc
            simp at hrd
            subst hrd
            have hql : q < s.size := by
              rw [← hsl]; exact (List.getElem?_eq_some_iff.1 hq).1
            refine ⟨.int .u8 (b.toNat : Int), ?_, .inr ⟨rfl, by omega⟩, .v _ rfl⟩
            have := Lib.bytesWorld_cell w e s q hql
            rw [List.getD_eq_getElem?_getD, hq] at this
            simpa using this
    · exact h.elim
  · exact h.elim

/-! ### A row without elements, of one's own -/
def bs0AV (P : Program) (t : TypeId) (len : Nat) (parts : List (Nat × AV)) (objs : List Obj) (k : AV → List Obj → Prop) : Prop :=
  len = 0 ∧ parts = [] ∧ ∃ i e j, ti P t = some i ∧ i.desc = .slice e ∧ ti P e = some j ∧ 0 < j.size ∧ k (.sl [] (.own objs.length)) (objs ++ [.tok 0 j.size e true])

theorem bs0_step {G : Ghost} {objs : List Obj} {w : World} (hm : Mem G objs w) (e sz : Nat) :
    ∃ G', Step G w G' (w.alloc (.cells #[] e)) ∧ Mem G' (objs ++ [.tok 0 sz e true]) (w.alloc (.cells #[] e)) ∧
      Conc G' (w.alloc (.cells #[] e)) (.sl [] (.own objs.length)) (.slice (some ⟨w.heap.size, 0, none⟩) 0 0) := by
  obtain ⟨hs, hm'⟩ := More.step hm ((More.refl w).alloc (.cells #[] e)) (imm' := G.imm) (fun _ _ h => h) (fun _ _ h => .inl h)
  have hnb : ∀ b, (GB.tok w.heap.size 0 0 sz true).blk = some b → w.heap.size ≤ b := by intro b hb; simp [GB.blk] at hb; omega
  refine ⟨⟨G.bl ++ [.tok w.heap.size 0 0 sz true], G.imm⟩, hs.push _ hnb, ?_, ?_⟩
  · refine Mem.push (G := ⟨G.bl, G.imm⟩) hm' ?_ ?_
    · refine .inr ⟨w.heap.size, 0, #[], rfl, heap_alloc_new' w _, by simp, Nat.le_refl _, by simp [maxLen], ?_, fun h => by cases h⟩
      intro _ off hi
      have := hm.immLt.1 _ _ hi
      omega
    · intro b hb
      simp [GB.blk] at hb
      subst hb
      refine ⟨by simp, ?_⟩
      intro o g' hg' hb'
      have := hm.lt o g' _ hg' hb'
      omega
  · refine .sl [] _ _ (SlC.nil _ 0 (by simp [maxLen])) (.inr ⟨w.heap.size, 0, 0, sz, true, by rw [← hm.len]; simp, Nat.le_refl _, fun _ => rfl⟩)

theorem bs0_sound {P : Program} {G : Ghost} {objs : List Obj} {w : World} {t : TypeId} {len : Nat} {parts : List (Nat × AV)} {vparts : List (Nat × Value)} {k : AV → List Obj → Prop}
    (h : bs0AV P t len parts objs k) (hm : Mem G objs w) (hl : parts.length = vparts.length) :
    ∃ r y objs' G' w', (Instr.buildSlice t len vparts.toArray).run P w = .ok r w' ∧ Step G w G' w' ∧ Mem G' objs' w' ∧ Conc G' w' y r ∧ k y objs' := by
  obtain ⟨rfl, rfl, i, e, j, hi, hd, hj, hs0, hk⟩ := h
  have hv : vparts = [] := List.length_eq_zero_iff.1 hl.symm
  subst hv
  obtain ⟨G', s1, s2, s3⟩ := bs0_step hm e j.size
  refine ⟨_, _, _, G', _, ?_, s1, s2, s3, hk⟩
  have hu := ti_und hi w
  rw [hd] at hu
  have hz : (Go.sizeOf e).run P w = .ok j.size w := ti_size hj w
  simp only [Instr.buildSlice, Sem.run_bind, hu, Result.andThen_ok, ti_size hj, Sem.run_ite, Sem.run_pure, Nat.zero_mul, if_pos]
  rw [if_neg (by decide), show Array.range 0 = #[] from by simp]
  have hf : Instr.fill (fun i => some (i * j.size, j.size)) (Array.map (fun x => (#[] : Array Value)[x % (#[] : Array Value).size]!) #[]) [] = some #[] := by simp [Instr.fill]
  simp only [hf]
  rfl
end Go.Proofs.YtcpjmkbcefmldaaGreatDoor.AM

/- The operations, all together. -/
namespace Go.Proofs.YtcpjmkbcefmldaaGreatDoor.AM
open Go

inductive AEnd where
  | ret (x : AV) | pan (x : AV)

def EndOk (G : Ghost) (w : World) : AEnd → Ending → Prop
  | .ret x, .returned v => Conc G w x v
  | .pan x, .panicked chain => ∃ v, chain = [{ v, recovered := false }] ∧ Conc G w x v
  | _, _ => False

def ACall (P : Program) (f : Nat) (args : List AV) (objs : List Obj) (R : AEnd → List Obj → Prop) : Prop :=
  ∀ (G : Ghost) (w : World) (vs : List Value), Mem G objs w → ConcL G w args vs →
    Calls P f vs.toArray w fun e w' => ∃ ae objs' G', R ae objs' ∧ Mem G' objs' w' ∧ Step G w G' w' ∧ EndOk G' w' ae e

theorem ACall.mono {P : Program} {f : Nat} {args : List AV} {objs : List Obj} {R R' : AEnd → List Obj → Prop} (h : ACall P f args objs R) (hr : ∀ e o, R e o → R' e o) : ACall P f args objs R' :=
  fun G w vs hm hc => (h G w vs hm hc).mono fun _ _ ⟨ae, objs', G', h1, h2⟩ => ⟨ae, objs', G', hr _ _ h1, h2⟩

def enters (P : Program) (f : Nat) : Bool :=
  match P.funcs[f]? with
  | some fn => !(fn.name == "runtime.NumGoroutine") && fn.body.isSome
  | none => false

def callK (K : AV → List Obj → Prop) (E : AV → List Obj → Prop) : AEnd → List Obj → Prop
  | .ret x, objs => K x objs
  | .pan x, objs => E x objs

def callAV (P : Program) (f : Nat) (args : List AV) (objs : List Obj) (K : AV → List Obj → Prop) (E : AV → List Obj → Prop) : Prop :=
  enters P f = true ∧ ACall P f args objs (callK K E)

def nilCheckAV (x : AV) (k : AV → Prop) : Prop :=
  match x with
  | .ptr o off => k (.ptr o off)
  | .ep rows i off t => k (.ep rows i off t)
  | .fn f a b => k (.fn f a b)
  | _ => False

def storeAV (P : Program) (objs : List Obj) (t : TypeId) (a x : AV) (k : List Obj → Prop) : Prop :=
  match ti P t, a, cellsAV x with
  | some i, .ptr o off, some xs =>
    match objs[o]? with
    | some (.box cells) => xs.length = i.size ∧ off + xs.length ≤ cells.length ∧ k (objs.set o (.box (setFrom cells off xs)))
    | some (.bld e _) => off = 1 ∧ i.size = 1 ∧ xs.length = 1 ∧ k (objs.set o (.bld e (xs.getD 0 .any)))
    | _ => False
  | _, _, _ => False

def minmaxAV (least : Bool) (xs : List AV) (k : AV → Prop) : Prop :=
  match xs with
  | [.v (.int q a), .v (.int _ b)] => k (.v (.int q (if least then min a b else max a b)))
  | _ => False

def builtinAV (P : Program) (b : Builtin) (ts : List TypeId) (xs : List AV) (objs : List Obj) (k : AV → List Obj → Prop) : Prop :=
  match b with
  | .len => (match ts, xs with | [t], [x] => lenAV P t x (fun r => k r objs) ∨ mapLenAV P objs t x (fun r => k r objs) | _, _ => False)
  | .delete => (match ts, xs with | [t, _], [m, x] => mapDelAV P objs t m x (fun objs => k .any objs) | _, _ => False)
  | .append => (match ts, xs with | [t, xt], [s, x] => appendAV P t xt objs s x k | _, _ => False)
  | .copy => (match ts, xs with | [t, _], [d, x] => copyAV P t objs d x k | _, _ => False)
  | .min => minmaxAV true xs (fun r => k r objs)
  | .max => minmaxAV false xs (fun r => k r objs)
  | _ => False

def AV.boolUn : AV → Option (Bool × Bool)
  | .v (.bool b) => some (true, b)
  | .cnd g (.v (.bool b)) => some (g, b)
  | .cnd false _ => some (false, false)
  | _ => none

def pickAV (c x y : AV) (k : AV → Prop) : Prop :=
  match c, x.boolUn, y.boolUn with
  | .v (.bool t), some (g, p), some (h, q) => (t = true → g = true) ∧ (t = false → h = true) ∧ k (.v (.bool (bif t then p else q)))
  | .v (.bool t), some (g, p), none => t = true ∧ g = true ∧ k (.v (.bool p))
  | .v (.bool t), none, some (h, q) => t = false ∧ h = true ∧ k (.v (.bool q))
  | _, _, _ => False

def aop (P : Program) (o : Oper) (s : AS) (K : AS → Prop) (E : AV → List Obj → Prop) : Prop :=
  match o.op with
  | .move x => K (s.put o.dst (s.eval x))
  | .assign x => K (s.put o.dst (s.eval x))
  | .pick c a b => pickAV (s.eval c) (s.raw a) (s.raw b) (fun r => K (s.put o.dst r))
  | .nilCheck x => nilCheckAV (s.eval x) (fun r => K (s.put o.dst r))
  | .alloc e => (match ti P e with
    | some i => K { s.put o.dst (.ptr s.objs.length 0) with objs := s.objs ++ [.box (i.zero.map .v)] } ∨
        (i.zero = [.pointer none, .slice none 0 0] ∧ ∃ b, K { s.put o.dst (.ptr s.objs.length 0) with objs := s.objs ++ [.bld e (.sl [] (.own (s.objs.length + 1))), .tok 0 1 b true] })
    | none => False)
  | .box e x => (match ti P e, cellsAV (s.eval x) with | some _, some cs => K { s.put o.dst (.ptr s.objs.length 0) with objs := s.objs ++ [.box cs] } | _, _ => False)
  | .build t parts => buildAV P t (parts.toList.map fun p => (p.1, s.eval p.2)) (fun r => K (s.put o.dst r))
  | .buildSlice t len parts => buildSliceAV P t len (parts.toList.map fun p => (p.1, s.eval p.2)) (fun r => K (s.put o.dst r)) ∨ bs0AV P t len (parts.toList.map fun p => (p.1, s.eval p.2)) s.objs (fun r objs => K { s.put o.dst r with objs := objs })
  | .load t a => loadAV P s.objs t (s.eval a) (fun r => K (s.put o.dst r))
  | .store t a x => storeAV P s.objs t (s.eval a) (s.eval x) (fun objs => K { s.put o.dst .any with objs := objs })
  | .binOp op t x y _ => binAV P op t (s.eval x) (s.eval y) (fun r => K (s.put o.dst r))
  | .unOp op _ x => unAV op (s.eval x) (fun r => K (s.put o.dst r))
  | .convert src dst x => convAV P src dst (s.eval x) (fun r => K (s.put o.dst r)) ∨ convBAV P src dst (s.eval x) (fun r => K (s.put o.dst r))
  | .makeFunc fn first cap => (match fn with | .func f => K (s.put o.dst (.fn f (first.toList.map s.eval) (cap.toList.map s.eval))) | _ => False)
  | .makeSlice t l c => makeSliceAV P t s.objs (s.eval l) (s.eval c) (fun r objs => K { s.put o.dst r with objs := objs })
  | .slice t x lo hi mx => sliceAV P t (s.eval x) (lo.map s.eval) (hi.map s.eval) (mx.map s.eval) (fun r => K (s.put o.dst r))
  | .fieldAddr t x f => fieldAddrAV P t f (s.eval x) (fun r => K (s.put o.dst r))
  | .field t x f => fieldAV P t f (s.eval x) (fun r => K (s.put o.dst r))
  | .indexAddr t x i => indexAddrAV P t (s.eval x) (s.eval i) (fun r => K (s.put o.dst r))
  | .index t x i => indexAV P t (s.eval x) (s.eval i) (fun r => K (s.put o.dst r))
  | .makeMap _ r => (match r with | none => K { s.put o.dst (.map s.objs.length) with objs := s.objs ++ [.map []] } | some _ => False)
  | .lookup t m k ok => lookupAV P s.objs t (s.eval m) (s.eval k) ok (fun r => K (s.put o.dst r))
  | .mapUpdate t m k x => mapUpdateAV P s.objs t (s.eval m) (s.eval k) (s.eval x) (fun objs => K { s.put o.dst .any with objs := objs })
  | .range t x => rangeAV P s.objs t (s.eval x) (fun r objs => K { s.put o.dst r with objs := objs })
  | .next x b => nextAV s.objs (s.eval x) b (fun r objs => K { s.put o.dst r with objs := objs })
  | .entry x => entryAV s.objs (s.eval x) (fun r => K (s.put o.dst r))
  | .extract x i => extractAV (s.eval x) i (fun r => K (s.put o.dst r))
  | .call c =>
    (match c.callee with
    | .builtin b => builtinAV P b c.argTypes.toList (c.args.toList.map s.eval) s.objs (fun r objs => K { s.put o.dst r with objs := objs })
    | .value f =>
      (match s.eval f with
      | .fn g first cap => callAV P g (first ++ c.args.toList.map s.eval ++ cap) s.objs (fun r objs => K { s.put o.dst r with objs := objs }) E
      | _ => False)
    | _ => False)
  | _ => False

def NextOk (K : AS → Prop) (G : Ghost) (w : World) (a' : Act) (w' : World) : Prop := ∃ s' G', K s' ∧ Sat G' s' a' w' ∧ Step G w G' w'

theorem evalList {G : Ghost} {s : AS} {a : Act} {w : World} (h : Sat G s a w) (xs : List Operand) : ConcL G w (xs.map s.eval) (xs.map a.eval) := by
  refine ⟨by simp, fun i x v hx hv => ?_⟩
  simp only [List.getElem?_map] at hx hv
  cases hq : xs[i]? with
  | none => simp [hq] at hx
  | some q =>
    simp only [hq, Option.map_some, Option.some.injEq] at hx hv
    subst hx; subst hv
    exact h.eval q

theorem evalParts {G : Ghost} {s : AS} {a : Act} {w : World} (h : Sat G s a w) (ps : List (Nat × Operand)) :
    ∀ (i : Nat) (p : Nat × AV) (q : Nat × Value), (ps.map fun p => (p.1, s.eval p.2))[i]? = some p → (ps.map fun p => (p.1, a.eval p.2))[i]? = some q → p.1 = q.1 ∧ Conc G w p.2 q.2 := by
  intro i p q hp hq
  simp only [List.getElem?_map] at hp hq
  cases hx : ps[i]? with
  | none => simp [hx] at hp
  | some x =>
    simp only [hx, Option.map_some, Option.some.injEq] at hp hq
    subst hp; subst hq
    exact ⟨rfl, h.eval x.2⟩

theorem evalO {G : Ghost} {s : AS} {a : Act} {w : World} (h : Sat G s a w) (x : Option Operand) : ConcO G w (x.map s.eval) (x.map a.eval) := by
  cases x with
  | none => trivial
  | some x => exact h.eval x

section ops
variable {P : Program} {o : Oper} {a : Act} {w : World} {next : Act → World → Prop} {Q : Exit → Act → World → Prop}

theorem op_value {x : Sem Value} {r : Value} {w' : World} (he : execOp a.eval o = (do pure (.value (← x)))) (hr : x.run P w = .ok r w') (h : next (a.put o.dst r) w') : o.wp P a w next Q := by
  unfold Oper.wp
  rw [he]
  simp only [Sem.run_bind, hr, Result.andThen_ok, Sem.run_pure]
  exact h

variable {G : Ghost} {s : AS} {K : AS → Prop}

theorem case_value {x : Sem Value} (hs : Sat G s a w) (he : execOp a.eval o = (do pure (.value (← x))))
    (h : ∃ r y, x.run P w = .ok r w ∧ Conc G w y r ∧ K (s.put o.dst y)) : o.wp P a w (NextOk K G w) Q := by
  obtain ⟨r, y, h1, h2, h3⟩ := h
  exact op_value he h1 ⟨_, G, h3, hs.put0 o.dst h2, Step.refl G w⟩

theorem case_mem {x : Sem Value} (hs : Sat G s a w) (he : execOp a.eval o = (do pure (.value (← x))))
    (h : ∃ r y objs' G' w', x.run P w = .ok r w' ∧ Step G w G' w' ∧ Mem G' objs' w' ∧ Conc G' w' y r ∧ K { s.put o.dst y with objs := objs' }) : o.wp P a w (NextOk K G w) Q := by
  obtain ⟨r, y, objs', G', w', h1, h2, h3, h4, h5⟩ := h
  exact op_value he h1 ⟨_, G', h5, hs.put h2.ext h3 o.dst h4, h2⟩
end ops

theorem min_run {P : Program} {w : World} (ts : Array TypeId) (ty : TypeId) (q q' : IntKind) (a b : Int) : (Builtin.min_ ts ty #[.int q a, .int q' b]).run P w = .ok (.int q (min a b)) w := by
  have : (if b < a then b else a) = min a b := by split <;> omega
  simp [Builtin.min_, Builtin.min2, this]

theorem max_run {P : Program} {w : World} (ts : Array TypeId) (ty : TypeId) (q q' : IntKind) (a b : Int) : (Builtin.max_ ts ty #[.int q a, .int q' b]).run P w = .ok (.int q (max a b)) w := by
  have : (if b > a then b else a) = max a b := by split <;> omega
  simp [Builtin.max_, Builtin.max2, this]

theorem minmax_sound {P : Program} {G : Ghost} {w : World} {least : Bool} {xs : List AV} {vs : List Value} {k : AV → Prop} (ts : Array TypeId) (ty : TypeId) (h : minmaxAV least xs k) (hc : ConcL G w xs vs) :
    ∃ r y, ((if least then Builtin.min_ ts ty vs.toArray else Builtin.max_ ts ty vs.toArray) : Sem Value).run P w = .ok r w ∧ Conc G w y r ∧ k y := by
  unfold minmaxAV at h
  split at h
  · rename_i q a q' b
    obtain ⟨hl, hc⟩ := hc
    match vs, hl, hc with
    | [u, v], _, hc =>
      have h1 := hc 0 _ u rfl rfl
      have h2 := hc 1 _ v rfl rfl
      cases h1; cases h2
      cases least
      · exact ⟨_, _, max_run ts ty q q' a b, .v _ rfl, h⟩
      · exact ⟨_, _, min_run ts ty q q' a b, .v _ rfl, h⟩
  · exact h.elim

theorem builtin_sound {P : Program} {G : Ghost} {objs : List Obj} {w : World} {b : Builtin} {ts : Array TypeId} {xs : List AV} {vs : List Value} {k : AV → List Obj → Prop} (ty : TypeId) (consts : Array Bool)
    (h : builtinAV P b ts.toList xs objs k) (hm : Mem G objs w) (hc : ConcL G w xs vs) :
    ∃ x : Sem Value, builtin b ts ty consts vs.toArray = (do pure (.value (← x))) ∧ ∃ r y objs' G' w', x.run P w = .ok r w' ∧ Step G w G' w' ∧ Mem G' objs' w' ∧ Conc G' w' y r ∧ k y objs' := by
  obtain ⟨ts⟩ := ts
  simp only at h
  cases b <;> simp only [builtinAV] at h <;> try exact h.elim
  case append =>
    split at h
    · rename_i t xt s x
      obtain ⟨hl, hc⟩ := hc
      match vs, hl, hc with
      | [u, v], _, hc => exact ⟨_, rfl, append_sound h hm (hc 0 _ u rfl rfl) (hc 1 _ v rfl rfl) ty⟩
    · exact h.elim
  case len =>
    split at h
    · rename_i t x
      obtain ⟨hl, hc⟩ := hc
      match vs, hl, hc with
      | [u], _, hc =>
        rcases h with h | h
        · obtain ⟨r, y, h1, h2, h3⟩ := len_sound (P := P) #[t] ty h (hc 0 _ u rfl rfl) rfl
          exact ⟨_, rfl, r, y, objs, G, w, h1, Step.refl G w, hm, h2, h3⟩
        · obtain ⟨r, y, h1, h2, h3⟩ := mapLen_sound (P := P) #[t] ty h hm (hc 0 _ u rfl rfl) rfl
          exact ⟨_, rfl, r, y, objs, G, w, h1, Step.refl G w, hm, h2, h3⟩
    · exact h.elim
  case delete =>
    split at h
    · rename_i t t2 m x
      obtain ⟨hl, hc⟩ := hc
      match vs, hl, hc with
      | [u, v], _, hc =>
        obtain ⟨objs', w', h1, h2, h3, h4⟩ := mapDel_sound (P := P) (t2 := t2) ty h hm (hc 0 _ u rfl rfl) (hc 1 _ v rfl rfl)
        exact ⟨_, rfl, _, .any, objs', G, w', h1, h2, h3, .any _, h4⟩
    · exact h.elim
  case copy =>
    split at h
    · rename_i t t2 d x
      obtain ⟨hl, hc⟩ := hc
      match vs, hl, hc with
      | [u, v], _, hc =>
        obtain ⟨r, y, objs', w', h1, h2, h3, h4, h5⟩ := copy_sound (P := P) (t2 := t2) ty h hm (hc 0 _ u rfl rfl) (hc 1 _ v rfl rfl)
        exact ⟨_, rfl, r, y, objs', G, w', h1, h2, h3, h4, h5⟩
    · exact h.elim
  case max =>
    obtain ⟨r, y, h1, h2, h3⟩ := minmax_sound (P := P) ts.toArray ty h hc
    exact ⟨_, rfl, r, y, objs, G, w, h1, Step.refl G w, hm, h2, h3⟩
  case min =>
    obtain ⟨r, y, h1, h2, h3⟩ := minmax_sound (P := P) ts.toArray ty h hc
    exact ⟨_, rfl, r, y, objs, G, w, h1, Step.refl G w, hm, h2, h3⟩

theorem store_sound {P : Program} {G : Ghost} {objs : List Obj} {w : World} {t : TypeId} {x y : AV} {u v : Value} {k : List Obj → Prop} (h : storeAV P objs t x y k) (hm : Mem G objs w) (hx : Conc G w x u) (hy : Conc G w y v) :
    ∃ objs' w', (Instr.storeAt t u v).run P w = .ok () w' ∧ Step G w G w' ∧ Mem G objs' w' ∧ k objs' := by
  unfold storeAV at h
  split at h
  · rename_i i o off xs hi hcx
    split at h
    · rename_i cells hob
      obtain ⟨h1, h2, hk⟩ := h
      cases hx with
      | ptr _ _ b hb =>
        obtain ⟨us, e1, e2, e3, e4⟩ := cells_conc hy hcx
        obtain ⟨w', k1, k2, k3⟩ := store_step (P := P) hm hob hb ⟨e2, e4⟩ e3 h2
        refine ⟨_, w', ?_, k2, k3, hk⟩
        have hsz : ¬ (us.length ≠ i.size) := by omega
        simp [Instr.storeAt, Instr.sureAddr, storeVar, e1, ti_size hi, e2, h1, k1]
    · rename_i e buf hob
      obtain ⟨rfl, hs, h1, hk⟩ := h
      cases hx with
      | ptr _ _ b hb =>
        obtain ⟨us, e1, e2, e3, e4⟩ := cells_conc hy hcx
        obtain ⟨w', k1, k2, k3⟩ := bld_step (P := P) hm hob hb ⟨e2, e4⟩ e3 h1
        refine ⟨_, w', ?_, k2, k3, hk⟩
        simp [Instr.storeAt, Instr.sureAddr, storeVar, e1, ti_size hi, e2, h1, hs, k1]
    · exact h.elim
  · exact h.elim

theorem call_run {P : Program} {w : World} {f : Nat} {vs : Array Value} (h : enters P f = true) : (callFunc f vs).run P w = .ok (.enter f vs) w := by
  unfold enters at h
  split at h
  · rename_i fn hf
    simp only [Bool.and_eq_true, Bool.not_eq_true', Option.isSome_iff_exists] at h
    obtain ⟨h1, b, h2⟩ := h
    have h3 : ¬ fn.name = "runtime.NumGoroutine" := by simpa using h1
    simp [callFunc, run_program, hf, h3, h2]
  · cases h

theorem conc_v {G : Ghost} {w : World} {x u : Value} (h : Conc G w (.v x) u) : u = x := by cases h; rfl

theorem conc_fn {G : Ghost} {w : World} {f : Nat} {first cap : List AV} {u : Value} (h : Conc G w (.fn f first cap) u) :
    ∃ vf vc : List Value, u = .func (.func f) vf.toArray vc.toArray ∧ ConcL G w first vf ∧ ConcL G w cap vc := by
  cases h with
  | fn _ _ _ vf vc h1 h2 h3 h4 => exact ⟨vf, vc, rfl, ⟨h1, h3⟩, ⟨h2, h4⟩⟩

theorem ConcL.append {G : Ghost} {w : World} {xs ys : List AV} {us vs : List Value} (h : ConcL G w xs us) (k : ConcL G w ys vs) : ConcL G w (xs ++ ys) (us ++ vs) := by
  refine ⟨by simp [h.1, k.1], fun i x v hx hv => ?_⟩
  rcases Nat.lt_or_ge i xs.length with hl | hl
  · rw [List.getElem?_append_left hl] at hx
    rw [List.getElem?_append_left (by rw [h.1]; exact hl)] at hv
    exact h.2 i x v hx hv
  · rw [List.getElem?_append_right hl] at hx
    rw [List.getElem?_append_right (by rw [h.1]; exact hl), h.1] at hv
    exact k.2 _ x v hx hv

theorem nilCheck_sound {G : Ghost} {w : World} {x : AV} {u : Value} {k : AV → Prop} (h : nilCheckAV x k) (hx : Conc G w x u) :
    k x ∧ ((∃ a, u = .pointer (some a)) ∨ ∃ f p q, u = .func (.func f) p q) := by
  cases hx <;> first
    | exact h.elim
    | exact ⟨h, .inl ⟨_, rfl⟩⟩
    | exact ⟨h, .inr ⟨_, _, _, rfl⟩⟩

theorem boolUn_sound {G : Ghost} {w : World} {x : AV} {u : Value} {g b : Bool} (h : x.boolUn = some (g, b)) (hc : Conc G w x u) (hg : g = true) : u = .bool b := by
  unfold AV.boolUn at h
  split at h
  · cases h; exact conc_v hc
  · cases h
    cases hc with
    | cnd _ _ _ hh _ => exact conc_v (hh hg)
  · cases h; cases hg
  · cases h

theorem pick_sound {G : Ghost} {w : World} {c x y : AV} {u v z : Value} {k : AV → Prop} (h : pickAV c x y k) (hc : Conc G w c u) (hx : Conc G w x v) (hy : Conc G w y z) :
    ∃ t r, u = .bool t ∧ Value.bool r = (if t then v else z) ∧ k (.v (.bool r)) := by
  unfold pickAV at h
  split at h
  · rename_i t g p h' q e1 e2
    obtain ⟨h1, h2, hk⟩ := h
    refine ⟨t, _, conc_v hc, ?_, hk⟩
    cases t
    · simp only [Bool.false_eq_true, if_false]; exact (boolUn_sound e2 hy (h2 rfl)).symm
    · simp only [if_true]; exact (boolUn_sound e1 hx (h1 rfl)).symm
  · rename_i t g p e1 e2
    obtain ⟨rfl, h2, hk⟩ := h
    exact ⟨true, _, conc_v hc, by simp only [if_true]; exact (boolUn_sound e1 hx h2).symm, hk⟩
  · rename_i t h' q e1 e2
    obtain ⟨rfl, h2, hk⟩ := h
    exact ⟨false, _, conc_v hc, by simp only [Bool.false_eq_true, if_false]; exact (boolUn_sound e2 hy h2).symm, hk⟩
  · exact h.elim

theorem aop_sound {P : Program} {o : Oper} {G : Ghost} {s : AS} {a : Act} {w : World} {K : AS → Prop} {E : AV → List Obj → Prop} {Q : Exit → Act → World → Prop}
    (h : aop P o s K E) (hs : Sat G s a w) (hE : ∀ x objs' G' v w', E x objs' → Mem G' objs' w' → Step G w G' w' → Conc G' w' x v → Q (.panic [{ v, recovered := false }]) a w') :
    o.wp P a w (NextOk K G w) Q := by
  unfold aop at h
  split at h
  · rename_i x ho
    refine op_value (x := pure (a.eval x)) (by simp [execOp, ho]) rfl ⟨_, G, h, hs.put0 o.dst (hs.eval x), Step.refl G w⟩
  · rename_i x ho
    refine op_value (x := pure (a.eval x)) (by simp [execOp, ho]) rfl ⟨_, G, h, hs.put0 o.dst (hs.eval x), Step.refl G w⟩
  · rename_i c x y ho
    obtain ⟨t, r, hcv, hr, hk⟩ := pick_sound h (hs.eval c) (hs.raw x) (hs.raw y)
    refine op_value (x := pure (if t then a.eval x else a.eval y)) ?_ rfl ⟨_, G, hk, ?_, Step.refl G w⟩
    · cases t <;> simp [execOp, ho, hcv, asBool]
    · refine hs.put0 o.dst ?_
      rw [← hr]
      exact .v _ rfl
  · rename_i x ho
    obtain ⟨hk, hsh⟩ := nilCheck_sound h (hs.eval x)
    refine op_value (x := pure (a.eval x)) ?_ rfl ⟨_, G, hk, hs.put0 o.dst (hs.eval x), Step.refl G w⟩
    rcases hsh with ⟨ad, hu⟩ | ⟨f, p, q, hu⟩
    · simp [execOp, ho, hu]
    · simp [execOp, ho, hu]
  · rename_i e ho
    split at h
    · rename_i i hi
      obtain ⟨z, hz, hzc⟩ := ti_zero hi w
      obtain ⟨z1, z2⟩ := zero_conc (G := G) (w := w) hi
      obtain ⟨G', s1, s2, s3⟩ := box_step hs.mem z1 z2 e
      have hrun : (Instr.alloc e true (.tuple #[])).run P w = .ok (.pointer (some ⟨w.heap.size, 0, none⟩)) (w.alloc (.cells i.zero.toArray e)) := by simp [Instr.alloc, hz, newVar, newRow, hzc]
      rcases h with h | ⟨hz0, bb, h⟩
      · exact op_value (x := Instr.alloc e true (.tuple #[])) (by simp [execOp, ho]) hrun ⟨_, G', h, hs.put s1.ext s2 o.dst s3, s1⟩
      · have hl' : G'.bl.length = s.objs.length + 1 := by rw [s2.len]; simp
        obtain ⟨gg, hg, hok⟩ := s2.obj (o := s.objs.length) (x := .box (i.zero.map .v)) (by simp)
        rcases hok with ⟨h0, _⟩ | ⟨b, c, e', rfl, k1, k2, k3, k4⟩
        · rw [hz0] at h0; cases h0
        · have hbs : w.heap.size = b := by
            cases s3 with
            | ptr _ _ b' hb' => rw [hg] at hb'; cases hb'; rfl
          subst hbs
          rw [heap_alloc_new'] at k1
          cases k1
          have m1 := s2.push (g := .full 0) (x := .tok 0 1 bb true) (.inl ⟨rfl, fun _ => rfl⟩) (fun b hb => by cases hb)
          have hg2 : (G'.bl ++ [GB.full 0])[s.objs.length]? = some (.obj w.heap.size) := by rw [List.getElem?_append_left (by omega)]; exact hg
          have hbuf : Conc ⟨G'.bl ++ [.full 0], G'.imm⟩ (w.alloc (.cells i.zero.toArray e)) (.sl [] (.own (s.objs.length + 1))) (.slice none 0 0) := by
            refine .sl [] _ _ (SlC.nil _ _ (Nat.zero_le _)) (.inl ⟨0, ?_, Nat.le_refl _, fun _ => ⟨none, rfl, fun _ => rfl⟩⟩)
            show (G'.bl ++ [GB.full 0])[s.objs.length + 1]? = _
            rw [← hl']; simp
          have m2 := m1.retell hg2 (x := .bld e (.sl [] (.own (s.objs.length + 1)))) ⟨w.heap.size, .pointer none, .slice none 0 0, rfl, by rw [heap_alloc_new', hz0], .inl rfl, rfl, hbuf, k4⟩
          have hset : ((s.objs ++ [Obj.box (i.zero.map .v)] ++ [Obj.tok 0 1 bb true]).set s.objs.length (Obj.bld e (.sl [] (.own (s.objs.length + 1))))) = s.objs ++ [Obj.bld e (.sl [] (.own (s.objs.length + 1))), Obj.tok 0 1 bb true] := by
            rw [List.append_assoc, List.set_append_right _ _ (Nat.le_refl _), Nat.sub_self]; rfl
          rw [hset] at m2
          have e2 := ext_push G' (w.alloc (.cells i.zero.toArray e)) (.full 0)
          have st2 : Step G w ⟨G'.bl ++ [.full 0], G'.imm⟩ (w.alloc (.cells i.zero.toArray e)) := s1.push _ (fun b hb => by cases hb)
          exact op_value (x := Instr.alloc e true (.tuple #[])) (by simp [execOp, ho]) hrun ⟨_, _, h, hs.put st2.ext m2 o.dst (s3.mono e2), st2⟩
    · exact h.elim
  · rename_i e x ho
    split at h
    · rename_i i cs hi hcs
      obtain ⟨vs, e1, e2, e3, e4⟩ := cells_conc (hs.eval x) hcs
      obtain ⟨G', s1, s2, s3⟩ := box_step hs.mem ⟨e2, e4⟩ e3 e
      refine op_value (x := Instr.box e (a.eval x)) (by simp [execOp, ho]) ?_ ⟨_, G', h, hs.put s1.ext s2 o.dst s3, s1⟩
      simp [Instr.box, newVar, newRow, e1]
    · exact h.elim
  · rename_i t parts ho
    have := build_sound (P := P) h (vparts := parts.toList.map fun p => (p.1, a.eval p.2)) (by simp) (evalParts hs parts.toList)
    rw [← List.map_toArray, Array.toArray_toList] at this
    exact case_value hs (by simp [execOp, ho]) this
  · rename_i t len parts ho
    rcases h with h | h
    · obtain ⟨r, y, G', w', h1, h2, h3, h4, h5⟩ := buildSlice_sound (P := P) h hs.mem (vparts := parts.toList.map fun p => (p.1, a.eval p.2)) (by simp) (evalParts hs parts.toList)
      rw [← List.map_toArray, Array.toArray_toList] at h1
      exact op_value (by simp only [execOp, ho]) h1 ⟨_, G', h5, hs.put h2.ext h3 o.dst h4, h2⟩
    · obtain ⟨r, y, objs', G', w', h1, h2, h3, h4, h5⟩ := bs0_sound (P := P) h hs.mem (vparts := parts.toList.map fun p => (p.1, a.eval p.2)) (by simp)
      rw [← List.map_toArray, Array.toArray_toList] at h1
      exact op_value (by simp only [execOp, ho]) h1 ⟨_, G', h5, hs.put h2.ext h3 o.dst h4, h2⟩
  · rename_i t x ho
    exact case_value hs (by simp only [execOp, ho]) (load_sound (P := P) h hs.mem (hs.eval x))
  · rename_i t x y ho
    obtain ⟨objs', w', h1, h2, h3, h4⟩ := store_sound (P := P) h hs.mem (hs.eval x) (hs.eval y)
    unfold Oper.wp
    simp only [execOp, ho, Sem.run_bind, h1, Result.andThen_ok, Sem.run_pure]
    exact ⟨_, G, h4, hs.put h2.ext h3 o.dst (.any _), h2⟩
  · rename_i op t x y ty ho
    exact case_value hs (by simp only [execOp, ho]) (bin_sound (P := P) x y h (hs.eval x) (hs.eval y))
  · rename_i op t x ho
    exact case_value hs (by simp only [execOp, ho]) (un_sound (P := P) h (hs.eval x))
  · rename_i src dst x ho
    rcases h with h | h
    · exact case_value hs (by simp only [execOp, ho]) (conv_sound (P := P) h (hs.eval x))
    · obtain ⟨r, y, G', w', h1, h2, h3, h4, h5⟩ := convB_sound (P := P) h hs.mem (hs.eval x)
      exact op_value (by simp only [execOp, ho]) h1 ⟨_, G', h5, hs.put h2.ext h3 o.dst h4, h2⟩
  · rename_i fn first cap ho
    split at h
    · rename_i f
      have e1 := evalList hs first.toList
      have e2 := evalList hs cap.toList
      refine case_value (x := Instr.makeFunc (.func f) (first.map a.eval) (cap.map a.eval)) hs (by simp only [execOp, ho]) ⟨_, _, rfl, ?_, h⟩
      have := Conc.fn (G := G) (w := w) f _ _ _ _ e1.1 e2.1 e1.2 e2.2
      rwa [← List.map_toArray, ← List.map_toArray, Array.toArray_toList, Array.toArray_toList] at this
    · exact h.elim
  · rename_i t l c ho
    exact case_mem hs (by simp only [execOp, ho]) (makeSlice_sound (P := P) h hs.mem (hs.eval l) (hs.eval c))
  · rename_i t x lo hi mx ho
    exact case_value hs (by simp only [execOp, ho]) (slice_sound (P := P) h (hs.eval x) (evalO hs lo) (evalO hs hi) (evalO hs mx))
  · rename_i t x f ho
    exact case_value hs (by simp only [execOp, ho]) (fieldAddr_sound (P := P) h (hs.eval x))
  · rename_i t x f ho
    exact case_value hs (by simp only [execOp, ho]) (field_sound (P := P) h (hs.eval x))
  · rename_i t x i ho
    exact case_value hs (by simp only [execOp, ho]) (indexAddr_sound (P := P) h (hs.eval x) (hs.eval i))
  · rename_i t x i ho
    exact case_value hs (by simp only [execOp, ho]) (index_sound (P := P) h (hs.eval x) (hs.eval i))
  · rename_i t r ho
    split at h
    · obtain ⟨G', s1, s2, s3⟩ := makeMap_step hs.mem
      exact op_value (x := Instr.makeMap t none) (by simp [execOp, ho]) (by simp [Instr.makeMap]) ⟨_, G', h, hs.put s1.ext s2 o.dst s3, s1⟩
    · exact h.elim
  · rename_i t m k ok ho
    exact case_value hs (by simp only [execOp, ho]) (lookup_sound (P := P) h hs.mem (hs.eval m) (hs.eval k))
  · rename_i t m k x ho
    obtain ⟨objs', w', h1, h2, h3, h4⟩ := mapUpdate_sound (P := P) h hs.mem (hs.eval m) (hs.eval k) (hs.eval x)
    unfold Oper.wp
    simp only [execOp, ho, Sem.run_bind, h1, Result.andThen_ok, Sem.run_pure]
    exact ⟨_, G, h4, hs.put h2.ext h3 o.dst (.any _), h2⟩
  · rename_i t x ho
    exact case_mem hs (by simp only [execOp, ho]) (range_sound (P := P) h hs.mem (hs.eval x))
  · rename_i x b ho
    exact case_mem hs (by simp only [execOp, ho]) (next_sound (P := P) o.type h hs.mem (hs.eval x))
  · rename_i x ho
    exact case_value hs (by simp only [execOp, ho]) (entry_sound (P := P) h hs.mem (hs.eval x))
  · rename_i x i ho
    exact case_value hs (by simp only [execOp, ho]) (extract_sound (P := P) h (hs.eval x))
  · rename_i c ho
    split at h
    · rename_i b hb
      obtain ⟨x, hx, hrest⟩ := builtin_sound (P := P) o.type (c.args.map fun | .const _ => true | _ => false) h hs.mem (evalList hs c.args.toList)
      rw [← List.map_toArray, Array.toArray_toList] at hx
      refine case_mem (x := x) hs ?_ hrest
      simp only [execOp, ho, resolve, hb]
      exact hx
    · rename_i f hf
      split at h
      · rename_i g first cap hfe
        obtain ⟨hen, hcall⟩ := h
        have hfc := hs.eval f
        rw [hfe] at hfc
        obtain ⟨vf, vc, hfv, h1, h2⟩ := conc_fn hfc
        have hargs := evalList hs c.args.toList
        have hall := ConcL.append (ConcL.append h1 hargs) h2
        have := hcall G w _ hs.mem hall
        have hrun : (execOp a.eval o).run P w = .ok (.enter g ((vf ++ c.args.toList.map a.eval ++ vc).toArray)) w := by
          simp only [execOp, ho, resolve, hf, hfv, Deferred.ofValue, Sem.run_bind, Sem.run_pure, Result.andThen_ok, invoke]
          rw [call_run hen]
          congr 2
          apply Array.ext'
          simp
        unfold Oper.wp
        rw [hrun, Oper.upon_enter]
        refine this.mono ?_
        rintro e w' ⟨ae, objs', G', hk, hm', hst, hend⟩
        cases ae with
        | ret x =>
          cases e with
          | returned v => exact ⟨_, G', hk, hs.put hst.ext hm' o.dst hend, hst⟩
          | panicked chain => exact hend.elim
          | outgrown => exact hend.elim
        | pan x =>
          cases e with
          | returned v => exact hend.elim
          | panicked chain =>
            obtain ⟨v, rfl, hc⟩ := hend
            exact hE x objs' G' v w' hk hm' hst hc
          | outgrown => exact hend.elim
      · exact h.elim
    · exact h.elim
  · exact h.elim

end Go.Proofs.YtcpjmkbcefmldaaGreatDoor.AM

/- Operations that only read. -/
namespace Go.Proofs.YtcpjmkbcefmldaaGreatDoor.AM
open Go

def isQ : Op → Bool
  | .move _ | .assign _ | .pick .. | .nilCheck _ | .build .. | .load .. | .binOp .. | .unOp .. | .slice .. | .fieldAddr .. | .field .. | .indexAddr .. | .index .. | .lookup .. | .extract .. => true
  | .call c => (match c.callee with | .builtin b => (match b with | .len => true | .min => true | .max => true | _ => false) | _ => false)
  | _ => false

def ReadOk (K : AS → Prop) (G : Ghost) (w : World) (a' : Act) : Prop := ∃ s', K s' ∧ Sat G s' a' w

section
variable {P : Program} {o : Oper} {a : Act} {w : World} {G : Ghost} {s : AS} {K : AS → Prop}

theorem op_value' {x : Sem Value} {r : Value} {next : Act → Prop} (he : execOp a.eval o = (do pure (.value (← x)))) (hr : x.run P w = .ok r w) (h : next (a.put o.dst r)) :
    ∃ u, (execOp a.eval o).run P w = .ok (.value u) w ∧ next (a.put o.dst u) := by
  refine ⟨r, ?_, h⟩
  rw [he]
  simp only [Sem.run_bind, hr, Result.andThen_ok, Sem.run_pure]

theorem case_value' {x : Sem Value} (hs : Sat G s a w) (he : execOp a.eval o = (do pure (.value (← x))))
    (h : ∃ r y, x.run P w = .ok r w ∧ Conc G w y r ∧ K (s.put o.dst y)) : ∃ u, (execOp a.eval o).run P w = .ok (.value u) w ∧ ReadOk K G w (a.put o.dst u) := by
  obtain ⟨r, y, h1, h2, h3⟩ := h
  exact op_value' he h1 ⟨_, h3, hs.put0 o.dst h2⟩
end

theorem builtinQ_sound {P : Program} {G : Ghost} {objs : List Obj} {w : World} {b : Builtin} {ts : Array TypeId} {xs : List AV} {vs : List Value} {k : AV → List Obj → Prop} (ty : TypeId) (consts : Array Bool)
    (hq : (match b with | .len => true | .min => true | .max => true | _ => false) = true) (h : builtinAV P b ts.toList xs objs k) (hm : Mem G objs w) (hc : ConcL G w xs vs) :
    ∃ x : Sem Value, builtin b ts ty consts vs.toArray = (do pure (.value (← x))) ∧ ∃ r y, x.run P w = .ok r w ∧ Conc G w y r ∧ k y objs := by
  obtain ⟨ts⟩ := ts
  simp only at h
  cases b <;> simp only [builtinAV] at h <;> first | exact h.elim | (simp at hq; done) | skip
  case len =>
    split at h
    · rename_i t x
      obtain ⟨hl, hc⟩ := hc
      match vs, hl, hc with
      | [u], _, hc =>
        rcases h with h | h
        · obtain ⟨r, y, h1, h2, h3⟩ := len_sound (P := P) #[t] ty h (hc 0 _ u rfl rfl) rfl
          exact ⟨_, rfl, r, y, h1, h2, h3⟩
        · obtain ⟨r, y, h1, h2, h3⟩ := mapLen_sound (P := P) #[t] ty h hm (hc 0 _ u rfl rfl) rfl
          exact ⟨_, rfl, r, y, h1, h2, h3⟩
    · exact h.elim
  case max =>
    obtain ⟨r, y, h1, h2, h3⟩ := minmax_sound (P := P) ts.toArray ty h hc
    exact ⟨_, rfl, r, y, h1, h2, h3⟩
  case min =>
    obtain ⟨r, y, h1, h2, h3⟩ := minmax_sound (P := P) ts.toArray ty h hc
    exact ⟨_, rfl, r, y, h1, h2, h3⟩

theorem aopQ_sound {P : Program} {o : Oper} {G : Ghost} {s : AS} {a : Act} {w : World} {K : AS → Prop} {E : AV → List Obj → Prop} (hq : isQ o.op = true)
    (h : aop P o s K E) (hs : Sat G s a w) : ∃ u, (execOp a.eval o).run P w = .ok (.value u) w ∧ ReadOk K G w (a.put o.dst u) := by
  unfold aop at h
  split at h
  · rename_i x ho
    refine op_value' (x := pure (a.eval x)) (by simp [execOp, ho]) rfl ⟨_, h, hs.put0 o.dst (hs.eval x)⟩
  · rename_i x ho
    refine op_value' (x := pure (a.eval x)) (by simp [execOp, ho]) rfl ⟨_, h, hs.put0 o.dst (hs.eval x)⟩
  · rename_i c x y ho
    obtain ⟨t, r, hcv, hr, hk⟩ := pick_sound h (hs.eval c) (hs.raw x) (hs.raw y)
    refine op_value' (x := pure (if t then a.eval x else a.eval y)) ?_ rfl ⟨_, hk, ?_⟩
    · cases t <;> simp [execOp, ho, hcv, asBool]
    · refine hs.put0 o.dst ?_
      rw [← hr]
      exact .v _ rfl
  · rename_i x ho
    obtain ⟨hk, hsh⟩ := nilCheck_sound h (hs.eval x)
    refine op_value' (x := pure (a.eval x)) ?_ rfl ⟨_, hk, hs.put0 o.dst (hs.eval x)⟩
    rcases hsh with ⟨ad, hu⟩ | ⟨f, p, q, hu⟩
    · simp [execOp, ho, hu]
    · simp [execOp, ho, hu]
  · rename_i e ho
    simp [isQ, ho] at hq
  · rename_i e x ho
    simp [isQ, ho] at hq
  · rename_i t parts ho
    have := build_sound (P := P) h (vparts := parts.toList.map fun p => (p.1, a.eval p.2)) (by simp) (evalParts hs parts.toList)
    rw [← List.map_toArray, Array.toArray_toList] at this
    exact case_value' hs (by simp [execOp, ho]) this
  · rename_i t len parts ho
    simp [isQ, ho] at hq
  · rename_i t x ho
    exact case_value' hs (by simp only [execOp, ho]) (load_sound (P := P) h hs.mem (hs.eval x))
  · rename_i t x y ho
    simp [isQ, ho] at hq
  · rename_i op t x y ty ho
    exact case_value' hs (by simp only [execOp, ho]) (bin_sound (P := P) x y h (hs.eval x) (hs.eval y))
  · rename_i op t x ho
    exact case_value' hs (by simp only [execOp, ho]) (un_sound (P := P) h (hs.eval x))
  · rename_i src dst x ho
    simp [isQ, ho] at hq
  · rename_i fn first cap ho
    simp [isQ, ho] at hq
  · rename_i t l c ho
    simp [isQ, ho] at hq
  · rename_i t x lo hi mx ho
    exact case_value' hs (by simp only [execOp, ho]) (slice_sound (P := P) h (hs.eval x) (evalO hs lo) (evalO hs hi) (evalO hs mx))
  · rename_i t x f ho
    exact case_value' hs (by simp only [execOp, ho]) (fieldAddr_sound (P := P) h (hs.eval x))
  · rename_i t x f ho
    exact case_value' hs (by simp only [execOp, ho]) (field_sound (P := P) h (hs.eval x))
  · rename_i t x i ho
    exact case_value' hs (by simp only [execOp, ho]) (indexAddr_sound (P := P) h (hs.eval x) (hs.eval i))
  · rename_i t x i ho
    exact case_value' hs (by simp only [execOp, ho]) (index_sound (P := P) h (hs.eval x) (hs.eval i))
  · rename_i t r ho
    simp [isQ, ho] at hq
  · rename_i t m k ok ho
    exact case_value' hs (by simp only [execOp, ho]) (lookup_sound (P := P) h hs.mem (hs.eval m) (hs.eval k))
  · rename_i t m k x ho
    simp [isQ, ho] at hq
  · rename_i t x ho
    simp [isQ, ho] at hq
  · rename_i x b ho
    simp [isQ, ho] at hq
  · rename_i x ho
    simp [isQ, ho] at hq
  · rename_i x i ho
    exact case_value' hs (by simp only [execOp, ho]) (extract_sound (P := P) h (hs.eval x))
  · rename_i c ho
    split at h
    · rename_i b hb
      obtain ⟨x, hx, r, y, h1, h2, h3⟩ := builtinQ_sound (P := P) o.type (c.args.map fun | .const _ => true | _ => false) (by simpa [isQ, ho, hb] using hq) h hs.mem (evalList hs c.args.toList)
      rw [← List.map_toArray, Array.toArray_toList] at hx
      refine case_value' (x := x) hs ?_ ⟨r, y, h1, h2, by cases hd : o.dst <;> simpa [AS.put, hd] using h3⟩
      simp only [execOp, ho, resolve, hb]
      exact hx
    · rename_i f hf
      simp [isQ, ho, hf] at hq
    · exact h.elim
  · exact h.elim

end Go.Proofs.YtcpjmkbcefmldaaGreatDoor.AM

/- Regions whose order is drawn: what an operation answers hangs on the slots that it looks at alone. -/
namespace Go.Proofs.YtcpjmkbcefmldaaGreatDoor.AM
open Go

def keepL : List AV → Nat → List Nat → List AV
  | [], _, _ => []
  | x :: xs, n, L => (bif L.contains n then x else .any) :: keepL xs (n + 1) L

theorem keepL_length : ∀ (xs : List AV) (n : Nat) (L : List Nat), (keepL xs n L).length = xs.length
  | [], _, _ => rfl
  | x :: xs, n, L => by simp [keepL, keepL_length xs]

theorem keepL_get : ∀ (xs : List AV) (n : Nat) (L : List Nat) (i : Nat), (keepL xs n L)[i]? = (xs[i]?).map fun x => bif L.contains (n + i) then x else .any
  | [], _, _, _ => rfl
  | x :: xs, n, L, 0 => rfl
  | x :: xs, n, L, i + 1 => by
    simp only [keepL, List.getElem?_cons_succ]
    rw [keepL_get xs (n + 1) L i]
    congr 2
    funext x
    rw [show n + 1 + i = n + (i + 1) from by omega]

def AS.keep (s : AS) (L : List Nat) : AS := { s with tmps := keepL s.tmps 0 L }

theorem keep_put {s : AS} {dst : Option Nat} {x : AV} {L : List Nat} (h : ∀ d, dst = some d → d ∉ L) : (s.put dst x).keep L = s.keep L := by
  cases dst with
  | none => rfl
  | some d =>
    simp only [AS.put, AS.keep, AS.mk.injEq, and_true]
    apply List.ext_getElem?
    intro i
    rw [keepL_get, keepL_get, List.getElem?_set]
    by_cases hd : d = i
    · subst hd
      have hn : L.contains (0 + d) = false := by simpa using h d rfl
      simp only [hn, cond_false, if_true]
      split
      · rename_i hl; simp [List.getElem?_eq_getElem hl]
      · rename_i hl; rw [List.getElem?_eq_none (by omega)]; try rfl
    · rw [if_neg hd]

theorem put_comm {s : AS} {d e : Option Nat} {x y : AV} (h : ∀ i, d = some i → e ≠ some i) : (s.put d x).put e y = (s.put e y).put d x := by
  cases d with
  | none => cases e <;> rfl
  | some i =>
    cases e with
    | none => rfl
    | some j =>
      have hne : i ≠ j := fun he => h i rfl (by rw [he])
      simp only [AS.put, AS.mk.injEq, and_true]
      exact List.set_comm _ _ hne

theorem keep_sat {G : Ghost} {s : AS} {a : Act} {w : World} (hs : Sat G s a w) (L : List Nat) : Sat G (s.keep L) a w := by
  refine ⟨hs.mem, ⟨by simp only [AS.keep, keepL_length]; exact hs.tmps.1, fun i x v hx hv => ?_⟩, hs.defers⟩
  simp only [AS.keep, keepL_get] at hx
  cases hq : s.tmps[i]? with
  | none => simp [hq] at hx
  | some z =>
    simp only [hq, Option.map_some, Option.some.injEq] at hx
    subst hx
    cases L.contains (0 + i)
    · exact .any v
    · exact hs.tmps.2 i z v hq hv

end Go.Proofs.YtcpjmkbcefmldaaGreatDoor.AM

/- What is told by the first objects alone. -/
namespace Go.Proofs.YtcpjmkbcefmldaaGreatDoor.AM
open Go

def Tk.idsLt (n : Nat) : Tk → Bool
  | .own o => decide (o < n)
  | _ => true

mutual
def AV.idsLt (n : Nat) : AV → Bool
  | .v _ => true
  | .sl _ t => t.idsLt n
  | .agg cs => AV.idsLtL n cs
  | .tup cs => AV.idsLtL n cs
  | .ptr o _ => decide (o < n)
  | .ep _ _ _ t => t.idsLt n
  | .bsl o _ _ => decide (o < n)
  | .map o => decide (o < n)
  | .fn _ a b => AV.idsLtL n a && AV.idsLtL n b
  | .cnd _ x => x.idsLt n
  | .any => true
def AV.idsLtL (n : Nat) : List AV → Bool
  | [] => true
  | x :: xs => x.idsLt n && AV.idsLtL n xs
end

def Obj.idsLt (n : Nat) : Obj → Bool
  | .box cs => AV.idsLtL n cs
  | .map es => es.all fun e => e.2.idsLt n
  | .mapB _ _ es => es.all fun e => e.2.idsLt n
  | .iter m _ _ => decide (m < n)
  | .bld _ buf => buf.idsLt n
  | _ => true

theorem belowL_get {n : Nat} : ∀ {xs : List AV}, AV.idsLtL n xs = true → ∀ (i : Nat) (x : AV), xs[i]? = some x → x.idsLt n = true
  | [], _, i, x, h => by simp at h
  | y :: ys, hb, i, x, h => by
    simp only [AV.idsLtL, Bool.and_eq_true] at hb
    cases i with
    | zero => simp at h; subst h; exact hb.1
    | succ i => exact belowL_get hb.2 i x (by simpa using h)

theorem take_get {α : Type} {l : List α} {n o : Nat} {x : α} (ho : o < n) (h : l[o]? = some x) : (l.take n)[o]? = some x := by
  rw [List.getElem?_take, if_pos ho]; exact h

theorem im_trunc {G : Ghost} {n : Nat} {t : Tk} (ht : t.idsLt n = true) {b off : Nat} (h : G.im t b off) : Ghost.im ⟨G.bl.take n, G.imm⟩ t b off := by
  cases t with
  | none => exact h
  | exact => exact h
  | own o =>
    simp only [Tk.idsLt, decide_eq_true_eq] at ht
    rcases h with h | ⟨len, cap, sz, h1, h2⟩
    · exact .inl h
    · exact .inr ⟨len, cap, sz, take_get ht h1, h2⟩

theorem Conc.trunc {G : Ghost} {w : World} {n : Nat} {x : AV} {v : Value} (h : Conc G w x v) : x.idsLt n = true → Conc ⟨G.bl.take n, G.imm⟩ w x v := by
  induction h with
  | v x hx => exact fun _ => .v x hx
  | any x => exact fun _ => .any x
  | cnd g y x _ h' ih => exact fun hb => .cnd g y x (fun hg => ih hg (by simpa [AV.idsLt] using hb)) h'
  | sl rows t x hd ht =>
    intro hb
    simp only [AV.idsLt] at hb
    refine .sl rows t x (hd.mono (fun _ _ _ => rfl) (fun b off h => im_trunc hb h) (fun _ _ _ => rfl) (fun _ _ h => h)) ?_
    cases t with
    | none => trivial
    | exact => exact ht
    | own o =>
      simp only [Tk.idsLt, decide_eq_true_eq] at hb
      rcases ht with ⟨l, h1, h2⟩ | ⟨b, l, c, sz, ex, h1, h2⟩
      · exact .inl ⟨l, take_get hb h1, h2⟩
      · exact .inr ⟨b, l, c, sz, ex, take_get hb h1, h2⟩
  | agg cs vs hl h1 _ ih => exact fun hb => .agg cs vs hl h1 fun i c v hc hv => ih i c v hc hv (belowL_get (by simpa [AV.idsLt] using hb) i c hc)
  | tup cs vs hl _ ih => exact fun hb => .tup cs vs hl fun i c v hc hv => ih i c v hc hv (belowL_get (by simpa [AV.idsLt] using hb) i c hc)
  | ptr o off b h => exact fun hb => .ptr o off b (take_get (by simpa [AV.idsLt] using hb) h)
  | ep rows i off t b st sz h c ht =>
    intro hb
    simp only [AV.idsLt] at hb
    refine .ep rows i off t b st sz (h.mono (fun _ _ _ => rfl) (fun b off h => im_trunc hb h) (fun _ _ _ => rfl) (fun _ _ h => h)) c ?_
    cases t with
    | none => trivial
    | exact => exact ht
    | own o =>
      simp only [Tk.idsLt, decide_eq_true_eq] at hb
      rcases ht with ⟨l, h1, h2⟩ | ⟨b, l, c, sz, ex, h1, h2⟩
      · exact .inl ⟨l, take_get hb h1, h2⟩
      · exact .inr ⟨b, l, c, sz, ex, take_get hb h1, h2⟩
  | bsl o off len cap b h h1 h2 => exact fun hb => .bsl o off len cap b (take_get (by simpa [AV.idsLt] using hb) h) h1 h2
  | bsl0 o off cap a h2 => exact fun _ => .bsl0 o off cap a h2
  | map o b h => exact fun hb => .map o b (take_get (by simpa [AV.idsLt] using hb) h)
  | fn f first cap vf vc h1 h2 _ _ ih1 ih2 =>
    intro hb
    simp only [AV.idsLt, Bool.and_eq_true] at hb
    exact .fn f first cap vf vc h1 h2 (fun i c v hc hv => ih1 i c v hc hv (belowL_get hb.1 i c hc)) (fun i c v hc hv => ih2 i c v hc hv (belowL_get hb.2 i c hc))

def belowObjs (n : Nat) : List Obj → Bool
  | [] => true
  | x :: xs => x.idsLt n && belowObjs n xs

theorem belowObjs_get {n : Nat} : ∀ {xs : List Obj}, belowObjs n xs = true → ∀ (i : Nat) (x : Obj), xs[i]? = some x → x.idsLt n = true
  | [], _, i, x, h => by simp at h
  | y :: ys, hb, i, x, h => by
    simp only [belowObjs, Bool.and_eq_true] at hb
    cases i with
    | zero => simp at h; subst h; exact hb.1
    | succ i => exact belowObjs_get hb.2 i x (by simpa using h)

theorem take_get' {α : Type} {l : List α} {n o : Nat} {x : α} (h : (l.take n)[o]? = some x) : o < n ∧ l[o]? = some x := by
  rw [List.getElem?_take] at h
  split at h
  · rename_i ho; exact ⟨ho, h⟩
  · cases h

theorem Mem.trunc {G : Ghost} {w : World} {objs extra : List Obj} (hm : Mem G (objs ++ extra) w) (h2 : belowObjs objs.length objs = true) : Mem ⟨G.bl.take objs.length, G.imm⟩ objs w := by
  have hlen : G.bl.length = objs.length + extra.length := by rw [hm.len, List.length_append]
  refine ⟨by simp; omega, ?_, ?_, ?_, hm.immLt⟩
  · intro o x g hx hg
    obtain ⟨hol, hg'⟩ := take_get' hg
    have hx' : (objs ++ extra)[o]? = some x := by rw [List.getElem?_append_left hol]; exact hx
    have hok := hm.ok o x g hx' hg'
    have hb := belowObjs_get h2 o x hx
    cases x with
    | box cells =>
      rcases hok with hok | ⟨b, c, e, e1, e2, e3, e4, e5⟩
      · exact .inl hok
      exact .inr ⟨b, c, e, e1, e2, e3, fun j x v hj hv => ⟨(e4 j x v hj hv).1, (e4 j x v hj hv).2.trunc (belowL_get (by simpa [Obj.idsLt] using hb) j x hj)⟩, e5⟩
    | tok len sz e ex => exact hok
    | map es =>
      obtain ⟨b, ents, clock, e1, e2, e3, e4, e5, e6⟩ := hok
      refine ⟨b, ents, clock, e1, e2, e3, fun i k y e hi he => ⟨(e4 i k y e hi he).1, (e4 i k y e hi he).2.1.trunc ?_, (e4 i k y e hi he).2.2⟩, e5, e6⟩
      have hall : es.all (fun e => e.2.idsLt objs.length) = true := hb
      exact List.all_eq_true.1 hall _ (List.mem_of_getElem? hi)
    | mapB bs clock es =>
      obtain ⟨b, ents, e1, e2, e3, e4, e5, e7, e6⟩ := hok
      refine ⟨b, ents, e1, e2, e3, fun i k y e hi he => ⟨(e4 i k y e hi he).1, (e4 i k y e hi he).2.1.trunc ?_, (e4 i k y e hi he).2.2⟩, e5, e7, e6⟩
      have hall : es.all (fun e => e.2.idsLt objs.length) = true := hb
      exact List.all_eq_true.1 hall _ (List.mem_of_getElem? hi)
    | iter m since seen =>
      obtain ⟨b, mb, e1, e2, e3, e4⟩ := hok
      exact ⟨b, mb, e1, take_get (by simpa [Obj.idsLt] using hb) e2, e3, e4⟩
    | bld e buf =>
      obtain ⟨b, c0, c1, e1, e2, e3, e4, e5, e6⟩ := hok
      exact ⟨b, c0, c1, e1, e2, e3, e4, e5.trunc (by simpa [Obj.idsLt] using hb), e6⟩
    | lin v sz e rows => exact hok
    | dead => exact hok
  · intro o o' g g' b h1 h2; exact hm.inj o o' g g' b (take_get' h1).2 (take_get' h2).2
  · intro o g b h; exact hm.lt o g b (take_get' h).2


end Go.Proofs.YtcpjmkbcefmldaaGreatDoor.AM

/- Code, in abstract terms. -/
namespace Go.Proofs.YtcpjmkbcefmldaaGreatDoor.AM
open Go

def gcond (ops : List Oper) (s : AS) (j : Nat) (want : Bool) : Option Bool :=
  match ops[j]? with
  | some oj =>
    match oj.dst with
    | some d => (match (s.tmps.getD d .any).boolUn with | some (g, b) => some (g && (b == want)) | none => none)
    | none => none
  | none => none

theorem gcond_sound {ops : List Oper} {s : AS} {o : Oper} {G : Ghost} {a : Act} {w : World} {j : Nat} {want g : Bool} (hg : o.guard = some (j, want)) (h : gcond ops s j want = some g) (hs : Sat G s a w) :
    Region.wanted o (yielded ops.toArray a.tmps) = g := by
  unfold gcond at h
  split at h
  · rename_i oj hj
    split at h
    · rename_i d hd
      split at h
      · rename_i c b hb
        cases h
        have hc := hs.raw (.tmp d)
        simp only [AS.raw] at hc
        have hy : c = true → yielded ops.toArray a.tmps j = some b := by
          intro hct
          have hv := boolUn_sound hb hc hct
          simp only [Act.eval] at hv
          have hlt : d < a.tmps.size := by
            rcases Nat.lt_or_ge d a.tmps.size with hl | hl
            · exact hl
            · simp [Array.getD, Nat.not_lt.2 hl, undef] at hv
          have hget : a.tmps[d]? = some (.bool b) := by
            rw [Array.getElem?_eq_getElem hlt]
            simpa [Array.getD, hlt] using hv
          simp [yielded, hj, hd, hget]
        cases c
        · have hn : yielded ops.toArray a.tmps j = none := by
            unfold AV.boolUn at hb
            split at hb
            · cases hb
            · rename_i g' b' he
              cases hb
              rw [he] at hc
              have hu : a.eval (.tmp d) = undef := by
                cases hc with
                | cnd _ _ _ _ h' => exact h' rfl
              simp only [Act.eval] at hu
              rcases Nat.lt_or_ge d a.tmps.size with hl | hl
              · have hget : a.tmps[d]? = some undef := by
                  rw [Array.getElem?_eq_getElem hl]
                  simpa [Array.getD, hl] using hu
                simp [yielded, hj, hd, hget, undef]
              · simp [yielded, hj, hd, Array.getElem?_eq_none hl]
            · rename_i he
              cases hb
              rw [he] at hc
              have hu : a.eval (.tmp d) = undef := by
                cases hc with
                | cnd _ _ _ _ h' => exact h' rfl
              simp only [Act.eval] at hu
              rcases Nat.lt_or_ge d a.tmps.size with hl | hl
              · have hget : a.tmps[d]? = some undef := by
                  rw [Array.getElem?_eq_getElem hl]
                  simpa [Array.getD, hl] using hu
                simp [yielded, hj, hd, hget, undef]
              · simp [yielded, hj, hd, Array.getElem?_eq_none hl]
            · cases hb
          simp [Region.wanted, hg, hn]
        · simp [Region.wanted, hg, hy rfl]
      · cases h
    · cases h
  · cases h

def AV.split : AV → Bool × AV
  | .cnd g x => (g, x)
  | x => (true, x)

def intO (op : BinOp) (q : IntKind) (a b : Int) : Option Value :=
  match op with
  | .add => some (.int q (q.wrap (a + b)))
  | .sub => some (.int q (q.wrap (a - b)))
  | .eql => some (.bool (decide (a = b)))
  | .neq => some (.bool (!decide (a = b)))
  | .lss => some (.bool (decide (a < b)))
  | .leq => some (.bool (decide (a ≤ b)))
  | .gtr => some (.bool (decide (b < a)))
  | .geq => some (.bool (decide (b ≤ a)))
  | _ => none

def strO (op : BinOp) (a b : ByteArray) : Option Value :=
  match op with
  | .eql => some (.bool (decide (a = b)))
  | .neq => some (.bool (!decide (a = b)))
  | .lss => some (.bool (lessB a b))
  | .leq => some (.bool (!lessB b a))
  | .gtr => some (.bool (lessB b a))
  | .geq => some (.bool (!lessB a b))
  | _ => none

def lenO (P : Program) (t : TypeId) (x : Bool × AV) : Option (Bool × AV) :=
  match ti P t with
  | some i =>
    match i.desc, x with
    | .string, (g, .v (.string s)) => some (g, .v (.int .i64 s.size))
    | .slice _, (g, .sl rows _) => some (g, .v (.int .i64 rows.length))
    | .slice _, (g, .v (.slice none 0 0)) => some (g, .v (.int .i64 0))
    | _, _ => none
  | none => none

theorem lenO_sound {P : Program} {t : TypeId} {x : Bool × AV} {g : Bool} {y : AV} (h : lenO P t x = some (g, y)) : x.1 = g ∧ lenAV P t x.2 (fun r => r = y) := by
  unfold lenO at h
  unfold lenAV
  split at h
  · rename_i i hi
    simp only [hi]
    split at h
    · rename_i g' s hd
      simp only [Option.some.injEq, Prod.mk.injEq] at h
      simp only [hd]
      exact h
    · rename_i e g' rows tk hd
      simp only [Option.some.injEq, Prod.mk.injEq] at h
      simp only [hd]
      exact ⟨h.1, fun _ => h.2⟩
    · rename_i e g' hd
      simp only [Option.some.injEq, Prod.mk.injEq] at h
      simp only [hd]
      exact h
    · cases h
  · cases h

def totO (P : Program) (s : AS) : Op → Option (Bool × AV)
  | .move x => some ((s.raw x).split.1, (s.raw x).split.2)
  | .binOp op _ x y _ =>
    match (s.raw x).split, (s.raw y).split with
    | (g, .v (.int q a)), (h, .v (.int q' b)) => if q = q' then (intO op q a b).map fun r => (g && h, .v r) else none
    | (g, .v (.string a)), (h, .v (.string b)) => (strO op a b).map fun r => (g && h, .v r)
    | _, _ => none
  | .unOp .not _ x => (match (s.raw x).split with | (g, .v (.bool b)) => some (g, .v (.bool (!b))) | _ => none)
  | .pick c x y =>
    match (s.raw c).split, (s.raw x).boolUn, (s.raw y).boolUn with
    | (g, .v (.bool t)), some (h, p), some (i, q) => some (g && (bif t then h else i), .v (.bool (bif t then p else q)))
    | _, _, _ => none
  | .call c =>
    match c.callee, c.args.toList, c.argTypes.toList with
    | .builtin .len, [x], [t] => lenO P t (s.raw x).split
    | _, _, _ => none
  | _ => none

theorem split_sound {G : Ghost} {w : World} {x : AV} {v : Value} (h : Conc G w x v) (hg : x.split.1 = true) : Conc G w x.split.2 v := by
  cases x with
  | cnd g y => cases h with | cnd _ _ _ h _ => exact h hg
  | _ => exact h

theorem intO_sound {P : Program} {op : BinOp} {q : IntKind} {a b : Int} {r : Value} (h : intO op q a b = some r) (k : Value → Prop) (hk : k r) : sint op q a b k := by
  cases op <;> simp only [intO] at h <;> first | (cases h; done) | (cases h; exact hk)

theorem strO_sound {op : BinOp} {a b : ByteArray} {r : Value} (h : strO op a b = some r) (k : Value → Prop) (hk : k r) : sstr op a b k := by
  cases op <;> simp only [strO] at h <;> first | (cases h; done) | (cases h; exact hk)

theorem tot_sound {P : Program} {s : AS} {G : Ghost} {a : Act} {w : World} {op : Op} {g : Bool} {y : AV} (h : totO P s op = some (g, y)) (hs : Sat G s a w) (hg : g = true) {o : Oper} (ho : o.op = op)
    {next : Act → World → Prop} {Q : Exit → Act → World → Prop} (hk : ∀ v, Conc G w y v → next (a.put o.dst v) w) : o.wp P a w next Q := by
  unfold totO at h
  split at h
  · rename_i x
    simp only [Option.some.injEq, Prod.mk.injEq] at h
    obtain ⟨h1, h2⟩ := h
    refine op_value (x := pure (a.eval x)) (by simp [execOp, ho]) rfl (hk _ ?_)
    rw [← h2]
    exact split_sound (hs.raw x) (by rw [h1]; exact hg)
  · rename_i bop t x z tz
    split at h
    · rename_i gx q i gz q' j e1 e2
      split at h
      · rename_i hq
        subst hq
        cases hr : intO bop q i j with
        | none => simp [hr] at h
        | some r =>
          simp only [hr, Option.map_some, Option.some.injEq, Prod.mk.injEq] at h
          obtain ⟨h1, h2⟩ := h
          rw [← h1, Bool.and_eq_true] at hg
          have k1 := split_sound (hs.raw x) (by rw [e1]; exact hg.1)
          have k2 := split_sound (hs.raw z) (by rw [e2]; exact hg.2)
          rw [e1] at k1; rw [e2] at k2
          have hbin : sbin bop (.int q i) (.int q j) (fun v => v = r) := by
            have := intO_sound (P := P) hr (fun v => v = r) rfl
            cases bop <;> first | exact ⟨rfl, this⟩ | (simp [intO] at hr; done)
          have e3 := conc_v k1
          have e4 := conc_v k2
          obtain ⟨v, hv1, hv2, hv3⟩ := sbin_sound (P := P) hbin t x z w
          refine op_value (x := (do eqGuard bop t x z (a.eval x) (a.eval z); binOp bop t (a.eval x) (a.eval z))) (by simp [execOp, ho]) (by rw [e3, e4]; exact hv1) (hk _ ?_)
          rw [← h2, ← hv3]
          exact .v _ hv2
      · cases h
    · rename_i gx i gz j e1 e2
      cases hr : strO bop i j with
      | none => simp [hr] at h
      | some r =>
        simp only [hr, Option.map_some, Option.some.injEq, Prod.mk.injEq] at h
        obtain ⟨h1, h2⟩ := h
        rw [← h1, Bool.and_eq_true] at hg
        have k1 := split_sound (hs.raw x) (by rw [e1]; exact hg.1)
        have k2 := split_sound (hs.raw z) (by rw [e2]; exact hg.2)
        rw [e1] at k1; rw [e2] at k2
        have hbin : sbin bop (.string i) (.string j) (fun v => v = r) := strO_sound hr (fun v => v = r) rfl
        have e3 := conc_v k1
        have e4 := conc_v k2
        obtain ⟨v, hv1, hv2, hv3⟩ := sbin_sound (P := P) hbin t x z w
        refine op_value (x := (do eqGuard bop t x z (a.eval x) (a.eval z); binOp bop t (a.eval x) (a.eval z))) (by simp [execOp, ho]) (by rw [e3, e4]; exact hv1) (hk _ ?_)
        rw [← h2, ← hv3]
        exact .v _ hv2
    · cases h
  · rename_i t x
    split at h
    · rename_i gx b e1
      simp only [Option.some.injEq, Prod.mk.injEq] at h
      obtain ⟨h1, h2⟩ := h
      have k1 := split_sound (hs.raw x) (by rw [e1, h1]; exact hg)
      rw [e1] at k1
      have e3 := conc_v k1
      refine op_value (x := Op.unary .not (a.eval x)) (by simp [execOp, ho]) (by rw [e3]; rfl) (hk _ ?_)
      rw [← h2]
      exact .v _ rfl
    · cases h
  · rename_i c x z
    split at h
    · rename_i gc t p1 p q1 q e1 e2 e3
      simp only [Option.some.injEq, Prod.mk.injEq] at h
      obtain ⟨h1, h2⟩ := h
      rw [← h1, Bool.and_eq_true] at hg
      have k1 := split_sound (hs.raw c) (by rw [e1]; exact hg.1)
      rw [e1] at k1
      have hc := conc_v k1
      refine op_value (x := pure (if t then a.eval x else a.eval z)) (by cases t <;> simp [execOp, ho, hc, asBool]) rfl (hk _ ?_)
      rw [← h2]
      cases t
      · have := boolUn_sound e3 (hs.raw z) hg.2
        simp only [Bool.false_eq_true, if_false, cond_false]
        rw [this]; exact .v _ rfl
      · have := boolUn_sound e2 (hs.raw x) hg.2
        simp only [if_true, cond_true]
        rw [this]; exact .v _ rfl
    · cases h
  · rename_i c
    split at h
    · rename_i x t hce hca hct
      obtain ⟨k0, k1⟩ := lenO_sound h
      have k2 := split_sound (hs.raw x) (by rw [k0]; exact hg)
      obtain ⟨r, z, h1, h2, h3⟩ := len_sound (P := P) c.argTypes o.type k1 k2 (by rw [← Array.getElem?_toList, hct]; rfl)
      have hargs : c.args.map a.eval = #[a.eval x] := by
        rw [← Array.toArray_toList (xs := c.args), hca]; simp
      refine op_value (x := Builtin.len_ c.argTypes o.type #[a.eval x]) ?_ h1 (hk _ ?_)
      · simp only [execOp, ho, resolve, hce, hargs]
        rfl
      · rw [← h3]; exact h2
    · cases h
  · cases h

theorem tot_run {P : Program} {s : AS} {G : Ghost} {a : Act} {w : World} {op : Op} {g : Bool} {y : AV} (h : totO P s op = some (g, y)) (hs : Sat G s a w) (hg : g = true) {o : Oper} (ho : o.op = op)
    {next : Act → Prop} (hk : ∀ v, Conc G w y v → next (a.put o.dst v)) : ∃ u, (execOp a.eval o).run P w = .ok (.value u) w ∧ next (a.put o.dst u) := by
  unfold totO at h
  split at h
  · rename_i x
    simp only [Option.some.injEq, Prod.mk.injEq] at h
    obtain ⟨h1, h2⟩ := h
    refine op_value' (x := pure (a.eval x)) (by simp [execOp, ho]) rfl (hk _ ?_)
    rw [← h2]
    exact split_sound (hs.raw x) (by rw [h1]; exact hg)
  · rename_i bop t x z tz
    split at h
    · rename_i gx q i gz q' j e1 e2
      split at h
      · rename_i hq
        subst hq
        cases hr : intO bop q i j with
        | none => simp [hr] at h
        | some r =>
          simp only [hr, Option.map_some, Option.some.injEq, Prod.mk.injEq] at h
          obtain ⟨h1, h2⟩ := h
          rw [← h1, Bool.and_eq_true] at hg
          have k1 := split_sound (hs.raw x) (by rw [e1]; exact hg.1)
          have k2 := split_sound (hs.raw z) (by rw [e2]; exact hg.2)
          rw [e1] at k1; rw [e2] at k2
          have hbin : sbin bop (.int q i) (.int q j) (fun v => v = r) := by
            have := intO_sound (P := P) hr (fun v => v = r) rfl
            cases bop <;> first | exact ⟨rfl, this⟩ | (simp [intO] at hr; done)
          have e3 := conc_v k1
          have e4 := conc_v k2
          obtain ⟨v, hv1, hv2, hv3⟩ := sbin_sound (P := P) hbin t x z w
          refine op_value' (x := (do eqGuard bop t x z (a.eval x) (a.eval z); binOp bop t (a.eval x) (a.eval z))) (by simp [execOp, ho]) (by rw [e3, e4]; exact hv1) (hk _ ?_)
          rw [← h2, ← hv3]
          exact .v _ hv2
      · cases h
    · rename_i gx i gz j e1 e2
      cases hr : strO bop i j with
      | none => simp [hr] at h
      | some r =>
        simp only [hr, Option.map_some, Option.some.injEq, Prod.mk.injEq] at h
        obtain ⟨h1, h2⟩ := h
        rw [← h1, Bool.and_eq_true] at hg
        have k1 := split_sound (hs.raw x) (by rw [e1]; exact hg.1)
        have k2 := split_sound (hs.raw z) (by rw [e2]; exact hg.2)
        rw [e1] at k1; rw [e2] at k2
        have hbin : sbin bop (.string i) (.string j) (fun v => v = r) := strO_sound hr (fun v => v = r) rfl
        have e3 := conc_v k1
        have e4 := conc_v k2
        obtain ⟨v, hv1, hv2, hv3⟩ := sbin_sound (P := P) hbin t x z w
        refine op_value' (x := (do eqGuard bop t x z (a.eval x) (a.eval z); binOp bop t (a.eval x) (a.eval z))) (by simp [execOp, ho]) (by rw [e3, e4]; exact hv1) (hk _ ?_)
        rw [← h2, ← hv3]
        exact .v _ hv2
    · cases h
  · rename_i t x
    split at h
    · rename_i gx b e1
      simp only [Option.some.injEq, Prod.mk.injEq] at h
      obtain ⟨h1, h2⟩ := h
      have k1 := split_sound (hs.raw x) (by rw [e1, h1]; exact hg)
      rw [e1] at k1
      have e3 := conc_v k1
      refine op_value' (x := Op.unary .not (a.eval x)) (by simp [execOp, ho]) (by rw [e3]; rfl) (hk _ ?_)
      rw [← h2]
      exact .v _ rfl
    · cases h
  · rename_i c x z
    split at h
    · rename_i gc t p1 p q1 q e1 e2 e3
      simp only [Option.some.injEq, Prod.mk.injEq] at h
      obtain ⟨h1, h2⟩ := h
      rw [← h1, Bool.and_eq_true] at hg
      have k1 := split_sound (hs.raw c) (by rw [e1]; exact hg.1)
      rw [e1] at k1
      have hc := conc_v k1
      refine op_value' (x := pure (if t then a.eval x else a.eval z)) (by cases t <;> simp [execOp, ho, hc, asBool]) rfl (hk _ ?_)
      rw [← h2]
      cases t
      · have := boolUn_sound e3 (hs.raw z) hg.2
        simp only [Bool.false_eq_true, if_false, cond_false]
        rw [this]; exact .v _ rfl
      · have := boolUn_sound e2 (hs.raw x) hg.2
        simp only [if_true, cond_true]
        rw [this]; exact .v _ rfl
    · cases h
  · rename_i c
    split at h
    · rename_i x t hce hca hct
      obtain ⟨k0, k1⟩ := lenO_sound h
      have k2 := split_sound (hs.raw x) (by rw [k0]; exact hg)
      obtain ⟨r, z, h1, h2, h3⟩ := len_sound (P := P) c.argTypes o.type k1 k2 (by rw [← Array.getElem?_toList, hct]; rfl)
      have hargs : c.args.map a.eval = #[a.eval x] := by
        rw [← Array.toArray_toList (xs := c.args), hca]; simp
      refine op_value' (x := Builtin.len_ c.argTypes o.type #[a.eval x]) ?_ h1 (hk _ ?_)
      · simp only [execOp, ho, resolve, hce, hargs]
        rfl
      · rw [← h3]; exact h2
    · cases h
  · cases h

def guardAV (P : Program) (ops : List Oper) (s : AS) (o : Oper) (now : AS → Prop) (run skip : Prop) : Prop :=
  match o.guard with
  | none => run
  | some (j, want) =>
    match gcond ops s j want with
    | some g =>
      match totO P s o.op with
      | some (h, y) => (g = true → h = true) ∧ now (s.put o.dst (.cnd g y))
      | none => (g = true → run) ∧ (g = false → skip)
    | none => False

def aops (P : Program) (ops : List Oper) : List Oper → AS → (AS → Prop) → (AV → List Obj → Prop) → Prop
  | [], s, K, _ => K s
  | o :: rest, s, K, E => guardAV P ops s o (fun s' => aops P ops rest s' K E) (aop P o s (fun s' => aops P ops rest s' K E) E) (aops P ops rest (s.put o.dst (.cnd false .any)) K E)

def aopsQ (P : Program) (ops : List Oper) : List Oper → AS → (AS → Prop) → Prop
  | [], s, K => K s
  | o :: rest, s, K => isQ o.op = true ∧ guardAV P ops s o (fun s' => aopsQ P ops rest s' K) (aop P o s (fun s' => aopsQ P ops rest s' K) (fun _ _ => False)) (aopsQ P ops rest (s.put o.dst (.cnd false .any)) K)

theorem aopsQ_sound {P : Program} {ops : List Oper} {K : AS → Prop} {G : Ghost} {w : World} {Q : Act → Prop} (hQ : ∀ s a, K s → Sat G s a w → Q a) :
    ∀ (l : List Oper) (s : AS) (a : Act), aopsQ P ops l s K → Sat G s a w → wpQuiet P ops.toArray (fun w' => w' = w) Q l a
  | [], s, a, h, hs => hQ s a h hs
  | o :: rest, s, a, h, hs => by
    obtain ⟨hq, h⟩ := h
    have hquiet : ∀ (Ks : AS → Prop), (∀ s' a', Ks s' → Sat G s' a' w → wpQuiet P ops.toArray (fun w' => w' = w) Q rest a') → (∃ u, (execOp a.eval o).run P w = .ok (.value u) w ∧ ReadOk Ks G w (a.put o.dst u)) → o.quiet P a (fun w' => w' = w) (wpQuiet P ops.toArray (fun w' => w' = w) Q rest) := by
      rintro Ks hKs ⟨u, h1, s', h2, h3⟩
      refine ⟨u, ?_, hKs s' _ h2 h3⟩
      rintro w' rfl
      unfold Oper.quietAt
      rw [h1]
      exact ⟨rfl, rfl⟩
    have hrun : aop P o s (fun s' => aopsQ P ops rest s' K) (fun _ _ => False) → o.quiet P a (fun w' => w' = w) (wpQuiet P ops.toArray (fun w' => w' = w) Q rest) := fun h =>
      hquiet _ (fun s' a' h1 h2 => aopsQ_sound hQ rest s' a' h1 h2) (aopQ_sound hq h hs)
    simp only [guardAV] at h
    unfold wpQuiet
    split at h
    · rename_i hg
      rw [if_pos (by simp [Region.wanted, hg])]
      exact hrun h
    · rename_i j want hg
      split at h
      · rename_i g hgc
        have hw := gcond_sound hg hgc hs
        rw [hw]
        split at h
        · rename_i c y ht
          obtain ⟨hh, h⟩ := h
          cases g
          · rw [if_neg (by simp)]
            exact aopsQ_sound hQ rest _ _ h (hs.put0 o.dst (.cnd _ _ _ (fun h => by cases h) (fun _ => rfl)))
          · rw [if_pos rfl]
            refine hquiet (fun s' => aopsQ P ops rest s' K) (fun s' a' h1 h2 => aopsQ_sound hQ rest s' a' h1 h2) (tot_run ht hs (hh rfl) rfl fun v hv => ?_)
            exact ⟨_, h, hs.put0 o.dst (.cnd _ _ _ (fun _ => hv) (fun h => by cases h))⟩
        · obtain ⟨h1, h2⟩ := h
          cases g
          · rw [if_neg (by simp)]
            exact aopsQ_sound hQ rest _ _ (h2 rfl) (hs.put0 o.dst (.cnd _ _ _ (fun h => by cases h) (fun _ => rfl)))
          · rw [if_pos rfl]
            exact hrun (h1 rfl)
      · exact h.elim

structure From (G0 : Ghost) (w0 : World) (G : Ghost) (s : AS) (a : Act) (w : World) : Prop where
  step : Step G0 w0 G w
  sat : Sat G s a w

theorem aops_sound_tl {P : Program} {ops : List Oper} {G0 : Ghost} {w0 : World} {K : AS → Prop} {E : AV → List Obj → Prop} {Q : Exit → Act → World → Prop} {tl : List Oper}
    (hK : ∀ s G a w, K s → From G0 w0 G s a w → wpList P ops.toArray Q tl a w)
    (hE : ∀ x objs G v a w, E x objs → a.defers = [] → Mem G objs w → Step G0 w0 G w → Conc G w x v → Q (.panic [{ v, recovered := false }]) a w) :
    ∀ (l : List Oper) (s : AS) (G : Ghost) (a : Act) (w : World), aops P ops l s K E → From G0 w0 G s a w → wpList P ops.toArray Q (l ++ tl) a w
  | [], s, G, a, w, h, hf => hK s G a w h hf
  | o :: rest, s, G, a, w, h, hf => by
    refine wpList_step fun K' hK' => ?_
    have hrun : aop P o s (fun s' => aops P ops rest s' K E) E → o.wp P a w K' Q := by
      intro hrun
      have := aop_sound (Q := Q) hrun hf.sat (fun x objs' G' v w' h1 h2 h3 h4 => hE x objs' G' v a w' h1 hf.sat.defers h2 (hf.step.trans h3) h4)
      unfold Oper.wp at this ⊢
      generalize (execOp a.eval o).run P w = r at this ⊢
      have hnext : ∀ a' w', NextOk (fun s' => aops P ops rest s' K E) G w a' w' → K' a' w' := by
        rintro a' w' ⟨s', G', h1, h2, h3⟩
        exact hK' a' w' (aops_sound_tl hK hE rest s' G' a' w' h1 ⟨hf.step.trans h3, h2⟩)
      cases r with
      | ok nx w' =>
        cases nx <;> simp only [Oper.upon] at this ⊢ <;> first | exact this | exact hnext _ _ this | skip
        · refine this.mono ?_
          intro e w'' he
          cases e with
          | returned v => exact hnext _ _ he
          | panicked chain => exact he
          | outgrown => exact he
        · exact this.mono fun v w'' he => hnext _ _ he
      | halt hh w' => cases hh <;> simp only [Oper.upon] at this ⊢ <;> exact this
    simp only [aops, guardAV] at h
    split at h
    · rename_i hg
      rw [if_pos (by simp [Region.wanted, hg])]
      exact hrun h
    · rename_i j want hg
      split at h
      · rename_i g hgc
        have hw := gcond_sound hg hgc hf.sat
        rw [hw]
        split at h
        · rename_i c y ht
          obtain ⟨hh, h⟩ := h
          cases g
          · rw [if_neg (by simp)]
            exact hK' _ _ (aops_sound_tl hK hE rest _ G _ _ h ⟨hf.step, hf.sat.put0 o.dst (.cnd _ _ _ (fun h => by cases h) (fun _ => rfl))⟩)
          · rw [if_pos rfl]
            exact tot_sound ht hf.sat (hh rfl) rfl fun v hv => hK' _ _ (aops_sound_tl hK hE rest _ G _ _ h ⟨hf.step, hf.sat.put0 o.dst (.cnd _ _ _ (fun _ => hv) (fun h => by cases h))⟩)
        · obtain ⟨h1, h2⟩ := h
          cases g
          · rw [if_neg (by simp)]
            exact hK' _ _ (aops_sound_tl hK hE rest _ G _ _ (h2 rfl) ⟨hf.step, hf.sat.put0 o.dst (.cnd _ _ _ (fun h => by cases h) (fun _ => rfl))⟩)
          · rw [if_pos rfl]
            exact hrun (h1 rfl)
      · exact h.elim
theorem aops_sound {P : Program} {ops : List Oper} {G0 : Ghost} {w0 : World} {K : AS → Prop} {E : AV → List Obj → Prop} {Q : Exit → Act → World → Prop}
    (hK : ∀ s G a w, K s → From G0 w0 G s a w → Q .normal a w)
    (hE : ∀ x objs G v a w, E x objs → a.defers = [] → Mem G objs w → Step G0 w0 G w → Conc G w x v → Q (.panic [{ v, recovered := false }]) a w)
    (l : List Oper) (s : AS) (G : Ghost) (a : Act) (w : World) (h : aops P ops l s K E) (hf : From G0 w0 G s a w) : wpList P ops.toArray Q l a w := by
  have := aops_sound_tl (tl := []) (Q := Q) hK hE l s G a w h hf
  rwa [List.append_nil] at this

def YA (P : Program) (ops : Array Oper) (o : Oper) (s : AS) (y : AV) : Prop :=
  match o.guard with
  | none => aop P o (s.keep (o.looksAt ops)) (fun s1 => s1 = (s.keep (o.looksAt ops)).put o.dst y) (fun _ _ => False)
  | some (j, want) => ∃ g v, y = .cnd g v ∧ gcond ops.toList (s.keep (o.looksAt ops)) j want = some g ∧
      ((g = true → aop P o (s.keep (o.looksAt ops)) (fun s1 => s1 = (s.keep (o.looksAt ops)).put o.dst v) (fun _ _ => False)) ∨ ∃ h, totO P (s.keep (o.looksAt ops)) o.op = some (h, v) ∧ (g = true → h = true))

theorem YA.keep {P : Program} {ops : Array Oper} {o : Oper} {s s' : AS} {y : AV} (h : YA P ops o s y) (e : s.keep (o.looksAt ops) = s'.keep (o.looksAt ops)) : YA P ops o s' y := by
  unfold YA at *; rw [← e]; exact h

theorem Sat.cndT {G : Ghost} {s : AS} {a : Act} {w : World} {d : Option Nat} {v : AV} (h : Sat G (s.put d v) a w) : Sat G (s.put d (.cnd true v)) a w := by
  refine ⟨h.mem, ?_, h.defers⟩
  cases d with
  | none => exact h.tmps
  | some d =>
    refine ⟨by have := h.tmps.1; simpa [AS.put] using this, fun i x u hx hu => ?_⟩
    simp only [AS.put] at hx
    rw [List.getElem?_set] at hx
    by_cases hd : d = i
    · subst hd
      simp only [if_true] at hx
      split at hx
      · rename_i hl
        cases hx
        refine .cnd _ _ _ (fun _ => h.tmps.2 d v u ?_ hu) (fun h => by cases h)
        simp only [AS.put]
        rw [List.getElem?_set, if_pos rfl, if_pos hl]
      · cases hx
    · rw [if_neg hd] at hx
      refine h.tmps.2 i x u ?_ hu
      simp only [AS.put]
      rw [List.getElem?_set, if_neg hd]; exact hx

theorem wp_put {P : Program} {o : Oper} {a : Act} {w : World} {K : Act → World → Prop} {Q : Exit → Act → World → Prop} (hK : ∀ a' w', K a' w' → a'.defers = []) (h : o.wp P a w K Q) :
    o.wp P a w (fun a' w' => (∃ v, a' = a.put o.dst v) ∧ K a' w') Q := by
  unfold Oper.wp at *
  generalize (execOp a.eval o).run P w = r at *
  cases r with
  | ok n w' =>
    cases n <;> simp only [Oper.upon] at * <;> first | exact h | skip
    case value => exact ⟨⟨_, rfl⟩, h⟩
    case skip => exact ⟨⟨_, rfl⟩, h⟩
    case defer =>
      have := hK _ _ h
      cases hd : o.dst <;> simp [Act.put, hd] at this
    case enter =>
      refine h.mono ?_
      intro e w'' he
      cases e with
      | returned v => exact ⟨⟨_, rfl⟩, he⟩
      | panicked c => exact he
      | outgrown => exact he
    case row => exact h.mono fun v w'' he => ⟨⟨_, rfl⟩, he⟩
  | halt x w' => cases x <;> simp only [Oper.upon] at * <;> exact h

theorem kept_run {P : Program} {L : List Nat} {o : Oper} {G : Ghost} {s : AS} {a : Act} {w : World} {y : AV} {K' : Act → World → Prop} {Q : Exit → Act → World → Prop} (h : aop P o (s.keep L) (fun s1 => s1 = (s.keep L).put o.dst y) (fun _ _ => False)) (hs : Sat G s a w)
    (hK : ∀ G' a' w', Sat G' (s.put o.dst y) a' w' → Step G w G' w' → K' a' w') : o.wp P a w K' Q := by
  have h1 := aop_sound (Q := Q) h (keep_sat hs _) (fun x objs' G' v w' hf => hf.elim)
  have h2 := wp_put (fun a' w' hn => by obtain ⟨s', G', _, hs', _⟩ := hn; exact hs'.defers) h1
  refine Oper.wp_mono ?_ h2
  rintro a' w' ⟨⟨v, rfl⟩, s', G', rfl, hs', hst⟩
  refine hK G' _ w' ⟨hs'.mem, ?_, hs'.defers⟩ hst
  have hm := hs.tmps.mono hst.ext
  cases hd : o.dst with
  | none => simpa [AS.put, Act.put, hd] using hm
  | some d =>
    rw [hd] at hs'
    have ht := hs'.tmps
    simp only [AS.put, Act.put, Array.toList_setIfInBounds] at ht ⊢
    refine ⟨by simpa using hm.1, fun i x u hx hu => ?_⟩
    by_cases hdi : d = i
    · subst hdi
      refine ht.2 d x u ?_ hu
      rw [List.getElem?_set] at hx ⊢
      simp only [if_true] at hx ⊢
      split at hx
      · rename_i hl
        rw [if_pos (by simpa [AS.keep, keepL_length] using hl)]; exact hx
      · cases hx
    · rw [List.getElem?_set, if_neg hdi] at hx hu
      exact hm.2 i x u hx hu

theorem YA.sound {P : Program} {ops : Array Oper} {o : Oper} {G : Ghost} {s : AS} {a : Act} {w : World} {y : AV} {K' : Act → World → Prop} {Q : Exit → Act → World → Prop} (h : YA P ops o s y) (hs : Sat G s a w)
    (hK : ∀ G' a' w', Sat G' (s.put o.dst y) a' w' → Step G w G' w' → K' a' w') : if Region.wanted o (yielded ops a.tmps) then o.wp P a w K' Q ∨ (o.asks P a w ∧ LetsOut Q) else K' (a.put o.dst undef) w := by
  unfold YA at h
  split at h
  · rename_i hg
    rw [if_pos (by simp [Region.wanted, hg])]
    exact .inl (kept_run h hs hK)
  · rename_i j want hg
    obtain ⟨g, v, rfl, hc, hv⟩ := h
    have hw := gcond_sound hg hc (keep_sat hs _)
    rw [show yielded ops a.tmps = yielded ops.toList.toArray a.tmps from rfl, hw]
    cases g
    · rw [if_neg (by simp)]
      exact hK G _ w (hs.put0 o.dst (.cnd _ _ _ (fun h => by cases h) (fun _ => rfl))) (Step.refl G w)
    · rw [if_pos rfl]
      left
      rcases hv with hv | ⟨h, ht, hi⟩
      · exact kept_run (hv rfl) hs fun G' a' w' k1 k2 => hK G' a' w' k1.cndT k2
      · exact tot_sound ht (keep_sat hs _) (hi rfl) rfl fun u hu => hK G _ w (hs.put0 o.dst (.cnd _ _ _ (fun _ => hu) (fun h => by cases h))) (Step.refl G w)

def aAny (P : Program) (ops : Array Oper) (Q : AS → Prop) : Nat → Array Bool → AS → Prop
  | 0, listed, s => Region.ready .any ops listed = [] ∧ Q s
  | fuel + 1, listed, s => (Region.ready .any ops listed = [] → Q s) ∧
      ∀ i ∈ Region.ready .any ops listed, ∃ o y, ops[i]? = some o ∧ YA P ops o s y ∧ aAny P ops Q fuel (listed.setIfInBounds i true) (s.put o.dst y)

theorem aAny_sound {P : Program} {ops : Array Oper} {Q : AS → Prop} {Q' : Exit → Act → World → Prop} {G0 : Ghost} {w0 : World} (hQ : ∀ G s a w, Q s → Step G0 w0 G w → Sat G s a w → Q' .normal a w) :
    ∀ (fuel : Nat) (listed : Array Bool) (G : Ghost) (s : AS) (a : Act) (w : World), aAny P ops Q fuel listed s → Step G0 w0 G w → Sat G s a w → wpAny P .any ops Q' fuel listed a w
  | 0, listed, G, s, a, w, h, hst, hs => ⟨h.1, hQ G s a w h.2 hst hs⟩
  | fuel + 1, listed, G, s, a, w, h, hst, hs => by
    refine ⟨fun h0 => hQ G s a w (h.1 h0) hst hs, fun i hi => ?_⟩
    obtain ⟨o, y, ho, hy, hrest⟩ := h.2 i hi
    unfold wpOp
    simp only [ho]
    exact hy.sound hs fun G' a' w' hs' hst' => aAny_sound hQ fuel _ G' _ a' w' hrest (hst.trans hst') hs'

theorem aAny_first {P : Program} {ops : Array Oper} {Q : AS → Prop} {i : Nat} {oi : Oper} {v : AV} (hi : ops[i]? = some oi) :
    ∀ (fuel : Nat) (listed : Array Bool) (s : AS),
      (∀ j oj, ops[j]? = some oj → j ≠ i → listed.getD j true = false → (∀ e ∈ oj.after, Region.binds .any e = true → e.on ≠ i) → oi.apart ops oj = true) →
      i ∈ Region.ready .any ops listed → YA P ops oi s v →
      aAny P ops Q fuel (listed.setIfInBounds i true) (s.put oi.dst v) → aAny P ops Q (fuel + 1) listed s := by
  intro fuel
  induction fuel with
  | zero =>
    intro listed s _ hr hy H
    refine ⟨fun h => (by rw [h] at hr; cases hr), fun j hj => ?_⟩
    by_cases hji : j = i
    · subst hji; exact ⟨oi, v, hi, hy, H⟩
    · have := ready_mono hj hji
      rw [H.1] at this
      cases this
  | succ fuel ih =>
    intro listed s hfree hr hy H
    refine ⟨fun h => (by rw [h] at hr; cases hr), fun j hj => ?_⟩
    by_cases hji : j = i
    · subst hji; exact ⟨oi, v, hi, hy, H⟩
    · obtain ⟨oj, y, hoj', hyj, hrest⟩ := H.2 j (ready_mono hj hji)
      obtain ⟨hjun, oj2, hoj, hall⟩ := mem_ready.1 hj
      rw [hoj'] at hoj; cases hoj
      have hnot : ∀ e ∈ oj.after, Region.binds .any e = true → e.on ≠ i := fun e he hb heq => by
        have h1 := hall e he hb
        have h0 := (mem_ready.1 hr).1
        rw [heq] at h1
        rcases Nat.lt_or_ge i listed.size with h' | h'
        · simp [h'] at h0 h1; rw [h0] at h1; cases h1
        · simp [Array.getElem?_eq_none h'] at h1
      obtain ⟨h1, h2, h3⟩ := Oper.apart_spec (hfree j oj hoj' hji hjun hnot)
      have hfree' : ∀ k ok, ops[k]? = some ok → k ≠ i → (listed.setIfInBounds j true).getD k true = false →
          (∀ e ∈ ok.after, Region.binds .any e = true → e.on ≠ i) → oi.apart ops ok = true := fun k ok hk hki hun hno => by
        refine hfree k ok hk hki ?_ hno
        by_cases hjk : j = k
        · subst hjk; exact hjun
        · rw [getD_set_ne true hjk] at hun; exact hun
      have k1 : YA P ops oj s y := hyj.keep (keep_put h1)
      have k2 : YA P ops oi (s.put oj.dst y) v := hy.keep (keep_put h3).symm
      refine ⟨oj, y, hoj', k1, ih (listed.setIfInBounds j true) (s.put oj.dst y) hfree' (ready_mono hr (Ne.symm hji)) k2 ?_⟩
      rw [Array.setIfInBounds_comm _ _ hji]
      rw [← put_comm h2]
      exact hrest

def aopsC (P : Program) (ops : Array Oper) : List Oper → AS → (AS → Prop) → Prop
  | [], s, K => K s
  | o :: rest, s, K => ∃ y, YA P ops o s y ∧ aopsC P ops rest (s.put o.dst y) K

theorem aAny_lex {P : Program} {ops : Array Oper} {Q : AS → Prop} : ∀ (l : List Oper) (k : Nat) (listed : Array Bool) (s : AS), (∀ j, l[j]? = ops[k + j]?) →
    Region.lexFrom .any ops l.length k listed = true → aopsC P ops l s Q → aAny P ops Q l.length listed s
  | [], _, _, _, _, hB, h => ⟨by simpa [Region.lexFrom] using hB, h⟩
  | o :: l, k, listed, s, hl, hB, h => by
    have h0 : ops[k]? = some o := by simpa using (hl 0).symm
    simp only [List.length_cons, Region.lexFrom, Bool.and_eq_true] at hB
    obtain ⟨⟨hr, hf⟩, hB'⟩ := hB
    obtain ⟨y, hy, hK⟩ := h
    exact aAny_first h0 l.length listed s (Region.free_spec h0 hf) (by simpa using hr) hy
      (aAny_lex l (k + 1) _ _ (fun j => by have := hl (j + 1); simpa [Nat.add_assoc, Nat.add_comm 1 j] using this) hB' hK)

theorem region_comm {P : Program} {ops : Array Oper} {Q : AS → Prop} {Q' : Exit → Act → World → Prop} {G0 G : Ghost} {w0 w : World} {s : AS} {a : Act} {id : Nat} (hm : P.follows .mixedOrders = true) (hB : Region.lexB .any ops = true)
    (hQ : ∀ G s a w, Q s → Step G0 w0 G w → Sat G s a w → Q' .normal a w) (h : aopsC P ops ops.toList s Q) (hst : Step G0 w0 G w.drew) (hs : Sat G s a w.drew) : (Code.region id ops true).wp P Q' a w := by
  simp only [Region.lexB, Bool.and_eq_true] at hB
  refine wp_region_any hm (aAny_sound hQ _ _ G s a _ ?_ hst hs)
  have := aAny_lex (P := P) (Q := Q) ops.toList 0 (Array.replicate ops.size false) s (by simp) (by simpa using hB.2) h
  simpa using this

theorem guard_sound {P : Program} {ops : List Oper} {G0 : Ghost} {w0 : World} {E : AV → List Obj → Prop} {Q : Exit → Act → World → Prop} {o : Oper} {s : AS} {G : Ghost} {a : Act} {w : World} {K' : Act → World → Prop} {R : AS → Prop}
    (hE : ∀ x objs G v a w, E x objs → a.defers = [] → Mem G objs w → Step G0 w0 G w → Conc G w x v → Q (.panic [{ v, recovered := false }]) a w)
    (hf : From G0 w0 G s a w) (hR : ∀ s' G' a' w', R s' → From G0 w0 G' s' a' w' → K' a' w') (h : guardAV P ops s o R (aop P o s R E) (R (s.put o.dst (.cnd false .any)))) :
    if Region.wanted o (yielded ops.toArray a.tmps) then o.wp P a w K' Q else K' (a.put o.dst undef) w := by
  have hrun : aop P o s R E → o.wp P a w K' Q := by
    intro hrun
    have := aop_sound (Q := Q) hrun hf.sat (fun x objs' G' v w' h1 h2 h3 h4 => hE x objs' G' v a w' h1 hf.sat.defers h2 (hf.step.trans h3) h4)
    refine Oper.wp_mono ?_ this
    rintro a' w' ⟨s', G', h1, h2, h3⟩
    exact hR s' G' a' w' h1 ⟨hf.step.trans h3, h2⟩
  unfold guardAV at h
  split at h
  · rename_i hg
    rw [if_pos (by simp [Region.wanted, hg])]
    exact hrun h
  · rename_i j want hg
    split at h
    · rename_i g hgc
      have hw := gcond_sound hg hgc hf.sat
      rw [hw]
      split at h
      · rename_i c y ht
        obtain ⟨hh, h⟩ := h
        cases g
        · rw [if_neg (by simp)]
          exact hR _ G _ _ h ⟨hf.step, hf.sat.put0 o.dst (.cnd _ _ _ (fun h => by cases h) (fun _ => rfl))⟩
        · rw [if_pos rfl]
          exact tot_sound ht hf.sat (hh rfl) rfl fun v hv => hR _ G _ _ h ⟨hf.step, hf.sat.put0 o.dst (.cnd _ _ _ (fun _ => hv) (fun h => by cases h))⟩
      · obtain ⟨h1, h2⟩ := h
        cases g
        · rw [if_neg (by simp)]
          exact hR _ G _ _ (h2 rfl) ⟨hf.step, hf.sat.put0 o.dst (.cnd _ _ _ (fun h => by cases h) (fun _ => rfl))⟩
        · rw [if_pos rfl]
          exact hrun (h1 rfl)
    · exact h.elim

def tailB (ops : Array Oper) : Nat → Nat → Array Bool → Bool
  | 0, _, listed => (Region.ready .any ops listed).isEmpty
  | n + 1, k, listed => Region.ready .any ops listed == [k] && tailB ops n (k + 1) (listed.setIfInBounds k true)
def headB (ops : Array Oper) (n : Nat) : Nat → Nat → Array Bool → Bool
  | 0, k, listed => tailB ops n k listed
  | f + 1, k, listed => (Region.ready .any ops listed).contains k && Region.free .any ops listed k && headB ops n f (k + 1) (listed.setIfInBounds k true)
inductive Anc (ops : Array Oper) : Nat → Nat → Prop
  | edge {j : Nat} {o : Oper} {e : Edge} (h : ops[j]? = some o) (he : e ∈ o.after.toList) (hb : Region.binds .any e = true) : Anc ops j e.on
  | step {j i : Nat} {o : Oper} {e : Edge} (h : ops[j]? = some o) (he : e ∈ o.after.toList) (hb : Region.binds .any e = true) (hi : Anc ops e.on i) : Anc ops j i
def uni : List Nat → List Nat → List Nat
  | [], l => l
  | x :: xs, l => if l.contains x then uni xs l else uni xs (x :: l)
theorem mem_uni {i : Nat} : ∀ {xs l : List Nat}, i ∈ uni xs l → i ∈ xs ∨ i ∈ l
  | [], l, h => .inr h
  | x :: xs, l, h => by
    rw [uni] at h
    split at h
    · rcases mem_uni h with h | h
      · exact .inl (by simp [h])
      · exact .inr h
    · rcases mem_uni h with h | h
      · exact .inl (by simp [h])
      · rcases List.mem_cons.1 h with rfl | h
        · exact .inl (by simp)
        · exact .inr h
def ancE (A : List (List Nat)) : List Edge → List Nat
  | [] => []
  | e :: es => if Region.binds .any e = true then uni (e.on :: A.getD e.on []) (ancE A es) else ancE A es
def ancL (ops : Array Oper) : Nat → List (List Nat)
  | 0 => []
  | j + 1 => ancL ops j ++ [match ops[j]? with | some o => ancE (ancL ops j) o.after.toList | none => []]
theorem ancE_ok {ops : Array Oper} {A : List (List Nat)} (hA : ∀ j i, i ∈ A.getD j [] → Anc ops j i) {j : Nat} {o : Oper} (ho : ops[j]? = some o) : ∀ (es : List Edge), (∀ e ∈ es, e ∈ o.after.toList) → ∀ i ∈ ancE A es, Anc ops j i
  | [], _, i, hi => by simp [ancE] at hi
  | e :: es, hes, i, hi => by
    rw [ancE] at hi
    split at hi
    · rename_i hb
      rcases mem_uni hi with h | h
      · rcases List.mem_cons.1 h with rfl | h
        · exact .edge ho (hes e (by simp)) hb
        · exact .step ho (hes e (by simp)) hb (hA _ _ h)
      · exact ancE_ok hA ho es (fun e he => hes e (by simp [he])) i h
    · exact ancE_ok hA ho es (fun e he => hes e (by simp [he])) i hi
theorem ancL_len (ops : Array Oper) : ∀ n, (ancL ops n).length = n
  | 0 => rfl
  | n + 1 => by simp [ancL, ancL_len ops n]
theorem ancL_ok (ops : Array Oper) : ∀ (n j i : Nat), i ∈ (ancL ops n).getD j [] → Anc ops j i
  | 0, j, i, h => by simp [ancL] at h
  | n + 1, j, i, h => by
    have ih := ancL_ok ops n
    have hlen := ancL_len ops n
    rw [ancL, List.getD_eq_getElem?_getD] at h
    rcases Nat.lt_trichotomy j n with hj | hj | hj
    · rw [List.getElem?_append_left (by omega)] at h
      exact ih j i (by rw [List.getD_eq_getElem?_getD]; exact h)
    · subst hj
      rw [List.getElem?_append_right (by omega), hlen, Nat.sub_self] at h
      simp only [List.getElem?_cons_zero, Option.getD_some] at h
      split at h
      · rename_i o ho
        exact ancE_ok ih ho _ (fun _ h => h) i h
      · cases h
    · rw [List.getElem?_eq_none (by simp; omega)] at h
      simp at h
def Closed (ops : Array Oper) (listed : Array Bool) : Prop := ∀ (j : Nat) (o : Oper), ops[j]? = some o → listed.getD j false = true → ∀ e ∈ o.after.toList, Region.binds .any e = true → listed.getD e.on false = true
theorem Anc.listed {ops : Array Oper} {listed : Array Bool} (hc : Closed ops listed) {j i : Nat} (h : Anc ops j i) : (∀ o, ops[j]? = some o → ∀ e ∈ o.after.toList, Region.binds .any e = true → listed.getD e.on false = true) → listed.getD i false = true := by
  induction h with
  | edge h he hb => exact fun k => k _ h _ he hb
  | step h he hb _ ih => exact fun k => ih fun o ho => hc _ o ho (k _ h _ he hb)
def afterB (ops : Array Oper) (m : Nat) : Bool :=
  (List.range ops.size).all fun j => Nat.blt j m || (List.range m).all fun i => ((ancL ops ops.size).getD j []).contains i
def lexT (ops : Array Oper) (m : Nat) : Bool := Nat.ble m ops.size && afterB ops m && headB ops (ops.size - m) m 0 (Array.replicate ops.size false)

def aAnyT (P : Program) (ops : Array Oper) (m : Nat) (T : Nat → Array Bool → AS → Prop) : Nat → Array Bool → AS → Prop
  | 0, listed, s => (∀ i ∈ Region.ready .any ops listed, m ≤ i) ∧ T 0 listed s
  | fuel + 1, listed, s => ((∀ i ∈ Region.ready .any ops listed, m ≤ i) → T (fuel + 1) listed s) ∧
      ((∃ i ∈ Region.ready .any ops listed, i < m) → ∀ i ∈ Region.ready .any ops listed, i < m ∧ ∃ o y, ops[i]? = some o ∧ YA P ops o s y ∧ aAnyT P ops m T fuel (listed.setIfInBounds i true) (s.put o.dst y))

theorem aAnyT_sound {P : Program} {ops : Array Oper} {m : Nat} {T : Nat → Array Bool → AS → Prop} {Q' : Exit → Act → World → Prop} {G0 : Ghost} {w0 : World}
    (hT : ∀ f listed G s a w, T f listed s → From G0 w0 G s a w → wpAny P .any ops Q' f listed a w) :
    ∀ (fuel : Nat) (listed : Array Bool) (G : Ghost) (s : AS) (a : Act) (w : World), aAnyT P ops m T fuel listed s → From G0 w0 G s a w → wpAny P .any ops Q' fuel listed a w
  | 0, listed, G, s, a, w, h, hf => hT 0 listed G s a w h.2 hf
  | fuel + 1, listed, G, s, a, w, h, hf => by
    by_cases hall : ∀ i ∈ Region.ready .any ops listed, m ≤ i
    · exact hT _ listed G s a w (h.1 hall) hf
    · have hex : ∃ i ∈ Region.ready .any ops listed, i < m := by
        apply Classical.byContradiction
        intro hn
        exact hall fun i hi => Nat.le_of_not_lt fun hlt => hn ⟨i, hi, hlt⟩
      refine ⟨fun h0 => (by obtain ⟨i, hi, _⟩ := hex; rw [h0] at hi; cases hi), fun i hi => ?_⟩
      obtain ⟨_, o, y, ho, hy, hrest⟩ := h.2 hex i hi
      unfold wpOp
      simp only [ho]
      exact hy.sound hf.sat fun G' a' w' hs' hst' => aAnyT_sound hT fuel _ G' _ a' w' hrest ⟨hf.step.trans hst', hs'⟩

theorem Closed.set {ops : Array Oper} {listed : Array Bool} (hc : Closed ops listed) {j : Nat} (hj : j ∈ Region.ready .any ops listed) : Closed ops (listed.setIfInBounds j true) := by
  intro k o ho hk e he hb
  by_cases hjk : j = k
  · subst hjk
    obtain ⟨_, oj, hoj, hall⟩ := mem_ready.1 hj
    rw [ho] at hoj; cases hoj
    exact getD_set_true (hall e (by simpa using he) hb)
  · refine getD_set_true (hc k o ho ?_ e he hb)
    rw [getD_set_ne false hjk] at hk; exact hk
theorem aAnyT_first {P : Program} {ops : Array Oper} {m : Nat} {T : Nat → Array Bool → AS → Prop} {i : Nat} {oi : Oper} {v : AV} (hi : ops[i]? = some oi) (him : i < m)
    (hafter : ∀ j oj, ops[j]? = some oj → m ≤ j → Anc ops j i) :
    ∀ (fuel : Nat) (listed : Array Bool) (s : AS), Closed ops listed →
      (∀ j oj, ops[j]? = some oj → j ≠ i → listed.getD j true = false → (∀ e ∈ oj.after, Region.binds .any e = true → e.on ≠ i) → oi.apart ops oj = true) →
      i ∈ Region.ready .any ops listed → YA P ops oi s v →
      aAnyT P ops m T fuel (listed.setIfInBounds i true) (s.put oi.dst v) → aAnyT P ops m T (fuel + 1) listed s := by
  have hlt : ∀ (listed : Array Bool), Closed ops listed → i ∈ Region.ready .any ops listed → ∀ j ∈ Region.ready .any ops listed, j < m := by
    intro listed hc hr j hj
    rcases Nat.lt_or_ge j m with h | h
    · exact h
    · exfalso
      obtain ⟨_, oj, hoj, hall⟩ := mem_ready.1 hj
      have h1 := (hafter j oj hoj h).listed hc fun o ho e he hb => by rw [hoj] at ho; cases ho; exact hall e (by simpa using he) hb
      have h0 := (mem_ready.1 hr).1
      rcases Nat.lt_or_ge i listed.size with h' | h'
      · simp [h'] at h0 h1; rw [h0] at h1; cases h1
      · simp [Array.getElem?_eq_none h'] at h1
  intro fuel
  induction fuel with
  | zero =>
    intro listed s hcl _ hr hy H
    refine ⟨fun h => absurd (h i hr) (by omega), fun _ j hj => ⟨hlt listed hcl hr j hj, ?_⟩⟩
    by_cases hji : j = i
    · subst hji; exact ⟨oi, v, hi, hy, H⟩
    · have := H.1 j (ready_mono hj hji)
      have := hlt listed hcl hr j hj
      omega
  | succ fuel ih =>
    intro listed s hcl hfree hr hy H
    refine ⟨fun h => absurd (h i hr) (by omega), fun _ j hj => ⟨hlt listed hcl hr j hj, ?_⟩⟩
    by_cases hji : j = i
    · subst hji; exact ⟨oi, v, hi, hy, H⟩
    · obtain ⟨_, oj, y, hoj', hyj, hrest⟩ := H.2 ⟨j, ready_mono hj hji, hlt listed hcl hr j hj⟩ j (ready_mono hj hji)
      obtain ⟨hjun, oj2, hoj, hall⟩ := mem_ready.1 hj
      rw [hoj'] at hoj; cases hoj
      have hnot : ∀ e ∈ oj.after, Region.binds .any e = true → e.on ≠ i := fun e he hb heq => by
        have h1 := hall e he hb
        have h0 := (mem_ready.1 hr).1
        rw [heq] at h1
        rcases Nat.lt_or_ge i listed.size with h' | h'
        · simp [h'] at h0 h1; rw [h0] at h1; cases h1
        · simp [Array.getElem?_eq_none h'] at h1
      obtain ⟨h1, h2, h3⟩ := Oper.apart_spec (hfree j oj hoj' hji hjun hnot)
      have hfree' : ∀ k ok, ops[k]? = some ok → k ≠ i → (listed.setIfInBounds j true).getD k true = false →
          (∀ e ∈ ok.after, Region.binds .any e = true → e.on ≠ i) → oi.apart ops ok = true := fun k ok hk hki hun hno => by
        refine hfree k ok hk hki ?_ hno
        by_cases hjk : j = k
        · subst hjk; exact hjun
        · rw [getD_set_ne true hjk] at hun; exact hun
      have k1 : YA P ops oj s y := hyj.keep (keep_put h1)
      have k2 : YA P ops oi (s.put oj.dst y) v := hy.keep (keep_put h3).symm
      refine ⟨oj, y, hoj', k1, ih (listed.setIfInBounds j true) (s.put oj.dst y) (hcl.set hj) hfree' (ready_mono hr (Ne.symm hji)) k2 ?_⟩
      rw [Array.setIfInBounds_comm _ _ hji]
      rw [← put_comm h2]
      exact hrest

theorem afterB_spec {ops : Array Oper} {m : Nat} (h : afterB ops m = true) {i : Nat} (hi : i < m) : ∀ j oj, ops[j]? = some oj → m ≤ j → Anc ops j i := by
  intro j oj hoj hmj
  have hj : j < ops.size := (Array.getElem?_eq_some_iff.1 hoj).1
  have h1 := List.all_eq_true.1 h j (List.mem_range.2 hj)
  have hn : Nat.blt j m = false := by
    cases hb : Nat.blt j m with
    | false => rfl
    | true => have := Nat.le_of_ble_eq_true hb; omega
  rw [hn] at h1
  simp only [Bool.false_or] at h1
  have h2 := List.all_eq_true.1 h1 i (List.mem_range.2 hi)
  exact ancL_ok ops ops.size j i (by simpa using h2)

theorem aAnyT_lex {P : Program} {ops : Array Oper} {m : Nat} {tail : List Oper} {E : AV → List Obj → Prop} {Q : AS → Prop} (hafter : afterB ops m = true) : ∀ (l : List Oper) (k : Nat) (listed : Array Bool) (s : AS), Closed ops listed → k + l.length = m → (∀ j, l[j]? = (ops.toList.take m)[k + j]?) →
    headB ops tail.length l.length k listed = true → aopsC P ops l s (fun s' => aops P ops.toList tail s' Q E) →
    aAnyT P ops m (fun f listed s => f = tail.length ∧ tailB ops tail.length m listed = true ∧ aops P ops.toList tail s Q E) (l.length + tail.length) listed s
  | [], k, listed, s, _, hk, _, hB, h => by
    have hk' : k = m := by simpa using hk
    subst hk'
    have hB : tailB ops tail.length k listed = true := hB
    have hge : ∀ i ∈ Region.ready .any ops listed, k ≤ i := by
      intro i hi
      cases htl : tail.length with
      | zero =>
        rw [htl] at hB
        simp only [tailB, List.isEmpty_iff] at hB
        rw [hB] at hi; cases hi
      | succ n =>
        rw [htl] at hB
        simp only [tailB, Bool.and_eq_true, beq_iff_eq] at hB
        rw [hB.1] at hi
        simp at hi; omega
    have hT : (0 + tail.length) = tail.length ∧ tailB ops tail.length k listed = true ∧ aops P ops.toList tail s Q E := ⟨by omega, hB, h⟩
    show aAnyT P ops k _ (0 + tail.length) listed s
    cases htl : tail.length with
    | zero => rw [htl] at hT; exact ⟨hge, hT⟩
    | succ n =>
      rw [htl] at hT
      rw [show 0 + (n + 1) = n + 1 from by omega] at hT ⊢
      refine ⟨fun _ => hT, fun ⟨i, hi, hlt⟩ => ?_⟩
      have := hge i hi; omega
  | o :: l, k, listed, s, hcl, hk, hl, hB, h => by
    have hkm : k < m := by simp at hk; omega
    have h0 : ops[k]? = some o := by
      have := (hl 0).symm
      simp only [Nat.add_zero, List.getElem?_cons_zero] at this
      rw [List.getElem?_take, if_pos hkm] at this
      simpa using this
    simp only [List.length_cons, headB, Bool.and_eq_true] at hB
    obtain ⟨⟨hr, hf⟩, hB'⟩ := hB
    obtain ⟨y, hy, hK⟩ := h
    rw [List.length_cons, show l.length + 1 + tail.length = (l.length + tail.length) + 1 from by omega]
    exact aAnyT_first h0 hkm (afterB_spec hafter hkm) _ listed s hcl (Region.free_spec h0 hf) (by simpa using hr) hy
      (aAnyT_lex hafter l (k + 1) _ _ (hcl.set (by simpa using hr)) (by simp at hk; omega) (fun j => by have := hl (j + 1); simpa [Nat.add_assoc, Nat.add_comm 1 j] using this) hB' hK)

theorem tail_sound {P : Program} {ops : Array Oper} {E : AV → List Obj → Prop} {Q : AS → Prop} {Q' : Exit → Act → World → Prop} {G0 : Ghost} {w0 : World} (hQ : ∀ G s a w, Q s → From G0 w0 G s a w → Q' .normal a w)
    (hE : ∀ x objs G v a w, E x objs → a.defers = [] → Mem G objs w → Step G0 w0 G w → Conc G w x v → Q' (.panic [{ v, recovered := false }]) a w) :
    ∀ (l : List Oper) (k : Nat) (listed : Array Bool) (G : Ghost) (s : AS) (a : Act) (w : World), (∀ j, l[j]? = ops[k + j]?) → tailB ops l.length k listed = true → aops P ops.toList l s Q E → From G0 w0 G s a w →
      wpAny P .any ops Q' l.length listed a w
  | [], k, listed, G, s, a, w, _, hB, h, hf => ⟨by simpa [tailB] using hB, hQ G s a w h hf⟩
  | o :: l, k, listed, G, s, a, w, hl, hB, h, hf => by
    have h0 : ops[k]? = some o := by simpa using (hl 0).symm
    simp only [List.length_cons, tailB, Bool.and_eq_true, beq_iff_eq] at hB
    obtain ⟨hr, hB'⟩ := hB
    refine ⟨fun he => (by rw [hr] at he; cases he), fun i hi => ?_⟩
    rw [hr] at hi
    have hik : i = k := by simpa using hi
    subst hik
    unfold wpOp
    simp only [h0]
    have hg := guard_sound (K' := fun a' w' => wpAny P .any ops Q' l.length (listed.setIfInBounds i true) a' w') hE hf
      (fun s' G' a' w' h1 h2 => tail_sound hQ hE l (i + 1) _ G' s' a' w' (fun j => by have := hl (j + 1); simpa [Nat.add_assoc, Nat.add_comm 1 j] using this) hB' h1 h2) h
    rw [show yielded ops.toList.toArray a.tmps = yielded ops a.tmps from rfl] at hg
    split at hg
    · rename_i hw; rw [if_pos hw]; exact .inl hg
    · rename_i hw; rw [if_neg hw]; exact hg

theorem region_tail {P : Program} {ops : Array Oper} {m : Nat} {E : AV → List Obj → Prop} {Q : AS → Prop} {Q' : Exit → Act → World → Prop} {G0 G : Ghost} {w0 w : World} {s : AS} {a : Act} {id : Nat} (hm : P.follows .mixedOrders = true) (hB : lexT ops m = true)
    (hQ : ∀ G s a w, Q s → From G0 w0 G s a w → Q' .normal a w)
    (hE : ∀ x objs G v a w, E x objs → a.defers = [] → Mem G objs w → Step G0 w0 G w → Conc G w x v → Q' (.panic [{ v, recovered := false }]) a w)
    (h : aopsC P ops (ops.toList.take m) s (fun s' => aops P ops.toList (ops.toList.drop m) s' Q E)) (hf : From G0 w0 G s a w.drew) : (Code.region id ops true).wp P Q' a w := by
  simp only [lexT, Bool.and_eq_true] at hB
  obtain ⟨⟨hle, haf⟩, hB⟩ := hB
  have hle : m ≤ ops.size := Nat.le_of_ble_eq_true hle
  have hlt : (ops.toList.take m).length = m := by simp; omega
  have hld : (ops.toList.drop m).length = ops.size - m := by simp
  refine wp_region_any hm ?_
  have h1 := aAnyT_lex (P := P) (ops := ops) (m := m) (tail := ops.toList.drop m) (E := E) (Q := Q) haf (ops.toList.take m) 0 (Array.replicate ops.size false) s (fun j o _ hj => by simp [Array.getElem?_replicate] at hj; split at hj <;> cases hj) (by omega) (by simp) (by rw [hlt, hld]; exact hB) h
  rw [hlt, hld, show m + (ops.size - m) = ops.size from by omega] at h1
  refine aAnyT_sound (G0 := G0) (w0 := w0) ?_ _ _ G s a _ h1 hf
  rintro f listed G s a w ⟨rfl, k1, k2⟩ hf
  have := tail_sound hQ hE (ops.toList.drop m) m listed G s a w (fun j => by simp [List.getElem?_drop]) (by rw [hld]; exact k1) k2 hf
  rwa [hld] at this

/-! ### A new variable in a drawn region: whenever it is laid -/
theorem kept_run2 {P : Program} {o : Oper} {G : Ghost} {s : AS} {a : Act} {w : World} {y : AV} {K' : Act → World → Prop} {Q : Exit → Act → World → Prop} (h : aop P o s (fun s1 => s1 = s.put o.dst y) (fun _ _ => False)) (hs : Sat G s a w)
    (hK : ∀ G' v w', Sat G' (s.put o.dst y) (a.put o.dst v) w' → Step G w G' w' → K' (a.put o.dst v) w') : o.wp P a w K' Q := by
  have h1 := aop_sound (Q := Q) h hs (fun x objs' G' v w' hf => hf.elim)
  have h2 := wp_put (fun a' w' hn => by obtain ⟨s', G', _, hs', _⟩ := hn; exact hs'.defers) h1
  refine Oper.wp_mono ?_ h2
  rintro a' w' ⟨⟨v, rfl⟩, s', G', rfl, hs', hst⟩
  exact hK G' v w' hs' hst
theorem YA.run2 {P : Program} {ops : Array Oper} {o : Oper} {G : Ghost} {s : AS} {a : Act} {w : World} {y : AV} {K' : Act → World → Prop} {Q : Exit → Act → World → Prop} (h : YA P ops o s y) (hs : Sat G (s.keep (o.looksAt ops)) a w)
    (hK : ∀ G' v w', Sat G' ((s.keep (o.looksAt ops)).put o.dst y) (a.put o.dst v) w' → Step G w G' w' → K' (a.put o.dst v) w') : if Region.wanted o (yielded ops a.tmps) then o.wp P a w K' Q ∨ (o.asks P a w ∧ LetsOut Q) else K' (a.put o.dst undef) w := by
  unfold YA at h
  split at h
  · rename_i hg
    rw [if_pos (by simp [Region.wanted, hg])]
    exact .inl (kept_run2 h hs hK)
  · rename_i j want hg
    obtain ⟨g, v, rfl, hc, hv⟩ := h
    have hw := gcond_sound hg hc hs
    rw [show yielded ops a.tmps = yielded ops.toList.toArray a.tmps from rfl, hw]
    cases g
    · rw [if_neg (by simp)]
      exact hK G _ w (hs.put0 o.dst (.cnd _ _ _ (fun h => by cases h) (fun _ => rfl))) (Step.refl G w)
    · rw [if_pos rfl]
      left
      rcases hv with hv | ⟨h, ht, hi⟩
      · exact kept_run2 (hv rfl) hs fun G' v' w' k1 k2 => hK G' v' w' k1.cndT k2
      · exact tot_sound ht hs (hi rfl) rfl fun u hu => hK G _ w (hs.put0 o.dst (.cnd _ _ _ (fun _ => hu) (fun h => by cases h))) (Step.refl G w)

theorem one_more {G G0' : Ghost} {w w' : World} {T : List AV} {objs : List Obj} {cells : List AV} {a : Act} {v : Value} {d : Option Nat} {y : AV} {T0 : List AV} (hs : Sat G ⟨T, objs ++ [.box cells]⟩ a w) (hb : belowObjs objs.length objs = true)
    (h0 : Sat G0' ((⟨T0, objs⟩ : AS).put d y) (a.put d v) w') (hl0 : T0.length = T.length) (hst : Step ⟨G.bl.take objs.length, G.imm⟩ w G0' w') :
    ∃ G', Sat G' ((⟨T, objs ++ [.box cells]⟩ : AS).put d y) (a.put d v) w' ∧ Step G w G' w' := by
  have hm := hs.mem
  have hlen : G.bl.length = objs.length + 1 := by rw [hm.len]; simp
  have hn : objs.length < G.bl.length := by omega
  obtain ⟨g, hg⟩ : ∃ g, G.bl[objs.length]? = some g := ⟨_, List.getElem?_eq_getElem hn⟩
  have hok : ObjOk G w g (.box cells) := hm.ok objs.length _ g (by simp) hg
  have hm0 : Mem G0' objs w' := h0.mem
  have hl' : G0'.bl.length = objs.length := hm0.len
  have hnt : ∀ b l c sz ex, g ≠ .tok b l c sz ex := by
    intro b l c sz ex h
    subst h
    rcases hok with ⟨_, l, h⟩ | ⟨_, _, _, h, _⟩ <;> cases h
  have hlt : ∀ (o : Nat) (g1 : GB), o < objs.length → G.bl[o]? = some g1 → (G.bl.take objs.length)[o]? = some g1 := fun o g1 ho h => take_get ho h
  have hold : ∀ (o : Nat) (g1 : GB), G.bl[o]? = some g1 → (o < objs.length ∧ (G.bl.take objs.length)[o]? = some g1) ∨ (o = objs.length ∧ g1 = g) := by
    intro o g1 h
    rcases Nat.lt_trichotomy o objs.length with ho | ho | ho
    · exact .inl ⟨ho, hlt o g1 ho h⟩
    · subst ho; rw [hg] at h; cases h; exact .inr ⟨rfl, rfl⟩
    · rw [List.getElem?_eq_none (by omega)] at h; cases h
  let G' : Ghost := ⟨G0'.bl ++ [g], G0'.imm⟩
  have hnew : ∀ (o : Nat) (g1 : GB), G0'.bl[o]? = some g1 → G'.bl[o]? = some g1 := by
    intro o g1 h
    show (G0'.bl ++ [g])[o]? = _
    rw [List.getElem?_append_left (List.getElem?_eq_some_iff.1 h).1]; exact h
  have hlast : G'.bl[objs.length]? = some g := by
    show (G0'.bl ++ [g])[objs.length]? = _
    rw [← hl']; simp
  have hpart : ∀ (o : Nat) (g1 : GB), G'.bl[o]? = some g1 → G0'.bl[o]? = some g1 ∨ (o = objs.length ∧ g1 = g) := by
    intro o g1 h
    have h : (G0'.bl ++ [g])[o]? = some g1 := h
    rcases Nat.lt_trichotomy o objs.length with ho | ho | ho
    · rw [List.getElem?_append_left (by omega)] at h; exact .inl h
    · subst ho; rw [show (G0'.bl ++ [g])[objs.length]? = some g from hlast] at h; cases h; exact .inr ⟨rfl, rfl⟩
    · rw [List.getElem?_eq_none (by simp; omega)] at h; cases h
  -- the new object's block is as it was
  have hblk : ∀ b, g.blk = some b → w'.heap[b]? = w.heap[b]? := by
    intro b hb
    refine hst.heap b (hm.lt _ g b hg hb) ?_
    intro o g1 h1 h2
    obtain ⟨ho, h3⟩ := take_get' h1
    have := hm.inj o objs.length g1 g b h3 hg h2 hb
    omega
  have himm : ∀ b, g.blk = some b → ∀ off, G'.imm b off → G.imm b off := by
    intro b hb off hi
    rcases hst.imm2 b off hi with h | h | ⟨o, g1, h1, h2⟩
    · exact h
    · have := hm.lt _ g b hg hb; omega
    · obtain ⟨ho, h3⟩ := take_get' h1
      have := hm.inj o objs.length g1 g b h3 hg h2 hb
      omega
  have hext : Ext G w G' w' := by
    have key : ∀ t b off, G.im t b off → w'.cell? ⟨b, off, none⟩ = w.cell? ⟨b, off, none⟩ ∧ G'.im t b off := by
      intro t b off hi
      rcases im_cases hi with hi0 | ⟨o, l, c, sz, rfl, h1, h2⟩
      · exact ⟨hst.ext.cells .none b off hi0, G'.imm_im t (hst.ext.im .none b off hi0)⟩
      · rcases hold o _ h1 with ⟨ho, h3⟩ | ⟨_, h3⟩
        · have hin : Ghost.im ⟨G.bl.take objs.length, G.imm⟩ (.own o) b off := .inr ⟨l, c, sz, h3, h2⟩
          refine ⟨hst.ext.cells (.own o) b off hin, ?_⟩
          rcases hst.ext.im (.own o) b off hin with k1 | ⟨l', c', sz', k1, k2⟩
          · exact .inl k1
          · exact .inr ⟨l', c', sz', hnew o _ k1, k2⟩
        · exact absurd h3.symm (hnt _ _ _ _ _)
    refine ⟨fun t b off hi => (key t b off hi).1, fun t b off hi => (key t b off hi).2, ?_, ?_, ?_⟩
    · intro o b h
      rcases hold o _ h with ⟨_, h3⟩ | ⟨rfl, h3⟩
      · exact hnew o _ (hst.ext.obj o b h3)
      · rw [h3]; exact hlast
    · intro o l h
      rcases hold o _ h with ⟨_, h3⟩ | ⟨rfl, h3⟩
      · rcases hst.ext.full o l h3 with h4 | ⟨b, l', c, sz, ex, h4, h5⟩
        · exact .inl (hnew o _ h4)
        · exact .inr ⟨b, l', c, sz, ex, hnew o _ h4, h5⟩
      · exact .inl (by rw [h3]; exact hlast)
    · intro o b l c sz ex h
      rcases hold o _ h with ⟨_, h3⟩ | ⟨rfl, h3⟩
      · obtain ⟨b', l', c', sz', ex', h4, h5⟩ := hst.ext.tok o b l c sz ex h3
        exact ⟨b', l', c', sz', ex', hnew o _ h4, h5⟩
      · exact absurd h3.symm (hnt _ _ _ _ _)
  have hmem : Mem G' (objs ++ [.box cells]) w' := by
    refine Mem.push (G := G0') hm0 (hok.mono hext hblk himm) ?_
    intro b hb
    refine ⟨Nat.lt_of_lt_of_le (hm.lt _ g b hg hb) hst.size, ?_⟩
    intro o g1 h1 h2
    rcases hst.blk o g1 b h1 h2 with h | ⟨o2, g2, h3, h4⟩
    · have := hm.lt _ g b hg hb; omega
    · obtain ⟨ho, h5⟩ := take_get' h3
      have := hm.inj o2 objs.length g2 g b h5 hg h4 hb
      omega
  refine ⟨G', ⟨hmem, ?_, h0.defers⟩, hext, ?_, hst.size, hst.os, hst.tape, hst.output, ?_, ?_⟩
  · have hm1 := hs.tmps.mono hext
    cases d with
    | none => simpa [AS.put, Act.put] using hm1
    | some d =>
      have ht := h0.tmps
      simp only [AS.put, Act.put, Array.toList_setIfInBounds] at ht ⊢
      refine ⟨by simpa using hm1.1, fun i x u hx hu => ?_⟩
      by_cases hdi : d = i
      · subst hdi
        rw [List.getElem?_set] at hx
        simp only [if_true] at hx
        split at hx
        · rename_i hl
          cases hx
          refine (ht.2 d _ u ?_ hu).mono (ext_push G0' w' g)
          rw [List.getElem?_set, if_pos rfl, if_pos (by rw [hl0]; exact hl)]
        · cases hx
      · rw [List.getElem?_set, if_neg hdi] at hx hu
        exact hm1.2 i x u hx hu
  · intro k hk hno
    refine hst.heap k hk ?_
    intro o g1 h1
    exact hno o g1 (take_get' h1).2
  · intro b off hi
    rcases hst.imm2 b off hi with h | h | ⟨o, g1, h1, h2⟩
    · exact .inl h
    · exact .inr (.inl h)
    · exact .inr (.inr ⟨o, g1, (take_get' h1).2, h2⟩)
  · intro o g1 b h1 h2
    rcases hpart o g1 h1 with h3 | ⟨rfl, rfl⟩
    · rcases hst.blk o g1 b h3 h2 with h | ⟨o2, g2, h4, h5⟩
      · exact .inl h
      · exact .inr ⟨o2, g2, (take_get' h4).2, h5⟩
    · exact .inr ⟨_, _, hg, h2⟩

def YN (P : Program) (ops : Array Oper) (a n : Nat) (cells : List AV) (i : Nat) (o : Oper) (s : AS) (y : AV) : Prop :=
  if i = a then o.guard = none ∧ aop P o (s.keep (o.looksAt ops)) (fun s1 => s1 = { (s.keep (o.looksAt ops)).put o.dst y with objs := s.objs ++ [.box cells] }) (fun _ _ => False)
  else YA P ops o s y ∧ y.idsLt n = true
theorem YN.keep {P : Program} {ops : Array Oper} {a n i : Nat} {cells : List AV} {o : Oper} {s s' : AS} {y : AV} (h : YN P ops a n cells i o s y) (e : s.keep (o.looksAt ops) = s'.keep (o.looksAt ops)) : YN P ops a n cells i o s' y := by
  unfold YN at *
  have eo : (s.keep (o.looksAt ops)).objs = (s'.keep (o.looksAt ops)).objs := congrArg AS.objs e
  have eo : s.objs = s'.objs := eo
  split at h
  · rename_i hi; rw [if_pos hi, ← e, ← eo]; exact h
  · rename_i hi; rw [if_neg hi]; exact ⟨h.1.keep e, h.2⟩
def more (listed : Array Bool) (a : Nat) (cells : List AV) : List Obj := if listed.getD a false = true then [.box cells] else []
structure OnWay (ops : Array Oper) (a d0 : Nat) (objs0 : List Obj) (cells : List AV) (G0 : Ghost) (w0 : World) (listed : Array Bool) (G : Ghost) (s : AS) (x : Act) (w : World) : Prop where
  from' : From G0 w0 G ⟨s.tmps, s.objs ++ more listed a cells⟩ x w
  objs : s.objs = objs0
  ids : ∀ (j : Nat) (y : AV), j ≠ d0 → s.tmps[j]? = some y → y.idsLt objs0.length = true
theorem keep_ids {T : List AV} {L : List Nat} {d0 n : Nat} (hL : d0 ∉ L) (h : ∀ (j : Nat) (y : AV), j ≠ d0 → T[j]? = some y → y.idsLt n = true) : ∀ (j : Nat) (y : AV), (keepL T 0 L)[j]? = some y → y.idsLt n = true := by
  intro j y hy
  rw [keepL_get] at hy
  cases hx : T[j]? with
  | none => rw [hx] at hy; cases hy
  | some x =>
    rw [hx] at hy
    simp only [Option.map_some, Option.some.injEq, Nat.zero_add] at hy
    subst hy
    cases hc : L.contains j with
    | false => rfl
    | true =>
      have : j ≠ d0 := by
        rintro rfl
        exact hL (by simpa using hc)
      exact h j x this hx
theorem OnWay.step {P : Program} {ops : Array Oper} {a d0 : Nat} {objs0 : List Obj} {cells : List AV} {G0 : Ghost} {w0 : World} {listed : Array Bool} {G : Ghost} {s : AS} {x : Act} {w : World} (h : OnWay ops a d0 objs0 cells G0 w0 listed G s x w) (hb : belowObjs objs0.length objs0 = true)
    {i : Nat} {o : Oper} {y : AV} (hi : i ∈ Region.ready .any ops listed) (ho : ops[i]? = some o) (hy : YN P ops a objs0.length cells i o s y) (hd : ∀ i o, ops[i]? = some o → i = a → o.dst = some d0) (hL : i ≠ a → d0 ∉ o.looksAt ops)
    {K' : Act → World → Prop} {Q : Exit → Act → World → Prop} (hK : ∀ G' x' w', OnWay ops a d0 objs0 cells G0 w0 (listed.setIfInBounds i true) G' (s.put o.dst y) x' w' → K' x' w') :
    if Region.wanted o (yielded ops x.tmps) then o.wp P x w K' Q ∨ (o.asks P x w ∧ LetsOut Q) else K' (x.put o.dst undef) w := by
  have hun := (mem_ready.1 hi).1
  have hsz : i < listed.size := by
    rcases Nat.lt_or_ge i listed.size with h' | h'
    · exact h'
    · simp [Array.getElem?_eq_none h'] at hun
  have hput : ∀ (d : Option Nat) (y : AV), (s.put d y).objs = s.objs := fun d y => by cases d <;> rfl
  unfold YN at hy
  by_cases hia : i = a
  · subst hia
    rw [if_pos rfl] at hy
    obtain ⟨hg, hy⟩ := hy
    have hno : more listed i cells = [] := by
      unfold more
      rw [if_neg]
      simp [Array.getElem?_eq_getElem hsz] at hun ⊢
      exact hun
    have hyes : more (listed.setIfInBounds i true) i cells = [.box cells] := by
      unfold more
      rw [if_pos]
      simp [hsz]
    have hf := h.from'
    rw [hno, List.append_nil] at hf
    have hsat : Sat G s x w := hf.sat
    rw [if_pos (by simp [Region.wanted, hg])]
    left
    have h1 := aop_sound (Q := Q) hy (keep_sat hsat (o.looksAt ops)) (fun x objs' G' v w' hf => hf.elim)
    have h2 := wp_put (fun a' w' hn => by obtain ⟨s', G', _, hs', _⟩ := hn; exact hs'.defers) h1
    refine Oper.wp_mono ?_ h2
    rintro a' w' ⟨⟨v, rfl⟩, s', G', rfl, hs', hst⟩
    refine hK G' _ w' ⟨⟨hf.step.trans hst, ⟨by rw [hyes, hput]; exact hs'.mem, ?_, hs'.defers⟩⟩, by rw [hput]; exact h.objs, ?_⟩
    · have hm := hsat.tmps.mono hst.ext
      rw [hd i o ho rfl] at hs' ⊢
      have ht := hs'.tmps
      simp only [AS.put, Act.put, Array.toList_setIfInBounds] at ht ⊢
      refine ⟨by simpa using hm.1, fun k z u hz hu => ?_⟩
      by_cases hdk : d0 = k
      · subst hdk
        refine ht.2 d0 z u ?_ hu
        rw [List.getElem?_set] at hz ⊢
        simp only [if_true] at hz ⊢
        split at hz
        · rename_i hl
          rw [if_pos (by simpa [AS.keep, keepL_length] using hl)]; exact hz
        · cases hz
      · rw [List.getElem?_set, if_neg hdk] at hz hu
        exact hm.2 k z u hz hu
    · intro j z hj hz
      rw [hd i o ho rfl] at hz
      simp only [AS.put] at hz
      rw [List.getElem?_set, if_neg (Ne.symm hj)] at hz
      exact h.ids j z hj hz
  · rw [if_neg hia] at hy
    obtain ⟨hy, hyn⟩ := hy
    have hmore : more (listed.setIfInBounds i true) a cells = more listed a cells := by
      unfold more
      rw [getD_set_ne false hia]
    have hids' : ∀ (j : Nat) (z : AV), j ≠ d0 → (s.put o.dst y).tmps[j]? = some z → z.idsLt objs0.length = true := by
      intro j z hj hz
      cases hdst : o.dst with
      | none => rw [hdst] at hz; exact h.ids j z hj hz
      | some d =>
        rw [hdst] at hz
        simp only [AS.put] at hz
        rw [List.getElem?_set] at hz
        split at hz
        · split at hz
          · cases hz; exact hyn
          · cases hz
        · exact h.ids j z hj hz
    by_cases hl : listed.getD a false = true
    · have hmo : more listed a cells = [.box cells] := by unfold more; rw [if_pos hl]
      have hf := h.from'
      rw [hmo] at hf
      have hobj := h.objs
      -- without the variable
      have hsat0 : Sat ⟨G.bl.take objs0.length, G.imm⟩ (s.keep (o.looksAt ops)) x w := by
        refine ⟨?_, ?_, hf.sat.defers⟩
        · show Mem _ s.objs w
          have hm := hf.sat.mem
          rw [hobj] at hm ⊢
          exact hm.trunc hb
        · have ht : ConcL G w (keepL s.tmps 0 (o.looksAt ops)) x.tmps.toList := (keep_sat hf.sat (o.looksAt ops)).tmps
          exact ⟨ht.1, fun j z u hz hu => (ht.2 j z u hz hu).trunc (keep_ids (hL hia) h.ids j z hz)⟩
      refine hy.run2 hsat0 ?_
      intro G' v w' hs' hst
      have hs0 : Sat G' ((⟨(s.keep (o.looksAt ops)).tmps, objs0⟩ : AS).put o.dst y) (x.put o.dst v) w' := by
        rw [← hobj]; exact hs'
      have hsx : Sat G ⟨s.tmps, objs0 ++ [.box cells]⟩ x w := by rw [← hobj]; exact hf.sat
      obtain ⟨G2, k1, k2⟩ := one_more hsx hb hs0 (by simp [AS.keep, keepL_length]) hst
      refine hK G2 _ w' ⟨⟨hf.step.trans k2, ?_⟩, by rw [hput]; exact hobj, hids'⟩
      rw [hmore, hmo, hput, hobj]
      have e : (⟨(s.put o.dst y).tmps, objs0 ++ [.box cells]⟩ : AS) = (⟨s.tmps, objs0 ++ [.box cells]⟩ : AS).put o.dst y := by cases o.dst <;> rfl
      rw [e]; exact k1
    · have hmo : more listed a cells = [] := by unfold more; rw [if_neg hl]
      have hf := h.from'
      rw [hmo, List.append_nil] at hf
      refine hy.sound hf.sat ?_
      intro G' a' w' hs' hst
      refine hK G' a' w' ⟨⟨hf.step.trans hst, ?_⟩, by rw [hput]; exact h.objs, hids'⟩
      rw [hmore, hmo, List.append_nil]; exact hs'

def isPure : Op → Bool
  | .move _ | .assign _ | .extract _ _ => true
  | _ => false
theorem pure_run {P : Program} {o : Oper} (hp : isPure o.op = true) (hd : Act) {w : World} {u : Value} (h : (execOp hd.eval o).run P w = .ok (.value u) w) : ∀ w', (execOp hd.eval o).run P w' = .ok (.value u) w' := by
  intro w'
  cases ho : o.op <;> simp only [isPure, ho] at hp <;> first | (cases hp; done) | skip
  case move x => simp only [execOp, ho, Sem.run_bind, Sem.run_pure, Result.andThen_ok] at h ⊢; cases h; rfl
  case assign x => simp only [execOp, ho, Sem.run_bind, Sem.run_pure, Result.andThen_ok] at h ⊢; cases h; rfl
  case extract x k =>
    simp only [execOp, ho, Sem.run_bind] at h ⊢
    unfold Instr.extract at h ⊢
    split at h
    · split at h
      · simp only [Sem.run_pure, Result.andThen_ok] at h ⊢; cases h; rfl
      · simp [stuck] at h
    · simp [stuck] at h
theorem pure_runs {P : Program} {o : Oper} {G : Ghost} {s : AS} {a : Act} {w : World} {K : AS → Prop} (hp : isPure o.op = true) (h : aop P o s K (fun _ _ => False)) (hs : Sat G s a w) : ∃ u, (execOp a.eval o).run P w = .ok (.value u) w ∧ ∃ s', K s' ∧ Sat G s' (a.put o.dst u) w := by
  have hq : isQ o.op = true := by
    cases ho : o.op <;> simp only [isPure, ho] at hp <;> first | (cases hp; done) | rfl
  exact aopQ_sound hq h hs
theorem OnWay.pure {P : Program} {ops : Array Oper} {a d0 : Nat} {objs0 : List Obj} {cells : List AV} {G0 : Ghost} {w0 : World} {listed : Array Bool} {G : Ghost} {s : AS} {x : Act} {w : World} (h : OnWay ops a d0 objs0 cells G0 w0 listed G s x w)
    {i : Nat} {o : Oper} {y : AV} (hia : i ≠ a) (hg : o.guard = none) (hp : isPure o.op = true) (hy : YN P ops a objs0.length cells i o s y) :
    ∃ u, (∀ w', (execOp x.eval o).run P w' = .ok (.value u) w') ∧ OnWay ops a d0 objs0 cells G0 w0 (listed.setIfInBounds i true) G (s.put o.dst y) (x.put o.dst u) w := by
  have hput : ∀ (d : Option Nat) (y : AV), (s.put d y).objs = s.objs := fun d y => by cases d <;> rfl
  unfold YN at hy
  rw [if_neg hia] at hy
  obtain ⟨hy, hyn⟩ := hy
  unfold YA at hy
  rw [hg] at hy
  simp only at hy
  have hmore : more (listed.setIfInBounds i true) a cells = more listed a cells := by
    unfold more
    rw [getD_set_ne false hia]
  -- a pure operation looks at no object
  have hy2 : aop P o ((⟨s.tmps, s.objs ++ more listed a cells⟩ : AS).keep (o.looksAt ops)) (fun s1 => s1 = ((⟨s.tmps, s.objs ++ more listed a cells⟩ : AS).keep (o.looksAt ops)).put o.dst y) (fun _ _ => False) := by
    have e : ∀ r : AV, ((s.keep (o.looksAt ops)).put o.dst r = (s.keep (o.looksAt ops)).put o.dst y) → (((⟨s.tmps, s.objs ++ more listed a cells⟩ : AS).keep (o.looksAt ops)).put o.dst r = ((⟨s.tmps, s.objs ++ more listed a cells⟩ : AS).keep (o.looksAt ops)).put o.dst y) := by
      intro r hr
      cases hd : o.dst with
      | none => rfl
      | some d =>
        rw [hd] at hr
        have := congrArg AS.tmps hr
        simp only [AS.put, AS.keep] at this ⊢
        rw [this]
    cases ho : o.op <;> simp only [isPure, ho] at hp <;> first | (cases hp; done) | skip
    case move z => unfold aop at hy ⊢; rw [ho] at hy ⊢; exact e _ hy
    case assign z => unfold aop at hy ⊢; rw [ho] at hy ⊢; exact e _ hy
    case extract z k =>
      unfold aop at hy ⊢
      rw [ho] at hy ⊢
      simp only at hy ⊢
      have ee : ((⟨s.tmps, s.objs ++ more listed a cells⟩ : AS).keep (o.looksAt ops)).eval z = (s.keep (o.looksAt ops)).eval z := by cases z <;> rfl
      rw [ee]
      unfold extractAV at hy ⊢
      split at hy
      · exact ⟨hy.1, e _ hy.2⟩
      · exact hy.elim
  have hf := h.from'
  obtain ⟨u, hu, s', rfl, hs'⟩ := pure_runs hp hy2 (keep_sat hf.sat (o.looksAt ops))
  refine ⟨u, pure_run hp x hu, ⟨⟨hf.step, ?_⟩, by rw [hput]; exact h.objs, ?_⟩⟩
  · rw [hmore, hput]
    have e : (⟨(s.put o.dst y).tmps, s.objs ++ more listed a cells⟩ : AS) = (⟨s.tmps, s.objs ++ more listed a cells⟩ : AS).put o.dst y := by cases o.dst <;> rfl
    rw [e]
    cases hd : o.dst with
    | none => rw [hd] at hs'; exact ⟨hf.sat.mem, by simpa [AS.put, Act.put] using hf.sat.tmps, hs'.defers⟩
    | some d =>
      rw [hd] at hs'
      have ht := hs'.tmps
      refine ⟨hf.sat.mem, ?_, hs'.defers⟩
      simp only [AS.put, Act.put, Array.toList_setIfInBounds] at ht ⊢
      refine ⟨by simpa using hf.sat.tmps.1, fun j z v hz hv => ?_⟩
      by_cases hdj : d = j
      · subst hdj
        refine ht.2 d z v ?_ hv
        rw [List.getElem?_set] at hz ⊢
        simp only [if_true] at hz ⊢
        split at hz
        · rename_i hl
          rw [if_pos (by simpa [AS.keep, keepL_length] using hl)]; exact hz
        · cases hz
      · rw [List.getElem?_set, if_neg hdj] at hz hv
        exact hf.sat.tmps.2 j z v hz hv
  · intro j z hj hz
    cases hdst : o.dst with
    | none => rw [hdst] at hz; exact h.ids j z hj hz
    | some d =>
      rw [hdst] at hz
      simp only [AS.put] at hz
      rw [List.getElem?_set] at hz
      split at hz
      · split at hz
        · cases hz; exact hyn
        · cases hz
      · exact h.ids j z hj hz

def aAnyN (P : Program) (ops : Array Oper) (a n : Nat) (cells : List AV) (m : Nat) (st : Nat → Bool) (T : Nat → Array Bool → AS → Prop) : Nat → Array Bool → AS → Prop
  | 0, listed, s => Region.ready .any ops listed = [] ∧ T 0 listed s
  | fuel + 1, listed, s => ((∀ i ∈ Region.ready .any ops listed, st i = false) → T (fuel + 1) listed s) ∧
      (∀ i ∈ Region.ready .any ops listed, i < m → ∃ o y, ops[i]? = some o ∧ YN P ops a n cells i o s y ∧ aAnyN P ops a n cells m st T fuel (listed.setIfInBounds i true) (s.put o.dst y)) ∧
      ((∃ i ∈ Region.ready .any ops listed, st i = true) → ∀ i ∈ Region.ready .any ops listed, i < m)
def SemT (P : Program) (ops : Array Oper) (Q' : Exit → Act → World → Prop) (a d0 : Nat) (objs0 : List Obj) (cells : List AV) (G0 : Ghost) (w0 : World) (f : Nat) (listed : Array Bool) (s : AS) : Prop :=
  ∀ G x w, OnWay ops a d0 objs0 cells G0 w0 listed G s x w → wpAny P .any ops Q' f listed x w

theorem aAnyN_sound {P : Program} {ops : Array Oper} {a d0 : Nat} {objs0 : List Obj} {cells : List AV} {m : Nat} {st : Nat → Bool} {Q' : Exit → Act → World → Prop} {G0 : Ghost} {w0 : World} (hb : belowObjs objs0.length objs0 = true)
    (hd : ∀ i o, ops[i]? = some o → i = a → o.dst = some d0) (hL : ∀ i o, ops[i]? = some o → i < m → i ≠ a → d0 ∉ o.looksAt ops) :
    ∀ (fuel : Nat) (listed : Array Bool) (s : AS), aAnyN P ops a objs0.length cells m st (SemT P ops Q' a d0 objs0 cells G0 w0) fuel listed s → SemT P ops Q' a d0 objs0 cells G0 w0 fuel listed s
  | 0, listed, s, h => h.2
  | fuel + 1, listed, s, h => by
    intro G x w hf
    by_cases hall : ∀ i ∈ Region.ready .any ops listed, st i = false
    · exact h.1 hall G x w hf
    · have hex : ∃ i ∈ Region.ready .any ops listed, st i = true := by
        apply Classical.byContradiction
        intro hn
        refine hall fun i hi => ?_
        cases hst : st i with
        | false => rfl
        | true => exact absurd ⟨i, hi, hst⟩ hn
      refine ⟨fun h0 => (by obtain ⟨i, hi, _⟩ := hex; rw [h0] at hi; cases hi), fun i hi => ?_⟩
      have him := h.2.2 hex i hi
      obtain ⟨o, y, ho, hy, hrest⟩ := h.2.1 i hi him
      unfold wpOp
      simp only [ho]
      exact hf.step hb hi ho hy hd (hL i o ho him) fun G' x' w' k => aAnyN_sound hb hd hL fuel _ _ hrest G' x' w' k

theorem aAnyN_first {P : Program} {ops : Array Oper} {a n : Nat} {cells : List AV} {m : Nat} {st : Nat → Bool} {T : Nat → Array Bool → AS → Prop} {i : Nat} {oi : Oper} {v : AV} (hi : ops[i]? = some oi) (him : i < m)
    (hafter : ∀ k, st k = true → ∀ j oj, ops[j]? = some oj → m ≤ j → Anc ops j k)
    (hsnd : ∀ fuel listed s, aAnyN P ops a n cells m st T fuel listed s → T fuel listed s)
    (hlate : st i = false → ∀ (fuel : Nat) (listed : Array Bool) (s : AS), (∀ j oj, ops[j]? = some oj → j ≠ i → listed.getD j true = false → (∀ e ∈ oj.after, Region.binds .any e = true → e.on ≠ i) → oi.apart ops oj = true) →
      i ∈ Region.ready .any ops listed → YN P ops a n cells i oi s v → T fuel (listed.setIfInBounds i true) (s.put oi.dst v) → T (fuel + 1) listed s) :
    ∀ (fuel : Nat) (listed : Array Bool) (s : AS), Closed ops listed →
      (∀ j oj, ops[j]? = some oj → j ≠ i → listed.getD j true = false → (∀ e ∈ oj.after, Region.binds .any e = true → e.on ≠ i) → oi.apart ops oj = true) →
      i ∈ Region.ready .any ops listed → YN P ops a n cells i oi s v →
      aAnyN P ops a n cells m st T fuel (listed.setIfInBounds i true) (s.put oi.dst v) → aAnyN P ops a n cells m st T (fuel + 1) listed s := by
  have hC : ∀ (listed : Array Bool), Closed ops listed → (∃ k ∈ Region.ready .any ops listed, st k = true) → ∀ j ∈ Region.ready .any ops listed, j < m := by
    rintro listed hc ⟨k, hk, hst⟩ j hj
    rcases Nat.lt_or_ge j m with h | h
    · exact h
    · exfalso
      obtain ⟨_, oj, hoj, hall⟩ := mem_ready.1 hj
      have h1 := (hafter k hst j oj hoj h).listed hc fun o ho e he hb => by rw [hoj] at ho; cases ho; exact hall e (by simpa using he) hb
      have h0 := (mem_ready.1 hk).1
      rcases Nat.lt_or_ge k listed.size with h' | h'
      · simp [h'] at h0 h1; rw [h0] at h1; cases h1
      · simp [Array.getElem?_eq_none h'] at h1
  intro fuel
  induction fuel with
  | zero =>
    intro listed s hcl hfree hr hy H
    refine ⟨fun h => hlate (h i hr) 0 listed s hfree hr hy H.2, fun j hj _ => ?_, hC listed hcl⟩
    by_cases hji : j = i
    · subst hji; exact ⟨oi, v, hi, hy, H⟩
    · have := ready_mono hj hji
      rw [H.1] at this; cases this
  | succ fuel ih =>
    intro listed s hcl hfree hr hy H
    refine ⟨fun h => hlate (h i hr) _ listed s hfree hr hy (hsnd _ _ _ H), fun j hj hjm => ?_, hC listed hcl⟩
    by_cases hji : j = i
    · subst hji; exact ⟨oi, v, hi, hy, H⟩
    · obtain ⟨oj, y, hoj', hyj, hrest⟩ := H.2.1 j (ready_mono hj hji) hjm
      obtain ⟨hjun, oj2, hoj, hall⟩ := mem_ready.1 hj
      rw [hoj'] at hoj; cases hoj
      have hnot : ∀ e ∈ oj.after, Region.binds .any e = true → e.on ≠ i := fun e he hb heq => by
        have h1 := hall e he hb
        have h0 := (mem_ready.1 hr).1
        rw [heq] at h1
        rcases Nat.lt_or_ge i listed.size with h' | h'
        · simp [h'] at h0 h1; rw [h0] at h1; cases h1
        · simp [Array.getElem?_eq_none h'] at h1
      obtain ⟨h1, h2, h3⟩ := Oper.apart_spec (hfree j oj hoj' hji hjun hnot)
      have hfree' : ∀ k ok, ops[k]? = some ok → k ≠ i → (listed.setIfInBounds j true).getD k true = false →
          (∀ e ∈ ok.after, Region.binds .any e = true → e.on ≠ i) → oi.apart ops ok = true := fun k ok hk hki hun hno => by
        refine hfree k ok hk hki ?_ hno
        by_cases hjk : j = k
        · subst hjk; exact hjun
        · rw [getD_set_ne true hjk] at hun; exact hun
      have k1 : YN P ops a n cells j oj s y := hyj.keep (keep_put h1)
      have k2 : YN P ops a n cells i oi (s.put oj.dst y) v := hy.keep (keep_put h3).symm
      refine ⟨oj, y, hoj', k1, ih (listed.setIfInBounds j true) (s.put oj.dst y) (hcl.set hj) hfree' (ready_mono hr (Ne.symm hji)) k2 ?_⟩
      rw [Array.setIfInBounds_comm _ _ hji]
      rw [← put_comm h2]
      exact hrest

theorem late_closure {P : Program} {ops : Array Oper} {Q' : Exit → Act → World → Prop} {a d0 : Nat} {objs0 : List Obj} {cells : List AV} {G0 : Ghost} {w0 : World} {i : Nat} {oi : Oper} {v : AV} (hi : ops[i]? = some oi) (hs : Region.noSelect ops = true)
    (hP : ∀ c d u a w, Q' (.panic c) (a.put d u) w → Q' (.panic c) a w) (hia : i ≠ a) (hg : oi.guard = none) (hp : isPure oi.op = true)
    (fuel : Nat) (listed : Array Bool) (s : AS) (hfree : ∀ j oj, ops[j]? = some oj → j ≠ i → listed.getD j true = false → (∀ e ∈ oj.after, Region.binds .any e = true → e.on ≠ i) → oi.apart ops oj = true)
    (hr : i ∈ Region.ready .any ops listed) (hy : YN P ops a objs0.length cells i oi s v) (h : SemT P ops Q' a d0 objs0 cells G0 w0 fuel (listed.setIfInBounds i true) (s.put oi.dst v)) : SemT P ops Q' a d0 objs0 cells G0 w0 (fuel + 1) listed s := by
  intro G x w hf
  obtain ⟨u, hu, hf'⟩ := hf.pure hia hg hp hy
  exact wpAny_first hi (Region.noSelect_spec hs) (fun c a w hq => hP c _ _ a w hq) fuel listed x w hfree hr (.inl ⟨by simp [Region.wanted, hg], hu⟩) (h G _ w hf')

def aopsM (P : Program) (ops : Array Oper) (a : Nat) (cells : List AV) : List Oper → Nat → AS → (AS → Prop) → Prop
  | [], _, s, K => K s
  | o :: rest, k, s, K =>
    if k = a then ∃ y, (o.guard = none ∧ aop P o (s.keep (o.looksAt ops)) (fun s1 => s1 = { (s.keep (o.looksAt ops)).put o.dst y with objs := s.objs ++ [.box cells] }) (fun _ _ => False)) ∧ aopsM P ops a cells rest (k + 1) (s.put o.dst y) K
    else ∃ y, YA P ops o s y ∧ aopsM P ops a cells rest (k + 1) (s.put o.dst y) K
def aopsN (P : Program) (ops : Array Oper) (a n : Nat) (cells : List AV) : List Oper → Nat → AS → (AS → Prop) → Prop
  | [], _, s, K => K s
  | o :: rest, k, s, K => ∃ y, YN P ops a n cells k o s y ∧ aopsN P ops a n cells rest (k + 1) (s.put o.dst y) K
theorem put_len (s : AS) (d : Option Nat) (y : AV) : (s.put d y).tmps.length = s.tmps.length := by cases d <;> simp [AS.put]
theorem put_other {s : AS} {d : Option Nat} {y : AV} {j : Nat} (h : d ≠ some j) : (s.put d y).tmps[j]? = s.tmps[j]? := by
  cases d with
  | none => rfl
  | some d => simp only [AS.put]; rw [List.getElem?_set, if_neg (fun e => h (by rw [e]))]
theorem aopsM_last {P : Program} {ops : Array Oper} {a : Nat} {cells : List AV} {d : Nat} : ∀ (l : List Oper) (k : Nat) (s : AS) (K : AS → Prop), aopsM P ops a cells l k s K → (∀ o ∈ l, o.dst ≠ some d) → ∃ s', K s' ∧ s'.tmps[d]? = s.tmps[d]?
  | [], _, s, K, h, _ => ⟨s, h, rfl⟩
  | o :: l, k, s, K, h, hd => by
    have key : ∃ y, aopsM P ops a cells l (k + 1) (s.put o.dst y) K := by
      unfold aopsM at h
      split at h
      · obtain ⟨y, _, h⟩ := h; exact ⟨y, h⟩
      · obtain ⟨y, _, h⟩ := h; exact ⟨y, h⟩
    obtain ⟨y, h⟩ := key
    obtain ⟨s', h1, h2⟩ := aopsM_last l (k + 1) _ K h (fun o ho => hd o (by simp [ho]))
    exact ⟨s', h1, h2.trans (put_other (hd o (by simp)))⟩
def dstsB (d0 nt : Nat) : List Oper → List Nat → Bool
  | [], _ => true
  | o :: l, seen => (match o.dst with
    | some d => Nat.blt d nt && !seen.contains d
    | none => false) && dstsB d0 nt l (match o.dst with | some d => d :: seen | none => seen)
theorem dstsB_spec {d0 nt : Nat} (l : List Oper) : ∀ (seen : List Nat), dstsB d0 nt l seen = true → ∀ o ∈ l, ∃ d, o.dst = some d ∧ d < nt ∧ d ∉ seen := by
  induction l with
  | nil => intro seen _ o ho; cases ho
  | cons o l ih =>
    intro seen h o' ho
    rw [dstsB, Bool.and_eq_true] at h
    obtain ⟨h1, h2⟩ := h
    cases hd : o.dst with
    | none => rw [hd] at h1; cases h1
    | some d =>
      rw [hd] at h1 h2
      simp only [Bool.and_eq_true, Bool.not_eq_true'] at h1
      rcases List.mem_cons.1 ho with rfl | ho
      · exact ⟨d, hd, Nat.le_of_ble_eq_true h1.1, by simpa using h1.2⟩
      · obtain ⟨d', k1, k2, k3⟩ := ih _ h2 o' ho
        exact ⟨d', k1, k2, fun hm => k3 (by simp [hm])⟩
theorem aopsM_N {P : Program} {ops : Array Oper} {a d0 n : Nat} {cells : List AV} : ∀ (l : List Oper) (k : Nat) (s : AS) (K : AS → Prop) (seen : List Nat), aopsM P ops a cells l k s K → dstsB d0 s.tmps.length l seen = true →
    (∀ (j : Nat) o, l[j]? = some o → k + j = a → o.dst = some d0) → (∀ (j : Nat) o, l[j]? = some o → k + j ≠ a → o.dst ≠ some d0) →
    (∀ s', K s' → ∀ (j : Nat) (z : AV), j ≠ d0 → s'.tmps[j]? = some z → z.idsLt n = true) → aopsN P ops a n cells l k s K
  | [], _, s, K, _, h, _, _, _, _ => h
  | o :: l, k, s, K, seen, h, hd, ha, hna, hfin => by
    rw [dstsB, Bool.and_eq_true] at hd
    obtain ⟨hd1, hd2⟩ := hd
    obtain ⟨d, hdst⟩ : ∃ d, o.dst = some d := by
      cases h : o.dst with
      | none => rw [h] at hd1; cases hd1
      | some d => exact ⟨d, rfl⟩
    rw [hdst] at hd1 hd2
    simp only [Bool.and_eq_true, Bool.not_eq_true'] at hd1
    have hdl : d < s.tmps.length := Nat.le_of_ble_eq_true hd1.1
    have hrest : ∀ o' ∈ l, o'.dst ≠ some d := fun o' ho' e => by
      obtain ⟨d', h1, _, h3⟩ := dstsB_spec l _ hd2 o' ho'
      rw [e] at h1; cases h1
      exact h3 (by simp)
    unfold aopsM at h
    unfold aopsN
    by_cases hk : k = a
    · rw [if_pos hk] at h
      obtain ⟨y, h1, h2⟩ := h
      refine ⟨y, by unfold YN; rw [if_pos hk]; exact h1, aopsM_N l (k + 1) _ K (d :: seen) h2 (by rw [put_len]; exact hd2) (fun j o hj hja => ha (j + 1) o (by simpa using hj) (by omega)) (fun j o hj hja => hna (j + 1) o (by simpa using hj) (by omega)) hfin⟩
    · rw [if_neg hk] at h
      obtain ⟨y, h1, h2⟩ := h
      refine ⟨y, ?_, aopsM_N l (k + 1) _ K (d :: seen) h2 (by rw [put_len]; exact hd2) (fun j o hj hja => ha (j + 1) o (by simpa using hj) (by omega)) (fun j o hj hja => hna (j + 1) o (by simpa using hj) (by omega)) hfin⟩
      unfold YN
      rw [if_neg hk]
      refine ⟨h1, ?_⟩
      obtain ⟨s', k1, k2⟩ := aopsM_last l (k + 1) _ K h2 hrest
      refine hfin s' k1 d y ?_ ?_
      · rintro rfl
        exact hna 0 o (by simp) (by omega) hdst
      · rw [k2, hdst]
        simp only [AS.put]
        rw [List.getElem?_set, if_pos rfl, if_pos hdl]

theorem aAnyN_lex {P : Program} {ops : Array Oper} {Q' : Exit → Act → World → Prop} {a d0 : Nat} {objs0 : List Obj} {cells : List AV} {G0 : Ghost} {w0 : World} {m : Nat} {st : Nat → Bool} {tail : List Oper} {Q : AS → Prop}
    (hQ : ∀ G s a w, Q s → From G0 w0 G s a w → Q' .normal a w) (htl : ∀ j, tail[j]? = ops[m + j]?) (ham : a < m) (hms : m ≤ ops.size)
    (hafter : ∀ k, st k = true → ∀ j oj, ops[j]? = some oj → m ≤ j → Anc ops j k)
    (hsnd : ∀ fuel listed s, aAnyN P ops a objs0.length cells m st (SemT P ops Q' a d0 objs0 cells G0 w0) fuel listed s → SemT P ops Q' a d0 objs0 cells G0 w0 fuel listed s) (hs : Region.noSelect ops = true)
    (hP : ∀ c d u a w, Q' (.panic c) (a.put d u) w → Q' (.panic c) a w) (hlate : ∀ i o, ops[i]? = some o → i < m → st i = false → i ≠ a ∧ o.guard = none ∧ isPure o.op = true) :
    ∀ (l : List Oper) (k : Nat) (listed : Array Bool) (s : AS), listed.size = ops.size → (∀ i, i < k → listed.getD i false = true) → Closed ops listed → k + l.length = m → (∀ j, l[j]? = (ops.toList.take m)[k + j]?) →
    headB ops tail.length l.length k listed = true → aopsN P ops a objs0.length cells l k s (fun s' => aops P ops.toList tail { s' with objs := s'.objs ++ [.box cells] } Q (fun _ _ => False)) →
    aAnyN P ops a objs0.length cells m st (SemT P ops Q' a d0 objs0 cells G0 w0) (l.length + tail.length) listed s
  | [], k, listed, s, _, hli, hcl, hk, _, hB, h => by
    have hk' : k = m := by simpa using hk
    subst hk'
    have hB : tailB ops tail.length k listed = true := hB
    have hge : ∀ i ∈ Region.ready .any ops listed, k ≤ i := by
      intro i hi
      cases htl : tail.length with
      | zero =>
        rw [htl] at hB
        simp only [tailB, List.isEmpty_iff] at hB
        rw [hB] at hi; cases hi
      | succ n =>
        rw [htl] at hB
        simp only [tailB, Bool.and_eq_true, beq_iff_eq] at hB
        rw [hB.1] at hi
        simp at hi; omega
    have hT : SemT P ops Q' a d0 objs0 cells G0 w0 tail.length listed s := by
      intro G x w hw
      have hf := hw.from'
      rw [show more listed a cells = [.box cells] by unfold more; rw [if_pos (hli a ham)]] at hf
      exact tail_sound hQ (fun _ _ _ _ _ _ h => h.elim) tail k listed G _ x w htl hB h hf
    show aAnyN P ops a objs0.length cells k st _ (0 + tail.length) listed s
    rw [Nat.zero_add]
    cases htl' : tail.length with
    | zero =>
      rw [htl'] at hT hB
      exact ⟨by simpa [tailB] using hB, hT⟩
    | succ n =>
      rw [htl'] at hT
      refine ⟨fun _ => hT, fun i hi hlt => ?_, ?_⟩
      · have := hge i hi; omega
      · rintro ⟨i, hi, hst⟩ j hj
        exfalso
        -- what is ready lies behind: so a strict one would be behind itself
        obtain ⟨_, oi, hoi, hall⟩ := mem_ready.1 hi
        have h1 := (hafter i hst i oi hoi (hge i hi)).listed hcl fun o ho e he hb => by rw [hoi] at ho; cases ho; exact hall e (by simpa using he) hb
        have h0 := (mem_ready.1 hi).1
        rcases Nat.lt_or_ge i listed.size with h' | h'
        · simp [h'] at h0 h1; rw [h0] at h1; cases h1
        · simp [Array.getElem?_eq_none h'] at h1
  | o :: l, k, listed, s, hsz, hli, hcl, hk, hl, hB, h => by
    have hkm : k < m := by simp at hk; omega
    have h0 : ops[k]? = some o := by
      have := (hl 0).symm
      simp only [Nat.add_zero, List.getElem?_cons_zero] at this
      rw [List.getElem?_take, if_pos hkm] at this
      simpa using this
    simp only [List.length_cons, headB, Bool.and_eq_true] at hB
    obtain ⟨⟨hr, hf⟩, hB'⟩ := hB
    obtain ⟨y, hy, hK⟩ := h
    rw [List.length_cons, show l.length + 1 + tail.length = (l.length + tail.length) + 1 from by omega]
    refine aAnyN_first h0 hkm hafter hsnd (fun hst fuel listed s hfree hr hy hT => by
        obtain ⟨q1, q2, q3⟩ := hlate k o h0 hkm hst
        exact late_closure h0 hs hP q1 q2 q3 fuel listed s hfree hr hy hT) _ listed s hcl (Region.free_spec h0 hf) (by simpa using hr) hy
      (aAnyN_lex hQ htl ham hms hafter hsnd hs hP hlate l (k + 1) _ _ (by simpa using hsz) (fun i hi => ?_) (hcl.set (by simpa using hr)) (by simp at hk; omega) (fun j => by have := hl (j + 1); simpa [Nat.add_assoc, Nat.add_comm 1 j] using this) hB' hK)
    by_cases hik : i = k
    · subst hik; simp [hsz]; omega
    · rw [getD_set_ne false (Ne.symm hik)]; exact hli i (by omega)

def strictB (ops : Array Oper) (m i : Nat) : Bool := (List.range ops.size).all fun j => Nat.blt j m || ((ancL ops ops.size).getD j []).contains i
theorem strictB_spec {ops : Array Oper} {m k : Nat} (h : strictB ops m k = true) : ∀ j oj, ops[j]? = some oj → m ≤ j → Anc ops j k := by
  intro j oj hoj hmj
  have hj : j < ops.size := (Array.getElem?_eq_some_iff.1 hoj).1
  have h1 := List.all_eq_true.1 h j (List.mem_range.2 hj)
  have hn : Nat.blt j m = false := by
    cases hb : Nat.blt j m with
    | false => rfl
    | true => have := Nat.le_of_ble_eq_true hb; omega
  rw [hn] at h1
  exact ancL_ok ops ops.size j k (by simpa using h1)
def lexA (ops : Array Oper) (m a d0 nt : Nat) : Bool :=
  Nat.ble m ops.size && Nat.blt a m && Region.noSelect ops && headB ops (ops.size - m) m 0 (Array.replicate ops.size false) && dstsB d0 nt (ops.toList.take m) [] &&
  ((List.range m).all fun i => match ops[i]? with | some o => (if i = a then o.dst == some d0 else o.dst != some d0 && !(o.looksAt ops).contains d0) && (strictB ops m i || (i != a && o.guard.isNone && isPure o.op)) | none => false)

def drawA (P : Program) (ops : Array Oper) (s : AS) (K : AS → Prop) : Prop :=
  ∃ m a d0 cells, lexA ops m a d0 s.tmps.length = true ∧ belowObjs s.objs.length s.objs = true ∧ AV.idsLtL s.objs.length s.tmps = true ∧
    aopsM P ops a cells (ops.toList.take m) 0 s (fun s' => AV.idsLtL s.objs.length (s'.tmps.set d0 .any) = true ∧ aops P ops.toList (ops.toList.drop m) { s' with objs := s'.objs ++ [.box cells] } K (fun _ _ => False))

theorem aopsN_mono {P : Program} {ops : Array Oper} {a n : Nat} {cells : List AV} {K K' : AS → Prop} (hK : ∀ s, K s → K' s) : ∀ (l : List Oper) (k : Nat) (s : AS), aopsN P ops a n cells l k s K → aopsN P ops a n cells l k s K'
  | [], _, s, h => hK s h
  | o :: l, k, s, ⟨y, h1, h2⟩ => ⟨y, h1, aopsN_mono hK l (k + 1) _ h2⟩

theorem region_alloc {P : Program} {ops : Array Oper} {Q : AS → Prop} {Q' : Exit → Act → World → Prop} {G0 G : Ghost} {w0 w : World} {s : AS} {x : Act} {id : Nat} (hm : P.follows .mixedOrders = true)
    (hQ : ∀ G s a w, Q s → From G0 w0 G s a w → Q' .normal a w) (hP : ∀ c d u a w, Q' (.panic c) (a.put d u) w → Q' (.panic c) a w) (h : drawA P ops s Q) (hf : From G0 w0 G s x w.drew) : (Code.region id ops true).wp P Q' x w := by
  obtain ⟨m, a, d0, cells, hB, hb, hids, h⟩ := h
  simp only [lexA, Bool.and_eq_true] at hB
  obtain ⟨⟨⟨⟨⟨hle, ham⟩, hsel⟩, hB⟩, hdst⟩, hall⟩ := hB
  have hle : m ≤ ops.size := Nat.le_of_ble_eq_true hle
  have ham : a < m := Nat.le_of_ble_eq_true ham
  have hlt : (ops.toList.take m).length = m := by simp; omega
  have hld : (ops.toList.drop m).length = ops.size - m := by simp
  have hat : ∀ i o, ops[i]? = some o → i < m → ((i = a → o.dst = some d0) ∧ (i ≠ a → o.dst ≠ some d0 ∧ d0 ∉ o.looksAt ops)) ∧ (strictB ops m i = false → i ≠ a ∧ o.guard = none ∧ isPure o.op = true) := by
    intro i o ho him
    have := List.all_eq_true.1 hall i (List.mem_range.2 him)
    rw [ho] at this
    simp only [Bool.and_eq_true] at this
    obtain ⟨h1, h2⟩ := this
    refine ⟨⟨fun hia => ?_, fun hia => ?_⟩, fun hst => ?_⟩
    · simpa [hia] using h1
    · rw [if_neg hia] at h1
      simpa using h1
    · rw [hst] at h2
      simp only [Bool.false_or, Bool.and_eq_true, bne_iff_ne, ne_eq, Option.isNone_iff_eq_none] at h2
      exact ⟨h2.1.1, h2.1.2, h2.2⟩
  have hti : ∀ (j : Nat) o, (ops.toList.take m)[j]? = some o → j < m ∧ ops[j]? = some o := by
    intro j o hj
    rw [List.getElem?_take] at hj
    split at hj
    · exact ⟨by assumption, by simpa using hj⟩
    · cases hj
  have h1 := aopsM_N (d0 := d0) (n := s.objs.length) (ops.toList.take m) 0 s _ [] h hdst
    (fun j o hj hja => by obtain ⟨k1, k2⟩ := hti j o hj; exact (hat j o k2 k1).1.1 (by omega))
    (fun j o hj hja => by obtain ⟨k1, k2⟩ := hti j o hj; exact ((hat j o k2 k1).1.2 (by omega)).1)
    (fun s' hs' j z hj hz => belowL_get hs'.1 j z (by rw [List.getElem?_set, if_neg (Ne.symm hj)]; exact hz))
  have h2 := aopsN_mono (K' := fun s' => aops P ops.toList (ops.toList.drop m) { s' with objs := s'.objs ++ [.box cells] } Q (fun _ _ => False)) (fun s hs => hs.2) _ _ _ h1
  have hsnd : ∀ fuel listed s', aAnyN P ops a s.objs.length cells m (strictB ops m) (SemT P ops Q' a d0 s.objs cells G0 w0) fuel listed s' → SemT P ops Q' a d0 s.objs cells G0 w0 fuel listed s' :=
    fun fuel listed s' hh => aAnyN_sound hb (fun i o ho hia => (hat i o ho (by omega)).1.1 hia) (fun i o ho him hia => ((hat i o ho him).1.2 hia).2) fuel listed s' hh
  refine wp_region_any hm ?_
  have h3 := aAnyN_lex (P := P) (ops := ops) (Q' := Q') (G0 := G0) (w0 := w0) (a := a) (d0 := d0) (objs0 := s.objs) (m := m) (st := strictB ops m) (tail := ops.toList.drop m) (Q := Q) hQ (fun j => by simp [List.getElem?_drop]) ham hle (fun k hk => strictB_spec hk) hsnd hsel hP
    (fun i o ho him hst => (hat i o ho him).2 hst) (ops.toList.take m) 0 (Array.replicate ops.size false) s (by simp) (fun i hi => by omega) (fun j o _ hj => by simp [Array.getElem?_replicate] at hj; split at hj <;> cases hj) (by omega) (by simp) (by rw [hlt, hld]; exact hB) h2
  rw [hlt, hld, show m + (ops.size - m) = ops.size from by omega] at h3
  refine hsnd _ _ _ h3 G x _ ⟨?_, rfl, fun j z _ hz => belowL_get hids j z hz⟩
  have : more (Array.replicate ops.size false) a cells = [] := by
    unfold more
    rw [if_neg]
    simp [Array.getElem?_replicate]
    split <;> simp
  rw [this, List.append_nil]; exact hf

/-! ### Effects in a row, and reads that may come late -/
def Obj.free : Obj → Bool
  | .tok .. => true
  | .dead => true
  | _ => false
def Keeps : List Obj → List Obj → Prop
  | [], _ => True
  | x :: xs, y :: ys => (x.free = true ∨ x = y) ∧ Keeps xs ys
  | x :: xs, [] => x.free = true ∧ Keeps xs []
theorem Keeps.get : ∀ {xs ys : List Obj}, Keeps xs ys → ∀ {o : Nat} {x : Obj}, xs[o]? = some x → x.free = false → ys[o]? = some x
  | [], _, _, o, x, h, _ => by simp at h
  | x :: xs, y :: ys, h, 0, z, hz, hf => by
    simp only [List.getElem?_cons_zero, Option.some.injEq] at hz ⊢
    subst hz
    rcases h.1 with h1 | h1
    · rw [hf] at h1; cases h1
    · exact h1.symm
  | x :: xs, y :: ys, h, o + 1, z, hz, hf => by
    simp only [List.getElem?_cons_succ] at hz ⊢
    exact Keeps.get h.2 hz hf
  | x :: xs, [], h, 0, z, hz, hf => by
    simp only [List.getElem?_cons_zero, Option.some.injEq] at hz
    subst hz
    have := h.1; rw [hf] at this; cases this
  | x :: xs, [], h, o + 1, z, hz, hf => by
    simp only [List.getElem?_cons_succ] at hz
    have := Keeps.get h.2 hz hf
    simp at this

def isRd : Op → Bool
  | .move _ | .assign _ | .pick .. | .fieldAddr .. | .field .. | .load .. | .extract .. | .binOp .. | .unOp .. | .indexAddr .. | .index .. | .slice .. | .nilCheck _ => true
  | .call c => (match c.callee with | .builtin .len => true | _ => false)
  | _ => false

theorem loadAV_keeps {P : Program} {objs objs' : List Obj} {t : TypeId} {x : AV} {k : AV → Prop} (h : loadAV P objs t x k) (hk : Keeps objs objs') : loadAV P objs' t x k := by
  unfold loadAV at *
  split at h
  · split at h
    · rename_i o off
      split at h
      · rename_i cells hc
        rw [hk.get hc rfl]; exact h
      · rename_i e buf hc
        rw [hk.get hc rfl]; exact h
      · exact h.elim
    · exact h
    · exact h.elim
  · exact h.elim
theorem mapLenAV_keeps {P : Program} {objs objs' : List Obj} {t : TypeId} {x : AV} {k : AV → Prop} (h : mapLenAV P objs t x k) (hk : Keeps objs objs') : mapLenAV P objs' t x k := by
  unfold mapLenAV at *
  split at h
  · split at h
    · rename_i hd hc
      simp only [hd, hk.get hc rfl]; exact h
    · exact h.elim
  · exact h.elim

theorem rd_keeps {P : Program} {o : Oper} {T : List AV} {objs objs' : List Obj} {y : AV} (hr : isRd o.op = true) (hk : Keeps objs objs') (h : aop P o ⟨T, objs⟩ (fun s1 => s1 = (⟨T, objs⟩ : AS).put o.dst y) (fun _ _ => False)) :
    aop P o ⟨T, objs'⟩ (fun s1 => s1 = (⟨T, objs'⟩ : AS).put o.dst y) (fun _ _ => False) := by
  have hK : (fun r => (⟨T, objs⟩ : AS).put o.dst r = (⟨T, objs⟩ : AS).put o.dst y) = (fun r => (⟨T, objs'⟩ : AS).put o.dst r = (⟨T, objs'⟩ : AS).put o.dst y) := by
    funext r
    cases o.dst with
    | none => simp [AS.put]
    | some d => simp [AS.put]
  have hK1 : ∀ r, ((⟨T, objs⟩ : AS).put o.dst r = (⟨T, objs⟩ : AS).put o.dst y) = ((⟨T, objs'⟩ : AS).put o.dst r = (⟨T, objs'⟩ : AS).put o.dst y) := fun r => congrFun hK r
  have hev : (⟨T, objs⟩ : AS).eval = (⟨T, objs'⟩ : AS).eval := by
    funext x; cases x <;> rfl
  have hraw : (⟨T, objs⟩ : AS).raw = (⟨T, objs'⟩ : AS).raw := by
    funext x; cases x <;> rfl
  unfold aop at *
  cases ho : o.op <;> simp only [isRd, ho] at hr <;> first | (cases hr; done) | skip
  all_goals simp only [ho] at h ⊢
  all_goals (try (rw [hev, hK] at h; exact h))
  all_goals (try (rw [hev, hraw, hK] at h; exact h))
  case move x => rw [hev, hK1] at h; exact h
  case assign x => rw [hev, hK1] at h; exact h
  case load t a => rw [hev, hK] at h; exact loadAV_keeps h hk
  case call c =>
    split at hr
    · rename_i hc
      simp only [hc] at h ⊢
      rw [hev] at h
      unfold builtinAV at *
      simp only at h ⊢
      split at h
      · rename_i t x ht hx
        rcases h with h | h
        · left
          have : (fun r => (⟨((⟨T, objs⟩ : AS).put o.dst r).tmps, objs⟩ : AS) = (⟨T, objs⟩ : AS).put o.dst y) = (fun r => (⟨((⟨T, objs'⟩ : AS).put o.dst r).tmps, objs'⟩ : AS) = (⟨T, objs'⟩ : AS).put o.dst y) := by
            funext r
            cases o.dst with
            | none => simp [AS.put]
            | some d => simp [AS.put]
          rw [← this]; exact h
        · right
          have : (fun r => (⟨((⟨T, objs⟩ : AS).put o.dst r).tmps, objs⟩ : AS) = (⟨T, objs⟩ : AS).put o.dst y) = (fun r => (⟨((⟨T, objs'⟩ : AS).put o.dst r).tmps, objs'⟩ : AS) = (⟨T, objs'⟩ : AS).put o.dst y) := by
            funext r
            cases o.dst with
            | none => simp [AS.put]
            | some d => simp [AS.put]
          rw [← this]; exact mapLenAV_keeps h hk
      · exact h.elim
    · cases hr

def YE (P : Program) (ops : Array Oper) (o : Oper) (s : AS) (v : AV) (objs' : List Obj) : Prop :=
  o.guard = none ∧ aop P o (s.keep (o.looksAt ops)) (fun s1 => s1 = ⟨((s.keep (o.looksAt ops)).put o.dst v).tmps, objs'⟩) (fun _ _ => False)
theorem YE.keep {P : Program} {ops : Array Oper} {o : Oper} {s s' : AS} {v : AV} {objs' : List Obj} (h : YE P ops o s v objs') (e : s.keep (o.looksAt ops) = s'.keep (o.looksAt ops)) : YE P ops o s' v objs' := by
  unfold YE at *; rw [← e]; exact h
theorem kept_runE {P : Program} {L : List Nat} {o : Oper} {G : Ghost} {s : AS} {a : Act} {w : World} {v : AV} {objs' : List Obj} {K' : Act → World → Prop} {Q : Exit → Act → World → Prop} (h : aop P o (s.keep L) (fun s1 => s1 = ⟨((s.keep L).put o.dst v).tmps, objs'⟩) (fun _ _ => False)) (hs : Sat G s a w)
    (hK : ∀ G' a' w', Sat G' ⟨(s.put o.dst v).tmps, objs'⟩ a' w' → Step G w G' w' → K' a' w') : o.wp P a w K' Q := by
  have h1 := aop_sound (Q := Q) h (keep_sat hs _) (fun x objs' G' v w' hf => hf.elim)
  have h2 := wp_put (fun a' w' hn => by obtain ⟨s', G', _, hs', _⟩ := hn; exact hs'.defers) h1
  refine Oper.wp_mono ?_ h2
  rintro a' w' ⟨⟨u, rfl⟩, s', G', rfl, hs', hst⟩
  refine hK G' _ w' ⟨hs'.mem, ?_, hs'.defers⟩ hst
  have hm := hs.tmps.mono hst.ext
  cases hd : o.dst with
  | none => simpa [AS.put, Act.put, hd] using hm
  | some d =>
    rw [hd] at hs'
    have ht := hs'.tmps
    simp only [AS.put, Act.put, Array.toList_setIfInBounds] at ht ⊢
    refine ⟨by simpa using hm.1, fun i x u hx hu => ?_⟩
    by_cases hdi : d = i
    · subst hdi
      refine ht.2 d x u ?_ hu
      rw [List.getElem?_set] at hx ⊢
      simp only [if_true] at hx ⊢
      split at hx
      · rename_i hl
        rw [if_pos (by simpa [AS.keep, keepL_length] using hl)]; exact hx
      · cases hx
    · rw [List.getElem?_set, if_neg hdi] at hx hu
      exact hm.2 i x u hx hu

theorem YA.stable {P : Program} {ops : Array Oper} {o : Oper} {s : AS} {y : AV} {objs' : List Obj} (h : YA P ops o s y) (hr : isRd o.op = true) (hg : o.guard = none) (hk : Keeps s.objs objs') : YA P ops o ⟨s.tmps, objs'⟩ y := by
  unfold YA at *
  rw [hg] at h ⊢
  exact rd_keeps hr hk h

def aAnyX (P : Program) (ops : Array Oper) (Q : AS → Prop) : Nat → Array Bool → AS → Prop
  | 0, listed, s => Region.ready .any ops listed = [] ∧ Q s
  | fuel + 1, listed, s => (Region.ready .any ops listed = [] → Q s) ∧
      ∀ i ∈ Region.ready .any ops listed, ∃ o, ops[i]? = some o ∧
        ((∃ y, YA P ops o s y ∧ aAnyX P ops Q fuel (listed.setIfInBounds i true) (s.put o.dst y)) ∨
         (∃ v objs', YE P ops o s v objs' ∧ Keeps s.objs objs' ∧ aAnyX P ops Q fuel (listed.setIfInBounds i true) ⟨(s.put o.dst v).tmps, objs'⟩))

theorem aAnyX_sound {P : Program} {ops : Array Oper} {Q : AS → Prop} {Q' : Exit → Act → World → Prop} {G0 : Ghost} {w0 : World} (hQ : ∀ G s a w, Q s → From G0 w0 G s a w → Q' .normal a w) :
    ∀ (fuel : Nat) (listed : Array Bool) (G : Ghost) (s : AS) (a : Act) (w : World), aAnyX P ops Q fuel listed s → From G0 w0 G s a w → wpAny P .any ops Q' fuel listed a w
  | 0, listed, G, s, a, w, h, hf => ⟨h.1, hQ G s a w h.2 hf⟩
  | fuel + 1, listed, G, s, a, w, h, hf => by
    refine ⟨fun h0 => hQ G s a w (h.1 h0) hf, fun i hi => ?_⟩
    obtain ⟨o, ho, hy⟩ := h.2 i hi
    unfold wpOp
    simp only [ho]
    rcases hy with ⟨y, hy, hrest⟩ | ⟨v, objs', hy, _, hrest⟩
    · exact hy.sound hf.sat fun G' a' w' hs' hst' => aAnyX_sound hQ fuel _ G' _ a' w' hrest ⟨hf.step.trans hst', hs'⟩
    · rw [if_pos (by simp [Region.wanted, hy.1])]
      exact .inl (kept_runE hy.2 hf.sat fun G' a' w' hs' hst' => aAnyX_sound hQ fuel _ G' _ a' w' hrest ⟨hf.step.trans hst', hs'⟩)

theorem put_objs (s : AS) (d : Option Nat) (v : AV) : (s.put d v).objs = s.objs := by cases d <;> rfl
theorem aAnyX_first {P : Program} {ops : Array Oper} {Q : AS → Prop} {i : Nat} {oi : Oper} {v : AV} (hi : ops[i]? = some oi) (hrd : isRd oi.op = true) (hgi : oi.guard = none) :
    ∀ (fuel : Nat) (listed : Array Bool) (s : AS),
      (∀ j oj, ops[j]? = some oj → j ≠ i → listed.getD j true = false → (∀ e ∈ oj.after, Region.binds .any e = true → e.on ≠ i) → oi.apart ops oj = true) →
      i ∈ Region.ready .any ops listed → YA P ops oi s v →
      aAnyX P ops Q fuel (listed.setIfInBounds i true) (s.put oi.dst v) → aAnyX P ops Q (fuel + 1) listed s := by
  intro fuel
  induction fuel with
  | zero =>
    intro listed s _ hr hy H
    refine ⟨fun h => (by rw [h] at hr; cases hr), fun j hj => ?_⟩
    by_cases hji : j = i
    · subst hji; exact ⟨oi, hi, .inl ⟨v, hy, H⟩⟩
    · have := ready_mono hj hji
      rw [H.1] at this
      cases this
  | succ fuel ih =>
    intro listed s hfree hr hy H
    refine ⟨fun h => (by rw [h] at hr; cases hr), fun j hj => ?_⟩
    by_cases hji : j = i
    · subst hji; exact ⟨oi, hi, .inl ⟨v, hy, H⟩⟩
    · obtain ⟨oj, hoj', hyj⟩ := H.2 j (ready_mono hj hji)
      obtain ⟨hjun, oj2, hoj, hall⟩ := mem_ready.1 hj
      rw [hoj'] at hoj; cases hoj
      have hnot : ∀ e ∈ oj.after, Region.binds .any e = true → e.on ≠ i := fun e he hb heq => by
        have h1 := hall e he hb
        have h0 := (mem_ready.1 hr).1
        rw [heq] at h1
        rcases Nat.lt_or_ge i listed.size with h' | h'
        · simp [h'] at h0 h1; rw [h0] at h1; cases h1
        · simp [Array.getElem?_eq_none h'] at h1
      obtain ⟨h1, h2, h3⟩ := Oper.apart_spec (hfree j oj hoj' hji hjun hnot)
      have hfree' : ∀ k ok, ops[k]? = some ok → k ≠ i → (listed.setIfInBounds j true).getD k true = false →
          (∀ e ∈ ok.after, Region.binds .any e = true → e.on ≠ i) → oi.apart ops ok = true := fun k ok hk hki hun hno => by
        refine hfree k ok hk hki ?_ hno
        by_cases hjk : j = k
        · subst hjk; exact hjun
        · rw [getD_set_ne true hjk] at hun; exact hun
      rcases hyj with ⟨y, hyj, hrest⟩ | ⟨v', objs', hyj, hke, hrest⟩
      · have k1 : YA P ops oj s y := hyj.keep (keep_put h1)
        have k2 : YA P ops oi (s.put oj.dst y) v := hy.keep (keep_put h3).symm
        refine ⟨oj, hoj', .inl ⟨y, k1, ih (listed.setIfInBounds j true) (s.put oj.dst y) hfree' (ready_mono hr (Ne.symm hji)) k2 ?_⟩⟩
        rw [Array.setIfInBounds_comm _ _ hji]
        rw [← put_comm h2]
        exact hrest
      · have k1 : YE P ops oj s v' objs' := hyj.keep (keep_put h1)
        rw [put_objs] at hke
        have k2 : YA P ops oi ⟨(s.put oj.dst v').tmps, objs'⟩ v := (hy.keep (keep_put h3).symm).stable hrd hgi (by rw [put_objs]; exact hke)
        refine ⟨oj, hoj', .inr ⟨v', objs', k1, hke, ih (listed.setIfInBounds j true) _ hfree' (ready_mono hr (Ne.symm hji)) k2 ?_⟩⟩
        rw [Array.setIfInBounds_comm _ _ hji]
        have e : ((⟨(s.put oj.dst v').tmps, objs'⟩ : AS).put oi.dst v) = ⟨((s.put oi.dst v).put oj.dst v').tmps, objs'⟩ := by
          rw [put_comm h2]
          cases oi.dst <;> rfl
        rw [e]
        exact hrest

def permB (ops : Array Oper) : List (Bool × Nat) → Array Bool → Bool
  | [], listed => (Region.ready .any ops listed).isEmpty
  | (false, i) :: r, listed => (Region.ready .any ops listed).contains i && Region.free .any ops listed i && (match ops[i]? with | some o => isRd o.op && o.guard.isNone | none => false) && permB ops r (listed.setIfInBounds i true)
  | (true, i) :: r, listed => Region.ready .any ops listed == [i] && permB ops r (listed.setIfInBounds i true)
def aopsX (P : Program) (ops : Array Oper) (Q : AS → Prop) : List (Bool × Oper) → AS → Prop
  | [], s => Q s
  | (false, o) :: rest, s => ∃ y, YA P ops o s y ∧ aopsX P ops Q rest (s.put o.dst y)
  | (true, o) :: rest, s => ∃ v objs', YE P ops o s v objs' ∧ Keeps s.objs objs' ∧ aopsX P ops Q rest ⟨(s.put o.dst v).tmps, objs'⟩
def permO (ops : List Oper) : List (Bool × Nat) → List (Bool × Oper) → Prop
  | [], [] => True
  | (b, i) :: r, (c, o) :: l => b = c ∧ ops[i]? = some o ∧ permO ops r l
  | _, _ => False
theorem aAnyX_perm {P : Program} {ops : Array Oper} {Q : AS → Prop} : ∀ (r : List (Bool × Nat)) (l : List (Bool × Oper)) (listed : Array Bool) (s : AS), permO ops.toList r l → permB ops r listed = true → aopsX P ops Q l s → aAnyX P ops Q r.length listed s
  | [], [], listed, s, _, hB, h => ⟨by simpa [permB] using hB, h⟩
  | (false, i) :: r, (c, o) :: l, listed, s, hp, hB, h => by
    obtain ⟨rfl, ho, hp⟩ := hp
    have ho : ops[i]? = some o := by simpa using ho
    simp only [permB, Bool.and_eq_true, ho, Option.isNone_iff_eq_none] at hB
    obtain ⟨⟨⟨hr, hf⟩, hrd, hg⟩, hB⟩ := hB
    obtain ⟨y, hy, hK⟩ := h
    exact aAnyX_first ho hrd hg r.length listed s (Region.free_spec ho hf) (by simpa using hr) hy (aAnyX_perm r l _ _ hp hB hK)
  | (true, i) :: r, (c, o) :: l, listed, s, hp, hB, h => by
    obtain ⟨rfl, ho, hp⟩ := hp
    have ho : ops[i]? = some o := by simpa using ho
    simp only [permB, Bool.and_eq_true, beq_iff_eq] at hB
    obtain ⟨hr, hB⟩ := hB
    obtain ⟨v, objs', hy, hk, hK⟩ := h
    refine ⟨fun h0 => (by rw [h0] at hr; cases hr), fun j hj => ?_⟩
    rw [hr] at hj
    have hj : j = i := by simpa using hj
    subst hj
    exact ⟨o, ho, .inr ⟨v, objs', hy, hk, aAnyX_perm r l _ _ hp hB hK⟩⟩
  | [], _ :: _, _, _, h, _, _ => h.elim
  | (false, _) :: _, [], _, _, h, _, _ => h.elim
  | (true, _) :: _, [], _, _, h, _, _ => h.elim

theorem region_perm {P : Program} {ops : Array Oper} {r : List (Bool × Nat)} {l : List (Bool × Oper)} {Q : AS → Prop} {Q' : Exit → Act → World → Prop} {G0 G : Ghost} {w0 w : World} {s : AS} {a : Act} {id : Nat} (hm : P.follows .mixedOrders = true)
    (hn : r.length = ops.size) (hB : permB ops r (Array.replicate ops.size false) = true) (hO : permO ops.toList r l)
    (hQ : ∀ G s a w, Q s → From G0 w0 G s a w → Q' .normal a w) (h : aopsX P ops Q l s) (hf : From G0 w0 G s a w.drew) : (Code.region id ops true).wp P Q' a w := by
  refine wp_region_any hm ?_
  have h1 := aAnyX_perm r l _ s hO hB h
  rw [hn] at h1
  exact aAnyX_sound hQ _ _ G s a _ h1 hf

/-! ### A store into a row of one's own -/
theorem seg_get {α : Type} (c us : List α) (off p : Nat) (h : off + us.length ≤ c.length) : (c.take off ++ us ++ c.drop (off + us.length))[p]? = if off ≤ p ∧ p < off + us.length then us[p - off]? else c[p]? := by
  have hl : (c.take off).length = off := by rw [List.length_take]; omega
  split
  · rename_i hp
    rw [List.getElem?_append_left (by rw [List.length_append, hl]; omega), List.getElem?_append_right (by omega), hl]
  · rename_i hp
    rcases Nat.lt_or_ge p off with h1 | h1
    · rw [List.getElem?_append_left (by rw [List.length_append, hl]; omega), List.getElem?_append_left (by omega), List.getElem?_take, if_pos h1]
    · rw [List.getElem?_append_right (by rw [List.length_append, hl]; omega), List.length_append, hl, List.getElem?_drop]
      congr 1; omega

def ownSt (P : Program) (n0 : Nat) (o : Oper) (s : AS) (K : AS → Prop) : Prop :=
  o.guard = none ∧ o.dst = none ∧ ∃ t ax xx, o.op = .store t ax xx ∧
  ∃ (pre : List Obj) (T0 : List AV) (d : Nat) (rows : List (List D)) (r ds : List D) (sz e i off : Nat) (xs : List AV) (j : TI),
    s.objs = pre ++ [.tok rows.length sz e true] ∧ n0 ≤ pre.length ∧
    (T0.length = s.tmps.length ∧ ∀ (j : Nat) (x : AV), T0[j]? = some x → x = .any ∨ s.tmps[j]? = some x) ∧ AV.idsLtL pre.length T0 = true ∧ belowObjs pre.length pre = true ∧
    s.tmps[d]? = some (.sl rows (.own pre.length)) ∧ s.eval ax = .ep rows i off (.own pre.length) ∧ rows[i]? = some r ∧ r.length = sz ∧
    cellsAV (s.eval xx) = some xs ∧ AV.toDs xs = some ds ∧ off + ds.length ≤ sz ∧ ti P t = some j ∧ j.size = ds.length ∧
    K ⟨T0.set d (.sl (rows.set i (r.take off ++ ds ++ r.drop (off + ds.length))) (.own pre.length)), s.objs⟩

theorem ownSt_sound {P : Program} {n0 : Nat} {o : Oper} {s : AS} {K : AS → Prop} {G0 G : Ghost} {w0 w : World} {a : Act} (hn : G0.bl.length = n0) (h : ownSt P n0 o s K) (hf : From G0 w0 G s a w) :
    o.guard = none ∧ ∃ t ax xx, o.op = .store t ax xx ∧ o.dst = none ∧ ∃ w' G' s', (Instr.storeAt t (a.eval ax) (a.eval xx)).run P w = .ok () w' ∧ K s' ∧ From G0 w0 G' s' a w' := by
  obtain ⟨hg0, hdst, t, ax, xx, hop, pre, T0, d, rows, r, ds, sz, e, i, off, xs, j, hobjs, hn0, ⟨hT1, hT2⟩, hT3, hpre, hd, hax, hr, hrl, hcx, hds, hfit, hj, hjs, hk⟩ := h
  refine ⟨hg0, t, ax, xx, hop, hdst, ?_⟩
  have hm := hf.sat.mem
  rw [hobjs] at hm
  have hlen : G.bl.length = pre.length + 1 := by rw [hm.len]; simp
  obtain ⟨g, hg, hok⟩ := hm.obj (o := pre.length) (x := .tok rows.length sz e true) (by simp)
  have hil : i < rows.length := (List.getElem?_eq_some_iff.1 hr).1
  rcases hok with ⟨_, hex⟩ | ⟨b, cap, cur, rfl, hh, hc1, hc2, hc3, hc4, _⟩
  · have := hex rfl; omega
  have him : ∀ off, ¬ G.imm b off := hc4 rfl
  have tok_of : ∀ {v : Value}, TkOk G rows.length v (.own pre.length) → v = .slice (some ⟨b, 0, none⟩) rows.length cap := by
    intro v ht
    rcases ht with ⟨l, k1, _⟩ | ⟨b', l, c, sz', ex, k1, _, k3⟩
    · rw [hg] at k1; cases k1
    · rw [hg] at k1; cases k1; exact k3 rfl
  -- the address
  have hax' := hf.sat.eval ax
  rw [hax] at hax'
  -- the row itself
  have hdl : d < a.tmps.toList.length := by
    rw [hf.sat.tmps.1]; exact (List.getElem?_eq_some_iff.1 hd).1
  have hv := hf.sat.tmps.2 d _ _ hd (List.getElem?_eq_getElem hdl)
  have hxv := hf.sat.eval xx
  obtain ⟨us, e1, e2, e3, e4⟩ := cells_conc hxv hcx
  obtain ⟨hdl1, hdl2⟩ := toDs_spec hds
  have hul : us.length = ds.length := by rw [e2, hdl1]
  generalize a.eval ax = pa at hax'
  cases hax' with
  | ep _ _ _ _ b' st sz' hrows c ht =>
  have hbst := tok_of ht
  simp only [Value.slice.injEq, Option.some.injEq, Addr.mk.injEq] at hbst
  obtain ⟨⟨rfl, rfl, _⟩, _, rfl⟩ := hbst
  have hsz : sz' = sz := by rw [← hrows.1 i r hr, hrl]
  subst hsz
  have hmul : i * sz' + sz' ≤ c * sz' := by
    have : (i + 1) * sz' ≤ c * sz' := Nat.mul_le_mul_right _ (by omega)
    rwa [Nat.succ_mul] at this
  have hq : i * sz' + off + us.length ≤ cur.size := by rw [hc1]; omega
  have hrun := run_storeCells_at P b' (i * sz' + off) e us 0 cur w hh (by simpa using hq) (fun v hv => by
    obtain ⟨i, hi, rfl⟩ := List.mem_iff_getElem.1 hv
    exact e3 i _ (List.getElem?_eq_getElem hi))
  simp only [Nat.add_zero] at hrun
  generalize hw' : w.setRow b' (cur.toList.take (i * sz' + off) ++ us ++ cur.toList.drop (i * sz' + off + us.length)).toArray = w' at hrun
  have hsame : w'.heap[b']? = some (.cells (cur.toList.take (i * sz' + off) ++ us ++ cur.toList.drop (i * sz' + off + us.length)).toArray e (0, 0)) := by rw [← hw', setRow_heap w b' cur _ e (0, 0) hh]
  have hother : ∀ k, k ≠ b' → w'.heap[k]? = w.heap[k]? := fun k hk => by rw [← hw']; exact setRow_other w b' k _ hk
  have hsize : w'.heap.size = w.heap.size := by rw [← hw']; simp
  have hos : w'.os = w.os ∧ w'.tape = w.tape ∧ w'.output = w.output ∧ w'.drawn = w.drawn := by rw [← hw']; exact ⟨rfl, rfl, rfl, rfl⟩
  have hGe : G = ⟨G.bl.take pre.length ++ [.tok b' rows.length c sz' true], G.imm⟩ := by
    cases G with
    | mk bl imm =>
      have hlen' : bl.length = pre.length + 1 := hlen
      congr 1
      refine List.ext_getElem? fun q => ?_
      rcases Nat.lt_trichotomy q pre.length with h1 | h1 | h1
      · rw [List.getElem?_append_left (by simp; omega), List.getElem?_take, if_pos h1]
      · subst h1
        rw [List.getElem?_append_right (by rw [List.length_take]; omega), List.length_take, Nat.min_eq_left (by omega), Nat.sub_self]
        exact hg
      · rw [List.getElem?_eq_none (by omega), List.getElem?_eq_none (by simp; omega)]
  have hinj : ∀ (o : Nat) (g : GB), G.bl[o]? = some g → g.blk = some b' → o = pre.length := fun o g1 h1 h2 => hm.inj _ _ _ _ _ h1 hg h2 rfl
  have hmt := hm.trunc hpre
  have hextt : Ext ⟨G.bl.take pre.length, G.imm⟩ w ⟨G.bl.take pre.length, G.imm⟩ w' := by
    refine ⟨fun t b o hi => ?_, fun _ _ _ h => h, fun _ _ h => h, fun _ _ h => .inl h, fun _ b l c sz ex h => ⟨b, l, c, sz, ex, h, .inr ⟨rfl, rfl, rfl⟩⟩⟩
    refine cell_of_heap (hother b ?_) o
    rintro rfl
    rcases im_cases hi with hi | ⟨o', l, c, s, _, h7, _⟩
    · exact him _ hi
    · obtain ⟨h8, h9⟩ := take_get' h7
      have := hinj _ _ h9 rfl
      omega
  have hmt' : Mem ⟨G.bl.take pre.length, G.imm⟩ pre w' := by
    refine ⟨hmt.len, fun o x g1 hx hg1 => ?_, hmt.inj, fun o g1 b h1 h2 => by rw [hsize]; exact hmt.lt o g1 b h1 h2, fun b off h => by rw [hsize]; exact hmt.immLt.1 b off h, hmt.gl hextt⟩
    refine (hmt.ok o x g1 hx hg1).mono hextt (fun b hb => hother b ?_) (fun _ _ _ h => h)
    rintro rfl
    obtain ⟨h8, h9⟩ := take_get' hg1
    have := hinj _ _ h9 hb
    omega
  have hcell : ∀ p, w'.cell? ⟨b', p, none⟩ = if i * sz' + off ≤ p ∧ p < i * sz' + off + us.length then us[p - (i * sz' + off)]? else w.cell? ⟨b', p, none⟩ := by
    intro p
    rw [cell_at hsame, List.getElem?_toArray, seg_get cur.toList us (i * sz' + off) p (by simpa using hq), cell_at hh]
    split <;> simp
  have hm2 : Mem G (pre ++ [.tok rows.length sz' e true]) w' := by
    rw [hGe]
    refine Mem.push (G := ⟨G.bl.take pre.length, G.imm⟩) hmt' (.inr ⟨b', c, _, rfl, hsame, ?_, hc2, hc3, fun _ => him, fun h => by cases h⟩) ?_
    · simp only [List.size_toArray, List.length_append, List.length_take, List.length_drop, Array.length_toList]; omega
    · intro b hb
      cases hb
      rw [hsize]
      refine ⟨hm.lt _ _ _ hg rfl, fun o g1 h1 h2 => ?_⟩
      obtain ⟨h8, h9⟩ := take_get' h1
      have := hinj _ _ h9 h2
      omega
  have hstep : Step G0 w0 G w' := by
    have hs := hf.step
    have hb0 : ∀ t o, ¬ G0.im t b' o := by
      intro t o hi
      rcases im_cases hi with hi | ⟨o', l, c, s, ht1, h7, _⟩
      · exact him _ (hs.ext.imm _ _ hi)
      · have ho' : o' < n0 := by rw [← hn]; exact (List.getElem?_eq_some_iff.1 h7).1
        rcases im_cases (hs.ext.im _ _ _ hi) with hi2 | ⟨o2, l2, c2, s2, ht2, h72, _⟩
        · exact him _ hi2
        · have := hinj _ _ h72 rfl
          rw [ht1] at ht2
          cases ht2
          omega
    refine ⟨⟨fun t b o hi => ?_, hs.ext.im, hs.ext.obj, hs.ext.full, hs.ext.tok⟩, fun k hk hno => ?_, by rw [hsize]; exact hs.size, hos.1.trans hs.os, hos.2.1.trans hs.tape, ⟨hos.2.2.1.trans hs.output.1, by rw [hos.2.2.2]; exact hs.output.2⟩, hs.imm2, hs.blk⟩
    · rw [← hs.ext.cells t b o hi]
      refine cell_of_heap (hother b ?_) o
      rintro rfl
      exact hb0 _ _ hi
    · rw [← hs.heap k hk hno]
      refine hother k ?_
      rintro rfl
      rcases hs.blk _ _ _ hg rfl with h1 | ⟨o, g1, h1, h2⟩
      · omega
      · exact hno o g1 h1 h2
  refine ⟨w', G, _, ?_, hk, hstep, hobjs ▸ hm2, ?_, hf.sat.defers⟩
  · simp [Instr.storeAt, Instr.sureAddr, storeVar, e1, ti_size hj, hul, hjs, hrun]
  · refine ⟨by rw [List.length_set, hT1]; exact hf.sat.tmps.1, fun q x u hx hu => ?_⟩
    rw [List.getElem?_set] at hx
    by_cases hdq : d = q
    · subst hdq
      rw [List.getElem?_eq_getElem hdl] at hu
      cases hu
      split at hx
      · split at hx
        · cases hx
          cases hv with
          | sl _ _ _ hsl htk =>
            have hve := tok_of htk
            rw [hve] at hsl ⊢
            obtain ⟨a1, c1, hee, hn1, hc, hor⟩ := hsl
            simp only [Value.slice.injEq] at hee
            obtain ⟨rfl, _, rfl⟩ := hee
            rcases hor with rfl | ⟨b2, st2, sz2, ha, hrw⟩
            · simp at hil
            cases ha
            have hsz2 : sz2 = sz' := by rw [← hrw.1 i r hr, hrl]
            subst hsz2
            refine .sl _ _ _ ⟨_, _, by rw [List.length_set], by rw [List.length_set]; exact hn1, hc, .inr ⟨_, _, sz2, rfl, ?_, ?_⟩⟩ ?_
            · intro q r1 h1
              rw [List.getElem?_set] at h1
              split at h1
              · rename_i hiq
                subst hiq
                cases h1
                simp only [List.length_append, List.length_take, List.length_drop]; omega
              · exact hrw.1 q r1 h1
            · intro q p r1 dd h1 h2
              rw [hcell]
              have hqp : ∀ r1', rows[q]? = some r1' → p < sz2 → ∃ x, w.cell? ⟨b', 0 + q * sz2 + p, none⟩ = some x ∧ G.im (.own pre.length) b' (0 + q * sz2 + p) ∧ (∀ dd, r1'[p]? = some dd → DConc w G.imm dd x) := by
                intro r1' h3 hp
                have hl3 := hrw.1 q r1' h3
                obtain ⟨x, k1, k2, k3⟩ := hrw.2 q p r1' _ h3 (List.getElem?_eq_getElem (by omega))
                refine ⟨x, k1, k2, fun dd hdd => ?_⟩
                rw [List.getElem?_eq_getElem (by omega)] at hdd
                cases hdd; exact k3
              have hmono : ∀ {dd x}, DConc w G.imm dd x → DConc w' G.imm dd x := fun h => h.mono (fun bb oo hi => cell_of_heap (hother bb (by rintro rfl; exact him _ hi)) oo) (fun _ _ h => h)
              rw [List.getElem?_set] at h1
              split at h1
              · rename_i hiq
                subst hiq
                cases h1
                have hpl : p < sz2 := by
                  have := (List.getElem?_eq_some_iff.1 h2).1
                  simp only [List.length_append, List.length_take, List.length_drop] at this
                  omega
                obtain ⟨x, k1, k2, k3⟩ := hqp r hr hpl
                rw [seg_get r ds off p (by omega)] at h2
                split at h2
                · rename_i hpp
                  rw [if_pos (by omega)]
                  have hpe : 0 + i * sz2 + p - (i * sz2 + off) = p - off := by omega
                  rw [hpe]
                  have hpu : p - off < us.length := by omega
                  have hpx : p - off < xs.length := by omega
                  refine ⟨us[p - off], List.getElem?_eq_getElem hpu, k2, hmono ?_⟩
                  exact toD_conc (hdl2 _ _ _ (List.getElem?_eq_getElem hpx) h2) (e4 _ _ _ (List.getElem?_eq_getElem hpx) (List.getElem?_eq_getElem hpu))
                · rename_i hpp
                  rw [if_neg (by omega)]
                  exact ⟨x, k1, k2, hmono (k3 _ h2)⟩
              · rename_i hiq
                have hl1 := hrw.1 q r1 h1
                have hpl : p < sz2 := by rw [← hl1]; exact (List.getElem?_eq_some_iff.1 h2).1
                obtain ⟨x, k1, k2, k3⟩ := hqp r1 h1 hpl
                have hdis : ¬ (i * sz2 + off ≤ 0 + q * sz2 + p ∧ 0 + q * sz2 + p < i * sz2 + off + us.length) := by
                  rintro ⟨m1, m2⟩
                  rcases Nat.lt_or_gt_of_ne hiq with hlt | hlt
                  · have : (i + 1) * sz2 ≤ q * sz2 := Nat.mul_le_mul_right _ hlt
                    rw [Nat.succ_mul] at this
                    omega
                  · have : (q + 1) * sz2 ≤ i * sz2 := Nat.mul_le_mul_right _ hlt
                    rw [Nat.succ_mul] at this
                    omega
                rw [if_neg hdis]
                exact ⟨x, k1, k2, hmono (k3 _ h2)⟩
            · rw [List.length_set]
              exact .inr ⟨_, _, _, _, _, hg, Nat.le_refl _, fun _ => rfl⟩
        · cases hx
      · rename_i hne; exact absurd rfl hne
    · rw [if_neg hdq] at hx
      have hlt := belowL_get hT3 q x hx
      rcases hT2 q x hx with rfl | hx'
      · exact .any u
      · have h1 := (hf.sat.tmps.2 q x u hx' hu).trunc hlt
        have h2 := h1.mono hextt
        have h3 := h2.mono (ext_push ⟨G.bl.take pre.length, G.imm⟩ w' (.tok b' rows.length c sz' true))
        rw [← hGe] at h3
        exact h3

inductive AX where
  | normal | exit (id : Nat) | ret

def AX.ok : AX → Exit → Prop
  | .normal, .normal => True
  | .exit i, .exit j => i = j
  | .ret, .ret => True
  | _, _ => False

def Weak (n0 : Nat) (s s' : AS) : Prop :=
  ∀ G0 w0 G a w, G0.bl.length = n0 → From G0 w0 G s a w → ∃ G', From G0 w0 G' s' a w

theorem Weak.refl (n0 : Nat) (s : AS) : Weak n0 s s := fun _ _ G _ _ _ h => ⟨G, h⟩
theorem Weak.trans {n0 : Nat} {s1 s2 s3 : AS} (h : Weak n0 s1 s2) (k : Weak n0 s2 s3) : Weak n0 s1 s3 :=
  fun G0 w0 G a w hn hf => let ⟨G', hf'⟩ := h G0 w0 G a w hn hf; k G0 w0 G' a w hn hf'

def WeakS (n0 : Nat) (s : AS) (next : AS → Prop) : Prop :=
  ∀ G0 w0 G a w, G0.bl.length = n0 → From G0 w0 G s a w → ∃ s' G', From G0 w0 G' s' a w ∧ next s'
theorem WeakS.of {n0 : Nat} {s s' : AS} {next : AS → Prop} (h : Weak n0 s s') (k : next s') : WeakS n0 s next :=
  fun G0 w0 G a w hn hf => let ⟨G', hf'⟩ := h G0 w0 G a w hn hf; ⟨s', G', hf', k⟩
theorem WeakS.pre {n0 : Nat} {s s1 : AS} {next : AS → Prop} (h : Weak n0 s s1) (k : WeakS n0 s1 next) : WeakS n0 s next :=
  fun G0 w0 G a w hn hf => let ⟨G', hf'⟩ := h G0 w0 G a w hn hf; k G0 w0 G' a w hn hf'

def seqQ (n0 : Nat) (next : AS → Prop) (Q : AX → AS → Prop) : AX → AS → Prop
  | .normal, s => WeakS n0 s next
  | .exit i, s => Q (.exit i) s
  | .ret, s => Q .ret s

def blockQ (id : Nat) (Q : AX → AS → Prop) : AX → AS → Prop
  | .normal, s => Q .normal s
  | .exit i, s => if i = id then Q .normal s else Q (.exit i) s
  | .ret, s => Q .ret s

def loopQ (n0 : Nat) (I : Nat → AS → Prop) (n : Nat) (Q : AX → AS → Prop) : AX → AS → Prop
  | .normal, s => ∃ m s', Weak n0 s s' ∧ m < n ∧ I m s'
  | .exit i, s => Q (.exit i) s
  | .ret, s => Q .ret s

def adraw (P : Program) (ops : Array Oper) (s : AS) (K : AS → Prop) : Prop :=
  P.follows .mixedOrders = true ∧ ((Region.lexB .any ops = true ∧ (aopsQ P ops.toList ops.toList s K ∨ aopsC P ops ops.toList s K)) ∨
    (∃ m, lexT ops m = true ∧ aopsC P ops (ops.toList.take m) s (fun s' => aops P ops.toList (ops.toList.drop m) s' K (fun _ _ => False))) ∨ drawA P ops s K ∨
    ∃ (r : List (Bool × Nat)) (l : List (Bool × Oper)), r.length = ops.size ∧ permB ops r (Array.replicate ops.size false) = true ∧ permO ops.toList r l ∧ aopsX P ops K l s)

def awp (P : Program) (n0 : Nat) : Code → AS → (AX → AS → Prop) → (AV → List Obj → Prop) → Prop
  | .skip, s, Q, _ => Q .normal s
  | .region _ ops draw, s, Q, E => (draw = false → aops P ops.toList ops.toList s (Q .normal) E ∨ ∃ (rs : List Oper) (o : Oper), ops.toList = rs ++ [o] ∧ aops P ops.toList rs s (fun s1 => ownSt P n0 o s1 (Q .normal)) E) ∧ (draw = true → adraw P ops s (Q .normal))
  | .seq a b, s, Q, E => awp P n0 a s (seqQ n0 (fun s' => awp P n0 b s' Q E) Q) E
  | .cond c t e, s, Q, E => (match s.eval c with | .v (.bool b) => (b = true → awp P n0 t s Q E) ∧ (b = false → awp P n0 e s Q E) | _ => False)
  | .block id c, s, Q, E => awp P n0 c s (blockQ id Q) E
  | .loop c, s, Q, E => ∃ I : Nat → AS → Prop, (∃ n s', Weak n0 s s' ∧ I n s') ∧ ∀ n s', I n s' → awp P n0 c s' (loopQ n0 I n Q) E
  | .exit id, s, Q, _ => Q (.exit id) s
  | .ret, s, Q, _ => Q .ret s
  | _, _, _, _ => False

theorem wp_loopN {P : Program} {Q : Exit → Act → World → Prop} {c : Code} (I : Nat → Act → World → Prop)
    (round : ∀ n a w, I n a w → c.wp P (Exit.then (fun a' w' => ∃ m, m < n ∧ I m a' w') Q) a w) {n : Nat} {a : Act} {w : World} (h₀ : I n a w) : (Code.loop c).wp P Q a w := by
  intro b k cs
  have key : ∀ n a w, I n a w →
      ∃ e a' w', Q e a' w' ∧ Arrives P (lone (b.at a (.code c :: .inLoop c :: k)) cs w) b k cs e a' w' := by
    intro n
    induction n using Nat.strongRecOn with
    | _ n ih =>
      intro a w hI
      obtain ⟨e, a₁, w₁, hq, harr⟩ := round n a w hI b (.inLoop c :: k) cs
      cases e with
      | normal =>
        obtain ⟨m, hlt, hI₁⟩ := hq
        obtain ⟨e₂, a₂, w₂, hq₂, harr₂⟩ := ih m hlt a₁ w₁ hI₁
        exact ⟨e₂, a₂, w₂, hq₂, .of_steps (Steps.trans harr (.one step_inLoop)) harr₂⟩
      | exit id => exact ⟨_, a₁, w₁, hq, .pass (x := .inLoop c) rfl (fun _ _ => .inl (by simp)) harr⟩
      | goto l => exact ⟨_, a₁, w₁, hq, .pass (x := .inLoop c) rfl (fun _ _ => .inl (by simp)) harr⟩
      | ret => exact ⟨_, a₁, w₁, hq, .pass (x := .inLoop c) rfl (fun _ _ => .inl (by simp)) harr⟩
      | panic ch => exact ⟨_, a₁, w₁, hq, .pass (x := .inLoop c) rfl (fun _ _ => .inl (by simp)) harr⟩
      | outgrown => exact ⟨_, a₁, w₁, hq, .pass (x := .inLoop c) rfl (fun _ _ => .inl (by simp)) harr⟩
  obtain ⟨e, a', w', hq, harr⟩ := key _ a w h₀
  exact ⟨e, a', w', hq, .of_steps (.one step_loop) harr⟩

def QOk (G0 : Ghost) (w0 : World) (Q : AX → AS → Prop) (E : AV → List Obj → Prop) (e : Exit) (a : Act) (w : World) : Prop :=
  (∃ ax s G, Q ax s ∧ ax.ok e ∧ From G0 w0 G s a w) ∨
  (∃ x objs G v, E x objs ∧ a.defers = [] ∧ Mem G objs w ∧ Step G0 w0 G w ∧ Conc G w x v ∧ e = .panic [{ v, recovered := false }])

theorem From.drew {G0 : Ghost} {w0 : World} {G : Ghost} {s : AS} {a : Act} {w : World} (h : From G0 w0 G s a w) : From G0 w0 G s a w.drew := by
  obtain ⟨s1, s2⟩ := More.step h.sat.mem ((More.refl w).drew) (imm' := G.imm) (fun _ _ h => h) (fun _ _ h => .inl h)
  exact ⟨h.step.trans s1, ⟨s2, h.sat.tmps.mono s1.ext, h.sat.defers⟩⟩

theorem awp_sound {P : Program} {n0 : Nat} {G0 : Ghost} {w0 : World} (hn : G0.bl.length = n0) {E : AV → List Obj → Prop}
    (hsch : ∀ (ops : Array Oper) t, ∀ i ∈ Region.schedule (P.follows .mixedOrders) ops t, i < ops.size) :
    ∀ (c : Code) (s : AS) (Q : AX → AS → Prop) (G : Ghost) (a : Act) (w : World), awp P n0 c s Q E → From G0 w0 G s a w → c.wp P (QOk G0 w0 Q E) a w
  | .skip, s, Q, G, a, w, h, hf => wp_skip (.inl ⟨.normal, s, G, h, trivial, hf⟩)
  | .exit id, s, Q, G, a, w, h, hf => wp_exit (.inl ⟨.exit id, s, G, h, rfl, hf⟩)
  | .ret, s, Q, G, a, w, h, hf => wp_ret (.inl ⟨.ret, s, G, h, trivial, hf⟩)
  | .region id ops false, s, Q, G, a, w, h, hf => by
    refine wp_region_list ?_
    rcases h.1 rfl with h | ⟨rs, o, hops, h⟩
    · have := aops_sound (P := P) (ops := ops.toList) (G0 := G0) (w0 := w0) (K := Q .normal) (E := E) (Q := QOk G0 w0 Q E)
        (fun s G a w h1 h2 => .inl ⟨.normal, s, G, h1, trivial, h2⟩) (fun x objs G v a w h1 h2 h3 h4 h5 => .inr ⟨x, objs, G, v, h1, h2, h3, h4, h5, rfl⟩) ops.toList s G a w h hf
      simpa using this
    · have := aops_sound_tl (P := P) (ops := ops.toList) (G0 := G0) (w0 := w0) (K := fun s1 => ownSt P n0 o s1 (Q .normal)) (E := E) (Q := QOk G0 w0 Q E) (tl := [o])
        (fun s G a w h1 h2 => by
          obtain ⟨hg, t, ax, xx, hop, hdst, w', G', s', hrun, hk, hf'⟩ := ownSt_sound hn h1 h2
          refine wpList_step fun K' hK' => ?_
          rw [if_pos (by simp [Region.wanted, hg])]
          unfold Oper.wp
          simp only [execOp, hop, Sem.run_bind, hrun, Result.andThen_ok, Sem.run_pure, Oper.upon]
          refine hK' _ _ (.inl ⟨.normal, s', G', hk, trivial, ?_⟩)
          rw [hdst]
          exact hf') (fun x objs G v a w h1 h2 h3 h4 h5 => .inr ⟨x, objs, G, v, h1, h2, h3, h4, h5, rfl⟩) rs s G a w h hf
      rw [← hops] at this
      simpa using this
  | .region id ops true, s, Q, G, a, w, h, hf => by
    have hd := hf.drew
    obtain ⟨h1, ⟨h2, h3⟩ | ⟨m, h2, h3⟩ | h4 | ⟨r, l, k1, k2, k3, k4⟩⟩ := h.2 rfl
    case inr.inr.inr => exact region_perm (G0 := G0) (w0 := w0) (G := G) (s := s) h1 k1 k2 k3 (fun G s a w k1 k2 => .inl ⟨.normal, s, G, k1, trivial, k2⟩) k4 hd
    case inr.inr.inl => exact region_alloc (G0 := G0) (w0 := w0) (G := G) (s := s) h1 (fun G s a w k1 k2 => .inl ⟨.normal, s, G, k1, trivial, k2⟩) (fun c d u a w hq => by
        rcases hq with ⟨ax, s, G, _, h2, _⟩ | ⟨x, objs, G, v, h1, h2, h3, h4, h5, h6⟩
        · cases ax <;> exact h2.elim
        · exact .inr ⟨x, objs, G, v, h1, by rw [Act.put_defers] at h2; exact h2, h3, h4, h5, h6⟩) h4 hd
    case inr.inl => exact region_tail (G0 := G0) (w0 := w0) (G := G) (s := s) h1 h2 (fun G s a w k1 k2 => .inl ⟨.normal, s, G, k1, trivial, k2⟩) (fun x objs G v a w hf => hf.elim) h3 hd
    rcases h3 with h3 | h3
    · refine wp_region_quiet (C := fun w' => w' = w.drew) h1 h2 rfl ?_
      have := aopsQ_sound (P := P) (ops := ops.toList) (K := Q .normal) (G := G) (w := w.drew) (Q := fun a' => ∀ w', w' = w.drew → QOk G0 w0 Q E .normal a' w')
        (fun s a' k1 k2 w' hw' => by subst hw'; exact .inl ⟨.normal, s, G, k1, trivial, hd.step, k2⟩) ops.toList s a h3 hd.sat
      simpa using this
    · exact region_comm (G0 := G0) (w0 := w0) (G := G) (s := s) h1 h2 (fun G s a w k1 k2 k3 => .inl ⟨.normal, s, G, k1, trivial, k2, k3⟩) h3 hd.step hd.sat
  | .seq x y, s, Q, G, a, w, h, hf => by
    refine wp_seq ?_
    refine wp_mono (awp_sound hn hsch x s _ G a w h hf) ?_
    rintro e a' w' (⟨ax, s', G', h1, h2, h3⟩ | hp)
    · cases ax <;> cases e <;> first | exact h2.elim | skip
      · obtain ⟨s1, G1, hf1, h1⟩ := h1 G0 w0 G' a' w' hn h3
        exact awp_sound hn hsch y s1 Q G1 a' w' h1 hf1
      · exact .inl ⟨_, s', G', h1, h2, h3⟩
      · exact .inl ⟨_, s', G', h1, h2, h3⟩
    · obtain ⟨x', objs, G', v, h1, h2, h3, h4, h5, rfl⟩ := hp
      exact .inr ⟨x', objs, G', v, h1, h2, h3, h4, h5, rfl⟩
  | .cond c x y, s, Q, G, a, w, h, hf => by
    simp only [awp] at h
    split at h
    · rename_i b hb
      have hv := conc_v (hb ▸ hf.sat.eval c)
      exact wp_cond_split hv (fun hb => awp_sound hn hsch x s Q G a w (h.1 hb) hf) (fun hb => awp_sound hn hsch y s Q G a w (h.2 hb) hf)
    · exact h.elim
  | .block id c, s, Q, G, a, w, h, hf => by
    refine wp_block ?_
    refine wp_mono (awp_sound hn hsch c s _ G a w h hf) ?_
    rintro e a' w' (⟨ax, s', G', h1, h2, h3⟩ | hp)
    · cases ax with
      | normal => cases e <;> first | exact h2.elim | exact .inl ⟨.normal, s', G', h1, trivial, h3⟩
      | ret => cases e <;> first | exact h2.elim | exact .inl ⟨.ret, s', G', h1, trivial, h3⟩
      | exit i =>
        cases e <;> first | exact h2.elim | skip
        rename_i j
        cases h2
        simp only [blockQ] at h1
        simp only [Exit.inBlock]
        split
        · rename_i hij
          rw [if_pos hij] at h1
          exact .inl ⟨.normal, s', G', h1, trivial, h3⟩
        · rename_i hij
          rw [if_neg hij] at h1
          exact .inl ⟨.exit i, s', G', h1, rfl, h3⟩
    · obtain ⟨x', objs, G', v, h1, h2, h3, h4, h5, rfl⟩ := hp
      exact .inr ⟨x', objs, G', v, h1, h2, h3, h4, h5, rfl⟩
  | .loop c, s, Q, G, a, w, h, hf => by
    obtain ⟨I, ⟨n, s1, hw1, hI⟩, hround⟩ := h
    obtain ⟨G1, hf1⟩ := hw1 G0 w0 G a w hn hf
    refine wp_loopN (fun n a w => ∃ s G, I n s ∧ From G0 w0 G s a w) ?_ (n := n) ⟨s1, G1, hI, hf1⟩
    rintro n a w ⟨s', G', hI', hf'⟩
    refine wp_mono (awp_sound hn hsch c s' _ G' a w (hround n s' hI') hf') ?_
    rintro e a' w' (⟨ax, s2, G2, h1, h2, h3⟩ | hp)
    · cases ax <;> cases e <;> first | exact h2.elim | skip
      · obtain ⟨m, s3, hw3, hlt, hI3⟩ := h1
        obtain ⟨G3, hf3⟩ := hw3 G0 w0 G2 a' w' hn h3
        exact ⟨m, hlt, s3, G3, hI3, hf3⟩
      · exact .inl ⟨_, s2, G2, h1, h2, h3⟩
      · exact .inl ⟨_, s2, G2, h1, h2, h3⟩
    · obtain ⟨x', objs, G', v, h1, h2, h3, h4, h5, rfl⟩ := hp
      exact .inr ⟨x', objs, G', v, h1, h2, h3, h4, h5, rfl⟩
  | .rangeFunc .., _, _, _, _, _, h, _ => h.elim
  | .scope .., _, _, _, _, _, h, _ => h.elim
  | .label .., _, _, _, _, _, h, _ => h.elim
  | .goto .., _, _, _, _, _, h, _ => h.elim
  | .refuse .., _, _, _, _, _, h, _ => h.elim

end Go.Proofs.YtcpjmkbcefmldaaGreatDoor.AM

/- Functions: from their bodies to their contracts. -/
namespace Go.Proofs.YtcpjmkbcefmldaaGreatDoor.AM
open Go

theorem linearise_lt (m : Region.Mode) (ops : Array Oper) : ∀ (fuel t : Nat) (listed : Array Bool) (acc : List Nat), (∀ i ∈ acc, i < ops.size) → ∀ i ∈ Region.linearise.go m ops fuel t listed acc, i < ops.size
  | 0, t, listed, acc, h, i, hi => by
    simp only [Region.linearise.go, List.mem_reverse] at hi
    exact h i hi
  | fuel + 1, t, listed, acc, h, i, hi => by
    simp only [Region.linearise.go] at hi
    split at hi
    · rename_i j hj
      refine linearise_lt m ops fuel _ _ _ ?_ i hi
      intro q hq
      rcases List.mem_cons.1 hq with rfl | hq
      · have := List.mem_of_getElem? hj
        simp only [List.mem_filter, List.mem_range] at this
        exact this.1
      · exact h q hq
    · simp only [List.mem_reverse] at hi
      exact h i hi

theorem schedule_lt (mixed : Bool) (ops : Array Oper) (t : Nat) : ∀ i ∈ Region.schedule mixed ops t, i < ops.size := by
  intro i hi
  unfold Region.schedule at hi
  split at hi
  · exact linearise_lt _ ops _ _ _ _ (by simp) i hi
  · exact linearise_lt _ ops _ _ _ _ (by simp) i hi

def loadO (P : Program) (objs : List Obj) (t : TypeId) (x : AV) : Option AV :=
  match ti P t, x with
  | some i, .ptr o off =>
    match objs[o]? with
    | some (.box cells) =>
      if off + i.size ≤ cells.length then (if i.isAgg then some (.agg ((cells.drop off).take i.size)) else if i.size = 1 then some (cells.getD off .any) else none) else none
    | _ => none
  | _, _ => none

def resO (P : Program) (s : AS) : ResultVar → Option AV
  | .tmp t => some (s.tmps.getD t .any)
  | .cell a t => loadO P s.objs t (s.tmps.getD a .any)

def resL (P : Program) (s : AS) : List ResultVar → Option (List AV)
  | [] => some []
  | r :: rs =>
    match resO P s r, resL P s rs with
    | some x, some xs => some (x :: xs)
    | _, _ => none

def oneOf : List AV → AV
  | [x] => x
  | xs => .tup xs

def resAV (P : Program) (s : AS) (rs : List ResultVar) : Option AV := (resL P s rs).map oneOf

theorem loadO_sound {P : Program} {G : Ghost} {objs : List Obj} {w : World} {t : TypeId} {x y : AV} {v : Value} (h : loadO P objs t x = some y) (hm : Mem G objs w) (hx : Conc G w x v) :
    ∃ r ad, v = .pointer (some ad) ∧ (loadVar t ad).run P w = .ok r w ∧ Conc G w y r := by
  have hl : loadAV P objs t x (fun z => z = y) := by
    unfold loadO at h
    unfold loadAV
    split at h
    · rename_i i o off hi
      simp only [hi]
      split at h
      · rename_i cells hob
        simp only [hob]
        split at h
        · rename_i hle
          refine ⟨hle, ?_⟩
          split at h
          · rename_i ha; rw [if_pos ha]; exact Option.some.inj h
          · rename_i ha
            rw [if_neg ha]
            split at h
            · rename_i h1; exact ⟨h1, Option.some.inj h⟩
            · cases h
        · cases h
      · cases h
    · cases h
  obtain ⟨r, z, h1, h2, rfl⟩ := load_sound (P := P) hl hm hx
  have : ∃ ad, v = .pointer (some ad) := by
    unfold loadO at h
    split at h
    · rename_i i o off hi
      cases hx with
      | ptr _ _ b hb => exact ⟨_, rfl⟩
    · cases h
  obtain ⟨ad, rfl⟩ := this
  refine ⟨r, ad, rfl, ?_, h2⟩
  simpa [Instr.loadAt, Instr.sureAddr] using h1

theorem resL_sound {P : Program} {G : Ghost} {s : AS} {a : Act} {w : World} (hs : Sat G s a w) : ∀ {rs : List ResultVar} {xs : List AV}, resL P s rs = some xs →
    ∃ vs, (rs.mapM (fun | .tmp t => pure (a.tmps.getD t undef) | .cell p t => do loadVar t (← asAddr (a.tmps.getD p undef)) : ResultVar → Sem Value)).run P w = .ok vs w ∧ ConcL G w xs vs
  | [], xs, h => by cases h; exact ⟨[], by simp, rfl, fun i x v hx => by simp at hx⟩
  | r :: rs, xs, h => by
    simp only [resL] at h
    cases h1 : resO P s r with
    | none => simp [h1] at h
    | some x =>
      cases h2 : resL P s rs with
      | none => simp [h1, h2] at h
      | some xs' =>
        simp only [h1, h2, Option.some.injEq] at h
        subst h
        obtain ⟨vs, k1, k2⟩ := resL_sound hs h2
        have hone : ∃ v, ((fun | .tmp t => pure (a.tmps.getD t undef) | .cell p t => do loadVar t (← asAddr (a.tmps.getD p undef)) : ResultVar → Sem Value) r).run P w = .ok v w ∧ Conc G w x v := by
          cases r with
          | tmp t =>
            cases h1
            exact ⟨_, rfl, hs.raw (.tmp t)⟩
          | cell p t =>
            have hp := hs.raw (.tmp p)
            obtain ⟨r', ad, e1, e2, e3⟩ := loadO_sound (P := P) h1 hs.mem hp
            refine ⟨r', ?_, e3⟩
            have e1' : a.tmps.getD p undef = .pointer (some ad) := e1
            simp only [e1', asAddr, Sem.run_bind, Sem.run_pure, Result.andThen_ok]
            exact e2
        obtain ⟨v, e1, e2⟩ := hone
        refine ⟨v :: vs, ?_, by simp [k2.1], fun i y u hy hu => ?_⟩
        · simp only [List.mapM_cons, Sem.run_bind, e1, Result.andThen_ok, k1, Sem.run_pure]
        · cases i with
          | zero => simp at hy hu; subst hy; subst hu; exact e2
          | succ i => exact k2.2 i y u (by simpa using hy) (by simpa using hu)

theorem resAV_sound {P : Program} {G : Ghost} {s : AS} {a : Act} {w : World} (hs : Sat G s a w) {fn : Func} {x : AV} (h : resAV P s fn.results.toList = some x) :
    ∃ v, (results fn a.tmps).run P w = .ok v w ∧ Conc G w x v := by
  unfold resAV at h
  cases h1 : resL P s fn.results.toList with
  | none => simp [h1] at h
  | some xs =>
    simp only [h1, Option.map_some, Option.some.injEq] at h
    subst h
    obtain ⟨vs, k1, k2⟩ := resL_sound hs h1
    have hrun : (fn.results.mapM (fun | .tmp t => pure (a.tmps.getD t undef) | .cell p t => do loadVar t (← asAddr (a.tmps.getD p undef)) : ResultVar → Sem Value)).run P w = .ok vs.toArray w := by
      rw [← Array.toArray_toList (xs := fn.results), List.mapM_toArray]
      change Sem.run P (do let a ← List.mapM _ fn.results.toList; pure a.toArray) w = _
      rw [Sem.run_bind, k1]
      rfl
    refine ⟨if h : vs.toArray.size = 1 then vs.toArray[0] else .tuple vs.toArray, ?_, ?_⟩
    · unfold results
      rw [Sem.run_bind]
      exact congrArg (fun r : Result (Array Value) => r.andThen fun (a : Array Value) w' => Sem.run P (pure (if h : a.size = 1 then a[0] else .tuple a)) w') hrun
    · match xs, vs, k2 with
      | [], [], _ => exact .tup [] [] rfl (fun i c v hc => by simp at hc)
      | [x], [v], k2 => exact k2.2 0 x v rfl rfl
      | x :: y :: xs, u :: v :: vs, k2 =>
        have : ¬ ((u :: v :: vs).toArray.size = 1) := by simp
        rw [dif_neg this]
        exact .tup _ _ k2.1 k2.2
      | [], _ :: _, k2 => exact absurd k2.1 (by simp)
      | [_], [], k2 => exact absurd k2.1 (by simp)
      | [_], _ :: _ :: _, k2 => exact absurd k2.1 (by simp)
      | _ :: _ :: _, [], k2 => exact absurd k2.1 (by simp)
      | _ :: _ :: _, [_], k2 => exact absurd k2.1 (by simp)

def bodyQ (P : Program) (n0 : Nat) (rs : List ResultVar) (R : AEnd → List Obj → Prop) : AX → AS → Prop
  | .exit _, _ => False
  | _, s => ∃ x, resAV P s rs = some x ∧ ∃ x' objs', Weak n0 ⟨[x], s.objs⟩ ⟨[x'], objs'⟩ ∧ R (.ret x') objs'

theorem ACall.of_awp {P : Program} {f : Nat} {fn : Func} {c : Code} {args : List AV} {objs : List Obj} {R : AEnd → List Obj → Prop} (hf : P.funcs[f]? = some fn) (hb : fn.body = some c)
    (h : awp P objs.length c ⟨args ++ List.replicate (fn.ntmps - args.length) .any, objs⟩ (bodyQ P objs.length fn.results.toList R) (fun x objs' => R (.pan x) objs')) : ACall P f args objs R := by
  intro G w vs hm hc
  refine calls_of_wp hf hb ?_
  have hsat : Sat G ⟨args ++ List.replicate (fn.ntmps - args.length) .any, objs⟩ { tmps := vs.toArray ++ Array.replicate (fn.ntmps - vs.toArray.size) undef, defers := [] } w := by
    refine ⟨hm, ?_, rfl⟩
    have := hc.append (ys := List.replicate (fn.ntmps - args.length) .any) (vs := List.replicate (fn.ntmps - args.length) undef) ⟨by simp, fun i x v hx hv => by
      rw [List.getElem?_replicate] at hx
      split at hx
      · cases hx; exact .any v
      · cases hx⟩
    simpa [hc.1] using this
  refine wp_mono (awp_sound hm.len (fun ops t i hi => schedule_lt _ ops t i hi) c _ _ G _ w h ⟨Step.refl G w, hsat⟩) ?_
  rintro e a' w' (⟨ax, s', G', h1, h2, h3⟩ | ⟨x, objs', G', v, h1, h2, h3, h4, h5, rfl⟩)
  · have key : (∃ x, resAV P s' fn.results.toList = some x ∧ ∃ x' objs', Weak objs.length ⟨[x], s'.objs⟩ ⟨[x'], objs'⟩ ∧ R (.ret x') objs') → a'.defers = [] ∧ ∃ v, (results fn a'.tmps).run P w' = .ok v w' ∧
        ∃ ae objs' G', R ae objs' ∧ Mem G' objs' w' ∧ Step G w G' w' ∧ EndOk G' w' ae (.returned v) := by
      rintro ⟨x, k2, x', objs', k1, k3⟩
      obtain ⟨v, hv, hcv⟩ := resAV_sound (P := P) h3.sat k2
      have hone : From G w G' ⟨[x], s'.objs⟩ { tmps := #[v], defers := [] } w' := ⟨h3.step, h3.sat.mem, ⟨rfl, fun i y u hy hu => by
        cases i with
        | zero => simp at hy hu; subst hy; subst hu; exact hcv
        | succ i => simp at hy⟩, rfl⟩
      obtain ⟨G'', hf''⟩ := k1 G w G' _ w' hm.len hone
      have hcv' := hf''.sat.tmps.2 0 x' v rfl rfl
      exact ⟨h3.sat.defers, v, hv, .ret x', objs', G'', k3, hf''.sat.mem, hf''.step, hcv'⟩
    cases ax <;> cases e <;> first | exact h2.elim | skip
    · exact key h1
    · exact h1.elim
    · exact key h1
  · exact ⟨h2, .pan x, objs', G', h1, h3, h4, v, rfl, h5⟩

/-! ### What may be forgotten -/

def AV.le0 (x y : AV) : Prop :=
  y = .any ∨ x = y ∨ (∃ rows t, x = .sl rows t ∧ t.isOwn = false ∧ y = .sl rows .none) ∨ (x = .v (.slice none 0 0) ∧ (y = .sl [] .none ∨ y = .sl [] .exact))

def AV.le0L : List AV → List AV → Prop
  | [], [] => True
  | x :: xs, y :: ys => x.le0 y ∧ AV.le0L xs ys
  | _, _ => False

def AV.le (x y : AV) : Prop := x.le0 y ∨ ∃ cs ds, x = .agg cs ∧ y = .agg ds ∧ AV.le0L cs ds

theorem AV.le_any (x : AV) : x.le .any := .inl (.inl rfl)
theorem AV.le_refl (x : AV) : x.le x := .inl (.inr (.inl rfl))
theorem AV.le_sl (rows : List (List D)) : (AV.sl rows .exact).le (.sl rows .none) := .inl (.inr (.inr (.inl ⟨rows, .exact, rfl, rfl, rfl⟩)))
theorem AV.le_sln (rows : List (List D)) (t : Tk) (h : t.isOwn = false) : (AV.sl rows t).le (.sl rows .none) := .inl (.inr (.inr (.inl ⟨rows, t, rfl, h, rfl⟩)))
theorem AV.le_nil : (AV.v (.slice none 0 0)).le (.sl [] .none) := .inl (.inr (.inr (.inr ⟨rfl, .inl rfl⟩)))
theorem AV.le_agg {cs ds : List AV} (h : AV.le0L cs ds) : (AV.agg cs).le (.agg ds) := .inr ⟨cs, ds, rfl, rfl, h⟩
theorem AV.le0_refl (x : AV) : x.le0 x := .inr (.inl rfl)
theorem AV.le0_nil : (AV.v (.slice none 0 0)).le0 (.sl [] .none) := .inr (.inr (.inr ⟨rfl, .inl rfl⟩))
theorem AV.le0_sl (rows : List (List D)) (t : Tk) (h : t.isOwn = false) : (AV.sl rows t).le0 (.sl rows .none) := .inr (.inr (.inl ⟨rows, t, rfl, h, rfl⟩))

theorem AV.le0_sound {G : Ghost} {w : World} {x y : AV} {v : Value} (h : x.le0 y) (hc : Conc G w x v) : Conc G w y v := by
  rcases h with rfl | rfl | ⟨rows, t, rfl, ho, rfl⟩ | ⟨rfl, rfl | rfl⟩
  · exact .any v
  · exact hc
  · cases hc with
    | sl _ _ _ hd _ => exact .sl _ .none _ (by rw [im_of_not_own G (t := .none) (t' := t) rfl ho]; exact hd) trivial
  · cases hc; exact .sl [] .none _ (SlC.nil none 0 (by simp [maxLen])) trivial
  · cases hc; exact .sl [] .exact _ (SlC.nil none 0 (by simp [maxLen])) ⟨none, rfl⟩

theorem AV.le0L_len : ∀ {xs ys : List AV}, AV.le0L xs ys → xs.length = ys.length
  | [], [], _ => rfl
  | _ :: xs, _ :: ys, h => by simp [AV.le0L_len (xs := xs) (ys := ys) h.2]
  | [], _ :: _, h => h.elim
  | _ :: _, [], h => h.elim
theorem AV.le0L_get : ∀ {xs ys : List AV}, AV.le0L xs ys → ∀ (i : Nat) (x y : AV), xs[i]? = some x → ys[i]? = some y → x.le0 y
  | [], [], _, i, x, y, h, _ => by simp at h
  | a :: xs, b :: ys, h, 0, x, y, h1, h2 => by simp at h1 h2; subst h1; subst h2; exact h.1
  | a :: xs, b :: ys, h, i + 1, x, y, h1, h2 => AV.le0L_get (xs := xs) (ys := ys) h.2 i x y (by simpa using h1) (by simpa using h2)
  | [], _ :: _, h, _, _, _, _, _ => h.elim
  | _ :: _, [], h, _, _, _, _, _ => h.elim

theorem AV.le_sound {G : Ghost} {w : World} {x y : AV} {v : Value} (h : x.le y) (hc : Conc G w x v) : Conc G w y v := by
  rcases h with h | ⟨cs, ds, rfl, rfl, h⟩
  · exact AV.le0_sound h hc
  · cases hc with
    | agg _ vs hl h1 h2 =>
      refine .agg ds vs (by rw [hl, AV.le0L_len h]) h1 fun i c u hcc hu => ?_
      have hi : i < cs.length := by rw [AV.le0L_len h]; exact (List.getElem?_eq_some_iff.1 hcc).1
      exact AV.le0_sound (AV.le0L_get h i cs[i] c (List.getElem?_eq_getElem hi) hcc) (h2 i cs[i] u (List.getElem?_eq_getElem hi) hu)

def AV.leL : List AV → List AV → Prop
  | [], [] => True
  | x :: xs, y :: ys => x.le y ∧ AV.leL xs ys
  | _, _ => False

theorem AV.leL_sound {G : Ghost} {w : World} : ∀ {xs ys : List AV} {vs : List Value}, AV.leL xs ys → ConcL G w xs vs → ConcL G w ys vs
  | [], [], _, _, h => h
  | x :: xs, y :: ys, vs, hl, h => by
    obtain ⟨h1, h2⟩ := hl
    cases vs with
    | nil => exact absurd h.1 (by simp)
    | cons v vs =>
      have ih := AV.leL_sound (vs := vs) h2 ⟨by simpa using h.1, fun i c u hc hu => h.2 (i + 1) c u (by simpa using hc) (by simpa using hu)⟩
      refine ⟨by simp [ih.1], fun i c u hc hu => ?_⟩
      cases i with
      | zero => simp at hc hu; subst hc; subst hu; exact AV.le_sound h1 (h.2 0 x v rfl rfl)
      | succ i => exact ih.2 i c u (by simpa using hc) (by simpa using hu)
  | [], _ :: _, _, h, _ => h.elim
  | _ :: _, [], _, h, _ => h.elim

theorem Weak.le {n0 : Nat} {s : AS} {tmps : List AV} (h : AV.leL s.tmps tmps) : Weak n0 s ⟨tmps, s.objs⟩ :=
  fun _ _ G _ _ _ hf => ⟨G, hf.step, hf.sat.mem, AV.leL_sound h hf.sat.tmps, hf.sat.defers⟩

theorem Weak.drop {n0 : Nat} {s : AS} (objs extra : List Obj) (ho : s.objs = objs ++ extra) (hn : n0 ≤ objs.length) (h1 : AV.idsLtL objs.length s.tmps = true) (h2 : belowObjs objs.length objs = true) :
    Weak n0 s ⟨s.tmps, objs⟩ := by
  intro G0 w0 G a w hn0 hf
  refine ⟨⟨G.bl.take objs.length, G.imm⟩, ?_, ?_, ?_, hf.sat.defers⟩
  · have key : ∀ (o : Nat) (g : GB), G0.bl[o]? = some g → o < objs.length := by
      intro o g hg
      have : o < G0.bl.length := by
        rcases Nat.lt_or_ge o G0.bl.length with h | h
        · exact h
        · rw [List.getElem?_eq_none h] at hg; cases hg
      omega
    refine ⟨⟨hf.step.ext.cells, ?_, fun o b h => take_get (key o _ h) (hf.step.ext.obj o b h), ?_, ?_⟩, hf.step.heap, hf.step.size, hf.step.os, hf.step.tape, hf.step.output, hf.step.imm2, ?_⟩
    · intro t b off ht
      have h' := hf.step.ext.im t b off ht
      rcases im_cases ht with hi | ⟨o, len, cap, sz, rfl, h1, _⟩
      · exact Ghost.imm_im _ t (hf.step.ext.imm b off hi)
      · exact im_trunc (by simp only [Tk.idsLt, decide_eq_true_eq]; exact key o _ h1) h'
    · intro o l h
      rcases hf.step.ext.full o l h with h' | ⟨b, l', c, sz, ex, h', hlt⟩
      · exact .inl (take_get (key o _ h) h')
      · exact .inr ⟨b, l', c, sz, ex, take_get (key o _ h) h', hlt⟩
    · intro o b l c sz ex h
      obtain ⟨b', l', c', sz', ex', h', hx⟩ := hf.step.ext.tok o b l c sz ex h
      exact ⟨b', l', c', sz', ex', take_get (key o _ h) h', hx⟩
    · intro o g b h hb
      exact hf.step.blk o g b (take_get' h).2 hb
  · have hm := hf.sat.mem
    have hlen : G.bl.length = objs.length + extra.length := by rw [hm.len, ho, List.length_append]
    refine ⟨by simp; omega, ?_, ?_, ?_, hm.immLt⟩
    · intro o x g hx hg
      obtain ⟨hol, hg'⟩ := take_get' hg
      have hx' : s.objs[o]? = some x := by rw [ho, List.getElem?_append_left hol]; exact hx
      have hok := hm.ok o x g hx' hg'
      have hb := belowObjs_get h2 o x hx
      cases x with
      | box cells =>
        rcases hok with hok | ⟨b, c, e, e1, e2, e3, e4, e5⟩
        · exact .inl hok
        exact .inr ⟨b, c, e, e1, e2, e3, fun j x v hj hv => ⟨(e4 j x v hj hv).1, (e4 j x v hj hv).2.trunc (belowL_get (by simpa [Obj.idsLt] using hb) j x hj)⟩, e5⟩
      | tok len sz e ex => exact hok
      | map es =>
        obtain ⟨b, ents, clock, e1, e2, e3, e4, e5, e6⟩ := hok
        refine ⟨b, ents, clock, e1, e2, e3, fun i k y e hi he => ⟨(e4 i k y e hi he).1, (e4 i k y e hi he).2.1.trunc ?_, (e4 i k y e hi he).2.2⟩, e5, e6⟩
        have hall : es.all (fun e => e.2.idsLt objs.length) = true := hb
        exact List.all_eq_true.1 hall _ (List.mem_of_getElem? hi)
      | mapB bs clock es =>
        obtain ⟨b, ents, e1, e2, e3, e4, e5, e7, e6⟩ := hok
        refine ⟨b, ents, e1, e2, e3, fun i k y e hi he => ⟨(e4 i k y e hi he).1, (e4 i k y e hi he).2.1.trunc ?_, (e4 i k y e hi he).2.2⟩, e5, e7, e6⟩
        have hall : es.all (fun e => e.2.idsLt objs.length) = true := hb
        exact List.all_eq_true.1 hall _ (List.mem_of_getElem? hi)
      | iter m since seen =>
        obtain ⟨b, mb, e1, e2, e3, e4⟩ := hok
        exact ⟨b, mb, e1, take_get (by simpa [Obj.idsLt] using hb) e2, e3, e4⟩
      | bld e buf =>
        obtain ⟨b, c0, c1, e1, e2, e3, e4, e5, e6⟩ := hok
        exact ⟨b, c0, c1, e1, e2, e3, e4, e5.trunc (by simpa [Obj.idsLt] using hb), e6⟩
      | lin v sz e rows => exact hok
      | dead => exact hok
    · intro o o' g g' b h1 h2; exact hm.inj o o' g g' b (take_get' h1).2 (take_get' h2).2
    · intro o g b h; exact hm.lt o g b (take_get' h).2
  · exact ⟨hf.sat.tmps.1, fun i x v hx hv => (hf.sat.tmps.2 i x v hx hv).trunc (belowL_get h1 i x hx)⟩

theorem Weak.tok {n0 : Nat} {s : AS} (i sz e : Nat) (ex : Bool) (h : s.tmps[i]? = some (.v (.slice none 0 0))) :
    Weak n0 s ⟨s.tmps.set i (.sl [] (.own s.objs.length)), s.objs ++ [.tok 0 sz e ex]⟩ := by
  intro G0 w0 G a w hn0 hf
  have hm := hf.sat.mem
  have hst := hf.step.push (.full 0) (by intro b hb; cases hb)
  refine ⟨⟨G.bl ++ [.full 0], G.imm⟩, hst, Mem.push hm (.inl ⟨rfl, fun _ => rfl⟩) (by intro b hb; cases hb), ?_, hf.sat.defers⟩
  have hmono := hf.sat.tmps.mono (ext_push G w (.full 0))
  have hi : i < a.tmps.toList.length := by
    rw [hf.sat.tmps.1]
    rcases Nat.lt_or_ge i s.tmps.length with hl | hl
    · exact hl
    · rw [List.getElem?_eq_none hl] at h; cases h
  have hv := hf.sat.tmps.2 i _ _ h (List.getElem?_eq_getElem hi)
  have hv' := conc_v hv
  have := hmono.set i (x := .sl [] (.own s.objs.length)) (v := .slice none 0 0) (.sl [] _ _ (SlC.nil none 0 (by simp [maxLen])) (.inl ⟨0, by rw [← hm.len]; simp, Nat.le_refl _, fun _ => ⟨none, rfl, fun _ => rfl⟩⟩))
  have hself : a.tmps.toList.set i (.slice none 0 0) = a.tmps.toList := list_set_self (by rw [List.getElem?_eq_getElem hi, hv'])
  rwa [hself] at this

end Go.Proofs.YtcpjmkbcefmldaaGreatDoor.AM
