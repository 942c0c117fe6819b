/- Maps whose keys are strings or integers. -/
import Derived.Test.YtickejlolpoboaaAm14
set_option linter.all false
namespace Go.Proofs.Ytickejlolpoboaa.AM
open Go

/-- May it be a key, of that type? -/
def keyOk (d : TypeDesc) (k : Value) : Bool :=
  match d, k with
  | .string, .string _ => true
  | .int q, .int q' _ => q == q'
  | _, _ => false

def keyEq : Value → Value → Bool
  | .string a, .string b => decide (a = b)
  | .int q a, .int q' b => q == q' && decide (a = b)
  | _, _ => false

def mget (es : List (Value × AV)) (k : Value) : Option AV :=
  match es with
  | [] => none
  | e :: es => if keyEq k e.1 then some e.2 else mget es k

def mset (es : List (Value × AV)) (k : Value) (x : AV) : List (Value × AV) :=
  match es with
  | [] => [(k, x)]
  | e :: es => if keyEq k e.1 then (k, x) :: es else e :: mset es k x

def mdel (es : List (Value × AV)) (k : Value) : List (Value × AV) :=
  match es with
  | [] => []
  | e :: es => if keyEq k e.1 then es else e :: mdel es k

def keysOk (d : TypeDesc) (es : List (Value × AV)) : Prop := ∀ e ∈ es, keyOk d e.1 = true

theorem ba_beq (a b : ByteArray) : (a == b) = decide (a = b) := by
  rw [Bool.eq_iff_iff, decide_eq_true_iff]
  constructor
  · intro h
    have : (a.data == b.data) = true := h
    have := eq_of_beq this
    cases a; cases b; simpa using this
  · intro h
    subst h
    show (a.data == a.data) = true
    simp

theorem sameNow_eq {d : TypeDesc} {a b : Value} (ha : keyOk d a = true) (hb : keyOk d b = true) : Instr.sameNow d a b = some (keyEq a b) := by
  cases d <;> cases a <;> first | (simp [keyOk] at ha; done) | skip
  · cases b <;> first | (simp [keyOk] at hb; done) | skip
    simp only [keyOk, beq_iff_eq] at ha hb
    subst ha; subst hb
    simp only [Instr.sameNow, keyEq, beq_self_eq_true, Bool.true_and]
    congr 1
  · cases b <;> first | (simp [keyOk] at hb; done) | skip
    simp [Instr.sameNow, keyEq, ba_beq]

/-- The model's search. -/
def mfind (es : List (Value × AV)) (k : Value) (n : Nat) : Option Nat :=
  match es with
  | [] => none
  | e :: es => if keyEq k e.1 then some n else mfind es k (n + 1)

theorem findNow_eq {d : TypeDesc} {k : Value} (hk : keyOk d k = true) : ∀ (es : List (Value × AV)) (ents : List MapEntry) (n : Nat), keysOk d es → ents.length = es.length →
    (∀ (i : Nat) (p : Value × AV) (e : MapEntry), es[i]? = some p → ents[i]? = some e → e.key = p.1) →
    Instr.findNow d k ents n = some ((mfind es k n).bind fun i => (ents[i - n]?).map fun e => (i, e.val))
  | [], ents, n, _, hl, _ => by
    have : ents = [] := List.eq_nil_of_length_eq_zero (by simpa using hl)
    subst this; rfl
  | p :: es, [], n, _, hl, _ => by simp at hl
  | p :: es, e :: ents, n, hks, hl, h => by
    have hp := h 0 p e rfl rfl
    have hsn := sameNow_eq hk (hks p (by simp))
    simp only [Instr.findNow, hp, hsn, mfind]
    cases hb : keyEq k p.1
    · simp only [Bool.false_eq_true, if_false]
      rw [findNow_eq hk es ents (n + 1) (fun e he => hks e (by simp [he])) (by simpa using hl) (fun i p' e' h1 h2 => h (i + 1) p' e' (by simpa using h1) (by simpa using h2))]
      congr 1
      cases hf : mfind es k (n + 1) with
      | none => rfl
      | some i =>
        have hge : n + 1 ≤ i := by
          have : ∀ (l : List (Value × AV)) (m j : Nat), mfind l k m = some j → m ≤ j := by
            intro l
            induction l with
            | nil => intro m j hh; simp [mfind] at hh
            | cons q l ih =>
              intro m j hh
              simp only [mfind] at hh
              split at hh
              · cases hh; exact Nat.le_refl _
              · have := ih (m + 1) j hh; omega
          exact this es _ _ hf
        simp only [Option.bind_some]
        rw [show i - n = (i - (n + 1)) + 1 from by omega]
        simp
    · simp

theorem mget_mfind (es : List (Value × AV)) (k : Value) (n : Nat) : mget es k = (mfind es k n).bind fun i => (es[i - n]?).map (·.2) := by
  induction es generalizing n with
  | nil => rfl
  | cons p es ih =>
    simp only [mget, mfind]
    split
    · simp
    · rw [ih (n + 1)]
      cases hf : mfind es k (n + 1) with
      | none => rfl
      | some i =>
        have hge : n + 1 ≤ i := by
          have : ∀ (l : List (Value × AV)) (m j : Nat), mfind l k m = some j → m ≤ j := by
            intro l
            induction l with
            | nil => intro m j hh; simp [mfind] at hh
            | cons q l ih =>
              intro m j hh
              simp only [mfind] at hh
              split at hh
              · cases hh; exact Nat.le_refl _
              · have := ih (m + 1) j hh; omega
          exact this es _ _ hf
        simp only [Option.bind_some]
        rw [show i - n = (i - (n + 1)) + 1 from by omega]
        simp

theorem mfind_lt {k : Value} : ∀ (es : List (Value × AV)) (n i : Nat), mfind es k n = some i → n ≤ i ∧ i - n < es.length ∧ ∃ p, es[i - n]? = some p ∧ keyEq k p.1 = true
  | [], n, i, h => by simp [mfind] at h
  | p :: es, n, i, h => by
    simp only [mfind] at h
    split at h
    · rename_i hb
      cases h
      exact ⟨Nat.le_refl _, by simp, p, by simp, hb⟩
    · obtain ⟨h1, h2, q, h3, h4⟩ := mfind_lt es (n + 1) i h
      refine ⟨by omega, by simp; omega, q, ?_, h4⟩
      rw [show i - n = (i - (n + 1)) + 1 from by omega]
      simpa using h3

theorem mset_mfind (k : Value) (x : AV) : ∀ (es : List (Value × AV)) (n : Nat), mset es k x = (match mfind es k n with | some i => es.set (i - n) (k, x) | none => es ++ [(k, x)])
  | [], n => rfl
  | p :: es, n => by
    simp only [mset, mfind]
    split
    · simp
    · rw [mset_mfind k x es (n + 1)]
      cases hf : mfind es k (n + 1) with
      | none => rfl
      | some i =>
        have := (mfind_lt es (n + 1) i hf).1
        simp only
        rw [show i - n = (i - (n + 1)) + 1 from by omega]
        rfl

def lookupAV (P : Program) (objs : List Obj) (t : TypeId) (m k : AV) (ok : Bool) (K : AV → Prop) : Prop :=
  match ti P t with
  | some i =>
    match i.desc with
    | .map kt et =>
      match ti P kt, (P.info? et).bind (·.zero), m, k with
      | some ki, some z, .map o, .v kv =>
        match objs[o]? with
        | some (.map es) =>
          keyOk ki.desc kv = true ∧ keysOk ki.desc es ∧
          (∀ x, mget es kv = some x → K (if ok then .tup [x, .v (.bool true)] else x)) ∧
          (mget es kv = none → K (if ok then .tup [AV.ofValue z, .v (.bool false)] else AV.ofValue z))
        | _ => False
      | _, _, _, _ => False
    | _ => False
  | none => False

theorem checkKey_run {P : Program} {w : World} {kt : TypeId} {ki : TI} (h : ti P kt = some ki) {k : Value} (hk : keyOk ki.desc k = true) (empty : Bool) : (Instr.checkKey empty 10000 kt k).run P w = .ok () w := by
  have hu := ti_und h w
  have gen : ∀ n, (Instr.checkKey empty (n + 1) kt k).run P w = .ok () w := by
    intro n
    generalize ki.desc = d at hu hk
    cases d <;> cases k <;> first | (simp [keyOk] at hk; done) | skip
    · simp [Instr.checkKey, hu]
    · simp [Instr.checkKey, hu]
  exact gen 9999

theorem lookup_sound {P : Program} {G : Ghost} {objs : List Obj} {w : World} {t : TypeId} {m k : AV} {u v : Value} {ok : Bool} {K : AV → Prop}
    (h : lookupAV P objs t m k ok K) (hm : Mem G objs w) (hc : Conc G w m u) (hk : Conc G w k v) : ∃ r y, (Instr.lookup t u v ok).run P w = .ok r w ∧ Conc G w y r ∧ K y := by
  unfold lookupAV at h
  split at h
  · rename_i i hi
    split at h
    · rename_i kt et hd
      split at h
      · rename_i ki z o kv hki hz
        split at h
        · rename_i es hob
          obtain ⟨h1, h2, h3, h4⟩ := h
          have hkv := conc_v' hk
          subst hkv
          cases hc with
          | map _ b hb =>
            obtain ⟨g, hg, b', ents, clock, rfl, hh, hsz, hent, hnd, him⟩ := hm.obj hob
            rw [hb] at hg; cases hg
            have hu := ti_und hi w
            rw [hd] at hu
            have huk := ti_und hki w
            have hget : (getObj b).run P w = .ok (.map ents clock) w := by
              simp [getObj, Sem.run, hh]
            have hfn := findNow_eq h1 es ents.toList 0 h2 (by simpa using hsz) (fun i p e hp he => (hent i p.1 p.2 e hp (by simpa using he)).1)
            have hfk : (Instr.findKey kt v ents.toList).run P w = .ok ((mfind es v 0).bind fun i => (ents.toList[i - 0]?).map fun e => (i, e.val)) w := by
              simp only [Instr.findKey, Sem.run_bind, huk, Result.andThen_ok, hfn, Sem.run_pure]
            have hzero : (zeroValue et).run P w = .ok z w := by
              cases hinf : P.info? et with
              | none => simp [hinf] at hz
              | some inf => simp [hinf] at hz; simp [zeroValue, typeInfo, hinf, hz]
            cases hf : mfind es v 0 with
            | none =>
              have hmg : mget es v = none := by rw [mget_mfind es v 0, hf]; rfl
              have hK := h4 hmg
              rw [hf] at hfk
              cases ok
              · refine ⟨z, _, ?_, Conc.ofValue z, hK⟩
                simp [Instr.lookup, hu, hget, checkKey_run hki h1, hfk, hzero]
              · refine ⟨.tuple #[z, .bool false], _, ?_, ?_, hK⟩
                · simp [Instr.lookup, hu, hget, checkKey_run hki h1, hfk, hzero]
                · exact .tup [_, _] [z, .bool false] rfl (fun i c v hc hv => by
                    match i with
                    | 0 => simp at hc hv; subst hc; subst hv; exact Conc.ofValue _
                    | 1 => simp at hc hv; subst hc; subst hv; exact .v _ rfl
                    | n + 2 => simp at hc)
            | some i =>
              obtain ⟨_, hlt, p, hp, hpe⟩ := mfind_lt es 0 i hf
              have hlt' : i < ents.size := by omega
              have he : ents[i]? = some ents[i] := Array.getElem?_eq_getElem hlt'
              have hcv := (hent i p.1 p.2 _ (by simpa using hp) he).2.1
              have hmg : mget es v = some p.2 := by rw [mget_mfind es v 0, hf]; simp only [Option.bind_some, hp, Option.map_some]
              have hK := h3 p.2 hmg
              have hel : ents.toList[i - 0]? = some ents[i] := by simp
              rw [hf] at hfk
              simp only [Option.bind_some, hel, Option.map_some] at hfk
              cases ok
              · refine ⟨ents[i].val, _, ?_, hcv, hK⟩
                simp [Instr.lookup, hu, hget, checkKey_run hki h1, hfk]
              · refine ⟨.tuple #[ents[i].val, .bool true], _, ?_, ?_, hK⟩
                · simp [Instr.lookup, hu, hget, checkKey_run hki h1, hfk]
                · exact .tup [_, _] [ents[i].val, .bool true] rfl (fun j c v hc hv => by
                    match j with
                    | 0 => simp at hc hv; subst hc; subst hv; exact hcv
                    | 1 => simp at hc hv; subst hc; subst hv; exact .v _ rfl
                    | n + 2 => simp at hc)
        · exact h.elim
      · exact h.elim
    · exact h.elim
  · exact h.elim

theorem set_other (w : World) (b j : Nat) (o : Go.Obj) (h : b ≠ j) : ({ w with heap := w.heap.setIfInBounds b o } : World).heap[j]? = w.heap[j]? := by
  simp [Array.getElem?_setIfInBounds, h]

theorem mapset_step {P : Program} {G : Ghost} {objs : List Obj} {w : World} (hm : Mem G objs w) {o b : Nat} {es es' : List (Value × AV)} {ents ents' : Array MapEntry} {c c' : Nat} (ho : objs[o]? = some (.map es))
    (hb : G.bl[o]? = some (.obj b)) (hh : w.heap[b]? = some (.map ents c)) (him : ∀ off, ¬ G.imm b off) (hsz : ents'.size = es'.length)
    (hent : ∀ (i : Nat) (k : Value) (x : AV) (e : MapEntry), es'[i]? = some (k, x) → ents'[i]? = some e → e.key = k ∧ Conc G w x e.val ∧ e.born < c')
    (hnd : (ents'.toList.map (·.born)).Nodup) :
    ∃ w', (setObj b (.map ents' c')).run P w = .ok () w' ∧ Step G w G w' ∧ Mem G (objs.set o (.map es')) w' := by
  have hbl : b < w.heap.size := hm.lt o _ b hb rfl
  have hext : Ext G w G { w with heap := w.heap.setIfInBounds b (.map ents' c') } := by
    refine ⟨fun t b' o' hi => ?_, fun _ _ _ h => h, fun _ _ h => h, fun _ _ h => .inl h, fun _ b l c sz ex h => ⟨b, l, c, sz, ex, h, .inr ⟨rfl, rfl, rfl⟩⟩⟩
    refine cell_of_heap (set_other w b b' _ ?_) o'
    rintro rfl
    rcases im_cases hi with hi | ⟨o2, len, cap, sz, _, h1, _⟩
    · exact him o' hi
    · have := hm.inj o o2 _ _ _ hb h1 rfl rfl
      subst this
      rw [hb] at h1; cases h1
  refine ⟨{ w with heap := w.heap.setIfInBounds b (.map ents' c') }, ?_, ⟨hext, ?_, by simp, rfl, rfl, ⟨rfl, Nat.le_refl _⟩, fun _ _ h => .inl h, fun o g b hg hb => .inr ⟨o, g, hg, hb⟩⟩, ?_⟩
  · simp [setObj, Sem.run, hh]
  · intro k hk hn
    refine set_other w b k _ ?_
    rintro rfl
    exact hn o _ hb rfl
  · have hlo : o < objs.length := by
      rcases Nat.lt_or_ge o objs.length with hl | hl
      · exact hl
      · rw [List.getElem?_eq_none hl] at ho; cases ho
    refine ⟨by simp [hm.len], ?_, hm.inj, fun o g b' h1 h2 => by simpa using hm.lt o g b' h1 h2, fun b' off' h => by simpa using hm.immLt b' off' h⟩
    intro o' y g' ho' hg'
    by_cases heo : o = o'
    · subst heo
      rw [List.getElem?_set, if_pos rfl, if_pos hlo] at ho'
      cases ho'
      rw [hb] at hg'; cases hg'
      refine ⟨b, ents', c', rfl, by simp [hbl], hsz, ?_, hnd, him⟩
      intro i k x e h1 h2
      obtain ⟨h3, h4, h5⟩ := hent i k x e h1 h2
      exact ⟨h3, h4.mono hext, h5⟩
    · rw [List.getElem?_set, if_neg heo] at ho'
      refine (hm.ok o' y g' ho' hg').mono hext ?_ (fun _ _ _ h => h)
      intro b' hb'
      refine set_other w b b' _ ?_
      rintro rfl
      exact heo (hm.inj o o' _ _ _ hb hg' rfl hb')

def mapUpdateAV (P : Program) (objs : List Obj) (t : TypeId) (m k x : AV) (K : List Obj → Prop) : Prop :=
  match ti P t with
  | some i =>
    match i.desc with
    | .map kt _ =>
      match ti P kt, m, k with
      | some ki, .map o, .v kv =>
        match objs[o]? with
        | some (.map es) => keyOk ki.desc kv = true ∧ keysOk ki.desc es ∧ K (objs.set o (.map (mset es kv x)))
        | _ => False
      | _, _, _ => False
    | _ => False
  | none => False

theorem keyEq_eq {a b : Value} (h : keyEq a b = true) : a = b := by
  cases a <;> cases b <;> simp [keyEq] at h <;> first | (obtain ⟨rfl, rfl⟩ := h; rfl) | (subst h; rfl)

theorem stays_run {P : Program} {w : World} {k : Value} {d : TypeDesc} (h : keyOk d k = true) : (Instr.keyThatStays k k).run P w = .ok k w := by
  have hs : Instr.sameBits 10000 k k = true := by
    cases d <;> cases k <;> first | (simp [keyOk] at h; done) | skip
    · simp [Instr.sameBits]
    · simp [Instr.sameBits, ba_beq]
  simp [Instr.keyThatStays, hs]

theorem mapUpdate_sound {P : Program} {G : Ghost} {objs : List Obj} {w : World} {t : TypeId} {m k x : AV} {u v vx : Value} {K : List Obj → Prop}
    (h : mapUpdateAV P objs t m k x K) (hm : Mem G objs w) (hc : Conc G w m u) (hk : Conc G w k v) (hx : Conc G w x vx) :
    ∃ objs' w', (Instr.mapUpdate t u v vx).run P w = .ok () w' ∧ Step G w G w' ∧ Mem G objs' w' ∧ K objs' := by
  unfold mapUpdateAV at h
  split at h
  · rename_i i hi
    split at h
    · rename_i kt et hd
      split at h
      · rename_i ki o kv hki
        split at h
        · rename_i es hob
          obtain ⟨h1, h2, hK⟩ := h
          have hkv := conc_v' hk
          subst hkv
          cases hc with
          | map _ b hb =>
            obtain ⟨g, hg, b', ents, clock, rfl, hh, hsz, hent, hnd, him⟩ := hm.obj hob
            rw [hb] at hg; cases hg
            have hu := ti_und hi w
            rw [hd] at hu
            have huk := ti_und hki w
            have hget : (getObj b).run P w = .ok (.map ents clock) w := by
              simp [getObj, Sem.run, hh]
            have hfn := findNow_eq h1 es ents.toList 0 h2 (by simpa using hsz) (fun i p e hp he => (hent i p.1 p.2 e hp (by simpa using he)).1)
            have hfk : (Instr.findKey kt v ents.toList).run P w = .ok ((mfind es v 0).bind fun i => (ents.toList[i - 0]?).map fun e => (i, e.val)) w := by
              simp only [Instr.findKey, Sem.run_bind, huk, Result.andThen_ok, hfn, Sem.run_pure]
            have hms := mset_mfind v x es 0
            cases hf : mfind es v 0 with
            | none =>
              rw [hf] at hfk hms
              obtain ⟨w', hr, hs, hM⟩ := mapset_step (P := P) (es' := mset es v x) (ents' := ents.push { key := v, val := vx, born := clock }) (c' := clock + 1) hm hob hb hh him (by rw [hms]; simp [hsz])
                (by
                  intro i k y e h3 h4
                  rw [hms] at h3
                  simp only [List.getElem?_append, hsz.symm] at h3
                  rw [Array.getElem?_push] at h4
                  by_cases hi : i = ents.size
                  · rw [if_pos hi] at h4
                    rw [if_neg (by omega)] at h3
                    subst hi
                    simp at h3
                    cases h4
                    exact ⟨h3.1, h3.2 ▸ hx, Nat.lt_succ_self _⟩
                  · rw [if_neg hi] at h4
                    have hil : i < ents.size := by
                      rcases Nat.lt_or_ge i ents.size with h | h
                      · exact h
                      · rw [Array.getElem?_eq_none h] at h4; cases h4
                    rw [if_pos hil] at h3
                    obtain ⟨h5, h6, h7⟩ := hent i k y e h3 h4
                    exact ⟨h5, h6, by omega⟩)
                (by
                  simp only [Array.toList_push, List.map_append, List.map_cons, List.map_nil]
                  rw [List.nodup_append]
                  refine ⟨hnd, by simp, ?_⟩
                  intro a ha b' hb'
                  simp only [List.mem_singleton] at hb'
                  subst hb'
                  obtain ⟨e, he, rfl⟩ := List.mem_map.1 ha
                  obtain ⟨j, hj, hje⟩ := List.mem_iff_getElem.1 he
                  have hj' : j < es.length := by simpa [hsz] using hj
                  have := hent j (es[j]).1 (es[j]).2 e (by simp [hj']) (by simpa using (List.getElem?_eq_some_iff.2 ⟨hj, hje⟩))
                  omega)
              refine ⟨_, w', ?_, hs, hM, hK⟩
              simp [Instr.mapUpdate, hu, hget, checkKey_run hki h1, hfk, hr]
            | some i =>
              obtain ⟨_, hlt, p, hp, hpe⟩ := mfind_lt es 0 i hf
              have hlt' : i < ents.size := by omega
              have he : ents[i]? = some ents[i] := Array.getElem?_eq_getElem hlt'
              have hkey := (hent i p.1 p.2 _ (by simpa using hp) he).1
              have hpk := keyEq_eq hpe
              have hel : ents.toList[i - 0]? = some ents[i] := by simp
              rw [hf] at hfk hms
              simp only [Option.bind_some, hel, Option.map_some] at hfk
              have hold : (((ents[i]?).map (·.key)).getD v) = v := by rw [he]; simp [hkey, hpk]
              obtain ⟨w', hr, hs, hM⟩ := mapset_step (P := P) (es' := mset es v x) (ents' := ents.modify i fun e => { e with key := v, val := vx }) (c' := clock) hm hob hb hh him (by rw [hms]; simp [hsz])
                (by
                  intro j k y e h3 h4
                  rw [hms] at h3
                  simp only [Nat.sub_zero, List.getElem?_set] at h3
                  rw [Array.getElem?_modify] at h4
                  by_cases hi : i = j
                  · subst hi
                    rw [if_pos rfl, if_pos (by omega)] at h3
                    rw [if_pos rfl, he] at h4
                    simp at h3 h4
                    subst h4
                    exact ⟨h3.1, h3.2 ▸ hx, (hent i p.1 p.2 _ (by simpa using hp) he).2.2⟩
                  · rw [if_neg hi] at h3 h4
                    exact hent j k y e h3 h4)
                (by
                  have : (ents.modify i fun e => { e with key := v, val := vx }).toList.map (·.born) = ents.toList.map (·.born) := by
                    apply List.ext_getElem?
                    intro j
                    simp only [List.getElem?_map, Array.getElem?_toList, Array.getElem?_modify]
                    split
                    · cases ents[j]? <;> rfl
                    · rfl
                  rw [this]; exact hnd)
              refine ⟨_, w', ?_, hs, hM, hK⟩
              simp [Instr.mapUpdate, hu, hget, checkKey_run hki h1, hfk, -Array.getElem?_eq_getElem, hold, stays_run h1, hr]
        · exact h.elim
      · exact h.elim
    · exact h.elim
  · exact h.elim

theorem makeMap_step {G : Ghost} {objs : List Obj} {w : World} (hm : Mem G objs w) :
    ∃ G', Step G w G' (w.alloc (.map #[] 0)) ∧ Mem G' (objs ++ [.map []]) (w.alloc (.map #[] 0)) ∧
      Conc G' (w.alloc (.map #[] 0)) (.map objs.length) (.map (some w.heap.size)) := by
  obtain ⟨hs, hm'⟩ := More.step hm ((More.refl w).alloc (.map #[] 0)) (imm' := G.imm) (fun _ _ h => h) (fun _ _ h => .inl h)
  have hnb : ∀ b, (GB.obj w.heap.size).blk = some b → w.heap.size ≤ b := by intro b hb; simp [GB.blk] at hb; omega
  refine ⟨⟨G.bl ++ [.obj w.heap.size], G.imm⟩, hs.push _ hnb, ?_, ?_⟩
  · refine Mem.push (G := ⟨G.bl, G.imm⟩) hm' ?_ ?_
    · refine ⟨w.heap.size, #[], 0, rfl, heap_alloc_new' w _, rfl, ?_, by simp, ?_⟩
      · intro i k x e h; simp at h
      · intro off hi
        have := hm.immLt _ _ hi
        omega
    · intro b hb
      simp [GB.blk] at hb
      subst hb
      refine ⟨by simp, ?_⟩
      intro o g' hg' hb'
      have := hm.lt o g' _ hg' hb'
      omega
  · refine .map _ _ ?_
    simp [← hm.len]

end Go.Proofs.Ytickejlolpoboaa.AM
