/- Abstract states, what they say of a world, and how a world may go on. -/
import Derived.Test.YtickejlolpoboaaAm1
set_option linter.all false
namespace Go.Proofs.Ytickejlolpoboaa.AM
open Go

theorem TkOk.mono {G G' : Ghost} {w w' : World} (h : Ext G w G' w') {n : Nat} {v : Value} {t : Tk} (ht : TkOk G n v t) : TkOk G' n v t := by
  cases t with
  | none => trivial
  | exact => exact ht
  | own o =>
    rcases ht with ⟨l, h1, h2, h3⟩ | ⟨b, len, cap, sz, ex, h1, h2, h3⟩
    · rcases h.full o l h1 with h4 | ⟨b, len, cap, sz, ex, h4, h5⟩
      · exact .inl ⟨l, h4, h2, h3⟩
      · exact .inr ⟨b, len, cap, sz, ex, h4, by omega, fun he => by omega⟩
    · obtain ⟨b', len', cap', sz', ex', h4, h5⟩ := h.tok o b len cap sz ex h1
      rcases h5 with h5 | ⟨rfl, rfl, rfl⟩
      · exact .inr ⟨b', len', cap', sz', ex', h4, by omega, fun he => by omega⟩
      · exact .inr ⟨b', len', cap', sz', ex', h4, h2, h3⟩

theorem Conc.mono {G G' : Ghost} {w w' : World} (h : Ext G w G' w') {x : AV} {v : Value} (hc : Conc G w x v) : Conc G' w' x v := by
  induction hc with
  | v x hx => exact .v x hx
  | any x => exact .any x
  | cnd g y x _ h' ih => exact .cnd g y x ih h'
  | sl rows t x hd ht => exact .sl rows t x (hd.mono (h.cells t) (h.im t) h.cell h.imm) (ht.mono h)
  | agg cs vs hl h1 _ ih => exact .agg cs vs hl h1 ih
  | tup cs vs hl _ ih => exact .tup cs vs hl ih
  | ptr o off b hb => exact .ptr o off b (h.obj o b hb)
  | ep rows i off t b st sz hr => exact .ep rows i off t b st sz (hr.mono (h.cells t) (h.im t) h.cell h.imm)
  | bsl o off len cap b hb h1 h2 => exact .bsl o off len cap b (h.obj o b hb) h1 h2
  | bsl0 o off cap a h2 => exact .bsl0 o off cap a h2
  | map o b hb => exact .map o b (h.obj o b hb)
  | fn f first cap vf vc hf hc _ _ ih1 ih2 => exact .fn f first cap vf vc hf hc ih1 ih2

inductive Obj where
  | box (cells : List AV)
  | tok (len sz e : Nat) (ex : Bool)
  | map (es : List (Value × AV))
  | dead
  deriving Inhabited

structure AS where
  tmps : List AV
  objs : List Obj

def ObjOk (G : Ghost) (w : World) (g : GB) : Obj → Prop
  | .box cells => (cells = [] ∧ ∃ l, g = .full l) ∨ ∃ b c e, g = .obj b ∧ w.heap[b]? = some (.cells c e (0, 0)) ∧ cells.length ≤ c.size ∧
      (∀ (j : Nat) (x : AV) (v : Value), cells[j]? = some x → c[j]? = some v → v.oneCell' = true ∧ Conc G w x v) ∧ ∀ off, ¬ G.imm b off
  | .tok len sz e ex => (g = .full len ∧ (ex = true → len = 0)) ∨ ∃ b cap cur, g = .tok b len cap sz ex ∧ w.heap[b]? = some (.cells cur e (0, 0)) ∧ cur.size = cap * sz ∧ len ≤ cap ∧ cap ≤ maxLen ∧
      (ex = true → ∀ off, ¬ G.imm b off) ∧ (ex = false → ∀ off, G.imm b off → off < len * sz)
  | .map es => ∃ b ents clock, g = .obj b ∧ w.heap[b]? = some (.map ents clock) ∧ ents.size = es.length ∧
      (∀ (i : Nat) (k : Value) (x : AV) (e : MapEntry), es[i]? = some (k, x) → ents[i]? = some e → e.key = k ∧ Conc G w x e.val ∧ e.born < clock) ∧
      (ents.toList.map (·.born)).Nodup ∧ ∀ off, ¬ G.imm b off
  | .dead => ∀ b l c sz ex, g ≠ .tok b l c sz ex

structure Mem (G : Ghost) (objs : List Obj) (w : World) : Prop where
  len : G.bl.length = objs.length
  ok : ∀ (o : Nat) (x : Obj) (g : GB), objs[o]? = some x → G.bl[o]? = some g → ObjOk G w g x
  inj : ∀ (o o' : Nat) (g g' : GB) (b : Nat), G.bl[o]? = some g → G.bl[o']? = some g' → g.blk = some b → g'.blk = some b → o = o'
  lt : ∀ (o : Nat) (g : GB) (b : Nat), G.bl[o]? = some g → g.blk = some b → b < w.heap.size
  immLt : ∀ b off, G.imm b off → b < w.heap.size

structure Step (G : Ghost) (w : World) (G' : Ghost) (w' : World) : Prop where
  ext : Ext G w G' w'
  heap : ∀ k, k < w.heap.size → (∀ (o : Nat) (g : GB), G.bl[o]? = some g → g.blk ≠ some k) → w'.heap[k]? = w.heap[k]?
  size : w.heap.size ≤ w'.heap.size
  os : w'.os = w.os
  tape : w'.tape = w.tape
  output : w'.output = w.output ∧ w.drawn ≤ w'.drawn
  imm2 : ∀ b off, G'.imm b off → G.imm b off ∨ w.heap.size ≤ b ∨ ∃ (o : Nat) (g : GB), G.bl[o]? = some g ∧ g.blk = some b
  blk : ∀ (o : Nat) (g : GB) (b : Nat), G'.bl[o]? = some g → g.blk = some b → w.heap.size ≤ b ∨ ∃ (o : Nat) (g : GB), G.bl[o]? = some g ∧ g.blk = some b

theorem Step.refl (G : Ghost) (w : World) : Step G w G w :=
  ⟨.refl G w, fun _ _ _ => rfl, Nat.le_refl _, rfl, rfl, ⟨rfl, Nat.le_refl _⟩, fun _ _ h => .inl h, fun o g _ h1 h2 => .inr ⟨o, g, h1, h2⟩⟩

theorem Step.trans {G1 G2 G3 : Ghost} {w1 w2 w3 : World} (h : Step G1 w1 G2 w2) (k : Step G2 w2 G3 w3) : Step G1 w1 G3 w3 := by
  refine ⟨h.ext.trans k.ext, ?_, Nat.le_trans h.size k.size, k.os.trans h.os, k.tape.trans h.tape, ⟨k.output.1.trans h.output.1, Nat.le_trans h.output.2 k.output.2⟩, ?_, ?_⟩
  · intro j hj hn
    rw [k.heap j (Nat.lt_of_lt_of_le hj h.size), h.heap j hj hn]
    intro o g hg hb
    rcases h.blk o g j hg hb with h1 | ⟨o', g', h1, h2⟩
    · omega
    · exact hn o' g' h1 h2
  · intro b off hi
    rcases k.imm2 b off hi with h1 | h1 | ⟨o, g, h1, h2⟩
    · exact h.imm2 b off h1
    · exact .inr (.inl (Nat.le_trans h.size h1))
    · rcases h.blk o g b h1 h2 with h3 | h3
      · exact .inr (.inl h3)
      · exact .inr (.inr h3)
  · intro o g b hg hb
    rcases k.blk o g b hg hb with h1 | ⟨o', g', h1, h2⟩
    · exact .inl (Nat.le_trans h.size h1)
    · exact h.blk o' g' b h1 h2

def ConcL (G : Ghost) (w : World) (xs : List AV) (vs : List Value) : Prop :=
  vs.length = xs.length ∧ ∀ (i : Nat) (x : AV) (v : Value), xs[i]? = some x → vs[i]? = some v → Conc G w x v

theorem ConcL.mono {G G' : Ghost} {w w' : World} (h : Ext G w G' w') {xs : List AV} {vs : List Value} (hc : ConcL G w xs vs) : ConcL G' w' xs vs :=
  ⟨hc.1, fun i x v hx hv => (hc.2 i x v hx hv).mono h⟩

structure Sat (G : Ghost) (s : AS) (a : Act) (w : World) : Prop where
  mem : Mem G s.objs w
  tmps : ConcL G w s.tmps a.tmps.toList
  defers : a.defers = []

def AV.ofValue : Value → AV
  | .agg cs => if cs.all (·.oneCell') then .agg (cs.toList.map .v) else .any
  | .tuple cs => if cs.all (·.oneCell') then .tup (cs.toList.map .v) else .any
  | x => .v x

theorem Conc.ofValue {G : Ghost} {w : World} (x : Value) : Conc G w (AV.ofValue x) x := by
  have key : ∀ cs : Array Value, cs.all (·.oneCell') = true → ∀ (i : Nat) (c : AV) (v : Value), (cs.toList.map AV.v)[i]? = some c → cs.toList[i]? = some v → Conc G w c v := by
    intro cs hall i c v hc hv
    simp only [List.getElem?_map, hv, Option.map_some, Option.some.injEq] at hc
    subst hc
    refine .v v ?_
    rw [Array.all_eq_true_iff_forall_mem] at hall
    exact hall v (by have := List.mem_of_getElem? hv; simpa using this)
  cases x with
  | agg cs =>
    simp only [AV.ofValue]
    split
    · rename_i hall
      have := Conc.agg (G := G) (w := w) (cs.toList.map .v) cs.toList (by simp) ?_ (key cs hall)
      · simpa using this
      · intro i v hv
        rw [Array.all_eq_true_iff_forall_mem] at hall
        exact hall v (by have := List.mem_of_getElem? hv; simpa using this)
    · exact .any _
  | tuple cs =>
    simp only [AV.ofValue]
    split
    · rename_i hall
      have := Conc.tup (G := G) (w := w) (cs.toList.map .v) cs.toList (by simp) (key cs hall)
      simpa using this
    · exact .any _
  | _ => exact .v _ rfl

/-- A slot's value, where it is known only under a condition: under that condition. -/
def AV.un : AV → AV
  | .cnd g x => if g = true then x else .any
  | x => x

theorem Conc.un {G : Ghost} {w : World} {x : AV} {v : Value} (h : Conc G w x v) : Conc G w x.un v := by
  cases h with
  | cnd g y _ h _ =>
    simp only [AV.un]
    split
    · rename_i hg; exact h hg
    · exact .any v
  | v _ hx => exact .v _ hx
  | any => exact .any _
  | sl rows t _ hd ht => exact .sl rows t _ hd ht
  | agg cs vs hl h1 h2 => exact .agg cs vs hl h1 h2
  | tup cs vs hl h => exact .tup cs vs hl h
  | ptr o off b h => exact .ptr o off b h
  | ep rows i off t b st sz h => exact .ep rows i off t b st sz h
  | bsl o off len cap b h h1 h2 => exact .bsl o off len cap b h h1 h2
  | bsl0 o off cap a h => exact .bsl0 o off cap a h
  | map o b h => exact .map o b h
  | fn f a b vf vc h1 h2 h3 h4 => exact .fn f a b vf vc h1 h2 h3 h4

def AS.eval (s : AS) : Operand → AV
  | .tmp t => (s.tmps.getD t .any).un
  | .const v => AV.ofValue v
  | .global _ => .any
  | .func f => .fn f [] []

/-- As it stands. -/
def AS.raw (s : AS) : Operand → AV
  | .tmp t => s.tmps.getD t .any
  | .const v => AV.ofValue v
  | .global _ => .any
  | .func f => .fn f [] []

theorem Sat.raw {G : Ghost} {s : AS} {a : Act} {w : World} (h : Sat G s a w) (x : Operand) : Conc G w (s.raw x) (a.eval x) := by
  cases x with
  | tmp t =>
    simp only [AS.raw, Act.eval]
    rcases Nat.lt_or_ge t s.tmps.length with ht | ht
    · have h1 : s.tmps[t]? = some s.tmps[t] := List.getElem?_eq_getElem ht
      have ht' : t < a.tmps.size := by have h0 := h.tmps.1; rw [Array.length_toList] at h0; rw [h0]; exact ht
      have h2 : a.tmps.toList[t]? = some a.tmps[t] := by simp [ht']
      have := h.tmps.2 t _ _ h1 h2
      simpa [List.getD_eq_getElem?_getD, h1, Array.getD, ht'] using this
    · simp only [List.getD_eq_getElem?_getD, List.getElem?_eq_none ht, Option.getD_none]
      exact .any _
  | const v => exact Conc.ofValue v
  | global g => exact .any _
  | func f => exact Conc.fn (G := G) (w := w) f [] [] [] [] rfl rfl (fun i c v h => by simp at h) (fun i c v h => by simp at h)

theorem Sat.eval {G : Ghost} {s : AS} {a : Act} {w : World} (h : Sat G s a w) (x : Operand) : Conc G w (s.eval x) (a.eval x) := by
  cases x with
  | tmp t => exact (h.raw (.tmp t)).un
  | const v => exact h.raw (.const v)
  | global g => exact .any _
  | func f => exact h.raw (.func f)

def AS.put (s : AS) (dst : Option Nat) (x : AV) : AS :=
  { s with tmps := match dst with | some d => s.tmps.set d x | none => s.tmps }

theorem ConcL.set {G : Ghost} {w : World} {xs : List AV} {vs : List Value} (h : ConcL G w xs vs) (d : Nat) {x : AV} {v : Value} (hx : Conc G w x v) : ConcL G w (xs.set d x) (vs.set d v) := by
  refine ⟨by simpa using h.1, fun i y u hy hu => ?_⟩
  rw [List.getElem?_set] at hy hu
  by_cases hd : d = i
  · subst hd
    by_cases hl : d < xs.length
    · rw [if_pos rfl, if_pos hl] at hy
      rw [if_pos rfl, if_pos (by rw [h.1]; exact hl)] at hu
      cases hy; cases hu; exact hx
    · rw [if_pos rfl, if_neg hl] at hy
      cases hy
  · rw [if_neg hd] at hy hu
    exact h.2 i y u hy hu

theorem Act.put_toList (a : Act) (dst : Option Tmp) (v : Value) : (a.put dst v).tmps.toList = (match dst with | some d => a.tmps.toList.set d v | none => a.tmps.toList) := by
  cases dst <;> simp [Act.put]

theorem Act.put_defers (a : Act) (dst : Option Tmp) (v : Value) : (a.put dst v).defers = a.defers := by
  cases dst <;> rfl

/-- A value into a slot, the world and the objects going on. -/
theorem Sat.put {G G' : Ghost} {s : AS} {a : Act} {w w' : World} (h : Sat G s a w) (hst : Ext G w G' w') {objs : List Obj} (hm : Mem G' objs w') (dst : Option Nat) {x : AV} {v : Value} (hx : Conc G' w' x v) :
    Sat G' { s.put dst x with objs := objs } (a.put dst v) w' := by
  refine ⟨hm, ?_, by rw [Act.put_defers]; exact h.defers⟩
  rw [Act.put_toList]
  cases dst with
  | none => exact h.tmps.mono hst
  | some d => exact (h.tmps.mono hst).set d hx

theorem Sat.put0 {G : Ghost} {s : AS} {a : Act} {w : World} (h : Sat G s a w) (dst : Option Nat) {x : AV} {v : Value} (hx : Conc G w x v) :
    Sat G (s.put dst x) (a.put dst v) w := h.put (.refl G w) h.mem dst hx


theorem conc_v' {G : Ghost} {w : World} {x u : Value} (h : Conc G w (.v x) u) : u = x := by cases h; rfl

end Go.Proofs.Ytickejlolpoboaa.AM
