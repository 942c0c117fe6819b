/- A layer between Go's memory and plain lists: what an abstract state says of a world. -/
import Derived.WalkKit
set_option linter.all false
namespace Go.Proofs.Ytickejlolpoboaa.AM
open Go

/-- Pure data: a value of one cell that leads nowhere, or a slice whose elements (rows of cells) never change. -/
inductive D where
  | v (x : Value)
  | sl (rows : List (List D))
  deriving Inhabited

inductive DConc (w : World) (imm : Nat → Nat → Prop) : D → Value → Prop
  | v (x : Value) (h : x.oneCell' = true) : DConc w imm (.v x) x
  | nil (a : Option Addr) (c : Nat) (hc : c ≤ maxLen) : DConc w imm (.sl []) (.slice a 0 c)
  | sl (sz : Nat) (rows : List (List D)) (b st c : Nat) (g : Nat → Nat → Value) (hn : rows.length ≤ c) (hc : c ≤ maxLen)
      (h1 : ∀ (i : Nat) (r : List D), rows[i]? = some r → r.length = sz)
      (h2 : ∀ (i j : Nat) (r : List D) (d : D), rows[i]? = some r → r[j]? = some d → w.cell? ⟨b, st + i * sz + j, none⟩ = some (g i j))
      (h3 : ∀ (i j : Nat) (r : List D) (d : D), rows[i]? = some r → r[j]? = some d → imm b (st + i * sz + j))
      (h4 : ∀ (i j : Nat) (r : List D) (d : D), rows[i]? = some r → r[j]? = some d → DConc w imm d (g i j)) :
      DConc w imm (.sl rows) (.slice (some ⟨b, st, none⟩) rows.length c)

/-- Rows in memory: their own cells are of i1, what they lead to is of imm. -/
def RowsAt (w : World) (i1 imm : Nat → Nat → Prop) (b st sz : Nat) (rows : List (List D)) : Prop :=
  (∀ (i : Nat) (r : List D), rows[i]? = some r → r.length = sz) ∧
  ∀ (i j : Nat) (r : List D) (d : D), rows[i]? = some r → r[j]? = some d → ∃ x, w.cell? ⟨b, st + i * sz + j, none⟩ = some x ∧ i1 b (st + i * sz + j) ∧ DConc w imm d x

/-- A slice value over such rows. -/
def SlC (w : World) (i1 imm : Nat → Nat → Prop) (rows : List (List D)) (v : Value) : Prop :=
  ∃ a c, v = .slice a rows.length c ∧ rows.length ≤ c ∧ c ≤ maxLen ∧ (rows = [] ∨ ∃ b st sz, a = some ⟨b, st, none⟩ ∧ RowsAt w i1 imm b st sz rows)

theorem SlC.one {w : World} {i1 imm : Nat → Nat → Prop} {rows : List (List D)} {v : Value} (h : SlC w i1 imm rows v) : v.oneCell' = true := by
  obtain ⟨a, c, rfl, _⟩ := h; rfl

theorem SlC.nil {w : World} {i1 imm : Nat → Nat → Prop} (a : Option Addr) (c : Nat) (hc : c ≤ maxLen) : SlC w i1 imm [] (.slice a 0 c) := ⟨a, c, rfl, Nat.zero_le _, hc, .inl rfl⟩

theorem DConc.one {w : World} {imm : Nat → Nat → Prop} {d : D} {x : Value} (h : DConc w imm d x) : x.oneCell' = true := by
  cases h with
  | v _ h => exact h
  | nil => rfl
  | sl => rfl

theorem DConc.sl_iff {w : World} {imm : Nat → Nat → Prop} {rows : List (List D)} {v : Value} : DConc w imm (.sl rows) v ↔ SlC w imm imm rows v := by
  constructor
  · intro h
    cases h with
    | nil a c hc => exact ⟨a, c, rfl, Nat.zero_le _, hc, .inl rfl⟩
    | sl _ _ b st c g hn hc h1 h2 h3 h4 =>
      exact ⟨_, c, rfl, hn, hc, .inr ⟨b, st, _, rfl, h1, fun i j r d hr hd => ⟨g i j, h2 i j r d hr hd, h3 i j r d hr hd, h4 i j r d hr hd⟩⟩⟩
  · rintro ⟨a, c, rfl, hn, hc, hx⟩
    rcases hx with rfl | ⟨b, st, sz, rfl, h1, h2⟩
    · exact .nil a c hc
    · refine .sl sz rows b st c (fun i j => (w.cell? ⟨b, st + i * sz + j, none⟩).getD undef) hn hc h1 ?_ ?_ ?_
      · intro i j r d hr hd
        obtain ⟨x, hx, _, _⟩ := h2 i j r d hr hd
        simp [hx]
      · intro i j r d hr hd
        obtain ⟨x, _, hi, _⟩ := h2 i j r d hr hd
        exact hi
      · intro i j r d hr hd
        obtain ⟨x, hx, _, hc⟩ := h2 i j r d hr hd
        simpa [hx] using hc

theorem DConc.mono {w w' : World} {imm imm' : Nat → Nat → Prop} (hw : ∀ b o, imm b o → w'.cell? ⟨b, o, none⟩ = w.cell? ⟨b, o, none⟩)
    (hi : ∀ b o, imm b o → imm' b o) {d : D} {v : Value} (h : DConc w imm d v) : DConc w' imm' d v := by
  induction h with
  | v x h => exact .v x h
  | nil a c hc => exact .nil a c hc
  | sl sz rows b st c g hn hc h1 h2 h3 h4 ih =>
    exact .sl sz rows b st c g hn hc h1 (fun i j r d hr hd => (hw _ _ (h3 i j r d hr hd)).trans (h2 i j r d hr hd))
      (fun i j r d hr hd => hi _ _ (h3 i j r d hr hd)) ih

theorem RowsAt.mono {w w' : World} {i1 i1' imm imm' : Nat → Nat → Prop} (hw1 : ∀ b o, i1 b o → w'.cell? ⟨b, o, none⟩ = w.cell? ⟨b, o, none⟩) (hi1 : ∀ b o, i1 b o → i1' b o)
    (hw : ∀ b o, imm b o → w'.cell? ⟨b, o, none⟩ = w.cell? ⟨b, o, none⟩) (hi : ∀ b o, imm b o → imm' b o) {b st sz : Nat} {rows : List (List D)} (h : RowsAt w i1 imm b st sz rows) : RowsAt w' i1' imm' b st sz rows :=
  ⟨h.1, fun i j r d hr hd => let ⟨x, hx, hm, hc⟩ := h.2 i j r d hr hd; ⟨x, (hw1 _ _ hm).trans hx, hi1 _ _ hm, hc.mono hw hi⟩⟩

theorem SlC.mono {w w' : World} {i1 i1' imm imm' : Nat → Nat → Prop} (hw1 : ∀ b o, i1 b o → w'.cell? ⟨b, o, none⟩ = w.cell? ⟨b, o, none⟩) (hi1 : ∀ b o, i1 b o → i1' b o)
    (hw : ∀ b o, imm b o → w'.cell? ⟨b, o, none⟩ = w.cell? ⟨b, o, none⟩) (hi : ∀ b o, imm b o → imm' b o) {rows : List (List D)} {v : Value} (h : SlC w i1 imm rows v) : SlC w' i1' imm' rows v := by
  obtain ⟨a, c, e, hn, hc, hor⟩ := h
  refine ⟨a, c, e, hn, hc, ?_⟩
  rcases hor with h | ⟨b, st, sz, ha, hr⟩
  · exact .inl h
  · exact .inr ⟨b, st, sz, ha, hr.mono hw1 hi1 hw hi⟩

/-- What is known of a slice's room: nothing; that it has none; that its end is the end of what object o has. -/
inductive Tk where
  | none | exact | own (o : Nat)
  deriving Inhabited

inductive AV where
  | v (x : Value)
  | sl (rows : List (List D)) (t : Tk)
  | agg (cs : List AV)
  | tup (cs : List AV)
  | ptr (o off : Nat)
  | ep (rows : List (List D)) (i off : Nat) (t : Tk)
  | bsl (o off len : Nat)
  | map (o : Nat)
  | fn (f : Nat) (first cap : List AV)
  | cnd (g : Bool) (x : AV)
  | any
  deriving Inhabited

def AV.ofD : D → AV
  | .v x => .v x
  | .sl rows => .sl rows .none

def AV.toD : AV → Option D
  | .v (.slice Option.none 0 0) => some (.sl [])
  | .v x => some (.v x)
  | .sl rows .none => some (.sl rows)
  | .sl rows .exact => some (.sl rows)
  | _ => Option.none

def AV.toDs : List AV → Option (List D)
  | [] => some []
  | a :: l => match a.toD, AV.toDs l with
    | some d, some ds => some (d :: ds)
    | _, _ => Option.none

/-- Where an object lies: a block; a row without room for more; a row: how many elements count, how many have room, an element's cells, and whether nothing else leads there. -/
inductive GB where
  | obj (b : Nat) | full (len : Nat) | tok (b len cap sz : Nat) (ex : Bool)
  deriving Inhabited

def GB.blk : GB → Option Nat
  | .obj b => some b
  | .full _ => Option.none
  | .tok b _ _ _ _ => some b

structure Ghost where
  bl : List GB
  imm : Nat → Nat → Prop

/-- The cells that a slice with this tag may lie in. -/
def Ghost.im (G : Ghost) : Tk → Nat → Nat → Prop
  | .own o => fun b off => G.imm b off ∨ ∃ len cap sz, G.bl[o]? = some (.tok b len cap sz true) ∧ off < len * sz
  | _ => G.imm

theorem Ghost.imm_im (G : Ghost) (t : Tk) {b off : Nat} (h : G.imm b off) : G.im t b off := by
  cases t with
  | none => exact h
  | exact => exact h
  | own o => exact .inl h

def TkOk (G : Ghost) (n : Nat) (v : Value) : Tk → Prop
  | .none => True
  | .exact => ∃ a, v = .slice a n n
  | .own o => (∃ len, G.bl[o]? = some (.full len) ∧ n ≤ len ∧ (n = len → ∃ a, v = .slice a n n)) ∨
      ∃ b len cap sz ex, G.bl[o]? = some (.tok b len cap sz ex) ∧ n ≤ len ∧ (n = len → v = .slice (some ⟨b, 0, Option.none⟩) len cap)

inductive Conc (G : Ghost) (w : World) : AV → Value → Prop
  | v (x : Value) (h : x.oneCell' = true) : Conc G w (.v x) x
  | any (x : Value) : Conc G w .any x
  | cnd (g : Bool) (y : AV) (x : Value) (h : g = true → Conc G w y x) (h' : g = false → x = undef) : Conc G w (.cnd g y) x
  | sl (rows : List (List D)) (t : Tk) (x : Value) (h : SlC w (G.im t) G.imm rows x) (ht : TkOk G rows.length x t) : Conc G w (.sl rows t) x
  | agg (cs : List AV) (vs : List Value) (hl : vs.length = cs.length) (h1 : ∀ (i : Nat) (v : Value), vs[i]? = some v → v.oneCell' = true)
      (h : ∀ (i : Nat) (c : AV) (v : Value), cs[i]? = some c → vs[i]? = some v → Conc G w c v) : Conc G w (.agg cs) (.agg vs.toArray)
  | tup (cs : List AV) (vs : List Value) (hl : vs.length = cs.length)
      (h : ∀ (i : Nat) (c : AV) (v : Value), cs[i]? = some c → vs[i]? = some v → Conc G w c v) : Conc G w (.tup cs) (.tuple vs.toArray)
  | ptr (o off b : Nat) (h : G.bl[o]? = some (.obj b)) : Conc G w (.ptr o off) (.pointer (some ⟨b, off, Option.none⟩))
  | ep (rows : List (List D)) (i off : Nat) (t : Tk) (b st sz : Nat) (h : RowsAt w (G.im t) G.imm b st sz rows) :
      Conc G w (.ep rows i off t) (.pointer (some ⟨b, st + i * sz + off, Option.none⟩))
  | bsl (o off len cap b : Nat) (h : G.bl[o]? = some (.obj b)) (h1 : len ≤ cap) (h2 : cap ≤ maxLen) : Conc G w (.bsl o off len) (.slice (some ⟨b, off, Option.none⟩) len cap)
  | bsl0 (o off cap : Nat) (a : Option Addr) (h2 : cap ≤ maxLen) : Conc G w (.bsl o off 0) (.slice a 0 cap)
  | map (o b : Nat) (h : G.bl[o]? = some (.obj b)) : Conc G w (.map o) (.map (some b))
  | fn (f : Nat) (first cap : List AV) (vf vc : List Value) (hf : vf.length = first.length) (hc : vc.length = cap.length)
      (h1 : ∀ (i : Nat) (c : AV) (v : Value), first[i]? = some c → vf[i]? = some v → Conc G w c v)
      (h2 : ∀ (i : Nat) (c : AV) (v : Value), cap[i]? = some c → vc[i]? = some v → Conc G w c v) : Conc G w (.fn f first cap) (.func (.func f) vf.toArray vc.toArray)

structure Ext (G : Ghost) (w : World) (G' : Ghost) (w' : World) : Prop where
  cells : ∀ t b o, G.im t b o → w'.cell? ⟨b, o, none⟩ = w.cell? ⟨b, o, none⟩
  im : ∀ t b o, G.im t b o → G'.im t b o
  obj : ∀ (o : Nat) b, G.bl[o]? = some (GB.obj b) → G'.bl[o]? = some (GB.obj b)
  full : ∀ (o : Nat) len, G.bl[o]? = some (GB.full len) → G'.bl[o]? = some (GB.full len) ∨ ∃ b len' cap sz ex, G'.bl[o]? = some (GB.tok b len' cap sz ex) ∧ len < len'
  tok : ∀ (o : Nat) b len cap sz ex, G.bl[o]? = some (GB.tok b len cap sz ex) → ∃ b' len' cap' sz' ex', G'.bl[o]? = some (GB.tok b' len' cap' sz' ex') ∧ (len < len' ∨ (b' = b ∧ len' = len ∧ cap' = cap))

theorem Ext.imm {G G' : Ghost} {w w' : World} (h : Ext G w G' w') (b o : Nat) (hi : G.imm b o) : G'.imm b o := h.im .none b o hi
theorem Ext.cell {G G' : Ghost} {w w' : World} (h : Ext G w G' w') (b o : Nat) (hi : G.imm b o) : w'.cell? ⟨b, o, none⟩ = w.cell? ⟨b, o, none⟩ := h.cells .none b o hi

theorem Ext.refl (G : Ghost) (w : World) : Ext G w G w :=
  ⟨fun _ _ _ _ => rfl, fun _ _ _ h => h, fun _ _ h => h, fun _ _ h => .inl h, fun _ b len cap sz ex h => ⟨b, len, cap, sz, ex, h, .inr ⟨rfl, rfl, rfl⟩⟩⟩

theorem Ext.trans {G1 G2 G3 : Ghost} {w1 w2 w3 : World} (h : Ext G1 w1 G2 w2) (k : Ext G2 w2 G3 w3) : Ext G1 w1 G3 w3 := by
  refine ⟨fun t b o hi => (k.cells t b o (h.im t b o hi)).trans (h.cells t b o hi), fun t b o hi => k.im t b o (h.im t b o hi), fun o b hb => k.obj o b (h.obj o b hb), ?_, ?_⟩
  · intro o l ho
    rcases h.full o l ho with h2 | ⟨b, len, cap, sz, ex, h2, hp⟩
    · exact k.full o l h2
    · obtain ⟨b', len', cap', sz', ex', h3, hx⟩ := k.tok o b len cap sz ex h2
      exact .inr ⟨b', len', cap', sz', ex', h3, by omega⟩
  · intro o b len cap sz ex ho
    obtain ⟨b2, len2, cap2, sz2, ex2, h2, hx⟩ := h.tok o b len cap sz ex ho
    obtain ⟨b3, len3, cap3, sz3, ex3, h3, hy⟩ := k.tok o b2 len2 cap2 sz2 ex2 h2
    refine ⟨b3, len3, cap3, sz3, ex3, h3, ?_⟩
    rcases hx with hx | ⟨rfl, rfl, rfl⟩
    · rcases hy with hy | ⟨_, rfl, _⟩
      · exact .inl (by omega)
      · exact .inl hx
    · exact hy

end Go.Proofs.Ytickejlolpoboaa.AM
