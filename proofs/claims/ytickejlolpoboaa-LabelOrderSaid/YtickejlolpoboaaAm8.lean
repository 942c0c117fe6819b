/- Parts of tuples, single operands, conversions, comparison of structs, lengths. -/
import Derived.Test.YtickejlolpoboaaAm7
set_option linter.all false
namespace Go.Proofs.Ytickejlolpoboaa.AM
open Go

def extractAV (x : AV) (i : Nat) (k : AV → Prop) : Prop :=
  match x with
  | .tup cs => i < cs.length ∧ k (cs.getD i .any)
  | _ => False

theorem extract_sound {P : Program} {G : Ghost} {w : World} {i : Nat} {x : AV} {v : Value} {k : AV → Prop}
    (h : extractAV x i k) (hx : Conc G w x v) : ∃ r y, (Instr.extract v i).run P w = .ok r w ∧ Conc G w y r ∧ k y := by
  cases x <;> try exact h.elim
  case tup cs =>
    obtain ⟨hi, hk⟩ := h
    cases hx with
    | tup _ vs hl hc =>
      have hi' : i < vs.length := by omega
      refine ⟨vs[i], cs[i], by simp [Instr.extract, hi'], hc i _ _ (List.getElem?_eq_getElem hi) (List.getElem?_eq_getElem hi'), ?_⟩
      simpa [List.getD_eq_getElem?_getD, List.getElem?_eq_getElem hi] using hk

def unAV (op : UnOp) (x : AV) (k : AV → Prop) : Prop :=
  match op, x with
  | .not, .v (.bool b) => k (.v (.bool (!b)))
  | .neg, .v (.int q n) => k (.v (.int q (q.wrap (0 - n))))
  | .xor, .v (.int q n) => k (.v (.int q (q.wrap (BitVec.ofInt q.bits (if q.signed then -1 else q.max) ^^^ BitVec.ofInt q.bits n).toNat)))
  | _, _ => False

theorem un_sound {P : Program} {G : Ghost} {w : World} {op : UnOp} {x : AV} {v : Value} {k : AV → Prop}
    (h : unAV op x k) (hx : Conc G w x v) : ∃ r y, (Op.unary op v).run P w = .ok r w ∧ Conc G w y r ∧ k y := by
  unfold unAV at h
  split at h
  · cases hx; exact ⟨_, _, rfl, .v _ rfl, h⟩
  · cases hx; exact ⟨_, _, rfl, .v _ rfl, h⟩
  · cases hx; exact ⟨_, _, rfl, .v _ rfl, h⟩
  · exact h.elim

def byteOfD : List D → Option UInt8
  | [.v (.int .u8 n)] => some (UInt8.ofNat n.toNat)
  | _ => none

def bytesOfD : List (List D) → Option (List UInt8)
  | [] => some []
  | r :: rs => match byteOfD r, bytesOfD rs with | some b, some bs => some (b :: bs) | _, _ => none

/-- Octets as rows. -/
def encB (l : List UInt8) : List (List D) := l.map fun b => [.v (.int .u8 (b.toNat : Int))]

theorem byteOfD_enc (b : UInt8) : byteOfD [.v (.int .u8 (b.toNat : Int))] = some b := by
  simp [byteOfD]

theorem bytesOfD_enc (l : List UInt8) : bytesOfD (encB l) = some l := by
  induction l with
  | nil => rfl
  | cons b l ih => simp only [encB, List.map_cons, bytesOfD, byteOfD_enc]; rw [show (List.map (fun b : UInt8 => [D.v (.int .u8 (b.toNat : Int))]) l) = encB l from rfl, ih]

def convAV (P : Program) (src dst : TypeId) (x : AV) (k : AV → Prop) : Prop :=
  match ti P src, ti P dst with
  | some i, some j =>
    match j.desc, x with
    | .int q, .v (.int _ n) => k (.v (.int q (q.wrap n)))
    | .string, .v (.string s) => k (.v (.string s))
    | .string, .sl rows _ =>
      match i.desc with
      | .slice e =>
        match ti P e, bytesOfD rows with
        | some ei, some bs => ei.desc = .int .u8 ∧ k (.v (.string ⟨bs.toArray⟩))
        | _, _ => False
      | _ => False
    | .string, .v (.slice none 0 0) =>
      match i.desc with
      | .slice e => (ti P e).map TI.desc = some (.int .u8) ∧ k (.v (.string ⟨#[]⟩))
      | _ => False
    | _, _ => False
  | _, _ => False

theorem bytes_rows {w : World} {i1 imm : Nat → Nat → Prop} : ∀ (rows : List (List D)) (bs : List UInt8) (b st sz : Nat), bytesOfD rows = some bs → RowsAt w i1 imm b st sz rows →
    ∃ ns : List Int, ns.length = rows.length ∧ (ns.map fun n => UInt8.ofNat n.toNat) = bs ∧ ∀ (j : Nat) (n : Int), ns[j]? = some n → w.cell? ⟨b, st + j, none⟩ = some (.int .u8 n)
  | [], bs, b, st, sz, hb, _ => by cases hb; exact ⟨[], rfl, rfl, by simp⟩
  | r :: rs, bs, b, st, sz, hb, hr => by
    simp only [bytesOfD] at hb
    cases h1 : byteOfD r with
    | none => simp [h1] at hb
    | some c =>
      cases h2 : bytesOfD rs with
      | none => simp [h1, h2] at hb
      | some cs =>
        simp only [h1, h2, Option.some.injEq] at hb
        subst hb
        have hrn : ∃ n, r = [.v (.int .u8 n)] ∧ c = UInt8.ofNat n.toNat := by
          unfold byteOfD at h1
          split at h1
          · cases h1; exact ⟨_, rfl, rfl⟩
          · cases h1
        obtain ⟨n, rfl, rfl⟩ := hrn
        have hsz : sz = 1 := by have := hr.1 0 _ rfl; simpa using this.symm
        subst hsz
        have hrest : RowsAt w i1 imm b (st + 1) 1 rs := by
          have := hr.sub 1 (rs.length + 1)
          simpa [List.take_of_length_le] using this
        obtain ⟨ns, e1, e2, e3⟩ := bytes_rows rs cs b (st + 1) 1 h2 hrest
        refine ⟨n :: ns, by simp [e1], by simp [e2], ?_⟩
        intro j m hj
        cases j with
        | zero =>
          simp only [List.getElem?_cons_zero, Option.some.injEq] at hj
          subst hj
          obtain ⟨x, hx, _, hc⟩ := hr.2 0 0 _ _ rfl rfl
          cases hc
          simpa using hx
        | succ j =>
          simp only [List.getElem?_cons_succ] at hj
          have := e3 j m hj
          rwa [show st + (j + 1) = st + 1 + j from by omega]

theorem conv_sound {P : Program} {G : Ghost} {w : World} {src dst : TypeId} {x : AV} {v : Value} {k : AV → Prop}
    (h : convAV P src dst x k) (hx : Conc G w x v) : ∃ r y, (convert src dst v).run P w = .ok r w ∧ Conc G w y r ∧ k y := by
  unfold convAV at h
  split at h
  · rename_i i j hi hj
    have hui := ti_und hi w
    have huj := ti_und hj w
    have pi := (ti_spec hi).1
    have pj := (ti_spec hj).1
    split at h
    · rename_i q _ n hd
      cases hx
      rw [hd] at huj
      exact ⟨_, _, by simp [convert, hui, huj, Conv.intToInt], .v _ rfl, h⟩
    · rename_i s hd
      cases hx
      rw [hd] at huj
      refine ⟨.string s, _, ?_, .v _ rfl, h⟩
      simp only [convert, Sem.run_bind, hui, huj, Result.andThen_ok]
      cases i.desc <;> rfl
    · rename_i rows tk hd
      split at h
      · rename_i e hde
        split at h
        · rename_i ei bs he hbs
          obtain ⟨h8, hk⟩ := h
          have pe := (ti_spec he).1
          rw [hde] at pi; rw [hd] at pj; rw [h8] at pe
          refine ⟨.string ⟨bs.toArray⟩, _, ?_, .v _ rfl, hk⟩
          cases hx with
          | sl _ _ _ hdc _ =>
            obtain ⟨a, c, rfl, hn, hc, hor⟩ := hdc
            rcases hor with rfl | ⟨b, st, sz, rfl, hr⟩
            · cases hbs
              rw [run_convert_bytes_string w src dst e _ _ c pi pe pj]
              cases a with
              | none => simp [Conv.bytesToString]; rfl
              | some a =>
                rw [show ([] : List (List D)).length = 0 from rfl, run_bytesToString w a 0 c [] (by simp [loadCells, loadCellsFrom])]
                rfl
            · obtain ⟨ns, e1, e2, e3⟩ := bytes_rows rows bs b st sz hbs hr
              have := run_convert_bytes_arg (P := P) w src e pi pe b st rows.length c ns e1 (by
                intro i hi'
                have hlt : i < ns.length := by omega
                have := e3 i ns[i] (List.getElem?_eq_getElem hlt)
                rw [this]; simp [List.getD_eq_getElem?_getD, List.getElem?_eq_getElem hlt]) dst pj
              rw [this, ← e2]; rfl
        · exact h.elim
      · exact h.elim
    · rename_i hd
      split at h
      · rename_i e hde
        obtain ⟨h8, hk⟩ := h
        cases hx
        cases he : ti P e with
        | none => simp [he] at h8
        | some ei =>
          simp only [he, Option.map_some, Option.some.injEq] at h8
          have pe := (ti_spec he).1
          rw [hde] at pi; rw [hd] at pj; rw [h8] at pe
          exact ⟨_, _, run_convert_bytes_nil w src e pi pe 0 0 dst pj, .v _ rfl, hk⟩
      · exact h.elim
    · exact h.elim
  · exact h.elim

/-- A part of some cells. -/
def partO (P : Program) (t : TypeId) (cs : List AV) (off : Nat) : Option AV :=
  match ti P t with
  | some j => if off + j.size ≤ cs.length then (if j.isAgg then some (.agg ((cs.drop off).take j.size)) else if 0 < j.size then some (cs.getD off .any) else none) else none
  | none => none

def aeqFs (P : Program) (eq : TypeId → AV → AV → Option Bool) (xs ys : List AV) : List Field → Option Bool
  | [] => some true
  | f :: fs =>
    if f.name = "_" then aeqFs P eq xs ys fs else
    match partO P f.type xs f.offset, partO P f.type ys f.offset with
    | some a, some b =>
      match eq f.type a b, aeqFs P eq xs ys fs with
      | some r, some s => some (r && s)
      | _, _ => none
    | _, _ => none

def aeq (P : Program) : Nat → TypeId → AV → AV → Option Bool
  | 0, _, _, _ => none
  | n + 1, t, x, y =>
    match ti P t with
    | some i =>
      match i.desc, x, y with
      | .bool, .v (.bool a), .v (.bool b) => some (a == b)
      | .int _, .v (.int q a), .v (.int q' b) => if q = q' then some (decide (a = b)) else none
      | .string, .v (.string a), .v (.string b) => some (decide (a = b))
      | .struct fs, .agg xs, .agg ys => if P.stoodInHeld t = true then none else aeqFs P (aeq P n) xs ys fs.toList
      | _, _, _ => none
    | none => none

theorem partO_sound {P : Program} {G : Ghost} {w : World} {t : TypeId} {cs : List AV} {vs : List Value} {off : Nat} {y : AV}
    (h : partO P t cs off = some y) (hl : vs.length = cs.length) (h1 : ∀ (i : Nat) (v : Value), vs[i]? = some v → v.oneCell' = true)
    (hc : ∀ (i : Nat) (c : AV) (v : Value), cs[i]? = some c → vs[i]? = some v → Conc G w c v) :
    ∃ r, (part t vs.toArray off).run P w = .ok r w ∧ Conc G w y r := by
  unfold partO at h
  split at h
  · rename_i j hj
    have hp : partAV j cs off (fun z => z = y) := by
      unfold partAV
      split at h
      · rename_i hle
        refine ⟨hle, ?_⟩
        split at h
        · rename_i ha; rw [if_pos ha]; exact Option.some.inj h
        · rename_i ha
          rw [if_neg ha]
          split at h
          · rename_i h0; exact ⟨h0, Option.some.inj h⟩
          · cases h
      · cases h
    obtain ⟨r, z, hr, hz, rfl⟩ := part_sound hj hp hl h1 hc
    exact ⟨r, hr, hz⟩
  · cases h

theorem aeqFs_sound {P : Program} {G : Ghost} {w : World} {d : Nat} {eq : TypeId → AV → AV → Option Bool}
    (heq : ∀ t x y b u v, eq t x y = some b → Conc G w x u → Conc G w y v → (Op.equalIn d t u v).run P w = .ok b w)
    {xs ys : List AV} {us vs : List Value} (hx1 : us.length = xs.length) (hx2 : OneL us) (hx3 : ∀ (i : Nat) (c : AV) (v : Value), xs[i]? = some c → us[i]? = some v → Conc G w c v)
    (hy1 : vs.length = ys.length) (hy2 : OneL vs) (hy3 : ∀ (i : Nat) (c : AV) (v : Value), ys[i]? = some c → vs[i]? = some v → Conc G w c v) :
    ∀ (fs : List Field) (b : Bool), aeqFs P eq xs ys fs = some b → (Op.eqFields d us.toArray vs.toArray fs).run P w = .ok b w
  | [], b, h => by cases h; rfl
  | f :: fs, b, h => by
    simp only [aeqFs] at h
    simp only [Op.eqFields]
    split at h
    · rename_i hn
      rw [if_neg (by simpa using hn)]
      exact aeqFs_sound heq hx1 hx2 hx3 hy1 hy2 hy3 fs b h
    · rename_i hn
      rw [if_pos hn]
      split at h
      · rename_i a c ha hc
        obtain ⟨u, hu, hau⟩ := partO_sound ha hx1 hx2 hx3
        obtain ⟨v, hv, hcv⟩ := partO_sound hc hy1 hy2 hy3
        split at h
        · rename_i r s hr hs
          have e1 := heq _ _ _ _ _ _ hr hau hcv
          have e2 := aeqFs_sound heq hx1 hx2 hx3 hy1 hy2 hy3 fs s hs
          cases h
          simp only [Sem.run_bind, hu, hv, e1, Result.andThen_ok, Sem.run_ite]
          cases r
          · simp
          · simp [e2]
        · cases h
      · cases h

theorem aeq_sound {P : Program} {G : Ghost} {w : World} : ∀ (n : Nat) (t : TypeId) (x y : AV) (b : Bool) (u v : Value) (m : Nat), n ≤ m → aeq P n t x y = some b → Conc G w x u → Conc G w y v →
    (Op.equalIn m t u v).run P w = .ok b w
  | 0, _, _, _, _, _, _, _, _, h, _, _ => by cases h
  | n + 1, t, x, y, b, u, v, m, hm, h, hx, hy => by
    obtain ⟨m, rfl⟩ : ∃ m', m = m' + 1 := ⟨m - 1, by omega⟩
    simp only [aeq] at h
    split at h
    · rename_i i hi
      have hp := (ti_spec hi).1
      split at h
      · rename_i a c hd
        cases hx; cases hy; cases h
        rw [hd] at hp
        exact run_equalIn_bool' w m t a c hp
      · rename_i q a q' c hd
        split at h
        · rename_i hq
          subst hq
          cases hx; cases hy; cases h
          rw [hd] at hp
          rw [run_equalIn_int w m t q _ a c hp]; rfl
        · cases h
      · rename_i a c hd
        cases hx; cases hy; cases h
        rw [hd] at hp
        rw [run_equalIn_string w m t a c hp, toList_beq]
      · rename_i fs xs ys hd
        split at h
        · cases h
        · rename_i hst
          rw [hd] at hp
          have hf : P.fieldsOf t = fs := by simp [Program.fieldsOf, hp]
          cases hx with
          | agg _ us h1 h2 h3 =>
            cases hy with
            | agg _ vs k1 k2 k3 =>
              rw [run_equalIn_struct w m t _ _ (by rw [hf]; exact hp) (by simpa using hst), hf]
              exact aeqFs_sound (fun t x y b u v h hx hy => aeq_sound n t x y b u v m (by omega) h hx hy) h1 h2 h3 k1 k2 k3 _ _ h
      · cases h
    · cases h

def isSlD : TypeDesc → Bool
  | .slice _ => true
  | _ => false

def binAV (P : Program) (op : BinOp) (t : TypeId) (x y : AV) (k : AV → Prop) : Prop :=
  match x, y with
  | .v (.bool a), .v (.bool b) => P.underlying t = some .bool ∧ sbool op a b (fun r => k (.v r))
  | .v a, .v b => sbin op a b (fun r => k (.v r))
  | .agg xs, .agg ys =>
    match aeq P 9 t (.agg xs) (.agg ys) with
    | some b => P.eqGuardType P.depth t = false ∧ (match op with | .eql => k (.v (.bool b)) | .neq => k (.v (.bool (!b))) | _ => False)
    | none => False
  | .sl rows _, .v (.slice none 0 0) =>
    match ti P t with
    | some i => isSlD i.desc = true ∧ (match op with
      | .eql => (rows = [] → k (.v (.bool true))) ∧ k (.v (.bool false))
      | .neq => (rows = [] → k (.v (.bool false))) ∧ k (.v (.bool true))
      | _ => False)
    | none => False
  | _, _ => False

theorem equal_nil {P : Program} {w : World} {t : TypeId} {i : TI} (hi : ti P t = some i) (hd : isSlD i.desc = true) (a : Option Addr) (n c : Nat) :
    (Op.equal t (.slice a n c) (.slice none 0 0)).run P w = .ok a.isNone w := by
  have hu := ti_und hi w
  have gen : ∀ m, (Op.equalIn (m + 1) t (.slice a n c) (.slice none 0 0)).run P w = .ok a.isNone w := by
    intro m
    generalize i.desc = d at hu hd
    cases d <;> first | (simp [isSlD] at hd; done) | skip
    cases a <;> simp [Op.equalIn, hu]
  exact gen _

theorem bin_sound {P : Program} {G : Ghost} {w : World} {op : BinOp} {t : TypeId} {x y : AV} {u v : Value} {k : AV → Prop} (ox oy : Operand)
    (h : binAV P op t x y k) (hx : Conc G w x u) (hy : Conc G w y v) : ∃ r z, (do eqGuard op t ox oy u v; binOp op t u v : Sem Value).run P w = .ok r w ∧ Conc G w z r ∧ k z := by
  unfold binAV at h
  split at h
  · cases hx; cases hy
    obtain ⟨r, h1, h2, h3⟩ := sbool_sound h.2 t h.1 ox oy w
    exact ⟨r, .v r, h1, .v r h2, h3⟩
  · cases hx; cases hy
    obtain ⟨r, h1, h2, h3⟩ := sbin_sound h t ox oy w
    exact ⟨r, .v r, h1, .v r h2, h3⟩
  · rename_i xs ys
    split at h
    · rename_i b hb
      obtain ⟨hg, h⟩ := h
      have he := aeq_sound 9 t _ _ b u v 10000 (by omega) hb hx hy
      cases hx with
      | agg _ us h1 h2 h3 =>
        cases hy with
        | agg _ vs k1 k2 k3 =>
          cases op <;> simp only at h <;> try exact h.elim
          · exact ⟨_, _, by rw [Sem.run_bind, run_eqGuard_agg w _ t ox oy _ _ hg, Result.andThen_ok, run_eql_struct, he, Result.andThen_ok], .v _ rfl, h⟩
          · exact ⟨_, _, by rw [Sem.run_bind, run_eqGuard_agg w _ t ox oy _ _ hg, Result.andThen_ok, run_neq_struct, he, Result.andThen_ok], .v _ rfl, h⟩
    · exact h.elim
  · rename_i rows tk
    split at h
    · rename_i i hi
      obtain ⟨hd, h⟩ := h
      cases hy
      cases hx with
      | sl _ _ _ hdc _ =>
        obtain ⟨a, c, rfl, _, _, hr⟩ := hdc
        have heq := equal_nil hi hd a rows.length c (w := w)
        have hnone : a.isNone = true → rows = [] := by
          rcases hr with hr | ⟨b, st, sz, rfl, _⟩
          · exact fun _ => hr
          · intro h; cases h
        cases op <;> simp only at h <;> try exact h.elim
        · refine ⟨.bool a.isNone, .v (.bool a.isNone), ?_, .v _ rfl, ?_⟩
          · simp [eqGuard, binOp, heq]
          · cases ha : a.isNone
            · exact h.2
            · exact h.1 (hnone ha)
        · refine ⟨.bool (!a.isNone), .v (.bool (!a.isNone)), ?_, .v _ rfl, ?_⟩
          · simp [eqGuard, binOp, heq]
          · cases ha : a.isNone
            · exact h.2
            · exact h.1 (hnone ha)
    · exact h.elim
  · exact h.elim

def lenAV (P : Program) (t : TypeId) (x : AV) (k : AV → Prop) : Prop :=
  match ti P t with
  | some i =>
    match i.desc, x with
    | .string, .v (.string s) => k (.v (.int .i64 s.size))
    | .slice _, .sl rows _ => rows.length ≤ maxLen → k (.v (.int .i64 rows.length))
    | .slice _, .v (.slice none 0 0) => k (.v (.int .i64 0))
    | .slice _, .bsl _ _ len => k (.v (.int .i64 len))
    | .array n _, _ => k (.v (.int .i64 n))
    | _, _ => False
  | none => False

theorem len_sound {P : Program} {G : Ghost} {w : World} {t : TypeId} {x : AV} {v : Value} {k : AV → Prop} (ts : Array TypeId) (ty : TypeId)
    (h : lenAV P t x k) (hx : Conc G w x v) (ht : ts[0]? = some t) : ∃ r y, (Builtin.len_ ts ty #[v]).run P w = .ok r w ∧ Conc G w y r ∧ k y := by
  unfold lenAV at h
  split at h
  · rename_i i hi
    have hu := ti_und hi w
    split at h
    · rename_i s hd
      rw [hd] at hu; cases hx
      exact ⟨_, _, by simp [Builtin.len_, ht, hu, goInt], .v _ rfl, h⟩
    · rename_i e rows tk hd
      rw [hd] at hu
      cases hx with
      | sl _ _ _ hdc _ =>
        obtain ⟨a, c, rfl, hn, hc, hor⟩ := hdc
        exact ⟨_, _, by simp [Builtin.len_, ht, hu, goInt], .v _ rfl, h (by omega)⟩
    · rename_i e hd
      rw [hd] at hu; cases hx
      exact ⟨_, _, by simp [Builtin.len_, ht, hu, goInt], .v _ rfl, h⟩
    · rename_i e o off len hd
      rw [hd] at hu
      cases hx with
      | bsl0 => exact ⟨_, _, by simp [Builtin.len_, ht, hu, goInt], .v _ rfl, h⟩
      | bsl => exact ⟨_, _, by simp [Builtin.len_, ht, hu, goInt], .v _ rfl, h⟩
    · rename_i n e hd
      rw [hd] at hu
      exact ⟨_, _, by simp [Builtin.len_, ht, hu, goInt], .v _ rfl, h⟩
    · exact h.elim
  · exact h.elim

end Go.Proofs.Ytickejlolpoboaa.AM
