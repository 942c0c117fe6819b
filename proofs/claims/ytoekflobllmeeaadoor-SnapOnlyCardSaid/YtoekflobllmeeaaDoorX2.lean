/- A part of the proof: X15, X16, X17, X18. -/
import Derived.Test.YtoekflobllmeeaaDoorX1
import Derived.Lib.Bytealg
set_option linter.all false
/- Builders, and texts laid behind octets, for the models. -/
namespace Go.Proofs.YtoekflobllmeeaaDoor.AM
open Go

/-- A text's octets. -/
def octs (s : Str) : List Int := s.map fun b => (b.toNat : Int)
theorem octs_length (s : Str) : (octs s).length = s.length := by simp [octs]
theorem octs_enc (s : Str) : encB s = (octs s).map (cK .u8) := by simp [encB, octs, cK, Function.comp_def]
theorem strOf_octs (s : Str) : strOf (octs s) = s := by
  simp only [strOf, octs, List.map_map]
  conv => rhs; rw [← List.map_id s]
  refine List.map_congr_left fun b _ => ?_
  simp
theorem strOf_append (l l' : List Int) : strOf (l ++ l') = strOf l ++ strOf l' := by simp [strOf]

section
variable {P : Program} {n : Nat} {o : List (Nat × AV)} {objs objs' : List Obj} {x y : Operand} {t xt : TypeId}
/-- 'var b strings.Builder' -/
theorem E_bldN {e b : TypeId} {i : TI} {k k1 : Nat} (ht : ti P e = some i) (hz : i.zero = [.pointer none, .slice none 0 0]) (hk : objs.length = k) (hk1 : objs.length + 1 = k1) (ho : objs ++ [.bld e (.sl [] (.own k1)), .tok 0 1 b true] = objs') :
    Eff P (.alloc e) n o objs (.ptr k 0) objs' := by
  subst ho; subst hk; subst hk1
  refine ⟨?_⟩; intro p N E hp hN; unfold aop; rw [hp]; dsimp only; rw [ht]; exact .inr ⟨hz, b, hN⟩
theorem V_ldB {i : TI} {k e : Nat} {buf : AV} (ht : ti P t = some i) (ha : i.isAgg = false) (hs : i.size = 1) (hx : evo n o x = .ptr k 1) (ho : objs[k]? = some (.bld e buf)) : Val P (.load t x) n o objs buf := by
  refine ⟨?_⟩; intro p N E hp hN; unfold aop; rw [hp]; dsimp only; rw [eval_st, hx]; unfold loadAV; rw [ht]; dsimp only [st]; rw [ho]; exact ⟨rfl, ha, hs, hN⟩
theorem E_stB {i : TI} {k e : Nat} {buf z : AV} (ht : ti P t = some i) (hs : i.size = 1) (hx : evo n o x = .ptr k 1) (hy : cellsAV (evo n o y) = some [z]) (ho : objs[k]? = some (.bld e buf)) (ho' : objs.set k (.bld e z) = objs') : Eff P (.store t x y) n o objs .any objs' := by
  subst ho'
  refine ⟨?_⟩; intro p N E hp hN; unfold aop; rw [hp]; dsimp only; rw [eval_st, eval_st, hx]; unfold storeAV; rw [ht, hy]; dsimp only [st]; rw [ho]; exact ⟨rfl, hs, rfl, hN⟩
section
variable {i j xi : TI} {e : TypeId} {l : List Int} {a : Str} (ht : ti P t = some i) (hd : i.desc = .slice e) (hj : ti P e = some j) (h0 : 0 < j.size ∧ 0 < j.bytes) (hs : j.size = 1) (hxt : ti P xt = some xi) (hxd : isStrD xi.desc = true) (hy : evo n o y = .v (.string (bs a)))
include ht hd hj h0 hs hxt hxd hy
theorem app_str : appRows P t xt e (evo n o y) = some ((octs a).map (cK .u8)) ∧ ∀ r ∈ (octs a).map (cK .u8), r.length = j.size := by
  rw [hy]
  refine ⟨?_, fun r hr => ?_⟩
  · rw [← octs_enc]
    unfold appRows; dsimp only
    rw [hxt, hj, if_pos ⟨by simp [hxd], by simp [hs]⟩]
    rfl
  · obtain ⟨q, _, rfl⟩ := List.mem_map.1 hr; rw [hs]; rfl
theorem E_aps0 {k : Nat} (hx : evo n o x = .v (.slice none 0 0)) (hb : (octs a).length * j.bytes ≤ 140737488355328) (hk : objs.length = k) (ho : objs ++ [.tok (octs a).length j.size e true] = objs') :
    Eff P (.call ⟨.builtin .append, #[x, y], #[t, xt]⟩) n o objs (.sl ((octs a).map (cK .u8)) (.own k)) objs' := by
  subst hk; subst ho
  refine ⟨?_⟩; intro p N E hp hN; unfold aop; rw [hp]; dsimp only [List.map, Array.toList]; rw [eval_st, eval_st, hx]
  obtain ⟨k1, k2⟩ := app_str (n := n) (o := o) ht hd hj h0 hs hxt hxd hy
  unfold builtinAV; dsimp only; unfold appendAV; rw [ht]; dsimp only; rw [hd]; dsimp only; rw [hj]; dsimp only; rw [k1]; dsimp only
  refine ⟨h0.1, h0.2, k2, by rw [List.length_map]; exact hb, ?_⟩
  rw [List.length_map]; exact hN
theorem E_apsx {k : Nat} (hx : evo n o x = .sl (l.map (cK .u8)) .exact) (hpos : 0 < l.length + (octs a).length) (hb : (l.length + (octs a).length) * j.bytes ≤ 140737488355328) (hk : objs.length = k) (ho : objs ++ [.tok (l ++ octs a).length j.size e l.isEmpty] = objs') :
    Eff P (.call ⟨.builtin .append, #[x, y], #[t, xt]⟩) n o objs (.sl ((l ++ octs a).map (cK .u8)) (.own k)) objs' := by
  subst hk; subst ho
  refine ⟨?_⟩; intro p N E hp hN; unfold aop; rw [hp]; dsimp only [List.map, Array.toList]; rw [eval_st, eval_st, hx]
  obtain ⟨k1, k2⟩ := app_str (n := n) (o := o) ht hd hj h0 hs hxt hxd hy
  unfold builtinAV; dsimp only; unfold appendAV; rw [ht]; dsimp only; rw [hd]; dsimp only; rw [hj]; dsimp only; rw [k1]; dsimp only
  refine ⟨h0.1, h0.2, k2, by rw [List.length_map, List.length_map]; exact hpos, fun r hr => ?_, by rw [List.length_map, List.length_map]; exact hb, ?_⟩
  · obtain ⟨q, _, rfl⟩ := List.mem_map.1 hr; rw [hs]; rfl
  · have he : (l.map (cK .u8)).isEmpty = l.isEmpty := by cases l <;> rfl
    rw [List.length_map, List.length_map, ← List.map_append, ← List.length_append, he]; exact hN
theorem E_apso {k : Nat} {ex : Bool} {len : Nat} (hx : evo n o x = .sl (l.map (cK .u8)) (.own k)) (ho : objs[k]? = some (.tok len j.size e ex)) (hln : len = l.length) (hb : (l.length + (octs a).length) * j.bytes ≤ 140737488355328) (ho' : objs.set k (.tok (l ++ octs a).length j.size e ex) = objs') :
    Eff P (.call ⟨.builtin .append, #[x, y], #[t, xt]⟩) n o objs (.sl ((l ++ octs a).map (cK .u8)) (.own k)) objs' := by
  subst ho'
  refine ⟨?_⟩; intro p N E hp hN; unfold aop; rw [hp]; dsimp only [List.map, Array.toList]; rw [eval_st, eval_st, hx]
  obtain ⟨k1, k2⟩ := app_str (n := n) (o := o) ht hd hj h0 hs hxt hxd hy
  unfold builtinAV; dsimp only; unfold appendAV; rw [ht]; dsimp only; rw [hd]; dsimp only; rw [hj]; dsimp only; rw [k1]; dsimp only; rw [ho]
  refine ⟨h0.1, h0.2, k2, by rw [List.length_map]; exact hln, rfl, rfl, fun r hr => ?_, by rw [List.length_map, List.length_map]; exact hb, ?_⟩
  · obtain ⟨q, _, rfl⟩ := List.mem_map.1 hr; rw [hs]; rfl
  · rw [List.length_map, List.length_map, ← List.map_append, ← List.length_append]; exact hN
end
end
end Go.Proofs.YtoekflobllmeeaaDoor.AM

/- What the walks of functions that are handed objects lean on. -/
namespace Go.Proofs.YtoekflobllmeeaaDoor.AM
open Go

def vNI (_ : Unit) : AV := .v .nilIface
section
variable {κ α : Type} {kv : κ → Value} {av : α → AV} {es : List (κ × α)} {f : Nat → Nat}
theorem mp_ren (h : ∀ a, (av a).ren f = av a) : (Obj.map (mp kv av es)).ren f = .map (mp kv av es) := by
  simp only [Obj.ren, mp, List.map_map]
  congr 1
  refine List.map_congr_left fun e _ => ?_
  simp [h]
theorem mp_in {o : Option Obj} (e : o = some (.map (mp kv av es))) (h : ∀ a, (av a).ren f = av a) : o = some ((Obj.map (mp kv av es)).ren f) := by rw [mp_ren h]; exact e
end
theorem ofD_ren (f : Nat → Nat) : ∀ d : D, (AV.ofD d).ren f = .ofD d
  | .v _ => rfl
  | .sl _ => rfl
theorem renL_ofD (f : Nat → Nat) : ∀ l : List D, AV.renL f (l.map .ofD) = l.map .ofD
  | [] => rfl
  | d :: l => by simp [AV.renL, ofD_ren, renL_ofD f l]
theorem rc_ren {rows : List (List D)} {f : Nat → Nat} : (Obj.box (rowCells rows)).ren f = .box (rowCells rows) := by
  simp only [Obj.ren, rowCells, renL_ofD]
theorem rc_in {o : Option Obj} {rows : List (List D)} {f : Nat → Nat} (e : o = some (.box (rowCells rows))) : o = some ((Obj.box (rowCells rows)).ren f) := by rw [rc_ren]; exact e

def noM {β : Type} : Option β := none
theorem H_noM {β : Type} {Φ : β → Prop} {G : Prop} : H (noM : Option β) Φ G := fun _ h _ => by cases h
def bldCheck (_l : List Int) : Option Unit := some ()
def bldStr (l : List Int) : Option Str := gdM (∀ x ∈ l, 0 ≤ x ∧ x < 256) (retM (strOf l))
section
variable {P : Program} {n : Nat} {o : List (Nat × AV)} {objs : List Obj} {x y : Operand} {t : TypeId} {κ α : Type} [DecidableEq κ] {kv : κ → Value} {av : α → AV} {es : List (κ × α)} {i ki : TI} {kt et : TypeId} {k : Nat} {key : κ} {zl : List Value}
  (ht : ti P t = some i) (hd : i.desc = .map kt et) (hk : ti P kt = some ki) (hx : evo n o x = .map k) (ho : objs[k]? = some (.map (mp kv av es))) (hq : KeyOk kv ki.desc) (hy : evo n o y = .v (kv key))
theorem ofValue_agg (h1 : zl.all (·.oneCell') = true) : AV.ofValue (.agg zl.toArray) = .agg (zl.map .v) := by
  simp only [AV.ofValue]
  rw [if_pos (by simpa using h1)]
include ht hd hk hx ho hq hy
theorem V_lkNA (hz : (P.info? et).bind (·.zero) = some (.agg zl.toArray)) (h1 : zl.all (·.oneCell') = true) (hl : mlk es key = none) : Val P (.lookup t x y true) n o objs (.tup [.agg (zl.map .v), .v (.bool false)]) := by
  have := V_lkN ht hd hk hx ho hq hy hz hl
  rw [ofValue_agg h1] at this; exact this
theorem V_lkN1A (hz : (P.info? et).bind (·.zero) = some (.agg zl.toArray)) (h1 : zl.all (·.oneCell') = true) (hl : mlk es key = none) : Val P (.lookup t x y false) n o objs (.agg (zl.map .v)) := by
  have := V_lkN1 ht hd hk hx ho hq hy hz hl
  rw [ofValue_agg h1] at this; exact this
end
def shOk (n : Nat) : List Obj → List Obj → Prop
  | [], [] => True
  | x :: xs, y :: ys => x.shift n = y ∧ shOk n xs ys
  | _, _ => False
theorem shOk_eq {n : Nat} : ∀ {xs ys : List Obj}, shOk n xs ys → xs.map (Obj.shift n) = ys
  | [], [], _ => rfl
  | x :: xs, y :: ys, h => by rw [List.map_cons, h.1, shOk_eq h.2]
  | [], _ :: _, h => h.elim
  | _ :: _, [], h => h.elim
theorem ho_of {l xs ys : List Obj} {n : Nat} (h : shOk n xs (ys.drop l.length)) (e : l ++ ys.drop l.length = ys) : l ++ xs.map (Obj.shift n) = ys := by rw [shOk_eq h, e]
theorem mp_shift {κ α : Type} {kv : κ → Value} {av : α → AV} {es : List (κ × α)} {n : Nat} (h : ∀ a, (av a).shift n = av a) : (Obj.map (mp kv av es)).shift n = .map (mp kv av es) := by
  simp only [Obj.shift, mp, List.map_map]
  congr 1
  refine List.map_congr_left fun e _ => ?_
  simp [h]
/-- A builder is laid. -/
def bldM {β : Type} (_b : Nat) (m : Option β) : Option β := m
section
variable {P : Program} {β : Type} {m : Option β} {Φ : β → Prop} {ops rest : List Oper} {K : AS → Prop} {E : AV → List Obj → Prop} {n d : Nat} {o : List (Nat × AV)} {objs objs' : List Obj} {ty : TypeId} {pos : String} {af : Array Edge}
theorem M_bld {e b : TypeId} {i : TI} {k k1 : Nat} (ht : ti P e = some i) (hz : i.zero = [.pointer none, .slice none 0 0]) (hk : objs.length = k) (hk1 : objs.length + 1 = k1) (ho : objs ++ [.bld e (.sl [] (.own k1)), .tok 0 1 b true] = objs')
    (h : H m Φ (rg .p P ops rest (st n (oc d (.ptr k 0) o) objs') K E)) : H (bldM b m) Φ (rg .p P ops (⟨some d, .alloc e, ty, pos, af, none⟩ :: rest) (st n o objs) K E) :=
  fun y hy hp => S_e (E_bldN ht hz hk hk1 ho) h y hy hp
end
end Go.Proofs.YtoekflobllmeeaaDoor.AM

/- A new variable in a drawn region, for the models. -/
namespace Go.Proofs.YtoekflobllmeeaaDoor.AM
open Go

theorem aopsC_M {P : Program} {ops : Array Oper} {a : Nat} {cells : List AV} {rest : List Oper} {K : AS → Prop} : ∀ (l : List Oper) (k : Nat) (s : AS), (∀ j, j < l.length → k + j ≠ a) →
    aopsC P ops l s (fun s1 => aopsM P ops a cells rest (k + l.length) s1 K) → aopsM P ops a cells (l ++ rest) k s K
  | [], k, s, _, h => h
  | o :: l, k, s, ha, h => by
    obtain ⟨y, hy, h⟩ := h
    rw [List.cons_append]
    unfold aopsM
    rw [if_neg (by have := ha 0 (by simp); simpa using this)]
    refine ⟨y, hy, aopsC_M l (k + 1) _ (fun j hj => by have := ha (j + 1) (by simp; omega); omega) ?_⟩
    rw [show k + 1 + l.length = k + (o :: l).length from by simp; omega]
    exact h
theorem aopsC_mono {P : Program} {ops : Array Oper} {K K' : AS → Prop} (hK : ∀ s, K s → K' s) : ∀ (l : List Oper) (s : AS), aopsC P ops l s K → aopsC P ops l s K'
  | [], s, h => hK s h
  | o :: l, s, ⟨y, h1, h2⟩ => ⟨y, h1, aopsC_mono hK l _ h2⟩

def appO (s : AS) (b : Obj) : AS := ⟨s.tmps, s.objs ++ [b]⟩
/-- .. at place a, ahead of the tail at place k -/
def tailA {β : Type} (_k _a _d : Nat) (m : Option β) : Option β := m
section
variable {P : Program} {n0 n : Nat} {Q : AX → AS → Prop} {E : AV → List Obj → Prop} {β : Type} {m : Option β} {Φ : β → Prop} {o : List (Nat × AV)} {objs : List Obj}
theorem M_regA {id k a d0 : Nat} {l pre1 pre2 tl : List Oper} {e ty : TypeId} {pos : String} {af : Array Edge} {i : TI} {cells : List AV} (e1 : P.follows .mixedOrders = true) (e2 : lexA l.toArray k a d0 n = true)
    (h1 : l.take a = pre1) (ha : l[a]? = some ⟨some d0, .alloc e, ty, pos, af, none⟩) (h2 : (l.take k).drop (a + 1) = pre2) (h3 : l.drop k = tl) (hb : belowObjs objs.length objs = true) (hids : idsO objs.length o = true) (ht : ti P e = some i) (hz : i.zero.map .v = cells)
    (h : H m Φ (rg .c P l pre1 (st n o objs) (fun s1 => rg .c P l pre2 (s1.put (some d0) (.ptr s1.objs.length 0)) (fun s2 => AV.idsLtL objs.length (s2.tmps.set d0 .any) = true ∧ rg .p P l tl (appO s2 (.box cells)) (Q .normal) (fun _ _ => False)) E) E)) :
    H (tailA k a d0 m) Φ (awp P n0 (.region id l.toArray true) (st n o objs) Q E) := by
  intro y hy hp
  have hh := h y hy hp
  refine awp_regionA e1 ⟨k, a, d0, cells, by rw [show (st n o objs).tmps.length = n from ov_length n o]; exact e2, hb, idsO_L hids, ?_⟩
  have e2' := e2
  simp only [lexA, Bool.and_eq_true] at e2'
  have hak : a < k := Nat.le_of_ble_eq_true e2'.1.1.1.1.2
  have hkl : k ≤ l.length := by have := Nat.le_of_ble_eq_true e2'.1.1.1.1.1; simpa using this
  have hpl : pre1.length = a := by rw [← h1]; simp; omega
  have hsplit : l.toArray.toList.take k = pre1 ++ ⟨some d0, .alloc e, ty, pos, af, none⟩ :: pre2 := by
    show l.take k = _
    rw [← h1, ← h2]
    have e3 : (l.take k).take a = l.take a := by rw [List.take_take]; congr 1; omega
    have e4 : (l.take k)[a]? = some ⟨some d0, .alloc e, ty, pos, af, none⟩ := by rw [List.getElem?_take, if_pos hak]; exact ha
    rw [← e3]
    have := List.take_append_drop a (l.take k)
    conv => lhs; rw [← this]
    congr 1
    obtain ⟨hlt, hget⟩ := List.getElem?_eq_some_iff.1 e4
    rw [List.drop_eq_getElem_cons hlt, hget]
  rw [hsplit]
  refine aopsC_M pre1 0 _ (fun j hj => by omega) ?_
  refine aopsC_mono ?_ pre1 _ hh
  intro s1 hs1
  unfold aopsM
  rw [if_pos (by omega)]
  refine ⟨.ptr s1.objs.length 0, ⟨rfl, ?_⟩, ?_⟩
  · unfold aop; dsimp only
    rw [ht]
    subst hz
    exact .inl rfl
  · rw [← List.append_nil pre2]
    refine aopsC_M pre2 _ _ (fun j hj => by omega) ?_
    refine aopsC_mono ?_ pre2 _ hs1
    intro s2 hs2
    unfold aopsM
    subst h3
    exact hs2
theorem M_alst {ops l : List Oper} {K : AS → Prop} {d k : Nat} (hk : objs.length = k) (h : H m Φ (rg .c P ops l (st n (oc d (.ptr k 0) o) objs) K E)) : H m Φ (rg .c P ops l (AS.put (st n o objs) (some d) (.ptr (AS.objs (st n o objs)).length 0)) K E) := by
  subst hk
  rw [show AS.put (st n o objs) (some d) (.ptr (AS.objs (st n o objs)).length 0) = st n (oc d (.ptr objs.length 0) o) objs from put_ov n o objs d _]
  exact h
theorem M_ids {k d0 : Nat} {B : Prop} (h1 : idsO k (ofil (fun d => decide (d = d0)) o) = true) (h : H m Φ B) : H m Φ (AV.idsLtL k ((AS.tmps (st n o objs)).set d0 .any) = true ∧ B) := by
  intro y hy hp
  refine ⟨?_, h y hy hp⟩
  have h2 := idsO_one (n := n) h1
  have e : (AS.tmps (st n o objs)).set d0 .any = ov n (oc d0 .any o) := congrArg AS.tmps (put_ov n o objs d0 .any)
  rw [e]; exact h2
theorem M_apst {ops l : List Oper} {K : AS → Prop} {b : Obj} {objs' : List Obj} (hk : objs ++ [b] = objs') (h : H m Φ (rg .p P ops l (st n o objs') K E)) : H m Φ (rg .p P ops l (appO (st n o objs) b) K E) := by
  subst hk; exact h
end
end Go.Proofs.YtoekflobllmeeaaDoor.AM

/- Rows of one's own, handed and handed back; texts as octets; rows without room. -/
namespace Go.Proofs.YtoekflobllmeeaaDoor.AM
open Go

def callP {α β : Type} (_ks : List Nat) (_enc : α → AV) (_ob : α → List Obj) (e : Option α) (m : α → Option β) : Option β := e.bind m

section
variable {P : Program} {β α : Type} {m : α → Option β} {Φ : β → Prop} {ops rest : List Oper} {K : AS → Prop} {E : AV → List Obj → Prop} {n d g : Nat} {o : List (Nat × AV)} {objs oin : List Obj} {ty : TypeId} {pos : String} {af : Array Edge} {gd : Option (Nat × Bool)}
  {cal : Operand} {args : Array Operand} {at' : Array TypeId} {first cap argsC : List AV} {e : Option α} {X : α → AV} {O : α → List Obj} {enc : α → AV} {ob : α → List Obj} {ks : List Nat}

theorem call_opP {o1 : List (Nat × AV)} (hc : evo n o1 cal = .fn g first cap) (hen : enters P g = true) (hf : ∀ r, e = some r → FunO P g argsC oin (X r) (O r))
    (hle : AV.leL (first ++ args.toList.map (evo n o1) ++ cap) (AV.renL (rn ks objs.length) argsC)) (hn : nodupB ks = true) (hk : allLt objs.length ks = true)
    (hin : inOk (rn ks objs.length) objs ks oin) (ha : AV.idsLtL oin.length argsC = true) (hb : belowObjs oin.length oin = true)
    (hx : ∀ r, (X r).ren (rn ks objs.length) = enc r) (hO : ∀ r, outOk (rn ks objs.length) (O r) (pickO ks objs.length (ob r))) (ho : ∀ r, mergeL ks objs (pickO ks objs.length (ob r)) = ob r)
    {r : α} (hr : e = some r) : Eff P (.call ⟨.value cal, args, at'⟩) n o1 objs (enc r) (ob r) := by
  refine ⟨?_⟩
  intro p N E hp' hN
  unfold aop; rw [hp']; dsimp only
  have ee : (st n o1 objs).eval = evo n o1 := funext fun x => eval_st n o1 objs x
  rw [ee, hc]; dsimp only
  refine ⟨hen, ACall.le hle ?_⟩
  obtain ⟨hlen, hget⟩ := inOk_get hin
  refine ((hf r hr).frameR ks objs (nodupB_ok hn) (allLt_ok hk) hlen hget ha hb).mono ?_
  rintro ae oo ⟨ae0, o0, ⟨rfl, rfl⟩, rfl, rfl⟩
  show N _
  rw [outOk_eq (hO r), ho r, hx r]; exact hN

theorem M_callP (hg : gev n o ops gd = some true) (hc : evo n o cal = .fn g first cap) (hen : enters P g = true) (hf : ∀ r, e = some r → FunO P g argsC oin (X r) (O r))
    (hle : AV.leL (first ++ args.toList.map (evo n o) ++ cap) (AV.renL (rn ks objs.length) argsC)) (hn : nodupB ks = true) (hk : allLt objs.length ks = true)
    (hin : inOk (rn ks objs.length) objs ks oin) (ha : AV.idsLtL oin.length argsC = true) (hb : belowObjs oin.length oin = true)
    (hx : ∀ r, (X r).ren (rn ks objs.length) = enc r) (hO : ∀ r, outOk (rn ks objs.length) (O r) (pickO ks objs.length (ob r))) (ho : ∀ r, mergeL ks objs (pickO ks objs.length (ob r)) = ob r)
    (h : ∀ r, H (m r) Φ (rg .p P ops rest (st n (oc d (enc r) o) (ob r)) K E)) : H (callP ks enc ob e m) Φ (rg .p P ops (⟨some d, .call ⟨.value cal, args, at'⟩, ty, pos, af, gd⟩ :: rest) (st n o objs) K E) := by
  intro y hy hq
  unfold callP at hy
  cases he : e with
  | none => rw [he] at hy; cases hy
  | some r =>
    rw [he] at hy
    have hop := call_opP (at' := at') hc hen hf hle hn hk hin ha hb hx hO ho he
    cases gd with
    | none => exact S_e (v := enc r) (objs' := ob r) hop (h r) y hy hq
    | some jw =>
      obtain ⟨j, w⟩ := jw
      exact S_on (s' := st n (oc d (enc r) o) (ob r)) (j := j) (want := w) rfl (gcond_st rfl hg) rfl (fun N E hN => hop.run _ N E rfl hN) (h r) y hy hq
end

section
variable {P : Program} {n : Nat} {o : List (Nat × AV)} {objs : List Obj} {x y z : Operand} {t t' : TypeId}
theorem V_cvB {i j ei : TI} {e : TypeId} {a : Str} (ht : ti P t = some i) (hj : ti P t' = some j) (hd : j.desc = .slice e) (he : ti P e = some ei) (hu : ei.desc = .int .u8) (hx : evo n o x = .v (.string (bs a))) (hb : a.length ≤ 140737488355328) :
    Val P (.convert t t' x) n o objs (.sl ((octs a).map (cK .u8)) .none) := by
  refine ⟨?_⟩; intro p N E hp hN; unfold aop; rw [hp]; dsimp only; refine Or.inr ?_; rw [eval_st, hx]; unfold convBAV; rw [ht, hj]; dsimp only; rw [hd]; dsimp only
  exact ⟨by rw [he]; exact congrArg some hu, hb, by rw [show encB (bs a).data.toList = encB a from by simp [bs], octs_enc]; exact hN⟩
theorem V_ssE {α : Type} {c : α → List D} {i j : TI} {e : TypeId} {lo hi : Option Operand} {mx : Operand} {s : List α} {q : IntKind} {l h m : Int} (ht : ti P t = some i) (hd : i.desc = .slice e) (hj : ti P e = some j) (hz : ∀ r, (c r).length = j.size) (hx : evo n o x = .sl (s.map c) .none) (hl : ioptAV (lo.map (evo n o)) 0 = some l) (hh : ioptAV (hi.map (evo n o)) (s.length : Int) = some h) (hm : evo n o mx = .v (.int q m)) (hs : hi.isSome = true) (hb : 0 ≤ l ∧ l ≤ h ∧ h ≤ (s.length : Int)) (hmh : m = h) :
    Val P (.slice t x lo hi (some mx)) n o objs (.sl (((s.take h.toNat).drop l.toNat).map c) .exact) := by
  rw [hmh] at hm
  refine ⟨?_⟩; intro p N E hp hN; unfold aop; rw [hp]; dsimp only
  have e : (st n o objs).eval = evo n o := funext fun x => eval_st n o objs x
  rw [e, hx]; unfold sliceAV; rw [ht]; dsimp only; rw [hd]; dsimp only; rw [hj]
  have hmm : ∀ r ∈ s.map c, r.length = j.size := by intro r hr; obtain ⟨q, _, rfl⟩ := List.mem_map.1 hr; exact hz q
  have hN' : N ((st n o objs).put p.dst (.sl (((s.map c).take h.toNat).drop l.toNat) .exact)) := by rw [← List.map_take, ← List.map_drop]; exact hN
  rw [hl, List.length_map, hh, Option.map_some, hm]
  exact ⟨hmm, hb.1, hb.2.1, hb.2.2, rfl, by simpa using hs, (fun h => by cases h), hN'⟩
end

/-! ### A row without room becomes a row of one's own -/
theorem Weak.exo {n0 : Nat} {s : AS} (i sz e : Nat) {rows : List (List D)} (h : s.tmps[i]? = some (.sl rows .exact)) (hp : rows ≠ []) :
    Weak n0 s ⟨s.tmps.set i (.sl rows (.own s.objs.length)), s.objs ++ [.tok rows.length sz e false]⟩ := by
  intro G0 w0 G a w hn0 hf
  have hm := hf.sat.mem
  have hst := hf.step.push (.full rows.length) (by intro b hb; cases hb)
  refine ⟨⟨G.bl ++ [.full rows.length], G.imm⟩, hst, Mem.push hm (.inl ⟨rfl, fun h => by cases h⟩) (by intro b hb; cases hb), ?_, hf.sat.defers⟩
  have hmono := hf.sat.tmps.mono (ext_push G w (.full rows.length))
  have hi : i < a.tmps.toList.length := by
    rw [hf.sat.tmps.1]
    rcases Nat.lt_or_ge i s.tmps.length with hl | hl
    · exact hl
    · rw [List.getElem?_eq_none hl] at h; cases h
  have hg : a.tmps.toList[i]? = some a.tmps.toList[i] := List.getElem?_eq_getElem hi
  have hv := hf.sat.tmps.2 i _ _ h hg
  have hnew : Conc ⟨G.bl ++ [.full rows.length], G.imm⟩ w (.sl rows (.own s.objs.length)) a.tmps.toList[i] := by
    generalize a.tmps.toList[i] = v at hv
    cases hv with
    | sl _ _ _ hd ht =>
      obtain ⟨ad, hv⟩ := ht
      refine .sl _ _ _ (hd.mono (fun _ _ _ => rfl) (fun b off h => .inl h) (fun _ _ _ => rfl) (fun _ _ h => h)) (.inl ⟨rows.length, by rw [← hm.len]; simp, Nat.le_refl _, fun _ => ⟨ad, hv, fun h0 => ?_⟩⟩)
      exact absurd (List.length_eq_zero_iff.1 h0) hp
  have := hmono.set i (x := .sl rows (.own s.objs.length)) (v := a.tmps.toList[i]) hnew
  have hself : a.tmps.toList.set i a.tmps.toList[i] = a.tmps.toList := list_set_self hg
  rwa [hself] at this

def exoM {β : Type} (_d _k : Nat) (m : Option β) : Option β := m
section
variable {P : Program} {n0 n : Nat} {Q : AX → AS → Prop} {E : AV → List Obj → Prop} {β : Type} {m : Option β} {Φ : β → Prop} {o : List (Nat × AV)} {objs objs' : List Obj}
theorem W_exo {α : Type} {c : α → List D} {l : List α} {d k sz e : Nat} (hd : d < n) (h : og o d = .sl (l.map c) .exact) (hp : 0 < l.length) (hk : objs.length = k) (ho : objs ++ [.tok l.length sz e false] = objs') : Weak n0 (st n o objs) (st n (oc d (.sl (l.map c) (.own k)) o) objs') := by
  subst hk; subst ho
  have := Weak.exo (n0 := n0) (s := st n o objs) d sz e (rows := l.map c) (by rw [ov_get n o d hd, h]) (by intro h; rw [List.map_eq_nil_iff] at h; subst h; cases hp)
  rw [List.length_map] at this
  exact this
theorem R_exo {α : Type} {c : α → List D} {l : List α} {next : AS → Prop} {d k sz e : Nat} (hd : d < n) (h : og o d = .sl (l.map c) .exact) (hp : 0 < l.length) (hk : objs.length = k) (ho : objs ++ [.tok l.length sz e false] = objs') (hr : H m Φ (seqQ n0 next Q .normal (st n (oc d (.sl (l.map c) (.own k)) o) objs'))) : H (exoM d k m) Φ (seqQ n0 next Q .normal (st n o objs)) := by
  intro y hy hp'
  obtain ⟨s', h1, h2⟩ := hr y hy hp'
  exact ⟨s', (W_exo hd h hp hk ho).trans h1, h2⟩
end

/-! ### A part of an object becomes a row of one's own -/
theorem Mem.set1 {G : Ghost} {objs : List Obj} {w : World} (hm : Mem G objs w) {k : Nat} {x x' : Obj} (hk : objs[k]? = some x) (h : ∀ g, G.bl[k]? = some g → ObjOk G w g x → ObjOk G w g x') : Mem G (objs.set k x') w := by
  refine ⟨by rw [List.length_set]; exact hm.len, fun o y g hy hg => ?_, hm.inj, hm.lt, hm.immLt⟩
  rw [List.getElem?_set] at hy
  split at hy
  · rename_i e
    subst e
    split at hy
    · cases hy; exact h g hg (hm.ok _ _ g hk hg)
    · cases hy
  · exact hm.ok o y g hy hg
theorem Weak.tokB {n0 : Nat} {s : AS} (k i sz e : Nat) {cells : List AV} (h : s.objs[k]? = some (.box cells)) (hi : cells[i]? = some (.v (.slice none 0 0))) :
    Weak n0 s ⟨s.tmps, (s.objs.set k (.box (cells.set i (.sl [] (.own s.objs.length))))) ++ [.tok 0 sz e true]⟩ := by
  intro G0 w0 G a w hn0 hf
  have hm := hf.sat.mem
  have hst := hf.step.push (.full 0) (by intro b hb; cases hb)
  have m1 : Mem ⟨G.bl ++ [.full 0], G.imm⟩ (s.objs ++ [.tok 0 sz e true]) w := Mem.push hm (.inl ⟨rfl, fun _ => rfl⟩) (by intro b hb; cases hb)
  have hkl : k < s.objs.length := (List.getElem?_eq_some_iff.1 h).1
  have hk1 : (s.objs ++ [.tok 0 sz e true])[k]? = some (.box cells) := by rw [List.getElem?_append_left hkl]; exact h
  have m2 := m1.set1 hk1 (x' := .box (cells.set i (.sl [] (.own s.objs.length)))) (by
    intro g hg hok
    rcases hok with ⟨rfl, _⟩ | ⟨b, c, e', h1, h2, h3, h4, h5⟩
    · cases hi
    · refine .inr ⟨b, c, e', h1, h2, by rw [List.length_set]; exact h3, fun j x v hx hv => ?_, h5⟩
      rw [List.getElem?_set] at hx
      split at hx
      · rename_i e1
        subst e1
        split at hx
        · cases hx
          obtain ⟨q1, q2⟩ := h4 _ _ v hi hv
          refine ⟨q1, ?_⟩
          have := conc_v' q2
          subst this
          exact .sl [] _ _ (SlC.nil none 0 (by simp [maxLen])) (.inl ⟨0, by rw [← hm.len]; simp, Nat.le_refl _, fun _ => ⟨none, rfl, fun _ => rfl⟩⟩)
        · cases hx
      · exact h4 j x v hx hv)
  rw [List.set_append_left _ _ hkl] at m2
  exact ⟨⟨G.bl ++ [.full 0], G.imm⟩, hst, m2, hf.sat.tmps.mono (ext_push G w (.full 0)), hf.sat.defers⟩
def tokB {β : Type} (_k _i _sz _e : Nat) (m : Option β) : Option β := m
section
variable {P : Program} {n0 n : Nat} {Q : AX → AS → Prop} {E : AV → List Obj → Prop} {β : Type} {m : Option β} {Φ : β → Prop} {o : List (Nat × AV)} {objs objs1 objs' : List Obj}
theorem R_tokB {k i sz e kk : Nat} {c : Code} {cells cells' : List AV} (h : objs[k]? = some (.box cells)) (hi : cells[i]? = some (.v (.slice none 0 0))) (hk : objs.length = kk) (hc : cells.set i (.sl [] (.own kk)) = cells') (h1 : objs.set k (.box cells') = objs1) (ho : objs1 ++ [.tok 0 sz e true] = objs') (hr : H m Φ (awp P n0 (.loop c) (st n o objs') Q E)) : H (tokB k i sz e m) Φ (awp P n0 (.loop c) (st n o objs) Q E) := by
  subst hk; subst hc; subst h1; subst ho
  intro y hy hp
  obtain ⟨I, ⟨a, s', h1, h2⟩, h3⟩ := hr y hy hp
  exact ⟨I, ⟨a, s', (Weak.tokB (s := st n o objs) k i sz e h hi).trans h1, h2⟩, h3⟩
end
/-! ### The library's own, by its contracts -/
theorem Fun.of_calls2 {P : Program} {f : Nat} {x y v : Value} (h : ∀ w, Calls P f #[x, y] w (fun e w' => e = .returned v ∧ w' = w)) (hv : v.oneCell' = true) : Fun P f [.v x, .v y] (.v v) [] := by
  intro G w vs hm hc
  obtain ⟨hl, hc⟩ := hc
  match vs, hl with
  | [a, b], _ =>
    have h1 := conc_v' (hc 0 _ a rfl rfl)
    have h2 := conc_v' (hc 1 _ b rfl rfl)
    subst h1; subst h2
    refine (h w).mono ?_
    rintro e w' ⟨rfl, rfl⟩
    exact ⟨.ret (.v v), [], G, ⟨rfl, rfl⟩, hm, Step.refl G w', .v v hv⟩
def bytealg_CompareString (a b : Str) : Option Int := some (Go.Lib.compareBytes (bs a).data.toList (bs b).data.toList)

/-! ### Drawn regions, whatever comes late -/
def permM {β : Type} (_r : List (Bool × Nat)) (m : Option β) : Option β := m
/-- One effect. -/
def rgE (P : Program) (ops : List Oper) (o : Oper) (s : AS) (K : AS → Prop) : Prop := ∃ v objs', YE P ops.toArray o s v objs' ∧ Keeps s.objs objs' ∧ K ⟨(s.put o.dst v).tmps, objs'⟩
def gX (P : Program) (ops : List Oper) (K : AS → Prop) : List (Bool × Nat) → AS → Prop
  | [], s => K s
  | (false, i) :: r, s => match ops[i]? with | some o => rg .c P ops [o] s (gX P ops K r) (fun _ _ => False) | none => False
  | (true, i) :: r, s => match ops[i]? with | some o => rgE P ops o s (gX P ops K r) | none => False
theorem gX_ok {P : Program} {ops : List Oper} {K : AS → Prop} : ∀ (r : List (Bool × Nat)) (s : AS), gX P ops K r s → ∃ l, permO ops r l ∧ aopsX P ops.toArray K l s
  | [], _, h => ⟨[], trivial, h⟩
  | (false, i) :: r, s, h => by
    unfold gX at h
    split at h
    · rename_i o ho
      obtain ⟨y, h1, h2⟩ := h
      obtain ⟨l, k1, k2⟩ := gX_ok r _ h2
      exact ⟨(false, o) :: l, ⟨rfl, ho, k1⟩, y, h1, k2⟩
    · exact h.elim
  | (true, i) :: r, s, h => by
    unfold gX at h
    split at h
    · rename_i o ho
      obtain ⟨v, objs', h1, h2, h3⟩ := h
      obtain ⟨l, k1, k2⟩ := gX_ok r _ h3
      exact ⟨(true, o) :: l, ⟨rfl, ho, k1⟩, v, objs', h1, h2, k2⟩
    · exact h.elim
section
variable {P : Program} {n0 : Nat} {Q : AX → AS → Prop} {E : AV → List Obj → Prop} {β : Type} {m : Option β} {Φ : β → Prop} {s : AS}
theorem M_regX {id : Nat} {l : List Oper} {r : List (Bool × Nat)} (e1 : P.follows .mixedOrders = true) (e2 : Nat.beq r.length l.length = true) (e3 : permB l.toArray r (Array.replicate l.toArray.size false) = true) (h : H m Φ (gX P l (Q .normal) r s)) :
    H (permM r m) Φ (awp P n0 (.region id l.toArray true) s Q E) := by
  intro y hy hp
  obtain ⟨lo, h1, h2⟩ := gX_ok r s (h y hy hp)
  exact awp_regionX e1 e2 e3 h1 h2
theorem M_gXc {K : AS → Prop} {i : Nat} {o : Oper} {ops : List Oper} {r : List (Bool × Nat)} (ho : ops[i]? = some o) (h : H m Φ (rg .c P ops [o] s (gX P ops K r) (fun _ _ => False))) : H m Φ (gX P ops K ((false, i) :: r) s) := by
  intro y h1 h2; unfold gX; rw [ho]; exact h y h1 h2
theorem M_gXe {K : AS → Prop} {i : Nat} {o : Oper} {ops : List Oper} {r : List (Bool × Nat)} (ho : ops[i]? = some o) (h : H m Φ (rgE P ops o s (gX P ops K r))) : H m Φ (gX P ops K ((true, i) :: r) s) := by
  intro y h1 h2; unfold gX; rw [ho]; exact h y h1 h2
theorem M_gX0 {K : AS → Prop} {ops : List Oper} (h : H m Φ (K s)) : H m Φ (gX P ops K [] s) := h
end
section
variable {P : Program} {β α : Type} {m : α → Option β} {Φ : β → Prop} {ops : List Oper} {K : AS → Prop} {n d g : Nat} {o o1 : List (Nat × AV)} {objs objs1 objs' oin : List Obj} {ty : TypeId} {pos : String} {af : Array Edge} {v : AV}
  {cal : Operand} {args : Array Operand} {at' : Array TypeId} {first cap argsC : List AV} {e : Option α} {X : α → AV} {O : α → List Obj} {enc : α → AV} {ob : α → List Obj} {ks : List Nat} {op : Op}
theorem X_eff {m : Option β} (hop : Eff P op n (okeep (Oper.looksAt ops.toArray ⟨some d, op, ty, pos, af, none⟩) o) objs v objs') (hk : Keeps objs objs') (h : H m Φ (K (st n (oc d v o) objs'))) : H m Φ (rgE P ops ⟨some d, op, ty, pos, af, none⟩ (st n o objs) K) := by
  intro y hy hq
  refine ⟨v, objs', ⟨rfl, ?_⟩, hk, ?_⟩
  · rw [keep_ov]
    exact hop.run _ _ _ rfl rfl
  · have := h y hy hq
    rw [show (AS.put (st n o objs) (some d) v) = st n (oc d v o) objs from rfl]
    exact this
theorem X_callP (ho1 : okeep (Oper.looksAt ops.toArray ⟨some d, .call ⟨.value cal, args, at'⟩, ty, pos, af, none⟩) o = o1) (hc : evo n o1 cal = .fn g first cap) (hen : enters P g = true) (hf : ∀ r, e = some r → FunO P g argsC oin (X r) (O r))
    (hle : AV.leL (first ++ args.toList.map (evo n o1) ++ cap) (AV.renL (rn ks objs.length) argsC)) (hn : nodupB ks = true) (hk : allLt objs.length ks = true)
    (hin : inOk (rn ks objs.length) objs ks oin) (ha : AV.idsLtL oin.length argsC = true) (hb : belowObjs oin.length oin = true)
    (hx : ∀ r, (X r).ren (rn ks objs.length) = enc r) (hO : ∀ r, outOk (rn ks objs.length) (O r) (pickO ks objs.length (ob r))) (ho : ∀ r, mergeL ks objs (pickO ks objs.length (ob r)) = ob r) (hkp : ∀ r, Keeps objs (ob r))
    (h : ∀ r, H (m r) Φ (K (st n (oc d (enc r) o) (ob r)))) : H (callP ks enc ob e m) Φ (rgE P ops ⟨some d, .call ⟨.value cal, args, at'⟩, ty, pos, af, none⟩ (st n o objs) K) := by
  intro y hy hq
  unfold callP at hy
  cases he : e with
  | none => rw [he] at hy; cases hy
  | some r =>
    rw [he] at hy
    subst ho1
    exact X_eff (call_opP (at' := at') hc hen hf hle hn hk hin ha hb hx hO ho he) (hkp r) (h r) y hy hq
theorem X_call (ho1 : okeep (Oper.looksAt ops.toArray ⟨some d, .call ⟨.value cal, args, at'⟩, ty, pos, af, none⟩) o = o1) (hc : evo n o1 cal = .fn g first cap) (hen : enters P g = true) (hf : ∀ r, e = some r → Fun P g argsC (X r) (O r)) (ha : AV.idsLtL 0 argsC = true)
    (hle : AV.leL (AV.stripL (first ++ args.toList.map (evo n o1) ++ cap)) argsC)
    (hp : AV.pubL objs (first ++ args.toList.map (evo n o1) ++ cap) = objs1)
    (hx : ∀ r, (X r).shift objs1.length = enc r)
    (ho : ∀ r, objs1 ++ (O r).map (Obj.shift objs1.length) = ob r) (hkp : ∀ r, Keeps objs (ob r))
    (h : ∀ r, H (m r) Φ (K (st n (oc d (enc r) o) (ob r)))) : H (callM enc ob e m) Φ (rgE P ops ⟨some d, .call ⟨.value cal, args, at'⟩, ty, pos, af, none⟩ (st n o objs) K) := by
  intro y hy hq
  unfold callM at hy
  cases he : e with
  | none => rw [he] at hy; cases hy
  | some r =>
    rw [he] at hy
    subst hp; subst ho1
    exact X_eff (v := enc r) (objs' := ob r) (call_op hc hen hf ha hle hx ho he) (hkp r) (h r) y hy hq
theorem X_letO {enc : α → AV} {e : α} (hop : Eff P op n (okeep (Oper.looksAt ops.toArray ⟨some d, op, ty, pos, af, none⟩) o) objs (enc e) (ob e)) (hk : ∀ z, Keeps objs (ob z)) (h : ∀ z, H (m z) Φ (K (st n (oc d (enc z) o) (ob z)))) : H (letO enc ob e m) Φ (rgE P ops ⟨some d, op, ty, pos, af, none⟩ (st n o objs) K) := fun y hy hq => X_eff hop (hk e) (h e) y hy hq
theorem X_let {enc : α → AV} {e : α} (hop : Val P op n (okeep (Oper.looksAt ops.toArray ⟨some d, op, ty, pos, af, none⟩) o) objs (enc e)) (hk : Keeps objs objs) (h : ∀ z, H (m z) Φ (K (st n (oc d (enc z) o) objs))) : H (letE enc e m) Φ (rgE P ops ⟨some d, op, ty, pos, af, none⟩ (st n o objs) K) :=
  fun y hy hq => X_eff (objs' := objs) ⟨fun p N E hp hN => hop.run p N E hp (by cases hd : p.dst <;> simpa [AS.put, hd] using hN)⟩ hk (h e) y hy hq
end
/-! ### Branches, where the code branches -/
section
variable {P : Program} {n0 : Nat} {Q : AX → AS → Prop} {E : AV → List Obj → Prop} {β : Type} {m1 m2 : Option β} {Φ : β → Prop} {s : AS} {b : Bool}
theorem H_iteC {c : Operand} {t e : Code} (h1 : b = true → H m1 Φ (awp P n0 (.cond c t e) s Q E)) (h2 : b = false → H m2 Φ (awp P n0 (.cond c t e) s Q E)) : H (iteM b m1 m2) Φ (awp P n0 (.cond c t e) s Q E) := H_iteM h1 h2
theorem H_iteG {md : Mo} {ops rest : List Oper} {K : AS → Prop} {d : Option Nat} {op : Op} {ty : TypeId} {pos : String} {af : Array Edge} {jw : Nat × Bool} (h1 : b = true → H m1 Φ (rg md P ops (⟨d, op, ty, pos, af, some jw⟩ :: rest) s K E)) (h2 : b = false → H m2 Φ (rg md P ops (⟨d, op, ty, pos, af, some jw⟩ :: rest) s K E)) : H (iteM b m1 m2) Φ (rg md P ops (⟨d, op, ty, pos, af, some jw⟩ :: rest) s K E) := H_iteM h1 h2
end
/-! ### A row without elements, of one's own -/
def bs0M {β : Type} (m : Option β) : Option β := m
section
variable {P : Program} {β : Type} {m : Option β} {Φ : β → Prop} {ops rest : List Oper} {K : AS → Prop} {E : AV → List Obj → Prop} {n d k : Nat} {o : List (Nat × AV)} {objs objs' : List Obj} {ty t e : TypeId} {pos : String} {af : Array Edge}
theorem E_bs0 {i j : TI} (ht : ti P t = some i) (hd : i.desc = .slice e) (hj : ti P e = some j) (h0 : 0 < j.size) (hk : objs.length = k) (ho : objs ++ [.tok 0 j.size e true] = objs') : Eff P (.buildSlice t 0 #[]) n o objs (.sl [] (.own k)) objs' := by
  subst hk; subst ho
  refine ⟨?_⟩; intro p N E hp hN; unfold aop; rw [hp]; dsimp only
  exact Or.inr ⟨rfl, rfl, i, e, j, ht, hd, hj, h0, hN⟩
theorem M_bs0 {i j : TI} (ht : ti P t = some i) (hd : i.desc = .slice e) (hj : ti P e = some j) (h0 : 0 < j.size) (hk : objs.length = k) (ho : objs ++ [.tok 0 j.size e true] = objs') (h : H m Φ (rg .p P ops rest (st n (oc d (.sl [] (.own k)) o) objs') K E)) : H (bs0M m) Φ (rg .p P ops (⟨some d, .buildSlice t 0 #[], ty, pos, af, none⟩ :: rest) (st n o objs) K E) :=
  S_e (E_bs0 ht hd hj h0 hk ho) h
end
end Go.Proofs.YtoekflobllmeeaaDoor.AM
