/- A part of the proof: X18, X19, X20, X21, X22, X23, X24, X25, X26, X27. -/
import Derived.Test.YtcpjmkbcefmldaaGreatDoorX1
import Derived.Lib.Bytealg
import Derived.Lib.Overlaps
import Derived.Lib.AppendZerosOnto
set_option linter.all false
/- Rows of one's own, handed and handed back; texts as octets; rows without room. -/
namespace Go.Proofs.YtcpjmkbcefmldaaGreatDoor.AM
open Go

def callP {α β : Type} (_ks : List Nat) (_enc : α → AV) (_ob : α → List Obj) (e : Option α) (m : α → Option β) : Option β := e.bind m

section
variable {P : Program} {β α : Type} {m : α → Option β} {Φ : β → Prop} {ops rest : List Oper} {K : AS → Prop} {E : AV → List Obj → Prop} {n d g : Nat} {o : List (Nat × AV)} {objs oin : List Obj} {ty : TypeId} {pos : String} {af : Array Edge} {gd : Option (Nat × Bool)}
  {cal : Operand} {args : Array Operand} {at' : Array TypeId} {first cap argsC : List AV} {e : Option α} {X : α → AV} {O : α → List Obj} {enc : α → AV} {ob : α → List Obj} {ks : List Nat}

theorem call_opP {o1 : List (Nat × AV)} (hc : evo n o1 cal = .fn g first cap) (hen : enters P g = true) (hf : ∀ r, e = some r → FunO P g argsC oin (X r) (O r))
    (hle : AV.leL (first ++ args.toList.map (evo n o1) ++ cap) (AV.renL (rn ks objs.length) argsC)) (hn : nodupB ks = true) (hk : allLt objs.length ks = true)
    (hin : inOk (rn ks objs.length) objs ks oin) (ha : AV.idsLtL oin.length argsC = true) (hb : belowObjs oin.length oin = true)
    (hx : ∀ r, (X r).ren (rn ks objs.length) = enc r) (hO : ∀ r, outOk (rn ks objs.length) (O r) (pickO ks objs.length (ob r))) (ho : ∀ r, mergeL ks objs (pickO ks objs.length (ob r)) = ob r)
    {r : α} (hr : e = some r) : Eff P (.call ⟨.value cal, args, at'⟩) n o1 objs (enc r) (ob r) := by
  refine ⟨?_⟩
  intro p N E hp' hN
  unfold aop; rw [hp']; dsimp only
  have ee : (st n o1 objs).eval = evo n o1 := funext fun x => eval_st n o1 objs x
  rw [ee, hc]; dsimp only
  refine ⟨hen, ACall.le hle ?_⟩
  obtain ⟨hlen, hget⟩ := inOk_get hin
  refine ((hf r hr).frameR (outOk_len hlen (hO r)) ks objs (nodupB_ok hn) (allLt_ok hk) hlen hget ha hb).mono ?_
  rintro ae oo ⟨ae0, o0, ⟨rfl, rfl⟩, rfl, rfl⟩
  show N _
  rw [outOk_eq (hO r), ho r, hx r]; exact hN

theorem M_callP (hg : gev n o ops gd = some true) (hc : evo n o cal = .fn g first cap) (hen : enters P g = true) (hf : ∀ r, e = some r → FunO P g argsC oin (X r) (O r))
    (hle : AV.leL (first ++ args.toList.map (evo n o) ++ cap) (AV.renL (rn ks objs.length) argsC)) (hn : nodupB ks = true) (hk : allLt objs.length ks = true)
    (hin : inOk (rn ks objs.length) objs ks oin) (ha : AV.idsLtL oin.length argsC = true) (hb : belowObjs oin.length oin = true)
    (hx : ∀ r, (X r).ren (rn ks objs.length) = enc r) (hO : ∀ r, outOk (rn ks objs.length) (O r) (pickO ks objs.length (ob r))) (ho : ∀ r, mergeL ks objs (pickO ks objs.length (ob r)) = ob r)
    (h : ∀ r, H (m r) Φ (rg .p P ops rest (st n (oc d (enc r) o) (ob r)) K E)) : H (callP ks enc ob e m) Φ (rg .p P ops (⟨some d, .call ⟨.value cal, args, at'⟩, ty, pos, af, gd⟩ :: rest) (st n o objs) K E) := by
  intro y hy hq
  unfold callP at hy
  cases he : e with
  | none => rw [he] at hy; cases hy
  | some r =>
    rw [he] at hy
    have hop := call_opP (at' := at') hc hen hf hle hn hk hin ha hb hx hO ho he
    cases gd with
    | none => exact S_e (v := enc r) (objs' := ob r) hop (h r) y hy hq
    | some jw =>
      obtain ⟨j, w⟩ := jw
      exact S_on (s' := st n (oc d (enc r) o) (ob r)) (j := j) (want := w) rfl (gcond_st rfl hg) rfl (fun N E hN => hop.run _ N E rfl hN) (h r) y hy hq
end

section
variable {P : Program} {n : Nat} {o : List (Nat × AV)} {objs : List Obj} {x y z : Operand} {t t' : TypeId}
theorem V_cvB {i j ei : TI} {e : TypeId} {a : Str} (ht : ti P t = some i) (hj : ti P t' = some j) (hd : j.desc = .slice e) (he : ti P e = some ei) (hu : ei.desc = .int .u8) (hx : evo n o x = .v (.string (bs a))) (hb : a.length ≤ 140737488355328) :
    Val P (.convert t t' x) n o objs (.sl ((octs a).map (cK .u8)) .none) := by
  refine ⟨?_⟩; intro p N E hp hN; unfold aop; rw [hp]; dsimp only; refine Or.inr ?_; rw [eval_st, hx]; unfold convBAV; rw [ht, hj]; dsimp only; rw [hd]; dsimp only
  exact ⟨by rw [he]; exact congrArg some hu, hb, by rw [show encB (bs a).data.toList = encB a from by simp [bs], octs_enc]; exact hN⟩
theorem V_ssE {α : Type} {c : α → List D} {i j : TI} {e : TypeId} {lo hi : Option Operand} {mx : Operand} {s : List α} {q : IntKind} {l h m : Int} (ht : ti P t = some i) (hd : i.desc = .slice e) (hj : ti P e = some j) (hz : ∀ r, (c r).length = j.size) (hx : evo n o x = .sl (s.map c) .none) (hl : ioptAV (lo.map (evo n o)) 0 = some l) (hh : ioptAV (hi.map (evo n o)) (s.length : Int) = some h) (hm : evo n o mx = .v (.int q m)) (hs : hi.isSome = true) (hb : 0 ≤ l ∧ l ≤ h ∧ h ≤ (s.length : Int)) (hmh : m = h) :
    Val P (.slice t x lo hi (some mx)) n o objs (.sl (((s.take h.toNat).drop l.toNat).map c) .exact) := by
  rw [hmh] at hm
  refine ⟨?_⟩; intro p N E hp hN; unfold aop; rw [hp]; dsimp only
  have e : (st n o objs).eval = evo n o := funext fun x => eval_st n o objs x
  rw [e, hx]; unfold sliceAV; rw [ht]; dsimp only; rw [hd]; dsimp only; rw [hj]
  have hmm : ∀ r ∈ s.map c, r.length = j.size := by intro r hr; obtain ⟨q, _, rfl⟩ := List.mem_map.1 hr; exact hz q
  have hN' : N ((st n o objs).put p.dst (.sl (((s.map c).take h.toNat).drop l.toNat) .exact)) := by rw [← List.map_take, ← List.map_drop]; exact hN
  rw [hl, List.length_map, hh, Option.map_some, hm]
  exact ⟨hmm, hb.1, hb.2.1, hb.2.2, rfl, by simpa using hs, (fun h => by cases h), hN'⟩
end

/-! ### A row without room becomes a row of one's own -/
section
variable {P : Program} {n0 n : Nat} {Q : AX → AS → Prop} {E : AV → List Obj → Prop} {β : Type} {m : Option β} {Φ : β → Prop} {o : List (Nat × AV)} {objs objs' : List Obj}
end

/-! ### A part of an object becomes a row of one's own -/
section
variable {P : Program} {n0 n : Nat} {Q : AX → AS → Prop} {E : AV → List Obj → Prop} {β : Type} {m : Option β} {Φ : β → Prop} {o : List (Nat × AV)} {objs objs1 objs' : List Obj}
end
/-! ### The library's own, by its contracts -/
def permM {β : Type} (_r : List (Bool × Nat)) (m : Option β) : Option β := m
def rgE (P : Program) (ops : List Oper) (o : Oper) (s : AS) (K : AS → Prop) : Prop := ∃ v objs', YE P ops.toArray o s v objs' ∧ Keeps s.objs objs' ∧ K ⟨(s.put o.dst v).tmps, objs'⟩
def gX (P : Program) (ops : List Oper) (K : AS → Prop) : List (Bool × Nat) → AS → Prop
  | [], s => K s
  | (false, i) :: r, s => match ops[i]? with | some o => rg .c P ops [o] s (gX P ops K r) (fun _ _ => False) | none => False
  | (true, i) :: r, s => match ops[i]? with | some o => rgE P ops o s (gX P ops K r) | none => False
theorem gX_ok {P : Program} {ops : List Oper} {K : AS → Prop} : ∀ (r : List (Bool × Nat)) (s : AS), gX P ops K r s → ∃ l, permO ops r l ∧ aopsX P ops.toArray K l s
  | [], _, h => ⟨[], trivial, h⟩
  | (false, i) :: r, s, h => by
    unfold gX at h
    split at h
    · rename_i o ho
      obtain ⟨y, h1, h2⟩ := h
      obtain ⟨l, k1, k2⟩ := gX_ok r _ h2
      exact ⟨(false, o) :: l, ⟨rfl, ho, k1⟩, y, h1, k2⟩
    · exact h.elim
  | (true, i) :: r, s, h => by
    unfold gX at h
    split at h
    · rename_i o ho
      obtain ⟨v, objs', h1, h2, h3⟩ := h
      obtain ⟨l, k1, k2⟩ := gX_ok r _ h3
      exact ⟨(true, o) :: l, ⟨rfl, ho, k1⟩, v, objs', h1, h2, k2⟩
    · exact h.elim
section
variable {P : Program} {n0 : Nat} {Q : AX → AS → Prop} {E : AV → List Obj → Prop} {β : Type} {m : Option β} {Φ : β → Prop} {s : AS}
theorem M_regX {id : Nat} {l : List Oper} {r : List (Bool × Nat)} (e1 : P.follows .mixedOrders = true) (e2 : Nat.beq r.length l.length = true) (e3 : permB l.toArray r (Array.replicate l.toArray.size false) = true) (h : H m Φ (gX P l (Q .normal) r s)) :
    H (permM r m) Φ (awp P n0 (.region id l.toArray true) s Q E) := by
  intro y hy hp
  obtain ⟨lo, h1, h2⟩ := gX_ok r s (h y hy hp)
  exact awp_regionX e1 e2 e3 h1 h2
theorem M_gXc {K : AS → Prop} {i : Nat} {o : Oper} {ops : List Oper} {r : List (Bool × Nat)} (ho : ops[i]? = some o) (h : H m Φ (rg .c P ops [o] s (gX P ops K r) (fun _ _ => False))) : H m Φ (gX P ops K ((false, i) :: r) s) := by
  intro y h1 h2; unfold gX; rw [ho]; exact h y h1 h2
theorem M_gXe {K : AS → Prop} {i : Nat} {o : Oper} {ops : List Oper} {r : List (Bool × Nat)} (ho : ops[i]? = some o) (h : H m Φ (rgE P ops o s (gX P ops K r))) : H m Φ (gX P ops K ((true, i) :: r) s) := by
  intro y h1 h2; unfold gX; rw [ho]; exact h y h1 h2
theorem M_gX0 {K : AS → Prop} {ops : List Oper} (h : H m Φ (K s)) : H m Φ (gX P ops K [] s) := h
end
section
variable {P : Program} {β α : Type} {m : α → Option β} {Φ : β → Prop} {ops : List Oper} {K : AS → Prop} {n d g : Nat} {o o1 : List (Nat × AV)} {objs objs1 objs' oin : List Obj} {ty : TypeId} {pos : String} {af : Array Edge} {v : AV}
  {cal : Operand} {args : Array Operand} {at' : Array TypeId} {first cap argsC : List AV} {e : Option α} {X : α → AV} {O : α → List Obj} {enc : α → AV} {ob : α → List Obj} {ks : List Nat} {op : Op}
theorem X_eff {m : Option β} (hop : Eff P op n (okeep (Oper.looksAt ops.toArray ⟨some d, op, ty, pos, af, none⟩) o) objs v objs') (hk : Keeps objs objs') (h : H m Φ (K (st n (oc d v o) objs'))) : H m Φ (rgE P ops ⟨some d, op, ty, pos, af, none⟩ (st n o objs) K) := by
  intro y hy hq
  refine ⟨v, objs', ⟨rfl, ?_⟩, hk, ?_⟩
  · rw [keep_ov]
    exact hop.run _ _ _ rfl rfl
  · have := h y hy hq
    rw [show (AS.put (st n o objs) (some d) v) = st n (oc d v o) objs from rfl]
    exact this
theorem X_call (ho1 : okeep (Oper.looksAt ops.toArray ⟨some d, .call ⟨.value cal, args, at'⟩, ty, pos, af, none⟩) o = o1) (hc : evo n o1 cal = .fn g first cap) (hen : enters P g = true) (hf : ∀ r, e = some r → Fun P g argsC (X r) (O r)) (ha : AV.idsLtL 0 argsC = true)
    (hle : AV.leL (AV.stripL (first ++ args.toList.map (evo n o1) ++ cap)) argsC)
    (hp : AV.pubL objs (first ++ args.toList.map (evo n o1) ++ cap) = objs1)
    (hx : ∀ r, (X r).shift objs1.length = enc r)
    (ho : ∀ r, objs1 ++ (O r).map (Obj.shift objs1.length) = ob r) (hkp : ∀ r, Keeps objs (ob r))
    (h : ∀ r, H (m r) Φ (K (st n (oc d (enc r) o) (ob r)))) : H (callM enc ob e m) Φ (rgE P ops ⟨some d, .call ⟨.value cal, args, at'⟩, ty, pos, af, none⟩ (st n o objs) K) := by
  intro y hy hq
  unfold callM at hy
  cases he : e with
  | none => rw [he] at hy; cases hy
  | some r =>
    rw [he] at hy
    subst hp; subst ho1
    exact X_eff (v := enc r) (objs' := ob r) (call_op hc hen hf ha hle hx ho he) (hkp r) (h r) y hy hq
end
/-! ### Branches, where the code branches -/
section
variable {P : Program} {n0 : Nat} {Q : AX → AS → Prop} {E : AV → List Obj → Prop} {β : Type} {m1 m2 : Option β} {Φ : β → Prop} {s : AS} {b : Bool}
theorem H_iteC {c : Operand} {t e : Code} (h1 : b = true → H m1 Φ (awp P n0 (.cond c t e) s Q E)) (h2 : b = false → H m2 Φ (awp P n0 (.cond c t e) s Q E)) : H (iteM b m1 m2) Φ (awp P n0 (.cond c t e) s Q E) := H_iteM h1 h2
theorem H_iteG {md : Mo} {ops rest : List Oper} {K : AS → Prop} {d : Option Nat} {op : Op} {ty : TypeId} {pos : String} {af : Array Edge} {jw : Nat × Bool} (h1 : b = true → H m1 Φ (rg md P ops (⟨d, op, ty, pos, af, some jw⟩ :: rest) s K E)) (h2 : b = false → H m2 Φ (rg md P ops (⟨d, op, ty, pos, af, some jw⟩ :: rest) s K E)) : H (iteM b m1 m2) Φ (rg md P ops (⟨d, op, ty, pos, af, some jw⟩ :: rest) s K E) := H_iteM h1 h2
end
/-! ### A row without elements, of one's own -/
def bs0M {β : Type} (m : Option β) : Option β := m
section
variable {P : Program} {β : Type} {m : Option β} {Φ : β → Prop} {ops rest : List Oper} {K : AS → Prop} {E : AV → List Obj → Prop} {n d k : Nat} {o : List (Nat × AV)} {objs objs' : List Obj} {ty t e : TypeId} {pos : String} {af : Array Edge}
theorem E_bs0 {i j : TI} (ht : ti P t = some i) (hd : i.desc = .slice e) (hj : ti P e = some j) (h0 : 0 < j.size) (hk : objs.length = k) (ho : objs ++ [.tok 0 j.size e true] = objs') : Eff P (.buildSlice t 0 #[]) n o objs (.sl [] (.own k)) objs' := by
  subst hk; subst ho
  refine ⟨?_⟩; intro p N E hp hN; unfold aop; rw [hp]; dsimp only
  exact Or.inr ⟨rfl, rfl, i, e, j, ht, hd, hj, h0, hN⟩
theorem M_bs0 {i j : TI} (ht : ti P t = some i) (hd : i.desc = .slice e) (hj : ti P e = some j) (h0 : 0 < j.size) (hk : objs.length = k) (ho : objs ++ [.tok 0 j.size e true] = objs') (h : H m Φ (rg .p P ops rest (st n (oc d (.sl [] (.own k)) o) objs') K E)) : H (bs0M m) Φ (rg .p P ops (⟨some d, .buildSlice t 0 #[], ty, pos, af, none⟩ :: rest) (st n o objs) K E) :=
  S_e (E_bs0 ht hd hj h0 hk ho) h
end
end Go.Proofs.YtcpjmkbcefmldaaGreatDoor.AM

/- Rows handed over whole: taken as one's own at the start, given up ahead of a call. -/
namespace Go.Proofs.YtcpjmkbcefmldaaGreatDoor.AM
open Go

end Go.Proofs.YtcpjmkbcefmldaaGreatDoor.AM

/- A row of one's own, given up ahead of a call that takes it whole. -/
namespace Go.Proofs.YtcpjmkbcefmldaaGreatDoor.AM
open Go

theorem WeakS.lin {n0 : Nat} {tmps : List AV} {objs : List Obj} {next : AS → Prop} (i : Nat) {rows : List (List D)} {n sz e : Nat} (hi : tmps[i]? = some (.sl rows (.own objs.length))) (hn : rows.length = n) (hs : ∀ r ∈ rows, r.length = sz)
    (hn0 : n0 ≤ objs.length) (h1 : AV.idsLtL objs.length (tmps.set i .any) = true) (h2 : belowObjs objs.length objs = true) (hnext : ∀ v, next ⟨tmps.set i (.v v), objs ++ [.lin v sz e rows]⟩) :
    WeakS n0 ⟨tmps, objs ++ [.tok n sz e true]⟩ next := by
  intro G0 w0 G a w hl0 hf
  have hm := hf.sat.mem
  have hlen : G.bl.length = objs.length + 1 := by rw [hm.len]; simp
  have hst := hf.step.trunc (n := objs.length) (by omega)
  have hm' := hm.trunc h2
  have htl : (G.bl.take objs.length).length = objs.length := by simp; omega
  have htm : ConcL ⟨G.bl.take objs.length, G.imm⟩ w (tmps.set i .any) a.tmps.toList := by
    have := (hf.sat.tmps.set i (x := .any) (v := a.tmps.toList[i]?.getD undef) (.any _))
    have hself : a.tmps.toList.set i (a.tmps.toList[i]?.getD undef) = a.tmps.toList := by
      cases hq : a.tmps.toList[i]? with
      | none => rw [List.set_eq_of_length_le]; exact List.getElem?_eq_none_iff.1 hq
      | some v => exact list_set_self (by simpa using hq)
    rw [hself] at this
    exact ⟨this.1, fun j x v hx hv => (this.2 j x v hx hv).trunc (belowL_get h1 j x hx)⟩
  have hil : i < a.tmps.toList.length := by
    rw [hf.sat.tmps.1]
    rcases Nat.lt_or_ge i tmps.length with hl | hl
    · exact hl
    · rw [List.getElem?_eq_none hl] at hi; cases hi
  have hv := hf.sat.tmps.2 i _ _ hi (List.getElem?_eq_getElem hil)
  obtain ⟨g, hg, hok⟩ := hm.obj (o := objs.length) (x := .tok n sz e true) (by simp)
  refine ⟨_, ⟨G.bl.take objs.length ++ [(match g with | .tok b _ _ _ _ => GB.gone b | _ => GB.full 0)], G.imm⟩, ?_, hnext a.tmps.toList[i]⟩
  cases hv with
  | sl _ _ _ hd ht =>
    have fin : ∀ (g' : GB), (∀ b, g'.blk = some b → w0.heap.size ≤ b ∨ ∃ (o : Nat) (g : GB), G0.bl[o]? = some g ∧ g.blk = some b) →
        (∀ b, g'.blk = some b → b < w.heap.size ∧ ∀ (o : Nat) (g'' : GB), (G.bl.take objs.length)[o]? = some g'' → g''.blk ≠ some b) →
        ObjOk ⟨G.bl.take objs.length ++ [g'], G.imm⟩ w g' (.lin a.tmps.toList[i] sz e rows) → a.tmps.toList[i].oneCell' = true →
        From G0 w0 ⟨G.bl.take objs.length ++ [g'], G.imm⟩ ⟨tmps.set i (.v a.tmps.toList[i]), objs ++ [.lin a.tmps.toList[i] sz e rows]⟩ a w := by
      intro g' hb1 hb2 hob hcv
      have hext : Ext ⟨G.bl.take objs.length, G.imm⟩ w ⟨G.bl.take objs.length ++ [g'], G.imm⟩ w := ext_push ⟨G.bl.take objs.length, G.imm⟩ w g'
      refine ⟨⟨hst.ext.trans hext, hst.heap, hst.size, hst.os, hst.tape, hst.output, hst.imm2, ?_⟩, Mem.push (G := ⟨G.bl.take objs.length, G.imm⟩) hm' hob hb2, ?_, hf.sat.defers⟩
      · intro o g'' b hg'' hbb
        rcases Nat.lt_or_ge o objs.length with hl | hl
        · rw [List.getElem?_append_left (by omega)] at hg''
          exact hst.blk o g'' b hg'' hbb
        · rw [List.getElem?_append_right (by omega)] at hg''
          cases hz : o - (G.bl.take objs.length).length with
          | zero => rw [hz] at hg''; simp at hg''; subst hg''; exact hb1 b hbb
          | succ m => rw [hz] at hg''; simp at hg''
      · have hmono := htm.mono hext
        have hset := hmono.set i (x := .v a.tmps.toList[i]) (v := a.tmps.toList[i]) (.v _ hcv)
        have hself : a.tmps.toList.set i a.tmps.toList[i] = a.tmps.toList := list_set_self (List.getElem?_eq_getElem hil)
        rw [hself] at hset
        simpa using hset
    rcases hok with ⟨rfl, hex⟩ | ⟨b, cap, cur, rfl, hh, hc1, hc2, hc3, hc4, _⟩
    · have hn' : n = 0 := hex rfl
      subst hn'
      have hr : rows = [] := List.eq_nil_of_length_eq_zero hn
      subst hr
      have hv2 : a.tmps.toList[i] = .slice none 0 0 := by
        rcases ht with ⟨l, k1, _, k3⟩ | ⟨b', l, c, sz', ex, k1, _⟩
        · rw [hg] at k1; cases k1
          obtain ⟨a', e1, e2⟩ := k3 rfl
          rw [e1, e2 rfl]; rfl
        · rw [hg] at k1; cases k1
      exact fin _ (by intro b hb; cases hb) (by intro b hb; cases hb) (.inl ⟨rfl, hv2, rfl⟩) (by rw [hv2]; rfl)
    · have hv2 : a.tmps.toList[i] = .slice (some ⟨b, 0, none⟩) n cap := by
        rcases ht with ⟨l, k1, _⟩ | ⟨b', l, c, sz', ex, k1, k2, k3⟩
        · rw [hg] at k1; cases k1
        · rw [hg] at k1; cases k1; exact k3 hn
      obtain ⟨a', c', he, hc, hmx, hrow⟩ := hd
      refine fin (.gone b) ?_ ?_ ?_ (by rw [hv2]; rfl)
      · intro b' hb'
        simp [GB.blk] at hb'; subst hb'
        exact hf.step.blk _ _ _ hg rfl
      · intro b' hb'
        simp [GB.blk] at hb'; subst hb'
        refine ⟨hm.lt _ _ _ hg rfl, fun o g'' hg'' hbb => ?_⟩
        obtain ⟨hol, hg3⟩ := take_get' hg''
        have := hm.inj _ _ _ _ _ hg3 hg hbb rfl
        omega
      · refine .inr ⟨b, cap, cur, rfl, by rw [hv2, hn], hh, hc1, by omega, hc3, hc4 rfl, ?_⟩
        rcases hrow with rfl | ⟨b2, st, s2, ha, hr1, hr2⟩
        · exact ⟨fun i r h => by simp at h, fun i j r d h => by simp at h⟩
        · rw [hv2] at he; cases he; cases ha
          refine ⟨fun i r h => hs r (List.mem_of_getElem? h), fun p q r d k1 k2 => ?_⟩
          have e1 : s2 = sz := (hr1 p r k1).symm.trans (hs r (List.mem_of_getElem? k1))
          subst e1
          obtain ⟨x, hx, _, hdc⟩ := hr2 p q r d k1 k2
          exact ⟨x, hx, rfl, hdc⟩

end Go.Proofs.YtcpjmkbcefmldaaGreatDoor.AM

/- Rows handed over whole, for the models. -/
namespace Go.Proofs.YtcpjmkbcefmldaaGreatDoor.AM
open Go

theorem WeakS.join {n0 : Nat} {s : AS} {next : AS → Prop} (h : WeakS n0 s (fun s' => WeakS n0 s' next)) : WeakS n0 s next := by
  intro G0 w0 G a w hn hf
  obtain ⟨s', G', hf', h'⟩ := h G0 w0 G a w hn hf
  exact h' G0 w0 G' a w hn hf'
def linM {β : Type} (_d : Nat) (m : Option β) : Option β := m
section
variable {P : Program} {n0 n d k m' sz e : Nat} {Q : AX → AS → Prop} {β α : Type} {m : Option β} {Φ : β → Prop} {o : List (Nat × AV)} {objs objs' pre : List Obj} {next : AS → Prop} {c : α → List D} {l : List α}
theorem R_lin (hd : d < n) (hk : pre.length = k) (ho : objs = pre ++ [.tok m' sz e true]) (h : og o d = .sl (l.map c) (.own k)) (hm : m' = l.length) (hz : ∀ r, (c r).length = sz) (hn : n0 ≤ pre.length) (h2 : belowObjs pre.length pre = true)
    (hr : ∀ v, H m Φ (seqQ n0 next Q .normal (st n (oc d (.v v) (forget k d o)) (pre ++ [.lin v sz e (l.map c)])))) : H (linM d m) Φ (seqQ n0 next Q .normal (st n o objs)) := by
  intro y hy hp
  subst hk; subst ho; subst hm
  have hg : og (forget pre.length d o) d = .sl (l.map c) (.own pre.length) := by rw [og_forget, if_pos rfl]; exact h
  refine WeakS.pre (W_forget (k := pre.length) (d := d)) (WeakS.join ?_)
  exact WeakS.lin (n0 := n0) (tmps := ov n (forget pre.length d o)) (objs := pre) d (rows := l.map c) (n := l.length) (sz := sz) (e := e) (by rw [ov_get n _ d hd, hg]) (List.length_map ..)
    (fun r hr => by obtain ⟨p, _, rfl⟩ := List.mem_map.1 hr; exact hz p) hn (ids_forget n o) h2 (fun v => hr v y hy hp)
end

end Go.Proofs.YtcpjmkbcefmldaaGreatDoor.AM

/- Keys of several cells, for the models. -/
namespace Go.Proofs.YtcpjmkbcefmldaaGreatDoor.AM
open Go

section
variable {κ : Type} {c : κ → List D} {n : Nat} (hs : ∀ a, ∃ l : List ByteArray, c a = l.map (fun s => D.v (.string s)) ∧ l.length = n)
include hs
end

end Go.Proofs.YtcpjmkbcefmldaaGreatDoor.AM

/- Copying into a variable's array, for the models. -/
namespace Go.Proofs.YtcpjmkbcefmldaaGreatDoor.AM
open Go

theorem seg_step : ∀ (c : List AV) (off : Nat) (u : AV) (us : List AV), off + (us.length + 1) ≤ c.length → (c.set off u).take (off + 1) ++ us ++ (c.set off u).drop (off + 1 + us.length) = c.take off ++ (u :: us) ++ c.drop (off + (us.length + 1))
  | [], off, u, us, h => by simp at h
  | a :: c, 0, u, us, h => by simp [Nat.add_comm]
  | a :: c, off + 1, u, us, h => by
    have ih := seg_step c off u us (by simp at h; omega)
    simp only [List.set_cons_succ, List.take_succ_cons, List.cons_append, Nat.add_right_comm off 1, List.drop_succ_cons] at ih ⊢
    rw [← ih]
    simp [Nat.add_right_comm]
theorem setFrom_eq : ∀ (us c : List AV) (off : Nat), off + us.length ≤ c.length → setFrom c off us = c.take off ++ us ++ c.drop (off + us.length)
  | [], c, off, _ => by simp [setFrom]
  | u :: us, c, off, h => by
    simp only [setFrom]
    rw [setFrom_eq us (c.set off u) (off + 1) (by simp at h ⊢; omega)]
    have := seg_step c off u us (by simpa using h)
    rw [this]
    simp
section
variable {P : Program} {n : Nat} {o : List (Nat × AV)} {objs objs' : List Obj} {x y : Operand} {t t2 e : TypeId} {i j : TI} {k : Nat} {tk : Tk} {α : Type} {c : α → List D} {l olds : List α}
theorem V_slA {m off : Nat} (ht : ti P t = some i) (hd : i.desc = .array m e) (hj : ti P e = some j) (hx : evo n o x = .ptr k off) (hm : Nat.ble m maxLen = true) : Val P (.slice t x none none none) n o objs (.bsl k off m) := by
  refine ⟨?_⟩; intro p N E hp hN; unfold aop; rw [hp]; dsimp only [Option.map]
  rw [eval_st, hx]; unfold sliceAV; rw [ht]; (try dsimp only); rw [hd]; (try dsimp only); rw [hj]; simp only [ioptAV]
  refine ⟨Int.le_refl _, by omega, by omega, Nat.le_of_ble_eq_true hm, ?_⟩
  have e1 : off + (0 : Int).toNat * j.size = off := by simp
  have e2 : ((m : Int) - 0).toNat = m := by simp
  rw [e1, e2]; exact hN
end

end Go.Proofs.YtcpjmkbcefmldaaGreatDoor.AM

/- Calls that only read what they are handed, rows of one's own among it; copies into a variable's array; keys that are arrays. -/
namespace Go.Proofs.YtcpjmkbcefmldaaGreatDoor.AM
open Go

/-! ### Calls that only read -/
section
variable {P : Program} {β α : Type} {m : α → Option β} {Φ : β → Prop} {ops rest : List Oper} {K : AS → Prop} {E : AV → List Obj → Prop} {n d g : Nat} {o : List (Nat × AV)} {objs : List Obj} {ty : TypeId} {pos : String} {af : Array Edge} {gd : Option (Nat × Bool)}
  {cal : Operand} {args : Array Operand} {at' : Array TypeId} {first cap args' : List AV} {e : Option α} {X : α → AV} {O : α → List Obj} {enc : α → AV} {ob : α → List Obj}
end

/-! ### A copy into a variable's array -/
section
variable {P : Program} {β α κ : Type} {m : κ → Option β} {Φ : β → Prop} {ops rest : List Oper} {K : AS → Prop} {E : AV → List Obj → Prop} {n d : Nat} {o : List (Nat × AV)} {objs : List Obj} {ty : TypeId} {pos : String} {af : Array Edge} {gd : Option (Nat × Bool)}
  {x y : Operand} {t t2 e : TypeId} {i j : TI} {k q : Nat} {tk : Tk} {c : α → List D} {cA : κ → List D} {arr : List α → κ} {olds l : List α} {enc : κ → AV} {ob : κ → List Obj}
end
end Go.Proofs.YtcpjmkbcefmldaaGreatDoor.AM

/- Rows handed over whole, at a function's start; stores into a row of one's own; slices.Insert as a model. -/
namespace Go.Proofs.YtcpjmkbcefmldaaGreatDoor.AM
open Go

def ownM {β : Type} (_d : Nat) (m : Option β) : Option β := m
def regW {β : Type} (_k : Nat) (m : Option β) : Option β := m
section
variable {P : Program} {n0 n d k : Nat} {Q : AX → AS → Prop} {E : AV → List Obj → Prop} {β α : Type} {m : Option β} {mz : List α → Option β} {Φ : β → Prop} {s : AS} {K : AS → Prop} {o : List (Nat × AV)} {objs pre : List Obj}
  {t ty : TypeId} {x y : Operand} {pos : String} {af : Array Edge} {c : α → List D} {l : List α} {v r : α} {p off sz e m' : Nat} {xs : List AV} {ds : List D} {j : TI} {enc : List α → AV} {ob : List α → List Obj}
theorem M_regW {id : Nat} {l rs : List Oper} {o : Oper} (h1 : l.take k = rs) (h2 : l.drop k = [o]) (h : H m Φ (rg .p P l rs s (fun s1 => ownSt P n0 o s1 (Q .normal)) E)) : H (regW k m) Φ (awp P n0 (.region id l.toArray false) s Q E) := by
  subst h1
  exact fun y hy hp => awp_regionW (by rw [← h2, List.take_append_drop]) (h y hy hp)
theorem R_ownst (hd : d < n) (hk : pre.length = k) (ho : objs = pre ++ [.tok m' sz e true]) (h : og o d = .sl (l.map c) (.own k)) (hm : m' = l.length) (hn : n0 ≤ pre.length) (h2 : belowObjs pre.length pre = true)
    (hx : evo n o x = .ep (l.map c) p off (.own k)) (hr : l[p]? = some r) (hz : ∀ a, (c a).length = sz) (hy : cellsAV (evo n o y) = some xs) (hds : AV.toDs xs = some ds) (hfit : off + ds.length ≤ sz) (ht : ti P t = some j) (hj : j.size = ds.length)
    (hv : (c r).take off ++ ds ++ (c r).drop (off + ds.length) = c v) (hen : enc (l.set p v) = .sl ((l.set p v).map c) (.own k)) (hob : ob (l.set p v) = pre ++ [.tok (l.set p v).length sz e true])
    (hc : ∀ z, H (mz z) Φ (K (st n (oc d (enc z) (forget k d o)) (ob z)))) :
    H (ownM d (letO enc ob (l.set p v) mz)) Φ (ownSt P n0 ⟨none, .store t x y, ty, pos, af, none⟩ (st n o objs) K) := by
  intro w hw hp
  subst hk; subst ho; subst hm
  have hov : ∀ i, (ov n o)[i]? = some (og o i) ∨ (ov n o)[i]? = none := fun i => by
    rcases Nat.lt_or_ge i n with hi | hi
    · exact .inl (ov_get n o i hi)
    · exact .inr (List.getElem?_eq_none (by rw [ov_length]; exact hi))
  refine ⟨rfl, rfl, t, x, y, rfl, pre, (ov n (forget pre.length d o)).set d .any, d, l.map c, c r, ds, sz, e, p, off, xs, j, ?_, hn, ⟨?_, ?_⟩, ids_forget n o, h2, ?_, ?_, ?_, hz r, ?_, hds, hfit, ht, hj, ?_⟩
  · show pre ++ _ = _
    rw [List.length_map]
  · show ((ov n (forget pre.length d o)).set d .any).length = (ov n o).length
    rw [List.length_set, ov_length, ov_length]
  · intro i z hi
    rw [List.getElem?_set] at hi
    by_cases hdi : d = i
    · subst hdi
      split at hi
      · split at hi
        · cases hi; exact .inl rfl
        · cases hi
      · rename_i hne; exact absurd rfl hne
    · rw [if_neg hdi] at hi
      rcases Nat.lt_or_ge i n with hl | hl
      · rw [ov_get n _ i hl, og_forget, if_neg (fun h => hdi h.symm)] at hi
        cases hq : (og o i).idsLt pre.length
        · rw [hq] at hi; cases hi; exact .inl rfl
        · rw [hq] at hi
          cases hi
          exact .inr (ov_get n o i hl)
      · rw [List.getElem?_eq_none (by rw [ov_length]; exact hl)] at hi; cases hi
  · exact (ov_get n o d hd).trans (by rw [h])
  · rw [eval_st]; exact hx
  · rw [List.getElem?_map, hr]; rfl
  · rw [eval_st]; exact hy
  · have h3 := hc (l.set p v) w hw hp
    rw [hv, ← List.map_set, List.set_set]
    rw [hen, hob] at h3
    have hlen : (l.set p v).length = l.length := List.length_set ..
    rw [hlen] at h3
    exact h3
end

theorem lst6 (a b c d e f x : Obj) : [a, b, c, d, e, f, x] = [a, b, c, d, e, f] ++ [x] := rfl
theorem lst7 (a b c d e f g x : Obj) : [a, b, c, d, e, f, g, x] = [a, b, c, d, e, f, g] ++ [x] := rfl
theorem lst8 (a b c d e f g h x : Obj) : [a, b, c, d, e, f, g, h, x] = [a, b, c, d, e, f, g, h] ++ [x] := rfl
section
variable {P : Program} {n : Nat} {o : List (Nat × AV)} {objs objs' : List Obj} {x y : Operand} {t : TypeId} {i : TI} {k : Nat} {cells xs : List AV}
theorem setFrom_whole (cells xs : List AV) (h : xs.length = cells.length) : setFrom cells 0 xs = xs := by
  rw [setFrom_eq _ _ _ (by omega), List.take_zero, List.nil_append, Nat.zero_add, h, List.drop_length, List.append_nil]
theorem E_storeW (hb : Nat.ble 9 i.size = true) (ht : ti P t = some i) (hx : evo n o x = .ptr k 0) (ho : objs[k]? = some (.box cells)) (hy : cellsAV (evo n o y) = some xs) (hl : Nat.beq xs.length i.size = true) (hl2 : Nat.beq xs.length cells.length = true) (ho' : objs.set k (.box xs) = objs') :
    Eff P (.store t x y) n o objs .any objs' := by
  have e1 := Nat.eq_of_beq_eq_true hl
  have e2 := Nat.eq_of_beq_eq_true hl2
  refine ⟨?_⟩; intro p N E hp hN; unfold aop; rw [hp]; dsimp only; rw [eval_st, eval_st, hx]; unfold storeAV; rw [ht, hy]; dsimp only; rw [ho]; dsimp only
  refine ⟨e1, by omega, ?_⟩
  rw [setFrom_whole _ _ e2, ho']; exact hN
theorem V_ldpW (hb : Nat.ble 9 i.size = true) (ht : ti P t = some i) (ha : i.isAgg = true) (hx : evo n o x = .ptr k 0) (ho : objs[k]? = some (.box cells)) (hl : Nat.beq cells.length i.size = true) : Val P (.load t x) n o objs (.agg cells) := by
  have e1 := Nat.eq_of_beq_eq_true hl
  refine ⟨?_⟩; intro p N E hp hN; unfold aop; rw [hp]; dsimp only; rw [eval_st, hx]; unfold loadAV; rw [ht]; dsimp only; rw [ho]; dsimp only
  refine ⟨by omega, ?_⟩
  rw [if_pos ha, List.drop_zero, ← e1, List.take_length]; exact hN
end
def slicesInsert {α : Type} (by_ : Nat) (i : Int) (x l : List α) : Option (List α) :=
  gdM (0 ≤ i ∧ i ≤ (l.length : Int) ∧ x.length = 1 ∧ (l.length + 1) * by_ ≤ 140737488355328) <| some (l.take i.toNat ++ x ++ l.drop i.toNat)
end Go.Proofs.YtcpjmkbcefmldaaGreatDoor.AM

/- What slices.Insert is walked with: copies between rows of several cells, two slices apart, and what the end of it leaves. -/
namespace Go.Proofs.YtcpjmkbcefmldaaGreatDoor.AM
open Go Go.Lib

theorem run_apart {P : Program} (w : World) (tS tR e : TypeId) (ht : P.underlying tS = some (.slice e)) (size : Nat) (hz : ∀ w, (Go.sizeOf e).run P w = .ok size w)
    (a b : Addr) (la ca lb cb : Nat) (hne : a.block ≠ b.block) (tA tB : TypeId) (kA kB : Nat) (hsa : w.shape? a.block = some (tA, kA)) (hkA : kA ≠ 0) (hsb : w.shape? b.block = some (tB, kB)) (hkB : kB ≠ 0)
    (hfb : ∀ off s, w.frozen? ⟨b.block, off, s⟩ = false) :
    (Extern.SlicesOverlaps.overlaps #[tS, tS] #[tR] #[.slice (some a) la ca, .slice (some b) lb cb]).run P w = .ok (.bool false) w := by
  have hnb : (a.block != b.block) = true := by simpa using hne
  have hnb' : (a.block == b.block) = false := by simpa using hne
  change Sem.run P (α := Value) (do
    let some t := (#[tS, tS] : Array TypeId)[0]? | stuck "slices.overlaps: no parameter types"
    let .slice elem ← underlying t | stuck "slices.overlaps: slice type expected"
    let size ← sizeOf elem
    match (some a : Option Addr), (some b : Option Addr) with
    | some a, some b =>
      if la = 0 ∨ lb = 0 ∨ size = 0 then pure (Value.bool false)
      else if a.block != b.block && (← frozen a) && (← frozen b) then unsupported .addressObserved
      else do
        if a.block != b.block then do
          noView a; noView b
          if ← mayBeOne a b then return Value.bool ((← choose (.extern "sameAddr.stringBytes" 2)) == 1)
        pure (Value.bool (a.block == b.block && a.off < b.off + lb * size && b.off < a.off + la * size))
    | _, _ => pure (Value.bool false)) w = _
  have hb0 : w.frozen? b = false := hfb b.off b.spot
  by_cases h0 : la = 0 ∨ lb = 0 ∨ size = 0
  · simp [run_underlying ht, hz, h0]
  · cases kB with
    | zero => exact absurd rfl hkB
    | succ kB =>
      cases kA with
      | zero => exact absurd rfl hkA
      | succ kA =>
        cases hfa : w.frozen? a <;> cases hfe : w.frozen? { block := a.block, off := kA + 1 } <;>
          simp [run_underlying ht, hz, h0, hnb, hnb', frozen, noView, viewAt, mayBeOne, stringish, shape, Sem.run, hsa, hsb, hfa, hfe, hb0, hfb]

theorem run_copyK {P : Program} (w : World) (dT sT ty e : TypeId) (i : TypeInfo) (ht : P.underlying dT = some (.slice e)) (hi : P.info? e = some i) (b st dn dc m : Nat) (a : Addr) (sc : Nat) (cs : List Value) (cur : Array Value) (e' : TypeId)
    (hl : cs.length = Nat.min m dn * i.size) (hs : ∀ j v, cs[j]? = some v → w.cell? (a.add j) = some v) (hg : w.heap[b]? = some (.cells cur e' (0, 0))) (hf : st + cs.length ≤ cur.size) (h1 : ∀ v ∈ cs, v.oneCell' = true) :
    (Builtin.copy_ #[dT, sT] ty #[.slice (some ⟨b, st, none⟩) dn dc, .slice (some a) m sc]).run P w = .ok (goInt (Nat.min m dn)) (w.setRow b (cur.toList.take st ++ cs ++ cur.toList.drop (st + cs.length)).toArray) := by
  have hfc := run_firstCells_some (P := P) w i.size (Nat.min m dn) a m sc cs hl hs
  have hst := run_storeCells_at P b st e' cs 0 cur w hg (by simpa using hf) h1
  simp only [Nat.add_zero] at hst
  simp [Builtin.copy_, run_underlying ht, Builtin.lenOf, sizeOf, typeInfo, hi, hfc, hst]
theorem Flat.take {w : World} {imm : Nat → Nat → Prop} {sz : Nat} {rows : List (List D)} {l : List Value} (hs : ∀ r ∈ rows, r.length = sz) (h : Flat w imm sz rows l) (i : Nat) (hi : i ≤ rows.length) : Flat w imm sz (rows.take i) (l.take (i * sz)) := by
  have hm : i * sz ≤ rows.length * sz := Nat.mul_le_mul_right _ hi
  refine ⟨by rw [List.length_take, List.length_take, h.1, Nat.min_eq_left hm, Nat.min_eq_left hi], fun q u hu => ?_, fun p q r d hr hd => ?_⟩
  · rw [List.getElem?_take] at hu
    split at hu
    · exact h.2.1 q u hu
    · cases hu
  · rw [List.getElem?_take] at hr
    split at hr
    · rename_i hp
      obtain ⟨u, hu, hc⟩ := h.2.2 p q r d hr hd
      have hq := (row_len hs hr hd).2
      have := idx_lt hp hq
      exact ⟨u, by rw [List.getElem?_take, if_pos this]; exact hu, hc⟩
    · cases hr
theorem Flat.drop {w : World} {imm : Nat → Nat → Prop} {sz : Nat} {rows : List (List D)} {l : List Value} (h : Flat w imm sz rows l) (i : Nat) : Flat w imm sz (rows.drop i) (l.drop (i * sz)) := by
  refine ⟨by rw [List.length_drop, List.length_drop, h.1, Nat.sub_mul], fun q u hu => ?_, fun p q r d hr hd => ?_⟩
  · rw [List.getElem?_drop] at hu; exact h.2.1 _ u hu
  · rw [List.getElem?_drop] at hr
    obtain ⟨u, hu, hc⟩ := h.2.2 _ q r d hr hd
    exact ⟨u, by rw [List.getElem?_drop, ← hu, Nat.add_mul, Nat.add_assoc], hc⟩

theorem lin_done {G : Ghost} {w w' : World} {v : Value} {sz e : Nat} {rows rows' : List (List D)} {news : List Value} (hm : Mem G [.lin v sz e rows] w) {B cap' : Nat} {arr : Array Value}
    (hB : w.heap.size ≤ B ∨ G.bl[0]? = some (.gone B)) (hh : w'.heap[B]? = some (.cells arr e (0, 0))) (has : arr.size = cap' * sz) (hn : rows'.length ≤ cap') (hcm : cap' ≤ maxLen)
    (hold : ∀ k, k < w.heap.size → k ≠ B → w'.heap[k]? = w.heap[k]?) (hsize : w.heap.size ≤ w'.heap.size) (hos : w'.os = w.os) (htape : w'.tape = w.tape) (hout : w'.output = w.output ∧ w.drawn ≤ w'.drawn)
    (hl : ∀ r ∈ rows', r.length = sz) (hf : Flat w G.imm sz rows' news) (hnews : arr.toList.take (rows'.length * sz) = news) :
    ∃ G', Mem G' [.dead, .tok rows'.length sz e true] w' ∧ Step G w G' w' ∧ Conc G' w' (.sl rows' (.own 1)) (.slice (some ⟨B, 0, none⟩) rows'.length cap') := by
  obtain ⟨g, hg, hok⟩ := hm.obj (o := 0) (x := .lin v sz e rows) rfl
  have hlen : G.bl.length = 1 := hm.len
  have hone : ∀ (o : Nat) (g1 : GB), G.bl[o]? = some g1 → o = 0 ∧ g1 = g := by
    intro o g1 h
    have := (List.getElem?_eq_some_iff.1 h).1
    have h0 : o = 0 := by omega
    subst h0
    rw [hg] at h; cases h; exact ⟨rfl, rfl⟩
  have hBl : B < w'.heap.size := (Array.getElem?_eq_some_iff.1 hh).1
  have him : ∀ off, ¬ G.imm B off := by
    intro off hi
    rcases hB with h | h
    · have := hm.immLt.1 _ _ hi; omega
    · rw [hg] at h; cases h
      rcases hok with ⟨_, _, h⟩ | ⟨b, cap, cur, h1, _, _, _, _, _, h7, _⟩
      · cases h
      · cases h1; exact h7 _ hi
  have hnt : ∀ b l c s x, g ≠ .tok b l c s x := by
    rintro b l c s x rfl
    rcases hok with ⟨_, _, h⟩ | ⟨_, _, _, h, _⟩ <;> cases h
  have hno : ∀ b, g ≠ .obj b := by
    rintro b rfl
    rcases hok with ⟨_, _, h⟩ | ⟨_, _, _, h, _⟩ <;> cases h
  have main : ∀ g0 : GB, g0.blk ≠ some B → (∀ b, g0.blk = some b → g.blk = some b) → (∀ l, g = .full l → g0 = .full l) → (∀ b l c s x, g0 ≠ .tok b l c s x) →
      ∃ G', Mem G' [.dead, .tok rows'.length sz e true] w' ∧ Step G w G' w' ∧ Conc G' w' (.sl rows' (.own 1)) (.slice (some ⟨B, 0, none⟩) rows'.length cap') := by
    intro g0 k1 k2 k3 k4
    have part : ∀ (o : Nat) (g1 : GB), ([g0, .tok B rows'.length cap' sz true] : List GB)[o]? = some g1 → (o = 0 ∧ g1 = g0) ∨ (o = 1 ∧ g1 = .tok B rows'.length cap' sz true) := by
      intro o g1 h
      match o, h with
      | 0, h => cases h; exact .inl ⟨rfl, rfl⟩
      | 1, h => cases h; exact .inr ⟨rfl, rfl⟩
      | o + 2, h => simp at h
    have hcell : ∀ b o, G.imm b o → w'.cell? ⟨b, o, none⟩ = w.cell? ⟨b, o, none⟩ := fun b o hi => cell_of_heap (hold b (hm.immLt.1 _ _ hi) (by rintro rfl; exact him _ hi)) o
    have hext : Ext G w ⟨[g0, .tok B rows'.length cap' sz true], G.imm⟩ w' := by
      refine ⟨fun t b o hi => ?_, fun t b o hi => ?_, fun o b h => ?_, fun o l h => ?_, fun o b l c s x h => ?_⟩
      · rcases im_cases hi with hi | ⟨_, l, c, s, _, h7, _⟩
        · exact hcell b o hi
        · exact absurd (hone _ _ h7).2.symm (hnt _ _ _ _ _)
      · rcases im_cases hi with hi | ⟨_, l, c, s, _, h7, _⟩
        · exact Ghost.imm_im _ t hi
        · exact absurd (hone _ _ h7).2.symm (hnt _ _ _ _ _)
      · exact absurd (hone _ _ h).2.symm (hno _)
      · obtain ⟨ho, hgl⟩ := hone _ _ h
        subst ho
        have hg0 := k3 l hgl.symm
        exact .inl (by rw [← hg0]; rfl)
      · exact absurd (hone _ _ h).2.symm (hnt _ _ _ _ _)
    refine ⟨⟨[g0, .tok B rows'.length cap' sz true], G.imm⟩, ⟨rfl, ?_, ?_, ?_, fun b off h => Nat.lt_of_lt_of_le (hm.immLt.1 _ _ h) hsize, hm.gl hext⟩, ⟨hext, ?_, hsize, hos, htape, hout, fun _ _ h => .inl h, ?_⟩, ?_⟩
    · intro o x g1 hx hg1
      rcases part o g1 hg1 with ⟨rfl, rfl⟩ | ⟨rfl, rfl⟩
      · cases hx; exact fun b l c s h => k4 _ _ _ _ _ h
      · cases hx; exact .inr ⟨B, cap', arr, rfl, hh, has, hn, hcm, fun _ => him, fun h => by cases h⟩
    · intro o o' g1 g2 b h1 h2 e1 e2
      rcases part o g1 h1 with ⟨rfl, rfl⟩ | ⟨rfl, rfl⟩ <;> rcases part o' g2 h2 with ⟨rfl, rfl⟩ | ⟨rfl, rfl⟩
      · rfl
      · cases e2; exact absurd e1 k1
      · cases e1; exact absurd e2 k1
      · rfl
    · intro o g1 b h1 e1
      rcases part o g1 h1 with ⟨rfl, rfl⟩ | ⟨rfl, rfl⟩
      · exact Nat.lt_of_lt_of_le (hm.lt 0 g b hg (k2 b e1)) hsize
      · cases e1; exact hBl
    · intro k hk hno'
      refine hold k hk ?_
      rintro rfl
      rcases hB with h | h
      · omega
      · exact hno' 0 _ h rfl
    · intro o g1 b h1 e1
      rcases part o g1 h1 with ⟨rfl, rfl⟩ | ⟨rfl, rfl⟩
      · exact .inr ⟨0, g, hg, k2 b e1⟩
      · cases e1
        rcases hB with h | h
        · exact .inl h
        · exact .inr ⟨0, _, h, rfl⟩
    · refine .sl _ _ _ ⟨_, cap', rfl, hn, hcm, .inr ⟨B, 0, sz, rfl, ?_⟩⟩ (.inr ⟨B, _, cap', sz, true, rfl, Nat.le_refl _, fun _ => rfl⟩)
      refine Flat.rowsAt hl (hf.mono hcell (fun _ _ h => h)) (fun q u hu => ?_) (fun q hq => .inr ⟨_, cap', sz, rfl, by rw [Nat.zero_add]; exact hq⟩)
      rw [cell_at hh, Nat.zero_add, ← Array.getElem?_toList]
      rw [← hnews, List.getElem?_take] at hu
      split at hu
      · exact hu
      · cases hu
  rcases hB with h | h
  · refine main g ?_ (fun _ h => h) (fun _ h => h) hnt
    intro h2
    have := hm.lt 0 g B hg h2
    omega
  · rw [hg] at h; cases h
    exact main (.full 0) (by intro h; cases h) (fun b h => by cases h) (fun l h => by cases h) (fun _ _ _ _ _ h => by cases h)
end Go.Proofs.YtcpjmkbcefmldaaGreatDoor.AM

/- Package variables that were laid and stay: an element by its place. -/
namespace Go.Proofs.YtcpjmkbcefmldaaGreatDoor.AM
open Go

section
variable {P : Program} {n : Nat} {o : List (Nat × AV)} {objs : List Obj} {t : TypeId} {y : Operand}
theorem V_ixg0 {α : Type} {c : α → List D} {l : List α} {i j : TI} {e : TypeId} {len g : Nat} {q : IntKind} {k : Int} {r : α} (ht : ti P t = some i) (hd : i.desc = .array len e) (hj : ti P e = some j) (hg : glRow g = some (l.map c)) (hl : l.length = len)
    (hy : evo n o y = .v (.int q k)) (h0 : 0 ≤ k) (hr : l[k.toNat]? = some r) (hz : ∀ x, (c x).length = j.size) :
    Val P (.indexAddr t (.global g) y) n o objs (.ep (l.map c) k.toNat 0 .none) := by
  have hlt := (List.getElem?_eq_some_iff.1 hr).1
  have hx : (st n o objs).eval (.global g) = .ep (l.map c) 0 0 .none := by
    show glAV g = _
    unfold glAV; rw [hg]
  refine ⟨?_⟩; intro p N E hp hN; unfold aop; rw [hp]; dsimp only; rw [hx, eval_st, hy]; unfold indexAddrAV; rw [ht]; dsimp only; rw [hd]; dsimp only; rw [hj]; dsimp only
  refine ⟨h0, by omega, .inr ⟨rfl, by rw [List.length_map]; omega, ?_, ?_⟩⟩
  · cases l with
    | nil => simp at hlt
    | cons a l => exact hz a
  · rw [Nat.zero_add]; exact hN
end
end Go.Proofs.YtcpjmkbcefmldaaGreatDoor.AM
