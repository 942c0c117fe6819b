/- The words by which a function is run: one set of rules; calls. -/
import Derived.Test.YtickejlolpoboaaAm25
set_option linter.all false
namespace Go.Proofs.Ytickejlolpoboaa.AM
open Go

/-- The slot that an operation writes, by its place. -/
def dstAt : List Oper → Nat → Option Nat
  | [], _ => none
  | o :: _, 0 => o.dst
  | _ :: l, n + 1 => dstAt l n
def gslot (d : Option Nat) (s : AS) (want : Bool) : Option Bool :=
  match d with
  | some d => (match (s.tmps.getD d .any).boolUn with | some (g, b) => some (g && (b == want)) | none => none)
  | none => none
theorem dstAt_eq : ∀ (ops : List Oper) (j : Nat), dstAt ops j = (ops[j]?).bind (·.dst)
  | [], _ => rfl
  | _ :: _, 0 => rfl
  | _ :: l, n + 1 => by simp [dstAt, dstAt_eq l n]
theorem gcond_eq (ops : List Oper) (s : AS) (j : Nat) (want : Bool) : gcond ops s j want = gslot (dstAt ops j) s want := by
  rw [dstAt_eq]
  unfold gcond gslot
  cases ops[j]? with
  | none => rfl
  | some o => simp only [Option.bind_some]; cases o.dst <;> rfl
@[congr] theorem gcond_cg (ops : List Oper) (s : AS) (j : Nat) (want : Bool) : gcond ops s j want = gcond ops s j want := rfl
@[congr] theorem dstAt_cg (ops : List Oper) (j : Nat) : dstAt ops j = dstAt ops j := rfl
attribute [go_sem] gcond_eq dstAt
attribute [go_sem] isSlD lookupAV mapUpdateAV w64 aops aopsQ isQ guardAV AV.boolUn totO lenO AV.split intO strO pickAV AV.un beq_true beq_false Bool.cond_false_right Bool.cond_true_left Bool.cond_false_left Bool.cond_true_right cond_true cond_false Bool.and_self Bool.or_self Bool.and_eq_true and_imp Option.some.injEq aop AV.ofValue List.set builtinAV lenAV loadAV storeAV buildAV buildSliceAV sliceAV ioptAV fieldAddrAV fieldAV fieldOf indexAddrAV indexAV partAV extractAV unAV convAV nilCheckAV cellsAV minmaxAV appendAV appRows placeOf fillAV setFrom chunks List.mem_singleton forall_eq List.not_mem_nil AV.toDs AV.toD TI.isAgg binAV sbin sint sstr sbool AV.ofD Tk.sub Tk.isOwn List.getD_cons_succ List.getD_cons_zero List.map List.getElem?_cons_succ List.getElem?_cons_zero List.getElem?_toArray List.take List.drop List.length_cons List.length_nil List.nil_append List.cons_append decide_eq_true_eq decide_eq_false_iff_not ne_eq Bool.not_eq_true Bool.not_eq_false true_and and_true Bool.true_eq_false Bool.false_eq_true not_true_eq_false not_false_eq_true false_implies true_implies forall_const implies_true decide_true decide_false if_true if_false Bool.not_true Bool.not_false Bool.not_not Option.map_some Option.map_none Option.bind_some allTi Option.isSome_some Bool.and_true Bool.true_and Int.toNat_natCast Nat.zero_add Nat.add_zero List.isEmpty_nil List.isEmpty_cons
attribute [go_sem] kQ blockQ loopQ_exit loopQ_ret AV.pubL AV.pub pubTok AV.shift Tk.shift AV.shiftL Obj.shift List.append_nil killL updL reduceCtorEq

section
theorem st_v (x : Value) : (AV.v x).strip.le (.v x) := AV.le_refl _
theorem st_any (x : AV) : AV.le x .any := AV.le_any _
theorem st_sl (rows : List (List D)) (t : Tk) : (AV.sl rows t).strip.le (.sl rows .none) := AV.le_refl _
theorem st_nil : (AV.v (.slice none 0 0)).strip.le (.sl [] .none) := AV.le_nil
theorem st_ptr (o off : Nat) : (AV.ptr o off).strip.le (.ptr o off) := AV.le_refl _
theorem st_fn (f : Nat) (a b : List AV) : (AV.fn f a b).strip.le (.fn f a b) := AV.le_refl _
theorem st_agg {cs ds : List AV} (h : AV.le0L (AV.stripL cs) ds) : (AV.agg cs).strip.le (.agg ds) := AV.le_agg h
theorem su_v (x : Value) : (AV.v x).strip.le0 (.v x) := AV.le0_refl _
theorem su_any (x : AV) : AV.le0 x .any := .inl rfl
theorem su_sl (rows : List (List D)) (t : Tk) : (AV.sl rows t).strip.le0 (.sl rows .none) := AV.le0_refl _
theorem su_nil : (AV.v (.slice none 0 0)).strip.le0 (.sl [] .none) := AV.le0_nil
theorem sm_nil : AV.le0L (AV.stripL []) [] := trivial
theorem sm_cons {x y : AV} {xs ys : List AV} (h : x.strip.le0 y) (t : AV.le0L (AV.stripL xs) ys) : AV.le0L (AV.stripL (x :: xs)) (y :: ys) := ⟨h, t⟩
theorem sl_nil : AV.leL (AV.stripL []) [] := trivial
theorem sl_cons {x y : AV} {xs ys : List AV} (h : x.strip.le y) (t : AV.leL (AV.stripL xs) ys) : AV.leL (AV.stripL (x :: xs)) (y :: ys) := ⟨h, t⟩
end

/-- What a loop lays down: a slot's value may be less than what is known. -/
theorem lq_sl {rows rows' : List (List D)} {t : Tk} (ht : t.isOwn = false) (h : rows = rows') : (AV.sl rows t).le (.sl rows' .none) := by subst h; exact AV.le_sln _ t ht
theorem lq_nil {rows' : List (List D)} (h : rows' = []) : (AV.v (.slice none 0 0)).le (.sl rows' .none) := by subst h; exact AV.le_nil
theorem lq_eq {x y : AV} (h : x = y) : x.le y := AV.le_of_eq h

theorem awp_loopW {P : Program} {n0 : Nat} {Q : AX → AS → Prop} {E : AV → List Obj → Prop} {X : Type} {tmps : List AV} {objs : List Obj} {s1 : AS} (ws : List Nat) (vals : X → List (Nat × AV)) (ob : X → List Obj) (inv : X → Prop) (μ : X → Nat) (x0 : X) {c : Code} (h0 : inv x0)
    (hw1 : Weak n0 ⟨tmps, objs⟩ s1) (hw : Weak n0 s1 ⟨updL (killL tmps ws) (vals x0), ob x0⟩)
    (hr : ∀ x, inv x → awp P n0 c ⟨updL (killL tmps ws) (vals x), ob x⟩ (loopQ n0 (IX (fun x => ⟨updL (killL tmps ws) (vals x), ob x⟩) inv μ) (μ x) Q) E) : awp P n0 (.loop c) ⟨tmps, objs⟩ Q E :=
  awp_loopU ws vals ob inv μ x0 h0 (hw1.trans hw) hr

theorem leL_refl : ∀ xs : List AV, AV.leL xs xs
  | [] => trivial
  | x :: xs => ⟨AV.le_refl x, leL_refl xs⟩

theorem aops_id {P : Program} {ops l : List Oper} {s : AS} {K : AS → Prop} {E : AV → List Obj → Prop} (h : aops P ops l s K E) : aops P ops l s K E := h
theorem aopsQ_id {P : Program} {ops l : List Oper} {s : AS} {K : AS → Prop} (h : aopsQ P ops l s K) : aopsQ P ops l s K := h
section
variable {P : Program} {n0 i : Nat} {K : AS → Prop} {Q : AX → AS → Prop} {I : Nat → AS → Prop} {n : Nat} {s : AS}
theorem kQ_n (h : K s) : kQ K Q .normal s := h
theorem kQ_e (h : Q (.exit i) s) : kQ K Q (.exit i) s := h
theorem kQ_r (h : Q .ret s) : kQ K Q .ret s := h
theorem bQ_n (h : Q .normal s) : blockQ i Q .normal s := h
theorem bQ_r (h : Q .ret s) : blockQ i Q .ret s := h
theorem bQ_e (h : Q .normal s) : blockQ i Q (.exit i) s := by show (if i = i then _ else _); rw [if_pos rfl]; exact h
theorem bQ_x {j : Nat} (hj : (j == i) = false) (h : Q (.exit j) s) : blockQ i Q (.exit j) s := by show (if j = i then _ else _); rw [if_neg (by simpa using hj)]; exact h
theorem lQ_e (h : Q (.exit i) s) : loopQ n0 I n Q (.exit i) s := h
theorem lQ_r (h : Q .ret s) : loopQ n0 I n Q .ret s := h
end
theorem kQ_id {K : AS → Prop} {Q : AX → AS → Prop} {x : AX} {s : AS} (h : kQ K Q x s) : kQ K Q x s := h
theorem blockQ_id {i : Nat} {Q : AX → AS → Prop} {x : AX} {s : AS} (h : blockQ i Q x s) : blockQ i Q x s := h
/-- A call, its arguments first. -/
theorem call_at {P : Program} {f : Nat} {args args' : List AV} {x : AV} {objs o0 : List Obj} {K : AV → List Obj → Prop} {E : AV → List Obj → Prop} (hen : enters P f = true) (hle : AV.leL (AV.stripL args) args') (h : Fun P f args' x o0) (ha : AV.idsLtL 0 args' = true)
    (hk : K (x.shift (AV.pubL objs args).length) (AV.pubL objs args ++ o0.map (Obj.shift (AV.pubL objs args).length))) : callAV P f args objs K E :=
  call_fun hen h ha hle hk
end Go.Proofs.Ytickejlolpoboaa.AM
