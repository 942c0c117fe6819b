/- A part of the proof: X13, X14, X15, X16, X17. -/
import Derived.Test.YtnlbgjlbbdngaaaDoorX1
set_option linter.all false
/- Functions that are handed objects, for the models: contracts, calls, answers; ranges over maps; tails of drawn regions. -/
namespace Go.Proofs.YtnlbgjlbbdngaaaDoor.AM
open Go

/-- A function that is handed objects, answers x, and leaves the objects o0 behind. -/
def FunO (P : Program) (f : Nat) (args : List AV) (oin : List Obj) (x : AV) (o0 : List Obj) : Prop := ACall P f args oin (fun ae o => ae = .ret x ∧ o = o0)

theorem FunO.fun {P : Program} {f : Nat} {args : List AV} {x : AV} {o0 : List Obj} (h : FunO P f args [] x o0) : Fun P f args x o0 := h
theorem Fun.funO {P : Program} {f : Nat} {args : List AV} {x : AV} {o0 : List Obj} (h : Fun P f args x o0) : FunO P f args [] x o0 := h

theorem FunO.of_model {P : Program} {β : Type} {f : Nat} {fn : Func} {c : Code} {args : List AV} {oin : List Obj} {m : Option β} {X : β → AV} {O : β → List Obj} {r : β} (hf : P.funcs[f]? = some fn) (hb : fn.body = some c) (hl : args.length ≤ fn.ntmps) (hm : m = some r) {n0 : Nat} (hn0 : oin.length = n0)
    (h : H m (fun y => y = r) (awp P n0 c (st fn.ntmps (argsO 0 args) oin) (bodyQ P n0 fn.results.toList (RetIs X O r)) (fun _ _ => False))) : FunO P f args oin (X r) (O r) := by
  subst hn0
  have h2 := h r hm rfl
  refine ACall.mono (R := RetIs X O r) (ACall.of_awp hf hb ?_) (fun _ _ h => h)
  rw [args_ov args fn.ntmps hl]
  have he : (fun x objs' => RetIs X O r (.pan x) objs') = fun (_ : AV) (_ : List Obj) => False := by
    funext x o'
    simp [RetIs]
  rw [he]; exact h2

/-! ### Answers -/
section
variable {P : Program} {β : Type} {r v : β} {n0 n : Nat} {o : List (Nat × AV)} {objs objs1 : List Obj} {rs : List ResultVar} {X : β → AV} {O : β → List Obj} {xs ys : List AV}
theorem Weak.one {n0 : Nat} {xs ys : List AV} {objs objs' : List Obj} (hx : AV.leL xs ys) (ho : leOb objs objs') (hn : n0 ≤ objs'.length) (h1 : AV.idsLtL objs'.length ys = true) (h2 : belowObjs objs'.length objs' = true) :
    Weak n0 ⟨[oneOf xs], objs⟩ ⟨[oneOf ys], objs'⟩ := by
  match xs, ys, hx, h1 with
  | [], [], _, _ => exact (Weak.tup (n0 := n0) (xs := []) (ys := []) trivial).trans (Weak.gen (tmps := [.tup []]) (tmps' := [.tup []]) ⟨AV.le_refl _, trivial⟩ ho hn (by simp [AV.idsLtL, AV.idsLt]) h2)
  | [x], [y], hx, h1 => exact Weak.gen (tmps := [x]) (tmps' := [y]) hx ho hn h1 h2
  | x :: x1 :: xs, y :: y1 :: ys, hx, h1 => exact (Weak.tup hx).trans (Weak.gen (tmps := [.tup (y :: y1 :: ys)]) (tmps' := [.tup (y :: y1 :: ys)]) ⟨AV.le_refl _, trivial⟩ ho hn (by simpa [AV.idsLtL, AV.idsLt] using h1) h2)
  | [x], _ :: _ :: _, hx, _ => exact hx.2.elim
  | _ :: _ :: _, [y], hx, _ => exact hx.2.elim
theorem R_retK (hr : resL P (st n o objs) rs = some xs) (hX : oneOf ys = X v) (hx : AV.leL xs ys) (ho : leOb objs (O v)) (hn : Nat.ble n0 (O v).length = true) (h1 : AV.idsLtL (O v).length ys = true) (h2 : belowObjs (O v).length (O v) = true) :
    H (retM v) (fun y => y = r) (bodyQ P n0 rs (RetIs X O r) .ret (st n o objs)) := by
  refine H_ret ?_
  rintro rfl
  exact ⟨oneOf xs, by unfold resAV; rw [hr]; rfl, X v, O v, hX ▸ Weak.one hx ho (Nat.le_of_ble_eq_true hn) h1 h2, rfl, rfl⟩
/-- .. told apart from what is one's own -/
theorem Weak.strip1 {n0 : Nat} {xs : List AV} {objs : List Obj} : Weak n0 ⟨[oneOf xs], objs⟩ ⟨[oneOf (AV.stripL xs)], AV.pubL objs xs⟩ := by
  intro G0 w0 G a w hn hf
  obtain ⟨G', k1, k2, k3⟩ := stripL_step xs G objs hf.sat.mem
  have hv := hf.sat.tmps
  have hlen : a.tmps.toList.length = 1 := hv.1
  match hal : a.tmps.toList, hlen with
  | [u], _ =>
    rw [hal] at hv
    have h0 := hv.2 0 _ u rfl rfl
    refine ⟨G', hf.step.trans k1, k2, ?_, hf.sat.defers⟩
    rw [hal]
    refine ⟨rfl, fun i x v hx hv' => ?_⟩
    cases i with
    | succ i => simp at hx
    | zero =>
      simp at hx hv'
      subst hx; subst hv'
      match xs, h0, k3 with
      | [], h0, k3 => cases h0 with | tup _ vs hl hc => exact .tup [] vs hl (fun i c v h => by simp at h)
      | [x], h0, k3 => exact (k3 [u] ⟨rfl, fun i x v hx hv => by
          cases i with
          | zero => simp at hx hv; subst hx; subst hv; exact h0
          | succ i => simp at hx⟩).2 0 _ u rfl rfl
      | x :: x1 :: xs, h0, k3 =>
        cases h0 with
        | tup _ vs hl hc =>
          obtain ⟨q1, q2⟩ := k3 vs ⟨hl, hc⟩
          exact .tup _ vs q1 q2
theorem R_retS (hr : resL P (st n o objs) rs = some xs) (hp : AV.pubL objs xs = objs1) (hX : oneOf ys = X v) (hx : AV.leL (AV.stripL xs) ys) (ho : leOb objs1 (O v)) (hn : Nat.ble n0 (O v).length = true) (h1 : AV.idsLtL (O v).length ys = true) (h2 : belowObjs (O v).length (O v) = true) :
    H (retM v) (fun y => y = r) (bodyQ P n0 rs (RetIs X O r) .ret (st n o objs)) := by
  refine H_ret ?_
  rintro rfl
  subst hp
  exact ⟨oneOf xs, by unfold resAV; rw [hr]; rfl, X v, O v, hX ▸ Weak.strip1.trans (Weak.one hx ho (Nat.le_of_ble_eq_true hn) h1 h2), rfl, rfl⟩
/-- .. of a function that ends without a return -/
theorem R_retN (hr : rs = []) (hX : X v = .tup []) (ho : leOb objs (O v)) (hn : Nat.ble n0 (O v).length = true) (h2 : belowObjs (O v).length (O v) = true) :
    H (retM v) (fun y => y = r) (bodyQ P n0 rs (RetIs X O r) .normal (st n o objs)) := by
  refine H_ret ?_
  rintro rfl
  subst hr
  refine ⟨.tup [], rfl, X v, O v, ?_, rfl, rfl⟩
  rw [hX]
  exact Weak.one (xs := []) (ys := []) trivial ho (Nat.le_of_ble_eq_true hn) rfl h2
end

/-! ### Calls -/
def inOk (f : Nat → Nat) (objs : List Obj) : List Nat → List Obj → Prop
  | [], [] => True
  | k :: ks, x :: xs => objs[k]? = some (x.ren f) ∧ inOk f objs ks xs
  | _, _ => False
theorem inOk_get {f : Nat → Nat} {objs : List Obj} : ∀ {ks : List Nat} {oin : List Obj}, inOk f objs ks oin → ks.length = oin.length ∧ ∀ (i k : Nat) (x : Obj), ks[i]? = some k → oin[i]? = some x → objs[k]? = some (x.ren f)
  | [], [], _ => ⟨rfl, fun i k x h => by simp at h⟩
  | k0 :: ks, x0 :: xs, h => by
    obtain ⟨h1, h2⟩ := h
    obtain ⟨k1, k2⟩ := inOk_get h2
    refine ⟨by simp [k1], fun i k x hk hx => ?_⟩
    cases i with
    | zero => simp at hk hx; subst hk; subst hx; exact h1
    | succ i => exact k2 i k x (by simpa using hk) (by simpa using hx)
  | [], _ :: _, h => h.elim
  | _ :: _, [], h => h.elim
def outOk (f : Nat → Nat) : List Obj → List Obj → Prop
  | [], [] => True
  | x :: xs, y :: ys => x.ren f = y ∧ outOk f xs ys
  | _, _ => False
theorem outOk_eq {f : Nat → Nat} : ∀ {xs ys : List Obj}, outOk f xs ys → xs.map (Obj.ren f) = ys
  | [], [], _ => rfl
  | x :: xs, y :: ys, h => by rw [List.map_cons, h.1, outOk_eq h.2]
  | [], _ :: _, h => h.elim
  | _ :: _, [], h => h.elim
def nodupB : List Nat → Bool
  | [] => true
  | k :: ks => !ks.contains k && nodupB ks
theorem nodupB_ok : ∀ {ks : List Nat}, nodupB ks = true → ks.Nodup
  | [], _ => List.nodup_nil
  | k :: ks, h => by
    simp only [nodupB, Bool.and_eq_true, Bool.not_eq_true', List.contains_eq_mem, decide_eq_false_iff_not] at h
    exact List.nodup_cons.2 ⟨h.1, nodupB_ok h.2⟩
def allLt (n : Nat) : List Nat → Bool
  | [] => true
  | k :: ks => Nat.blt k n && allLt n ks
theorem allLt_ok {n : Nat} : ∀ {ks : List Nat}, allLt n ks = true → ∀ k ∈ ks, k < n
  | k0 :: ks, h, k, hk => by
    simp only [allLt, Bool.and_eq_true] at h
    rcases List.mem_cons.1 hk with rfl | hk
    · exact Nat.le_of_ble_eq_true h.1
    · exact allLt_ok h.2 k hk

theorem ACall.leOb {P : Program} {f : Nat} {args : List AV} {objs objs' : List Obj} {R : AEnd → List Obj → Prop} (hl : objs'.length = objs.length) (hle : AM.leOb objs objs') (h : ACall P f args objs' R) : ACall P f args objs R := by
  intro G w vs hm hc
  refine h G w vs ⟨by rw [hm.len, hl], fun o x g hx hg => ?_, hm.inj, hm.lt, hm.immLt⟩ hc
  have hol : o < objs.length := by rw [← hl]; exact (List.getElem?_eq_some_iff.1 hx).1
  exact leOb1_ok ((leOb_get hle).2 o _ x (List.getElem?_eq_getElem hol) hx) (hm.ok o _ g (List.getElem?_eq_getElem hol) hg)

/-- What of a list of objects was handed, and what is new in it. -/
def pickO (ks : List Nat) (n : Nat) (l : List Obj) : List Obj := ks.map (fun k => l.getD k .dead) ++ l.drop n
def callO {α β : Type} (_ks : List Nat) (_w : List Obj) (_enc : α → AV) (_ob : α → List Obj) (e : Option α) (m : α → Option β) : Option β := e.bind m

section
variable {P : Program} {β α : Type} {m : α → Option β} {Φ : β → Prop} {ops rest : List Oper} {K : AS → Prop} {E : AV → List Obj → Prop} {n d g : Nat} {o : List (Nat × AV)} {objs objs1 objs2 oin : List Obj} {ty : TypeId} {pos : String} {af : Array Edge} {gd : Option (Nat × Bool)}
  {cal : Operand} {args : Array Operand} {at' : Array TypeId} {first cap argsC : List AV} {e : Option α} {X : α → AV} {O : α → List Obj} {enc : α → AV} {ob : α → List Obj} {ks : List Nat}

theorem call_opO {o1 : List (Nat × AV)} (hc : evo n o1 cal = .fn g first cap) (hen : enters P g = true) (hf : ∀ r, e = some r → FunO P g argsC oin (X r) (O r))
    (hp : AV.pubL objs (first ++ args.toList.map (evo n o1) ++ cap) = objs1) (hw : leOb objs1 objs2) (hl : objs2.length = objs1.length)
    (hle : AV.leL (AV.stripL (first ++ args.toList.map (evo n o1) ++ cap)) (AV.renL (rn ks objs2.length) argsC)) (hn : nodupB ks = true) (hk : allLt objs2.length ks = true)
    (hin : inOk (rn ks objs2.length) objs2 ks oin) (ha : AV.idsLtL oin.length argsC = true) (hb : belowObjs oin.length oin = true)
    (hx : ∀ r, (X r).ren (rn ks objs2.length) = enc r) (hO : ∀ r, outOk (rn ks objs2.length) (O r) (pickO ks objs2.length (ob r))) (ho : ∀ r, mergeL ks objs2 (pickO ks objs2.length (ob r)) = ob r)
    {r : α} (hr : e = some r) : Eff P (.call ⟨.value cal, args, at'⟩) n o1 objs (enc r) (ob r) := by
  refine ⟨?_⟩
  intro p N E hp' hN
  unfold aop; rw [hp']; dsimp only
  have ee : (st n o1 objs).eval = evo n o1 := funext fun x => eval_st n o1 objs x
  rw [ee, hc]; dsimp only
  refine ⟨hen, ?_⟩
  refine ACall.strip ?_
  show ACall P g _ (AV.pubL objs _) _
  rw [hp]
  refine ACall.leOb hl hw (ACall.le hle ?_)
  obtain ⟨hlen, hget⟩ := inOk_get hin
  refine ((hf r hr).frameR ks objs2 (nodupB_ok hn) (allLt_ok hk) hlen hget ha hb).mono ?_
  rintro ae oo ⟨ae0, o0, ⟨rfl, rfl⟩, rfl, rfl⟩
  show N _
  rw [outOk_eq (hO r), ho r, hx r]; exact hN

theorem M_callO (hg : gev n o ops gd = some true) (hc : evo n o cal = .fn g first cap) (hen : enters P g = true) (hf : ∀ r, e = some r → FunO P g argsC oin (X r) (O r))
    (hp : AV.pubL objs (first ++ args.toList.map (evo n o) ++ cap) = objs1) (hw : leOb objs1 objs2) (hl : objs2.length = objs1.length)
    (hle : AV.leL (AV.stripL (first ++ args.toList.map (evo n o) ++ cap)) (AV.renL (rn ks objs2.length) argsC)) (hn : nodupB ks = true) (hk : allLt objs2.length ks = true)
    (hin : inOk (rn ks objs2.length) objs2 ks oin) (ha : AV.idsLtL oin.length argsC = true) (hb : belowObjs oin.length oin = true)
    (hx : ∀ r, (X r).ren (rn ks objs2.length) = enc r) (hO : ∀ r, outOk (rn ks objs2.length) (O r) (pickO ks objs2.length (ob r))) (ho : ∀ r, mergeL ks objs2 (pickO ks objs2.length (ob r)) = ob r)
    (h : ∀ r, H (m r) Φ (rg .p P ops rest (st n (oc d (enc r) o) (ob r)) K E)) : H (callO ks objs2 enc ob e m) Φ (rg .p P ops (⟨some d, .call ⟨.value cal, args, at'⟩, ty, pos, af, gd⟩ :: rest) (st n o objs) K E) := by
  intro y hy hq
  unfold callO at hy
  cases he : e with
  | none => rw [he] at hy; cases hy
  | some r =>
    rw [he] at hy
    have hop := call_opO (at' := at') hc hen hf hp hw hl hle hn hk hin ha hb hx hO ho he
    cases gd with
    | none => exact S_e (v := enc r) (objs' := ob r) hop (h r) y hy hq
    | some jw =>
      obtain ⟨j, w⟩ := jw
      exact S_on (s' := st n (oc d (enc r) o) (ob r)) (j := j) (want := w) rfl (gcond_st rfl hg) rfl (fun N E hN => hop.run _ N E rfl hN) (h r) y hy hq
theorem M_callO0 (hg : gev n o ops gd = some true) (hc : evo n o cal = .fn g first cap) (hen : enters P g = true) (hf : ∀ r, e = some r → FunO P g argsC oin (X r) (O r))
    (hp : AV.pubL objs (first ++ args.toList.map (evo n o) ++ cap) = objs1) (hw : leOb objs1 objs2) (hl : objs2.length = objs1.length)
    (hle : AV.leL (AV.stripL (first ++ args.toList.map (evo n o) ++ cap)) (AV.renL (rn ks objs2.length) argsC)) (hn : nodupB ks = true) (hk : allLt objs2.length ks = true)
    (hin : inOk (rn ks objs2.length) objs2 ks oin) (ha : AV.idsLtL oin.length argsC = true) (hb : belowObjs oin.length oin = true)
    (hx : ∀ r, (X r).ren (rn ks objs2.length) = enc r) (hO : ∀ r, outOk (rn ks objs2.length) (O r) (pickO ks objs2.length (ob r))) (ho : ∀ r, mergeL ks objs2 (pickO ks objs2.length (ob r)) = ob r)
    (h : ∀ r, H (m r) Φ (rg .p P ops rest (st n o (ob r)) K E)) : H (callO ks objs2 enc ob e m) Φ (rg .p P ops (⟨none, .call ⟨.value cal, args, at'⟩, ty, pos, af, gd⟩ :: rest) (st n o objs) K E) := by
  intro y hy hq
  unfold callO at hy
  cases he : e with
  | none => rw [he] at hy; cases hy
  | some r =>
    rw [he] at hy
    have hop := call_opO (at' := at') hc hen hf hp hw hl hle hn hk hin ha hb hx hO ho he
    cases gd with
    | none => exact S_e0 (objs' := ob r) hop (h r) y hy hq
    | some jw =>
      obtain ⟨j, w⟩ := jw
      exact S_on (s := st n o objs) (s' := st n o (ob r)) (j := j) (want := w) rfl (gcond_st rfl hg) rfl (fun N E hN => hop.run _ N E rfl hN) (h r) y hy hq
theorem M_callOC (hg : gev n (kst .c ops ⟨some d, .call ⟨.value cal, args, at'⟩, ty, pos, af, gd⟩ o) ops gd = some true) (hc : evo n (kst .c ops ⟨some d, .call ⟨.value cal, args, at'⟩, ty, pos, af, gd⟩ o) cal = .fn g first cap) (hen : enters P g = true) (hf : ∀ r, e = some r → FunO P g argsC oin (X r) (O r))
    (hp : AV.pubL objs (first ++ args.toList.map (evo n (kst .c ops ⟨some d, .call ⟨.value cal, args, at'⟩, ty, pos, af, gd⟩ o)) ++ cap) = objs1) (hw : leOb objs1 objs2) (hl : objs2.length = objs1.length)
    (hle : AV.leL (AV.stripL (first ++ args.toList.map (evo n (kst .c ops ⟨some d, .call ⟨.value cal, args, at'⟩, ty, pos, af, gd⟩ o)) ++ cap)) (AV.renL (rn ks objs2.length) argsC)) (hn : nodupB ks = true) (hk : allLt objs2.length ks = true)
    (hin : inOk (rn ks objs2.length) objs2 ks oin) (ha : AV.idsLtL oin.length argsC = true) (hb : belowObjs oin.length oin = true)
    (hx : ∀ r, (X r).ren (rn ks objs2.length) = enc r) (hO : ∀ r, outOk (rn ks objs2.length) (O r) (pickO ks objs2.length objs)) (ho : mergeL ks objs2 (pickO ks objs2.length objs) = objs)
    (h : ∀ r, H (m r) Φ (rg .c P ops rest (st n (oc d (rv .c gd (enc r)) o) objs) K E)) : H (callO ks objs2 enc ob e m) Φ (rg .c P ops (⟨some d, .call ⟨.value cal, args, at'⟩, ty, pos, af, gd⟩ :: rest) (st n o objs) K E) := by
  intro y hy hq
  unfold callO at hy
  cases he : e with
  | none => rw [he] at hy; cases hy
  | some r =>
    rw [he] at hy
    have hop := call_opO (ob := fun _ => objs) (at' := at') hc hen hf hp hw hl hle hn hk hin ha hb hx hO (fun _ => ho) he
    cases gd with
    | none => exact S_runC (s := st n o objs) (s1 := st n (kst .c ops ⟨some d, .call ⟨.value cal, args, at'⟩, ty, pos, af, none⟩ o) objs) (y := enc r) rfl rfl (keep_ov _ _ _ _) (fun N E hN => hop.run _ N E rfl hN) (h r) y hy hq
    | some jw =>
      obtain ⟨j, w⟩ := jw
      exact S_runCG (s := st n o objs) (s1 := st n (kst .c ops ⟨some d, .call ⟨.value cal, args, at'⟩, ty, pos, af, some (j, w)⟩ o) objs) (v := enc r) rfl rfl (keep_ov _ _ _ _) (gcond_st rfl hg) (.inl fun _ N E hN => hop.run _ N E rfl hN) (h r) y hy hq
end

/-! ### The tail of a drawn region -/
def tailM {β : Type} (_k : Nat) (m : Option β) : Option β := m
section
variable {P : Program} {n0 : Nat} {Q : AX → AS → Prop} {E : AV → List Obj → Prop} {β : Type} {m : Option β} {Φ : β → Prop} {s : AS}
theorem M_regT {id k : Nat} {l l1 l2 : List Oper} (e1 : P.follows .mixedOrders = true) (e2 : lexT l.toArray k = true) (h1 : l.take k = l1) (h2 : l.drop k = l2) (h : H m Φ (rg .c P l l1 s (fun s' => rg .p P l l2 s' (Q .normal) (fun _ _ => False)) E)) :
    H (tailM k m) Φ (awp P n0 (.region id l.toArray true) s Q E) := by
  subst h1; subst h2
  exact fun y hy hp => awp_regionT k e1 e2 (h y hy hp)
end
end Go.Proofs.YtnlbgjlbbdngaaaDoor.AM

/- Ranges over maps, for the models: whatever the order of the entries. -/
namespace Go.Proofs.YtnlbgjlbbdngaaaDoor.AM
open Go

def rngIter {σ ε β : Type} (step : σ → (ε → Option (σ ⊕ β)) × Option (σ ⊕ β)) : List ε → σ → Option β
  | [], q => (step q).2.bind (Sum.elim (fun _ => none) some)
  | e :: es, q => ((step q).1 e).bind (Sum.elim (rngIter step es) (fun _ => none))
/-- A round, apart from stamps: these stand in it for the proof alone. -/
def bareR {σ ε β : Type} (step : List Nat → Nat → List Nat → σ → (Nat → ε → Option (σ ⊕ β)) × Option (σ ⊕ β)) (q : σ) : (ε → Option (σ ⊕ β)) × Option (σ ⊕ β) := ((step [] 0 [] q).1 0, (step [] 0 [] q).2)
/-- A round that hangs on no stamp. -/
structure NoStamp {σ ε β : Type} (step : List Nat → Nat → List Nat → σ → (Nat → ε → Option (σ ⊕ β)) × Option (σ ⊕ β)) : Prop where
  one : ∀ zb zc zs zi q e, (step zb zc zs q).1 zi e = (step [] 0 [] q).1 0 e
  two : ∀ zb zc zs q, (step zb zc zs q).2 = (step [] 0 [] q).2
open Classical in
noncomputable def rangeM {σ ε β : Type} (_ph : σ → List (Nat × AV)) (_ob : List Nat → Nat → List Nat → σ → List Obj) (es : List ε) (step : List Nat → Nat → List Nat → σ → (Nat → ε → Option (σ ⊕ β)) × Option (σ ⊕ β)) (q : σ) : Option β :=
  if h : ∃ r, NoStamp step ∧ ∀ es' : List ε, es'.Perm es → rngIter (bareR step) es' q = some r then some (Classical.choose h) else none
theorem rangeM_spec {σ ε β : Type} {ph : σ → List (Nat × AV)} {ob : List Nat → Nat → List Nat → σ → List Obj} {es : List ε} {step : List Nat → Nat → List Nat → σ → (Nat → ε → Option (σ ⊕ β)) × Option (σ ⊕ β)} {q : σ} {r : β} (h : rangeM ph ob es step q = some r) :
    NoStamp step ∧ ∀ es' : List ε, es'.Perm es → rngIter (bareR step) es' q = some r := by
  unfold rangeM at h
  split at h
  · rename_i hx
    cases h
    exact Classical.choose_spec hx
  · cases h
/-- What a range answers: what every order gives. -/
theorem rangeM_eq {σ ε β : Type} {ph : σ → List (Nat × AV)} {ob : List Nat → Nat → List Nat → σ → List Obj} {es : List ε} {step : List Nat → Nat → List Nat → σ → (Nat → ε → Option (σ ⊕ β)) × Option (σ ⊕ β)} {q : σ} {r : β} (hs : NoStamp step) (h : ∀ es' : List ε, es'.Perm es → rngIter (bareR step) es' q = some r) :
    rangeM ph ob es step q = some r := by
  have hx : ∃ r, NoStamp step ∧ ∀ es' : List ε, es'.Perm es → rngIter (bareR step) es' q = some r := ⟨r, hs, h⟩
  unfold rangeM
  rw [dif_pos hx]
  have := (Classical.choose_spec hx).2 es (List.Perm.refl _)
  rw [h es (List.Perm.refl _)] at this
  exact this.symm

/-- The stamps of a map's entries. -/
structure Stamps (bs : List Nat) (c n : Nat) : Prop where
  len : bs.length = n
  nodup : bs.Nodup
  lt : ∀ b ∈ bs, b < c

def rngM {σ ε β : Type} (p : (Nat → ε → Option (σ ⊕ β)) × Option (σ ⊕ β)) : Option ((Nat → ε → Option (σ ⊕ β)) × Option (σ ⊕ β)) := some p
/-- What is known of a round. -/
structure PR {σ ε β : Type} (es : List ε) (bs seen : List Nat) (Ψ : Nat → σ → Prop) (Φ : β → Prop) (p : (Nat → ε → Option (σ ⊕ β)) × Option (σ ⊕ β)) : Prop where
  step : ∀ (i b : Nat) (e : ε), bs[i]? = some b → es[i]? = some e → b ∉ seen → ∃ z, p.1 b e = some z ∧ Sum.elim (Ψ b) (fun _ => False) z
  over : (∀ b ∈ bs, b ∈ seen) → ∃ z, p.2 = some z ∧ Sum.elim (fun _ => False) Φ z

section
variable {P : Program} {n0 n : Nat} {Q : AX → AS → Prop} {E : AV → List Obj → Prop} {σ ε β : Type} {Φ : β → Prop}
theorem R_range {ph : σ → List (Nat × AV)} {ob : List Nat → Nat → List Nat → σ → List Obj} {es : List ε} {step : List Nat → Nat → List Nat → σ → (Nat → ε → Option (σ ⊕ β)) × Option (σ ⊕ β)} {q0 : σ} {bs : List Nat} {cl : Nat} {c : Code} {s : AS} (hb : Stamps bs cl es.length)
    (hw : Weak n0 s ⟨ov n (ph q0), ob bs cl [] q0⟩)
    (h : ∀ (Ψ : Nat → σ → Prop) (I : Nat → AS → Prop) (kk : Nat) (q : σ) (seen : List Nat), (∀ b, b ∈ bs → b ∉ seen → ∀ x', Ψ b x' → ∀ s', Weak n0 s' ⟨ov n (ph x'), ob bs cl (seen ++ [b]) x'⟩ → loopQ n0 I kk Q .normal s') →
      H (rngM (step bs cl seen q)) (fun p => PR es bs seen Ψ Φ p) (awp P n0 c ⟨ov n (ph q), ob bs cl seen q⟩ (loopQ n0 I kk Q) E)) :
    H (rangeM ph ob es step q0) Φ (awp P n0 (.loop c) s Q E) := by
  intro y hy hp
  obtain ⟨hns, hall⟩ := rangeM_spec hy
  -- stamps and entries
  let zs : List (Nat × ε) := bs.zip es
  have hz1 : zs.map (·.1) = bs := by
    show (bs.zip es).map Prod.fst = bs
    rw [List.map_fst_zip (by rw [hb.len]; exact Nat.le_refl _)]
  have hz2 : zs.map (·.2) = es := by
    show (bs.zip es).map Prod.snd = es
    rw [List.map_snd_zip (by rw [hb.len]; exact Nat.le_refl _)]
  let Inv : List Nat → σ → Prop := fun seen q => ∃ sp : List (Nat × ε), sp.map (·.1) = seen ∧ (∃ rest, (sp ++ rest).Perm zs) ∧ ∀ rest, (sp ++ rest).Perm zs → rngIter (bareR step) (rest.map (·.2)) q = some y
  refine ⟨fun m s' => ∃ seen q, Inv seen q ∧ m = zs.length - seen.length ∧ s' = ⟨ov n (ph q), ob bs cl seen q⟩, ⟨_, _, hw, [], q0, ⟨[], rfl, ⟨zs, List.Perm.refl _⟩, fun rest hr => ?_⟩, rfl, rfl⟩, ?_⟩
  · refine hall _ ?_
    rw [← hz2]
    exact List.Perm.map _ (by simpa using hr)
  · rintro m s' ⟨seen, q, ⟨sp, hsp, ⟨rest0, hr0⟩, hI⟩, rfl, rfl⟩
    have hseen : ∀ b ∈ seen, b ∈ bs := by
      intro b hb'
      rw [← hsp] at hb'
      obtain ⟨p, hp', rfl⟩ := List.mem_map.1 hb'
      have : p ∈ zs := hr0.mem_iff.1 (List.mem_append_left _ hp')
      rw [← hz1]; exact List.mem_map_of_mem this
    refine h (fun b q' => Inv (seen ++ [b]) q' ∧ b ∈ bs ∧ b ∉ seen) (fun m s' => ∃ seen q, Inv seen q ∧ m = zs.length - seen.length ∧ s' = ⟨ov n (ph q), ob bs cl seen q⟩) _ q seen ?_ (step bs cl seen q) rfl ⟨?_, ?_⟩
    · rintro b hb1 hb2 x' ⟨hx, _, _⟩ s' hw'
      refine ⟨_, _, hw', ?_, seen ++ [b], x', hx, rfl, rfl⟩
      -- there is one more than was seen
      obtain ⟨sp', hsp', ⟨r', hr'⟩, _⟩ := hx
      have h1 := hr'.length_eq
      have h2 : sp'.length = (seen ++ [b]).length := by rw [← hsp']; simp
      simp only [List.length_append, List.length_cons, List.length_nil] at h1 h2 ⊢
      omega
    · intro i b e hib hie hbs
      have hmem : (b, e) ∈ zs := by
        have : zs[i]? = some (b, e) := by
          show (bs.zip es)[i]? = _
          rw [List.getElem?_zip_eq_some]; exact ⟨hib, hie⟩
        exact List.mem_of_getElem? this
      have hmr : (b, e) ∈ rest0 := by
        rcases List.mem_append.1 (hr0.mem_iff.2 hmem) with h | h
        · exact absurd (by rw [← hsp]; exact List.mem_map_of_mem h) hbs
        · exact h
      obtain ⟨r1, r2, hr⟩ := List.append_of_mem hmr
      have hp1 : (sp ++ (b, e) :: (r1 ++ r2)).Perm zs := by
        refine List.Perm.trans ?_ hr0
        rw [hr]
        exact List.Perm.append_left sp (List.perm_middle).symm
      have h1 := hI _ hp1
      simp only [List.map_cons, rngIter, bareR] at h1
      rw [hns.one bs cl seen b q e]
      cases hz : (step [] 0 [] q).1 0 e with
      | none => rw [hz] at h1; cases h1
      | some z =>
        rw [hz] at h1
        cases z with
        | inr r => simp at h1
        | inl q' =>
          refine ⟨.inl q', rfl, ⟨sp ++ [(b, e)], by simp [hsp], ⟨r1 ++ r2, by simpa using hp1⟩, fun rest hrest => ?_⟩, List.mem_of_getElem? hib, hbs⟩
          have h2 := hI ((b, e) :: rest) (by simpa using hrest)
          simp only [List.map_cons, rngIter, bareR, hz] at h2
          simpa using h2
    · intro hover
      have hrest : rest0 = [] := by
        cases rest0 with
        | nil => rfl
        | cons p r =>
          exfalso
          have hpz : p ∈ zs := hr0.mem_iff.1 (by simp)
          have hpb : p.1 ∈ bs := by rw [← hz1]; exact List.mem_map_of_mem hpz
          have hps := hover _ hpb
          have hnd : ((sp ++ p :: r).map (·.1)).Nodup := by
            have := (List.Perm.map (·.1) hr0).nodup_iff.2 (by rw [hz1]; exact hb.nodup)
            exact this
          rw [List.map_append, List.map_cons] at hnd
          have := (List.nodup_append.1 hnd).2.2 p.1 (by rw [hsp]; exact hps) p.1 (by simp)
          exact this rfl
      subst hrest
      have h1 := hI [] hr0
      simp only [List.map_nil, rngIter, bareR] at h1
      rw [hns.two bs cl seen q]
      cases hz : (step [] 0 [] q).2 with
      | none => rw [hz] at h1; cases h1
      | some z =>
        rw [hz] at h1
        cases z with
        | inl q' => simp at h1
        | inr r =>
          simp at h1
          subst h1
          exact ⟨_, rfl, hp⟩
end

section
variable {P : Program} {β : Type} {m : Option β} {Φ : β → Prop} {ops rest : List Oper} {K : AS → Prop} {E : AV → List Obj → Prop} {n d : Nat} {o : List (Nat × AV)} {objs : List Obj} {ty t : TypeId} {pos : String} {af : Array Edge} {x : Operand}
theorem M_range {κ α : Type} {kv : κ → Value} {av : α → AV} {es : List (κ × α)} {i : TI} {kt et : TypeId} {k kk : Nat} {ob : List Nat → Nat → List Obj} (ht : ti P t = some i) (hd : i.desc = .map kt et) (hx : evo n o x = .map k) (ho : objs[k]? = some (.map (mp kv av es))) (hk : objs.length = kk)
    (hob : ∀ bs cl, objs.set k (.mapB bs cl (mp kv av es)) ++ [.iter k cl []] = ob bs cl)
    (h : ∀ bs cl, Stamps bs cl es.length → H m Φ (rg .p P ops rest (st n (oc d (.ptr kk 0) o) (ob bs cl)) K E)) : H m Φ (rg .p P ops (⟨some d, .range t x, ty, pos, af, none⟩ :: rest) (st n o objs) K E) := by
  intro y hy hp
  show aops P ops (_ :: rest) (st n o objs) K E
  simp only [aops, guardAV]
  unfold aop; dsimp only
  have ee : (st n o objs).eval x = .map k := by rw [show (st n o objs).eval x = evo n o x from eval_st n o objs x]; exact hx
  rw [ee]
  have hspec := ht
  unfold rangeAV
  simp only [hspec, hd, ho]
  intro bs cl h1 h2 h3
  rw [hob bs cl, hk]
  have := h bs cl ⟨by rw [h1]; simp [mp], h2, h3⟩ y hy hp
  rw [show AS.put (st n o objs) (some d) (.ptr kk 0) = st n (oc d (.ptr kk 0) o) objs from put_ov n o objs d _]
  exact this
theorem M_next {n0 : Nat} {Q : AX → AS → Prop} {I : Nat → AS → Prop} {kk : Nat} {σ κ α : Type} {kv : κ → Value} {av : α → AV} {es : List (κ × α)} {step : (Nat → (κ × α) → Option (σ ⊕ β)) × Option (σ ⊕ β)} {bs seen : List Nat} {cl k mi : Nat} {Ψ : Nat → σ → Prop} {ph : σ → List (Nat × AV)} {ob : Nat → σ → List Obj} {ob2 : Nat → List Obj}
    (hx : evo n o x = .ptr k 0) (hi : objs[k]? = some (.iter mi cl seen)) (hm : objs[mi]? = some (.mapB bs cl (mp kv av es)))
    (hN : ∀ b, b ∈ bs → b ∉ seen → ∀ x', Ψ b x' → ∀ s', Weak n0 s' ⟨ov n (ph x'), ob b x'⟩ → loopQ n0 I kk Q .normal s')
    (ho : ∀ b, objs.set k (.iter mi cl (seen ++ [b])) = ob2 b)
    (h1 : ∀ (i b : Nat) (e : κ × α), bs[i]? = some b → es[i]? = some e → (∀ x', Ψ b x' → ∀ s', Weak n0 s' ⟨ov n (ph x'), ob b x'⟩ → loopQ n0 I kk Q .normal s') →
      H (step.1 b e) (Sum.elim (Ψ b) (fun _ => False)) (rg .p P ops rest (st n (oc d (.tup [.v (.bool true), AV.ofValue (kv e.1), av e.2]) o) (ob2 b)) K E))
    (h2 : H step.2 (Sum.elim (fun _ => False) Φ) (rg .p P ops rest (st n (oc d (.tup [.v (.bool false)]) o) objs) K E)) :
    H (rngM step) (fun p => PR es bs seen Ψ Φ p) (rg .p P ops (⟨some d, .next x false, ty, pos, af, none⟩ :: rest) (st n o objs) K E) := by
  intro y hy hp
  cases hy
  show aops P ops (_ :: rest) (st n o objs) K E
  simp only [aops, guardAV]
  unfold aop; dsimp only
  have ee : (st n o objs).eval x = .ptr k 0 := by rw [show (st n o objs).eval x = evo n o x from eval_st n o objs x]; exact hx
  rw [ee]
  unfold nextAV
  simp only [hi, hm]
  refine ⟨trivial, trivial, fun hover => ?_, fun i b p hib hie hbs => ?_⟩
  · obtain ⟨z, hz, hq⟩ := hp.over hover
    rw [show AS.put (st n o objs) (some d) (.tup [.v (.bool false)]) = st n (oc d (.tup [.v (.bool false)]) o) objs from put_ov n o objs d _]
    exact h2 z hz hq
  · rw [mp, List.getElem?_map] at hie
    cases he : es[i]? with
    | none => rw [he] at hie; cases hie
    | some e =>
      rw [he] at hie
      cases hie
      obtain ⟨z, hz, hq⟩ := hp.step i b e hib he hbs
      have := h1 i b e hib he (hN b (List.mem_of_getElem? hib) hbs) z hz hq
      rw [show AS.put (st n o objs) (some d) (.tup [.v (.bool true), AV.ofValue (kv e.1), av e.2]) = st n (oc d (.tup [.v (.bool true), AV.ofValue (kv e.1), av e.2]) o) objs from put_ov n o objs d _, ho b]
      exact this
theorem V_entry {κ α : Type} {kv : κ → Value} {av : α → AV} {es : List (κ × α)} {bs seen : List Nat} {cl k mi i b : Nat} {e : κ × α} (hx : evo n o x = .ptr k 0) (hi : objs[k]? = some (.iter mi cl (seen ++ [b]))) (hm : objs[mi]? = some (.mapB bs cl (mp kv av es)))
    (h1 : bs[i]? = some b) (h2 : es[i]? = some e) : Val P (.entry x) n o objs (.tup [AV.ofValue (kv e.1), av e.2]) := by
  refine ⟨?_⟩
  intro p N E hp hN
  unfold aop; rw [hp]; dsimp only
  have ee : (st n o objs).eval x = .ptr k 0 := by rw [show (st n o objs).eval x = evo n o x from eval_st n o objs x]; exact hx
  rw [ee]
  unfold entryAV
  simp only [hi, hm]
  refine ⟨trivial, seen, i, b, (kv e.1, av e.2), rfl, h1, ?_, hN⟩
  rw [mp, List.getElem?_map, h2]; rfl
/-- an element of an array's value -/
theorem V_ixg {y : Operand} {α : Type} {en : α → AV} {l : List α} {i j : TI} {len : Nat} {e : TypeId} {q : IntKind} {k : Int} {r : α} (ht : ti P t = some i) (hd : i.desc = .array len e) (hj : ti P e = some j) (ha : j.isAgg = false) (hs : j.size = 1) (hx : evo n o x = .agg (l.map en)) (hln : l.length = len) (hy : evo n o y = .v (.int q k)) (h0 : 0 ≤ k) (hr : l[k.toNat]? = some r) :
    Val P (.index t x y) n o objs (en r) := by
  have hk : k.toNat < l.length := (List.getElem?_eq_some_iff.1 hr).1
  refine ⟨?_⟩
  intro p N E hp hN
  unfold aop; rw [hp]; dsimp only
  have ee : (st n o objs).eval = evo n o := funext fun x => eval_st n o objs x
  rw [ee, hx, hy]
  unfold indexAV
  simp only [ht, hd, hj]
  refine ⟨h0, by omega, ?_⟩
  unfold partAV
  refine ⟨by rw [List.length_map, hs]; omega, ?_⟩
  rw [if_neg (by simp [ha])]
  refine ⟨by omega, ?_⟩
  rw [hs, Nat.mul_one, List.getD_eq_getElem?_getD, List.getElem?_map, hr]
  exact hN
end

/-! ### What is forgotten between two statements -/
def forgM {β : Type} (_id : Nat) (_ph : List (Nat × AV)) (_ob : List Obj) (m : Option β) : Option β := m
section
variable {P : Program} {n0 n k : Nat} {Q Q1 : AX → AS → Prop} {E : AV → List Obj → Prop} {β : Type} {m : Option β} {Φ : β → Prop} {s : AS} {ph : List (Nat × AV)} {ob : List Obj} {id : Nat} {ops : Array Oper} {dr : Bool} {c : Code}
theorem R_forgS (hw : Weak n0 s ⟨ov n ph, ob⟩) (h : H m Φ (seqQ n0 (fun s' => awp P n0 (.seq (.region id ops dr) c) s' Q1 E) Q .normal ⟨ov n ph, ob⟩)) : H (forgM id ph ob m) Φ (seqQ n0 (fun s' => awp P n0 (.seq (.region id ops dr) c) s' Q1 E) Q .normal s) := by
  intro y hy hp
  obtain ⟨s', hw', hn⟩ := h y hy hp
  exact ⟨s', hw.trans hw', hn⟩
theorem R_forgR (hw : Weak n0 s ⟨ov n ph, ob⟩) (h : H m Φ (seqQ n0 (fun s' => awp P n0 (.region id ops dr) s' Q1 E) Q .normal ⟨ov n ph, ob⟩)) : H (forgM id ph ob m) Φ (seqQ n0 (fun s' => awp P n0 (.region id ops dr) s' Q1 E) Q .normal s) := by
  intro y hy hp
  obtain ⟨s', hw', hn⟩ := h y hy hp
  exact ⟨s', hw.trans hw', hn⟩
end
end Go.Proofs.YtnlbgjlbbdngaaaDoor.AM

/- Builders, and texts laid behind octets, for the models. -/
namespace Go.Proofs.YtnlbgjlbbdngaaaDoor.AM
open Go

/-- A text's octets. -/
def octs (s : Str) : List Int := s.map fun b => (b.toNat : Int)
theorem octs_length (s : Str) : (octs s).length = s.length := by simp [octs]
theorem octs_enc (s : Str) : encB s = (octs s).map (cK .u8) := by simp [encB, octs, cK, Function.comp_def]
theorem strOf_octs (s : Str) : strOf (octs s) = s := by
  simp only [strOf, octs, List.map_map]
  conv => rhs; rw [← List.map_id s]
  refine List.map_congr_left fun b _ => ?_
  simp
theorem strOf_append (l l' : List Int) : strOf (l ++ l') = strOf l ++ strOf l' := by simp [strOf]

section
variable {P : Program} {n : Nat} {o : List (Nat × AV)} {objs objs' : List Obj} {x y : Operand} {t xt : TypeId}
/-- 'var b strings.Builder' -/
theorem E_bldN {e b : TypeId} {i : TI} {k k1 : Nat} (ht : ti P e = some i) (hz : i.zero = [.pointer none, .slice none 0 0]) (hk : objs.length = k) (hk1 : objs.length + 1 = k1) (ho : objs ++ [.bld e (.sl [] (.own k1)), .tok 0 1 b true] = objs') :
    Eff P (.alloc e) n o objs (.ptr k 0) objs' := by
  subst ho; subst hk; subst hk1
  refine ⟨?_⟩; intro p N E hp hN; unfold aop; rw [hp]; dsimp only; rw [ht]; exact .inr ⟨hz, b, hN⟩
theorem V_ldB {i : TI} {k e : Nat} {buf : AV} (ht : ti P t = some i) (ha : i.isAgg = false) (hs : i.size = 1) (hx : evo n o x = .ptr k 1) (ho : objs[k]? = some (.bld e buf)) : Val P (.load t x) n o objs buf := by
  refine ⟨?_⟩; intro p N E hp hN; unfold aop; rw [hp]; dsimp only; rw [eval_st, hx]; unfold loadAV; rw [ht]; dsimp only [st]; rw [ho]; exact ⟨rfl, ha, hs, hN⟩
theorem E_stB {i : TI} {k e : Nat} {buf z : AV} (ht : ti P t = some i) (hs : i.size = 1) (hx : evo n o x = .ptr k 1) (hy : cellsAV (evo n o y) = some [z]) (ho : objs[k]? = some (.bld e buf)) (ho' : objs.set k (.bld e z) = objs') : Eff P (.store t x y) n o objs .any objs' := by
  subst ho'
  refine ⟨?_⟩; intro p N E hp hN; unfold aop; rw [hp]; dsimp only; rw [eval_st, eval_st, hx]; unfold storeAV; rw [ht, hy]; dsimp only [st]; rw [ho]; exact ⟨rfl, hs, rfl, hN⟩
section
variable {i j xi : TI} {e : TypeId} {l : List Int} {a : Str} (ht : ti P t = some i) (hd : i.desc = .slice e) (hj : ti P e = some j) (h0 : 0 < j.size ∧ 0 < j.bytes) (hs : j.size = 1) (hxt : ti P xt = some xi) (hxd : isStrD xi.desc = true) (hy : evo n o y = .v (.string (bs a)))
include ht hd hj h0 hs hxt hxd hy
theorem app_str : appRows P t xt e (evo n o y) = some ((octs a).map (cK .u8)) ∧ ∀ r ∈ (octs a).map (cK .u8), r.length = j.size := by
  rw [hy]
  refine ⟨?_, fun r hr => ?_⟩
  · rw [← octs_enc]
    unfold appRows; dsimp only
    rw [hxt, hj, if_pos ⟨by simp [hxd], by simp [hs]⟩]
    rfl
  · obtain ⟨q, _, rfl⟩ := List.mem_map.1 hr; rw [hs]; rfl
theorem E_aps0 {k : Nat} (hx : evo n o x = .v (.slice none 0 0)) (hb : (octs a).length * j.bytes ≤ 140737488355328) (hk : objs.length = k) (ho : objs ++ [.tok (octs a).length j.size e true] = objs') :
    Eff P (.call ⟨.builtin .append, #[x, y], #[t, xt]⟩) n o objs (.sl ((octs a).map (cK .u8)) (.own k)) objs' := by
  subst hk; subst ho
  refine ⟨?_⟩; intro p N E hp hN; unfold aop; rw [hp]; dsimp only [List.map, Array.toList]; rw [eval_st, eval_st, hx]
  obtain ⟨k1, k2⟩ := app_str (n := n) (o := o) ht hd hj h0 hs hxt hxd hy
  unfold builtinAV; dsimp only; unfold appendAV; rw [ht]; dsimp only; rw [hd]; dsimp only; rw [hj]; dsimp only; rw [k1]; dsimp only
  refine ⟨h0.1, h0.2, k2, by rw [List.length_map]; exact hb, ?_⟩
  rw [List.length_map]; exact hN
theorem E_apsx {k : Nat} (hx : evo n o x = .sl (l.map (cK .u8)) .exact) (hpos : 0 < l.length + (octs a).length) (hb : (l.length + (octs a).length) * j.bytes ≤ 140737488355328) (hk : objs.length = k) (ho : objs ++ [.tok (l ++ octs a).length j.size e l.isEmpty] = objs') :
    Eff P (.call ⟨.builtin .append, #[x, y], #[t, xt]⟩) n o objs (.sl ((l ++ octs a).map (cK .u8)) (.own k)) objs' := by
  subst hk; subst ho
  refine ⟨?_⟩; intro p N E hp hN; unfold aop; rw [hp]; dsimp only [List.map, Array.toList]; rw [eval_st, eval_st, hx]
  obtain ⟨k1, k2⟩ := app_str (n := n) (o := o) ht hd hj h0 hs hxt hxd hy
  unfold builtinAV; dsimp only; unfold appendAV; rw [ht]; dsimp only; rw [hd]; dsimp only; rw [hj]; dsimp only; rw [k1]; dsimp only
  refine ⟨h0.1, h0.2, k2, by rw [List.length_map, List.length_map]; exact hpos, fun r hr => ?_, by rw [List.length_map, List.length_map]; exact hb, ?_⟩
  · obtain ⟨q, _, rfl⟩ := List.mem_map.1 hr; rw [hs]; rfl
  · have he : (l.map (cK .u8)).isEmpty = l.isEmpty := by cases l <;> rfl
    rw [List.length_map, List.length_map, ← List.map_append, ← List.length_append, he]; exact hN
theorem E_apso {k : Nat} {ex : Bool} {len : Nat} (hx : evo n o x = .sl (l.map (cK .u8)) (.own k)) (ho : objs[k]? = some (.tok len j.size e ex)) (hln : len = l.length) (hb : (l.length + (octs a).length) * j.bytes ≤ 140737488355328) (ho' : objs.set k (.tok (l ++ octs a).length j.size e ex) = objs') :
    Eff P (.call ⟨.builtin .append, #[x, y], #[t, xt]⟩) n o objs (.sl ((l ++ octs a).map (cK .u8)) (.own k)) objs' := by
  subst ho'
  refine ⟨?_⟩; intro p N E hp hN; unfold aop; rw [hp]; dsimp only [List.map, Array.toList]; rw [eval_st, eval_st, hx]
  obtain ⟨k1, k2⟩ := app_str (n := n) (o := o) ht hd hj h0 hs hxt hxd hy
  unfold builtinAV; dsimp only; unfold appendAV; rw [ht]; dsimp only; rw [hd]; dsimp only; rw [hj]; dsimp only; rw [k1]; dsimp only; rw [ho]
  refine ⟨h0.1, h0.2, k2, by rw [List.length_map]; exact hln, rfl, rfl, fun r hr => ?_, by rw [List.length_map, List.length_map]; exact hb, ?_⟩
  · obtain ⟨q, _, rfl⟩ := List.mem_map.1 hr; rw [hs]; rfl
  · rw [List.length_map, List.length_map, ← List.map_append, ← List.length_append]; exact hN
end
end
end Go.Proofs.YtnlbgjlbbdngaaaDoor.AM

/- What the walks of functions that are handed objects lean on. -/
namespace Go.Proofs.YtnlbgjlbbdngaaaDoor.AM
open Go

def vNI (_ : Unit) : AV := .v .nilIface
section
variable {κ α : Type} {kv : κ → Value} {av : α → AV} {es : List (κ × α)} {f : Nat → Nat}
theorem mp_ren (h : ∀ a, (av a).ren f = av a) : (Obj.map (mp kv av es)).ren f = .map (mp kv av es) := by
  simp only [Obj.ren, mp, List.map_map]
  congr 1
  refine List.map_congr_left fun e _ => ?_
  simp [h]
theorem mp_in {o : Option Obj} (e : o = some (.map (mp kv av es))) (h : ∀ a, (av a).ren f = av a) : o = some ((Obj.map (mp kv av es)).ren f) := by rw [mp_ren h]; exact e
end
theorem ofD_ren (f : Nat → Nat) : ∀ d : D, (AV.ofD d).ren f = .ofD d
  | .v _ => rfl
  | .sl _ => rfl
theorem renL_ofD (f : Nat → Nat) : ∀ l : List D, AV.renL f (l.map .ofD) = l.map .ofD
  | [] => rfl
  | d :: l => by simp [AV.renL, ofD_ren, renL_ofD f l]
theorem rc_ren {rows : List (List D)} {f : Nat → Nat} : (Obj.box (rowCells rows)).ren f = .box (rowCells rows) := by
  simp only [Obj.ren, rowCells, renL_ofD]
theorem rc_in {o : Option Obj} {rows : List (List D)} {f : Nat → Nat} (e : o = some (.box (rowCells rows))) : o = some ((Obj.box (rowCells rows)).ren f) := by rw [rc_ren]; exact e

def noM {β : Type} : Option β := none
theorem H_noM {β : Type} {Φ : β → Prop} {G : Prop} : H (noM : Option β) Φ G := fun _ h _ => by cases h
def bldCheck (_l : List Int) : Option Unit := some ()
def bldStr (l : List Int) : Option Str := gdM (∀ x ∈ l, 0 ≤ x ∧ x < 256) (retM (strOf l))
section
variable {P : Program} {n : Nat} {o : List (Nat × AV)} {objs : List Obj} {x y : Operand} {t : TypeId} {κ α : Type} [DecidableEq κ] {kv : κ → Value} {av : α → AV} {es : List (κ × α)} {i ki : TI} {kt et : TypeId} {k : Nat} {key : κ} {zl : List Value}
  (ht : ti P t = some i) (hd : i.desc = .map kt et) (hk : ti P kt = some ki) (hx : evo n o x = .map k) (ho : objs[k]? = some (.map (mp kv av es))) (hq : KeyOk kv ki.desc) (hy : evo n o y = .v (kv key))
theorem ofValue_agg (h1 : zl.all (·.oneCell') = true) : AV.ofValue (.agg zl.toArray) = .agg (zl.map .v) := by
  simp only [AV.ofValue]
  rw [if_pos (by simpa using h1)]
include ht hd hk hx ho hq hy
theorem V_lkNA (hz : (P.info? et).bind (·.zero) = some (.agg zl.toArray)) (h1 : zl.all (·.oneCell') = true) (hl : mlk es key = none) : Val P (.lookup t x y true) n o objs (.tup [.agg (zl.map .v), .v (.bool false)]) := by
  have := V_lkN ht hd hk hx ho hq hy hz hl
  rw [ofValue_agg h1] at this; exact this
theorem V_lkN1A (hz : (P.info? et).bind (·.zero) = some (.agg zl.toArray)) (h1 : zl.all (·.oneCell') = true) (hl : mlk es key = none) : Val P (.lookup t x y false) n o objs (.agg (zl.map .v)) := by
  have := V_lkN1 ht hd hk hx ho hq hy hz hl
  rw [ofValue_agg h1] at this; exact this
end
def shOk (n : Nat) : List Obj → List Obj → Prop
  | [], [] => True
  | x :: xs, y :: ys => x.shift n = y ∧ shOk n xs ys
  | _, _ => False
theorem shOk_eq {n : Nat} : ∀ {xs ys : List Obj}, shOk n xs ys → xs.map (Obj.shift n) = ys
  | [], [], _ => rfl
  | x :: xs, y :: ys, h => by rw [List.map_cons, h.1, shOk_eq h.2]
  | [], _ :: _, h => h.elim
  | _ :: _, [], h => h.elim
theorem ho_of {l xs ys : List Obj} {n : Nat} (h : shOk n xs (ys.drop l.length)) (e : l ++ ys.drop l.length = ys) : l ++ xs.map (Obj.shift n) = ys := by rw [shOk_eq h, e]
theorem mp_shift {κ α : Type} {kv : κ → Value} {av : α → AV} {es : List (κ × α)} {n : Nat} (h : ∀ a, (av a).shift n = av a) : (Obj.map (mp kv av es)).shift n = .map (mp kv av es) := by
  simp only [Obj.shift, mp, List.map_map]
  congr 1
  refine List.map_congr_left fun e _ => ?_
  simp [h]
/-- A builder is laid. -/
def bldM {β : Type} (_b : Nat) (m : Option β) : Option β := m
section
variable {P : Program} {β : Type} {m : Option β} {Φ : β → Prop} {ops rest : List Oper} {K : AS → Prop} {E : AV → List Obj → Prop} {n d : Nat} {o : List (Nat × AV)} {objs objs' : List Obj} {ty : TypeId} {pos : String} {af : Array Edge}
theorem M_bld {e b : TypeId} {i : TI} {k k1 : Nat} (ht : ti P e = some i) (hz : i.zero = [.pointer none, .slice none 0 0]) (hk : objs.length = k) (hk1 : objs.length + 1 = k1) (ho : objs ++ [.bld e (.sl [] (.own k1)), .tok 0 1 b true] = objs')
    (h : H m Φ (rg .p P ops rest (st n (oc d (.ptr k 0) o) objs') K E)) : H (bldM b m) Φ (rg .p P ops (⟨some d, .alloc e, ty, pos, af, none⟩ :: rest) (st n o objs) K E) :=
  fun y hy hp => S_e (E_bldN ht hz hk hk1 ho) h y hy hp
end
end Go.Proofs.YtnlbgjlbbdngaaaDoor.AM

/- A new variable in a drawn region, for the models. -/
namespace Go.Proofs.YtnlbgjlbbdngaaaDoor.AM
open Go

theorem aopsC_M {P : Program} {ops : Array Oper} {a : Nat} {cells : List AV} {rest : List Oper} {K : AS → Prop} : ∀ (l : List Oper) (k : Nat) (s : AS), (∀ j, j < l.length → k + j ≠ a) →
    aopsC P ops l s (fun s1 => aopsM P ops a cells rest (k + l.length) s1 K) → aopsM P ops a cells (l ++ rest) k s K
  | [], k, s, _, h => h
  | o :: l, k, s, ha, h => by
    obtain ⟨y, hy, h⟩ := h
    rw [List.cons_append]
    unfold aopsM
    rw [if_neg (by have := ha 0 (by simp); simpa using this)]
    refine ⟨y, hy, aopsC_M l (k + 1) _ (fun j hj => by have := ha (j + 1) (by simp; omega); omega) ?_⟩
    rw [show k + 1 + l.length = k + (o :: l).length from by simp; omega]
    exact h
theorem aopsC_mono {P : Program} {ops : Array Oper} {K K' : AS → Prop} (hK : ∀ s, K s → K' s) : ∀ (l : List Oper) (s : AS), aopsC P ops l s K → aopsC P ops l s K'
  | [], s, h => hK s h
  | o :: l, s, ⟨y, h1, h2⟩ => ⟨y, h1, aopsC_mono hK l _ h2⟩

def appO (s : AS) (b : Obj) : AS := ⟨s.tmps, s.objs ++ [b]⟩
/-- .. at place a, ahead of the tail at place k -/
def tailA {β : Type} (_k _a _d : Nat) (m : Option β) : Option β := m
section
variable {P : Program} {n0 n : Nat} {Q : AX → AS → Prop} {E : AV → List Obj → Prop} {β : Type} {m : Option β} {Φ : β → Prop} {o : List (Nat × AV)} {objs : List Obj}
theorem M_regA {id k a d0 : Nat} {l pre1 pre2 tl : List Oper} {e ty : TypeId} {pos : String} {af : Array Edge} {i : TI} {cells : List AV} (e1 : P.follows .mixedOrders = true) (e2 : lexA l.toArray k a d0 n = true)
    (h1 : l.take a = pre1) (ha : l[a]? = some ⟨some d0, .alloc e, ty, pos, af, none⟩) (h2 : (l.take k).drop (a + 1) = pre2) (h3 : l.drop k = tl) (hb : belowObjs objs.length objs = true) (hids : idsO objs.length o = true) (ht : ti P e = some i) (hz : i.zero.map .v = cells)
    (h : H m Φ (rg .c P l pre1 (st n o objs) (fun s1 => rg .c P l pre2 (s1.put (some d0) (.ptr s1.objs.length 0)) (fun s2 => AV.idsLtL objs.length (s2.tmps.set d0 .any) = true ∧ rg .p P l tl (appO s2 (.box cells)) (Q .normal) (fun _ _ => False)) E) E)) :
    H (tailA k a d0 m) Φ (awp P n0 (.region id l.toArray true) (st n o objs) Q E) := by
  intro y hy hp
  have hh := h y hy hp
  refine awp_regionA e1 ⟨k, a, d0, cells, by rw [show (st n o objs).tmps.length = n from ov_length n o]; exact e2, hb, idsO_L hids, ?_⟩
  have e2' := e2
  simp only [lexA, Bool.and_eq_true] at e2'
  have hak : a < k := Nat.le_of_ble_eq_true e2'.1.1.1.1.2
  have hkl : k ≤ l.length := by have := Nat.le_of_ble_eq_true e2'.1.1.1.1.1; simpa using this
  have hpl : pre1.length = a := by rw [← h1]; simp; omega
  have hsplit : l.toArray.toList.take k = pre1 ++ ⟨some d0, .alloc e, ty, pos, af, none⟩ :: pre2 := by
    show l.take k = _
    rw [← h1, ← h2]
    have e3 : (l.take k).take a = l.take a := by rw [List.take_take]; congr 1; omega
    have e4 : (l.take k)[a]? = some ⟨some d0, .alloc e, ty, pos, af, none⟩ := by rw [List.getElem?_take, if_pos hak]; exact ha
    rw [← e3]
    have := List.take_append_drop a (l.take k)
    conv => lhs; rw [← this]
    congr 1
    obtain ⟨hlt, hget⟩ := List.getElem?_eq_some_iff.1 e4
    rw [List.drop_eq_getElem_cons hlt, hget]
  rw [hsplit]
  refine aopsC_M pre1 0 _ (fun j hj => by omega) ?_
  refine aopsC_mono ?_ pre1 _ hh
  intro s1 hs1
  unfold aopsM
  rw [if_pos (by omega)]
  refine ⟨.ptr s1.objs.length 0, ⟨rfl, ?_⟩, ?_⟩
  · unfold aop; dsimp only
    rw [ht]
    subst hz
    exact .inl rfl
  · rw [← List.append_nil pre2]
    refine aopsC_M pre2 _ _ (fun j hj => by omega) ?_
    refine aopsC_mono ?_ pre2 _ hs1
    intro s2 hs2
    unfold aopsM
    subst h3
    exact hs2
theorem M_alst {ops l : List Oper} {K : AS → Prop} {d k : Nat} (hk : objs.length = k) (h : H m Φ (rg .c P ops l (st n (oc d (.ptr k 0) o) objs) K E)) : H m Φ (rg .c P ops l (AS.put (st n o objs) (some d) (.ptr (AS.objs (st n o objs)).length 0)) K E) := by
  subst hk
  rw [show AS.put (st n o objs) (some d) (.ptr (AS.objs (st n o objs)).length 0) = st n (oc d (.ptr objs.length 0) o) objs from put_ov n o objs d _]
  exact h
theorem M_ids {k d0 : Nat} {B : Prop} (h1 : idsO k (ofil (fun d => decide (d = d0)) o) = true) (h : H m Φ B) : H m Φ (AV.idsLtL k ((AS.tmps (st n o objs)).set d0 .any) = true ∧ B) := by
  intro y hy hp
  refine ⟨?_, h y hy hp⟩
  have h2 := idsO_one (n := n) h1
  have e : (AS.tmps (st n o objs)).set d0 .any = ov n (oc d0 .any o) := congrArg AS.tmps (put_ov n o objs d0 .any)
  rw [e]; exact h2
theorem M_apst {ops l : List Oper} {K : AS → Prop} {b : Obj} {objs' : List Obj} (hk : objs ++ [b] = objs') (h : H m Φ (rg .p P ops l (st n o objs') K E)) : H m Φ (rg .p P ops l (appO (st n o objs) b) K E) := by
  subst hk; exact h
end
end Go.Proofs.YtnlbgjlbbdngaaaDoor.AM
