/- Contracts that give one answer; cuts. -/
import Derived.Test.YtickejlolpoboaaAm18
set_option linter.all false
namespace Go.Proofs.Ytickejlolpoboaa.AM
open Go

/-- A function that answers x, and leaves the objects o0 behind. -/
def Fun (P : Program) (f : Nat) (args : List AV) (x : AV) (o0 : List Obj) : Prop := ACall P f args [] (fun ae o => ae = .ret x ∧ o = o0)

section
variable {P : Program} {n0 : Nat} {Q : AX → AS → Prop} {E : AV → List Obj → Prop}

theorem call_fun {f : Nat} {args args' : List AV} {x : AV} {objs o0 : List Obj} {K : AV → List Obj → Prop} (hen : enters P f = true) (h : Fun P f args' x o0) (ha : AV.idsLtL 0 args' = true)
    (hle : AV.leL (AV.stripL args) args') (hk : K (x.shift (AV.pubL objs args).length) (AV.pubL objs args ++ o0.map (Obj.shift (AV.pubL objs args).length))) : callAV P f args objs K E := by
  refine ⟨hen, ACall.strip (ACall.le hle (ACall.mono (ACall.frame h ha _) ?_))⟩
  rintro ae o ⟨ae0, o0', ⟨rfl, rfl⟩, rfl, rfl⟩
  exact hk

theorem call_rel {f : Nat} {args args' : List AV} {R : AEnd → List Obj → Prop} {objs : List Obj} {K : AV → List Obj → Prop} (hen : enters P f = true) (h : ACall P f args' [] R) (ha : AV.idsLtL 0 args' = true)
    (hle : AV.leL (AV.stripL args) args') (hk : ∀ ae o0, R ae o0 → callK K E (ae.shift (AV.pubL objs args).length) (AV.pubL objs args ++ o0.map (Obj.shift (AV.pubL objs args).length))) : callAV P f args objs K E := by
  refine ⟨hen, ACall.strip (ACall.le hle (ACall.mono (ACall.frame h ha _) ?_))⟩
  rintro ae o ⟨ae0, o0', hR, rfl, rfl⟩
  exact hk ae0 o0' hR

theorem awp_cut {x y : Code} {tmps : List AV} {objs : List Obj} (ws : List Nat) (vals : List (Nat × AV)) (objs' : List Obj)
    (hx : ∀ K : AS → Prop, (∀ s', Weak n0 s' ⟨updL (killL tmps ws) vals, objs'⟩ → K s') → awp P n0 x ⟨tmps, objs⟩ (kQ K Q) E)
    (hy : awp P n0 y ⟨updL (killL tmps ws) vals, objs'⟩ Q E) : awp P n0 (.seq x y) ⟨tmps, objs⟩ Q E :=
  awp_seq fun K hK => hx K fun s' hw => hK s' _ hw hy

theorem awp_loopU {X : Type} {tmps : List AV} {objs : List Obj} (ws : List Nat) (vals : X → List (Nat × AV)) (ob : X → List Obj) (inv : X → Prop) (μ : X → Nat) (x0 : X) {c : Code} (h0 : inv x0)
    (hw : Weak n0 ⟨tmps, objs⟩ ⟨updL (killL tmps ws) (vals x0), ob x0⟩)
    (hr : ∀ x, inv x → awp P n0 c ⟨updL (killL tmps ws) (vals x), ob x⟩ (loopQ n0 (IX (fun x => ⟨updL (killL tmps ws) (vals x), ob x⟩) inv μ) (μ x) Q) E) : awp P n0 (.loop c) ⟨tmps, objs⟩ Q E :=
  awp_loop (fun x => ⟨updL (killL tmps ws) (vals x), ob x⟩) inv μ x0 h0 hw hr

theorem ret_fun {rs : List ResultVar} {s : AS} {x0 x : AV} {o0 : List Obj} (h1 : resAV P s rs = some x0) (extra : List Obj) (h2 : x0.le x) (h3 : s.objs = o0 ++ extra) (h4 : x.idsLt o0.length = true) (h5 : belowObjs o0.length o0 = true) :
    bodyQ P 0 rs (fun ae o => ae = .ret x ∧ o = o0) .ret s :=
  ⟨x0, h1, x, o0, Weak.to extra ⟨h2, trivial⟩ h3 (Nat.zero_le _) (by simp [AV.idsLtL, h4]) h5, rfl, rfl⟩

theorem ret_fun_n {rs : List ResultVar} {s : AS} {x0 x : AV} {o0 : List Obj} (h1 : resAV P s rs = some x0) (extra : List Obj) (h2 : x0.le x) (h3 : s.objs = o0 ++ extra) (h4 : x.idsLt o0.length = true) (h5 : belowObjs o0.length o0 = true) :
    bodyQ P 0 rs (fun ae o => ae = .ret x ∧ o = o0) .normal s :=
  ⟨x0, h1, x, o0, Weak.to extra ⟨h2, trivial⟩ h3 (Nat.zero_le _) (by simp [AV.idsLtL, h4]) h5, rfl, rfl⟩

theorem kapp {y : Code} {K : AS → Prop} (hK : ∀ s' s1, Weak n0 s' s1 → awp P n0 y s1 Q E → K s') {s : AS} (h : awp P n0 y s Q E) : K s := hK _ _ (Weak.refl _ _) h

theorem awp_condg {c : Operand} {t e : Code} {s : AS} (h : awp P n0 (.cond c t e) s Q E) : awp P n0 (.cond c t e) s Q E := h
theorem loopQ_exit {I : Nat → AS → Prop} {n i : Nat} {s : AS} : loopQ n0 I n Q (.exit i) s = Q (.exit i) s := rfl
theorem loopQ_ret {I : Nat → AS → Prop} {n : Nat} {s : AS} : loopQ n0 I n Q .ret s = Q .ret s := rfl
theorem w64 {n : Int} (h : -9223372036854775808 ≤ n ∧ n ≤ 9223372036854775807) : IntKind.i64.wrap n = n := IntWalk.i64_in n h
theorem le_any' (x : AV) : AV.le x .any = True := eq_true (AV.le_any x)
theorem le_refl' (x : AV) : AV.le x x = True := eq_true (AV.le_refl x)

/-- A contract, from a body. -/
theorem Fun.of_awp {f : Nat} {fn : Func} {c : Code} {args : List AV} {x : AV} {o0 : List Obj} (hf : P.funcs[f]? = some fn) (hb : fn.body = some c)
    (h : awp P 0 c ⟨args ++ List.replicate (fn.ntmps - args.length) .any, []⟩ (bodyQ P 0 fn.results.toList (fun ae o => ae = .ret x ∧ o = o0)) (fun _ _ => False)) : Fun P f args x o0 :=
  ACall.of_awp hf hb (by
    have e : (fun (x' : AV) (objs' : List Obj) => (AEnd.pan x' = AEnd.ret x ∧ objs' = o0)) = (fun _ _ => False) := by
      funext x' o; simp
    rw [e]; exact h)
end

end Go.Proofs.Ytickejlolpoboaa.AM
