/- Several results at once. -/
import Derived.Test.YtickejlolpoboaaAm20
set_option linter.all false
namespace Go.Proofs.Ytickejlolpoboaa.AM
open Go
theorem Weak.tup {n0 : Nat} {xs ys : List AV} {objs : List Obj} (h : AV.leL xs ys) : Weak n0 ⟨[.tup xs], objs⟩ ⟨[.tup ys], objs⟩ := by
  intro G0 w0 G a w hn hf
  refine ⟨G, hf.step, hf.sat.mem, ?_, hf.sat.defers⟩
  refine ⟨hf.sat.tmps.1, fun i x v hx hv => ?_⟩
  match i with
  | 0 =>
    simp only [List.getElem?_cons_zero, Option.some.injEq] at hx
    subst hx
    have := hf.sat.tmps.2 0 _ v rfl hv
    cases this with
    | tup _ vs hl hc =>
      obtain ⟨h1, h2⟩ := AV.leL_sound h ⟨hl, hc⟩
      exact .tup _ vs h1 h2
  | n + 1 => simp at hx
theorem ret_funT {P : Program} {rs : List ResultVar} {s : AS} {xs ys : List AV} {o0 : List Obj} (h1 : resAV P s rs = some (.tup xs)) (extra : List Obj) (h2 : AV.leL xs ys) (h3 : s.objs = o0 ++ extra) (h4 : AV.idsLtL o0.length ys = true) (h5 : belowObjs o0.length o0 = true) :
    bodyQ P 0 rs (fun ae o => ae = .ret (.tup ys) ∧ o = o0) .ret s :=
  ⟨.tup xs, h1, .tup ys, o0, (Weak.tup h2).trans (Weak.to extra ⟨AV.le_refl _, trivial⟩ h3 (Nat.zero_le _) (by simp [AV.idsLtL, AV.idsLt, h4]) h5), rfl, rfl⟩
section
variable {P : Program} {ops rest : List Oper} {o : Oper} {s : AS} {K : AS → Prop} {E : AV → List Obj → Prop}
/-- One operation at a time, what follows behind a variable. -/
theorem aops_step (h : ∀ K' : AS → Prop, (∀ s', aops P ops rest s' K E → K' s') → guardAV P ops s o K' (aop P o s K' E) (K' (s.put o.dst .any))) : aops P ops (o :: rest) s K E := h _ (fun _ h => h)
theorem aops_nil (h : K s) : aops P ops [] s K E := h
theorem kapp2 {K' : AS → Prop} (hK : ∀ s', aops P ops rest s' K E → K' s') (h : aops P ops rest s K E) : K' s := hK s h
end
theorem callg {P : Program} {f : Nat} {args : List AV} {objs : List Obj} {K E : AV → List Obj → Prop} (h : callAV P f args objs K E) : callAV P f args objs K E := h
end Go.Proofs.Ytickejlolpoboaa.AM
