/- Operations that only read. -/
import Derived.Test.YtickejlolpoboaaAm15
set_option linter.all false
namespace Go.Proofs.Ytickejlolpoboaa.AM
open Go

def isQ : Op → Bool
  | .move _ | .assign _ | .pick .. | .nilCheck _ | .build .. | .load .. | .binOp .. | .unOp .. | .convert .. | .slice .. | .fieldAddr .. | .field .. | .indexAddr .. | .index .. | .lookup .. | .extract .. => true
  | .call c => (match c.callee with | .builtin b => (match b with | .len => true | .min => true | .max => true | _ => false) | _ => false)
  | _ => false

def ReadOk (K : AS → Prop) (G : Ghost) (w : World) (a' : Act) : Prop := ∃ s', K s' ∧ Sat G s' a' w

section
variable {P : Program} {o : Oper} {a : Act} {w : World} {G : Ghost} {s : AS} {K : AS → Prop}

theorem op_value' {x : Sem Value} {r : Value} {next : Act → Prop} (he : execOp a.eval o = (do pure (.value (← x)))) (hr : x.run P w = .ok r w) (h : next (a.put o.dst r)) :
    ∃ u, (execOp a.eval o).run P w = .ok (.value u) w ∧ next (a.put o.dst u) := by
  refine ⟨r, ?_, h⟩
  rw [he]
  simp only [Sem.run_bind, hr, Result.andThen_ok, Sem.run_pure]

theorem case_value' {x : Sem Value} (hs : Sat G s a w) (he : execOp a.eval o = (do pure (.value (← x))))
    (h : ∃ r y, x.run P w = .ok r w ∧ Conc G w y r ∧ K (s.put o.dst y)) : ∃ u, (execOp a.eval o).run P w = .ok (.value u) w ∧ ReadOk K G w (a.put o.dst u) := by
  obtain ⟨r, y, h1, h2, h3⟩ := h
  exact op_value' he h1 ⟨_, h3, hs.put0 o.dst h2⟩
end

theorem builtinQ_sound {P : Program} {G : Ghost} {objs : List Obj} {w : World} {b : Builtin} {ts : Array TypeId} {xs : List AV} {vs : List Value} {k : AV → List Obj → Prop} (ty : TypeId) (consts : Array Bool)
    (hq : (match b with | .len => true | .min => true | .max => true | _ => false) = true) (h : builtinAV P b ts.toList xs objs k) (hm : Mem G objs w) (hc : ConcL G w xs vs) :
    ∃ x : Sem Value, builtin b ts ty consts vs.toArray = (do pure (.value (← x))) ∧ ∃ r y, x.run P w = .ok r w ∧ Conc G w y r ∧ k y objs := by
  obtain ⟨ts⟩ := ts
  simp only at h
  cases b <;> simp only [builtinAV] at h <;> first | exact h.elim | (simp at hq; done) | skip
  case len =>
    split at h
    · rename_i t x
      obtain ⟨hl, hc⟩ := hc
      match vs, hl, hc with
      | [u], _, hc =>
        obtain ⟨r, y, h1, h2, h3⟩ := len_sound (P := P) #[t] ty h (hc 0 _ u rfl rfl) rfl
        exact ⟨_, rfl, r, y, h1, h2, h3⟩
    · exact h.elim
  case max =>
    obtain ⟨r, y, h1, h2, h3⟩ := minmax_sound (P := P) ts.toArray ty h hc
    exact ⟨_, rfl, r, y, h1, h2, h3⟩
  case min =>
    obtain ⟨r, y, h1, h2, h3⟩ := minmax_sound (P := P) ts.toArray ty h hc
    exact ⟨_, rfl, r, y, h1, h2, h3⟩

theorem aopQ_sound {P : Program} {o : Oper} {G : Ghost} {s : AS} {a : Act} {w : World} {K : AS → Prop} {E : AV → List Obj → Prop} (hq : isQ o.op = true)
    (h : aop P o s K E) (hs : Sat G s a w) : ∃ u, (execOp a.eval o).run P w = .ok (.value u) w ∧ ReadOk K G w (a.put o.dst u) := by
  unfold aop at h
  split at h
  · rename_i x ho
    refine op_value' (x := pure (a.eval x)) (by simp [execOp, ho]) rfl ⟨_, h, hs.put0 o.dst (hs.eval x)⟩
  · rename_i x ho
    refine op_value' (x := pure (a.eval x)) (by simp [execOp, ho]) rfl ⟨_, h, hs.put0 o.dst (hs.eval x)⟩
  · rename_i c x y ho
    obtain ⟨t, r, hcv, hr, hk⟩ := pick_sound h (hs.eval c) (hs.raw x) (hs.raw y)
    refine op_value' (x := pure (if t then a.eval x else a.eval y)) ?_ rfl ⟨_, hk, ?_⟩
    · cases t <;> simp [execOp, ho, hcv, asBool]
    · refine hs.put0 o.dst ?_
      rw [← hr]
      exact .v _ rfl
  · rename_i x ho
    obtain ⟨hk, hsh⟩ := nilCheck_sound h (hs.eval x)
    refine op_value' (x := pure (a.eval x)) ?_ rfl ⟨_, hk, hs.put0 o.dst (hs.eval x)⟩
    rcases hsh with ⟨ad, hu⟩ | ⟨f, p, q, hu⟩
    · simp [execOp, ho, hu]
    · simp [execOp, ho, hu]
  · rename_i e ho
    simp [isQ, ho] at hq
  · rename_i e x ho
    simp [isQ, ho] at hq
  · rename_i t parts ho
    have := build_sound (P := P) h (vparts := parts.toList.map fun p => (p.1, a.eval p.2)) (by simp) (evalParts hs parts.toList)
    rw [← List.map_toArray, Array.toArray_toList] at this
    exact case_value' hs (by simp [execOp, ho]) this
  · rename_i t len parts ho
    simp [isQ, ho] at hq
  · rename_i t x ho
    exact case_value' hs (by simp only [execOp, ho]) (load_sound (P := P) h hs.mem (hs.eval x))
  · rename_i t x y ho
    simp [isQ, ho] at hq
  · rename_i op t x y ty ho
    exact case_value' hs (by simp only [execOp, ho]) (bin_sound (P := P) x y h (hs.eval x) (hs.eval y))
  · rename_i op t x ho
    exact case_value' hs (by simp only [execOp, ho]) (un_sound (P := P) h (hs.eval x))
  · rename_i src dst x ho
    exact case_value' hs (by simp only [execOp, ho]) (conv_sound (P := P) h (hs.eval x))
  · rename_i fn first cap ho
    simp [isQ, ho] at hq
  · rename_i t l c ho
    simp [isQ, ho] at hq
  · rename_i t x lo hi mx ho
    exact case_value' hs (by simp only [execOp, ho]) (slice_sound (P := P) h (hs.eval x) (evalO hs lo) (evalO hs hi) (evalO hs mx))
  · rename_i t x f ho
    exact case_value' hs (by simp only [execOp, ho]) (fieldAddr_sound (P := P) h (hs.eval x))
  · rename_i t x f ho
    exact case_value' hs (by simp only [execOp, ho]) (field_sound (P := P) h (hs.eval x))
  · rename_i t x i ho
    exact case_value' hs (by simp only [execOp, ho]) (indexAddr_sound (P := P) h (hs.eval x) (hs.eval i))
  · rename_i t x i ho
    exact case_value' hs (by simp only [execOp, ho]) (index_sound (P := P) h (hs.eval x) (hs.eval i))
  · rename_i t r ho
    simp [isQ, ho] at hq
  · rename_i t m k ok ho
    exact case_value' hs (by simp only [execOp, ho]) (lookup_sound (P := P) h hs.mem (hs.eval m) (hs.eval k))
  · rename_i t m k x ho
    simp [isQ, ho] at hq
  · rename_i x i ho
    exact case_value' hs (by simp only [execOp, ho]) (extract_sound (P := P) h (hs.eval x))
  · rename_i c ho
    split at h
    · rename_i b hb
      obtain ⟨x, hx, r, y, h1, h2, h3⟩ := builtinQ_sound (P := P) o.type (c.args.map fun | .const _ => true | _ => false) (by simpa [isQ, ho, hb] using hq) h hs.mem (evalList hs c.args.toList)
      rw [← List.map_toArray, Array.toArray_toList] at hx
      refine case_value' (x := x) hs ?_ ⟨r, y, h1, h2, by cases hd : o.dst <;> simpa [AS.put, hd] using h3⟩
      simp only [execOp, ho, resolve, hb]
      exact hx
    · rename_i f hf
      simp [isQ, ho, hf] at hq
    · exact h.elim
  · exact h.elim

end Go.Proofs.Ytickejlolpoboaa.AM
