/- A part of the proof: X14, X15, X16, X17, X18, X19, X20, X21, X22, X23, X24, X25, X26. -/
import Derived.Test.YtchlojabjmlodaaDoorX1
import Derived.Lib.Bytealg
import Derived.Lib.Overlaps
import Derived.Lib.AppendZerosOnto
set_option linter.all false
/- Ranges over maps, for the models: whatever the order of the entries. -/
namespace Go.Proofs.YtchlojabjmlodaaDoor.AM
open Go

def rngIter {σ ε β : Type} (step : σ → (ε → Option (σ ⊕ β)) × Option (σ ⊕ β)) : List ε → σ → Option β
  | [], q => (step q).2.bind (Sum.elim (fun _ => none) some)
  | e :: es, q => ((step q).1 e).bind (Sum.elim (rngIter step es) (fun _ => none))
/-- A round, apart from stamps: these stand in it for the proof alone. -/
def bareR {σ ε β : Type} (step : List Nat → Nat → List Nat → σ → (Nat → ε → Option (σ ⊕ β)) × Option (σ ⊕ β)) (q : σ) : (ε → Option (σ ⊕ β)) × Option (σ ⊕ β) := ((step [] 0 [] q).1 0, (step [] 0 [] q).2)
/-- A round that hangs on no stamp. -/
structure NoStamp {σ ε β : Type} (step : List Nat → Nat → List Nat → σ → (Nat → ε → Option (σ ⊕ β)) × Option (σ ⊕ β)) : Prop where
  one : ∀ zb zc zs zi q e, (step zb zc zs q).1 zi e = (step [] 0 [] q).1 0 e
  two : ∀ zb zc zs q, (step zb zc zs q).2 = (step [] 0 [] q).2
open Classical in
noncomputable def rangeM {σ ε β : Type} (_ph : σ → List (Nat × AV)) (_ob : List Nat → Nat → List Nat → σ → List Obj) (es : List ε) (step : List Nat → Nat → List Nat → σ → (Nat → ε → Option (σ ⊕ β)) × Option (σ ⊕ β)) (q : σ) : Option β :=
  if h : ∃ r, NoStamp step ∧ ∀ es' : List ε, es'.Perm es → rngIter (bareR step) es' q = some r then some (Classical.choose h) else none
theorem rangeM_spec {σ ε β : Type} {ph : σ → List (Nat × AV)} {ob : List Nat → Nat → List Nat → σ → List Obj} {es : List ε} {step : List Nat → Nat → List Nat → σ → (Nat → ε → Option (σ ⊕ β)) × Option (σ ⊕ β)} {q : σ} {r : β} (h : rangeM ph ob es step q = some r) :
    NoStamp step ∧ ∀ es' : List ε, es'.Perm es → rngIter (bareR step) es' q = some r := by
  unfold rangeM at h
  split at h
  · rename_i hx
    cases h
    exact Classical.choose_spec hx
  · cases h
/-- What a range answers: what every order gives. -/
theorem rangeM_eq {σ ε β : Type} {ph : σ → List (Nat × AV)} {ob : List Nat → Nat → List Nat → σ → List Obj} {es : List ε} {step : List Nat → Nat → List Nat → σ → (Nat → ε → Option (σ ⊕ β)) × Option (σ ⊕ β)} {q : σ} {r : β} (hs : NoStamp step) (h : ∀ es' : List ε, es'.Perm es → rngIter (bareR step) es' q = some r) :
    rangeM ph ob es step q = some r := by
  have hx : ∃ r, NoStamp step ∧ ∀ es' : List ε, es'.Perm es → rngIter (bareR step) es' q = some r := ⟨r, hs, h⟩
  unfold rangeM
  rw [dif_pos hx]
  have := (Classical.choose_spec hx).2 es (List.Perm.refl _)
  rw [h es (List.Perm.refl _)] at this
  exact this.symm

/-- The stamps of a map's entries. -/
structure Stamps (bs : List Nat) (c n : Nat) : Prop where
  len : bs.length = n
  nodup : bs.Nodup
  lt : ∀ b ∈ bs, b < c

def rngM {σ ε β : Type} (p : (Nat → ε → Option (σ ⊕ β)) × Option (σ ⊕ β)) : Option ((Nat → ε → Option (σ ⊕ β)) × Option (σ ⊕ β)) := some p
/-- What is known of a round. -/
structure PR {σ ε β : Type} (es : List ε) (bs seen : List Nat) (Ψ : Nat → σ → Prop) (Φ : β → Prop) (p : (Nat → ε → Option (σ ⊕ β)) × Option (σ ⊕ β)) : Prop where
  step : ∀ (i b : Nat) (e : ε), bs[i]? = some b → es[i]? = some e → b ∉ seen → ∃ z, p.1 b e = some z ∧ Sum.elim (Ψ b) (fun _ => False) z
  over : (∀ b ∈ bs, b ∈ seen) → ∃ z, p.2 = some z ∧ Sum.elim (fun _ => False) Φ z

section
variable {P : Program} {n0 n : Nat} {Q : AX → AS → Prop} {E : AV → List Obj → Prop} {σ ε β : Type} {Φ : β → Prop}
theorem R_range {ph : σ → List (Nat × AV)} {ob : List Nat → Nat → List Nat → σ → List Obj} {es : List ε} {step : List Nat → Nat → List Nat → σ → (Nat → ε → Option (σ ⊕ β)) × Option (σ ⊕ β)} {q0 : σ} {bs : List Nat} {cl : Nat} {c : Code} {s : AS} (hb : Stamps bs cl es.length)
    (hw : Weak n0 s ⟨ov n (ph q0), ob bs cl [] q0⟩)
    (h : ∀ (Ψ : Nat → σ → Prop) (I : Nat → AS → Prop) (kk : Nat) (q : σ) (seen : List Nat), (∀ b, b ∈ bs → b ∉ seen → ∀ x', Ψ b x' → ∀ s', Weak n0 s' ⟨ov n (ph x'), ob bs cl (seen ++ [b]) x'⟩ → loopQ n0 I kk Q .normal s') →
      H (rngM (step bs cl seen q)) (fun p => PR es bs seen Ψ Φ p) (awp P n0 c ⟨ov n (ph q), ob bs cl seen q⟩ (loopQ n0 I kk Q) E)) :
    H (rangeM ph ob es step q0) Φ (awp P n0 (.loop c) s Q E) := by
  intro y hy hp
  obtain ⟨hns, hall⟩ := rangeM_spec hy
  -- stamps and entries
  let zs : List (Nat × ε) := bs.zip es
  have hz1 : zs.map (·.1) = bs := by
    show (bs.zip es).map Prod.fst = bs
    rw [List.map_fst_zip (by rw [hb.len]; exact Nat.le_refl _)]
  have hz2 : zs.map (·.2) = es := by
    show (bs.zip es).map Prod.snd = es
    rw [List.map_snd_zip (by rw [hb.len]; exact Nat.le_refl _)]
  let Inv : List Nat → σ → Prop := fun seen q => ∃ sp : List (Nat × ε), sp.map (·.1) = seen ∧ (∃ rest, (sp ++ rest).Perm zs) ∧ ∀ rest, (sp ++ rest).Perm zs → rngIter (bareR step) (rest.map (·.2)) q = some y
  refine ⟨fun m s' => ∃ seen q, Inv seen q ∧ m = zs.length - seen.length ∧ s' = ⟨ov n (ph q), ob bs cl seen q⟩, ⟨_, _, hw, [], q0, ⟨[], rfl, ⟨zs, List.Perm.refl _⟩, fun rest hr => ?_⟩, rfl, rfl⟩, ?_⟩
  · refine hall _ ?_
    rw [← hz2]
    exact List.Perm.map _ (by simpa using hr)
  · rintro m s' ⟨seen, q, ⟨sp, hsp, ⟨rest0, hr0⟩, hI⟩, rfl, rfl⟩
    have hseen : ∀ b ∈ seen, b ∈ bs := by
      intro b hb'
      rw [← hsp] at hb'
      obtain ⟨p, hp', rfl⟩ := List.mem_map.1 hb'
      have : p ∈ zs := hr0.mem_iff.1 (List.mem_append_left _ hp')
      rw [← hz1]; exact List.mem_map_of_mem this
    refine h (fun b q' => Inv (seen ++ [b]) q' ∧ b ∈ bs ∧ b ∉ seen) (fun m s' => ∃ seen q, Inv seen q ∧ m = zs.length - seen.length ∧ s' = ⟨ov n (ph q), ob bs cl seen q⟩) _ q seen ?_ (step bs cl seen q) rfl ⟨?_, ?_⟩
    · rintro b hb1 hb2 x' ⟨hx, _, _⟩ s' hw'
      refine ⟨_, _, hw', ?_, seen ++ [b], x', hx, rfl, rfl⟩
      -- there is one more than was seen
      obtain ⟨sp', hsp', ⟨r', hr'⟩, _⟩ := hx
      have h1 := hr'.length_eq
      have h2 : sp'.length = (seen ++ [b]).length := by rw [← hsp']; simp
      simp only [List.length_append, List.length_cons, List.length_nil] at h1 h2 ⊢
      omega
    · intro i b e hib hie hbs
      have hmem : (b, e) ∈ zs := by
        have : zs[i]? = some (b, e) := by
          show (bs.zip es)[i]? = _
          rw [List.getElem?_zip_eq_some]; exact ⟨hib, hie⟩
        exact List.mem_of_getElem? this
      have hmr : (b, e) ∈ rest0 := by
        rcases List.mem_append.1 (hr0.mem_iff.2 hmem) with h | h
        · exact absurd (by rw [← hsp]; exact List.mem_map_of_mem h) hbs
        · exact h
      obtain ⟨r1, r2, hr⟩ := List.append_of_mem hmr
      have hp1 : (sp ++ (b, e) :: (r1 ++ r2)).Perm zs := by
        refine List.Perm.trans ?_ hr0
        rw [hr]
        exact List.Perm.append_left sp (List.perm_middle).symm
      have h1 := hI _ hp1
      simp only [List.map_cons, rngIter, bareR] at h1
      rw [hns.one bs cl seen b q e]
      cases hz : (step [] 0 [] q).1 0 e with
      | none => rw [hz] at h1; cases h1
      | some z =>
        rw [hz] at h1
        cases z with
        | inr r => simp at h1
        | inl q' =>
          refine ⟨.inl q', rfl, ⟨sp ++ [(b, e)], by simp [hsp], ⟨r1 ++ r2, by simpa using hp1⟩, fun rest hrest => ?_⟩, List.mem_of_getElem? hib, hbs⟩
          have h2 := hI ((b, e) :: rest) (by simpa using hrest)
          simp only [List.map_cons, rngIter, bareR, hz] at h2
          simpa using h2
    · intro hover
      have hrest : rest0 = [] := by
        cases rest0 with
        | nil => rfl
        | cons p r =>
          exfalso
          have hpz : p ∈ zs := hr0.mem_iff.1 (by simp)
          have hpb : p.1 ∈ bs := by rw [← hz1]; exact List.mem_map_of_mem hpz
          have hps := hover _ hpb
          have hnd : ((sp ++ p :: r).map (·.1)).Nodup := by
            have := (List.Perm.map (·.1) hr0).nodup_iff.2 (by rw [hz1]; exact hb.nodup)
            exact this
          rw [List.map_append, List.map_cons] at hnd
          have := (List.nodup_append.1 hnd).2.2 p.1 (by rw [hsp]; exact hps) p.1 (by simp)
          exact this rfl
      subst hrest
      have h1 := hI [] hr0
      simp only [List.map_nil, rngIter, bareR] at h1
      rw [hns.two bs cl seen q]
      cases hz : (step [] 0 [] q).2 with
      | none => rw [hz] at h1; cases h1
      | some z =>
        rw [hz] at h1
        cases z with
        | inl q' => simp at h1
        | inr r =>
          simp at h1
          subst h1
          exact ⟨_, rfl, hp⟩
end

section
variable {P : Program} {β : Type} {m : Option β} {Φ : β → Prop} {ops rest : List Oper} {K : AS → Prop} {E : AV → List Obj → Prop} {n d : Nat} {o : List (Nat × AV)} {objs : List Obj} {ty t : TypeId} {pos : String} {af : Array Edge} {x : Operand}
theorem M_range {κ α : Type} {kv : κ → Value} {av : α → AV} {es : List (κ × α)} {i : TI} {kt et : TypeId} {k kk : Nat} {ob : List Nat → Nat → List Obj} (ht : ti P t = some i) (hd : i.desc = .map kt et) (hx : evo n o x = .map k) (ho : objs[k]? = some (.map (mp kv av es))) (hk : objs.length = kk)
    (hob : ∀ bs cl, objs.set k (.mapB bs cl (mp kv av es)) ++ [.iter k cl []] = ob bs cl)
    (h : ∀ bs cl, Stamps bs cl es.length → H m Φ (rg .p P ops rest (st n (oc d (.ptr kk 0) o) (ob bs cl)) K E)) : H m Φ (rg .p P ops (⟨some d, .range t x, ty, pos, af, none⟩ :: rest) (st n o objs) K E) := by
  intro y hy hp
  show aops P ops (_ :: rest) (st n o objs) K E
  simp only [aops, guardAV]
  unfold aop; dsimp only
  have ee : (st n o objs).eval x = .map k := by rw [show (st n o objs).eval x = evo n o x from eval_st n o objs x]; exact hx
  rw [ee]
  have hspec := ht
  unfold rangeAV
  simp only [hspec, hd, ho]
  intro bs cl h1 h2 h3
  rw [hob bs cl, hk]
  have := h bs cl ⟨by rw [h1]; simp [mp], h2, h3⟩ y hy hp
  rw [show AS.put (st n o objs) (some d) (.ptr kk 0) = st n (oc d (.ptr kk 0) o) objs from put_ov n o objs d _]
  exact this
theorem M_next {n0 : Nat} {Q : AX → AS → Prop} {I : Nat → AS → Prop} {kk : Nat} {σ κ α : Type} {kv : κ → Value} {av : α → AV} {es : List (κ × α)} {step : (Nat → (κ × α) → Option (σ ⊕ β)) × Option (σ ⊕ β)} {bs seen : List Nat} {cl k mi : Nat} {Ψ : Nat → σ → Prop} {ph : σ → List (Nat × AV)} {ob : Nat → σ → List Obj} {ob2 : Nat → List Obj}
    (hx : evo n o x = .ptr k 0) (hi : objs[k]? = some (.iter mi cl seen)) (hm : objs[mi]? = some (.mapB bs cl (mp kv av es)))
    (hN : ∀ b, b ∈ bs → b ∉ seen → ∀ x', Ψ b x' → ∀ s', Weak n0 s' ⟨ov n (ph x'), ob b x'⟩ → loopQ n0 I kk Q .normal s')
    (ho : ∀ b, objs.set k (.iter mi cl (seen ++ [b])) = ob2 b)
    (h1 : ∀ (i b : Nat) (e : κ × α), bs[i]? = some b → es[i]? = some e → (∀ x', Ψ b x' → ∀ s', Weak n0 s' ⟨ov n (ph x'), ob b x'⟩ → loopQ n0 I kk Q .normal s') →
      H (step.1 b e) (Sum.elim (Ψ b) (fun _ => False)) (rg .p P ops rest (st n (oc d (.tup [.v (.bool true), AV.ofValue (kv e.1), av e.2]) o) (ob2 b)) K E))
    (h2 : H step.2 (Sum.elim (fun _ => False) Φ) (rg .p P ops rest (st n (oc d (.tup [.v (.bool false)]) o) objs) K E)) :
    H (rngM step) (fun p => PR es bs seen Ψ Φ p) (rg .p P ops (⟨some d, .next x false, ty, pos, af, none⟩ :: rest) (st n o objs) K E) := by
  intro y hy hp
  cases hy
  show aops P ops (_ :: rest) (st n o objs) K E
  simp only [aops, guardAV]
  unfold aop; dsimp only
  have ee : (st n o objs).eval x = .ptr k 0 := by rw [show (st n o objs).eval x = evo n o x from eval_st n o objs x]; exact hx
  rw [ee]
  unfold nextAV
  simp only [hi, hm]
  refine ⟨trivial, trivial, fun hover => ?_, fun i b p hib hie hbs => ?_⟩
  · obtain ⟨z, hz, hq⟩ := hp.over hover
    rw [show AS.put (st n o objs) (some d) (.tup [.v (.bool false)]) = st n (oc d (.tup [.v (.bool false)]) o) objs from put_ov n o objs d _]
    exact h2 z hz hq
  · rw [mp, List.getElem?_map] at hie
    cases he : es[i]? with
    | none => rw [he] at hie; cases hie
    | some e =>
      rw [he] at hie
      cases hie
      obtain ⟨z, hz, hq⟩ := hp.step i b e hib he hbs
      have := h1 i b e hib he (hN b (List.mem_of_getElem? hib) hbs) z hz hq
      rw [show AS.put (st n o objs) (some d) (.tup [.v (.bool true), AV.ofValue (kv e.1), av e.2]) = st n (oc d (.tup [.v (.bool true), AV.ofValue (kv e.1), av e.2]) o) objs from put_ov n o objs d _, ho b]
      exact this
theorem V_entry {κ α : Type} {kv : κ → Value} {av : α → AV} {es : List (κ × α)} {bs seen : List Nat} {cl k mi i b : Nat} {e : κ × α} (hx : evo n o x = .ptr k 0) (hi : objs[k]? = some (.iter mi cl (seen ++ [b]))) (hm : objs[mi]? = some (.mapB bs cl (mp kv av es)))
    (h1 : bs[i]? = some b) (h2 : es[i]? = some e) : Val P (.entry x) n o objs (.tup [AV.ofValue (kv e.1), av e.2]) := by
  refine ⟨?_⟩
  intro p N E hp hN
  unfold aop; rw [hp]; dsimp only
  have ee : (st n o objs).eval x = .ptr k 0 := by rw [show (st n o objs).eval x = evo n o x from eval_st n o objs x]; exact hx
  rw [ee]
  unfold entryAV
  simp only [hi, hm]
  refine ⟨trivial, seen, i, b, (kv e.1, av e.2), rfl, h1, ?_, hN⟩
  rw [mp, List.getElem?_map, h2]; rfl
/-- an element of an array's value -/
theorem V_ixg {y : Operand} {α : Type} {en : α → AV} {l : List α} {i j : TI} {len : Nat} {e : TypeId} {q : IntKind} {k : Int} {r : α} (ht : ti P t = some i) (hd : i.desc = .array len e) (hj : ti P e = some j) (ha : j.isAgg = false) (hs : j.size = 1) (hx : evo n o x = .agg (l.map en)) (hln : l.length = len) (hy : evo n o y = .v (.int q k)) (h0 : 0 ≤ k) (hr : l[k.toNat]? = some r) :
    Val P (.index t x y) n o objs (en r) := by
  have hk : k.toNat < l.length := (List.getElem?_eq_some_iff.1 hr).1
  refine ⟨?_⟩
  intro p N E hp hN
  unfold aop; rw [hp]; dsimp only
  have ee : (st n o objs).eval = evo n o := funext fun x => eval_st n o objs x
  rw [ee, hx, hy]
  unfold indexAV
  simp only [ht, hd, hj]
  refine ⟨h0, by omega, ?_⟩
  unfold partAV
  refine ⟨by rw [List.length_map, hs]; omega, ?_⟩
  rw [if_neg (by simp [ha])]
  refine ⟨by omega, ?_⟩
  rw [hs, Nat.mul_one, List.getD_eq_getElem?_getD, List.getElem?_map, hr]
  exact hN
end

/-! ### What is forgotten between two statements -/
def forgM {β : Type} (_id : Nat) (_ph : List (Nat × AV)) (_ob : List Obj) (m : Option β) : Option β := m
section
variable {P : Program} {n0 n k : Nat} {Q Q1 : AX → AS → Prop} {E : AV → List Obj → Prop} {β : Type} {m : Option β} {Φ : β → Prop} {s : AS} {ph : List (Nat × AV)} {ob : List Obj} {id : Nat} {ops : Array Oper} {dr : Bool} {c : Code}
theorem R_forgS (hw : Weak n0 s ⟨ov n ph, ob⟩) (h : H m Φ (seqQ n0 (fun s' => awp P n0 (.seq (.region id ops dr) c) s' Q1 E) Q .normal ⟨ov n ph, ob⟩)) : H (forgM id ph ob m) Φ (seqQ n0 (fun s' => awp P n0 (.seq (.region id ops dr) c) s' Q1 E) Q .normal s) := by
  intro y hy hp
  exact WeakS.pre hw (h y hy hp)
theorem R_forgR (hw : Weak n0 s ⟨ov n ph, ob⟩) (h : H m Φ (seqQ n0 (fun s' => awp P n0 (.region id ops dr) s' Q1 E) Q .normal ⟨ov n ph, ob⟩)) : H (forgM id ph ob m) Φ (seqQ n0 (fun s' => awp P n0 (.region id ops dr) s' Q1 E) Q .normal s) := by
  intro y hy hp
  exact WeakS.pre hw (h y hy hp)
end
end Go.Proofs.YtchlojabjmlodaaDoor.AM

/- Builders, and texts laid behind octets, for the models. -/
namespace Go.Proofs.YtchlojabjmlodaaDoor.AM
open Go

/-- A text's octets. -/
def octs (s : Str) : List Int := s.map fun b => (b.toNat : Int)
theorem octs_length (s : Str) : (octs s).length = s.length := by simp [octs]
theorem octs_enc (s : Str) : encB s = (octs s).map (cK .u8) := by simp [encB, octs, cK, Function.comp_def]
theorem strOf_octs (s : Str) : strOf (octs s) = s := by
  simp only [strOf, octs, List.map_map]
  conv => rhs; rw [← List.map_id s]
  refine List.map_congr_left fun b _ => ?_
  simp
theorem strOf_append (l l' : List Int) : strOf (l ++ l') = strOf l ++ strOf l' := by simp [strOf]

section
variable {P : Program} {n : Nat} {o : List (Nat × AV)} {objs objs' : List Obj} {x y : Operand} {t xt : TypeId}
/-- 'var b strings.Builder' -/
theorem E_bldN {e b : TypeId} {i : TI} {k k1 : Nat} (ht : ti P e = some i) (hz : i.zero = [.pointer none, .slice none 0 0]) (hk : objs.length = k) (hk1 : objs.length + 1 = k1) (ho : objs ++ [.bld e (.sl [] (.own k1)), .tok 0 1 b true] = objs') :
    Eff P (.alloc e) n o objs (.ptr k 0) objs' := by
  subst ho; subst hk; subst hk1
  refine ⟨?_⟩; intro p N E hp hN; unfold aop; rw [hp]; dsimp only; rw [ht]; exact .inr ⟨hz, b, hN⟩
theorem V_ldB {i : TI} {k e : Nat} {buf : AV} (ht : ti P t = some i) (ha : i.isAgg = false) (hs : i.size = 1) (hx : evo n o x = .ptr k 1) (ho : objs[k]? = some (.bld e buf)) : Val P (.load t x) n o objs buf := by
  refine ⟨?_⟩; intro p N E hp hN; unfold aop; rw [hp]; dsimp only; rw [eval_st, hx]; unfold loadAV; rw [ht]; dsimp only [st]; rw [ho]; exact ⟨rfl, ha, hs, hN⟩
theorem E_stB {i : TI} {k e : Nat} {buf z : AV} (ht : ti P t = some i) (hs : i.size = 1) (hx : evo n o x = .ptr k 1) (hy : cellsAV (evo n o y) = some [z]) (ho : objs[k]? = some (.bld e buf)) (ho' : objs.set k (.bld e z) = objs') : Eff P (.store t x y) n o objs .any objs' := by
  subst ho'
  refine ⟨?_⟩; intro p N E hp hN; unfold aop; rw [hp]; dsimp only; rw [eval_st, eval_st, hx]; unfold storeAV; rw [ht, hy]; dsimp only [st]; rw [ho]; exact ⟨rfl, hs, rfl, hN⟩
section
variable {i j xi : TI} {e : TypeId} {l : List Int} {a : Str} (ht : ti P t = some i) (hd : i.desc = .slice e) (hj : ti P e = some j) (h0 : 0 < j.size ∧ 0 < j.bytes) (hs : j.size = 1) (hxt : ti P xt = some xi) (hxd : isStrD xi.desc = true) (hy : evo n o y = .v (.string (bs a)))
include ht hd hj h0 hs hxt hxd hy
theorem app_str : appRows P t xt e (evo n o y) = some ((octs a).map (cK .u8)) ∧ ∀ r ∈ (octs a).map (cK .u8), r.length = j.size := by
  rw [hy]
  refine ⟨?_, fun r hr => ?_⟩
  · rw [← octs_enc]
    unfold appRows; dsimp only
    rw [hxt, hj, if_pos ⟨by simp [hxd], by simp [hs]⟩]
    rfl
  · obtain ⟨q, _, rfl⟩ := List.mem_map.1 hr; rw [hs]; rfl
theorem E_aps0 {k : Nat} (hx : evo n o x = .v (.slice none 0 0)) (hb : (octs a).length * j.bytes ≤ 140737488355328) (hk : objs.length = k) (ho : objs ++ [.tok (octs a).length j.size e true] = objs') :
    Eff P (.call ⟨.builtin .append, #[x, y], #[t, xt]⟩) n o objs (.sl ((octs a).map (cK .u8)) (.own k)) objs' := by
  subst hk; subst ho
  refine ⟨?_⟩; intro p N E hp hN; unfold aop; rw [hp]; dsimp only [List.map, Array.toList]; rw [eval_st, eval_st, hx]
  obtain ⟨k1, k2⟩ := app_str (n := n) (o := o) ht hd hj h0 hs hxt hxd hy
  unfold builtinAV; dsimp only; unfold appendAV; rw [ht]; dsimp only; rw [hd]; dsimp only; rw [hj]; dsimp only; rw [k1]; dsimp only
  refine ⟨h0.1, h0.2, k2, by rw [List.length_map]; exact hb, ?_⟩
  rw [List.length_map]; exact hN
theorem E_apsx {k : Nat} (hx : evo n o x = .sl (l.map (cK .u8)) .exact) (hpos : 0 < l.length + (octs a).length) (hb : (l.length + (octs a).length) * j.bytes ≤ 140737488355328) (hk : objs.length = k) (ho : objs ++ [.tok (l ++ octs a).length j.size e l.isEmpty] = objs') :
    Eff P (.call ⟨.builtin .append, #[x, y], #[t, xt]⟩) n o objs (.sl ((l ++ octs a).map (cK .u8)) (.own k)) objs' := by
  subst hk; subst ho
  refine ⟨?_⟩; intro p N E hp hN; unfold aop; rw [hp]; dsimp only [List.map, Array.toList]; rw [eval_st, eval_st, hx]
  obtain ⟨k1, k2⟩ := app_str (n := n) (o := o) ht hd hj h0 hs hxt hxd hy
  unfold builtinAV; dsimp only; unfold appendAV; rw [ht]; dsimp only; rw [hd]; dsimp only; rw [hj]; dsimp only; rw [k1]; dsimp only
  refine ⟨h0.1, h0.2, k2, by rw [List.length_map, List.length_map]; exact hpos, fun r hr => ?_, by rw [List.length_map, List.length_map]; exact hb, ?_⟩
  · obtain ⟨q, _, rfl⟩ := List.mem_map.1 hr; rw [hs]; rfl
  · have he : (l.map (cK .u8)).isEmpty = l.isEmpty := by cases l <;> rfl
    rw [List.length_map, List.length_map, ← List.map_append, ← List.length_append, he]; exact hN
theorem E_apso {k : Nat} {ex : Bool} {len : Nat} (hx : evo n o x = .sl (l.map (cK .u8)) (.own k)) (ho : objs[k]? = some (.tok len j.size e ex)) (hln : len = l.length) (hb : (l.length + (octs a).length) * j.bytes ≤ 140737488355328) (ho' : objs.set k (.tok (l ++ octs a).length j.size e ex) = objs') :
    Eff P (.call ⟨.builtin .append, #[x, y], #[t, xt]⟩) n o objs (.sl ((l ++ octs a).map (cK .u8)) (.own k)) objs' := by
  subst ho'
  refine ⟨?_⟩; intro p N E hp hN; unfold aop; rw [hp]; dsimp only [List.map, Array.toList]; rw [eval_st, eval_st, hx]
  obtain ⟨k1, k2⟩ := app_str (n := n) (o := o) ht hd hj h0 hs hxt hxd hy
  unfold builtinAV; dsimp only; unfold appendAV; rw [ht]; dsimp only; rw [hd]; dsimp only; rw [hj]; dsimp only; rw [k1]; dsimp only; rw [ho]
  refine ⟨h0.1, h0.2, k2, by rw [List.length_map]; exact hln, rfl, rfl, fun r hr => ?_, by rw [List.length_map, List.length_map]; exact hb, ?_⟩
  · obtain ⟨q, _, rfl⟩ := List.mem_map.1 hr; rw [hs]; rfl
  · rw [List.length_map, List.length_map, ← List.map_append, ← List.length_append]; exact hN
end
end
end Go.Proofs.YtchlojabjmlodaaDoor.AM

/- What the walks of functions that are handed objects lean on. -/
namespace Go.Proofs.YtchlojabjmlodaaDoor.AM
open Go

def vNI (_ : Unit) : AV := .v .nilIface
section
variable {κ α : Type} {kv : κ → Value} {av : α → AV} {es : List (κ × α)} {f : Nat → Nat}
theorem mp_ren (h : ∀ a, (av a).ren f = av a) : (Obj.map (mp kv av es)).ren f = .map (mp kv av es) := by
  simp only [Obj.ren, mp, List.map_map]
  congr 1
  refine List.map_congr_left fun e _ => ?_
  simp [h]
theorem mp_in {o : Option Obj} (e : o = some (.map (mp kv av es))) (h : ∀ a, (av a).ren f = av a) : o = some ((Obj.map (mp kv av es)).ren f) := by rw [mp_ren h]; exact e
end
theorem ofD_ren (f : Nat → Nat) : ∀ d : D, (AV.ofD d).ren f = .ofD d
  | .v _ => rfl
  | .sl _ => rfl
theorem renL_ofD (f : Nat → Nat) : ∀ l : List D, AV.renL f (l.map .ofD) = l.map .ofD
  | [] => rfl
  | d :: l => by simp [AV.renL, ofD_ren, renL_ofD f l]
theorem rc_ren {rows : List (List D)} {f : Nat → Nat} : (Obj.box (rowCells rows)).ren f = .box (rowCells rows) := by
  simp only [Obj.ren, rowCells, renL_ofD]
theorem rc_in {o : Option Obj} {rows : List (List D)} {f : Nat → Nat} (e : o = some (.box (rowCells rows))) : o = some ((Obj.box (rowCells rows)).ren f) := by rw [rc_ren]; exact e

def noM {β : Type} : Option β := none
theorem H_noM {β : Type} {Φ : β → Prop} {G : Prop} : H (noM : Option β) Φ G := fun _ h _ => by cases h
def bldCheck (_l : List Int) : Option Unit := some ()
def bldStr (l : List Int) : Option Str := gdM (∀ x ∈ l, 0 ≤ x ∧ x < 256) (retM (strOf l))
section
variable {P : Program} {n : Nat} {o : List (Nat × AV)} {objs : List Obj} {x y : Operand} {t : TypeId} {κ α : Type} [DecidableEq κ] {kv : κ → Value} {av : α → AV} {es : List (κ × α)} {i ki : TI} {kt et : TypeId} {k : Nat} {key : κ} {zl : List Value}
  (ht : ti P t = some i) (hd : i.desc = .map kt et) (hk : ti P kt = some ki) (hx : evo n o x = .map k) (ho : objs[k]? = some (.map (mp kv av es))) (hq : KeyOk kv ki.desc) (hy : evo n o y = .v (kv key))
theorem ofValue_agg (h1 : zl.all (·.oneCell') = true) : AV.ofValue (.agg zl.toArray) = .agg (zl.map .v) := by
  simp only [AV.ofValue]
  rw [if_pos (by simpa using h1)]
include ht hd hk hx ho hq hy
theorem V_lkNA (hz : (P.info? et).bind (·.zero) = some (.agg zl.toArray)) (h1 : zl.all (·.oneCell') = true) (hl : mlk es key = none) : Val P (.lookup t x y true) n o objs (.tup [.agg (zl.map .v), .v (.bool false)]) := by
  have := V_lkN ht hd hk hx ho hq hy hz hl
  rw [ofValue_agg h1] at this; exact this
theorem V_lkN1A (hz : (P.info? et).bind (·.zero) = some (.agg zl.toArray)) (h1 : zl.all (·.oneCell') = true) (hl : mlk es key = none) : Val P (.lookup t x y false) n o objs (.agg (zl.map .v)) := by
  have := V_lkN1 ht hd hk hx ho hq hy hz hl
  rw [ofValue_agg h1] at this; exact this
end
def shOk (n : Nat) : List Obj → List Obj → Prop
  | [], [] => True
  | x :: xs, y :: ys => x.shift n = y ∧ shOk n xs ys
  | _, _ => False
theorem shOk_eq {n : Nat} : ∀ {xs ys : List Obj}, shOk n xs ys → xs.map (Obj.shift n) = ys
  | [], [], _ => rfl
  | x :: xs, y :: ys, h => by rw [List.map_cons, h.1, shOk_eq h.2]
  | [], _ :: _, h => h.elim
  | _ :: _, [], h => h.elim
theorem ho_of {l xs ys : List Obj} {n : Nat} (h : shOk n xs (ys.drop l.length)) (e : l ++ ys.drop l.length = ys) : l ++ xs.map (Obj.shift n) = ys := by rw [shOk_eq h, e]
theorem mp_shift {κ α : Type} {kv : κ → Value} {av : α → AV} {es : List (κ × α)} {n : Nat} (h : ∀ a, (av a).shift n = av a) : (Obj.map (mp kv av es)).shift n = .map (mp kv av es) := by
  simp only [Obj.shift, mp, List.map_map]
  congr 1
  refine List.map_congr_left fun e _ => ?_
  simp [h]
/-- A builder is laid. -/
def bldM {β : Type} (_b : Nat) (m : Option β) : Option β := m
section
variable {P : Program} {β : Type} {m : Option β} {Φ : β → Prop} {ops rest : List Oper} {K : AS → Prop} {E : AV → List Obj → Prop} {n d : Nat} {o : List (Nat × AV)} {objs objs' : List Obj} {ty : TypeId} {pos : String} {af : Array Edge}
theorem M_bld {e b : TypeId} {i : TI} {k k1 : Nat} (ht : ti P e = some i) (hz : i.zero = [.pointer none, .slice none 0 0]) (hk : objs.length = k) (hk1 : objs.length + 1 = k1) (ho : objs ++ [.bld e (.sl [] (.own k1)), .tok 0 1 b true] = objs')
    (h : H m Φ (rg .p P ops rest (st n (oc d (.ptr k 0) o) objs') K E)) : H (bldM b m) Φ (rg .p P ops (⟨some d, .alloc e, ty, pos, af, none⟩ :: rest) (st n o objs) K E) :=
  fun y hy hp => S_e (E_bldN ht hz hk hk1 ho) h y hy hp
end
end Go.Proofs.YtchlojabjmlodaaDoor.AM

/- A new variable in a drawn region, for the models. -/
namespace Go.Proofs.YtchlojabjmlodaaDoor.AM
open Go

theorem aopsC_M {P : Program} {ops : Array Oper} {a : Nat} {cells : List AV} {rest : List Oper} {K : AS → Prop} : ∀ (l : List Oper) (k : Nat) (s : AS), (∀ j, j < l.length → k + j ≠ a) →
    aopsC P ops l s (fun s1 => aopsM P ops a cells rest (k + l.length) s1 K) → aopsM P ops a cells (l ++ rest) k s K
  | [], k, s, _, h => h
  | o :: l, k, s, ha, h => by
    obtain ⟨y, hy, h⟩ := h
    rw [List.cons_append]
    unfold aopsM
    rw [if_neg (by have := ha 0 (by simp); simpa using this)]
    refine ⟨y, hy, aopsC_M l (k + 1) _ (fun j hj => by have := ha (j + 1) (by simp; omega); omega) ?_⟩
    rw [show k + 1 + l.length = k + (o :: l).length from by simp; omega]
    exact h
theorem aopsC_mono {P : Program} {ops : Array Oper} {K K' : AS → Prop} (hK : ∀ s, K s → K' s) : ∀ (l : List Oper) (s : AS), aopsC P ops l s K → aopsC P ops l s K'
  | [], s, h => hK s h
  | o :: l, s, ⟨y, h1, h2⟩ => ⟨y, h1, aopsC_mono hK l _ h2⟩

def appO (s : AS) (b : Obj) : AS := ⟨s.tmps, s.objs ++ [b]⟩
/-- .. at place a, ahead of the tail at place k -/
def tailA {β : Type} (_k _a _d : Nat) (m : Option β) : Option β := m
section
variable {P : Program} {n0 n : Nat} {Q : AX → AS → Prop} {E : AV → List Obj → Prop} {β : Type} {m : Option β} {Φ : β → Prop} {o : List (Nat × AV)} {objs : List Obj}
theorem M_regA {id k a d0 : Nat} {l pre1 pre2 tl : List Oper} {e ty : TypeId} {pos : String} {af : Array Edge} {i : TI} {cells : List AV} (e1 : P.follows .mixedOrders = true) (e2 : lexA l.toArray k a d0 n = true)
    (h1 : l.take a = pre1) (ha : l[a]? = some ⟨some d0, .alloc e, ty, pos, af, none⟩) (h2 : (l.take k).drop (a + 1) = pre2) (h3 : l.drop k = tl) (hb : belowObjs objs.length objs = true) (hids : idsO objs.length o = true) (ht : ti P e = some i) (hz : i.zero.map .v = cells)
    (h : H m Φ (rg .c P l pre1 (st n o objs) (fun s1 => rg .c P l pre2 (s1.put (some d0) (.ptr s1.objs.length 0)) (fun s2 => AV.idsLtL objs.length (s2.tmps.set d0 .any) = true ∧ rg .p P l tl (appO s2 (.box cells)) (Q .normal) (fun _ _ => False)) E) E)) :
    H (tailA k a d0 m) Φ (awp P n0 (.region id l.toArray true) (st n o objs) Q E) := by
  intro y hy hp
  have hh := h y hy hp
  refine awp_regionA e1 ⟨k, a, d0, cells, by rw [show (st n o objs).tmps.length = n from ov_length n o]; exact e2, hb, idsO_L hids, ?_⟩
  have e2' := e2
  simp only [lexA, Bool.and_eq_true] at e2'
  have hak : a < k := Nat.le_of_ble_eq_true e2'.1.1.1.1.2
  have hkl : k ≤ l.length := by have := Nat.le_of_ble_eq_true e2'.1.1.1.1.1; simpa using this
  have hpl : pre1.length = a := by rw [← h1]; simp; omega
  have hsplit : l.toArray.toList.take k = pre1 ++ ⟨some d0, .alloc e, ty, pos, af, none⟩ :: pre2 := by
    show l.take k = _
    rw [← h1, ← h2]
    have e3 : (l.take k).take a = l.take a := by rw [List.take_take]; congr 1; omega
    have e4 : (l.take k)[a]? = some ⟨some d0, .alloc e, ty, pos, af, none⟩ := by rw [List.getElem?_take, if_pos hak]; exact ha
    rw [← e3]
    have := List.take_append_drop a (l.take k)
    conv => lhs; rw [← this]
    congr 1
    obtain ⟨hlt, hget⟩ := List.getElem?_eq_some_iff.1 e4
    rw [List.drop_eq_getElem_cons hlt, hget]
  rw [hsplit]
  refine aopsC_M pre1 0 _ (fun j hj => by omega) ?_
  refine aopsC_mono ?_ pre1 _ hh
  intro s1 hs1
  unfold aopsM
  rw [if_pos (by omega)]
  refine ⟨.ptr s1.objs.length 0, ⟨rfl, ?_⟩, ?_⟩
  · unfold aop; dsimp only
    rw [ht]
    subst hz
    exact .inl rfl
  · rw [← List.append_nil pre2]
    refine aopsC_M pre2 _ _ (fun j hj => by omega) ?_
    refine aopsC_mono ?_ pre2 _ hs1
    intro s2 hs2
    unfold aopsM
    subst h3
    exact hs2
theorem M_alst {ops l : List Oper} {K : AS → Prop} {d k : Nat} (hk : objs.length = k) (h : H m Φ (rg .c P ops l (st n (oc d (.ptr k 0) o) objs) K E)) : H m Φ (rg .c P ops l (AS.put (st n o objs) (some d) (.ptr (AS.objs (st n o objs)).length 0)) K E) := by
  subst hk
  rw [show AS.put (st n o objs) (some d) (.ptr (AS.objs (st n o objs)).length 0) = st n (oc d (.ptr objs.length 0) o) objs from put_ov n o objs d _]
  exact h
theorem M_ids {k d0 : Nat} {B : Prop} (h1 : idsO k (ofil (fun d => decide (d = d0)) o) = true) (h : H m Φ B) : H m Φ (AV.idsLtL k ((AS.tmps (st n o objs)).set d0 .any) = true ∧ B) := by
  intro y hy hp
  refine ⟨?_, h y hy hp⟩
  have h2 := idsO_one (n := n) h1
  have e : (AS.tmps (st n o objs)).set d0 .any = ov n (oc d0 .any o) := congrArg AS.tmps (put_ov n o objs d0 .any)
  rw [e]; exact h2
theorem M_apst {ops l : List Oper} {K : AS → Prop} {b : Obj} {objs' : List Obj} (hk : objs ++ [b] = objs') (h : H m Φ (rg .p P ops l (st n o objs') K E)) : H m Φ (rg .p P ops l (appO (st n o objs) b) K E) := by
  subst hk; exact h
end
end Go.Proofs.YtchlojabjmlodaaDoor.AM

/- Rows of one's own, handed and handed back; texts as octets; rows without room. -/
namespace Go.Proofs.YtchlojabjmlodaaDoor.AM
open Go

def callP {α β : Type} (_ks : List Nat) (_enc : α → AV) (_ob : α → List Obj) (e : Option α) (m : α → Option β) : Option β := e.bind m

section
variable {P : Program} {β α : Type} {m : α → Option β} {Φ : β → Prop} {ops rest : List Oper} {K : AS → Prop} {E : AV → List Obj → Prop} {n d g : Nat} {o : List (Nat × AV)} {objs oin : List Obj} {ty : TypeId} {pos : String} {af : Array Edge} {gd : Option (Nat × Bool)}
  {cal : Operand} {args : Array Operand} {at' : Array TypeId} {first cap argsC : List AV} {e : Option α} {X : α → AV} {O : α → List Obj} {enc : α → AV} {ob : α → List Obj} {ks : List Nat}

theorem call_opP {o1 : List (Nat × AV)} (hc : evo n o1 cal = .fn g first cap) (hen : enters P g = true) (hf : ∀ r, e = some r → FunO P g argsC oin (X r) (O r))
    (hle : AV.leL (first ++ args.toList.map (evo n o1) ++ cap) (AV.renL (rn ks objs.length) argsC)) (hn : nodupB ks = true) (hk : allLt objs.length ks = true)
    (hin : inOk (rn ks objs.length) objs ks oin) (ha : AV.idsLtL oin.length argsC = true) (hb : belowObjs oin.length oin = true)
    (hx : ∀ r, (X r).ren (rn ks objs.length) = enc r) (hO : ∀ r, outOk (rn ks objs.length) (O r) (pickO ks objs.length (ob r))) (ho : ∀ r, mergeL ks objs (pickO ks objs.length (ob r)) = ob r)
    {r : α} (hr : e = some r) : Eff P (.call ⟨.value cal, args, at'⟩) n o1 objs (enc r) (ob r) := by
  refine ⟨?_⟩
  intro p N E hp' hN
  unfold aop; rw [hp']; dsimp only
  have ee : (st n o1 objs).eval = evo n o1 := funext fun x => eval_st n o1 objs x
  rw [ee, hc]; dsimp only
  refine ⟨hen, ACall.le hle ?_⟩
  obtain ⟨hlen, hget⟩ := inOk_get hin
  refine ((hf r hr).frameR (outOk_len hlen (hO r)) ks objs (nodupB_ok hn) (allLt_ok hk) hlen hget ha hb).mono ?_
  rintro ae oo ⟨ae0, o0, ⟨rfl, rfl⟩, rfl, rfl⟩
  show N _
  rw [outOk_eq (hO r), ho r, hx r]; exact hN

theorem M_callP (hg : gev n o ops gd = some true) (hc : evo n o cal = .fn g first cap) (hen : enters P g = true) (hf : ∀ r, e = some r → FunO P g argsC oin (X r) (O r))
    (hle : AV.leL (first ++ args.toList.map (evo n o) ++ cap) (AV.renL (rn ks objs.length) argsC)) (hn : nodupB ks = true) (hk : allLt objs.length ks = true)
    (hin : inOk (rn ks objs.length) objs ks oin) (ha : AV.idsLtL oin.length argsC = true) (hb : belowObjs oin.length oin = true)
    (hx : ∀ r, (X r).ren (rn ks objs.length) = enc r) (hO : ∀ r, outOk (rn ks objs.length) (O r) (pickO ks objs.length (ob r))) (ho : ∀ r, mergeL ks objs (pickO ks objs.length (ob r)) = ob r)
    (h : ∀ r, H (m r) Φ (rg .p P ops rest (st n (oc d (enc r) o) (ob r)) K E)) : H (callP ks enc ob e m) Φ (rg .p P ops (⟨some d, .call ⟨.value cal, args, at'⟩, ty, pos, af, gd⟩ :: rest) (st n o objs) K E) := by
  intro y hy hq
  unfold callP at hy
  cases he : e with
  | none => rw [he] at hy; cases hy
  | some r =>
    rw [he] at hy
    have hop := call_opP (at' := at') hc hen hf hle hn hk hin ha hb hx hO ho he
    cases gd with
    | none => exact S_e (v := enc r) (objs' := ob r) hop (h r) y hy hq
    | some jw =>
      obtain ⟨j, w⟩ := jw
      exact S_on (s' := st n (oc d (enc r) o) (ob r)) (j := j) (want := w) rfl (gcond_st rfl hg) rfl (fun N E hN => hop.run _ N E rfl hN) (h r) y hy hq
end

section
variable {P : Program} {n : Nat} {o : List (Nat × AV)} {objs : List Obj} {x y z : Operand} {t t' : TypeId}
theorem V_cvB {i j ei : TI} {e : TypeId} {a : Str} (ht : ti P t = some i) (hj : ti P t' = some j) (hd : j.desc = .slice e) (he : ti P e = some ei) (hu : ei.desc = .int .u8) (hx : evo n o x = .v (.string (bs a))) (hb : a.length ≤ 140737488355328) :
    Val P (.convert t t' x) n o objs (.sl ((octs a).map (cK .u8)) .none) := by
  refine ⟨?_⟩; intro p N E hp hN; unfold aop; rw [hp]; dsimp only; refine Or.inr ?_; rw [eval_st, hx]; unfold convBAV; rw [ht, hj]; dsimp only; rw [hd]; dsimp only
  exact ⟨by rw [he]; exact congrArg some hu, hb, by rw [show encB (bs a).data.toList = encB a from by simp [bs], octs_enc]; exact hN⟩
theorem V_ssE {α : Type} {c : α → List D} {i j : TI} {e : TypeId} {lo hi : Option Operand} {mx : Operand} {s : List α} {q : IntKind} {l h m : Int} (ht : ti P t = some i) (hd : i.desc = .slice e) (hj : ti P e = some j) (hz : ∀ r, (c r).length = j.size) (hx : evo n o x = .sl (s.map c) .none) (hl : ioptAV (lo.map (evo n o)) 0 = some l) (hh : ioptAV (hi.map (evo n o)) (s.length : Int) = some h) (hm : evo n o mx = .v (.int q m)) (hs : hi.isSome = true) (hb : 0 ≤ l ∧ l ≤ h ∧ h ≤ (s.length : Int)) (hmh : m = h) :
    Val P (.slice t x lo hi (some mx)) n o objs (.sl (((s.take h.toNat).drop l.toNat).map c) .exact) := by
  rw [hmh] at hm
  refine ⟨?_⟩; intro p N E hp hN; unfold aop; rw [hp]; dsimp only
  have e : (st n o objs).eval = evo n o := funext fun x => eval_st n o objs x
  rw [e, hx]; unfold sliceAV; rw [ht]; dsimp only; rw [hd]; dsimp only; rw [hj]
  have hmm : ∀ r ∈ s.map c, r.length = j.size := by intro r hr; obtain ⟨q, _, rfl⟩ := List.mem_map.1 hr; exact hz q
  have hN' : N ((st n o objs).put p.dst (.sl (((s.map c).take h.toNat).drop l.toNat) .exact)) := by rw [← List.map_take, ← List.map_drop]; exact hN
  rw [hl, List.length_map, hh, Option.map_some, hm]
  exact ⟨hmm, hb.1, hb.2.1, hb.2.2, rfl, by simpa using hs, (fun h => by cases h), hN'⟩
end

/-! ### A row without room becomes a row of one's own -/
theorem Weak.exo {n0 : Nat} {s : AS} (i sz e : Nat) {rows : List (List D)} (h : s.tmps[i]? = some (.sl rows .exact)) (hp : rows ≠ []) :
    Weak n0 s ⟨s.tmps.set i (.sl rows (.own s.objs.length)), s.objs ++ [.tok rows.length sz e false]⟩ := by
  intro G0 w0 G a w hn0 hf
  have hm := hf.sat.mem
  have hst := hf.step.push (.full rows.length) (by intro b hb; cases hb)
  refine ⟨⟨G.bl ++ [.full rows.length], G.imm⟩, hst, Mem.push hm (.inl ⟨rfl, fun h => by cases h⟩) (by intro b hb; cases hb), ?_, hf.sat.defers⟩
  have hmono := hf.sat.tmps.mono (ext_push G w (.full rows.length))
  have hi : i < a.tmps.toList.length := by
    rw [hf.sat.tmps.1]
    rcases Nat.lt_or_ge i s.tmps.length with hl | hl
    · exact hl
    · rw [List.getElem?_eq_none hl] at h; cases h
  have hg : a.tmps.toList[i]? = some a.tmps.toList[i] := List.getElem?_eq_getElem hi
  have hv := hf.sat.tmps.2 i _ _ h hg
  have hnew : Conc ⟨G.bl ++ [.full rows.length], G.imm⟩ w (.sl rows (.own s.objs.length)) a.tmps.toList[i] := by
    generalize a.tmps.toList[i] = v at hv
    cases hv with
    | sl _ _ _ hd ht =>
      obtain ⟨ad, hv⟩ := ht
      refine .sl _ _ _ (hd.mono (fun _ _ _ => rfl) (fun b off h => .inl h) (fun _ _ _ => rfl) (fun _ _ h => h)) (.inl ⟨rows.length, by rw [← hm.len]; simp, Nat.le_refl _, fun _ => ⟨ad, hv, fun h0 => ?_⟩⟩)
      exact absurd (List.length_eq_zero_iff.1 h0) hp
  have := hmono.set i (x := .sl rows (.own s.objs.length)) (v := a.tmps.toList[i]) hnew
  have hself : a.tmps.toList.set i a.tmps.toList[i] = a.tmps.toList := list_set_self hg
  rwa [hself] at this

def exoM {β : Type} (_d _k : Nat) (m : Option β) : Option β := m
section
variable {P : Program} {n0 n : Nat} {Q : AX → AS → Prop} {E : AV → List Obj → Prop} {β : Type} {m : Option β} {Φ : β → Prop} {o : List (Nat × AV)} {objs objs' : List Obj}
theorem W_exo {α : Type} {c : α → List D} {l : List α} {d k sz e : Nat} (hd : d < n) (h : og o d = .sl (l.map c) .exact) (hp : 0 < l.length) (hk : objs.length = k) (ho : objs ++ [.tok l.length sz e false] = objs') : Weak n0 (st n o objs) (st n (oc d (.sl (l.map c) (.own k)) o) objs') := by
  subst hk; subst ho
  have := Weak.exo (n0 := n0) (s := st n o objs) d sz e (rows := l.map c) (by rw [ov_get n o d hd, h]) (by intro h; rw [List.map_eq_nil_iff] at h; subst h; cases hp)
  rw [List.length_map] at this
  exact this
theorem R_exo {α : Type} {c : α → List D} {l : List α} {next : AS → Prop} {d k sz e : Nat} (hd : d < n) (h : og o d = .sl (l.map c) .exact) (hp : 0 < l.length) (hk : objs.length = k) (ho : objs ++ [.tok l.length sz e false] = objs') (hr : H m Φ (seqQ n0 next Q .normal (st n (oc d (.sl (l.map c) (.own k)) o) objs'))) : H (exoM d k m) Φ (seqQ n0 next Q .normal (st n o objs)) := by
  intro y hy hp'
  exact WeakS.pre (W_exo hd h hp hk ho) (hr y hy hp')
end

/-! ### A part of an object becomes a row of one's own -/
theorem Mem.set1 {G : Ghost} {objs : List Obj} {w : World} (hm : Mem G objs w) {k : Nat} {x x' : Obj} (hk : objs[k]? = some x) (h : ∀ g, G.bl[k]? = some g → ObjOk G w g x → ObjOk G w g x') : Mem G (objs.set k x') w := by
  refine ⟨by rw [List.length_set]; exact hm.len, fun o y g hy hg => ?_, hm.inj, hm.lt, hm.immLt⟩
  rw [List.getElem?_set] at hy
  split at hy
  · rename_i e
    subst e
    split at hy
    · cases hy; exact h g hg (hm.ok _ _ g hk hg)
    · cases hy
  · exact hm.ok o y g hy hg
theorem Weak.tokB {n0 : Nat} {s : AS} (k i sz e : Nat) {cells : List AV} (h : s.objs[k]? = some (.box cells)) (hi : cells[i]? = some (.v (.slice none 0 0))) :
    Weak n0 s ⟨s.tmps, (s.objs.set k (.box (cells.set i (.sl [] (.own s.objs.length))))) ++ [.tok 0 sz e true]⟩ := by
  intro G0 w0 G a w hn0 hf
  have hm := hf.sat.mem
  have hst := hf.step.push (.full 0) (by intro b hb; cases hb)
  have m1 : Mem ⟨G.bl ++ [.full 0], G.imm⟩ (s.objs ++ [.tok 0 sz e true]) w := Mem.push hm (.inl ⟨rfl, fun _ => rfl⟩) (by intro b hb; cases hb)
  have hkl : k < s.objs.length := (List.getElem?_eq_some_iff.1 h).1
  have hk1 : (s.objs ++ [.tok 0 sz e true])[k]? = some (.box cells) := by rw [List.getElem?_append_left hkl]; exact h
  have m2 := m1.set1 hk1 (x' := .box (cells.set i (.sl [] (.own s.objs.length)))) (by
    intro g hg hok
    rcases hok with ⟨rfl, _⟩ | ⟨b, c, e', h1, h2, h3, h4, h5⟩
    · cases hi
    · refine .inr ⟨b, c, e', h1, h2, by rw [List.length_set]; exact h3, fun j x v hx hv => ?_, h5⟩
      rw [List.getElem?_set] at hx
      split at hx
      · rename_i e1
        subst e1
        split at hx
        · cases hx
          obtain ⟨q1, q2⟩ := h4 _ _ v hi hv
          refine ⟨q1, ?_⟩
          have := conc_v' q2
          subst this
          exact .sl [] _ _ (SlC.nil none 0 (by simp [maxLen])) (.inl ⟨0, by rw [← hm.len]; simp, Nat.le_refl _, fun _ => ⟨none, rfl, fun _ => rfl⟩⟩)
        · cases hx
      · exact h4 j x v hx hv)
  rw [List.set_append_left _ _ hkl] at m2
  exact ⟨⟨G.bl ++ [.full 0], G.imm⟩, hst, m2, hf.sat.tmps.mono (ext_push G w (.full 0)), hf.sat.defers⟩
def tokB {β : Type} (_k _i _sz _e : Nat) (m : Option β) : Option β := m
section
variable {P : Program} {n0 n : Nat} {Q : AX → AS → Prop} {E : AV → List Obj → Prop} {β : Type} {m : Option β} {Φ : β → Prop} {o : List (Nat × AV)} {objs objs1 objs' : List Obj}
theorem R_tokB {k i sz e kk : Nat} {c : Code} {cells cells' : List AV} (h : objs[k]? = some (.box cells)) (hi : cells[i]? = some (.v (.slice none 0 0))) (hk : objs.length = kk) (hc : cells.set i (.sl [] (.own kk)) = cells') (h1 : objs.set k (.box cells') = objs1) (ho : objs1 ++ [.tok 0 sz e true] = objs') (hr : H m Φ (awp P n0 (.loop c) (st n o objs') Q E)) : H (tokB k i sz e m) Φ (awp P n0 (.loop c) (st n o objs) Q E) := by
  subst hk; subst hc; subst h1; subst ho
  intro y hy hp
  obtain ⟨I, ⟨a, s', h1, h2⟩, h3⟩ := hr y hy hp
  exact ⟨I, ⟨a, s', (Weak.tokB (s := st n o objs) k i sz e h hi).trans h1, h2⟩, h3⟩
end
/-! ### The library's own, by its contracts -/
theorem Fun.of_calls2 {P : Program} {f : Nat} {x y v : Value} (h : ∀ w, Calls P f #[x, y] w (fun e w' => e = .returned v ∧ w' = w)) (hv : v.oneCell' = true) : Fun P f [.v x, .v y] (.v v) [] := by
  intro G w vs hm hc
  obtain ⟨hl, hc⟩ := hc
  match vs, hl with
  | [a, b], _ =>
    have h1 := conc_v' (hc 0 _ a rfl rfl)
    have h2 := conc_v' (hc 1 _ b rfl rfl)
    subst h1; subst h2
    refine (h w).mono ?_
    rintro e w' ⟨rfl, rfl⟩
    exact ⟨.ret (.v v), [], G, ⟨rfl, rfl⟩, hm, Step.refl G w', .v v hv⟩
def bytealg_CompareString (a b : Str) : Option Int := some (Go.Lib.compareBytes (bs a).data.toList (bs b).data.toList)

/-! ### Drawn regions, whatever comes late -/
def permM {β : Type} (_r : List (Bool × Nat)) (m : Option β) : Option β := m
/-- One effect. -/
def rgE (P : Program) (ops : List Oper) (o : Oper) (s : AS) (K : AS → Prop) : Prop := ∃ v objs', YE P ops.toArray o s v objs' ∧ Keeps s.objs objs' ∧ K ⟨(s.put o.dst v).tmps, objs'⟩
def gX (P : Program) (ops : List Oper) (K : AS → Prop) : List (Bool × Nat) → AS → Prop
  | [], s => K s
  | (false, i) :: r, s => match ops[i]? with | some o => rg .c P ops [o] s (gX P ops K r) (fun _ _ => False) | none => False
  | (true, i) :: r, s => match ops[i]? with | some o => rgE P ops o s (gX P ops K r) | none => False
theorem gX_ok {P : Program} {ops : List Oper} {K : AS → Prop} : ∀ (r : List (Bool × Nat)) (s : AS), gX P ops K r s → ∃ l, permO ops r l ∧ aopsX P ops.toArray K l s
  | [], _, h => ⟨[], trivial, h⟩
  | (false, i) :: r, s, h => by
    unfold gX at h
    split at h
    · rename_i o ho
      obtain ⟨y, h1, h2⟩ := h
      obtain ⟨l, k1, k2⟩ := gX_ok r _ h2
      exact ⟨(false, o) :: l, ⟨rfl, ho, k1⟩, y, h1, k2⟩
    · exact h.elim
  | (true, i) :: r, s, h => by
    unfold gX at h
    split at h
    · rename_i o ho
      obtain ⟨v, objs', h1, h2, h3⟩ := h
      obtain ⟨l, k1, k2⟩ := gX_ok r _ h3
      exact ⟨(true, o) :: l, ⟨rfl, ho, k1⟩, v, objs', h1, h2, k2⟩
    · exact h.elim
section
variable {P : Program} {n0 : Nat} {Q : AX → AS → Prop} {E : AV → List Obj → Prop} {β : Type} {m : Option β} {Φ : β → Prop} {s : AS}
theorem M_regX {id : Nat} {l : List Oper} {r : List (Bool × Nat)} (e1 : P.follows .mixedOrders = true) (e2 : Nat.beq r.length l.length = true) (e3 : permB l.toArray r (Array.replicate l.toArray.size false) = true) (h : H m Φ (gX P l (Q .normal) r s)) :
    H (permM r m) Φ (awp P n0 (.region id l.toArray true) s Q E) := by
  intro y hy hp
  obtain ⟨lo, h1, h2⟩ := gX_ok r s (h y hy hp)
  exact awp_regionX e1 e2 e3 h1 h2
theorem M_gXc {K : AS → Prop} {i : Nat} {o : Oper} {ops : List Oper} {r : List (Bool × Nat)} (ho : ops[i]? = some o) (h : H m Φ (rg .c P ops [o] s (gX P ops K r) (fun _ _ => False))) : H m Φ (gX P ops K ((false, i) :: r) s) := by
  intro y h1 h2; unfold gX; rw [ho]; exact h y h1 h2
theorem M_gXe {K : AS → Prop} {i : Nat} {o : Oper} {ops : List Oper} {r : List (Bool × Nat)} (ho : ops[i]? = some o) (h : H m Φ (rgE P ops o s (gX P ops K r))) : H m Φ (gX P ops K ((true, i) :: r) s) := by
  intro y h1 h2; unfold gX; rw [ho]; exact h y h1 h2
theorem M_gX0 {K : AS → Prop} {ops : List Oper} (h : H m Φ (K s)) : H m Φ (gX P ops K [] s) := h
end
section
variable {P : Program} {β α : Type} {m : α → Option β} {Φ : β → Prop} {ops : List Oper} {K : AS → Prop} {n d g : Nat} {o o1 : List (Nat × AV)} {objs objs1 objs' oin : List Obj} {ty : TypeId} {pos : String} {af : Array Edge} {v : AV}
  {cal : Operand} {args : Array Operand} {at' : Array TypeId} {first cap argsC : List AV} {e : Option α} {X : α → AV} {O : α → List Obj} {enc : α → AV} {ob : α → List Obj} {ks : List Nat} {op : Op}
theorem X_eff {m : Option β} (hop : Eff P op n (okeep (Oper.looksAt ops.toArray ⟨some d, op, ty, pos, af, none⟩) o) objs v objs') (hk : Keeps objs objs') (h : H m Φ (K (st n (oc d v o) objs'))) : H m Φ (rgE P ops ⟨some d, op, ty, pos, af, none⟩ (st n o objs) K) := by
  intro y hy hq
  refine ⟨v, objs', ⟨rfl, ?_⟩, hk, ?_⟩
  · rw [keep_ov]
    exact hop.run _ _ _ rfl rfl
  · have := h y hy hq
    rw [show (AS.put (st n o objs) (some d) v) = st n (oc d v o) objs from rfl]
    exact this
theorem X_callP (ho1 : okeep (Oper.looksAt ops.toArray ⟨some d, .call ⟨.value cal, args, at'⟩, ty, pos, af, none⟩) o = o1) (hc : evo n o1 cal = .fn g first cap) (hen : enters P g = true) (hf : ∀ r, e = some r → FunO P g argsC oin (X r) (O r))
    (hle : AV.leL (first ++ args.toList.map (evo n o1) ++ cap) (AV.renL (rn ks objs.length) argsC)) (hn : nodupB ks = true) (hk : allLt objs.length ks = true)
    (hin : inOk (rn ks objs.length) objs ks oin) (ha : AV.idsLtL oin.length argsC = true) (hb : belowObjs oin.length oin = true)
    (hx : ∀ r, (X r).ren (rn ks objs.length) = enc r) (hO : ∀ r, outOk (rn ks objs.length) (O r) (pickO ks objs.length (ob r))) (ho : ∀ r, mergeL ks objs (pickO ks objs.length (ob r)) = ob r) (hkp : ∀ r, Keeps objs (ob r))
    (h : ∀ r, H (m r) Φ (K (st n (oc d (enc r) o) (ob r)))) : H (callP ks enc ob e m) Φ (rgE P ops ⟨some d, .call ⟨.value cal, args, at'⟩, ty, pos, af, none⟩ (st n o objs) K) := by
  intro y hy hq
  unfold callP at hy
  cases he : e with
  | none => rw [he] at hy; cases hy
  | some r =>
    rw [he] at hy
    subst ho1
    exact X_eff (call_opP (at' := at') hc hen hf hle hn hk hin ha hb hx hO ho he) (hkp r) (h r) y hy hq
theorem X_call (ho1 : okeep (Oper.looksAt ops.toArray ⟨some d, .call ⟨.value cal, args, at'⟩, ty, pos, af, none⟩) o = o1) (hc : evo n o1 cal = .fn g first cap) (hen : enters P g = true) (hf : ∀ r, e = some r → Fun P g argsC (X r) (O r)) (ha : AV.idsLtL 0 argsC = true)
    (hle : AV.leL (AV.stripL (first ++ args.toList.map (evo n o1) ++ cap)) argsC)
    (hp : AV.pubL objs (first ++ args.toList.map (evo n o1) ++ cap) = objs1)
    (hx : ∀ r, (X r).shift objs1.length = enc r)
    (ho : ∀ r, objs1 ++ (O r).map (Obj.shift objs1.length) = ob r) (hkp : ∀ r, Keeps objs (ob r))
    (h : ∀ r, H (m r) Φ (K (st n (oc d (enc r) o) (ob r)))) : H (callM enc ob e m) Φ (rgE P ops ⟨some d, .call ⟨.value cal, args, at'⟩, ty, pos, af, none⟩ (st n o objs) K) := by
  intro y hy hq
  unfold callM at hy
  cases he : e with
  | none => rw [he] at hy; cases hy
  | some r =>
    rw [he] at hy
    subst hp; subst ho1
    exact X_eff (v := enc r) (objs' := ob r) (call_op hc hen hf ha hle hx ho he) (hkp r) (h r) y hy hq
theorem X_letO {enc : α → AV} {e : α} (hop : Eff P op n (okeep (Oper.looksAt ops.toArray ⟨some d, op, ty, pos, af, none⟩) o) objs (enc e) (ob e)) (hk : ∀ z, Keeps objs (ob z)) (h : ∀ z, H (m z) Φ (K (st n (oc d (enc z) o) (ob z)))) : H (letO enc ob e m) Φ (rgE P ops ⟨some d, op, ty, pos, af, none⟩ (st n o objs) K) := fun y hy hq => X_eff hop (hk e) (h e) y hy hq
theorem X_let {enc : α → AV} {e : α} (hop : Val P op n (okeep (Oper.looksAt ops.toArray ⟨some d, op, ty, pos, af, none⟩) o) objs (enc e)) (hk : Keeps objs objs) (h : ∀ z, H (m z) Φ (K (st n (oc d (enc z) o) objs))) : H (letE enc e m) Φ (rgE P ops ⟨some d, op, ty, pos, af, none⟩ (st n o objs) K) :=
  fun y hy hq => X_eff (objs' := objs) ⟨fun p N E hp hN => hop.run p N E hp (by cases hd : p.dst <;> simpa [AS.put, hd] using hN)⟩ hk (h e) y hy hq
end
/-! ### Branches, where the code branches -/
section
variable {P : Program} {n0 : Nat} {Q : AX → AS → Prop} {E : AV → List Obj → Prop} {β : Type} {m1 m2 : Option β} {Φ : β → Prop} {s : AS} {b : Bool}
theorem H_iteC {c : Operand} {t e : Code} (h1 : b = true → H m1 Φ (awp P n0 (.cond c t e) s Q E)) (h2 : b = false → H m2 Φ (awp P n0 (.cond c t e) s Q E)) : H (iteM b m1 m2) Φ (awp P n0 (.cond c t e) s Q E) := H_iteM h1 h2
theorem H_iteG {md : Mo} {ops rest : List Oper} {K : AS → Prop} {d : Option Nat} {op : Op} {ty : TypeId} {pos : String} {af : Array Edge} {jw : Nat × Bool} (h1 : b = true → H m1 Φ (rg md P ops (⟨d, op, ty, pos, af, some jw⟩ :: rest) s K E)) (h2 : b = false → H m2 Φ (rg md P ops (⟨d, op, ty, pos, af, some jw⟩ :: rest) s K E)) : H (iteM b m1 m2) Φ (rg md P ops (⟨d, op, ty, pos, af, some jw⟩ :: rest) s K E) := H_iteM h1 h2
end
/-! ### A row without elements, of one's own -/
def bs0M {β : Type} (m : Option β) : Option β := m
section
variable {P : Program} {β : Type} {m : Option β} {Φ : β → Prop} {ops rest : List Oper} {K : AS → Prop} {E : AV → List Obj → Prop} {n d k : Nat} {o : List (Nat × AV)} {objs objs' : List Obj} {ty t e : TypeId} {pos : String} {af : Array Edge}
theorem E_bs0 {i j : TI} (ht : ti P t = some i) (hd : i.desc = .slice e) (hj : ti P e = some j) (h0 : 0 < j.size) (hk : objs.length = k) (ho : objs ++ [.tok 0 j.size e true] = objs') : Eff P (.buildSlice t 0 #[]) n o objs (.sl [] (.own k)) objs' := by
  subst hk; subst ho
  refine ⟨?_⟩; intro p N E hp hN; unfold aop; rw [hp]; dsimp only
  exact Or.inr ⟨rfl, rfl, i, e, j, ht, hd, hj, h0, hN⟩
theorem M_bs0 {i j : TI} (ht : ti P t = some i) (hd : i.desc = .slice e) (hj : ti P e = some j) (h0 : 0 < j.size) (hk : objs.length = k) (ho : objs ++ [.tok 0 j.size e true] = objs') (h : H m Φ (rg .p P ops rest (st n (oc d (.sl [] (.own k)) o) objs') K E)) : H (bs0M m) Φ (rg .p P ops (⟨some d, .buildSlice t 0 #[], ty, pos, af, none⟩ :: rest) (st n o objs) K E) :=
  S_e (E_bs0 ht hd hj h0 hk ho) h
end
end Go.Proofs.YtchlojabjmlodaaDoor.AM

/- Rows handed over whole: taken as one's own at the start, given up ahead of a call. -/
namespace Go.Proofs.YtchlojabjmlodaaDoor.AM
open Go

theorem Weak.unlin {n0 : Nat} {tmps : List AV} {objs : List Obj} (k i : Nat) {v : Value} {sz e : Nat} {rows : List (List D)} (hk : objs[k]? = some (.lin v sz e rows)) (hi : tmps[i]? = some (.v v)) :
    Weak n0 ⟨tmps, objs⟩ ⟨tmps.set i (.sl rows (.own objs.length)), objs.set k .dead ++ [.tok rows.length sz e true]⟩ := by
  intro G0 w0 G a w hn hf
  have hm := hf.sat.mem
  obtain ⟨g, hg, hok⟩ := hm.obj hk
  have hlen : G.bl.length = objs.length := hm.len
  have hkl : k < G.bl.length := (List.getElem?_eq_some_iff.1 hg).1
  have main : ∀ gt : GB, (∀ b, gt.blk = some b → g.blk = some b) → (∀ len, g = .full len → len = 0) → (∀ b, g ≠ .obj b) → (∀ b l c s x, g ≠ .tok b l c s x) →
      ObjOk ⟨G.bl.set k (.full 0) ++ [gt], G.imm⟩ w gt (.tok rows.length sz e true) → Conc ⟨G.bl.set k (.full 0) ++ [gt], G.imm⟩ w (.sl rows (.own objs.length)) v →
      ∃ G', From G0 w0 G' ⟨tmps.set i (.sl rows (.own objs.length)), objs.set k .dead ++ [.tok rows.length sz e true]⟩ a w := by
    intro gt h1 h2 h3 h4 h5 h6
    have part : ∀ (o : Nat) (g1 : GB), (G.bl.set k (.full 0) ++ [gt])[o]? = some g1 → (o = k ∧ g1 = .full 0) ∨ (o ≠ k ∧ G.bl[o]? = some g1) ∨ (o = objs.length ∧ g1 = gt) := by
      intro o g1 h
      rcases Nat.lt_or_ge o G.bl.length with hl | hl
      · rw [List.getElem?_append_left (by simpa using hl), List.getElem?_set] at h
        by_cases hko : k = o
        · rw [if_pos hko, if_pos (by omega)] at h
          exact .inl ⟨hko.symm, (Option.some.inj h).symm⟩
        · rw [if_neg hko] at h
          exact .inr (.inl ⟨fun h => hko h.symm, h⟩)
      · rw [List.getElem?_append_right (by simpa using hl)] at h
        simp only [List.length_set] at h
        have h0 : o - G.bl.length = 0 := by
          rcases Nat.eq_zero_or_pos (o - G.bl.length) with hz | hz
          · exact hz
          · rw [List.getElem?_eq_none (by simp only [List.length_cons, List.length_nil]; omega)] at h; cases h
        rw [h0] at h
        exact .inr (.inr ⟨by omega, (Option.some.inj h).symm⟩)
    have keep : ∀ (o : Nat) (g1 : GB), G.bl[o]? = some g1 → o ≠ k → (G.bl.set k (.full 0) ++ [gt])[o]? = some g1 := by
      intro o g1 h hne
      have hl := (List.getElem?_eq_some_iff.1 h).1
      rw [List.getElem?_append_left (by simpa using hl), List.getElem?_set, if_neg (fun h => hne h.symm)]
      exact h
    have hext : Ext G w ⟨G.bl.set k (.full 0) ++ [gt], G.imm⟩ w := by
      refine ⟨fun _ _ _ _ => rfl, ?_, ?_, ?_, ?_⟩
      · intro t b o h
        rcases im_cases h with hi' | ⟨o', l, c, s, rfl, h7, h8⟩
        · exact Ghost.imm_im _ t hi'
        · refine .inr ⟨l, c, s, keep o' _ h7 ?_, h8⟩
          rintro rfl
          rw [hg] at h7
          exact h4 _ _ _ _ _ (Option.some.inj h7)
      · intro o b h
        refine keep o _ h ?_
        rintro rfl
        rw [hg] at h
        exact h3 _ (Option.some.inj h)
      · intro o l h
        by_cases hok' : o = k
        · subst hok'
          rw [hg] at h
          have := h2 l (Option.some.inj h)
          subst this
          left
          rw [List.getElem?_append_left (by simpa using hkl), List.getElem?_set, if_pos rfl, if_pos hkl]
        · exact .inl (keep o _ h hok')
      · intro o b l c s x h
        refine ⟨b, l, c, s, x, keep o _ h ?_, .inr ⟨rfl, rfl, rfl⟩⟩
        rintro rfl
        rw [hg] at h
        exact h4 _ _ _ _ _ (Option.some.inj h)
    have hstep : Step G w ⟨G.bl.set k (.full 0) ++ [gt], G.imm⟩ w := by
      refine ⟨hext, fun _ _ _ => rfl, Nat.le_refl _, rfl, rfl, ⟨rfl, Nat.le_refl _⟩, fun _ _ h => .inl h, ?_⟩
      intro o g1 b h hb
      rcases part o g1 h with ⟨_, rfl⟩ | ⟨_, h7⟩ | ⟨_, rfl⟩
      · cases hb
      · exact .inr ⟨o, g1, h7, hb⟩
      · exact .inr ⟨k, g, hg, h1 b hb⟩
    refine ⟨⟨G.bl.set k (.full 0) ++ [gt], G.imm⟩, hf.step.trans hstep, ⟨?_, ?_, hf.sat.defers⟩⟩
    · refine ⟨by simp [hlen], ?_, ?_, ?_, hm.immLt⟩
      · intro o x g1 ho h
        rcases part o g1 h with ⟨rfl, rfl⟩ | ⟨hne, h7⟩ | ⟨rfl, rfl⟩
        · rw [List.getElem?_append_left (by simp; omega), List.getElem?_set, if_pos rfl, if_pos (by omega)] at ho
          cases ho
          intro b l c s hh; cases hh
        · have hl := (List.getElem?_eq_some_iff.1 h7).1
          rw [List.getElem?_append_left (by simp; omega), List.getElem?_set, if_neg (fun h => hne h.symm)] at ho
          exact (hm.ok o x g1 ho h7).mono hext (fun _ _ => rfl) (fun _ _ _ h => h)
        · rw [List.getElem?_append_right (by simp)] at ho
          simp at ho
          subst ho
          exact h5
      · intro o o' g1 g2 b ha hb e1 e2
        rcases part o g1 ha with ⟨_, rfl⟩ | ⟨hne, h7⟩ | ⟨rfl, rfl⟩
        · cases e1
        · rcases part o' g2 hb with ⟨_, rfl⟩ | ⟨hne', h8⟩ | ⟨rfl, rfl⟩
          · cases e2
          · exact hm.inj o o' g1 g2 b h7 h8 e1 e2
          · exact absurd (hm.inj o k g1 g b h7 hg e1 (h1 b e2)) hne
        · rcases part o' g2 hb with ⟨_, rfl⟩ | ⟨hne', h8⟩ | ⟨rfl, rfl⟩
          · cases e2
          · exact absurd (hm.inj o' k g2 g b h8 hg e2 (h1 b e1)) hne'
          · rfl
      · intro o g1 b h e1
        rcases part o g1 h with ⟨_, rfl⟩ | ⟨hne, h7⟩ | ⟨rfl, rfl⟩
        · cases e1
        · exact hm.lt o g1 b h7 e1
        · exact hm.lt k g b hg (h1 b e1)
    · refine ⟨by simpa using hf.sat.tmps.1, fun j x u hx hu => ?_⟩
      rw [List.getElem?_set] at hx
      by_cases hij : i = j
      · subst hij
        have hil := (List.getElem?_eq_some_iff.1 hi).1
        rw [if_pos rfl, if_pos hil] at hx
        cases hx
        have := conc_v' (hf.sat.tmps.2 i (.v v) u hi hu)
        subst this
        exact h6
      · rw [if_neg hij] at hx
        exact (hf.sat.tmps.2 j x u hx hu).mono hext
  have hget : ∀ gt : GB, (G.bl.set k (.full 0) ++ [gt])[objs.length]? = some gt := by
    intro gt
    rw [List.getElem?_append_right (by simp [hlen])]
    simp [hlen]
  rcases hok with ⟨rfl, rfl, rfl⟩ | ⟨b, cap, cur, rfl, rfl, h2, h3, h4, h5, h6, h7⟩
  · exact main (.full 0) (fun b h => by cases h) (fun l h => by cases h; rfl) (fun b h => by cases h) (fun _ _ _ _ _ h => by cases h) (.inl ⟨rfl, fun _ => rfl⟩)
      (.sl _ _ _ (SlC.nil none 0 (Nat.zero_le _)) (.inl ⟨0, hget _, Nat.le_refl _, fun _ => ⟨none, rfl, fun _ => rfl⟩⟩))
  · refine main (.tok b rows.length cap sz true) (fun b h => h) (fun l h => by cases h) (fun b h => by cases h) (fun _ _ _ _ _ h => by cases h)
      (.inr ⟨b, cap, cur, rfl, h2, h3, h4, h5, fun _ => h6, fun h => by cases h⟩) ?_
    refine .sl _ _ _ ⟨_, cap, rfl, h4, h5, .inr ⟨b, 0, sz, rfl, h7.1, fun i j r d hr hd => ?_⟩⟩ (.inr ⟨b, rows.length, cap, sz, true, hget _, Nat.le_refl _, fun _ => rfl⟩)
    obtain ⟨x, hx, _, hc⟩ := h7.2 i j r d hr hd
    refine ⟨x, hx, .inr ⟨rows.length, cap, sz, hget _, ?_⟩, hc⟩
    have h1 := (List.getElem?_eq_some_iff.1 hr).1
    have hj := (List.getElem?_eq_some_iff.1 hd).1
    rw [h7.1 i r hr] at hj
    rw [Nat.zero_add]
    exact idx_lt h1 hj

end Go.Proofs.YtchlojabjmlodaaDoor.AM

/- A row of one's own, given up ahead of a call that takes it whole. -/
namespace Go.Proofs.YtchlojabjmlodaaDoor.AM
open Go

theorem WeakS.lin {n0 : Nat} {tmps : List AV} {objs : List Obj} {next : AS → Prop} (i : Nat) {rows : List (List D)} {n sz e : Nat} (hi : tmps[i]? = some (.sl rows (.own objs.length))) (hn : rows.length = n) (hs : ∀ r ∈ rows, r.length = sz)
    (hn0 : n0 ≤ objs.length) (h1 : AV.idsLtL objs.length (tmps.set i .any) = true) (h2 : belowObjs objs.length objs = true) (hnext : ∀ v, next ⟨tmps.set i (.v v), objs ++ [.lin v sz e rows]⟩) :
    WeakS n0 ⟨tmps, objs ++ [.tok n sz e true]⟩ next := by
  intro G0 w0 G a w hl0 hf
  have hm := hf.sat.mem
  have hlen : G.bl.length = objs.length + 1 := by rw [hm.len]; simp
  have hst := hf.step.trunc (n := objs.length) (by omega)
  have hm' := hm.trunc h2
  have htl : (G.bl.take objs.length).length = objs.length := by simp; omega
  have htm : ConcL ⟨G.bl.take objs.length, G.imm⟩ w (tmps.set i .any) a.tmps.toList := by
    have := (hf.sat.tmps.set i (x := .any) (v := a.tmps.toList[i]?.getD undef) (.any _))
    have hself : a.tmps.toList.set i (a.tmps.toList[i]?.getD undef) = a.tmps.toList := by
      cases hq : a.tmps.toList[i]? with
      | none => rw [List.set_eq_of_length_le]; exact List.getElem?_eq_none_iff.1 hq
      | some v => exact list_set_self (by simpa using hq)
    rw [hself] at this
    exact ⟨this.1, fun j x v hx hv => (this.2 j x v hx hv).trunc (belowL_get h1 j x hx)⟩
  have hil : i < a.tmps.toList.length := by
    rw [hf.sat.tmps.1]
    rcases Nat.lt_or_ge i tmps.length with hl | hl
    · exact hl
    · rw [List.getElem?_eq_none hl] at hi; cases hi
  have hv := hf.sat.tmps.2 i _ _ hi (List.getElem?_eq_getElem hil)
  obtain ⟨g, hg, hok⟩ := hm.obj (o := objs.length) (x := .tok n sz e true) (by simp)
  refine ⟨_, ⟨G.bl.take objs.length ++ [(match g with | .tok b _ _ _ _ => GB.gone b | _ => GB.full 0)], G.imm⟩, ?_, hnext a.tmps.toList[i]⟩
  cases hv with
  | sl _ _ _ hd ht =>
    have fin : ∀ (g' : GB), (∀ b, g'.blk = some b → w0.heap.size ≤ b ∨ ∃ (o : Nat) (g : GB), G0.bl[o]? = some g ∧ g.blk = some b) →
        (∀ b, g'.blk = some b → b < w.heap.size ∧ ∀ (o : Nat) (g'' : GB), (G.bl.take objs.length)[o]? = some g'' → g''.blk ≠ some b) →
        ObjOk ⟨G.bl.take objs.length ++ [g'], G.imm⟩ w g' (.lin a.tmps.toList[i] sz e rows) → a.tmps.toList[i].oneCell' = true →
        From G0 w0 ⟨G.bl.take objs.length ++ [g'], G.imm⟩ ⟨tmps.set i (.v a.tmps.toList[i]), objs ++ [.lin a.tmps.toList[i] sz e rows]⟩ a w := by
      intro g' hb1 hb2 hob hcv
      have hext : Ext ⟨G.bl.take objs.length, G.imm⟩ w ⟨G.bl.take objs.length ++ [g'], G.imm⟩ w := ext_push ⟨G.bl.take objs.length, G.imm⟩ w g'
      refine ⟨⟨hst.ext.trans hext, hst.heap, hst.size, hst.os, hst.tape, hst.output, hst.imm2, ?_⟩, Mem.push (G := ⟨G.bl.take objs.length, G.imm⟩) hm' hob hb2, ?_, hf.sat.defers⟩
      · intro o g'' b hg'' hbb
        rcases Nat.lt_or_ge o objs.length with hl | hl
        · rw [List.getElem?_append_left (by omega)] at hg''
          exact hst.blk o g'' b hg'' hbb
        · rw [List.getElem?_append_right (by omega)] at hg''
          cases hz : o - (G.bl.take objs.length).length with
          | zero => rw [hz] at hg''; simp at hg''; subst hg''; exact hb1 b hbb
          | succ m => rw [hz] at hg''; simp at hg''
      · have hmono := htm.mono hext
        have hset := hmono.set i (x := .v a.tmps.toList[i]) (v := a.tmps.toList[i]) (.v _ hcv)
        have hself : a.tmps.toList.set i a.tmps.toList[i] = a.tmps.toList := list_set_self (List.getElem?_eq_getElem hil)
        rw [hself] at hset
        simpa using hset
    rcases hok with ⟨rfl, hex⟩ | ⟨b, cap, cur, rfl, hh, hc1, hc2, hc3, hc4, _⟩
    · have hn' : n = 0 := hex rfl
      subst hn'
      have hr : rows = [] := List.eq_nil_of_length_eq_zero hn
      subst hr
      have hv2 : a.tmps.toList[i] = .slice none 0 0 := by
        rcases ht with ⟨l, k1, _, k3⟩ | ⟨b', l, c, sz', ex, k1, _⟩
        · rw [hg] at k1; cases k1
          obtain ⟨a', e1, e2⟩ := k3 rfl
          rw [e1, e2 rfl]; rfl
        · rw [hg] at k1; cases k1
      exact fin _ (by intro b hb; cases hb) (by intro b hb; cases hb) (.inl ⟨rfl, hv2, rfl⟩) (by rw [hv2]; rfl)
    · have hv2 : a.tmps.toList[i] = .slice (some ⟨b, 0, none⟩) n cap := by
        rcases ht with ⟨l, k1, _⟩ | ⟨b', l, c, sz', ex, k1, k2, k3⟩
        · rw [hg] at k1; cases k1
        · rw [hg] at k1; cases k1; exact k3 hn
      obtain ⟨a', c', he, hc, hmx, hrow⟩ := hd
      refine fin (.gone b) ?_ ?_ ?_ (by rw [hv2]; rfl)
      · intro b' hb'
        simp [GB.blk] at hb'; subst hb'
        exact hf.step.blk _ _ _ hg rfl
      · intro b' hb'
        simp [GB.blk] at hb'; subst hb'
        refine ⟨hm.lt _ _ _ hg rfl, fun o g'' hg'' hbb => ?_⟩
        obtain ⟨hol, hg3⟩ := take_get' hg''
        have := hm.inj _ _ _ _ _ hg3 hg hbb rfl
        omega
      · refine .inr ⟨b, cap, cur, rfl, by rw [hv2, hn], hh, hc1, by omega, hc3, hc4 rfl, ?_⟩
        rcases hrow with rfl | ⟨b2, st, s2, ha, hr1, hr2⟩
        · exact ⟨fun i r h => by simp at h, fun i j r d h => by simp at h⟩
        · rw [hv2] at he; cases he; cases ha
          refine ⟨fun i r h => hs r (List.mem_of_getElem? h), fun p q r d k1 k2 => ?_⟩
          have e1 : s2 = sz := (hr1 p r k1).symm.trans (hs r (List.mem_of_getElem? k1))
          subst e1
          obtain ⟨x, hx, _, hdc⟩ := hr2 p q r d k1 k2
          exact ⟨x, hx, rfl, hdc⟩

end Go.Proofs.YtchlojabjmlodaaDoor.AM

/- Rows handed over whole, for the models. -/
namespace Go.Proofs.YtchlojabjmlodaaDoor.AM
open Go

theorem WeakS.join {n0 : Nat} {s : AS} {next : AS → Prop} (h : WeakS n0 s (fun s' => WeakS n0 s' next)) : WeakS n0 s next := by
  intro G0 w0 G a w hn hf
  obtain ⟨s', G', hf', h'⟩ := h G0 w0 G a w hn hf
  exact h' G0 w0 G' a w hn hf'
def linM {β : Type} (_d : Nat) (m : Option β) : Option β := m
section
variable {P : Program} {n0 n d k m' sz e : Nat} {Q : AX → AS → Prop} {β α : Type} {m : Option β} {Φ : β → Prop} {o : List (Nat × AV)} {objs objs' pre : List Obj} {next : AS → Prop} {c : α → List D} {l : List α}
theorem R_lin (hd : d < n) (hk : pre.length = k) (ho : objs = pre ++ [.tok m' sz e true]) (h : og o d = .sl (l.map c) (.own k)) (hm : m' = l.length) (hz : ∀ r, (c r).length = sz) (hn : n0 ≤ pre.length) (h2 : belowObjs pre.length pre = true)
    (hr : ∀ v, H m Φ (seqQ n0 next Q .normal (st n (oc d (.v v) (forget k d o)) (pre ++ [.lin v sz e (l.map c)])))) : H (linM d m) Φ (seqQ n0 next Q .normal (st n o objs)) := by
  intro y hy hp
  subst hk; subst ho; subst hm
  have hg : og (forget pre.length d o) d = .sl (l.map c) (.own pre.length) := by rw [og_forget, if_pos rfl]; exact h
  refine WeakS.pre (W_forget (k := pre.length) (d := d)) (WeakS.join ?_)
  exact WeakS.lin (n0 := n0) (tmps := ov n (forget pre.length d o)) (objs := pre) d (rows := l.map c) (n := l.length) (sz := sz) (e := e) (by rw [ov_get n _ d hd, hg]) (List.length_map ..)
    (fun r hr => by obtain ⟨p, _, rfl⟩ := List.mem_map.1 hr; exact hz p) hn (ids_forget n o) h2 (fun v => hr v y hy hp)
/-- .. and taken as one's own, at the start of a function -/
theorem R_unlin {c0 : Code} {E : AV → List Obj → Prop} {v : Value} (hd : d < n) (hk : objs[k]? = some (.lin v sz e (l.map c))) (h : og o d = .v v) (hl : objs.length = m') (ho : objs.set k .dead ++ [.tok l.length sz e true] = objs')
    (hr : H m Φ (seqQ n0 next Q .normal (st n (oc d (.sl (l.map c) (.own m')) o) objs'))) : H m Φ (seqQ n0 next Q .normal (st n o objs)) := by
  intro y hy hp
  subst hl; subst ho
  have := Weak.unlin (n0 := n0) (tmps := ov n o) (objs := objs) k d hk (by rw [ov_get n o d hd, h])
  rw [List.length_map] at this
  exact WeakS.pre this (hr y hy hp)
end

theorem ACall.of_awpW {P : Program} {f : Nat} {fn : Func} {c : Code} {args : List AV} {objs : List Obj} {R : AEnd → List Obj → Prop} (hf : P.funcs[f]? = some fn) (hb : fn.body = some c) {s1 : AS} (hw : Weak objs.length ⟨args ++ List.replicate (fn.ntmps - args.length) .any, objs⟩ s1)
    (h : awp P objs.length c s1 (bodyQ P objs.length fn.results.toList R) (fun x objs' => R (.pan x) objs')) : ACall P f args objs R := by
  intro G w vs hm hc
  refine calls_of_wp hf hb ?_
  have hsat : Sat G ⟨args ++ List.replicate (fn.ntmps - args.length) .any, objs⟩ { tmps := vs.toArray ++ Array.replicate (fn.ntmps - vs.toArray.size) undef, defers := [] } w := by
    refine ⟨hm, ?_, rfl⟩
    have := hc.append (ys := List.replicate (fn.ntmps - args.length) .any) (vs := List.replicate (fn.ntmps - args.length) undef) ⟨by simp, fun i x v hx hv => by
      rw [List.getElem?_replicate] at hx
      split at hx
      · cases hx; exact .any v
      · cases hx⟩
    simpa [hc.1] using this
  obtain ⟨G1, hf1⟩ := hw G w G _ w hm.len ⟨Step.refl G w, hsat⟩
  refine wp_mono (awp_sound hm.len (fun ops t i hi => schedule_lt _ ops t i hi) c _ _ G1 _ w h hf1) ?_
  rintro e a' w' (⟨ax, s', G', h1, h2, h3⟩ | ⟨x, objs', G', v, h1, h2, h3, h4, h5, rfl⟩)
  · have key : (∃ x, resAV P s' fn.results.toList = some x ∧ ∃ x' objs', Weak objs.length ⟨[x], s'.objs⟩ ⟨[x'], objs'⟩ ∧ R (.ret x') objs') → a'.defers = [] ∧ ∃ v, (results fn a'.tmps).run P w' = .ok v w' ∧
        ∃ ae objs' G', R ae objs' ∧ Mem G' objs' w' ∧ Step G w G' w' ∧ EndOk G' w' ae (.returned v) := by
      rintro ⟨x, k2, x', objs', k1, k3⟩
      obtain ⟨v, hv, hcv⟩ := resAV_sound (P := P) h3.sat k2
      have hone : From G w G' ⟨[x], s'.objs⟩ { tmps := #[v], defers := [] } w' := ⟨h3.step, h3.sat.mem, ⟨rfl, fun i y u hy hu => by
        cases i with
        | zero => simp at hy hu; subst hy; subst hu; exact hcv
        | succ i => simp at hy⟩, rfl⟩
      obtain ⟨G'', hf''⟩ := k1 G w G' _ w' hm.len hone
      have hcv' := hf''.sat.tmps.2 0 x' v rfl rfl
      exact ⟨h3.sat.defers, v, hv, .ret x', objs', G'', k3, hf''.sat.mem, hf''.step, hcv'⟩
    cases ax <;> cases e <;> first | exact h2.elim | skip
    · exact key h1
    · exact h1.elim
    · exact key h1
  · exact ⟨h2, .pan x, objs', G', h1, h3, h4, v, rfl, h5⟩

theorem FunO.of_modelW {P : Program} {β : Type} {f : Nat} {fn : Func} {c : Code} {args : List AV} {oin : List Obj} {m : Option β} {X : β → AV} {O : β → List Obj} {r : β} (hf : P.funcs[f]? = some fn) (hb : fn.body = some c) (hl : args.length ≤ fn.ntmps) (hm : m = some r) {n0 : Nat} (hn0 : oin.length = n0) {s1 : AS} (hw : Weak n0 (st fn.ntmps (argsO 0 args) oin) s1)
    (h : H m (fun y => y = r) (awp P n0 c s1 (bodyQ P n0 fn.results.toList (RetIs X O r)) (fun _ _ => False))) : FunO P f args oin (X r) (O r) := by
  subst hn0
  have h2 := h r hm rfl
  refine ACall.mono (R := RetIs X O r) (ACall.of_awpW hf hb (s1 := s1) ?_ ?_) (fun _ _ h => h)
  · rw [args_ov args fn.ntmps hl]; exact hw
  · have he : (fun x objs' => RetIs X O r (.pan x) objs') = fun (_ : AV) (_ : List Obj) => False := by
      funext x o'
      simp [RetIs]
    rw [he]; exact h2

end Go.Proofs.YtchlojabjmlodaaDoor.AM

/- Keys of several cells, for the models. -/
namespace Go.Proofs.YtchlojabjmlodaaDoor.AM
open Go

def D.val : D → Value
  | .v x => x
  | .sl _ => undef
def kC {κ : Type} (c : κ → List D) (x : κ) : Value := .agg ((c x).map D.val).toArray
theorem strCells_map : ∀ l : List ByteArray, strCells (l.map .string) = true
  | [] => rfl
  | _ :: l => by simpa [strCells] using strCells_map l
theorem unV_map : ∀ l : List ByteArray, unV (l.map fun s => AV.v (.string s)) = some (l.map .string)
  | [] => rfl
  | _ :: l => by simp [unV, unV_map l]
section
variable {κ : Type} {c : κ → List D} {n : Nat} (hs : ∀ a, ∃ l : List ByteArray, c a = l.map (fun s => D.v (.string s)) ∧ l.length = n)
include hs
theorem kC_eq (a : κ) : ∃ l : List ByteArray, c a = l.map (fun s => D.v (.string s)) ∧ l.length = n ∧ kC c a = .agg (l.map Value.string).toArray := by
  obtain ⟨l, h1, h2⟩ := hs a
  refine ⟨l, h1, h2, ?_⟩
  simp [kC, h1, D.val, Function.comp_def]
theorem akey_ag (a : κ) : akey (.agg ((c a).map .ofD)) = some (kC c a) := by
  obtain ⟨l, h1, h2, h3⟩ := kC_eq hs a
  rw [h3, h1, List.map_map]
  have : (l.map (AV.ofD ∘ fun s => D.v (.string s))) = l.map fun s => AV.v (.string s) := rfl
  rw [this]
  simp [akey, unV_map]
theorem KeyA.of_c [DecidableEq κ] {P : Program} {d : TypeDesc} (hinj : ∀ a b, c a = c b → a = b) (hn : keyCells P d = some n) : KeyA P (kC c) d := by
  refine ⟨fun a b => ?_, fun a => ?_⟩
  · obtain ⟨l, h1, h2, h3⟩ := kC_eq hs a
    obtain ⟨l', h1', h2', h3'⟩ := kC_eq hs b
    rw [h3, h3', Bool.eq_iff_iff, decide_eq_true_iff]
    show cellsEq (l.map Value.string) (l'.map Value.string) = true ↔ _
    rw [cellsEq_iff (strCells_map l)]
    constructor
    · intro h
      refine hinj a b ?_
      have e : l = l' := by
        have hi : Function.Injective Value.string := fun x y h => by cases h; rfl
        exact (List.map_inj_right (fun x y h => hi h)).1 h
      rw [h1, h1', e]
    · rintro rfl
      rw [h1] at h1'
      have e : l = l' := (List.map_inj_right (fun x y h => by cases h; rfl)).1 h1'
      rw [e]
  · obtain ⟨l, h1, h2, h3⟩ := kC_eq hs a
    exact .inr ⟨l.map .string, h3, by rw [List.length_map, h2]; exact hn, strCells_map l⟩
end

end Go.Proofs.YtchlojabjmlodaaDoor.AM

/- Copying into a variable's array, for the models. -/
namespace Go.Proofs.YtchlojabjmlodaaDoor.AM
open Go

/-- Old ones, with new ones laid over them from the start. -/
def copyL {α : Type} (olds l : List α) : List α := l.take olds.length ++ olds.drop l.length
theorem copyL_len {α : Type} (olds l : List α) : (copyL olds l).length = olds.length := by
  simp only [copyL, List.length_append, List.length_take, List.length_drop]; omega
theorem seg_step : ∀ (c : List AV) (off : Nat) (u : AV) (us : List AV), off + (us.length + 1) ≤ c.length → (c.set off u).take (off + 1) ++ us ++ (c.set off u).drop (off + 1 + us.length) = c.take off ++ (u :: us) ++ c.drop (off + (us.length + 1))
  | [], off, u, us, h => by simp at h
  | a :: c, 0, u, us, h => by simp [Nat.add_comm]
  | a :: c, off + 1, u, us, h => by
    have ih := seg_step c off u us (by simp at h; omega)
    simp only [List.set_cons_succ, List.take_succ_cons, List.cons_append, Nat.add_right_comm off 1, List.drop_succ_cons] at ih ⊢
    rw [← ih]
    simp [Nat.add_right_comm]
theorem setFrom_eq : ∀ (us c : List AV) (off : Nat), off + us.length ≤ c.length → setFrom c off us = c.take off ++ us ++ c.drop (off + us.length)
  | [], c, off, _ => by simp [setFrom]
  | u :: us, c, off, h => by
    simp only [setFrom]
    rw [setFrom_eq us (c.set off u) (off + 1) (by simp at h ⊢; omega)]
    have := seg_step c off u us (by simpa using h)
    rw [this]
    simp
theorem flatMap_len {α β : Type} {c : α → List β} {sz : Nat} (hz : ∀ a, (c a).length = sz) : ∀ l : List α, (l.flatMap c).length = l.length * sz
  | [] => by simp
  | a :: l => by rw [List.flatMap_cons, List.length_append, hz, flatMap_len hz l, List.length_cons, Nat.succ_mul]; omega
theorem flatMap_drop {α β : Type} {c : α → List β} {sz : Nat} (hz : ∀ a, (c a).length = sz) : ∀ (l : List α) (n : Nat), (l.flatMap c).drop (n * sz) = (l.drop n).flatMap c
  | l, 0 => by simp
  | [], n + 1 => by simp
  | a :: l, n + 1 => by
    rw [List.flatMap_cons, List.drop_succ_cons, Nat.succ_mul, ← flatMap_drop hz l n, ← hz a, Nat.add_comm, ← List.drop_drop, List.drop_left]
theorem copy_cells {α : Type} {c : α → List D} {sz : Nat} (hz : ∀ a, (c a).length = sz) (olds l : List α) :
    setFrom ((olds.flatMap c).map AV.ofD) 0 ((((l.map c).take (min (l.map c).length olds.length)).flatten).map AV.ofD) = ((copyL olds l).flatMap c).map AV.ofD := by
  have e1 : ((l.map c).take (min (l.map c).length olds.length)).flatten = (l.take olds.length).flatMap c := by
    rw [List.flatMap_def, List.length_map, ← List.map_take]
    congr 2
    rcases Nat.le_total l.length olds.length with h | h
    · rw [Nat.min_eq_left h, List.take_of_length_le (Nat.le_refl _), List.take_of_length_le h]
    · rw [Nat.min_eq_right h]
  have hl1 : ((l.take olds.length).flatMap c).length = min olds.length l.length * sz := by rw [flatMap_len hz, List.length_take]
  rw [e1, setFrom_eq _ _ _ (by
    rw [List.length_map, List.length_map, hl1, flatMap_len hz, Nat.zero_add]
    exact Nat.mul_le_mul_right _ (Nat.min_le_left _ _))]
  rw [List.take_zero, List.nil_append, Nat.zero_add, List.length_map, hl1, ← List.map_drop, flatMap_drop hz, ← List.map_append, copyL, List.flatMap_append]
  congr 3
  rcases Nat.le_total olds.length l.length with h | h
  · rw [Nat.min_eq_left h, List.drop_of_length_le (Nat.le_refl _), List.drop_of_length_le h]
  · rw [Nat.min_eq_right h]
section
variable {P : Program} {n : Nat} {o : List (Nat × AV)} {objs objs' : List Obj} {x y : Operand} {t t2 e : TypeId} {i j : TI} {k : Nat} {tk : Tk} {α : Type} {c : α → List D} {l olds : List α}
theorem V_slA {m off : Nat} (ht : ti P t = some i) (hd : i.desc = .array m e) (hj : ti P e = some j) (hx : evo n o x = .ptr k off) (hm : Nat.ble m maxLen = true) : Val P (.slice t x none none none) n o objs (.bsl k off m) := by
  refine ⟨?_⟩; intro p N E hp hN; unfold aop; rw [hp]; dsimp only [Option.map]
  rw [eval_st, hx]; unfold sliceAV; rw [ht]; (try dsimp only); rw [hd]; (try dsimp only); rw [hj]; simp only [ioptAV]
  refine ⟨Int.le_refl _, by omega, by omega, Nat.le_of_ble_eq_true hm, ?_⟩
  have e1 : off + (0 : Int).toNat * j.size = off := by simp
  have e2 : ((m : Int) - 0).toNat = m := by simp
  rw [e1, e2]; exact hN
theorem E_copy (ht : ti P t = some i) (hd : i.desc = .slice e) (hj : ti P e = some j) (hx : evo n o x = .bsl k 0 olds.length) (ho : objs[k]? = some (.box ((olds.flatMap c).map AV.ofD))) (hy : evo n o y = .sl (l.map c) tk)
    (h0 : 0 < j.size) (h1 : 0 < olds.length) (hz : ∀ a, (c a).length = j.size) (ho' : objs.set k (.box (((copyL olds l).flatMap c).map AV.ofD)) = objs') :
    Eff P (.call ⟨.builtin .copy, #[x, y], #[t, t2]⟩) n o objs (.v (.int .i64 (min l.length olds.length : Nat))) objs' := by
  refine ⟨?_⟩; intro p N E hp hN; unfold aop; rw [hp]; dsimp only [List.map, Array.toList]
  rw [eval_st, eval_st, hx, hy]; unfold builtinAV; dsimp only; unfold copyAV; rw [ht]; dsimp only; rw [hd]; (try dsimp only); rw [ho]; (try dsimp only); rw [hj]; (try dsimp only)
  refine ⟨h0, h1, fun r hr => ?_, ?_, ?_⟩
  · obtain ⟨a, _, rfl⟩ := List.mem_map.1 hr
    exact hz a
  · simp only [List.length_map, flatMap_len hz, Nat.zero_add]
    exact Nat.mul_le_mul_right _ (Nat.min_le_right _ _)
  · have hcc := copy_cells hz olds l
    simp only [List.length_map] at hcc ⊢
    rw [hcc, ho']
    exact hN
end

end Go.Proofs.YtchlojabjmlodaaDoor.AM

/- Calls that only read what they are handed, rows of one's own among it; copies into a variable's array; keys that are arrays. -/
namespace Go.Proofs.YtchlojabjmlodaaDoor.AM
open Go

/-! ### Calls that only read -/
def isVB : AV → Bool
  | .v _ => true
  | _ => false
def AV.pureV : AV → Bool
  | .v _ => true
  | .tup cs => cs.all isVB
  | _ => false
theorem isVB_conc {G G' : Ghost} {w w' : World} {x : AV} {v : Value} (h : isVB x = true) (hc : Conc G w x v) : Conc G' w' x v := by
  cases x <;> first | (cases h; done) | skip
  cases hc with | v _ h1 => exact .v _ h1
theorem pureV_conc {G G' : Ghost} {w w' : World} {x : AV} {v : Value} (h : x.pureV = true) (hc : Conc G w x v) : Conc G' w' x v := by
  cases x <;> first | (cases h; done) | skip
  case v => exact isVB_conc rfl hc
  case tup cs =>
    cases hc with
    | tup _ vs hl hh =>
      refine .tup _ vs hl fun i c v h1 h2 => isVB_conc ?_ (hh i c v h1 h2)
      exact (List.all_eq_true.1 h) c (List.mem_of_getElem? h1)

/-- All that may be read. -/
def Ghost.rd (G : Ghost) : Ghost := ⟨[], fun b off => ∃ t, G.im t b off⟩
theorem trunc_rd {G : Ghost} {w : World} {x : AV} {v : Value} (h : x.idsLt 0 = true) (hc : Conc G w x v) : Conc G.rd w x v := by
  have h1 := hc.trunc (n := 0) h
  rw [List.take_zero] at h1
  refine h1.mono (G := ⟨[], G.imm⟩) (w := w) ⟨fun _ _ _ _ => rfl, ?_, ?_, ?_, ?_⟩
  · intro t b o hi
    have : G.imm b o := by
      rcases im_cases hi with hi | ⟨o', l, c, s, _, h7, _⟩
      · exact hi
      · simp at h7
    exact Ghost.imm_im _ t ⟨.none, this⟩
  · intro o b h; simp at h
  · intro o b h; simp at h
  · intro o b l c s ex h; simp at h
mutual
theorem strip_rd {G : Ghost} {w : World} : ∀ (x : AV) (v : Value), x.strip.idsLt 0 = true → Conc G w x v → Conc G.rd w x.strip v
  | .sl rows t, v, _, hc => by
    cases hc with
    | sl _ _ _ hd ht => exact .sl rows .none _ (hd.mono (fun _ _ _ => rfl) (fun b off h => ⟨t, h⟩) (fun _ _ _ => rfl) (fun b off h => ⟨.none, h⟩)) trivial
  | .agg cs, v, hi, hc => by
    cases hc with
    | agg _ vs hl hone hcc =>
      obtain ⟨k1, k2⟩ := stripL_rd cs vs (by simpa [AV.strip, AV.idsLt] using hi) ⟨hl, hcc⟩
      exact .agg _ vs k1 hone k2
  | .v x, v, hi, hc => trunc_rd hi hc
  | .tup cs, v, hi, hc => trunc_rd hi hc
  | .ptr .., v, hi, hc => trunc_rd hi hc
  | .ep .., v, hi, hc => trunc_rd hi hc
  | .bsl .., v, hi, hc => trunc_rd hi hc
  | .map .., v, hi, hc => trunc_rd hi hc
  | .fn .., v, hi, hc => trunc_rd hi hc
  | .cnd .., v, hi, hc => trunc_rd hi hc
  | .any, v, hi, hc => trunc_rd hi hc
theorem stripL_rd {G : Ghost} {w : World} : ∀ (xs : List AV) (vs : List Value), AV.idsLtL 0 (AV.stripL xs) = true → ConcL G w xs vs → ConcL G.rd w (AV.stripL xs) vs
  | [], vs, _, hc => ⟨by simpa [AV.stripL] using hc.1, fun i c u h => by simp [AV.stripL] at h⟩
  | x :: xs, [], _, hc => absurd hc.1 (by simp)
  | x :: xs, v :: vs, hi, hc => by
    simp only [AV.stripL, AV.idsLtL, Bool.and_eq_true] at hi
    have hx := strip_rd x v hi.1 (hc.2 0 x v rfl rfl)
    obtain ⟨e1, e2⟩ := stripL_rd xs vs hi.2 ⟨by simpa using hc.1, fun i c u hc' hu => hc.2 (i + 1) c u (by simpa using hc') (by simpa using hu)⟩
    refine ⟨by simp [AV.stripL, e1], fun i c u hc' hu => ?_⟩
    cases i with
    | zero => simp [AV.stripL] at hc' hu; subst hc'; subst hu; exact hx
    | succ i => exact e2 i c u (by simpa [AV.stripL] using hc') (by simpa using hu)
end
theorem rd_lt {G : Ghost} {w : World} {objs : List Obj} (hm : Mem G objs w) (b off : Nat) (h : G.rd.imm b off) : b < w.heap.size := by
  obtain ⟨t, h⟩ := h; exact hm.imLt t b off h

/-- A function that answers a plain value changes nothing of what it may read. -/
theorem ACall.read {P : Program} {f : Nat} {args args' : List AV} {objs o0 : List Obj} {x : AV} (h : FunO P f args' [] x o0) (hi : AV.idsLtL 0 (AV.stripL args) = true) (hle : AV.leL (AV.stripL args) args') (hx : x.pureV = true) :
    ACall P f args objs (fun ae o => ae = .ret x ∧ o = objs) := by
  intro G w vs hm hc
  have hm0 : Mem G.rd [] w := ⟨rfl, fun o x g h => by simp at h, fun o o' g g' b h => by simp [Ghost.rd] at h, fun o g b h => by simp [Ghost.rd] at h, fun b off h => rd_lt hm b off h⟩
  refine (h G.rd w vs hm0 (AV.leL_sound hle (stripL_rd args vs hi hc))).mono ?_
  rintro e w' ⟨ae, o', G', ⟨rfl, rfl⟩, hm', hst, hend⟩
  have hold : ∀ b, b < w.heap.size → w'.heap[b]? = w.heap[b]? := fun b hb => hst.heap b hb (fun o g hg => by simp [Ghost.rd] at hg)
  have hext : Ext G w G w' := ⟨fun t b off hi => cell_of_heap (hold b (hm.imLt t b off hi)) off, fun _ _ _ h => h, fun _ _ h => h, fun _ _ h => .inl h, fun _ b l c s ex h => ⟨b, l, c, s, ex, h, .inr ⟨rfl, rfl, rfl⟩⟩⟩
  refine ⟨_, _, G, ⟨rfl, rfl⟩, ?_, ⟨hext, fun k hk _ => hold k hk, hst.size, hst.os, hst.tape, hst.output, fun _ _ h => .inl h, fun o g _ h1 h2 => .inr ⟨o, g, h1, h2⟩⟩, ?_⟩
  · exact ⟨hm.len, fun o x g hx hg => (hm.ok o x g hx hg).mono hext (fun b hb => hold b (hm.lt o g b hg hb)) (fun _ _ _ h => h), hm.inj, fun o g b h1 h2 => Nat.lt_of_lt_of_le (hm.lt o g b h1 h2) hst.size, fun b off h => Nat.lt_of_lt_of_le (hm.immLt b off h) hst.size⟩
  · cases e with
    | returned v => exact pureV_conc hx hend
    | panicked chain => exact hend.elim
    | outgrown => exact hend.elim

section
variable {P : Program} {β α : Type} {m : α → Option β} {Φ : β → Prop} {ops rest : List Oper} {K : AS → Prop} {E : AV → List Obj → Prop} {n d g : Nat} {o : List (Nat × AV)} {objs : List Obj} {ty : TypeId} {pos : String} {af : Array Edge} {gd : Option (Nat × Bool)}
  {cal : Operand} {args : Array Operand} {at' : Array TypeId} {first cap args' : List AV} {e : Option α} {X : α → AV} {O : α → List Obj} {enc : α → AV} {ob : α → List Obj}
theorem call_opR (hc : evo n o cal = .fn g first cap) (hen : enters P g = true) (hf : ∀ r, e = some r → Fun P g args' (X r) (O r))
    (ha : AV.idsLtL 0 (AV.stripL (first ++ args.toList.map (evo n o) ++ cap)) = true) (hle : AV.leL (AV.stripL (first ++ args.toList.map (evo n o) ++ cap)) args') (hx : ∀ r, (X r).pureV = true) {r : α} (hr : e = some r) :
    Eff P (.call ⟨.value cal, args, at'⟩) n o objs (X r) objs := by
  refine ⟨?_⟩
  intro p N E hp' hN
  unfold aop; rw [hp']; dsimp only
  have ee : (st n o objs).eval = evo n o := funext fun x => eval_st n o objs x
  rw [ee, hc]; dsimp only
  refine ⟨hen, ?_⟩
  refine (ACall.read (objs := (st n o objs).objs) (hf r hr).funO ha hle (hx r)).mono ?_
  rintro ae oo ⟨rfl, rfl⟩
  exact hN
theorem M_callR (hg : gev n o ops gd = some true) (hc : evo n o cal = .fn g first cap) (hen : enters P g = true) (hf : ∀ r, e = some r → Fun P g args' (X r) (O r))
    (ha : AV.idsLtL 0 (AV.stripL (first ++ args.toList.map (evo n o) ++ cap)) = true) (hle : AV.leL (AV.stripL (first ++ args.toList.map (evo n o) ++ cap)) args') (hp : ∀ r, (X r).pureV = true)
    (hx : ∀ r, X r = enc r) (ho : ∀ r, objs = ob r)
    (h : ∀ r, H (m r) Φ (rg .p P ops rest (st n (oc d (enc r) o) (ob r)) K E)) : H (callM enc ob e m) Φ (rg .p P ops (⟨some d, .call ⟨.value cal, args, at'⟩, ty, pos, af, gd⟩ :: rest) (st n o objs) K E) := by
  intro y hy hq
  unfold callM at hy
  cases he : e with
  | none => rw [he] at hy; cases hy
  | some r =>
    rw [he] at hy
    have hop := call_opR (at' := at') (objs := objs) hc hen hf ha hle hp he
    rw [hx r] at hop
    have h' := h r
    rw [← ho r] at h'
    cases gd with
    | none => exact S_e (v := enc r) (objs' := objs) hop h' y hy hq
    | some jw =>
      obtain ⟨j, w⟩ := jw
      exact S_on (s' := st n (oc d (enc r) o) objs) (j := j) (want := w) rfl (gcond_st rfl hg) rfl (fun N E hN => hop.run _ N E rfl hN) h' y hy hq
end

/-! ### A copy into a variable's array -/
section
variable {P : Program} {β α κ : Type} {m : κ → Option β} {Φ : β → Prop} {ops rest : List Oper} {K : AS → Prop} {E : AV → List Obj → Prop} {n d : Nat} {o : List (Nat × AV)} {objs : List Obj} {ty : TypeId} {pos : String} {af : Array Edge} {gd : Option (Nat × Bool)}
  {x y : Operand} {t t2 e : TypeId} {i j : TI} {k q : Nat} {tk : Tk} {c : α → List D} {cA : κ → List D} {arr : List α → κ} {olds l : List α} {enc : κ → AV} {ob : κ → List Obj}
theorem M_cpy (harr : ∀ l : List α, l.length = q → l.flatMap c = cA (arr l)) (hg : gev n o ops gd = some true) (ht : NTg P (.call ⟨.builtin .copy, #[x, y], #[t, t2]⟩) n o objs gd)
    (hti : ti P t = some i) (hd : i.desc = .slice e) (hj : ti P e = some j) (hx : evo n o x = .bsl k 0 q) (hq : olds.length = q) (ho : objs[k]? = some (.box ((olds.flatMap c).map AV.ofD))) (hy : evo n o y = .sl (l.map c) tk)
    (h0 : 0 < j.size) (h1 : 0 < q) (hz : ∀ a, (c a).length = j.size) (henc : enc (arr (copyL olds l)) = .v (.int .i64 (min l.length q : Nat))) (hob : objs.set k (.box ((cA (arr (copyL olds l))).map AV.ofD)) = ob (arr (copyL olds l)))
    (h : ∀ z, H (m z) Φ (rg .p P ops rest (st n (oc d (enc z) o) (ob z)) K E)) :
    H (letO enc ob (arr (copyL olds l)) m) Φ (rg .p P ops (⟨some d, .call ⟨.builtin .copy, #[x, y], #[t, t2]⟩, ty, pos, af, gd⟩ :: rest) (st n o objs) K E) := by
  subst hq
  refine M_letO hg ht ?_ h
  rw [henc, ← hob, ← harr _ (copyL_len olds l)]
  exact E_copy hti hd hj hx ho hy h0 h1 hz rfl
theorem M_cpy0 (harr : ∀ l : List α, l.length = q → l.flatMap c = cA (arr l)) (hg : gev n o ops gd = some true) (ht : NTg P (.call ⟨.builtin .copy, #[x, y], #[t, t2]⟩) n o objs gd)
    (hti : ti P t = some i) (hd : i.desc = .slice e) (hj : ti P e = some j) (hx : evo n o x = .bsl k 0 q) (hq : olds.length = q) (ho : objs[k]? = some (.box ((olds.flatMap c).map AV.ofD))) (hy : evo n o y = .sl (l.map c) tk)
    (h0 : 0 < j.size) (h1 : 0 < q) (hz : ∀ a, (c a).length = j.size) (hob : objs.set k (.box ((cA (arr (copyL olds l))).map AV.ofD)) = ob (arr (copyL olds l)))
    (h : ∀ z, H (m z) Φ (rg .p P ops rest (st n o (ob z)) K E)) :
    H (letO enc ob (arr (copyL olds l)) m) Φ (rg .p P ops (⟨none, .call ⟨.builtin .copy, #[x, y], #[t, t2]⟩, ty, pos, af, gd⟩ :: rest) (st n o objs) K E) := by
  subst hq
  refine M_letO0 (v := .v (.int .i64 (min l.length olds.length : Nat))) hg ht ?_ h
  rw [← hob, ← harr _ (copyL_len olds l)]
  exact E_copy hti hd hj hx ho hy h0 h1 hz rfl
end
end Go.Proofs.YtchlojabjmlodaaDoor.AM

/- Rows handed over whole, at a function's start; stores into a row of one's own; slices.Insert as a model. -/
namespace Go.Proofs.YtchlojabjmlodaaDoor.AM
open Go

theorem W_unlin {n0 n d k m' sz e : Nat} {α : Type} {o : List (Nat × AV)} {objs objs' : List Obj} {c : α → List D} {l : List α} {v : Value} (hd : d < n) (hk : objs[k]? = some (.lin v sz e (l.map c))) (h : og o d = .v v) (hl : objs.length = m') (ho : objs.set k .dead ++ [.tok l.length sz e true] = objs') :
    Weak n0 (st n o objs) (st n (oc d (.sl (l.map c) (.own m')) o) objs') := by
  subst hl; subst ho
  have := Weak.unlin (n0 := n0) (tmps := ov n o) (objs := objs) k d hk (by rw [ov_get n o d hd, h])
  rw [List.length_map] at this
  exact this

def ownM {β : Type} (_d : Nat) (m : Option β) : Option β := m
def regW {β : Type} (_k : Nat) (m : Option β) : Option β := m
section
variable {P : Program} {n0 n d k : Nat} {Q : AX → AS → Prop} {E : AV → List Obj → Prop} {β α : Type} {m : Option β} {mz : List α → Option β} {Φ : β → Prop} {s : AS} {K : AS → Prop} {o : List (Nat × AV)} {objs pre : List Obj}
  {t ty : TypeId} {x y : Operand} {pos : String} {af : Array Edge} {c : α → List D} {l : List α} {v r : α} {p off sz e m' : Nat} {xs : List AV} {ds : List D} {j : TI} {enc : List α → AV} {ob : List α → List Obj}
theorem M_regW {id : Nat} {l rs : List Oper} {o : Oper} (h1 : l.take k = rs) (h2 : l.drop k = [o]) (h : H m Φ (rg .p P l rs s (fun s1 => ownSt P n0 o s1 (Q .normal)) E)) : H (regW k m) Φ (awp P n0 (.region id l.toArray false) s Q E) := by
  subst h1
  exact fun y hy hp => awp_regionW (by rw [← h2, List.take_append_drop]) (h y hy hp)
theorem R_ownst (hd : d < n) (hk : pre.length = k) (ho : objs = pre ++ [.tok m' sz e true]) (h : og o d = .sl (l.map c) (.own k)) (hm : m' = l.length) (hn : n0 ≤ pre.length) (h2 : belowObjs pre.length pre = true)
    (hx : evo n o x = .ep (l.map c) p off (.own k)) (hr : l[p]? = some r) (hz : ∀ a, (c a).length = sz) (hy : cellsAV (evo n o y) = some xs) (hds : AV.toDs xs = some ds) (hfit : off + ds.length ≤ sz) (ht : ti P t = some j) (hj : j.size = ds.length)
    (hv : (c r).take off ++ ds ++ (c r).drop (off + ds.length) = c v) (hen : enc (l.set p v) = .sl ((l.set p v).map c) (.own k)) (hob : ob (l.set p v) = pre ++ [.tok (l.set p v).length sz e true])
    (hc : ∀ z, H (mz z) Φ (K (st n (oc d (enc z) (forget k d o)) (ob z)))) :
    H (ownM d (letO enc ob (l.set p v) mz)) Φ (ownSt P n0 ⟨none, .store t x y, ty, pos, af, none⟩ (st n o objs) K) := by
  intro w hw hp
  subst hk; subst ho; subst hm
  have hov : ∀ i, (ov n o)[i]? = some (og o i) ∨ (ov n o)[i]? = none := fun i => by
    rcases Nat.lt_or_ge i n with hi | hi
    · exact .inl (ov_get n o i hi)
    · exact .inr (List.getElem?_eq_none (by rw [ov_length]; exact hi))
  refine ⟨rfl, rfl, t, x, y, rfl, pre, (ov n (forget pre.length d o)).set d .any, d, l.map c, c r, ds, sz, e, p, off, xs, j, ?_, hn, ⟨?_, ?_⟩, ids_forget n o, h2, ?_, ?_, ?_, hz r, ?_, hds, hfit, ht, hj, ?_⟩
  · show pre ++ _ = _
    rw [List.length_map]
  · show ((ov n (forget pre.length d o)).set d .any).length = (ov n o).length
    rw [List.length_set, ov_length, ov_length]
  · intro i z hi
    rw [List.getElem?_set] at hi
    by_cases hdi : d = i
    · subst hdi
      split at hi
      · split at hi
        · cases hi; exact .inl rfl
        · cases hi
      · rename_i hne; exact absurd rfl hne
    · rw [if_neg hdi] at hi
      rcases Nat.lt_or_ge i n with hl | hl
      · rw [ov_get n _ i hl, og_forget, if_neg (fun h => hdi h.symm)] at hi
        cases hq : (og o i).idsLt pre.length
        · rw [hq] at hi; cases hi; exact .inl rfl
        · rw [hq] at hi
          cases hi
          exact .inr (ov_get n o i hl)
      · rw [List.getElem?_eq_none (by rw [ov_length]; exact hl)] at hi; cases hi
  · exact (ov_get n o d hd).trans (by rw [h])
  · rw [eval_st]; exact hx
  · rw [List.getElem?_map, hr]; rfl
  · rw [eval_st]; exact hy
  · have h3 := hc (l.set p v) w hw hp
    rw [hv, ← List.map_set, List.set_set]
    rw [hen, hob] at h3
    have hlen : (l.set p v).length = l.length := List.length_set ..
    rw [hlen] at h3
    exact h3
end

theorem lst6 (a b c d e f x : Obj) : [a, b, c, d, e, f, x] = [a, b, c, d, e, f] ++ [x] := rfl
theorem lst7 (a b c d e f g x : Obj) : [a, b, c, d, e, f, g, x] = [a, b, c, d, e, f, g] ++ [x] := rfl
theorem lst8 (a b c d e f g h x : Obj) : [a, b, c, d, e, f, g, h, x] = [a, b, c, d, e, f, g, h] ++ [x] := rfl
section
variable {P : Program} {n : Nat} {o : List (Nat × AV)} {objs objs' : List Obj} {x y : Operand} {t : TypeId} {i : TI} {k : Nat} {cells xs : List AV}
theorem setFrom_whole (cells xs : List AV) (h : xs.length = cells.length) : setFrom cells 0 xs = xs := by
  rw [setFrom_eq _ _ _ (by omega), List.take_zero, List.nil_append, Nat.zero_add, h, List.drop_length, List.append_nil]
/-- a great value, stored whole; .. loaded whole -/
theorem E_storeW (hb : Nat.ble 9 i.size = true) (ht : ti P t = some i) (hx : evo n o x = .ptr k 0) (ho : objs[k]? = some (.box cells)) (hy : cellsAV (evo n o y) = some xs) (hl : Nat.beq xs.length i.size = true) (hl2 : Nat.beq xs.length cells.length = true) (ho' : objs.set k (.box xs) = objs') :
    Eff P (.store t x y) n o objs .any objs' := by
  have e1 := Nat.eq_of_beq_eq_true hl
  have e2 := Nat.eq_of_beq_eq_true hl2
  refine ⟨?_⟩; intro p N E hp hN; unfold aop; rw [hp]; dsimp only; rw [eval_st, eval_st, hx]; unfold storeAV; rw [ht, hy]; dsimp only; rw [ho]; dsimp only
  refine ⟨e1, by omega, ?_⟩
  rw [setFrom_whole _ _ e2, ho']; exact hN
theorem V_ldpW (hb : Nat.ble 9 i.size = true) (ht : ti P t = some i) (ha : i.isAgg = true) (hx : evo n o x = .ptr k 0) (ho : objs[k]? = some (.box cells)) (hl : Nat.beq cells.length i.size = true) : Val P (.load t x) n o objs (.agg cells) := by
  have e1 := Nat.eq_of_beq_eq_true hl
  refine ⟨?_⟩; intro p N E hp hN; unfold aop; rw [hp]; dsimp only; rw [eval_st, hx]; unfold loadAV; rw [ht]; dsimp only; rw [ho]; dsimp only
  refine ⟨by omega, ?_⟩
  rw [if_pos ha, List.drop_zero, ← e1, List.take_length]; exact hN
end
/-- slices.Insert, of one: in its place. -/
def slicesInsert {α : Type} (by_ : Nat) (i : Int) (x l : List α) : Option (List α) :=
  gdM (0 ≤ i ∧ i ≤ (l.length : Int) ∧ x.length = 1 ∧ (l.length + 1) * by_ ≤ 140737488355328) <| some (l.take i.toNat ++ x ++ l.drop i.toNat)
end Go.Proofs.YtchlojabjmlodaaDoor.AM

/- What slices.Insert is walked with: copies between rows of several cells, two slices apart, and what the end of it leaves. -/
namespace Go.Proofs.YtchlojabjmlodaaDoor.AM
open Go Go.Lib

/-- Two slices in two blocks, the second of which is plain memory: they do not overlap. -/
theorem run_apart {P : Program} (w : World) (tS tR e : TypeId) (ht : P.underlying tS = some (.slice e)) (size : Nat) (hz : ∀ w, (Go.sizeOf e).run P w = .ok size w)
    (a b : Addr) (la ca lb cb : Nat) (hne : a.block ≠ b.block) (tA tB : TypeId) (kA kB : Nat) (hsa : w.shape? a.block = some (tA, kA)) (hkA : kA ≠ 0) (hsb : w.shape? b.block = some (tB, kB)) (hkB : kB ≠ 0)
    (hfb : ∀ off s, w.frozen? ⟨b.block, off, s⟩ = false) :
    (Extern.SlicesOverlaps.overlaps #[tS, tS] #[tR] #[.slice (some a) la ca, .slice (some b) lb cb]).run P w = .ok (.bool false) w := by
  have hnb : (a.block != b.block) = true := by simpa using hne
  have hnb' : (a.block == b.block) = false := by simpa using hne
  change Sem.run P (α := Value) (do
    let some t := (#[tS, tS] : Array TypeId)[0]? | stuck "slices.overlaps: no parameter types"
    let .slice elem ← underlying t | stuck "slices.overlaps: slice type expected"
    let size ← sizeOf elem
    match (some a : Option Addr), (some b : Option Addr) with
    | some a, some b =>
      if la = 0 ∨ lb = 0 ∨ size = 0 then pure (Value.bool false)
      else if a.block != b.block && (← frozen a) && (← frozen b) then unsupported .addressObserved
      else do
        if a.block != b.block then do
          noView a; noView b
          if ← mayBeOne a b then return Value.bool ((← choose (.extern "sameAddr.stringBytes" 2)) == 1)
        pure (Value.bool (a.block == b.block && a.off < b.off + lb * size && b.off < a.off + la * size))
    | _, _ => pure (Value.bool false)) w = _
  have hb0 : w.frozen? b = false := hfb b.off b.spot
  by_cases h0 : la = 0 ∨ lb = 0 ∨ size = 0
  · simp [run_underlying ht, hz, h0]
  · cases kB with
    | zero => exact absurd rfl hkB
    | succ kB =>
      cases kA with
      | zero => exact absurd rfl hkA
      | succ kA =>
        cases hfa : w.frozen? a <;> cases hfe : w.frozen? { block := a.block, off := kA + 1 } <;>
          simp [run_underlying ht, hz, h0, hnb, hnb', frozen, noView, viewAt, mayBeOne, stringish, shape, Sem.run, hsa, hsb, hfa, hfe, hb0, hfb]

/-- A copy into a block that lies bare. -/
theorem run_copyK {P : Program} (w : World) (dT sT ty e : TypeId) (i : TypeInfo) (ht : P.underlying dT = some (.slice e)) (hi : P.info? e = some i) (b st dn dc m : Nat) (a : Addr) (sc : Nat) (cs : List Value) (cur : Array Value) (e' : TypeId)
    (hl : cs.length = Nat.min m dn * i.size) (hs : ∀ j v, cs[j]? = some v → w.cell? (a.add j) = some v) (hg : w.heap[b]? = some (.cells cur e' (0, 0))) (hf : st + cs.length ≤ cur.size) (h1 : ∀ v ∈ cs, v.oneCell' = true) :
    (Builtin.copy_ #[dT, sT] ty #[.slice (some ⟨b, st, none⟩) dn dc, .slice (some a) m sc]).run P w = .ok (goInt (Nat.min m dn)) (w.setRow b (cur.toList.take st ++ cs ++ cur.toList.drop (st + cs.length)).toArray) := by
  have hfc := run_firstCells_some (P := P) w i.size (Nat.min m dn) a m sc cs hl hs
  have hst := run_storeCells_at P b st e' cs 0 cur w hg (by simpa using hf) h1
  simp only [Nat.add_zero] at hst
  simp [Builtin.copy_, run_underlying ht, Builtin.lenOf, sizeOf, typeInfo, hi, hfc, hst]
theorem Flat.take {w : World} {imm : Nat → Nat → Prop} {sz : Nat} {rows : List (List D)} {l : List Value} (hs : ∀ r ∈ rows, r.length = sz) (h : Flat w imm sz rows l) (i : Nat) (hi : i ≤ rows.length) : Flat w imm sz (rows.take i) (l.take (i * sz)) := by
  have hm : i * sz ≤ rows.length * sz := Nat.mul_le_mul_right _ hi
  refine ⟨by rw [List.length_take, List.length_take, h.1, Nat.min_eq_left hm, Nat.min_eq_left hi], fun q u hu => ?_, fun p q r d hr hd => ?_⟩
  · rw [List.getElem?_take] at hu
    split at hu
    · exact h.2.1 q u hu
    · cases hu
  · rw [List.getElem?_take] at hr
    split at hr
    · rename_i hp
      obtain ⟨u, hu, hc⟩ := h.2.2 p q r d hr hd
      have hq := (row_len hs hr hd).2
      have := idx_lt hp hq
      exact ⟨u, by rw [List.getElem?_take, if_pos this]; exact hu, hc⟩
    · cases hr
theorem Flat.drop {w : World} {imm : Nat → Nat → Prop} {sz : Nat} {rows : List (List D)} {l : List Value} (h : Flat w imm sz rows l) (i : Nat) : Flat w imm sz (rows.drop i) (l.drop (i * sz)) := by
  refine ⟨by rw [List.length_drop, List.length_drop, h.1, Nat.sub_mul], fun q u hu => ?_, fun p q r d hr hd => ?_⟩
  · rw [List.getElem?_drop] at hu; exact h.2.1 _ u hu
  · rw [List.getElem?_drop] at hr
    obtain ⟨u, hu, hc⟩ := h.2.2 _ q r d hr hd
    exact ⟨u, by rw [List.getElem?_drop, ← hu, Nat.add_mul, Nat.add_assoc], hc⟩

/-- What is left where a row was given up and another one is handed back. -/
theorem lin_done {G : Ghost} {w w' : World} {v : Value} {sz e : Nat} {rows rows' : List (List D)} {news : List Value} (hm : Mem G [.lin v sz e rows] w) {B cap' : Nat} {arr : Array Value}
    (hB : w.heap.size ≤ B ∨ G.bl[0]? = some (.gone B)) (hh : w'.heap[B]? = some (.cells arr e (0, 0))) (has : arr.size = cap' * sz) (hn : rows'.length ≤ cap') (hcm : cap' ≤ maxLen)
    (hold : ∀ k, k < w.heap.size → k ≠ B → w'.heap[k]? = w.heap[k]?) (hsize : w.heap.size ≤ w'.heap.size) (hos : w'.os = w.os) (htape : w'.tape = w.tape) (hout : w'.output = w.output ∧ w.drawn ≤ w'.drawn)
    (hl : ∀ r ∈ rows', r.length = sz) (hf : Flat w G.imm sz rows' news) (hnews : arr.toList.take (rows'.length * sz) = news) :
    ∃ G', Mem G' [.dead, .tok rows'.length sz e true] w' ∧ Step G w G' w' ∧ Conc G' w' (.sl rows' (.own 1)) (.slice (some ⟨B, 0, none⟩) rows'.length cap') := by
  obtain ⟨g, hg, hok⟩ := hm.obj (o := 0) (x := .lin v sz e rows) rfl
  have hlen : G.bl.length = 1 := hm.len
  have hone : ∀ (o : Nat) (g1 : GB), G.bl[o]? = some g1 → o = 0 ∧ g1 = g := by
    intro o g1 h
    have := (List.getElem?_eq_some_iff.1 h).1
    have h0 : o = 0 := by omega
    subst h0
    rw [hg] at h; cases h; exact ⟨rfl, rfl⟩
  have hBl : B < w'.heap.size := (Array.getElem?_eq_some_iff.1 hh).1
  have him : ∀ off, ¬ G.imm B off := by
    intro off hi
    rcases hB with h | h
    · have := hm.immLt _ _ hi; omega
    · rw [hg] at h; cases h
      rcases hok with ⟨_, _, h⟩ | ⟨b, cap, cur, h1, _, _, _, _, _, h7, _⟩
      · cases h
      · cases h1; exact h7 _ hi
  have hnt : ∀ b l c s x, g ≠ .tok b l c s x := by
    rintro b l c s x rfl
    rcases hok with ⟨_, _, h⟩ | ⟨_, _, _, h, _⟩ <;> cases h
  have hno : ∀ b, g ≠ .obj b := by
    rintro b rfl
    rcases hok with ⟨_, _, h⟩ | ⟨_, _, _, h, _⟩ <;> cases h
  have main : ∀ g0 : GB, g0.blk ≠ some B → (∀ b, g0.blk = some b → g.blk = some b) → (∀ l, g = .full l → g0 = .full l) → (∀ b l c s x, g0 ≠ .tok b l c s x) →
      ∃ G', Mem G' [.dead, .tok rows'.length sz e true] w' ∧ Step G w G' w' ∧ Conc G' w' (.sl rows' (.own 1)) (.slice (some ⟨B, 0, none⟩) rows'.length cap') := by
    intro g0 k1 k2 k3 k4
    have part : ∀ (o : Nat) (g1 : GB), ([g0, .tok B rows'.length cap' sz true] : List GB)[o]? = some g1 → (o = 0 ∧ g1 = g0) ∨ (o = 1 ∧ g1 = .tok B rows'.length cap' sz true) := by
      intro o g1 h
      match o, h with
      | 0, h => cases h; exact .inl ⟨rfl, rfl⟩
      | 1, h => cases h; exact .inr ⟨rfl, rfl⟩
      | o + 2, h => simp at h
    have hcell : ∀ b o, G.imm b o → w'.cell? ⟨b, o, none⟩ = w.cell? ⟨b, o, none⟩ := fun b o hi => cell_of_heap (hold b (hm.immLt _ _ hi) (by rintro rfl; exact him _ hi)) o
    have hext : Ext G w ⟨[g0, .tok B rows'.length cap' sz true], G.imm⟩ w' := by
      refine ⟨fun t b o hi => ?_, fun t b o hi => ?_, fun o b h => ?_, fun o l h => ?_, fun o b l c s x h => ?_⟩
      · rcases im_cases hi with hi | ⟨_, l, c, s, _, h7, _⟩
        · exact hcell b o hi
        · exact absurd (hone _ _ h7).2.symm (hnt _ _ _ _ _)
      · rcases im_cases hi with hi | ⟨_, l, c, s, _, h7, _⟩
        · exact Ghost.imm_im _ t hi
        · exact absurd (hone _ _ h7).2.symm (hnt _ _ _ _ _)
      · exact absurd (hone _ _ h).2.symm (hno _)
      · obtain ⟨ho, hgl⟩ := hone _ _ h
        subst ho
        have hg0 := k3 l hgl.symm
        exact .inl (by rw [← hg0]; rfl)
      · exact absurd (hone _ _ h).2.symm (hnt _ _ _ _ _)
    refine ⟨⟨[g0, .tok B rows'.length cap' sz true], G.imm⟩, ⟨rfl, ?_, ?_, ?_, fun b off h => Nat.lt_of_lt_of_le (hm.immLt _ _ h) hsize⟩, ⟨hext, ?_, hsize, hos, htape, hout, fun _ _ h => .inl h, ?_⟩, ?_⟩
    · intro o x g1 hx hg1
      rcases part o g1 hg1 with ⟨rfl, rfl⟩ | ⟨rfl, rfl⟩
      · cases hx; exact fun b l c s h => k4 _ _ _ _ _ h
      · cases hx; exact .inr ⟨B, cap', arr, rfl, hh, has, hn, hcm, fun _ => him, fun h => by cases h⟩
    · intro o o' g1 g2 b h1 h2 e1 e2
      rcases part o g1 h1 with ⟨rfl, rfl⟩ | ⟨rfl, rfl⟩ <;> rcases part o' g2 h2 with ⟨rfl, rfl⟩ | ⟨rfl, rfl⟩
      · rfl
      · cases e2; exact absurd e1 k1
      · cases e1; exact absurd e2 k1
      · rfl
    · intro o g1 b h1 e1
      rcases part o g1 h1 with ⟨rfl, rfl⟩ | ⟨rfl, rfl⟩
      · exact Nat.lt_of_lt_of_le (hm.lt 0 g b hg (k2 b e1)) hsize
      · cases e1; exact hBl
    · intro k hk hno'
      refine hold k hk ?_
      rintro rfl
      rcases hB with h | h
      · omega
      · exact hno' 0 _ h rfl
    · intro o g1 b h1 e1
      rcases part o g1 h1 with ⟨rfl, rfl⟩ | ⟨rfl, rfl⟩
      · exact .inr ⟨0, g, hg, k2 b e1⟩
      · cases e1
        rcases hB with h | h
        · exact .inl h
        · exact .inr ⟨0, _, h, rfl⟩
    · refine .sl _ _ _ ⟨_, cap', rfl, hn, hcm, .inr ⟨B, 0, sz, rfl, ?_⟩⟩ (.inr ⟨B, _, cap', sz, true, rfl, Nat.le_refl _, fun _ => rfl⟩)
      refine Flat.rowsAt hl (hf.mono hcell (fun _ _ h => h)) (fun q u hu => ?_) (fun q hq => .inr ⟨_, cap', sz, rfl, by rw [Nat.zero_add]; exact hq⟩)
      rw [cell_at hh, Nat.zero_add, ← Array.getElem?_toList]
      rw [← hnews, List.getElem?_take] at hu
      split at hu
      · exact hu
      · cases hu
  rcases hB with h | h
  · refine main g ?_ (fun _ h => h) (fun _ h => h) hnt
    intro h2
    have := hm.lt 0 g B hg h2
    omega
  · rw [hg] at h; cases h
    exact main (.full 0) (by intro h; cases h) (fun b h => by cases h) (fun l h => by cases h) (fun _ _ _ _ _ h => by cases h)
end Go.Proofs.YtchlojabjmlodaaDoor.AM
