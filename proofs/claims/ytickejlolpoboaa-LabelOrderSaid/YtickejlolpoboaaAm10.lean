/- append. -/
import Derived.Test.YtickejlolpoboaaAm9
import Derived.Lib.Strings
set_option linter.all false
namespace Go.Proofs.Ytickejlolpoboaa.AM
open Go

/-- The cells of rows, one behind the other. -/
def Flat (w : World) (imm : Nat → Nat → Prop) (sz : Nat) (rows : List (List D)) (news : List Value) : Prop :=
  news.length = rows.length * sz ∧ OneL news ∧
  ∀ (i j : Nat) (r : List D) (d : D), rows[i]? = some r → r[j]? = some d → ∃ u, news[i * sz + j]? = some u ∧ DConc w imm d u

theorem Flat.nil (w : World) (imm : Nat → Nat → Prop) (sz : Nat) : Flat w imm sz [] [] := ⟨by simp, fun i u h => by simp at h, fun i j r d h => by simp at h⟩

theorem Flat.mono {w w' : World} {imm imm' : Nat → Nat → Prop} (hw : ∀ b o, imm b o → w'.cell? ⟨b, o, none⟩ = w.cell? ⟨b, o, none⟩) (hi : ∀ b o, imm b o → imm' b o)
    {sz : Nat} {rows : List (List D)} {news : List Value} (h : Flat w imm sz rows news) : Flat w' imm' sz rows news :=
  ⟨h.1, h.2.1, fun i j r d hr hd => let ⟨u, hu, hc⟩ := h.2.2 i j r d hr hd; ⟨u, hu, hc.mono hw hi⟩⟩

theorem row_len {rows : List (List D)} {sz : Nat} (hs : ∀ r ∈ rows, r.length = sz) {i j : Nat} {r : List D} {d : D} (hr : rows[i]? = some r) (hd : r[j]? = some d) : i < rows.length ∧ j < sz := by
  have h1 : i < rows.length := by
    rcases Nat.lt_or_ge i rows.length with h | h
    · exact h
    · rw [List.getElem?_eq_none h] at hr; cases hr
  refine ⟨h1, ?_⟩
  rw [← hs r (List.mem_of_getElem? hr)]
  rcases Nat.lt_or_ge j r.length with h | h
  · exact h
  · rw [List.getElem?_eq_none h] at hd; cases hd

theorem idx_lt {i j n sz : Nat} (hi : i < n) (hj : j < sz) : i * sz + j < n * sz := by
  have : (i + 1) * sz ≤ n * sz := Nat.mul_le_mul_right sz hi
  rw [Nat.add_mul] at this
  omega

theorem Flat.append {w : World} {imm : Nat → Nat → Prop} {sz : Nat} {rows rows2 : List (List D)} {olds news : List Value} (hs : ∀ r ∈ rows, r.length = sz)
    (h : Flat w imm sz rows olds) (h2 : Flat w imm sz rows2 news) : Flat w imm sz (rows ++ rows2) (olds ++ news) := by
  refine ⟨by rw [List.length_append, List.length_append, h.1, h2.1, Nat.add_mul], ?_, ?_⟩
  · intro i u hu
    rcases Nat.lt_or_ge i olds.length with hl | hl
    · rw [List.getElem?_append_left hl] at hu; exact h.2.1 i u hu
    · rw [List.getElem?_append_right hl] at hu; exact h2.2.1 _ u hu
  · intro i j r d hr hd
    rcases Nat.lt_or_ge i rows.length with hl | hl
    · rw [List.getElem?_append_left hl] at hr
      obtain ⟨u, hu, hc⟩ := h.2.2 i j r d hr hd
      have := (row_len hs hr hd).2
      have := idx_lt hl this
      exact ⟨u, by rw [List.getElem?_append_left (by rw [h.1]; exact this)]; exact hu, hc⟩
    · rw [List.getElem?_append_right hl] at hr
      obtain ⟨u, hu, hc⟩ := h2.2.2 _ j r d hr hd
      refine ⟨u, ?_, hc⟩
      have e : i * sz + j - olds.length = (i - rows.length) * sz + j := by
        rw [h.1, Nat.sub_mul]
        have : rows.length * sz ≤ i * sz := Nat.mul_le_mul_right sz hl
        omega
      rw [List.getElem?_append_right (by rw [h.1]; have : rows.length * sz ≤ i * sz := Nat.mul_le_mul_right sz hl; omega), e]
      exact hu

theorem Flat.rowsAt {w : World} {i1 imm : Nat → Nat → Prop} {sz : Nat} {rows : List (List D)} {news : List Value} (hs : ∀ r ∈ rows, r.length = sz) (h : Flat w imm sz rows news) {b st : Nat}
    (hc : ∀ q u, news[q]? = some u → w.cell? ⟨b, st + q, none⟩ = some u) (hi : ∀ q, q < rows.length * sz → i1 b (st + q)) : RowsAt w i1 imm b st sz rows := by
  refine ⟨fun i r hr => hs r (List.mem_of_getElem? hr), fun i j r d hr hd => ?_⟩
  obtain ⟨u, hu, hd'⟩ := h.2.2 i j r d hr hd
  obtain ⟨h1, h2⟩ := row_len hs hr hd
  refine ⟨u, ?_, ?_, hd'⟩
  · rw [Nat.add_assoc]; exact hc _ _ hu
  · rw [Nat.add_assoc]; exact hi _ (idx_lt h1 h2)

theorem RowsAt.flat {w : World} {i1 imm : Nat → Nat → Prop} {b st sz : Nat} {rows : List (List D)} (hsz : 0 < sz) (h : RowsAt w i1 imm b st sz rows) :
    ∃ news, Flat w imm sz rows news ∧ ∀ q u, news[q]? = some u → w.cell? ⟨b, st + q, none⟩ = some u ∧ i1 b (st + q) := by
  have hcell : ∀ q, q < rows.length * sz → ∃ u d, w.cell? ⟨b, st + q, none⟩ = some u ∧ i1 b (st + q) ∧ DConc w imm d u := by
    intro q hq
    have h1 : q / sz < rows.length := (Nat.div_lt_iff_lt_mul hsz).2 hq
    have hr := List.getElem?_eq_getElem h1
    have hl := h.1 _ _ hr
    have h2 : q % sz < (rows[q / sz]).length := by rw [hl]; exact Nat.mod_lt _ hsz
    obtain ⟨u, hu, him, hc⟩ := h.2 (q / sz) (q % sz) _ _ hr (List.getElem?_eq_getElem h2)
    have e : st + q / sz * sz + q % sz = st + q := by
      have := Nat.div_add_mod q sz
      rw [Nat.mul_comm] at this
      omega
    rw [e] at hu him
    exact ⟨u, _, hu, him, hc⟩
  refine ⟨(List.range (rows.length * sz)).map fun q => (w.cell? ⟨b, st + q, none⟩).getD undef, ⟨by simp, ?_, ?_⟩, ?_⟩
  · intro q u hu
    rcases Nat.lt_or_ge q (rows.length * sz) with hl | hl
    · obtain ⟨u', d, hu', _, hc⟩ := hcell q hl
      simp only [List.getElem?_map, List.getElem?_range hl, Option.map_some, hu', Option.getD_some, Option.some.injEq] at hu
      subst hu; exact hc.one
    · rw [List.getElem?_eq_none (by simpa using hl)] at hu; cases hu
  · intro i j r d hr hd
    obtain ⟨u, hu, _, hc⟩ := h.2 i j r d hr hd
    have hl := h.1 i r hr
    have h1 : i < rows.length := by
      rcases Nat.lt_or_ge i rows.length with h | h
      · exact h
      · rw [List.getElem?_eq_none h] at hr; cases hr
    have h2 : j < sz := by
      rw [← hl]
      rcases Nat.lt_or_ge j r.length with h | h
      · exact h
      · rw [List.getElem?_eq_none h] at hd; cases hd
    refine ⟨u, ?_, hc⟩
    rw [Nat.add_assoc] at hu
    simp only [List.getElem?_map, List.getElem?_range (idx_lt h1 h2), Option.map_some, hu, Option.getD_some]
  · intro q u hu
    rcases Nat.lt_or_ge q (rows.length * sz) with hl | hl
    · obtain ⟨u', d, hu', him, hc⟩ := hcell q hl
      simp only [List.getElem?_map, List.getElem?_range hl, Option.map_some, hu', Option.getD_some, Option.some.injEq] at hu
      subst hu; exact ⟨hu', him⟩
    · rw [List.getElem?_eq_none (by simpa using hl)] at hu; cases hu

/-- What append takes its new elements from. -/
structure Src (P : Program) (w : World) (i1 imm : Nat → Nat → Prop) (sz : Nat) (rows : List (List D)) (v : Value) (news : List Value) : Prop where
  flat : Flat w imm sz rows news
  len : ∀ w0 : World, (Builtin.lenOf v).run P w0 = .ok rows.length w0
  cells : ∀ w0 : World, (∀ b o, i1 b o → w0.cell? ⟨b, o, none⟩ = w.cell? ⟨b, o, none⟩) → (Builtin.firstCells sz rows.length v).run P w0 = .ok news.toArray w0

theorem src_slice {P : Program} {w : World} {i1 imm : Nat → Nat → Prop} {sz : Nat} (hsz : 0 < sz) {rows : List (List D)} {v : Value} (hs : ∀ r ∈ rows, r.length = sz) (h : SlC w i1 imm rows v) :
    ∃ news, Src P w i1 imm sz rows v news := by
  obtain ⟨a, c, rfl, hn, hc, hor⟩ := h
  rcases hor with rfl | ⟨b, st, sz', rfl, hr⟩
  · refine ⟨[], Flat.nil _ _ _, fun w0 => rfl, fun w0 _ => ?_⟩
    cases a with
    | none => exact run_firstCells_none w0 sz _ _ _
    | some a => exact run_firstCells_some w0 sz _ a _ c [] (by simp) (by simp)
  · by_cases hz : rows = []
    · subst hz
      exact ⟨[], Flat.nil _ _ _, fun w0 => rfl, fun w0 _ => run_firstCells_some w0 sz _ _ _ c [] (by simp) (by simp)⟩
    · have hsz' : sz' = sz := by
        cases rows with
        | nil => exact (hz rfl).elim
        | cons r rs => rw [← hr.1 0 r rfl]; exact hs r (by simp)
      subst hsz'
      obtain ⟨news, hf, hcell⟩ := hr.flat hsz
      refine ⟨news, hf, fun w0 => rfl, fun w0 hw => run_firstCells_some w0 sz' _ _ _ c news hf.1 (fun q u hu => ?_)⟩
      rw [Addr.add_mk, hw _ _ (hcell q u hu).2]
      exact (hcell q u hu).1

theorem encB_len (l : List UInt8) : ∀ r ∈ encB l, r.length = 1 := by
  intro r hr
  simp only [encB, List.mem_map] at hr
  obtain ⟨b, _, rfl⟩ := hr
  rfl

theorem src_string {P : Program} {w : World} {i1 imm : Nat → Nat → Prop} (s : ByteArray) : Src P w i1 imm 1 (encB s.data.toList) (.string s) (s.data.toList.map fun b => Value.int .u8 (b.toNat : Int)) := by
  have hl : (encB s.data.toList).length = s.size := by simp [encB]
  refine ⟨⟨by simp [encB], ?_, ?_⟩, fun w0 => by rw [hl]; rfl, fun w0 _ => ?_⟩
  · intro i u hu
    rw [List.getElem?_map] at hu
    cases h : s.data.toList[i]? with
    | none => simp [h] at hu
    | some b => simp [h] at hu; subst hu; rfl
  · intro i j r d hr hd
    simp only [encB, List.getElem?_map] at hr
    cases h : s.data.toList[i]? with
    | none => simp [h] at hr
    | some b =>
      simp only [h, Option.map_some, Option.some.injEq] at hr
      subst hr
      cases j with
      | zero =>
        simp at hd; subst hd
        exact ⟨.int .u8 (b.toNat : Int), by simp [h], .v _ rfl⟩
      | succ j => simp at hd
  · rw [hl]
    simp only [Builtin.firstCells, Sem.run_pure]
    congr 1
    apply Array.ext'
    have : (s.extract 0 s.size).data = s.data := by
      have := Go.Lib.extract_data s 0 s.size
      apply Array.ext'
      rw [this]
      simp only [List.drop_zero, Nat.sub_zero]
      exact List.take_of_length_le (Nat.le_refl _)
    simp [this]

section runs
variable {P : Program} (w : World) (t xt ty e : TypeId) (i : TypeInfo) (z : Value) (ht : P.underlying t = some (.slice e)) (d : TypeDesc) (hx : P.underlying xt = some d) (hd : d = .slice e ∨ d = .string)
  (hi : P.info? e = some i) (hz : i.zero = some z) (x : Value) (m : Nat) (hl : ∀ w0 : World, (Builtin.lenOf x).run P w0 = .ok m w0) (news : List Value)
include ht hx hd hi hl

theorem append_room (g n cap : Nat) (cur : Array Value) (hg : w.heap[g]? = some (.cells cur e (0, 0))) (hn : (Builtin.firstCells i.size m x).run P w = .ok news.toArray w) (h1 : OneL news)
    (hroom : n + m ≤ cap) (hfit : n * i.size + news.length ≤ cur.size) :
    (Builtin.append_ #[t, xt] ty #[.slice (some ⟨g, 0, none⟩) n cap, x]).run P w =
      .ok (.slice (some ⟨g, 0, none⟩) (n + m) cap) (w.setRow g (cur.toList.take (n * i.size) ++ news ++ cur.toList.drop (n * i.size + news.length)).toArray) := by
  have hst := run_storeCells_at P g (n * i.size) e news 0 cur w hg (by simpa using hfit) (fun v hv => by
    obtain ⟨j, hj, rfl⟩ := List.mem_iff_getElem.1 hv
    exact h1 j _ (List.getElem?_eq_getElem hj))
  simp only [Nat.add_zero] at hst
  rcases hd with rfl | rfl <;> simp [Builtin.append_, run_underlying ht, run_underlying hx, sizeOf, typeInfo, hi, hl, hroom, hn, Addr.add_mk, hst]

theorem append_same (a : Option Addr) (n cap : Nat) (hm : m = 0) (hn : (Builtin.firstCells i.size 0 x).run P w = .ok #[] w) (hcap : n ≤ cap) :
    (Builtin.append_ #[t, xt] ty #[.slice a n cap, x]).run P w = .ok (.slice a n cap) w := by
  subst hm
  cases a <;> rcases hd with rfl | rfl <;> simp [Builtin.append_, run_underlying ht, run_underlying hx, sizeOf, typeInfo, hi, hl, hcap, hn, storeCells]

include hz in
theorem append_grow (a : Option Addr) (n cap : Nat) (olds : List Value) (hn : (Builtin.firstCells i.size m x).run P w.drew = .ok news.toArray w.drew)
    (ho : (Builtin.firstCells i.size n (.slice a n cap)).run P w.drew = .ok olds.toArray w.drew)
    (hgrow : cap < n + m) (h63 : ((n + m : Nat) : Int) ≤ 9223372036854775807) (hfit : Builtin.nextslicecap (n + m) cap * i.bytes ≤ 281474976710656) :
    (Builtin.append_ #[t, xt] ty #[.slice a n cap, x]).run P w =
      .ok (.slice (some ⟨w.heap.size, 0, none⟩) (n + m) (grownCap w (n + m) cap e))
        (w.drew.alloc (.cells (olds.toArray ++ news.toArray ++ Builtin.zeroCells z.cells (grownCap w (n + m) cap e - (n + m))) e)) := by
  have hroom : ¬ (n + m ≤ cap) := by omega
  have h63' : ¬ (9223372036854775807 < ((n : Int) + (m : Int))) := by omega
  have h48' : ¬ (281474976710656 < Builtin.nextslicecap (n + m) cap * i.bytes) := by omega
  rcases hd with rfl | rfl <;> (simp [Builtin.append_, run_underlying ht, run_underlying hx, sizeOf, typeInfo, zeroValue, hi, hz, hl, hroom, h63', h48', Question.forced, hn, ho, newRow, grownCap]; try (congr 2; apply Array.ext'; simp [List.append_assoc]))
end runs

end Go.Proofs.Ytickejlolpoboaa.AM
