/- A part of the proof: Md. -/
import Derived.Test.YtcpjmkbcefmldaaGreatDoorTy
set_option linter.all false
/- The models. -/
namespace Go.Proofs.YtcpjmkbcefmldaaGreatDoor.AM
noncomputable section

def slicesInsert_GSeries (i : Int) (x l : List GSeries) : Option (List GSeries) := slicesInsert 48 i x l

def label_Name (a0 : Str) : Option (Bool) :=
 letE vI ((a0.length : Int)) fun x1 =>
 letE vB (decide (x1 < (1 : Int))) fun x2 =>
 letE vI ((a0.length : Int)) fun x3 =>
 letE vB (decide ((64 : Int) < x3)) fun x4 =>
 letE vB (bif x2 then true else x4) fun x5 =>
 iteM x5 (
 retM false) (
 loopM (fun (x6 : Int) => [(0, vS a0), (3, vI x6)]) (fun (x6 : Int) => []) (fun (x6 : Int) =>
 letE vI ((a0.length : Int)) fun x7 =>
 letE vB (decide (x6 < x7)) fun x8 =>
 iteM x8 (
 idxM a0 x6 fun x9 =>
 letE vB (decide ((97 : Int) ≤ (x9.toNat : Int))) fun x10 =>
 letE vB (decide ((x9.toNat : Int) ≤ (122 : Int))) fun x11 =>
 letE vB (bif x10 then x11 else false) fun x12 =>
 letE vB (decide ((65 : Int) ≤ (x9.toNat : Int))) fun x13 =>
 letE vB (decide ((x9.toNat : Int) ≤ (90 : Int))) fun x14 =>
 letE vB (bif x13 then x14 else false) fun x15 =>
 letE vB (bif x12 then true else x15) fun x16 =>
 letE vB (decide ((x9.toNat : Int) = (95 : Int))) fun x17 =>
 letE vB (bif x16 then true else x17) fun x18 =>
 letE vB (decide ((48 : Int) ≤ (x9.toNat : Int))) fun x19 =>
 letE vB (decide ((x9.toNat : Int) ≤ (57 : Int))) fun x20 =>
 letE vB (bif x19 then x20 else false) fun x21 =>
 letE vB (!x18) fun x22 =>
 letE vB (!x21) fun x23 =>
 letE vB (decide (x6 = (0 : Int))) fun x24 =>
 letE vB (bif x23 then true else x24) fun x25 =>
 letE vB (bif x22 then x25 else false) fun x26 =>
 iteM x26 (
 exitM <|
 retM false) (
 letE vI (wI (x6 + (1 : Int))) fun x27 =>
 nextM x27)) (
 exitM <|
 retM true)) (0 : Int))

def label_Sane (a0 : (List GPair)) : Option (Bool) :=
 letE vI ((a0.length : Int)) fun x1 =>
 letE vB (decide ((16 : Int) < x1)) fun x2 =>
 iteM x2 (
 retM false) (
 letE vI ((a0.length : Int)) fun x3 =>
 loopM (fun (x4 : Int) => [(0, sl cGPair a0), (8, sl cGPair a0), (9, vI x3), (10, vI x4)]) (fun (x4 : Int) => []) (fun (x4 : Int) =>
 letE vB (decide (x4 < x3)) fun x5 =>
 iteM x5 (
 idxM a0 x4 fun x6 =>
 callM vB (fun x7 => [.box [vS x6.Name, vS x6.Value]]) (label_Name x6.Name) fun x7 =>
 letE vB (!x7) fun x8 =>
 iteM x8 (
 exitM <|
 retM false) (
 letE vI ((x6.Value.length : Int)) fun x9 =>
 letE vB (decide ((64 : Int) < x9)) fun x10 =>
 iteM x10 (
 exitM <|
 retM false) (
 letE vB (decide ((0 : Int) < x4)) fun x11 =>
 letE vI (wI (x4 - (1 : Int))) fun x12 =>
 iteM x11 (
 idxM a0 x12 fun x13 =>
 letE vB (!ltS x13.Name x6.Name) fun x14 =>
 iteM x14 (
 exitM <|
 retM false) (
 letE vI (wI (x4 + (1 : Int))) fun x15 =>
 nextM x15)) (
 letE vI (wI (x4 + (1 : Int))) fun x16 =>
 nextM x16)))) (
 exitM <|
 retM true)) (0 : Int))

def label_counts (a0 : (List GPair)) : Option ((List GPair)) :=
 callM vB (fun x1 => []) (label_Sane a0) fun x1 =>
 iteM x1 (
 retM a0) (
 retM ([] : (List GPair)))

def label_Get (a0 : (List GPair)) (a1 : Str) : Option (Str × Bool) :=
 callM (sl cGPair) (fun x1 => []) (label_counts a0) fun x1 =>
 letE vI ((x1.length : Int)) fun x2 =>
 loopM (fun (x3 : Int) => [(1, vS a1), (9, sl cGPair x1), (10, vI x2), (11, vI x3)]) (fun (x3 : Int) => []) (fun (x3 : Int) =>
 letE vB (decide (x3 < x2)) fun x4 =>
 iteM x4 (
 idxM x1 x3 fun x5 =>
 letE vB (decide (x5.Name = a1)) fun x6 =>
 iteM x6 (
 exitM <|
 retM (x5.Value, true)) (
 letE vI (wI (x3 + (1 : Int))) fun x7 =>
 nextM x7)) (
 exitM <|
 retM (([] : Str), false))) (0 : Int)

def store_named (a0 : (List GPair)) : Option (Bool) :=
 callM (fun x1 => .tup [vS x1.1, vB x1.2]) (fun x1 => []) (label_Get a0 ([95, 95, 110, 97, 109, 101, 95, 95] : Str)) fun x1 =>
 iteM x1.2 (
 callM vB (fun x2 => []) (label_Sane a0) fun x2 =>
 retM x2) (
 retM false)

def series_time (a0 : Int) : Option (Bool) :=
 letE vB (decide ((0 : Int) ≤ a0)) fun x1 =>
 letE vB (decide (a0 ≤ (9007199254740992 : Int))) fun x2 =>
 letE vB (bif x1 then x2 else false) fun x3 =>
 retM x3

def num_Sane (a0 : Int) : Option (Bool) :=
 letE vB (decide ((-9007199254740992 : Int) ≤ a0)) fun x1 =>
 letE vB (decide (a0 ≤ (9007199254740992 : Int))) fun x2 =>
 letE vB (bif x1 then x2 else false) fun x3 =>
 retM x3

def series_Sane (a0 : (List GSample)) : Option (Bool) :=
 letE vI ((a0.length : Int)) fun x1 =>
 letE vB (decide ((64 : Int) < x1)) fun x2 =>
 iteM x2 (
 retM false) (
 letE vI ((a0.length : Int)) fun x3 =>
 loopM (fun (x4 : Int) => [(0, sl cGSample a0), (8, sl cGSample a0), (9, vI x3), (10, vI x4)]) (fun (x4 : Int) => []) (fun (x4 : Int) =>
 letE vB (decide (x4 < x3)) fun x5 =>
 iteM x5 (
 idxM a0 x4 fun x6 =>
 callM vB (fun x7 => [.box [vI x6.T, vI x6.V]]) (series_time x6.T) fun x7 =>
 letE vB (!x7) fun x8 =>
 iteM x8 (
 exitM <|
 retM false) (
 callM vB (fun x9 => [.box [vI x6.T, vI x6.V]]) (num_Sane x6.V) fun x9 =>
 letE vB (!x9) fun x10 =>
 iteM x10 (
 exitM <|
 retM false) (
 letE vB (decide ((0 : Int) < x4)) fun x11 =>
 iteM x11 (
 letE vI (wI (x4 - (1 : Int))) fun x12 =>
 idxM a0 x12 fun x13 =>
 letE vB (decide (x6.T ≤ x13.T)) fun x14 =>
 iteM x14 (
 exitM <|
 retM false) (
 letE vI (wI (x4 + (1 : Int))) fun x15 =>
 nextM x15)) (
 letE vI (wI (x4 - (1 : Int))) fun x16 =>
 letE vI (wI (x4 + (1 : Int))) fun x17 =>
 nextM x17)))) (
 exitM <|
 retM true)) (0 : Int))

def cmp_isNaN_string (a0 : Str) : Option (Bool) :=
 letE vB (!decide (a0 = a0)) fun x1 =>
 retM x1

def cmp_Compare_string (a0 : Str) (a1 : Str) : Option (Int) :=
 callM vB (fun x1 => []) (cmp_isNaN_string a0) fun x1 =>
 callM vB (fun x2 => []) (cmp_isNaN_string a1) fun x2 =>
 iteM x1 (
 iteM x2 (
 retM (0 : Int)) (
 retM (-1 : Int))) (
 iteM x2 (
 retM (1 : Int)) (
 letE vB (ltS a0 a1) fun x3 =>
 iteM x3 (
 retM (-1 : Int)) (
 letE vB (ltS a1 a0) fun x4 =>
 iteM x4 (
 retM (1 : Int)) (
 retM (0 : Int)))))

def cmp_Or_int (a0 : (List Int)) : Option (Int) :=
 letE vI ((a0.length : Int)) fun x1 =>
 loopM (fun (x2 : Int) => [(3, vI (0 : Int)), (6, sl cI a0), (7, vI x1), (8, vI x2)]) (fun (x2 : Int) => []) (fun (x2 : Int) =>
 letE vB (decide (x2 < x1)) fun x3 =>
 iteM x3 (
 idxM a0 x2 fun x4 =>
 letE vB (!decide (x4 = (0 : Int))) fun x5 =>
 iteM x5 (
 exitM <|
 retM x4) (
 letE vI (wI (x2 + (1 : Int))) fun x6 =>
 nextM x6)) (
 exitM <|
 retM (0 : Int))) (0 : Int)

def label_Compare_1 (a0 : GPair) (a1 : GPair) : Option (Int) :=
 drawM <|
 callM vI (fun x1 => [.box [vS a0.Name, vS a0.Value], .box [vS a1.Name, vS a1.Value]]) (cmp_Compare_string a0.Name a1.Name) fun x1 =>
 callM vI (fun x2 => [.box [vS a0.Name, vS a0.Value], .box [vS a1.Name, vS a1.Value]]) (cmp_Compare_string a0.Value a1.Value) fun x2 =>
 letE (sx cI) ([x1, x2] : (List Int)) fun x3 =>
 callM vI (fun x4 => [.box [vS a0.Name, vS a0.Value], .box [vS a1.Name, vS a1.Value]]) (cmp_Or_int x3) fun x4 =>
 retM x4

def slices_CompareFunc_Pair_Pair_Pair_Pair_label_Compare_1 (a0 : (List GPair)) (a1 : (List GPair)) : Option (Int) :=
 letE vI ((a0.length : Int)) fun x1 =>
 loopM (fun (x2 : Int) => [(0, sl cGPair a0), (1, sl cGPair a1), (2, .fn 51 [] []), (11, sl cGPair a0), (12, vI x1), (13, vI x2)]) (fun (x2 : Int) => []) (fun (x2 : Int) =>
 letE vB (decide (x2 < x1)) fun x3 =>
 iteM x3 (
 idxM a0 x2 fun x4 =>
 letE vI ((a1.length : Int)) fun x5 =>
 letE vB (decide (x5 ≤ x2)) fun x6 =>
 iteM x6 (
 exitM <|
 retM (1 : Int)) (
 idxM a1 x2 fun x7 =>
 callM vI (fun x8 => [.box [vS x4.Name, vS x4.Value], .box [vS x7.Name, vS x7.Value]]) (label_Compare_1 x4 x7) fun x8 =>
 letE vB (!decide (x8 = (0 : Int))) fun x9 =>
 iteM x9 (
 exitM <|
 retM x8) (
 letE vI (wI (x2 + (1 : Int))) fun x10 =>
 nextM x10))) (
 exitM <|
 letE vI ((a0.length : Int)) fun x11 =>
 letE vI ((a1.length : Int)) fun x12 =>
 letE vB (decide (x11 < x12)) fun x13 =>
 iteM x13 (
 retM (-1 : Int)) (
 retM (0 : Int)))) (0 : Int)

def label_Compare (a0 : (List GPair)) (a1 : (List GPair)) : Option (Int) :=
 callM (sl cGPair) (fun x1 => []) (label_counts a0) fun x1 =>
 callM (sl cGPair) (fun x2 => []) (label_counts a1) fun x2 =>
 callM vI (fun x3 => []) (slices_CompareFunc_Pair_Pair_Pair_Pair_label_Compare_1 x1 x2) fun x3 =>
 retM x3

def store_Sane (a0 : (List GSeries)) : Option (Bool) :=
 letE vI ((a0.length : Int)) fun x1 =>
 letE vB (decide ((32 : Int) < x1)) fun x2 =>
 iteM x2 (
 retM false) (
 letE vI ((a0.length : Int)) fun x3 =>
 loopM (fun (x4 : Int) => [(0, sl cGSeries a0), (8, sl cGSeries a0), (9, vI x3), (10, vI x4)]) (fun (x4 : Int) => []) (fun (x4 : Int) =>
 letE vB (decide (x4 < x3)) fun x5 =>
 iteM x5 (
 idxM a0 x4 fun x6 =>
 callM vB (fun x7 => [.box [sl cGPair x6.L, sl cGSample x6.S]]) (store_named x6.L) fun x7 =>
 letE vB (!x7) fun x8 =>
 iteM x8 (
 exitM <|
 retM false) (
 letE vI ((x6.S.length : Int)) fun x9 =>
 letE vB (decide (x9 = (0 : Int))) fun x10 =>
 iteM x10 (
 exitM <|
 retM false) (
 callM vB (fun x11 => [.box [sl cGPair x6.L, sl cGSample x6.S]]) (series_Sane x6.S) fun x11 =>
 letE vB (!x11) fun x12 =>
 iteM x12 (
 exitM <|
 retM false) (
 drawM <|
 letE vB (decide ((0 : Int) < x4)) fun x13 =>
 letE vI (wI (x4 - (1 : Int))) fun x14 =>
 iteM x13 (
 idxM a0 x14 fun x15 =>
 callM vI (fun x16 => [.box [sl cGPair x6.L, sl cGSample x6.S]]) (label_Compare x15.L x6.L) fun x16 =>
 letE vB (decide ((0 : Int) ≤ x16)) fun x17 =>
 iteM x17 (
 exitM <|
 retM false) (
 letE vI (wI (x4 + (1 : Int))) fun x18 =>
 nextM x18)) (
 letE vI (wI (x4 + (1 : Int))) fun x19 =>
 nextM x19))))) (
 exitM <|
 retM true)) (0 : Int))

def store_counted (a0 : (List GSeries)) : Option ((List GSeries)) :=
 callM vB (fun x1 => []) (store_Sane a0) fun x1 =>
 letE vB (!x1) fun x2 =>
 iteM x2 (
 retM ([] : (List GSeries))) (
 retM a0)

def store_seeker_compare (a0 : Gstore_seeker) (a1 : Int) : Option (Int) :=
 drawM <|
 idxM a0.st a1 fun x1 =>
 callM vI (fun x2 => [.box [sl cGSeries a0.st, sl cGPair a0.l]]) (label_Compare a0.l x1.L) fun x2 =>
 retM x2

def sort_Find_o (a0 : Int) (a1 : Gstore_seeker) : Option (Int × Bool) :=
 loopM (fun (x1 : Int × Int) => [(0, vI a0), (1, .fn 85 [.agg [sl cGSeries a1.st, sl cGPair a1.l]] []), (4, vI x1.1), (6, vI x1.2)]) (fun (x1 : Int × Int) => []) (fun (x1 : Int × Int) =>
 letE vB (decide (x1.1 < x1.2)) fun x2 =>
 iteM x2 (
 letE vI (wI (x1.1 + x1.2)) fun x3 =>
 letE (vK .u64) (IntKind.u64.wrap x3) fun x4 =>
 letE (vK .u64) (x4 / 2 ^ min (1 : Int).toNat 64) fun x5 =>
 letE vI (wI x5) fun x6 =>
 callM vI (fun x7 => []) (store_seeker_compare a1 x6) fun x7 =>
 letE vB (decide ((0 : Int) < x7)) fun x8 =>
 iteM x8 (
 letE vI (wI (x6 + (1 : Int))) fun x9 =>
 nextM (x9, x1.2)) (
 nextM (x1.1, x6))) (
 exitM <|
 letE vB (decide (x1.1 < a0)) fun x10 =>
 iteM x10 (
 callM vI (fun x11 => []) (store_seeker_compare a1 x1.1) fun x11 =>
 letE vB (decide (x11 = (0 : Int))) fun x12 =>
 retM (x1.1, x12)) (
 retM (x1.1, false)))) ((0 : Int), a0)

def store_find (a0 : (List GSeries)) (a1 : (List GPair)) : Option (Int × Bool) :=
 letE vI ((a0.length : Int)) fun x1 =>
 callO [] [.box [sl cGSeries a0, sl cGPair a1]] (fun x2 => .tup [vI x2.1, vB x2.2]) (fun x2 => [.box [sl cGSeries a0, sl cGPair a1]]) (sort_Find_o x1 (⟨a0, a1⟩ : Gstore_seeker)) fun x2 =>
 retM (x2.1, x2.2)

def series_counted (a0 : (List GSample)) : Option ((List GSample)) :=
 callM vB (fun x1 => []) (series_Sane a0) fun x1 =>
 letE vB (!x1) fun x2 =>
 iteM x2 (
 retM ([] : (List GSample))) (
 retM a0)

def slices_Clone_Sample_Sample (a0 : (List GSample)) : Option ((List GSample)) :=
 nilM a0 (
 retM ([] : (List GSample))) (
 bs0M <|
 gdM ((([] : (List GSample)).length + a0.length) * 16 ≤ 140737488355328) <|
 letO (so 0 cGSample) (fun x1 => [tk x1.length 2 39]) (([] : (List GSample)) ++ a0) fun x1 =>
 retM x1)

def slices_Clone_Series_Series (a0 : (List GSeries)) : Option ((List GSeries)) :=
 nilM a0 (
 retM ([] : (List GSeries))) (
 bs0M <|
 gdM ((([] : (List GSeries)).length + a0.length) * 48 ≤ 140737488355328) <|
 letO (so 0 cGSeries) (fun x1 => [tk x1.length 2 77]) (([] : (List GSeries)) ++ a0) fun x1 =>
 retM x1)

def series_Append (s : List GSample) (x : GSample) : Option (List GSample × Int) :=
  (series_counted s).bind fun c => (series_time x.T).bind fun a => (num_Sane x.V).bind fun b =>
  if a && b then
   (if (c.getLast?.map fun y => decide (x.T ≤ y.T)).getD false then some (c, 9) else
    (slices_Clone_Sample_Sample (if 64 ≤ c.length then c.drop 1 else c)).bind fun d => gdM ((d.length + 1) * 16 ≤ 140737488355328) <| some (d ++ [x], 0))
  else some (c, 2)

def store_Add (a0 : (List GSeries)) (a1 : (List GPair)) (a2 : GSample) : Option ((List GSeries) × Int) :=
 callM (sl cGSeries) (fun x1 => [.box [vI a2.T, vI a2.V]]) (store_counted a0) fun x1 =>
 callM vB (fun x2 => [.box [vI a2.T, vI a2.V]]) (store_named a1) fun x2 =>
 letE vB (!x2) fun x3 =>
 iteM x3 (
 retM (x1, (7 : Int))) (
 callM (fun x4 => .tup [vI x4.1, vB x4.2]) (fun x4 => [.box [vI a2.T, vI a2.V]]) (store_find x1 a1) fun x4 =>
 joinM (fun (x5 : (List GSample) × Bool) => [(0, sl cGSeries x1), (1, sl cGPair a1), (5, .ptr 0 0), (8, vI x4.1), (9, vB x5.2), (10, sl cGSample x5.1)]) (fun (x5 : (List GSample) × Bool) => [.box [vI a2.T, vI a2.V]]) (fun (x5 : (List GSample) × Bool) =>
 callM (fun x7 => .tup [(sl cGSample) x7.1, vI x7.2]) (fun x7 => [.box [vI a2.T, vI a2.V]]) (series_Append x5.1 a2) fun x7 =>
 letE vB (!decide (x7.2 = (0 : Int))) fun x8 =>
 iteM x8 (
 retM (x1, x7.2)) (
 letE vB (!x5.2) fun x9 =>
 letE vI ((x1.length : Int)) fun x10 =>
 letE vB (decide ((32 : Int) ≤ x10)) fun x11 =>
 letE vB (bif x9 then x11 else false) fun x12 =>
 iteM x12 (
 retM (x1, (10 : Int))) (
 callM (so 1 cGSeries) (fun x13 => [.box [vI a2.T, vI a2.V], tk x13.length 2 77]) (slices_Clone_Series_Series x1) fun x13 =>
 iteM x5.2 (
 regW 5 <|
 idxM x13 x4.1 fun x14 =>
 ownM 13 <|
 letO (so 1 cGSeries) (fun x15 => [.box [vI a2.T, vI a2.V], tk x15.length 2 77]) (x13.set x4.1.toNat (⟨x14.L, x7.1⟩ : GSeries)) fun x15 =>
 retM (x15, (0 : Int))) (
 linM 13 <|
 letE (sx cGSeries) ([(⟨a1, x7.1⟩ : GSeries)] : (List GSeries)) fun x16 =>
 callP [1] (fun x17 => so 2 cGSeries x17) (fun x17 => [.box [vI a2.T, vI a2.V], .dead, tk x17.length 2 77]) (slicesInsert_GSeries x4.1 x16 x13) fun x17 =>
 retM (x17, (0 : Int)))))) <|
 iteM x4.2 (
 idxM x1 x4.1 fun x6 =>
 nextM (x6.S, true)) (
 nextM (([] : List GSample), false)))

def law19_down (a0 : Int) : Option (GRule) :=
 retM (⟨([68, 111, 119, 110] : Str), (⟨(⟨([117, 112] : Str), ([] : (List GMatch))⟩ : GSel), (5 : Int), (0 : Int)⟩ : GExpr), a0, (0 : Int), ([] : (List GPair))⟩ : GRule)

def sel_Sane (a0 : GSel) : Option (Bool) :=
 callM vB (fun x1 => [.box [vS a0.Name, sl cGMatch a0.M]]) (label_Name a0.Name) fun x1 =>
 letE vB (!x1) fun x2 =>
 iteM x2 (
 retM false) (
 letE vI ((a0.M.length : Int)) fun x3 =>
 letE vB (decide ((8 : Int) < x3)) fun x4 =>
 iteM x4 (
 retM false) (
 letE vI ((a0.M.length : Int)) fun x5 =>
 loopM (fun (x6 : Int) => [(16, sl cGMatch a0.M), (17, vI x5), (18, vI x6)]) (fun (x6 : Int) => []) (fun (x6 : Int) =>
 letE vB (decide (x6 < x5)) fun x7 =>
 iteM x7 (
 idxM a0.M x6 fun x8 =>
 callM vB (fun x9 => [.box [vS x8.Name, vS x8.Value, vB x8.Not]]) (label_Name x8.Name) fun x9 =>
 letE vB (!x9) fun x10 =>
 iteM x10 (
 exitM <|
 retM false) (
 letE vI ((x8.Value.length : Int)) fun x11 =>
 letE vB (decide ((64 : Int) < x11)) fun x12 =>
 iteM x12 (
 exitM <|
 retM false) (
 letE vI (wI (x6 + (1 : Int))) fun x13 =>
 nextM x13))) (
 exitM <|
 retM true)) (0 : Int)))

def cond_isOp (a0 : Int) : Option (Bool) :=
 letE vB (decide ((1 : Int) ≤ a0)) fun x1 =>
 letE vB (decide (a0 ≤ (6 : Int))) fun x2 =>
 letE vB (bif x1 then x2 else false) fun x3 =>
 retM x3

def cond_Sane (a0 : GExpr) : Option (Bool) :=
 callM vB (fun x1 => [.box [vS a0.S.Name, sl cGMatch a0.S.M, vI a0.Op, vI a0.V]]) (sel_Sane a0.S) fun x1 =>
 iteM x1 (
 callM vB (fun x2 => [.box [vS a0.S.Name, sl cGMatch a0.S.M, vI a0.Op, vI a0.V]]) (cond_isOp a0.Op) fun x2 =>
 iteM x2 (
 callM vB (fun x3 => [.box [vS a0.S.Name, sl cGMatch a0.S.M, vI a0.Op, vI a0.V]]) (num_Sane a0.V) fun x3 =>
 retM x3) (
 retM false)) (
 retM false)

def dur_Sane (a0 : Int) : Option (Bool) :=
 letE vB (decide ((0 : Int) ≤ a0)) fun x1 =>
 letE vB (decide (a0 ≤ (9007199254740992 : Int))) fun x2 =>
 letE vB (bif x1 then x2 else false) fun x3 =>
 retM x3

def rule_Reserved (a0 : Str) : Option (Bool) :=
 letE vB (decide (a0 = ([95, 95, 110, 97, 109, 101, 95, 95] : Str))) fun x1 =>
 letE vB (decide (a0 = ([97, 108, 101, 114, 116, 110, 97, 109, 101] : Str))) fun x2 =>
 letE vB (bif x1 then true else x2) fun x3 =>
 letE vB (decide (a0 = ([97, 108, 101, 114, 116, 115, 116, 97, 116, 101] : Str))) fun x4 =>
 letE vB (bif x3 then true else x4) fun x5 =>
 retM x5

def rule_reserved (a0 : (List GPair)) : Option (Bool) :=
 letE vI ((a0.length : Int)) fun x1 =>
 loopM (fun (x2 : Int) => [(5, sl cGPair a0), (6, vI x1), (7, vI x2)]) (fun (x2 : Int) => []) (fun (x2 : Int) =>
 letE vB (decide (x2 < x1)) fun x3 =>
 iteM x3 (
 idxM a0 x2 fun x4 =>
 callM vB (fun x5 => [.box [vS x4.Name, vS x4.Value]]) (rule_Reserved x4.Name) fun x5 =>
 iteM x5 (
 exitM <|
 retM true) (
 letE vI (wI (x2 + (1 : Int))) fun x6 =>
 nextM x6)) (
 exitM <|
 retM false)) (0 : Int)

def rule_Sane (a0 : GRule) : Option (Bool) :=
 callM vB (fun x1 => [.box [vS a0.Name, vS a0.E.S.Name, sl cGMatch a0.E.S.M, vI a0.E.Op, vI a0.E.V, vI a0.For, vI a0.Keep, sl cGPair a0.Labels]]) (label_Name a0.Name) fun x1 =>
 iteM x1 (
 callM vB (fun x2 => [.box [vS a0.Name, vS a0.E.S.Name, sl cGMatch a0.E.S.M, vI a0.E.Op, vI a0.E.V, vI a0.For, vI a0.Keep, sl cGPair a0.Labels]]) (cond_Sane a0.E) fun x2 =>
 iteM x2 (
 callM vB (fun x3 => [.box [vS a0.Name, vS a0.E.S.Name, sl cGMatch a0.E.S.M, vI a0.E.Op, vI a0.E.V, vI a0.For, vI a0.Keep, sl cGPair a0.Labels]]) (dur_Sane a0.For) fun x3 =>
 iteM x3 (
 callM vB (fun x4 => [.box [vS a0.Name, vS a0.E.S.Name, sl cGMatch a0.E.S.M, vI a0.E.Op, vI a0.E.V, vI a0.For, vI a0.Keep, sl cGPair a0.Labels]]) (dur_Sane a0.Keep) fun x4 =>
 iteM x4 (
 callM vB (fun x5 => [.box [vS a0.Name, vS a0.E.S.Name, sl cGMatch a0.E.S.M, vI a0.E.Op, vI a0.E.V, vI a0.For, vI a0.Keep, sl cGPair a0.Labels]]) (label_Sane a0.Labels) fun x5 =>
 iteM x5 (
 callM vB (fun x6 => [.box [vS a0.Name, vS a0.E.S.Name, sl cGMatch a0.E.S.M, vI a0.E.Op, vI a0.E.V, vI a0.For, vI a0.Keep, sl cGPair a0.Labels]]) (rule_reserved a0.Labels) fun x6 =>
 letE vB (!x6) fun x7 =>
 retM x7) (
 retM false)) (
 retM false)) (
 retM false)) (
 retM false)) (
 retM false)

def sel_Fits (a0 : GSel) (a1 : (List GPair)) : Option (Bool) :=
 callM vB (fun x1 => [.box [vS a0.Name, sl cGMatch a0.M]]) (sel_Sane a0) fun x1 =>
 letE vB (!x1) fun x2 =>
 iteM x2 (
 retM false) (
 callM vB (fun x3 => [.box [vS a0.Name, sl cGMatch a0.M]]) (label_Sane a1) fun x3 =>
 letE vB (!x3) fun x4 =>
 iteM x4 (
 retM false) (
 callM (fun x5 => .tup [vS x5.1, vB x5.2]) (fun x5 => [.box [vS a0.Name, sl cGMatch a0.M]]) (label_Get a1 ([95, 95, 110, 97, 109, 101, 95, 95] : Str)) fun x5 =>
 letE vB (!x5.2) fun x6 =>
 iteM x6 (
 retM false) (
 letE vB (!decide (x5.1 = a0.Name)) fun x7 =>
 iteM x7 (
 retM false) (
 letE vI ((a0.M.length : Int)) fun x8 =>
 loopM (fun (x9 : Int) => [(1, sl cGPair a1), (33, sl cGMatch a0.M), (34, vI x8), (35, vI x9)]) (fun (x9 : Int) => []) (fun (x9 : Int) =>
 letE vB (decide (x9 < x8)) fun x10 =>
 iteM x10 (
 idxM a0.M x9 fun x11 =>
 callM (fun x12 => .tup [vS x12.1, vB x12.2]) (fun x12 => [.box [vS x11.Name, vS x11.Value, vB x11.Not]]) (label_Get a1 x11.Name) fun x12 =>
 letE vB (decide (x12.1 = x11.Value)) fun x13 =>
 letE vB (x13 == x11.Not) fun x14 =>
 iteM x14 (
 exitM <|
 retM false) (
 letE vI (wI (x9 + (1 : Int))) fun x15 =>
 nextM x15)) (
 exitM <|
 retM true)) (0 : Int)))))

def atR (t w : Int) : List GSample → GSample × Bool
  | [] => (⟨0, 0⟩, false)
  | x :: l => if t < x.T then atR t w l else if wI (t - x.T) < w then (x, true) else (⟨0, 0⟩, false)
 def series_At (s : List GSample) (t w : Int) : Option (GSample × Bool) := (series_counted s).bind fun c => some (atR t w c.reverse)

def store_Select (a0 : (List GSeries)) (a1 : GSel) (a2 : Int) (a3 : Int) : Option ((List GFound)) :=
 callM (sl cGSeries) (fun x1 => [.box [vS a1.Name, sl cGMatch a1.M]]) (store_counted a0) fun x1 =>
 letE vI ((x1.length : Int)) fun x2 =>
 tokM 9 3 41 <|
 loopM (fun (x3 : Int × (List GFound)) => [(2, vI a2), (3, vI a3), (5, .ptr 0 0), (9, so 1 cGFound x3.2), (15, sl cGSeries x1), (16, vI x2), (17, vI x3.1)]) (fun (x3 : Int × (List GFound)) => [.box [vS a1.Name, sl cGMatch a1.M], tk x3.2.length 3 41]) (fun (x3 : Int × (List GFound)) =>
 letE vB (decide (x3.1 < x2)) fun x4 =>
 iteM x4 (
 idxM x1 x3.1 fun x5 =>
 callM vB (fun x6 => [.box [vS a1.Name, sl cGMatch a1.M], tk x3.2.length 3 41, .box [sl cGPair x5.L, sl cGSample x5.S]]) (sel_Fits a1 x5.L) fun x6 =>
 letE vB (!x6) fun x7 =>
 iteM x7 (
 letE vI (wI (x3.1 + (1 : Int))) fun x8 =>
 nextM (x8, x3.2)) (
 callM (fun x9 => .tup [(ag cGSample) x9.1, vB x9.2]) (fun x9 => [.box [vS a1.Name, sl cGMatch a1.M], tk x3.2.length 3 41, .box [sl cGPair x5.L, sl cGSample x5.S]]) (series_At x5.S a2 a3) fun x9 =>
 iteM x9.2 (
 letE (sx cGFound) ([(⟨x5.L, x9.1⟩ : GFound)] : (List GFound)) fun x10 =>
 gdM ((x3.2.length + x10.length) * 40 ≤ 140737488355328) <|
 letO (so 1 cGFound) (fun x11 => [.box [vS a1.Name, sl cGMatch a1.M], tk x11.length 3 41, .box [sl cGPair x5.L, sl cGSample x5.S], .box [vI x9.1.T, vI x9.1.V]]) (x3.2 ++ x10) fun x11 =>
 letE vI (wI (x3.1 + (1 : Int))) fun x12 =>
 nextM (x12, x11)) (
 letE vI (wI (x3.1 + (1 : Int))) fun x13 =>
 nextM (x13, x3.2)))) (
 exitM <|
 retM x3.2)) ((0 : Int), ([] : List GFound))

def cond_Holds (a0 : Int) (a1 : Int) (a2 : Int) : Option (Bool) :=
 letE vB (decide (a0 = (1 : Int))) fun x1 =>
 iteM x1 (
 letE vB (decide (a2 < a1)) fun x2 =>
 retM x2) (
 letE vB (decide (a0 = (2 : Int))) fun x3 =>
 iteM x3 (
 letE vB (decide (a2 ≤ a1)) fun x4 =>
 retM x4) (
 letE vB (decide (a0 = (3 : Int))) fun x5 =>
 iteM x5 (
 letE vB (decide (a1 < a2)) fun x6 =>
 retM x6) (
 letE vB (decide (a0 = (4 : Int))) fun x7 =>
 iteM x7 (
 letE vB (decide (a1 ≤ a2)) fun x8 =>
 retM x8) (
 letE vB (decide (a0 = (5 : Int))) fun x9 =>
 iteM x9 (
 letE vB (decide (a1 = a2)) fun x10 =>
 retM x10) (
 letE vB (decide (a0 = (6 : Int))) fun x11 =>
 iteM x11 (
 letE vB (!decide (a1 = a2)) fun x12 =>
 retM x12) (
 retM false))))))

def label_Without (a0 : (List GPair)) (a1 : Str) : Option ((List GPair)) :=
 callM (sl cGPair) (fun x1 => []) (label_counts a0) fun x1 =>
 letE vI ((x1.length : Int)) fun x2 =>
 tokM 5 2 51 <|
 loopM (fun (x3 : Int × (List GPair)) => [(1, vS a1), (5, so 0 cGPair x3.2), (9, sl cGPair x1), (10, vI x2), (11, vI x3.1)]) (fun (x3 : Int × (List GPair)) => [tk x3.2.length 2 51]) (fun (x3 : Int × (List GPair)) =>
 letE vB (decide (x3.1 < x2)) fun x4 =>
 iteM x4 (
 idxM x1 x3.1 fun x5 =>
 letE vB (!decide (x5.Name = a1)) fun x6 =>
 iteM x6 (
 letE (sx cGPair) ([x5] : (List GPair)) fun x7 =>
 gdM ((x3.2.length + x7.length) * 32 ≤ 140737488355328) <|
 letO (so 0 cGPair) (fun x8 => [tk x8.length 2 51, .box [vS x5.Name, vS x5.Value]]) (x3.2 ++ x7) fun x8 =>
 letE vI (wI (x3.1 + (1 : Int))) fun x9 =>
 nextM (x9, x8)) (
 letE vI (wI (x3.1 + (1 : Int))) fun x10 =>
 nextM (x10, x3.2))) (
 exitM <|
 retM x3.2)) ((0 : Int), ([] : List GPair))

def slices_Clone_Pair_Pair (a0 : (List GPair)) : Option ((List GPair)) :=
 nilM a0 (
 retM ([] : (List GPair))) (
 bs0M <|
 gdM ((([] : (List GPair)).length + a0.length) * 32 ≤ 140737488355328) <|
 letO (so 0 cGPair) (fun x1 => [tk x1.length 2 51]) (([] : (List GPair)) ++ a0) fun x1 =>
 retM x1)

def label_Make_1 (a0 : GPair) (a1 : GPair) : Option (Int) :=
 callM vI (fun x1 => [.box [vS a0.Name, vS a0.Value], .box [vS a1.Name, vS a1.Value]]) (cmp_Compare_string a0.Name a1.Name) fun x1 =>
 retM x1

def label_Make (a0 : (List GPair)) : Option ((List GPair) × Int) :=
 letE vI ((a0.length : Int)) fun x1 =>
 letE vB (decide ((16 : Int) < x1)) fun x2 =>
 iteM x2 (
 retM (([] : (List GPair)), (4 : Int))) (
 letE vI ((a0.length : Int)) fun x3 =>
 loopM (fun (x4 : Int) => [(0, sl cGPair a0), (15, sl cGPair a0), (16, vI x3), (17, vI x4)]) (fun (x4 : Int) => []) (fun (x4 : Int) =>
 letE vB (decide (x4 < x3)) fun x5 =>
 iteM x5 (
 idxM a0 x4 fun x6 =>
 letE vI ((x6.Value.length : Int)) fun x7 =>
 letE vB (decide ((64 : Int) < x7)) fun x8 =>
 iteM x8 (
 exitM <|
 retM (([] : (List GPair)), (4 : Int))) (
 letE vI (wI (x4 + (1 : Int))) fun x9 =>
 nextM x9)) (
 exitM <|
 letE vI ((a0.length : Int)) fun x10 =>
 loopM (fun (x11 : Int) => [(0, sl cGPair a0), (26, sl cGPair a0), (27, vI x10), (28, vI x11)]) (fun (x11 : Int) => []) (fun (x11 : Int) =>
 letE vB (decide (x11 < x10)) fun x12 =>
 iteM x12 (
 idxM a0 x11 fun x13 =>
 callM vB (fun x14 => [.box [vS x13.Name, vS x13.Value]]) (label_Name x13.Name) fun x14 =>
 letE vB (!x14) fun x15 =>
 iteM x15 (
 exitM <|
 retM (([] : (List GPair)), (7 : Int))) (
 letE vI (wI (x11 + (1 : Int))) fun x16 =>
 nextM x16)) (
 exitM <|
 letO (fun _ => .map 0) (fun x17 => [.map (mp kS vB x17)]) ([] : (List (Str × Bool))) fun x17 =>
 letE vI ((a0.length : Int)) fun x18 =>
 loopM (fun (x19 : (List (Str × Bool)) × Int) => [(0, sl cGPair a0), (8, .map 0), (38, sl cGPair a0), (39, vI x18), (40, vI x19.2)]) (fun (x19 : (List (Str × Bool)) × Int) => [.map (mp kS vB x19.1)]) (fun (x19 : (List (Str × Bool)) × Int) =>
 letE vB (decide (x19.2 < x18)) fun x20 =>
 iteM x20 (
 idxM a0 x19.2 fun x21 =>
 letE vB ((mlk x19.1 x21.Name).getD false) fun x22 =>
 iteM x22 (
 exitM <|
 retM (([] : (List GPair)), (6 : Int))) (
 letO (fun _ => .any) (fun x23 => [.map (mp kS vB x23), .box [vS x21.Name, vS x21.Value]]) (mst x19.1 x21.Name true) fun x23 =>
 letE vI (wI (x19.2 + (1 : Int))) fun x24 =>
 nextM (x23, x24))) (
 exitM <|
 callM (so 1 cGPair) (fun x25 => [.map (mp kS vB x19.1), tk x25.length 2 51]) (slices_Clone_Pair_Pair a0) fun x25 =>
 unboxM 11 <|
 sortM label_Make_1 x25 fun x26 =>
 pubbM 11 <|
 retM (x26, (0 : Int)))) (x17, (0 : Int)))) (0 : Int))) (0 : Int))

def label_Merge (a0 : (List GPair)) (a1 : (List GPair)) : Option ((List GPair) × Int) :=
 callM (sl cGPair) (fun x1 => []) (label_counts a1) fun x1 =>
 callM (sl cGPair) (fun x2 => []) (label_counts a0) fun x2 =>
 letE vI ((x2.length : Int)) fun x3 =>
 tokM 6 2 51 <|
 loopM (fun (x4 : Int × (List GPair)) => [(1, sl cGPair x1), (6, so 0 cGPair x4.2), (14, sl cGPair x2), (15, vI x3), (16, vI x4.1)]) (fun (x4 : Int × (List GPair)) => [tk x4.2.length 2 51]) (fun (x4 : Int × (List GPair)) =>
 letE vB (decide (x4.1 < x3)) fun x5 =>
 iteM x5 (
 idxM x2 x4.1 fun x6 =>
 callM (fun x7 => .tup [vS x7.1, vB x7.2]) (fun x7 => [tk x4.2.length 2 51, .box [vS x6.Name, vS x6.Value]]) (label_Get x1 x6.Name) fun x7 =>
 letE vB (!x7.2) fun x8 =>
 iteM x8 (
 letE (sx cGPair) ([x6] : (List GPair)) fun x9 =>
 gdM ((x4.2.length + x9.length) * 32 ≤ 140737488355328) <|
 letO (so 0 cGPair) (fun x10 => [tk x10.length 2 51, .box [vS x6.Name, vS x6.Value]]) (x4.2 ++ x9) fun x10 =>
 letE vI (wI (x4.1 + (1 : Int))) fun x11 =>
 nextM (x11, x10)) (
 letE vI (wI (x4.1 + (1 : Int))) fun x12 =>
 nextM (x12, x4.2))) (
 exitM <|
 gdM ((x4.2.length + x1.length) * 32 ≤ 140737488355328) <|
 letO (so 0 cGPair) (fun x13 => [tk x13.length 2 51]) (x4.2 ++ x1) fun x13 =>
 callM (fun x14 => .tup [(sl cGPair) x14.1, vI x14.2]) (fun x14 => [.tok x13.length 2 51 false]) (label_Make x13) fun x14 =>
 retM (x14.1, x14.2))) ((0 : Int), ([] : List GPair))

def eval_alert (a0 : GRule) (a1 : (List GPair)) : Option ((List GPair) × Bool) :=
 permM [(false, 0), (false, 2), (false, 3), (true, 1), (true, 4), (false, 5), (false, 6), (false, 7), (false, 8), (false, 9)] <|
 callM (so 1 cGPair) (fun x1 => [.box [vS a0.Name, vS a0.E.S.Name, sl cGMatch a0.E.S.M, vI a0.E.Op, vI a0.E.V, vI a0.For, vI a0.Keep, sl cGPair a0.Labels], tk x1.length 2 51]) (label_Without a1 ([95, 95, 110, 97, 109, 101, 95, 95] : Str)) fun x1 =>
 callM (fun x2 => .tup [(sl cGPair) x2.1, vI x2.2]) (fun x2 => [.box [vS a0.Name, vS a0.E.S.Name, sl cGMatch a0.E.S.M, vI a0.E.Op, vI a0.E.V, vI a0.For, vI a0.Keep, sl cGPair a0.Labels], .tok x1.length 2 51 false]) (label_Merge x1 a0.Labels) fun x2 =>
 letE vB (!decide (x2.2 = (0 : Int))) fun x3 =>
 iteM x3 (
 retM (([] : (List GPair)), false)) (
 letE (sx cGPair) ([(⟨([97, 108, 101, 114, 116, 110, 97, 109, 101] : Str), a0.Name⟩ : GPair)] : (List GPair)) fun x4 =>
 callM (fun x5 => .tup [(sl cGPair) x5.1, vI x5.2]) (fun x5 => [.box [vS a0.Name, vS a0.E.S.Name, sl cGMatch a0.E.S.M, vI a0.E.Op, vI a0.E.V, vI a0.For, vI a0.Keep, sl cGPair a0.Labels], .tok x1.length 2 51 false]) (label_Merge x2.1 x4) fun x5 =>
 letE vB (!decide (x5.2 = (0 : Int))) fun x6 =>
 iteM x6 (
 retM (([] : (List GPair)), false)) (
 retM (x5.1, true)))

def eval_among (a0 : (List GFound)) (a1 : (List GPair)) : Option (Bool) :=
 letE vI ((a0.length : Int)) fun x1 =>
 loopM (fun (x2 : Int) => [(1, sl cGPair a1), (7, sl cGFound a0), (8, vI x1), (9, vI x2)]) (fun (x2 : Int) => []) (fun (x2 : Int) =>
 letE vB (decide (x2 < x1)) fun x3 =>
 iteM x3 (
 idxM a0 x2 fun x4 =>
 callM vI (fun x5 => [.box [sl cGPair x4.L, vI x4.X.T, vI x4.X.V]]) (label_Compare x4.L a1) fun x5 =>
 letE vB (decide (x5 = (0 : Int))) fun x6 =>
 iteM x6 (
 exitM <|
 retM true) (
 letE vI (wI (x2 + (1 : Int))) fun x7 =>
 nextM x7)) (
 exitM <|
 retM false)) (0 : Int)

def eval_Rule (a0 : (List GSeries)) (a1 : GRule) (a2 : Int) : Option ((List GFound)) :=
 callM vB (fun x1 => [.box [vS a1.Name, vS a1.E.S.Name, sl cGMatch a1.E.S.M, vI a1.E.Op, vI a1.E.V, vI a1.For, vI a1.Keep, sl cGPair a1.Labels]]) (rule_Sane a1) fun x1 =>
 letE vB (!x1) fun x2 =>
 iteM x2 (
 retM ([] : (List GFound))) (
 callM (so 2 cGFound) (fun x3 => [.box [vS a1.Name, vS a1.E.S.Name, sl cGMatch a1.E.S.M, vI a1.E.Op, vI a1.E.V, vI a1.For, vI a1.Keep, sl cGPair a1.Labels], .dead, tk x3.length 3 41]) (store_Select a0 a1.E.S a2 (300000 : Int)) fun x3 =>
 letE vI ((x3.length : Int)) fun x4 =>
 tokM 7 3 41 <|
 shM 3 <|
 loopM (fun (x5 : Int × (List GFound)) => [(4, .ptr 0 0), (7, so 3 cGFound x5.2), (20, so 2 cGFound x3), (21, vI x4), (22, vI x5.1)]) (fun (x5 : Int × (List GFound)) => [.box [vS a1.Name, vS a1.E.S.Name, sl cGMatch a1.E.S.M, vI a1.E.Op, vI a1.E.V, vI a1.For, vI a1.Keep, sl cGPair a1.Labels], .dead, tk x3.length 3 41, .tok x5.2.length 3 41 false]) (fun (x5 : Int × (List GFound)) =>
 letE vB (decide (x5.1 < x4)) fun x6 =>
 iteM x6 (
 idxM x3 x5.1 fun x7 =>
 callM vB (fun x8 => [.box [vS a1.Name, vS a1.E.S.Name, sl cGMatch a1.E.S.M, vI a1.E.Op, vI a1.E.V, vI a1.For, vI a1.Keep, sl cGPair a1.Labels], .dead, tk x3.length 3 41, .tok x5.2.length 3 41 false, .box [sl cGPair x7.L, vI x7.X.T, vI x7.X.V]]) (cond_Holds a1.E.Op x7.X.V a1.E.V) fun x8 =>
 letE vB (!x8) fun x9 =>
 iteM x9 (
 letE vI (wI (x5.1 + (1 : Int))) fun x10 =>
 nextM (x10, x5.2)) (
 callM (fun x11 => .tup [(sl cGPair) x11.1, vB x11.2]) (fun x11 => [.box [vS a1.Name, vS a1.E.S.Name, sl cGMatch a1.E.S.M, vI a1.E.Op, vI a1.E.V, vI a1.For, vI a1.Keep, sl cGPair a1.Labels], .dead, tk x3.length 3 41, .tok x5.2.length 3 41 false, .box [sl cGPair x7.L, vI x7.X.T, vI x7.X.V]]) (eval_alert a1 x7.L) fun x11 =>
 iteM x11.2 (
 callM vB (fun x12 => [.box [vS a1.Name, vS a1.E.S.Name, sl cGMatch a1.E.S.M, vI a1.E.Op, vI a1.E.V, vI a1.For, vI a1.Keep, sl cGPair a1.Labels], .dead, tk x3.length 3 41, .tok x5.2.length 3 41 false, .box [sl cGPair x7.L, vI x7.X.T, vI x7.X.V]]) (eval_among x5.2 x11.1) fun x12 =>
 letE vB (!x12) fun x13 =>
 iteM x13 (
 letE (sx cGFound) ([(⟨x11.1, x7.X⟩ : GFound)] : (List GFound)) fun x14 =>
 gdM ((x5.2.length + x14.length) * 40 ≤ 140737488355328) <|
 letO (so 3 cGFound) (fun x15 => [.box [vS a1.Name, vS a1.E.S.Name, sl cGMatch a1.E.S.M, vI a1.E.Op, vI a1.E.V, vI a1.For, vI a1.Keep, sl cGPair a1.Labels], .dead, tk x3.length 3 41, .tok x15.length 3 41 false, .box [sl cGPair x7.L, vI x7.X.T, vI x7.X.V]]) (x5.2 ++ x14) fun x15 =>
 letE vI (wI (x5.1 + (1 : Int))) fun x16 =>
 nextM (x16, x15)) (
 letE vI (wI (x5.1 + (1 : Int))) fun x17 =>
 nextM (x17, x5.2))) (
 letE vI (wI (x5.1 + (1 : Int))) fun x18 =>
 nextM (x18, x5.2)))) (
 exitM <|
 retM x5.2)) ((0 : Int), ([] : List GFound)))

def eval_counted (a0 : (List GSeries)) : Option ((List GSeries)) :=
 callM vB (fun x1 => []) (store_Sane a0) fun x1 =>
 letE vB (!x1) fun x2 =>
 iteM x2 (
 retM ([] : (List GSeries))) (
 retM a0)

def hold_time (a0 : Int) : Option (Bool) :=
 letE vB (decide ((0 : Int) ≤ a0)) fun x1 =>
 letE vB (decide (a0 ≤ (9007199254740992 : Int))) fun x2 =>
 letE vB (bif x1 then x2 else false) fun x3 =>
 retM x3

def hold_Sane (a0 : GHold) : Option (Bool) :=
 callM vB (fun x1 => [.box [vB a0.On, vI a0.Since, vB a0.Hit, vI a0.Fired]]) (hold_time a0.Since) fun x1 =>
 letE vB (!x1) fun x2 =>
 iteM x2 (
 retM false) (
 callM vB (fun x3 => [.box [vB a0.On, vI a0.Since, vB a0.Hit, vI a0.Fired]]) (hold_time a0.Fired) fun x3 =>
 letE vB (!x3) fun x4 =>
 iteM x4 (
 retM false) (
 iteM a0.On (
 iteM a0.Hit (
 letE vB (bif true then true else false) fun x5 =>
 retM x5) (
 letE vB (decide (a0.Fired = (0 : Int))) fun x6 =>
 letE vB (bif false then true else x6) fun x7 =>
 retM x7)) (
 letE vB (decide (a0.Since = (0 : Int))) fun x8 =>
 iteM x8 (
 iteM a0.Hit (
 letE vB (bif true then true else false) fun x9 =>
 retM x9) (
 letE vB (decide (a0.Fired = (0 : Int))) fun x10 =>
 letE vB (bif false then true else x10) fun x11 =>
 retM x11)) (
 retM false))))

def table_Sane (a0 : GTable) : Option (Bool) :=
 letE vI ((a0.A.length : Int)) fun x1 =>
 letE vB (decide ((16 : Int) < x1)) fun x2 =>
 iteM x2 (
 retM false) (
 letE vB (decide (a0.Full < (0 : Int))) fun x3 =>
 iteM x3 (
 retM false) (
 letE vB (decide ((9007199254740992 : Int) < a0.Full)) fun x4 =>
 iteM x4 (
 retM false) (
 letE vI ((a0.A.length : Int)) fun x5 =>
 loopM (fun (x6 : Int) => [(1, .ptr 0 0), (20, sl cGAlert a0.A), (21, vI x5), (22, vI x6)]) (fun (x6 : Int) => [.box [sl cGAlert a0.A, vI a0.Full]]) (fun (x6 : Int) =>
 letE vB (decide (x6 < x5)) fun x7 =>
 iteM x7 (
 idxM a0.A x6 fun x8 =>
 callM vB (fun x9 => [.box [sl cGAlert a0.A, vI a0.Full], .box [sl cGPair x8.L, vB x8.H.On, vI x8.H.Since, vB x8.H.Hit, vI x8.H.Fired, vI x8.State, vI x8.V]]) (label_Sane x8.L) fun x9 =>
 letE vB (!x9) fun x10 =>
 iteM x10 (
 exitM <|
 retM false) (
 callM vB (fun x11 => [.box [sl cGAlert a0.A, vI a0.Full], .box [sl cGPair x8.L, vB x8.H.On, vI x8.H.Since, vB x8.H.Hit, vI x8.H.Fired, vI x8.State, vI x8.V]]) (hold_Sane x8.H) fun x11 =>
 letE vB (!x11) fun x12 =>
 iteM x12 (
 exitM <|
 retM false) (
 letE vB (decide (x8.State < (0 : Int))) fun x13 =>
 iteM x13 (
 exitM <|
 retM false) (
 letE vB (decide ((2 : Int) < x8.State)) fun x14 =>
 iteM x14 (
 exitM <|
 retM false) (
 drawM <|
 letE vB (decide ((0 : Int) < x6)) fun x15 =>
 iteM x15 (
 letE vI (wI (x6 - (1 : Int))) fun x16 =>
 idxM a0.A x16 fun x17 =>
 callM vI (fun x18 => [.box [sl cGAlert a0.A, vI a0.Full], .box [sl cGPair x8.L, vB x8.H.On, vI x8.H.Since, vB x8.H.Hit, vI x8.H.Fired, vI x8.State, vI x8.V]]) (label_Compare x17.L x8.L) fun x18 =>
 letE vB (decide ((0 : Int) ≤ x18)) fun x19 =>
 iteM x19 (
 exitM <|
 retM false) (
 letE vI (wI (x6 + (1 : Int))) fun x20 =>
 nextM x20)) (
 letE vI (wI (x6 - (1 : Int))) fun x21 =>
 letE vI (wI (x6 + (1 : Int))) fun x22 =>
 nextM x22)))))) (
 exitM <|
 retM true)) (0 : Int))))

def table_counted (a0 : GTable) : Option (GTable) :=
 callM vB (fun x1 => [.box [sl cGAlert a0.A, vI a0.Full], .box [.v (.slice none 0 0), vI (0 : Int)]]) (table_Sane a0) fun x1 =>
 letE vB (!x1) fun x2 =>
 iteM x2 (
 retM (⟨([] : (List GAlert)), (0 : Int)⟩ : GTable)) (
 retM a0)

def strconv_small (a0 : Int) : Option (Str) :=
 letE vB (decide (a0 < (10 : Int))) fun x1 =>
 iteM x1 (
 letE vI (wI (a0 + (1 : Int))) fun x2 =>
 gdM (0 ≤ a0 ∧ a0 ≤ x2 ∧ x2 ≤ (([48, 49, 50, 51, 52, 53, 54, 55, 56, 57, 97, 98, 99, 100, 101, 102, 103, 104, 105, 106, 107, 108, 109, 110, 111, 112, 113, 114, 115, 116, 117, 118, 119, 120, 121, 122] : Str).length : Int)) <|
 letE vS ((([48, 49, 50, 51, 52, 53, 54, 55, 56, 57, 97, 98, 99, 100, 101, 102, 103, 104, 105, 106, 107, 108, 109, 110, 111, 112, 113, 114, 115, 116, 117, 118, 119, 120, 121, 122] : Str).take x2.toNat).drop a0.toNat) fun x3 =>
 retM x3) (
 letE vI (wI (a0 * (2 : Int))) fun x4 =>
 letE vI (wI (a0 * (2 : Int))) fun x5 =>
 letE vI (wI (x5 + (2 : Int))) fun x6 =>
 gdM (0 ≤ x4 ∧ x4 ≤ x6 ∧ x6 ≤ (([48, 48, 48, 49, 48, 50, 48, 51, 48, 52, 48, 53, 48, 54, 48, 55, 48, 56, 48, 57, 49, 48, 49, 49, 49, 50, 49, 51, 49, 52, 49, 53, 49, 54, 49, 55, 49, 56, 49, 57, 50, 48, 50, 49, 50, 50, 50, 51, 50, 52, 50, 53, 50, 54, 50, 55, 50, 56, 50, 57, 51, 48, 51, 49, 51, 50, 51, 51, 51, 52, 51, 53, 51, 54, 51, 55, 51, 56, 51, 57, 52, 48, 52, 49, 52, 50, 52, 51, 52, 52, 52, 53, 52, 54, 52, 55, 52, 56, 52, 57, 53, 48, 53, 49, 53, 50, 53, 51, 53, 52, 53, 53, 53, 54, 53, 55, 53, 56, 53, 57, 54, 48, 54, 49, 54, 50, 54, 51, 54, 52, 54, 53, 54, 54, 54, 55, 54, 56, 54, 57, 55, 48, 55, 49, 55, 50, 55, 51, 55, 52, 55, 53, 55, 54, 55, 55, 55, 56, 55, 57, 56, 48, 56, 49, 56, 50, 56, 51, 56, 52, 56, 53, 56, 54, 56, 55, 56, 56, 56, 57, 57, 48, 57, 49, 57, 50, 57, 51, 57, 52, 57, 53, 57, 54, 57, 55, 57, 56, 57, 57] : Str).length : Int)) <|
 letE vS ((([48, 48, 48, 49, 48, 50, 48, 51, 48, 52, 48, 53, 48, 54, 48, 55, 48, 56, 48, 57, 49, 48, 49, 49, 49, 50, 49, 51, 49, 52, 49, 53, 49, 54, 49, 55, 49, 56, 49, 57, 50, 48, 50, 49, 50, 50, 50, 51, 50, 52, 50, 53, 50, 54, 50, 55, 50, 56, 50, 57, 51, 48, 51, 49, 51, 50, 51, 51, 51, 52, 51, 53, 51, 54, 51, 55, 51, 56, 51, 57, 52, 48, 52, 49, 52, 50, 52, 51, 52, 52, 52, 53, 52, 54, 52, 55, 52, 56, 52, 57, 53, 48, 53, 49, 53, 50, 53, 51, 53, 52, 53, 53, 53, 54, 53, 55, 53, 56, 53, 57, 54, 48, 54, 49, 54, 50, 54, 51, 54, 52, 54, 53, 54, 54, 54, 55, 54, 56, 54, 57, 55, 48, 55, 49, 55, 50, 55, 51, 55, 52, 55, 53, 55, 54, 55, 55, 55, 56, 55, 57, 56, 48, 56, 49, 56, 50, 56, 51, 56, 52, 56, 53, 56, 54, 56, 55, 56, 56, 56, 57, 57, 48, 57, 49, 57, 50, 57, 51, 57, 52, 57, 53, 57, 54, 57, 55, 57, 56, 57, 57] : Str).take x6.toNat).drop x4.toNat) fun x7 =>
 retM x7)

def strconv_FormatInt (a0 : Int) (a1 : Int) : Option (Str) :=
 letE vB (decide (a1 = (10 : Int))) fun x1 =>
 iteM x1 (
 letE vB (decide ((0 : Int) ≤ a0)) fun x2 =>
 letE vB (decide (a0 < (100 : Int))) fun x3 =>
 letE vB (bif x2 then x3 else false) fun x4 =>
 iteM x4 (
 callM vS (fun x5 => []) (strconv_small a0) fun x5 =>
 retM x5) (
 letE (vK .u64) (IntKind.u64.wrap a0) fun x6 =>
 letE vB (decide (a0 < (0 : Int))) fun x7 =>
 iteM x7 (
 letE (vK .u64) (IntKind.u64.wrap (0 - x6)) fun x8 =>
 noM) (
 noM))) (
 letE (vK .u64) (IntKind.u64.wrap a0) fun x9 =>
 letE vB (decide (a0 < (0 : Int))) fun x10 =>
 noM)

def strconv_Itoa (a0 : Int) : Option (Str) :=
 callM vS (fun x1 => []) (strconv_FormatInt a0 (10 : Int)) fun x1 =>
 retM x1

def strconv_Itoa1 (a0 : Int) : Option (Str) :=
 callM vS (fun x1 => []) (strconv_Itoa a0) fun x1 =>
 retM x1

def strings_Builder_WriteString_o (a0 : Str) (a1 : (List Int)) : Option (Int × Unit × (List Int)) :=
 callO [0, 1] [.bld 153 (so 1 (cK .u8) a1), tk a1.length 1 5] (fun x1 => .tup []) (fun x1 => [.bld 153 (so 1 (cK .u8) a1), tk a1.length 1 5]) (bldCheck a1) fun x1 =>
 gdM ((a1.length + (octs a0).length) * 1 ≤ 140737488355328) <|
 letO (so 1 (cK .u8)) (fun x2 => [.bld 153 (so 1 (cK .u8) a1), tk x2.length 1 5]) (a1 ++ (octs a0)) fun x2 =>
 letE vI ((a0.length : Int)) fun x3 =>
 retM (x3, (), x2)

def strings_Builder_WriteByte_o (a0 : Int) (a1 : (List Int)) : Option (Unit × (List Int)) :=
 callO [0, 1] [.bld 153 (so 1 (cK .u8) a1), tk a1.length 1 5] (fun x1 => .tup []) (fun x1 => [.bld 153 (so 1 (cK .u8) a1), tk a1.length 1 5]) (bldCheck a1) fun x1 =>
 letE (sx (cK .u8)) ([a0] : (List Int)) fun x2 =>
 gdM ((a1.length + x2.length) * 1 ≤ 140737488355328) <|
 letO (so 1 (cK .u8)) (fun x3 => [.bld 153 (so 1 (cK .u8) a1), tk x3.length 1 5]) (a1 ++ x2) fun x3 =>
 retM ((), x3)

def table_key (a0 : (List GPair)) : Option (Str) :=
 bldM 5 <|
 letE vI ((a0.length : Int)) fun x1 =>
 loopM (fun (x2 : (List Int) × Int) => [(3, .ptr 0 0), (8, sl cGPair a0), (9, vI x1), (10, vI x2.2)]) (fun (x2 : (List Int) × Int) => [.bld 153 (so 1 (cK .u8) x2.1), tk x2.1.length 1 5]) (fun (x2 : (List Int) × Int) =>
 letE vB (decide (x2.2 < x1)) fun x3 =>
 iteM x3 (
 idxM a0 x2.2 fun x4 =>
 loopM (fun (x5 : (List Int) × Int) => [(3, .ptr 0 0), (8, sl cGPair a0), (9, vI x1), (10, vI x2.2), (18, .agg [vS x4.Name, vS x4.Value]), (19, vI x5.2)]) (fun (x5 : (List Int) × Int) => [.bld 153 (so 1 (cK .u8) x5.1), tk x5.1.length 1 5]) (fun (x5 : (List Int) × Int) =>
 letE vB (decide (x5.2 < (2 : Int))) fun x6 =>
 iteM x6 (
 idxM [x4.Name, x4.Value] x5.2 fun x7 =>
 letE vI ((x7.length : Int)) fun x8 =>
 callM vS (fun x9 => [.bld 153 (so 1 (cK .u8) x5.1), tk x5.1.length 1 5]) (strconv_Itoa1 x8) fun x9 =>
 callO [0, 1] [.bld 153 (so 1 (cK .u8) x5.1), tk x5.1.length 1 5] (fun x10 => .tup [vI x10.1, vNI x10.2.1]) (fun x10 => [.bld 153 (so 1 (cK .u8) x10.2.2), tk x10.2.2.length 1 5]) (strings_Builder_WriteString_o x9 x5.1) fun x10 =>
 callO [0, 1] [.bld 153 (so 1 (cK .u8) x10.2.2), tk x10.2.2.length 1 5] (fun x11 => vNI x11.1) (fun x11 => [.bld 153 (so 1 (cK .u8) x11.2), tk x11.2.length 1 5]) (strings_Builder_WriteByte_o (32 : Int) x10.2.2) fun x11 =>
 callO [0, 1] [.bld 153 (so 1 (cK .u8) x11.2), tk x11.2.length 1 5] (fun x12 => .tup [vI x12.1, vNI x12.2.1]) (fun x12 => [.bld 153 (so 1 (cK .u8) x12.2.2), tk x12.2.2.length 1 5]) (strings_Builder_WriteString_o x7 x11.2) fun x12 =>
 letE vI (wI (x5.2 + (1 : Int))) fun x13 =>
 nextM (x12.2.2, x13)) (
 exitM <|
 letE vI (wI (x2.2 + (1 : Int))) fun x14 =>
 nextM (x5.1, x14))) (x2.1, (0 : Int))) (
 exitM <|
 callO [0, 1] [.bld 153 (so 1 (cK .u8) x2.1), tk x2.1.length 1 5] (fun x15 => vS x15) (fun x15 => [.dead, .dead]) (bldStr x2.1) fun x15 =>
 retM x15)) (([] : List Int), (0 : Int))

def table_distinct (a0 : (List GFound)) : Option ((List GFound) × (List (Str × GFound))) :=
 letO (fun _ => .map 0) (fun x1 => [.map (mp kS (ag cGFound) x1)]) ([] : (List (Str × GFound))) fun x1 =>
 letE vI ((a0.length : Int)) fun x2 =>
 tokM 4 3 41 <|
 loopM (fun (x3 : (List (Str × GFound)) × Int × (List GFound)) => [(4, so 1 cGFound x3.2.2), (5, .map 0), (12, sl cGFound a0), (13, vI x2), (14, vI x3.2.1)]) (fun (x3 : (List (Str × GFound)) × Int × (List GFound)) => [.map (mp kS (ag cGFound) x3.1), tk x3.2.2.length 3 41]) (fun (x3 : (List (Str × GFound)) × Int × (List GFound)) =>
 letE vB (decide (x3.2.1 < x2)) fun x4 =>
 iteM x4 (
 idxM a0 x3.2.1 fun x5 =>
 callM vB (fun x6 => [.map (mp kS (ag cGFound) x3.1), tk x3.2.2.length 3 41, .box [sl cGPair x5.L, vI x5.X.T, vI x5.X.V]]) (label_Sane x5.L) fun x6 =>
 letE vB (!x6) fun x7 =>
 iteM x7 (
 letE vI (wI (x3.2.1 + (1 : Int))) fun x8 =>
 nextM (x3.1, x8, x3.2.2)) (
 callM vS (fun x9 => [.map (mp kS (ag cGFound) x3.1), tk x3.2.2.length 3 41, .box [sl cGPair x5.L, vI x5.X.T, vI x5.X.V]]) (table_key x5.L) fun x9 =>
 lookM x3.1 x9 (fun x10 =>
 letE vB (!true) fun x11 =>
 iteM x11 (
 letO (fun _ => .any) (fun x12 => [.map (mp kS (ag cGFound) x12), tk x3.2.2.length 3 41, .box [sl cGPair x5.L, vI x5.X.T, vI x5.X.V], .box [sl cGPair x10.L, vI x10.X.T, vI x10.X.V]]) (mst x3.1 x9 x5) fun x12 =>
 letE (sx cGFound) ([x5] : (List GFound)) fun x13 =>
 gdM ((x3.2.2.length + x13.length) * 40 ≤ 140737488355328) <|
 letO (so 1 cGFound) (fun x14 => [.map (mp kS (ag cGFound) x12), tk x14.length 3 41, .box [sl cGPair x5.L, vI x5.X.T, vI x5.X.V], .box [sl cGPair x10.L, vI x10.X.T, vI x10.X.V]]) (x3.2.2 ++ x13) fun x14 =>
 letE vI (wI (x3.2.1 + (1 : Int))) fun x15 =>
 nextM (x12, x15, x14)) (
 letE vI (wI (x3.2.1 + (1 : Int))) fun x16 =>
 nextM (x3.1, x16, x3.2.2))) (
 letE vB (!false) fun x17 =>
 iteM x17 (
 letO (fun _ => .any) (fun x18 => [.map (mp kS (ag cGFound) x18), tk x3.2.2.length 3 41, .box [sl cGPair x5.L, vI x5.X.T, vI x5.X.V], .box [.v (.slice none 0 0), vI (0 : Int), vI (0 : Int)]]) (mst x3.1 x9 x5) fun x18 =>
 letE (sx cGFound) ([x5] : (List GFound)) fun x19 =>
 gdM ((x3.2.2.length + x19.length) * 40 ≤ 140737488355328) <|
 letO (so 1 cGFound) (fun x20 => [.map (mp kS (ag cGFound) x18), tk x20.length 3 41, .box [sl cGPair x5.L, vI x5.X.T, vI x5.X.V], .box [.v (.slice none 0 0), vI (0 : Int), vI (0 : Int)]]) (x3.2.2 ++ x19) fun x20 =>
 letE vI (wI (x3.2.1 + (1 : Int))) fun x21 =>
 nextM (x18, x21, x20)) (
 letE vI (wI (x3.2.1 + (1 : Int))) fun x22 =>
 nextM (x3.1, x22, x3.2.2))))) (
 exitM <|
 retM (x3.2.2, x3.1))) (x1, (0 : Int), ([] : List GFound))

def hold_counted (a0 : GHold) : Option (GHold) :=
 callM vB (fun x1 => [.box [vB a0.On, vI a0.Since, vB a0.Hit, vI a0.Fired], .box [vB false, vI (0 : Int), vB false, vI (0 : Int)]]) (hold_Sane a0) fun x1 =>
 letE vB (!x1) fun x2 =>
 iteM x2 (
 retM (⟨false, (0 : Int), false, (0 : Int)⟩ : GHold)) (
 retM a0)

def hold_bounded (a0 : (List Int)) : Option ((List Int)) :=
 letE vI ((a0.length : Int)) fun x1 =>
 gdM (0 ≤ x1 ∧ x1 ≤ 9223372036854775807 ∧ x1.toNat * 8 ≤ 281474976710656) <|
 letO (fun x2 => .bsl 0 0 x2.length) (fun x2 => [.box (rowCells (x2.map cI))]) (List.replicate x1.toNat (0 : Int) : List Int) fun x2 =>
 letE vI ((a0.length : Int)) fun x3 =>
 loopM (fun (x4 : (List Int) × Int) => [(3, .bsl 0 0 x2.length), (9, sl cI a0), (10, vI x3), (11, vI x4.2)]) (fun (x4 : (List Int) × Int) => [.box (rowCells (x4.1.map cI))]) (fun (x4 : (List Int) × Int) =>
 letE vB (decide (x4.2 < x3)) fun x5 =>
 iteM x5 (
 idxM a0 x4.2 fun x6 =>
 letE vI (max x6 (0 : Int)) fun x7 =>
 letE vI (min x7 (9007199254740992 : Int)) fun x8 =>
 gdM (0 ≤ x4.2 ∧ x4.2 < (x2.length : Int)) <|
 gdM (x4.2.toNat < x4.1.length) <|
 letO (fun _ => .any) (fun x9 => [.box (rowCells (x9.map cI))]) (x4.1.set x4.2.toNat x8) fun x9 =>
 letE vI (wI (x4.2 + (1 : Int))) fun x10 =>
 nextM (x9, x10)) (
 exitM <|
 gdM (x2.length = x4.1.length) <|
 pubbM 2 <|
 retM x4.1)) (x2, (0 : Int))

def hold_Now (a0 : GHold) (a1 : Int) (a2 : Int) : Option (Int) :=
 callM (ag cGHold) (fun x1 => [.box [vB a0.On, vI a0.Since, vB a0.Hit, vI a0.Fired]]) (hold_counted a0) fun x1 =>
 letE (sx cI) ([a1, a2] : (List Int)) fun x2 =>
 callM (sl cI) (fun x3 => [.box [vB x1.On, vI x1.Since, vB x1.Hit, vI x1.Fired]]) (hold_bounded x2) fun x3 =>
 idxM x3 (0 : Int) fun x4 =>
 idxM x3 (1 : Int) fun x5 =>
 letE vB (decide ((0 : Int) < x5)) fun x6 =>
 iteM x6 (
 letE vB (decide (x1.Fired < x4)) fun x7 =>
 iteM x7 (
 letE vI (wI (x4 - x1.Fired)) fun x8 =>
 letE vB (decide (x8 < x5)) fun x9 =>
 iteM x1.Hit (
 letE vB (decide (x1.Fired = x4)) fun x10 =>
 letE vB (bif x10 then true else x9) fun x11 =>
 iteM x11 (
 retM (2 : Int)) (
 iteM x1.On (
 retM (1 : Int)) (
 retM (0 : Int)))) (
 iteM x1.On (
 retM (1 : Int)) (
 retM (0 : Int)))) (
 iteM x1.Hit (
 letE vB (decide (x1.Fired = x4)) fun x12 =>
 letE vB (bif x12 then true else false) fun x13 =>
 iteM x13 (
 retM (2 : Int)) (
 iteM x1.On (
 retM (1 : Int)) (
 retM (0 : Int)))) (
 iteM x1.On (
 retM (1 : Int)) (
 retM (0 : Int))))) (
 iteM x1.Hit (
 letE vB (decide (x1.Fired = x4)) fun x14 =>
 letE vB (bif x14 then true else false) fun x15 =>
 iteM x15 (
 retM (2 : Int)) (
 iteM x1.On (
 retM (1 : Int)) (
 retM (0 : Int)))) (
 iteM x1.On (
 retM (1 : Int)) (
 retM (0 : Int))))

def hold_Step (a0 : GHold) (a1 : Bool) (a2 : Int) (a3 : Int) (a4 : Int) : Option (GHold × Int) :=
 callM (ag cGHold) (fun x1 => [.box [vB a0.On, vI a0.Since, vB a0.Hit, vI a0.Fired], .box [vB false, vI (0 : Int), vB false, vI (0 : Int)]]) (hold_counted a0) fun x1 =>
 letE (sx cI) ([a2, a3, a4] : (List Int)) fun x2 =>
 callM (sl cI) (fun x3 => [.box [vB x1.On, vI x1.Since, vB x1.Hit, vI x1.Fired], .box [vB false, vI (0 : Int), vB false, vI (0 : Int)]]) (hold_bounded x2) fun x3 =>
 idxM x3 (0 : Int) fun x4 =>
 idxM x3 (1 : Int) fun x5 =>
 idxM x3 (2 : Int) fun x6 =>
 letE vB (!a1) fun x7 =>
 iteM x7 (
 tailM 5 <|
 callM vI (fun x8 => [.box [vB false, vI (0 : Int), vB x1.Hit, vI x1.Fired], .box [vB false, vI (0 : Int), vB false, vI (0 : Int)]]) (hold_Now (⟨false, (0 : Int), x1.Hit, x1.Fired⟩ : GHold) x4 x6) fun x8 =>
 retM ((⟨false, (0 : Int), x1.Hit, x1.Fired⟩ : GHold), x8)) (
 letE vB (!x1.On) fun x9 =>
 iteM x9 (
 letE vI (wI (x4 - x4)) fun x10 =>
 letE vB (decide (x5 ≤ x10)) fun x11 =>
 iteM x11 (
 tailM 5 <|
 callM vI (fun x12 => [.box [vB true, vI x4, vB true, vI x4], .box [vB false, vI (0 : Int), vB false, vI (0 : Int)]]) (hold_Now (⟨true, x4, true, x4⟩ : GHold) x4 x6) fun x12 =>
 retM ((⟨true, x4, true, x4⟩ : GHold), x12)) (
 tailM 5 <|
 callM vI (fun x13 => [.box [vB true, vI x4, vB x1.Hit, vI x1.Fired], .box [vB false, vI (0 : Int), vB false, vI (0 : Int)]]) (hold_Now (⟨true, x4, x1.Hit, x1.Fired⟩ : GHold) x4 x6) fun x13 =>
 retM ((⟨true, x4, x1.Hit, x1.Fired⟩ : GHold), x13))) (
 letE vB (decide (x4 < x1.Since)) fun x14 =>
 iteM x14 (
 letE vI (wI (x4 - x4)) fun x15 =>
 letE vB (decide (x5 ≤ x15)) fun x16 =>
 iteM x16 (
 tailM 5 <|
 callM vI (fun x17 => [.box [vB true, vI x4, vB true, vI x4], .box [vB false, vI (0 : Int), vB false, vI (0 : Int)]]) (hold_Now (⟨true, x4, true, x4⟩ : GHold) x4 x6) fun x17 =>
 retM ((⟨true, x4, true, x4⟩ : GHold), x17)) (
 tailM 5 <|
 callM vI (fun x18 => [.box [vB true, vI x4, vB x1.Hit, vI x1.Fired], .box [vB false, vI (0 : Int), vB false, vI (0 : Int)]]) (hold_Now (⟨true, x4, x1.Hit, x1.Fired⟩ : GHold) x4 x6) fun x18 =>
 retM ((⟨true, x4, x1.Hit, x1.Fired⟩ : GHold), x18))) (
 letE vI (wI (x4 - x1.Since)) fun x19 =>
 letE vB (decide (x5 ≤ x19)) fun x20 =>
 iteM x20 (
 tailM 5 <|
 callM vI (fun x21 => [.box [vB true, vI x1.Since, vB true, vI x4], .box [vB false, vI (0 : Int), vB false, vI (0 : Int)]]) (hold_Now (⟨true, x1.Since, true, x4⟩ : GHold) x4 x6) fun x21 =>
 retM ((⟨true, x1.Since, true, x4⟩ : GHold), x21)) (
 tailM 5 <|
 callM vI (fun x22 => [.box [vB true, vI x1.Since, vB x1.Hit, vI x1.Fired], .box [vB false, vI (0 : Int), vB false, vI (0 : Int)]]) (hold_Now (⟨true, x1.Since, x1.Hit, x1.Fired⟩ : GHold) x4 x6) fun x22 =>
 retM ((⟨true, x1.Since, x1.Hit, x1.Fired⟩ : GHold), x22)))))

def hold_Gone (a0 : GHold) (a1 : Int) (a2 : Int) : Option (Bool) :=
 callM (ag cGHold) (fun x1 => [.box [vB a0.On, vI a0.Since, vB a0.Hit, vI a0.Fired]]) (hold_counted a0) fun x1 =>
 letE (sx cI) ([a1, a2] : (List Int)) fun x2 =>
 callM (sl cI) (fun x3 => [.box [vB x1.On, vI x1.Since, vB x1.Hit, vI x1.Fired]]) (hold_bounded x2) fun x3 =>
 idxM x3 (0 : Int) fun x4 =>
 idxM x3 (1 : Int) fun x5 =>
 callM vI (fun x6 => [.box [vB x1.On, vI x1.Since, vB x1.Hit, vI x1.Fired]]) (hold_Now x1 x4 x5) fun x6 =>
 letE vB (!decide (x6 = (0 : Int))) fun x7 =>
 iteM x7 (
 retM false) (
 iteM x1.On (
 retM false) (
 letE vB (!x1.Hit) fun x8 =>
 iteM x8 (
 retM true) (
 letE vB (decide (x1.Fired < x4)) fun x9 =>
 iteM x9 (
 letE vI (wI (x4 - x1.Fired)) fun x10 =>
 letE vB (decide (x5 ≤ x10)) fun x11 =>
 letE vB (bif true then x11 else false) fun x12 =>
 retM x12) (
 letE vB (bif false then false else false) fun x13 =>
 retM x13))))

def table_sorted_1 (a0 : GAlert) (a1 : GAlert) : Option (Int) :=
 callM vI (fun x1 => [.box [sl cGPair a0.L, vB a0.H.On, vI a0.H.Since, vB a0.H.Hit, vI a0.H.Fired, vI a0.State, vI a0.V], .box [sl cGPair a1.L, vB a1.H.On, vI a1.H.Since, vB a1.H.Hit, vI a1.H.Fired, vI a1.State, vI a1.V]]) (label_Compare a0.L a1.L) fun x1 =>
 retM x1

def table_sorted_o (a0 : (List (Str × GAlert))) : Option ((List GAlert)) :=
 tokM 3 7 83 <|
 rangeM (fun (x1 : (List GAlert)) => [(3, so 2 cGAlert x1), (7, .ptr 1 0)]) (fun zb zc zs (x1 : (List GAlert)) => [.mapB zb zc (mp kS (ag cGAlert) a0), .iter 0 zc zs, tk x1.length 7 83]) a0 (fun zb zc zs (x1 : (List GAlert)) =>
 (fun zi x2 =>
 letE (sx cGAlert) ([x2.2] : (List GAlert)) fun x3 =>
 gdM ((x1.length + x3.length) * 72 ≤ 140737488355328) <|
 letO (so 2 cGAlert) (fun x4 => [.mapB zb zc (mp kS (ag cGAlert) a0), .iter 0 zc (zs ++ [zi]), tk x4.length 7 83, .box [sl cGPair x2.2.L, vB x2.2.H.On, vI x2.2.H.Since, vB x2.2.H.Hit, vI x2.2.H.Fired, vI x2.2.State, vI x2.2.V]]) (x1 ++ x3) fun x4 =>
 nextM x4,
 exitM <|
 forgM 6 [(3, so 2 cGAlert x1)] [.map (mp kS (ag cGAlert) a0), .dead, tk x1.length 7 83] <|
 unboxM 3 <|
 sortM table_sorted_1 x1 fun x5 =>
 pubbM 3 <|
 retM x5)) ([] : List GAlert)

def table_Step (a0 : GTable) (a1 : (List GFound)) (a2 : Int) (a3 : Int) (a4 : Int) : Option (GTable) :=
 callM (ag cGTable) (fun x1 => [.box [sl cGAlert a0.A, vI a0.Full], .box [.v (.slice none 0 0), vI (0 : Int)]]) (table_counted a0) fun x1 =>
 callM (fun x2 => .tup [(sl cGFound) x2.1, .map 2]) (fun x2 => [.box [sl cGAlert x1.A, vI x1.Full], .box [.v (.slice none 0 0), vI (0 : Int)], .map (mp kS (ag cGFound) x2.2)]) (table_distinct a1) fun x2 =>
 letO (fun _ => .map 3) (fun x3 => [.box [sl cGAlert x1.A, vI x1.Full], .box [.v (.slice none 0 0), vI (0 : Int)], .map (mp kS (ag cGFound) x2.2), .map (mp kS (ag cGAlert) x3)]) ([] : (List (Str × GAlert))) fun x3 =>
 letE vI ((x1.A.length : Int)) fun x4 =>
 loopM (fun (x5 : (List (Str × GAlert)) × Int) => [(1, sl cGFound x2.1), (2, vI a2), (3, vI a3), (4, vI a4), (5, .ptr 0 0), (10, .ptr 1 0), (11, .map 2), (12, .map 3), (34, sl cGAlert x1.A), (35, vI x4), (36, vI x5.2)]) (fun (x5 : (List (Str × GAlert)) × Int) => [.box [sl cGAlert x1.A, vI x1.Full], .box [.v (.slice none 0 0), vI (0 : Int)], .map (mp kS (ag cGFound) x2.2), .map (mp kS (ag cGAlert) x5.1)]) (fun (x5 : (List (Str × GAlert)) × Int) =>
 letE vB (decide (x5.2 < x4)) fun x6 =>
 iteM x6 (
 idxM x1.A x5.2 fun x7 =>
 callM vS (fun x8 => [.box [sl cGAlert x1.A, vI x1.Full], .box [.v (.slice none 0 0), vI (0 : Int)], .map (mp kS (ag cGFound) x2.2), .map (mp kS (ag cGAlert) x5.1), .box [sl cGPair x7.L, vB x7.H.On, vI x7.H.Since, vB x7.H.Hit, vI x7.H.Fired, vI x7.State, vI x7.V]]) (table_key x7.L) fun x8 =>
 lookM x2.2 x8 (fun x9 =>
 callM (fun x10 => .tup [(ag cGHold) x10.1, vI x10.2]) (fun x10 => [.box [sl cGAlert x1.A, vI x1.Full], .box [.v (.slice none 0 0), vI (0 : Int)], .map (mp kS (ag cGFound) x2.2), .map (mp kS (ag cGAlert) x5.1), .box [sl cGPair x7.L, vB x7.H.On, vI x7.H.Since, vB x7.H.Hit, vI x7.H.Fired, vI x7.State, vI x7.V], .box [sl cGPair x9.L, vI x9.X.T, vI x9.X.V]]) (hold_Step x7.H true a2 a3 a4) fun x10 =>
 letO (fun _ => .any) (fun x11 => [.box [sl cGAlert x1.A, vI x1.Full], .box [.v (.slice none 0 0), vI (0 : Int)], .map (mp kS (ag cGFound) x2.2), .map (mp kS (ag cGAlert) x11), .box [sl cGPair x7.L, vB x10.1.On, vI x10.1.Since, vB x10.1.Hit, vI x10.1.Fired, vI x10.2, vI x9.X.V], .box [sl cGPair x9.L, vI x9.X.T, vI x9.X.V]]) (mst x5.1 x8 (⟨x7.L, x10.1, x10.2, x9.X.V⟩ : GAlert)) fun x11 =>
 callM vB (fun x12 => [.box [sl cGAlert x1.A, vI x1.Full], .box [.v (.slice none 0 0), vI (0 : Int)], .map (mp kS (ag cGFound) x2.2), .map (mp kS (ag cGAlert) x11), .box [sl cGPair x7.L, vB x10.1.On, vI x10.1.Since, vB x10.1.Hit, vI x10.1.Fired, vI x10.2, vI x9.X.V], .box [sl cGPair x9.L, vI x9.X.T, vI x9.X.V]]) (hold_Gone x10.1 a2 a4) fun x12 =>
 iteM x12 (
 letO (fun _ => .any) (fun x13 => [.box [sl cGAlert x1.A, vI x1.Full], .box [.v (.slice none 0 0), vI (0 : Int)], .map (mp kS (ag cGFound) x2.2), .map (mp kS (ag cGAlert) x13), .box [sl cGPair x7.L, vB x10.1.On, vI x10.1.Since, vB x10.1.Hit, vI x10.1.Fired, vI x10.2, vI x9.X.V], .box [sl cGPair x9.L, vI x9.X.T, vI x9.X.V]]) (mdl x11 x8) fun x13 =>
 letE vI (wI (x5.2 + (1 : Int))) fun x14 =>
 nextM (x13, x14)) (
 letE vI (wI (x5.2 + (1 : Int))) fun x15 =>
 nextM (x11, x15))) (
 callM (fun x16 => .tup [(ag cGHold) x16.1, vI x16.2]) (fun x16 => [.box [sl cGAlert x1.A, vI x1.Full], .box [.v (.slice none 0 0), vI (0 : Int)], .map (mp kS (ag cGFound) x2.2), .map (mp kS (ag cGAlert) x5.1), .box [sl cGPair x7.L, vB x7.H.On, vI x7.H.Since, vB x7.H.Hit, vI x7.H.Fired, vI x7.State, vI x7.V], .box [.v (.slice none 0 0), vI (0 : Int), vI (0 : Int)]]) (hold_Step x7.H false a2 a3 a4) fun x16 =>
 letO (fun _ => .any) (fun x17 => [.box [sl cGAlert x1.A, vI x1.Full], .box [.v (.slice none 0 0), vI (0 : Int)], .map (mp kS (ag cGFound) x2.2), .map (mp kS (ag cGAlert) x17), .box [sl cGPair x7.L, vB x16.1.On, vI x16.1.Since, vB x16.1.Hit, vI x16.1.Fired, vI x16.2, vI x7.V], .box [.v (.slice none 0 0), vI (0 : Int), vI (0 : Int)]]) (mst x5.1 x8 (⟨x7.L, x16.1, x16.2, x7.V⟩ : GAlert)) fun x17 =>
 callM vB (fun x18 => [.box [sl cGAlert x1.A, vI x1.Full], .box [.v (.slice none 0 0), vI (0 : Int)], .map (mp kS (ag cGFound) x2.2), .map (mp kS (ag cGAlert) x17), .box [sl cGPair x7.L, vB x16.1.On, vI x16.1.Since, vB x16.1.Hit, vI x16.1.Fired, vI x16.2, vI x7.V], .box [.v (.slice none 0 0), vI (0 : Int), vI (0 : Int)]]) (hold_Gone x16.1 a2 a4) fun x18 =>
 iteM x18 (
 letO (fun _ => .any) (fun x19 => [.box [sl cGAlert x1.A, vI x1.Full], .box [.v (.slice none 0 0), vI (0 : Int)], .map (mp kS (ag cGFound) x2.2), .map (mp kS (ag cGAlert) x19), .box [sl cGPair x7.L, vB x16.1.On, vI x16.1.Since, vB x16.1.Hit, vI x16.1.Fired, vI x16.2, vI x7.V], .box [.v (.slice none 0 0), vI (0 : Int), vI (0 : Int)]]) (mdl x17 x8) fun x19 =>
 letE vI (wI (x5.2 + (1 : Int))) fun x20 =>
 nextM (x19, x20)) (
 letE vI (wI (x5.2 + (1 : Int))) fun x21 =>
 nextM (x17, x21)))) (
 exitM <|
 letE vI ((x2.1.length : Int)) fun x22 =>
 loopM (fun (x23 : Int × (List (Str × GAlert)) × Int) => [(2, vI a2), (3, vI a3), (4, vI a4), (5, .ptr 0 0), (10, .ptr 1 0), (12, .map 3), (77, sl cGFound x2.1), (78, vI x22), (79, vI x23.2.2)]) (fun (x23 : Int × (List (Str × GAlert)) × Int) => [.box [sl cGAlert x1.A, vI x23.1], .box [.v (.slice none 0 0), vI (0 : Int)], .dead, .map (mp kS (ag cGAlert) x23.2.1)]) (fun (x23 : Int × (List (Str × GAlert)) × Int) =>
 letE vB (decide (x23.2.2 < x22)) fun x24 =>
 iteM x24 (
 idxM x2.1 x23.2.2 fun x25 =>
 callM vS (fun x26 => [.box [sl cGAlert x1.A, vI x23.1], .box [.v (.slice none 0 0), vI (0 : Int)], .dead, .map (mp kS (ag cGAlert) x23.2.1), .box [sl cGPair x25.L, vI x25.X.T, vI x25.X.V]]) (table_key x25.L) fun x26 =>
 lookM x23.2.1 x26 (fun x27 =>
 letE vI (wI (x23.2.2 + (1 : Int))) fun x28 =>
 nextM (x23.1, x23.2.1, x28)) (
 letE vI ((x23.2.1.length : Int)) fun x29 =>
 letE vB (decide ((16 : Int) ≤ x29)) fun x30 =>
 iteM x30 (
 letE vI (wI (x23.1 + (1 : Int))) fun x31 =>
 letE vI (min x31 (9007199254740992 : Int)) fun x32 =>
 letE vI (wI (x23.2.2 + (1 : Int))) fun x33 =>
 nextM (x32, x23.2.1, x33)) (
 callM (fun x34 => .tup [(ag cGHold) x34.1, vI x34.2]) (fun x34 => [.box [sl cGAlert x1.A, vI x23.1], .box [.v (.slice none 0 0), vI (0 : Int)], .dead, .map (mp kS (ag cGAlert) x23.2.1), .box [sl cGPair x25.L, vI x25.X.T, vI x25.X.V], .box [.v (.slice none 0 0), vB false, vI (0 : Int), vB false, vI (0 : Int), vI (0 : Int), vI (0 : Int)]]) (hold_Step (⟨false, (0 : Int), false, (0 : Int)⟩ : GHold) true a2 a3 a4) fun x34 =>
 letO (fun _ => .any) (fun x35 => [.box [sl cGAlert x1.A, vI x23.1], .box [.v (.slice none 0 0), vI (0 : Int)], .dead, .map (mp kS (ag cGAlert) x35), .box [sl cGPair x25.L, vI x25.X.T, vI x25.X.V], .box [.v (.slice none 0 0), vB false, vI (0 : Int), vB false, vI (0 : Int), vI (0 : Int), vI (0 : Int)], .box [vB x34.1.On, vI x34.1.Since, vB x34.1.Hit, vI x34.1.Fired]]) (mst x23.2.1 x26 (⟨x25.L, x34.1, x34.2, x25.X.V⟩ : GAlert)) fun x35 =>
 letE vI (wI (x23.2.2 + (1 : Int))) fun x36 =>
 nextM (x23.1, x35, x36)))) (
 exitM <|
 tailM 5 <|
 callO [3] [.box [sl cGAlert x1.A, vI x23.1], .box [.v (.slice none 0 0), vI (0 : Int)], .dead, .map (mp kS (ag cGAlert) x23.2.1)] (fun x37 => (sl cGAlert) x37) (fun x37 => [.box [sl cGAlert x1.A, vI x23.1], .box [.v (.slice none 0 0), vI (0 : Int)], .dead, .map (mp kS (ag cGAlert) x23.2.1)]) (table_sorted_o x23.2.1) fun x37 =>
 retM (⟨x37, x23.1⟩ : GTable))) (x1.Full, x5.1, (0 : Int)))) (x3, (0 : Int))

def table_Active (a0 : GTable) : Option ((List GAlert)) :=
 callM (ag cGTable) (fun x1 => [.box [sl cGAlert a0.A, vI a0.Full]]) (table_counted a0) fun x1 =>
 letE vI ((x1.A.length : Int)) fun x2 =>
 tokM 3 7 83 <|
 loopM (fun (x3 : Int × (List GAlert)) => [(3, so 1 cGAlert x3.2), (8, sl cGAlert x1.A), (9, vI x2), (10, vI x3.1)]) (fun (x3 : Int × (List GAlert)) => [.dead, tk x3.2.length 7 83]) (fun (x3 : Int × (List GAlert)) =>
 letE vB (decide (x3.1 < x2)) fun x4 =>
 iteM x4 (
 idxM x1.A x3.1 fun x5 =>
 letE vB (!decide (x5.State = (0 : Int))) fun x6 =>
 iteM x6 (
 letE (sx cGAlert) ([x5] : (List GAlert)) fun x7 =>
 gdM ((x3.2.length + x7.length) * 72 ≤ 140737488355328) <|
 letO (so 1 cGAlert) (fun x8 => [.dead, tk x8.length 7 83, .box [sl cGPair x5.L, vB x5.H.On, vI x5.H.Since, vB x5.H.Hit, vI x5.H.Fired, vI x5.State, vI x5.V]]) (x3.2 ++ x7) fun x8 =>
 letE vI (wI (x3.1 + (1 : Int))) fun x9 =>
 nextM (x9, x8)) (
 letE vI (wI (x3.1 + (1 : Int))) fun x10 =>
 nextM (x10, x3.2))) (
 exitM <|
 retM x3.2)) ((0 : Int), ([] : List GAlert))

def label_With (a0 : (List GPair)) (a1 : Str) (a2 : Str) : Option ((List GPair) × Int) :=
 callM (so 0 cGPair) (fun x1 => [tk x1.length 2 51]) (label_Without a0 a1) fun x1 =>
 letE (sx cGPair) ([(⟨a1, a2⟩ : GPair)] : (List GPair)) fun x2 =>
 gdM ((x1.length + x2.length) * 32 ≤ 140737488355328) <|
 letO (so 0 cGPair) (fun x3 => [tk x3.length 2 51]) (x1 ++ x2) fun x3 =>
 callM (fun x4 => .tup [(sl cGPair) x4.1, vI x4.2]) (fun x4 => [.tok x3.length 2 51 false]) (label_Make x3) fun x4 =>
 retM (x4.1, x4.2)

def eval_written (a0 : GAlert) : Option ((List GPair) × Int) :=
 callM (fun x1 => .tup [(sl cGPair) x1.1, vI x1.2]) (fun x1 => [.box [sl cGPair a0.L, vB a0.H.On, vI a0.H.Since, vB a0.H.Hit, vI a0.H.Fired, vI a0.State, vI a0.V]]) (label_With a0.L ([95, 95, 110, 97, 109, 101, 95, 95] : Str) ([65, 76, 69, 82, 84, 83] : Str)) fun x1 =>
 letE vB (!decide (x1.2 = (0 : Int))) fun x2 =>
 iteM x2 (
 retM (([] : (List GPair)), x1.2)) (
 idxM gl0 a0.State fun x3 =>
 callM (fun x4 => .tup [(sl cGPair) x4.1, vI x4.2]) (fun x4 => [.box [sl cGPair a0.L, vB a0.H.On, vI a0.H.Since, vB a0.H.Hit, vI a0.H.Fired, vI a0.State, vI a0.V]]) (label_With x1.1 ([97, 108, 101, 114, 116, 115, 116, 97, 116, 101] : Str) x3) fun x4 =>
 retM (x4.1, x4.2))

def eval_Write (a0 : (List GSeries)) (a1 : GTable) (a2 : Int) : Option ((List GSeries) × Int) :=
 callM (sl cGSeries) (fun x1 => [.box [sl cGAlert a1.A, vI a1.Full]]) (eval_counted a0) fun x1 =>
 callM (so 2 cGAlert) (fun x2 => [.box [sl cGAlert a1.A, vI a1.Full], .dead, tk x2.length 7 83]) (table_Active a1) fun x2 =>
 letE vI ((x2.length : Int)) fun x3 =>
 loopM (fun (x4 : (List GSeries) × Int × Int) => [(0, sl cGSeries x4.1), (2, vI a2), (8, vI x4.2.2), (17, so 2 cGAlert x2), (18, vI x3), (19, vI x4.2.1)]) (fun (x4 : (List GSeries) × Int × Int) => [.dead, .dead, tk x2.length 7 83]) (fun (x4 : (List GSeries) × Int × Int) =>
 letE vB (decide (x4.2.1 < x3)) fun x5 =>
 iteM x5 (
 idxM x2 x4.2.1 fun x6 =>
 callM (fun x7 => .tup [(sl cGPair) x7.1, vI x7.2]) (fun x7 => [.dead, .dead, tk x2.length 7 83, .box [sl cGPair x6.L, vB x6.H.On, vI x6.H.Since, vB x6.H.Hit, vI x6.H.Fired, vI x6.State, vI x6.V]]) (eval_written x6) fun x7 =>
 letE vB (!decide (x7.2 = (0 : Int))) fun x8 =>
 iteM x8 (
 letE vI (wI (x4.2.2 + (1 : Int))) fun x9 =>
 letE vI (wI (x4.2.1 + (1 : Int))) fun x10 =>
 nextM (x4.1, x10, x9)) (
 callM (fun x11 => .tup [(sl cGSeries) x11.1, vI x11.2]) (fun x11 => [.dead, .dead, tk x2.length 7 83, .box [sl cGPair x6.L, vB x6.H.On, vI x6.H.Since, vB x6.H.Hit, vI x6.H.Fired, vI x6.State, vI x6.V]]) (store_Add x4.1 x7.1 (⟨a2, (1000 : Int)⟩ : GSample)) fun x11 =>
 letE vB (!decide (x11.2 = (0 : Int))) fun x12 =>
 iteM x12 (
 letE vI (wI (x4.2.2 + (1 : Int))) fun x13 =>
 letE vI (wI (x4.2.1 + (1 : Int))) fun x14 =>
 nextM (x4.1, x14, x13)) (
 letE vI (wI (x4.2.1 + (1 : Int))) fun x15 =>
 nextM (x11.1, x15, x4.2.2)))) (
 exitM <|
 retM (x4.1, x4.2.2))) (x1, (0 : Int), (0 : Int))

def eval_Group (a0 : (List GSeries)) (a1 : GGroup) (a2 : (List GTable)) (a3 : Int) : Option ((List GSeries) × (List GTable) × Int) :=
 callM (sl cGSeries) (fun x1 => [.box [vS a1.Name, vI a1.Interval, vI a1.Offset, sl cGRule a1.Rules]]) (eval_counted a0) fun x1 =>
 letE vI ((a1.Rules.length : Int)) fun x2 =>
 tokM 11 2 71 <|
 loopM (fun (x3 : (List GSeries) × (List GTable) × Int × Int) => [(0, sl cGSeries x3.1), (2, sl cGTable a2), (3, vI a3), (11, so 1 cGTable x3.2.1), (12, vI x3.2.2.1), (20, sl cGRule a1.Rules), (21, vI x2), (22, vI x3.2.2.2)]) (fun (x3 : (List GSeries) × (List GTable) × Int × Int) => [.dead, tk x3.2.1.length 2 71]) (fun (x3 : (List GSeries) × (List GTable) × Int × Int) =>
 letE vB (decide (x3.2.2.2 < x2)) fun x4 =>
 iteM x4 (
 idxM a1.Rules x3.2.2.2 fun x5 =>
 letE vI ((a2.length : Int)) fun x6 =>
 letE vB (decide (x3.2.2.2 < x6)) fun x7 =>
 iteM x7 (
 idxM a2 x3.2.2.2 fun x8 =>
 tailM 11 <|
 callM (sl cGFound) (fun x9 => [.dead, tk x3.2.1.length 2 71, .box [vS x5.Name, vS x5.E.S.Name, sl cGMatch x5.E.S.M, vI x5.E.Op, vI x5.E.V, vI x5.For, vI x5.Keep, sl cGPair x5.Labels], .box [sl cGAlert x8.A, vI x8.Full]]) (eval_Rule x3.1 x5 a3) fun x9 =>
 callM (ag cGTable) (fun x10 => [.dead, tk x3.2.1.length 2 71, .box [vS x5.Name, vS x5.E.S.Name, sl cGMatch x5.E.S.M, vI x5.E.Op, vI x5.E.V, vI x5.For, vI x5.Keep, sl cGPair x5.Labels], .box [sl cGAlert x8.A, vI x8.Full]]) (table_Step x8 x9 a3 x5.For x5.Keep) fun x10 =>
 callM (fun x11 => .tup [(sl cGSeries) x11.1, vI x11.2]) (fun x11 => [.dead, tk x3.2.1.length 2 71, .box [vS x5.Name, vS x5.E.S.Name, sl cGMatch x5.E.S.M, vI x5.E.Op, vI x5.E.V, vI x5.For, vI x5.Keep, sl cGPair x5.Labels], .box [sl cGAlert x10.A, vI x10.Full]]) (eval_Write x3.1 x10 a3) fun x11 =>
 letE (sx cGTable) ([x10] : (List GTable)) fun x12 =>
 gdM ((x3.2.1.length + x12.length) * 32 ≤ 140737488355328) <|
 letO (so 1 cGTable) (fun x13 => [.dead, tk x13.length 2 71, .box [vS x5.Name, vS x5.E.S.Name, sl cGMatch x5.E.S.M, vI x5.E.Op, vI x5.E.V, vI x5.For, vI x5.Keep, sl cGPair x5.Labels], .box [sl cGAlert x10.A, vI x10.Full]]) (x3.2.1 ++ x12) fun x13 =>
 letE vI (wI (x3.2.2.1 + x11.2)) fun x14 =>
 letE vI (wI (x3.2.2.2 + (1 : Int))) fun x15 =>
 nextM (x11.1, x13, x14, x15)) (
 tailM 11 <|
 callM (sl cGFound) (fun x16 => [.dead, tk x3.2.1.length 2 71, .box [vS x5.Name, vS x5.E.S.Name, sl cGMatch x5.E.S.M, vI x5.E.Op, vI x5.E.V, vI x5.For, vI x5.Keep, sl cGPair x5.Labels], .box [.v (.slice none 0 0), vI (0 : Int)]]) (eval_Rule x3.1 x5 a3) fun x16 =>
 callM (ag cGTable) (fun x17 => [.dead, tk x3.2.1.length 2 71, .box [vS x5.Name, vS x5.E.S.Name, sl cGMatch x5.E.S.M, vI x5.E.Op, vI x5.E.V, vI x5.For, vI x5.Keep, sl cGPair x5.Labels], .box [.v (.slice none 0 0), vI (0 : Int)]]) (table_Step (⟨([] : (List GAlert)), (0 : Int)⟩ : GTable) x16 a3 x5.For x5.Keep) fun x17 =>
 callM (fun x18 => .tup [(sl cGSeries) x18.1, vI x18.2]) (fun x18 => [.dead, tk x3.2.1.length 2 71, .box [vS x5.Name, vS x5.E.S.Name, sl cGMatch x5.E.S.M, vI x5.E.Op, vI x5.E.V, vI x5.For, vI x5.Keep, sl cGPair x5.Labels], .box [sl cGAlert x17.A, vI x17.Full]]) (eval_Write x3.1 x17 a3) fun x18 =>
 letE (sx cGTable) ([x17] : (List GTable)) fun x19 =>
 gdM ((x3.2.1.length + x19.length) * 32 ≤ 140737488355328) <|
 letO (so 1 cGTable) (fun x20 => [.dead, tk x20.length 2 71, .box [vS x5.Name, vS x5.E.S.Name, sl cGMatch x5.E.S.M, vI x5.E.Op, vI x5.E.V, vI x5.For, vI x5.Keep, sl cGPair x5.Labels], .box [sl cGAlert x17.A, vI x17.Full]]) (x3.2.1 ++ x19) fun x20 =>
 letE vI (wI (x3.2.2.1 + x18.2)) fun x21 =>
 letE vI (wI (x3.2.2.2 + (1 : Int))) fun x22 =>
 nextM (x18.1, x20, x21, x22))) (
 exitM <|
 retM (x3.1, x3.2.1, x3.2.2.1))) (x1, ([] : List GTable), (0 : Int), (0 : Int))

def law19_awake : Option (Bool) :=
 letE (sx cGPair) ([(⟨([95, 95, 110, 97, 109, 101, 95, 95] : Str), ([117, 112] : Str)⟩ : GPair), (⟨([106, 111, 98] : Str), ([97] : Str)⟩ : GPair)] : (List GPair)) fun x1 =>
 callM (fun x2 => .tup [(sl cGSeries) x2.1, vI x2.2]) (fun x2 => []) (store_Add ([] : (List GSeries)) x1 (⟨(5 : Int), (0 : Int)⟩ : GSample)) fun x2 =>
 callM (ag cGRule) (fun x3 => []) (law19_down (0 : Int)) fun x3 =>
 callM (sl cGFound) (fun x4 => []) (eval_Rule x2.1 x3 (9 : Int)) fun x4 =>
 callM (ag cGRule) (fun x5 => []) (law19_down (0 : Int)) fun x5 =>
 callM (ag cGRule) (fun x6 => []) (law19_down (7 : Int)) fun x6 =>
 letE (sx cGRule) ([x5, x6] : (List GRule)) fun x7 =>
 callM (fun x8 => .tup [(sl cGSeries) x8.1, so 1 cGTable x8.2.1, vI x8.2.2]) (fun x8 => [.dead, tk x8.2.1.length 2 71]) (eval_Group x2.1 (⟨([103] : Str), (1 : Int), (0 : Int), x7⟩ : GGroup) ([] : (List GTable)) (9 : Int)) fun x8 =>
 letE vI ((x4.length : Int)) fun x9 =>
 letE vB (!decide (x9 = (1 : Int))) fun x10 =>
 iteM x10 (
 letE vI ((x8.2.1.length : Int)) fun x11 =>
 letE vB (!decide (x11 = (2 : Int))) fun x12 =>
 retM false) (
 idxM x4 (0 : Int) fun x13 =>
 letE vI ((x13.L.length : Int)) fun x14 =>
 letE vB (!decide (x14 = (2 : Int))) fun x15 =>
 letE vI ((x8.2.1.length : Int)) fun x16 =>
 letE vB (!decide (x16 = (2 : Int))) fun x17 =>
 letE vB (bif x15 then true else x17) fun x18 =>
 iteM x18 (
 retM false) (
 idxM x8.2.1 (0 : Int) fun x19 =>
 letE vI ((x19.A.length : Int)) fun x20 =>
 letE vB (!decide (x20 = (1 : Int))) fun x21 =>
 iteM x21 (
 retM false) (
 idxM x8.2.1 (1 : Int) fun x22 =>
 letE vI ((x22.A.length : Int)) fun x23 =>
 letE vB (!decide (x23 = (1 : Int))) fun x24 =>
 iteM x24 (
 retM false) (
 letE (sx cGMatch) ([(⟨([97, 108, 101, 114, 116, 115, 116, 97, 116, 101] : Str), ([102, 105, 114, 105, 110, 103] : Str), false⟩ : GMatch)] : (List GMatch)) fun x25 =>
 callM (so 3 cGFound) (fun x26 => [.dead, tk x8.2.1.length 2 71, .dead, tk x26.length 3 41]) (store_Select x8.1 (⟨([65, 76, 69, 82, 84, 83] : Str), x25⟩ : GSel) (9 : Int) (1 : Int)) fun x26 =>
 idxM x13.L (0 : Int) fun x27 =>
 letE vB (decide (x27.Value = ([68, 111, 119, 110] : Str))) fun x28 =>
 iteM x28 (
 idxM x13.L (1 : Int) fun x29 =>
 letE vB (decide (x29.Value = ([97] : Str))) fun x30 =>
 iteM x30 (
 idxM x19.A (0 : Int) fun x31 =>
 letE vB (decide (x31.State = (2 : Int))) fun x32 =>
 iteM x32 (
 idxM x22.A (0 : Int) fun x33 =>
 letE vB (decide (x33.State = (1 : Int))) fun x34 =>
 letE vB (decide (x8.2.2 = (0 : Int))) fun x35 =>
 letE vB (bif x34 then x35 else false) fun x36 =>
 letE vI ((x8.1.length : Int)) fun x37 =>
 letE vB (decide (x37 = (3 : Int))) fun x38 =>
 letE vB (bif x36 then x38 else false) fun x39 =>
 letE vI ((x26.length : Int)) fun x40 =>
 letE vB (decide (x40 = (1 : Int))) fun x41 =>
 letE vB (bif x39 then x41 else false) fun x42 =>
 iteM x42 (
 idxM x26 (0 : Int) fun x43 =>
 letE vB (decide (x43.X.V = (1000 : Int))) fun x44 =>
 retM x44) (
 retM false)) (
 letE vB (decide (x8.2.2 = (0 : Int))) fun x45 =>
 letE vI ((x8.1.length : Int)) fun x46 =>
 letE vB (decide (x46 = (3 : Int))) fun x47 =>
 letE vI ((x26.length : Int)) fun x48 =>
 letE vB (decide (x48 = (1 : Int))) fun x49 =>
 retM false)) (
 letE vB (decide (x8.2.2 = (0 : Int))) fun x50 =>
 letE vI ((x8.1.length : Int)) fun x51 =>
 letE vB (decide (x51 = (3 : Int))) fun x52 =>
 letE vI ((x26.length : Int)) fun x53 =>
 letE vB (decide (x53 = (1 : Int))) fun x54 =>
 retM false)) (
 letE vB (decide (x8.2.2 = (0 : Int))) fun x55 =>
 letE vI ((x8.1.length : Int)) fun x56 =>
 letE vB (decide (x56 = (3 : Int))) fun x57 =>
 letE vI ((x26.length : Int)) fun x58 =>
 letE vB (decide (x58 = (1 : Int))) fun x59 =>
 retM false)))))

def ref03_Few (a0 : (List GPair)) : Option (Bool) :=
 loopM (fun (x1 : Int × Int) => [(0, sl cGPair a0), (3, vI x1.1), (4, vI x1.2)]) (fun (x1 : Int × Int) => []) (fun (x1 : Int × Int) =>
 letE vI ((a0.length : Int)) fun x2 =>
 letE vB (decide (x1.2 < x2)) fun x3 =>
 iteM x3 (
 idxM a0 x1.2 fun x4 =>
 letE vI ((x4.Name.length : Int)) fun x5 =>
 letE vI (wI (x1.1 + x5)) fun x6 =>
 letE vI ((x4.Value.length : Int)) fun x7 =>
 letE vI (wI (x6 + x7)) fun x8 =>
 letE vI (wI (x1.2 + (1 : Int))) fun x9 =>
 nextM (x8, x9)) (
 exitM <|
 letE vI ((a0.length : Int)) fun x10 =>
 letE vB (decide (x10 ≤ (40 : Int))) fun x11 =>
 letE vB (decide (x1.1 ≤ (3000 : Int))) fun x12 =>
 letE vB (bif x11 then x12 else false) fun x13 =>
 retM x13)) ((0 : Int), (0 : Int))

def ref14_Few (a0 : (List GSeries)) : Option (Bool) :=
 loopM (fun (x1 : Int) => [(0, sl cGSeries a0), (3, vI x1)]) (fun (x1 : Int) => []) (fun (x1 : Int) =>
 letE vI ((a0.length : Int)) fun x2 =>
 letE vB (decide (x1 < x2)) fun x3 =>
 iteM x3 (
 idxM a0 x1 fun x4 =>
 callM vB (fun x5 => []) (ref03_Few x4.L) fun x5 =>
 letE vB (!x5) fun x6 =>
 iteM x6 (
 exitM <|
 retM false) (
 letE vI ((x4.S.length : Int)) fun x7 =>
 letE vB (decide ((100 : Int) < x7)) fun x8 =>
 iteM x8 (
 exitM <|
 retM false) (
 letE vI (wI (x1 + (1 : Int))) fun x9 =>
 nextM x9))) (
 exitM <|
 letE vI ((a0.length : Int)) fun x10 =>
 letE vB (decide (x10 ≤ (40 : Int))) fun x11 =>
 retM x11)) (0 : Int)

def ref08_Few (a0 : GSel) : Option (Bool) :=
 letE vI ((a0.Name.length : Int)) fun x1 =>
 loopM (fun (x2 : Int × Int) => [(1, .ptr 0 0), (3, vI x2.1), (4, vI x2.2)]) (fun (x2 : Int × Int) => [.box [vS a0.Name, sl cGMatch a0.M]]) (fun (x2 : Int × Int) =>
 letE vI ((a0.M.length : Int)) fun x3 =>
 letE vB (decide (x2.2 < x3)) fun x4 =>
 iteM x4 (
 idxM a0.M x2.2 fun x5 =>
 letE vI ((x5.Name.length : Int)) fun x6 =>
 letE vI (wI (x2.1 + x6)) fun x7 =>
 letE vI ((x5.Value.length : Int)) fun x8 =>
 letE vI (wI (x7 + x8)) fun x9 =>
 letE vI (wI (x2.2 + (1 : Int))) fun x10 =>
 nextM (x9, x10)) (
 exitM <|
 letE vI ((a0.M.length : Int)) fun x11 =>
 letE vB (decide (x11 ≤ (40 : Int))) fun x12 =>
 letE vB (decide (x2.1 ≤ (3000 : Int))) fun x13 =>
 letE vB (bif x12 then x13 else false) fun x14 =>
 retM x14)) (x1, (0 : Int))

def ref10_Few (a0 : GRule) : Option (Bool) :=
 letE vI ((a0.Name.length : Int)) fun x1 =>
 letE vB (decide (x1 ≤ (200 : Int))) fun x2 =>
 iteM x2 (
 callM vB (fun x3 => [.box [vS a0.Name, vS a0.E.S.Name, sl cGMatch a0.E.S.M, vI a0.E.Op, vI a0.E.V, vI a0.For, vI a0.Keep, sl cGPair a0.Labels]]) (ref08_Few a0.E.S) fun x3 =>
 iteM x3 (
 callM vB (fun x4 => [.box [vS a0.Name, vS a0.E.S.Name, sl cGMatch a0.E.S.M, vI a0.E.Op, vI a0.E.V, vI a0.For, vI a0.Keep, sl cGPair a0.Labels]]) (ref03_Few a0.Labels) fun x4 =>
 retM x4) (
 retM false)) (
 retM false)

def law19_EvalHolds (a0 : (List GSeries)) (a1 : GRule) (a2 : Int) : Option (Bool) :=
 callM vB (fun x1 => [.box [vS a1.Name, vS a1.E.S.Name, sl cGMatch a1.E.S.M, vI a1.E.Op, vI a1.E.V, vI a1.For, vI a1.Keep, sl cGPair a1.Labels]]) (law19_awake) fun x1 =>
 callM vB (fun x2 => [.box [vS a1.Name, vS a1.E.S.Name, sl cGMatch a1.E.S.M, vI a1.E.Op, vI a1.E.V, vI a1.For, vI a1.Keep, sl cGPair a1.Labels]]) (ref14_Few a0) fun x2 =>
 letE vB (!x2) fun x3 =>
 iteM x3 (
 retM x1) (
 callM vB (fun x4 => [.box [vS a1.Name, vS a1.E.S.Name, sl cGMatch a1.E.S.M, vI a1.E.Op, vI a1.E.V, vI a1.For, vI a1.Keep, sl cGPair a1.Labels]]) (ref10_Few a1) fun x4 =>
 letE vB (!x4) fun x5 =>
 iteM x5 (
 retM x1) (
 callM vB (fun x6 => [.box [vS a1.Name, vS a1.E.S.Name, sl cGMatch a1.E.S.M, vI a1.E.Op, vI a1.E.V, vI a1.For, vI a1.Keep, sl cGPair a1.Labels]]) (store_Sane a0) fun x6 =>
 letE vB (!x6) fun x7 =>
 iteM x7 (
 retM x1) (
 callM vB (fun x8 => [.box [vS a1.Name, vS a1.E.S.Name, sl cGMatch a1.E.S.M, vI a1.E.Op, vI a1.E.V, vI a1.For, vI a1.Keep, sl cGPair a1.Labels]]) (rule_Sane a1) fun x8 =>
 letE vB (!x8) fun x9 =>
 iteM x9 (
 retM x1) (
 callM (sl cGFound) (fun x10 => [.box [vS a1.Name, vS a1.E.S.Name, sl cGMatch a1.E.S.M, vI a1.E.Op, vI a1.E.V, vI a1.For, vI a1.Keep, sl cGPair a1.Labels]]) (eval_Rule a0 a1 a2) fun x10 =>
 callM (so 2 cGFound) (fun x11 => [.box [vS a1.Name, vS a1.E.S.Name, sl cGMatch a1.E.S.M, vI a1.E.Op, vI a1.E.V, vI a1.For, vI a1.Keep, sl cGPair a1.Labels], .dead, tk x11.length 3 41]) (store_Select a0 a1.E.S a2 (300000 : Int)) fun x11 =>
 loopM (fun (x12 : Int × Int) => [(4, .ptr 0 0), (7, vB x1), (8, sl cGFound x10), (9, so 2 cGFound x11), (10, vI x12.1), (11, vI x12.2)]) (fun (x12 : Int × Int) => [.box [vS a1.Name, vS a1.E.S.Name, sl cGMatch a1.E.S.M, vI a1.E.Op, vI a1.E.V, vI a1.For, vI a1.Keep, sl cGPair a1.Labels], .dead, tk x11.length 3 41]) (fun (x12 : Int × Int) =>
 letE vI ((x11.length : Int)) fun x13 =>
 letE vB (decide (x12.2 < x13)) fun x14 =>
 iteM x14 (
 drawM <|
 idxM x11 x12.2 fun x15 =>
 callM vB (fun x16 => [.box [vS a1.Name, vS a1.E.S.Name, sl cGMatch a1.E.S.M, vI a1.E.Op, vI a1.E.V, vI a1.For, vI a1.Keep, sl cGPair a1.Labels], .dead, tk x11.length 3 41]) (cond_Holds a1.E.Op x15.X.V a1.E.V) fun x16 =>
 letE vB (!x16) fun x17 =>
 iteM x17 (
 letE vI (wI (x12.2 + (1 : Int))) fun x18 =>
 nextM (x12.1, x18)) (
 permM [(false, 0), (false, 1), (false, 2), (false, 3), (false, 4), (false, 6), (false, 7), (true, 5), (true, 8), (false, 9), (false, 10), (false, 11), (false, 12), (false, 13)] <|
 callM (so 3 cGPair) (fun x19 => [.box [vS a1.Name, vS a1.E.S.Name, sl cGMatch a1.E.S.M, vI a1.E.Op, vI a1.E.V, vI a1.For, vI a1.Keep, sl cGPair a1.Labels], .dead, tk x11.length 3 41, tk x19.length 2 51]) (label_Without x15.L ([95, 95, 110, 97, 109, 101, 95, 95] : Str)) fun x19 =>
 callM (fun x20 => .tup [(sl cGPair) x20.1, vI x20.2]) (fun x20 => [.box [vS a1.Name, vS a1.E.S.Name, sl cGMatch a1.E.S.M, vI a1.E.Op, vI a1.E.V, vI a1.For, vI a1.Keep, sl cGPair a1.Labels], .dead, tk x11.length 3 41, .tok x19.length 2 51 false]) (label_Merge x19 a1.Labels) fun x20 =>
 callM (fun x21 => .tup [(sl cGPair) x21.1, vI x21.2]) (fun x21 => [.box [vS a1.Name, vS a1.E.S.Name, sl cGMatch a1.E.S.M, vI a1.E.Op, vI a1.E.V, vI a1.For, vI a1.Keep, sl cGPair a1.Labels], .dead, tk x11.length 3 41, .tok x19.length 2 51 false]) (label_With x20.1 ([97, 108, 101, 114, 116, 110, 97, 109, 101] : Str) a1.Name) fun x21 =>
 loopM (fun (x22 : Bool × Int) => [(4, .ptr 0 0), (7, vB x1), (8, sl cGFound x10), (9, so 2 cGFound x11), (10, vI x12.1), (11, vI x12.2), (13, vI x20.2), (14, sl cGPair x21.1), (15, vI x21.2), (16, vB x22.1), (17, vI x22.2)]) (fun (x22 : Bool × Int) => [.box [vS a1.Name, vS a1.E.S.Name, sl cGMatch a1.E.S.M, vI a1.E.Op, vI a1.E.V, vI a1.For, vI a1.Keep, sl cGPair a1.Labels], .dead, tk x11.length 3 41]) (fun (x22 : Bool × Int) =>
 letE vI ((x10.length : Int)) fun x23 =>
 letE vB (decide (x22.2 < x23)) fun x24 =>
 iteM x24 (
 iteM x22.1 (
 letE vI (wI (x22.2 + (1 : Int))) fun x25 =>
 nextM (true, x25)) (
 idxM x10 x22.2 fun x26 =>
 callM vI (fun x27 => [.box [vS a1.Name, vS a1.E.S.Name, sl cGMatch a1.E.S.M, vI a1.E.Op, vI a1.E.V, vI a1.For, vI a1.Keep, sl cGPair a1.Labels], .dead, tk x11.length 3 41]) (label_Compare x26.L x21.1) fun x27 =>
 letE vB (decide (x27 = (0 : Int))) fun x28 =>
 letE vI (wI (x22.2 + (1 : Int))) fun x29 =>
 nextM (x28, x29))) (
 exitM <|
 letE vB (decide (x20.2 = (0 : Int))) fun x30 =>
 letE vB (decide (x21.2 = (0 : Int))) fun x31 =>
 letE vB (bif x30 then x31 else false) fun x32 =>
 iteM x32 (
 letE vI (wI (x12.1 + (1 : Int))) fun x33 =>
 letE vB (!x22.1) fun x34 =>
 iteM x34 (
 exitM <|
 retM false) (
 letE vI (wI (x12.2 + (1 : Int))) fun x35 =>
 nextM (x33, x35))) (
 letE vI (wI (x12.2 + (1 : Int))) fun x36 =>
 nextM (x12.1, x36)))) (false, (0 : Int)))) (
 exitM <|
 loopM (fun (x37 : Int) => [(4, .ptr 0 0), (7, vB x1), (8, sl cGFound x10), (10, vI x12.1), (18, vI x37)]) (fun (x37 : Int) => [.box [vS a1.Name, vS a1.E.S.Name, sl cGMatch a1.E.S.M, vI a1.E.Op, vI a1.E.V, vI a1.For, vI a1.Keep, sl cGPair a1.Labels]]) (fun (x37 : Int) =>
 letE vI ((x10.length : Int)) fun x38 =>
 letE vB (decide (x37 < x38)) fun x39 =>
 iteM x39 (
 idxM x10 x37 fun x40 =>
 callM (fun x41 => .tup [vS x41.1, vB x41.2]) (fun x41 => [.box [vS a1.Name, vS a1.E.S.Name, sl cGMatch a1.E.S.M, vI a1.E.Op, vI a1.E.V, vI a1.For, vI a1.Keep, sl cGPair a1.Labels]]) (label_Get x40.L ([97, 108, 101, 114, 116, 110, 97, 109, 101] : Str)) fun x41 =>
 loopM (fun (x42 : Int) => [(4, .ptr 0 0), (7, vB x1), (8, sl cGFound x10), (10, vI x12.1), (18, vI x37), (19, vS x41.1), (20, vB x41.2), (21, vI x42)]) (fun (x42 : Int) => [.box [vS a1.Name, vS a1.E.S.Name, sl cGMatch a1.E.S.M, vI a1.E.Op, vI a1.E.V, vI a1.For, vI a1.Keep, sl cGPair a1.Labels]]) (fun (x42 : Int) =>
 letE vB (decide (x42 < x37)) fun x43 =>
 iteM x43 (
 drawM <|
 idxM x10 x42 fun x44 =>
 callM vI (fun x45 => [.box [vS a1.Name, vS a1.E.S.Name, sl cGMatch a1.E.S.M, vI a1.E.Op, vI a1.E.V, vI a1.For, vI a1.Keep, sl cGPair a1.Labels]]) (label_Compare x44.L x40.L) fun x45 =>
 letE vB (decide (x45 = (0 : Int))) fun x46 =>
 iteM x46 (
 exitM <|
 exitM <|
 retM false) (
 letE vI (wI (x42 + (1 : Int))) fun x47 =>
 nextM x47)) (
 exitM <|
 loopM (fun (x48 : Int) => [(4, .ptr 0 0), (7, vB x1), (8, sl cGFound x10), (10, vI x12.1), (18, vI x37), (19, vS x41.1), (20, vB x41.2), (22, vI x48)]) (fun (x48 : Int) => [.box [vS a1.Name, vS a1.E.S.Name, sl cGMatch a1.E.S.M, vI a1.E.Op, vI a1.E.V, vI a1.For, vI a1.Keep, sl cGPair a1.Labels]]) (fun (x48 : Int) =>
 letE vI ((a1.Labels.length : Int)) fun x49 =>
 letE vB (decide (x48 < x49)) fun x50 =>
 iteM x50 (
 drawM <|
 idxM a1.Labels x48 fun x51 =>
 callM (fun x52 => .tup [vS x52.1, vB x52.2]) (fun x52 => [.box [vS a1.Name, vS a1.E.S.Name, sl cGMatch a1.E.S.M, vI a1.E.Op, vI a1.E.V, vI a1.For, vI a1.Keep, sl cGPair a1.Labels]]) (label_Get x40.L x51.Name) fun x52 =>
 letE vB (!decide (x52.1 = x51.Value)) fun x53 =>
 iteM x53 (
 exitM <|
 exitM <|
 retM false) (
 letE vI (wI (x48 + (1 : Int))) fun x54 =>
 nextM x54)) (
 exitM <|
 drawM <|
 letE vB (!x41.2) fun x55 =>
 iteM x55 (
 exitM <|
 retM false) (
 letE vB (!decide (x41.1 = a1.Name)) fun x56 =>
 iteM x56 (
 exitM <|
 retM false) (
 callM vB (fun x57 => [.box [vS a1.Name, vS a1.E.S.Name, sl cGMatch a1.E.S.M, vI a1.E.Op, vI a1.E.V, vI a1.For, vI a1.Keep, sl cGPair a1.Labels]]) (label_Sane x40.L) fun x57 =>
 letE vB (!x57) fun x58 =>
 iteM x58 (
 exitM <|
 retM false) (
 callM vB (fun x59 => [.box [vS a1.Name, vS a1.E.S.Name, sl cGMatch a1.E.S.M, vI a1.E.Op, vI a1.E.V, vI a1.For, vI a1.Keep, sl cGPair a1.Labels]]) (cond_Holds a1.E.Op x40.X.V a1.E.V) fun x59 =>
 letE vB (!x59) fun x60 =>
 iteM x60 (
 exitM <|
 retM false) (
 letE vI (wI (x37 + (1 : Int))) fun x61 =>
 nextM x61)))))) (0 : Int))) (0 : Int)) (
 exitM <|
 letE vI ((x10.length : Int)) fun x62 =>
 letE vB (decide (x62 ≤ x12.1)) fun x63 =>
 letE vB (bif x1 then x63 else false) fun x64 =>
 retM x64)) (0 : Int))) ((0 : Int), (0 : Int))))))

def ref11_Few (a0 : (List GGroup)) : Option (Bool) :=
 loopM (fun (x1 : Int) => [(0, sl cGGroup a0), (3, vI x1)]) (fun (x1 : Int) => []) (fun (x1 : Int) =>
 letE vI ((a0.length : Int)) fun x2 =>
 letE vB (decide (x1 < x2)) fun x3 =>
 iteM x3 (
 loopM (fun (x4 : Int) => [(0, sl cGGroup a0), (3, vI x1), (4, vI x4)]) (fun (x4 : Int) => []) (fun (x4 : Int) =>
 idxM a0 x1 fun x5 =>
 letE vI ((x5.Rules.length : Int)) fun x6 =>
 letE vB (decide (x4 < x6)) fun x7 =>
 iteM x7 (
 idxM x5.Rules x4 fun x8 =>
 callM vB (fun x9 => []) (ref10_Few x8) fun x9 =>
 letE vB (!x9) fun x10 =>
 iteM x10 (
 exitM <|
 exitM <|
 retM false) (
 letE vI (wI (x4 + (1 : Int))) fun x11 =>
 nextM x11)) (
 exitM <|
 letE vI ((x5.Rules.length : Int)) fun x12 =>
 letE vB (decide ((20 : Int) < x12)) fun x13 =>
 iteM x13 (
 exitM <|
 retM false) (
 letE vI ((x5.Name.length : Int)) fun x14 =>
 letE vB (decide ((200 : Int) < x14)) fun x15 =>
 iteM x15 (
 exitM <|
 retM false) (
 letE vI (wI (x1 + (1 : Int))) fun x16 =>
 nextM x16)))) (0 : Int)) (
 exitM <|
 letE vI ((a0.length : Int)) fun x17 =>
 letE vB (decide (x17 ≤ (20 : Int))) fun x18 =>
 retM x18)) (0 : Int)

def ref17_Few (a0 : GTable) : Option (Bool) :=
 loopM (fun (x1 : Int) => [(1, .ptr 0 0), (3, vI x1)]) (fun (x1 : Int) => [.box [sl cGAlert a0.A, vI a0.Full]]) (fun (x1 : Int) =>
 letE vI ((a0.A.length : Int)) fun x2 =>
 letE vB (decide (x1 < x2)) fun x3 =>
 iteM x3 (
 idxM a0.A x1 fun x4 =>
 callM vB (fun x5 => [.box [sl cGAlert a0.A, vI a0.Full]]) (ref03_Few x4.L) fun x5 =>
 letE vB (!x5) fun x6 =>
 iteM x6 (
 exitM <|
 retM false) (
 letE vI (wI (x1 + (1 : Int))) fun x7 =>
 nextM x7)) (
 exitM <|
 letE vI ((a0.A.length : Int)) fun x8 =>
 letE vB (decide (x8 ≤ (40 : Int))) fun x9 =>
 retM x9)) (0 : Int)

def ref19_Few (a0 : (List GTable)) : Option (Bool) :=
 loopM (fun (x1 : Int) => [(0, sl cGTable a0), (3, vI x1)]) (fun (x1 : Int) => []) (fun (x1 : Int) =>
 letE vI ((a0.length : Int)) fun x2 =>
 letE vB (decide (x1 < x2)) fun x3 =>
 iteM x3 (
 idxM a0 x1 fun x4 =>
 callM vB (fun x5 => []) (ref17_Few x4) fun x5 =>
 letE vB (!x5) fun x6 =>
 iteM x6 (
 exitM <|
 retM false) (
 letE vI (wI (x1 + (1 : Int))) fun x7 =>
 nextM x7)) (
 exitM <|
 letE vI ((a0.length : Int)) fun x8 =>
 letE vB (decide (x8 ≤ (40 : Int))) fun x9 =>
 retM x9)) (0 : Int)

def ref03_Same (a0 : (List GPair)) (a1 : (List GPair)) : Option (Bool) :=
 letE vI ((a0.length : Int)) fun x1 =>
 letE vI ((a1.length : Int)) fun x2 =>
 letE vB (!decide (x1 = x2)) fun x3 =>
 iteM x3 (
 retM false) (
 loopM (fun (x4 : Int) => [(0, sl cGPair a0), (1, sl cGPair a1), (5, vI x4)]) (fun (x4 : Int) => []) (fun (x4 : Int) =>
 letE vI ((a0.length : Int)) fun x5 =>
 letE vB (decide (x4 < x5)) fun x6 =>
 iteM x6 (
 idxM a0 x4 fun x7 =>
 idxM a1 x4 fun x8 =>
 letE vB (!(decide (x7.Name = x8.Name) && (decide (x7.Value = x8.Value) && true))) fun x9 =>
 iteM x9 (
 exitM <|
 retM false) (
 letE vI (wI (x4 + (1 : Int))) fun x10 =>
 nextM x10)) (
 exitM <|
 retM true)) (0 : Int))

def ref17_SameAlert (a0 : GAlert) (a1 : GAlert) : Option (Bool) :=
 callM vB (fun x1 => [.box [sl cGPair a0.L, vB a0.H.On, vI a0.H.Since, vB a0.H.Hit, vI a0.H.Fired, vI a0.State, vI a0.V], .box [sl cGPair a1.L, vB a1.H.On, vI a1.H.Since, vB a1.H.Hit, vI a1.H.Fired, vI a1.State, vI a1.V]]) (ref03_Same a0.L a1.L) fun x1 =>
 iteM x1 (
 letE vB (((a0.H.On == a1.H.On) && (decide (a0.H.Since = a1.H.Since) && ((a0.H.Hit == a1.H.Hit) && (decide (a0.H.Fired = a1.H.Fired) && true))))) fun x2 =>
 iteM x2 (
 letE vB (decide (a0.State = a1.State)) fun x3 =>
 iteM x3 (
 letE vB (decide (a0.V = a1.V)) fun x4 =>
 retM x4) (
 retM false)) (
 retM false)) (
 retM false)

def ref17_SameAlerts (a0 : (List GAlert)) (a1 : (List GAlert)) : Option (Bool) :=
 letE vI ((a0.length : Int)) fun x1 =>
 letE vI ((a1.length : Int)) fun x2 =>
 letE vB (!decide (x1 = x2)) fun x3 =>
 iteM x3 (
 retM false) (
 loopM (fun (x4 : Int) => [(0, sl cGAlert a0), (1, sl cGAlert a1), (5, vI x4)]) (fun (x4 : Int) => []) (fun (x4 : Int) =>
 letE vI ((a0.length : Int)) fun x5 =>
 letE vB (decide (x4 < x5)) fun x6 =>
 iteM x6 (
 drawM <|
 idxM a0 x4 fun x7 =>
 idxM a1 x4 fun x8 =>
 callM vB (fun x9 => []) (ref17_SameAlert x7 x8) fun x9 =>
 letE vB (!x9) fun x10 =>
 iteM x10 (
 exitM <|
 retM false) (
 letE vI (wI (x4 + (1 : Int))) fun x11 =>
 nextM x11)) (
 exitM <|
 retM true)) (0 : Int))

def ref17_Same (a0 : GTable) (a1 : GTable) : Option (Bool) :=
 letE vB (decide (a0.Full = a1.Full)) fun x1 =>
 iteM x1 (
 callM vB (fun x2 => [.box [sl cGAlert a0.A, vI a0.Full], .box [sl cGAlert a1.A, vI a1.Full]]) (ref17_SameAlerts a0.A a1.A) fun x2 =>
 retM x2) (
 retM false)

def ref19_SameTables (a0 : (List GTable)) (a1 : (List GTable)) : Option (Bool) :=
 letE vI ((a0.length : Int)) fun x1 =>
 letE vI ((a1.length : Int)) fun x2 =>
 letE vB (!decide (x1 = x2)) fun x3 =>
 iteM x3 (
 retM false) (
 loopM (fun (x4 : Int) => [(0, sl cGTable a0), (1, sl cGTable a1), (5, vI x4)]) (fun (x4 : Int) => []) (fun (x4 : Int) =>
 letE vI ((a0.length : Int)) fun x5 =>
 letE vB (decide (x4 < x5)) fun x6 =>
 iteM x6 (
 drawM <|
 idxM a0 x4 fun x7 =>
 idxM a1 x4 fun x8 =>
 callM vB (fun x9 => []) (ref17_Same x7 x8) fun x9 =>
 letE vB (!x9) fun x10 =>
 iteM x10 (
 exitM <|
 retM false) (
 letE vI (wI (x4 + (1 : Int))) fun x11 =>
 nextM x11)) (
 exitM <|
 retM true)) (0 : Int))

def law19_EvalRules (a0 : (List GSeries)) (a1 : GGroup) (a2 : (List GTable)) (a3 : Int) (a4 : Int) : Option (Bool) :=
 callM vB (fun x1 => [.box [vS a1.Name, vI a1.Interval, vI a1.Offset, sl cGRule a1.Rules]]) (law19_awake) fun x1 =>
 callM vB (fun x2 => [.box [vS a1.Name, vI a1.Interval, vI a1.Offset, sl cGRule a1.Rules]]) (ref14_Few a0) fun x2 =>
 letE vB (!x2) fun x3 =>
 iteM x3 (
 retM x1) (
 letE (sx cGGroup) ([a1] : (List GGroup)) fun x4 =>
 callM vB (fun x5 => [.box [vS a1.Name, vI a1.Interval, vI a1.Offset, sl cGRule a1.Rules]]) (ref11_Few x4) fun x5 =>
 letE vB (!x5) fun x6 =>
 iteM x6 (
 retM x1) (
 callM vB (fun x7 => [.box [vS a1.Name, vI a1.Interval, vI a1.Offset, sl cGRule a1.Rules]]) (ref19_Few a2) fun x7 =>
 letE vB (!x7) fun x8 =>
 iteM x8 (
 retM x1) (
 callM (fun x9 => .tup [(sl cGSeries) x9.1, so 2 cGTable x9.2.1, vI x9.2.2]) (fun x9 => [.box [vS a1.Name, vI a1.Interval, vI a1.Offset, sl cGRule a1.Rules], .dead, tk x9.2.1.length 2 71]) (eval_Group a0 a1 a2 a3) fun x9 =>
 tailM 11 <|
 letE vI (bAnd .i64 a4 (65535 : Int)) fun x10 =>
 letE vI ((a1.Rules.length : Int)) fun x11 =>
 letE vI (wI (x11 + (1 : Int))) fun x12 =>
 gdM (x12 ≠ 0) <|
 letE vI (Int.tmod x10 x12) fun x13 =>
 gdM (0 ≤ (0 : Int) ∧ (0 : Int) ≤ x13 ∧ x13 ≤ (a1.Rules.length : Int)) <|
 letE (sl cGRule) ((a1.Rules.take x13.toNat).drop (0 : Int).toNat) fun x14 =>
 callM (fun x15 => .tup [(sl cGSeries) x15.1, so 5 cGTable x15.2.1, vI x15.2.2]) (fun x15 => [.box [vS a1.Name, vI a1.Interval, vI a1.Offset, sl cGRule a1.Rules], .dead, tk x9.2.1.length 2 71, .box [vS a1.Name, vI a1.Interval, vI a1.Offset, sl cGRule x14], .dead, tk x15.2.1.length 2 71]) (eval_Group a0 (⟨a1.Name, a1.Interval, a1.Offset, x14⟩ : GGroup) a2 a3) fun x15 =>
 letE vI ((x9.2.1.length : Int)) fun x16 =>
 letE vI ((a1.Rules.length : Int)) fun x17 =>
 letE vB (!decide (x16 = x17)) fun x18 =>
 letE vI ((x15.2.1.length : Int)) fun x19 =>
 iteM x18 (
 letE vB (decide (x9.2.2 < x15.2.2)) fun x20 =>
 letE vB (decide (x15.2.2 < (0 : Int))) fun x21 =>
 retM false) (
 letE vI ((x14.length : Int)) fun x22 =>
 letE vB (!decide (x19 = x22)) fun x23 =>
 letE vB (decide (x9.2.2 < x15.2.2)) fun x24 =>
 letE vB (bif x23 then true else x24) fun x25 =>
 letE vB (decide (x15.2.2 < (0 : Int))) fun x26 =>
 letE vB (bif x25 then true else x26) fun x27 =>
 iteM x27 (
 retM false) (
 letE vI ((x14.length : Int)) fun x28 =>
 gdM (0 ≤ x28 ∧ x28 ≤ (a1.Rules.length : Int) ∧ (a1.Rules.length : Int) ≤ (a1.Rules.length : Int)) <|
 letE (sl cGRule) ((a1.Rules.take (a1.Rules.length : Int).toNat).drop x28.toNat) fun x29 =>
 letE vI ((x14.length : Int)) fun x30 =>
 letE vI ((a2.length : Int)) fun x31 =>
 letE vI (min x30 x31) fun x32 =>
 gdM (0 ≤ x32 ∧ x32 ≤ (a2.length : Int) ∧ (a2.length : Int) ≤ (a2.length : Int)) <|
 letE (sl cGTable) ((a2.take (a2.length : Int).toNat).drop x32.toNat) fun x33 =>
 callM (fun x34 => .tup [(sl cGSeries) x34.1, so 8 cGTable x34.2.1, vI x34.2.2]) (fun x34 => [.box [vS a1.Name, vI a1.Interval, vI a1.Offset, sl cGRule a1.Rules], .dead, tk x9.2.1.length 2 71, .box [vS a1.Name, vI a1.Interval, vI a1.Offset, sl cGRule x14], .dead, tk x15.2.1.length 2 71, .box [vS a1.Name, vI a1.Interval, vI a1.Offset, sl cGRule x29], .dead, tk x34.2.1.length 2 71]) (eval_Group x15.1 (⟨a1.Name, a1.Interval, a1.Offset, x29⟩ : GGroup) x33 a3) fun x34 =>
 letE vI ((x15.2.1.length : Int)) fun x35 =>
 iteM x1 (
 gdM (0 ≤ (0 : Int) ∧ (0 : Int) ≤ x35 ∧ x35 ≤ (x9.2.1.length : Int)) <|
 letE (so 2 cGTable) ((x9.2.1.take x35.toNat).drop (0 : Int).toNat) fun x36 =>
 callM vB (fun x37 => [.box [vS a1.Name, vI a1.Interval, vI a1.Offset, sl cGRule a1.Rules], .dead, .tok x9.2.1.length 2 71 false, .box [vS a1.Name, vI a1.Interval, vI a1.Offset, sl cGRule x14], .dead, .tok x15.2.1.length 2 71 false, .box [vS a1.Name, vI a1.Interval, vI a1.Offset, sl cGRule x29], .dead, tk x34.2.1.length 2 71]) (ref19_SameTables x36 x15.2.1) fun x37 =>
 letE vI ((x15.2.1.length : Int)) fun x38 =>
 iteM x37 (
 gdM (0 ≤ x38 ∧ x38 ≤ (x9.2.1.length : Int) ∧ (x9.2.1.length : Int) ≤ (x9.2.1.length : Int)) <|
 letE (so 2 cGTable) ((x9.2.1.take (x9.2.1.length : Int).toNat).drop x38.toNat) fun x39 =>
 callM vB (fun x40 => [.box [vS a1.Name, vI a1.Interval, vI a1.Offset, sl cGRule a1.Rules], .dead, .tok x9.2.1.length 2 71 false, .box [vS a1.Name, vI a1.Interval, vI a1.Offset, sl cGRule x14], .dead, .tok x15.2.1.length 2 71 false, .box [vS a1.Name, vI a1.Interval, vI a1.Offset, sl cGRule x29], .dead, .tok x34.2.1.length 2 71 false]) (ref19_SameTables x39 x34.2.1) fun x40 =>
 letE vI (wI (x15.2.2 + x34.2.2)) fun x41 =>
 letE vB (decide (x41 = x9.2.2)) fun x42 =>
 letE vB (bif x40 then x42 else false) fun x43 =>
 retM x43) (
 letE vI (wI (x15.2.2 + x34.2.2)) fun x44 =>
 letE vB (decide (x44 = x9.2.2)) fun x45 =>
 retM false)) (
 letE vI ((x15.2.1.length : Int)) fun x46 =>
 letE vI (wI (x15.2.2 + x34.2.2)) fun x47 =>
 letE vB (decide (x47 = x9.2.2)) fun x48 =>
 retM false))))))

def ref14_SameFound (a0 : (List GFound)) (a1 : (List GFound)) : Option (Bool) :=
 letE vI ((a0.length : Int)) fun x1 =>
 letE vI ((a1.length : Int)) fun x2 =>
 letE vB (!decide (x1 = x2)) fun x3 =>
 iteM x3 (
 retM false) (
 loopM (fun (x4 : Int) => [(0, sl cGFound a0), (1, sl cGFound a1), (5, vI x4)]) (fun (x4 : Int) => []) (fun (x4 : Int) =>
 letE vI ((a0.length : Int)) fun x5 =>
 letE vB (decide (x4 < x5)) fun x6 =>
 iteM x6 (
 drawM <|
 idxM a0 x4 fun x7 =>
 idxM a1 x4 fun x8 =>
 callM vB (fun x9 => []) (ref03_Same x7.L x8.L) fun x9 =>
 letE vB (!x9) fun x10 =>
 iteM x10 (
 exitM <|
 retM false) (
 letE vB (!(decide (x7.X.T = x8.X.T) && (decide (x7.X.V = x8.X.V) && true))) fun x11 =>
 iteM x11 (
 exitM <|
 retM false) (
 letE vI (wI (x4 + (1 : Int))) fun x12 =>
 nextM x12))) (
 exitM <|
 retM true)) (0 : Int))

def law19_EvalMore (a0 : (List GSeries)) (a1 : GRule) (a2 : Int) (a3 : Int) : Option (Bool) :=
 callM vB (fun x1 => [.box [vS a1.Name, vS a1.E.S.Name, sl cGMatch a1.E.S.M, vI a1.E.Op, vI a1.E.V, vI a1.For, vI a1.Keep, sl cGPair a1.Labels]]) (law19_awake) fun x1 =>
 joinM (fun (x2 : Unit) => [(0, sl cGSeries a0), (2, vI a2), (3, vI a3), (5, .ptr 0 0), (9, vB x1)]) (fun (x2 : Unit) => [.box [vS a1.Name, vS a1.E.S.Name, sl cGMatch a1.E.S.M, vI a1.E.Op, vI a1.E.V, vI a1.For, vI a1.Keep, sl cGPair a1.Labels]]) (fun (x2 : Unit) =>
 letE vI (wI (a1.E.V + a3)) fun x21 =>
 letE vI (min x21 (9007199254740992 : Int)) fun x22 =>
 callM (sl cGFound) (fun x23 => [.box [vS a1.Name, vS a1.E.S.Name, sl cGMatch a1.E.S.M, vI a1.E.Op, vI a1.E.V, vI a1.For, vI a1.Keep, sl cGPair a1.Labels], .box [vS a1.Name, vS a1.E.S.Name, sl cGMatch a1.E.S.M, vI a1.E.Op, vI x22, vI a1.For, vI a1.Keep, sl cGPair a1.Labels]]) (eval_Rule a0 a1 a2) fun x23 =>
 callM (sl cGFound) (fun x24 => [.box [vS a1.Name, vS a1.E.S.Name, sl cGMatch a1.E.S.M, vI a1.E.Op, vI a1.E.V, vI a1.For, vI a1.Keep, sl cGPair a1.Labels], .box [vS a1.Name, vS a1.E.S.Name, sl cGMatch a1.E.S.M, vI a1.E.Op, vI x22, vI a1.For, vI a1.Keep, sl cGPair a1.Labels]]) (eval_Rule a0 (⟨a1.Name, (⟨a1.E.S, a1.E.Op, x22⟩ : GExpr), a1.For, a1.Keep, a1.Labels⟩ : GRule) a2) fun x24 =>
 loopM (fun (x25 : Int) => [(0, sl cGSeries a0), (2, vI a2), (5, .ptr 0 0), (9, vB x1), (11, sl cGFound x23), (12, sl cGFound x24), (13, vI x25)]) (fun (x25 : Int) => [.box [vS a1.Name, vS a1.E.S.Name, sl cGMatch a1.E.S.M, vI a1.E.Op, vI a1.E.V, vI a1.For, vI a1.Keep, sl cGPair a1.Labels]]) (fun (x25 : Int) =>
 letE vI ((x24.length : Int)) fun x26 =>
 letE vB (decide (x25 < x26)) fun x27 =>
 iteM x27 (
 loopM (fun (x28 : Bool × Int) => [(0, sl cGSeries a0), (2, vI a2), (5, .ptr 0 0), (9, vB x1), (11, sl cGFound x23), (12, sl cGFound x24), (13, vI x25), (14, vB x28.1), (15, vI x28.2)]) (fun (x28 : Bool × Int) => [.box [vS a1.Name, vS a1.E.S.Name, sl cGMatch a1.E.S.M, vI a1.E.Op, vI a1.E.V, vI a1.For, vI a1.Keep, sl cGPair a1.Labels]]) (fun (x28 : Bool × Int) =>
 letE vI ((x23.length : Int)) fun x29 =>
 letE vB (decide (x28.2 < x29)) fun x30 =>
 iteM x30 (
 drawM <|
 iteM x28.1 (
 letE vI (wI (x28.2 + (1 : Int))) fun x31 =>
 nextM (true, x31)) (
 idxM x23 x28.2 fun x32 =>
 letE (sx cGFound) ([(⟨x32.L, (⟨(0 : Int), (0 : Int)⟩ : GSample)⟩ : GFound)] : (List GFound)) fun x33 =>
 idxM x24 x25 fun x34 =>
 letE (sx cGFound) ([(⟨x34.L, (⟨(0 : Int), (0 : Int)⟩ : GSample)⟩ : GFound)] : (List GFound)) fun x35 =>
 callM vB (fun x36 => [.box [vS a1.Name, vS a1.E.S.Name, sl cGMatch a1.E.S.M, vI a1.E.Op, vI a1.E.V, vI a1.For, vI a1.Keep, sl cGPair a1.Labels]]) (ref14_SameFound x33 x35) fun x36 =>
 letE vI (wI (x28.2 + (1 : Int))) fun x37 =>
 nextM (x36, x37))) (
 exitM <|
 letE vB (!x28.1) fun x38 =>
 iteM x38 (
 exitM <|
 retM false) (
 letE vI (wI (x25 + (1 : Int))) fun x39 =>
 nextM x39))) (false, (0 : Int))) (
 exitM <|
 letE vI ((x24.length : Int)) fun x40 =>
 letE vI ((x23.length : Int)) fun x41 =>
 letE vB (decide (x40 ≤ x41)) fun x42 =>
 letE vB (bif x1 then x42 else false) fun x43 =>
 iteM x43 (
 callM (so 2 cGFound) (fun x44 => [.box [vS a1.Name, vS a1.E.S.Name, sl cGMatch a1.E.S.M, vI a1.E.Op, vI a1.E.V, vI a1.For, vI a1.Keep, sl cGPair a1.Labels], .dead, tk x44.length 3 41]) (store_Select a0 a1.E.S a2 (300000 : Int)) fun x44 =>
 letE vI ((x44.length : Int)) fun x45 =>
 letE vB (decide ((0 : Int) < x45)) fun x46 =>
 letE vI ((x23.length : Int)) fun x47 =>
 letE vB (decide (x47 = (0 : Int))) fun x48 =>
 letE vB (bif x46 then true else x48) fun x49 =>
 retM x49) (
 letE vI ((x23.length : Int)) fun x50 =>
 letE vB (decide (x50 = (0 : Int))) fun x51 =>
 retM false))) (0 : Int)) <|
 callM vB (fun x3 => [.box [vS a1.Name, vS a1.E.S.Name, sl cGMatch a1.E.S.M, vI a1.E.Op, vI a1.E.V, vI a1.For, vI a1.Keep, sl cGPair a1.Labels]]) (ref14_Few a0) fun x3 =>
 letE vB (!x3) fun x4 =>
 iteM x4 (
 letE vB (decide (a3 < (0 : Int))) fun x5 =>
 letE vB (decide ((9007199254740992 : Int) < a3)) fun x6 =>
 exitM <|
 retM x1) (
 callM vB (fun x7 => [.box [vS a1.Name, vS a1.E.S.Name, sl cGMatch a1.E.S.M, vI a1.E.Op, vI a1.E.V, vI a1.For, vI a1.Keep, sl cGPair a1.Labels]]) (ref10_Few a1) fun x7 =>
 letE vB (!x7) fun x8 =>
 iteM x8 (
 letE vB (decide (a3 < (0 : Int))) fun x9 =>
 letE vB (decide ((9007199254740992 : Int) < a3)) fun x10 =>
 exitM <|
 retM x1) (
 callM vB (fun x11 => [.box [vS a1.Name, vS a1.E.S.Name, sl cGMatch a1.E.S.M, vI a1.E.Op, vI a1.E.V, vI a1.For, vI a1.Keep, sl cGPair a1.Labels]]) (rule_Sane a1) fun x11 =>
 letE vB (!x11) fun x12 =>
 letE vB (decide (a3 < (0 : Int))) fun x13 =>
 letE vB (bif x12 then true else x13) fun x14 =>
 letE vB (decide ((9007199254740992 : Int) < a3)) fun x15 =>
 letE vB (bif x14 then true else x15) fun x16 =>
 iteM x16 (
 exitM <|
 retM x1) (
 letE vB (!decide (a1.E.Op = (1 : Int))) fun x17 =>
 iteM x17 (
 letE vB (!decide (a1.E.Op = (2 : Int))) fun x18 =>
 letE vB (bif true then x18 else false) fun x19 =>
 iteM x19 (
 exitM <|
 retM x1) (
 nextM ())) (
 letE vB (bif false then false else false) fun x20 =>
 iteM x20 (
 exitM <|
 retM x1) (
 nextM ())))))

def ref13_Same (a0 : (List GSample)) (a1 : (List GSample)) : Option (Bool) :=
 letE vI ((a0.length : Int)) fun x1 =>
 letE vI ((a1.length : Int)) fun x2 =>
 letE vB (!decide (x1 = x2)) fun x3 =>
 iteM x3 (
 retM false) (
 loopM (fun (x4 : Int) => [(0, sl cGSample a0), (1, sl cGSample a1), (5, vI x4)]) (fun (x4 : Int) => []) (fun (x4 : Int) =>
 letE vI ((a0.length : Int)) fun x5 =>
 letE vB (decide (x4 < x5)) fun x6 =>
 iteM x6 (
 idxM a0 x4 fun x7 =>
 idxM a1 x4 fun x8 =>
 letE vB (!(decide (x7.T = x8.T) && (decide (x7.V = x8.V) && true))) fun x9 =>
 iteM x9 (
 exitM <|
 retM false) (
 letE vI (wI (x4 + (1 : Int))) fun x10 =>
 nextM x10)) (
 exitM <|
 retM true)) (0 : Int))

def ref14_Same (a0 : (List GSeries)) (a1 : (List GSeries)) : Option (Bool) :=
 letE vI ((a0.length : Int)) fun x1 =>
 letE vI ((a1.length : Int)) fun x2 =>
 letE vB (!decide (x1 = x2)) fun x3 =>
 iteM x3 (
 retM false) (
 loopM (fun (x4 : Int) => [(0, sl cGSeries a0), (1, sl cGSeries a1), (5, vI x4)]) (fun (x4 : Int) => []) (fun (x4 : Int) =>
 letE vI ((a0.length : Int)) fun x5 =>
 letE vB (decide (x4 < x5)) fun x6 =>
 iteM x6 (
 drawM <|
 idxM a0 x4 fun x7 =>
 idxM a1 x4 fun x8 =>
 callM vB (fun x9 => []) (ref03_Same x7.L x8.L) fun x9 =>
 letE vB (!x9) fun x10 =>
 iteM x10 (
 exitM <|
 retM false) (
 callM vB (fun x11 => []) (ref13_Same x7.S x8.S) fun x11 =>
 letE vB (!x11) fun x12 =>
 iteM x12 (
 exitM <|
 retM false) (
 letE vI (wI (x4 + (1 : Int))) fun x13 =>
 nextM x13))) (
 exitM <|
 retM true)) (0 : Int))

def law19_EvalEmpty (a0 : (List GSeries)) (a1 : (List GTable)) (a2 : Int) : Option (Bool) :=
 callM vB (fun x1 => []) (law19_awake) fun x1 =>
 callM vB (fun x2 => []) (ref14_Few a0) fun x2 =>
 letE vB (!x2) fun x3 =>
 iteM x3 (
 retM x1) (
 callM vB (fun x4 => []) (store_Sane a0) fun x4 =>
 letE vB (!x4) fun x5 =>
 iteM x5 (
 retM x1) (
 callM (fun x6 => .tup [(sl cGSeries) x6.1, so 1 cGTable x6.2.1, vI x6.2.2]) (fun x6 => [.dead, tk x6.2.1.length 2 71]) (eval_Group a0 (⟨([103] : Str), (1 : Int), (0 : Int), ([] : (List GRule))⟩ : GGroup) a1 a2) fun x6 =>
 callM (fun x7 => .tup [(sl cGSeries) x7.1, vI x7.2]) (fun x7 => [.dead, tk x6.2.1.length 2 71]) (eval_Write a0 (⟨([] : (List GAlert)), (0 : Int)⟩ : GTable) a2) fun x7 =>
 iteM x1 (
 callM vB (fun x8 => [.dead, tk x6.2.1.length 2 71]) (ref14_Same x6.1 a0) fun x8 =>
 letE vI ((x6.2.1.length : Int)) fun x9 =>
 letE vB (decide (x9 = (0 : Int))) fun x10 =>
 letE vB (bif x8 then x10 else false) fun x11 =>
 letE vB (decide (x6.2.2 = (0 : Int))) fun x12 =>
 letE vB (bif x11 then x12 else false) fun x13 =>
 iteM x13 (
 callM vB (fun x14 => [.dead, tk x6.2.1.length 2 71]) (ref14_Same x7.1 a0) fun x14 =>
 letE vB (decide (x7.2 = (0 : Int))) fun x15 =>
 letE vB (bif x14 then x15 else false) fun x16 =>
 retM x16) (
 letE vB (decide (x7.2 = (0 : Int))) fun x17 =>
 retM false)) (
 letE vI ((x6.2.1.length : Int)) fun x18 =>
 letE vB (decide (x18 = (0 : Int))) fun x19 =>
 letE vB (decide (x6.2.2 = (0 : Int))) fun x20 =>
 letE vB (decide (x7.2 = (0 : Int))) fun x21 =>
 retM false)))

def store_Get (a0 : (List GSeries)) (a1 : (List GPair)) : Option ((List GSample)) :=
 callM (sl cGSeries) (fun x1 => []) (store_counted a0) fun x1 =>
 callM (fun x2 => .tup [vI x2.1, vB x2.2]) (fun x2 => []) (store_find x1 a1) fun x2 =>
 letE vB (!x2.2) fun x3 =>
 iteM x3 (
 retM ([] : (List GSample))) (
 idxM x1 x2.1 fun x4 =>
 retM x4.S)

def law19_EvalWrites (a0 : (List GSeries)) (a1 : GTable) (a2 : Int) : Option (Bool) :=
 callM vB (fun x1 => [.box [sl cGAlert a1.A, vI a1.Full]]) (law19_awake) fun x1 =>
 callM vB (fun x2 => [.box [sl cGAlert a1.A, vI a1.Full]]) (ref14_Few a0) fun x2 =>
 letE vB (!x2) fun x3 =>
 iteM x3 (
 letE vB (decide (a2 < (0 : Int))) fun x4 =>
 letE vB (decide ((9007199254740992 : Int) < a2)) fun x5 =>
 retM x1) (
 callM vB (fun x6 => [.box [sl cGAlert a1.A, vI a1.Full]]) (ref17_Few a1) fun x6 =>
 letE vB (!x6) fun x7 =>
 iteM x7 (
 letE vB (decide (a2 < (0 : Int))) fun x8 =>
 letE vB (decide ((9007199254740992 : Int) < a2)) fun x9 =>
 retM x1) (
 callM vB (fun x10 => [.box [sl cGAlert a1.A, vI a1.Full]]) (store_Sane a0) fun x10 =>
 letE vB (!x10) fun x11 =>
 iteM x11 (
 letE vB (decide (a2 < (0 : Int))) fun x12 =>
 letE vB (decide ((9007199254740992 : Int) < a2)) fun x13 =>
 retM x1) (
 callM vB (fun x14 => [.box [sl cGAlert a1.A, vI a1.Full]]) (table_Sane a1) fun x14 =>
 letE vB (!x14) fun x15 =>
 letE vB (decide (a2 < (0 : Int))) fun x16 =>
 letE vB (bif x15 then true else x16) fun x17 =>
 letE vB (decide ((9007199254740992 : Int) < a2)) fun x18 =>
 letE vB (bif x17 then true else x18) fun x19 =>
 iteM x19 (
 retM x1) (
 loopM (fun (x20 : Int) => [(0, sl cGSeries a0), (2, vI a2), (4, .ptr 0 0), (7, vB x1), (8, vI x20)]) (fun (x20 : Int) => [.box [sl cGAlert a1.A, vI a1.Full]]) (fun (x20 : Int) =>
 letE vI ((a0.length : Int)) fun x21 =>
 letE vB (decide (x20 < x21)) fun x22 =>
 iteM x22 (
 idxM a0 x20 fun x23 =>
 letE vI ((x23.S.length : Int)) fun x24 =>
 letE vI (wI (x24 - (1 : Int))) fun x25 =>
 idxM x23.S x25 fun x26 =>
 letE vB (decide (a2 ≤ x26.T)) fun x27 =>
 iteM x27 (
 exitM <|
 retM x1) (
 letE vI (wI (x20 + (1 : Int))) fun x28 =>
 nextM x28)) (
 exitM <|
 callM (fun x29 => .tup [(sl cGSeries) x29.1, vI x29.2]) (fun x29 => [.box [sl cGAlert a1.A, vI a1.Full]]) (eval_Write a0 a1 a2) fun x29 =>
 callM (so 2 cGAlert) (fun x30 => [.box [sl cGAlert a1.A, vI a1.Full], .dead, tk x30.length 7 83]) (table_Active a1) fun x30 =>
 loopM (fun (x31 : Int × Int) => [(0, sl cGSeries a0), (2, vI a2), (7, vB x1), (9, sl cGSeries x29.1), (10, vI x29.2), (11, so 2 cGAlert x30), (12, vI x31.1), (13, vI x31.2)]) (fun (x31 : Int × Int) => [.dead, .dead, tk x30.length 7 83]) (fun (x31 : Int × Int) =>
 letE vI ((x29.1.length : Int)) fun x32 =>
 letE vB (decide (x31.2 < x32)) fun x33 =>
 iteM x33 (
 tailA 15 14 14 <|
 idxM x29.1 x31.2 fun x34 =>
 letE vI ((x34.S.length : Int)) fun x35 =>
 letE vI (wI (x35 - (1 : Int))) fun x36 =>
 idxM x34.S x36 fun x37 =>
 letE vB (decide (x37.T = a2)) fun x38 =>
 iteM x38 (
 letE vI (wI (x31.1 + (1 : Int))) fun x39 =>
 letE vB (decide (a2 < x37.T)) fun x40 =>
 iteM x40 (
 exitM <|
 retM false) (
 letE vB (decide (x37.T = a2)) fun x41 =>
 iteM x41 (
 letE vB (!decide (x37.V = (1000 : Int))) fun x42 =>
 letE vB (bif true then x42 else false) fun x43 =>
 iteM x43 (
 exitM <|
 retM false) (
 letE vI (wI (x31.2 + (1 : Int))) fun x44 =>
 nextM (x39, x44))) (
 letE vB (bif false then false else false) fun x45 =>
 iteM x45 (
 exitM <|
 retM false) (
 letE vI (wI (x31.2 + (1 : Int))) fun x46 =>
 nextM (x39, x46))))) (
 letE vB (decide (a2 < x37.T)) fun x47 =>
 iteM x47 (
 exitM <|
 retM false) (
 letE vB (decide (x37.T = a2)) fun x48 =>
 iteM x48 (
 letE vB (!decide (x37.V = (1000 : Int))) fun x49 =>
 letE vB (bif true then x49 else false) fun x50 =>
 iteM x50 (
 exitM <|
 retM false) (
 letE vI (wI (x31.2 + (1 : Int))) fun x51 =>
 nextM (x31.1, x51))) (
 letE vB (bif false then false else false) fun x52 =>
 iteM x52 (
 exitM <|
 retM false) (
 letE vI (wI (x31.2 + (1 : Int))) fun x53 =>
 nextM (x31.1, x53)))))) (
 exitM <|
 letE vI (wI (x31.1 + x29.2)) fun x54 =>
 letE vI ((x30.length : Int)) fun x55 =>
 letE vB (!decide (x54 = x55)) fun x56 =>
 iteM x56 (
 letE vI ((x29.1.length : Int)) fun x57 =>
 letE vI ((a0.length : Int)) fun x58 =>
 letE vB (decide (x57 < x58)) fun x59 =>
 retM false) (
 callM vB (fun x60 => [.dead, .dead, tk x30.length 7 83]) (store_Sane x29.1) fun x60 =>
 letE vB (!x60) fun x61 =>
 letE vI ((x29.1.length : Int)) fun x62 =>
 letE vI ((a0.length : Int)) fun x63 =>
 letE vB (decide (x62 < x63)) fun x64 =>
 letE vB (bif x61 then true else x64) fun x65 =>
 iteM x65 (
 retM false) (
 loopM (fun (x66 : Int) => [(2, vI a2), (7, vB x1), (9, sl cGSeries x29.1), (10, vI x29.2), (11, so 2 cGAlert x30), (15, vI x66)]) (fun (x66 : Int) => [.dead, .dead, tk x30.length 7 83]) (fun (x66 : Int) =>
 letE vI ((x30.length : Int)) fun x67 =>
 letE vB (decide (x66 < x67)) fun x68 =>
 letE vB (decide (x29.2 = (0 : Int))) fun x69 =>
 letE vB (bif x68 then x69 else false) fun x70 =>
 iteM x70 (
 letE (sx cS) ([([] : Str), ([112, 101, 110, 100, 105, 110, 103] : Str), ([102, 105, 114, 105, 110, 103] : Str)] : (List Str)) fun x71 =>
 idxM x30 x66 fun x72 =>
 callM (fun x73 => .tup [(sl cGPair) x73.1, vI x73.2]) (fun x73 => [.dead, .dead, tk x30.length 7 83]) (label_With x72.L ([95, 95, 110, 97, 109, 101, 95, 95] : Str) ([65, 76, 69, 82, 84, 83] : Str)) fun x73 =>
 idxM x71 x72.State fun x74 =>
 callM (fun x75 => .tup [(sl cGPair) x75.1, vI x75.2]) (fun x75 => [.dead, .dead, tk x30.length 7 83]) (label_With x73.1 ([97, 108, 101, 114, 116, 115, 116, 97, 116, 101] : Str) x74) fun x75 =>
 callM (sl cGSample) (fun x76 => [.dead, .dead, tk x30.length 7 83]) (store_Get x29.1 x75.1) fun x76 =>
 letE vB (!decide (x73.2 = (0 : Int))) fun x77 =>
 letE vB (!decide (x75.2 = (0 : Int))) fun x78 =>
 letE vB (bif x77 then true else x78) fun x79 =>
 letE vI ((x76.length : Int)) fun x80 =>
 letE vB (decide (x80 = (0 : Int))) fun x81 =>
 letE vB (bif x79 then true else x81) fun x82 =>
 letE vI ((x76.length : Int)) fun x83 =>
 letE vI (wI (x83 - (1 : Int))) fun x84 =>
 iteM x82 (
 exitM <|
 retM false) (
 idxM x76 x84 fun x85 =>
 letE vB (!decide (x85.T = a2)) fun x86 =>
 iteM x86 (
 exitM <|
 retM false) (
 letE vI (wI (x66 + (1 : Int))) fun x87 =>
 nextM x87))) (
 exitM <|
 retM x1)) (0 : Int))))) ((0 : Int), (0 : Int)))) (0 : Int)))))

end
end Go.Proofs.YtcpjmkbcefmldaaGreatDoor.AM
