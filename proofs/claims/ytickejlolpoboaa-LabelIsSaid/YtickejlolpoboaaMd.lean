/- A part of the proof: Md. -/
import Derived.Test.YtickejlolpoboaaTy
set_option linter.all false
/- The models. -/
namespace Go.Proofs.Ytickejlolpoboaa.AM
noncomputable section

def label_Name (a0 : Str) : Option (Bool) :=
 letE vI ((a0.length : Int)) fun x1 =>
 letE vB (decide (x1 < (1 : Int))) fun x2 =>
 letE vI ((a0.length : Int)) fun x3 =>
 letE vB (decide ((64 : Int) < x3)) fun x4 =>
 letE vB (bif x2 then true else x4) fun x5 =>
 iteM x5 (
 retM false) (
 loopM (fun (x6 : Int) => [(0, vS a0), (3, vI x6)]) (fun (x6 : Int) => []) (fun (x6 : Int) =>
 letE vI ((a0.length : Int)) fun x7 =>
 letE vB (decide (x6 < x7)) fun x8 =>
 iteM x8 (
 idxM a0 x6 fun x9 =>
 letE vB (decide ((97 : Int) ≤ (x9.toNat : Int))) fun x10 =>
 letE vB (decide ((x9.toNat : Int) ≤ (122 : Int))) fun x11 =>
 letE vB (bif x10 then x11 else false) fun x12 =>
 letE vB (decide ((65 : Int) ≤ (x9.toNat : Int))) fun x13 =>
 letE vB (decide ((x9.toNat : Int) ≤ (90 : Int))) fun x14 =>
 letE vB (bif x13 then x14 else false) fun x15 =>
 letE vB (bif x12 then true else x15) fun x16 =>
 letE vB (decide ((x9.toNat : Int) = (95 : Int))) fun x17 =>
 letE vB (bif x16 then true else x17) fun x18 =>
 letE vB (decide ((48 : Int) ≤ (x9.toNat : Int))) fun x19 =>
 letE vB (decide ((x9.toNat : Int) ≤ (57 : Int))) fun x20 =>
 letE vB (bif x19 then x20 else false) fun x21 =>
 letE vB (!x18) fun x22 =>
 letE vB (!x21) fun x23 =>
 letE vB (decide (x6 = (0 : Int))) fun x24 =>
 letE vB (bif x23 then true else x24) fun x25 =>
 letE vB (bif x22 then x25 else false) fun x26 =>
 iteM x26 (
 exitM <|
 retM false) (
 letE vI (wI (x6 + (1 : Int))) fun x27 =>
 nextM x27)) (
 exitM <|
 retM true)) (0 : Int))

def slices_Clone_Pair_Pair (a0 : (List GPair)) : Option ((List GPair)) :=
 nilM a0 (
 retM ([] : (List GPair))) (
 gdM ((([] : (List GPair)).length + a0.length) * 32 ≤ 140737488355328) <|
 letO (so 0 cGPair) (fun x1 => [tk x1.length 2 29]) (([] : (List GPair)) ++ a0) fun x1 =>
 retM x1)

def cmp_isNaN_string (a0 : Str) : Option (Bool) :=
 letE vB (!decide (a0 = a0)) fun x1 =>
 retM x1

def cmp_Compare_string (a0 : Str) (a1 : Str) : Option (Int) :=
 callM vB (fun x1 => []) (cmp_isNaN_string a0) fun x1 =>
 callM vB (fun x2 => []) (cmp_isNaN_string a1) fun x2 =>
 iteM x1 (
 iteM x2 (
 retM (0 : Int)) (
 retM (-1 : Int))) (
 iteM x2 (
 retM (1 : Int)) (
 letE vB (ltS a0 a1) fun x3 =>
 iteM x3 (
 retM (-1 : Int)) (
 letE vB (ltS a1 a0) fun x4 =>
 iteM x4 (
 retM (1 : Int)) (
 retM (0 : Int)))))

def label_Make_1 (a0 : GPair) (a1 : GPair) : Option (Int) :=
 callM vI (fun x1 => [.box [vS a0.Name, vS a0.Value], .box [vS a1.Name, vS a1.Value]]) (cmp_Compare_string a0.Name a1.Name) fun x1 =>
 retM x1

def label_Make (a0 : (List GPair)) : Option ((List GPair) × Int) :=
 letE vI ((a0.length : Int)) fun x1 =>
 letE vB (decide ((16 : Int) < x1)) fun x2 =>
 iteM x2 (
 retM (([] : (List GPair)), (4 : Int))) (
 letE vI ((a0.length : Int)) fun x3 =>
 loopM (fun (x4 : Int) => [(0, sl cGPair a0), (15, sl cGPair a0), (16, vI x3), (17, vI x4)]) (fun (x4 : Int) => []) (fun (x4 : Int) =>
 letE vB (decide (x4 < x3)) fun x5 =>
 iteM x5 (
 idxM a0 x4 fun x6 =>
 letE vI ((x6.Value.length : Int)) fun x7 =>
 letE vB (decide ((64 : Int) < x7)) fun x8 =>
 iteM x8 (
 exitM <|
 retM (([] : (List GPair)), (4 : Int))) (
 letE vI (wI (x4 + (1 : Int))) fun x9 =>
 nextM x9)) (
 exitM <|
 letE vI ((a0.length : Int)) fun x10 =>
 loopM (fun (x11 : Int) => [(0, sl cGPair a0), (26, sl cGPair a0), (27, vI x10), (28, vI x11)]) (fun (x11 : Int) => []) (fun (x11 : Int) =>
 letE vB (decide (x11 < x10)) fun x12 =>
 iteM x12 (
 idxM a0 x11 fun x13 =>
 callM vB (fun x14 => [.box [vS x13.Name, vS x13.Value]]) (label_Name x13.Name) fun x14 =>
 letE vB (!x14) fun x15 =>
 iteM x15 (
 exitM <|
 retM (([] : (List GPair)), (7 : Int))) (
 letE vI (wI (x11 + (1 : Int))) fun x16 =>
 nextM x16)) (
 exitM <|
 letO (fun _ => .map 0) (fun x17 => [.map (mp kS vB x17)]) ([] : (List (Str × Bool))) fun x17 =>
 letE vI ((a0.length : Int)) fun x18 =>
 loopM (fun (x19 : (List (Str × Bool)) × Int) => [(0, sl cGPair a0), (8, .map 0), (38, sl cGPair a0), (39, vI x18), (40, vI x19.2)]) (fun (x19 : (List (Str × Bool)) × Int) => [.map (mp kS vB x19.1)]) (fun (x19 : (List (Str × Bool)) × Int) =>
 letE vB (decide (x19.2 < x18)) fun x20 =>
 iteM x20 (
 idxM a0 x19.2 fun x21 =>
 letE vB ((mlk x19.1 x21.Name).getD false) fun x22 =>
 iteM x22 (
 exitM <|
 retM (([] : (List GPair)), (6 : Int))) (
 letO (fun _ => .any) (fun x23 => [.map (mp kS vB x23), .box [vS x21.Name, vS x21.Value]]) (mst x19.1 x21.Name true) fun x23 =>
 letE vI (wI (x19.2 + (1 : Int))) fun x24 =>
 nextM (x23, x24))) (
 exitM <|
 callM (so 1 cGPair) (fun x25 => [.map (mp kS vB x19.1), tk x25.length 2 29]) (slices_Clone_Pair_Pair a0) fun x25 =>
 unboxM 11 <|
 sortM label_Make_1 x25 fun x26 =>
 pubbM 11 <|
 retM (x26, (0 : Int)))) (x17, (0 : Int)))) (0 : Int))) (0 : Int))

def label_Sane (a0 : (List GPair)) : Option (Bool) :=
 letE vI ((a0.length : Int)) fun x1 =>
 letE vB (decide ((16 : Int) < x1)) fun x2 =>
 iteM x2 (
 retM false) (
 letE vI ((a0.length : Int)) fun x3 =>
 loopM (fun (x4 : Int) => [(0, sl cGPair a0), (8, sl cGPair a0), (9, vI x3), (10, vI x4)]) (fun (x4 : Int) => []) (fun (x4 : Int) =>
 letE vB (decide (x4 < x3)) fun x5 =>
 iteM x5 (
 idxM a0 x4 fun x6 =>
 callM vB (fun x7 => [.box [vS x6.Name, vS x6.Value]]) (label_Name x6.Name) fun x7 =>
 letE vB (!x7) fun x8 =>
 iteM x8 (
 exitM <|
 retM false) (
 letE vI ((x6.Value.length : Int)) fun x9 =>
 letE vB (decide ((64 : Int) < x9)) fun x10 =>
 iteM x10 (
 exitM <|
 retM false) (
 letE vB (decide ((0 : Int) < x4)) fun x11 =>
 letE vI (wI (x4 - (1 : Int))) fun x12 =>
 iteM x11 (
 idxM a0 x12 fun x13 =>
 letE vB (!ltS x13.Name x6.Name) fun x14 =>
 iteM x14 (
 exitM <|
 retM false) (
 letE vI (wI (x4 + (1 : Int))) fun x15 =>
 nextM x15)) (
 letE vI (wI (x4 + (1 : Int))) fun x16 =>
 nextM x16)))) (
 exitM <|
 retM true)) (0 : Int))

def label_counts (a0 : (List GPair)) : Option ((List GPair)) :=
 callM vB (fun x1 => []) (label_Sane a0) fun x1 =>
 iteM x1 (
 retM a0) (
 retM ([] : (List GPair)))

def label_Get (a0 : (List GPair)) (a1 : Str) : Option (Str × Bool) :=
 callM (sl cGPair) (fun x1 => []) (label_counts a0) fun x1 =>
 letE vI ((x1.length : Int)) fun x2 =>
 loopM (fun (x3 : Int) => [(1, vS a1), (9, sl cGPair x1), (10, vI x2), (11, vI x3)]) (fun (x3 : Int) => []) (fun (x3 : Int) =>
 letE vB (decide (x3 < x2)) fun x4 =>
 iteM x4 (
 idxM x1 x3 fun x5 =>
 letE vB (decide (x5.Name = a1)) fun x6 =>
 iteM x6 (
 exitM <|
 retM (x5.Value, true)) (
 letE vI (wI (x3 + (1 : Int))) fun x7 =>
 nextM x7)) (
 exitM <|
 retM (([] : Str), false))) (0 : Int)

def label_Merge (a0 : (List GPair)) (a1 : (List GPair)) : Option ((List GPair) × Int) :=
 callM (sl cGPair) (fun x1 => []) (label_counts a1) fun x1 =>
 callM (sl cGPair) (fun x2 => []) (label_counts a0) fun x2 =>
 letE vI ((x2.length : Int)) fun x3 =>
 tokM 6 2 29 <|
 loopM (fun (x4 : Int × (List GPair)) => [(1, sl cGPair x1), (6, so 0 cGPair x4.2), (14, sl cGPair x2), (15, vI x3), (16, vI x4.1)]) (fun (x4 : Int × (List GPair)) => [tk x4.2.length 2 29]) (fun (x4 : Int × (List GPair)) =>
 letE vB (decide (x4.1 < x3)) fun x5 =>
 iteM x5 (
 idxM x2 x4.1 fun x6 =>
 callM (fun x7 => .tup [vS x7.1, vB x7.2]) (fun x7 => [tk x4.2.length 2 29, .box [vS x6.Name, vS x6.Value]]) (label_Get x1 x6.Name) fun x7 =>
 letE vB (!x7.2) fun x8 =>
 iteM x8 (
 letE (sx cGPair) ([x6] : (List GPair)) fun x9 =>
 gdM ((x4.2.length + x9.length) * 32 ≤ 140737488355328) <|
 letO (so 0 cGPair) (fun x10 => [tk x10.length 2 29, .box [vS x6.Name, vS x6.Value]]) (x4.2 ++ x9) fun x10 =>
 letE vI (wI (x4.1 + (1 : Int))) fun x11 =>
 nextM (x11, x10)) (
 letE vI (wI (x4.1 + (1 : Int))) fun x12 =>
 nextM (x12, x4.2))) (
 exitM <|
 gdM ((x4.2.length + x1.length) * 32 ≤ 140737488355328) <|
 letO (so 0 cGPair) (fun x13 => [tk x13.length 2 29]) (x4.2 ++ x1) fun x13 =>
 callM (fun x14 => .tup [(sl cGPair) x14.1, vI x14.2]) (fun x14 => [.tok x13.length 2 29 false]) (label_Make x13) fun x14 =>
 retM (x14.1, x14.2))) ((0 : Int), ([] : List GPair))

def cmp_Or_int (a0 : (List Int)) : Option (Int) :=
 letE vI ((a0.length : Int)) fun x1 =>
 loopM (fun (x2 : Int) => [(3, vI (0 : Int)), (6, sl cI a0), (7, vI x1), (8, vI x2)]) (fun (x2 : Int) => []) (fun (x2 : Int) =>
 letE vB (decide (x2 < x1)) fun x3 =>
 iteM x3 (
 idxM a0 x2 fun x4 =>
 letE vB (!decide (x4 = (0 : Int))) fun x5 =>
 iteM x5 (
 exitM <|
 retM x4) (
 letE vI (wI (x2 + (1 : Int))) fun x6 =>
 nextM x6)) (
 exitM <|
 retM (0 : Int))) (0 : Int)

def label_Compare_1 (a0 : GPair) (a1 : GPair) : Option (Int) :=
 drawM <|
 callM vI (fun x1 => [.box [vS a0.Name, vS a0.Value], .box [vS a1.Name, vS a1.Value]]) (cmp_Compare_string a0.Name a1.Name) fun x1 =>
 callM vI (fun x2 => [.box [vS a0.Name, vS a0.Value], .box [vS a1.Name, vS a1.Value]]) (cmp_Compare_string a0.Value a1.Value) fun x2 =>
 letE (sx cI) ([x1, x2] : (List Int)) fun x3 =>
 callM vI (fun x4 => [.box [vS a0.Name, vS a0.Value], .box [vS a1.Name, vS a1.Value]]) (cmp_Or_int x3) fun x4 =>
 retM x4

def slices_CompareFunc_Pair_Pair_Pair_Pair_label_Compare_1 (a0 : (List GPair)) (a1 : (List GPair)) : Option (Int) :=
 letE vI ((a0.length : Int)) fun x1 =>
 loopM (fun (x2 : Int) => [(0, sl cGPair a0), (1, sl cGPair a1), (2, .fn 35 [] []), (11, sl cGPair a0), (12, vI x1), (13, vI x2)]) (fun (x2 : Int) => []) (fun (x2 : Int) =>
 letE vB (decide (x2 < x1)) fun x3 =>
 iteM x3 (
 idxM a0 x2 fun x4 =>
 letE vI ((a1.length : Int)) fun x5 =>
 letE vB (decide (x5 ≤ x2)) fun x6 =>
 iteM x6 (
 exitM <|
 retM (1 : Int)) (
 idxM a1 x2 fun x7 =>
 callM vI (fun x8 => [.box [vS x4.Name, vS x4.Value], .box [vS x7.Name, vS x7.Value]]) (label_Compare_1 x4 x7) fun x8 =>
 letE vB (!decide (x8 = (0 : Int))) fun x9 =>
 iteM x9 (
 exitM <|
 retM x8) (
 letE vI (wI (x2 + (1 : Int))) fun x10 =>
 nextM x10))) (
 exitM <|
 letE vI ((a0.length : Int)) fun x11 =>
 letE vI ((a1.length : Int)) fun x12 =>
 letE vB (decide (x11 < x12)) fun x13 =>
 iteM x13 (
 retM (-1 : Int)) (
 retM (0 : Int)))) (0 : Int)

def label_Compare (a0 : (List GPair)) (a1 : (List GPair)) : Option (Int) :=
 callM (sl cGPair) (fun x1 => []) (label_counts a0) fun x1 =>
 callM (sl cGPair) (fun x2 => []) (label_counts a1) fun x2 =>
 callM vI (fun x3 => []) (slices_CompareFunc_Pair_Pair_Pair_Pair_label_Compare_1 x1 x2) fun x3 =>
 retM x3

def law03_awake : Option (Bool) :=
 letE (sx cGPair) ([(⟨([98] : Str), ([49] : Str)⟩ : GPair), (⟨([97] : Str), ([50] : Str)⟩ : GPair)] : (List GPair)) fun x1 =>
 callM (fun x2 => .tup [(sl cGPair) x2.1, vI x2.2]) (fun x2 => []) (label_Make x1) fun x2 =>
 letE (sx cGPair) ([(⟨([49] : Str), ([] : Str)⟩ : GPair)] : (List GPair)) fun x3 =>
 callM (fun x4 => .tup [(sl cGPair) x4.1, vI x4.2]) (fun x4 => []) (label_Make x3) fun x4 =>
 callM (fun x5 => .tup [vS x5.1, vB x5.2]) (fun x5 => []) (label_Get x2.1 ([98] : Str)) fun x5 =>
 letE (sx cGPair) ([(⟨([97] : Str), ([51] : Str)⟩ : GPair)] : (List GPair)) fun x6 =>
 callM (fun x7 => .tup [(sl cGPair) x7.1, vI x7.2]) (fun x7 => []) (label_Merge x2.1 x6) fun x7 =>
 letE vB (decide (x2.2 = (0 : Int))) fun x8 =>
 letE vI ((x2.1.length : Int)) fun x9 =>
 letE vB (decide (x9 = (2 : Int))) fun x10 =>
 letE vB (bif x8 then x10 else false) fun x11 =>
 iteM x11 (
 idxM x2.1 (0 : Int) fun x12 =>
 letE vB (decide (x12.Name = ([97] : Str))) fun x13 =>
 letE vB (decide (x4.2 = (7 : Int))) fun x14 =>
 letE vB (bif x13 then x14 else false) fun x15 =>
 letE vB (decide (x5.1 = ([49] : Str))) fun x16 =>
 letE vB (bif x15 then x16 else false) fun x17 =>
 letE vB (bif x17 then x5.2 else false) fun x18 =>
 letE vB (decide (x7.2 = (0 : Int))) fun x19 =>
 letE vB (bif x18 then x19 else false) fun x20 =>
 letE vI ((x7.1.length : Int)) fun x21 =>
 letE vB (decide (x21 = (2 : Int))) fun x22 =>
 letE vB (bif x20 then x22 else false) fun x23 =>
 iteM x23 (
 idxM x7.1 (0 : Int) fun x24 =>
 letE vB (decide (x24.Value = ([51] : Str))) fun x25 =>
 iteM x25 (
 callM vB (fun x26 => []) (label_Sane x2.1) fun x26 =>
 iteM x26 (
 callM vI (fun x27 => []) (label_Compare x2.1 x7.1) fun x27 =>
 letE vB (decide (x27 = (-1 : Int))) fun x28 =>
 iteM x28 (
 callM vB (fun x29 => []) (label_Name ([95, 97, 49] : Str)) fun x29 =>
 retM x29) (
 retM false)) (
 retM false)) (
 retM false)) (
 retM false)) (
 letE vB (decide (x4.2 = (7 : Int))) fun x30 =>
 letE vB (decide (x5.1 = ([49] : Str))) fun x31 =>
 letE vB (decide (x7.2 = (0 : Int))) fun x32 =>
 letE vI ((x7.1.length : Int)) fun x33 =>
 letE vB (decide (x33 = (2 : Int))) fun x34 =>
 retM false)

def ref03_Few (a0 : (List GPair)) : Option (Bool) :=
 loopM (fun (x1 : Int × Int) => [(0, sl cGPair a0), (3, vI x1.1), (4, vI x1.2)]) (fun (x1 : Int × Int) => []) (fun (x1 : Int × Int) =>
 letE vI ((a0.length : Int)) fun x2 =>
 letE vB (decide (x1.2 < x2)) fun x3 =>
 iteM x3 (
 idxM a0 x1.2 fun x4 =>
 letE vI ((x4.Name.length : Int)) fun x5 =>
 letE vI (wI (x1.1 + x5)) fun x6 =>
 letE vI ((x4.Value.length : Int)) fun x7 =>
 letE vI (wI (x6 + x7)) fun x8 =>
 letE vI (wI (x1.2 + (1 : Int))) fun x9 =>
 nextM (x8, x9)) (
 exitM <|
 letE vI ((a0.length : Int)) fun x10 =>
 letE vB (decide (x10 ≤ (40 : Int))) fun x11 =>
 letE vB (decide (x1.1 ≤ (3000 : Int))) fun x12 =>
 letE vB (bif x11 then x12 else false) fun x13 =>
 retM x13)) ((0 : Int), (0 : Int))

def ref03_Same (a0 : (List GPair)) (a1 : (List GPair)) : Option (Bool) :=
 letE vI ((a0.length : Int)) fun x1 =>
 letE vI ((a1.length : Int)) fun x2 =>
 letE vB (!decide (x1 = x2)) fun x3 =>
 iteM x3 (
 retM false) (
 loopM (fun (x4 : Int) => [(0, sl cGPair a0), (1, sl cGPair a1), (5, vI x4)]) (fun (x4 : Int) => []) (fun (x4 : Int) =>
 letE vI ((a0.length : Int)) fun x5 =>
 letE vB (decide (x4 < x5)) fun x6 =>
 iteM x6 (
 idxM a0 x4 fun x7 =>
 idxM a1 x4 fun x8 =>
 letE vB (!(decide (x7.Name = x8.Name) && (decide (x7.Value = x8.Value) && true))) fun x9 =>
 iteM x9 (
 exitM <|
 retM false) (
 letE vI (wI (x4 + (1 : Int))) fun x10 =>
 nextM x10)) (
 exitM <|
 retM true)) (0 : Int))

def law03_LabelMade (a0 : (List GPair)) : Option (Bool) :=
 callM vB (fun x1 => []) (law03_awake) fun x1 =>
 callM vB (fun x2 => []) (ref03_Few a0) fun x2 =>
 letE vB (!x2) fun x3 =>
 iteM x3 (
 retM x1) (
 callM (fun x4 => .tup [(sl cGPair) x4.1, vI x4.2]) (fun x4 => []) (label_Make a0) fun x4 =>
 letE vB (!decide (x4.2 = (0 : Int))) fun x5 =>
 iteM x5 (
 letE vI ((x4.1.length : Int)) fun x6 =>
 letE vB (decide (x6 = (0 : Int))) fun x7 =>
 letE vB (bif x1 then x7 else false) fun x8 =>
 iteM x8 (
 callM vB (fun x9 => []) (label_Sane a0) fun x9 =>
 letE vB (!x9) fun x10 =>
 retM x10) (
 retM false)) (
 letE vI ((a0.length : Int)) fun x11 =>
 letE vI (wI (x11 - (1 : Int))) fun x12 =>
 tokM 6 2 29 <|
 loopM (fun (x13 : (List GPair) × Int) => [(0, sl cGPair a0), (3, vB x1), (4, sl cGPair x4.1), (6, so 0 cGPair x13.1), (7, vI x13.2)]) (fun (x13 : (List GPair) × Int) => [tk x13.1.length 2 29]) (fun (x13 : (List GPair) × Int) =>
 letE vB (decide ((0 : Int) ≤ x13.2)) fun x14 =>
 iteM x14 (
 idxM a0 x13.2 fun x15 =>
 letE (sx cGPair) ([x15] : (List GPair)) fun x16 =>
 gdM ((x13.1.length + x16.length) * 32 ≤ 140737488355328) <|
 letO (so 0 cGPair) (fun x17 => [tk x17.length 2 29]) (x13.1 ++ x16) fun x17 =>
 callM (fun x18 => .tup [vS x18.1, vB x18.2]) (fun x18 => [tk x17.length 2 29]) (label_Get x4.1 x15.Name) fun x18 =>
 letE vB (!x18.2) fun x19 =>
 iteM x19 (
 exitM <|
 retM false) (
 letE vB (!decide (x18.1 = x15.Value)) fun x20 =>
 iteM x20 (
 exitM <|
 retM false) (
 letE vI (wI (x13.2 - (1 : Int))) fun x21 =>
 nextM (x17, x21)))) (
 exitM <|
 callM (fun x22 => .tup [(sl cGPair) x22.1, vI x22.2]) (fun x22 => [.tok x13.1.length 2 29 false]) (label_Make x13.1) fun x22 =>
 callM (fun x23 => .tup [(sl cGPair) x23.1, vI x23.2]) (fun x23 => [.tok x13.1.length 2 29 false]) (label_Make x4.1) fun x23 =>
 iteM x1 (
 callM vB (fun x24 => [.tok x13.1.length 2 29 false]) (label_Sane x4.1) fun x24 =>
 letE vI ((x4.1.length : Int)) fun x25 =>
 letE vI ((a0.length : Int)) fun x26 =>
 letE vB (decide (x25 = x26)) fun x27 =>
 letE vB (bif x24 then x27 else false) fun x28 =>
 letE vB (decide (x22.2 = (0 : Int))) fun x29 =>
 letE vB (bif x28 then x29 else false) fun x30 =>
 letE vB (decide (x23.2 = (0 : Int))) fun x31 =>
 letE vB (bif x30 then x31 else false) fun x32 =>
 iteM x32 (
 callM vB (fun x33 => [.tok x13.1.length 2 29 false]) (ref03_Same x4.1 x22.1) fun x33 =>
 iteM x33 (
 callM vB (fun x34 => [.tok x13.1.length 2 29 false]) (ref03_Same x4.1 x23.1) fun x34 =>
 iteM x34 (
 callM vB (fun x35 => [.tok x13.1.length 2 29 false]) (label_Sane a0) fun x35 =>
 letE vB (!x35) fun x36 =>
 iteM x36 (
 letE vB (bif true then true else false) fun x37 =>
 retM x37) (
 callM vB (fun x38 => [.tok x13.1.length 2 29 false]) (ref03_Same a0 x4.1) fun x38 =>
 letE vB (bif false then true else x38) fun x39 =>
 retM x39)) (
 retM false)) (
 retM false)) (
 retM false)) (
 letE vI ((x4.1.length : Int)) fun x40 =>
 letE vI ((a0.length : Int)) fun x41 =>
 letE vB (decide (x40 = x41)) fun x42 =>
 letE vB (decide (x22.2 = (0 : Int))) fun x43 =>
 letE vB (decide (x23.2 = (0 : Int))) fun x44 =>
 retM false))) (([] : List GPair), x12)))

def law03_LabelOrder (a0 : (List GPair)) (a1 : (List GPair)) (a2 : (List GPair)) : Option (Bool) :=
 callM vB (fun x1 => []) (law03_awake) fun x1 =>
 callM vB (fun x2 => []) (ref03_Few a0) fun x2 =>
 letE vB (!x2) fun x3 =>
 iteM x3 (
 retM x1) (
 callM vB (fun x4 => []) (ref03_Few a1) fun x4 =>
 letE vB (!x4) fun x5 =>
 iteM x5 (
 retM x1) (
 callM vB (fun x6 => []) (ref03_Few a2) fun x6 =>
 letE vB (!x6) fun x7 =>
 iteM x7 (
 retM x1) (
 callM vB (fun x8 => []) (label_Sane a0) fun x8 =>
 letE vB (!x8) fun x9 =>
 iteM x9 (
 retM x1) (
 callM vB (fun x10 => []) (label_Sane a1) fun x10 =>
 letE vB (!x10) fun x11 =>
 iteM x11 (
 retM x1) (
 callM vB (fun x12 => []) (label_Sane a2) fun x12 =>
 letE vB (!x12) fun x13 =>
 iteM x13 (
 retM x1) (
 callM vI (fun x14 => []) (label_Compare a0 a1) fun x14 =>
 callM vI (fun x15 => []) (label_Compare a1 a2) fun x15 =>
 letE vB (decide (x14 < (-1 : Int))) fun x16 =>
 letE vB (decide ((1 : Int) < x14)) fun x17 =>
 letE vB (bif x16 then true else x17) fun x18 =>
 iteM x18 (
 letE vB (decide (x14 ≤ (0 : Int))) fun x19 =>
 letE vB (decide (x15 ≤ (0 : Int))) fun x20 =>
 letE vB (bif x19 then x20 else false) fun x21 =>
 letE vB (bif x21 then false else false) fun x22 =>
 retM false) (
 callM vI (fun x23 => []) (label_Compare a1 a0) fun x23 =>
 letE vI (wI (0 - x14)) fun x24 =>
 letE vB (!decide (x23 = x24)) fun x25 =>
 letE vB (decide (x14 ≤ (0 : Int))) fun x26 =>
 letE vB (decide (x15 ≤ (0 : Int))) fun x27 =>
 letE vB (bif x26 then x27 else false) fun x28 =>
 iteM x25 (
 letE vB (bif x28 then false else false) fun x29 =>
 retM false) (
 iteM x28 (
 callM vI (fun x30 => []) (label_Compare a0 a2) fun x30 =>
 letE vB (decide ((0 : Int) < x30)) fun x31 =>
 letE vB (bif true then x31 else false) fun x32 =>
 iteM x32 (
 retM false) (
 letE vB (decide (x14 = (0 : Int))) fun x33 =>
 iteM x1 (
 callM vB (fun x34 => []) (ref03_Same a0 a1) fun x34 =>
 letE vB (x33 == x34) fun x35 =>
 iteM x35 (
 callM vI (fun x36 => []) (label_Compare a0 a0) fun x36 =>
 letE vB (decide (x36 = (0 : Int))) fun x37 =>
 retM x37) (
 retM false)) (
 retM false))) (
 letE vB (bif false then false else false) fun x38 =>
 iteM x38 (
 retM false) (
 letE vB (decide (x14 = (0 : Int))) fun x39 =>
 iteM x1 (
 callM vB (fun x40 => []) (ref03_Same a0 a1) fun x40 =>
 letE vB (x39 == x40) fun x41 =>
 iteM x41 (
 callM vI (fun x42 => []) (label_Compare a0 a0) fun x42 =>
 letE vB (decide (x42 = (0 : Int))) fun x43 =>
 retM x43) (
 retM false)) (
 retM false)))))))))))

def law03_LabelMerges (a0 : (List GPair)) (a1 : (List GPair)) (a2 : Str) : Option (Bool) :=
 callM vB (fun x1 => []) (law03_awake) fun x1 =>
 callM vB (fun x2 => []) (ref03_Few a0) fun x2 =>
 letE vB (!x2) fun x3 =>
 iteM x3 (
 letE vI ((a2.length : Int)) fun x4 =>
 letE vB (decide ((1000 : Int) < x4)) fun x5 =>
 retM x1) (
 callM vB (fun x6 => []) (ref03_Few a1) fun x6 =>
 letE vB (!x6) fun x7 =>
 letE vI ((a2.length : Int)) fun x8 =>
 letE vB (decide ((1000 : Int) < x8)) fun x9 =>
 letE vB (bif x7 then true else x9) fun x10 =>
 iteM x10 (
 retM x1) (
 callM vB (fun x11 => []) (label_Sane a0) fun x11 =>
 letE vB (!x11) fun x12 =>
 iteM x12 (
 retM x1) (
 callM vB (fun x13 => []) (label_Sane a1) fun x13 =>
 letE vB (!x13) fun x14 =>
 iteM x14 (
 retM x1) (
 callM (fun x15 => .tup [(sl cGPair) x15.1, vI x15.2]) (fun x15 => []) (label_Merge a0 a1) fun x15 =>
 callM (fun x16 => .tup [(sl cGPair) x16.1, vI x16.2]) (fun x16 => []) (label_Merge a0 ([] : (List GPair))) fun x16 =>
 letE vB (!decide (x15.2 = (0 : Int))) fun x17 =>
 iteM x17 (
 letE vB (decide (x15.2 = (4 : Int))) fun x18 =>
 letE vB (bif x1 then x18 else false) fun x19 =>
 letE vI ((x15.1.length : Int)) fun x20 =>
 letE vB (decide (x20 = (0 : Int))) fun x21 =>
 letE vB (bif x19 then x21 else false) fun x22 =>
 letE vI ((a0.length : Int)) fun x23 =>
 letE vI ((a1.length : Int)) fun x24 =>
 letE vI (wI (x23 + x24)) fun x25 =>
 letE vB (decide ((16 : Int) < x25)) fun x26 =>
 letE vB (bif x22 then x26 else false) fun x27 =>
 retM x27) (
 callM (fun x28 => .tup [vS x28.1, vB x28.2]) (fun x28 => []) (label_Get x15.1 a2) fun x28 =>
 callM (fun x29 => .tup [vS x29.1, vB x29.2]) (fun x29 => []) (label_Get a0 a2) fun x29 =>
 callM (fun x30 => .tup [vS x30.1, vB x30.2]) (fun x30 => []) (label_Get a1 a2) fun x30 =>
 iteM x30.2 (
 callM (fun x31 => .tup [(sl cGPair) x31.1, vI x31.2]) (fun x31 => []) (label_Merge x15.1 a1) fun x31 =>
 letE vB (decide (x28.1 = x30.1)) fun x32 =>
 letE vB (bif x1 then x32 else false) fun x33 =>
 letE vB (bif x29.2 then true else true) fun x34 =>
 iteM x33 (
 letE vB (x28.2 == x34) fun x35 =>
 letE vB (decide (x16.2 = (0 : Int))) fun x36 =>
 letE vB (bif x35 then x36 else false) fun x37 =>
 iteM x37 (
 callM vB (fun x38 => []) (ref03_Same x16.1 a0) fun x38 =>
 letE vB (decide (x31.2 = (0 : Int))) fun x39 =>
 letE vB (bif x38 then x39 else false) fun x40 =>
 iteM x40 (
 callM vB (fun x41 => []) (ref03_Same x31.1 x15.1) fun x41 =>
 iteM x41 (
 callM vB (fun x42 => []) (label_Sane x15.1) fun x42 =>
 retM x42) (
 retM false)) (
 retM false)) (
 letE vB (decide (x31.2 = (0 : Int))) fun x43 =>
 retM false)) (
 letE vB (decide (x16.2 = (0 : Int))) fun x44 =>
 letE vB (decide (x31.2 = (0 : Int))) fun x45 =>
 retM false)) (
 callM (fun x46 => .tup [(sl cGPair) x46.1, vI x46.2]) (fun x46 => []) (label_Merge x15.1 a1) fun x46 =>
 letE vB (decide (x28.1 = x29.1)) fun x47 =>
 letE vB (bif x1 then x47 else false) fun x48 =>
 letE vB (bif x29.2 then true else false) fun x49 =>
 iteM x48 (
 letE vB (x28.2 == x49) fun x50 =>
 letE vB (decide (x16.2 = (0 : Int))) fun x51 =>
 letE vB (bif x50 then x51 else false) fun x52 =>
 iteM x52 (
 callM vB (fun x53 => []) (ref03_Same x16.1 a0) fun x53 =>
 letE vB (decide (x46.2 = (0 : Int))) fun x54 =>
 letE vB (bif x53 then x54 else false) fun x55 =>
 iteM x55 (
 callM vB (fun x56 => []) (ref03_Same x46.1 x15.1) fun x56 =>
 iteM x56 (
 callM vB (fun x57 => []) (label_Sane x15.1) fun x57 =>
 retM x57) (
 retM false)) (
 retM false)) (
 letE vB (decide (x46.2 = (0 : Int))) fun x58 =>
 retM false)) (
 letE vB (decide (x16.2 = (0 : Int))) fun x59 =>
 letE vB (decide (x46.2 = (0 : Int))) fun x60 =>
 retM false)))))))

def law03_LabelCut (a0 : (List GPair)) (a1 : Int) : Option (Bool) :=
 callM vB (fun x1 => []) (law03_awake) fun x1 =>
 callM vB (fun x2 => []) (ref03_Few a0) fun x2 =>
 letE vB (!x2) fun x3 =>
 iteM x3 (
 retM x1) (
 callM vB (fun x4 => []) (label_Sane a0) fun x4 =>
 letE vB (!x4) fun x5 =>
 iteM x5 (
 retM x1) (
 letE vI (bAnd .i64 a1 (65535 : Int)) fun x6 =>
 letE vI ((a0.length : Int)) fun x7 =>
 letE vI (wI (x7 + (1 : Int))) fun x8 =>
 gdM (x8 ≠ 0) <|
 letE vI (Int.tmod x6 x8) fun x9 =>
 drawM <|
 gdM (0 ≤ (0 : Int) ∧ (0 : Int) ≤ x9 ∧ x9 ≤ (a0.length : Int)) <|
 letE (sl cGPair) ((a0.take x9.toNat).drop (0 : Int).toNat) fun x10 =>
 gdM (0 ≤ x9 ∧ x9 ≤ (a0.length : Int) ∧ (a0.length : Int) ≤ (a0.length : Int)) <|
 letE (sl cGPair) ((a0.take (a0.length : Int).toNat).drop x9.toNat) fun x11 =>
 callM (fun x12 => .tup [(sl cGPair) x12.1, vI x12.2]) (fun x12 => []) (label_Merge x10 x11) fun x12 =>
 drawM <|
 gdM (0 ≤ x9 ∧ x9 ≤ (a0.length : Int) ∧ (a0.length : Int) ≤ (a0.length : Int)) <|
 letE (sl cGPair) ((a0.take (a0.length : Int).toNat).drop x9.toNat) fun x13 =>
 gdM (0 ≤ (0 : Int) ∧ (0 : Int) ≤ x9 ∧ x9 ≤ (a0.length : Int)) <|
 letE (sl cGPair) ((a0.take x9.toNat).drop (0 : Int).toNat) fun x14 =>
 callM (fun x15 => .tup [(sl cGPair) x15.1, vI x15.2]) (fun x15 => []) (label_Merge x13 x14) fun x15 =>
 gdM (0 ≤ (0 : Int) ∧ (0 : Int) ≤ x9 ∧ x9 ≤ (a0.length : Int)) <|
 letE (sl cGPair) ((a0.take x9.toNat).drop (0 : Int).toNat) fun x16 =>
 callM vI (fun x17 => []) (label_Compare x16 a0) fun x17 =>
 iteM x1 (
 gdM (0 ≤ (0 : Int) ∧ (0 : Int) ≤ x9 ∧ x9 ≤ (a0.length : Int)) <|
 letE (sl cGPair) ((a0.take x9.toNat).drop (0 : Int).toNat) fun x18 =>
 callM vB (fun x19 => []) (label_Sane x18) fun x19 =>
 iteM x19 (
 gdM (0 ≤ x9 ∧ x9 ≤ (a0.length : Int) ∧ (a0.length : Int) ≤ (a0.length : Int)) <|
 letE (sl cGPair) ((a0.take (a0.length : Int).toNat).drop x9.toNat) fun x20 =>
 callM vB (fun x21 => []) (label_Sane x20) fun x21 =>
 letE vB (decide (x12.2 = (0 : Int))) fun x22 =>
 letE vB (bif x21 then x22 else false) fun x23 =>
 letE vB (decide (x15.2 = (0 : Int))) fun x24 =>
 letE vB (bif x23 then x24 else false) fun x25 =>
 iteM x25 (
 callM vB (fun x26 => []) (ref03_Same x12.1 a0) fun x26 =>
 iteM x26 (
 callM vB (fun x27 => []) (ref03_Same x15.1 a0) fun x27 =>
 letE vB (decide (x17 < (0 : Int))) fun x28 =>
 letE vI ((a0.length : Int)) fun x29 =>
 letE vB (decide (x9 < x29)) fun x30 =>
 iteM x27 (
 letE vB (x28 == x30) fun x31 =>
 letE vB (decide (x17 ≤ (0 : Int))) fun x32 =>
 letE vB (bif x31 then x32 else false) fun x33 =>
 retM x33) (
 letE vB (decide (x17 ≤ (0 : Int))) fun x34 =>
 retM false)) (
 letE vB (decide (x17 < (0 : Int))) fun x35 =>
 letE vI ((a0.length : Int)) fun x36 =>
 letE vB (decide (x9 < x36)) fun x37 =>
 letE vB (decide (x17 ≤ (0 : Int))) fun x38 =>
 retM false)) (
 letE vB (decide (x17 < (0 : Int))) fun x39 =>
 letE vI ((a0.length : Int)) fun x40 =>
 letE vB (decide (x9 < x40)) fun x41 =>
 letE vB (decide (x17 ≤ (0 : Int))) fun x42 =>
 retM false)) (
 letE vB (decide (x12.2 = (0 : Int))) fun x43 =>
 letE vB (decide (x15.2 = (0 : Int))) fun x44 =>
 letE vB (decide (x17 < (0 : Int))) fun x45 =>
 letE vI ((a0.length : Int)) fun x46 =>
 letE vB (decide (x9 < x46)) fun x47 =>
 letE vB (decide (x17 ≤ (0 : Int))) fun x48 =>
 retM false)) (
 letE vB (decide (x12.2 = (0 : Int))) fun x49 =>
 letE vB (decide (x15.2 = (0 : Int))) fun x50 =>
 letE vB (decide (x17 < (0 : Int))) fun x51 =>
 letE vI ((a0.length : Int)) fun x52 =>
 letE vB (decide (x9 < x52)) fun x53 =>
 letE vB (decide (x17 ≤ (0 : Int))) fun x54 =>
 retM false)))

def law03_LabelName (a0 : Str) : Option (Bool) :=
 callM vB (fun x1 => []) (law03_awake) fun x1 =>
 letE vI ((a0.length : Int)) fun x2 =>
 letE vB (decide ((200 : Int) < x2)) fun x3 =>
 iteM x3 (
 retM x1) (
 letE vB (!decide (a0 = ([] : Str))) fun x4 =>
 letE vI ((a0.length : Int)) fun x5 =>
 letE vB (decide (x5 ≤ (64 : Int))) fun x6 =>
 letE vB (bif x4 then x6 else false) fun x7 =>
 loopM (fun (x8 : Bool × Int) => [(0, vS a0), (3, vB x1), (4, vB x8.1), (5, vI x8.2)]) (fun (x8 : Bool × Int) => []) (fun (x8 : Bool × Int) =>
 letE vI ((a0.length : Int)) fun x9 =>
 letE vB (decide (x8.2 < x9)) fun x10 =>
 iteM x10 (
 letE vI (wI (x8.2 + (1 : Int))) fun x11 =>
 iteM x8.1 (
 gdM (0 ≤ x8.2 ∧ x8.2 ≤ x11 ∧ x11 ≤ (a0.length : Int)) <|
 letE vS ((a0.take x11.toNat).drop x8.2.toNat) fun x12 =>
 gdM (([97] : Str).length + x12.length ≤ 9223372036854775807) <|
 letE vS (([97] : Str) ++ x12) fun x13 =>
 callM vB (fun x14 => []) (label_Name x13) fun x14 =>
 letE vI (wI (x8.2 + (1 : Int))) fun x15 =>
 nextM (x14, x15)) (
 letE vI (wI (x8.2 + (1 : Int))) fun x16 =>
 nextM (false, x16))) (
 exitM <|
 iteM x8.1 (
 gdM (0 ≤ (0 : Int) ∧ (0 : Int) ≤ (1 : Int) ∧ (1 : Int) ≤ (a0.length : Int)) <|
 letE vS ((a0.take (1 : Int).toNat).drop (0 : Int).toNat) fun x17 =>
 callM vB (fun x18 => []) (label_Name x17) fun x18 =>
 iteM x1 (
 callM vB (fun x19 => []) (label_Name a0) fun x19 =>
 letE vB (x19 == x18) fun x20 =>
 retM x20) (
 retM false)) (
 iteM x1 (
 callM vB (fun x21 => []) (label_Name a0) fun x21 =>
 letE vB (x21 == false) fun x22 =>
 retM x22) (
 retM false)))) (x7, (0 : Int)))

def ref03_Letter (a0 : Int) : Option (Bool) :=
 letE vB (decide ((97 : Int) ≤ a0)) fun x1 =>
 letE vB (decide (a0 ≤ (122 : Int))) fun x2 =>
 letE vB (bif x1 then x2 else false) fun x3 =>
 letE vB (decide ((65 : Int) ≤ a0)) fun x4 =>
 letE vB (decide (a0 ≤ (90 : Int))) fun x5 =>
 letE vB (bif x4 then x5 else false) fun x6 =>
 letE vB (bif x3 then true else x6) fun x7 =>
 letE vB (decide (a0 = (95 : Int))) fun x8 =>
 letE vB (bif x7 then true else x8) fun x9 =>
 retM x9

def ref03_Name (a0 : Str) : Option (Bool) :=
 loopM (fun (x1 : Int) => [(0, vS a0), (3, vI x1)]) (fun (x1 : Int) => []) (fun (x1 : Int) =>
 letE vI ((a0.length : Int)) fun x2 =>
 letE vB (decide (x1 < x2)) fun x3 =>
 iteM x3 (
 idxM a0 x1 fun x4 =>
 callM vB (fun x5 => []) (ref03_Letter (x4.toNat : Int)) fun x5 =>
 letE vB (!x5) fun x6 =>
 letE vB (decide (x1 = (0 : Int))) fun x7 =>
 iteM x6 (
 iteM x7 (
 letE vB (bif true then true else false) fun x8 =>
 iteM x8 (
 letE vB (bif true then true else false) fun x9 =>
 iteM x9 (
 exitM <|
 retM false) (
 letE vI (wI (x1 + (1 : Int))) fun x10 =>
 nextM x10)) (
 letE vB (decide ((57 : Int) < (x4.toNat : Int))) fun x11 =>
 letE vB (bif false then true else x11) fun x12 =>
 iteM x12 (
 exitM <|
 retM false) (
 letE vI (wI (x1 + (1 : Int))) fun x13 =>
 nextM x13))) (
 letE vB (decide ((x4.toNat : Int) < (48 : Int))) fun x14 =>
 letE vB (bif false then true else x14) fun x15 =>
 iteM x15 (
 letE vB (bif true then true else false) fun x16 =>
 iteM x16 (
 exitM <|
 retM false) (
 letE vI (wI (x1 + (1 : Int))) fun x17 =>
 nextM x17)) (
 letE vB (decide ((57 : Int) < (x4.toNat : Int))) fun x18 =>
 letE vB (bif false then true else x18) fun x19 =>
 iteM x19 (
 exitM <|
 retM false) (
 letE vI (wI (x1 + (1 : Int))) fun x20 =>
 nextM x20)))) (
 letE vB (bif x7 then true else false) fun x21 =>
 letE vB (bif x21 then true else false) fun x22 =>
 letE vI (wI (x1 + (1 : Int))) fun x23 =>
 nextM x23)) (
 exitM <|
 letE vI ((a0.length : Int)) fun x24 =>
 letE vB (decide ((1 : Int) ≤ x24)) fun x25 =>
 letE vI ((a0.length : Int)) fun x26 =>
 letE vB (decide (x26 ≤ (64 : Int))) fun x27 =>
 letE vB (bif x25 then x27 else false) fun x28 =>
 retM x28)) (0 : Int)

def ref03_wrong (a0 : (List GPair)) : Option (Int) :=
 letE vI ((a0.length : Int)) fun x1 =>
 letE vB (decide ((16 : Int) < x1)) fun x2 =>
 iteM x2 (
 retM (4 : Int)) (
 loopM (fun (x3 : Int) => [(0, sl cGPair a0), (3, vI x3)]) (fun (x3 : Int) => []) (fun (x3 : Int) =>
 letE vI ((a0.length : Int)) fun x4 =>
 letE vB (decide (x3 < x4)) fun x5 =>
 iteM x5 (
 idxM a0 x3 fun x6 =>
 letE vI ((x6.Value.length : Int)) fun x7 =>
 letE vB (decide ((64 : Int) < x7)) fun x8 =>
 iteM x8 (
 exitM <|
 retM (4 : Int)) (
 letE vI (wI (x3 + (1 : Int))) fun x9 =>
 nextM x9)) (
 exitM <|
 loopM (fun (x10 : Int) => [(0, sl cGPair a0), (4, vI x10)]) (fun (x10 : Int) => []) (fun (x10 : Int) =>
 letE vI ((a0.length : Int)) fun x11 =>
 letE vB (decide (x10 < x11)) fun x12 =>
 iteM x12 (
 idxM a0 x10 fun x13 =>
 callM vB (fun x14 => []) (ref03_Name x13.Name) fun x14 =>
 letE vB (!x14) fun x15 =>
 iteM x15 (
 exitM <|
 retM (7 : Int)) (
 letE vI (wI (x10 + (1 : Int))) fun x16 =>
 nextM x16)) (
 exitM <|
 loopM (fun (x17 : Int) => [(0, sl cGPair a0), (5, vI x17)]) (fun (x17 : Int) => []) (fun (x17 : Int) =>
 letE vI ((a0.length : Int)) fun x18 =>
 letE vB (decide (x17 < x18)) fun x19 =>
 iteM x19 (
 loopM (fun (x20 : Int) => [(0, sl cGPair a0), (5, vI x17), (6, vI x20)]) (fun (x20 : Int) => []) (fun (x20 : Int) =>
 letE vB (decide (x20 < x17)) fun x21 =>
 iteM x21 (
 idxM a0 x17 fun x22 =>
 idxM a0 x20 fun x23 =>
 letE vB (decide (x22.Name = x23.Name)) fun x24 =>
 iteM x24 (
 exitM <|
 exitM <|
 retM (6 : Int)) (
 letE vI (wI (x20 + (1 : Int))) fun x25 =>
 nextM x25)) (
 exitM <|
 letE vI (wI (x17 + (1 : Int))) fun x26 =>
 nextM x26)) (0 : Int)) (
 exitM <|
 retM (0 : Int))) (0 : Int))) (0 : Int))) (0 : Int))

def ref03_Make (a0 : (List GPair)) : Option ((List GPair) × Int) :=
 callM vI (fun x1 => []) (ref03_wrong a0) fun x1 =>
 letE vB (!decide (x1 = (0 : Int))) fun x2 =>
 iteM x2 (
 retM (([] : (List GPair)), x1)) (
 tokM 5 2 29 <|
 loopM (fun (x3 : (List GPair) × Int) => [(0, sl cGPair a0), (5, so 0 cGPair x3.1), (6, vI x3.2)]) (fun (x3 : (List GPair) × Int) => [tk x3.1.length 2 29]) (fun (x3 : (List GPair) × Int) =>
 letE vI ((a0.length : Int)) fun x4 =>
 letE vB (decide (x3.2 < x4)) fun x5 =>
 iteM x5 (
 letE vI ((x3.1.length : Int)) fun x6 =>
 joinM (fun (x7 : Int) => [(0, sl cGPair a0), (5, so 0 cGPair x3.1), (6, vI x3.2), (7, vI x7)]) (fun (x7 : Int) => [tk x3.1.length 2 29]) (fun (x7 : Int) =>
 gdM (0 ≤ (0 : Int) ∧ (0 : Int) ≤ x7 ∧ x7 ≤ (x3.1.length : Int)) <|
 letE (so 0 cGPair) ((x3.1.take x7.toNat).drop (0 : Int).toNat) fun x15 =>
 gdM (x15.length * 32 ≤ 140737488355328) <|
 letO (so 1 cGPair) (fun x16 => [tk x3.1.length 2 29, tk x16.length 2 29]) (x15) fun x16 =>
 idxM a0 x3.2 fun x17 =>
 letE (sx cGPair) ([x17] : (List GPair)) fun x18 =>
 gdM ((x16.length + x18.length) * 32 ≤ 140737488355328) <|
 letO (so 1 cGPair) (fun x19 => [tk x3.1.length 2 29, tk x19.length 2 29]) (x16 ++ x18) fun x19 =>
 gdM (0 ≤ x7 ∧ x7 ≤ (x3.1.length : Int) ∧ (x3.1.length : Int) ≤ (x3.1.length : Int)) <|
 letE (so 0 cGPair) ((x3.1.take (x3.1.length : Int).toNat).drop x7.toNat) fun x20 =>
 gdM ((x19.length + x20.length) * 32 ≤ 140737488355328) <|
 letO (so 1 cGPair) (fun x21 => [tk x3.1.length 2 29, tk x21.length 2 29]) (x19 ++ x20) fun x21 =>
 letE vI (wI (x3.2 + (1 : Int))) fun x22 =>
 swapM 0 1 <|
 nextM (x21, x22)) <|
 loopM (fun (x8 : Int) => [(0, sl cGPair a0), (5, so 0 cGPair x3.1), (6, vI x3.2), (7, vI x8)]) (fun (x8 : Int) => [tk x3.1.length 2 29]) (fun (x8 : Int) =>
 letE vB (decide ((0 : Int) < x8)) fun x9 =>
 letE vI (wI (x8 - (1 : Int))) fun x10 =>
 iteM x9 (
 idxM x3.1 x10 fun x11 =>
 idxM a0 x3.2 fun x12 =>
 letE vB (ltS x12.Name x11.Name) fun x13 =>
 iteM x13 (
 letE vI (wI (x8 - (1 : Int))) fun x14 =>
 nextM x14) (
 exitM <|
 nextM x8)) (
 exitM <|
 nextM x8)) x6) (
 exitM <|
 retM (x3.1, (0 : Int)))) (([] : List GPair), (0 : Int)))

def ref03_Sane (a0 : (List GPair)) : Option (Bool) :=
 loopM (fun (x1 : Int) => [(0, sl cGPair a0), (3, vI x1)]) (fun (x1 : Int) => []) (fun (x1 : Int) =>
 letE vI ((a0.length : Int)) fun x2 =>
 letE vB (decide (x1 < x2)) fun x3 =>
 iteM x3 (
 drawM <|
 idxM a0 x1 fun x4 =>
 callM vB (fun x5 => []) (ref03_Name x4.Name) fun x5 =>
 letE vB (!x5) fun x6 =>
 iteM x6 (
 letE vB (decide ((0 : Int) < x1)) fun x7 =>
 letE vI (wI (x1 - (1 : Int))) fun x8 =>
 letE vB (bif x7 then false else false) fun x9 =>
 exitM <|
 retM false) (
 letE vI ((x4.Value.length : Int)) fun x10 =>
 letE vB (decide ((64 : Int) < x10)) fun x11 =>
 letE vB (decide ((0 : Int) < x1)) fun x12 =>
 letE vI (wI (x1 - (1 : Int))) fun x13 =>
 iteM x11 (
 letE vB (bif x12 then false else false) fun x14 =>
 exitM <|
 retM false) (
 iteM x12 (
 idxM a0 x13 fun x15 =>
 letE vB (!ltS x15.Name x4.Name) fun x16 =>
 letE vB (bif true then x16 else false) fun x17 =>
 iteM x17 (
 exitM <|
 retM false) (
 letE vI (wI (x1 + (1 : Int))) fun x18 =>
 nextM x18)) (
 letE vB (bif false then false else false) fun x19 =>
 iteM x19 (
 exitM <|
 retM false) (
 letE vI (wI (x1 + (1 : Int))) fun x20 =>
 nextM x20))))) (
 exitM <|
 letE vI ((a0.length : Int)) fun x21 =>
 letE vB (decide (x21 ≤ (16 : Int))) fun x22 =>
 retM x22)) (0 : Int)

def ref03_As (a0 : (List GPair)) : Option ((List GPair)) :=
 callM vB (fun x1 => []) (ref03_Sane a0) fun x1 =>
 letE vB (!x1) fun x2 =>
 iteM x2 (
 retM ([] : (List GPair))) (
 retM a0)

def ref03_Get (a0 : (List GPair)) (a1 : Str) : Option (Str × Bool) :=
 callM (sl cGPair) (fun x1 => []) (ref03_As a0) fun x1 =>
 loopM (fun (x2 : Int) => [(1, vS a1), (6, sl cGPair x1), (7, vI x2)]) (fun (x2 : Int) => []) (fun (x2 : Int) =>
 letE vI ((x1.length : Int)) fun x3 =>
 letE vB (decide (x2 < x3)) fun x4 =>
 iteM x4 (
 idxM x1 x2 fun x5 =>
 letE vB (decide (x5.Name = a1)) fun x6 =>
 iteM x6 (
 exitM <|
 retM (x5.Value, true)) (
 letE vI (wI (x2 + (1 : Int))) fun x7 =>
 nextM x7)) (
 exitM <|
 retM (([] : Str), false))) (0 : Int)

def label_Without (a0 : (List GPair)) (a1 : Str) : Option ((List GPair)) :=
 callM (sl cGPair) (fun x1 => []) (label_counts a0) fun x1 =>
 letE vI ((x1.length : Int)) fun x2 =>
 tokM 5 2 29 <|
 loopM (fun (x3 : Int × (List GPair)) => [(1, vS a1), (5, so 0 cGPair x3.2), (9, sl cGPair x1), (10, vI x2), (11, vI x3.1)]) (fun (x3 : Int × (List GPair)) => [tk x3.2.length 2 29]) (fun (x3 : Int × (List GPair)) =>
 letE vB (decide (x3.1 < x2)) fun x4 =>
 iteM x4 (
 idxM x1 x3.1 fun x5 =>
 letE vB (!decide (x5.Name = a1)) fun x6 =>
 iteM x6 (
 letE (sx cGPair) ([x5] : (List GPair)) fun x7 =>
 gdM ((x3.2.length + x7.length) * 32 ≤ 140737488355328) <|
 letO (so 0 cGPair) (fun x8 => [tk x8.length 2 29, .box [vS x5.Name, vS x5.Value]]) (x3.2 ++ x7) fun x8 =>
 letE vI (wI (x3.1 + (1 : Int))) fun x9 =>
 nextM (x9, x8)) (
 letE vI (wI (x3.1 + (1 : Int))) fun x10 =>
 nextM (x10, x3.2))) (
 exitM <|
 retM x3.2)) ((0 : Int), ([] : List GPair))

def label_With (a0 : (List GPair)) (a1 : Str) (a2 : Str) : Option ((List GPair) × Int) :=
 callM (so 0 cGPair) (fun x1 => [tk x1.length 2 29]) (label_Without a0 a1) fun x1 =>
 letE (sx cGPair) ([(⟨a1, a2⟩ : GPair)] : (List GPair)) fun x2 =>
 gdM ((x1.length + x2.length) * 32 ≤ 140737488355328) <|
 letO (so 0 cGPair) (fun x3 => [tk x3.length 2 29]) (x1 ++ x2) fun x3 =>
 callM (fun x4 => .tup [(sl cGPair) x4.1, vI x4.2]) (fun x4 => [.tok x3.length 2 29 false]) (label_Make x3) fun x4 =>
 retM (x4.1, x4.2)

def ref03_Without (a0 : (List GPair)) (a1 : Str) : Option ((List GPair)) :=
 callM (sl cGPair) (fun x1 => []) (ref03_As a0) fun x1 =>
 tokM 6 2 29 <|
 loopM (fun (x2 : (List GPair) × Int) => [(1, vS a1), (5, sl cGPair x1), (6, so 0 cGPair x2.1), (7, vI x2.2)]) (fun (x2 : (List GPair) × Int) => [tk x2.1.length 2 29]) (fun (x2 : (List GPair) × Int) =>
 letE vI ((x1.length : Int)) fun x3 =>
 letE vB (decide (x2.2 < x3)) fun x4 =>
 iteM x4 (
 idxM x1 x2.2 fun x5 =>
 letE vB (!decide (x5.Name = a1)) fun x6 =>
 iteM x6 (
 letE (sx cGPair) ([x5] : (List GPair)) fun x7 =>
 gdM ((x2.1.length + x7.length) * 32 ≤ 140737488355328) <|
 letO (so 0 cGPair) (fun x8 => [tk x8.length 2 29]) (x2.1 ++ x7) fun x8 =>
 letE vI (wI (x2.2 + (1 : Int))) fun x9 =>
 nextM (x8, x9)) (
 letE vI (wI (x2.2 + (1 : Int))) fun x10 =>
 nextM (x2.1, x10))) (
 exitM <|
 retM x2.1)) (([] : List GPair), (0 : Int))

def ref03_With (a0 : (List GPair)) (a1 : Str) (a2 : Str) : Option ((List GPair) × Int) :=
 callM (so 0 cGPair) (fun x1 => [tk x1.length 2 29]) (ref03_Without a0 a1) fun x1 =>
 gdM ((([] : (List GPair)).length + x1.length) * 32 ≤ 140737488355328) <|
 letO (so 1 cGPair) (fun x2 => [tk x1.length 2 29, tk x2.length 2 29]) (([] : (List GPair)) ++ x1) fun x2 =>
 letE (sx cGPair) ([(⟨a1, a2⟩ : GPair)] : (List GPair)) fun x3 =>
 gdM ((x2.length + x3.length) * 32 ≤ 140737488355328) <|
 letO (so 1 cGPair) (fun x4 => [tk x1.length 2 29, tk x4.length 2 29]) (x2 ++ x3) fun x4 =>
 callM (fun x5 => .tup [(sl cGPair) x5.1, vI x5.2]) (fun x5 => [tk x1.length 2 29, .tok x4.length 2 29 false]) (ref03_Make x4) fun x5 =>
 retM (x5.1, x5.2)

def ref03_Merge (a0 : (List GPair)) (a1 : (List GPair)) : Option ((List GPair) × Int) :=
 callM (sl cGPair) (fun x1 => []) (ref03_As a0) fun x1 =>
 gdM ((([] : (List GPair)).length + x1.length) * 32 ≤ 140737488355328) <|
 letO (so 0 cGPair) (fun x2 => [tk x2.length 2 29]) (([] : (List GPair)) ++ x1) fun x2 =>
 callM (sl cGPair) (fun x3 => [tk x2.length 2 29]) (ref03_As a1) fun x3 =>
 shM 0 <|
 loopM (fun (x4 : (List GPair) × Int) => [(6, so 0 cGPair x4.1), (7, sl cGPair x3), (8, vI x4.2)]) (fun (x4 : (List GPair) × Int) => [.tok x4.1.length 2 29 false]) (fun (x4 : (List GPair) × Int) =>
 letE vI ((x3.length : Int)) fun x5 =>
 letE vB (decide (x4.2 < x5)) fun x6 =>
 iteM x6 (
 idxM x3 x4.2 fun x7 =>
 callM (so 1 cGPair) (fun x8 => [.tok x4.1.length 2 29 false, tk x8.length 2 29]) (ref03_Without x4.1 x7.Name) fun x8 =>
 gdM ((([] : (List GPair)).length + x8.length) * 32 ≤ 140737488355328) <|
 letO (so 2 cGPair) (fun x9 => [.tok x4.1.length 2 29 false, tk x8.length 2 29, tk x9.length 2 29]) (([] : (List GPair)) ++ x8) fun x9 =>
 letE vI (wI (x4.2 + (1 : Int))) fun x10 =>
 swapM 0 2 <|
 shM 0 <|
 nextM (x9, x10)) (
 exitM <|
 gdM ((x4.1.length + x3.length) * 32 ≤ 140737488355328) <|
 letO (so 0 cGPair) (fun x11 => [.tok x11.length 2 29 false]) (x4.1 ++ x3) fun x11 =>
 callM (fun x12 => .tup [(sl cGPair) x12.1, vI x12.2]) (fun x12 => [.tok x11.length 2 29 false]) (ref03_Make x11) fun x12 =>
 retM (x12.1, x12.2))) (x2, (0 : Int))

def ref03_order (a0 : Str) (a1 : Str) : Option (Int) :=
 letE vB (ltS a0 a1) fun x1 =>
 iteM x1 (
 retM (-1 : Int)) (
 letE vB (ltS a1 a0) fun x2 =>
 iteM x2 (
 retM (1 : Int)) (
 retM (0 : Int)))

def ref03_Compare (a0 : (List GPair)) (a1 : (List GPair)) : Option (Int) :=
 callM (sl cGPair) (fun x1 => []) (ref03_As a0) fun x1 =>
 callM (sl cGPair) (fun x2 => []) (ref03_As a1) fun x2 =>
 loopM (fun (x3 : Int) => [(5, sl cGPair x1), (6, sl cGPair x2), (7, vI x3)]) (fun (x3 : Int) => []) (fun (x3 : Int) =>
 letE vI ((x1.length : Int)) fun x4 =>
 letE vB (decide (x3 < x4)) fun x5 =>
 letE vI ((x2.length : Int)) fun x6 =>
 letE vB (decide (x3 < x6)) fun x7 =>
 letE vB (bif x5 then x7 else false) fun x8 =>
 iteM x8 (
 drawM <|
 idxM x1 x3 fun x9 =>
 idxM x2 x3 fun x10 =>
 callM vI (fun x11 => []) (ref03_order x9.Name x10.Name) fun x11 =>
 letE vB (decide (x11 = (0 : Int))) fun x12 =>
 iteM x12 (
 drawM <|
 callM vI (fun x13 => []) (ref03_order x9.Value x10.Value) fun x13 =>
 letE vB (!decide (x13 = (0 : Int))) fun x14 =>
 iteM x14 (
 exitM <|
 retM x13) (
 letE vI (wI (x3 + (1 : Int))) fun x15 =>
 nextM x15)) (
 letE vB (!decide (x11 = (0 : Int))) fun x16 =>
 iteM x16 (
 exitM <|
 retM x11) (
 letE vI (wI (x3 + (1 : Int))) fun x17 =>
 nextM x17))) (
 exitM <|
 letE vI ((x1.length : Int)) fun x18 =>
 letE vI ((x2.length : Int)) fun x19 =>
 letE vB (decide (x18 < x19)) fun x20 =>
 iteM x20 (
 retM (-1 : Int)) (
 letE vI ((x1.length : Int)) fun x21 =>
 letE vI ((x2.length : Int)) fun x22 =>
 letE vB (decide (x22 < x21)) fun x23 =>
 iteM x23 (
 retM (1 : Int)) (
 retM (0 : Int))))) (0 : Int)

def law03_LabelIs (a0 : (List GPair)) (a1 : (List GPair)) (a2 : Str) (a3 : Str) : Option (Bool) :=
 callM vB (fun x1 => []) (law03_awake) fun x1 =>
 callM vB (fun x2 => []) (ref03_Few a0) fun x2 =>
 letE vB (!x2) fun x3 =>
 iteM x3 (
 letE vI ((a2.length : Int)) fun x4 =>
 letE vB (decide ((1000 : Int) < x4)) fun x5 =>
 letE vI ((a3.length : Int)) fun x6 =>
 letE vB (decide ((1000 : Int) < x6)) fun x7 =>
 retM x1) (
 callM vB (fun x8 => []) (ref03_Few a1) fun x8 =>
 letE vB (!x8) fun x9 =>
 letE vI ((a2.length : Int)) fun x10 =>
 letE vB (decide ((1000 : Int) < x10)) fun x11 =>
 letE vB (bif x9 then true else x11) fun x12 =>
 letE vI ((a3.length : Int)) fun x13 =>
 letE vB (decide ((1000 : Int) < x13)) fun x14 =>
 letE vB (bif x12 then true else x14) fun x15 =>
 iteM x15 (
 retM x1) (
 callM (fun x16 => .tup [(sl cGPair) x16.1, vI x16.2]) (fun x16 => []) (label_Make a0) fun x16 =>
 callM (fun x17 => .tup [(sl cGPair) x17.1, vI x17.2]) (fun x17 => []) (ref03_Make a0) fun x17 =>
 callM (fun x18 => .tup [vS x18.1, vB x18.2]) (fun x18 => []) (label_Get a0 a2) fun x18 =>
 callM (fun x19 => .tup [vS x19.1, vB x19.2]) (fun x19 => []) (ref03_Get a0 a2) fun x19 =>
 callM (fun x20 => .tup [(sl cGPair) x20.1, vI x20.2]) (fun x20 => []) (label_With a0 a2 a3) fun x20 =>
 callM (fun x21 => .tup [(sl cGPair) x21.1, vI x21.2]) (fun x21 => []) (ref03_With a0 a2 a3) fun x21 =>
 callM (fun x22 => .tup [(sl cGPair) x22.1, vI x22.2]) (fun x22 => []) (label_Merge a0 a1) fun x22 =>
 callM (fun x23 => .tup [(sl cGPair) x23.1, vI x23.2]) (fun x23 => []) (ref03_Merge a0 a1) fun x23 =>
 callM vB (fun x24 => []) (ref03_Same x16.1 x17.1) fun x24 =>
 letE vB (!x24) fun x25 =>
 letE vB (!decide (x16.2 = x17.2)) fun x26 =>
 letE vB (bif x25 then true else x26) fun x27 =>
 letE vB (!decide (x18.1 = x19.1)) fun x28 =>
 letE vB (bif x27 then true else x28) fun x29 =>
 iteM x29 (
 letE vB (!decide (x20.2 = x21.2)) fun x30 =>
 letE vB (!decide (x22.2 = x23.2)) fun x31 =>
 retM false) (
 letE vB (!(x18.2 == x19.2)) fun x32 =>
 iteM x32 (
 letE vB (!decide (x20.2 = x21.2)) fun x33 =>
 letE vB (!decide (x22.2 = x23.2)) fun x34 =>
 retM false) (
 callM vB (fun x35 => []) (ref03_Same x20.1 x21.1) fun x35 =>
 letE vB (!x35) fun x36 =>
 letE vB (!decide (x20.2 = x21.2)) fun x37 =>
 letE vB (bif x36 then true else x37) fun x38 =>
 iteM x38 (
 letE vB (!decide (x22.2 = x23.2)) fun x39 =>
 retM false) (
 callM vB (fun x40 => []) (ref03_Same x22.1 x23.1) fun x40 =>
 letE vB (!x40) fun x41 =>
 letE vB (!decide (x22.2 = x23.2)) fun x42 =>
 letE vB (bif x41 then true else x42) fun x43 =>
 iteM x43 (
 retM false) (
 iteM x1 (
 callM vB (fun x44 => []) (label_Name a2) fun x44 =>
 callM vB (fun x45 => []) (ref03_Name a2) fun x45 =>
 letE vB (x44 == x45) fun x46 =>
 iteM x46 (
 callM vB (fun x47 => []) (label_Sane a0) fun x47 =>
 callM vB (fun x48 => []) (ref03_Sane a0) fun x48 =>
 letE vB (x47 == x48) fun x49 =>
 iteM x49 (
 callM (so 0 cGPair) (fun x50 => [tk x50.length 2 29]) (label_Without a0 a2) fun x50 =>
 callM (so 1 cGPair) (fun x51 => [tk x50.length 2 29, tk x51.length 2 29]) (ref03_Without a0 a2) fun x51 =>
 callM vB (fun x52 => [.tok x50.length 2 29 false, .tok x51.length 2 29 false]) (ref03_Same x50 x51) fun x52 =>
 iteM x52 (
 callM vI (fun x53 => [.tok x50.length 2 29 false, .tok x51.length 2 29 false]) (label_Compare a0 a1) fun x53 =>
 callM vI (fun x54 => [.tok x50.length 2 29 false, .tok x51.length 2 29 false]) (ref03_Compare a0 a1) fun x54 =>
 letE vB (decide (x53 = x54)) fun x55 =>
 retM x55) (
 retM false)) (
 retM false)) (
 retM false)) (
 retM false)))))))

def law03_LabelWith (a0 : (List GPair)) (a1 : Str) (a2 : Str) (a3 : Str) : Option (Bool) :=
 callM vB (fun x1 => []) (law03_awake) fun x1 =>
 callM vB (fun x2 => []) (ref03_Few a0) fun x2 =>
 letE vB (!x2) fun x3 =>
 letE vI ((a1.length : Int)) fun x4 =>
 letE vB (decide ((1000 : Int) < x4)) fun x5 =>
 letE vB (bif x3 then true else x5) fun x6 =>
 letE vI ((a2.length : Int)) fun x7 =>
 letE vB (decide ((1000 : Int) < x7)) fun x8 =>
 letE vB (bif x6 then true else x8) fun x9 =>
 letE vI ((a3.length : Int)) fun x10 =>
 letE vB (decide ((1000 : Int) < x10)) fun x11 =>
 letE vB (bif x9 then true else x11) fun x12 =>
 iteM x12 (
 retM x1) (
 callM vB (fun x13 => []) (label_Sane a0) fun x13 =>
 letE vB (!x13) fun x14 =>
 iteM x14 (
 retM x1) (
 callM (fun x15 => .tup [(sl cGPair) x15.1, vI x15.2]) (fun x15 => []) (label_With a0 a1 a2) fun x15 =>
 letE vB (!decide (x15.2 = (0 : Int))) fun x16 =>
 iteM x16 (
 letE vI ((x15.1.length : Int)) fun x17 =>
 letE vB (decide (x17 = (0 : Int))) fun x18 =>
 letE vB (bif x1 then x18 else false) fun x19 =>
 iteM x19 (
 callM vB (fun x20 => []) (label_Name a1) fun x20 =>
 letE vB (!x20) fun x21 =>
 letE vI ((a2.length : Int)) fun x22 =>
 letE vB (decide ((64 : Int) < x22)) fun x23 =>
 letE vB (bif x21 then true else x23) fun x24 =>
 letE vI ((a0.length : Int)) fun x25 =>
 letE vB (decide (x25 = (16 : Int))) fun x26 =>
 letE vB (bif x24 then true else x26) fun x27 =>
 retM x27) (
 letE vI ((a2.length : Int)) fun x28 =>
 letE vB (decide ((64 : Int) < x28)) fun x29 =>
 letE vI ((a0.length : Int)) fun x30 =>
 letE vB (decide (x30 = (16 : Int))) fun x31 =>
 retM false)) (
 callM (fun x32 => .tup [vS x32.1, vB x32.2]) (fun x32 => []) (label_Get x15.1 a1) fun x32 =>
 callM (fun x33 => .tup [vS x33.1, vB x33.2]) (fun x33 => []) (label_Get a0 a3) fun x33 =>
 callM (fun x34 => .tup [vS x34.1, vB x34.2]) (fun x34 => []) (label_Get x15.1 a3) fun x34 =>
 callM (so 0 cGPair) (fun x35 => [tk x35.length 2 29]) (label_Without x15.1 a1) fun x35 =>
 callM (fun x36 => .tup [vS x36.1, vB x36.2]) (fun x36 => [.tok x35.length 2 29 false]) (label_Get x35 a3) fun x36 =>
 letE vB (!decide (a3 = a1)) fun x37 =>
 letE vB (!decide (x33.1 = x34.1)) fun x38 =>
 iteM x37 (
 iteM x38 (
 letE vB (bif true then true else false) fun x39 =>
 letE vB (!decide (x33.1 = x36.1)) fun x40 =>
 letE vB (bif x39 then true else x40) fun x41 =>
 iteM x41 (
 letE vB (bif true then true else false) fun x42 =>
 letE vB (decide (a3 = a1)) fun x43 =>
 letE vB (!decide (x36.1 = ([] : Str))) fun x44 =>
 letE vB (bif x36.2 then true else x44) fun x45 =>
 letE vB (bif x43 then x45 else false) fun x46 =>
 letE vB (bif x42 then true else x46) fun x47 =>
 iteM x47 (
 retM false) (
 letE vB (bif x1 then x32.2 else false) fun x48 =>
 letE vB (decide (x32.1 = a2)) fun x49 =>
 letE vB (bif x48 then x49 else false) fun x50 =>
 iteM x50 (
 callM vB (fun x51 => [.tok x35.length 2 29 false]) (label_Sane x15.1) fun x51 =>
 iteM x51 (
 callM vB (fun x52 => [.tok x35.length 2 29 false]) (label_Sane x35) fun x52 =>
 letE vI ((x35.length : Int)) fun x53 =>
 letE vI ((x15.1.length : Int)) fun x54 =>
 letE vI (wI (x54 - (1 : Int))) fun x55 =>
 letE vB (decide (x53 = x55)) fun x56 =>
 letE vB (bif x52 then x56 else false) fun x57 =>
 iteM x57 (
 callM (so 1 cGPair) (fun x58 => [.tok x35.length 2 29 false, tk x58.length 2 29]) (label_Without a0 a1) fun x58 =>
 callM vB (fun x59 => [.tok x35.length 2 29 false, .tok x58.length 2 29 false]) (ref03_Same x35 x58) fun x59 =>
 retM x59) (
 retM false)) (
 letE vI ((x35.length : Int)) fun x60 =>
 letE vI ((x15.1.length : Int)) fun x61 =>
 letE vI (wI (x61 - (1 : Int))) fun x62 =>
 letE vB (decide (x60 = x62)) fun x63 =>
 retM false)) (
 letE vI ((x35.length : Int)) fun x64 =>
 letE vI ((x15.1.length : Int)) fun x65 =>
 letE vI (wI (x65 - (1 : Int))) fun x66 =>
 letE vB (decide (x64 = x66)) fun x67 =>
 retM false))) (
 letE vB (!(x33.2 == x36.2)) fun x68 =>
 letE vB (bif false then true else x68) fun x69 =>
 letE vB (decide (a3 = a1)) fun x70 =>
 letE vB (!decide (x36.1 = ([] : Str))) fun x71 =>
 letE vB (bif x36.2 then true else x71) fun x72 =>
 letE vB (bif x70 then x72 else false) fun x73 =>
 letE vB (bif x69 then true else x73) fun x74 =>
 iteM x74 (
 retM false) (
 letE vB (bif x1 then x32.2 else false) fun x75 =>
 letE vB (decide (x32.1 = a2)) fun x76 =>
 letE vB (bif x75 then x76 else false) fun x77 =>
 iteM x77 (
 callM vB (fun x78 => [.tok x35.length 2 29 false]) (label_Sane x15.1) fun x78 =>
 iteM x78 (
 callM vB (fun x79 => [.tok x35.length 2 29 false]) (label_Sane x35) fun x79 =>
 letE vI ((x35.length : Int)) fun x80 =>
 letE vI ((x15.1.length : Int)) fun x81 =>
 letE vI (wI (x81 - (1 : Int))) fun x82 =>
 letE vB (decide (x80 = x82)) fun x83 =>
 letE vB (bif x79 then x83 else false) fun x84 =>
 iteM x84 (
 callM (so 1 cGPair) (fun x85 => [.tok x35.length 2 29 false, tk x85.length 2 29]) (label_Without a0 a1) fun x85 =>
 callM vB (fun x86 => [.tok x35.length 2 29 false, .tok x85.length 2 29 false]) (ref03_Same x35 x85) fun x86 =>
 retM x86) (
 retM false)) (
 letE vI ((x35.length : Int)) fun x87 =>
 letE vI ((x15.1.length : Int)) fun x88 =>
 letE vI (wI (x88 - (1 : Int))) fun x89 =>
 letE vB (decide (x87 = x89)) fun x90 =>
 retM false)) (
 letE vI ((x35.length : Int)) fun x91 =>
 letE vI ((x15.1.length : Int)) fun x92 =>
 letE vI (wI (x92 - (1 : Int))) fun x93 =>
 letE vB (decide (x91 = x93)) fun x94 =>
 retM false)))) (
 letE vB (!(x33.2 == x34.2)) fun x95 =>
 letE vB (bif false then true else x95) fun x96 =>
 letE vB (!decide (x33.1 = x36.1)) fun x97 =>
 letE vB (bif x96 then true else x97) fun x98 =>
 iteM x98 (
 letE vB (bif true then true else false) fun x99 =>
 letE vB (decide (a3 = a1)) fun x100 =>
 letE vB (!decide (x36.1 = ([] : Str))) fun x101 =>
 letE vB (bif x36.2 then true else x101) fun x102 =>
 letE vB (bif x100 then x102 else false) fun x103 =>
 letE vB (bif x99 then true else x103) fun x104 =>
 iteM x104 (
 retM false) (
 letE vB (bif x1 then x32.2 else false) fun x105 =>
 letE vB (decide (x32.1 = a2)) fun x106 =>
 letE vB (bif x105 then x106 else false) fun x107 =>
 iteM x107 (
 callM vB (fun x108 => [.tok x35.length 2 29 false]) (label_Sane x15.1) fun x108 =>
 iteM x108 (
 callM vB (fun x109 => [.tok x35.length 2 29 false]) (label_Sane x35) fun x109 =>
 letE vI ((x35.length : Int)) fun x110 =>
 letE vI ((x15.1.length : Int)) fun x111 =>
 letE vI (wI (x111 - (1 : Int))) fun x112 =>
 letE vB (decide (x110 = x112)) fun x113 =>
 letE vB (bif x109 then x113 else false) fun x114 =>
 iteM x114 (
 callM (so 1 cGPair) (fun x115 => [.tok x35.length 2 29 false, tk x115.length 2 29]) (label_Without a0 a1) fun x115 =>
 callM vB (fun x116 => [.tok x35.length 2 29 false, .tok x115.length 2 29 false]) (ref03_Same x35 x115) fun x116 =>
 retM x116) (
 retM false)) (
 letE vI ((x35.length : Int)) fun x117 =>
 letE vI ((x15.1.length : Int)) fun x118 =>
 letE vI (wI (x118 - (1 : Int))) fun x119 =>
 letE vB (decide (x117 = x119)) fun x120 =>
 retM false)) (
 letE vI ((x35.length : Int)) fun x121 =>
 letE vI ((x15.1.length : Int)) fun x122 =>
 letE vI (wI (x122 - (1 : Int))) fun x123 =>
 letE vB (decide (x121 = x123)) fun x124 =>
 retM false))) (
 letE vB (!(x33.2 == x36.2)) fun x125 =>
 letE vB (bif false then true else x125) fun x126 =>
 letE vB (decide (a3 = a1)) fun x127 =>
 letE vB (!decide (x36.1 = ([] : Str))) fun x128 =>
 letE vB (bif x36.2 then true else x128) fun x129 =>
 letE vB (bif x127 then x129 else false) fun x130 =>
 letE vB (bif x126 then true else x130) fun x131 =>
 iteM x131 (
 retM false) (
 letE vB (bif x1 then x32.2 else false) fun x132 =>
 letE vB (decide (x32.1 = a2)) fun x133 =>
 letE vB (bif x132 then x133 else false) fun x134 =>
 iteM x134 (
 callM vB (fun x135 => [.tok x35.length 2 29 false]) (label_Sane x15.1) fun x135 =>
 iteM x135 (
 callM vB (fun x136 => [.tok x35.length 2 29 false]) (label_Sane x35) fun x136 =>
 letE vI ((x35.length : Int)) fun x137 =>
 letE vI ((x15.1.length : Int)) fun x138 =>
 letE vI (wI (x138 - (1 : Int))) fun x139 =>
 letE vB (decide (x137 = x139)) fun x140 =>
 letE vB (bif x136 then x140 else false) fun x141 =>
 iteM x141 (
 callM (so 1 cGPair) (fun x142 => [.tok x35.length 2 29 false, tk x142.length 2 29]) (label_Without a0 a1) fun x142 =>
 callM vB (fun x143 => [.tok x35.length 2 29 false, .tok x142.length 2 29 false]) (ref03_Same x35 x142) fun x143 =>
 retM x143) (
 retM false)) (
 letE vI ((x35.length : Int)) fun x144 =>
 letE vI ((x15.1.length : Int)) fun x145 =>
 letE vI (wI (x145 - (1 : Int))) fun x146 =>
 letE vB (decide (x144 = x146)) fun x147 =>
 retM false)) (
 letE vI ((x35.length : Int)) fun x148 =>
 letE vI ((x15.1.length : Int)) fun x149 =>
 letE vI (wI (x149 - (1 : Int))) fun x150 =>
 letE vB (decide (x148 = x150)) fun x151 =>
 retM false))))) (
 letE vB (bif x38 then true else false) fun x152 =>
 letE vB (!decide (x33.1 = x36.1)) fun x153 =>
 letE vB (bif x152 then true else x153) fun x154 =>
 letE vB (bif x154 then true else false) fun x155 =>
 letE vB (decide (a3 = a1)) fun x156 =>
 letE vB (!decide (x36.1 = ([] : Str))) fun x157 =>
 letE vB (bif x36.2 then true else x157) fun x158 =>
 letE vB (bif x156 then x158 else false) fun x159 =>
 iteM x159 (
 retM false) (
 letE vB (bif x1 then x32.2 else false) fun x160 =>
 letE vB (decide (x32.1 = a2)) fun x161 =>
 letE vB (bif x160 then x161 else false) fun x162 =>
 iteM x162 (
 callM vB (fun x163 => [.tok x35.length 2 29 false]) (label_Sane x15.1) fun x163 =>
 iteM x163 (
 callM vB (fun x164 => [.tok x35.length 2 29 false]) (label_Sane x35) fun x164 =>
 letE vI ((x35.length : Int)) fun x165 =>
 letE vI ((x15.1.length : Int)) fun x166 =>
 letE vI (wI (x166 - (1 : Int))) fun x167 =>
 letE vB (decide (x165 = x167)) fun x168 =>
 letE vB (bif x164 then x168 else false) fun x169 =>
 iteM x169 (
 callM (so 1 cGPair) (fun x170 => [.tok x35.length 2 29 false, tk x170.length 2 29]) (label_Without a0 a1) fun x170 =>
 callM vB (fun x171 => [.tok x35.length 2 29 false, .tok x170.length 2 29 false]) (ref03_Same x35 x170) fun x171 =>
 retM x171) (
 retM false)) (
 letE vI ((x35.length : Int)) fun x172 =>
 letE vI ((x15.1.length : Int)) fun x173 =>
 letE vI (wI (x173 - (1 : Int))) fun x174 =>
 letE vB (decide (x172 = x174)) fun x175 =>
 retM false)) (
 letE vI ((x35.length : Int)) fun x176 =>
 letE vI ((x15.1.length : Int)) fun x177 =>
 letE vI (wI (x177 - (1 : Int))) fun x178 =>
 letE vB (decide (x176 = x178)) fun x179 =>
 retM false))))))

end
end Go.Proofs.Ytickejlolpoboaa.AM
