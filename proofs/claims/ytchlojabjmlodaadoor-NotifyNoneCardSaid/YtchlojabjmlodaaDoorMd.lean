/- A part of the proof: Md. -/
import Derived.Test.YtchlojabjmlodaaDoorTy
set_option linter.all false
/- The models. -/
namespace Go.Proofs.YtchlojabjmlodaaDoor.AM
noncomputable section

def slicesInsert_GTold (i : Int) (x l : List GTold) : Option (List GTold) := slicesInsert 32 i x l

def label_Name (a0 : Str) : Option (Bool) :=
 letE vI ((a0.length : Int)) fun x1 =>
 letE vB (decide (x1 < (1 : Int))) fun x2 =>
 letE vI ((a0.length : Int)) fun x3 =>
 letE vB (decide ((64 : Int) < x3)) fun x4 =>
 letE vB (bif x2 then true else x4) fun x5 =>
 iteM x5 (
 retM false) (
 loopM (fun (x6 : Int) => [(0, vS a0), (3, vI x6)]) (fun (x6 : Int) => []) (fun (x6 : Int) =>
 letE vI ((a0.length : Int)) fun x7 =>
 letE vB (decide (x6 < x7)) fun x8 =>
 iteM x8 (
 idxM a0 x6 fun x9 =>
 letE vB (decide ((97 : Int) ≤ (x9.toNat : Int))) fun x10 =>
 letE vB (decide ((x9.toNat : Int) ≤ (122 : Int))) fun x11 =>
 letE vB (bif x10 then x11 else false) fun x12 =>
 letE vB (decide ((65 : Int) ≤ (x9.toNat : Int))) fun x13 =>
 letE vB (decide ((x9.toNat : Int) ≤ (90 : Int))) fun x14 =>
 letE vB (bif x13 then x14 else false) fun x15 =>
 letE vB (bif x12 then true else x15) fun x16 =>
 letE vB (decide ((x9.toNat : Int) = (95 : Int))) fun x17 =>
 letE vB (bif x16 then true else x17) fun x18 =>
 letE vB (decide ((48 : Int) ≤ (x9.toNat : Int))) fun x19 =>
 letE vB (decide ((x9.toNat : Int) ≤ (57 : Int))) fun x20 =>
 letE vB (bif x19 then x20 else false) fun x21 =>
 letE vB (!x18) fun x22 =>
 letE vB (!x21) fun x23 =>
 letE vB (decide (x6 = (0 : Int))) fun x24 =>
 letE vB (bif x23 then true else x24) fun x25 =>
 letE vB (bif x22 then x25 else false) fun x26 =>
 iteM x26 (
 exitM <|
 retM false) (
 letE vI (wI (x6 + (1 : Int))) fun x27 =>
 nextM x27)) (
 exitM <|
 retM true)) (0 : Int))

def label_Sane (a0 : (List GPair)) : Option (Bool) :=
 letE vI ((a0.length : Int)) fun x1 =>
 letE vB (decide ((16 : Int) < x1)) fun x2 =>
 iteM x2 (
 retM false) (
 letE vI ((a0.length : Int)) fun x3 =>
 loopM (fun (x4 : Int) => [(0, sl cGPair a0), (8, sl cGPair a0), (9, vI x3), (10, vI x4)]) (fun (x4 : Int) => []) (fun (x4 : Int) =>
 letE vB (decide (x4 < x3)) fun x5 =>
 iteM x5 (
 idxM a0 x4 fun x6 =>
 callM vB (fun x7 => [.box [vS x6.Name, vS x6.Value]]) (label_Name x6.Name) fun x7 =>
 letE vB (!x7) fun x8 =>
 iteM x8 (
 exitM <|
 retM false) (
 letE vI ((x6.Value.length : Int)) fun x9 =>
 letE vB (decide ((64 : Int) < x9)) fun x10 =>
 iteM x10 (
 exitM <|
 retM false) (
 letE vB (decide ((0 : Int) < x4)) fun x11 =>
 letE vI (wI (x4 - (1 : Int))) fun x12 =>
 iteM x11 (
 idxM a0 x12 fun x13 =>
 letE vB (!ltS x13.Name x6.Name) fun x14 =>
 iteM x14 (
 exitM <|
 retM false) (
 letE vI (wI (x4 + (1 : Int))) fun x15 =>
 nextM x15)) (
 letE vI (wI (x4 + (1 : Int))) fun x16 =>
 nextM x16)))) (
 exitM <|
 retM true)) (0 : Int))

def hold_time (a0 : Int) : Option (Bool) :=
 letE vB (decide ((0 : Int) ≤ a0)) fun x1 =>
 letE vB (decide (a0 ≤ (9007199254740992 : Int))) fun x2 =>
 letE vB (bif x1 then x2 else false) fun x3 =>
 retM x3

def hold_Sane (a0 : GHold) : Option (Bool) :=
 callM vB (fun x1 => [.box [vB a0.On, vI a0.Since, vB a0.Hit, vI a0.Fired]]) (hold_time a0.Since) fun x1 =>
 letE vB (!x1) fun x2 =>
 iteM x2 (
 retM false) (
 callM vB (fun x3 => [.box [vB a0.On, vI a0.Since, vB a0.Hit, vI a0.Fired]]) (hold_time a0.Fired) fun x3 =>
 letE vB (!x3) fun x4 =>
 iteM x4 (
 retM false) (
 iteM a0.On (
 iteM a0.Hit (
 letE vB (bif true then true else false) fun x5 =>
 retM x5) (
 letE vB (decide (a0.Fired = (0 : Int))) fun x6 =>
 letE vB (bif false then true else x6) fun x7 =>
 retM x7)) (
 letE vB (decide (a0.Since = (0 : Int))) fun x8 =>
 iteM x8 (
 iteM a0.Hit (
 letE vB (bif true then true else false) fun x9 =>
 retM x9) (
 letE vB (decide (a0.Fired = (0 : Int))) fun x10 =>
 letE vB (bif false then true else x10) fun x11 =>
 retM x11)) (
 retM false))))

def label_counts (a0 : (List GPair)) : Option ((List GPair)) :=
 callM vB (fun x1 => []) (label_Sane a0) fun x1 =>
 iteM x1 (
 retM a0) (
 retM ([] : (List GPair)))

def cmp_isNaN_string (a0 : Str) : Option (Bool) :=
 letE vB (!decide (a0 = a0)) fun x1 =>
 retM x1

def cmp_Compare_string (a0 : Str) (a1 : Str) : Option (Int) :=
 callM vB (fun x1 => []) (cmp_isNaN_string a0) fun x1 =>
 callM vB (fun x2 => []) (cmp_isNaN_string a1) fun x2 =>
 iteM x1 (
 iteM x2 (
 retM (0 : Int)) (
 retM (-1 : Int))) (
 iteM x2 (
 retM (1 : Int)) (
 letE vB (ltS a0 a1) fun x3 =>
 iteM x3 (
 retM (-1 : Int)) (
 letE vB (ltS a1 a0) fun x4 =>
 iteM x4 (
 retM (1 : Int)) (
 retM (0 : Int)))))

def cmp_Or_int (a0 : (List Int)) : Option (Int) :=
 letE vI ((a0.length : Int)) fun x1 =>
 loopM (fun (x2 : Int) => [(3, vI (0 : Int)), (6, sl cI a0), (7, vI x1), (8, vI x2)]) (fun (x2 : Int) => []) (fun (x2 : Int) =>
 letE vB (decide (x2 < x1)) fun x3 =>
 iteM x3 (
 idxM a0 x2 fun x4 =>
 letE vB (!decide (x4 = (0 : Int))) fun x5 =>
 iteM x5 (
 exitM <|
 retM x4) (
 letE vI (wI (x2 + (1 : Int))) fun x6 =>
 nextM x6)) (
 exitM <|
 retM (0 : Int))) (0 : Int)

def label_Compare_1 (a0 : GPair) (a1 : GPair) : Option (Int) :=
 drawM <|
 callM vI (fun x1 => [.box [vS a0.Name, vS a0.Value], .box [vS a1.Name, vS a1.Value]]) (cmp_Compare_string a0.Name a1.Name) fun x1 =>
 callM vI (fun x2 => [.box [vS a0.Name, vS a0.Value], .box [vS a1.Name, vS a1.Value]]) (cmp_Compare_string a0.Value a1.Value) fun x2 =>
 letE (sx cI) ([x1, x2] : (List Int)) fun x3 =>
 callM vI (fun x4 => [.box [vS a0.Name, vS a0.Value], .box [vS a1.Name, vS a1.Value]]) (cmp_Or_int x3) fun x4 =>
 retM x4

def slices_CompareFunc_Pair_Pair_Pair_Pair_label_Compare_1 (a0 : (List GPair)) (a1 : (List GPair)) : Option (Int) :=
 letE vI ((a0.length : Int)) fun x1 =>
 loopM (fun (x2 : Int) => [(0, sl cGPair a0), (1, sl cGPair a1), (2, .fn 19 [] []), (11, sl cGPair a0), (12, vI x1), (13, vI x2)]) (fun (x2 : Int) => []) (fun (x2 : Int) =>
 letE vB (decide (x2 < x1)) fun x3 =>
 iteM x3 (
 idxM a0 x2 fun x4 =>
 letE vI ((a1.length : Int)) fun x5 =>
 letE vB (decide (x5 ≤ x2)) fun x6 =>
 iteM x6 (
 exitM <|
 retM (1 : Int)) (
 idxM a1 x2 fun x7 =>
 callM vI (fun x8 => [.box [vS x4.Name, vS x4.Value], .box [vS x7.Name, vS x7.Value]]) (label_Compare_1 x4 x7) fun x8 =>
 letE vB (!decide (x8 = (0 : Int))) fun x9 =>
 iteM x9 (
 exitM <|
 retM x8) (
 letE vI (wI (x2 + (1 : Int))) fun x10 =>
 nextM x10))) (
 exitM <|
 letE vI ((a0.length : Int)) fun x11 =>
 letE vI ((a1.length : Int)) fun x12 =>
 letE vB (decide (x11 < x12)) fun x13 =>
 iteM x13 (
 retM (-1 : Int)) (
 retM (0 : Int)))) (0 : Int)

def label_Compare (a0 : (List GPair)) (a1 : (List GPair)) : Option (Int) :=
 callM (sl cGPair) (fun x1 => []) (label_counts a0) fun x1 =>
 callM (sl cGPair) (fun x2 => []) (label_counts a1) fun x2 =>
 callM vI (fun x3 => []) (slices_CompareFunc_Pair_Pair_Pair_Pair_label_Compare_1 x1 x2) fun x3 =>
 retM x3

def table_Sane (a0 : GTable) : Option (Bool) :=
 letE vI ((a0.A.length : Int)) fun x1 =>
 letE vB (decide ((16 : Int) < x1)) fun x2 =>
 iteM x2 (
 retM false) (
 letE vB (decide (a0.Full < (0 : Int))) fun x3 =>
 iteM x3 (
 retM false) (
 letE vB (decide ((9007199254740992 : Int) < a0.Full)) fun x4 =>
 iteM x4 (
 retM false) (
 letE vI ((a0.A.length : Int)) fun x5 =>
 loopM (fun (x6 : Int) => [(1, .ptr 0 0), (20, sl cGAlert a0.A), (21, vI x5), (22, vI x6)]) (fun (x6 : Int) => [.box [sl cGAlert a0.A, vI a0.Full]]) (fun (x6 : Int) =>
 letE vB (decide (x6 < x5)) fun x7 =>
 iteM x7 (
 idxM a0.A x6 fun x8 =>
 callM vB (fun x9 => [.box [sl cGAlert a0.A, vI a0.Full], .box [sl cGPair x8.L, vB x8.H.On, vI x8.H.Since, vB x8.H.Hit, vI x8.H.Fired, vI x8.State, vI x8.V]]) (label_Sane x8.L) fun x9 =>
 letE vB (!x9) fun x10 =>
 iteM x10 (
 exitM <|
 retM false) (
 callM vB (fun x11 => [.box [sl cGAlert a0.A, vI a0.Full], .box [sl cGPair x8.L, vB x8.H.On, vI x8.H.Since, vB x8.H.Hit, vI x8.H.Fired, vI x8.State, vI x8.V]]) (hold_Sane x8.H) fun x11 =>
 letE vB (!x11) fun x12 =>
 iteM x12 (
 exitM <|
 retM false) (
 letE vB (decide (x8.State < (0 : Int))) fun x13 =>
 iteM x13 (
 exitM <|
 retM false) (
 letE vB (decide ((2 : Int) < x8.State)) fun x14 =>
 iteM x14 (
 exitM <|
 retM false) (
 drawM <|
 letE vB (decide ((0 : Int) < x6)) fun x15 =>
 iteM x15 (
 letE vI (wI (x6 - (1 : Int))) fun x16 =>
 idxM a0.A x16 fun x17 =>
 callM vI (fun x18 => [.box [sl cGAlert a0.A, vI a0.Full], .box [sl cGPair x8.L, vB x8.H.On, vI x8.H.Since, vB x8.H.Hit, vI x8.H.Fired, vI x8.State, vI x8.V]]) (label_Compare x17.L x8.L) fun x18 =>
 letE vB (decide ((0 : Int) ≤ x18)) fun x19 =>
 iteM x19 (
 exitM <|
 retM false) (
 letE vI (wI (x6 + (1 : Int))) fun x20 =>
 nextM x20)) (
 letE vI (wI (x6 - (1 : Int))) fun x21 =>
 letE vI (wI (x6 + (1 : Int))) fun x22 =>
 nextM x22)))))) (
 exitM <|
 retM true)) (0 : Int))))

def table_counted (a0 : GTable) : Option (GTable) :=
 callM vB (fun x1 => [.box [sl cGAlert a0.A, vI a0.Full], .box [.v (.slice none 0 0), vI (0 : Int)]]) (table_Sane a0) fun x1 =>
 letE vB (!x1) fun x2 =>
 iteM x2 (
 retM (⟨([] : (List GAlert)), (0 : Int)⟩ : GTable)) (
 retM a0)

def strconv_small (a0 : Int) : Option (Str) :=
 letE vB (decide (a0 < (10 : Int))) fun x1 =>
 iteM x1 (
 letE vI (wI (a0 + (1 : Int))) fun x2 =>
 gdM (0 ≤ a0 ∧ a0 ≤ x2 ∧ x2 ≤ (([48, 49, 50, 51, 52, 53, 54, 55, 56, 57, 97, 98, 99, 100, 101, 102, 103, 104, 105, 106, 107, 108, 109, 110, 111, 112, 113, 114, 115, 116, 117, 118, 119, 120, 121, 122] : Str).length : Int)) <|
 letE vS ((([48, 49, 50, 51, 52, 53, 54, 55, 56, 57, 97, 98, 99, 100, 101, 102, 103, 104, 105, 106, 107, 108, 109, 110, 111, 112, 113, 114, 115, 116, 117, 118, 119, 120, 121, 122] : Str).take x2.toNat).drop a0.toNat) fun x3 =>
 retM x3) (
 letE vI (wI (a0 * (2 : Int))) fun x4 =>
 letE vI (wI (a0 * (2 : Int))) fun x5 =>
 letE vI (wI (x5 + (2 : Int))) fun x6 =>
 gdM (0 ≤ x4 ∧ x4 ≤ x6 ∧ x6 ≤ (([48, 48, 48, 49, 48, 50, 48, 51, 48, 52, 48, 53, 48, 54, 48, 55, 48, 56, 48, 57, 49, 48, 49, 49, 49, 50, 49, 51, 49, 52, 49, 53, 49, 54, 49, 55, 49, 56, 49, 57, 50, 48, 50, 49, 50, 50, 50, 51, 50, 52, 50, 53, 50, 54, 50, 55, 50, 56, 50, 57, 51, 48, 51, 49, 51, 50, 51, 51, 51, 52, 51, 53, 51, 54, 51, 55, 51, 56, 51, 57, 52, 48, 52, 49, 52, 50, 52, 51, 52, 52, 52, 53, 52, 54, 52, 55, 52, 56, 52, 57, 53, 48, 53, 49, 53, 50, 53, 51, 53, 52, 53, 53, 53, 54, 53, 55, 53, 56, 53, 57, 54, 48, 54, 49, 54, 50, 54, 51, 54, 52, 54, 53, 54, 54, 54, 55, 54, 56, 54, 57, 55, 48, 55, 49, 55, 50, 55, 51, 55, 52, 55, 53, 55, 54, 55, 55, 55, 56, 55, 57, 56, 48, 56, 49, 56, 50, 56, 51, 56, 52, 56, 53, 56, 54, 56, 55, 56, 56, 56, 57, 57, 48, 57, 49, 57, 50, 57, 51, 57, 52, 57, 53, 57, 54, 57, 55, 57, 56, 57, 57] : Str).length : Int)) <|
 letE vS ((([48, 48, 48, 49, 48, 50, 48, 51, 48, 52, 48, 53, 48, 54, 48, 55, 48, 56, 48, 57, 49, 48, 49, 49, 49, 50, 49, 51, 49, 52, 49, 53, 49, 54, 49, 55, 49, 56, 49, 57, 50, 48, 50, 49, 50, 50, 50, 51, 50, 52, 50, 53, 50, 54, 50, 55, 50, 56, 50, 57, 51, 48, 51, 49, 51, 50, 51, 51, 51, 52, 51, 53, 51, 54, 51, 55, 51, 56, 51, 57, 52, 48, 52, 49, 52, 50, 52, 51, 52, 52, 52, 53, 52, 54, 52, 55, 52, 56, 52, 57, 53, 48, 53, 49, 53, 50, 53, 51, 53, 52, 53, 53, 53, 54, 53, 55, 53, 56, 53, 57, 54, 48, 54, 49, 54, 50, 54, 51, 54, 52, 54, 53, 54, 54, 54, 55, 54, 56, 54, 57, 55, 48, 55, 49, 55, 50, 55, 51, 55, 52, 55, 53, 55, 54, 55, 55, 55, 56, 55, 57, 56, 48, 56, 49, 56, 50, 56, 51, 56, 52, 56, 53, 56, 54, 56, 55, 56, 56, 56, 57, 57, 48, 57, 49, 57, 50, 57, 51, 57, 52, 57, 53, 57, 54, 57, 55, 57, 56, 57, 57] : Str).take x6.toNat).drop x4.toNat) fun x7 =>
 retM x7)

def strconv_FormatInt (a0 : Int) (a1 : Int) : Option (Str) :=
 letE vB (decide (a1 = (10 : Int))) fun x1 =>
 iteM x1 (
 letE vB (decide ((0 : Int) ≤ a0)) fun x2 =>
 letE vB (decide (a0 < (100 : Int))) fun x3 =>
 letE vB (bif x2 then x3 else false) fun x4 =>
 iteM x4 (
 callM vS (fun x5 => []) (strconv_small a0) fun x5 =>
 retM x5) (
 letE (vK .u64) (IntKind.u64.wrap a0) fun x6 =>
 letE vB (decide (a0 < (0 : Int))) fun x7 =>
 iteM x7 (
 letE (vK .u64) (IntKind.u64.wrap (0 - x6)) fun x8 =>
 noM) (
 noM))) (
 letE (vK .u64) (IntKind.u64.wrap a0) fun x9 =>
 letE vB (decide (a0 < (0 : Int))) fun x10 =>
 noM)

def strconv_Itoa (a0 : Int) : Option (Str) :=
 callM vS (fun x1 => []) (strconv_FormatInt a0 (10 : Int)) fun x1 =>
 retM x1

def strconv_Itoa1 (a0 : Int) : Option (Str) :=
 callM vS (fun x1 => []) (strconv_Itoa a0) fun x1 =>
 retM x1

def strings_Builder_WriteString_o (a0 : Str) (a1 : (List Int)) : Option (Int × Unit × (List Int)) :=
 callO [0, 1] [.bld 96 (so 1 (cK .u8) a1), tk a1.length 1 5] (fun x1 => .tup []) (fun x1 => [.bld 96 (so 1 (cK .u8) a1), tk a1.length 1 5]) (bldCheck a1) fun x1 =>
 gdM ((a1.length + (octs a0).length) * 1 ≤ 140737488355328) <|
 letO (so 1 (cK .u8)) (fun x2 => [.bld 96 (so 1 (cK .u8) a1), tk x2.length 1 5]) (a1 ++ (octs a0)) fun x2 =>
 letE vI ((a0.length : Int)) fun x3 =>
 retM (x3, (), x2)

def strings_Builder_WriteByte_o (a0 : Int) (a1 : (List Int)) : Option (Unit × (List Int)) :=
 callO [0, 1] [.bld 96 (so 1 (cK .u8) a1), tk a1.length 1 5] (fun x1 => .tup []) (fun x1 => [.bld 96 (so 1 (cK .u8) a1), tk a1.length 1 5]) (bldCheck a1) fun x1 =>
 letE (sx (cK .u8)) ([a0] : (List Int)) fun x2 =>
 gdM ((a1.length + x2.length) * 1 ≤ 140737488355328) <|
 letO (so 1 (cK .u8)) (fun x3 => [.bld 96 (so 1 (cK .u8) a1), tk x3.length 1 5]) (a1 ++ x2) fun x3 =>
 retM ((), x3)

def table_key (a0 : (List GPair)) : Option (Str) :=
 bldM 5 <|
 letE vI ((a0.length : Int)) fun x1 =>
 loopM (fun (x2 : (List Int) × Int) => [(3, .ptr 0 0), (8, sl cGPair a0), (9, vI x1), (10, vI x2.2)]) (fun (x2 : (List Int) × Int) => [.bld 96 (so 1 (cK .u8) x2.1), tk x2.1.length 1 5]) (fun (x2 : (List Int) × Int) =>
 letE vB (decide (x2.2 < x1)) fun x3 =>
 iteM x3 (
 idxM a0 x2.2 fun x4 =>
 loopM (fun (x5 : (List Int) × Int) => [(3, .ptr 0 0), (8, sl cGPair a0), (9, vI x1), (10, vI x2.2), (18, .agg [vS x4.Name, vS x4.Value]), (19, vI x5.2)]) (fun (x5 : (List Int) × Int) => [.bld 96 (so 1 (cK .u8) x5.1), tk x5.1.length 1 5]) (fun (x5 : (List Int) × Int) =>
 letE vB (decide (x5.2 < (2 : Int))) fun x6 =>
 iteM x6 (
 idxM [x4.Name, x4.Value] x5.2 fun x7 =>
 letE vI ((x7.length : Int)) fun x8 =>
 callM vS (fun x9 => [.bld 96 (so 1 (cK .u8) x5.1), tk x5.1.length 1 5]) (strconv_Itoa1 x8) fun x9 =>
 callO [0, 1] [.bld 96 (so 1 (cK .u8) x5.1), tk x5.1.length 1 5] (fun x10 => .tup [vI x10.1, vNI x10.2.1]) (fun x10 => [.bld 96 (so 1 (cK .u8) x10.2.2), tk x10.2.2.length 1 5]) (strings_Builder_WriteString_o x9 x5.1) fun x10 =>
 callO [0, 1] [.bld 96 (so 1 (cK .u8) x10.2.2), tk x10.2.2.length 1 5] (fun x11 => vNI x11.1) (fun x11 => [.bld 96 (so 1 (cK .u8) x11.2), tk x11.2.length 1 5]) (strings_Builder_WriteByte_o (32 : Int) x10.2.2) fun x11 =>
 callO [0, 1] [.bld 96 (so 1 (cK .u8) x11.2), tk x11.2.length 1 5] (fun x12 => .tup [vI x12.1, vNI x12.2.1]) (fun x12 => [.bld 96 (so 1 (cK .u8) x12.2.2), tk x12.2.2.length 1 5]) (strings_Builder_WriteString_o x7 x11.2) fun x12 =>
 letE vI (wI (x5.2 + (1 : Int))) fun x13 =>
 nextM (x12.2.2, x13)) (
 exitM <|
 letE vI (wI (x2.2 + (1 : Int))) fun x14 =>
 nextM (x5.1, x14))) (x2.1, (0 : Int))) (
 exitM <|
 callO [0, 1] [.bld 96 (so 1 (cK .u8) x2.1), tk x2.1.length 1 5] (fun x15 => vS x15) (fun x15 => [.dead, .dead]) (bldStr x2.1) fun x15 =>
 retM x15)) (([] : List Int), (0 : Int))

def table_distinct (a0 : (List GFound)) : Option ((List GFound) × (List (Str × GFound))) :=
 letO (fun _ => .map 0) (fun x1 => [.map (mp kS (ag cGFound) x1)]) ([] : (List (Str × GFound))) fun x1 =>
 letE vI ((a0.length : Int)) fun x2 =>
 tokM 4 3 42 <|
 loopM (fun (x3 : (List (Str × GFound)) × Int × (List GFound)) => [(4, so 1 cGFound x3.2.2), (5, .map 0), (12, sl cGFound a0), (13, vI x2), (14, vI x3.2.1)]) (fun (x3 : (List (Str × GFound)) × Int × (List GFound)) => [.map (mp kS (ag cGFound) x3.1), tk x3.2.2.length 3 42]) (fun (x3 : (List (Str × GFound)) × Int × (List GFound)) =>
 letE vB (decide (x3.2.1 < x2)) fun x4 =>
 iteM x4 (
 idxM a0 x3.2.1 fun x5 =>
 callM vB (fun x6 => [.map (mp kS (ag cGFound) x3.1), tk x3.2.2.length 3 42, .box [sl cGPair x5.L, vI x5.X.T, vI x5.X.V]]) (label_Sane x5.L) fun x6 =>
 letE vB (!x6) fun x7 =>
 iteM x7 (
 letE vI (wI (x3.2.1 + (1 : Int))) fun x8 =>
 nextM (x3.1, x8, x3.2.2)) (
 callM vS (fun x9 => [.map (mp kS (ag cGFound) x3.1), tk x3.2.2.length 3 42, .box [sl cGPair x5.L, vI x5.X.T, vI x5.X.V]]) (table_key x5.L) fun x9 =>
 lookM x3.1 x9 (fun x10 =>
 letE vB (!true) fun x11 =>
 iteM x11 (
 letO (fun _ => .any) (fun x12 => [.map (mp kS (ag cGFound) x12), tk x3.2.2.length 3 42, .box [sl cGPair x5.L, vI x5.X.T, vI x5.X.V], .box [sl cGPair x10.L, vI x10.X.T, vI x10.X.V]]) (mst x3.1 x9 x5) fun x12 =>
 letE (sx cGFound) ([x5] : (List GFound)) fun x13 =>
 gdM ((x3.2.2.length + x13.length) * 40 ≤ 140737488355328) <|
 letO (so 1 cGFound) (fun x14 => [.map (mp kS (ag cGFound) x12), tk x14.length 3 42, .box [sl cGPair x5.L, vI x5.X.T, vI x5.X.V], .box [sl cGPair x10.L, vI x10.X.T, vI x10.X.V]]) (x3.2.2 ++ x13) fun x14 =>
 letE vI (wI (x3.2.1 + (1 : Int))) fun x15 =>
 nextM (x12, x15, x14)) (
 letE vI (wI (x3.2.1 + (1 : Int))) fun x16 =>
 nextM (x3.1, x16, x3.2.2))) (
 letE vB (!false) fun x17 =>
 iteM x17 (
 letO (fun _ => .any) (fun x18 => [.map (mp kS (ag cGFound) x18), tk x3.2.2.length 3 42, .box [sl cGPair x5.L, vI x5.X.T, vI x5.X.V], .box [.v (.slice none 0 0), vI (0 : Int), vI (0 : Int)]]) (mst x3.1 x9 x5) fun x18 =>
 letE (sx cGFound) ([x5] : (List GFound)) fun x19 =>
 gdM ((x3.2.2.length + x19.length) * 40 ≤ 140737488355328) <|
 letO (so 1 cGFound) (fun x20 => [.map (mp kS (ag cGFound) x18), tk x20.length 3 42, .box [sl cGPair x5.L, vI x5.X.T, vI x5.X.V], .box [.v (.slice none 0 0), vI (0 : Int), vI (0 : Int)]]) (x3.2.2 ++ x19) fun x20 =>
 letE vI (wI (x3.2.1 + (1 : Int))) fun x21 =>
 nextM (x18, x21, x20)) (
 letE vI (wI (x3.2.1 + (1 : Int))) fun x22 =>
 nextM (x3.1, x22, x3.2.2))))) (
 exitM <|
 retM (x3.2.2, x3.1))) (x1, (0 : Int), ([] : List GFound))

def hold_counted (a0 : GHold) : Option (GHold) :=
 callM vB (fun x1 => [.box [vB a0.On, vI a0.Since, vB a0.Hit, vI a0.Fired], .box [vB false, vI (0 : Int), vB false, vI (0 : Int)]]) (hold_Sane a0) fun x1 =>
 letE vB (!x1) fun x2 =>
 iteM x2 (
 retM (⟨false, (0 : Int), false, (0 : Int)⟩ : GHold)) (
 retM a0)

def hold_bounded (a0 : (List Int)) : Option ((List Int)) :=
 letE vI ((a0.length : Int)) fun x1 =>
 gdM (0 ≤ x1 ∧ x1 ≤ 9223372036854775807 ∧ x1.toNat * 8 ≤ 281474976710656) <|
 letO (fun x2 => .bsl 0 0 x2.length) (fun x2 => [.box (rowCells (x2.map cI))]) (List.replicate x1.toNat (0 : Int) : List Int) fun x2 =>
 letE vI ((a0.length : Int)) fun x3 =>
 loopM (fun (x4 : (List Int) × Int) => [(3, .bsl 0 0 x2.length), (9, sl cI a0), (10, vI x3), (11, vI x4.2)]) (fun (x4 : (List Int) × Int) => [.box (rowCells (x4.1.map cI))]) (fun (x4 : (List Int) × Int) =>
 letE vB (decide (x4.2 < x3)) fun x5 =>
 iteM x5 (
 idxM a0 x4.2 fun x6 =>
 letE vI (max x6 (0 : Int)) fun x7 =>
 letE vI (min x7 (9007199254740992 : Int)) fun x8 =>
 gdM (0 ≤ x4.2 ∧ x4.2 < (x2.length : Int)) <|
 gdM (x4.2.toNat < x4.1.length) <|
 letO (fun _ => .any) (fun x9 => [.box (rowCells (x9.map cI))]) (x4.1.set x4.2.toNat x8) fun x9 =>
 letE vI (wI (x4.2 + (1 : Int))) fun x10 =>
 nextM (x9, x10)) (
 exitM <|
 gdM (x2.length = x4.1.length) <|
 pubbM 2 <|
 retM x4.1)) (x2, (0 : Int))

def hold_Now (a0 : GHold) (a1 : Int) (a2 : Int) : Option (Int) :=
 callM (ag cGHold) (fun x1 => [.box [vB a0.On, vI a0.Since, vB a0.Hit, vI a0.Fired]]) (hold_counted a0) fun x1 =>
 letE (sx cI) ([a1, a2] : (List Int)) fun x2 =>
 callM (sl cI) (fun x3 => [.box [vB x1.On, vI x1.Since, vB x1.Hit, vI x1.Fired]]) (hold_bounded x2) fun x3 =>
 idxM x3 (0 : Int) fun x4 =>
 idxM x3 (1 : Int) fun x5 =>
 letE vB (decide ((0 : Int) < x5)) fun x6 =>
 iteM x6 (
 letE vB (decide (x1.Fired < x4)) fun x7 =>
 iteM x7 (
 letE vI (wI (x4 - x1.Fired)) fun x8 =>
 letE vB (decide (x8 < x5)) fun x9 =>
 iteM x1.Hit (
 letE vB (decide (x1.Fired = x4)) fun x10 =>
 letE vB (bif x10 then true else x9) fun x11 =>
 iteM x11 (
 retM (2 : Int)) (
 iteM x1.On (
 retM (1 : Int)) (
 retM (0 : Int)))) (
 iteM x1.On (
 retM (1 : Int)) (
 retM (0 : Int)))) (
 iteM x1.Hit (
 letE vB (decide (x1.Fired = x4)) fun x12 =>
 letE vB (bif x12 then true else false) fun x13 =>
 iteM x13 (
 retM (2 : Int)) (
 iteM x1.On (
 retM (1 : Int)) (
 retM (0 : Int)))) (
 iteM x1.On (
 retM (1 : Int)) (
 retM (0 : Int))))) (
 iteM x1.Hit (
 letE vB (decide (x1.Fired = x4)) fun x14 =>
 letE vB (bif x14 then true else false) fun x15 =>
 iteM x15 (
 retM (2 : Int)) (
 iteM x1.On (
 retM (1 : Int)) (
 retM (0 : Int)))) (
 iteM x1.On (
 retM (1 : Int)) (
 retM (0 : Int))))

def hold_Step (a0 : GHold) (a1 : Bool) (a2 : Int) (a3 : Int) (a4 : Int) : Option (GHold × Int) :=
 callM (ag cGHold) (fun x1 => [.box [vB a0.On, vI a0.Since, vB a0.Hit, vI a0.Fired], .box [vB false, vI (0 : Int), vB false, vI (0 : Int)]]) (hold_counted a0) fun x1 =>
 letE (sx cI) ([a2, a3, a4] : (List Int)) fun x2 =>
 callM (sl cI) (fun x3 => [.box [vB x1.On, vI x1.Since, vB x1.Hit, vI x1.Fired], .box [vB false, vI (0 : Int), vB false, vI (0 : Int)]]) (hold_bounded x2) fun x3 =>
 idxM x3 (0 : Int) fun x4 =>
 idxM x3 (1 : Int) fun x5 =>
 idxM x3 (2 : Int) fun x6 =>
 letE vB (!a1) fun x7 =>
 iteM x7 (
 tailM 5 <|
 callM vI (fun x8 => [.box [vB false, vI (0 : Int), vB x1.Hit, vI x1.Fired], .box [vB false, vI (0 : Int), vB false, vI (0 : Int)]]) (hold_Now (⟨false, (0 : Int), x1.Hit, x1.Fired⟩ : GHold) x4 x6) fun x8 =>
 retM ((⟨false, (0 : Int), x1.Hit, x1.Fired⟩ : GHold), x8)) (
 letE vB (!x1.On) fun x9 =>
 iteM x9 (
 letE vI (wI (x4 - x4)) fun x10 =>
 letE vB (decide (x5 ≤ x10)) fun x11 =>
 iteM x11 (
 tailM 5 <|
 callM vI (fun x12 => [.box [vB true, vI x4, vB true, vI x4], .box [vB false, vI (0 : Int), vB false, vI (0 : Int)]]) (hold_Now (⟨true, x4, true, x4⟩ : GHold) x4 x6) fun x12 =>
 retM ((⟨true, x4, true, x4⟩ : GHold), x12)) (
 tailM 5 <|
 callM vI (fun x13 => [.box [vB true, vI x4, vB x1.Hit, vI x1.Fired], .box [vB false, vI (0 : Int), vB false, vI (0 : Int)]]) (hold_Now (⟨true, x4, x1.Hit, x1.Fired⟩ : GHold) x4 x6) fun x13 =>
 retM ((⟨true, x4, x1.Hit, x1.Fired⟩ : GHold), x13))) (
 letE vB (decide (x4 < x1.Since)) fun x14 =>
 iteM x14 (
 letE vI (wI (x4 - x4)) fun x15 =>
 letE vB (decide (x5 ≤ x15)) fun x16 =>
 iteM x16 (
 tailM 5 <|
 callM vI (fun x17 => [.box [vB true, vI x4, vB true, vI x4], .box [vB false, vI (0 : Int), vB false, vI (0 : Int)]]) (hold_Now (⟨true, x4, true, x4⟩ : GHold) x4 x6) fun x17 =>
 retM ((⟨true, x4, true, x4⟩ : GHold), x17)) (
 tailM 5 <|
 callM vI (fun x18 => [.box [vB true, vI x4, vB x1.Hit, vI x1.Fired], .box [vB false, vI (0 : Int), vB false, vI (0 : Int)]]) (hold_Now (⟨true, x4, x1.Hit, x1.Fired⟩ : GHold) x4 x6) fun x18 =>
 retM ((⟨true, x4, x1.Hit, x1.Fired⟩ : GHold), x18))) (
 letE vI (wI (x4 - x1.Since)) fun x19 =>
 letE vB (decide (x5 ≤ x19)) fun x20 =>
 iteM x20 (
 tailM 5 <|
 callM vI (fun x21 => [.box [vB true, vI x1.Since, vB true, vI x4], .box [vB false, vI (0 : Int), vB false, vI (0 : Int)]]) (hold_Now (⟨true, x1.Since, true, x4⟩ : GHold) x4 x6) fun x21 =>
 retM ((⟨true, x1.Since, true, x4⟩ : GHold), x21)) (
 tailM 5 <|
 callM vI (fun x22 => [.box [vB true, vI x1.Since, vB x1.Hit, vI x1.Fired], .box [vB false, vI (0 : Int), vB false, vI (0 : Int)]]) (hold_Now (⟨true, x1.Since, x1.Hit, x1.Fired⟩ : GHold) x4 x6) fun x22 =>
 retM ((⟨true, x1.Since, x1.Hit, x1.Fired⟩ : GHold), x22)))))

def hold_Gone (a0 : GHold) (a1 : Int) (a2 : Int) : Option (Bool) :=
 callM (ag cGHold) (fun x1 => [.box [vB a0.On, vI a0.Since, vB a0.Hit, vI a0.Fired]]) (hold_counted a0) fun x1 =>
 letE (sx cI) ([a1, a2] : (List Int)) fun x2 =>
 callM (sl cI) (fun x3 => [.box [vB x1.On, vI x1.Since, vB x1.Hit, vI x1.Fired]]) (hold_bounded x2) fun x3 =>
 idxM x3 (0 : Int) fun x4 =>
 idxM x3 (1 : Int) fun x5 =>
 callM vI (fun x6 => [.box [vB x1.On, vI x1.Since, vB x1.Hit, vI x1.Fired]]) (hold_Now x1 x4 x5) fun x6 =>
 letE vB (!decide (x6 = (0 : Int))) fun x7 =>
 iteM x7 (
 retM false) (
 iteM x1.On (
 retM false) (
 letE vB (!x1.Hit) fun x8 =>
 iteM x8 (
 retM true) (
 letE vB (decide (x1.Fired < x4)) fun x9 =>
 iteM x9 (
 letE vI (wI (x4 - x1.Fired)) fun x10 =>
 letE vB (decide (x5 ≤ x10)) fun x11 =>
 letE vB (bif true then x11 else false) fun x12 =>
 retM x12) (
 letE vB (bif false then false else false) fun x13 =>
 retM x13))))

def table_sorted_1 (a0 : GAlert) (a1 : GAlert) : Option (Int) :=
 callM vI (fun x1 => [.box [sl cGPair a0.L, vB a0.H.On, vI a0.H.Since, vB a0.H.Hit, vI a0.H.Fired, vI a0.State, vI a0.V], .box [sl cGPair a1.L, vB a1.H.On, vI a1.H.Since, vB a1.H.Hit, vI a1.H.Fired, vI a1.State, vI a1.V]]) (label_Compare a0.L a1.L) fun x1 =>
 retM x1

def table_sorted_o (a0 : (List (Str × GAlert))) : Option ((List GAlert)) :=
 tokM 3 7 72 <|
 rangeM (fun (x1 : (List GAlert)) => [(3, so 2 cGAlert x1), (7, .ptr 1 0)]) (fun zb zc zs (x1 : (List GAlert)) => [.mapB zb zc (mp kS (ag cGAlert) a0), .iter 0 zc zs, tk x1.length 7 72]) a0 (fun zb zc zs (x1 : (List GAlert)) =>
 (fun zi x2 =>
 letE (sx cGAlert) ([x2.2] : (List GAlert)) fun x3 =>
 gdM ((x1.length + x3.length) * 72 ≤ 140737488355328) <|
 letO (so 2 cGAlert) (fun x4 => [.mapB zb zc (mp kS (ag cGAlert) a0), .iter 0 zc (zs ++ [zi]), tk x4.length 7 72, .box [sl cGPair x2.2.L, vB x2.2.H.On, vI x2.2.H.Since, vB x2.2.H.Hit, vI x2.2.H.Fired, vI x2.2.State, vI x2.2.V]]) (x1 ++ x3) fun x4 =>
 nextM x4,
 exitM <|
 forgM 6 [(3, so 2 cGAlert x1)] [.map (mp kS (ag cGAlert) a0), .dead, tk x1.length 7 72] <|
 unboxM 3 <|
 sortM table_sorted_1 x1 fun x5 =>
 pubbM 3 <|
 retM x5)) ([] : List GAlert)

def table_Step (a0 : GTable) (a1 : (List GFound)) (a2 : Int) (a3 : Int) (a4 : Int) : Option (GTable) :=
 callM (ag cGTable) (fun x1 => [.box [sl cGAlert a0.A, vI a0.Full], .box [.v (.slice none 0 0), vI (0 : Int)]]) (table_counted a0) fun x1 =>
 callM (fun x2 => .tup [(sl cGFound) x2.1, .map 2]) (fun x2 => [.box [sl cGAlert x1.A, vI x1.Full], .box [.v (.slice none 0 0), vI (0 : Int)], .map (mp kS (ag cGFound) x2.2)]) (table_distinct a1) fun x2 =>
 letO (fun _ => .map 3) (fun x3 => [.box [sl cGAlert x1.A, vI x1.Full], .box [.v (.slice none 0 0), vI (0 : Int)], .map (mp kS (ag cGFound) x2.2), .map (mp kS (ag cGAlert) x3)]) ([] : (List (Str × GAlert))) fun x3 =>
 letE vI ((x1.A.length : Int)) fun x4 =>
 loopM (fun (x5 : (List (Str × GAlert)) × Int) => [(1, sl cGFound x2.1), (2, vI a2), (3, vI a3), (4, vI a4), (5, .ptr 0 0), (10, .ptr 1 0), (11, .map 2), (12, .map 3), (34, sl cGAlert x1.A), (35, vI x4), (36, vI x5.2)]) (fun (x5 : (List (Str × GAlert)) × Int) => [.box [sl cGAlert x1.A, vI x1.Full], .box [.v (.slice none 0 0), vI (0 : Int)], .map (mp kS (ag cGFound) x2.2), .map (mp kS (ag cGAlert) x5.1)]) (fun (x5 : (List (Str × GAlert)) × Int) =>
 letE vB (decide (x5.2 < x4)) fun x6 =>
 iteM x6 (
 idxM x1.A x5.2 fun x7 =>
 callM vS (fun x8 => [.box [sl cGAlert x1.A, vI x1.Full], .box [.v (.slice none 0 0), vI (0 : Int)], .map (mp kS (ag cGFound) x2.2), .map (mp kS (ag cGAlert) x5.1), .box [sl cGPair x7.L, vB x7.H.On, vI x7.H.Since, vB x7.H.Hit, vI x7.H.Fired, vI x7.State, vI x7.V]]) (table_key x7.L) fun x8 =>
 lookM x2.2 x8 (fun x9 =>
 callM (fun x10 => .tup [(ag cGHold) x10.1, vI x10.2]) (fun x10 => [.box [sl cGAlert x1.A, vI x1.Full], .box [.v (.slice none 0 0), vI (0 : Int)], .map (mp kS (ag cGFound) x2.2), .map (mp kS (ag cGAlert) x5.1), .box [sl cGPair x7.L, vB x7.H.On, vI x7.H.Since, vB x7.H.Hit, vI x7.H.Fired, vI x7.State, vI x7.V], .box [sl cGPair x9.L, vI x9.X.T, vI x9.X.V]]) (hold_Step x7.H true a2 a3 a4) fun x10 =>
 letO (fun _ => .any) (fun x11 => [.box [sl cGAlert x1.A, vI x1.Full], .box [.v (.slice none 0 0), vI (0 : Int)], .map (mp kS (ag cGFound) x2.2), .map (mp kS (ag cGAlert) x11), .box [sl cGPair x7.L, vB x10.1.On, vI x10.1.Since, vB x10.1.Hit, vI x10.1.Fired, vI x10.2, vI x9.X.V], .box [sl cGPair x9.L, vI x9.X.T, vI x9.X.V]]) (mst x5.1 x8 (⟨x7.L, x10.1, x10.2, x9.X.V⟩ : GAlert)) fun x11 =>
 callM vB (fun x12 => [.box [sl cGAlert x1.A, vI x1.Full], .box [.v (.slice none 0 0), vI (0 : Int)], .map (mp kS (ag cGFound) x2.2), .map (mp kS (ag cGAlert) x11), .box [sl cGPair x7.L, vB x10.1.On, vI x10.1.Since, vB x10.1.Hit, vI x10.1.Fired, vI x10.2, vI x9.X.V], .box [sl cGPair x9.L, vI x9.X.T, vI x9.X.V]]) (hold_Gone x10.1 a2 a4) fun x12 =>
 iteM x12 (
 letO (fun _ => .any) (fun x13 => [.box [sl cGAlert x1.A, vI x1.Full], .box [.v (.slice none 0 0), vI (0 : Int)], .map (mp kS (ag cGFound) x2.2), .map (mp kS (ag cGAlert) x13), .box [sl cGPair x7.L, vB x10.1.On, vI x10.1.Since, vB x10.1.Hit, vI x10.1.Fired, vI x10.2, vI x9.X.V], .box [sl cGPair x9.L, vI x9.X.T, vI x9.X.V]]) (mdl x11 x8) fun x13 =>
 letE vI (wI (x5.2 + (1 : Int))) fun x14 =>
 nextM (x13, x14)) (
 letE vI (wI (x5.2 + (1 : Int))) fun x15 =>
 nextM (x11, x15))) (
 callM (fun x16 => .tup [(ag cGHold) x16.1, vI x16.2]) (fun x16 => [.box [sl cGAlert x1.A, vI x1.Full], .box [.v (.slice none 0 0), vI (0 : Int)], .map (mp kS (ag cGFound) x2.2), .map (mp kS (ag cGAlert) x5.1), .box [sl cGPair x7.L, vB x7.H.On, vI x7.H.Since, vB x7.H.Hit, vI x7.H.Fired, vI x7.State, vI x7.V], .box [.v (.slice none 0 0), vI (0 : Int), vI (0 : Int)]]) (hold_Step x7.H false a2 a3 a4) fun x16 =>
 letO (fun _ => .any) (fun x17 => [.box [sl cGAlert x1.A, vI x1.Full], .box [.v (.slice none 0 0), vI (0 : Int)], .map (mp kS (ag cGFound) x2.2), .map (mp kS (ag cGAlert) x17), .box [sl cGPair x7.L, vB x16.1.On, vI x16.1.Since, vB x16.1.Hit, vI x16.1.Fired, vI x16.2, vI x7.V], .box [.v (.slice none 0 0), vI (0 : Int), vI (0 : Int)]]) (mst x5.1 x8 (⟨x7.L, x16.1, x16.2, x7.V⟩ : GAlert)) fun x17 =>
 callM vB (fun x18 => [.box [sl cGAlert x1.A, vI x1.Full], .box [.v (.slice none 0 0), vI (0 : Int)], .map (mp kS (ag cGFound) x2.2), .map (mp kS (ag cGAlert) x17), .box [sl cGPair x7.L, vB x16.1.On, vI x16.1.Since, vB x16.1.Hit, vI x16.1.Fired, vI x16.2, vI x7.V], .box [.v (.slice none 0 0), vI (0 : Int), vI (0 : Int)]]) (hold_Gone x16.1 a2 a4) fun x18 =>
 iteM x18 (
 letO (fun _ => .any) (fun x19 => [.box [sl cGAlert x1.A, vI x1.Full], .box [.v (.slice none 0 0), vI (0 : Int)], .map (mp kS (ag cGFound) x2.2), .map (mp kS (ag cGAlert) x19), .box [sl cGPair x7.L, vB x16.1.On, vI x16.1.Since, vB x16.1.Hit, vI x16.1.Fired, vI x16.2, vI x7.V], .box [.v (.slice none 0 0), vI (0 : Int), vI (0 : Int)]]) (mdl x17 x8) fun x19 =>
 letE vI (wI (x5.2 + (1 : Int))) fun x20 =>
 nextM (x19, x20)) (
 letE vI (wI (x5.2 + (1 : Int))) fun x21 =>
 nextM (x17, x21)))) (
 exitM <|
 letE vI ((x2.1.length : Int)) fun x22 =>
 loopM (fun (x23 : Int × (List (Str × GAlert)) × Int) => [(2, vI a2), (3, vI a3), (4, vI a4), (5, .ptr 0 0), (10, .ptr 1 0), (12, .map 3), (77, sl cGFound x2.1), (78, vI x22), (79, vI x23.2.2)]) (fun (x23 : Int × (List (Str × GAlert)) × Int) => [.box [sl cGAlert x1.A, vI x23.1], .box [.v (.slice none 0 0), vI (0 : Int)], .dead, .map (mp kS (ag cGAlert) x23.2.1)]) (fun (x23 : Int × (List (Str × GAlert)) × Int) =>
 letE vB (decide (x23.2.2 < x22)) fun x24 =>
 iteM x24 (
 idxM x2.1 x23.2.2 fun x25 =>
 callM vS (fun x26 => [.box [sl cGAlert x1.A, vI x23.1], .box [.v (.slice none 0 0), vI (0 : Int)], .dead, .map (mp kS (ag cGAlert) x23.2.1), .box [sl cGPair x25.L, vI x25.X.T, vI x25.X.V]]) (table_key x25.L) fun x26 =>
 lookM x23.2.1 x26 (fun x27 =>
 letE vI (wI (x23.2.2 + (1 : Int))) fun x28 =>
 nextM (x23.1, x23.2.1, x28)) (
 letE vI ((x23.2.1.length : Int)) fun x29 =>
 letE vB (decide ((16 : Int) ≤ x29)) fun x30 =>
 iteM x30 (
 letE vI (wI (x23.1 + (1 : Int))) fun x31 =>
 letE vI (min x31 (9007199254740992 : Int)) fun x32 =>
 letE vI (wI (x23.2.2 + (1 : Int))) fun x33 =>
 nextM (x32, x23.2.1, x33)) (
 callM (fun x34 => .tup [(ag cGHold) x34.1, vI x34.2]) (fun x34 => [.box [sl cGAlert x1.A, vI x23.1], .box [.v (.slice none 0 0), vI (0 : Int)], .dead, .map (mp kS (ag cGAlert) x23.2.1), .box [sl cGPair x25.L, vI x25.X.T, vI x25.X.V], .box [.v (.slice none 0 0), vB false, vI (0 : Int), vB false, vI (0 : Int), vI (0 : Int), vI (0 : Int)]]) (hold_Step (⟨false, (0 : Int), false, (0 : Int)⟩ : GHold) true a2 a3 a4) fun x34 =>
 letO (fun _ => .any) (fun x35 => [.box [sl cGAlert x1.A, vI x23.1], .box [.v (.slice none 0 0), vI (0 : Int)], .dead, .map (mp kS (ag cGAlert) x35), .box [sl cGPair x25.L, vI x25.X.T, vI x25.X.V], .box [.v (.slice none 0 0), vB false, vI (0 : Int), vB false, vI (0 : Int), vI (0 : Int), vI (0 : Int)], .box [vB x34.1.On, vI x34.1.Since, vB x34.1.Hit, vI x34.1.Fired]]) (mst x23.2.1 x26 (⟨x25.L, x34.1, x34.2, x25.X.V⟩ : GAlert)) fun x35 =>
 letE vI (wI (x23.2.2 + (1 : Int))) fun x36 =>
 nextM (x23.1, x35, x36)))) (
 exitM <|
 tailM 5 <|
 callO [3] [.box [sl cGAlert x1.A, vI x23.1], .box [.v (.slice none 0 0), vI (0 : Int)], .dead, .map (mp kS (ag cGAlert) x23.2.1)] (fun x37 => (sl cGAlert) x37) (fun x37 => [.box [sl cGAlert x1.A, vI x23.1], .box [.v (.slice none 0 0), vI (0 : Int)], .dead, .map (mp kS (ag cGAlert) x23.2.1)]) (table_sorted_o x23.2.1) fun x37 =>
 retM (⟨x37, x23.1⟩ : GTable))) (x1.Full, x5.1, (0 : Int)))) (x3, (0 : Int))

def notify_Sane (a0 : (List GTold)) : Option (Bool) :=
 letE vI ((a0.length : Int)) fun x1 =>
 letE vB (decide ((64 : Int) < x1)) fun x2 =>
 iteM x2 (
 retM false) (
 letE vI ((a0.length : Int)) fun x3 =>
 loopM (fun (x4 : Int) => [(0, sl cGTold a0), (8, sl cGTold a0), (9, vI x3), (10, vI x4)]) (fun (x4 : Int) => []) (fun (x4 : Int) =>
 letE vB (decide (x4 < x3)) fun x5 =>
 iteM x5 (
 idxM a0 x4 fun x6 =>
 callM vB (fun x7 => [.box [sl cGPair x6.L, vI x6.T]]) (label_Sane x6.L) fun x7 =>
 letE vB (!x7) fun x8 =>
 iteM x8 (
 exitM <|
 retM false) (
 letE vB (decide (x6.T < (0 : Int))) fun x9 =>
 iteM x9 (
 exitM <|
 retM false) (
 letE vB (decide ((9007199254740992 : Int) < x6.T)) fun x10 =>
 iteM x10 (
 exitM <|
 retM false) (
 drawM <|
 letE vB (decide ((0 : Int) < x4)) fun x11 =>
 letE vI (wI (x4 - (1 : Int))) fun x12 =>
 iteM x11 (
 idxM a0 x12 fun x13 =>
 callM vI (fun x14 => [.box [sl cGPair x6.L, vI x6.T]]) (label_Compare x13.L x6.L) fun x14 =>
 letE vB (decide ((0 : Int) ≤ x14)) fun x15 =>
 iteM x15 (
 exitM <|
 retM false) (
 letE vI (wI (x4 + (1 : Int))) fun x16 =>
 nextM x16)) (
 letE vI (wI (x4 + (1 : Int))) fun x17 =>
 nextM x17))))) (
 exitM <|
 retM true)) (0 : Int))

def queue_time (a0 : Int) : Option (Bool) :=
 letE vB (decide ((0 : Int) ≤ a0)) fun x1 =>
 letE vB (decide (a0 ≤ (9007199254740992 : Int))) fun x2 =>
 letE vB (bif x1 then x2 else false) fun x3 =>
 retM x3

def queue_Sane (a0 : GQueue) : Option (Bool) :=
 letE vI ((a0.N.length : Int)) fun x1 =>
 letE vB (decide ((16 : Int) < x1)) fun x2 =>
 iteM x2 (
 retM false) (
 callM vB (fun x3 => [.box [sl cGNote a0.N, vI a0.Drops, vI a0.Lost]]) (queue_time a0.Drops) fun x3 =>
 letE vB (!x3) fun x4 =>
 iteM x4 (
 retM false) (
 callM vB (fun x5 => [.box [sl cGNote a0.N, vI a0.Drops, vI a0.Lost]]) (queue_time a0.Lost) fun x5 =>
 letE vB (!x5) fun x6 =>
 iteM x6 (
 retM false) (
 letE vI ((a0.N.length : Int)) fun x7 =>
 loopM (fun (x8 : Int) => [(22, sl cGNote a0.N), (23, vI x7), (24, vI x8)]) (fun (x8 : Int) => []) (fun (x8 : Int) =>
 letE vB (decide (x8 < x7)) fun x9 =>
 iteM x9 (
 idxM a0.N x8 fun x10 =>
 callM vB (fun x11 => [.box [sl cGPair x10.L, vB x10.Fires, vI x10.T, vI x10.Tries, vI x10.Next]]) (label_Sane x10.L) fun x11 =>
 letE vB (!x11) fun x12 =>
 iteM x12 (
 exitM <|
 retM false) (
 callM vB (fun x13 => [.box [sl cGPair x10.L, vB x10.Fires, vI x10.T, vI x10.Tries, vI x10.Next]]) (queue_time x10.T) fun x13 =>
 letE vB (!x13) fun x14 =>
 iteM x14 (
 exitM <|
 retM false) (
 callM vB (fun x15 => [.box [sl cGPair x10.L, vB x10.Fires, vI x10.T, vI x10.Tries, vI x10.Next]]) (queue_time x10.Next) fun x15 =>
 letE vB (!x15) fun x16 =>
 iteM x16 (
 exitM <|
 retM false) (
 letE vB (decide (x10.Tries < (0 : Int))) fun x17 =>
 iteM x17 (
 exitM <|
 retM false) (
 letE vB (decide ((8 : Int) ≤ x10.Tries)) fun x18 =>
 iteM x18 (
 exitM <|
 retM false) (
 letE vI (wI (x8 + (1 : Int))) fun x19 =>
 nextM x19)))))) (
 exitM <|
 retM true)) (0 : Int))))

def table_Active (a0 : GTable) : Option ((List GAlert)) :=
 callM (ag cGTable) (fun x1 => [.box [sl cGAlert a0.A, vI a0.Full]]) (table_counted a0) fun x1 =>
 letE vI ((x1.A.length : Int)) fun x2 =>
 tokM 3 7 72 <|
 loopM (fun (x3 : Int × (List GAlert)) => [(3, so 1 cGAlert x3.2), (8, sl cGAlert x1.A), (9, vI x2), (10, vI x3.1)]) (fun (x3 : Int × (List GAlert)) => [.dead, tk x3.2.length 7 72]) (fun (x3 : Int × (List GAlert)) =>
 letE vB (decide (x3.1 < x2)) fun x4 =>
 iteM x4 (
 idxM x1.A x3.1 fun x5 =>
 letE vB (!decide (x5.State = (0 : Int))) fun x6 =>
 iteM x6 (
 letE (sx cGAlert) ([x5] : (List GAlert)) fun x7 =>
 gdM ((x3.2.length + x7.length) * 72 ≤ 140737488355328) <|
 letO (so 1 cGAlert) (fun x8 => [.dead, tk x8.length 7 72, .box [sl cGPair x5.L, vB x5.H.On, vI x5.H.Since, vB x5.H.Hit, vI x5.H.Fired, vI x5.State, vI x5.V]]) (x3.2 ++ x7) fun x8 =>
 letE vI (wI (x3.1 + (1 : Int))) fun x9 =>
 nextM (x9, x8)) (
 letE vI (wI (x3.1 + (1 : Int))) fun x10 =>
 nextM (x10, x3.2))) (
 exitM <|
 retM x3.2)) ((0 : Int), ([] : List GAlert))

def notify_keyOf (a0 : (List GPair)) : Option (LA16_cGPair) :=
 letO (fun _ => vI ((min a0.length 16 : Nat) : Int)) (fun x1 => [.box [vS ([] : Str), vS ([] : Str), vS ([] : Str), vS ([] : Str), vS ([] : Str), vS ([] : Str), vS ([] : Str), vS ([] : Str), vS ([] : Str), vS ([] : Str), vS ([] : Str), vS ([] : Str), vS ([] : Str), vS ([] : Str), vS ([] : Str), vS ([] : Str), vS ([] : Str), vS ([] : Str), vS ([] : Str), vS ([] : Str), vS ([] : Str), vS ([] : Str), vS ([] : Str), vS ([] : Str), vS ([] : Str), vS ([] : Str), vS ([] : Str), vS ([] : Str), vS ([] : Str), vS ([] : Str), vS ([] : Str), vS ([] : Str)], .box [vS x1.1.Name, vS x1.1.Value, vS x1.2.1.Name, vS x1.2.1.Value, vS x1.2.2.1.Name, vS x1.2.2.1.Value, vS x1.2.2.2.1.Name, vS x1.2.2.2.1.Value, vS x1.2.2.2.2.1.Name, vS x1.2.2.2.2.1.Value, vS x1.2.2.2.2.2.1.Name, vS x1.2.2.2.2.2.1.Value, vS x1.2.2.2.2.2.2.1.Name, vS x1.2.2.2.2.2.2.1.Value, vS x1.2.2.2.2.2.2.2.1.Name, vS x1.2.2.2.2.2.2.2.1.Value, vS x1.2.2.2.2.2.2.2.2.1.Name, vS x1.2.2.2.2.2.2.2.2.1.Value, vS x1.2.2.2.2.2.2.2.2.2.1.Name, vS x1.2.2.2.2.2.2.2.2.2.1.Value, vS x1.2.2.2.2.2.2.2.2.2.2.1.Name, vS x1.2.2.2.2.2.2.2.2.2.2.1.Value, vS x1.2.2.2.2.2.2.2.2.2.2.2.1.Name, vS x1.2.2.2.2.2.2.2.2.2.2.2.1.Value, vS x1.2.2.2.2.2.2.2.2.2.2.2.2.1.Name, vS x1.2.2.2.2.2.2.2.2.2.2.2.2.1.Value, vS x1.2.2.2.2.2.2.2.2.2.2.2.2.2.1.Name, vS x1.2.2.2.2.2.2.2.2.2.2.2.2.2.1.Value, vS x1.2.2.2.2.2.2.2.2.2.2.2.2.2.2.1.Name, vS x1.2.2.2.2.2.2.2.2.2.2.2.2.2.2.1.Value, vS x1.2.2.2.2.2.2.2.2.2.2.2.2.2.2.2.Name, vS x1.2.2.2.2.2.2.2.2.2.2.2.2.2.2.2.Value]]) (arA16_cGPair (copyL ([(⟨([] : Str), ([] : Str)⟩ : GPair), (⟨([] : Str), ([] : Str)⟩ : GPair), (⟨([] : Str), ([] : Str)⟩ : GPair), (⟨([] : Str), ([] : Str)⟩ : GPair), (⟨([] : Str), ([] : Str)⟩ : GPair), (⟨([] : Str), ([] : Str)⟩ : GPair), (⟨([] : Str), ([] : Str)⟩ : GPair), (⟨([] : Str), ([] : Str)⟩ : GPair), (⟨([] : Str), ([] : Str)⟩ : GPair), (⟨([] : Str), ([] : Str)⟩ : GPair), (⟨([] : Str), ([] : Str)⟩ : GPair), (⟨([] : Str), ([] : Str)⟩ : GPair), (⟨([] : Str), ([] : Str)⟩ : GPair), (⟨([] : Str), ([] : Str)⟩ : GPair), (⟨([] : Str), ([] : Str)⟩ : GPair), (⟨([] : Str), ([] : Str)⟩ : GPair)] : List GPair) a0)) fun x1 =>
 retM x1

def notify_Firing (a0 : (List GTable)) : Option ((List (List GPair))) :=
 letO (fun _ => .map 0) (fun x1 => [.map (mp (kC cA16_cGPair) vB x1)]) ([] : (List (LA16_cGPair × Bool))) fun x1 =>
 letE vI ((a0.length : Int)) fun x2 =>
 tokM 3 1 31 <|
 loopM (fun (x3 : (List (LA16_cGPair × Bool)) × Int × (List (List GPair))) => [(3, so 1 (cL cGPair) x3.2.2), (4, .map 0), (11, sl cGTable a0), (12, vI x2), (13, vI x3.2.1)]) (fun (x3 : (List (LA16_cGPair × Bool)) × Int × (List (List GPair))) => [.map (mp (kC cA16_cGPair) vB x3.1), tk x3.2.2.length 1 31]) (fun (x3 : (List (LA16_cGPair × Bool)) × Int × (List (List GPair))) =>
 letE vB (decide (x3.2.1 < x2)) fun x4 =>
 iteM x4 (
 idxM a0 x3.2.1 fun x5 =>
 callM (so 4 cGAlert) (fun x6 => [.map (mp (kC cA16_cGPair) vB x3.1), tk x3.2.2.length 1 31, .box [sl cGAlert x5.A, vI x5.Full], .dead, tk x6.length 7 72]) (table_Active x5) fun x6 =>
 letE vI ((x6.length : Int)) fun x7 =>
 loopM (fun (x8 : (List (LA16_cGPair × Bool)) × Int × (List (List GPair))) => [(3, so 1 (cL cGPair) x8.2.2), (4, .map 0), (11, sl cGTable a0), (12, vI x2), (13, vI x3.2.1), (18, so 4 cGAlert x6), (19, vI x7), (20, vI x8.2.1)]) (fun (x8 : (List (LA16_cGPair × Bool)) × Int × (List (List GPair))) => [.map (mp (kC cA16_cGPair) vB x8.1), tk x8.2.2.length 1 31, .dead, .dead, tk x6.length 7 72]) (fun (x8 : (List (LA16_cGPair × Bool)) × Int × (List (List GPair))) =>
 letE vB (decide (x8.2.1 < x7)) fun x9 =>
 iteM x9 (
 idxM x6 x8.2.1 fun x10 =>
 callM (ag cA16_cGPair) (fun x11 => [.map (mp (kC cA16_cGPair) vB x8.1), tk x8.2.2.length 1 31, .dead, .dead, tk x6.length 7 72, .box [sl cGPair x10.L, vB x10.H.On, vI x10.H.Since, vB x10.H.Hit, vI x10.H.Fired, vI x10.State, vI x10.V]]) (notify_keyOf x10.L) fun x11 =>
 letE vB (decide (x10.State = (2 : Int))) fun x12 =>
 iteM x12 (
 letE vB ((mlk x8.1 x11).getD false) fun x13 =>
 letE vB (!x13) fun x14 =>
 iteM x14 (
 letO (fun _ => .any) (fun x15 => [.map (mp (kC cA16_cGPair) vB x15), tk x8.2.2.length 1 31, .dead, .dead, tk x6.length 7 72, .box [sl cGPair x10.L, vB x10.H.On, vI x10.H.Since, vB x10.H.Hit, vI x10.H.Fired, vI x10.State, vI x10.V], .box [vS x11.1.Name, vS x11.1.Value, vS x11.2.1.Name, vS x11.2.1.Value, vS x11.2.2.1.Name, vS x11.2.2.1.Value, vS x11.2.2.2.1.Name, vS x11.2.2.2.1.Value, vS x11.2.2.2.2.1.Name, vS x11.2.2.2.2.1.Value, vS x11.2.2.2.2.2.1.Name, vS x11.2.2.2.2.2.1.Value, vS x11.2.2.2.2.2.2.1.Name, vS x11.2.2.2.2.2.2.1.Value, vS x11.2.2.2.2.2.2.2.1.Name, vS x11.2.2.2.2.2.2.2.1.Value, vS x11.2.2.2.2.2.2.2.2.1.Name, vS x11.2.2.2.2.2.2.2.2.1.Value, vS x11.2.2.2.2.2.2.2.2.2.1.Name, vS x11.2.2.2.2.2.2.2.2.2.1.Value, vS x11.2.2.2.2.2.2.2.2.2.2.1.Name, vS x11.2.2.2.2.2.2.2.2.2.2.1.Value, vS x11.2.2.2.2.2.2.2.2.2.2.2.1.Name, vS x11.2.2.2.2.2.2.2.2.2.2.2.1.Value, vS x11.2.2.2.2.2.2.2.2.2.2.2.2.1.Name, vS x11.2.2.2.2.2.2.2.2.2.2.2.2.1.Value, vS x11.2.2.2.2.2.2.2.2.2.2.2.2.2.1.Name, vS x11.2.2.2.2.2.2.2.2.2.2.2.2.2.1.Value, vS x11.2.2.2.2.2.2.2.2.2.2.2.2.2.2.1.Name, vS x11.2.2.2.2.2.2.2.2.2.2.2.2.2.2.1.Value, vS x11.2.2.2.2.2.2.2.2.2.2.2.2.2.2.2.Name, vS x11.2.2.2.2.2.2.2.2.2.2.2.2.2.2.2.Value]]) (mst x8.1 x11 true) fun x15 =>
 letE (sx (cL cGPair)) ([x10.L] : (List (List GPair))) fun x16 =>
 gdM ((x8.2.2.length + x16.length) * 24 ≤ 140737488355328) <|
 letO (so 1 (cL cGPair)) (fun x17 => [.map (mp (kC cA16_cGPair) vB x15), tk x17.length 1 31, .dead, .dead, tk x6.length 7 72, .box [sl cGPair x10.L, vB x10.H.On, vI x10.H.Since, vB x10.H.Hit, vI x10.H.Fired, vI x10.State, vI x10.V], .box [vS x11.1.Name, vS x11.1.Value, vS x11.2.1.Name, vS x11.2.1.Value, vS x11.2.2.1.Name, vS x11.2.2.1.Value, vS x11.2.2.2.1.Name, vS x11.2.2.2.1.Value, vS x11.2.2.2.2.1.Name, vS x11.2.2.2.2.1.Value, vS x11.2.2.2.2.2.1.Name, vS x11.2.2.2.2.2.1.Value, vS x11.2.2.2.2.2.2.1.Name, vS x11.2.2.2.2.2.2.1.Value, vS x11.2.2.2.2.2.2.2.1.Name, vS x11.2.2.2.2.2.2.2.1.Value, vS x11.2.2.2.2.2.2.2.2.1.Name, vS x11.2.2.2.2.2.2.2.2.1.Value, vS x11.2.2.2.2.2.2.2.2.2.1.Name, vS x11.2.2.2.2.2.2.2.2.2.1.Value, vS x11.2.2.2.2.2.2.2.2.2.2.1.Name, vS x11.2.2.2.2.2.2.2.2.2.2.1.Value, vS x11.2.2.2.2.2.2.2.2.2.2.2.1.Name, vS x11.2.2.2.2.2.2.2.2.2.2.2.1.Value, vS x11.2.2.2.2.2.2.2.2.2.2.2.2.1.Name, vS x11.2.2.2.2.2.2.2.2.2.2.2.2.1.Value, vS x11.2.2.2.2.2.2.2.2.2.2.2.2.2.1.Name, vS x11.2.2.2.2.2.2.2.2.2.2.2.2.2.1.Value, vS x11.2.2.2.2.2.2.2.2.2.2.2.2.2.2.1.Name, vS x11.2.2.2.2.2.2.2.2.2.2.2.2.2.2.1.Value, vS x11.2.2.2.2.2.2.2.2.2.2.2.2.2.2.2.Name, vS x11.2.2.2.2.2.2.2.2.2.2.2.2.2.2.2.Value]]) (x8.2.2 ++ x16) fun x17 =>
 letE vI (wI (x8.2.1 + (1 : Int))) fun x18 =>
 nextM (x15, x18, x17)) (
 letE vI (wI (x8.2.1 + (1 : Int))) fun x19 =>
 nextM (x8.1, x19, x8.2.2))) (
 letE vI (wI (x8.2.1 + (1 : Int))) fun x20 =>
 nextM (x8.1, x20, x8.2.2))) (
 exitM <|
 letE vI (wI (x3.2.1 + (1 : Int))) fun x21 =>
 nextM (x8.1, x21, x8.2.2))) (x3.1, (0 : Int), x3.2.2)) (
 exitM <|
 unboxM 3 <|
 sortM label_Compare x3.2.2 fun x22 =>
 pubbM 3 <|
 retM x22)) (x1, (0 : Int), ([] : List (List GPair)))

def queue_counted (a0 : GQueue) : Option (GQueue) :=
 callM vB (fun x1 => [.box [sl cGNote a0.N, vI a0.Drops, vI a0.Lost], .box [.v (.slice none 0 0), vI (0 : Int), vI (0 : Int)]]) (queue_Sane a0) fun x1 =>
 letE vB (!x1) fun x2 =>
 iteM x2 (
 retM (⟨([] : (List GNote)), (0 : Int), (0 : Int)⟩ : GQueue)) (
 retM a0)

def queue_nearest (a0 : Int) : Option (Int) :=
 letE vI (max a0 (0 : Int)) fun x1 =>
 letE vI (min x1 (9007199254740992 : Int)) fun x2 =>
 retM x2

def slices_Clone_Note_Note (a0 : (List GNote)) : Option ((List GNote)) :=
 nilM a0 (
 retM ([] : (List GNote))) (
 bs0M <|
 gdM ((([] : (List GNote)).length + a0.length) * 56 ≤ 140737488355328) <|
 letO (so 0 cGNote) (fun x1 => [tk x1.length 5 33]) (([] : (List GNote)) ++ a0) fun x1 =>
 retM x1)

def queue_Push (a0 : GQueue) (a1 : (List GPair)) (a2 : Bool) (a3 : Int) : Option (GQueue) :=
 callM (ag cGQueue) (fun x1 => [.box [sl cGNote a0.N, vI a0.Drops, vI a0.Lost], .box [.v (.slice none 0 0), vI (0 : Int), vI (0 : Int)]]) (queue_counted a0) fun x1 =>
 callM vB (fun x2 => [.box [sl cGNote x1.N, vI x1.Drops, vI x1.Lost], .box [.v (.slice none 0 0), vI (0 : Int), vI (0 : Int)]]) (label_Sane a1) fun x2 =>
 letE vB (!x2) fun x3 =>
 iteM x3 (
 retM x1) (
 letE vI ((x1.N.length : Int)) fun x4 =>
 letE vB (decide ((16 : Int) ≤ x4)) fun x5 =>
 iteM x5 (
 letE vI (wI (x1.Drops + (1 : Int))) fun x6 =>
 letE vI (min x6 (9007199254740992 : Int)) fun x7 =>
 retM (⟨x1.N, x7, x1.Lost⟩ : GQueue)) (
 callM vI (fun x8 => [.box [sl cGNote x1.N, vI x1.Drops, vI x1.Lost], .box [.v (.slice none 0 0), vI (0 : Int), vI (0 : Int)]]) (queue_nearest a3) fun x8 =>
 callM (so 2 cGNote) (fun x9 => [.box [sl cGNote x1.N, vI x1.Drops, vI x1.Lost], .box [.v (.slice none 0 0), vI (0 : Int), vI (0 : Int)], tk x9.length 5 33]) (slices_Clone_Note_Note x1.N) fun x9 =>
 letE (sx cGNote) ([(⟨a1, a2, x8, (0 : Int), x8⟩ : GNote)] : (List GNote)) fun x10 =>
 gdM ((x9.length + x10.length) * 56 ≤ 140737488355328) <|
 letO (so 2 cGNote) (fun x11 => [.box [sl cGNote x1.N, vI x1.Drops, vI x1.Lost], .box [.v (.slice none 0 0), vI (0 : Int), vI (0 : Int)], tk x11.length 5 33]) (x9 ++ x10) fun x11 =>
 retM (⟨x11, x1.Drops, x1.Lost⟩ : GQueue)))

def notify_tell_1 (a0 : GTold) (a1 : (List GPair)) : Option (Int) :=
 callM vI (fun x1 => [.box [sl cGPair a0.L, vI a0.T]]) (label_Compare a0.L a1) fun x1 =>
 retM x1

def slices_BinarySearchFunc_Told_Told_Pair_notify_tell_1 (a0 : (List GTold)) (a1 : (List GPair)) : Option (Int × Bool) :=
 letE vI ((a0.length : Int)) fun x1 =>
 loopM (fun (x2 : Int × Int) => [(0, sl cGTold a0), (1, sl cGPair a1), (2, .fn 36 [] []), (8, vI x1), (9, vI x2.2), (10, vI x2.1)]) (fun (x2 : Int × Int) => []) (fun (x2 : Int × Int) =>
 letE vB (decide (x2.2 < x2.1)) fun x3 =>
 iteM x3 (
 letE vI (wI (x2.2 + x2.1)) fun x4 =>
 letE (vK .u64) (IntKind.u64.wrap x4) fun x5 =>
 letE (vK .u64) (x5 / 2 ^ min (1 : Int).toNat 64) fun x6 =>
 letE vI (wI x6) fun x7 =>
 idxM a0 x7 fun x8 =>
 callM vI (fun x9 => []) (notify_tell_1 x8 a1) fun x9 =>
 letE vB (decide (x9 < (0 : Int))) fun x10 =>
 iteM x10 (
 letE vI (wI (x7 + (1 : Int))) fun x11 =>
 nextM (x2.1, x11)) (
 nextM (x7, x2.2))) (
 exitM <|
 letE vB (decide (x2.2 < x1)) fun x12 =>
 iteM x12 (
 idxM a0 x2.2 fun x13 =>
 callM vI (fun x14 => []) (notify_tell_1 x13 a1) fun x14 =>
 letE vB (decide (x14 = (0 : Int))) fun x15 =>
 retM (x2.2, x15)) (
 retM (x2.2, false)))) (x1, (0 : Int))

def notify_tell_o (a0 : GQueue) (a1 : (List GPair)) (a2 : Int) (a3 : Int) (a4 : (List GTold)) : Option ((List GTold) × GQueue) :=
 callM (fun x1 => .tup [vI x1.1, vB x1.2]) (fun x1 => [.dead, tk a4.length 2 35, .box [sl cGNote a0.N, vI a0.Drops, vI a0.Lost], .box [.v (.slice none 0 0), vI (0 : Int), vI (0 : Int)]]) (slices_BinarySearchFunc_Told_Told_Pair_notify_tell_1 a4 a1) fun x1 =>
 iteM x1.2 (
 idxM a4 x1.1 fun x2 =>
 letE vI (wI (a2 - x2.T)) fun x3 =>
 letE vB (decide (a3 ≤ x3)) fun x4 =>
 iteM x4 (
 callM (ag cGQueue) (fun x5 => [.dead, tk a4.length 2 35, .box [sl cGNote a0.N, vI a0.Drops, vI a0.Lost], .box [.v (.slice none 0 0), vI (0 : Int), vI (0 : Int)]]) (queue_Push a0 a1 true a2) fun x5 =>
 swapM 1 3 <|
 regW 5 <|
 ownM 0 <|
 letO (so 3 cGTold) (fun x6 => [.dead, .box [.v (.slice none 0 0), vI (0 : Int), vI (0 : Int)], .box [sl cGNote x5.N, vI x5.Drops, vI x5.Lost], tk x6.length 2 35]) (a4.set x1.1.toNat (⟨x2.L, a2⟩ : GTold)) fun x6 =>
 swapM 1 3 <|
 tailM 3 <|
 retM (x6, x5)) (
 letE vB (!true) fun x7 =>
 letE vI ((a4.length : Int)) fun x8 =>
 letE vB (decide (x8 < (64 : Int))) fun x9 =>
 letE vB (bif x7 then x9 else false) fun x10 =>
 iteM x10 (
 callM (ag cGQueue) (fun x11 => [.dead, tk a4.length 2 35, .box [sl cGNote a0.N, vI a0.Drops, vI a0.Lost], .box [.v (.slice none 0 0), vI (0 : Int), vI (0 : Int)]]) (queue_Push a0 a1 true a2) fun x11 =>
 swapM 1 3 <|
 linM 0 <|
 letE (sx cGTold) ([(⟨a1, a2⟩ : GTold)] : (List GTold)) fun x12 =>
 callP [3] (fun x13 => so 4 cGTold x13) (fun x13 => [.dead, .box [.v (.slice none 0 0), vI (0 : Int), vI (0 : Int)], .box [sl cGNote x11.N, vI x11.Drops, vI x11.Lost], .dead, tk x13.length 2 35]) (slicesInsert_GTold x1.1 x12 a4) fun x13 =>
 tailM 3 <|
 swapM 1 4 <|
 retM (x13, x11)) (
 tailM 3 <|
 retM (a4, a0)))) (
 letE vB (!false) fun x14 =>
 letE vI ((a4.length : Int)) fun x15 =>
 letE vB (decide (x15 < (64 : Int))) fun x16 =>
 letE vB (bif x14 then x16 else false) fun x17 =>
 iteM x17 (
 callM (ag cGQueue) (fun x18 => [.dead, tk a4.length 2 35, .box [sl cGNote a0.N, vI a0.Drops, vI a0.Lost], .box [.v (.slice none 0 0), vI (0 : Int), vI (0 : Int)]]) (queue_Push a0 a1 true a2) fun x18 =>
 swapM 1 3 <|
 linM 0 <|
 letE (sx cGTold) ([(⟨a1, a2⟩ : GTold)] : (List GTold)) fun x19 =>
 callP [3] (fun x20 => so 4 cGTold x20) (fun x20 => [.dead, .box [.v (.slice none 0 0), vI (0 : Int), vI (0 : Int)], .box [sl cGNote x18.N, vI x18.Drops, vI x18.Lost], .dead, tk x20.length 2 35]) (slicesInsert_GTold x1.1 x19 a4) fun x20 =>
 tailM 3 <|
 swapM 1 4 <|
 retM (x20, x18)) (
 tailM 3 <|
 retM (a4, a0)))

def notify_Tell (a0 : (List GTold)) (a1 : GQueue) (a2 : (List GTable)) (a3 : Int) (a4 : Int) : Option ((List GTold) × GQueue) :=
 joinM (fun (x1 : (List GTold)) => [(0, sl cGTold x1), (2, sl cGTable a2), (3, vI a3), (4, vI a4), (6, .ptr 0 0), (11, .ptr 1 0)]) (fun (x1 : (List GTold)) => [.box [sl cGNote a1.N, vI a1.Drops, vI a1.Lost], .box [.v (.slice none 0 0), vI (0 : Int), vI (0 : Int)]]) (fun (x1 : (List GTold)) =>
 joinM (fun (x4 : (List GNote) × Int × Int) => [(0, sl cGTold x1), (2, sl cGTable a2), (3, vI a3), (4, vI a4), (6, .ptr 0 0), (11, .ptr 1 0)]) (fun (x4 : (List GNote) × Int × Int) => [.box [sl cGNote x4.1, vI x4.2.1, vI x4.2.2], .box [.v (.slice none 0 0), vI (0 : Int), vI (0 : Int)]]) (fun (x4 : (List GNote) × Int × Int) =>
 letE vI (max a3 (0 : Int)) fun x7 =>
 letE vI (min x7 (9007199254740992 : Int)) fun x8 =>
 letE vI (max a4 (0 : Int)) fun x9 =>
 callM (sl (cL cGPair)) (fun x10 => [.box [sl cGNote x4.1, vI x4.2.1, vI x4.2.2], .box [.v (.slice none 0 0), vI (0 : Int), vI (0 : Int)]]) (notify_Firing a2) fun x10 =>
 letO (fun _ => .map 2) (fun x11 => [.box [sl cGNote x4.1, vI x4.2.1, vI x4.2.2], .box [.v (.slice none 0 0), vI (0 : Int), vI (0 : Int)], .map (mp (kC cA16_cGPair) vB x11)]) ([] : (List (LA16_cGPair × Bool))) fun x11 =>
 letE vI ((x10.length : Int)) fun x12 =>
 loopM (fun (x13 : (List (LA16_cGPair × Bool)) × Int) => [(0, sl cGTold x1), (3, vI x8), (4, vI x9), (6, .ptr 0 0), (11, .ptr 1 0), (12, sl (cL cGPair) x10), (13, .map 2), (36, sl (cL cGPair) x10), (37, vI x12), (38, vI x13.2)]) (fun (x13 : (List (LA16_cGPair × Bool)) × Int) => [.box [sl cGNote x4.1, vI x4.2.1, vI x4.2.2], .box [.v (.slice none 0 0), vI (0 : Int), vI (0 : Int)], .map (mp (kC cA16_cGPair) vB x13.1)]) (fun (x13 : (List (LA16_cGPair × Bool)) × Int) =>
 letE vB (decide (x13.2 < x12)) fun x14 =>
 iteM x14 (
 idxM x10 x13.2 fun x15 =>
 callM (ag cA16_cGPair) (fun x16 => [.box [sl cGNote x4.1, vI x4.2.1, vI x4.2.2], .box [.v (.slice none 0 0), vI (0 : Int), vI (0 : Int)], .map (mp (kC cA16_cGPair) vB x13.1)]) (notify_keyOf x15) fun x16 =>
 letO (fun _ => .any) (fun x17 => [.box [sl cGNote x4.1, vI x4.2.1, vI x4.2.2], .box [.v (.slice none 0 0), vI (0 : Int), vI (0 : Int)], .map (mp (kC cA16_cGPair) vB x17)]) (mst x13.1 x16 true) fun x17 =>
 letE vI (wI (x13.2 + (1 : Int))) fun x18 =>
 nextM (x17, x18)) (
 exitM <|
 letE vI ((x1.length : Int)) fun x19 =>
 tokM 16 2 35 <|
 loopM (fun (x20 : (List GNote) × Int × Int × (List GTold) × Int) => [(3, vI x8), (4, vI x9), (6, .ptr 0 0), (11, .ptr 1 0), (12, sl (cL cGPair) x10), (13, .map 2), (16, so 3 cGTold x20.2.2.2.1), (46, sl cGTold x1), (47, vI x19), (48, vI x20.2.2.2.2)]) (fun (x20 : (List GNote) × Int × Int × (List GTold) × Int) => [.box [sl cGNote x20.1, vI x20.2.1, vI x20.2.2.1], .box [.v (.slice none 0 0), vI (0 : Int), vI (0 : Int)], .map (mp (kC cA16_cGPair) vB x13.1), tk x20.2.2.2.1.length 2 35]) (fun (x20 : (List GNote) × Int × Int × (List GTold) × Int) =>
 letE vB (decide (x20.2.2.2.2 < x19)) fun x21 =>
 iteM x21 (
 idxM x1 x20.2.2.2.2 fun x22 =>
 callM (ag cA16_cGPair) (fun x23 => [.box [sl cGNote x20.1, vI x20.2.1, vI x20.2.2.1], .box [.v (.slice none 0 0), vI (0 : Int), vI (0 : Int)], .map (mp (kC cA16_cGPair) vB x13.1), tk x20.2.2.2.1.length 2 35, .box [sl cGPair x22.L, vI x22.T]]) (notify_keyOf x22.L) fun x23 =>
 letE vB ((mlk x13.1 x23).getD false) fun x24 =>
 iteM x24 (
 letE (sx cGTold) ([x22] : (List GTold)) fun x25 =>
 gdM ((x20.2.2.2.1.length + x25.length) * 32 ≤ 140737488355328) <|
 letO (so 3 cGTold) (fun x26 => [.box [sl cGNote x20.1, vI x20.2.1, vI x20.2.2.1], .box [.v (.slice none 0 0), vI (0 : Int), vI (0 : Int)], .map (mp (kC cA16_cGPair) vB x13.1), tk x26.length 2 35, .box [sl cGPair x22.L, vI x22.T]]) (x20.2.2.2.1 ++ x25) fun x26 =>
 letE vI (wI (x20.2.2.2.2 + (1 : Int))) fun x27 =>
 nextM (x20.1, x20.2.1, x20.2.2.1, x26, x27)) (
 callM (ag cGQueue) (fun x28 => [.box [sl cGNote x20.1, vI x20.2.1, vI x20.2.2.1], .box [.v (.slice none 0 0), vI (0 : Int), vI (0 : Int)], .map (mp (kC cA16_cGPair) vB x13.1), tk x20.2.2.2.1.length 2 35, .box [sl cGPair x22.L, vI x22.T]]) (queue_Push (⟨x20.1, x20.2.1, x20.2.2.1⟩ : GQueue) x22.L false x8) fun x28 =>
 letE vI (wI (x20.2.2.2.2 + (1 : Int))) fun x29 =>
 nextM (x28.N, x28.Drops, x28.Lost, x20.2.2.2.1, x29))) (
 exitM <|
 letE vI ((x10.length : Int)) fun x30 =>
 loopM (fun (x31 : (List GNote) × Int × Int × (List GTold) × Int) => [(3, vI x8), (4, vI x9), (6, .ptr 0 0), (11, .ptr 1 0), (16, so 3 cGTold x31.2.2.2.1), (67, sl (cL cGPair) x10), (68, vI x30), (69, vI x31.2.2.2.2)]) (fun (x31 : (List GNote) × Int × Int × (List GTold) × Int) => [.box [sl cGNote x31.1, vI x31.2.1, vI x31.2.2.1], .box [.v (.slice none 0 0), vI (0 : Int), vI (0 : Int)], .dead, tk x31.2.2.2.1.length 2 35]) (fun (x31 : (List GNote) × Int × Int × (List GTold) × Int) =>
 letE vB (decide (x31.2.2.2.2 < x30)) fun x32 =>
 iteM x32 (
 idxM x10 x31.2.2.2.2 fun x33 =>
 linM 16 <|
 callP [3] (fun x34 => .tup [so 4 cGTold x34.1, (ag cGQueue) x34.2]) (fun x34 => [.box [sl cGNote x31.1, vI x31.2.1, vI x31.2.2.1], .box [.v (.slice none 0 0), vI (0 : Int), vI (0 : Int)], .dead, .dead, tk x34.1.length 2 35]) (notify_tell_o (⟨x31.1, x31.2.1, x31.2.2.1⟩ : GQueue) x33 x8 x9 x31.2.2.2.1) fun x34 =>
 letE vI (wI (x31.2.2.2.2 + (1 : Int))) fun x35 =>
 swapM 3 4 <|
 nextM (x34.2.N, x34.2.Drops, x34.2.Lost, x34.1, x35)) (
 exitM <|
 tailM 3 <|
 retM (x31.2.2.2.1, (⟨x31.1, x31.2.1, x31.2.2.1⟩ : GQueue)))) (x20.1, x20.2.1, x20.2.2.1, x20.2.2.2.1, (0 : Int)))) (x4.1, x4.2.1, x4.2.2, ([] : List GTold), (0 : Int)))) (x11, (0 : Int))) <|
 callM vB (fun x5 => [.box [sl cGNote a1.N, vI a1.Drops, vI a1.Lost], .box [.v (.slice none 0 0), vI (0 : Int), vI (0 : Int)]]) (queue_Sane a1) fun x5 =>
 letE vB (!x5) fun x6 =>
 iteM x6 (
 nextM (([] : List GNote), (0 : Int), (0 : Int))) (
 nextM (a1.N, a1.Drops, a1.Lost))) <|
 callM vB (fun x2 => [.box [sl cGNote a1.N, vI a1.Drops, vI a1.Lost], .box [.v (.slice none 0 0), vI (0 : Int), vI (0 : Int)]]) (notify_Sane a0) fun x2 =>
 letE vB (!x2) fun x3 =>
 iteM x3 (
 nextM ([] : List GTold)) (
 nextM a0)

def law23_awake : Option (Bool) :=
 letE (sx cGPair) ([(⟨([97] : Str), ([49] : Str)⟩ : GPair)] : (List GPair)) fun x1 =>
 letE (sx cGFound) ([(⟨x1, (⟨(0 : Int), (0 : Int)⟩ : GSample)⟩ : GFound)] : (List GFound)) fun x2 =>
 callM (ag cGTable) (fun x3 => []) (table_Step (⟨([] : (List GAlert)), (0 : Int)⟩ : GTable) x2 (5 : Int) (0 : Int) (0 : Int)) fun x3 =>
 letE (sx cGTable) ([x3] : (List GTable)) fun x4 =>
 callM (fun x5 => .tup [so 4 cGTold x5.1, (ag cGQueue) x5.2]) (fun x5 => [.box [sl cGAlert x3.A, vI x3.Full], .dead, .dead, .dead, tk x5.1.length 2 35]) (notify_Tell ([] : (List GTold)) (⟨([] : (List GNote)), (0 : Int), (0 : Int)⟩ : GQueue) x4 (5 : Int) (10 : Int)) fun x5 =>
 letE (sx cGTable) ([x3] : (List GTable)) fun x6 =>
 callM (fun x7 => .tup [so 9 cGTold x7.1, (ag cGQueue) x7.2]) (fun x7 => [.box [sl cGAlert x3.A, vI x3.Full], .dead, .dead, .dead, .tok x5.1.length 2 35 false, .box [sl cGNote x5.2.N, vI x5.2.Drops, vI x5.2.Lost], .dead, .dead, .dead, tk x7.1.length 2 35]) (notify_Tell x5.1 x5.2 x6 (6 : Int) (10 : Int)) fun x7 =>
 letE (sx cGTable) ([x3] : (List GTable)) fun x8 =>
 callM (fun x9 => .tup [so 14 cGTold x9.1, (ag cGQueue) x9.2]) (fun x9 => [.box [sl cGAlert x3.A, vI x3.Full], .dead, .dead, .dead, .tok x5.1.length 2 35 false, .box [sl cGNote x5.2.N, vI x5.2.Drops, vI x5.2.Lost], .dead, .dead, .dead, .tok x7.1.length 2 35 false, .box [sl cGNote x7.2.N, vI x7.2.Drops, vI x7.2.Lost], .dead, .dead, .dead, tk x9.1.length 2 35]) (notify_Tell x7.1 x7.2 x8 (15 : Int) (10 : Int)) fun x9 =>
 callM (fun x10 => .tup [so 19 cGTold x10.1, (ag cGQueue) x10.2]) (fun x10 => [.box [sl cGAlert x3.A, vI x3.Full], .dead, .dead, .dead, .tok x5.1.length 2 35 false, .box [sl cGNote x5.2.N, vI x5.2.Drops, vI x5.2.Lost], .dead, .dead, .dead, .tok x7.1.length 2 35 false, .box [sl cGNote x7.2.N, vI x7.2.Drops, vI x7.2.Lost], .dead, .dead, .dead, .tok x9.1.length 2 35 false, .box [sl cGNote x9.2.N, vI x9.2.Drops, vI x9.2.Lost], .dead, .dead, .dead, tk x10.1.length 2 35]) (notify_Tell x9.1 x9.2 ([] : (List GTable)) (16 : Int) (10 : Int)) fun x10 =>
 letE vI ((x5.1.length : Int)) fun x11 =>
 letE vB (decide (x11 = (1 : Int))) fun x12 =>
 iteM x12 (
 letE vI ((x5.2.N.length : Int)) fun x13 =>
 letE vB (decide (x13 = (1 : Int))) fun x14 =>
 iteM x14 (
 idxM x5.2.N (0 : Int) fun x15 =>
 iteM x15.Fires (
 letE vI ((x7.2.N.length : Int)) fun x16 =>
 letE vB (decide (x16 = (1 : Int))) fun x17 =>
 iteM x17 (
 letE vI ((x9.2.N.length : Int)) fun x18 =>
 letE vB (decide (x18 = (2 : Int))) fun x19 =>
 letE vI ((x10.1.length : Int)) fun x20 =>
 letE vB (decide (x20 = (0 : Int))) fun x21 =>
 letE vB (bif x19 then x21 else false) fun x22 =>
 iteM x22 (
 letE vI ((x10.2.N.length : Int)) fun x23 =>
 letE vB (decide (x23 = (3 : Int))) fun x24 =>
 iteM x24 (
 idxM x10.2.N (2 : Int) fun x25 =>
 letE vB (!x25.Fires) fun x26 =>
 iteM x26 (
 callM vB (fun x27 => [.box [sl cGAlert x3.A, vI x3.Full], .dead, .dead, .dead, .tok x5.1.length 2 35 false, .box [sl cGNote x5.2.N, vI x5.2.Drops, vI x5.2.Lost], .dead, .dead, .dead, .tok x7.1.length 2 35 false, .box [sl cGNote x7.2.N, vI x7.2.Drops, vI x7.2.Lost], .dead, .dead, .dead, .tok x9.1.length 2 35 false, .box [sl cGNote x9.2.N, vI x9.2.Drops, vI x9.2.Lost], .dead, .dead, .dead, tk x10.1.length 2 35, .box [sl cGNote x10.2.N, vI x10.2.Drops, vI x10.2.Lost]]) (notify_Sane x5.1) fun x27 =>
 iteM x27 (
 letE (sx cGTable) ([x3] : (List GTable)) fun x28 =>
 callM (sl (cL cGPair)) (fun x29 => [.box [sl cGAlert x3.A, vI x3.Full], .dead, .dead, .dead, .tok x5.1.length 2 35 false, .box [sl cGNote x5.2.N, vI x5.2.Drops, vI x5.2.Lost], .dead, .dead, .dead, .tok x7.1.length 2 35 false, .box [sl cGNote x7.2.N, vI x7.2.Drops, vI x7.2.Lost], .dead, .dead, .dead, .tok x9.1.length 2 35 false, .box [sl cGNote x9.2.N, vI x9.2.Drops, vI x9.2.Lost], .dead, .dead, .dead, tk x10.1.length 2 35, .box [sl cGNote x10.2.N, vI x10.2.Drops, vI x10.2.Lost]]) (notify_Firing x28) fun x29 =>
 letE vI ((x29.length : Int)) fun x30 =>
 letE vB (decide (x30 = (1 : Int))) fun x31 =>
 retM x31) (
 retM false)) (
 retM false)) (
 retM false)) (
 retM false)) (
 letE vI ((x10.1.length : Int)) fun x32 =>
 letE vB (decide (x32 = (0 : Int))) fun x33 =>
 retM false)) (
 letE vI ((x10.1.length : Int)) fun x34 =>
 letE vB (decide (x34 = (0 : Int))) fun x35 =>
 retM false)) (
 letE vI ((x10.1.length : Int)) fun x36 =>
 letE vB (decide (x36 = (0 : Int))) fun x37 =>
 retM false)) (
 letE vI ((x10.1.length : Int)) fun x38 =>
 letE vB (decide (x38 = (0 : Int))) fun x39 =>
 retM false)

def ref03_Few (a0 : (List GPair)) : Option (Bool) :=
 loopM (fun (x1 : Int × Int) => [(0, sl cGPair a0), (3, vI x1.1), (4, vI x1.2)]) (fun (x1 : Int × Int) => []) (fun (x1 : Int × Int) =>
 letE vI ((a0.length : Int)) fun x2 =>
 letE vB (decide (x1.2 < x2)) fun x3 =>
 iteM x3 (
 idxM a0 x1.2 fun x4 =>
 letE vI ((x4.Name.length : Int)) fun x5 =>
 letE vI (wI (x1.1 + x5)) fun x6 =>
 letE vI ((x4.Value.length : Int)) fun x7 =>
 letE vI (wI (x6 + x7)) fun x8 =>
 letE vI (wI (x1.2 + (1 : Int))) fun x9 =>
 nextM (x8, x9)) (
 exitM <|
 letE vI ((a0.length : Int)) fun x10 =>
 letE vB (decide (x10 ≤ (40 : Int))) fun x11 =>
 letE vB (decide (x1.1 ≤ (3000 : Int))) fun x12 =>
 letE vB (bif x11 then x12 else false) fun x13 =>
 retM x13)) ((0 : Int), (0 : Int))

def ref23_Few (a0 : (List GTold)) : Option (Bool) :=
 loopM (fun (x1 : Int) => [(0, sl cGTold a0), (3, vI x1)]) (fun (x1 : Int) => []) (fun (x1 : Int) =>
 letE vI ((a0.length : Int)) fun x2 =>
 letE vB (decide (x1 < x2)) fun x3 =>
 iteM x3 (
 idxM a0 x1 fun x4 =>
 callM vB (fun x5 => []) (ref03_Few x4.L) fun x5 =>
 letE vB (!x5) fun x6 =>
 iteM x6 (
 exitM <|
 retM false) (
 letE vI (wI (x1 + (1 : Int))) fun x7 =>
 nextM x7)) (
 exitM <|
 letE vI ((a0.length : Int)) fun x8 =>
 letE vB (decide (x8 ≤ (80 : Int))) fun x9 =>
 retM x9)) (0 : Int)

def law23_NotifyNone (a0 : (List GTold)) (a1 : Int) (a2 : Int) : Option (Bool) :=
 callM vB (fun x1 => []) (law23_awake) fun x1 =>
 callM vB (fun x2 => []) (ref23_Few a0) fun x2 =>
 letE vB (!x2) fun x3 =>
 iteM x3 (
 letE vB (decide (a1 < (0 : Int))) fun x4 =>
 letE vB (decide ((9007199254740992 : Int) < a1)) fun x5 =>
 retM x1) (
 callM vB (fun x6 => []) (notify_Sane a0) fun x6 =>
 letE vB (!x6) fun x7 =>
 letE vB (decide (a1 < (0 : Int))) fun x8 =>
 letE vB (bif x7 then true else x8) fun x9 =>
 letE vB (decide ((9007199254740992 : Int) < a1)) fun x10 =>
 letE vB (bif x9 then true else x10) fun x11 =>
 iteM x11 (
 retM x1) (
 callM (fun x12 => .tup [so 3 cGTold x12.1, (ag cGQueue) x12.2]) (fun x12 => [.dead, .dead, .dead, tk x12.1.length 2 35]) (notify_Tell a0 (⟨([] : (List GNote)), (0 : Int), (0 : Int)⟩ : GQueue) ([] : (List GTable)) a1 a2) fun x12 =>
 letE vI ((x12.1.length : Int)) fun x13 =>
 letE vB (!decide (x13 = (0 : Int))) fun x14 =>
 iteM x14 (
 letE vI ((a0.length : Int)) fun x15 =>
 letE vI ((a0.length : Int)) fun x16 =>
 retM false) (
 letE vI ((x12.2.N.length : Int)) fun x17 =>
 letE vI ((a0.length : Int)) fun x18 =>
 letE vI (min x18 (16 : Int)) fun x19 =>
 letE vB (!decide (x17 = x19)) fun x20 =>
 iteM x20 (
 letE vI ((a0.length : Int)) fun x21 =>
 retM false) (
 letE vI ((a0.length : Int)) fun x22 =>
 letE vI ((x12.2.N.length : Int)) fun x23 =>
 letE vI (wI (x22 - x23)) fun x24 =>
 letE vB (!decide (x12.2.Drops = x24)) fun x25 =>
 iteM x25 (
 retM false) (
 loopM (fun (x26 : Int) => [(0, sl cGTold a0), (1, vI a1), (7, vB x1), (9, .ptr 4 0), (10, vI x26)]) (fun (x26 : Int) => [.dead, .dead, .dead, tk x12.1.length 2 35, .box [sl cGNote x12.2.N, vI x12.2.Drops, vI x12.2.Lost]]) (fun (x26 : Int) =>
 letE vI ((x12.2.N.length : Int)) fun x27 =>
 letE vB (decide (x26 < x27)) fun x28 =>
 iteM x28 (
 drawM <|
 idxM x12.2.N x26 fun x29 =>
 idxM a0 x26 fun x30 =>
 callM vI (fun x31 => [.dead, .dead, .dead, tk x12.1.length 2 35, .box [sl cGNote x12.2.N, vI x12.2.Drops, vI x12.2.Lost]]) (label_Compare x29.L x30.L) fun x31 =>
 letE vB (!decide (x31 = (0 : Int))) fun x32 =>
 iteM x32 (
 exitM <|
 retM false) (
 iteM x29.Fires (
 exitM <|
 retM false) (
 letE vB (!decide (x29.T = a1)) fun x33 =>
 iteM x33 (
 exitM <|
 retM false) (
 letE vI (wI (x26 + (1 : Int))) fun x34 =>
 nextM x34)))) (
 exitM <|
 retM x1)) (0 : Int))))))

end
end Go.Proofs.YtchlojabjmlodaaDoor.AM
