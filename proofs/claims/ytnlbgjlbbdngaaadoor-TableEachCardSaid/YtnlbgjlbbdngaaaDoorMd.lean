/- A part of the proof: Md. -/
import Derived.Test.YtnlbgjlbbdngaaaDoorTy
set_option linter.all false
/- The models. -/
namespace Go.Proofs.YtnlbgjlbbdngaaaDoor.AM
noncomputable section

def law17_found (a0 : Str) (a1 : Int) : Option (GFound) :=
 letE (sx cGPair) ([(⟨([97] : Str), a0⟩ : GPair)] : (List GPair)) fun x1 =>
 retM (⟨x1, (⟨(0 : Int), a1⟩ : GSample)⟩ : GFound)

def label_Name (a0 : Str) : Option (Bool) :=
 letE vI ((a0.length : Int)) fun x1 =>
 letE vB (decide (x1 < (1 : Int))) fun x2 =>
 letE vI ((a0.length : Int)) fun x3 =>
 letE vB (decide ((64 : Int) < x3)) fun x4 =>
 letE vB (bif x2 then true else x4) fun x5 =>
 iteM x5 (
 retM false) (
 loopM (fun (x6 : Int) => [(0, vS a0), (3, vI x6)]) (fun (x6 : Int) => []) (fun (x6 : Int) =>
 letE vI ((a0.length : Int)) fun x7 =>
 letE vB (decide (x6 < x7)) fun x8 =>
 iteM x8 (
 idxM a0 x6 fun x9 =>
 letE vB (decide ((97 : Int) ≤ (x9.toNat : Int))) fun x10 =>
 letE vB (decide ((x9.toNat : Int) ≤ (122 : Int))) fun x11 =>
 letE vB (bif x10 then x11 else false) fun x12 =>
 letE vB (decide ((65 : Int) ≤ (x9.toNat : Int))) fun x13 =>
 letE vB (decide ((x9.toNat : Int) ≤ (90 : Int))) fun x14 =>
 letE vB (bif x13 then x14 else false) fun x15 =>
 letE vB (bif x12 then true else x15) fun x16 =>
 letE vB (decide ((x9.toNat : Int) = (95 : Int))) fun x17 =>
 letE vB (bif x16 then true else x17) fun x18 =>
 letE vB (decide ((48 : Int) ≤ (x9.toNat : Int))) fun x19 =>
 letE vB (decide ((x9.toNat : Int) ≤ (57 : Int))) fun x20 =>
 letE vB (bif x19 then x20 else false) fun x21 =>
 letE vB (!x18) fun x22 =>
 letE vB (!x21) fun x23 =>
 letE vB (decide (x6 = (0 : Int))) fun x24 =>
 letE vB (bif x23 then true else x24) fun x25 =>
 letE vB (bif x22 then x25 else false) fun x26 =>
 iteM x26 (
 exitM <|
 retM false) (
 letE vI (wI (x6 + (1 : Int))) fun x27 =>
 nextM x27)) (
 exitM <|
 retM true)) (0 : Int))

def label_Sane (a0 : (List GPair)) : Option (Bool) :=
 letE vI ((a0.length : Int)) fun x1 =>
 letE vB (decide ((16 : Int) < x1)) fun x2 =>
 iteM x2 (
 retM false) (
 letE vI ((a0.length : Int)) fun x3 =>
 loopM (fun (x4 : Int) => [(0, sl cGPair a0), (8, sl cGPair a0), (9, vI x3), (10, vI x4)]) (fun (x4 : Int) => []) (fun (x4 : Int) =>
 letE vB (decide (x4 < x3)) fun x5 =>
 iteM x5 (
 idxM a0 x4 fun x6 =>
 callM vB (fun x7 => [.box [vS x6.Name, vS x6.Value]]) (label_Name x6.Name) fun x7 =>
 letE vB (!x7) fun x8 =>
 iteM x8 (
 exitM <|
 retM false) (
 letE vI ((x6.Value.length : Int)) fun x9 =>
 letE vB (decide ((64 : Int) < x9)) fun x10 =>
 iteM x10 (
 exitM <|
 retM false) (
 letE vB (decide ((0 : Int) < x4)) fun x11 =>
 letE vI (wI (x4 - (1 : Int))) fun x12 =>
 iteM x11 (
 idxM a0 x12 fun x13 =>
 letE vB (!ltS x13.Name x6.Name) fun x14 =>
 iteM x14 (
 exitM <|
 retM false) (
 letE vI (wI (x4 + (1 : Int))) fun x15 =>
 nextM x15)) (
 letE vI (wI (x4 + (1 : Int))) fun x16 =>
 nextM x16)))) (
 exitM <|
 retM true)) (0 : Int))

def hold_time (a0 : Int) : Option (Bool) :=
 letE vB (decide ((0 : Int) ≤ a0)) fun x1 =>
 letE vB (decide (a0 ≤ (9007199254740992 : Int))) fun x2 =>
 letE vB (bif x1 then x2 else false) fun x3 =>
 retM x3

def hold_Sane (a0 : GHold) : Option (Bool) :=
 callM vB (fun x1 => [.box [vB a0.On, vI a0.Since, vB a0.Hit, vI a0.Fired]]) (hold_time a0.Since) fun x1 =>
 letE vB (!x1) fun x2 =>
 iteM x2 (
 retM false) (
 callM vB (fun x3 => [.box [vB a0.On, vI a0.Since, vB a0.Hit, vI a0.Fired]]) (hold_time a0.Fired) fun x3 =>
 letE vB (!x3) fun x4 =>
 iteM x4 (
 retM false) (
 iteM a0.On (
 iteM a0.Hit (
 letE vB (bif true then true else false) fun x5 =>
 retM x5) (
 letE vB (decide (a0.Fired = (0 : Int))) fun x6 =>
 letE vB (bif false then true else x6) fun x7 =>
 retM x7)) (
 letE vB (decide (a0.Since = (0 : Int))) fun x8 =>
 iteM x8 (
 iteM a0.Hit (
 letE vB (bif true then true else false) fun x9 =>
 retM x9) (
 letE vB (decide (a0.Fired = (0 : Int))) fun x10 =>
 letE vB (bif false then true else x10) fun x11 =>
 retM x11)) (
 retM false))))

def label_counts (a0 : (List GPair)) : Option ((List GPair)) :=
 callM vB (fun x1 => []) (label_Sane a0) fun x1 =>
 iteM x1 (
 retM a0) (
 retM ([] : (List GPair)))

def cmp_isNaN_string (a0 : Str) : Option (Bool) :=
 letE vB (!decide (a0 = a0)) fun x1 =>
 retM x1

def cmp_Compare_string (a0 : Str) (a1 : Str) : Option (Int) :=
 callM vB (fun x1 => []) (cmp_isNaN_string a0) fun x1 =>
 callM vB (fun x2 => []) (cmp_isNaN_string a1) fun x2 =>
 iteM x1 (
 iteM x2 (
 retM (0 : Int)) (
 retM (-1 : Int))) (
 iteM x2 (
 retM (1 : Int)) (
 letE vB (ltS a0 a1) fun x3 =>
 iteM x3 (
 retM (-1 : Int)) (
 letE vB (ltS a1 a0) fun x4 =>
 iteM x4 (
 retM (1 : Int)) (
 retM (0 : Int)))))

def cmp_Or_int (a0 : (List Int)) : Option (Int) :=
 letE vI ((a0.length : Int)) fun x1 =>
 loopM (fun (x2 : Int) => [(3, vI (0 : Int)), (6, sl cI a0), (7, vI x1), (8, vI x2)]) (fun (x2 : Int) => []) (fun (x2 : Int) =>
 letE vB (decide (x2 < x1)) fun x3 =>
 iteM x3 (
 idxM a0 x2 fun x4 =>
 letE vB (!decide (x4 = (0 : Int))) fun x5 =>
 iteM x5 (
 exitM <|
 retM x4) (
 letE vI (wI (x2 + (1 : Int))) fun x6 =>
 nextM x6)) (
 exitM <|
 retM (0 : Int))) (0 : Int)

def label_Compare_1 (a0 : GPair) (a1 : GPair) : Option (Int) :=
 drawM <|
 callM vI (fun x1 => [.box [vS a0.Name, vS a0.Value], .box [vS a1.Name, vS a1.Value]]) (cmp_Compare_string a0.Name a1.Name) fun x1 =>
 callM vI (fun x2 => [.box [vS a0.Name, vS a0.Value], .box [vS a1.Name, vS a1.Value]]) (cmp_Compare_string a0.Value a1.Value) fun x2 =>
 letE (sx cI) ([x1, x2] : (List Int)) fun x3 =>
 callM vI (fun x4 => [.box [vS a0.Name, vS a0.Value], .box [vS a1.Name, vS a1.Value]]) (cmp_Or_int x3) fun x4 =>
 retM x4

def slices_CompareFunc_Pair_Pair_Pair_Pair_label_Compare_1 (a0 : (List GPair)) (a1 : (List GPair)) : Option (Int) :=
 letE vI ((a0.length : Int)) fun x1 =>
 loopM (fun (x2 : Int) => [(0, sl cGPair a0), (1, sl cGPair a1), (2, .fn 33 [] []), (11, sl cGPair a0), (12, vI x1), (13, vI x2)]) (fun (x2 : Int) => []) (fun (x2 : Int) =>
 letE vB (decide (x2 < x1)) fun x3 =>
 iteM x3 (
 idxM a0 x2 fun x4 =>
 letE vI ((a1.length : Int)) fun x5 =>
 letE vB (decide (x5 ≤ x2)) fun x6 =>
 iteM x6 (
 exitM <|
 retM (1 : Int)) (
 idxM a1 x2 fun x7 =>
 callM vI (fun x8 => [.box [vS x4.Name, vS x4.Value], .box [vS x7.Name, vS x7.Value]]) (label_Compare_1 x4 x7) fun x8 =>
 letE vB (!decide (x8 = (0 : Int))) fun x9 =>
 iteM x9 (
 exitM <|
 retM x8) (
 letE vI (wI (x2 + (1 : Int))) fun x10 =>
 nextM x10))) (
 exitM <|
 letE vI ((a0.length : Int)) fun x11 =>
 letE vI ((a1.length : Int)) fun x12 =>
 letE vB (decide (x11 < x12)) fun x13 =>
 iteM x13 (
 retM (-1 : Int)) (
 retM (0 : Int)))) (0 : Int)

def label_Compare (a0 : (List GPair)) (a1 : (List GPair)) : Option (Int) :=
 callM (sl cGPair) (fun x1 => []) (label_counts a0) fun x1 =>
 callM (sl cGPair) (fun x2 => []) (label_counts a1) fun x2 =>
 callM vI (fun x3 => []) (slices_CompareFunc_Pair_Pair_Pair_Pair_label_Compare_1 x1 x2) fun x3 =>
 retM x3

def table_Sane (a0 : GTable) : Option (Bool) :=
 letE vI ((a0.A.length : Int)) fun x1 =>
 letE vB (decide ((16 : Int) < x1)) fun x2 =>
 iteM x2 (
 retM false) (
 letE vB (decide (a0.Full < (0 : Int))) fun x3 =>
 iteM x3 (
 retM false) (
 letE vB (decide ((9007199254740992 : Int) < a0.Full)) fun x4 =>
 iteM x4 (
 retM false) (
 letE vI ((a0.A.length : Int)) fun x5 =>
 loopM (fun (x6 : Int) => [(1, .ptr 0 0), (20, sl cGAlert a0.A), (21, vI x5), (22, vI x6)]) (fun (x6 : Int) => [.box [sl cGAlert a0.A, vI a0.Full]]) (fun (x6 : Int) =>
 letE vB (decide (x6 < x5)) fun x7 =>
 iteM x7 (
 idxM a0.A x6 fun x8 =>
 callM vB (fun x9 => [.box [sl cGAlert a0.A, vI a0.Full], .box [sl cGPair x8.L, vB x8.H.On, vI x8.H.Since, vB x8.H.Hit, vI x8.H.Fired, vI x8.State, vI x8.V]]) (label_Sane x8.L) fun x9 =>
 letE vB (!x9) fun x10 =>
 iteM x10 (
 exitM <|
 retM false) (
 callM vB (fun x11 => [.box [sl cGAlert a0.A, vI a0.Full], .box [sl cGPair x8.L, vB x8.H.On, vI x8.H.Since, vB x8.H.Hit, vI x8.H.Fired, vI x8.State, vI x8.V]]) (hold_Sane x8.H) fun x11 =>
 letE vB (!x11) fun x12 =>
 iteM x12 (
 exitM <|
 retM false) (
 letE vB (decide (x8.State < (0 : Int))) fun x13 =>
 iteM x13 (
 exitM <|
 retM false) (
 letE vB (decide ((2 : Int) < x8.State)) fun x14 =>
 iteM x14 (
 exitM <|
 retM false) (
 drawM <|
 letE vB (decide ((0 : Int) < x6)) fun x15 =>
 iteM x15 (
 letE vI (wI (x6 - (1 : Int))) fun x16 =>
 idxM a0.A x16 fun x17 =>
 callM vI (fun x18 => [.box [sl cGAlert a0.A, vI a0.Full], .box [sl cGPair x8.L, vB x8.H.On, vI x8.H.Since, vB x8.H.Hit, vI x8.H.Fired, vI x8.State, vI x8.V]]) (label_Compare x17.L x8.L) fun x18 =>
 letE vB (decide ((0 : Int) ≤ x18)) fun x19 =>
 iteM x19 (
 exitM <|
 retM false) (
 letE vI (wI (x6 + (1 : Int))) fun x20 =>
 nextM x20)) (
 letE vI (wI (x6 - (1 : Int))) fun x21 =>
 letE vI (wI (x6 + (1 : Int))) fun x22 =>
 nextM x22)))))) (
 exitM <|
 retM true)) (0 : Int))))

def table_counted (a0 : GTable) : Option (GTable) :=
 callM vB (fun x1 => [.box [sl cGAlert a0.A, vI a0.Full], .box [.v (.slice none 0 0), vI (0 : Int)]]) (table_Sane a0) fun x1 =>
 letE vB (!x1) fun x2 =>
 iteM x2 (
 retM (⟨([] : (List GAlert)), (0 : Int)⟩ : GTable)) (
 retM a0)

def strconv_small (a0 : Int) : Option (Str) :=
 letE vB (decide (a0 < (10 : Int))) fun x1 =>
 iteM x1 (
 letE vI (wI (a0 + (1 : Int))) fun x2 =>
 gdM (0 ≤ a0 ∧ a0 ≤ x2 ∧ x2 ≤ (([48, 49, 50, 51, 52, 53, 54, 55, 56, 57, 97, 98, 99, 100, 101, 102, 103, 104, 105, 106, 107, 108, 109, 110, 111, 112, 113, 114, 115, 116, 117, 118, 119, 120, 121, 122] : Str).length : Int)) <|
 letE vS ((([48, 49, 50, 51, 52, 53, 54, 55, 56, 57, 97, 98, 99, 100, 101, 102, 103, 104, 105, 106, 107, 108, 109, 110, 111, 112, 113, 114, 115, 116, 117, 118, 119, 120, 121, 122] : Str).take x2.toNat).drop a0.toNat) fun x3 =>
 retM x3) (
 letE vI (wI (a0 * (2 : Int))) fun x4 =>
 letE vI (wI (a0 * (2 : Int))) fun x5 =>
 letE vI (wI (x5 + (2 : Int))) fun x6 =>
 gdM (0 ≤ x4 ∧ x4 ≤ x6 ∧ x6 ≤ (([48, 48, 48, 49, 48, 50, 48, 51, 48, 52, 48, 53, 48, 54, 48, 55, 48, 56, 48, 57, 49, 48, 49, 49, 49, 50, 49, 51, 49, 52, 49, 53, 49, 54, 49, 55, 49, 56, 49, 57, 50, 48, 50, 49, 50, 50, 50, 51, 50, 52, 50, 53, 50, 54, 50, 55, 50, 56, 50, 57, 51, 48, 51, 49, 51, 50, 51, 51, 51, 52, 51, 53, 51, 54, 51, 55, 51, 56, 51, 57, 52, 48, 52, 49, 52, 50, 52, 51, 52, 52, 52, 53, 52, 54, 52, 55, 52, 56, 52, 57, 53, 48, 53, 49, 53, 50, 53, 51, 53, 52, 53, 53, 53, 54, 53, 55, 53, 56, 53, 57, 54, 48, 54, 49, 54, 50, 54, 51, 54, 52, 54, 53, 54, 54, 54, 55, 54, 56, 54, 57, 55, 48, 55, 49, 55, 50, 55, 51, 55, 52, 55, 53, 55, 54, 55, 55, 55, 56, 55, 57, 56, 48, 56, 49, 56, 50, 56, 51, 56, 52, 56, 53, 56, 54, 56, 55, 56, 56, 56, 57, 57, 48, 57, 49, 57, 50, 57, 51, 57, 52, 57, 53, 57, 54, 57, 55, 57, 56, 57, 57] : Str).length : Int)) <|
 letE vS ((([48, 48, 48, 49, 48, 50, 48, 51, 48, 52, 48, 53, 48, 54, 48, 55, 48, 56, 48, 57, 49, 48, 49, 49, 49, 50, 49, 51, 49, 52, 49, 53, 49, 54, 49, 55, 49, 56, 49, 57, 50, 48, 50, 49, 50, 50, 50, 51, 50, 52, 50, 53, 50, 54, 50, 55, 50, 56, 50, 57, 51, 48, 51, 49, 51, 50, 51, 51, 51, 52, 51, 53, 51, 54, 51, 55, 51, 56, 51, 57, 52, 48, 52, 49, 52, 50, 52, 51, 52, 52, 52, 53, 52, 54, 52, 55, 52, 56, 52, 57, 53, 48, 53, 49, 53, 50, 53, 51, 53, 52, 53, 53, 53, 54, 53, 55, 53, 56, 53, 57, 54, 48, 54, 49, 54, 50, 54, 51, 54, 52, 54, 53, 54, 54, 54, 55, 54, 56, 54, 57, 55, 48, 55, 49, 55, 50, 55, 51, 55, 52, 55, 53, 55, 54, 55, 55, 55, 56, 55, 57, 56, 48, 56, 49, 56, 50, 56, 51, 56, 52, 56, 53, 56, 54, 56, 55, 56, 56, 56, 57, 57, 48, 57, 49, 57, 50, 57, 51, 57, 52, 57, 53, 57, 54, 57, 55, 57, 56, 57, 57] : Str).take x6.toNat).drop x4.toNat) fun x7 =>
 retM x7)

def strconv_FormatInt (a0 : Int) (a1 : Int) : Option (Str) :=
 letE vB (decide (a1 = (10 : Int))) fun x1 =>
 iteM x1 (
 letE vB (decide ((0 : Int) ≤ a0)) fun x2 =>
 letE vB (decide (a0 < (100 : Int))) fun x3 =>
 letE vB (bif x2 then x3 else false) fun x4 =>
 iteM x4 (
 callM vS (fun x5 => []) (strconv_small a0) fun x5 =>
 retM x5) (
 letE (vK .u64) (IntKind.u64.wrap a0) fun x6 =>
 letE vB (decide (a0 < (0 : Int))) fun x7 =>
 iteM x7 (
 letE (vK .u64) (IntKind.u64.wrap (0 - x6)) fun x8 =>
 noM) (
 noM))) (
 letE (vK .u64) (IntKind.u64.wrap a0) fun x9 =>
 letE vB (decide (a0 < (0 : Int))) fun x10 =>
 noM)

def strconv_Itoa (a0 : Int) : Option (Str) :=
 callM vS (fun x1 => []) (strconv_FormatInt a0 (10 : Int)) fun x1 =>
 retM x1

def strconv_Itoa1 (a0 : Int) : Option (Str) :=
 callM vS (fun x1 => []) (strconv_Itoa a0) fun x1 =>
 retM x1

def strings_Builder_WriteString_o (a0 : Str) (a1 : (List Int)) : Option (Int × Unit × (List Int)) :=
 callO [0, 1] [.bld 78 (so 1 (cK .u8) a1), tk a1.length 1 5] (fun x1 => .tup []) (fun x1 => [.bld 78 (so 1 (cK .u8) a1), tk a1.length 1 5]) (bldCheck a1) fun x1 =>
 gdM ((a1.length + (octs a0).length) * 1 ≤ 140737488355328) <|
 letO (so 1 (cK .u8)) (fun x2 => [.bld 78 (so 1 (cK .u8) a1), tk x2.length 1 5]) (a1 ++ (octs a0)) fun x2 =>
 letE vI ((a0.length : Int)) fun x3 =>
 retM (x3, (), x2)

def strings_Builder_WriteByte_o (a0 : Int) (a1 : (List Int)) : Option (Unit × (List Int)) :=
 callO [0, 1] [.bld 78 (so 1 (cK .u8) a1), tk a1.length 1 5] (fun x1 => .tup []) (fun x1 => [.bld 78 (so 1 (cK .u8) a1), tk a1.length 1 5]) (bldCheck a1) fun x1 =>
 letE (sx (cK .u8)) ([a0] : (List Int)) fun x2 =>
 gdM ((a1.length + x2.length) * 1 ≤ 140737488355328) <|
 letO (so 1 (cK .u8)) (fun x3 => [.bld 78 (so 1 (cK .u8) a1), tk x3.length 1 5]) (a1 ++ x2) fun x3 =>
 retM ((), x3)

def table_key (a0 : (List GPair)) : Option (Str) :=
 bldM 5 <|
 letE vI ((a0.length : Int)) fun x1 =>
 loopM (fun (x2 : (List Int) × Int) => [(3, .ptr 0 0), (8, sl cGPair a0), (9, vI x1), (10, vI x2.2)]) (fun (x2 : (List Int) × Int) => [.bld 78 (so 1 (cK .u8) x2.1), tk x2.1.length 1 5]) (fun (x2 : (List Int) × Int) =>
 letE vB (decide (x2.2 < x1)) fun x3 =>
 iteM x3 (
 idxM a0 x2.2 fun x4 =>
 loopM (fun (x5 : (List Int) × Int) => [(3, .ptr 0 0), (8, sl cGPair a0), (9, vI x1), (10, vI x2.2), (18, .agg [vS x4.Name, vS x4.Value]), (19, vI x5.2)]) (fun (x5 : (List Int) × Int) => [.bld 78 (so 1 (cK .u8) x5.1), tk x5.1.length 1 5]) (fun (x5 : (List Int) × Int) =>
 letE vB (decide (x5.2 < (2 : Int))) fun x6 =>
 iteM x6 (
 idxM [x4.Name, x4.Value] x5.2 fun x7 =>
 letE vI ((x7.length : Int)) fun x8 =>
 callM vS (fun x9 => [.bld 78 (so 1 (cK .u8) x5.1), tk x5.1.length 1 5]) (strconv_Itoa1 x8) fun x9 =>
 callO [0, 1] [.bld 78 (so 1 (cK .u8) x5.1), tk x5.1.length 1 5] (fun x10 => .tup [vI x10.1, vNI x10.2.1]) (fun x10 => [.bld 78 (so 1 (cK .u8) x10.2.2), tk x10.2.2.length 1 5]) (strings_Builder_WriteString_o x9 x5.1) fun x10 =>
 callO [0, 1] [.bld 78 (so 1 (cK .u8) x10.2.2), tk x10.2.2.length 1 5] (fun x11 => vNI x11.1) (fun x11 => [.bld 78 (so 1 (cK .u8) x11.2), tk x11.2.length 1 5]) (strings_Builder_WriteByte_o (32 : Int) x10.2.2) fun x11 =>
 callO [0, 1] [.bld 78 (so 1 (cK .u8) x11.2), tk x11.2.length 1 5] (fun x12 => .tup [vI x12.1, vNI x12.2.1]) (fun x12 => [.bld 78 (so 1 (cK .u8) x12.2.2), tk x12.2.2.length 1 5]) (strings_Builder_WriteString_o x7 x11.2) fun x12 =>
 letE vI (wI (x5.2 + (1 : Int))) fun x13 =>
 nextM (x12.2.2, x13)) (
 exitM <|
 letE vI (wI (x2.2 + (1 : Int))) fun x14 =>
 nextM (x5.1, x14))) (x2.1, (0 : Int))) (
 exitM <|
 callO [0, 1] [.bld 78 (so 1 (cK .u8) x2.1), tk x2.1.length 1 5] (fun x15 => vS x15) (fun x15 => [.dead, .dead]) (bldStr x2.1) fun x15 =>
 retM x15)) (([] : List Int), (0 : Int))

def table_distinct (a0 : (List GFound)) : Option ((List GFound) × (List (Str × GFound))) :=
 letO (fun _ => .map 0) (fun x1 => [.map (mp kS (ag cGFound) x1)]) ([] : (List (Str × GFound))) fun x1 =>
 letE vI ((a0.length : Int)) fun x2 =>
 tokM 4 3 49 <|
 loopM (fun (x3 : (List (Str × GFound)) × Int × (List GFound)) => [(4, so 1 cGFound x3.2.2), (5, .map 0), (12, sl cGFound a0), (13, vI x2), (14, vI x3.2.1)]) (fun (x3 : (List (Str × GFound)) × Int × (List GFound)) => [.map (mp kS (ag cGFound) x3.1), tk x3.2.2.length 3 49]) (fun (x3 : (List (Str × GFound)) × Int × (List GFound)) =>
 letE vB (decide (x3.2.1 < x2)) fun x4 =>
 iteM x4 (
 idxM a0 x3.2.1 fun x5 =>
 callM vB (fun x6 => [.map (mp kS (ag cGFound) x3.1), tk x3.2.2.length 3 49, .box [sl cGPair x5.L, vI x5.X.T, vI x5.X.V]]) (label_Sane x5.L) fun x6 =>
 letE vB (!x6) fun x7 =>
 iteM x7 (
 letE vI (wI (x3.2.1 + (1 : Int))) fun x8 =>
 nextM (x3.1, x8, x3.2.2)) (
 callM vS (fun x9 => [.map (mp kS (ag cGFound) x3.1), tk x3.2.2.length 3 49, .box [sl cGPair x5.L, vI x5.X.T, vI x5.X.V]]) (table_key x5.L) fun x9 =>
 lookM x3.1 x9 (fun x10 =>
 letE vB (!true) fun x11 =>
 iteM x11 (
 letO (fun _ => .any) (fun x12 => [.map (mp kS (ag cGFound) x12), tk x3.2.2.length 3 49, .box [sl cGPair x5.L, vI x5.X.T, vI x5.X.V], .box [sl cGPair x10.L, vI x10.X.T, vI x10.X.V]]) (mst x3.1 x9 x5) fun x12 =>
 letE (sx cGFound) ([x5] : (List GFound)) fun x13 =>
 gdM ((x3.2.2.length + x13.length) * 40 ≤ 140737488355328) <|
 letO (so 1 cGFound) (fun x14 => [.map (mp kS (ag cGFound) x12), tk x14.length 3 49, .box [sl cGPair x5.L, vI x5.X.T, vI x5.X.V], .box [sl cGPair x10.L, vI x10.X.T, vI x10.X.V]]) (x3.2.2 ++ x13) fun x14 =>
 letE vI (wI (x3.2.1 + (1 : Int))) fun x15 =>
 nextM (x12, x15, x14)) (
 letE vI (wI (x3.2.1 + (1 : Int))) fun x16 =>
 nextM (x3.1, x16, x3.2.2))) (
 letE vB (!false) fun x17 =>
 iteM x17 (
 letO (fun _ => .any) (fun x18 => [.map (mp kS (ag cGFound) x18), tk x3.2.2.length 3 49, .box [sl cGPair x5.L, vI x5.X.T, vI x5.X.V], .box [.v (.slice none 0 0), vI (0 : Int), vI (0 : Int)]]) (mst x3.1 x9 x5) fun x18 =>
 letE (sx cGFound) ([x5] : (List GFound)) fun x19 =>
 gdM ((x3.2.2.length + x19.length) * 40 ≤ 140737488355328) <|
 letO (so 1 cGFound) (fun x20 => [.map (mp kS (ag cGFound) x18), tk x20.length 3 49, .box [sl cGPair x5.L, vI x5.X.T, vI x5.X.V], .box [.v (.slice none 0 0), vI (0 : Int), vI (0 : Int)]]) (x3.2.2 ++ x19) fun x20 =>
 letE vI (wI (x3.2.1 + (1 : Int))) fun x21 =>
 nextM (x18, x21, x20)) (
 letE vI (wI (x3.2.1 + (1 : Int))) fun x22 =>
 nextM (x3.1, x22, x3.2.2))))) (
 exitM <|
 retM (x3.2.2, x3.1))) (x1, (0 : Int), ([] : List GFound))

def hold_counted (a0 : GHold) : Option (GHold) :=
 callM vB (fun x1 => [.box [vB a0.On, vI a0.Since, vB a0.Hit, vI a0.Fired], .box [vB false, vI (0 : Int), vB false, vI (0 : Int)]]) (hold_Sane a0) fun x1 =>
 letE vB (!x1) fun x2 =>
 iteM x2 (
 retM (⟨false, (0 : Int), false, (0 : Int)⟩ : GHold)) (
 retM a0)

def hold_bounded (a0 : (List Int)) : Option ((List Int)) :=
 letE vI ((a0.length : Int)) fun x1 =>
 gdM (0 ≤ x1 ∧ x1 ≤ 9223372036854775807 ∧ x1.toNat * 8 ≤ 281474976710656) <|
 letO (fun x2 => .bsl 0 0 x2.length) (fun x2 => [.box (rowCells (x2.map cI))]) (List.replicate x1.toNat (0 : Int) : List Int) fun x2 =>
 letE vI ((a0.length : Int)) fun x3 =>
 loopM (fun (x4 : (List Int) × Int) => [(3, .bsl 0 0 x2.length), (9, sl cI a0), (10, vI x3), (11, vI x4.2)]) (fun (x4 : (List Int) × Int) => [.box (rowCells (x4.1.map cI))]) (fun (x4 : (List Int) × Int) =>
 letE vB (decide (x4.2 < x3)) fun x5 =>
 iteM x5 (
 idxM a0 x4.2 fun x6 =>
 letE vI (max x6 (0 : Int)) fun x7 =>
 letE vI (min x7 (9007199254740992 : Int)) fun x8 =>
 gdM (0 ≤ x4.2 ∧ x4.2 < (x2.length : Int)) <|
 gdM (x4.2.toNat < x4.1.length) <|
 letO (fun _ => .any) (fun x9 => [.box (rowCells (x9.map cI))]) (x4.1.set x4.2.toNat x8) fun x9 =>
 letE vI (wI (x4.2 + (1 : Int))) fun x10 =>
 nextM (x9, x10)) (
 exitM <|
 gdM (x2.length = x4.1.length) <|
 pubbM 2 <|
 retM x4.1)) (x2, (0 : Int))

def hold_Now (a0 : GHold) (a1 : Int) (a2 : Int) : Option (Int) :=
 callM (ag cGHold) (fun x1 => [.box [vB a0.On, vI a0.Since, vB a0.Hit, vI a0.Fired]]) (hold_counted a0) fun x1 =>
 letE (sx cI) ([a1, a2] : (List Int)) fun x2 =>
 callM (sl cI) (fun x3 => [.box [vB x1.On, vI x1.Since, vB x1.Hit, vI x1.Fired]]) (hold_bounded x2) fun x3 =>
 idxM x3 (0 : Int) fun x4 =>
 idxM x3 (1 : Int) fun x5 =>
 letE vB (decide ((0 : Int) < x5)) fun x6 =>
 iteM x6 (
 letE vB (decide (x1.Fired < x4)) fun x7 =>
 iteM x7 (
 letE vI (wI (x4 - x1.Fired)) fun x8 =>
 letE vB (decide (x8 < x5)) fun x9 =>
 iteM x1.Hit (
 letE vB (decide (x1.Fired = x4)) fun x10 =>
 letE vB (bif x10 then true else x9) fun x11 =>
 iteM x11 (
 retM (2 : Int)) (
 iteM x1.On (
 retM (1 : Int)) (
 retM (0 : Int)))) (
 iteM x1.On (
 retM (1 : Int)) (
 retM (0 : Int)))) (
 iteM x1.Hit (
 letE vB (decide (x1.Fired = x4)) fun x12 =>
 letE vB (bif x12 then true else false) fun x13 =>
 iteM x13 (
 retM (2 : Int)) (
 iteM x1.On (
 retM (1 : Int)) (
 retM (0 : Int)))) (
 iteM x1.On (
 retM (1 : Int)) (
 retM (0 : Int))))) (
 iteM x1.Hit (
 letE vB (decide (x1.Fired = x4)) fun x14 =>
 letE vB (bif x14 then true else false) fun x15 =>
 iteM x15 (
 retM (2 : Int)) (
 iteM x1.On (
 retM (1 : Int)) (
 retM (0 : Int)))) (
 iteM x1.On (
 retM (1 : Int)) (
 retM (0 : Int))))

def hold_Step (a0 : GHold) (a1 : Bool) (a2 : Int) (a3 : Int) (a4 : Int) : Option (GHold × Int) :=
 callM (ag cGHold) (fun x1 => [.box [vB a0.On, vI a0.Since, vB a0.Hit, vI a0.Fired], .box [vB false, vI (0 : Int), vB false, vI (0 : Int)]]) (hold_counted a0) fun x1 =>
 letE (sx cI) ([a2, a3, a4] : (List Int)) fun x2 =>
 callM (sl cI) (fun x3 => [.box [vB x1.On, vI x1.Since, vB x1.Hit, vI x1.Fired], .box [vB false, vI (0 : Int), vB false, vI (0 : Int)]]) (hold_bounded x2) fun x3 =>
 idxM x3 (0 : Int) fun x4 =>
 idxM x3 (1 : Int) fun x5 =>
 idxM x3 (2 : Int) fun x6 =>
 letE vB (!a1) fun x7 =>
 iteM x7 (
 tailM 5 <|
 callM vI (fun x8 => [.box [vB false, vI (0 : Int), vB x1.Hit, vI x1.Fired], .box [vB false, vI (0 : Int), vB false, vI (0 : Int)]]) (hold_Now (⟨false, (0 : Int), x1.Hit, x1.Fired⟩ : GHold) x4 x6) fun x8 =>
 retM ((⟨false, (0 : Int), x1.Hit, x1.Fired⟩ : GHold), x8)) (
 letE vB (!x1.On) fun x9 =>
 iteM x9 (
 letE vI (wI (x4 - x4)) fun x10 =>
 letE vB (decide (x5 ≤ x10)) fun x11 =>
 iteM x11 (
 tailM 5 <|
 callM vI (fun x12 => [.box [vB true, vI x4, vB true, vI x4], .box [vB false, vI (0 : Int), vB false, vI (0 : Int)]]) (hold_Now (⟨true, x4, true, x4⟩ : GHold) x4 x6) fun x12 =>
 retM ((⟨true, x4, true, x4⟩ : GHold), x12)) (
 tailM 5 <|
 callM vI (fun x13 => [.box [vB true, vI x4, vB x1.Hit, vI x1.Fired], .box [vB false, vI (0 : Int), vB false, vI (0 : Int)]]) (hold_Now (⟨true, x4, x1.Hit, x1.Fired⟩ : GHold) x4 x6) fun x13 =>
 retM ((⟨true, x4, x1.Hit, x1.Fired⟩ : GHold), x13))) (
 letE vB (decide (x4 < x1.Since)) fun x14 =>
 iteM x14 (
 letE vI (wI (x4 - x4)) fun x15 =>
 letE vB (decide (x5 ≤ x15)) fun x16 =>
 iteM x16 (
 tailM 5 <|
 callM vI (fun x17 => [.box [vB true, vI x4, vB true, vI x4], .box [vB false, vI (0 : Int), vB false, vI (0 : Int)]]) (hold_Now (⟨true, x4, true, x4⟩ : GHold) x4 x6) fun x17 =>
 retM ((⟨true, x4, true, x4⟩ : GHold), x17)) (
 tailM 5 <|
 callM vI (fun x18 => [.box [vB true, vI x4, vB x1.Hit, vI x1.Fired], .box [vB false, vI (0 : Int), vB false, vI (0 : Int)]]) (hold_Now (⟨true, x4, x1.Hit, x1.Fired⟩ : GHold) x4 x6) fun x18 =>
 retM ((⟨true, x4, x1.Hit, x1.Fired⟩ : GHold), x18))) (
 letE vI (wI (x4 - x1.Since)) fun x19 =>
 letE vB (decide (x5 ≤ x19)) fun x20 =>
 iteM x20 (
 tailM 5 <|
 callM vI (fun x21 => [.box [vB true, vI x1.Since, vB true, vI x4], .box [vB false, vI (0 : Int), vB false, vI (0 : Int)]]) (hold_Now (⟨true, x1.Since, true, x4⟩ : GHold) x4 x6) fun x21 =>
 retM ((⟨true, x1.Since, true, x4⟩ : GHold), x21)) (
 tailM 5 <|
 callM vI (fun x22 => [.box [vB true, vI x1.Since, vB x1.Hit, vI x1.Fired], .box [vB false, vI (0 : Int), vB false, vI (0 : Int)]]) (hold_Now (⟨true, x1.Since, x1.Hit, x1.Fired⟩ : GHold) x4 x6) fun x22 =>
 retM ((⟨true, x1.Since, x1.Hit, x1.Fired⟩ : GHold), x22)))))

def hold_Gone (a0 : GHold) (a1 : Int) (a2 : Int) : Option (Bool) :=
 callM (ag cGHold) (fun x1 => [.box [vB a0.On, vI a0.Since, vB a0.Hit, vI a0.Fired]]) (hold_counted a0) fun x1 =>
 letE (sx cI) ([a1, a2] : (List Int)) fun x2 =>
 callM (sl cI) (fun x3 => [.box [vB x1.On, vI x1.Since, vB x1.Hit, vI x1.Fired]]) (hold_bounded x2) fun x3 =>
 idxM x3 (0 : Int) fun x4 =>
 idxM x3 (1 : Int) fun x5 =>
 callM vI (fun x6 => [.box [vB x1.On, vI x1.Since, vB x1.Hit, vI x1.Fired]]) (hold_Now x1 x4 x5) fun x6 =>
 letE vB (!decide (x6 = (0 : Int))) fun x7 =>
 iteM x7 (
 retM false) (
 iteM x1.On (
 retM false) (
 letE vB (!x1.Hit) fun x8 =>
 iteM x8 (
 retM true) (
 letE vB (decide (x1.Fired < x4)) fun x9 =>
 iteM x9 (
 letE vI (wI (x4 - x1.Fired)) fun x10 =>
 letE vB (decide (x5 ≤ x10)) fun x11 =>
 letE vB (bif true then x11 else false) fun x12 =>
 retM x12) (
 letE vB (bif false then false else false) fun x13 =>
 retM x13))))

def table_sorted_1 (a0 : GAlert) (a1 : GAlert) : Option (Int) :=
 callM vI (fun x1 => [.box [sl cGPair a0.L, vB a0.H.On, vI a0.H.Since, vB a0.H.Hit, vI a0.H.Fired, vI a0.State, vI a0.V], .box [sl cGPair a1.L, vB a1.H.On, vI a1.H.Since, vB a1.H.Hit, vI a1.H.Fired, vI a1.State, vI a1.V]]) (label_Compare a0.L a1.L) fun x1 =>
 retM x1

def table_sorted_o (a0 : (List (Str × GAlert))) : Option ((List GAlert)) :=
 tokM 3 7 35 <|
 rangeM (fun (x1 : (List GAlert)) => [(3, so 2 cGAlert x1), (7, .ptr 1 0)]) (fun zb zc zs (x1 : (List GAlert)) => [.mapB zb zc (mp kS (ag cGAlert) a0), .iter 0 zc zs, tk x1.length 7 35]) a0 (fun zb zc zs (x1 : (List GAlert)) =>
 (fun zi x2 =>
 letE (sx cGAlert) ([x2.2] : (List GAlert)) fun x3 =>
 gdM ((x1.length + x3.length) * 72 ≤ 140737488355328) <|
 letO (so 2 cGAlert) (fun x4 => [.mapB zb zc (mp kS (ag cGAlert) a0), .iter 0 zc (zs ++ [zi]), tk x4.length 7 35, .box [sl cGPair x2.2.L, vB x2.2.H.On, vI x2.2.H.Since, vB x2.2.H.Hit, vI x2.2.H.Fired, vI x2.2.State, vI x2.2.V]]) (x1 ++ x3) fun x4 =>
 nextM x4,
 exitM <|
 forgM 6 [(3, so 2 cGAlert x1)] [.map (mp kS (ag cGAlert) a0), .dead, tk x1.length 7 35] <|
 unboxM 3 <|
 sortM table_sorted_1 x1 fun x5 =>
 pubbM 3 <|
 retM x5)) ([] : List GAlert)

def table_Step (a0 : GTable) (a1 : (List GFound)) (a2 : Int) (a3 : Int) (a4 : Int) : Option (GTable) :=
 callM (ag cGTable) (fun x1 => [.box [sl cGAlert a0.A, vI a0.Full], .box [.v (.slice none 0 0), vI (0 : Int)]]) (table_counted a0) fun x1 =>
 callM (fun x2 => .tup [(sl cGFound) x2.1, .map 2]) (fun x2 => [.box [sl cGAlert x1.A, vI x1.Full], .box [.v (.slice none 0 0), vI (0 : Int)], .map (mp kS (ag cGFound) x2.2)]) (table_distinct a1) fun x2 =>
 letO (fun _ => .map 3) (fun x3 => [.box [sl cGAlert x1.A, vI x1.Full], .box [.v (.slice none 0 0), vI (0 : Int)], .map (mp kS (ag cGFound) x2.2), .map (mp kS (ag cGAlert) x3)]) ([] : (List (Str × GAlert))) fun x3 =>
 letE vI ((x1.A.length : Int)) fun x4 =>
 loopM (fun (x5 : (List (Str × GAlert)) × Int) => [(1, sl cGFound x2.1), (2, vI a2), (3, vI a3), (4, vI a4), (5, .ptr 0 0), (10, .ptr 1 0), (11, .map 2), (12, .map 3), (34, sl cGAlert x1.A), (35, vI x4), (36, vI x5.2)]) (fun (x5 : (List (Str × GAlert)) × Int) => [.box [sl cGAlert x1.A, vI x1.Full], .box [.v (.slice none 0 0), vI (0 : Int)], .map (mp kS (ag cGFound) x2.2), .map (mp kS (ag cGAlert) x5.1)]) (fun (x5 : (List (Str × GAlert)) × Int) =>
 letE vB (decide (x5.2 < x4)) fun x6 =>
 iteM x6 (
 idxM x1.A x5.2 fun x7 =>
 callM vS (fun x8 => [.box [sl cGAlert x1.A, vI x1.Full], .box [.v (.slice none 0 0), vI (0 : Int)], .map (mp kS (ag cGFound) x2.2), .map (mp kS (ag cGAlert) x5.1), .box [sl cGPair x7.L, vB x7.H.On, vI x7.H.Since, vB x7.H.Hit, vI x7.H.Fired, vI x7.State, vI x7.V]]) (table_key x7.L) fun x8 =>
 lookM x2.2 x8 (fun x9 =>
 callM (fun x10 => .tup [(ag cGHold) x10.1, vI x10.2]) (fun x10 => [.box [sl cGAlert x1.A, vI x1.Full], .box [.v (.slice none 0 0), vI (0 : Int)], .map (mp kS (ag cGFound) x2.2), .map (mp kS (ag cGAlert) x5.1), .box [sl cGPair x7.L, vB x7.H.On, vI x7.H.Since, vB x7.H.Hit, vI x7.H.Fired, vI x7.State, vI x7.V], .box [sl cGPair x9.L, vI x9.X.T, vI x9.X.V]]) (hold_Step x7.H true a2 a3 a4) fun x10 =>
 letO (fun _ => .any) (fun x11 => [.box [sl cGAlert x1.A, vI x1.Full], .box [.v (.slice none 0 0), vI (0 : Int)], .map (mp kS (ag cGFound) x2.2), .map (mp kS (ag cGAlert) x11), .box [sl cGPair x7.L, vB x10.1.On, vI x10.1.Since, vB x10.1.Hit, vI x10.1.Fired, vI x10.2, vI x9.X.V], .box [sl cGPair x9.L, vI x9.X.T, vI x9.X.V]]) (mst x5.1 x8 (⟨x7.L, x10.1, x10.2, x9.X.V⟩ : GAlert)) fun x11 =>
 callM vB (fun x12 => [.box [sl cGAlert x1.A, vI x1.Full], .box [.v (.slice none 0 0), vI (0 : Int)], .map (mp kS (ag cGFound) x2.2), .map (mp kS (ag cGAlert) x11), .box [sl cGPair x7.L, vB x10.1.On, vI x10.1.Since, vB x10.1.Hit, vI x10.1.Fired, vI x10.2, vI x9.X.V], .box [sl cGPair x9.L, vI x9.X.T, vI x9.X.V]]) (hold_Gone x10.1 a2 a4) fun x12 =>
 iteM x12 (
 letO (fun _ => .any) (fun x13 => [.box [sl cGAlert x1.A, vI x1.Full], .box [.v (.slice none 0 0), vI (0 : Int)], .map (mp kS (ag cGFound) x2.2), .map (mp kS (ag cGAlert) x13), .box [sl cGPair x7.L, vB x10.1.On, vI x10.1.Since, vB x10.1.Hit, vI x10.1.Fired, vI x10.2, vI x9.X.V], .box [sl cGPair x9.L, vI x9.X.T, vI x9.X.V]]) (mdl x11 x8) fun x13 =>
 letE vI (wI (x5.2 + (1 : Int))) fun x14 =>
 nextM (x13, x14)) (
 letE vI (wI (x5.2 + (1 : Int))) fun x15 =>
 nextM (x11, x15))) (
 callM (fun x16 => .tup [(ag cGHold) x16.1, vI x16.2]) (fun x16 => [.box [sl cGAlert x1.A, vI x1.Full], .box [.v (.slice none 0 0), vI (0 : Int)], .map (mp kS (ag cGFound) x2.2), .map (mp kS (ag cGAlert) x5.1), .box [sl cGPair x7.L, vB x7.H.On, vI x7.H.Since, vB x7.H.Hit, vI x7.H.Fired, vI x7.State, vI x7.V], .box [.v (.slice none 0 0), vI (0 : Int), vI (0 : Int)]]) (hold_Step x7.H false a2 a3 a4) fun x16 =>
 letO (fun _ => .any) (fun x17 => [.box [sl cGAlert x1.A, vI x1.Full], .box [.v (.slice none 0 0), vI (0 : Int)], .map (mp kS (ag cGFound) x2.2), .map (mp kS (ag cGAlert) x17), .box [sl cGPair x7.L, vB x16.1.On, vI x16.1.Since, vB x16.1.Hit, vI x16.1.Fired, vI x16.2, vI x7.V], .box [.v (.slice none 0 0), vI (0 : Int), vI (0 : Int)]]) (mst x5.1 x8 (⟨x7.L, x16.1, x16.2, x7.V⟩ : GAlert)) fun x17 =>
 callM vB (fun x18 => [.box [sl cGAlert x1.A, vI x1.Full], .box [.v (.slice none 0 0), vI (0 : Int)], .map (mp kS (ag cGFound) x2.2), .map (mp kS (ag cGAlert) x17), .box [sl cGPair x7.L, vB x16.1.On, vI x16.1.Since, vB x16.1.Hit, vI x16.1.Fired, vI x16.2, vI x7.V], .box [.v (.slice none 0 0), vI (0 : Int), vI (0 : Int)]]) (hold_Gone x16.1 a2 a4) fun x18 =>
 iteM x18 (
 letO (fun _ => .any) (fun x19 => [.box [sl cGAlert x1.A, vI x1.Full], .box [.v (.slice none 0 0), vI (0 : Int)], .map (mp kS (ag cGFound) x2.2), .map (mp kS (ag cGAlert) x19), .box [sl cGPair x7.L, vB x16.1.On, vI x16.1.Since, vB x16.1.Hit, vI x16.1.Fired, vI x16.2, vI x7.V], .box [.v (.slice none 0 0), vI (0 : Int), vI (0 : Int)]]) (mdl x17 x8) fun x19 =>
 letE vI (wI (x5.2 + (1 : Int))) fun x20 =>
 nextM (x19, x20)) (
 letE vI (wI (x5.2 + (1 : Int))) fun x21 =>
 nextM (x17, x21)))) (
 exitM <|
 letE vI ((x2.1.length : Int)) fun x22 =>
 loopM (fun (x23 : Int × (List (Str × GAlert)) × Int) => [(2, vI a2), (3, vI a3), (4, vI a4), (5, .ptr 0 0), (10, .ptr 1 0), (12, .map 3), (77, sl cGFound x2.1), (78, vI x22), (79, vI x23.2.2)]) (fun (x23 : Int × (List (Str × GAlert)) × Int) => [.box [sl cGAlert x1.A, vI x23.1], .box [.v (.slice none 0 0), vI (0 : Int)], .dead, .map (mp kS (ag cGAlert) x23.2.1)]) (fun (x23 : Int × (List (Str × GAlert)) × Int) =>
 letE vB (decide (x23.2.2 < x22)) fun x24 =>
 iteM x24 (
 idxM x2.1 x23.2.2 fun x25 =>
 callM vS (fun x26 => [.box [sl cGAlert x1.A, vI x23.1], .box [.v (.slice none 0 0), vI (0 : Int)], .dead, .map (mp kS (ag cGAlert) x23.2.1), .box [sl cGPair x25.L, vI x25.X.T, vI x25.X.V]]) (table_key x25.L) fun x26 =>
 lookM x23.2.1 x26 (fun x27 =>
 letE vI (wI (x23.2.2 + (1 : Int))) fun x28 =>
 nextM (x23.1, x23.2.1, x28)) (
 letE vI ((x23.2.1.length : Int)) fun x29 =>
 letE vB (decide ((16 : Int) ≤ x29)) fun x30 =>
 iteM x30 (
 letE vI (wI (x23.1 + (1 : Int))) fun x31 =>
 letE vI (min x31 (9007199254740992 : Int)) fun x32 =>
 letE vI (wI (x23.2.2 + (1 : Int))) fun x33 =>
 nextM (x32, x23.2.1, x33)) (
 callM (fun x34 => .tup [(ag cGHold) x34.1, vI x34.2]) (fun x34 => [.box [sl cGAlert x1.A, vI x23.1], .box [.v (.slice none 0 0), vI (0 : Int)], .dead, .map (mp kS (ag cGAlert) x23.2.1), .box [sl cGPair x25.L, vI x25.X.T, vI x25.X.V], .box [.v (.slice none 0 0), vB false, vI (0 : Int), vB false, vI (0 : Int), vI (0 : Int), vI (0 : Int)]]) (hold_Step (⟨false, (0 : Int), false, (0 : Int)⟩ : GHold) true a2 a3 a4) fun x34 =>
 letO (fun _ => .any) (fun x35 => [.box [sl cGAlert x1.A, vI x23.1], .box [.v (.slice none 0 0), vI (0 : Int)], .dead, .map (mp kS (ag cGAlert) x35), .box [sl cGPair x25.L, vI x25.X.T, vI x25.X.V], .box [.v (.slice none 0 0), vB false, vI (0 : Int), vB false, vI (0 : Int), vI (0 : Int), vI (0 : Int)], .box [vB x34.1.On, vI x34.1.Since, vB x34.1.Hit, vI x34.1.Fired]]) (mst x23.2.1 x26 (⟨x25.L, x34.1, x34.2, x25.X.V⟩ : GAlert)) fun x35 =>
 letE vI (wI (x23.2.2 + (1 : Int))) fun x36 =>
 nextM (x23.1, x35, x36)))) (
 exitM <|
 tailM 5 <|
 callO [3] [.box [sl cGAlert x1.A, vI x23.1], .box [.v (.slice none 0 0), vI (0 : Int)], .dead, .map (mp kS (ag cGAlert) x23.2.1)] (fun x37 => (sl cGAlert) x37) (fun x37 => [.box [sl cGAlert x1.A, vI x23.1], .box [.v (.slice none 0 0), vI (0 : Int)], .dead, .map (mp kS (ag cGAlert) x23.2.1)]) (table_sorted_o x23.2.1) fun x37 =>
 retM (⟨x37, x23.1⟩ : GTable))) (x1.Full, x5.1, (0 : Int)))) (x3, (0 : Int))

def table_Find (a0 : GTable) (a1 : (List GPair)) : Option (GAlert × Bool) :=
 callM vB (fun x1 => [.box [sl cGAlert a0.A, vI a0.Full], .box [.v (.slice none 0 0), vB false, vI (0 : Int), vB false, vI (0 : Int), vI (0 : Int), vI (0 : Int)]]) (label_Sane a1) fun x1 =>
 letE vB (!x1) fun x2 =>
 iteM x2 (
 retM ((⟨([] : (List GPair)), (⟨false, (0 : Int), false, (0 : Int)⟩ : GHold), (0 : Int), (0 : Int)⟩ : GAlert), false)) (
 callM (ag cGTable) (fun x3 => [.box [sl cGAlert a0.A, vI a0.Full], .box [.v (.slice none 0 0), vB false, vI (0 : Int), vB false, vI (0 : Int), vI (0 : Int), vI (0 : Int)]]) (table_counted a0) fun x3 =>
 letE vI ((x3.A.length : Int)) fun x4 =>
 loopM (fun (x5 : Int) => [(1, sl cGPair a1), (4, .ptr 1 0), (14, sl cGAlert x3.A), (15, vI x4), (16, vI x5)]) (fun (x5 : Int) => [.dead, .box [.v (.slice none 0 0), vB false, vI (0 : Int), vB false, vI (0 : Int), vI (0 : Int), vI (0 : Int)]]) (fun (x5 : Int) =>
 letE vB (decide (x5 < x4)) fun x6 =>
 iteM x6 (
 idxM x3.A x5 fun x7 =>
 callM vI (fun x8 => [.dead, .box [.v (.slice none 0 0), vB false, vI (0 : Int), vB false, vI (0 : Int), vI (0 : Int), vI (0 : Int)], .box [sl cGPair x7.L, vB x7.H.On, vI x7.H.Since, vB x7.H.Hit, vI x7.H.Fired, vI x7.State, vI x7.V]]) (label_Compare x7.L a1) fun x8 =>
 letE vB (decide (x8 = (0 : Int))) fun x9 =>
 iteM x9 (
 exitM <|
 retM (x7, true)) (
 letE vI (wI (x5 + (1 : Int))) fun x10 =>
 nextM x10)) (
 exitM <|
 retM ((⟨([] : (List GPair)), (⟨false, (0 : Int), false, (0 : Int)⟩ : GHold), (0 : Int), (0 : Int)⟩ : GAlert), false))) (0 : Int))

def table_Active (a0 : GTable) : Option ((List GAlert)) :=
 callM (ag cGTable) (fun x1 => [.box [sl cGAlert a0.A, vI a0.Full]]) (table_counted a0) fun x1 =>
 letE vI ((x1.A.length : Int)) fun x2 =>
 tokM 3 7 35 <|
 loopM (fun (x3 : Int × (List GAlert)) => [(3, so 1 cGAlert x3.2), (8, sl cGAlert x1.A), (9, vI x2), (10, vI x3.1)]) (fun (x3 : Int × (List GAlert)) => [.dead, tk x3.2.length 7 35]) (fun (x3 : Int × (List GAlert)) =>
 letE vB (decide (x3.1 < x2)) fun x4 =>
 iteM x4 (
 idxM x1.A x3.1 fun x5 =>
 letE vB (!decide (x5.State = (0 : Int))) fun x6 =>
 iteM x6 (
 letE (sx cGAlert) ([x5] : (List GAlert)) fun x7 =>
 gdM ((x3.2.length + x7.length) * 72 ≤ 140737488355328) <|
 letO (so 1 cGAlert) (fun x8 => [.dead, tk x8.length 7 35, .box [sl cGPair x5.L, vB x5.H.On, vI x5.H.Since, vB x5.H.Hit, vI x5.H.Fired, vI x5.State, vI x5.V]]) (x3.2 ++ x7) fun x8 =>
 letE vI (wI (x3.1 + (1 : Int))) fun x9 =>
 nextM (x9, x8)) (
 letE vI (wI (x3.1 + (1 : Int))) fun x10 =>
 nextM (x10, x3.2))) (
 exitM <|
 retM x3.2)) ((0 : Int), ([] : List GAlert))

def law17_awake : Option (Bool) :=
 callM (ag cGFound) (fun x1 => []) (law17_found ([50] : Str) (5 : Int)) fun x1 =>
 callM (ag cGFound) (fun x2 => []) (law17_found ([49] : Str) (6 : Int)) fun x2 =>
 letE (sx cGFound) ([x1, x2] : (List GFound)) fun x3 =>
 callM (ag cGTable) (fun x4 => []) (table_Step (⟨([] : (List GAlert)), (0 : Int)⟩ : GTable) x3 (10 : Int) (0 : Int) (0 : Int)) fun x4 =>
 tailA 5 4 2 <|
 callM (ag cGFound) (fun x5 => [.box [sl cGAlert x4.A, vI x4.Full]]) (law17_found ([50] : Str) (7 : Int)) fun x5 =>
 letE (sx cGFound) ([x5] : (List GFound)) fun x6 =>
 callM (ag cGTable) (fun x7 => [.box [sl cGAlert x4.A, vI x4.Full]]) (table_Step x4 x6 (20 : Int) (0 : Int) (0 : Int)) fun x7 =>
 tailA 8 7 3 <|
 callM (ag cGFound) (fun x8 => [.box [sl cGAlert x4.A, vI x4.Full], .box [sl cGAlert x7.A, vI x7.Full]]) (law17_found ([50] : Str) (0 : Int)) fun x8 =>
 callM (fun x9 => .tup [(ag cGAlert) x9.1, vB x9.2]) (fun x9 => [.box [sl cGAlert x4.A, vI x4.Full], .box [sl cGAlert x7.A, vI x7.Full]]) (table_Find x7 x8.L) fun x9 =>
 letE vI ((x4.A.length : Int)) fun x10 =>
 letE vB (decide (x10 = (2 : Int))) fun x11 =>
 iteM x11 (
 idxM x4.A (0 : Int) fun x12 =>
 letE vB (decide (x12.V = (6 : Int))) fun x13 =>
 iteM x13 (
 letE vB (decide (x12.State = (2 : Int))) fun x14 =>
 iteM x14 (
 letE vI ((x7.A.length : Int)) fun x15 =>
 letE vB (decide (x15 = (1 : Int))) fun x16 =>
 letE vB (bif x16 then x9.2 else false) fun x17 =>
 iteM x17 (
 letE vB (decide (x9.1.V = (7 : Int))) fun x18 =>
 iteM x18 (
 callM (so 4 cGAlert) (fun x19 => [.box [sl cGAlert x4.A, vI x4.Full], .box [sl cGAlert x7.A, vI x7.Full], .box [sl cGPair x9.1.L, vB x9.1.H.On, vI x9.1.H.Since, vB x9.1.H.Hit, vI x9.1.H.Fired, vI x9.1.State, vI x9.1.V], .dead, tk x19.length 7 35]) (table_Active x4) fun x19 =>
 letE vI ((x19.length : Int)) fun x20 =>
 letE vB (decide (x20 = (2 : Int))) fun x21 =>
 iteM x21 (
 callM vB (fun x22 => [.box [sl cGAlert x4.A, vI x4.Full], .box [sl cGAlert x7.A, vI x7.Full], .box [sl cGPair x9.1.L, vB x9.1.H.On, vI x9.1.H.Since, vB x9.1.H.Hit, vI x9.1.H.Fired, vI x9.1.State, vI x9.1.V], .dead, tk x19.length 7 35]) (table_Sane x4) fun x22 =>
 retM x22) (
 retM false)) (
 retM false)) (
 retM false)) (
 retM false)) (
 retM false)) (
 retM false)

def ref03_Few (a0 : (List GPair)) : Option (Bool) :=
 loopM (fun (x1 : Int × Int) => [(0, sl cGPair a0), (3, vI x1.1), (4, vI x1.2)]) (fun (x1 : Int × Int) => []) (fun (x1 : Int × Int) =>
 letE vI ((a0.length : Int)) fun x2 =>
 letE vB (decide (x1.2 < x2)) fun x3 =>
 iteM x3 (
 idxM a0 x1.2 fun x4 =>
 letE vI ((x4.Name.length : Int)) fun x5 =>
 letE vI (wI (x1.1 + x5)) fun x6 =>
 letE vI ((x4.Value.length : Int)) fun x7 =>
 letE vI (wI (x6 + x7)) fun x8 =>
 letE vI (wI (x1.2 + (1 : Int))) fun x9 =>
 nextM (x8, x9)) (
 exitM <|
 letE vI ((a0.length : Int)) fun x10 =>
 letE vB (decide (x10 ≤ (40 : Int))) fun x11 =>
 letE vB (decide (x1.1 ≤ (3000 : Int))) fun x12 =>
 letE vB (bif x11 then x12 else false) fun x13 =>
 retM x13)) ((0 : Int), (0 : Int))

def ref17_Few (a0 : GTable) : Option (Bool) :=
 loopM (fun (x1 : Int) => [(1, .ptr 0 0), (3, vI x1)]) (fun (x1 : Int) => [.box [sl cGAlert a0.A, vI a0.Full]]) (fun (x1 : Int) =>
 letE vI ((a0.A.length : Int)) fun x2 =>
 letE vB (decide (x1 < x2)) fun x3 =>
 iteM x3 (
 idxM a0.A x1 fun x4 =>
 callM vB (fun x5 => [.box [sl cGAlert a0.A, vI a0.Full]]) (ref03_Few x4.L) fun x5 =>
 letE vB (!x5) fun x6 =>
 iteM x6 (
 exitM <|
 retM false) (
 letE vI (wI (x1 + (1 : Int))) fun x7 =>
 nextM x7)) (
 exitM <|
 letE vI ((a0.A.length : Int)) fun x8 =>
 letE vB (decide (x8 ≤ (40 : Int))) fun x9 =>
 retM x9)) (0 : Int)

def ref17_FewFound (a0 : (List GFound)) : Option (Bool) :=
 loopM (fun (x1 : Int) => [(0, sl cGFound a0), (3, vI x1)]) (fun (x1 : Int) => []) (fun (x1 : Int) =>
 letE vI ((a0.length : Int)) fun x2 =>
 letE vB (decide (x1 < x2)) fun x3 =>
 iteM x3 (
 idxM a0 x1 fun x4 =>
 callM vB (fun x5 => []) (ref03_Few x4.L) fun x5 =>
 letE vB (!x5) fun x6 =>
 iteM x6 (
 exitM <|
 retM false) (
 letE vI (wI (x1 + (1 : Int))) fun x7 =>
 nextM x7)) (
 exitM <|
 letE vI ((a0.length : Int)) fun x8 =>
 letE vB (decide (x8 ≤ (60 : Int))) fun x9 =>
 retM x9)) (0 : Int)

def law17_has (a0 : (List GFound)) (a1 : (List GPair)) : Option (Bool) :=
 loopM (fun (x1 : Int) => [(0, sl cGFound a0), (1, sl cGPair a1), (5, vI x1)]) (fun (x1 : Int) => []) (fun (x1 : Int) =>
 letE vI ((a0.length : Int)) fun x2 =>
 letE vB (decide (x1 < x2)) fun x3 =>
 iteM x3 (
 idxM a0 x1 fun x4 =>
 callM vI (fun x5 => []) (label_Compare x4.L a1) fun x5 =>
 letE vB (decide (x5 = (0 : Int))) fun x6 =>
 iteM x6 (
 callM vB (fun x7 => []) (label_Sane x4.L) fun x7 =>
 iteM x7 (
 exitM <|
 retM true) (
 letE vI (wI (x1 + (1 : Int))) fun x8 =>
 nextM x8)) (
 letE vI (wI (x1 + (1 : Int))) fun x9 =>
 nextM x9)) (
 exitM <|
 retM false)) (0 : Int)

def law17_TableEach (a0 : GTable) (a1 : (List GFound)) (a2 : (List GPair)) (a3 : Int) (a4 : Int) (a5 : Int) : Option (Bool) :=
 callM vB (fun x1 => [.box [sl cGAlert a0.A, vI a0.Full]]) (law17_awake) fun x1 =>
 callM vB (fun x2 => [.box [sl cGAlert a0.A, vI a0.Full]]) (ref17_Few a0) fun x2 =>
 letE vB (!x2) fun x3 =>
 iteM x3 (
 retM x1) (
 callM vB (fun x4 => [.box [sl cGAlert a0.A, vI a0.Full]]) (ref17_FewFound a1) fun x4 =>
 letE vB (!x4) fun x5 =>
 iteM x5 (
 retM x1) (
 callM vB (fun x6 => [.box [sl cGAlert a0.A, vI a0.Full]]) (ref03_Few a2) fun x6 =>
 letE vB (!x6) fun x7 =>
 iteM x7 (
 retM x1) (
 callM vB (fun x8 => [.box [sl cGAlert a0.A, vI a0.Full]]) (table_Sane a0) fun x8 =>
 letE vB (!x8) fun x9 =>
 iteM x9 (
 retM x1) (
 callM vB (fun x10 => [.box [sl cGAlert a0.A, vI a0.Full]]) (label_Sane a2) fun x10 =>
 letE vB (!x10) fun x11 =>
 iteM x11 (
 retM x1) (
 callM (ag cGTable) (fun x12 => [.box [sl cGAlert a0.A, vI a0.Full]]) (table_Step a0 a1 a3 a4 a5) fun x12 =>
 callM (fun x13 => .tup [(ag cGAlert) x13.1, vB x13.2]) (fun x13 => [.box [sl cGAlert a0.A, vI a0.Full], .box [sl cGAlert x12.A, vI x12.Full]]) (table_Find a0 a2) fun x13 =>
 callM (fun x14 => .tup [(ag cGAlert) x14.1, vB x14.2]) (fun x14 => [.box [sl cGAlert a0.A, vI a0.Full], .box [sl cGAlert x12.A, vI x12.Full], .box [sl cGPair x13.1.L, vB x13.1.H.On, vI x13.1.H.Since, vB x13.1.H.Hit, vI x13.1.H.Fired, vI x13.1.State, vI x13.1.V]]) (table_Find x12 a2) fun x14 =>
 callM vB (fun x15 => [.box [sl cGAlert a0.A, vI a0.Full], .box [sl cGAlert x12.A, vI x12.Full], .box [sl cGPair x13.1.L, vB x13.1.H.On, vI x13.1.H.Since, vB x13.1.H.Hit, vI x13.1.H.Fired, vI x13.1.State, vI x13.1.V], .box [sl cGPair x14.1.L, vB x14.1.H.On, vI x14.1.H.Since, vB x14.1.H.Hit, vI x14.1.H.Fired, vI x14.1.State, vI x14.1.V]]) (law17_has a1 a2) fun x15 =>
 callM (fun x16 => .tup [(ag cGHold) x16.1, vI x16.2]) (fun x16 => [.box [sl cGAlert a0.A, vI a0.Full], .box [sl cGAlert x12.A, vI x12.Full], .box [sl cGPair x13.1.L, vB x13.1.H.On, vI x13.1.H.Since, vB x13.1.H.Hit, vI x13.1.H.Fired, vI x13.1.State, vI x13.1.V], .box [sl cGPair x14.1.L, vB x14.1.H.On, vI x14.1.H.Since, vB x14.1.H.Hit, vI x14.1.H.Fired, vI x14.1.State, vI x14.1.V]]) (hold_Step x13.1.H x15 a3 a4 a5) fun x16 =>
 iteM x13.2 (
 callM vB (fun x17 => [.box [sl cGAlert a0.A, vI a0.Full], .box [sl cGAlert x12.A, vI x12.Full], .box [sl cGPair x13.1.L, vB x13.1.H.On, vI x13.1.H.Since, vB x13.1.H.Hit, vI x13.1.H.Fired, vI x13.1.State, vI x13.1.V], .box [sl cGPair x14.1.L, vB x14.1.H.On, vI x14.1.H.Since, vB x14.1.H.Hit, vI x14.1.H.Fired, vI x14.1.State, vI x14.1.V], .box [vB x16.1.On, vI x16.1.Since, vB x16.1.Hit, vI x16.1.Fired]]) (hold_Gone x16.1 a3 a5) fun x17 =>
 letE vB (!x17) fun x18 =>
 iteM x18 (
 letE vB (bif x1 then x14.2 else false) fun x19 =>
 iteM x19 (
 letE vB (((x14.1.H.On == x16.1.On) && (decide (x14.1.H.Since = x16.1.Since) && ((x14.1.H.Hit == x16.1.Hit) && (decide (x14.1.H.Fired = x16.1.Fired) && true))))) fun x20 =>
 iteM x20 (
 letE vB (decide (x14.1.State = x16.2)) fun x21 =>
 retM x21) (
 retM false)) (
 retM false)) (
 letE vB (!x14.2) fun x22 =>
 letE vB (bif x1 then x22 else false) fun x23 =>
 retM x23)) (
 letE vB (!x15) fun x24 =>
 iteM x24 (
 letE vB (!x14.2) fun x25 =>
 letE vB (bif x1 then x25 else false) fun x26 =>
 retM x26) (
 letE vB (decide (a0.Full < x12.Full)) fun x27 =>
 iteM x27 (
 letE vB (!x14.2) fun x28 =>
 iteM x1 (
 iteM x28 (
 letE vB (bif true then true else false) fun x29 =>
 retM x29) (
 letE vB (((x14.1.H.On == x16.1.On) && (decide (x14.1.H.Since = x16.1.Since) && ((x14.1.H.Hit == x16.1.Hit) && (decide (x14.1.H.Fired = x16.1.Fired) && true))))) fun x30 =>
 iteM x30 (
 letE vB (decide (x14.1.State = x16.2)) fun x31 =>
 letE vB (bif true then x31 else false) fun x32 =>
 letE vB (bif false then true else x32) fun x33 =>
 retM x33) (
 letE vB (bif false then false else false) fun x34 =>
 letE vB (bif false then true else x34) fun x35 =>
 retM x35))) (
 letE vB (bif x28 then true else false) fun x36 =>
 retM false)) (
 letE vB (decide (a0.Full = (9007199254740992 : Int))) fun x37 =>
 iteM x37 (
 letE vB (!x14.2) fun x38 =>
 iteM x1 (
 iteM x38 (
 letE vB (bif true then true else false) fun x39 =>
 retM x39) (
 letE vB (((x14.1.H.On == x16.1.On) && (decide (x14.1.H.Since = x16.1.Since) && ((x14.1.H.Hit == x16.1.Hit) && (decide (x14.1.H.Fired = x16.1.Fired) && true))))) fun x40 =>
 iteM x40 (
 letE vB (decide (x14.1.State = x16.2)) fun x41 =>
 letE vB (bif true then x41 else false) fun x42 =>
 letE vB (bif false then true else x42) fun x43 =>
 retM x43) (
 letE vB (bif false then false else false) fun x44 =>
 letE vB (bif false then true else x44) fun x45 =>
 retM x45))) (
 letE vB (bif x38 then true else false) fun x46 =>
 retM false)) (
 letE vB (bif x1 then x14.2 else false) fun x47 =>
 iteM x47 (
 letE vB (((x14.1.H.On == x16.1.On) && (decide (x14.1.H.Since = x16.1.Since) && ((x14.1.H.Hit == x16.1.Hit) && (decide (x14.1.H.Fired = x16.1.Fired) && true))))) fun x48 =>
 iteM x48 (
 letE vB (decide (x14.1.State = x16.2)) fun x49 =>
 retM x49) (
 retM false)) (
 retM false))))))))))

def law17_TableKeeps (a0 : GTable) (a1 : (List GFound)) (a2 : Int) (a3 : Int) (a4 : Int) : Option (Bool) :=
 callM vB (fun x1 => [.box [sl cGAlert a0.A, vI a0.Full]]) (law17_awake) fun x1 =>
 callM vB (fun x2 => [.box [sl cGAlert a0.A, vI a0.Full]]) (ref17_Few a0) fun x2 =>
 letE vB (!x2) fun x3 =>
 iteM x3 (
 retM x1) (
 callM vB (fun x4 => [.box [sl cGAlert a0.A, vI a0.Full]]) (ref17_FewFound a1) fun x4 =>
 letE vB (!x4) fun x5 =>
 iteM x5 (
 retM x1) (
 callM vB (fun x6 => [.box [sl cGAlert a0.A, vI a0.Full]]) (table_Sane a0) fun x6 =>
 letE vB (!x6) fun x7 =>
 iteM x7 (
 retM x1) (
 callM (ag cGTable) (fun x8 => [.box [sl cGAlert a0.A, vI a0.Full]]) (table_Step a0 a1 a2 a3 a4) fun x8 =>
 callM (ag cGTable) (fun x9 => [.box [sl cGAlert a0.A, vI a0.Full], .box [sl cGAlert x8.A, vI x8.Full]]) (table_Step a0 ([] : (List GFound)) a2 a3 a4) fun x9 =>
 loopM (fun (x10 : Int × Int) => [(5, .ptr 0 0), (11, vB x1), (12, .ptr 1 0), (13, .ptr 2 0), (14, vI x10.1), (15, vI x10.2)]) (fun (x10 : Int × Int) => [.box [sl cGAlert a0.A, vI a0.Full], .box [sl cGAlert x8.A, vI x8.Full], .box [sl cGAlert x9.A, vI x9.Full]]) (fun (x10 : Int × Int) =>
 letE vI ((x8.A.length : Int)) fun x11 =>
 letE vB (decide (x10.2 < x11)) fun x12 =>
 iteM x12 (
 idxM x8.A x10.2 fun x13 =>
 letE vB (!decide (x13.State = (0 : Int))) fun x14 =>
 iteM x14 (
 letE vI (wI (x10.1 + (1 : Int))) fun x15 =>
 letE vI (wI (x10.2 + (1 : Int))) fun x16 =>
 nextM (x15, x16)) (
 letE vI (wI (x10.2 + (1 : Int))) fun x17 =>
 nextM (x10.1, x17))) (
 exitM <|
 loopM (fun (x18 : Int) => [(5, .ptr 0 0), (11, vB x1), (12, .ptr 1 0), (13, .ptr 2 0), (14, vI x10.1), (16, vI x18)]) (fun (x18 : Int) => [.box [sl cGAlert a0.A, vI a0.Full], .box [sl cGAlert x8.A, vI x8.Full], .box [sl cGAlert x9.A, vI x9.Full]]) (fun (x18 : Int) =>
 letE vI ((x9.A.length : Int)) fun x19 =>
 letE vB (decide (x18 < x19)) fun x20 =>
 iteM x20 (
 tailA 12 11 17 <|
 idxM x9.A x18 fun x21 =>
 callM (fun x22 => .tup [(ag cGAlert) x22.1, vB x22.2]) (fun x22 => [.box [sl cGAlert a0.A, vI a0.Full], .box [sl cGAlert x8.A, vI x8.Full], .box [sl cGAlert x9.A, vI x9.Full]]) (table_Find a0 x21.L) fun x22 =>
 letE vB (!x22.2) fun x23 =>
 iteM x23 (
 exitM <|
 retM false) (
 letE vI (wI (x18 + (1 : Int))) fun x24 =>
 nextM x24)) (
 exitM <|
 iteM x1 (
 callM vB (fun x25 => [.box [sl cGAlert a0.A, vI a0.Full], .box [sl cGAlert x8.A, vI x8.Full], .box [sl cGAlert x9.A, vI x9.Full]]) (table_Sane x8) fun x25 =>
 iteM x25 (
 callM vB (fun x26 => [.box [sl cGAlert a0.A, vI a0.Full], .box [sl cGAlert x8.A, vI x8.Full], .box [sl cGAlert x9.A, vI x9.Full]]) (table_Sane x9) fun x26 =>
 iteM x26 (
 callM (so 4 cGAlert) (fun x27 => [.box [sl cGAlert a0.A, vI a0.Full], .box [sl cGAlert x8.A, vI x8.Full], .box [sl cGAlert x9.A, vI x9.Full], .dead, tk x27.length 7 35]) (table_Active x8) fun x27 =>
 letE vI ((x27.length : Int)) fun x28 =>
 letE vB (decide (x28 = x10.1)) fun x29 =>
 iteM x29 (
 letE vB (decide (a0.Full ≤ x8.Full)) fun x30 =>
 iteM x30 (
 letE vB (decide (x9.Full = a0.Full)) fun x31 =>
 iteM x31 (
 letE vI ((x9.A.length : Int)) fun x32 =>
 letE vI ((a0.A.length : Int)) fun x33 =>
 letE vB (decide (x32 ≤ x33)) fun x34 =>
 retM x34) (
 retM false)) (
 retM false)) (
 retM false)) (
 retM false)) (
 retM false)) (
 retM false))) (0 : Int))) ((0 : Int), (0 : Int)))))

def ref03_Same (a0 : (List GPair)) (a1 : (List GPair)) : Option (Bool) :=
 letE vI ((a0.length : Int)) fun x1 =>
 letE vI ((a1.length : Int)) fun x2 =>
 letE vB (!decide (x1 = x2)) fun x3 =>
 iteM x3 (
 retM false) (
 loopM (fun (x4 : Int) => [(0, sl cGPair a0), (1, sl cGPair a1), (5, vI x4)]) (fun (x4 : Int) => []) (fun (x4 : Int) =>
 letE vI ((a0.length : Int)) fun x5 =>
 letE vB (decide (x4 < x5)) fun x6 =>
 iteM x6 (
 idxM a0 x4 fun x7 =>
 idxM a1 x4 fun x8 =>
 letE vB (!(decide (x7.Name = x8.Name) && (decide (x7.Value = x8.Value) && true))) fun x9 =>
 iteM x9 (
 exitM <|
 retM false) (
 letE vI (wI (x4 + (1 : Int))) fun x10 =>
 nextM x10)) (
 exitM <|
 retM true)) (0 : Int))

def ref17_SameAlert (a0 : GAlert) (a1 : GAlert) : Option (Bool) :=
 callM vB (fun x1 => [.box [sl cGPair a0.L, vB a0.H.On, vI a0.H.Since, vB a0.H.Hit, vI a0.H.Fired, vI a0.State, vI a0.V], .box [sl cGPair a1.L, vB a1.H.On, vI a1.H.Since, vB a1.H.Hit, vI a1.H.Fired, vI a1.State, vI a1.V]]) (ref03_Same a0.L a1.L) fun x1 =>
 iteM x1 (
 letE vB (((a0.H.On == a1.H.On) && (decide (a0.H.Since = a1.H.Since) && ((a0.H.Hit == a1.H.Hit) && (decide (a0.H.Fired = a1.H.Fired) && true))))) fun x2 =>
 iteM x2 (
 letE vB (decide (a0.State = a1.State)) fun x3 =>
 iteM x3 (
 letE vB (decide (a0.V = a1.V)) fun x4 =>
 retM x4) (
 retM false)) (
 retM false)) (
 retM false)

def ref17_SameAlerts (a0 : (List GAlert)) (a1 : (List GAlert)) : Option (Bool) :=
 letE vI ((a0.length : Int)) fun x1 =>
 letE vI ((a1.length : Int)) fun x2 =>
 letE vB (!decide (x1 = x2)) fun x3 =>
 iteM x3 (
 retM false) (
 loopM (fun (x4 : Int) => [(0, sl cGAlert a0), (1, sl cGAlert a1), (5, vI x4)]) (fun (x4 : Int) => []) (fun (x4 : Int) =>
 letE vI ((a0.length : Int)) fun x5 =>
 letE vB (decide (x4 < x5)) fun x6 =>
 iteM x6 (
 drawM <|
 idxM a0 x4 fun x7 =>
 idxM a1 x4 fun x8 =>
 callM vB (fun x9 => []) (ref17_SameAlert x7 x8) fun x9 =>
 letE vB (!x9) fun x10 =>
 iteM x10 (
 exitM <|
 retM false) (
 letE vI (wI (x4 + (1 : Int))) fun x11 =>
 nextM x11)) (
 exitM <|
 retM true)) (0 : Int))

def ref17_Same (a0 : GTable) (a1 : GTable) : Option (Bool) :=
 letE vB (decide (a0.Full = a1.Full)) fun x1 =>
 iteM x1 (
 callM vB (fun x2 => [.box [sl cGAlert a0.A, vI a0.Full], .box [sl cGAlert a1.A, vI a1.Full]]) (ref17_SameAlerts a0.A a1.A) fun x2 =>
 retM x2) (
 retM false)

def law17_TableTurned (a0 : GTable) (a1 : (List GFound)) (a2 : Int) (a3 : Int) (a4 : Int) : Option (Bool) :=
 callM vB (fun x1 => [.box [sl cGAlert a0.A, vI a0.Full]]) (law17_awake) fun x1 =>
 callM vB (fun x2 => [.box [sl cGAlert a0.A, vI a0.Full]]) (ref17_Few a0) fun x2 =>
 letE vB (!x2) fun x3 =>
 iteM x3 (
 letE vI ((a1.length : Int)) fun x4 =>
 retM x1) (
 callM vB (fun x5 => [.box [sl cGAlert a0.A, vI a0.Full]]) (ref17_FewFound a1) fun x5 =>
 letE vB (!x5) fun x6 =>
 iteM x6 (
 letE vI ((a1.length : Int)) fun x7 =>
 retM x1) (
 callM vB (fun x8 => [.box [sl cGAlert a0.A, vI a0.Full]]) (table_Sane a0) fun x8 =>
 letE vB (!x8) fun x9 =>
 iteM x9 (
 letE vI ((a1.length : Int)) fun x10 =>
 retM x1) (
 letE vI ((a0.A.length : Int)) fun x11 =>
 letE vI ((a1.length : Int)) fun x12 =>
 letE vI (wI (x11 + x12)) fun x13 =>
 letE vB (decide ((16 : Int) < x13)) fun x14 =>
 iteM x14 (
 retM x1) (
 letE vI ((a1.length : Int)) fun x15 =>
 letE vI (wI (x15 - (1 : Int))) fun x16 =>
 tokM 12 3 49 <|
 loopM (fun (x17 : (List GFound) × Int) => [(1, sl cGFound a1), (2, vI a2), (3, vI a3), (4, vI a4), (5, .ptr 0 0), (11, vB x1), (12, so 1 cGFound x17.1), (13, vI x17.2)]) (fun (x17 : (List GFound) × Int) => [.box [sl cGAlert a0.A, vI a0.Full], tk x17.1.length 3 49]) (fun (x17 : (List GFound) × Int) =>
 letE vB (decide ((0 : Int) ≤ x17.2)) fun x18 =>
 iteM x18 (
 loopM (fun (x19 : Int) => [(1, sl cGFound a1), (2, vI a2), (3, vI a3), (4, vI a4), (5, .ptr 0 0), (11, vB x1), (12, so 1 cGFound x17.1), (13, vI x17.2), (14, vI x19)]) (fun (x19 : Int) => [.box [sl cGAlert a0.A, vI a0.Full], tk x17.1.length 3 49]) (fun (x19 : Int) =>
 letE vB (decide (x19 < x17.2)) fun x20 =>
 iteM x20 (
 drawM <|
 idxM a1 x19 fun x21 =>
 idxM a1 x17.2 fun x22 =>
 callM vI (fun x23 => [.box [sl cGAlert a0.A, vI a0.Full], tk x17.1.length 3 49]) (label_Compare x21.L x22.L) fun x23 =>
 letE vB (decide (x23 = (0 : Int))) fun x24 =>
 iteM x24 (
 exitM <|
 exitM <|
 retM x1) (
 letE vI (wI (x19 + (1 : Int))) fun x25 =>
 nextM x25)) (
 exitM <|
 idxM a1 x17.2 fun x26 =>
 letE (sx cGFound) ([x26] : (List GFound)) fun x27 =>
 gdM ((x17.1.length + x27.length) * 40 ≤ 140737488355328) <|
 letO (so 1 cGFound) (fun x28 => [.box [sl cGAlert a0.A, vI a0.Full], tk x28.length 3 49]) (x17.1 ++ x27) fun x28 =>
 letE vI (wI (x17.2 - (1 : Int))) fun x29 =>
 nextM (x28, x29))) (0 : Int)) (
 exitM <|
 shM 1 <|
 drawM <|
 iteM x1 (
 callM (ag cGTable) (fun x30 => [.box [sl cGAlert a0.A, vI a0.Full], .tok x17.1.length 3 49 false]) (table_Step a0 a1 a2 a3 a4) fun x30 =>
 callM (ag cGTable) (fun x31 => [.box [sl cGAlert a0.A, vI a0.Full], .tok x17.1.length 3 49 false]) (table_Step a0 x17.1 a2 a3 a4) fun x31 =>
 callM vB (fun x32 => [.box [sl cGAlert a0.A, vI a0.Full], .tok x17.1.length 3 49 false]) (ref17_Same x30 x31) fun x32 =>
 retM x32) (
 retM false))) (([] : List GFound), x16)))))

def law17_TableTwice (a0 : GTable) (a1 : (List GFound)) (a2 : Int) (a3 : Int) (a4 : Int) : Option (Bool) :=
 callM vB (fun x1 => [.box [sl cGAlert a0.A, vI a0.Full]]) (law17_awake) fun x1 =>
 callM vB (fun x2 => [.box [sl cGAlert a0.A, vI a0.Full]]) (ref17_Few a0) fun x2 =>
 letE vB (!x2) fun x3 =>
 iteM x3 (
 letE vI ((a1.length : Int)) fun x4 =>
 retM x1) (
 callM vB (fun x5 => [.box [sl cGAlert a0.A, vI a0.Full]]) (ref17_FewFound a1) fun x5 =>
 letE vB (!x5) fun x6 =>
 iteM x6 (
 letE vI ((a1.length : Int)) fun x7 =>
 retM x1) (
 callM vB (fun x8 => [.box [sl cGAlert a0.A, vI a0.Full]]) (table_Sane a0) fun x8 =>
 letE vB (!x8) fun x9 =>
 iteM x9 (
 letE vI ((a1.length : Int)) fun x10 =>
 retM x1) (
 letE vI ((a0.A.length : Int)) fun x11 =>
 letE vI ((a1.length : Int)) fun x12 =>
 letE vI (wI (x11 + x12)) fun x13 =>
 letE vB (decide ((16 : Int) < x13)) fun x14 =>
 iteM x14 (
 retM x1) (
 callM (ag cGTable) (fun x15 => [.box [sl cGAlert a0.A, vI a0.Full]]) (table_Step a0 a1 a2 a3 a4) fun x15 =>
 drawM <|
 iteM x1 (
 callM (ag cGTable) (fun x16 => [.box [sl cGAlert a0.A, vI a0.Full], .box [sl cGAlert x15.A, vI x15.Full]]) (table_Step x15 a1 a2 a3 a4) fun x16 =>
 callM vB (fun x17 => [.box [sl cGAlert a0.A, vI a0.Full], .box [sl cGAlert x15.A, vI x15.Full]]) (ref17_Same x16 x15) fun x17 =>
 retM x17) (
 retM false)))))

end
end Go.Proofs.YtnlbgjlbbdngaaaDoor.AM
