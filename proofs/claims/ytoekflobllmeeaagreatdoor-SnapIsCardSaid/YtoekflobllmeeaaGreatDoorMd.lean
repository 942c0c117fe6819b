/- A part of the proof: Md. -/
import Derived.Test.YtoekflobllmeeaaGreatDoorTy
set_option linter.all false
/- The models. -/
namespace Go.Proofs.YtoekflobllmeeaaGreatDoor.AM
noncomputable section

def label_Name (a0 : Str) : Option (Bool) :=
 letE vI ((a0.length : Int)) fun x1 =>
 letE vB (decide (x1 < (1 : Int))) fun x2 =>
 letE vI ((a0.length : Int)) fun x3 =>
 letE vB (decide ((64 : Int) < x3)) fun x4 =>
 letE vB (bif x2 then true else x4) fun x5 =>
 iteM x5 (
 retM false) (
 loopM (fun (x6 : Int) => [(0, vS a0), (3, vI x6)]) (fun (x6 : Int) => []) (fun (x6 : Int) =>
 letE vI ((a0.length : Int)) fun x7 =>
 letE vB (decide (x6 < x7)) fun x8 =>
 iteM x8 (
 idxM a0 x6 fun x9 =>
 letE vB (decide ((97 : Int) ≤ (x9.toNat : Int))) fun x10 =>
 letE vB (decide ((x9.toNat : Int) ≤ (122 : Int))) fun x11 =>
 letE vB (bif x10 then x11 else false) fun x12 =>
 letE vB (decide ((65 : Int) ≤ (x9.toNat : Int))) fun x13 =>
 letE vB (decide ((x9.toNat : Int) ≤ (90 : Int))) fun x14 =>
 letE vB (bif x13 then x14 else false) fun x15 =>
 letE vB (bif x12 then true else x15) fun x16 =>
 letE vB (decide ((x9.toNat : Int) = (95 : Int))) fun x17 =>
 letE vB (bif x16 then true else x17) fun x18 =>
 letE vB (decide ((48 : Int) ≤ (x9.toNat : Int))) fun x19 =>
 letE vB (decide ((x9.toNat : Int) ≤ (57 : Int))) fun x20 =>
 letE vB (bif x19 then x20 else false) fun x21 =>
 letE vB (!x18) fun x22 =>
 letE vB (!x21) fun x23 =>
 letE vB (decide (x6 = (0 : Int))) fun x24 =>
 letE vB (bif x23 then true else x24) fun x25 =>
 letE vB (bif x22 then x25 else false) fun x26 =>
 iteM x26 (
 exitM <|
 retM false) (
 letE vI (wI (x6 + (1 : Int))) fun x27 =>
 nextM x27)) (
 exitM <|
 retM true)) (0 : Int))

def label_Sane (a0 : (List GPair)) : Option (Bool) :=
 letE vI ((a0.length : Int)) fun x1 =>
 letE vB (decide ((16 : Int) < x1)) fun x2 =>
 iteM x2 (
 retM false) (
 letE vI ((a0.length : Int)) fun x3 =>
 loopM (fun (x4 : Int) => [(0, sl cGPair a0), (8, sl cGPair a0), (9, vI x3), (10, vI x4)]) (fun (x4 : Int) => []) (fun (x4 : Int) =>
 letE vB (decide (x4 < x3)) fun x5 =>
 iteM x5 (
 idxM a0 x4 fun x6 =>
 callM vB (fun x7 => [.box [vS x6.Name, vS x6.Value]]) (label_Name x6.Name) fun x7 =>
 letE vB (!x7) fun x8 =>
 iteM x8 (
 exitM <|
 retM false) (
 letE vI ((x6.Value.length : Int)) fun x9 =>
 letE vB (decide ((64 : Int) < x9)) fun x10 =>
 iteM x10 (
 exitM <|
 retM false) (
 letE vB (decide ((0 : Int) < x4)) fun x11 =>
 letE vI (wI (x4 - (1 : Int))) fun x12 =>
 iteM x11 (
 idxM a0 x12 fun x13 =>
 letE vB (!ltS x13.Name x6.Name) fun x14 =>
 iteM x14 (
 exitM <|
 retM false) (
 letE vI (wI (x4 + (1 : Int))) fun x15 =>
 nextM x15)) (
 letE vI (wI (x4 + (1 : Int))) fun x16 =>
 nextM x16)))) (
 exitM <|
 retM true)) (0 : Int))

def hold_time (a0 : Int) : Option (Bool) :=
 letE vB (decide ((0 : Int) ≤ a0)) fun x1 =>
 letE vB (decide (a0 ≤ (9007199254740992 : Int))) fun x2 =>
 letE vB (bif x1 then x2 else false) fun x3 =>
 retM x3

def hold_Sane (a0 : GHold) : Option (Bool) :=
 callM vB (fun x1 => [.box [vB a0.On, vI a0.Since, vB a0.Hit, vI a0.Fired]]) (hold_time a0.Since) fun x1 =>
 letE vB (!x1) fun x2 =>
 iteM x2 (
 retM false) (
 callM vB (fun x3 => [.box [vB a0.On, vI a0.Since, vB a0.Hit, vI a0.Fired]]) (hold_time a0.Fired) fun x3 =>
 letE vB (!x3) fun x4 =>
 iteM x4 (
 retM false) (
 iteM a0.On (
 iteM a0.Hit (
 letE vB (bif true then true else false) fun x5 =>
 retM x5) (
 letE vB (decide (a0.Fired = (0 : Int))) fun x6 =>
 letE vB (bif false then true else x6) fun x7 =>
 retM x7)) (
 letE vB (decide (a0.Since = (0 : Int))) fun x8 =>
 iteM x8 (
 iteM a0.Hit (
 letE vB (bif true then true else false) fun x9 =>
 retM x9) (
 letE vB (decide (a0.Fired = (0 : Int))) fun x10 =>
 letE vB (bif false then true else x10) fun x11 =>
 retM x11)) (
 retM false))))

def label_counts (a0 : (List GPair)) : Option ((List GPair)) :=
 callM vB (fun x1 => []) (label_Sane a0) fun x1 =>
 iteM x1 (
 retM a0) (
 retM ([] : (List GPair)))

def cmp_isNaN_string (a0 : Str) : Option (Bool) :=
 letE vB (!decide (a0 = a0)) fun x1 =>
 retM x1

def cmp_Compare_string (a0 : Str) (a1 : Str) : Option (Int) :=
 callM vB (fun x1 => []) (cmp_isNaN_string a0) fun x1 =>
 callM vB (fun x2 => []) (cmp_isNaN_string a1) fun x2 =>
 iteM x1 (
 iteM x2 (
 retM (0 : Int)) (
 retM (-1 : Int))) (
 iteM x2 (
 retM (1 : Int)) (
 letE vB (ltS a0 a1) fun x3 =>
 iteM x3 (
 retM (-1 : Int)) (
 letE vB (ltS a1 a0) fun x4 =>
 iteM x4 (
 retM (1 : Int)) (
 retM (0 : Int)))))

def cmp_Or_int (a0 : (List Int)) : Option (Int) :=
 letE vI ((a0.length : Int)) fun x1 =>
 loopM (fun (x2 : Int) => [(3, vI (0 : Int)), (6, sl cI a0), (7, vI x1), (8, vI x2)]) (fun (x2 : Int) => []) (fun (x2 : Int) =>
 letE vB (decide (x2 < x1)) fun x3 =>
 iteM x3 (
 idxM a0 x2 fun x4 =>
 letE vB (!decide (x4 = (0 : Int))) fun x5 =>
 iteM x5 (
 exitM <|
 retM x4) (
 letE vI (wI (x2 + (1 : Int))) fun x6 =>
 nextM x6)) (
 exitM <|
 retM (0 : Int))) (0 : Int)

def label_Compare_1 (a0 : GPair) (a1 : GPair) : Option (Int) :=
 drawM <|
 callM vI (fun x1 => [.box [vS a0.Name, vS a0.Value], .box [vS a1.Name, vS a1.Value]]) (cmp_Compare_string a0.Name a1.Name) fun x1 =>
 callM vI (fun x2 => [.box [vS a0.Name, vS a0.Value], .box [vS a1.Name, vS a1.Value]]) (cmp_Compare_string a0.Value a1.Value) fun x2 =>
 letE (sx cI) ([x1, x2] : (List Int)) fun x3 =>
 callM vI (fun x4 => [.box [vS a0.Name, vS a0.Value], .box [vS a1.Name, vS a1.Value]]) (cmp_Or_int x3) fun x4 =>
 retM x4

def slices_CompareFunc_Pair_Pair_Pair_Pair_label_Compare_1 (a0 : (List GPair)) (a1 : (List GPair)) : Option (Int) :=
 letE vI ((a0.length : Int)) fun x1 =>
 loopM (fun (x2 : Int) => [(0, sl cGPair a0), (1, sl cGPair a1), (2, .fn 90 [] []), (11, sl cGPair a0), (12, vI x1), (13, vI x2)]) (fun (x2 : Int) => []) (fun (x2 : Int) =>
 letE vB (decide (x2 < x1)) fun x3 =>
 iteM x3 (
 idxM a0 x2 fun x4 =>
 letE vI ((a1.length : Int)) fun x5 =>
 letE vB (decide (x5 ≤ x2)) fun x6 =>
 iteM x6 (
 exitM <|
 retM (1 : Int)) (
 idxM a1 x2 fun x7 =>
 callM vI (fun x8 => [.box [vS x4.Name, vS x4.Value], .box [vS x7.Name, vS x7.Value]]) (label_Compare_1 x4 x7) fun x8 =>
 letE vB (!decide (x8 = (0 : Int))) fun x9 =>
 iteM x9 (
 exitM <|
 retM x8) (
 letE vI (wI (x2 + (1 : Int))) fun x10 =>
 nextM x10))) (
 exitM <|
 letE vI ((a0.length : Int)) fun x11 =>
 letE vI ((a1.length : Int)) fun x12 =>
 letE vB (decide (x11 < x12)) fun x13 =>
 iteM x13 (
 retM (-1 : Int)) (
 retM (0 : Int)))) (0 : Int)

def label_Compare (a0 : (List GPair)) (a1 : (List GPair)) : Option (Int) :=
 callM (sl cGPair) (fun x1 => []) (label_counts a0) fun x1 =>
 callM (sl cGPair) (fun x2 => []) (label_counts a1) fun x2 =>
 callM vI (fun x3 => []) (slices_CompareFunc_Pair_Pair_Pair_Pair_label_Compare_1 x1 x2) fun x3 =>
 retM x3

def table_Sane (a0 : GTable) : Option (Bool) :=
 letE vI ((a0.A.length : Int)) fun x1 =>
 letE vB (decide ((16 : Int) < x1)) fun x2 =>
 iteM x2 (
 retM false) (
 letE vB (decide (a0.Full < (0 : Int))) fun x3 =>
 iteM x3 (
 retM false) (
 letE vB (decide ((9007199254740992 : Int) < a0.Full)) fun x4 =>
 iteM x4 (
 retM false) (
 letE vI ((a0.A.length : Int)) fun x5 =>
 loopM (fun (x6 : Int) => [(1, .ptr 0 0), (20, sl cGAlert a0.A), (21, vI x5), (22, vI x6)]) (fun (x6 : Int) => [.box [sl cGAlert a0.A, vI a0.Full]]) (fun (x6 : Int) =>
 letE vB (decide (x6 < x5)) fun x7 =>
 iteM x7 (
 idxM a0.A x6 fun x8 =>
 callM vB (fun x9 => [.box [sl cGAlert a0.A, vI a0.Full], .box [sl cGPair x8.L, vB x8.H.On, vI x8.H.Since, vB x8.H.Hit, vI x8.H.Fired, vI x8.State, vI x8.V]]) (label_Sane x8.L) fun x9 =>
 letE vB (!x9) fun x10 =>
 iteM x10 (
 exitM <|
 retM false) (
 callM vB (fun x11 => [.box [sl cGAlert a0.A, vI a0.Full], .box [sl cGPair x8.L, vB x8.H.On, vI x8.H.Since, vB x8.H.Hit, vI x8.H.Fired, vI x8.State, vI x8.V]]) (hold_Sane x8.H) fun x11 =>
 letE vB (!x11) fun x12 =>
 iteM x12 (
 exitM <|
 retM false) (
 letE vB (decide (x8.State < (0 : Int))) fun x13 =>
 iteM x13 (
 exitM <|
 retM false) (
 letE vB (decide ((2 : Int) < x8.State)) fun x14 =>
 iteM x14 (
 exitM <|
 retM false) (
 drawM <|
 letE vB (decide ((0 : Int) < x6)) fun x15 =>
 iteM x15 (
 letE vI (wI (x6 - (1 : Int))) fun x16 =>
 idxM a0.A x16 fun x17 =>
 callM vI (fun x18 => [.box [sl cGAlert a0.A, vI a0.Full], .box [sl cGPair x8.L, vB x8.H.On, vI x8.H.Since, vB x8.H.Hit, vI x8.H.Fired, vI x8.State, vI x8.V]]) (label_Compare x17.L x8.L) fun x18 =>
 letE vB (decide ((0 : Int) ≤ x18)) fun x19 =>
 iteM x19 (
 exitM <|
 retM false) (
 letE vI (wI (x6 + (1 : Int))) fun x20 =>
 nextM x20)) (
 letE vI (wI (x6 - (1 : Int))) fun x21 =>
 letE vI (wI (x6 + (1 : Int))) fun x22 =>
 nextM x22)))))) (
 exitM <|
 retM true)) (0 : Int))))

def table_counted (a0 : GTable) : Option (GTable) :=
 callM vB (fun x1 => [.box [sl cGAlert a0.A, vI a0.Full], .box [.v (.slice none 0 0), vI (0 : Int)]]) (table_Sane a0) fun x1 =>
 letE vB (!x1) fun x2 =>
 iteM x2 (
 retM (⟨([] : (List GAlert)), (0 : Int)⟩ : GTable)) (
 retM a0)

def strconv_small (a0 : Int) : Option (Str) :=
 letE vB (decide (a0 < (10 : Int))) fun x1 =>
 iteM x1 (
 letE vI (wI (a0 + (1 : Int))) fun x2 =>
 gdM (0 ≤ a0 ∧ a0 ≤ x2 ∧ x2 ≤ (([48, 49, 50, 51, 52, 53, 54, 55, 56, 57, 97, 98, 99, 100, 101, 102, 103, 104, 105, 106, 107, 108, 109, 110, 111, 112, 113, 114, 115, 116, 117, 118, 119, 120, 121, 122] : Str).length : Int)) <|
 letE vS ((([48, 49, 50, 51, 52, 53, 54, 55, 56, 57, 97, 98, 99, 100, 101, 102, 103, 104, 105, 106, 107, 108, 109, 110, 111, 112, 113, 114, 115, 116, 117, 118, 119, 120, 121, 122] : Str).take x2.toNat).drop a0.toNat) fun x3 =>
 retM x3) (
 letE vI (wI (a0 * (2 : Int))) fun x4 =>
 letE vI (wI (a0 * (2 : Int))) fun x5 =>
 letE vI (wI (x5 + (2 : Int))) fun x6 =>
 gdM (0 ≤ x4 ∧ x4 ≤ x6 ∧ x6 ≤ (([48, 48, 48, 49, 48, 50, 48, 51, 48, 52, 48, 53, 48, 54, 48, 55, 48, 56, 48, 57, 49, 48, 49, 49, 49, 50, 49, 51, 49, 52, 49, 53, 49, 54, 49, 55, 49, 56, 49, 57, 50, 48, 50, 49, 50, 50, 50, 51, 50, 52, 50, 53, 50, 54, 50, 55, 50, 56, 50, 57, 51, 48, 51, 49, 51, 50, 51, 51, 51, 52, 51, 53, 51, 54, 51, 55, 51, 56, 51, 57, 52, 48, 52, 49, 52, 50, 52, 51, 52, 52, 52, 53, 52, 54, 52, 55, 52, 56, 52, 57, 53, 48, 53, 49, 53, 50, 53, 51, 53, 52, 53, 53, 53, 54, 53, 55, 53, 56, 53, 57, 54, 48, 54, 49, 54, 50, 54, 51, 54, 52, 54, 53, 54, 54, 54, 55, 54, 56, 54, 57, 55, 48, 55, 49, 55, 50, 55, 51, 55, 52, 55, 53, 55, 54, 55, 55, 55, 56, 55, 57, 56, 48, 56, 49, 56, 50, 56, 51, 56, 52, 56, 53, 56, 54, 56, 55, 56, 56, 56, 57, 57, 48, 57, 49, 57, 50, 57, 51, 57, 52, 57, 53, 57, 54, 57, 55, 57, 56, 57, 57] : Str).length : Int)) <|
 letE vS ((([48, 48, 48, 49, 48, 50, 48, 51, 48, 52, 48, 53, 48, 54, 48, 55, 48, 56, 48, 57, 49, 48, 49, 49, 49, 50, 49, 51, 49, 52, 49, 53, 49, 54, 49, 55, 49, 56, 49, 57, 50, 48, 50, 49, 50, 50, 50, 51, 50, 52, 50, 53, 50, 54, 50, 55, 50, 56, 50, 57, 51, 48, 51, 49, 51, 50, 51, 51, 51, 52, 51, 53, 51, 54, 51, 55, 51, 56, 51, 57, 52, 48, 52, 49, 52, 50, 52, 51, 52, 52, 52, 53, 52, 54, 52, 55, 52, 56, 52, 57, 53, 48, 53, 49, 53, 50, 53, 51, 53, 52, 53, 53, 53, 54, 53, 55, 53, 56, 53, 57, 54, 48, 54, 49, 54, 50, 54, 51, 54, 52, 54, 53, 54, 54, 54, 55, 54, 56, 54, 57, 55, 48, 55, 49, 55, 50, 55, 51, 55, 52, 55, 53, 55, 54, 55, 55, 55, 56, 55, 57, 56, 48, 56, 49, 56, 50, 56, 51, 56, 52, 56, 53, 56, 54, 56, 55, 56, 56, 56, 57, 57, 48, 57, 49, 57, 50, 57, 51, 57, 52, 57, 53, 57, 54, 57, 55, 57, 56, 57, 57] : Str).take x6.toNat).drop x4.toNat) fun x7 =>
 retM x7)

def strconv_FormatInt (a0 : Int) (a1 : Int) : Option (Str) :=
 letE vB (decide (a1 = (10 : Int))) fun x1 =>
 iteM x1 (
 letE vB (decide ((0 : Int) ≤ a0)) fun x2 =>
 letE vB (decide (a0 < (100 : Int))) fun x3 =>
 letE vB (bif x2 then x3 else false) fun x4 =>
 iteM x4 (
 callM vS (fun x5 => []) (strconv_small a0) fun x5 =>
 retM x5) (
 letE (vK .u64) (IntKind.u64.wrap a0) fun x6 =>
 letE vB (decide (a0 < (0 : Int))) fun x7 =>
 iteM x7 (
 letE (vK .u64) (IntKind.u64.wrap (0 - x6)) fun x8 =>
 noM) (
 noM))) (
 letE (vK .u64) (IntKind.u64.wrap a0) fun x9 =>
 letE vB (decide (a0 < (0 : Int))) fun x10 =>
 noM)

def strconv_Itoa (a0 : Int) : Option (Str) :=
 callM vS (fun x1 => []) (strconv_FormatInt a0 (10 : Int)) fun x1 =>
 retM x1

def strconv_Itoa1 (a0 : Int) : Option (Str) :=
 callM vS (fun x1 => []) (strconv_Itoa a0) fun x1 =>
 retM x1

def strings_Builder_WriteString_o (a0 : Str) (a1 : (List Int)) : Option (Int × Unit × (List Int)) :=
 callO [0, 1] [.bld 106 (so 1 (cK .u8) a1), tk a1.length 1 5] (fun x1 => .tup []) (fun x1 => [.bld 106 (so 1 (cK .u8) a1), tk a1.length 1 5]) (bldCheck a1) fun x1 =>
 gdM ((a1.length + (octs a0).length) * 1 ≤ 140737488355328) <|
 letO (so 1 (cK .u8)) (fun x2 => [.bld 106 (so 1 (cK .u8) a1), tk x2.length 1 5]) (a1 ++ (octs a0)) fun x2 =>
 letE vI ((a0.length : Int)) fun x3 =>
 retM (x3, (), x2)

def strings_Builder_WriteByte_o (a0 : Int) (a1 : (List Int)) : Option (Unit × (List Int)) :=
 callO [0, 1] [.bld 106 (so 1 (cK .u8) a1), tk a1.length 1 5] (fun x1 => .tup []) (fun x1 => [.bld 106 (so 1 (cK .u8) a1), tk a1.length 1 5]) (bldCheck a1) fun x1 =>
 letE (sx (cK .u8)) ([a0] : (List Int)) fun x2 =>
 gdM ((a1.length + x2.length) * 1 ≤ 140737488355328) <|
 letO (so 1 (cK .u8)) (fun x3 => [.bld 106 (so 1 (cK .u8) a1), tk x3.length 1 5]) (a1 ++ x2) fun x3 =>
 retM ((), x3)

def table_key (a0 : (List GPair)) : Option (Str) :=
 bldM 5 <|
 letE vI ((a0.length : Int)) fun x1 =>
 loopM (fun (x2 : (List Int) × Int) => [(3, .ptr 0 0), (8, sl cGPair a0), (9, vI x1), (10, vI x2.2)]) (fun (x2 : (List Int) × Int) => [.bld 106 (so 1 (cK .u8) x2.1), tk x2.1.length 1 5]) (fun (x2 : (List Int) × Int) =>
 letE vB (decide (x2.2 < x1)) fun x3 =>
 iteM x3 (
 idxM a0 x2.2 fun x4 =>
 loopM (fun (x5 : (List Int) × Int) => [(3, .ptr 0 0), (8, sl cGPair a0), (9, vI x1), (10, vI x2.2), (18, .agg [vS x4.Name, vS x4.Value]), (19, vI x5.2)]) (fun (x5 : (List Int) × Int) => [.bld 106 (so 1 (cK .u8) x5.1), tk x5.1.length 1 5]) (fun (x5 : (List Int) × Int) =>
 letE vB (decide (x5.2 < (2 : Int))) fun x6 =>
 iteM x6 (
 idxM [x4.Name, x4.Value] x5.2 fun x7 =>
 letE vI ((x7.length : Int)) fun x8 =>
 callM vS (fun x9 => [.bld 106 (so 1 (cK .u8) x5.1), tk x5.1.length 1 5]) (strconv_Itoa1 x8) fun x9 =>
 callO [0, 1] [.bld 106 (so 1 (cK .u8) x5.1), tk x5.1.length 1 5] (fun x10 => .tup [vI x10.1, vNI x10.2.1]) (fun x10 => [.bld 106 (so 1 (cK .u8) x10.2.2), tk x10.2.2.length 1 5]) (strings_Builder_WriteString_o x9 x5.1) fun x10 =>
 callO [0, 1] [.bld 106 (so 1 (cK .u8) x10.2.2), tk x10.2.2.length 1 5] (fun x11 => vNI x11.1) (fun x11 => [.bld 106 (so 1 (cK .u8) x11.2), tk x11.2.length 1 5]) (strings_Builder_WriteByte_o (32 : Int) x10.2.2) fun x11 =>
 callO [0, 1] [.bld 106 (so 1 (cK .u8) x11.2), tk x11.2.length 1 5] (fun x12 => .tup [vI x12.1, vNI x12.2.1]) (fun x12 => [.bld 106 (so 1 (cK .u8) x12.2.2), tk x12.2.2.length 1 5]) (strings_Builder_WriteString_o x7 x11.2) fun x12 =>
 letE vI (wI (x5.2 + (1 : Int))) fun x13 =>
 nextM (x12.2.2, x13)) (
 exitM <|
 letE vI (wI (x2.2 + (1 : Int))) fun x14 =>
 nextM (x5.1, x14))) (x2.1, (0 : Int))) (
 exitM <|
 callO [0, 1] [.bld 106 (so 1 (cK .u8) x2.1), tk x2.1.length 1 5] (fun x15 => vS x15) (fun x15 => [.dead, .dead]) (bldStr x2.1) fun x15 =>
 retM x15)) (([] : List Int), (0 : Int))

def table_distinct (a0 : (List GFound)) : Option ((List GFound) × (List (Str × GFound))) :=
 letO (fun _ => .map 0) (fun x1 => [.map (mp kS (ag cGFound) x1)]) ([] : (List (Str × GFound))) fun x1 =>
 letE vI ((a0.length : Int)) fun x2 =>
 tokM 4 3 54 <|
 loopM (fun (x3 : (List (Str × GFound)) × Int × (List GFound)) => [(4, so 1 cGFound x3.2.2), (5, .map 0), (12, sl cGFound a0), (13, vI x2), (14, vI x3.2.1)]) (fun (x3 : (List (Str × GFound)) × Int × (List GFound)) => [.map (mp kS (ag cGFound) x3.1), tk x3.2.2.length 3 54]) (fun (x3 : (List (Str × GFound)) × Int × (List GFound)) =>
 letE vB (decide (x3.2.1 < x2)) fun x4 =>
 iteM x4 (
 idxM a0 x3.2.1 fun x5 =>
 callM vB (fun x6 => [.map (mp kS (ag cGFound) x3.1), tk x3.2.2.length 3 54, .box [sl cGPair x5.L, vI x5.X.T, vI x5.X.V]]) (label_Sane x5.L) fun x6 =>
 letE vB (!x6) fun x7 =>
 iteM x7 (
 letE vI (wI (x3.2.1 + (1 : Int))) fun x8 =>
 nextM (x3.1, x8, x3.2.2)) (
 callM vS (fun x9 => [.map (mp kS (ag cGFound) x3.1), tk x3.2.2.length 3 54, .box [sl cGPair x5.L, vI x5.X.T, vI x5.X.V]]) (table_key x5.L) fun x9 =>
 lookM x3.1 x9 (fun x10 =>
 letE vB (!true) fun x11 =>
 iteM x11 (
 letO (fun _ => .any) (fun x12 => [.map (mp kS (ag cGFound) x12), tk x3.2.2.length 3 54, .box [sl cGPair x5.L, vI x5.X.T, vI x5.X.V], .box [sl cGPair x10.L, vI x10.X.T, vI x10.X.V]]) (mst x3.1 x9 x5) fun x12 =>
 letE (sx cGFound) ([x5] : (List GFound)) fun x13 =>
 gdM ((x3.2.2.length + x13.length) * 40 ≤ 140737488355328) <|
 letO (so 1 cGFound) (fun x14 => [.map (mp kS (ag cGFound) x12), tk x14.length 3 54, .box [sl cGPair x5.L, vI x5.X.T, vI x5.X.V], .box [sl cGPair x10.L, vI x10.X.T, vI x10.X.V]]) (x3.2.2 ++ x13) fun x14 =>
 letE vI (wI (x3.2.1 + (1 : Int))) fun x15 =>
 nextM (x12, x15, x14)) (
 letE vI (wI (x3.2.1 + (1 : Int))) fun x16 =>
 nextM (x3.1, x16, x3.2.2))) (
 letE vB (!false) fun x17 =>
 iteM x17 (
 letO (fun _ => .any) (fun x18 => [.map (mp kS (ag cGFound) x18), tk x3.2.2.length 3 54, .box [sl cGPair x5.L, vI x5.X.T, vI x5.X.V], .box [.v (.slice none 0 0), vI (0 : Int), vI (0 : Int)]]) (mst x3.1 x9 x5) fun x18 =>
 letE (sx cGFound) ([x5] : (List GFound)) fun x19 =>
 gdM ((x3.2.2.length + x19.length) * 40 ≤ 140737488355328) <|
 letO (so 1 cGFound) (fun x20 => [.map (mp kS (ag cGFound) x18), tk x20.length 3 54, .box [sl cGPair x5.L, vI x5.X.T, vI x5.X.V], .box [.v (.slice none 0 0), vI (0 : Int), vI (0 : Int)]]) (x3.2.2 ++ x19) fun x20 =>
 letE vI (wI (x3.2.1 + (1 : Int))) fun x21 =>
 nextM (x18, x21, x20)) (
 letE vI (wI (x3.2.1 + (1 : Int))) fun x22 =>
 nextM (x3.1, x22, x3.2.2))))) (
 exitM <|
 retM (x3.2.2, x3.1))) (x1, (0 : Int), ([] : List GFound))

def hold_counted (a0 : GHold) : Option (GHold) :=
 callM vB (fun x1 => [.box [vB a0.On, vI a0.Since, vB a0.Hit, vI a0.Fired], .box [vB false, vI (0 : Int), vB false, vI (0 : Int)]]) (hold_Sane a0) fun x1 =>
 letE vB (!x1) fun x2 =>
 iteM x2 (
 retM (⟨false, (0 : Int), false, (0 : Int)⟩ : GHold)) (
 retM a0)

def hold_bounded (a0 : (List Int)) : Option ((List Int)) :=
 letE vI ((a0.length : Int)) fun x1 =>
 gdM (0 ≤ x1 ∧ x1 ≤ 9223372036854775807 ∧ x1.toNat * 8 ≤ 281474976710656) <|
 letO (fun x2 => .bsl 0 0 x2.length) (fun x2 => [.box (rowCells (x2.map cI))]) (List.replicate x1.toNat (0 : Int) : List Int) fun x2 =>
 letE vI ((a0.length : Int)) fun x3 =>
 loopM (fun (x4 : (List Int) × Int) => [(3, .bsl 0 0 x2.length), (9, sl cI a0), (10, vI x3), (11, vI x4.2)]) (fun (x4 : (List Int) × Int) => [.box (rowCells (x4.1.map cI))]) (fun (x4 : (List Int) × Int) =>
 letE vB (decide (x4.2 < x3)) fun x5 =>
 iteM x5 (
 idxM a0 x4.2 fun x6 =>
 letE vI (max x6 (0 : Int)) fun x7 =>
 letE vI (min x7 (9007199254740992 : Int)) fun x8 =>
 gdM (0 ≤ x4.2 ∧ x4.2 < (x2.length : Int)) <|
 gdM (x4.2.toNat < x4.1.length) <|
 letO (fun _ => .any) (fun x9 => [.box (rowCells (x9.map cI))]) (x4.1.set x4.2.toNat x8) fun x9 =>
 letE vI (wI (x4.2 + (1 : Int))) fun x10 =>
 nextM (x9, x10)) (
 exitM <|
 gdM (x2.length = x4.1.length) <|
 pubbM 2 <|
 retM x4.1)) (x2, (0 : Int))

def hold_Now (a0 : GHold) (a1 : Int) (a2 : Int) : Option (Int) :=
 callM (ag cGHold) (fun x1 => [.box [vB a0.On, vI a0.Since, vB a0.Hit, vI a0.Fired]]) (hold_counted a0) fun x1 =>
 letE (sx cI) ([a1, a2] : (List Int)) fun x2 =>
 callM (sl cI) (fun x3 => [.box [vB x1.On, vI x1.Since, vB x1.Hit, vI x1.Fired]]) (hold_bounded x2) fun x3 =>
 idxM x3 (0 : Int) fun x4 =>
 idxM x3 (1 : Int) fun x5 =>
 letE vB (decide ((0 : Int) < x5)) fun x6 =>
 iteM x6 (
 letE vB (decide (x1.Fired < x4)) fun x7 =>
 iteM x7 (
 letE vI (wI (x4 - x1.Fired)) fun x8 =>
 letE vB (decide (x8 < x5)) fun x9 =>
 iteM x1.Hit (
 letE vB (decide (x1.Fired = x4)) fun x10 =>
 letE vB (bif x10 then true else x9) fun x11 =>
 iteM x11 (
 retM (2 : Int)) (
 iteM x1.On (
 retM (1 : Int)) (
 retM (0 : Int)))) (
 iteM x1.On (
 retM (1 : Int)) (
 retM (0 : Int)))) (
 iteM x1.Hit (
 letE vB (decide (x1.Fired = x4)) fun x12 =>
 letE vB (bif x12 then true else false) fun x13 =>
 iteM x13 (
 retM (2 : Int)) (
 iteM x1.On (
 retM (1 : Int)) (
 retM (0 : Int)))) (
 iteM x1.On (
 retM (1 : Int)) (
 retM (0 : Int))))) (
 iteM x1.Hit (
 letE vB (decide (x1.Fired = x4)) fun x14 =>
 letE vB (bif x14 then true else false) fun x15 =>
 iteM x15 (
 retM (2 : Int)) (
 iteM x1.On (
 retM (1 : Int)) (
 retM (0 : Int)))) (
 iteM x1.On (
 retM (1 : Int)) (
 retM (0 : Int))))

def hold_Step (a0 : GHold) (a1 : Bool) (a2 : Int) (a3 : Int) (a4 : Int) : Option (GHold × Int) :=
 callM (ag cGHold) (fun x1 => [.box [vB a0.On, vI a0.Since, vB a0.Hit, vI a0.Fired], .box [vB false, vI (0 : Int), vB false, vI (0 : Int)]]) (hold_counted a0) fun x1 =>
 letE (sx cI) ([a2, a3, a4] : (List Int)) fun x2 =>
 callM (sl cI) (fun x3 => [.box [vB x1.On, vI x1.Since, vB x1.Hit, vI x1.Fired], .box [vB false, vI (0 : Int), vB false, vI (0 : Int)]]) (hold_bounded x2) fun x3 =>
 idxM x3 (0 : Int) fun x4 =>
 idxM x3 (1 : Int) fun x5 =>
 idxM x3 (2 : Int) fun x6 =>
 letE vB (!a1) fun x7 =>
 iteM x7 (
 tailM 5 <|
 callM vI (fun x8 => [.box [vB false, vI (0 : Int), vB x1.Hit, vI x1.Fired], .box [vB false, vI (0 : Int), vB false, vI (0 : Int)]]) (hold_Now (⟨false, (0 : Int), x1.Hit, x1.Fired⟩ : GHold) x4 x6) fun x8 =>
 retM ((⟨false, (0 : Int), x1.Hit, x1.Fired⟩ : GHold), x8)) (
 letE vB (!x1.On) fun x9 =>
 iteM x9 (
 letE vI (wI (x4 - x4)) fun x10 =>
 letE vB (decide (x5 ≤ x10)) fun x11 =>
 iteM x11 (
 tailM 5 <|
 callM vI (fun x12 => [.box [vB true, vI x4, vB true, vI x4], .box [vB false, vI (0 : Int), vB false, vI (0 : Int)]]) (hold_Now (⟨true, x4, true, x4⟩ : GHold) x4 x6) fun x12 =>
 retM ((⟨true, x4, true, x4⟩ : GHold), x12)) (
 tailM 5 <|
 callM vI (fun x13 => [.box [vB true, vI x4, vB x1.Hit, vI x1.Fired], .box [vB false, vI (0 : Int), vB false, vI (0 : Int)]]) (hold_Now (⟨true, x4, x1.Hit, x1.Fired⟩ : GHold) x4 x6) fun x13 =>
 retM ((⟨true, x4, x1.Hit, x1.Fired⟩ : GHold), x13))) (
 letE vB (decide (x4 < x1.Since)) fun x14 =>
 iteM x14 (
 letE vI (wI (x4 - x4)) fun x15 =>
 letE vB (decide (x5 ≤ x15)) fun x16 =>
 iteM x16 (
 tailM 5 <|
 callM vI (fun x17 => [.box [vB true, vI x4, vB true, vI x4], .box [vB false, vI (0 : Int), vB false, vI (0 : Int)]]) (hold_Now (⟨true, x4, true, x4⟩ : GHold) x4 x6) fun x17 =>
 retM ((⟨true, x4, true, x4⟩ : GHold), x17)) (
 tailM 5 <|
 callM vI (fun x18 => [.box [vB true, vI x4, vB x1.Hit, vI x1.Fired], .box [vB false, vI (0 : Int), vB false, vI (0 : Int)]]) (hold_Now (⟨true, x4, x1.Hit, x1.Fired⟩ : GHold) x4 x6) fun x18 =>
 retM ((⟨true, x4, x1.Hit, x1.Fired⟩ : GHold), x18))) (
 letE vI (wI (x4 - x1.Since)) fun x19 =>
 letE vB (decide (x5 ≤ x19)) fun x20 =>
 iteM x20 (
 tailM 5 <|
 callM vI (fun x21 => [.box [vB true, vI x1.Since, vB true, vI x4], .box [vB false, vI (0 : Int), vB false, vI (0 : Int)]]) (hold_Now (⟨true, x1.Since, true, x4⟩ : GHold) x4 x6) fun x21 =>
 retM ((⟨true, x1.Since, true, x4⟩ : GHold), x21)) (
 tailM 5 <|
 callM vI (fun x22 => [.box [vB true, vI x1.Since, vB x1.Hit, vI x1.Fired], .box [vB false, vI (0 : Int), vB false, vI (0 : Int)]]) (hold_Now (⟨true, x1.Since, x1.Hit, x1.Fired⟩ : GHold) x4 x6) fun x22 =>
 retM ((⟨true, x1.Since, x1.Hit, x1.Fired⟩ : GHold), x22)))))

def hold_Gone (a0 : GHold) (a1 : Int) (a2 : Int) : Option (Bool) :=
 callM (ag cGHold) (fun x1 => [.box [vB a0.On, vI a0.Since, vB a0.Hit, vI a0.Fired]]) (hold_counted a0) fun x1 =>
 letE (sx cI) ([a1, a2] : (List Int)) fun x2 =>
 callM (sl cI) (fun x3 => [.box [vB x1.On, vI x1.Since, vB x1.Hit, vI x1.Fired]]) (hold_bounded x2) fun x3 =>
 idxM x3 (0 : Int) fun x4 =>
 idxM x3 (1 : Int) fun x5 =>
 callM vI (fun x6 => [.box [vB x1.On, vI x1.Since, vB x1.Hit, vI x1.Fired]]) (hold_Now x1 x4 x5) fun x6 =>
 letE vB (!decide (x6 = (0 : Int))) fun x7 =>
 iteM x7 (
 retM false) (
 iteM x1.On (
 retM false) (
 letE vB (!x1.Hit) fun x8 =>
 iteM x8 (
 retM true) (
 letE vB (decide (x1.Fired < x4)) fun x9 =>
 iteM x9 (
 letE vI (wI (x4 - x1.Fired)) fun x10 =>
 letE vB (decide (x5 ≤ x10)) fun x11 =>
 letE vB (bif true then x11 else false) fun x12 =>
 retM x12) (
 letE vB (bif false then false else false) fun x13 =>
 retM x13))))

def table_sorted_1 (a0 : GAlert) (a1 : GAlert) : Option (Int) :=
 callM vI (fun x1 => [.box [sl cGPair a0.L, vB a0.H.On, vI a0.H.Since, vB a0.H.Hit, vI a0.H.Fired, vI a0.State, vI a0.V], .box [sl cGPair a1.L, vB a1.H.On, vI a1.H.Since, vB a1.H.Hit, vI a1.H.Fired, vI a1.State, vI a1.V]]) (label_Compare a0.L a1.L) fun x1 =>
 retM x1

def table_sorted_o (a0 : (List (Str × GAlert))) : Option ((List GAlert)) :=
 tokM 3 7 45 <|
 rangeM (fun (x1 : (List GAlert)) => [(3, so 2 cGAlert x1), (7, .ptr 1 0)]) (fun zb zc zs (x1 : (List GAlert)) => [.mapB zb zc (mp kS (ag cGAlert) a0), .iter 0 zc zs, tk x1.length 7 45]) a0 (fun zb zc zs (x1 : (List GAlert)) =>
 (fun zi x2 =>
 letE (sx cGAlert) ([x2.2] : (List GAlert)) fun x3 =>
 gdM ((x1.length + x3.length) * 72 ≤ 140737488355328) <|
 letO (so 2 cGAlert) (fun x4 => [.mapB zb zc (mp kS (ag cGAlert) a0), .iter 0 zc (zs ++ [zi]), tk x4.length 7 45, .box [sl cGPair x2.2.L, vB x2.2.H.On, vI x2.2.H.Since, vB x2.2.H.Hit, vI x2.2.H.Fired, vI x2.2.State, vI x2.2.V]]) (x1 ++ x3) fun x4 =>
 nextM x4,
 exitM <|
 forgM 6 [(3, so 2 cGAlert x1)] [.map (mp kS (ag cGAlert) a0), .dead, tk x1.length 7 45] <|
 unboxM 3 <|
 sortM table_sorted_1 x1 fun x5 =>
 pubbM 3 <|
 retM x5)) ([] : List GAlert)

def table_Step (a0 : GTable) (a1 : (List GFound)) (a2 : Int) (a3 : Int) (a4 : Int) : Option (GTable) :=
 callM (ag cGTable) (fun x1 => [.box [sl cGAlert a0.A, vI a0.Full], .box [.v (.slice none 0 0), vI (0 : Int)]]) (table_counted a0) fun x1 =>
 callM (fun x2 => .tup [(sl cGFound) x2.1, .map 2]) (fun x2 => [.box [sl cGAlert x1.A, vI x1.Full], .box [.v (.slice none 0 0), vI (0 : Int)], .map (mp kS (ag cGFound) x2.2)]) (table_distinct a1) fun x2 =>
 letO (fun _ => .map 3) (fun x3 => [.box [sl cGAlert x1.A, vI x1.Full], .box [.v (.slice none 0 0), vI (0 : Int)], .map (mp kS (ag cGFound) x2.2), .map (mp kS (ag cGAlert) x3)]) ([] : (List (Str × GAlert))) fun x3 =>
 letE vI ((x1.A.length : Int)) fun x4 =>
 loopM (fun (x5 : (List (Str × GAlert)) × Int) => [(1, sl cGFound x2.1), (2, vI a2), (3, vI a3), (4, vI a4), (5, .ptr 0 0), (10, .ptr 1 0), (11, .map 2), (12, .map 3), (34, sl cGAlert x1.A), (35, vI x4), (36, vI x5.2)]) (fun (x5 : (List (Str × GAlert)) × Int) => [.box [sl cGAlert x1.A, vI x1.Full], .box [.v (.slice none 0 0), vI (0 : Int)], .map (mp kS (ag cGFound) x2.2), .map (mp kS (ag cGAlert) x5.1)]) (fun (x5 : (List (Str × GAlert)) × Int) =>
 letE vB (decide (x5.2 < x4)) fun x6 =>
 iteM x6 (
 idxM x1.A x5.2 fun x7 =>
 callM vS (fun x8 => [.box [sl cGAlert x1.A, vI x1.Full], .box [.v (.slice none 0 0), vI (0 : Int)], .map (mp kS (ag cGFound) x2.2), .map (mp kS (ag cGAlert) x5.1), .box [sl cGPair x7.L, vB x7.H.On, vI x7.H.Since, vB x7.H.Hit, vI x7.H.Fired, vI x7.State, vI x7.V]]) (table_key x7.L) fun x8 =>
 lookM x2.2 x8 (fun x9 =>
 callM (fun x10 => .tup [(ag cGHold) x10.1, vI x10.2]) (fun x10 => [.box [sl cGAlert x1.A, vI x1.Full], .box [.v (.slice none 0 0), vI (0 : Int)], .map (mp kS (ag cGFound) x2.2), .map (mp kS (ag cGAlert) x5.1), .box [sl cGPair x7.L, vB x7.H.On, vI x7.H.Since, vB x7.H.Hit, vI x7.H.Fired, vI x7.State, vI x7.V], .box [sl cGPair x9.L, vI x9.X.T, vI x9.X.V]]) (hold_Step x7.H true a2 a3 a4) fun x10 =>
 letO (fun _ => .any) (fun x11 => [.box [sl cGAlert x1.A, vI x1.Full], .box [.v (.slice none 0 0), vI (0 : Int)], .map (mp kS (ag cGFound) x2.2), .map (mp kS (ag cGAlert) x11), .box [sl cGPair x7.L, vB x10.1.On, vI x10.1.Since, vB x10.1.Hit, vI x10.1.Fired, vI x10.2, vI x9.X.V], .box [sl cGPair x9.L, vI x9.X.T, vI x9.X.V]]) (mst x5.1 x8 (⟨x7.L, x10.1, x10.2, x9.X.V⟩ : GAlert)) fun x11 =>
 callM vB (fun x12 => [.box [sl cGAlert x1.A, vI x1.Full], .box [.v (.slice none 0 0), vI (0 : Int)], .map (mp kS (ag cGFound) x2.2), .map (mp kS (ag cGAlert) x11), .box [sl cGPair x7.L, vB x10.1.On, vI x10.1.Since, vB x10.1.Hit, vI x10.1.Fired, vI x10.2, vI x9.X.V], .box [sl cGPair x9.L, vI x9.X.T, vI x9.X.V]]) (hold_Gone x10.1 a2 a4) fun x12 =>
 iteM x12 (
 letO (fun _ => .any) (fun x13 => [.box [sl cGAlert x1.A, vI x1.Full], .box [.v (.slice none 0 0), vI (0 : Int)], .map (mp kS (ag cGFound) x2.2), .map (mp kS (ag cGAlert) x13), .box [sl cGPair x7.L, vB x10.1.On, vI x10.1.Since, vB x10.1.Hit, vI x10.1.Fired, vI x10.2, vI x9.X.V], .box [sl cGPair x9.L, vI x9.X.T, vI x9.X.V]]) (mdl x11 x8) fun x13 =>
 letE vI (wI (x5.2 + (1 : Int))) fun x14 =>
 nextM (x13, x14)) (
 letE vI (wI (x5.2 + (1 : Int))) fun x15 =>
 nextM (x11, x15))) (
 callM (fun x16 => .tup [(ag cGHold) x16.1, vI x16.2]) (fun x16 => [.box [sl cGAlert x1.A, vI x1.Full], .box [.v (.slice none 0 0), vI (0 : Int)], .map (mp kS (ag cGFound) x2.2), .map (mp kS (ag cGAlert) x5.1), .box [sl cGPair x7.L, vB x7.H.On, vI x7.H.Since, vB x7.H.Hit, vI x7.H.Fired, vI x7.State, vI x7.V], .box [.v (.slice none 0 0), vI (0 : Int), vI (0 : Int)]]) (hold_Step x7.H false a2 a3 a4) fun x16 =>
 letO (fun _ => .any) (fun x17 => [.box [sl cGAlert x1.A, vI x1.Full], .box [.v (.slice none 0 0), vI (0 : Int)], .map (mp kS (ag cGFound) x2.2), .map (mp kS (ag cGAlert) x17), .box [sl cGPair x7.L, vB x16.1.On, vI x16.1.Since, vB x16.1.Hit, vI x16.1.Fired, vI x16.2, vI x7.V], .box [.v (.slice none 0 0), vI (0 : Int), vI (0 : Int)]]) (mst x5.1 x8 (⟨x7.L, x16.1, x16.2, x7.V⟩ : GAlert)) fun x17 =>
 callM vB (fun x18 => [.box [sl cGAlert x1.A, vI x1.Full], .box [.v (.slice none 0 0), vI (0 : Int)], .map (mp kS (ag cGFound) x2.2), .map (mp kS (ag cGAlert) x17), .box [sl cGPair x7.L, vB x16.1.On, vI x16.1.Since, vB x16.1.Hit, vI x16.1.Fired, vI x16.2, vI x7.V], .box [.v (.slice none 0 0), vI (0 : Int), vI (0 : Int)]]) (hold_Gone x16.1 a2 a4) fun x18 =>
 iteM x18 (
 letO (fun _ => .any) (fun x19 => [.box [sl cGAlert x1.A, vI x1.Full], .box [.v (.slice none 0 0), vI (0 : Int)], .map (mp kS (ag cGFound) x2.2), .map (mp kS (ag cGAlert) x19), .box [sl cGPair x7.L, vB x16.1.On, vI x16.1.Since, vB x16.1.Hit, vI x16.1.Fired, vI x16.2, vI x7.V], .box [.v (.slice none 0 0), vI (0 : Int), vI (0 : Int)]]) (mdl x17 x8) fun x19 =>
 letE vI (wI (x5.2 + (1 : Int))) fun x20 =>
 nextM (x19, x20)) (
 letE vI (wI (x5.2 + (1 : Int))) fun x21 =>
 nextM (x17, x21)))) (
 exitM <|
 letE vI ((x2.1.length : Int)) fun x22 =>
 loopM (fun (x23 : Int × (List (Str × GAlert)) × Int) => [(2, vI a2), (3, vI a3), (4, vI a4), (5, .ptr 0 0), (10, .ptr 1 0), (12, .map 3), (77, sl cGFound x2.1), (78, vI x22), (79, vI x23.2.2)]) (fun (x23 : Int × (List (Str × GAlert)) × Int) => [.box [sl cGAlert x1.A, vI x23.1], .box [.v (.slice none 0 0), vI (0 : Int)], .dead, .map (mp kS (ag cGAlert) x23.2.1)]) (fun (x23 : Int × (List (Str × GAlert)) × Int) =>
 letE vB (decide (x23.2.2 < x22)) fun x24 =>
 iteM x24 (
 idxM x2.1 x23.2.2 fun x25 =>
 callM vS (fun x26 => [.box [sl cGAlert x1.A, vI x23.1], .box [.v (.slice none 0 0), vI (0 : Int)], .dead, .map (mp kS (ag cGAlert) x23.2.1), .box [sl cGPair x25.L, vI x25.X.T, vI x25.X.V]]) (table_key x25.L) fun x26 =>
 lookM x23.2.1 x26 (fun x27 =>
 letE vI (wI (x23.2.2 + (1 : Int))) fun x28 =>
 nextM (x23.1, x23.2.1, x28)) (
 letE vI ((x23.2.1.length : Int)) fun x29 =>
 letE vB (decide ((16 : Int) ≤ x29)) fun x30 =>
 iteM x30 (
 letE vI (wI (x23.1 + (1 : Int))) fun x31 =>
 letE vI (min x31 (9007199254740992 : Int)) fun x32 =>
 letE vI (wI (x23.2.2 + (1 : Int))) fun x33 =>
 nextM (x32, x23.2.1, x33)) (
 callM (fun x34 => .tup [(ag cGHold) x34.1, vI x34.2]) (fun x34 => [.box [sl cGAlert x1.A, vI x23.1], .box [.v (.slice none 0 0), vI (0 : Int)], .dead, .map (mp kS (ag cGAlert) x23.2.1), .box [sl cGPair x25.L, vI x25.X.T, vI x25.X.V], .box [.v (.slice none 0 0), vB false, vI (0 : Int), vB false, vI (0 : Int), vI (0 : Int), vI (0 : Int)]]) (hold_Step (⟨false, (0 : Int), false, (0 : Int)⟩ : GHold) true a2 a3 a4) fun x34 =>
 letO (fun _ => .any) (fun x35 => [.box [sl cGAlert x1.A, vI x23.1], .box [.v (.slice none 0 0), vI (0 : Int)], .dead, .map (mp kS (ag cGAlert) x35), .box [sl cGPair x25.L, vI x25.X.T, vI x25.X.V], .box [.v (.slice none 0 0), vB false, vI (0 : Int), vB false, vI (0 : Int), vI (0 : Int), vI (0 : Int)], .box [vB x34.1.On, vI x34.1.Since, vB x34.1.Hit, vI x34.1.Fired]]) (mst x23.2.1 x26 (⟨x25.L, x34.1, x34.2, x25.X.V⟩ : GAlert)) fun x35 =>
 letE vI (wI (x23.2.2 + (1 : Int))) fun x36 =>
 nextM (x23.1, x35, x36)))) (
 exitM <|
 tailM 5 <|
 callO [3] [.box [sl cGAlert x1.A, vI x23.1], .box [.v (.slice none 0 0), vI (0 : Int)], .dead, .map (mp kS (ag cGAlert) x23.2.1)] (fun x37 => (sl cGAlert) x37) (fun x37 => [.box [sl cGAlert x1.A, vI x23.1], .box [.v (.slice none 0 0), vI (0 : Int)], .dead, .map (mp kS (ag cGAlert) x23.2.1)]) (table_sorted_o x23.2.1) fun x37 =>
 retM (⟨x37, x23.1⟩ : GTable))) (x1.Full, x5.1, (0 : Int)))) (x3, (0 : Int))

def strings_Compare (a0 : Str) (a1 : Str) : Option (Int) :=
 callM vI (fun x1 => []) (bytealg_CompareString a0 a1) fun x1 =>
 retM x1

def snap_compare (a0 : GKey) (a1 : GKey) : Option (Int) :=
 drawM <|
 callM vI (fun x1 => [.box [vS a0.Group, vS a0.Rule], .box [vS a1.Group, vS a1.Rule]]) (strings_Compare a0.Group a1.Group) fun x1 =>
 callM vI (fun x2 => [.box [vS a0.Group, vS a0.Rule], .box [vS a1.Group, vS a1.Rule]]) (strings_Compare a0.Rule a1.Rule) fun x2 =>
 letE (sx cI) ([x1, x2] : (List Int)) fun x3 =>
 callM vI (fun x4 => [.box [vS a0.Group, vS a0.Rule], .box [vS a1.Group, vS a1.Rule]]) (cmp_Or_int x3) fun x4 =>
 retM x4

def snap_Sane (a0 : (List GSaved)) : Option (Bool) :=
 letE vI ((a0.length : Int)) fun x1 =>
 letE vB (decide ((256 : Int) < x1)) fun x2 =>
 iteM x2 (
 retM false) (
 letE vI ((a0.length : Int)) fun x3 =>
 loopM (fun (x4 : Int) => [(0, sl cGSaved a0), (8, sl cGSaved a0), (9, vI x3), (10, vI x4)]) (fun (x4 : Int) => []) (fun (x4 : Int) =>
 letE vB (decide (x4 < x3)) fun x5 =>
 iteM x5 (
 idxM a0 x4 fun x6 =>
 callM vB (fun x7 => [.box [vS x6.K.Group, vS x6.K.Rule, sl cGAlert x6.X.A, vI x6.X.Full]]) (label_Name x6.K.Group) fun x7 =>
 letE vB (!x7) fun x8 =>
 iteM x8 (
 exitM <|
 retM false) (
 callM vB (fun x9 => [.box [vS x6.K.Group, vS x6.K.Rule, sl cGAlert x6.X.A, vI x6.X.Full]]) (label_Name x6.K.Rule) fun x9 =>
 letE vB (!x9) fun x10 =>
 iteM x10 (
 exitM <|
 retM false) (
 callM vB (fun x11 => [.box [vS x6.K.Group, vS x6.K.Rule, sl cGAlert x6.X.A, vI x6.X.Full]]) (table_Sane x6.X) fun x11 =>
 letE vB (!x11) fun x12 =>
 iteM x12 (
 exitM <|
 retM false) (
 drawM <|
 letE vB (decide ((0 : Int) < x4)) fun x13 =>
 letE vI (wI (x4 - (1 : Int))) fun x14 =>
 iteM x13 (
 idxM a0 x14 fun x15 =>
 callM vI (fun x16 => [.box [vS x6.K.Group, vS x6.K.Rule, sl cGAlert x6.X.A, vI x6.X.Full]]) (snap_compare x15.K x6.K) fun x16 =>
 letE vB (decide ((0 : Int) ≤ x16)) fun x17 =>
 iteM x17 (
 exitM <|
 retM false) (
 letE vI (wI (x4 + (1 : Int))) fun x18 =>
 nextM x18)) (
 letE vI (wI (x4 + (1 : Int))) fun x19 =>
 nextM x19))))) (
 exitM <|
 retM true)) (0 : Int))

def slices_Clone_byte_byte (a0 : (List Int)) : Option ((List Int)) :=
 nilM a0 (
 retM ([] : (List Int))) (
 bs0M <|
 gdM ((([] : (List Int)).length + a0.length) * 1 ≤ 140737488355328) <|
 letO (so 0 (cK .u8)) (fun x1 => [tk x1.length 1 5]) (([] : (List Int)) ++ a0) fun x1 =>
 retM x1)

def codec_addUint_o (a0 : Int) (a1 : (List Int)) (a2 : Bool) : Option ((List Int)) :=
 letE vB (decide (a0 < (0 : Int))) fun x1 =>
 letE vB (decide ((1152921504606846976 : Int) < a0)) fun x2 =>
 letE vB (bif x1 then true else x2) fun x3 =>
 iteM x3 (
 retM a1) (
 loopM (fun (x4 : (List Int) × Int) => [(0, so 0 (cK .u8) x4.1), (1, vI x4.2)]) (fun (x4 : (List Int) × Int) => [.tok x4.1.length 1 5 a2]) (fun (x4 : (List Int) × Int) =>
 letE vB (decide ((128 : Int) ≤ x4.2)) fun x5 =>
 iteM x5 (
 letE vI (Int.tmod x4.2 (128 : Int)) fun x6 =>
 letE vI (wI (x6 + (128 : Int))) fun x7 =>
 letE (vK .u8) (IntKind.u8.wrap x7) fun x8 =>
 letE (sx (cK .u8)) ([x8] : (List Int)) fun x9 =>
 gdM ((x4.1.length + x9.length) * 1 ≤ 140737488355328) <|
 letO (so 0 (cK .u8)) (fun x10 => [.tok x10.length 1 5 a2]) (x4.1 ++ x9) fun x10 =>
 letE vI (wI (Int.tdiv x4.2 (128 : Int))) fun x11 =>
 nextM (x10, x11)) (
 exitM <|
 letE (vK .u8) (IntKind.u8.wrap x4.2) fun x12 =>
 letE (sx (cK .u8)) ([x12] : (List Int)) fun x13 =>
 gdM ((x4.1.length + x13.length) * 1 ≤ 140737488355328) <|
 letO (so 0 (cK .u8)) (fun x14 => [.tok x14.length 1 5 a2]) (x4.1 ++ x13) fun x14 =>
 retM x14)) (a1, a0))

def codec_PutUint (a0 : (List Int)) (a1 : Int) : Option ((List Int)) :=
 callM (so 0 (cK .u8)) (fun x1 => [tk x1.length 1 5]) (slices_Clone_byte_byte a0) fun x1 =>
 callP [0] (fun x2 => so 0 (cK .u8) x2) (fun x2 => [tk x2.length 1 5]) (codec_addUint_o a1 x1 true) fun x2 =>
 retM x2

def codec_addText_o (a0 : Str) (a1 : (List Int)) (a2 : Bool) : Option ((List Int)) :=
 letE vI ((a0.length : Int)) fun x1 =>
 letE vB (decide ((65536 : Int) < x1)) fun x2 =>
 iteM x2 (
 retM a1) (
 letE vI ((a0.length : Int)) fun x3 =>
 callP [0] (fun x4 => so 0 (cK .u8) x4) (fun x4 => [.tok x4.length 1 5 a2]) (codec_addUint_o x3 a1 a2) fun x4 =>
 gdM ((x4.length + (octs a0).length) * 1 ≤ 140737488355328) <|
 letO (so 0 (cK .u8)) (fun x5 => [.tok x5.length 1 5 a2]) (x4 ++ (octs a0)) fun x5 =>
 retM x5)

def codec_PutText (a0 : (List Int)) (a1 : Str) : Option ((List Int)) :=
 callM (so 0 (cK .u8)) (fun x1 => [tk x1.length 1 5]) (slices_Clone_byte_byte a0) fun x1 =>
 callP [0] (fun x2 => so 0 (cK .u8) x2) (fun x2 => [tk x2.length 1 5]) (codec_addText_o a1 x1 true) fun x2 =>
 retM x2

def slices_Clip_byte_byte (a0 : (List Int)) : Option ((List Int)) :=
 letE vI ((a0.length : Int)) fun x1 =>
 letE vI ((a0.length : Int)) fun x2 =>
 gdM (0 ≤ (0 : Int) ∧ (0 : Int) ≤ x1 ∧ x1 ≤ (a0.length : Int)) <|
 gdM (x2 = x1) <|
 letE (sx (cK .u8)) ((a0.take x1.toNat).drop (0 : Int).toNat) fun x3 =>
 gdM (0 < x3.length) <|
 exoM 2 0 <|
 retM x3

def codec_PutLabels (a0 : (List Int)) (a1 : (List GPair)) : Option ((List Int)) :=
 callM vB (fun x1 => []) (label_Sane a1) fun x1 =>
 letE vB (!x1) fun x2 =>
 iteM x2 (
 callM (so 0 (cK .u8)) (fun x3 => [.tok x3.length 1 5 false]) (slices_Clip_byte_byte a0) fun x3 =>
 letE vI ((0 : Int)) fun x4 =>
 callP [0] (fun x5 => so 0 (cK .u8) x5) (fun x5 => [.tok x5.length 1 5 false]) (codec_addUint_o x4 x3 false) fun x5 =>
 letE vI ((0 : Int)) fun x6 =>
 loopM (fun (x7 : Unit) => [(0, so 0 (cK .u8) x5), (15, .v (.slice none 0 0)), (16, vI x6), (17, vI (0 : Int))]) (fun (x7 : Unit) => [.tok x5.length 1 5 false]) (fun (x7 : Unit) =>
 letE vB (decide ((0 : Int) < x6)) fun x8 =>
 iteM x8 (
 noM) (
 exitM <|
 retM x5)) ()) (
 callM (so 0 (cK .u8)) (fun x9 => [.tok x9.length 1 5 false]) (slices_Clip_byte_byte a0) fun x9 =>
 letE vI ((a1.length : Int)) fun x10 =>
 callP [0] (fun x11 => so 0 (cK .u8) x11) (fun x11 => [.tok x11.length 1 5 false]) (codec_addUint_o x10 x9 false) fun x11 =>
 letE vI ((a1.length : Int)) fun x12 =>
 loopM (fun (x13 : (List Int) × Int) => [(0, so 0 (cK .u8) x13.1), (15, sl cGPair a1), (16, vI x12), (17, vI x13.2)]) (fun (x13 : (List Int) × Int) => [.tok x13.1.length 1 5 false]) (fun (x13 : (List Int) × Int) =>
 letE vB (decide (x13.2 < x12)) fun x14 =>
 iteM x14 (
 idxM a1 x13.2 fun x15 =>
 permM [(false, 0), (false, 1), (false, 2), (false, 4), (false, 5), (true, 3), (true, 6), (false, 7)] <|
 callP [0] (fun x16 => so 0 (cK .u8) x16) (fun x16 => [.tok x16.length 1 5 false, .box [vS x15.Name, vS x15.Value]]) (codec_addText_o x15.Name x13.1 false) fun x16 =>
 callP [0] (fun x17 => so 0 (cK .u8) x17) (fun x17 => [.tok x17.length 1 5 false, .box [vS x15.Name, vS x15.Value]]) (codec_addText_o x15.Value x16 false) fun x17 =>
 letE vI (wI (x13.2 + (1 : Int))) fun x18 =>
 nextM (x17, x18)) (
 exitM <|
 retM x13.1)) (x11, (0 : Int)))

def codec_PutInt (a0 : (List Int)) (a1 : Int) : Option ((List Int)) :=
 letE vB (decide (a1 < (-576460752303423488 : Int))) fun x1 =>
 letE vB (decide ((576460752303423488 : Int) < a1)) fun x2 =>
 letE vB (bif x1 then true else x2) fun x3 =>
 iteM x3 (
 callM (so 0 (cK .u8)) (fun x4 => [tk x4.length 1 5]) (slices_Clone_byte_byte a0) fun x4 =>
 retM x4) (
 letE vB (decide (a1 < (0 : Int))) fun x5 =>
 iteM x5 (
 letE vI (wI ((-2 : Int) * a1)) fun x6 =>
 letE vI (wI (x6 - (1 : Int))) fun x7 =>
 callM (so 0 (cK .u8)) (fun x8 => [tk x8.length 1 5]) (codec_PutUint a0 x7) fun x8 =>
 retM x8) (
 letE vI (wI ((2 : Int) * a1)) fun x9 =>
 callM (so 0 (cK .u8)) (fun x10 => [tk x10.length 1 5]) (codec_PutUint a0 x9) fun x10 =>
 retM x10))

def snap_putAlert (a0 : (List Int)) (a1 : GAlert) : Option ((List Int)) :=
 iteM a1.H.On (
 letE vI (wI (a1.State + (4 : Int))) fun x1 =>
 iteM a1.H.Hit (
 letE vI (wI (x1 + (8 : Int))) fun x2 =>
 callM (so 1 (cK .u8)) (fun x3 => [.box [sl cGPair a1.L, vB true, vI a1.H.Since, vB true, vI a1.H.Fired, vI a1.State, vI a1.V], .tok x3.length 1 5 false]) (codec_PutLabels a0 a1.L) fun x3 =>
 callM (so 2 (cK .u8)) (fun x4 => [.box [sl cGPair a1.L, vB true, vI a1.H.Since, vB true, vI a1.H.Fired, vI a1.State, vI a1.V], .tok x3.length 1 5 false, tk x4.length 1 5]) (codec_PutUint x3 x2) fun x4 =>
 callM (so 3 (cK .u8)) (fun x5 => [.box [sl cGPair a1.L, vB true, vI a1.H.Since, vB true, vI a1.H.Fired, vI a1.State, vI a1.V], .tok x3.length 1 5 false, .tok x4.length 1 5 false, tk x5.length 1 5]) (codec_PutUint x4 a1.H.Since) fun x5 =>
 callM (so 4 (cK .u8)) (fun x6 => [.box [sl cGPair a1.L, vB true, vI a1.H.Since, vB true, vI a1.H.Fired, vI a1.State, vI a1.V], .tok x3.length 1 5 false, .tok x4.length 1 5 false, .tok x5.length 1 5 false, tk x6.length 1 5]) (codec_PutUint x5 a1.H.Fired) fun x6 =>
 letE vI (max a1.V (-576460752303423488 : Int)) fun x7 =>
 letE vI (min x7 (576460752303423488 : Int)) fun x8 =>
 callM (so 5 (cK .u8)) (fun x9 => [.box [sl cGPair a1.L, vB true, vI a1.H.Since, vB true, vI a1.H.Fired, vI a1.State, vI a1.V], .tok x3.length 1 5 false, .tok x4.length 1 5 false, .tok x5.length 1 5 false, .tok x6.length 1 5 false, tk x9.length 1 5]) (codec_PutInt x6 x8) fun x9 =>
 retM x9) (
 callM (so 1 (cK .u8)) (fun x10 => [.box [sl cGPair a1.L, vB true, vI a1.H.Since, vB false, vI a1.H.Fired, vI a1.State, vI a1.V], .tok x10.length 1 5 false]) (codec_PutLabels a0 a1.L) fun x10 =>
 callM (so 2 (cK .u8)) (fun x11 => [.box [sl cGPair a1.L, vB true, vI a1.H.Since, vB false, vI a1.H.Fired, vI a1.State, vI a1.V], .tok x10.length 1 5 false, tk x11.length 1 5]) (codec_PutUint x10 x1) fun x11 =>
 callM (so 3 (cK .u8)) (fun x12 => [.box [sl cGPair a1.L, vB true, vI a1.H.Since, vB false, vI a1.H.Fired, vI a1.State, vI a1.V], .tok x10.length 1 5 false, .tok x11.length 1 5 false, tk x12.length 1 5]) (codec_PutUint x11 a1.H.Since) fun x12 =>
 callM (so 4 (cK .u8)) (fun x13 => [.box [sl cGPair a1.L, vB true, vI a1.H.Since, vB false, vI a1.H.Fired, vI a1.State, vI a1.V], .tok x10.length 1 5 false, .tok x11.length 1 5 false, .tok x12.length 1 5 false, tk x13.length 1 5]) (codec_PutUint x12 a1.H.Fired) fun x13 =>
 letE vI (max a1.V (-576460752303423488 : Int)) fun x14 =>
 letE vI (min x14 (576460752303423488 : Int)) fun x15 =>
 callM (so 5 (cK .u8)) (fun x16 => [.box [sl cGPair a1.L, vB true, vI a1.H.Since, vB false, vI a1.H.Fired, vI a1.State, vI a1.V], .tok x10.length 1 5 false, .tok x11.length 1 5 false, .tok x12.length 1 5 false, .tok x13.length 1 5 false, tk x16.length 1 5]) (codec_PutInt x13 x15) fun x16 =>
 retM x16)) (
 iteM a1.H.Hit (
 letE vI (wI (a1.State + (8 : Int))) fun x17 =>
 callM (so 1 (cK .u8)) (fun x18 => [.box [sl cGPair a1.L, vB false, vI a1.H.Since, vB true, vI a1.H.Fired, vI a1.State, vI a1.V], .tok x18.length 1 5 false]) (codec_PutLabels a0 a1.L) fun x18 =>
 callM (so 2 (cK .u8)) (fun x19 => [.box [sl cGPair a1.L, vB false, vI a1.H.Since, vB true, vI a1.H.Fired, vI a1.State, vI a1.V], .tok x18.length 1 5 false, tk x19.length 1 5]) (codec_PutUint x18 x17) fun x19 =>
 callM (so 3 (cK .u8)) (fun x20 => [.box [sl cGPair a1.L, vB false, vI a1.H.Since, vB true, vI a1.H.Fired, vI a1.State, vI a1.V], .tok x18.length 1 5 false, .tok x19.length 1 5 false, tk x20.length 1 5]) (codec_PutUint x19 a1.H.Since) fun x20 =>
 callM (so 4 (cK .u8)) (fun x21 => [.box [sl cGPair a1.L, vB false, vI a1.H.Since, vB true, vI a1.H.Fired, vI a1.State, vI a1.V], .tok x18.length 1 5 false, .tok x19.length 1 5 false, .tok x20.length 1 5 false, tk x21.length 1 5]) (codec_PutUint x20 a1.H.Fired) fun x21 =>
 letE vI (max a1.V (-576460752303423488 : Int)) fun x22 =>
 letE vI (min x22 (576460752303423488 : Int)) fun x23 =>
 callM (so 5 (cK .u8)) (fun x24 => [.box [sl cGPair a1.L, vB false, vI a1.H.Since, vB true, vI a1.H.Fired, vI a1.State, vI a1.V], .tok x18.length 1 5 false, .tok x19.length 1 5 false, .tok x20.length 1 5 false, .tok x21.length 1 5 false, tk x24.length 1 5]) (codec_PutInt x21 x23) fun x24 =>
 retM x24) (
 callM (so 1 (cK .u8)) (fun x25 => [.box [sl cGPair a1.L, vB false, vI a1.H.Since, vB false, vI a1.H.Fired, vI a1.State, vI a1.V], .tok x25.length 1 5 false]) (codec_PutLabels a0 a1.L) fun x25 =>
 callM (so 2 (cK .u8)) (fun x26 => [.box [sl cGPair a1.L, vB false, vI a1.H.Since, vB false, vI a1.H.Fired, vI a1.State, vI a1.V], .tok x25.length 1 5 false, tk x26.length 1 5]) (codec_PutUint x25 a1.State) fun x26 =>
 callM (so 3 (cK .u8)) (fun x27 => [.box [sl cGPair a1.L, vB false, vI a1.H.Since, vB false, vI a1.H.Fired, vI a1.State, vI a1.V], .tok x25.length 1 5 false, .tok x26.length 1 5 false, tk x27.length 1 5]) (codec_PutUint x26 a1.H.Since) fun x27 =>
 callM (so 4 (cK .u8)) (fun x28 => [.box [sl cGPair a1.L, vB false, vI a1.H.Since, vB false, vI a1.H.Fired, vI a1.State, vI a1.V], .tok x25.length 1 5 false, .tok x26.length 1 5 false, .tok x27.length 1 5 false, tk x28.length 1 5]) (codec_PutUint x27 a1.H.Fired) fun x28 =>
 letE vI (max a1.V (-576460752303423488 : Int)) fun x29 =>
 letE vI (min x29 (576460752303423488 : Int)) fun x30 =>
 callM (so 5 (cK .u8)) (fun x31 => [.box [sl cGPair a1.L, vB false, vI a1.H.Since, vB false, vI a1.H.Fired, vI a1.State, vI a1.V], .tok x25.length 1 5 false, .tok x26.length 1 5 false, .tok x27.length 1 5 false, .tok x28.length 1 5 false, tk x31.length 1 5]) (codec_PutInt x28 x30) fun x31 =>
 retM x31))

def snap_Put (a0 : (List GSaved)) : Option ((List Int)) :=
 callM vB (fun x1 => []) (snap_Sane a0) fun x1 =>
 letE vB (!x1) fun x2 =>
 iteM x2 (
 retM ([] : (List Int))) (
 letE vI ((a0.length : Int)) fun x3 =>
 callM (so 0 (cK .u8)) (fun x4 => [tk x4.length 1 5]) (codec_PutUint ([] : (List Int)) x3) fun x4 =>
 letE vI ((a0.length : Int)) fun x5 =>
 pubM 3 0 <|
 loopM (fun (x6 : Int × (List Int)) => [(3, sl (cK .u8) x6.2), (14, sl cGSaved a0), (15, vI x5), (16, vI x6.1)]) (fun (x6 : Int × (List Int)) => []) (fun (x6 : Int × (List Int)) =>
 letE vB (decide (x6.1 < x5)) fun x7 =>
 iteM x7 (
 idxM a0 x6.1 fun x8 =>
 callM (so 1 (cK .u8)) (fun x9 => [.box [vS x8.K.Group, vS x8.K.Rule, sl cGAlert x8.X.A, vI x8.X.Full], tk x9.length 1 5]) (codec_PutText x6.2 x8.K.Group) fun x9 =>
 callM (so 2 (cK .u8)) (fun x10 => [.box [vS x8.K.Group, vS x8.K.Rule, sl cGAlert x8.X.A, vI x8.X.Full], .tok x9.length 1 5 false, tk x10.length 1 5]) (codec_PutText x9 x8.K.Rule) fun x10 =>
 callM (so 3 (cK .u8)) (fun x11 => [.box [vS x8.K.Group, vS x8.K.Rule, sl cGAlert x8.X.A, vI x8.X.Full], .tok x9.length 1 5 false, .tok x10.length 1 5 false, tk x11.length 1 5]) (codec_PutUint x10 x8.X.Full) fun x11 =>
 letE vI ((x8.X.A.length : Int)) fun x12 =>
 callM (so 4 (cK .u8)) (fun x13 => [.box [vS x8.K.Group, vS x8.K.Rule, sl cGAlert x8.X.A, vI x8.X.Full], .tok x9.length 1 5 false, .tok x10.length 1 5 false, .tok x11.length 1 5 false, tk x13.length 1 5]) (codec_PutUint x11 x12) fun x13 =>
 letE vI ((x8.X.A.length : Int)) fun x14 =>
 pubM 3 4 <|
 loopM (fun (x15 : (List Int) × Int) => [(3, sl (cK .u8) x15.1), (14, sl cGSaved a0), (15, vI x5), (16, vI x6.1), (43, sl cGAlert x8.X.A), (44, vI x14), (45, vI x15.2)]) (fun (x15 : (List Int) × Int) => []) (fun (x15 : (List Int) × Int) =>
 letE vB (decide (x15.2 < x14)) fun x16 =>
 iteM x16 (
 idxM x8.X.A x15.2 fun x17 =>
 callM (sl (cK .u8)) (fun x18 => [.box [sl cGPair x17.L, vB x17.H.On, vI x17.H.Since, vB x17.H.Hit, vI x17.H.Fired, vI x17.State, vI x17.V]]) (snap_putAlert x15.1 x17) fun x18 =>
 letE vI (wI (x15.2 + (1 : Int))) fun x19 =>
 nextM (x18, x19)) (
 exitM <|
 letE vI (wI (x6.1 + (1 : Int))) fun x20 =>
 nextM (x20, x15.1))) (x13, (0 : Int))) (
 exitM <|
 retM x6.2)) ((0 : Int), x4))

def codec_GetUint (a0 : (List Int)) : Option (Int × (List Int) × Int) :=
 loopM (fun (x1 : Int × Int) => [(0, sl (cK .u8) a0), (5, vI x1.1), (7, vI x1.2)]) (fun (x1 : Int × Int) => []) (fun (x1 : Int × Int) =>
 letE vB (decide (x1.2 < (9 : Int))) fun x2 =>
 iteM x2 (
 letE vI ((a0.length : Int)) fun x3 =>
 letE vB (decide (x1.2 = x3)) fun x4 =>
 iteM x4 (
 exitM <|
 retM ((0 : Int), ([] : (List Int)), (3 : Int))) (
 idxM a0 x1.2 fun x5 =>
 letE (vK .u8) (Int.tmod x5 (128 : Int)) fun x6 =>
 letE vI (wI x6) fun x7 =>
 letE vI (wI ((7 : Int) * x1.2)) fun x8 =>
 gdM (0 ≤ x8) <|
 letE vI (wI (x7 * 2 ^ min x8.toNat 64)) fun x9 =>
 letE vI (bOr .i64 x1.1 x9) fun x10 =>
 letE vB (decide ((128 : Int) ≤ x5)) fun x11 =>
 iteM x11 (
 letE vI (wI (x1.2 + (1 : Int))) fun x12 =>
 nextM (x10, x12)) (
 letE vB (decide ((1152921504606846976 : Int) < x10)) fun x13 =>
 iteM x13 (
 exitM <|
 retM ((0 : Int), ([] : (List Int)), (2 : Int))) (
 letE vB (decide (x5 = (0 : Int))) fun x14 =>
 letE vB (decide ((0 : Int) < x1.2)) fun x15 =>
 letE vB (bif x14 then x15 else false) fun x16 =>
 iteM x16 (
 exitM <|
 retM ((0 : Int), ([] : (List Int)), (1 : Int))) (
 letE vI (wI (x1.2 + (1 : Int))) fun x17 =>
 gdM (0 ≤ x17 ∧ x17 ≤ (a0.length : Int) ∧ (a0.length : Int) ≤ (a0.length : Int)) <|
 letE (sl (cK .u8)) ((a0.take (a0.length : Int).toNat).drop x17.toNat) fun x18 =>
 exitM <|
 retM (x10, x18, (0 : Int))))))) (
 exitM <|
 retM ((0 : Int), ([] : (List Int)), (2 : Int)))) ((0 : Int), (0 : Int))

def snap_reader_fail_o (a0 : Int) (a1 : Gsnap_reader) : Option (Gsnap_reader) :=
 letE vB (decide (a1.e = (0 : Int))) fun x1 =>
 iteM x1 (
 retM (⟨a1.b, a0⟩ : Gsnap_reader)) (
 retM a1)

def snap_read_int_o (a0 : Gsnap_reader) : Option (Int × Gsnap_reader) :=
 letE vB (!decide (a0.e = (0 : Int))) fun x1 =>
 iteM x1 (
 retM ((0 : Int), a0)) (
 callM (fun x2 => .tup [vI x2.1, (sl (cK .u8)) x2.2.1, vI x2.2.2]) (fun x2 => [.box [sl (cK .u8) a0.b, vI a0.e]]) (codec_GetUint a0.b) fun x2 =>
 letE vB (!decide (x2.2.2 = (0 : Int))) fun x3 =>
 iteM x3 (
 callO [0] [.box [sl (cK .u8) a0.b, vI a0.e]] (fun x4 => .tup []) (fun x4 => [.box [sl (cK .u8) x4.b, vI x4.e]]) (snap_reader_fail_o x2.2.2 a0) fun x4 =>
 retM ((0 : Int), x4)) (
 retM (x2.1, (⟨x2.2.1, a0.e⟩ : Gsnap_reader))))

def codec_GetText (a0 : (List Int)) : Option (Str × (List Int) × Int) :=
 callM (fun x1 => .tup [vI x1.1, (sl (cK .u8)) x1.2.1, vI x1.2.2]) (fun x1 => []) (codec_GetUint a0) fun x1 =>
 letE vB (!decide (x1.2.2 = (0 : Int))) fun x2 =>
 iteM x2 (
 retM (([] : Str), ([] : (List Int)), x1.2.2)) (
 letE vB (decide ((65536 : Int) < x1.1)) fun x3 =>
 iteM x3 (
 retM (([] : Str), ([] : (List Int)), (4 : Int))) (
 letE vI ((x1.2.1.length : Int)) fun x4 =>
 letE vB (decide (x4 < x1.1)) fun x5 =>
 iteM x5 (
 retM (([] : Str), ([] : (List Int)), (3 : Int))) (
 drawM <|
 gdM (0 ≤ (0 : Int) ∧ (0 : Int) ≤ x1.1 ∧ x1.1 ≤ (x1.2.1.length : Int)) <|
 letE (sl (cK .u8)) ((x1.2.1.take x1.1.toNat).drop (0 : Int).toNat) fun x6 =>
 letE vS (strOf x6) fun x7 =>
 gdM (0 ≤ x1.1 ∧ x1.1 ≤ (x1.2.1.length : Int) ∧ (x1.2.1.length : Int) ≤ (x1.2.1.length : Int)) <|
 letE (sl (cK .u8)) ((x1.2.1.take (x1.2.1.length : Int).toNat).drop x1.1.toNat) fun x8 =>
 retM (x7, x8, (0 : Int)))))

def snap_read_string_o (a0 : Gsnap_reader) : Option (Str × Gsnap_reader) :=
 letE vB (!decide (a0.e = (0 : Int))) fun x1 =>
 iteM x1 (
 retM (([] : Str), a0)) (
 callM (fun x2 => .tup [vS x2.1, (sl (cK .u8)) x2.2.1, vI x2.2.2]) (fun x2 => [.box [sl (cK .u8) a0.b, vI a0.e]]) (codec_GetText a0.b) fun x2 =>
 letE vB (!decide (x2.2.2 = (0 : Int))) fun x3 =>
 iteM x3 (
 callO [0] [.box [sl (cK .u8) a0.b, vI a0.e]] (fun x4 => .tup []) (fun x4 => [.box [sl (cK .u8) x4.b, vI x4.e]]) (snap_reader_fail_o x2.2.2 a0) fun x4 =>
 retM (([] : Str), x4)) (
 retM (x2.1, (⟨x2.2.1, a0.e⟩ : Gsnap_reader))))

def codec_got_int_o (a0 : Gcodec_reader) : Option (Int × Gcodec_reader) :=
 letE vB (decide (a0.e = (0 : Int))) fun x1 =>
 iteM x1 (
 callM (fun x2 => .tup [vI x2.1, (sl (cK .u8)) x2.2.1, vI x2.2.2]) (fun x2 => [.box [sl (cK .u8) a0.b, vI a0.e]]) (codec_GetUint a0.b) fun x2 =>
 retM (x2.1, (⟨x2.2.1, x2.2.2⟩ : Gcodec_reader))) (
 retM ((0 : Int), a0))

def codec_got_string_o (a0 : Gcodec_reader) : Option (Str × Gcodec_reader) :=
 letE vB (decide (a0.e = (0 : Int))) fun x1 =>
 iteM x1 (
 callM (fun x2 => .tup [vS x2.1, (sl (cK .u8)) x2.2.1, vI x2.2.2]) (fun x2 => [.box [sl (cK .u8) a0.b, vI a0.e]]) (codec_GetText a0.b) fun x2 =>
 retM (x2.1, (⟨x2.2.1, x2.2.2⟩ : Gcodec_reader))) (
 retM (([] : Str), a0))

def codec_GetLabels (a0 : (List Int)) : Option ((List GPair) × (List Int) × Int) :=
 callO [0] [.box [sl (cK .u8) a0, vI (0 : Int)]] (fun x1 => vI x1.1) (fun x1 => [.box [sl (cK .u8) x1.2.b, vI x1.2.e]]) (codec_got_int_o (⟨a0, (0 : Int)⟩ : Gcodec_reader)) fun x1 =>
 letE vB (decide (x1.2.e = (0 : Int))) fun x2 =>
 letE vB (decide ((16 : Int) < x1.1)) fun x3 =>
 letE vB (bif x2 then x3 else false) fun x4 =>
 iteM x4 (
 tokM 7 2 50 <|
 loopM (fun (x5 : (List Int) × Int × (List GPair)) => [(5, .ptr 0 0), (6, vI x1.1), (7, so 1 cGPair x5.2.2)]) (fun (x5 : (List Int) × Int × (List GPair)) => [.box [sl (cK .u8) x5.1, vI x5.2.1], tk x5.2.2.length 2 50]) (fun (x5 : (List Int) × Int × (List GPair)) =>
 letE vB (decide (x5.2.1 = (0 : Int))) fun x6 =>
 letE vI ((x5.2.2.length : Int)) fun x7 =>
 letE vB (decide (x7 < x1.1)) fun x8 =>
 letE vB (bif x6 then x8 else false) fun x9 =>
 iteM x9 (
 callO [0] [.box [sl (cK .u8) x5.1, vI x5.2.1], tk x5.2.2.length 2 50] (fun x10 => vS x10.1) (fun x10 => [.box [sl (cK .u8) x10.2.b, vI x10.2.e], tk x5.2.2.length 2 50]) (codec_got_string_o (⟨x5.1, x5.2.1⟩ : Gcodec_reader)) fun x10 =>
 callO [0] [.box [sl (cK .u8) x10.2.b, vI x10.2.e], tk x5.2.2.length 2 50] (fun x11 => vS x11.1) (fun x11 => [.box [sl (cK .u8) x11.2.b, vI x11.2.e], tk x5.2.2.length 2 50]) (codec_got_string_o x10.2) fun x11 =>
 letE (sx cGPair) ([(⟨x10.1, x11.1⟩ : GPair)] : (List GPair)) fun x12 =>
 gdM ((x5.2.2.length + x12.length) * 32 ≤ 140737488355328) <|
 letO (so 1 cGPair) (fun x13 => [.box [sl (cK .u8) x11.2.b, vI x11.2.e], tk x13.length 2 50]) (x5.2.2 ++ x12) fun x13 =>
 nextM (x11.2.b, x11.2.e, x13)) (
 exitM <|
 letE vB (decide (x5.2.1 = (0 : Int))) fun x14 =>
 iteM x14 (
 callM vB (fun x15 => [.box [sl (cK .u8) x5.1, vI x5.2.1], .tok x5.2.2.length 2 50 false]) (label_Sane x5.2.2) fun x15 =>
 letE vB (!x15) fun x16 =>
 iteM x16 (
 letE vB (!decide ((1 : Int) = (0 : Int))) fun x17 =>
 iteM x17 (
 retM (([] : (List GPair)), ([] : (List Int)), (1 : Int))) (
 retM (x5.2.2, x5.1, (0 : Int)))) (
 letE vB (!decide (x5.2.1 = (0 : Int))) fun x18 =>
 iteM x18 (
 retM (([] : (List GPair)), ([] : (List Int)), x5.2.1)) (
 retM (x5.2.2, x5.1, (0 : Int))))) (
 letE vB (!decide (x5.2.1 = (0 : Int))) fun x19 =>
 iteM x19 (
 retM (([] : (List GPair)), ([] : (List Int)), x5.2.1)) (
 retM (x5.2.2, x5.1, (0 : Int)))))) (x1.2.b, (4 : Int), ([] : List GPair))) (
 tokM 7 2 50 <|
 loopM (fun (x20 : (List Int) × Int × (List GPair)) => [(5, .ptr 0 0), (6, vI x1.1), (7, so 1 cGPair x20.2.2)]) (fun (x20 : (List Int) × Int × (List GPair)) => [.box [sl (cK .u8) x20.1, vI x20.2.1], tk x20.2.2.length 2 50]) (fun (x20 : (List Int) × Int × (List GPair)) =>
 letE vB (decide (x20.2.1 = (0 : Int))) fun x21 =>
 letE vI ((x20.2.2.length : Int)) fun x22 =>
 letE vB (decide (x22 < x1.1)) fun x23 =>
 letE vB (bif x21 then x23 else false) fun x24 =>
 iteM x24 (
 callO [0] [.box [sl (cK .u8) x20.1, vI x20.2.1], tk x20.2.2.length 2 50] (fun x25 => vS x25.1) (fun x25 => [.box [sl (cK .u8) x25.2.b, vI x25.2.e], tk x20.2.2.length 2 50]) (codec_got_string_o (⟨x20.1, x20.2.1⟩ : Gcodec_reader)) fun x25 =>
 callO [0] [.box [sl (cK .u8) x25.2.b, vI x25.2.e], tk x20.2.2.length 2 50] (fun x26 => vS x26.1) (fun x26 => [.box [sl (cK .u8) x26.2.b, vI x26.2.e], tk x20.2.2.length 2 50]) (codec_got_string_o x25.2) fun x26 =>
 letE (sx cGPair) ([(⟨x25.1, x26.1⟩ : GPair)] : (List GPair)) fun x27 =>
 gdM ((x20.2.2.length + x27.length) * 32 ≤ 140737488355328) <|
 letO (so 1 cGPair) (fun x28 => [.box [sl (cK .u8) x26.2.b, vI x26.2.e], tk x28.length 2 50]) (x20.2.2 ++ x27) fun x28 =>
 nextM (x26.2.b, x26.2.e, x28)) (
 exitM <|
 letE vB (decide (x20.2.1 = (0 : Int))) fun x29 =>
 iteM x29 (
 callM vB (fun x30 => [.box [sl (cK .u8) x20.1, vI x20.2.1], .tok x20.2.2.length 2 50 false]) (label_Sane x20.2.2) fun x30 =>
 letE vB (!x30) fun x31 =>
 iteM x31 (
 letE vB (!decide ((1 : Int) = (0 : Int))) fun x32 =>
 iteM x32 (
 retM (([] : (List GPair)), ([] : (List Int)), (1 : Int))) (
 retM (x20.2.2, x20.1, (0 : Int)))) (
 letE vB (!decide (x20.2.1 = (0 : Int))) fun x33 =>
 iteM x33 (
 retM (([] : (List GPair)), ([] : (List Int)), x20.2.1)) (
 retM (x20.2.2, x20.1, (0 : Int))))) (
 letE vB (!decide (x20.2.1 = (0 : Int))) fun x34 =>
 iteM x34 (
 retM (([] : (List GPair)), ([] : (List Int)), x20.2.1)) (
 retM (x20.2.2, x20.1, (0 : Int)))))) (x1.2.b, x1.2.e, ([] : List GPair)))

def snap_read_Pair_o (a0 : Gsnap_reader) : Option ((List GPair) × Gsnap_reader) :=
 letE vB (!decide (a0.e = (0 : Int))) fun x1 =>
 iteM x1 (
 retM (([] : (List GPair)), a0)) (
 callM (fun x2 => .tup [(sl cGPair) x2.1, (sl (cK .u8)) x2.2.1, vI x2.2.2]) (fun x2 => [.box [sl (cK .u8) a0.b, vI a0.e]]) (codec_GetLabels a0.b) fun x2 =>
 letE vB (!decide (x2.2.2 = (0 : Int))) fun x3 =>
 iteM x3 (
 callO [0] [.box [sl (cK .u8) a0.b, vI a0.e]] (fun x4 => .tup []) (fun x4 => [.box [sl (cK .u8) x4.b, vI x4.e]]) (snap_reader_fail_o x2.2.2 a0) fun x4 =>
 retM (([] : (List GPair)), x4)) (
 retM (x2.1, (⟨x2.2.1, a0.e⟩ : Gsnap_reader))))

def codec_GetInt (a0 : (List Int)) : Option (Int × (List Int) × Int) :=
 callM (fun x1 => .tup [vI x1.1, (sl (cK .u8)) x1.2.1, vI x1.2.2]) (fun x1 => []) (codec_GetUint a0) fun x1 =>
 letE vB (!decide (x1.2.2 = (0 : Int))) fun x2 =>
 iteM x2 (
 retM ((0 : Int), ([] : (List Int)), x1.2.2)) (
 letE vI (Int.tmod x1.1 (2 : Int)) fun x3 =>
 letE vB (decide (x3 = (1 : Int))) fun x4 =>
 iteM x4 (
 letE vI (wI (x1.1 + (1 : Int))) fun x5 =>
 letE vI (wI (0 - x5)) fun x6 =>
 letE vI (wI (Int.tdiv x6 (2 : Int))) fun x7 =>
 retM (x7, x1.2.1, (0 : Int))) (
 letE vI (wI (Int.tdiv x1.1 (2 : Int))) fun x8 =>
 retM (x8, x1.2.1, (0 : Int))))

def snap_read_int_o1 (a0 : Gsnap_reader) : Option (Int × Gsnap_reader) :=
 letE vB (!decide (a0.e = (0 : Int))) fun x1 =>
 iteM x1 (
 retM ((0 : Int), a0)) (
 callM (fun x2 => .tup [vI x2.1, (sl (cK .u8)) x2.2.1, vI x2.2.2]) (fun x2 => [.box [sl (cK .u8) a0.b, vI a0.e]]) (codec_GetInt a0.b) fun x2 =>
 letE vB (!decide (x2.2.2 = (0 : Int))) fun x3 =>
 iteM x3 (
 callO [0] [.box [sl (cK .u8) a0.b, vI a0.e]] (fun x4 => .tup []) (fun x4 => [.box [sl (cK .u8) x4.b, vI x4.e]]) (snap_reader_fail_o x2.2.2 a0) fun x4 =>
 retM ((0 : Int), x4)) (
 retM (x2.1, (⟨x2.2.1, a0.e⟩ : Gsnap_reader))))

def snap_reader_alert_o (a0 : Gsnap_reader) : Option (GAlert × Gsnap_reader) :=
 callO [0] [.box [sl (cK .u8) a0.b, vI a0.e], .box [.v (.slice none 0 0), vB false, vI (0 : Int), vB false, vI (0 : Int), vI (0 : Int), vI (0 : Int)], .box [.v (.slice none 0 0), vB false, vI (0 : Int), vB false, vI (0 : Int), vI (0 : Int), vI (0 : Int)]] (fun x1 => (sl cGPair) x1.1) (fun x1 => [.box [sl (cK .u8) x1.2.b, vI x1.2.e], .box [.v (.slice none 0 0), vB false, vI (0 : Int), vB false, vI (0 : Int), vI (0 : Int), vI (0 : Int)], .box [.v (.slice none 0 0), vB false, vI (0 : Int), vB false, vI (0 : Int), vI (0 : Int), vI (0 : Int)]]) (snap_read_Pair_o a0) fun x1 =>
 callO [0] [.box [sl (cK .u8) x1.2.b, vI x1.2.e], .box [.v (.slice none 0 0), vB false, vI (0 : Int), vB false, vI (0 : Int), vI (0 : Int), vI (0 : Int)], .box [sl cGPair x1.1, vB false, vI (0 : Int), vB false, vI (0 : Int), vI (0 : Int), vI (0 : Int)]] (fun x2 => vI x2.1) (fun x2 => [.box [sl (cK .u8) x2.2.b, vI x2.2.e], .box [.v (.slice none 0 0), vB false, vI (0 : Int), vB false, vI (0 : Int), vI (0 : Int), vI (0 : Int)], .box [sl cGPair x1.1, vB false, vI (0 : Int), vB false, vI (0 : Int), vI (0 : Int), vI (0 : Int)]]) (snap_read_int_o x1.2) fun x2 =>
 letE vB (decide ((15 : Int) < x2.1)) fun x3 =>
 iteM x3 (
 callO [0] [.box [sl (cK .u8) x2.2.b, vI x2.2.e], .box [.v (.slice none 0 0), vB false, vI (0 : Int), vB false, vI (0 : Int), vI (0 : Int), vI (0 : Int)], .box [sl cGPair x1.1, vB false, vI (0 : Int), vB false, vI (0 : Int), vI (0 : Int), vI (0 : Int)]] (fun x4 => .tup []) (fun x4 => [.box [sl (cK .u8) x4.b, vI x4.e], .box [.v (.slice none 0 0), vB false, vI (0 : Int), vB false, vI (0 : Int), vI (0 : Int), vI (0 : Int)], .box [sl cGPair x1.1, vB false, vI (0 : Int), vB false, vI (0 : Int), vI (0 : Int), vI (0 : Int)]]) (snap_reader_fail_o (1 : Int) x2.2) fun x4 =>
 letE vI (Int.tmod x2.1 (4 : Int)) fun x5 =>
 letE vI (bAnd .i64 x2.1 (4 : Int)) fun x6 =>
 letE vB (!decide (x6 = (0 : Int))) fun x7 =>
 letE vI (bAnd .i64 x2.1 (8 : Int)) fun x8 =>
 letE vB (!decide (x8 = (0 : Int))) fun x9 =>
 callO [0] [.box [sl (cK .u8) x4.b, vI x4.e], .box [.v (.slice none 0 0), vB false, vI (0 : Int), vB false, vI (0 : Int), vI (0 : Int), vI (0 : Int)], .box [sl cGPair x1.1, vB x7, vI (0 : Int), vB x9, vI (0 : Int), vI x5, vI (0 : Int)]] (fun x10 => vI x10.1) (fun x10 => [.box [sl (cK .u8) x10.2.b, vI x10.2.e], .box [.v (.slice none 0 0), vB false, vI (0 : Int), vB false, vI (0 : Int), vI (0 : Int), vI (0 : Int)], .box [sl cGPair x1.1, vB x7, vI (0 : Int), vB x9, vI (0 : Int), vI x5, vI (0 : Int)]]) (snap_read_int_o x4) fun x10 =>
 callO [0] [.box [sl (cK .u8) x10.2.b, vI x10.2.e], .box [.v (.slice none 0 0), vB false, vI (0 : Int), vB false, vI (0 : Int), vI (0 : Int), vI (0 : Int)], .box [sl cGPair x1.1, vB x7, vI x10.1, vB x9, vI (0 : Int), vI x5, vI (0 : Int)]] (fun x11 => vI x11.1) (fun x11 => [.box [sl (cK .u8) x11.2.b, vI x11.2.e], .box [.v (.slice none 0 0), vB false, vI (0 : Int), vB false, vI (0 : Int), vI (0 : Int), vI (0 : Int)], .box [sl cGPair x1.1, vB x7, vI x10.1, vB x9, vI (0 : Int), vI x5, vI (0 : Int)]]) (snap_read_int_o x10.2) fun x11 =>
 callO [0] [.box [sl (cK .u8) x11.2.b, vI x11.2.e], .box [.v (.slice none 0 0), vB false, vI (0 : Int), vB false, vI (0 : Int), vI (0 : Int), vI (0 : Int)], .box [sl cGPair x1.1, vB x7, vI x10.1, vB x9, vI x11.1, vI x5, vI (0 : Int)]] (fun x12 => vI x12.1) (fun x12 => [.box [sl (cK .u8) x12.2.b, vI x12.2.e], .box [.v (.slice none 0 0), vB false, vI (0 : Int), vB false, vI (0 : Int), vI (0 : Int), vI (0 : Int)], .box [sl cGPair x1.1, vB x7, vI x10.1, vB x9, vI x11.1, vI x5, vI (0 : Int)]]) (snap_read_int_o1 x11.2) fun x12 =>
 retM ((⟨x1.1, (⟨x7, x10.1, x9, x11.1⟩ : GHold), x5, x12.1⟩ : GAlert), x12.2)) (
 letE vI (Int.tmod x2.1 (4 : Int)) fun x13 =>
 letE vI (bAnd .i64 x2.1 (4 : Int)) fun x14 =>
 letE vB (!decide (x14 = (0 : Int))) fun x15 =>
 letE vI (bAnd .i64 x2.1 (8 : Int)) fun x16 =>
 letE vB (!decide (x16 = (0 : Int))) fun x17 =>
 callO [0] [.box [sl (cK .u8) x2.2.b, vI x2.2.e], .box [.v (.slice none 0 0), vB false, vI (0 : Int), vB false, vI (0 : Int), vI (0 : Int), vI (0 : Int)], .box [sl cGPair x1.1, vB x15, vI (0 : Int), vB x17, vI (0 : Int), vI x13, vI (0 : Int)]] (fun x18 => vI x18.1) (fun x18 => [.box [sl (cK .u8) x18.2.b, vI x18.2.e], .box [.v (.slice none 0 0), vB false, vI (0 : Int), vB false, vI (0 : Int), vI (0 : Int), vI (0 : Int)], .box [sl cGPair x1.1, vB x15, vI (0 : Int), vB x17, vI (0 : Int), vI x13, vI (0 : Int)]]) (snap_read_int_o x2.2) fun x18 =>
 callO [0] [.box [sl (cK .u8) x18.2.b, vI x18.2.e], .box [.v (.slice none 0 0), vB false, vI (0 : Int), vB false, vI (0 : Int), vI (0 : Int), vI (0 : Int)], .box [sl cGPair x1.1, vB x15, vI x18.1, vB x17, vI (0 : Int), vI x13, vI (0 : Int)]] (fun x19 => vI x19.1) (fun x19 => [.box [sl (cK .u8) x19.2.b, vI x19.2.e], .box [.v (.slice none 0 0), vB false, vI (0 : Int), vB false, vI (0 : Int), vI (0 : Int), vI (0 : Int)], .box [sl cGPair x1.1, vB x15, vI x18.1, vB x17, vI (0 : Int), vI x13, vI (0 : Int)]]) (snap_read_int_o x18.2) fun x19 =>
 callO [0] [.box [sl (cK .u8) x19.2.b, vI x19.2.e], .box [.v (.slice none 0 0), vB false, vI (0 : Int), vB false, vI (0 : Int), vI (0 : Int), vI (0 : Int)], .box [sl cGPair x1.1, vB x15, vI x18.1, vB x17, vI x19.1, vI x13, vI (0 : Int)]] (fun x20 => vI x20.1) (fun x20 => [.box [sl (cK .u8) x20.2.b, vI x20.2.e], .box [.v (.slice none 0 0), vB false, vI (0 : Int), vB false, vI (0 : Int), vI (0 : Int), vI (0 : Int)], .box [sl cGPair x1.1, vB x15, vI x18.1, vB x17, vI x19.1, vI x13, vI (0 : Int)]]) (snap_read_int_o1 x19.2) fun x20 =>
 retM ((⟨x1.1, (⟨x15, x18.1, x17, x19.1⟩ : GHold), x13, x20.1⟩ : GAlert), x20.2))

def snap_many_Alert_o (a0 : Int) (a1 : Gsnap_reader) : Option ((List GAlert) × Gsnap_reader) :=
 callO [0] [.box [sl (cK .u8) a1.b, vI a1.e]] (fun x1 => vI x1.1) (fun x1 => [.box [sl (cK .u8) x1.2.b, vI x1.2.e]]) (snap_read_int_o a1) fun x1 =>
 letE vB (decide (a0 < x1.1)) fun x2 =>
 iteM x2 (
 callO [0] [.box [sl (cK .u8) x1.2.b, vI x1.2.e]] (fun x3 => .tup []) (fun x3 => [.box [sl (cK .u8) x3.b, vI x3.e]]) (snap_reader_fail_o (4 : Int) x1.2) fun x3 =>
 tokM 8 7 45 <|
 loopM (fun (x4 : (List Int) × Int × (List GAlert) × Int) => [(0, .ptr 0 0), (2, .fn 52 [.ptr 0 0] []), (7, vI x1.1), (8, so 1 cGAlert x4.2.2.1), (9, vI x4.2.2.2)]) (fun (x4 : (List Int) × Int × (List GAlert) × Int) => [.box [sl (cK .u8) x4.1, vI x4.2.1], tk x4.2.2.1.length 7 45]) (fun (x4 : (List Int) × Int × (List GAlert) × Int) =>
 letE vB (decide (x4.2.2.2 < x1.1)) fun x5 =>
 iteM x5 (
 letE vB (decide (x4.2.1 = (0 : Int))) fun x6 =>
 iteM x6 (
 callO [0] [.box [sl (cK .u8) x4.1, vI x4.2.1], tk x4.2.2.1.length 7 45] (fun x7 => (ag cGAlert) x7.1) (fun x7 => [.box [sl (cK .u8) x7.2.b, vI x7.2.e], tk x4.2.2.1.length 7 45]) (snap_reader_alert_o (⟨x4.1, x4.2.1⟩ : Gsnap_reader)) fun x7 =>
 letE (sx cGAlert) ([x7.1] : (List GAlert)) fun x8 =>
 gdM ((x4.2.2.1.length + x8.length) * 72 ≤ 140737488355328) <|
 letO (so 1 cGAlert) (fun x9 => [.box [sl (cK .u8) x7.2.b, vI x7.2.e], tk x9.length 7 45]) (x4.2.2.1 ++ x8) fun x9 =>
 letE vI (wI (x4.2.2.2 + (1 : Int))) fun x10 =>
 nextM (x7.2.b, x7.2.e, x9, x10)) (
 exitM <|
 retM (x4.2.2.1, (⟨x4.1, x4.2.1⟩ : Gsnap_reader)))) (
 exitM <|
 retM (x4.2.2.1, (⟨x4.1, x4.2.1⟩ : Gsnap_reader)))) (x3.b, x3.e, ([] : List GAlert), (0 : Int))) (
 tokM 8 7 45 <|
 loopM (fun (x11 : (List Int) × Int × (List GAlert) × Int) => [(0, .ptr 0 0), (2, .fn 52 [.ptr 0 0] []), (7, vI x1.1), (8, so 1 cGAlert x11.2.2.1), (9, vI x11.2.2.2)]) (fun (x11 : (List Int) × Int × (List GAlert) × Int) => [.box [sl (cK .u8) x11.1, vI x11.2.1], tk x11.2.2.1.length 7 45]) (fun (x11 : (List Int) × Int × (List GAlert) × Int) =>
 letE vB (decide (x11.2.2.2 < x1.1)) fun x12 =>
 iteM x12 (
 letE vB (decide (x11.2.1 = (0 : Int))) fun x13 =>
 iteM x13 (
 callO [0] [.box [sl (cK .u8) x11.1, vI x11.2.1], tk x11.2.2.1.length 7 45] (fun x14 => (ag cGAlert) x14.1) (fun x14 => [.box [sl (cK .u8) x14.2.b, vI x14.2.e], tk x11.2.2.1.length 7 45]) (snap_reader_alert_o (⟨x11.1, x11.2.1⟩ : Gsnap_reader)) fun x14 =>
 letE (sx cGAlert) ([x14.1] : (List GAlert)) fun x15 =>
 gdM ((x11.2.2.1.length + x15.length) * 72 ≤ 140737488355328) <|
 letO (so 1 cGAlert) (fun x16 => [.box [sl (cK .u8) x14.2.b, vI x14.2.e], tk x16.length 7 45]) (x11.2.2.1 ++ x15) fun x16 =>
 letE vI (wI (x11.2.2.2 + (1 : Int))) fun x17 =>
 nextM (x14.2.b, x14.2.e, x16, x17)) (
 exitM <|
 retM (x11.2.2.1, (⟨x11.1, x11.2.1⟩ : Gsnap_reader)))) (
 exitM <|
 retM (x11.2.2.1, (⟨x11.1, x11.2.1⟩ : Gsnap_reader)))) (x1.2.b, x1.2.e, ([] : List GAlert), (0 : Int)))

def snap_reader_saved_o (a0 : Gsnap_reader) : Option (GSaved × Gsnap_reader) :=
 callO [0] [.box [sl (cK .u8) a0.b, vI a0.e], .box [vS ([] : Str), vS ([] : Str), .v (.slice none 0 0), vI (0 : Int)], .box [vS ([] : Str), vS ([] : Str), .v (.slice none 0 0), vI (0 : Int)]] (fun x1 => vS x1.1) (fun x1 => [.box [sl (cK .u8) x1.2.b, vI x1.2.e], .box [vS ([] : Str), vS ([] : Str), .v (.slice none 0 0), vI (0 : Int)], .box [vS ([] : Str), vS ([] : Str), .v (.slice none 0 0), vI (0 : Int)]]) (snap_read_string_o a0) fun x1 =>
 callO [0] [.box [sl (cK .u8) x1.2.b, vI x1.2.e], .box [vS ([] : Str), vS ([] : Str), .v (.slice none 0 0), vI (0 : Int)], .box [vS x1.1, vS ([] : Str), .v (.slice none 0 0), vI (0 : Int)]] (fun x2 => vS x2.1) (fun x2 => [.box [sl (cK .u8) x2.2.b, vI x2.2.e], .box [vS ([] : Str), vS ([] : Str), .v (.slice none 0 0), vI (0 : Int)], .box [vS x1.1, vS ([] : Str), .v (.slice none 0 0), vI (0 : Int)]]) (snap_read_string_o x1.2) fun x2 =>
 callO [0] [.box [sl (cK .u8) x2.2.b, vI x2.2.e], .box [vS ([] : Str), vS ([] : Str), .v (.slice none 0 0), vI (0 : Int)], .box [vS x1.1, vS x2.1, .v (.slice none 0 0), vI (0 : Int)]] (fun x3 => vI x3.1) (fun x3 => [.box [sl (cK .u8) x3.2.b, vI x3.2.e], .box [vS ([] : Str), vS ([] : Str), .v (.slice none 0 0), vI (0 : Int)], .box [vS x1.1, vS x2.1, .v (.slice none 0 0), vI (0 : Int)]]) (snap_read_int_o x2.2) fun x3 =>
 callO [0] [.box [sl (cK .u8) x3.2.b, vI x3.2.e], .box [vS ([] : Str), vS ([] : Str), .v (.slice none 0 0), vI (0 : Int)], .box [vS x1.1, vS x2.1, .v (.slice none 0 0), vI x3.1]] (fun x4 => (sl cGAlert) x4.1) (fun x4 => [.box [sl (cK .u8) x4.2.b, vI x4.2.e], .box [vS ([] : Str), vS ([] : Str), .v (.slice none 0 0), vI (0 : Int)], .box [vS x1.1, vS x2.1, .v (.slice none 0 0), vI x3.1]]) (snap_many_Alert_o (16 : Int) x3.2) fun x4 =>
 retM ((⟨(⟨x1.1, x2.1⟩ : GKey), (⟨x4.1, x3.1⟩ : GTable)⟩ : GSaved), x4.2)

def snap_many_Saved_o (a0 : Int) (a1 : Gsnap_reader) : Option ((List GSaved) × Gsnap_reader) :=
 callO [0] [.box [sl (cK .u8) a1.b, vI a1.e]] (fun x1 => vI x1.1) (fun x1 => [.box [sl (cK .u8) x1.2.b, vI x1.2.e]]) (snap_read_int_o a1) fun x1 =>
 letE vB (decide (a0 < x1.1)) fun x2 =>
 iteM x2 (
 callO [0] [.box [sl (cK .u8) x1.2.b, vI x1.2.e]] (fun x3 => .tup []) (fun x3 => [.box [sl (cK .u8) x3.b, vI x3.e]]) (snap_reader_fail_o (4 : Int) x1.2) fun x3 =>
 tokM 8 4 40 <|
 loopM (fun (x4 : (List Int) × Int × (List GSaved) × Int) => [(0, .ptr 0 0), (2, .fn 23 [.ptr 0 0] []), (7, vI x1.1), (8, so 1 cGSaved x4.2.2.1), (9, vI x4.2.2.2)]) (fun (x4 : (List Int) × Int × (List GSaved) × Int) => [.box [sl (cK .u8) x4.1, vI x4.2.1], tk x4.2.2.1.length 4 40]) (fun (x4 : (List Int) × Int × (List GSaved) × Int) =>
 letE vB (decide (x4.2.2.2 < x1.1)) fun x5 =>
 iteM x5 (
 letE vB (decide (x4.2.1 = (0 : Int))) fun x6 =>
 iteM x6 (
 callO [0] [.box [sl (cK .u8) x4.1, vI x4.2.1], tk x4.2.2.1.length 4 40] (fun x7 => (ag cGSaved) x7.1) (fun x7 => [.box [sl (cK .u8) x7.2.b, vI x7.2.e], tk x4.2.2.1.length 4 40]) (snap_reader_saved_o (⟨x4.1, x4.2.1⟩ : Gsnap_reader)) fun x7 =>
 letE (sx cGSaved) ([x7.1] : (List GSaved)) fun x8 =>
 gdM ((x4.2.2.1.length + x8.length) * 64 ≤ 140737488355328) <|
 letO (so 1 cGSaved) (fun x9 => [.box [sl (cK .u8) x7.2.b, vI x7.2.e], tk x9.length 4 40]) (x4.2.2.1 ++ x8) fun x9 =>
 letE vI (wI (x4.2.2.2 + (1 : Int))) fun x10 =>
 nextM (x7.2.b, x7.2.e, x9, x10)) (
 exitM <|
 retM (x4.2.2.1, (⟨x4.1, x4.2.1⟩ : Gsnap_reader)))) (
 exitM <|
 retM (x4.2.2.1, (⟨x4.1, x4.2.1⟩ : Gsnap_reader)))) (x3.b, x3.e, ([] : List GSaved), (0 : Int))) (
 tokM 8 4 40 <|
 loopM (fun (x11 : (List Int) × Int × (List GSaved) × Int) => [(0, .ptr 0 0), (2, .fn 23 [.ptr 0 0] []), (7, vI x1.1), (8, so 1 cGSaved x11.2.2.1), (9, vI x11.2.2.2)]) (fun (x11 : (List Int) × Int × (List GSaved) × Int) => [.box [sl (cK .u8) x11.1, vI x11.2.1], tk x11.2.2.1.length 4 40]) (fun (x11 : (List Int) × Int × (List GSaved) × Int) =>
 letE vB (decide (x11.2.2.2 < x1.1)) fun x12 =>
 iteM x12 (
 letE vB (decide (x11.2.1 = (0 : Int))) fun x13 =>
 iteM x13 (
 callO [0] [.box [sl (cK .u8) x11.1, vI x11.2.1], tk x11.2.2.1.length 4 40] (fun x14 => (ag cGSaved) x14.1) (fun x14 => [.box [sl (cK .u8) x14.2.b, vI x14.2.e], tk x11.2.2.1.length 4 40]) (snap_reader_saved_o (⟨x11.1, x11.2.1⟩ : Gsnap_reader)) fun x14 =>
 letE (sx cGSaved) ([x14.1] : (List GSaved)) fun x15 =>
 gdM ((x11.2.2.1.length + x15.length) * 64 ≤ 140737488355328) <|
 letO (so 1 cGSaved) (fun x16 => [.box [sl (cK .u8) x14.2.b, vI x14.2.e], tk x16.length 4 40]) (x11.2.2.1 ++ x15) fun x16 =>
 letE vI (wI (x11.2.2.2 + (1 : Int))) fun x17 =>
 nextM (x14.2.b, x14.2.e, x16, x17)) (
 exitM <|
 retM (x11.2.2.1, (⟨x11.1, x11.2.1⟩ : Gsnap_reader)))) (
 exitM <|
 retM (x11.2.2.1, (⟨x11.1, x11.2.1⟩ : Gsnap_reader)))) (x1.2.b, x1.2.e, ([] : List GSaved), (0 : Int)))

def snap_Get (a0 : (List Int)) : Option ((List GSaved) × Int) :=
 callO [0] [.box [sl (cK .u8) a0, vI (0 : Int)]] (fun x1 => (sl cGSaved) x1.1) (fun x1 => [.box [sl (cK .u8) x1.2.b, vI x1.2.e]]) (snap_many_Saved_o (256 : Int) (⟨a0, (0 : Int)⟩ : Gsnap_reader)) fun x1 =>
 letE vB (!decide (x1.2.e = (0 : Int))) fun x2 =>
 iteM x2 (
 retM (([] : (List GSaved)), x1.2.e)) (
 letE vI ((x1.2.b.length : Int)) fun x3 =>
 letE vB (decide ((0 : Int) < x3)) fun x4 =>
 iteM x4 (
 retM (([] : (List GSaved)), (1 : Int))) (
 callM vB (fun x5 => [.box [sl (cK .u8) x1.2.b, vI x1.2.e]]) (snap_Sane x1.1) fun x5 =>
 letE vB (!x5) fun x6 =>
 iteM x6 (
 retM (([] : (List GSaved)), (1 : Int))) (
 retM (x1.1, (0 : Int)))))

def ref03_Same (a0 : (List GPair)) (a1 : (List GPair)) : Option (Bool) :=
 letE vI ((a0.length : Int)) fun x1 =>
 letE vI ((a1.length : Int)) fun x2 =>
 letE vB (!decide (x1 = x2)) fun x3 =>
 iteM x3 (
 retM false) (
 loopM (fun (x4 : Int) => [(0, sl cGPair a0), (1, sl cGPair a1), (5, vI x4)]) (fun (x4 : Int) => []) (fun (x4 : Int) =>
 letE vI ((a0.length : Int)) fun x5 =>
 letE vB (decide (x4 < x5)) fun x6 =>
 iteM x6 (
 idxM a0 x4 fun x7 =>
 idxM a1 x4 fun x8 =>
 letE vB (!(decide (x7.Name = x8.Name) && (decide (x7.Value = x8.Value) && true))) fun x9 =>
 iteM x9 (
 exitM <|
 retM false) (
 letE vI (wI (x4 + (1 : Int))) fun x10 =>
 nextM x10)) (
 exitM <|
 retM true)) (0 : Int))

def ref17_SameAlert (a0 : GAlert) (a1 : GAlert) : Option (Bool) :=
 callM vB (fun x1 => [.box [sl cGPair a0.L, vB a0.H.On, vI a0.H.Since, vB a0.H.Hit, vI a0.H.Fired, vI a0.State, vI a0.V], .box [sl cGPair a1.L, vB a1.H.On, vI a1.H.Since, vB a1.H.Hit, vI a1.H.Fired, vI a1.State, vI a1.V]]) (ref03_Same a0.L a1.L) fun x1 =>
 iteM x1 (
 letE vB (((a0.H.On == a1.H.On) && (decide (a0.H.Since = a1.H.Since) && ((a0.H.Hit == a1.H.Hit) && (decide (a0.H.Fired = a1.H.Fired) && true))))) fun x2 =>
 iteM x2 (
 letE vB (decide (a0.State = a1.State)) fun x3 =>
 iteM x3 (
 letE vB (decide (a0.V = a1.V)) fun x4 =>
 retM x4) (
 retM false)) (
 retM false)) (
 retM false)

def ref17_SameAlerts (a0 : (List GAlert)) (a1 : (List GAlert)) : Option (Bool) :=
 letE vI ((a0.length : Int)) fun x1 =>
 letE vI ((a1.length : Int)) fun x2 =>
 letE vB (!decide (x1 = x2)) fun x3 =>
 iteM x3 (
 retM false) (
 loopM (fun (x4 : Int) => [(0, sl cGAlert a0), (1, sl cGAlert a1), (5, vI x4)]) (fun (x4 : Int) => []) (fun (x4 : Int) =>
 letE vI ((a0.length : Int)) fun x5 =>
 letE vB (decide (x4 < x5)) fun x6 =>
 iteM x6 (
 drawM <|
 idxM a0 x4 fun x7 =>
 idxM a1 x4 fun x8 =>
 callM vB (fun x9 => []) (ref17_SameAlert x7 x8) fun x9 =>
 letE vB (!x9) fun x10 =>
 iteM x10 (
 exitM <|
 retM false) (
 letE vI (wI (x4 + (1 : Int))) fun x11 =>
 nextM x11)) (
 exitM <|
 retM true)) (0 : Int))

def ref17_Same (a0 : GTable) (a1 : GTable) : Option (Bool) :=
 letE vB (decide (a0.Full = a1.Full)) fun x1 =>
 iteM x1 (
 callM vB (fun x2 => [.box [sl cGAlert a0.A, vI a0.Full], .box [sl cGAlert a1.A, vI a1.Full]]) (ref17_SameAlerts a0.A a1.A) fun x2 =>
 retM x2) (
 retM false)

def ref20_Same (a0 : (List GSaved)) (a1 : (List GSaved)) : Option (Bool) :=
 letE vI ((a0.length : Int)) fun x1 =>
 letE vI ((a1.length : Int)) fun x2 =>
 letE vB (!decide (x1 = x2)) fun x3 =>
 iteM x3 (
 retM false) (
 loopM (fun (x4 : Int) => [(0, sl cGSaved a0), (1, sl cGSaved a1), (5, vI x4)]) (fun (x4 : Int) => []) (fun (x4 : Int) =>
 letE vI ((a0.length : Int)) fun x5 =>
 letE vB (decide (x4 < x5)) fun x6 =>
 iteM x6 (
 drawM <|
 idxM a0 x4 fun x7 =>
 idxM a1 x4 fun x8 =>
 letE vB (!(decide (x7.K.Group = x8.K.Group) && (decide (x7.K.Rule = x8.K.Rule) && true))) fun x9 =>
 iteM x9 (
 exitM <|
 retM false) (
 callM vB (fun x10 => []) (ref17_Same x7.X x8.X) fun x10 =>
 letE vB (!x10) fun x11 =>
 iteM x11 (
 exitM <|
 retM false) (
 letE vI (wI (x4 + (1 : Int))) fun x12 =>
 nextM x12))) (
 exitM <|
 retM true)) (0 : Int))

def snap_Find (a0 : (List GSaved)) (a1 : GKey) : Option (GTable) :=
 callM vB (fun x1 => [.box [vS a1.Group, vS a1.Rule], .box [.v (.slice none 0 0), vI (0 : Int)]]) (snap_Sane a0) fun x1 =>
 letE vB (!x1) fun x2 =>
 iteM x2 (
 retM (⟨([] : (List GAlert)), (0 : Int)⟩ : GTable)) (
 letE vI ((a0.length : Int)) fun x3 =>
 loopM (fun (x4 : Int) => [(3, .ptr 0 0), (4, .ptr 1 0), (11, sl cGSaved a0), (12, vI x3), (13, vI x4)]) (fun (x4 : Int) => [.box [vS a1.Group, vS a1.Rule], .box [.v (.slice none 0 0), vI (0 : Int)]]) (fun (x4 : Int) =>
 letE vB (decide (x4 < x3)) fun x5 =>
 iteM x5 (
 idxM a0 x4 fun x6 =>
 letE vB ((decide (x6.K.Group = a1.Group) && (decide (x6.K.Rule = a1.Rule) && true))) fun x7 =>
 iteM x7 (
 exitM <|
 retM x6.X) (
 letE vI (wI (x4 + (1 : Int))) fun x8 =>
 nextM x8)) (
 exitM <|
 retM (⟨([] : (List GAlert)), (0 : Int)⟩ : GTable))) (0 : Int))

def law20_awake : Option (Bool) :=
 letE (sx cGPair) ([(⟨([97] : Str), ([49] : Str)⟩ : GPair)] : (List GPair)) fun x1 =>
 letE (sx cGFound) ([(⟨x1, (⟨(0 : Int), (-3 : Int)⟩ : GSample)⟩ : GFound)] : (List GFound)) fun x2 =>
 callM (ag cGTable) (fun x3 => []) (table_Step (⟨([] : (List GAlert)), (0 : Int)⟩ : GTable) x2 (5 : Int) (9 : Int) (0 : Int)) fun x3 =>
 letE (sx cGSaved) ([(⟨(⟨([103] : Str), ([114] : Str)⟩ : GKey), x3⟩ : GSaved)] : (List GSaved)) fun x4 =>
 callM (sl (cK .u8)) (fun x5 => [.box [sl cGAlert x3.A, vI x3.Full]]) (snap_Put x4) fun x5 =>
 callM (fun x6 => .tup [(sl cGSaved) x6.1, vI x6.2]) (fun x6 => [.box [sl cGAlert x3.A, vI x3.Full]]) (snap_Get x5) fun x6 =>
 letE (sx (cK .u8)) ([(0 : Int), (0 : Int)] : (List Int)) fun x7 =>
 callM (fun x8 => .tup [(sl cGSaved) x8.1, vI x8.2]) (fun x8 => [.box [sl cGAlert x3.A, vI x3.Full]]) (snap_Get x7) fun x8 =>
 callM (sl (cK .u8)) (fun x9 => [.box [sl cGAlert x3.A, vI x3.Full]]) (snap_Put ([] : (List GSaved))) fun x9 =>
 letE vS (strOf x9) fun x10 =>
 letE vB (decide (x10 = ([0] : Str))) fun x11 =>
 letE vB (decide (x6.2 = (0 : Int))) fun x12 =>
 letE vB (bif x11 then x12 else false) fun x13 =>
 iteM x13 (
 callM vB (fun x14 => [.box [sl cGAlert x3.A, vI x3.Full]]) (ref20_Same x4 x6.1) fun x14 =>
 iteM x14 (
 idxM x6.1 (0 : Int) fun x15 =>
 letE vI ((x15.X.A.length : Int)) fun x16 =>
 letE vB (decide (x16 = (1 : Int))) fun x17 =>
 letE vB (decide (x8.2 = (1 : Int))) fun x18 =>
 letE vB (bif x17 then x18 else false) fun x19 =>
 iteM x19 (
 callM vB (fun x20 => [.box [sl cGAlert x3.A, vI x3.Full]]) (snap_Sane x4) fun x20 =>
 iteM x20 (
 callM (ag cGTable) (fun x21 => [.box [sl cGAlert x3.A, vI x3.Full]]) (snap_Find x4 (⟨([103] : Str), ([114] : Str)⟩ : GKey)) fun x21 =>
 letE vI ((x21.A.length : Int)) fun x22 =>
 letE vB (decide (x22 = (1 : Int))) fun x23 =>
 retM x23) (
 retM false)) (
 retM false)) (
 letE vB (decide (x8.2 = (1 : Int))) fun x24 =>
 retM false)) (
 letE vB (decide (x8.2 = (1 : Int))) fun x25 =>
 retM false)

def ref03_Few (a0 : (List GPair)) : Option (Bool) :=
 loopM (fun (x1 : Int × Int) => [(0, sl cGPair a0), (3, vI x1.1), (4, vI x1.2)]) (fun (x1 : Int × Int) => []) (fun (x1 : Int × Int) =>
 letE vI ((a0.length : Int)) fun x2 =>
 letE vB (decide (x1.2 < x2)) fun x3 =>
 iteM x3 (
 idxM a0 x1.2 fun x4 =>
 letE vI ((x4.Name.length : Int)) fun x5 =>
 letE vI (wI (x1.1 + x5)) fun x6 =>
 letE vI ((x4.Value.length : Int)) fun x7 =>
 letE vI (wI (x6 + x7)) fun x8 =>
 letE vI (wI (x1.2 + (1 : Int))) fun x9 =>
 nextM (x8, x9)) (
 exitM <|
 letE vI ((a0.length : Int)) fun x10 =>
 letE vB (decide (x10 ≤ (40 : Int))) fun x11 =>
 letE vB (decide (x1.1 ≤ (3000 : Int))) fun x12 =>
 letE vB (bif x11 then x12 else false) fun x13 =>
 retM x13)) ((0 : Int), (0 : Int))

def ref17_Few (a0 : GTable) : Option (Bool) :=
 loopM (fun (x1 : Int) => [(1, .ptr 0 0), (3, vI x1)]) (fun (x1 : Int) => [.box [sl cGAlert a0.A, vI a0.Full]]) (fun (x1 : Int) =>
 letE vI ((a0.A.length : Int)) fun x2 =>
 letE vB (decide (x1 < x2)) fun x3 =>
 iteM x3 (
 idxM a0.A x1 fun x4 =>
 callM vB (fun x5 => [.box [sl cGAlert a0.A, vI a0.Full]]) (ref03_Few x4.L) fun x5 =>
 letE vB (!x5) fun x6 =>
 iteM x6 (
 exitM <|
 retM false) (
 letE vI (wI (x1 + (1 : Int))) fun x7 =>
 nextM x7)) (
 exitM <|
 letE vI ((a0.A.length : Int)) fun x8 =>
 letE vB (decide (x8 ≤ (40 : Int))) fun x9 =>
 retM x9)) (0 : Int)

def ref20_Few (a0 : (List GSaved)) : Option (Bool) :=
 loopM (fun (x1 : Int) => [(0, sl cGSaved a0), (3, vI x1)]) (fun (x1 : Int) => []) (fun (x1 : Int) =>
 letE vI ((a0.length : Int)) fun x2 =>
 letE vB (decide (x1 < x2)) fun x3 =>
 iteM x3 (
 drawM <|
 idxM a0 x1 fun x4 =>
 callM vB (fun x5 => []) (ref17_Few x4.X) fun x5 =>
 letE vB (!x5) fun x6 =>
 iteM x6 (
 exitM <|
 retM false) (
 letE vI ((x4.K.Group.length : Int)) fun x7 =>
 letE vI ((x4.K.Rule.length : Int)) fun x8 =>
 letE vI (wI (x7 + x8)) fun x9 =>
 letE vB (decide ((400 : Int) < x9)) fun x10 =>
 iteM x10 (
 exitM <|
 retM false) (
 letE vI (wI (x1 + (1 : Int))) fun x11 =>
 nextM x11))) (
 exitM <|
 letE vI ((a0.length : Int)) fun x12 =>
 letE vB (decide (x12 ≤ (40 : Int))) fun x13 =>
 retM x13)) (0 : Int)

def ref05_GetUint (a0 : (List Int)) : Option (Int × (List Int) × Int) :=
 loopM (fun (x1 : Int × Int × Int) => [(0, sl (cK .u8) a0), (5, vI x1.1), (6, vI x1.2.1), (7, vI x1.2.2)]) (fun (x1 : Int × Int × Int) => []) (fun (x1 : Int × Int × Int) =>
 letE vB (decide (x1.2.2 < (9 : Int))) fun x2 =>
 iteM x2 (
 letE vI ((a0.length : Int)) fun x3 =>
 letE vB (decide (x3 ≤ x1.2.2)) fun x4 =>
 iteM x4 (
 exitM <|
 retM ((0 : Int), ([] : (List Int)), (3 : Int))) (
 idxM a0 x1.2.2 fun x5 =>
 letE vI (wI x5) fun x6 =>
 letE vI (Int.tmod x6 (128 : Int)) fun x7 =>
 letE vI (wI (x7 * x1.2.1)) fun x8 =>
 letE vI (wI (x1.1 + x8)) fun x9 =>
 letE vB (decide (x5 < (128 : Int))) fun x10 =>
 iteM x10 (
 letE vB (decide ((1152921504606846976 : Int) < x9)) fun x11 =>
 iteM x11 (
 exitM <|
 retM ((0 : Int), ([] : (List Int)), (2 : Int))) (
 letE vB (decide (x5 = (0 : Int))) fun x12 =>
 letE vB (decide ((0 : Int) < x1.2.2)) fun x13 =>
 letE vB (bif x12 then x13 else false) fun x14 =>
 iteM x14 (
 exitM <|
 retM ((0 : Int), ([] : (List Int)), (1 : Int))) (
 letE vI (wI (x1.2.2 + (1 : Int))) fun x15 =>
 gdM (0 ≤ x15 ∧ x15 ≤ (a0.length : Int) ∧ (a0.length : Int) ≤ (a0.length : Int)) <|
 letE (sl (cK .u8)) ((a0.take (a0.length : Int).toNat).drop x15.toNat) fun x16 =>
 exitM <|
 retM (x9, x16, (0 : Int))))) (
 letE vB (decide (x1.2.2 < (8 : Int))) fun x17 =>
 iteM x17 (
 letE vI (wI (x1.2.1 * (128 : Int))) fun x18 =>
 letE vI (wI (x1.2.2 + (1 : Int))) fun x19 =>
 nextM (x9, x18, x19)) (
 letE vI (wI (x1.2.2 + (1 : Int))) fun x20 =>
 nextM (x9, x1.2.1, x20))))) (
 exitM <|
 retM ((0 : Int), ([] : (List Int)), (2 : Int)))) ((0 : Int), (1 : Int), (0 : Int))

def ref05_GetText (a0 : (List Int)) : Option (Str × (List Int) × Int) :=
 callM (fun x1 => .tup [vI x1.1, (sl (cK .u8)) x1.2.1, vI x1.2.2]) (fun x1 => []) (ref05_GetUint a0) fun x1 =>
 letE vB (!decide (x1.2.2 = (0 : Int))) fun x2 =>
 iteM x2 (
 retM (([] : Str), ([] : (List Int)), x1.2.2)) (
 letE vB (decide ((65536 : Int) < x1.1)) fun x3 =>
 iteM x3 (
 retM (([] : Str), ([] : (List Int)), (4 : Int))) (
 letE vI ((x1.2.1.length : Int)) fun x4 =>
 letE vB (decide (x4 < x1.1)) fun x5 =>
 iteM x5 (
 retM (([] : Str), ([] : (List Int)), (3 : Int))) (
 drawM <|
 gdM (0 ≤ (0 : Int) ∧ (0 : Int) ≤ x1.1 ∧ x1.1 ≤ (x1.2.1.length : Int)) <|
 letE (sl (cK .u8)) ((x1.2.1.take x1.1.toNat).drop (0 : Int).toNat) fun x6 =>
 letE vS (strOf x6) fun x7 =>
 gdM (0 ≤ x1.1 ∧ x1.1 ≤ (x1.2.1.length : Int) ∧ (x1.2.1.length : Int) ≤ (x1.2.1.length : Int)) <|
 letE (sl (cK .u8)) ((x1.2.1.take (x1.2.1.length : Int).toNat).drop x1.1.toNat) fun x8 =>
 retM (x7, x8, (0 : Int)))))

def ref03_Letter (a0 : Int) : Option (Bool) :=
 letE vB (decide ((97 : Int) ≤ a0)) fun x1 =>
 letE vB (decide (a0 ≤ (122 : Int))) fun x2 =>
 letE vB (bif x1 then x2 else false) fun x3 =>
 letE vB (decide ((65 : Int) ≤ a0)) fun x4 =>
 letE vB (decide (a0 ≤ (90 : Int))) fun x5 =>
 letE vB (bif x4 then x5 else false) fun x6 =>
 letE vB (bif x3 then true else x6) fun x7 =>
 letE vB (decide (a0 = (95 : Int))) fun x8 =>
 letE vB (bif x7 then true else x8) fun x9 =>
 retM x9

def ref03_Name (a0 : Str) : Option (Bool) :=
 loopM (fun (x1 : Int) => [(0, vS a0), (3, vI x1)]) (fun (x1 : Int) => []) (fun (x1 : Int) =>
 letE vI ((a0.length : Int)) fun x2 =>
 letE vB (decide (x1 < x2)) fun x3 =>
 iteM x3 (
 idxM a0 x1 fun x4 =>
 callM vB (fun x5 => []) (ref03_Letter (x4.toNat : Int)) fun x5 =>
 letE vB (!x5) fun x6 =>
 letE vB (decide (x1 = (0 : Int))) fun x7 =>
 iteM x6 (
 iteM x7 (
 letE vB (bif true then true else false) fun x8 =>
 iteM x8 (
 letE vB (bif true then true else false) fun x9 =>
 iteM x9 (
 exitM <|
 retM false) (
 letE vI (wI (x1 + (1 : Int))) fun x10 =>
 nextM x10)) (
 letE vB (decide ((57 : Int) < (x4.toNat : Int))) fun x11 =>
 letE vB (bif false then true else x11) fun x12 =>
 iteM x12 (
 exitM <|
 retM false) (
 letE vI (wI (x1 + (1 : Int))) fun x13 =>
 nextM x13))) (
 letE vB (decide ((x4.toNat : Int) < (48 : Int))) fun x14 =>
 letE vB (bif false then true else x14) fun x15 =>
 iteM x15 (
 letE vB (bif true then true else false) fun x16 =>
 iteM x16 (
 exitM <|
 retM false) (
 letE vI (wI (x1 + (1 : Int))) fun x17 =>
 nextM x17)) (
 letE vB (decide ((57 : Int) < (x4.toNat : Int))) fun x18 =>
 letE vB (bif false then true else x18) fun x19 =>
 iteM x19 (
 exitM <|
 retM false) (
 letE vI (wI (x1 + (1 : Int))) fun x20 =>
 nextM x20)))) (
 letE vB (bif x7 then true else false) fun x21 =>
 letE vB (bif x21 then true else false) fun x22 =>
 letE vI (wI (x1 + (1 : Int))) fun x23 =>
 nextM x23)) (
 exitM <|
 letE vI ((a0.length : Int)) fun x24 =>
 letE vB (decide ((1 : Int) ≤ x24)) fun x25 =>
 letE vI ((a0.length : Int)) fun x26 =>
 letE vB (decide (x26 ≤ (64 : Int))) fun x27 =>
 letE vB (bif x25 then x27 else false) fun x28 =>
 retM x28)) (0 : Int)

def ref03_Sane (a0 : (List GPair)) : Option (Bool) :=
 loopM (fun (x1 : Int) => [(0, sl cGPair a0), (3, vI x1)]) (fun (x1 : Int) => []) (fun (x1 : Int) =>
 letE vI ((a0.length : Int)) fun x2 =>
 letE vB (decide (x1 < x2)) fun x3 =>
 iteM x3 (
 drawM <|
 idxM a0 x1 fun x4 =>
 callM vB (fun x5 => []) (ref03_Name x4.Name) fun x5 =>
 letE vB (!x5) fun x6 =>
 iteM x6 (
 letE vB (decide ((0 : Int) < x1)) fun x7 =>
 letE vI (wI (x1 - (1 : Int))) fun x8 =>
 letE vB (bif x7 then false else false) fun x9 =>
 exitM <|
 retM false) (
 letE vI ((x4.Value.length : Int)) fun x10 =>
 letE vB (decide ((64 : Int) < x10)) fun x11 =>
 letE vB (decide ((0 : Int) < x1)) fun x12 =>
 letE vI (wI (x1 - (1 : Int))) fun x13 =>
 iteM x11 (
 letE vB (bif x12 then false else false) fun x14 =>
 exitM <|
 retM false) (
 iteM x12 (
 idxM a0 x13 fun x15 =>
 letE vB (!ltS x15.Name x4.Name) fun x16 =>
 letE vB (bif true then x16 else false) fun x17 =>
 iteM x17 (
 exitM <|
 retM false) (
 letE vI (wI (x1 + (1 : Int))) fun x18 =>
 nextM x18)) (
 letE vB (bif false then false else false) fun x19 =>
 iteM x19 (
 exitM <|
 retM false) (
 letE vI (wI (x1 + (1 : Int))) fun x20 =>
 nextM x20))))) (
 exitM <|
 letE vI ((a0.length : Int)) fun x21 =>
 letE vB (decide (x21 ≤ (16 : Int))) fun x22 =>
 retM x22)) (0 : Int)

def ref05_GetLabels (a0 : (List Int)) : Option ((List GPair) × (List Int) × Int) :=
 callM (fun x1 => .tup [vI x1.1, (sl (cK .u8)) x1.2.1, vI x1.2.2]) (fun x1 => []) (ref05_GetUint a0) fun x1 =>
 letE vB (!decide (x1.2.2 = (0 : Int))) fun x2 =>
 iteM x2 (
 retM (([] : (List GPair)), ([] : (List Int)), x1.2.2)) (
 letE vB (decide ((16 : Int) < x1.1)) fun x3 =>
 iteM x3 (
 retM (([] : (List GPair)), ([] : (List Int)), (4 : Int))) (
 tokM 8 2 50 <|
 loopM (fun (x4 : (List Int) × (List GPair) × Int) => [(5, vI x1.1), (6, sl (cK .u8) x4.1), (8, so 0 cGPair x4.2.1), (9, vI x4.2.2)]) (fun (x4 : (List Int) × (List GPair) × Int) => [tk x4.2.1.length 2 50]) (fun (x4 : (List Int) × (List GPair) × Int) =>
 letE vB (decide (x4.2.2 < x1.1)) fun x5 =>
 iteM x5 (
 callM (fun x6 => .tup [vS x6.1, (sl (cK .u8)) x6.2.1, vI x6.2.2]) (fun x6 => [tk x4.2.1.length 2 50]) (ref05_GetText x4.1) fun x6 =>
 letE vB (!decide (x6.2.2 = (0 : Int))) fun x7 =>
 iteM x7 (
 exitM <|
 retM (([] : (List GPair)), ([] : (List Int)), x6.2.2)) (
 callM (fun x8 => .tup [vS x8.1, (sl (cK .u8)) x8.2.1, vI x8.2.2]) (fun x8 => [tk x4.2.1.length 2 50]) (ref05_GetText x6.2.1) fun x8 =>
 letE vB (!decide (x8.2.2 = (0 : Int))) fun x9 =>
 iteM x9 (
 exitM <|
 retM (([] : (List GPair)), ([] : (List Int)), x8.2.2)) (
 letE (sx cGPair) ([(⟨x6.1, x8.1⟩ : GPair)] : (List GPair)) fun x10 =>
 gdM ((x4.2.1.length + x10.length) * 32 ≤ 140737488355328) <|
 letO (so 0 cGPair) (fun x11 => [tk x11.length 2 50]) (x4.2.1 ++ x10) fun x11 =>
 letE vI (wI (x4.2.2 + (1 : Int))) fun x12 =>
 nextM (x8.2.1, x11, x12)))) (
 exitM <|
 callM vB (fun x13 => [.tok x4.2.1.length 2 50 false]) (ref03_Sane x4.2.1) fun x13 =>
 letE vB (!x13) fun x14 =>
 iteM x14 (
 retM (([] : (List GPair)), ([] : (List Int)), (1 : Int))) (
 retM (x4.2.1, x4.1, (0 : Int))))) (x1.2.1, ([] : List GPair), (0 : Int))))

def ref05_GetInt (a0 : (List Int)) : Option (Int × (List Int) × Int) :=
 callM (fun x1 => .tup [vI x1.1, (sl (cK .u8)) x1.2.1, vI x1.2.2]) (fun x1 => []) (ref05_GetUint a0) fun x1 =>
 letE vB (!decide (x1.2.2 = (0 : Int))) fun x2 =>
 iteM x2 (
 retM ((0 : Int), ([] : (List Int)), x1.2.2)) (
 letE vI (Int.tmod x1.1 (2 : Int)) fun x3 =>
 letE vB (decide (x3 = (1 : Int))) fun x4 =>
 iteM x4 (
 letE vI (wI (x1.1 + (1 : Int))) fun x5 =>
 letE vI (wI (0 - x5)) fun x6 =>
 letE vI (wI (Int.tdiv x6 (2 : Int))) fun x7 =>
 retM (x7, x1.2.1, (0 : Int))) (
 letE vI (wI (Int.tdiv x1.1 (2 : Int))) fun x8 =>
 retM (x8, x1.2.1, (0 : Int))))

def ref20_getAlert (a0 : (List Int)) : Option (GAlert × (List Int) × Int) :=
 callM (fun x1 => .tup [(sl cGPair) x1.1, (sl (cK .u8)) x1.2.1, vI x1.2.2]) (fun x1 => [.box [.v (.slice none 0 0), vB false, vI (0 : Int), vB false, vI (0 : Int), vI (0 : Int), vI (0 : Int)], .box [.v (.slice none 0 0), vB false, vI (0 : Int), vB false, vI (0 : Int), vI (0 : Int), vI (0 : Int)]]) (ref05_GetLabels a0) fun x1 =>
 letE vB (!decide (x1.2.2 = (0 : Int))) fun x2 =>
 iteM x2 (
 retM ((⟨([] : (List GPair)), (⟨false, (0 : Int), false, (0 : Int)⟩ : GHold), (0 : Int), (0 : Int)⟩ : GAlert), ([] : (List Int)), x1.2.2)) (
 callM (fun x3 => .tup [vI x3.1, (sl (cK .u8)) x3.2.1, vI x3.2.2]) (fun x3 => [.box [.v (.slice none 0 0), vB false, vI (0 : Int), vB false, vI (0 : Int), vI (0 : Int), vI (0 : Int)], .box [.v (.slice none 0 0), vB false, vI (0 : Int), vB false, vI (0 : Int), vI (0 : Int), vI (0 : Int)]]) (ref05_GetUint x1.2.1) fun x3 =>
 letE vB (!decide (x3.2.2 = (0 : Int))) fun x4 =>
 iteM x4 (
 retM ((⟨([] : (List GPair)), (⟨false, (0 : Int), false, (0 : Int)⟩ : GHold), (0 : Int), (0 : Int)⟩ : GAlert), ([] : (List Int)), x3.2.2)) (
 letE vB (decide ((15 : Int) < x3.1)) fun x5 =>
 iteM x5 (
 retM ((⟨([] : (List GPair)), (⟨false, (0 : Int), false, (0 : Int)⟩ : GHold), (0 : Int), (0 : Int)⟩ : GAlert), ([] : (List Int)), (1 : Int))) (
 callM (fun x6 => .tup [vI x6.1, (sl (cK .u8)) x6.2.1, vI x6.2.2]) (fun x6 => [.box [.v (.slice none 0 0), vB false, vI (0 : Int), vB false, vI (0 : Int), vI (0 : Int), vI (0 : Int)], .box [.v (.slice none 0 0), vB false, vI (0 : Int), vB false, vI (0 : Int), vI (0 : Int), vI (0 : Int)]]) (ref05_GetUint x3.2.1) fun x6 =>
 letE vB (!decide (x6.2.2 = (0 : Int))) fun x7 =>
 iteM x7 (
 retM ((⟨([] : (List GPair)), (⟨false, (0 : Int), false, (0 : Int)⟩ : GHold), (0 : Int), (0 : Int)⟩ : GAlert), ([] : (List Int)), x6.2.2)) (
 callM (fun x8 => .tup [vI x8.1, (sl (cK .u8)) x8.2.1, vI x8.2.2]) (fun x8 => [.box [.v (.slice none 0 0), vB false, vI (0 : Int), vB false, vI (0 : Int), vI (0 : Int), vI (0 : Int)], .box [.v (.slice none 0 0), vB false, vI (0 : Int), vB false, vI (0 : Int), vI (0 : Int), vI (0 : Int)]]) (ref05_GetUint x6.2.1) fun x8 =>
 letE vB (!decide (x8.2.2 = (0 : Int))) fun x9 =>
 iteM x9 (
 retM ((⟨([] : (List GPair)), (⟨false, (0 : Int), false, (0 : Int)⟩ : GHold), (0 : Int), (0 : Int)⟩ : GAlert), ([] : (List Int)), x8.2.2)) (
 callM (fun x10 => .tup [vI x10.1, (sl (cK .u8)) x10.2.1, vI x10.2.2]) (fun x10 => [.box [.v (.slice none 0 0), vB false, vI (0 : Int), vB false, vI (0 : Int), vI (0 : Int), vI (0 : Int)], .box [.v (.slice none 0 0), vB false, vI (0 : Int), vB false, vI (0 : Int), vI (0 : Int), vI (0 : Int)]]) (ref05_GetInt x8.2.1) fun x10 =>
 letE vB (!decide (x10.2.2 = (0 : Int))) fun x11 =>
 iteM x11 (
 retM ((⟨([] : (List GPair)), (⟨false, (0 : Int), false, (0 : Int)⟩ : GHold), (0 : Int), (0 : Int)⟩ : GAlert), ([] : (List Int)), x10.2.2)) (
 letE vI (bAnd .i64 x3.1 (4 : Int)) fun x12 =>
 letE vB (!decide (x12 = (0 : Int))) fun x13 =>
 letE vI (bAnd .i64 x3.1 (8 : Int)) fun x14 =>
 letE vB (!decide (x14 = (0 : Int))) fun x15 =>
 letE vI (bAnd .i64 x3.1 (3 : Int)) fun x16 =>
 retM ((⟨x1.1, (⟨x13, x6.1, x15, x8.1⟩ : GHold), x16, x10.1⟩ : GAlert), x10.2.1, (0 : Int))))))))

def ref20_getTable (a0 : (List Int)) : Option (GSaved × (List Int) × Int) :=
 callM (fun x1 => .tup [vS x1.1, (sl (cK .u8)) x1.2.1, vI x1.2.2]) (fun x1 => [.box [vS ([] : Str), vS ([] : Str), .v (.slice none 0 0), vI (0 : Int)], .box [vS ([] : Str), vS ([] : Str), .v (.slice none 0 0), vI (0 : Int)]]) (ref05_GetText a0) fun x1 =>
 letE vB (!decide (x1.2.2 = (0 : Int))) fun x2 =>
 iteM x2 (
 retM ((⟨(⟨([] : Str), ([] : Str)⟩ : GKey), (⟨([] : (List GAlert)), (0 : Int)⟩ : GTable)⟩ : GSaved), ([] : (List Int)), x1.2.2)) (
 callM (fun x3 => .tup [vS x3.1, (sl (cK .u8)) x3.2.1, vI x3.2.2]) (fun x3 => [.box [vS ([] : Str), vS ([] : Str), .v (.slice none 0 0), vI (0 : Int)], .box [vS ([] : Str), vS ([] : Str), .v (.slice none 0 0), vI (0 : Int)]]) (ref05_GetText x1.2.1) fun x3 =>
 letE vB (!decide (x3.2.2 = (0 : Int))) fun x4 =>
 iteM x4 (
 retM ((⟨(⟨([] : Str), ([] : Str)⟩ : GKey), (⟨([] : (List GAlert)), (0 : Int)⟩ : GTable)⟩ : GSaved), ([] : (List Int)), x3.2.2)) (
 callM (fun x5 => .tup [vI x5.1, (sl (cK .u8)) x5.2.1, vI x5.2.2]) (fun x5 => [.box [vS ([] : Str), vS ([] : Str), .v (.slice none 0 0), vI (0 : Int)], .box [vS ([] : Str), vS ([] : Str), .v (.slice none 0 0), vI (0 : Int)]]) (ref05_GetUint x3.2.1) fun x5 =>
 letE vB (!decide (x5.2.2 = (0 : Int))) fun x6 =>
 iteM x6 (
 retM ((⟨(⟨([] : Str), ([] : Str)⟩ : GKey), (⟨([] : (List GAlert)), (0 : Int)⟩ : GTable)⟩ : GSaved), ([] : (List Int)), x5.2.2)) (
 callM (fun x7 => .tup [vI x7.1, (sl (cK .u8)) x7.2.1, vI x7.2.2]) (fun x7 => [.box [vS ([] : Str), vS ([] : Str), .v (.slice none 0 0), vI (0 : Int)], .box [vS ([] : Str), vS ([] : Str), .v (.slice none 0 0), vI (0 : Int)]]) (ref05_GetUint x5.2.1) fun x7 =>
 letE vB (decide (x7.2.2 = (0 : Int))) fun x8 =>
 letE vB (decide ((16 : Int) < x7.1)) fun x9 =>
 letE vB (bif x8 then x9 else false) fun x10 =>
 iteM x10 (
 letE vB (!decide ((4 : Int) = (0 : Int))) fun x11 =>
 iteM x11 (
 retM ((⟨(⟨([] : Str), ([] : Str)⟩ : GKey), (⟨([] : (List GAlert)), (0 : Int)⟩ : GTable)⟩ : GSaved), ([] : (List Int)), (4 : Int))) (
 tokB 2 2 7 45 <|
 loopM (fun (x12 : (List GAlert) × (List Int) × Int) => [(2, .ptr 0 0), (5, .ptr 1 0), (15, vI x7.1), (16, sl (cK .u8) x12.2.1), (18, .ptr 2 0), (19, vI x12.2.2)]) (fun (x12 : (List GAlert) × (List Int) × Int) => [.box [vS ([] : Str), vS ([] : Str), .v (.slice none 0 0), vI (0 : Int)], .box [vS ([] : Str), vS ([] : Str), .v (.slice none 0 0), vI (0 : Int)], .box [vS x1.1, vS x3.1, so 3 cGAlert x12.1, vI x5.1], tk x12.1.length 7 45]) (fun (x12 : (List GAlert) × (List Int) × Int) =>
 letE vB (decide (x12.2.2 < x7.1)) fun x13 =>
 iteM x13 (
 callM (fun x14 => .tup [(ag cGAlert) x14.1, (sl (cK .u8)) x14.2.1, vI x14.2.2]) (fun x14 => [.box [vS ([] : Str), vS ([] : Str), .v (.slice none 0 0), vI (0 : Int)], .box [vS ([] : Str), vS ([] : Str), .v (.slice none 0 0), vI (0 : Int)], .box [vS x1.1, vS x3.1, so 3 cGAlert x12.1, vI x5.1], tk x12.1.length 7 45]) (ref20_getAlert x12.2.1) fun x14 =>
 letE vB (!decide (x14.2.2 = (0 : Int))) fun x15 =>
 iteM x15 (
 exitM <|
 retM ((⟨(⟨([] : Str), ([] : Str)⟩ : GKey), (⟨([] : (List GAlert)), (0 : Int)⟩ : GTable)⟩ : GSaved), ([] : (List Int)), x14.2.2)) (
 letE (sx cGAlert) ([x14.1] : (List GAlert)) fun x16 =>
 gdM ((x12.1.length + x16.length) * 72 ≤ 140737488355328) <|
 letO (so 3 cGAlert) (fun x17 => [.box [vS ([] : Str), vS ([] : Str), .v (.slice none 0 0), vI (0 : Int)], .box [vS ([] : Str), vS ([] : Str), .v (.slice none 0 0), vI (0 : Int)], .box [vS x1.1, vS x3.1, so 3 cGAlert x12.1, vI x5.1], tk x17.length 7 45, .box [sl cGPair x14.1.L, vB x14.1.H.On, vI x14.1.H.Since, vB x14.1.H.Hit, vI x14.1.H.Fired, vI x14.1.State, vI x14.1.V]]) (x12.1 ++ x16) fun x17 =>
 letE vI (wI (x12.2.2 + (1 : Int))) fun x18 =>
 nextM (x17, x14.2.1, x18))) (
 exitM <|
 retM ((⟨(⟨x1.1, x3.1⟩ : GKey), (⟨x12.1, x5.1⟩ : GTable)⟩ : GSaved), x12.2.1, (0 : Int)))) (([] : List GAlert), x7.2.1, (0 : Int)))) (
 letE vB (!decide (x7.2.2 = (0 : Int))) fun x19 =>
 iteM x19 (
 retM ((⟨(⟨([] : Str), ([] : Str)⟩ : GKey), (⟨([] : (List GAlert)), (0 : Int)⟩ : GTable)⟩ : GSaved), ([] : (List Int)), x7.2.2)) (
 tokB 2 2 7 45 <|
 loopM (fun (x20 : (List GAlert) × (List Int) × Int) => [(2, .ptr 0 0), (5, .ptr 1 0), (15, vI x7.1), (16, sl (cK .u8) x20.2.1), (18, .ptr 2 0), (19, vI x20.2.2)]) (fun (x20 : (List GAlert) × (List Int) × Int) => [.box [vS ([] : Str), vS ([] : Str), .v (.slice none 0 0), vI (0 : Int)], .box [vS ([] : Str), vS ([] : Str), .v (.slice none 0 0), vI (0 : Int)], .box [vS x1.1, vS x3.1, so 3 cGAlert x20.1, vI x5.1], tk x20.1.length 7 45]) (fun (x20 : (List GAlert) × (List Int) × Int) =>
 letE vB (decide (x20.2.2 < x7.1)) fun x21 =>
 iteM x21 (
 callM (fun x22 => .tup [(ag cGAlert) x22.1, (sl (cK .u8)) x22.2.1, vI x22.2.2]) (fun x22 => [.box [vS ([] : Str), vS ([] : Str), .v (.slice none 0 0), vI (0 : Int)], .box [vS ([] : Str), vS ([] : Str), .v (.slice none 0 0), vI (0 : Int)], .box [vS x1.1, vS x3.1, so 3 cGAlert x20.1, vI x5.1], tk x20.1.length 7 45]) (ref20_getAlert x20.2.1) fun x22 =>
 letE vB (!decide (x22.2.2 = (0 : Int))) fun x23 =>
 iteM x23 (
 exitM <|
 retM ((⟨(⟨([] : Str), ([] : Str)⟩ : GKey), (⟨([] : (List GAlert)), (0 : Int)⟩ : GTable)⟩ : GSaved), ([] : (List Int)), x22.2.2)) (
 letE (sx cGAlert) ([x22.1] : (List GAlert)) fun x24 =>
 gdM ((x20.1.length + x24.length) * 72 ≤ 140737488355328) <|
 letO (so 3 cGAlert) (fun x25 => [.box [vS ([] : Str), vS ([] : Str), .v (.slice none 0 0), vI (0 : Int)], .box [vS ([] : Str), vS ([] : Str), .v (.slice none 0 0), vI (0 : Int)], .box [vS x1.1, vS x3.1, so 3 cGAlert x20.1, vI x5.1], tk x25.length 7 45, .box [sl cGPair x22.1.L, vB x22.1.H.On, vI x22.1.H.Since, vB x22.1.H.Hit, vI x22.1.H.Fired, vI x22.1.State, vI x22.1.V]]) (x20.1 ++ x24) fun x25 =>
 letE vI (wI (x20.2.2 + (1 : Int))) fun x26 =>
 nextM (x25, x22.2.1, x26))) (
 exitM <|
 retM ((⟨(⟨x1.1, x3.1⟩ : GKey), (⟨x20.1, x5.1⟩ : GTable)⟩ : GSaved), x20.2.1, (0 : Int)))) (([] : List GAlert), x7.2.1, (0 : Int)))))))

def ref13_Time (a0 : Int) : Option (Bool) :=
 letE vB (decide ((0 : Int) ≤ a0)) fun x1 =>
 letE vB (decide (a0 ≤ (9007199254740992 : Int))) fun x2 =>
 letE vB (bif x1 then x2 else false) fun x3 =>
 retM x3

def ref15_Sane (a0 : GHold) : Option (Bool) :=
 callM vB (fun x1 => [.box [vB a0.On, vI a0.Since, vB a0.Hit, vI a0.Fired]]) (ref13_Time a0.Since) fun x1 =>
 iteM x1 (
 callM vB (fun x2 => [.box [vB a0.On, vI a0.Since, vB a0.Hit, vI a0.Fired]]) (ref13_Time a0.Fired) fun x2 =>
 iteM x2 (
 iteM a0.On (
 letE vB (bif true then true else false) fun x3 =>
 iteM x3 (
 iteM a0.Hit (
 letE vB (bif true then true else false) fun x4 =>
 retM x4) (
 letE vB (decide (a0.Fired = (0 : Int))) fun x5 =>
 letE vB (bif false then true else x5) fun x6 =>
 retM x6)) (
 retM false)) (
 letE vB (decide (a0.Since = (0 : Int))) fun x7 =>
 letE vB (bif false then true else x7) fun x8 =>
 iteM x8 (
 iteM a0.Hit (
 letE vB (bif true then true else false) fun x9 =>
 retM x9) (
 letE vB (decide (a0.Fired = (0 : Int))) fun x10 =>
 letE vB (bif false then true else x10) fun x11 =>
 retM x11)) (
 retM false))) (
 retM false)) (
 retM false)

def ref03_As (a0 : (List GPair)) : Option ((List GPair)) :=
 callM vB (fun x1 => []) (ref03_Sane a0) fun x1 =>
 letE vB (!x1) fun x2 =>
 iteM x2 (
 retM ([] : (List GPair))) (
 retM a0)

def ref03_order (a0 : Str) (a1 : Str) : Option (Int) :=
 letE vB (ltS a0 a1) fun x1 =>
 iteM x1 (
 retM (-1 : Int)) (
 letE vB (ltS a1 a0) fun x2 =>
 iteM x2 (
 retM (1 : Int)) (
 retM (0 : Int)))

def ref03_Compare (a0 : (List GPair)) (a1 : (List GPair)) : Option (Int) :=
 callM (sl cGPair) (fun x1 => []) (ref03_As a0) fun x1 =>
 callM (sl cGPair) (fun x2 => []) (ref03_As a1) fun x2 =>
 loopM (fun (x3 : Int) => [(5, sl cGPair x1), (6, sl cGPair x2), (7, vI x3)]) (fun (x3 : Int) => []) (fun (x3 : Int) =>
 letE vI ((x1.length : Int)) fun x4 =>
 letE vB (decide (x3 < x4)) fun x5 =>
 letE vI ((x2.length : Int)) fun x6 =>
 letE vB (decide (x3 < x6)) fun x7 =>
 letE vB (bif x5 then x7 else false) fun x8 =>
 iteM x8 (
 drawM <|
 idxM x1 x3 fun x9 =>
 idxM x2 x3 fun x10 =>
 callM vI (fun x11 => []) (ref03_order x9.Name x10.Name) fun x11 =>
 letE vB (decide (x11 = (0 : Int))) fun x12 =>
 iteM x12 (
 drawM <|
 callM vI (fun x13 => []) (ref03_order x9.Value x10.Value) fun x13 =>
 letE vB (!decide (x13 = (0 : Int))) fun x14 =>
 iteM x14 (
 exitM <|
 retM x13) (
 letE vI (wI (x3 + (1 : Int))) fun x15 =>
 nextM x15)) (
 letE vB (!decide (x11 = (0 : Int))) fun x16 =>
 iteM x16 (
 exitM <|
 retM x11) (
 letE vI (wI (x3 + (1 : Int))) fun x17 =>
 nextM x17))) (
 exitM <|
 letE vI ((x1.length : Int)) fun x18 =>
 letE vI ((x2.length : Int)) fun x19 =>
 letE vB (decide (x18 < x19)) fun x20 =>
 iteM x20 (
 retM (-1 : Int)) (
 letE vI ((x1.length : Int)) fun x21 =>
 letE vI ((x2.length : Int)) fun x22 =>
 letE vB (decide (x22 < x21)) fun x23 =>
 iteM x23 (
 retM (1 : Int)) (
 retM (0 : Int))))) (0 : Int)

def ref17_Sane (a0 : GTable) : Option (Bool) :=
 loopM (fun (x1 : Int) => [(1, .ptr 0 0), (3, vI x1)]) (fun (x1 : Int) => [.box [sl cGAlert a0.A, vI a0.Full]]) (fun (x1 : Int) =>
 letE vI ((a0.A.length : Int)) fun x2 =>
 letE vB (decide (x1 < x2)) fun x3 =>
 iteM x3 (
 idxM a0.A x1 fun x4 =>
 drawM <|
 callM vB (fun x5 => [.box [sl cGAlert a0.A, vI a0.Full], .box [sl cGPair x4.L, vB x4.H.On, vI x4.H.Since, vB x4.H.Hit, vI x4.H.Fired, vI x4.State, vI x4.V]]) (ref03_Sane x4.L) fun x5 =>
 letE vB (!x5) fun x6 =>
 iteM x6 (
 letE vB (decide ((0 : Int) < x1)) fun x7 =>
 letE vI (wI (x1 - (1 : Int))) fun x8 =>
 letE vB (bif x7 then false else false) fun x9 =>
 exitM <|
 retM false) (
 callM vB (fun x10 => [.box [sl cGAlert a0.A, vI a0.Full], .box [sl cGPair x4.L, vB x4.H.On, vI x4.H.Since, vB x4.H.Hit, vI x4.H.Fired, vI x4.State, vI x4.V]]) (ref15_Sane x4.H) fun x10 =>
 letE vB (!x10) fun x11 =>
 iteM x11 (
 letE vB (decide ((0 : Int) < x1)) fun x12 =>
 letE vI (wI (x1 - (1 : Int))) fun x13 =>
 letE vB (bif x12 then false else false) fun x14 =>
 exitM <|
 retM false) (
 letE vB (decide (x4.State < (0 : Int))) fun x15 =>
 iteM x15 (
 letE vB (decide ((0 : Int) < x1)) fun x16 =>
 letE vI (wI (x1 - (1 : Int))) fun x17 =>
 letE vB (bif x16 then false else false) fun x18 =>
 exitM <|
 retM false) (
 letE vB (decide ((2 : Int) < x4.State)) fun x19 =>
 letE vB (decide ((0 : Int) < x1)) fun x20 =>
 iteM x19 (
 letE vI (wI (x1 - (1 : Int))) fun x21 =>
 letE vB (bif x20 then false else false) fun x22 =>
 exitM <|
 retM false) (
 iteM x20 (
 letE vI (wI (x1 - (1 : Int))) fun x23 =>
 idxM a0.A x23 fun x24 =>
 callM vI (fun x25 => [.box [sl cGAlert a0.A, vI a0.Full], .box [sl cGPair x4.L, vB x4.H.On, vI x4.H.Since, vB x4.H.Hit, vI x4.H.Fired, vI x4.State, vI x4.V]]) (ref03_Compare x24.L x4.L) fun x25 =>
 letE vB (decide ((0 : Int) ≤ x25)) fun x26 =>
 letE vB (bif true then x26 else false) fun x27 =>
 iteM x27 (
 exitM <|
 retM false) (
 letE vI (wI (x1 + (1 : Int))) fun x28 =>
 nextM x28)) (
 letE vI (wI (x1 - (1 : Int))) fun x29 =>
 letE vB (bif false then false else false) fun x30 =>
 iteM x30 (
 exitM <|
 retM false) (
 letE vI (wI (x1 + (1 : Int))) fun x31 =>
 nextM x31))))))) (
 exitM <|
 letE vI ((a0.A.length : Int)) fun x32 =>
 letE vB (decide (x32 ≤ (16 : Int))) fun x33 =>
 iteM x33 (
 callM vB (fun x34 => [.box [sl cGAlert a0.A, vI a0.Full]]) (ref13_Time a0.Full) fun x34 =>
 retM x34) (
 retM false))) (0 : Int)

def ref20_ahead (a0 : GKey) (a1 : GKey) : Option (Bool) :=
 letE vB (ltS a0.Group a1.Group) fun x1 =>
 iteM x1 (
 retM true) (
 letE vB (decide (a0.Group = a1.Group)) fun x2 =>
 iteM x2 (
 letE vB (ltS a0.Rule a1.Rule) fun x3 =>
 letE vB (bif true then x3 else false) fun x4 =>
 retM x4) (
 letE vB (bif false then false else false) fun x5 =>
 retM x5))

def ref20_Sane (a0 : (List GSaved)) : Option (Bool) :=
 loopM (fun (x1 : Int) => [(0, sl cGSaved a0), (3, vI x1)]) (fun (x1 : Int) => []) (fun (x1 : Int) =>
 letE vI ((a0.length : Int)) fun x2 =>
 letE vB (decide (x1 < x2)) fun x3 =>
 iteM x3 (
 drawM <|
 idxM a0 x1 fun x4 =>
 callM vB (fun x5 => []) (ref03_Name x4.K.Group) fun x5 =>
 letE vB (!x5) fun x6 =>
 iteM x6 (
 letE vB (decide ((0 : Int) < x1)) fun x7 =>
 letE vI (wI (x1 - (1 : Int))) fun x8 =>
 letE vB (bif x7 then false else false) fun x9 =>
 exitM <|
 retM false) (
 callM vB (fun x10 => []) (ref03_Name x4.K.Rule) fun x10 =>
 letE vB (!x10) fun x11 =>
 iteM x11 (
 letE vB (decide ((0 : Int) < x1)) fun x12 =>
 letE vI (wI (x1 - (1 : Int))) fun x13 =>
 letE vB (bif x12 then false else false) fun x14 =>
 exitM <|
 retM false) (
 callM vB (fun x15 => []) (ref17_Sane x4.X) fun x15 =>
 letE vB (!x15) fun x16 =>
 letE vB (decide ((0 : Int) < x1)) fun x17 =>
 letE vI (wI (x1 - (1 : Int))) fun x18 =>
 iteM x16 (
 letE vB (bif x17 then false else false) fun x19 =>
 exitM <|
 retM false) (
 iteM x17 (
 idxM a0 x18 fun x20 =>
 callM vB (fun x21 => []) (ref20_ahead x20.K x4.K) fun x21 =>
 letE vB (!x21) fun x22 =>
 letE vB (bif true then x22 else false) fun x23 =>
 iteM x23 (
 exitM <|
 retM false) (
 letE vI (wI (x1 + (1 : Int))) fun x24 =>
 nextM x24)) (
 letE vB (bif false then false else false) fun x25 =>
 iteM x25 (
 exitM <|
 retM false) (
 letE vI (wI (x1 + (1 : Int))) fun x26 =>
 nextM x26)))))) (
 exitM <|
 letE vI ((a0.length : Int)) fun x27 =>
 letE vB (decide (x27 ≤ (256 : Int))) fun x28 =>
 retM x28)) (0 : Int)

def ref20_Get (a0 : (List Int)) : Option ((List GSaved) × Int) :=
 callM (fun x1 => .tup [vI x1.1, (sl (cK .u8)) x1.2.1, vI x1.2.2]) (fun x1 => []) (ref05_GetUint a0) fun x1 =>
 letE vB (!decide (x1.2.2 = (0 : Int))) fun x2 =>
 iteM x2 (
 retM (([] : (List GSaved)), x1.2.2)) (
 letE vB (decide ((256 : Int) < x1.1)) fun x3 =>
 iteM x3 (
 retM (([] : (List GSaved)), (4 : Int))) (
 tokM 7 4 40 <|
 loopM (fun (x4 : (List Int) × (List GSaved) × Int) => [(4, vI x1.1), (5, sl (cK .u8) x4.1), (7, so 0 cGSaved x4.2.1), (8, vI x4.2.2)]) (fun (x4 : (List Int) × (List GSaved) × Int) => [tk x4.2.1.length 4 40]) (fun (x4 : (List Int) × (List GSaved) × Int) =>
 letE vB (decide (x4.2.2 < x1.1)) fun x5 =>
 iteM x5 (
 callM (fun x6 => .tup [(ag cGSaved) x6.1, (sl (cK .u8)) x6.2.1, vI x6.2.2]) (fun x6 => [tk x4.2.1.length 4 40]) (ref20_getTable x4.1) fun x6 =>
 letE vB (!decide (x6.2.2 = (0 : Int))) fun x7 =>
 iteM x7 (
 exitM <|
 retM (([] : (List GSaved)), x6.2.2)) (
 letE (sx cGSaved) ([x6.1] : (List GSaved)) fun x8 =>
 gdM ((x4.2.1.length + x8.length) * 64 ≤ 140737488355328) <|
 letO (so 0 cGSaved) (fun x9 => [tk x9.length 4 40, .box [vS x6.1.K.Group, vS x6.1.K.Rule, sl cGAlert x6.1.X.A, vI x6.1.X.Full]]) (x4.2.1 ++ x8) fun x9 =>
 letE vI (wI (x4.2.2 + (1 : Int))) fun x10 =>
 nextM (x6.2.1, x9, x10))) (
 exitM <|
 letE vI ((x4.1.length : Int)) fun x11 =>
 letE vB (decide ((0 : Int) < x11)) fun x12 =>
 iteM x12 (
 retM (([] : (List GSaved)), (1 : Int))) (
 callM vB (fun x13 => [.tok x4.2.1.length 4 40 false]) (ref20_Sane x4.2.1) fun x13 =>
 letE vB (!x13) fun x14 =>
 iteM x14 (
 retM (([] : (List GSaved)), (1 : Int))) (
 retM (x4.2.1, (0 : Int)))))) (x1.2.1, ([] : List GSaved), (0 : Int))))

def ref05_PutUint (a0 : (List Int)) (a1 : Int) : Option ((List Int)) :=
 bs0M <|
 gdM ((([] : (List Int)).length + a0.length) * 1 ≤ 140737488355328) <|
 letO (so 0 (cK .u8)) (fun x1 => [tk x1.length 1 5]) (([] : (List Int)) ++ a0) fun x1 =>
 letE vB (decide (a1 < (0 : Int))) fun x2 =>
 letE vB (decide ((1152921504606846976 : Int) < a1)) fun x3 =>
 letE vB (bif x2 then true else x3) fun x4 =>
 iteM x4 (
 retM x1) (
 loopM (fun (x5 : Int × (List Int)) => [(1, vI x5.1), (5, so 0 (cK .u8) x5.2)]) (fun (x5 : Int × (List Int)) => [tk x5.2.length 1 5]) (fun (x5 : Int × (List Int)) =>
 letE vB (decide ((128 : Int) ≤ x5.1)) fun x6 =>
 iteM x6 (
 letE vI (Int.tmod x5.1 (128 : Int)) fun x7 =>
 letE vI (wI ((128 : Int) + x7)) fun x8 =>
 letE (vK .u8) (IntKind.u8.wrap x8) fun x9 =>
 letE (sx (cK .u8)) ([x9] : (List Int)) fun x10 =>
 gdM ((x5.2.length + x10.length) * 1 ≤ 140737488355328) <|
 letO (so 0 (cK .u8)) (fun x11 => [tk x11.length 1 5]) (x5.2 ++ x10) fun x11 =>
 letE vI (wI (Int.tdiv x5.1 (128 : Int))) fun x12 =>
 nextM (x12, x11)) (
 exitM <|
 letE (vK .u8) (IntKind.u8.wrap x5.1) fun x13 =>
 letE (sx (cK .u8)) ([x13] : (List Int)) fun x14 =>
 gdM ((x5.2.length + x14.length) * 1 ≤ 140737488355328) <|
 letO (so 0 (cK .u8)) (fun x15 => [tk x15.length 1 5]) (x5.2 ++ x14) fun x15 =>
 retM x15)) (a1, x1))

def ref05_PutText (a0 : (List Int)) (a1 : Str) : Option ((List Int)) :=
 letE vI ((a1.length : Int)) fun x1 =>
 letE vB (decide ((65536 : Int) < x1)) fun x2 =>
 iteM x2 (
 bs0M <|
 gdM ((([] : (List Int)).length + a0.length) * 1 ≤ 140737488355328) <|
 letO (so 0 (cK .u8)) (fun x3 => [tk x3.length 1 5]) (([] : (List Int)) ++ a0) fun x3 =>
 retM x3) (
 letE vI ((a1.length : Int)) fun x4 =>
 callM (so 0 (cK .u8)) (fun x5 => [tk x5.length 1 5]) (ref05_PutUint a0 x4) fun x5 =>
 gdM (a1.length ≤ 140737488355328) <|
 letE (sl (cK .u8)) (octs a1) fun x6 =>
 gdM ((x5.length + x6.length) * 1 ≤ 140737488355328) <|
 letO (so 0 (cK .u8)) (fun x7 => [tk x7.length 1 5]) (x5 ++ x6) fun x7 =>
 retM x7)

def ref05_PutLabels (a0 : (List Int)) (a1 : (List GPair)) : Option ((List Int)) :=
 callM (sl cGPair) (fun x1 => []) (ref03_As a1) fun x1 =>
 letE vI ((x1.length : Int)) fun x2 =>
 callM (so 0 (cK .u8)) (fun x3 => [tk x3.length 1 5]) (ref05_PutUint a0 x2) fun x3 =>
 shM 0 <|
 loopM (fun (x4 : (List Int) × Int) => [(5, sl cGPair x1), (6, so 0 (cK .u8) x4.1), (7, vI x4.2)]) (fun (x4 : (List Int) × Int) => [.tok x4.1.length 1 5 false]) (fun (x4 : (List Int) × Int) =>
 letE vI ((x1.length : Int)) fun x5 =>
 letE vB (decide (x4.2 < x5)) fun x6 =>
 iteM x6 (
 permM [(false, 0), (false, 1), (false, 2), (false, 3), (false, 4), (false, 5), (false, 7), (false, 8), (false, 9), (false, 10), (false, 11), (true, 6), (true, 12), (false, 13)] <|
 idxM x1 x4.2 fun x7 =>
 callM (so 1 (cK .u8)) (fun x8 => [.tok x4.1.length 1 5 false, tk x8.length 1 5]) (ref05_PutText x4.1 x7.Name) fun x8 =>
 callM (so 2 (cK .u8)) (fun x9 => [.tok x4.1.length 1 5 false, .tok x8.length 1 5 false, tk x9.length 1 5]) (ref05_PutText x8 x7.Value) fun x9 =>
 letE vI (wI (x4.2 + (1 : Int))) fun x10 =>
 swapM 0 2 <|
 shM 0 <|
 nextM (x9, x10)) (
 exitM <|
 retM x4.1)) (x3, (0 : Int))

def ref05_PutInt (a0 : (List Int)) (a1 : Int) : Option ((List Int)) :=
 letE vB (decide (a1 < (-576460752303423488 : Int))) fun x1 =>
 letE vB (decide ((576460752303423488 : Int) < a1)) fun x2 =>
 letE vB (bif x1 then true else x2) fun x3 =>
 iteM x3 (
 bs0M <|
 gdM ((([] : (List Int)).length + a0.length) * 1 ≤ 140737488355328) <|
 letO (so 0 (cK .u8)) (fun x4 => [tk x4.length 1 5]) (([] : (List Int)) ++ a0) fun x4 =>
 retM x4) (
 letE vB (decide (a1 < (0 : Int))) fun x5 =>
 iteM x5 (
 letE vI (wI ((-2 : Int) * a1)) fun x6 =>
 letE vI (wI (x6 - (1 : Int))) fun x7 =>
 callM (so 0 (cK .u8)) (fun x8 => [tk x8.length 1 5]) (ref05_PutUint a0 x7) fun x8 =>
 retM x8) (
 letE vI (wI ((2 : Int) * a1)) fun x9 =>
 callM (so 0 (cK .u8)) (fun x10 => [tk x10.length 1 5]) (ref05_PutUint a0 x9) fun x10 =>
 retM x10))

def ref20_putAlert (a0 : (List Int)) (a1 : GAlert) : Option ((List Int)) :=
 iteM a1.H.On (
 letE vI (wI (a1.State + (4 : Int))) fun x1 =>
 iteM a1.H.Hit (
 letE vI (wI (x1 + (8 : Int))) fun x2 =>
 callM (so 1 (cK .u8)) (fun x3 => [.box [sl cGPair a1.L, vB true, vI a1.H.Since, vB true, vI a1.H.Fired, vI a1.State, vI a1.V], .tok x3.length 1 5 false]) (ref05_PutLabels a0 a1.L) fun x3 =>
 callM (so 2 (cK .u8)) (fun x4 => [.box [sl cGPair a1.L, vB true, vI a1.H.Since, vB true, vI a1.H.Fired, vI a1.State, vI a1.V], .tok x3.length 1 5 false, tk x4.length 1 5]) (ref05_PutUint x3 x2) fun x4 =>
 permM [(false, 0), (false, 1), (false, 2), (false, 3), (false, 5), (false, 6), (false, 7), (true, 4), (true, 8), (false, 9)] <|
 callM (so 3 (cK .u8)) (fun x5 => [.box [sl cGPair a1.L, vB true, vI a1.H.Since, vB true, vI a1.H.Fired, vI a1.State, vI a1.V], .tok x3.length 1 5 false, .tok x4.length 1 5 false, tk x5.length 1 5]) (ref05_PutUint x4 a1.H.Since) fun x5 =>
 callM (so 4 (cK .u8)) (fun x6 => [.box [sl cGPair a1.L, vB true, vI a1.H.Since, vB true, vI a1.H.Fired, vI a1.State, vI a1.V], .tok x3.length 1 5 false, .tok x4.length 1 5 false, .tok x5.length 1 5 false, tk x6.length 1 5]) (ref05_PutUint x5 a1.H.Fired) fun x6 =>
 letE vI (max a1.V (-576460752303423488 : Int)) fun x7 =>
 letE vI (min x7 (576460752303423488 : Int)) fun x8 =>
 callM (so 5 (cK .u8)) (fun x9 => [.box [sl cGPair a1.L, vB true, vI a1.H.Since, vB true, vI a1.H.Fired, vI a1.State, vI a1.V], .tok x3.length 1 5 false, .tok x4.length 1 5 false, .tok x5.length 1 5 false, .tok x6.length 1 5 false, tk x9.length 1 5]) (ref05_PutInt x6 x8) fun x9 =>
 retM x9) (
 callM (so 1 (cK .u8)) (fun x10 => [.box [sl cGPair a1.L, vB true, vI a1.H.Since, vB false, vI a1.H.Fired, vI a1.State, vI a1.V], .tok x10.length 1 5 false]) (ref05_PutLabels a0 a1.L) fun x10 =>
 callM (so 2 (cK .u8)) (fun x11 => [.box [sl cGPair a1.L, vB true, vI a1.H.Since, vB false, vI a1.H.Fired, vI a1.State, vI a1.V], .tok x10.length 1 5 false, tk x11.length 1 5]) (ref05_PutUint x10 x1) fun x11 =>
 permM [(false, 0), (false, 1), (false, 2), (false, 3), (false, 5), (false, 6), (false, 7), (true, 4), (true, 8), (false, 9)] <|
 callM (so 3 (cK .u8)) (fun x12 => [.box [sl cGPair a1.L, vB true, vI a1.H.Since, vB false, vI a1.H.Fired, vI a1.State, vI a1.V], .tok x10.length 1 5 false, .tok x11.length 1 5 false, tk x12.length 1 5]) (ref05_PutUint x11 a1.H.Since) fun x12 =>
 callM (so 4 (cK .u8)) (fun x13 => [.box [sl cGPair a1.L, vB true, vI a1.H.Since, vB false, vI a1.H.Fired, vI a1.State, vI a1.V], .tok x10.length 1 5 false, .tok x11.length 1 5 false, .tok x12.length 1 5 false, tk x13.length 1 5]) (ref05_PutUint x12 a1.H.Fired) fun x13 =>
 letE vI (max a1.V (-576460752303423488 : Int)) fun x14 =>
 letE vI (min x14 (576460752303423488 : Int)) fun x15 =>
 callM (so 5 (cK .u8)) (fun x16 => [.box [sl cGPair a1.L, vB true, vI a1.H.Since, vB false, vI a1.H.Fired, vI a1.State, vI a1.V], .tok x10.length 1 5 false, .tok x11.length 1 5 false, .tok x12.length 1 5 false, .tok x13.length 1 5 false, tk x16.length 1 5]) (ref05_PutInt x13 x15) fun x16 =>
 retM x16)) (
 iteM a1.H.Hit (
 letE vI (wI (a1.State + (8 : Int))) fun x17 =>
 callM (so 1 (cK .u8)) (fun x18 => [.box [sl cGPair a1.L, vB false, vI a1.H.Since, vB true, vI a1.H.Fired, vI a1.State, vI a1.V], .tok x18.length 1 5 false]) (ref05_PutLabels a0 a1.L) fun x18 =>
 callM (so 2 (cK .u8)) (fun x19 => [.box [sl cGPair a1.L, vB false, vI a1.H.Since, vB true, vI a1.H.Fired, vI a1.State, vI a1.V], .tok x18.length 1 5 false, tk x19.length 1 5]) (ref05_PutUint x18 x17) fun x19 =>
 permM [(false, 0), (false, 1), (false, 2), (false, 3), (false, 5), (false, 6), (false, 7), (true, 4), (true, 8), (false, 9)] <|
 callM (so 3 (cK .u8)) (fun x20 => [.box [sl cGPair a1.L, vB false, vI a1.H.Since, vB true, vI a1.H.Fired, vI a1.State, vI a1.V], .tok x18.length 1 5 false, .tok x19.length 1 5 false, tk x20.length 1 5]) (ref05_PutUint x19 a1.H.Since) fun x20 =>
 callM (so 4 (cK .u8)) (fun x21 => [.box [sl cGPair a1.L, vB false, vI a1.H.Since, vB true, vI a1.H.Fired, vI a1.State, vI a1.V], .tok x18.length 1 5 false, .tok x19.length 1 5 false, .tok x20.length 1 5 false, tk x21.length 1 5]) (ref05_PutUint x20 a1.H.Fired) fun x21 =>
 letE vI (max a1.V (-576460752303423488 : Int)) fun x22 =>
 letE vI (min x22 (576460752303423488 : Int)) fun x23 =>
 callM (so 5 (cK .u8)) (fun x24 => [.box [sl cGPair a1.L, vB false, vI a1.H.Since, vB true, vI a1.H.Fired, vI a1.State, vI a1.V], .tok x18.length 1 5 false, .tok x19.length 1 5 false, .tok x20.length 1 5 false, .tok x21.length 1 5 false, tk x24.length 1 5]) (ref05_PutInt x21 x23) fun x24 =>
 retM x24) (
 callM (so 1 (cK .u8)) (fun x25 => [.box [sl cGPair a1.L, vB false, vI a1.H.Since, vB false, vI a1.H.Fired, vI a1.State, vI a1.V], .tok x25.length 1 5 false]) (ref05_PutLabels a0 a1.L) fun x25 =>
 callM (so 2 (cK .u8)) (fun x26 => [.box [sl cGPair a1.L, vB false, vI a1.H.Since, vB false, vI a1.H.Fired, vI a1.State, vI a1.V], .tok x25.length 1 5 false, tk x26.length 1 5]) (ref05_PutUint x25 a1.State) fun x26 =>
 permM [(false, 0), (false, 1), (false, 2), (false, 3), (false, 5), (false, 6), (false, 7), (true, 4), (true, 8), (false, 9)] <|
 callM (so 3 (cK .u8)) (fun x27 => [.box [sl cGPair a1.L, vB false, vI a1.H.Since, vB false, vI a1.H.Fired, vI a1.State, vI a1.V], .tok x25.length 1 5 false, .tok x26.length 1 5 false, tk x27.length 1 5]) (ref05_PutUint x26 a1.H.Since) fun x27 =>
 callM (so 4 (cK .u8)) (fun x28 => [.box [sl cGPair a1.L, vB false, vI a1.H.Since, vB false, vI a1.H.Fired, vI a1.State, vI a1.V], .tok x25.length 1 5 false, .tok x26.length 1 5 false, .tok x27.length 1 5 false, tk x28.length 1 5]) (ref05_PutUint x27 a1.H.Fired) fun x28 =>
 letE vI (max a1.V (-576460752303423488 : Int)) fun x29 =>
 letE vI (min x29 (576460752303423488 : Int)) fun x30 =>
 callM (so 5 (cK .u8)) (fun x31 => [.box [sl cGPair a1.L, vB false, vI a1.H.Since, vB false, vI a1.H.Fired, vI a1.State, vI a1.V], .tok x25.length 1 5 false, .tok x26.length 1 5 false, .tok x27.length 1 5 false, .tok x28.length 1 5 false, tk x31.length 1 5]) (ref05_PutInt x28 x30) fun x31 =>
 retM x31))

def ref20_Put (a0 : (List GSaved)) : Option ((List Int)) :=
 callM vB (fun x1 => []) (ref20_Sane a0) fun x1 =>
 letE vB (!x1) fun x2 =>
 iteM x2 (
 retM ([] : (List Int))) (
 letE vI ((a0.length : Int)) fun x3 =>
 callM (so 0 (cK .u8)) (fun x4 => [tk x4.length 1 5]) (ref05_PutUint ([] : (List Int)) x3) fun x4 =>
 pubM 3 0 <|
 loopM (fun (x5 : (List Int) × Int) => [(0, sl cGSaved a0), (3, sl (cK .u8) x5.1), (4, vI x5.2)]) (fun (x5 : (List Int) × Int) => []) (fun (x5 : (List Int) × Int) =>
 letE vI ((a0.length : Int)) fun x6 =>
 letE vB (decide (x5.2 < x6)) fun x7 =>
 iteM x7 (
 permM [(false, 0), (false, 1), (false, 2), (false, 3), (false, 4), (false, 5), (false, 6), (false, 8), (false, 9), (false, 10), (false, 11), (false, 12), (false, 13), (true, 7), (true, 14), (false, 15)] <|
 idxM a0 x5.2 fun x8 =>
 callM (so 0 (cK .u8)) (fun x9 => [tk x9.length 1 5]) (ref05_PutText x5.1 x8.K.Group) fun x9 =>
 callM (so 1 (cK .u8)) (fun x10 => [.tok x9.length 1 5 false, tk x10.length 1 5]) (ref05_PutText x9 x8.K.Rule) fun x10 =>
 permM [(false, 0), (false, 1), (false, 2), (false, 3), (false, 4), (false, 5), (false, 6), (false, 8), (false, 9), (false, 10), (false, 11), (false, 12), (false, 13), (false, 14), (true, 7), (true, 15), (false, 16)] <|
 letE vI ((x8.X.A.length : Int)) fun x11 =>
 callM (so 2 (cK .u8)) (fun x12 => [.tok x9.length 1 5 false, .tok x10.length 1 5 false, tk x12.length 1 5]) (ref05_PutUint x10 x8.X.Full) fun x12 =>
 callM (so 3 (cK .u8)) (fun x13 => [.tok x9.length 1 5 false, .tok x10.length 1 5 false, .tok x12.length 1 5 false, tk x13.length 1 5]) (ref05_PutUint x12 x11) fun x13 =>
 pubM 3 3 <|
 loopM (fun (x14 : (List Int) × Int) => [(0, sl cGSaved a0), (3, sl (cK .u8) x14.1), (4, vI x5.2), (5, vI x14.2)]) (fun (x14 : (List Int) × Int) => []) (fun (x14 : (List Int) × Int) =>
 letE vI ((x8.X.A.length : Int)) fun x15 =>
 letE vB (decide (x14.2 < x15)) fun x16 =>
 iteM x16 (
 idxM x8.X.A x14.2 fun x17 =>
 callM (sl (cK .u8)) (fun x18 => []) (ref20_putAlert x14.1 x17) fun x18 =>
 letE vI (wI (x14.2 + (1 : Int))) fun x19 =>
 nextM (x18, x19)) (
 exitM <|
 letE vI (wI (x5.2 + (1 : Int))) fun x20 =>
 nextM (x14.1, x20))) (x13, (0 : Int))) (
 exitM <|
 retM x5.1)) (x4, (0 : Int)))

def ref20_Find (a0 : (List GSaved)) (a1 : GKey) : Option (GTable) :=
 loopM (fun (x1 : Int) => [(0, sl cGSaved a0), (3, .ptr 0 0), (4, .ptr 1 0), (5, vI x1)]) (fun (x1 : Int) => [.box [vS a1.Group, vS a1.Rule], .box [.v (.slice none 0 0), vI (0 : Int)]]) (fun (x1 : Int) =>
 letE vI ((a0.length : Int)) fun x2 =>
 letE vB (decide (x1 < x2)) fun x3 =>
 iteM x3 (
 callM vB (fun x4 => [.box [vS a1.Group, vS a1.Rule], .box [.v (.slice none 0 0), vI (0 : Int)]]) (ref20_Sane a0) fun x4 =>
 iteM x4 (
 idxM a0 x1 fun x5 =>
 letE vB ((decide (x5.K.Group = a1.Group) && (decide (x5.K.Rule = a1.Rule) && true))) fun x6 =>
 iteM x6 (
 exitM <|
 retM x5.X) (
 letE vI (wI (x1 + (1 : Int))) fun x7 =>
 nextM x7)) (
 exitM <|
 retM (⟨([] : (List GAlert)), (0 : Int)⟩ : GTable))) (
 exitM <|
 retM (⟨([] : (List GAlert)), (0 : Int)⟩ : GTable))) (0 : Int)

def law20_SnapIs (a0 : (List GSaved)) (a1 : (List Int)) (a2 : GKey) : Option (Bool) :=
 callM vB (fun x1 => [.box [vS a2.Group, vS a2.Rule]]) (law20_awake) fun x1 =>
 callM vB (fun x2 => [.box [vS a2.Group, vS a2.Rule]]) (ref20_Few a0) fun x2 =>
 letE vB (!x2) fun x3 =>
 letE vI ((a1.length : Int)) fun x4 =>
 letE vB (decide ((5000 : Int) < x4)) fun x5 =>
 letE vB (bif x3 then true else x5) fun x6 =>
 iteM x6 (
 retM x1) (
 letE vI ((a2.Group.length : Int)) fun x7 =>
 letE vI ((a2.Rule.length : Int)) fun x8 =>
 letE vI (wI (x7 + x8)) fun x9 =>
 letE vB (decide ((1000 : Int) < x9)) fun x10 =>
 iteM x10 (
 retM x1) (
 callM (fun x11 => .tup [(sl cGSaved) x11.1, vI x11.2]) (fun x11 => [.box [vS a2.Group, vS a2.Rule]]) (snap_Get a1) fun x11 =>
 callM (fun x12 => .tup [(sl cGSaved) x12.1, vI x12.2]) (fun x12 => [.box [vS a2.Group, vS a2.Rule]]) (ref20_Get a1) fun x12 =>
 drawM <|
 iteM x1 (
 callM vB (fun x13 => [.box [vS a2.Group, vS a2.Rule]]) (ref20_Same x11.1 x12.1) fun x13 =>
 letE vB (decide (x11.2 = x12.2)) fun x14 =>
 letE vB (bif x13 then x14 else false) fun x15 =>
 iteM x15 (
 callM vB (fun x16 => [.box [vS a2.Group, vS a2.Rule]]) (snap_Sane a0) fun x16 =>
 callM vB (fun x17 => [.box [vS a2.Group, vS a2.Rule]]) (ref20_Sane a0) fun x17 =>
 letE vB (x16 == x17) fun x18 =>
 iteM x18 (
 callM (sl (cK .u8)) (fun x19 => [.box [vS a2.Group, vS a2.Rule]]) (snap_Put a0) fun x19 =>
 letE vS (strOf x19) fun x20 =>
 callM (sl (cK .u8)) (fun x21 => [.box [vS a2.Group, vS a2.Rule]]) (ref20_Put a0) fun x21 =>
 letE vS (strOf x21) fun x22 =>
 letE vB (decide (x20 = x22)) fun x23 =>
 iteM x23 (
 callM (ag cGTable) (fun x24 => [.box [vS a2.Group, vS a2.Rule]]) (snap_Find a0 a2) fun x24 =>
 callM (ag cGTable) (fun x25 => [.box [vS a2.Group, vS a2.Rule]]) (ref20_Find a0 a2) fun x25 =>
 callM vB (fun x26 => [.box [vS a2.Group, vS a2.Rule]]) (ref17_Same x24 x25) fun x26 =>
 retM x26) (
 retM false)) (
 retM false)) (
 retM false)) (
 letE vB (decide (x11.2 = x12.2)) fun x27 =>
 retM false)))

def law20_SnapBack (a0 : (List GSaved)) (a1 : Int) (a2 : Int) : Option (Bool) :=
 callM vB (fun x1 => []) (law20_awake) fun x1 =>
 callM vB (fun x2 => []) (ref20_Few a0) fun x2 =>
 letE vB (!x2) fun x3 =>
 iteM x3 (
 retM x1) (
 callM (sl (cK .u8)) (fun x4 => []) (snap_Put a0) fun x4 =>
 callM vB (fun x5 => []) (snap_Sane a0) fun x5 =>
 letE vB (!x5) fun x6 =>
 iteM x6 (
 letE vI ((x4.length : Int)) fun x7 =>
 letE vB (decide (x7 = (0 : Int))) fun x8 =>
 letE vB (bif x1 then x8 else false) fun x9 =>
 retM x9) (
 loopM (fun (x10 : Int) => [(0, sl cGSaved a0), (1, vI a1), (2, vK .u8 a2), (7, vB x1), (8, sl (cK .u8) x4), (9, vI x10)]) (fun (x10 : Int) => []) (fun (x10 : Int) =>
 letE vI ((a0.length : Int)) fun x11 =>
 letE vB (decide (x10 < x11)) fun x12 =>
 iteM x12 (
 loopM (fun (x13 : Int) => [(0, sl cGSaved a0), (1, vI a1), (2, vK .u8 a2), (7, vB x1), (8, sl (cK .u8) x4), (9, vI x10), (10, vI x13)]) (fun (x13 : Int) => []) (fun (x13 : Int) =>
 idxM a0 x10 fun x14 =>
 letE vI ((x14.X.A.length : Int)) fun x15 =>
 letE vB (decide (x13 < x15)) fun x16 =>
 iteM x16 (
 idxM x14.X.A x13 fun x17 =>
 letE vB (decide ((576460752303423488 : Int) < x17.V)) fun x18 =>
 letE vB (decide (x17.V < (-576460752303423488 : Int))) fun x19 =>
 letE vB (bif x18 then true else x19) fun x20 =>
 iteM x20 (
 exitM <|
 exitM <|
 retM x1) (
 letE vI (wI (x13 + (1 : Int))) fun x21 =>
 nextM x21)) (
 exitM <|
 letE vI (wI (x10 + (1 : Int))) fun x22 =>
 nextM x22)) (0 : Int)) (
 exitM <|
 letE vI ((x4.length : Int)) fun x23 =>
 letE vB (decide (x23 = (0 : Int))) fun x24 =>
 iteM x24 (
 retM false) (
 callM (fun x25 => .tup [(sl cGSaved) x25.1, vI x25.2]) (fun x25 => []) (snap_Get x4) fun x25 =>
 letE vI (bAnd .i64 a1 (65535 : Int)) fun x26 =>
 letE vI ((x4.length : Int)) fun x27 =>
 gdM (x27 ≠ 0) <|
 letE vI (Int.tmod x26 x27) fun x28 =>
 gdM (0 ≤ (0 : Int) ∧ (0 : Int) ≤ x28 ∧ x28 ≤ (x4.length : Int)) <|
 letE (sl (cK .u8)) ((x4.take x28.toNat).drop (0 : Int).toNat) fun x29 =>
 callM (fun x30 => .tup [(sl cGSaved) x30.1, vI x30.2]) (fun x30 => []) (snap_Get x29) fun x30 =>
 bs0M <|
 gdM ((([] : (List Int)).length + x4.length) * 1 ≤ 140737488355328) <|
 letO (so 0 (cK .u8)) (fun x31 => [tk x31.length 1 5]) (([] : (List Int)) ++ x4) fun x31 =>
 letE (sx (cK .u8)) ([a2] : (List Int)) fun x32 =>
 gdM ((x31.length + x32.length) * 1 ≤ 140737488355328) <|
 letO (so 0 (cK .u8)) (fun x33 => [tk x33.length 1 5]) (x31 ++ x32) fun x33 =>
 callM (fun x34 => .tup [(sl cGSaved) x34.1, vI x34.2]) (fun x34 => [.tok x33.length 1 5 false]) (snap_Get x33) fun x34 =>
 letE vB (decide (x25.2 = (0 : Int))) fun x35 =>
 letE vB (bif x1 then x35 else false) fun x36 =>
 iteM x36 (
 callM vB (fun x37 => [.tok x33.length 1 5 false]) (ref20_Same x25.1 a0) fun x37 =>
 letE vB (decide (x30.2 = (3 : Int))) fun x38 =>
 letE vB (bif x37 then x38 else false) fun x39 =>
 letE vI ((x30.1.length : Int)) fun x40 =>
 letE vB (decide (x40 = (0 : Int))) fun x41 =>
 letE vB (bif x39 then x41 else false) fun x42 =>
 letE vB (decide (x34.2 = (1 : Int))) fun x43 =>
 letE vB (bif x42 then x43 else false) fun x44 =>
 retM x44) (
 letE vB (decide (x30.2 = (3 : Int))) fun x45 =>
 letE vI ((x30.1.length : Int)) fun x46 =>
 letE vB (decide (x46 = (0 : Int))) fun x47 =>
 letE vB (decide (x34.2 = (1 : Int))) fun x48 =>
 retM false)))) (0 : Int)))

def law20_SnapFinds (a0 : (List GSaved)) (a1 : GKey) : Option (Bool) :=
 callM vB (fun x1 => [.box [vS a1.Group, vS a1.Rule]]) (law20_awake) fun x1 =>
 callM vB (fun x2 => [.box [vS a1.Group, vS a1.Rule]]) (ref20_Few a0) fun x2 =>
 letE vB (!x2) fun x3 =>
 iteM x3 (
 retM x1) (
 letE vI ((a1.Group.length : Int)) fun x4 =>
 letE vI ((a1.Rule.length : Int)) fun x5 =>
 letE vI (wI (x4 + x5)) fun x6 =>
 letE vB (decide ((1000 : Int) < x6)) fun x7 =>
 iteM x7 (
 retM x1) (
 callM vB (fun x8 => [.box [vS a1.Group, vS a1.Rule]]) (snap_Sane a0) fun x8 =>
 letE vB (!x8) fun x9 =>
 iteM x9 (
 retM x1) (
 loopM (fun (x10 : Bool × Int) => [(0, sl cGSaved a0), (3, .ptr 0 0), (5, vB x1), (6, vB x10.1), (7, vI x10.2)]) (fun (x10 : Bool × Int) => [.box [vS a1.Group, vS a1.Rule]]) (fun (x10 : Bool × Int) =>
 letE vI ((a0.length : Int)) fun x11 =>
 letE vB (decide (x10.2 < x11)) fun x12 =>
 iteM x12 (
 iteM x10.1 (
 drawM <|
 idxM a0 x10.2 fun x13 =>
 callM (ag cGTable) (fun x14 => [.box [vS a1.Group, vS a1.Rule]]) (snap_Find a0 x13.K) fun x14 =>
 callM vB (fun x15 => [.box [vS a1.Group, vS a1.Rule]]) (ref17_Same x14 x13.X) fun x15 =>
 letE vB (!x15) fun x16 =>
 iteM x16 (
 exitM <|
 retM false) (
 letE vI (wI (x10.2 + (1 : Int))) fun x17 =>
 nextM (true, x17))) (
 idxM a0 x10.2 fun x18 =>
 letE vB ((decide (x18.K.Group = a1.Group) && (decide (x18.K.Rule = a1.Rule) && true))) fun x19 =>
 drawM <|
 callM (ag cGTable) (fun x20 => [.box [vS a1.Group, vS a1.Rule]]) (snap_Find a0 x18.K) fun x20 =>
 callM vB (fun x21 => [.box [vS a1.Group, vS a1.Rule]]) (ref17_Same x20 x18.X) fun x21 =>
 letE vB (!x21) fun x22 =>
 iteM x22 (
 exitM <|
 retM false) (
 letE vI (wI (x10.2 + (1 : Int))) fun x23 =>
 nextM (x19, x23)))) (
 exitM <|
 iteM x1 (
 iteM x10.1 (
 letE vB (bif true then true else false) fun x24 =>
 retM x24) (
 callM (ag cGTable) (fun x25 => [.box [vS a1.Group, vS a1.Rule]]) (snap_Find a0 a1) fun x25 =>
 callM vB (fun x26 => [.box [vS a1.Group, vS a1.Rule]]) (ref17_Same x25 (⟨([] : (List GAlert)), (0 : Int)⟩ : GTable)) fun x26 =>
 letE vB (bif false then true else x26) fun x27 =>
 retM x27)) (
 letE vB (bif x10.1 then true else false) fun x28 =>
 retM false))) (false, (0 : Int)))))

def law20_within (a0 : (List GSaved)) : Option (Bool) :=
 loopM (fun (x1 : Int) => [(0, sl cGSaved a0), (3, vI x1)]) (fun (x1 : Int) => []) (fun (x1 : Int) =>
 letE vI ((a0.length : Int)) fun x2 =>
 letE vB (decide (x1 < x2)) fun x3 =>
 iteM x3 (
 loopM (fun (x4 : Int) => [(0, sl cGSaved a0), (3, vI x1), (4, vI x4)]) (fun (x4 : Int) => []) (fun (x4 : Int) =>
 idxM a0 x1 fun x5 =>
 letE vI ((x5.X.A.length : Int)) fun x6 =>
 letE vB (decide (x4 < x6)) fun x7 =>
 iteM x7 (
 idxM x5.X.A x4 fun x8 =>
 letE vB (decide ((9007199254740992 : Int) < x8.V)) fun x9 =>
 iteM x9 (
 exitM <|
 exitM <|
 retM false) (
 letE vB (decide (x8.V < (-9007199254740992 : Int))) fun x10 =>
 iteM x10 (
 exitM <|
 exitM <|
 retM false) (
 letE vI (wI (x4 + (1 : Int))) fun x11 =>
 nextM x11))) (
 exitM <|
 letE vI (wI (x1 + (1 : Int))) fun x12 =>
 nextM x12)) (0 : Int)) (
 exitM <|
 retM true)) (0 : Int)

def law20_SnapApart (a0 : (List GSaved)) (a1 : (List GSaved)) : Option (Bool) :=
 callM vB (fun x1 => []) (law20_awake) fun x1 =>
 callM vB (fun x2 => []) (ref20_Few a0) fun x2 =>
 letE vB (!x2) fun x3 =>
 iteM x3 (
 retM x1) (
 callM vB (fun x4 => []) (ref20_Few a1) fun x4 =>
 letE vB (!x4) fun x5 =>
 iteM x5 (
 retM x1) (
 callM vB (fun x6 => []) (snap_Sane a0) fun x6 =>
 letE vB (!x6) fun x7 =>
 iteM x7 (
 retM x1) (
 callM vB (fun x8 => []) (snap_Sane a1) fun x8 =>
 letE vB (!x8) fun x9 =>
 iteM x9 (
 retM x1) (
 callM vB (fun x10 => []) (law20_within a0) fun x10 =>
 letE vB (!x10) fun x11 =>
 iteM x11 (
 retM x1) (
 callM vB (fun x12 => []) (law20_within a1) fun x12 =>
 letE vB (!x12) fun x13 =>
 iteM x13 (
 retM x1) (
 drawM <|
 iteM x1 (
 callM (sl (cK .u8)) (fun x14 => []) (snap_Put a0) fun x14 =>
 letE vS (strOf x14) fun x15 =>
 callM (sl (cK .u8)) (fun x16 => []) (snap_Put a1) fun x16 =>
 letE vS (strOf x16) fun x17 =>
 letE vB (decide (x15 = x17)) fun x18 =>
 callM vB (fun x19 => []) (ref20_Same a0 a1) fun x19 =>
 letE vB (x18 == x19) fun x20 =>
 retM x20) (
 retM false)))))))

end
end Go.Proofs.YtoekflobllmeeaaGreatDoor.AM
