/- Md -/
import Derived.Test.YthgenmkengbmmaaGreatDoorTy
set_option linter.all false
namespace Go.Proofs.YthgenmkengbmmaaGreatDoor.AM

noncomputable section
def uJ (a0:Int):Option (Bool) :=
 aA vB (decide (a0=(32:Int))) fun x1=>
 aA vB (decide (a0=(9:Int))) fun x2=>
 aA vB (bif x1 then true else x2) fun x3=>
 aA vB (decide (a0=(13:Int))) fun x4=>
 aA vB (bif x3 then true else x4) fun x5=>
 aA vB (decide (a0=(10:Int))) fun x6=>
 aA vB (bif x5 then true else x6) fun x7=>
 aH x7
def dV (a0:Str) (a1:Int):Option (Int) :=
 bU (fun (x1:Int)=>[(0,vS a0),(1,vI x1)]) (fun (x1:Int)=>[]) (fun (x1:Int)=>
 aA vI ((a0.length:Int)) fun x2=>
 aA vB (decide (x1 < x2)) fun x3=>
 aG x3 (
 bS a0 x1 fun x4=>
 aN vB (fun x5=>[]) (uJ (x4.toNat:Int)) fun x5=>
 aG x5 (
 aA vI (wI (x1 + (1:Int))) fun x6=>
 bE x6) (
 aA vB (decide ((x4.toNat:Int)=(35:Int))) fun x7=>
 aG x7 (
 bU (fun (x8:Int)=>[(0,vS a0),(1,vI x8)]) (fun (x8:Int)=>[]) (fun (x8:Int)=>
 aA vI ((a0.length:Int)) fun x9=>
 aA vB (decide (x8 < x9)) fun x10=>
 aG x10 (
 bS a0 x8 fun x11=>
 aA vB (!decide ((x11.toNat:Int)=(10:Int))) fun x12=>
 aG x12 (
 aA vI (wI (x8 + (1:Int))) fun x13=>
 bE x13) (
 a8<|
 bE x8)) (
 a8<|
 bE x8)) x1) (
 a8<|
 aH x1))) (
 a8<|
 aH x1)) a1
def oS (a0:Int):Option (Bool) :=
 aA vB (decide ((97:Int)≤a0)) fun x1=>
 aA vB (decide (a0≤(122:Int))) fun x2=>
 aA vB (bif x1 then x2 else false) fun x3=>
 aA vB (decide ((65:Int)≤a0)) fun x4=>
 aA vB (decide (a0≤(90:Int))) fun x5=>
 aA vB (bif x4 then x5 else false) fun x6=>
 aA vB (bif x3 then true else x6) fun x7=>
 aA vB (decide (a0=(95:Int))) fun x8=>
 aA vB (bif x7 then true else x8) fun x9=>
 aH x9
def nZ (a0:Int):Option (Bool) :=
 aA vB (decide ((48:Int)≤a0)) fun x1=>
 aA vB (decide (a0≤(57:Int))) fun x2=>
 aA vB (bif x1 then x2 else false) fun x3=>
 aH x3
def dA (a0:Str):Option (Int × Int) :=
 bS a0 (0:Int) fun x1=>
 aN vB (fun x2=>[]) (oS (x1.toNat:Int)) fun x2=>
 aG x2 (
 aH ((1:Int),(0:Int))) (
 aN vB (fun x3=>[]) (nZ (x1.toNat:Int)) fun x3=>
 aG x3 (
 aH ((2:Int),(0:Int))) (
 aA vB (decide ((x1.toNat:Int)=(45:Int))) fun x4=>
 aA vI ((a0.length:Int)) fun x5=>
 aA vB (decide ((1:Int) < x5)) fun x6=>
 aA vB (bif x4 then x6 else false) fun x7=>
 aG x7 (
 bS a0 (1:Int) fun x8=>
 aN vB (fun x9=>[]) (nZ (x8.toNat:Int)) fun x9=>
 aG x9 (
 aH ((2:Int),(0:Int))) (
 aA vB (decide ((x1.toNat:Int)=(34:Int))) fun x10=>
 aG x10 (
 aH ((3:Int),(0:Int))) (
 aN vI (fun x11=>[]) (strings_IndexByte ([61,33,60,62]:Str) (x1.toNat:Int)) fun x11=>
 aA vB (decide ((0:Int)≤x11)) fun x12=>
 aA vI ((a0.length:Int)) fun x13=>
 aA vB (decide ((1:Int) < x13)) fun x14=>
 aA vB (bif x12 then x14 else false) fun x15=>
 aG x15 (
 aA vB (decide ((x8.toNat:Int)=(61:Int))) fun x16=>
 aG x16 (
 aA vI (wI ((1:Int) + (1:Int))) fun x17=>
 aH ((4:Int),x17)) (
 aN vI (fun x18=>[]) (strings_IndexByte ([123,125,40,41,44,58,59,61,60,62]:Str) (x1.toNat:Int)) fun x18=>
 aA vB (decide ((0:Int)≤x18)) fun x19=>
 aG x19 (
 aH ((4:Int),(1:Int))) (
 aH ((0:Int),(0:Int))))) (
 aN vI (fun x20=>[]) (strings_IndexByte ([123,125,40,41,44,58,59,61,60,62]:Str) (x1.toNat:Int)) fun x20=>
 aA vB (decide ((0:Int)≤x20)) fun x21=>
 aG x21 (
 aH ((4:Int),(1:Int))) (
 aH ((0:Int),(0:Int))))))) (
 aA vB (decide ((x1.toNat:Int)=(34:Int))) fun x22=>
 aG x22 (
 aH ((3:Int),(0:Int))) (
 aN vI (fun x23=>[]) (strings_IndexByte ([61,33,60,62]:Str) (x1.toNat:Int)) fun x23=>
 aA vB (decide ((0:Int)≤x23)) fun x24=>
 aA vI ((a0.length:Int)) fun x25=>
 aA vB (decide ((1:Int) < x25)) fun x26=>
 aA vB (bif x24 then x26 else false) fun x27=>
 aG x27 (
 bS a0 (1:Int) fun x28=>
 aA vB (decide ((x28.toNat:Int)=(61:Int))) fun x29=>
 aG x29 (
 aA vI (wI ((1:Int) + (1:Int))) fun x30=>
 aH ((4:Int),x30)) (
 aN vI (fun x31=>[]) (strings_IndexByte ([123,125,40,41,44,58,59,61,60,62]:Str) (x1.toNat:Int)) fun x31=>
 aA vB (decide ((0:Int)≤x31)) fun x32=>
 aG x32 (
 aH ((4:Int),(1:Int))) (
 aH ((0:Int),(0:Int))))) (
 aN vI (fun x33=>[]) (strings_IndexByte ([123,125,40,41,44,58,59,61,60,62]:Str) (x1.toNat:Int)) fun x33=>
 aA vB (decide ((0:Int)≤x33)) fun x34=>
 aG x34 (
 aH ((4:Int),(1:Int))) (
 aH ((0:Int),(0:Int))))))))
def mX (a0:Str):Option (Str × Int × Int) :=
 JL 5 1 5<|
 bU (fun (x1:(List Int) × Int)=>[(0,vS a0),(5,so 0 (cK .u8) x1.1),(6,vI x1.2)]) (fun (x1:(List Int) × Int)=>[tk x1.1.length 1 5]) (fun (x1:(List Int) × Int)=>
 aA vI ((a0.length:Int)) fun x2=>
 aA vB (decide (x1.2 < x2)) fun x3=>
 aG x3 (
 bS a0 x1.2 fun x4=>
 aA vB (decide ((x4.toNat:Int)=(34:Int))) fun x5=>
 aG x5 (
 aA vS (d7 x1.1) fun x6=>
 aA vI (wI (x1.2 + (1:Int))) fun x7=>
 a8<|
 aH (x6,x7,(0:Int))) (
 aA vB (decide ((x4.toNat:Int)=(10:Int))) fun x8=>
 aG x8 (
 a8<|
 aH (([]:Str),(0:Int),(12:Int))) (
 aA vB (!decide ((x4.toNat:Int)=(92:Int))) fun x9=>
 aG x9 (
 aA (sx (cK .u8)) ([(x4.toNat:Int)]:(List Int)) fun x10=>
 gdM ((x1.1.length + x10.length) * 1≤140737488355328)<|
 eU (so 0 (cK .u8)) (fun x11=>[tk x11.length 1 5]) (x1.1 ++ x10) fun x11=>
 aA vI (wI (x1.2 + (1:Int))) fun x12=>
 bE (x11,x12)) (
 aA vI (wI (x1.2 + (1:Int))) fun x13=>
 aA vI ((a0.length:Int)) fun x14=>
 aA vB (decide (x13=x14)) fun x15=>
 aG x15 (
 a8<|
 aH (([]:Str),(0:Int),(12:Int))) (
 aA vI (wI (x1.2 + (1:Int))) fun x16=>
 bS a0 x16 fun x17=>
 aA vB (decide ((x17.toNat:Int)=(92:Int))) fun x18=>
 aA vI (wI (x1.2 + (1:Int))) fun x19=>
 aG x18 (
 aA vI (wI (x1.2 + (1:Int))) fun x20=>
 bS a0 x20 fun x21=>
 aA (sx (cK .u8)) ([(x21.toNat:Int)]:(List Int)) fun x22=>
 gdM ((x1.1.length + x22.length) * 1≤140737488355328)<|
 eU (so 0 (cK .u8)) (fun x23=>[tk x23.length 1 5]) (x1.1 ++ x22) fun x23=>
 aA vI (wI (x20 + (1:Int))) fun x24=>
 bE (x23,x24)) (
 bS a0 x19 fun x25=>
 aA vB (decide ((x25.toNat:Int)=(34:Int))) fun x26=>
 aG x26 (
 aA vI (wI (x1.2 + (1:Int))) fun x27=>
 bS a0 x27 fun x28=>
 aA (sx (cK .u8)) ([(x28.toNat:Int)]:(List Int)) fun x29=>
 gdM ((x1.1.length + x29.length) * 1≤140737488355328)<|
 eU (so 0 (cK .u8)) (fun x30=>[tk x30.length 1 5]) (x1.1 ++ x29) fun x30=>
 aA vI (wI (x27 + (1:Int))) fun x31=>
 bE (x30,x31)) (
 aA vI (wI (x1.2 + (1:Int))) fun x32=>
 bS a0 x32 fun x33=>
 aA vB (decide ((x33.toNat:Int)=(110:Int))) fun x34=>
 aG x34 (
 aA vI (wI (x1.2 + (1:Int))) fun x35=>
 aA (sx (cK .u8)) ([(10:Int)]:(List Int)) fun x36=>
 gdM ((x1.1.length + x36.length) * 1≤140737488355328)<|
 eU (so 0 (cK .u8)) (fun x37=>[tk x37.length 1 5]) (x1.1 ++ x36) fun x37=>
 aA vI (wI (x35 + (1:Int))) fun x38=>
 bE (x37,x38)) (
 a8<|
 aH (([]:Str),x1.2,(1:Int)))))))))) (
 a8<|
 aH (([]:Str),(0:Int),(12:Int)))) (([]:List Int),(1:Int))
def nK (a0:Str) (a1:Bool):Option (Int) :=
 bU (fun (x1:Bool × Int)=>[(0,vS a0),(1,vB x1.1),(5,vI x1.2)]) (fun (x1:Bool × Int)=>[]) (fun (x1:Bool × Int)=>
 aA vI ((a0.length:Int)) fun x2=>
 aA vB (decide (x1.2 < x2)) fun x3=>
 aG x3 (
 bS a0 x1.2 fun x4=>
 aN vB (fun x5=>[]) (oS (x4.toNat:Int)) fun x5=>
 aG x5 (
 aA vB (bif true then true else false) fun x6=>
 aG x1.1 (
 aG x6 (
 aA vB (bif true then false else false) fun x7=>
 aA vB (bif true then true else x7) fun x8=>
 aG x8 (
 aA vI (wI (x1.2 + (1:Int))) fun x9=>
 bE (true,x9)) (
 a8<|
 aH x1.2)) (
 aA vB (decide ((x4.toNat:Int)=(46:Int))) fun x10=>
 aA vB (bif true then x10 else false) fun x11=>
 aA vB (bif false then true else x11) fun x12=>
 aG x12 (
 aA vI (wI (x1.2 + (1:Int))) fun x13=>
 bE (true,x13)) (
 a8<|
 aH x1.2))) (
 aA vB (bif false then false else false) fun x14=>
 aA vB (bif x6 then true else x14) fun x15=>
 aG x15 (
 aA vI (wI (x1.2 + (1:Int))) fun x16=>
 bE (false,x16)) (
 a8<|
 aH x1.2))) (
 aN vB (fun x17=>[]) (nZ (x4.toNat:Int)) fun x17=>
 aA vB (bif false then true else x17) fun x18=>
 aG x1.1 (
 aG x18 (
 aA vB (bif true then false else false) fun x19=>
 aA vB (bif true then true else x19) fun x20=>
 aG x20 (
 aA vI (wI (x1.2 + (1:Int))) fun x21=>
 bE (true,x21)) (
 a8<|
 aH x1.2)) (
 aA vB (decide ((x4.toNat:Int)=(46:Int))) fun x22=>
 aA vB (bif true then x22 else false) fun x23=>
 aA vB (bif false then true else x23) fun x24=>
 aG x24 (
 aA vI (wI (x1.2 + (1:Int))) fun x25=>
 bE (true,x25)) (
 a8<|
 aH x1.2))) (
 aA vB (bif false then false else false) fun x26=>
 aA vB (bif x18 then true else x26) fun x27=>
 aG x27 (
 aA vI (wI (x1.2 + (1:Int))) fun x28=>
 bE (false,x28)) (
 a8<|
 aH x1.2)))) (
 aA vB (bif x1.1 then false else false) fun x29=>
 a8<|
 aH x1.2)) (a1,(1:Int))
def oZ (a0:Str):Option ((List aL) × Int × Int) :=
 aN vI (fun x1=>[]) (dV a0 (0:Int)) fun x1=>
 JL 5 3 74<|
 bU (fun (x2:(List aL) × Int)=>[(0,vS a0),(5,so 0 aB x2.1),(6,vI x2.2)]) (fun (x2:(List aL) × Int)=>[tk x2.1.length 3 74]) (fun (x2:(List aL) × Int)=>
 aA vI ((a0.length:Int)) fun x3=>
 aA vB (decide (x2.2 < x3)) fun x4=>
 aG x4 (
 aA vI ((x2.1.length:Int)) fun x5=>
 aA vB (decide (x5=(65536:Int))) fun x6=>
 aG x6 (
 a8<|
 aH (x2.1,x2.2,(4:Int))) (
 gdM (0≤x2.2∧x2.2≤(a0.length:Int)∧(a0.length:Int)≤(a0.length:Int))<|
 aA vS ((a0.take (a0.length:Int).toNat).drop x2.2.toNat) fun x7=>
 aN (fun x8=>.tup [vI x8.1,vI x8.2]) (fun x8=>[tk x2.1.length 3 74]) (dA x7) fun x8=>
 aA vB (decide (x8.1=(0:Int))) fun x9=>
 aG x9 (
 a8<|
 aH (x2.1,x2.2,(1:Int))) (
 aA vB (decide (x8.1=(3:Int))) fun x10=>
 aG x10 (
 gdM (0≤x2.2∧x2.2≤(a0.length:Int)∧(a0.length:Int)≤(a0.length:Int))<|
 aA vS ((a0.take (a0.length:Int).toNat).drop x2.2.toNat) fun x11=>
 aN (fun x12=>.tup [vS x12.1,vI x12.2.1,vI x12.2.2]) (fun x12=>[tk x2.1.length 3 74]) (mX x11) fun x12=>
 aA vB (!decide (x12.2.2=(0:Int))) fun x13=>
 aG x13 (
 aA vI (wI (x2.2 + x12.2.1)) fun x14=>
 a8<|
 aH (x2.1,x14,x12.2.2)) (
 aA (sx aB) ([(⟨x8.1,x2.2,x12.1⟩:aL)]:(List aL)) fun x15=>
 gdM ((x2.1.length + x15.length) * 32≤140737488355328)<|
 eU (so 0 aB) (fun x16=>[tk x16.length 3 74]) (x2.1 ++ x15) fun x16=>
 aA vI (wI (x2.2 + x12.2.1)) fun x17=>
 aN vI (fun x18=>[tk x16.length 3 74]) (dV a0 x17) fun x18=>
 bE (x16,x18))) (
 aA vB (decide (x8.1=(1:Int))) fun x19=>
 aG x19 (
 gdM (0≤x2.2∧x2.2≤(a0.length:Int)∧(a0.length:Int)≤(a0.length:Int))<|
 aA vS ((a0.take (a0.length:Int).toNat).drop x2.2.toNat) fun x20=>
 aA vB (decide (x8.1=(2:Int))) fun x21=>
 aN vI (fun x22=>[tk x2.1.length 3 74]) (nK x20 x21) fun x22=>
 aA vI (wI (x2.2 + x22)) fun x23=>
 gdM (0≤x2.2∧x2.2≤x23∧x23≤(a0.length:Int))<|
 aA vS ((a0.take x23.toNat).drop x2.2.toNat) fun x24=>
 aA (sx aB) ([(⟨x8.1,x2.2,x24⟩:aL)]:(List aL)) fun x25=>
 gdM ((x2.1.length + x25.length) * 32≤140737488355328)<|
 eU (so 0 aB) (fun x26=>[tk x26.length 3 74]) (x2.1 ++ x25) fun x26=>
 aA vI (wI (x2.2 + x22)) fun x27=>
 aN vI (fun x28=>[tk x26.length 3 74]) (dV a0 x27) fun x28=>
 bE (x26,x28)) (
 aA vB (decide (x8.1=(2:Int))) fun x29=>
 aG x29 (
 gdM (0≤x2.2∧x2.2≤(a0.length:Int)∧(a0.length:Int)≤(a0.length:Int))<|
 aA vS ((a0.take (a0.length:Int).toNat).drop x2.2.toNat) fun x30=>
 aA vB (decide (x8.1=(2:Int))) fun x31=>
 aN vI (fun x32=>[tk x2.1.length 3 74]) (nK x30 x31) fun x32=>
 aA vI (wI (x2.2 + x32)) fun x33=>
 gdM (0≤x2.2∧x2.2≤x33∧x33≤(a0.length:Int))<|
 aA vS ((a0.take x33.toNat).drop x2.2.toNat) fun x34=>
 aA (sx aB) ([(⟨x8.1,x2.2,x34⟩:aL)]:(List aL)) fun x35=>
 gdM ((x2.1.length + x35.length) * 32≤140737488355328)<|
 eU (so 0 aB) (fun x36=>[tk x36.length 3 74]) (x2.1 ++ x35) fun x36=>
 aA vI (wI (x2.2 + x32)) fun x37=>
 aN vI (fun x38=>[tk x36.length 3 74]) (dV a0 x37) fun x38=>
 bE (x36,x38)) (
 aA vI (wI (x2.2 + x8.2)) fun x39=>
 gdM (0≤x2.2∧x2.2≤x39∧x39≤(a0.length:Int))<|
 aA vS ((a0.take x39.toNat).drop x2.2.toNat) fun x40=>
 aA (sx aB) ([(⟨x8.1,x2.2,x40⟩:aL)]:(List aL)) fun x41=>
 gdM ((x2.1.length + x41.length) * 32≤140737488355328)<|
 eU (so 0 aB) (fun x42=>[tk x42.length 3 74]) (x2.1 ++ x41) fun x42=>
 aA vI (wI (x2.2 + x8.2)) fun x43=>
 aN vI (fun x44=>[tk x42.length 3 74]) (dV a0 x43) fun x44=>
 bE (x42,x44))))))) (
 a8<|
 aA vI ((a0.length:Int)) fun x45=>
 aH (x2.1,x45,(0:Int)))) (([]:List aL),x1)
def mU (a0:Int) (a1:Str) (a2:(List aL)) (a3:Int) (a4:(List aI)):Option (Bool) :=
 aA vI ((a2.length:Int)) fun x1=>
 aA vB (decide (a3 < x1)) fun x2=>
 aG x2 (
 bS a2 a3 fun x3=>
 aA vB (decide (x3.K=a0)) fun x4=>
 aG x4 (
 aA vB (decide (x3.S=a1)) fun x5=>
 aH x5) (
 aH false)) (
 aH false)
def gZ (a0:Int) (a1:Str) (a2:(List aL)) (a3:Int) (a4:(List aI)):Option (Bool × Int) :=
 bJ [0] [.box [sl aB a2,vI a3,sl aC a4]] (fun x1=>vB x1) (fun x1=>[.box [sl aB a2,vI a3,sl aC a4]]) (mU a0 a1 a2 a3 a4) fun x1=>
 aG x1 (
 aA vI (wI (a3 + (1:Int))) fun x2=>
 aH (true,x2)) (
 aH (false,a3))
def iZ (a0:(List aL)) (a1:Int) (a2:(List aI)):Option (Except Flt (Unit)) :=
 aA vI ((a0.length:Int)) fun x1=>
 aA vB (decide (x1≤a1)) fun x2=>
 aG x2 (
 kB<|
 cO (a1,(3:Int))) (
 kB<|
 cO (a1,(1:Int)))
def g9 (a0:Int) (a1:Str) (a2:(List aL)) (a3:Int) (a4:(List aI)):Option (Except Flt (Int)) :=
 bJ [0] [.box [sl aB a2,vI a3,sl aC a4]] (fun x1=>vB x1.1) (fun x1=>[.box [sl aB a2,vI x1.2,sl aC a4]]) (gZ a0 a1 a2 a3 a4) fun x1=>
 aA vB (!x1.1) fun x2=>
 aG x2 (
 eP [0] [.box [sl aB a2,vI x1.2,sl aC a4]] (fun x3=>.tup []) (fun x3=>[.box [sl aB a2,vI x1.2,sl aC a4]]) (iZ a2 x1.2 a4) (fun x4=>
 cO x4) fun x3=>
 okM x1.2) (
 okM x1.2)
def lN (a0:Int) (a1:(List aL)) (a2:Int) (a3:(List aI)):Option (Except Flt (Str × Int)) :=
 aA vI ((a1.length:Int)) fun x1=>
 aA vB (decide (x1≤a2)) fun x2=>
 aG x2 (
 eP [0] [.box [sl aB a1,vI a2,sl aC a3]] (fun x3=>.tup []) (fun x3=>[.box [sl aB a1,vI a2,sl aC a3]]) (iZ a1 a2 a3) (fun x4=>
 cO x4) fun x3=>
 aA vI (wI (a2 + (1:Int))) fun x5=>
 aA vI (wI (x5 - (1:Int))) fun x6=>
 bS a1 x6 fun x7=>
 okM (x7.S,x5)) (
 bS a1 a2 fun x8=>
 aA vB (!decide (x8.K=a0)) fun x9=>
 aG x9 (
 eP [0] [.box [sl aB a1,vI a2,sl aC a3]] (fun x10=>.tup []) (fun x10=>[.box [sl aB a1,vI a2,sl aC a3]]) (iZ a1 a2 a3) (fun x11=>
 cO x11) fun x10=>
 aA vI (wI (a2 + (1:Int))) fun x12=>
 aA vI (wI (x12 - (1:Int))) fun x13=>
 bS a1 x13 fun x14=>
 okM (x14.S,x12)) (
 aA vI (wI (a2 + (1:Int))) fun x15=>
 aA vI (wI (x15 - (1:Int))) fun x16=>
 bS a1 x16 fun x17=>
 okM (x17.S,x15)))
def fG (a0:Str):Option (Bool) :=
 aA vI ((a0.length:Int)) fun x1=>
 aA vB (decide (x1 < (1:Int))) fun x2=>
 aA vI ((a0.length:Int)) fun x3=>
 aA vB (decide ((64:Int) < x3)) fun x4=>
 aA vB (bif x2 then true else x4) fun x5=>
 aG x5 (
 aH false) (
 bU (fun (x6:Int)=>[(0,vS a0),(3,vI x6)]) (fun (x6:Int)=>[]) (fun (x6:Int)=>
 aA vI ((a0.length:Int)) fun x7=>
 aA vB (decide (x6 < x7)) fun x8=>
 aG x8 (
 bS a0 x6 fun x9=>
 aA vB (decide ((97:Int)≤(x9.toNat:Int))) fun x10=>
 aA vB (decide ((x9.toNat:Int)≤(122:Int))) fun x11=>
 aA vB (bif x10 then x11 else false) fun x12=>
 aA vB (decide ((65:Int)≤(x9.toNat:Int))) fun x13=>
 aA vB (decide ((x9.toNat:Int)≤(90:Int))) fun x14=>
 aA vB (bif x13 then x14 else false) fun x15=>
 aA vB (bif x12 then true else x15) fun x16=>
 aA vB (decide ((x9.toNat:Int)=(95:Int))) fun x17=>
 aA vB (bif x16 then true else x17) fun x18=>
 aA vB (decide ((48:Int)≤(x9.toNat:Int))) fun x19=>
 aA vB (decide ((x9.toNat:Int)≤(57:Int))) fun x20=>
 aA vB (bif x19 then x20 else false) fun x21=>
 aA vB (!x18) fun x22=>
 aA vB (!x21) fun x23=>
 aA vB (decide (x6=(0:Int))) fun x24=>
 aA vB (bif x23 then true else x24) fun x25=>
 aA vB (bif x22 then x25 else false) fun x26=>
 aG x26 (
 a8<|
 aH false) (
 aA vI (wI (x6 + (1:Int))) fun x27=>
 bE x27)) (
 a8<|
 aH true)) (0:Int))
def jZ (a0:(List aI)) (a1:Str):Option (Bool) :=
 aA vI ((a0.length:Int)) fun x1=>
 bU (fun (x2:Int)=>[(1,vS a1),(7,sl aC a0),(8,vI x1),(9,vI x2)]) (fun (x2:Int)=>[]) (fun (x2:Int)=>
 aA vB (decide (x2 < x1)) fun x3=>
 aG x3 (
 bS a0 x2 fun x4=>
 aA vB (decide (x4.Name=a1)) fun x5=>
 aG x5 (
 a8<|
 aH true) (
 aA vI (wI (x2 + (1:Int))) fun x6=>
 bE x6)) (
 a8<|
 aH false)) (0:Int)
def uT (a0:Str):Option (Int × Int) :=
 bU (fun (x1:Int × Int)=>[(0,vS a0),(4,vI x1.1),(5,vI x1.2)]) (fun (x1:Int × Int)=>[]) (fun (x1:Int × Int)=>
 aA vI ((a0.length:Int)) fun x2=>
 aA vB (decide (x1.2 < x2)) fun x3=>
 aG x3 (
 bS a0 x1.2 fun x4=>
 aA vB (decide ((48:Int)≤(x4.toNat:Int))) fun x5=>
 aG x5 (
 aA vB (decide ((x4.toNat:Int)≤(57:Int))) fun x6=>
 aG x6 (
 aA vI (wI (x1.1 * (10:Int))) fun x7=>
 aA (vK .u8) (IntKind.u8.wrap ((x4.toNat:Int) - (48:Int))) fun x8=>
 aA vI (wI x8) fun x9=>
 aA vI (wI (x7 + x9)) fun x10=>
 aA vI (min x10 (9007199254740993:Int)) fun x11=>
 aA vI (wI (x1.2 + (1:Int))) fun x12=>
 bE (x11,x12)) (
 a8<|
 aH (x1.1,x1.2))) (
 a8<|
 aH (x1.1,x1.2))) (
 a8<|
 aH (x1.1,x1.2))) ((0:Int),(0:Int))
def fM (a0:Str) (a1:Str):Option (Bool) :=
 aA vI ((a0.length:Int)) fun x1=>
 aA vI ((a1.length:Int)) fun x2=>
 aA vB (decide (x2≤x1)) fun x3=>
 aA vI ((a1.length:Int)) fun x4=>
 aG x3 (
 gdM (0≤(0:Int)∧(0:Int)≤x4∧x4≤(a0.length:Int))<|
 aA vS ((a0.take x4.toNat).drop (0:Int).toNat) fun x5=>
 aA vB (decide (x5=a1)) fun x6=>
 aH x6) (
 aH false)
def iO (a0:Str) (a1:Str):Option (Bool) :=
 aN vB (fun x1=>[]) (fM a0 a1) fun x1=>
 aH x1
def w8 (a0:Int) (a1:Int) (a2:Int):Option (Int) :=
 aA vB (decide ((9007199254740992:Int) < a0)) fun x1=>
 aA vI (wI ((9007199254740992:Int) - a0)) fun x2=>
 aG x1 (
 aH (9007199254740993:Int)) (
 gdM (a2 ≠ 0)<|
 aA vI (wI (Int.tdiv x2 a2)) fun x3=>
 aA vB (decide (x3 < a1)) fun x4=>
 aG x4 (
 aH (9007199254740993:Int)) (
 aA vI (wI (a1 * a2)) fun x5=>
 aA vI (wI (a0 + x5)) fun x6=>
 aH x6))
def nC (a0:Int):Option (Bool) :=
 aA vB (decide ((0:Int)≤a0)) fun x1=>
 aA vB (decide (a0≤(9007199254740992:Int))) fun x2=>
 aA vB (bif x1 then x2 else false) fun x3=>
 aH x3
def mP (a0:Str):Option (Int × Int) :=
 bU (fun (x1:Str × Int × Int × Bool)=>[(0,vS x1.1),(4,vI x1.2.1),(5,vI x1.2.2.1),(6,vB x1.2.2.2)]) (fun (x1:Str × Int × Int × Bool)=>[]) (fun (x1:Str × Int × Int × Bool)=>
 aA vB (!decide (x1.1=([]:Str))) fun x2=>
 aA vB (bif x1.2.2.2 then true else x2) fun x3=>
 aG x3 (
 aN (fun x4=>.tup [vI x4.1,vI x4.2]) (fun x4=>[]) (uT x1.1) fun x4=>
 aA vB (decide (x4.2=(0:Int))) fun x5=>
 aG x5 (
 a8<|
 aH ((0:Int),(1:Int))) (
 gdM (0≤x4.2∧x4.2≤(x1.1.length:Int)∧(x1.1.length:Int)≤(x1.1.length:Int))<|
 aA vS ((x1.1.take (x1.1.length:Int).toNat).drop x4.2.toNat) fun x6=>
 bU (fun (x7:Int)=>[(4,vI x1.2.1),(5,vI x1.2.2.1),(7,vI x4.1),(9,vS x6),(27,.agg ((gl0.map BB).flatten.map .ofD)),(28,vI x7)]) (fun (x7:Int)=>[]) (fun (x7:Int)=>
 aA vB (decide (x7 < (5:Int))) fun x8=>
 aG x8 (
 bS gl0 x7 fun x9=>
 aA vB (decide (x7 < x1.2.2.1)) fun x10=>
 aG x10 (
 aA vI (wI (x7 + (1:Int))) fun x11=>
 bE x11) (
 aN vB (fun x12=>[.box [vS x9.letters,vI x9.size]]) (iO x6 x9.letters) fun x12=>
 aA vB (!x12) fun x13=>
 aG x13 (
 aA vI (wI (x7 + (1:Int))) fun x14=>
 bE x14) (
 aA vB (decide (x9.letters=([109]:Str))) fun x15=>
 aG x15 (
 aN vB (fun x16=>[.box [vS x9.letters,vI x9.size]]) (iO x6 ([109,115]:Str)) fun x16=>
 aG x16 (
 aA vI (wI (x7 + (1:Int))) fun x17=>
 bE x17) (
 aN vI (fun x18=>[.box [vS x9.letters,vI x9.size]]) (w8 x1.2.1 x4.1 x9.size) fun x18=>
 aA vI ((x9.letters.length:Int)) fun x19=>
 gdM (0≤x19∧x19≤(x6.length:Int)∧(x6.length:Int)≤(x6.length:Int))<|
 aA vS ((x6.take (x6.length:Int).toNat).drop x19.toNat) fun x20=>
 aA vI (wI (x7 + (1:Int))) fun x21=>
 a8<|
 bE (x20,x18,x21,false))) (
 aN vI (fun x22=>[.box [vS x9.letters,vI x9.size]]) (w8 x1.2.1 x4.1 x9.size) fun x22=>
 aA vI ((x9.letters.length:Int)) fun x23=>
 gdM (0≤x23∧x23≤(x6.length:Int)∧(x6.length:Int)≤(x6.length:Int))<|
 aA vS ((x6.take (x6.length:Int).toNat).drop x23.toNat) fun x24=>
 aA vI (wI (x7 + (1:Int))) fun x25=>
 a8<|
 bE (x24,x22,x25,false))))) (
 a8<|
 a8<|
 aH ((0:Int),(1:Int)))) (0:Int))) (
 a8<|
 aN vB (fun x26=>[]) (nC x1.2.1) fun x26=>
 aA vB (!x26) fun x27=>
 aG x27 (
 aH ((0:Int),(2:Int))) (
 aH (x1.2.1,(0:Int))))) (a0,(0:Int),(0:Int),true)
def jD (a0:(List aL)) (a1:Int) (a2:(List aI)):Option (Except Flt (Int × Int)) :=
 eP [0] [.box [sl aB a0,vI a1,sl aC a2]] (fun x1=>vS x1.1) (fun x1=>[.box [sl aB a0,vI x1.2,sl aC a2]]) (lN (2:Int) a0 a1 a2) (fun x2=>
 cO x2) fun x1=>
 aN (fun x3=>.tup [vI x3.1,vI x3.2]) (fun x3=>[.box [sl aB a0,vI x1.2,sl aC a2]]) (mP x1.1) fun x3=>
 aA vB (!decide (x3.2=(0:Int))) fun x4=>
 aG x4 (
 aA vI (wI (x1.2 - (1:Int))) fun x5=>
 kB<|
 cO (x5,x3.2)) (
 okM (x3.1,x1.2))
def dR (a0:Int) (a1:aX):Option (Bool) :=
 aA vI ((a1.l.length:Int)) fun x1=>
 aA vB (decide (a1.i < x1)) fun x2=>
 aG x2 (
 bS a1.l a1.i fun x3=>
 aA vB (decide (x3.K=a0)) fun x4=>
 aH x4) (
 aH false)
def gW (a0:Int) (a1:Str) (a2:aX):Option (Bool) :=
 jF<|
 bJ [0] [.box [sl aB a2.l,vI a2.i,vS a2.r.Name,vS a2.r.E.S.Name,sl aF a2.r.E.S.M,vI a2.r.E.Op,vI a2.r.E.V,vI a2.r.For,vI a2.r.Keep,sl aJ a2.r.Labels]] (fun x1=>vB x1) (fun x1=>[.box [sl aB a2.l,vI a2.i,vS a2.r.Name,vS a2.r.E.S.Name,sl aF a2.r.E.S.M,vI a2.r.E.Op,vI a2.r.E.V,vI a2.r.For,vI a2.r.Keep,sl aJ a2.r.Labels]]) (dR a0 a2) fun x1=>
 aG x1 (
 bS a2.l a2.i fun x2=>
 aA vB (decide (x2.S=a1)) fun x3=>
 aH x3) (
 aH false)
def cR (a0:Int) (a1:Str) (a2:aX):Option (Bool × aX) :=
 bJ [0] [.box [sl aB a2.l,vI a2.i,vS a2.r.Name,vS a2.r.E.S.Name,sl aF a2.r.E.S.M,vI a2.r.E.Op,vI a2.r.E.V,vI a2.r.For,vI a2.r.Keep,sl aJ a2.r.Labels]] (fun x1=>vB x1) (fun x1=>[.box [sl aB a2.l,vI a2.i,vS a2.r.Name,vS a2.r.E.S.Name,sl aF a2.r.E.S.M,vI a2.r.E.Op,vI a2.r.E.V,vI a2.r.For,vI a2.r.Keep,sl aJ a2.r.Labels]]) (gW a0 a1 a2) fun x1=>
 aG x1 (
 aA vI (wI (a2.i + (1:Int))) fun x2=>
 aH (true,(⟨a2.l,x2,a2.r⟩:aX))) (
 aH (false,a2))
def cF (a0:aX):Option (Int) :=
 aA vI ((a0.l.length:Int)) fun x1=>
 aA vB (decide (x1≤a0.i)) fun x2=>
 aG x2 (
 aH (3:Int)) (
 aH (1:Int))
def rC (a0:(List aL)) (a1:Int) (a2:Str):Option (Bool) :=
 aA vI ((a0.length:Int)) fun x1=>
 aA vB (decide (a1 < x1)) fun x2=>
 aG x2 (
 bS a0 a1 fun x3=>
 aA vB (decide (x3.K=(4:Int))) fun x4=>
 aG x4 (
 aA vB (decide (x3.S=a2)) fun x5=>
 aH x5) (
 aH false)) (
 aH false)
def fJ (a0:Int) (a1:b9):Option (Bool) :=
 aA vI ((a1.l.length:Int)) fun x1=>
 aA vB (decide (a1.i < x1)) fun x2=>
 aG x2 (
 bS a1.l a1.i fun x3=>
 aA vB (decide (x3.K=a0)) fun x4=>
 aH x4) (
 aH false)
def dU (a0:b9):Option (Int) :=
 aA vI ((a0.l.length:Int)) fun x1=>
 aA vB (decide (x1≤a0.i)) fun x2=>
 aG x2 (
 aH (3:Int)) (
 aH (1:Int))
def iT (a0:b9):Option (Str × Int × b9) :=
 bJ [0] [.box [sl aB a0.l,vI a0.i]] (fun x1=>vB x1) (fun x1=>[.box [sl aB a0.l,vI a0.i]]) (fJ (1:Int) a0) fun x1=>
 aA vB (!x1) fun x2=>
 aG x2 (
 bJ [0] [.box [sl aB a0.l,vI a0.i]] (fun x3=>vI x3) (fun x3=>[.box [sl aB a0.l,vI a0.i]]) (dU a0) fun x3=>
 aH (([]:Str),x3,a0)) (
 bS a0.l a0.i fun x4=>
 aN vB (fun x5=>[.box [sl aB a0.l,vI a0.i]]) (fG x4.S) fun x5=>
 aA vB (!x5) fun x6=>
 aG x6 (
 aH (([]:Str),(7:Int),a0)) (
 aA vI (wI (a0.i + (1:Int))) fun x7=>
 aH (x4.S,(0:Int),(⟨a0.l,x7⟩:b9))))
def d5 (a0:Str) (a1:b9):Option (Bool × b9) :=
 jF<|
 bJ [0] [.box [sl aB a1.l,vI a1.i]] (fun x1=>vB x1) (fun x1=>[.box [sl aB a1.l,vI a1.i]]) (fJ (4:Int) a1) fun x1=>
 aA vB (!x1) fun x2=>
 aG x2 (
 aH (false,a1)) (
 bS a1.l a1.i fun x3=>
 aA vB (!decide (x3.S=a0)) fun x4=>
 aG x4 (
 aH (false,a1)) (
 aA vI (wI (a1.i + (1:Int))) fun x5=>
 aH (true,(⟨a1.l,x5⟩:b9))))
def jL (a0:Int) (a1:b9):Option (bI × Int × b9) :=
 bJ [0] [.box [sl aB a1.l,vI a1.i],.box [vS ([]:Str),vS ([]:Str),vB false]] (fun x1=>.tup [vS x1.1,vI x1.2.1]) (fun x1=>[.box [sl aB x1.2.2.l,vI x1.2.2.i],.box [vS ([]:Str),vS ([]:Str),vB false]]) (iT a1) fun x1=>
 aA vB (!decide (x1.2.1=(0:Int))) fun x2=>
 aG x2 (
 aH ((⟨([]:Str),([]:Str),false⟩:bI),x1.2.1,x1.2.2)) (
 bJ [0] [.box [sl aB x1.2.2.l,vI x1.2.2.i],.box [vS ([]:Str),vS ([]:Str),vB false]] (fun x3=>vB x3.1) (fun x3=>[.box [sl aB x3.2.l,vI x3.2.i],.box [vS ([]:Str),vS ([]:Str),vB false]]) (d5 ([33,61]:Str) x1.2.2) fun x3=>
 aA vB (!x3.1) fun x4=>
 aG x4 (
 bJ [0] [.box [sl aB x3.2.l,vI x3.2.i],.box [vS ([]:Str),vS ([]:Str),vB false]] (fun x5=>vB x5.1) (fun x5=>[.box [sl aB x5.2.l,vI x5.2.i],.box [vS ([]:Str),vS ([]:Str),vB false]]) (d5 ([61]:Str) x3.2) fun x5=>
 aA vB (!x5.1) fun x6=>
 aG x6 (
 bJ [0] [.box [sl aB x5.2.l,vI x5.2.i],.box [vS ([]:Str),vS ([]:Str),vB false]] (fun x7=>vI x7) (fun x7=>[.box [sl aB x5.2.l,vI x5.2.i],.box [vS ([]:Str),vS ([]:Str),vB false]]) (dU x5.2) fun x7=>
 aH ((⟨([]:Str),([]:Str),false⟩:bI),x7,x5.2)) (
 bJ [0] [.box [sl aB x5.2.l,vI x5.2.i],.box [vS ([]:Str),vS ([]:Str),vB false]] (fun x8=>vB x8) (fun x8=>[.box [sl aB x5.2.l,vI x5.2.i],.box [vS ([]:Str),vS ([]:Str),vB false]]) (fJ (3:Int) x5.2) fun x8=>
 aA vB (!x8) fun x9=>
 aG x9 (
 bJ [0] [.box [sl aB x5.2.l,vI x5.2.i],.box [vS ([]:Str),vS ([]:Str),vB false]] (fun x10=>vI x10) (fun x10=>[.box [sl aB x5.2.l,vI x5.2.i],.box [vS ([]:Str),vS ([]:Str),vB false]]) (dU x5.2) fun x10=>
 aH ((⟨([]:Str),([]:Str),false⟩:bI),x10,x5.2)) (
 bS x5.2.l x5.2.i fun x11=>
 aA vI ((x11.S.length:Int)) fun x12=>
 aA vB (decide ((64:Int) < x12)) fun x13=>
 aA vB (decide ((8:Int)≤a0)) fun x14=>
 aA vB (bif x13 then true else x14) fun x15=>
 aG x15 (
 aH ((⟨([]:Str),([]:Str),false⟩:bI),(4:Int),x5.2)) (
 aA vI (wI (x5.2.i + (1:Int))) fun x16=>
 aH ((⟨x1.1,x11.S,x3.1⟩:bI),(0:Int),(⟨x5.2.l,x16⟩:b9)))))) (
 bJ [0] [.box [sl aB x3.2.l,vI x3.2.i],.box [vS ([]:Str),vS ([]:Str),vB false]] (fun x17=>vB x17) (fun x17=>[.box [sl aB x3.2.l,vI x3.2.i],.box [vS ([]:Str),vS ([]:Str),vB false]]) (fJ (3:Int) x3.2) fun x17=>
 aA vB (!x17) fun x18=>
 aG x18 (
 bJ [0] [.box [sl aB x3.2.l,vI x3.2.i],.box [vS ([]:Str),vS ([]:Str),vB false]] (fun x19=>vI x19) (fun x19=>[.box [sl aB x3.2.l,vI x3.2.i],.box [vS ([]:Str),vS ([]:Str),vB false]]) (dU x3.2) fun x19=>
 aH ((⟨([]:Str),([]:Str),false⟩:bI),x19,x3.2)) (
 bS x3.2.l x3.2.i fun x20=>
 aA vI ((x20.S.length:Int)) fun x21=>
 aA vB (decide ((64:Int) < x21)) fun x22=>
 aA vB (decide ((8:Int)≤a0)) fun x23=>
 aA vB (bif x22 then true else x23) fun x24=>
 aG x24 (
 aH ((⟨([]:Str),([]:Str),false⟩:bI),(4:Int),x3.2)) (
 aA vI (wI (x3.2.i + (1:Int))) fun x25=>
 aH ((⟨x1.1,x20.S,x3.1⟩:bI),(0:Int),(⟨x3.2.l,x25⟩:b9))))))
def kR (a0:b9):Option (cN × Int × b9) :=
 bJ [0] [.box [sl aB a0.l,vI a0.i],.box [vS ([]:Str),.v (.slice none 0 0)]] (fun x1=>.tup [vS x1.1,vI x1.2.1]) (fun x1=>[.box [sl aB x1.2.2.l,vI x1.2.2.i],.box [vS ([]:Str),.v (.slice none 0 0)]]) (iT a0) fun x1=>
 aA vB (!decide (x1.2.1=(0:Int))) fun x2=>
 aG x2 (
 aH ((⟨([]:Str),([]:(List bI))⟩:cN),x1.2.1,x1.2.2)) (
 bJ [0] [.box [sl aB x1.2.2.l,vI x1.2.2.i],.box [vS ([]:Str),.v (.slice none 0 0)],.box [vS x1.1,.v (.slice none 0 0)]] (fun x3=>vB x3.1) (fun x3=>[.box [sl aB x3.2.l,vI x3.2.i],.box [vS ([]:Str),.v (.slice none 0 0)],.box [vS x1.1,.v (.slice none 0 0)]]) (d5 ([123]:Str) x1.2.2) fun x3=>
 aA vB (!x3.1) fun x4=>
 aG x4 (
 aH ((⟨x1.1,([]:(List bI))⟩:cN),(0:Int),x3.2)) (
 bJ [0] [.box [sl aB x3.2.l,vI x3.2.i],.box [vS ([]:Str),.v (.slice none 0 0)],.box [vS x1.1,.v (.slice none 0 0)]] (fun x5=>vB x5.1) (fun x5=>[.box [sl aB x5.2.l,vI x5.2.i],.box [vS ([]:Str),.v (.slice none 0 0)],.box [vS x1.1,.v (.slice none 0 0)]]) (d5 ([125]:Str) x3.2) fun x5=>
 aG x5.1 (
 aH ((⟨x1.1,([]:(List bI))⟩:cN),(0:Int),x5.2)) (
 tokB 2 1 3 117<|
 bU (fun (x6:(List aL) × Int × (List bI))=>[(0,.ptr 0 0),(2,.ptr 1 0),(6,.ptr 2 0),(7,.fn 165 [.ptr 0 0] [])]) (fun (x6:(List aL) × Int × (List bI))=>[.box [sl aB x6.1,vI x6.2.1],.box [vS ([]:Str),.v (.slice none 0 0)],.box [vS x1.1,so 3 aF x6.2.2],tk x6.2.2.length 3 117]) (fun (x6:(List aL) × Int × (List bI))=>
 aA vI ((x6.2.2.length:Int)) fun x7=>
 bJ [0] [.box [sl aB x6.1,vI x6.2.1],.box [vS ([]:Str),.v (.slice none 0 0)],.box [vS x1.1,so 3 aF x6.2.2],tk x6.2.2.length 3 117] (fun x8=>.tup [(ag aF) x8.1,vI x8.2.1]) (fun x8=>[.box [sl aB x8.2.2.l,vI x8.2.2.i],.box [vS ([]:Str),.v (.slice none 0 0)],.box [vS x1.1,so 3 aF x6.2.2],tk x6.2.2.length 3 117]) (jL x7 (⟨x6.1,x6.2.1⟩:b9)) fun x8=>
 aA vB (!decide (x8.2.1=(0:Int))) fun x9=>
 aG x9 (
 a8<|
 aH ((⟨([]:Str),([]:(List bI))⟩:cN),x8.2.1,x8.2.2)) (
 aA (sx aF) ([x8.1]:(List bI)) fun x10=>
 gdM ((x6.2.2.length + x10.length) * 40≤140737488355328)<|
 eU (so 3 aF) (fun x11=>[.box [sl aB x8.2.2.l,vI x8.2.2.i],.box [vS ([]:Str),.v (.slice none 0 0)],.box [vS x1.1,so 3 aF x6.2.2],tk x11.length 3 117,.box [vS x8.1.Name,vS x8.1.Value,vB x8.1.Not]]) (x6.2.2 ++ x10) fun x11=>
 bJ [0] [.box [sl aB x8.2.2.l,vI x8.2.2.i],.box [vS ([]:Str),.v (.slice none 0 0)],.box [vS x1.1,so 3 aF x11],tk x11.length 3 117,.box [vS x8.1.Name,vS x8.1.Value,vB x8.1.Not]] (fun x12=>vB x12.1) (fun x12=>[.box [sl aB x12.2.l,vI x12.2.i],.box [vS ([]:Str),.v (.slice none 0 0)],.box [vS x1.1,so 3 aF x11],tk x11.length 3 117,.box [vS x8.1.Name,vS x8.1.Value,vB x8.1.Not]]) (d5 ([125]:Str) x8.2.2) fun x12=>
 aG x12.1 (
 a8<|
 aH ((⟨x1.1,x11⟩:cN),(0:Int),x12.2)) (
 bJ [0] [.box [sl aB x12.2.l,vI x12.2.i],.box [vS ([]:Str),.v (.slice none 0 0)],.box [vS x1.1,so 3 aF x11],tk x11.length 3 117,.box [vS x8.1.Name,vS x8.1.Value,vB x8.1.Not]] (fun x13=>vB x13.1) (fun x13=>[.box [sl aB x13.2.l,vI x13.2.i],.box [vS ([]:Str),.v (.slice none 0 0)],.box [vS x1.1,so 3 aF x11],tk x11.length 3 117,.box [vS x8.1.Name,vS x8.1.Value,vB x8.1.Not]]) (d5 ([44]:Str) x12.2) fun x13=>
 aA vB (!x13.1) fun x14=>
 aG x14 (
 bJ [0] [.box [sl aB x13.2.l,vI x13.2.i],.box [vS ([]:Str),.v (.slice none 0 0)],.box [vS x1.1,so 3 aF x11],tk x11.length 3 117,.box [vS x8.1.Name,vS x8.1.Value,vB x8.1.Not]] (fun x15=>vI x15) (fun x15=>[.box [sl aB x13.2.l,vI x13.2.i],.box [vS ([]:Str),.v (.slice none 0 0)],.box [vS x1.1,so 3 aF x11],tk x11.length 3 117,.box [vS x8.1.Name,vS x8.1.Value,vB x8.1.Not]]) (dU x13.2) fun x15=>
 a8<|
 aH ((⟨([]:Str),([]:(List bI))⟩:cN),x15,x13.2)) (
 bE (x13.2.l,x13.2.i,x11))))) (x5.2.l,x5.2.i,([]:List bI)))))
def uZ (a0:(List aL)) (a1:Int):Option (cN × Int × Int) :=
 aA vB (decide (a1 < (0:Int))) fun x1=>
 aG x1 (
 aH ((⟨([]:Str),([]:(List bI))⟩:cN),(0:Int),(3:Int))) (
 aA vI ((a0.length:Int)) fun x2=>
 aA vI (min a1 x2) fun x3=>
 bJ [1] [.box [vS ([]:Str),.v (.slice none 0 0)],.box [sl aB a0,vI x3]] (fun x4=>.tup [(ag qH) x4.1,vI x4.2.1]) (fun x4=>[.box [vS ([]:Str),.v (.slice none 0 0)],.box [sl aB x4.2.2.l,vI x4.2.2.i]]) (kR (⟨a0,x3⟩:b9)) fun x4=>
 r7 [0] [0] [(false,0),(false,1),(false,2),(false,3),(false,4),(false,5),(true,6),(false,7),(false,8)]<|
 aH (x4.1,x4.2.2.i,x4.2.1))
def oL (a0:Int):Option (Bool) :=
 aA vB (decide ((1:Int)≤a0)) fun x1=>
 aA vB (decide (a0≤(6:Int))) fun x2=>
 aA vB (bif x1 then x2 else false) fun x3=>
 aH x3
def kC (a0:(List aL)) (a1:Int):Option (Int) :=
 aA vI ((a0.length:Int)) fun x1=>
 aA vB (decide (x1≤a1)) fun x2=>
 aG x2 (
 aH (3:Int)) (
 aH (1:Int))
def jT (a0:Str) (a1:Str):Option (Str × Bool) :=
 aN vB (fun x1=>[]) (fM a0 a1) fun x1=>
 aA vB (!x1) fun x2=>
 aG x2 (
 aH (a0,false)) (
 aA vI ((a1.length:Int)) fun x3=>
 gdM (0≤x3∧x3≤(a0.length:Int)∧(a0.length:Int)≤(a0.length:Int))<|
 aA vS ((a0.take (a0.length:Int).toNat).drop x3.toNat) fun x4=>
 aH (x4,true))
def j9 (a0:Str) (a1:Str):Option (Str × Bool) :=
 aN (fun x1=>.tup [vS x1.1,vB x1.2]) (fun x1=>[]) (jT a0 a1) fun x1=>
 aH (x1.1,x1.2)
def qW (a0:Int) (a1:Int):Option (Int) :=
 aA vI (wI (a0 * (10:Int))) fun x1=>
 aA vI (wI (x1 + a1)) fun x2=>
 aA vI (min x2 (9007199254740993:Int)) fun x3=>
 aH x3
def oC (a0:Int):Option (Bool) :=
 aA vB (decide ((-9007199254740992:Int)≤a0)) fun x1=>
 aA vB (decide (a0≤(9007199254740992:Int))) fun x2=>
 aA vB (bif x1 then x2 else false) fun x3=>
 aH x3
def uO (a0:Str):Option (Int × Int) :=
 aN (fun x1=>.tup [vS x1.1,vB x1.2]) (fun x1=>[]) (j9 a0 ([45]:Str)) fun x1=>
 bU (fun (x2:Nat × Int × Int × Int × Bool)=>[(5,vB x1.2),(6,vI x2.2.1),(7,vI x2.2.2.1),(8,vI x2.2.2.2.1),(9,vB x2.2.2.2.2),(18,.ptr 0 0)]) (fun (x2:Nat × Int × Int × Int × Bool)=>[.siter (bs x1.1) x2.1]) (fun (x2:Nat × Int × Int × Int × Bool)=>
 BX x1.1 x2.1 (fun x3 x4=>
 aA vB (decide (x3=(46:Int))) fun x5=>
 aA vB (!x2.2.2.2.2) fun x6=>
 aA vB (bif x5 then x6 else false) fun x7=>
 aA vB (decide ((0:Int) < x2.2.2.1)) fun x8=>
 aA vB (bif x7 then x8 else false) fun x9=>
 aG x9 (
 bE (x4,x2.2.1,x2.2.2.1,x2.2.2.2.1,true)) (
 aA vB (decide (x3 < (48:Int))) fun x10=>
 aA vB (decide ((57:Int) < x3)) fun x11=>
 aA vB (bif x10 then true else x11) fun x12=>
 aG x12 (
 a8<|
 aH ((0:Int),(1:Int))) (
 aA (vK .i32) (IntKind.i32.wrap (x3 - (48:Int))) fun x13=>
 aA vI (wI x13) fun x14=>
 aN vI (fun x15=>[.siter (bs x1.1) x4]) (qW x2.2.1 x14) fun x15=>
 aG x2.2.2.2.2 (
 aA vI (wI (x2.2.2.2.1 + (1:Int))) fun x16=>
 bE (x4,x15,x2.2.2.1,x16,true)) (
 aA vI (wI (x2.2.2.1 + (1:Int))) fun x17=>
 bE (x4,x15,x17,x2.2.2.2.1,false))))) (
 a8<|
 aA vB (decide (x2.2.2.1=(0:Int))) fun x18=>
 aA vB (decide ((3:Int) < x2.2.2.2.1)) fun x19=>
 aA vB (bif x18 then true else x19) fun x20=>
 aA vB (decide (x2.2.2.2.1=(0:Int))) fun x21=>
 aA vB (bif x2.2.2.2.2 then x21 else false) fun x22=>
 aA vB (bif x20 then true else x22) fun x23=>
 aG x23 (
 aH ((0:Int),(1:Int))) (
 aA vI (wI ((3:Int) - x2.2.2.2.1)) fun x24=>
 bU (fun (x25:Int × Int)=>[(5,vB x1.2),(6,vI x25.1),(64,vI x24),(65,vI x25.2)]) (fun (x25:Int × Int)=>[]) (fun (x25:Int × Int)=>
 aA vB (decide (x25.2 < x24)) fun x26=>
 aG x26 (
 aN vI (fun x27=>[]) (qW x25.1 (0:Int)) fun x27=>
 aA vI (wI (x25.2 + (1:Int))) fun x28=>
 bE (x27,x28)) (
 a8<|
 aN vB (fun x29=>[]) (oC x25.1) fun x29=>
 aA vB (!x29) fun x30=>
 aG x30 (
 aH ((0:Int),(2:Int))) (
 aG x1.2 (
 aA vI (wI (0 - x25.1)) fun x31=>
 aH (x31,(0:Int))) (
 aH (x25.1,(0:Int)))))) (x2.2.1,(0:Int))))) ((0:Nat),(0:Int),(0:Int),(0:Int),false)
def sG (a0:(List aL)) (a1:Int):Option (bX × Int × Int) :=
 aA vB (decide (a1 < (0:Int))) fun x1=>
 aG x1 (
 aH ((⟨(⟨([]:Str),([]:(List bI))⟩:cN),(0:Int),(0:Int)⟩:bX),(0:Int),(3:Int))) (
 bU (fun (x2:Int × Int)=>[(0,sl aB a0),(1,vI x2.1),(4,.ptr 0 0),(7,vI x2.2)]) (fun (x2:Int × Int)=>[.box [vS ([]:Str),.v (.slice none 0 0),vI (0:Int),vI (0:Int)]]) (fun (x2:Int × Int)=>
 aN vB (fun x3=>[.box [vS ([]:Str),.v (.slice none 0 0),vI (0:Int),vI (0:Int)]]) (rC a0 x2.1 ([40]:Str)) fun x3=>
 aG x3 (
 aA vB (decide (x2.2=(32:Int))) fun x4=>
 aG x4 (
 a8<|
 aH ((⟨(⟨([]:Str),([]:(List bI))⟩:cN),(0:Int),(0:Int)⟩:bX),x2.1,(8:Int))) (
 aA vI (wI (x2.2 + (1:Int))) fun x5=>
 aA vI (wI (x2.1 + (1:Int))) fun x6=>
 bE (x6,x5))) (
 a8<|
 aN (fun x7=>.tup [(ag qH) x7.1,vI x7.2.1,vI x7.2.2]) (fun x7=>[.box [vS ([]:Str),.v (.slice none 0 0),vI (0:Int),vI (0:Int)]]) (uZ a0 x2.1) fun x7=>
 aA vB (!decide (x7.2.2=(0:Int))) fun x8=>
 aG x8 (
 aH ((⟨(⟨([]:Str),([]:(List bI))⟩:cN),(0:Int),(0:Int)⟩:bX),x7.2.1,x7.2.2)) (
 bU (fun (x9:Int × Int)=>[(0,sl aB a0),(1,vI x7.2.1),(4,.ptr 0 0),(7,vI x2.2),(10,.ptr 2 0),(41,.agg ((gl1.map cS).flatten.map .ofD)),(42,vI x9.2)]) (fun (x9:Int × Int)=>[.box [vS ([]:Str),.v (.slice none 0 0),vI (0:Int),vI (0:Int)],.dead,.box [vS x7.1.Name,sl aF x7.1.M,vI x9.1,vI (0:Int)]]) (fun (x9:Int × Int)=>
 aA vB (decide (x9.2 < (7:Int))) fun x10=>
 aG x10 (
 bS gl1 x9.2 fun x11=>
 aN vB (fun x12=>[.box [vS ([]:Str),.v (.slice none 0 0),vI (0:Int),vI (0:Int)],.dead,.box [vS x7.1.Name,sl aF x7.1.M,vI x9.1,vI (0:Int)]]) (oL x9.2) fun x12=>
 aG x12 (
 aN vB (fun x13=>[.box [vS ([]:Str),.v (.slice none 0 0),vI (0:Int),vI (0:Int)],.dead,.box [vS x7.1.Name,sl aF x7.1.M,vI x9.1,vI (0:Int)]]) (rC a0 x7.2.1 x11) fun x13=>
 aG x13 (
 aA vI (wI (x9.2 + (1:Int))) fun x14=>
 bE (x9.2,x14)) (
 aA vI (wI (x9.2 + (1:Int))) fun x15=>
 bE (x9.1,x15))) (
 aA vI (wI (x9.2 + (1:Int))) fun x16=>
 bE (x9.1,x16))) (
 a8<|
 aA vB (decide (x9.1=(0:Int))) fun x17=>
 aG x17 (
 aN vI (fun x18=>[.box [vS ([]:Str),.v (.slice none 0 0),vI (0:Int),vI (0:Int)],.dead,.box [vS x7.1.Name,sl aF x7.1.M,vI x9.1,vI (0:Int)]]) (kC a0 x7.2.1) fun x18=>
 aH ((⟨(⟨([]:Str),([]:(List bI))⟩:cN),(0:Int),(0:Int)⟩:bX),x7.2.1,x18)) (
 aA vI (wI (x7.2.1 + (1:Int))) fun x19=>
 aA vI ((a0.length:Int)) fun x20=>
 aA vB (decide (x20≤x19)) fun x21=>
 aG x21 (
 aN vI (fun x22=>[.box [vS ([]:Str),.v (.slice none 0 0),vI (0:Int),vI (0:Int)],.dead,.box [vS x7.1.Name,sl aF x7.1.M,vI x9.1,vI (0:Int)]]) (kC a0 x19) fun x22=>
 aH ((⟨(⟨([]:Str),([]:(List bI))⟩:cN),(0:Int),(0:Int)⟩:bX),x19,x22)) (
 bS a0 x19 fun x23=>
 aA vB (!decide (x23.K=(2:Int))) fun x24=>
 aG x24 (
 aN vI (fun x25=>[.box [vS ([]:Str),.v (.slice none 0 0),vI (0:Int),vI (0:Int)],.dead,.box [vS x7.1.Name,sl aF x7.1.M,vI x9.1,vI (0:Int)]]) (kC a0 x19) fun x25=>
 aH ((⟨(⟨([]:Str),([]:(List bI))⟩:cN),(0:Int),(0:Int)⟩:bX),x19,x25)) (
 aN (fun x26=>.tup [vI x26.1,vI x26.2]) (fun x26=>[.box [vS ([]:Str),.v (.slice none 0 0),vI (0:Int),vI (0:Int)],.dead,.box [vS x7.1.Name,sl aF x7.1.M,vI x9.1,vI (0:Int)]]) (uO x23.S) fun x26=>
 aA vB (!decide (x26.2=(0:Int))) fun x27=>
 aG x27 (
 aH ((⟨(⟨([]:Str),([]:(List bI))⟩:cN),(0:Int),(0:Int)⟩:bX),x19,x26.2)) (
 aA vI (wI (x19 + (1:Int))) fun x28=>
 bU (fun (x29:Int × Int)=>[(0,sl aB a0),(1,vI x29.1),(4,.ptr 0 0),(10,.ptr 2 0),(101,vI x2.2),(102,vI x29.2)]) (fun (x29:Int × Int)=>[.box [vS ([]:Str),.v (.slice none 0 0),vI (0:Int),vI (0:Int)],.dead,.box [vS x7.1.Name,sl aF x7.1.M,vI x9.1,vI x26.1]]) (fun (x29:Int × Int)=>
 aA vB (decide (x29.2 < x2.2)) fun x30=>
 aG x30 (
 aN vB (fun x31=>[.box [vS ([]:Str),.v (.slice none 0 0),vI (0:Int),vI (0:Int)],.dead,.box [vS x7.1.Name,sl aF x7.1.M,vI x9.1,vI x26.1]]) (rC a0 x29.1 ([41]:Str)) fun x31=>
 aA vB (!x31) fun x32=>
 aG x32 (
 aN vI (fun x33=>[.box [vS ([]:Str),.v (.slice none 0 0),vI (0:Int),vI (0:Int)],.dead,.box [vS x7.1.Name,sl aF x7.1.M,vI x9.1,vI x26.1]]) (kC a0 x29.1) fun x33=>
 a8<|
 aH ((⟨(⟨([]:Str),([]:(List bI))⟩:cN),(0:Int),(0:Int)⟩:bX),x29.1,x33)) (
 aA vI (wI (x29.1 + (1:Int))) fun x34=>
 aA vI (wI (x29.2 + (1:Int))) fun x35=>
 bE (x34,x35))) (
 a8<|
 aH ((⟨x7.1,x9.1,x26.1⟩:bX),x29.1,(0:Int)))) (x28,(0:Int)))))))) ((0:Int),(0:Int))))) (a1,(0:Int)))
def gO (a0:aX):Option (Int × aX) :=
 bJ [0] [.box [sl aB a0.l,vI a0.i,vS a0.r.Name,vS a0.r.E.S.Name,sl aF a0.r.E.S.M,vI a0.r.E.Op,vI a0.r.E.V,vI a0.r.For,vI a0.r.Keep,sl aJ a0.r.Labels]] (fun x1=>vB x1) (fun x1=>[.box [sl aB a0.l,vI a0.i,vS a0.r.Name,vS a0.r.E.S.Name,sl aF a0.r.E.S.M,vI a0.r.E.Op,vI a0.r.E.V,vI a0.r.For,vI a0.r.Keep,sl aJ a0.r.Labels]]) (dR (2:Int) a0) fun x1=>
 aA vB (!x1) fun x2=>
 aG x2 (
 bJ [0] [.box [sl aB a0.l,vI a0.i,vS a0.r.Name,vS a0.r.E.S.Name,sl aF a0.r.E.S.M,vI a0.r.E.Op,vI a0.r.E.V,vI a0.r.For,vI a0.r.Keep,sl aJ a0.r.Labels]] (fun x3=>vI x3) (fun x3=>[.box [sl aB a0.l,vI a0.i,vS a0.r.Name,vS a0.r.E.S.Name,sl aF a0.r.E.S.M,vI a0.r.E.Op,vI a0.r.E.V,vI a0.r.For,vI a0.r.Keep,sl aJ a0.r.Labels]]) (cF a0) fun x3=>
 aH (x3,a0)) (
 jF<|
 bS a0.l a0.i fun x4=>
 aN (fun x5=>.tup [vI x5.1,vI x5.2]) (fun x5=>[.box [sl aB a0.l,vI a0.i,vS a0.r.Name,vS a0.r.E.S.Name,sl aF a0.r.E.S.M,vI a0.r.E.Op,vI a0.r.E.V,vI a0.r.For,vI a0.r.Keep,sl aJ a0.r.Labels]]) (mP x4.S) fun x5=>
 aA vB (!decide (x5.2=(0:Int))) fun x6=>
 aG x6 (
 aH (x5.2,a0)) (
 aA vI (wI (a0.i + (1:Int))) fun x7=>
 aH ((0:Int),(⟨a0.l,x7,(⟨a0.r.Name,a0.r.E,x5.1,a0.r.Keep,a0.r.Labels⟩:aR)⟩:aX))))
def iE (a0:aX):Option (Int × aX) :=
 r7 [1] [0,4] [(false,0),(false,1),(false,2),(false,3),(false,4),(true,5),(false,6)]<|
 bJ [1] [.box [.ptr 1 0],.box [sl aB a0.l,vI a0.i,vS a0.r.Name,vS a0.r.E.S.Name,sl aF a0.r.E.S.M,vI a0.r.E.Op,vI a0.r.E.V,vI a0.r.For,vI a0.r.Keep,sl aJ a0.r.Labels]] (fun x1=>vI x1.1) (fun x1=>[.box [.ptr 1 0],.box [sl aB x1.2.l,vI x1.2.i,vS x1.2.r.Name,vS x1.2.r.E.S.Name,sl aF x1.2.r.E.S.M,vI x1.2.r.E.Op,vI x1.2.r.E.V,vI x1.2.r.For,vI x1.2.r.Keep,sl aJ x1.2.r.Labels]]) (gO a0) fun x1=>
 aH (x1.1,x1.2)
def gB (a0:aX):Option (Int × aX) :=
 bJ [0] [.box [sl aB a0.l,vI a0.i,vS a0.r.Name,vS a0.r.E.S.Name,sl aF a0.r.E.S.M,vI a0.r.E.Op,vI a0.r.E.V,vI a0.r.For,vI a0.r.Keep,sl aJ a0.r.Labels]] (fun x1=>vB x1) (fun x1=>[.box [sl aB a0.l,vI a0.i,vS a0.r.Name,vS a0.r.E.S.Name,sl aF a0.r.E.S.M,vI a0.r.E.Op,vI a0.r.E.V,vI a0.r.For,vI a0.r.Keep,sl aJ a0.r.Labels]]) (dR (2:Int) a0) fun x1=>
 aA vB (!x1) fun x2=>
 aG x2 (
 bJ [0] [.box [sl aB a0.l,vI a0.i,vS a0.r.Name,vS a0.r.E.S.Name,sl aF a0.r.E.S.M,vI a0.r.E.Op,vI a0.r.E.V,vI a0.r.For,vI a0.r.Keep,sl aJ a0.r.Labels]] (fun x3=>vI x3) (fun x3=>[.box [sl aB a0.l,vI a0.i,vS a0.r.Name,vS a0.r.E.S.Name,sl aF a0.r.E.S.M,vI a0.r.E.Op,vI a0.r.E.V,vI a0.r.For,vI a0.r.Keep,sl aJ a0.r.Labels]]) (cF a0) fun x3=>
 aH (x3,a0)) (
 jF<|
 bS a0.l a0.i fun x4=>
 aN (fun x5=>.tup [vI x5.1,vI x5.2]) (fun x5=>[.box [sl aB a0.l,vI a0.i,vS a0.r.Name,vS a0.r.E.S.Name,sl aF a0.r.E.S.M,vI a0.r.E.Op,vI a0.r.E.V,vI a0.r.For,vI a0.r.Keep,sl aJ a0.r.Labels]]) (mP x4.S) fun x5=>
 aA vB (!decide (x5.2=(0:Int))) fun x6=>
 aG x6 (
 aH (x5.2,a0)) (
 aA vI (wI (a0.i + (1:Int))) fun x7=>
 aH ((0:Int),(⟨a0.l,x7,(⟨a0.r.Name,a0.r.E,a0.r.For,x5.1,a0.r.Labels⟩:aR)⟩:aX))))
def iG (a0:aX):Option (Int × aX) :=
 r7 [1] [0,4] [(false,0),(false,1),(false,2),(false,3),(false,4),(true,5),(false,6)]<|
 bJ [1] [.box [.ptr 1 0],.box [sl aB a0.l,vI a0.i,vS a0.r.Name,vS a0.r.E.S.Name,sl aF a0.r.E.S.M,vI a0.r.E.Op,vI a0.r.E.V,vI a0.r.For,vI a0.r.Keep,sl aJ a0.r.Labels]] (fun x1=>vI x1.1) (fun x1=>[.box [.ptr 1 0],.box [sl aB x1.2.l,vI x1.2.i,vS x1.2.r.Name,vS x1.2.r.E.S.Name,sl aF x1.2.r.E.S.M,vI x1.2.r.E.Op,vI x1.2.r.E.V,vI x1.2.r.For,vI x1.2.r.Keep,sl aJ x1.2.r.Labels]]) (gB a0) fun x1=>
 aH (x1.1,x1.2)
def jK (a0:aX):Option (aQ × Int × aX) :=
 bJ [0] [.box [sl aB a0.l,vI a0.i,vS a0.r.Name,vS a0.r.E.S.Name,sl aF a0.r.E.S.M,vI a0.r.E.Op,vI a0.r.E.V,vI a0.r.For,vI a0.r.Keep,sl aJ a0.r.Labels],.box [vS ([]:Str),vS ([]:Str)]] (fun x1=>vB x1) (fun x1=>[.box [sl aB a0.l,vI a0.i,vS a0.r.Name,vS a0.r.E.S.Name,sl aF a0.r.E.S.M,vI a0.r.E.Op,vI a0.r.E.V,vI a0.r.For,vI a0.r.Keep,sl aJ a0.r.Labels],.box [vS ([]:Str),vS ([]:Str)]]) (dR (1:Int) a0) fun x1=>
 aA vB (!x1) fun x2=>
 aG x2 (
 bJ [0] [.box [sl aB a0.l,vI a0.i,vS a0.r.Name,vS a0.r.E.S.Name,sl aF a0.r.E.S.M,vI a0.r.E.Op,vI a0.r.E.V,vI a0.r.For,vI a0.r.Keep,sl aJ a0.r.Labels],.box [vS ([]:Str),vS ([]:Str)]] (fun x3=>vI x3) (fun x3=>[.box [sl aB a0.l,vI a0.i,vS a0.r.Name,vS a0.r.E.S.Name,sl aF a0.r.E.S.M,vI a0.r.E.Op,vI a0.r.E.V,vI a0.r.For,vI a0.r.Keep,sl aJ a0.r.Labels],.box [vS ([]:Str),vS ([]:Str)]]) (cF a0) fun x3=>
 aH ((⟨([]:Str),([]:Str)⟩:aQ),x3,a0)) (
 bS a0.l a0.i fun x4=>
 aA vI (wI (a0.i + (1:Int))) fun x5=>
 bJ [0] [.box [sl aB a0.l,vI x5,vS a0.r.Name,vS a0.r.E.S.Name,sl aF a0.r.E.S.M,vI a0.r.E.Op,vI a0.r.E.V,vI a0.r.For,vI a0.r.Keep,sl aJ a0.r.Labels],.box [vS ([]:Str),vS ([]:Str)]] (fun x6=>vB x6.1) (fun x6=>[.box [sl aB x6.2.l,vI x6.2.i,vS x6.2.r.Name,vS x6.2.r.E.S.Name,sl aF x6.2.r.E.S.M,vI x6.2.r.E.Op,vI x6.2.r.E.V,vI x6.2.r.For,vI x6.2.r.Keep,sl aJ x6.2.r.Labels],.box [vS ([]:Str),vS ([]:Str)]]) (cR (4:Int) ([61]:Str) (⟨a0.l,x5,a0.r⟩:aX)) fun x6=>
 aA vB (!x6.1) fun x7=>
 aG x7 (
 bJ [0] [.box [sl aB x6.2.l,vI x6.2.i,vS x6.2.r.Name,vS x6.2.r.E.S.Name,sl aF x6.2.r.E.S.M,vI x6.2.r.E.Op,vI x6.2.r.E.V,vI x6.2.r.For,vI x6.2.r.Keep,sl aJ x6.2.r.Labels],.box [vS ([]:Str),vS ([]:Str)]] (fun x8=>vI x8) (fun x8=>[.box [sl aB x6.2.l,vI x6.2.i,vS x6.2.r.Name,vS x6.2.r.E.S.Name,sl aF x6.2.r.E.S.M,vI x6.2.r.E.Op,vI x6.2.r.E.V,vI x6.2.r.For,vI x6.2.r.Keep,sl aJ x6.2.r.Labels],.box [vS ([]:Str),vS ([]:Str)]]) (cF x6.2) fun x8=>
 aH ((⟨([]:Str),([]:Str)⟩:aQ),x8,x6.2)) (
 bJ [0] [.box [sl aB x6.2.l,vI x6.2.i,vS x6.2.r.Name,vS x6.2.r.E.S.Name,sl aF x6.2.r.E.S.M,vI x6.2.r.E.Op,vI x6.2.r.E.V,vI x6.2.r.For,vI x6.2.r.Keep,sl aJ x6.2.r.Labels],.box [vS ([]:Str),vS ([]:Str)]] (fun x9=>vB x9) (fun x9=>[.box [sl aB x6.2.l,vI x6.2.i,vS x6.2.r.Name,vS x6.2.r.E.S.Name,sl aF x6.2.r.E.S.M,vI x6.2.r.E.Op,vI x6.2.r.E.V,vI x6.2.r.For,vI x6.2.r.Keep,sl aJ x6.2.r.Labels],.box [vS ([]:Str),vS ([]:Str)]]) (dR (3:Int) x6.2) fun x9=>
 aA vB (!x9) fun x10=>
 aG x10 (
 bJ [0] [.box [sl aB x6.2.l,vI x6.2.i,vS x6.2.r.Name,vS x6.2.r.E.S.Name,sl aF x6.2.r.E.S.M,vI x6.2.r.E.Op,vI x6.2.r.E.V,vI x6.2.r.For,vI x6.2.r.Keep,sl aJ x6.2.r.Labels],.box [vS ([]:Str),vS ([]:Str)]] (fun x11=>vI x11) (fun x11=>[.box [sl aB x6.2.l,vI x6.2.i,vS x6.2.r.Name,vS x6.2.r.E.S.Name,sl aF x6.2.r.E.S.M,vI x6.2.r.E.Op,vI x6.2.r.E.V,vI x6.2.r.For,vI x6.2.r.Keep,sl aJ x6.2.r.Labels],.box [vS ([]:Str),vS ([]:Str)]]) (cF x6.2) fun x11=>
 aH ((⟨([]:Str),([]:Str)⟩:aQ),x11,x6.2)) (
 bS x6.2.l x6.2.i fun x12=>
 aA vI (wI (x6.2.i + (1:Int))) fun x13=>
 aH ((⟨x4.S,x12.S⟩:aQ),(0:Int),(⟨x6.2.l,x13,x6.2.r⟩:aX)))))
def gP (a0:(List aQ)):Option ((List aQ)) :=
 KK a0 (
 aH ([]:(List aQ))) (
 JG<|
 gdM ((([]:(List aQ)).length + a0.length) * 32≤140737488355328)<|
 eU (so 0 aJ) (fun x1=>[tk x1.length 2 87]) (([]:(List aQ)) ++ a0) fun x1=>
 aH x1)
def kL (a0:Str):Option (Bool) :=
 aA vB (!decide (a0=a0)) fun x1=>
 aH x1
def jJ (a0:Str) (a1:Str):Option (Int) :=
 aN vB (fun x1=>[]) (kL a0) fun x1=>
 aN vB (fun x2=>[]) (kL a1) fun x2=>
 aG x1 (
 aG x2 (
 aH (0:Int)) (
 aH (-1:Int))) (
 aG x2 (
 aH (1:Int)) (
 aA vB (ltS a0 a1) fun x3=>
 aG x3 (
 aH (-1:Int)) (
 aA vB (ltS a1 a0) fun x4=>
 aG x4 (
 aH (1:Int)) (
 aH (0:Int)))))
def n7 (a0:aQ) (a1:aQ):Option (Int) :=
 aN vI (fun x1=>[.box [vS a0.Name,vS a0.Value],.box [vS a1.Name,vS a1.Value]]) (jJ a0.Name a1.Name) fun x1=>
 aH x1
def rS (a0:(List aQ)):Option ((List aQ) × Int) :=
 aA vI ((a0.length:Int)) fun x1=>
 aA vB (decide ((16:Int) < x1)) fun x2=>
 aG x2 (
 aH (([]:(List aQ)),(4:Int))) (
 aA vI ((a0.length:Int)) fun x3=>
 bU (fun (x4:Int)=>[(0,sl aJ a0),(15,sl aJ a0),(16,vI x3),(17,vI x4)]) (fun (x4:Int)=>[]) (fun (x4:Int)=>
 aA vB (decide (x4 < x3)) fun x5=>
 aG x5 (
 bS a0 x4 fun x6=>
 aA vI ((x6.Value.length:Int)) fun x7=>
 aA vB (decide ((64:Int) < x7)) fun x8=>
 aG x8 (
 a8<|
 aH (([]:(List aQ)),(4:Int))) (
 aA vI (wI (x4 + (1:Int))) fun x9=>
 bE x9)) (
 a8<|
 aA vI ((a0.length:Int)) fun x10=>
 bU (fun (x11:Int)=>[(0,sl aJ a0),(26,sl aJ a0),(27,vI x10),(28,vI x11)]) (fun (x11:Int)=>[]) (fun (x11:Int)=>
 aA vB (decide (x11 < x10)) fun x12=>
 aG x12 (
 bS a0 x11 fun x13=>
 aN vB (fun x14=>[.box [vS x13.Name,vS x13.Value]]) (fG x13.Name) fun x14=>
 aA vB (!x14) fun x15=>
 aG x15 (
 a8<|
 aH (([]:(List aQ)),(7:Int))) (
 aA vI (wI (x11 + (1:Int))) fun x16=>
 bE x16)) (
 a8<|
 eU (fun _=>.map 0) (fun x17=>[.map (mp kS vB x17)]) ([]:(List (Str × Bool))) fun x17=>
 aA vI ((a0.length:Int)) fun x18=>
 bU (fun (x19:(List (Str × Bool)) × Int)=>[(0,sl aJ a0),(8,.map 0),(38,sl aJ a0),(39,vI x18),(40,vI x19.2)]) (fun (x19:(List (Str × Bool)) × Int)=>[.map (mp kS vB x19.1)]) (fun (x19:(List (Str × Bool)) × Int)=>
 aA vB (decide (x19.2 < x18)) fun x20=>
 aG x20 (
 bS a0 x19.2 fun x21=>
 aA vB ((mlk x19.1 x21.Name).getD false) fun x22=>
 aG x22 (
 a8<|
 aH (([]:(List aQ)),(6:Int))) (
 eU (fun _=>.any) (fun x23=>[.map (mp kS vB x23),.box [vS x21.Name,vS x21.Value]]) (mst x19.1 x21.Name true) fun x23=>
 aA vI (wI (x19.2 + (1:Int))) fun x24=>
 bE (x23,x24))) (
 a8<|
 aN (so 1 aJ) (fun x25=>[.map (mp kS vB x19.1),tk x25.length 2 87]) (gP a0) fun x25=>
 KE 11<|
 DY n7 x25 fun x26=>
 Nk 11<|
 aH (x26,(0:Int)))) (x17,(0:Int)))) (0:Int))) (0:Int))
def nE (a0:Str):Option (Bool) :=
 aA vB (decide (a0=([95,95,110,97,109,101,95,95]:Str))) fun x1=>
 aA vB (decide (a0=([97,108,101,114,116,110,97,109,101]:Str))) fun x2=>
 aA vB (bif x1 then true else x2) fun x3=>
 aA vB (decide (a0=([97,108,101,114,116,115,116,97,116,101]:Str))) fun x4=>
 aA vB (bif x3 then true else x4) fun x5=>
 aH x5
def lB (a0:(List aQ)):Option (Bool) :=
 aA vI ((a0.length:Int)) fun x1=>
 bU (fun (x2:Int)=>[(5,sl aJ a0),(6,vI x1),(7,vI x2)]) (fun (x2:Int)=>[]) (fun (x2:Int)=>
 aA vB (decide (x2 < x1)) fun x3=>
 aG x3 (
 bS a0 x2 fun x4=>
 aN vB (fun x5=>[.box [vS x4.Name,vS x4.Value]]) (nE x4.Name) fun x5=>
 aG x5 (
 a8<|
 aH true) (
 aA vI (wI (x2 + (1:Int))) fun x6=>
 bE x6)) (
 a8<|
 aH false)) (0:Int)
def iI (a0:aX):Option (Int × aX) :=
 bJ [0] [.box [sl aB a0.l,vI a0.i,vS a0.r.Name,vS a0.r.E.S.Name,sl aF a0.r.E.S.M,vI a0.r.E.Op,vI a0.r.E.V,vI a0.r.For,vI a0.r.Keep,sl aJ a0.r.Labels]] (fun x1=>vB x1.1) (fun x1=>[.box [sl aB x1.2.l,vI x1.2.i,vS x1.2.r.Name,vS x1.2.r.E.S.Name,sl aF x1.2.r.E.S.M,vI x1.2.r.E.Op,vI x1.2.r.E.V,vI x1.2.r.For,vI x1.2.r.Keep,sl aJ x1.2.r.Labels]]) (cR (4:Int) ([123]:Str) a0) fun x1=>
 aA vB (!x1.1) fun x2=>
 aG x2 (
 bJ [0] [.box [sl aB x1.2.l,vI x1.2.i,vS x1.2.r.Name,vS x1.2.r.E.S.Name,sl aF x1.2.r.E.S.M,vI x1.2.r.E.Op,vI x1.2.r.E.V,vI x1.2.r.For,vI x1.2.r.Keep,sl aJ x1.2.r.Labels]] (fun x3=>vI x3) (fun x3=>[.box [sl aB x1.2.l,vI x1.2.i,vS x1.2.r.Name,vS x1.2.r.E.S.Name,sl aF x1.2.r.E.S.M,vI x1.2.r.E.Op,vI x1.2.r.E.V,vI x1.2.r.For,vI x1.2.r.Keep,sl aJ x1.2.r.Labels]]) (cF x1.2) fun x3=>
 aH (x3,x1.2)) (
 bJ [0] [.box [sl aB x1.2.l,vI x1.2.i,vS x1.2.r.Name,vS x1.2.r.E.S.Name,sl aF x1.2.r.E.S.M,vI x1.2.r.E.Op,vI x1.2.r.E.V,vI x1.2.r.For,vI x1.2.r.Keep,sl aJ x1.2.r.Labels]] (fun x4=>vB x4) (fun x4=>[.box [sl aB x1.2.l,vI x1.2.i,vS x1.2.r.Name,vS x1.2.r.E.S.Name,sl aF x1.2.r.E.S.M,vI x1.2.r.E.Op,vI x1.2.r.E.V,vI x1.2.r.For,vI x1.2.r.Keep,sl aJ x1.2.r.Labels]]) (gW (4:Int) ([125]:Str) x1.2) fun x4=>
 aA vB (!x4) fun x5=>
 JL 3 2 87<|
 bU (fun (x6:(List aL) × Int × Str × Str × (List bI) × Int × Int × Int × Int × (List aQ) × (List aQ) × Bool)=>[(0,.ptr 0 0),(3,so 1 aJ x6.2.2.2.2.2.2.2.2.2.2.1),(4,vB x6.2.2.2.2.2.2.2.2.2.2.2)]) (fun (x6:(List aL) × Int × Str × Str × (List bI) × Int × Int × Int × Int × (List aQ) × (List aQ) × Bool)=>[.box [sl aB x6.1,vI x6.2.1,vS x6.2.2.1,vS x6.2.2.2.1,sl aF x6.2.2.2.2.1,vI x6.2.2.2.2.2.1,vI x6.2.2.2.2.2.2.1,vI x6.2.2.2.2.2.2.2.1,vI x6.2.2.2.2.2.2.2.2.1,sl aJ x6.2.2.2.2.2.2.2.2.2.1],tk x6.2.2.2.2.2.2.2.2.2.2.1.length 2 87]) (fun (x6:(List aL) × Int × Str × Str × (List bI) × Int × Int × Int × Int × (List aQ) × (List aQ) × Bool)=>
 aG x6.2.2.2.2.2.2.2.2.2.2.2 (
 bJ [0] [.box [sl aB x6.1,vI x6.2.1,vS x6.2.2.1,vS x6.2.2.2.1,sl aF x6.2.2.2.2.1,vI x6.2.2.2.2.2.1,vI x6.2.2.2.2.2.2.1,vI x6.2.2.2.2.2.2.2.1,vI x6.2.2.2.2.2.2.2.2.1,sl aJ x6.2.2.2.2.2.2.2.2.2.1],tk x6.2.2.2.2.2.2.2.2.2.2.1.length 2 87] (fun x7=>.tup [(ag aJ) x7.1,vI x7.2.1]) (fun x7=>[.box [sl aB x7.2.2.l,vI x7.2.2.i,vS x7.2.2.r.Name,vS x7.2.2.r.E.S.Name,sl aF x7.2.2.r.E.S.M,vI x7.2.2.r.E.Op,vI x7.2.2.r.E.V,vI x7.2.2.r.For,vI x7.2.2.r.Keep,sl aJ x7.2.2.r.Labels],tk x6.2.2.2.2.2.2.2.2.2.2.1.length 2 87]) (jK (⟨x6.1,x6.2.1,(⟨x6.2.2.1,(⟨(⟨x6.2.2.2.1,x6.2.2.2.2.1⟩:cN),x6.2.2.2.2.2.1,x6.2.2.2.2.2.2.1⟩:bX),x6.2.2.2.2.2.2.2.1,x6.2.2.2.2.2.2.2.2.1,x6.2.2.2.2.2.2.2.2.2.1⟩:aR)⟩:aX)) fun x7=>
 aA vB (!decide (x7.2.1=(0:Int))) fun x8=>
 aG x8 (
 a8<|
 aH (x7.2.1,x7.2.2)) (
 aA (sx aJ) ([x7.1]:(List aQ)) fun x9=>
 gdM ((x6.2.2.2.2.2.2.2.2.2.2.1.length + x9.length) * 32≤140737488355328)<|
 eU (so 1 aJ) (fun x10=>[.box [sl aB x7.2.2.l,vI x7.2.2.i,vS x7.2.2.r.Name,vS x7.2.2.r.E.S.Name,sl aF x7.2.2.r.E.S.M,vI x7.2.2.r.E.Op,vI x7.2.2.r.E.V,vI x7.2.2.r.For,vI x7.2.2.r.Keep,sl aJ x7.2.2.r.Labels],tk x10.length 2 87,.box [vS x7.1.Name,vS x7.1.Value]]) (x6.2.2.2.2.2.2.2.2.2.2.1 ++ x9) fun x10=>
 bJ [0] [.box [sl aB x7.2.2.l,vI x7.2.2.i,vS x7.2.2.r.Name,vS x7.2.2.r.E.S.Name,sl aF x7.2.2.r.E.S.M,vI x7.2.2.r.E.Op,vI x7.2.2.r.E.V,vI x7.2.2.r.For,vI x7.2.2.r.Keep,sl aJ x7.2.2.r.Labels],tk x10.length 2 87,.box [vS x7.1.Name,vS x7.1.Value]] (fun x11=>vB x11.1) (fun x11=>[.box [sl aB x11.2.l,vI x11.2.i,vS x11.2.r.Name,vS x11.2.r.E.S.Name,sl aF x11.2.r.E.S.M,vI x11.2.r.E.Op,vI x11.2.r.E.V,vI x11.2.r.For,vI x11.2.r.Keep,sl aJ x11.2.r.Labels],tk x10.length 2 87,.box [vS x7.1.Name,vS x7.1.Value]]) (cR (4:Int) ([44]:Str) x7.2.2) fun x11=>
 bE (x11.2.l,x11.2.i,x11.2.r.Name,x11.2.r.E.S.Name,x11.2.r.E.S.M,x11.2.r.E.Op,x11.2.r.E.V,x11.2.r.For,x11.2.r.Keep,x11.2.r.Labels,x10,x11.1))) (
 a8<|
 bJ [0] [.box [sl aB x6.1,vI x6.2.1,vS x6.2.2.1,vS x6.2.2.2.1,sl aF x6.2.2.2.2.1,vI x6.2.2.2.2.2.1,vI x6.2.2.2.2.2.2.1,vI x6.2.2.2.2.2.2.2.1,vI x6.2.2.2.2.2.2.2.2.1,sl aJ x6.2.2.2.2.2.2.2.2.2.1],tk x6.2.2.2.2.2.2.2.2.2.2.1.length 2 87] (fun x12=>vB x12) (fun x12=>[.box [sl aB x6.1,vI x6.2.1,vS x6.2.2.1,vS x6.2.2.2.1,sl aF x6.2.2.2.2.1,vI x6.2.2.2.2.2.1,vI x6.2.2.2.2.2.2.1,vI x6.2.2.2.2.2.2.2.1,vI x6.2.2.2.2.2.2.2.2.1,sl aJ x6.2.2.2.2.2.2.2.2.2.1],tk x6.2.2.2.2.2.2.2.2.2.2.1.length 2 87]) (gW (4:Int) ([125]:Str) (⟨x6.1,x6.2.1,(⟨x6.2.2.1,(⟨(⟨x6.2.2.2.1,x6.2.2.2.2.1⟩:cN),x6.2.2.2.2.2.1,x6.2.2.2.2.2.2.1⟩:bX),x6.2.2.2.2.2.2.2.1,x6.2.2.2.2.2.2.2.2.1,x6.2.2.2.2.2.2.2.2.2.1⟩:aR)⟩:aX)) fun x12=>
 aA vB (!x12) fun x13=>
 aG x13 (
 bJ [0] [.box [sl aB x6.1,vI x6.2.1,vS x6.2.2.1,vS x6.2.2.2.1,sl aF x6.2.2.2.2.1,vI x6.2.2.2.2.2.1,vI x6.2.2.2.2.2.2.1,vI x6.2.2.2.2.2.2.2.1,vI x6.2.2.2.2.2.2.2.2.1,sl aJ x6.2.2.2.2.2.2.2.2.2.1],tk x6.2.2.2.2.2.2.2.2.2.2.1.length 2 87] (fun x14=>vI x14) (fun x14=>[.box [sl aB x6.1,vI x6.2.1,vS x6.2.2.1,vS x6.2.2.2.1,sl aF x6.2.2.2.2.1,vI x6.2.2.2.2.2.1,vI x6.2.2.2.2.2.2.1,vI x6.2.2.2.2.2.2.2.1,vI x6.2.2.2.2.2.2.2.2.1,sl aJ x6.2.2.2.2.2.2.2.2.2.1],tk x6.2.2.2.2.2.2.2.2.2.2.1.length 2 87]) (cF (⟨x6.1,x6.2.1,(⟨x6.2.2.1,(⟨(⟨x6.2.2.2.1,x6.2.2.2.2.1⟩:cN),x6.2.2.2.2.2.1,x6.2.2.2.2.2.2.1⟩:bX),x6.2.2.2.2.2.2.2.1,x6.2.2.2.2.2.2.2.2.1,x6.2.2.2.2.2.2.2.2.2.1⟩:aR)⟩:aX)) fun x14=>
 aH (x14,(⟨x6.1,x6.2.1,(⟨x6.2.2.1,(⟨(⟨x6.2.2.2.1,x6.2.2.2.2.1⟩:cN),x6.2.2.2.2.2.1,x6.2.2.2.2.2.2.1⟩:bX),x6.2.2.2.2.2.2.2.1,x6.2.2.2.2.2.2.2.2.1,x6.2.2.2.2.2.2.2.2.2.1⟩:aR)⟩:aX))) (
 aN (fun x15=>.tup [(sl aJ) x15.1,vI x15.2]) (fun x15=>[.box [sl aB x6.1,vI x6.2.1,vS x6.2.2.1,vS x6.2.2.2.1,sl aF x6.2.2.2.2.1,vI x6.2.2.2.2.2.1,vI x6.2.2.2.2.2.2.1,vI x6.2.2.2.2.2.2.2.1,vI x6.2.2.2.2.2.2.2.2.1,sl aJ x6.2.2.2.2.2.2.2.2.2.1],.tok x6.2.2.2.2.2.2.2.2.2.2.1.length 2 87 false]) (rS x6.2.2.2.2.2.2.2.2.2.2.1) fun x15=>
 aA vB (!decide (x15.2=(0:Int))) fun x16=>
 aG x16 (
 aH (x15.2,(⟨x6.1,x6.2.1,(⟨x6.2.2.1,(⟨(⟨x6.2.2.2.1,x6.2.2.2.2.1⟩:cN),x6.2.2.2.2.2.1,x6.2.2.2.2.2.2.1⟩:bX),x6.2.2.2.2.2.2.2.1,x6.2.2.2.2.2.2.2.2.1,x6.2.2.2.2.2.2.2.2.2.1⟩:aR)⟩:aX))) (
 aN vB (fun x17=>[.box [sl aB x6.1,vI x6.2.1,vS x6.2.2.1,vS x6.2.2.2.1,sl aF x6.2.2.2.2.1,vI x6.2.2.2.2.2.1,vI x6.2.2.2.2.2.2.1,vI x6.2.2.2.2.2.2.2.1,vI x6.2.2.2.2.2.2.2.2.1,sl aJ x6.2.2.2.2.2.2.2.2.2.1],.tok x6.2.2.2.2.2.2.2.2.2.2.1.length 2 87 false]) (lB x15.1) fun x17=>
 aG x17 (
 aH ((7:Int),(⟨x6.1,x6.2.1,(⟨x6.2.2.1,(⟨(⟨x6.2.2.2.1,x6.2.2.2.2.1⟩:cN),x6.2.2.2.2.2.1,x6.2.2.2.2.2.2.1⟩:bX),x6.2.2.2.2.2.2.2.1,x6.2.2.2.2.2.2.2.2.1,x6.2.2.2.2.2.2.2.2.2.1⟩:aR)⟩:aX))) (
 aA vI (wI (x6.2.1 + (1:Int))) fun x18=>
 aH ((0:Int),(⟨x6.1,x18,(⟨x6.2.2.1,(⟨(⟨x6.2.2.2.1,x6.2.2.2.2.1⟩:cN),x6.2.2.2.2.2.1,x6.2.2.2.2.2.2.1⟩:bX),x6.2.2.2.2.2.2.2.1,x6.2.2.2.2.2.2.2.2.1,x15.1⟩:aR)⟩:aX))))))) (x1.2.l,x1.2.i,x1.2.r.Name,x1.2.r.E.S.Name,x1.2.r.E.S.M,x1.2.r.E.Op,x1.2.r.E.V,x1.2.r.For,x1.2.r.Keep,x1.2.r.Labels,([]:List aQ),x5))
def hU (a0:aX):Option (Int × aX) :=
 bJ [0] [.box [sl aB a0.l,vI a0.i,vS a0.r.Name,vS a0.r.E.S.Name,sl aF a0.r.E.S.M,vI a0.r.E.Op,vI a0.r.E.V,vI a0.r.For,vI a0.r.Keep,sl aJ a0.r.Labels],.box [.ptr 0 0]] (fun x1=>vB x1.1) (fun x1=>[.box [sl aB x1.2.l,vI x1.2.i,vS x1.2.r.Name,vS x1.2.r.E.S.Name,sl aF x1.2.r.E.S.M,vI x1.2.r.E.Op,vI x1.2.r.E.V,vI x1.2.r.For,vI x1.2.r.Keep,sl aJ x1.2.r.Labels],.box [.ptr 0 0]]) (cR (1:Int) ([114,117,108,101]:Str) a0) fun x1=>
 aA vB (!x1.1) fun x2=>
 aG x2 (
 bJ [0] [.box [sl aB x1.2.l,vI x1.2.i,vS x1.2.r.Name,vS x1.2.r.E.S.Name,sl aF x1.2.r.E.S.M,vI x1.2.r.E.Op,vI x1.2.r.E.V,vI x1.2.r.For,vI x1.2.r.Keep,sl aJ x1.2.r.Labels],.box [.ptr 0 0]] (fun x3=>vI x3) (fun x3=>[.box [sl aB x1.2.l,vI x1.2.i,vS x1.2.r.Name,vS x1.2.r.E.S.Name,sl aF x1.2.r.E.S.M,vI x1.2.r.E.Op,vI x1.2.r.E.V,vI x1.2.r.For,vI x1.2.r.Keep,sl aJ x1.2.r.Labels],.box [.ptr 0 0]]) (cF x1.2) fun x3=>
 aH (x3,x1.2)) (
 bJ [0] [.box [sl aB x1.2.l,vI x1.2.i,vS x1.2.r.Name,vS x1.2.r.E.S.Name,sl aF x1.2.r.E.S.M,vI x1.2.r.E.Op,vI x1.2.r.E.V,vI x1.2.r.For,vI x1.2.r.Keep,sl aJ x1.2.r.Labels],.box [.ptr 0 0]] (fun x4=>vB x4) (fun x4=>[.box [sl aB x1.2.l,vI x1.2.i,vS x1.2.r.Name,vS x1.2.r.E.S.Name,sl aF x1.2.r.E.S.M,vI x1.2.r.E.Op,vI x1.2.r.E.V,vI x1.2.r.For,vI x1.2.r.Keep,sl aJ x1.2.r.Labels],.box [.ptr 0 0]]) (dR (1:Int) x1.2) fun x4=>
 aA vB (!x4) fun x5=>
 aG x5 (
 bJ [0] [.box [sl aB x1.2.l,vI x1.2.i,vS x1.2.r.Name,vS x1.2.r.E.S.Name,sl aF x1.2.r.E.S.M,vI x1.2.r.E.Op,vI x1.2.r.E.V,vI x1.2.r.For,vI x1.2.r.Keep,sl aJ x1.2.r.Labels],.box [.ptr 0 0]] (fun x6=>vI x6) (fun x6=>[.box [sl aB x1.2.l,vI x1.2.i,vS x1.2.r.Name,vS x1.2.r.E.S.Name,sl aF x1.2.r.E.S.M,vI x1.2.r.E.Op,vI x1.2.r.E.V,vI x1.2.r.For,vI x1.2.r.Keep,sl aJ x1.2.r.Labels],.box [.ptr 0 0]]) (cF x1.2) fun x6=>
 aH (x6,x1.2)) (
 Ja 15<|
 bS x1.2.l x1.2.i fun x7=>
 aN vB (fun x8=>[.box [sl aB x1.2.l,vI x1.2.i,vS x7.S,vS x1.2.r.E.S.Name,sl aF x1.2.r.E.S.M,vI x1.2.r.E.Op,vI x1.2.r.E.V,vI x1.2.r.For,vI x1.2.r.Keep,sl aJ x1.2.r.Labels],.box [.ptr 0 0]]) (fG x7.S) fun x8=>
 aA vB (!x8) fun x9=>
 aG x9 (
 aH ((7:Int),(⟨x1.2.l,x1.2.i,(⟨x7.S,x1.2.r.E,x1.2.r.For,x1.2.r.Keep,x1.2.r.Labels⟩:aR)⟩:aX))) (
 aA vI (wI (x1.2.i + (1:Int))) fun x10=>
 bJ [0] [.box [sl aB x1.2.l,vI x10,vS x7.S,vS x1.2.r.E.S.Name,sl aF x1.2.r.E.S.M,vI x1.2.r.E.Op,vI x1.2.r.E.V,vI x1.2.r.For,vI x1.2.r.Keep,sl aJ x1.2.r.Labels],.box [.ptr 0 0]] (fun x11=>vB x11.1) (fun x11=>[.box [sl aB x11.2.l,vI x11.2.i,vS x11.2.r.Name,vS x11.2.r.E.S.Name,sl aF x11.2.r.E.S.M,vI x11.2.r.E.Op,vI x11.2.r.E.V,vI x11.2.r.For,vI x11.2.r.Keep,sl aJ x11.2.r.Labels],.box [.ptr 0 0]]) (cR (4:Int) ([58]:Str) (⟨x1.2.l,x10,(⟨x7.S,x1.2.r.E,x1.2.r.For,x1.2.r.Keep,x1.2.r.Labels⟩:aR)⟩:aX)) fun x11=>
 aA vB (!x11.1) fun x12=>
 aG x12 (
 bJ [0] [.box [sl aB x11.2.l,vI x11.2.i,vS x11.2.r.Name,vS x11.2.r.E.S.Name,sl aF x11.2.r.E.S.M,vI x11.2.r.E.Op,vI x11.2.r.E.V,vI x11.2.r.For,vI x11.2.r.Keep,sl aJ x11.2.r.Labels],.box [.ptr 0 0]] (fun x13=>vI x13) (fun x13=>[.box [sl aB x11.2.l,vI x11.2.i,vS x11.2.r.Name,vS x11.2.r.E.S.Name,sl aF x11.2.r.E.S.M,vI x11.2.r.E.Op,vI x11.2.r.E.V,vI x11.2.r.For,vI x11.2.r.Keep,sl aJ x11.2.r.Labels],.box [.ptr 0 0]]) (cF x11.2) fun x13=>
 aH (x13,x11.2)) (
 r7 [0] [0,2,3,4,5,6,7,8,9,11,12,17] [(false,0),(false,1),(false,2),(false,3),(false,4),(false,5),(false,6),(false,7),(false,8),(false,9),(true,10),(false,11),(false,12),(false,13),(false,14),(false,15),(false,16),(false,17),(true,18),(false,19),(false,20),(true,21),(false,22)]<|
 aN (fun x14=>.tup [(ag uX) x14.1,vI x14.2.1,vI x14.2.2]) (fun x14=>[.box [sl aB x11.2.l,vI x11.2.i,vS x11.2.r.Name,vS x11.2.r.E.S.Name,sl aF x11.2.r.E.S.M,vI x11.2.r.E.Op,vI x11.2.r.E.V,vI x11.2.r.For,vI x11.2.r.Keep,sl aJ x11.2.r.Labels],.box [.ptr 0 0]]) (sG x11.2.l x11.2.i) fun x14=>
 aA vB (!decide (x14.2.2=(0:Int))) fun x15=>
 aG x15 (
 aH (x14.2.2,(⟨x11.2.l,x14.2.1,(⟨x11.2.r.Name,x14.1,x11.2.r.For,x11.2.r.Keep,x11.2.r.Labels⟩:aR)⟩:aX))) (
 bU (fun (x16:(List aL) × Int × Str × Str × (List bI) × Int × Int × Int × Int × (List aQ) × Int)=>[(1,.ptr 1 0),(83,.agg [vS ([102,111,114]:Str),.fn 129 [] [.ptr 1 0],vS ([107,101,101,112]:Str),.fn 131 [] [.ptr 1 0],vS ([108,97,98,101,108,115]:Str),.fn 132 [.ptr 0 0] []]),(84,vI x16.2.2.2.2.2.2.2.2.2.2)]) (fun (x16:(List aL) × Int × Str × Str × (List bI) × Int × Int × Int × Int × (List aQ) × Int)=>[.box [sl aB x16.1,vI x16.2.1,vS x16.2.2.1,vS x16.2.2.2.1,sl aF x16.2.2.2.2.1,vI x16.2.2.2.2.2.1,vI x16.2.2.2.2.2.2.1,vI x16.2.2.2.2.2.2.2.1,vI x16.2.2.2.2.2.2.2.2.1,sl aJ x16.2.2.2.2.2.2.2.2.2.1],.box [.ptr 0 0]]) (fun (x16:(List aL) × Int × Str × Str × (List bI) × Int × Int × Int × Int × (List aQ) × Int)=>
 aA vB (decide (x16.2.2.2.2.2.2.2.2.2.2 < (3:Int))) fun x17=>
 aG x17 (
 DF x16.2.2.2.2.2.2.2.2.2.2 (
 bJ [0] [.box [sl aB x16.1,vI x16.2.1,vS x16.2.2.1,vS x16.2.2.2.1,sl aF x16.2.2.2.2.1,vI x16.2.2.2.2.2.1,vI x16.2.2.2.2.2.2.1,vI x16.2.2.2.2.2.2.2.1,vI x16.2.2.2.2.2.2.2.2.1,sl aJ x16.2.2.2.2.2.2.2.2.2.1],.box [.ptr 0 0],.box [vS ([102,111,114]:Str),.fn 129 [] [.ptr 1 0]]] (fun x18=>vB x18.1) (fun x18=>[.box [sl aB x18.2.l,vI x18.2.i,vS x18.2.r.Name,vS x18.2.r.E.S.Name,sl aF x18.2.r.E.S.M,vI x18.2.r.E.Op,vI x18.2.r.E.V,vI x18.2.r.For,vI x18.2.r.Keep,sl aJ x18.2.r.Labels],.box [.ptr 0 0],.box [vS ([102,111,114]:Str),.fn 129 [] [.ptr 1 0]]]) (cR (1:Int) ([102,111,114]:Str) (⟨x16.1,x16.2.1,(⟨x16.2.2.1,(⟨(⟨x16.2.2.2.1,x16.2.2.2.2.1⟩:cN),x16.2.2.2.2.2.1,x16.2.2.2.2.2.2.1⟩:bX),x16.2.2.2.2.2.2.2.1,x16.2.2.2.2.2.2.2.2.1,x16.2.2.2.2.2.2.2.2.2.1⟩:aR)⟩:aX)) fun x18=>
 aG x18.1 (
 bJ [1,0] [.box [sl aB x18.2.l,vI x18.2.i,vS x18.2.r.Name,vS x18.2.r.E.S.Name,sl aF x18.2.r.E.S.M,vI x18.2.r.E.Op,vI x18.2.r.E.V,vI x18.2.r.For,vI x18.2.r.Keep,sl aJ x18.2.r.Labels],.box [.ptr 0 0],.box [vS ([102,111,114]:Str),.fn 129 [] [.ptr 1 0]]] (fun x19=>vI x19.1) (fun x19=>[.box [sl aB x19.2.l,vI x19.2.i,vS x19.2.r.Name,vS x19.2.r.E.S.Name,sl aF x19.2.r.E.S.M,vI x19.2.r.E.Op,vI x19.2.r.E.V,vI x19.2.r.For,vI x19.2.r.Keep,sl aJ x19.2.r.Labels],.box [.ptr 0 0],.box [vS ([102,111,114]:Str),.fn 129 [] [.ptr 1 0]]]) (iE x18.2) fun x19=>
 aA vB (!decide (x19.1=(0:Int))) fun x20=>
 aG x20 (
 a8<|
 aH (x19.1,x19.2)) (
 aA vI (wI (x16.2.2.2.2.2.2.2.2.2.2 + (1:Int))) fun x21=>
 bE (x19.2.l,x19.2.i,x19.2.r.Name,x19.2.r.E.S.Name,x19.2.r.E.S.M,x19.2.r.E.Op,x19.2.r.E.V,x19.2.r.For,x19.2.r.Keep,x19.2.r.Labels,x21))) (
 aA vI (wI (x16.2.2.2.2.2.2.2.2.2.2 + (1:Int))) fun x22=>
 bE (x18.2.l,x18.2.i,x18.2.r.Name,x18.2.r.E.S.Name,x18.2.r.E.S.M,x18.2.r.E.Op,x18.2.r.E.V,x18.2.r.For,x18.2.r.Keep,x18.2.r.Labels,x22))) (
 bJ [0] [.box [sl aB x16.1,vI x16.2.1,vS x16.2.2.1,vS x16.2.2.2.1,sl aF x16.2.2.2.2.1,vI x16.2.2.2.2.2.1,vI x16.2.2.2.2.2.2.1,vI x16.2.2.2.2.2.2.2.1,vI x16.2.2.2.2.2.2.2.2.1,sl aJ x16.2.2.2.2.2.2.2.2.2.1],.box [.ptr 0 0],.box [vS ([107,101,101,112]:Str),.fn 131 [] [.ptr 1 0]]] (fun x23=>vB x23.1) (fun x23=>[.box [sl aB x23.2.l,vI x23.2.i,vS x23.2.r.Name,vS x23.2.r.E.S.Name,sl aF x23.2.r.E.S.M,vI x23.2.r.E.Op,vI x23.2.r.E.V,vI x23.2.r.For,vI x23.2.r.Keep,sl aJ x23.2.r.Labels],.box [.ptr 0 0],.box [vS ([107,101,101,112]:Str),.fn 131 [] [.ptr 1 0]]]) (cR (1:Int) ([107,101,101,112]:Str) (⟨x16.1,x16.2.1,(⟨x16.2.2.1,(⟨(⟨x16.2.2.2.1,x16.2.2.2.2.1⟩:cN),x16.2.2.2.2.2.1,x16.2.2.2.2.2.2.1⟩:bX),x16.2.2.2.2.2.2.2.1,x16.2.2.2.2.2.2.2.2.1,x16.2.2.2.2.2.2.2.2.2.1⟩:aR)⟩:aX)) fun x23=>
 aG x23.1 (
 bJ [1,0] [.box [sl aB x23.2.l,vI x23.2.i,vS x23.2.r.Name,vS x23.2.r.E.S.Name,sl aF x23.2.r.E.S.M,vI x23.2.r.E.Op,vI x23.2.r.E.V,vI x23.2.r.For,vI x23.2.r.Keep,sl aJ x23.2.r.Labels],.box [.ptr 0 0],.box [vS ([107,101,101,112]:Str),.fn 131 [] [.ptr 1 0]]] (fun x24=>vI x24.1) (fun x24=>[.box [sl aB x24.2.l,vI x24.2.i,vS x24.2.r.Name,vS x24.2.r.E.S.Name,sl aF x24.2.r.E.S.M,vI x24.2.r.E.Op,vI x24.2.r.E.V,vI x24.2.r.For,vI x24.2.r.Keep,sl aJ x24.2.r.Labels],.box [.ptr 0 0],.box [vS ([107,101,101,112]:Str),.fn 131 [] [.ptr 1 0]]]) (iG x23.2) fun x24=>
 aA vB (!decide (x24.1=(0:Int))) fun x25=>
 aG x25 (
 a8<|
 aH (x24.1,x24.2)) (
 aA vI (wI (x16.2.2.2.2.2.2.2.2.2.2 + (1:Int))) fun x26=>
 bE (x24.2.l,x24.2.i,x24.2.r.Name,x24.2.r.E.S.Name,x24.2.r.E.S.M,x24.2.r.E.Op,x24.2.r.E.V,x24.2.r.For,x24.2.r.Keep,x24.2.r.Labels,x26))) (
 aA vI (wI (x16.2.2.2.2.2.2.2.2.2.2 + (1:Int))) fun x27=>
 bE (x23.2.l,x23.2.i,x23.2.r.Name,x23.2.r.E.S.Name,x23.2.r.E.S.M,x23.2.r.E.Op,x23.2.r.E.V,x23.2.r.For,x23.2.r.Keep,x23.2.r.Labels,x27))) (
 bJ [0] [.box [sl aB x16.1,vI x16.2.1,vS x16.2.2.1,vS x16.2.2.2.1,sl aF x16.2.2.2.2.1,vI x16.2.2.2.2.2.1,vI x16.2.2.2.2.2.2.1,vI x16.2.2.2.2.2.2.2.1,vI x16.2.2.2.2.2.2.2.2.1,sl aJ x16.2.2.2.2.2.2.2.2.2.1],.box [.ptr 0 0],.box [vS ([108,97,98,101,108,115]:Str),.fn 132 [.ptr 0 0] []]] (fun x28=>vB x28.1) (fun x28=>[.box [sl aB x28.2.l,vI x28.2.i,vS x28.2.r.Name,vS x28.2.r.E.S.Name,sl aF x28.2.r.E.S.M,vI x28.2.r.E.Op,vI x28.2.r.E.V,vI x28.2.r.For,vI x28.2.r.Keep,sl aJ x28.2.r.Labels],.box [.ptr 0 0],.box [vS ([108,97,98,101,108,115]:Str),.fn 132 [.ptr 0 0] []]]) (cR (1:Int) ([108,97,98,101,108,115]:Str) (⟨x16.1,x16.2.1,(⟨x16.2.2.1,(⟨(⟨x16.2.2.2.1,x16.2.2.2.2.1⟩:cN),x16.2.2.2.2.2.1,x16.2.2.2.2.2.2.1⟩:bX),x16.2.2.2.2.2.2.2.1,x16.2.2.2.2.2.2.2.2.1,x16.2.2.2.2.2.2.2.2.2.1⟩:aR)⟩:aX)) fun x28=>
 aG x28.1 (
 bJ [0] [.box [sl aB x28.2.l,vI x28.2.i,vS x28.2.r.Name,vS x28.2.r.E.S.Name,sl aF x28.2.r.E.S.M,vI x28.2.r.E.Op,vI x28.2.r.E.V,vI x28.2.r.For,vI x28.2.r.Keep,sl aJ x28.2.r.Labels],.box [.ptr 0 0],.box [vS ([108,97,98,101,108,115]:Str),.fn 132 [.ptr 0 0] []]] (fun x29=>vI x29.1) (fun x29=>[.box [sl aB x29.2.l,vI x29.2.i,vS x29.2.r.Name,vS x29.2.r.E.S.Name,sl aF x29.2.r.E.S.M,vI x29.2.r.E.Op,vI x29.2.r.E.V,vI x29.2.r.For,vI x29.2.r.Keep,sl aJ x29.2.r.Labels],.box [.ptr 0 0],.box [vS ([108,97,98,101,108,115]:Str),.fn 132 [.ptr 0 0] []]]) (iI x28.2) fun x29=>
 aA vB (!decide (x29.1=(0:Int))) fun x30=>
 aG x30 (
 a8<|
 aH (x29.1,x29.2)) (
 aA vI (wI (x16.2.2.2.2.2.2.2.2.2.2 + (1:Int))) fun x31=>
 bE (x29.2.l,x29.2.i,x29.2.r.Name,x29.2.r.E.S.Name,x29.2.r.E.S.M,x29.2.r.E.Op,x29.2.r.E.V,x29.2.r.For,x29.2.r.Keep,x29.2.r.Labels,x31))) (
 aA vI (wI (x16.2.2.2.2.2.2.2.2.2.2 + (1:Int))) fun x32=>
 bE (x28.2.l,x28.2.i,x28.2.r.Name,x28.2.r.E.S.Name,x28.2.r.E.S.M,x28.2.r.E.Op,x28.2.r.E.V,x28.2.r.For,x28.2.r.Keep,x28.2.r.Labels,x32)))) (
 a8<|
 bJ [0] [.box [sl aB x16.1,vI x16.2.1,vS x16.2.2.1,vS x16.2.2.2.1,sl aF x16.2.2.2.2.1,vI x16.2.2.2.2.2.1,vI x16.2.2.2.2.2.2.1,vI x16.2.2.2.2.2.2.2.1,vI x16.2.2.2.2.2.2.2.2.1,sl aJ x16.2.2.2.2.2.2.2.2.2.1],.box [.ptr 0 0]] (fun x33=>vB x33.1) (fun x33=>[.box [sl aB x33.2.l,vI x33.2.i,vS x33.2.r.Name,vS x33.2.r.E.S.Name,sl aF x33.2.r.E.S.M,vI x33.2.r.E.Op,vI x33.2.r.E.V,vI x33.2.r.For,vI x33.2.r.Keep,sl aJ x33.2.r.Labels],.box [.ptr 0 0]]) (cR (4:Int) ([59]:Str) (⟨x16.1,x16.2.1,(⟨x16.2.2.1,(⟨(⟨x16.2.2.2.1,x16.2.2.2.2.1⟩:cN),x16.2.2.2.2.2.1,x16.2.2.2.2.2.2.1⟩:bX),x16.2.2.2.2.2.2.2.1,x16.2.2.2.2.2.2.2.2.1,x16.2.2.2.2.2.2.2.2.2.1⟩:aR)⟩:aX)) fun x33=>
 aA vB (!x33.1) fun x34=>
 aG x34 (
 bJ [0] [.box [sl aB x33.2.l,vI x33.2.i,vS x33.2.r.Name,vS x33.2.r.E.S.Name,sl aF x33.2.r.E.S.M,vI x33.2.r.E.Op,vI x33.2.r.E.V,vI x33.2.r.For,vI x33.2.r.Keep,sl aJ x33.2.r.Labels],.box [.ptr 0 0]] (fun x35=>vI x35) (fun x35=>[.box [sl aB x33.2.l,vI x33.2.i,vS x33.2.r.Name,vS x33.2.r.E.S.Name,sl aF x33.2.r.E.S.M,vI x33.2.r.E.Op,vI x33.2.r.E.V,vI x33.2.r.For,vI x33.2.r.Keep,sl aJ x33.2.r.Labels],.box [.ptr 0 0]]) (cF x33.2) fun x35=>
 aH (x35,x33.2)) (
 aH ((0:Int),x33.2)))) (x11.2.l,x14.2.1,x11.2.r.Name,x14.1.S.Name,x14.1.S.M,x14.1.Op,x14.1.V,x11.2.r.For,x11.2.r.Keep,x11.2.r.Labels,(0:Int)))))))
def m5 (a0:(List aL)) (a1:Int):Option (aR × Int × Int) :=
 aA vB (decide (a1 < (0:Int))) fun x1=>
 aG x1 (
 aH ((⟨([]:Str),(⟨(⟨([]:Str),([]:(List bI))⟩:cN),(0:Int),(0:Int)⟩:bX),(0:Int),(0:Int),([]:(List aQ))⟩:aR),(0:Int),(3:Int))) (
 aA vI ((a0.length:Int)) fun x2=>
 aA vI (min a1 x2) fun x3=>
 bJ [1] [.box [vS ([]:Str),vS ([]:Str),.v (.slice none 0 0),vI (0:Int),vI (0:Int),vI (0:Int),vI (0:Int),.v (.slice none 0 0)],.box [sl aB a0,vI x3,vS ([]:Str),vS ([]:Str),sl aF ([]:List bI),vI (0:Int),vI (0:Int),vI (0:Int),vI (0:Int),sl aJ ([]:List aQ)]] (fun x4=>vI x4.1) (fun x4=>[.box [vS ([]:Str),vS ([]:Str),.v (.slice none 0 0),vI (0:Int),vI (0:Int),vI (0:Int),vI (0:Int),.v (.slice none 0 0)],.box [sl aB x4.2.l,vI x4.2.i,vS x4.2.r.Name,vS x4.2.r.E.S.Name,sl aF x4.2.r.E.S.M,vI x4.2.r.E.Op,vI x4.2.r.E.V,vI x4.2.r.For,vI x4.2.r.Keep,sl aJ x4.2.r.Labels]]) (hU (⟨a0,x3,(⟨([]:Str),(⟨(⟨([]:Str),([]:(List bI))⟩:cN),(0:Int),(0:Int)⟩:bX),(0:Int),(0:Int),([]:(List aQ))⟩:aR)⟩:aX)) fun x4=>
 aA vB (!decide (x4.1=(0:Int))) fun x5=>
 aG x5 (
 r7 [0] [] [(false,1),(false,2),(false,3),(false,4),(false,5),(true,0),(true,6),(false,7),(false,8)]<|
 aH ((⟨([]:Str),(⟨(⟨([]:Str),([]:(List bI))⟩:cN),(0:Int),(0:Int)⟩:bX),(0:Int),(0:Int),([]:(List aQ))⟩:aR),x4.2.i,x4.1)) (
 r7 [0] [0,1,2,3] [(false,0),(false,1),(false,2),(false,3),(false,4),(false,5),(false,6),(false,7),(true,8),(false,9),(false,10)]<|
 aH (x4.2.r,x4.2.i,(0:Int))))
def jP (a0:(List aR)) (a1:Str):Option (Bool) :=
 aA vI ((a0.length:Int)) fun x1=>
 bU (fun (x2:Int)=>[(1,vS a1),(7,sl bA a0),(8,vI x1),(9,vI x2)]) (fun (x2:Int)=>[]) (fun (x2:Int)=>
 aA vB (decide (x2 < x1)) fun x3=>
 aG x3 (
 bS a0 x2 fun x4=>
 aA vB (decide (x4.Name=a1)) fun x5=>
 aG x5 (
 a8<|
 aH true) (
 aA vI (wI (x2 + (1:Int))) fun x6=>
 bE x6)) (
 a8<|
 aH false)) (0:Int)
def lR (a0:(List aR)) (a1:(List aL)) (a2:Int) (a3:(List aI)):Option (Except Flt (aR × Int)) :=
 BQ (fun (x1:Unit)=>[(0,.ptr 0 0),(1,sl bA a0),(4,.ptr 1 0)]) (fun (x1:Unit)=>[.box [sl aB a1,vI a2,sl aC a3],.box [vS ([]:Str),vS ([]:Str),.v (.slice none 0 0),vI (0:Int),vI (0:Int),vI (0:Int),vI (0:Int),.v (.slice none 0 0)]]) (fun (x1:Unit)=>
 Zy 14 13 5<|
 aN (fun x5=>.tup [(ag bA) x5.1,vI x5.2.1,vI x5.2.2]) (fun x5=>[.box [sl aB a1,vI a2,sl aC a3],.box [vS ([]:Str),vS ([]:Str),.v (.slice none 0 0),vI (0:Int),vI (0:Int),vI (0:Int),vI (0:Int),.v (.slice none 0 0)]]) (m5 a1 a2) fun x5=>
 aA vB (!decide (x5.2.2=(0:Int))) fun x6=>
 aG x6 (
 kB<|
 cO (x5.2.1,x5.2.2)) (
 aN vB (fun x7=>[.box [sl aB a1,vI a2,sl aC a3],.box [vS ([]:Str),vS ([]:Str),.v (.slice none 0 0),vI (0:Int),vI (0:Int),vI (0:Int),vI (0:Int),.v (.slice none 0 0)],.box [vS x5.1.Name,vS x5.1.E.S.Name,sl aF x5.1.E.S.M,vI x5.1.E.Op,vI x5.1.E.V,vI x5.1.For,vI x5.1.Keep,sl aJ x5.1.Labels]]) (jP a0 x5.1.Name) fun x7=>
 aG x7 (
 aA vI (wI (a2 + (1:Int))) fun x8=>
 kB<|
 cO (x8,(6:Int))) (
 okM (x5.1,x5.2.1))))<|
 aA vI ((a0.length:Int)) fun x2=>
 aA vB (decide ((16:Int)≤x2)) fun x3=>
 aG x3 (
 bJ [0] [.box [sl aB a1,vI a2,sl aC a3],.box [vS ([]:Str),vS ([]:Str),.v (.slice none 0 0),vI (0:Int),vI (0:Int),vI (0:Int),vI (0:Int),.v (.slice none 0 0)]] (fun x4=>vB x4) (fun x4=>[.box [sl aB a1,vI a2,sl aC a3],.box [vS ([]:Str),vS ([]:Str),.v (.slice none 0 0),vI (0:Int),vI (0:Int),vI (0:Int),vI (0:Int),.v (.slice none 0 0)]]) (mU (1:Int) ([114,117,108,101]:Str) a1 a2 a3) fun x4=>
 aG x4 (
 kB<|
 a8<|
 cO (a2,(4:Int))) (
 bE ())) (
 bE ())
def s5 (a0:(List aL)) (a1:Int) (a2:(List aI)):Option (Except Flt (aI × Int)) :=
 eP [0] [.box [sl aB a0,vI a1,sl aC a2],.box [vS ([]:Str),vI (0:Int),vI (0:Int),.v (.slice none 0 0)]] (fun x1=>.tup []) (fun x1=>[.box [sl aB a0,vI x1,sl aC a2],.box [vS ([]:Str),vI (0:Int),vI (0:Int),.v (.slice none 0 0)]]) (g9 (1:Int) ([103,114,111,117,112]:Str) a0 a1 a2) (fun x2=>
 cO x2) fun x1=>
 aA vI ((a2.length:Int)) fun x3=>
 aA vB (decide ((16:Int)≤x3)) fun x4=>
 aG x4 (
 aA vI (wI (x1 - (1:Int))) fun x5=>
 kB<|
 cO (x5,(4:Int))) (
 eP [0] [.box [sl aB a0,vI x1,sl aC a2],.box [vS ([]:Str),vI (0:Int),vI (0:Int),.v (.slice none 0 0)]] (fun x6=>vS x6.1) (fun x6=>[.box [sl aB a0,vI x6.2,sl aC a2],.box [vS ([]:Str),vI (0:Int),vI (0:Int),.v (.slice none 0 0)]]) (lN (1:Int) a0 x1 a2) (fun x7=>
 cO x7) fun x6=>
 aN vB (fun x8=>[.box [sl aB a0,vI x6.2,sl aC a2],.box [vS ([]:Str),vI (0:Int),vI (0:Int),.v (.slice none 0 0)],.box [vS x6.1,vI (0:Int),vI (0:Int),.v (.slice none 0 0)]]) (fG x6.1) fun x8=>
 aA vB (!x8) fun x9=>
 aG x9 (
 aA vI (wI (x6.2 - (1:Int))) fun x10=>
 kB<|
 cO (x10,(7:Int))) (
 jF<|
 aN vB (fun x11=>[.box [sl aB a0,vI x6.2,sl aC a2],.box [vS ([]:Str),vI (0:Int),vI (0:Int),.v (.slice none 0 0)],.box [vS x6.1,vI (0:Int),vI (0:Int),.v (.slice none 0 0)]]) (jZ a2 x6.1) fun x11=>
 aG x11 (
 aA vI (wI (x6.2 - (1:Int))) fun x12=>
 kB<|
 cO (x12,(6:Int))) (
 eP [0] [.box [sl aB a0,vI x6.2,sl aC a2],.box [vS ([]:Str),vI (0:Int),vI (0:Int),.v (.slice none 0 0)],.box [vS x6.1,vI (0:Int),vI (0:Int),.v (.slice none 0 0)]] (fun x13=>.tup []) (fun x13=>[.box [sl aB a0,vI x13,sl aC a2],.box [vS ([]:Str),vI (0:Int),vI (0:Int),.v (.slice none 0 0)],.box [vS x6.1,vI (0:Int),vI (0:Int),.v (.slice none 0 0)]]) (g9 (1:Int) ([101,118,101,114,121]:Str) a0 x6.2 a2) (fun x14=>
 cO x14) fun x13=>
 eP [0] [.box [sl aB a0,vI x13,sl aC a2],.box [vS ([]:Str),vI (0:Int),vI (0:Int),.v (.slice none 0 0)],.box [vS x6.1,vI (0:Int),vI (0:Int),.v (.slice none 0 0)]] (fun x15=>vI x15.1) (fun x15=>[.box [sl aB a0,vI x15.2,sl aC a2],.box [vS ([]:Str),vI (0:Int),vI (0:Int),.v (.slice none 0 0)],.box [vS x6.1,vI (0:Int),vI (0:Int),.v (.slice none 0 0)]]) (jD a0 x13 a2) (fun x16=>
 cO x16) fun x15=>
 aA vB (decide (x15.1=(0:Int))) fun x17=>
 aG x17 (
 aA vI (wI (x15.2 - (1:Int))) fun x18=>
 kB<|
 cO (x18,(2:Int))) (
 bJ [0] [.box [sl aB a0,vI x15.2,sl aC a2],.box [vS ([]:Str),vI (0:Int),vI (0:Int),.v (.slice none 0 0)],.box [vS x6.1,vI x15.1,vI (0:Int),.v (.slice none 0 0)]] (fun x19=>vB x19.1) (fun x19=>[.box [sl aB a0,vI x19.2,sl aC a2],.box [vS ([]:Str),vI (0:Int),vI (0:Int),.v (.slice none 0 0)],.box [vS x6.1,vI x15.1,vI (0:Int),.v (.slice none 0 0)]]) (gZ (1:Int) ([111,102,102,115,101,116]:Str) a0 x15.2 a2) fun x19=>
 aG x19.1 (
 eP [0] [.box [sl aB a0,vI x19.2,sl aC a2],.box [vS ([]:Str),vI (0:Int),vI (0:Int),.v (.slice none 0 0)],.box [vS x6.1,vI x15.1,vI (0:Int),.v (.slice none 0 0)]] (fun x20=>vI x20.1) (fun x20=>[.box [sl aB a0,vI x20.2,sl aC a2],.box [vS ([]:Str),vI (0:Int),vI (0:Int),.v (.slice none 0 0)],.box [vS x6.1,vI x15.1,vI (0:Int),.v (.slice none 0 0)]]) (jD a0 x19.2 a2) (fun x21=>
 cO x21) fun x20=>
 aA vB (decide (x15.1≤x20.1)) fun x22=>
 aG x22 (
 aA vI (wI (x20.2 - (1:Int))) fun x23=>
 kB<|
 cO (x23,(2:Int))) (
 eP [0] [.box [sl aB a0,vI x20.2,sl aC a2],.box [vS ([]:Str),vI (0:Int),vI (0:Int),.v (.slice none 0 0)],.box [vS x6.1,vI x15.1,vI x20.1,.v (.slice none 0 0)]] (fun x24=>.tup []) (fun x24=>[.box [sl aB a0,vI x24,sl aC a2],.box [vS ([]:Str),vI (0:Int),vI (0:Int),.v (.slice none 0 0)],.box [vS x6.1,vI x15.1,vI x20.1,.v (.slice none 0 0)]]) (g9 (4:Int) ([123]:Str) a0 x20.2 a2) (fun x25=>
 cO x25) fun x24=>
 tokB 2 3 8 42<|
 shM 3<|
 bU (fun (x26:Int × (List aR))=>[(0,.ptr 0 0),(2,.ptr 1 0),(3,.ptr 2 0)]) (fun (x26:Int × (List aR))=>[.box [sl aB a0,vI x26.1,sl aC a2],.box [vS ([]:Str),vI (0:Int),vI (0:Int),.v (.slice none 0 0)],.box [vS x6.1,vI x15.1,vI x20.1,so 3 bA x26.2],.tok x26.2.length 8 42 false]) (fun (x26:Int × (List aR))=>
 bJ [0] [.box [sl aB a0,vI x26.1,sl aC a2],.box [vS ([]:Str),vI (0:Int),vI (0:Int),.v (.slice none 0 0)],.box [vS x6.1,vI x15.1,vI x20.1,so 3 bA x26.2],.tok x26.2.length 8 42 false] (fun x27=>vB x27.1) (fun x27=>[.box [sl aB a0,vI x27.2,sl aC a2],.box [vS ([]:Str),vI (0:Int),vI (0:Int),.v (.slice none 0 0)],.box [vS x6.1,vI x15.1,vI x20.1,so 3 bA x26.2],.tok x26.2.length 8 42 false]) (gZ (4:Int) ([125]:Str) a0 x26.1 a2) fun x27=>
 aA vB (!x27.1) fun x28=>
 aG x28 (
 Dg [84,86,87,92] (.pf 0 (.pf 2 (.pf 3 (.nd 1 (.nd 4 (.nd 5 (.nd 6 (.nd 7 (.pf 8 (.nd 9 .lf .lf)) .lf) .lf) .lf) .lf) (.nd 4 (.nd 1 (.nd 5 (.nd 6 (.nd 7 (.pf 8 (.nd 9 .lf .lf)) .lf) .lf) .lf) (.nd 5 (.nd 1 (.nd 6 (.nd 7 (.pf 8 (.nd 9 .lf .lf)) .lf) .lf) (.nd 6 (.nd 1 (.nd 7 (.pf 8 (.nd 9 .lf .lf)) .lf) .lf) .lf)) .lf)) .lf)))))<|
 eP [0] [.box [sl aB a0,vI x27.2,sl aC a2],.box [vS ([]:Str),vI (0:Int),vI (0:Int),.v (.slice none 0 0)],.box [vS x6.1,vI x15.1,vI x20.1,so 3 bA x26.2],.tok x26.2.length 8 42 false] (fun x29=>(ag bA) x29.1) (fun x29=>[.box [sl aB a0,vI x29.2,sl aC a2],.box [vS ([]:Str),vI (0:Int),vI (0:Int),.v (.slice none 0 0)],.box [vS x6.1,vI x15.1,vI x20.1,so 3 bA x26.2],.tok x26.2.length 8 42 false]) (lR x26.2 a0 x27.2 a2) (fun x30=>
 a8<|
 cO x30) fun x29=>
 aA (sx bA) ([x29.1]:(List aR)) fun x31=>
 gdM ((x26.2.length + x31.length) * 112≤140737488355328)<|
 eU (so 3 bA) (fun x32=>[.box [sl aB a0,vI x29.2,sl aC a2],.box [vS ([]:Str),vI (0:Int),vI (0:Int),.v (.slice none 0 0)],.box [vS x6.1,vI x15.1,vI x20.1,so 3 bA x26.2],.tok x32.length 8 42 false]) (x26.2 ++ x31) fun x32=>
 bE (x29.2,x32)) (
 a8<|
 okM ((⟨x6.1,x15.1,x20.1,x26.2⟩:aI),x27.2))) (x24,([]:List aR)))) (
 eP [0] [.box [sl aB a0,vI x19.2,sl aC a2],.box [vS ([]:Str),vI (0:Int),vI (0:Int),.v (.slice none 0 0)],.box [vS x6.1,vI x15.1,vI (0:Int),.v (.slice none 0 0)]] (fun x33=>.tup []) (fun x33=>[.box [sl aB a0,vI x33,sl aC a2],.box [vS ([]:Str),vI (0:Int),vI (0:Int),.v (.slice none 0 0)],.box [vS x6.1,vI x15.1,vI (0:Int),.v (.slice none 0 0)]]) (g9 (4:Int) ([123]:Str) a0 x19.2 a2) (fun x34=>
 cO x34) fun x33=>
 tokB 2 3 8 42<|
 shM 3<|
 bU (fun (x35:Int × (List aR))=>[(0,.ptr 0 0),(2,.ptr 1 0),(3,.ptr 2 0)]) (fun (x35:Int × (List aR))=>[.box [sl aB a0,vI x35.1,sl aC a2],.box [vS ([]:Str),vI (0:Int),vI (0:Int),.v (.slice none 0 0)],.box [vS x6.1,vI x15.1,vI (0:Int),so 3 bA x35.2],.tok x35.2.length 8 42 false]) (fun (x35:Int × (List aR))=>
 bJ [0] [.box [sl aB a0,vI x35.1,sl aC a2],.box [vS ([]:Str),vI (0:Int),vI (0:Int),.v (.slice none 0 0)],.box [vS x6.1,vI x15.1,vI (0:Int),so 3 bA x35.2],.tok x35.2.length 8 42 false] (fun x36=>vB x36.1) (fun x36=>[.box [sl aB a0,vI x36.2,sl aC a2],.box [vS ([]:Str),vI (0:Int),vI (0:Int),.v (.slice none 0 0)],.box [vS x6.1,vI x15.1,vI (0:Int),so 3 bA x35.2],.tok x35.2.length 8 42 false]) (gZ (4:Int) ([125]:Str) a0 x35.1 a2) fun x36=>
 aA vB (!x36.1) fun x37=>
 aG x37 (
 Dg [84,86,87,92] (.pf 0 (.pf 2 (.pf 3 (.nd 1 (.nd 4 (.nd 5 (.nd 6 (.nd 7 (.pf 8 (.nd 9 .lf .lf)) .lf) .lf) .lf) .lf) (.nd 4 (.nd 1 (.nd 5 (.nd 6 (.nd 7 (.pf 8 (.nd 9 .lf .lf)) .lf) .lf) .lf) (.nd 5 (.nd 1 (.nd 6 (.nd 7 (.pf 8 (.nd 9 .lf .lf)) .lf) .lf) (.nd 6 (.nd 1 (.nd 7 (.pf 8 (.nd 9 .lf .lf)) .lf) .lf) .lf)) .lf)) .lf)))))<|
 eP [0] [.box [sl aB a0,vI x36.2,sl aC a2],.box [vS ([]:Str),vI (0:Int),vI (0:Int),.v (.slice none 0 0)],.box [vS x6.1,vI x15.1,vI (0:Int),so 3 bA x35.2],.tok x35.2.length 8 42 false] (fun x38=>(ag bA) x38.1) (fun x38=>[.box [sl aB a0,vI x38.2,sl aC a2],.box [vS ([]:Str),vI (0:Int),vI (0:Int),.v (.slice none 0 0)],.box [vS x6.1,vI x15.1,vI (0:Int),so 3 bA x35.2],.tok x35.2.length 8 42 false]) (lR x35.2 a0 x36.2 a2) (fun x39=>
 a8<|
 cO x39) fun x38=>
 aA (sx bA) ([x38.1]:(List aR)) fun x40=>
 gdM ((x35.2.length + x40.length) * 112≤140737488355328)<|
 eU (so 3 bA) (fun x41=>[.box [sl aB a0,vI x38.2,sl aC a2],.box [vS ([]:Str),vI (0:Int),vI (0:Int),.v (.slice none 0 0)],.box [vS x6.1,vI x15.1,vI (0:Int),so 3 bA x35.2],.tok x41.length 8 42 false]) (x35.2 ++ x40) fun x41=>
 bE (x38.2,x41)) (
 a8<|
 okM ((⟨x6.1,x15.1,(0:Int),x35.2⟩:aI),x36.2))) (x33,([]:List aR)))))))
def iQ (a0:Int) (a1:Str) (a2:(List aL)) (a3:Int) (a4:(List aI)):Option (Bool) :=
 aA vI ((a2.length:Int)) fun x1=>
 aA vB (decide (a3 < x1)) fun x2=>
 aG x2 (
 bS a2 a3 fun x3=>
 aA vB (decide (x3.K=a0)) fun x4=>
 aG x4 (
 aA vB (decide (x3.S=a1)) fun x5=>
 aH x5) (
 aH false)) (
 aH false)
def dD (a0:Int) (a1:Str) (a2:(List aL)) (a3:Int) (a4:(List aI)):Option (Bool × Int) :=
 bJ [0,1] [.box [sl aB a2,vI a3,so 1 aC a4],.tok a4.length 4 34 false] (fun x1=>vB x1) (fun x1=>[.box [sl aB a2,vI a3,so 1 aC a4],.tok a4.length 4 34 false]) (iQ a0 a1 a2 a3 a4) fun x1=>
 aG x1 (
 aA vI (wI (a3 + (1:Int))) fun x2=>
 aH (true,x2)) (
 aH (false,a3))
def eT (a0:(List aL)) (a1:Int) (a2:(List aI)):Option (Except Flt (Unit)) :=
 aA vI ((a0.length:Int)) fun x1=>
 aA vB (decide (x1≤a1)) fun x2=>
 aG x2 (
 kB<|
 cO (a1,(3:Int))) (
 kB<|
 cO (a1,(1:Int)))
def cT (a0:Int) (a1:Str) (a2:(List aL)) (a3:Int) (a4:(List aI)):Option (Except Flt (Int)) :=
 bJ [0,1] [.box [sl aB a2,vI a3,so 1 aC a4],.tok a4.length 4 34 false] (fun x1=>vB x1.1) (fun x1=>[.box [sl aB a2,vI x1.2,so 1 aC a4],.tok a4.length 4 34 false]) (dD a0 a1 a2 a3 a4) fun x1=>
 aA vB (!x1.1) fun x2=>
 aG x2 (
 eP [0,1] [.box [sl aB a2,vI x1.2,so 1 aC a4],.tok a4.length 4 34 false] (fun x3=>.tup []) (fun x3=>[.box [sl aB a2,vI x1.2,so 1 aC a4],.tok a4.length 4 34 false]) (eT a2 x1.2 a4) (fun x4=>
 cO x4) fun x3=>
 okM x1.2) (
 okM x1.2)
def gI (a0:Int) (a1:(List aL)) (a2:Int) (a3:(List aI)):Option (Except Flt (Str × Int)) :=
 aA vI ((a1.length:Int)) fun x1=>
 aA vB (decide (x1≤a2)) fun x2=>
 aG x2 (
 eP [0,1] [.box [sl aB a1,vI a2,so 1 aC a3],.tok a3.length 4 34 false] (fun x3=>.tup []) (fun x3=>[.box [sl aB a1,vI a2,so 1 aC a3],.tok a3.length 4 34 false]) (eT a1 a2 a3) (fun x4=>
 cO x4) fun x3=>
 aA vI (wI (a2 + (1:Int))) fun x5=>
 aA vI (wI (x5 - (1:Int))) fun x6=>
 bS a1 x6 fun x7=>
 okM (x7.S,x5)) (
 bS a1 a2 fun x8=>
 aA vB (!decide (x8.K=a0)) fun x9=>
 aG x9 (
 eP [0,1] [.box [sl aB a1,vI a2,so 1 aC a3],.tok a3.length 4 34 false] (fun x10=>.tup []) (fun x10=>[.box [sl aB a1,vI a2,so 1 aC a3],.tok a3.length 4 34 false]) (eT a1 a2 a3) (fun x11=>
 cO x11) fun x10=>
 aA vI (wI (a2 + (1:Int))) fun x12=>
 aA vI (wI (x12 - (1:Int))) fun x13=>
 bS a1 x13 fun x14=>
 okM (x14.S,x12)) (
 aA vI (wI (a2 + (1:Int))) fun x15=>
 aA vI (wI (x15 - (1:Int))) fun x16=>
 bS a1 x16 fun x17=>
 okM (x17.S,x15)))
def eO (a0:(List aL)) (a1:Int) (a2:(List aI)):Option (Except Flt (Int × Int)) :=
 eP [0,1] [.box [sl aB a0,vI a1,so 1 aC a2],.tok a2.length 4 34 false] (fun x1=>vS x1.1) (fun x1=>[.box [sl aB a0,vI x1.2,so 1 aC a2],.tok a2.length 4 34 false]) (gI (2:Int) a0 a1 a2) (fun x2=>
 cO x2) fun x1=>
 aN (fun x3=>.tup [vI x3.1,vI x3.2]) (fun x3=>[.box [sl aB a0,vI x1.2,so 1 aC a2],.tok a2.length 4 34 false]) (mP x1.1) fun x3=>
 aA vB (!decide (x3.2=(0:Int))) fun x4=>
 aG x4 (
 aA vI (wI (x1.2 - (1:Int))) fun x5=>
 kB<|
 cO (x5,x3.2)) (
 okM (x3.1,x1.2))
def gG (a0:(List aR)) (a1:(List aL)) (a2:Int) (a3:(List aI)):Option (Except Flt (aR × Int)) :=
 BQ (fun (x1:Unit)=>[(0,.ptr 0 0),(1,sl bA a0),(4,.ptr 2 0)]) (fun (x1:Unit)=>[.box [sl aB a1,vI a2,so 1 aC a3],.tok a3.length 4 34 false,.box [vS ([]:Str),vS ([]:Str),.v (.slice none 0 0),vI (0:Int),vI (0:Int),vI (0:Int),vI (0:Int),.v (.slice none 0 0)]]) (fun (x1:Unit)=>
 Zy 14 13 5<|
 aN (fun x5=>.tup [(ag bA) x5.1,vI x5.2.1,vI x5.2.2]) (fun x5=>[.box [sl aB a1,vI a2,so 1 aC a3],.tok a3.length 4 34 false,.box [vS ([]:Str),vS ([]:Str),.v (.slice none 0 0),vI (0:Int),vI (0:Int),vI (0:Int),vI (0:Int),.v (.slice none 0 0)]]) (m5 a1 a2) fun x5=>
 aA vB (!decide (x5.2.2=(0:Int))) fun x6=>
 aG x6 (
 kB<|
 cO (x5.2.1,x5.2.2)) (
 aN vB (fun x7=>[.box [sl aB a1,vI a2,so 1 aC a3],.tok a3.length 4 34 false,.box [vS ([]:Str),vS ([]:Str),.v (.slice none 0 0),vI (0:Int),vI (0:Int),vI (0:Int),vI (0:Int),.v (.slice none 0 0)],.box [vS x5.1.Name,vS x5.1.E.S.Name,sl aF x5.1.E.S.M,vI x5.1.E.Op,vI x5.1.E.V,vI x5.1.For,vI x5.1.Keep,sl aJ x5.1.Labels]]) (jP a0 x5.1.Name) fun x7=>
 aG x7 (
 aA vI (wI (a2 + (1:Int))) fun x8=>
 kB<|
 cO (x8,(6:Int))) (
 okM (x5.1,x5.2.1))))<|
 aA vI ((a0.length:Int)) fun x2=>
 aA vB (decide ((16:Int)≤x2)) fun x3=>
 aG x3 (
 bJ [0,1] [.box [sl aB a1,vI a2,so 1 aC a3],.tok a3.length 4 34 false,.box [vS ([]:Str),vS ([]:Str),.v (.slice none 0 0),vI (0:Int),vI (0:Int),vI (0:Int),vI (0:Int),.v (.slice none 0 0)]] (fun x4=>vB x4) (fun x4=>[.box [sl aB a1,vI a2,so 1 aC a3],.tok a3.length 4 34 false,.box [vS ([]:Str),vS ([]:Str),.v (.slice none 0 0),vI (0:Int),vI (0:Int),vI (0:Int),vI (0:Int),.v (.slice none 0 0)]]) (iQ (1:Int) ([114,117,108,101]:Str) a1 a2 a3) fun x4=>
 aG x4 (
 kB<|
 a8<|
 cO (a2,(4:Int))) (
 bE ())) (
 bE ())
def iH (a0:(List aL)) (a1:Int) (a2:(List aI)):Option (Except Flt (aI × Int)) :=
 eP [0,1] [.box [sl aB a0,vI a1,so 1 aC a2],.tok a2.length 4 34 false,.box [vS ([]:Str),vI (0:Int),vI (0:Int),.v (.slice none 0 0)]] (fun x1=>.tup []) (fun x1=>[.box [sl aB a0,vI x1,so 1 aC a2],.tok a2.length 4 34 false,.box [vS ([]:Str),vI (0:Int),vI (0:Int),.v (.slice none 0 0)]]) (cT (1:Int) ([103,114,111,117,112]:Str) a0 a1 a2) (fun x2=>
 cO x2) fun x1=>
 aA vI ((a2.length:Int)) fun x3=>
 aA vB (decide ((16:Int)≤x3)) fun x4=>
 aG x4 (
 aA vI (wI (x1 - (1:Int))) fun x5=>
 kB<|
 cO (x5,(4:Int))) (
 eP [0,1] [.box [sl aB a0,vI x1,so 1 aC a2],.tok a2.length 4 34 false,.box [vS ([]:Str),vI (0:Int),vI (0:Int),.v (.slice none 0 0)]] (fun x6=>vS x6.1) (fun x6=>[.box [sl aB a0,vI x6.2,so 1 aC a2],.tok a2.length 4 34 false,.box [vS ([]:Str),vI (0:Int),vI (0:Int),.v (.slice none 0 0)]]) (gI (1:Int) a0 x1 a2) (fun x7=>
 cO x7) fun x6=>
 aN vB (fun x8=>[.box [sl aB a0,vI x6.2,so 1 aC a2],.tok a2.length 4 34 false,.box [vS ([]:Str),vI (0:Int),vI (0:Int),.v (.slice none 0 0)],.box [vS x6.1,vI (0:Int),vI (0:Int),.v (.slice none 0 0)]]) (fG x6.1) fun x8=>
 aA vB (!x8) fun x9=>
 aG x9 (
 aA vI (wI (x6.2 - (1:Int))) fun x10=>
 kB<|
 cO (x10,(7:Int))) (
 jF<|
 aN vB (fun x11=>[.box [sl aB a0,vI x6.2,so 1 aC a2],.tok a2.length 4 34 false,.box [vS ([]:Str),vI (0:Int),vI (0:Int),.v (.slice none 0 0)],.box [vS x6.1,vI (0:Int),vI (0:Int),.v (.slice none 0 0)]]) (jZ a2 x6.1) fun x11=>
 aG x11 (
 aA vI (wI (x6.2 - (1:Int))) fun x12=>
 kB<|
 cO (x12,(6:Int))) (
 eP [0,1] [.box [sl aB a0,vI x6.2,so 1 aC a2],.tok a2.length 4 34 false,.box [vS ([]:Str),vI (0:Int),vI (0:Int),.v (.slice none 0 0)],.box [vS x6.1,vI (0:Int),vI (0:Int),.v (.slice none 0 0)]] (fun x13=>.tup []) (fun x13=>[.box [sl aB a0,vI x13,so 1 aC a2],.tok a2.length 4 34 false,.box [vS ([]:Str),vI (0:Int),vI (0:Int),.v (.slice none 0 0)],.box [vS x6.1,vI (0:Int),vI (0:Int),.v (.slice none 0 0)]]) (cT (1:Int) ([101,118,101,114,121]:Str) a0 x6.2 a2) (fun x14=>
 cO x14) fun x13=>
 eP [0,1] [.box [sl aB a0,vI x13,so 1 aC a2],.tok a2.length 4 34 false,.box [vS ([]:Str),vI (0:Int),vI (0:Int),.v (.slice none 0 0)],.box [vS x6.1,vI (0:Int),vI (0:Int),.v (.slice none 0 0)]] (fun x15=>vI x15.1) (fun x15=>[.box [sl aB a0,vI x15.2,so 1 aC a2],.tok a2.length 4 34 false,.box [vS ([]:Str),vI (0:Int),vI (0:Int),.v (.slice none 0 0)],.box [vS x6.1,vI (0:Int),vI (0:Int),.v (.slice none 0 0)]]) (eO a0 x13 a2) (fun x16=>
 cO x16) fun x15=>
 aA vB (decide (x15.1=(0:Int))) fun x17=>
 aG x17 (
 aA vI (wI (x15.2 - (1:Int))) fun x18=>
 kB<|
 cO (x18,(2:Int))) (
 bJ [0,1] [.box [sl aB a0,vI x15.2,so 1 aC a2],.tok a2.length 4 34 false,.box [vS ([]:Str),vI (0:Int),vI (0:Int),.v (.slice none 0 0)],.box [vS x6.1,vI x15.1,vI (0:Int),.v (.slice none 0 0)]] (fun x19=>vB x19.1) (fun x19=>[.box [sl aB a0,vI x19.2,so 1 aC a2],.tok a2.length 4 34 false,.box [vS ([]:Str),vI (0:Int),vI (0:Int),.v (.slice none 0 0)],.box [vS x6.1,vI x15.1,vI (0:Int),.v (.slice none 0 0)]]) (dD (1:Int) ([111,102,102,115,101,116]:Str) a0 x15.2 a2) fun x19=>
 aG x19.1 (
 eP [0,1] [.box [sl aB a0,vI x19.2,so 1 aC a2],.tok a2.length 4 34 false,.box [vS ([]:Str),vI (0:Int),vI (0:Int),.v (.slice none 0 0)],.box [vS x6.1,vI x15.1,vI (0:Int),.v (.slice none 0 0)]] (fun x20=>vI x20.1) (fun x20=>[.box [sl aB a0,vI x20.2,so 1 aC a2],.tok a2.length 4 34 false,.box [vS ([]:Str),vI (0:Int),vI (0:Int),.v (.slice none 0 0)],.box [vS x6.1,vI x15.1,vI (0:Int),.v (.slice none 0 0)]]) (eO a0 x19.2 a2) (fun x21=>
 cO x21) fun x20=>
 aA vB (decide (x15.1≤x20.1)) fun x22=>
 aG x22 (
 aA vI (wI (x20.2 - (1:Int))) fun x23=>
 kB<|
 cO (x23,(2:Int))) (
 eP [0,1] [.box [sl aB a0,vI x20.2,so 1 aC a2],.tok a2.length 4 34 false,.box [vS ([]:Str),vI (0:Int),vI (0:Int),.v (.slice none 0 0)],.box [vS x6.1,vI x15.1,vI x20.1,.v (.slice none 0 0)]] (fun x24=>.tup []) (fun x24=>[.box [sl aB a0,vI x24,so 1 aC a2],.tok a2.length 4 34 false,.box [vS ([]:Str),vI (0:Int),vI (0:Int),.v (.slice none 0 0)],.box [vS x6.1,vI x15.1,vI x20.1,.v (.slice none 0 0)]]) (cT (4:Int) ([123]:Str) a0 x20.2 a2) (fun x25=>
 cO x25) fun x24=>
 tokB 3 3 8 42<|
 shM 4<|
 bU (fun (x26:Int × (List aR))=>[(0,.ptr 0 0),(2,.ptr 2 0),(3,.ptr 3 0)]) (fun (x26:Int × (List aR))=>[.box [sl aB a0,vI x26.1,so 1 aC a2],.tok a2.length 4 34 false,.box [vS ([]:Str),vI (0:Int),vI (0:Int),.v (.slice none 0 0)],.box [vS x6.1,vI x15.1,vI x20.1,so 4 bA x26.2],.tok x26.2.length 8 42 false]) (fun (x26:Int × (List aR))=>
 bJ [0,1] [.box [sl aB a0,vI x26.1,so 1 aC a2],.tok a2.length 4 34 false,.box [vS ([]:Str),vI (0:Int),vI (0:Int),.v (.slice none 0 0)],.box [vS x6.1,vI x15.1,vI x20.1,so 4 bA x26.2],.tok x26.2.length 8 42 false] (fun x27=>vB x27.1) (fun x27=>[.box [sl aB a0,vI x27.2,so 1 aC a2],.tok a2.length 4 34 false,.box [vS ([]:Str),vI (0:Int),vI (0:Int),.v (.slice none 0 0)],.box [vS x6.1,vI x15.1,vI x20.1,so 4 bA x26.2],.tok x26.2.length 8 42 false]) (dD (4:Int) ([125]:Str) a0 x26.1 a2) fun x27=>
 aA vB (!x27.1) fun x28=>
 aG x28 (
 Dg [84,86,87,92] (.pf 0 (.pf 2 (.pf 3 (.nd 1 (.nd 4 (.nd 5 (.nd 6 (.nd 7 (.pf 8 (.nd 9 .lf .lf)) .lf) .lf) .lf) .lf) (.nd 4 (.nd 1 (.nd 5 (.nd 6 (.nd 7 (.pf 8 (.nd 9 .lf .lf)) .lf) .lf) .lf) (.nd 5 (.nd 1 (.nd 6 (.nd 7 (.pf 8 (.nd 9 .lf .lf)) .lf) .lf) (.nd 6 (.nd 1 (.nd 7 (.pf 8 (.nd 9 .lf .lf)) .lf) .lf) .lf)) .lf)) .lf)))))<|
 eP [0,1] [.box [sl aB a0,vI x27.2,so 1 aC a2],.tok a2.length 4 34 false,.box [vS ([]:Str),vI (0:Int),vI (0:Int),.v (.slice none 0 0)],.box [vS x6.1,vI x15.1,vI x20.1,so 4 bA x26.2],.tok x26.2.length 8 42 false] (fun x29=>(ag bA) x29.1) (fun x29=>[.box [sl aB a0,vI x29.2,so 1 aC a2],.tok a2.length 4 34 false,.box [vS ([]:Str),vI (0:Int),vI (0:Int),.v (.slice none 0 0)],.box [vS x6.1,vI x15.1,vI x20.1,so 4 bA x26.2],.tok x26.2.length 8 42 false]) (gG x26.2 a0 x27.2 a2) (fun x30=>
 a8<|
 cO x30) fun x29=>
 aA (sx bA) ([x29.1]:(List aR)) fun x31=>
 gdM ((x26.2.length + x31.length) * 112≤140737488355328)<|
 eU (so 4 bA) (fun x32=>[.box [sl aB a0,vI x29.2,so 1 aC a2],.tok a2.length 4 34 false,.box [vS ([]:Str),vI (0:Int),vI (0:Int),.v (.slice none 0 0)],.box [vS x6.1,vI x15.1,vI x20.1,so 4 bA x26.2],.tok x32.length 8 42 false]) (x26.2 ++ x31) fun x32=>
 bE (x29.2,x32)) (
 a8<|
 okM ((⟨x6.1,x15.1,x20.1,x26.2⟩:aI),x27.2))) (x24,([]:List aR)))) (
 eP [0,1] [.box [sl aB a0,vI x19.2,so 1 aC a2],.tok a2.length 4 34 false,.box [vS ([]:Str),vI (0:Int),vI (0:Int),.v (.slice none 0 0)],.box [vS x6.1,vI x15.1,vI (0:Int),.v (.slice none 0 0)]] (fun x33=>.tup []) (fun x33=>[.box [sl aB a0,vI x33,so 1 aC a2],.tok a2.length 4 34 false,.box [vS ([]:Str),vI (0:Int),vI (0:Int),.v (.slice none 0 0)],.box [vS x6.1,vI x15.1,vI (0:Int),.v (.slice none 0 0)]]) (cT (4:Int) ([123]:Str) a0 x19.2 a2) (fun x34=>
 cO x34) fun x33=>
 tokB 3 3 8 42<|
 shM 4<|
 bU (fun (x35:Int × (List aR))=>[(0,.ptr 0 0),(2,.ptr 2 0),(3,.ptr 3 0)]) (fun (x35:Int × (List aR))=>[.box [sl aB a0,vI x35.1,so 1 aC a2],.tok a2.length 4 34 false,.box [vS ([]:Str),vI (0:Int),vI (0:Int),.v (.slice none 0 0)],.box [vS x6.1,vI x15.1,vI (0:Int),so 4 bA x35.2],.tok x35.2.length 8 42 false]) (fun (x35:Int × (List aR))=>
 bJ [0,1] [.box [sl aB a0,vI x35.1,so 1 aC a2],.tok a2.length 4 34 false,.box [vS ([]:Str),vI (0:Int),vI (0:Int),.v (.slice none 0 0)],.box [vS x6.1,vI x15.1,vI (0:Int),so 4 bA x35.2],.tok x35.2.length 8 42 false] (fun x36=>vB x36.1) (fun x36=>[.box [sl aB a0,vI x36.2,so 1 aC a2],.tok a2.length 4 34 false,.box [vS ([]:Str),vI (0:Int),vI (0:Int),.v (.slice none 0 0)],.box [vS x6.1,vI x15.1,vI (0:Int),so 4 bA x35.2],.tok x35.2.length 8 42 false]) (dD (4:Int) ([125]:Str) a0 x35.1 a2) fun x36=>
 aA vB (!x36.1) fun x37=>
 aG x37 (
 Dg [84,86,87,92] (.pf 0 (.pf 2 (.pf 3 (.nd 1 (.nd 4 (.nd 5 (.nd 6 (.nd 7 (.pf 8 (.nd 9 .lf .lf)) .lf) .lf) .lf) .lf) (.nd 4 (.nd 1 (.nd 5 (.nd 6 (.nd 7 (.pf 8 (.nd 9 .lf .lf)) .lf) .lf) .lf) (.nd 5 (.nd 1 (.nd 6 (.nd 7 (.pf 8 (.nd 9 .lf .lf)) .lf) .lf) (.nd 6 (.nd 1 (.nd 7 (.pf 8 (.nd 9 .lf .lf)) .lf) .lf) .lf)) .lf)) .lf)))))<|
 eP [0,1] [.box [sl aB a0,vI x36.2,so 1 aC a2],.tok a2.length 4 34 false,.box [vS ([]:Str),vI (0:Int),vI (0:Int),.v (.slice none 0 0)],.box [vS x6.1,vI x15.1,vI (0:Int),so 4 bA x35.2],.tok x35.2.length 8 42 false] (fun x38=>(ag bA) x38.1) (fun x38=>[.box [sl aB a0,vI x38.2,so 1 aC a2],.tok a2.length 4 34 false,.box [vS ([]:Str),vI (0:Int),vI (0:Int),.v (.slice none 0 0)],.box [vS x6.1,vI x15.1,vI (0:Int),so 4 bA x35.2],.tok x35.2.length 8 42 false]) (gG x35.2 a0 x36.2 a2) (fun x39=>
 a8<|
 cO x39) fun x38=>
 aA (sx bA) ([x38.1]:(List aR)) fun x40=>
 gdM ((x35.2.length + x40.length) * 112≤140737488355328)<|
 eU (so 4 bA) (fun x41=>[.box [sl aB a0,vI x38.2,so 1 aC a2],.tok a2.length 4 34 false,.box [vS ([]:Str),vI (0:Int),vI (0:Int),.v (.slice none 0 0)],.box [vS x6.1,vI x15.1,vI (0:Int),so 4 bA x35.2],.tok x41.length 8 42 false]) (x35.2 ++ x40) fun x41=>
 bE (x38.2,x41)) (
 a8<|
 okM ((⟨x6.1,x15.1,(0:Int),x35.2⟩:aI),x36.2))) (x33,([]:List aR)))))))
def mK (z:Flt) (a0:Str) (a1:(List aI)) (a2:Int) (a3:Int) (a4:(List aL)):Option ((List aI) × Int × Int) :=
 Lc<|
 Lc<|
 r7 [1,2,3] [0] [(false,0),(false,1),(false,2),(false,3),(true,4),(true,5),(true,6)]<|
 aA vI ((a0.length:Int)) fun x1=>
 aA vI ((a4.length:Int)) fun x2=>
 aA vB (decide (z.1 < x2)) fun x3=>
 aG x3 (
 bS a4 z.1 fun x4=>
 aH (([]:(List aI)),x4.At,z.2)) (
 aH (([]:(List aI)),x1,z.2))
def dP (a0:Str):Option ((List aI) × Int × Int) :=
 aN (fun x1=>.tup [(sl aB) x1.1,vI x1.2.1,vI x1.2.2]) (fun x1=>[.box [vS a0],.box [.v (.slice none 0 0)],.box [vI (0:Int)],.box [vI (0:Int)]]) (oZ a0) fun x1=>
 aA vB (!decide (x1.2.2=(0:Int))) fun x2=>
 aG x2 (
 Dg [] (.nd 0 (.nd 1 (.nd 2 (.nd 3 (.nd 4 .lf .lf) .lf) .lf) (.nd 2 (.nd 1 (.nd 3 (.nd 4 .lf .lf) .lf) (.nd 3 (.nd 1 (.nd 4 .lf .lf) .lf) .lf)) .lf)) (.nd 1 (.nd 0 (.nd 2 (.nd 3 (.nd 4 .lf .lf) .lf) .lf) (.nd 2 (.nd 0 (.nd 3 (.nd 4 .lf .lf) .lf) .lf) .lf)) (.nd 2 (.nd 0 (.nd 1 (.nd 3 (.nd 4 .lf .lf) .lf) (.nd 3 (.nd 1 (.nd 4 .lf .lf) .lf) .lf)) (.nd 1 (.nd 0 (.nd 3 (.nd 4 .lf .lf) .lf) .lf) .lf)) .lf)))<|
 aH (([]:(List aI)),x1.2.1,x1.2.2)) (
 QR 1 5<|
 tokB 5 2 4 34<|
 shM 6<|
 bU (fun (x3:Int × (List aI))=>[(1,.ptr 0 0),(2,.ptr 1 0),(3,.ptr 2 0),(4,.ptr 3 0),(5,.ptr 4 0),(6,.ptr 5 0)]) (fun (x3:Int × (List aI))=>[.box [vS a0],.box [.v (.slice none 0 0)],.box [vI x1.2.1],.box [vI x1.2.2],.box [sl aB x1.1],.box [sl aB x1.1,vI x3.1,so 6 aC x3.2],.tok x3.2.length 4 34 false]) (fun (x3:Int × (List aI))=>
 aA vI ((x1.1.length:Int)) fun x4=>
 aA vB (decide (x3.1 < x4)) fun x5=>
 aG x5 (
 Dg [28,29,30,31,33,37,38] (.pf 0 (.pf 1 (.pf 2 (.pf 3 (.pf 5 (.nd 4 (.nd 6 (.nd 7 (.nd 8 (.pf 9 (.pf 10 (.nd 11 .lf .lf))) .lf) .lf) .lf) (.nd 6 (.nd 4 (.nd 7 (.nd 8 (.pf 9 (.pf 10 (.nd 11 .lf .lf))) .lf) .lf) (.nd 7 (.nd 4 (.nd 8 (.pf 9 (.pf 10 (.nd 11 .lf .lf))) .lf) .lf) .lf)) .lf)))))))<|
 eP [5,6] [.box [vS a0],.box [.v (.slice none 0 0)],.box [vI x1.2.1],.box [vI x1.2.2],.box [sl aB x1.1],.box [sl aB x1.1,vI x3.1,so 6 aC x3.2],.tok x3.2.length 4 34 false] (fun x6=>(ag aC) x6.1) (fun x6=>[.box [vS a0],.box [.v (.slice none 0 0)],.box [vI x1.2.1],.box [vI x1.2.2],.box [sl aB x1.1],.box [sl aB x1.1,vI x6.2,so 6 aC x3.2],.tok x3.2.length 4 34 false]) (iH x1.1 x3.1 x3.2) (fun x7=>
 a8<|
 NQ [(2,.ptr 1 0),(3,.ptr 2 0),(4,.ptr 3 0)] [.box [vS a0],.box [sl aC ([]:List aI)],.box [vI x1.2.1],.box [vI x1.2.2],.box [sl aB x1.1]] (mK x7 a0 ([]:List aI) x1.2.1 x1.2.2 x1.1) fun x8=>
 aH (x8.1,x8.2.1,x8.2.2)) fun x6=>
 aA (sx aC) ([x6.1]:(List aI)) fun x9=>
 gdM ((x3.2.length + x9.length) * 56≤140737488355328)<|
 eU (so 6 aC) (fun x10=>[.box [vS a0],.box [.v (.slice none 0 0)],.box [vI x1.2.1],.box [vI x1.2.2],.box [sl aB x1.1],.box [sl aB x1.1,vI x6.2,so 6 aC x3.2],.tok x10.length 4 34 false]) (x3.2 ++ x9) fun x10=>
 bE (x6.2,x10)) (
 a8<|
 r7 [1,2,3] [0,1,2,3] [(false,0),(false,1),(false,2),(false,3),(false,4),(false,5),(true,6),(true,7),(true,8)]<|
 aA vI ((a0.length:Int)) fun x11=>
 aH (x3.2,x11,(0:Int)))) ((0:Int),([]:List aI)))
def tE (a0:cN):Option (Bool) :=
 aN vB (fun x1=>[.box [vS a0.Name,sl aF a0.M]]) (fG a0.Name) fun x1=>
 aA vB (!x1) fun x2=>
 aG x2 (
 aH false) (
 aA vI ((a0.M.length:Int)) fun x3=>
 aA vB (decide ((8:Int) < x3)) fun x4=>
 aG x4 (
 aH false) (
 aA vI ((a0.M.length:Int)) fun x5=>
 bU (fun (x6:Int)=>[(16,sl aF a0.M),(17,vI x5),(18,vI x6)]) (fun (x6:Int)=>[]) (fun (x6:Int)=>
 aA vB (decide (x6 < x5)) fun x7=>
 aG x7 (
 bS a0.M x6 fun x8=>
 aN vB (fun x9=>[.box [vS x8.Name,vS x8.Value,vB x8.Not]]) (fG x8.Name) fun x9=>
 aA vB (!x9) fun x10=>
 aG x10 (
 a8<|
 aH false) (
 aA vI ((x8.Value.length:Int)) fun x11=>
 aA vB (decide ((64:Int) < x11)) fun x12=>
 aG x12 (
 a8<|
 aH false) (
 aA vI (wI (x6 + (1:Int))) fun x13=>
 bE x13))) (
 a8<|
 aH true)) (0:Int)))
def qY (a0:bX):Option (Bool) :=
 aN vB (fun x1=>[.box [vS a0.S.Name,sl aF a0.S.M,vI a0.Op,vI a0.V]]) (tE a0.S) fun x1=>
 aG x1 (
 aN vB (fun x2=>[.box [vS a0.S.Name,sl aF a0.S.M,vI a0.Op,vI a0.V]]) (oL a0.Op) fun x2=>
 aG x2 (
 aN vB (fun x3=>[.box [vS a0.S.Name,sl aF a0.S.M,vI a0.Op,vI a0.V]]) (oC a0.V) fun x3=>
 aH x3) (
 aH false)) (
 aH false)
def rZ (a0:(List aQ)):Option (Bool) :=
 aA vI ((a0.length:Int)) fun x1=>
 aA vB (decide ((16:Int) < x1)) fun x2=>
 aG x2 (
 aH false) (
 aA vI ((a0.length:Int)) fun x3=>
 bU (fun (x4:Int)=>[(0,sl aJ a0),(8,sl aJ a0),(9,vI x3),(10,vI x4)]) (fun (x4:Int)=>[]) (fun (x4:Int)=>
 aA vB (decide (x4 < x3)) fun x5=>
 aG x5 (
 bS a0 x4 fun x6=>
 aN vB (fun x7=>[.box [vS x6.Name,vS x6.Value]]) (fG x6.Name) fun x7=>
 aA vB (!x7) fun x8=>
 aG x8 (
 a8<|
 aH false) (
 aA vI ((x6.Value.length:Int)) fun x9=>
 aA vB (decide ((64:Int) < x9)) fun x10=>
 aG x10 (
 a8<|
 aH false) (
 aA vB (decide ((0:Int) < x4)) fun x11=>
 aA vI (wI (x4 - (1:Int))) fun x12=>
 aG x11 (
 bS a0 x12 fun x13=>
 aA vB (!ltS x13.Name x6.Name) fun x14=>
 aG x14 (
 a8<|
 aH false) (
 aA vI (wI (x4 + (1:Int))) fun x15=>
 bE x15)) (
 aA vI (wI (x4 + (1:Int))) fun x16=>
 bE x16)))) (
 a8<|
 aH true)) (0:Int))
def oM (a0:aR):Option (Bool) :=
 aN vB (fun x1=>[.box [vS a0.Name,vS a0.E.S.Name,sl aF a0.E.S.M,vI a0.E.Op,vI a0.E.V,vI a0.For,vI a0.Keep,sl aJ a0.Labels]]) (fG a0.Name) fun x1=>
 aG x1 (
 aN vB (fun x2=>[.box [vS a0.Name,vS a0.E.S.Name,sl aF a0.E.S.M,vI a0.E.Op,vI a0.E.V,vI a0.For,vI a0.Keep,sl aJ a0.Labels]]) (qY a0.E) fun x2=>
 aG x2 (
 aN vB (fun x3=>[.box [vS a0.Name,vS a0.E.S.Name,sl aF a0.E.S.M,vI a0.E.Op,vI a0.E.V,vI a0.For,vI a0.Keep,sl aJ a0.Labels]]) (nC a0.For) fun x3=>
 aG x3 (
 aN vB (fun x4=>[.box [vS a0.Name,vS a0.E.S.Name,sl aF a0.E.S.M,vI a0.E.Op,vI a0.E.V,vI a0.For,vI a0.Keep,sl aJ a0.Labels]]) (nC a0.Keep) fun x4=>
 aG x4 (
 aN vB (fun x5=>[.box [vS a0.Name,vS a0.E.S.Name,sl aF a0.E.S.M,vI a0.E.Op,vI a0.E.V,vI a0.For,vI a0.Keep,sl aJ a0.Labels]]) (rZ a0.Labels) fun x5=>
 aG x5 (
 aN vB (fun x6=>[.box [vS a0.Name,vS a0.E.S.Name,sl aF a0.E.S.M,vI a0.E.Op,vI a0.E.V,vI a0.For,vI a0.Keep,sl aJ a0.Labels]]) (lB a0.Labels) fun x6=>
 aA vB (!x6) fun x7=>
 aH x7) (
 aH false)) (
 aH false)) (
 aH false)) (
 aH false)) (
 aH false)
def uY (a0:aI):Option (Bool) :=
 aN vB (fun x1=>[.box [vS a0.Name,vI a0.Interval,vI a0.Offset,sl bA a0.Rules]]) (fG a0.Name) fun x1=>
 aA vB (!x1) fun x2=>
 aG x2 (
 aH false) (
 aN vB (fun x3=>[.box [vS a0.Name,vI a0.Interval,vI a0.Offset,sl bA a0.Rules]]) (nC a0.Interval) fun x3=>
 aA vB (!x3) fun x4=>
 aG x4 (
 aH false) (
 aA vB (decide (a0.Interval=(0:Int))) fun x5=>
 aG x5 (
 aH false) (
 aA vB (decide (a0.Offset < (0:Int))) fun x6=>
 aG x6 (
 aH false) (
 aA vB (decide (a0.Interval≤a0.Offset)) fun x7=>
 aG x7 (
 aH false) (
 aA vI ((a0.Rules.length:Int)) fun x8=>
 aA vB (decide ((16:Int) < x8)) fun x9=>
 aG x9 (
 aH false) (
 aA vI ((a0.Rules.length:Int)) fun x10=>
 bU (fun (x11:Int)=>[(1,.ptr 0 0),(37,sl bA a0.Rules),(38,vI x10),(39,vI x11)]) (fun (x11:Int)=>[.box [vS a0.Name,vI a0.Interval,vI a0.Offset,sl bA a0.Rules]]) (fun (x11:Int)=>
 aA vB (decide (x11 < x10)) fun x12=>
 aG x12 (
 bS a0.Rules x11 fun x13=>
 jF<|
 aN vB (fun x14=>[.box [vS a0.Name,vI a0.Interval,vI a0.Offset,sl bA a0.Rules],.box [vS x13.Name,vS x13.E.S.Name,sl aF x13.E.S.M,vI x13.E.Op,vI x13.E.V,vI x13.For,vI x13.Keep,sl aJ x13.Labels]]) (oM x13) fun x14=>
 aA vB (!x14) fun x15=>
 aG x15 (
 a8<|
 aH false) (
 gdM (0≤(0:Int)∧(0:Int)≤x11∧x11≤(a0.Rules.length:Int))<|
 aA (sl bA) ((a0.Rules.take x11.toNat).drop (0:Int).toNat) fun x16=>
 aN vB (fun x17=>[.box [vS a0.Name,vI a0.Interval,vI a0.Offset,sl bA a0.Rules],.box [vS x13.Name,vS x13.E.S.Name,sl aF x13.E.S.M,vI x13.E.Op,vI x13.E.V,vI x13.For,vI x13.Keep,sl aJ x13.Labels]]) (jP x16 x13.Name) fun x17=>
 aG x17 (
 a8<|
 aH false) (
 aA vI (wI (x11 + (1:Int))) fun x18=>
 bE x18))) (
 a8<|
 aH true)) (0:Int)))))))
def fQ (a0:(List aI)):Option (Bool) :=
 aA vI ((a0.length:Int)) fun x1=>
 aA vB (decide ((16:Int) < x1)) fun x2=>
 aG x2 (
 aH false) (
 aA vI ((a0.length:Int)) fun x3=>
 bU (fun (x4:Int)=>[(0,sl aC a0),(8,sl aC a0),(9,vI x3),(10,vI x4)]) (fun (x4:Int)=>[]) (fun (x4:Int)=>
 aA vB (decide (x4 < x3)) fun x5=>
 aG x5 (
 bS a0 x4 fun x6=>
 jF<|
 aN vB (fun x7=>[.box [vS x6.Name,vI x6.Interval,vI x6.Offset,sl bA x6.Rules]]) (uY x6) fun x7=>
 aA vB (!x7) fun x8=>
 aG x8 (
 a8<|
 aH false) (
 gdM (0≤(0:Int)∧(0:Int)≤x4∧x4≤(a0.length:Int))<|
 aA (sl aC) ((a0.take x4.toNat).drop (0:Int).toNat) fun x9=>
 aN vB (fun x10=>[.box [vS x6.Name,vI x6.Interval,vI x6.Offset,sl bA x6.Rules]]) (jZ x9 x6.Name) fun x10=>
 aG x10 (
 a8<|
 aH false) (
 aA vI (wI (x4 + (1:Int))) fun x11=>
 bE x11))) (
 a8<|
 aH true)) (0:Int))
def lK (a0:Int):Option (Str) :=
 aN vB (fun x1=>[]) (nC a0) fun x1=>
 aA vB (!x1) fun x2=>
 aG x2 (
 aH ([]:Str)) (
 aA vB (decide (a0=(0:Int))) fun x3=>
 aG x3 (
 aH ([48,115]:Str)) (
 bU (fun (x4:Int × Int × Str)=>[(0,vI x4.1),(3,vS x4.2.2),(12,.agg ((gl0.map BB).flatten.map .ofD)),(13,vI x4.2.1)]) (fun (x4:Int × Int × Str)=>[]) (fun (x4:Int × Int × Str)=>
 aA vB (decide (x4.2.1 < (5:Int))) fun x5=>
 aG x5 (
 bS gl0 x4.2.1 fun x6=>
 gdM (x6.size ≠ 0)<|
 aA vI (wI (Int.tdiv x4.1 x6.size)) fun x7=>
 aA vB (decide ((0:Int) < x7)) fun x8=>
 aG x8 (
 jF<|
 aN vS (fun x9=>[.box [vS x6.letters,vI x6.size]]) (strconv_Itoa x7) fun x9=>
 gdM (x9.length + x6.letters.length≤9223372036854775807)<|
 aA vS (x9 ++ x6.letters) fun x10=>
 gdM (x4.2.2.length + x10.length≤9223372036854775807)<|
 aA vS (x4.2.2 ++ x10) fun x11=>
 gdM (x6.size ≠ 0)<|
 aA vI (Int.tmod x4.1 x6.size) fun x12=>
 aA vI (wI (x4.2.1 + (1:Int))) fun x13=>
 bE (x12,x13,x11)) (
 gdM (x6.size ≠ 0)<|
 aA vI (Int.tmod x4.1 x6.size) fun x14=>
 aA vI (wI (x4.2.1 + (1:Int))) fun x15=>
 bE (x14,x15,x4.2.2))) (
 a8<|
 aH x4.2.2)) (a0,(0:Int),([]:Str))))
def bR (a0:Str) (a1:(List Int)):Option (Int × Unit × (List Int)) :=
 bJ [0,1] [.bld 61 (so 1 (cK .u8) a1),tk a1.length 1 5] (fun x1=>.tup []) (fun x1=>[.bld 61 (so 1 (cK .u8) a1),tk a1.length 1 5]) (ES a1) fun x1=>
 gdM ((a1.length + (d8 a0).length) * 1≤140737488355328)<|
 eU (so 1 (cK .u8)) (fun x2=>[.bld 61 (so 1 (cK .u8) a1),tk x2.length 1 5]) (a1 ++ (d8 a0)) fun x2=>
 aA vI ((a0.length:Int)) fun x3=>
 aH (x3,(),x2)
def kF (a0:Str):Option (Str) :=
 eU (so 0 (cK .u8)) (fun x1=>[tk x1.length 1 5]) ([(34:Int)]:(List Int)) fun x1=>
 bU (fun (x2:(List Int) × Int)=>[(0,vS a0),(3,so 0 (cK .u8) x2.1),(4,vI x2.2)]) (fun (x2:(List Int) × Int)=>[tk x2.1.length 1 5]) (fun (x2:(List Int) × Int)=>
 aA vI ((a0.length:Int)) fun x3=>
 aA vB (decide (x2.2 < x3)) fun x4=>
 aG x4 (
 bS a0 x2.2 fun x5=>
 aA vB (decide ((x5.toNat:Int)=(92:Int))) fun x6=>
 aG x6 (
 aA (sx (cK .u8)) ([(92:Int),(x5.toNat:Int)]:(List Int)) fun x7=>
 gdM ((x2.1.length + x7.length) * 1≤140737488355328)<|
 eU (so 0 (cK .u8)) (fun x8=>[tk x8.length 1 5]) (x2.1 ++ x7) fun x8=>
 aA vI (wI (x2.2 + (1:Int))) fun x9=>
 bE (x8,x9)) (
 aA vB (decide ((x5.toNat:Int)=(34:Int))) fun x10=>
 aG x10 (
 aA (sx (cK .u8)) ([(92:Int),(x5.toNat:Int)]:(List Int)) fun x11=>
 gdM ((x2.1.length + x11.length) * 1≤140737488355328)<|
 eU (so 0 (cK .u8)) (fun x12=>[tk x12.length 1 5]) (x2.1 ++ x11) fun x12=>
 aA vI (wI (x2.2 + (1:Int))) fun x13=>
 bE (x12,x13)) (
 aA vB (decide ((x5.toNat:Int)=(10:Int))) fun x14=>
 aG x14 (
 aA (sx (cK .u8)) ([(92:Int),(110:Int)]:(List Int)) fun x15=>
 gdM ((x2.1.length + x15.length) * 1≤140737488355328)<|
 eU (so 0 (cK .u8)) (fun x16=>[tk x16.length 1 5]) (x2.1 ++ x15) fun x16=>
 aA vI (wI (x2.2 + (1:Int))) fun x17=>
 bE (x16,x17)) (
 aA (sx (cK .u8)) ([(x5.toNat:Int)]:(List Int)) fun x18=>
 gdM ((x2.1.length + x18.length) * 1≤140737488355328)<|
 eU (so 0 (cK .u8)) (fun x19=>[tk x19.length 1 5]) (x2.1 ++ x18) fun x19=>
 aA vI (wI (x2.2 + (1:Int))) fun x20=>
 bE (x19,x20))))) (
 a8<|
 aA (sx (cK .u8)) ([(34:Int)]:(List Int)) fun x21=>
 gdM ((x2.1.length + x21.length) * 1≤140737488355328)<|
 eU (so 0 (cK .u8)) (fun x22=>[tk x22.length 1 5]) (x2.1 ++ x21) fun x22=>
 aA vS (d7 x22) fun x23=>
 aH x23)) (x1,(0:Int))
def uN (a0:cN):Option (Str) :=
 aN vB (fun x1=>[.box [vS a0.Name,sl aF a0.M]]) (tE a0) fun x1=>
 aA vB (!x1) fun x2=>
 aG x2 (
 aH ([]:Str)) (
 aA vI ((a0.M.length:Int)) fun x3=>
 aA vB (decide (x3=(0:Int))) fun x4=>
 aG x4 (
 aH a0.Name) (
 aA vI ((a0.M.length:Int)) fun x5=>
 bU (fun (x6:Int × Str)=>[(3,vS x6.2),(20,sl aF a0.M),(21,vI x5),(22,vI x6.1)]) (fun (x6:Int × Str)=>[]) (fun (x6:Int × Str)=>
 aA vB (decide (x6.1 < x5)) fun x7=>
 aG x7 (
 bS a0.M x6.1 fun x8=>
 aA vB (decide (x6.1=(0:Int))) fun x9=>
 aG x9 (
 aG x8.Not (
 jF<|
 gdM (([123]:Str).length + x8.Name.length≤9223372036854775807)<|
 aA vS (([123]:Str) ++ x8.Name) fun x10=>
 gdM (x10.length + ([33,61]:Str).length≤9223372036854775807)<|
 aA vS (x10 ++ ([33,61]:Str)) fun x11=>
 aN vS (fun x12=>[.box [vS x8.Name,vS x8.Value,vB true]]) (kF x8.Value) fun x12=>
 gdM (x11.length + x12.length≤9223372036854775807)<|
 aA vS (x11 ++ x12) fun x13=>
 gdM (x6.2.length + x13.length≤9223372036854775807)<|
 aA vS (x6.2 ++ x13) fun x14=>
 aA vI (wI (x6.1 + (1:Int))) fun x15=>
 bE (x15,x14)) (
 jF<|
 gdM (([123]:Str).length + x8.Name.length≤9223372036854775807)<|
 aA vS (([123]:Str) ++ x8.Name) fun x16=>
 gdM (x16.length + ([61]:Str).length≤9223372036854775807)<|
 aA vS (x16 ++ ([61]:Str)) fun x17=>
 aN vS (fun x18=>[.box [vS x8.Name,vS x8.Value,vB false]]) (kF x8.Value) fun x18=>
 gdM (x17.length + x18.length≤9223372036854775807)<|
 aA vS (x17 ++ x18) fun x19=>
 gdM (x6.2.length + x19.length≤9223372036854775807)<|
 aA vS (x6.2 ++ x19) fun x20=>
 aA vI (wI (x6.1 + (1:Int))) fun x21=>
 bE (x21,x20))) (
 aG x8.Not (
 jF<|
 gdM (([44]:Str).length + x8.Name.length≤9223372036854775807)<|
 aA vS (([44]:Str) ++ x8.Name) fun x22=>
 gdM (x22.length + ([33,61]:Str).length≤9223372036854775807)<|
 aA vS (x22 ++ ([33,61]:Str)) fun x23=>
 aN vS (fun x24=>[.box [vS x8.Name,vS x8.Value,vB true]]) (kF x8.Value) fun x24=>
 gdM (x23.length + x24.length≤9223372036854775807)<|
 aA vS (x23 ++ x24) fun x25=>
 gdM (x6.2.length + x25.length≤9223372036854775807)<|
 aA vS (x6.2 ++ x25) fun x26=>
 aA vI (wI (x6.1 + (1:Int))) fun x27=>
 bE (x27,x26)) (
 jF<|
 gdM (([44]:Str).length + x8.Name.length≤9223372036854775807)<|
 aA vS (([44]:Str) ++ x8.Name) fun x28=>
 gdM (x28.length + ([61]:Str).length≤9223372036854775807)<|
 aA vS (x28 ++ ([61]:Str)) fun x29=>
 aN vS (fun x30=>[.box [vS x8.Name,vS x8.Value,vB false]]) (kF x8.Value) fun x30=>
 gdM (x29.length + x30.length≤9223372036854775807)<|
 aA vS (x29 ++ x30) fun x31=>
 gdM (x6.2.length + x31.length≤9223372036854775807)<|
 aA vS (x6.2 ++ x31) fun x32=>
 aA vI (wI (x6.1 + (1:Int))) fun x33=>
 bE (x33,x32)))) (
 a8<|
 gdM (x6.2.length + ([125]:Str).length≤9223372036854775807)<|
 aA vS (x6.2 ++ ([125]:Str)) fun x34=>
 aH x34)) ((0:Int),a0.Name)))
def hY (a0:Str) (a1:Int):Option (Str) :=
 bU (fun (x1:Str)=>[(0,vS x1),(1,vK .u8 a1)]) (fun (x1:Str)=>[]) (fun (x1:Str)=>
 aA vI ((x1.length:Int)) fun x2=>
 aA vB (decide ((0:Int) < x2)) fun x3=>
 aA vI ((x1.length:Int)) fun x4=>
 aA vI (wI (x4 - (1:Int))) fun x5=>
 aG x3 (
 bS x1 x5 fun x6=>
 aA vB (decide ((x6.toNat:Int)=a1)) fun x7=>
 aG x7 (
 aA vI ((x1.length:Int)) fun x8=>
 aA vI (wI (x8 - (1:Int))) fun x9=>
 gdM (0≤(0:Int)∧(0:Int)≤x9∧x9≤(x1.length:Int))<|
 aA vS ((x1.take x9.toNat).drop (0:Int).toNat) fun x10=>
 bE x10) (
 a8<|
 aH x1)) (
 a8<|
 aH x1)) a0
def gD (a0:Str) (a1:Str):Option (Str) :=
 aA vB (decide (a0=([]:Str))) fun x1=>
 aA vB (decide (a1=([]:Str))) fun x2=>
 aA vB (bif x1 then true else x2) fun x3=>
 aG x3 (
 aH a0) (
 aA vI ((a1.length:Int)) fun x4=>
 aA vB (decide (x4=(1:Int))) fun x5=>
 aG x5 (
 bS a1 (0:Int) fun x6=>
 aA vB (decide ((x6.toNat:Int) < (128:Int))) fun x7=>
 aG x7 (
 aN vS (fun x8=>[]) (hY a0 (x6.toNat:Int)) fun x8=>
 aH x8) (
 noM)) (
 noM))
def vA (a0:Int):Option (Str) :=
 aN vB (fun x1=>[]) (oC a0) fun x1=>
 aA vB (!x1) fun x2=>
 aG x2 (
 aH ([]:Str)) (
 aA vB (decide (a0 < (0:Int))) fun x3=>
 aG x3 (
 aA vI (wI (0 - a0)) fun x4=>
 aA vI (wI (Int.tdiv x4 (1000:Int))) fun x5=>
 aN vS (fun x6=>[]) (strconv_Itoa x5) fun x6=>
 gdM (([45]:Str).length + x6.length≤9223372036854775807)<|
 aA vS (([45]:Str) ++ x6) fun x7=>
 aA vI (Int.tmod x4 (1000:Int)) fun x8=>
 aA vB (decide (x8=(0:Int))) fun x9=>
 aG x9 (
 aH x7) (
 aA vI (Int.tmod x4 (1000:Int)) fun x10=>
 aA vI (wI ((1000:Int) + x10)) fun x11=>
 aN vS (fun x12=>[]) (strconv_Itoa x11) fun x12=>
 gdM (0≤(1:Int)∧(1:Int)≤(x12.length:Int)∧(x12.length:Int)≤(x12.length:Int))<|
 aA vS ((x12.take (x12.length:Int).toNat).drop (1:Int).toNat) fun x13=>
 gdM (x7.length + ([46]:Str).length≤9223372036854775807)<|
 aA vS (x7 ++ ([46]:Str)) fun x14=>
 aN vS (fun x15=>[]) (gD x13 ([48]:Str)) fun x15=>
 gdM (x14.length + x15.length≤9223372036854775807)<|
 aA vS (x14 ++ x15) fun x16=>
 aH x16)) (
 aA vI (wI (Int.tdiv a0 (1000:Int))) fun x17=>
 aN vS (fun x18=>[]) (strconv_Itoa x17) fun x18=>
 gdM (([]:Str).length + x18.length≤9223372036854775807)<|
 aA vS (([]:Str) ++ x18) fun x19=>
 aA vI (Int.tmod a0 (1000:Int)) fun x20=>
 aA vB (decide (x20=(0:Int))) fun x21=>
 aG x21 (
 aH x19) (
 aA vI (Int.tmod a0 (1000:Int)) fun x22=>
 aA vI (wI ((1000:Int) + x22)) fun x23=>
 aN vS (fun x24=>[]) (strconv_Itoa x23) fun x24=>
 gdM (0≤(1:Int)∧(1:Int)≤(x24.length:Int)∧(x24.length:Int)≤(x24.length:Int))<|
 aA vS ((x24.take (x24.length:Int).toNat).drop (1:Int).toNat) fun x25=>
 gdM (x19.length + ([46]:Str).length≤9223372036854775807)<|
 aA vS (x19 ++ ([46]:Str)) fun x26=>
 aN vS (fun x27=>[]) (gD x25 ([48]:Str)) fun x27=>
 gdM (x26.length + x27.length≤9223372036854775807)<|
 aA vS (x26 ++ x27) fun x28=>
 aH x28)))
def sB (a0:bX):Option (Str) :=
 aN vB (fun x1=>[.box [vS a0.S.Name,sl aF a0.S.M,vI a0.Op,vI a0.V]]) (qY a0) fun x1=>
 aA vB (!x1) fun x2=>
 aG x2 (
 aH ([]:Str)) (
 jF<|
 aN vS (fun x3=>[.box [vS a0.S.Name,sl aF a0.S.M,vI a0.Op,vI a0.V]]) (uN a0.S) fun x3=>
 gdM (x3.length + ([32]:Str).length≤9223372036854775807)<|
 aA vS (x3 ++ ([32]:Str)) fun x4=>
 bS gl1 a0.Op fun x5=>
 gdM (x4.length + x5.length≤9223372036854775807)<|
 aA vS (x4 ++ x5) fun x6=>
 gdM (x6.length + ([32]:Str).length≤9223372036854775807)<|
 aA vS (x6 ++ ([32]:Str)) fun x7=>
 aN vS (fun x8=>[.box [vS a0.S.Name,sl aF a0.S.M,vI a0.Op,vI a0.V]]) (vA a0.V) fun x8=>
 gdM (x7.length + x8.length≤9223372036854775807)<|
 aA vS (x7 ++ x8) fun x9=>
 aH x9)
def mZ (a0:aR):Option (Str) :=
 aN vB (fun x1=>[.box [vS a0.Name,vS a0.E.S.Name,sl aF a0.E.S.M,vI a0.E.Op,vI a0.E.V,vI a0.For,vI a0.Keep,sl aJ a0.Labels]]) (oM a0) fun x1=>
 aA vB (!x1) fun x2=>
 aG x2 (
 aH ([]:Str)) (
 jF<|
 gdM (([114,117,108,101,32]:Str).length + a0.Name.length≤9223372036854775807)<|
 aA vS (([114,117,108,101,32]:Str) ++ a0.Name) fun x3=>
 gdM (x3.length + ([58,32]:Str).length≤9223372036854775807)<|
 aA vS (x3 ++ ([58,32]:Str)) fun x4=>
 aN vS (fun x5=>[.box [vS a0.Name,vS a0.E.S.Name,sl aF a0.E.S.M,vI a0.E.Op,vI a0.E.V,vI a0.For,vI a0.Keep,sl aJ a0.Labels]]) (sB a0.E) fun x5=>
 gdM (x4.length + x5.length≤9223372036854775807)<|
 aA vS (x4 ++ x5) fun x6=>
 BQ (fun (x7:Str)=>[(1,.ptr 0 0),(3,vS x7)]) (fun (x7:Str)=>[.box [vS a0.Name,vS a0.E.S.Name,sl aF a0.E.S.M,vI a0.E.Op,vI a0.E.V,vI a0.For,vI a0.Keep,sl aJ a0.Labels]]) (fun (x7:Str)=>
 BQ (fun (x12:Str)=>[(1,.ptr 0 0),(3,vS x12)]) (fun (x12:Str)=>[.box [vS a0.Name,vS a0.E.S.Name,sl aF a0.E.S.M,vI a0.E.Op,vI a0.E.V,vI a0.For,vI a0.Keep,sl aJ a0.Labels]]) (fun (x12:Str)=>
 aA vI ((a0.Labels.length:Int)) fun x17=>
 aA vB (decide ((0:Int) < x17)) fun x18=>
 aG x18 (
 gdM (x12.length + ([32,108,97,98,101,108,115,32,123]:Str).length≤9223372036854775807)<|
 aA vS (x12 ++ ([32,108,97,98,101,108,115,32,123]:Str)) fun x19=>
 aA vI ((a0.Labels.length:Int)) fun x20=>
 bU (fun (x21:Str × Int)=>[(3,vS x21.1),(42,sl aJ a0.Labels),(43,vI x20),(44,vI x21.2)]) (fun (x21:Str × Int)=>[]) (fun (x21:Str × Int)=>
 aA vB (decide (x21.2 < x20)) fun x22=>
 aG x22 (
 bS a0.Labels x21.2 fun x23=>
 aA vB (decide ((0:Int) < x21.2)) fun x24=>
 aG x24 (
 gdM (x21.1.length + ([44]:Str).length≤9223372036854775807)<|
 aA vS (x21.1 ++ ([44]:Str)) fun x25=>
 jF<|
 gdM (x23.Name.length + ([61]:Str).length≤9223372036854775807)<|
 aA vS (x23.Name ++ ([61]:Str)) fun x26=>
 aN vS (fun x27=>[.box [vS x23.Name,vS x23.Value]]) (kF x23.Value) fun x27=>
 gdM (x26.length + x27.length≤9223372036854775807)<|
 aA vS (x26 ++ x27) fun x28=>
 gdM (x25.length + x28.length≤9223372036854775807)<|
 aA vS (x25 ++ x28) fun x29=>
 aA vI (wI (x21.2 + (1:Int))) fun x30=>
 bE (x29,x30)) (
 jF<|
 gdM (x23.Name.length + ([61]:Str).length≤9223372036854775807)<|
 aA vS (x23.Name ++ ([61]:Str)) fun x31=>
 aN vS (fun x32=>[.box [vS x23.Name,vS x23.Value]]) (kF x23.Value) fun x32=>
 gdM (x31.length + x32.length≤9223372036854775807)<|
 aA vS (x31 ++ x32) fun x33=>
 gdM (x21.1.length + x33.length≤9223372036854775807)<|
 aA vS (x21.1 ++ x33) fun x34=>
 aA vI (wI (x21.2 + (1:Int))) fun x35=>
 bE (x34,x35))) (
 a8<|
 gdM (x21.1.length + ([125]:Str).length≤9223372036854775807)<|
 aA vS (x21.1 ++ ([125]:Str)) fun x36=>
 gdM (x36.length + ([59]:Str).length≤9223372036854775807)<|
 aA vS (x36 ++ ([59]:Str)) fun x37=>
 aH x37)) (x19,(0:Int))) (
 gdM (x12.length + ([59]:Str).length≤9223372036854775807)<|
 aA vS (x12 ++ ([59]:Str)) fun x38=>
 aH x38))<|
 aA vB (decide ((0:Int) < a0.Keep)) fun x13=>
 aG x13 (
 aN vS (fun x14=>[.box [vS a0.Name,vS a0.E.S.Name,sl aF a0.E.S.M,vI a0.E.Op,vI a0.E.V,vI a0.For,vI a0.Keep,sl aJ a0.Labels]]) (lK a0.Keep) fun x14=>
 gdM (([32,107,101,101,112,32]:Str).length + x14.length≤9223372036854775807)<|
 aA vS (([32,107,101,101,112,32]:Str) ++ x14) fun x15=>
 gdM (x7.length + x15.length≤9223372036854775807)<|
 aA vS (x7 ++ x15) fun x16=>
 bE x16) (
 bE x7))<|
 aA vB (decide ((0:Int) < a0.For)) fun x8=>
 aG x8 (
 aN vS (fun x9=>[.box [vS a0.Name,vS a0.E.S.Name,sl aF a0.E.S.M,vI a0.E.Op,vI a0.E.V,vI a0.For,vI a0.Keep,sl aJ a0.Labels]]) (lK a0.For) fun x9=>
 gdM (([32,102,111,114,32]:Str).length + x9.length≤9223372036854775807)<|
 aA vS (([32,102,111,114,32]:Str) ++ x9) fun x10=>
 gdM (x6.length + x10.length≤9223372036854775807)<|
 aA vS (x6 ++ x10) fun x11=>
 bE x11) (
 bE x6))
def fI (a0:(List aI)):Option (Str) :=
 aN vB (fun x1=>[]) (fQ a0) fun x1=>
 aA vB (!x1) fun x2=>
 aG x2 (
 aH ([]:Str)) (
 Qw 5<|
 aA vI ((a0.length:Int)) fun x3=>
 bU (fun (x4:(List Int) × Int)=>[(3,.ptr 0 0),(11,sl aC a0),(12,vI x3),(13,vI x4.2)]) (fun (x4:(List Int) × Int)=>[.bld 61 (so 1 (cK .u8) x4.1),tk x4.1.length 1 5]) (fun (x4:(List Int) × Int)=>
 aA vB (decide (x4.2 < x3)) fun x5=>
 aG x5 (
 bS a0 x4.2 fun x6=>
 Ja 8<|
 gdM (([103,114,111,117,112,32]:Str).length + x6.Name.length≤9223372036854775807)<|
 aA vS (([103,114,111,117,112,32]:Str) ++ x6.Name) fun x7=>
 gdM (x7.length + ([32,101,118,101,114,121,32]:Str).length≤9223372036854775807)<|
 aA vS (x7 ++ ([32,101,118,101,114,121,32]:Str)) fun x8=>
 aN vS (fun x9=>[.bld 61 (so 1 (cK .u8) x4.1),tk x4.1.length 1 5,.box [vS x6.Name,vI x6.Interval,vI x6.Offset,sl bA x6.Rules]]) (lK x6.Interval) fun x9=>
 gdM (x8.length + x9.length≤9223372036854775807)<|
 aA vS (x8 ++ x9) fun x10=>
 bJ [0,1] [.bld 61 (so 1 (cK .u8) x4.1),tk x4.1.length 1 5,.box [vS x6.Name,vI x6.Interval,vI x6.Offset,sl bA x6.Rules]] (fun x11=>.tup [vI x11.1,vNI x11.2.1]) (fun x11=>[.bld 61 (so 1 (cK .u8) x11.2.2),tk x11.2.2.length 1 5,.box [vS x6.Name,vI x6.Interval,vI x6.Offset,sl bA x6.Rules]]) (bR x10 x4.1) fun x11=>
 aA vB (decide ((0:Int) < x6.Offset)) fun x12=>
 aG x12 (
 aN vS (fun x13=>[.bld 61 (so 1 (cK .u8) x11.2.2),tk x11.2.2.length 1 5,.box [vS x6.Name,vI x6.Interval,vI x6.Offset,sl bA x6.Rules]]) (lK x6.Offset) fun x13=>
 gdM (([32,111,102,102,115,101,116,32]:Str).length + x13.length≤9223372036854775807)<|
 aA vS (([32,111,102,102,115,101,116,32]:Str) ++ x13) fun x14=>
 bJ [0,1] [.bld 61 (so 1 (cK .u8) x11.2.2),tk x11.2.2.length 1 5,.box [vS x6.Name,vI x6.Interval,vI x6.Offset,sl bA x6.Rules]] (fun x15=>.tup [vI x15.1,vNI x15.2.1]) (fun x15=>[.bld 61 (so 1 (cK .u8) x15.2.2),tk x15.2.2.length 1 5,.box [vS x6.Name,vI x6.Interval,vI x6.Offset,sl bA x6.Rules]]) (bR x14 x11.2.2) fun x15=>
 bJ [0,1] [.bld 61 (so 1 (cK .u8) x15.2.2),tk x15.2.2.length 1 5,.box [vS x6.Name,vI x6.Interval,vI x6.Offset,sl bA x6.Rules]] (fun x16=>.tup [vI x16.1,vNI x16.2.1]) (fun x16=>[.bld 61 (so 1 (cK .u8) x16.2.2),tk x16.2.2.length 1 5,.box [vS x6.Name,vI x6.Interval,vI x6.Offset,sl bA x6.Rules]]) (bR ([32,123,10]:Str) x15.2.2) fun x16=>
 aA vI ((x6.Rules.length:Int)) fun x17=>
 bU (fun (x18:(List Int) × Int)=>[(3,.ptr 0 0),(11,sl aC a0),(12,vI x3),(13,vI x4.2),(36,sl bA x6.Rules),(37,vI x17),(38,vI x18.2)]) (fun (x18:(List Int) × Int)=>[.bld 61 (so 1 (cK .u8) x18.1),tk x18.1.length 1 5]) (fun (x18:(List Int) × Int)=>
 aA vB (decide (x18.2 < x17)) fun x19=>
 aG x19 (
 bS x6.Rules x18.2 fun x20=>
 aN vS (fun x21=>[.bld 61 (so 1 (cK .u8) x18.1),tk x18.1.length 1 5,.box [vS x20.Name,vS x20.E.S.Name,sl aF x20.E.S.M,vI x20.E.Op,vI x20.E.V,vI x20.For,vI x20.Keep,sl aJ x20.Labels]]) (mZ x20) fun x21=>
 gdM (([32,32]:Str).length + x21.length≤9223372036854775807)<|
 aA vS (([32,32]:Str) ++ x21) fun x22=>
 gdM (x22.length + ([10]:Str).length≤9223372036854775807)<|
 aA vS (x22 ++ ([10]:Str)) fun x23=>
 bJ [0,1] [.bld 61 (so 1 (cK .u8) x18.1),tk x18.1.length 1 5,.box [vS x20.Name,vS x20.E.S.Name,sl aF x20.E.S.M,vI x20.E.Op,vI x20.E.V,vI x20.For,vI x20.Keep,sl aJ x20.Labels]] (fun x24=>.tup [vI x24.1,vNI x24.2.1]) (fun x24=>[.bld 61 (so 1 (cK .u8) x24.2.2),tk x24.2.2.length 1 5,.box [vS x20.Name,vS x20.E.S.Name,sl aF x20.E.S.M,vI x20.E.Op,vI x20.E.V,vI x20.For,vI x20.Keep,sl aJ x20.Labels]]) (bR x23 x18.1) fun x24=>
 aA vI (wI (x18.2 + (1:Int))) fun x25=>
 bE (x24.2.2,x25)) (
 a8<|
 bJ [0,1] [.bld 61 (so 1 (cK .u8) x18.1),tk x18.1.length 1 5] (fun x26=>.tup [vI x26.1,vNI x26.2.1]) (fun x26=>[.bld 61 (so 1 (cK .u8) x26.2.2),tk x26.2.2.length 1 5]) (bR ([125,10]:Str) x18.1) fun x26=>
 aA vI (wI (x4.2 + (1:Int))) fun x27=>
 bE (x26.2.2,x27))) (x16.2.2,(0:Int))) (
 bJ [0,1] [.bld 61 (so 1 (cK .u8) x11.2.2),tk x11.2.2.length 1 5,.box [vS x6.Name,vI x6.Interval,vI x6.Offset,sl bA x6.Rules]] (fun x28=>.tup [vI x28.1,vNI x28.2.1]) (fun x28=>[.bld 61 (so 1 (cK .u8) x28.2.2),tk x28.2.2.length 1 5,.box [vS x6.Name,vI x6.Interval,vI x6.Offset,sl bA x6.Rules]]) (bR ([32,123,10]:Str) x11.2.2) fun x28=>
 aA vI ((x6.Rules.length:Int)) fun x29=>
 bU (fun (x30:(List Int) × Int)=>[(3,.ptr 0 0),(11,sl aC a0),(12,vI x3),(13,vI x4.2),(36,sl bA x6.Rules),(37,vI x29),(38,vI x30.2)]) (fun (x30:(List Int) × Int)=>[.bld 61 (so 1 (cK .u8) x30.1),tk x30.1.length 1 5]) (fun (x30:(List Int) × Int)=>
 aA vB (decide (x30.2 < x29)) fun x31=>
 aG x31 (
 bS x6.Rules x30.2 fun x32=>
 aN vS (fun x33=>[.bld 61 (so 1 (cK .u8) x30.1),tk x30.1.length 1 5,.box [vS x32.Name,vS x32.E.S.Name,sl aF x32.E.S.M,vI x32.E.Op,vI x32.E.V,vI x32.For,vI x32.Keep,sl aJ x32.Labels]]) (mZ x32) fun x33=>
 gdM (([32,32]:Str).length + x33.length≤9223372036854775807)<|
 aA vS (([32,32]:Str) ++ x33) fun x34=>
 gdM (x34.length + ([10]:Str).length≤9223372036854775807)<|
 aA vS (x34 ++ ([10]:Str)) fun x35=>
 bJ [0,1] [.bld 61 (so 1 (cK .u8) x30.1),tk x30.1.length 1 5,.box [vS x32.Name,vS x32.E.S.Name,sl aF x32.E.S.M,vI x32.E.Op,vI x32.E.V,vI x32.For,vI x32.Keep,sl aJ x32.Labels]] (fun x36=>.tup [vI x36.1,vNI x36.2.1]) (fun x36=>[.bld 61 (so 1 (cK .u8) x36.2.2),tk x36.2.2.length 1 5,.box [vS x32.Name,vS x32.E.S.Name,sl aF x32.E.S.M,vI x32.E.Op,vI x32.E.V,vI x32.For,vI x32.Keep,sl aJ x32.Labels]]) (bR x35 x30.1) fun x36=>
 aA vI (wI (x30.2 + (1:Int))) fun x37=>
 bE (x36.2.2,x37)) (
 a8<|
 bJ [0,1] [.bld 61 (so 1 (cK .u8) x30.1),tk x30.1.length 1 5] (fun x38=>.tup [vI x38.1,vNI x38.2.1]) (fun x38=>[.bld 61 (so 1 (cK .u8) x38.2.2),tk x38.2.2.length 1 5]) (bR ([125,10]:Str) x30.1) fun x38=>
 aA vI (wI (x4.2 + (1:Int))) fun x39=>
 bE (x38.2.2,x39))) (x28.2.2,(0:Int)))) (
 a8<|
 bJ [0,1] [.bld 61 (so 1 (cK .u8) x4.1),tk x4.1.length 1 5] (fun x40=>vS x40) (fun x40=>[.dead,.dead]) (Dj x4.1) fun x40=>
 aH x40)) (([]:List Int),(0:Int)))
def law11_awake:Option (Bool) :=
 aN (fun x1=>.tup [(sl aC) x1.1,vI x1.2.1,vI x1.2.2]) (fun x1=>[]) (dP ([103,114,111,117,112,32,103,32,101,118,101,114,121,32,49,109,32,123,32,114,117,108,101,32,65,58,32,117,112,32,62,32,49,59,32,125]:Str)) fun x1=>
 aN (fun x2=>.tup [(sl aC) x2.1,vI x2.2.1,vI x2.2.2]) (fun x2=>[]) (dP ([103,114,111,117,112,32,103,32,101,118,101,114,121,32,48,115,32,123,125]:Str)) fun x2=>
 aA vB (decide (x1.2.2=(0:Int))) fun x3=>
 aA vI ((([103,114,111,117,112,32,103,32,101,118,101,114,121,32,49,109,32,123,32,114,117,108,101,32,65,58,32,117,112,32,62,32,49,59,32,125]:Str).length:Int)) fun x4=>
 aA vB (decide (x1.2.1=x4)) fun x5=>
 aA vB (bif x3 then x5 else false) fun x6=>
 aA vI ((x1.1.length:Int)) fun x7=>
 aA vB (decide (x7=(1:Int))) fun x8=>
 aA vB (bif x6 then x8 else false) fun x9=>
 aG x9 (
 bS x1.1 (0:Int) fun x10=>
 aA vB (decide (x10.Interval=(60000:Int))) fun x11=>
 aG x11 (
 aA vI ((x10.Rules.length:Int)) fun x12=>
 aA vB (decide (x12=(1:Int))) fun x13=>
 aG x13 (
 aN vB (fun x14=>[]) (fQ x1.1) fun x14=>
 aG x14 (
 aN vS (fun x15=>[]) (fI x1.1) fun x15=>
 aA vB (decide (x15=([103,114,111,117,112,32,103,32,101,118,101,114,121,32,49,109,32,123,10,32,32,114,117,108,101,32,65,58,32,117,112,32,62,32,49,59,10,125,10]:Str))) fun x16=>
 aA vB (decide (x2.2.1=(14:Int))) fun x17=>
 aA vB (bif x16 then x17 else false) fun x18=>
 aA vB (decide (x2.2.2=(2:Int))) fun x19=>
 aA vB (bif x18 then x19 else false) fun x20=>
 aH x20) (
 aA vB (decide (x2.2.1=(14:Int))) fun x21=>
 aA vB (decide (x2.2.2=(2:Int))) fun x22=>
 aH false)) (
 aA vB (decide (x2.2.1=(14:Int))) fun x23=>
 aA vB (decide (x2.2.2=(2:Int))) fun x24=>
 aH false)) (
 aA vB (decide (x2.2.1=(14:Int))) fun x25=>
 aA vB (decide (x2.2.2=(2:Int))) fun x26=>
 aH false)) (
 aA vB (decide (x2.2.1=(14:Int))) fun x27=>
 aA vB (decide (x2.2.2=(2:Int))) fun x28=>
 aH false)
def u6 (a0:cN):Option (Bool) :=
 aA vI ((a0.Name.length:Int)) fun x1=>
 bU (fun (x2:Int × Int)=>[(1,.ptr 0 0),(3,vI x2.1),(4,vI x2.2)]) (fun (x2:Int × Int)=>[.box [vS a0.Name,sl aF a0.M]]) (fun (x2:Int × Int)=>
 aA vI ((a0.M.length:Int)) fun x3=>
 aA vB (decide (x2.2 < x3)) fun x4=>
 aG x4 (
 bS a0.M x2.2 fun x5=>
 aA vI ((x5.Name.length:Int)) fun x6=>
 aA vI (wI (x2.1 + x6)) fun x7=>
 aA vI ((x5.Value.length:Int)) fun x8=>
 aA vI (wI (x7 + x8)) fun x9=>
 aA vI (wI (x2.2 + (1:Int))) fun x10=>
 bE (x9,x10)) (
 a8<|
 aA vI ((a0.M.length:Int)) fun x11=>
 aA vB (decide (x11≤(40:Int))) fun x12=>
 aA vB (decide (x2.1≤(3000:Int))) fun x13=>
 aA vB (bif x12 then x13 else false) fun x14=>
 aH x14)) (x1,(0:Int))
def vH (a0:(List aQ)):Option (Bool) :=
 bU (fun (x1:Int × Int)=>[(0,sl aJ a0),(3,vI x1.1),(4,vI x1.2)]) (fun (x1:Int × Int)=>[]) (fun (x1:Int × Int)=>
 aA vI ((a0.length:Int)) fun x2=>
 aA vB (decide (x1.2 < x2)) fun x3=>
 aG x3 (
 bS a0 x1.2 fun x4=>
 aA vI ((x4.Name.length:Int)) fun x5=>
 aA vI (wI (x1.1 + x5)) fun x6=>
 aA vI ((x4.Value.length:Int)) fun x7=>
 aA vI (wI (x6 + x7)) fun x8=>
 aA vI (wI (x1.2 + (1:Int))) fun x9=>
 bE (x8,x9)) (
 a8<|
 aA vI ((a0.length:Int)) fun x10=>
 aA vB (decide (x10≤(40:Int))) fun x11=>
 aA vB (decide (x1.1≤(3000:Int))) fun x12=>
 aA vB (bif x11 then x12 else false) fun x13=>
 aH x13)) ((0:Int),(0:Int))
def rJ (a0:aR):Option (Bool) :=
 aA vI ((a0.Name.length:Int)) fun x1=>
 aA vB (decide (x1≤(200:Int))) fun x2=>
 aG x2 (
 aN vB (fun x3=>[.box [vS a0.Name,vS a0.E.S.Name,sl aF a0.E.S.M,vI a0.E.Op,vI a0.E.V,vI a0.For,vI a0.Keep,sl aJ a0.Labels]]) (u6 a0.E.S) fun x3=>
 aG x3 (
 aN vB (fun x4=>[.box [vS a0.Name,vS a0.E.S.Name,sl aF a0.E.S.M,vI a0.E.Op,vI a0.E.V,vI a0.For,vI a0.Keep,sl aJ a0.Labels]]) (vH a0.Labels) fun x4=>
 aH x4) (
 aH false)) (
 aH false)
def mL (a0:(List aI)):Option (Bool) :=
 bU (fun (x1:Int)=>[(0,sl aC a0),(3,vI x1)]) (fun (x1:Int)=>[]) (fun (x1:Int)=>
 aA vI ((a0.length:Int)) fun x2=>
 aA vB (decide (x1 < x2)) fun x3=>
 aG x3 (
 bU (fun (x4:Int)=>[(0,sl aC a0),(3,vI x1),(4,vI x4)]) (fun (x4:Int)=>[]) (fun (x4:Int)=>
 bS a0 x1 fun x5=>
 aA vI ((x5.Rules.length:Int)) fun x6=>
 aA vB (decide (x4 < x6)) fun x7=>
 aG x7 (
 bS x5.Rules x4 fun x8=>
 aN vB (fun x9=>[]) (rJ x8) fun x9=>
 aA vB (!x9) fun x10=>
 aG x10 (
 a8<|
 a8<|
 aH false) (
 aA vI (wI (x4 + (1:Int))) fun x11=>
 bE x11)) (
 a8<|
 aA vI ((x5.Rules.length:Int)) fun x12=>
 aA vB (decide ((20:Int) < x12)) fun x13=>
 aG x13 (
 a8<|
 aH false) (
 aA vI ((x5.Name.length:Int)) fun x14=>
 aA vB (decide ((200:Int) < x14)) fun x15=>
 aG x15 (
 a8<|
 aH false) (
 aA vI (wI (x1 + (1:Int))) fun x16=>
 bE x16)))) (0:Int)) (
 a8<|
 aA vI ((a0.length:Int)) fun x17=>
 aA vB (decide (x17≤(20:Int))) fun x18=>
 aH x18)) (0:Int)
def rN (a0:cN) (a1:cN):Option (Bool) :=
 aA vB (!decide (a0.Name=a1.Name)) fun x1=>
 aG x1 (
 aH false) (
 aA vI ((a0.M.length:Int)) fun x2=>
 aA vI ((a1.M.length:Int)) fun x3=>
 aA vB (!decide (x2=x3)) fun x4=>
 aG x4 (
 aH false) (
 bU (fun (x5:Int)=>[(2,.ptr 0 0),(3,.ptr 1 0),(5,vI x5)]) (fun (x5:Int)=>[.box [vS a0.Name,sl aF a0.M],.box [vS a1.Name,sl aF a1.M]]) (fun (x5:Int)=>
 aA vI ((a0.M.length:Int)) fun x6=>
 aA vB (decide (x5 < x6)) fun x7=>
 aG x7 (
 bS a0.M x5 fun x8=>
 bS a1.M x5 fun x9=>
 aA vB (!(decide (x8.Name=x9.Name) && (decide (x8.Value=x9.Value) && ((x8.Not == x9.Not) && true)))) fun x10=>
 aG x10 (
 a8<|
 aH false) (
 aA vI (wI (x5 + (1:Int))) fun x11=>
 bE x11)) (
 a8<|
 aH true)) (0:Int)))
def wS (a0:bX) (a1:bX):Option (Bool) :=
 aN vB (fun x1=>[.box [vS a0.S.Name,sl aF a0.S.M,vI a0.Op,vI a0.V],.box [vS a1.S.Name,sl aF a1.S.M,vI a1.Op,vI a1.V]]) (rN a0.S a1.S) fun x1=>
 aG x1 (
 aA vB (decide (a0.Op=a1.Op)) fun x2=>
 aG x2 (
 aA vB (decide (a0.V=a1.V)) fun x3=>
 aH x3) (
 aH false)) (
 aH false)
def sP (a0:(List aQ)) (a1:(List aQ)):Option (Bool) :=
 aA vI ((a0.length:Int)) fun x1=>
 aA vI ((a1.length:Int)) fun x2=>
 aA vB (!decide (x1=x2)) fun x3=>
 aG x3 (
 aH false) (
 bU (fun (x4:Int)=>[(0,sl aJ a0),(1,sl aJ a1),(5,vI x4)]) (fun (x4:Int)=>[]) (fun (x4:Int)=>
 aA vI ((a0.length:Int)) fun x5=>
 aA vB (decide (x4 < x5)) fun x6=>
 aG x6 (
 bS a0 x4 fun x7=>
 bS a1 x4 fun x8=>
 aA vB (!(decide (x7.Name=x8.Name) && (decide (x7.Value=x8.Value) && true))) fun x9=>
 aG x9 (
 a8<|
 aH false) (
 aA vI (wI (x4 + (1:Int))) fun x10=>
 bE x10)) (
 a8<|
 aH true)) (0:Int))
def oX (a0:aR) (a1:aR):Option (Bool) :=
 aA vB (decide (a0.Name=a1.Name)) fun x1=>
 aG x1 (
 aN vB (fun x2=>[.box [vS a0.Name,vS a0.E.S.Name,sl aF a0.E.S.M,vI a0.E.Op,vI a0.E.V,vI a0.For,vI a0.Keep,sl aJ a0.Labels],.box [vS a1.Name,vS a1.E.S.Name,sl aF a1.E.S.M,vI a1.E.Op,vI a1.E.V,vI a1.For,vI a1.Keep,sl aJ a1.Labels]]) (wS a0.E a1.E) fun x2=>
 aG x2 (
 aA vB (decide (a0.For=a1.For)) fun x3=>
 aG x3 (
 aA vB (decide (a0.Keep=a1.Keep)) fun x4=>
 aG x4 (
 aN vB (fun x5=>[.box [vS a0.Name,vS a0.E.S.Name,sl aF a0.E.S.M,vI a0.E.Op,vI a0.E.V,vI a0.For,vI a0.Keep,sl aJ a0.Labels],.box [vS a1.Name,vS a1.E.S.Name,sl aF a1.E.S.M,vI a1.E.Op,vI a1.E.V,vI a1.For,vI a1.Keep,sl aJ a1.Labels]]) (sP a0.Labels a1.Labels) fun x5=>
 aH x5) (
 aH false)) (
 aH false)) (
 aH false)) (
 aH false)
def lP (a0:(List aI)) (a1:(List aI)):Option (Bool) :=
 aA vI ((a0.length:Int)) fun x1=>
 aA vI ((a1.length:Int)) fun x2=>
 aA vB (!decide (x1=x2)) fun x3=>
 aG x3 (
 aH false) (
 bU (fun (x4:Int)=>[(0,sl aC a0),(1,sl aC a1),(5,vI x4)]) (fun (x4:Int)=>[]) (fun (x4:Int)=>
 aA vI ((a0.length:Int)) fun x5=>
 aA vB (decide (x4 < x5)) fun x6=>
 aG x6 (
 bS a0 x4 fun x7=>
 bS a1 x4 fun x8=>
 aA vB (!decide (x7.Name=x8.Name)) fun x9=>
 aG x9 (
 a8<|
 aH false) (
 aA vB (!decide (x7.Interval=x8.Interval)) fun x10=>
 aG x10 (
 a8<|
 aH false) (
 aA vB (!decide (x7.Offset=x8.Offset)) fun x11=>
 aG x11 (
 a8<|
 aH false) (
 aA vI ((x7.Rules.length:Int)) fun x12=>
 aA vI ((x8.Rules.length:Int)) fun x13=>
 aA vB (!decide (x12=x13)) fun x14=>
 aG x14 (
 a8<|
 aH false) (
 bU (fun (x15:Int)=>[(0,sl aC a0),(1,sl aC a1),(5,vI x4),(6,vI x15)]) (fun (x15:Int)=>[]) (fun (x15:Int)=>
 aA vI ((x7.Rules.length:Int)) fun x16=>
 aA vB (decide (x15 < x16)) fun x17=>
 aG x17 (
 jF<|
 bS x7.Rules x15 fun x18=>
 bS x8.Rules x15 fun x19=>
 aN vB (fun x20=>[]) (oX x18 x19) fun x20=>
 aA vB (!x20) fun x21=>
 aG x21 (
 a8<|
 a8<|
 aH false) (
 aA vI (wI (x15 + (1:Int))) fun x22=>
 bE x22)) (
 a8<|
 aA vI (wI (x4 + (1:Int))) fun x23=>
 bE x23)) (0:Int)))))) (
 a8<|
 aH true)) (0:Int))
def law11_FileBack (a0:(List aI)):Option (Bool) :=
 aN vB (fun x1=>[]) (law11_awake) fun x1=>
 aN vB (fun x2=>[]) (mL a0) fun x2=>
 aA vB (!x2) fun x3=>
 aG x3 (
 aH x1) (
 aN vS (fun x4=>[]) (fI a0) fun x4=>
 aN (fun x5=>.tup [(sl aC) x5.1,vI x5.2.1,vI x5.2.2]) (fun x5=>[]) (dP x4) fun x5=>
 aN vB (fun x6=>[]) (fQ a0) fun x6=>
 aA vB (!x6) fun x7=>
 aG x7 (
 aA vB (decide (x4=([]:Str))) fun x8=>
 aA vB (bif x1 then x8 else false) fun x9=>
 aH x9) (
 aA vB (!decide (x5.2.2=(0:Int))) fun x10=>
 aA vI ((x4.length:Int)) fun x11=>
 aA vB (!decide (x5.2.1=x11)) fun x12=>
 aA vB (bif x10 then true else x12) fun x13=>
 aG x13 (
 aA vB (decide (x4=([]:Str))) fun x14=>
 aA vI ((a0.length:Int)) fun x15=>
 aA vB (decide (x15=(0:Int))) fun x16=>
 aH false) (
 aN vB (fun x17=>[]) (lP x5.1 a0) fun x17=>
 aA vB (!x17) fun x18=>
 aA vB (decide (x4=([]:Str))) fun x19=>
 aA vI ((a0.length:Int)) fun x20=>
 aA vB (decide (x20=(0:Int))) fun x21=>
 aG x18 (
 aH false) (
 aA vB (!(x19 == x21)) fun x22=>
 aG x22 (
 aH false) (
 aA vI ((a0.length:Int)) fun x23=>
 aA vB (decide (x23=(0:Int))) fun x24=>
 aG x24 (
 aH x1) (
 aA vI ((x4.length:Int)) fun x25=>
 aA vI (wI (x25 - (2:Int))) fun x26=>
 gdM (0≤(0:Int)∧(0:Int)≤x26∧x26≤(x4.length:Int))<|
 aA vS ((x4.take x26.toNat).drop (0:Int).toNat) fun x27=>
 aN (fun x28=>.tup [(sl aC) x28.1,vI x28.2.1,vI x28.2.2]) (fun x28=>[]) (dP x27) fun x28=>
 aA vB (decide (x28.2.2=(3:Int))) fun x29=>
 aA vB (bif x1 then x29 else false) fun x30=>
 aA vI ((x4.length:Int)) fun x31=>
 aA vI (wI (x31 - (2:Int))) fun x32=>
 aA vB (decide (x28.2.1=x32)) fun x33=>
 aA vB (bif x30 then x33 else false) fun x34=>
 aH x34))))))
def law11_FileOnce (a0:Str):Option (Bool) :=
 aN vB (fun x1=>[]) (law11_awake) fun x1=>
 aA vI ((a0.length:Int)) fun x2=>
 aA vB (decide ((5000:Int) < x2)) fun x3=>
 aG x3 (
 aH x1) (
 aN (fun x4=>.tup [(sl aC) x4.1,vI x4.2.1,vI x4.2.2]) (fun x4=>[]) (dP a0) fun x4=>
 aA vB (!decide (x4.2.2=(0:Int))) fun x5=>
 aG x5 (
 aA vI ((x4.1.length:Int)) fun x6=>
 aA vB (decide (x6=(0:Int))) fun x7=>
 aA vB (bif x1 then x7 else false) fun x8=>
 aA vB (decide ((0:Int)≤x4.2.1)) fun x9=>
 aA vB (bif x8 then x9 else false) fun x10=>
 aA vI ((a0.length:Int)) fun x11=>
 aA vB (decide (x4.2.1≤x11)) fun x12=>
 aA vB (bif x10 then x12 else false) fun x13=>
 aA vI ((a0.length:Int)) fun x14=>
 aA vB (decide (x4.2.1=x14)) fun x15=>
 aA vB (decide (x4.2.2=(3:Int))) fun x16=>
 aG x13 (
 aA vB (x15 == x16) fun x17=>
 aH x17) (
 aH false)) (
 aN vS (fun x18=>[]) (fI x4.1) fun x18=>
 aN (fun x19=>.tup [(sl aC) x19.1,vI x19.2.1,vI x19.2.2]) (fun x19=>[]) (dP x18) fun x19=>
 aA vI ((a0.length:Int)) fun x20=>
 aA vB (decide (x4.2.1=x20)) fun x21=>
 aA vB (bif x1 then x21 else false) fun x22=>
 aG x22 (
 aN vB (fun x23=>[]) (fQ x4.1) fun x23=>
 aA vB (decide (x19.2.2=(0:Int))) fun x24=>
 aA vB (bif x23 then x24 else false) fun x25=>
 aA vI ((x18.length:Int)) fun x26=>
 aA vB (decide (x19.2.1=x26)) fun x27=>
 aA vB (bif x25 then x27 else false) fun x28=>
 aG x28 (
 aN vB (fun x29=>[]) (lP x4.1 x19.1) fun x29=>
 aG x29 (
 aN vS (fun x30=>[]) (fI x19.1) fun x30=>
 aA vB (decide (x30=x18)) fun x31=>
 aH x31) (
 aH false)) (
 aH false)) (
 aA vB (decide (x19.2.2=(0:Int))) fun x32=>
 aA vI ((x18.length:Int)) fun x33=>
 aA vB (decide (x19.2.1=x33)) fun x34=>
 aH false)))
def law11_FileJoin (a0:Str) (a1:Str):Option (Bool) :=
 aN vB (fun x1=>[]) (law11_awake) fun x1=>
 aA vI ((a0.length:Int)) fun x2=>
 aA vB (decide ((2500:Int) < x2)) fun x3=>
 aA vI ((a1.length:Int)) fun x4=>
 aA vB (decide ((2500:Int) < x4)) fun x5=>
 aA vB (bif x3 then true else x5) fun x6=>
 aG x6 (
 aH x1) (
 aN (fun x7=>.tup [(sl aC) x7.1,vI x7.2.1,vI x7.2.2]) (fun x7=>[]) (dP a0) fun x7=>
 aN (fun x8=>.tup [(sl aC) x8.1,vI x8.2.1,vI x8.2.2]) (fun x8=>[]) (dP a1) fun x8=>
 aA vB (!decide (x7.2.2=(0:Int))) fun x9=>
 aA vB (!decide (x8.2.2=(0:Int))) fun x10=>
 aA vB (bif x9 then true else x10) fun x11=>
 aG x11 (
 aH x1) (
 JG<|
 gdM ((([]:(List aI)).length + x7.1.length) * 56≤140737488355328)<|
 eU (so 0 aC) (fun x12=>[tk x12.length 4 34]) (([]:(List aI)) ++ x7.1) fun x12=>
 gdM ((x12.length + x8.1.length) * 56≤140737488355328)<|
 eU (so 0 aC) (fun x13=>[tk x13.length 4 34]) (x12 ++ x8.1) fun x13=>
 gdM (a0.length + ([10]:Str).length≤9223372036854775807)<|
 aA vS (a0 ++ ([10]:Str)) fun x14=>
 gdM (x14.length + a1.length≤9223372036854775807)<|
 aA vS (x14 ++ a1) fun x15=>
 aN (fun x16=>.tup [(sl aC) x16.1,vI x16.2.1,vI x16.2.2]) (fun x16=>[tk x13.length 4 34]) (dP x15) fun x16=>
 aN vB (fun x17=>[.tok x13.length 4 34 false]) (fQ x13) fun x17=>
 aG x17 (
 aA vB (decide (x16.2.2=(0:Int))) fun x18=>
 aA vB (bif x1 then x18 else false) fun x19=>
 aG x19 (
 aN vB (fun x20=>[.tok x13.length 4 34 false]) (lP x16.1 x13) fun x20=>
 aH x20) (
 aH false)) (
 aA vB (decide (x16.2.2=(6:Int))) fun x21=>
 aA vB (decide (x16.2.2=(4:Int))) fun x22=>
 aA vB (bif x21 then true else x22) fun x23=>
 aA vB (bif x1 then x23 else false) fun x24=>
 aA vI ((a0.length:Int)) fun x25=>
 aA vB (decide (x25 < x16.2.1)) fun x26=>
 aA vB (bif x24 then x26 else false) fun x27=>
 aA vI ((x16.1.length:Int)) fun x28=>
 aA vB (decide (x28=(0:Int))) fun x29=>
 aA vB (bif x27 then x29 else false) fun x30=>
 aH x30)))
def law11_FileRules (a0:(List aI)) (a1:Int) (a2:Int) (a3:Int):Option (Bool) :=
 aN vB (fun x1=>[]) (law11_awake) fun x1=>
 aN vB (fun x2=>[]) (mL a0) fun x2=>
 aA vB (!x2) fun x3=>
 aG x3 (
 aA vI ((a0.length:Int)) fun x4=>
 aA vB (decide (x4=(0:Int))) fun x5=>
 aH x1) (
 aN vB (fun x6=>[]) (fQ a0) fun x6=>
 aA vB (!x6) fun x7=>
 aA vI ((a0.length:Int)) fun x8=>
 aA vB (decide (x8=(0:Int))) fun x9=>
 aA vB (bif x7 then true else x9) fun x10=>
 aG x10 (
 aH x1) (
 aA vI (Fj .i64 a1 (65535:Int)) fun x11=>
 aA vI ((a0.length:Int)) fun x12=>
 gdM (x12 ≠ 0)<|
 aA vI (Int.tmod x11 x12) fun x13=>
 bS a0 x13 fun x14=>
 aA vI ((x14.Rules.length:Int)) fun x15=>
 aA vB (decide (x15=(0:Int))) fun x16=>
 aG x16 (
 aH x1) (
 Zy 11 10 11<|
 aA vI (Fj .i64 a2 (65535:Int)) fun x17=>
 aA vI ((x14.Rules.length:Int)) fun x18=>
 gdM (x18 ≠ 0)<|
 aA vI (Int.tmod x17 x18) fun x19=>
 bS x14.Rules x19 fun x20=>
 aA (sx bA) ([x20]:(List aR)) fun x21=>
 aA (sx aC) ([(⟨([103]:Str),(1000:Int),(0:Int),x21⟩:aI)]:(List aI)) fun x22=>
 aN vS (fun x23=>[.box [vS x14.Name,vI x14.Interval,vI x14.Offset,sl bA x14.Rules],.box [vS x20.Name,vS x20.E.S.Name,sl aF x20.E.S.M,vI x20.E.Op,vI x20.E.V,vI x20.For,vI x20.Keep,sl aJ x20.Labels],.box [vS ([103]:Str),vI (1000:Int),vI (0:Int),sx bA x21]]) (fI x22) fun x23=>
 r7 [3] [0,1,2,4,5,6,7,8,9,10,11,12,13,14,16] [(false,0),(false,1),(false,2),(false,4),(false,5),(false,6),(false,7),(false,8),(false,9),(false,10),(false,11),(false,12),(false,13),(false,14),(true,3),(true,15),(false,16),(true,17)]<|
 aA vI (Fj .i64 a3 (65535:Int)) fun x24=>
 aA vI ((x14.Rules.length:Int)) fun x25=>
 gdM (x25 ≠ 0)<|
 aA vI (Int.tmod x24 x25) fun x26=>
 bS x14.Rules x26 fun x27=>
 aA (sx bA) ([x27]:(List aR)) fun x28=>
 gdM (0 < ([]:(List aR)).length + x14.Rules.length)<|
 gdM ((([]:(List aR)).length + x14.Rules.length) * 112≤140737488355328)<|
 eU (so 4 bA) (fun x29=>[.box [vS x14.Name,vI x14.Interval,vI x14.Offset,sl bA x14.Rules],.box [vS x20.Name,vS x20.E.S.Name,sl aF x20.E.S.M,vI x20.E.Op,vI x20.E.V,vI x20.For,vI x20.Keep,sl aJ x20.Labels],.box [vS ([103]:Str),vI (1000:Int),vI (0:Int),sx bA x21],.box [vS x14.Name,vI x14.Interval,vI x14.Offset,sl bA x14.Rules],tk x29.length 8 42]) (([]:(List aR)) ++ x14.Rules) fun x29=>
 gdM ((x29.length + x28.length) * 112≤140737488355328)<|
 eU (so 4 bA) (fun x30=>[.box [vS x14.Name,vI x14.Interval,vI x14.Offset,sl bA x14.Rules],.box [vS x20.Name,vS x20.E.S.Name,sl aF x20.E.S.M,vI x20.E.Op,vI x20.E.V,vI x20.For,vI x20.Keep,sl aJ x20.Labels],.box [vS ([103]:Str),vI (1000:Int),vI (0:Int),sx bA x21],.box [vS x14.Name,vI x14.Interval,vI x14.Offset,sl bA x14.Rules],tk x30.length 8 42]) (x29 ++ x28) fun x30=>
 Rr 3 3 4<|
 aG x1 (
 aN vB (fun x31=>[.box [vS x14.Name,vI x14.Interval,vI x14.Offset,sl bA x14.Rules],.box [vS x20.Name,vS x20.E.S.Name,sl aF x20.E.S.M,vI x20.E.Op,vI x20.E.V,vI x20.For,vI x20.Keep,sl aJ x20.Labels],.box [vS ([103]:Str),vI (1000:Int),vI (0:Int),sx bA x21],.box [vS x14.Name,vI x14.Interval,vI x14.Offset,sl bA x30],.tok x30.length 8 42 false]) (oM x20) fun x31=>
 aG x31 (
 aN vS (fun x32=>[.box [vS x14.Name,vI x14.Interval,vI x14.Offset,sl bA x14.Rules],.box [vS x20.Name,vS x20.E.S.Name,sl aF x20.E.S.M,vI x20.E.Op,vI x20.E.V,vI x20.For,vI x20.Keep,sl aJ x20.Labels],.box [vS ([103]:Str),vI (1000:Int),vI (0:Int),sx bA x21],.box [vS x14.Name,vI x14.Interval,vI x14.Offset,sl bA x30],.tok x30.length 8 42 false]) (mZ x20) fun x32=>
 gdM (([103,114,111,117,112,32,103,32,101,118,101,114,121,32,49,115,32,123,10,32,32]:Str).length + x32.length≤9223372036854775807)<|
 aA vS (([103,114,111,117,112,32,103,32,101,118,101,114,121,32,49,115,32,123,10,32,32]:Str) ++ x32) fun x33=>
 gdM (x33.length + ([10,125,10]:Str).length≤9223372036854775807)<|
 aA vS (x33 ++ ([10,125,10]:Str)) fun x34=>
 aA vB (decide (x23=x34)) fun x35=>
 aG x35 (
 aA (sx aC) ([(⟨x14.Name,x14.Interval,x14.Offset,x30⟩:aI)]:(List aI)) fun x36=>
 aN vB (fun x37=>[.box [vS x14.Name,vI x14.Interval,vI x14.Offset,sl bA x14.Rules],.box [vS x20.Name,vS x20.E.S.Name,sl aF x20.E.S.M,vI x20.E.Op,vI x20.E.V,vI x20.For,vI x20.Keep,sl aJ x20.Labels],.box [vS ([103]:Str),vI (1000:Int),vI (0:Int),sx bA x21],.box [vS x14.Name,vI x14.Interval,vI x14.Offset,sl bA x30],.tok x30.length 8 42 false]) (fQ x36) fun x37=>
 aA vB (!x37) fun x38=>
 aG x38 (
 aA (sx aC) ([(⟨([103]:Str),(1000:Int),(0:Int),x21⟩:aI),(⟨([103]:Str),(1000:Int),(0:Int),x21⟩:aI)]:(List aI)) fun x39=>
 aN vB (fun x40=>[.box [vS x14.Name,vI x14.Interval,vI x14.Offset,sl bA x14.Rules],.box [vS x20.Name,vS x20.E.S.Name,sl aF x20.E.S.M,vI x20.E.Op,vI x20.E.V,vI x20.For,vI x20.Keep,sl aJ x20.Labels],.box [vS ([103]:Str),vI (1000:Int),vI (0:Int),sx bA x21],.box [vS x14.Name,vI x14.Interval,vI x14.Offset,sl bA x30],.tok x30.length 8 42 false]) (fQ x39) fun x40=>
 aA vB (!x40) fun x41=>
 aH x41) (
 aH false)) (
 aH false)) (
 aH false)) (
 aH false))))
def law11_FileApart (a0:(List aI)) (a1:(List aI)):Option (Bool) :=
 aN vB (fun x1=>[]) (law11_awake) fun x1=>
 aN vB (fun x2=>[]) (mL a0) fun x2=>
 aA vB (!x2) fun x3=>
 aG x3 (
 aH x1) (
 aN vB (fun x4=>[]) (mL a1) fun x4=>
 aA vB (!x4) fun x5=>
 aG x5 (
 aH x1) (
 aN vB (fun x6=>[]) (fQ a0) fun x6=>
 aA vB (!x6) fun x7=>
 aG x7 (
 aH x1) (
 aN vB (fun x8=>[]) (fQ a1) fun x8=>
 aA vB (!x8) fun x9=>
 aG x9 (
 aH x1) (
 JG<|
 gdM ((([]:(List aI)).length + a0.length) * 56≤140737488355328)<|
 eU (so 0 aC) (fun x10=>[tk x10.length 4 34]) (([]:(List aI)) ++ a0) fun x10=>
 gdM ((x10.length + a1.length) * 56≤140737488355328)<|
 eU (so 0 aC) (fun x11=>[tk x11.length 4 34]) (x10 ++ a1) fun x11=>
 aG x1 (
 aN vS (fun x12=>[tk x11.length 4 34]) (fI a0) fun x12=>
 aN vS (fun x13=>[tk x11.length 4 34]) (fI a1) fun x13=>
 aA vB (decide (x12=x13)) fun x14=>
 aN vB (fun x15=>[tk x11.length 4 34]) (lP a0 a1) fun x15=>
 aA vB (x14 == x15) fun x16=>
 aG x16 (
 aN vB (fun x17=>[.tok x11.length 4 34 false]) (fQ x11) fun x17=>
 aA vB (!x17) fun x18=>
 aG x18 (
 aA vB (bif true then true else false) fun x19=>
 aH x19) (
 aN vS (fun x20=>[.tok x11.length 4 34 false]) (fI x11) fun x20=>
 aN vS (fun x21=>[.tok x11.length 4 34 false]) (fI a0) fun x21=>
 aN vS (fun x22=>[.tok x11.length 4 34 false]) (fI a1) fun x22=>
 gdM (x21.length + x22.length≤9223372036854775807)<|
 aA vS (x21 ++ x22) fun x23=>
 aA vB (decide (x20=x23)) fun x24=>
 aA vB (bif false then true else x24) fun x25=>
 aH x25)) (
 aH false)) (
 aH false)))))
end
end Go.Proofs.YthgenmkengbmmaaGreatDoor.AM
