/- A part of the proof: Md. -/
import Derived.Test.YtgkmbhllcekagaaGreatDoorTy
set_option linter.all false
/- The models. -/
namespace Go.Proofs.YtgkmbhllcekagaaGreatDoor.AM
noncomputable section
def s7 (a0:Int):Option (Bool) :=
 aA vB (decide (a0=(32:Int))) fun x1=>
 aA vB (decide (a0=(9:Int))) fun x2=>
 aA vB (bif x1 then true else x2) fun x3=>
 aA vB (decide (a0=(13:Int))) fun x4=>
 aA vB (bif x3 then true else x4) fun x5=>
 aA vB (decide (a0=(10:Int))) fun x6=>
 aA vB (bif x5 then true else x6) fun x7=>
 aH x7
def eY (a0:Str) (a1:Int):Option (Int) :=
 bK (fun (x1:Int)=>[(0,vS a0),(1,vI x1)]) (fun (x1:Int)=>[]) (fun (x1:Int)=>
 aA vI ((a0.length:Int)) fun x2=>
 aA vB (decide (x1 < x2)) fun x3=>
 aG x3 (
 bG a0 x1 fun x4=>
 aI vB (fun x5=>[]) (s7 (x4.toNat:Int)) fun x5=>
 aG x5 (
 aA vI (wI (x1 + (1:Int))) fun x6=>
 aU x6) (
 aA vB (decide ((x4.toNat:Int)=(35:Int))) fun x7=>
 aG x7 (
 bK (fun (x8:Int)=>[(0,vS a0),(1,vI x8)]) (fun (x8:Int)=>[]) (fun (x8:Int)=>
 aA vI ((a0.length:Int)) fun x9=>
 aA vB (decide (x8 < x9)) fun x10=>
 aG x10 (
 bG a0 x8 fun x11=>
 aA vB (!decide ((x11.toNat:Int)=(10:Int))) fun x12=>
 aG x12 (
 aA vI (wI (x8 + (1:Int))) fun x13=>
 aU x13) (
 aY<|
 aU x8)) (
 aY<|
 aU x8)) x1) (
 aY<|
 aH x1))) (
 aY<|
 aH x1)) a1
def oM (a0:Int):Option (Bool) :=
 aA vB (decide ((97:Int)≤a0)) fun x1=>
 aA vB (decide (a0≤(122:Int))) fun x2=>
 aA vB (bif x1 then x2 else false) fun x3=>
 aA vB (decide ((65:Int)≤a0)) fun x4=>
 aA vB (decide (a0≤(90:Int))) fun x5=>
 aA vB (bif x4 then x5 else false) fun x6=>
 aA vB (bif x3 then true else x6) fun x7=>
 aA vB (decide (a0=(95:Int))) fun x8=>
 aA vB (bif x7 then true else x8) fun x9=>
 aH x9
def nK (a0:Int):Option (Bool) :=
 aA vB (decide ((48:Int)≤a0)) fun x1=>
 aA vB (decide (a0≤(57:Int))) fun x2=>
 aA vB (bif x1 then x2 else false) fun x3=>
 aH x3
def cZ (a0:Str):Option (Int × Int) :=
 bG a0 (0:Int) fun x1=>
 aI vB (fun x2=>[]) (oM (x1.toNat:Int)) fun x2=>
 aG x2 (
 aH ((1:Int),(0:Int))) (
 aI vB (fun x3=>[]) (nK (x1.toNat:Int)) fun x3=>
 aG x3 (
 aH ((2:Int),(0:Int))) (
 aA vB (decide ((x1.toNat:Int)=(45:Int))) fun x4=>
 aA vI ((a0.length:Int)) fun x5=>
 aA vB (decide ((1:Int) < x5)) fun x6=>
 aA vB (bif x4 then x6 else false) fun x7=>
 aG x7 (
 bG a0 (1:Int) fun x8=>
 aI vB (fun x9=>[]) (nK (x8.toNat:Int)) fun x9=>
 aG x9 (
 aH ((2:Int),(0:Int))) (
 aA vB (decide ((x1.toNat:Int)=(34:Int))) fun x10=>
 aG x10 (
 aH ((3:Int),(0:Int))) (
 aI vI (fun x11=>[]) (strings_IndexByte ([61,33,60,62]:Str) (x1.toNat:Int)) fun x11=>
 aA vB (decide ((0:Int)≤x11)) fun x12=>
 aA vI ((a0.length:Int)) fun x13=>
 aA vB (decide ((1:Int) < x13)) fun x14=>
 aA vB (bif x12 then x14 else false) fun x15=>
 aG x15 (
 aA vB (decide ((x8.toNat:Int)=(61:Int))) fun x16=>
 aG x16 (
 aA vI (wI ((1:Int) + (1:Int))) fun x17=>
 aH ((4:Int),x17)) (
 aI vI (fun x18=>[]) (strings_IndexByte ([123,125,40,41,44,58,59,61,60,62]:Str) (x1.toNat:Int)) fun x18=>
 aA vB (decide ((0:Int)≤x18)) fun x19=>
 aG x19 (
 aH ((4:Int),(1:Int))) (
 aH ((0:Int),(0:Int))))) (
 aI vI (fun x20=>[]) (strings_IndexByte ([123,125,40,41,44,58,59,61,60,62]:Str) (x1.toNat:Int)) fun x20=>
 aA vB (decide ((0:Int)≤x20)) fun x21=>
 aG x21 (
 aH ((4:Int),(1:Int))) (
 aH ((0:Int),(0:Int))))))) (
 aA vB (decide ((x1.toNat:Int)=(34:Int))) fun x22=>
 aG x22 (
 aH ((3:Int),(0:Int))) (
 aI vI (fun x23=>[]) (strings_IndexByte ([61,33,60,62]:Str) (x1.toNat:Int)) fun x23=>
 aA vB (decide ((0:Int)≤x23)) fun x24=>
 aA vI ((a0.length:Int)) fun x25=>
 aA vB (decide ((1:Int) < x25)) fun x26=>
 aA vB (bif x24 then x26 else false) fun x27=>
 aG x27 (
 bG a0 (1:Int) fun x28=>
 aA vB (decide ((x28.toNat:Int)=(61:Int))) fun x29=>
 aG x29 (
 aA vI (wI ((1:Int) + (1:Int))) fun x30=>
 aH ((4:Int),x30)) (
 aI vI (fun x31=>[]) (strings_IndexByte ([123,125,40,41,44,58,59,61,60,62]:Str) (x1.toNat:Int)) fun x31=>
 aA vB (decide ((0:Int)≤x31)) fun x32=>
 aG x32 (
 aH ((4:Int),(1:Int))) (
 aH ((0:Int),(0:Int))))) (
 aI vI (fun x33=>[]) (strings_IndexByte ([123,125,40,41,44,58,59,61,60,62]:Str) (x1.toNat:Int)) fun x33=>
 aA vB (decide ((0:Int)≤x33)) fun x34=>
 aG x34 (
 aH ((4:Int),(1:Int))) (
 aH ((0:Int),(0:Int))))))))
def sI (a0:Str):Option (Str × Int × Int) :=
 Ce 5 1 5<|
 bK (fun (x1:(List Int) × Int)=>[(0,vS a0),(5,so 0 (cK .u8) x1.1),(6,vI x1.2)]) (fun (x1:(List Int) × Int)=>[tk x1.1.length 1 5]) (fun (x1:(List Int) × Int)=>
 aA vI ((a0.length:Int)) fun x2=>
 aA vB (decide (x1.2 < x2)) fun x3=>
 aG x3 (
 bG a0 x1.2 fun x4=>
 aA vB (decide ((x4.toNat:Int)=(34:Int))) fun x5=>
 aG x5 (
 aA vS (fG x1.1) fun x6=>
 aA vI (wI (x1.2 + (1:Int))) fun x7=>
 aY<|
 aH (x6,x7,(0:Int))) (
 aA vB (decide ((x4.toNat:Int)=(10:Int))) fun x8=>
 aG x8 (
 aY<|
 aH (([]:Str),(0:Int),(12:Int))) (
 aA vB (!decide ((x4.toNat:Int)=(92:Int))) fun x9=>
 aG x9 (
 aA (sx (cK .u8)) ([(x4.toNat:Int)]:(List Int)) fun x10=>
 gdM ((x1.1.length + x10.length) * 1≤140737488355328)<|
 dT (so 0 (cK .u8)) (fun x11=>[tk x11.length 1 5]) (x1.1 ++ x10) fun x11=>
 aA vI (wI (x1.2 + (1:Int))) fun x12=>
 aU (x11,x12)) (
 aA vI (wI (x1.2 + (1:Int))) fun x13=>
 aA vI ((a0.length:Int)) fun x14=>
 aA vB (decide (x13=x14)) fun x15=>
 aG x15 (
 aY<|
 aH (([]:Str),(0:Int),(12:Int))) (
 aA vI (wI (x1.2 + (1:Int))) fun x16=>
 bG a0 x16 fun x17=>
 aA vB (decide ((x17.toNat:Int)=(92:Int))) fun x18=>
 aA vI (wI (x1.2 + (1:Int))) fun x19=>
 aG x18 (
 aA vI (wI (x1.2 + (1:Int))) fun x20=>
 bG a0 x20 fun x21=>
 aA (sx (cK .u8)) ([(x21.toNat:Int)]:(List Int)) fun x22=>
 gdM ((x1.1.length + x22.length) * 1≤140737488355328)<|
 dT (so 0 (cK .u8)) (fun x23=>[tk x23.length 1 5]) (x1.1 ++ x22) fun x23=>
 aA vI (wI (x20 + (1:Int))) fun x24=>
 aU (x23,x24)) (
 bG a0 x19 fun x25=>
 aA vB (decide ((x25.toNat:Int)=(34:Int))) fun x26=>
 aG x26 (
 aA vI (wI (x1.2 + (1:Int))) fun x27=>
 bG a0 x27 fun x28=>
 aA (sx (cK .u8)) ([(x28.toNat:Int)]:(List Int)) fun x29=>
 gdM ((x1.1.length + x29.length) * 1≤140737488355328)<|
 dT (so 0 (cK .u8)) (fun x30=>[tk x30.length 1 5]) (x1.1 ++ x29) fun x30=>
 aA vI (wI (x27 + (1:Int))) fun x31=>
 aU (x30,x31)) (
 aA vI (wI (x1.2 + (1:Int))) fun x32=>
 bG a0 x32 fun x33=>
 aA vB (decide ((x33.toNat:Int)=(110:Int))) fun x34=>
 aG x34 (
 aA vI (wI (x1.2 + (1:Int))) fun x35=>
 aA (sx (cK .u8)) ([(10:Int)]:(List Int)) fun x36=>
 gdM ((x1.1.length + x36.length) * 1≤140737488355328)<|
 dT (so 0 (cK .u8)) (fun x37=>[tk x37.length 1 5]) (x1.1 ++ x36) fun x37=>
 aA vI (wI (x35 + (1:Int))) fun x38=>
 aU (x37,x38)) (
 aY<|
 aH (([]:Str),x1.2,(1:Int)))))))))) (
 aY<|
 aH (([]:Str),(0:Int),(12:Int)))) (([]:List Int),(1:Int))
def mX (a0:Str) (a1:Bool):Option (Int) :=
 bK (fun (x1:Bool × Int)=>[(0,vS a0),(1,vB x1.1),(5,vI x1.2)]) (fun (x1:Bool × Int)=>[]) (fun (x1:Bool × Int)=>
 aA vI ((a0.length:Int)) fun x2=>
 aA vB (decide (x1.2 < x2)) fun x3=>
 aG x3 (
 bG a0 x1.2 fun x4=>
 aI vB (fun x5=>[]) (oM (x4.toNat:Int)) fun x5=>
 aG x5 (
 aA vB (bif true then true else false) fun x6=>
 aG x1.1 (
 aG x6 (
 aA vB (bif true then false else false) fun x7=>
 aA vB (bif true then true else x7) fun x8=>
 aG x8 (
 aA vI (wI (x1.2 + (1:Int))) fun x9=>
 aU (true,x9)) (
 aY<|
 aH x1.2)) (
 aA vB (decide ((x4.toNat:Int)=(46:Int))) fun x10=>
 aA vB (bif true then x10 else false) fun x11=>
 aA vB (bif false then true else x11) fun x12=>
 aG x12 (
 aA vI (wI (x1.2 + (1:Int))) fun x13=>
 aU (true,x13)) (
 aY<|
 aH x1.2))) (
 aA vB (bif false then false else false) fun x14=>
 aA vB (bif x6 then true else x14) fun x15=>
 aG x15 (
 aA vI (wI (x1.2 + (1:Int))) fun x16=>
 aU (false,x16)) (
 aY<|
 aH x1.2))) (
 aI vB (fun x17=>[]) (nK (x4.toNat:Int)) fun x17=>
 aA vB (bif false then true else x17) fun x18=>
 aG x1.1 (
 aG x18 (
 aA vB (bif true then false else false) fun x19=>
 aA vB (bif true then true else x19) fun x20=>
 aG x20 (
 aA vI (wI (x1.2 + (1:Int))) fun x21=>
 aU (true,x21)) (
 aY<|
 aH x1.2)) (
 aA vB (decide ((x4.toNat:Int)=(46:Int))) fun x22=>
 aA vB (bif true then x22 else false) fun x23=>
 aA vB (bif false then true else x23) fun x24=>
 aG x24 (
 aA vI (wI (x1.2 + (1:Int))) fun x25=>
 aU (true,x25)) (
 aY<|
 aH x1.2))) (
 aA vB (bif false then false else false) fun x26=>
 aA vB (bif x18 then true else x26) fun x27=>
 aG x27 (
 aA vI (wI (x1.2 + (1:Int))) fun x28=>
 aU (false,x28)) (
 aY<|
 aH x1.2)))) (
 aA vB (bif x1.1 then false else false) fun x29=>
 aY<|
 aH x1.2)) (a1,(1:Int))
def lK (a0:Str):Option ((List aK) × Int × Int) :=
 aI vI (fun x1=>[]) (eY a0 (0:Int)) fun x1=>
 Ce 5 3 53<|
 bK (fun (x2:(List aK) × Int)=>[(0,vS a0),(5,so 0 aF x2.1),(6,vI x2.2)]) (fun (x2:(List aK) × Int)=>[tk x2.1.length 3 53]) (fun (x2:(List aK) × Int)=>
 aA vI ((a0.length:Int)) fun x3=>
 aA vB (decide (x2.2 < x3)) fun x4=>
 aG x4 (
 aA vI ((x2.1.length:Int)) fun x5=>
 aA vB (decide (x5=(65536:Int))) fun x6=>
 aG x6 (
 aY<|
 aH (x2.1,x2.2,(4:Int))) (
 gdM (0≤x2.2∧x2.2≤(a0.length:Int)∧(a0.length:Int)≤(a0.length:Int))<|
 aA vS ((a0.take (a0.length:Int).toNat).drop x2.2.toNat) fun x7=>
 aI (fun x8=>.tup [vI x8.1,vI x8.2]) (fun x8=>[tk x2.1.length 3 53]) (cZ x7) fun x8=>
 aA vB (decide (x8.1=(0:Int))) fun x9=>
 aG x9 (
 aY<|
 aH (x2.1,x2.2,(1:Int))) (
 aA vB (decide (x8.1=(3:Int))) fun x10=>
 aG x10 (
 gdM (0≤x2.2∧x2.2≤(a0.length:Int)∧(a0.length:Int)≤(a0.length:Int))<|
 aA vS ((a0.take (a0.length:Int).toNat).drop x2.2.toNat) fun x11=>
 aI (fun x12=>.tup [vS x12.1,vI x12.2.1,vI x12.2.2]) (fun x12=>[tk x2.1.length 3 53]) (sI x11) fun x12=>
 aA vB (!decide (x12.2.2=(0:Int))) fun x13=>
 aG x13 (
 aA vI (wI (x2.2 + x12.2.1)) fun x14=>
 aY<|
 aH (x2.1,x14,x12.2.2)) (
 aA (sx aF) ([(⟨x8.1,x2.2,x12.1⟩:aK)]:(List aK)) fun x15=>
 gdM ((x2.1.length + x15.length) * 32≤140737488355328)<|
 dT (so 0 aF) (fun x16=>[tk x16.length 3 53]) (x2.1 ++ x15) fun x16=>
 aA vI (wI (x2.2 + x12.2.1)) fun x17=>
 aI vI (fun x18=>[tk x16.length 3 53]) (eY a0 x17) fun x18=>
 aU (x16,x18))) (
 aA vB (decide (x8.1=(1:Int))) fun x19=>
 aG x19 (
 gdM (0≤x2.2∧x2.2≤(a0.length:Int)∧(a0.length:Int)≤(a0.length:Int))<|
 aA vS ((a0.take (a0.length:Int).toNat).drop x2.2.toNat) fun x20=>
 aA vB (decide (x8.1=(2:Int))) fun x21=>
 aI vI (fun x22=>[tk x2.1.length 3 53]) (mX x20 x21) fun x22=>
 aA vI (wI (x2.2 + x22)) fun x23=>
 gdM (0≤x2.2∧x2.2≤x23∧x23≤(a0.length:Int))<|
 aA vS ((a0.take x23.toNat).drop x2.2.toNat) fun x24=>
 aA (sx aF) ([(⟨x8.1,x2.2,x24⟩:aK)]:(List aK)) fun x25=>
 gdM ((x2.1.length + x25.length) * 32≤140737488355328)<|
 dT (so 0 aF) (fun x26=>[tk x26.length 3 53]) (x2.1 ++ x25) fun x26=>
 aA vI (wI (x2.2 + x22)) fun x27=>
 aI vI (fun x28=>[tk x26.length 3 53]) (eY a0 x27) fun x28=>
 aU (x26,x28)) (
 aA vB (decide (x8.1=(2:Int))) fun x29=>
 aG x29 (
 gdM (0≤x2.2∧x2.2≤(a0.length:Int)∧(a0.length:Int)≤(a0.length:Int))<|
 aA vS ((a0.take (a0.length:Int).toNat).drop x2.2.toNat) fun x30=>
 aA vB (decide (x8.1=(2:Int))) fun x31=>
 aI vI (fun x32=>[tk x2.1.length 3 53]) (mX x30 x31) fun x32=>
 aA vI (wI (x2.2 + x32)) fun x33=>
 gdM (0≤x2.2∧x2.2≤x33∧x33≤(a0.length:Int))<|
 aA vS ((a0.take x33.toNat).drop x2.2.toNat) fun x34=>
 aA (sx aF) ([(⟨x8.1,x2.2,x34⟩:aK)]:(List aK)) fun x35=>
 gdM ((x2.1.length + x35.length) * 32≤140737488355328)<|
 dT (so 0 aF) (fun x36=>[tk x36.length 3 53]) (x2.1 ++ x35) fun x36=>
 aA vI (wI (x2.2 + x32)) fun x37=>
 aI vI (fun x38=>[tk x36.length 3 53]) (eY a0 x37) fun x38=>
 aU (x36,x38)) (
 aA vI (wI (x2.2 + x8.2)) fun x39=>
 gdM (0≤x2.2∧x2.2≤x39∧x39≤(a0.length:Int))<|
 aA vS ((a0.take x39.toNat).drop x2.2.toNat) fun x40=>
 aA (sx aF) ([(⟨x8.1,x2.2,x40⟩:aK)]:(List aK)) fun x41=>
 gdM ((x2.1.length + x41.length) * 32≤140737488355328)<|
 dT (so 0 aF) (fun x42=>[tk x42.length 3 53]) (x2.1 ++ x41) fun x42=>
 aA vI (wI (x2.2 + x8.2)) fun x43=>
 aI vI (fun x44=>[tk x42.length 3 53]) (eY a0 x43) fun x44=>
 aU (x42,x44))))))) (
 aY<|
 aA vI ((a0.length:Int)) fun x45=>
 aH (x2.1,x45,(0:Int)))) (([]:List aK),x1)
def dE (a0:Int) (a1:a6):Option (Bool) :=
 aA vI ((a1.l.length:Int)) fun x1=>
 aA vB (decide (a1.i < x1)) fun x2=>
 aG x2 (
 bG a1.l a1.i fun x3=>
 aA vB (decide (x3.K=a0)) fun x4=>
 aH x4) (
 aH false)
def gF (a0:Int) (a1:Str) (a2:a6):Option (Bool) :=
 fS<|
 bX [0] [.box [sl aF a2.l,vI a2.i,vS a2.r.Name,vS a2.r.E.S.Name,sl aB a2.r.E.S.M,vI a2.r.E.Op,vI a2.r.E.V,vI a2.r.For,vI a2.r.Keep,sl aD a2.r.Labels]] (fun x1=>vB x1) (fun x1=>[.box [sl aF a2.l,vI a2.i,vS a2.r.Name,vS a2.r.E.S.Name,sl aB a2.r.E.S.M,vI a2.r.E.Op,vI a2.r.E.V,vI a2.r.For,vI a2.r.Keep,sl aD a2.r.Labels]]) (dE a0 a2) fun x1=>
 aG x1 (
 bG a2.l a2.i fun x2=>
 aA vB (decide (x2.S=a1)) fun x3=>
 aH x3) (
 aH false)
def cJ (a0:Int) (a1:Str) (a2:a6):Option (Bool × a6) :=
 bX [0] [.box [sl aF a2.l,vI a2.i,vS a2.r.Name,vS a2.r.E.S.Name,sl aB a2.r.E.S.M,vI a2.r.E.Op,vI a2.r.E.V,vI a2.r.For,vI a2.r.Keep,sl aD a2.r.Labels]] (fun x1=>vB x1) (fun x1=>[.box [sl aF a2.l,vI a2.i,vS a2.r.Name,vS a2.r.E.S.Name,sl aB a2.r.E.S.M,vI a2.r.E.Op,vI a2.r.E.V,vI a2.r.For,vI a2.r.Keep,sl aD a2.r.Labels]]) (gF a0 a1 a2) fun x1=>
 aG x1 (
 aA vI (wI (a2.i + (1:Int))) fun x2=>
 aH (true,(⟨a2.l,x2,a2.r⟩:a6))) (
 aH (false,a2))
def b8 (a0:a6):Option (Int) :=
 aA vI ((a0.l.length:Int)) fun x1=>
 aA vB (decide (x1≤a0.i)) fun x2=>
 aG x2 (
 aH (3:Int)) (
 aH (1:Int))
def gW (a0:Str):Option (Bool) :=
 aA vI ((a0.length:Int)) fun x1=>
 aA vB (decide (x1 < (1:Int))) fun x2=>
 aA vI ((a0.length:Int)) fun x3=>
 aA vB (decide ((64:Int) < x3)) fun x4=>
 aA vB (bif x2 then true else x4) fun x5=>
 aG x5 (
 aH false) (
 bK (fun (x6:Int)=>[(0,vS a0),(3,vI x6)]) (fun (x6:Int)=>[]) (fun (x6:Int)=>
 aA vI ((a0.length:Int)) fun x7=>
 aA vB (decide (x6 < x7)) fun x8=>
 aG x8 (
 bG a0 x6 fun x9=>
 aA vB (decide ((97:Int)≤(x9.toNat:Int))) fun x10=>
 aA vB (decide ((x9.toNat:Int)≤(122:Int))) fun x11=>
 aA vB (bif x10 then x11 else false) fun x12=>
 aA vB (decide ((65:Int)≤(x9.toNat:Int))) fun x13=>
 aA vB (decide ((x9.toNat:Int)≤(90:Int))) fun x14=>
 aA vB (bif x13 then x14 else false) fun x15=>
 aA vB (bif x12 then true else x15) fun x16=>
 aA vB (decide ((x9.toNat:Int)=(95:Int))) fun x17=>
 aA vB (bif x16 then true else x17) fun x18=>
 aA vB (decide ((48:Int)≤(x9.toNat:Int))) fun x19=>
 aA vB (decide ((x9.toNat:Int)≤(57:Int))) fun x20=>
 aA vB (bif x19 then x20 else false) fun x21=>
 aA vB (!x18) fun x22=>
 aA vB (!x21) fun x23=>
 aA vB (decide (x6=(0:Int))) fun x24=>
 aA vB (bif x23 then true else x24) fun x25=>
 aA vB (bif x22 then x25 else false) fun x26=>
 aG x26 (
 aY<|
 aH false) (
 aA vI (wI (x6 + (1:Int))) fun x27=>
 aU x27)) (
 aY<|
 aH true)) (0:Int))
def qC (a0:(List aK)) (a1:Int) (a2:Str):Option (Bool) :=
 aA vI ((a0.length:Int)) fun x1=>
 aA vB (decide (a1 < x1)) fun x2=>
 aG x2 (
 bG a0 a1 fun x3=>
 aA vB (decide (x3.K=(4:Int))) fun x4=>
 aG x4 (
 aA vB (decide (x3.S=a2)) fun x5=>
 aH x5) (
 aH false)) (
 aH false)
def eO (a0:Int) (a1:bW):Option (Bool) :=
 aA vI ((a1.l.length:Int)) fun x1=>
 aA vB (decide (a1.i < x1)) fun x2=>
 aG x2 (
 bG a1.l a1.i fun x3=>
 aA vB (decide (x3.K=a0)) fun x4=>
 aH x4) (
 aH false)
def dF (a0:bW):Option (Int) :=
 aA vI ((a0.l.length:Int)) fun x1=>
 aA vB (decide (x1≤a0.i)) fun x2=>
 aG x2 (
 aH (3:Int)) (
 aH (1:Int))
def iA (a0:bW):Option (Str × Int × bW) :=
 bX [0] [.box [sl aF a0.l,vI a0.i]] (fun x1=>vB x1) (fun x1=>[.box [sl aF a0.l,vI a0.i]]) (eO (1:Int) a0) fun x1=>
 aA vB (!x1) fun x2=>
 aG x2 (
 bX [0] [.box [sl aF a0.l,vI a0.i]] (fun x3=>vI x3) (fun x3=>[.box [sl aF a0.l,vI a0.i]]) (dF a0) fun x3=>
 aH (([]:Str),x3,a0)) (
 bG a0.l a0.i fun x4=>
 aI vB (fun x5=>[.box [sl aF a0.l,vI a0.i]]) (gW x4.S) fun x5=>
 aA vB (!x5) fun x6=>
 aG x6 (
 aH (([]:Str),(7:Int),a0)) (
 aA vI (wI (a0.i + (1:Int))) fun x7=>
 aH (x4.S,(0:Int),(⟨a0.l,x7⟩:bW))))
def dK (a0:Str) (a1:bW):Option (Bool × bW) :=
 fS<|
 bX [0] [.box [sl aF a1.l,vI a1.i]] (fun x1=>vB x1) (fun x1=>[.box [sl aF a1.l,vI a1.i]]) (eO (4:Int) a1) fun x1=>
 aA vB (!x1) fun x2=>
 aG x2 (
 aH (false,a1)) (
 bG a1.l a1.i fun x3=>
 aA vB (!decide (x3.S=a0)) fun x4=>
 aG x4 (
 aH (false,a1)) (
 aA vI (wI (a1.i + (1:Int))) fun x5=>
 aH (true,(⟨a1.l,x5⟩:bW))))
def iZ (a0:Int) (a1:bW):Option (a8 × Int × bW) :=
 bX [0] [.box [sl aF a1.l,vI a1.i],.box [vS ([]:Str),vS ([]:Str),vB false]] (fun x1=>.tup [vS x1.1,vI x1.2.1]) (fun x1=>[.box [sl aF x1.2.2.l,vI x1.2.2.i],.box [vS ([]:Str),vS ([]:Str),vB false]]) (iA a1) fun x1=>
 aA vB (!decide (x1.2.1=(0:Int))) fun x2=>
 aG x2 (
 aH ((⟨([]:Str),([]:Str),false⟩:a8),x1.2.1,x1.2.2)) (
 bX [0] [.box [sl aF x1.2.2.l,vI x1.2.2.i],.box [vS ([]:Str),vS ([]:Str),vB false]] (fun x3=>vB x3.1) (fun x3=>[.box [sl aF x3.2.l,vI x3.2.i],.box [vS ([]:Str),vS ([]:Str),vB false]]) (dK ([33,61]:Str) x1.2.2) fun x3=>
 aA vB (!x3.1) fun x4=>
 aG x4 (
 bX [0] [.box [sl aF x3.2.l,vI x3.2.i],.box [vS ([]:Str),vS ([]:Str),vB false]] (fun x5=>vB x5.1) (fun x5=>[.box [sl aF x5.2.l,vI x5.2.i],.box [vS ([]:Str),vS ([]:Str),vB false]]) (dK ([61]:Str) x3.2) fun x5=>
 aA vB (!x5.1) fun x6=>
 aG x6 (
 bX [0] [.box [sl aF x5.2.l,vI x5.2.i],.box [vS ([]:Str),vS ([]:Str),vB false]] (fun x7=>vI x7) (fun x7=>[.box [sl aF x5.2.l,vI x5.2.i],.box [vS ([]:Str),vS ([]:Str),vB false]]) (dF x5.2) fun x7=>
 aH ((⟨([]:Str),([]:Str),false⟩:a8),x7,x5.2)) (
 bX [0] [.box [sl aF x5.2.l,vI x5.2.i],.box [vS ([]:Str),vS ([]:Str),vB false]] (fun x8=>vB x8) (fun x8=>[.box [sl aF x5.2.l,vI x5.2.i],.box [vS ([]:Str),vS ([]:Str),vB false]]) (eO (3:Int) x5.2) fun x8=>
 aA vB (!x8) fun x9=>
 aG x9 (
 bX [0] [.box [sl aF x5.2.l,vI x5.2.i],.box [vS ([]:Str),vS ([]:Str),vB false]] (fun x10=>vI x10) (fun x10=>[.box [sl aF x5.2.l,vI x5.2.i],.box [vS ([]:Str),vS ([]:Str),vB false]]) (dF x5.2) fun x10=>
 aH ((⟨([]:Str),([]:Str),false⟩:a8),x10,x5.2)) (
 bG x5.2.l x5.2.i fun x11=>
 aA vI ((x11.S.length:Int)) fun x12=>
 aA vB (decide ((64:Int) < x12)) fun x13=>
 aA vB (decide ((8:Int)≤a0)) fun x14=>
 aA vB (bif x13 then true else x14) fun x15=>
 aG x15 (
 aH ((⟨([]:Str),([]:Str),false⟩:a8),(4:Int),x5.2)) (
 aA vI (wI (x5.2.i + (1:Int))) fun x16=>
 aH ((⟨x1.1,x11.S,x3.1⟩:a8),(0:Int),(⟨x5.2.l,x16⟩:bW)))))) (
 bX [0] [.box [sl aF x3.2.l,vI x3.2.i],.box [vS ([]:Str),vS ([]:Str),vB false]] (fun x17=>vB x17) (fun x17=>[.box [sl aF x3.2.l,vI x3.2.i],.box [vS ([]:Str),vS ([]:Str),vB false]]) (eO (3:Int) x3.2) fun x17=>
 aA vB (!x17) fun x18=>
 aG x18 (
 bX [0] [.box [sl aF x3.2.l,vI x3.2.i],.box [vS ([]:Str),vS ([]:Str),vB false]] (fun x19=>vI x19) (fun x19=>[.box [sl aF x3.2.l,vI x3.2.i],.box [vS ([]:Str),vS ([]:Str),vB false]]) (dF x3.2) fun x19=>
 aH ((⟨([]:Str),([]:Str),false⟩:a8),x19,x3.2)) (
 bG x3.2.l x3.2.i fun x20=>
 aA vI ((x20.S.length:Int)) fun x21=>
 aA vB (decide ((64:Int) < x21)) fun x22=>
 aA vB (decide ((8:Int)≤a0)) fun x23=>
 aA vB (bif x22 then true else x23) fun x24=>
 aG x24 (
 aH ((⟨([]:Str),([]:Str),false⟩:a8),(4:Int),x3.2)) (
 aA vI (wI (x3.2.i + (1:Int))) fun x25=>
 aH ((⟨x1.1,x20.S,x3.1⟩:a8),(0:Int),(⟨x3.2.l,x25⟩:bW))))))
def jW (a0:bW):Option (bM × Int × bW) :=
 bX [0] [.box [sl aF a0.l,vI a0.i],.box [vS ([]:Str),.v (.slice none 0 0)]] (fun x1=>.tup [vS x1.1,vI x1.2.1]) (fun x1=>[.box [sl aF x1.2.2.l,vI x1.2.2.i],.box [vS ([]:Str),.v (.slice none 0 0)]]) (iA a0) fun x1=>
 aA vB (!decide (x1.2.1=(0:Int))) fun x2=>
 aG x2 (
 aH ((⟨([]:Str),([]:(List a8))⟩:bM),x1.2.1,x1.2.2)) (
 bX [0] [.box [sl aF x1.2.2.l,vI x1.2.2.i],.box [vS ([]:Str),.v (.slice none 0 0)],.box [vS x1.1,.v (.slice none 0 0)]] (fun x3=>vB x3.1) (fun x3=>[.box [sl aF x3.2.l,vI x3.2.i],.box [vS ([]:Str),.v (.slice none 0 0)],.box [vS x1.1,.v (.slice none 0 0)]]) (dK ([123]:Str) x1.2.2) fun x3=>
 aA vB (!x3.1) fun x4=>
 aG x4 (
 aH ((⟨x1.1,([]:(List a8))⟩:bM),(0:Int),x3.2)) (
 bX [0] [.box [sl aF x3.2.l,vI x3.2.i],.box [vS ([]:Str),.v (.slice none 0 0)],.box [vS x1.1,.v (.slice none 0 0)]] (fun x5=>vB x5.1) (fun x5=>[.box [sl aF x5.2.l,vI x5.2.i],.box [vS ([]:Str),.v (.slice none 0 0)],.box [vS x1.1,.v (.slice none 0 0)]]) (dK ([125]:Str) x3.2) fun x5=>
 aG x5.1 (
 aH ((⟨x1.1,([]:(List a8))⟩:bM),(0:Int),x5.2)) (
 tokB 2 1 3 81<|
 bK (fun (x6:(List aK) × Int × (List a8))=>[(0,.ptr 0 0),(2,.ptr 1 0),(6,.ptr 2 0),(7,.fn 120 [.ptr 0 0] [])]) (fun (x6:(List aK) × Int × (List a8))=>[.box [sl aF x6.1,vI x6.2.1],.box [vS ([]:Str),.v (.slice none 0 0)],.box [vS x1.1,so 3 aB x6.2.2],tk x6.2.2.length 3 81]) (fun (x6:(List aK) × Int × (List a8))=>
 aA vI ((x6.2.2.length:Int)) fun x7=>
 bX [0] [.box [sl aF x6.1,vI x6.2.1],.box [vS ([]:Str),.v (.slice none 0 0)],.box [vS x1.1,so 3 aB x6.2.2],tk x6.2.2.length 3 81] (fun x8=>.tup [(ag aB) x8.1,vI x8.2.1]) (fun x8=>[.box [sl aF x8.2.2.l,vI x8.2.2.i],.box [vS ([]:Str),.v (.slice none 0 0)],.box [vS x1.1,so 3 aB x6.2.2],tk x6.2.2.length 3 81]) (iZ x7 (⟨x6.1,x6.2.1⟩:bW)) fun x8=>
 aA vB (!decide (x8.2.1=(0:Int))) fun x9=>
 aG x9 (
 aY<|
 aH ((⟨([]:Str),([]:(List a8))⟩:bM),x8.2.1,x8.2.2)) (
 aA (sx aB) ([x8.1]:(List a8)) fun x10=>
 gdM ((x6.2.2.length + x10.length) * 40≤140737488355328)<|
 dT (so 3 aB) (fun x11=>[.box [sl aF x8.2.2.l,vI x8.2.2.i],.box [vS ([]:Str),.v (.slice none 0 0)],.box [vS x1.1,so 3 aB x6.2.2],tk x11.length 3 81,.box [vS x8.1.Name,vS x8.1.Value,vB x8.1.Not]]) (x6.2.2 ++ x10) fun x11=>
 bX [0] [.box [sl aF x8.2.2.l,vI x8.2.2.i],.box [vS ([]:Str),.v (.slice none 0 0)],.box [vS x1.1,so 3 aB x11],tk x11.length 3 81,.box [vS x8.1.Name,vS x8.1.Value,vB x8.1.Not]] (fun x12=>vB x12.1) (fun x12=>[.box [sl aF x12.2.l,vI x12.2.i],.box [vS ([]:Str),.v (.slice none 0 0)],.box [vS x1.1,so 3 aB x11],tk x11.length 3 81,.box [vS x8.1.Name,vS x8.1.Value,vB x8.1.Not]]) (dK ([125]:Str) x8.2.2) fun x12=>
 aG x12.1 (
 aY<|
 aH ((⟨x1.1,x11⟩:bM),(0:Int),x12.2)) (
 bX [0] [.box [sl aF x12.2.l,vI x12.2.i],.box [vS ([]:Str),.v (.slice none 0 0)],.box [vS x1.1,so 3 aB x11],tk x11.length 3 81,.box [vS x8.1.Name,vS x8.1.Value,vB x8.1.Not]] (fun x13=>vB x13.1) (fun x13=>[.box [sl aF x13.2.l,vI x13.2.i],.box [vS ([]:Str),.v (.slice none 0 0)],.box [vS x1.1,so 3 aB x11],tk x11.length 3 81,.box [vS x8.1.Name,vS x8.1.Value,vB x8.1.Not]]) (dK ([44]:Str) x12.2) fun x13=>
 aA vB (!x13.1) fun x14=>
 aG x14 (
 bX [0] [.box [sl aF x13.2.l,vI x13.2.i],.box [vS ([]:Str),.v (.slice none 0 0)],.box [vS x1.1,so 3 aB x11],tk x11.length 3 81,.box [vS x8.1.Name,vS x8.1.Value,vB x8.1.Not]] (fun x15=>vI x15) (fun x15=>[.box [sl aF x13.2.l,vI x13.2.i],.box [vS ([]:Str),.v (.slice none 0 0)],.box [vS x1.1,so 3 aB x11],tk x11.length 3 81,.box [vS x8.1.Name,vS x8.1.Value,vB x8.1.Not]]) (dF x13.2) fun x15=>
 aY<|
 aH ((⟨([]:Str),([]:(List a8))⟩:bM),x15,x13.2)) (
 aU (x13.2.l,x13.2.i,x11))))) (x5.2.l,x5.2.i,([]:List a8)))))
def tH (a0:(List aK)) (a1:Int):Option (bM × Int × Int) :=
 aA vB (decide (a1 < (0:Int))) fun x1=>
 aG x1 (
 aH ((⟨([]:Str),([]:(List a8))⟩:bM),(0:Int),(3:Int))) (
 aA vI ((a0.length:Int)) fun x2=>
 aA vI (min a1 x2) fun x3=>
 bX [1] [.box [vS ([]:Str),.v (.slice none 0 0)],.box [sl aF a0,vI x3]] (fun x4=>.tup [(ag kX) x4.1,vI x4.2.1]) (fun x4=>[.box [vS ([]:Str),.v (.slice none 0 0)],.box [sl aF x4.2.2.l,vI x4.2.2.i]]) (jW (⟨a0,x3⟩:bW)) fun x4=>
 fF [0] [0] [(false,0),(false,1),(false,2),(false,3),(false,4),(false,5),(true,6),(false,7),(false,8)]<|
 aH (x4.1,x4.2.2.i,x4.2.1))
def nF (a0:Int):Option (Bool) :=
 aA vB (decide ((1:Int)≤a0)) fun x1=>
 aA vB (decide (a0≤(6:Int))) fun x2=>
 aA vB (bif x1 then x2 else false) fun x3=>
 aH x3
def jK (a0:(List aK)) (a1:Int):Option (Int) :=
 aA vI ((a0.length:Int)) fun x1=>
 aA vB (decide (x1≤a1)) fun x2=>
 aG x2 (
 aH (3:Int)) (
 aH (1:Int))
def eS (a0:Str) (a1:Str):Option (Bool) :=
 aA vI ((a0.length:Int)) fun x1=>
 aA vI ((a1.length:Int)) fun x2=>
 aA vB (decide (x2≤x1)) fun x3=>
 aA vI ((a1.length:Int)) fun x4=>
 aG x3 (
 gdM (0≤(0:Int)∧(0:Int)≤x4∧x4≤(a0.length:Int))<|
 aA vS ((a0.take x4.toNat).drop (0:Int).toNat) fun x5=>
 aA vB (decide (x5=a1)) fun x6=>
 aH x6) (
 aH false)
def i6 (a0:Str) (a1:Str):Option (Str × Bool) :=
 aI vB (fun x1=>[]) (eS a0 a1) fun x1=>
 aA vB (!x1) fun x2=>
 aG x2 (
 aH (a0,false)) (
 aA vI ((a1.length:Int)) fun x3=>
 gdM (0≤x3∧x3≤(a0.length:Int)∧(a0.length:Int)≤(a0.length:Int))<|
 aA vS ((a0.take (a0.length:Int).toNat).drop x3.toNat) fun x4=>
 aH (x4,true))
def jI (a0:Str) (a1:Str):Option (Str × Bool) :=
 aI (fun x1=>.tup [vS x1.1,vB x1.2]) (fun x1=>[]) (i6 a0 a1) fun x1=>
 aH (x1.1,x1.2)
def p5 (a0:Int) (a1:Int):Option (Int) :=
 aA vI (wI (a0 * (10:Int))) fun x1=>
 aA vI (wI (x1 + a1)) fun x2=>
 aA vI (min x2 (9007199254740993:Int)) fun x3=>
 aH x3
def nH (a0:Int):Option (Bool) :=
 aA vB (decide ((-9007199254740992:Int)≤a0)) fun x1=>
 aA vB (decide (a0≤(9007199254740992:Int))) fun x2=>
 aA vB (bif x1 then x2 else false) fun x3=>
 aH x3
def tF (a0:Str):Option (Int × Int) :=
 aI (fun x1=>.tup [vS x1.1,vB x1.2]) (fun x1=>[]) (jI a0 ([45]:Str)) fun x1=>
 bK (fun (x2:Nat × Int × Int × Int × Bool)=>[(5,vB x1.2),(6,vI x2.2.1),(7,vI x2.2.2.1),(8,vI x2.2.2.2.1),(9,vB x2.2.2.2.2),(18,.ptr 0 0)]) (fun (x2:Nat × Int × Int × Int × Bool)=>[.siter (bs x1.1) x2.1]) (fun (x2:Nat × Int × Int × Int × Bool)=>
 Ap x1.1 x2.1 (fun x3 x4=>
 aA vB (decide (x3=(46:Int))) fun x5=>
 aA vB (!x2.2.2.2.2) fun x6=>
 aA vB (bif x5 then x6 else false) fun x7=>
 aA vB (decide ((0:Int) < x2.2.2.1)) fun x8=>
 aA vB (bif x7 then x8 else false) fun x9=>
 aG x9 (
 aU (x4,x2.2.1,x2.2.2.1,x2.2.2.2.1,true)) (
 aA vB (decide (x3 < (48:Int))) fun x10=>
 aA vB (decide ((57:Int) < x3)) fun x11=>
 aA vB (bif x10 then true else x11) fun x12=>
 aG x12 (
 aY<|
 aH ((0:Int),(1:Int))) (
 aA (vK .i32) (IntKind.i32.wrap (x3 - (48:Int))) fun x13=>
 aA vI (wI x13) fun x14=>
 aI vI (fun x15=>[.siter (bs x1.1) x4]) (p5 x2.2.1 x14) fun x15=>
 aG x2.2.2.2.2 (
 aA vI (wI (x2.2.2.2.1 + (1:Int))) fun x16=>
 aU (x4,x15,x2.2.2.1,x16,true)) (
 aA vI (wI (x2.2.2.1 + (1:Int))) fun x17=>
 aU (x4,x15,x17,x2.2.2.2.1,false))))) (
 aY<|
 aA vB (decide (x2.2.2.1=(0:Int))) fun x18=>
 aA vB (decide ((3:Int) < x2.2.2.2.1)) fun x19=>
 aA vB (bif x18 then true else x19) fun x20=>
 aA vB (decide (x2.2.2.2.1=(0:Int))) fun x21=>
 aA vB (bif x2.2.2.2.2 then x21 else false) fun x22=>
 aA vB (bif x20 then true else x22) fun x23=>
 aG x23 (
 aH ((0:Int),(1:Int))) (
 aA vI (wI ((3:Int) - x2.2.2.2.1)) fun x24=>
 bK (fun (x25:Int × Int)=>[(5,vB x1.2),(6,vI x25.1),(64,vI x24),(65,vI x25.2)]) (fun (x25:Int × Int)=>[]) (fun (x25:Int × Int)=>
 aA vB (decide (x25.2 < x24)) fun x26=>
 aG x26 (
 aI vI (fun x27=>[]) (p5 x25.1 (0:Int)) fun x27=>
 aA vI (wI (x25.2 + (1:Int))) fun x28=>
 aU (x27,x28)) (
 aY<|
 aI vB (fun x29=>[]) (nH x25.1) fun x29=>
 aA vB (!x29) fun x30=>
 aG x30 (
 aH ((0:Int),(2:Int))) (
 aG x1.2 (
 aA vI (wI (0 - x25.1)) fun x31=>
 aH (x31,(0:Int))) (
 aH (x25.1,(0:Int)))))) (x2.2.1,(0:Int))))) ((0:Nat),(0:Int),(0:Int),(0:Int),false)
def rB (a0:(List aK)) (a1:Int):Option (bF × Int × Int) :=
 aA vB (decide (a1 < (0:Int))) fun x1=>
 aG x1 (
 aH ((⟨(⟨([]:Str),([]:(List a8))⟩:bM),(0:Int),(0:Int)⟩:bF),(0:Int),(3:Int))) (
 bK (fun (x2:Int × Int)=>[(0,sl aF a0),(1,vI x2.1),(4,.ptr 0 0),(7,vI x2.2)]) (fun (x2:Int × Int)=>[.box [vS ([]:Str),.v (.slice none 0 0),vI (0:Int),vI (0:Int)]]) (fun (x2:Int × Int)=>
 aI vB (fun x3=>[.box [vS ([]:Str),.v (.slice none 0 0),vI (0:Int),vI (0:Int)]]) (qC a0 x2.1 ([40]:Str)) fun x3=>
 aG x3 (
 aA vB (decide (x2.2=(32:Int))) fun x4=>
 aG x4 (
 aY<|
 aH ((⟨(⟨([]:Str),([]:(List a8))⟩:bM),(0:Int),(0:Int)⟩:bF),x2.1,(8:Int))) (
 aA vI (wI (x2.2 + (1:Int))) fun x5=>
 aA vI (wI (x2.1 + (1:Int))) fun x6=>
 aU (x6,x5))) (
 aY<|
 aI (fun x7=>.tup [(ag kX) x7.1,vI x7.2.1,vI x7.2.2]) (fun x7=>[.box [vS ([]:Str),.v (.slice none 0 0),vI (0:Int),vI (0:Int)]]) (tH a0 x2.1) fun x7=>
 aA vB (!decide (x7.2.2=(0:Int))) fun x8=>
 aG x8 (
 aH ((⟨(⟨([]:Str),([]:(List a8))⟩:bM),(0:Int),(0:Int)⟩:bF),x7.2.1,x7.2.2)) (
 bK (fun (x9:Int × Int)=>[(0,sl aF a0),(1,vI x7.2.1),(4,.ptr 0 0),(7,vI x2.2),(10,.ptr 2 0),(41,.agg ((gl0.map cS).flatten.map .ofD)),(42,vI x9.2)]) (fun (x9:Int × Int)=>[.box [vS ([]:Str),.v (.slice none 0 0),vI (0:Int),vI (0:Int)],.dead,.box [vS x7.1.Name,sl aB x7.1.M,vI x9.1,vI (0:Int)]]) (fun (x9:Int × Int)=>
 aA vB (decide (x9.2 < (7:Int))) fun x10=>
 aG x10 (
 bG gl0 x9.2 fun x11=>
 aI vB (fun x12=>[.box [vS ([]:Str),.v (.slice none 0 0),vI (0:Int),vI (0:Int)],.dead,.box [vS x7.1.Name,sl aB x7.1.M,vI x9.1,vI (0:Int)]]) (nF x9.2) fun x12=>
 aG x12 (
 aI vB (fun x13=>[.box [vS ([]:Str),.v (.slice none 0 0),vI (0:Int),vI (0:Int)],.dead,.box [vS x7.1.Name,sl aB x7.1.M,vI x9.1,vI (0:Int)]]) (qC a0 x7.2.1 x11) fun x13=>
 aG x13 (
 aA vI (wI (x9.2 + (1:Int))) fun x14=>
 aU (x9.2,x14)) (
 aA vI (wI (x9.2 + (1:Int))) fun x15=>
 aU (x9.1,x15))) (
 aA vI (wI (x9.2 + (1:Int))) fun x16=>
 aU (x9.1,x16))) (
 aY<|
 aA vB (decide (x9.1=(0:Int))) fun x17=>
 aG x17 (
 aI vI (fun x18=>[.box [vS ([]:Str),.v (.slice none 0 0),vI (0:Int),vI (0:Int)],.dead,.box [vS x7.1.Name,sl aB x7.1.M,vI x9.1,vI (0:Int)]]) (jK a0 x7.2.1) fun x18=>
 aH ((⟨(⟨([]:Str),([]:(List a8))⟩:bM),(0:Int),(0:Int)⟩:bF),x7.2.1,x18)) (
 aA vI (wI (x7.2.1 + (1:Int))) fun x19=>
 aA vI ((a0.length:Int)) fun x20=>
 aA vB (decide (x20≤x19)) fun x21=>
 aG x21 (
 aI vI (fun x22=>[.box [vS ([]:Str),.v (.slice none 0 0),vI (0:Int),vI (0:Int)],.dead,.box [vS x7.1.Name,sl aB x7.1.M,vI x9.1,vI (0:Int)]]) (jK a0 x19) fun x22=>
 aH ((⟨(⟨([]:Str),([]:(List a8))⟩:bM),(0:Int),(0:Int)⟩:bF),x19,x22)) (
 bG a0 x19 fun x23=>
 aA vB (!decide (x23.K=(2:Int))) fun x24=>
 aG x24 (
 aI vI (fun x25=>[.box [vS ([]:Str),.v (.slice none 0 0),vI (0:Int),vI (0:Int)],.dead,.box [vS x7.1.Name,sl aB x7.1.M,vI x9.1,vI (0:Int)]]) (jK a0 x19) fun x25=>
 aH ((⟨(⟨([]:Str),([]:(List a8))⟩:bM),(0:Int),(0:Int)⟩:bF),x19,x25)) (
 aI (fun x26=>.tup [vI x26.1,vI x26.2]) (fun x26=>[.box [vS ([]:Str),.v (.slice none 0 0),vI (0:Int),vI (0:Int)],.dead,.box [vS x7.1.Name,sl aB x7.1.M,vI x9.1,vI (0:Int)]]) (tF x23.S) fun x26=>
 aA vB (!decide (x26.2=(0:Int))) fun x27=>
 aG x27 (
 aH ((⟨(⟨([]:Str),([]:(List a8))⟩:bM),(0:Int),(0:Int)⟩:bF),x19,x26.2)) (
 aA vI (wI (x19 + (1:Int))) fun x28=>
 bK (fun (x29:Int × Int)=>[(0,sl aF a0),(1,vI x29.1),(4,.ptr 0 0),(10,.ptr 2 0),(101,vI x2.2),(102,vI x29.2)]) (fun (x29:Int × Int)=>[.box [vS ([]:Str),.v (.slice none 0 0),vI (0:Int),vI (0:Int)],.dead,.box [vS x7.1.Name,sl aB x7.1.M,vI x9.1,vI x26.1]]) (fun (x29:Int × Int)=>
 aA vB (decide (x29.2 < x2.2)) fun x30=>
 aG x30 (
 aI vB (fun x31=>[.box [vS ([]:Str),.v (.slice none 0 0),vI (0:Int),vI (0:Int)],.dead,.box [vS x7.1.Name,sl aB x7.1.M,vI x9.1,vI x26.1]]) (qC a0 x29.1 ([41]:Str)) fun x31=>
 aA vB (!x31) fun x32=>
 aG x32 (
 aI vI (fun x33=>[.box [vS ([]:Str),.v (.slice none 0 0),vI (0:Int),vI (0:Int)],.dead,.box [vS x7.1.Name,sl aB x7.1.M,vI x9.1,vI x26.1]]) (jK a0 x29.1) fun x33=>
 aY<|
 aH ((⟨(⟨([]:Str),([]:(List a8))⟩:bM),(0:Int),(0:Int)⟩:bF),x29.1,x33)) (
 aA vI (wI (x29.1 + (1:Int))) fun x34=>
 aA vI (wI (x29.2 + (1:Int))) fun x35=>
 aU (x34,x35))) (
 aY<|
 aH ((⟨x7.1,x9.1,x26.1⟩:bF),x29.1,(0:Int)))) (x28,(0:Int)))))))) ((0:Int),(0:Int))))) (a1,(0:Int)))
def tC (a0:Str):Option (Int × Int) :=
 bK (fun (x1:Int × Int)=>[(0,vS a0),(4,vI x1.1),(5,vI x1.2)]) (fun (x1:Int × Int)=>[]) (fun (x1:Int × Int)=>
 aA vI ((a0.length:Int)) fun x2=>
 aA vB (decide (x1.2 < x2)) fun x3=>
 aG x3 (
 bG a0 x1.2 fun x4=>
 aA vB (decide ((48:Int)≤(x4.toNat:Int))) fun x5=>
 aG x5 (
 aA vB (decide ((x4.toNat:Int)≤(57:Int))) fun x6=>
 aG x6 (
 aA vI (wI (x1.1 * (10:Int))) fun x7=>
 aA (vK .u8) (IntKind.u8.wrap ((x4.toNat:Int) - (48:Int))) fun x8=>
 aA vI (wI x8) fun x9=>
 aA vI (wI (x7 + x9)) fun x10=>
 aA vI (min x10 (9007199254740993:Int)) fun x11=>
 aA vI (wI (x1.2 + (1:Int))) fun x12=>
 aU (x11,x12)) (
 aY<|
 aH (x1.1,x1.2))) (
 aY<|
 aH (x1.1,x1.2))) (
 aY<|
 aH (x1.1,x1.2))) ((0:Int),(0:Int))
def iB (a0:Str) (a1:Str):Option (Bool) :=
 aI vB (fun x1=>[]) (eS a0 a1) fun x1=>
 aH x1
def uT (a0:Int) (a1:Int) (a2:Int):Option (Int) :=
 aA vB (decide ((9007199254740992:Int) < a0)) fun x1=>
 aA vI (wI ((9007199254740992:Int) - a0)) fun x2=>
 aG x1 (
 aH (9007199254740993:Int)) (
 gdM (a2 ≠ 0)<|
 aA vI (wI (Int.tdiv x2 a2)) fun x3=>
 aA vB (decide (x3 < a1)) fun x4=>
 aG x4 (
 aH (9007199254740993:Int)) (
 aA vI (wI (a1 * a2)) fun x5=>
 aA vI (wI (a0 + x5)) fun x6=>
 aH x6))
def nS (a0:Int):Option (Bool) :=
 aA vB (decide ((0:Int)≤a0)) fun x1=>
 aA vB (decide (a0≤(9007199254740992:Int))) fun x2=>
 aA vB (bif x1 then x2 else false) fun x3=>
 aH x3
def qA (a0:Str):Option (Int × Int) :=
 bK (fun (x1:Str × Int × Int × Bool)=>[(0,vS x1.1),(4,vI x1.2.1),(5,vI x1.2.2.1),(6,vB x1.2.2.2)]) (fun (x1:Str × Int × Int × Bool)=>[]) (fun (x1:Str × Int × Int × Bool)=>
 aA vB (!decide (x1.1=([]:Str))) fun x2=>
 aA vB (bif x1.2.2.2 then true else x2) fun x3=>
 aG x3 (
 aI (fun x4=>.tup [vI x4.1,vI x4.2]) (fun x4=>[]) (tC x1.1) fun x4=>
 aA vB (decide (x4.2=(0:Int))) fun x5=>
 aG x5 (
 aY<|
 aH ((0:Int),(1:Int))) (
 gdM (0≤x4.2∧x4.2≤(x1.1.length:Int)∧(x1.1.length:Int)≤(x1.1.length:Int))<|
 aA vS ((x1.1.take (x1.1.length:Int).toNat).drop x4.2.toNat) fun x6=>
 bK (fun (x7:Int)=>[(4,vI x1.2.1),(5,vI x1.2.2.1),(7,vI x4.1),(9,vS x6),(27,.agg ((gl1.map Ay).flatten.map .ofD)),(28,vI x7)]) (fun (x7:Int)=>[]) (fun (x7:Int)=>
 aA vB (decide (x7 < (5:Int))) fun x8=>
 aG x8 (
 bG gl1 x7 fun x9=>
 aA vB (decide (x7 < x1.2.2.1)) fun x10=>
 aG x10 (
 aA vI (wI (x7 + (1:Int))) fun x11=>
 aU x11) (
 aI vB (fun x12=>[.box [vS x9.letters,vI x9.size]]) (iB x6 x9.letters) fun x12=>
 aA vB (!x12) fun x13=>
 aG x13 (
 aA vI (wI (x7 + (1:Int))) fun x14=>
 aU x14) (
 aA vB (decide (x9.letters=([109]:Str))) fun x15=>
 aG x15 (
 aI vB (fun x16=>[.box [vS x9.letters,vI x9.size]]) (iB x6 ([109,115]:Str)) fun x16=>
 aG x16 (
 aA vI (wI (x7 + (1:Int))) fun x17=>
 aU x17) (
 aI vI (fun x18=>[.box [vS x9.letters,vI x9.size]]) (uT x1.2.1 x4.1 x9.size) fun x18=>
 aA vI ((x9.letters.length:Int)) fun x19=>
 gdM (0≤x19∧x19≤(x6.length:Int)∧(x6.length:Int)≤(x6.length:Int))<|
 aA vS ((x6.take (x6.length:Int).toNat).drop x19.toNat) fun x20=>
 aA vI (wI (x7 + (1:Int))) fun x21=>
 aY<|
 aU (x20,x18,x21,false))) (
 aI vI (fun x22=>[.box [vS x9.letters,vI x9.size]]) (uT x1.2.1 x4.1 x9.size) fun x22=>
 aA vI ((x9.letters.length:Int)) fun x23=>
 gdM (0≤x23∧x23≤(x6.length:Int)∧(x6.length:Int)≤(x6.length:Int))<|
 aA vS ((x6.take (x6.length:Int).toNat).drop x23.toNat) fun x24=>
 aA vI (wI (x7 + (1:Int))) fun x25=>
 aY<|
 aU (x24,x22,x25,false))))) (
 aY<|
 aY<|
 aH ((0:Int),(1:Int)))) (0:Int))) (
 aY<|
 aI vB (fun x26=>[]) (nS x1.2.1) fun x26=>
 aA vB (!x26) fun x27=>
 aG x27 (
 aH ((0:Int),(2:Int))) (
 aH (x1.2.1,(0:Int))))) (a0,(0:Int),(0:Int),true)
def fW (a0:a6):Option (Int × a6) :=
 bX [0] [.box [sl aF a0.l,vI a0.i,vS a0.r.Name,vS a0.r.E.S.Name,sl aB a0.r.E.S.M,vI a0.r.E.Op,vI a0.r.E.V,vI a0.r.For,vI a0.r.Keep,sl aD a0.r.Labels]] (fun x1=>vB x1) (fun x1=>[.box [sl aF a0.l,vI a0.i,vS a0.r.Name,vS a0.r.E.S.Name,sl aB a0.r.E.S.M,vI a0.r.E.Op,vI a0.r.E.V,vI a0.r.For,vI a0.r.Keep,sl aD a0.r.Labels]]) (dE (2:Int) a0) fun x1=>
 aA vB (!x1) fun x2=>
 aG x2 (
 bX [0] [.box [sl aF a0.l,vI a0.i,vS a0.r.Name,vS a0.r.E.S.Name,sl aB a0.r.E.S.M,vI a0.r.E.Op,vI a0.r.E.V,vI a0.r.For,vI a0.r.Keep,sl aD a0.r.Labels]] (fun x3=>vI x3) (fun x3=>[.box [sl aF a0.l,vI a0.i,vS a0.r.Name,vS a0.r.E.S.Name,sl aB a0.r.E.S.M,vI a0.r.E.Op,vI a0.r.E.V,vI a0.r.For,vI a0.r.Keep,sl aD a0.r.Labels]]) (b8 a0) fun x3=>
 aH (x3,a0)) (
 fS<|
 bG a0.l a0.i fun x4=>
 aI (fun x5=>.tup [vI x5.1,vI x5.2]) (fun x5=>[.box [sl aF a0.l,vI a0.i,vS a0.r.Name,vS a0.r.E.S.Name,sl aB a0.r.E.S.M,vI a0.r.E.Op,vI a0.r.E.V,vI a0.r.For,vI a0.r.Keep,sl aD a0.r.Labels]]) (qA x4.S) fun x5=>
 aA vB (!decide (x5.2=(0:Int))) fun x6=>
 aG x6 (
 aH (x5.2,a0)) (
 aA vI (wI (a0.i + (1:Int))) fun x7=>
 aH ((0:Int),(⟨a0.l,x7,(⟨a0.r.Name,a0.r.E,x5.1,a0.r.Keep,a0.r.Labels⟩:aZ)⟩:a6))))
def hJ (a0:a6):Option (Int × a6) :=
 fF [1] [0,4] [(false,0),(false,1),(false,2),(false,3),(false,4),(true,5),(false,6)]<|
 bX [1] [.box [.ptr 1 0],.box [sl aF a0.l,vI a0.i,vS a0.r.Name,vS a0.r.E.S.Name,sl aB a0.r.E.S.M,vI a0.r.E.Op,vI a0.r.E.V,vI a0.r.For,vI a0.r.Keep,sl aD a0.r.Labels]] (fun x1=>vI x1.1) (fun x1=>[.box [.ptr 1 0],.box [sl aF x1.2.l,vI x1.2.i,vS x1.2.r.Name,vS x1.2.r.E.S.Name,sl aB x1.2.r.E.S.M,vI x1.2.r.E.Op,vI x1.2.r.E.V,vI x1.2.r.For,vI x1.2.r.Keep,sl aD x1.2.r.Labels]]) (fW a0) fun x1=>
 aH (x1.1,x1.2)
def fM (a0:a6):Option (Int × a6) :=
 bX [0] [.box [sl aF a0.l,vI a0.i,vS a0.r.Name,vS a0.r.E.S.Name,sl aB a0.r.E.S.M,vI a0.r.E.Op,vI a0.r.E.V,vI a0.r.For,vI a0.r.Keep,sl aD a0.r.Labels]] (fun x1=>vB x1) (fun x1=>[.box [sl aF a0.l,vI a0.i,vS a0.r.Name,vS a0.r.E.S.Name,sl aB a0.r.E.S.M,vI a0.r.E.Op,vI a0.r.E.V,vI a0.r.For,vI a0.r.Keep,sl aD a0.r.Labels]]) (dE (2:Int) a0) fun x1=>
 aA vB (!x1) fun x2=>
 aG x2 (
 bX [0] [.box [sl aF a0.l,vI a0.i,vS a0.r.Name,vS a0.r.E.S.Name,sl aB a0.r.E.S.M,vI a0.r.E.Op,vI a0.r.E.V,vI a0.r.For,vI a0.r.Keep,sl aD a0.r.Labels]] (fun x3=>vI x3) (fun x3=>[.box [sl aF a0.l,vI a0.i,vS a0.r.Name,vS a0.r.E.S.Name,sl aB a0.r.E.S.M,vI a0.r.E.Op,vI a0.r.E.V,vI a0.r.For,vI a0.r.Keep,sl aD a0.r.Labels]]) (b8 a0) fun x3=>
 aH (x3,a0)) (
 fS<|
 bG a0.l a0.i fun x4=>
 aI (fun x5=>.tup [vI x5.1,vI x5.2]) (fun x5=>[.box [sl aF a0.l,vI a0.i,vS a0.r.Name,vS a0.r.E.S.Name,sl aB a0.r.E.S.M,vI a0.r.E.Op,vI a0.r.E.V,vI a0.r.For,vI a0.r.Keep,sl aD a0.r.Labels]]) (qA x4.S) fun x5=>
 aA vB (!decide (x5.2=(0:Int))) fun x6=>
 aG x6 (
 aH (x5.2,a0)) (
 aA vI (wI (a0.i + (1:Int))) fun x7=>
 aH ((0:Int),(⟨a0.l,x7,(⟨a0.r.Name,a0.r.E,a0.r.For,x5.1,a0.r.Labels⟩:aZ)⟩:a6))))
def g8 (a0:a6):Option (Int × a6) :=
 fF [1] [0,4] [(false,0),(false,1),(false,2),(false,3),(false,4),(true,5),(false,6)]<|
 bX [1] [.box [.ptr 1 0],.box [sl aF a0.l,vI a0.i,vS a0.r.Name,vS a0.r.E.S.Name,sl aB a0.r.E.S.M,vI a0.r.E.Op,vI a0.r.E.V,vI a0.r.For,vI a0.r.Keep,sl aD a0.r.Labels]] (fun x1=>vI x1.1) (fun x1=>[.box [.ptr 1 0],.box [sl aF x1.2.l,vI x1.2.i,vS x1.2.r.Name,vS x1.2.r.E.S.Name,sl aB x1.2.r.E.S.M,vI x1.2.r.E.Op,vI x1.2.r.E.V,vI x1.2.r.For,vI x1.2.r.Keep,sl aD x1.2.r.Labels]]) (fM a0) fun x1=>
 aH (x1.1,x1.2)
def iQ (a0:a6):Option (aJ × Int × a6) :=
 bX [0] [.box [sl aF a0.l,vI a0.i,vS a0.r.Name,vS a0.r.E.S.Name,sl aB a0.r.E.S.M,vI a0.r.E.Op,vI a0.r.E.V,vI a0.r.For,vI a0.r.Keep,sl aD a0.r.Labels],.box [vS ([]:Str),vS ([]:Str)]] (fun x1=>vB x1) (fun x1=>[.box [sl aF a0.l,vI a0.i,vS a0.r.Name,vS a0.r.E.S.Name,sl aB a0.r.E.S.M,vI a0.r.E.Op,vI a0.r.E.V,vI a0.r.For,vI a0.r.Keep,sl aD a0.r.Labels],.box [vS ([]:Str),vS ([]:Str)]]) (dE (1:Int) a0) fun x1=>
 aA vB (!x1) fun x2=>
 aG x2 (
 bX [0] [.box [sl aF a0.l,vI a0.i,vS a0.r.Name,vS a0.r.E.S.Name,sl aB a0.r.E.S.M,vI a0.r.E.Op,vI a0.r.E.V,vI a0.r.For,vI a0.r.Keep,sl aD a0.r.Labels],.box [vS ([]:Str),vS ([]:Str)]] (fun x3=>vI x3) (fun x3=>[.box [sl aF a0.l,vI a0.i,vS a0.r.Name,vS a0.r.E.S.Name,sl aB a0.r.E.S.M,vI a0.r.E.Op,vI a0.r.E.V,vI a0.r.For,vI a0.r.Keep,sl aD a0.r.Labels],.box [vS ([]:Str),vS ([]:Str)]]) (b8 a0) fun x3=>
 aH ((⟨([]:Str),([]:Str)⟩:aJ),x3,a0)) (
 bG a0.l a0.i fun x4=>
 aA vI (wI (a0.i + (1:Int))) fun x5=>
 bX [0] [.box [sl aF a0.l,vI x5,vS a0.r.Name,vS a0.r.E.S.Name,sl aB a0.r.E.S.M,vI a0.r.E.Op,vI a0.r.E.V,vI a0.r.For,vI a0.r.Keep,sl aD a0.r.Labels],.box [vS ([]:Str),vS ([]:Str)]] (fun x6=>vB x6.1) (fun x6=>[.box [sl aF x6.2.l,vI x6.2.i,vS x6.2.r.Name,vS x6.2.r.E.S.Name,sl aB x6.2.r.E.S.M,vI x6.2.r.E.Op,vI x6.2.r.E.V,vI x6.2.r.For,vI x6.2.r.Keep,sl aD x6.2.r.Labels],.box [vS ([]:Str),vS ([]:Str)]]) (cJ (4:Int) ([61]:Str) (⟨a0.l,x5,a0.r⟩:a6)) fun x6=>
 aA vB (!x6.1) fun x7=>
 aG x7 (
 bX [0] [.box [sl aF x6.2.l,vI x6.2.i,vS x6.2.r.Name,vS x6.2.r.E.S.Name,sl aB x6.2.r.E.S.M,vI x6.2.r.E.Op,vI x6.2.r.E.V,vI x6.2.r.For,vI x6.2.r.Keep,sl aD x6.2.r.Labels],.box [vS ([]:Str),vS ([]:Str)]] (fun x8=>vI x8) (fun x8=>[.box [sl aF x6.2.l,vI x6.2.i,vS x6.2.r.Name,vS x6.2.r.E.S.Name,sl aB x6.2.r.E.S.M,vI x6.2.r.E.Op,vI x6.2.r.E.V,vI x6.2.r.For,vI x6.2.r.Keep,sl aD x6.2.r.Labels],.box [vS ([]:Str),vS ([]:Str)]]) (b8 x6.2) fun x8=>
 aH ((⟨([]:Str),([]:Str)⟩:aJ),x8,x6.2)) (
 bX [0] [.box [sl aF x6.2.l,vI x6.2.i,vS x6.2.r.Name,vS x6.2.r.E.S.Name,sl aB x6.2.r.E.S.M,vI x6.2.r.E.Op,vI x6.2.r.E.V,vI x6.2.r.For,vI x6.2.r.Keep,sl aD x6.2.r.Labels],.box [vS ([]:Str),vS ([]:Str)]] (fun x9=>vB x9) (fun x9=>[.box [sl aF x6.2.l,vI x6.2.i,vS x6.2.r.Name,vS x6.2.r.E.S.Name,sl aB x6.2.r.E.S.M,vI x6.2.r.E.Op,vI x6.2.r.E.V,vI x6.2.r.For,vI x6.2.r.Keep,sl aD x6.2.r.Labels],.box [vS ([]:Str),vS ([]:Str)]]) (dE (3:Int) x6.2) fun x9=>
 aA vB (!x9) fun x10=>
 aG x10 (
 bX [0] [.box [sl aF x6.2.l,vI x6.2.i,vS x6.2.r.Name,vS x6.2.r.E.S.Name,sl aB x6.2.r.E.S.M,vI x6.2.r.E.Op,vI x6.2.r.E.V,vI x6.2.r.For,vI x6.2.r.Keep,sl aD x6.2.r.Labels],.box [vS ([]:Str),vS ([]:Str)]] (fun x11=>vI x11) (fun x11=>[.box [sl aF x6.2.l,vI x6.2.i,vS x6.2.r.Name,vS x6.2.r.E.S.Name,sl aB x6.2.r.E.S.M,vI x6.2.r.E.Op,vI x6.2.r.E.V,vI x6.2.r.For,vI x6.2.r.Keep,sl aD x6.2.r.Labels],.box [vS ([]:Str),vS ([]:Str)]]) (b8 x6.2) fun x11=>
 aH ((⟨([]:Str),([]:Str)⟩:aJ),x11,x6.2)) (
 bG x6.2.l x6.2.i fun x12=>
 aA vI (wI (x6.2.i + (1:Int))) fun x13=>
 aH ((⟨x4.S,x12.S⟩:aJ),(0:Int),(⟨x6.2.l,x13,x6.2.r⟩:a6)))))
def fU (a0:(List aJ)):Option ((List aJ)) :=
 IR a0 (
 aH ([]:(List aJ))) (
 L4<|
 gdM ((([]:(List aJ)).length + a0.length) * 32≤140737488355328)<|
 dT (so 0 aD) (fun x1=>[tk x1.length 2 47]) (([]:(List aJ)) ++ a0) fun x1=>
 aH x1)
def jX (a0:Str):Option (Bool) :=
 aA vB (!decide (a0=a0)) fun x1=>
 aH x1
def iU (a0:Str) (a1:Str):Option (Int) :=
 aI vB (fun x1=>[]) (jX a0) fun x1=>
 aI vB (fun x2=>[]) (jX a1) fun x2=>
 aG x1 (
 aG x2 (
 aH (0:Int)) (
 aH (-1:Int))) (
 aG x2 (
 aH (1:Int)) (
 aA vB (ltS a0 a1) fun x3=>
 aG x3 (
 aH (-1:Int)) (
 aA vB (ltS a1 a0) fun x4=>
 aG x4 (
 aH (1:Int)) (
 aH (0:Int)))))
def nA (a0:aJ) (a1:aJ):Option (Int) :=
 aI vI (fun x1=>[.box [vS a0.Name,vS a0.Value],.box [vS a1.Name,vS a1.Value]]) (iU a0.Name a1.Name) fun x1=>
 aH x1
def qP (a0:(List aJ)):Option ((List aJ) × Int) :=
 aA vI ((a0.length:Int)) fun x1=>
 aA vB (decide ((16:Int) < x1)) fun x2=>
 aG x2 (
 aH (([]:(List aJ)),(4:Int))) (
 aA vI ((a0.length:Int)) fun x3=>
 bK (fun (x4:Int)=>[(0,sl aD a0),(15,sl aD a0),(16,vI x3),(17,vI x4)]) (fun (x4:Int)=>[]) (fun (x4:Int)=>
 aA vB (decide (x4 < x3)) fun x5=>
 aG x5 (
 bG a0 x4 fun x6=>
 aA vI ((x6.Value.length:Int)) fun x7=>
 aA vB (decide ((64:Int) < x7)) fun x8=>
 aG x8 (
 aY<|
 aH (([]:(List aJ)),(4:Int))) (
 aA vI (wI (x4 + (1:Int))) fun x9=>
 aU x9)) (
 aY<|
 aA vI ((a0.length:Int)) fun x10=>
 bK (fun (x11:Int)=>[(0,sl aD a0),(26,sl aD a0),(27,vI x10),(28,vI x11)]) (fun (x11:Int)=>[]) (fun (x11:Int)=>
 aA vB (decide (x11 < x10)) fun x12=>
 aG x12 (
 bG a0 x11 fun x13=>
 aI vB (fun x14=>[.box [vS x13.Name,vS x13.Value]]) (gW x13.Name) fun x14=>
 aA vB (!x14) fun x15=>
 aG x15 (
 aY<|
 aH (([]:(List aJ)),(7:Int))) (
 aA vI (wI (x11 + (1:Int))) fun x16=>
 aU x16)) (
 aY<|
 dT (fun _=>.map 0) (fun x17=>[.map (mp kS vB x17)]) ([]:(List (Str × Bool))) fun x17=>
 aA vI ((a0.length:Int)) fun x18=>
 bK (fun (x19:(List (Str × Bool)) × Int)=>[(0,sl aD a0),(8,.map 0),(38,sl aD a0),(39,vI x18),(40,vI x19.2)]) (fun (x19:(List (Str × Bool)) × Int)=>[.map (mp kS vB x19.1)]) (fun (x19:(List (Str × Bool)) × Int)=>
 aA vB (decide (x19.2 < x18)) fun x20=>
 aG x20 (
 bG a0 x19.2 fun x21=>
 aA vB ((mlk x19.1 x21.Name).getD false) fun x22=>
 aG x22 (
 aY<|
 aH (([]:(List aJ)),(6:Int))) (
 dT (fun _=>.any) (fun x23=>[.map (mp kS vB x23),.box [vS x21.Name,vS x21.Value]]) (mst x19.1 x21.Name true) fun x23=>
 aA vI (wI (x19.2 + (1:Int))) fun x24=>
 aU (x23,x24))) (
 aY<|
 aI (so 1 aD) (fun x25=>[.map (mp kS vB x19.1),tk x25.length 2 47]) (fU a0) fun x25=>
 IH 11<|
 CM nA x25 fun x26=>
 LN 11<|
 aH (x26,(0:Int)))) (x17,(0:Int)))) (0:Int))) (0:Int))
def eZ (a0:Str):Option (Bool) :=
 aA vB (decide (a0=([95,95,110,97,109,101,95,95]:Str))) fun x1=>
 aA vB (decide (a0=([97,108,101,114,116,110,97,109,101]:Str))) fun x2=>
 aA vB (bif x1 then true else x2) fun x3=>
 aA vB (decide (a0=([97,108,101,114,116,115,116,97,116,101]:Str))) fun x4=>
 aA vB (bif x3 then true else x4) fun x5=>
 aH x5
def kE (a0:(List aJ)):Option (Bool) :=
 aA vI ((a0.length:Int)) fun x1=>
 bK (fun (x2:Int)=>[(5,sl aD a0),(6,vI x1),(7,vI x2)]) (fun (x2:Int)=>[]) (fun (x2:Int)=>
 aA vB (decide (x2 < x1)) fun x3=>
 aG x3 (
 bG a0 x2 fun x4=>
 aI vB (fun x5=>[.box [vS x4.Name,vS x4.Value]]) (eZ x4.Name) fun x5=>
 aG x5 (
 aY<|
 aH true) (
 aA vI (wI (x2 + (1:Int))) fun x6=>
 aU x6)) (
 aY<|
 aH false)) (0:Int)
def gU (a0:a6):Option (Int × a6) :=
 bX [0] [.box [sl aF a0.l,vI a0.i,vS a0.r.Name,vS a0.r.E.S.Name,sl aB a0.r.E.S.M,vI a0.r.E.Op,vI a0.r.E.V,vI a0.r.For,vI a0.r.Keep,sl aD a0.r.Labels]] (fun x1=>vB x1.1) (fun x1=>[.box [sl aF x1.2.l,vI x1.2.i,vS x1.2.r.Name,vS x1.2.r.E.S.Name,sl aB x1.2.r.E.S.M,vI x1.2.r.E.Op,vI x1.2.r.E.V,vI x1.2.r.For,vI x1.2.r.Keep,sl aD x1.2.r.Labels]]) (cJ (4:Int) ([123]:Str) a0) fun x1=>
 aA vB (!x1.1) fun x2=>
 aG x2 (
 bX [0] [.box [sl aF x1.2.l,vI x1.2.i,vS x1.2.r.Name,vS x1.2.r.E.S.Name,sl aB x1.2.r.E.S.M,vI x1.2.r.E.Op,vI x1.2.r.E.V,vI x1.2.r.For,vI x1.2.r.Keep,sl aD x1.2.r.Labels]] (fun x3=>vI x3) (fun x3=>[.box [sl aF x1.2.l,vI x1.2.i,vS x1.2.r.Name,vS x1.2.r.E.S.Name,sl aB x1.2.r.E.S.M,vI x1.2.r.E.Op,vI x1.2.r.E.V,vI x1.2.r.For,vI x1.2.r.Keep,sl aD x1.2.r.Labels]]) (b8 x1.2) fun x3=>
 aH (x3,x1.2)) (
 bX [0] [.box [sl aF x1.2.l,vI x1.2.i,vS x1.2.r.Name,vS x1.2.r.E.S.Name,sl aB x1.2.r.E.S.M,vI x1.2.r.E.Op,vI x1.2.r.E.V,vI x1.2.r.For,vI x1.2.r.Keep,sl aD x1.2.r.Labels]] (fun x4=>vB x4) (fun x4=>[.box [sl aF x1.2.l,vI x1.2.i,vS x1.2.r.Name,vS x1.2.r.E.S.Name,sl aB x1.2.r.E.S.M,vI x1.2.r.E.Op,vI x1.2.r.E.V,vI x1.2.r.For,vI x1.2.r.Keep,sl aD x1.2.r.Labels]]) (gF (4:Int) ([125]:Str) x1.2) fun x4=>
 aA vB (!x4) fun x5=>
 Ce 3 2 47<|
 bK (fun (x6:(List aK) × Int × Str × Str × (List a8) × Int × Int × Int × Int × (List aJ) × (List aJ) × Bool)=>[(0,.ptr 0 0),(3,so 1 aD x6.2.2.2.2.2.2.2.2.2.2.1),(4,vB x6.2.2.2.2.2.2.2.2.2.2.2)]) (fun (x6:(List aK) × Int × Str × Str × (List a8) × Int × Int × Int × Int × (List aJ) × (List aJ) × Bool)=>[.box [sl aF x6.1,vI x6.2.1,vS x6.2.2.1,vS x6.2.2.2.1,sl aB x6.2.2.2.2.1,vI x6.2.2.2.2.2.1,vI x6.2.2.2.2.2.2.1,vI x6.2.2.2.2.2.2.2.1,vI x6.2.2.2.2.2.2.2.2.1,sl aD x6.2.2.2.2.2.2.2.2.2.1],tk x6.2.2.2.2.2.2.2.2.2.2.1.length 2 47]) (fun (x6:(List aK) × Int × Str × Str × (List a8) × Int × Int × Int × Int × (List aJ) × (List aJ) × Bool)=>
 aG x6.2.2.2.2.2.2.2.2.2.2.2 (
 bX [0] [.box [sl aF x6.1,vI x6.2.1,vS x6.2.2.1,vS x6.2.2.2.1,sl aB x6.2.2.2.2.1,vI x6.2.2.2.2.2.1,vI x6.2.2.2.2.2.2.1,vI x6.2.2.2.2.2.2.2.1,vI x6.2.2.2.2.2.2.2.2.1,sl aD x6.2.2.2.2.2.2.2.2.2.1],tk x6.2.2.2.2.2.2.2.2.2.2.1.length 2 47] (fun x7=>.tup [(ag aD) x7.1,vI x7.2.1]) (fun x7=>[.box [sl aF x7.2.2.l,vI x7.2.2.i,vS x7.2.2.r.Name,vS x7.2.2.r.E.S.Name,sl aB x7.2.2.r.E.S.M,vI x7.2.2.r.E.Op,vI x7.2.2.r.E.V,vI x7.2.2.r.For,vI x7.2.2.r.Keep,sl aD x7.2.2.r.Labels],tk x6.2.2.2.2.2.2.2.2.2.2.1.length 2 47]) (iQ (⟨x6.1,x6.2.1,(⟨x6.2.2.1,(⟨(⟨x6.2.2.2.1,x6.2.2.2.2.1⟩:bM),x6.2.2.2.2.2.1,x6.2.2.2.2.2.2.1⟩:bF),x6.2.2.2.2.2.2.2.1,x6.2.2.2.2.2.2.2.2.1,x6.2.2.2.2.2.2.2.2.2.1⟩:aZ)⟩:a6)) fun x7=>
 aA vB (!decide (x7.2.1=(0:Int))) fun x8=>
 aG x8 (
 aY<|
 aH (x7.2.1,x7.2.2)) (
 aA (sx aD) ([x7.1]:(List aJ)) fun x9=>
 gdM ((x6.2.2.2.2.2.2.2.2.2.2.1.length + x9.length) * 32≤140737488355328)<|
 dT (so 1 aD) (fun x10=>[.box [sl aF x7.2.2.l,vI x7.2.2.i,vS x7.2.2.r.Name,vS x7.2.2.r.E.S.Name,sl aB x7.2.2.r.E.S.M,vI x7.2.2.r.E.Op,vI x7.2.2.r.E.V,vI x7.2.2.r.For,vI x7.2.2.r.Keep,sl aD x7.2.2.r.Labels],tk x10.length 2 47,.box [vS x7.1.Name,vS x7.1.Value]]) (x6.2.2.2.2.2.2.2.2.2.2.1 ++ x9) fun x10=>
 bX [0] [.box [sl aF x7.2.2.l,vI x7.2.2.i,vS x7.2.2.r.Name,vS x7.2.2.r.E.S.Name,sl aB x7.2.2.r.E.S.M,vI x7.2.2.r.E.Op,vI x7.2.2.r.E.V,vI x7.2.2.r.For,vI x7.2.2.r.Keep,sl aD x7.2.2.r.Labels],tk x10.length 2 47,.box [vS x7.1.Name,vS x7.1.Value]] (fun x11=>vB x11.1) (fun x11=>[.box [sl aF x11.2.l,vI x11.2.i,vS x11.2.r.Name,vS x11.2.r.E.S.Name,sl aB x11.2.r.E.S.M,vI x11.2.r.E.Op,vI x11.2.r.E.V,vI x11.2.r.For,vI x11.2.r.Keep,sl aD x11.2.r.Labels],tk x10.length 2 47,.box [vS x7.1.Name,vS x7.1.Value]]) (cJ (4:Int) ([44]:Str) x7.2.2) fun x11=>
 aU (x11.2.l,x11.2.i,x11.2.r.Name,x11.2.r.E.S.Name,x11.2.r.E.S.M,x11.2.r.E.Op,x11.2.r.E.V,x11.2.r.For,x11.2.r.Keep,x11.2.r.Labels,x10,x11.1))) (
 aY<|
 bX [0] [.box [sl aF x6.1,vI x6.2.1,vS x6.2.2.1,vS x6.2.2.2.1,sl aB x6.2.2.2.2.1,vI x6.2.2.2.2.2.1,vI x6.2.2.2.2.2.2.1,vI x6.2.2.2.2.2.2.2.1,vI x6.2.2.2.2.2.2.2.2.1,sl aD x6.2.2.2.2.2.2.2.2.2.1],tk x6.2.2.2.2.2.2.2.2.2.2.1.length 2 47] (fun x12=>vB x12) (fun x12=>[.box [sl aF x6.1,vI x6.2.1,vS x6.2.2.1,vS x6.2.2.2.1,sl aB x6.2.2.2.2.1,vI x6.2.2.2.2.2.1,vI x6.2.2.2.2.2.2.1,vI x6.2.2.2.2.2.2.2.1,vI x6.2.2.2.2.2.2.2.2.1,sl aD x6.2.2.2.2.2.2.2.2.2.1],tk x6.2.2.2.2.2.2.2.2.2.2.1.length 2 47]) (gF (4:Int) ([125]:Str) (⟨x6.1,x6.2.1,(⟨x6.2.2.1,(⟨(⟨x6.2.2.2.1,x6.2.2.2.2.1⟩:bM),x6.2.2.2.2.2.1,x6.2.2.2.2.2.2.1⟩:bF),x6.2.2.2.2.2.2.2.1,x6.2.2.2.2.2.2.2.2.1,x6.2.2.2.2.2.2.2.2.2.1⟩:aZ)⟩:a6)) fun x12=>
 aA vB (!x12) fun x13=>
 aG x13 (
 bX [0] [.box [sl aF x6.1,vI x6.2.1,vS x6.2.2.1,vS x6.2.2.2.1,sl aB x6.2.2.2.2.1,vI x6.2.2.2.2.2.1,vI x6.2.2.2.2.2.2.1,vI x6.2.2.2.2.2.2.2.1,vI x6.2.2.2.2.2.2.2.2.1,sl aD x6.2.2.2.2.2.2.2.2.2.1],tk x6.2.2.2.2.2.2.2.2.2.2.1.length 2 47] (fun x14=>vI x14) (fun x14=>[.box [sl aF x6.1,vI x6.2.1,vS x6.2.2.1,vS x6.2.2.2.1,sl aB x6.2.2.2.2.1,vI x6.2.2.2.2.2.1,vI x6.2.2.2.2.2.2.1,vI x6.2.2.2.2.2.2.2.1,vI x6.2.2.2.2.2.2.2.2.1,sl aD x6.2.2.2.2.2.2.2.2.2.1],tk x6.2.2.2.2.2.2.2.2.2.2.1.length 2 47]) (b8 (⟨x6.1,x6.2.1,(⟨x6.2.2.1,(⟨(⟨x6.2.2.2.1,x6.2.2.2.2.1⟩:bM),x6.2.2.2.2.2.1,x6.2.2.2.2.2.2.1⟩:bF),x6.2.2.2.2.2.2.2.1,x6.2.2.2.2.2.2.2.2.1,x6.2.2.2.2.2.2.2.2.2.1⟩:aZ)⟩:a6)) fun x14=>
 aH (x14,(⟨x6.1,x6.2.1,(⟨x6.2.2.1,(⟨(⟨x6.2.2.2.1,x6.2.2.2.2.1⟩:bM),x6.2.2.2.2.2.1,x6.2.2.2.2.2.2.1⟩:bF),x6.2.2.2.2.2.2.2.1,x6.2.2.2.2.2.2.2.2.1,x6.2.2.2.2.2.2.2.2.2.1⟩:aZ)⟩:a6))) (
 aI (fun x15=>.tup [(sl aD) x15.1,vI x15.2]) (fun x15=>[.box [sl aF x6.1,vI x6.2.1,vS x6.2.2.1,vS x6.2.2.2.1,sl aB x6.2.2.2.2.1,vI x6.2.2.2.2.2.1,vI x6.2.2.2.2.2.2.1,vI x6.2.2.2.2.2.2.2.1,vI x6.2.2.2.2.2.2.2.2.1,sl aD x6.2.2.2.2.2.2.2.2.2.1],.tok x6.2.2.2.2.2.2.2.2.2.2.1.length 2 47 false]) (qP x6.2.2.2.2.2.2.2.2.2.2.1) fun x15=>
 aA vB (!decide (x15.2=(0:Int))) fun x16=>
 aG x16 (
 aH (x15.2,(⟨x6.1,x6.2.1,(⟨x6.2.2.1,(⟨(⟨x6.2.2.2.1,x6.2.2.2.2.1⟩:bM),x6.2.2.2.2.2.1,x6.2.2.2.2.2.2.1⟩:bF),x6.2.2.2.2.2.2.2.1,x6.2.2.2.2.2.2.2.2.1,x6.2.2.2.2.2.2.2.2.2.1⟩:aZ)⟩:a6))) (
 aI vB (fun x17=>[.box [sl aF x6.1,vI x6.2.1,vS x6.2.2.1,vS x6.2.2.2.1,sl aB x6.2.2.2.2.1,vI x6.2.2.2.2.2.1,vI x6.2.2.2.2.2.2.1,vI x6.2.2.2.2.2.2.2.1,vI x6.2.2.2.2.2.2.2.2.1,sl aD x6.2.2.2.2.2.2.2.2.2.1],.tok x6.2.2.2.2.2.2.2.2.2.2.1.length 2 47 false]) (kE x15.1) fun x17=>
 aG x17 (
 aH ((7:Int),(⟨x6.1,x6.2.1,(⟨x6.2.2.1,(⟨(⟨x6.2.2.2.1,x6.2.2.2.2.1⟩:bM),x6.2.2.2.2.2.1,x6.2.2.2.2.2.2.1⟩:bF),x6.2.2.2.2.2.2.2.1,x6.2.2.2.2.2.2.2.2.1,x6.2.2.2.2.2.2.2.2.2.1⟩:aZ)⟩:a6))) (
 aA vI (wI (x6.2.1 + (1:Int))) fun x18=>
 aH ((0:Int),(⟨x6.1,x18,(⟨x6.2.2.1,(⟨(⟨x6.2.2.2.1,x6.2.2.2.2.1⟩:bM),x6.2.2.2.2.2.1,x6.2.2.2.2.2.2.1⟩:bF),x6.2.2.2.2.2.2.2.1,x6.2.2.2.2.2.2.2.2.1,x15.1⟩:aZ)⟩:a6))))))) (x1.2.l,x1.2.i,x1.2.r.Name,x1.2.r.E.S.Name,x1.2.r.E.S.M,x1.2.r.E.Op,x1.2.r.E.V,x1.2.r.For,x1.2.r.Keep,x1.2.r.Labels,([]:List aJ),x5))
def gO (a0:a6):Option (Int × a6) :=
 bX [0] [.box [sl aF a0.l,vI a0.i,vS a0.r.Name,vS a0.r.E.S.Name,sl aB a0.r.E.S.M,vI a0.r.E.Op,vI a0.r.E.V,vI a0.r.For,vI a0.r.Keep,sl aD a0.r.Labels],.box [.ptr 0 0]] (fun x1=>vB x1.1) (fun x1=>[.box [sl aF x1.2.l,vI x1.2.i,vS x1.2.r.Name,vS x1.2.r.E.S.Name,sl aB x1.2.r.E.S.M,vI x1.2.r.E.Op,vI x1.2.r.E.V,vI x1.2.r.For,vI x1.2.r.Keep,sl aD x1.2.r.Labels],.box [.ptr 0 0]]) (cJ (1:Int) ([114,117,108,101]:Str) a0) fun x1=>
 aA vB (!x1.1) fun x2=>
 aG x2 (
 bX [0] [.box [sl aF x1.2.l,vI x1.2.i,vS x1.2.r.Name,vS x1.2.r.E.S.Name,sl aB x1.2.r.E.S.M,vI x1.2.r.E.Op,vI x1.2.r.E.V,vI x1.2.r.For,vI x1.2.r.Keep,sl aD x1.2.r.Labels],.box [.ptr 0 0]] (fun x3=>vI x3) (fun x3=>[.box [sl aF x1.2.l,vI x1.2.i,vS x1.2.r.Name,vS x1.2.r.E.S.Name,sl aB x1.2.r.E.S.M,vI x1.2.r.E.Op,vI x1.2.r.E.V,vI x1.2.r.For,vI x1.2.r.Keep,sl aD x1.2.r.Labels],.box [.ptr 0 0]]) (b8 x1.2) fun x3=>
 aH (x3,x1.2)) (
 bX [0] [.box [sl aF x1.2.l,vI x1.2.i,vS x1.2.r.Name,vS x1.2.r.E.S.Name,sl aB x1.2.r.E.S.M,vI x1.2.r.E.Op,vI x1.2.r.E.V,vI x1.2.r.For,vI x1.2.r.Keep,sl aD x1.2.r.Labels],.box [.ptr 0 0]] (fun x4=>vB x4) (fun x4=>[.box [sl aF x1.2.l,vI x1.2.i,vS x1.2.r.Name,vS x1.2.r.E.S.Name,sl aB x1.2.r.E.S.M,vI x1.2.r.E.Op,vI x1.2.r.E.V,vI x1.2.r.For,vI x1.2.r.Keep,sl aD x1.2.r.Labels],.box [.ptr 0 0]]) (dE (1:Int) x1.2) fun x4=>
 aA vB (!x4) fun x5=>
 aG x5 (
 bX [0] [.box [sl aF x1.2.l,vI x1.2.i,vS x1.2.r.Name,vS x1.2.r.E.S.Name,sl aB x1.2.r.E.S.M,vI x1.2.r.E.Op,vI x1.2.r.E.V,vI x1.2.r.For,vI x1.2.r.Keep,sl aD x1.2.r.Labels],.box [.ptr 0 0]] (fun x6=>vI x6) (fun x6=>[.box [sl aF x1.2.l,vI x1.2.i,vS x1.2.r.Name,vS x1.2.r.E.S.Name,sl aB x1.2.r.E.S.M,vI x1.2.r.E.Op,vI x1.2.r.E.V,vI x1.2.r.For,vI x1.2.r.Keep,sl aD x1.2.r.Labels],.box [.ptr 0 0]]) (b8 x1.2) fun x6=>
 aH (x6,x1.2)) (
 Ma 15<|
 bG x1.2.l x1.2.i fun x7=>
 aI vB (fun x8=>[.box [sl aF x1.2.l,vI x1.2.i,vS x7.S,vS x1.2.r.E.S.Name,sl aB x1.2.r.E.S.M,vI x1.2.r.E.Op,vI x1.2.r.E.V,vI x1.2.r.For,vI x1.2.r.Keep,sl aD x1.2.r.Labels],.box [.ptr 0 0]]) (gW x7.S) fun x8=>
 aA vB (!x8) fun x9=>
 aG x9 (
 aH ((7:Int),(⟨x1.2.l,x1.2.i,(⟨x7.S,x1.2.r.E,x1.2.r.For,x1.2.r.Keep,x1.2.r.Labels⟩:aZ)⟩:a6))) (
 aA vI (wI (x1.2.i + (1:Int))) fun x10=>
 bX [0] [.box [sl aF x1.2.l,vI x10,vS x7.S,vS x1.2.r.E.S.Name,sl aB x1.2.r.E.S.M,vI x1.2.r.E.Op,vI x1.2.r.E.V,vI x1.2.r.For,vI x1.2.r.Keep,sl aD x1.2.r.Labels],.box [.ptr 0 0]] (fun x11=>vB x11.1) (fun x11=>[.box [sl aF x11.2.l,vI x11.2.i,vS x11.2.r.Name,vS x11.2.r.E.S.Name,sl aB x11.2.r.E.S.M,vI x11.2.r.E.Op,vI x11.2.r.E.V,vI x11.2.r.For,vI x11.2.r.Keep,sl aD x11.2.r.Labels],.box [.ptr 0 0]]) (cJ (4:Int) ([58]:Str) (⟨x1.2.l,x10,(⟨x7.S,x1.2.r.E,x1.2.r.For,x1.2.r.Keep,x1.2.r.Labels⟩:aZ)⟩:a6)) fun x11=>
 aA vB (!x11.1) fun x12=>
 aG x12 (
 bX [0] [.box [sl aF x11.2.l,vI x11.2.i,vS x11.2.r.Name,vS x11.2.r.E.S.Name,sl aB x11.2.r.E.S.M,vI x11.2.r.E.Op,vI x11.2.r.E.V,vI x11.2.r.For,vI x11.2.r.Keep,sl aD x11.2.r.Labels],.box [.ptr 0 0]] (fun x13=>vI x13) (fun x13=>[.box [sl aF x11.2.l,vI x11.2.i,vS x11.2.r.Name,vS x11.2.r.E.S.Name,sl aB x11.2.r.E.S.M,vI x11.2.r.E.Op,vI x11.2.r.E.V,vI x11.2.r.For,vI x11.2.r.Keep,sl aD x11.2.r.Labels],.box [.ptr 0 0]]) (b8 x11.2) fun x13=>
 aH (x13,x11.2)) (
 fF [0] [0,2,3,4,5,6,7,8,9,11,12,17] [(false,0),(false,1),(false,2),(false,3),(false,4),(false,5),(false,6),(false,7),(false,8),(false,9),(true,10),(false,11),(false,12),(false,13),(false,14),(false,15),(false,16),(false,17),(true,18),(false,19),(false,20),(true,21),(false,22)]<|
 aI (fun x14=>.tup [(ag fX) x14.1,vI x14.2.1,vI x14.2.2]) (fun x14=>[.box [sl aF x11.2.l,vI x11.2.i,vS x11.2.r.Name,vS x11.2.r.E.S.Name,sl aB x11.2.r.E.S.M,vI x11.2.r.E.Op,vI x11.2.r.E.V,vI x11.2.r.For,vI x11.2.r.Keep,sl aD x11.2.r.Labels],.box [.ptr 0 0]]) (rB x11.2.l x11.2.i) fun x14=>
 aA vB (!decide (x14.2.2=(0:Int))) fun x15=>
 aG x15 (
 aH (x14.2.2,(⟨x11.2.l,x14.2.1,(⟨x11.2.r.Name,x14.1,x11.2.r.For,x11.2.r.Keep,x11.2.r.Labels⟩:aZ)⟩:a6))) (
 bK (fun (x16:(List aK) × Int × Str × Str × (List a8) × Int × Int × Int × Int × (List aJ) × Int)=>[(1,.ptr 1 0),(83,.agg [vS ([102,111,114]:Str),.fn 56 [] [.ptr 1 0],vS ([107,101,101,112]:Str),.fn 58 [] [.ptr 1 0],vS ([108,97,98,101,108,115]:Str),.fn 59 [.ptr 0 0] []]),(84,vI x16.2.2.2.2.2.2.2.2.2.2)]) (fun (x16:(List aK) × Int × Str × Str × (List a8) × Int × Int × Int × Int × (List aJ) × Int)=>[.box [sl aF x16.1,vI x16.2.1,vS x16.2.2.1,vS x16.2.2.2.1,sl aB x16.2.2.2.2.1,vI x16.2.2.2.2.2.1,vI x16.2.2.2.2.2.2.1,vI x16.2.2.2.2.2.2.2.1,vI x16.2.2.2.2.2.2.2.2.1,sl aD x16.2.2.2.2.2.2.2.2.2.1],.box [.ptr 0 0]]) (fun (x16:(List aK) × Int × Str × Str × (List a8) × Int × Int × Int × Int × (List aJ) × Int)=>
 aA vB (decide (x16.2.2.2.2.2.2.2.2.2.2 < (3:Int))) fun x17=>
 aG x17 (
 Cs x16.2.2.2.2.2.2.2.2.2.2 (
 bX [0] [.box [sl aF x16.1,vI x16.2.1,vS x16.2.2.1,vS x16.2.2.2.1,sl aB x16.2.2.2.2.1,vI x16.2.2.2.2.2.1,vI x16.2.2.2.2.2.2.1,vI x16.2.2.2.2.2.2.2.1,vI x16.2.2.2.2.2.2.2.2.1,sl aD x16.2.2.2.2.2.2.2.2.2.1],.box [.ptr 0 0],.box [vS ([102,111,114]:Str),.fn 56 [] [.ptr 1 0]]] (fun x18=>vB x18.1) (fun x18=>[.box [sl aF x18.2.l,vI x18.2.i,vS x18.2.r.Name,vS x18.2.r.E.S.Name,sl aB x18.2.r.E.S.M,vI x18.2.r.E.Op,vI x18.2.r.E.V,vI x18.2.r.For,vI x18.2.r.Keep,sl aD x18.2.r.Labels],.box [.ptr 0 0],.box [vS ([102,111,114]:Str),.fn 56 [] [.ptr 1 0]]]) (cJ (1:Int) ([102,111,114]:Str) (⟨x16.1,x16.2.1,(⟨x16.2.2.1,(⟨(⟨x16.2.2.2.1,x16.2.2.2.2.1⟩:bM),x16.2.2.2.2.2.1,x16.2.2.2.2.2.2.1⟩:bF),x16.2.2.2.2.2.2.2.1,x16.2.2.2.2.2.2.2.2.1,x16.2.2.2.2.2.2.2.2.2.1⟩:aZ)⟩:a6)) fun x18=>
 aG x18.1 (
 bX [1,0] [.box [sl aF x18.2.l,vI x18.2.i,vS x18.2.r.Name,vS x18.2.r.E.S.Name,sl aB x18.2.r.E.S.M,vI x18.2.r.E.Op,vI x18.2.r.E.V,vI x18.2.r.For,vI x18.2.r.Keep,sl aD x18.2.r.Labels],.box [.ptr 0 0],.box [vS ([102,111,114]:Str),.fn 56 [] [.ptr 1 0]]] (fun x19=>vI x19.1) (fun x19=>[.box [sl aF x19.2.l,vI x19.2.i,vS x19.2.r.Name,vS x19.2.r.E.S.Name,sl aB x19.2.r.E.S.M,vI x19.2.r.E.Op,vI x19.2.r.E.V,vI x19.2.r.For,vI x19.2.r.Keep,sl aD x19.2.r.Labels],.box [.ptr 0 0],.box [vS ([102,111,114]:Str),.fn 56 [] [.ptr 1 0]]]) (hJ x18.2) fun x19=>
 aA vB (!decide (x19.1=(0:Int))) fun x20=>
 aG x20 (
 aY<|
 aH (x19.1,x19.2)) (
 aA vI (wI (x16.2.2.2.2.2.2.2.2.2.2 + (1:Int))) fun x21=>
 aU (x19.2.l,x19.2.i,x19.2.r.Name,x19.2.r.E.S.Name,x19.2.r.E.S.M,x19.2.r.E.Op,x19.2.r.E.V,x19.2.r.For,x19.2.r.Keep,x19.2.r.Labels,x21))) (
 aA vI (wI (x16.2.2.2.2.2.2.2.2.2.2 + (1:Int))) fun x22=>
 aU (x18.2.l,x18.2.i,x18.2.r.Name,x18.2.r.E.S.Name,x18.2.r.E.S.M,x18.2.r.E.Op,x18.2.r.E.V,x18.2.r.For,x18.2.r.Keep,x18.2.r.Labels,x22))) (
 bX [0] [.box [sl aF x16.1,vI x16.2.1,vS x16.2.2.1,vS x16.2.2.2.1,sl aB x16.2.2.2.2.1,vI x16.2.2.2.2.2.1,vI x16.2.2.2.2.2.2.1,vI x16.2.2.2.2.2.2.2.1,vI x16.2.2.2.2.2.2.2.2.1,sl aD x16.2.2.2.2.2.2.2.2.2.1],.box [.ptr 0 0],.box [vS ([107,101,101,112]:Str),.fn 58 [] [.ptr 1 0]]] (fun x23=>vB x23.1) (fun x23=>[.box [sl aF x23.2.l,vI x23.2.i,vS x23.2.r.Name,vS x23.2.r.E.S.Name,sl aB x23.2.r.E.S.M,vI x23.2.r.E.Op,vI x23.2.r.E.V,vI x23.2.r.For,vI x23.2.r.Keep,sl aD x23.2.r.Labels],.box [.ptr 0 0],.box [vS ([107,101,101,112]:Str),.fn 58 [] [.ptr 1 0]]]) (cJ (1:Int) ([107,101,101,112]:Str) (⟨x16.1,x16.2.1,(⟨x16.2.2.1,(⟨(⟨x16.2.2.2.1,x16.2.2.2.2.1⟩:bM),x16.2.2.2.2.2.1,x16.2.2.2.2.2.2.1⟩:bF),x16.2.2.2.2.2.2.2.1,x16.2.2.2.2.2.2.2.2.1,x16.2.2.2.2.2.2.2.2.2.1⟩:aZ)⟩:a6)) fun x23=>
 aG x23.1 (
 bX [1,0] [.box [sl aF x23.2.l,vI x23.2.i,vS x23.2.r.Name,vS x23.2.r.E.S.Name,sl aB x23.2.r.E.S.M,vI x23.2.r.E.Op,vI x23.2.r.E.V,vI x23.2.r.For,vI x23.2.r.Keep,sl aD x23.2.r.Labels],.box [.ptr 0 0],.box [vS ([107,101,101,112]:Str),.fn 58 [] [.ptr 1 0]]] (fun x24=>vI x24.1) (fun x24=>[.box [sl aF x24.2.l,vI x24.2.i,vS x24.2.r.Name,vS x24.2.r.E.S.Name,sl aB x24.2.r.E.S.M,vI x24.2.r.E.Op,vI x24.2.r.E.V,vI x24.2.r.For,vI x24.2.r.Keep,sl aD x24.2.r.Labels],.box [.ptr 0 0],.box [vS ([107,101,101,112]:Str),.fn 58 [] [.ptr 1 0]]]) (g8 x23.2) fun x24=>
 aA vB (!decide (x24.1=(0:Int))) fun x25=>
 aG x25 (
 aY<|
 aH (x24.1,x24.2)) (
 aA vI (wI (x16.2.2.2.2.2.2.2.2.2.2 + (1:Int))) fun x26=>
 aU (x24.2.l,x24.2.i,x24.2.r.Name,x24.2.r.E.S.Name,x24.2.r.E.S.M,x24.2.r.E.Op,x24.2.r.E.V,x24.2.r.For,x24.2.r.Keep,x24.2.r.Labels,x26))) (
 aA vI (wI (x16.2.2.2.2.2.2.2.2.2.2 + (1:Int))) fun x27=>
 aU (x23.2.l,x23.2.i,x23.2.r.Name,x23.2.r.E.S.Name,x23.2.r.E.S.M,x23.2.r.E.Op,x23.2.r.E.V,x23.2.r.For,x23.2.r.Keep,x23.2.r.Labels,x27))) (
 bX [0] [.box [sl aF x16.1,vI x16.2.1,vS x16.2.2.1,vS x16.2.2.2.1,sl aB x16.2.2.2.2.1,vI x16.2.2.2.2.2.1,vI x16.2.2.2.2.2.2.1,vI x16.2.2.2.2.2.2.2.1,vI x16.2.2.2.2.2.2.2.2.1,sl aD x16.2.2.2.2.2.2.2.2.2.1],.box [.ptr 0 0],.box [vS ([108,97,98,101,108,115]:Str),.fn 59 [.ptr 0 0] []]] (fun x28=>vB x28.1) (fun x28=>[.box [sl aF x28.2.l,vI x28.2.i,vS x28.2.r.Name,vS x28.2.r.E.S.Name,sl aB x28.2.r.E.S.M,vI x28.2.r.E.Op,vI x28.2.r.E.V,vI x28.2.r.For,vI x28.2.r.Keep,sl aD x28.2.r.Labels],.box [.ptr 0 0],.box [vS ([108,97,98,101,108,115]:Str),.fn 59 [.ptr 0 0] []]]) (cJ (1:Int) ([108,97,98,101,108,115]:Str) (⟨x16.1,x16.2.1,(⟨x16.2.2.1,(⟨(⟨x16.2.2.2.1,x16.2.2.2.2.1⟩:bM),x16.2.2.2.2.2.1,x16.2.2.2.2.2.2.1⟩:bF),x16.2.2.2.2.2.2.2.1,x16.2.2.2.2.2.2.2.2.1,x16.2.2.2.2.2.2.2.2.2.1⟩:aZ)⟩:a6)) fun x28=>
 aG x28.1 (
 bX [0] [.box [sl aF x28.2.l,vI x28.2.i,vS x28.2.r.Name,vS x28.2.r.E.S.Name,sl aB x28.2.r.E.S.M,vI x28.2.r.E.Op,vI x28.2.r.E.V,vI x28.2.r.For,vI x28.2.r.Keep,sl aD x28.2.r.Labels],.box [.ptr 0 0],.box [vS ([108,97,98,101,108,115]:Str),.fn 59 [.ptr 0 0] []]] (fun x29=>vI x29.1) (fun x29=>[.box [sl aF x29.2.l,vI x29.2.i,vS x29.2.r.Name,vS x29.2.r.E.S.Name,sl aB x29.2.r.E.S.M,vI x29.2.r.E.Op,vI x29.2.r.E.V,vI x29.2.r.For,vI x29.2.r.Keep,sl aD x29.2.r.Labels],.box [.ptr 0 0],.box [vS ([108,97,98,101,108,115]:Str),.fn 59 [.ptr 0 0] []]]) (gU x28.2) fun x29=>
 aA vB (!decide (x29.1=(0:Int))) fun x30=>
 aG x30 (
 aY<|
 aH (x29.1,x29.2)) (
 aA vI (wI (x16.2.2.2.2.2.2.2.2.2.2 + (1:Int))) fun x31=>
 aU (x29.2.l,x29.2.i,x29.2.r.Name,x29.2.r.E.S.Name,x29.2.r.E.S.M,x29.2.r.E.Op,x29.2.r.E.V,x29.2.r.For,x29.2.r.Keep,x29.2.r.Labels,x31))) (
 aA vI (wI (x16.2.2.2.2.2.2.2.2.2.2 + (1:Int))) fun x32=>
 aU (x28.2.l,x28.2.i,x28.2.r.Name,x28.2.r.E.S.Name,x28.2.r.E.S.M,x28.2.r.E.Op,x28.2.r.E.V,x28.2.r.For,x28.2.r.Keep,x28.2.r.Labels,x32)))) (
 aY<|
 bX [0] [.box [sl aF x16.1,vI x16.2.1,vS x16.2.2.1,vS x16.2.2.2.1,sl aB x16.2.2.2.2.1,vI x16.2.2.2.2.2.1,vI x16.2.2.2.2.2.2.1,vI x16.2.2.2.2.2.2.2.1,vI x16.2.2.2.2.2.2.2.2.1,sl aD x16.2.2.2.2.2.2.2.2.2.1],.box [.ptr 0 0]] (fun x33=>vB x33.1) (fun x33=>[.box [sl aF x33.2.l,vI x33.2.i,vS x33.2.r.Name,vS x33.2.r.E.S.Name,sl aB x33.2.r.E.S.M,vI x33.2.r.E.Op,vI x33.2.r.E.V,vI x33.2.r.For,vI x33.2.r.Keep,sl aD x33.2.r.Labels],.box [.ptr 0 0]]) (cJ (4:Int) ([59]:Str) (⟨x16.1,x16.2.1,(⟨x16.2.2.1,(⟨(⟨x16.2.2.2.1,x16.2.2.2.2.1⟩:bM),x16.2.2.2.2.2.1,x16.2.2.2.2.2.2.1⟩:bF),x16.2.2.2.2.2.2.2.1,x16.2.2.2.2.2.2.2.2.1,x16.2.2.2.2.2.2.2.2.2.1⟩:aZ)⟩:a6)) fun x33=>
 aA vB (!x33.1) fun x34=>
 aG x34 (
 bX [0] [.box [sl aF x33.2.l,vI x33.2.i,vS x33.2.r.Name,vS x33.2.r.E.S.Name,sl aB x33.2.r.E.S.M,vI x33.2.r.E.Op,vI x33.2.r.E.V,vI x33.2.r.For,vI x33.2.r.Keep,sl aD x33.2.r.Labels],.box [.ptr 0 0]] (fun x35=>vI x35) (fun x35=>[.box [sl aF x33.2.l,vI x33.2.i,vS x33.2.r.Name,vS x33.2.r.E.S.Name,sl aB x33.2.r.E.S.M,vI x33.2.r.E.Op,vI x33.2.r.E.V,vI x33.2.r.For,vI x33.2.r.Keep,sl aD x33.2.r.Labels],.box [.ptr 0 0]]) (b8 x33.2) fun x35=>
 aH (x35,x33.2)) (
 aH ((0:Int),x33.2)))) (x11.2.l,x14.2.1,x11.2.r.Name,x14.1.S.Name,x14.1.S.M,x14.1.Op,x14.1.V,x11.2.r.For,x11.2.r.Keep,x11.2.r.Labels,(0:Int)))))))
def dW (a0:(List aK)) (a1:Int):Option (aZ × Int × Int) :=
 aA vB (decide (a1 < (0:Int))) fun x1=>
 aG x1 (
 aH ((⟨([]:Str),(⟨(⟨([]:Str),([]:(List a8))⟩:bM),(0:Int),(0:Int)⟩:bF),(0:Int),(0:Int),([]:(List aJ))⟩:aZ),(0:Int),(3:Int))) (
 aA vI ((a0.length:Int)) fun x2=>
 aA vI (min a1 x2) fun x3=>
 bX [1] [.box [vS ([]:Str),vS ([]:Str),.v (.slice none 0 0),vI (0:Int),vI (0:Int),vI (0:Int),vI (0:Int),.v (.slice none 0 0)],.box [sl aF a0,vI x3,vS ([]:Str),vS ([]:Str),sl aB ([]:List a8),vI (0:Int),vI (0:Int),vI (0:Int),vI (0:Int),sl aD ([]:List aJ)]] (fun x4=>vI x4.1) (fun x4=>[.box [vS ([]:Str),vS ([]:Str),.v (.slice none 0 0),vI (0:Int),vI (0:Int),vI (0:Int),vI (0:Int),.v (.slice none 0 0)],.box [sl aF x4.2.l,vI x4.2.i,vS x4.2.r.Name,vS x4.2.r.E.S.Name,sl aB x4.2.r.E.S.M,vI x4.2.r.E.Op,vI x4.2.r.E.V,vI x4.2.r.For,vI x4.2.r.Keep,sl aD x4.2.r.Labels]]) (gO (⟨a0,x3,(⟨([]:Str),(⟨(⟨([]:Str),([]:(List a8))⟩:bM),(0:Int),(0:Int)⟩:bF),(0:Int),(0:Int),([]:(List aJ))⟩:aZ)⟩:a6)) fun x4=>
 aA vB (!decide (x4.1=(0:Int))) fun x5=>
 aG x5 (
 fF [0] [] [(false,1),(false,2),(false,3),(false,4),(false,5),(true,0),(true,6),(false,7),(false,8)]<|
 aH ((⟨([]:Str),(⟨(⟨([]:Str),([]:(List a8))⟩:bM),(0:Int),(0:Int)⟩:bF),(0:Int),(0:Int),([]:(List aJ))⟩:aZ),x4.2.i,x4.1)) (
 fF [0] [0,1,2,3] [(false,0),(false,1),(false,2),(false,3),(false,4),(false,5),(false,6),(false,7),(true,8),(false,9),(false,10)]<|
 aH (x4.2.r,x4.2.i,(0:Int))))
def r5 (a0:bM):Option (Bool) :=
 aI vB (fun x1=>[.box [vS a0.Name,sl aB a0.M]]) (gW a0.Name) fun x1=>
 aA vB (!x1) fun x2=>
 aG x2 (
 aH false) (
 aA vI ((a0.M.length:Int)) fun x3=>
 aA vB (decide ((8:Int) < x3)) fun x4=>
 aG x4 (
 aH false) (
 aA vI ((a0.M.length:Int)) fun x5=>
 bK (fun (x6:Int)=>[(16,sl aB a0.M),(17,vI x5),(18,vI x6)]) (fun (x6:Int)=>[]) (fun (x6:Int)=>
 aA vB (decide (x6 < x5)) fun x7=>
 aG x7 (
 bG a0.M x6 fun x8=>
 aI vB (fun x9=>[.box [vS x8.Name,vS x8.Value,vB x8.Not]]) (gW x8.Name) fun x9=>
 aA vB (!x9) fun x10=>
 aG x10 (
 aY<|
 aH false) (
 aA vI ((x8.Value.length:Int)) fun x11=>
 aA vB (decide ((64:Int) < x11)) fun x12=>
 aG x12 (
 aY<|
 aH false) (
 aA vI (wI (x6 + (1:Int))) fun x13=>
 aU x13))) (
 aY<|
 aH true)) (0:Int)))
def qE (a0:bF):Option (Bool) :=
 aI vB (fun x1=>[.box [vS a0.S.Name,sl aB a0.S.M,vI a0.Op,vI a0.V]]) (r5 a0.S) fun x1=>
 aG x1 (
 aI vB (fun x2=>[.box [vS a0.S.Name,sl aB a0.S.M,vI a0.Op,vI a0.V]]) (nF a0.Op) fun x2=>
 aG x2 (
 aI vB (fun x3=>[.box [vS a0.S.Name,sl aB a0.S.M,vI a0.Op,vI a0.V]]) (nH a0.V) fun x3=>
 aH x3) (
 aH false)) (
 aH false)
def q5 (a0:(List aJ)):Option (Bool) :=
 aA vI ((a0.length:Int)) fun x1=>
 aA vB (decide ((16:Int) < x1)) fun x2=>
 aG x2 (
 aH false) (
 aA vI ((a0.length:Int)) fun x3=>
 bK (fun (x4:Int)=>[(0,sl aD a0),(8,sl aD a0),(9,vI x3),(10,vI x4)]) (fun (x4:Int)=>[]) (fun (x4:Int)=>
 aA vB (decide (x4 < x3)) fun x5=>
 aG x5 (
 bG a0 x4 fun x6=>
 aI vB (fun x7=>[.box [vS x6.Name,vS x6.Value]]) (gW x6.Name) fun x7=>
 aA vB (!x7) fun x8=>
 aG x8 (
 aY<|
 aH false) (
 aA vI ((x6.Value.length:Int)) fun x9=>
 aA vB (decide ((64:Int) < x9)) fun x10=>
 aG x10 (
 aY<|
 aH false) (
 aA vB (decide ((0:Int) < x4)) fun x11=>
 aA vI (wI (x4 - (1:Int))) fun x12=>
 aG x11 (
 bG a0 x12 fun x13=>
 aA vB (!ltS x13.Name x6.Name) fun x14=>
 aG x14 (
 aY<|
 aH false) (
 aA vI (wI (x4 + (1:Int))) fun x15=>
 aU x15)) (
 aA vI (wI (x4 + (1:Int))) fun x16=>
 aU x16)))) (
 aY<|
 aH true)) (0:Int))
def eM (a0:aZ):Option (Bool) :=
 aI vB (fun x1=>[.box [vS a0.Name,vS a0.E.S.Name,sl aB a0.E.S.M,vI a0.E.Op,vI a0.E.V,vI a0.For,vI a0.Keep,sl aD a0.Labels]]) (gW a0.Name) fun x1=>
 aG x1 (
 aI vB (fun x2=>[.box [vS a0.Name,vS a0.E.S.Name,sl aB a0.E.S.M,vI a0.E.Op,vI a0.E.V,vI a0.For,vI a0.Keep,sl aD a0.Labels]]) (qE a0.E) fun x2=>
 aG x2 (
 aI vB (fun x3=>[.box [vS a0.Name,vS a0.E.S.Name,sl aB a0.E.S.M,vI a0.E.Op,vI a0.E.V,vI a0.For,vI a0.Keep,sl aD a0.Labels]]) (nS a0.For) fun x3=>
 aG x3 (
 aI vB (fun x4=>[.box [vS a0.Name,vS a0.E.S.Name,sl aB a0.E.S.M,vI a0.E.Op,vI a0.E.V,vI a0.For,vI a0.Keep,sl aD a0.Labels]]) (nS a0.Keep) fun x4=>
 aG x4 (
 aI vB (fun x5=>[.box [vS a0.Name,vS a0.E.S.Name,sl aB a0.E.S.M,vI a0.E.Op,vI a0.E.V,vI a0.For,vI a0.Keep,sl aD a0.Labels]]) (q5 a0.Labels) fun x5=>
 aG x5 (
 aI vB (fun x6=>[.box [vS a0.Name,vS a0.E.S.Name,sl aB a0.E.S.M,vI a0.E.Op,vI a0.E.V,vI a0.For,vI a0.Keep,sl aD a0.Labels]]) (kE a0.Labels) fun x6=>
 aA vB (!x6) fun x7=>
 aH x7) (
 aH false)) (
 aH false)) (
 aH false)) (
 aH false)) (
 aH false)
def jN (a0:Str):Option (Str) :=
 dT (so 0 (cK .u8)) (fun x1=>[tk x1.length 1 5]) ([(34:Int)]:(List Int)) fun x1=>
 bK (fun (x2:(List Int) × Int)=>[(0,vS a0),(3,so 0 (cK .u8) x2.1),(4,vI x2.2)]) (fun (x2:(List Int) × Int)=>[tk x2.1.length 1 5]) (fun (x2:(List Int) × Int)=>
 aA vI ((a0.length:Int)) fun x3=>
 aA vB (decide (x2.2 < x3)) fun x4=>
 aG x4 (
 bG a0 x2.2 fun x5=>
 aA vB (decide ((x5.toNat:Int)=(92:Int))) fun x6=>
 aG x6 (
 aA (sx (cK .u8)) ([(92:Int),(x5.toNat:Int)]:(List Int)) fun x7=>
 gdM ((x2.1.length + x7.length) * 1≤140737488355328)<|
 dT (so 0 (cK .u8)) (fun x8=>[tk x8.length 1 5]) (x2.1 ++ x7) fun x8=>
 aA vI (wI (x2.2 + (1:Int))) fun x9=>
 aU (x8,x9)) (
 aA vB (decide ((x5.toNat:Int)=(34:Int))) fun x10=>
 aG x10 (
 aA (sx (cK .u8)) ([(92:Int),(x5.toNat:Int)]:(List Int)) fun x11=>
 gdM ((x2.1.length + x11.length) * 1≤140737488355328)<|
 dT (so 0 (cK .u8)) (fun x12=>[tk x12.length 1 5]) (x2.1 ++ x11) fun x12=>
 aA vI (wI (x2.2 + (1:Int))) fun x13=>
 aU (x12,x13)) (
 aA vB (decide ((x5.toNat:Int)=(10:Int))) fun x14=>
 aG x14 (
 aA (sx (cK .u8)) ([(92:Int),(110:Int)]:(List Int)) fun x15=>
 gdM ((x2.1.length + x15.length) * 1≤140737488355328)<|
 dT (so 0 (cK .u8)) (fun x16=>[tk x16.length 1 5]) (x2.1 ++ x15) fun x16=>
 aA vI (wI (x2.2 + (1:Int))) fun x17=>
 aU (x16,x17)) (
 aA (sx (cK .u8)) ([(x5.toNat:Int)]:(List Int)) fun x18=>
 gdM ((x2.1.length + x18.length) * 1≤140737488355328)<|
 dT (so 0 (cK .u8)) (fun x19=>[tk x19.length 1 5]) (x2.1 ++ x18) fun x19=>
 aA vI (wI (x2.2 + (1:Int))) fun x20=>
 aU (x19,x20))))) (
 aY<|
 aA (sx (cK .u8)) ([(34:Int)]:(List Int)) fun x21=>
 gdM ((x2.1.length + x21.length) * 1≤140737488355328)<|
 dT (so 0 (cK .u8)) (fun x22=>[tk x22.length 1 5]) (x2.1 ++ x21) fun x22=>
 aA vS (fG x22) fun x23=>
 aH x23)) (x1,(0:Int))
def tA (a0:bM):Option (Str) :=
 aI vB (fun x1=>[.box [vS a0.Name,sl aB a0.M]]) (r5 a0) fun x1=>
 aA vB (!x1) fun x2=>
 aG x2 (
 aH ([]:Str)) (
 aA vI ((a0.M.length:Int)) fun x3=>
 aA vB (decide (x3=(0:Int))) fun x4=>
 aG x4 (
 aH a0.Name) (
 aA vI ((a0.M.length:Int)) fun x5=>
 bK (fun (x6:Int × Str)=>[(3,vS x6.2),(20,sl aB a0.M),(21,vI x5),(22,vI x6.1)]) (fun (x6:Int × Str)=>[]) (fun (x6:Int × Str)=>
 aA vB (decide (x6.1 < x5)) fun x7=>
 aG x7 (
 bG a0.M x6.1 fun x8=>
 aA vB (decide (x6.1=(0:Int))) fun x9=>
 aG x9 (
 aG x8.Not (
 fS<|
 gdM (([123]:Str).length + x8.Name.length≤9223372036854775807)<|
 aA vS (([123]:Str) ++ x8.Name) fun x10=>
 gdM (x10.length + ([33,61]:Str).length≤9223372036854775807)<|
 aA vS (x10 ++ ([33,61]:Str)) fun x11=>
 aI vS (fun x12=>[.box [vS x8.Name,vS x8.Value,vB true]]) (jN x8.Value) fun x12=>
 gdM (x11.length + x12.length≤9223372036854775807)<|
 aA vS (x11 ++ x12) fun x13=>
 gdM (x6.2.length + x13.length≤9223372036854775807)<|
 aA vS (x6.2 ++ x13) fun x14=>
 aA vI (wI (x6.1 + (1:Int))) fun x15=>
 aU (x15,x14)) (
 fS<|
 gdM (([123]:Str).length + x8.Name.length≤9223372036854775807)<|
 aA vS (([123]:Str) ++ x8.Name) fun x16=>
 gdM (x16.length + ([61]:Str).length≤9223372036854775807)<|
 aA vS (x16 ++ ([61]:Str)) fun x17=>
 aI vS (fun x18=>[.box [vS x8.Name,vS x8.Value,vB false]]) (jN x8.Value) fun x18=>
 gdM (x17.length + x18.length≤9223372036854775807)<|
 aA vS (x17 ++ x18) fun x19=>
 gdM (x6.2.length + x19.length≤9223372036854775807)<|
 aA vS (x6.2 ++ x19) fun x20=>
 aA vI (wI (x6.1 + (1:Int))) fun x21=>
 aU (x21,x20))) (
 aG x8.Not (
 fS<|
 gdM (([44]:Str).length + x8.Name.length≤9223372036854775807)<|
 aA vS (([44]:Str) ++ x8.Name) fun x22=>
 gdM (x22.length + ([33,61]:Str).length≤9223372036854775807)<|
 aA vS (x22 ++ ([33,61]:Str)) fun x23=>
 aI vS (fun x24=>[.box [vS x8.Name,vS x8.Value,vB true]]) (jN x8.Value) fun x24=>
 gdM (x23.length + x24.length≤9223372036854775807)<|
 aA vS (x23 ++ x24) fun x25=>
 gdM (x6.2.length + x25.length≤9223372036854775807)<|
 aA vS (x6.2 ++ x25) fun x26=>
 aA vI (wI (x6.1 + (1:Int))) fun x27=>
 aU (x27,x26)) (
 fS<|
 gdM (([44]:Str).length + x8.Name.length≤9223372036854775807)<|
 aA vS (([44]:Str) ++ x8.Name) fun x28=>
 gdM (x28.length + ([61]:Str).length≤9223372036854775807)<|
 aA vS (x28 ++ ([61]:Str)) fun x29=>
 aI vS (fun x30=>[.box [vS x8.Name,vS x8.Value,vB false]]) (jN x8.Value) fun x30=>
 gdM (x29.length + x30.length≤9223372036854775807)<|
 aA vS (x29 ++ x30) fun x31=>
 gdM (x6.2.length + x31.length≤9223372036854775807)<|
 aA vS (x6.2 ++ x31) fun x32=>
 aA vI (wI (x6.1 + (1:Int))) fun x33=>
 aU (x33,x32)))) (
 aY<|
 gdM (x6.2.length + ([125]:Str).length≤9223372036854775807)<|
 aA vS (x6.2 ++ ([125]:Str)) fun x34=>
 aH x34)) ((0:Int),a0.Name)))
def gN (a0:Str) (a1:Int):Option (Str) :=
 bK (fun (x1:Str)=>[(0,vS x1),(1,vK .u8 a1)]) (fun (x1:Str)=>[]) (fun (x1:Str)=>
 aA vI ((x1.length:Int)) fun x2=>
 aA vB (decide ((0:Int) < x2)) fun x3=>
 aA vI ((x1.length:Int)) fun x4=>
 aA vI (wI (x4 - (1:Int))) fun x5=>
 aG x3 (
 bG x1 x5 fun x6=>
 aA vB (decide ((x6.toNat:Int)=a1)) fun x7=>
 aG x7 (
 aA vI ((x1.length:Int)) fun x8=>
 aA vI (wI (x8 - (1:Int))) fun x9=>
 gdM (0≤(0:Int)∧(0:Int)≤x9∧x9≤(x1.length:Int))<|
 aA vS ((x1.take x9.toNat).drop (0:Int).toNat) fun x10=>
 aU x10) (
 aY<|
 aH x1)) (
 aY<|
 aH x1)) a0
def fP (a0:Str) (a1:Str):Option (Str) :=
 aA vB (decide (a0=([]:Str))) fun x1=>
 aA vB (decide (a1=([]:Str))) fun x2=>
 aA vB (bif x1 then true else x2) fun x3=>
 aG x3 (
 aH a0) (
 aA vI ((a1.length:Int)) fun x4=>
 aA vB (decide (x4=(1:Int))) fun x5=>
 aG x5 (
 bG a1 (0:Int) fun x6=>
 aA vB (decide ((x6.toNat:Int) < (128:Int))) fun x7=>
 aG x7 (
 aI vS (fun x8=>[]) (gN a0 (x6.toNat:Int)) fun x8=>
 aH x8) (
 noM)) (
 noM))
def tI (a0:Int):Option (Str) :=
 aI vB (fun x1=>[]) (nH a0) fun x1=>
 aA vB (!x1) fun x2=>
 aG x2 (
 aH ([]:Str)) (
 aA vB (decide (a0 < (0:Int))) fun x3=>
 aG x3 (
 aA vI (wI (0 - a0)) fun x4=>
 aA vI (wI (Int.tdiv x4 (1000:Int))) fun x5=>
 aI vS (fun x6=>[]) (strconv_Itoa x5) fun x6=>
 gdM (([45]:Str).length + x6.length≤9223372036854775807)<|
 aA vS (([45]:Str) ++ x6) fun x7=>
 aA vI (Int.tmod x4 (1000:Int)) fun x8=>
 aA vB (decide (x8=(0:Int))) fun x9=>
 aG x9 (
 aH x7) (
 aA vI (Int.tmod x4 (1000:Int)) fun x10=>
 aA vI (wI ((1000:Int) + x10)) fun x11=>
 aI vS (fun x12=>[]) (strconv_Itoa x11) fun x12=>
 gdM (0≤(1:Int)∧(1:Int)≤(x12.length:Int)∧(x12.length:Int)≤(x12.length:Int))<|
 aA vS ((x12.take (x12.length:Int).toNat).drop (1:Int).toNat) fun x13=>
 gdM (x7.length + ([46]:Str).length≤9223372036854775807)<|
 aA vS (x7 ++ ([46]:Str)) fun x14=>
 aI vS (fun x15=>[]) (fP x13 ([48]:Str)) fun x15=>
 gdM (x14.length + x15.length≤9223372036854775807)<|
 aA vS (x14 ++ x15) fun x16=>
 aH x16)) (
 aA vI (wI (Int.tdiv a0 (1000:Int))) fun x17=>
 aI vS (fun x18=>[]) (strconv_Itoa x17) fun x18=>
 gdM (([]:Str).length + x18.length≤9223372036854775807)<|
 aA vS (([]:Str) ++ x18) fun x19=>
 aA vI (Int.tmod a0 (1000:Int)) fun x20=>
 aA vB (decide (x20=(0:Int))) fun x21=>
 aG x21 (
 aH x19) (
 aA vI (Int.tmod a0 (1000:Int)) fun x22=>
 aA vI (wI ((1000:Int) + x22)) fun x23=>
 aI vS (fun x24=>[]) (strconv_Itoa x23) fun x24=>
 gdM (0≤(1:Int)∧(1:Int)≤(x24.length:Int)∧(x24.length:Int)≤(x24.length:Int))<|
 aA vS ((x24.take (x24.length:Int).toNat).drop (1:Int).toNat) fun x25=>
 gdM (x19.length + ([46]:Str).length≤9223372036854775807)<|
 aA vS (x19 ++ ([46]:Str)) fun x26=>
 aI vS (fun x27=>[]) (fP x25 ([48]:Str)) fun x27=>
 gdM (x26.length + x27.length≤9223372036854775807)<|
 aA vS (x26 ++ x27) fun x28=>
 aH x28)))
def rR (a0:bF):Option (Str) :=
 aI vB (fun x1=>[.box [vS a0.S.Name,sl aB a0.S.M,vI a0.Op,vI a0.V]]) (qE a0) fun x1=>
 aA vB (!x1) fun x2=>
 aG x2 (
 aH ([]:Str)) (
 fS<|
 aI vS (fun x3=>[.box [vS a0.S.Name,sl aB a0.S.M,vI a0.Op,vI a0.V]]) (tA a0.S) fun x3=>
 gdM (x3.length + ([32]:Str).length≤9223372036854775807)<|
 aA vS (x3 ++ ([32]:Str)) fun x4=>
 bG gl0 a0.Op fun x5=>
 gdM (x4.length + x5.length≤9223372036854775807)<|
 aA vS (x4 ++ x5) fun x6=>
 gdM (x6.length + ([32]:Str).length≤9223372036854775807)<|
 aA vS (x6 ++ ([32]:Str)) fun x7=>
 aI vS (fun x8=>[.box [vS a0.S.Name,sl aB a0.S.M,vI a0.Op,vI a0.V]]) (tI a0.V) fun x8=>
 gdM (x7.length + x8.length≤9223372036854775807)<|
 aA vS (x7 ++ x8) fun x9=>
 aH x9)
def nM (a0:Int):Option (Str) :=
 aI vB (fun x1=>[]) (nS a0) fun x1=>
 aA vB (!x1) fun x2=>
 aG x2 (
 aH ([]:Str)) (
 aA vB (decide (a0=(0:Int))) fun x3=>
 aG x3 (
 aH ([48,115]:Str)) (
 bK (fun (x4:Int × Int × Str)=>[(0,vI x4.1),(3,vS x4.2.2),(12,.agg ((gl1.map Ay).flatten.map .ofD)),(13,vI x4.2.1)]) (fun (x4:Int × Int × Str)=>[]) (fun (x4:Int × Int × Str)=>
 aA vB (decide (x4.2.1 < (5:Int))) fun x5=>
 aG x5 (
 bG gl1 x4.2.1 fun x6=>
 gdM (x6.size ≠ 0)<|
 aA vI (wI (Int.tdiv x4.1 x6.size)) fun x7=>
 aA vB (decide ((0:Int) < x7)) fun x8=>
 aG x8 (
 fS<|
 aI vS (fun x9=>[.box [vS x6.letters,vI x6.size]]) (strconv_Itoa x7) fun x9=>
 gdM (x9.length + x6.letters.length≤9223372036854775807)<|
 aA vS (x9 ++ x6.letters) fun x10=>
 gdM (x4.2.2.length + x10.length≤9223372036854775807)<|
 aA vS (x4.2.2 ++ x10) fun x11=>
 gdM (x6.size ≠ 0)<|
 aA vI (Int.tmod x4.1 x6.size) fun x12=>
 aA vI (wI (x4.2.1 + (1:Int))) fun x13=>
 aU (x12,x13,x11)) (
 gdM (x6.size ≠ 0)<|
 aA vI (Int.tmod x4.1 x6.size) fun x14=>
 aA vI (wI (x4.2.1 + (1:Int))) fun x15=>
 aU (x14,x15,x4.2.2))) (
 aY<|
 aH x4.2.2)) (a0,(0:Int),([]:Str))))
def dQ (a0:aZ):Option (Str) :=
 aI vB (fun x1=>[.box [vS a0.Name,vS a0.E.S.Name,sl aB a0.E.S.M,vI a0.E.Op,vI a0.E.V,vI a0.For,vI a0.Keep,sl aD a0.Labels]]) (eM a0) fun x1=>
 aA vB (!x1) fun x2=>
 aG x2 (
 aH ([]:Str)) (
 fS<|
 gdM (([114,117,108,101,32]:Str).length + a0.Name.length≤9223372036854775807)<|
 aA vS (([114,117,108,101,32]:Str) ++ a0.Name) fun x3=>
 gdM (x3.length + ([58,32]:Str).length≤9223372036854775807)<|
 aA vS (x3 ++ ([58,32]:Str)) fun x4=>
 aI vS (fun x5=>[.box [vS a0.Name,vS a0.E.S.Name,sl aB a0.E.S.M,vI a0.E.Op,vI a0.E.V,vI a0.For,vI a0.Keep,sl aD a0.Labels]]) (rR a0.E) fun x5=>
 gdM (x4.length + x5.length≤9223372036854775807)<|
 aA vS (x4 ++ x5) fun x6=>
 pS (fun (x7:Str)=>[(1,.ptr 0 0),(3,vS x7)]) (fun (x7:Str)=>[.box [vS a0.Name,vS a0.E.S.Name,sl aB a0.E.S.M,vI a0.E.Op,vI a0.E.V,vI a0.For,vI a0.Keep,sl aD a0.Labels]]) (fun (x7:Str)=>
 pS (fun (x12:Str)=>[(1,.ptr 0 0),(3,vS x12)]) (fun (x12:Str)=>[.box [vS a0.Name,vS a0.E.S.Name,sl aB a0.E.S.M,vI a0.E.Op,vI a0.E.V,vI a0.For,vI a0.Keep,sl aD a0.Labels]]) (fun (x12:Str)=>
 aA vI ((a0.Labels.length:Int)) fun x17=>
 aA vB (decide ((0:Int) < x17)) fun x18=>
 aG x18 (
 gdM (x12.length + ([32,108,97,98,101,108,115,32,123]:Str).length≤9223372036854775807)<|
 aA vS (x12 ++ ([32,108,97,98,101,108,115,32,123]:Str)) fun x19=>
 aA vI ((a0.Labels.length:Int)) fun x20=>
 bK (fun (x21:Str × Int)=>[(3,vS x21.1),(42,sl aD a0.Labels),(43,vI x20),(44,vI x21.2)]) (fun (x21:Str × Int)=>[]) (fun (x21:Str × Int)=>
 aA vB (decide (x21.2 < x20)) fun x22=>
 aG x22 (
 bG a0.Labels x21.2 fun x23=>
 aA vB (decide ((0:Int) < x21.2)) fun x24=>
 aG x24 (
 gdM (x21.1.length + ([44]:Str).length≤9223372036854775807)<|
 aA vS (x21.1 ++ ([44]:Str)) fun x25=>
 fS<|
 gdM (x23.Name.length + ([61]:Str).length≤9223372036854775807)<|
 aA vS (x23.Name ++ ([61]:Str)) fun x26=>
 aI vS (fun x27=>[.box [vS x23.Name,vS x23.Value]]) (jN x23.Value) fun x27=>
 gdM (x26.length + x27.length≤9223372036854775807)<|
 aA vS (x26 ++ x27) fun x28=>
 gdM (x25.length + x28.length≤9223372036854775807)<|
 aA vS (x25 ++ x28) fun x29=>
 aA vI (wI (x21.2 + (1:Int))) fun x30=>
 aU (x29,x30)) (
 fS<|
 gdM (x23.Name.length + ([61]:Str).length≤9223372036854775807)<|
 aA vS (x23.Name ++ ([61]:Str)) fun x31=>
 aI vS (fun x32=>[.box [vS x23.Name,vS x23.Value]]) (jN x23.Value) fun x32=>
 gdM (x31.length + x32.length≤9223372036854775807)<|
 aA vS (x31 ++ x32) fun x33=>
 gdM (x21.1.length + x33.length≤9223372036854775807)<|
 aA vS (x21.1 ++ x33) fun x34=>
 aA vI (wI (x21.2 + (1:Int))) fun x35=>
 aU (x34,x35))) (
 aY<|
 gdM (x21.1.length + ([125]:Str).length≤9223372036854775807)<|
 aA vS (x21.1 ++ ([125]:Str)) fun x36=>
 gdM (x36.length + ([59]:Str).length≤9223372036854775807)<|
 aA vS (x36 ++ ([59]:Str)) fun x37=>
 aH x37)) (x19,(0:Int))) (
 gdM (x12.length + ([59]:Str).length≤9223372036854775807)<|
 aA vS (x12 ++ ([59]:Str)) fun x38=>
 aH x38))<|
 aA vB (decide ((0:Int) < a0.Keep)) fun x13=>
 aG x13 (
 aI vS (fun x14=>[.box [vS a0.Name,vS a0.E.S.Name,sl aB a0.E.S.M,vI a0.E.Op,vI a0.E.V,vI a0.For,vI a0.Keep,sl aD a0.Labels]]) (nM a0.Keep) fun x14=>
 gdM (([32,107,101,101,112,32]:Str).length + x14.length≤9223372036854775807)<|
 aA vS (([32,107,101,101,112,32]:Str) ++ x14) fun x15=>
 gdM (x7.length + x15.length≤9223372036854775807)<|
 aA vS (x7 ++ x15) fun x16=>
 aU x16) (
 aU x7))<|
 aA vB (decide ((0:Int) < a0.For)) fun x8=>
 aG x8 (
 aI vS (fun x9=>[.box [vS a0.Name,vS a0.E.S.Name,sl aB a0.E.S.M,vI a0.E.Op,vI a0.E.V,vI a0.For,vI a0.Keep,sl aD a0.Labels]]) (nM a0.For) fun x9=>
 gdM (([32,102,111,114,32]:Str).length + x9.length≤9223372036854775807)<|
 aA vS (([32,102,111,114,32]:Str) ++ x9) fun x10=>
 gdM (x6.length + x10.length≤9223372036854775807)<|
 aA vS (x6 ++ x10) fun x11=>
 aU x11) (
 aU x6))
def law10_awake:Option (Bool) :=
 aI (fun x1=>.tup [so 0 aF x1.1,vI x1.2.1,vI x1.2.2]) (fun x1=>[tk x1.1.length 3 53]) (lK ([114,117,108,101,32,68,111,119,110,58,32,40,117,112,32,61,61,32,48,41,32,102,111,114,32,51,48,48,115,32,108,97,98,101,108,115,32,123,125,59]:Str)) fun x1=>
 aI (fun x2=>.tup [(ag d9) x2.1,vI x2.2.1,vI x2.2.2]) (fun x2=>[.tok x1.1.length 3 53 false]) (dW x1.1 (0:Int)) fun x2=>
 aA vB (decide (x2.2.2=(0:Int))) fun x3=>
 aA vI ((x1.1.length:Int)) fun x4=>
 aA vB (decide (x2.2.1=x4)) fun x5=>
 aA vB (bif x3 then x5 else false) fun x6=>
 aA vB (decide (x2.2.1=(14:Int))) fun x7=>
 aA vB (bif x6 then x7 else false) fun x8=>
 aG x8 (
 aI vB (fun x9=>[.tok x1.1.length 3 53 false,.box [vS x2.1.Name,vS x2.1.E.S.Name,sl aB x2.1.E.S.M,vI x2.1.E.Op,vI x2.1.E.V,vI x2.1.For,vI x2.1.Keep,sl aD x2.1.Labels]]) (eM x2.1) fun x9=>
 aG x9 (
 aA vB (decide (x2.1.Name=([68,111,119,110]:Str))) fun x10=>
 aG x10 (
 aA vB (decide (x2.1.For=(300000:Int))) fun x11=>
 aG x11 (
 aA vB (decide (x2.1.Keep=(0:Int))) fun x12=>
 aG x12 (
 aI vS (fun x13=>[.tok x1.1.length 3 53 false,.box [vS x2.1.Name,vS x2.1.E.S.Name,sl aB x2.1.E.S.M,vI x2.1.E.Op,vI x2.1.E.V,vI x2.1.For,vI x2.1.Keep,sl aD x2.1.Labels]]) (dQ x2.1) fun x13=>
 aA vB (decide (x13=([114,117,108,101,32,68,111,119,110,58,32,117,112,32,61,61,32,48,32,102,111,114,32,53,109,59]:Str))) fun x14=>
 aG x14 (
 aI vB (fun x15=>[.tok x1.1.length 3 53 false,.box [vS x2.1.Name,vS x2.1.E.S.Name,sl aB x2.1.E.S.M,vI x2.1.E.Op,vI x2.1.E.V,vI x2.1.For,vI x2.1.Keep,sl aD x2.1.Labels]]) (eZ ([97,108,101,114,116,110,97,109,101]:Str)) fun x15=>
 aG x15 (
 aI vB (fun x16=>[.tok x1.1.length 3 53 false,.box [vS x2.1.Name,vS x2.1.E.S.Name,sl aB x2.1.E.S.M,vI x2.1.E.Op,vI x2.1.E.V,vI x2.1.For,vI x2.1.Keep,sl aD x2.1.Labels]]) (eZ ([97]:Str)) fun x16=>
 aA vB (!x16) fun x17=>
 aH x17) (
 aH false)) (
 aH false)) (
 aH false)) (
 aH false)) (
 aH false)) (
 aH false)) (
 aH false)
def tG (a0:bM):Option (Bool) :=
 aA vI ((a0.Name.length:Int)) fun x1=>
 bK (fun (x2:Int × Int)=>[(1,.ptr 0 0),(3,vI x2.1),(4,vI x2.2)]) (fun (x2:Int × Int)=>[.box [vS a0.Name,sl aB a0.M]]) (fun (x2:Int × Int)=>
 aA vI ((a0.M.length:Int)) fun x3=>
 aA vB (decide (x2.2 < x3)) fun x4=>
 aG x4 (
 bG a0.M x2.2 fun x5=>
 aA vI ((x5.Name.length:Int)) fun x6=>
 aA vI (wI (x2.1 + x6)) fun x7=>
 aA vI ((x5.Value.length:Int)) fun x8=>
 aA vI (wI (x7 + x8)) fun x9=>
 aA vI (wI (x2.2 + (1:Int))) fun x10=>
 aU (x9,x10)) (
 aY<|
 aA vI ((a0.M.length:Int)) fun x11=>
 aA vB (decide (x11≤(40:Int))) fun x12=>
 aA vB (decide (x2.1≤(3000:Int))) fun x13=>
 aA vB (bif x12 then x13 else false) fun x14=>
 aH x14)) (x1,(0:Int))
def tE (a0:(List aJ)):Option (Bool) :=
 bK (fun (x1:Int × Int)=>[(0,sl aD a0),(3,vI x1.1),(4,vI x1.2)]) (fun (x1:Int × Int)=>[]) (fun (x1:Int × Int)=>
 aA vI ((a0.length:Int)) fun x2=>
 aA vB (decide (x1.2 < x2)) fun x3=>
 aG x3 (
 bG a0 x1.2 fun x4=>
 aA vI ((x4.Name.length:Int)) fun x5=>
 aA vI (wI (x1.1 + x5)) fun x6=>
 aA vI ((x4.Value.length:Int)) fun x7=>
 aA vI (wI (x6 + x7)) fun x8=>
 aA vI (wI (x1.2 + (1:Int))) fun x9=>
 aU (x8,x9)) (
 aY<|
 aA vI ((a0.length:Int)) fun x10=>
 aA vB (decide (x10≤(40:Int))) fun x11=>
 aA vB (decide (x1.1≤(3000:Int))) fun x12=>
 aA vB (bif x11 then x12 else false) fun x13=>
 aH x13)) ((0:Int),(0:Int))
def kV (a0:aZ):Option (Bool) :=
 aA vI ((a0.Name.length:Int)) fun x1=>
 aA vB (decide (x1≤(200:Int))) fun x2=>
 aG x2 (
 aI vB (fun x3=>[.box [vS a0.Name,vS a0.E.S.Name,sl aB a0.E.S.M,vI a0.E.Op,vI a0.E.V,vI a0.For,vI a0.Keep,sl aD a0.Labels]]) (tG a0.E.S) fun x3=>
 aG x3 (
 aI vB (fun x4=>[.box [vS a0.Name,vS a0.E.S.Name,sl aB a0.E.S.M,vI a0.E.Op,vI a0.E.V,vI a0.For,vI a0.Keep,sl aD a0.Labels]]) (tE a0.Labels) fun x4=>
 aH x4) (
 aH false)) (
 aH false)
def kY (a0:(List aK)):Option (Bool) :=
 bK (fun (x1:Int × Int)=>[(0,sl aF a0),(3,vI x1.1),(4,vI x1.2)]) (fun (x1:Int × Int)=>[]) (fun (x1:Int × Int)=>
 aA vI ((a0.length:Int)) fun x2=>
 aA vB (decide (x1.2 < x2)) fun x3=>
 aG x3 (
 bG a0 x1.2 fun x4=>
 aA vI ((x4.S.length:Int)) fun x5=>
 aA vI (wI (x1.1 + x5)) fun x6=>
 aA vI (wI (x1.2 + (1:Int))) fun x7=>
 aU (x6,x7)) (
 aY<|
 aA vI ((a0.length:Int)) fun x8=>
 aA vB (decide (x8≤(1500:Int))) fun x9=>
 aA vB (decide (x1.1≤(20000:Int))) fun x10=>
 aA vB (bif x9 then x10 else false) fun x11=>
 aH x11)) ((0:Int),(0:Int))
def bZ (a0:(List aK)) (a1:Int) (a2:Int) (a3:Str):Option (Int) :=
 aA vB (decide (a1 < (0:Int))) fun x1=>
 aA vI ((a0.length:Int)) fun x2=>
 aA vB (decide (x2≤a1)) fun x3=>
 aA vB (bif x1 then true else x3) fun x4=>
 aG x4 (
 aH (3:Int)) (
 bG a0 a1 fun x5=>
 aA vB (!decide (x5.K=a2)) fun x6=>
 aA vB (!decide (a3=([]:Str))) fun x7=>
 aG x6 (
 aA vB (bif x7 then false else false) fun x8=>
 aH (1:Int)) (
 aG x7 (
 aA vB (!decide (x5.S=a3)) fun x9=>
 aA vB (bif true then x9 else false) fun x10=>
 aG x10 (
 aH (1:Int)) (
 aH (0:Int))) (
 aA vB (bif false then false else false) fun x11=>
 aG x11 (
 aH (1:Int)) (
 aH (0:Int)))))
def b5 (a0:(List aK)) (a1:Int):Option (Int) :=
 aA vB (decide (a1 < (0:Int))) fun x1=>
 aG x1 (
 aH (0:Int)) (
 aA vI ((a0.length:Int)) fun x2=>
 aA vI (min a1 x2) fun x3=>
 aH x3)
def nV (a0:Int):Option (Bool) :=
 aA vB (decide ((97:Int)≤a0)) fun x1=>
 aA vB (decide (a0≤(122:Int))) fun x2=>
 aA vB (bif x1 then x2 else false) fun x3=>
 aA vB (decide ((65:Int)≤a0)) fun x4=>
 aA vB (decide (a0≤(90:Int))) fun x5=>
 aA vB (bif x4 then x5 else false) fun x6=>
 aA vB (bif x3 then true else x6) fun x7=>
 aA vB (decide (a0=(95:Int))) fun x8=>
 aA vB (bif x7 then true else x8) fun x9=>
 aH x9
def gB (a0:Str):Option (Bool) :=
 bK (fun (x1:Int)=>[(0,vS a0),(3,vI x1)]) (fun (x1:Int)=>[]) (fun (x1:Int)=>
 aA vI ((a0.length:Int)) fun x2=>
 aA vB (decide (x1 < x2)) fun x3=>
 aG x3 (
 bG a0 x1 fun x4=>
 aI vB (fun x5=>[]) (nV (x4.toNat:Int)) fun x5=>
 aA vB (!x5) fun x6=>
 aA vB (decide (x1=(0:Int))) fun x7=>
 aG x6 (
 aG x7 (
 aA vB (bif true then true else false) fun x8=>
 aG x8 (
 aA vB (bif true then true else false) fun x9=>
 aG x9 (
 aY<|
 aH false) (
 aA vI (wI (x1 + (1:Int))) fun x10=>
 aU x10)) (
 aA vB (decide ((57:Int) < (x4.toNat:Int))) fun x11=>
 aA vB (bif false then true else x11) fun x12=>
 aG x12 (
 aY<|
 aH false) (
 aA vI (wI (x1 + (1:Int))) fun x13=>
 aU x13))) (
 aA vB (decide ((x4.toNat:Int) < (48:Int))) fun x14=>
 aA vB (bif false then true else x14) fun x15=>
 aG x15 (
 aA vB (bif true then true else false) fun x16=>
 aG x16 (
 aY<|
 aH false) (
 aA vI (wI (x1 + (1:Int))) fun x17=>
 aU x17)) (
 aA vB (decide ((57:Int) < (x4.toNat:Int))) fun x18=>
 aA vB (bif false then true else x18) fun x19=>
 aG x19 (
 aY<|
 aH false) (
 aA vI (wI (x1 + (1:Int))) fun x20=>
 aU x20)))) (
 aA vB (bif x7 then true else false) fun x21=>
 aA vB (bif x21 then true else false) fun x22=>
 aA vI (wI (x1 + (1:Int))) fun x23=>
 aU x23)) (
 aY<|
 aA vI ((a0.length:Int)) fun x24=>
 aA vB (decide ((1:Int)≤x24)) fun x25=>
 aA vI ((a0.length:Int)) fun x26=>
 aA vB (decide (x26≤(64:Int))) fun x27=>
 aA vB (bif x25 then x27 else false) fun x28=>
 aH x28)) (0:Int)
def lZ (a0:(List aK)) (a1:Int):Option (Int) :=
 aI vI (fun x1=>[]) (bZ a0 a1 (1:Int) ([]:Str)) fun x1=>
 aA vB (decide (x1=(0:Int))) fun x2=>
 aG x2 (
 bG a0 a1 fun x3=>
 aI vB (fun x4=>[]) (gB x3.S) fun x4=>
 aA vB (!x4) fun x5=>
 aG x5 (
 aH (7:Int)) (
 aH x1)) (
 aH x1)
def o7 (a0:(List aK)) (a1:Int) (a2:Int):Option (a8 × Int × Int) :=
 aI vI (fun x1=>[.box [vS ([]:Str),vS ([]:Str),vB false],.box [vS ([]:Str),vS ([]:Str),vB false]]) (lZ a0 a1) fun x1=>
 aA vB (!decide (x1=(0:Int))) fun x2=>
 aG x2 (
 fF [0] [0] [(false,0),(false,1),(false,2),(false,4),(true,3),(true,5),(false,6),(false,7)]<|
 aI vI (fun x3=>[.box [vS ([]:Str),vS ([]:Str),vB false],.box [vS ([]:Str),vS ([]:Str),vB false]]) (b5 a0 a1) fun x3=>
 aH ((⟨([]:Str),([]:Str),false⟩:a8),x3,x1)) (
 aA vI (wI (a1 + (1:Int))) fun x4=>
 aI vI (fun x5=>[.box [vS ([]:Str),vS ([]:Str),vB false],.box [vS ([]:Str),vS ([]:Str),vB false]]) (bZ a0 x4 (4:Int) ([33,61]:Str)) fun x5=>
 aA vB (decide (x5=(0:Int))) fun x6=>
 pS (fun (x7:Unit)=>[(0,sl aF a0),(1,vI a1),(2,vI a2),(6,.ptr 0 0),(9,.ptr 1 0),(11,vB x6)]) (fun (x7:Unit)=>[.box [vS ([]:Str),vS ([]:Str),vB false],.box [vS ([]:Str),vS ([]:Str),vB false]]) (fun (x7:Unit)=>
 aA vI (wI (a1 + (2:Int))) fun x14=>
 aI vI (fun x15=>[.box [vS ([]:Str),vS ([]:Str),vB false],.box [vS ([]:Str),vS ([]:Str),vB false]]) (bZ a0 x14 (3:Int) ([]:Str)) fun x15=>
 aA vB (decide (x15=(0:Int))) fun x16=>
 aA vI (wI (a1 + (2:Int))) fun x17=>
 aG x16 (
 bG a0 x17 fun x18=>
 aA vI ((x18.S.length:Int)) fun x19=>
 aA vB (decide ((64:Int) < x19)) fun x20=>
 aA vB (decide ((8:Int)≤a2)) fun x21=>
 aA vB (bif x20 then true else x21) fun x22=>
 aG x22 (
 aA vB (!decide ((4:Int)=(0:Int))) fun x23=>
 aG x23 (
 fF [0] [0] [(false,0),(false,1),(false,2),(false,3),(false,5),(true,4),(true,6),(false,7),(false,8)]<|
 aA vI (wI (a1 + (2:Int))) fun x24=>
 aI vI (fun x25=>[.box [vS ([]:Str),vS ([]:Str),vB false],.box [vS ([]:Str),vS ([]:Str),vB false]]) (b5 a0 x24) fun x25=>
 aH ((⟨([]:Str),([]:Str),false⟩:a8),x25,(4:Int))) (
 fF [0] [0,1,2,3,4,5,6,7,8,9,10,11] [(false,0),(false,1),(false,2),(false,3),(false,4),(false,5),(false,6),(false,7),(false,8),(false,9),(false,10),(false,11),(false,13),(false,14),(true,12),(true,15),(false,16),(false,17)]<|
 bG a0 a1 fun x26=>
 aA vI (wI (a1 + (2:Int))) fun x27=>
 bG a0 x27 fun x28=>
 aA vI (wI (a1 + (3:Int))) fun x29=>
 aH ((⟨x26.S,x28.S,x6⟩:a8),x29,(0:Int)))) (
 aA vB (!decide (x15=(0:Int))) fun x30=>
 aG x30 (
 fF [0] [0] [(false,0),(false,1),(false,2),(false,3),(false,5),(true,4),(true,6),(false,7),(false,8)]<|
 aA vI (wI (a1 + (2:Int))) fun x31=>
 aI vI (fun x32=>[.box [vS ([]:Str),vS ([]:Str),vB false],.box [vS ([]:Str),vS ([]:Str),vB false]]) (b5 a0 x31) fun x32=>
 aH ((⟨([]:Str),([]:Str),false⟩:a8),x32,x15)) (
 fF [0] [0,1,2,3,4,5,6,7,8,9,10,11] [(false,0),(false,1),(false,2),(false,3),(false,4),(false,5),(false,6),(false,7),(false,8),(false,9),(false,10),(false,11),(false,13),(false,14),(true,12),(true,15),(false,16),(false,17)]<|
 bG a0 a1 fun x33=>
 aA vI (wI (a1 + (2:Int))) fun x34=>
 bG a0 x34 fun x35=>
 aA vI (wI (a1 + (3:Int))) fun x36=>
 aH ((⟨x33.S,x35.S,x6⟩:a8),x36,(0:Int))))) (
 aA vB (decide ((8:Int)≤a2)) fun x37=>
 aA vB (!decide (x15=(0:Int))) fun x38=>
 aG x38 (
 fF [0] [0] [(false,0),(false,1),(false,2),(false,3),(false,5),(true,4),(true,6),(false,7),(false,8)]<|
 aA vI (wI (a1 + (2:Int))) fun x39=>
 aI vI (fun x40=>[.box [vS ([]:Str),vS ([]:Str),vB false],.box [vS ([]:Str),vS ([]:Str),vB false]]) (b5 a0 x39) fun x40=>
 aH ((⟨([]:Str),([]:Str),false⟩:a8),x40,x15)) (
 fF [0] [0,1,2,3,4,5,6,7,8,9,10,11] [(false,0),(false,1),(false,2),(false,3),(false,4),(false,5),(false,6),(false,7),(false,8),(false,9),(false,10),(false,11),(false,13),(false,14),(true,12),(true,15),(false,16),(false,17)]<|
 bG a0 a1 fun x41=>
 aA vI (wI (a1 + (2:Int))) fun x42=>
 bG a0 x42 fun x43=>
 aA vI (wI (a1 + (3:Int))) fun x44=>
 aH ((⟨x41.S,x43.S,x6⟩:a8),x44,(0:Int)))))<|
 aA vB (!x6) fun x8=>
 aG x8 (
 aA vI (wI (a1 + (1:Int))) fun x9=>
 aI vI (fun x10=>[.box [vS ([]:Str),vS ([]:Str),vB false],.box [vS ([]:Str),vS ([]:Str),vB false]]) (bZ a0 x9 (4:Int) ([61]:Str)) fun x10=>
 aA vB (!decide (x10=(0:Int))) fun x11=>
 aG x11 (
 fF [0] [0] [(false,0),(false,1),(false,2),(false,3),(false,5),(true,4),(true,6),(false,7),(false,8)]<|
 aA vI (wI (a1 + (1:Int))) fun x12=>
 aI vI (fun x13=>[.box [vS ([]:Str),vS ([]:Str),vB false],.box [vS ([]:Str),vS ([]:Str),vB false]]) (b5 a0 x12) fun x13=>
 aY<|
 aH ((⟨([]:Str),([]:Str),false⟩:a8),x13,x10)) (
 aU ())) (
 aU ()))
def pF (a0:(List aK)) (a1:Int):Option (bM × Int × Int) :=
 aI vI (fun x1=>[.box [vS ([]:Str),.v (.slice none 0 0)],.box [vS ([]:Str),.v (.slice none 0 0)]]) (lZ a0 a1) fun x1=>
 aA vB (!decide (x1=(0:Int))) fun x2=>
 aG x2 (
 fF [0] [0] [(false,0),(false,1),(false,2),(false,4),(true,3),(true,5),(false,6),(false,7)]<|
 aI vI (fun x3=>[.box [vS ([]:Str),.v (.slice none 0 0)],.box [vS ([]:Str),.v (.slice none 0 0)]]) (b5 a0 a1) fun x3=>
 aH ((⟨([]:Str),([]:(List a8))⟩:bM),x3,x1)) (
 bG a0 a1 fun x4=>
 aA vI (wI (a1 + (1:Int))) fun x5=>
 aI vI (fun x6=>[.box [vS ([]:Str),.v (.slice none 0 0)],.box [vS ([]:Str),.v (.slice none 0 0)],.box [vS x4.S,.v (.slice none 0 0)]]) (bZ a0 x5 (4:Int) ([123]:Str)) fun x6=>
 aA vB (!decide (x6=(0:Int))) fun x7=>
 aG x7 (
 aH ((⟨x4.S,([]:(List a8))⟩:bM),x5,(0:Int))) (
 aA vI (wI (x5 + (1:Int))) fun x8=>
 aI vI (fun x9=>[.box [vS ([]:Str),.v (.slice none 0 0)],.box [vS ([]:Str),.v (.slice none 0 0)],.box [vS x4.S,.v (.slice none 0 0)]]) (bZ a0 x8 (4:Int) ([125]:Str)) fun x9=>
 aA vB (decide (x9=(0:Int))) fun x10=>
 aG x10 (
 aA vI (wI (x8 + (1:Int))) fun x11=>
 aH ((⟨x4.S,([]:(List a8))⟩:bM),x11,(0:Int))) (
 tokB 2 1 3 81<|
 bK (fun (x12:(List a8) × Int)=>[(0,sl aF a0),(4,.ptr 0 0),(7,.ptr 1 0),(9,.ptr 2 0),(10,vI x12.2)]) (fun (x12:(List a8) × Int)=>[.box [vS ([]:Str),.v (.slice none 0 0)],.box [vS ([]:Str),.v (.slice none 0 0)],.box [vS x4.S,so 3 aB x12.1],tk x12.1.length 3 81]) (fun (x12:(List a8) × Int)=>
 aA vI ((x12.1.length:Int)) fun x13=>
 aI (fun x14=>.tup [(ag aB) x14.1,vI x14.2.1,vI x14.2.2]) (fun x14=>[.box [vS ([]:Str),.v (.slice none 0 0)],.box [vS ([]:Str),.v (.slice none 0 0)],.box [vS x4.S,so 3 aB x12.1],tk x12.1.length 3 81]) (o7 a0 x12.2 x13) fun x14=>
 aA vB (!decide (x14.2.2=(0:Int))) fun x15=>
 aG x15 (
 aY<|
 aH ((⟨([]:Str),([]:(List a8))⟩:bM),x14.2.1,x14.2.2)) (
 aA (sx aB) ([x14.1]:(List a8)) fun x16=>
 gdM ((x12.1.length + x16.length) * 40≤140737488355328)<|
 dT (so 3 aB) (fun x17=>[.box [vS ([]:Str),.v (.slice none 0 0)],.box [vS ([]:Str),.v (.slice none 0 0)],.box [vS x4.S,so 3 aB x12.1],tk x17.length 3 81,.box [vS x14.1.Name,vS x14.1.Value,vB x14.1.Not]]) (x12.1 ++ x16) fun x17=>
 aI vI (fun x18=>[.box [vS ([]:Str),.v (.slice none 0 0)],.box [vS ([]:Str),.v (.slice none 0 0)],.box [vS x4.S,so 3 aB x17],tk x17.length 3 81,.box [vS x14.1.Name,vS x14.1.Value,vB x14.1.Not]]) (bZ a0 x14.2.1 (4:Int) ([125]:Str)) fun x18=>
 aA vB (decide (x18=(0:Int))) fun x19=>
 aG x19 (
 aA vI (wI (x14.2.1 + (1:Int))) fun x20=>
 aY<|
 aH ((⟨x4.S,x17⟩:bM),x20,(0:Int))) (
 aI vI (fun x21=>[.box [vS ([]:Str),.v (.slice none 0 0)],.box [vS ([]:Str),.v (.slice none 0 0)],.box [vS x4.S,so 3 aB x17],tk x17.length 3 81,.box [vS x14.1.Name,vS x14.1.Value,vB x14.1.Not]]) (bZ a0 x14.2.1 (4:Int) ([44]:Str)) fun x21=>
 aA vB (!decide (x21=(0:Int))) fun x22=>
 aG x22 (
 fF [0] [0] [(false,0),(false,1),(false,2),(false,4),(true,3),(true,5),(false,6),(false,7)]<|
 aI vI (fun x23=>[.box [vS ([]:Str),.v (.slice none 0 0)],.box [vS ([]:Str),.v (.slice none 0 0)],.box [vS x4.S,so 3 aB x17],tk x17.length 3 81,.box [vS x14.1.Name,vS x14.1.Value,vB x14.1.Not]]) (b5 a0 x14.2.1) fun x23=>
 aY<|
 aH ((⟨([]:Str),([]:(List a8))⟩:bM),x23,x21)) (
 aA vI (wI (x14.2.1 + (1:Int))) fun x24=>
 aU (x17,x24))))) (([]:List a8),x8))))
def mT:Option ((List Str)) :=
 aA (sx cS) ([([62]:Str),([62,61]:Str),([60]:Str),([60,61]:Str),([61,61]:Str),([33,61]:Str)]:(List Str)) fun x1=>
 aH x1
def uY (a0:(List aK)) (a1:Int):Option (Int) :=
 aI (sl cS) (fun x1=>[]) (mT) fun x1=>
 bK (fun (x2:Int)=>[(0,sl aF a0),(1,vI a1),(5,sl cS x1),(6,vI x2)]) (fun (x2:Int)=>[]) (fun (x2:Int)=>
 aA vI ((x1.length:Int)) fun x3=>
 aA vB (decide (x2 < x3)) fun x4=>
 aG x4 (
 bG x1 x2 fun x5=>
 aI vI (fun x6=>[]) (bZ a0 a1 (4:Int) x5) fun x6=>
 aA vB (decide (x6=(0:Int))) fun x7=>
 aG x7 (
 aA vI (wI (x2 + (1:Int))) fun x8=>
 aY<|
 aH x8) (
 aA vI (wI (x2 + (1:Int))) fun x9=>
 aU x9)) (
 aY<|
 aH (0:Int))) (0:Int)
def oS (a0:Int):Option (Bool) :=
 aA vB (decide ((48:Int)≤a0)) fun x1=>
 aA vB (decide (a0≤(57:Int))) fun x2=>
 aA vB (bif x1 then x2 else false) fun x3=>
 aH x3
def nJ (a0:Str) (a1:Int):Option (Int) :=
 bK (fun (x1:Int)=>[(0,vS a0),(1,vI a1),(5,vI x1)]) (fun (x1:Int)=>[]) (fun (x1:Int)=>
 aA vI (wI (a1 + x1)) fun x2=>
 aA vI ((a0.length:Int)) fun x3=>
 aA vB (decide (x2 < x3)) fun x4=>
 aA vI (wI (a1 + x1)) fun x5=>
 aG x4 (
 bG a0 x5 fun x6=>
 aI vB (fun x7=>[]) (oS (x6.toNat:Int)) fun x7=>
 aG x7 (
 aA vI (wI (x1 + (1:Int))) fun x8=>
 aU x8) (
 aY<|
 aH x1)) (
 aY<|
 aH x1)) (0:Int)
def o5 (a0:Str):Option (Int × Int) :=
 pS (fun (x1:Int)=>[(0,vS a0),(4,vI x1)]) (fun (x1:Int)=>[]) (fun (x1:Int)=>
 aI vI (fun x6=>[]) (nJ a0 x1) fun x6=>
 aA vI (wI (x1 + x6)) fun x7=>
 pS (fun (x8:Int × Int)=>[(0,vS a0),(4,vI x1),(5,vI x6),(6,vI x8.1),(7,vI x8.2)]) (fun (x8:Int × Int)=>[]) (fun (x8:Int × Int)=>
 aA vB (decide (x6=(0:Int))) fun x20=>
 aA vI ((a0.length:Int)) fun x21=>
 aA vB (!decide (x8.1=x21)) fun x22=>
 aA vB (bif x20 then true else x22) fun x23=>
 aG x23 (
 aH ((0:Int),(1:Int))) (
 bK (fun (x24:Int × Int)=>[(0,vS a0),(4,vI x1),(7,vI x8.2),(8,vI x24.1),(9,vI x24.2)]) (fun (x24:Int × Int)=>[]) (fun (x24:Int × Int)=>
 aA vI ((a0.length:Int)) fun x25=>
 aA vB (decide (x24.2 < x25)) fun x26=>
 aG x26 (
 bG a0 x24.2 fun x27=>
 aA vB (!decide ((x27.toNat:Int)=(46:Int))) fun x28=>
 aG x28 (
 aA vI (wI (x24.1 * (10:Int))) fun x29=>
 aA vI (wI (x27.toNat:Int)) fun x30=>
 aA vI (wI (x29 + x30)) fun x31=>
 aA vI (wI (x31 - (48:Int))) fun x32=>
 aA vI (min x32 (36028797018963968:Int)) fun x33=>
 aA vI (wI (x24.2 + (1:Int))) fun x34=>
 aU (x33,x34)) (
 aA vI (wI (x24.2 + (1:Int))) fun x35=>
 aU (x24.1,x35))) (
 aY<|
 bK (fun (x36:Int × Int)=>[(4,vI x1),(8,vI x36.2),(10,vI x36.1)]) (fun (x36:Int × Int)=>[]) (fun (x36:Int × Int)=>
 aA vB (decide (x36.1 < (3:Int))) fun x37=>
 aG x37 (
 aA vI (wI (x36.2 * (10:Int))) fun x38=>
 aA vI (min x38 (36028797018963968:Int)) fun x39=>
 aA vI (wI (x36.1 + (1:Int))) fun x40=>
 aU (x40,x39)) (
 aY<|
 aA vB (decide ((9007199254740992:Int) < x36.2)) fun x41=>
 aG x41 (
 aH ((0:Int),(2:Int))) (
 aA vB (decide (x1=(1:Int))) fun x42=>
 aG x42 (
 aA vI (wI (0 - x36.2)) fun x43=>
 aH (x43,(0:Int))) (
 aH (x36.2,(0:Int)))))) (x8.2,x24.1))) ((0:Int),x1)))<|
 aA vI ((a0.length:Int)) fun x9=>
 aA vB (decide (x7 < x9)) fun x10=>
 aG x10 (
 bG a0 x7 fun x11=>
 aA vB (decide ((x11.toNat:Int)=(46:Int))) fun x12=>
 aG x12 (
 aA vI (wI (x7 + (1:Int))) fun x13=>
 aI vI (fun x14=>[]) (nJ a0 x13) fun x14=>
 aA vB (decide (x14 < (1:Int))) fun x15=>
 aA vB (decide ((3:Int) < x14)) fun x16=>
 aA vB (bif x15 then true else x16) fun x17=>
 aG x17 (
 aY<|
 aH ((0:Int),(1:Int))) (
 aA vI (wI (x7 + (1:Int))) fun x18=>
 aA vI (wI (x18 + x14)) fun x19=>
 aU (x19,x14))) (
 aU (x7,(0:Int)))) (
 aU (x7,(0:Int))))<|
 aA vI ((a0.length:Int)) fun x2=>
 aA vB (decide ((0:Int) < x2)) fun x3=>
 aG x3 (
 bG a0 (0:Int) fun x4=>
 aA vB (decide ((x4.toNat:Int)=(45:Int))) fun x5=>
 aG x5 (
 aU (1:Int)) (
 aU (0:Int))) (
 aU (0:Int))
def pE (a0:(List aK)) (a1:Int):Option (bF × Int × Int) :=
 aI (fun x1=>.tup [(ag kX) x1.1,vI x1.2.1,vI x1.2.2]) (fun x1=>[.box [vS ([]:Str),.v (.slice none 0 0),vI (0:Int),vI (0:Int)],.box [vS ([]:Str),.v (.slice none 0 0),vI (0:Int),vI (0:Int)]]) (pF a0 a1) fun x1=>
 aA vB (!decide (x1.2.2=(0:Int))) fun x2=>
 aG x2 (
 aH ((⟨(⟨([]:Str),([]:(List a8))⟩:bM),(0:Int),(0:Int)⟩:bF),x1.2.1,x1.2.2)) (
 aI vI (fun x3=>[.box [vS ([]:Str),.v (.slice none 0 0),vI (0:Int),vI (0:Int)],.box [vS ([]:Str),.v (.slice none 0 0),vI (0:Int),vI (0:Int)],.box [vS x1.1.Name,sl aB x1.1.M]]) (uY a0 x1.2.1) fun x3=>
 aA vB (decide (x3=(0:Int))) fun x4=>
 aG x4 (
 aI vI (fun x5=>[.box [vS ([]:Str),.v (.slice none 0 0),vI (0:Int),vI (0:Int)],.box [vS ([]:Str),.v (.slice none 0 0),vI (0:Int),vI (0:Int)],.box [vS x1.1.Name,sl aB x1.1.M]]) (bZ a0 x1.2.1 (4:Int) ([]:Str)) fun x5=>
 aA vB (decide (x5=(0:Int))) fun x6=>
 aG x6 (
 fF [0] [0] [(false,0),(false,1),(false,2),(false,4),(true,3),(true,5),(false,6),(false,7)]<|
 aI vI (fun x7=>[.box [vS ([]:Str),.v (.slice none 0 0),vI (0:Int),vI (0:Int)],.box [vS ([]:Str),.v (.slice none 0 0),vI (0:Int),vI (0:Int)],.box [vS x1.1.Name,sl aB x1.1.M]]) (b5 a0 x1.2.1) fun x7=>
 aH ((⟨(⟨([]:Str),([]:(List a8))⟩:bM),(0:Int),(0:Int)⟩:bF),x7,(1:Int))) (
 fF [0] [0] [(false,0),(false,1),(false,2),(false,4),(true,3),(true,5),(false,6),(false,7)]<|
 aI vI (fun x8=>[.box [vS ([]:Str),.v (.slice none 0 0),vI (0:Int),vI (0:Int)],.box [vS ([]:Str),.v (.slice none 0 0),vI (0:Int),vI (0:Int)],.box [vS x1.1.Name,sl aB x1.1.M]]) (b5 a0 x1.2.1) fun x8=>
 aH ((⟨(⟨([]:Str),([]:(List a8))⟩:bM),(0:Int),(0:Int)⟩:bF),x8,x5))) (
 aA vI (wI (x1.2.1 + (1:Int))) fun x9=>
 aI vI (fun x10=>[.box [vS ([]:Str),.v (.slice none 0 0),vI (0:Int),vI (0:Int)],.box [vS ([]:Str),.v (.slice none 0 0),vI (0:Int),vI (0:Int)],.box [vS x1.1.Name,sl aB x1.1.M]]) (bZ a0 x9 (2:Int) ([]:Str)) fun x10=>
 aA vB (!decide (x10=(0:Int))) fun x11=>
 aG x11 (
 fF [0] [0] [(false,0),(false,1),(false,2),(false,3),(false,5),(true,4),(true,6),(false,7),(false,8)]<|
 aA vI (wI (x1.2.1 + (1:Int))) fun x12=>
 aI vI (fun x13=>[.box [vS ([]:Str),.v (.slice none 0 0),vI (0:Int),vI (0:Int)],.box [vS ([]:Str),.v (.slice none 0 0),vI (0:Int),vI (0:Int)],.box [vS x1.1.Name,sl aB x1.1.M]]) (b5 a0 x12) fun x13=>
 aH ((⟨(⟨([]:Str),([]:(List a8))⟩:bM),(0:Int),(0:Int)⟩:bF),x13,x10)) (
 aA vI (wI (x1.2.1 + (1:Int))) fun x14=>
 bG a0 x14 fun x15=>
 aI (fun x16=>.tup [vI x16.1,vI x16.2]) (fun x16=>[.box [vS ([]:Str),.v (.slice none 0 0),vI (0:Int),vI (0:Int)],.box [vS ([]:Str),.v (.slice none 0 0),vI (0:Int),vI (0:Int)],.box [vS x1.1.Name,sl aB x1.1.M]]) (o5 x15.S) fun x16=>
 aA vB (!decide (x16.2=(0:Int))) fun x17=>
 aG x17 (
 aA vI (wI (x1.2.1 + (1:Int))) fun x18=>
 aH ((⟨(⟨([]:Str),([]:(List a8))⟩:bM),(0:Int),(0:Int)⟩:bF),x18,x16.2)) (
 aA vI (wI (x1.2.1 + (2:Int))) fun x19=>
 aH ((⟨x1.1,x3,x16.1⟩:bF),x19,(0:Int))))))
def iG:Nat→(List aK)→Int→Int→Option (bF × Int × Int)
 | 0,_,_,_=>none
 | nrec + 1,a0,a1,a2=>
 aI vI (fun x1=>[.box [vS ([]:Str),.v (.slice none 0 0),vI (0:Int),vI (0:Int)]]) (bZ a0 a1 (4:Int) ([40]:Str)) fun x1=>
 aA vB (!decide (x1=(0:Int))) fun x2=>
 aG x2 (
 aI (fun x3=>.tup [(ag fX) x3.1,vI x3.2.1,vI x3.2.2]) (fun x3=>[.box [vS ([]:Str),.v (.slice none 0 0),vI (0:Int),vI (0:Int)]]) (pE a0 a1) fun x3=>
 aH (x3.1,x3.2.1,x3.2.2)) (
 aA vB (decide (a2=(32:Int))) fun x4=>
 aG x4 (
 aH ((⟨(⟨([]:Str),([]:(List a8))⟩:bM),(0:Int),(0:Int)⟩:bF),a1,(8:Int))) (
 aA vI (wI (a1 + (1:Int))) fun x5=>
 aA vI (wI (a2 + (1:Int))) fun x6=>
 aI (fun x7=>.tup [(ag fX) x7.1,vI x7.2.1,vI x7.2.2]) (fun x7=>[.box [vS ([]:Str),.v (.slice none 0 0),vI (0:Int),vI (0:Int)]]) (iG nrec a0 x5 x6) fun x7=>
 aA vB (!decide (x7.2.2=(0:Int))) fun x8=>
 aG x8 (
 aH ((⟨(⟨([]:Str),([]:(List a8))⟩:bM),(0:Int),(0:Int)⟩:bF),x7.2.1,x7.2.2)) (
 aI vI (fun x9=>[.box [vS ([]:Str),.v (.slice none 0 0),vI (0:Int),vI (0:Int)],.box [vS x7.1.S.Name,sl aB x7.1.S.M,vI x7.1.Op,vI x7.1.V]]) (bZ a0 x7.2.1 (4:Int) ([41]:Str)) fun x9=>
 aA vB (!decide (x9=(0:Int))) fun x10=>
 aG x10 (
 aI vI (fun x11=>[.box [vS ([]:Str),.v (.slice none 0 0),vI (0:Int),vI (0:Int)],.box [vS x7.1.S.Name,sl aB x7.1.S.M,vI x7.1.Op,vI x7.1.V]]) (b5 a0 x7.2.1) fun x11=>
 aH ((⟨(⟨([]:Str),([]:(List a8))⟩:bM),(0:Int),(0:Int)⟩:bF),x11,x9)) (
 aA vI (wI (x7.2.1 + (1:Int))) fun x12=>
 aH (x7.1,x12,(0:Int))))))
 def ref09_within (a0:(List aK)) (a1:Int) (a2:Int):Option (bF × Int × Int):=iG 64 a0 a1 a2
def o9 (a0:(List aK)) (a1:Int):Option (bF × Int × Int) :=
 aI (fun x1=>.tup [(ag fX) x1.1,vI x1.2.1,vI x1.2.2]) (fun x1=>[.box [vS ([]:Str),.v (.slice none 0 0),vI (0:Int),vI (0:Int)]]) (ref09_within a0 a1 (0:Int)) fun x1=>
 aH (x1.1,x1.2.1,x1.2.2)
def mY:Option ((List gS)) :=
 aA (sx f0) ([(⟨([100]:Str),(86400000:Int)⟩:gS),(⟨([104]:Str),(3600000:Int)⟩:gS),(⟨([109]:Str),(60000:Int)⟩:gS),(⟨([115]:Str),(1000:Int)⟩:gS),(⟨([109,115]:Str),(1:Int)⟩:gS)]:(List gS)) fun x1=>
 aH x1
def rP (a0:Str) (a1:Int):Option (Int) :=
 aI (sl f0) (fun x1=>[]) (mY) fun x1=>
 bK (fun (x2:Int × Int)=>[(0,vS a0),(1,vI a1),(5,sl f0 x1),(6,vI x2.1),(7,vI x2.2)]) (fun (x2:Int × Int)=>[]) (fun (x2:Int × Int)=>
 aA vI ((x1.length:Int)) fun x3=>
 aA vB (decide (x2.2 < x3)) fun x4=>
 aG x4 (
 bG x1 x2.2 fun x5=>
 aA vI ((x5.Name.length:Int)) fun x6=>
 aA vI (wI (a1 + x6)) fun x7=>
 aA vI ((a0.length:Int)) fun x8=>
 aA vB (decide (x7≤x8)) fun x9=>
 aA vI ((x5.Name.length:Int)) fun x10=>
 aA vI (wI (a1 + x10)) fun x11=>
 aG x9 (
 gdM (0≤a1∧a1≤x11∧x11≤(a0.length:Int))<|
 aA vS ((a0.take x11.toNat).drop a1.toNat) fun x12=>
 aA vB (decide (x12=x5.Name)) fun x13=>
 aA vB (decide (x2.1 < (0:Int))) fun x14=>
 aA vI ((x5.Name.length:Int)) fun x15=>
 aG x13 (
 aG x14 (
 aA vB (bif true then true else false) fun x16=>
 aG x16 (
 aA vI (wI (x2.2 + (1:Int))) fun x17=>
 aU (x2.2,x17)) (
 aA vI (wI (x2.2 + (1:Int))) fun x18=>
 aU (x2.1,x18))) (
 bG x1 x2.1 fun x19=>
 aA vI ((x19.Name.length:Int)) fun x20=>
 aA vB (decide (x20 < x15)) fun x21=>
 aA vB (bif false then true else x21) fun x22=>
 aG x22 (
 aA vI (wI (x2.2 + (1:Int))) fun x23=>
 aU (x2.2,x23)) (
 aA vI (wI (x2.2 + (1:Int))) fun x24=>
 aU (x2.1,x24)))) (
 aA vB (bif x14 then true else false) fun x25=>
 aA vI (wI (x2.2 + (1:Int))) fun x26=>
 aU (x2.1,x26))) (
 aA vB (decide (x2.1 < (0:Int))) fun x27=>
 aA vI ((x5.Name.length:Int)) fun x28=>
 aA vB (bif x27 then true else false) fun x29=>
 aA vI (wI (x2.2 + (1:Int))) fun x30=>
 aU (x2.1,x30))) (
 aY<|
 aH x2.1)) ((-1:Int),(0:Int))
def o8 (a0:Str):Option (Int × Int) :=
 aI (sl f0) (fun x1=>[]) (mY) fun x1=>
 bK (fun (x2:Int × Int × Int)=>[(0,vS a0),(4,sl f0 x1),(5,vI x2.1),(6,vI x2.2.1),(7,vI x2.2.2)]) (fun (x2:Int × Int × Int)=>[]) (fun (x2:Int × Int × Int)=>
 aA vI ((a0.length:Int)) fun x3=>
 aA vB (decide (x2.2.2 < x3)) fun x4=>
 aG x4 (
 aI vI (fun x5=>[]) (nJ a0 x2.2.2) fun x5=>
 aA vI (wI (x2.2.2 + x5)) fun x6=>
 aI vI (fun x7=>[]) (rP a0 x6) fun x7=>
 aA vB (decide (x5=(0:Int))) fun x8=>
 aA vB (decide (x7≤x2.2.1)) fun x9=>
 aA vB (bif x8 then true else x9) fun x10=>
 aG x10 (
 aY<|
 aH ((0:Int),(1:Int))) (
 bK (fun (x11:Int × Int)=>[(0,vS a0),(4,sl f0 x1),(5,vI x2.1),(7,vI x2.2.2),(8,vI x5),(9,vI x7),(10,vI x11.1),(11,vI x11.2)]) (fun (x11:Int × Int)=>[]) (fun (x11:Int × Int)=>
 aA vB (decide (x11.2 < x5)) fun x12=>
 aG x12 (
 aA vI (wI (x11.1 * (10:Int))) fun x13=>
 aA vI (wI (x2.2.2 + x11.2)) fun x14=>
 bG a0 x14 fun x15=>
 aA vI (wI (x15.toNat:Int)) fun x16=>
 aA vI (wI (x13 + x16)) fun x17=>
 aA vI (wI (x17 - (48:Int))) fun x18=>
 aA vI (min x18 (36028797018963968:Int)) fun x19=>
 aA vI (wI (x11.2 + (1:Int))) fun x20=>
 aU (x19,x20)) (
 aY<|
 bG x1 x7 fun x21=>
 gdM (x21.Size ≠ 0)<|
 aA vI (wI (Int.tdiv (9007199254740992:Int) x21.Size)) fun x22=>
 aA vB (decide (x22 < x11.1)) fun x23=>
 aG x23 (
 gdM (x21.Size ≠ 0)<|
 aA vI (wI (Int.tdiv (9007199254740992:Int) x21.Size)) fun x24=>
 aA vI (wI (x24 + (1:Int))) fun x25=>
 aA vI (wI (x25 * x21.Size)) fun x26=>
 aA vI (wI (x2.1 + x26)) fun x27=>
 aA vI (min x27 (36028797018963968:Int)) fun x28=>
 aA vI (wI (x2.2.2 + x5)) fun x29=>
 aA vI ((x21.Name.length:Int)) fun x30=>
 aA vI (wI (x29 + x30)) fun x31=>
 aU (x28,x7,x31)) (
 aA vI (wI (x11.1 * x21.Size)) fun x32=>
 aA vI (wI (x2.1 + x32)) fun x33=>
 aA vI (min x33 (36028797018963968:Int)) fun x34=>
 aA vI (wI (x2.2.2 + x5)) fun x35=>
 aA vI ((x21.Name.length:Int)) fun x36=>
 aA vI (wI (x35 + x36)) fun x37=>
 aU (x34,x7,x37)))) ((0:Int),(0:Int)))) (
 aY<|
 aA vB (decide (x2.2.1 < (0:Int))) fun x38=>
 aG x38 (
 aH ((0:Int),(1:Int))) (
 aA vB (decide ((9007199254740992:Int) < x2.1)) fun x39=>
 aG x39 (
 aH ((0:Int),(2:Int))) (
 aH (x2.1,(0:Int)))))) ((0:Int),(-1:Int),(0:Int))
def jT (a0:(List aK)) (a1:Int) (a2:Str):Option (Int × Int × Int) :=
 aI vI (fun x1=>[]) (bZ a0 a1 (1:Int) a2) fun x1=>
 aA vB (!decide (x1=(0:Int))) fun x2=>
 aG x2 (
 aH ((0:Int),a1,(0:Int))) (
 aA vI (wI (a1 + (1:Int))) fun x3=>
 aI vI (fun x4=>[]) (bZ a0 x3 (2:Int) ([]:Str)) fun x4=>
 aA vB (!decide (x4=(0:Int))) fun x5=>
 aG x5 (
 aA vI (wI (a1 + (1:Int))) fun x6=>
 aI vI (fun x7=>[]) (b5 a0 x6) fun x7=>
 aH ((0:Int),x7,x4)) (
 aA vI (wI (a1 + (1:Int))) fun x8=>
 bG a0 x8 fun x9=>
 aI (fun x10=>.tup [vI x10.1,vI x10.2]) (fun x10=>[]) (o8 x9.S) fun x10=>
 aA vB (!decide (x10.2=(0:Int))) fun x11=>
 aG x11 (
 aA vI (wI (a1 + (1:Int))) fun x12=>
 aH ((0:Int),x12,x10.2)) (
 aA vI (wI (a1 + (2:Int))) fun x13=>
 aH (x10.1,x13,(0:Int)))))
def rV (a0:(List aK)) (a1:Int):Option (aJ × Int × Int) :=
 aA (sx cI) ([(1:Int),(4:Int),(3:Int)]:(List Int)) fun x1=>
 aA (sx cS) ([([]:Str),([61]:Str),([]:Str)]:(List Str)) fun x2=>
 bK (fun (x3:Int)=>[(0,sl aF a0),(1,vI a1),(4,.ptr 0 0),(7,sx cI x1),(8,sx cS x2),(9,vI x3)]) (fun (x3:Int)=>[.box [vS ([]:Str),vS ([]:Str)]]) (fun (x3:Int)=>
 aA vB (decide (x3 < (3:Int))) fun x4=>
 aG x4 (
 fS<|
 aA vI (wI (a1 + x3)) fun x5=>
 bG x1 x3 fun x6=>
 bG x2 x3 fun x7=>
 aI vI (fun x8=>[.box [vS ([]:Str),vS ([]:Str)]]) (bZ a0 x5 x6 x7) fun x8=>
 aA vB (!decide (x8=(0:Int))) fun x9=>
 aG x9 (
 aA vI (wI (a1 + x3)) fun x10=>
 aI vI (fun x11=>[.box [vS ([]:Str),vS ([]:Str)]]) (b5 a0 x10) fun x11=>
 aY<|
 aH ((⟨([]:Str),([]:Str)⟩:aJ),x11,x8)) (
 aA vI (wI (x3 + (1:Int))) fun x12=>
 aU x12)) (
 aY<|
 fF [0] [0,1,2,3,4,5,6,7,8,9,10] [(false,0),(false,1),(false,2),(false,3),(false,4),(false,5),(false,6),(false,7),(false,8),(false,9),(false,10),(false,12),(false,13),(true,11),(true,14),(false,15),(false,16)]<|
 bG a0 a1 fun x13=>
 aA vI (wI (a1 + (2:Int))) fun x14=>
 bG a0 x14 fun x15=>
 aA vI (wI (a1 + (3:Int))) fun x16=>
 aH ((⟨x13.S,x15.S⟩:aJ),x16,(0:Int)))) (0:Int)
def pA (a0:(List aK)) (a1:Int):Option ((List aJ) × Int × Int) :=
 aI vI (fun x1=>[]) (bZ a0 a1 (4:Int) ([125]:Str)) fun x1=>
 aA vB (decide (x1=(0:Int))) fun x2=>
 aG x2 (
 aH (([]:(List aJ)),a1,(0:Int))) (
 Ce 7 2 47<|
 bK (fun (x3:Int × (List aJ))=>[(0,sl aF a0),(1,vI x3.1),(7,so 0 aD x3.2)]) (fun (x3:Int × (List aJ))=>[tk x3.2.length 2 47]) (fun (x3:Int × (List aJ))=>
 aI (fun x4=>.tup [(ag aD) x4.1,vI x4.2.1,vI x4.2.2]) (fun x4=>[tk x3.2.length 2 47]) (rV a0 x3.1) fun x4=>
 aA vB (!decide (x4.2.2=(0:Int))) fun x5=>
 aG x5 (
 aY<|
 aH (([]:(List aJ)),x4.2.1,x4.2.2)) (
 aA (sx aD) ([x4.1]:(List aJ)) fun x6=>
 gdM ((x3.2.length + x6.length) * 32≤140737488355328)<|
 dT (so 0 aD) (fun x7=>[tk x7.length 2 47,.box [vS x4.1.Name,vS x4.1.Value]]) (x3.2 ++ x6) fun x7=>
 aI vI (fun x8=>[tk x7.length 2 47,.box [vS x4.1.Name,vS x4.1.Value]]) (bZ a0 x4.2.1 (4:Int) ([125]:Str)) fun x8=>
 aA vB (decide (x8=(0:Int))) fun x9=>
 aG x9 (
 aY<|
 aH (x7,x4.2.1,(0:Int))) (
 aI vI (fun x10=>[tk x7.length 2 47,.box [vS x4.1.Name,vS x4.1.Value]]) (bZ a0 x4.2.1 (4:Int) ([44]:Str)) fun x10=>
 aA vB (!decide (x10=(0:Int))) fun x11=>
 aG x11 (
 aI vI (fun x12=>[tk x7.length 2 47,.box [vS x4.1.Name,vS x4.1.Value]]) (b5 a0 x4.2.1) fun x12=>
 aY<|
 aH (([]:(List aJ)),x12,x10)) (
 aA vI (wI (x4.2.1 + (1:Int))) fun x13=>
 aU (x13,x7))))) (a1,([]:List aJ)))
def pD (a0:(List aJ)):Option (Int) :=
 aA vI ((a0.length:Int)) fun x1=>
 aA vB (decide ((16:Int) < x1)) fun x2=>
 aG x2 (
 aH (4:Int)) (
 bK (fun (x3:Int)=>[(0,sl aD a0),(3,vI x3)]) (fun (x3:Int)=>[]) (fun (x3:Int)=>
 aA vI ((a0.length:Int)) fun x4=>
 aA vB (decide (x3 < x4)) fun x5=>
 aG x5 (
 bG a0 x3 fun x6=>
 aA vI ((x6.Value.length:Int)) fun x7=>
 aA vB (decide ((64:Int) < x7)) fun x8=>
 aG x8 (
 aY<|
 aH (4:Int)) (
 aA vI (wI (x3 + (1:Int))) fun x9=>
 aU x9)) (
 aY<|
 bK (fun (x10:Int)=>[(0,sl aD a0),(4,vI x10)]) (fun (x10:Int)=>[]) (fun (x10:Int)=>
 aA vI ((a0.length:Int)) fun x11=>
 aA vB (decide (x10 < x11)) fun x12=>
 aG x12 (
 bG a0 x10 fun x13=>
 aI vB (fun x14=>[]) (gB x13.Name) fun x14=>
 aA vB (!x14) fun x15=>
 aG x15 (
 aY<|
 aH (7:Int)) (
 aA vI (wI (x10 + (1:Int))) fun x16=>
 aU x16)) (
 aY<|
 bK (fun (x17:Int)=>[(0,sl aD a0),(5,vI x17)]) (fun (x17:Int)=>[]) (fun (x17:Int)=>
 aA vI ((a0.length:Int)) fun x18=>
 aA vB (decide (x17 < x18)) fun x19=>
 aG x19 (
 bK (fun (x20:Int)=>[(0,sl aD a0),(5,vI x17),(6,vI x20)]) (fun (x20:Int)=>[]) (fun (x20:Int)=>
 aA vB (decide (x20 < x17)) fun x21=>
 aG x21 (
 bG a0 x17 fun x22=>
 bG a0 x20 fun x23=>
 aA vB (decide (x22.Name=x23.Name)) fun x24=>
 aG x24 (
 aY<|
 aY<|
 aH (6:Int)) (
 aA vI (wI (x20 + (1:Int))) fun x25=>
 aU x25)) (
 aY<|
 aA vI (wI (x17 + (1:Int))) fun x26=>
 aU x26)) (0:Int)) (
 aY<|
 aH (0:Int))) (0:Int))) (0:Int))) (0:Int))
def q6 (a0:(List aJ)):Option ((List aJ) × Int) :=
 aI vI (fun x1=>[]) (pD a0) fun x1=>
 aA vB (!decide (x1=(0:Int))) fun x2=>
 aG x2 (
 aH (([]:(List aJ)),x1)) (
 Ce 5 2 47<|
 bK (fun (x3:(List aJ) × Int)=>[(0,sl aD a0),(5,so 0 aD x3.1),(6,vI x3.2)]) (fun (x3:(List aJ) × Int)=>[tk x3.1.length 2 47]) (fun (x3:(List aJ) × Int)=>
 aA vI ((a0.length:Int)) fun x4=>
 aA vB (decide (x3.2 < x4)) fun x5=>
 aG x5 (
 aA vI ((x3.1.length:Int)) fun x6=>
 pS (fun (x7:Int)=>[(0,sl aD a0),(5,so 0 aD x3.1),(6,vI x3.2),(7,vI x7)]) (fun (x7:Int)=>[tk x3.1.length 2 47]) (fun (x7:Int)=>
 gdM (0≤(0:Int)∧(0:Int)≤x7∧x7≤(x3.1.length:Int))<|
 aA (so 0 aD) ((x3.1.take x7.toNat).drop (0:Int).toNat) fun x15=>
 gdM (x15.length * 32≤140737488355328)<|
 dT (so 1 aD) (fun x16=>[tk x3.1.length 2 47,tk x16.length 2 47]) (x15) fun x16=>
 bG a0 x3.2 fun x17=>
 aA (sx aD) ([x17]:(List aJ)) fun x18=>
 gdM ((x16.length + x18.length) * 32≤140737488355328)<|
 dT (so 1 aD) (fun x19=>[tk x3.1.length 2 47,tk x19.length 2 47]) (x16 ++ x18) fun x19=>
 gdM (0≤x7∧x7≤(x3.1.length:Int)∧(x3.1.length:Int)≤(x3.1.length:Int))<|
 aA (so 0 aD) ((x3.1.take (x3.1.length:Int).toNat).drop x7.toNat) fun x20=>
 gdM ((x19.length + x20.length) * 32≤140737488355328)<|
 dT (so 1 aD) (fun x21=>[tk x3.1.length 2 47,tk x21.length 2 47]) (x19 ++ x20) fun x21=>
 aA vI (wI (x3.2 + (1:Int))) fun x22=>
 Mi 0 1<|
 aU (x21,x22))<|
 bK (fun (x8:Int)=>[(0,sl aD a0),(5,so 0 aD x3.1),(6,vI x3.2),(7,vI x8)]) (fun (x8:Int)=>[tk x3.1.length 2 47]) (fun (x8:Int)=>
 aA vB (decide ((0:Int) < x8)) fun x9=>
 aA vI (wI (x8 - (1:Int))) fun x10=>
 aG x9 (
 bG x3.1 x10 fun x11=>
 bG a0 x3.2 fun x12=>
 aA vB (ltS x12.Name x11.Name) fun x13=>
 aG x13 (
 aA vI (wI (x8 - (1:Int))) fun x14=>
 aU x14) (
 aY<|
 aU x8)) (
 aY<|
 aU x8)) x6) (
 aY<|
 aH (x3.1,(0:Int)))) (([]:List aJ),(0:Int)))
def jQ (a0:Str):Option (Bool) :=
 aA vB (decide (a0=([95,95,110,97,109,101,95,95]:Str))) fun x1=>
 aA vB (decide (a0=([97,108,101,114,116,110,97,109,101]:Str))) fun x2=>
 aA vB (bif x1 then true else x2) fun x3=>
 aA vB (decide (a0=([97,108,101,114,116,115,116,97,116,101]:Str))) fun x4=>
 aA vB (bif x3 then true else x4) fun x5=>
 aH x5
def nZ (a0:(List aJ)):Option (Bool) :=
 bK (fun (x1:Int)=>[(0,sl aD a0),(3,vI x1)]) (fun (x1:Int)=>[]) (fun (x1:Int)=>
 aA vI ((a0.length:Int)) fun x2=>
 aA vB (decide (x1 < x2)) fun x3=>
 aG x3 (
 bG a0 x1 fun x4=>
 aI vB (fun x5=>[]) (jQ x4.Name) fun x5=>
 aG x5 (
 aY<|
 aH false) (
 aA vI (wI (x1 + (1:Int))) fun x6=>
 aU x6)) (
 aY<|
 aH true)) (0:Int)
def nR (a0:(List aK)) (a1:Int):Option ((List aJ) × Int × Int) :=
 aI vI (fun x1=>[]) (bZ a0 a1 (1:Int) ([108,97,98,101,108,115]:Str)) fun x1=>
 aA vB (!decide (x1=(0:Int))) fun x2=>
 aG x2 (
 aH (([]:(List aJ)),a1,(0:Int))) (
 aA vI (wI (a1 + (1:Int))) fun x3=>
 aI vI (fun x4=>[]) (bZ a0 x3 (4:Int) ([123]:Str)) fun x4=>
 aA vB (!decide (x4=(0:Int))) fun x5=>
 aG x5 (
 aA vI (wI (a1 + (1:Int))) fun x6=>
 aI vI (fun x7=>[]) (b5 a0 x6) fun x7=>
 aH (([]:(List aJ)),x7,x4)) (
 aA vI (wI (a1 + (2:Int))) fun x8=>
 aI (fun x9=>.tup [(sl aD) x9.1,vI x9.2.1,vI x9.2.2]) (fun x9=>[]) (pA a0 x8) fun x9=>
 aA vB (!decide (x9.2.2=(0:Int))) fun x10=>
 aG x10 (
 aH (([]:(List aJ)),x9.2.1,x9.2.2)) (
 aI (fun x11=>.tup [(sl aD) x11.1,vI x11.2]) (fun x11=>[]) (q6 x9.1) fun x11=>
 aA vB (decide (x11.2=(0:Int))) fun x12=>
 aG x12 (
 aI vB (fun x13=>[]) (nZ x11.1) fun x13=>
 aA vB (!x13) fun x14=>
 aG x14 (
 aA vB (!decide ((7:Int)=(0:Int))) fun x15=>
 aG x15 (
 aH (([]:(List aJ)),x9.2.1,(7:Int))) (
 aA vI (wI (x9.2.1 + (1:Int))) fun x16=>
 aH (x11.1,x16,(0:Int)))) (
 aA vB (!decide (x11.2=(0:Int))) fun x17=>
 aG x17 (
 aH (([]:(List aJ)),x9.2.1,x11.2)) (
 aA vI (wI (x9.2.1 + (1:Int))) fun x18=>
 aH (x11.1,x18,(0:Int))))) (
 aA vB (!decide (x11.2=(0:Int))) fun x19=>
 aG x19 (
 aH (([]:(List aJ)),x9.2.1,x11.2)) (
 aA vI (wI (x9.2.1 + (1:Int))) fun x20=>
 aH (x11.1,x20,(0:Int)))))))
def jL (a0:(List aK)) (a1:Int):Option (aZ × Int × Int) :=
 aI vI (fun x1=>[.box [vS ([]:Str),vS ([]:Str),.v (.slice none 0 0),vI (0:Int),vI (0:Int),vI (0:Int),vI (0:Int),.v (.slice none 0 0)],.box [vS ([]:Str),vS ([]:Str),.v (.slice none 0 0),vI (0:Int),vI (0:Int),vI (0:Int),vI (0:Int),.v (.slice none 0 0)]]) (bZ a0 a1 (1:Int) ([114,117,108,101]:Str)) fun x1=>
 aA vB (!decide (x1=(0:Int))) fun x2=>
 aG x2 (
 fF [0] [0] [(false,0),(false,1),(false,2),(false,4),(true,3),(true,5),(false,6),(false,7)]<|
 aI vI (fun x3=>[.box [vS ([]:Str),vS ([]:Str),.v (.slice none 0 0),vI (0:Int),vI (0:Int),vI (0:Int),vI (0:Int),.v (.slice none 0 0)],.box [vS ([]:Str),vS ([]:Str),.v (.slice none 0 0),vI (0:Int),vI (0:Int),vI (0:Int),vI (0:Int),.v (.slice none 0 0)]]) (b5 a0 a1) fun x3=>
 aH ((⟨([]:Str),(⟨(⟨([]:Str),([]:(List a8))⟩:bM),(0:Int),(0:Int)⟩:bF),(0:Int),(0:Int),([]:(List aJ))⟩:aZ),x3,x1)) (
 aA vI (wI (a1 + (1:Int))) fun x4=>
 aI vI (fun x5=>[.box [vS ([]:Str),vS ([]:Str),.v (.slice none 0 0),vI (0:Int),vI (0:Int),vI (0:Int),vI (0:Int),.v (.slice none 0 0)],.box [vS ([]:Str),vS ([]:Str),.v (.slice none 0 0),vI (0:Int),vI (0:Int),vI (0:Int),vI (0:Int),.v (.slice none 0 0)]]) (lZ a0 x4) fun x5=>
 aA vB (!decide (x5=(0:Int))) fun x6=>
 aG x6 (
 fF [0] [0] [(false,0),(false,1),(false,2),(false,3),(false,5),(true,4),(true,6),(false,7),(false,8)]<|
 aA vI (wI (a1 + (1:Int))) fun x7=>
 aI vI (fun x8=>[.box [vS ([]:Str),vS ([]:Str),.v (.slice none 0 0),vI (0:Int),vI (0:Int),vI (0:Int),vI (0:Int),.v (.slice none 0 0)],.box [vS ([]:Str),vS ([]:Str),.v (.slice none 0 0),vI (0:Int),vI (0:Int),vI (0:Int),vI (0:Int),.v (.slice none 0 0)]]) (b5 a0 x7) fun x8=>
 aH ((⟨([]:Str),(⟨(⟨([]:Str),([]:(List a8))⟩:bM),(0:Int),(0:Int)⟩:bF),(0:Int),(0:Int),([]:(List aJ))⟩:aZ),x8,x5)) (
 aA vI (wI (a1 + (2:Int))) fun x9=>
 aI vI (fun x10=>[.box [vS ([]:Str),vS ([]:Str),.v (.slice none 0 0),vI (0:Int),vI (0:Int),vI (0:Int),vI (0:Int),.v (.slice none 0 0)],.box [vS ([]:Str),vS ([]:Str),.v (.slice none 0 0),vI (0:Int),vI (0:Int),vI (0:Int),vI (0:Int),.v (.slice none 0 0)]]) (bZ a0 x9 (4:Int) ([58]:Str)) fun x10=>
 aA vB (!decide (x10=(0:Int))) fun x11=>
 aG x11 (
 fF [0] [0] [(false,0),(false,1),(false,2),(false,3),(false,5),(true,4),(true,6),(false,7),(false,8)]<|
 aA vI (wI (a1 + (2:Int))) fun x12=>
 aI vI (fun x13=>[.box [vS ([]:Str),vS ([]:Str),.v (.slice none 0 0),vI (0:Int),vI (0:Int),vI (0:Int),vI (0:Int),.v (.slice none 0 0)],.box [vS ([]:Str),vS ([]:Str),.v (.slice none 0 0),vI (0:Int),vI (0:Int),vI (0:Int),vI (0:Int),.v (.slice none 0 0)]]) (b5 a0 x12) fun x13=>
 aH ((⟨([]:Str),(⟨(⟨([]:Str),([]:(List a8))⟩:bM),(0:Int),(0:Int)⟩:bF),(0:Int),(0:Int),([]:(List aJ))⟩:aZ),x13,x10)) (
 aA vI (wI (a1 + (3:Int))) fun x14=>
 aI (fun x15=>.tup [(ag fX) x15.1,vI x15.2.1,vI x15.2.2]) (fun x15=>[.box [vS ([]:Str),vS ([]:Str),.v (.slice none 0 0),vI (0:Int),vI (0:Int),vI (0:Int),vI (0:Int),.v (.slice none 0 0)],.box [vS ([]:Str),vS ([]:Str),.v (.slice none 0 0),vI (0:Int),vI (0:Int),vI (0:Int),vI (0:Int),.v (.slice none 0 0)]]) (o9 a0 x14) fun x15=>
 aA vB (!decide (x15.2.2=(0:Int))) fun x16=>
 aG x16 (
 aH ((⟨([]:Str),(⟨(⟨([]:Str),([]:(List a8))⟩:bM),(0:Int),(0:Int)⟩:bF),(0:Int),(0:Int),([]:(List aJ))⟩:aZ),x15.2.1,x15.2.2)) (
 aI (fun x17=>.tup [vI x17.1,vI x17.2.1,vI x17.2.2]) (fun x17=>[.box [vS ([]:Str),vS ([]:Str),.v (.slice none 0 0),vI (0:Int),vI (0:Int),vI (0:Int),vI (0:Int),.v (.slice none 0 0)],.box [vS ([]:Str),vS ([]:Str),.v (.slice none 0 0),vI (0:Int),vI (0:Int),vI (0:Int),vI (0:Int),.v (.slice none 0 0)],.box [vS x15.1.S.Name,sl aB x15.1.S.M,vI x15.1.Op,vI x15.1.V]]) (jT a0 x15.2.1 ([102,111,114]:Str)) fun x17=>
 aA vB (!decide (x17.2.2=(0:Int))) fun x18=>
 aG x18 (
 aH ((⟨([]:Str),(⟨(⟨([]:Str),([]:(List a8))⟩:bM),(0:Int),(0:Int)⟩:bF),(0:Int),(0:Int),([]:(List aJ))⟩:aZ),x17.2.1,x17.2.2)) (
 aI (fun x19=>.tup [vI x19.1,vI x19.2.1,vI x19.2.2]) (fun x19=>[.box [vS ([]:Str),vS ([]:Str),.v (.slice none 0 0),vI (0:Int),vI (0:Int),vI (0:Int),vI (0:Int),.v (.slice none 0 0)],.box [vS ([]:Str),vS ([]:Str),.v (.slice none 0 0),vI (0:Int),vI (0:Int),vI (0:Int),vI (0:Int),.v (.slice none 0 0)],.box [vS x15.1.S.Name,sl aB x15.1.S.M,vI x15.1.Op,vI x15.1.V]]) (jT a0 x17.2.1 ([107,101,101,112]:Str)) fun x19=>
 aA vB (!decide (x19.2.2=(0:Int))) fun x20=>
 aG x20 (
 aH ((⟨([]:Str),(⟨(⟨([]:Str),([]:(List a8))⟩:bM),(0:Int),(0:Int)⟩:bF),(0:Int),(0:Int),([]:(List aJ))⟩:aZ),x19.2.1,x19.2.2)) (
 aI (fun x21=>.tup [(sl aD) x21.1,vI x21.2.1,vI x21.2.2]) (fun x21=>[.box [vS ([]:Str),vS ([]:Str),.v (.slice none 0 0),vI (0:Int),vI (0:Int),vI (0:Int),vI (0:Int),.v (.slice none 0 0)],.box [vS ([]:Str),vS ([]:Str),.v (.slice none 0 0),vI (0:Int),vI (0:Int),vI (0:Int),vI (0:Int),.v (.slice none 0 0)],.box [vS x15.1.S.Name,sl aB x15.1.S.M,vI x15.1.Op,vI x15.1.V]]) (nR a0 x19.2.1) fun x21=>
 aA vB (!decide (x21.2.2=(0:Int))) fun x22=>
 aG x22 (
 aH ((⟨([]:Str),(⟨(⟨([]:Str),([]:(List a8))⟩:bM),(0:Int),(0:Int)⟩:bF),(0:Int),(0:Int),([]:(List aJ))⟩:aZ),x21.2.1,x21.2.2)) (
 aI vI (fun x23=>[.box [vS ([]:Str),vS ([]:Str),.v (.slice none 0 0),vI (0:Int),vI (0:Int),vI (0:Int),vI (0:Int),.v (.slice none 0 0)],.box [vS ([]:Str),vS ([]:Str),.v (.slice none 0 0),vI (0:Int),vI (0:Int),vI (0:Int),vI (0:Int),.v (.slice none 0 0)],.box [vS x15.1.S.Name,sl aB x15.1.S.M,vI x15.1.Op,vI x15.1.V]]) (bZ a0 x21.2.1 (4:Int) ([59]:Str)) fun x23=>
 aA vB (!decide (x23=(0:Int))) fun x24=>
 aG x24 (
 fF [0] [0] [(false,0),(false,1),(false,2),(false,4),(true,3),(true,5),(false,6),(false,7)]<|
 aI vI (fun x25=>[.box [vS ([]:Str),vS ([]:Str),.v (.slice none 0 0),vI (0:Int),vI (0:Int),vI (0:Int),vI (0:Int),.v (.slice none 0 0)],.box [vS ([]:Str),vS ([]:Str),.v (.slice none 0 0),vI (0:Int),vI (0:Int),vI (0:Int),vI (0:Int),.v (.slice none 0 0)],.box [vS x15.1.S.Name,sl aB x15.1.S.M,vI x15.1.Op,vI x15.1.V]]) (b5 a0 x21.2.1) fun x25=>
 aH ((⟨([]:Str),(⟨(⟨([]:Str),([]:(List a8))⟩:bM),(0:Int),(0:Int)⟩:bF),(0:Int),(0:Int),([]:(List aJ))⟩:aZ),x25,x23)) (
 fF [0] [0,1,2,3,4,5,6,7,8,9] [(false,0),(false,1),(false,2),(false,3),(false,4),(false,5),(false,6),(false,7),(false,8),(false,9),(false,11),(false,12),(true,10),(true,13),(false,14),(false,15)]<|
 aA vI (wI (a1 + (1:Int))) fun x26=>
 bG a0 x26 fun x27=>
 aA vI (wI (x21.2.1 + (1:Int))) fun x28=>
 aH ((⟨x27.S,x15.1,x17.1,x19.1,x21.1⟩:aZ),x28,(0:Int))))))))))
def oB (a0:bM):Option (Bool) :=
 bK (fun (x1:Int)=>[(1,.ptr 0 0),(3,vI x1)]) (fun (x1:Int)=>[.box [vS a0.Name,sl aB a0.M]]) (fun (x1:Int)=>
 aA vI ((a0.M.length:Int)) fun x2=>
 aA vB (decide (x1 < x2)) fun x3=>
 aG x3 (
 bG a0.M x1 fun x4=>
 aI vB (fun x5=>[.box [vS a0.Name,sl aB a0.M]]) (gB x4.Name) fun x5=>
 aA vB (!x5) fun x6=>
 aG x6 (
 aY<|
 aH false) (
 aA vI ((x4.Value.length:Int)) fun x7=>
 aA vB (decide ((64:Int) < x7)) fun x8=>
 aG x8 (
 aY<|
 aH false) (
 aA vI (wI (x1 + (1:Int))) fun x9=>
 aU x9))) (
 aY<|
 aI vB (fun x10=>[.box [vS a0.Name,sl aB a0.M]]) (gB a0.Name) fun x10=>
 aG x10 (
 aA vI ((a0.M.length:Int)) fun x11=>
 aA vB (decide (x11≤(8:Int))) fun x12=>
 aH x12) (
 aH false))) (0:Int)
def oI (a0:Int):Option (Bool) :=
 aA vB (decide ((-9007199254740992:Int)≤a0)) fun x1=>
 aA vB (decide (a0≤(9007199254740992:Int))) fun x2=>
 aA vB (bif x1 then x2 else false) fun x3=>
 aH x3
def oH (a0:bF):Option (Bool) :=
 aI vB (fun x1=>[.box [vS a0.S.Name,sl aB a0.S.M,vI a0.Op,vI a0.V]]) (oB a0.S) fun x1=>
 aG x1 (
 aA vB (decide ((1:Int)≤a0.Op)) fun x2=>
 aG x2 (
 aA vB (decide (a0.Op≤(6:Int))) fun x3=>
 aG x3 (
 aI vB (fun x4=>[.box [vS a0.S.Name,sl aB a0.S.M,vI a0.Op,vI a0.V]]) (oI a0.V) fun x4=>
 aH x4) (
 aH false)) (
 aH false)) (
 aH false)
def lV (a0:Int):Option (Bool) :=
 aA vB (decide ((0:Int)≤a0)) fun x1=>
 aA vB (decide (a0≤(9007199254740992:Int))) fun x2=>
 aA vB (bif x1 then x2 else false) fun x3=>
 aH x3
def qU (a0:(List aJ)):Option (Bool) :=
 bK (fun (x1:Int)=>[(0,sl aD a0),(3,vI x1)]) (fun (x1:Int)=>[]) (fun (x1:Int)=>
 aA vI ((a0.length:Int)) fun x2=>
 aA vB (decide (x1 < x2)) fun x3=>
 aG x3 (
 fS<|
 bG a0 x1 fun x4=>
 aI vB (fun x5=>[]) (gB x4.Name) fun x5=>
 aA vB (!x5) fun x6=>
 aG x6 (
 aA vB (decide ((0:Int) < x1)) fun x7=>
 aA vI (wI (x1 - (1:Int))) fun x8=>
 aA vB (bif x7 then false else false) fun x9=>
 aY<|
 aH false) (
 aA vI ((x4.Value.length:Int)) fun x10=>
 aA vB (decide ((64:Int) < x10)) fun x11=>
 aA vB (decide ((0:Int) < x1)) fun x12=>
 aA vI (wI (x1 - (1:Int))) fun x13=>
 aG x11 (
 aA vB (bif x12 then false else false) fun x14=>
 aY<|
 aH false) (
 aG x12 (
 bG a0 x13 fun x15=>
 aA vB (!ltS x15.Name x4.Name) fun x16=>
 aA vB (bif true then x16 else false) fun x17=>
 aG x17 (
 aY<|
 aH false) (
 aA vI (wI (x1 + (1:Int))) fun x18=>
 aU x18)) (
 aA vB (bif false then false else false) fun x19=>
 aG x19 (
 aY<|
 aH false) (
 aA vI (wI (x1 + (1:Int))) fun x20=>
 aU x20))))) (
 aY<|
 aA vI ((a0.length:Int)) fun x21=>
 aA vB (decide (x21≤(16:Int))) fun x22=>
 aH x22)) (0:Int)
def n5 (a0:aZ):Option (Bool) :=
 aI vB (fun x1=>[.box [vS a0.Name,vS a0.E.S.Name,sl aB a0.E.S.M,vI a0.E.Op,vI a0.E.V,vI a0.For,vI a0.Keep,sl aD a0.Labels]]) (gB a0.Name) fun x1=>
 aG x1 (
 aI vB (fun x2=>[.box [vS a0.Name,vS a0.E.S.Name,sl aB a0.E.S.M,vI a0.E.Op,vI a0.E.V,vI a0.For,vI a0.Keep,sl aD a0.Labels]]) (oH a0.E) fun x2=>
 aG x2 (
 aI vB (fun x3=>[.box [vS a0.Name,vS a0.E.S.Name,sl aB a0.E.S.M,vI a0.E.Op,vI a0.E.V,vI a0.For,vI a0.Keep,sl aD a0.Labels]]) (lV a0.For) fun x3=>
 aG x3 (
 aI vB (fun x4=>[.box [vS a0.Name,vS a0.E.S.Name,sl aB a0.E.S.M,vI a0.E.Op,vI a0.E.V,vI a0.For,vI a0.Keep,sl aD a0.Labels]]) (lV a0.Keep) fun x4=>
 aG x4 (
 aI vB (fun x5=>[.box [vS a0.Name,vS a0.E.S.Name,sl aB a0.E.S.M,vI a0.E.Op,vI a0.E.V,vI a0.For,vI a0.Keep,sl aD a0.Labels]]) (qU a0.Labels) fun x5=>
 aG x5 (
 aI vB (fun x6=>[.box [vS a0.Name,vS a0.E.S.Name,sl aB a0.E.S.M,vI a0.E.Op,vI a0.E.V,vI a0.For,vI a0.Keep,sl aD a0.Labels]]) (nZ a0.Labels) fun x6=>
 aH x6) (
 aH false)) (
 aH false)) (
 aH false)) (
 aH false)) (
 aH false)
def gR (a0:Str):Option (Str) :=
 dT (so 0 (cK .u8)) (fun x1=>[tk x1.length 1 5]) ([(34:Int)]:(List Int)) fun x1=>
 bK (fun (x2:(List Int) × Int)=>[(0,vS a0),(3,so 0 (cK .u8) x2.1),(4,vI x2.2)]) (fun (x2:(List Int) × Int)=>[tk x2.1.length 1 5]) (fun (x2:(List Int) × Int)=>
 aA vI ((a0.length:Int)) fun x3=>
 aA vB (decide (x2.2 < x3)) fun x4=>
 aG x4 (
 bG a0 x2.2 fun x5=>
 aA vB (decide ((x5.toNat:Int)=(92:Int))) fun x6=>
 aG x6 (
 aA (sx (cK .u8)) ([(92:Int),(x5.toNat:Int)]:(List Int)) fun x7=>
 gdM ((x2.1.length + x7.length) * 1≤140737488355328)<|
 dT (so 0 (cK .u8)) (fun x8=>[tk x8.length 1 5]) (x2.1 ++ x7) fun x8=>
 aA vI (wI (x2.2 + (1:Int))) fun x9=>
 aU (x8,x9)) (
 aA vB (decide ((x5.toNat:Int)=(34:Int))) fun x10=>
 aG x10 (
 aA (sx (cK .u8)) ([(92:Int),(x5.toNat:Int)]:(List Int)) fun x11=>
 gdM ((x2.1.length + x11.length) * 1≤140737488355328)<|
 dT (so 0 (cK .u8)) (fun x12=>[tk x12.length 1 5]) (x2.1 ++ x11) fun x12=>
 aA vI (wI (x2.2 + (1:Int))) fun x13=>
 aU (x12,x13)) (
 aA vB (decide ((x5.toNat:Int)=(10:Int))) fun x14=>
 aG x14 (
 aA (sx (cK .u8)) ([(92:Int),(110:Int)]:(List Int)) fun x15=>
 gdM ((x2.1.length + x15.length) * 1≤140737488355328)<|
 dT (so 0 (cK .u8)) (fun x16=>[tk x16.length 1 5]) (x2.1 ++ x15) fun x16=>
 aA vI (wI (x2.2 + (1:Int))) fun x17=>
 aU (x16,x17)) (
 aA (sx (cK .u8)) ([(x5.toNat:Int)]:(List Int)) fun x18=>
 gdM ((x2.1.length + x18.length) * 1≤140737488355328)<|
 dT (so 0 (cK .u8)) (fun x19=>[tk x19.length 1 5]) (x2.1 ++ x18) fun x19=>
 aA vI (wI (x2.2 + (1:Int))) fun x20=>
 aU (x19,x20))))) (
 aY<|
 aA vS (fG x2.1) fun x21=>
 gdM (x21.length + ([34]:Str).length≤9223372036854775807)<|
 aA vS (x21 ++ ([34]:Str)) fun x22=>
 aH x22)) (x1,(0:Int))
def oY (a0:bM):Option (Str) :=
 aI vB (fun x1=>[.box [vS a0.Name,sl aB a0.M]]) (oB a0) fun x1=>
 aA vB (!x1) fun x2=>
 aG x2 (
 aH ([]:Str)) (
 bK (fun (x3:Str × Int)=>[(1,.ptr 0 0),(3,vS x3.1),(4,vI x3.2)]) (fun (x3:Str × Int)=>[.box [vS a0.Name,sl aB a0.M]]) (fun (x3:Str × Int)=>
 aA vI ((a0.M.length:Int)) fun x4=>
 aA vB (decide (x3.2 < x4)) fun x5=>
 aG x5 (
 aA vB (decide (x3.2=(0:Int))) fun x6=>
 aG x6 (
 gdM (x3.1.length + ([123]:Str).length≤9223372036854775807)<|
 aA vS (x3.1 ++ ([123]:Str)) fun x7=>
 bG a0.M x3.2 fun x8=>
 gdM (x7.length + x8.Name.length≤9223372036854775807)<|
 aA vS (x7 ++ x8.Name) fun x9=>
 aG x8.Not (
 gdM (x9.length + ([33]:Str).length≤9223372036854775807)<|
 aA vS (x9 ++ ([33]:Str)) fun x10=>
 gdM (x10.length + ([61]:Str).length≤9223372036854775807)<|
 aA vS (x10 ++ ([61]:Str)) fun x11=>
 aI vS (fun x12=>[.box [vS a0.Name,sl aB a0.M]]) (gR x8.Value) fun x12=>
 gdM (x11.length + x12.length≤9223372036854775807)<|
 aA vS (x11 ++ x12) fun x13=>
 aA vI (wI (x3.2 + (1:Int))) fun x14=>
 aU (x13,x14)) (
 gdM (x9.length + ([61]:Str).length≤9223372036854775807)<|
 aA vS (x9 ++ ([61]:Str)) fun x15=>
 aI vS (fun x16=>[.box [vS a0.Name,sl aB a0.M]]) (gR x8.Value) fun x16=>
 gdM (x15.length + x16.length≤9223372036854775807)<|
 aA vS (x15 ++ x16) fun x17=>
 aA vI (wI (x3.2 + (1:Int))) fun x18=>
 aU (x17,x18))) (
 gdM (x3.1.length + ([44]:Str).length≤9223372036854775807)<|
 aA vS (x3.1 ++ ([44]:Str)) fun x19=>
 bG a0.M x3.2 fun x20=>
 gdM (x19.length + x20.Name.length≤9223372036854775807)<|
 aA vS (x19 ++ x20.Name) fun x21=>
 aG x20.Not (
 gdM (x21.length + ([33]:Str).length≤9223372036854775807)<|
 aA vS (x21 ++ ([33]:Str)) fun x22=>
 gdM (x22.length + ([61]:Str).length≤9223372036854775807)<|
 aA vS (x22 ++ ([61]:Str)) fun x23=>
 aI vS (fun x24=>[.box [vS a0.Name,sl aB a0.M]]) (gR x20.Value) fun x24=>
 gdM (x23.length + x24.length≤9223372036854775807)<|
 aA vS (x23 ++ x24) fun x25=>
 aA vI (wI (x3.2 + (1:Int))) fun x26=>
 aU (x25,x26)) (
 gdM (x21.length + ([61]:Str).length≤9223372036854775807)<|
 aA vS (x21 ++ ([61]:Str)) fun x27=>
 aI vS (fun x28=>[.box [vS a0.Name,sl aB a0.M]]) (gR x20.Value) fun x28=>
 gdM (x27.length + x28.length≤9223372036854775807)<|
 aA vS (x27 ++ x28) fun x29=>
 aA vI (wI (x3.2 + (1:Int))) fun x30=>
 aU (x29,x30)))) (
 aY<|
 aA vI ((a0.M.length:Int)) fun x31=>
 aA vB (decide ((0:Int) < x31)) fun x32=>
 aG x32 (
 gdM (x3.1.length + ([125]:Str).length≤9223372036854775807)<|
 aA vS (x3.1 ++ ([125]:Str)) fun x33=>
 aH x33) (
 aH x3.1))) (a0.Name,(0:Int)))
def iK:Nat→Int→Option (Str)
 | 0,_=>none
 | nrec + 1,a0=>
 aA vB (decide (a0 < (10:Int))) fun x1=>
 aG x1 (
 aA vI (wI ((48:Int) + a0)) fun x2=>
 aA (vK .u8) (IntKind.u8.wrap x2) fun x3=>
 aA (sx (cK .u8)) ([x3]:(List Int)) fun x4=>
 aA vS (fG x4) fun x5=>
 aH x5) (
 fS<|
 aA vI (wI (Int.tdiv a0 (10:Int))) fun x6=>
 aI vS (fun x7=>[]) (iK nrec x6) fun x7=>
 aA vI (Int.tmod a0 (10:Int)) fun x8=>
 aA vI (wI ((48:Int) + x8)) fun x9=>
 aA (vK .u8) (IntKind.u8.wrap x9) fun x10=>
 aA (sx (cK .u8)) ([x10]:(List Int)) fun x11=>
 aA vS (fG x11) fun x12=>
 gdM (x7.length + x12.length≤9223372036854775807)<|
 aA vS (x7 ++ x12) fun x13=>
 aH x13)
 def ref01_Digits (a0:Int):Option (Str):=iK 64 a0
def gC:Nat→Int→Option (Str)
 | 0,_=>none
 | nrec + 1,a0=>
 aI vB (fun x1=>[]) (oI a0) fun x1=>
 aA vB (!x1) fun x2=>
 aG x2 (
 aH ([]:Str)) (
 aA vB (decide (a0 < (0:Int))) fun x3=>
 aG x3 (
 aA vI (wI (0 - a0)) fun x4=>
 aI vS (fun x5=>[]) (gC nrec x4) fun x5=>
 gdM (([45]:Str).length + x5.length≤9223372036854775807)<|
 aA vS (([45]:Str) ++ x5) fun x6=>
 aH x6) (
 aA vI (wI (Int.tdiv a0 (1000:Int))) fun x7=>
 aI vS (fun x8=>[]) (ref01_Digits x7) fun x8=>
 aA vI (Int.tmod a0 (1000:Int)) fun x9=>
 aA vB (decide (x9=(0:Int))) fun x10=>
 aG x10 (
 aH x8) (
 gdM (x8.length + ([46]:Str).length≤9223372036854775807)<|
 aA vS (x8 ++ ([46]:Str)) fun x11=>
 aA vI (wI (Int.tdiv x9 (100:Int))) fun x12=>
 aI vS (fun x13=>[]) (ref01_Digits x12) fun x13=>
 gdM (x11.length + x13.length≤9223372036854775807)<|
 aA vS (x11 ++ x13) fun x14=>
 aA vI (Int.tmod x9 (100:Int)) fun x15=>
 aA vB (!decide (x15=(0:Int))) fun x16=>
 aG x16 (
 aA vI (wI (Int.tdiv x9 (10:Int))) fun x17=>
 aA vI (Int.tmod x17 (10:Int)) fun x18=>
 aI vS (fun x19=>[]) (ref01_Digits x18) fun x19=>
 gdM (x14.length + x19.length≤9223372036854775807)<|
 aA vS (x14 ++ x19) fun x20=>
 aA vI (Int.tmod x9 (10:Int)) fun x21=>
 aA vB (!decide (x21=(0:Int))) fun x22=>
 aG x22 (
 aA vI (Int.tmod x9 (10:Int)) fun x23=>
 aI vS (fun x24=>[]) (ref01_Digits x23) fun x24=>
 gdM (x20.length + x24.length≤9223372036854775807)<|
 aA vS (x20 ++ x24) fun x25=>
 aH x25) (
 aH x20)) (
 aA vI (Int.tmod x9 (10:Int)) fun x26=>
 aA vB (!decide (x26=(0:Int))) fun x27=>
 aG x27 (
 aA vI (Int.tmod x9 (10:Int)) fun x28=>
 aI vS (fun x29=>[]) (ref01_Digits x28) fun x29=>
 gdM (x14.length + x29.length≤9223372036854775807)<|
 aA vS (x14 ++ x29) fun x30=>
 aH x30) (
 aH x14)))))
 def ref01_Print (a0:Int):Option (Str):=gC 64 a0
def oW (a0:bF):Option (Str) :=
 aI vB (fun x1=>[.box [vS a0.S.Name,sl aB a0.S.M,vI a0.Op,vI a0.V]]) (oH a0) fun x1=>
 aA vB (!x1) fun x2=>
 aG x2 (
 aH ([]:Str)) (
 fS<|
 aI vS (fun x3=>[.box [vS a0.S.Name,sl aB a0.S.M,vI a0.Op,vI a0.V]]) (oY a0.S) fun x3=>
 gdM (x3.length + ([32]:Str).length≤9223372036854775807)<|
 aA vS (x3 ++ ([32]:Str)) fun x4=>
 aI (sl cS) (fun x5=>[.box [vS a0.S.Name,sl aB a0.S.M,vI a0.Op,vI a0.V]]) (mT) fun x5=>
 aA vI (wI (a0.Op - (1:Int))) fun x6=>
 bG x5 x6 fun x7=>
 gdM (x4.length + x7.length≤9223372036854775807)<|
 aA vS (x4 ++ x7) fun x8=>
 gdM (x8.length + ([32]:Str).length≤9223372036854775807)<|
 aA vS (x8 ++ ([32]:Str)) fun x9=>
 aI vS (fun x10=>[.box [vS a0.S.Name,sl aB a0.S.M,vI a0.Op,vI a0.V]]) (ref01_Print a0.V) fun x10=>
 gdM (x9.length + x10.length≤9223372036854775807)<|
 aA vS (x9 ++ x10) fun x11=>
 aH x11)
def lE (a0:Int):Option (Str) :=
 aI vB (fun x1=>[]) (lV a0) fun x1=>
 aA vB (!x1) fun x2=>
 aG x2 (
 aH ([]:Str)) (
 aA vB (decide (a0=(0:Int))) fun x3=>
 aG x3 (
 aH ([48,115]:Str)) (
 aI (sl f0) (fun x4=>[]) (mY) fun x4=>
 bK (fun (x5:Int × Str × Int)=>[(0,vI x5.1),(3,vS x5.2.1),(4,sl f0 x4),(5,vI x5.2.2)]) (fun (x5:Int × Str × Int)=>[]) (fun (x5:Int × Str × Int)=>
 aA vI ((x4.length:Int)) fun x6=>
 aA vB (decide (x5.2.2 < x6)) fun x7=>
 aG x7 (
 bG x4 x5.2.2 fun x8=>
 aA vB (decide (x8.Size≤x5.1)) fun x9=>
 aG x9 (
 fS<|
 gdM (x8.Size ≠ 0)<|
 aA vI (wI (Int.tdiv x5.1 x8.Size)) fun x10=>
 aI vS (fun x11=>[]) (ref01_Digits x10) fun x11=>
 gdM (x5.2.1.length + x11.length≤9223372036854775807)<|
 aA vS (x5.2.1 ++ x11) fun x12=>
 gdM (x12.length + x8.Name.length≤9223372036854775807)<|
 aA vS (x12 ++ x8.Name) fun x13=>
 gdM (x8.Size ≠ 0)<|
 aA vI (Int.tmod x5.1 x8.Size) fun x14=>
 aA vI (wI (x5.2.2 + (1:Int))) fun x15=>
 aU (x14,x13,x15)) (
 gdM (x8.Size ≠ 0)<|
 aA vI (Int.tmod x5.1 x8.Size) fun x16=>
 aA vI (wI (x5.2.2 + (1:Int))) fun x17=>
 aU (x16,x5.2.1,x17))) (
 aY<|
 aH x5.2.1)) (a0,([]:Str),(0:Int))))
def oT (a0:aZ):Option (Str) :=
 aI vB (fun x1=>[.box [vS a0.Name,vS a0.E.S.Name,sl aB a0.E.S.M,vI a0.E.Op,vI a0.E.V,vI a0.For,vI a0.Keep,sl aD a0.Labels]]) (n5 a0) fun x1=>
 aA vB (!x1) fun x2=>
 aG x2 (
 aH ([]:Str)) (
 fS<|
 gdM (([114,117,108,101,32]:Str).length + a0.Name.length≤9223372036854775807)<|
 aA vS (([114,117,108,101,32]:Str) ++ a0.Name) fun x3=>
 gdM (x3.length + ([58,32]:Str).length≤9223372036854775807)<|
 aA vS (x3 ++ ([58,32]:Str)) fun x4=>
 aI vS (fun x5=>[.box [vS a0.Name,vS a0.E.S.Name,sl aB a0.E.S.M,vI a0.E.Op,vI a0.E.V,vI a0.For,vI a0.Keep,sl aD a0.Labels]]) (oW a0.E) fun x5=>
 gdM (x4.length + x5.length≤9223372036854775807)<|
 aA vS (x4 ++ x5) fun x6=>
 pS (fun (x7:Str)=>[(1,.ptr 0 0),(3,vS x7)]) (fun (x7:Str)=>[.box [vS a0.Name,vS a0.E.S.Name,sl aB a0.E.S.M,vI a0.E.Op,vI a0.E.V,vI a0.For,vI a0.Keep,sl aD a0.Labels]]) (fun (x7:Str)=>
 pS (fun (x12:Str)=>[(1,.ptr 0 0),(3,vS x12)]) (fun (x12:Str)=>[.box [vS a0.Name,vS a0.E.S.Name,sl aB a0.E.S.M,vI a0.E.Op,vI a0.E.V,vI a0.For,vI a0.Keep,sl aD a0.Labels]]) (fun (x12:Str)=>
 bK (fun (x17:Str × Int)=>[(1,.ptr 0 0),(3,vS x17.1),(4,vI x17.2)]) (fun (x17:Str × Int)=>[.box [vS a0.Name,vS a0.E.S.Name,sl aB a0.E.S.M,vI a0.E.Op,vI a0.E.V,vI a0.For,vI a0.Keep,sl aD a0.Labels]]) (fun (x17:Str × Int)=>
 aA vI ((a0.Labels.length:Int)) fun x18=>
 aA vB (decide (x17.2 < x18)) fun x19=>
 aG x19 (
 aA vB (decide (x17.2=(0:Int))) fun x20=>
 aG x20 (
 gdM (x17.1.length + ([32,108,97,98,101,108,115,32,123]:Str).length≤9223372036854775807)<|
 aA vS (x17.1 ++ ([32,108,97,98,101,108,115,32,123]:Str)) fun x21=>
 fS<|
 bG a0.Labels x17.2 fun x22=>
 gdM (x21.length + x22.Name.length≤9223372036854775807)<|
 aA vS (x21 ++ x22.Name) fun x23=>
 gdM (x23.length + ([61]:Str).length≤9223372036854775807)<|
 aA vS (x23 ++ ([61]:Str)) fun x24=>
 aI vS (fun x25=>[.box [vS a0.Name,vS a0.E.S.Name,sl aB a0.E.S.M,vI a0.E.Op,vI a0.E.V,vI a0.For,vI a0.Keep,sl aD a0.Labels]]) (gR x22.Value) fun x25=>
 gdM (x24.length + x25.length≤9223372036854775807)<|
 aA vS (x24 ++ x25) fun x26=>
 aA vI (wI (x17.2 + (1:Int))) fun x27=>
 aU (x26,x27)) (
 gdM (x17.1.length + ([44]:Str).length≤9223372036854775807)<|
 aA vS (x17.1 ++ ([44]:Str)) fun x28=>
 fS<|
 bG a0.Labels x17.2 fun x29=>
 gdM (x28.length + x29.Name.length≤9223372036854775807)<|
 aA vS (x28 ++ x29.Name) fun x30=>
 gdM (x30.length + ([61]:Str).length≤9223372036854775807)<|
 aA vS (x30 ++ ([61]:Str)) fun x31=>
 aI vS (fun x32=>[.box [vS a0.Name,vS a0.E.S.Name,sl aB a0.E.S.M,vI a0.E.Op,vI a0.E.V,vI a0.For,vI a0.Keep,sl aD a0.Labels]]) (gR x29.Value) fun x32=>
 gdM (x31.length + x32.length≤9223372036854775807)<|
 aA vS (x31 ++ x32) fun x33=>
 aA vI (wI (x17.2 + (1:Int))) fun x34=>
 aU (x33,x34))) (
 aY<|
 aA vI ((a0.Labels.length:Int)) fun x35=>
 aA vB (decide ((0:Int) < x35)) fun x36=>
 aG x36 (
 gdM (x17.1.length + ([125]:Str).length≤9223372036854775807)<|
 aA vS (x17.1 ++ ([125]:Str)) fun x37=>
 gdM (x37.length + ([59]:Str).length≤9223372036854775807)<|
 aA vS (x37 ++ ([59]:Str)) fun x38=>
 aH x38) (
 gdM (x17.1.length + ([59]:Str).length≤9223372036854775807)<|
 aA vS (x17.1 ++ ([59]:Str)) fun x39=>
 aH x39))) (x12,(0:Int)))<|
 aA vB (decide ((0:Int) < a0.Keep)) fun x13=>
 aG x13 (
 gdM (x7.length + ([32,107,101,101,112,32]:Str).length≤9223372036854775807)<|
 aA vS (x7 ++ ([32,107,101,101,112,32]:Str)) fun x14=>
 aI vS (fun x15=>[.box [vS a0.Name,vS a0.E.S.Name,sl aB a0.E.S.M,vI a0.E.Op,vI a0.E.V,vI a0.For,vI a0.Keep,sl aD a0.Labels]]) (lE a0.Keep) fun x15=>
 gdM (x14.length + x15.length≤9223372036854775807)<|
 aA vS (x14 ++ x15) fun x16=>
 aU x16) (
 aU x7))<|
 aA vB (decide ((0:Int) < a0.For)) fun x8=>
 aG x8 (
 gdM (x6.length + ([32,102,111,114,32]:Str).length≤9223372036854775807)<|
 aA vS (x6 ++ ([32,102,111,114,32]:Str)) fun x9=>
 aI vS (fun x10=>[.box [vS a0.Name,vS a0.E.S.Name,sl aB a0.E.S.M,vI a0.E.Op,vI a0.E.V,vI a0.For,vI a0.Keep,sl aD a0.Labels]]) (lE a0.For) fun x10=>
 gdM (x9.length + x10.length≤9223372036854775807)<|
 aA vS (x9 ++ x10) fun x11=>
 aU x11) (
 aU x6))
def qR (a0:bM) (a1:bM):Option (Bool) :=
 aA vB (!decide (a0.Name=a1.Name)) fun x1=>
 aG x1 (
 aH false) (
 aA vI ((a0.M.length:Int)) fun x2=>
 aA vI ((a1.M.length:Int)) fun x3=>
 aA vB (!decide (x2=x3)) fun x4=>
 aG x4 (
 aH false) (
 bK (fun (x5:Int)=>[(2,.ptr 0 0),(3,.ptr 1 0),(5,vI x5)]) (fun (x5:Int)=>[.box [vS a0.Name,sl aB a0.M],.box [vS a1.Name,sl aB a1.M]]) (fun (x5:Int)=>
 aA vI ((a0.M.length:Int)) fun x6=>
 aA vB (decide (x5 < x6)) fun x7=>
 aG x7 (
 bG a0.M x5 fun x8=>
 bG a1.M x5 fun x9=>
 aA vB (!(decide (x8.Name=x9.Name) && (decide (x8.Value=x9.Value) && ((x8.Not == x9.Not) && true)))) fun x10=>
 aG x10 (
 aY<|
 aH false) (
 aA vI (wI (x5 + (1:Int))) fun x11=>
 aU x11)) (
 aY<|
 aH true)) (0:Int)))
def uJ (a0:bF) (a1:bF):Option (Bool) :=
 aI vB (fun x1=>[.box [vS a0.S.Name,sl aB a0.S.M,vI a0.Op,vI a0.V],.box [vS a1.S.Name,sl aB a1.S.M,vI a1.Op,vI a1.V]]) (qR a0.S a1.S) fun x1=>
 aG x1 (
 aA vB (decide (a0.Op=a1.Op)) fun x2=>
 aG x2 (
 aA vB (decide (a0.V=a1.V)) fun x3=>
 aH x3) (
 aH false)) (
 aH false)
def qV (a0:(List aJ)) (a1:(List aJ)):Option (Bool) :=
 aA vI ((a0.length:Int)) fun x1=>
 aA vI ((a1.length:Int)) fun x2=>
 aA vB (!decide (x1=x2)) fun x3=>
 aG x3 (
 aH false) (
 bK (fun (x4:Int)=>[(0,sl aD a0),(1,sl aD a1),(5,vI x4)]) (fun (x4:Int)=>[]) (fun (x4:Int)=>
 aA vI ((a0.length:Int)) fun x5=>
 aA vB (decide (x4 < x5)) fun x6=>
 aG x6 (
 bG a0 x4 fun x7=>
 bG a1 x4 fun x8=>
 aA vB (!(decide (x7.Name=x8.Name) && (decide (x7.Value=x8.Value) && true))) fun x9=>
 aG x9 (
 aY<|
 aH false) (
 aA vI (wI (x4 + (1:Int))) fun x10=>
 aU x10)) (
 aY<|
 aH true)) (0:Int))
def iM (a0:aZ) (a1:aZ):Option (Bool) :=
 aA vB (decide (a0.Name=a1.Name)) fun x1=>
 aG x1 (
 aI vB (fun x2=>[.box [vS a0.Name,vS a0.E.S.Name,sl aB a0.E.S.M,vI a0.E.Op,vI a0.E.V,vI a0.For,vI a0.Keep,sl aD a0.Labels],.box [vS a1.Name,vS a1.E.S.Name,sl aB a1.E.S.M,vI a1.E.Op,vI a1.E.V,vI a1.For,vI a1.Keep,sl aD a1.Labels]]) (uJ a0.E a1.E) fun x2=>
 aG x2 (
 aA vB (decide (a0.For=a1.For)) fun x3=>
 aG x3 (
 aA vB (decide (a0.Keep=a1.Keep)) fun x4=>
 aG x4 (
 aI vB (fun x5=>[.box [vS a0.Name,vS a0.E.S.Name,sl aB a0.E.S.M,vI a0.E.Op,vI a0.E.V,vI a0.For,vI a0.Keep,sl aD a0.Labels],.box [vS a1.Name,vS a1.E.S.Name,sl aB a1.E.S.M,vI a1.E.Op,vI a1.E.V,vI a1.For,vI a1.Keep,sl aD a1.Labels]]) (qV a0.Labels a1.Labels) fun x5=>
 aH x5) (
 aH false)) (
 aH false)) (
 aH false)) (
 aH false)
def law10_RuleIs (a0:aZ) (a1:(List aK)) (a2:Int) (a3:Str):Option (Bool) :=
 aI vB (fun x1=>[.box [vS a0.Name,vS a0.E.S.Name,sl aB a0.E.S.M,vI a0.E.Op,vI a0.E.V,vI a0.For,vI a0.Keep,sl aD a0.Labels]]) (law10_awake) fun x1=>
 aI vB (fun x2=>[.box [vS a0.Name,vS a0.E.S.Name,sl aB a0.E.S.M,vI a0.E.Op,vI a0.E.V,vI a0.For,vI a0.Keep,sl aD a0.Labels]]) (kV a0) fun x2=>
 aA vB (!x2) fun x3=>
 aG x3 (
 aA vI ((a3.length:Int)) fun x4=>
 aA vB (decide ((1000:Int) < x4)) fun x5=>
 aH x1) (
 aI vB (fun x6=>[.box [vS a0.Name,vS a0.E.S.Name,sl aB a0.E.S.M,vI a0.E.Op,vI a0.E.V,vI a0.For,vI a0.Keep,sl aD a0.Labels]]) (kY a1) fun x6=>
 aA vB (!x6) fun x7=>
 aA vI ((a3.length:Int)) fun x8=>
 aA vB (decide ((1000:Int) < x8)) fun x9=>
 aA vB (bif x7 then true else x9) fun x10=>
 aG x10 (
 aH x1) (
 aI (fun x11=>.tup [(ag d9) x11.1,vI x11.2.1,vI x11.2.2]) (fun x11=>[.box [vS a0.Name,vS a0.E.S.Name,sl aB a0.E.S.M,vI a0.E.Op,vI a0.E.V,vI a0.For,vI a0.Keep,sl aD a0.Labels]]) (dW a1 a2) fun x11=>
 aI (fun x12=>.tup [(ag d9) x12.1,vI x12.2.1,vI x12.2.2]) (fun x12=>[.box [vS a0.Name,vS a0.E.S.Name,sl aB a0.E.S.M,vI a0.E.Op,vI a0.E.V,vI a0.For,vI a0.Keep,sl aD a0.Labels],.box [vS x11.1.Name,vS x11.1.E.S.Name,sl aB x11.1.E.S.M,vI x11.1.E.Op,vI x11.1.E.V,vI x11.1.For,vI x11.1.Keep,sl aD x11.1.Labels]]) (jL a1 a2) fun x12=>
 fS<|
 aG x1 (
 aI vB (fun x13=>[.box [vS a0.Name,vS a0.E.S.Name,sl aB a0.E.S.M,vI a0.E.Op,vI a0.E.V,vI a0.For,vI a0.Keep,sl aD a0.Labels],.box [vS x11.1.Name,vS x11.1.E.S.Name,sl aB x11.1.E.S.M,vI x11.1.E.Op,vI x11.1.E.V,vI x11.1.For,vI x11.1.Keep,sl aD x11.1.Labels],.box [vS x12.1.Name,vS x12.1.E.S.Name,sl aB x12.1.E.S.M,vI x12.1.E.Op,vI x12.1.E.V,vI x12.1.For,vI x12.1.Keep,sl aD x12.1.Labels]]) (eM a0) fun x13=>
 aI vB (fun x14=>[.box [vS a0.Name,vS a0.E.S.Name,sl aB a0.E.S.M,vI a0.E.Op,vI a0.E.V,vI a0.For,vI a0.Keep,sl aD a0.Labels],.box [vS x11.1.Name,vS x11.1.E.S.Name,sl aB x11.1.E.S.M,vI x11.1.E.Op,vI x11.1.E.V,vI x11.1.For,vI x11.1.Keep,sl aD x11.1.Labels],.box [vS x12.1.Name,vS x12.1.E.S.Name,sl aB x12.1.E.S.M,vI x12.1.E.Op,vI x12.1.E.V,vI x12.1.For,vI x12.1.Keep,sl aD x12.1.Labels]]) (n5 a0) fun x14=>
 aA vB (x13 == x14) fun x15=>
 aG x15 (
 aI vB (fun x16=>[.box [vS a0.Name,vS a0.E.S.Name,sl aB a0.E.S.M,vI a0.E.Op,vI a0.E.V,vI a0.For,vI a0.Keep,sl aD a0.Labels],.box [vS x11.1.Name,vS x11.1.E.S.Name,sl aB x11.1.E.S.M,vI x11.1.E.Op,vI x11.1.E.V,vI x11.1.For,vI x11.1.Keep,sl aD x11.1.Labels],.box [vS x12.1.Name,vS x12.1.E.S.Name,sl aB x12.1.E.S.M,vI x12.1.E.Op,vI x12.1.E.V,vI x12.1.For,vI x12.1.Keep,sl aD x12.1.Labels]]) (eZ a3) fun x16=>
 aI vB (fun x17=>[.box [vS a0.Name,vS a0.E.S.Name,sl aB a0.E.S.M,vI a0.E.Op,vI a0.E.V,vI a0.For,vI a0.Keep,sl aD a0.Labels],.box [vS x11.1.Name,vS x11.1.E.S.Name,sl aB x11.1.E.S.M,vI x11.1.E.Op,vI x11.1.E.V,vI x11.1.For,vI x11.1.Keep,sl aD x11.1.Labels],.box [vS x12.1.Name,vS x12.1.E.S.Name,sl aB x12.1.E.S.M,vI x12.1.E.Op,vI x12.1.E.V,vI x12.1.For,vI x12.1.Keep,sl aD x12.1.Labels]]) (jQ a3) fun x17=>
 aA vB (x16 == x17) fun x18=>
 aG x18 (
 aI vS (fun x19=>[.box [vS a0.Name,vS a0.E.S.Name,sl aB a0.E.S.M,vI a0.E.Op,vI a0.E.V,vI a0.For,vI a0.Keep,sl aD a0.Labels],.box [vS x11.1.Name,vS x11.1.E.S.Name,sl aB x11.1.E.S.M,vI x11.1.E.Op,vI x11.1.E.V,vI x11.1.For,vI x11.1.Keep,sl aD x11.1.Labels],.box [vS x12.1.Name,vS x12.1.E.S.Name,sl aB x12.1.E.S.M,vI x12.1.E.Op,vI x12.1.E.V,vI x12.1.For,vI x12.1.Keep,sl aD x12.1.Labels]]) (dQ a0) fun x19=>
 aI vS (fun x20=>[.box [vS a0.Name,vS a0.E.S.Name,sl aB a0.E.S.M,vI a0.E.Op,vI a0.E.V,vI a0.For,vI a0.Keep,sl aD a0.Labels],.box [vS x11.1.Name,vS x11.1.E.S.Name,sl aB x11.1.E.S.M,vI x11.1.E.Op,vI x11.1.E.V,vI x11.1.For,vI x11.1.Keep,sl aD x11.1.Labels],.box [vS x12.1.Name,vS x12.1.E.S.Name,sl aB x12.1.E.S.M,vI x12.1.E.Op,vI x12.1.E.V,vI x12.1.For,vI x12.1.Keep,sl aD x12.1.Labels]]) (oT a0) fun x20=>
 aA vB (decide (x19=x20)) fun x21=>
 aG x21 (
 aI vB (fun x22=>[.box [vS a0.Name,vS a0.E.S.Name,sl aB a0.E.S.M,vI a0.E.Op,vI a0.E.V,vI a0.For,vI a0.Keep,sl aD a0.Labels],.box [vS x11.1.Name,vS x11.1.E.S.Name,sl aB x11.1.E.S.M,vI x11.1.E.Op,vI x11.1.E.V,vI x11.1.For,vI x11.1.Keep,sl aD x11.1.Labels],.box [vS x12.1.Name,vS x12.1.E.S.Name,sl aB x12.1.E.S.M,vI x12.1.E.Op,vI x12.1.E.V,vI x12.1.For,vI x12.1.Keep,sl aD x12.1.Labels]]) (iM x11.1 x12.1) fun x22=>
 aA vB (decide (x11.2.1=x12.2.1)) fun x23=>
 aA vB (bif x22 then x23 else false) fun x24=>
 aA vB (decide (x11.2.2=x12.2.2)) fun x25=>
 aA vB (bif x24 then x25 else false) fun x26=>
 aH x26) (
 aA vB (decide (x11.2.1=x12.2.1)) fun x27=>
 aA vB (decide (x11.2.2=x12.2.2)) fun x28=>
 aH false)) (
 aA vB (decide (x11.2.1=x12.2.1)) fun x29=>
 aA vB (decide (x11.2.2=x12.2.2)) fun x30=>
 aH false)) (
 aA vB (decide (x11.2.1=x12.2.1)) fun x31=>
 aA vB (decide (x11.2.2=x12.2.2)) fun x32=>
 aH false)) (
 aA vB (decide (x11.2.1=x12.2.1)) fun x33=>
 aA vB (decide (x11.2.2=x12.2.2)) fun x34=>
 aH false)))
def law10_RuleBack (a0:aZ) (a1:(List aK)):Option (Bool) :=
 aI vB (fun x1=>[.box [vS a0.Name,vS a0.E.S.Name,sl aB a0.E.S.M,vI a0.E.Op,vI a0.E.V,vI a0.For,vI a0.Keep,sl aD a0.Labels]]) (law10_awake) fun x1=>
 aI vB (fun x2=>[.box [vS a0.Name,vS a0.E.S.Name,sl aB a0.E.S.M,vI a0.E.Op,vI a0.E.V,vI a0.For,vI a0.Keep,sl aD a0.Labels]]) (kV a0) fun x2=>
 aA vB (!x2) fun x3=>
 aG x3 (
 aH x1) (
 aI vB (fun x4=>[.box [vS a0.Name,vS a0.E.S.Name,sl aB a0.E.S.M,vI a0.E.Op,vI a0.E.V,vI a0.For,vI a0.Keep,sl aD a0.Labels]]) (kY a1) fun x4=>
 aA vB (!x4) fun x5=>
 aG x5 (
 aH x1) (
 aI vS (fun x6=>[.box [vS a0.Name,vS a0.E.S.Name,sl aB a0.E.S.M,vI a0.E.Op,vI a0.E.V,vI a0.For,vI a0.Keep,sl aD a0.Labels]]) (dQ a0) fun x6=>
 aI (fun x7=>.tup [so 1 aF x7.1,vI x7.2.1,vI x7.2.2]) (fun x7=>[.box [vS a0.Name,vS a0.E.S.Name,sl aB a0.E.S.M,vI a0.E.Op,vI a0.E.V,vI a0.For,vI a0.Keep,sl aD a0.Labels],tk x7.1.length 3 53]) (lK x6) fun x7=>
 aI vB (fun x8=>[.box [vS a0.Name,vS a0.E.S.Name,sl aB a0.E.S.M,vI a0.E.Op,vI a0.E.V,vI a0.For,vI a0.Keep,sl aD a0.Labels],tk x7.1.length 3 53]) (eM a0) fun x8=>
 aA vB (!x8) fun x9=>
 aG x9 (
 aA vB (decide (x6=([]:Str))) fun x10=>
 aA vB (bif x1 then x10 else false) fun x11=>
 aH x11) (
 L4<|
 gdM ((([]:(List aK)).length + a1.length) * 32≤140737488355328)<|
 dT (so 2 aF) (fun x12=>[.box [vS a0.Name,vS a0.E.S.Name,sl aB a0.E.S.M,vI a0.E.Op,vI a0.E.V,vI a0.For,vI a0.Keep,sl aD a0.Labels],tk x7.1.length 3 53,tk x12.length 3 53]) (([]:(List aK)) ++ a1) fun x12=>
 gdM ((x12.length + x7.1.length) * 32≤140737488355328)<|
 dT (so 2 aF) (fun x13=>[.box [vS a0.Name,vS a0.E.S.Name,sl aB a0.E.S.M,vI a0.E.Op,vI a0.E.V,vI a0.For,vI a0.Keep,sl aD a0.Labels],tk x7.1.length 3 53,tk x13.length 3 53]) (x12 ++ x7.1) fun x13=>
 aI (fun x14=>.tup [(ag d9) x14.1,vI x14.2.1,vI x14.2.2]) (fun x14=>[.box [vS a0.Name,vS a0.E.S.Name,sl aB a0.E.S.M,vI a0.E.Op,vI a0.E.V,vI a0.For,vI a0.Keep,sl aD a0.Labels],.tok x7.1.length 3 53 false,tk x13.length 3 53]) (dW x7.1 (0:Int)) fun x14=>
 aA vI ((a1.length:Int)) fun x15=>
 aI (fun x16=>.tup [(ag d9) x16.1,vI x16.2.1,vI x16.2.2]) (fun x16=>[.box [vS a0.Name,vS a0.E.S.Name,sl aB a0.E.S.M,vI a0.E.Op,vI a0.E.V,vI a0.For,vI a0.Keep,sl aD a0.Labels],.tok x7.1.length 3 53 false,.tok x13.length 3 53 false,.box [vS x14.1.Name,vS x14.1.E.S.Name,sl aB x14.1.E.S.M,vI x14.1.E.Op,vI x14.1.E.V,vI x14.1.For,vI x14.1.Keep,sl aD x14.1.Labels]]) (dW x13 x15) fun x16=>
 aA vI ((x7.1.length:Int)) fun x17=>
 aA vI (wI (x17 - (1:Int))) fun x18=>
 aA vI (max (0:Int) x18) fun x19=>
 gdM (0≤(0:Int)∧(0:Int)≤x19∧x19≤(x7.1.length:Int))<|
 aA (so 1 aF) ((x7.1.take x19.toNat).drop (0:Int).toNat) fun x20=>
 aI (fun x21=>.tup [(ag d9) x21.1,vI x21.2.1,vI x21.2.2]) (fun x21=>[.box [vS a0.Name,vS a0.E.S.Name,sl aB a0.E.S.M,vI a0.E.Op,vI a0.E.V,vI a0.For,vI a0.Keep,sl aD a0.Labels],.tok x7.1.length 3 53 false,.tok x13.length 3 53 false,.box [vS x14.1.Name,vS x14.1.E.S.Name,sl aB x14.1.E.S.M,vI x14.1.E.Op,vI x14.1.E.V,vI x14.1.For,vI x14.1.Keep,sl aD x14.1.Labels],.box [vS x16.1.Name,vS x16.1.E.S.Name,sl aB x16.1.E.S.M,vI x16.1.E.Op,vI x16.1.E.V,vI x16.1.For,vI x16.1.Keep,sl aD x16.1.Labels]]) (dW x20 (0:Int)) fun x21=>
 aA vB (decide (x7.2.2=(0:Int))) fun x22=>
 aA vB (bif x1 then x22 else false) fun x23=>
 aA vB (decide (x14.2.2=(0:Int))) fun x24=>
 aA vB (bif x23 then x24 else false) fun x25=>
 aA vI ((x7.1.length:Int)) fun x26=>
 aA vB (decide (x14.2.1=x26)) fun x27=>
 aA vB (bif x25 then x27 else false) fun x28=>
 aG x28 (
 aI vB (fun x29=>[.box [vS a0.Name,vS a0.E.S.Name,sl aB a0.E.S.M,vI a0.E.Op,vI a0.E.V,vI a0.For,vI a0.Keep,sl aD a0.Labels],.tok x7.1.length 3 53 false,.tok x13.length 3 53 false,.box [vS x14.1.Name,vS x14.1.E.S.Name,sl aB x14.1.E.S.M,vI x14.1.E.Op,vI x14.1.E.V,vI x14.1.For,vI x14.1.Keep,sl aD x14.1.Labels],.box [vS x16.1.Name,vS x16.1.E.S.Name,sl aB x16.1.E.S.M,vI x16.1.E.Op,vI x16.1.E.V,vI x16.1.For,vI x16.1.Keep,sl aD x16.1.Labels],.box [vS x21.1.Name,vS x21.1.E.S.Name,sl aB x21.1.E.S.M,vI x21.1.E.Op,vI x21.1.E.V,vI x21.1.For,vI x21.1.Keep,sl aD x21.1.Labels]]) (iM x14.1 a0) fun x29=>
 aA vB (decide (x16.2.2=(0:Int))) fun x30=>
 aA vB (bif x29 then x30 else false) fun x31=>
 aA vI ((x13.length:Int)) fun x32=>
 aA vB (decide (x16.2.1=x32)) fun x33=>
 aA vB (bif x31 then x33 else false) fun x34=>
 aG x34 (
 aI vB (fun x35=>[.box [vS a0.Name,vS a0.E.S.Name,sl aB a0.E.S.M,vI a0.E.Op,vI a0.E.V,vI a0.For,vI a0.Keep,sl aD a0.Labels],.tok x7.1.length 3 53 false,.tok x13.length 3 53 false,.box [vS x14.1.Name,vS x14.1.E.S.Name,sl aB x14.1.E.S.M,vI x14.1.E.Op,vI x14.1.E.V,vI x14.1.For,vI x14.1.Keep,sl aD x14.1.Labels],.box [vS x16.1.Name,vS x16.1.E.S.Name,sl aB x16.1.E.S.M,vI x16.1.E.Op,vI x16.1.E.V,vI x16.1.For,vI x16.1.Keep,sl aD x16.1.Labels],.box [vS x21.1.Name,vS x21.1.E.S.Name,sl aB x21.1.E.S.M,vI x21.1.E.Op,vI x21.1.E.V,vI x21.1.For,vI x21.1.Keep,sl aD x21.1.Labels]]) (iM x16.1 a0) fun x35=>
 aA vB (decide (x21.2.2=(3:Int))) fun x36=>
 aA vB (bif x35 then x36 else false) fun x37=>
 aA vI ((x7.1.length:Int)) fun x38=>
 aA vI (wI (x38 - (1:Int))) fun x39=>
 aA vB (decide (x21.2.1=x39)) fun x40=>
 aA vB (bif x37 then x40 else false) fun x41=>
 aH x41) (
 aA vB (decide (x21.2.2=(3:Int))) fun x42=>
 aA vI ((x7.1.length:Int)) fun x43=>
 aA vI (wI (x43 - (1:Int))) fun x44=>
 aA vB (decide (x21.2.1=x44)) fun x45=>
 aH false)) (
 aA vB (decide (x16.2.2=(0:Int))) fun x46=>
 aA vI ((x13.length:Int)) fun x47=>
 aA vB (decide (x16.2.1=x47)) fun x48=>
 aA vB (decide (x21.2.2=(3:Int))) fun x49=>
 aA vI ((x7.1.length:Int)) fun x50=>
 aA vI (wI (x50 - (1:Int))) fun x51=>
 aA vB (decide (x21.2.1=x51)) fun x52=>
 aH false))))
def law10_RuleParsed (a0:(List aK)) (a1:Int):Option (Bool) :=
 aI vB (fun x1=>[]) (law10_awake) fun x1=>
 aI vB (fun x2=>[]) (kY a0) fun x2=>
 aA vB (!x2) fun x3=>
 aA vB (decide (a1 < (0:Int))) fun x4=>
 aA vB (bif x3 then true else x4) fun x5=>
 aG x5 (
 aH x1) (
 aI (fun x6=>.tup [(ag d9) x6.1,vI x6.2.1,vI x6.2.2]) (fun x6=>[]) (dW a0 a1) fun x6=>
 aA vB (!decide (x6.2.2=(0:Int))) fun x7=>
 aG x7 (
 aG x1 (
 aI vB (fun x8=>[.box [vS x6.1.Name,vS x6.1.E.S.Name,sl aB x6.1.E.S.M,vI x6.1.E.Op,vI x6.1.E.V,vI x6.1.For,vI x6.1.Keep,sl aD x6.1.Labels]]) (iM x6.1 (⟨([]:Str),(⟨(⟨([]:Str),([]:(List a8))⟩:bM),(0:Int),(0:Int)⟩:bF),(0:Int),(0:Int),([]:(List aJ))⟩:aZ)) fun x8=>
 aA vI ((a0.length:Int)) fun x9=>
 aA vB (decide (x6.2.1≤x9)) fun x10=>
 aA vB (bif x8 then x10 else false) fun x11=>
 aA vI ((a0.length:Int)) fun x12=>
 aG x11 (
 aA vI (min a1 x12) fun x13=>
 aA vB (decide (x13≤x6.2.1)) fun x14=>
 aA vB (decide (x6.2.2=(3:Int))) fun x15=>
 aA vI ((a0.length:Int)) fun x16=>
 aA vB (decide (x6.2.1=x16)) fun x17=>
 aG x14 (
 aA vB (x15 == x17) fun x18=>
 aH x18) (
 aH false)) (
 aA vB (decide (x6.2.2=(3:Int))) fun x19=>
 aA vI ((a0.length:Int)) fun x20=>
 aA vB (decide (x6.2.1=x20)) fun x21=>
 aH false)) (
 aA vI ((a0.length:Int)) fun x22=>
 aA vB (decide (x6.2.1≤x22)) fun x23=>
 aA vI ((a0.length:Int)) fun x24=>
 aA vB (decide (x6.2.2=(3:Int))) fun x25=>
 aA vI ((a0.length:Int)) fun x26=>
 aA vB (decide (x6.2.1=x26)) fun x27=>
 aH false)) (
 aI vS (fun x28=>[.box [vS x6.1.Name,vS x6.1.E.S.Name,sl aB x6.1.E.S.M,vI x6.1.E.Op,vI x6.1.E.V,vI x6.1.For,vI x6.1.Keep,sl aD x6.1.Labels]]) (dQ x6.1) fun x28=>
 aI (fun x29=>.tup [so 1 aF x29.1,vI x29.2.1,vI x29.2.2]) (fun x29=>[.box [vS x6.1.Name,vS x6.1.E.S.Name,sl aB x6.1.E.S.M,vI x6.1.E.Op,vI x6.1.E.V,vI x6.1.For,vI x6.1.Keep,sl aD x6.1.Labels],tk x29.1.length 3 53]) (lK x28) fun x29=>
 aI (fun x30=>.tup [(ag d9) x30.1,vI x30.2.1,vI x30.2.2]) (fun x30=>[.box [vS x6.1.Name,vS x6.1.E.S.Name,sl aB x6.1.E.S.M,vI x6.1.E.Op,vI x6.1.E.V,vI x6.1.For,vI x6.1.Keep,sl aD x6.1.Labels],.tok x29.1.length 3 53 false]) (dW x29.1 (0:Int)) fun x30=>
 aG x1 (
 aI vB (fun x31=>[.box [vS x6.1.Name,vS x6.1.E.S.Name,sl aB x6.1.E.S.M,vI x6.1.E.Op,vI x6.1.E.V,vI x6.1.For,vI x6.1.Keep,sl aD x6.1.Labels],.tok x29.1.length 3 53 false,.box [vS x30.1.Name,vS x30.1.E.S.Name,sl aB x30.1.E.S.M,vI x30.1.E.Op,vI x30.1.E.V,vI x30.1.For,vI x30.1.Keep,sl aD x30.1.Labels]]) (eM x6.1) fun x31=>
 aA vI (wI (a1 + (6:Int))) fun x32=>
 aA vB (decide (x32 < x6.2.1)) fun x33=>
 aA vB (bif x31 then x33 else false) fun x34=>
 aA vI ((a0.length:Int)) fun x35=>
 aA vB (decide (x6.2.1≤x35)) fun x36=>
 aA vB (bif x34 then x36 else false) fun x37=>
 aA vB (decide (x29.2.2=(0:Int))) fun x38=>
 aA vB (bif x37 then x38 else false) fun x39=>
 aA vB (decide (x30.2.2=(0:Int))) fun x40=>
 aA vB (bif x39 then x40 else false) fun x41=>
 aA vI ((x29.1.length:Int)) fun x42=>
 aA vB (decide (x30.2.1=x42)) fun x43=>
 aA vB (bif x41 then x43 else false) fun x44=>
 aG x44 (
 aI vB (fun x45=>[.box [vS x6.1.Name,vS x6.1.E.S.Name,sl aB x6.1.E.S.M,vI x6.1.E.Op,vI x6.1.E.V,vI x6.1.For,vI x6.1.Keep,sl aD x6.1.Labels],.tok x29.1.length 3 53 false,.box [vS x30.1.Name,vS x30.1.E.S.Name,sl aB x30.1.E.S.M,vI x30.1.E.Op,vI x30.1.E.V,vI x30.1.For,vI x30.1.Keep,sl aD x30.1.Labels]]) (iM x30.1 x6.1) fun x45=>
 aG x45 (
 aI vS (fun x46=>[.box [vS x6.1.Name,vS x6.1.E.S.Name,sl aB x6.1.E.S.M,vI x6.1.E.Op,vI x6.1.E.V,vI x6.1.For,vI x6.1.Keep,sl aD x6.1.Labels],.tok x29.1.length 3 53 false,.box [vS x30.1.Name,vS x30.1.E.S.Name,sl aB x30.1.E.S.M,vI x30.1.E.Op,vI x30.1.E.V,vI x30.1.For,vI x30.1.Keep,sl aD x30.1.Labels]]) (dQ x30.1) fun x46=>
 aA vB (decide (x46=x28)) fun x47=>
 aH x47) (
 aH false)) (
 aH false)) (
 aA vI (wI (a1 + (6:Int))) fun x48=>
 aA vB (decide (x48 < x6.2.1)) fun x49=>
 aA vI ((a0.length:Int)) fun x50=>
 aA vB (decide (x6.2.1≤x50)) fun x51=>
 aA vB (decide (x29.2.2=(0:Int))) fun x52=>
 aA vB (decide (x30.2.2=(0:Int))) fun x53=>
 aA vI ((x29.1.length:Int)) fun x54=>
 aA vB (decide (x30.2.1=x54)) fun x55=>
 aH false)))
def law10_RuleNames (a0:aZ) (a1:Int) (a2:Str):Option (Bool) :=
 aI vB (fun x1=>[.box [vS a0.Name,vS a0.E.S.Name,sl aB a0.E.S.M,vI a0.E.Op,vI a0.E.V,vI a0.For,vI a0.Keep,sl aD a0.Labels]]) (law10_awake) fun x1=>
 aI vB (fun x2=>[.box [vS a0.Name,vS a0.E.S.Name,sl aB a0.E.S.M,vI a0.E.Op,vI a0.E.V,vI a0.For,vI a0.Keep,sl aD a0.Labels]]) (kV a0) fun x2=>
 aA vB (!x2) fun x3=>
 aA vI ((a2.length:Int)) fun x4=>
 aA vB (decide ((64:Int) < x4)) fun x5=>
 aA vB (bif x3 then true else x5) fun x6=>
 aG x6 (
 aH x1) (
 aI vB (fun x7=>[.box [vS a0.Name,vS a0.E.S.Name,sl aB a0.E.S.M,vI a0.E.Op,vI a0.E.V,vI a0.For,vI a0.Keep,sl aD a0.Labels]]) (eM a0) fun x7=>
 aA vB (!x7) fun x8=>
 aG x8 (
 aH x1) (
 aA vI ((a0.Labels.length:Int)) fun x9=>
 aA vB (decide ((16:Int)≤x9)) fun x10=>
 aG x10 (
 aH x1) (
 aA (sx cS) ([([95,95,110,97,109,101,95,95]:Str),([97,108,101,114,116,110,97,109,101]:Str),([97,108,101,114,116,115,116,97,116,101]:Str)]:(List Str)) fun x11=>
 aA vI (FN .i64 a1 (65535:Int)) fun x12=>
 aA vI (Int.tmod x12 (3:Int)) fun x13=>
 bG x11 x13 fun x14=>
 Ce 11 2 47<|
 bK (fun (x15:(List aJ) × Bool × Int)=>[(2,vS a2),(3,.ptr 0 0),(7,vB x1),(9,vS x14),(10,.ptr 1 0),(11,so 2 aD x15.1),(12,vB x15.2.1),(13,vI x15.2.2)]) (fun (x15:(List aJ) × Bool × Int)=>[.box [vS a0.Name,vS a0.E.S.Name,sl aB a0.E.S.M,vI a0.E.Op,vI a0.E.V,vI a0.For,vI a0.Keep,sl aD a0.Labels],.box [vS a0.Name,vS a0.E.S.Name,sl aB a0.E.S.M,vI a0.E.Op,vI a0.E.V,vI a0.For,vI a0.Keep,sl aD a0.Labels],tk x15.1.length 2 47]) (fun (x15:(List aJ) × Bool × Int)=>
 aA vI ((a0.Labels.length:Int)) fun x16=>
 aA vB (decide (x15.2.2 < x16)) fun x17=>
 aG x17 (
 aA vB (!x15.2.1) fun x18=>
 aG x18 (
 bG a0.Labels x15.2.2 fun x19=>
 aA vB (ltS x14 x19.Name) fun x20=>
 aG x20 (
 aA (sx aD) ([(⟨x14,a2⟩:aJ)]:(List aJ)) fun x21=>
 gdM ((x15.1.length + x21.length) * 32≤140737488355328)<|
 dT (so 2 aD) (fun x22=>[.box [vS a0.Name,vS a0.E.S.Name,sl aB a0.E.S.M,vI a0.E.Op,vI a0.E.V,vI a0.For,vI a0.Keep,sl aD a0.Labels],.box [vS a0.Name,vS a0.E.S.Name,sl aB a0.E.S.M,vI a0.E.Op,vI a0.E.V,vI a0.For,vI a0.Keep,sl aD a0.Labels],tk x22.length 2 47]) (x15.1 ++ x21) fun x22=>
 aA (sx aD) ([x19]:(List aJ)) fun x23=>
 gdM ((x22.length + x23.length) * 32≤140737488355328)<|
 dT (so 2 aD) (fun x24=>[.box [vS a0.Name,vS a0.E.S.Name,sl aB a0.E.S.M,vI a0.E.Op,vI a0.E.V,vI a0.For,vI a0.Keep,sl aD a0.Labels],.box [vS a0.Name,vS a0.E.S.Name,sl aB a0.E.S.M,vI a0.E.Op,vI a0.E.V,vI a0.For,vI a0.Keep,sl aD a0.Labels],tk x24.length 2 47]) (x22 ++ x23) fun x24=>
 aA vI (wI (x15.2.2 + (1:Int))) fun x25=>
 aU (x24,true,x25)) (
 aA (sx aD) ([x19]:(List aJ)) fun x26=>
 gdM ((x15.1.length + x26.length) * 32≤140737488355328)<|
 dT (so 2 aD) (fun x27=>[.box [vS a0.Name,vS a0.E.S.Name,sl aB a0.E.S.M,vI a0.E.Op,vI a0.E.V,vI a0.For,vI a0.Keep,sl aD a0.Labels],.box [vS a0.Name,vS a0.E.S.Name,sl aB a0.E.S.M,vI a0.E.Op,vI a0.E.V,vI a0.For,vI a0.Keep,sl aD a0.Labels],tk x27.length 2 47]) (x15.1 ++ x26) fun x27=>
 aA vI (wI (x15.2.2 + (1:Int))) fun x28=>
 aU (x27,x15.2.1,x28))) (
 bG a0.Labels x15.2.2 fun x29=>
 aA (sx aD) ([x29]:(List aJ)) fun x30=>
 gdM ((x15.1.length + x30.length) * 32≤140737488355328)<|
 dT (so 2 aD) (fun x31=>[.box [vS a0.Name,vS a0.E.S.Name,sl aB a0.E.S.M,vI a0.E.Op,vI a0.E.V,vI a0.For,vI a0.Keep,sl aD a0.Labels],.box [vS a0.Name,vS a0.E.S.Name,sl aB a0.E.S.M,vI a0.E.Op,vI a0.E.V,vI a0.For,vI a0.Keep,sl aD a0.Labels],tk x31.length 2 47]) (x15.1 ++ x30) fun x31=>
 aA vI (wI (x15.2.2 + (1:Int))) fun x32=>
 aU (x31,x15.2.1,x32))) (
 aY<|
 aA vB (!x15.2.1) fun x33=>
 aG x33 (
 aA (sx aD) ([(⟨x14,a2⟩:aJ)]:(List aJ)) fun x34=>
 gdM ((x15.1.length + x34.length) * 32≤140737488355328)<|
 dT (so 2 aD) (fun x35=>[.box [vS a0.Name,vS a0.E.S.Name,sl aB a0.E.S.M,vI a0.E.Op,vI a0.E.V,vI a0.For,vI a0.Keep,sl aD a0.Labels],.box [vS a0.Name,vS a0.E.S.Name,sl aB a0.E.S.M,vI a0.E.Op,vI a0.E.V,vI a0.For,vI a0.Keep,sl aD a0.Labels],tk x35.length 2 47]) (x15.1 ++ x34) fun x35=>
 aG x1 (
 aI vB (fun x36=>[.box [vS a0.Name,vS a0.E.S.Name,sl aB a0.E.S.M,vI a0.E.Op,vI a0.E.V,vI a0.For,vI a0.Keep,sl aD a0.Labels],.box [vS a0.Name,vS a0.E.S.Name,sl aB a0.E.S.M,vI a0.E.Op,vI a0.E.V,vI a0.For,vI a0.Keep,so 2 aD x35],.tok x35.length 2 47 false,.box [vS a0.Name,vS a0.E.S.Name,sl aB a0.E.S.M,vI a0.E.Op,vI a0.E.V,vI a0.For,vI a0.Keep,.v (.slice none 0 0)]]) (eM (⟨a0.Name,a0.E,a0.For,a0.Keep,x35⟩:aZ)) fun x36=>
 aA vB (!x36) fun x37=>
 aG x37 (
 aI vS (fun x38=>[.box [vS a0.Name,vS a0.E.S.Name,sl aB a0.E.S.M,vI a0.E.Op,vI a0.E.V,vI a0.For,vI a0.Keep,sl aD a0.Labels],.box [vS a0.Name,vS a0.E.S.Name,sl aB a0.E.S.M,vI a0.E.Op,vI a0.E.V,vI a0.For,vI a0.Keep,so 2 aD x35],.tok x35.length 2 47 false,.box [vS a0.Name,vS a0.E.S.Name,sl aB a0.E.S.M,vI a0.E.Op,vI a0.E.V,vI a0.For,vI a0.Keep,.v (.slice none 0 0)]]) (dQ (⟨a0.Name,a0.E,a0.For,a0.Keep,x35⟩:aZ)) fun x38=>
 aA vB (decide (x38=([]:Str))) fun x39=>
 aG x39 (
 aI vB (fun x40=>[.box [vS a0.Name,vS a0.E.S.Name,sl aB a0.E.S.M,vI a0.E.Op,vI a0.E.V,vI a0.For,vI a0.Keep,sl aD a0.Labels],.box [vS a0.Name,vS a0.E.S.Name,sl aB a0.E.S.M,vI a0.E.Op,vI a0.E.V,vI a0.For,vI a0.Keep,so 2 aD x35],.tok x35.length 2 47 false,.box [vS a0.Name,vS a0.E.S.Name,sl aB a0.E.S.M,vI a0.E.Op,vI a0.E.V,vI a0.For,vI a0.Keep,.v (.slice none 0 0)]]) (eZ x14) fun x40=>
 aG x40 (
 aI vB (fun x41=>[.box [vS a0.Name,vS a0.E.S.Name,sl aB a0.E.S.M,vI a0.E.Op,vI a0.E.V,vI a0.For,vI a0.Keep,sl aD a0.Labels],.box [vS a0.Name,vS a0.E.S.Name,sl aB a0.E.S.M,vI a0.E.Op,vI a0.E.V,vI a0.For,vI a0.Keep,so 2 aD x35],.tok x35.length 2 47 false,.box [vS a0.Name,vS a0.E.S.Name,sl aB a0.E.S.M,vI a0.E.Op,vI a0.E.V,vI a0.For,vI a0.Keep,.v (.slice none 0 0)]]) (eM (⟨a0.Name,a0.E,a0.For,a0.Keep,([]:(List aJ))⟩:aZ)) fun x41=>
 aG x41 (
 aI vS (fun x42=>[.box [vS a0.Name,vS a0.E.S.Name,sl aB a0.E.S.M,vI a0.E.Op,vI a0.E.V,vI a0.For,vI a0.Keep,sl aD a0.Labels],.box [vS a0.Name,vS a0.E.S.Name,sl aB a0.E.S.M,vI a0.E.Op,vI a0.E.V,vI a0.For,vI a0.Keep,so 2 aD x35],.tok x35.length 2 47 false,.box [vS a0.Name,vS a0.E.S.Name,sl aB a0.E.S.M,vI a0.E.Op,vI a0.E.V,vI a0.For,vI a0.Keep,.v (.slice none 0 0)]]) (dQ (⟨a0.Name,a0.E,a0.For,a0.Keep,([]:(List aJ))⟩:aZ)) fun x42=>
 aA vB (!decide (x42=([]:Str))) fun x43=>
 aH x43) (
 aH false)) (
 aH false)) (
 aH false)) (
 aH false)) (
 aH false)) (
 aG x1 (
 aI vB (fun x44=>[.box [vS a0.Name,vS a0.E.S.Name,sl aB a0.E.S.M,vI a0.E.Op,vI a0.E.V,vI a0.For,vI a0.Keep,sl aD a0.Labels],.box [vS a0.Name,vS a0.E.S.Name,sl aB a0.E.S.M,vI a0.E.Op,vI a0.E.V,vI a0.For,vI a0.Keep,so 2 aD x15.1],.tok x15.1.length 2 47 false,.box [vS a0.Name,vS a0.E.S.Name,sl aB a0.E.S.M,vI a0.E.Op,vI a0.E.V,vI a0.For,vI a0.Keep,.v (.slice none 0 0)]]) (eM (⟨a0.Name,a0.E,a0.For,a0.Keep,x15.1⟩:aZ)) fun x44=>
 aA vB (!x44) fun x45=>
 aG x45 (
 aI vS (fun x46=>[.box [vS a0.Name,vS a0.E.S.Name,sl aB a0.E.S.M,vI a0.E.Op,vI a0.E.V,vI a0.For,vI a0.Keep,sl aD a0.Labels],.box [vS a0.Name,vS a0.E.S.Name,sl aB a0.E.S.M,vI a0.E.Op,vI a0.E.V,vI a0.For,vI a0.Keep,so 2 aD x15.1],.tok x15.1.length 2 47 false,.box [vS a0.Name,vS a0.E.S.Name,sl aB a0.E.S.M,vI a0.E.Op,vI a0.E.V,vI a0.For,vI a0.Keep,.v (.slice none 0 0)]]) (dQ (⟨a0.Name,a0.E,a0.For,a0.Keep,x15.1⟩:aZ)) fun x46=>
 aA vB (decide (x46=([]:Str))) fun x47=>
 aG x47 (
 aI vB (fun x48=>[.box [vS a0.Name,vS a0.E.S.Name,sl aB a0.E.S.M,vI a0.E.Op,vI a0.E.V,vI a0.For,vI a0.Keep,sl aD a0.Labels],.box [vS a0.Name,vS a0.E.S.Name,sl aB a0.E.S.M,vI a0.E.Op,vI a0.E.V,vI a0.For,vI a0.Keep,so 2 aD x15.1],.tok x15.1.length 2 47 false,.box [vS a0.Name,vS a0.E.S.Name,sl aB a0.E.S.M,vI a0.E.Op,vI a0.E.V,vI a0.For,vI a0.Keep,.v (.slice none 0 0)]]) (eZ x14) fun x48=>
 aG x48 (
 aI vB (fun x49=>[.box [vS a0.Name,vS a0.E.S.Name,sl aB a0.E.S.M,vI a0.E.Op,vI a0.E.V,vI a0.For,vI a0.Keep,sl aD a0.Labels],.box [vS a0.Name,vS a0.E.S.Name,sl aB a0.E.S.M,vI a0.E.Op,vI a0.E.V,vI a0.For,vI a0.Keep,so 2 aD x15.1],.tok x15.1.length 2 47 false,.box [vS a0.Name,vS a0.E.S.Name,sl aB a0.E.S.M,vI a0.E.Op,vI a0.E.V,vI a0.For,vI a0.Keep,.v (.slice none 0 0)]]) (eM (⟨a0.Name,a0.E,a0.For,a0.Keep,([]:(List aJ))⟩:aZ)) fun x49=>
 aG x49 (
 aI vS (fun x50=>[.box [vS a0.Name,vS a0.E.S.Name,sl aB a0.E.S.M,vI a0.E.Op,vI a0.E.V,vI a0.For,vI a0.Keep,sl aD a0.Labels],.box [vS a0.Name,vS a0.E.S.Name,sl aB a0.E.S.M,vI a0.E.Op,vI a0.E.V,vI a0.For,vI a0.Keep,so 2 aD x15.1],.tok x15.1.length 2 47 false,.box [vS a0.Name,vS a0.E.S.Name,sl aB a0.E.S.M,vI a0.E.Op,vI a0.E.V,vI a0.For,vI a0.Keep,.v (.slice none 0 0)]]) (dQ (⟨a0.Name,a0.E,a0.For,a0.Keep,([]:(List aJ))⟩:aZ)) fun x50=>
 aA vB (!decide (x50=([]:Str))) fun x51=>
 aH x51) (
 aH false)) (
 aH false)) (
 aH false)) (
 aH false)) (
 aH false)))) (([]:List aJ),false,(0:Int)))))
def law10_RuleApart (a0:aZ) (a1:aZ) (a2:Int):Option (Bool) :=
 aI vB (fun x1=>[.box [vS a0.Name,vS a0.E.S.Name,sl aB a0.E.S.M,vI a0.E.Op,vI a0.E.V,vI a0.For,vI a0.Keep,sl aD a0.Labels],.box [vS a1.Name,vS a1.E.S.Name,sl aB a1.E.S.M,vI a1.E.Op,vI a1.E.V,vI a1.For,vI a1.Keep,sl aD a1.Labels]]) (law10_awake) fun x1=>
 aI vB (fun x2=>[.box [vS a0.Name,vS a0.E.S.Name,sl aB a0.E.S.M,vI a0.E.Op,vI a0.E.V,vI a0.For,vI a0.Keep,sl aD a0.Labels],.box [vS a1.Name,vS a1.E.S.Name,sl aB a1.E.S.M,vI a1.E.Op,vI a1.E.V,vI a1.For,vI a1.Keep,sl aD a1.Labels]]) (kV a0) fun x2=>
 aA vB (!x2) fun x3=>
 aG x3 (
 aH x1) (
 aI vB (fun x4=>[.box [vS a0.Name,vS a0.E.S.Name,sl aB a0.E.S.M,vI a0.E.Op,vI a0.E.V,vI a0.For,vI a0.Keep,sl aD a0.Labels],.box [vS a1.Name,vS a1.E.S.Name,sl aB a1.E.S.M,vI a1.E.Op,vI a1.E.V,vI a1.For,vI a1.Keep,sl aD a1.Labels]]) (kV a1) fun x4=>
 aA vB (!x4) fun x5=>
 aG x5 (
 aH x1) (
 aI vB (fun x6=>[.box [vS a0.Name,vS a0.E.S.Name,sl aB a0.E.S.M,vI a0.E.Op,vI a0.E.V,vI a0.For,vI a0.Keep,sl aD a0.Labels],.box [vS a1.Name,vS a1.E.S.Name,sl aB a1.E.S.M,vI a1.E.Op,vI a1.E.V,vI a1.For,vI a1.Keep,sl aD a1.Labels]]) (eM a0) fun x6=>
 aA vB (!x6) fun x7=>
 aG x7 (
 aH x1) (
 aI vB (fun x8=>[.box [vS a0.Name,vS a0.E.S.Name,sl aB a0.E.S.M,vI a0.E.Op,vI a0.E.V,vI a0.For,vI a0.Keep,sl aD a0.Labels],.box [vS a1.Name,vS a1.E.S.Name,sl aB a1.E.S.M,vI a1.E.Op,vI a1.E.V,vI a1.For,vI a1.Keep,sl aD a1.Labels]]) (eM a1) fun x8=>
 aA vB (!x8) fun x9=>
 aG x9 (
 aH x1) (
 aI vS (fun x10=>[.box [vS a0.Name,vS a0.E.S.Name,sl aB a0.E.S.M,vI a0.E.Op,vI a0.E.V,vI a0.For,vI a0.Keep,sl aD a0.Labels],.box [vS a1.Name,vS a1.E.S.Name,sl aB a1.E.S.M,vI a1.E.Op,vI a1.E.V,vI a1.For,vI a1.Keep,sl aD a1.Labels],.box [vS a0.Name,vS a0.E.S.Name,sl aB a0.E.S.M,vI a0.E.Op,vI a0.E.V,vI a2,vI a0.Keep,sl aD a0.Labels],.box [vS a0.Name,vS a0.E.S.Name,sl aB a0.E.S.M,vI a0.E.Op,vI a0.E.V,vI a0.For,vI a2,sl aD a0.Labels]]) (dQ a0) fun x10=>
 fS<|
 aG x1 (
 aI vS (fun x11=>[.box [vS a0.Name,vS a0.E.S.Name,sl aB a0.E.S.M,vI a0.E.Op,vI a0.E.V,vI a0.For,vI a0.Keep,sl aD a0.Labels],.box [vS a1.Name,vS a1.E.S.Name,sl aB a1.E.S.M,vI a1.E.Op,vI a1.E.V,vI a1.For,vI a1.Keep,sl aD a1.Labels],.box [vS a0.Name,vS a0.E.S.Name,sl aB a0.E.S.M,vI a0.E.Op,vI a0.E.V,vI a2,vI a0.Keep,sl aD a0.Labels],.box [vS a0.Name,vS a0.E.S.Name,sl aB a0.E.S.M,vI a0.E.Op,vI a0.E.V,vI a0.For,vI a2,sl aD a0.Labels]]) (dQ a1) fun x11=>
 aA vB (decide (x10=x11)) fun x12=>
 aI vB (fun x13=>[.box [vS a0.Name,vS a0.E.S.Name,sl aB a0.E.S.M,vI a0.E.Op,vI a0.E.V,vI a0.For,vI a0.Keep,sl aD a0.Labels],.box [vS a1.Name,vS a1.E.S.Name,sl aB a1.E.S.M,vI a1.E.Op,vI a1.E.V,vI a1.For,vI a1.Keep,sl aD a1.Labels],.box [vS a0.Name,vS a0.E.S.Name,sl aB a0.E.S.M,vI a0.E.Op,vI a0.E.V,vI a2,vI a0.Keep,sl aD a0.Labels],.box [vS a0.Name,vS a0.E.S.Name,sl aB a0.E.S.M,vI a0.E.Op,vI a0.E.V,vI a0.For,vI a2,sl aD a0.Labels]]) (iM a0 a1) fun x13=>
 aA vB (x12 == x13) fun x14=>
 aG x14 (
 aI vS (fun x15=>[.box [vS a0.Name,vS a0.E.S.Name,sl aB a0.E.S.M,vI a0.E.Op,vI a0.E.V,vI a0.For,vI a0.Keep,sl aD a0.Labels],.box [vS a1.Name,vS a1.E.S.Name,sl aB a1.E.S.M,vI a1.E.Op,vI a1.E.V,vI a1.For,vI a1.Keep,sl aD a1.Labels],.box [vS a0.Name,vS a0.E.S.Name,sl aB a0.E.S.M,vI a0.E.Op,vI a0.E.V,vI a2,vI a0.Keep,sl aD a0.Labels],.box [vS a0.Name,vS a0.E.S.Name,sl aB a0.E.S.M,vI a0.E.Op,vI a0.E.V,vI a0.For,vI a2,sl aD a0.Labels]]) (dQ (⟨a0.Name,a0.E,a2,a0.Keep,a0.Labels⟩:aZ)) fun x15=>
 aA vB (decide (x15=x10)) fun x16=>
 aA vB (decide (a0.For=a2)) fun x17=>
 aA vB (x16 == x17) fun x18=>
 aG x18 (
 aI vS (fun x19=>[.box [vS a0.Name,vS a0.E.S.Name,sl aB a0.E.S.M,vI a0.E.Op,vI a0.E.V,vI a0.For,vI a0.Keep,sl aD a0.Labels],.box [vS a1.Name,vS a1.E.S.Name,sl aB a1.E.S.M,vI a1.E.Op,vI a1.E.V,vI a1.For,vI a1.Keep,sl aD a1.Labels],.box [vS a0.Name,vS a0.E.S.Name,sl aB a0.E.S.M,vI a0.E.Op,vI a0.E.V,vI a2,vI a0.Keep,sl aD a0.Labels],.box [vS a0.Name,vS a0.E.S.Name,sl aB a0.E.S.M,vI a0.E.Op,vI a0.E.V,vI a0.For,vI a2,sl aD a0.Labels]]) (dQ (⟨a0.Name,a0.E,a0.For,a2,a0.Labels⟩:aZ)) fun x19=>
 aA vB (decide (x19=x10)) fun x20=>
 aA vB (decide (a0.Keep=a2)) fun x21=>
 aA vB (x20 == x21) fun x22=>
 aH x22) (
 aH false)) (
 aH false)) (
 aH false)))))
end
end Go.Proofs.YtgkmbhllcekagaaGreatDoor.AM
